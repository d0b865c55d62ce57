/- The compiled statements of the functions that the law reaches. -/
import Derived.Test.YtmkchadpehdhjaaProg
import Derived.Test.YtmkchadpehdhjaaAmAuto
import Derived.Test.YtmkchadpehdhjaaAmSet
namespace Go.Proofs.Wb
open Go Go.Am
@[go_sem] theorem w_7 : wide Try.prog 7 = some (some 4) := by kernel_rfl
@[go_sem] theorem w_8 : wide Try.prog 8 = some (some 4) := by kernel_rfl
@[go_sem] theorem w_13 : wide Try.prog 13 = some (some 2) := by kernel_rfl
@[go_sem] theorem w_14 : wide Try.prog 14 = some (some 2) := by kernel_rfl
@[go_sem] theorem w_18 : wide Try.prog 18 = some (some 1) := by kernel_rfl
@[go_sem] theorem w_19 : wide Try.prog 19 = some (some 1) := by kernel_rfl
@[go_sem] theorem w_24 : wide Try.prog 24 = some (some 1) := by kernel_rfl
@[go_sem] theorem w_25 : wide Try.prog 25 = some (some 1) := by kernel_rfl
@[go_sem] theorem w_28 : wide Try.prog 28 = some (some 2) := by kernel_rfl
@[go_sem] theorem w_29 : wide Try.prog 29 = some (some 2) := by kernel_rfl
@[go_sem] theorem w_51 : wide Try.prog 51 = some (some 3) := by kernel_rfl
@[go_sem] theorem w_52 : wide Try.prog 52 = some (some 3) := by kernel_rfl
@[go_sem] theorem w_73 : wide Try.prog 73 = some (some 4) := by kernel_rfl
@[go_sem] theorem w_74 : wide Try.prog 74 = some (some 4) := by kernel_rfl
@[go_sem] theorem w_85 : wide Try.prog 85 = some (some 11) := by kernel_rfl
@[go_sem] theorem w_86 : wide Try.prog 86 = some (some 11) := by kernel_rfl
-- 3 loop.example/g00850/laws.FnMeetings
abbrev n_laws_FnMeetings : Nat := 3
def c_laws_FnMeetings : AS :=
  .seq (.ops [⟨(some 4), none, .mv (.const (.bool false))⟩])
  (.seq (.seq (.ops [⟨(some 40), none, .mv (.tmp 0)⟩,
    ⟨(some 41), none, .mv (.tmp 1)⟩,
    ⟨(some 42), none, .call 5 [(.tmp 40), (.tmp 41)]⟩])
  (.cond (.tmp 42) (.seq (.ops [⟨(some 4), none, .mv (.const (.bool true))⟩])
  (.ret)) (.skip)))
  (.seq (.ops [⟨(some 44), none, .mv (.tmp 0)⟩,
    ⟨(some 45), none, .call 6 [(.tmp 44)]⟩,
    ⟨(some 43), none, .mv (.tmp 45)⟩,
    ⟨(some 46), none, .ext 0 (.tmp 43)⟩,
    ⟨(some 47), none, .ext 1 (.tmp 43)⟩,
    ⟨(some 5), none, .alloc (.agg #[.int .i64 0])⟩,
    ⟨none, none, .store 1 (.tmp 5) (.tmp 46)⟩,
    ⟨(some 6), none, .mv (.tmp 47)⟩])
  (.seq (.ops [⟨(some 49), none, .mv (.tmp 1)⟩,
    ⟨(some 50), none, .call 6 [(.tmp 49)]⟩,
    ⟨(some 48), none, .mv (.tmp 50)⟩,
    ⟨(some 51), none, .ext 0 (.tmp 48)⟩,
    ⟨(some 52), none, .ext 1 (.tmp 48)⟩,
    ⟨(some 7), none, .alloc (.agg #[.int .i64 0])⟩,
    ⟨none, none, .store 1 (.tmp 7) (.tmp 51)⟩,
    ⟨(some 8), none, .mv (.tmp 52)⟩])
  (.kept [1, 5, 6, 7] (.seq (.ops [⟨(some 54), none, .load (some 1) (.tmp 5)⟩,
    ⟨(some 55), none, .mv (.tmp 6)⟩,
    ⟨(some 56), none, .call 7 [(.tmp 54), (.tmp 55)]⟩,
    ⟨(some 53), none, .mv (.tmp 56)⟩,
    ⟨(some 57), none, .ext 0 (.tmp 53)⟩,
    ⟨(some 58), none, .ext 1 (.tmp 53)⟩,
    ⟨(some 9), none, .alloc (.agg #[.int .i64 0, .int .i64 0])⟩,
    ⟨none, none, .store 2 (.tmp 9) (.tmp 57)⟩,
    ⟨(some 10), none, .mv (.tmp 58)⟩])
  (.kept [1, 6, 7, 9, 10] (.seq (.ops [⟨(some 60), none, .load (some 1) (.tmp 7)⟩,
    ⟨(some 61), none, .mv (.tmp 6)⟩,
    ⟨(some 62), none, .call 7 [(.tmp 60), (.tmp 61)]⟩,
    ⟨(some 59), none, .mv (.tmp 62)⟩,
    ⟨(some 63), none, .ext 0 (.tmp 59)⟩,
    ⟨(some 64), none, .ext 1 (.tmp 59)⟩,
    ⟨(some 11), none, .alloc (.agg #[.int .i64 0, .int .i64 0])⟩,
    ⟨none, none, .store 2 (.tmp 11) (.tmp 63)⟩,
    ⟨(some 12), none, .mv (.tmp 64)⟩])
  (.kept [1, 6, 9, 10, 11, 12] (.seq (.seq (.ops [⟨(some 65), none, .mv (.tmp 10)⟩,
    ⟨(some 66), none, .mv (.tmp 65)⟩,
    ⟨(some 67), some (66, true), .mv (.tmp 12)⟩,
    ⟨(some 68), none, .pick (.tmp 66) (.tmp 67) (.const (.bool false))⟩])
  (.cond (.tmp 68) (.seq (.ops [⟨(some 70), none, .load (some 2) (.tmp 9)⟩,
    ⟨(some 71), none, .load (some 2) (.tmp 11)⟩,
    ⟨(some 72), none, .bsl 2 (.agg #[.int .i64 0, .int .i64 0]) 2 [(0, (.tmp 70)), (1, (.tmp 71))]⟩,
    ⟨(some 73), none, .call 8 [(.tmp 72)]⟩,
    ⟨(some 69), none, .mv (.tmp 73)⟩,
    ⟨(some 74), none, .ext 0 (.tmp 69)⟩,
    ⟨(some 75), none, .ext 1 (.tmp 69)⟩,
    ⟨(some 13), none, .alloc (.agg #[.int .i64 0, .int .i64 0])⟩,
    ⟨none, none, .store 2 (.tmp 13) (.tmp 74)⟩,
    ⟨(some 14), none, .mv (.tmp 75)⟩])
  (.kept [1, 6, 9, 11, 13, 14] (.seq (.ops [⟨(some 77), none, .load (some 2) (.tmp 9)⟩,
    ⟨(some 78), none, .load (some 2) (.tmp 11)⟩,
    ⟨(some 79), none, .call 9 [(.tmp 77), (.tmp 78)]⟩,
    ⟨(some 76), none, .mv (.tmp 79)⟩,
    ⟨(some 80), none, .ext 0 (.tmp 76)⟩,
    ⟨(some 81), none, .ext 1 (.tmp 76)⟩,
    ⟨(some 15), none, .mv (.tmp 80)⟩,
    ⟨(some 16), none, .mv (.tmp 81)⟩])
  (.kept [1, 6, 9, 11, 13, 14, 15, 16] (.seq (.seq (.ops [⟨(some 82), none, .mv (.tmp 14)⟩,
    ⟨(some 83), none, .not (.tmp 82)⟩,
    ⟨(some 84), none, .mv (.tmp 83)⟩,
    ⟨(some 85), some (84, false), .fa 0 (.tmp 13)⟩,
    ⟨(some 86), some (84, false), .load none (.tmp 85)⟩,
    ⟨(some 87), some (84, false), .mv (.tmp 6)⟩,
    ⟨(some 88), some (84, false), .bin .gtr (.tmp 86) (.tmp 87)⟩,
    ⟨(some 89), none, .pick (.tmp 84) (.const (.bool true)) (.tmp 88)⟩,
    ⟨(some 90), none, .mv (.tmp 89)⟩,
    ⟨(some 91), some (90, false), .fa 1 (.tmp 13)⟩,
    ⟨(some 92), some (90, false), .load none (.tmp 91)⟩,
    ⟨(some 93), some (90, false), .mv (.tmp 6)⟩,
    ⟨(some 94), some (90, false), .bin .lss (.tmp 92) (.tmp 93)⟩,
    ⟨(some 95), none, .pick (.tmp 90) (.const (.bool true)) (.tmp 94)⟩,
    ⟨(some 96), none, .mv (.tmp 95)⟩,
    ⟨(some 97), some (96, false), .fa 0 (.tmp 13)⟩,
    ⟨(some 98), some (96, false), .load none (.tmp 97)⟩,
    ⟨(some 99), some (96, false), .fa 0 (.tmp 9)⟩,
    ⟨(some 100), some (96, false), .load none (.tmp 99)⟩,
    ⟨(some 101), some (96, false), .bin .lss (.tmp 98) (.tmp 100)⟩,
    ⟨(some 102), none, .pick (.tmp 96) (.const (.bool true)) (.tmp 101)⟩,
    ⟨(some 103), none, .mv (.tmp 102)⟩,
    ⟨(some 104), some (103, false), .fa 1 (.tmp 13)⟩,
    ⟨(some 105), some (103, false), .load none (.tmp 104)⟩,
    ⟨(some 106), some (103, false), .fa 1 (.tmp 11)⟩,
    ⟨(some 107), some (103, false), .load none (.tmp 106)⟩,
    ⟨(some 108), some (103, false), .bin .gtr (.tmp 105) (.tmp 107)⟩,
    ⟨(some 109), none, .pick (.tmp 103) (.const (.bool true)) (.tmp 108)⟩,
    ⟨(some 110), none, .mv (.tmp 109)⟩,
    ⟨(some 111), some (110, false), .mv (.tmp 16)⟩,
    ⟨(some 112), some (110, false), .not (.tmp 111)⟩,
    ⟨(some 113), none, .pick (.tmp 110) (.const (.bool true)) (.tmp 112)⟩,
    ⟨(some 114), none, .mv (.tmp 113)⟩,
    ⟨(some 115), some (114, false), .mv (.tmp 15)⟩,
    ⟨(some 116), none, .pick (.tmp 114) (.const (.bool true)) (.tmp 115)⟩])
  (.kept [1, 9, 11, 116] (.cond (.tmp 116) (.seq (.ops [⟨(some 4), none, .mv (.const (.bool false))⟩])
  (.ret)) (.skip))))
  (.kept [1, 9, 11] (.seq (.ops [⟨(some 118), none, .load (some 2) (.tmp 11)⟩,
    ⟨(some 119), none, .call 10 [(.tmp 118), (.const (.int .i64 21))]⟩,
    ⟨(some 117), none, .mv (.tmp 119)⟩,
    ⟨(some 120), none, .ext 0 (.tmp 117)⟩,
    ⟨(some 121), none, .ext 1 (.tmp 117)⟩,
    ⟨(some 17), none, .alloc (.agg #[.int .i64 0, .int .i64 0])⟩,
    ⟨none, none, .store 2 (.tmp 17) (.tmp 120)⟩,
    ⟨(some 18), none, .mv (.tmp 121)⟩])
  (.seq (.ops [⟨(some 123), none, .load (some 2) (.tmp 17)⟩,
    ⟨(some 124), none, .load (some 2) (.tmp 9)⟩,
    ⟨(some 125), none, .call 9 [(.tmp 123), (.tmp 124)]⟩,
    ⟨(some 122), none, .mv (.tmp 125)⟩,
    ⟨(some 126), none, .ext 0 (.tmp 122)⟩,
    ⟨(some 127), none, .ext 1 (.tmp 122)⟩,
    ⟨(some 19), none, .mv (.tmp 126)⟩,
    ⟨(some 20), none, .mv (.tmp 127)⟩])
  (.kept [1, 18, 19, 20] (.seq (.ops [⟨(some 128), none, .mv (.tmp 18)⟩,
    ⟨(some 129), none, .mv (.tmp 128)⟩,
    ⟨(some 130), some (129, true), .mv (.tmp 20)⟩,
    ⟨(some 131), some (129, true), .not (.tmp 130)⟩,
    ⟨(some 132), some (129, true), .mv (.tmp 131)⟩,
    ⟨(some 133), some (132, false), .mv (.tmp 19)⟩,
    ⟨(some 134), some (132, false), .not (.tmp 133)⟩,
    ⟨(some 135), some (129, true), .pick (.tmp 132) (.const (.bool true)) (.tmp 134)⟩,
    ⟨(some 136), none, .pick (.tmp 129) (.tmp 135) (.const (.bool false))⟩])
  (.kept [1, 136] (.cond (.tmp 136) (.seq (.ops [⟨(some 4), none, .mv (.const (.bool false))⟩])
  (.ret)) (.skip))))))))))))) (.skip)))
  (.kept [1] (.seq (.ops [⟨(some 137), none, .mv (.tmp 1)⟩,
    ⟨(some 138), none, .call 11 [(.tmp 137)]⟩,
    ⟨(some 21), none, .mv (.tmp 138)⟩])
  (.seq (.ops [⟨(some 140), none, .mv (.tmp 21)⟩,
    ⟨(some 141), none, .call 8 [(.tmp 140)]⟩,
    ⟨(some 139), none, .mv (.tmp 141)⟩,
    ⟨(some 142), none, .ext 0 (.tmp 139)⟩,
    ⟨(some 143), none, .ext 1 (.tmp 139)⟩,
    ⟨(some 22), none, .alloc (.agg #[.int .i64 0, .int .i64 0])⟩,
    ⟨none, none, .store 2 (.tmp 22) (.tmp 142)⟩,
    ⟨(some 23), none, .mv (.tmp 143)⟩])
  (.seq (.ops [⟨(some 145), none, .mv (.tmp 21)⟩,
    ⟨(some 146), none, .call 12 [(.tmp 145)]⟩,
    ⟨(some 144), none, .mv (.tmp 146)⟩,
    ⟨(some 147), none, .ext 0 (.tmp 144)⟩,
    ⟨(some 148), none, .ext 1 (.tmp 144)⟩,
    ⟨(some 24), none, .alloc (.agg #[.int .i64 0, .int .i64 0])⟩,
    ⟨none, none, .store 2 (.tmp 24) (.tmp 147)⟩,
    ⟨(some 25), none, .mv (.tmp 148)⟩])
  (.seq (.ops [⟨(some 150), none, .mv (.tmp 1)⟩,
    ⟨(some 151), none, .call 13 [(.tmp 150)]⟩,
    ⟨(some 149), none, .mv (.tmp 151)⟩,
    ⟨(some 152), none, .ext 0 (.tmp 149)⟩,
    ⟨(some 153), none, .ext 1 (.tmp 149)⟩,
    ⟨(some 26), none, .alloc (.agg #[.int .i64 0, .int .i64 0])⟩,
    ⟨(some 27), none, .alloc (.agg #[.int .i64 0, .int .i64 0])⟩,
    ⟨none, none, .store 2 (.tmp 26) (.tmp 152)⟩,
    ⟨none, none, .store 2 (.tmp 27) (.tmp 153)⟩])
  (.seq (.ops [⟨(some 155), none, .load (some 2) (.tmp 26)⟩,
    ⟨(some 156), none, .load (some 2) (.tmp 27)⟩,
    ⟨(some 157), none, .call 9 [(.tmp 155), (.tmp 156)]⟩,
    ⟨(some 154), none, .mv (.tmp 157)⟩,
    ⟨(some 158), none, .ext 0 (.tmp 154)⟩,
    ⟨(some 159), none, .ext 1 (.tmp 154)⟩,
    ⟨(some 28), none, .mv (.tmp 158)⟩,
    ⟨(some 29), none, .mv (.tmp 159)⟩])
  (.kept [1, 22, 23, 24, 25, 26, 27, 28, 29] (.seq (.ops [⟨(some 161), none, .load (some 2) (.tmp 26)⟩,
    ⟨(some 162), none, .load (some 2) (.tmp 27)⟩,
    ⟨(some 163), none, .call 14 [(.tmp 161), (.tmp 162)]⟩,
    ⟨(some 160), none, .mv (.tmp 163)⟩,
    ⟨(some 164), none, .ext 0 (.tmp 160)⟩,
    ⟨(some 165), none, .ext 1 (.tmp 160)⟩,
    ⟨(some 30), none, .mv (.tmp 164)⟩,
    ⟨(some 31), none, .mv (.tmp 165)⟩])
  (.kept [1, 22, 23, 24, 25, 26, 27, 28, 29, 30, 31] (.seq (.ops [⟨(some 167), none, .load (some 2) (.tmp 27)⟩,
    ⟨(some 168), none, .load (some 2) (.tmp 26)⟩,
    ⟨(some 169), none, .call 9 [(.tmp 167), (.tmp 168)]⟩,
    ⟨(some 166), none, .mv (.tmp 169)⟩,
    ⟨(some 170), none, .ext 0 (.tmp 166)⟩,
    ⟨(some 171), none, .ext 1 (.tmp 166)⟩,
    ⟨(some 32), none, .mv (.tmp 170)⟩,
    ⟨(some 33), none, .mv (.tmp 171)⟩])
  (.kept [1, 22, 23, 24, 25, 28, 29, 30, 31, 32, 33] (.seq (.ops [⟨(some 173), none, .mv (.tmp 1)⟩,
    ⟨(some 174), none, .call 15 [(.tmp 173)]⟩,
    ⟨(some 172), none, .mv (.tmp 174)⟩,
    ⟨(some 175), none, .ext 0 (.tmp 172)⟩,
    ⟨(some 176), none, .ext 1 (.tmp 172)⟩,
    ⟨(some 34), none, .alloc (.agg #[.int .i64 0, .int .i64 0])⟩,
    ⟨none, none, .store 2 (.tmp 34) (.tmp 175)⟩,
    ⟨(some 35), none, .mv (.tmp 176)⟩])
  (.seq (.ops [⟨(some 178), none, .load (some 2) (.tmp 34)⟩,
    ⟨(some 179), none, .mv (.tmp 35)⟩,
    ⟨(some 180), none, .call 10 [(.tmp 178), (.tmp 179)]⟩,
    ⟨(some 177), none, .mv (.tmp 180)⟩,
    ⟨(some 181), none, .ext 0 (.tmp 177)⟩,
    ⟨(some 182), none, .ext 1 (.tmp 177)⟩,
    ⟨(some 36), none, .alloc (.agg #[.int .i64 0, .int .i64 0])⟩,
    ⟨none, none, .store 2 (.tmp 36) (.tmp 181)⟩,
    ⟨(some 37), none, .mv (.tmp 182)⟩])
  (.kept [22, 23, 24, 25, 28, 29, 30, 31, 32, 33, 34, 35, 36, 37] (.seq (.ops [⟨(some 184), none, .load (some 2) (.tmp 34)⟩,
    ⟨(some 185), none, .mv (.tmp 35)⟩,
    ⟨(some 186), none, .call 16 [(.tmp 184), (.tmp 185)]⟩,
    ⟨(some 183), none, .mv (.tmp 186)⟩,
    ⟨(some 187), none, .ext 0 (.tmp 183)⟩,
    ⟨(some 188), none, .ext 1 (.tmp 183)⟩,
    ⟨(some 38), none, .alloc (.agg #[.int .i64 0, .int .i64 0])⟩,
    ⟨none, none, .store 2 (.tmp 38) (.tmp 187)⟩,
    ⟨(some 39), none, .mv (.tmp 188)⟩])
  (.kept [22, 23, 24, 25, 28, 29, 30, 31, 32, 33, 36, 37, 38, 39] (.seq (.ops [⟨(some 189), none, .mv (.tmp 23)⟩,
    ⟨(some 190), none, .mv (.tmp 25)⟩,
    ⟨(some 191), none, .eqb false (.tmp 189) (.tmp 190)⟩,
    ⟨(some 192), none, .mv (.tmp 191)⟩,
    ⟨(some 193), some (192, true), .load (some 2) (.tmp 22)⟩,
    ⟨(some 194), some (192, true), .load (some 2) (.tmp 24)⟩,
    ⟨(some 195), some (192, true), .eqs false [(0, 0), (1, 0)] (.tmp 193) (.tmp 194)⟩,
    ⟨(some 196), none, .pick (.tmp 192) (.tmp 195) (.const (.bool false))⟩,
    ⟨(some 197), none, .mv (.tmp 196)⟩,
    ⟨(some 198), some (197, true), .mv (.tmp 29)⟩,
    ⟨(some 199), some (197, true), .mv (.tmp 31)⟩,
    ⟨(some 200), some (197, true), .eqb false (.tmp 198) (.tmp 199)⟩,
    ⟨(some 201), none, .pick (.tmp 197) (.tmp 200) (.const (.bool false))⟩,
    ⟨(some 202), none, .mv (.tmp 201)⟩,
    ⟨(some 203), some (202, true), .mv (.tmp 28)⟩,
    ⟨(some 204), some (202, true), .mv (.tmp 30)⟩,
    ⟨(some 205), some (202, true), .eqb false (.tmp 203) (.tmp 204)⟩,
    ⟨(some 206), none, .pick (.tmp 202) (.tmp 205) (.const (.bool false))⟩,
    ⟨(some 207), none, .mv (.tmp 206)⟩,
    ⟨(some 208), some (207, true), .mv (.tmp 33)⟩,
    ⟨(some 209), some (207, true), .mv (.tmp 29)⟩,
    ⟨(some 210), some (207, true), .eqb false (.tmp 208) (.tmp 209)⟩,
    ⟨(some 211), none, .pick (.tmp 207) (.tmp 210) (.const (.bool false))⟩,
    ⟨(some 212), none, .mv (.tmp 211)⟩,
    ⟨(some 213), some (212, true), .mv (.tmp 28)⟩,
    ⟨(some 214), some (212, true), .mv (.tmp 213)⟩,
    ⟨(some 215), some (214, true), .mv (.tmp 32)⟩,
    ⟨(some 216), some (212, true), .pick (.tmp 214) (.tmp 215) (.const (.bool false))⟩,
    ⟨(some 217), some (212, true), .not (.tmp 216)⟩,
    ⟨(some 218), none, .pick (.tmp 212) (.tmp 217) (.const (.bool false))⟩,
    ⟨(some 219), none, .mv (.tmp 218)⟩,
    ⟨(some 220), some (219, true), .mv (.tmp 37)⟩,
    ⟨(some 221), some (219, true), .mv (.tmp 39)⟩,
    ⟨(some 222), some (219, true), .eqb false (.tmp 220) (.tmp 221)⟩,
    ⟨(some 223), none, .pick (.tmp 219) (.tmp 222) (.const (.bool false))⟩,
    ⟨(some 224), none, .mv (.tmp 223)⟩,
    ⟨(some 225), some (224, true), .load (some 2) (.tmp 36)⟩,
    ⟨(some 226), some (224, true), .load (some 2) (.tmp 38)⟩,
    ⟨(some 227), some (224, true), .eqs false [(0, 0), (1, 0)] (.tmp 225) (.tmp 226)⟩,
    ⟨(some 228), none, .pick (.tmp 224) (.tmp 227) (.const (.bool false))⟩,
    ⟨(some 4), none, .mv (.tmp 228)⟩])
  (.ret)))))))))))))))))))))))))))
theorem h_laws_FnMeetings : (Try.prog.funcs[n_laws_FnMeetings]?).bind (fun fn => fn.body.bind (comp Try.prog fn.ntmps)) = some (AS.strip c_laws_FnMeetings) := by kernel_rfl
theorem r_laws_FnMeetings : (Try.prog.funcs[n_laws_FnMeetings]?).map (fun fn => (fn.results.toList, fn.ntmps)) = some ([.tmp 4], 229) := by kernel_rfl
-- 4 loop.example/g00850/laws.FnRings
abbrev n_laws_FnRings : Nat := 4
def c_laws_FnRings_l1 : AS :=
  .seq (.ops [⟨(some 52), none, .bin .lss (.tmp 51) (.tmp 50)⟩])
  (.seq (.cond (.tmp 52) (.skip) (.exit 0))
  (.seq (.block 1 (.seq (.ops [⟨(some 53), none, .mv (.tmp 51)⟩,
    ⟨(some 54), none, .ia 1 (.tmp 49) (.tmp 51)⟩,
    ⟨(some 55), none, .load none (.tmp 54)⟩,
    ⟨(some 10), none, .mv (.tmp 53)⟩,
    ⟨(some 11), none, .mv (.tmp 55)⟩])
  (.seq (.ops [⟨(some 56), none, .mv (.tmp 6)⟩,
    ⟨(some 57), none, .mv (.tmp 10)⟩,
    ⟨(some 58), none, .bin .add (.tmp 57) (.const (.int .i64 1))⟩,
    ⟨(some 59), none, .mv (.tmp 6)⟩,
    ⟨(some 60), none, .lens (.tmp 59)⟩,
    ⟨(some 61), none, .bin .rem (.tmp 58) (.tmp 60)⟩,
    ⟨(some 62), none, .ia 1 (.tmp 56) (.tmp 61)⟩,
    ⟨(some 63), none, .load none (.tmp 62)⟩,
    ⟨(some 12), none, .mv (.tmp 63)⟩])
  (.kept [1, 5, 6, 11, 12, 49, 50, 51] (.seq (.post [(75, 1, [(0, 1)])] (.ops [⟨(some 64), none, .mv (.tmp 11)⟩,
    ⟨(some 65), none, .bin .lss (.tmp 64) (.const (.int .i64 0))⟩,
    ⟨(some 66), none, .mv (.tmp 65)⟩,
    ⟨(some 67), some (66, false), .mv (.tmp 11)⟩,
    ⟨(some 68), some (66, false), .mv (.tmp 5)⟩,
    ⟨(some 69), some (66, false), .lens (.tmp 68)⟩,
    ⟨(some 70), some (66, false), .bin .geq (.tmp 67) (.tmp 69)⟩,
    ⟨(some 71), none, .pick (.tmp 66) (.const (.bool true)) (.tmp 70)⟩,
    ⟨(some 72), none, .mv (.tmp 71)⟩,
    ⟨(some 73), some (72, false), .mv (.tmp 5)⟩,
    ⟨(some 74), some (72, false), .mv (.tmp 11)⟩,
    ⟨(some 75), some (72, false), .ia 1 (.tmp 73) (.tmp 74)⟩,
    ⟨(some 76), some (72, false), .load none (.tmp 75)⟩,
    ⟨(some 77), some (72, false), .mv (.tmp 12)⟩,
    ⟨(some 78), some (72, false), .call 21 [(.tmp 76), (.tmp 77)]⟩,
    ⟨(some 79), some (72, false), .not (.tmp 78)⟩,
    ⟨(some 80), none, .pick (.tmp 72) (.const (.bool true)) (.tmp 79)⟩,
    ⟨(some 81), none, .mv (.tmp 80)⟩,
    ⟨(some 82), some (81, false), .mv (.tmp 11)⟩,
    ⟨(some 83), some (81, false), .mv (.tmp 6)⟩,
    ⟨(some 84), some (81, false), .ia 1 (.tmp 83) (.const (.int .i64 0))⟩,
    ⟨(some 85), some (81, false), .load none (.tmp 84)⟩,
    ⟨(some 86), some (81, false), .bin .lss (.tmp 82) (.tmp 85)⟩,
    ⟨(some 87), none, .pick (.tmp 81) (.const (.bool true)) (.tmp 86)⟩]))
  (.kept [1, 5, 6, 49, 50, 51, 87] (.cond (.tmp 87) (.seq (.ops [⟨(some 4), none, .mv (.const (.bool false))⟩])
  (.ret)) (.skip))))))))
  (.kept [1, 5, 6, 49, 50, 51] (.ops [⟨(some 88), none, .bin .add (.tmp 51) (.const (.int .i64 1))⟩,
    ⟨(some 51), none, .mv (.tmp 88)⟩]))))
def c_laws_FnRings_l2 : AS :=
  .seq (.ops [⟨(some 100), none, .bin .lss (.tmp 99) (.tmp 98)⟩])
  (.seq (.cond (.tmp 100) (.skip) (.exit 4))
  (.seq (.block 5 (.seq (.ops [⟨(some 101), none, .ia 1 (.tmp 97) (.tmp 99)⟩,
    ⟨(some 102), none, .load none (.tmp 101)⟩,
    ⟨(some 18), none, .mv (.tmp 102)⟩])
  (.seq (.ops [⟨(some 103), none, .mv (.tmp 18)⟩,
    ⟨(some 104), none, .bin .geq (.tmp 103) (.const (.int .i64 0))⟩,
    ⟨(some 105), none, .mv (.tmp 104)⟩,
    ⟨(some 106), some (105, true), .mv (.tmp 18)⟩,
    ⟨(some 107), some (105, true), .mv (.tmp 14)⟩,
    ⟨(some 108), some (105, true), .bin .lss (.tmp 106) (.tmp 107)⟩,
    ⟨(some 109), none, .pick (.tmp 105) (.tmp 108) (.const (.bool false))⟩])
  (.kept [13, 14, 16, 18, 90, 91, 92, 97, 98, 99, 109] (.cond (.tmp 109) (.ops [⟨(some 110), none, .mv (.tmp 16)⟩,
    ⟨(some 111), none, .mv (.tmp 18)⟩,
    ⟨(some 112), none, .bsl 1 (.int .i64 0) 1 [(0, (.tmp 111))]⟩,
    ⟨(some 113), none, .app 1 8 (.int .i64 0) (.tmp 110) (.tmp 112)⟩,
    ⟨(some 16), none, .mv (.tmp 113)⟩]) (.skip))))))
  (.kept [13, 14, 16, 90, 91, 92, 97, 98, 99] (.ops [⟨(some 114), none, .bin .add (.tmp 99) (.const (.int .i64 1))⟩,
    ⟨(some 99), none, .mv (.tmp 114)⟩]))))
def c_laws_FnRings_l3 : AS :=
  .seq (.ops [⟨(some 93), none, .bin .lss (.tmp 92) (.tmp 91)⟩])
  (.seq (.cond (.tmp 93) (.skip) (.exit 2))
  (.seq (.block 3 (.seq (.ops [⟨(some 94), none, .mv (.tmp 92)⟩,
    ⟨(some 95), none, .ia 1 (.tmp 90) (.tmp 92)⟩,
    ⟨(some 96), none, .load none (.tmp 95)⟩,
    ⟨(some 14), none, .mv (.tmp 94)⟩,
    ⟨(some 15), none, .mv (.tmp 96)⟩])
  (.seq (.ops [⟨(some 16), none, .mv (.const (.slice none 0 0))⟩])
  (.seq (.seq (.ops [⟨(some 97), none, .mv (.tmp 15)⟩,
    ⟨(some 98), none, .lens (.tmp 97)⟩,
    ⟨(some 99), none, .mv (.const (.int .i64 0))⟩])
  (.block 4 (.loop 2 [(13, 1), (14, 0), (16, 1), (90, 0), (91, 0), (92, 0), (97, 0), (98, 0), (99, 0)] c_laws_FnRings_l2)))
  (.kept [13, 16, 90, 91, 92] (.post [(90, 0, [(92, 0), (0, 1)]), (118, 1, [(0, 1)])] (.ops [⟨(some 115), none, .mv (.tmp 13)⟩,
    ⟨(some 116), none, .mv (.tmp 16)⟩,
    ⟨(some 117), none, .bsl 1 (.slice none 0 0) 1 [(0, (.tmp 116))]⟩,
    ⟨(some 118), none, .app 1 24 (.slice none 0 0) (.tmp 115) (.tmp 117)⟩,
    ⟨(some 13), none, .mv (.tmp 118)⟩])))))))
  (.kept [13, 90, 91, 92] (.ops [⟨(some 119), none, .bin .add (.tmp 92) (.const (.int .i64 1))⟩,
    ⟨(some 92), none, .mv (.tmp 119)⟩]))))
def c_laws_FnRings : AS :=
  .seq (.ops [⟨(some 4), none, .mv (.const (.bool false))⟩])
  (.seq (.seq (.ops [⟨(some 21), none, .mv (.tmp 0)⟩,
    ⟨(some 22), none, .mv (.tmp 1)⟩,
    ⟨(some 23), none, .call 5 [(.tmp 21), (.tmp 22)]⟩])
  (.cond (.tmp 23) (.seq (.ops [⟨(some 4), none, .mv (.const (.bool true))⟩])
  (.ret)) (.skip)))
  (.seq (.ops [⟨(some 24), none, .mv (.tmp 0)⟩,
    ⟨(some 25), none, .call 17 [(.tmp 24)]⟩,
    ⟨(some 5), none, .mv (.tmp 25)⟩])
  (.seq (.ops [⟨(some 27), none, .mv (.tmp 5)⟩,
    ⟨(some 28), none, .call 18 [(.tmp 27)]⟩,
    ⟨(some 26), none, .mv (.tmp 28)⟩,
    ⟨(some 29), none, .ext 0 (.tmp 26)⟩,
    ⟨(some 30), none, .ext 1 (.tmp 26)⟩,
    ⟨(some 6), none, .mv (.tmp 29)⟩,
    ⟨(some 7), none, .mv (.tmp 30)⟩])
  (.seq (.ops [⟨(some 32), none, .mv (.tmp 5)⟩,
    ⟨(some 33), none, .call 19 [(.tmp 32)]⟩,
    ⟨(some 31), none, .mv (.tmp 33)⟩,
    ⟨(some 34), none, .ext 0 (.tmp 31)⟩,
    ⟨(some 35), none, .ext 1 (.tmp 31)⟩,
    ⟨(some 8), none, .mv (.tmp 34)⟩,
    ⟨(some 9), none, .mv (.tmp 35)⟩])
  (.seq (.seq (.ops [⟨(some 36), none, .mv (.tmp 7)⟩,
    ⟨(some 37), none, .mv (.tmp 9)⟩,
    ⟨(some 38), none, .eqb true (.tmp 36) (.tmp 37)⟩,
    ⟨(some 39), none, .mv (.tmp 38)⟩,
    ⟨(some 40), some (39, false), .mv (.tmp 6)⟩,
    ⟨(some 41), some (39, false), .mv (.tmp 8)⟩,
    ⟨(some 42), some (39, false), .call 20 [(.tmp 40), (.tmp 41)]⟩,
    ⟨(some 43), some (39, false), .not (.tmp 42)⟩,
    ⟨(some 44), none, .pick (.tmp 39) (.const (.bool true)) (.tmp 43)⟩])
  (.kept [1, 5, 6, 7, 44] (.cond (.tmp 44) (.seq (.ops [⟨(some 4), none, .mv (.const (.bool false))⟩])
  (.ret)) (.skip))))
  (.kept [1, 5, 6, 7] (.seq (.seq (.ops [⟨(some 45), none, .mv (.tmp 7)⟩])
  (.cond (.tmp 45) (.seq (.seq (.ops [⟨(some 46), none, .mv (.tmp 6)⟩,
    ⟨(some 47), none, .lens (.tmp 46)⟩,
    ⟨(some 48), none, .bin .eql (.tmp 47) (.const (.int .i64 0))⟩])
  (.cond (.tmp 48) (.seq (.ops [⟨(some 4), none, .mv (.const (.bool false))⟩])
  (.ret)) (.skip)))
  (.seq (.ops [⟨(some 49), none, .mv (.tmp 6)⟩,
    ⟨(some 50), none, .lens (.tmp 49)⟩,
    ⟨(some 51), none, .mv (.const (.int .i64 0))⟩])
  (.block 0 (.loop 2 [(1, 0), (5, 0), (6, 0), (49, 0), (50, 0), (51, 0)] c_laws_FnRings_l1)))) (.skip)))
  (.kept [1] (.seq (.ops [⟨(some 13), none, .mv (.const (.slice none 0 0))⟩])
  (.seq (.seq (.ops [⟨(some 89), none, .mv (.tmp 1)⟩,
    ⟨(some 90), none, .call 17 [(.tmp 89)]⟩,
    ⟨(some 91), none, .lens (.tmp 90)⟩,
    ⟨(some 92), none, .mv (.const (.int .i64 0))⟩])
  (.block 2 (.loop 2 [(13, 1), (90, 0), (91, 0), (92, 0)] c_laws_FnRings_l3)))
  (.kept [13] (.seq (.ops [⟨(some 121), none, .mv (.tmp 13)⟩,
    ⟨(some 122), none, .call 18 [(.tmp 121)]⟩,
    ⟨(some 120), none, .mv (.tmp 122)⟩,
    ⟨(some 123), none, .ext 0 (.tmp 120)⟩,
    ⟨(some 124), none, .ext 1 (.tmp 120)⟩,
    ⟨(some 19), none, .mv (.tmp 123)⟩,
    ⟨(some 20), none, .mv (.tmp 124)⟩])
  (.kept [20] (.seq (.ops [⟨(some 125), none, .mv (.tmp 20)⟩,
    ⟨(some 126), none, .not (.tmp 125)⟩,
    ⟨(some 4), none, .mv (.tmp 126)⟩])
  (.ret)))))))))))))))
theorem h_laws_FnRings : (Try.prog.funcs[n_laws_FnRings]?).bind (fun fn => fn.body.bind (comp Try.prog fn.ntmps)) = some (AS.strip c_laws_FnRings) := by kernel_rfl
theorem r_laws_FnRings : (Try.prog.funcs[n_laws_FnRings]?).map (fun fn => (fn.results.toList, fn.ntmps)) = some ([.tmp 4], 127) := by kernel_rfl
-- 5 loop.example/g00850/laws.big
abbrev n_laws_big : Nat := 5
def c_laws_big : AS :=
  .seq (.ops [⟨(some 4), none, .mv (.const (.bool false))⟩])
  (.seq (.ops [⟨(some 5), none, .mv (.tmp 0)⟩,
    ⟨(some 6), none, .lens (.tmp 5)⟩,
    ⟨(some 7), none, .bin .gtr (.tmp 6) (.const (.int .i64 1048576))⟩,
    ⟨(some 8), none, .mv (.tmp 7)⟩,
    ⟨(some 9), some (8, false), .mv (.tmp 1)⟩,
    ⟨(some 10), some (8, false), .lens (.tmp 9)⟩,
    ⟨(some 11), some (8, false), .mv (.tmp 0)⟩,
    ⟨(some 12), some (8, false), .lens (.tmp 11)⟩,
    ⟨(some 13), some (8, false), .bin .sub (.const (.int .i64 1048576)) (.tmp 12)⟩,
    ⟨(some 14), some (8, false), .bin .gtr (.tmp 10) (.tmp 13)⟩,
    ⟨(some 15), none, .pick (.tmp 8) (.const (.bool true)) (.tmp 14)⟩,
    ⟨(some 4), none, .mv (.tmp 15)⟩])
  (.ret))
theorem h_laws_big : (Try.prog.funcs[n_laws_big]?).bind (fun fn => fn.body.bind (comp Try.prog fn.ntmps)) = some (AS.strip c_laws_big) := by kernel_rfl
theorem r_laws_big : (Try.prog.funcs[n_laws_big]?).map (fun fn => (fn.results.toList, fn.ntmps)) = some ([.tmp 4], 16) := by kernel_rfl
-- 6 loop.example/g00850/spec.DrawSpanAt
abbrev n_spec_DrawSpanAt : Nat := 6
def c_spec_DrawSpanAt : AS :=
  .seq (.ops [⟨(some 2), none, .alloc (.agg #[.int .i64 0])⟩,
    ⟨(some 3), none, .mv (.const (.int .i64 0))⟩])
  (.seq (.ops [⟨(some 5), none, .mv (.tmp 0)⟩,
    ⟨(some 6), none, .build (.agg #[.slice none 0 0, .int .i64 0, .int .u64 0]) [(0, 1, (.tmp 5))]⟩,
    ⟨(some 7), none, .box (.tmp 6)⟩,
    ⟨(some 4), none, .mv (.tmp 7)⟩])
  (.seq (.ops [⟨(some 8), none, .mv (.tmp 4)⟩,
    ⟨(some 9), none, .call 22 [(.tmp 8)]⟩,
    ⟨(some 10), none, .mv (.tmp 4)⟩,
    ⟨(some 11), none, .call 23 [(.tmp 10)]⟩,
    ⟨(some 12), none, .mv (.tmp 4)⟩,
    ⟨(some 13), none, .call 24 [(.tmp 12), (.const (.int .i64 20))]⟩,
    ⟨(some 14), none, .bin .quo (.tmp 13) (.const (.int .i64 19))⟩,
    ⟨(some 15), none, .bin .sub (.tmp 11) (.tmp 14)⟩,
    ⟨(some 16), none, .mv (.tmp 4)⟩,
    ⟨(some 17), none, .call 24 [(.tmp 16), (.const (.int .i64 20))]⟩,
    ⟨(some 18), none, .bin .quo (.tmp 17) (.const (.int .i64 19))⟩,
    ⟨(some 19), none, .bin .add (.tmp 15) (.tmp 18)⟩,
    ⟨none, none, .store 1 (.tmp 2) (.tmp 9)⟩,
    ⟨(some 3), none, .mv (.tmp 19)⟩])
  (.ret)))
theorem h_spec_DrawSpanAt : (Try.prog.funcs[n_spec_DrawSpanAt]?).bind (fun fn => fn.body.bind (comp Try.prog fn.ntmps)) = some (AS.strip c_spec_DrawSpanAt) := by kernel_rfl
theorem r_spec_DrawSpanAt : (Try.prog.funcs[n_spec_DrawSpanAt]?).map (fun fn => (fn.results.toList, fn.ntmps)) = some ([.cell 2 25, .tmp 3], 20) := by kernel_rfl
-- 7 loop.example/g00850/impl.SpanAt
abbrev n_impl_SpanAt : Nat := 7
def c_impl_SpanAt : AS :=
  .seq (.ops [⟨(some 2), none, .box (.tmp 0)⟩,
    ⟨(some 4), none, .alloc (.agg #[.int .i64 0, .int .i64 0])⟩,
    ⟨(some 5), none, .mv (.const (.bool false))⟩])
  (.seq (.seq (.ops [⟨(some 6), none, .load (some 1) (.tmp 2)⟩,
    ⟨(some 7), none, .call 25 [(.tmp 6)]⟩,
    ⟨(some 8), none, .not (.tmp 7)⟩,
    ⟨(some 9), none, .mv (.tmp 8)⟩,
    ⟨(some 10), some (9, false), .mv (.tmp 1)⟩,
    ⟨(some 11), some (9, false), .call 26 [(.tmp 10)]⟩,
    ⟨(some 12), some (9, false), .not (.tmp 11)⟩,
    ⟨(some 13), none, .pick (.tmp 9) (.const (.bool true)) (.tmp 12)⟩])
  (.kept [1, 2, 4, 13] (.cond (.tmp 13) (.seq (.ops [⟨(some 14), none, .build (.agg #[.int .i64 0, .int .i64 0]) []⟩,
    ⟨none, none, .store 2 (.tmp 4) (.tmp 14)⟩,
    ⟨(some 5), none, .mv (.const (.bool false))⟩])
  (.ret)) (.skip))))
  (.kept [1, 2, 4] (.seq (.ops [⟨(some 15), none, .load (some 1) (.tmp 2)⟩,
    ⟨(some 16), none, .mv (.tmp 1)⟩,
    ⟨(some 17), none, .call 27 [(.tmp 15), (.tmp 16)]⟩,
    ⟨none, none, .store 2 (.tmp 4) (.tmp 17)⟩,
    ⟨(some 5), none, .mv (.const (.bool true))⟩])
  (.ret))))
theorem h_impl_SpanAt : (Try.prog.funcs[n_impl_SpanAt]?).bind (fun fn => fn.body.bind (comp Try.prog fn.ntmps)) = some (AS.strip c_impl_SpanAt) := by kernel_rfl
theorem r_impl_SpanAt : (Try.prog.funcs[n_impl_SpanAt]?).map (fun fn => (fn.results.toList, fn.ntmps)) = some ([.cell 4 29, .tmp 5], 18) := by kernel_rfl
-- 8 loop.example/g00850/impl.MeetSpans
abbrev n_impl_MeetSpans : Nat := 8
def c_impl_MeetSpans_l1 : AS :=
  .seq (.ops [⟨(some 22), none, .bin .lss (.tmp 21) (.tmp 20)⟩])
  (.seq (.cond (.tmp 22) (.skip) (.exit 0))
  (.seq (.block 1 (.seq (.ops [⟨(some 23), none, .ia 2 (.tmp 19) (.tmp 21)⟩,
    ⟨(some 24), none, .load (some 2) (.tmp 23)⟩,
    ⟨(some 6), none, .alloc (.agg #[.int .i64 0, .int .i64 0])⟩,
    ⟨none, none, .store 2 (.tmp 6) (.tmp 24)⟩])
  (.ops [⟨(some 25), none, .fa 0 (.tmp 4)⟩,
    ⟨(some 26), none, .load none (.tmp 25)⟩,
    ⟨(some 27), none, .fa 0 (.tmp 6)⟩,
    ⟨(some 28), none, .load none (.tmp 27)⟩,
    ⟨(some 29), none, .bmax [(.tmp 26), (.tmp 28)]⟩,
    ⟨(some 30), none, .fa 1 (.tmp 4)⟩,
    ⟨(some 31), none, .load none (.tmp 30)⟩,
    ⟨(some 32), none, .fa 1 (.tmp 6)⟩,
    ⟨(some 33), none, .load none (.tmp 32)⟩,
    ⟨(some 34), none, .bmin [(.tmp 31), (.tmp 33)]⟩,
    ⟨(some 35), none, .build (.agg #[.int .i64 0, .int .i64 0]) [(0, 1, (.tmp 29)), (1, 1, (.tmp 34))]⟩,
    ⟨none, none, .store 2 (.tmp 4) (.tmp 35)⟩])))
  (.kept [2, 4, 19, 20, 21] (.ops [⟨(some 36), none, .bin .add (.tmp 21) (.const (.int .i64 1))⟩,
    ⟨(some 21), none, .mv (.tmp 36)⟩]))))
def c_impl_MeetSpans : AS :=
  .seq (.ops [⟨(some 2), none, .alloc (.agg #[.int .i64 0, .int .i64 0])⟩,
    ⟨(some 3), none, .mv (.const (.bool false))⟩])
  (.seq (.seq (.ops [⟨(some 7), none, .mv (.tmp 0)⟩,
    ⟨(some 8), none, .lens (.tmp 7)⟩,
    ⟨(some 9), none, .call 28 [(.tmp 8), (.const (.int .i64 1)), (.const (.int .i64 20))]⟩,
    ⟨(some 10), none, .not (.tmp 9)⟩,
    ⟨(some 11), none, .mv (.tmp 10)⟩,
    ⟨(some 12), some (11, false), .mv (.tmp 0)⟩,
    ⟨(some 13), some (11, false), .call 29 [(.tmp 12), (.func 30)]⟩,
    ⟨(some 14), none, .pick (.tmp 11) (.const (.bool true)) (.tmp 13)⟩])
  (.kept [0, 2, 14] (.cond (.tmp 14) (.seq (.ops [⟨(some 15), none, .build (.agg #[.int .i64 0, .int .i64 0]) []⟩,
    ⟨none, none, .store 2 (.tmp 2) (.tmp 15)⟩,
    ⟨(some 3), none, .mv (.const (.bool false))⟩])
  (.ret)) (.skip))))
  (.kept [0, 2] (.seq (.ops [⟨(some 16), none, .mv (.tmp 0)⟩,
    ⟨(some 17), none, .ia 2 (.tmp 16) (.const (.int .i64 0))⟩,
    ⟨(some 18), none, .load (some 2) (.tmp 17)⟩,
    ⟨(some 4), none, .alloc (.agg #[.int .i64 0, .int .i64 0])⟩,
    ⟨none, none, .store 2 (.tmp 4) (.tmp 18)⟩])
  (.seq (.seq (.ops [⟨(some 19), none, .mv (.tmp 0)⟩,
    ⟨(some 20), none, .lens (.tmp 19)⟩,
    ⟨(some 21), none, .mv (.const (.int .i64 0))⟩])
  (.block 0 (.loop 1 [(2, 0), (4, 0), (19, 0), (20, 0), (21, 0)] c_impl_MeetSpans_l1)))
  (.kept [2, 4] (.seq (.seq (.ops [⟨(some 37), none, .load (some 2) (.tmp 4)⟩,
    ⟨(some 38), none, .call 31 [(.tmp 37)]⟩,
    ⟨(some 39), none, .not (.tmp 38)⟩])
  (.cond (.tmp 39) (.seq (.ops [⟨(some 40), none, .build (.agg #[.int .i64 0, .int .i64 0]) []⟩,
    ⟨none, none, .store 2 (.tmp 2) (.tmp 40)⟩,
    ⟨(some 3), none, .mv (.const (.bool false))⟩])
  (.ret)) (.skip)))
  (.seq (.ops [⟨(some 41), none, .load (some 2) (.tmp 4)⟩,
    ⟨none, none, .store 2 (.tmp 2) (.tmp 41)⟩,
    ⟨(some 3), none, .mv (.const (.bool true))⟩])
  (.ret))))))))
theorem h_impl_MeetSpans : (Try.prog.funcs[n_impl_MeetSpans]?).bind (fun fn => fn.body.bind (comp Try.prog fn.ntmps)) = some (AS.strip c_impl_MeetSpans) := by kernel_rfl
theorem r_impl_MeetSpans : (Try.prog.funcs[n_impl_MeetSpans]?).map (fun fn => (fn.results.toList, fn.ntmps)) = some ([.cell 2 29, .tmp 3], 42) := by kernel_rfl
-- 9 loop.example/g00850/impl.SurelyAfter
abbrev n_impl_SurelyAfter : Nat := 9
def c_impl_SurelyAfter : AS :=
  .seq (.ops [⟨(some 2), none, .box (.tmp 0)⟩,
    ⟨(some 3), none, .box (.tmp 1)⟩,
    ⟨(some 4), none, .mv (.const (.bool false))⟩,
    ⟨(some 5), none, .mv (.const (.bool false))⟩])
  (.seq (.seq (.ops [⟨(some 6), none, .load (some 2) (.tmp 2)⟩,
    ⟨(some 7), none, .call 31 [(.tmp 6)]⟩,
    ⟨(some 8), none, .not (.tmp 7)⟩,
    ⟨(some 9), none, .mv (.tmp 8)⟩,
    ⟨(some 10), some (9, false), .load (some 2) (.tmp 3)⟩,
    ⟨(some 11), some (9, false), .call 31 [(.tmp 10)]⟩,
    ⟨(some 12), some (9, false), .not (.tmp 11)⟩,
    ⟨(some 13), none, .pick (.tmp 9) (.const (.bool true)) (.tmp 12)⟩])
  (.kept [2, 3, 13] (.cond (.tmp 13) (.seq (.ops [⟨(some 4), none, .mv (.const (.bool false))⟩,
    ⟨(some 5), none, .mv (.const (.bool false))⟩])
  (.ret)) (.skip))))
  (.kept [2, 3] (.seq (.ops [⟨(some 14), none, .fa 0 (.tmp 2)⟩,
    ⟨(some 15), none, .load none (.tmp 14)⟩,
    ⟨(some 16), none, .fa 1 (.tmp 3)⟩,
    ⟨(some 17), none, .load none (.tmp 16)⟩,
    ⟨(some 18), none, .bin .gtr (.tmp 15) (.tmp 17)⟩,
    ⟨(some 4), none, .mv (.tmp 18)⟩,
    ⟨(some 5), none, .mv (.const (.bool true))⟩])
  (.ret))))
theorem h_impl_SurelyAfter : (Try.prog.funcs[n_impl_SurelyAfter]?).bind (fun fn => fn.body.bind (comp Try.prog fn.ntmps)) = some (AS.strip c_impl_SurelyAfter) := by kernel_rfl
theorem r_impl_SurelyAfter : (Try.prog.funcs[n_impl_SurelyAfter]?).map (fun fn => (fn.results.toList, fn.ntmps)) = some ([.tmp 4, .tmp 5], 19) := by kernel_rfl
-- 10 loop.example/g00850/impl.MoveSpan
abbrev n_impl_MoveSpan : Nat := 10
def c_impl_MoveSpan : AS :=
  .seq (.ops [⟨(some 2), none, .box (.tmp 0)⟩,
    ⟨(some 4), none, .alloc (.agg #[.int .i64 0, .int .i64 0])⟩,
    ⟨(some 5), none, .mv (.const (.bool false))⟩])
  (.seq (.seq (.ops [⟨(some 7), none, .load (some 2) (.tmp 2)⟩,
    ⟨(some 8), none, .call 31 [(.tmp 7)]⟩,
    ⟨(some 9), none, .not (.tmp 8)⟩,
    ⟨(some 10), none, .mv (.tmp 9)⟩,
    ⟨(some 11), some (10, false), .mv (.tmp 1)⟩,
    ⟨(some 12), some (10, false), .call 26 [(.tmp 11)]⟩,
    ⟨(some 13), some (10, false), .not (.tmp 12)⟩,
    ⟨(some 14), none, .pick (.tmp 10) (.const (.bool true)) (.tmp 13)⟩])
  (.kept [1, 2, 4, 14] (.cond (.tmp 14) (.seq (.ops [⟨(some 15), none, .build (.agg #[.int .i64 0, .int .i64 0]) []⟩,
    ⟨none, none, .store 2 (.tmp 4) (.tmp 15)⟩,
    ⟨(some 5), none, .mv (.const (.bool false))⟩])
  (.ret)) (.skip))))
  (.kept [1, 2, 4] (.seq (.ops [⟨(some 16), none, .fa 0 (.tmp 2)⟩,
    ⟨(some 17), none, .load none (.tmp 16)⟩,
    ⟨(some 18), none, .mv (.tmp 1)⟩,
    ⟨(some 19), none, .bin .add (.tmp 17) (.tmp 18)⟩,
    ⟨(some 20), none, .fa 1 (.tmp 2)⟩,
    ⟨(some 21), none, .load none (.tmp 20)⟩,
    ⟨(some 22), none, .mv (.tmp 1)⟩,
    ⟨(some 23), none, .bin .add (.tmp 21) (.tmp 22)⟩,
    ⟨(some 24), none, .build (.agg #[.int .i64 0, .int .i64 0]) [(0, 1, (.tmp 19)), (1, 1, (.tmp 23))]⟩,
    ⟨(some 6), none, .alloc (.agg #[.int .i64 0, .int .i64 0])⟩,
    ⟨none, none, .store 2 (.tmp 6) (.tmp 24)⟩])
  (.kept [4, 6] (.seq (.seq (.ops [⟨(some 25), none, .load (some 2) (.tmp 6)⟩,
    ⟨(some 26), none, .call 31 [(.tmp 25)]⟩,
    ⟨(some 27), none, .not (.tmp 26)⟩])
  (.cond (.tmp 27) (.seq (.ops [⟨(some 28), none, .build (.agg #[.int .i64 0, .int .i64 0]) []⟩,
    ⟨none, none, .store 2 (.tmp 4) (.tmp 28)⟩,
    ⟨(some 5), none, .mv (.const (.bool false))⟩])
  (.ret)) (.skip)))
  (.seq (.ops [⟨(some 29), none, .load (some 2) (.tmp 6)⟩,
    ⟨none, none, .store 2 (.tmp 4) (.tmp 29)⟩,
    ⟨(some 5), none, .mv (.const (.bool true))⟩])
  (.ret)))))))
theorem h_impl_MoveSpan : (Try.prog.funcs[n_impl_MoveSpan]?).bind (fun fn => fn.body.bind (comp Try.prog fn.ntmps)) = some (AS.strip c_impl_MoveSpan) := by kernel_rfl
theorem r_impl_MoveSpan : (Try.prog.funcs[n_impl_MoveSpan]?).map (fun fn => (fn.results.toList, fn.ntmps)) = some ([.cell 4 29, .tmp 5], 30) := by kernel_rfl
-- 11 loop.example/g00850/spec.DrawMeetSpans
abbrev n_spec_DrawMeetSpans : Nat := 11
def c_spec_DrawMeetSpans_l1 : AS :=
  .seq (.seq (.ops [⟨(some 11), none, .mv (.tmp 5)⟩,
    ⟨(some 12), none, .bin .gtr (.tmp 11) (.const (.int .i64 0))⟩])
  (.cond (.tmp 12) (.skip) (.exit 0)))
  (.seq (.block 1 (.ops [⟨(some 15), none, .mv (.tmp 4)⟩,
    ⟨(some 16), none, .mv (.tmp 3)⟩,
    ⟨(some 17), none, .call 32 [(.tmp 16)]⟩,
    ⟨(some 18), none, .bsl 2 (.agg #[.int .i64 0, .int .i64 0]) 1 [(0, (.tmp 17))]⟩,
    ⟨(some 19), none, .app 2 16 (.agg #[.int .i64 0, .int .i64 0]) (.tmp 15) (.tmp 18)⟩,
    ⟨(some 4), none, .mv (.tmp 19)⟩]))
  (.ops [⟨(some 13), none, .mv (.tmp 5)⟩,
    ⟨(some 14), none, .bin .sub (.tmp 13) (.const (.int .i64 1))⟩,
    ⟨(some 5), none, .mv (.tmp 14)⟩]))
def c_spec_DrawMeetSpans : AS :=
  .seq (.ops [⟨(some 2), none, .mv (.const (.slice none 0 0))⟩])
  (.seq (.ops [⟨(some 6), none, .mv (.tmp 0)⟩,
    ⟨(some 7), none, .build (.agg #[.slice none 0 0, .int .i64 0, .int .u64 0]) [(0, 1, (.tmp 6))]⟩,
    ⟨(some 8), none, .box (.tmp 7)⟩,
    ⟨(some 3), none, .mv (.tmp 8)⟩])
  (.seq (.ops [⟨(some 4), none, .mv (.const (.slice none 0 0))⟩])
  (.seq (.seq (.ops [⟨(some 9), none, .mv (.tmp 3)⟩,
    ⟨(some 10), none, .call 24 [(.tmp 9), (.const (.int .i64 5))]⟩,
    ⟨(some 5), none, .mv (.tmp 10)⟩])
  (.block 0 (.loop 1 [(3, 0), (4, 2), (5, 0)] c_spec_DrawMeetSpans_l1)))
  (.kept [4] (.seq (.ops [⟨(some 20), none, .mv (.tmp 4)⟩,
    ⟨(some 2), none, .mv (.tmp 20)⟩])
  (.ret))))))
theorem h_spec_DrawMeetSpans : (Try.prog.funcs[n_spec_DrawMeetSpans]?).bind (fun fn => fn.body.bind (comp Try.prog fn.ntmps)) = some (AS.strip c_spec_DrawMeetSpans) := by kernel_rfl
theorem r_spec_DrawMeetSpans : (Try.prog.funcs[n_spec_DrawMeetSpans]?).map (fun fn => (fn.results.toList, fn.ntmps)) = some ([.tmp 2], 21) := by kernel_rfl
-- 12 loop.example/g00850/spec.MeetSpans
abbrev n_spec_MeetSpans : Nat := 12
def c_spec_MeetSpans_l1 : AS :=
  .seq (.ops [⟨(some 18), none, .bin .lss (.tmp 17) (.tmp 16)⟩])
  (.seq (.cond (.tmp 18) (.skip) (.exit 0))
  (.seq (.block 1 (.seq (.ops [⟨(some 19), none, .ia 2 (.tmp 15) (.tmp 17)⟩,
    ⟨(some 20), none, .load (some 2) (.tmp 19)⟩,
    ⟨(some 6), none, .alloc (.agg #[.int .i64 0, .int .i64 0])⟩,
    ⟨none, none, .store 2 (.tmp 6) (.tmp 20)⟩])
  (.seq (.seq (.ops [⟨(some 21), none, .load (some 2) (.tmp 6)⟩,
    ⟨(some 22), none, .call 34 [(.tmp 21)]⟩,
    ⟨(some 23), none, .not (.tmp 22)⟩])
  (.cond (.tmp 23) (.seq (.ops [⟨(some 24), none, .build (.agg #[.int .i64 0, .int .i64 0]) []⟩,
    ⟨none, none, .store 2 (.tmp 2) (.tmp 24)⟩,
    ⟨(some 3), none, .mv (.const (.bool false))⟩])
  (.ret)) (.skip)))
  (.seq (.ops [⟨(some 25), none, .fa 0 (.tmp 4)⟩,
    ⟨(some 26), none, .load none (.tmp 25)⟩,
    ⟨(some 27), none, .fa 0 (.tmp 6)⟩,
    ⟨(some 28), none, .load none (.tmp 27)⟩,
    ⟨(some 29), none, .call 35 [(.tmp 26), (.tmp 28)]⟩,
    ⟨(some 30), none, .fa 0 (.tmp 4)⟩,
    ⟨none, none, .store 1 (.tmp 30) (.tmp 29)⟩])
  (.kept [2, 4, 6, 15, 16, 17] (.ops [⟨(some 31), none, .fa 1 (.tmp 4)⟩,
    ⟨(some 32), none, .load none (.tmp 31)⟩,
    ⟨(some 33), none, .fa 1 (.tmp 6)⟩,
    ⟨(some 34), none, .load none (.tmp 33)⟩,
    ⟨(some 35), none, .call 36 [(.tmp 32), (.tmp 34)]⟩,
    ⟨(some 36), none, .fa 1 (.tmp 4)⟩,
    ⟨none, none, .store 1 (.tmp 36) (.tmp 35)⟩]))))))
  (.kept [2, 4, 15, 16, 17] (.ops [⟨(some 37), none, .bin .add (.tmp 17) (.const (.int .i64 1))⟩,
    ⟨(some 17), none, .mv (.tmp 37)⟩]))))
def c_spec_MeetSpans : AS :=
  .seq (.ops [⟨(some 2), none, .alloc (.agg #[.int .i64 0, .int .i64 0])⟩,
    ⟨(some 3), none, .mv (.const (.bool false))⟩])
  (.seq (.seq (.ops [⟨(some 7), none, .mv (.tmp 0)⟩,
    ⟨(some 8), none, .lens (.tmp 7)⟩,
    ⟨(some 9), none, .call 33 [(.tmp 8), (.const (.int .i64 1)), (.const (.int .i64 20))]⟩,
    ⟨(some 10), none, .not (.tmp 9)⟩])
  (.cond (.tmp 10) (.seq (.ops [⟨(some 11), none, .build (.agg #[.int .i64 0, .int .i64 0]) []⟩,
    ⟨none, none, .store 2 (.tmp 2) (.tmp 11)⟩,
    ⟨(some 3), none, .mv (.const (.bool false))⟩])
  (.ret)) (.skip)))
  (.kept [0, 2] (.seq (.ops [⟨(some 12), none, .mv (.tmp 0)⟩,
    ⟨(some 13), none, .ia 2 (.tmp 12) (.const (.int .i64 0))⟩,
    ⟨(some 14), none, .load (some 2) (.tmp 13)⟩,
    ⟨(some 4), none, .alloc (.agg #[.int .i64 0, .int .i64 0])⟩,
    ⟨none, none, .store 2 (.tmp 4) (.tmp 14)⟩])
  (.seq (.seq (.ops [⟨(some 15), none, .mv (.tmp 0)⟩,
    ⟨(some 16), none, .lens (.tmp 15)⟩,
    ⟨(some 17), none, .mv (.const (.int .i64 0))⟩])
  (.block 0 (.loop 1 [(2, 0), (4, 0), (15, 0), (16, 0), (17, 0)] c_spec_MeetSpans_l1)))
  (.kept [2, 4] (.seq (.seq (.ops [⟨(some 38), none, .fa 0 (.tmp 4)⟩,
    ⟨(some 39), none, .load none (.tmp 38)⟩,
    ⟨(some 40), none, .fa 1 (.tmp 4)⟩,
    ⟨(some 41), none, .load none (.tmp 40)⟩,
    ⟨(some 42), none, .bin .gtr (.tmp 39) (.tmp 41)⟩])
  (.cond (.tmp 42) (.seq (.ops [⟨(some 43), none, .build (.agg #[.int .i64 0, .int .i64 0]) []⟩,
    ⟨none, none, .store 2 (.tmp 2) (.tmp 43)⟩,
    ⟨(some 3), none, .mv (.const (.bool false))⟩])
  (.ret)) (.skip)))
  (.kept [2, 4] (.seq (.ops [⟨(some 44), none, .load (some 2) (.tmp 4)⟩,
    ⟨none, none, .store 2 (.tmp 2) (.tmp 44)⟩,
    ⟨(some 3), none, .mv (.const (.bool true))⟩])
  (.ret)))))))))
theorem h_spec_MeetSpans : (Try.prog.funcs[n_spec_MeetSpans]?).bind (fun fn => fn.body.bind (comp Try.prog fn.ntmps)) = some (AS.strip c_spec_MeetSpans) := by kernel_rfl
theorem r_spec_MeetSpans : (Try.prog.funcs[n_spec_MeetSpans]?).map (fun fn => (fn.results.toList, fn.ntmps)) = some ([.cell 2 29, .tmp 3], 45) := by kernel_rfl
-- 13 loop.example/g00850/spec.DrawSurelyAfter
abbrev n_spec_DrawSurelyAfter : Nat := 13
def c_spec_DrawSurelyAfter : AS :=
  .seq (.ops [⟨(some 2), none, .alloc (.agg #[.int .i64 0, .int .i64 0])⟩,
    ⟨(some 3), none, .alloc (.agg #[.int .i64 0, .int .i64 0])⟩])
  (.seq (.ops [⟨(some 5), none, .mv (.tmp 0)⟩,
    ⟨(some 6), none, .build (.agg #[.slice none 0 0, .int .i64 0, .int .u64 0]) [(0, 1, (.tmp 5))]⟩,
    ⟨(some 7), none, .box (.tmp 6)⟩,
    ⟨(some 4), none, .mv (.tmp 7)⟩])
  (.seq (.ops [⟨(some 8), none, .mv (.tmp 4)⟩,
    ⟨(some 9), none, .call 32 [(.tmp 8)]⟩,
    ⟨(some 10), none, .mv (.tmp 4)⟩,
    ⟨(some 11), none, .call 32 [(.tmp 10)]⟩,
    ⟨none, none, .store 2 (.tmp 2) (.tmp 9)⟩,
    ⟨none, none, .store 2 (.tmp 3) (.tmp 11)⟩])
  (.ret)))
theorem h_spec_DrawSurelyAfter : (Try.prog.funcs[n_spec_DrawSurelyAfter]?).bind (fun fn => fn.body.bind (comp Try.prog fn.ntmps)) = some (AS.strip c_spec_DrawSurelyAfter) := by kernel_rfl
theorem r_spec_DrawSurelyAfter : (Try.prog.funcs[n_spec_DrawSurelyAfter]?).map (fun fn => (fn.results.toList, fn.ntmps)) = some ([.cell 2 29, .cell 3 29], 12) := by kernel_rfl
-- 14 loop.example/g00850/spec.SurelyAfter
abbrev n_spec_SurelyAfter : Nat := 14
def c_spec_SurelyAfter : AS :=
  .seq (.ops [⟨(some 2), none, .box (.tmp 0)⟩,
    ⟨(some 3), none, .box (.tmp 1)⟩,
    ⟨(some 4), none, .mv (.const (.bool false))⟩,
    ⟨(some 5), none, .mv (.const (.bool false))⟩])
  (.seq (.seq (.ops [⟨(some 6), none, .load (some 2) (.tmp 2)⟩,
    ⟨(some 7), none, .call 34 [(.tmp 6)]⟩,
    ⟨(some 8), none, .not (.tmp 7)⟩,
    ⟨(some 9), none, .mv (.tmp 8)⟩,
    ⟨(some 10), some (9, false), .load (some 2) (.tmp 3)⟩,
    ⟨(some 11), some (9, false), .call 34 [(.tmp 10)]⟩,
    ⟨(some 12), some (9, false), .not (.tmp 11)⟩,
    ⟨(some 13), none, .pick (.tmp 9) (.const (.bool true)) (.tmp 12)⟩])
  (.kept [2, 3, 13] (.cond (.tmp 13) (.seq (.ops [⟨(some 4), none, .mv (.const (.bool false))⟩,
    ⟨(some 5), none, .mv (.const (.bool false))⟩])
  (.ret)) (.skip))))
  (.kept [2, 3] (.seq (.ops [⟨(some 14), none, .fa 0 (.tmp 2)⟩,
    ⟨(some 15), none, .load none (.tmp 14)⟩,
    ⟨(some 16), none, .fa 1 (.tmp 3)⟩,
    ⟨(some 17), none, .load none (.tmp 16)⟩,
    ⟨(some 18), none, .bin .gtr (.tmp 15) (.tmp 17)⟩,
    ⟨(some 4), none, .mv (.tmp 18)⟩,
    ⟨(some 5), none, .mv (.const (.bool true))⟩])
  (.ret))))
theorem h_spec_SurelyAfter : (Try.prog.funcs[n_spec_SurelyAfter]?).bind (fun fn => fn.body.bind (comp Try.prog fn.ntmps)) = some (AS.strip c_spec_SurelyAfter) := by kernel_rfl
theorem r_spec_SurelyAfter : (Try.prog.funcs[n_spec_SurelyAfter]?).map (fun fn => (fn.results.toList, fn.ntmps)) = some ([.tmp 4, .tmp 5], 19) := by kernel_rfl
-- 15 loop.example/g00850/spec.DrawMoveSpan
abbrev n_spec_DrawMoveSpan : Nat := 15
def c_spec_DrawMoveSpan : AS :=
  .seq (.ops [⟨(some 2), none, .alloc (.agg #[.int .i64 0, .int .i64 0])⟩,
    ⟨(some 3), none, .mv (.const (.int .i64 0))⟩])
  (.seq (.ops [⟨(some 5), none, .mv (.tmp 0)⟩,
    ⟨(some 6), none, .build (.agg #[.slice none 0 0, .int .i64 0, .int .u64 0]) [(0, 1, (.tmp 5))]⟩,
    ⟨(some 7), none, .box (.tmp 6)⟩,
    ⟨(some 4), none, .mv (.tmp 7)⟩])
  (.seq (.ops [⟨(some 8), none, .mv (.tmp 4)⟩,
    ⟨(some 9), none, .call 32 [(.tmp 8)]⟩,
    ⟨(some 10), none, .mv (.tmp 4)⟩,
    ⟨(some 11), none, .call 23 [(.tmp 10)]⟩,
    ⟨(some 12), none, .mv (.tmp 4)⟩,
    ⟨(some 13), none, .call 24 [(.tmp 12), (.const (.int .i64 20))]⟩,
    ⟨(some 14), none, .bin .quo (.tmp 13) (.const (.int .i64 19))⟩,
    ⟨(some 15), none, .bin .sub (.tmp 11) (.tmp 14)⟩,
    ⟨none, none, .store 2 (.tmp 2) (.tmp 9)⟩,
    ⟨(some 3), none, .mv (.tmp 15)⟩])
  (.ret)))
theorem h_spec_DrawMoveSpan : (Try.prog.funcs[n_spec_DrawMoveSpan]?).bind (fun fn => fn.body.bind (comp Try.prog fn.ntmps)) = some (AS.strip c_spec_DrawMoveSpan) := by kernel_rfl
theorem r_spec_DrawMoveSpan : (Try.prog.funcs[n_spec_DrawMoveSpan]?).map (fun fn => (fn.results.toList, fn.ntmps)) = some ([.cell 2 29, .tmp 3], 16) := by kernel_rfl
-- 16 loop.example/g00850/spec.MoveSpan
abbrev n_spec_MoveSpan : Nat := 16
def c_spec_MoveSpan : AS :=
  .seq (.ops [⟨(some 2), none, .box (.tmp 0)⟩,
    ⟨(some 4), none, .alloc (.agg #[.int .i64 0, .int .i64 0])⟩,
    ⟨(some 5), none, .mv (.const (.bool false))⟩])
  (.seq (.seq (.ops [⟨(some 7), none, .load (some 2) (.tmp 2)⟩,
    ⟨(some 8), none, .call 34 [(.tmp 7)]⟩,
    ⟨(some 9), none, .not (.tmp 8)⟩,
    ⟨(some 10), none, .mv (.tmp 9)⟩,
    ⟨(some 11), some (10, false), .mv (.tmp 1)⟩,
    ⟨(some 12), some (10, false), .call 37 [(.tmp 11)]⟩,
    ⟨(some 13), some (10, false), .not (.tmp 12)⟩,
    ⟨(some 14), none, .pick (.tmp 10) (.const (.bool true)) (.tmp 13)⟩])
  (.kept [1, 2, 4, 14] (.cond (.tmp 14) (.seq (.ops [⟨(some 15), none, .build (.agg #[.int .i64 0, .int .i64 0]) []⟩,
    ⟨none, none, .store 2 (.tmp 4) (.tmp 15)⟩,
    ⟨(some 5), none, .mv (.const (.bool false))⟩])
  (.ret)) (.skip))))
  (.kept [1, 2, 4] (.seq (.ops [⟨(some 16), none, .fa 0 (.tmp 2)⟩,
    ⟨(some 17), none, .load none (.tmp 16)⟩,
    ⟨(some 18), none, .mv (.tmp 1)⟩,
    ⟨(some 19), none, .bin .add (.tmp 17) (.tmp 18)⟩,
    ⟨(some 20), none, .fa 1 (.tmp 2)⟩,
    ⟨(some 21), none, .load none (.tmp 20)⟩,
    ⟨(some 22), none, .mv (.tmp 1)⟩,
    ⟨(some 23), none, .bin .add (.tmp 21) (.tmp 22)⟩,
    ⟨(some 24), none, .build (.agg #[.int .i64 0, .int .i64 0]) [(0, 1, (.tmp 19)), (1, 1, (.tmp 23))]⟩,
    ⟨(some 6), none, .alloc (.agg #[.int .i64 0, .int .i64 0])⟩,
    ⟨none, none, .store 2 (.tmp 6) (.tmp 24)⟩])
  (.kept [4, 6] (.seq (.seq (.ops [⟨(some 25), none, .load (some 2) (.tmp 6)⟩,
    ⟨(some 26), none, .call 34 [(.tmp 25)]⟩,
    ⟨(some 27), none, .not (.tmp 26)⟩])
  (.cond (.tmp 27) (.seq (.ops [⟨(some 28), none, .build (.agg #[.int .i64 0, .int .i64 0]) []⟩,
    ⟨none, none, .store 2 (.tmp 4) (.tmp 28)⟩,
    ⟨(some 5), none, .mv (.const (.bool false))⟩])
  (.ret)) (.skip)))
  (.seq (.ops [⟨(some 29), none, .load (some 2) (.tmp 6)⟩,
    ⟨none, none, .store 2 (.tmp 4) (.tmp 29)⟩,
    ⟨(some 5), none, .mv (.const (.bool true))⟩])
  (.ret)))))))
theorem h_spec_MoveSpan : (Try.prog.funcs[n_spec_MoveSpan]?).bind (fun fn => fn.body.bind (comp Try.prog fn.ntmps)) = some (AS.strip c_spec_MoveSpan) := by kernel_rfl
theorem r_spec_MoveSpan : (Try.prog.funcs[n_spec_MoveSpan]?).map (fun fn => (fn.results.toList, fn.ntmps)) = some ([.cell 4 29, .tmp 5], 30) := by kernel_rfl
-- 17 loop.example/g00850/spec.DrawFindRing
abbrev n_spec_DrawFindRing : Nat := 17
def c_spec_DrawFindRing_l1 : AS :=
  .seq (.seq (.ops [⟨(some 21), none, .mv (.tmp 8)⟩,
    ⟨(some 22), none, .bin .gtr (.tmp 21) (.const (.int .i64 0))⟩])
  (.cond (.tmp 22) (.skip) (.exit 2)))
  (.seq (.block 3 (.ops [⟨(some 25), none, .mv (.tmp 7)⟩,
    ⟨(some 26), none, .mv (.tmp 3)⟩,
    ⟨(some 27), none, .mv (.tmp 4)⟩,
    ⟨(some 28), none, .call 24 [(.tmp 26), (.tmp 27)]⟩,
    ⟨(some 29), none, .bsl 1 (.int .i64 0) 1 [(0, (.tmp 28))]⟩,
    ⟨(some 30), none, .app 1 8 (.int .i64 0) (.tmp 25) (.tmp 29)⟩,
    ⟨(some 7), none, .mv (.tmp 30)⟩]))
  (.kept [3, 4, 5, 6, 7, 8] (.ops [⟨(some 23), none, .mv (.tmp 8)⟩,
    ⟨(some 24), none, .bin .sub (.tmp 23) (.const (.int .i64 1))⟩,
    ⟨(some 8), none, .mv (.tmp 24)⟩])))
def c_spec_DrawFindRing_l2 : AS :=
  .seq (.seq (.ops [⟨(some 14), none, .mv (.tmp 6)⟩,
    ⟨(some 15), none, .mv (.tmp 4)⟩,
    ⟨(some 16), none, .bin .lss (.tmp 14) (.tmp 15)⟩])
  (.cond (.tmp 16) (.skip) (.exit 0)))
  (.seq (.block 1 (.seq (.ops [⟨(some 7), none, .mv (.const (.slice none 0 0))⟩])
  (.seq (.seq (.ops [⟨(some 19), none, .mv (.tmp 3)⟩,
    ⟨(some 20), none, .call 24 [(.tmp 19), (.const (.int .i64 3))]⟩,
    ⟨(some 8), none, .mv (.tmp 20)⟩])
  (.block 2 (.loop 1 [(3, 0), (4, 0), (5, 1), (6, 0), (7, 1), (8, 0)] c_spec_DrawFindRing_l1)))
  (.kept [3, 4, 5, 6, 7] (.seq (.seq (.ops [⟨(some 31), none, .mv (.tmp 3)⟩,
    ⟨(some 32), none, .call 38 [(.tmp 31), (.const (.int .i64 40))]⟩])
  (.cond (.tmp 32) (.ops [⟨(some 33), none, .mv (.tmp 7)⟩,
    ⟨(some 34), none, .mv (.tmp 4)⟩,
    ⟨(some 35), none, .bsl 1 (.int .i64 0) 1 [(0, (.tmp 34))]⟩,
    ⟨(some 36), none, .app 1 8 (.int .i64 0) (.tmp 33) (.tmp 35)⟩,
    ⟨(some 7), none, .mv (.tmp 36)⟩]) (.skip)))
  (.kept [3, 4, 5, 6, 7] (.post [(40, 1, [(0, 1)])] (.ops [⟨(some 37), none, .mv (.tmp 5)⟩,
    ⟨(some 38), none, .mv (.tmp 7)⟩,
    ⟨(some 39), none, .bsl 1 (.slice none 0 0) 1 [(0, (.tmp 38))]⟩,
    ⟨(some 40), none, .app 1 24 (.slice none 0 0) (.tmp 37) (.tmp 39)⟩,
    ⟨(some 5), none, .mv (.tmp 40)⟩]))))))))
  (.kept [3, 4, 5, 6] (.ops [⟨(some 17), none, .mv (.tmp 6)⟩,
    ⟨(some 18), none, .bin .add (.tmp 17) (.const (.int .i64 1))⟩,
    ⟨(some 6), none, .mv (.tmp 18)⟩])))
def c_spec_DrawFindRing : AS :=
  .seq (.ops [⟨(some 2), none, .mv (.const (.slice none 0 0))⟩])
  (.seq (.ops [⟨(some 9), none, .mv (.tmp 0)⟩,
    ⟨(some 10), none, .build (.agg #[.slice none 0 0, .int .i64 0, .int .u64 0]) [(0, 1, (.tmp 9))]⟩,
    ⟨(some 11), none, .box (.tmp 10)⟩,
    ⟨(some 3), none, .mv (.tmp 11)⟩])
  (.seq (.ops [⟨(some 12), none, .mv (.tmp 3)⟩,
    ⟨(some 13), none, .call 24 [(.tmp 12), (.const (.int .i64 7))]⟩,
    ⟨(some 4), none, .mv (.tmp 13)⟩])
  (.seq (.ops [⟨(some 5), none, .mv (.const (.slice none 0 0))⟩])
  (.seq (.seq (.ops [⟨(some 6), none, .mv (.const (.int .i64 0))⟩])
  (.block 0 (.loop 1 [(3, 0), (4, 0), (5, 1), (6, 0)] c_spec_DrawFindRing_l2)))
  (.kept [5] (.seq (.ops [⟨(some 41), none, .mv (.tmp 5)⟩,
    ⟨(some 2), none, .mv (.tmp 41)⟩])
  (.ret)))))))
theorem h_spec_DrawFindRing : (Try.prog.funcs[n_spec_DrawFindRing]?).bind (fun fn => fn.body.bind (comp Try.prog fn.ntmps)) = some (AS.strip c_spec_DrawFindRing) := by kernel_rfl
theorem r_spec_DrawFindRing : (Try.prog.funcs[n_spec_DrawFindRing]?).map (fun fn => (fn.results.toList, fn.ntmps)) = some ([.tmp 2], 42) := by kernel_rfl
-- 18 loop.example/g00850/impl.FindRing
abbrev n_impl_FindRing : Nat := 18
def c_impl_FindRing_l1 : AS :=
  .seq (.ops [⟨(some 19), none, .bin .lss (.tmp 18) (.tmp 17)⟩])
  (.seq (.cond (.tmp 19) (.skip) (.exit 0))
  (.seq (.block 1 (.seq (.ops [⟨(some 20), none, .ia 1 (.tmp 16) (.tmp 18)⟩,
    ⟨(some 21), none, .load none (.tmp 20)⟩,
    ⟨(some 5), none, .mv (.tmp 21)⟩])
  (.seq (.post [(20, 1, [(0, 1)])] (.ops [⟨(some 22), none, .mv (.tmp 5)⟩,
    ⟨(some 23), none, .mkf 40 [(.tmp 1)]⟩,
    ⟨(some 24), none, .call 39 [(.tmp 22), (.tmp 23)]⟩]))
  (.cond (.tmp 24) (.seq (.ops [⟨(some 2), none, .mv (.const (.slice none 0 0))⟩,
    ⟨(some 3), none, .mv (.const (.bool false))⟩])
  (.ret)) (.skip)))))
  (.kept [1, 16, 17, 18] (.ops [⟨(some 25), none, .bin .add (.tmp 18) (.const (.int .i64 1))⟩,
    ⟨(some 18), none, .mv (.tmp 25)⟩]))))
def c_impl_FindRing_l2 : AS :=
  .seq (.ops [⟨(some 61), none, .bin .lss (.tmp 60) (.tmp 59)⟩])
  (.seq (.cond (.tmp 61) (.skip) (.exit 6))
  (.seq (.block 7 (.seq (.ops [⟨(some 62), none, .ia 1 (.tmp 58) (.tmp 60)⟩,
    ⟨(some 63), none, .load none (.tmp 62)⟩,
    ⟨(some 12), none, .mv (.tmp 63)⟩])
  (.seq (.ops [⟨(some 64), none, .mv (.tmp 7)⟩,
    ⟨(some 65), none, .mv (.tmp 12)⟩,
    ⟨(some 66), none, .ia 1 (.tmp 64) (.tmp 65)⟩,
    ⟨(some 67), none, .load none (.tmp 66)⟩,
    ⟨(some 68), none, .mv (.tmp 9)⟩,
    ⟨(some 69), none, .bin .eql (.tmp 67) (.tmp 68)⟩,
    ⟨(some 70), none, .mv (.tmp 69)⟩,
    ⟨(some 71), some (70, true), .mv (.tmp 10)⟩,
    ⟨(some 72), some (70, true), .bin .lss (.tmp 71) (.const (.int .i64 0))⟩,
    ⟨(some 73), some (70, true), .mv (.tmp 72)⟩,
    ⟨(some 74), some (73, false), .mv (.tmp 12)⟩,
    ⟨(some 75), some (73, false), .mv (.tmp 10)⟩,
    ⟨(some 76), some (73, false), .bin .lss (.tmp 74) (.tmp 75)⟩,
    ⟨(some 77), some (70, true), .pick (.tmp 73) (.const (.bool true)) (.tmp 76)⟩,
    ⟨(some 78), none, .pick (.tmp 70) (.tmp 77) (.const (.bool false))⟩])
  (.kept [1, 7, 8, 9, 10, 12, 58, 59, 60, 78] (.cond (.tmp 78) (.ops [⟨(some 79), none, .mv (.tmp 12)⟩,
    ⟨(some 10), none, .mv (.tmp 79)⟩]) (.skip))))))
  (.kept [1, 7, 8, 9, 10, 58, 59, 60] (.ops [⟨(some 80), none, .bin .add (.tmp 60) (.const (.int .i64 1))⟩,
    ⟨(some 60), none, .mv (.tmp 80)⟩]))))
def c_impl_FindRing_l3 : AS :=
  .seq (.seq (.ops [⟨(some 46), none, .mv (.tmp 9)⟩,
    ⟨(some 47), none, .bin .gtr (.tmp 46) (.const (.int .i64 0))⟩])
  (.cond (.tmp 47) (.skip) (.exit 4)))
  (.seq (.block 5 (.seq (.ops [⟨(some 10), none, .mv (.const (.int .i64 (-1)))⟩])
  (.seq (.seq (.dops [⟨(some 50), none, .load none (.tmp 1)⟩,
    ⟨(some 51), none, .mv (.tmp 8)⟩,
    ⟨(some 52), none, .mv (.tmp 8)⟩,
    ⟨(some 53), none, .lens (.tmp 52)⟩,
    ⟨(some 54), none, .bin .sub (.tmp 53) (.const (.int .i64 1))⟩,
    ⟨(some 55), none, .ia 1 (.tmp 51) (.tmp 54)⟩,
    ⟨(some 56), none, .load none (.tmp 55)⟩,
    ⟨(some 57), none, .ia 1 (.tmp 50) (.tmp 56)⟩,
    ⟨(some 58), none, .load none (.tmp 57)⟩,
    ⟨(some 59), none, .lens (.tmp 58)⟩,
    ⟨(some 60), none, .mv (.const (.int .i64 0))⟩])
  (.kept [1, 7, 8, 9, 10, 57, 58, 59, 60] (.block 6 (.loop 1 [(1, 0), (7, 0), (8, 1), (9, 0), (10, 0), (58, 0), (59, 0), (60, 0)] c_impl_FindRing_l2))))
  (.kept [1, 7, 8, 9, 10, 57] (.post [(57, 1, [(0, 1)])] (.ops [⟨(some 81), none, .mv (.tmp 8)⟩,
    ⟨(some 82), none, .mv (.tmp 10)⟩,
    ⟨(some 83), none, .bsl 1 (.int .i64 0) 1 [(0, (.tmp 82))]⟩,
    ⟨(some 84), none, .app 1 8 (.int .i64 0) (.tmp 81) (.tmp 83)⟩,
    ⟨(some 8), none, .mv (.tmp 84)⟩]))))))
  (.kept [1, 7, 8, 9] (.ops [⟨(some 48), none, .mv (.tmp 9)⟩,
    ⟨(some 49), none, .bin .sub (.tmp 48) (.const (.int .i64 1))⟩,
    ⟨(some 9), none, .mv (.tmp 49)⟩])))
def c_impl_FindRing_l4 : AS :=
  .seq (.ops [⟨(some 29), none, .bin .lss (.tmp 28) (.tmp 27)⟩])
  (.seq (.cond (.tmp 29) (.skip) (.exit 2))
  (.seq (.block 3 (.seq (.ops [⟨(some 30), none, .mv (.tmp 28)⟩,
    ⟨(some 6), none, .mv (.tmp 30)⟩])
  (.seq (.ops [⟨(some 31), none, .load none (.tmp 1)⟩,
    ⟨(some 32), none, .mv (.tmp 6)⟩,
    ⟨(some 33), none, .call 41 [(.tmp 31), (.tmp 32)]⟩,
    ⟨(some 7), none, .mv (.tmp 33)⟩])
  (.seq (.seq (.ops [⟨(some 34), none, .mv (.tmp 7)⟩,
    ⟨(some 35), none, .mv (.tmp 6)⟩,
    ⟨(some 36), none, .ia 1 (.tmp 34) (.tmp 35)⟩,
    ⟨(some 37), none, .load none (.tmp 36)⟩,
    ⟨(some 38), none, .bin .eql (.tmp 37) (.const (.int .i64 0))⟩])
  (.cond (.tmp 38) (.exit 3) (.skip)))
  (.seq (.ops [⟨(some 39), none, .mv (.tmp 6)⟩,
    ⟨(some 40), none, .bsl 1 (.int .i64 0) 1 [(0, (.tmp 39))]⟩,
    ⟨(some 8), none, .mv (.tmp 40)⟩])
  (.seq (.seq (.ops [⟨(some 41), none, .mv (.tmp 7)⟩,
    ⟨(some 42), none, .mv (.tmp 6)⟩,
    ⟨(some 43), none, .ia 1 (.tmp 41) (.tmp 42)⟩,
    ⟨(some 44), none, .load none (.tmp 43)⟩,
    ⟨(some 45), none, .bin .sub (.tmp 44) (.const (.int .i64 1))⟩,
    ⟨(some 9), none, .mv (.tmp 45)⟩])
  (.block 4 (.loop 1 [(1, 0), (7, 0), (8, 1), (9, 0)] c_impl_FindRing_l3)))
  (.kept [8] (.seq (.ops [⟨(some 85), none, .mv (.tmp 8)⟩,
    ⟨(some 2), none, .mv (.tmp 85)⟩,
    ⟨(some 3), none, .mv (.const (.bool true))⟩])
  (.ret)))))))))
  (.kept [1, 27, 28] (.ops [⟨(some 86), none, .bin .add (.tmp 28) (.const (.int .i64 1))⟩,
    ⟨(some 28), none, .mv (.tmp 86)⟩]))))
def c_impl_FindRing : AS :=
  .seq (.ops [⟨(some 1), none, .box (.tmp 0)⟩,
    ⟨(some 2), none, .mv (.const (.slice none 0 0))⟩,
    ⟨(some 3), none, .mv (.const (.bool false))⟩])
  (.seq (.seq (.ops [⟨(some 13), none, .load none (.tmp 1)⟩,
    ⟨(some 14), none, .lens (.tmp 13)⟩,
    ⟨(some 15), none, .bin .gtr (.tmp 14) (.const (.int .i64 20))⟩])
  (.cond (.tmp 15) (.seq (.ops [⟨(some 2), none, .mv (.const (.slice none 0 0))⟩,
    ⟨(some 3), none, .mv (.const (.bool false))⟩])
  (.ret)) (.skip)))
  (.seq (.seq (.ops [⟨(some 16), none, .load none (.tmp 1)⟩,
    ⟨(some 17), none, .lens (.tmp 16)⟩,
    ⟨(some 18), none, .mv (.const (.int .i64 0))⟩])
  (.block 0 (.loop 1 [(1, 0), (16, 0), (17, 0), (18, 0)] c_impl_FindRing_l1)))
  (.kept [1] (.seq (.seq (.ops [⟨(some 26), none, .load none (.tmp 1)⟩,
    ⟨(some 27), none, .lens (.tmp 26)⟩,
    ⟨(some 28), none, .mv (.const (.int .i64 0))⟩])
  (.block 2 (.loop 1 [(1, 0), (27, 0), (28, 0)] c_impl_FindRing_l4)))
  (.kept [] (.seq (.ops [⟨(some 2), none, .mv (.const (.slice none 0 0))⟩,
    ⟨(some 3), none, .mv (.const (.bool false))⟩])
  (.ret)))))))
theorem h_impl_FindRing : (Try.prog.funcs[n_impl_FindRing]?).bind (fun fn => fn.body.bind (comp Try.prog fn.ntmps)) = some (AS.strip c_impl_FindRing) := by kernel_rfl
theorem r_impl_FindRing : (Try.prog.funcs[n_impl_FindRing]?).map (fun fn => (fn.results.toList, fn.ntmps)) = some ([.tmp 2, .tmp 3], 87) := by kernel_rfl
-- 19 loop.example/g00850/spec.FindRing
abbrev n_spec_FindRing : Nat := 19
def c_spec_FindRing_l1 : AS :=
  .seq (.ops [⟨(some 16), none, .bin .lss (.tmp 15) (.tmp 14)⟩])
  (.seq (.cond (.tmp 16) (.skip) (.exit 0))
  (.seq (.block 1 (.seq (.ops [⟨(some 17), none, .ia 1 (.tmp 13) (.tmp 15)⟩,
    ⟨(some 18), none, .load none (.tmp 17)⟩,
    ⟨(some 5), none, .mv (.tmp 18)⟩])
  (.seq (.post [(17, 1, [(0, 1)])] (.ops [⟨(some 19), none, .mv (.tmp 5)⟩,
    ⟨(some 20), none, .mv (.tmp 0)⟩,
    ⟨(some 21), none, .lens (.tmp 20)⟩,
    ⟨(some 22), none, .bin .sub (.tmp 21) (.const (.int .i64 1))⟩,
    ⟨(some 23), none, .call 42 [(.tmp 19), (.const (.int .i64 0)), (.tmp 22)]⟩,
    ⟨(some 24), none, .not (.tmp 23)⟩]))
  (.cond (.tmp 24) (.seq (.ops [⟨(some 2), none, .mv (.const (.slice none 0 0))⟩,
    ⟨(some 3), none, .mv (.const (.bool false))⟩])
  (.ret)) (.skip)))))
  (.kept [0, 13, 14, 15] (.ops [⟨(some 25), none, .bin .add (.tmp 15) (.const (.int .i64 1))⟩,
    ⟨(some 15), none, .mv (.tmp 25)⟩]))))
def c_spec_FindRing_l2 : AS :=
  .seq (.seq (.ops [⟨(some 44), none, .mv (.tmp 8)⟩,
    ⟨(some 45), none, .mv (.tmp 6)⟩,
    ⟨(some 46), none, .bin .neq (.tmp 44) (.tmp 45)⟩])
  (.cond (.tmp 46) (.skip) (.exit 4)))
  (.block 5 (.seq (.ops [⟨(some 47), none, .mv (.tmp 9)⟩,
    ⟨(some 48), none, .mv (.tmp 8)⟩,
    ⟨(some 49), none, .bsl 1 (.int .i64 0) 1 [(0, (.tmp 48))]⟩,
    ⟨(some 50), none, .app 1 8 (.int .i64 0) (.tmp 47) (.tmp 49)⟩,
    ⟨(some 9), none, .mv (.tmp 50)⟩])
  (.post [(53, 1, [(0, 1)])] (.ops [⟨(some 51), none, .mv (.tmp 0)⟩,
    ⟨(some 52), none, .mv (.tmp 8)⟩,
    ⟨(some 53), none, .ia 1 (.tmp 51) (.tmp 52)⟩,
    ⟨(some 54), none, .load none (.tmp 53)⟩,
    ⟨(some 55), none, .mv (.tmp 7)⟩,
    ⟨(some 56), none, .call 44 [(.tmp 54), (.tmp 55)]⟩,
    ⟨(some 8), none, .mv (.tmp 56)⟩]))))
def c_spec_FindRing_l3 : AS :=
  .seq (.ops [⟨(some 29), none, .bin .lss (.tmp 28) (.tmp 27)⟩])
  (.seq (.cond (.tmp 29) (.skip) (.exit 2))
  (.seq (.block 3 (.seq (.ops [⟨(some 30), none, .mv (.tmp 28)⟩,
    ⟨(some 6), none, .mv (.tmp 30)⟩])
  (.seq (.ops [⟨(some 31), none, .mv (.tmp 0)⟩,
    ⟨(some 32), none, .mv (.tmp 6)⟩,
    ⟨(some 33), none, .call 43 [(.tmp 31), (.tmp 32)]⟩,
    ⟨(some 7), none, .mv (.tmp 33)⟩])
  (.seq (.post [(36, 1, [(0, 1)])] (.ops [⟨(some 34), none, .mv (.tmp 0)⟩,
    ⟨(some 35), none, .mv (.tmp 6)⟩,
    ⟨(some 36), none, .ia 1 (.tmp 34) (.tmp 35)⟩,
    ⟨(some 37), none, .load none (.tmp 36)⟩,
    ⟨(some 38), none, .mv (.tmp 7)⟩,
    ⟨(some 39), none, .call 44 [(.tmp 37), (.tmp 38)]⟩,
    ⟨(some 8), none, .mv (.tmp 39)⟩]))
  (.kept [0, 6, 7, 8, 27, 28] (.seq (.seq (.ops [⟨(some 40), none, .mv (.tmp 8)⟩,
    ⟨(some 41), none, .bin .lss (.tmp 40) (.const (.int .i64 0))⟩])
  (.cond (.tmp 41) (.exit 3) (.skip)))
  (.seq (.ops [⟨(some 42), none, .mv (.tmp 6)⟩,
    ⟨(some 43), none, .bsl 1 (.int .i64 0) 1 [(0, (.tmp 42))]⟩,
    ⟨(some 9), none, .mv (.tmp 43)⟩])
  (.seq (.block 4 (.loop 1 [(0, 0), (6, 0), (7, 0), (8, 0), (9, 1)] c_spec_FindRing_l2))
  (.kept [9] (.seq (.ops [⟨(some 57), none, .mv (.tmp 9)⟩,
    ⟨(some 2), none, .mv (.tmp 57)⟩,
    ⟨(some 3), none, .mv (.const (.bool true))⟩])
  (.ret)))))))))))
  (.kept [0, 27, 28] (.ops [⟨(some 58), none, .bin .add (.tmp 28) (.const (.int .i64 1))⟩,
    ⟨(some 28), none, .mv (.tmp 58)⟩]))))
def c_spec_FindRing : AS :=
  .seq (.ops [⟨(some 2), none, .mv (.const (.slice none 0 0))⟩,
    ⟨(some 3), none, .mv (.const (.bool false))⟩])
  (.seq (.seq (.ops [⟨(some 10), none, .mv (.tmp 0)⟩,
    ⟨(some 11), none, .lens (.tmp 10)⟩,
    ⟨(some 12), none, .bin .gtr (.tmp 11) (.const (.int .i64 20))⟩])
  (.cond (.tmp 12) (.seq (.ops [⟨(some 2), none, .mv (.const (.slice none 0 0))⟩,
    ⟨(some 3), none, .mv (.const (.bool false))⟩])
  (.ret)) (.skip)))
  (.seq (.seq (.ops [⟨(some 13), none, .mv (.tmp 0)⟩,
    ⟨(some 14), none, .lens (.tmp 13)⟩,
    ⟨(some 15), none, .mv (.const (.int .i64 0))⟩])
  (.block 0 (.loop 1 [(0, 0), (13, 0), (14, 0), (15, 0)] c_spec_FindRing_l1)))
  (.kept [0] (.seq (.seq (.ops [⟨(some 26), none, .mv (.tmp 0)⟩,
    ⟨(some 27), none, .lens (.tmp 26)⟩,
    ⟨(some 28), none, .mv (.const (.int .i64 0))⟩])
  (.block 2 (.loop 1 [(0, 0), (27, 0), (28, 0)] c_spec_FindRing_l3)))
  (.kept [] (.seq (.ops [⟨(some 2), none, .mv (.const (.slice none 0 0))⟩,
    ⟨(some 3), none, .mv (.const (.bool false))⟩])
  (.ret)))))))
theorem h_spec_FindRing : (Try.prog.funcs[n_spec_FindRing]?).bind (fun fn => fn.body.bind (comp Try.prog fn.ntmps)) = some (AS.strip c_spec_FindRing) := by kernel_rfl
theorem r_spec_FindRing : (Try.prog.funcs[n_spec_FindRing]?).map (fun fn => (fn.results.toList, fn.ntmps)) = some ([.tmp 2, .tmp 3], 59) := by kernel_rfl
-- 20 loop.example/g00850/laws.sameInts
abbrev n_laws_sameInts : Nat := 20
def c_laws_sameInts_l1 : AS :=
  .seq (.ops [⟨(some 14), none, .bin .lss (.tmp 13) (.tmp 12)⟩])
  (.seq (.cond (.tmp 14) (.skip) (.exit 0))
  (.seq (.block 1 (.seq (.ops [⟨(some 15), none, .mv (.tmp 13)⟩,
    ⟨(some 5), none, .mv (.tmp 15)⟩])
  (.seq (.dops [⟨(some 16), none, .mv (.tmp 0)⟩,
    ⟨(some 17), none, .mv (.tmp 5)⟩,
    ⟨(some 18), none, .ia 1 (.tmp 16) (.tmp 17)⟩,
    ⟨(some 19), none, .load none (.tmp 18)⟩,
    ⟨(some 20), none, .mv (.tmp 1)⟩,
    ⟨(some 21), none, .mv (.tmp 5)⟩,
    ⟨(some 22), none, .ia 1 (.tmp 20) (.tmp 21)⟩,
    ⟨(some 23), none, .load none (.tmp 22)⟩,
    ⟨(some 24), none, .bin .neq (.tmp 19) (.tmp 23)⟩])
  (.kept [0, 1, 12, 13, 24] (.cond (.tmp 24) (.seq (.ops [⟨(some 4), none, .mv (.const (.bool false))⟩])
  (.ret)) (.skip))))))
  (.kept [0, 1, 12, 13] (.ops [⟨(some 25), none, .bin .add (.tmp 13) (.const (.int .i64 1))⟩,
    ⟨(some 13), none, .mv (.tmp 25)⟩]))))
def c_laws_sameInts : AS :=
  .seq (.ops [⟨(some 4), none, .mv (.const (.bool false))⟩])
  (.seq (.seq (.ops [⟨(some 6), none, .mv (.tmp 0)⟩,
    ⟨(some 7), none, .lens (.tmp 6)⟩,
    ⟨(some 8), none, .mv (.tmp 1)⟩,
    ⟨(some 9), none, .lens (.tmp 8)⟩,
    ⟨(some 10), none, .bin .neq (.tmp 7) (.tmp 9)⟩])
  (.cond (.tmp 10) (.seq (.ops [⟨(some 4), none, .mv (.const (.bool false))⟩])
  (.ret)) (.skip)))
  (.kept [0, 1] (.seq (.seq (.ops [⟨(some 11), none, .mv (.tmp 0)⟩,
    ⟨(some 12), none, .lens (.tmp 11)⟩,
    ⟨(some 13), none, .mv (.const (.int .i64 0))⟩])
  (.block 0 (.loop 2 [(0, 0), (1, 0), (12, 0), (13, 0)] c_laws_sameInts_l1)))
  (.kept [] (.seq (.ops [⟨(some 4), none, .mv (.const (.bool true))⟩])
  (.ret))))))
theorem h_laws_sameInts : (Try.prog.funcs[n_laws_sameInts]?).bind (fun fn => fn.body.bind (comp Try.prog fn.ntmps)) = some (AS.strip c_laws_sameInts) := by kernel_rfl
theorem r_laws_sameInts : (Try.prog.funcs[n_laws_sameInts]?).map (fun fn => (fn.results.toList, fn.ntmps)) = some ([.tmp 4], 26) := by kernel_rfl
-- 21 loop.example/g00850/laws.has
abbrev n_laws_has : Nat := 21
def c_laws_has_l1 : AS :=
  .seq (.ops [⟨(some 10), none, .bin .lss (.tmp 9) (.tmp 8)⟩])
  (.seq (.cond (.tmp 10) (.skip) (.exit 0))
  (.seq (.block 1 (.seq (.ops [⟨(some 11), none, .ia 1 (.tmp 7) (.tmp 9)⟩,
    ⟨(some 12), none, .load none (.tmp 11)⟩,
    ⟨(some 6), none, .mv (.tmp 12)⟩])
  (.seq (.ops [⟨(some 13), none, .mv (.tmp 6)⟩,
    ⟨(some 14), none, .mv (.tmp 1)⟩,
    ⟨(some 15), none, .bin .eql (.tmp 13) (.tmp 14)⟩])
  (.cond (.tmp 15) (.seq (.ops [⟨(some 4), none, .mv (.const (.bool true))⟩])
  (.ret)) (.skip)))))
  (.kept [1, 7, 8, 9] (.ops [⟨(some 16), none, .bin .add (.tmp 9) (.const (.int .i64 1))⟩,
    ⟨(some 9), none, .mv (.tmp 16)⟩]))))
def c_laws_has : AS :=
  .seq (.ops [⟨(some 4), none, .mv (.const (.bool false))⟩])
  (.seq (.seq (.ops [⟨(some 7), none, .mv (.tmp 0)⟩,
    ⟨(some 8), none, .lens (.tmp 7)⟩,
    ⟨(some 9), none, .mv (.const (.int .i64 0))⟩])
  (.block 0 (.loop 2 [(1, 0), (7, 0), (8, 0), (9, 0)] c_laws_has_l1)))
  (.kept [] (.seq (.ops [⟨(some 4), none, .mv (.const (.bool false))⟩])
  (.ret))))
theorem h_laws_has : (Try.prog.funcs[n_laws_has]?).bind (fun fn => fn.body.bind (comp Try.prog fn.ntmps)) = some (AS.strip c_laws_has) := by kernel_rfl
theorem r_laws_has : (Try.prog.funcs[n_laws_has]?).map (fun fn => (fn.results.toList, fn.ntmps)) = some ([.tmp 4], 17) := by kernel_rfl
-- 22 (*loop.example/g00850/spec.l1Cur).clock
abbrev n_pspec_l1Cur_clock : Nat := 22
def c_pspec_l1Cur_clock : AS :=
  .seq (.ops [⟨(some 2), none, .alloc (.agg #[.int .i64 0])⟩])
  (.seq (.ops [⟨(some 4), none, .mv (.tmp 0)⟩,
    ⟨(some 5), none, .call 24 [(.tmp 4), (.const (.int .i64 11))]⟩,
    ⟨(some 6), none, .bin .sub (.tmp 5) (.const (.int .i64 5))⟩,
    ⟨(some 7), none, .build (.agg #[.int .i64 0]) [(0, 1, (.tmp 6))]⟩,
    ⟨(some 3), none, .alloc (.agg #[.int .i64 0])⟩,
    ⟨none, none, .store 1 (.tmp 3) (.tmp 7)⟩])
  (.seq (.seq (.ops [⟨(some 8), none, .mv (.tmp 0)⟩,
    ⟨(some 9), none, .call 38 [(.tmp 8), (.const (.int .i64 30))]⟩])
  (.cond (.tmp 9) (.ops [⟨(some 10), none, .mv (.tmp 0)⟩,
    ⟨(some 11), none, .bsl 1 (.int .i64 0) 2 [(0, (.const (.int .i64 6))), (1, (.const (.int .i64 (-6))))]⟩,
    ⟨(some 12), none, .call 45 [(.tmp 10), (.tmp 11)]⟩,
    ⟨(some 13), none, .fa 0 (.tmp 3)⟩,
    ⟨none, none, .store 1 (.tmp 13) (.tmp 12)⟩]) (.skip)))
  (.kept [2, 3] (.seq (.ops [⟨(some 14), none, .load (some 1) (.tmp 3)⟩,
    ⟨none, none, .store 1 (.tmp 2) (.tmp 14)⟩])
  (.ret)))))
theorem h_pspec_l1Cur_clock : (Try.prog.funcs[n_pspec_l1Cur_clock]?).bind (fun fn => fn.body.bind (comp Try.prog fn.ntmps)) = some (AS.strip c_pspec_l1Cur_clock) := by kernel_rfl
theorem r_pspec_l1Cur_clock : (Try.prog.funcs[n_pspec_l1Cur_clock]?).map (fun fn => (fn.results.toList, fn.ntmps)) = some ([.cell 2 25], 15) := by kernel_rfl
-- 23 (*loop.example/g00850/spec.l1Cur).time
abbrev n_pspec_l1Cur_time : Nat := 23
def c_pspec_l1Cur_time : AS :=
  .seq (.ops [⟨(some 2), none, .mv (.const (.int .i64 0))⟩])
  (.seq (.ops [⟨(some 3), none, .mv (.tmp 0)⟩,
    ⟨(some 4), none, .bsl 1 (.int .i64 0) 9 [(0, (.const (.int .i64 0))), (1, (.const (.int .i64 1))), (2, (.const (.int .i64 3))), (3, (.const (.int .i64 7))), (4, (.const (.int .i64 10))), (5, (.const (.int .i64 20))), (6, (.const (.int .i64 50))), (7, (.const (.int .i64 100))), (8, (.const (.int .i64 100000)))]⟩,
    ⟨(some 5), none, .call 45 [(.tmp 3), (.tmp 4)]⟩,
    ⟨(some 2), none, .mv (.tmp 5)⟩])
  (.ret))
theorem h_pspec_l1Cur_time : (Try.prog.funcs[n_pspec_l1Cur_time]?).bind (fun fn => fn.body.bind (comp Try.prog fn.ntmps)) = some (AS.strip c_pspec_l1Cur_time) := by kernel_rfl
theorem r_pspec_l1Cur_time : (Try.prog.funcs[n_pspec_l1Cur_time]?).map (fun fn => (fn.results.toList, fn.ntmps)) = some ([.tmp 2], 6) := by kernel_rfl
-- 24 (*loop.example/g00850/spec.l1Cur).pick
abbrev n_pspec_l1Cur_pick : Nat := 24
def c_pspec_l1Cur_pick : AS :=
  .seq (.ops [⟨(some 4), none, .mv (.const (.int .i64 0))⟩])
  (.seq (.seq (.ops [⟨(some 6), none, .mv (.tmp 1)⟩,
    ⟨(some 7), none, .bin .leq (.tmp 6) (.const (.int .i64 1))⟩])
  (.cond (.tmp 7) (.seq (.ops [⟨(some 4), none, .mv (.const (.int .i64 0))⟩])
  (.ret)) (.skip)))
  (.seq (.ops [⟨(some 8), none, .mv (.tmp 0)⟩,
    ⟨(some 9), none, .call 46 [(.tmp 8)]⟩,
    ⟨(some 5), none, .mv (.tmp 9)⟩])
  (.seq (.seq (.ops [⟨(some 10), none, .mv (.tmp 1)⟩,
    ⟨(some 11), none, .bin .gtr (.tmp 10) (.const (.int .i64 200))⟩])
  (.cond (.tmp 11) (.ops [⟨(some 12), none, .mv (.tmp 5)⟩,
    ⟨(some 13), none, .bin .mul (.tmp 12) (.const (.int .i64 256))⟩,
    ⟨(some 14), none, .mv (.tmp 0)⟩,
    ⟨(some 15), none, .call 46 [(.tmp 14)]⟩,
    ⟨(some 16), none, .bin .add (.tmp 13) (.tmp 15)⟩,
    ⟨(some 5), none, .mv (.tmp 16)⟩]) (.skip)))
  (.kept [1, 5] (.seq (.ops [⟨(some 17), none, .mv (.tmp 5)⟩,
    ⟨(some 18), none, .mv (.tmp 1)⟩,
    ⟨(some 19), none, .bin .rem (.tmp 17) (.tmp 18)⟩,
    ⟨(some 4), none, .mv (.tmp 19)⟩])
  (.ret))))))
theorem h_pspec_l1Cur_pick : (Try.prog.funcs[n_pspec_l1Cur_pick]?).bind (fun fn => fn.body.bind (comp Try.prog fn.ntmps)) = some (AS.strip c_pspec_l1Cur_pick) := by kernel_rfl
theorem r_pspec_l1Cur_pick : (Try.prog.funcs[n_pspec_l1Cur_pick]?).map (fun fn => (fn.results.toList, fn.ntmps)) = some ([.tmp 4], 20) := by kernel_rfl
-- 25 loop.example/g00850/impl.GoodClock
abbrev n_impl_GoodClock : Nat := 25
def c_impl_GoodClock : AS :=
  .seq (.ops [⟨(some 1), none, .box (.tmp 0)⟩,
    ⟨(some 2), none, .mv (.const (.bool false))⟩])
  (.seq (.ops [⟨(some 3), none, .fa 0 (.tmp 1)⟩,
    ⟨(some 4), none, .load none (.tmp 3)⟩,
    ⟨(some 5), none, .call 28 [(.tmp 4), (.const (.int .i64 (-5))), (.const (.int .i64 5))]⟩,
    ⟨(some 2), none, .mv (.tmp 5)⟩])
  (.ret))
theorem h_impl_GoodClock : (Try.prog.funcs[n_impl_GoodClock]?).bind (fun fn => fn.body.bind (comp Try.prog fn.ntmps)) = some (AS.strip c_impl_GoodClock) := by kernel_rfl
theorem r_impl_GoodClock : (Try.prog.funcs[n_impl_GoodClock]?).map (fun fn => (fn.results.toList, fn.ntmps)) = some ([.tmp 2], 6) := by kernel_rfl
-- 26 loop.example/g00850/impl.isTrue
abbrev n_impl_isTrue : Nat := 26
def c_impl_isTrue : AS :=
  .seq (.ops [⟨(some 2), none, .mv (.const (.bool false))⟩])
  (.seq (.ops [⟨(some 3), none, .mv (.tmp 0)⟩,
    ⟨(some 4), none, .call 28 [(.tmp 3), (.const (.int .i64 0)), (.const (.int .i64 100000))]⟩,
    ⟨(some 2), none, .mv (.tmp 4)⟩])
  (.ret))
theorem h_impl_isTrue : (Try.prog.funcs[n_impl_isTrue]?).bind (fun fn => fn.body.bind (comp Try.prog fn.ntmps)) = some (AS.strip c_impl_isTrue) := by kernel_rfl
theorem r_impl_isTrue : (Try.prog.funcs[n_impl_isTrue]?).map (fun fn => (fn.results.toList, fn.ntmps)) = some ([.tmp 2], 5) := by kernel_rfl
-- 27 (loop.example/g00850/impl.Clock).span
abbrev n_impl_Clock_span : Nat := 27
def c_impl_Clock_span : AS :=
  .seq (.ops [⟨(some 2), none, .box (.tmp 0)⟩,
    ⟨(some 4), none, .alloc (.agg #[.int .i64 0, .int .i64 0])⟩])
  (.seq (.ops [⟨(some 5), none, .mv (.tmp 1)⟩,
    ⟨(some 6), none, .fa 0 (.tmp 2)⟩,
    ⟨(some 7), none, .load none (.tmp 6)⟩,
    ⟨(some 8), none, .bin .add (.tmp 5) (.tmp 7)⟩,
    ⟨(some 9), none, .bin .sub (.tmp 8) (.const (.int .i64 5))⟩,
    ⟨(some 10), none, .mv (.tmp 1)⟩,
    ⟨(some 11), none, .fa 0 (.tmp 2)⟩,
    ⟨(some 12), none, .load none (.tmp 11)⟩,
    ⟨(some 13), none, .bin .add (.tmp 10) (.tmp 12)⟩,
    ⟨(some 14), none, .bin .add (.tmp 13) (.const (.int .i64 5))⟩,
    ⟨(some 15), none, .build (.agg #[.int .i64 0, .int .i64 0]) [(0, 1, (.tmp 9)), (1, 1, (.tmp 14))]⟩,
    ⟨none, none, .store 2 (.tmp 4) (.tmp 15)⟩])
  (.ret))
theorem h_impl_Clock_span : (Try.prog.funcs[n_impl_Clock_span]?).bind (fun fn => fn.body.bind (comp Try.prog fn.ntmps)) = some (AS.strip c_impl_Clock_span) := by kernel_rfl
theorem r_impl_Clock_span : (Try.prog.funcs[n_impl_Clock_span]?).map (fun fn => (fn.results.toList, fn.ntmps)) = some ([.cell 4 29], 16) := by kernel_rfl
-- 28 loop.example/g00850/impl.within
abbrev n_impl_within : Nat := 28
def c_impl_within : AS :=
  .seq (.ops [⟨(some 6), none, .mv (.const (.bool false))⟩])
  (.seq (.ops [⟨(some 7), none, .mv (.tmp 0)⟩,
    ⟨(some 8), none, .mv (.tmp 1)⟩,
    ⟨(some 9), none, .bin .geq (.tmp 7) (.tmp 8)⟩,
    ⟨(some 10), none, .mv (.tmp 9)⟩,
    ⟨(some 11), some (10, true), .mv (.tmp 0)⟩,
    ⟨(some 12), some (10, true), .mv (.tmp 2)⟩,
    ⟨(some 13), some (10, true), .bin .leq (.tmp 11) (.tmp 12)⟩,
    ⟨(some 14), none, .pick (.tmp 10) (.tmp 13) (.const (.bool false))⟩,
    ⟨(some 6), none, .mv (.tmp 14)⟩])
  (.ret))
theorem h_impl_within : (Try.prog.funcs[n_impl_within]?).bind (fun fn => fn.body.bind (comp Try.prog fn.ntmps)) = some (AS.strip c_impl_within) := by kernel_rfl
theorem r_impl_within : (Try.prog.funcs[n_impl_within]?).map (fun fn => (fn.results.toList, fn.ntmps)) = some ([.tmp 6], 15) := by kernel_rfl
-- 29 slices.ContainsFunc[[]loop.example/g00850/impl.Span,loop.example/g00850/impl.Span]
abbrev n_slices_ContainsFunc___impl_Span_impl_Span_ : Nat := 29
def c_slices_ContainsFunc___impl_Span_impl_Span_ : AS :=
  .seq (.ops [⟨(some 4), none, .mv (.const (.bool false))⟩])
  (.seq (.ops [⟨(some 5), none, .mv (.tmp 0)⟩,
    ⟨(some 6), none, .mv (.tmp 1)⟩,
    ⟨(some 7), none, .call 47 [(.tmp 5), (.tmp 6)]⟩,
    ⟨(some 8), none, .bin .geq (.tmp 7) (.const (.int .i64 0))⟩,
    ⟨(some 4), none, .mv (.tmp 8)⟩])
  (.ret))
theorem h_slices_ContainsFunc___impl_Span_impl_Span_ : (Try.prog.funcs[n_slices_ContainsFunc___impl_Span_impl_Span_]?).bind (fun fn => fn.body.bind (comp Try.prog fn.ntmps)) = some (AS.strip c_slices_ContainsFunc___impl_Span_impl_Span_) := by kernel_rfl
theorem r_slices_ContainsFunc___impl_Span_impl_Span_ : (Try.prog.funcs[n_slices_ContainsFunc___impl_Span_impl_Span_]?).map (fun fn => (fn.results.toList, fn.ntmps)) = some ([.tmp 4], 9) := by kernel_rfl
-- 30 loop.example/g00850/impl.MeetSpans$1
abbrev n_impl_MeetSpans_1 : Nat := 30
def c_impl_MeetSpans_1 : AS :=
  .seq (.ops [⟨(some 1), none, .box (.tmp 0)⟩,
    ⟨(some 2), none, .mv (.const (.bool false))⟩])
  (.seq (.ops [⟨(some 3), none, .load (some 2) (.tmp 1)⟩,
    ⟨(some 4), none, .call 31 [(.tmp 3)]⟩,
    ⟨(some 5), none, .not (.tmp 4)⟩,
    ⟨(some 2), none, .mv (.tmp 5)⟩])
  (.ret))
theorem h_impl_MeetSpans_1 : (Try.prog.funcs[n_impl_MeetSpans_1]?).bind (fun fn => fn.body.bind (comp Try.prog fn.ntmps)) = some (AS.strip c_impl_MeetSpans_1) := by kernel_rfl
theorem r_impl_MeetSpans_1 : (Try.prog.funcs[n_impl_MeetSpans_1]?).map (fun fn => (fn.results.toList, fn.ntmps)) = some ([.tmp 2], 6) := by kernel_rfl
-- 31 loop.example/g00850/impl.GoodSpan
abbrev n_impl_GoodSpan : Nat := 31
def c_impl_GoodSpan : AS :=
  .seq (.ops [⟨(some 1), none, .box (.tmp 0)⟩,
    ⟨(some 2), none, .mv (.const (.bool false))⟩])
  (.seq (.ops [⟨(some 3), none, .fa 0 (.tmp 1)⟩,
    ⟨(some 4), none, .load none (.tmp 3)⟩,
    ⟨(some 5), none, .fa 1 (.tmp 1)⟩,
    ⟨(some 6), none, .load none (.tmp 5)⟩,
    ⟨(some 7), none, .bin .leq (.tmp 4) (.tmp 6)⟩,
    ⟨(some 8), none, .mv (.tmp 7)⟩,
    ⟨(some 9), some (8, true), .fa 0 (.tmp 1)⟩,
    ⟨(some 10), some (8, true), .load none (.tmp 9)⟩,
    ⟨(some 11), some (8, true), .bin .geq (.tmp 10) (.const (.int .i64 (-10)))⟩,
    ⟨(some 12), none, .pick (.tmp 8) (.tmp 11) (.const (.bool false))⟩,
    ⟨(some 13), none, .mv (.tmp 12)⟩,
    ⟨(some 14), some (13, true), .fa 1 (.tmp 1)⟩,
    ⟨(some 15), some (13, true), .load none (.tmp 14)⟩,
    ⟨(some 16), some (13, true), .bin .leq (.tmp 15) (.const (.int .i64 100010))⟩,
    ⟨(some 17), none, .pick (.tmp 13) (.tmp 16) (.const (.bool false))⟩,
    ⟨(some 2), none, .mv (.tmp 17)⟩])
  (.ret))
theorem h_impl_GoodSpan : (Try.prog.funcs[n_impl_GoodSpan]?).bind (fun fn => fn.body.bind (comp Try.prog fn.ntmps)) = some (AS.strip c_impl_GoodSpan) := by kernel_rfl
theorem r_impl_GoodSpan : (Try.prog.funcs[n_impl_GoodSpan]?).map (fun fn => (fn.results.toList, fn.ntmps)) = some ([.tmp 2], 18) := by kernel_rfl
-- 32 (*loop.example/g00850/spec.l1Cur).span
abbrev n_pspec_l1Cur_span : Nat := 32
def c_pspec_l1Cur_span : AS :=
  .seq (.ops [⟨(some 2), none, .alloc (.agg #[.int .i64 0, .int .i64 0])⟩])
  (.seq (.ops [⟨(some 5), none, .mv (.tmp 0)⟩,
    ⟨(some 6), none, .call 24 [(.tmp 5), (.const (.int .i64 30))]⟩,
    ⟨(some 7), none, .bin .sub (.tmp 6) (.const (.int .i64 5))⟩,
    ⟨(some 3), none, .mv (.tmp 7)⟩])
  (.seq (.ops [⟨(some 8), none, .mv (.tmp 3)⟩,
    ⟨(some 9), none, .mv (.tmp 3)⟩,
    ⟨(some 10), none, .mv (.tmp 0)⟩,
    ⟨(some 11), none, .call 24 [(.tmp 10), (.const (.int .i64 12))]⟩,
    ⟨(some 12), none, .bin .add (.tmp 9) (.tmp 11)⟩,
    ⟨(some 13), none, .build (.agg #[.int .i64 0, .int .i64 0]) [(0, 1, (.tmp 8)), (1, 1, (.tmp 12))]⟩,
    ⟨(some 4), none, .alloc (.agg #[.int .i64 0, .int .i64 0])⟩,
    ⟨none, none, .store 2 (.tmp 4) (.tmp 13)⟩])
  (.kept [0, 2, 3, 4] (.seq (.seq (.ops [⟨(some 14), none, .mv (.tmp 0)⟩,
    ⟨(some 15), none, .call 24 [(.tmp 14), (.const (.int .i64 30))]⟩])
  (.block 0 (.seq (.ops [⟨(some 17), none, .bin .eql (.tmp 15) (.const (.int .i64 0))⟩,
    ⟨(some 16), none, .mv (.tmp 17)⟩])
  (.cond (.tmp 16) (.ops [⟨(some 18), none, .mv (.tmp 3)⟩,
    ⟨(some 19), none, .bin .sub (.tmp 18) (.const (.int .i64 1))⟩,
    ⟨(some 20), none, .fa 1 (.tmp 4)⟩,
    ⟨none, none, .store 1 (.tmp 20) (.tmp 19)⟩]) (.seq (.ops [⟨(some 22), none, .bin .eql (.tmp 15) (.const (.int .i64 1))⟩,
    ⟨(some 21), none, .mv (.tmp 22)⟩])
  (.cond (.tmp 21) (.ops [⟨(some 23), none, .build (.agg #[.int .i64 0, .int .i64 0]) [(0, 1, (.const (.int .i64 (-10)))), (1, 1, (.const (.int .i64 100010)))]⟩,
    ⟨none, none, .store 2 (.tmp 4) (.tmp 23)⟩]) (.seq (.ops [⟨(some 25), none, .bin .eql (.tmp 15) (.const (.int .i64 2))⟩,
    ⟨(some 24), none, .mv (.tmp 25)⟩])
  (.cond (.tmp 24) (.ops [⟨(some 26), none, .fa 1 (.tmp 4)⟩,
    ⟨none, none, .store 1 (.tmp 26) (.const (.int .i64 100011))⟩]) (.skip)))))))))
  (.kept [2, 4] (.seq (.ops [⟨(some 27), none, .load (some 2) (.tmp 4)⟩,
    ⟨none, none, .store 2 (.tmp 2) (.tmp 27)⟩])
  (.ret)))))))
theorem h_pspec_l1Cur_span : (Try.prog.funcs[n_pspec_l1Cur_span]?).bind (fun fn => fn.body.bind (comp Try.prog fn.ntmps)) = some (AS.strip c_pspec_l1Cur_span) := by kernel_rfl
theorem r_pspec_l1Cur_span : (Try.prog.funcs[n_pspec_l1Cur_span]?).map (fun fn => (fn.results.toList, fn.ntmps)) = some ([.cell 2 29], 28) := by kernel_rfl
-- 33 loop.example/g00850/spec.l1In
abbrev n_spec_l1In : Nat := 33
def c_spec_l1In : AS :=
  .seq (.ops [⟨(some 6), none, .mv (.const (.bool false))⟩])
  (.seq (.ops [⟨(some 7), none, .mv (.tmp 0)⟩,
    ⟨(some 8), none, .mv (.tmp 1)⟩,
    ⟨(some 9), none, .bin .geq (.tmp 7) (.tmp 8)⟩,
    ⟨(some 10), none, .mv (.tmp 9)⟩,
    ⟨(some 11), some (10, true), .mv (.tmp 0)⟩,
    ⟨(some 12), some (10, true), .mv (.tmp 2)⟩,
    ⟨(some 13), some (10, true), .bin .leq (.tmp 11) (.tmp 12)⟩,
    ⟨(some 14), none, .pick (.tmp 10) (.tmp 13) (.const (.bool false))⟩,
    ⟨(some 6), none, .mv (.tmp 14)⟩])
  (.ret))
theorem h_spec_l1In : (Try.prog.funcs[n_spec_l1In]?).bind (fun fn => fn.body.bind (comp Try.prog fn.ntmps)) = some (AS.strip c_spec_l1In) := by kernel_rfl
theorem r_spec_l1In : (Try.prog.funcs[n_spec_l1In]?).map (fun fn => (fn.results.toList, fn.ntmps)) = some ([.tmp 6], 15) := by kernel_rfl
-- 34 loop.example/g00850/spec.l2Span
abbrev n_spec_l2Span : Nat := 34
def c_spec_l2Span : AS :=
  .seq (.ops [⟨(some 1), none, .box (.tmp 0)⟩,
    ⟨(some 2), none, .mv (.const (.bool false))⟩])
  (.seq (.ops [⟨(some 3), none, .fa 0 (.tmp 1)⟩,
    ⟨(some 4), none, .load none (.tmp 3)⟩,
    ⟨(some 5), none, .fa 1 (.tmp 1)⟩,
    ⟨(some 6), none, .load none (.tmp 5)⟩,
    ⟨(some 7), none, .bin .leq (.tmp 4) (.tmp 6)⟩,
    ⟨(some 8), none, .mv (.tmp 7)⟩,
    ⟨(some 9), some (8, true), .fa 0 (.tmp 1)⟩,
    ⟨(some 10), some (8, true), .load none (.tmp 9)⟩,
    ⟨(some 11), some (8, true), .bin .geq (.tmp 10) (.const (.int .i64 (-10)))⟩,
    ⟨(some 12), none, .pick (.tmp 8) (.tmp 11) (.const (.bool false))⟩,
    ⟨(some 13), none, .mv (.tmp 12)⟩,
    ⟨(some 14), some (13, true), .fa 1 (.tmp 1)⟩,
    ⟨(some 15), some (13, true), .load none (.tmp 14)⟩,
    ⟨(some 16), some (13, true), .bin .leq (.tmp 15) (.const (.int .i64 100010))⟩,
    ⟨(some 17), none, .pick (.tmp 13) (.tmp 16) (.const (.bool false))⟩,
    ⟨(some 2), none, .mv (.tmp 17)⟩])
  (.ret))
theorem h_spec_l2Span : (Try.prog.funcs[n_spec_l2Span]?).bind (fun fn => fn.body.bind (comp Try.prog fn.ntmps)) = some (AS.strip c_spec_l2Span) := by kernel_rfl
theorem r_spec_l2Span : (Try.prog.funcs[n_spec_l2Span]?).map (fun fn => (fn.results.toList, fn.ntmps)) = some ([.tmp 2], 18) := by kernel_rfl
-- 35 loop.example/g00850/spec.l1Most
abbrev n_spec_l1Most : Nat := 35
def c_spec_l1Most : AS :=
  .seq (.ops [⟨(some 4), none, .mv (.const (.int .i64 0))⟩])
  (.seq (.seq (.ops [⟨(some 5), none, .mv (.tmp 0)⟩,
    ⟨(some 6), none, .mv (.tmp 1)⟩,
    ⟨(some 7), none, .bin .gtr (.tmp 5) (.tmp 6)⟩])
  (.cond (.tmp 7) (.seq (.ops [⟨(some 8), none, .mv (.tmp 0)⟩,
    ⟨(some 4), none, .mv (.tmp 8)⟩])
  (.ret)) (.skip)))
  (.seq (.ops [⟨(some 9), none, .mv (.tmp 1)⟩,
    ⟨(some 4), none, .mv (.tmp 9)⟩])
  (.ret)))
theorem h_spec_l1Most : (Try.prog.funcs[n_spec_l1Most]?).bind (fun fn => fn.body.bind (comp Try.prog fn.ntmps)) = some (AS.strip c_spec_l1Most) := by kernel_rfl
theorem r_spec_l1Most : (Try.prog.funcs[n_spec_l1Most]?).map (fun fn => (fn.results.toList, fn.ntmps)) = some ([.tmp 4], 10) := by kernel_rfl
-- 36 loop.example/g00850/spec.l1Least
abbrev n_spec_l1Least : Nat := 36
def c_spec_l1Least : AS :=
  .seq (.ops [⟨(some 4), none, .mv (.const (.int .i64 0))⟩])
  (.seq (.seq (.ops [⟨(some 5), none, .mv (.tmp 0)⟩,
    ⟨(some 6), none, .mv (.tmp 1)⟩,
    ⟨(some 7), none, .bin .lss (.tmp 5) (.tmp 6)⟩])
  (.cond (.tmp 7) (.seq (.ops [⟨(some 8), none, .mv (.tmp 0)⟩,
    ⟨(some 4), none, .mv (.tmp 8)⟩])
  (.ret)) (.skip)))
  (.seq (.ops [⟨(some 9), none, .mv (.tmp 1)⟩,
    ⟨(some 4), none, .mv (.tmp 9)⟩])
  (.ret)))
theorem h_spec_l1Least : (Try.prog.funcs[n_spec_l1Least]?).bind (fun fn => fn.body.bind (comp Try.prog fn.ntmps)) = some (AS.strip c_spec_l1Least) := by kernel_rfl
theorem r_spec_l1Least : (Try.prog.funcs[n_spec_l1Least]?).map (fun fn => (fn.results.toList, fn.ntmps)) = some ([.tmp 4], 10) := by kernel_rfl
-- 37 loop.example/g00850/spec.l2True
abbrev n_spec_l2True : Nat := 37
def c_spec_l2True : AS :=
  .seq (.ops [⟨(some 2), none, .mv (.const (.bool false))⟩])
  (.seq (.ops [⟨(some 3), none, .mv (.tmp 0)⟩,
    ⟨(some 4), none, .call 33 [(.tmp 3), (.const (.int .i64 0)), (.const (.int .i64 100000))]⟩,
    ⟨(some 2), none, .mv (.tmp 4)⟩])
  (.ret))
theorem h_spec_l2True : (Try.prog.funcs[n_spec_l2True]?).bind (fun fn => fn.body.bind (comp Try.prog fn.ntmps)) = some (AS.strip c_spec_l2True) := by kernel_rfl
theorem r_spec_l2True : (Try.prog.funcs[n_spec_l2True]?).map (fun fn => (fn.results.toList, fn.ntmps)) = some ([.tmp 2], 5) := by kernel_rfl
-- 38 (*loop.example/g00850/spec.l1Cur).one
abbrev n_pspec_l1Cur_one : Nat := 38
def c_pspec_l1Cur_one : AS :=
  .seq (.ops [⟨(some 4), none, .mv (.const (.bool false))⟩])
  (.seq (.ops [⟨(some 5), none, .mv (.tmp 0)⟩,
    ⟨(some 6), none, .mv (.tmp 1)⟩,
    ⟨(some 7), none, .call 24 [(.tmp 5), (.tmp 6)]⟩,
    ⟨(some 8), none, .bin .eql (.tmp 7) (.const (.int .i64 0))⟩,
    ⟨(some 4), none, .mv (.tmp 8)⟩])
  (.ret))
theorem h_pspec_l1Cur_one : (Try.prog.funcs[n_pspec_l1Cur_one]?).bind (fun fn => fn.body.bind (comp Try.prog fn.ntmps)) = some (AS.strip c_pspec_l1Cur_one) := by kernel_rfl
theorem r_pspec_l1Cur_one : (Try.prog.funcs[n_pspec_l1Cur_one]?).map (fun fn => (fn.results.toList, fn.ntmps)) = some ([.tmp 4], 9) := by kernel_rfl
-- 39 slices.ContainsFunc[[]int,int]
abbrev n_slices_ContainsFunc___int_int_ : Nat := 39
def c_slices_ContainsFunc___int_int_ : AS :=
  .seq (.ops [⟨(some 4), none, .mv (.const (.bool false))⟩])
  (.seq (.ops [⟨(some 5), none, .mv (.tmp 0)⟩,
    ⟨(some 6), none, .mv (.tmp 1)⟩,
    ⟨(some 7), none, .call 48 [(.tmp 5), (.tmp 6)]⟩,
    ⟨(some 8), none, .bin .geq (.tmp 7) (.const (.int .i64 0))⟩,
    ⟨(some 4), none, .mv (.tmp 8)⟩])
  (.ret))
theorem h_slices_ContainsFunc___int_int_ : (Try.prog.funcs[n_slices_ContainsFunc___int_int_]?).bind (fun fn => fn.body.bind (comp Try.prog fn.ntmps)) = some (AS.strip c_slices_ContainsFunc___int_int_) := by kernel_rfl
theorem r_slices_ContainsFunc___int_int_ : (Try.prog.funcs[n_slices_ContainsFunc___int_int_]?).map (fun fn => (fn.results.toList, fn.ntmps)) = some ([.tmp 4], 9) := by kernel_rfl
-- 40 loop.example/g00850/impl.FindRing$1
abbrev n_impl_FindRing_1 : Nat := 40
def c_impl_FindRing_1 : AS :=
  .seq (.ops [⟨(some 3), none, .mv (.const (.bool false))⟩])
  (.seq (.ops [⟨(some 4), none, .mv (.tmp 0)⟩,
    ⟨(some 5), none, .load none (.tmp 1)⟩,
    ⟨(some 6), none, .lens (.tmp 5)⟩,
    ⟨(some 7), none, .bin .sub (.tmp 6) (.const (.int .i64 1))⟩,
    ⟨(some 8), none, .call 28 [(.tmp 4), (.const (.int .i64 0)), (.tmp 7)]⟩,
    ⟨(some 9), none, .not (.tmp 8)⟩,
    ⟨(some 3), none, .mv (.tmp 9)⟩])
  (.ret))
theorem h_impl_FindRing_1 : (Try.prog.funcs[n_impl_FindRing_1]?).bind (fun fn => fn.body.bind (comp Try.prog fn.ntmps)) = some (AS.strip c_impl_FindRing_1) := by kernel_rfl
theorem r_impl_FindRing_1 : (Try.prog.funcs[n_impl_FindRing_1]?).map (fun fn => (fn.results.toList, fn.ntmps)) = some ([.tmp 3], 10) := by kernel_rfl
-- 41 loop.example/g00850/impl.distances
abbrev n_impl_distances : Nat := 41
def c_impl_distances_l1 : AS :=
  .seq (.ops [⟨(some 21), none, .bin .lss (.tmp 20) (.tmp 19)⟩])
  (.seq (.cond (.tmp 21) (.skip) (.exit 2))
  (.seq (.block 3 (.seq (.ops [⟨(some 22), none, .mv (.tmp 20)⟩,
    ⟨(some 23), none, .ia 1 (.tmp 18) (.tmp 20)⟩,
    ⟨(some 24), none, .load none (.tmp 23)⟩,
    ⟨(some 7), none, .mv (.tmp 22)⟩,
    ⟨(some 8), none, .mv (.tmp 24)⟩])
  (.seq (.post [(23, 1, [(0, 1)])] (.ops [⟨(some 25), none, .load none (.tmp 5)⟩,
    ⟨(some 26), none, .mv (.tmp 7)⟩,
    ⟨(some 27), none, .ia 1 (.tmp 25) (.tmp 26)⟩,
    ⟨(some 28), none, .load none (.tmp 27)⟩,
    ⟨(some 29), none, .bin .eql (.tmp 28) (.const (.int .i64 0))⟩,
    ⟨(some 30), none, .mv (.tmp 29)⟩,
    ⟨(some 31), some (30, true), .mv (.tmp 8)⟩,
    ⟨(some 32), some (30, true), .mkf 49 [(.tmp 6), (.tmp 3), (.tmp 5)]⟩,
    ⟨(some 33), some (30, true), .call 39 [(.tmp 31), (.tmp 32)]⟩,
    ⟨(some 34), none, .pick (.tmp 30) (.tmp 33) (.const (.bool false))⟩]))
  (.kept [0, 3, 5, 6, 7, 18, 19, 20, 34] (.cond (.tmp 34) (.ops [⟨(some 35), none, .load none (.tmp 5)⟩,
    ⟨(some 36), none, .mv (.tmp 7)⟩,
    ⟨(some 37), none, .load none (.tmp 6)⟩,
    ⟨(some 38), none, .ia 1 (.tmp 35) (.tmp 36)⟩,
    ⟨none, none, .store 1 (.tmp 38) (.tmp 37)⟩]) (.skip))))))
  (.kept [0, 3, 5, 6, 18, 19, 20] (.ops [⟨(some 39), none, .bin .add (.tmp 20) (.const (.int .i64 1))⟩,
    ⟨(some 20), none, .mv (.tmp 39)⟩]))))
def c_impl_distances_l2 : AS :=
  .seq (.seq (.ops [⟨(some 12), none, .load none (.tmp 6)⟩,
    ⟨(some 13), none, .mv (.tmp 0)⟩,
    ⟨(some 14), none, .lens (.tmp 13)⟩,
    ⟨(some 15), none, .bin .leq (.tmp 12) (.tmp 14)⟩])
  (.cond (.tmp 15) (.skip) (.exit 0)))
  (.seq (.block 1 (.seq (.ops [⟨(some 18), none, .mv (.tmp 0)⟩,
    ⟨(some 19), none, .lens (.tmp 18)⟩,
    ⟨(some 20), none, .mv (.const (.int .i64 0))⟩])
  (.block 2 (.loop 2 [(0, 0), (3, 0), (5, 0), (6, 0), (18, 0), (19, 0), (20, 0)] c_impl_distances_l1))))
  (.kept [0, 3, 5, 6] (.seq (.seq (.ops [⟨(some 40), none, .load none (.tmp 6)⟩])
  (.ops [⟨(some 6), none, .alloc (.int .i64 0)⟩,
    ⟨none, none, .store 1 (.tmp 6) (.tmp 40)⟩]))
  (.ops [⟨(some 16), none, .load none (.tmp 6)⟩,
    ⟨(some 17), none, .bin .add (.tmp 16) (.const (.int .i64 1))⟩,
    ⟨none, none, .store 1 (.tmp 6) (.tmp 17)⟩]))))
def c_impl_distances : AS :=
  .seq (.ops [⟨(some 3), none, .box (.tmp 1)⟩,
    ⟨(some 4), none, .mv (.const (.slice none 0 0))⟩])
  (.seq (.ops [⟨(some 9), none, .mv (.tmp 0)⟩,
    ⟨(some 10), none, .lens (.tmp 9)⟩,
    ⟨(some 11), none, .mks 1 8 (.int .i64 0) (.tmp 10) (.tmp 10)⟩,
    ⟨(some 5), none, .alloc (.slice none 0 0)⟩,
    ⟨none, none, .store 1 (.tmp 5) (.tmp 11)⟩])
  (.seq (.seq (.ops [⟨(some 6), none, .alloc (.int .i64 0)⟩,
    ⟨none, none, .store 1 (.tmp 6) (.const (.int .i64 1))⟩])
  (.block 0 (.loop 2 [(0, 0), (3, 0), (5, 0), (6, 0)] c_impl_distances_l2)))
  (.kept [5] (.seq (.ops [⟨(some 41), none, .load none (.tmp 5)⟩,
    ⟨(some 4), none, .mv (.tmp 41)⟩])
  (.ret)))))
theorem h_impl_distances : (Try.prog.funcs[n_impl_distances]?).bind (fun fn => fn.body.bind (comp Try.prog fn.ntmps)) = some (AS.strip c_impl_distances) := by kernel_rfl
theorem r_impl_distances : (Try.prog.funcs[n_impl_distances]?).map (fun fn => (fn.results.toList, fn.ntmps)) = some ([.tmp 4], 42) := by kernel_rfl
-- 42 loop.example/g00850/spec.l1All
abbrev n_spec_l1All : Nat := 42
def c_spec_l1All_l1 : AS :=
  .seq (.ops [⟨(some 12), none, .bin .lss (.tmp 11) (.tmp 10)⟩])
  (.seq (.cond (.tmp 12) (.skip) (.exit 0))
  (.seq (.block 1 (.seq (.ops [⟨(some 13), none, .ia 1 (.tmp 9) (.tmp 11)⟩,
    ⟨(some 14), none, .load none (.tmp 13)⟩,
    ⟨(some 8), none, .mv (.tmp 14)⟩])
  (.seq (.ops [⟨(some 15), none, .mv (.tmp 8)⟩,
    ⟨(some 16), none, .mv (.tmp 1)⟩,
    ⟨(some 17), none, .mv (.tmp 2)⟩,
    ⟨(some 18), none, .call 33 [(.tmp 15), (.tmp 16), (.tmp 17)]⟩,
    ⟨(some 19), none, .not (.tmp 18)⟩])
  (.cond (.tmp 19) (.seq (.ops [⟨(some 6), none, .mv (.const (.bool false))⟩])
  (.ret)) (.skip)))))
  (.kept [1, 2, 9, 10, 11] (.ops [⟨(some 20), none, .bin .add (.tmp 11) (.const (.int .i64 1))⟩,
    ⟨(some 11), none, .mv (.tmp 20)⟩]))))
def c_spec_l1All : AS :=
  .seq (.ops [⟨(some 6), none, .mv (.const (.bool false))⟩])
  (.seq (.seq (.ops [⟨(some 9), none, .mv (.tmp 0)⟩,
    ⟨(some 10), none, .lens (.tmp 9)⟩,
    ⟨(some 11), none, .mv (.const (.int .i64 0))⟩])
  (.block 0 (.loop 3 [(1, 0), (2, 0), (9, 0), (10, 0), (11, 0)] c_spec_l1All_l1)))
  (.kept [] (.seq (.ops [⟨(some 6), none, .mv (.const (.bool true))⟩])
  (.ret))))
theorem h_spec_l1All : (Try.prog.funcs[n_spec_l1All]?).bind (fun fn => fn.body.bind (comp Try.prog fn.ntmps)) = some (AS.strip c_spec_l1All) := by kernel_rfl
theorem r_spec_l1All : (Try.prog.funcs[n_spec_l1All]?).map (fun fn => (fn.results.toList, fn.ntmps)) = some ([.tmp 6], 21) := by kernel_rfl
-- 43 loop.example/g00850/spec.l12Far
abbrev n_spec_l12Far : Nat := 43
def c_spec_l12Far_l1 : AS :=
  .seq (.ops [⟨(some 17), none, .bin .lss (.tmp 16) (.tmp 15)⟩])
  (.seq (.cond (.tmp 17) (.skip) (.exit 0))
  (.seq (.block 1 (.seq (.ops [⟨(some 18), none, .mv (.tmp 16)⟩,
    ⟨(some 6), none, .mv (.tmp 18)⟩])
  (.ops [⟨(some 19), none, .mv (.tmp 5)⟩,
    ⟨(some 20), none, .mv (.tmp 6)⟩,
    ⟨(some 21), none, .ia 1 (.tmp 19) (.tmp 20)⟩,
    ⟨none, none, .store 1 (.tmp 21) (.const (.int .i64 (-1)))⟩])))
  (.ops [⟨(some 22), none, .bin .add (.tmp 16) (.const (.int .i64 1))⟩,
    ⟨(some 16), none, .mv (.tmp 22)⟩])))
def c_spec_l12Far_l2 : AS :=
  .seq (.ops [⟨(some 40), none, .bin .lss (.tmp 39) (.tmp 38)⟩])
  (.seq (.cond (.tmp 40) (.skip) (.exit 6))
  (.seq (.block 7 (.seq (.ops [⟨(some 41), none, .ia 1 (.tmp 37) (.tmp 39)⟩,
    ⟨(some 42), none, .load none (.tmp 41)⟩,
    ⟨(some 10), none, .mv (.tmp 42)⟩])
  (.seq (.dops [⟨(some 43), none, .mv (.tmp 5)⟩,
    ⟨(some 44), none, .mv (.tmp 10)⟩,
    ⟨(some 45), none, .ia 1 (.tmp 43) (.tmp 44)⟩,
    ⟨(some 46), none, .load none (.tmp 45)⟩,
    ⟨(some 47), none, .bin .geq (.tmp 46) (.const (.int .i64 0))⟩,
    ⟨(some 48), none, .mv (.tmp 47)⟩,
    ⟨(some 49), some (48, true), .mv (.tmp 5)⟩,
    ⟨(some 50), some (48, true), .mv (.tmp 7)⟩,
    ⟨(some 51), some (48, true), .ia 1 (.tmp 49) (.tmp 50)⟩,
    ⟨(some 52), some (48, true), .load none (.tmp 51)⟩,
    ⟨(some 53), some (48, true), .bin .lss (.tmp 52) (.const (.int .i64 0))⟩,
    ⟨(some 54), some (48, true), .mv (.tmp 53)⟩,
    ⟨(some 55), some (54, false), .mv (.tmp 5)⟩,
    ⟨(some 56), some (54, false), .mv (.tmp 10)⟩,
    ⟨(some 57), some (54, false), .ia 1 (.tmp 55) (.tmp 56)⟩,
    ⟨(some 58), some (54, false), .load none (.tmp 57)⟩,
    ⟨(some 59), some (54, false), .bin .add (.tmp 58) (.const (.int .i64 1))⟩,
    ⟨(some 60), some (54, false), .mv (.tmp 5)⟩,
    ⟨(some 61), some (54, false), .mv (.tmp 7)⟩,
    ⟨(some 62), some (54, false), .ia 1 (.tmp 60) (.tmp 61)⟩,
    ⟨(some 63), some (54, false), .load none (.tmp 62)⟩,
    ⟨(some 64), some (54, false), .bin .lss (.tmp 59) (.tmp 63)⟩,
    ⟨(some 65), some (48, true), .pick (.tmp 54) (.const (.bool true)) (.tmp 64)⟩,
    ⟨(some 66), none, .pick (.tmp 48) (.tmp 65) (.const (.bool false))⟩])
  (.kept [0, 5, 7, 10, 27, 28, 30, 31, 32, 37, 38, 39, 66] (.cond (.tmp 66) (.ops [⟨(some 67), none, .mv (.tmp 5)⟩,
    ⟨(some 68), none, .mv (.tmp 7)⟩,
    ⟨(some 69), none, .mv (.tmp 5)⟩,
    ⟨(some 70), none, .mv (.tmp 10)⟩,
    ⟨(some 71), none, .ia 1 (.tmp 69) (.tmp 70)⟩,
    ⟨(some 72), none, .load none (.tmp 71)⟩,
    ⟨(some 73), none, .bin .add (.tmp 72) (.const (.int .i64 1))⟩,
    ⟨(some 74), none, .ia 1 (.tmp 67) (.tmp 68)⟩,
    ⟨none, none, .store 1 (.tmp 74) (.tmp 73)⟩]) (.skip))))))
  (.kept [0, 5, 7, 27, 28, 30, 31, 32, 37, 38, 39] (.ops [⟨(some 75), none, .bin .add (.tmp 39) (.const (.int .i64 1))⟩,
    ⟨(some 39), none, .mv (.tmp 75)⟩]))))
def c_spec_l12Far_l3 : AS :=
  .seq (.ops [⟨(some 33), none, .bin .lss (.tmp 32) (.tmp 31)⟩])
  (.seq (.cond (.tmp 33) (.skip) (.exit 4))
  (.seq (.block 5 (.seq (.ops [⟨(some 34), none, .mv (.tmp 32)⟩,
    ⟨(some 35), none, .ia 1 (.tmp 30) (.tmp 32)⟩,
    ⟨(some 36), none, .load none (.tmp 35)⟩,
    ⟨(some 7), none, .mv (.tmp 34)⟩,
    ⟨(some 8), none, .mv (.tmp 36)⟩])
  (.seq (.ops [⟨(some 37), none, .mv (.tmp 8)⟩,
    ⟨(some 38), none, .lens (.tmp 37)⟩,
    ⟨(some 39), none, .mv (.const (.int .i64 0))⟩])
  (.block 6 (.loop 2 [(0, 0), (5, 0), (7, 0), (27, 0), (28, 0), (30, 0), (31, 0), (32, 0), (37, 0), (38, 0), (39, 0)] c_spec_l12Far_l2)))))
  (.kept [0, 5, 27, 28, 30, 31, 32, 35] (.post [(35, 1, [(0, 1)])] (.ops [⟨(some 76), none, .bin .add (.tmp 32) (.const (.int .i64 1))⟩,
    ⟨(some 32), none, .mv (.tmp 76)⟩])))))
def c_spec_l12Far_l4 : AS :=
  .seq (.ops [⟨(some 29), none, .bin .lss (.tmp 28) (.tmp 27)⟩])
  (.seq (.cond (.tmp 29) (.skip) (.exit 2))
  (.seq (.block 3 (.seq (.ops [⟨(some 30), none, .mv (.tmp 0)⟩,
    ⟨(some 31), none, .lens (.tmp 30)⟩,
    ⟨(some 32), none, .mv (.const (.int .i64 0))⟩])
  (.block 4 (.loop 2 [(0, 0), (5, 0), (27, 0), (28, 0), (30, 0), (31, 0), (32, 0)] c_spec_l12Far_l3))))
  (.kept [0, 5, 27, 28] (.ops [⟨(some 77), none, .bin .add (.tmp 28) (.const (.int .i64 1))⟩,
    ⟨(some 28), none, .mv (.tmp 77)⟩]))))
def c_spec_l12Far : AS :=
  .seq (.ops [⟨(some 4), none, .mv (.const (.slice none 0 0))⟩])
  (.seq (.ops [⟨(some 11), none, .mv (.tmp 0)⟩,
    ⟨(some 12), none, .lens (.tmp 11)⟩,
    ⟨(some 13), none, .mks 1 8 (.int .i64 0) (.tmp 12) (.tmp 12)⟩,
    ⟨(some 5), none, .mv (.tmp 13)⟩])
  (.seq (.seq (.ops [⟨(some 14), none, .mv (.tmp 5)⟩,
    ⟨(some 15), none, .lens (.tmp 14)⟩,
    ⟨(some 16), none, .mv (.const (.int .i64 0))⟩])
  (.block 0 (.loop 2 [(0, 0), (1, 0), (5, 0), (15, 0), (16, 0)] c_spec_l12Far_l1)))
  (.kept [0, 1, 5] (.seq (.ops [⟨(some 23), none, .mv (.tmp 5)⟩,
    ⟨(some 24), none, .mv (.tmp 1)⟩,
    ⟨(some 25), none, .ia 1 (.tmp 23) (.tmp 24)⟩,
    ⟨none, none, .store 1 (.tmp 25) (.const (.int .i64 0))⟩])
  (.seq (.seq (.ops [⟨(some 26), none, .mv (.tmp 0)⟩,
    ⟨(some 27), none, .lens (.tmp 26)⟩,
    ⟨(some 28), none, .mv (.const (.int .i64 0))⟩])
  (.block 2 (.loop 2 [(0, 0), (5, 0), (27, 0), (28, 0)] c_spec_l12Far_l4)))
  (.kept [5] (.seq (.ops [⟨(some 78), none, .mv (.tmp 5)⟩,
    ⟨(some 4), none, .mv (.tmp 78)⟩])
  (.ret))))))))
theorem h_spec_l12Far : (Try.prog.funcs[n_spec_l12Far]?).bind (fun fn => fn.body.bind (comp Try.prog fn.ntmps)) = some (AS.strip c_spec_l12Far) := by kernel_rfl
theorem r_spec_l12Far : (Try.prog.funcs[n_spec_l12Far]?).map (fun fn => (fn.results.toList, fn.ntmps)) = some ([.tmp 4], 79) := by kernel_rfl
-- 44 loop.example/g00850/spec.l12Next
abbrev n_spec_l12Next : Nat := 44
def c_spec_l12Next_l1 : AS :=
  .seq (.ops [⟨(some 11), none, .bin .lss (.tmp 10) (.tmp 9)⟩])
  (.seq (.cond (.tmp 11) (.skip) (.exit 0))
  (.seq (.block 1 (.seq (.ops [⟨(some 12), none, .ia 1 (.tmp 8) (.tmp 10)⟩,
    ⟨(some 13), none, .load none (.tmp 12)⟩,
    ⟨(some 7), none, .mv (.tmp 13)⟩])
  (.seq (.dops [⟨(some 14), none, .mv (.tmp 1)⟩,
    ⟨(some 15), none, .mv (.tmp 7)⟩,
    ⟨(some 16), none, .ia 1 (.tmp 14) (.tmp 15)⟩,
    ⟨(some 17), none, .load none (.tmp 16)⟩,
    ⟨(some 18), none, .bin .geq (.tmp 17) (.const (.int .i64 0))⟩,
    ⟨(some 19), none, .mv (.tmp 18)⟩,
    ⟨(some 20), some (19, true), .mv (.tmp 5)⟩,
    ⟨(some 21), some (19, true), .bin .lss (.tmp 20) (.const (.int .i64 0))⟩,
    ⟨(some 22), some (19, true), .mv (.tmp 21)⟩,
    ⟨(some 23), some (22, false), .mv (.tmp 1)⟩,
    ⟨(some 24), some (22, false), .mv (.tmp 7)⟩,
    ⟨(some 25), some (22, false), .ia 1 (.tmp 23) (.tmp 24)⟩,
    ⟨(some 26), some (22, false), .load none (.tmp 25)⟩,
    ⟨(some 27), some (22, false), .mv (.tmp 1)⟩,
    ⟨(some 28), some (22, false), .mv (.tmp 5)⟩,
    ⟨(some 29), some (22, false), .ia 1 (.tmp 27) (.tmp 28)⟩,
    ⟨(some 30), some (22, false), .load none (.tmp 29)⟩,
    ⟨(some 31), some (22, false), .bin .lss (.tmp 26) (.tmp 30)⟩,
    ⟨(some 32), some (19, true), .pick (.tmp 22) (.const (.bool true)) (.tmp 31)⟩,
    ⟨(some 33), some (19, true), .mv (.tmp 32)⟩,
    ⟨(some 34), some (33, false), .mv (.tmp 1)⟩,
    ⟨(some 35), some (33, false), .mv (.tmp 7)⟩,
    ⟨(some 36), some (33, false), .ia 1 (.tmp 34) (.tmp 35)⟩,
    ⟨(some 37), some (33, false), .load none (.tmp 36)⟩,
    ⟨(some 38), some (33, false), .mv (.tmp 1)⟩,
    ⟨(some 39), some (33, false), .mv (.tmp 5)⟩,
    ⟨(some 40), some (33, false), .ia 1 (.tmp 38) (.tmp 39)⟩,
    ⟨(some 41), some (33, false), .load none (.tmp 40)⟩,
    ⟨(some 42), some (33, false), .bin .eql (.tmp 37) (.tmp 41)⟩,
    ⟨(some 43), some (33, false), .mv (.tmp 42)⟩,
    ⟨(some 44), some (43, true), .mv (.tmp 7)⟩,
    ⟨(some 45), some (43, true), .mv (.tmp 5)⟩,
    ⟨(some 46), some (43, true), .bin .lss (.tmp 44) (.tmp 45)⟩,
    ⟨(some 47), some (33, false), .pick (.tmp 43) (.tmp 46) (.const (.bool false))⟩,
    ⟨(some 48), some (19, true), .pick (.tmp 33) (.const (.bool true)) (.tmp 47)⟩,
    ⟨(some 49), none, .pick (.tmp 19) (.tmp 48) (.const (.bool false))⟩])
  (.kept [1, 5, 7, 8, 9, 10, 49] (.cond (.tmp 49) (.ops [⟨(some 50), none, .mv (.tmp 7)⟩,
    ⟨(some 5), none, .mv (.tmp 50)⟩]) (.skip))))))
  (.kept [1, 5, 8, 9, 10] (.ops [⟨(some 51), none, .bin .add (.tmp 10) (.const (.int .i64 1))⟩,
    ⟨(some 10), none, .mv (.tmp 51)⟩]))))
def c_spec_l12Next : AS :=
  .seq (.ops [⟨(some 4), none, .mv (.const (.int .i64 0))⟩])
  (.seq (.ops [⟨(some 5), none, .mv (.const (.int .i64 (-1)))⟩])
  (.seq (.seq (.ops [⟨(some 8), none, .mv (.tmp 0)⟩,
    ⟨(some 9), none, .lens (.tmp 8)⟩,
    ⟨(some 10), none, .mv (.const (.int .i64 0))⟩])
  (.block 0 (.loop 2 [(1, 0), (5, 0), (8, 0), (9, 0), (10, 0)] c_spec_l12Next_l1)))
  (.kept [5] (.seq (.ops [⟨(some 52), none, .mv (.tmp 5)⟩,
    ⟨(some 4), none, .mv (.tmp 52)⟩])
  (.ret)))))
theorem h_spec_l12Next : (Try.prog.funcs[n_spec_l12Next]?).bind (fun fn => fn.body.bind (comp Try.prog fn.ntmps)) = some (AS.strip c_spec_l12Next) := by kernel_rfl
theorem r_spec_l12Next : (Try.prog.funcs[n_spec_l12Next]?).map (fun fn => (fn.results.toList, fn.ntmps)) = some ([.tmp 4], 53) := by kernel_rfl
-- 45 (*loop.example/g00850/spec.l1Cur).among
abbrev n_pspec_l1Cur_among : Nat := 45
def c_pspec_l1Cur_among : AS :=
  .seq (.ops [⟨(some 4), none, .mv (.const (.int .i64 0))⟩])
  (.seq (.ops [⟨(some 5), none, .mv (.tmp 1)⟩,
    ⟨(some 6), none, .mv (.tmp 0)⟩,
    ⟨(some 7), none, .mv (.tmp 1)⟩,
    ⟨(some 8), none, .lens (.tmp 7)⟩,
    ⟨(some 9), none, .call 24 [(.tmp 6), (.tmp 8)]⟩,
    ⟨(some 10), none, .ia 1 (.tmp 5) (.tmp 9)⟩,
    ⟨(some 11), none, .load none (.tmp 10)⟩,
    ⟨(some 4), none, .mv (.tmp 11)⟩])
  (.ret))
theorem h_pspec_l1Cur_among : (Try.prog.funcs[n_pspec_l1Cur_among]?).bind (fun fn => fn.body.bind (comp Try.prog fn.ntmps)) = some (AS.strip c_pspec_l1Cur_among) := by kernel_rfl
theorem r_pspec_l1Cur_among : (Try.prog.funcs[n_pspec_l1Cur_among]?).map (fun fn => (fn.results.toList, fn.ntmps)) = some ([.tmp 4], 12) := by kernel_rfl
-- 46 (*loop.example/g00850/spec.l1Cur).next
abbrev n_pspec_l1Cur_next : Nat := 46
def c_pspec_l1Cur_next : AS :=
  .seq (.ops [⟨(some 2), none, .mv (.const (.int .i64 0))⟩])
  (.seq (.ops [⟨(some 3), none, .mv (.const (.int .i64 0))⟩])
  (.seq (.seq (.dops [⟨(some 4), none, .mv (.tmp 0)⟩,
    ⟨(some 5), none, .nc (.tmp 4)⟩,
    ⟨(some 6), none, .fa 1 (.tmp 5)⟩,
    ⟨(some 7), none, .load none (.tmp 6)⟩,
    ⟨(some 8), none, .mv (.tmp 0)⟩,
    ⟨(some 9), none, .nc (.tmp 8)⟩,
    ⟨(some 10), none, .fa 0 (.tmp 9)⟩,
    ⟨(some 11), none, .load none (.tmp 10)⟩,
    ⟨(some 12), none, .lens (.tmp 11)⟩,
    ⟨(some 13), none, .bin .lss (.tmp 7) (.tmp 12)⟩])
  (.kept [0, 3, 13] (.cond (.tmp 13) (.dops [⟨(some 14), none, .mv (.tmp 0)⟩,
    ⟨(some 15), none, .nc (.tmp 14)⟩,
    ⟨(some 16), none, .fa 0 (.tmp 15)⟩,
    ⟨(some 17), none, .load none (.tmp 16)⟩,
    ⟨(some 18), none, .mv (.tmp 0)⟩,
    ⟨(some 19), none, .nc (.tmp 18)⟩,
    ⟨(some 20), none, .fa 1 (.tmp 19)⟩,
    ⟨(some 21), none, .load none (.tmp 20)⟩,
    ⟨(some 22), none, .ia 1 (.tmp 17) (.tmp 21)⟩,
    ⟨(some 23), none, .load none (.tmp 22)⟩,
    ⟨(some 24), none, .cvi .i64 (.tmp 23)⟩,
    ⟨(some 3), none, .mv (.tmp 24)⟩]) (.skip))))
  (.kept [0, 3] (.seq (.ops [⟨(some 25), none, .mv (.tmp 0)⟩,
    ⟨(some 26), none, .nc (.tmp 25)⟩,
    ⟨(some 27), none, .fa 1 (.tmp 26)⟩,
    ⟨(some 28), none, .load none (.tmp 27)⟩,
    ⟨(some 29), none, .bin .add (.tmp 28) (.const (.int .i64 1))⟩,
    ⟨(some 30), none, .nc (.tmp 25)⟩,
    ⟨(some 31), none, .fa 1 (.tmp 30)⟩,
    ⟨none, none, .store 1 (.tmp 31) (.tmp 29)⟩])
  (.kept [0, 3] (.seq (.ops [⟨(some 32), none, .mv (.tmp 0)⟩,
    ⟨(some 33), none, .mv (.tmp 0)⟩,
    ⟨(some 34), none, .nc (.tmp 33)⟩,
    ⟨(some 35), none, .fa 2 (.tmp 34)⟩,
    ⟨(some 36), none, .load none (.tmp 35)⟩,
    ⟨(some 37), none, .bin .mul (.tmp 36) (.const (.int .u64 6364136223846793005))⟩,
    ⟨(some 38), none, .mv (.tmp 3)⟩,
    ⟨(some 39), none, .cvi .u64 (.tmp 38)⟩,
    ⟨(some 40), none, .bin .add (.tmp 37) (.tmp 39)⟩,
    ⟨(some 41), none, .bin .add (.tmp 40) (.const (.int .u64 1442695040888963407))⟩,
    ⟨(some 42), none, .nc (.tmp 32)⟩,
    ⟨(some 43), none, .fa 2 (.tmp 42)⟩,
    ⟨none, none, .store 1 (.tmp 43) (.tmp 41)⟩])
  (.kept [0, 3] (.seq (.seq (.dops [⟨(some 44), none, .mv (.tmp 0)⟩,
    ⟨(some 45), none, .nc (.tmp 44)⟩,
    ⟨(some 46), none, .fa 1 (.tmp 45)⟩,
    ⟨(some 47), none, .load none (.tmp 46)⟩,
    ⟨(some 48), none, .mv (.tmp 0)⟩,
    ⟨(some 49), none, .nc (.tmp 48)⟩,
    ⟨(some 50), none, .fa 0 (.tmp 49)⟩,
    ⟨(some 51), none, .load none (.tmp 50)⟩,
    ⟨(some 52), none, .lens (.tmp 51)⟩,
    ⟨(some 53), none, .bin .leq (.tmp 47) (.tmp 52)⟩])
  (.kept [0, 3, 53] (.cond (.tmp 53) (.seq (.ops [⟨(some 54), none, .mv (.tmp 3)⟩,
    ⟨(some 2), none, .mv (.tmp 54)⟩])
  (.ret)) (.skip))))
  (.kept [0] (.seq (.ops [⟨(some 55), none, .mv (.tmp 0)⟩,
    ⟨(some 56), none, .nc (.tmp 55)⟩,
    ⟨(some 57), none, .fa 2 (.tmp 56)⟩,
    ⟨(some 58), none, .load none (.tmp 57)⟩,
    ⟨(some 59), none, .bin .shr (.tmp 58) (.const (.int .u64 40))⟩,
    ⟨(some 60), none, .bin .and (.tmp 59) (.const (.int .u64 255))⟩,
    ⟨(some 61), none, .cvi .i64 (.tmp 60)⟩,
    ⟨(some 2), none, .mv (.tmp 61)⟩])
  (.ret)))))))))))
theorem h_pspec_l1Cur_next : (Try.prog.funcs[n_pspec_l1Cur_next]?).bind (fun fn => fn.body.bind (comp Try.prog fn.ntmps)) = some (AS.strip c_pspec_l1Cur_next) := by kernel_rfl
theorem r_pspec_l1Cur_next : (Try.prog.funcs[n_pspec_l1Cur_next]?).map (fun fn => (fn.results.toList, fn.ntmps)) = some ([.tmp 2], 62) := by kernel_rfl
-- 47 slices.IndexFunc[[]loop.example/g00850/impl.Span,loop.example/g00850/impl.Span]
abbrev n_slices_IndexFunc___impl_Span_impl_Span_ : Nat := 47
def c_slices_IndexFunc___impl_Span_impl_Span__l1 : AS :=
  .seq (.ops [⟨(some 9), none, .bin .lss (.tmp 8) (.tmp 7)⟩])
  (.seq (.cond (.tmp 9) (.skip) (.exit 0))
  (.seq (.block 1 (.seq (.ops [⟨(some 10), none, .mv (.tmp 8)⟩,
    ⟨(some 5), none, .mv (.tmp 10)⟩])
  (.seq (.ops [⟨(some 11), none, .mv (.tmp 1)⟩,
    ⟨(some 12), none, .mv (.tmp 0)⟩,
    ⟨(some 13), none, .mv (.tmp 5)⟩,
    ⟨(some 14), none, .ia 2 (.tmp 12) (.tmp 13)⟩,
    ⟨(some 15), none, .load (some 2) (.tmp 14)⟩,
    ⟨(some 16), none, .callv (.tmp 11) [(.tmp 15)]⟩])
  (.cond (.tmp 16) (.seq (.ops [⟨(some 17), none, .mv (.tmp 5)⟩,
    ⟨(some 4), none, .mv (.tmp 17)⟩])
  (.ret)) (.skip)))))
  (.kept [0, 1, 7, 8] (.ops [⟨(some 18), none, .bin .add (.tmp 8) (.const (.int .i64 1))⟩,
    ⟨(some 8), none, .mv (.tmp 18)⟩]))))
def c_slices_IndexFunc___impl_Span_impl_Span_ : AS :=
  .seq (.ops [⟨(some 4), none, .mv (.const (.int .i64 0))⟩])
  (.seq (.seq (.ops [⟨(some 6), none, .mv (.tmp 0)⟩,
    ⟨(some 7), none, .lens (.tmp 6)⟩,
    ⟨(some 8), none, .mv (.const (.int .i64 0))⟩])
  (.block 0 (.loop 2 [(0, 0), (1, 0), (7, 0), (8, 0)] c_slices_IndexFunc___impl_Span_impl_Span__l1)))
  (.kept [] (.seq (.ops [⟨(some 4), none, .mv (.const (.int .i64 (-1)))⟩])
  (.ret))))
theorem h_slices_IndexFunc___impl_Span_impl_Span_ : (Try.prog.funcs[n_slices_IndexFunc___impl_Span_impl_Span_]?).bind (fun fn => fn.body.bind (comp Try.prog fn.ntmps)) = some (AS.strip c_slices_IndexFunc___impl_Span_impl_Span_) := by kernel_rfl
theorem r_slices_IndexFunc___impl_Span_impl_Span_ : (Try.prog.funcs[n_slices_IndexFunc___impl_Span_impl_Span_]?).map (fun fn => (fn.results.toList, fn.ntmps)) = some ([.tmp 4], 19) := by kernel_rfl
-- 48 slices.IndexFunc[[]int,int]
abbrev n_slices_IndexFunc___int_int_ : Nat := 48
def c_slices_IndexFunc___int_int__l1 : AS :=
  .seq (.ops [⟨(some 9), none, .bin .lss (.tmp 8) (.tmp 7)⟩])
  (.seq (.cond (.tmp 9) (.skip) (.exit 0))
  (.seq (.block 1 (.seq (.ops [⟨(some 10), none, .mv (.tmp 8)⟩,
    ⟨(some 5), none, .mv (.tmp 10)⟩])
  (.seq (.ops [⟨(some 11), none, .mv (.tmp 1)⟩,
    ⟨(some 12), none, .mv (.tmp 0)⟩,
    ⟨(some 13), none, .mv (.tmp 5)⟩,
    ⟨(some 14), none, .ia 1 (.tmp 12) (.tmp 13)⟩,
    ⟨(some 15), none, .load none (.tmp 14)⟩,
    ⟨(some 16), none, .callv (.tmp 11) [(.tmp 15)]⟩])
  (.cond (.tmp 16) (.seq (.ops [⟨(some 17), none, .mv (.tmp 5)⟩,
    ⟨(some 4), none, .mv (.tmp 17)⟩])
  (.ret)) (.skip)))))
  (.kept [0, 1, 7, 8] (.ops [⟨(some 18), none, .bin .add (.tmp 8) (.const (.int .i64 1))⟩,
    ⟨(some 8), none, .mv (.tmp 18)⟩]))))
def c_slices_IndexFunc___int_int_ : AS :=
  .seq (.ops [⟨(some 4), none, .mv (.const (.int .i64 0))⟩])
  (.seq (.seq (.ops [⟨(some 6), none, .mv (.tmp 0)⟩,
    ⟨(some 7), none, .lens (.tmp 6)⟩,
    ⟨(some 8), none, .mv (.const (.int .i64 0))⟩])
  (.block 0 (.loop 2 [(0, 0), (1, 0), (7, 0), (8, 0)] c_slices_IndexFunc___int_int__l1)))
  (.kept [] (.seq (.ops [⟨(some 4), none, .mv (.const (.int .i64 (-1)))⟩])
  (.ret))))
theorem h_slices_IndexFunc___int_int_ : (Try.prog.funcs[n_slices_IndexFunc___int_int_]?).bind (fun fn => fn.body.bind (comp Try.prog fn.ntmps)) = some (AS.strip c_slices_IndexFunc___int_int_) := by kernel_rfl
theorem r_slices_IndexFunc___int_int_ : (Try.prog.funcs[n_slices_IndexFunc___int_int_]?).map (fun fn => (fn.results.toList, fn.ntmps)) = some ([.tmp 4], 19) := by kernel_rfl
-- 49 loop.example/g00850/impl.distances$1
abbrev n_impl_distances_1 : Nat := 49
def c_impl_distances_1 : AS :=
  .seq (.ops [⟨(some 5), none, .mv (.const (.bool false))⟩])
  (.seq (.dops [⟨(some 6), none, .load none (.tmp 1)⟩,
    ⟨(some 7), none, .bin .eql (.tmp 6) (.const (.int .i64 1))⟩,
    ⟨(some 8), none, .mv (.tmp 7)⟩,
    ⟨(some 9), some (8, true), .mv (.tmp 0)⟩,
    ⟨(some 10), some (8, true), .load none (.tmp 2)⟩,
    ⟨(some 11), some (8, true), .bin .eql (.tmp 9) (.tmp 10)⟩,
    ⟨(some 12), none, .pick (.tmp 8) (.tmp 11) (.const (.bool false))⟩,
    ⟨(some 13), none, .mv (.tmp 12)⟩,
    ⟨(some 14), some (13, false), .load none (.tmp 1)⟩,
    ⟨(some 15), some (13, false), .bin .gtr (.tmp 14) (.const (.int .i64 1))⟩,
    ⟨(some 16), some (13, false), .mv (.tmp 15)⟩,
    ⟨(some 17), some (16, true), .load none (.tmp 3)⟩,
    ⟨(some 18), some (16, true), .mv (.tmp 0)⟩,
    ⟨(some 19), some (16, true), .ia 1 (.tmp 17) (.tmp 18)⟩,
    ⟨(some 20), some (16, true), .load none (.tmp 19)⟩,
    ⟨(some 21), some (16, true), .load none (.tmp 1)⟩,
    ⟨(some 22), some (16, true), .bin .sub (.tmp 21) (.const (.int .i64 1))⟩,
    ⟨(some 23), some (16, true), .bin .eql (.tmp 20) (.tmp 22)⟩,
    ⟨(some 24), some (13, false), .pick (.tmp 16) (.tmp 23) (.const (.bool false))⟩,
    ⟨(some 25), none, .pick (.tmp 13) (.const (.bool true)) (.tmp 24)⟩,
    ⟨(some 5), none, .mv (.tmp 25)⟩])
  (.ret))
theorem h_impl_distances_1 : (Try.prog.funcs[n_impl_distances_1]?).bind (fun fn => fn.body.bind (comp Try.prog fn.ntmps)) = some (AS.strip c_impl_distances_1) := by kernel_rfl
theorem r_impl_distances_1 : (Try.prog.funcs[n_impl_distances_1]?).map (fun fn => (fn.results.toList, fn.ntmps)) = some ([.tmp 5], 26) := by kernel_rfl

end Go.Proofs.Wb

/- The compiled statements of the functions that the law reaches. -/
import Derived.Test.YthleienfmfdabaaProg
import Derived.Test.YthleienfmfdabaaAmTac
namespace Go.Proofs.Sp
open Go Go.Am
-- 3 loop.example/g00850/laws.FnSpans
abbrev n_laws_FnSpans : Nat := 3
def c_laws_FnSpans_l1 : Am.Stmt :=
  .seq (.ops [⟨(some 113), none, .bin .lss (.tmp 112) (.tmp 111)⟩])
  (.seq (.cond (.tmp 113) (.skip) (.exit 0))
  (.seq (.block 1 (.seq (.ops [⟨(some 114), none, .ia 1 (.tmp 110) (.tmp 112)⟩,
    ⟨(some 115), none, .load none (.tmp 114)⟩,
    ⟨(some 19), none, .mv (.tmp 115)⟩])
  (.seq (.ops [⟨(some 117), none, .load (some 2) (.tmp 7)⟩,
    ⟨(some 118), none, .mv (.tmp 19)⟩,
    ⟨(some 119), none, .call 16 [(.tmp 117), (.tmp 118)]⟩,
    ⟨(some 116), none, .mv (.tmp 119)⟩,
    ⟨(some 120), none, .ext 0 (.tmp 116)⟩,
    ⟨(some 121), none, .ext 1 (.tmp 116)⟩,
    ⟨(some 20), none, .mv (.tmp 120)⟩,
    ⟨(some 21), none, .mv (.tmp 121)⟩])
  (.seq (.ops [⟨(some 123), none, .load (some 2) (.tmp 7)⟩,
    ⟨(some 124), none, .mv (.tmp 19)⟩,
    ⟨(some 125), none, .call 17 [(.tmp 123), (.tmp 124)]⟩,
    ⟨(some 122), none, .mv (.tmp 125)⟩,
    ⟨(some 126), none, .ext 0 (.tmp 122)⟩,
    ⟨(some 127), none, .ext 1 (.tmp 122)⟩,
    ⟨(some 22), none, .mv (.tmp 126)⟩,
    ⟨(some 23), none, .mv (.tmp 127)⟩])
  (.seq (.ops [⟨(some 128), none, .mv (.tmp 21)⟩,
    ⟨(some 129), none, .not (.tmp 128)⟩,
    ⟨(some 130), none, .mv (.tmp 129)⟩,
    ⟨(some 131), some (130, false), .mv (.tmp 23)⟩,
    ⟨(some 132), some (130, false), .not (.tmp 131)⟩,
    ⟨(some 133), none, .pick (.tmp 130) (.const (.bool true)) (.tmp 132)⟩,
    ⟨(some 134), none, .mv (.tmp 133)⟩,
    ⟨(some 135), some (134, false), .mv (.tmp 20)⟩,
    ⟨(some 136), some (134, false), .mv (.tmp 135)⟩,
    ⟨(some 137), some (136, true), .mv (.tmp 19)⟩,
    ⟨(some 138), some (136, true), .mv (.tmp 6)⟩,
    ⟨(some 139), some (136, true), .bin .geq (.tmp 137) (.tmp 138)⟩,
    ⟨(some 140), some (134, false), .pick (.tmp 136) (.tmp 139) (.const (.bool false))⟩,
    ⟨(some 141), none, .pick (.tmp 134) (.const (.bool true)) (.tmp 140)⟩,
    ⟨(some 142), none, .mv (.tmp 141)⟩,
    ⟨(some 143), some (142, false), .mv (.tmp 22)⟩,
    ⟨(some 144), some (142, false), .mv (.tmp 143)⟩,
    ⟨(some 145), some (144, true), .mv (.tmp 19)⟩,
    ⟨(some 146), some (144, true), .mv (.tmp 6)⟩,
    ⟨(some 147), some (144, true), .bin .leq (.tmp 145) (.tmp 146)⟩,
    ⟨(some 148), some (142, false), .pick (.tmp 144) (.tmp 147) (.const (.bool false))⟩,
    ⟨(some 149), none, .pick (.tmp 142) (.const (.bool true)) (.tmp 148)⟩,
    ⟨(some 150), none, .mv (.tmp 149)⟩,
    ⟨(some 151), some (150, false), .mv (.tmp 20)⟩,
    ⟨(some 152), some (150, false), .mv (.tmp 151)⟩,
    ⟨(some 153), some (152, true), .mv (.tmp 22)⟩,
    ⟨(some 154), some (150, false), .pick (.tmp 152) (.tmp 153) (.const (.bool false))⟩,
    ⟨(some 155), none, .pick (.tmp 150) (.const (.bool true)) (.tmp 154)⟩])
  (.cond (.tmp 155) (.seq (.ops [⟨(some 4), none, .mv (.const (.bool false))⟩])
  (.ret)) (.skip)))))))
  (.ops [⟨(some 156), none, .bin .add (.tmp 112) (.const (.int .i64 1))⟩,
    ⟨(some 112), none, .mv (.tmp 156)⟩])))
def c_laws_FnSpans : Am.Stmt :=
  .seq (.ops [⟨(some 4), none, .mv (.const (.bool false))⟩])
  (.seq (.seq (.ops [⟨(some 33), none, .mv (.tmp 0)⟩,
    ⟨(some 34), none, .mv (.tmp 1)⟩,
    ⟨(some 35), none, .call 8 [(.tmp 33), (.tmp 34)]⟩])
  (.cond (.tmp 35) (.seq (.ops [⟨(some 4), none, .mv (.const (.bool true))⟩])
  (.ret)) (.skip)))
  (.seq (.ops [⟨(some 37), none, .mv (.tmp 0)⟩,
    ⟨(some 38), none, .call 9 [(.tmp 37)]⟩,
    ⟨(some 36), none, .mv (.tmp 38)⟩,
    ⟨(some 39), none, .ext 0 (.tmp 36)⟩,
    ⟨(some 40), none, .ext 1 (.tmp 36)⟩,
    ⟨(some 5), none, .alloc (.agg #[.int .i64 0])⟩,
    ⟨none, none, .store 1 (.tmp 5) (.tmp 39)⟩,
    ⟨(some 6), none, .mv (.tmp 40)⟩])
  (.seq (.ops [⟨(some 42), none, .load (some 1) (.tmp 5)⟩,
    ⟨(some 43), none, .mv (.tmp 6)⟩,
    ⟨(some 44), none, .call 10 [(.tmp 42), (.tmp 43)]⟩,
    ⟨(some 41), none, .mv (.tmp 44)⟩,
    ⟨(some 45), none, .ext 0 (.tmp 41)⟩,
    ⟨(some 46), none, .ext 1 (.tmp 41)⟩,
    ⟨(some 7), none, .alloc (.agg #[.int .i64 0, .int .i64 0])⟩,
    ⟨none, none, .store 2 (.tmp 7) (.tmp 45)⟩,
    ⟨(some 8), none, .mv (.tmp 46)⟩])
  (.seq (.ops [⟨(some 48), none, .load (some 1) (.tmp 5)⟩,
    ⟨(some 49), none, .mv (.tmp 6)⟩,
    ⟨(some 50), none, .call 11 [(.tmp 48), (.tmp 49)]⟩,
    ⟨(some 47), none, .mv (.tmp 50)⟩,
    ⟨(some 51), none, .ext 0 (.tmp 47)⟩,
    ⟨(some 52), none, .ext 1 (.tmp 47)⟩,
    ⟨(some 9), none, .alloc (.agg #[.int .i64 0, .int .i64 0])⟩,
    ⟨none, none, .store 2 (.tmp 9) (.tmp 51)⟩,
    ⟨(some 10), none, .mv (.tmp 52)⟩])
  (.seq (.seq (.ops [⟨(some 53), none, .mv (.tmp 8)⟩,
    ⟨(some 54), none, .mv (.tmp 10)⟩,
    ⟨(some 55), none, .eqb true (.tmp 53) (.tmp 54)⟩,
    ⟨(some 56), none, .mv (.tmp 55)⟩,
    ⟨(some 57), some (56, false), .load (some 2) (.tmp 7)⟩,
    ⟨(some 58), some (56, false), .load (some 2) (.tmp 9)⟩,
    ⟨(some 59), some (56, false), .eqs true [(0, 0), (1, 0)] (.tmp 57) (.tmp 58)⟩,
    ⟨(some 60), none, .pick (.tmp 56) (.const (.bool true)) (.tmp 59)⟩])
  (.cond (.tmp 60) (.seq (.ops [⟨(some 4), none, .mv (.const (.bool false))⟩])
  (.ret)) (.skip)))
  (.seq (.ops [⟨(some 62), none, .mv (.tmp 1)⟩,
    ⟨(some 63), none, .call 12 [(.tmp 62)]⟩,
    ⟨(some 61), none, .mv (.tmp 63)⟩,
    ⟨(some 64), none, .ext 0 (.tmp 61)⟩,
    ⟨(some 65), none, .ext 1 (.tmp 61)⟩,
    ⟨(some 66), none, .ext 2 (.tmp 61)⟩,
    ⟨(some 11), none, .alloc (.agg #[.int .i64 0])⟩,
    ⟨none, none, .store 1 (.tmp 11) (.tmp 64)⟩,
    ⟨(some 12), none, .mv (.tmp 65)⟩,
    ⟨(some 13), none, .mv (.tmp 66)⟩])
  (.seq (.ops [⟨(some 68), none, .load (some 1) (.tmp 11)⟩,
    ⟨(some 69), none, .mv (.tmp 12)⟩,
    ⟨(some 70), none, .mv (.tmp 13)⟩,
    ⟨(some 71), none, .call 13 [(.tmp 68), (.tmp 69), (.tmp 70)]⟩,
    ⟨(some 67), none, .mv (.tmp 71)⟩,
    ⟨(some 72), none, .ext 0 (.tmp 67)⟩,
    ⟨(some 73), none, .ext 1 (.tmp 67)⟩,
    ⟨(some 14), none, .mv (.tmp 72)⟩,
    ⟨(some 15), none, .mv (.tmp 73)⟩])
  (.seq (.ops [⟨(some 75), none, .load (some 1) (.tmp 11)⟩,
    ⟨(some 76), none, .mv (.tmp 12)⟩,
    ⟨(some 77), none, .mv (.tmp 13)⟩,
    ⟨(some 78), none, .call 14 [(.tmp 75), (.tmp 76), (.tmp 77)]⟩,
    ⟨(some 74), none, .mv (.tmp 78)⟩,
    ⟨(some 79), none, .ext 0 (.tmp 74)⟩,
    ⟨(some 80), none, .ext 1 (.tmp 74)⟩,
    ⟨(some 16), none, .mv (.tmp 79)⟩,
    ⟨(some 17), none, .mv (.tmp 80)⟩])
  (.seq (.seq (.ops [⟨(some 81), none, .mv (.tmp 15)⟩,
    ⟨(some 82), none, .mv (.tmp 17)⟩,
    ⟨(some 83), none, .eqb true (.tmp 81) (.tmp 82)⟩,
    ⟨(some 84), none, .mv (.tmp 83)⟩,
    ⟨(some 85), some (84, false), .mv (.tmp 14)⟩,
    ⟨(some 86), some (84, false), .mv (.tmp 16)⟩,
    ⟨(some 87), some (84, false), .bin .neq (.tmp 85) (.tmp 86)⟩,
    ⟨(some 88), none, .pick (.tmp 84) (.const (.bool true)) (.tmp 87)⟩])
  (.cond (.tmp 88) (.seq (.ops [⟨(some 4), none, .mv (.const (.bool false))⟩])
  (.ret)) (.skip)))
  (.seq (.seq (.ops [⟨(some 89), none, .mv (.tmp 8)⟩])
  (.cond (.tmp 89) (.seq (.seq (.ops [⟨(some 90), none, .fa 0 (.tmp 7)⟩,
    ⟨(some 91), none, .load none (.tmp 90)⟩,
    ⟨(some 92), none, .mv (.tmp 6)⟩,
    ⟨(some 93), none, .bin .gtr (.tmp 91) (.tmp 92)⟩,
    ⟨(some 94), none, .mv (.tmp 93)⟩,
    ⟨(some 95), some (94, false), .fa 1 (.tmp 7)⟩,
    ⟨(some 96), some (94, false), .load none (.tmp 95)⟩,
    ⟨(some 97), some (94, false), .mv (.tmp 6)⟩,
    ⟨(some 98), some (94, false), .bin .lss (.tmp 96) (.tmp 97)⟩,
    ⟨(some 99), none, .pick (.tmp 94) (.const (.bool true)) (.tmp 98)⟩,
    ⟨(some 100), none, .mv (.tmp 99)⟩,
    ⟨(some 101), some (100, false), .load (some 2) (.tmp 7)⟩,
    ⟨(some 102), some (100, false), .call 15 [(.tmp 101)]⟩,
    ⟨(some 103), some (100, false), .not (.tmp 102)⟩,
    ⟨(some 104), none, .pick (.tmp 100) (.const (.bool true)) (.tmp 103)⟩])
  (.cond (.tmp 104) (.seq (.ops [⟨(some 4), none, .mv (.const (.bool false))⟩])
  (.ret)) (.skip)))
  (.seq (.ops [⟨(some 105), none, .mv (.tmp 6)⟩,
    ⟨(some 106), none, .bin .sub (.tmp 105) (.const (.int .i64 1))⟩,
    ⟨(some 107), none, .mv (.tmp 6)⟩,
    ⟨(some 108), none, .mv (.tmp 6)⟩,
    ⟨(some 109), none, .bin .add (.tmp 108) (.const (.int .i64 1))⟩,
    ⟨(some 110), none, .bsl 1 (.int .i64 0) 3 [(0, (.tmp 106)), (1, (.tmp 107)), (2, (.tmp 109))]⟩,
    ⟨(some 111), none, .lens (.tmp 110)⟩,
    ⟨(some 112), none, .mv (.const (.int .i64 0))⟩])
  (.block 0 (.loop c_laws_FnSpans_l1)))) (.skip)))
  (.seq (.seq (.ops [⟨(some 157), none, .mv (.tmp 15)⟩])
  (.cond (.tmp 157) (.seq (.ops [⟨(some 159), none, .load (some 1) (.tmp 11)⟩,
    ⟨(some 160), none, .mv (.tmp 12)⟩,
    ⟨(some 161), none, .mv (.tmp 14)⟩,
    ⟨(some 162), none, .bin .add (.tmp 160) (.tmp 161)⟩,
    ⟨(some 163), none, .call 10 [(.tmp 159), (.tmp 162)]⟩,
    ⟨(some 158), none, .mv (.tmp 163)⟩,
    ⟨(some 164), none, .ext 0 (.tmp 158)⟩,
    ⟨(some 165), none, .ext 1 (.tmp 158)⟩,
    ⟨(some 24), none, .alloc (.agg #[.int .i64 0, .int .i64 0])⟩,
    ⟨none, none, .store 2 (.tmp 24) (.tmp 164)⟩,
    ⟨(some 25), none, .mv (.tmp 165)⟩])
  (.seq (.ops [⟨(some 167), none, .load (some 2) (.tmp 24)⟩,
    ⟨(some 168), none, .mv (.tmp 13)⟩,
    ⟨(some 169), none, .call 16 [(.tmp 167), (.tmp 168)]⟩,
    ⟨(some 166), none, .mv (.tmp 169)⟩,
    ⟨(some 170), none, .ext 0 (.tmp 166)⟩,
    ⟨(some 171), none, .ext 1 (.tmp 166)⟩,
    ⟨(some 26), none, .mv (.tmp 170)⟩,
    ⟨(some 27), none, .mv (.tmp 171)⟩])
  (.seq (.seq (.ops [⟨(some 172), none, .mv (.tmp 25)⟩,
    ⟨(some 173), none, .not (.tmp 172)⟩,
    ⟨(some 174), none, .mv (.tmp 173)⟩,
    ⟨(some 175), some (174, false), .mv (.tmp 27)⟩,
    ⟨(some 176), some (174, false), .not (.tmp 175)⟩,
    ⟨(some 177), none, .pick (.tmp 174) (.const (.bool true)) (.tmp 176)⟩,
    ⟨(some 178), none, .mv (.tmp 177)⟩,
    ⟨(some 179), some (178, false), .mv (.tmp 26)⟩,
    ⟨(some 180), some (178, false), .not (.tmp 179)⟩,
    ⟨(some 181), none, .pick (.tmp 178) (.const (.bool true)) (.tmp 180)⟩])
  (.cond (.tmp 181) (.seq (.ops [⟨(some 4), none, .mv (.const (.bool false))⟩])
  (.ret)) (.skip)))
  (.seq (.ops [⟨(some 182), none, .mv (.tmp 14)⟩,
    ⟨(some 183), none, .bin .gtr (.tmp 182) (.const (.int .i64 0))⟩])
  (.cond (.tmp 183) (.seq (.ops [⟨(some 185), none, .load (some 1) (.tmp 11)⟩,
    ⟨(some 186), none, .mv (.tmp 12)⟩,
    ⟨(some 187), none, .mv (.tmp 14)⟩,
    ⟨(some 188), none, .bin .add (.tmp 186) (.tmp 187)⟩,
    ⟨(some 189), none, .bin .sub (.tmp 188) (.const (.int .i64 1))⟩,
    ⟨(some 190), none, .call 10 [(.tmp 185), (.tmp 189)]⟩,
    ⟨(some 184), none, .mv (.tmp 190)⟩,
    ⟨(some 191), none, .ext 0 (.tmp 184)⟩,
    ⟨(some 192), none, .ext 1 (.tmp 184)⟩,
    ⟨(some 28), none, .alloc (.agg #[.int .i64 0, .int .i64 0])⟩,
    ⟨none, none, .store 2 (.tmp 28) (.tmp 191)⟩,
    ⟨(some 29), none, .mv (.tmp 192)⟩])
  (.seq (.ops [⟨(some 194), none, .load (some 2) (.tmp 28)⟩,
    ⟨(some 195), none, .mv (.tmp 13)⟩,
    ⟨(some 196), none, .call 16 [(.tmp 194), (.tmp 195)]⟩,
    ⟨(some 193), none, .mv (.tmp 196)⟩,
    ⟨(some 197), none, .ext 0 (.tmp 193)⟩,
    ⟨(some 198), none, .ext 1 (.tmp 193)⟩,
    ⟨(some 30), none, .mv (.tmp 197)⟩,
    ⟨(some 31), none, .mv (.tmp 198)⟩])
  (.seq (.ops [⟨(some 199), none, .mv (.tmp 29)⟩,
    ⟨(some 200), none, .not (.tmp 199)⟩,
    ⟨(some 201), none, .mv (.tmp 200)⟩,
    ⟨(some 202), some (201, false), .mv (.tmp 31)⟩,
    ⟨(some 203), some (201, false), .not (.tmp 202)⟩,
    ⟨(some 204), none, .pick (.tmp 201) (.const (.bool true)) (.tmp 203)⟩,
    ⟨(some 205), none, .mv (.tmp 204)⟩,
    ⟨(some 206), some (205, false), .mv (.tmp 30)⟩,
    ⟨(some 207), none, .pick (.tmp 205) (.const (.bool true)) (.tmp 206)⟩])
  (.cond (.tmp 207) (.seq (.ops [⟨(some 4), none, .mv (.const (.bool false))⟩])
  (.ret)) (.skip))))) (.skip)))))) (.skip)))
  (.seq (.ops [⟨(some 208), none, .mv (.tmp 1)⟩,
    ⟨(some 209), none, .call 18 [(.tmp 208)]⟩,
    ⟨(some 32), none, .alloc (.agg #[.int .i64 0])⟩,
    ⟨none, none, .store 1 (.tmp 32) (.tmp 209)⟩])
  (.seq (.dops [⟨(some 210), none, .load (some 1) (.tmp 32)⟩,
    ⟨(some 211), none, .call 19 [(.tmp 210)]⟩,
    ⟨(some 212), none, .load (some 1) (.tmp 32)⟩,
    ⟨(some 213), none, .call 20 [(.tmp 212)]⟩,
    ⟨(some 214), none, .eqb false (.tmp 211) (.tmp 213)⟩,
    ⟨(some 4), none, .mv (.tmp 214)⟩])
  (.ret))))))))))))))
theorem h_laws_FnSpans : (Try.prog.funcs[n_laws_FnSpans]?).bind (fun fn => fn.body.bind (comp Try.prog fn.ntmps)) = some c_laws_FnSpans := by kernel_rfl
theorem r_laws_FnSpans : (Try.prog.funcs[n_laws_FnSpans]?).map (fun fn => (fn.results.toList, fn.ntmps)) = some ([.tmp 4], 215) := by kernel_rfl
-- 8 loop.example/g00850/laws.big
abbrev n_laws_big : Nat := 8
def c_laws_big : Am.Stmt :=
  .seq (.ops [⟨(some 4), none, .mv (.const (.bool false))⟩])
  (.seq (.ops [⟨(some 5), none, .mv (.tmp 0)⟩,
    ⟨(some 6), none, .lens (.tmp 5)⟩,
    ⟨(some 7), none, .bin .gtr (.tmp 6) (.const (.int .i64 1048576))⟩,
    ⟨(some 8), none, .mv (.tmp 7)⟩,
    ⟨(some 9), some (8, false), .mv (.tmp 1)⟩,
    ⟨(some 10), some (8, false), .lens (.tmp 9)⟩,
    ⟨(some 11), some (8, false), .mv (.tmp 0)⟩,
    ⟨(some 12), some (8, false), .lens (.tmp 11)⟩,
    ⟨(some 13), some (8, false), .bin .sub (.const (.int .i64 1048576)) (.tmp 12)⟩,
    ⟨(some 14), some (8, false), .bin .gtr (.tmp 10) (.tmp 13)⟩,
    ⟨(some 15), none, .pick (.tmp 8) (.const (.bool true)) (.tmp 14)⟩,
    ⟨(some 4), none, .mv (.tmp 15)⟩])
  (.ret))
theorem h_laws_big : (Try.prog.funcs[n_laws_big]?).bind (fun fn => fn.body.bind (comp Try.prog fn.ntmps)) = some c_laws_big := by kernel_rfl
theorem r_laws_big : (Try.prog.funcs[n_laws_big]?).map (fun fn => (fn.results.toList, fn.ntmps)) = some ([.tmp 4], 16) := by kernel_rfl
-- 9 loop.example/g00850/spec.DrawSpanAt
abbrev n_spec_DrawSpanAt : Nat := 9
def c_spec_DrawSpanAt : Am.Stmt :=
  .seq (.ops [⟨(some 2), none, .alloc (.agg #[.int .i64 0])⟩,
    ⟨(some 3), none, .mv (.const (.int .i64 0))⟩])
  (.seq (.ops [⟨(some 5), none, .mv (.tmp 0)⟩,
    ⟨(some 6), none, .build (.agg #[.slice none 0 0, .int .i64 0, .int .u64 0]) [(0, 1, (.tmp 5))]⟩,
    ⟨(some 7), none, .box (.tmp 6)⟩,
    ⟨(some 4), none, .mv (.tmp 7)⟩])
  (.seq (.ops [⟨(some 8), none, .mv (.tmp 4)⟩,
    ⟨(some 9), none, .call 32 [(.tmp 8)]⟩,
    ⟨(some 10), none, .mv (.tmp 4)⟩,
    ⟨(some 11), none, .call 33 [(.tmp 10)]⟩,
    ⟨(some 12), none, .mv (.tmp 4)⟩,
    ⟨(some 13), none, .call 34 [(.tmp 12), (.const (.int .i64 20))]⟩,
    ⟨(some 14), none, .bin .quo (.tmp 13) (.const (.int .i64 19))⟩,
    ⟨(some 15), none, .bin .sub (.tmp 11) (.tmp 14)⟩,
    ⟨(some 16), none, .mv (.tmp 4)⟩,
    ⟨(some 17), none, .call 34 [(.tmp 16), (.const (.int .i64 20))]⟩,
    ⟨(some 18), none, .bin .quo (.tmp 17) (.const (.int .i64 19))⟩,
    ⟨(some 19), none, .bin .add (.tmp 15) (.tmp 18)⟩,
    ⟨none, none, .store 1 (.tmp 2) (.tmp 9)⟩,
    ⟨(some 3), none, .mv (.tmp 19)⟩])
  (.ret)))
theorem h_spec_DrawSpanAt : (Try.prog.funcs[n_spec_DrawSpanAt]?).bind (fun fn => fn.body.bind (comp Try.prog fn.ntmps)) = some c_spec_DrawSpanAt := by kernel_rfl
theorem r_spec_DrawSpanAt : (Try.prog.funcs[n_spec_DrawSpanAt]?).map (fun fn => (fn.results.toList, fn.ntmps)) = some ([.cell 2 25, .tmp 3], 20) := by kernel_rfl
-- 10 loop.example/g00850/impl.SpanAt
abbrev n_impl_SpanAt : Nat := 10
def c_impl_SpanAt : Am.Stmt :=
  .seq (.ops [⟨(some 2), none, .box (.tmp 0)⟩,
    ⟨(some 4), none, .alloc (.agg #[.int .i64 0, .int .i64 0])⟩,
    ⟨(some 5), none, .mv (.const (.bool false))⟩])
  (.seq (.seq (.ops [⟨(some 6), none, .load (some 1) (.tmp 2)⟩,
    ⟨(some 7), none, .call 19 [(.tmp 6)]⟩,
    ⟨(some 8), none, .not (.tmp 7)⟩,
    ⟨(some 9), none, .mv (.tmp 8)⟩,
    ⟨(some 10), some (9, false), .mv (.tmp 1)⟩,
    ⟨(some 11), some (9, false), .call 35 [(.tmp 10)]⟩,
    ⟨(some 12), some (9, false), .not (.tmp 11)⟩,
    ⟨(some 13), none, .pick (.tmp 9) (.const (.bool true)) (.tmp 12)⟩])
  (.cond (.tmp 13) (.seq (.ops [⟨(some 14), none, .build (.agg #[.int .i64 0, .int .i64 0]) []⟩,
    ⟨none, none, .store 2 (.tmp 4) (.tmp 14)⟩,
    ⟨(some 5), none, .mv (.const (.bool false))⟩])
  (.ret)) (.skip)))
  (.seq (.ops [⟨(some 15), none, .load (some 1) (.tmp 2)⟩,
    ⟨(some 16), none, .mv (.tmp 1)⟩,
    ⟨(some 17), none, .call 36 [(.tmp 15), (.tmp 16)]⟩,
    ⟨none, none, .store 2 (.tmp 4) (.tmp 17)⟩,
    ⟨(some 5), none, .mv (.const (.bool true))⟩])
  (.ret)))
theorem h_impl_SpanAt : (Try.prog.funcs[n_impl_SpanAt]?).bind (fun fn => fn.body.bind (comp Try.prog fn.ntmps)) = some c_impl_SpanAt := by kernel_rfl
theorem r_impl_SpanAt : (Try.prog.funcs[n_impl_SpanAt]?).map (fun fn => (fn.results.toList, fn.ntmps)) = some ([.cell 4 29, .tmp 5], 18) := by kernel_rfl
-- 11 loop.example/g00850/spec.SpanAt
abbrev n_spec_SpanAt : Nat := 11
def c_spec_SpanAt : Am.Stmt :=
  .seq (.ops [⟨(some 2), none, .box (.tmp 0)⟩,
    ⟨(some 4), none, .alloc (.agg #[.int .i64 0, .int .i64 0])⟩,
    ⟨(some 5), none, .mv (.const (.bool false))⟩])
  (.seq (.seq (.ops [⟨(some 6), none, .load (some 1) (.tmp 2)⟩,
    ⟨(some 7), none, .call 37 [(.tmp 6)]⟩,
    ⟨(some 8), none, .not (.tmp 7)⟩,
    ⟨(some 9), none, .mv (.tmp 8)⟩,
    ⟨(some 10), some (9, false), .mv (.tmp 1)⟩,
    ⟨(some 11), some (9, false), .call 38 [(.tmp 10)]⟩,
    ⟨(some 12), some (9, false), .not (.tmp 11)⟩,
    ⟨(some 13), none, .pick (.tmp 9) (.const (.bool true)) (.tmp 12)⟩])
  (.cond (.tmp 13) (.seq (.ops [⟨(some 14), none, .build (.agg #[.int .i64 0, .int .i64 0]) []⟩,
    ⟨none, none, .store 2 (.tmp 4) (.tmp 14)⟩,
    ⟨(some 5), none, .mv (.const (.bool false))⟩])
  (.ret)) (.skip)))
  (.seq (.ops [⟨(some 15), none, .load (some 1) (.tmp 2)⟩,
    ⟨(some 16), none, .mv (.tmp 1)⟩,
    ⟨(some 17), none, .call 39 [(.tmp 15), (.tmp 16)]⟩,
    ⟨none, none, .store 2 (.tmp 4) (.tmp 17)⟩,
    ⟨(some 5), none, .mv (.const (.bool true))⟩])
  (.ret)))
theorem h_spec_SpanAt : (Try.prog.funcs[n_spec_SpanAt]?).bind (fun fn => fn.body.bind (comp Try.prog fn.ntmps)) = some c_spec_SpanAt := by kernel_rfl
theorem r_spec_SpanAt : (Try.prog.funcs[n_spec_SpanAt]?).map (fun fn => (fn.results.toList, fn.ntmps)) = some ([.cell 4 29, .tmp 5], 18) := by kernel_rfl
-- 12 loop.example/g00850/spec.DrawWaitFor
abbrev n_spec_DrawWaitFor : Nat := 12
def c_spec_DrawWaitFor : Am.Stmt :=
  .seq (.ops [⟨(some 2), none, .alloc (.agg #[.int .i64 0])⟩,
    ⟨(some 3), none, .mv (.const (.int .i64 0))⟩,
    ⟨(some 4), none, .mv (.const (.int .i64 0))⟩])
  (.seq (.ops [⟨(some 6), none, .mv (.tmp 0)⟩,
    ⟨(some 7), none, .build (.agg #[.slice none 0 0, .int .i64 0, .int .u64 0]) [(0, 1, (.tmp 6))]⟩,
    ⟨(some 8), none, .box (.tmp 7)⟩,
    ⟨(some 5), none, .mv (.tmp 8)⟩])
  (.seq (.ops [⟨(some 9), none, .mv (.tmp 5)⟩,
    ⟨(some 10), none, .call 32 [(.tmp 9)]⟩,
    ⟨(some 11), none, .mv (.tmp 5)⟩,
    ⟨(some 12), none, .call 33 [(.tmp 11)]⟩,
    ⟨(some 13), none, .mv (.tmp 5)⟩,
    ⟨(some 14), none, .call 33 [(.tmp 13)]⟩,
    ⟨none, none, .store 1 (.tmp 2) (.tmp 10)⟩,
    ⟨(some 3), none, .mv (.tmp 12)⟩,
    ⟨(some 4), none, .mv (.tmp 14)⟩])
  (.ret)))
theorem h_spec_DrawWaitFor : (Try.prog.funcs[n_spec_DrawWaitFor]?).bind (fun fn => fn.body.bind (comp Try.prog fn.ntmps)) = some c_spec_DrawWaitFor := by kernel_rfl
theorem r_spec_DrawWaitFor : (Try.prog.funcs[n_spec_DrawWaitFor]?).map (fun fn => (fn.results.toList, fn.ntmps)) = some ([.cell 2 25, .tmp 3, .tmp 4], 15) := by kernel_rfl
-- 13 loop.example/g00850/impl.WaitFor
abbrev n_impl_WaitFor : Nat := 13
def c_impl_WaitFor : Am.Stmt :=
  .seq (.ops [⟨(some 3), none, .box (.tmp 0)⟩,
    ⟨(some 6), none, .mv (.const (.int .i64 0))⟩,
    ⟨(some 7), none, .mv (.const (.bool false))⟩])
  (.seq (.seq (.ops [⟨(some 9), none, .load (some 1) (.tmp 3)⟩,
    ⟨(some 10), none, .call 19 [(.tmp 9)]⟩,
    ⟨(some 11), none, .not (.tmp 10)⟩,
    ⟨(some 12), none, .mv (.tmp 11)⟩,
    ⟨(some 13), some (12, false), .mv (.tmp 1)⟩,
    ⟨(some 14), some (12, false), .call 35 [(.tmp 13)]⟩,
    ⟨(some 15), some (12, false), .not (.tmp 14)⟩,
    ⟨(some 16), none, .pick (.tmp 12) (.const (.bool true)) (.tmp 15)⟩,
    ⟨(some 17), none, .mv (.tmp 16)⟩,
    ⟨(some 18), some (17, false), .mv (.tmp 2)⟩,
    ⟨(some 19), some (17, false), .call 35 [(.tmp 18)]⟩,
    ⟨(some 20), some (17, false), .not (.tmp 19)⟩,
    ⟨(some 21), none, .pick (.tmp 17) (.const (.bool true)) (.tmp 20)⟩])
  (.cond (.tmp 21) (.seq (.ops [⟨(some 6), none, .mv (.const (.int .i64 0))⟩,
    ⟨(some 7), none, .mv (.const (.bool false))⟩])
  (.ret)) (.skip)))
  (.seq (.ops [⟨(some 22), none, .mv (.tmp 2)⟩,
    ⟨(some 23), none, .bin .add (.tmp 22) (.const (.int .i64 1))⟩,
    ⟨(some 24), none, .load (some 1) (.tmp 3)⟩,
    ⟨(some 25), none, .mv (.tmp 1)⟩,
    ⟨(some 26), none, .call 36 [(.tmp 24), (.tmp 25)]⟩,
    ⟨(some 27), none, .fld 0 none (.tmp 26)⟩,
    ⟨(some 28), none, .bin .sub (.tmp 23) (.tmp 27)⟩,
    ⟨(some 29), none, .bmax [(.const (.int .i64 0)), (.tmp 28)]⟩,
    ⟨(some 8), none, .mv (.tmp 29)⟩])
  (.seq (.seq (.ops [⟨(some 30), none, .mv (.tmp 1)⟩,
    ⟨(some 31), none, .mv (.tmp 8)⟩,
    ⟨(some 32), none, .bin .add (.tmp 30) (.tmp 31)⟩,
    ⟨(some 33), none, .bin .gtr (.tmp 32) (.const (.int .i64 100000))⟩])
  (.cond (.tmp 33) (.seq (.ops [⟨(some 6), none, .mv (.const (.int .i64 0))⟩,
    ⟨(some 7), none, .mv (.const (.bool false))⟩])
  (.ret)) (.skip)))
  (.seq (.ops [⟨(some 34), none, .mv (.tmp 8)⟩,
    ⟨(some 6), none, .mv (.tmp 34)⟩,
    ⟨(some 7), none, .mv (.const (.bool true))⟩])
  (.ret)))))
theorem h_impl_WaitFor : (Try.prog.funcs[n_impl_WaitFor]?).bind (fun fn => fn.body.bind (comp Try.prog fn.ntmps)) = some c_impl_WaitFor := by kernel_rfl
theorem r_impl_WaitFor : (Try.prog.funcs[n_impl_WaitFor]?).map (fun fn => (fn.results.toList, fn.ntmps)) = some ([.tmp 6, .tmp 7], 35) := by kernel_rfl
-- 14 loop.example/g00850/spec.WaitFor
abbrev n_spec_WaitFor : Nat := 14
def c_spec_WaitFor : Am.Stmt :=
  .seq (.ops [⟨(some 3), none, .box (.tmp 0)⟩,
    ⟨(some 6), none, .mv (.const (.int .i64 0))⟩,
    ⟨(some 7), none, .mv (.const (.bool false))⟩])
  (.seq (.seq (.ops [⟨(some 9), none, .load (some 1) (.tmp 3)⟩,
    ⟨(some 10), none, .call 37 [(.tmp 9)]⟩,
    ⟨(some 11), none, .not (.tmp 10)⟩,
    ⟨(some 12), none, .mv (.tmp 11)⟩,
    ⟨(some 13), some (12, false), .mv (.tmp 1)⟩,
    ⟨(some 14), some (12, false), .call 38 [(.tmp 13)]⟩,
    ⟨(some 15), some (12, false), .not (.tmp 14)⟩,
    ⟨(some 16), none, .pick (.tmp 12) (.const (.bool true)) (.tmp 15)⟩,
    ⟨(some 17), none, .mv (.tmp 16)⟩,
    ⟨(some 18), some (17, false), .mv (.tmp 2)⟩,
    ⟨(some 19), some (17, false), .call 38 [(.tmp 18)]⟩,
    ⟨(some 20), some (17, false), .not (.tmp 19)⟩,
    ⟨(some 21), none, .pick (.tmp 17) (.const (.bool true)) (.tmp 20)⟩])
  (.cond (.tmp 21) (.seq (.ops [⟨(some 6), none, .mv (.const (.int .i64 0))⟩,
    ⟨(some 7), none, .mv (.const (.bool false))⟩])
  (.ret)) (.skip)))
  (.seq (.ops [⟨(some 22), none, .mv (.tmp 2)⟩,
    ⟨(some 23), none, .bin .add (.tmp 22) (.const (.int .i64 1))⟩,
    ⟨(some 24), none, .load (some 1) (.tmp 3)⟩,
    ⟨(some 25), none, .mv (.tmp 1)⟩,
    ⟨(some 26), none, .call 39 [(.tmp 24), (.tmp 25)]⟩,
    ⟨(some 27), none, .fld 0 none (.tmp 26)⟩,
    ⟨(some 28), none, .bin .sub (.tmp 23) (.tmp 27)⟩,
    ⟨(some 29), none, .call 40 [(.const (.int .i64 0)), (.tmp 28)]⟩,
    ⟨(some 8), none, .mv (.tmp 29)⟩])
  (.seq (.seq (.ops [⟨(some 30), none, .mv (.tmp 1)⟩,
    ⟨(some 31), none, .mv (.tmp 8)⟩,
    ⟨(some 32), none, .bin .add (.tmp 30) (.tmp 31)⟩,
    ⟨(some 33), none, .bin .gtr (.tmp 32) (.const (.int .i64 100000))⟩])
  (.cond (.tmp 33) (.seq (.ops [⟨(some 6), none, .mv (.const (.int .i64 0))⟩,
    ⟨(some 7), none, .mv (.const (.bool false))⟩])
  (.ret)) (.skip)))
  (.seq (.ops [⟨(some 34), none, .mv (.tmp 8)⟩,
    ⟨(some 6), none, .mv (.tmp 34)⟩,
    ⟨(some 7), none, .mv (.const (.bool true))⟩])
  (.ret)))))
theorem h_spec_WaitFor : (Try.prog.funcs[n_spec_WaitFor]?).bind (fun fn => fn.body.bind (comp Try.prog fn.ntmps)) = some c_spec_WaitFor := by kernel_rfl
theorem r_spec_WaitFor : (Try.prog.funcs[n_spec_WaitFor]?).map (fun fn => (fn.results.toList, fn.ntmps)) = some ([.tmp 6, .tmp 7], 35) := by kernel_rfl
-- 15 loop.example/g00850/impl.GoodSpan
abbrev n_impl_GoodSpan : Nat := 15
def c_impl_GoodSpan : Am.Stmt :=
  .seq (.ops [⟨(some 1), none, .box (.tmp 0)⟩,
    ⟨(some 2), none, .mv (.const (.bool false))⟩])
  (.seq (.ops [⟨(some 3), none, .fa 0 (.tmp 1)⟩,
    ⟨(some 4), none, .load none (.tmp 3)⟩,
    ⟨(some 5), none, .fa 1 (.tmp 1)⟩,
    ⟨(some 6), none, .load none (.tmp 5)⟩,
    ⟨(some 7), none, .bin .leq (.tmp 4) (.tmp 6)⟩,
    ⟨(some 8), none, .mv (.tmp 7)⟩,
    ⟨(some 9), some (8, true), .fa 0 (.tmp 1)⟩,
    ⟨(some 10), some (8, true), .load none (.tmp 9)⟩,
    ⟨(some 11), some (8, true), .bin .geq (.tmp 10) (.const (.int .i64 (-10)))⟩,
    ⟨(some 12), none, .pick (.tmp 8) (.tmp 11) (.const (.bool false))⟩,
    ⟨(some 13), none, .mv (.tmp 12)⟩,
    ⟨(some 14), some (13, true), .fa 1 (.tmp 1)⟩,
    ⟨(some 15), some (13, true), .load none (.tmp 14)⟩,
    ⟨(some 16), some (13, true), .bin .leq (.tmp 15) (.const (.int .i64 100010))⟩,
    ⟨(some 17), none, .pick (.tmp 13) (.tmp 16) (.const (.bool false))⟩,
    ⟨(some 2), none, .mv (.tmp 17)⟩])
  (.ret))
theorem h_impl_GoodSpan : (Try.prog.funcs[n_impl_GoodSpan]?).bind (fun fn => fn.body.bind (comp Try.prog fn.ntmps)) = some c_impl_GoodSpan := by kernel_rfl
theorem r_impl_GoodSpan : (Try.prog.funcs[n_impl_GoodSpan]?).map (fun fn => (fn.results.toList, fn.ntmps)) = some ([.tmp 2], 18) := by kernel_rfl
-- 16 loop.example/g00850/impl.IsPast
abbrev n_impl_IsPast : Nat := 16
def c_impl_IsPast : Am.Stmt :=
  .seq (.ops [⟨(some 2), none, .box (.tmp 0)⟩,
    ⟨(some 4), none, .mv (.const (.bool false))⟩,
    ⟨(some 5), none, .mv (.const (.bool false))⟩])
  (.seq (.dops [⟨(some 6), none, .load (some 2) (.tmp 2)⟩,
    ⟨(some 7), none, .mv (.tmp 1)⟩,
    ⟨(some 8), none, .call 41 [(.tmp 6), (.tmp 7)]⟩,
    ⟨(some 9), none, .mv (.tmp 8)⟩,
    ⟨(some 10), some (9, true), .mv (.tmp 1)⟩,
    ⟨(some 11), some (9, true), .fa 0 (.tmp 2)⟩,
    ⟨(some 12), some (9, true), .load none (.tmp 11)⟩,
    ⟨(some 13), some (9, true), .bin .lss (.tmp 10) (.tmp 12)⟩,
    ⟨(some 14), none, .pick (.tmp 9) (.tmp 13) (.const (.bool false))⟩,
    ⟨(some 15), none, .load (some 2) (.tmp 2)⟩,
    ⟨(some 16), none, .mv (.tmp 1)⟩,
    ⟨(some 17), none, .call 41 [(.tmp 15), (.tmp 16)]⟩,
    ⟨(some 4), none, .mv (.tmp 14)⟩,
    ⟨(some 5), none, .mv (.tmp 17)⟩])
  (.ret))
theorem h_impl_IsPast : (Try.prog.funcs[n_impl_IsPast]?).bind (fun fn => fn.body.bind (comp Try.prog fn.ntmps)) = some c_impl_IsPast := by kernel_rfl
theorem r_impl_IsPast : (Try.prog.funcs[n_impl_IsPast]?).map (fun fn => (fn.results.toList, fn.ntmps)) = some ([.tmp 4, .tmp 5], 18) := by kernel_rfl
-- 17 loop.example/g00850/impl.IsAhead
abbrev n_impl_IsAhead : Nat := 17
def c_impl_IsAhead : Am.Stmt :=
  .seq (.ops [⟨(some 2), none, .box (.tmp 0)⟩,
    ⟨(some 4), none, .mv (.const (.bool false))⟩,
    ⟨(some 5), none, .mv (.const (.bool false))⟩])
  (.seq (.dops [⟨(some 6), none, .load (some 2) (.tmp 2)⟩,
    ⟨(some 7), none, .mv (.tmp 1)⟩,
    ⟨(some 8), none, .call 41 [(.tmp 6), (.tmp 7)]⟩,
    ⟨(some 9), none, .mv (.tmp 8)⟩,
    ⟨(some 10), some (9, true), .mv (.tmp 1)⟩,
    ⟨(some 11), some (9, true), .fa 1 (.tmp 2)⟩,
    ⟨(some 12), some (9, true), .load none (.tmp 11)⟩,
    ⟨(some 13), some (9, true), .bin .gtr (.tmp 10) (.tmp 12)⟩,
    ⟨(some 14), none, .pick (.tmp 9) (.tmp 13) (.const (.bool false))⟩,
    ⟨(some 15), none, .load (some 2) (.tmp 2)⟩,
    ⟨(some 16), none, .mv (.tmp 1)⟩,
    ⟨(some 17), none, .call 41 [(.tmp 15), (.tmp 16)]⟩,
    ⟨(some 4), none, .mv (.tmp 14)⟩,
    ⟨(some 5), none, .mv (.tmp 17)⟩])
  (.ret))
theorem h_impl_IsAhead : (Try.prog.funcs[n_impl_IsAhead]?).bind (fun fn => fn.body.bind (comp Try.prog fn.ntmps)) = some c_impl_IsAhead := by kernel_rfl
theorem r_impl_IsAhead : (Try.prog.funcs[n_impl_IsAhead]?).map (fun fn => (fn.results.toList, fn.ntmps)) = some ([.tmp 4, .tmp 5], 18) := by kernel_rfl
-- 18 loop.example/g00850/spec.DrawGoodClock
abbrev n_spec_DrawGoodClock : Nat := 18
def c_spec_DrawGoodClock : Am.Stmt :=
  .seq (.ops [⟨(some 2), none, .alloc (.agg #[.int .i64 0])⟩])
  (.seq (.ops [⟨(some 4), none, .mv (.tmp 0)⟩,
    ⟨(some 5), none, .build (.agg #[.slice none 0 0, .int .i64 0, .int .u64 0]) [(0, 1, (.tmp 4))]⟩,
    ⟨(some 6), none, .box (.tmp 5)⟩,
    ⟨(some 3), none, .mv (.tmp 6)⟩])
  (.seq (.ops [⟨(some 7), none, .mv (.tmp 3)⟩,
    ⟨(some 8), none, .call 32 [(.tmp 7)]⟩,
    ⟨none, none, .store 1 (.tmp 2) (.tmp 8)⟩])
  (.ret)))
theorem h_spec_DrawGoodClock : (Try.prog.funcs[n_spec_DrawGoodClock]?).bind (fun fn => fn.body.bind (comp Try.prog fn.ntmps)) = some c_spec_DrawGoodClock := by kernel_rfl
theorem r_spec_DrawGoodClock : (Try.prog.funcs[n_spec_DrawGoodClock]?).map (fun fn => (fn.results.toList, fn.ntmps)) = some ([.cell 2 25], 9) := by kernel_rfl
-- 19 loop.example/g00850/impl.GoodClock
abbrev n_impl_GoodClock : Nat := 19
def c_impl_GoodClock : Am.Stmt :=
  .seq (.ops [⟨(some 1), none, .box (.tmp 0)⟩,
    ⟨(some 2), none, .mv (.const (.bool false))⟩])
  (.seq (.ops [⟨(some 3), none, .fa 0 (.tmp 1)⟩,
    ⟨(some 4), none, .load none (.tmp 3)⟩,
    ⟨(some 5), none, .call 42 [(.tmp 4), (.const (.int .i64 (-5))), (.const (.int .i64 5))]⟩,
    ⟨(some 2), none, .mv (.tmp 5)⟩])
  (.ret))
theorem h_impl_GoodClock : (Try.prog.funcs[n_impl_GoodClock]?).bind (fun fn => fn.body.bind (comp Try.prog fn.ntmps)) = some c_impl_GoodClock := by kernel_rfl
theorem r_impl_GoodClock : (Try.prog.funcs[n_impl_GoodClock]?).map (fun fn => (fn.results.toList, fn.ntmps)) = some ([.tmp 2], 6) := by kernel_rfl
-- 20 loop.example/g00850/spec.GoodClock
abbrev n_spec_GoodClock : Nat := 20
def c_spec_GoodClock : Am.Stmt :=
  .seq (.ops [⟨(some 1), none, .box (.tmp 0)⟩,
    ⟨(some 2), none, .mv (.const (.bool false))⟩])
  (.seq (.ops [⟨(some 3), none, .load (some 1) (.tmp 1)⟩,
    ⟨(some 4), none, .call 37 [(.tmp 3)]⟩,
    ⟨(some 2), none, .mv (.tmp 4)⟩])
  (.ret))
theorem h_spec_GoodClock : (Try.prog.funcs[n_spec_GoodClock]?).bind (fun fn => fn.body.bind (comp Try.prog fn.ntmps)) = some c_spec_GoodClock := by kernel_rfl
theorem r_spec_GoodClock : (Try.prog.funcs[n_spec_GoodClock]?).map (fun fn => (fn.results.toList, fn.ntmps)) = some ([.tmp 2], 5) := by kernel_rfl
-- 32 (*loop.example/g00850/spec.l1Cur).clock
abbrev n_pspec_l1Cur_clock : Nat := 32
def c_pspec_l1Cur_clock : Am.Stmt :=
  .seq (.ops [⟨(some 2), none, .alloc (.agg #[.int .i64 0])⟩])
  (.seq (.ops [⟨(some 4), none, .mv (.tmp 0)⟩,
    ⟨(some 5), none, .call 34 [(.tmp 4), (.const (.int .i64 11))]⟩,
    ⟨(some 6), none, .bin .sub (.tmp 5) (.const (.int .i64 5))⟩,
    ⟨(some 7), none, .build (.agg #[.int .i64 0]) [(0, 1, (.tmp 6))]⟩,
    ⟨(some 3), none, .alloc (.agg #[.int .i64 0])⟩,
    ⟨none, none, .store 1 (.tmp 3) (.tmp 7)⟩])
  (.seq (.seq (.ops [⟨(some 8), none, .mv (.tmp 0)⟩,
    ⟨(some 9), none, .call 62 [(.tmp 8), (.const (.int .i64 30))]⟩])
  (.cond (.tmp 9) (.ops [⟨(some 10), none, .mv (.tmp 0)⟩,
    ⟨(some 11), none, .bsl 1 (.int .i64 0) 2 [(0, (.const (.int .i64 6))), (1, (.const (.int .i64 (-6))))]⟩,
    ⟨(some 12), none, .call 63 [(.tmp 10), (.tmp 11)]⟩,
    ⟨(some 13), none, .fa 0 (.tmp 3)⟩,
    ⟨none, none, .store 1 (.tmp 13) (.tmp 12)⟩]) (.skip)))
  (.seq (.ops [⟨(some 14), none, .load (some 1) (.tmp 3)⟩,
    ⟨none, none, .store 1 (.tmp 2) (.tmp 14)⟩])
  (.ret))))
theorem h_pspec_l1Cur_clock : (Try.prog.funcs[n_pspec_l1Cur_clock]?).bind (fun fn => fn.body.bind (comp Try.prog fn.ntmps)) = some c_pspec_l1Cur_clock := by kernel_rfl
theorem r_pspec_l1Cur_clock : (Try.prog.funcs[n_pspec_l1Cur_clock]?).map (fun fn => (fn.results.toList, fn.ntmps)) = some ([.cell 2 25], 15) := by kernel_rfl
-- 33 (*loop.example/g00850/spec.l1Cur).time
abbrev n_pspec_l1Cur_time : Nat := 33
def c_pspec_l1Cur_time : Am.Stmt :=
  .seq (.ops [⟨(some 2), none, .mv (.const (.int .i64 0))⟩])
  (.seq (.ops [⟨(some 3), none, .mv (.tmp 0)⟩,
    ⟨(some 4), none, .bsl 1 (.int .i64 0) 9 [(0, (.const (.int .i64 0))), (1, (.const (.int .i64 1))), (2, (.const (.int .i64 3))), (3, (.const (.int .i64 7))), (4, (.const (.int .i64 10))), (5, (.const (.int .i64 20))), (6, (.const (.int .i64 50))), (7, (.const (.int .i64 100))), (8, (.const (.int .i64 100000)))]⟩,
    ⟨(some 5), none, .call 63 [(.tmp 3), (.tmp 4)]⟩,
    ⟨(some 2), none, .mv (.tmp 5)⟩])
  (.ret))
theorem h_pspec_l1Cur_time : (Try.prog.funcs[n_pspec_l1Cur_time]?).bind (fun fn => fn.body.bind (comp Try.prog fn.ntmps)) = some c_pspec_l1Cur_time := by kernel_rfl
theorem r_pspec_l1Cur_time : (Try.prog.funcs[n_pspec_l1Cur_time]?).map (fun fn => (fn.results.toList, fn.ntmps)) = some ([.tmp 2], 6) := by kernel_rfl
-- 34 (*loop.example/g00850/spec.l1Cur).pick
abbrev n_pspec_l1Cur_pick : Nat := 34
def c_pspec_l1Cur_pick : Am.Stmt :=
  .seq (.ops [⟨(some 4), none, .mv (.const (.int .i64 0))⟩])
  (.seq (.seq (.ops [⟨(some 6), none, .mv (.tmp 1)⟩,
    ⟨(some 7), none, .bin .leq (.tmp 6) (.const (.int .i64 1))⟩])
  (.cond (.tmp 7) (.seq (.ops [⟨(some 4), none, .mv (.const (.int .i64 0))⟩])
  (.ret)) (.skip)))
  (.seq (.ops [⟨(some 8), none, .mv (.tmp 0)⟩,
    ⟨(some 9), none, .call 64 [(.tmp 8)]⟩,
    ⟨(some 5), none, .mv (.tmp 9)⟩])
  (.seq (.seq (.ops [⟨(some 10), none, .mv (.tmp 1)⟩,
    ⟨(some 11), none, .bin .gtr (.tmp 10) (.const (.int .i64 200))⟩])
  (.cond (.tmp 11) (.ops [⟨(some 12), none, .mv (.tmp 5)⟩,
    ⟨(some 13), none, .bin .mul (.tmp 12) (.const (.int .i64 256))⟩,
    ⟨(some 14), none, .mv (.tmp 0)⟩,
    ⟨(some 15), none, .call 64 [(.tmp 14)]⟩,
    ⟨(some 16), none, .bin .add (.tmp 13) (.tmp 15)⟩,
    ⟨(some 5), none, .mv (.tmp 16)⟩]) (.skip)))
  (.seq (.ops [⟨(some 17), none, .mv (.tmp 5)⟩,
    ⟨(some 18), none, .mv (.tmp 1)⟩,
    ⟨(some 19), none, .bin .rem (.tmp 17) (.tmp 18)⟩,
    ⟨(some 4), none, .mv (.tmp 19)⟩])
  (.ret)))))
theorem h_pspec_l1Cur_pick : (Try.prog.funcs[n_pspec_l1Cur_pick]?).bind (fun fn => fn.body.bind (comp Try.prog fn.ntmps)) = some c_pspec_l1Cur_pick := by kernel_rfl
theorem r_pspec_l1Cur_pick : (Try.prog.funcs[n_pspec_l1Cur_pick]?).map (fun fn => (fn.results.toList, fn.ntmps)) = some ([.tmp 4], 20) := by kernel_rfl
-- 35 loop.example/g00850/impl.isTrue
abbrev n_impl_isTrue : Nat := 35
def c_impl_isTrue : Am.Stmt :=
  .seq (.ops [⟨(some 2), none, .mv (.const (.bool false))⟩])
  (.seq (.ops [⟨(some 3), none, .mv (.tmp 0)⟩,
    ⟨(some 4), none, .call 42 [(.tmp 3), (.const (.int .i64 0)), (.const (.int .i64 100000))]⟩,
    ⟨(some 2), none, .mv (.tmp 4)⟩])
  (.ret))
theorem h_impl_isTrue : (Try.prog.funcs[n_impl_isTrue]?).bind (fun fn => fn.body.bind (comp Try.prog fn.ntmps)) = some c_impl_isTrue := by kernel_rfl
theorem r_impl_isTrue : (Try.prog.funcs[n_impl_isTrue]?).map (fun fn => (fn.results.toList, fn.ntmps)) = some ([.tmp 2], 5) := by kernel_rfl
-- 36 (loop.example/g00850/impl.Clock).span
abbrev n_impl_Clock_span : Nat := 36
def c_impl_Clock_span : Am.Stmt :=
  .seq (.ops [⟨(some 2), none, .box (.tmp 0)⟩,
    ⟨(some 4), none, .alloc (.agg #[.int .i64 0, .int .i64 0])⟩])
  (.seq (.ops [⟨(some 5), none, .mv (.tmp 1)⟩,
    ⟨(some 6), none, .fa 0 (.tmp 2)⟩,
    ⟨(some 7), none, .load none (.tmp 6)⟩,
    ⟨(some 8), none, .bin .add (.tmp 5) (.tmp 7)⟩,
    ⟨(some 9), none, .bin .sub (.tmp 8) (.const (.int .i64 5))⟩,
    ⟨(some 10), none, .mv (.tmp 1)⟩,
    ⟨(some 11), none, .fa 0 (.tmp 2)⟩,
    ⟨(some 12), none, .load none (.tmp 11)⟩,
    ⟨(some 13), none, .bin .add (.tmp 10) (.tmp 12)⟩,
    ⟨(some 14), none, .bin .add (.tmp 13) (.const (.int .i64 5))⟩,
    ⟨(some 15), none, .build (.agg #[.int .i64 0, .int .i64 0]) [(0, 1, (.tmp 9)), (1, 1, (.tmp 14))]⟩,
    ⟨none, none, .store 2 (.tmp 4) (.tmp 15)⟩])
  (.ret))
theorem h_impl_Clock_span : (Try.prog.funcs[n_impl_Clock_span]?).bind (fun fn => fn.body.bind (comp Try.prog fn.ntmps)) = some c_impl_Clock_span := by kernel_rfl
theorem r_impl_Clock_span : (Try.prog.funcs[n_impl_Clock_span]?).map (fun fn => (fn.results.toList, fn.ntmps)) = some ([.cell 4 29], 16) := by kernel_rfl
-- 37 loop.example/g00850/spec.l2Clock
abbrev n_spec_l2Clock : Nat := 37
def c_spec_l2Clock : Am.Stmt :=
  .seq (.ops [⟨(some 1), none, .box (.tmp 0)⟩,
    ⟨(some 2), none, .mv (.const (.bool false))⟩])
  (.seq (.ops [⟨(some 3), none, .fa 0 (.tmp 1)⟩,
    ⟨(some 4), none, .load none (.tmp 3)⟩,
    ⟨(some 5), none, .call 46 [(.tmp 4), (.const (.int .i64 (-5))), (.const (.int .i64 5))]⟩,
    ⟨(some 2), none, .mv (.tmp 5)⟩])
  (.ret))
theorem h_spec_l2Clock : (Try.prog.funcs[n_spec_l2Clock]?).bind (fun fn => fn.body.bind (comp Try.prog fn.ntmps)) = some c_spec_l2Clock := by kernel_rfl
theorem r_spec_l2Clock : (Try.prog.funcs[n_spec_l2Clock]?).map (fun fn => (fn.results.toList, fn.ntmps)) = some ([.tmp 2], 6) := by kernel_rfl
-- 38 loop.example/g00850/spec.l2True
abbrev n_spec_l2True : Nat := 38
def c_spec_l2True : Am.Stmt :=
  .seq (.ops [⟨(some 2), none, .mv (.const (.bool false))⟩])
  (.seq (.ops [⟨(some 3), none, .mv (.tmp 0)⟩,
    ⟨(some 4), none, .call 46 [(.tmp 3), (.const (.int .i64 0)), (.const (.int .i64 100000))]⟩,
    ⟨(some 2), none, .mv (.tmp 4)⟩])
  (.ret))
theorem h_spec_l2True : (Try.prog.funcs[n_spec_l2True]?).bind (fun fn => fn.body.bind (comp Try.prog fn.ntmps)) = some c_spec_l2True := by kernel_rfl
theorem r_spec_l2True : (Try.prog.funcs[n_spec_l2True]?).map (fun fn => (fn.results.toList, fn.ntmps)) = some ([.tmp 2], 5) := by kernel_rfl
-- 39 loop.example/g00850/spec.l2At
abbrev n_spec_l2At : Nat := 39
def c_spec_l2At : Am.Stmt :=
  .seq (.ops [⟨(some 2), none, .box (.tmp 0)⟩,
    ⟨(some 4), none, .alloc (.agg #[.int .i64 0, .int .i64 0])⟩])
  (.seq (.ops [⟨(some 5), none, .mv (.tmp 1)⟩,
    ⟨(some 6), none, .fa 0 (.tmp 2)⟩,
    ⟨(some 7), none, .load none (.tmp 6)⟩,
    ⟨(some 8), none, .bin .add (.tmp 5) (.tmp 7)⟩,
    ⟨(some 9), none, .bin .sub (.tmp 8) (.const (.int .i64 5))⟩,
    ⟨(some 10), none, .mv (.tmp 1)⟩,
    ⟨(some 11), none, .fa 0 (.tmp 2)⟩,
    ⟨(some 12), none, .load none (.tmp 11)⟩,
    ⟨(some 13), none, .bin .add (.tmp 10) (.tmp 12)⟩,
    ⟨(some 14), none, .bin .add (.tmp 13) (.const (.int .i64 5))⟩,
    ⟨(some 15), none, .build (.agg #[.int .i64 0, .int .i64 0]) [(0, 1, (.tmp 9)), (1, 1, (.tmp 14))]⟩,
    ⟨none, none, .store 2 (.tmp 4) (.tmp 15)⟩])
  (.ret))
theorem h_spec_l2At : (Try.prog.funcs[n_spec_l2At]?).bind (fun fn => fn.body.bind (comp Try.prog fn.ntmps)) = some c_spec_l2At := by kernel_rfl
theorem r_spec_l2At : (Try.prog.funcs[n_spec_l2At]?).map (fun fn => (fn.results.toList, fn.ntmps)) = some ([.cell 4 29], 16) := by kernel_rfl
-- 40 loop.example/g00850/spec.l1Most
abbrev n_spec_l1Most : Nat := 40
def c_spec_l1Most : Am.Stmt :=
  .seq (.ops [⟨(some 4), none, .mv (.const (.int .i64 0))⟩])
  (.seq (.seq (.ops [⟨(some 5), none, .mv (.tmp 0)⟩,
    ⟨(some 6), none, .mv (.tmp 1)⟩,
    ⟨(some 7), none, .bin .gtr (.tmp 5) (.tmp 6)⟩])
  (.cond (.tmp 7) (.seq (.ops [⟨(some 8), none, .mv (.tmp 0)⟩,
    ⟨(some 4), none, .mv (.tmp 8)⟩])
  (.ret)) (.skip)))
  (.seq (.ops [⟨(some 9), none, .mv (.tmp 1)⟩,
    ⟨(some 4), none, .mv (.tmp 9)⟩])
  (.ret)))
theorem h_spec_l1Most : (Try.prog.funcs[n_spec_l1Most]?).bind (fun fn => fn.body.bind (comp Try.prog fn.ntmps)) = some c_spec_l1Most := by kernel_rfl
theorem r_spec_l1Most : (Try.prog.funcs[n_spec_l1Most]?).map (fun fn => (fn.results.toList, fn.ntmps)) = some ([.tmp 4], 10) := by kernel_rfl
-- 41 loop.example/g00850/impl.isAsked
abbrev n_impl_isAsked : Nat := 41
def c_impl_isAsked : Am.Stmt :=
  .seq (.ops [⟨(some 2), none, .box (.tmp 0)⟩,
    ⟨(some 4), none, .mv (.const (.bool false))⟩])
  (.seq (.ops [⟨(some 5), none, .load (some 2) (.tmp 2)⟩,
    ⟨(some 6), none, .call 15 [(.tmp 5)]⟩,
    ⟨(some 7), none, .mv (.tmp 6)⟩,
    ⟨(some 8), some (7, true), .mv (.tmp 1)⟩,
    ⟨(some 9), some (7, true), .call 42 [(.tmp 8), (.const (.int .i64 (-100))), (.const (.int .i64 100100))]⟩,
    ⟨(some 10), none, .pick (.tmp 7) (.tmp 9) (.const (.bool false))⟩,
    ⟨(some 4), none, .mv (.tmp 10)⟩])
  (.ret))
theorem h_impl_isAsked : (Try.prog.funcs[n_impl_isAsked]?).bind (fun fn => fn.body.bind (comp Try.prog fn.ntmps)) = some c_impl_isAsked := by kernel_rfl
theorem r_impl_isAsked : (Try.prog.funcs[n_impl_isAsked]?).map (fun fn => (fn.results.toList, fn.ntmps)) = some ([.tmp 4], 11) := by kernel_rfl
-- 42 loop.example/g00850/impl.within
abbrev n_impl_within : Nat := 42
def c_impl_within : Am.Stmt :=
  .seq (.ops [⟨(some 6), none, .mv (.const (.bool false))⟩])
  (.seq (.ops [⟨(some 7), none, .mv (.tmp 0)⟩,
    ⟨(some 8), none, .mv (.tmp 1)⟩,
    ⟨(some 9), none, .bin .geq (.tmp 7) (.tmp 8)⟩,
    ⟨(some 10), none, .mv (.tmp 9)⟩,
    ⟨(some 11), some (10, true), .mv (.tmp 0)⟩,
    ⟨(some 12), some (10, true), .mv (.tmp 2)⟩,
    ⟨(some 13), some (10, true), .bin .leq (.tmp 11) (.tmp 12)⟩,
    ⟨(some 14), none, .pick (.tmp 10) (.tmp 13) (.const (.bool false))⟩,
    ⟨(some 6), none, .mv (.tmp 14)⟩])
  (.ret))
theorem h_impl_within : (Try.prog.funcs[n_impl_within]?).bind (fun fn => fn.body.bind (comp Try.prog fn.ntmps)) = some c_impl_within := by kernel_rfl
theorem r_impl_within : (Try.prog.funcs[n_impl_within]?).map (fun fn => (fn.results.toList, fn.ntmps)) = some ([.tmp 6], 15) := by kernel_rfl
-- 46 loop.example/g00850/spec.l1In
abbrev n_spec_l1In : Nat := 46
def c_spec_l1In : Am.Stmt :=
  .seq (.ops [⟨(some 6), none, .mv (.const (.bool false))⟩])
  (.seq (.ops [⟨(some 7), none, .mv (.tmp 0)⟩,
    ⟨(some 8), none, .mv (.tmp 1)⟩,
    ⟨(some 9), none, .bin .geq (.tmp 7) (.tmp 8)⟩,
    ⟨(some 10), none, .mv (.tmp 9)⟩,
    ⟨(some 11), some (10, true), .mv (.tmp 0)⟩,
    ⟨(some 12), some (10, true), .mv (.tmp 2)⟩,
    ⟨(some 13), some (10, true), .bin .leq (.tmp 11) (.tmp 12)⟩,
    ⟨(some 14), none, .pick (.tmp 10) (.tmp 13) (.const (.bool false))⟩,
    ⟨(some 6), none, .mv (.tmp 14)⟩])
  (.ret))
theorem h_spec_l1In : (Try.prog.funcs[n_spec_l1In]?).bind (fun fn => fn.body.bind (comp Try.prog fn.ntmps)) = some c_spec_l1In := by kernel_rfl
theorem r_spec_l1In : (Try.prog.funcs[n_spec_l1In]?).map (fun fn => (fn.results.toList, fn.ntmps)) = some ([.tmp 6], 15) := by kernel_rfl
-- 62 (*loop.example/g00850/spec.l1Cur).one
abbrev n_pspec_l1Cur_one : Nat := 62
def c_pspec_l1Cur_one : Am.Stmt :=
  .seq (.ops [⟨(some 4), none, .mv (.const (.bool false))⟩])
  (.seq (.ops [⟨(some 5), none, .mv (.tmp 0)⟩,
    ⟨(some 6), none, .mv (.tmp 1)⟩,
    ⟨(some 7), none, .call 34 [(.tmp 5), (.tmp 6)]⟩,
    ⟨(some 8), none, .bin .eql (.tmp 7) (.const (.int .i64 0))⟩,
    ⟨(some 4), none, .mv (.tmp 8)⟩])
  (.ret))
theorem h_pspec_l1Cur_one : (Try.prog.funcs[n_pspec_l1Cur_one]?).bind (fun fn => fn.body.bind (comp Try.prog fn.ntmps)) = some c_pspec_l1Cur_one := by kernel_rfl
theorem r_pspec_l1Cur_one : (Try.prog.funcs[n_pspec_l1Cur_one]?).map (fun fn => (fn.results.toList, fn.ntmps)) = some ([.tmp 4], 9) := by kernel_rfl
-- 63 (*loop.example/g00850/spec.l1Cur).among
abbrev n_pspec_l1Cur_among : Nat := 63
def c_pspec_l1Cur_among : Am.Stmt :=
  .seq (.ops [⟨(some 4), none, .mv (.const (.int .i64 0))⟩])
  (.seq (.ops [⟨(some 5), none, .mv (.tmp 1)⟩,
    ⟨(some 6), none, .mv (.tmp 0)⟩,
    ⟨(some 7), none, .mv (.tmp 1)⟩,
    ⟨(some 8), none, .lens (.tmp 7)⟩,
    ⟨(some 9), none, .call 34 [(.tmp 6), (.tmp 8)]⟩,
    ⟨(some 10), none, .ia 1 (.tmp 5) (.tmp 9)⟩,
    ⟨(some 11), none, .load none (.tmp 10)⟩,
    ⟨(some 4), none, .mv (.tmp 11)⟩])
  (.ret))
theorem h_pspec_l1Cur_among : (Try.prog.funcs[n_pspec_l1Cur_among]?).bind (fun fn => fn.body.bind (comp Try.prog fn.ntmps)) = some c_pspec_l1Cur_among := by kernel_rfl
theorem r_pspec_l1Cur_among : (Try.prog.funcs[n_pspec_l1Cur_among]?).map (fun fn => (fn.results.toList, fn.ntmps)) = some ([.tmp 4], 12) := by kernel_rfl
-- 64 (*loop.example/g00850/spec.l1Cur).next
abbrev n_pspec_l1Cur_next : Nat := 64
def c_pspec_l1Cur_next : Am.Stmt :=
  .seq (.ops [⟨(some 2), none, .mv (.const (.int .i64 0))⟩])
  (.seq (.ops [⟨(some 3), none, .mv (.const (.int .i64 0))⟩])
  (.seq (.seq (.dops [⟨(some 4), none, .mv (.tmp 0)⟩,
    ⟨(some 5), none, .nc (.tmp 4)⟩,
    ⟨(some 6), none, .fa 1 (.tmp 5)⟩,
    ⟨(some 7), none, .load none (.tmp 6)⟩,
    ⟨(some 8), none, .mv (.tmp 0)⟩,
    ⟨(some 9), none, .nc (.tmp 8)⟩,
    ⟨(some 10), none, .fa 0 (.tmp 9)⟩,
    ⟨(some 11), none, .load none (.tmp 10)⟩,
    ⟨(some 12), none, .lens (.tmp 11)⟩,
    ⟨(some 13), none, .bin .lss (.tmp 7) (.tmp 12)⟩])
  (.cond (.tmp 13) (.dops [⟨(some 14), none, .mv (.tmp 0)⟩,
    ⟨(some 15), none, .nc (.tmp 14)⟩,
    ⟨(some 16), none, .fa 0 (.tmp 15)⟩,
    ⟨(some 17), none, .load none (.tmp 16)⟩,
    ⟨(some 18), none, .mv (.tmp 0)⟩,
    ⟨(some 19), none, .nc (.tmp 18)⟩,
    ⟨(some 20), none, .fa 1 (.tmp 19)⟩,
    ⟨(some 21), none, .load none (.tmp 20)⟩,
    ⟨(some 22), none, .ia 1 (.tmp 17) (.tmp 21)⟩,
    ⟨(some 23), none, .load none (.tmp 22)⟩,
    ⟨(some 24), none, .cvi .i64 (.tmp 23)⟩,
    ⟨(some 3), none, .mv (.tmp 24)⟩]) (.skip)))
  (.seq (.ops [⟨(some 25), none, .mv (.tmp 0)⟩,
    ⟨(some 26), none, .nc (.tmp 25)⟩,
    ⟨(some 27), none, .fa 1 (.tmp 26)⟩,
    ⟨(some 28), none, .load none (.tmp 27)⟩,
    ⟨(some 29), none, .bin .add (.tmp 28) (.const (.int .i64 1))⟩,
    ⟨(some 30), none, .nc (.tmp 25)⟩,
    ⟨(some 31), none, .fa 1 (.tmp 30)⟩,
    ⟨none, none, .store 1 (.tmp 31) (.tmp 29)⟩])
  (.seq (.ops [⟨(some 32), none, .mv (.tmp 0)⟩,
    ⟨(some 33), none, .mv (.tmp 0)⟩,
    ⟨(some 34), none, .nc (.tmp 33)⟩,
    ⟨(some 35), none, .fa 2 (.tmp 34)⟩,
    ⟨(some 36), none, .load none (.tmp 35)⟩,
    ⟨(some 37), none, .bin .mul (.tmp 36) (.const (.int .u64 6364136223846793005))⟩,
    ⟨(some 38), none, .mv (.tmp 3)⟩,
    ⟨(some 39), none, .cvi .u64 (.tmp 38)⟩,
    ⟨(some 40), none, .bin .add (.tmp 37) (.tmp 39)⟩,
    ⟨(some 41), none, .bin .add (.tmp 40) (.const (.int .u64 1442695040888963407))⟩,
    ⟨(some 42), none, .nc (.tmp 32)⟩,
    ⟨(some 43), none, .fa 2 (.tmp 42)⟩,
    ⟨none, none, .store 1 (.tmp 43) (.tmp 41)⟩])
  (.seq (.seq (.dops [⟨(some 44), none, .mv (.tmp 0)⟩,
    ⟨(some 45), none, .nc (.tmp 44)⟩,
    ⟨(some 46), none, .fa 1 (.tmp 45)⟩,
    ⟨(some 47), none, .load none (.tmp 46)⟩,
    ⟨(some 48), none, .mv (.tmp 0)⟩,
    ⟨(some 49), none, .nc (.tmp 48)⟩,
    ⟨(some 50), none, .fa 0 (.tmp 49)⟩,
    ⟨(some 51), none, .load none (.tmp 50)⟩,
    ⟨(some 52), none, .lens (.tmp 51)⟩,
    ⟨(some 53), none, .bin .leq (.tmp 47) (.tmp 52)⟩])
  (.cond (.tmp 53) (.seq (.ops [⟨(some 54), none, .mv (.tmp 3)⟩,
    ⟨(some 2), none, .mv (.tmp 54)⟩])
  (.ret)) (.skip)))
  (.seq (.ops [⟨(some 55), none, .mv (.tmp 0)⟩,
    ⟨(some 56), none, .nc (.tmp 55)⟩,
    ⟨(some 57), none, .fa 2 (.tmp 56)⟩,
    ⟨(some 58), none, .load none (.tmp 57)⟩,
    ⟨(some 59), none, .bin .shr (.tmp 58) (.const (.int .u64 40))⟩,
    ⟨(some 60), none, .bin .and (.tmp 59) (.const (.int .u64 255))⟩,
    ⟨(some 61), none, .cvi .i64 (.tmp 60)⟩,
    ⟨(some 2), none, .mv (.tmp 61)⟩])
  (.ret)))))))
theorem h_pspec_l1Cur_next : (Try.prog.funcs[n_pspec_l1Cur_next]?).bind (fun fn => fn.body.bind (comp Try.prog fn.ntmps)) = some c_pspec_l1Cur_next := by kernel_rfl
theorem r_pspec_l1Cur_next : (Try.prog.funcs[n_pspec_l1Cur_next]?).map (fun fn => (fn.results.toList, fn.ntmps)) = some ([.tmp 2], 62) := by kernel_rfl
@[go_sem] theorem w_7 : wide Try.prog 7 = some (some 4) := by kernel_rfl
@[go_sem] theorem w_8 : wide Try.prog 8 = some (some 4) := by kernel_rfl
@[go_sem] theorem w_13 : wide Try.prog 13 = some (some 2) := by kernel_rfl
@[go_sem] theorem w_14 : wide Try.prog 14 = some (some 2) := by kernel_rfl
@[go_sem] theorem w_18 : wide Try.prog 18 = some (some 1) := by kernel_rfl
@[go_sem] theorem w_19 : wide Try.prog 19 = some (some 1) := by kernel_rfl
@[go_sem] theorem w_24 : wide Try.prog 24 = some (some 1) := by kernel_rfl
@[go_sem] theorem w_25 : wide Try.prog 25 = some (some 1) := by kernel_rfl
@[go_sem] theorem w_28 : wide Try.prog 28 = some (some 2) := by kernel_rfl
@[go_sem] theorem w_29 : wide Try.prog 29 = some (some 2) := by kernel_rfl
@[go_sem] theorem w_43 : wide Try.prog 43 = some (some 3) := by kernel_rfl
@[go_sem] theorem w_44 : wide Try.prog 44 = some (some 3) := by kernel_rfl
@[go_sem] theorem w_47 : wide Try.prog 47 = some (some 3) := by kernel_rfl
@[go_sem] theorem w_58 : wide Try.prog 58 = some (some 3) := by kernel_rfl
@[go_sem] theorem w_59 : wide Try.prog 59 = some (some 3) := by kernel_rfl
@[go_sem] theorem w_90 : wide Try.prog 90 = some (some 4) := by kernel_rfl
@[go_sem] theorem w_91 : wide Try.prog 91 = some (some 4) := by kernel_rfl
@[go_sem] theorem w_102 : wide Try.prog 102 = some (some 11) := by kernel_rfl
@[go_sem] theorem w_103 : wide Try.prog 103 = some (some 11) := by kernel_rfl
end Go.Proofs.Sp

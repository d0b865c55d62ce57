/- The compiled statements of the functions that the law reaches. -/
import Derived.Test.YtomglfeidihbnaaProg
import Derived.Test.YtomglfeidihbnaaAmAuto
namespace Go.Proofs.Wb
open Go Go.Am
-- 7 loop.example/g00850/laws.FnExactGiveTo
abbrev n_laws_FnExactGiveTo : Nat := 7
def c_laws_FnExactGiveTo : AS :=
  .seq (.ops [⟨(some 3), none, .box (.tmp 0)⟩,
    ⟨(some 6), none, .mv (.const (.bool false))⟩])
  (.seq (.ops [⟨(some 7), none, .mv (.const (.int .i64 1048576))⟩])
  (.seq (.ops [⟨(some 18), none, .load (some 3) (.tmp 3)⟩,
    ⟨(some 19), none, .mv (.tmp 7)⟩,
    ⟨(some 20), none, .call 41 [(.tmp 18), (.tmp 19)]⟩,
    ⟨(some 7), none, .mv (.tmp 20)⟩])
  (.seq (.seq (.ops [⟨(some 21), none, .mv (.tmp 7)⟩,
    ⟨(some 22), none, .bin .lss (.tmp 21) (.const (.int .i64 0))⟩])
  (.cond (.tmp 22) (.seq (.ops [⟨(some 6), none, .mv (.const (.bool true))⟩])
  (.ret)) (.skip)))
  (.seq (.ops [⟨(some 24), none, .load (some 3) (.tmp 3)⟩,
    ⟨(some 25), none, .call 43 [(.tmp 24)]⟩,
    ⟨(some 26), none, .mv (.tmp 1)⟩,
    ⟨(some 27), none, .mv (.tmp 2)⟩,
    ⟨(some 28), none, .call 42 [(.tmp 25), (.tmp 26), (.tmp 27)]⟩,
    ⟨(some 23), none, .mv (.tmp 28)⟩,
    ⟨(some 29), none, .ext 0 (.tmp 23)⟩,
    ⟨(some 30), none, .ext 1 (.tmp 23)⟩,
    ⟨(some 8), none, .alloc (.agg #[.int .i64 0, .slice none 0 0, .slice none 0 0])⟩,
    ⟨none, none, .store 3 (.tmp 8) (.tmp 29)⟩,
    ⟨(some 9), none, .mv (.tmp 30)⟩])
  (.kept [1, 2, 3, 8, 9] (.seq (.ops [⟨(some 31), none, .load (some 3) (.tmp 3)⟩,
    ⟨(some 32), none, .call 43 [(.tmp 31)]⟩,
    ⟨(some 10), none, .alloc (.agg #[.int .i64 0, .slice none 0 0, .slice none 0 0])⟩,
    ⟨none, none, .store 3 (.tmp 10) (.tmp 32)⟩])
  (.seq (.ops [⟨(some 34), none, .load (some 3) (.tmp 10)⟩,
    ⟨(some 35), none, .mv (.tmp 1)⟩,
    ⟨(some 36), none, .mv (.tmp 2)⟩,
    ⟨(some 37), none, .call 44 [(.tmp 34), (.tmp 35), (.tmp 36)]⟩,
    ⟨(some 33), none, .mv (.tmp 37)⟩,
    ⟨(some 38), none, .ext 0 (.tmp 33)⟩,
    ⟨(some 39), none, .ext 1 (.tmp 33)⟩,
    ⟨(some 11), none, .alloc (.agg #[.int .i64 0, .slice none 0 0, .slice none 0 0])⟩,
    ⟨none, none, .store 3 (.tmp 11) (.tmp 38)⟩,
    ⟨(some 12), none, .mv (.tmp 39)⟩])
  (.kept [1, 2, 3, 8, 9, 10, 11, 12] (.seq (.seq (.ops [⟨(some 40), none, .load (some 3) (.tmp 11)⟩,
    ⟨(some 41), none, .load (some 3) (.tmp 8)⟩,
    ⟨(some 42), none, .call 45 [(.tmp 40), (.tmp 41)]⟩,
    ⟨(some 43), none, .not (.tmp 42)⟩,
    ⟨(some 44), none, .mv (.tmp 43)⟩,
    ⟨(some 45), some (44, false), .mv (.tmp 12)⟩,
    ⟨(some 46), some (44, false), .mv (.tmp 9)⟩,
    ⟨(some 47), some (44, false), .eqb true (.tmp 45) (.tmp 46)⟩,
    ⟨(some 48), none, .pick (.tmp 44) (.const (.bool true)) (.tmp 47)⟩])
  (.kept [1, 2, 3, 8, 9, 10, 11, 12, 48] (.cond (.tmp 48) (.seq (.ops [⟨(some 6), none, .mv (.const (.bool false))⟩])
  (.ret)) (.skip))))
  (.kept [1, 2, 3, 8, 9, 10, 11, 12] (.seq (.seq (.rops [(none, ⟨(some 49), none, .load (some 3) (.tmp 10)⟩),
    (none, ⟨(some 50), none, .load (some 3) (.tmp 3)⟩),
    (some [⟨(some 49), none, .load (some 3) (.tmp 10)⟩], ⟨(some 51), none, .call 43 [(.tmp 50)]⟩),
    (some [], ⟨(some 52), none, .call 45 [(.tmp 49), (.tmp 51)]⟩),
    (none, ⟨(some 53), none, .not (.tmp 52)⟩)])
  (.cond (.tmp 53) (.seq (.ops [⟨(some 6), none, .mv (.const (.bool false))⟩])
  (.ret)) (.skip)))
  (.kept [1, 2, 3, 8, 9, 10, 11, 12] (.seq (.ops [⟨(some 13), none, .mv (.const (.int .i64 1))⟩])
  (.seq (.ops [⟨(some 54), none, .load (some 3) (.tmp 10)⟩,
    ⟨(some 55), none, .mv (.tmp 13)⟩,
    ⟨(some 56), none, .call 46 [(.tmp 54), (.tmp 55)]⟩,
    ⟨(some 13), none, .mv (.tmp 56)⟩])
  (.seq (.seq (.ops [⟨(some 57), none, .mv (.tmp 13)⟩,
    ⟨(some 58), none, .bin .lss (.tmp 57) (.const (.int .i64 0))⟩,
    ⟨(some 59), none, .mv (.tmp 58)⟩,
    ⟨(some 60), some (59, false), .load (some 3) (.tmp 11)⟩,
    ⟨(some 61), some (59, false), .load (some 3) (.tmp 8)⟩,
    ⟨(some 62), some (59, false), .call 45 [(.tmp 60), (.tmp 61)]⟩,
    ⟨(some 63), some (59, false), .not (.tmp 62)⟩,
    ⟨(some 64), none, .pick (.tmp 59) (.const (.bool true)) (.tmp 63)⟩,
    ⟨(some 65), none, .mv (.tmp 64)⟩,
    ⟨(some 66), some (65, false), .mv (.tmp 12)⟩,
    ⟨(some 67), some (65, false), .mv (.tmp 9)⟩,
    ⟨(some 68), some (65, false), .eqb true (.tmp 66) (.tmp 67)⟩,
    ⟨(some 69), none, .pick (.tmp 65) (.const (.bool true)) (.tmp 68)⟩])
  (.kept [1, 2, 3, 8, 9, 11, 69] (.cond (.tmp 69) (.seq (.ops [⟨(some 6), none, .mv (.const (.bool false))⟩])
  (.ret)) (.skip))))
  (.kept [1, 2, 3, 8, 9, 11] (.seq (.ops [⟨(some 14), none, .mv (.const (.int .i64 1))⟩])
  (.seq (.ops [⟨(some 70), none, .load (some 3) (.tmp 11)⟩,
    ⟨(some 71), none, .mv (.tmp 14)⟩,
    ⟨(some 72), none, .call 46 [(.tmp 70), (.tmp 71)]⟩,
    ⟨(some 14), none, .mv (.tmp 72)⟩])
  (.seq (.ops [⟨(some 15), none, .mv (.const (.int .i64 1))⟩])
  (.seq (.ops [⟨(some 73), none, .load (some 3) (.tmp 11)⟩,
    ⟨(some 74), none, .mv (.tmp 15)⟩,
    ⟨(some 75), none, .call 47 [(.tmp 73), (.tmp 74)]⟩,
    ⟨(some 15), none, .mv (.tmp 75)⟩])
  (.seq (.seq (.ops [⟨(some 76), none, .mv (.tmp 15)⟩,
    ⟨(some 77), none, .bin .lss (.tmp 76) (.const (.int .i64 0))⟩])
  (.cond (.tmp 77) (.seq (.ops [⟨(some 6), none, .mv (.const (.bool false))⟩])
  (.ret)) (.skip)))
  (.seq (.seq (.ops [⟨(some 78), none, .mv (.tmp 15)⟩,
    ⟨(some 79), none, .mv (.tmp 14)⟩,
    ⟨(some 80), none, .bin .neq (.tmp 78) (.tmp 79)⟩])
  (.cond (.tmp 80) (.seq (.ops [⟨(some 6), none, .mv (.const (.bool false))⟩])
  (.ret)) (.skip)))
  (.seq (.ops [⟨(some 82), none, .load (some 3) (.tmp 3)⟩,
    ⟨(some 83), none, .call 43 [(.tmp 82)]⟩,
    ⟨(some 84), none, .mv (.tmp 1)⟩,
    ⟨(some 85), none, .mv (.tmp 2)⟩,
    ⟨(some 86), none, .call 44 [(.tmp 83), (.tmp 84), (.tmp 85)]⟩,
    ⟨(some 81), none, .mv (.tmp 86)⟩,
    ⟨(some 87), none, .ext 0 (.tmp 81)⟩,
    ⟨(some 88), none, .ext 1 (.tmp 81)⟩,
    ⟨(some 16), none, .alloc (.agg #[.int .i64 0, .slice none 0 0, .slice none 0 0])⟩,
    ⟨none, none, .store 3 (.tmp 16) (.tmp 87)⟩,
    ⟨(some 17), none, .mv (.tmp 88)⟩])
  (.kept [8, 9, 11, 14, 16, 17] (.seq (.seq (.ops [⟨(some 89), none, .load (some 3) (.tmp 16)⟩,
    ⟨(some 90), none, .load (some 3) (.tmp 8)⟩,
    ⟨(some 91), none, .call 45 [(.tmp 89), (.tmp 90)]⟩,
    ⟨(some 92), none, .not (.tmp 91)⟩,
    ⟨(some 93), none, .mv (.tmp 92)⟩,
    ⟨(some 94), some (93, false), .mv (.tmp 17)⟩,
    ⟨(some 95), some (93, false), .mv (.tmp 9)⟩,
    ⟨(some 96), some (93, false), .eqb true (.tmp 94) (.tmp 95)⟩,
    ⟨(some 97), none, .pick (.tmp 93) (.const (.bool true)) (.tmp 96)⟩])
  (.kept [11, 14, 97] (.cond (.tmp 97) (.seq (.ops [⟨(some 6), none, .mv (.const (.bool false))⟩])
  (.ret)) (.skip))))
  (.kept [11, 14] (.seq (.ops [⟨(some 15), none, .mv (.const (.int .i64 1))⟩])
  (.seq (.ops [⟨(some 98), none, .load (some 3) (.tmp 11)⟩,
    ⟨(some 99), none, .mv (.tmp 15)⟩,
    ⟨(some 100), none, .call 47 [(.tmp 98), (.tmp 99)]⟩,
    ⟨(some 15), none, .mv (.tmp 100)⟩])
  (.seq (.seq (.ops [⟨(some 101), none, .mv (.tmp 15)⟩,
    ⟨(some 102), none, .bin .lss (.tmp 101) (.const (.int .i64 0))⟩])
  (.cond (.tmp 102) (.seq (.ops [⟨(some 6), none, .mv (.const (.bool false))⟩])
  (.ret)) (.skip)))
  (.seq (.seq (.ops [⟨(some 103), none, .mv (.tmp 15)⟩,
    ⟨(some 104), none, .mv (.tmp 14)⟩,
    ⟨(some 105), none, .bin .neq (.tmp 103) (.tmp 104)⟩])
  (.cond (.tmp 105) (.seq (.ops [⟨(some 6), none, .mv (.const (.bool false))⟩])
  (.ret)) (.skip)))
  (.seq (.ops [⟨(some 6), none, .mv (.const (.bool true))⟩])
  (.ret))))))))))))))))))))))))))))))))
theorem h_laws_FnExactGiveTo : (Try.prog.funcs[n_laws_FnExactGiveTo]?).bind (fun fn => fn.body.bind (comp Try.prog fn.ntmps)) = some (AS.strip c_laws_FnExactGiveTo) := by kernel_rfl
theorem r_laws_FnExactGiveTo : (Try.prog.funcs[n_laws_FnExactGiveTo]?).map (fun fn => (fn.results.toList, fn.ntmps)) = some ([.tmp 6], 106) := by kernel_rfl
-- 41 loop.example/g00850/laws.szPlaces
abbrev n_laws_szPlaces : Nat := 41
def c_laws_szPlaces : AS :=
  .seq (.ops [⟨(some 2), none, .box (.tmp 0)⟩,
    ⟨(some 4), none, .mv (.const (.int .i64 0))⟩])
  (.seq (.ops [⟨(some 5), none, .fa 1 (.tmp 2)⟩,
    ⟨(some 6), none, .load none (.tmp 5)⟩,
    ⟨(some 7), none, .mv (.tmp 1)⟩,
    ⟨(some 8), none, .call 84 [(.tmp 6), (.tmp 7)]⟩,
    ⟨(some 1), none, .mv (.tmp 8)⟩])
  (.seq (.seq (.ops [⟨(some 9), none, .mv (.tmp 1)⟩,
    ⟨(some 10), none, .bin .lss (.tmp 9) (.const (.int .i64 0))⟩])
  (.cond (.tmp 10) (.seq (.ops [⟨(some 4), none, .mv (.const (.int .i64 (-1)))⟩])
  (.ret)) (.skip)))
  (.seq (.ops [⟨(some 11), none, .fa 2 (.tmp 2)⟩,
    ⟨(some 12), none, .load none (.tmp 11)⟩,
    ⟨(some 13), none, .mv (.tmp 1)⟩,
    ⟨(some 14), none, .call 85 [(.tmp 12), (.tmp 13)]⟩,
    ⟨(some 1), none, .mv (.tmp 14)⟩])
  (.seq (.seq (.ops [⟨(some 15), none, .mv (.tmp 1)⟩,
    ⟨(some 16), none, .bin .lss (.tmp 15) (.const (.int .i64 0))⟩])
  (.cond (.tmp 16) (.seq (.ops [⟨(some 4), none, .mv (.const (.int .i64 (-1)))⟩])
  (.ret)) (.skip)))
  (.seq (.ops [⟨(some 17), none, .mv (.tmp 1)⟩,
    ⟨(some 4), none, .mv (.tmp 17)⟩])
  (.ret))))))
theorem h_laws_szPlaces : (Try.prog.funcs[n_laws_szPlaces]?).bind (fun fn => fn.body.bind (comp Try.prog fn.ntmps)) = some (AS.strip c_laws_szPlaces) := by kernel_rfl
theorem r_laws_szPlaces : (Try.prog.funcs[n_laws_szPlaces]?).map (fun fn => (fn.results.toList, fn.ntmps)) = some ([.tmp 4], 18) := by kernel_rfl
-- 42 loop.example/g00850/spec.GiveTo
abbrev n_spec_GiveTo : Nat := 42
def c_spec_GiveTo : AS :=
  .seq (.ops [⟨(some 3), none, .box (.tmp 0)⟩,
    ⟨(some 6), none, .alloc (.agg #[.int .i64 0, .slice none 0 0, .slice none 0 0])⟩,
    ⟨(some 7), none, .mv (.const (.bool false))⟩])
  (.seq (.seq (.ops [⟨(some 9), none, .load (some 3) (.tmp 3)⟩,
    ⟨(some 10), none, .call 86 [(.tmp 9)]⟩,
    ⟨(some 11), none, .not (.tmp 10)⟩,
    ⟨(some 12), none, .mv (.tmp 11)⟩,
    ⟨(some 13), some (12, false), .mv (.tmp 1)⟩,
    ⟨(some 14), some (12, false), .fa 2 (.tmp 3)⟩,
    ⟨(some 15), some (12, false), .load none (.tmp 14)⟩,
    ⟨(some 16), some (12, false), .lens (.tmp 15)⟩,
    ⟨(some 17), some (12, false), .bin .sub (.tmp 16) (.const (.int .i64 1))⟩,
    ⟨(some 18), some (12, false), .call 79 [(.tmp 13), (.const (.int .i64 0)), (.tmp 17)]⟩,
    ⟨(some 19), some (12, false), .not (.tmp 18)⟩,
    ⟨(some 20), none, .pick (.tmp 12) (.const (.bool true)) (.tmp 19)⟩,
    ⟨(some 21), none, .mv (.tmp 20)⟩,
    ⟨(some 22), some (21, false), .mv (.tmp 2)⟩,
    ⟨(some 23), some (21, false), .call 79 [(.tmp 22), (.const (.int .i64 0)), (.const (.int .i64 3))]⟩,
    ⟨(some 24), some (21, false), .not (.tmp 23)⟩,
    ⟨(some 25), none, .pick (.tmp 21) (.const (.bool true)) (.tmp 24)⟩,
    ⟨(some 26), none, .mv (.tmp 25)⟩,
    ⟨(some 27), some (26, false), .fa 2 (.tmp 3)⟩,
    ⟨(some 28), some (26, false), .load none (.tmp 27)⟩,
    ⟨(some 29), some (26, false), .mv (.tmp 1)⟩,
    ⟨(some 30), some (26, false), .ia 1 (.tmp 28) (.tmp 29)⟩,
    ⟨(some 31), some (26, false), .load none (.tmp 30)⟩,
    ⟨(some 32), some (26, false), .mv (.tmp 2)⟩,
    ⟨(some 33), some (26, false), .bin .eql (.tmp 31) (.tmp 32)⟩,
    ⟨(some 34), none, .pick (.tmp 26) (.const (.bool true)) (.tmp 33)⟩])
  (.kept [1, 2, 3, 6, 34] (.cond (.tmp 34) (.seq (.ops [⟨(some 35), none, .build (.agg #[.int .i64 0, .slice none 0 0, .slice none 0 0]) []⟩,
    ⟨none, none, .store 3 (.tmp 6) (.tmp 35)⟩,
    ⟨(some 7), none, .mv (.const (.bool false))⟩])
  (.ret)) (.skip))))
  (.kept [1, 2, 3, 6] (.seq (.ops [⟨(some 36), none, .load (some 3) (.tmp 3)⟩,
    ⟨(some 37), none, .call 87 [(.tmp 36)]⟩,
    ⟨(some 8), none, .alloc (.agg #[.int .i64 0, .slice none 0 0, .slice none 0 0])⟩,
    ⟨none, none, .store 3 (.tmp 8) (.tmp 37)⟩])
  (.seq (.ops [⟨(some 38), none, .fa 2 (.tmp 8)⟩,
    ⟨(some 39), none, .load none (.tmp 38)⟩,
    ⟨(some 40), none, .mv (.tmp 1)⟩,
    ⟨(some 41), none, .mv (.tmp 2)⟩,
    ⟨(some 42), none, .ia 1 (.tmp 39) (.tmp 40)⟩,
    ⟨none, none, .store 1 (.tmp 42) (.tmp 41)⟩])
  (.seq (.ops [⟨(some 43), none, .load (some 3) (.tmp 8)⟩,
    ⟨(some 44), none, .call 88 [(.tmp 43)]⟩,
    ⟨(some 45), none, .ext 0 (.tmp 44)⟩,
    ⟨(some 46), none, .ext 1 (.tmp 44)⟩,
    ⟨none, none, .store 3 (.tmp 6) (.tmp 45)⟩,
    ⟨(some 7), none, .mv (.tmp 46)⟩])
  (.ret))))))
theorem h_spec_GiveTo : (Try.prog.funcs[n_spec_GiveTo]?).bind (fun fn => fn.body.bind (comp Try.prog fn.ntmps)) = some (AS.strip c_spec_GiveTo) := by kernel_rfl
theorem r_spec_GiveTo : (Try.prog.funcs[n_spec_GiveTo]?).map (fun fn => (fn.results.toList, fn.ntmps)) = some ([.cell 6 62, .tmp 7], 47) := by kernel_rfl
-- 43 loop.example/g00850/laws.toPlaces
abbrev n_laws_toPlaces : Nat := 43
def c_laws_toPlaces : AS :=
  .seq (.ops [⟨(some 1), none, .box (.tmp 0)⟩,
    ⟨(some 2), none, .alloc (.agg #[.int .i64 0, .slice none 0 0, .slice none 0 0])⟩])
  (.seq (.ops [⟨(some 3), none, .alloc (.agg #[.int .i64 0, .slice none 0 0, .slice none 0 0])⟩])
  (.seq (.ops [⟨(some 4), none, .fa 0 (.tmp 1)⟩,
    ⟨(some 5), none, .load none (.tmp 4)⟩,
    ⟨(some 6), none, .fa 0 (.tmp 3)⟩,
    ⟨none, none, .store 1 (.tmp 6) (.tmp 5)⟩])
  (.seq (.ops [⟨(some 7), none, .fa 1 (.tmp 1)⟩,
    ⟨(some 8), none, .load none (.tmp 7)⟩,
    ⟨(some 9), none, .call 89 [(.tmp 8)]⟩,
    ⟨(some 10), none, .fa 1 (.tmp 3)⟩,
    ⟨none, none, .store 1 (.tmp 10) (.tmp 9)⟩])
  (.seq (.ops [⟨(some 11), none, .fa 2 (.tmp 1)⟩,
    ⟨(some 12), none, .load none (.tmp 11)⟩,
    ⟨(some 13), none, .call 90 [(.tmp 12)]⟩,
    ⟨(some 14), none, .fa 2 (.tmp 3)⟩,
    ⟨none, none, .store 1 (.tmp 14) (.tmp 13)⟩])
  (.seq (.ops [⟨(some 15), none, .load (some 3) (.tmp 3)⟩,
    ⟨none, none, .store 3 (.tmp 2) (.tmp 15)⟩])
  (.ret))))))
theorem h_laws_toPlaces : (Try.prog.funcs[n_laws_toPlaces]?).bind (fun fn => fn.body.bind (comp Try.prog fn.ntmps)) = some (AS.strip c_laws_toPlaces) := by kernel_rfl
theorem r_laws_toPlaces : (Try.prog.funcs[n_laws_toPlaces]?).map (fun fn => (fn.results.toList, fn.ntmps)) = some ([.cell 2 62], 16) := by kernel_rfl
-- 44 loop.example/g00850/impl.GiveTo
abbrev n_impl_GiveTo : Nat := 44
def c_impl_GiveTo : AS :=
  .seq (.ops [⟨(some 3), none, .box (.tmp 0)⟩,
    ⟨(some 6), none, .alloc (.agg #[.int .i64 0, .slice none 0 0, .slice none 0 0])⟩,
    ⟨(some 7), none, .mv (.const (.bool false))⟩])
  (.seq (.seq (.ops [⟨(some 9), none, .load (some 3) (.tmp 3)⟩,
    ⟨(some 10), none, .mv (.tmp 1)⟩,
    ⟨(some 11), none, .call 91 [(.tmp 9), (.tmp 10)]⟩,
    ⟨(some 12), none, .not (.tmp 11)⟩,
    ⟨(some 13), none, .mv (.tmp 12)⟩,
    ⟨(some 14), some (13, false), .mv (.tmp 2)⟩,
    ⟨(some 15), some (13, false), .call 92 [(.tmp 14)]⟩,
    ⟨(some 16), some (13, false), .not (.tmp 15)⟩,
    ⟨(some 17), none, .pick (.tmp 13) (.const (.bool true)) (.tmp 16)⟩,
    ⟨(some 18), none, .mv (.tmp 17)⟩,
    ⟨(some 19), some (18, false), .fa 2 (.tmp 3)⟩,
    ⟨(some 20), some (18, false), .load none (.tmp 19)⟩,
    ⟨(some 21), some (18, false), .mv (.tmp 1)⟩,
    ⟨(some 22), some (18, false), .ia 1 (.tmp 20) (.tmp 21)⟩,
    ⟨(some 23), some (18, false), .load none (.tmp 22)⟩,
    ⟨(some 24), some (18, false), .mv (.tmp 2)⟩,
    ⟨(some 25), some (18, false), .bin .eql (.tmp 23) (.tmp 24)⟩,
    ⟨(some 26), none, .pick (.tmp 18) (.const (.bool true)) (.tmp 25)⟩])
  (.kept [1, 2, 3, 6, 26] (.cond (.tmp 26) (.seq (.ops [⟨(some 27), none, .build (.agg #[.int .i64 0, .slice none 0 0, .slice none 0 0]) []⟩,
    ⟨none, none, .store 3 (.tmp 6) (.tmp 27)⟩,
    ⟨(some 7), none, .mv (.const (.bool false))⟩])
  (.ret)) (.skip))))
  (.kept [1, 2, 3, 6] (.seq (.ops [⟨(some 28), none, .load (some 3) (.tmp 3)⟩,
    ⟨(some 29), none, .call 93 [(.tmp 28)]⟩,
    ⟨(some 8), none, .alloc (.agg #[.int .i64 0, .slice none 0 0, .slice none 0 0])⟩,
    ⟨none, none, .store 3 (.tmp 8) (.tmp 29)⟩])
  (.seq (.ops [⟨(some 30), none, .fa 2 (.tmp 8)⟩,
    ⟨(some 31), none, .load none (.tmp 30)⟩,
    ⟨(some 32), none, .mv (.tmp 1)⟩,
    ⟨(some 33), none, .mv (.tmp 2)⟩,
    ⟨(some 34), none, .ia 1 (.tmp 31) (.tmp 32)⟩,
    ⟨none, none, .store 1 (.tmp 34) (.tmp 33)⟩])
  (.seq (.ops [⟨(some 35), none, .load (some 3) (.tmp 8)⟩,
    ⟨(some 36), none, .call 94 [(.tmp 35)]⟩,
    ⟨(some 37), none, .ext 0 (.tmp 36)⟩,
    ⟨(some 38), none, .ext 1 (.tmp 36)⟩,
    ⟨none, none, .store 3 (.tmp 6) (.tmp 37)⟩,
    ⟨(some 7), none, .mv (.tmp 38)⟩])
  (.ret))))))
theorem h_impl_GiveTo : (Try.prog.funcs[n_impl_GiveTo]?).bind (fun fn => fn.body.bind (comp Try.prog fn.ntmps)) = some (AS.strip c_impl_GiveTo) := by kernel_rfl
theorem r_impl_GiveTo : (Try.prog.funcs[n_impl_GiveTo]?).map (fun fn => (fn.results.toList, fn.ntmps)) = some ([.cell 6 62, .tmp 7], 39) := by kernel_rfl
-- 45 loop.example/g00850/laws.eqPlaces
abbrev n_laws_eqPlaces : Nat := 45
def c_laws_eqPlaces : AS :=
  .seq (.ops [⟨(some 2), none, .box (.tmp 0)⟩,
    ⟨(some 3), none, .box (.tmp 1)⟩,
    ⟨(some 4), none, .mv (.const (.bool false))⟩])
  (.seq (.seq (.ops [⟨(some 5), none, .fa 0 (.tmp 2)⟩,
    ⟨(some 6), none, .load none (.tmp 5)⟩,
    ⟨(some 7), none, .fa 0 (.tmp 3)⟩,
    ⟨(some 8), none, .load none (.tmp 7)⟩,
    ⟨(some 9), none, .bin .neq (.tmp 6) (.tmp 8)⟩])
  (.cond (.tmp 9) (.seq (.ops [⟨(some 4), none, .mv (.const (.bool false))⟩])
  (.ret)) (.skip)))
  (.kept [2, 3] (.seq (.seq (.ops [⟨(some 10), none, .fa 1 (.tmp 2)⟩,
    ⟨(some 11), none, .load none (.tmp 10)⟩,
    ⟨(some 12), none, .fa 1 (.tmp 3)⟩,
    ⟨(some 13), none, .load none (.tmp 12)⟩,
    ⟨(some 14), none, .call 95 [(.tmp 11), (.tmp 13)]⟩,
    ⟨(some 15), none, .not (.tmp 14)⟩])
  (.cond (.tmp 15) (.seq (.ops [⟨(some 4), none, .mv (.const (.bool false))⟩])
  (.ret)) (.skip)))
  (.kept [2, 3] (.seq (.seq (.ops [⟨(some 16), none, .fa 2 (.tmp 2)⟩,
    ⟨(some 17), none, .load none (.tmp 16)⟩,
    ⟨(some 18), none, .fa 2 (.tmp 3)⟩,
    ⟨(some 19), none, .load none (.tmp 18)⟩,
    ⟨(some 20), none, .call 96 [(.tmp 17), (.tmp 19)]⟩,
    ⟨(some 21), none, .not (.tmp 20)⟩])
  (.cond (.tmp 21) (.seq (.ops [⟨(some 4), none, .mv (.const (.bool false))⟩])
  (.ret)) (.skip)))
  (.kept [] (.seq (.ops [⟨(some 4), none, .mv (.const (.bool true))⟩])
  (.ret))))))))
theorem h_laws_eqPlaces : (Try.prog.funcs[n_laws_eqPlaces]?).bind (fun fn => fn.body.bind (comp Try.prog fn.ntmps)) = some (AS.strip c_laws_eqPlaces) := by kernel_rfl
theorem r_laws_eqPlaces : (Try.prog.funcs[n_laws_eqPlaces]?).map (fun fn => (fn.results.toList, fn.ntmps)) = some ([.tmp 4], 22) := by kernel_rfl
-- 46 loop.example/g00850/laws.markPlaces
abbrev n_laws_markPlaces : Nat := 46
def c_laws_markPlaces : AS :=
  .seq (.ops [⟨(some 2), none, .box (.tmp 0)⟩,
    ⟨(some 4), none, .mv (.const (.int .i64 0))⟩])
  (.seq (.ops [⟨(some 5), none, .fa 1 (.tmp 2)⟩,
    ⟨(some 6), none, .load none (.tmp 5)⟩,
    ⟨(some 7), none, .mv (.tmp 1)⟩,
    ⟨(some 8), none, .call 97 [(.tmp 6), (.tmp 7)]⟩,
    ⟨(some 1), none, .mv (.tmp 8)⟩])
  (.seq (.ops [⟨(some 9), none, .fa 2 (.tmp 2)⟩,
    ⟨(some 10), none, .load none (.tmp 9)⟩,
    ⟨(some 11), none, .mv (.tmp 1)⟩,
    ⟨(some 12), none, .call 98 [(.tmp 10), (.tmp 11)]⟩,
    ⟨(some 1), none, .mv (.tmp 12)⟩])
  (.seq (.ops [⟨(some 13), none, .mv (.tmp 1)⟩,
    ⟨(some 4), none, .mv (.tmp 13)⟩])
  (.ret))))
theorem h_laws_markPlaces : (Try.prog.funcs[n_laws_markPlaces]?).bind (fun fn => fn.body.bind (comp Try.prog fn.ntmps)) = some (AS.strip c_laws_markPlaces) := by kernel_rfl
theorem r_laws_markPlaces : (Try.prog.funcs[n_laws_markPlaces]?).map (fun fn => (fn.results.toList, fn.ntmps)) = some ([.tmp 4], 14) := by kernel_rfl
-- 47 loop.example/g00850/laws.heldPlaces
abbrev n_laws_heldPlaces : Nat := 47
def c_laws_heldPlaces : AS :=
  .seq (.ops [⟨(some 2), none, .box (.tmp 0)⟩,
    ⟨(some 4), none, .mv (.const (.int .i64 0))⟩])
  (.seq (.ops [⟨(some 5), none, .fa 1 (.tmp 2)⟩,
    ⟨(some 6), none, .load none (.tmp 5)⟩,
    ⟨(some 7), none, .mv (.tmp 1)⟩,
    ⟨(some 8), none, .call 99 [(.tmp 6), (.tmp 7)]⟩,
    ⟨(some 1), none, .mv (.tmp 8)⟩])
  (.seq (.seq (.ops [⟨(some 9), none, .mv (.tmp 1)⟩,
    ⟨(some 10), none, .bin .lss (.tmp 9) (.const (.int .i64 0))⟩])
  (.cond (.tmp 10) (.seq (.ops [⟨(some 4), none, .mv (.const (.int .i64 (-1)))⟩])
  (.ret)) (.skip)))
  (.seq (.ops [⟨(some 11), none, .fa 2 (.tmp 2)⟩,
    ⟨(some 12), none, .load none (.tmp 11)⟩,
    ⟨(some 13), none, .mv (.tmp 1)⟩,
    ⟨(some 14), none, .call 100 [(.tmp 12), (.tmp 13)]⟩,
    ⟨(some 1), none, .mv (.tmp 14)⟩])
  (.seq (.seq (.ops [⟨(some 15), none, .mv (.tmp 1)⟩,
    ⟨(some 16), none, .bin .lss (.tmp 15) (.const (.int .i64 0))⟩])
  (.cond (.tmp 16) (.seq (.ops [⟨(some 4), none, .mv (.const (.int .i64 (-1)))⟩])
  (.ret)) (.skip)))
  (.seq (.ops [⟨(some 17), none, .mv (.tmp 1)⟩,
    ⟨(some 4), none, .mv (.tmp 17)⟩])
  (.ret))))))
theorem h_laws_heldPlaces : (Try.prog.funcs[n_laws_heldPlaces]?).bind (fun fn => fn.body.bind (comp Try.prog fn.ntmps)) = some (AS.strip c_laws_heldPlaces) := by kernel_rfl
theorem r_laws_heldPlaces : (Try.prog.funcs[n_laws_heldPlaces]?).map (fun fn => (fn.results.toList, fn.ntmps)) = some ([.tmp 4], 18) := by kernel_rfl
-- 52 loop.example/g00850/impl.within
abbrev n_impl_within : Nat := 52
def c_impl_within : AS :=
  .seq (.ops [⟨(some 6), none, .mv (.const (.bool false))⟩])
  (.seq (.ops [⟨(some 7), none, .mv (.tmp 0)⟩,
    ⟨(some 8), none, .mv (.tmp 1)⟩,
    ⟨(some 9), none, .bin .geq (.tmp 7) (.tmp 8)⟩,
    ⟨(some 10), none, .mv (.tmp 9)⟩,
    ⟨(some 11), some (10, true), .mv (.tmp 0)⟩,
    ⟨(some 12), some (10, true), .mv (.tmp 2)⟩,
    ⟨(some 13), some (10, true), .bin .leq (.tmp 11) (.tmp 12)⟩,
    ⟨(some 14), none, .pick (.tmp 10) (.tmp 13) (.const (.bool false))⟩,
    ⟨(some 6), none, .mv (.tmp 14)⟩])
  (.ret))
theorem h_impl_within : (Try.prog.funcs[n_impl_within]?).bind (fun fn => fn.body.bind (comp Try.prog fn.ntmps)) = some (AS.strip c_impl_within) := by kernel_rfl
theorem r_impl_within : (Try.prog.funcs[n_impl_within]?).map (fun fn => (fn.results.toList, fn.ntmps)) = some ([.tmp 6], 15) := by kernel_rfl
-- 64 slices.ContainsFunc[[]int,int]
abbrev n_slices_ContainsFunc___int_int_ : Nat := 64
def c_slices_ContainsFunc___int_int_ : AS :=
  .seq (.ops [⟨(some 4), none, .mv (.const (.bool false))⟩])
  (.seq (.ops [⟨(some 5), none, .mv (.tmp 0)⟩,
    ⟨(some 6), none, .mv (.tmp 1)⟩,
    ⟨(some 7), none, .call 112 [(.tmp 5), (.tmp 6)]⟩,
    ⟨(some 8), none, .bin .geq (.tmp 7) (.const (.int .i64 0))⟩,
    ⟨(some 4), none, .mv (.tmp 8)⟩])
  (.ret))
theorem h_slices_ContainsFunc___int_int_ : (Try.prog.funcs[n_slices_ContainsFunc___int_int_]?).bind (fun fn => fn.body.bind (comp Try.prog fn.ntmps)) = some (AS.strip c_slices_ContainsFunc___int_int_) := by kernel_rfl
theorem r_slices_ContainsFunc___int_int_ : (Try.prog.funcs[n_slices_ContainsFunc___int_int_]?).map (fun fn => (fn.results.toList, fn.ntmps)) = some ([.tmp 4], 9) := by kernel_rfl
-- 67 loop.example/g00850/spec.l1All
abbrev n_spec_l1All : Nat := 67
def c_spec_l1All_l1 : AS :=
  .seq (.ops [⟨(some 12), none, .bin .lss (.tmp 11) (.tmp 10)⟩])
  (.seq (.cond (.tmp 12) (.skip) (.exit 0))
  (.seq (.block 1 (.seq (.ops [⟨(some 13), none, .ia 1 (.tmp 9) (.tmp 11)⟩,
    ⟨(some 14), none, .load none (.tmp 13)⟩,
    ⟨(some 8), none, .mv (.tmp 14)⟩])
  (.seq (.ops [⟨(some 15), none, .mv (.tmp 8)⟩,
    ⟨(some 16), none, .mv (.tmp 1)⟩,
    ⟨(some 17), none, .mv (.tmp 2)⟩,
    ⟨(some 18), none, .call 79 [(.tmp 15), (.tmp 16), (.tmp 17)]⟩,
    ⟨(some 19), none, .not (.tmp 18)⟩])
  (.cond (.tmp 19) (.seq (.ops [⟨(some 6), none, .mv (.const (.bool false))⟩])
  (.ret)) (.skip)))))
  (.kept [1, 2, 9, 10, 11] (.ops [⟨(some 20), none, .bin .add (.tmp 11) (.const (.int .i64 1))⟩,
    ⟨(some 11), none, .mv (.tmp 20)⟩]))))
def c_spec_l1All : AS :=
  .seq (.ops [⟨(some 6), none, .mv (.const (.bool false))⟩])
  (.seq (.seq (.ops [⟨(some 9), none, .mv (.tmp 0)⟩,
    ⟨(some 10), none, .lens (.tmp 9)⟩,
    ⟨(some 11), none, .mv (.const (.int .i64 0))⟩])
  (.block 0 (.loop 3 [(1, 0), (2, 0), (9, 0), (10, 0), (11, 0)] c_spec_l1All_l1)))
  (.kept [] (.seq (.ops [⟨(some 6), none, .mv (.const (.bool true))⟩])
  (.ret))))
theorem h_spec_l1All : (Try.prog.funcs[n_spec_l1All]?).bind (fun fn => fn.body.bind (comp Try.prog fn.ntmps)) = some (AS.strip c_spec_l1All) := by kernel_rfl
theorem r_spec_l1All : (Try.prog.funcs[n_spec_l1All]?).map (fun fn => (fn.results.toList, fn.ntmps)) = some ([.tmp 6], 21) := by kernel_rfl
-- 79 loop.example/g00850/spec.l1In
abbrev n_spec_l1In : Nat := 79
def c_spec_l1In : AS :=
  .seq (.ops [⟨(some 6), none, .mv (.const (.bool false))⟩])
  (.seq (.ops [⟨(some 7), none, .mv (.tmp 0)⟩,
    ⟨(some 8), none, .mv (.tmp 1)⟩,
    ⟨(some 9), none, .bin .geq (.tmp 7) (.tmp 8)⟩,
    ⟨(some 10), none, .mv (.tmp 9)⟩,
    ⟨(some 11), some (10, true), .mv (.tmp 0)⟩,
    ⟨(some 12), some (10, true), .mv (.tmp 2)⟩,
    ⟨(some 13), some (10, true), .bin .leq (.tmp 11) (.tmp 12)⟩,
    ⟨(some 14), none, .pick (.tmp 10) (.tmp 13) (.const (.bool false))⟩,
    ⟨(some 6), none, .mv (.tmp 14)⟩])
  (.ret))
theorem h_spec_l1In : (Try.prog.funcs[n_spec_l1In]?).bind (fun fn => fn.body.bind (comp Try.prog fn.ntmps)) = some (AS.strip c_spec_l1In) := by kernel_rfl
theorem r_spec_l1In : (Try.prog.funcs[n_spec_l1In]?).map (fun fn => (fn.results.toList, fn.ntmps)) = some ([.tmp 6], 15) := by kernel_rfl
-- 84 loop.example/g00850/laws.szStringS
abbrev n_laws_szStringS : Nat := 84
def c_laws_szStringS_l1 : AS :=
  .seq (.seq (.ops [⟨(some 12), none, .mv (.tmp 5)⟩,
    ⟨(some 13), none, .mv (.tmp 0)⟩,
    ⟨(some 14), none, .lens (.tmp 13)⟩,
    ⟨(some 15), none, .bin .lss (.tmp 12) (.tmp 14)⟩])
  (.cond (.tmp 15) (.skip) (.exit 0)))
  (.seq (.block 1 (.seq (.ops [⟨(some 18), none, .mv (.tmp 1)⟩,
    ⟨(some 19), none, .mv (.tmp 0)⟩,
    ⟨(some 20), none, .mv (.tmp 5)⟩,
    ⟨(some 21), none, .ia 1 (.tmp 19) (.tmp 20)⟩,
    ⟨(some 22), none, .load none (.tmp 21)⟩,
    ⟨(some 23), none, .lent (.tmp 22)⟩,
    ⟨(some 24), none, .bin .sub (.tmp 18) (.tmp 23)⟩,
    ⟨(some 1), none, .mv (.tmp 24)⟩])
  (.kept [0, 1, 5] (.seq (.ops [⟨(some 25), none, .mv (.tmp 1)⟩,
    ⟨(some 26), none, .bin .lss (.tmp 25) (.const (.int .i64 0))⟩])
  (.cond (.tmp 26) (.seq (.ops [⟨(some 4), none, .mv (.const (.int .i64 (-1)))⟩])
  (.ret)) (.skip))))))
  (.kept [0, 1, 5] (.ops [⟨(some 16), none, .mv (.tmp 5)⟩,
    ⟨(some 17), none, .bin .add (.tmp 16) (.const (.int .i64 1))⟩,
    ⟨(some 5), none, .mv (.tmp 17)⟩])))
def c_laws_szStringS : AS :=
  .seq (.ops [⟨(some 4), none, .mv (.const (.int .i64 0))⟩])
  (.seq (.ops [⟨(some 6), none, .mv (.tmp 1)⟩,
    ⟨(some 7), none, .mv (.tmp 0)⟩,
    ⟨(some 8), none, .lens (.tmp 7)⟩,
    ⟨(some 9), none, .bin .sub (.tmp 6) (.tmp 8)⟩,
    ⟨(some 1), none, .mv (.tmp 9)⟩])
  (.seq (.seq (.ops [⟨(some 10), none, .mv (.tmp 1)⟩,
    ⟨(some 11), none, .bin .lss (.tmp 10) (.const (.int .i64 0))⟩])
  (.cond (.tmp 11) (.seq (.ops [⟨(some 4), none, .mv (.const (.int .i64 (-1)))⟩])
  (.ret)) (.skip)))
  (.seq (.seq (.ops [⟨(some 5), none, .mv (.const (.int .i64 0))⟩])
  (.block 0 (.loop 2 [(0, 0), (1, 0), (5, 0)] c_laws_szStringS_l1)))
  (.kept [1] (.seq (.ops [⟨(some 27), none, .mv (.tmp 1)⟩,
    ⟨(some 4), none, .mv (.tmp 27)⟩])
  (.ret))))))
theorem h_laws_szStringS : (Try.prog.funcs[n_laws_szStringS]?).bind (fun fn => fn.body.bind (comp Try.prog fn.ntmps)) = some (AS.strip c_laws_szStringS) := by kernel_rfl
theorem r_laws_szStringS : (Try.prog.funcs[n_laws_szStringS]?).map (fun fn => (fn.results.toList, fn.ntmps)) = some ([.tmp 4], 28) := by kernel_rfl
-- 85 loop.example/g00850/laws.szIntS
abbrev n_laws_szIntS : Nat := 85
def c_laws_szIntS : AS :=
  .seq (.ops [⟨(some 4), none, .mv (.const (.int .i64 0))⟩])
  (.seq (.ops [⟨(some 5), none, .mv (.tmp 1)⟩,
    ⟨(some 6), none, .mv (.tmp 0)⟩,
    ⟨(some 7), none, .lens (.tmp 6)⟩,
    ⟨(some 8), none, .bin .sub (.tmp 5) (.tmp 7)⟩,
    ⟨(some 1), none, .mv (.tmp 8)⟩])
  (.seq (.seq (.ops [⟨(some 9), none, .mv (.tmp 1)⟩,
    ⟨(some 10), none, .bin .lss (.tmp 9) (.const (.int .i64 0))⟩])
  (.cond (.tmp 10) (.seq (.ops [⟨(some 4), none, .mv (.const (.int .i64 (-1)))⟩])
  (.ret)) (.skip)))
  (.seq (.ops [⟨(some 11), none, .mv (.tmp 1)⟩,
    ⟨(some 4), none, .mv (.tmp 11)⟩])
  (.ret))))
theorem h_laws_szIntS : (Try.prog.funcs[n_laws_szIntS]?).bind (fun fn => fn.body.bind (comp Try.prog fn.ntmps)) = some (AS.strip c_laws_szIntS) := by kernel_rfl
theorem r_laws_szIntS : (Try.prog.funcs[n_laws_szIntS]?).map (fun fn => (fn.results.toList, fn.ntmps)) = some ([.tmp 4], 12) := by kernel_rfl
-- 86 loop.example/g00850/spec.GoodPlaces
abbrev n_spec_GoodPlaces : Nat := 86
def c_spec_GoodPlaces_l1 : AS :=
  .seq (.ops [⟨(some 9), none, .bin .lss (.tmp 8) (.tmp 7)⟩])
  (.seq (.cond (.tmp 9) (.skip) (.exit 0))
  (.seq (.block 1 (.seq (.ops [⟨(some 10), none, .mv (.tmp 8)⟩,
    ⟨(some 11), none, .ia 1 (.tmp 6) (.tmp 8)⟩,
    ⟨(some 12), none, .load none (.tmp 11)⟩,
    ⟨(some 3), none, .mv (.tmp 10)⟩,
    ⟨(some 4), none, .mv (.tmp 12)⟩])
  (.seq (.ops [⟨(some 13), none, .mv (.tmp 4)⟩,
    ⟨(some 14), none, .call 115 [(.tmp 13)]⟩,
    ⟨(some 15), none, .not (.tmp 14)⟩,
    ⟨(some 16), none, .mv (.tmp 15)⟩,
    ⟨(some 17), some (16, false), .mv (.tmp 3)⟩,
    ⟨(some 18), some (16, false), .bin .gtr (.tmp 17) (.const (.int .i64 0))⟩,
    ⟨(some 19), some (16, false), .mv (.tmp 18)⟩,
    ⟨(some 20), some (19, true), .fa 1 (.tmp 1)⟩,
    ⟨(some 21), some (19, true), .load none (.tmp 20)⟩,
    ⟨(some 22), some (19, true), .mv (.tmp 3)⟩,
    ⟨(some 23), some (19, true), .bin .sub (.tmp 22) (.const (.int .i64 1))⟩,
    ⟨(some 24), some (19, true), .ia 1 (.tmp 21) (.tmp 23)⟩,
    ⟨(some 25), some (19, true), .load none (.tmp 24)⟩,
    ⟨(some 26), some (19, true), .mv (.tmp 4)⟩,
    ⟨(some 27), some (19, true), .bin .geq (.tmp 25) (.tmp 26)⟩,
    ⟨(some 28), some (16, false), .pick (.tmp 19) (.tmp 27) (.const (.bool false))⟩,
    ⟨(some 29), none, .pick (.tmp 16) (.const (.bool true)) (.tmp 28)⟩])
  (.kept [1, 6, 7, 8, 29] (.cond (.tmp 29) (.seq (.ops [⟨(some 2), none, .mv (.const (.bool false))⟩])
  (.ret)) (.skip))))))
  (.kept [1, 6, 7, 8] (.ops [⟨(some 30), none, .bin .add (.tmp 8) (.const (.int .i64 1))⟩,
    ⟨(some 8), none, .mv (.tmp 30)⟩]))))
def c_spec_GoodPlaces : AS :=
  .seq (.ops [⟨(some 1), none, .box (.tmp 0)⟩,
    ⟨(some 2), none, .mv (.const (.bool false))⟩])
  (.seq (.seq (.ops [⟨(some 5), none, .fa 1 (.tmp 1)⟩,
    ⟨(some 6), none, .load none (.tmp 5)⟩,
    ⟨(some 7), none, .lens (.tmp 6)⟩,
    ⟨(some 8), none, .mv (.const (.int .i64 0))⟩])
  (.block 0 (.loop 1 [(1, 0), (6, 0), (7, 0), (8, 0)] c_spec_GoodPlaces_l1)))
  (.kept [1] (.seq (.ops [⟨(some 31), none, .fa 0 (.tmp 1)⟩,
    ⟨(some 32), none, .load none (.tmp 31)⟩,
    ⟨(some 33), none, .call 79 [(.tmp 32), (.const (.int .i64 0)), (.const (.int .i64 50))]⟩,
    ⟨(some 34), none, .mv (.tmp 33)⟩,
    ⟨(some 35), some (34, true), .fa 1 (.tmp 1)⟩,
    ⟨(some 36), some (34, true), .load none (.tmp 35)⟩,
    ⟨(some 37), some (34, true), .lens (.tmp 36)⟩,
    ⟨(some 38), some (34, true), .bin .leq (.tmp 37) (.const (.int .i64 4))⟩,
    ⟨(some 39), none, .pick (.tmp 34) (.tmp 38) (.const (.bool false))⟩,
    ⟨(some 40), none, .mv (.tmp 39)⟩,
    ⟨(some 41), some (40, true), .fa 2 (.tmp 1)⟩,
    ⟨(some 42), some (40, true), .load none (.tmp 41)⟩,
    ⟨(some 43), some (40, true), .lens (.tmp 42)⟩,
    ⟨(some 44), some (40, true), .fa 1 (.tmp 1)⟩,
    ⟨(some 45), some (40, true), .load none (.tmp 44)⟩,
    ⟨(some 46), some (40, true), .lens (.tmp 45)⟩,
    ⟨(some 47), some (40, true), .bin .add (.tmp 46) (.const (.int .i64 1))⟩,
    ⟨(some 48), some (40, true), .bin .eql (.tmp 43) (.tmp 47)⟩,
    ⟨(some 49), none, .pick (.tmp 40) (.tmp 48) (.const (.bool false))⟩,
    ⟨(some 50), none, .mv (.tmp 49)⟩,
    ⟨(some 51), some (50, true), .fa 2 (.tmp 1)⟩,
    ⟨(some 52), some (50, true), .load none (.tmp 51)⟩,
    ⟨(some 53), some (50, true), .call 67 [(.tmp 52), (.const (.int .i64 0)), (.const (.int .i64 3))]⟩,
    ⟨(some 54), none, .pick (.tmp 50) (.tmp 53) (.const (.bool false))⟩,
    ⟨(some 2), none, .mv (.tmp 54)⟩])
  (.ret))))
theorem h_spec_GoodPlaces : (Try.prog.funcs[n_spec_GoodPlaces]?).bind (fun fn => fn.body.bind (comp Try.prog fn.ntmps)) = some (AS.strip c_spec_GoodPlaces) := by kernel_rfl
theorem r_spec_GoodPlaces : (Try.prog.funcs[n_spec_GoodPlaces]?).map (fun fn => (fn.results.toList, fn.ntmps)) = some ([.tmp 2], 55) := by kernel_rfl
-- 87 loop.example/g00850/spec.l20Own
abbrev n_spec_l20Own : Nat := 87
def c_spec_l20Own : AS :=
  .seq (.ops [⟨(some 1), none, .box (.tmp 0)⟩,
    ⟨(some 2), none, .alloc (.agg #[.int .i64 0, .slice none 0 0, .slice none 0 0])⟩])
  (.seq (.rops [(none, ⟨(some 3), none, .fa 0 (.tmp 1)⟩),
    (none, ⟨(some 4), none, .load none (.tmp 3)⟩),
    (none, ⟨(some 6), none, .fa 1 (.tmp 1)⟩),
    (none, ⟨(some 7), none, .load none (.tmp 6)⟩),
    (none, ⟨(some 9), none, .fa 2 (.tmp 1)⟩),
    (none, ⟨(some 10), none, .load none (.tmp 9)⟩),
    (some [⟨(some 10), none, .load none (.tmp 9)⟩, ⟨(some 9), none, .fa 2 (.tmp 1)⟩, ⟨(some 7), none, .load none (.tmp 6)⟩, ⟨(some 6), none, .fa 1 (.tmp 1)⟩, ⟨(some 4), none, .load none (.tmp 3)⟩, ⟨(some 3), none, .fa 0 (.tmp 1)⟩], ⟨(some 5), none, .bsl 1 (.string ⟨⟨[]⟩⟩) 0 []⟩),
    (some [⟨(some 10), none, .load none (.tmp 9)⟩, ⟨(some 9), none, .fa 2 (.tmp 1)⟩, ⟨(some 4), none, .load none (.tmp 3)⟩, ⟨(some 3), none, .fa 0 (.tmp 1)⟩], ⟨(some 8), none, .app 1 16 (.string ⟨⟨[]⟩⟩) (.tmp 5) (.tmp 7)⟩),
    (some [⟨(some 4), none, .load none (.tmp 3)⟩, ⟨(some 3), none, .fa 0 (.tmp 1)⟩], ⟨(some 11), none, .call 101 [(.tmp 10)]⟩),
    (none, ⟨(some 12), none, .build (.agg #[.int .i64 0, .slice none 0 0, .slice none 0 0]) [(0, 1, (.tmp 4)), (1, 1, (.tmp 8)), (2, 1, (.tmp 11))]⟩),
    (some [], ⟨none, none, .store 3 (.tmp 2) (.tmp 12)⟩)])
  (.ret))
theorem h_spec_l20Own : (Try.prog.funcs[n_spec_l20Own]?).bind (fun fn => fn.body.bind (comp Try.prog fn.ntmps)) = some (AS.strip c_spec_l20Own) := by kernel_rfl
theorem r_spec_l20Own : (Try.prog.funcs[n_spec_l20Own]?).map (fun fn => (fn.results.toList, fn.ntmps)) = some ([.cell 2 62], 13) := by kernel_rfl
-- 88 loop.example/g00850/spec.l20Next
abbrev n_spec_l20Next : Nat := 88
def c_spec_l20Next : AS :=
  .seq (.ops [⟨(some 1), none, .box (.tmp 0)⟩,
    ⟨(some 2), none, .alloc (.agg #[.int .i64 0, .slice none 0 0, .slice none 0 0])⟩,
    ⟨(some 3), none, .mv (.const (.bool false))⟩])
  (.seq (.ops [⟨(some 4), none, .fa 0 (.tmp 1)⟩,
    ⟨(some 5), none, .load none (.tmp 4)⟩,
    ⟨(some 6), none, .bin .add (.tmp 5) (.const (.int .i64 1))⟩,
    ⟨(some 7), none, .fa 0 (.tmp 1)⟩,
    ⟨none, none, .store 1 (.tmp 7) (.tmp 6)⟩])
  (.seq (.seq (.ops [⟨(some 8), none, .load (some 3) (.tmp 1)⟩,
    ⟨(some 9), none, .call 86 [(.tmp 8)]⟩,
    ⟨(some 10), none, .not (.tmp 9)⟩])
  (.cond (.tmp 10) (.seq (.ops [⟨(some 11), none, .build (.agg #[.int .i64 0, .slice none 0 0, .slice none 0 0]) []⟩,
    ⟨none, none, .store 3 (.tmp 2) (.tmp 11)⟩,
    ⟨(some 3), none, .mv (.const (.bool false))⟩])
  (.ret)) (.skip)))
  (.seq (.ops [⟨(some 12), none, .load (some 3) (.tmp 1)⟩,
    ⟨none, none, .store 3 (.tmp 2) (.tmp 12)⟩,
    ⟨(some 3), none, .mv (.const (.bool true))⟩])
  (.ret))))
theorem h_spec_l20Next : (Try.prog.funcs[n_spec_l20Next]?).bind (fun fn => fn.body.bind (comp Try.prog fn.ntmps)) = some (AS.strip c_spec_l20Next) := by kernel_rfl
theorem r_spec_l20Next : (Try.prog.funcs[n_spec_l20Next]?).map (fun fn => (fn.results.toList, fn.ntmps)) = some ([.cell 2 62, .tmp 3], 13) := by kernel_rfl
-- 89 loop.example/g00850/laws.toStringS
abbrev n_laws_toStringS : Nat := 89
def c_laws_toStringS_l1 : AS :=
  .seq (.seq (.ops [⟨(some 8), none, .mv (.tmp 4)⟩,
    ⟨(some 9), none, .mv (.tmp 0)⟩,
    ⟨(some 10), none, .lens (.tmp 9)⟩,
    ⟨(some 11), none, .bin .lss (.tmp 8) (.tmp 10)⟩])
  (.cond (.tmp 11) (.skip) (.exit 0)))
  (.seq (.block 1 (.ops [⟨(some 14), none, .mv (.tmp 3)⟩,
    ⟨(some 15), none, .mv (.tmp 4)⟩,
    ⟨(some 16), none, .mv (.tmp 0)⟩,
    ⟨(some 17), none, .mv (.tmp 4)⟩,
    ⟨(some 18), none, .ia 1 (.tmp 16) (.tmp 17)⟩,
    ⟨(some 19), none, .load none (.tmp 18)⟩,
    ⟨(some 20), none, .ia 1 (.tmp 14) (.tmp 15)⟩,
    ⟨none, none, .store 1 (.tmp 20) (.tmp 19)⟩]))
  (.kept [0, 3, 4] (.ops [⟨(some 12), none, .mv (.tmp 4)⟩,
    ⟨(some 13), none, .bin .add (.tmp 12) (.const (.int .i64 1))⟩,
    ⟨(some 4), none, .mv (.tmp 13)⟩])))
def c_laws_toStringS : AS :=
  .seq (.ops [⟨(some 2), none, .mv (.const (.slice none 0 0))⟩])
  (.seq (.ops [⟨(some 5), none, .mv (.tmp 0)⟩,
    ⟨(some 6), none, .lens (.tmp 5)⟩,
    ⟨(some 7), none, .mks 1 16 (.string ⟨⟨[]⟩⟩) (.tmp 6) (.tmp 6)⟩,
    ⟨(some 3), none, .mv (.tmp 7)⟩])
  (.seq (.seq (.ops [⟨(some 4), none, .mv (.const (.int .i64 0))⟩])
  (.block 0 (.loop 1 [(0, 0), (3, 0), (4, 0)] c_laws_toStringS_l1)))
  (.kept [3] (.seq (.ops [⟨(some 21), none, .mv (.tmp 3)⟩,
    ⟨(some 2), none, .mv (.tmp 21)⟩])
  (.ret)))))
theorem h_laws_toStringS : (Try.prog.funcs[n_laws_toStringS]?).bind (fun fn => fn.body.bind (comp Try.prog fn.ntmps)) = some (AS.strip c_laws_toStringS) := by kernel_rfl
theorem r_laws_toStringS : (Try.prog.funcs[n_laws_toStringS]?).map (fun fn => (fn.results.toList, fn.ntmps)) = some ([.tmp 2], 22) := by kernel_rfl
-- 90 loop.example/g00850/laws.toIntS
abbrev n_laws_toIntS : Nat := 90
def c_laws_toIntS_l1 : AS :=
  .seq (.seq (.ops [⟨(some 8), none, .mv (.tmp 4)⟩,
    ⟨(some 9), none, .mv (.tmp 0)⟩,
    ⟨(some 10), none, .lens (.tmp 9)⟩,
    ⟨(some 11), none, .bin .lss (.tmp 8) (.tmp 10)⟩])
  (.cond (.tmp 11) (.skip) (.exit 0)))
  (.seq (.block 1 (.ops [⟨(some 14), none, .mv (.tmp 3)⟩,
    ⟨(some 15), none, .mv (.tmp 4)⟩,
    ⟨(some 16), none, .mv (.tmp 0)⟩,
    ⟨(some 17), none, .mv (.tmp 4)⟩,
    ⟨(some 18), none, .ia 1 (.tmp 16) (.tmp 17)⟩,
    ⟨(some 19), none, .load none (.tmp 18)⟩,
    ⟨(some 20), none, .ia 1 (.tmp 14) (.tmp 15)⟩,
    ⟨none, none, .store 1 (.tmp 20) (.tmp 19)⟩]))
  (.kept [0, 3, 4] (.ops [⟨(some 12), none, .mv (.tmp 4)⟩,
    ⟨(some 13), none, .bin .add (.tmp 12) (.const (.int .i64 1))⟩,
    ⟨(some 4), none, .mv (.tmp 13)⟩])))
def c_laws_toIntS : AS :=
  .seq (.ops [⟨(some 2), none, .mv (.const (.slice none 0 0))⟩])
  (.seq (.ops [⟨(some 5), none, .mv (.tmp 0)⟩,
    ⟨(some 6), none, .lens (.tmp 5)⟩,
    ⟨(some 7), none, .mks 1 8 (.int .i64 0) (.tmp 6) (.tmp 6)⟩,
    ⟨(some 3), none, .mv (.tmp 7)⟩])
  (.seq (.seq (.ops [⟨(some 4), none, .mv (.const (.int .i64 0))⟩])
  (.block 0 (.loop 1 [(0, 0), (3, 0), (4, 0)] c_laws_toIntS_l1)))
  (.kept [3] (.seq (.ops [⟨(some 21), none, .mv (.tmp 3)⟩,
    ⟨(some 2), none, .mv (.tmp 21)⟩])
  (.ret)))))
theorem h_laws_toIntS : (Try.prog.funcs[n_laws_toIntS]?).bind (fun fn => fn.body.bind (comp Try.prog fn.ntmps)) = some (AS.strip c_laws_toIntS) := by kernel_rfl
theorem r_laws_toIntS : (Try.prog.funcs[n_laws_toIntS]?).map (fun fn => (fn.results.toList, fn.ntmps)) = some ([.tmp 2], 22) := by kernel_rfl
-- 91 loop.example/g00850/impl.isRange
abbrev n_impl_isRange : Nat := 91
def c_impl_isRange : AS :=
  .seq (.ops [⟨(some 2), none, .box (.tmp 0)⟩,
    ⟨(some 4), none, .mv (.const (.bool false))⟩])
  (.seq (.ops [⟨(some 5), none, .load (some 3) (.tmp 2)⟩,
    ⟨(some 6), none, .call 116 [(.tmp 5)]⟩,
    ⟨(some 7), none, .mv (.tmp 6)⟩,
    ⟨(some 8), some (7, true), .mv (.tmp 1)⟩,
    ⟨(some 9), some (7, true), .fa 2 (.tmp 2)⟩,
    ⟨(some 10), some (7, true), .load none (.tmp 9)⟩,
    ⟨(some 11), some (7, true), .lens (.tmp 10)⟩,
    ⟨(some 12), some (7, true), .bin .sub (.tmp 11) (.const (.int .i64 1))⟩,
    ⟨(some 13), some (7, true), .call 52 [(.tmp 8), (.const (.int .i64 0)), (.tmp 12)]⟩,
    ⟨(some 14), none, .pick (.tmp 7) (.tmp 13) (.const (.bool false))⟩,
    ⟨(some 4), none, .mv (.tmp 14)⟩])
  (.ret))
theorem h_impl_isRange : (Try.prog.funcs[n_impl_isRange]?).bind (fun fn => fn.body.bind (comp Try.prog fn.ntmps)) = some (AS.strip c_impl_isRange) := by kernel_rfl
theorem r_impl_isRange : (Try.prog.funcs[n_impl_isRange]?).map (fun fn => (fn.results.toList, fn.ntmps)) = some ([.tmp 4], 15) := by kernel_rfl
-- 92 loop.example/g00850/impl.isGroup
abbrev n_impl_isGroup : Nat := 92
def c_impl_isGroup : AS :=
  .seq (.ops [⟨(some 2), none, .mv (.const (.bool false))⟩])
  (.seq (.ops [⟨(some 3), none, .mv (.tmp 0)⟩,
    ⟨(some 4), none, .call 52 [(.tmp 3), (.const (.int .i64 0)), (.const (.int .i64 3))]⟩,
    ⟨(some 2), none, .mv (.tmp 4)⟩])
  (.ret))
theorem h_impl_isGroup : (Try.prog.funcs[n_impl_isGroup]?).bind (fun fn => fn.body.bind (comp Try.prog fn.ntmps)) = some (AS.strip c_impl_isGroup) := by kernel_rfl
theorem r_impl_isGroup : (Try.prog.funcs[n_impl_isGroup]?).map (fun fn => (fn.results.toList, fn.ntmps)) = some ([.tmp 2], 5) := by kernel_rfl
-- 93 loop.example/g00850/impl.copyPlaces
abbrev n_impl_copyPlaces : Nat := 93
def c_impl_copyPlaces : AS :=
  .seq (.ops [⟨(some 1), none, .box (.tmp 0)⟩,
    ⟨(some 2), none, .alloc (.agg #[.int .i64 0, .slice none 0 0, .slice none 0 0])⟩])
  (.seq (.rops [(none, ⟨(some 3), none, .fa 0 (.tmp 1)⟩),
    (none, ⟨(some 4), none, .load none (.tmp 3)⟩),
    (none, ⟨(some 5), none, .fa 1 (.tmp 1)⟩),
    (none, ⟨(some 6), none, .load none (.tmp 5)⟩),
    (none, ⟨(some 8), none, .fa 2 (.tmp 1)⟩),
    (none, ⟨(some 9), none, .load none (.tmp 8)⟩),
    (some [⟨(some 9), none, .load none (.tmp 8)⟩, ⟨(some 8), none, .fa 2 (.tmp 1)⟩, ⟨(some 4), none, .load none (.tmp 3)⟩, ⟨(some 3), none, .fa 0 (.tmp 1)⟩], ⟨(some 7), none, .call 117 [(.tmp 6)]⟩),
    (some [⟨(some 4), none, .load none (.tmp 3)⟩, ⟨(some 3), none, .fa 0 (.tmp 1)⟩], ⟨(some 10), none, .call 118 [(.tmp 9)]⟩),
    (none, ⟨(some 11), none, .build (.agg #[.int .i64 0, .slice none 0 0, .slice none 0 0]) [(0, 1, (.tmp 4)), (1, 1, (.tmp 7)), (2, 1, (.tmp 10))]⟩),
    (some [], ⟨none, none, .store 3 (.tmp 2) (.tmp 11)⟩)])
  (.ret))
theorem h_impl_copyPlaces : (Try.prog.funcs[n_impl_copyPlaces]?).bind (fun fn => fn.body.bind (comp Try.prog fn.ntmps)) = some (AS.strip c_impl_copyPlaces) := by kernel_rfl
theorem r_impl_copyPlaces : (Try.prog.funcs[n_impl_copyPlaces]?).map (fun fn => (fn.results.toList, fn.ntmps)) = some ([.cell 2 62], 12) := by kernel_rfl
-- 94 (loop.example/g00850/impl.Places).next
abbrev n_impl_Places_next : Nat := 94
def c_impl_Places_next : AS :=
  .seq (.ops [⟨(some 1), none, .box (.tmp 0)⟩,
    ⟨(some 2), none, .alloc (.agg #[.int .i64 0, .slice none 0 0, .slice none 0 0])⟩,
    ⟨(some 3), none, .mv (.const (.bool false))⟩])
  (.seq (.ops [⟨(some 4), none, .fa 0 (.tmp 1)⟩,
    ⟨(some 5), none, .load none (.tmp 4)⟩,
    ⟨(some 6), none, .bin .add (.tmp 5) (.const (.int .i64 1))⟩,
    ⟨(some 7), none, .fa 0 (.tmp 1)⟩,
    ⟨none, none, .store 1 (.tmp 7) (.tmp 6)⟩])
  (.seq (.seq (.ops [⟨(some 8), none, .load (some 3) (.tmp 1)⟩,
    ⟨(some 9), none, .call 116 [(.tmp 8)]⟩,
    ⟨(some 10), none, .not (.tmp 9)⟩])
  (.cond (.tmp 10) (.seq (.ops [⟨(some 11), none, .build (.agg #[.int .i64 0, .slice none 0 0, .slice none 0 0]) []⟩,
    ⟨none, none, .store 3 (.tmp 2) (.tmp 11)⟩,
    ⟨(some 3), none, .mv (.const (.bool false))⟩])
  (.ret)) (.skip)))
  (.seq (.ops [⟨(some 12), none, .load (some 3) (.tmp 1)⟩,
    ⟨none, none, .store 3 (.tmp 2) (.tmp 12)⟩,
    ⟨(some 3), none, .mv (.const (.bool true))⟩])
  (.ret))))
theorem h_impl_Places_next : (Try.prog.funcs[n_impl_Places_next]?).bind (fun fn => fn.body.bind (comp Try.prog fn.ntmps)) = some (AS.strip c_impl_Places_next) := by kernel_rfl
theorem r_impl_Places_next : (Try.prog.funcs[n_impl_Places_next]?).map (fun fn => (fn.results.toList, fn.ntmps)) = some ([.cell 2 62, .tmp 3], 13) := by kernel_rfl
-- 95 loop.example/g00850/laws.eqStringS
abbrev n_laws_eqStringS : Nat := 95
def c_laws_eqStringS_l1 : AS :=
  .seq (.seq (.ops [⟨(some 11), none, .mv (.tmp 5)⟩,
    ⟨(some 12), none, .mv (.tmp 0)⟩,
    ⟨(some 13), none, .lens (.tmp 12)⟩,
    ⟨(some 14), none, .bin .lss (.tmp 11) (.tmp 13)⟩])
  (.cond (.tmp 14) (.skip) (.exit 0)))
  (.seq (.block 1 (.seq (.dops [⟨(some 17), none, .mv (.tmp 0)⟩,
    ⟨(some 18), none, .mv (.tmp 5)⟩,
    ⟨(some 19), none, .ia 1 (.tmp 17) (.tmp 18)⟩,
    ⟨(some 20), none, .load none (.tmp 19)⟩,
    ⟨(some 21), none, .mv (.tmp 1)⟩,
    ⟨(some 22), none, .mv (.tmp 5)⟩,
    ⟨(some 23), none, .ia 1 (.tmp 21) (.tmp 22)⟩,
    ⟨(some 24), none, .load none (.tmp 23)⟩,
    ⟨(some 25), none, .bin .neq (.tmp 20) (.tmp 24)⟩])
  (.kept [0, 1, 5, 25] (.cond (.tmp 25) (.seq (.ops [⟨(some 4), none, .mv (.const (.bool false))⟩])
  (.ret)) (.skip)))))
  (.kept [0, 1, 5] (.ops [⟨(some 15), none, .mv (.tmp 5)⟩,
    ⟨(some 16), none, .bin .add (.tmp 15) (.const (.int .i64 1))⟩,
    ⟨(some 5), none, .mv (.tmp 16)⟩])))
def c_laws_eqStringS : AS :=
  .seq (.ops [⟨(some 4), none, .mv (.const (.bool false))⟩])
  (.seq (.seq (.ops [⟨(some 6), none, .mv (.tmp 0)⟩,
    ⟨(some 7), none, .lens (.tmp 6)⟩,
    ⟨(some 8), none, .mv (.tmp 1)⟩,
    ⟨(some 9), none, .lens (.tmp 8)⟩,
    ⟨(some 10), none, .bin .neq (.tmp 7) (.tmp 9)⟩])
  (.cond (.tmp 10) (.seq (.ops [⟨(some 4), none, .mv (.const (.bool false))⟩])
  (.ret)) (.skip)))
  (.kept [0, 1] (.seq (.seq (.ops [⟨(some 5), none, .mv (.const (.int .i64 0))⟩])
  (.block 0 (.loop 2 [(0, 0), (1, 0), (5, 0)] c_laws_eqStringS_l1)))
  (.kept [] (.seq (.ops [⟨(some 4), none, .mv (.const (.bool true))⟩])
  (.ret))))))
theorem h_laws_eqStringS : (Try.prog.funcs[n_laws_eqStringS]?).bind (fun fn => fn.body.bind (comp Try.prog fn.ntmps)) = some (AS.strip c_laws_eqStringS) := by kernel_rfl
theorem r_laws_eqStringS : (Try.prog.funcs[n_laws_eqStringS]?).map (fun fn => (fn.results.toList, fn.ntmps)) = some ([.tmp 4], 26) := by kernel_rfl
-- 96 loop.example/g00850/laws.eqIntS
abbrev n_laws_eqIntS : Nat := 96
def c_laws_eqIntS_l1 : AS :=
  .seq (.seq (.ops [⟨(some 11), none, .mv (.tmp 5)⟩,
    ⟨(some 12), none, .mv (.tmp 0)⟩,
    ⟨(some 13), none, .lens (.tmp 12)⟩,
    ⟨(some 14), none, .bin .lss (.tmp 11) (.tmp 13)⟩])
  (.cond (.tmp 14) (.skip) (.exit 0)))
  (.seq (.block 1 (.seq (.dops [⟨(some 17), none, .mv (.tmp 0)⟩,
    ⟨(some 18), none, .mv (.tmp 5)⟩,
    ⟨(some 19), none, .ia 1 (.tmp 17) (.tmp 18)⟩,
    ⟨(some 20), none, .load none (.tmp 19)⟩,
    ⟨(some 21), none, .mv (.tmp 1)⟩,
    ⟨(some 22), none, .mv (.tmp 5)⟩,
    ⟨(some 23), none, .ia 1 (.tmp 21) (.tmp 22)⟩,
    ⟨(some 24), none, .load none (.tmp 23)⟩,
    ⟨(some 25), none, .bin .neq (.tmp 20) (.tmp 24)⟩])
  (.kept [0, 1, 5, 25] (.cond (.tmp 25) (.seq (.ops [⟨(some 4), none, .mv (.const (.bool false))⟩])
  (.ret)) (.skip)))))
  (.kept [0, 1, 5] (.ops [⟨(some 15), none, .mv (.tmp 5)⟩,
    ⟨(some 16), none, .bin .add (.tmp 15) (.const (.int .i64 1))⟩,
    ⟨(some 5), none, .mv (.tmp 16)⟩])))
def c_laws_eqIntS : AS :=
  .seq (.ops [⟨(some 4), none, .mv (.const (.bool false))⟩])
  (.seq (.seq (.ops [⟨(some 6), none, .mv (.tmp 0)⟩,
    ⟨(some 7), none, .lens (.tmp 6)⟩,
    ⟨(some 8), none, .mv (.tmp 1)⟩,
    ⟨(some 9), none, .lens (.tmp 8)⟩,
    ⟨(some 10), none, .bin .neq (.tmp 7) (.tmp 9)⟩])
  (.cond (.tmp 10) (.seq (.ops [⟨(some 4), none, .mv (.const (.bool false))⟩])
  (.ret)) (.skip)))
  (.kept [0, 1] (.seq (.seq (.ops [⟨(some 5), none, .mv (.const (.int .i64 0))⟩])
  (.block 0 (.loop 2 [(0, 0), (1, 0), (5, 0)] c_laws_eqIntS_l1)))
  (.kept [] (.seq (.ops [⟨(some 4), none, .mv (.const (.bool true))⟩])
  (.ret))))))
theorem h_laws_eqIntS : (Try.prog.funcs[n_laws_eqIntS]?).bind (fun fn => fn.body.bind (comp Try.prog fn.ntmps)) = some (AS.strip c_laws_eqIntS) := by kernel_rfl
theorem r_laws_eqIntS : (Try.prog.funcs[n_laws_eqIntS]?).map (fun fn => (fn.results.toList, fn.ntmps)) = some ([.tmp 4], 26) := by kernel_rfl
-- 97 loop.example/g00850/laws.markStringS
abbrev n_laws_markStringS : Nat := 97
def c_laws_markStringS_l1 : AS :=
  .seq (.seq (.ops [⟨(some 6), none, .mv (.tmp 5)⟩,
    ⟨(some 7), none, .mv (.tmp 0)⟩,
    ⟨(some 8), none, .lens (.tmp 7)⟩,
    ⟨(some 9), none, .bin .lss (.tmp 6) (.tmp 8)⟩])
  (.cond (.tmp 9) (.skip) (.exit 0)))
  (.seq (.block 1 (.seq (.ops [⟨(some 12), none, .mv (.tmp 0)⟩,
    ⟨(some 13), none, .mv (.tmp 5)⟩,
    ⟨(some 14), none, .mv (.tmp 1)⟩,
    ⟨(some 15), none, .call 119 [(.tmp 14)]⟩,
    ⟨(some 16), none, .ia 1 (.tmp 12) (.tmp 13)⟩,
    ⟨none, none, .store 1 (.tmp 16) (.tmp 15)⟩])
  (.ops [⟨(some 17), none, .mv (.tmp 1)⟩,
    ⟨(some 18), none, .bin .add (.tmp 17) (.const (.int .i64 1))⟩,
    ⟨(some 1), none, .mv (.tmp 18)⟩])))
  (.kept [0, 1, 5] (.ops [⟨(some 10), none, .mv (.tmp 5)⟩,
    ⟨(some 11), none, .bin .add (.tmp 10) (.const (.int .i64 1))⟩,
    ⟨(some 5), none, .mv (.tmp 11)⟩])))
def c_laws_markStringS : AS :=
  .seq (.ops [⟨(some 4), none, .mv (.const (.int .i64 0))⟩])
  (.seq (.seq (.ops [⟨(some 5), none, .mv (.const (.int .i64 0))⟩])
  (.block 0 (.loop 2 [(0, 0), (1, 0), (5, 0)] c_laws_markStringS_l1)))
  (.kept [1] (.seq (.ops [⟨(some 19), none, .mv (.tmp 1)⟩,
    ⟨(some 4), none, .mv (.tmp 19)⟩])
  (.ret))))
theorem h_laws_markStringS : (Try.prog.funcs[n_laws_markStringS]?).bind (fun fn => fn.body.bind (comp Try.prog fn.ntmps)) = some (AS.strip c_laws_markStringS) := by kernel_rfl
theorem r_laws_markStringS : (Try.prog.funcs[n_laws_markStringS]?).map (fun fn => (fn.results.toList, fn.ntmps)) = some ([.tmp 4], 20) := by kernel_rfl
-- 98 loop.example/g00850/laws.markIntS
abbrev n_laws_markIntS : Nat := 98
def c_laws_markIntS_l1 : AS :=
  .seq (.seq (.ops [⟨(some 6), none, .mv (.tmp 5)⟩,
    ⟨(some 7), none, .mv (.tmp 0)⟩,
    ⟨(some 8), none, .lens (.tmp 7)⟩,
    ⟨(some 9), none, .bin .lss (.tmp 6) (.tmp 8)⟩])
  (.cond (.tmp 9) (.skip) (.exit 0)))
  (.seq (.block 1 (.seq (.ops [⟨(some 12), none, .mv (.tmp 0)⟩,
    ⟨(some 13), none, .mv (.tmp 5)⟩,
    ⟨(some 14), none, .mv (.tmp 1)⟩,
    ⟨(some 15), none, .ia 1 (.tmp 12) (.tmp 13)⟩,
    ⟨none, none, .store 1 (.tmp 15) (.tmp 14)⟩])
  (.ops [⟨(some 16), none, .mv (.tmp 1)⟩,
    ⟨(some 17), none, .bin .add (.tmp 16) (.const (.int .i64 1))⟩,
    ⟨(some 1), none, .mv (.tmp 17)⟩])))
  (.kept [0, 1, 5] (.ops [⟨(some 10), none, .mv (.tmp 5)⟩,
    ⟨(some 11), none, .bin .add (.tmp 10) (.const (.int .i64 1))⟩,
    ⟨(some 5), none, .mv (.tmp 11)⟩])))
def c_laws_markIntS : AS :=
  .seq (.ops [⟨(some 4), none, .mv (.const (.int .i64 0))⟩])
  (.seq (.seq (.ops [⟨(some 5), none, .mv (.const (.int .i64 0))⟩])
  (.block 0 (.loop 2 [(0, 0), (1, 0), (5, 0)] c_laws_markIntS_l1)))
  (.kept [1] (.seq (.ops [⟨(some 18), none, .mv (.tmp 1)⟩,
    ⟨(some 4), none, .mv (.tmp 18)⟩])
  (.ret))))
theorem h_laws_markIntS : (Try.prog.funcs[n_laws_markIntS]?).bind (fun fn => fn.body.bind (comp Try.prog fn.ntmps)) = some (AS.strip c_laws_markIntS) := by kernel_rfl
theorem r_laws_markIntS : (Try.prog.funcs[n_laws_markIntS]?).map (fun fn => (fn.results.toList, fn.ntmps)) = some ([.tmp 4], 19) := by kernel_rfl
-- 99 loop.example/g00850/laws.heldStringS
abbrev n_laws_heldStringS : Nat := 99
def c_laws_heldStringS_l1 : AS :=
  .seq (.seq (.ops [⟨(some 6), none, .mv (.tmp 5)⟩,
    ⟨(some 7), none, .mv (.tmp 0)⟩,
    ⟨(some 8), none, .lens (.tmp 7)⟩,
    ⟨(some 9), none, .bin .lss (.tmp 6) (.tmp 8)⟩])
  (.cond (.tmp 9) (.skip) (.exit 0)))
  (.seq (.block 1 (.seq (.seq (.rops [(none, ⟨(some 12), none, .mv (.tmp 0)⟩),
    (none, ⟨(some 13), none, .mv (.tmp 5)⟩),
    (none, ⟨(some 14), none, .ia 1 (.tmp 12) (.tmp 13)⟩),
    (none, ⟨(some 15), none, .load none (.tmp 14)⟩),
    (none, ⟨(some 16), none, .mv (.tmp 1)⟩),
    (some [⟨(some 15), none, .load none (.tmp 14)⟩, ⟨(some 14), none, .ia 1 (.tmp 12) (.tmp 13)⟩, ⟨(some 13), none, .mv (.tmp 5)⟩, ⟨(some 12), none, .mv (.tmp 0)⟩], ⟨(some 17), none, .call 119 [(.tmp 16)]⟩),
    (none, ⟨(some 18), none, .bin .neq (.tmp 15) (.tmp 17)⟩)])
  (.kept [0, 1, 5, 18] (.cond (.tmp 18) (.seq (.ops [⟨(some 4), none, .mv (.const (.int .i64 (-1)))⟩])
  (.ret)) (.skip))))
  (.kept [0, 1, 5] (.ops [⟨(some 19), none, .mv (.tmp 1)⟩,
    ⟨(some 20), none, .bin .add (.tmp 19) (.const (.int .i64 1))⟩,
    ⟨(some 1), none, .mv (.tmp 20)⟩]))))
  (.kept [0, 1, 5] (.ops [⟨(some 10), none, .mv (.tmp 5)⟩,
    ⟨(some 11), none, .bin .add (.tmp 10) (.const (.int .i64 1))⟩,
    ⟨(some 5), none, .mv (.tmp 11)⟩])))
def c_laws_heldStringS : AS :=
  .seq (.ops [⟨(some 4), none, .mv (.const (.int .i64 0))⟩])
  (.seq (.seq (.ops [⟨(some 5), none, .mv (.const (.int .i64 0))⟩])
  (.block 0 (.loop 2 [(0, 0), (1, 0), (5, 0)] c_laws_heldStringS_l1)))
  (.kept [1] (.seq (.ops [⟨(some 21), none, .mv (.tmp 1)⟩,
    ⟨(some 4), none, .mv (.tmp 21)⟩])
  (.ret))))
theorem h_laws_heldStringS : (Try.prog.funcs[n_laws_heldStringS]?).bind (fun fn => fn.body.bind (comp Try.prog fn.ntmps)) = some (AS.strip c_laws_heldStringS) := by kernel_rfl
theorem r_laws_heldStringS : (Try.prog.funcs[n_laws_heldStringS]?).map (fun fn => (fn.results.toList, fn.ntmps)) = some ([.tmp 4], 22) := by kernel_rfl
-- 100 loop.example/g00850/laws.heldIntS
abbrev n_laws_heldIntS : Nat := 100
def c_laws_heldIntS_l1 : AS :=
  .seq (.seq (.ops [⟨(some 6), none, .mv (.tmp 5)⟩,
    ⟨(some 7), none, .mv (.tmp 0)⟩,
    ⟨(some 8), none, .lens (.tmp 7)⟩,
    ⟨(some 9), none, .bin .lss (.tmp 6) (.tmp 8)⟩])
  (.cond (.tmp 9) (.skip) (.exit 0)))
  (.seq (.block 1 (.seq (.seq (.ops [⟨(some 12), none, .mv (.tmp 0)⟩,
    ⟨(some 13), none, .mv (.tmp 5)⟩,
    ⟨(some 14), none, .ia 1 (.tmp 12) (.tmp 13)⟩,
    ⟨(some 15), none, .load none (.tmp 14)⟩,
    ⟨(some 16), none, .mv (.tmp 1)⟩,
    ⟨(some 17), none, .bin .neq (.tmp 15) (.tmp 16)⟩])
  (.cond (.tmp 17) (.seq (.ops [⟨(some 4), none, .mv (.const (.int .i64 (-1)))⟩])
  (.ret)) (.skip)))
  (.kept [0, 1, 5] (.ops [⟨(some 18), none, .mv (.tmp 1)⟩,
    ⟨(some 19), none, .bin .add (.tmp 18) (.const (.int .i64 1))⟩,
    ⟨(some 1), none, .mv (.tmp 19)⟩]))))
  (.kept [0, 1, 5] (.ops [⟨(some 10), none, .mv (.tmp 5)⟩,
    ⟨(some 11), none, .bin .add (.tmp 10) (.const (.int .i64 1))⟩,
    ⟨(some 5), none, .mv (.tmp 11)⟩])))
def c_laws_heldIntS : AS :=
  .seq (.ops [⟨(some 4), none, .mv (.const (.int .i64 0))⟩])
  (.seq (.seq (.ops [⟨(some 5), none, .mv (.const (.int .i64 0))⟩])
  (.block 0 (.loop 2 [(0, 0), (1, 0), (5, 0)] c_laws_heldIntS_l1)))
  (.kept [1] (.seq (.ops [⟨(some 20), none, .mv (.tmp 1)⟩,
    ⟨(some 4), none, .mv (.tmp 20)⟩])
  (.ret))))
theorem h_laws_heldIntS : (Try.prog.funcs[n_laws_heldIntS]?).bind (fun fn => fn.body.bind (comp Try.prog fn.ntmps)) = some (AS.strip c_laws_heldIntS) := by kernel_rfl
theorem r_laws_heldIntS : (Try.prog.funcs[n_laws_heldIntS]?).map (fun fn => (fn.results.toList, fn.ntmps)) = some ([.tmp 4], 21) := by kernel_rfl
-- 101 loop.example/g00850/spec.l1Own
abbrev n_spec_l1Own : Nat := 101
def c_spec_l1Own : AS :=
  .seq (.ops [⟨(some 2), none, .mv (.const (.slice none 0 0))⟩])
  (.seq (.ops [⟨(some 3), none, .bsl 1 (.int .i64 0) 0 []⟩,
    ⟨(some 4), none, .mv (.tmp 0)⟩,
    ⟨(some 5), none, .app 1 8 (.int .i64 0) (.tmp 3) (.tmp 4)⟩,
    ⟨(some 2), none, .mv (.tmp 5)⟩])
  (.ret))
theorem h_spec_l1Own : (Try.prog.funcs[n_spec_l1Own]?).bind (fun fn => fn.body.bind (comp Try.prog fn.ntmps)) = some (AS.strip c_spec_l1Own) := by kernel_rfl
theorem r_spec_l1Own : (Try.prog.funcs[n_spec_l1Own]?).map (fun fn => (fn.results.toList, fn.ntmps)) = some ([.tmp 2], 6) := by kernel_rfl
-- 112 slices.IndexFunc[[]int,int]
abbrev n_slices_IndexFunc___int_int_ : Nat := 112
def c_slices_IndexFunc___int_int__l1 : AS :=
  .seq (.ops [⟨(some 9), none, .bin .lss (.tmp 8) (.tmp 7)⟩])
  (.seq (.cond (.tmp 9) (.skip) (.exit 0))
  (.seq (.block 1 (.seq (.ops [⟨(some 10), none, .mv (.tmp 8)⟩,
    ⟨(some 5), none, .mv (.tmp 10)⟩])
  (.seq (.ops [⟨(some 11), none, .mv (.tmp 1)⟩,
    ⟨(some 12), none, .mv (.tmp 0)⟩,
    ⟨(some 13), none, .mv (.tmp 5)⟩,
    ⟨(some 14), none, .ia 1 (.tmp 12) (.tmp 13)⟩,
    ⟨(some 15), none, .load none (.tmp 14)⟩,
    ⟨(some 16), none, .callv (.tmp 11) [(.tmp 15)]⟩])
  (.cond (.tmp 16) (.seq (.ops [⟨(some 17), none, .mv (.tmp 5)⟩,
    ⟨(some 4), none, .mv (.tmp 17)⟩])
  (.ret)) (.skip)))))
  (.kept [0, 1, 7, 8] (.ops [⟨(some 18), none, .bin .add (.tmp 8) (.const (.int .i64 1))⟩,
    ⟨(some 8), none, .mv (.tmp 18)⟩]))))
def c_slices_IndexFunc___int_int_ : AS :=
  .seq (.ops [⟨(some 4), none, .mv (.const (.int .i64 0))⟩])
  (.seq (.seq (.ops [⟨(some 6), none, .mv (.tmp 0)⟩,
    ⟨(some 7), none, .lens (.tmp 6)⟩,
    ⟨(some 8), none, .mv (.const (.int .i64 0))⟩])
  (.block 0 (.loop 2 [(0, 0), (1, 0), (7, 0), (8, 0)] c_slices_IndexFunc___int_int__l1)))
  (.kept [] (.seq (.ops [⟨(some 4), none, .mv (.const (.int .i64 (-1)))⟩])
  (.ret))))
theorem h_slices_IndexFunc___int_int_ : (Try.prog.funcs[n_slices_IndexFunc___int_int_]?).bind (fun fn => fn.body.bind (comp Try.prog fn.ntmps)) = some (AS.strip c_slices_IndexFunc___int_int_) := by kernel_rfl
theorem r_slices_IndexFunc___int_int_ : (Try.prog.funcs[n_slices_IndexFunc___int_int_]?).map (fun fn => (fn.results.toList, fn.ntmps)) = some ([.tmp 4], 19) := by kernel_rfl
-- 115 loop.example/g00850/spec.l3Key
abbrev n_spec_l3Key : Nat := 115
def c_spec_l3Key : AS :=
  .seq (.ops [⟨(some 2), none, .mv (.const (.bool false))⟩])
  (.seq (.ops [⟨(some 3), none, .mv (.tmp 0)⟩,
    ⟨(some 4), none, .lent (.tmp 3)⟩,
    ⟨(some 5), none, .call 79 [(.tmp 4), (.const (.int .i64 1)), (.const (.int .i64 12))]⟩,
    ⟨(some 6), none, .mv (.tmp 5)⟩,
    ⟨(some 7), some (6, true), .mv (.tmp 0)⟩,
    ⟨(some 8), some (6, true), .call 121 [(.tmp 7), (.const (.string ⟨⟨[46, 47]⟩⟩))]⟩,
    ⟨(some 9), none, .pick (.tmp 6) (.tmp 8) (.const (.bool false))⟩,
    ⟨(some 2), none, .mv (.tmp 9)⟩])
  (.ret))
theorem h_spec_l3Key : (Try.prog.funcs[n_spec_l3Key]?).bind (fun fn => fn.body.bind (comp Try.prog fn.ntmps)) = some (AS.strip c_spec_l3Key) := by kernel_rfl
theorem r_spec_l3Key : (Try.prog.funcs[n_spec_l3Key]?).map (fun fn => (fn.results.toList, fn.ntmps)) = some ([.tmp 2], 10) := by kernel_rfl
-- 116 loop.example/g00850/impl.GoodPlaces
abbrev n_impl_GoodPlaces : Nat := 116
def c_impl_GoodPlaces : AS :=
  .seq (.ops [⟨(some 1), none, .box (.tmp 0)⟩,
    ⟨(some 2), none, .mv (.const (.bool false))⟩])
  (.seq (.ops [⟨(some 3), none, .fa 0 (.tmp 1)⟩,
    ⟨(some 4), none, .load none (.tmp 3)⟩,
    ⟨(some 5), none, .call 52 [(.tmp 4), (.const (.int .i64 0)), (.const (.int .i64 50))]⟩,
    ⟨(some 6), none, .mv (.tmp 5)⟩,
    ⟨(some 7), some (6, true), .fa 1 (.tmp 1)⟩,
    ⟨(some 8), some (6, true), .load none (.tmp 7)⟩,
    ⟨(some 9), some (6, true), .lens (.tmp 8)⟩,
    ⟨(some 10), some (6, true), .bin .leq (.tmp 9) (.const (.int .i64 4))⟩,
    ⟨(some 11), none, .pick (.tmp 6) (.tmp 10) (.const (.bool false))⟩,
    ⟨(some 12), none, .mv (.tmp 11)⟩,
    ⟨(some 13), some (12, true), .fa 1 (.tmp 1)⟩,
    ⟨(some 14), some (12, true), .load none (.tmp 13)⟩,
    ⟨(some 15), some (12, true), .call 122 [(.tmp 14)]⟩,
    ⟨(some 16), none, .pick (.tmp 12) (.tmp 15) (.const (.bool false))⟩,
    ⟨(some 17), none, .mv (.tmp 16)⟩,
    ⟨(some 18), some (17, true), .fa 2 (.tmp 1)⟩,
    ⟨(some 19), some (17, true), .load none (.tmp 18)⟩,
    ⟨(some 20), some (17, true), .lens (.tmp 19)⟩,
    ⟨(some 21), some (17, true), .fa 1 (.tmp 1)⟩,
    ⟨(some 22), some (17, true), .load none (.tmp 21)⟩,
    ⟨(some 23), some (17, true), .lens (.tmp 22)⟩,
    ⟨(some 24), some (17, true), .bin .add (.tmp 23) (.const (.int .i64 1))⟩,
    ⟨(some 25), some (17, true), .bin .eql (.tmp 20) (.tmp 24)⟩,
    ⟨(some 26), none, .pick (.tmp 17) (.tmp 25) (.const (.bool false))⟩,
    ⟨(some 27), none, .mv (.tmp 26)⟩,
    ⟨(some 28), some (27, true), .fa 2 (.tmp 1)⟩,
    ⟨(some 29), some (27, true), .load none (.tmp 28)⟩,
    ⟨(some 30), some (27, true), .call 64 [(.tmp 29), (.func 123)]⟩,
    ⟨(some 31), some (27, true), .not (.tmp 30)⟩,
    ⟨(some 32), none, .pick (.tmp 27) (.tmp 31) (.const (.bool false))⟩,
    ⟨(some 2), none, .mv (.tmp 32)⟩])
  (.ret))
theorem h_impl_GoodPlaces : (Try.prog.funcs[n_impl_GoodPlaces]?).bind (fun fn => fn.body.bind (comp Try.prog fn.ntmps)) = some (AS.strip c_impl_GoodPlaces) := by kernel_rfl
theorem r_impl_GoodPlaces : (Try.prog.funcs[n_impl_GoodPlaces]?).map (fun fn => (fn.results.toList, fn.ntmps)) = some ([.tmp 2], 33) := by kernel_rfl
-- 117 slices.Clone[[]string,string]
abbrev n_slices_Clone___string_string_ : Nat := 117
def c_slices_Clone___string_string_ : AS :=
  .seq (.ops [⟨(some 2), none, .mv (.const (.slice none 0 0))⟩])
  (.seq (.seq (.ops [⟨(some 3), none, .mv (.tmp 0)⟩,
    ⟨(some 4), none, .isn false (.tmp 3)⟩])
  (.cond (.tmp 4) (.seq (.ops [⟨(some 2), none, .mv (.const (.slice none 0 0))⟩])
  (.ret)) (.skip)))
  (.seq (.ops [⟨(some 5), none, .bsl 1 (.string ⟨⟨[]⟩⟩) 0 []⟩,
    ⟨(some 6), none, .mv (.tmp 0)⟩,
    ⟨(some 7), none, .app 1 16 (.string ⟨⟨[]⟩⟩) (.tmp 5) (.tmp 6)⟩,
    ⟨(some 2), none, .mv (.tmp 7)⟩])
  (.ret)))
theorem h_slices_Clone___string_string_ : (Try.prog.funcs[n_slices_Clone___string_string_]?).bind (fun fn => fn.body.bind (comp Try.prog fn.ntmps)) = some (AS.strip c_slices_Clone___string_string_) := by kernel_rfl
theorem r_slices_Clone___string_string_ : (Try.prog.funcs[n_slices_Clone___string_string_]?).map (fun fn => (fn.results.toList, fn.ntmps)) = some ([.tmp 2], 8) := by kernel_rfl
-- 118 slices.Clone[[]int,int]
abbrev n_slices_Clone___int_int_ : Nat := 118
def c_slices_Clone___int_int_ : AS :=
  .seq (.ops [⟨(some 2), none, .mv (.const (.slice none 0 0))⟩])
  (.seq (.seq (.ops [⟨(some 3), none, .mv (.tmp 0)⟩,
    ⟨(some 4), none, .isn false (.tmp 3)⟩])
  (.cond (.tmp 4) (.seq (.ops [⟨(some 2), none, .mv (.const (.slice none 0 0))⟩])
  (.ret)) (.skip)))
  (.seq (.ops [⟨(some 5), none, .bsl 1 (.int .i64 0) 0 []⟩,
    ⟨(some 6), none, .mv (.tmp 0)⟩,
    ⟨(some 7), none, .app 1 8 (.int .i64 0) (.tmp 5) (.tmp 6)⟩,
    ⟨(some 2), none, .mv (.tmp 7)⟩])
  (.ret)))
theorem h_slices_Clone___int_int_ : (Try.prog.funcs[n_slices_Clone___int_int_]?).bind (fun fn => fn.body.bind (comp Try.prog fn.ntmps)) = some (AS.strip c_slices_Clone___int_int_) := by kernel_rfl
theorem r_slices_Clone___int_int_ : (Try.prog.funcs[n_slices_Clone___int_int_]?).map (fun fn => (fn.results.toList, fn.ntmps)) = some ([.tmp 2], 8) := by kernel_rfl
-- 119 loop.example/g00850/laws.markText
abbrev n_laws_markText : Nat := 119
def c_laws_markText_l1 : AS :=
  .seq (.seq (.ops [⟨(some 6), none, .mv (.tmp 0)⟩,
    ⟨(some 7), none, .bin .gtr (.tmp 6) (.const (.int .i64 0))⟩])
  (.cond (.tmp 7) (.skip) (.exit 0)))
  (.block 1 (.seq (.ops [⟨(some 8), none, .mv (.tmp 0)⟩,
    ⟨(some 9), none, .bin .rem (.tmp 8) (.const (.int .i64 10))⟩,
    ⟨(some 10), none, .bin .add (.const (.int .i64 48)) (.tmp 9)⟩,
    ⟨(some 11), none, .cvi .u8 (.tmp 10)⟩,
    ⟨(some 12), none, .bsl 1 (.int .u8 0) 1 [(0, (.tmp 11))]⟩,
    ⟨(some 13), none, .cvbs (.tmp 12)⟩,
    ⟨(some 14), none, .mv (.tmp 3)⟩,
    ⟨(some 15), none, .bin .add (.tmp 13) (.tmp 14)⟩,
    ⟨(some 3), none, .mv (.tmp 15)⟩])
  (.kept [0, 3] (.ops [⟨(some 16), none, .mv (.tmp 0)⟩,
    ⟨(some 17), none, .bin .quo (.tmp 16) (.const (.int .i64 10))⟩,
    ⟨(some 0), none, .mv (.tmp 17)⟩]))))
def c_laws_markText : AS :=
  .seq (.ops [⟨(some 2), none, .mv (.const (.string ⟨⟨[]⟩⟩))⟩])
  (.seq (.seq (.ops [⟨(some 4), none, .mv (.tmp 0)⟩,
    ⟨(some 5), none, .bin .leq (.tmp 4) (.const (.int .i64 0))⟩])
  (.cond (.tmp 5) (.seq (.ops [⟨(some 2), none, .mv (.const (.string ⟨⟨[109, 48]⟩⟩))⟩])
  (.ret)) (.skip)))
  (.seq (.ops [⟨(some 3), none, .mv (.const (.string ⟨⟨[]⟩⟩))⟩])
  (.seq (.block 0 (.loop 1 [(0, 0), (3, 0)] c_laws_markText_l1))
  (.kept [3] (.seq (.ops [⟨(some 18), none, .mv (.tmp 3)⟩,
    ⟨(some 19), none, .bin .add (.const (.string ⟨⟨[109]⟩⟩)) (.tmp 18)⟩,
    ⟨(some 2), none, .mv (.tmp 19)⟩])
  (.ret))))))
theorem h_laws_markText : (Try.prog.funcs[n_laws_markText]?).bind (fun fn => fn.body.bind (comp Try.prog fn.ntmps)) = some (AS.strip c_laws_markText) := by kernel_rfl
theorem r_laws_markText : (Try.prog.funcs[n_laws_markText]?).map (fun fn => (fn.results.toList, fn.ntmps)) = some ([.tmp 2], 20) := by kernel_rfl
-- 121 loop.example/g00850/spec.l3Bytes
abbrev n_spec_l3Bytes : Nat := 121
def c_spec_l3Bytes_l1 : AS :=
  .seq (.seq (.ops [⟨(some 36), none, .mv (.tmp 7)⟩,
    ⟨(some 37), none, .mv (.tmp 1)⟩,
    ⟨(some 38), none, .lent (.tmp 37)⟩,
    ⟨(some 39), none, .bin .lss (.tmp 36) (.tmp 38)⟩])
  (.cond (.tmp 39) (.skip) (.exit 2)))
  (.seq (.block 3 (.dops [⟨(some 42), none, .mv (.tmp 6)⟩,
    ⟨(some 43), none, .mv (.tmp 42)⟩,
    ⟨(some 44), some (43, false), .mv (.tmp 0)⟩,
    ⟨(some 45), some (43, false), .mv (.tmp 5)⟩,
    ⟨(some 46), some (43, false), .ix (.tmp 44) (.tmp 45)⟩,
    ⟨(some 47), some (43, false), .mv (.tmp 1)⟩,
    ⟨(some 48), some (43, false), .mv (.tmp 7)⟩,
    ⟨(some 49), some (43, false), .ix (.tmp 47) (.tmp 48)⟩,
    ⟨(some 50), some (43, false), .bin .eql (.tmp 46) (.tmp 49)⟩,
    ⟨(some 51), none, .pick (.tmp 43) (.const (.bool true)) (.tmp 50)⟩,
    ⟨(some 6), none, .mv (.tmp 51)⟩]))
  (.kept [0, 1, 5, 6, 7] (.ops [⟨(some 40), none, .mv (.tmp 7)⟩,
    ⟨(some 41), none, .bin .add (.tmp 40) (.const (.int .i64 1))⟩,
    ⟨(some 7), none, .mv (.tmp 41)⟩])))
def c_spec_l3Bytes_l2 : AS :=
  .seq (.seq (.ops [⟨(some 8), none, .mv (.tmp 5)⟩,
    ⟨(some 9), none, .mv (.tmp 0)⟩,
    ⟨(some 10), none, .lent (.tmp 9)⟩,
    ⟨(some 11), none, .bin .lss (.tmp 8) (.tmp 10)⟩])
  (.cond (.tmp 11) (.skip) (.exit 0)))
  (.seq (.block 1 (.seq (.ops [⟨(some 14), none, .mv (.tmp 0)⟩,
    ⟨(some 15), none, .mv (.tmp 5)⟩,
    ⟨(some 16), none, .ix (.tmp 14) (.tmp 15)⟩,
    ⟨(some 17), none, .bin .geq (.tmp 16) (.const (.int .u8 97))⟩,
    ⟨(some 18), none, .mv (.tmp 17)⟩,
    ⟨(some 19), some (18, true), .mv (.tmp 0)⟩,
    ⟨(some 20), some (18, true), .mv (.tmp 5)⟩,
    ⟨(some 21), some (18, true), .ix (.tmp 19) (.tmp 20)⟩,
    ⟨(some 22), some (18, true), .bin .leq (.tmp 21) (.const (.int .u8 122))⟩,
    ⟨(some 23), none, .pick (.tmp 18) (.tmp 22) (.const (.bool false))⟩,
    ⟨(some 24), none, .mv (.tmp 23)⟩,
    ⟨(some 25), some (24, false), .mv (.tmp 0)⟩,
    ⟨(some 26), some (24, false), .mv (.tmp 5)⟩,
    ⟨(some 27), some (24, false), .ix (.tmp 25) (.tmp 26)⟩,
    ⟨(some 28), some (24, false), .bin .geq (.tmp 27) (.const (.int .u8 48))⟩,
    ⟨(some 29), some (24, false), .mv (.tmp 28)⟩,
    ⟨(some 30), some (29, true), .mv (.tmp 0)⟩,
    ⟨(some 31), some (29, true), .mv (.tmp 5)⟩,
    ⟨(some 32), some (29, true), .ix (.tmp 30) (.tmp 31)⟩,
    ⟨(some 33), some (29, true), .bin .leq (.tmp 32) (.const (.int .u8 57))⟩,
    ⟨(some 34), some (24, false), .pick (.tmp 29) (.tmp 33) (.const (.bool false))⟩,
    ⟨(some 35), none, .pick (.tmp 24) (.const (.bool true)) (.tmp 34)⟩,
    ⟨(some 6), none, .mv (.tmp 35)⟩])
  (.kept [0, 1, 5, 6] (.seq (.seq (.ops [⟨(some 7), none, .mv (.const (.int .i64 0))⟩])
  (.block 2 (.loop 2 [(0, 0), (1, 0), (5, 0), (6, 0), (7, 0)] c_spec_l3Bytes_l1)))
  (.kept [0, 1, 5, 6] (.seq (.ops [⟨(some 52), none, .mv (.tmp 6)⟩,
    ⟨(some 53), none, .not (.tmp 52)⟩])
  (.cond (.tmp 53) (.seq (.ops [⟨(some 4), none, .mv (.const (.bool false))⟩])
  (.ret)) (.skip))))))))
  (.kept [0, 1, 5] (.ops [⟨(some 12), none, .mv (.tmp 5)⟩,
    ⟨(some 13), none, .bin .add (.tmp 12) (.const (.int .i64 1))⟩,
    ⟨(some 5), none, .mv (.tmp 13)⟩])))
def c_spec_l3Bytes : AS :=
  .seq (.ops [⟨(some 4), none, .mv (.const (.bool false))⟩])
  (.seq (.seq (.ops [⟨(some 5), none, .mv (.const (.int .i64 0))⟩])
  (.block 0 (.loop 2 [(0, 0), (1, 0), (5, 0)] c_spec_l3Bytes_l2)))
  (.kept [] (.seq (.ops [⟨(some 4), none, .mv (.const (.bool true))⟩])
  (.ret))))
theorem h_spec_l3Bytes : (Try.prog.funcs[n_spec_l3Bytes]?).bind (fun fn => fn.body.bind (comp Try.prog fn.ntmps)) = some (AS.strip c_spec_l3Bytes) := by kernel_rfl
theorem r_spec_l3Bytes : (Try.prog.funcs[n_spec_l3Bytes]?).map (fun fn => (fn.results.toList, fn.ntmps)) = some ([.tmp 4], 54) := by kernel_rfl
-- 122 loop.example/g00850/impl.areRising
abbrev n_impl_areRising : Nat := 122
def c_impl_areRising_l1 : AS :=
  .seq (.ops [⟨(some 8), none, .bin .lss (.tmp 7) (.tmp 6)⟩])
  (.seq (.cond (.tmp 8) (.skip) (.exit 0))
  (.seq (.block 1 (.seq (.ops [⟨(some 9), none, .mv (.tmp 7)⟩,
    ⟨(some 10), none, .ia 1 (.tmp 5) (.tmp 7)⟩,
    ⟨(some 11), none, .load none (.tmp 10)⟩,
    ⟨(some 3), none, .mv (.tmp 9)⟩,
    ⟨(some 4), none, .mv (.tmp 11)⟩])
  (.seq (.ops [⟨(some 12), none, .mv (.tmp 4)⟩,
    ⟨(some 13), none, .call 124 [(.tmp 12)]⟩,
    ⟨(some 14), none, .not (.tmp 13)⟩,
    ⟨(some 15), none, .mv (.tmp 14)⟩,
    ⟨(some 16), some (15, false), .mv (.tmp 3)⟩,
    ⟨(some 17), some (15, false), .bin .gtr (.tmp 16) (.const (.int .i64 0))⟩,
    ⟨(some 18), some (15, false), .mv (.tmp 17)⟩,
    ⟨(some 19), some (18, true), .mv (.tmp 4)⟩,
    ⟨(some 20), some (18, true), .mv (.tmp 0)⟩,
    ⟨(some 21), some (18, true), .mv (.tmp 3)⟩,
    ⟨(some 22), some (18, true), .bin .sub (.tmp 21) (.const (.int .i64 1))⟩,
    ⟨(some 23), some (18, true), .ia 1 (.tmp 20) (.tmp 22)⟩,
    ⟨(some 24), some (18, true), .load none (.tmp 23)⟩,
    ⟨(some 25), some (18, true), .bin .leq (.tmp 19) (.tmp 24)⟩,
    ⟨(some 26), some (15, false), .pick (.tmp 18) (.tmp 25) (.const (.bool false))⟩,
    ⟨(some 27), none, .pick (.tmp 15) (.const (.bool true)) (.tmp 26)⟩])
  (.kept [0, 5, 6, 7, 27] (.cond (.tmp 27) (.seq (.ops [⟨(some 2), none, .mv (.const (.bool false))⟩])
  (.ret)) (.skip))))))
  (.kept [0, 5, 6, 7] (.ops [⟨(some 28), none, .bin .add (.tmp 7) (.const (.int .i64 1))⟩,
    ⟨(some 7), none, .mv (.tmp 28)⟩]))))
def c_impl_areRising : AS :=
  .seq (.ops [⟨(some 2), none, .mv (.const (.bool false))⟩])
  (.seq (.seq (.ops [⟨(some 5), none, .mv (.tmp 0)⟩,
    ⟨(some 6), none, .lens (.tmp 5)⟩,
    ⟨(some 7), none, .mv (.const (.int .i64 0))⟩])
  (.block 0 (.loop 1 [(0, 0), (5, 0), (6, 0), (7, 0)] c_impl_areRising_l1)))
  (.kept [] (.seq (.ops [⟨(some 2), none, .mv (.const (.bool true))⟩])
  (.ret))))
theorem h_impl_areRising : (Try.prog.funcs[n_impl_areRising]?).bind (fun fn => fn.body.bind (comp Try.prog fn.ntmps)) = some (AS.strip c_impl_areRising) := by kernel_rfl
theorem r_impl_areRising : (Try.prog.funcs[n_impl_areRising]?).map (fun fn => (fn.results.toList, fn.ntmps)) = some ([.tmp 2], 29) := by kernel_rfl
-- 123 loop.example/g00850/impl.GoodPlaces$1
abbrev n_impl_GoodPlaces_1 : Nat := 123
def c_impl_GoodPlaces_1 : AS :=
  .seq (.ops [⟨(some 2), none, .mv (.const (.bool false))⟩])
  (.seq (.ops [⟨(some 3), none, .mv (.tmp 0)⟩,
    ⟨(some 4), none, .call 92 [(.tmp 3)]⟩,
    ⟨(some 5), none, .not (.tmp 4)⟩,
    ⟨(some 2), none, .mv (.tmp 5)⟩])
  (.ret))
theorem h_impl_GoodPlaces_1 : (Try.prog.funcs[n_impl_GoodPlaces_1]?).bind (fun fn => fn.body.bind (comp Try.prog fn.ntmps)) = some (AS.strip c_impl_GoodPlaces_1) := by kernel_rfl
theorem r_impl_GoodPlaces_1 : (Try.prog.funcs[n_impl_GoodPlaces_1]?).map (fun fn => (fn.results.toList, fn.ntmps)) = some ([.tmp 2], 6) := by kernel_rfl
-- 124 loop.example/g00850/impl.GoodKey
abbrev n_impl_GoodKey : Nat := 124
def c_impl_GoodKey : AS :=
  .seq (.ops [⟨(some 2), none, .mv (.const (.bool false))⟩])
  (.seq (.ops [⟨(some 3), none, .mv (.tmp 0)⟩,
    ⟨(some 4), none, .lent (.tmp 3)⟩,
    ⟨(some 5), none, .call 52 [(.tmp 4), (.const (.int .i64 1)), (.const (.int .i64 12))]⟩,
    ⟨(some 6), none, .mv (.tmp 5)⟩,
    ⟨(some 7), some (6, true), .mv (.tmp 0)⟩,
    ⟨(some 8), some (6, true), .call 125 [(.tmp 7), (.const (.string ⟨⟨[46, 47]⟩⟩))]⟩,
    ⟨(some 9), none, .pick (.tmp 6) (.tmp 8) (.const (.bool false))⟩,
    ⟨(some 2), none, .mv (.tmp 9)⟩])
  (.ret))
theorem h_impl_GoodKey : (Try.prog.funcs[n_impl_GoodKey]?).bind (fun fn => fn.body.bind (comp Try.prog fn.ntmps)) = some (AS.strip c_impl_GoodKey) := by kernel_rfl
theorem r_impl_GoodKey : (Try.prog.funcs[n_impl_GoodKey]?).map (fun fn => (fn.results.toList, fn.ntmps)) = some ([.tmp 2], 10) := by kernel_rfl
-- 125 loop.example/g00850/impl.hasBytes
abbrev n_impl_hasBytes : Nat := 125
def c_impl_hasBytes_l1 : AS :=
  .seq (.ops [⟨(some 9), none, .bin .lss (.tmp 8) (.tmp 7)⟩])
  (.seq (.cond (.tmp 9) (.skip) (.exit 0))
  (.seq (.block 1 (.seq (.ops [⟨(some 10), none, .mv (.tmp 8)⟩,
    ⟨(some 5), none, .mv (.tmp 10)⟩])
  (.seq (.ops [⟨(some 11), none, .mv (.tmp 0)⟩,
    ⟨(some 12), none, .mv (.tmp 5)⟩,
    ⟨(some 13), none, .ix (.tmp 11) (.tmp 12)⟩,
    ⟨(some 14), none, .call 126 [(.tmp 13)]⟩,
    ⟨(some 15), none, .not (.tmp 14)⟩,
    ⟨(some 16), none, .mv (.tmp 15)⟩,
    ⟨(some 17), some (16, true), .mv (.tmp 1)⟩,
    ⟨(some 18), some (16, true), .mv (.tmp 0)⟩,
    ⟨(some 19), some (16, true), .mv (.tmp 5)⟩,
    ⟨(some 20), some (16, true), .ix (.tmp 18) (.tmp 19)⟩,
    ⟨(some 21), some (16, true), .call 127 [(.tmp 17), (.tmp 20)]⟩,
    ⟨(some 22), some (16, true), .bin .lss (.tmp 21) (.const (.int .i64 0))⟩,
    ⟨(some 23), none, .pick (.tmp 16) (.tmp 22) (.const (.bool false))⟩])
  (.kept [0, 1, 7, 8, 23] (.cond (.tmp 23) (.seq (.ops [⟨(some 4), none, .mv (.const (.bool false))⟩])
  (.ret)) (.skip))))))
  (.kept [0, 1, 7, 8] (.ops [⟨(some 24), none, .bin .add (.tmp 8) (.const (.int .i64 1))⟩,
    ⟨(some 8), none, .mv (.tmp 24)⟩]))))
def c_impl_hasBytes : AS :=
  .seq (.ops [⟨(some 4), none, .mv (.const (.bool false))⟩])
  (.seq (.seq (.ops [⟨(some 6), none, .mv (.tmp 0)⟩,
    ⟨(some 7), none, .lent (.tmp 6)⟩,
    ⟨(some 8), none, .mv (.const (.int .i64 0))⟩])
  (.block 0 (.loop 2 [(0, 0), (1, 0), (7, 0), (8, 0)] c_impl_hasBytes_l1)))
  (.kept [] (.seq (.ops [⟨(some 4), none, .mv (.const (.bool true))⟩])
  (.ret))))
theorem h_impl_hasBytes : (Try.prog.funcs[n_impl_hasBytes]?).bind (fun fn => fn.body.bind (comp Try.prog fn.ntmps)) = some (AS.strip c_impl_hasBytes) := by kernel_rfl
theorem r_impl_hasBytes : (Try.prog.funcs[n_impl_hasBytes]?).map (fun fn => (fn.results.toList, fn.ntmps)) = some ([.tmp 4], 25) := by kernel_rfl
-- 126 loop.example/g00850/impl.isLowerOrDigit
abbrev n_impl_isLowerOrDigit : Nat := 126
def c_impl_isLowerOrDigit : AS :=
  .seq (.ops [⟨(some 2), none, .mv (.const (.bool false))⟩])
  (.seq (.ops [⟨(some 3), none, .mv (.tmp 0)⟩,
    ⟨(some 4), none, .bin .geq (.tmp 3) (.const (.int .u8 97))⟩,
    ⟨(some 5), none, .mv (.tmp 4)⟩,
    ⟨(some 6), some (5, true), .mv (.tmp 0)⟩,
    ⟨(some 7), some (5, true), .bin .leq (.tmp 6) (.const (.int .u8 122))⟩,
    ⟨(some 8), none, .pick (.tmp 5) (.tmp 7) (.const (.bool false))⟩,
    ⟨(some 9), none, .mv (.tmp 8)⟩,
    ⟨(some 10), some (9, false), .mv (.tmp 0)⟩,
    ⟨(some 11), some (9, false), .bin .geq (.tmp 10) (.const (.int .u8 48))⟩,
    ⟨(some 12), some (9, false), .mv (.tmp 11)⟩,
    ⟨(some 13), some (12, true), .mv (.tmp 0)⟩,
    ⟨(some 14), some (12, true), .bin .leq (.tmp 13) (.const (.int .u8 57))⟩,
    ⟨(some 15), some (9, false), .pick (.tmp 12) (.tmp 14) (.const (.bool false))⟩,
    ⟨(some 16), none, .pick (.tmp 9) (.const (.bool true)) (.tmp 15)⟩,
    ⟨(some 2), none, .mv (.tmp 16)⟩])
  (.ret))
theorem h_impl_isLowerOrDigit : (Try.prog.funcs[n_impl_isLowerOrDigit]?).bind (fun fn => fn.body.bind (comp Try.prog fn.ntmps)) = some (AS.strip c_impl_isLowerOrDigit) := by kernel_rfl
theorem r_impl_isLowerOrDigit : (Try.prog.funcs[n_impl_isLowerOrDigit]?).map (fun fn => (fn.results.toList, fn.ntmps)) = some ([.tmp 2], 17) := by kernel_rfl
-- 127 strings.IndexByte
abbrev n_strings_IndexByte : Nat := 127
def c_strings_IndexByte : AS :=
  .seq (.ops [⟨(some 4), none, .mv (.const (.int .i64 0))⟩])
  (.seq (.ops [⟨(some 5), none, .mv (.tmp 0)⟩,
    ⟨(some 6), none, .mv (.tmp 1)⟩,
    ⟨(some 7), none, .call 128 [(.tmp 5), (.tmp 6)]⟩,
    ⟨(some 4), none, .mv (.tmp 7)⟩])
  (.ret))
theorem h_strings_IndexByte : (Try.prog.funcs[n_strings_IndexByte]?).bind (fun fn => fn.body.bind (comp Try.prog fn.ntmps)) = some (AS.strip c_strings_IndexByte) := by kernel_rfl
theorem r_strings_IndexByte : (Try.prog.funcs[n_strings_IndexByte]?).map (fun fn => (fn.results.toList, fn.ntmps)) = some ([.tmp 4], 8) := by kernel_rfl
-- 128 internal/stringslite.IndexByte
abbrev n_internal_stringslite_IndexByte : Nat := 128
def c_internal_stringslite_IndexByte : AS :=
  .seq (.ops [⟨(some 4), none, .mv (.const (.int .i64 0))⟩])
  (.seq (.ops [⟨(some 5), none, .mv (.tmp 0)⟩,
    ⟨(some 6), none, .mv (.tmp 1)⟩,
    ⟨(some 7), none, .xcall 129 [(.tmp 5), (.tmp 6)]⟩,
    ⟨(some 4), none, .mv (.tmp 7)⟩])
  (.ret))
theorem h_internal_stringslite_IndexByte : (Try.prog.funcs[n_internal_stringslite_IndexByte]?).bind (fun fn => fn.body.bind (comp Try.prog fn.ntmps)) = some (AS.strip c_internal_stringslite_IndexByte) := by kernel_rfl
theorem r_internal_stringslite_IndexByte : (Try.prog.funcs[n_internal_stringslite_IndexByte]?).map (fun fn => (fn.results.toList, fn.ntmps)) = some ([.tmp 4], 8) := by kernel_rfl
-- 129 internal/bytealg.IndexByteString
abbrev n_internal_bytealg_IndexByteString : Nat := 129
-- NOT COMPILED
theorem d_internal_bytealg_IndexByteString : Try.prog.funcs[n_internal_bytealg_IndexByteString]? = some Try.f129 := by kernel_rfl
@[go_sem] theorem w_7 : wide Try.prog 7 = some (some 4) := by kernel_rfl
@[go_sem] theorem w_8 : wide Try.prog 8 = some (some 4) := by kernel_rfl
@[go_sem] theorem w_13 : wide Try.prog 13 = some (some 2) := by kernel_rfl
@[go_sem] theorem w_14 : wide Try.prog 14 = some (some 2) := by kernel_rfl
@[go_sem] theorem w_18 : wide Try.prog 18 = some (some 1) := by kernel_rfl
@[go_sem] theorem w_19 : wide Try.prog 19 = some (some 1) := by kernel_rfl
@[go_sem] theorem w_40 : wide Try.prog 40 = some (some 1) := by kernel_rfl
@[go_sem] theorem w_41 : wide Try.prog 41 = some (some 1) := by kernel_rfl
@[go_sem] theorem w_44 : wide Try.prog 44 = some (some 2) := by kernel_rfl
@[go_sem] theorem w_45 : wide Try.prog 45 = some (some 2) := by kernel_rfl
@[go_sem] theorem w_59 : wide Try.prog 59 = some (some 3) := by kernel_rfl
@[go_sem] theorem w_60 : wide Try.prog 60 = some (some 3) := by kernel_rfl
@[go_sem] theorem w_62 : wide Try.prog 62 = some (some 3) := by kernel_rfl
@[go_sem] theorem w_75 : wide Try.prog 75 = some (some 3) := by kernel_rfl
@[go_sem] theorem w_76 : wide Try.prog 76 = some (some 3) := by kernel_rfl
@[go_sem] theorem w_112 : wide Try.prog 112 = some (some 3) := by kernel_rfl
@[go_sem] theorem w_113 : wide Try.prog 113 = some (some 3) := by kernel_rfl
@[go_sem] theorem w_121 : wide Try.prog 121 = some (some 4) := by kernel_rfl
@[go_sem] theorem w_122 : wide Try.prog 122 = some (some 4) := by kernel_rfl
@[go_sem] theorem w_133 : wide Try.prog 133 = some (some 11) := by kernel_rfl
@[go_sem] theorem w_134 : wide Try.prog 134 = some (some 11) := by kernel_rfl
end Go.Proofs.Wb

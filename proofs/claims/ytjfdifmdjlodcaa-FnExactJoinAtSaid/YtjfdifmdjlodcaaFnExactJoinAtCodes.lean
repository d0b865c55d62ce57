/- The compiled statements of the functions that the law reaches. -/
import Derived.Test.YtjfdifmdjlodcaaProg
import Derived.Test.YtjfdifmdjlodcaaAmAuto
import Derived.Test.YtjfdifmdjlodcaaAmSet
namespace Go.Proofs.Wb
open Go Go.Am
@[go_sem] theorem w_7 : wide Try.prog 7 = some (some 4) := by kernel_rfl
@[go_sem] theorem w_8 : wide Try.prog 8 = some (some 4) := by kernel_rfl
@[go_sem] theorem w_13 : wide Try.prog 13 = some (some 2) := by kernel_rfl
@[go_sem] theorem w_14 : wide Try.prog 14 = some (some 2) := by kernel_rfl
@[go_sem] theorem w_18 : wide Try.prog 18 = some (some 1) := by kernel_rfl
@[go_sem] theorem w_19 : wide Try.prog 19 = some (some 1) := by kernel_rfl
@[go_sem] theorem w_24 : wide Try.prog 24 = some (some 3) := by kernel_rfl
@[go_sem] theorem w_25 : wide Try.prog 25 = some (some 3) := by kernel_rfl
@[go_sem] theorem w_27 : wide Try.prog 27 = some (some 3) := by kernel_rfl
@[go_sem] theorem w_35 : wide Try.prog 35 = some (some 4) := by kernel_rfl
@[go_sem] theorem w_36 : wide Try.prog 36 = some (some 4) := by kernel_rfl
@[go_sem] theorem w_39 : wide Try.prog 39 = some (some 4) := by kernel_rfl
@[go_sem] theorem w_40 : wide Try.prog 40 = some (some 4) := by kernel_rfl
@[go_sem] theorem w_72 : wide Try.prog 72 = some (some 4) := by kernel_rfl
@[go_sem] theorem w_73 : wide Try.prog 73 = some (some 4) := by kernel_rfl
@[go_sem] theorem w_86 : wide Try.prog 86 = some (some 4) := by kernel_rfl
@[go_sem] theorem w_106 : wide Try.prog 106 = some (some 4) := by kernel_rfl
@[go_sem] theorem w_107 : wide Try.prog 107 = some (some 4) := by kernel_rfl
@[go_sem] theorem w_119 : wide Try.prog 119 = some (some 11) := by kernel_rfl
@[go_sem] theorem w_120 : wide Try.prog 120 = some (some 11) := by kernel_rfl
-- 3 loop.example/g00850/laws.FnExactJoinAt
abbrev n_laws_FnExactJoinAt : Nat := 3
def c_laws_FnExactJoinAt : AS :=
  .seq (.ops [⟨(some 2), none, .box (.tmp 0)⟩,
    ⟨(some 4), none, .mv (.const (.bool false))⟩])
  (.seq (.ops [⟨(some 5), none, .mv (.const (.int .i64 1048576))⟩])
  (.seq (.ops [⟨(some 16), none, .load (some 3) (.tmp 2)⟩,
    ⟨(some 17), none, .mv (.tmp 5)⟩,
    ⟨(some 18), none, .call 8 [(.tmp 16), (.tmp 17)]⟩,
    ⟨(some 5), none, .mv (.tmp 18)⟩])
  (.seq (.seq (.ops [⟨(some 19), none, .mv (.tmp 5)⟩,
    ⟨(some 20), none, .bin .lss (.tmp 19) (.const (.int .i64 0))⟩])
  (.cond (.tmp 20) (.seq (.ops [⟨(some 4), none, .mv (.const (.bool true))⟩])
  (.ret)) (.skip)))
  (.seq (.ops [⟨(some 22), none, .load (some 3) (.tmp 2)⟩,
    ⟨(some 23), none, .call 10 [(.tmp 22)]⟩,
    ⟨(some 24), none, .mv (.tmp 1)⟩,
    ⟨(some 25), none, .call 9 [(.tmp 23), (.tmp 24)]⟩,
    ⟨(some 21), none, .mv (.tmp 25)⟩,
    ⟨(some 26), none, .ext 0 (.tmp 21)⟩,
    ⟨(some 27), none, .ext 1 (.tmp 21)⟩,
    ⟨(some 6), none, .alloc (.agg #[.int .i64 0, .slice none 0 0, .slice none 0 0])⟩,
    ⟨none, none, .store 3 (.tmp 6) (.tmp 26)⟩,
    ⟨(some 7), none, .mv (.tmp 27)⟩])
  (.kept [1, 2, 6, 7] (.seq (.ops [⟨(some 28), none, .load (some 3) (.tmp 2)⟩,
    ⟨(some 29), none, .call 10 [(.tmp 28)]⟩,
    ⟨(some 8), none, .alloc (.agg #[.int .i64 0, .slice none 0 0, .slice none 0 0])⟩,
    ⟨none, none, .store 3 (.tmp 8) (.tmp 29)⟩])
  (.seq (.ops [⟨(some 31), none, .load (some 3) (.tmp 8)⟩,
    ⟨(some 32), none, .mv (.tmp 1)⟩,
    ⟨(some 33), none, .call 11 [(.tmp 31), (.tmp 32)]⟩,
    ⟨(some 30), none, .mv (.tmp 33)⟩,
    ⟨(some 34), none, .ext 0 (.tmp 30)⟩,
    ⟨(some 35), none, .ext 1 (.tmp 30)⟩,
    ⟨(some 9), none, .alloc (.agg #[.int .i64 0, .slice none 0 0, .slice none 0 0])⟩,
    ⟨none, none, .store 3 (.tmp 9) (.tmp 34)⟩,
    ⟨(some 10), none, .mv (.tmp 35)⟩])
  (.kept [1, 2, 6, 7, 8, 9, 10] (.seq (.seq (.ops [⟨(some 36), none, .load (some 3) (.tmp 9)⟩,
    ⟨(some 37), none, .load (some 3) (.tmp 6)⟩,
    ⟨(some 38), none, .call 12 [(.tmp 36), (.tmp 37)]⟩,
    ⟨(some 39), none, .not (.tmp 38)⟩,
    ⟨(some 40), none, .mv (.tmp 39)⟩,
    ⟨(some 41), some (40, false), .mv (.tmp 10)⟩,
    ⟨(some 42), some (40, false), .mv (.tmp 7)⟩,
    ⟨(some 43), some (40, false), .eqb true (.tmp 41) (.tmp 42)⟩,
    ⟨(some 44), none, .pick (.tmp 40) (.const (.bool true)) (.tmp 43)⟩])
  (.kept [1, 2, 6, 7, 8, 9, 10, 44] (.cond (.tmp 44) (.seq (.ops [⟨(some 4), none, .mv (.const (.bool false))⟩])
  (.ret)) (.skip))))
  (.kept [1, 2, 6, 7, 8, 9, 10] (.seq (.seq (.rops [(none, ⟨(some 45), none, .load (some 3) (.tmp 8)⟩),
    (none, ⟨(some 46), none, .load (some 3) (.tmp 2)⟩),
    (some [⟨(some 45), none, .load (some 3) (.tmp 8)⟩], ⟨(some 47), none, .call 10 [(.tmp 46)]⟩),
    (some [], ⟨(some 48), none, .call 12 [(.tmp 45), (.tmp 47)]⟩),
    (none, ⟨(some 49), none, .not (.tmp 48)⟩)])
  (.cond (.tmp 49) (.seq (.ops [⟨(some 4), none, .mv (.const (.bool false))⟩])
  (.ret)) (.skip)))
  (.kept [1, 2, 6, 7, 8, 9, 10] (.seq (.ops [⟨(some 11), none, .mv (.const (.int .i64 1))⟩])
  (.seq (.ops [⟨(some 50), none, .load (some 3) (.tmp 8)⟩,
    ⟨(some 51), none, .mv (.tmp 11)⟩,
    ⟨(some 52), none, .call 13 [(.tmp 50), (.tmp 51)]⟩,
    ⟨(some 11), none, .mv (.tmp 52)⟩])
  (.seq (.seq (.ops [⟨(some 53), none, .mv (.tmp 11)⟩,
    ⟨(some 54), none, .bin .lss (.tmp 53) (.const (.int .i64 0))⟩,
    ⟨(some 55), none, .mv (.tmp 54)⟩,
    ⟨(some 56), some (55, false), .load (some 3) (.tmp 9)⟩,
    ⟨(some 57), some (55, false), .load (some 3) (.tmp 6)⟩,
    ⟨(some 58), some (55, false), .call 12 [(.tmp 56), (.tmp 57)]⟩,
    ⟨(some 59), some (55, false), .not (.tmp 58)⟩,
    ⟨(some 60), none, .pick (.tmp 55) (.const (.bool true)) (.tmp 59)⟩,
    ⟨(some 61), none, .mv (.tmp 60)⟩,
    ⟨(some 62), some (61, false), .mv (.tmp 10)⟩,
    ⟨(some 63), some (61, false), .mv (.tmp 7)⟩,
    ⟨(some 64), some (61, false), .eqb true (.tmp 62) (.tmp 63)⟩,
    ⟨(some 65), none, .pick (.tmp 61) (.const (.bool true)) (.tmp 64)⟩])
  (.kept [1, 2, 6, 7, 9, 65] (.cond (.tmp 65) (.seq (.ops [⟨(some 4), none, .mv (.const (.bool false))⟩])
  (.ret)) (.skip))))
  (.kept [1, 2, 6, 7, 9] (.seq (.ops [⟨(some 12), none, .mv (.const (.int .i64 1))⟩])
  (.seq (.ops [⟨(some 66), none, .load (some 3) (.tmp 9)⟩,
    ⟨(some 67), none, .mv (.tmp 12)⟩,
    ⟨(some 68), none, .call 13 [(.tmp 66), (.tmp 67)]⟩,
    ⟨(some 12), none, .mv (.tmp 68)⟩])
  (.seq (.ops [⟨(some 13), none, .mv (.const (.int .i64 1))⟩])
  (.seq (.ops [⟨(some 69), none, .load (some 3) (.tmp 9)⟩,
    ⟨(some 70), none, .mv (.tmp 13)⟩,
    ⟨(some 71), none, .call 14 [(.tmp 69), (.tmp 70)]⟩,
    ⟨(some 13), none, .mv (.tmp 71)⟩])
  (.seq (.seq (.ops [⟨(some 72), none, .mv (.tmp 13)⟩,
    ⟨(some 73), none, .bin .lss (.tmp 72) (.const (.int .i64 0))⟩])
  (.cond (.tmp 73) (.seq (.ops [⟨(some 4), none, .mv (.const (.bool false))⟩])
  (.ret)) (.skip)))
  (.seq (.seq (.ops [⟨(some 74), none, .mv (.tmp 13)⟩,
    ⟨(some 75), none, .mv (.tmp 12)⟩,
    ⟨(some 76), none, .bin .neq (.tmp 74) (.tmp 75)⟩])
  (.cond (.tmp 76) (.seq (.ops [⟨(some 4), none, .mv (.const (.bool false))⟩])
  (.ret)) (.skip)))
  (.seq (.ops [⟨(some 78), none, .load (some 3) (.tmp 2)⟩,
    ⟨(some 79), none, .call 10 [(.tmp 78)]⟩,
    ⟨(some 80), none, .mv (.tmp 1)⟩,
    ⟨(some 81), none, .call 11 [(.tmp 79), (.tmp 80)]⟩,
    ⟨(some 77), none, .mv (.tmp 81)⟩,
    ⟨(some 82), none, .ext 0 (.tmp 77)⟩,
    ⟨(some 83), none, .ext 1 (.tmp 77)⟩,
    ⟨(some 14), none, .alloc (.agg #[.int .i64 0, .slice none 0 0, .slice none 0 0])⟩,
    ⟨none, none, .store 3 (.tmp 14) (.tmp 82)⟩,
    ⟨(some 15), none, .mv (.tmp 83)⟩])
  (.kept [6, 7, 9, 12, 14, 15] (.seq (.seq (.ops [⟨(some 84), none, .load (some 3) (.tmp 14)⟩,
    ⟨(some 85), none, .load (some 3) (.tmp 6)⟩,
    ⟨(some 86), none, .call 12 [(.tmp 84), (.tmp 85)]⟩,
    ⟨(some 87), none, .not (.tmp 86)⟩,
    ⟨(some 88), none, .mv (.tmp 87)⟩,
    ⟨(some 89), some (88, false), .mv (.tmp 15)⟩,
    ⟨(some 90), some (88, false), .mv (.tmp 7)⟩,
    ⟨(some 91), some (88, false), .eqb true (.tmp 89) (.tmp 90)⟩,
    ⟨(some 92), none, .pick (.tmp 88) (.const (.bool true)) (.tmp 91)⟩])
  (.kept [9, 12, 92] (.cond (.tmp 92) (.seq (.ops [⟨(some 4), none, .mv (.const (.bool false))⟩])
  (.ret)) (.skip))))
  (.kept [9, 12] (.seq (.ops [⟨(some 13), none, .mv (.const (.int .i64 1))⟩])
  (.seq (.ops [⟨(some 93), none, .load (some 3) (.tmp 9)⟩,
    ⟨(some 94), none, .mv (.tmp 13)⟩,
    ⟨(some 95), none, .call 14 [(.tmp 93), (.tmp 94)]⟩,
    ⟨(some 13), none, .mv (.tmp 95)⟩])
  (.seq (.seq (.ops [⟨(some 96), none, .mv (.tmp 13)⟩,
    ⟨(some 97), none, .bin .lss (.tmp 96) (.const (.int .i64 0))⟩])
  (.cond (.tmp 97) (.seq (.ops [⟨(some 4), none, .mv (.const (.bool false))⟩])
  (.ret)) (.skip)))
  (.seq (.seq (.ops [⟨(some 98), none, .mv (.tmp 13)⟩,
    ⟨(some 99), none, .mv (.tmp 12)⟩,
    ⟨(some 100), none, .bin .neq (.tmp 98) (.tmp 99)⟩])
  (.cond (.tmp 100) (.seq (.ops [⟨(some 4), none, .mv (.const (.bool false))⟩])
  (.ret)) (.skip)))
  (.seq (.ops [⟨(some 4), none, .mv (.const (.bool true))⟩])
  (.ret))))))))))))))))))))))))))))))))
theorem h_laws_FnExactJoinAt : (Try.prog.funcs[n_laws_FnExactJoinAt]?).bind (fun fn => fn.body.bind (comp Try.prog fn.ntmps)) = some (AS.strip c_laws_FnExactJoinAt) := by kernel_rfl
theorem r_laws_FnExactJoinAt : (Try.prog.funcs[n_laws_FnExactJoinAt]?).map (fun fn => (fn.results.toList, fn.ntmps)) = some ([.tmp 4], 101) := by kernel_rfl
-- 8 loop.example/g00850/laws.szPlaces
abbrev n_laws_szPlaces : Nat := 8
def c_laws_szPlaces : AS :=
  .seq (.ops [⟨(some 2), none, .box (.tmp 0)⟩,
    ⟨(some 4), none, .mv (.const (.int .i64 0))⟩])
  (.seq (.ops [⟨(some 5), none, .fa 1 (.tmp 2)⟩,
    ⟨(some 6), none, .load none (.tmp 5)⟩,
    ⟨(some 7), none, .mv (.tmp 1)⟩,
    ⟨(some 8), none, .call 28 [(.tmp 6), (.tmp 7)]⟩,
    ⟨(some 1), none, .mv (.tmp 8)⟩])
  (.seq (.seq (.ops [⟨(some 9), none, .mv (.tmp 1)⟩,
    ⟨(some 10), none, .bin .lss (.tmp 9) (.const (.int .i64 0))⟩])
  (.cond (.tmp 10) (.seq (.ops [⟨(some 4), none, .mv (.const (.int .i64 (-1)))⟩])
  (.ret)) (.skip)))
  (.seq (.ops [⟨(some 11), none, .fa 2 (.tmp 2)⟩,
    ⟨(some 12), none, .load none (.tmp 11)⟩,
    ⟨(some 13), none, .mv (.tmp 1)⟩,
    ⟨(some 14), none, .call 29 [(.tmp 12), (.tmp 13)]⟩,
    ⟨(some 1), none, .mv (.tmp 14)⟩])
  (.seq (.seq (.ops [⟨(some 15), none, .mv (.tmp 1)⟩,
    ⟨(some 16), none, .bin .lss (.tmp 15) (.const (.int .i64 0))⟩])
  (.cond (.tmp 16) (.seq (.ops [⟨(some 4), none, .mv (.const (.int .i64 (-1)))⟩])
  (.ret)) (.skip)))
  (.seq (.ops [⟨(some 17), none, .mv (.tmp 1)⟩,
    ⟨(some 4), none, .mv (.tmp 17)⟩])
  (.ret))))))
theorem h_laws_szPlaces : (Try.prog.funcs[n_laws_szPlaces]?).bind (fun fn => fn.body.bind (comp Try.prog fn.ntmps)) = some (AS.strip c_laws_szPlaces) := by kernel_rfl
theorem r_laws_szPlaces : (Try.prog.funcs[n_laws_szPlaces]?).map (fun fn => (fn.results.toList, fn.ntmps)) = some ([.tmp 4], 18) := by kernel_rfl
-- 9 loop.example/g00850/spec.JoinAt
abbrev n_spec_JoinAt : Nat := 9
def c_spec_JoinAt : AS :=
  .seq (.ops [⟨(some 2), none, .box (.tmp 0)⟩,
    ⟨(some 4), none, .alloc (.agg #[.int .i64 0, .slice none 0 0, .slice none 0 0])⟩,
    ⟨(some 5), none, .mv (.const (.bool false))⟩])
  (.seq (.seq (.rops [(none, ⟨(some 7), none, .load (some 3) (.tmp 2)⟩),
    (some [], ⟨(some 8), none, .call 30 [(.tmp 7)]⟩),
    (none, ⟨(some 9), none, .not (.tmp 8)⟩),
    (none, ⟨(some 10), none, .mv (.tmp 9)⟩),
    (none, ⟨(some 11), some (10, false), .mv (.tmp 1)⟩),
    (none, ⟨(some 12), some (10, false), .fa 1 (.tmp 2)⟩),
    (none, ⟨(some 13), some (10, false), .load none (.tmp 12)⟩),
    (none, ⟨(some 14), some (10, false), .lens (.tmp 13)⟩),
    (none, ⟨(some 15), some (10, false), .bin .sub (.tmp 14) (.const (.int .i64 1))⟩),
    (some [], ⟨(some 16), some (10, false), .call 31 [(.tmp 11), (.const (.int .i64 0)), (.tmp 15)]⟩),
    (none, ⟨(some 17), some (10, false), .not (.tmp 16)⟩),
    (none, ⟨(some 18), none, .pick (.tmp 10) (.const (.bool true)) (.tmp 17)⟩),
    (none, ⟨(some 19), none, .mv (.tmp 18)⟩),
    (none, ⟨(some 20), some (19, false), .fa 2 (.tmp 2)⟩),
    (none, ⟨(some 21), some (19, false), .load none (.tmp 20)⟩),
    (none, ⟨(some 22), some (19, false), .mv (.tmp 1)⟩),
    (none, ⟨(some 23), some (19, false), .ia 1 (.tmp 21) (.tmp 22)⟩),
    (none, ⟨(some 24), some (19, false), .load none (.tmp 23)⟩),
    (none, ⟨(some 25), some (19, false), .fa 2 (.tmp 2)⟩),
    (none, ⟨(some 26), some (19, false), .load none (.tmp 25)⟩),
    (none, ⟨(some 27), some (19, false), .mv (.tmp 1)⟩),
    (none, ⟨(some 28), some (19, false), .bin .add (.tmp 27) (.const (.int .i64 1))⟩),
    (none, ⟨(some 29), some (19, false), .ia 1 (.tmp 26) (.tmp 28)⟩),
    (none, ⟨(some 30), some (19, false), .load none (.tmp 29)⟩),
    (none, ⟨(some 31), some (19, false), .bin .neq (.tmp 24) (.tmp 30)⟩),
    (none, ⟨(some 32), none, .pick (.tmp 19) (.const (.bool true)) (.tmp 31)⟩)])
  (.kept [1, 2, 4, 32] (.cond (.tmp 32) (.seq (.ops [⟨(some 33), none, .build (.agg #[.int .i64 0, .slice none 0 0, .slice none 0 0]) []⟩,
    ⟨none, none, .store 3 (.tmp 4) (.tmp 33)⟩,
    ⟨(some 5), none, .mv (.const (.bool false))⟩])
  (.ret)) (.skip))))
  (.kept [1, 2, 4] (.seq (.ops [⟨(some 34), none, .fa 0 (.tmp 2)⟩,
    ⟨(some 35), none, .load none (.tmp 34)⟩,
    ⟨(some 36), none, .build (.agg #[.int .i64 0, .slice none 0 0, .slice none 0 0]) [(0, 1, (.tmp 35))]⟩,
    ⟨(some 6), none, .alloc (.agg #[.int .i64 0, .slice none 0 0, .slice none 0 0])⟩,
    ⟨none, none, .store 3 (.tmp 6) (.tmp 36)⟩])
  (.seq (.rops [(none, ⟨(some 38), none, .fa 1 (.tmp 2)⟩),
    (none, ⟨(some 39), none, .load none (.tmp 38)⟩),
    (none, ⟨(some 40), none, .mv (.tmp 1)⟩),
    (none, ⟨(some 41), none, .sls 1 (.tmp 39) none (some (.tmp 40)) none⟩),
    (none, ⟨(some 43), none, .fa 1 (.tmp 2)⟩),
    (none, ⟨(some 44), none, .load none (.tmp 43)⟩),
    (none, ⟨(some 45), none, .mv (.tmp 1)⟩),
    (none, ⟨(some 46), none, .bin .add (.tmp 45) (.const (.int .i64 1))⟩),
    (none, ⟨(some 47), none, .sls 1 (.tmp 44) (some (.tmp 46)) none none⟩),
    (some [⟨(some 47), none, .sls 1 (.tmp 44) (some (.tmp 46)) none none⟩, ⟨(some 46), none, .bin .add (.tmp 45) (.const (.int .i64 1))⟩, ⟨(some 45), none, .mv (.tmp 1)⟩, ⟨(some 44), none, .load none (.tmp 43)⟩, ⟨(some 43), none, .fa 1 (.tmp 2)⟩, ⟨(some 41), none, .sls 1 (.tmp 39) none (some (.tmp 40)) none⟩, ⟨(some 40), none, .mv (.tmp 1)⟩, ⟨(some 39), none, .load none (.tmp 38)⟩, ⟨(some 38), none, .fa 1 (.tmp 2)⟩], ⟨(some 37), none, .bsl 1 (.string ⟨⟨[]⟩⟩) 0 []⟩),
    (some [⟨(some 47), none, .sls 1 (.tmp 44) (some (.tmp 46)) none none⟩, ⟨(some 46), none, .bin .add (.tmp 45) (.const (.int .i64 1))⟩, ⟨(some 45), none, .mv (.tmp 1)⟩, ⟨(some 44), none, .load none (.tmp 43)⟩, ⟨(some 43), none, .fa 1 (.tmp 2)⟩], ⟨(some 42), none, .app 1 16 (.string ⟨⟨[]⟩⟩) (.tmp 37) (.tmp 41)⟩),
    (some [], ⟨(some 48), none, .app 1 16 (.string ⟨⟨[]⟩⟩) (.tmp 42) (.tmp 47)⟩),
    (none, ⟨(some 49), none, .fa 1 (.tmp 6)⟩),
    (some [], ⟨none, none, .store 1 (.tmp 49) (.tmp 48)⟩)])
  (.kept [1, 2, 4, 6] (.seq (.rops [(none, ⟨(some 50), none, .fa 2 (.tmp 2)⟩),
    (none, ⟨(some 51), none, .load none (.tmp 50)⟩),
    (none, ⟨(some 52), none, .mv (.tmp 1)⟩),
    (none, ⟨(some 53), none, .sls 1 (.tmp 51) none (some (.tmp 52)) none⟩),
    (none, ⟨(some 55), none, .fa 2 (.tmp 2)⟩),
    (none, ⟨(some 56), none, .load none (.tmp 55)⟩),
    (none, ⟨(some 57), none, .mv (.tmp 1)⟩),
    (none, ⟨(some 58), none, .bin .add (.tmp 57) (.const (.int .i64 1))⟩),
    (none, ⟨(some 59), none, .sls 1 (.tmp 56) (some (.tmp 58)) none none⟩),
    (some [⟨(some 59), none, .sls 1 (.tmp 56) (some (.tmp 58)) none none⟩, ⟨(some 58), none, .bin .add (.tmp 57) (.const (.int .i64 1))⟩, ⟨(some 57), none, .mv (.tmp 1)⟩, ⟨(some 56), none, .load none (.tmp 55)⟩, ⟨(some 55), none, .fa 2 (.tmp 2)⟩], ⟨(some 54), none, .call 32 [(.tmp 53)]⟩),
    (some [], ⟨(some 60), none, .app 1 8 (.int .i64 0) (.tmp 54) (.tmp 59)⟩),
    (none, ⟨(some 61), none, .fa 2 (.tmp 6)⟩),
    (some [], ⟨none, none, .store 1 (.tmp 61) (.tmp 60)⟩)])
  (.kept [4, 6] (.seq (.ops [⟨(some 62), none, .load (some 3) (.tmp 6)⟩,
    ⟨(some 63), none, .call 33 [(.tmp 62)]⟩,
    ⟨(some 64), none, .ext 0 (.tmp 63)⟩,
    ⟨(some 65), none, .ext 1 (.tmp 63)⟩,
    ⟨none, none, .store 3 (.tmp 4) (.tmp 64)⟩,
    ⟨(some 5), none, .mv (.tmp 65)⟩])
  (.ret)))))))))
theorem h_spec_JoinAt : (Try.prog.funcs[n_spec_JoinAt]?).bind (fun fn => fn.body.bind (comp Try.prog fn.ntmps)) = some (AS.strip c_spec_JoinAt) := by kernel_rfl
theorem r_spec_JoinAt : (Try.prog.funcs[n_spec_JoinAt]?).map (fun fn => (fn.results.toList, fn.ntmps)) = some ([.cell 4 27, .tmp 5], 66) := by kernel_rfl
-- 10 loop.example/g00850/laws.toPlaces
abbrev n_laws_toPlaces : Nat := 10
def c_laws_toPlaces : AS :=
  .seq (.ops [⟨(some 1), none, .box (.tmp 0)⟩,
    ⟨(some 2), none, .alloc (.agg #[.int .i64 0, .slice none 0 0, .slice none 0 0])⟩])
  (.seq (.ops [⟨(some 3), none, .alloc (.agg #[.int .i64 0, .slice none 0 0, .slice none 0 0])⟩])
  (.seq (.ops [⟨(some 4), none, .fa 0 (.tmp 1)⟩,
    ⟨(some 5), none, .load none (.tmp 4)⟩,
    ⟨(some 6), none, .fa 0 (.tmp 3)⟩,
    ⟨none, none, .store 1 (.tmp 6) (.tmp 5)⟩])
  (.seq (.ops [⟨(some 7), none, .fa 1 (.tmp 1)⟩,
    ⟨(some 8), none, .load none (.tmp 7)⟩,
    ⟨(some 9), none, .call 34 [(.tmp 8)]⟩,
    ⟨(some 10), none, .fa 1 (.tmp 3)⟩,
    ⟨none, none, .store 1 (.tmp 10) (.tmp 9)⟩])
  (.seq (.ops [⟨(some 11), none, .fa 2 (.tmp 1)⟩,
    ⟨(some 12), none, .load none (.tmp 11)⟩,
    ⟨(some 13), none, .call 35 [(.tmp 12)]⟩,
    ⟨(some 14), none, .fa 2 (.tmp 3)⟩,
    ⟨none, none, .store 1 (.tmp 14) (.tmp 13)⟩])
  (.seq (.ops [⟨(some 15), none, .load (some 3) (.tmp 3)⟩,
    ⟨none, none, .store 3 (.tmp 2) (.tmp 15)⟩])
  (.ret))))))
theorem h_laws_toPlaces : (Try.prog.funcs[n_laws_toPlaces]?).bind (fun fn => fn.body.bind (comp Try.prog fn.ntmps)) = some (AS.strip c_laws_toPlaces) := by kernel_rfl
theorem r_laws_toPlaces : (Try.prog.funcs[n_laws_toPlaces]?).map (fun fn => (fn.results.toList, fn.ntmps)) = some ([.cell 2 27], 16) := by kernel_rfl
-- 11 loop.example/g00850/impl.JoinAt
abbrev n_impl_JoinAt : Nat := 11
def c_impl_JoinAt : AS :=
  .seq (.ops [⟨(some 2), none, .box (.tmp 0)⟩,
    ⟨(some 4), none, .alloc (.agg #[.int .i64 0, .slice none 0 0, .slice none 0 0])⟩,
    ⟨(some 5), none, .mv (.const (.bool false))⟩])
  (.seq (.seq (.rops [(none, ⟨(some 7), none, .load (some 3) (.tmp 2)⟩),
    (none, ⟨(some 8), none, .mv (.tmp 1)⟩),
    (some [], ⟨(some 9), none, .call 36 [(.tmp 7), (.tmp 8)]⟩),
    (none, ⟨(some 10), none, .not (.tmp 9)⟩),
    (none, ⟨(some 11), none, .mv (.tmp 10)⟩),
    (none, ⟨(some 12), some (11, false), .load (some 3) (.tmp 2)⟩),
    (none, ⟨(some 13), some (11, false), .mv (.tmp 1)⟩),
    (none, ⟨(some 14), some (11, false), .bin .add (.tmp 13) (.const (.int .i64 1))⟩),
    (some [], ⟨(some 15), some (11, false), .call 36 [(.tmp 12), (.tmp 14)]⟩),
    (none, ⟨(some 16), some (11, false), .not (.tmp 15)⟩),
    (none, ⟨(some 17), none, .pick (.tmp 11) (.const (.bool true)) (.tmp 16)⟩),
    (none, ⟨(some 18), none, .mv (.tmp 17)⟩),
    (none, ⟨(some 19), some (18, false), .fa 2 (.tmp 2)⟩),
    (none, ⟨(some 20), some (18, false), .load none (.tmp 19)⟩),
    (none, ⟨(some 21), some (18, false), .mv (.tmp 1)⟩),
    (none, ⟨(some 22), some (18, false), .ia 1 (.tmp 20) (.tmp 21)⟩),
    (none, ⟨(some 23), some (18, false), .load none (.tmp 22)⟩),
    (none, ⟨(some 24), some (18, false), .fa 2 (.tmp 2)⟩),
    (none, ⟨(some 25), some (18, false), .load none (.tmp 24)⟩),
    (none, ⟨(some 26), some (18, false), .mv (.tmp 1)⟩),
    (none, ⟨(some 27), some (18, false), .bin .add (.tmp 26) (.const (.int .i64 1))⟩),
    (none, ⟨(some 28), some (18, false), .ia 1 (.tmp 25) (.tmp 27)⟩),
    (none, ⟨(some 29), some (18, false), .load none (.tmp 28)⟩),
    (none, ⟨(some 30), some (18, false), .bin .neq (.tmp 23) (.tmp 29)⟩),
    (none, ⟨(some 31), none, .pick (.tmp 18) (.const (.bool true)) (.tmp 30)⟩)])
  (.kept [1, 2, 4, 31] (.cond (.tmp 31) (.seq (.ops [⟨(some 32), none, .build (.agg #[.int .i64 0, .slice none 0 0, .slice none 0 0]) []⟩,
    ⟨none, none, .store 3 (.tmp 4) (.tmp 32)⟩,
    ⟨(some 5), none, .mv (.const (.bool false))⟩])
  (.ret)) (.skip))))
  (.kept [1, 2, 4] (.seq (.ops [⟨(some 33), none, .load (some 3) (.tmp 2)⟩,
    ⟨(some 34), none, .call 37 [(.tmp 33)]⟩,
    ⟨(some 6), none, .alloc (.agg #[.int .i64 0, .slice none 0 0, .slice none 0 0])⟩,
    ⟨none, none, .store 3 (.tmp 6) (.tmp 34)⟩])
  (.seq (.ops [⟨(some 35), none, .fa 1 (.tmp 6)⟩,
    ⟨(some 36), none, .load none (.tmp 35)⟩,
    ⟨(some 37), none, .mv (.tmp 1)⟩,
    ⟨(some 38), none, .mv (.tmp 1)⟩,
    ⟨(some 39), none, .bin .add (.tmp 38) (.const (.int .i64 1))⟩,
    ⟨(some 40), none, .call 38 [(.tmp 36), (.tmp 37), (.tmp 39)]⟩,
    ⟨(some 41), none, .fa 1 (.tmp 6)⟩,
    ⟨none, none, .store 1 (.tmp 41) (.tmp 40)⟩])
  (.kept [1, 4, 6] (.seq (.ops [⟨(some 42), none, .fa 2 (.tmp 6)⟩,
    ⟨(some 43), none, .load none (.tmp 42)⟩,
    ⟨(some 44), none, .mv (.tmp 1)⟩,
    ⟨(some 45), none, .mv (.tmp 1)⟩,
    ⟨(some 46), none, .bin .add (.tmp 45) (.const (.int .i64 1))⟩,
    ⟨(some 47), none, .call 39 [(.tmp 43), (.tmp 44), (.tmp 46)]⟩,
    ⟨(some 48), none, .fa 2 (.tmp 6)⟩,
    ⟨none, none, .store 1 (.tmp 48) (.tmp 47)⟩])
  (.kept [4, 6] (.seq (.ops [⟨(some 49), none, .load (some 3) (.tmp 6)⟩,
    ⟨(some 50), none, .call 40 [(.tmp 49)]⟩,
    ⟨(some 51), none, .ext 0 (.tmp 50)⟩,
    ⟨(some 52), none, .ext 1 (.tmp 50)⟩,
    ⟨none, none, .store 3 (.tmp 4) (.tmp 51)⟩,
    ⟨(some 5), none, .mv (.tmp 52)⟩])
  (.ret)))))))))
theorem h_impl_JoinAt : (Try.prog.funcs[n_impl_JoinAt]?).bind (fun fn => fn.body.bind (comp Try.prog fn.ntmps)) = some (AS.strip c_impl_JoinAt) := by kernel_rfl
theorem r_impl_JoinAt : (Try.prog.funcs[n_impl_JoinAt]?).map (fun fn => (fn.results.toList, fn.ntmps)) = some ([.cell 4 27, .tmp 5], 53) := by kernel_rfl
-- 12 loop.example/g00850/laws.eqPlaces
abbrev n_laws_eqPlaces : Nat := 12
def c_laws_eqPlaces : AS :=
  .seq (.ops [⟨(some 2), none, .box (.tmp 0)⟩,
    ⟨(some 3), none, .box (.tmp 1)⟩,
    ⟨(some 4), none, .mv (.const (.bool false))⟩])
  (.seq (.seq (.ops [⟨(some 5), none, .fa 0 (.tmp 2)⟩,
    ⟨(some 6), none, .load none (.tmp 5)⟩,
    ⟨(some 7), none, .fa 0 (.tmp 3)⟩,
    ⟨(some 8), none, .load none (.tmp 7)⟩,
    ⟨(some 9), none, .bin .neq (.tmp 6) (.tmp 8)⟩])
  (.cond (.tmp 9) (.seq (.ops [⟨(some 4), none, .mv (.const (.bool false))⟩])
  (.ret)) (.skip)))
  (.kept [2, 3] (.seq (.seq (.ops [⟨(some 10), none, .fa 1 (.tmp 2)⟩,
    ⟨(some 11), none, .load none (.tmp 10)⟩,
    ⟨(some 12), none, .fa 1 (.tmp 3)⟩,
    ⟨(some 13), none, .load none (.tmp 12)⟩,
    ⟨(some 14), none, .call 41 [(.tmp 11), (.tmp 13)]⟩,
    ⟨(some 15), none, .not (.tmp 14)⟩])
  (.cond (.tmp 15) (.seq (.ops [⟨(some 4), none, .mv (.const (.bool false))⟩])
  (.ret)) (.skip)))
  (.kept [2, 3] (.seq (.seq (.ops [⟨(some 16), none, .fa 2 (.tmp 2)⟩,
    ⟨(some 17), none, .load none (.tmp 16)⟩,
    ⟨(some 18), none, .fa 2 (.tmp 3)⟩,
    ⟨(some 19), none, .load none (.tmp 18)⟩,
    ⟨(some 20), none, .call 42 [(.tmp 17), (.tmp 19)]⟩,
    ⟨(some 21), none, .not (.tmp 20)⟩])
  (.cond (.tmp 21) (.seq (.ops [⟨(some 4), none, .mv (.const (.bool false))⟩])
  (.ret)) (.skip)))
  (.kept [] (.seq (.ops [⟨(some 4), none, .mv (.const (.bool true))⟩])
  (.ret))))))))
theorem h_laws_eqPlaces : (Try.prog.funcs[n_laws_eqPlaces]?).bind (fun fn => fn.body.bind (comp Try.prog fn.ntmps)) = some (AS.strip c_laws_eqPlaces) := by kernel_rfl
theorem r_laws_eqPlaces : (Try.prog.funcs[n_laws_eqPlaces]?).map (fun fn => (fn.results.toList, fn.ntmps)) = some ([.tmp 4], 22) := by kernel_rfl
-- 13 loop.example/g00850/laws.markPlaces
abbrev n_laws_markPlaces : Nat := 13
def c_laws_markPlaces : AS :=
  .seq (.ops [⟨(some 2), none, .box (.tmp 0)⟩,
    ⟨(some 4), none, .mv (.const (.int .i64 0))⟩])
  (.seq (.ops [⟨(some 5), none, .fa 1 (.tmp 2)⟩,
    ⟨(some 6), none, .load none (.tmp 5)⟩,
    ⟨(some 7), none, .mv (.tmp 1)⟩,
    ⟨(some 8), none, .call 43 [(.tmp 6), (.tmp 7)]⟩,
    ⟨(some 1), none, .mv (.tmp 8)⟩])
  (.seq (.ops [⟨(some 9), none, .fa 2 (.tmp 2)⟩,
    ⟨(some 10), none, .load none (.tmp 9)⟩,
    ⟨(some 11), none, .mv (.tmp 1)⟩,
    ⟨(some 12), none, .call 44 [(.tmp 10), (.tmp 11)]⟩,
    ⟨(some 1), none, .mv (.tmp 12)⟩])
  (.seq (.ops [⟨(some 13), none, .mv (.tmp 1)⟩,
    ⟨(some 4), none, .mv (.tmp 13)⟩])
  (.ret))))
theorem h_laws_markPlaces : (Try.prog.funcs[n_laws_markPlaces]?).bind (fun fn => fn.body.bind (comp Try.prog fn.ntmps)) = some (AS.strip c_laws_markPlaces) := by kernel_rfl
theorem r_laws_markPlaces : (Try.prog.funcs[n_laws_markPlaces]?).map (fun fn => (fn.results.toList, fn.ntmps)) = some ([.tmp 4], 14) := by kernel_rfl
-- 14 loop.example/g00850/laws.heldPlaces
abbrev n_laws_heldPlaces : Nat := 14
def c_laws_heldPlaces : AS :=
  .seq (.ops [⟨(some 2), none, .box (.tmp 0)⟩,
    ⟨(some 4), none, .mv (.const (.int .i64 0))⟩])
  (.seq (.ops [⟨(some 5), none, .fa 1 (.tmp 2)⟩,
    ⟨(some 6), none, .load none (.tmp 5)⟩,
    ⟨(some 7), none, .mv (.tmp 1)⟩,
    ⟨(some 8), none, .call 45 [(.tmp 6), (.tmp 7)]⟩,
    ⟨(some 1), none, .mv (.tmp 8)⟩])
  (.seq (.seq (.ops [⟨(some 9), none, .mv (.tmp 1)⟩,
    ⟨(some 10), none, .bin .lss (.tmp 9) (.const (.int .i64 0))⟩])
  (.cond (.tmp 10) (.seq (.ops [⟨(some 4), none, .mv (.const (.int .i64 (-1)))⟩])
  (.ret)) (.skip)))
  (.seq (.ops [⟨(some 11), none, .fa 2 (.tmp 2)⟩,
    ⟨(some 12), none, .load none (.tmp 11)⟩,
    ⟨(some 13), none, .mv (.tmp 1)⟩,
    ⟨(some 14), none, .call 46 [(.tmp 12), (.tmp 13)]⟩,
    ⟨(some 1), none, .mv (.tmp 14)⟩])
  (.seq (.seq (.ops [⟨(some 15), none, .mv (.tmp 1)⟩,
    ⟨(some 16), none, .bin .lss (.tmp 15) (.const (.int .i64 0))⟩])
  (.cond (.tmp 16) (.seq (.ops [⟨(some 4), none, .mv (.const (.int .i64 (-1)))⟩])
  (.ret)) (.skip)))
  (.seq (.ops [⟨(some 17), none, .mv (.tmp 1)⟩,
    ⟨(some 4), none, .mv (.tmp 17)⟩])
  (.ret))))))
theorem h_laws_heldPlaces : (Try.prog.funcs[n_laws_heldPlaces]?).bind (fun fn => fn.body.bind (comp Try.prog fn.ntmps)) = some (AS.strip c_laws_heldPlaces) := by kernel_rfl
theorem r_laws_heldPlaces : (Try.prog.funcs[n_laws_heldPlaces]?).map (fun fn => (fn.results.toList, fn.ntmps)) = some ([.tmp 4], 18) := by kernel_rfl
-- 28 loop.example/g00850/laws.szStringS
abbrev n_laws_szStringS : Nat := 28
def c_laws_szStringS_l1 : AS :=
  .seq (.seq (.ops [⟨(some 12), none, .mv (.tmp 5)⟩,
    ⟨(some 13), none, .mv (.tmp 0)⟩,
    ⟨(some 14), none, .lens (.tmp 13)⟩,
    ⟨(some 15), none, .bin .lss (.tmp 12) (.tmp 14)⟩])
  (.cond (.tmp 15) (.skip) (.exit 0)))
  (.seq (.block 1 (.seq (.ops [⟨(some 18), none, .mv (.tmp 1)⟩,
    ⟨(some 19), none, .mv (.tmp 0)⟩,
    ⟨(some 20), none, .mv (.tmp 5)⟩,
    ⟨(some 21), none, .ia 1 (.tmp 19) (.tmp 20)⟩,
    ⟨(some 22), none, .load none (.tmp 21)⟩,
    ⟨(some 23), none, .lent (.tmp 22)⟩,
    ⟨(some 24), none, .bin .sub (.tmp 18) (.tmp 23)⟩,
    ⟨(some 1), none, .mv (.tmp 24)⟩])
  (.kept [0, 1, 5] (.seq (.ops [⟨(some 25), none, .mv (.tmp 1)⟩,
    ⟨(some 26), none, .bin .lss (.tmp 25) (.const (.int .i64 0))⟩])
  (.cond (.tmp 26) (.seq (.ops [⟨(some 4), none, .mv (.const (.int .i64 (-1)))⟩])
  (.ret)) (.skip))))))
  (.kept [0, 1, 5] (.ops [⟨(some 16), none, .mv (.tmp 5)⟩,
    ⟨(some 17), none, .bin .add (.tmp 16) (.const (.int .i64 1))⟩,
    ⟨(some 5), none, .mv (.tmp 17)⟩])))
def c_laws_szStringS : AS :=
  .seq (.ops [⟨(some 4), none, .mv (.const (.int .i64 0))⟩])
  (.seq (.ops [⟨(some 6), none, .mv (.tmp 1)⟩,
    ⟨(some 7), none, .mv (.tmp 0)⟩,
    ⟨(some 8), none, .lens (.tmp 7)⟩,
    ⟨(some 9), none, .bin .sub (.tmp 6) (.tmp 8)⟩,
    ⟨(some 1), none, .mv (.tmp 9)⟩])
  (.seq (.seq (.ops [⟨(some 10), none, .mv (.tmp 1)⟩,
    ⟨(some 11), none, .bin .lss (.tmp 10) (.const (.int .i64 0))⟩])
  (.cond (.tmp 11) (.seq (.ops [⟨(some 4), none, .mv (.const (.int .i64 (-1)))⟩])
  (.ret)) (.skip)))
  (.seq (.seq (.ops [⟨(some 5), none, .mv (.const (.int .i64 0))⟩])
  (.block 0 (.loop 2 [(0, 0), (1, 0), (5, 0)] c_laws_szStringS_l1)))
  (.kept [1] (.seq (.ops [⟨(some 27), none, .mv (.tmp 1)⟩,
    ⟨(some 4), none, .mv (.tmp 27)⟩])
  (.ret))))))
theorem h_laws_szStringS : (Try.prog.funcs[n_laws_szStringS]?).bind (fun fn => fn.body.bind (comp Try.prog fn.ntmps)) = some (AS.strip c_laws_szStringS) := by kernel_rfl
theorem r_laws_szStringS : (Try.prog.funcs[n_laws_szStringS]?).map (fun fn => (fn.results.toList, fn.ntmps)) = some ([.tmp 4], 28) := by kernel_rfl
-- 29 loop.example/g00850/laws.szIntS
abbrev n_laws_szIntS : Nat := 29
def c_laws_szIntS : AS :=
  .seq (.ops [⟨(some 4), none, .mv (.const (.int .i64 0))⟩])
  (.seq (.ops [⟨(some 5), none, .mv (.tmp 1)⟩,
    ⟨(some 6), none, .mv (.tmp 0)⟩,
    ⟨(some 7), none, .lens (.tmp 6)⟩,
    ⟨(some 8), none, .bin .sub (.tmp 5) (.tmp 7)⟩,
    ⟨(some 1), none, .mv (.tmp 8)⟩])
  (.seq (.seq (.ops [⟨(some 9), none, .mv (.tmp 1)⟩,
    ⟨(some 10), none, .bin .lss (.tmp 9) (.const (.int .i64 0))⟩])
  (.cond (.tmp 10) (.seq (.ops [⟨(some 4), none, .mv (.const (.int .i64 (-1)))⟩])
  (.ret)) (.skip)))
  (.seq (.ops [⟨(some 11), none, .mv (.tmp 1)⟩,
    ⟨(some 4), none, .mv (.tmp 11)⟩])
  (.ret))))
theorem h_laws_szIntS : (Try.prog.funcs[n_laws_szIntS]?).bind (fun fn => fn.body.bind (comp Try.prog fn.ntmps)) = some (AS.strip c_laws_szIntS) := by kernel_rfl
theorem r_laws_szIntS : (Try.prog.funcs[n_laws_szIntS]?).map (fun fn => (fn.results.toList, fn.ntmps)) = some ([.tmp 4], 12) := by kernel_rfl
-- 30 loop.example/g00850/spec.GoodPlaces
abbrev n_spec_GoodPlaces : Nat := 30
def c_spec_GoodPlaces_l1 : AS :=
  .seq (.ops [⟨(some 9), none, .bin .lss (.tmp 8) (.tmp 7)⟩])
  (.seq (.cond (.tmp 9) (.skip) (.exit 0))
  (.seq (.block 1 (.seq (.ops [⟨(some 10), none, .mv (.tmp 8)⟩,
    ⟨(some 11), none, .ia 1 (.tmp 6) (.tmp 8)⟩,
    ⟨(some 12), none, .load none (.tmp 11)⟩,
    ⟨(some 3), none, .mv (.tmp 10)⟩,
    ⟨(some 4), none, .mv (.tmp 12)⟩])
  (.seq (.ops [⟨(some 13), none, .mv (.tmp 4)⟩,
    ⟨(some 14), none, .call 68 [(.tmp 13)]⟩,
    ⟨(some 15), none, .not (.tmp 14)⟩,
    ⟨(some 16), none, .mv (.tmp 15)⟩,
    ⟨(some 17), some (16, false), .mv (.tmp 3)⟩,
    ⟨(some 18), some (16, false), .bin .gtr (.tmp 17) (.const (.int .i64 0))⟩,
    ⟨(some 19), some (16, false), .mv (.tmp 18)⟩,
    ⟨(some 20), some (19, true), .fa 1 (.tmp 1)⟩,
    ⟨(some 21), some (19, true), .load none (.tmp 20)⟩,
    ⟨(some 22), some (19, true), .mv (.tmp 3)⟩,
    ⟨(some 23), some (19, true), .bin .sub (.tmp 22) (.const (.int .i64 1))⟩,
    ⟨(some 24), some (19, true), .ia 1 (.tmp 21) (.tmp 23)⟩,
    ⟨(some 25), some (19, true), .load none (.tmp 24)⟩,
    ⟨(some 26), some (19, true), .mv (.tmp 4)⟩,
    ⟨(some 27), some (19, true), .bin .geq (.tmp 25) (.tmp 26)⟩,
    ⟨(some 28), some (16, false), .pick (.tmp 19) (.tmp 27) (.const (.bool false))⟩,
    ⟨(some 29), none, .pick (.tmp 16) (.const (.bool true)) (.tmp 28)⟩])
  (.kept [1, 6, 7, 8, 29] (.cond (.tmp 29) (.seq (.ops [⟨(some 2), none, .mv (.const (.bool false))⟩])
  (.ret)) (.skip))))))
  (.kept [1, 6, 7, 8] (.ops [⟨(some 30), none, .bin .add (.tmp 8) (.const (.int .i64 1))⟩,
    ⟨(some 8), none, .mv (.tmp 30)⟩]))))
def c_spec_GoodPlaces : AS :=
  .seq (.ops [⟨(some 1), none, .box (.tmp 0)⟩,
    ⟨(some 2), none, .mv (.const (.bool false))⟩])
  (.seq (.seq (.ops [⟨(some 5), none, .fa 1 (.tmp 1)⟩,
    ⟨(some 6), none, .load none (.tmp 5)⟩,
    ⟨(some 7), none, .lens (.tmp 6)⟩,
    ⟨(some 8), none, .mv (.const (.int .i64 0))⟩])
  (.block 0 (.loop 1 [(1, 0), (6, 0), (7, 0), (8, 0)] c_spec_GoodPlaces_l1)))
  (.kept [1] (.seq (.ops [⟨(some 31), none, .fa 0 (.tmp 1)⟩,
    ⟨(some 32), none, .load none (.tmp 31)⟩,
    ⟨(some 33), none, .call 31 [(.tmp 32), (.const (.int .i64 0)), (.const (.int .i64 50))]⟩,
    ⟨(some 34), none, .mv (.tmp 33)⟩,
    ⟨(some 35), some (34, true), .fa 1 (.tmp 1)⟩,
    ⟨(some 36), some (34, true), .load none (.tmp 35)⟩,
    ⟨(some 37), some (34, true), .lens (.tmp 36)⟩,
    ⟨(some 38), some (34, true), .bin .leq (.tmp 37) (.const (.int .i64 4))⟩,
    ⟨(some 39), none, .pick (.tmp 34) (.tmp 38) (.const (.bool false))⟩,
    ⟨(some 40), none, .mv (.tmp 39)⟩,
    ⟨(some 41), some (40, true), .fa 2 (.tmp 1)⟩,
    ⟨(some 42), some (40, true), .load none (.tmp 41)⟩,
    ⟨(some 43), some (40, true), .lens (.tmp 42)⟩,
    ⟨(some 44), some (40, true), .fa 1 (.tmp 1)⟩,
    ⟨(some 45), some (40, true), .load none (.tmp 44)⟩,
    ⟨(some 46), some (40, true), .lens (.tmp 45)⟩,
    ⟨(some 47), some (40, true), .bin .add (.tmp 46) (.const (.int .i64 1))⟩,
    ⟨(some 48), some (40, true), .bin .eql (.tmp 43) (.tmp 47)⟩,
    ⟨(some 49), none, .pick (.tmp 40) (.tmp 48) (.const (.bool false))⟩,
    ⟨(some 50), none, .mv (.tmp 49)⟩,
    ⟨(some 51), some (50, true), .fa 2 (.tmp 1)⟩,
    ⟨(some 52), some (50, true), .load none (.tmp 51)⟩,
    ⟨(some 53), some (50, true), .call 69 [(.tmp 52), (.const (.int .i64 0)), (.const (.int .i64 3))]⟩,
    ⟨(some 54), none, .pick (.tmp 50) (.tmp 53) (.const (.bool false))⟩,
    ⟨(some 2), none, .mv (.tmp 54)⟩])
  (.ret))))
theorem h_spec_GoodPlaces : (Try.prog.funcs[n_spec_GoodPlaces]?).bind (fun fn => fn.body.bind (comp Try.prog fn.ntmps)) = some (AS.strip c_spec_GoodPlaces) := by kernel_rfl
theorem r_spec_GoodPlaces : (Try.prog.funcs[n_spec_GoodPlaces]?).map (fun fn => (fn.results.toList, fn.ntmps)) = some ([.tmp 2], 55) := by kernel_rfl
-- 31 loop.example/g00850/spec.l1In
abbrev n_spec_l1In : Nat := 31
def c_spec_l1In : AS :=
  .seq (.ops [⟨(some 6), none, .mv (.const (.bool false))⟩])
  (.seq (.ops [⟨(some 7), none, .mv (.tmp 0)⟩,
    ⟨(some 8), none, .mv (.tmp 1)⟩,
    ⟨(some 9), none, .bin .geq (.tmp 7) (.tmp 8)⟩,
    ⟨(some 10), none, .mv (.tmp 9)⟩,
    ⟨(some 11), some (10, true), .mv (.tmp 0)⟩,
    ⟨(some 12), some (10, true), .mv (.tmp 2)⟩,
    ⟨(some 13), some (10, true), .bin .leq (.tmp 11) (.tmp 12)⟩,
    ⟨(some 14), none, .pick (.tmp 10) (.tmp 13) (.const (.bool false))⟩,
    ⟨(some 6), none, .mv (.tmp 14)⟩])
  (.ret))
theorem h_spec_l1In : (Try.prog.funcs[n_spec_l1In]?).bind (fun fn => fn.body.bind (comp Try.prog fn.ntmps)) = some (AS.strip c_spec_l1In) := by kernel_rfl
theorem r_spec_l1In : (Try.prog.funcs[n_spec_l1In]?).map (fun fn => (fn.results.toList, fn.ntmps)) = some ([.tmp 6], 15) := by kernel_rfl
-- 32 loop.example/g00850/spec.l1Own
abbrev n_spec_l1Own : Nat := 32
def c_spec_l1Own : AS :=
  .seq (.ops [⟨(some 2), none, .mv (.const (.slice none 0 0))⟩])
  (.seq (.ops [⟨(some 3), none, .bsl 1 (.int .i64 0) 0 []⟩,
    ⟨(some 4), none, .mv (.tmp 0)⟩,
    ⟨(some 5), none, .app 1 8 (.int .i64 0) (.tmp 3) (.tmp 4)⟩,
    ⟨(some 2), none, .mv (.tmp 5)⟩])
  (.ret))
theorem h_spec_l1Own : (Try.prog.funcs[n_spec_l1Own]?).bind (fun fn => fn.body.bind (comp Try.prog fn.ntmps)) = some (AS.strip c_spec_l1Own) := by kernel_rfl
theorem r_spec_l1Own : (Try.prog.funcs[n_spec_l1Own]?).map (fun fn => (fn.results.toList, fn.ntmps)) = some ([.tmp 2], 6) := by kernel_rfl
-- 33 loop.example/g00850/spec.l20Next
abbrev n_spec_l20Next : Nat := 33
def c_spec_l20Next : AS :=
  .seq (.ops [⟨(some 1), none, .box (.tmp 0)⟩,
    ⟨(some 2), none, .alloc (.agg #[.int .i64 0, .slice none 0 0, .slice none 0 0])⟩,
    ⟨(some 3), none, .mv (.const (.bool false))⟩])
  (.seq (.ops [⟨(some 4), none, .fa 0 (.tmp 1)⟩,
    ⟨(some 5), none, .load none (.tmp 4)⟩,
    ⟨(some 6), none, .bin .add (.tmp 5) (.const (.int .i64 1))⟩,
    ⟨(some 7), none, .fa 0 (.tmp 1)⟩,
    ⟨none, none, .store 1 (.tmp 7) (.tmp 6)⟩])
  (.seq (.seq (.ops [⟨(some 8), none, .load (some 3) (.tmp 1)⟩,
    ⟨(some 9), none, .call 30 [(.tmp 8)]⟩,
    ⟨(some 10), none, .not (.tmp 9)⟩])
  (.cond (.tmp 10) (.seq (.ops [⟨(some 11), none, .build (.agg #[.int .i64 0, .slice none 0 0, .slice none 0 0]) []⟩,
    ⟨none, none, .store 3 (.tmp 2) (.tmp 11)⟩,
    ⟨(some 3), none, .mv (.const (.bool false))⟩])
  (.ret)) (.skip)))
  (.seq (.ops [⟨(some 12), none, .load (some 3) (.tmp 1)⟩,
    ⟨none, none, .store 3 (.tmp 2) (.tmp 12)⟩,
    ⟨(some 3), none, .mv (.const (.bool true))⟩])
  (.ret))))
theorem h_spec_l20Next : (Try.prog.funcs[n_spec_l20Next]?).bind (fun fn => fn.body.bind (comp Try.prog fn.ntmps)) = some (AS.strip c_spec_l20Next) := by kernel_rfl
theorem r_spec_l20Next : (Try.prog.funcs[n_spec_l20Next]?).map (fun fn => (fn.results.toList, fn.ntmps)) = some ([.cell 2 27, .tmp 3], 13) := by kernel_rfl
-- 34 loop.example/g00850/laws.toStringS
abbrev n_laws_toStringS : Nat := 34
def c_laws_toStringS_l1 : AS :=
  .seq (.seq (.ops [⟨(some 8), none, .mv (.tmp 4)⟩,
    ⟨(some 9), none, .mv (.tmp 0)⟩,
    ⟨(some 10), none, .lens (.tmp 9)⟩,
    ⟨(some 11), none, .bin .lss (.tmp 8) (.tmp 10)⟩])
  (.cond (.tmp 11) (.skip) (.exit 0)))
  (.seq (.block 1 (.ops [⟨(some 14), none, .mv (.tmp 3)⟩,
    ⟨(some 15), none, .mv (.tmp 4)⟩,
    ⟨(some 16), none, .mv (.tmp 0)⟩,
    ⟨(some 17), none, .mv (.tmp 4)⟩,
    ⟨(some 18), none, .ia 1 (.tmp 16) (.tmp 17)⟩,
    ⟨(some 19), none, .load none (.tmp 18)⟩,
    ⟨(some 20), none, .ia 1 (.tmp 14) (.tmp 15)⟩,
    ⟨none, none, .store 1 (.tmp 20) (.tmp 19)⟩]))
  (.kept [0, 3, 4] (.ops [⟨(some 12), none, .mv (.tmp 4)⟩,
    ⟨(some 13), none, .bin .add (.tmp 12) (.const (.int .i64 1))⟩,
    ⟨(some 4), none, .mv (.tmp 13)⟩])))
def c_laws_toStringS : AS :=
  .seq (.ops [⟨(some 2), none, .mv (.const (.slice none 0 0))⟩])
  (.seq (.ops [⟨(some 5), none, .mv (.tmp 0)⟩,
    ⟨(some 6), none, .lens (.tmp 5)⟩,
    ⟨(some 7), none, .mks 1 16 (.string ⟨⟨[]⟩⟩) (.tmp 6) (.tmp 6)⟩,
    ⟨(some 3), none, .mv (.tmp 7)⟩])
  (.seq (.seq (.ops [⟨(some 4), none, .mv (.const (.int .i64 0))⟩])
  (.block 0 (.loop 1 [(0, 0), (3, 0), (4, 0)] c_laws_toStringS_l1)))
  (.kept [3] (.seq (.ops [⟨(some 21), none, .mv (.tmp 3)⟩,
    ⟨(some 2), none, .mv (.tmp 21)⟩])
  (.ret)))))
theorem h_laws_toStringS : (Try.prog.funcs[n_laws_toStringS]?).bind (fun fn => fn.body.bind (comp Try.prog fn.ntmps)) = some (AS.strip c_laws_toStringS) := by kernel_rfl
theorem r_laws_toStringS : (Try.prog.funcs[n_laws_toStringS]?).map (fun fn => (fn.results.toList, fn.ntmps)) = some ([.tmp 2], 22) := by kernel_rfl
-- 35 loop.example/g00850/laws.toIntS
abbrev n_laws_toIntS : Nat := 35
def c_laws_toIntS_l1 : AS :=
  .seq (.seq (.ops [⟨(some 8), none, .mv (.tmp 4)⟩,
    ⟨(some 9), none, .mv (.tmp 0)⟩,
    ⟨(some 10), none, .lens (.tmp 9)⟩,
    ⟨(some 11), none, .bin .lss (.tmp 8) (.tmp 10)⟩])
  (.cond (.tmp 11) (.skip) (.exit 0)))
  (.seq (.block 1 (.ops [⟨(some 14), none, .mv (.tmp 3)⟩,
    ⟨(some 15), none, .mv (.tmp 4)⟩,
    ⟨(some 16), none, .mv (.tmp 0)⟩,
    ⟨(some 17), none, .mv (.tmp 4)⟩,
    ⟨(some 18), none, .ia 1 (.tmp 16) (.tmp 17)⟩,
    ⟨(some 19), none, .load none (.tmp 18)⟩,
    ⟨(some 20), none, .ia 1 (.tmp 14) (.tmp 15)⟩,
    ⟨none, none, .store 1 (.tmp 20) (.tmp 19)⟩]))
  (.kept [0, 3, 4] (.ops [⟨(some 12), none, .mv (.tmp 4)⟩,
    ⟨(some 13), none, .bin .add (.tmp 12) (.const (.int .i64 1))⟩,
    ⟨(some 4), none, .mv (.tmp 13)⟩])))
def c_laws_toIntS : AS :=
  .seq (.ops [⟨(some 2), none, .mv (.const (.slice none 0 0))⟩])
  (.seq (.ops [⟨(some 5), none, .mv (.tmp 0)⟩,
    ⟨(some 6), none, .lens (.tmp 5)⟩,
    ⟨(some 7), none, .mks 1 8 (.int .i64 0) (.tmp 6) (.tmp 6)⟩,
    ⟨(some 3), none, .mv (.tmp 7)⟩])
  (.seq (.seq (.ops [⟨(some 4), none, .mv (.const (.int .i64 0))⟩])
  (.block 0 (.loop 1 [(0, 0), (3, 0), (4, 0)] c_laws_toIntS_l1)))
  (.kept [3] (.seq (.ops [⟨(some 21), none, .mv (.tmp 3)⟩,
    ⟨(some 2), none, .mv (.tmp 21)⟩])
  (.ret)))))
theorem h_laws_toIntS : (Try.prog.funcs[n_laws_toIntS]?).bind (fun fn => fn.body.bind (comp Try.prog fn.ntmps)) = some (AS.strip c_laws_toIntS) := by kernel_rfl
theorem r_laws_toIntS : (Try.prog.funcs[n_laws_toIntS]?).map (fun fn => (fn.results.toList, fn.ntmps)) = some ([.tmp 2], 22) := by kernel_rfl
-- 36 loop.example/g00850/impl.isRange
abbrev n_impl_isRange : Nat := 36
def c_impl_isRange : AS :=
  .seq (.ops [⟨(some 2), none, .box (.tmp 0)⟩,
    ⟨(some 4), none, .mv (.const (.bool false))⟩])
  (.seq (.ops [⟨(some 5), none, .load (some 3) (.tmp 2)⟩,
    ⟨(some 6), none, .call 70 [(.tmp 5)]⟩,
    ⟨(some 7), none, .mv (.tmp 6)⟩,
    ⟨(some 8), some (7, true), .mv (.tmp 1)⟩,
    ⟨(some 9), some (7, true), .fa 2 (.tmp 2)⟩,
    ⟨(some 10), some (7, true), .load none (.tmp 9)⟩,
    ⟨(some 11), some (7, true), .lens (.tmp 10)⟩,
    ⟨(some 12), some (7, true), .bin .sub (.tmp 11) (.const (.int .i64 1))⟩,
    ⟨(some 13), some (7, true), .call 62 [(.tmp 8), (.const (.int .i64 0)), (.tmp 12)]⟩,
    ⟨(some 14), none, .pick (.tmp 7) (.tmp 13) (.const (.bool false))⟩,
    ⟨(some 4), none, .mv (.tmp 14)⟩])
  (.ret))
theorem h_impl_isRange : (Try.prog.funcs[n_impl_isRange]?).bind (fun fn => fn.body.bind (comp Try.prog fn.ntmps)) = some (AS.strip c_impl_isRange) := by kernel_rfl
theorem r_impl_isRange : (Try.prog.funcs[n_impl_isRange]?).map (fun fn => (fn.results.toList, fn.ntmps)) = some ([.tmp 4], 15) := by kernel_rfl
-- 37 loop.example/g00850/impl.copyPlaces
abbrev n_impl_copyPlaces : Nat := 37
def c_impl_copyPlaces : AS :=
  .seq (.ops [⟨(some 1), none, .box (.tmp 0)⟩,
    ⟨(some 2), none, .alloc (.agg #[.int .i64 0, .slice none 0 0, .slice none 0 0])⟩])
  (.seq (.rops [(none, ⟨(some 3), none, .fa 0 (.tmp 1)⟩),
    (none, ⟨(some 4), none, .load none (.tmp 3)⟩),
    (none, ⟨(some 5), none, .fa 1 (.tmp 1)⟩),
    (none, ⟨(some 6), none, .load none (.tmp 5)⟩),
    (none, ⟨(some 8), none, .fa 2 (.tmp 1)⟩),
    (none, ⟨(some 9), none, .load none (.tmp 8)⟩),
    (some [⟨(some 9), none, .load none (.tmp 8)⟩, ⟨(some 8), none, .fa 2 (.tmp 1)⟩, ⟨(some 4), none, .load none (.tmp 3)⟩, ⟨(some 3), none, .fa 0 (.tmp 1)⟩], ⟨(some 7), none, .call 71 [(.tmp 6)]⟩),
    (some [⟨(some 4), none, .load none (.tmp 3)⟩, ⟨(some 3), none, .fa 0 (.tmp 1)⟩], ⟨(some 10), none, .call 72 [(.tmp 9)]⟩),
    (none, ⟨(some 11), none, .build (.agg #[.int .i64 0, .slice none 0 0, .slice none 0 0]) [(0, 1, (.tmp 4)), (1, 1, (.tmp 7)), (2, 1, (.tmp 10))]⟩),
    (some [], ⟨none, none, .store 3 (.tmp 2) (.tmp 11)⟩)])
  (.ret))
theorem h_impl_copyPlaces : (Try.prog.funcs[n_impl_copyPlaces]?).bind (fun fn => fn.body.bind (comp Try.prog fn.ntmps)) = some (AS.strip c_impl_copyPlaces) := by kernel_rfl
theorem r_impl_copyPlaces : (Try.prog.funcs[n_impl_copyPlaces]?).map (fun fn => (fn.results.toList, fn.ntmps)) = some ([.cell 2 27], 12) := by kernel_rfl
-- 38 slices.Delete[[]string,string]
abbrev n_slices_Delete___string_string_ : Nat := 38
def c_slices_Delete___string_string_ : AS :=
  .seq (.ops [⟨(some 6), none, .mv (.const (.slice none 0 0))⟩])
  (.seq (.ops [⟨(some 8), none, .mv (.tmp 0)⟩,
    ⟨(some 9), none, .mv (.tmp 1)⟩,
    ⟨(some 10), none, .mv (.tmp 2)⟩,
    ⟨(some 11), none, .mv (.tmp 0)⟩,
    ⟨(some 12), none, .lens (.tmp 11)⟩,
    ⟨(some 13), none, .sls 1 (.tmp 8) (some (.tmp 9)) (some (.tmp 10)) (some (.tmp 12))⟩])
  (.kept [0, 1, 2] (.seq (.seq (.ops [⟨(some 14), none, .mv (.tmp 1)⟩,
    ⟨(some 15), none, .mv (.tmp 2)⟩,
    ⟨(some 16), none, .bin .eql (.tmp 14) (.tmp 15)⟩])
  (.cond (.tmp 16) (.seq (.post [(6, 0, [])] (.ops [⟨(some 17), none, .mv (.tmp 0)⟩,
    ⟨(some 6), none, .mv (.tmp 17)⟩]))
  (.ret)) (.skip)))
  (.seq (.ops [⟨(some 18), none, .mv (.tmp 0)⟩,
    ⟨(some 19), none, .lens (.tmp 18)⟩,
    ⟨(some 7), none, .mv (.tmp 19)⟩])
  (.seq (.rops [(none, ⟨(some 20), none, .mv (.tmp 0)⟩),
    (none, ⟨(some 21), none, .mv (.tmp 1)⟩),
    (none, ⟨(some 22), none, .sls 1 (.tmp 20) none (some (.tmp 21)) none⟩),
    (none, ⟨(some 23), none, .mv (.tmp 0)⟩),
    (none, ⟨(some 24), none, .mv (.tmp 2)⟩),
    (none, ⟨(some 25), none, .sls 1 (.tmp 23) (some (.tmp 24)) none none⟩),
    (some [], ⟨(some 26), none, .app 1 16 (.string ⟨⟨[]⟩⟩) (.tmp 22) (.tmp 25)⟩),
    (none, ⟨(some 0), none, .mv (.tmp 26)⟩)])
  (.kept [0, 7] (.seq (.ops [⟨(some 27), none, .mv (.tmp 0)⟩,
    ⟨(some 28), none, .mv (.tmp 0)⟩,
    ⟨(some 29), none, .lens (.tmp 28)⟩,
    ⟨(some 30), none, .mv (.tmp 7)⟩,
    ⟨(some 31), none, .sls 1 (.tmp 27) (some (.tmp 29)) (some (.tmp 30)) none⟩,
    ⟨none, none, .clr 1 (.string ⟨⟨[]⟩⟩) (.tmp 31)⟩])
  (.seq (.post [(6, 0, [])] (.ops [⟨(some 32), none, .mv (.tmp 0)⟩,
    ⟨(some 6), none, .mv (.tmp 32)⟩]))
  (.ret)))))))))
theorem h_slices_Delete___string_string_ : (Try.prog.funcs[n_slices_Delete___string_string_]?).bind (fun fn => fn.body.bind (comp Try.prog fn.ntmps)) = some (AS.strip c_slices_Delete___string_string_) := by kernel_rfl
theorem r_slices_Delete___string_string_ : (Try.prog.funcs[n_slices_Delete___string_string_]?).map (fun fn => (fn.results.toList, fn.ntmps)) = some ([.tmp 6], 33) := by kernel_rfl
-- 39 slices.Delete[[]int,int]
abbrev n_slices_Delete___int_int_ : Nat := 39
def c_slices_Delete___int_int_ : AS :=
  .seq (.ops [⟨(some 6), none, .mv (.const (.slice none 0 0))⟩])
  (.seq (.ops [⟨(some 8), none, .mv (.tmp 0)⟩,
    ⟨(some 9), none, .mv (.tmp 1)⟩,
    ⟨(some 10), none, .mv (.tmp 2)⟩,
    ⟨(some 11), none, .mv (.tmp 0)⟩,
    ⟨(some 12), none, .lens (.tmp 11)⟩,
    ⟨(some 13), none, .sls 1 (.tmp 8) (some (.tmp 9)) (some (.tmp 10)) (some (.tmp 12))⟩])
  (.kept [0, 1, 2] (.seq (.seq (.ops [⟨(some 14), none, .mv (.tmp 1)⟩,
    ⟨(some 15), none, .mv (.tmp 2)⟩,
    ⟨(some 16), none, .bin .eql (.tmp 14) (.tmp 15)⟩])
  (.cond (.tmp 16) (.seq (.post [(6, 0, [])] (.ops [⟨(some 17), none, .mv (.tmp 0)⟩,
    ⟨(some 6), none, .mv (.tmp 17)⟩]))
  (.ret)) (.skip)))
  (.seq (.ops [⟨(some 18), none, .mv (.tmp 0)⟩,
    ⟨(some 19), none, .lens (.tmp 18)⟩,
    ⟨(some 7), none, .mv (.tmp 19)⟩])
  (.seq (.rops [(none, ⟨(some 20), none, .mv (.tmp 0)⟩),
    (none, ⟨(some 21), none, .mv (.tmp 1)⟩),
    (none, ⟨(some 22), none, .sls 1 (.tmp 20) none (some (.tmp 21)) none⟩),
    (none, ⟨(some 23), none, .mv (.tmp 0)⟩),
    (none, ⟨(some 24), none, .mv (.tmp 2)⟩),
    (none, ⟨(some 25), none, .sls 1 (.tmp 23) (some (.tmp 24)) none none⟩),
    (some [], ⟨(some 26), none, .app 1 8 (.int .i64 0) (.tmp 22) (.tmp 25)⟩),
    (none, ⟨(some 0), none, .mv (.tmp 26)⟩)])
  (.kept [0, 7] (.seq (.ops [⟨(some 27), none, .mv (.tmp 0)⟩,
    ⟨(some 28), none, .mv (.tmp 0)⟩,
    ⟨(some 29), none, .lens (.tmp 28)⟩,
    ⟨(some 30), none, .mv (.tmp 7)⟩,
    ⟨(some 31), none, .sls 1 (.tmp 27) (some (.tmp 29)) (some (.tmp 30)) none⟩,
    ⟨none, none, .clr 1 (.int .i64 0) (.tmp 31)⟩])
  (.seq (.post [(6, 0, [])] (.ops [⟨(some 32), none, .mv (.tmp 0)⟩,
    ⟨(some 6), none, .mv (.tmp 32)⟩]))
  (.ret)))))))))
theorem h_slices_Delete___int_int_ : (Try.prog.funcs[n_slices_Delete___int_int_]?).bind (fun fn => fn.body.bind (comp Try.prog fn.ntmps)) = some (AS.strip c_slices_Delete___int_int_) := by kernel_rfl
theorem r_slices_Delete___int_int_ : (Try.prog.funcs[n_slices_Delete___int_int_]?).map (fun fn => (fn.results.toList, fn.ntmps)) = some ([.tmp 6], 33) := by kernel_rfl
-- 40 (loop.example/g00850/impl.Places).next
abbrev n_impl_Places_next : Nat := 40
def c_impl_Places_next : AS :=
  .seq (.ops [⟨(some 1), none, .box (.tmp 0)⟩,
    ⟨(some 2), none, .alloc (.agg #[.int .i64 0, .slice none 0 0, .slice none 0 0])⟩,
    ⟨(some 3), none, .mv (.const (.bool false))⟩])
  (.seq (.ops [⟨(some 4), none, .fa 0 (.tmp 1)⟩,
    ⟨(some 5), none, .load none (.tmp 4)⟩,
    ⟨(some 6), none, .bin .add (.tmp 5) (.const (.int .i64 1))⟩,
    ⟨(some 7), none, .fa 0 (.tmp 1)⟩,
    ⟨none, none, .store 1 (.tmp 7) (.tmp 6)⟩])
  (.seq (.seq (.ops [⟨(some 8), none, .load (some 3) (.tmp 1)⟩,
    ⟨(some 9), none, .call 70 [(.tmp 8)]⟩,
    ⟨(some 10), none, .not (.tmp 9)⟩])
  (.cond (.tmp 10) (.seq (.ops [⟨(some 11), none, .build (.agg #[.int .i64 0, .slice none 0 0, .slice none 0 0]) []⟩,
    ⟨none, none, .store 3 (.tmp 2) (.tmp 11)⟩,
    ⟨(some 3), none, .mv (.const (.bool false))⟩])
  (.ret)) (.skip)))
  (.seq (.ops [⟨(some 12), none, .load (some 3) (.tmp 1)⟩,
    ⟨none, none, .store 3 (.tmp 2) (.tmp 12)⟩,
    ⟨(some 3), none, .mv (.const (.bool true))⟩])
  (.ret))))
theorem h_impl_Places_next : (Try.prog.funcs[n_impl_Places_next]?).bind (fun fn => fn.body.bind (comp Try.prog fn.ntmps)) = some (AS.strip c_impl_Places_next) := by kernel_rfl
theorem r_impl_Places_next : (Try.prog.funcs[n_impl_Places_next]?).map (fun fn => (fn.results.toList, fn.ntmps)) = some ([.cell 2 27, .tmp 3], 13) := by kernel_rfl
-- 41 loop.example/g00850/laws.eqStringS
abbrev n_laws_eqStringS : Nat := 41
def c_laws_eqStringS_l1 : AS :=
  .seq (.seq (.ops [⟨(some 11), none, .mv (.tmp 5)⟩,
    ⟨(some 12), none, .mv (.tmp 0)⟩,
    ⟨(some 13), none, .lens (.tmp 12)⟩,
    ⟨(some 14), none, .bin .lss (.tmp 11) (.tmp 13)⟩])
  (.cond (.tmp 14) (.skip) (.exit 0)))
  (.seq (.block 1 (.seq (.dops [⟨(some 17), none, .mv (.tmp 0)⟩,
    ⟨(some 18), none, .mv (.tmp 5)⟩,
    ⟨(some 19), none, .ia 1 (.tmp 17) (.tmp 18)⟩,
    ⟨(some 20), none, .load none (.tmp 19)⟩,
    ⟨(some 21), none, .mv (.tmp 1)⟩,
    ⟨(some 22), none, .mv (.tmp 5)⟩,
    ⟨(some 23), none, .ia 1 (.tmp 21) (.tmp 22)⟩,
    ⟨(some 24), none, .load none (.tmp 23)⟩,
    ⟨(some 25), none, .bin .neq (.tmp 20) (.tmp 24)⟩])
  (.kept [0, 1, 5, 25] (.cond (.tmp 25) (.seq (.ops [⟨(some 4), none, .mv (.const (.bool false))⟩])
  (.ret)) (.skip)))))
  (.kept [0, 1, 5] (.ops [⟨(some 15), none, .mv (.tmp 5)⟩,
    ⟨(some 16), none, .bin .add (.tmp 15) (.const (.int .i64 1))⟩,
    ⟨(some 5), none, .mv (.tmp 16)⟩])))
def c_laws_eqStringS : AS :=
  .seq (.ops [⟨(some 4), none, .mv (.const (.bool false))⟩])
  (.seq (.seq (.ops [⟨(some 6), none, .mv (.tmp 0)⟩,
    ⟨(some 7), none, .lens (.tmp 6)⟩,
    ⟨(some 8), none, .mv (.tmp 1)⟩,
    ⟨(some 9), none, .lens (.tmp 8)⟩,
    ⟨(some 10), none, .bin .neq (.tmp 7) (.tmp 9)⟩])
  (.cond (.tmp 10) (.seq (.ops [⟨(some 4), none, .mv (.const (.bool false))⟩])
  (.ret)) (.skip)))
  (.kept [0, 1] (.seq (.seq (.ops [⟨(some 5), none, .mv (.const (.int .i64 0))⟩])
  (.block 0 (.loop 2 [(0, 0), (1, 0), (5, 0)] c_laws_eqStringS_l1)))
  (.kept [] (.seq (.ops [⟨(some 4), none, .mv (.const (.bool true))⟩])
  (.ret))))))
theorem h_laws_eqStringS : (Try.prog.funcs[n_laws_eqStringS]?).bind (fun fn => fn.body.bind (comp Try.prog fn.ntmps)) = some (AS.strip c_laws_eqStringS) := by kernel_rfl
theorem r_laws_eqStringS : (Try.prog.funcs[n_laws_eqStringS]?).map (fun fn => (fn.results.toList, fn.ntmps)) = some ([.tmp 4], 26) := by kernel_rfl
-- 42 loop.example/g00850/laws.eqIntS
abbrev n_laws_eqIntS : Nat := 42
def c_laws_eqIntS_l1 : AS :=
  .seq (.seq (.ops [⟨(some 11), none, .mv (.tmp 5)⟩,
    ⟨(some 12), none, .mv (.tmp 0)⟩,
    ⟨(some 13), none, .lens (.tmp 12)⟩,
    ⟨(some 14), none, .bin .lss (.tmp 11) (.tmp 13)⟩])
  (.cond (.tmp 14) (.skip) (.exit 0)))
  (.seq (.block 1 (.seq (.dops [⟨(some 17), none, .mv (.tmp 0)⟩,
    ⟨(some 18), none, .mv (.tmp 5)⟩,
    ⟨(some 19), none, .ia 1 (.tmp 17) (.tmp 18)⟩,
    ⟨(some 20), none, .load none (.tmp 19)⟩,
    ⟨(some 21), none, .mv (.tmp 1)⟩,
    ⟨(some 22), none, .mv (.tmp 5)⟩,
    ⟨(some 23), none, .ia 1 (.tmp 21) (.tmp 22)⟩,
    ⟨(some 24), none, .load none (.tmp 23)⟩,
    ⟨(some 25), none, .bin .neq (.tmp 20) (.tmp 24)⟩])
  (.kept [0, 1, 5, 25] (.cond (.tmp 25) (.seq (.ops [⟨(some 4), none, .mv (.const (.bool false))⟩])
  (.ret)) (.skip)))))
  (.kept [0, 1, 5] (.ops [⟨(some 15), none, .mv (.tmp 5)⟩,
    ⟨(some 16), none, .bin .add (.tmp 15) (.const (.int .i64 1))⟩,
    ⟨(some 5), none, .mv (.tmp 16)⟩])))
def c_laws_eqIntS : AS :=
  .seq (.ops [⟨(some 4), none, .mv (.const (.bool false))⟩])
  (.seq (.seq (.ops [⟨(some 6), none, .mv (.tmp 0)⟩,
    ⟨(some 7), none, .lens (.tmp 6)⟩,
    ⟨(some 8), none, .mv (.tmp 1)⟩,
    ⟨(some 9), none, .lens (.tmp 8)⟩,
    ⟨(some 10), none, .bin .neq (.tmp 7) (.tmp 9)⟩])
  (.cond (.tmp 10) (.seq (.ops [⟨(some 4), none, .mv (.const (.bool false))⟩])
  (.ret)) (.skip)))
  (.kept [0, 1] (.seq (.seq (.ops [⟨(some 5), none, .mv (.const (.int .i64 0))⟩])
  (.block 0 (.loop 2 [(0, 0), (1, 0), (5, 0)] c_laws_eqIntS_l1)))
  (.kept [] (.seq (.ops [⟨(some 4), none, .mv (.const (.bool true))⟩])
  (.ret))))))
theorem h_laws_eqIntS : (Try.prog.funcs[n_laws_eqIntS]?).bind (fun fn => fn.body.bind (comp Try.prog fn.ntmps)) = some (AS.strip c_laws_eqIntS) := by kernel_rfl
theorem r_laws_eqIntS : (Try.prog.funcs[n_laws_eqIntS]?).map (fun fn => (fn.results.toList, fn.ntmps)) = some ([.tmp 4], 26) := by kernel_rfl
-- 43 loop.example/g00850/laws.markStringS
abbrev n_laws_markStringS : Nat := 43
def c_laws_markStringS_l1 : AS :=
  .seq (.seq (.ops [⟨(some 6), none, .mv (.tmp 5)⟩,
    ⟨(some 7), none, .mv (.tmp 0)⟩,
    ⟨(some 8), none, .lens (.tmp 7)⟩,
    ⟨(some 9), none, .bin .lss (.tmp 6) (.tmp 8)⟩])
  (.cond (.tmp 9) (.skip) (.exit 0)))
  (.seq (.block 1 (.seq (.ops [⟨(some 12), none, .mv (.tmp 0)⟩,
    ⟨(some 13), none, .mv (.tmp 5)⟩,
    ⟨(some 14), none, .mv (.tmp 1)⟩,
    ⟨(some 15), none, .call 73 [(.tmp 14)]⟩,
    ⟨(some 16), none, .ia 1 (.tmp 12) (.tmp 13)⟩,
    ⟨none, none, .store 1 (.tmp 16) (.tmp 15)⟩])
  (.ops [⟨(some 17), none, .mv (.tmp 1)⟩,
    ⟨(some 18), none, .bin .add (.tmp 17) (.const (.int .i64 1))⟩,
    ⟨(some 1), none, .mv (.tmp 18)⟩])))
  (.kept [0, 1, 5] (.ops [⟨(some 10), none, .mv (.tmp 5)⟩,
    ⟨(some 11), none, .bin .add (.tmp 10) (.const (.int .i64 1))⟩,
    ⟨(some 5), none, .mv (.tmp 11)⟩])))
def c_laws_markStringS : AS :=
  .seq (.ops [⟨(some 4), none, .mv (.const (.int .i64 0))⟩])
  (.seq (.seq (.ops [⟨(some 5), none, .mv (.const (.int .i64 0))⟩])
  (.block 0 (.loop 2 [(0, 0), (1, 0), (5, 0)] c_laws_markStringS_l1)))
  (.kept [1] (.seq (.ops [⟨(some 19), none, .mv (.tmp 1)⟩,
    ⟨(some 4), none, .mv (.tmp 19)⟩])
  (.ret))))
theorem h_laws_markStringS : (Try.prog.funcs[n_laws_markStringS]?).bind (fun fn => fn.body.bind (comp Try.prog fn.ntmps)) = some (AS.strip c_laws_markStringS) := by kernel_rfl
theorem r_laws_markStringS : (Try.prog.funcs[n_laws_markStringS]?).map (fun fn => (fn.results.toList, fn.ntmps)) = some ([.tmp 4], 20) := by kernel_rfl
-- 44 loop.example/g00850/laws.markIntS
abbrev n_laws_markIntS : Nat := 44
def c_laws_markIntS_l1 : AS :=
  .seq (.seq (.ops [⟨(some 6), none, .mv (.tmp 5)⟩,
    ⟨(some 7), none, .mv (.tmp 0)⟩,
    ⟨(some 8), none, .lens (.tmp 7)⟩,
    ⟨(some 9), none, .bin .lss (.tmp 6) (.tmp 8)⟩])
  (.cond (.tmp 9) (.skip) (.exit 0)))
  (.seq (.block 1 (.seq (.ops [⟨(some 12), none, .mv (.tmp 0)⟩,
    ⟨(some 13), none, .mv (.tmp 5)⟩,
    ⟨(some 14), none, .mv (.tmp 1)⟩,
    ⟨(some 15), none, .ia 1 (.tmp 12) (.tmp 13)⟩,
    ⟨none, none, .store 1 (.tmp 15) (.tmp 14)⟩])
  (.ops [⟨(some 16), none, .mv (.tmp 1)⟩,
    ⟨(some 17), none, .bin .add (.tmp 16) (.const (.int .i64 1))⟩,
    ⟨(some 1), none, .mv (.tmp 17)⟩])))
  (.kept [0, 1, 5] (.ops [⟨(some 10), none, .mv (.tmp 5)⟩,
    ⟨(some 11), none, .bin .add (.tmp 10) (.const (.int .i64 1))⟩,
    ⟨(some 5), none, .mv (.tmp 11)⟩])))
def c_laws_markIntS : AS :=
  .seq (.ops [⟨(some 4), none, .mv (.const (.int .i64 0))⟩])
  (.seq (.seq (.ops [⟨(some 5), none, .mv (.const (.int .i64 0))⟩])
  (.block 0 (.loop 2 [(0, 0), (1, 0), (5, 0)] c_laws_markIntS_l1)))
  (.kept [1] (.seq (.ops [⟨(some 18), none, .mv (.tmp 1)⟩,
    ⟨(some 4), none, .mv (.tmp 18)⟩])
  (.ret))))
theorem h_laws_markIntS : (Try.prog.funcs[n_laws_markIntS]?).bind (fun fn => fn.body.bind (comp Try.prog fn.ntmps)) = some (AS.strip c_laws_markIntS) := by kernel_rfl
theorem r_laws_markIntS : (Try.prog.funcs[n_laws_markIntS]?).map (fun fn => (fn.results.toList, fn.ntmps)) = some ([.tmp 4], 19) := by kernel_rfl
-- 45 loop.example/g00850/laws.heldStringS
abbrev n_laws_heldStringS : Nat := 45
def c_laws_heldStringS_l1 : AS :=
  .seq (.seq (.ops [⟨(some 6), none, .mv (.tmp 5)⟩,
    ⟨(some 7), none, .mv (.tmp 0)⟩,
    ⟨(some 8), none, .lens (.tmp 7)⟩,
    ⟨(some 9), none, .bin .lss (.tmp 6) (.tmp 8)⟩])
  (.cond (.tmp 9) (.skip) (.exit 0)))
  (.seq (.block 1 (.seq (.seq (.rops [(none, ⟨(some 12), none, .mv (.tmp 0)⟩),
    (none, ⟨(some 13), none, .mv (.tmp 5)⟩),
    (none, ⟨(some 14), none, .ia 1 (.tmp 12) (.tmp 13)⟩),
    (none, ⟨(some 15), none, .load none (.tmp 14)⟩),
    (none, ⟨(some 16), none, .mv (.tmp 1)⟩),
    (some [⟨(some 15), none, .load none (.tmp 14)⟩, ⟨(some 14), none, .ia 1 (.tmp 12) (.tmp 13)⟩, ⟨(some 13), none, .mv (.tmp 5)⟩, ⟨(some 12), none, .mv (.tmp 0)⟩], ⟨(some 17), none, .call 73 [(.tmp 16)]⟩),
    (none, ⟨(some 18), none, .bin .neq (.tmp 15) (.tmp 17)⟩)])
  (.kept [0, 1, 5, 18] (.cond (.tmp 18) (.seq (.ops [⟨(some 4), none, .mv (.const (.int .i64 (-1)))⟩])
  (.ret)) (.skip))))
  (.kept [0, 1, 5] (.ops [⟨(some 19), none, .mv (.tmp 1)⟩,
    ⟨(some 20), none, .bin .add (.tmp 19) (.const (.int .i64 1))⟩,
    ⟨(some 1), none, .mv (.tmp 20)⟩]))))
  (.kept [0, 1, 5] (.ops [⟨(some 10), none, .mv (.tmp 5)⟩,
    ⟨(some 11), none, .bin .add (.tmp 10) (.const (.int .i64 1))⟩,
    ⟨(some 5), none, .mv (.tmp 11)⟩])))
def c_laws_heldStringS : AS :=
  .seq (.ops [⟨(some 4), none, .mv (.const (.int .i64 0))⟩])
  (.seq (.seq (.ops [⟨(some 5), none, .mv (.const (.int .i64 0))⟩])
  (.block 0 (.loop 2 [(0, 0), (1, 0), (5, 0)] c_laws_heldStringS_l1)))
  (.kept [1] (.seq (.ops [⟨(some 21), none, .mv (.tmp 1)⟩,
    ⟨(some 4), none, .mv (.tmp 21)⟩])
  (.ret))))
theorem h_laws_heldStringS : (Try.prog.funcs[n_laws_heldStringS]?).bind (fun fn => fn.body.bind (comp Try.prog fn.ntmps)) = some (AS.strip c_laws_heldStringS) := by kernel_rfl
theorem r_laws_heldStringS : (Try.prog.funcs[n_laws_heldStringS]?).map (fun fn => (fn.results.toList, fn.ntmps)) = some ([.tmp 4], 22) := by kernel_rfl
-- 46 loop.example/g00850/laws.heldIntS
abbrev n_laws_heldIntS : Nat := 46
def c_laws_heldIntS_l1 : AS :=
  .seq (.seq (.ops [⟨(some 6), none, .mv (.tmp 5)⟩,
    ⟨(some 7), none, .mv (.tmp 0)⟩,
    ⟨(some 8), none, .lens (.tmp 7)⟩,
    ⟨(some 9), none, .bin .lss (.tmp 6) (.tmp 8)⟩])
  (.cond (.tmp 9) (.skip) (.exit 0)))
  (.seq (.block 1 (.seq (.seq (.ops [⟨(some 12), none, .mv (.tmp 0)⟩,
    ⟨(some 13), none, .mv (.tmp 5)⟩,
    ⟨(some 14), none, .ia 1 (.tmp 12) (.tmp 13)⟩,
    ⟨(some 15), none, .load none (.tmp 14)⟩,
    ⟨(some 16), none, .mv (.tmp 1)⟩,
    ⟨(some 17), none, .bin .neq (.tmp 15) (.tmp 16)⟩])
  (.cond (.tmp 17) (.seq (.ops [⟨(some 4), none, .mv (.const (.int .i64 (-1)))⟩])
  (.ret)) (.skip)))
  (.kept [0, 1, 5] (.ops [⟨(some 18), none, .mv (.tmp 1)⟩,
    ⟨(some 19), none, .bin .add (.tmp 18) (.const (.int .i64 1))⟩,
    ⟨(some 1), none, .mv (.tmp 19)⟩]))))
  (.kept [0, 1, 5] (.ops [⟨(some 10), none, .mv (.tmp 5)⟩,
    ⟨(some 11), none, .bin .add (.tmp 10) (.const (.int .i64 1))⟩,
    ⟨(some 5), none, .mv (.tmp 11)⟩])))
def c_laws_heldIntS : AS :=
  .seq (.ops [⟨(some 4), none, .mv (.const (.int .i64 0))⟩])
  (.seq (.seq (.ops [⟨(some 5), none, .mv (.const (.int .i64 0))⟩])
  (.block 0 (.loop 2 [(0, 0), (1, 0), (5, 0)] c_laws_heldIntS_l1)))
  (.kept [1] (.seq (.ops [⟨(some 20), none, .mv (.tmp 1)⟩,
    ⟨(some 4), none, .mv (.tmp 20)⟩])
  (.ret))))
theorem h_laws_heldIntS : (Try.prog.funcs[n_laws_heldIntS]?).bind (fun fn => fn.body.bind (comp Try.prog fn.ntmps)) = some (AS.strip c_laws_heldIntS) := by kernel_rfl
theorem r_laws_heldIntS : (Try.prog.funcs[n_laws_heldIntS]?).map (fun fn => (fn.results.toList, fn.ntmps)) = some ([.tmp 4], 21) := by kernel_rfl
-- 62 loop.example/g00850/impl.within
abbrev n_impl_within : Nat := 62
def c_impl_within : AS :=
  .seq (.ops [⟨(some 6), none, .mv (.const (.bool false))⟩])
  (.seq (.ops [⟨(some 7), none, .mv (.tmp 0)⟩,
    ⟨(some 8), none, .mv (.tmp 1)⟩,
    ⟨(some 9), none, .bin .geq (.tmp 7) (.tmp 8)⟩,
    ⟨(some 10), none, .mv (.tmp 9)⟩,
    ⟨(some 11), some (10, true), .mv (.tmp 0)⟩,
    ⟨(some 12), some (10, true), .mv (.tmp 2)⟩,
    ⟨(some 13), some (10, true), .bin .leq (.tmp 11) (.tmp 12)⟩,
    ⟨(some 14), none, .pick (.tmp 10) (.tmp 13) (.const (.bool false))⟩,
    ⟨(some 6), none, .mv (.tmp 14)⟩])
  (.ret))
theorem h_impl_within : (Try.prog.funcs[n_impl_within]?).bind (fun fn => fn.body.bind (comp Try.prog fn.ntmps)) = some (AS.strip c_impl_within) := by kernel_rfl
theorem r_impl_within : (Try.prog.funcs[n_impl_within]?).map (fun fn => (fn.results.toList, fn.ntmps)) = some ([.tmp 6], 15) := by kernel_rfl
-- 68 loop.example/g00850/spec.l3Key
abbrev n_spec_l3Key : Nat := 68
def c_spec_l3Key : AS :=
  .seq (.ops [⟨(some 2), none, .mv (.const (.bool false))⟩])
  (.seq (.ops [⟨(some 3), none, .mv (.tmp 0)⟩,
    ⟨(some 4), none, .lent (.tmp 3)⟩,
    ⟨(some 5), none, .call 31 [(.tmp 4), (.const (.int .i64 1)), (.const (.int .i64 12))]⟩,
    ⟨(some 6), none, .mv (.tmp 5)⟩,
    ⟨(some 7), some (6, true), .mv (.tmp 0)⟩,
    ⟨(some 8), some (6, true), .call 88 [(.tmp 7), (.const (.string ⟨⟨[46, 47]⟩⟩))]⟩,
    ⟨(some 9), none, .pick (.tmp 6) (.tmp 8) (.const (.bool false))⟩,
    ⟨(some 2), none, .mv (.tmp 9)⟩])
  (.ret))
theorem h_spec_l3Key : (Try.prog.funcs[n_spec_l3Key]?).bind (fun fn => fn.body.bind (comp Try.prog fn.ntmps)) = some (AS.strip c_spec_l3Key) := by kernel_rfl
theorem r_spec_l3Key : (Try.prog.funcs[n_spec_l3Key]?).map (fun fn => (fn.results.toList, fn.ntmps)) = some ([.tmp 2], 10) := by kernel_rfl
-- 69 loop.example/g00850/spec.l1All
abbrev n_spec_l1All : Nat := 69
def c_spec_l1All_l1 : AS :=
  .seq (.ops [⟨(some 12), none, .bin .lss (.tmp 11) (.tmp 10)⟩])
  (.seq (.cond (.tmp 12) (.skip) (.exit 0))
  (.seq (.block 1 (.seq (.ops [⟨(some 13), none, .ia 1 (.tmp 9) (.tmp 11)⟩,
    ⟨(some 14), none, .load none (.tmp 13)⟩,
    ⟨(some 8), none, .mv (.tmp 14)⟩])
  (.seq (.ops [⟨(some 15), none, .mv (.tmp 8)⟩,
    ⟨(some 16), none, .mv (.tmp 1)⟩,
    ⟨(some 17), none, .mv (.tmp 2)⟩,
    ⟨(some 18), none, .call 31 [(.tmp 15), (.tmp 16), (.tmp 17)]⟩,
    ⟨(some 19), none, .not (.tmp 18)⟩])
  (.cond (.tmp 19) (.seq (.ops [⟨(some 6), none, .mv (.const (.bool false))⟩])
  (.ret)) (.skip)))))
  (.kept [1, 2, 9, 10, 11] (.ops [⟨(some 20), none, .bin .add (.tmp 11) (.const (.int .i64 1))⟩,
    ⟨(some 11), none, .mv (.tmp 20)⟩]))))
def c_spec_l1All : AS :=
  .seq (.ops [⟨(some 6), none, .mv (.const (.bool false))⟩])
  (.seq (.seq (.ops [⟨(some 9), none, .mv (.tmp 0)⟩,
    ⟨(some 10), none, .lens (.tmp 9)⟩,
    ⟨(some 11), none, .mv (.const (.int .i64 0))⟩])
  (.block 0 (.loop 3 [(1, 0), (2, 0), (9, 0), (10, 0), (11, 0)] c_spec_l1All_l1)))
  (.kept [] (.seq (.ops [⟨(some 6), none, .mv (.const (.bool true))⟩])
  (.ret))))
theorem h_spec_l1All : (Try.prog.funcs[n_spec_l1All]?).bind (fun fn => fn.body.bind (comp Try.prog fn.ntmps)) = some (AS.strip c_spec_l1All) := by kernel_rfl
theorem r_spec_l1All : (Try.prog.funcs[n_spec_l1All]?).map (fun fn => (fn.results.toList, fn.ntmps)) = some ([.tmp 6], 21) := by kernel_rfl
-- 70 loop.example/g00850/impl.GoodPlaces
abbrev n_impl_GoodPlaces : Nat := 70
def c_impl_GoodPlaces : AS :=
  .seq (.ops [⟨(some 1), none, .box (.tmp 0)⟩,
    ⟨(some 2), none, .mv (.const (.bool false))⟩])
  (.seq (.ops [⟨(some 3), none, .fa 0 (.tmp 1)⟩,
    ⟨(some 4), none, .load none (.tmp 3)⟩,
    ⟨(some 5), none, .call 62 [(.tmp 4), (.const (.int .i64 0)), (.const (.int .i64 50))]⟩,
    ⟨(some 6), none, .mv (.tmp 5)⟩,
    ⟨(some 7), some (6, true), .fa 1 (.tmp 1)⟩,
    ⟨(some 8), some (6, true), .load none (.tmp 7)⟩,
    ⟨(some 9), some (6, true), .lens (.tmp 8)⟩,
    ⟨(some 10), some (6, true), .bin .leq (.tmp 9) (.const (.int .i64 4))⟩,
    ⟨(some 11), none, .pick (.tmp 6) (.tmp 10) (.const (.bool false))⟩,
    ⟨(some 12), none, .mv (.tmp 11)⟩,
    ⟨(some 13), some (12, true), .fa 1 (.tmp 1)⟩,
    ⟨(some 14), some (12, true), .load none (.tmp 13)⟩,
    ⟨(some 15), some (12, true), .call 89 [(.tmp 14)]⟩,
    ⟨(some 16), none, .pick (.tmp 12) (.tmp 15) (.const (.bool false))⟩,
    ⟨(some 17), none, .mv (.tmp 16)⟩,
    ⟨(some 18), some (17, true), .fa 2 (.tmp 1)⟩,
    ⟨(some 19), some (17, true), .load none (.tmp 18)⟩,
    ⟨(some 20), some (17, true), .lens (.tmp 19)⟩,
    ⟨(some 21), some (17, true), .fa 1 (.tmp 1)⟩,
    ⟨(some 22), some (17, true), .load none (.tmp 21)⟩,
    ⟨(some 23), some (17, true), .lens (.tmp 22)⟩,
    ⟨(some 24), some (17, true), .bin .add (.tmp 23) (.const (.int .i64 1))⟩,
    ⟨(some 25), some (17, true), .bin .eql (.tmp 20) (.tmp 24)⟩,
    ⟨(some 26), none, .pick (.tmp 17) (.tmp 25) (.const (.bool false))⟩,
    ⟨(some 27), none, .mv (.tmp 26)⟩,
    ⟨(some 28), some (27, true), .fa 2 (.tmp 1)⟩,
    ⟨(some 29), some (27, true), .load none (.tmp 28)⟩,
    ⟨(some 30), some (27, true), .call 90 [(.tmp 29), (.func 91)]⟩,
    ⟨(some 31), some (27, true), .not (.tmp 30)⟩,
    ⟨(some 32), none, .pick (.tmp 27) (.tmp 31) (.const (.bool false))⟩,
    ⟨(some 2), none, .mv (.tmp 32)⟩])
  (.ret))
theorem h_impl_GoodPlaces : (Try.prog.funcs[n_impl_GoodPlaces]?).bind (fun fn => fn.body.bind (comp Try.prog fn.ntmps)) = some (AS.strip c_impl_GoodPlaces) := by kernel_rfl
theorem r_impl_GoodPlaces : (Try.prog.funcs[n_impl_GoodPlaces]?).map (fun fn => (fn.results.toList, fn.ntmps)) = some ([.tmp 2], 33) := by kernel_rfl
-- 71 slices.Clone[[]string,string]
abbrev n_slices_Clone___string_string_ : Nat := 71
def c_slices_Clone___string_string_ : AS :=
  .seq (.ops [⟨(some 2), none, .mv (.const (.slice none 0 0))⟩])
  (.seq (.seq (.ops [⟨(some 3), none, .mv (.tmp 0)⟩,
    ⟨(some 4), none, .isn false (.tmp 3)⟩])
  (.cond (.tmp 4) (.seq (.ops [⟨(some 2), none, .mv (.const (.slice none 0 0))⟩])
  (.ret)) (.skip)))
  (.seq (.ops [⟨(some 5), none, .bsl 1 (.string ⟨⟨[]⟩⟩) 0 []⟩,
    ⟨(some 6), none, .mv (.tmp 0)⟩,
    ⟨(some 7), none, .app 1 16 (.string ⟨⟨[]⟩⟩) (.tmp 5) (.tmp 6)⟩,
    ⟨(some 2), none, .mv (.tmp 7)⟩])
  (.ret)))
theorem h_slices_Clone___string_string_ : (Try.prog.funcs[n_slices_Clone___string_string_]?).bind (fun fn => fn.body.bind (comp Try.prog fn.ntmps)) = some (AS.strip c_slices_Clone___string_string_) := by kernel_rfl
theorem r_slices_Clone___string_string_ : (Try.prog.funcs[n_slices_Clone___string_string_]?).map (fun fn => (fn.results.toList, fn.ntmps)) = some ([.tmp 2], 8) := by kernel_rfl
-- 72 slices.Clone[[]int,int]
abbrev n_slices_Clone___int_int_ : Nat := 72
def c_slices_Clone___int_int_ : AS :=
  .seq (.ops [⟨(some 2), none, .mv (.const (.slice none 0 0))⟩])
  (.seq (.seq (.ops [⟨(some 3), none, .mv (.tmp 0)⟩,
    ⟨(some 4), none, .isn false (.tmp 3)⟩])
  (.cond (.tmp 4) (.seq (.ops [⟨(some 2), none, .mv (.const (.slice none 0 0))⟩])
  (.ret)) (.skip)))
  (.seq (.ops [⟨(some 5), none, .bsl 1 (.int .i64 0) 0 []⟩,
    ⟨(some 6), none, .mv (.tmp 0)⟩,
    ⟨(some 7), none, .app 1 8 (.int .i64 0) (.tmp 5) (.tmp 6)⟩,
    ⟨(some 2), none, .mv (.tmp 7)⟩])
  (.ret)))
theorem h_slices_Clone___int_int_ : (Try.prog.funcs[n_slices_Clone___int_int_]?).bind (fun fn => fn.body.bind (comp Try.prog fn.ntmps)) = some (AS.strip c_slices_Clone___int_int_) := by kernel_rfl
theorem r_slices_Clone___int_int_ : (Try.prog.funcs[n_slices_Clone___int_int_]?).map (fun fn => (fn.results.toList, fn.ntmps)) = some ([.tmp 2], 8) := by kernel_rfl
-- 73 loop.example/g00850/laws.markText
abbrev n_laws_markText : Nat := 73
def c_laws_markText_l1 : AS :=
  .seq (.seq (.ops [⟨(some 6), none, .mv (.tmp 0)⟩,
    ⟨(some 7), none, .bin .gtr (.tmp 6) (.const (.int .i64 0))⟩])
  (.cond (.tmp 7) (.skip) (.exit 0)))
  (.block 1 (.seq (.ops [⟨(some 8), none, .mv (.tmp 0)⟩,
    ⟨(some 9), none, .bin .rem (.tmp 8) (.const (.int .i64 10))⟩,
    ⟨(some 10), none, .bin .add (.const (.int .i64 48)) (.tmp 9)⟩,
    ⟨(some 11), none, .cvi .u8 (.tmp 10)⟩,
    ⟨(some 12), none, .bsl 1 (.int .u8 0) 1 [(0, (.tmp 11))]⟩,
    ⟨(some 13), none, .cvbs (.tmp 12)⟩,
    ⟨(some 14), none, .mv (.tmp 3)⟩,
    ⟨(some 15), none, .bin .add (.tmp 13) (.tmp 14)⟩,
    ⟨(some 3), none, .mv (.tmp 15)⟩])
  (.kept [0, 3] (.ops [⟨(some 16), none, .mv (.tmp 0)⟩,
    ⟨(some 17), none, .bin .quo (.tmp 16) (.const (.int .i64 10))⟩,
    ⟨(some 0), none, .mv (.tmp 17)⟩]))))
def c_laws_markText : AS :=
  .seq (.ops [⟨(some 2), none, .mv (.const (.string ⟨⟨[]⟩⟩))⟩])
  (.seq (.seq (.ops [⟨(some 4), none, .mv (.tmp 0)⟩,
    ⟨(some 5), none, .bin .leq (.tmp 4) (.const (.int .i64 0))⟩])
  (.cond (.tmp 5) (.seq (.ops [⟨(some 2), none, .mv (.const (.string ⟨⟨[109, 48]⟩⟩))⟩])
  (.ret)) (.skip)))
  (.seq (.ops [⟨(some 3), none, .mv (.const (.string ⟨⟨[]⟩⟩))⟩])
  (.seq (.block 0 (.loop 1 [(0, 0), (3, 0)] c_laws_markText_l1))
  (.kept [3] (.seq (.ops [⟨(some 18), none, .mv (.tmp 3)⟩,
    ⟨(some 19), none, .bin .add (.const (.string ⟨⟨[109]⟩⟩)) (.tmp 18)⟩,
    ⟨(some 2), none, .mv (.tmp 19)⟩])
  (.ret))))))
theorem h_laws_markText : (Try.prog.funcs[n_laws_markText]?).bind (fun fn => fn.body.bind (comp Try.prog fn.ntmps)) = some (AS.strip c_laws_markText) := by kernel_rfl
theorem r_laws_markText : (Try.prog.funcs[n_laws_markText]?).map (fun fn => (fn.results.toList, fn.ntmps)) = some ([.tmp 2], 20) := by kernel_rfl
-- 88 loop.example/g00850/spec.l3Bytes
abbrev n_spec_l3Bytes : Nat := 88
def c_spec_l3Bytes_l1 : AS :=
  .seq (.seq (.ops [⟨(some 36), none, .mv (.tmp 7)⟩,
    ⟨(some 37), none, .mv (.tmp 1)⟩,
    ⟨(some 38), none, .lent (.tmp 37)⟩,
    ⟨(some 39), none, .bin .lss (.tmp 36) (.tmp 38)⟩])
  (.cond (.tmp 39) (.skip) (.exit 2)))
  (.seq (.block 3 (.dops [⟨(some 42), none, .mv (.tmp 6)⟩,
    ⟨(some 43), none, .mv (.tmp 42)⟩,
    ⟨(some 44), some (43, false), .mv (.tmp 0)⟩,
    ⟨(some 45), some (43, false), .mv (.tmp 5)⟩,
    ⟨(some 46), some (43, false), .ix (.tmp 44) (.tmp 45)⟩,
    ⟨(some 47), some (43, false), .mv (.tmp 1)⟩,
    ⟨(some 48), some (43, false), .mv (.tmp 7)⟩,
    ⟨(some 49), some (43, false), .ix (.tmp 47) (.tmp 48)⟩,
    ⟨(some 50), some (43, false), .bin .eql (.tmp 46) (.tmp 49)⟩,
    ⟨(some 51), none, .pick (.tmp 43) (.const (.bool true)) (.tmp 50)⟩,
    ⟨(some 6), none, .mv (.tmp 51)⟩]))
  (.kept [0, 1, 5, 6, 7] (.ops [⟨(some 40), none, .mv (.tmp 7)⟩,
    ⟨(some 41), none, .bin .add (.tmp 40) (.const (.int .i64 1))⟩,
    ⟨(some 7), none, .mv (.tmp 41)⟩])))
def c_spec_l3Bytes_l2 : AS :=
  .seq (.seq (.ops [⟨(some 8), none, .mv (.tmp 5)⟩,
    ⟨(some 9), none, .mv (.tmp 0)⟩,
    ⟨(some 10), none, .lent (.tmp 9)⟩,
    ⟨(some 11), none, .bin .lss (.tmp 8) (.tmp 10)⟩])
  (.cond (.tmp 11) (.skip) (.exit 0)))
  (.seq (.block 1 (.seq (.ops [⟨(some 14), none, .mv (.tmp 0)⟩,
    ⟨(some 15), none, .mv (.tmp 5)⟩,
    ⟨(some 16), none, .ix (.tmp 14) (.tmp 15)⟩,
    ⟨(some 17), none, .bin .geq (.tmp 16) (.const (.int .u8 97))⟩,
    ⟨(some 18), none, .mv (.tmp 17)⟩,
    ⟨(some 19), some (18, true), .mv (.tmp 0)⟩,
    ⟨(some 20), some (18, true), .mv (.tmp 5)⟩,
    ⟨(some 21), some (18, true), .ix (.tmp 19) (.tmp 20)⟩,
    ⟨(some 22), some (18, true), .bin .leq (.tmp 21) (.const (.int .u8 122))⟩,
    ⟨(some 23), none, .pick (.tmp 18) (.tmp 22) (.const (.bool false))⟩,
    ⟨(some 24), none, .mv (.tmp 23)⟩,
    ⟨(some 25), some (24, false), .mv (.tmp 0)⟩,
    ⟨(some 26), some (24, false), .mv (.tmp 5)⟩,
    ⟨(some 27), some (24, false), .ix (.tmp 25) (.tmp 26)⟩,
    ⟨(some 28), some (24, false), .bin .geq (.tmp 27) (.const (.int .u8 48))⟩,
    ⟨(some 29), some (24, false), .mv (.tmp 28)⟩,
    ⟨(some 30), some (29, true), .mv (.tmp 0)⟩,
    ⟨(some 31), some (29, true), .mv (.tmp 5)⟩,
    ⟨(some 32), some (29, true), .ix (.tmp 30) (.tmp 31)⟩,
    ⟨(some 33), some (29, true), .bin .leq (.tmp 32) (.const (.int .u8 57))⟩,
    ⟨(some 34), some (24, false), .pick (.tmp 29) (.tmp 33) (.const (.bool false))⟩,
    ⟨(some 35), none, .pick (.tmp 24) (.const (.bool true)) (.tmp 34)⟩,
    ⟨(some 6), none, .mv (.tmp 35)⟩])
  (.kept [0, 1, 5, 6] (.seq (.seq (.ops [⟨(some 7), none, .mv (.const (.int .i64 0))⟩])
  (.block 2 (.loop 2 [(0, 0), (1, 0), (5, 0), (6, 0), (7, 0)] c_spec_l3Bytes_l1)))
  (.kept [0, 1, 5, 6] (.seq (.ops [⟨(some 52), none, .mv (.tmp 6)⟩,
    ⟨(some 53), none, .not (.tmp 52)⟩])
  (.cond (.tmp 53) (.seq (.ops [⟨(some 4), none, .mv (.const (.bool false))⟩])
  (.ret)) (.skip))))))))
  (.kept [0, 1, 5] (.ops [⟨(some 12), none, .mv (.tmp 5)⟩,
    ⟨(some 13), none, .bin .add (.tmp 12) (.const (.int .i64 1))⟩,
    ⟨(some 5), none, .mv (.tmp 13)⟩])))
def c_spec_l3Bytes : AS :=
  .seq (.ops [⟨(some 4), none, .mv (.const (.bool false))⟩])
  (.seq (.seq (.ops [⟨(some 5), none, .mv (.const (.int .i64 0))⟩])
  (.block 0 (.loop 2 [(0, 0), (1, 0), (5, 0)] c_spec_l3Bytes_l2)))
  (.kept [] (.seq (.ops [⟨(some 4), none, .mv (.const (.bool true))⟩])
  (.ret))))
theorem h_spec_l3Bytes : (Try.prog.funcs[n_spec_l3Bytes]?).bind (fun fn => fn.body.bind (comp Try.prog fn.ntmps)) = some (AS.strip c_spec_l3Bytes) := by kernel_rfl
theorem r_spec_l3Bytes : (Try.prog.funcs[n_spec_l3Bytes]?).map (fun fn => (fn.results.toList, fn.ntmps)) = some ([.tmp 4], 54) := by kernel_rfl
-- 89 loop.example/g00850/impl.areRising
abbrev n_impl_areRising : Nat := 89
def c_impl_areRising_l1 : AS :=
  .seq (.ops [⟨(some 8), none, .bin .lss (.tmp 7) (.tmp 6)⟩])
  (.seq (.cond (.tmp 8) (.skip) (.exit 0))
  (.seq (.block 1 (.seq (.ops [⟨(some 9), none, .mv (.tmp 7)⟩,
    ⟨(some 10), none, .ia 1 (.tmp 5) (.tmp 7)⟩,
    ⟨(some 11), none, .load none (.tmp 10)⟩,
    ⟨(some 3), none, .mv (.tmp 9)⟩,
    ⟨(some 4), none, .mv (.tmp 11)⟩])
  (.seq (.ops [⟨(some 12), none, .mv (.tmp 4)⟩,
    ⟨(some 13), none, .call 96 [(.tmp 12)]⟩,
    ⟨(some 14), none, .not (.tmp 13)⟩,
    ⟨(some 15), none, .mv (.tmp 14)⟩,
    ⟨(some 16), some (15, false), .mv (.tmp 3)⟩,
    ⟨(some 17), some (15, false), .bin .gtr (.tmp 16) (.const (.int .i64 0))⟩,
    ⟨(some 18), some (15, false), .mv (.tmp 17)⟩,
    ⟨(some 19), some (18, true), .mv (.tmp 4)⟩,
    ⟨(some 20), some (18, true), .mv (.tmp 0)⟩,
    ⟨(some 21), some (18, true), .mv (.tmp 3)⟩,
    ⟨(some 22), some (18, true), .bin .sub (.tmp 21) (.const (.int .i64 1))⟩,
    ⟨(some 23), some (18, true), .ia 1 (.tmp 20) (.tmp 22)⟩,
    ⟨(some 24), some (18, true), .load none (.tmp 23)⟩,
    ⟨(some 25), some (18, true), .bin .leq (.tmp 19) (.tmp 24)⟩,
    ⟨(some 26), some (15, false), .pick (.tmp 18) (.tmp 25) (.const (.bool false))⟩,
    ⟨(some 27), none, .pick (.tmp 15) (.const (.bool true)) (.tmp 26)⟩])
  (.kept [0, 5, 6, 7, 27] (.cond (.tmp 27) (.seq (.ops [⟨(some 2), none, .mv (.const (.bool false))⟩])
  (.ret)) (.skip))))))
  (.kept [0, 5, 6, 7] (.ops [⟨(some 28), none, .bin .add (.tmp 7) (.const (.int .i64 1))⟩,
    ⟨(some 7), none, .mv (.tmp 28)⟩]))))
def c_impl_areRising : AS :=
  .seq (.ops [⟨(some 2), none, .mv (.const (.bool false))⟩])
  (.seq (.seq (.ops [⟨(some 5), none, .mv (.tmp 0)⟩,
    ⟨(some 6), none, .lens (.tmp 5)⟩,
    ⟨(some 7), none, .mv (.const (.int .i64 0))⟩])
  (.block 0 (.loop 1 [(0, 0), (5, 0), (6, 0), (7, 0)] c_impl_areRising_l1)))
  (.kept [] (.seq (.ops [⟨(some 2), none, .mv (.const (.bool true))⟩])
  (.ret))))
theorem h_impl_areRising : (Try.prog.funcs[n_impl_areRising]?).bind (fun fn => fn.body.bind (comp Try.prog fn.ntmps)) = some (AS.strip c_impl_areRising) := by kernel_rfl
theorem r_impl_areRising : (Try.prog.funcs[n_impl_areRising]?).map (fun fn => (fn.results.toList, fn.ntmps)) = some ([.tmp 2], 29) := by kernel_rfl
-- 90 slices.ContainsFunc[[]int,int]
abbrev n_slices_ContainsFunc___int_int_ : Nat := 90
def c_slices_ContainsFunc___int_int_ : AS :=
  .seq (.ops [⟨(some 4), none, .mv (.const (.bool false))⟩])
  (.seq (.ops [⟨(some 5), none, .mv (.tmp 0)⟩,
    ⟨(some 6), none, .mv (.tmp 1)⟩,
    ⟨(some 7), none, .call 97 [(.tmp 5), (.tmp 6)]⟩,
    ⟨(some 8), none, .bin .geq (.tmp 7) (.const (.int .i64 0))⟩,
    ⟨(some 4), none, .mv (.tmp 8)⟩])
  (.ret))
theorem h_slices_ContainsFunc___int_int_ : (Try.prog.funcs[n_slices_ContainsFunc___int_int_]?).bind (fun fn => fn.body.bind (comp Try.prog fn.ntmps)) = some (AS.strip c_slices_ContainsFunc___int_int_) := by kernel_rfl
theorem r_slices_ContainsFunc___int_int_ : (Try.prog.funcs[n_slices_ContainsFunc___int_int_]?).map (fun fn => (fn.results.toList, fn.ntmps)) = some ([.tmp 4], 9) := by kernel_rfl
-- 91 loop.example/g00850/impl.GoodPlaces$1
abbrev n_impl_GoodPlaces_1 : Nat := 91
def c_impl_GoodPlaces_1 : AS :=
  .seq (.ops [⟨(some 2), none, .mv (.const (.bool false))⟩])
  (.seq (.ops [⟨(some 3), none, .mv (.tmp 0)⟩,
    ⟨(some 4), none, .call 92 [(.tmp 3)]⟩,
    ⟨(some 5), none, .not (.tmp 4)⟩,
    ⟨(some 2), none, .mv (.tmp 5)⟩])
  (.ret))
theorem h_impl_GoodPlaces_1 : (Try.prog.funcs[n_impl_GoodPlaces_1]?).bind (fun fn => fn.body.bind (comp Try.prog fn.ntmps)) = some (AS.strip c_impl_GoodPlaces_1) := by kernel_rfl
theorem r_impl_GoodPlaces_1 : (Try.prog.funcs[n_impl_GoodPlaces_1]?).map (fun fn => (fn.results.toList, fn.ntmps)) = some ([.tmp 2], 6) := by kernel_rfl
-- 92 loop.example/g00850/impl.isGroup
abbrev n_impl_isGroup : Nat := 92
def c_impl_isGroup : AS :=
  .seq (.ops [⟨(some 2), none, .mv (.const (.bool false))⟩])
  (.seq (.ops [⟨(some 3), none, .mv (.tmp 0)⟩,
    ⟨(some 4), none, .call 62 [(.tmp 3), (.const (.int .i64 0)), (.const (.int .i64 3))]⟩,
    ⟨(some 2), none, .mv (.tmp 4)⟩])
  (.ret))
theorem h_impl_isGroup : (Try.prog.funcs[n_impl_isGroup]?).bind (fun fn => fn.body.bind (comp Try.prog fn.ntmps)) = some (AS.strip c_impl_isGroup) := by kernel_rfl
theorem r_impl_isGroup : (Try.prog.funcs[n_impl_isGroup]?).map (fun fn => (fn.results.toList, fn.ntmps)) = some ([.tmp 2], 5) := by kernel_rfl
-- 96 loop.example/g00850/impl.GoodKey
abbrev n_impl_GoodKey : Nat := 96
def c_impl_GoodKey : AS :=
  .seq (.ops [⟨(some 2), none, .mv (.const (.bool false))⟩])
  (.seq (.ops [⟨(some 3), none, .mv (.tmp 0)⟩,
    ⟨(some 4), none, .lent (.tmp 3)⟩,
    ⟨(some 5), none, .call 62 [(.tmp 4), (.const (.int .i64 1)), (.const (.int .i64 12))]⟩,
    ⟨(some 6), none, .mv (.tmp 5)⟩,
    ⟨(some 7), some (6, true), .mv (.tmp 0)⟩,
    ⟨(some 8), some (6, true), .call 99 [(.tmp 7), (.const (.string ⟨⟨[46, 47]⟩⟩))]⟩,
    ⟨(some 9), none, .pick (.tmp 6) (.tmp 8) (.const (.bool false))⟩,
    ⟨(some 2), none, .mv (.tmp 9)⟩])
  (.ret))
theorem h_impl_GoodKey : (Try.prog.funcs[n_impl_GoodKey]?).bind (fun fn => fn.body.bind (comp Try.prog fn.ntmps)) = some (AS.strip c_impl_GoodKey) := by kernel_rfl
theorem r_impl_GoodKey : (Try.prog.funcs[n_impl_GoodKey]?).map (fun fn => (fn.results.toList, fn.ntmps)) = some ([.tmp 2], 10) := by kernel_rfl
-- 97 slices.IndexFunc[[]int,int]
abbrev n_slices_IndexFunc___int_int_ : Nat := 97
def c_slices_IndexFunc___int_int__l1 : AS :=
  .seq (.ops [⟨(some 9), none, .bin .lss (.tmp 8) (.tmp 7)⟩])
  (.seq (.cond (.tmp 9) (.skip) (.exit 0))
  (.seq (.block 1 (.seq (.ops [⟨(some 10), none, .mv (.tmp 8)⟩,
    ⟨(some 5), none, .mv (.tmp 10)⟩])
  (.seq (.ops [⟨(some 11), none, .mv (.tmp 1)⟩,
    ⟨(some 12), none, .mv (.tmp 0)⟩,
    ⟨(some 13), none, .mv (.tmp 5)⟩,
    ⟨(some 14), none, .ia 1 (.tmp 12) (.tmp 13)⟩,
    ⟨(some 15), none, .load none (.tmp 14)⟩,
    ⟨(some 16), none, .callv (.tmp 11) [(.tmp 15)]⟩])
  (.cond (.tmp 16) (.seq (.ops [⟨(some 17), none, .mv (.tmp 5)⟩,
    ⟨(some 4), none, .mv (.tmp 17)⟩])
  (.ret)) (.skip)))))
  (.kept [0, 1, 7, 8] (.ops [⟨(some 18), none, .bin .add (.tmp 8) (.const (.int .i64 1))⟩,
    ⟨(some 8), none, .mv (.tmp 18)⟩]))))
def c_slices_IndexFunc___int_int_ : AS :=
  .seq (.ops [⟨(some 4), none, .mv (.const (.int .i64 0))⟩])
  (.seq (.seq (.ops [⟨(some 6), none, .mv (.tmp 0)⟩,
    ⟨(some 7), none, .lens (.tmp 6)⟩,
    ⟨(some 8), none, .mv (.const (.int .i64 0))⟩])
  (.block 0 (.loop 2 [(0, 0), (1, 0), (7, 0), (8, 0)] c_slices_IndexFunc___int_int__l1)))
  (.kept [] (.seq (.ops [⟨(some 4), none, .mv (.const (.int .i64 (-1)))⟩])
  (.ret))))
theorem h_slices_IndexFunc___int_int_ : (Try.prog.funcs[n_slices_IndexFunc___int_int_]?).bind (fun fn => fn.body.bind (comp Try.prog fn.ntmps)) = some (AS.strip c_slices_IndexFunc___int_int_) := by kernel_rfl
theorem r_slices_IndexFunc___int_int_ : (Try.prog.funcs[n_slices_IndexFunc___int_int_]?).map (fun fn => (fn.results.toList, fn.ntmps)) = some ([.tmp 4], 19) := by kernel_rfl
-- 99 loop.example/g00850/impl.hasBytes
abbrev n_impl_hasBytes : Nat := 99
def c_impl_hasBytes_l1 : AS :=
  .seq (.ops [⟨(some 9), none, .bin .lss (.tmp 8) (.tmp 7)⟩])
  (.seq (.cond (.tmp 9) (.skip) (.exit 0))
  (.seq (.block 1 (.seq (.ops [⟨(some 10), none, .mv (.tmp 8)⟩,
    ⟨(some 5), none, .mv (.tmp 10)⟩])
  (.seq (.ops [⟨(some 11), none, .mv (.tmp 0)⟩,
    ⟨(some 12), none, .mv (.tmp 5)⟩,
    ⟨(some 13), none, .ix (.tmp 11) (.tmp 12)⟩,
    ⟨(some 14), none, .call 101 [(.tmp 13)]⟩,
    ⟨(some 15), none, .not (.tmp 14)⟩,
    ⟨(some 16), none, .mv (.tmp 15)⟩,
    ⟨(some 17), some (16, true), .mv (.tmp 1)⟩,
    ⟨(some 18), some (16, true), .mv (.tmp 0)⟩,
    ⟨(some 19), some (16, true), .mv (.tmp 5)⟩,
    ⟨(some 20), some (16, true), .ix (.tmp 18) (.tmp 19)⟩,
    ⟨(some 21), some (16, true), .call 102 [(.tmp 17), (.tmp 20)]⟩,
    ⟨(some 22), some (16, true), .bin .lss (.tmp 21) (.const (.int .i64 0))⟩,
    ⟨(some 23), none, .pick (.tmp 16) (.tmp 22) (.const (.bool false))⟩])
  (.kept [0, 1, 7, 8, 23] (.cond (.tmp 23) (.seq (.ops [⟨(some 4), none, .mv (.const (.bool false))⟩])
  (.ret)) (.skip))))))
  (.kept [0, 1, 7, 8] (.ops [⟨(some 24), none, .bin .add (.tmp 8) (.const (.int .i64 1))⟩,
    ⟨(some 8), none, .mv (.tmp 24)⟩]))))
def c_impl_hasBytes : AS :=
  .seq (.ops [⟨(some 4), none, .mv (.const (.bool false))⟩])
  (.seq (.seq (.ops [⟨(some 6), none, .mv (.tmp 0)⟩,
    ⟨(some 7), none, .lent (.tmp 6)⟩,
    ⟨(some 8), none, .mv (.const (.int .i64 0))⟩])
  (.block 0 (.loop 2 [(0, 0), (1, 0), (7, 0), (8, 0)] c_impl_hasBytes_l1)))
  (.kept [] (.seq (.ops [⟨(some 4), none, .mv (.const (.bool true))⟩])
  (.ret))))
theorem h_impl_hasBytes : (Try.prog.funcs[n_impl_hasBytes]?).bind (fun fn => fn.body.bind (comp Try.prog fn.ntmps)) = some (AS.strip c_impl_hasBytes) := by kernel_rfl
theorem r_impl_hasBytes : (Try.prog.funcs[n_impl_hasBytes]?).map (fun fn => (fn.results.toList, fn.ntmps)) = some ([.tmp 4], 25) := by kernel_rfl
-- 101 loop.example/g00850/impl.isLowerOrDigit
abbrev n_impl_isLowerOrDigit : Nat := 101
def c_impl_isLowerOrDigit : AS :=
  .seq (.ops [⟨(some 2), none, .mv (.const (.bool false))⟩])
  (.seq (.ops [⟨(some 3), none, .mv (.tmp 0)⟩,
    ⟨(some 4), none, .bin .geq (.tmp 3) (.const (.int .u8 97))⟩,
    ⟨(some 5), none, .mv (.tmp 4)⟩,
    ⟨(some 6), some (5, true), .mv (.tmp 0)⟩,
    ⟨(some 7), some (5, true), .bin .leq (.tmp 6) (.const (.int .u8 122))⟩,
    ⟨(some 8), none, .pick (.tmp 5) (.tmp 7) (.const (.bool false))⟩,
    ⟨(some 9), none, .mv (.tmp 8)⟩,
    ⟨(some 10), some (9, false), .mv (.tmp 0)⟩,
    ⟨(some 11), some (9, false), .bin .geq (.tmp 10) (.const (.int .u8 48))⟩,
    ⟨(some 12), some (9, false), .mv (.tmp 11)⟩,
    ⟨(some 13), some (12, true), .mv (.tmp 0)⟩,
    ⟨(some 14), some (12, true), .bin .leq (.tmp 13) (.const (.int .u8 57))⟩,
    ⟨(some 15), some (9, false), .pick (.tmp 12) (.tmp 14) (.const (.bool false))⟩,
    ⟨(some 16), none, .pick (.tmp 9) (.const (.bool true)) (.tmp 15)⟩,
    ⟨(some 2), none, .mv (.tmp 16)⟩])
  (.ret))
theorem h_impl_isLowerOrDigit : (Try.prog.funcs[n_impl_isLowerOrDigit]?).bind (fun fn => fn.body.bind (comp Try.prog fn.ntmps)) = some (AS.strip c_impl_isLowerOrDigit) := by kernel_rfl
theorem r_impl_isLowerOrDigit : (Try.prog.funcs[n_impl_isLowerOrDigit]?).map (fun fn => (fn.results.toList, fn.ntmps)) = some ([.tmp 2], 17) := by kernel_rfl
-- 102 strings.IndexByte
abbrev n_strings_IndexByte : Nat := 102
def c_strings_IndexByte : AS :=
  .seq (.ops [⟨(some 4), none, .mv (.const (.int .i64 0))⟩])
  (.seq (.ops [⟨(some 5), none, .mv (.tmp 0)⟩,
    ⟨(some 6), none, .mv (.tmp 1)⟩,
    ⟨(some 7), none, .call 103 [(.tmp 5), (.tmp 6)]⟩,
    ⟨(some 4), none, .mv (.tmp 7)⟩])
  (.ret))
theorem h_strings_IndexByte : (Try.prog.funcs[n_strings_IndexByte]?).bind (fun fn => fn.body.bind (comp Try.prog fn.ntmps)) = some (AS.strip c_strings_IndexByte) := by kernel_rfl
theorem r_strings_IndexByte : (Try.prog.funcs[n_strings_IndexByte]?).map (fun fn => (fn.results.toList, fn.ntmps)) = some ([.tmp 4], 8) := by kernel_rfl
-- 103 internal/stringslite.IndexByte
abbrev n_internal_stringslite_IndexByte : Nat := 103
def c_internal_stringslite_IndexByte : AS :=
  .seq (.ops [⟨(some 4), none, .mv (.const (.int .i64 0))⟩])
  (.seq (.ops [⟨(some 5), none, .mv (.tmp 0)⟩,
    ⟨(some 6), none, .mv (.tmp 1)⟩,
    ⟨(some 7), none, .xcall 104 [(.tmp 5), (.tmp 6)]⟩,
    ⟨(some 4), none, .mv (.tmp 7)⟩])
  (.ret))
theorem h_internal_stringslite_IndexByte : (Try.prog.funcs[n_internal_stringslite_IndexByte]?).bind (fun fn => fn.body.bind (comp Try.prog fn.ntmps)) = some (AS.strip c_internal_stringslite_IndexByte) := by kernel_rfl
theorem r_internal_stringslite_IndexByte : (Try.prog.funcs[n_internal_stringslite_IndexByte]?).map (fun fn => (fn.results.toList, fn.ntmps)) = some ([.tmp 4], 8) := by kernel_rfl
-- 104 internal/bytealg.IndexByteString
abbrev n_internal_bytealg_IndexByteString : Nat := 104
-- NOT COMPILED
theorem d_internal_bytealg_IndexByteString : Try.prog.funcs[n_internal_bytealg_IndexByteString]? = some Try.f104 := by kernel_rfl

end Go.Proofs.Wb

/- The compiled statements of the functions that the law reaches. -/
import Derived.Test.YtnegienpomoodaaGreatProg
import Derived.Test.YtnegienpomoodaaGreatAmAuto
import Derived.Test.YtnegienpomoodaaGreatAmSet
namespace Go.Proofs.Wb
open Go Go.Am
@[go_sem] theorem w_7 : wide Tryz.prog 7 = some (some 4) := by kernel_rfl
@[go_sem] theorem w_8 : wide Tryz.prog 8 = some (some 4) := by kernel_rfl
@[go_sem] theorem w_13 : wide Tryz.prog 13 = some (some 2) := by kernel_rfl
@[go_sem] theorem w_14 : wide Tryz.prog 14 = some (some 2) := by kernel_rfl
@[go_sem] theorem w_18 : wide Tryz.prog 18 = some (some 1) := by kernel_rfl
@[go_sem] theorem w_19 : wide Tryz.prog 19 = some (some 1) := by kernel_rfl
@[go_sem] theorem w_33 : wide Tryz.prog 33 = some (some 8) := by kernel_rfl
@[go_sem] theorem w_34 : wide Tryz.prog 34 = some (some 8) := by kernel_rfl
@[go_sem] theorem w_41 : wide Tryz.prog 41 = some (some 8) := by kernel_rfl
@[go_sem] theorem w_42 : wide Tryz.prog 42 = some (some 8) := by kernel_rfl
@[go_sem] theorem w_66 : wide Tryz.prog 66 = some (some 3) := by kernel_rfl
@[go_sem] theorem w_67 : wide Tryz.prog 67 = some (some 3) := by kernel_rfl
@[go_sem] theorem w_69 : wide Tryz.prog 69 = some (some 3) := by kernel_rfl
@[go_sem] theorem w_70 : wide Tryz.prog 70 = some (some 3) := by kernel_rfl
@[go_sem] theorem w_76 : wide Tryz.prog 76 = some (some 3) := by kernel_rfl
@[go_sem] theorem w_78 : wide Tryz.prog 78 = some (some 3) := by kernel_rfl
@[go_sem] theorem w_119 : wide Tryz.prog 119 = some (some 4) := by kernel_rfl
@[go_sem] theorem w_120 : wide Tryz.prog 120 = some (some 4) := by kernel_rfl
@[go_sem] theorem w_132 : wide Tryz.prog 132 = some (some 11) := by kernel_rfl
@[go_sem] theorem w_133 : wide Tryz.prog 133 = some (some 11) := by kernel_rfl
-- 3 loop.example/g00850/laws.FnExactStrictByTime
abbrev n_laws_FnExactStrictByTime : Nat := 3
def c_laws_FnExactStrictByTime : AS :=
  .seq (.ops [⟨(some 2), none, .mv (.const (.bool false))⟩])
  (.seq (.ops [⟨(some 3), none, .mv (.const (.int .i64 1048576))⟩])
  (.seq (.ops [⟨(some 9), none, .mv (.tmp 0)⟩,
    ⟨(some 10), none, .mv (.tmp 3)⟩,
    ⟨(some 11), none, .call 4 [(.tmp 9), (.tmp 10)]⟩,
    ⟨(some 3), none, .mv (.tmp 11)⟩])
  (.seq (.seq (.ops [⟨(some 12), none, .mv (.tmp 3)⟩,
    ⟨(some 13), none, .bin .lss (.tmp 12) (.const (.int .i64 0))⟩])
  (.cond (.tmp 13) (.seq (.ops [⟨(some 2), none, .mv (.const (.bool true))⟩])
  (.ret)) (.skip)))
  (.seq (.ops [⟨(some 15), none, .mv (.tmp 0)⟩,
    ⟨(some 16), none, .call 6 [(.tmp 15)]⟩,
    ⟨(some 17), none, .call 5 [(.tmp 16)]⟩,
    ⟨(some 14), none, .mv (.tmp 17)⟩,
    ⟨(some 18), none, .ext 0 (.tmp 14)⟩,
    ⟨(some 19), none, .ext 1 (.tmp 14)⟩,
    ⟨(some 4), none, .mv (.tmp 18)⟩,
    ⟨(some 5), none, .mv (.tmp 19)⟩])
  (.kept [0, 4, 5] (.seq (.ops [⟨(some 20), none, .mv (.tmp 0)⟩,
    ⟨(some 21), none, .call 6 [(.tmp 20)]⟩,
    ⟨(some 6), none, .mv (.tmp 21)⟩])
  (.seq (.ops [⟨(some 23), none, .mv (.tmp 6)⟩,
    ⟨(some 24), none, .call 7 [(.tmp 23)]⟩,
    ⟨(some 22), none, .mv (.tmp 24)⟩,
    ⟨(some 25), none, .ext 0 (.tmp 22)⟩,
    ⟨(some 26), none, .ext 1 (.tmp 22)⟩,
    ⟨(some 7), none, .mv (.tmp 25)⟩,
    ⟨(some 8), none, .mv (.tmp 26)⟩])
  (.seq (.seq (.ops [⟨(some 27), none, .mv (.tmp 7)⟩,
    ⟨(some 28), none, .mv (.tmp 4)⟩,
    ⟨(some 29), none, .eqb true (.tmp 27) (.tmp 28)⟩,
    ⟨(some 30), none, .mv (.tmp 29)⟩,
    ⟨(some 31), some (30, false), .mv (.tmp 8)⟩,
    ⟨(some 32), some (30, false), .mv (.tmp 5)⟩,
    ⟨(some 33), some (30, false), .eqb true (.tmp 31) (.tmp 32)⟩,
    ⟨(some 34), none, .pick (.tmp 30) (.const (.bool true)) (.tmp 33)⟩])
  (.kept [0, 6, 34] (.cond (.tmp 34) (.seq (.ops [⟨(some 2), none, .mv (.const (.bool false))⟩])
  (.ret)) (.skip))))
  (.kept [0, 6] (.seq (.seq (.ops [⟨(some 35), none, .mv (.tmp 6)⟩,
    ⟨(some 36), none, .mv (.tmp 0)⟩,
    ⟨(some 37), none, .call 6 [(.tmp 36)]⟩,
    ⟨(some 38), none, .call 8 [(.tmp 35), (.tmp 37)]⟩,
    ⟨(some 39), none, .not (.tmp 38)⟩])
  (.cond (.tmp 39) (.seq (.ops [⟨(some 2), none, .mv (.const (.bool false))⟩])
  (.ret)) (.skip)))
  (.kept [] (.seq (.ops [⟨(some 2), none, .mv (.const (.bool true))⟩])
  (.ret)))))))))))))
theorem h_laws_FnExactStrictByTime : (Tryz.prog.funcs[n_laws_FnExactStrictByTime]?).bind (fun fn => fn.body.bind (comp Tryz.prog fn.ntmps)) = some (AS.strip c_laws_FnExactStrictByTime) := by kernel_rfl
theorem r_laws_FnExactStrictByTime : (Tryz.prog.funcs[n_laws_FnExactStrictByTime]?).map (fun fn => (fn.results.toList, fn.ntmps)) = some ([.tmp 2], 40) := by kernel_rfl
-- 4 loop.example/g00850/laws.szDeedS
abbrev n_laws_szDeedS : Nat := 4
def c_laws_szDeedS_l1 : AS :=
  .seq (.seq (.ops [⟨(some 12), none, .mv (.tmp 5)⟩,
    ⟨(some 13), none, .mv (.tmp 0)⟩,
    ⟨(some 14), none, .lens (.tmp 13)⟩,
    ⟨(some 15), none, .bin .lss (.tmp 12) (.tmp 14)⟩])
  (.cond (.tmp 15) (.skip) (.exit 0)))
  (.seq (.block 1 (.seq (.post [(20, 1, [(6, 3), (7, 3)])] (.ops [⟨(some 18), none, .mv (.tmp 0)⟩,
    ⟨(some 19), none, .mv (.tmp 5)⟩,
    ⟨(some 20), none, .ia 8 (.tmp 18) (.tmp 19)⟩,
    ⟨(some 21), none, .load (some 8) (.tmp 20)⟩,
    ⟨(some 22), none, .mv (.tmp 1)⟩,
    ⟨(some 23), none, .call 9 [(.tmp 21), (.tmp 22)]⟩,
    ⟨(some 1), none, .mv (.tmp 23)⟩]))
  (.kept [0, 1, 5] (.seq (.ops [⟨(some 24), none, .mv (.tmp 1)⟩,
    ⟨(some 25), none, .bin .lss (.tmp 24) (.const (.int .i64 0))⟩])
  (.cond (.tmp 25) (.seq (.ops [⟨(some 4), none, .mv (.const (.int .i64 (-1)))⟩])
  (.ret)) (.skip))))))
  (.kept [0, 1, 5] (.ops [⟨(some 16), none, .mv (.tmp 5)⟩,
    ⟨(some 17), none, .bin .add (.tmp 16) (.const (.int .i64 1))⟩,
    ⟨(some 5), none, .mv (.tmp 17)⟩])))
def c_laws_szDeedS : AS :=
  .seq (.ops [⟨(some 4), none, .mv (.const (.int .i64 0))⟩])
  (.seq (.ops [⟨(some 6), none, .mv (.tmp 1)⟩,
    ⟨(some 7), none, .mv (.tmp 0)⟩,
    ⟨(some 8), none, .lens (.tmp 7)⟩,
    ⟨(some 9), none, .bin .sub (.tmp 6) (.tmp 8)⟩,
    ⟨(some 1), none, .mv (.tmp 9)⟩])
  (.seq (.seq (.ops [⟨(some 10), none, .mv (.tmp 1)⟩,
    ⟨(some 11), none, .bin .lss (.tmp 10) (.const (.int .i64 0))⟩])
  (.cond (.tmp 11) (.seq (.ops [⟨(some 4), none, .mv (.const (.int .i64 (-1)))⟩])
  (.ret)) (.skip)))
  (.seq (.seq (.ops [⟨(some 5), none, .mv (.const (.int .i64 0))⟩])
  (.block 0 (.loop 2 [(0, 0), (1, 0), (5, 0)] c_laws_szDeedS_l1)))
  (.kept [1] (.seq (.ops [⟨(some 26), none, .mv (.tmp 1)⟩,
    ⟨(some 4), none, .mv (.tmp 26)⟩])
  (.ret))))))
theorem h_laws_szDeedS : (Tryz.prog.funcs[n_laws_szDeedS]?).bind (fun fn => fn.body.bind (comp Tryz.prog fn.ntmps)) = some (AS.strip c_laws_szDeedS) := by kernel_rfl
theorem r_laws_szDeedS : (Tryz.prog.funcs[n_laws_szDeedS]?).map (fun fn => (fn.results.toList, fn.ntmps)) = some ([.tmp 4], 27) := by kernel_rfl
-- 5 loop.example/g00850/spec.StrictByTime
abbrev n_spec_StrictByTime : Nat := 5
def c_spec_StrictByTime : AS :=
  .seq (.ops [⟨(some 2), none, .mv (.const (.bool false))⟩,
    ⟨(some 3), none, .mv (.const (.bool false))⟩])
  (.seq (.seq (.ops [⟨(some 4), none, .mv (.tmp 0)⟩,
    ⟨(some 5), none, .call 10 [(.tmp 4)]⟩,
    ⟨(some 6), none, .not (.tmp 5)⟩])
  (.cond (.tmp 6) (.seq (.ops [⟨(some 2), none, .mv (.const (.bool false))⟩,
    ⟨(some 3), none, .mv (.const (.bool false))⟩])
  (.ret)) (.skip)))
  (.seq (.ops [⟨(some 7), none, .mv (.tmp 0)⟩,
    ⟨(some 8), none, .mv (.tmp 0)⟩,
    ⟨(some 9), none, .call 12 [(.tmp 8)]⟩,
    ⟨(some 10), none, .call 11 [(.tmp 7), (.tmp 9)]⟩,
    ⟨(some 11), none, .ext 0 (.tmp 10)⟩,
    ⟨(some 12), none, .ext 1 (.tmp 10)⟩,
    ⟨(some 2), none, .mv (.tmp 11)⟩,
    ⟨(some 3), none, .mv (.tmp 12)⟩])
  (.ret)))
theorem h_spec_StrictByTime : (Tryz.prog.funcs[n_spec_StrictByTime]?).bind (fun fn => fn.body.bind (comp Tryz.prog fn.ntmps)) = some (AS.strip c_spec_StrictByTime) := by kernel_rfl
theorem r_spec_StrictByTime : (Tryz.prog.funcs[n_spec_StrictByTime]?).map (fun fn => (fn.results.toList, fn.ntmps)) = some ([.tmp 2, .tmp 3], 13) := by kernel_rfl
-- 6 loop.example/g00850/laws.toDeedS
abbrev n_laws_toDeedS : Nat := 6
def c_laws_toDeedS_l1 : AS :=
  .seq (.seq (.ops [⟨(some 8), none, .mv (.tmp 4)⟩,
    ⟨(some 9), none, .mv (.tmp 0)⟩,
    ⟨(some 10), none, .lens (.tmp 9)⟩,
    ⟨(some 11), none, .bin .lss (.tmp 8) (.tmp 10)⟩])
  (.cond (.tmp 11) (.skip) (.exit 0)))
  (.seq (.block 1 (.post [(21, 1, [(6, 3), (7, 3)]), (18, 1, [(6, 3), (7, 3)])] (.ops [⟨(some 14), none, .mv (.tmp 3)⟩,
    ⟨(some 15), none, .mv (.tmp 4)⟩,
    ⟨(some 16), none, .mv (.tmp 0)⟩,
    ⟨(some 17), none, .mv (.tmp 4)⟩,
    ⟨(some 18), none, .ia 8 (.tmp 16) (.tmp 17)⟩,
    ⟨(some 19), none, .load (some 8) (.tmp 18)⟩,
    ⟨(some 20), none, .call 13 [(.tmp 19)]⟩,
    ⟨(some 21), none, .ia 8 (.tmp 14) (.tmp 15)⟩,
    ⟨none, none, .store 8 (.tmp 21) (.tmp 20)⟩])))
  (.kept [0, 3, 4] (.ops [⟨(some 12), none, .mv (.tmp 4)⟩,
    ⟨(some 13), none, .bin .add (.tmp 12) (.const (.int .i64 1))⟩,
    ⟨(some 4), none, .mv (.tmp 13)⟩])))
def c_laws_toDeedS : AS :=
  .seq (.ops [⟨(some 2), none, .mv (.const (.slice none 0 0))⟩])
  (.seq (.ops [⟨(some 5), none, .mv (.tmp 0)⟩,
    ⟨(some 6), none, .lens (.tmp 5)⟩,
    ⟨(some 7), none, .mks 8 88 (.agg #[.int .i64 0, .int .i64 0, .int .i64 0, .bool false, .bool false, .int .i64 0, .slice none 0 0, .slice none 0 0]) (.tmp 6) (.tmp 6)⟩,
    ⟨(some 3), none, .mv (.tmp 7)⟩])
  (.seq (.seq (.ops [⟨(some 4), none, .mv (.const (.int .i64 0))⟩])
  (.block 0 (.loop 1 [(0, 0), (3, 0), (4, 0)] c_laws_toDeedS_l1)))
  (.kept [3] (.seq (.ops [⟨(some 22), none, .mv (.tmp 3)⟩,
    ⟨(some 2), none, .mv (.tmp 22)⟩])
  (.ret)))))
theorem h_laws_toDeedS : (Tryz.prog.funcs[n_laws_toDeedS]?).bind (fun fn => fn.body.bind (comp Tryz.prog fn.ntmps)) = some (AS.strip c_laws_toDeedS) := by kernel_rfl
theorem r_laws_toDeedS : (Tryz.prog.funcs[n_laws_toDeedS]?).map (fun fn => (fn.results.toList, fn.ntmps)) = some ([.tmp 2], 23) := by kernel_rfl
-- 7 loop.example/g00850/impl.StrictByTime
abbrev n_impl_StrictByTime : Nat := 7
def c_impl_StrictByTime : AS :=
  .seq (.ops [⟨(some 2), none, .mv (.const (.bool false))⟩,
    ⟨(some 3), none, .mv (.const (.bool false))⟩])
  (.seq (.seq (.ops [⟨(some 4), none, .mv (.tmp 0)⟩,
    ⟨(some 5), none, .call 14 [(.tmp 4)]⟩,
    ⟨(some 6), none, .not (.tmp 5)⟩])
  (.cond (.tmp 6) (.seq (.ops [⟨(some 2), none, .mv (.const (.bool false))⟩,
    ⟨(some 3), none, .mv (.const (.bool false))⟩])
  (.ret)) (.skip)))
  (.seq (.ops [⟨(some 7), none, .mv (.tmp 0)⟩,
    ⟨(some 8), none, .mv (.tmp 0)⟩,
    ⟨(some 9), none, .call 16 [(.tmp 8)]⟩,
    ⟨(some 10), none, .call 15 [(.tmp 7), (.tmp 9)]⟩,
    ⟨(some 11), none, .ext 0 (.tmp 10)⟩,
    ⟨(some 12), none, .ext 1 (.tmp 10)⟩,
    ⟨(some 2), none, .mv (.tmp 11)⟩,
    ⟨(some 3), none, .mv (.tmp 12)⟩])
  (.ret)))
theorem h_impl_StrictByTime : (Tryz.prog.funcs[n_impl_StrictByTime]?).bind (fun fn => fn.body.bind (comp Tryz.prog fn.ntmps)) = some (AS.strip c_impl_StrictByTime) := by kernel_rfl
theorem r_impl_StrictByTime : (Tryz.prog.funcs[n_impl_StrictByTime]?).map (fun fn => (fn.results.toList, fn.ntmps)) = some ([.tmp 2, .tmp 3], 13) := by kernel_rfl
-- 8 loop.example/g00850/laws.eqDeedS
abbrev n_laws_eqDeedS : Nat := 8
def c_laws_eqDeedS_l1 : AS :=
  .seq (.seq (.ops [⟨(some 11), none, .mv (.tmp 5)⟩,
    ⟨(some 12), none, .mv (.tmp 0)⟩,
    ⟨(some 13), none, .lens (.tmp 12)⟩,
    ⟨(some 14), none, .bin .lss (.tmp 11) (.tmp 13)⟩])
  (.cond (.tmp 14) (.skip) (.exit 0)))
  (.seq (.block 1 (.seq (.post [(23, 1, [(6, 3), (7, 3)]), (19, 1, [(6, 3), (7, 3)])] (.rops [(none, ⟨(some 17), none, .mv (.tmp 0)⟩),
    (none, ⟨(some 18), none, .mv (.tmp 5)⟩),
    (none, ⟨(some 19), none, .ia 8 (.tmp 17) (.tmp 18)⟩),
    (none, ⟨(some 20), none, .load (some 8) (.tmp 19)⟩),
    (none, ⟨(some 21), none, .mv (.tmp 1)⟩),
    (none, ⟨(some 22), none, .mv (.tmp 5)⟩),
    (none, ⟨(some 23), none, .ia 8 (.tmp 21) (.tmp 22)⟩),
    (none, ⟨(some 24), none, .load (some 8) (.tmp 23)⟩),
    (some [], ⟨(some 25), none, .call 17 [(.tmp 20), (.tmp 24)]⟩),
    (none, ⟨(some 26), none, .not (.tmp 25)⟩)]))
  (.kept [0, 1, 5, 26] (.cond (.tmp 26) (.seq (.ops [⟨(some 4), none, .mv (.const (.bool false))⟩])
  (.ret)) (.skip)))))
  (.kept [0, 1, 5] (.ops [⟨(some 15), none, .mv (.tmp 5)⟩,
    ⟨(some 16), none, .bin .add (.tmp 15) (.const (.int .i64 1))⟩,
    ⟨(some 5), none, .mv (.tmp 16)⟩])))
def c_laws_eqDeedS : AS :=
  .seq (.ops [⟨(some 4), none, .mv (.const (.bool false))⟩])
  (.seq (.seq (.ops [⟨(some 6), none, .mv (.tmp 0)⟩,
    ⟨(some 7), none, .lens (.tmp 6)⟩,
    ⟨(some 8), none, .mv (.tmp 1)⟩,
    ⟨(some 9), none, .lens (.tmp 8)⟩,
    ⟨(some 10), none, .bin .neq (.tmp 7) (.tmp 9)⟩])
  (.cond (.tmp 10) (.seq (.ops [⟨(some 4), none, .mv (.const (.bool false))⟩])
  (.ret)) (.skip)))
  (.kept [0, 1] (.seq (.seq (.ops [⟨(some 5), none, .mv (.const (.int .i64 0))⟩])
  (.block 0 (.loop 2 [(0, 0), (1, 0), (5, 0)] c_laws_eqDeedS_l1)))
  (.kept [] (.seq (.ops [⟨(some 4), none, .mv (.const (.bool true))⟩])
  (.ret))))))
theorem h_laws_eqDeedS : (Tryz.prog.funcs[n_laws_eqDeedS]?).bind (fun fn => fn.body.bind (comp Tryz.prog fn.ntmps)) = some (AS.strip c_laws_eqDeedS) := by kernel_rfl
theorem r_laws_eqDeedS : (Tryz.prog.funcs[n_laws_eqDeedS]?).map (fun fn => (fn.results.toList, fn.ntmps)) = some ([.tmp 4], 27) := by kernel_rfl
-- 9 loop.example/g00850/laws.szDeed
abbrev n_laws_szDeed : Nat := 9
def c_laws_szDeed : AS :=
  .seq (.ops [⟨(some 2), none, .box (.tmp 0)⟩,
    ⟨(some 4), none, .mv (.const (.int .i64 0))⟩])
  (.seq (.ops [⟨(some 5), none, .fa 6 (.tmp 2)⟩,
    ⟨(some 6), none, .load none (.tmp 5)⟩,
    ⟨(some 7), none, .mv (.tmp 1)⟩,
    ⟨(some 8), none, .call 18 [(.tmp 6), (.tmp 7)]⟩,
    ⟨(some 1), none, .mv (.tmp 8)⟩])
  (.seq (.seq (.ops [⟨(some 9), none, .mv (.tmp 1)⟩,
    ⟨(some 10), none, .bin .lss (.tmp 9) (.const (.int .i64 0))⟩])
  (.cond (.tmp 10) (.seq (.ops [⟨(some 4), none, .mv (.const (.int .i64 (-1)))⟩])
  (.ret)) (.skip)))
  (.seq (.ops [⟨(some 11), none, .fa 7 (.tmp 2)⟩,
    ⟨(some 12), none, .load none (.tmp 11)⟩,
    ⟨(some 13), none, .mv (.tmp 1)⟩,
    ⟨(some 14), none, .call 19 [(.tmp 12), (.tmp 13)]⟩,
    ⟨(some 1), none, .mv (.tmp 14)⟩])
  (.seq (.seq (.ops [⟨(some 15), none, .mv (.tmp 1)⟩,
    ⟨(some 16), none, .bin .lss (.tmp 15) (.const (.int .i64 0))⟩])
  (.cond (.tmp 16) (.seq (.ops [⟨(some 4), none, .mv (.const (.int .i64 (-1)))⟩])
  (.ret)) (.skip)))
  (.seq (.ops [⟨(some 17), none, .mv (.tmp 1)⟩,
    ⟨(some 4), none, .mv (.tmp 17)⟩])
  (.ret))))))
theorem h_laws_szDeed : (Tryz.prog.funcs[n_laws_szDeed]?).bind (fun fn => fn.body.bind (comp Tryz.prog fn.ntmps)) = some (AS.strip c_laws_szDeed) := by kernel_rfl
theorem r_laws_szDeed : (Tryz.prog.funcs[n_laws_szDeed]?).map (fun fn => (fn.results.toList, fn.ntmps)) = some ([.tmp 4], 18) := by kernel_rfl
-- 10 loop.example/g00850/spec.l18Good
abbrev n_spec_l18Good : Nat := 10
def c_spec_l18Good_l1 : AS :=
  .seq (.ops [⟨(some 8), none, .bin .lss (.tmp 7) (.tmp 6)⟩])
  (.seq (.cond (.tmp 8) (.skip) (.exit 0))
  (.seq (.block 1 (.seq (.post [(9, 1, [(6, 3), (7, 3)])] (.ops [⟨(some 9), none, .ia 8 (.tmp 5) (.tmp 7)⟩,
    ⟨(some 10), none, .load (some 8) (.tmp 9)⟩,
    ⟨(some 4), none, .alloc (.agg #[.int .i64 0, .int .i64 0, .int .i64 0, .bool false, .bool false, .int .i64 0, .slice none 0 0, .slice none 0 0])⟩,
    ⟨none, none, .store 8 (.tmp 4) (.tmp 10)⟩]))
  (.seq (.ops [⟨(some 11), none, .load (some 8) (.tmp 4)⟩,
    ⟨(some 12), none, .call 20 [(.tmp 11)]⟩,
    ⟨(some 13), none, .not (.tmp 12)⟩])
  (.cond (.tmp 13) (.seq (.ops [⟨(some 2), none, .mv (.const (.bool false))⟩])
  (.ret)) (.skip)))))
  (.kept [0, 5, 6, 7] (.ops [⟨(some 14), none, .bin .add (.tmp 7) (.const (.int .i64 1))⟩,
    ⟨(some 7), none, .mv (.tmp 14)⟩]))))
def c_spec_l18Good : AS :=
  .seq (.ops [⟨(some 2), none, .mv (.const (.bool false))⟩])
  (.seq (.seq (.ops [⟨(some 5), none, .mv (.tmp 0)⟩,
    ⟨(some 6), none, .lens (.tmp 5)⟩,
    ⟨(some 7), none, .mv (.const (.int .i64 0))⟩])
  (.block 0 (.loop 1 [(0, 0), (5, 0), (6, 0), (7, 0)] c_spec_l18Good_l1)))
  (.kept [0] (.seq (.ops [⟨(some 15), none, .mv (.tmp 0)⟩,
    ⟨(some 16), none, .lens (.tmp 15)⟩,
    ⟨(some 17), none, .bin .leq (.tmp 16) (.const (.int .i64 10))⟩,
    ⟨(some 2), none, .mv (.tmp 17)⟩])
  (.ret))))
theorem h_spec_l18Good : (Tryz.prog.funcs[n_spec_l18Good]?).bind (fun fn => fn.body.bind (comp Tryz.prog fn.ntmps)) = some (AS.strip c_spec_l18Good) := by kernel_rfl
theorem r_spec_l18Good : (Tryz.prog.funcs[n_spec_l18Good]?).map (fun fn => (fn.results.toList, fn.ntmps)) = some ([.tmp 2], 18) := by kernel_rfl
-- 11 loop.example/g00850/spec.IsWitness
abbrev n_spec_IsWitness : Nat := 11
def c_spec_IsWitness : AS :=
  .seq (.ops [⟨(some 4), none, .mv (.const (.bool false))⟩,
    ⟨(some 5), none, .mv (.const (.bool false))⟩])
  (.seq (.seq (.ops [⟨(some 9), none, .mv (.tmp 0)⟩,
    ⟨(some 10), none, .mv (.tmp 1)⟩,
    ⟨(some 11), none, .call 21 [(.tmp 9), (.tmp 10)]⟩,
    ⟨(some 12), none, .not (.tmp 11)⟩])
  (.cond (.tmp 12) (.seq (.ops [⟨(some 4), none, .mv (.const (.bool false))⟩,
    ⟨(some 5), none, .mv (.const (.bool false))⟩])
  (.ret)) (.skip)))
  (.kept [0, 1] (.seq (.ops [⟨(some 14), none, .mv (.tmp 0)⟩,
    ⟨(some 15), none, .mv (.tmp 1)⟩,
    ⟨(some 16), none, .call 22 [(.tmp 14), (.tmp 15)]⟩,
    ⟨(some 13), none, .mv (.tmp 16)⟩,
    ⟨(some 17), none, .ext 0 (.tmp 13)⟩,
    ⟨(some 18), none, .ext 1 (.tmp 13)⟩,
    ⟨(some 19), none, .ext 2 (.tmp 13)⟩,
    ⟨(some 6), none, .mv (.tmp 17)⟩,
    ⟨(some 7), none, .mv (.tmp 18)⟩,
    ⟨(some 8), none, .mv (.tmp 19)⟩])
  (.kept [0, 1, 7, 8] (.seq (.ops [⟨(some 20), none, .mv (.tmp 0)⟩,
    ⟨(some 21), none, .mv (.tmp 1)⟩,
    ⟨(some 22), none, .call 23 [(.tmp 20), (.tmp 21)]⟩,
    ⟨(some 23), none, .mv (.tmp 22)⟩,
    ⟨(some 24), some (23, true), .mv (.tmp 0)⟩,
    ⟨(some 25), some (23, true), .mv (.tmp 1)⟩,
    ⟨(some 26), some (23, true), .call 24 [(.tmp 24), (.tmp 25)]⟩,
    ⟨(some 27), none, .pick (.tmp 23) (.tmp 26) (.const (.bool false))⟩,
    ⟨(some 28), none, .mv (.tmp 27)⟩,
    ⟨(some 29), some (28, true), .mv (.tmp 8)⟩,
    ⟨(some 30), none, .pick (.tmp 28) (.tmp 29) (.const (.bool false))⟩,
    ⟨(some 31), none, .mv (.tmp 30)⟩,
    ⟨(some 32), some (31, true), .mv (.tmp 7)⟩,
    ⟨(some 33), none, .pick (.tmp 31) (.tmp 32) (.const (.bool false))⟩,
    ⟨(some 4), none, .mv (.tmp 33)⟩,
    ⟨(some 5), none, .mv (.const (.bool true))⟩])
  (.ret))))))
theorem h_spec_IsWitness : (Tryz.prog.funcs[n_spec_IsWitness]?).bind (fun fn => fn.body.bind (comp Tryz.prog fn.ntmps)) = some (AS.strip c_spec_IsWitness) := by kernel_rfl
theorem r_spec_IsWitness : (Tryz.prog.funcs[n_spec_IsWitness]?).map (fun fn => (fn.results.toList, fn.ntmps)) = some ([.tmp 4, .tmp 5], 34) := by kernel_rfl
-- 12 loop.example/g00850/spec.l19Order
abbrev n_spec_l19Order : Nat := 12
def c_spec_l19Order_l1 : AS :=
  .seq (.seq (.ops [⟨(some 20), none, .mv (.tmp 6)⟩,
    ⟨(some 21), none, .bin .gtr (.tmp 20) (.const (.int .i64 0))⟩,
    ⟨(some 22), none, .mv (.tmp 21)⟩,
    ⟨(some 23), some (22, true), .mv (.tmp 0)⟩,
    ⟨(some 24), some (22, true), .mv (.tmp 4)⟩,
    ⟨(some 25), some (22, true), .mv (.tmp 3)⟩,
    ⟨(some 26), some (22, true), .mv (.tmp 6)⟩,
    ⟨(some 27), some (22, true), .bin .sub (.tmp 26) (.const (.int .i64 1))⟩,
    ⟨(some 28), some (22, true), .ia 1 (.tmp 25) (.tmp 27)⟩,
    ⟨(some 29), some (22, true), .load none (.tmp 28)⟩,
    ⟨(some 30), some (22, true), .call 25 [(.tmp 23), (.tmp 24), (.tmp 29)]⟩,
    ⟨(some 31), none, .pick (.tmp 22) (.tmp 30) (.const (.bool false))⟩])
  (.kept [0, 3, 4, 6, 8, 9, 10, 31] (.cond (.tmp 31) (.skip) (.exit 2))))
  (.kept [0, 3, 4, 6, 8, 9, 10] (.block 3 (.ops [⟨(some 32), none, .mv (.tmp 6)⟩,
    ⟨(some 33), none, .bin .sub (.tmp 32) (.const (.int .i64 1))⟩,
    ⟨(some 6), none, .mv (.tmp 33)⟩])))
def c_spec_l19Order_l2 : AS :=
  .seq (.ops [⟨(some 11), none, .bin .lss (.tmp 10) (.tmp 9)⟩])
  (.seq (.cond (.tmp 11) (.skip) (.exit 0))
  (.seq (.block 1 (.seq (.post [(13, 1, [(6, 3), (7, 3)])] (.ops [⟨(some 12), none, .mv (.tmp 10)⟩,
    ⟨(some 13), none, .ia 8 (.tmp 8) (.tmp 10)⟩,
    ⟨(some 14), none, .load (some 8) (.tmp 13)⟩,
    ⟨(some 5), none, .alloc (.agg #[.int .i64 0, .int .i64 0, .int .i64 0, .bool false, .bool false, .int .i64 0, .slice none 0 0, .slice none 0 0])⟩,
    ⟨(some 4), none, .mv (.tmp 12)⟩,
    ⟨none, none, .store 8 (.tmp 5) (.tmp 14)⟩]))
  (.seq (.seq (.ops [⟨(some 15), none, .fa 3 (.tmp 5)⟩,
    ⟨(some 16), none, .load none (.tmp 15)⟩,
    ⟨(some 17), none, .not (.tmp 16)⟩])
  (.cond (.tmp 17) (.exit 1) (.skip)))
  (.seq (.ops [⟨(some 18), none, .mv (.tmp 3)⟩,
    ⟨(some 19), none, .lens (.tmp 18)⟩,
    ⟨(some 6), none, .mv (.tmp 19)⟩])
  (.seq (.block 2 (.loop 1 [(0, 0), (3, 1), (4, 0), (6, 0), (8, 0), (9, 0), (10, 0)] c_spec_l19Order_l1))
  (.kept [0, 3, 4, 6, 8, 9, 10] (.seq (.ops [⟨(some 34), none, .mv (.tmp 3)⟩,
    ⟨(some 35), none, .mv (.tmp 6)⟩,
    ⟨(some 36), none, .sls 1 (.tmp 34) (some (.tmp 35)) none none⟩,
    ⟨(some 37), none, .call 26 [(.tmp 36)]⟩,
    ⟨(some 7), none, .mv (.tmp 37)⟩])
  (.ops [⟨(some 38), none, .mv (.tmp 3)⟩,
    ⟨(some 39), none, .mv (.tmp 6)⟩,
    ⟨(some 40), none, .sls 1 (.tmp 38) none (some (.tmp 39)) none⟩,
    ⟨(some 41), none, .call 26 [(.tmp 40)]⟩,
    ⟨(some 42), none, .mv (.tmp 4)⟩,
    ⟨(some 43), none, .bsl 1 (.int .i64 0) 1 [(0, (.tmp 42))]⟩,
    ⟨(some 44), none, .app 1 8 (.int .i64 0) (.tmp 41) (.tmp 43)⟩,
    ⟨(some 45), none, .mv (.tmp 7)⟩,
    ⟨(some 46), none, .app 1 8 (.int .i64 0) (.tmp 44) (.tmp 45)⟩,
    ⟨(some 3), none, .mv (.tmp 46)⟩]))))))))
  (.kept [0, 3, 8, 9, 10] (.ops [⟨(some 47), none, .bin .add (.tmp 10) (.const (.int .i64 1))⟩,
    ⟨(some 10), none, .mv (.tmp 47)⟩]))))
def c_spec_l19Order : AS :=
  .seq (.ops [⟨(some 2), none, .mv (.const (.slice none 0 0))⟩])
  (.seq (.ops [⟨(some 3), none, .mv (.const (.slice none 0 0))⟩])
  (.seq (.seq (.ops [⟨(some 8), none, .mv (.tmp 0)⟩,
    ⟨(some 9), none, .lens (.tmp 8)⟩,
    ⟨(some 10), none, .mv (.const (.int .i64 0))⟩])
  (.block 0 (.loop 1 [(0, 0), (3, 1), (8, 0), (9, 0), (10, 0)] c_spec_l19Order_l2)))
  (.kept [3] (.seq (.ops [⟨(some 48), none, .mv (.tmp 3)⟩,
    ⟨(some 2), none, .mv (.tmp 48)⟩])
  (.ret)))))
theorem h_spec_l19Order : (Tryz.prog.funcs[n_spec_l19Order]?).bind (fun fn => fn.body.bind (comp Tryz.prog fn.ntmps)) = some (AS.strip c_spec_l19Order) := by kernel_rfl
theorem r_spec_l19Order : (Tryz.prog.funcs[n_spec_l19Order]?).map (fun fn => (fn.results.toList, fn.ntmps)) = some ([.tmp 2], 49) := by kernel_rfl
-- 13 loop.example/g00850/laws.toDeed
abbrev n_laws_toDeed : Nat := 13
def c_laws_toDeed : AS :=
  .seq (.ops [⟨(some 1), none, .box (.tmp 0)⟩,
    ⟨(some 2), none, .alloc (.agg #[.int .i64 0, .int .i64 0, .int .i64 0, .bool false, .bool false, .int .i64 0, .slice none 0 0, .slice none 0 0])⟩])
  (.seq (.ops [⟨(some 3), none, .alloc (.agg #[.int .i64 0, .int .i64 0, .int .i64 0, .bool false, .bool false, .int .i64 0, .slice none 0 0, .slice none 0 0])⟩])
  (.seq (.ops [⟨(some 4), none, .fa 0 (.tmp 1)⟩,
    ⟨(some 5), none, .load none (.tmp 4)⟩,
    ⟨(some 6), none, .fa 0 (.tmp 3)⟩,
    ⟨none, none, .store 1 (.tmp 6) (.tmp 5)⟩])
  (.seq (.ops [⟨(some 7), none, .fa 1 (.tmp 1)⟩,
    ⟨(some 8), none, .load none (.tmp 7)⟩,
    ⟨(some 9), none, .fa 1 (.tmp 3)⟩,
    ⟨none, none, .store 1 (.tmp 9) (.tmp 8)⟩])
  (.seq (.ops [⟨(some 10), none, .fa 2 (.tmp 1)⟩,
    ⟨(some 11), none, .load none (.tmp 10)⟩,
    ⟨(some 12), none, .fa 2 (.tmp 3)⟩,
    ⟨none, none, .store 1 (.tmp 12) (.tmp 11)⟩])
  (.seq (.ops [⟨(some 13), none, .fa 3 (.tmp 1)⟩,
    ⟨(some 14), none, .load none (.tmp 13)⟩,
    ⟨(some 15), none, .fa 3 (.tmp 3)⟩,
    ⟨none, none, .store 1 (.tmp 15) (.tmp 14)⟩])
  (.seq (.ops [⟨(some 16), none, .fa 4 (.tmp 1)⟩,
    ⟨(some 17), none, .load none (.tmp 16)⟩,
    ⟨(some 18), none, .fa 4 (.tmp 3)⟩,
    ⟨none, none, .store 1 (.tmp 18) (.tmp 17)⟩])
  (.seq (.ops [⟨(some 19), none, .fa 5 (.tmp 1)⟩,
    ⟨(some 20), none, .load none (.tmp 19)⟩,
    ⟨(some 21), none, .fa 5 (.tmp 3)⟩,
    ⟨none, none, .store 1 (.tmp 21) (.tmp 20)⟩])
  (.seq (.ops [⟨(some 22), none, .fa 6 (.tmp 1)⟩,
    ⟨(some 23), none, .load none (.tmp 22)⟩,
    ⟨(some 24), none, .call 27 [(.tmp 23)]⟩,
    ⟨(some 25), none, .fa 6 (.tmp 3)⟩,
    ⟨none, none, .store 1 (.tmp 25) (.tmp 24)⟩])
  (.seq (.ops [⟨(some 26), none, .fa 7 (.tmp 1)⟩,
    ⟨(some 27), none, .load none (.tmp 26)⟩,
    ⟨(some 28), none, .call 28 [(.tmp 27)]⟩,
    ⟨(some 29), none, .fa 7 (.tmp 3)⟩,
    ⟨none, none, .store 1 (.tmp 29) (.tmp 28)⟩])
  (.seq (.ops [⟨(some 30), none, .load (some 8) (.tmp 3)⟩,
    ⟨none, none, .store 8 (.tmp 2) (.tmp 30)⟩])
  (.ret)))))))))))
theorem h_laws_toDeed : (Tryz.prog.funcs[n_laws_toDeed]?).bind (fun fn => fn.body.bind (comp Tryz.prog fn.ntmps)) = some (AS.strip c_laws_toDeed) := by kernel_rfl
theorem r_laws_toDeed : (Tryz.prog.funcs[n_laws_toDeed]?).map (fun fn => (fn.results.toList, fn.ntmps)) = some ([.cell 2 42], 31) := by kernel_rfl
-- 14 loop.example/g00850/impl.GoodHistory
abbrev n_impl_GoodHistory : Nat := 14
def c_impl_GoodHistory : AS :=
  .seq (.ops [⟨(some 2), none, .mv (.const (.bool false))⟩])
  (.seq (.ops [⟨(some 3), none, .mv (.tmp 0)⟩,
    ⟨(some 4), none, .lens (.tmp 3)⟩,
    ⟨(some 5), none, .bin .leq (.tmp 4) (.const (.int .i64 10))⟩,
    ⟨(some 6), none, .mv (.tmp 5)⟩,
    ⟨(some 7), some (6, true), .mv (.tmp 0)⟩,
    ⟨(some 8), some (6, true), .call 29 [(.tmp 7), (.func 30)]⟩,
    ⟨(some 9), some (6, true), .not (.tmp 8)⟩,
    ⟨(some 10), none, .pick (.tmp 6) (.tmp 9) (.const (.bool false))⟩,
    ⟨(some 2), none, .mv (.tmp 10)⟩])
  (.ret))
theorem h_impl_GoodHistory : (Tryz.prog.funcs[n_impl_GoodHistory]?).bind (fun fn => fn.body.bind (comp Tryz.prog fn.ntmps)) = some (AS.strip c_impl_GoodHistory) := by kernel_rfl
theorem r_impl_GoodHistory : (Tryz.prog.funcs[n_impl_GoodHistory]?).map (fun fn => (fn.results.toList, fn.ntmps)) = some ([.tmp 2], 11) := by kernel_rfl
-- 15 loop.example/g00850/impl.IsWitness
abbrev n_impl_IsWitness : Nat := 15
def c_impl_IsWitness : AS :=
  .seq (.ops [⟨(some 3), none, .box (.tmp 1)⟩,
    ⟨(some 4), none, .mv (.const (.bool false))⟩,
    ⟨(some 5), none, .mv (.const (.bool false))⟩])
  (.seq (.seq (.ops [⟨(some 9), none, .mv (.tmp 0)⟩,
    ⟨(some 10), none, .load none (.tmp 3)⟩,
    ⟨(some 11), none, .call 32 [(.tmp 9), (.tmp 10)]⟩,
    ⟨(some 12), none, .not (.tmp 11)⟩])
  (.cond (.tmp 12) (.seq (.ops [⟨(some 4), none, .mv (.const (.bool false))⟩,
    ⟨(some 5), none, .mv (.const (.bool false))⟩])
  (.ret)) (.skip)))
  (.kept [0, 3] (.seq (.seq (.ops [⟨(some 13), none, .mv (.tmp 0)⟩,
    ⟨(some 14), none, .call 34 [(.tmp 13)]⟩,
    ⟨(some 15), none, .mkf 35 [(.tmp 3)]⟩,
    ⟨(some 16), none, .call 33 [(.tmp 14), (.tmp 15)]⟩,
    ⟨(some 17), none, .mv (.tmp 16)⟩,
    ⟨(some 18), some (17, false), .mv (.tmp 0)⟩,
    ⟨(some 19), some (17, false), .load none (.tmp 3)⟩,
    ⟨(some 20), some (17, false), .call 37 [(.tmp 18), (.tmp 19)]⟩,
    ⟨(some 21), some (17, false), .not (.tmp 20)⟩,
    ⟨(some 22), none, .pick (.tmp 17) (.const (.bool true)) (.tmp 21)⟩])
  (.kept [0, 3, 22] (.cond (.tmp 22) (.seq (.ops [⟨(some 4), none, .mv (.const (.bool false))⟩,
    ⟨(some 5), none, .mv (.const (.bool true))⟩])
  (.ret)) (.skip))))
  (.kept [0, 3] (.seq (.ops [⟨(some 24), none, .mv (.tmp 0)⟩,
    ⟨(some 25), none, .load none (.tmp 3)⟩,
    ⟨(some 26), none, .call 38 [(.tmp 24), (.tmp 25)]⟩,
    ⟨(some 23), none, .mv (.tmp 26)⟩,
    ⟨(some 27), none, .ext 0 (.tmp 23)⟩,
    ⟨(some 28), none, .ext 1 (.tmp 23)⟩,
    ⟨(some 29), none, .ext 2 (.tmp 23)⟩,
    ⟨(some 6), none, .mv (.tmp 27)⟩,
    ⟨(some 7), none, .mv (.tmp 28)⟩,
    ⟨(some 8), none, .mv (.tmp 29)⟩])
  (.kept [7, 8] (.seq (.ops [⟨(some 30), none, .mv (.tmp 8)⟩,
    ⟨(some 31), none, .mv (.tmp 30)⟩,
    ⟨(some 32), some (31, true), .mv (.tmp 7)⟩,
    ⟨(some 33), none, .pick (.tmp 31) (.tmp 32) (.const (.bool false))⟩,
    ⟨(some 4), none, .mv (.tmp 33)⟩,
    ⟨(some 5), none, .mv (.const (.bool true))⟩])
  (.ret))))))))
theorem h_impl_IsWitness : (Tryz.prog.funcs[n_impl_IsWitness]?).bind (fun fn => fn.body.bind (comp Tryz.prog fn.ntmps)) = some (AS.strip c_impl_IsWitness) := by kernel_rfl
theorem r_impl_IsWitness : (Tryz.prog.funcs[n_impl_IsWitness]?).map (fun fn => (fn.results.toList, fn.ntmps)) = some ([.tmp 4, .tmp 5], 34) := by kernel_rfl
-- 16 loop.example/g00850/impl.orderByTime
abbrev n_impl_orderByTime : Nat := 16
def c_impl_orderByTime : AS :=
  .seq (.ops [⟨(some 1), none, .box (.tmp 0)⟩,
    ⟨(some 2), none, .mv (.const (.slice none 0 0))⟩])
  (.seq (.ops [⟨(some 5), none, .load none (.tmp 1)⟩,
    ⟨(some 6), none, .call 34 [(.tmp 5)]⟩,
    ⟨(some 3), none, .mv (.tmp 6)⟩])
  (.seq (.ops [⟨(some 7), none, .mkf 39 [(.tmp 1)]⟩,
    ⟨(some 4), none, .alloc (.nilFunc)⟩,
    ⟨none, none, .store 1 (.tmp 4) (.tmp 7)⟩])
  (.seq (.ops [⟨(some 8), none, .mv (.tmp 3)⟩,
    ⟨(some 9), none, .mkf 41 [(.tmp 1), (.tmp 4)]⟩,
    ⟨(some 10), none, .call 40 [(.tmp 8), (.tmp 9)]⟩])
  (.seq (.ops [⟨(some 11), none, .mv (.tmp 3)⟩,
    ⟨(some 2), none, .mv (.tmp 11)⟩])
  (.ret)))))
theorem h_impl_orderByTime : (Tryz.prog.funcs[n_impl_orderByTime]?).bind (fun fn => fn.body.bind (comp Tryz.prog fn.ntmps)) = some (AS.strip c_impl_orderByTime) := by kernel_rfl
theorem r_impl_orderByTime : (Tryz.prog.funcs[n_impl_orderByTime]?).map (fun fn => (fn.results.toList, fn.ntmps)) = some ([.tmp 2], 12) := by kernel_rfl
-- 17 loop.example/g00850/laws.eqDeed
abbrev n_laws_eqDeed : Nat := 17
def c_laws_eqDeed : AS :=
  .seq (.ops [⟨(some 2), none, .box (.tmp 0)⟩,
    ⟨(some 3), none, .box (.tmp 1)⟩,
    ⟨(some 4), none, .mv (.const (.bool false))⟩])
  (.seq (.seq (.ops [⟨(some 5), none, .fa 0 (.tmp 2)⟩,
    ⟨(some 6), none, .load none (.tmp 5)⟩,
    ⟨(some 7), none, .fa 0 (.tmp 3)⟩,
    ⟨(some 8), none, .load none (.tmp 7)⟩,
    ⟨(some 9), none, .bin .neq (.tmp 6) (.tmp 8)⟩])
  (.cond (.tmp 9) (.seq (.ops [⟨(some 4), none, .mv (.const (.bool false))⟩])
  (.ret)) (.skip)))
  (.kept [2, 3] (.seq (.seq (.ops [⟨(some 10), none, .fa 1 (.tmp 2)⟩,
    ⟨(some 11), none, .load none (.tmp 10)⟩,
    ⟨(some 12), none, .fa 1 (.tmp 3)⟩,
    ⟨(some 13), none, .load none (.tmp 12)⟩,
    ⟨(some 14), none, .bin .neq (.tmp 11) (.tmp 13)⟩])
  (.cond (.tmp 14) (.seq (.ops [⟨(some 4), none, .mv (.const (.bool false))⟩])
  (.ret)) (.skip)))
  (.kept [2, 3] (.seq (.seq (.ops [⟨(some 15), none, .fa 2 (.tmp 2)⟩,
    ⟨(some 16), none, .load none (.tmp 15)⟩,
    ⟨(some 17), none, .fa 2 (.tmp 3)⟩,
    ⟨(some 18), none, .load none (.tmp 17)⟩,
    ⟨(some 19), none, .bin .neq (.tmp 16) (.tmp 18)⟩])
  (.cond (.tmp 19) (.seq (.ops [⟨(some 4), none, .mv (.const (.bool false))⟩])
  (.ret)) (.skip)))
  (.kept [2, 3] (.seq (.seq (.ops [⟨(some 20), none, .fa 3 (.tmp 2)⟩,
    ⟨(some 21), none, .load none (.tmp 20)⟩,
    ⟨(some 22), none, .fa 3 (.tmp 3)⟩,
    ⟨(some 23), none, .load none (.tmp 22)⟩,
    ⟨(some 24), none, .eqb true (.tmp 21) (.tmp 23)⟩])
  (.cond (.tmp 24) (.seq (.ops [⟨(some 4), none, .mv (.const (.bool false))⟩])
  (.ret)) (.skip)))
  (.kept [2, 3] (.seq (.seq (.ops [⟨(some 25), none, .fa 4 (.tmp 2)⟩,
    ⟨(some 26), none, .load none (.tmp 25)⟩,
    ⟨(some 27), none, .fa 4 (.tmp 3)⟩,
    ⟨(some 28), none, .load none (.tmp 27)⟩,
    ⟨(some 29), none, .eqb true (.tmp 26) (.tmp 28)⟩])
  (.cond (.tmp 29) (.seq (.ops [⟨(some 4), none, .mv (.const (.bool false))⟩])
  (.ret)) (.skip)))
  (.kept [2, 3] (.seq (.seq (.ops [⟨(some 30), none, .fa 5 (.tmp 2)⟩,
    ⟨(some 31), none, .load none (.tmp 30)⟩,
    ⟨(some 32), none, .fa 5 (.tmp 3)⟩,
    ⟨(some 33), none, .load none (.tmp 32)⟩,
    ⟨(some 34), none, .bin .neq (.tmp 31) (.tmp 33)⟩])
  (.cond (.tmp 34) (.seq (.ops [⟨(some 4), none, .mv (.const (.bool false))⟩])
  (.ret)) (.skip)))
  (.kept [2, 3] (.seq (.seq (.ops [⟨(some 35), none, .fa 6 (.tmp 2)⟩,
    ⟨(some 36), none, .load none (.tmp 35)⟩,
    ⟨(some 37), none, .fa 6 (.tmp 3)⟩,
    ⟨(some 38), none, .load none (.tmp 37)⟩,
    ⟨(some 39), none, .call 44 [(.tmp 36), (.tmp 38)]⟩,
    ⟨(some 40), none, .not (.tmp 39)⟩])
  (.cond (.tmp 40) (.seq (.ops [⟨(some 4), none, .mv (.const (.bool false))⟩])
  (.ret)) (.skip)))
  (.kept [2, 3] (.seq (.seq (.ops [⟨(some 41), none, .fa 7 (.tmp 2)⟩,
    ⟨(some 42), none, .load none (.tmp 41)⟩,
    ⟨(some 43), none, .fa 7 (.tmp 3)⟩,
    ⟨(some 44), none, .load none (.tmp 43)⟩,
    ⟨(some 45), none, .call 45 [(.tmp 42), (.tmp 44)]⟩,
    ⟨(some 46), none, .not (.tmp 45)⟩])
  (.cond (.tmp 46) (.seq (.ops [⟨(some 4), none, .mv (.const (.bool false))⟩])
  (.ret)) (.skip)))
  (.kept [] (.seq (.ops [⟨(some 4), none, .mv (.const (.bool true))⟩])
  (.ret))))))))))))))))))
theorem h_laws_eqDeed : (Tryz.prog.funcs[n_laws_eqDeed]?).bind (fun fn => fn.body.bind (comp Tryz.prog fn.ntmps)) = some (AS.strip c_laws_eqDeed) := by kernel_rfl
theorem r_laws_eqDeed : (Tryz.prog.funcs[n_laws_eqDeed]?).map (fun fn => (fn.results.toList, fn.ntmps)) = some ([.tmp 4], 47) := by kernel_rfl
-- 18 loop.example/g00850/laws.szGotS
abbrev n_laws_szGotS : Nat := 18
def c_laws_szGotS_l1 : AS :=
  .seq (.seq (.ops [⟨(some 12), none, .mv (.tmp 5)⟩,
    ⟨(some 13), none, .mv (.tmp 0)⟩,
    ⟨(some 14), none, .lens (.tmp 13)⟩,
    ⟨(some 15), none, .bin .lss (.tmp 12) (.tmp 14)⟩])
  (.cond (.tmp 15) (.skip) (.exit 0)))
  (.seq (.block 1 (.seq (.ops [⟨(some 18), none, .mv (.tmp 0)⟩,
    ⟨(some 19), none, .mv (.tmp 5)⟩,
    ⟨(some 20), none, .ia 3 (.tmp 18) (.tmp 19)⟩,
    ⟨(some 21), none, .load (some 3) (.tmp 20)⟩,
    ⟨(some 22), none, .mv (.tmp 1)⟩,
    ⟨(some 23), none, .call 46 [(.tmp 21), (.tmp 22)]⟩,
    ⟨(some 1), none, .mv (.tmp 23)⟩])
  (.kept [0, 1, 5] (.seq (.ops [⟨(some 24), none, .mv (.tmp 1)⟩,
    ⟨(some 25), none, .bin .lss (.tmp 24) (.const (.int .i64 0))⟩])
  (.cond (.tmp 25) (.seq (.ops [⟨(some 4), none, .mv (.const (.int .i64 (-1)))⟩])
  (.ret)) (.skip))))))
  (.kept [0, 1, 5] (.ops [⟨(some 16), none, .mv (.tmp 5)⟩,
    ⟨(some 17), none, .bin .add (.tmp 16) (.const (.int .i64 1))⟩,
    ⟨(some 5), none, .mv (.tmp 17)⟩])))
def c_laws_szGotS : AS :=
  .seq (.ops [⟨(some 4), none, .mv (.const (.int .i64 0))⟩])
  (.seq (.ops [⟨(some 6), none, .mv (.tmp 1)⟩,
    ⟨(some 7), none, .mv (.tmp 0)⟩,
    ⟨(some 8), none, .lens (.tmp 7)⟩,
    ⟨(some 9), none, .bin .sub (.tmp 6) (.tmp 8)⟩,
    ⟨(some 1), none, .mv (.tmp 9)⟩])
  (.seq (.seq (.ops [⟨(some 10), none, .mv (.tmp 1)⟩,
    ⟨(some 11), none, .bin .lss (.tmp 10) (.const (.int .i64 0))⟩])
  (.cond (.tmp 11) (.seq (.ops [⟨(some 4), none, .mv (.const (.int .i64 (-1)))⟩])
  (.ret)) (.skip)))
  (.seq (.seq (.ops [⟨(some 5), none, .mv (.const (.int .i64 0))⟩])
  (.block 0 (.loop 2 [(0, 0), (1, 0), (5, 0)] c_laws_szGotS_l1)))
  (.kept [1] (.seq (.ops [⟨(some 26), none, .mv (.tmp 1)⟩,
    ⟨(some 4), none, .mv (.tmp 26)⟩])
  (.ret))))))
theorem h_laws_szGotS : (Tryz.prog.funcs[n_laws_szGotS]?).bind (fun fn => fn.body.bind (comp Tryz.prog fn.ntmps)) = some (AS.strip c_laws_szGotS) := by kernel_rfl
theorem r_laws_szGotS : (Tryz.prog.funcs[n_laws_szGotS]?).map (fun fn => (fn.results.toList, fn.ntmps)) = some ([.tmp 4], 27) := by kernel_rfl
-- 19 loop.example/g00850/laws.szWriteS
abbrev n_laws_szWriteS : Nat := 19
def c_laws_szWriteS_l1 : AS :=
  .seq (.seq (.ops [⟨(some 12), none, .mv (.tmp 5)⟩,
    ⟨(some 13), none, .mv (.tmp 0)⟩,
    ⟨(some 14), none, .lens (.tmp 13)⟩,
    ⟨(some 15), none, .bin .lss (.tmp 12) (.tmp 14)⟩])
  (.cond (.tmp 15) (.skip) (.exit 0)))
  (.seq (.block 1 (.seq (.ops [⟨(some 18), none, .mv (.tmp 0)⟩,
    ⟨(some 19), none, .mv (.tmp 5)⟩,
    ⟨(some 20), none, .ia 3 (.tmp 18) (.tmp 19)⟩,
    ⟨(some 21), none, .load (some 3) (.tmp 20)⟩,
    ⟨(some 22), none, .mv (.tmp 1)⟩,
    ⟨(some 23), none, .call 47 [(.tmp 21), (.tmp 22)]⟩,
    ⟨(some 1), none, .mv (.tmp 23)⟩])
  (.kept [0, 1, 5] (.seq (.ops [⟨(some 24), none, .mv (.tmp 1)⟩,
    ⟨(some 25), none, .bin .lss (.tmp 24) (.const (.int .i64 0))⟩])
  (.cond (.tmp 25) (.seq (.ops [⟨(some 4), none, .mv (.const (.int .i64 (-1)))⟩])
  (.ret)) (.skip))))))
  (.kept [0, 1, 5] (.ops [⟨(some 16), none, .mv (.tmp 5)⟩,
    ⟨(some 17), none, .bin .add (.tmp 16) (.const (.int .i64 1))⟩,
    ⟨(some 5), none, .mv (.tmp 17)⟩])))
def c_laws_szWriteS : AS :=
  .seq (.ops [⟨(some 4), none, .mv (.const (.int .i64 0))⟩])
  (.seq (.ops [⟨(some 6), none, .mv (.tmp 1)⟩,
    ⟨(some 7), none, .mv (.tmp 0)⟩,
    ⟨(some 8), none, .lens (.tmp 7)⟩,
    ⟨(some 9), none, .bin .sub (.tmp 6) (.tmp 8)⟩,
    ⟨(some 1), none, .mv (.tmp 9)⟩])
  (.seq (.seq (.ops [⟨(some 10), none, .mv (.tmp 1)⟩,
    ⟨(some 11), none, .bin .lss (.tmp 10) (.const (.int .i64 0))⟩])
  (.cond (.tmp 11) (.seq (.ops [⟨(some 4), none, .mv (.const (.int .i64 (-1)))⟩])
  (.ret)) (.skip)))
  (.seq (.seq (.ops [⟨(some 5), none, .mv (.const (.int .i64 0))⟩])
  (.block 0 (.loop 2 [(0, 0), (1, 0), (5, 0)] c_laws_szWriteS_l1)))
  (.kept [1] (.seq (.ops [⟨(some 26), none, .mv (.tmp 1)⟩,
    ⟨(some 4), none, .mv (.tmp 26)⟩])
  (.ret))))))
theorem h_laws_szWriteS : (Tryz.prog.funcs[n_laws_szWriteS]?).bind (fun fn => fn.body.bind (comp Tryz.prog fn.ntmps)) = some (AS.strip c_laws_szWriteS) := by kernel_rfl
theorem r_laws_szWriteS : (Tryz.prog.funcs[n_laws_szWriteS]?).map (fun fn => (fn.results.toList, fn.ntmps)) = some ([.tmp 4], 27) := by kernel_rfl
-- 20 loop.example/g00850/spec.l18Deed
abbrev n_spec_l18Deed : Nat := 20
def c_spec_l18Deed : AS :=
  .seq (.ops [⟨(some 1), none, .box (.tmp 0)⟩,
    ⟨(some 2), none, .mv (.const (.bool false))⟩])
  (.seq (.seq (.ops [⟨(some 3), none, .fa 4 (.tmp 1)⟩,
    ⟨(some 4), none, .load none (.tmp 3)⟩,
    ⟨(some 5), none, .mv (.tmp 4)⟩,
    ⟨(some 6), some (5, true), .fa 3 (.tmp 1)⟩,
    ⟨(some 7), some (5, true), .load none (.tmp 6)⟩,
    ⟨(some 8), some (5, true), .not (.tmp 7)⟩,
    ⟨(some 9), some (5, true), .mv (.tmp 8)⟩,
    ⟨(some 10), some (9, false), .fa 7 (.tmp 1)⟩,
    ⟨(some 11), some (9, false), .load none (.tmp 10)⟩,
    ⟨(some 12), some (9, false), .lens (.tmp 11)⟩,
    ⟨(some 13), some (9, false), .bin .gtr (.tmp 12) (.const (.int .i64 0))⟩,
    ⟨(some 14), some (5, true), .pick (.tmp 9) (.const (.bool true)) (.tmp 13)⟩,
    ⟨(some 15), none, .pick (.tmp 5) (.tmp 14) (.const (.bool false))⟩])
  (.kept [1, 15] (.cond (.tmp 15) (.seq (.ops [⟨(some 2), none, .mv (.const (.bool false))⟩])
  (.ret)) (.skip))))
  (.kept [1] (.seq (.ops [⟨(some 16), none, .fa 0 (.tmp 1)⟩,
    ⟨(some 17), none, .load none (.tmp 16)⟩,
    ⟨(some 18), none, .call 48 [(.tmp 17), (.const (.int .i64 1)), (.const (.int .i64 60))]⟩,
    ⟨(some 19), none, .mv (.tmp 18)⟩,
    ⟨(some 20), some (19, true), .fa 1 (.tmp 1)⟩,
    ⟨(some 21), some (19, true), .load none (.tmp 20)⟩,
    ⟨(some 22), some (19, true), .call 48 [(.tmp 21), (.const (.int .i64 0)), (.const (.int .i64 1000000))]⟩,
    ⟨(some 23), none, .pick (.tmp 19) (.tmp 22) (.const (.bool false))⟩,
    ⟨(some 24), none, .mv (.tmp 23)⟩,
    ⟨(some 25), some (24, true), .fa 2 (.tmp 1)⟩,
    ⟨(some 26), some (24, true), .load none (.tmp 25)⟩,
    ⟨(some 27), some (24, true), .bin .eql (.tmp 26) (.const (.int .i64 (-1)))⟩,
    ⟨(some 28), some (24, true), .mv (.tmp 27)⟩,
    ⟨(some 29), some (28, false), .fa 2 (.tmp 1)⟩,
    ⟨(some 30), some (28, false), .load none (.tmp 29)⟩,
    ⟨(some 31), some (28, false), .fa 1 (.tmp 1)⟩,
    ⟨(some 32), some (28, false), .load none (.tmp 31)⟩,
    ⟨(some 33), some (28, false), .bin .gtr (.tmp 30) (.tmp 32)⟩,
    ⟨(some 34), some (28, false), .mv (.tmp 33)⟩,
    ⟨(some 35), some (34, true), .fa 2 (.tmp 1)⟩,
    ⟨(some 36), some (34, true), .load none (.tmp 35)⟩,
    ⟨(some 37), some (34, true), .bin .leq (.tmp 36) (.const (.int .i64 1000000))⟩,
    ⟨(some 38), some (28, false), .pick (.tmp 34) (.tmp 37) (.const (.bool false))⟩,
    ⟨(some 39), some (24, true), .pick (.tmp 28) (.const (.bool true)) (.tmp 38)⟩,
    ⟨(some 40), none, .pick (.tmp 24) (.tmp 39) (.const (.bool false))⟩,
    ⟨(some 41), none, .mv (.tmp 40)⟩,
    ⟨(some 42), some (41, true), .fa 5 (.tmp 1)⟩,
    ⟨(some 43), some (41, true), .load none (.tmp 42)⟩,
    ⟨(some 44), some (41, true), .call 49 [(.tmp 43)]⟩,
    ⟨(some 45), none, .pick (.tmp 41) (.tmp 44) (.const (.bool false))⟩,
    ⟨(some 46), none, .mv (.tmp 45)⟩,
    ⟨(some 47), some (46, true), .fa 6 (.tmp 1)⟩,
    ⟨(some 48), some (46, true), .load none (.tmp 47)⟩,
    ⟨(some 49), some (46, true), .call 50 [(.tmp 48)]⟩,
    ⟨(some 50), none, .pick (.tmp 46) (.tmp 49) (.const (.bool false))⟩,
    ⟨(some 51), none, .mv (.tmp 50)⟩,
    ⟨(some 52), some (51, true), .fa 7 (.tmp 1)⟩,
    ⟨(some 53), some (51, true), .load none (.tmp 52)⟩,
    ⟨(some 54), some (51, true), .call 51 [(.tmp 53)]⟩,
    ⟨(some 55), none, .pick (.tmp 51) (.tmp 54) (.const (.bool false))⟩,
    ⟨(some 2), none, .mv (.tmp 55)⟩])
  (.ret))))
theorem h_spec_l18Deed : (Tryz.prog.funcs[n_spec_l18Deed]?).bind (fun fn => fn.body.bind (comp Tryz.prog fn.ntmps)) = some (AS.strip c_spec_l18Deed) := by kernel_rfl
theorem r_spec_l18Deed : (Tryz.prog.funcs[n_spec_l18Deed]?).map (fun fn => (fn.results.toList, fn.ntmps)) = some ([.tmp 2], 56) := by kernel_rfl
-- 21 loop.example/g00850/spec.l18Order
abbrev n_spec_l18Order : Nat := 21
def c_spec_l18Order_l1 : AS :=
  .seq (.ops [⟨(some 10), none, .bin .lss (.tmp 9) (.tmp 8)⟩])
  (.seq (.cond (.tmp 10) (.skip) (.exit 0))
  (.seq (.block 1 (.seq (.ops [⟨(some 11), none, .mv (.tmp 9)⟩,
    ⟨(some 12), none, .ia 1 (.tmp 7) (.tmp 9)⟩,
    ⟨(some 13), none, .load none (.tmp 12)⟩,
    ⟨(some 5), none, .mv (.tmp 11)⟩,
    ⟨(some 6), none, .mv (.tmp 13)⟩])
  (.seq (.ops [⟨(some 14), none, .mv (.tmp 6)⟩,
    ⟨(some 15), none, .mv (.tmp 0)⟩,
    ⟨(some 16), none, .lens (.tmp 15)⟩,
    ⟨(some 17), none, .bin .sub (.tmp 16) (.const (.int .i64 1))⟩,
    ⟨(some 18), none, .call 48 [(.tmp 14), (.const (.int .i64 0)), (.tmp 17)]⟩,
    ⟨(some 19), none, .not (.tmp 18)⟩,
    ⟨(some 20), none, .mv (.tmp 19)⟩,
    ⟨(some 21), some (20, false), .mv (.tmp 1)⟩,
    ⟨(some 22), some (20, false), .mv (.tmp 5)⟩,
    ⟨(some 23), some (20, false), .sls 1 (.tmp 21) none (some (.tmp 22)) none⟩,
    ⟨(some 24), some (20, false), .mv (.tmp 6)⟩,
    ⟨(some 25), some (20, false), .call 52 [(.tmp 23), (.tmp 24)]⟩,
    ⟨(some 26), none, .pick (.tmp 20) (.const (.bool true)) (.tmp 25)⟩])
  (.kept [0, 1, 7, 8, 9, 26] (.cond (.tmp 26) (.seq (.ops [⟨(some 4), none, .mv (.const (.bool false))⟩])
  (.ret)) (.skip))))))
  (.kept [0, 1, 7, 8, 9] (.ops [⟨(some 27), none, .bin .add (.tmp 9) (.const (.int .i64 1))⟩,
    ⟨(some 9), none, .mv (.tmp 27)⟩]))))
def c_spec_l18Order : AS :=
  .seq (.ops [⟨(some 4), none, .mv (.const (.bool false))⟩])
  (.seq (.seq (.ops [⟨(some 7), none, .mv (.tmp 1)⟩,
    ⟨(some 8), none, .lens (.tmp 7)⟩,
    ⟨(some 9), none, .mv (.const (.int .i64 0))⟩])
  (.block 0 (.loop 2 [(0, 0), (1, 0), (7, 0), (8, 0), (9, 0)] c_spec_l18Order_l1)))
  (.kept [0] (.seq (.ops [⟨(some 28), none, .mv (.tmp 0)⟩,
    ⟨(some 29), none, .call 10 [(.tmp 28)]⟩,
    ⟨(some 4), none, .mv (.tmp 29)⟩])
  (.ret))))
theorem h_spec_l18Order : (Tryz.prog.funcs[n_spec_l18Order]?).bind (fun fn => fn.body.bind (comp Tryz.prog fn.ntmps)) = some (AS.strip c_spec_l18Order) := by kernel_rfl
theorem r_spec_l18Order : (Tryz.prog.funcs[n_spec_l18Order]?).map (fun fn => (fn.results.toList, fn.ntmps)) = some ([.tmp 4], 30) := by kernel_rfl
-- 22 loop.example/g00850/spec.PlayOrder
abbrev n_spec_PlayOrder : Nat := 22
def c_spec_PlayOrder_l1 : AS :=
  .seq (.ops [⟨(some 18), none, .bin .lss (.tmp 17) (.tmp 16)⟩])
  (.seq (.cond (.tmp 18) (.skip) (.exit 0))
  (.seq (.block 1 (.seq (.ops [⟨(some 19), none, .ia 1 (.tmp 15) (.tmp 17)⟩,
    ⟨(some 20), none, .load none (.tmp 19)⟩,
    ⟨(some 10), none, .mv (.tmp 20)⟩])
  (.seq (.seq (.ops [⟨(some 21), none, .mv (.tmp 0)⟩,
    ⟨(some 22), none, .mv (.tmp 10)⟩,
    ⟨(some 23), none, .ia 8 (.tmp 21) (.tmp 22)⟩,
    ⟨(some 24), none, .fa 3 (.tmp 23)⟩,
    ⟨(some 25), none, .load none (.tmp 24)⟩,
    ⟨(some 26), none, .not (.tmp 25)⟩])
  (.cond (.tmp 26) (.exit 1) (.skip)))
  (.kept [0, 7, 8, 10, 15, 16, 17] (.seq (.post [(32, 1, [(6, 3), (7, 3)])] (.ops [⟨(some 27), none, .mv (.tmp 8)⟩,
    ⟨(some 28), none, .mv (.tmp 27)⟩,
    ⟨(some 29), some (28, true), .mv (.tmp 7)⟩,
    ⟨(some 30), some (28, true), .mv (.tmp 0)⟩,
    ⟨(some 31), some (28, true), .mv (.tmp 10)⟩,
    ⟨(some 32), some (28, true), .ia 8 (.tmp 30) (.tmp 31)⟩,
    ⟨(some 33), some (28, true), .load (some 8) (.tmp 32)⟩,
    ⟨(some 34), some (28, true), .call 53 [(.tmp 29), (.tmp 33)]⟩,
    ⟨(some 35), none, .pick (.tmp 28) (.tmp 34) (.const (.bool false))⟩,
    ⟨(some 8), none, .mv (.tmp 35)⟩]))
  (.kept [0, 7, 8, 10, 15, 16, 17] (.seq (.post [(39, 1, [(6, 3), (7, 3)])] (.ops [⟨(some 36), none, .mv (.tmp 7)⟩,
    ⟨(some 37), none, .mv (.tmp 0)⟩,
    ⟨(some 38), none, .mv (.tmp 10)⟩,
    ⟨(some 39), none, .ia 8 (.tmp 37) (.tmp 38)⟩,
    ⟨(some 40), none, .fa 7 (.tmp 39)⟩,
    ⟨(some 41), none, .load none (.tmp 40)⟩,
    ⟨(some 42), none, .call 54 [(.tmp 36), (.tmp 41)]⟩,
    ⟨(some 7), none, .mv (.tmp 42)⟩]))
  (.kept [0, 7, 8, 15, 16, 17] (.seq (.ops [⟨(some 43), none, .mv (.tmp 7)⟩,
    ⟨(some 44), none, .call 55 [(.tmp 43)]⟩,
    ⟨(some 45), none, .not (.tmp 44)⟩])
  (.cond (.tmp 45) (.seq (.ops [⟨(some 4), none, .mv (.const (.slice none 0 0))⟩,
    ⟨(some 5), none, .mv (.const (.bool false))⟩,
    ⟨(some 6), none, .mv (.const (.bool false))⟩])
  (.ret)) (.skip)))))))))))
  (.kept [0, 7, 8, 15, 16, 17] (.ops [⟨(some 46), none, .bin .add (.tmp 17) (.const (.int .i64 1))⟩,
    ⟨(some 17), none, .mv (.tmp 46)⟩]))))
def c_spec_PlayOrder : AS :=
  .seq (.ops [⟨(some 4), none, .mv (.const (.slice none 0 0))⟩,
    ⟨(some 5), none, .mv (.const (.bool false))⟩,
    ⟨(some 6), none, .mv (.const (.bool false))⟩])
  (.seq (.seq (.ops [⟨(some 11), none, .mv (.tmp 0)⟩,
    ⟨(some 12), none, .mv (.tmp 1)⟩,
    ⟨(some 13), none, .call 21 [(.tmp 11), (.tmp 12)]⟩,
    ⟨(some 14), none, .not (.tmp 13)⟩])
  (.cond (.tmp 14) (.seq (.ops [⟨(some 4), none, .mv (.const (.slice none 0 0))⟩,
    ⟨(some 5), none, .mv (.const (.bool false))⟩,
    ⟨(some 6), none, .mv (.const (.bool false))⟩])
  (.ret)) (.skip)))
  (.kept [0, 1] (.seq (.ops [⟨(some 7), none, .mv (.const (.slice none 0 0))⟩])
  (.seq (.ops [⟨(some 8), none, .mv (.const (.bool true))⟩])
  (.seq (.seq (.ops [⟨(some 15), none, .mv (.tmp 1)⟩,
    ⟨(some 16), none, .lens (.tmp 15)⟩,
    ⟨(some 17), none, .mv (.const (.int .i64 0))⟩])
  (.block 0 (.loop 2 [(0, 0), (7, 3), (8, 0), (15, 0), (16, 0), (17, 0)] c_spec_PlayOrder_l1)))
  (.kept [7, 8] (.seq (.ops [⟨(some 47), none, .mv (.tmp 7)⟩,
    ⟨(some 48), none, .mv (.tmp 8)⟩,
    ⟨(some 4), none, .mv (.tmp 47)⟩,
    ⟨(some 5), none, .mv (.tmp 48)⟩,
    ⟨(some 6), none, .mv (.const (.bool true))⟩])
  (.ret))))))))
theorem h_spec_PlayOrder : (Tryz.prog.funcs[n_spec_PlayOrder]?).bind (fun fn => fn.body.bind (comp Tryz.prog fn.ntmps)) = some (AS.strip c_spec_PlayOrder) := by kernel_rfl
theorem r_spec_PlayOrder : (Tryz.prog.funcs[n_spec_PlayOrder]?).map (fun fn => (fn.results.toList, fn.ntmps)) = some ([.tmp 4, .tmp 5, .tmp 6], 49) := by kernel_rfl
-- 23 loop.example/g00850/spec.l19All
abbrev n_spec_l19All : Nat := 23
def c_spec_l19All_l1 : AS :=
  .seq (.ops [⟨(some 10), none, .bin .lss (.tmp 9) (.tmp 8)⟩])
  (.seq (.cond (.tmp 10) (.skip) (.exit 0))
  (.seq (.block 1 (.seq (.post [(12, 1, [(6, 3), (7, 3)])] (.ops [⟨(some 11), none, .mv (.tmp 9)⟩,
    ⟨(some 12), none, .ia 8 (.tmp 7) (.tmp 9)⟩,
    ⟨(some 13), none, .load (some 8) (.tmp 12)⟩,
    ⟨(some 6), none, .alloc (.agg #[.int .i64 0, .int .i64 0, .int .i64 0, .bool false, .bool false, .int .i64 0, .slice none 0 0, .slice none 0 0])⟩,
    ⟨(some 5), none, .mv (.tmp 11)⟩,
    ⟨none, none, .store 8 (.tmp 6) (.tmp 13)⟩]))
  (.seq (.ops [⟨(some 14), none, .fa 3 (.tmp 6)⟩,
    ⟨(some 15), none, .load none (.tmp 14)⟩,
    ⟨(some 16), none, .mv (.tmp 15)⟩,
    ⟨(some 17), some (16, true), .mv (.tmp 1)⟩,
    ⟨(some 18), some (16, true), .mv (.tmp 5)⟩,
    ⟨(some 19), some (16, true), .call 52 [(.tmp 17), (.tmp 18)]⟩,
    ⟨(some 20), some (16, true), .not (.tmp 19)⟩,
    ⟨(some 21), none, .pick (.tmp 16) (.tmp 20) (.const (.bool false))⟩])
  (.kept [1, 7, 8, 9, 21] (.cond (.tmp 21) (.seq (.ops [⟨(some 4), none, .mv (.const (.bool false))⟩])
  (.ret)) (.skip))))))
  (.kept [1, 7, 8, 9] (.ops [⟨(some 22), none, .bin .add (.tmp 9) (.const (.int .i64 1))⟩,
    ⟨(some 9), none, .mv (.tmp 22)⟩]))))
def c_spec_l19All : AS :=
  .seq (.ops [⟨(some 4), none, .mv (.const (.bool false))⟩])
  (.seq (.seq (.ops [⟨(some 7), none, .mv (.tmp 0)⟩,
    ⟨(some 8), none, .lens (.tmp 7)⟩,
    ⟨(some 9), none, .mv (.const (.int .i64 0))⟩])
  (.block 0 (.loop 2 [(1, 0), (7, 0), (8, 0), (9, 0)] c_spec_l19All_l1)))
  (.kept [] (.seq (.ops [⟨(some 4), none, .mv (.const (.bool true))⟩])
  (.ret))))
theorem h_spec_l19All : (Tryz.prog.funcs[n_spec_l19All]?).bind (fun fn => fn.body.bind (comp Tryz.prog fn.ntmps)) = some (AS.strip c_spec_l19All) := by kernel_rfl
theorem r_spec_l19All : (Tryz.prog.funcs[n_spec_l19All]?).map (fun fn => (fn.results.toList, fn.ntmps)) = some ([.tmp 4], 23) := by kernel_rfl
-- 24 loop.example/g00850/spec.l18Keeps
abbrev n_spec_l18Keeps : Nat := 24
def c_spec_l18Keeps_l1 : AS :=
  .seq (.ops [⟨(some 22), none, .bin .lss (.tmp 21) (.tmp 20)⟩])
  (.seq (.cond (.tmp 22) (.skip) (.exit 2))
  (.seq (.block 3 (.seq (.ops [⟨(some 23), none, .ia 1 (.tmp 19) (.tmp 21)⟩,
    ⟨(some 24), none, .load none (.tmp 23)⟩,
    ⟨(some 8), none, .mv (.tmp 24)⟩])
  (.seq (.post [(31, 1, [(6, 3), (7, 3)]), (27, 1, [(6, 3), (7, 3)])] (.rops [(none, ⟨(some 25), none, .mv (.tmp 0)⟩),
    (none, ⟨(some 26), none, .mv (.tmp 8)⟩),
    (none, ⟨(some 27), none, .ia 8 (.tmp 25) (.tmp 26)⟩),
    (none, ⟨(some 28), none, .load (some 8) (.tmp 27)⟩),
    (none, ⟨(some 29), none, .mv (.tmp 0)⟩),
    (none, ⟨(some 30), none, .mv (.tmp 6)⟩),
    (none, ⟨(some 31), none, .ia 8 (.tmp 29) (.tmp 30)⟩),
    (none, ⟨(some 32), none, .load (some 8) (.tmp 31)⟩),
    (some [], ⟨(some 33), none, .call 56 [(.tmp 28), (.tmp 32)]⟩)]))
  (.kept [0, 1, 6, 9, 10, 11, 19, 20, 21, 33] (.cond (.tmp 33) (.seq (.ops [⟨(some 4), none, .mv (.const (.bool false))⟩])
  (.ret)) (.skip))))))
  (.kept [0, 1, 6, 9, 10, 11, 19, 20, 21] (.ops [⟨(some 34), none, .bin .add (.tmp 21) (.const (.int .i64 1))⟩,
    ⟨(some 21), none, .mv (.tmp 34)⟩]))))
def c_spec_l18Keeps_l2 : AS :=
  .seq (.ops [⟨(some 12), none, .bin .lss (.tmp 11) (.tmp 10)⟩])
  (.seq (.cond (.tmp 12) (.skip) (.exit 0))
  (.seq (.block 1 (.seq (.ops [⟨(some 13), none, .mv (.tmp 11)⟩,
    ⟨(some 14), none, .ia 1 (.tmp 9) (.tmp 11)⟩,
    ⟨(some 15), none, .load none (.tmp 14)⟩,
    ⟨(some 5), none, .mv (.tmp 13)⟩,
    ⟨(some 6), none, .mv (.tmp 15)⟩])
  (.seq (.ops [⟨(some 16), none, .mv (.tmp 1)⟩,
    ⟨(some 17), none, .mv (.tmp 5)⟩,
    ⟨(some 18), none, .bin .add (.tmp 17) (.const (.int .i64 1))⟩,
    ⟨(some 19), none, .sls 1 (.tmp 16) (some (.tmp 18)) none none⟩,
    ⟨(some 20), none, .lens (.tmp 19)⟩,
    ⟨(some 21), none, .mv (.const (.int .i64 0))⟩])
  (.block 2 (.loop 2 [(0, 0), (1, 0), (6, 0), (9, 0), (10, 0), (11, 0), (19, 0), (20, 0), (21, 0)] c_spec_l18Keeps_l1)))))
  (.kept [0, 1, 9, 10, 11] (.ops [⟨(some 35), none, .bin .add (.tmp 11) (.const (.int .i64 1))⟩,
    ⟨(some 11), none, .mv (.tmp 35)⟩]))))
def c_spec_l18Keeps : AS :=
  .seq (.ops [⟨(some 4), none, .mv (.const (.bool false))⟩])
  (.seq (.seq (.ops [⟨(some 9), none, .mv (.tmp 1)⟩,
    ⟨(some 10), none, .lens (.tmp 9)⟩,
    ⟨(some 11), none, .mv (.const (.int .i64 0))⟩])
  (.block 0 (.loop 2 [(0, 0), (1, 0), (9, 0), (10, 0), (11, 0)] c_spec_l18Keeps_l2)))
  (.kept [] (.seq (.ops [⟨(some 4), none, .mv (.const (.bool true))⟩])
  (.ret))))
theorem h_spec_l18Keeps : (Tryz.prog.funcs[n_spec_l18Keeps]?).bind (fun fn => fn.body.bind (comp Tryz.prog fn.ntmps)) = some (AS.strip c_spec_l18Keeps) := by kernel_rfl
theorem r_spec_l18Keeps : (Tryz.prog.funcs[n_spec_l18Keeps]?).map (fun fn => (fn.results.toList, fn.ntmps)) = some ([.tmp 4], 36) := by kernel_rfl
-- 25 loop.example/g00850/spec.l19Less
abbrev n_spec_l19Less : Nat := 25
def c_spec_l19Less : AS :=
  .seq (.ops [⟨(some 6), none, .mv (.const (.bool false))⟩])
  (.seq (.post [(15, 1, [(6, 3), (7, 3)]), (11, 1, [(6, 3), (7, 3)])] (.tops [(1, 0), (2, 0), (7, 0), (8, 0), (11, 0), (15, 0)] (.rd ⟨(some 9), none, .mv (.tmp 0)⟩ (.rd ⟨(some 10), none, .mv (.tmp 1)⟩ (.rd ⟨(some 11), none, .ia 8 (.tmp 9) (.tmp 10)⟩ (.rd ⟨(some 12), none, .load (some 8) (.tmp 11)⟩ (.rd ⟨(some 13), none, .mv (.tmp 0)⟩ (.rd ⟨(some 14), none, .mv (.tmp 2)⟩ (.rd ⟨(some 15), none, .ia 8 (.tmp 13) (.tmp 14)⟩ (.rd ⟨(some 16), none, .load (some 8) (.tmp 15)⟩ (.alt [⟨(some 16), none, .load (some 8) (.tmp 15)⟩, ⟨(some 15), none, .ia 8 (.tmp 13) (.tmp 14)⟩, ⟨(some 14), none, .mv (.tmp 2)⟩, ⟨(some 13), none, .mv (.tmp 0)⟩, ⟨(some 12), none, .load (some 8) (.tmp 11)⟩, ⟨(some 11), none, .ia 8 (.tmp 9) (.tmp 10)⟩, ⟨(some 10), none, .mv (.tmp 1)⟩, ⟨(some 9), none, .mv (.tmp 0)⟩] ⟨(some 7), none, .alloc (.agg #[.int .i64 0, .int .i64 0, .int .i64 0, .bool false, .bool false, .int .i64 0, .slice none 0 0, .slice none 0 0])⟩
    (.alt [⟨(some 16), none, .load (some 8) (.tmp 15)⟩, ⟨(some 15), none, .ia 8 (.tmp 13) (.tmp 14)⟩, ⟨(some 14), none, .mv (.tmp 2)⟩, ⟨(some 13), none, .mv (.tmp 0)⟩, ⟨(some 12), none, .load (some 8) (.tmp 11)⟩, ⟨(some 11), none, .ia 8 (.tmp 9) (.tmp 10)⟩, ⟨(some 10), none, .mv (.tmp 1)⟩, ⟨(some 9), none, .mv (.tmp 0)⟩] ⟨(some 8), none, .alloc (.agg #[.int .i64 0, .int .i64 0, .int .i64 0, .bool false, .bool false, .int .i64 0, .slice none 0 0, .slice none 0 0])⟩
    (.alt [⟨(some 16), none, .load (some 8) (.tmp 15)⟩, ⟨(some 15), none, .ia 8 (.tmp 13) (.tmp 14)⟩, ⟨(some 14), none, .mv (.tmp 2)⟩, ⟨(some 13), none, .mv (.tmp 0)⟩] ⟨none, none, .store 8 (.tmp 7) (.tmp 12)⟩
    (.alt [] ⟨none, none, .store 8 (.tmp 8) (.tmp 16)⟩
    (.done)
    (.none))
    (.none))
    (.none))
    (.alt [⟨(some 16), none, .load (some 8) (.tmp 15)⟩, ⟨(some 15), none, .ia 8 (.tmp 13) (.tmp 14)⟩, ⟨(some 14), none, .mv (.tmp 2)⟩, ⟨(some 13), none, .mv (.tmp 0)⟩, ⟨(some 12), none, .load (some 8) (.tmp 11)⟩, ⟨(some 11), none, .ia 8 (.tmp 9) (.tmp 10)⟩, ⟨(some 10), none, .mv (.tmp 1)⟩, ⟨(some 9), none, .mv (.tmp 0)⟩] ⟨(some 8), none, .alloc (.agg #[.int .i64 0, .int .i64 0, .int .i64 0, .bool false, .bool false, .int .i64 0, .slice none 0 0, .slice none 0 0])⟩
    (.alt [⟨(some 16), none, .load (some 8) (.tmp 15)⟩, ⟨(some 15), none, .ia 8 (.tmp 13) (.tmp 14)⟩, ⟨(some 14), none, .mv (.tmp 2)⟩, ⟨(some 13), none, .mv (.tmp 0)⟩, ⟨(some 12), none, .load (some 8) (.tmp 11)⟩, ⟨(some 11), none, .ia 8 (.tmp 9) (.tmp 10)⟩, ⟨(some 10), none, .mv (.tmp 1)⟩, ⟨(some 9), none, .mv (.tmp 0)⟩] ⟨(some 7), none, .alloc (.agg #[.int .i64 0, .int .i64 0, .int .i64 0, .bool false, .bool false, .int .i64 0, .slice none 0 0, .slice none 0 0])⟩
    (.alt [⟨(some 16), none, .load (some 8) (.tmp 15)⟩, ⟨(some 15), none, .ia 8 (.tmp 13) (.tmp 14)⟩, ⟨(some 14), none, .mv (.tmp 2)⟩, ⟨(some 13), none, .mv (.tmp 0)⟩] ⟨none, none, .store 8 (.tmp 7) (.tmp 12)⟩
    (.alt [] ⟨none, none, .store 8 (.tmp 8) (.tmp 16)⟩
    (.done)
    (.none))
    (.none))
    (.none))
    (.none)))))))))))))
  (.kept [1, 2, 7, 8] (.seq (.seq (.ops [⟨(some 17), none, .fa 5 (.tmp 7)⟩,
    ⟨(some 18), none, .load none (.tmp 17)⟩,
    ⟨(some 19), none, .fa 5 (.tmp 8)⟩,
    ⟨(some 20), none, .load none (.tmp 19)⟩,
    ⟨(some 21), none, .bin .neq (.tmp 18) (.tmp 20)⟩])
  (.cond (.tmp 21) (.seq (.ops [⟨(some 22), none, .fa 5 (.tmp 7)⟩,
    ⟨(some 23), none, .load none (.tmp 22)⟩,
    ⟨(some 24), none, .fa 5 (.tmp 8)⟩,
    ⟨(some 25), none, .load none (.tmp 24)⟩,
    ⟨(some 26), none, .bin .lss (.tmp 23) (.tmp 25)⟩,
    ⟨(some 6), none, .mv (.tmp 26)⟩])
  (.ret)) (.skip)))
  (.kept [1, 2, 7, 8] (.seq (.seq (.ops [⟨(some 27), none, .fa 4 (.tmp 7)⟩,
    ⟨(some 28), none, .load none (.tmp 27)⟩,
    ⟨(some 29), none, .fa 4 (.tmp 8)⟩,
    ⟨(some 30), none, .load none (.tmp 29)⟩,
    ⟨(some 31), none, .eqb true (.tmp 28) (.tmp 30)⟩])
  (.cond (.tmp 31) (.seq (.ops [⟨(some 32), none, .fa 4 (.tmp 8)⟩,
    ⟨(some 33), none, .load none (.tmp 32)⟩,
    ⟨(some 6), none, .mv (.tmp 33)⟩])
  (.ret)) (.skip)))
  (.kept [1, 2] (.seq (.ops [⟨(some 34), none, .mv (.tmp 1)⟩,
    ⟨(some 35), none, .mv (.tmp 2)⟩,
    ⟨(some 36), none, .bin .lss (.tmp 34) (.tmp 35)⟩,
    ⟨(some 6), none, .mv (.tmp 36)⟩])
  (.ret))))))))
theorem h_spec_l19Less : (Tryz.prog.funcs[n_spec_l19Less]?).bind (fun fn => fn.body.bind (comp Tryz.prog fn.ntmps)) = some (AS.strip c_spec_l19Less) := by kernel_rfl
theorem r_spec_l19Less : (Tryz.prog.funcs[n_spec_l19Less]?).map (fun fn => (fn.results.toList, fn.ntmps)) = some ([.tmp 6], 37) := by kernel_rfl
-- 26 loop.example/g00850/spec.l1Own
abbrev n_spec_l1Own : Nat := 26
def c_spec_l1Own : AS :=
  .seq (.ops [⟨(some 2), none, .mv (.const (.slice none 0 0))⟩])
  (.seq (.ops [⟨(some 3), none, .bsl 1 (.int .i64 0) 0 []⟩,
    ⟨(some 4), none, .mv (.tmp 0)⟩,
    ⟨(some 5), none, .app 1 8 (.int .i64 0) (.tmp 3) (.tmp 4)⟩,
    ⟨(some 2), none, .mv (.tmp 5)⟩])
  (.ret))
theorem h_spec_l1Own : (Tryz.prog.funcs[n_spec_l1Own]?).bind (fun fn => fn.body.bind (comp Tryz.prog fn.ntmps)) = some (AS.strip c_spec_l1Own) := by kernel_rfl
theorem r_spec_l1Own : (Tryz.prog.funcs[n_spec_l1Own]?).map (fun fn => (fn.results.toList, fn.ntmps)) = some ([.tmp 2], 6) := by kernel_rfl
-- 27 loop.example/g00850/laws.toGotS
abbrev n_laws_toGotS : Nat := 27
def c_laws_toGotS_l1 : AS :=
  .seq (.seq (.ops [⟨(some 8), none, .mv (.tmp 4)⟩,
    ⟨(some 9), none, .mv (.tmp 0)⟩,
    ⟨(some 10), none, .lens (.tmp 9)⟩,
    ⟨(some 11), none, .bin .lss (.tmp 8) (.tmp 10)⟩])
  (.cond (.tmp 11) (.skip) (.exit 0)))
  (.seq (.block 1 (.ops [⟨(some 14), none, .mv (.tmp 3)⟩,
    ⟨(some 15), none, .mv (.tmp 4)⟩,
    ⟨(some 16), none, .mv (.tmp 0)⟩,
    ⟨(some 17), none, .mv (.tmp 4)⟩,
    ⟨(some 18), none, .ia 3 (.tmp 16) (.tmp 17)⟩,
    ⟨(some 19), none, .load (some 3) (.tmp 18)⟩,
    ⟨(some 20), none, .call 57 [(.tmp 19)]⟩,
    ⟨(some 21), none, .ia 3 (.tmp 14) (.tmp 15)⟩,
    ⟨none, none, .store 3 (.tmp 21) (.tmp 20)⟩]))
  (.kept [0, 3, 4] (.ops [⟨(some 12), none, .mv (.tmp 4)⟩,
    ⟨(some 13), none, .bin .add (.tmp 12) (.const (.int .i64 1))⟩,
    ⟨(some 4), none, .mv (.tmp 13)⟩])))
def c_laws_toGotS : AS :=
  .seq (.ops [⟨(some 2), none, .mv (.const (.slice none 0 0))⟩])
  (.seq (.ops [⟨(some 5), none, .mv (.tmp 0)⟩,
    ⟨(some 6), none, .lens (.tmp 5)⟩,
    ⟨(some 7), none, .mks 3 40 (.agg #[.string ⟨⟨[]⟩⟩, .string ⟨⟨[]⟩⟩, .bool false]) (.tmp 6) (.tmp 6)⟩,
    ⟨(some 3), none, .mv (.tmp 7)⟩])
  (.seq (.seq (.ops [⟨(some 4), none, .mv (.const (.int .i64 0))⟩])
  (.block 0 (.loop 1 [(0, 0), (3, 0), (4, 0)] c_laws_toGotS_l1)))
  (.kept [3] (.seq (.ops [⟨(some 22), none, .mv (.tmp 3)⟩,
    ⟨(some 2), none, .mv (.tmp 22)⟩])
  (.ret)))))
theorem h_laws_toGotS : (Tryz.prog.funcs[n_laws_toGotS]?).bind (fun fn => fn.body.bind (comp Tryz.prog fn.ntmps)) = some (AS.strip c_laws_toGotS) := by kernel_rfl
theorem r_laws_toGotS : (Tryz.prog.funcs[n_laws_toGotS]?).map (fun fn => (fn.results.toList, fn.ntmps)) = some ([.tmp 2], 23) := by kernel_rfl
-- 28 loop.example/g00850/laws.toWriteS
abbrev n_laws_toWriteS : Nat := 28
def c_laws_toWriteS_l1 : AS :=
  .seq (.seq (.ops [⟨(some 8), none, .mv (.tmp 4)⟩,
    ⟨(some 9), none, .mv (.tmp 0)⟩,
    ⟨(some 10), none, .lens (.tmp 9)⟩,
    ⟨(some 11), none, .bin .lss (.tmp 8) (.tmp 10)⟩])
  (.cond (.tmp 11) (.skip) (.exit 0)))
  (.seq (.block 1 (.ops [⟨(some 14), none, .mv (.tmp 3)⟩,
    ⟨(some 15), none, .mv (.tmp 4)⟩,
    ⟨(some 16), none, .mv (.tmp 0)⟩,
    ⟨(some 17), none, .mv (.tmp 4)⟩,
    ⟨(some 18), none, .ia 3 (.tmp 16) (.tmp 17)⟩,
    ⟨(some 19), none, .load (some 3) (.tmp 18)⟩,
    ⟨(some 20), none, .call 58 [(.tmp 19)]⟩,
    ⟨(some 21), none, .ia 3 (.tmp 14) (.tmp 15)⟩,
    ⟨none, none, .store 3 (.tmp 21) (.tmp 20)⟩]))
  (.kept [0, 3, 4] (.ops [⟨(some 12), none, .mv (.tmp 4)⟩,
    ⟨(some 13), none, .bin .add (.tmp 12) (.const (.int .i64 1))⟩,
    ⟨(some 4), none, .mv (.tmp 13)⟩])))
def c_laws_toWriteS : AS :=
  .seq (.ops [⟨(some 2), none, .mv (.const (.slice none 0 0))⟩])
  (.seq (.ops [⟨(some 5), none, .mv (.tmp 0)⟩,
    ⟨(some 6), none, .lens (.tmp 5)⟩,
    ⟨(some 7), none, .mks 3 40 (.agg #[.string ⟨⟨[]⟩⟩, .string ⟨⟨[]⟩⟩, .bool false]) (.tmp 6) (.tmp 6)⟩,
    ⟨(some 3), none, .mv (.tmp 7)⟩])
  (.seq (.seq (.ops [⟨(some 4), none, .mv (.const (.int .i64 0))⟩])
  (.block 0 (.loop 1 [(0, 0), (3, 0), (4, 0)] c_laws_toWriteS_l1)))
  (.kept [3] (.seq (.ops [⟨(some 22), none, .mv (.tmp 3)⟩,
    ⟨(some 2), none, .mv (.tmp 22)⟩])
  (.ret)))))
theorem h_laws_toWriteS : (Tryz.prog.funcs[n_laws_toWriteS]?).bind (fun fn => fn.body.bind (comp Tryz.prog fn.ntmps)) = some (AS.strip c_laws_toWriteS) := by kernel_rfl
theorem r_laws_toWriteS : (Tryz.prog.funcs[n_laws_toWriteS]?).map (fun fn => (fn.results.toList, fn.ntmps)) = some ([.tmp 2], 23) := by kernel_rfl
-- 29 slices.ContainsFunc[[]loop.example/g00850/impl.Deed,loop.example/g00850/impl.Deed]
abbrev n_slices_ContainsFunc___impl_Deed_impl_Deed_ : Nat := 29
def c_slices_ContainsFunc___impl_Deed_impl_Deed_ : AS :=
  .seq (.ops [⟨(some 4), none, .mv (.const (.bool false))⟩])
  (.seq (.ops [⟨(some 5), none, .mv (.tmp 0)⟩,
    ⟨(some 6), none, .mv (.tmp 1)⟩,
    ⟨(some 7), none, .call 59 [(.tmp 5), (.tmp 6)]⟩,
    ⟨(some 8), none, .bin .geq (.tmp 7) (.const (.int .i64 0))⟩,
    ⟨(some 4), none, .mv (.tmp 8)⟩])
  (.ret))
theorem h_slices_ContainsFunc___impl_Deed_impl_Deed_ : (Tryz.prog.funcs[n_slices_ContainsFunc___impl_Deed_impl_Deed_]?).bind (fun fn => fn.body.bind (comp Tryz.prog fn.ntmps)) = some (AS.strip c_slices_ContainsFunc___impl_Deed_impl_Deed_) := by kernel_rfl
theorem r_slices_ContainsFunc___impl_Deed_impl_Deed_ : (Tryz.prog.funcs[n_slices_ContainsFunc___impl_Deed_impl_Deed_]?).map (fun fn => (fn.results.toList, fn.ntmps)) = some ([.tmp 4], 9) := by kernel_rfl
-- 30 loop.example/g00850/impl.GoodHistory$1
abbrev n_impl_GoodHistory_1 : Nat := 30
def c_impl_GoodHistory_1 : AS :=
  .seq (.ops [⟨(some 1), none, .box (.tmp 0)⟩,
    ⟨(some 2), none, .mv (.const (.bool false))⟩])
  (.seq (.ops [⟨(some 3), none, .load (some 8) (.tmp 1)⟩,
    ⟨(some 4), none, .call 31 [(.tmp 3)]⟩,
    ⟨(some 5), none, .not (.tmp 4)⟩,
    ⟨(some 2), none, .mv (.tmp 5)⟩])
  (.ret))
theorem h_impl_GoodHistory_1 : (Tryz.prog.funcs[n_impl_GoodHistory_1]?).bind (fun fn => fn.body.bind (comp Tryz.prog fn.ntmps)) = some (AS.strip c_impl_GoodHistory_1) := by kernel_rfl
theorem r_impl_GoodHistory_1 : (Tryz.prog.funcs[n_impl_GoodHistory_1]?).map (fun fn => (fn.results.toList, fn.ntmps)) = some ([.tmp 2], 6) := by kernel_rfl
-- 31 loop.example/g00850/impl.isDeed
abbrev n_impl_isDeed : Nat := 31
def c_impl_isDeed : AS :=
  .seq (.ops [⟨(some 1), none, .box (.tmp 0)⟩,
    ⟨(some 2), none, .mv (.const (.bool false))⟩])
  (.seq (.ops [⟨(some 3), none, .fa 0 (.tmp 1)⟩,
    ⟨(some 4), none, .load none (.tmp 3)⟩,
    ⟨(some 5), none, .call 60 [(.tmp 4)]⟩,
    ⟨(some 6), none, .mv (.tmp 5)⟩,
    ⟨(some 7), some (6, true), .fa 1 (.tmp 1)⟩,
    ⟨(some 8), some (6, true), .load none (.tmp 7)⟩,
    ⟨(some 9), some (6, true), .call 61 [(.tmp 8), (.const (.int .i64 0)), (.const (.int .i64 1000000))]⟩,
    ⟨(some 10), none, .pick (.tmp 6) (.tmp 9) (.const (.bool false))⟩,
    ⟨(some 11), none, .mv (.tmp 10)⟩,
    ⟨(some 12), some (11, true), .fa 2 (.tmp 1)⟩,
    ⟨(some 13), some (11, true), .load none (.tmp 12)⟩,
    ⟨(some 14), some (11, true), .bin .eql (.tmp 13) (.const (.int .i64 (-1)))⟩,
    ⟨(some 15), some (11, true), .mv (.tmp 14)⟩,
    ⟨(some 16), some (15, false), .fa 2 (.tmp 1)⟩,
    ⟨(some 17), some (15, false), .load none (.tmp 16)⟩,
    ⟨(some 18), some (15, false), .fa 1 (.tmp 1)⟩,
    ⟨(some 19), some (15, false), .load none (.tmp 18)⟩,
    ⟨(some 20), some (15, false), .bin .add (.tmp 19) (.const (.int .i64 1))⟩,
    ⟨(some 21), some (15, false), .call 61 [(.tmp 17), (.tmp 20), (.const (.int .i64 1000000))]⟩,
    ⟨(some 22), some (11, true), .pick (.tmp 15) (.const (.bool true)) (.tmp 21)⟩,
    ⟨(some 23), none, .pick (.tmp 11) (.tmp 22) (.const (.bool false))⟩,
    ⟨(some 24), none, .mv (.tmp 23)⟩,
    ⟨(some 25), some (24, true), .fa 4 (.tmp 1)⟩,
    ⟨(some 26), some (24, true), .load none (.tmp 25)⟩,
    ⟨(some 27), some (24, true), .not (.tmp 26)⟩,
    ⟨(some 28), some (24, true), .mv (.tmp 27)⟩,
    ⟨(some 29), some (28, false), .fa 3 (.tmp 1)⟩,
    ⟨(some 30), some (28, false), .load none (.tmp 29)⟩,
    ⟨(some 31), some (28, false), .mv (.tmp 30)⟩,
    ⟨(some 32), some (31, true), .fa 7 (.tmp 1)⟩,
    ⟨(some 33), some (31, true), .load none (.tmp 32)⟩,
    ⟨(some 34), some (31, true), .lens (.tmp 33)⟩,
    ⟨(some 35), some (31, true), .bin .eql (.tmp 34) (.const (.int .i64 0))⟩,
    ⟨(some 36), some (28, false), .pick (.tmp 31) (.tmp 35) (.const (.bool false))⟩,
    ⟨(some 37), some (24, true), .pick (.tmp 28) (.const (.bool true)) (.tmp 36)⟩,
    ⟨(some 38), none, .pick (.tmp 24) (.tmp 37) (.const (.bool false))⟩,
    ⟨(some 39), none, .mv (.tmp 38)⟩,
    ⟨(some 40), some (39, true), .fa 5 (.tmp 1)⟩,
    ⟨(some 41), some (39, true), .load none (.tmp 40)⟩,
    ⟨(some 42), some (39, true), .call 62 [(.tmp 41)]⟩,
    ⟨(some 43), none, .pick (.tmp 39) (.tmp 42) (.const (.bool false))⟩,
    ⟨(some 44), none, .mv (.tmp 43)⟩,
    ⟨(some 45), some (44, true), .fa 6 (.tmp 1)⟩,
    ⟨(some 46), some (44, true), .load none (.tmp 45)⟩,
    ⟨(some 47), some (44, true), .call 63 [(.tmp 46)]⟩,
    ⟨(some 48), none, .pick (.tmp 44) (.tmp 47) (.const (.bool false))⟩,
    ⟨(some 49), none, .mv (.tmp 48)⟩,
    ⟨(some 50), some (49, true), .fa 7 (.tmp 1)⟩,
    ⟨(some 51), some (49, true), .load none (.tmp 50)⟩,
    ⟨(some 52), some (49, true), .call 64 [(.tmp 51)]⟩,
    ⟨(some 53), none, .pick (.tmp 49) (.tmp 52) (.const (.bool false))⟩,
    ⟨(some 2), none, .mv (.tmp 53)⟩])
  (.ret))
theorem h_impl_isDeed : (Tryz.prog.funcs[n_impl_isDeed]?).bind (fun fn => fn.body.bind (comp Tryz.prog fn.ntmps)) = some (AS.strip c_impl_isDeed) := by kernel_rfl
theorem r_impl_isDeed : (Tryz.prog.funcs[n_impl_isDeed]?).map (fun fn => (fn.results.toList, fn.ntmps)) = some ([.tmp 2], 54) := by kernel_rfl
-- 32 loop.example/g00850/impl.isOrderOf
abbrev n_impl_isOrderOf : Nat := 32
def c_impl_isOrderOf_l1 : AS :=
  .seq (.ops [⟨(some 10), none, .bin .lss (.tmp 9) (.tmp 8)⟩])
  (.seq (.cond (.tmp 10) (.skip) (.exit 0))
  (.seq (.block 1 (.seq (.ops [⟨(some 11), none, .mv (.tmp 9)⟩,
    ⟨(some 12), none, .ia 1 (.tmp 7) (.tmp 9)⟩,
    ⟨(some 13), none, .load none (.tmp 12)⟩,
    ⟨(some 5), none, .mv (.tmp 11)⟩,
    ⟨(some 6), none, .mv (.tmp 13)⟩])
  (.seq (.ops [⟨(some 14), none, .mv (.tmp 6)⟩,
    ⟨(some 15), none, .mv (.tmp 0)⟩,
    ⟨(some 16), none, .lens (.tmp 15)⟩,
    ⟨(some 17), none, .bin .sub (.tmp 16) (.const (.int .i64 1))⟩,
    ⟨(some 18), none, .call 61 [(.tmp 14), (.const (.int .i64 0)), (.tmp 17)]⟩,
    ⟨(some 19), none, .not (.tmp 18)⟩,
    ⟨(some 20), none, .mv (.tmp 19)⟩,
    ⟨(some 21), some (20, false), .mv (.tmp 1)⟩,
    ⟨(some 22), some (20, false), .mv (.tmp 5)⟩,
    ⟨(some 23), some (20, false), .sls 1 (.tmp 21) none (some (.tmp 22)) none⟩,
    ⟨(some 24), some (20, false), .mv (.tmp 6)⟩,
    ⟨(some 25), some (20, false), .call 36 [(.tmp 23), (.tmp 24)]⟩,
    ⟨(some 26), none, .pick (.tmp 20) (.const (.bool true)) (.tmp 25)⟩])
  (.kept [0, 1, 7, 8, 9, 26] (.cond (.tmp 26) (.seq (.ops [⟨(some 4), none, .mv (.const (.bool false))⟩])
  (.ret)) (.skip))))))
  (.kept [0, 1, 7, 8, 9] (.ops [⟨(some 27), none, .bin .add (.tmp 9) (.const (.int .i64 1))⟩,
    ⟨(some 9), none, .mv (.tmp 27)⟩]))))
def c_impl_isOrderOf : AS :=
  .seq (.ops [⟨(some 4), none, .mv (.const (.bool false))⟩])
  (.seq (.seq (.ops [⟨(some 7), none, .mv (.tmp 1)⟩,
    ⟨(some 8), none, .lens (.tmp 7)⟩,
    ⟨(some 9), none, .mv (.const (.int .i64 0))⟩])
  (.block 0 (.loop 2 [(0, 0), (1, 0), (7, 0), (8, 0), (9, 0)] c_impl_isOrderOf_l1)))
  (.kept [0] (.seq (.ops [⟨(some 28), none, .mv (.tmp 0)⟩,
    ⟨(some 29), none, .call 14 [(.tmp 28)]⟩,
    ⟨(some 4), none, .mv (.tmp 29)⟩])
  (.ret))))
theorem h_impl_isOrderOf : (Tryz.prog.funcs[n_impl_isOrderOf]?).bind (fun fn => fn.body.bind (comp Tryz.prog fn.ntmps)) = some (AS.strip c_impl_isOrderOf) := by kernel_rfl
theorem r_impl_isOrderOf : (Tryz.prog.funcs[n_impl_isOrderOf]?).map (fun fn => (fn.results.toList, fn.ntmps)) = some ([.tmp 4], 30) := by kernel_rfl
-- 33 slices.ContainsFunc[[]int,int]
abbrev n_slices_ContainsFunc___int_int_ : Nat := 33
def c_slices_ContainsFunc___int_int_ : AS :=
  .seq (.ops [⟨(some 4), none, .mv (.const (.bool false))⟩])
  (.seq (.ops [⟨(some 5), none, .mv (.tmp 0)⟩,
    ⟨(some 6), none, .mv (.tmp 1)⟩,
    ⟨(some 7), none, .call 65 [(.tmp 5), (.tmp 6)]⟩,
    ⟨(some 8), none, .bin .geq (.tmp 7) (.const (.int .i64 0))⟩,
    ⟨(some 4), none, .mv (.tmp 8)⟩])
  (.ret))
theorem h_slices_ContainsFunc___int_int_ : (Tryz.prog.funcs[n_slices_ContainsFunc___int_int_]?).bind (fun fn => fn.body.bind (comp Tryz.prog fn.ntmps)) = some (AS.strip c_slices_ContainsFunc___int_int_) := by kernel_rfl
theorem r_slices_ContainsFunc___int_int_ : (Tryz.prog.funcs[n_slices_ContainsFunc___int_int_]?).map (fun fn => (fn.results.toList, fn.ntmps)) = some ([.tmp 4], 9) := by kernel_rfl
-- 34 loop.example/g00850/impl.committed
abbrev n_impl_committed : Nat := 34
def c_impl_committed_l1 : AS :=
  .seq (.ops [⟨(some 10), none, .bin .lss (.tmp 9) (.tmp 8)⟩])
  (.seq (.cond (.tmp 10) (.skip) (.exit 0))
  (.seq (.block 1 (.seq (.post [(12, 1, [(6, 3), (7, 3)])] (.ops [⟨(some 11), none, .mv (.tmp 9)⟩,
    ⟨(some 12), none, .ia 8 (.tmp 7) (.tmp 9)⟩,
    ⟨(some 13), none, .load (some 8) (.tmp 12)⟩,
    ⟨(some 5), none, .alloc (.agg #[.int .i64 0, .int .i64 0, .int .i64 0, .bool false, .bool false, .int .i64 0, .slice none 0 0, .slice none 0 0])⟩,
    ⟨(some 4), none, .mv (.tmp 11)⟩,
    ⟨none, none, .store 8 (.tmp 5) (.tmp 13)⟩]))
  (.seq (.ops [⟨(some 14), none, .fa 3 (.tmp 5)⟩,
    ⟨(some 15), none, .load none (.tmp 14)⟩])
  (.cond (.tmp 15) (.ops [⟨(some 16), none, .mv (.tmp 3)⟩,
    ⟨(some 17), none, .mv (.tmp 4)⟩,
    ⟨(some 18), none, .bsl 1 (.int .i64 0) 1 [(0, (.tmp 17))]⟩,
    ⟨(some 19), none, .app 1 8 (.int .i64 0) (.tmp 16) (.tmp 18)⟩,
    ⟨(some 3), none, .mv (.tmp 19)⟩]) (.skip)))))
  (.kept [3, 7, 8, 9] (.ops [⟨(some 20), none, .bin .add (.tmp 9) (.const (.int .i64 1))⟩,
    ⟨(some 9), none, .mv (.tmp 20)⟩]))))
def c_impl_committed : AS :=
  .seq (.ops [⟨(some 2), none, .mv (.const (.slice none 0 0))⟩])
  (.seq (.ops [⟨(some 6), none, .bsl 1 (.int .i64 0) 0 []⟩,
    ⟨(some 3), none, .mv (.tmp 6)⟩])
  (.seq (.seq (.ops [⟨(some 7), none, .mv (.tmp 0)⟩,
    ⟨(some 8), none, .lens (.tmp 7)⟩,
    ⟨(some 9), none, .mv (.const (.int .i64 0))⟩])
  (.block 0 (.loop 1 [(3, 1), (7, 0), (8, 0), (9, 0)] c_impl_committed_l1)))
  (.kept [3] (.seq (.ops [⟨(some 21), none, .mv (.tmp 3)⟩,
    ⟨(some 2), none, .mv (.tmp 21)⟩])
  (.ret)))))
theorem h_impl_committed : (Tryz.prog.funcs[n_impl_committed]?).bind (fun fn => fn.body.bind (comp Tryz.prog fn.ntmps)) = some (AS.strip c_impl_committed) := by kernel_rfl
theorem r_impl_committed : (Tryz.prog.funcs[n_impl_committed]?).map (fun fn => (fn.results.toList, fn.ntmps)) = some ([.tmp 2], 22) := by kernel_rfl
-- 35 loop.example/g00850/impl.IsWitness$1
abbrev n_impl_IsWitness_1 : Nat := 35
def c_impl_IsWitness_1 : AS :=
  .seq (.ops [⟨(some 3), none, .mv (.const (.bool false))⟩])
  (.seq (.ops [⟨(some 4), none, .load none (.tmp 1)⟩,
    ⟨(some 5), none, .mv (.tmp 0)⟩,
    ⟨(some 6), none, .call 36 [(.tmp 4), (.tmp 5)]⟩,
    ⟨(some 7), none, .not (.tmp 6)⟩,
    ⟨(some 3), none, .mv (.tmp 7)⟩])
  (.ret))
theorem h_impl_IsWitness_1 : (Tryz.prog.funcs[n_impl_IsWitness_1]?).bind (fun fn => fn.body.bind (comp Tryz.prog fn.ntmps)) = some (AS.strip c_impl_IsWitness_1) := by kernel_rfl
theorem r_impl_IsWitness_1 : (Tryz.prog.funcs[n_impl_IsWitness_1]?).map (fun fn => (fn.results.toList, fn.ntmps)) = some ([.tmp 3], 8) := by kernel_rfl
-- 36 slices.Contains[[]int,int]
abbrev n_slices_Contains___int_int_ : Nat := 36
def c_slices_Contains___int_int_ : AS :=
  .seq (.ops [⟨(some 4), none, .mv (.const (.bool false))⟩])
  (.seq (.ops [⟨(some 5), none, .mv (.tmp 0)⟩,
    ⟨(some 6), none, .mv (.tmp 1)⟩,
    ⟨(some 7), none, .call 66 [(.tmp 5), (.tmp 6)]⟩,
    ⟨(some 8), none, .bin .geq (.tmp 7) (.const (.int .i64 0))⟩,
    ⟨(some 4), none, .mv (.tmp 8)⟩])
  (.ret))
theorem h_slices_Contains___int_int_ : (Tryz.prog.funcs[n_slices_Contains___int_int_]?).bind (fun fn => fn.body.bind (comp Tryz.prog fn.ntmps)) = some (AS.strip c_slices_Contains___int_int_) := by kernel_rfl
theorem r_slices_Contains___int_int_ : (Tryz.prog.funcs[n_slices_Contains___int_int_]?).map (fun fn => (fn.results.toList, fn.ntmps)) = some ([.tmp 4], 9) := by kernel_rfl
-- 37 loop.example/g00850/impl.keeps
abbrev n_impl_keeps : Nat := 37
def c_impl_keeps_l1 : AS :=
  .seq (.ops [⟨(some 22), none, .bin .lss (.tmp 21) (.tmp 20)⟩])
  (.seq (.cond (.tmp 22) (.skip) (.exit 2))
  (.seq (.block 3 (.seq (.ops [⟨(some 23), none, .ia 1 (.tmp 19) (.tmp 21)⟩,
    ⟨(some 24), none, .load none (.tmp 23)⟩,
    ⟨(some 8), none, .mv (.tmp 24)⟩])
  (.seq (.post [(31, 1, [(6, 3), (7, 3)]), (27, 1, [(6, 3), (7, 3)])] (.rops [(none, ⟨(some 25), none, .mv (.tmp 0)⟩),
    (none, ⟨(some 26), none, .mv (.tmp 8)⟩),
    (none, ⟨(some 27), none, .ia 8 (.tmp 25) (.tmp 26)⟩),
    (none, ⟨(some 28), none, .load (some 8) (.tmp 27)⟩),
    (none, ⟨(some 29), none, .mv (.tmp 0)⟩),
    (none, ⟨(some 30), none, .mv (.tmp 6)⟩),
    (none, ⟨(some 31), none, .ia 8 (.tmp 29) (.tmp 30)⟩),
    (none, ⟨(some 32), none, .load (some 8) (.tmp 31)⟩),
    (some [], ⟨(some 33), none, .call 67 [(.tmp 28), (.tmp 32)]⟩)]))
  (.kept [0, 1, 6, 9, 10, 11, 19, 20, 21, 33] (.cond (.tmp 33) (.seq (.ops [⟨(some 4), none, .mv (.const (.bool false))⟩])
  (.ret)) (.skip))))))
  (.kept [0, 1, 6, 9, 10, 11, 19, 20, 21] (.ops [⟨(some 34), none, .bin .add (.tmp 21) (.const (.int .i64 1))⟩,
    ⟨(some 21), none, .mv (.tmp 34)⟩]))))
def c_impl_keeps_l2 : AS :=
  .seq (.ops [⟨(some 12), none, .bin .lss (.tmp 11) (.tmp 10)⟩])
  (.seq (.cond (.tmp 12) (.skip) (.exit 0))
  (.seq (.block 1 (.seq (.ops [⟨(some 13), none, .mv (.tmp 11)⟩,
    ⟨(some 14), none, .ia 1 (.tmp 9) (.tmp 11)⟩,
    ⟨(some 15), none, .load none (.tmp 14)⟩,
    ⟨(some 5), none, .mv (.tmp 13)⟩,
    ⟨(some 6), none, .mv (.tmp 15)⟩])
  (.seq (.ops [⟨(some 16), none, .mv (.tmp 1)⟩,
    ⟨(some 17), none, .mv (.tmp 5)⟩,
    ⟨(some 18), none, .bin .add (.tmp 17) (.const (.int .i64 1))⟩,
    ⟨(some 19), none, .sls 1 (.tmp 16) (some (.tmp 18)) none none⟩,
    ⟨(some 20), none, .lens (.tmp 19)⟩,
    ⟨(some 21), none, .mv (.const (.int .i64 0))⟩])
  (.block 2 (.loop 2 [(0, 0), (1, 0), (6, 0), (9, 0), (10, 0), (11, 0), (19, 0), (20, 0), (21, 0)] c_impl_keeps_l1)))))
  (.kept [0, 1, 9, 10, 11] (.ops [⟨(some 35), none, .bin .add (.tmp 11) (.const (.int .i64 1))⟩,
    ⟨(some 11), none, .mv (.tmp 35)⟩]))))
def c_impl_keeps : AS :=
  .seq (.ops [⟨(some 4), none, .mv (.const (.bool false))⟩])
  (.seq (.seq (.ops [⟨(some 9), none, .mv (.tmp 1)⟩,
    ⟨(some 10), none, .lens (.tmp 9)⟩,
    ⟨(some 11), none, .mv (.const (.int .i64 0))⟩])
  (.block 0 (.loop 2 [(0, 0), (1, 0), (9, 0), (10, 0), (11, 0)] c_impl_keeps_l2)))
  (.kept [] (.seq (.ops [⟨(some 4), none, .mv (.const (.bool true))⟩])
  (.ret))))
theorem h_impl_keeps : (Tryz.prog.funcs[n_impl_keeps]?).bind (fun fn => fn.body.bind (comp Tryz.prog fn.ntmps)) = some (AS.strip c_impl_keeps) := by kernel_rfl
theorem r_impl_keeps : (Tryz.prog.funcs[n_impl_keeps]?).map (fun fn => (fn.results.toList, fn.ntmps)) = some ([.tmp 4], 36) := by kernel_rfl
-- 38 loop.example/g00850/impl.PlayOrder
abbrev n_impl_PlayOrder : Nat := 38
def c_impl_PlayOrder_l1 : AS :=
  .seq (.ops [⟨(some 21), none, .bin .lss (.tmp 20) (.tmp 19)⟩])
  (.seq (.cond (.tmp 21) (.skip) (.exit 0))
  (.seq (.block 1 (.seq (.ops [⟨(some 22), none, .ia 1 (.tmp 18) (.tmp 20)⟩,
    ⟨(some 23), none, .load none (.tmp 22)⟩,
    ⟨(some 10), none, .mv (.tmp 23)⟩])
  (.seq (.seq (.ops [⟨(some 24), none, .mv (.tmp 0)⟩,
    ⟨(some 25), none, .mv (.tmp 10)⟩,
    ⟨(some 26), none, .ia 8 (.tmp 24) (.tmp 25)⟩,
    ⟨(some 27), none, .fa 3 (.tmp 26)⟩,
    ⟨(some 28), none, .load none (.tmp 27)⟩,
    ⟨(some 29), none, .not (.tmp 28)⟩])
  (.cond (.tmp 29) (.exit 1) (.skip)))
  (.kept [0, 7, 8, 10, 18, 19, 20] (.seq (.post [(34, 1, [(6, 3), (7, 3)])] (.ops [⟨(some 30), none, .mv (.tmp 8)⟩,
    ⟨(some 31), none, .mv (.tmp 30)⟩,
    ⟨(some 32), some (31, true), .mv (.tmp 0)⟩,
    ⟨(some 33), some (31, true), .mv (.tmp 10)⟩,
    ⟨(some 34), some (31, true), .ia 8 (.tmp 32) (.tmp 33)⟩,
    ⟨(some 35), some (31, true), .load (some 8) (.tmp 34)⟩,
    ⟨(some 36), some (31, true), .mv (.tmp 7)⟩,
    ⟨(some 37), some (31, true), .call 68 [(.tmp 35), (.tmp 36)]⟩,
    ⟨(some 38), none, .pick (.tmp 31) (.tmp 37) (.const (.bool false))⟩,
    ⟨(some 8), none, .mv (.tmp 38)⟩]))
  (.kept [0, 7, 8, 10, 18, 19, 20] (.seq (.post [(43, 1, [(6, 3), (7, 3)])] (.ops [⟨(some 40), none, .mv (.tmp 7)⟩,
    ⟨(some 41), none, .mv (.tmp 0)⟩,
    ⟨(some 42), none, .mv (.tmp 10)⟩,
    ⟨(some 43), none, .ia 8 (.tmp 41) (.tmp 42)⟩,
    ⟨(some 44), none, .fa 7 (.tmp 43)⟩,
    ⟨(some 45), none, .load none (.tmp 44)⟩,
    ⟨(some 46), none, .call 69 [(.tmp 40), (.tmp 45)]⟩,
    ⟨(some 39), none, .mv (.tmp 46)⟩,
    ⟨(some 47), none, .ext 0 (.tmp 39)⟩,
    ⟨(some 48), none, .ext 1 (.tmp 39)⟩,
    ⟨(some 11), none, .mv (.tmp 47)⟩,
    ⟨(some 12), none, .mv (.tmp 48)⟩]))
  (.kept [0, 8, 11, 12, 18, 19, 20] (.seq (.seq (.ops [⟨(some 49), none, .mv (.tmp 12)⟩,
    ⟨(some 50), none, .not (.tmp 49)⟩])
  (.cond (.tmp 50) (.seq (.ops [⟨(some 4), none, .mv (.const (.slice none 0 0))⟩,
    ⟨(some 5), none, .mv (.const (.bool false))⟩,
    ⟨(some 6), none, .mv (.const (.bool false))⟩])
  (.ret)) (.skip)))
  (.ops [⟨(some 51), none, .mv (.tmp 11)⟩,
    ⟨(some 7), none, .mv (.tmp 51)⟩]))))))))))
  (.kept [0, 7, 8, 18, 19, 20] (.ops [⟨(some 52), none, .bin .add (.tmp 20) (.const (.int .i64 1))⟩,
    ⟨(some 20), none, .mv (.tmp 52)⟩]))))
def c_impl_PlayOrder : AS :=
  .seq (.ops [⟨(some 4), none, .mv (.const (.slice none 0 0))⟩,
    ⟨(some 5), none, .mv (.const (.bool false))⟩,
    ⟨(some 6), none, .mv (.const (.bool false))⟩])
  (.seq (.seq (.ops [⟨(some 13), none, .mv (.tmp 0)⟩,
    ⟨(some 14), none, .mv (.tmp 1)⟩,
    ⟨(some 15), none, .call 32 [(.tmp 13), (.tmp 14)]⟩,
    ⟨(some 16), none, .not (.tmp 15)⟩])
  (.cond (.tmp 16) (.seq (.ops [⟨(some 4), none, .mv (.const (.slice none 0 0))⟩,
    ⟨(some 5), none, .mv (.const (.bool false))⟩,
    ⟨(some 6), none, .mv (.const (.bool false))⟩])
  (.ret)) (.skip)))
  (.kept [0, 1] (.seq (.ops [⟨(some 17), none, .bsl 3 (.agg #[.string ⟨⟨[]⟩⟩, .string ⟨⟨[]⟩⟩, .bool false]) 0 []⟩,
    ⟨(some 7), none, .mv (.tmp 17)⟩])
  (.seq (.ops [⟨(some 8), none, .mv (.const (.bool true))⟩])
  (.seq (.seq (.ops [⟨(some 18), none, .mv (.tmp 1)⟩,
    ⟨(some 19), none, .lens (.tmp 18)⟩,
    ⟨(some 20), none, .mv (.const (.int .i64 0))⟩])
  (.block 0 (.loop 2 [(0, 0), (7, 3), (8, 0), (18, 0), (19, 0), (20, 0)] c_impl_PlayOrder_l1)))
  (.kept [7, 8] (.seq (.ops [⟨(some 53), none, .mv (.tmp 7)⟩,
    ⟨(some 54), none, .mv (.tmp 8)⟩,
    ⟨(some 4), none, .mv (.tmp 53)⟩,
    ⟨(some 5), none, .mv (.tmp 54)⟩,
    ⟨(some 6), none, .mv (.const (.bool true))⟩])
  (.ret))))))))
theorem h_impl_PlayOrder : (Tryz.prog.funcs[n_impl_PlayOrder]?).bind (fun fn => fn.body.bind (comp Tryz.prog fn.ntmps)) = some (AS.strip c_impl_PlayOrder) := by kernel_rfl
theorem r_impl_PlayOrder : (Tryz.prog.funcs[n_impl_PlayOrder]?).map (fun fn => (fn.results.toList, fn.ntmps)) = some ([.tmp 4, .tmp 5, .tmp 6], 55) := by kernel_rfl
-- 39 loop.example/g00850/impl.orderByTime$1
abbrev n_impl_orderByTime_1 : Nat := 39
def c_impl_orderByTime_1 : AS :=
  .seq (.ops [⟨(some 3), none, .mv (.const (.int .i64 0))⟩])
  (.seq (.seq (.ops [⟨(some 4), none, .load none (.tmp 1)⟩,
    ⟨(some 5), none, .mv (.tmp 0)⟩,
    ⟨(some 6), none, .ia 8 (.tmp 4) (.tmp 5)⟩,
    ⟨(some 7), none, .fa 4 (.tmp 6)⟩,
    ⟨(some 8), none, .load none (.tmp 7)⟩])
  (.cond (.tmp 8) (.seq (.ops [⟨(some 3), none, .mv (.const (.int .i64 1))⟩])
  (.ret)) (.skip)))
  (.kept [] (.seq (.ops [⟨(some 3), none, .mv (.const (.int .i64 0))⟩])
  (.ret))))
theorem h_impl_orderByTime_1 : (Tryz.prog.funcs[n_impl_orderByTime_1]?).bind (fun fn => fn.body.bind (comp Tryz.prog fn.ntmps)) = some (AS.strip c_impl_orderByTime_1) := by kernel_rfl
theorem r_impl_orderByTime_1 : (Tryz.prog.funcs[n_impl_orderByTime_1]?).map (fun fn => (fn.results.toList, fn.ntmps)) = some ([.tmp 3], 9) := by kernel_rfl
-- 40 slices.SortStableFunc[[]int,int]
abbrev n_slices_SortStableFunc___int_int_ : Nat := 40
def c_slices_SortStableFunc___int_int_ : AS :=
  .ops [⟨(some 4), none, .mv (.tmp 0)⟩,
    ⟨(some 5), none, .mv (.tmp 0)⟩,
    ⟨(some 6), none, .lens (.tmp 5)⟩,
    ⟨(some 7), none, .mv (.tmp 1)⟩,
    ⟨(some 8), none, .call 70 [(.tmp 4), (.tmp 6), (.tmp 7)]⟩]
theorem h_slices_SortStableFunc___int_int_ : (Tryz.prog.funcs[n_slices_SortStableFunc___int_int_]?).bind (fun fn => fn.body.bind (comp Tryz.prog fn.ntmps)) = some (AS.strip c_slices_SortStableFunc___int_int_) := by kernel_rfl
theorem r_slices_SortStableFunc___int_int_ : (Tryz.prog.funcs[n_slices_SortStableFunc___int_int_]?).map (fun fn => (fn.results.toList, fn.ntmps)) = some ([], 9) := by kernel_rfl
-- 41 loop.example/g00850/impl.orderByTime$2
abbrev n_impl_orderByTime_2 : Nat := 41
def c_impl_orderByTime_2 : AS :=
  .seq (.ops [⟨(some 6), none, .mv (.const (.int .i64 0))⟩])
  (.seq (.rops [(none, ⟨(some 7), none, .load none (.tmp 2)⟩),
    (none, ⟨(some 8), none, .mv (.tmp 0)⟩),
    (none, ⟨(some 9), none, .ia 8 (.tmp 7) (.tmp 8)⟩),
    (none, ⟨(some 10), none, .fa 5 (.tmp 9)⟩),
    (none, ⟨(some 11), none, .load none (.tmp 10)⟩),
    (none, ⟨(some 12), none, .load none (.tmp 2)⟩),
    (none, ⟨(some 13), none, .mv (.tmp 1)⟩),
    (none, ⟨(some 14), none, .ia 8 (.tmp 12) (.tmp 13)⟩),
    (none, ⟨(some 15), none, .fa 5 (.tmp 14)⟩),
    (none, ⟨(some 16), none, .load none (.tmp 15)⟩),
    (none, ⟨(some 18), none, .load none (.tmp 3)⟩),
    (none, ⟨(some 19), none, .mv (.tmp 0)⟩),
    (none, ⟨(some 21), none, .load none (.tmp 3)⟩),
    (none, ⟨(some 22), none, .mv (.tmp 1)⟩),
    (some [⟨(some 22), none, .mv (.tmp 1)⟩, ⟨(some 21), none, .load none (.tmp 3)⟩, ⟨(some 19), none, .mv (.tmp 0)⟩, ⟨(some 18), none, .load none (.tmp 3)⟩], ⟨(some 17), none, .call 43 [(.tmp 11), (.tmp 16)]⟩),
    (some [⟨(some 22), none, .mv (.tmp 1)⟩, ⟨(some 21), none, .load none (.tmp 3)⟩], ⟨(some 20), none, .callv (.tmp 18) [(.tmp 19)]⟩),
    (some [], ⟨(some 23), none, .callv (.tmp 21) [(.tmp 22)]⟩),
    (some [], ⟨(some 24), none, .call 43 [(.tmp 20), (.tmp 23)]⟩),
    (some [], ⟨(some 25), none, .bsl 1 (.int .i64 0) 2 [(0, (.tmp 17)), (1, (.tmp 24))]⟩),
    (some [], ⟨(some 26), none, .call 42 [(.tmp 25)]⟩),
    (none, ⟨(some 6), none, .mv (.tmp 26)⟩)])
  (.ret))
theorem h_impl_orderByTime_2 : (Tryz.prog.funcs[n_impl_orderByTime_2]?).bind (fun fn => fn.body.bind (comp Tryz.prog fn.ntmps)) = some (AS.strip c_impl_orderByTime_2) := by kernel_rfl
theorem r_impl_orderByTime_2 : (Tryz.prog.funcs[n_impl_orderByTime_2]?).map (fun fn => (fn.results.toList, fn.ntmps)) = some ([.tmp 6], 27) := by kernel_rfl
-- 42 cmp.Or[int]
abbrev n_cmp_Or_int_ : Nat := 42
def c_cmp_Or_int__l1 : AS :=
  .seq (.ops [⟨(some 9), none, .bin .lss (.tmp 8) (.tmp 7)⟩])
  (.seq (.cond (.tmp 9) (.skip) (.exit 0))
  (.seq (.block 1 (.seq (.ops [⟨(some 10), none, .ia 1 (.tmp 6) (.tmp 8)⟩,
    ⟨(some 11), none, .load none (.tmp 10)⟩,
    ⟨(some 5), none, .mv (.tmp 11)⟩])
  (.seq (.ops [⟨(some 12), none, .mv (.tmp 5)⟩,
    ⟨(some 13), none, .mv (.tmp 3)⟩,
    ⟨(some 14), none, .bin .neq (.tmp 12) (.tmp 13)⟩])
  (.cond (.tmp 14) (.seq (.ops [⟨(some 15), none, .mv (.tmp 5)⟩,
    ⟨(some 2), none, .mv (.tmp 15)⟩])
  (.ret)) (.skip)))))
  (.kept [3, 6, 7, 8] (.ops [⟨(some 16), none, .bin .add (.tmp 8) (.const (.int .i64 1))⟩,
    ⟨(some 8), none, .mv (.tmp 16)⟩]))))
def c_cmp_Or_int_ : AS :=
  .seq (.ops [⟨(some 2), none, .mv (.const (.int .i64 0))⟩])
  (.seq (.ops [⟨(some 3), none, .mv (.const (.int .i64 0))⟩])
  (.seq (.seq (.ops [⟨(some 6), none, .mv (.tmp 0)⟩,
    ⟨(some 7), none, .lens (.tmp 6)⟩,
    ⟨(some 8), none, .mv (.const (.int .i64 0))⟩])
  (.block 0 (.loop 1 [(3, 0), (6, 0), (7, 0), (8, 0)] c_cmp_Or_int__l1)))
  (.kept [3] (.seq (.ops [⟨(some 17), none, .mv (.tmp 3)⟩,
    ⟨(some 2), none, .mv (.tmp 17)⟩])
  (.ret)))))
theorem h_cmp_Or_int_ : (Tryz.prog.funcs[n_cmp_Or_int_]?).bind (fun fn => fn.body.bind (comp Tryz.prog fn.ntmps)) = some (AS.strip c_cmp_Or_int_) := by kernel_rfl
theorem r_cmp_Or_int_ : (Tryz.prog.funcs[n_cmp_Or_int_]?).map (fun fn => (fn.results.toList, fn.ntmps)) = some ([.tmp 2], 18) := by kernel_rfl
-- 43 cmp.Compare[int]
abbrev n_cmp_Compare_int_ : Nat := 43
def c_cmp_Compare_int_ : AS :=
  .seq (.ops [⟨(some 4), none, .mv (.const (.int .i64 0))⟩])
  (.seq (.ops [⟨(some 7), none, .mv (.tmp 0)⟩,
    ⟨(some 8), none, .call 71 [(.tmp 7)]⟩,
    ⟨(some 5), none, .mv (.tmp 8)⟩])
  (.seq (.ops [⟨(some 9), none, .mv (.tmp 1)⟩,
    ⟨(some 10), none, .call 71 [(.tmp 9)]⟩,
    ⟨(some 6), none, .mv (.tmp 10)⟩])
  (.seq (.seq (.ops [⟨(some 11), none, .mv (.tmp 5)⟩])
  (.cond (.tmp 11) (.seq (.seq (.ops [⟨(some 12), none, .mv (.tmp 6)⟩])
  (.cond (.tmp 12) (.seq (.ops [⟨(some 4), none, .mv (.const (.int .i64 0))⟩])
  (.ret)) (.skip)))
  (.seq (.ops [⟨(some 4), none, .mv (.const (.int .i64 (-1)))⟩])
  (.ret))) (.skip)))
  (.seq (.seq (.ops [⟨(some 13), none, .mv (.tmp 6)⟩])
  (.cond (.tmp 13) (.seq (.ops [⟨(some 4), none, .mv (.const (.int .i64 1))⟩])
  (.ret)) (.skip)))
  (.seq (.seq (.ops [⟨(some 14), none, .mv (.tmp 0)⟩,
    ⟨(some 15), none, .mv (.tmp 1)⟩,
    ⟨(some 16), none, .bin .lss (.tmp 14) (.tmp 15)⟩])
  (.cond (.tmp 16) (.seq (.ops [⟨(some 4), none, .mv (.const (.int .i64 (-1)))⟩])
  (.ret)) (.skip)))
  (.seq (.seq (.ops [⟨(some 17), none, .mv (.tmp 0)⟩,
    ⟨(some 18), none, .mv (.tmp 1)⟩,
    ⟨(some 19), none, .bin .gtr (.tmp 17) (.tmp 18)⟩])
  (.cond (.tmp 19) (.seq (.ops [⟨(some 4), none, .mv (.const (.int .i64 1))⟩])
  (.ret)) (.skip)))
  (.seq (.ops [⟨(some 4), none, .mv (.const (.int .i64 0))⟩])
  (.ret))))))))
theorem h_cmp_Compare_int_ : (Tryz.prog.funcs[n_cmp_Compare_int_]?).bind (fun fn => fn.body.bind (comp Tryz.prog fn.ntmps)) = some (AS.strip c_cmp_Compare_int_) := by kernel_rfl
theorem r_cmp_Compare_int_ : (Tryz.prog.funcs[n_cmp_Compare_int_]?).map (fun fn => (fn.results.toList, fn.ntmps)) = some ([.tmp 4], 20) := by kernel_rfl
-- 44 loop.example/g00850/laws.eqGotS
abbrev n_laws_eqGotS : Nat := 44
def c_laws_eqGotS_l1 : AS :=
  .seq (.seq (.ops [⟨(some 11), none, .mv (.tmp 5)⟩,
    ⟨(some 12), none, .mv (.tmp 0)⟩,
    ⟨(some 13), none, .lens (.tmp 12)⟩,
    ⟨(some 14), none, .bin .lss (.tmp 11) (.tmp 13)⟩])
  (.cond (.tmp 14) (.skip) (.exit 0)))
  (.seq (.block 1 (.seq (.rops [(none, ⟨(some 17), none, .mv (.tmp 0)⟩),
    (none, ⟨(some 18), none, .mv (.tmp 5)⟩),
    (none, ⟨(some 19), none, .ia 3 (.tmp 17) (.tmp 18)⟩),
    (none, ⟨(some 20), none, .load (some 3) (.tmp 19)⟩),
    (none, ⟨(some 21), none, .mv (.tmp 1)⟩),
    (none, ⟨(some 22), none, .mv (.tmp 5)⟩),
    (none, ⟨(some 23), none, .ia 3 (.tmp 21) (.tmp 22)⟩),
    (none, ⟨(some 24), none, .load (some 3) (.tmp 23)⟩),
    (some [], ⟨(some 25), none, .call 72 [(.tmp 20), (.tmp 24)]⟩),
    (none, ⟨(some 26), none, .not (.tmp 25)⟩)])
  (.kept [0, 1, 5, 26] (.cond (.tmp 26) (.seq (.ops [⟨(some 4), none, .mv (.const (.bool false))⟩])
  (.ret)) (.skip)))))
  (.kept [0, 1, 5] (.ops [⟨(some 15), none, .mv (.tmp 5)⟩,
    ⟨(some 16), none, .bin .add (.tmp 15) (.const (.int .i64 1))⟩,
    ⟨(some 5), none, .mv (.tmp 16)⟩])))
def c_laws_eqGotS : AS :=
  .seq (.ops [⟨(some 4), none, .mv (.const (.bool false))⟩])
  (.seq (.seq (.ops [⟨(some 6), none, .mv (.tmp 0)⟩,
    ⟨(some 7), none, .lens (.tmp 6)⟩,
    ⟨(some 8), none, .mv (.tmp 1)⟩,
    ⟨(some 9), none, .lens (.tmp 8)⟩,
    ⟨(some 10), none, .bin .neq (.tmp 7) (.tmp 9)⟩])
  (.cond (.tmp 10) (.seq (.ops [⟨(some 4), none, .mv (.const (.bool false))⟩])
  (.ret)) (.skip)))
  (.kept [0, 1] (.seq (.seq (.ops [⟨(some 5), none, .mv (.const (.int .i64 0))⟩])
  (.block 0 (.loop 2 [(0, 0), (1, 0), (5, 0)] c_laws_eqGotS_l1)))
  (.kept [] (.seq (.ops [⟨(some 4), none, .mv (.const (.bool true))⟩])
  (.ret))))))
theorem h_laws_eqGotS : (Tryz.prog.funcs[n_laws_eqGotS]?).bind (fun fn => fn.body.bind (comp Tryz.prog fn.ntmps)) = some (AS.strip c_laws_eqGotS) := by kernel_rfl
theorem r_laws_eqGotS : (Tryz.prog.funcs[n_laws_eqGotS]?).map (fun fn => (fn.results.toList, fn.ntmps)) = some ([.tmp 4], 27) := by kernel_rfl
-- 45 loop.example/g00850/laws.eqWriteS
abbrev n_laws_eqWriteS : Nat := 45
def c_laws_eqWriteS_l1 : AS :=
  .seq (.seq (.ops [⟨(some 11), none, .mv (.tmp 5)⟩,
    ⟨(some 12), none, .mv (.tmp 0)⟩,
    ⟨(some 13), none, .lens (.tmp 12)⟩,
    ⟨(some 14), none, .bin .lss (.tmp 11) (.tmp 13)⟩])
  (.cond (.tmp 14) (.skip) (.exit 0)))
  (.seq (.block 1 (.seq (.rops [(none, ⟨(some 17), none, .mv (.tmp 0)⟩),
    (none, ⟨(some 18), none, .mv (.tmp 5)⟩),
    (none, ⟨(some 19), none, .ia 3 (.tmp 17) (.tmp 18)⟩),
    (none, ⟨(some 20), none, .load (some 3) (.tmp 19)⟩),
    (none, ⟨(some 21), none, .mv (.tmp 1)⟩),
    (none, ⟨(some 22), none, .mv (.tmp 5)⟩),
    (none, ⟨(some 23), none, .ia 3 (.tmp 21) (.tmp 22)⟩),
    (none, ⟨(some 24), none, .load (some 3) (.tmp 23)⟩),
    (some [], ⟨(some 25), none, .call 73 [(.tmp 20), (.tmp 24)]⟩),
    (none, ⟨(some 26), none, .not (.tmp 25)⟩)])
  (.kept [0, 1, 5, 26] (.cond (.tmp 26) (.seq (.ops [⟨(some 4), none, .mv (.const (.bool false))⟩])
  (.ret)) (.skip)))))
  (.kept [0, 1, 5] (.ops [⟨(some 15), none, .mv (.tmp 5)⟩,
    ⟨(some 16), none, .bin .add (.tmp 15) (.const (.int .i64 1))⟩,
    ⟨(some 5), none, .mv (.tmp 16)⟩])))
def c_laws_eqWriteS : AS :=
  .seq (.ops [⟨(some 4), none, .mv (.const (.bool false))⟩])
  (.seq (.seq (.ops [⟨(some 6), none, .mv (.tmp 0)⟩,
    ⟨(some 7), none, .lens (.tmp 6)⟩,
    ⟨(some 8), none, .mv (.tmp 1)⟩,
    ⟨(some 9), none, .lens (.tmp 8)⟩,
    ⟨(some 10), none, .bin .neq (.tmp 7) (.tmp 9)⟩])
  (.cond (.tmp 10) (.seq (.ops [⟨(some 4), none, .mv (.const (.bool false))⟩])
  (.ret)) (.skip)))
  (.kept [0, 1] (.seq (.seq (.ops [⟨(some 5), none, .mv (.const (.int .i64 0))⟩])
  (.block 0 (.loop 2 [(0, 0), (1, 0), (5, 0)] c_laws_eqWriteS_l1)))
  (.kept [] (.seq (.ops [⟨(some 4), none, .mv (.const (.bool true))⟩])
  (.ret))))))
theorem h_laws_eqWriteS : (Tryz.prog.funcs[n_laws_eqWriteS]?).bind (fun fn => fn.body.bind (comp Tryz.prog fn.ntmps)) = some (AS.strip c_laws_eqWriteS) := by kernel_rfl
theorem r_laws_eqWriteS : (Tryz.prog.funcs[n_laws_eqWriteS]?).map (fun fn => (fn.results.toList, fn.ntmps)) = some ([.tmp 4], 27) := by kernel_rfl
-- 46 loop.example/g00850/laws.szGot
abbrev n_laws_szGot : Nat := 46
def c_laws_szGot : AS :=
  .seq (.ops [⟨(some 2), none, .box (.tmp 0)⟩,
    ⟨(some 4), none, .mv (.const (.int .i64 0))⟩])
  (.seq (.ops [⟨(some 5), none, .mv (.tmp 1)⟩,
    ⟨(some 6), none, .fa 0 (.tmp 2)⟩,
    ⟨(some 7), none, .load none (.tmp 6)⟩,
    ⟨(some 8), none, .lent (.tmp 7)⟩,
    ⟨(some 9), none, .bin .sub (.tmp 5) (.tmp 8)⟩,
    ⟨(some 1), none, .mv (.tmp 9)⟩])
  (.seq (.seq (.ops [⟨(some 10), none, .mv (.tmp 1)⟩,
    ⟨(some 11), none, .bin .lss (.tmp 10) (.const (.int .i64 0))⟩])
  (.cond (.tmp 11) (.seq (.ops [⟨(some 4), none, .mv (.const (.int .i64 (-1)))⟩])
  (.ret)) (.skip)))
  (.seq (.ops [⟨(some 12), none, .mv (.tmp 1)⟩,
    ⟨(some 13), none, .fa 1 (.tmp 2)⟩,
    ⟨(some 14), none, .load none (.tmp 13)⟩,
    ⟨(some 15), none, .lent (.tmp 14)⟩,
    ⟨(some 16), none, .bin .sub (.tmp 12) (.tmp 15)⟩,
    ⟨(some 1), none, .mv (.tmp 16)⟩])
  (.seq (.seq (.ops [⟨(some 17), none, .mv (.tmp 1)⟩,
    ⟨(some 18), none, .bin .lss (.tmp 17) (.const (.int .i64 0))⟩])
  (.cond (.tmp 18) (.seq (.ops [⟨(some 4), none, .mv (.const (.int .i64 (-1)))⟩])
  (.ret)) (.skip)))
  (.seq (.ops [⟨(some 19), none, .mv (.tmp 1)⟩,
    ⟨(some 4), none, .mv (.tmp 19)⟩])
  (.ret))))))
theorem h_laws_szGot : (Tryz.prog.funcs[n_laws_szGot]?).bind (fun fn => fn.body.bind (comp Tryz.prog fn.ntmps)) = some (AS.strip c_laws_szGot) := by kernel_rfl
theorem r_laws_szGot : (Tryz.prog.funcs[n_laws_szGot]?).map (fun fn => (fn.results.toList, fn.ntmps)) = some ([.tmp 4], 20) := by kernel_rfl
-- 47 loop.example/g00850/laws.szWrite
abbrev n_laws_szWrite : Nat := 47
def c_laws_szWrite : AS :=
  .seq (.ops [⟨(some 2), none, .box (.tmp 0)⟩,
    ⟨(some 4), none, .mv (.const (.int .i64 0))⟩])
  (.seq (.ops [⟨(some 5), none, .mv (.tmp 1)⟩,
    ⟨(some 6), none, .fa 0 (.tmp 2)⟩,
    ⟨(some 7), none, .load none (.tmp 6)⟩,
    ⟨(some 8), none, .lent (.tmp 7)⟩,
    ⟨(some 9), none, .bin .sub (.tmp 5) (.tmp 8)⟩,
    ⟨(some 1), none, .mv (.tmp 9)⟩])
  (.seq (.seq (.ops [⟨(some 10), none, .mv (.tmp 1)⟩,
    ⟨(some 11), none, .bin .lss (.tmp 10) (.const (.int .i64 0))⟩])
  (.cond (.tmp 11) (.seq (.ops [⟨(some 4), none, .mv (.const (.int .i64 (-1)))⟩])
  (.ret)) (.skip)))
  (.seq (.ops [⟨(some 12), none, .mv (.tmp 1)⟩,
    ⟨(some 13), none, .fa 1 (.tmp 2)⟩,
    ⟨(some 14), none, .load none (.tmp 13)⟩,
    ⟨(some 15), none, .lent (.tmp 14)⟩,
    ⟨(some 16), none, .bin .sub (.tmp 12) (.tmp 15)⟩,
    ⟨(some 1), none, .mv (.tmp 16)⟩])
  (.seq (.seq (.ops [⟨(some 17), none, .mv (.tmp 1)⟩,
    ⟨(some 18), none, .bin .lss (.tmp 17) (.const (.int .i64 0))⟩])
  (.cond (.tmp 18) (.seq (.ops [⟨(some 4), none, .mv (.const (.int .i64 (-1)))⟩])
  (.ret)) (.skip)))
  (.seq (.ops [⟨(some 19), none, .mv (.tmp 1)⟩,
    ⟨(some 4), none, .mv (.tmp 19)⟩])
  (.ret))))))
theorem h_laws_szWrite : (Tryz.prog.funcs[n_laws_szWrite]?).bind (fun fn => fn.body.bind (comp Tryz.prog fn.ntmps)) = some (AS.strip c_laws_szWrite) := by kernel_rfl
theorem r_laws_szWrite : (Tryz.prog.funcs[n_laws_szWrite]?).map (fun fn => (fn.results.toList, fn.ntmps)) = some ([.tmp 4], 20) := by kernel_rfl
-- 48 loop.example/g00850/spec.l1In
abbrev n_spec_l1In : Nat := 48
def c_spec_l1In : AS :=
  .seq (.ops [⟨(some 6), none, .mv (.const (.bool false))⟩])
  (.seq (.ops [⟨(some 7), none, .mv (.tmp 0)⟩,
    ⟨(some 8), none, .mv (.tmp 1)⟩,
    ⟨(some 9), none, .bin .geq (.tmp 7) (.tmp 8)⟩,
    ⟨(some 10), none, .mv (.tmp 9)⟩,
    ⟨(some 11), some (10, true), .mv (.tmp 0)⟩,
    ⟨(some 12), some (10, true), .mv (.tmp 2)⟩,
    ⟨(some 13), some (10, true), .bin .leq (.tmp 11) (.tmp 12)⟩,
    ⟨(some 14), none, .pick (.tmp 10) (.tmp 13) (.const (.bool false))⟩,
    ⟨(some 6), none, .mv (.tmp 14)⟩])
  (.ret))
theorem h_spec_l1In : (Tryz.prog.funcs[n_spec_l1In]?).bind (fun fn => fn.body.bind (comp Tryz.prog fn.ntmps)) = some (AS.strip c_spec_l1In) := by kernel_rfl
theorem r_spec_l1In : (Tryz.prog.funcs[n_spec_l1In]?).map (fun fn => (fn.results.toList, fn.ntmps)) = some ([.tmp 6], 15) := by kernel_rfl
-- 49 loop.example/g00850/spec.l2True
abbrev n_spec_l2True : Nat := 49
def c_spec_l2True : AS :=
  .seq (.ops [⟨(some 2), none, .mv (.const (.bool false))⟩])
  (.seq (.ops [⟨(some 3), none, .mv (.tmp 0)⟩,
    ⟨(some 4), none, .call 48 [(.tmp 3), (.const (.int .i64 0)), (.const (.int .i64 100000))]⟩,
    ⟨(some 2), none, .mv (.tmp 4)⟩])
  (.ret))
theorem h_spec_l2True : (Tryz.prog.funcs[n_spec_l2True]?).bind (fun fn => fn.body.bind (comp Tryz.prog fn.ntmps)) = some (AS.strip c_spec_l2True) := by kernel_rfl
theorem r_spec_l2True : (Tryz.prog.funcs[n_spec_l2True]?).map (fun fn => (fn.results.toList, fn.ntmps)) = some ([.tmp 2], 5) := by kernel_rfl
-- 50 loop.example/g00850/spec.l5Gots
abbrev n_spec_l5Gots : Nat := 50
def c_spec_l5Gots_l1 : AS :=
  .seq (.ops [⟨(some 39), none, .bin .lss (.tmp 38) (.tmp 37)⟩])
  (.seq (.cond (.tmp 39) (.skip) (.exit 2))
  (.seq (.block 3 (.seq (.ops [⟨(some 40), none, .ia 3 (.tmp 36) (.tmp 38)⟩,
    ⟨(some 41), none, .load (some 3) (.tmp 40)⟩,
    ⟨(some 6), none, .alloc (.agg #[.string ⟨⟨[]⟩⟩, .string ⟨⟨[]⟩⟩, .bool false])⟩,
    ⟨none, none, .store 3 (.tmp 6) (.tmp 41)⟩])
  (.seq (.ops [⟨(some 42), none, .fa 0 (.tmp 4)⟩,
    ⟨(some 43), none, .load none (.tmp 42)⟩,
    ⟨(some 44), none, .fa 0 (.tmp 6)⟩,
    ⟨(some 45), none, .load none (.tmp 44)⟩,
    ⟨(some 46), none, .bin .eql (.tmp 43) (.tmp 45)⟩])
  (.cond (.tmp 46) (.seq (.ops [⟨(some 2), none, .mv (.const (.bool false))⟩])
  (.ret)) (.skip)))))
  (.kept [0, 4, 7, 8, 9, 36, 37, 38] (.ops [⟨(some 47), none, .bin .add (.tmp 38) (.const (.int .i64 1))⟩,
    ⟨(some 38), none, .mv (.tmp 47)⟩]))))
def c_spec_l5Gots_l2 : AS :=
  .seq (.ops [⟨(some 10), none, .bin .lss (.tmp 9) (.tmp 8)⟩])
  (.seq (.cond (.tmp 10) (.skip) (.exit 0))
  (.seq (.block 1 (.seq (.ops [⟨(some 11), none, .mv (.tmp 9)⟩,
    ⟨(some 12), none, .ia 3 (.tmp 7) (.tmp 9)⟩,
    ⟨(some 13), none, .load (some 3) (.tmp 12)⟩,
    ⟨(some 4), none, .alloc (.agg #[.string ⟨⟨[]⟩⟩, .string ⟨⟨[]⟩⟩, .bool false])⟩,
    ⟨(some 3), none, .mv (.tmp 11)⟩,
    ⟨none, none, .store 3 (.tmp 4) (.tmp 13)⟩])
  (.seq (.seq (.ops [⟨(some 14), none, .fa 0 (.tmp 4)⟩,
    ⟨(some 15), none, .load none (.tmp 14)⟩,
    ⟨(some 16), none, .call 74 [(.tmp 15)]⟩,
    ⟨(some 17), none, .not (.tmp 16)⟩,
    ⟨(some 18), none, .mv (.tmp 17)⟩,
    ⟨(some 19), some (18, false), .fa 1 (.tmp 4)⟩,
    ⟨(some 20), some (18, false), .load none (.tmp 19)⟩,
    ⟨(some 21), some (18, false), .call 75 [(.tmp 20)]⟩,
    ⟨(some 22), some (18, false), .not (.tmp 21)⟩,
    ⟨(some 23), none, .pick (.tmp 18) (.const (.bool true)) (.tmp 22)⟩,
    ⟨(some 24), none, .mv (.tmp 23)⟩,
    ⟨(some 25), some (24, false), .fa 2 (.tmp 4)⟩,
    ⟨(some 26), some (24, false), .load none (.tmp 25)⟩,
    ⟨(some 27), some (24, false), .not (.tmp 26)⟩,
    ⟨(some 28), some (24, false), .mv (.tmp 27)⟩,
    ⟨(some 29), some (28, true), .fa 1 (.tmp 4)⟩,
    ⟨(some 30), some (28, true), .load none (.tmp 29)⟩,
    ⟨(some 31), some (28, true), .bin .neq (.tmp 30) (.const (.string ⟨⟨[]⟩⟩))⟩,
    ⟨(some 32), some (24, false), .pick (.tmp 28) (.tmp 31) (.const (.bool false))⟩,
    ⟨(some 33), none, .pick (.tmp 24) (.const (.bool true)) (.tmp 32)⟩])
  (.kept [0, 3, 4, 7, 8, 9, 33] (.cond (.tmp 33) (.seq (.ops [⟨(some 2), none, .mv (.const (.bool false))⟩])
  (.ret)) (.skip))))
  (.kept [0, 3, 4, 7, 8, 9] (.seq (.ops [⟨(some 34), none, .mv (.tmp 0)⟩,
    ⟨(some 35), none, .mv (.tmp 3)⟩,
    ⟨(some 36), none, .sls 3 (.tmp 34) none (some (.tmp 35)) none⟩,
    ⟨(some 37), none, .lens (.tmp 36)⟩,
    ⟨(some 38), none, .mv (.const (.int .i64 0))⟩])
  (.block 2 (.loop 1 [(0, 0), (4, 0), (7, 0), (8, 0), (9, 0), (36, 0), (37, 0), (38, 0)] c_spec_l5Gots_l1)))))))
  (.kept [0, 7, 8, 9] (.ops [⟨(some 48), none, .bin .add (.tmp 9) (.const (.int .i64 1))⟩,
    ⟨(some 9), none, .mv (.tmp 48)⟩]))))
def c_spec_l5Gots : AS :=
  .seq (.ops [⟨(some 2), none, .mv (.const (.bool false))⟩])
  (.seq (.seq (.ops [⟨(some 7), none, .mv (.tmp 0)⟩,
    ⟨(some 8), none, .lens (.tmp 7)⟩,
    ⟨(some 9), none, .mv (.const (.int .i64 0))⟩])
  (.block 0 (.loop 1 [(0, 0), (7, 0), (8, 0), (9, 0)] c_spec_l5Gots_l2)))
  (.kept [0] (.seq (.ops [⟨(some 49), none, .mv (.tmp 0)⟩,
    ⟨(some 50), none, .lens (.tmp 49)⟩,
    ⟨(some 51), none, .bin .leq (.tmp 50) (.const (.int .i64 8))⟩,
    ⟨(some 2), none, .mv (.tmp 51)⟩])
  (.ret))))
theorem h_spec_l5Gots : (Tryz.prog.funcs[n_spec_l5Gots]?).bind (fun fn => fn.body.bind (comp Tryz.prog fn.ntmps)) = some (AS.strip c_spec_l5Gots) := by kernel_rfl
theorem r_spec_l5Gots : (Tryz.prog.funcs[n_spec_l5Gots]?).map (fun fn => (fn.results.toList, fn.ntmps)) = some ([.tmp 2], 52) := by kernel_rfl
-- 51 loop.example/g00850/spec.l3Writes
abbrev n_spec_l3Writes : Nat := 51
def c_spec_l3Writes_l1 : AS :=
  .seq (.ops [⟨(some 8), none, .bin .lss (.tmp 7) (.tmp 6)⟩])
  (.seq (.cond (.tmp 8) (.skip) (.exit 0))
  (.seq (.block 1 (.seq (.ops [⟨(some 9), none, .mv (.tmp 7)⟩,
    ⟨(some 10), none, .ia 3 (.tmp 5) (.tmp 7)⟩,
    ⟨(some 11), none, .load (some 3) (.tmp 10)⟩,
    ⟨(some 4), none, .alloc (.agg #[.string ⟨⟨[]⟩⟩, .string ⟨⟨[]⟩⟩, .bool false])⟩,
    ⟨(some 3), none, .mv (.tmp 9)⟩,
    ⟨none, none, .store 3 (.tmp 4) (.tmp 11)⟩])
  (.seq (.rops [(none, ⟨(some 12), none, .fa 0 (.tmp 4)⟩),
    (none, ⟨(some 13), none, .load none (.tmp 12)⟩),
    (none, ⟨(some 14), none, .fa 1 (.tmp 4)⟩),
    (none, ⟨(some 15), none, .load none (.tmp 14)⟩),
    (none, ⟨(some 16), none, .fa 2 (.tmp 4)⟩),
    (none, ⟨(some 17), none, .load none (.tmp 16)⟩),
    (some [], ⟨(some 18), none, .call 76 [(.tmp 13), (.tmp 15), (.tmp 17)]⟩),
    (none, ⟨(some 19), none, .not (.tmp 18)⟩),
    (none, ⟨(some 20), none, .mv (.tmp 19)⟩),
    (none, ⟨(some 21), some (20, false), .mv (.tmp 3)⟩),
    (none, ⟨(some 22), some (20, false), .bin .gtr (.tmp 21) (.const (.int .i64 0))⟩),
    (none, ⟨(some 23), some (20, false), .mv (.tmp 22)⟩),
    (none, ⟨(some 24), some (23, true), .mv (.tmp 0)⟩),
    (none, ⟨(some 25), some (23, true), .mv (.tmp 3)⟩),
    (none, ⟨(some 26), some (23, true), .bin .sub (.tmp 25) (.const (.int .i64 1))⟩),
    (none, ⟨(some 27), some (23, true), .ia 3 (.tmp 24) (.tmp 26)⟩),
    (none, ⟨(some 28), some (23, true), .fa 0 (.tmp 27)⟩),
    (none, ⟨(some 29), some (23, true), .load none (.tmp 28)⟩),
    (none, ⟨(some 30), some (23, true), .fa 0 (.tmp 4)⟩),
    (none, ⟨(some 31), some (23, true), .load none (.tmp 30)⟩),
    (none, ⟨(some 32), some (23, true), .bin .geq (.tmp 29) (.tmp 31)⟩),
    (none, ⟨(some 33), some (20, false), .pick (.tmp 23) (.tmp 32) (.const (.bool false))⟩),
    (none, ⟨(some 34), none, .pick (.tmp 20) (.const (.bool true)) (.tmp 33)⟩)])
  (.kept [0, 5, 6, 7, 34] (.cond (.tmp 34) (.seq (.ops [⟨(some 2), none, .mv (.const (.bool false))⟩])
  (.ret)) (.skip))))))
  (.kept [0, 5, 6, 7] (.ops [⟨(some 35), none, .bin .add (.tmp 7) (.const (.int .i64 1))⟩,
    ⟨(some 7), none, .mv (.tmp 35)⟩]))))
def c_spec_l3Writes : AS :=
  .seq (.ops [⟨(some 2), none, .mv (.const (.bool false))⟩])
  (.seq (.seq (.ops [⟨(some 5), none, .mv (.tmp 0)⟩,
    ⟨(some 6), none, .lens (.tmp 5)⟩,
    ⟨(some 7), none, .mv (.const (.int .i64 0))⟩])
  (.block 0 (.loop 1 [(0, 0), (5, 0), (6, 0), (7, 0)] c_spec_l3Writes_l1)))
  (.kept [0] (.seq (.ops [⟨(some 36), none, .mv (.tmp 0)⟩,
    ⟨(some 37), none, .lens (.tmp 36)⟩,
    ⟨(some 38), none, .bin .leq (.tmp 37) (.const (.int .i64 24))⟩,
    ⟨(some 2), none, .mv (.tmp 38)⟩])
  (.ret))))
theorem h_spec_l3Writes : (Tryz.prog.funcs[n_spec_l3Writes]?).bind (fun fn => fn.body.bind (comp Tryz.prog fn.ntmps)) = some (AS.strip c_spec_l3Writes) := by kernel_rfl
theorem r_spec_l3Writes : (Tryz.prog.funcs[n_spec_l3Writes]?).map (fun fn => (fn.results.toList, fn.ntmps)) = some ([.tmp 2], 39) := by kernel_rfl
-- 52 loop.example/g00850/spec.l1Has
abbrev n_spec_l1Has : Nat := 52
def c_spec_l1Has_l1 : AS :=
  .seq (.ops [⟨(some 10), none, .bin .lss (.tmp 9) (.tmp 8)⟩])
  (.seq (.cond (.tmp 10) (.skip) (.exit 0))
  (.seq (.block 1 (.seq (.ops [⟨(some 11), none, .ia 1 (.tmp 7) (.tmp 9)⟩,
    ⟨(some 12), none, .load none (.tmp 11)⟩,
    ⟨(some 6), none, .mv (.tmp 12)⟩])
  (.seq (.ops [⟨(some 13), none, .mv (.tmp 6)⟩,
    ⟨(some 14), none, .mv (.tmp 1)⟩,
    ⟨(some 15), none, .bin .eql (.tmp 13) (.tmp 14)⟩])
  (.cond (.tmp 15) (.seq (.ops [⟨(some 4), none, .mv (.const (.bool true))⟩])
  (.ret)) (.skip)))))
  (.kept [1, 7, 8, 9] (.ops [⟨(some 16), none, .bin .add (.tmp 9) (.const (.int .i64 1))⟩,
    ⟨(some 9), none, .mv (.tmp 16)⟩]))))
def c_spec_l1Has : AS :=
  .seq (.ops [⟨(some 4), none, .mv (.const (.bool false))⟩])
  (.seq (.seq (.ops [⟨(some 7), none, .mv (.tmp 0)⟩,
    ⟨(some 8), none, .lens (.tmp 7)⟩,
    ⟨(some 9), none, .mv (.const (.int .i64 0))⟩])
  (.block 0 (.loop 2 [(1, 0), (7, 0), (8, 0), (9, 0)] c_spec_l1Has_l1)))
  (.kept [] (.seq (.ops [⟨(some 4), none, .mv (.const (.bool false))⟩])
  (.ret))))
theorem h_spec_l1Has : (Tryz.prog.funcs[n_spec_l1Has]?).bind (fun fn => fn.body.bind (comp Tryz.prog fn.ntmps)) = some (AS.strip c_spec_l1Has) := by kernel_rfl
theorem r_spec_l1Has : (Tryz.prog.funcs[n_spec_l1Has]?).map (fun fn => (fn.results.toList, fn.ntmps)) = some ([.tmp 4], 17) := by kernel_rfl
-- 53 loop.example/g00850/spec.l18Fits
abbrev n_spec_l18Fits : Nat := 53
def c_spec_l18Fits_l1 : AS :=
  .seq (.ops [⟨(some 11), none, .bin .lss (.tmp 10) (.tmp 9)⟩])
  (.seq (.cond (.tmp 11) (.skip) (.exit 0))
  (.seq (.block 1 (.seq (.ops [⟨(some 12), none, .ia 3 (.tmp 8) (.tmp 10)⟩,
    ⟨(some 13), none, .load (some 3) (.tmp 12)⟩,
    ⟨(some 6), none, .alloc (.agg #[.string ⟨⟨[]⟩⟩, .string ⟨⟨[]⟩⟩, .bool false])⟩,
    ⟨none, none, .store 3 (.tmp 6) (.tmp 13)⟩])
  (.seq (.rops [(none, ⟨(some 14), none, .mv (.tmp 0)⟩),
    (none, ⟨(some 15), none, .fa 0 (.tmp 6)⟩),
    (none, ⟨(some 16), none, .load none (.tmp 15)⟩),
    (none, ⟨(some 18), none, .load (some 3) (.tmp 6)⟩),
    (some [⟨(some 18), none, .load (some 3) (.tmp 6)⟩], ⟨(some 17), none, .call 77 [(.tmp 14), (.tmp 16)]⟩),
    (none, ⟨(some 19), none, .eqs true [(0, 2), (1, 2), (2, 1)] (.tmp 17) (.tmp 18)⟩)])
  (.cond (.tmp 19) (.seq (.ops [⟨(some 4), none, .mv (.const (.bool false))⟩])
  (.ret)) (.skip)))))
  (.kept [0, 8, 9, 10] (.ops [⟨(some 20), none, .bin .add (.tmp 10) (.const (.int .i64 1))⟩,
    ⟨(some 10), none, .mv (.tmp 20)⟩]))))
def c_spec_l18Fits : AS :=
  .seq (.ops [⟨(some 3), none, .box (.tmp 1)⟩,
    ⟨(some 4), none, .mv (.const (.bool false))⟩])
  (.seq (.seq (.ops [⟨(some 7), none, .fa 6 (.tmp 3)⟩,
    ⟨(some 8), none, .load none (.tmp 7)⟩,
    ⟨(some 9), none, .lens (.tmp 8)⟩,
    ⟨(some 10), none, .mv (.const (.int .i64 0))⟩])
  (.block 0 (.loop 2 [(0, 0), (8, 0), (9, 0), (10, 0)] c_spec_l18Fits_l1)))
  (.kept [] (.seq (.ops [⟨(some 4), none, .mv (.const (.bool true))⟩])
  (.ret))))
theorem h_spec_l18Fits : (Tryz.prog.funcs[n_spec_l18Fits]?).bind (fun fn => fn.body.bind (comp Tryz.prog fn.ntmps)) = some (AS.strip c_spec_l18Fits) := by kernel_rfl
theorem r_spec_l18Fits : (Tryz.prog.funcs[n_spec_l18Fits]?).map (fun fn => (fn.results.toList, fn.ntmps)) = some ([.tmp 4], 21) := by kernel_rfl
-- 54 loop.example/g00850/spec.l5PutRows
abbrev n_spec_l5PutRows : Nat := 54
def c_spec_l5PutRows_l1 : AS :=
  .seq (.ops [⟨(some 17), none, .bin .lss (.tmp 16) (.tmp 15)⟩])
  (.seq (.cond (.tmp 17) (.skip) (.exit 0))
  (.seq (.block 1 (.seq (.ops [⟨(some 18), none, .ia 3 (.tmp 14) (.tmp 16)⟩,
    ⟨(some 19), none, .load (some 3) (.tmp 18)⟩,
    ⟨(some 7), none, .alloc (.agg #[.string ⟨⟨[]⟩⟩, .string ⟨⟨[]⟩⟩, .bool false])⟩,
    ⟨none, none, .store 3 (.tmp 7) (.tmp 19)⟩])
  (.ops [⟨(some 20), none, .mv (.tmp 5)⟩,
    ⟨(some 21), none, .load (some 3) (.tmp 7)⟩,
    ⟨(some 22), none, .call 78 [(.tmp 20), (.tmp 21)]⟩,
    ⟨(some 5), none, .mv (.tmp 22)⟩])))
  (.kept [5, 14, 15, 16] (.ops [⟨(some 23), none, .bin .add (.tmp 16) (.const (.int .i64 1))⟩,
    ⟨(some 16), none, .mv (.tmp 23)⟩]))))
def c_spec_l5PutRows_l2 : AS :=
  .seq (.ops [⟨(some 27), none, .bin .lss (.tmp 26) (.tmp 25)⟩])
  (.seq (.cond (.tmp 27) (.skip) (.exit 2))
  (.seq (.block 3 (.seq (.ops [⟨(some 28), none, .ia 3 (.tmp 24) (.tmp 26)⟩,
    ⟨(some 29), none, .load (some 3) (.tmp 28)⟩,
    ⟨(some 10), none, .alloc (.agg #[.string ⟨⟨[]⟩⟩, .string ⟨⟨[]⟩⟩, .bool false])⟩,
    ⟨none, none, .store 3 (.tmp 10) (.tmp 29)⟩])
  (.seq (.ops [⟨(some 30), none, .fa 2 (.tmp 10)⟩,
    ⟨(some 31), none, .load none (.tmp 30)⟩,
    ⟨(some 32), none, .not (.tmp 31)⟩])
  (.cond (.tmp 32) (.ops [⟨(some 33), none, .mv (.tmp 8)⟩,
    ⟨(some 34), none, .load (some 3) (.tmp 10)⟩,
    ⟨(some 35), none, .bsl 3 (.agg #[.string ⟨⟨[]⟩⟩, .string ⟨⟨[]⟩⟩, .bool false]) 1 [(0, (.tmp 34))]⟩,
    ⟨(some 36), none, .app 3 40 (.agg #[.string ⟨⟨[]⟩⟩, .string ⟨⟨[]⟩⟩, .bool false]) (.tmp 33) (.tmp 35)⟩,
    ⟨(some 8), none, .mv (.tmp 36)⟩]) (.skip)))))
  (.kept [8, 24, 25, 26] (.ops [⟨(some 37), none, .bin .add (.tmp 26) (.const (.int .i64 1))⟩,
    ⟨(some 26), none, .mv (.tmp 37)⟩]))))
def c_spec_l5PutRows : AS :=
  .seq (.ops [⟨(some 4), none, .mv (.const (.slice none 0 0))⟩])
  (.seq (.ops [⟨(some 11), none, .bsl 3 (.agg #[.string ⟨⟨[]⟩⟩, .string ⟨⟨[]⟩⟩, .bool false]) 0 []⟩,
    ⟨(some 12), none, .mv (.tmp 0)⟩,
    ⟨(some 13), none, .app 3 40 (.agg #[.string ⟨⟨[]⟩⟩, .string ⟨⟨[]⟩⟩, .bool false]) (.tmp 11) (.tmp 12)⟩,
    ⟨(some 5), none, .mv (.tmp 13)⟩])
  (.seq (.seq (.ops [⟨(some 14), none, .mv (.tmp 1)⟩,
    ⟨(some 15), none, .lens (.tmp 14)⟩,
    ⟨(some 16), none, .mv (.const (.int .i64 0))⟩])
  (.block 0 (.loop 2 [(5, 3), (14, 0), (15, 0), (16, 0)] c_spec_l5PutRows_l1)))
  (.kept [5] (.seq (.ops [⟨(some 8), none, .mv (.const (.slice none 0 0))⟩])
  (.seq (.seq (.ops [⟨(some 24), none, .mv (.tmp 5)⟩,
    ⟨(some 25), none, .lens (.tmp 24)⟩,
    ⟨(some 26), none, .mv (.const (.int .i64 0))⟩])
  (.block 2 (.loop 2 [(8, 3), (24, 3), (25, 0), (26, 0)] c_spec_l5PutRows_l2)))
  (.kept [8] (.seq (.ops [⟨(some 38), none, .mv (.tmp 8)⟩,
    ⟨(some 4), none, .mv (.tmp 38)⟩])
  (.ret))))))))
theorem h_spec_l5PutRows : (Tryz.prog.funcs[n_spec_l5PutRows]?).bind (fun fn => fn.body.bind (comp Tryz.prog fn.ntmps)) = some (AS.strip c_spec_l5PutRows) := by kernel_rfl
theorem r_spec_l5PutRows : (Tryz.prog.funcs[n_spec_l5PutRows]?).map (fun fn => (fn.results.toList, fn.ntmps)) = some ([.tmp 4], 39) := by kernel_rfl
-- 55 loop.example/g00850/spec.l5Rows
abbrev n_spec_l5Rows : Nat := 55
def c_spec_l5Rows_l1 : AS :=
  .seq (.ops [⟨(some 8), none, .bin .lss (.tmp 7) (.tmp 6)⟩])
  (.seq (.cond (.tmp 8) (.skip) (.exit 0))
  (.seq (.block 1 (.seq (.ops [⟨(some 9), none, .ia 3 (.tmp 5) (.tmp 7)⟩,
    ⟨(some 10), none, .load (some 3) (.tmp 9)⟩,
    ⟨(some 4), none, .alloc (.agg #[.string ⟨⟨[]⟩⟩, .string ⟨⟨[]⟩⟩, .bool false])⟩,
    ⟨none, none, .store 3 (.tmp 4) (.tmp 10)⟩])
  (.seq (.ops [⟨(some 11), none, .fa 2 (.tmp 4)⟩,
    ⟨(some 12), none, .load none (.tmp 11)⟩])
  (.cond (.tmp 12) (.seq (.ops [⟨(some 2), none, .mv (.const (.bool false))⟩])
  (.ret)) (.skip)))))
  (.kept [0, 5, 6, 7] (.ops [⟨(some 13), none, .bin .add (.tmp 7) (.const (.int .i64 1))⟩,
    ⟨(some 7), none, .mv (.tmp 13)⟩]))))
def c_spec_l5Rows : AS :=
  .seq (.ops [⟨(some 2), none, .mv (.const (.bool false))⟩])
  (.seq (.seq (.ops [⟨(some 5), none, .mv (.tmp 0)⟩,
    ⟨(some 6), none, .lens (.tmp 5)⟩,
    ⟨(some 7), none, .mv (.const (.int .i64 0))⟩])
  (.block 0 (.loop 1 [(0, 0), (5, 0), (6, 0), (7, 0)] c_spec_l5Rows_l1)))
  (.kept [0] (.seq (.ops [⟨(some 14), none, .mv (.tmp 0)⟩,
    ⟨(some 15), none, .call 51 [(.tmp 14)]⟩,
    ⟨(some 2), none, .mv (.tmp 15)⟩])
  (.ret))))
theorem h_spec_l5Rows : (Tryz.prog.funcs[n_spec_l5Rows]?).bind (fun fn => fn.body.bind (comp Tryz.prog fn.ntmps)) = some (AS.strip c_spec_l5Rows) := by kernel_rfl
theorem r_spec_l5Rows : (Tryz.prog.funcs[n_spec_l5Rows]?).map (fun fn => (fn.results.toList, fn.ntmps)) = some ([.tmp 2], 16) := by kernel_rfl
-- 56 loop.example/g00850/spec.l18Ahead
abbrev n_spec_l18Ahead : Nat := 56
def c_spec_l18Ahead : AS :=
  .seq (.ops [⟨(some 2), none, .box (.tmp 0)⟩,
    ⟨(some 3), none, .box (.tmp 1)⟩,
    ⟨(some 4), none, .mv (.const (.bool false))⟩])
  (.seq (.ops [⟨(some 5), none, .fa 2 (.tmp 2)⟩,
    ⟨(some 6), none, .load none (.tmp 5)⟩,
    ⟨(some 7), none, .bin .geq (.tmp 6) (.const (.int .i64 0))⟩,
    ⟨(some 8), none, .mv (.tmp 7)⟩,
    ⟨(some 9), some (8, true), .fa 2 (.tmp 2)⟩,
    ⟨(some 10), some (8, true), .load none (.tmp 9)⟩,
    ⟨(some 11), some (8, true), .fa 1 (.tmp 3)⟩,
    ⟨(some 12), some (8, true), .load none (.tmp 11)⟩,
    ⟨(some 13), some (8, true), .bin .lss (.tmp 10) (.tmp 12)⟩,
    ⟨(some 14), none, .pick (.tmp 8) (.tmp 13) (.const (.bool false))⟩,
    ⟨(some 4), none, .mv (.tmp 14)⟩])
  (.ret))
theorem h_spec_l18Ahead : (Tryz.prog.funcs[n_spec_l18Ahead]?).bind (fun fn => fn.body.bind (comp Tryz.prog fn.ntmps)) = some (AS.strip c_spec_l18Ahead) := by kernel_rfl
theorem r_spec_l18Ahead : (Tryz.prog.funcs[n_spec_l18Ahead]?).map (fun fn => (fn.results.toList, fn.ntmps)) = some ([.tmp 4], 15) := by kernel_rfl
-- 57 loop.example/g00850/laws.toGot
abbrev n_laws_toGot : Nat := 57
def c_laws_toGot : AS :=
  .seq (.ops [⟨(some 1), none, .box (.tmp 0)⟩,
    ⟨(some 2), none, .alloc (.agg #[.string ⟨⟨[]⟩⟩, .string ⟨⟨[]⟩⟩, .bool false])⟩])
  (.seq (.ops [⟨(some 3), none, .alloc (.agg #[.string ⟨⟨[]⟩⟩, .string ⟨⟨[]⟩⟩, .bool false])⟩])
  (.seq (.ops [⟨(some 4), none, .fa 0 (.tmp 1)⟩,
    ⟨(some 5), none, .load none (.tmp 4)⟩,
    ⟨(some 6), none, .fa 0 (.tmp 3)⟩,
    ⟨none, none, .store 1 (.tmp 6) (.tmp 5)⟩])
  (.seq (.ops [⟨(some 7), none, .fa 1 (.tmp 1)⟩,
    ⟨(some 8), none, .load none (.tmp 7)⟩,
    ⟨(some 9), none, .fa 1 (.tmp 3)⟩,
    ⟨none, none, .store 1 (.tmp 9) (.tmp 8)⟩])
  (.seq (.ops [⟨(some 10), none, .fa 2 (.tmp 1)⟩,
    ⟨(some 11), none, .load none (.tmp 10)⟩,
    ⟨(some 12), none, .fa 2 (.tmp 3)⟩,
    ⟨none, none, .store 1 (.tmp 12) (.tmp 11)⟩])
  (.seq (.ops [⟨(some 13), none, .load (some 3) (.tmp 3)⟩,
    ⟨none, none, .store 3 (.tmp 2) (.tmp 13)⟩])
  (.ret))))))
theorem h_laws_toGot : (Tryz.prog.funcs[n_laws_toGot]?).bind (fun fn => fn.body.bind (comp Tryz.prog fn.ntmps)) = some (AS.strip c_laws_toGot) := by kernel_rfl
theorem r_laws_toGot : (Tryz.prog.funcs[n_laws_toGot]?).map (fun fn => (fn.results.toList, fn.ntmps)) = some ([.cell 2 76], 14) := by kernel_rfl
-- 58 loop.example/g00850/laws.toWrite
abbrev n_laws_toWrite : Nat := 58
def c_laws_toWrite : AS :=
  .seq (.ops [⟨(some 1), none, .box (.tmp 0)⟩,
    ⟨(some 2), none, .alloc (.agg #[.string ⟨⟨[]⟩⟩, .string ⟨⟨[]⟩⟩, .bool false])⟩])
  (.seq (.ops [⟨(some 3), none, .alloc (.agg #[.string ⟨⟨[]⟩⟩, .string ⟨⟨[]⟩⟩, .bool false])⟩])
  (.seq (.ops [⟨(some 4), none, .fa 0 (.tmp 1)⟩,
    ⟨(some 5), none, .load none (.tmp 4)⟩,
    ⟨(some 6), none, .fa 0 (.tmp 3)⟩,
    ⟨none, none, .store 1 (.tmp 6) (.tmp 5)⟩])
  (.seq (.ops [⟨(some 7), none, .fa 1 (.tmp 1)⟩,
    ⟨(some 8), none, .load none (.tmp 7)⟩,
    ⟨(some 9), none, .fa 1 (.tmp 3)⟩,
    ⟨none, none, .store 1 (.tmp 9) (.tmp 8)⟩])
  (.seq (.ops [⟨(some 10), none, .fa 2 (.tmp 1)⟩,
    ⟨(some 11), none, .load none (.tmp 10)⟩,
    ⟨(some 12), none, .fa 2 (.tmp 3)⟩,
    ⟨none, none, .store 1 (.tmp 12) (.tmp 11)⟩])
  (.seq (.ops [⟨(some 13), none, .load (some 3) (.tmp 3)⟩,
    ⟨none, none, .store 3 (.tmp 2) (.tmp 13)⟩])
  (.ret))))))
theorem h_laws_toWrite : (Tryz.prog.funcs[n_laws_toWrite]?).bind (fun fn => fn.body.bind (comp Tryz.prog fn.ntmps)) = some (AS.strip c_laws_toWrite) := by kernel_rfl
theorem r_laws_toWrite : (Tryz.prog.funcs[n_laws_toWrite]?).map (fun fn => (fn.results.toList, fn.ntmps)) = some ([.cell 2 78], 14) := by kernel_rfl
-- 59 slices.IndexFunc[[]loop.example/g00850/impl.Deed,loop.example/g00850/impl.Deed]
abbrev n_slices_IndexFunc___impl_Deed_impl_Deed_ : Nat := 59
def c_slices_IndexFunc___impl_Deed_impl_Deed__l1 : AS :=
  .seq (.ops [⟨(some 9), none, .bin .lss (.tmp 8) (.tmp 7)⟩])
  (.seq (.cond (.tmp 9) (.skip) (.exit 0))
  (.seq (.block 1 (.seq (.ops [⟨(some 10), none, .mv (.tmp 8)⟩,
    ⟨(some 5), none, .mv (.tmp 10)⟩])
  (.seq (.post [(14, 1, [(6, 3), (7, 3)])] (.ops [⟨(some 11), none, .mv (.tmp 1)⟩,
    ⟨(some 12), none, .mv (.tmp 0)⟩,
    ⟨(some 13), none, .mv (.tmp 5)⟩,
    ⟨(some 14), none, .ia 8 (.tmp 12) (.tmp 13)⟩,
    ⟨(some 15), none, .load (some 8) (.tmp 14)⟩,
    ⟨(some 16), none, .callv (.tmp 11) [(.tmp 15)]⟩]))
  (.cond (.tmp 16) (.seq (.ops [⟨(some 17), none, .mv (.tmp 5)⟩,
    ⟨(some 4), none, .mv (.tmp 17)⟩])
  (.ret)) (.skip)))))
  (.kept [0, 1, 7, 8] (.ops [⟨(some 18), none, .bin .add (.tmp 8) (.const (.int .i64 1))⟩,
    ⟨(some 8), none, .mv (.tmp 18)⟩]))))
def c_slices_IndexFunc___impl_Deed_impl_Deed_ : AS :=
  .seq (.ops [⟨(some 4), none, .mv (.const (.int .i64 0))⟩])
  (.seq (.seq (.ops [⟨(some 6), none, .mv (.tmp 0)⟩,
    ⟨(some 7), none, .lens (.tmp 6)⟩,
    ⟨(some 8), none, .mv (.const (.int .i64 0))⟩])
  (.block 0 (.loop 2 [(0, 0), (1, 0), (7, 0), (8, 0)] c_slices_IndexFunc___impl_Deed_impl_Deed__l1)))
  (.kept [] (.seq (.ops [⟨(some 4), none, .mv (.const (.int .i64 (-1)))⟩])
  (.ret))))
theorem h_slices_IndexFunc___impl_Deed_impl_Deed_ : (Tryz.prog.funcs[n_slices_IndexFunc___impl_Deed_impl_Deed_]?).bind (fun fn => fn.body.bind (comp Tryz.prog fn.ntmps)) = some (AS.strip c_slices_IndexFunc___impl_Deed_impl_Deed_) := by kernel_rfl
theorem r_slices_IndexFunc___impl_Deed_impl_Deed_ : (Tryz.prog.funcs[n_slices_IndexFunc___impl_Deed_impl_Deed_]?).map (fun fn => (fn.results.toList, fn.ntmps)) = some ([.tmp 4], 19) := by kernel_rfl
-- 60 loop.example/g00850/impl.isTxn
abbrev n_impl_isTxn : Nat := 60
def c_impl_isTxn : AS :=
  .seq (.ops [⟨(some 2), none, .mv (.const (.bool false))⟩])
  (.seq (.ops [⟨(some 3), none, .mv (.tmp 0)⟩,
    ⟨(some 4), none, .call 61 [(.tmp 3), (.const (.int .i64 1)), (.const (.int .i64 60))]⟩,
    ⟨(some 2), none, .mv (.tmp 4)⟩])
  (.ret))
theorem h_impl_isTxn : (Tryz.prog.funcs[n_impl_isTxn]?).bind (fun fn => fn.body.bind (comp Tryz.prog fn.ntmps)) = some (AS.strip c_impl_isTxn) := by kernel_rfl
theorem r_impl_isTxn : (Tryz.prog.funcs[n_impl_isTxn]?).map (fun fn => (fn.results.toList, fn.ntmps)) = some ([.tmp 2], 5) := by kernel_rfl
-- 61 loop.example/g00850/impl.within
abbrev n_impl_within : Nat := 61
def c_impl_within : AS :=
  .seq (.ops [⟨(some 6), none, .mv (.const (.bool false))⟩])
  (.seq (.ops [⟨(some 7), none, .mv (.tmp 0)⟩,
    ⟨(some 8), none, .mv (.tmp 1)⟩,
    ⟨(some 9), none, .bin .geq (.tmp 7) (.tmp 8)⟩,
    ⟨(some 10), none, .mv (.tmp 9)⟩,
    ⟨(some 11), some (10, true), .mv (.tmp 0)⟩,
    ⟨(some 12), some (10, true), .mv (.tmp 2)⟩,
    ⟨(some 13), some (10, true), .bin .leq (.tmp 11) (.tmp 12)⟩,
    ⟨(some 14), none, .pick (.tmp 10) (.tmp 13) (.const (.bool false))⟩,
    ⟨(some 6), none, .mv (.tmp 14)⟩])
  (.ret))
theorem h_impl_within : (Tryz.prog.funcs[n_impl_within]?).bind (fun fn => fn.body.bind (comp Tryz.prog fn.ntmps)) = some (AS.strip c_impl_within) := by kernel_rfl
theorem r_impl_within : (Tryz.prog.funcs[n_impl_within]?).map (fun fn => (fn.results.toList, fn.ntmps)) = some ([.tmp 6], 15) := by kernel_rfl
-- 62 loop.example/g00850/impl.isTrue
abbrev n_impl_isTrue : Nat := 62
def c_impl_isTrue : AS :=
  .seq (.ops [⟨(some 2), none, .mv (.const (.bool false))⟩])
  (.seq (.ops [⟨(some 3), none, .mv (.tmp 0)⟩,
    ⟨(some 4), none, .call 61 [(.tmp 3), (.const (.int .i64 0)), (.const (.int .i64 100000))]⟩,
    ⟨(some 2), none, .mv (.tmp 4)⟩])
  (.ret))
theorem h_impl_isTrue : (Tryz.prog.funcs[n_impl_isTrue]?).bind (fun fn => fn.body.bind (comp Tryz.prog fn.ntmps)) = some (AS.strip c_impl_isTrue) := by kernel_rfl
theorem r_impl_isTrue : (Tryz.prog.funcs[n_impl_isTrue]?).map (fun fn => (fn.results.toList, fn.ntmps)) = some ([.tmp 2], 5) := by kernel_rfl
-- 63 loop.example/g00850/impl.areGot
abbrev n_impl_areGot : Nat := 63
def c_impl_areGot_l1 : AS :=
  .seq (.ops [⟨(some 8), none, .bin .lss (.tmp 7) (.tmp 6)⟩])
  (.seq (.cond (.tmp 8) (.skip) (.exit 0))
  (.seq (.block 1 (.seq (.ops [⟨(some 9), none, .mv (.tmp 7)⟩,
    ⟨(some 10), none, .ia 3 (.tmp 5) (.tmp 7)⟩,
    ⟨(some 11), none, .load (some 3) (.tmp 10)⟩,
    ⟨(some 4), none, .alloc (.agg #[.string ⟨⟨[]⟩⟩, .string ⟨⟨[]⟩⟩, .bool false])⟩,
    ⟨(some 3), none, .mv (.tmp 9)⟩,
    ⟨none, none, .store 3 (.tmp 4) (.tmp 11)⟩])
  (.seq (.ops [⟨(some 12), none, .fa 0 (.tmp 4)⟩,
    ⟨(some 13), none, .load none (.tmp 12)⟩,
    ⟨(some 14), none, .call 79 [(.tmp 13)]⟩,
    ⟨(some 15), none, .not (.tmp 14)⟩,
    ⟨(some 16), none, .mv (.tmp 15)⟩,
    ⟨(some 17), some (16, false), .fa 1 (.tmp 4)⟩,
    ⟨(some 18), some (16, false), .load none (.tmp 17)⟩,
    ⟨(some 19), some (16, false), .fa 2 (.tmp 4)⟩,
    ⟨(some 20), some (16, false), .load none (.tmp 19)⟩,
    ⟨(some 21), some (16, false), .not (.tmp 20)⟩,
    ⟨(some 22), some (16, false), .call 80 [(.tmp 18), (.tmp 21)]⟩,
    ⟨(some 23), some (16, false), .not (.tmp 22)⟩,
    ⟨(some 24), none, .pick (.tmp 16) (.const (.bool true)) (.tmp 23)⟩,
    ⟨(some 25), none, .mv (.tmp 24)⟩,
    ⟨(some 26), some (25, false), .mv (.tmp 0)⟩,
    ⟨(some 27), some (25, false), .mv (.tmp 3)⟩,
    ⟨(some 28), some (25, false), .sls 3 (.tmp 26) none (some (.tmp 27)) none⟩,
    ⟨(some 29), some (25, false), .mkf 82 [(.tmp 4)]⟩,
    ⟨(some 30), some (25, false), .call 81 [(.tmp 28), (.tmp 29)]⟩,
    ⟨(some 31), none, .pick (.tmp 25) (.const (.bool true)) (.tmp 30)⟩])
  (.kept [0, 5, 6, 7, 31] (.cond (.tmp 31) (.seq (.ops [⟨(some 2), none, .mv (.const (.bool false))⟩])
  (.ret)) (.skip))))))
  (.kept [0, 5, 6, 7] (.ops [⟨(some 32), none, .bin .add (.tmp 7) (.const (.int .i64 1))⟩,
    ⟨(some 7), none, .mv (.tmp 32)⟩]))))
def c_impl_areGot : AS :=
  .seq (.ops [⟨(some 2), none, .mv (.const (.bool false))⟩])
  (.seq (.seq (.ops [⟨(some 5), none, .mv (.tmp 0)⟩,
    ⟨(some 6), none, .lens (.tmp 5)⟩,
    ⟨(some 7), none, .mv (.const (.int .i64 0))⟩])
  (.block 0 (.loop 1 [(0, 0), (5, 0), (6, 0), (7, 0)] c_impl_areGot_l1)))
  (.kept [0] (.seq (.ops [⟨(some 33), none, .mv (.tmp 0)⟩,
    ⟨(some 34), none, .lens (.tmp 33)⟩,
    ⟨(some 35), none, .bin .leq (.tmp 34) (.const (.int .i64 8))⟩,
    ⟨(some 2), none, .mv (.tmp 35)⟩])
  (.ret))))
theorem h_impl_areGot : (Tryz.prog.funcs[n_impl_areGot]?).bind (fun fn => fn.body.bind (comp Tryz.prog fn.ntmps)) = some (AS.strip c_impl_areGot) := by kernel_rfl
theorem r_impl_areGot : (Tryz.prog.funcs[n_impl_areGot]?).map (fun fn => (fn.results.toList, fn.ntmps)) = some ([.tmp 2], 36) := by kernel_rfl
-- 64 loop.example/g00850/impl.GoodWrites
abbrev n_impl_GoodWrites : Nat := 64
def c_impl_GoodWrites : AS :=
  .seq (.ops [⟨(some 2), none, .mv (.const (.bool false))⟩])
  (.seq (.ops [⟨(some 3), none, .mv (.tmp 0)⟩,
    ⟨(some 4), none, .lens (.tmp 3)⟩,
    ⟨(some 5), none, .bin .leq (.tmp 4) (.const (.int .i64 24))⟩,
    ⟨(some 6), none, .mv (.tmp 5)⟩,
    ⟨(some 7), some (6, true), .mv (.tmp 0)⟩,
    ⟨(some 8), some (6, true), .call 84 [(.tmp 7)]⟩,
    ⟨(some 9), some (6, true), .call 83 [(.tmp 8)]⟩,
    ⟨(some 10), none, .pick (.tmp 6) (.tmp 9) (.const (.bool false))⟩,
    ⟨(some 11), none, .mv (.tmp 10)⟩,
    ⟨(some 12), some (11, true), .mv (.tmp 0)⟩,
    ⟨(some 13), some (11, true), .call 85 [(.tmp 12), (.func 86)]⟩,
    ⟨(some 14), some (11, true), .not (.tmp 13)⟩,
    ⟨(some 15), none, .pick (.tmp 11) (.tmp 14) (.const (.bool false))⟩,
    ⟨(some 2), none, .mv (.tmp 15)⟩])
  (.ret))
theorem h_impl_GoodWrites : (Tryz.prog.funcs[n_impl_GoodWrites]?).bind (fun fn => fn.body.bind (comp Tryz.prog fn.ntmps)) = some (AS.strip c_impl_GoodWrites) := by kernel_rfl
theorem r_impl_GoodWrites : (Tryz.prog.funcs[n_impl_GoodWrites]?).map (fun fn => (fn.results.toList, fn.ntmps)) = some ([.tmp 2], 16) := by kernel_rfl
-- 65 slices.IndexFunc[[]int,int]
abbrev n_slices_IndexFunc___int_int_ : Nat := 65
def c_slices_IndexFunc___int_int__l1 : AS :=
  .seq (.ops [⟨(some 9), none, .bin .lss (.tmp 8) (.tmp 7)⟩])
  (.seq (.cond (.tmp 9) (.skip) (.exit 0))
  (.seq (.block 1 (.seq (.ops [⟨(some 10), none, .mv (.tmp 8)⟩,
    ⟨(some 5), none, .mv (.tmp 10)⟩])
  (.seq (.ops [⟨(some 11), none, .mv (.tmp 1)⟩,
    ⟨(some 12), none, .mv (.tmp 0)⟩,
    ⟨(some 13), none, .mv (.tmp 5)⟩,
    ⟨(some 14), none, .ia 1 (.tmp 12) (.tmp 13)⟩,
    ⟨(some 15), none, .load none (.tmp 14)⟩,
    ⟨(some 16), none, .callv (.tmp 11) [(.tmp 15)]⟩])
  (.cond (.tmp 16) (.seq (.ops [⟨(some 17), none, .mv (.tmp 5)⟩,
    ⟨(some 4), none, .mv (.tmp 17)⟩])
  (.ret)) (.skip)))))
  (.kept [0, 1, 7, 8] (.ops [⟨(some 18), none, .bin .add (.tmp 8) (.const (.int .i64 1))⟩,
    ⟨(some 8), none, .mv (.tmp 18)⟩]))))
def c_slices_IndexFunc___int_int_ : AS :=
  .seq (.ops [⟨(some 4), none, .mv (.const (.int .i64 0))⟩])
  (.seq (.seq (.ops [⟨(some 6), none, .mv (.tmp 0)⟩,
    ⟨(some 7), none, .lens (.tmp 6)⟩,
    ⟨(some 8), none, .mv (.const (.int .i64 0))⟩])
  (.block 0 (.loop 2 [(0, 0), (1, 0), (7, 0), (8, 0)] c_slices_IndexFunc___int_int__l1)))
  (.kept [] (.seq (.ops [⟨(some 4), none, .mv (.const (.int .i64 (-1)))⟩])
  (.ret))))
theorem h_slices_IndexFunc___int_int_ : (Tryz.prog.funcs[n_slices_IndexFunc___int_int_]?).bind (fun fn => fn.body.bind (comp Tryz.prog fn.ntmps)) = some (AS.strip c_slices_IndexFunc___int_int_) := by kernel_rfl
theorem r_slices_IndexFunc___int_int_ : (Tryz.prog.funcs[n_slices_IndexFunc___int_int_]?).map (fun fn => (fn.results.toList, fn.ntmps)) = some ([.tmp 4], 19) := by kernel_rfl
-- 66 slices.Index[[]int,int]
abbrev n_slices_Index___int_int_ : Nat := 66
def c_slices_Index___int_int__l1 : AS :=
  .seq (.ops [⟨(some 9), none, .bin .lss (.tmp 8) (.tmp 7)⟩])
  (.seq (.cond (.tmp 9) (.skip) (.exit 0))
  (.seq (.block 1 (.seq (.ops [⟨(some 10), none, .mv (.tmp 8)⟩,
    ⟨(some 5), none, .mv (.tmp 10)⟩])
  (.seq (.ops [⟨(some 11), none, .mv (.tmp 1)⟩,
    ⟨(some 12), none, .mv (.tmp 0)⟩,
    ⟨(some 13), none, .mv (.tmp 5)⟩,
    ⟨(some 14), none, .ia 1 (.tmp 12) (.tmp 13)⟩,
    ⟨(some 15), none, .load none (.tmp 14)⟩,
    ⟨(some 16), none, .bin .eql (.tmp 11) (.tmp 15)⟩])
  (.cond (.tmp 16) (.seq (.ops [⟨(some 17), none, .mv (.tmp 5)⟩,
    ⟨(some 4), none, .mv (.tmp 17)⟩])
  (.ret)) (.skip)))))
  (.kept [0, 1, 7, 8] (.ops [⟨(some 18), none, .bin .add (.tmp 8) (.const (.int .i64 1))⟩,
    ⟨(some 8), none, .mv (.tmp 18)⟩]))))
def c_slices_Index___int_int_ : AS :=
  .seq (.ops [⟨(some 4), none, .mv (.const (.int .i64 0))⟩])
  (.seq (.seq (.ops [⟨(some 6), none, .mv (.tmp 0)⟩,
    ⟨(some 7), none, .lens (.tmp 6)⟩,
    ⟨(some 8), none, .mv (.const (.int .i64 0))⟩])
  (.block 0 (.loop 2 [(0, 0), (1, 0), (7, 0), (8, 0)] c_slices_Index___int_int__l1)))
  (.kept [] (.seq (.ops [⟨(some 4), none, .mv (.const (.int .i64 (-1)))⟩])
  (.ret))))
theorem h_slices_Index___int_int_ : (Tryz.prog.funcs[n_slices_Index___int_int_]?).bind (fun fn => fn.body.bind (comp Tryz.prog fn.ntmps)) = some (AS.strip c_slices_Index___int_int_) := by kernel_rfl
theorem r_slices_Index___int_int_ : (Tryz.prog.funcs[n_slices_Index___int_int_]?).map (fun fn => (fn.results.toList, fn.ntmps)) = some ([.tmp 4], 19) := by kernel_rfl
-- 67 loop.example/g00850/impl.ahead
abbrev n_impl_ahead : Nat := 67
def c_impl_ahead : AS :=
  .seq (.ops [⟨(some 2), none, .box (.tmp 0)⟩,
    ⟨(some 3), none, .box (.tmp 1)⟩,
    ⟨(some 4), none, .mv (.const (.bool false))⟩])
  (.seq (.ops [⟨(some 5), none, .fa 2 (.tmp 2)⟩,
    ⟨(some 6), none, .load none (.tmp 5)⟩,
    ⟨(some 7), none, .bin .neq (.tmp 6) (.const (.int .i64 (-1)))⟩,
    ⟨(some 8), none, .mv (.tmp 7)⟩,
    ⟨(some 9), some (8, true), .fa 2 (.tmp 2)⟩,
    ⟨(some 10), some (8, true), .load none (.tmp 9)⟩,
    ⟨(some 11), some (8, true), .fa 1 (.tmp 3)⟩,
    ⟨(some 12), some (8, true), .load none (.tmp 11)⟩,
    ⟨(some 13), some (8, true), .bin .lss (.tmp 10) (.tmp 12)⟩,
    ⟨(some 14), none, .pick (.tmp 8) (.tmp 13) (.const (.bool false))⟩,
    ⟨(some 4), none, .mv (.tmp 14)⟩])
  (.ret))
theorem h_impl_ahead : (Tryz.prog.funcs[n_impl_ahead]?).bind (fun fn => fn.body.bind (comp Tryz.prog fn.ntmps)) = some (AS.strip c_impl_ahead) := by kernel_rfl
theorem r_impl_ahead : (Tryz.prog.funcs[n_impl_ahead]?).map (fun fn => (fn.results.toList, fn.ntmps)) = some ([.tmp 4], 15) := by kernel_rfl
-- 68 (loop.example/g00850/impl.Deed).confirms
abbrev n_impl_Deed_confirms : Nat := 68
def c_impl_Deed_confirms : AS :=
  .seq (.ops [⟨(some 2), none, .box (.tmp 0)⟩,
    ⟨(some 3), none, .box (.tmp 1)⟩,
    ⟨(some 4), none, .mv (.const (.bool false))⟩])
  (.seq (.ops [⟨(some 5), none, .fa 6 (.tmp 2)⟩,
    ⟨(some 6), none, .load none (.tmp 5)⟩,
    ⟨(some 7), none, .mkf 87 [(.tmp 3)]⟩,
    ⟨(some 8), none, .call 81 [(.tmp 6), (.tmp 7)]⟩,
    ⟨(some 9), none, .not (.tmp 8)⟩,
    ⟨(some 4), none, .mv (.tmp 9)⟩])
  (.ret))
theorem h_impl_Deed_confirms : (Tryz.prog.funcs[n_impl_Deed_confirms]?).bind (fun fn => fn.body.bind (comp Tryz.prog fn.ntmps)) = some (AS.strip c_impl_Deed_confirms) := by kernel_rfl
theorem r_impl_Deed_confirms : (Tryz.prog.funcs[n_impl_Deed_confirms]?).map (fun fn => (fn.results.toList, fn.ntmps)) = some ([.tmp 4], 10) := by kernel_rfl
-- 69 loop.example/g00850/impl.putRows
abbrev n_impl_putRows : Nat := 69
def c_impl_putRows_l1 : AS :=
  .seq (.ops [⟨(some 14), none, .bin .lss (.tmp 13) (.tmp 12)⟩])
  (.seq (.cond (.tmp 14) (.skip) (.exit 0))
  (.seq (.block 1 (.seq (.ops [⟨(some 15), none, .ia 3 (.tmp 11) (.tmp 13)⟩,
    ⟨(some 16), none, .load (some 3) (.tmp 15)⟩,
    ⟨(some 8), none, .alloc (.agg #[.string ⟨⟨[]⟩⟩, .string ⟨⟨[]⟩⟩, .bool false])⟩,
    ⟨none, none, .store 3 (.tmp 8) (.tmp 16)⟩])
  (.ops [⟨(some 17), none, .mv (.tmp 6)⟩,
    ⟨(some 18), none, .load (some 3) (.tmp 8)⟩,
    ⟨(some 19), none, .call 90 [(.tmp 17), (.tmp 18)]⟩,
    ⟨(some 6), none, .mv (.tmp 19)⟩])))
  (.kept [6, 11, 12, 13] (.ops [⟨(some 20), none, .bin .add (.tmp 13) (.const (.int .i64 1))⟩,
    ⟨(some 13), none, .mv (.tmp 20)⟩]))))
def c_impl_putRows : AS :=
  .seq (.ops [⟨(some 4), none, .mv (.const (.slice none 0 0))⟩,
    ⟨(some 5), none, .mv (.const (.bool false))⟩])
  (.seq (.ops [⟨(some 9), none, .mv (.tmp 0)⟩,
    ⟨(some 10), none, .call 89 [(.tmp 9)]⟩,
    ⟨(some 6), none, .mv (.tmp 10)⟩])
  (.seq (.seq (.ops [⟨(some 11), none, .mv (.tmp 1)⟩,
    ⟨(some 12), none, .lens (.tmp 11)⟩,
    ⟨(some 13), none, .mv (.const (.int .i64 0))⟩])
  (.block 0 (.loop 2 [(6, 3), (11, 0), (12, 0), (13, 0)] c_impl_putRows_l1)))
  (.kept [6] (.seq (.ops [⟨(some 21), none, .mv (.tmp 6)⟩,
    ⟨(some 22), none, .call 91 [(.tmp 21), (.func 92)]⟩,
    ⟨(some 6), none, .mv (.tmp 22)⟩])
  (.seq (.seq (.ops [⟨(some 23), none, .mv (.tmp 6)⟩,
    ⟨(some 24), none, .lens (.tmp 23)⟩,
    ⟨(some 25), none, .bin .gtr (.tmp 24) (.const (.int .i64 24))⟩])
  (.cond (.tmp 25) (.seq (.ops [⟨(some 4), none, .mv (.const (.slice none 0 0))⟩,
    ⟨(some 5), none, .mv (.const (.bool false))⟩])
  (.ret)) (.skip)))
  (.seq (.ops [⟨(some 26), none, .mv (.tmp 6)⟩,
    ⟨(some 4), none, .mv (.tmp 26)⟩,
    ⟨(some 5), none, .mv (.const (.bool true))⟩])
  (.ret)))))))
theorem h_impl_putRows : (Tryz.prog.funcs[n_impl_putRows]?).bind (fun fn => fn.body.bind (comp Tryz.prog fn.ntmps)) = some (AS.strip c_impl_putRows) := by kernel_rfl
theorem r_impl_putRows : (Tryz.prog.funcs[n_impl_putRows]?).map (fun fn => (fn.results.toList, fn.ntmps)) = some ([.tmp 4, .tmp 5], 27) := by kernel_rfl
-- 70 slices.stableCmpFunc[int]
abbrev n_slices_stableCmpFunc_int_ : Nat := 70
def c_slices_stableCmpFunc_int__l1 : AS :=
  .seq (.seq (.ops [⟨(some 11), none, .mv (.tmp 8)⟩,
    ⟨(some 12), none, .mv (.tmp 1)⟩,
    ⟨(some 13), none, .bin .leq (.tmp 11) (.tmp 12)⟩])
  (.cond (.tmp 13) (.skip) (.exit 0)))
  (.block 1 (.seq (.ops [⟨(some 14), none, .mv (.tmp 0)⟩,
    ⟨(some 15), none, .mv (.tmp 7)⟩,
    ⟨(some 16), none, .mv (.tmp 8)⟩,
    ⟨(some 17), none, .mv (.tmp 2)⟩,
    ⟨(some 18), none, .call 93 [(.tmp 14), (.tmp 15), (.tmp 16), (.tmp 17)]⟩])
  (.seq (.ops [⟨(some 19), none, .mv (.tmp 8)⟩,
    ⟨(some 7), none, .mv (.tmp 19)⟩])
  (.ops [⟨(some 20), none, .mv (.tmp 8)⟩,
    ⟨(some 21), none, .mv (.tmp 6)⟩,
    ⟨(some 22), none, .bin .add (.tmp 20) (.tmp 21)⟩,
    ⟨(some 8), none, .mv (.tmp 22)⟩]))))
def c_slices_stableCmpFunc_int__l2 : AS :=
  .seq (.seq (.ops [⟨(some 33), none, .mv (.tmp 8)⟩,
    ⟨(some 34), none, .mv (.tmp 1)⟩,
    ⟨(some 35), none, .bin .leq (.tmp 33) (.tmp 34)⟩])
  (.cond (.tmp 35) (.skip) (.exit 4)))
  (.block 5 (.seq (.ops [⟨(some 36), none, .mv (.tmp 0)⟩,
    ⟨(some 37), none, .mv (.tmp 7)⟩,
    ⟨(some 38), none, .mv (.tmp 7)⟩,
    ⟨(some 39), none, .mv (.tmp 6)⟩,
    ⟨(some 40), none, .bin .add (.tmp 38) (.tmp 39)⟩,
    ⟨(some 41), none, .mv (.tmp 8)⟩,
    ⟨(some 42), none, .mv (.tmp 2)⟩,
    ⟨(some 43), none, .call 94 [(.tmp 36), (.tmp 37), (.tmp 40), (.tmp 41), (.tmp 42)]⟩])
  (.kept [0, 1, 2, 6, 8] (.seq (.ops [⟨(some 44), none, .mv (.tmp 8)⟩,
    ⟨(some 7), none, .mv (.tmp 44)⟩])
  (.ops [⟨(some 45), none, .mv (.tmp 8)⟩,
    ⟨(some 46), none, .mv (.tmp 6)⟩,
    ⟨(some 47), none, .bin .mul (.const (.int .i64 2)) (.tmp 46)⟩,
    ⟨(some 48), none, .bin .add (.tmp 45) (.tmp 47)⟩,
    ⟨(some 8), none, .mv (.tmp 48)⟩])))))
def c_slices_stableCmpFunc_int__l3 : AS :=
  .seq (.seq (.ops [⟨(some 28), none, .mv (.tmp 6)⟩,
    ⟨(some 29), none, .mv (.tmp 1)⟩,
    ⟨(some 30), none, .bin .lss (.tmp 28) (.tmp 29)⟩])
  (.cond (.tmp 30) (.skip) (.exit 2)))
  (.block 3 (.seq (.ops [⟨(some 31), none, .mv (.tmp 6)⟩,
    ⟨(some 32), none, .bin .mul (.const (.int .i64 2)) (.tmp 31)⟩,
    ⟨(some 7), none, .mv (.const (.int .i64 0))⟩,
    ⟨(some 8), none, .mv (.tmp 32)⟩])
  (.seq (.block 4 (.loop 3 [(0, 0), (1, 0), (2, 0), (6, 0), (7, 0), (8, 0)] c_slices_stableCmpFunc_int__l2))
  (.kept [0, 1, 2, 6, 7] (.seq (.seq (.ops [⟨(some 49), none, .mv (.tmp 7)⟩,
    ⟨(some 50), none, .mv (.tmp 6)⟩,
    ⟨(some 51), none, .bin .add (.tmp 49) (.tmp 50)⟩,
    ⟨(some 9), none, .mv (.tmp 51)⟩])
  (.seq (.ops [⟨(some 52), none, .mv (.tmp 9)⟩,
    ⟨(some 53), none, .mv (.tmp 1)⟩,
    ⟨(some 54), none, .bin .lss (.tmp 52) (.tmp 53)⟩])
  (.cond (.tmp 54) (.ops [⟨(some 55), none, .mv (.tmp 0)⟩,
    ⟨(some 56), none, .mv (.tmp 7)⟩,
    ⟨(some 57), none, .mv (.tmp 9)⟩,
    ⟨(some 58), none, .mv (.tmp 1)⟩,
    ⟨(some 59), none, .mv (.tmp 2)⟩,
    ⟨(some 60), none, .call 94 [(.tmp 55), (.tmp 56), (.tmp 57), (.tmp 58), (.tmp 59)]⟩]) (.skip))))
  (.kept [0, 1, 2, 6] (.ops [⟨(some 61), none, .mv (.tmp 6)⟩,
    ⟨(some 62), none, .bin .mul (.tmp 61) (.const (.int .i64 2))⟩,
    ⟨(some 6), none, .mv (.tmp 62)⟩])))))))
def c_slices_stableCmpFunc_int_ : AS :=
  .seq (.ops [⟨(some 6), none, .mv (.const (.int .i64 20))⟩])
  (.seq (.ops [⟨(some 10), none, .mv (.tmp 6)⟩,
    ⟨(some 7), none, .mv (.const (.int .i64 0))⟩,
    ⟨(some 8), none, .mv (.tmp 10)⟩])
  (.seq (.block 0 (.loop 3 [(0, 0), (1, 0), (2, 0), (6, 0), (7, 0), (8, 0)] c_slices_stableCmpFunc_int__l1))
  (.kept [0, 1, 2, 6, 7] (.seq (.ops [⟨(some 23), none, .mv (.tmp 0)⟩,
    ⟨(some 24), none, .mv (.tmp 7)⟩,
    ⟨(some 25), none, .mv (.tmp 1)⟩,
    ⟨(some 26), none, .mv (.tmp 2)⟩,
    ⟨(some 27), none, .call 93 [(.tmp 23), (.tmp 24), (.tmp 25), (.tmp 26)]⟩])
  (.block 2 (.loop 3 [(0, 0), (1, 0), (2, 0), (6, 0)] c_slices_stableCmpFunc_int__l3))))))
theorem h_slices_stableCmpFunc_int_ : (Tryz.prog.funcs[n_slices_stableCmpFunc_int_]?).bind (fun fn => fn.body.bind (comp Tryz.prog fn.ntmps)) = some (AS.strip c_slices_stableCmpFunc_int_) := by kernel_rfl
theorem r_slices_stableCmpFunc_int_ : (Tryz.prog.funcs[n_slices_stableCmpFunc_int_]?).map (fun fn => (fn.results.toList, fn.ntmps)) = some ([], 63) := by kernel_rfl
-- 71 cmp.isNaN[int]
abbrev n_cmp_isNaN_int_ : Nat := 71
def c_cmp_isNaN_int_ : AS :=
  .seq (.ops [⟨(some 2), none, .mv (.const (.bool false))⟩])
  (.seq (.ops [⟨(some 3), none, .mv (.tmp 0)⟩,
    ⟨(some 4), none, .mv (.tmp 0)⟩,
    ⟨(some 5), none, .bin .neq (.tmp 3) (.tmp 4)⟩,
    ⟨(some 2), none, .mv (.tmp 5)⟩])
  (.ret))
theorem h_cmp_isNaN_int_ : (Tryz.prog.funcs[n_cmp_isNaN_int_]?).bind (fun fn => fn.body.bind (comp Tryz.prog fn.ntmps)) = some (AS.strip c_cmp_isNaN_int_) := by kernel_rfl
theorem r_cmp_isNaN_int_ : (Tryz.prog.funcs[n_cmp_isNaN_int_]?).map (fun fn => (fn.results.toList, fn.ntmps)) = some ([.tmp 2], 6) := by kernel_rfl
-- 72 loop.example/g00850/laws.eqGot
abbrev n_laws_eqGot : Nat := 72
def c_laws_eqGot : AS :=
  .seq (.ops [⟨(some 2), none, .box (.tmp 0)⟩,
    ⟨(some 3), none, .box (.tmp 1)⟩,
    ⟨(some 4), none, .mv (.const (.bool false))⟩])
  (.seq (.seq (.ops [⟨(some 5), none, .fa 0 (.tmp 2)⟩,
    ⟨(some 6), none, .load none (.tmp 5)⟩,
    ⟨(some 7), none, .fa 0 (.tmp 3)⟩,
    ⟨(some 8), none, .load none (.tmp 7)⟩,
    ⟨(some 9), none, .bin .neq (.tmp 6) (.tmp 8)⟩])
  (.cond (.tmp 9) (.seq (.ops [⟨(some 4), none, .mv (.const (.bool false))⟩])
  (.ret)) (.skip)))
  (.kept [2, 3] (.seq (.seq (.ops [⟨(some 10), none, .fa 1 (.tmp 2)⟩,
    ⟨(some 11), none, .load none (.tmp 10)⟩,
    ⟨(some 12), none, .fa 1 (.tmp 3)⟩,
    ⟨(some 13), none, .load none (.tmp 12)⟩,
    ⟨(some 14), none, .bin .neq (.tmp 11) (.tmp 13)⟩])
  (.cond (.tmp 14) (.seq (.ops [⟨(some 4), none, .mv (.const (.bool false))⟩])
  (.ret)) (.skip)))
  (.kept [2, 3] (.seq (.seq (.ops [⟨(some 15), none, .fa 2 (.tmp 2)⟩,
    ⟨(some 16), none, .load none (.tmp 15)⟩,
    ⟨(some 17), none, .fa 2 (.tmp 3)⟩,
    ⟨(some 18), none, .load none (.tmp 17)⟩,
    ⟨(some 19), none, .eqb true (.tmp 16) (.tmp 18)⟩])
  (.cond (.tmp 19) (.seq (.ops [⟨(some 4), none, .mv (.const (.bool false))⟩])
  (.ret)) (.skip)))
  (.kept [] (.seq (.ops [⟨(some 4), none, .mv (.const (.bool true))⟩])
  (.ret))))))))
theorem h_laws_eqGot : (Tryz.prog.funcs[n_laws_eqGot]?).bind (fun fn => fn.body.bind (comp Tryz.prog fn.ntmps)) = some (AS.strip c_laws_eqGot) := by kernel_rfl
theorem r_laws_eqGot : (Tryz.prog.funcs[n_laws_eqGot]?).map (fun fn => (fn.results.toList, fn.ntmps)) = some ([.tmp 4], 20) := by kernel_rfl
-- 73 loop.example/g00850/laws.eqWrite
abbrev n_laws_eqWrite : Nat := 73
def c_laws_eqWrite : AS :=
  .seq (.ops [⟨(some 2), none, .box (.tmp 0)⟩,
    ⟨(some 3), none, .box (.tmp 1)⟩,
    ⟨(some 4), none, .mv (.const (.bool false))⟩])
  (.seq (.seq (.ops [⟨(some 5), none, .fa 0 (.tmp 2)⟩,
    ⟨(some 6), none, .load none (.tmp 5)⟩,
    ⟨(some 7), none, .fa 0 (.tmp 3)⟩,
    ⟨(some 8), none, .load none (.tmp 7)⟩,
    ⟨(some 9), none, .bin .neq (.tmp 6) (.tmp 8)⟩])
  (.cond (.tmp 9) (.seq (.ops [⟨(some 4), none, .mv (.const (.bool false))⟩])
  (.ret)) (.skip)))
  (.kept [2, 3] (.seq (.seq (.ops [⟨(some 10), none, .fa 1 (.tmp 2)⟩,
    ⟨(some 11), none, .load none (.tmp 10)⟩,
    ⟨(some 12), none, .fa 1 (.tmp 3)⟩,
    ⟨(some 13), none, .load none (.tmp 12)⟩,
    ⟨(some 14), none, .bin .neq (.tmp 11) (.tmp 13)⟩])
  (.cond (.tmp 14) (.seq (.ops [⟨(some 4), none, .mv (.const (.bool false))⟩])
  (.ret)) (.skip)))
  (.kept [2, 3] (.seq (.seq (.ops [⟨(some 15), none, .fa 2 (.tmp 2)⟩,
    ⟨(some 16), none, .load none (.tmp 15)⟩,
    ⟨(some 17), none, .fa 2 (.tmp 3)⟩,
    ⟨(some 18), none, .load none (.tmp 17)⟩,
    ⟨(some 19), none, .eqb true (.tmp 16) (.tmp 18)⟩])
  (.cond (.tmp 19) (.seq (.ops [⟨(some 4), none, .mv (.const (.bool false))⟩])
  (.ret)) (.skip)))
  (.kept [] (.seq (.ops [⟨(some 4), none, .mv (.const (.bool true))⟩])
  (.ret))))))))
theorem h_laws_eqWrite : (Tryz.prog.funcs[n_laws_eqWrite]?).bind (fun fn => fn.body.bind (comp Tryz.prog fn.ntmps)) = some (AS.strip c_laws_eqWrite) := by kernel_rfl
theorem r_laws_eqWrite : (Tryz.prog.funcs[n_laws_eqWrite]?).map (fun fn => (fn.results.toList, fn.ntmps)) = some ([.tmp 4], 20) := by kernel_rfl
-- 74 loop.example/g00850/spec.l3Key
abbrev n_spec_l3Key : Nat := 74
def c_spec_l3Key : AS :=
  .seq (.ops [⟨(some 2), none, .mv (.const (.bool false))⟩])
  (.seq (.ops [⟨(some 3), none, .mv (.tmp 0)⟩,
    ⟨(some 4), none, .lent (.tmp 3)⟩,
    ⟨(some 5), none, .call 48 [(.tmp 4), (.const (.int .i64 1)), (.const (.int .i64 12))]⟩,
    ⟨(some 6), none, .mv (.tmp 5)⟩,
    ⟨(some 7), some (6, true), .mv (.tmp 0)⟩,
    ⟨(some 8), some (6, true), .call 95 [(.tmp 7), (.const (.string ⟨⟨[46, 47]⟩⟩))]⟩,
    ⟨(some 9), none, .pick (.tmp 6) (.tmp 8) (.const (.bool false))⟩,
    ⟨(some 2), none, .mv (.tmp 9)⟩])
  (.ret))
theorem h_spec_l3Key : (Tryz.prog.funcs[n_spec_l3Key]?).bind (fun fn => fn.body.bind (comp Tryz.prog fn.ntmps)) = some (AS.strip c_spec_l3Key) := by kernel_rfl
theorem r_spec_l3Key : (Tryz.prog.funcs[n_spec_l3Key]?).map (fun fn => (fn.results.toList, fn.ntmps)) = some ([.tmp 2], 10) := by kernel_rfl
-- 75 loop.example/g00850/spec.l3Val
abbrev n_spec_l3Val : Nat := 75
def c_spec_l3Val : AS :=
  .seq (.ops [⟨(some 2), none, .mv (.const (.bool false))⟩])
  (.seq (.ops [⟨(some 3), none, .mv (.tmp 0)⟩,
    ⟨(some 4), none, .lent (.tmp 3)⟩,
    ⟨(some 5), none, .bin .leq (.tmp 4) (.const (.int .i64 24))⟩,
    ⟨(some 6), none, .mv (.tmp 5)⟩,
    ⟨(some 7), some (6, true), .mv (.tmp 0)⟩,
    ⟨(some 8), some (6, true), .call 95 [(.tmp 7), (.const (.string ⟨⟨[46, 45, 44, 95]⟩⟩))]⟩,
    ⟨(some 9), none, .pick (.tmp 6) (.tmp 8) (.const (.bool false))⟩,
    ⟨(some 2), none, .mv (.tmp 9)⟩])
  (.ret))
theorem h_spec_l3Val : (Tryz.prog.funcs[n_spec_l3Val]?).bind (fun fn => fn.body.bind (comp Tryz.prog fn.ntmps)) = some (AS.strip c_spec_l3Val) := by kernel_rfl
theorem r_spec_l3Val : (Tryz.prog.funcs[n_spec_l3Val]?).map (fun fn => (fn.results.toList, fn.ntmps)) = some ([.tmp 2], 10) := by kernel_rfl
-- 76 loop.example/g00850/spec.l3Write
abbrev n_spec_l3Write : Nat := 76
def c_spec_l3Write : AS :=
  .seq (.ops [⟨(some 6), none, .mv (.const (.bool false))⟩])
  (.seq (.ops [⟨(some 7), none, .mv (.tmp 0)⟩,
    ⟨(some 8), none, .call 74 [(.tmp 7)]⟩,
    ⟨(some 9), none, .mv (.tmp 8)⟩,
    ⟨(some 10), some (9, true), .mv (.tmp 1)⟩,
    ⟨(some 11), some (9, true), .call 75 [(.tmp 10)]⟩,
    ⟨(some 12), none, .pick (.tmp 9) (.tmp 11) (.const (.bool false))⟩,
    ⟨(some 13), none, .mv (.tmp 12)⟩,
    ⟨(some 14), some (13, true), .mv (.tmp 2)⟩,
    ⟨(some 15), some (13, true), .not (.tmp 14)⟩,
    ⟨(some 16), some (13, true), .mv (.tmp 15)⟩,
    ⟨(some 17), some (16, false), .mv (.tmp 1)⟩,
    ⟨(some 18), some (16, false), .bin .eql (.tmp 17) (.const (.string ⟨⟨[]⟩⟩))⟩,
    ⟨(some 19), some (13, true), .pick (.tmp 16) (.const (.bool true)) (.tmp 18)⟩,
    ⟨(some 20), none, .pick (.tmp 13) (.tmp 19) (.const (.bool false))⟩,
    ⟨(some 6), none, .mv (.tmp 20)⟩])
  (.ret))
theorem h_spec_l3Write : (Tryz.prog.funcs[n_spec_l3Write]?).bind (fun fn => fn.body.bind (comp Tryz.prog fn.ntmps)) = some (AS.strip c_spec_l3Write) := by kernel_rfl
theorem r_spec_l3Write : (Tryz.prog.funcs[n_spec_l3Write]?).map (fun fn => (fn.results.toList, fn.ntmps)) = some ([.tmp 6], 21) := by kernel_rfl
-- 77 loop.example/g00850/spec.l5Tell
abbrev n_spec_l5Tell : Nat := 77
def c_spec_l5Tell_l1 : AS :=
  .seq (.ops [⟨(some 10), none, .bin .lss (.tmp 9) (.tmp 8)⟩])
  (.seq (.cond (.tmp 10) (.skip) (.exit 0))
  (.seq (.block 1 (.seq (.ops [⟨(some 11), none, .ia 3 (.tmp 7) (.tmp 9)⟩,
    ⟨(some 12), none, .load (some 3) (.tmp 11)⟩,
    ⟨(some 6), none, .alloc (.agg #[.string ⟨⟨[]⟩⟩, .string ⟨⟨[]⟩⟩, .bool false])⟩,
    ⟨none, none, .store 3 (.tmp 6) (.tmp 12)⟩])
  (.seq (.ops [⟨(some 13), none, .fa 0 (.tmp 6)⟩,
    ⟨(some 14), none, .load none (.tmp 13)⟩,
    ⟨(some 15), none, .mv (.tmp 1)⟩,
    ⟨(some 16), none, .bin .eql (.tmp 14) (.tmp 15)⟩])
  (.cond (.tmp 16) (.seq (.ops [⟨(some 17), none, .mv (.tmp 1)⟩,
    ⟨(some 18), none, .fa 1 (.tmp 6)⟩,
    ⟨(some 19), none, .load none (.tmp 18)⟩,
    ⟨(some 20), none, .build (.agg #[.string ⟨⟨[]⟩⟩, .string ⟨⟨[]⟩⟩, .bool false]) [(0, 1, (.tmp 17)), (1, 1, (.tmp 19)), (2, 1, (.const (.bool true)))]⟩,
    ⟨none, none, .store 3 (.tmp 4) (.tmp 20)⟩])
  (.ret)) (.skip)))))
  (.kept [1, 4, 7, 8, 9] (.ops [⟨(some 21), none, .bin .add (.tmp 9) (.const (.int .i64 1))⟩,
    ⟨(some 9), none, .mv (.tmp 21)⟩]))))
def c_spec_l5Tell : AS :=
  .seq (.ops [⟨(some 4), none, .alloc (.agg #[.string ⟨⟨[]⟩⟩, .string ⟨⟨[]⟩⟩, .bool false])⟩])
  (.seq (.seq (.ops [⟨(some 7), none, .mv (.tmp 0)⟩,
    ⟨(some 8), none, .lens (.tmp 7)⟩,
    ⟨(some 9), none, .mv (.const (.int .i64 0))⟩])
  (.block 0 (.loop 2 [(1, 0), (4, 0), (7, 0), (8, 0), (9, 0)] c_spec_l5Tell_l1)))
  (.kept [1, 4] (.seq (.ops [⟨(some 22), none, .mv (.tmp 1)⟩,
    ⟨(some 23), none, .build (.agg #[.string ⟨⟨[]⟩⟩, .string ⟨⟨[]⟩⟩, .bool false]) [(0, 1, (.tmp 22))]⟩,
    ⟨none, none, .store 3 (.tmp 4) (.tmp 23)⟩])
  (.ret))))
theorem h_spec_l5Tell : (Tryz.prog.funcs[n_spec_l5Tell]?).bind (fun fn => fn.body.bind (comp Tryz.prog fn.ntmps)) = some (AS.strip c_spec_l5Tell) := by kernel_rfl
theorem r_spec_l5Tell : (Tryz.prog.funcs[n_spec_l5Tell]?).map (fun fn => (fn.results.toList, fn.ntmps)) = some ([.cell 4 76], 24) := by kernel_rfl
-- 78 loop.example/g00850/spec.l5PutW
abbrev n_spec_l5PutW : Nat := 78
def c_spec_l5PutW_l1 : AS :=
  .seq (.seq (.dops [⟨(some 10), none, .mv (.tmp 5)⟩,
    ⟨(some 11), none, .bin .gtr (.tmp 10) (.const (.int .i64 0))⟩,
    ⟨(some 12), none, .mv (.tmp 11)⟩,
    ⟨(some 13), some (12, true), .mv (.tmp 0)⟩,
    ⟨(some 14), some (12, true), .mv (.tmp 5)⟩,
    ⟨(some 15), some (12, true), .bin .sub (.tmp 14) (.const (.int .i64 1))⟩,
    ⟨(some 16), some (12, true), .ia 3 (.tmp 13) (.tmp 15)⟩,
    ⟨(some 17), some (12, true), .fa 0 (.tmp 16)⟩,
    ⟨(some 18), some (12, true), .load none (.tmp 17)⟩,
    ⟨(some 19), some (12, true), .fa 0 (.tmp 3)⟩,
    ⟨(some 20), some (12, true), .load none (.tmp 19)⟩,
    ⟨(some 21), some (12, true), .bin .gtr (.tmp 18) (.tmp 20)⟩,
    ⟨(some 22), none, .pick (.tmp 12) (.tmp 21) (.const (.bool false))⟩])
  (.kept [0, 3, 5, 22] (.cond (.tmp 22) (.skip) (.exit 0))))
  (.kept [0, 3, 5] (.block 1 (.ops [⟨(some 23), none, .mv (.tmp 5)⟩,
    ⟨(some 24), none, .bin .sub (.tmp 23) (.const (.int .i64 1))⟩,
    ⟨(some 5), none, .mv (.tmp 24)⟩])))
def c_spec_l5PutW : AS :=
  .seq (.ops [⟨(some 3), none, .box (.tmp 1)⟩,
    ⟨(some 4), none, .mv (.const (.slice none 0 0))⟩])
  (.seq (.ops [⟨(some 8), none, .mv (.tmp 0)⟩,
    ⟨(some 9), none, .lens (.tmp 8)⟩,
    ⟨(some 5), none, .mv (.tmp 9)⟩])
  (.seq (.block 0 (.loop 2 [(0, 0), (3, 0), (5, 0)] c_spec_l5PutW_l1))
  (.kept [0, 3, 5] (.seq (.seq (.dops [⟨(some 25), none, .mv (.tmp 5)⟩,
    ⟨(some 26), none, .bin .gtr (.tmp 25) (.const (.int .i64 0))⟩,
    ⟨(some 27), none, .mv (.tmp 26)⟩,
    ⟨(some 28), some (27, true), .mv (.tmp 0)⟩,
    ⟨(some 29), some (27, true), .mv (.tmp 5)⟩,
    ⟨(some 30), some (27, true), .bin .sub (.tmp 29) (.const (.int .i64 1))⟩,
    ⟨(some 31), some (27, true), .ia 3 (.tmp 28) (.tmp 30)⟩,
    ⟨(some 32), some (27, true), .fa 0 (.tmp 31)⟩,
    ⟨(some 33), some (27, true), .load none (.tmp 32)⟩,
    ⟨(some 34), some (27, true), .fa 0 (.tmp 3)⟩,
    ⟨(some 35), some (27, true), .load none (.tmp 34)⟩,
    ⟨(some 36), some (27, true), .bin .eql (.tmp 33) (.tmp 35)⟩,
    ⟨(some 37), none, .pick (.tmp 27) (.tmp 36) (.const (.bool false))⟩])
  (.kept [0, 3, 5, 37] (.cond (.tmp 37) (.seq (.ops [⟨(some 38), none, .bsl 3 (.agg #[.string ⟨⟨[]⟩⟩, .string ⟨⟨[]⟩⟩, .bool false]) 0 []⟩,
    ⟨(some 39), none, .mv (.tmp 0)⟩,
    ⟨(some 40), none, .app 3 40 (.agg #[.string ⟨⟨[]⟩⟩, .string ⟨⟨[]⟩⟩, .bool false]) (.tmp 38) (.tmp 39)⟩,
    ⟨(some 6), none, .mv (.tmp 40)⟩])
  (.seq (.ops [⟨(some 41), none, .mv (.tmp 6)⟩,
    ⟨(some 42), none, .mv (.tmp 5)⟩,
    ⟨(some 43), none, .bin .sub (.tmp 42) (.const (.int .i64 1))⟩,
    ⟨(some 44), none, .load (some 3) (.tmp 3)⟩,
    ⟨(some 45), none, .ia 3 (.tmp 41) (.tmp 43)⟩,
    ⟨none, none, .store 3 (.tmp 45) (.tmp 44)⟩])
  (.seq (.ops [⟨(some 46), none, .mv (.tmp 6)⟩,
    ⟨(some 4), none, .mv (.tmp 46)⟩])
  (.ret)))) (.skip))))
  (.kept [0, 3, 5] (.seq (.ops [⟨(some 47), none, .bsl 3 (.agg #[.string ⟨⟨[]⟩⟩, .string ⟨⟨[]⟩⟩, .bool false]) 0 []⟩,
    ⟨(some 48), none, .mv (.tmp 0)⟩,
    ⟨(some 49), none, .mv (.tmp 5)⟩,
    ⟨(some 50), none, .sls 3 (.tmp 48) (some (.tmp 49)) none none⟩,
    ⟨(some 51), none, .app 3 40 (.agg #[.string ⟨⟨[]⟩⟩, .string ⟨⟨[]⟩⟩, .bool false]) (.tmp 47) (.tmp 50)⟩,
    ⟨(some 7), none, .mv (.tmp 51)⟩])
  (.seq (.tops [(4, 0)] (.rd ⟨(some 53), none, .mv (.tmp 0)⟩ (.rd ⟨(some 54), none, .mv (.tmp 5)⟩ (.rd ⟨(some 55), none, .sls 3 (.tmp 53) none (some (.tmp 54)) none⟩ (.rd ⟨(some 57), none, .load (some 3) (.tmp 3)⟩ (.rd ⟨(some 60), none, .mv (.tmp 7)⟩ (.alt [⟨(some 60), none, .mv (.tmp 7)⟩, ⟨(some 57), none, .load (some 3) (.tmp 3)⟩, ⟨(some 55), none, .sls 3 (.tmp 53) none (some (.tmp 54)) none⟩, ⟨(some 54), none, .mv (.tmp 5)⟩, ⟨(some 53), none, .mv (.tmp 0)⟩] ⟨(some 52), none, .bsl 3 (.agg #[.string ⟨⟨[]⟩⟩, .string ⟨⟨[]⟩⟩, .bool false]) 0 []⟩
    (.alt [⟨(some 60), none, .mv (.tmp 7)⟩, ⟨(some 57), none, .load (some 3) (.tmp 3)⟩] ⟨(some 56), none, .app 3 40 (.agg #[.string ⟨⟨[]⟩⟩, .string ⟨⟨[]⟩⟩, .bool false]) (.tmp 52) (.tmp 55)⟩
    (.alt [⟨(some 60), none, .mv (.tmp 7)⟩] ⟨(some 58), none, .bsl 3 (.agg #[.string ⟨⟨[]⟩⟩, .string ⟨⟨[]⟩⟩, .bool false]) 1 [(0, (.tmp 57))]⟩
    (.alt [⟨(some 60), none, .mv (.tmp 7)⟩] ⟨(some 59), none, .app 3 40 (.agg #[.string ⟨⟨[]⟩⟩, .string ⟨⟨[]⟩⟩, .bool false]) (.tmp 56) (.tmp 58)⟩
    (.alt [] ⟨(some 61), none, .app 3 40 (.agg #[.string ⟨⟨[]⟩⟩, .string ⟨⟨[]⟩⟩, .bool false]) (.tmp 59) (.tmp 60)⟩
    (.rd ⟨(some 4), none, .mv (.tmp 61)⟩ (.done))
    (.none))
    (.none))
    (.none))
    (.alt [⟨(some 60), none, .mv (.tmp 7)⟩, ⟨(some 55), none, .sls 3 (.tmp 53) none (some (.tmp 54)) none⟩, ⟨(some 54), none, .mv (.tmp 5)⟩, ⟨(some 53), none, .mv (.tmp 0)⟩] ⟨(some 58), none, .bsl 3 (.agg #[.string ⟨⟨[]⟩⟩, .string ⟨⟨[]⟩⟩, .bool false]) 1 [(0, (.tmp 57))]⟩
    (.alt [⟨(some 60), none, .mv (.tmp 7)⟩] ⟨(some 56), none, .app 3 40 (.agg #[.string ⟨⟨[]⟩⟩, .string ⟨⟨[]⟩⟩, .bool false]) (.tmp 52) (.tmp 55)⟩
    (.alt [⟨(some 60), none, .mv (.tmp 7)⟩] ⟨(some 59), none, .app 3 40 (.agg #[.string ⟨⟨[]⟩⟩, .string ⟨⟨[]⟩⟩, .bool false]) (.tmp 56) (.tmp 58)⟩
    (.alt [] ⟨(some 61), none, .app 3 40 (.agg #[.string ⟨⟨[]⟩⟩, .string ⟨⟨[]⟩⟩, .bool false]) (.tmp 59) (.tmp 60)⟩
    (.rd ⟨(some 4), none, .mv (.tmp 61)⟩ (.done))
    (.none))
    (.none))
    (.none))
    (.none)))
    (.alt [⟨(some 60), none, .mv (.tmp 7)⟩, ⟨(some 55), none, .sls 3 (.tmp 53) none (some (.tmp 54)) none⟩, ⟨(some 54), none, .mv (.tmp 5)⟩, ⟨(some 53), none, .mv (.tmp 0)⟩] ⟨(some 58), none, .bsl 3 (.agg #[.string ⟨⟨[]⟩⟩, .string ⟨⟨[]⟩⟩, .bool false]) 1 [(0, (.tmp 57))]⟩
    (.alt [⟨(some 60), none, .mv (.tmp 7)⟩, ⟨(some 55), none, .sls 3 (.tmp 53) none (some (.tmp 54)) none⟩, ⟨(some 54), none, .mv (.tmp 5)⟩, ⟨(some 53), none, .mv (.tmp 0)⟩] ⟨(some 52), none, .bsl 3 (.agg #[.string ⟨⟨[]⟩⟩, .string ⟨⟨[]⟩⟩, .bool false]) 0 []⟩
    (.alt [⟨(some 60), none, .mv (.tmp 7)⟩] ⟨(some 56), none, .app 3 40 (.agg #[.string ⟨⟨[]⟩⟩, .string ⟨⟨[]⟩⟩, .bool false]) (.tmp 52) (.tmp 55)⟩
    (.alt [⟨(some 60), none, .mv (.tmp 7)⟩] ⟨(some 59), none, .app 3 40 (.agg #[.string ⟨⟨[]⟩⟩, .string ⟨⟨[]⟩⟩, .bool false]) (.tmp 56) (.tmp 58)⟩
    (.alt [] ⟨(some 61), none, .app 3 40 (.agg #[.string ⟨⟨[]⟩⟩, .string ⟨⟨[]⟩⟩, .bool false]) (.tmp 59) (.tmp 60)⟩
    (.rd ⟨(some 4), none, .mv (.tmp 61)⟩ (.done))
    (.none))
    (.none))
    (.none))
    (.none))
    (.none)))))))))
  (.ret))))))))
theorem h_spec_l5PutW : (Tryz.prog.funcs[n_spec_l5PutW]?).bind (fun fn => fn.body.bind (comp Tryz.prog fn.ntmps)) = some (AS.strip c_spec_l5PutW) := by kernel_rfl
theorem r_spec_l5PutW : (Tryz.prog.funcs[n_spec_l5PutW]?).map (fun fn => (fn.results.toList, fn.ntmps)) = some ([.tmp 4], 62) := by kernel_rfl
-- 79 loop.example/g00850/impl.GoodKey
abbrev n_impl_GoodKey : Nat := 79
def c_impl_GoodKey : AS :=
  .seq (.ops [⟨(some 2), none, .mv (.const (.bool false))⟩])
  (.seq (.ops [⟨(some 3), none, .mv (.tmp 0)⟩,
    ⟨(some 4), none, .lent (.tmp 3)⟩,
    ⟨(some 5), none, .call 61 [(.tmp 4), (.const (.int .i64 1)), (.const (.int .i64 12))]⟩,
    ⟨(some 6), none, .mv (.tmp 5)⟩,
    ⟨(some 7), some (6, true), .mv (.tmp 0)⟩,
    ⟨(some 8), some (6, true), .call 96 [(.tmp 7), (.const (.string ⟨⟨[46, 47]⟩⟩))]⟩,
    ⟨(some 9), none, .pick (.tmp 6) (.tmp 8) (.const (.bool false))⟩,
    ⟨(some 2), none, .mv (.tmp 9)⟩])
  (.ret))
theorem h_impl_GoodKey : (Tryz.prog.funcs[n_impl_GoodKey]?).bind (fun fn => fn.body.bind (comp Tryz.prog fn.ntmps)) = some (AS.strip c_impl_GoodKey) := by kernel_rfl
theorem r_impl_GoodKey : (Tryz.prog.funcs[n_impl_GoodKey]?).map (fun fn => (fn.results.toList, fn.ntmps)) = some ([.tmp 2], 10) := by kernel_rfl
-- 80 loop.example/g00850/impl.isStored
abbrev n_impl_isStored : Nat := 80
def c_impl_isStored : AS :=
  .seq (.ops [⟨(some 4), none, .mv (.const (.bool false))⟩])
  (.seq (.ops [⟨(some 5), none, .mv (.tmp 0)⟩,
    ⟨(some 6), none, .call 97 [(.tmp 5)]⟩,
    ⟨(some 7), none, .mv (.tmp 6)⟩,
    ⟨(some 8), some (7, true), .mv (.tmp 1)⟩,
    ⟨(some 9), some (7, true), .mv (.tmp 8)⟩,
    ⟨(some 10), some (9, true), .mv (.tmp 0)⟩,
    ⟨(some 11), some (9, true), .bin .neq (.tmp 10) (.const (.string ⟨⟨[]⟩⟩))⟩,
    ⟨(some 12), some (7, true), .pick (.tmp 9) (.tmp 11) (.const (.bool false))⟩,
    ⟨(some 13), some (7, true), .not (.tmp 12)⟩,
    ⟨(some 14), none, .pick (.tmp 7) (.tmp 13) (.const (.bool false))⟩,
    ⟨(some 4), none, .mv (.tmp 14)⟩])
  (.ret))
theorem h_impl_isStored : (Tryz.prog.funcs[n_impl_isStored]?).bind (fun fn => fn.body.bind (comp Tryz.prog fn.ntmps)) = some (AS.strip c_impl_isStored) := by kernel_rfl
theorem r_impl_isStored : (Tryz.prog.funcs[n_impl_isStored]?).map (fun fn => (fn.results.toList, fn.ntmps)) = some ([.tmp 4], 15) := by kernel_rfl
-- 81 slices.ContainsFunc[[]loop.example/g00850/impl.Got,loop.example/g00850/impl.Got]
abbrev n_slices_ContainsFunc___impl_Got_impl_Got_ : Nat := 81
def c_slices_ContainsFunc___impl_Got_impl_Got_ : AS :=
  .seq (.ops [⟨(some 4), none, .mv (.const (.bool false))⟩])
  (.seq (.ops [⟨(some 5), none, .mv (.tmp 0)⟩,
    ⟨(some 6), none, .mv (.tmp 1)⟩,
    ⟨(some 7), none, .call 98 [(.tmp 5), (.tmp 6)]⟩,
    ⟨(some 8), none, .bin .geq (.tmp 7) (.const (.int .i64 0))⟩,
    ⟨(some 4), none, .mv (.tmp 8)⟩])
  (.ret))
theorem h_slices_ContainsFunc___impl_Got_impl_Got_ : (Tryz.prog.funcs[n_slices_ContainsFunc___impl_Got_impl_Got_]?).bind (fun fn => fn.body.bind (comp Tryz.prog fn.ntmps)) = some (AS.strip c_slices_ContainsFunc___impl_Got_impl_Got_) := by kernel_rfl
theorem r_slices_ContainsFunc___impl_Got_impl_Got_ : (Tryz.prog.funcs[n_slices_ContainsFunc___impl_Got_impl_Got_]?).map (fun fn => (fn.results.toList, fn.ntmps)) = some ([.tmp 4], 9) := by kernel_rfl
-- 82 loop.example/g00850/impl.areGot$1
abbrev n_impl_areGot_1 : Nat := 82
def c_impl_areGot_1 : AS :=
  .seq (.ops [⟨(some 2), none, .box (.tmp 0)⟩,
    ⟨(some 3), none, .mv (.const (.bool false))⟩])
  (.seq (.ops [⟨(some 4), none, .fa 0 (.tmp 2)⟩,
    ⟨(some 5), none, .load none (.tmp 4)⟩,
    ⟨(some 6), none, .fa 0 (.tmp 1)⟩,
    ⟨(some 7), none, .load none (.tmp 6)⟩,
    ⟨(some 8), none, .bin .eql (.tmp 5) (.tmp 7)⟩,
    ⟨(some 3), none, .mv (.tmp 8)⟩])
  (.ret))
theorem h_impl_areGot_1 : (Tryz.prog.funcs[n_impl_areGot_1]?).bind (fun fn => fn.body.bind (comp Tryz.prog fn.ntmps)) = some (AS.strip c_impl_areGot_1) := by kernel_rfl
theorem r_impl_areGot_1 : (Tryz.prog.funcs[n_impl_areGot_1]?).map (fun fn => (fn.results.toList, fn.ntmps)) = some ([.tmp 3], 9) := by kernel_rfl
-- 83 loop.example/g00850/impl.areRising
abbrev n_impl_areRising : Nat := 83
def c_impl_areRising_l1 : AS :=
  .seq (.ops [⟨(some 8), none, .bin .lss (.tmp 7) (.tmp 6)⟩])
  (.seq (.cond (.tmp 8) (.skip) (.exit 0))
  (.seq (.block 1 (.seq (.ops [⟨(some 9), none, .mv (.tmp 7)⟩,
    ⟨(some 10), none, .ia 1 (.tmp 5) (.tmp 7)⟩,
    ⟨(some 11), none, .load none (.tmp 10)⟩,
    ⟨(some 3), none, .mv (.tmp 9)⟩,
    ⟨(some 4), none, .mv (.tmp 11)⟩])
  (.seq (.ops [⟨(some 12), none, .mv (.tmp 4)⟩,
    ⟨(some 13), none, .call 79 [(.tmp 12)]⟩,
    ⟨(some 14), none, .not (.tmp 13)⟩,
    ⟨(some 15), none, .mv (.tmp 14)⟩,
    ⟨(some 16), some (15, false), .mv (.tmp 3)⟩,
    ⟨(some 17), some (15, false), .bin .gtr (.tmp 16) (.const (.int .i64 0))⟩,
    ⟨(some 18), some (15, false), .mv (.tmp 17)⟩,
    ⟨(some 19), some (18, true), .mv (.tmp 4)⟩,
    ⟨(some 20), some (18, true), .mv (.tmp 0)⟩,
    ⟨(some 21), some (18, true), .mv (.tmp 3)⟩,
    ⟨(some 22), some (18, true), .bin .sub (.tmp 21) (.const (.int .i64 1))⟩,
    ⟨(some 23), some (18, true), .ia 1 (.tmp 20) (.tmp 22)⟩,
    ⟨(some 24), some (18, true), .load none (.tmp 23)⟩,
    ⟨(some 25), some (18, true), .bin .leq (.tmp 19) (.tmp 24)⟩,
    ⟨(some 26), some (15, false), .pick (.tmp 18) (.tmp 25) (.const (.bool false))⟩,
    ⟨(some 27), none, .pick (.tmp 15) (.const (.bool true)) (.tmp 26)⟩])
  (.kept [0, 5, 6, 7, 27] (.cond (.tmp 27) (.seq (.ops [⟨(some 2), none, .mv (.const (.bool false))⟩])
  (.ret)) (.skip))))))
  (.kept [0, 5, 6, 7] (.ops [⟨(some 28), none, .bin .add (.tmp 7) (.const (.int .i64 1))⟩,
    ⟨(some 7), none, .mv (.tmp 28)⟩]))))
def c_impl_areRising : AS :=
  .seq (.ops [⟨(some 2), none, .mv (.const (.bool false))⟩])
  (.seq (.seq (.ops [⟨(some 5), none, .mv (.tmp 0)⟩,
    ⟨(some 6), none, .lens (.tmp 5)⟩,
    ⟨(some 7), none, .mv (.const (.int .i64 0))⟩])
  (.block 0 (.loop 1 [(0, 0), (5, 0), (6, 0), (7, 0)] c_impl_areRising_l1)))
  (.kept [] (.seq (.ops [⟨(some 2), none, .mv (.const (.bool true))⟩])
  (.ret))))
theorem h_impl_areRising : (Tryz.prog.funcs[n_impl_areRising]?).bind (fun fn => fn.body.bind (comp Tryz.prog fn.ntmps)) = some (AS.strip c_impl_areRising) := by kernel_rfl
theorem r_impl_areRising : (Tryz.prog.funcs[n_impl_areRising]?).map (fun fn => (fn.results.toList, fn.ntmps)) = some ([.tmp 2], 29) := by kernel_rfl
-- 84 loop.example/g00850/impl.writeKeys
abbrev n_impl_writeKeys : Nat := 84
def c_impl_writeKeys_l1 : AS :=
  .seq (.ops [⟨(some 10), none, .bin .lss (.tmp 9) (.tmp 8)⟩])
  (.seq (.cond (.tmp 10) (.skip) (.exit 0))
  (.seq (.block 1 (.seq (.ops [⟨(some 11), none, .ia 3 (.tmp 7) (.tmp 9)⟩,
    ⟨(some 12), none, .load (some 3) (.tmp 11)⟩,
    ⟨(some 5), none, .alloc (.agg #[.string ⟨⟨[]⟩⟩, .string ⟨⟨[]⟩⟩, .bool false])⟩,
    ⟨none, none, .store 3 (.tmp 5) (.tmp 12)⟩])
  (.ops [⟨(some 13), none, .mv (.tmp 3)⟩,
    ⟨(some 14), none, .fa 0 (.tmp 5)⟩,
    ⟨(some 15), none, .load none (.tmp 14)⟩,
    ⟨(some 16), none, .bsl 1 (.string ⟨⟨[]⟩⟩) 1 [(0, (.tmp 15))]⟩,
    ⟨(some 17), none, .app 1 16 (.string ⟨⟨[]⟩⟩) (.tmp 13) (.tmp 16)⟩,
    ⟨(some 3), none, .mv (.tmp 17)⟩])))
  (.kept [3, 7, 8, 9] (.ops [⟨(some 18), none, .bin .add (.tmp 9) (.const (.int .i64 1))⟩,
    ⟨(some 9), none, .mv (.tmp 18)⟩]))))
def c_impl_writeKeys : AS :=
  .seq (.ops [⟨(some 2), none, .mv (.const (.slice none 0 0))⟩])
  (.seq (.ops [⟨(some 6), none, .bsl 1 (.string ⟨⟨[]⟩⟩) 0 []⟩,
    ⟨(some 3), none, .mv (.tmp 6)⟩])
  (.seq (.seq (.ops [⟨(some 7), none, .mv (.tmp 0)⟩,
    ⟨(some 8), none, .lens (.tmp 7)⟩,
    ⟨(some 9), none, .mv (.const (.int .i64 0))⟩])
  (.block 0 (.loop 1 [(3, 1), (7, 0), (8, 0), (9, 0)] c_impl_writeKeys_l1)))
  (.kept [3] (.seq (.ops [⟨(some 19), none, .mv (.tmp 3)⟩,
    ⟨(some 2), none, .mv (.tmp 19)⟩])
  (.ret)))))
theorem h_impl_writeKeys : (Tryz.prog.funcs[n_impl_writeKeys]?).bind (fun fn => fn.body.bind (comp Tryz.prog fn.ntmps)) = some (AS.strip c_impl_writeKeys) := by kernel_rfl
theorem r_impl_writeKeys : (Tryz.prog.funcs[n_impl_writeKeys]?).map (fun fn => (fn.results.toList, fn.ntmps)) = some ([.tmp 2], 20) := by kernel_rfl
-- 85 slices.ContainsFunc[[]loop.example/g00850/impl.Write,loop.example/g00850/impl.Write]
abbrev n_slices_ContainsFunc___impl_Write_impl_Write_ : Nat := 85
def c_slices_ContainsFunc___impl_Write_impl_Write_ : AS :=
  .seq (.ops [⟨(some 4), none, .mv (.const (.bool false))⟩])
  (.seq (.ops [⟨(some 5), none, .mv (.tmp 0)⟩,
    ⟨(some 6), none, .mv (.tmp 1)⟩,
    ⟨(some 7), none, .call 99 [(.tmp 5), (.tmp 6)]⟩,
    ⟨(some 8), none, .bin .geq (.tmp 7) (.const (.int .i64 0))⟩,
    ⟨(some 4), none, .mv (.tmp 8)⟩])
  (.ret))
theorem h_slices_ContainsFunc___impl_Write_impl_Write_ : (Tryz.prog.funcs[n_slices_ContainsFunc___impl_Write_impl_Write_]?).bind (fun fn => fn.body.bind (comp Tryz.prog fn.ntmps)) = some (AS.strip c_slices_ContainsFunc___impl_Write_impl_Write_) := by kernel_rfl
theorem r_slices_ContainsFunc___impl_Write_impl_Write_ : (Tryz.prog.funcs[n_slices_ContainsFunc___impl_Write_impl_Write_]?).map (fun fn => (fn.results.toList, fn.ntmps)) = some ([.tmp 4], 9) := by kernel_rfl
-- 86 loop.example/g00850/impl.GoodWrites$1
abbrev n_impl_GoodWrites_1 : Nat := 86
def c_impl_GoodWrites_1 : AS :=
  .seq (.ops [⟨(some 1), none, .box (.tmp 0)⟩,
    ⟨(some 2), none, .mv (.const (.bool false))⟩])
  (.seq (.ops [⟨(some 3), none, .fa 1 (.tmp 1)⟩,
    ⟨(some 4), none, .load none (.tmp 3)⟩,
    ⟨(some 5), none, .fa 2 (.tmp 1)⟩,
    ⟨(some 6), none, .load none (.tmp 5)⟩,
    ⟨(some 7), none, .call 80 [(.tmp 4), (.tmp 6)]⟩,
    ⟨(some 8), none, .not (.tmp 7)⟩,
    ⟨(some 2), none, .mv (.tmp 8)⟩])
  (.ret))
theorem h_impl_GoodWrites_1 : (Tryz.prog.funcs[n_impl_GoodWrites_1]?).bind (fun fn => fn.body.bind (comp Tryz.prog fn.ntmps)) = some (AS.strip c_impl_GoodWrites_1) := by kernel_rfl
theorem r_impl_GoodWrites_1 : (Tryz.prog.funcs[n_impl_GoodWrites_1]?).map (fun fn => (fn.results.toList, fn.ntmps)) = some ([.tmp 2], 9) := by kernel_rfl
-- 87 (loop.example/g00850/impl.Deed).confirms$1
abbrev n_impl_Deed_confirms_1 : Nat := 87
def c_impl_Deed_confirms_1 : AS :=
  .seq (.ops [⟨(some 2), none, .box (.tmp 0)⟩,
    ⟨(some 3), none, .mv (.const (.bool false))⟩])
  (.seq (.rops [(none, ⟨(some 4), none, .load none (.tmp 1)⟩),
    (none, ⟨(some 5), none, .fa 0 (.tmp 2)⟩),
    (none, ⟨(some 6), none, .load none (.tmp 5)⟩),
    (none, ⟨(some 8), none, .load (some 3) (.tmp 2)⟩),
    (some [⟨(some 8), none, .load (some 3) (.tmp 2)⟩], ⟨(some 7), none, .call 88 [(.tmp 4), (.tmp 6)]⟩),
    (none, ⟨(some 9), none, .eqs true [(0, 2), (1, 2), (2, 1)] (.tmp 7) (.tmp 8)⟩),
    (none, ⟨(some 3), none, .mv (.tmp 9)⟩)])
  (.ret))
theorem h_impl_Deed_confirms_1 : (Tryz.prog.funcs[n_impl_Deed_confirms_1]?).bind (fun fn => fn.body.bind (comp Tryz.prog fn.ntmps)) = some (AS.strip c_impl_Deed_confirms_1) := by kernel_rfl
theorem r_impl_Deed_confirms_1 : (Tryz.prog.funcs[n_impl_Deed_confirms_1]?).map (fun fn => (fn.results.toList, fn.ntmps)) = some ([.tmp 3], 10) := by kernel_rfl
-- 88 loop.example/g00850/impl.gotOf
abbrev n_impl_gotOf : Nat := 88
def c_impl_gotOf : AS :=
  .seq (.ops [⟨(some 4), none, .alloc (.agg #[.string ⟨⟨[]⟩⟩, .string ⟨⟨[]⟩⟩, .bool false])⟩])
  (.seq (.ops [⟨(some 8), none, .mv (.tmp 0)⟩,
    ⟨(some 9), none, .mv (.tmp 1)⟩,
    ⟨(some 10), none, .call 100 [(.tmp 8), (.tmp 9)]⟩,
    ⟨(some 7), none, .mv (.tmp 10)⟩,
    ⟨(some 11), none, .ext 0 (.tmp 7)⟩,
    ⟨(some 12), none, .ext 1 (.tmp 7)⟩,
    ⟨(some 5), none, .mv (.tmp 11)⟩,
    ⟨(some 6), none, .mv (.tmp 12)⟩])
  (.kept [0, 1, 4, 5, 6] (.seq (.seq (.ops [⟨(some 13), none, .mv (.tmp 6)⟩,
    ⟨(some 14), none, .not (.tmp 13)⟩])
  (.cond (.tmp 14) (.seq (.ops [⟨(some 15), none, .mv (.tmp 1)⟩,
    ⟨(some 16), none, .build (.agg #[.string ⟨⟨[]⟩⟩, .string ⟨⟨[]⟩⟩, .bool false]) [(0, 1, (.tmp 15))]⟩,
    ⟨none, none, .store 3 (.tmp 4) (.tmp 16)⟩])
  (.ret)) (.skip)))
  (.seq (.ops [⟨(some 17), none, .mv (.tmp 1)⟩,
    ⟨(some 18), none, .mv (.tmp 0)⟩,
    ⟨(some 19), none, .mv (.tmp 5)⟩,
    ⟨(some 20), none, .ia 3 (.tmp 18) (.tmp 19)⟩,
    ⟨(some 21), none, .fa 1 (.tmp 20)⟩,
    ⟨(some 22), none, .load none (.tmp 21)⟩,
    ⟨(some 23), none, .build (.agg #[.string ⟨⟨[]⟩⟩, .string ⟨⟨[]⟩⟩, .bool false]) [(0, 1, (.tmp 17)), (1, 1, (.tmp 22)), (2, 1, (.const (.bool true)))]⟩,
    ⟨none, none, .store 3 (.tmp 4) (.tmp 23)⟩])
  (.ret)))))
theorem h_impl_gotOf : (Tryz.prog.funcs[n_impl_gotOf]?).bind (fun fn => fn.body.bind (comp Tryz.prog fn.ntmps)) = some (AS.strip c_impl_gotOf) := by kernel_rfl
theorem r_impl_gotOf : (Tryz.prog.funcs[n_impl_gotOf]?).map (fun fn => (fn.results.toList, fn.ntmps)) = some ([.cell 4 76], 24) := by kernel_rfl
-- 89 slices.Clone[[]loop.example/g00850/impl.Write,loop.example/g00850/impl.Write]
abbrev n_slices_Clone___impl_Write_impl_Write_ : Nat := 89
def c_slices_Clone___impl_Write_impl_Write_ : AS :=
  .seq (.ops [⟨(some 2), none, .mv (.const (.slice none 0 0))⟩])
  (.seq (.seq (.ops [⟨(some 3), none, .mv (.tmp 0)⟩,
    ⟨(some 4), none, .isn false (.tmp 3)⟩])
  (.cond (.tmp 4) (.seq (.ops [⟨(some 2), none, .mv (.const (.slice none 0 0))⟩])
  (.ret)) (.skip)))
  (.seq (.ops [⟨(some 5), none, .bsl 3 (.agg #[.string ⟨⟨[]⟩⟩, .string ⟨⟨[]⟩⟩, .bool false]) 0 []⟩,
    ⟨(some 6), none, .mv (.tmp 0)⟩,
    ⟨(some 7), none, .app 3 40 (.agg #[.string ⟨⟨[]⟩⟩, .string ⟨⟨[]⟩⟩, .bool false]) (.tmp 5) (.tmp 6)⟩,
    ⟨(some 2), none, .mv (.tmp 7)⟩])
  (.ret)))
theorem h_slices_Clone___impl_Write_impl_Write_ : (Tryz.prog.funcs[n_slices_Clone___impl_Write_impl_Write_]?).bind (fun fn => fn.body.bind (comp Tryz.prog fn.ntmps)) = some (AS.strip c_slices_Clone___impl_Write_impl_Write_) := by kernel_rfl
theorem r_slices_Clone___impl_Write_impl_Write_ : (Tryz.prog.funcs[n_slices_Clone___impl_Write_impl_Write_]?).map (fun fn => (fn.results.toList, fn.ntmps)) = some ([.tmp 2], 8) := by kernel_rfl
-- 90 loop.example/g00850/impl.putWrite
abbrev n_impl_putWrite : Nat := 90
def c_impl_putWrite : AS :=
  .seq (.ops [⟨(some 3), none, .box (.tmp 1)⟩,
    ⟨(some 4), none, .mv (.const (.slice none 0 0))⟩])
  (.seq (.ops [⟨(some 8), none, .mv (.tmp 0)⟩,
    ⟨(some 9), none, .fa 0 (.tmp 3)⟩,
    ⟨(some 10), none, .load none (.tmp 9)⟩,
    ⟨(some 11), none, .call 100 [(.tmp 8), (.tmp 10)]⟩,
    ⟨(some 7), none, .mv (.tmp 11)⟩,
    ⟨(some 12), none, .ext 0 (.tmp 7)⟩,
    ⟨(some 13), none, .ext 1 (.tmp 7)⟩,
    ⟨(some 5), none, .mv (.tmp 12)⟩,
    ⟨(some 6), none, .mv (.tmp 13)⟩])
  (.kept [0, 3, 5, 6] (.seq (.seq (.ops [⟨(some 14), none, .mv (.tmp 6)⟩])
  (.cond (.tmp 14) (.seq (.ops [⟨(some 15), none, .mv (.tmp 0)⟩,
    ⟨(some 16), none, .mv (.tmp 5)⟩,
    ⟨(some 17), none, .load (some 3) (.tmp 3)⟩,
    ⟨(some 18), none, .ia 3 (.tmp 15) (.tmp 16)⟩,
    ⟨none, none, .store 3 (.tmp 18) (.tmp 17)⟩])
  (.seq (.ops [⟨(some 19), none, .mv (.tmp 0)⟩,
    ⟨(some 4), none, .mv (.tmp 19)⟩])
  (.ret))) (.skip)))
  (.kept [0, 3, 5] (.seq (.ops [⟨(some 20), none, .mv (.tmp 0)⟩,
    ⟨(some 21), none, .mv (.tmp 5)⟩,
    ⟨(some 22), none, .load (some 3) (.tmp 3)⟩,
    ⟨(some 23), none, .bsl 3 (.agg #[.string ⟨⟨[]⟩⟩, .string ⟨⟨[]⟩⟩, .bool false]) 1 [(0, (.tmp 22))]⟩,
    ⟨(some 24), none, .call 101 [(.tmp 20), (.tmp 21), (.tmp 23)]⟩,
    ⟨(some 4), none, .mv (.tmp 24)⟩])
  (.ret))))))
theorem h_impl_putWrite : (Tryz.prog.funcs[n_impl_putWrite]?).bind (fun fn => fn.body.bind (comp Tryz.prog fn.ntmps)) = some (AS.strip c_impl_putWrite) := by kernel_rfl
theorem r_impl_putWrite : (Tryz.prog.funcs[n_impl_putWrite]?).map (fun fn => (fn.results.toList, fn.ntmps)) = some ([.tmp 4], 25) := by kernel_rfl
-- 91 slices.DeleteFunc[[]loop.example/g00850/impl.Write,loop.example/g00850/impl.Write]
abbrev n_slices_DeleteFunc___impl_Write_impl_Write_ : Nat := 91
def c_slices_DeleteFunc___impl_Write_impl_Write__l1 : AS :=
  .seq (.seq (.ops [⟨(some 16), none, .mv (.tmp 6)⟩,
    ⟨(some 17), none, .mv (.tmp 0)⟩,
    ⟨(some 18), none, .lens (.tmp 17)⟩,
    ⟨(some 19), none, .bin .lss (.tmp 16) (.tmp 18)⟩])
  (.cond (.tmp 19) (.skip) (.exit 0)))
  (.seq (.block 1 (.seq (.ops [⟨(some 22), none, .mv (.tmp 0)⟩,
    ⟨(some 23), none, .mv (.tmp 6)⟩,
    ⟨(some 24), none, .ia 3 (.tmp 22) (.tmp 23)⟩,
    ⟨(some 25), none, .load (some 3) (.tmp 24)⟩,
    ⟨(some 7), none, .alloc (.agg #[.string ⟨⟨[]⟩⟩, .string ⟨⟨[]⟩⟩, .bool false])⟩,
    ⟨none, none, .store 3 (.tmp 7) (.tmp 25)⟩])
  (.seq (.ops [⟨(some 26), none, .mv (.tmp 1)⟩,
    ⟨(some 27), none, .load (some 3) (.tmp 7)⟩,
    ⟨(some 28), none, .callv (.tmp 26) [(.tmp 27)]⟩,
    ⟨(some 29), none, .not (.tmp 28)⟩])
  (.cond (.tmp 29) (.seq (.ops [⟨(some 30), none, .mv (.tmp 0)⟩,
    ⟨(some 31), none, .mv (.tmp 5)⟩,
    ⟨(some 32), none, .load (some 3) (.tmp 7)⟩,
    ⟨(some 33), none, .ia 3 (.tmp 30) (.tmp 31)⟩,
    ⟨none, none, .store 3 (.tmp 33) (.tmp 32)⟩])
  (.ops [⟨(some 34), none, .mv (.tmp 5)⟩,
    ⟨(some 35), none, .bin .add (.tmp 34) (.const (.int .i64 1))⟩,
    ⟨(some 5), none, .mv (.tmp 35)⟩])) (.skip)))))
  (.kept [0, 1, 5, 6] (.ops [⟨(some 20), none, .mv (.tmp 6)⟩,
    ⟨(some 21), none, .bin .add (.tmp 20) (.const (.int .i64 1))⟩,
    ⟨(some 6), none, .mv (.tmp 21)⟩])))
def c_slices_DeleteFunc___impl_Write_impl_Write_ : AS :=
  .seq (.ops [⟨(some 4), none, .mv (.const (.slice none 0 0))⟩])
  (.seq (.ops [⟨(some 8), none, .mv (.tmp 0)⟩,
    ⟨(some 9), none, .mv (.tmp 1)⟩,
    ⟨(some 10), none, .call 99 [(.tmp 8), (.tmp 9)]⟩,
    ⟨(some 5), none, .mv (.tmp 10)⟩])
  (.seq (.seq (.ops [⟨(some 11), none, .mv (.tmp 5)⟩,
    ⟨(some 12), none, .bin .eql (.tmp 11) (.const (.int .i64 (-1)))⟩])
  (.cond (.tmp 12) (.seq (.post [(4, 0, [])] (.ops [⟨(some 13), none, .mv (.tmp 0)⟩,
    ⟨(some 4), none, .mv (.tmp 13)⟩]))
  (.ret)) (.skip)))
  (.seq (.seq (.ops [⟨(some 14), none, .mv (.tmp 5)⟩,
    ⟨(some 15), none, .bin .add (.tmp 14) (.const (.int .i64 1))⟩,
    ⟨(some 6), none, .mv (.tmp 15)⟩])
  (.block 0 (.loop 2 [(0, 0), (1, 0), (5, 0), (6, 0)] c_slices_DeleteFunc___impl_Write_impl_Write__l1)))
  (.kept [0, 5] (.seq (.ops [⟨(some 36), none, .mv (.tmp 0)⟩,
    ⟨(some 37), none, .mv (.tmp 5)⟩,
    ⟨(some 38), none, .sls 3 (.tmp 36) (some (.tmp 37)) none none⟩,
    ⟨none, none, .clr 3 (.agg #[.string ⟨⟨[]⟩⟩, .string ⟨⟨[]⟩⟩, .bool false]) (.tmp 38)⟩])
  (.seq (.post [(4, 0, [])] (.ops [⟨(some 39), none, .mv (.tmp 0)⟩,
    ⟨(some 40), none, .mv (.tmp 5)⟩,
    ⟨(some 41), none, .sls 3 (.tmp 39) none (some (.tmp 40)) none⟩,
    ⟨(some 4), none, .mv (.tmp 41)⟩]))
  (.ret)))))))
theorem h_slices_DeleteFunc___impl_Write_impl_Write_ : (Tryz.prog.funcs[n_slices_DeleteFunc___impl_Write_impl_Write_]?).bind (fun fn => fn.body.bind (comp Tryz.prog fn.ntmps)) = some (AS.strip c_slices_DeleteFunc___impl_Write_impl_Write_) := by kernel_rfl
theorem r_slices_DeleteFunc___impl_Write_impl_Write_ : (Tryz.prog.funcs[n_slices_DeleteFunc___impl_Write_impl_Write_]?).map (fun fn => (fn.results.toList, fn.ntmps)) = some ([.tmp 4], 42) := by kernel_rfl
-- 92 loop.example/g00850/impl.putRows$1
abbrev n_impl_putRows_1 : Nat := 92
def c_impl_putRows_1 : AS :=
  .seq (.ops [⟨(some 1), none, .box (.tmp 0)⟩,
    ⟨(some 2), none, .mv (.const (.bool false))⟩])
  (.seq (.ops [⟨(some 3), none, .fa 2 (.tmp 1)⟩,
    ⟨(some 4), none, .load none (.tmp 3)⟩,
    ⟨(some 2), none, .mv (.tmp 4)⟩])
  (.ret))
theorem h_impl_putRows_1 : (Tryz.prog.funcs[n_impl_putRows_1]?).bind (fun fn => fn.body.bind (comp Tryz.prog fn.ntmps)) = some (AS.strip c_impl_putRows_1) := by kernel_rfl
theorem r_impl_putRows_1 : (Tryz.prog.funcs[n_impl_putRows_1]?).map (fun fn => (fn.results.toList, fn.ntmps)) = some ([.tmp 2], 5) := by kernel_rfl
-- 93 slices.insertionSortCmpFunc[int]
abbrev n_slices_insertionSortCmpFunc_int_ : Nat := 93
def c_slices_insertionSortCmpFunc_int__l1 : AS :=
  .seq (.seq (.rops [(none, ⟨(some 18), none, .mv (.tmp 9)⟩),
    (none, ⟨(some 19), none, .mv (.tmp 1)⟩),
    (none, ⟨(some 20), none, .bin .gtr (.tmp 18) (.tmp 19)⟩),
    (none, ⟨(some 21), none, .mv (.tmp 20)⟩),
    (none, ⟨(some 22), some (21, true), .mv (.tmp 3)⟩),
    (none, ⟨(some 23), some (21, true), .mv (.tmp 0)⟩),
    (none, ⟨(some 24), some (21, true), .mv (.tmp 9)⟩),
    (none, ⟨(some 25), some (21, true), .ia 1 (.tmp 23) (.tmp 24)⟩),
    (none, ⟨(some 26), some (21, true), .load none (.tmp 25)⟩),
    (none, ⟨(some 27), some (21, true), .mv (.tmp 0)⟩),
    (none, ⟨(some 28), some (21, true), .mv (.tmp 9)⟩),
    (none, ⟨(some 29), some (21, true), .bin .sub (.tmp 28) (.const (.int .i64 1))⟩),
    (none, ⟨(some 30), some (21, true), .ia 1 (.tmp 27) (.tmp 29)⟩),
    (none, ⟨(some 31), some (21, true), .load none (.tmp 30)⟩),
    (some [], ⟨(some 32), some (21, true), .callv (.tmp 22) [(.tmp 26), (.tmp 31)]⟩),
    (none, ⟨(some 33), some (21, true), .bin .lss (.tmp 32) (.const (.int .i64 0))⟩),
    (none, ⟨(some 34), none, .pick (.tmp 21) (.tmp 33) (.const (.bool false))⟩)])
  (.kept [0, 1, 2, 3, 8, 9, 34] (.cond (.tmp 34) (.skip) (.exit 2))))
  (.kept [0, 1, 2, 3, 8, 9] (.seq (.block 3 (.rops [(none, ⟨(some 37), none, .mv (.tmp 0)⟩),
    (none, ⟨(some 38), none, .mv (.tmp 9)⟩),
    (none, ⟨(some 39), none, .mv (.tmp 0)⟩),
    (none, ⟨(some 40), none, .mv (.tmp 9)⟩),
    (none, ⟨(some 41), none, .bin .sub (.tmp 40) (.const (.int .i64 1))⟩),
    (none, ⟨(some 42), none, .mv (.tmp 0)⟩),
    (none, ⟨(some 43), none, .mv (.tmp 9)⟩),
    (none, ⟨(some 44), none, .bin .sub (.tmp 43) (.const (.int .i64 1))⟩),
    (none, ⟨(some 45), none, .ia 1 (.tmp 42) (.tmp 44)⟩),
    (none, ⟨(some 46), none, .load none (.tmp 45)⟩),
    (none, ⟨(some 47), none, .mv (.tmp 0)⟩),
    (none, ⟨(some 48), none, .mv (.tmp 9)⟩),
    (none, ⟨(some 49), none, .ia 1 (.tmp 47) (.tmp 48)⟩),
    (none, ⟨(some 50), none, .load none (.tmp 49)⟩),
    (none, ⟨(some 51), none, .ia 1 (.tmp 37) (.tmp 38)⟩),
    (some [⟨(some 41), none, .bin .sub (.tmp 40) (.const (.int .i64 1))⟩, ⟨(some 40), none, .mv (.tmp 9)⟩, ⟨(some 39), none, .mv (.tmp 0)⟩], ⟨none, none, .store 1 (.tmp 51) (.tmp 46)⟩),
    (none, ⟨(some 52), none, .ia 1 (.tmp 39) (.tmp 41)⟩),
    (some [], ⟨none, none, .store 1 (.tmp 52) (.tmp 50)⟩)]))
  (.kept [0, 1, 2, 3, 8, 9] (.ops [⟨(some 35), none, .mv (.tmp 9)⟩,
    ⟨(some 36), none, .bin .sub (.tmp 35) (.const (.int .i64 1))⟩,
    ⟨(some 9), none, .mv (.tmp 36)⟩]))))
def c_slices_insertionSortCmpFunc_int__l2 : AS :=
  .seq (.seq (.ops [⟨(some 12), none, .mv (.tmp 8)⟩,
    ⟨(some 13), none, .mv (.tmp 2)⟩,
    ⟨(some 14), none, .bin .lss (.tmp 12) (.tmp 13)⟩])
  (.cond (.tmp 14) (.skip) (.exit 0)))
  (.seq (.block 1 (.seq (.ops [⟨(some 17), none, .mv (.tmp 8)⟩,
    ⟨(some 9), none, .mv (.tmp 17)⟩])
  (.block 2 (.loop 4 [(0, 0), (1, 0), (2, 0), (3, 0), (8, 0), (9, 0)] c_slices_insertionSortCmpFunc_int__l1))))
  (.kept [0, 1, 2, 3, 8] (.ops [⟨(some 15), none, .mv (.tmp 8)⟩,
    ⟨(some 16), none, .bin .add (.tmp 15) (.const (.int .i64 1))⟩,
    ⟨(some 8), none, .mv (.tmp 16)⟩])))
def c_slices_insertionSortCmpFunc_int_ : AS :=
  .seq (.ops [⟨(some 10), none, .mv (.tmp 1)⟩,
    ⟨(some 11), none, .bin .add (.tmp 10) (.const (.int .i64 1))⟩,
    ⟨(some 8), none, .mv (.tmp 11)⟩])
  (.block 0 (.loop 4 [(0, 0), (1, 0), (2, 0), (3, 0), (8, 0)] c_slices_insertionSortCmpFunc_int__l2))
theorem h_slices_insertionSortCmpFunc_int_ : (Tryz.prog.funcs[n_slices_insertionSortCmpFunc_int_]?).bind (fun fn => fn.body.bind (comp Tryz.prog fn.ntmps)) = some (AS.strip c_slices_insertionSortCmpFunc_int_) := by kernel_rfl
theorem r_slices_insertionSortCmpFunc_int_ : (Tryz.prog.funcs[n_slices_insertionSortCmpFunc_int_]?).map (fun fn => (fn.results.toList, fn.ntmps)) = some ([], 53) := by kernel_rfl
-- 95 loop.example/g00850/spec.l3Bytes
abbrev n_spec_l3Bytes : Nat := 95
def c_spec_l3Bytes_l1 : AS :=
  .seq (.seq (.ops [⟨(some 36), none, .mv (.tmp 7)⟩,
    ⟨(some 37), none, .mv (.tmp 1)⟩,
    ⟨(some 38), none, .lent (.tmp 37)⟩,
    ⟨(some 39), none, .bin .lss (.tmp 36) (.tmp 38)⟩])
  (.cond (.tmp 39) (.skip) (.exit 2)))
  (.seq (.block 3 (.dops [⟨(some 42), none, .mv (.tmp 6)⟩,
    ⟨(some 43), none, .mv (.tmp 42)⟩,
    ⟨(some 44), some (43, false), .mv (.tmp 0)⟩,
    ⟨(some 45), some (43, false), .mv (.tmp 5)⟩,
    ⟨(some 46), some (43, false), .ix (.tmp 44) (.tmp 45)⟩,
    ⟨(some 47), some (43, false), .mv (.tmp 1)⟩,
    ⟨(some 48), some (43, false), .mv (.tmp 7)⟩,
    ⟨(some 49), some (43, false), .ix (.tmp 47) (.tmp 48)⟩,
    ⟨(some 50), some (43, false), .bin .eql (.tmp 46) (.tmp 49)⟩,
    ⟨(some 51), none, .pick (.tmp 43) (.const (.bool true)) (.tmp 50)⟩,
    ⟨(some 6), none, .mv (.tmp 51)⟩]))
  (.kept [0, 1, 5, 6, 7] (.ops [⟨(some 40), none, .mv (.tmp 7)⟩,
    ⟨(some 41), none, .bin .add (.tmp 40) (.const (.int .i64 1))⟩,
    ⟨(some 7), none, .mv (.tmp 41)⟩])))
def c_spec_l3Bytes_l2 : AS :=
  .seq (.seq (.ops [⟨(some 8), none, .mv (.tmp 5)⟩,
    ⟨(some 9), none, .mv (.tmp 0)⟩,
    ⟨(some 10), none, .lent (.tmp 9)⟩,
    ⟨(some 11), none, .bin .lss (.tmp 8) (.tmp 10)⟩])
  (.cond (.tmp 11) (.skip) (.exit 0)))
  (.seq (.block 1 (.seq (.ops [⟨(some 14), none, .mv (.tmp 0)⟩,
    ⟨(some 15), none, .mv (.tmp 5)⟩,
    ⟨(some 16), none, .ix (.tmp 14) (.tmp 15)⟩,
    ⟨(some 17), none, .bin .geq (.tmp 16) (.const (.int .u8 97))⟩,
    ⟨(some 18), none, .mv (.tmp 17)⟩,
    ⟨(some 19), some (18, true), .mv (.tmp 0)⟩,
    ⟨(some 20), some (18, true), .mv (.tmp 5)⟩,
    ⟨(some 21), some (18, true), .ix (.tmp 19) (.tmp 20)⟩,
    ⟨(some 22), some (18, true), .bin .leq (.tmp 21) (.const (.int .u8 122))⟩,
    ⟨(some 23), none, .pick (.tmp 18) (.tmp 22) (.const (.bool false))⟩,
    ⟨(some 24), none, .mv (.tmp 23)⟩,
    ⟨(some 25), some (24, false), .mv (.tmp 0)⟩,
    ⟨(some 26), some (24, false), .mv (.tmp 5)⟩,
    ⟨(some 27), some (24, false), .ix (.tmp 25) (.tmp 26)⟩,
    ⟨(some 28), some (24, false), .bin .geq (.tmp 27) (.const (.int .u8 48))⟩,
    ⟨(some 29), some (24, false), .mv (.tmp 28)⟩,
    ⟨(some 30), some (29, true), .mv (.tmp 0)⟩,
    ⟨(some 31), some (29, true), .mv (.tmp 5)⟩,
    ⟨(some 32), some (29, true), .ix (.tmp 30) (.tmp 31)⟩,
    ⟨(some 33), some (29, true), .bin .leq (.tmp 32) (.const (.int .u8 57))⟩,
    ⟨(some 34), some (24, false), .pick (.tmp 29) (.tmp 33) (.const (.bool false))⟩,
    ⟨(some 35), none, .pick (.tmp 24) (.const (.bool true)) (.tmp 34)⟩,
    ⟨(some 6), none, .mv (.tmp 35)⟩])
  (.kept [0, 1, 5, 6] (.seq (.seq (.ops [⟨(some 7), none, .mv (.const (.int .i64 0))⟩])
  (.block 2 (.loop 2 [(0, 0), (1, 0), (5, 0), (6, 0), (7, 0)] c_spec_l3Bytes_l1)))
  (.kept [0, 1, 5, 6] (.seq (.ops [⟨(some 52), none, .mv (.tmp 6)⟩,
    ⟨(some 53), none, .not (.tmp 52)⟩])
  (.cond (.tmp 53) (.seq (.ops [⟨(some 4), none, .mv (.const (.bool false))⟩])
  (.ret)) (.skip))))))))
  (.kept [0, 1, 5] (.ops [⟨(some 12), none, .mv (.tmp 5)⟩,
    ⟨(some 13), none, .bin .add (.tmp 12) (.const (.int .i64 1))⟩,
    ⟨(some 5), none, .mv (.tmp 13)⟩])))
def c_spec_l3Bytes : AS :=
  .seq (.ops [⟨(some 4), none, .mv (.const (.bool false))⟩])
  (.seq (.seq (.ops [⟨(some 5), none, .mv (.const (.int .i64 0))⟩])
  (.block 0 (.loop 2 [(0, 0), (1, 0), (5, 0)] c_spec_l3Bytes_l2)))
  (.kept [] (.seq (.ops [⟨(some 4), none, .mv (.const (.bool true))⟩])
  (.ret))))
theorem h_spec_l3Bytes : (Tryz.prog.funcs[n_spec_l3Bytes]?).bind (fun fn => fn.body.bind (comp Tryz.prog fn.ntmps)) = some (AS.strip c_spec_l3Bytes) := by kernel_rfl
theorem r_spec_l3Bytes : (Tryz.prog.funcs[n_spec_l3Bytes]?).map (fun fn => (fn.results.toList, fn.ntmps)) = some ([.tmp 4], 54) := by kernel_rfl
-- 96 loop.example/g00850/impl.hasBytes
abbrev n_impl_hasBytes : Nat := 96
def c_impl_hasBytes_l1 : AS :=
  .seq (.ops [⟨(some 9), none, .bin .lss (.tmp 8) (.tmp 7)⟩])
  (.seq (.cond (.tmp 9) (.skip) (.exit 0))
  (.seq (.block 1 (.seq (.ops [⟨(some 10), none, .mv (.tmp 8)⟩,
    ⟨(some 5), none, .mv (.tmp 10)⟩])
  (.seq (.ops [⟨(some 11), none, .mv (.tmp 0)⟩,
    ⟨(some 12), none, .mv (.tmp 5)⟩,
    ⟨(some 13), none, .ix (.tmp 11) (.tmp 12)⟩,
    ⟨(some 14), none, .call 103 [(.tmp 13)]⟩,
    ⟨(some 15), none, .not (.tmp 14)⟩,
    ⟨(some 16), none, .mv (.tmp 15)⟩,
    ⟨(some 17), some (16, true), .mv (.tmp 1)⟩,
    ⟨(some 18), some (16, true), .mv (.tmp 0)⟩,
    ⟨(some 19), some (16, true), .mv (.tmp 5)⟩,
    ⟨(some 20), some (16, true), .ix (.tmp 18) (.tmp 19)⟩,
    ⟨(some 21), some (16, true), .call 104 [(.tmp 17), (.tmp 20)]⟩,
    ⟨(some 22), some (16, true), .bin .lss (.tmp 21) (.const (.int .i64 0))⟩,
    ⟨(some 23), none, .pick (.tmp 16) (.tmp 22) (.const (.bool false))⟩])
  (.kept [0, 1, 7, 8, 23] (.cond (.tmp 23) (.seq (.ops [⟨(some 4), none, .mv (.const (.bool false))⟩])
  (.ret)) (.skip))))))
  (.kept [0, 1, 7, 8] (.ops [⟨(some 24), none, .bin .add (.tmp 8) (.const (.int .i64 1))⟩,
    ⟨(some 8), none, .mv (.tmp 24)⟩]))))
def c_impl_hasBytes : AS :=
  .seq (.ops [⟨(some 4), none, .mv (.const (.bool false))⟩])
  (.seq (.seq (.ops [⟨(some 6), none, .mv (.tmp 0)⟩,
    ⟨(some 7), none, .lent (.tmp 6)⟩,
    ⟨(some 8), none, .mv (.const (.int .i64 0))⟩])
  (.block 0 (.loop 2 [(0, 0), (1, 0), (7, 0), (8, 0)] c_impl_hasBytes_l1)))
  (.kept [] (.seq (.ops [⟨(some 4), none, .mv (.const (.bool true))⟩])
  (.ret))))
theorem h_impl_hasBytes : (Tryz.prog.funcs[n_impl_hasBytes]?).bind (fun fn => fn.body.bind (comp Tryz.prog fn.ntmps)) = some (AS.strip c_impl_hasBytes) := by kernel_rfl
theorem r_impl_hasBytes : (Tryz.prog.funcs[n_impl_hasBytes]?).map (fun fn => (fn.results.toList, fn.ntmps)) = some ([.tmp 4], 25) := by kernel_rfl
-- 97 loop.example/g00850/impl.GoodVal
abbrev n_impl_GoodVal : Nat := 97
def c_impl_GoodVal : AS :=
  .seq (.ops [⟨(some 2), none, .mv (.const (.bool false))⟩])
  (.seq (.ops [⟨(some 3), none, .mv (.tmp 0)⟩,
    ⟨(some 4), none, .lent (.tmp 3)⟩,
    ⟨(some 5), none, .bin .leq (.tmp 4) (.const (.int .i64 24))⟩,
    ⟨(some 6), none, .mv (.tmp 5)⟩,
    ⟨(some 7), some (6, true), .mv (.tmp 0)⟩,
    ⟨(some 8), some (6, true), .call 96 [(.tmp 7), (.const (.string ⟨⟨[46, 45, 44, 95]⟩⟩))]⟩,
    ⟨(some 9), none, .pick (.tmp 6) (.tmp 8) (.const (.bool false))⟩,
    ⟨(some 2), none, .mv (.tmp 9)⟩])
  (.ret))
theorem h_impl_GoodVal : (Tryz.prog.funcs[n_impl_GoodVal]?).bind (fun fn => fn.body.bind (comp Tryz.prog fn.ntmps)) = some (AS.strip c_impl_GoodVal) := by kernel_rfl
theorem r_impl_GoodVal : (Tryz.prog.funcs[n_impl_GoodVal]?).map (fun fn => (fn.results.toList, fn.ntmps)) = some ([.tmp 2], 10) := by kernel_rfl
-- 98 slices.IndexFunc[[]loop.example/g00850/impl.Got,loop.example/g00850/impl.Got]
abbrev n_slices_IndexFunc___impl_Got_impl_Got_ : Nat := 98
def c_slices_IndexFunc___impl_Got_impl_Got__l1 : AS :=
  .seq (.ops [⟨(some 9), none, .bin .lss (.tmp 8) (.tmp 7)⟩])
  (.seq (.cond (.tmp 9) (.skip) (.exit 0))
  (.seq (.block 1 (.seq (.ops [⟨(some 10), none, .mv (.tmp 8)⟩,
    ⟨(some 5), none, .mv (.tmp 10)⟩])
  (.seq (.ops [⟨(some 11), none, .mv (.tmp 1)⟩,
    ⟨(some 12), none, .mv (.tmp 0)⟩,
    ⟨(some 13), none, .mv (.tmp 5)⟩,
    ⟨(some 14), none, .ia 3 (.tmp 12) (.tmp 13)⟩,
    ⟨(some 15), none, .load (some 3) (.tmp 14)⟩,
    ⟨(some 16), none, .callv (.tmp 11) [(.tmp 15)]⟩])
  (.cond (.tmp 16) (.seq (.ops [⟨(some 17), none, .mv (.tmp 5)⟩,
    ⟨(some 4), none, .mv (.tmp 17)⟩])
  (.ret)) (.skip)))))
  (.kept [0, 1, 7, 8] (.ops [⟨(some 18), none, .bin .add (.tmp 8) (.const (.int .i64 1))⟩,
    ⟨(some 8), none, .mv (.tmp 18)⟩]))))
def c_slices_IndexFunc___impl_Got_impl_Got_ : AS :=
  .seq (.ops [⟨(some 4), none, .mv (.const (.int .i64 0))⟩])
  (.seq (.seq (.ops [⟨(some 6), none, .mv (.tmp 0)⟩,
    ⟨(some 7), none, .lens (.tmp 6)⟩,
    ⟨(some 8), none, .mv (.const (.int .i64 0))⟩])
  (.block 0 (.loop 2 [(0, 0), (1, 0), (7, 0), (8, 0)] c_slices_IndexFunc___impl_Got_impl_Got__l1)))
  (.kept [] (.seq (.ops [⟨(some 4), none, .mv (.const (.int .i64 (-1)))⟩])
  (.ret))))
theorem h_slices_IndexFunc___impl_Got_impl_Got_ : (Tryz.prog.funcs[n_slices_IndexFunc___impl_Got_impl_Got_]?).bind (fun fn => fn.body.bind (comp Tryz.prog fn.ntmps)) = some (AS.strip c_slices_IndexFunc___impl_Got_impl_Got_) := by kernel_rfl
theorem r_slices_IndexFunc___impl_Got_impl_Got_ : (Tryz.prog.funcs[n_slices_IndexFunc___impl_Got_impl_Got_]?).map (fun fn => (fn.results.toList, fn.ntmps)) = some ([.tmp 4], 19) := by kernel_rfl
-- 99 slices.IndexFunc[[]loop.example/g00850/impl.Write,loop.example/g00850/impl.Write]
abbrev n_slices_IndexFunc___impl_Write_impl_Write_ : Nat := 99
def c_slices_IndexFunc___impl_Write_impl_Write__l1 : AS :=
  .seq (.ops [⟨(some 9), none, .bin .lss (.tmp 8) (.tmp 7)⟩])
  (.seq (.cond (.tmp 9) (.skip) (.exit 0))
  (.seq (.block 1 (.seq (.ops [⟨(some 10), none, .mv (.tmp 8)⟩,
    ⟨(some 5), none, .mv (.tmp 10)⟩])
  (.seq (.ops [⟨(some 11), none, .mv (.tmp 1)⟩,
    ⟨(some 12), none, .mv (.tmp 0)⟩,
    ⟨(some 13), none, .mv (.tmp 5)⟩,
    ⟨(some 14), none, .ia 3 (.tmp 12) (.tmp 13)⟩,
    ⟨(some 15), none, .load (some 3) (.tmp 14)⟩,
    ⟨(some 16), none, .callv (.tmp 11) [(.tmp 15)]⟩])
  (.cond (.tmp 16) (.seq (.ops [⟨(some 17), none, .mv (.tmp 5)⟩,
    ⟨(some 4), none, .mv (.tmp 17)⟩])
  (.ret)) (.skip)))))
  (.kept [0, 1, 7, 8] (.ops [⟨(some 18), none, .bin .add (.tmp 8) (.const (.int .i64 1))⟩,
    ⟨(some 8), none, .mv (.tmp 18)⟩]))))
def c_slices_IndexFunc___impl_Write_impl_Write_ : AS :=
  .seq (.ops [⟨(some 4), none, .mv (.const (.int .i64 0))⟩])
  (.seq (.seq (.ops [⟨(some 6), none, .mv (.tmp 0)⟩,
    ⟨(some 7), none, .lens (.tmp 6)⟩,
    ⟨(some 8), none, .mv (.const (.int .i64 0))⟩])
  (.block 0 (.loop 2 [(0, 0), (1, 0), (7, 0), (8, 0)] c_slices_IndexFunc___impl_Write_impl_Write__l1)))
  (.kept [] (.seq (.ops [⟨(some 4), none, .mv (.const (.int .i64 (-1)))⟩])
  (.ret))))
theorem h_slices_IndexFunc___impl_Write_impl_Write_ : (Tryz.prog.funcs[n_slices_IndexFunc___impl_Write_impl_Write_]?).bind (fun fn => fn.body.bind (comp Tryz.prog fn.ntmps)) = some (AS.strip c_slices_IndexFunc___impl_Write_impl_Write_) := by kernel_rfl
theorem r_slices_IndexFunc___impl_Write_impl_Write_ : (Tryz.prog.funcs[n_slices_IndexFunc___impl_Write_impl_Write_]?).map (fun fn => (fn.results.toList, fn.ntmps)) = some ([.tmp 4], 19) := by kernel_rfl
-- 100 loop.example/g00850/impl.findWrite
abbrev n_impl_findWrite : Nat := 100
def c_impl_findWrite : AS :=
  .seq (.ops [⟨(some 4), none, .mv (.const (.int .i64 0))⟩,
    ⟨(some 5), none, .mv (.const (.bool false))⟩])
  (.seq (.ops [⟨(some 6), none, .mv (.tmp 0)⟩,
    ⟨(some 7), none, .mv (.tmp 1)⟩,
    ⟨(some 8), none, .call 105 [(.tmp 6), (.tmp 7), (.func 106)]⟩,
    ⟨(some 9), none, .ext 0 (.tmp 8)⟩,
    ⟨(some 10), none, .ext 1 (.tmp 8)⟩,
    ⟨(some 4), none, .mv (.tmp 9)⟩,
    ⟨(some 5), none, .mv (.tmp 10)⟩])
  (.ret))
theorem h_impl_findWrite : (Tryz.prog.funcs[n_impl_findWrite]?).bind (fun fn => fn.body.bind (comp Tryz.prog fn.ntmps)) = some (AS.strip c_impl_findWrite) := by kernel_rfl
theorem r_impl_findWrite : (Tryz.prog.funcs[n_impl_findWrite]?).map (fun fn => (fn.results.toList, fn.ntmps)) = some ([.tmp 4, .tmp 5], 11) := by kernel_rfl
-- 101 slices.Insert[[]loop.example/g00850/impl.Write,loop.example/g00850/impl.Write]
abbrev n_slices_Insert___impl_Write_impl_Write_ : Nat := 101
def c_slices_Insert___impl_Write_impl_Write_ : AS :=
  .seq (.ops [⟨(some 6), none, .mv (.const (.slice none 0 0))⟩])
  (.seq (.ops [⟨(some 10), none, .mv (.tmp 0)⟩,
    ⟨(some 11), none, .mv (.tmp 1)⟩,
    ⟨(some 12), none, .sls 3 (.tmp 10) (some (.tmp 11)) none none⟩])
  (.seq (.ops [⟨(some 13), none, .mv (.tmp 2)⟩,
    ⟨(some 14), none, .lens (.tmp 13)⟩,
    ⟨(some 7), none, .mv (.tmp 14)⟩])
  (.seq (.seq (.ops [⟨(some 15), none, .mv (.tmp 7)⟩,
    ⟨(some 16), none, .bin .eql (.tmp 15) (.const (.int .i64 0))⟩])
  (.cond (.tmp 16) (.seq (.post [(6, 0, [])] (.ops [⟨(some 17), none, .mv (.tmp 0)⟩,
    ⟨(some 6), none, .mv (.tmp 17)⟩]))
  (.ret)) (.skip)))
  (.seq (.ops [⟨(some 18), none, .mv (.tmp 0)⟩,
    ⟨(some 19), none, .lens (.tmp 18)⟩,
    ⟨(some 8), none, .mv (.tmp 19)⟩])
  (.seq (.seq (.ops [⟨(some 20), none, .mv (.tmp 1)⟩,
    ⟨(some 21), none, .mv (.tmp 8)⟩,
    ⟨(some 22), none, .bin .eql (.tmp 20) (.tmp 21)⟩])
  (.cond (.tmp 22) (.seq (.post [(6, 0, [])] (.ops [⟨(some 23), none, .mv (.tmp 0)⟩,
    ⟨(some 24), none, .mv (.tmp 2)⟩,
    ⟨(some 25), none, .app 3 40 (.agg #[.string ⟨⟨[]⟩⟩, .string ⟨⟨[]⟩⟩, .bool false]) (.tmp 23) (.tmp 24)⟩,
    ⟨(some 6), none, .mv (.tmp 25)⟩]))
  (.ret)) (.skip)))
  (.kept [0, 1, 2, 7, 8] (.seq (.seq (.ops [⟨(some 26), none, .mv (.tmp 8)⟩,
    ⟨(some 27), none, .mv (.tmp 7)⟩,
    ⟨(some 28), none, .bin .add (.tmp 26) (.tmp 27)⟩,
    ⟨(some 29), none, .mv (.tmp 0)⟩,
    ⟨(some 30), none, .capo (.tmp 29)⟩,
    ⟨(some 31), none, .bin .gtr (.tmp 28) (.tmp 30)⟩])
  (.cond (.tmp 31) (.seq (.ops [⟨(some 32), none, .mv (.tmp 0)⟩,
    ⟨(some 33), none, .mv (.tmp 1)⟩,
    ⟨(some 34), none, .sls 3 (.tmp 32) none (some (.tmp 33)) none⟩,
    ⟨(some 35), none, .mv (.tmp 8)⟩,
    ⟨(some 36), none, .mv (.tmp 7)⟩,
    ⟨(some 37), none, .bin .add (.tmp 35) (.tmp 36)⟩,
    ⟨(some 38), none, .mv (.tmp 1)⟩,
    ⟨(some 39), none, .bin .sub (.tmp 37) (.tmp 38)⟩,
    ⟨(some 40), none, .apz 3 40 (.agg #[.string ⟨⟨[]⟩⟩, .string ⟨⟨[]⟩⟩, .bool false]) (.tmp 34) (.tmp 39)⟩,
    ⟨(some 9), none, .mv (.tmp 40)⟩])
  (.kept [0, 1, 2, 7, 9] (.seq (.ops [⟨(some 41), none, .mv (.tmp 9)⟩,
    ⟨(some 42), none, .mv (.tmp 1)⟩,
    ⟨(some 43), none, .sls 3 (.tmp 41) (some (.tmp 42)) none none⟩,
    ⟨(some 44), none, .mv (.tmp 2)⟩,
    ⟨(some 45), none, .cpy 3 (.tmp 43) (.tmp 44)⟩])
  (.seq (.rops [(none, ⟨(some 46), none, .mv (.tmp 9)⟩),
    (none, ⟨(some 47), none, .mv (.tmp 1)⟩),
    (none, ⟨(some 48), none, .mv (.tmp 7)⟩),
    (none, ⟨(some 49), none, .bin .add (.tmp 47) (.tmp 48)⟩),
    (none, ⟨(some 50), none, .sls 3 (.tmp 46) (some (.tmp 49)) none none⟩),
    (none, ⟨(some 51), none, .mv (.tmp 0)⟩),
    (none, ⟨(some 52), none, .mv (.tmp 1)⟩),
    (none, ⟨(some 53), none, .sls 3 (.tmp 51) (some (.tmp 52)) none none⟩),
    (some [], ⟨(some 54), none, .cpy 3 (.tmp 50) (.tmp 53)⟩)])
  (.kept [9] (.seq (.post [(6, 0, [])] (.ops [⟨(some 55), none, .mv (.tmp 9)⟩,
    ⟨(some 6), none, .mv (.tmp 55)⟩]))
  (.ret))))))) (.skip)))
  (.kept [0, 1, 2, 7, 8] (.seq (.ops [⟨(some 56), none, .mv (.tmp 0)⟩,
    ⟨(some 57), none, .mv (.tmp 8)⟩,
    ⟨(some 58), none, .mv (.tmp 7)⟩,
    ⟨(some 59), none, .bin .add (.tmp 57) (.tmp 58)⟩,
    ⟨(some 60), none, .sls 3 (.tmp 56) none (some (.tmp 59)) none⟩,
    ⟨(some 0), none, .mv (.tmp 60)⟩])
  (.seq (.seq (.ops [⟨(some 61), none, .mv (.tmp 2)⟩,
    ⟨(some 62), none, .mv (.tmp 0)⟩,
    ⟨(some 63), none, .mv (.tmp 1)⟩,
    ⟨(some 64), none, .mv (.tmp 7)⟩,
    ⟨(some 65), none, .bin .add (.tmp 63) (.tmp 64)⟩,
    ⟨(some 66), none, .sls 3 (.tmp 62) (some (.tmp 65)) none none⟩,
    ⟨(some 67), none, .xcall 108 [(.tmp 61), (.tmp 66)]⟩,
    ⟨(some 68), none, .not (.tmp 67)⟩])
  (.kept [0, 1, 2, 7, 8, 68] (.cond (.tmp 68) (.seq (.rops [(none, ⟨(some 69), none, .mv (.tmp 0)⟩),
    (none, ⟨(some 70), none, .mv (.tmp 1)⟩),
    (none, ⟨(some 71), none, .mv (.tmp 7)⟩),
    (none, ⟨(some 72), none, .bin .add (.tmp 70) (.tmp 71)⟩),
    (none, ⟨(some 73), none, .sls 3 (.tmp 69) (some (.tmp 72)) none none⟩),
    (none, ⟨(some 74), none, .mv (.tmp 0)⟩),
    (none, ⟨(some 75), none, .mv (.tmp 1)⟩),
    (none, ⟨(some 76), none, .sls 3 (.tmp 74) (some (.tmp 75)) none none⟩),
    (some [], ⟨(some 77), none, .cpy 3 (.tmp 73) (.tmp 76)⟩)])
  (.kept [0, 1, 2] (.seq (.ops [⟨(some 78), none, .mv (.tmp 0)⟩,
    ⟨(some 79), none, .mv (.tmp 1)⟩,
    ⟨(some 80), none, .sls 3 (.tmp 78) (some (.tmp 79)) none none⟩,
    ⟨(some 81), none, .mv (.tmp 2)⟩,
    ⟨(some 82), none, .cpy 3 (.tmp 80) (.tmp 81)⟩])
  (.seq (.post [(6, 0, [])] (.ops [⟨(some 83), none, .mv (.tmp 0)⟩,
    ⟨(some 6), none, .mv (.tmp 83)⟩]))
  (.ret))))) (.skip))))
  (.kept [0, 1, 2, 7, 8] (.seq (.ops [⟨(some 84), none, .mv (.tmp 0)⟩,
    ⟨(some 85), none, .mv (.tmp 8)⟩,
    ⟨(some 86), none, .sls 3 (.tmp 84) (some (.tmp 85)) none none⟩,
    ⟨(some 87), none, .mv (.tmp 2)⟩,
    ⟨(some 88), none, .cpy 3 (.tmp 86) (.tmp 87)⟩])
  (.seq (.ops [⟨(some 89), none, .mv (.tmp 0)⟩,
    ⟨(some 90), none, .mv (.tmp 1)⟩,
    ⟨(some 91), none, .sls 3 (.tmp 89) (some (.tmp 90)) none none⟩,
    ⟨(some 92), none, .mv (.tmp 7)⟩,
    ⟨(some 93), none, .call 109 [(.tmp 91), (.tmp 92)]⟩])
  (.seq (.post [(6, 0, [])] (.ops [⟨(some 94), none, .mv (.tmp 0)⟩,
    ⟨(some 6), none, .mv (.tmp 94)⟩]))
  (.ret)))))))))))))))
theorem h_slices_Insert___impl_Write_impl_Write_ : (Tryz.prog.funcs[n_slices_Insert___impl_Write_impl_Write_]?).bind (fun fn => fn.body.bind (comp Tryz.prog fn.ntmps)) = some (AS.strip c_slices_Insert___impl_Write_impl_Write_) := by kernel_rfl
theorem r_slices_Insert___impl_Write_impl_Write_ : (Tryz.prog.funcs[n_slices_Insert___impl_Write_impl_Write_]?).map (fun fn => (fn.results.toList, fn.ntmps)) = some ([.tmp 6], 95) := by kernel_rfl
-- 103 loop.example/g00850/impl.isLowerOrDigit
abbrev n_impl_isLowerOrDigit : Nat := 103
def c_impl_isLowerOrDigit : AS :=
  .seq (.ops [⟨(some 2), none, .mv (.const (.bool false))⟩])
  (.seq (.ops [⟨(some 3), none, .mv (.tmp 0)⟩,
    ⟨(some 4), none, .bin .geq (.tmp 3) (.const (.int .u8 97))⟩,
    ⟨(some 5), none, .mv (.tmp 4)⟩,
    ⟨(some 6), some (5, true), .mv (.tmp 0)⟩,
    ⟨(some 7), some (5, true), .bin .leq (.tmp 6) (.const (.int .u8 122))⟩,
    ⟨(some 8), none, .pick (.tmp 5) (.tmp 7) (.const (.bool false))⟩,
    ⟨(some 9), none, .mv (.tmp 8)⟩,
    ⟨(some 10), some (9, false), .mv (.tmp 0)⟩,
    ⟨(some 11), some (9, false), .bin .geq (.tmp 10) (.const (.int .u8 48))⟩,
    ⟨(some 12), some (9, false), .mv (.tmp 11)⟩,
    ⟨(some 13), some (12, true), .mv (.tmp 0)⟩,
    ⟨(some 14), some (12, true), .bin .leq (.tmp 13) (.const (.int .u8 57))⟩,
    ⟨(some 15), some (9, false), .pick (.tmp 12) (.tmp 14) (.const (.bool false))⟩,
    ⟨(some 16), none, .pick (.tmp 9) (.const (.bool true)) (.tmp 15)⟩,
    ⟨(some 2), none, .mv (.tmp 16)⟩])
  (.ret))
theorem h_impl_isLowerOrDigit : (Tryz.prog.funcs[n_impl_isLowerOrDigit]?).bind (fun fn => fn.body.bind (comp Tryz.prog fn.ntmps)) = some (AS.strip c_impl_isLowerOrDigit) := by kernel_rfl
theorem r_impl_isLowerOrDigit : (Tryz.prog.funcs[n_impl_isLowerOrDigit]?).map (fun fn => (fn.results.toList, fn.ntmps)) = some ([.tmp 2], 17) := by kernel_rfl
-- 104 strings.IndexByte
abbrev n_strings_IndexByte : Nat := 104
def c_strings_IndexByte : AS :=
  .seq (.ops [⟨(some 4), none, .mv (.const (.int .i64 0))⟩])
  (.seq (.ops [⟨(some 5), none, .mv (.tmp 0)⟩,
    ⟨(some 6), none, .mv (.tmp 1)⟩,
    ⟨(some 7), none, .call 111 [(.tmp 5), (.tmp 6)]⟩,
    ⟨(some 4), none, .mv (.tmp 7)⟩])
  (.ret))
theorem h_strings_IndexByte : (Tryz.prog.funcs[n_strings_IndexByte]?).bind (fun fn => fn.body.bind (comp Tryz.prog fn.ntmps)) = some (AS.strip c_strings_IndexByte) := by kernel_rfl
theorem r_strings_IndexByte : (Tryz.prog.funcs[n_strings_IndexByte]?).map (fun fn => (fn.results.toList, fn.ntmps)) = some ([.tmp 4], 8) := by kernel_rfl
-- 105 slices.BinarySearchFunc[[]loop.example/g00850/impl.Write,loop.example/g00850/impl.Write,string]
abbrev n_slices_BinarySearchFunc___impl_Write_impl_Write_string_ : Nat := 105
def c_slices_BinarySearchFunc___impl_Write_impl_Write_string__l1 : AS :=
  .seq (.seq (.ops [⟨(some 15), none, .mv (.tmp 9)⟩,
    ⟨(some 16), none, .mv (.tmp 10)⟩,
    ⟨(some 17), none, .bin .lss (.tmp 15) (.tmp 16)⟩])
  (.cond (.tmp 17) (.skip) (.exit 0)))
  (.block 1 (.seq (.ops [⟨(some 18), none, .mv (.tmp 9)⟩,
    ⟨(some 19), none, .mv (.tmp 10)⟩,
    ⟨(some 20), none, .bin .add (.tmp 18) (.tmp 19)⟩,
    ⟨(some 21), none, .cvi .u64 (.tmp 20)⟩,
    ⟨(some 22), none, .bin .shr (.tmp 21) (.const (.int .u64 1))⟩,
    ⟨(some 23), none, .cvi .i64 (.tmp 22)⟩,
    ⟨(some 11), none, .mv (.tmp 23)⟩])
  (.kept [0, 1, 2, 8, 9, 10, 11] (.seq (.ops [⟨(some 24), none, .mv (.tmp 2)⟩,
    ⟨(some 25), none, .mv (.tmp 0)⟩,
    ⟨(some 26), none, .mv (.tmp 11)⟩,
    ⟨(some 27), none, .ia 3 (.tmp 25) (.tmp 26)⟩,
    ⟨(some 28), none, .load (some 3) (.tmp 27)⟩,
    ⟨(some 29), none, .mv (.tmp 1)⟩,
    ⟨(some 30), none, .callv (.tmp 24) [(.tmp 28), (.tmp 29)]⟩,
    ⟨(some 31), none, .bin .lss (.tmp 30) (.const (.int .i64 0))⟩])
  (.kept [0, 1, 2, 8, 9, 10, 11, 31] (.cond (.tmp 31) (.ops [⟨(some 32), none, .mv (.tmp 11)⟩,
    ⟨(some 33), none, .bin .add (.tmp 32) (.const (.int .i64 1))⟩,
    ⟨(some 9), none, .mv (.tmp 33)⟩]) (.ops [⟨(some 34), none, .mv (.tmp 11)⟩,
    ⟨(some 10), none, .mv (.tmp 34)⟩])))))))
def c_slices_BinarySearchFunc___impl_Write_impl_Write_string_ : AS :=
  .seq (.ops [⟨(some 6), none, .mv (.const (.int .i64 0))⟩,
    ⟨(some 7), none, .mv (.const (.bool false))⟩])
  (.seq (.ops [⟨(some 12), none, .mv (.tmp 0)⟩,
    ⟨(some 13), none, .lens (.tmp 12)⟩,
    ⟨(some 8), none, .mv (.tmp 13)⟩])
  (.seq (.ops [⟨(some 14), none, .mv (.tmp 8)⟩,
    ⟨(some 9), none, .mv (.const (.int .i64 0))⟩,
    ⟨(some 10), none, .mv (.tmp 14)⟩])
  (.seq (.block 0 (.loop 3 [(0, 0), (1, 0), (2, 0), (8, 0), (9, 0), (10, 0)] c_slices_BinarySearchFunc___impl_Write_impl_Write_string__l1))
  (.kept [0, 1, 2, 8, 9] (.seq (.ops [⟨(some 35), none, .mv (.tmp 9)⟩,
    ⟨(some 36), none, .mv (.tmp 9)⟩,
    ⟨(some 37), none, .mv (.tmp 8)⟩,
    ⟨(some 38), none, .bin .lss (.tmp 36) (.tmp 37)⟩,
    ⟨(some 39), none, .mv (.tmp 38)⟩,
    ⟨(some 40), some (39, true), .mv (.tmp 2)⟩,
    ⟨(some 41), some (39, true), .mv (.tmp 0)⟩,
    ⟨(some 42), some (39, true), .mv (.tmp 9)⟩,
    ⟨(some 43), some (39, true), .ia 3 (.tmp 41) (.tmp 42)⟩,
    ⟨(some 44), some (39, true), .load (some 3) (.tmp 43)⟩,
    ⟨(some 45), some (39, true), .mv (.tmp 1)⟩,
    ⟨(some 46), some (39, true), .callv (.tmp 40) [(.tmp 44), (.tmp 45)]⟩,
    ⟨(some 47), some (39, true), .bin .eql (.tmp 46) (.const (.int .i64 0))⟩,
    ⟨(some 48), none, .pick (.tmp 39) (.tmp 47) (.const (.bool false))⟩,
    ⟨(some 6), none, .mv (.tmp 35)⟩,
    ⟨(some 7), none, .mv (.tmp 48)⟩])
  (.ret))))))
theorem h_slices_BinarySearchFunc___impl_Write_impl_Write_string_ : (Tryz.prog.funcs[n_slices_BinarySearchFunc___impl_Write_impl_Write_string_]?).bind (fun fn => fn.body.bind (comp Tryz.prog fn.ntmps)) = some (AS.strip c_slices_BinarySearchFunc___impl_Write_impl_Write_string_) := by kernel_rfl
theorem r_slices_BinarySearchFunc___impl_Write_impl_Write_string_ : (Tryz.prog.funcs[n_slices_BinarySearchFunc___impl_Write_impl_Write_string_]?).map (fun fn => (fn.results.toList, fn.ntmps)) = some ([.tmp 6, .tmp 7], 49) := by kernel_rfl
-- 106 loop.example/g00850/impl.findWrite$1
abbrev n_impl_findWrite_1 : Nat := 106
def c_impl_findWrite_1 : AS :=
  .seq (.ops [⟨(some 2), none, .box (.tmp 0)⟩,
    ⟨(some 4), none, .mv (.const (.int .i64 0))⟩])
  (.seq (.ops [⟨(some 5), none, .fa 0 (.tmp 2)⟩,
    ⟨(some 6), none, .load none (.tmp 5)⟩,
    ⟨(some 7), none, .mv (.tmp 1)⟩,
    ⟨(some 8), none, .call 107 [(.tmp 6), (.tmp 7)]⟩,
    ⟨(some 4), none, .mv (.tmp 8)⟩])
  (.ret))
theorem h_impl_findWrite_1 : (Tryz.prog.funcs[n_impl_findWrite_1]?).bind (fun fn => fn.body.bind (comp Tryz.prog fn.ntmps)) = some (AS.strip c_impl_findWrite_1) := by kernel_rfl
theorem r_impl_findWrite_1 : (Tryz.prog.funcs[n_impl_findWrite_1]?).map (fun fn => (fn.results.toList, fn.ntmps)) = some ([.tmp 4], 9) := by kernel_rfl
-- 107 cmp.Compare[string]
abbrev n_cmp_Compare_string_ : Nat := 107
def c_cmp_Compare_string_ : AS :=
  .seq (.ops [⟨(some 4), none, .mv (.const (.int .i64 0))⟩])
  (.seq (.ops [⟨(some 7), none, .mv (.tmp 0)⟩,
    ⟨(some 8), none, .call 112 [(.tmp 7)]⟩,
    ⟨(some 5), none, .mv (.tmp 8)⟩])
  (.seq (.ops [⟨(some 9), none, .mv (.tmp 1)⟩,
    ⟨(some 10), none, .call 112 [(.tmp 9)]⟩,
    ⟨(some 6), none, .mv (.tmp 10)⟩])
  (.seq (.seq (.ops [⟨(some 11), none, .mv (.tmp 5)⟩])
  (.cond (.tmp 11) (.seq (.seq (.ops [⟨(some 12), none, .mv (.tmp 6)⟩])
  (.cond (.tmp 12) (.seq (.ops [⟨(some 4), none, .mv (.const (.int .i64 0))⟩])
  (.ret)) (.skip)))
  (.seq (.ops [⟨(some 4), none, .mv (.const (.int .i64 (-1)))⟩])
  (.ret))) (.skip)))
  (.seq (.seq (.ops [⟨(some 13), none, .mv (.tmp 6)⟩])
  (.cond (.tmp 13) (.seq (.ops [⟨(some 4), none, .mv (.const (.int .i64 1))⟩])
  (.ret)) (.skip)))
  (.seq (.seq (.ops [⟨(some 14), none, .mv (.tmp 0)⟩,
    ⟨(some 15), none, .mv (.tmp 1)⟩,
    ⟨(some 16), none, .bin .lss (.tmp 14) (.tmp 15)⟩])
  (.cond (.tmp 16) (.seq (.ops [⟨(some 4), none, .mv (.const (.int .i64 (-1)))⟩])
  (.ret)) (.skip)))
  (.seq (.seq (.ops [⟨(some 17), none, .mv (.tmp 0)⟩,
    ⟨(some 18), none, .mv (.tmp 1)⟩,
    ⟨(some 19), none, .bin .gtr (.tmp 17) (.tmp 18)⟩])
  (.cond (.tmp 19) (.seq (.ops [⟨(some 4), none, .mv (.const (.int .i64 1))⟩])
  (.ret)) (.skip)))
  (.seq (.ops [⟨(some 4), none, .mv (.const (.int .i64 0))⟩])
  (.ret))))))))
theorem h_cmp_Compare_string_ : (Tryz.prog.funcs[n_cmp_Compare_string_]?).bind (fun fn => fn.body.bind (comp Tryz.prog fn.ntmps)) = some (AS.strip c_cmp_Compare_string_) := by kernel_rfl
theorem r_cmp_Compare_string_ : (Tryz.prog.funcs[n_cmp_Compare_string_]?).map (fun fn => (fn.results.toList, fn.ntmps)) = some ([.tmp 4], 20) := by kernel_rfl
-- 108 slices.overlaps[loop.example/g00850/impl.Write]
abbrev n_slices_overlaps_impl_Write_ : Nat := 108
-- NOT COMPILED
theorem d_slices_overlaps_impl_Write_ : Tryz.prog.funcs[n_slices_overlaps_impl_Write_]? = some Tryz.f108 := by kernel_rfl
theorem x_slices_overlaps_impl_Write_ (vs : Array Value) (w : World) : (callFunc n_slices_overlaps_impl_Write_ vs).run Tryz.prog w = ((Extern.SlicesOverlaps.overlaps #[40, 40] #[4] vs).run Tryz.prog w).andThen fun v w' => .ok (.value v) w' := run_callFunc_extern (e := Extern.SlicesOverlaps.overlaps #[40, 40] #[4]) d_slices_overlaps_impl_Write_ (by kernel_rfl) (by kernel_rfl) (by kernel_rfl) (by kernel_rfl) vs w
theorem u_slices_overlaps_impl_Write_ : Tryz.prog.underlying 40 = some (.slice 78) := by kernel_rfl
theorem wd_slices_overlaps_impl_Write_ : width Tryz.prog 78 = some 3 := by kernel_rfl
-- 111 internal/stringslite.IndexByte
abbrev n_internal_stringslite_IndexByte : Nat := 111
def c_internal_stringslite_IndexByte : AS :=
  .seq (.ops [⟨(some 4), none, .mv (.const (.int .i64 0))⟩])
  (.seq (.ops [⟨(some 5), none, .mv (.tmp 0)⟩,
    ⟨(some 6), none, .mv (.tmp 1)⟩,
    ⟨(some 7), none, .xcall 114 [(.tmp 5), (.tmp 6)]⟩,
    ⟨(some 4), none, .mv (.tmp 7)⟩])
  (.ret))
theorem h_internal_stringslite_IndexByte : (Tryz.prog.funcs[n_internal_stringslite_IndexByte]?).bind (fun fn => fn.body.bind (comp Tryz.prog fn.ntmps)) = some (AS.strip c_internal_stringslite_IndexByte) := by kernel_rfl
theorem r_internal_stringslite_IndexByte : (Tryz.prog.funcs[n_internal_stringslite_IndexByte]?).map (fun fn => (fn.results.toList, fn.ntmps)) = some ([.tmp 4], 8) := by kernel_rfl
-- 112 cmp.isNaN[string]
abbrev n_cmp_isNaN_string_ : Nat := 112
def c_cmp_isNaN_string_ : AS :=
  .seq (.ops [⟨(some 2), none, .mv (.const (.bool false))⟩])
  (.seq (.ops [⟨(some 3), none, .mv (.tmp 0)⟩,
    ⟨(some 4), none, .mv (.tmp 0)⟩,
    ⟨(some 5), none, .bin .neq (.tmp 3) (.tmp 4)⟩,
    ⟨(some 2), none, .mv (.tmp 5)⟩])
  (.ret))
theorem h_cmp_isNaN_string_ : (Tryz.prog.funcs[n_cmp_isNaN_string_]?).bind (fun fn => fn.body.bind (comp Tryz.prog fn.ntmps)) = some (AS.strip c_cmp_isNaN_string_) := by kernel_rfl
theorem r_cmp_isNaN_string_ : (Tryz.prog.funcs[n_cmp_isNaN_string_]?).map (fun fn => (fn.results.toList, fn.ntmps)) = some ([.tmp 2], 6) := by kernel_rfl
-- 114 internal/bytealg.IndexByteString
abbrev n_internal_bytealg_IndexByteString : Nat := 114
-- NOT COMPILED
theorem d_internal_bytealg_IndexByteString : Tryz.prog.funcs[n_internal_bytealg_IndexByteString]? = some Tryz.f114 := by kernel_rfl

end Go.Proofs.Wb

/- The compiled statements of the functions that the law reaches. -/
import Derived.Test.YtbifgoeoccjkoaaProg
import Derived.Test.YtbifgoeoccjkoaaAmAuto
import Derived.Test.YtbifgoeoccjkoaaAmSet
namespace Go.Proofs.Wb
open Go Go.Am
@[go_sem] theorem w_7 : wide Try.prog 7 = some (some 4) := by kernel_rfl
@[go_sem] theorem w_8 : wide Try.prog 8 = some (some 4) := by kernel_rfl
@[go_sem] theorem w_13 : wide Try.prog 13 = some (some 2) := by kernel_rfl
@[go_sem] theorem w_14 : wide Try.prog 14 = some (some 2) := by kernel_rfl
@[go_sem] theorem w_18 : wide Try.prog 18 = some (some 1) := by kernel_rfl
@[go_sem] theorem w_19 : wide Try.prog 19 = some (some 1) := by kernel_rfl
@[go_sem] theorem w_23 : wide Try.prog 23 = some (some 3) := by kernel_rfl
@[go_sem] theorem w_24 : wide Try.prog 24 = some (some 3) := by kernel_rfl
@[go_sem] theorem w_29 : wide Try.prog 29 = some (some 3) := by kernel_rfl
@[go_sem] theorem w_30 : wide Try.prog 30 = some (some 3) := by kernel_rfl
@[go_sem] theorem w_36 : wide Try.prog 36 = some (some 3) := by kernel_rfl
@[go_sem] theorem w_37 : wide Try.prog 37 = some (some 3) := by kernel_rfl
@[go_sem] theorem w_43 : wide Try.prog 43 = some (some 3) := by kernel_rfl
@[go_sem] theorem w_44 : wide Try.prog 44 = some (some 3) := by kernel_rfl
@[go_sem] theorem w_65 : wide Try.prog 65 = some (some 3) := by kernel_rfl
@[go_sem] theorem w_66 : wide Try.prog 66 = some (some 3) := by kernel_rfl
@[go_sem] theorem w_70 : wide Try.prog 70 = some (some 3) := by kernel_rfl
@[go_sem] theorem w_78 : wide Try.prog 78 = some (some 3) := by kernel_rfl
@[go_sem] theorem w_79 : wide Try.prog 79 = some (some 3) := by kernel_rfl
@[go_sem] theorem w_83 : wide Try.prog 83 = some (some 3) := by kernel_rfl
@[go_sem] theorem w_84 : wide Try.prog 84 = some (some 3) := by kernel_rfl
@[go_sem] theorem w_87 : wide Try.prog 87 = some (some 7) := by kernel_rfl
@[go_sem] theorem w_88 : wide Try.prog 88 = some (some 7) := by kernel_rfl
@[go_sem] theorem w_89 : wide Try.prog 89 = some (some 8) := by kernel_rfl
@[go_sem] theorem w_90 : wide Try.prog 90 = some (some 8) := by kernel_rfl
@[go_sem] theorem w_101 : wide Try.prog 101 = some (some 1) := by kernel_rfl
@[go_sem] theorem w_102 : wide Try.prog 102 = some (some 1) := by kernel_rfl
@[go_sem] theorem w_103 : wide Try.prog 103 = some (some 3) := by kernel_rfl
@[go_sem] theorem w_104 : wide Try.prog 104 = some (some 3) := by kernel_rfl
@[go_sem] theorem w_108 : wide Try.prog 108 = some (some 1) := by kernel_rfl
@[go_sem] theorem w_110 : wide Try.prog 110 = some (some 3) := by kernel_rfl
@[go_sem] theorem w_126 : wide Try.prog 126 = some (some 2) := by kernel_rfl
@[go_sem] theorem w_127 : wide Try.prog 127 = some (some 2) := by kernel_rfl
@[go_sem] theorem w_137 : wide Try.prog 137 = some (some 7) := by kernel_rfl
@[go_sem] theorem w_138 : wide Try.prog 138 = some (some 7) := by kernel_rfl
@[go_sem] theorem w_139 : wide Try.prog 139 = some (some 8) := by kernel_rfl
@[go_sem] theorem w_140 : wide Try.prog 140 = some (some 8) := by kernel_rfl
@[go_sem] theorem w_152 : wide Try.prog 152 = some (some 3) := by kernel_rfl
@[go_sem] theorem w_153 : wide Try.prog 153 = some (some 3) := by kernel_rfl
@[go_sem] theorem w_167 : wide Try.prog 167 = some (some 3) := by kernel_rfl
@[go_sem] theorem w_173 : wide Try.prog 173 = some (some 4) := by kernel_rfl
@[go_sem] theorem w_174 : wide Try.prog 174 = some (some 4) := by kernel_rfl
@[go_sem] theorem w_186 : wide Try.prog 186 = some (some 11) := by kernel_rfl
@[go_sem] theorem w_187 : wide Try.prog 187 = some (some 11) := by kernel_rfl
-- 3 loop.example/g00850/laws.FnExactIsReady
abbrev n_laws_FnExactIsReady : Nat := 3
def c_laws_FnExactIsReady : AS :=
  .seq (.ops [⟨(some 1), none, .box (.tmp 0)⟩,
    ⟨(some 2), none, .mv (.const (.bool false))⟩])
  (.seq (.ops [⟨(some 3), none, .mv (.const (.int .i64 1048576))⟩])
  (.seq (.ops [⟨(some 9), none, .load (some 3) (.tmp 1)⟩,
    ⟨(some 10), none, .mv (.tmp 3)⟩,
    ⟨(some 11), none, .call 5 [(.tmp 9), (.tmp 10)]⟩,
    ⟨(some 3), none, .mv (.tmp 11)⟩])
  (.seq (.seq (.ops [⟨(some 12), none, .mv (.tmp 3)⟩,
    ⟨(some 13), none, .bin .lss (.tmp 12) (.const (.int .i64 0))⟩])
  (.cond (.tmp 13) (.seq (.ops [⟨(some 2), none, .mv (.const (.bool true))⟩])
  (.ret)) (.skip)))
  (.seq (.ops [⟨(some 15), none, .load (some 3) (.tmp 1)⟩,
    ⟨(some 16), none, .call 7 [(.tmp 15)]⟩,
    ⟨(some 17), none, .call 6 [(.tmp 16)]⟩,
    ⟨(some 14), none, .mv (.tmp 17)⟩,
    ⟨(some 18), none, .ext 0 (.tmp 14)⟩,
    ⟨(some 19), none, .ext 1 (.tmp 14)⟩,
    ⟨(some 4), none, .mv (.tmp 18)⟩,
    ⟨(some 5), none, .mv (.tmp 19)⟩])
  (.kept [1, 4, 5] (.seq (.ops [⟨(some 20), none, .load (some 3) (.tmp 1)⟩,
    ⟨(some 21), none, .call 7 [(.tmp 20)]⟩,
    ⟨(some 6), none, .alloc (.agg #[.slice none 0 0, .int .i64 0, .int .i64 0])⟩,
    ⟨none, none, .store 3 (.tmp 6) (.tmp 21)⟩])
  (.seq (.ops [⟨(some 23), none, .load (some 3) (.tmp 6)⟩,
    ⟨(some 24), none, .call 8 [(.tmp 23)]⟩,
    ⟨(some 22), none, .mv (.tmp 24)⟩,
    ⟨(some 25), none, .ext 0 (.tmp 22)⟩,
    ⟨(some 26), none, .ext 1 (.tmp 22)⟩,
    ⟨(some 7), none, .mv (.tmp 25)⟩,
    ⟨(some 8), none, .mv (.tmp 26)⟩])
  (.seq (.seq (.ops [⟨(some 27), none, .mv (.tmp 7)⟩,
    ⟨(some 28), none, .mv (.tmp 4)⟩,
    ⟨(some 29), none, .eqb true (.tmp 27) (.tmp 28)⟩,
    ⟨(some 30), none, .mv (.tmp 29)⟩,
    ⟨(some 31), some (30, false), .mv (.tmp 8)⟩,
    ⟨(some 32), some (30, false), .mv (.tmp 5)⟩,
    ⟨(some 33), some (30, false), .eqb true (.tmp 31) (.tmp 32)⟩,
    ⟨(some 34), none, .pick (.tmp 30) (.const (.bool true)) (.tmp 33)⟩])
  (.kept [1, 6, 34] (.cond (.tmp 34) (.seq (.ops [⟨(some 2), none, .mv (.const (.bool false))⟩])
  (.ret)) (.skip))))
  (.kept [1, 6] (.seq (.seq (.rops [(none, ⟨(some 35), none, .load (some 3) (.tmp 6)⟩),
    (none, ⟨(some 36), none, .load (some 3) (.tmp 1)⟩),
    (some [⟨(some 35), none, .load (some 3) (.tmp 6)⟩], ⟨(some 37), none, .call 7 [(.tmp 36)]⟩),
    (some [], ⟨(some 38), none, .call 9 [(.tmp 35), (.tmp 37)]⟩),
    (none, ⟨(some 39), none, .not (.tmp 38)⟩)])
  (.cond (.tmp 39) (.seq (.ops [⟨(some 2), none, .mv (.const (.bool false))⟩])
  (.ret)) (.skip)))
  (.kept [] (.seq (.ops [⟨(some 2), none, .mv (.const (.bool true))⟩])
  (.ret)))))))))))))
theorem h_laws_FnExactIsReady : (Try.prog.funcs[n_laws_FnExactIsReady]?).bind (fun fn => fn.body.bind (comp Try.prog fn.ntmps)) = some (AS.strip c_laws_FnExactIsReady) := by kernel_rfl
theorem r_laws_FnExactIsReady : (Try.prog.funcs[n_laws_FnExactIsReady]?).map (fun fn => (fn.results.toList, fn.ntmps)) = some ([.tmp 2], 40) := by kernel_rfl
-- 5 loop.example/g00850/laws.szGroup
abbrev n_laws_szGroup : Nat := 5
def c_laws_szGroup : AS :=
  .seq (.ops [⟨(some 2), none, .box (.tmp 0)⟩,
    ⟨(some 4), none, .mv (.const (.int .i64 0))⟩])
  (.seq (.ops [⟨(some 5), none, .fa 0 (.tmp 2)⟩,
    ⟨(some 6), none, .load none (.tmp 5)⟩,
    ⟨(some 7), none, .mv (.tmp 1)⟩,
    ⟨(some 8), none, .call 21 [(.tmp 6), (.tmp 7)]⟩,
    ⟨(some 1), none, .mv (.tmp 8)⟩])
  (.seq (.seq (.ops [⟨(some 9), none, .mv (.tmp 1)⟩,
    ⟨(some 10), none, .bin .lss (.tmp 9) (.const (.int .i64 0))⟩])
  (.cond (.tmp 10) (.seq (.ops [⟨(some 4), none, .mv (.const (.int .i64 (-1)))⟩])
  (.ret)) (.skip)))
  (.seq (.ops [⟨(some 11), none, .mv (.tmp 1)⟩,
    ⟨(some 4), none, .mv (.tmp 11)⟩])
  (.ret))))
theorem h_laws_szGroup : (Try.prog.funcs[n_laws_szGroup]?).bind (fun fn => fn.body.bind (comp Try.prog fn.ntmps)) = some (AS.strip c_laws_szGroup) := by kernel_rfl
theorem r_laws_szGroup : (Try.prog.funcs[n_laws_szGroup]?).map (fun fn => (fn.results.toList, fn.ntmps)) = some ([.tmp 4], 12) := by kernel_rfl
-- 6 loop.example/g00850/spec.IsReady
abbrev n_spec_IsReady : Nat := 6
def c_spec_IsReady : AS :=
  .seq (.ops [⟨(some 1), none, .box (.tmp 0)⟩,
    ⟨(some 2), none, .mv (.const (.bool false))⟩,
    ⟨(some 3), none, .mv (.const (.bool false))⟩])
  (.seq (.seq (.ops [⟨(some 4), none, .load (some 3) (.tmp 1)⟩,
    ⟨(some 5), none, .call 22 [(.tmp 4)]⟩,
    ⟨(some 6), none, .not (.tmp 5)⟩])
  (.cond (.tmp 6) (.seq (.ops [⟨(some 2), none, .mv (.const (.bool false))⟩,
    ⟨(some 3), none, .mv (.const (.bool false))⟩])
  (.ret)) (.skip)))
  (.seq (.ops [⟨(some 7), none, .load (some 3) (.tmp 1)⟩,
    ⟨(some 8), none, .call 23 [(.tmp 7)]⟩,
    ⟨(some 2), none, .mv (.tmp 8)⟩,
    ⟨(some 3), none, .mv (.const (.bool true))⟩])
  (.ret)))
theorem h_spec_IsReady : (Try.prog.funcs[n_spec_IsReady]?).bind (fun fn => fn.body.bind (comp Try.prog fn.ntmps)) = some (AS.strip c_spec_IsReady) := by kernel_rfl
theorem r_spec_IsReady : (Try.prog.funcs[n_spec_IsReady]?).map (fun fn => (fn.results.toList, fn.ntmps)) = some ([.tmp 2, .tmp 3], 9) := by kernel_rfl
-- 7 loop.example/g00850/laws.toGroup
abbrev n_laws_toGroup : Nat := 7
def c_laws_toGroup : AS :=
  .seq (.ops [⟨(some 1), none, .box (.tmp 0)⟩,
    ⟨(some 2), none, .alloc (.agg #[.slice none 0 0, .int .i64 0, .int .i64 0])⟩])
  (.seq (.ops [⟨(some 3), none, .alloc (.agg #[.slice none 0 0, .int .i64 0, .int .i64 0])⟩])
  (.seq (.ops [⟨(some 4), none, .fa 0 (.tmp 1)⟩,
    ⟨(some 5), none, .load none (.tmp 4)⟩,
    ⟨(some 6), none, .call 24 [(.tmp 5)]⟩,
    ⟨(some 7), none, .fa 0 (.tmp 3)⟩,
    ⟨none, none, .store 1 (.tmp 7) (.tmp 6)⟩])
  (.seq (.ops [⟨(some 8), none, .fa 1 (.tmp 1)⟩,
    ⟨(some 9), none, .load none (.tmp 8)⟩,
    ⟨(some 10), none, .fa 1 (.tmp 3)⟩,
    ⟨none, none, .store 1 (.tmp 10) (.tmp 9)⟩])
  (.seq (.ops [⟨(some 11), none, .fa 2 (.tmp 1)⟩,
    ⟨(some 12), none, .load none (.tmp 11)⟩,
    ⟨(some 13), none, .fa 2 (.tmp 3)⟩,
    ⟨none, none, .store 1 (.tmp 13) (.tmp 12)⟩])
  (.seq (.ops [⟨(some 14), none, .load (some 3) (.tmp 3)⟩,
    ⟨none, none, .store 3 (.tmp 2) (.tmp 14)⟩])
  (.ret))))))
theorem h_laws_toGroup : (Try.prog.funcs[n_laws_toGroup]?).bind (fun fn => fn.body.bind (comp Try.prog fn.ntmps)) = some (AS.strip c_laws_toGroup) := by kernel_rfl
theorem r_laws_toGroup : (Try.prog.funcs[n_laws_toGroup]?).map (fun fn => (fn.results.toList, fn.ntmps)) = some ([.cell 2 30], 15) := by kernel_rfl
-- 8 loop.example/g00850/impl.IsReady
abbrev n_impl_IsReady : Nat := 8
def c_impl_IsReady : AS :=
  .seq (.ops [⟨(some 1), none, .box (.tmp 0)⟩,
    ⟨(some 2), none, .mv (.const (.bool false))⟩,
    ⟨(some 3), none, .mv (.const (.bool false))⟩])
  (.seq (.seq (.ops [⟨(some 4), none, .load (some 3) (.tmp 1)⟩,
    ⟨(some 5), none, .call 25 [(.tmp 4)]⟩,
    ⟨(some 6), none, .not (.tmp 5)⟩])
  (.cond (.tmp 6) (.seq (.ops [⟨(some 2), none, .mv (.const (.bool false))⟩,
    ⟨(some 3), none, .mv (.const (.bool false))⟩])
  (.ret)) (.skip)))
  (.seq (.ops [⟨(some 7), none, .load (some 3) (.tmp 1)⟩,
    ⟨(some 8), none, .call 26 [(.tmp 7)]⟩,
    ⟨(some 2), none, .mv (.tmp 8)⟩,
    ⟨(some 3), none, .mv (.const (.bool true))⟩])
  (.ret)))
theorem h_impl_IsReady : (Try.prog.funcs[n_impl_IsReady]?).bind (fun fn => fn.body.bind (comp Try.prog fn.ntmps)) = some (AS.strip c_impl_IsReady) := by kernel_rfl
theorem r_impl_IsReady : (Try.prog.funcs[n_impl_IsReady]?).map (fun fn => (fn.results.toList, fn.ntmps)) = some ([.tmp 2, .tmp 3], 9) := by kernel_rfl
-- 9 loop.example/g00850/laws.eqGroup
abbrev n_laws_eqGroup : Nat := 9
def c_laws_eqGroup : AS :=
  .seq (.ops [⟨(some 2), none, .box (.tmp 0)⟩,
    ⟨(some 3), none, .box (.tmp 1)⟩,
    ⟨(some 4), none, .mv (.const (.bool false))⟩])
  (.seq (.seq (.ops [⟨(some 5), none, .fa 0 (.tmp 2)⟩,
    ⟨(some 6), none, .load none (.tmp 5)⟩,
    ⟨(some 7), none, .fa 0 (.tmp 3)⟩,
    ⟨(some 8), none, .load none (.tmp 7)⟩,
    ⟨(some 9), none, .call 27 [(.tmp 6), (.tmp 8)]⟩,
    ⟨(some 10), none, .not (.tmp 9)⟩])
  (.cond (.tmp 10) (.seq (.ops [⟨(some 4), none, .mv (.const (.bool false))⟩])
  (.ret)) (.skip)))
  (.kept [2, 3] (.seq (.seq (.ops [⟨(some 11), none, .fa 1 (.tmp 2)⟩,
    ⟨(some 12), none, .load none (.tmp 11)⟩,
    ⟨(some 13), none, .fa 1 (.tmp 3)⟩,
    ⟨(some 14), none, .load none (.tmp 13)⟩,
    ⟨(some 15), none, .bin .neq (.tmp 12) (.tmp 14)⟩])
  (.cond (.tmp 15) (.seq (.ops [⟨(some 4), none, .mv (.const (.bool false))⟩])
  (.ret)) (.skip)))
  (.kept [2, 3] (.seq (.seq (.ops [⟨(some 16), none, .fa 2 (.tmp 2)⟩,
    ⟨(some 17), none, .load none (.tmp 16)⟩,
    ⟨(some 18), none, .fa 2 (.tmp 3)⟩,
    ⟨(some 19), none, .load none (.tmp 18)⟩,
    ⟨(some 20), none, .bin .neq (.tmp 17) (.tmp 19)⟩])
  (.cond (.tmp 20) (.seq (.ops [⟨(some 4), none, .mv (.const (.bool false))⟩])
  (.ret)) (.skip)))
  (.kept [] (.seq (.ops [⟨(some 4), none, .mv (.const (.bool true))⟩])
  (.ret))))))))
theorem h_laws_eqGroup : (Try.prog.funcs[n_laws_eqGroup]?).bind (fun fn => fn.body.bind (comp Try.prog fn.ntmps)) = some (AS.strip c_laws_eqGroup) := by kernel_rfl
theorem r_laws_eqGroup : (Try.prog.funcs[n_laws_eqGroup]?).map (fun fn => (fn.results.toList, fn.ntmps)) = some ([.tmp 4], 21) := by kernel_rfl
-- 21 loop.example/g00850/laws.szReplicaS
abbrev n_laws_szReplicaS : Nat := 21
def c_laws_szReplicaS_l1 : AS :=
  .seq (.seq (.ops [⟨(some 12), none, .mv (.tmp 5)⟩,
    ⟨(some 13), none, .mv (.tmp 0)⟩,
    ⟨(some 14), none, .lens (.tmp 13)⟩,
    ⟨(some 15), none, .bin .lss (.tmp 12) (.tmp 14)⟩])
  (.cond (.tmp 15) (.skip) (.exit 0)))
  (.seq (.block 1 (.seq (.post [(20, 1, [(1, 8)])] (.ops [⟨(some 18), none, .mv (.tmp 0)⟩,
    ⟨(some 19), none, .mv (.tmp 5)⟩,
    ⟨(some 20), none, .ia 3 (.tmp 18) (.tmp 19)⟩,
    ⟨(some 21), none, .load (some 3) (.tmp 20)⟩,
    ⟨(some 22), none, .mv (.tmp 1)⟩,
    ⟨(some 23), none, .call 46 [(.tmp 21), (.tmp 22)]⟩,
    ⟨(some 1), none, .mv (.tmp 23)⟩]))
  (.kept [0, 1, 5] (.seq (.ops [⟨(some 24), none, .mv (.tmp 1)⟩,
    ⟨(some 25), none, .bin .lss (.tmp 24) (.const (.int .i64 0))⟩])
  (.cond (.tmp 25) (.seq (.ops [⟨(some 4), none, .mv (.const (.int .i64 (-1)))⟩])
  (.ret)) (.skip))))))
  (.kept [0, 1, 5] (.ops [⟨(some 16), none, .mv (.tmp 5)⟩,
    ⟨(some 17), none, .bin .add (.tmp 16) (.const (.int .i64 1))⟩,
    ⟨(some 5), none, .mv (.tmp 17)⟩])))
def c_laws_szReplicaS : AS :=
  .seq (.ops [⟨(some 4), none, .mv (.const (.int .i64 0))⟩])
  (.seq (.ops [⟨(some 6), none, .mv (.tmp 1)⟩,
    ⟨(some 7), none, .mv (.tmp 0)⟩,
    ⟨(some 8), none, .lens (.tmp 7)⟩,
    ⟨(some 9), none, .bin .sub (.tmp 6) (.tmp 8)⟩,
    ⟨(some 1), none, .mv (.tmp 9)⟩])
  (.seq (.seq (.ops [⟨(some 10), none, .mv (.tmp 1)⟩,
    ⟨(some 11), none, .bin .lss (.tmp 10) (.const (.int .i64 0))⟩])
  (.cond (.tmp 11) (.seq (.ops [⟨(some 4), none, .mv (.const (.int .i64 (-1)))⟩])
  (.ret)) (.skip)))
  (.seq (.seq (.ops [⟨(some 5), none, .mv (.const (.int .i64 0))⟩])
  (.block 0 (.loop 2 [(0, 0), (1, 0), (5, 0)] c_laws_szReplicaS_l1)))
  (.kept [1] (.seq (.ops [⟨(some 26), none, .mv (.tmp 1)⟩,
    ⟨(some 4), none, .mv (.tmp 26)⟩])
  (.ret))))))
theorem h_laws_szReplicaS : (Try.prog.funcs[n_laws_szReplicaS]?).bind (fun fn => fn.body.bind (comp Try.prog fn.ntmps)) = some (AS.strip c_laws_szReplicaS) := by kernel_rfl
theorem r_laws_szReplicaS : (Try.prog.funcs[n_laws_szReplicaS]?).map (fun fn => (fn.results.toList, fn.ntmps)) = some ([.tmp 4], 27) := by kernel_rfl
-- 22 loop.example/g00850/spec.GoodGroup
abbrev n_spec_GoodGroup : Nat := 22
def c_spec_GoodGroup_l1 : AS :=
  .seq (.seq (.ops [⟨(some 30), none, .mv (.tmp 3)⟩,
    ⟨(some 31), none, .fa 0 (.tmp 1)⟩,
    ⟨(some 32), none, .load none (.tmp 31)⟩,
    ⟨(some 33), none, .lens (.tmp 32)⟩,
    ⟨(some 34), none, .bin .lss (.tmp 30) (.tmp 33)⟩])
  (.cond (.tmp 34) (.skip) (.exit 0)))
  (.seq (.block 1 (.seq (.post [(40, 1, [(1, 8)])] (.rops [(none, ⟨(some 37), none, .fa 0 (.tmp 1)⟩),
    (none, ⟨(some 38), none, .load none (.tmp 37)⟩),
    (none, ⟨(some 39), none, .mv (.tmp 3)⟩),
    (none, ⟨(some 40), none, .ia 3 (.tmp 38) (.tmp 39)⟩),
    (none, ⟨(some 41), none, .load (some 3) (.tmp 40)⟩),
    (none, ⟨(some 42), none, .fa 1 (.tmp 1)⟩),
    (none, ⟨(some 43), none, .load none (.tmp 42)⟩),
    (some [], ⟨(some 44), none, .call 48 [(.tmp 41), (.tmp 43)]⟩),
    (none, ⟨(some 45), none, .not (.tmp 44)⟩)]))
  (.kept [1, 3, 45] (.cond (.tmp 45) (.seq (.ops [⟨(some 2), none, .mv (.const (.bool false))⟩])
  (.ret)) (.skip)))))
  (.kept [1, 3] (.ops [⟨(some 35), none, .mv (.tmp 3)⟩,
    ⟨(some 36), none, .bin .add (.tmp 35) (.const (.int .i64 1))⟩,
    ⟨(some 3), none, .mv (.tmp 36)⟩])))
def c_spec_GoodGroup : AS :=
  .seq (.ops [⟨(some 1), none, .box (.tmp 0)⟩,
    ⟨(some 2), none, .mv (.const (.bool false))⟩])
  (.seq (.seq (.ops [⟨(some 4), none, .fa 0 (.tmp 1)⟩,
    ⟨(some 5), none, .load none (.tmp 4)⟩,
    ⟨(some 6), none, .lens (.tmp 5)⟩,
    ⟨(some 7), none, .bin .neq (.tmp 6) (.const (.int .i64 3))⟩,
    ⟨(some 8), none, .mv (.tmp 7)⟩,
    ⟨(some 9), some (8, true), .fa 0 (.tmp 1)⟩,
    ⟨(some 10), some (8, true), .load none (.tmp 9)⟩,
    ⟨(some 11), some (8, true), .lens (.tmp 10)⟩,
    ⟨(some 12), some (8, true), .bin .neq (.tmp 11) (.const (.int .i64 5))⟩,
    ⟨(some 13), none, .pick (.tmp 8) (.tmp 12) (.const (.bool false))⟩,
    ⟨(some 14), none, .mv (.tmp 13)⟩,
    ⟨(some 15), some (14, false), .fa 1 (.tmp 1)⟩,
    ⟨(some 16), some (14, false), .load none (.tmp 15)⟩,
    ⟨(some 17), some (14, false), .call 47 [(.tmp 16), (.const (.int .i64 0)), (.const (.int .i64 200))]⟩,
    ⟨(some 18), some (14, false), .not (.tmp 17)⟩,
    ⟨(some 19), none, .pick (.tmp 14) (.const (.bool true)) (.tmp 18)⟩,
    ⟨(some 20), none, .mv (.tmp 19)⟩,
    ⟨(some 21), some (20, false), .fa 2 (.tmp 1)⟩,
    ⟨(some 22), some (20, false), .load none (.tmp 21)⟩,
    ⟨(some 23), some (20, false), .fa 0 (.tmp 1)⟩,
    ⟨(some 24), some (20, false), .load none (.tmp 23)⟩,
    ⟨(some 25), some (20, false), .lens (.tmp 24)⟩,
    ⟨(some 26), some (20, false), .bin .sub (.tmp 25) (.const (.int .i64 1))⟩,
    ⟨(some 27), some (20, false), .call 47 [(.tmp 22), (.const (.int .i64 (-1))), (.tmp 26)]⟩,
    ⟨(some 28), some (20, false), .not (.tmp 27)⟩,
    ⟨(some 29), none, .pick (.tmp 20) (.const (.bool true)) (.tmp 28)⟩])
  (.kept [1, 29] (.cond (.tmp 29) (.seq (.ops [⟨(some 2), none, .mv (.const (.bool false))⟩])
  (.ret)) (.skip))))
  (.kept [1] (.seq (.seq (.ops [⟨(some 3), none, .mv (.const (.int .i64 0))⟩])
  (.block 0 (.loop 1 [(1, 0), (3, 0)] c_spec_GoodGroup_l1)))
  (.kept [1] (.seq (.ops [⟨(some 46), none, .fa 2 (.tmp 1)⟩,
    ⟨(some 47), none, .load none (.tmp 46)⟩,
    ⟨(some 48), none, .bin .lss (.tmp 47) (.const (.int .i64 0))⟩,
    ⟨(some 49), none, .mv (.tmp 48)⟩,
    ⟨(some 50), some (49, false), .fa 0 (.tmp 1)⟩,
    ⟨(some 51), some (49, false), .load none (.tmp 50)⟩,
    ⟨(some 52), some (49, false), .fa 2 (.tmp 1)⟩,
    ⟨(some 53), some (49, false), .load none (.tmp 52)⟩,
    ⟨(some 54), some (49, false), .ia 3 (.tmp 51) (.tmp 53)⟩,
    ⟨(some 55), some (49, false), .fa 0 (.tmp 54)⟩,
    ⟨(some 56), some (49, false), .load none (.tmp 55)⟩,
    ⟨(some 57), none, .pick (.tmp 49) (.const (.bool true)) (.tmp 56)⟩,
    ⟨(some 2), none, .mv (.tmp 57)⟩])
  (.ret))))))
theorem h_spec_GoodGroup : (Try.prog.funcs[n_spec_GoodGroup]?).bind (fun fn => fn.body.bind (comp Try.prog fn.ntmps)) = some (AS.strip c_spec_GoodGroup) := by kernel_rfl
theorem r_spec_GoodGroup : (Try.prog.funcs[n_spec_GoodGroup]?).map (fun fn => (fn.results.toList, fn.ntmps)) = some ([.tmp 2], 58) := by kernel_rfl
-- 23 loop.example/g00850/spec.l16Ready
abbrev n_spec_l16Ready : Nat := 23
def c_spec_l16Ready_l1 : AS :=
  .seq (.ops [⟨(some 22), none, .bin .lss (.tmp 21) (.tmp 20)⟩])
  (.seq (.cond (.tmp 22) (.skip) (.exit 0))
  (.seq (.block 1 (.seq (.post [(23, 1, [(5, 1), (6, 3)])] (.ops [⟨(some 23), none, .ia 8 (.tmp 19) (.tmp 21)⟩,
    ⟨(some 24), none, .load (some 8) (.tmp 23)⟩,
    ⟨(some 5), none, .alloc (.agg #[.int .i64 0, .int .i64 0, .int .i64 0, .int .i64 0, .int .i64 0, .slice none 0 0, .slice none 0 0, .bool false])⟩,
    ⟨none, none, .store 8 (.tmp 5) (.tmp 24)⟩]))
  (.seq (.ops [⟨(some 25), none, .fa 0 (.tmp 5)⟩,
    ⟨(some 26), none, .load none (.tmp 25)⟩,
    ⟨(some 27), none, .fa 1 (.tmp 1)⟩,
    ⟨(some 28), none, .load none (.tmp 27)⟩,
    ⟨(some 29), none, .bin .eql (.tmp 26) (.tmp 28)⟩])
  (.cond (.tmp 29) (.seq (.ops [⟨(some 2), none, .mv (.const (.bool true))⟩])
  (.ret)) (.skip)))))
  (.kept [1, 19, 20, 21] (.ops [⟨(some 30), none, .bin .add (.tmp 21) (.const (.int .i64 1))⟩,
    ⟨(some 21), none, .mv (.tmp 30)⟩]))))
def c_spec_l16Ready : AS :=
  .seq (.ops [⟨(some 1), none, .box (.tmp 0)⟩,
    ⟨(some 2), none, .mv (.const (.bool false))⟩])
  (.seq (.seq (.ops [⟨(some 6), none, .fa 2 (.tmp 1)⟩,
    ⟨(some 7), none, .load none (.tmp 6)⟩,
    ⟨(some 8), none, .bin .lss (.tmp 7) (.const (.int .i64 0))⟩])
  (.cond (.tmp 8) (.seq (.ops [⟨(some 2), none, .mv (.const (.bool false))⟩])
  (.ret)) (.skip)))
  (.seq (.post [(13, 1, [(1, 8)])] (.ops [⟨(some 9), none, .fa 0 (.tmp 1)⟩,
    ⟨(some 10), none, .load none (.tmp 9)⟩,
    ⟨(some 11), none, .fa 2 (.tmp 1)⟩,
    ⟨(some 12), none, .load none (.tmp 11)⟩,
    ⟨(some 13), none, .ia 3 (.tmp 10) (.tmp 12)⟩,
    ⟨(some 14), none, .load (some 3) (.tmp 13)⟩,
    ⟨(some 3), none, .alloc (.agg #[.bool false, .slice none 0 0, .int .i64 0])⟩,
    ⟨none, none, .store 3 (.tmp 3) (.tmp 14)⟩]))
  (.kept [1, 3] (.seq (.seq (.ops [⟨(some 15), none, .fa 1 (.tmp 3)⟩,
    ⟨(some 16), none, .load none (.tmp 15)⟩,
    ⟨(some 17), none, .fa 2 (.tmp 3)⟩,
    ⟨(some 18), none, .load none (.tmp 17)⟩,
    ⟨(some 19), none, .sls 8 (.tmp 16) none (some (.tmp 18)) none⟩,
    ⟨(some 20), none, .lens (.tmp 19)⟩,
    ⟨(some 21), none, .mv (.const (.int .i64 0))⟩])
  (.block 0 (.loop 1 [(1, 0), (19, 0), (20, 0), (21, 0)] c_spec_l16Ready_l1)))
  (.kept [] (.seq (.ops [⟨(some 2), none, .mv (.const (.bool false))⟩])
  (.ret)))))))
theorem h_spec_l16Ready : (Try.prog.funcs[n_spec_l16Ready]?).bind (fun fn => fn.body.bind (comp Try.prog fn.ntmps)) = some (AS.strip c_spec_l16Ready) := by kernel_rfl
theorem r_spec_l16Ready : (Try.prog.funcs[n_spec_l16Ready]?).map (fun fn => (fn.results.toList, fn.ntmps)) = some ([.tmp 2], 31) := by kernel_rfl
-- 24 loop.example/g00850/laws.toReplicaS
abbrev n_laws_toReplicaS : Nat := 24
def c_laws_toReplicaS_l1 : AS :=
  .seq (.seq (.ops [⟨(some 8), none, .mv (.tmp 4)⟩,
    ⟨(some 9), none, .mv (.tmp 0)⟩,
    ⟨(some 10), none, .lens (.tmp 9)⟩,
    ⟨(some 11), none, .bin .lss (.tmp 8) (.tmp 10)⟩])
  (.cond (.tmp 11) (.skip) (.exit 0)))
  (.seq (.block 1 (.post [(21, 1, [(1, 8)]), (18, 1, [(1, 8)])] (.ops [⟨(some 14), none, .mv (.tmp 3)⟩,
    ⟨(some 15), none, .mv (.tmp 4)⟩,
    ⟨(some 16), none, .mv (.tmp 0)⟩,
    ⟨(some 17), none, .mv (.tmp 4)⟩,
    ⟨(some 18), none, .ia 3 (.tmp 16) (.tmp 17)⟩,
    ⟨(some 19), none, .load (some 3) (.tmp 18)⟩,
    ⟨(some 20), none, .call 49 [(.tmp 19)]⟩,
    ⟨(some 21), none, .ia 3 (.tmp 14) (.tmp 15)⟩,
    ⟨none, none, .store 3 (.tmp 21) (.tmp 20)⟩])))
  (.kept [0, 3, 4] (.ops [⟨(some 12), none, .mv (.tmp 4)⟩,
    ⟨(some 13), none, .bin .add (.tmp 12) (.const (.int .i64 1))⟩,
    ⟨(some 4), none, .mv (.tmp 13)⟩])))
def c_laws_toReplicaS : AS :=
  .seq (.ops [⟨(some 2), none, .mv (.const (.slice none 0 0))⟩])
  (.seq (.ops [⟨(some 5), none, .mv (.tmp 0)⟩,
    ⟨(some 6), none, .lens (.tmp 5)⟩,
    ⟨(some 7), none, .mks 3 40 (.agg #[.bool false, .slice none 0 0, .int .i64 0]) (.tmp 6) (.tmp 6)⟩,
    ⟨(some 3), none, .mv (.tmp 7)⟩])
  (.seq (.seq (.ops [⟨(some 4), none, .mv (.const (.int .i64 0))⟩])
  (.block 0 (.loop 1 [(0, 0), (3, 0), (4, 0)] c_laws_toReplicaS_l1)))
  (.kept [3] (.seq (.ops [⟨(some 22), none, .mv (.tmp 3)⟩,
    ⟨(some 2), none, .mv (.tmp 22)⟩])
  (.ret)))))
theorem h_laws_toReplicaS : (Try.prog.funcs[n_laws_toReplicaS]?).bind (fun fn => fn.body.bind (comp Try.prog fn.ntmps)) = some (AS.strip c_laws_toReplicaS) := by kernel_rfl
theorem r_laws_toReplicaS : (Try.prog.funcs[n_laws_toReplicaS]?).map (fun fn => (fn.results.toList, fn.ntmps)) = some ([.tmp 2], 23) := by kernel_rfl
-- 25 loop.example/g00850/impl.GoodGroup
abbrev n_impl_GoodGroup : Nat := 25
def c_impl_GoodGroup : AS :=
  .seq (.ops [⟨(some 1), none, .box (.tmp 0)⟩,
    ⟨(some 2), none, .mv (.const (.bool false))⟩])
  (.seq (.seq (.ops [⟨(some 3), none, .fa 0 (.tmp 1)⟩,
    ⟨(some 4), none, .load none (.tmp 3)⟩,
    ⟨(some 5), none, .lens (.tmp 4)⟩,
    ⟨(some 6), none, .call 50 [(.tmp 5)]⟩,
    ⟨(some 7), none, .not (.tmp 6)⟩,
    ⟨(some 8), none, .mv (.tmp 7)⟩,
    ⟨(some 9), some (8, false), .fa 1 (.tmp 1)⟩,
    ⟨(some 10), some (8, false), .load none (.tmp 9)⟩,
    ⟨(some 11), some (8, false), .call 51 [(.tmp 10), (.const (.int .i64 0)), (.const (.int .i64 200))]⟩,
    ⟨(some 12), some (8, false), .not (.tmp 11)⟩,
    ⟨(some 13), none, .pick (.tmp 8) (.const (.bool true)) (.tmp 12)⟩,
    ⟨(some 14), none, .mv (.tmp 13)⟩,
    ⟨(some 15), some (14, false), .fa 2 (.tmp 1)⟩,
    ⟨(some 16), some (14, false), .load none (.tmp 15)⟩,
    ⟨(some 17), some (14, false), .bin .neq (.tmp 16) (.const (.int .i64 (-1)))⟩,
    ⟨(some 18), some (14, false), .mv (.tmp 17)⟩,
    ⟨(some 19), some (18, true), .load (some 3) (.tmp 1)⟩,
    ⟨(some 20), some (18, true), .fa 2 (.tmp 1)⟩,
    ⟨(some 21), some (18, true), .load none (.tmp 20)⟩,
    ⟨(some 22), some (18, true), .call 52 [(.tmp 19), (.tmp 21)]⟩,
    ⟨(some 23), some (18, true), .mv (.tmp 22)⟩,
    ⟨(some 24), some (23, true), .fa 0 (.tmp 1)⟩,
    ⟨(some 25), some (23, true), .load none (.tmp 24)⟩,
    ⟨(some 26), some (23, true), .fa 2 (.tmp 1)⟩,
    ⟨(some 27), some (23, true), .load none (.tmp 26)⟩,
    ⟨(some 28), some (23, true), .ia 3 (.tmp 25) (.tmp 27)⟩,
    ⟨(some 29), some (23, true), .fa 0 (.tmp 28)⟩,
    ⟨(some 30), some (23, true), .load none (.tmp 29)⟩,
    ⟨(some 31), some (18, true), .pick (.tmp 23) (.tmp 30) (.const (.bool false))⟩,
    ⟨(some 32), some (18, true), .not (.tmp 31)⟩,
    ⟨(some 33), some (14, false), .pick (.tmp 18) (.tmp 32) (.const (.bool false))⟩,
    ⟨(some 34), none, .pick (.tmp 14) (.const (.bool true)) (.tmp 33)⟩])
  (.kept [1, 34] (.cond (.tmp 34) (.seq (.ops [⟨(some 2), none, .mv (.const (.bool false))⟩])
  (.ret)) (.skip))))
  (.kept [1] (.seq (.ops [⟨(some 35), none, .fa 0 (.tmp 1)⟩,
    ⟨(some 36), none, .load none (.tmp 35)⟩,
    ⟨(some 37), none, .mkf 54 [(.tmp 1)]⟩,
    ⟨(some 38), none, .call 53 [(.tmp 36), (.tmp 37)]⟩,
    ⟨(some 39), none, .not (.tmp 38)⟩,
    ⟨(some 2), none, .mv (.tmp 39)⟩])
  (.ret))))
theorem h_impl_GoodGroup : (Try.prog.funcs[n_impl_GoodGroup]?).bind (fun fn => fn.body.bind (comp Try.prog fn.ntmps)) = some (AS.strip c_impl_GoodGroup) := by kernel_rfl
theorem r_impl_GoodGroup : (Try.prog.funcs[n_impl_GoodGroup]?).map (fun fn => (fn.results.toList, fn.ntmps)) = some ([.tmp 2], 40) := by kernel_rfl
-- 26 (loop.example/g00850/impl.Group).isReady
abbrev n_impl_Group_isReady : Nat := 26
def c_impl_Group_isReady : AS :=
  .seq (.ops [⟨(some 1), none, .box (.tmp 0)⟩,
    ⟨(some 2), none, .mv (.const (.bool false))⟩])
  (.seq (.post [(11, 1, [(1, 8)])] (.ops [⟨(some 3), none, .fa 2 (.tmp 1)⟩,
    ⟨(some 4), none, .load none (.tmp 3)⟩,
    ⟨(some 5), none, .bin .geq (.tmp 4) (.const (.int .i64 0))⟩,
    ⟨(some 6), none, .mv (.tmp 5)⟩,
    ⟨(some 7), some (6, true), .fa 0 (.tmp 1)⟩,
    ⟨(some 8), some (6, true), .load none (.tmp 7)⟩,
    ⟨(some 9), some (6, true), .fa 2 (.tmp 1)⟩,
    ⟨(some 10), some (6, true), .load none (.tmp 9)⟩,
    ⟨(some 11), some (6, true), .ia 3 (.tmp 8) (.tmp 10)⟩,
    ⟨(some 12), some (6, true), .load (some 3) (.tmp 11)⟩,
    ⟨(some 13), some (6, true), .call 57 [(.tmp 12)]⟩,
    ⟨(some 14), some (6, true), .mkf 58 [(.tmp 1)]⟩,
    ⟨(some 15), some (6, true), .call 56 [(.tmp 13), (.tmp 14)]⟩,
    ⟨(some 16), none, .pick (.tmp 6) (.tmp 15) (.const (.bool false))⟩,
    ⟨(some 2), none, .mv (.tmp 16)⟩]))
  (.ret))
theorem h_impl_Group_isReady : (Try.prog.funcs[n_impl_Group_isReady]?).bind (fun fn => fn.body.bind (comp Try.prog fn.ntmps)) = some (AS.strip c_impl_Group_isReady) := by kernel_rfl
theorem r_impl_Group_isReady : (Try.prog.funcs[n_impl_Group_isReady]?).map (fun fn => (fn.results.toList, fn.ntmps)) = some ([.tmp 2], 17) := by kernel_rfl
-- 27 loop.example/g00850/laws.eqReplicaS
abbrev n_laws_eqReplicaS : Nat := 27
def c_laws_eqReplicaS_l1 : AS :=
  .seq (.seq (.ops [⟨(some 11), none, .mv (.tmp 5)⟩,
    ⟨(some 12), none, .mv (.tmp 0)⟩,
    ⟨(some 13), none, .lens (.tmp 12)⟩,
    ⟨(some 14), none, .bin .lss (.tmp 11) (.tmp 13)⟩])
  (.cond (.tmp 14) (.skip) (.exit 0)))
  (.seq (.block 1 (.seq (.post [(23, 1, [(1, 8)]), (19, 1, [(1, 8)])] (.rops [(none, ⟨(some 17), none, .mv (.tmp 0)⟩),
    (none, ⟨(some 18), none, .mv (.tmp 5)⟩),
    (none, ⟨(some 19), none, .ia 3 (.tmp 17) (.tmp 18)⟩),
    (none, ⟨(some 20), none, .load (some 3) (.tmp 19)⟩),
    (none, ⟨(some 21), none, .mv (.tmp 1)⟩),
    (none, ⟨(some 22), none, .mv (.tmp 5)⟩),
    (none, ⟨(some 23), none, .ia 3 (.tmp 21) (.tmp 22)⟩),
    (none, ⟨(some 24), none, .load (some 3) (.tmp 23)⟩),
    (some [], ⟨(some 25), none, .call 59 [(.tmp 20), (.tmp 24)]⟩),
    (none, ⟨(some 26), none, .not (.tmp 25)⟩)]))
  (.kept [0, 1, 5, 26] (.cond (.tmp 26) (.seq (.ops [⟨(some 4), none, .mv (.const (.bool false))⟩])
  (.ret)) (.skip)))))
  (.kept [0, 1, 5] (.ops [⟨(some 15), none, .mv (.tmp 5)⟩,
    ⟨(some 16), none, .bin .add (.tmp 15) (.const (.int .i64 1))⟩,
    ⟨(some 5), none, .mv (.tmp 16)⟩])))
def c_laws_eqReplicaS : AS :=
  .seq (.ops [⟨(some 4), none, .mv (.const (.bool false))⟩])
  (.seq (.seq (.ops [⟨(some 6), none, .mv (.tmp 0)⟩,
    ⟨(some 7), none, .lens (.tmp 6)⟩,
    ⟨(some 8), none, .mv (.tmp 1)⟩,
    ⟨(some 9), none, .lens (.tmp 8)⟩,
    ⟨(some 10), none, .bin .neq (.tmp 7) (.tmp 9)⟩])
  (.cond (.tmp 10) (.seq (.ops [⟨(some 4), none, .mv (.const (.bool false))⟩])
  (.ret)) (.skip)))
  (.kept [0, 1] (.seq (.seq (.ops [⟨(some 5), none, .mv (.const (.int .i64 0))⟩])
  (.block 0 (.loop 2 [(0, 0), (1, 0), (5, 0)] c_laws_eqReplicaS_l1)))
  (.kept [] (.seq (.ops [⟨(some 4), none, .mv (.const (.bool true))⟩])
  (.ret))))))
theorem h_laws_eqReplicaS : (Try.prog.funcs[n_laws_eqReplicaS]?).bind (fun fn => fn.body.bind (comp Try.prog fn.ntmps)) = some (AS.strip c_laws_eqReplicaS) := by kernel_rfl
theorem r_laws_eqReplicaS : (Try.prog.funcs[n_laws_eqReplicaS]?).map (fun fn => (fn.results.toList, fn.ntmps)) = some ([.tmp 4], 27) := by kernel_rfl
-- 46 loop.example/g00850/laws.szReplica
abbrev n_laws_szReplica : Nat := 46
def c_laws_szReplica : AS :=
  .seq (.ops [⟨(some 2), none, .box (.tmp 0)⟩,
    ⟨(some 4), none, .mv (.const (.int .i64 0))⟩])
  (.seq (.ops [⟨(some 5), none, .fa 1 (.tmp 2)⟩,
    ⟨(some 6), none, .load none (.tmp 5)⟩,
    ⟨(some 7), none, .mv (.tmp 1)⟩,
    ⟨(some 8), none, .call 80 [(.tmp 6), (.tmp 7)]⟩,
    ⟨(some 1), none, .mv (.tmp 8)⟩])
  (.seq (.seq (.ops [⟨(some 9), none, .mv (.tmp 1)⟩,
    ⟨(some 10), none, .bin .lss (.tmp 9) (.const (.int .i64 0))⟩])
  (.cond (.tmp 10) (.seq (.ops [⟨(some 4), none, .mv (.const (.int .i64 (-1)))⟩])
  (.ret)) (.skip)))
  (.seq (.ops [⟨(some 11), none, .mv (.tmp 1)⟩,
    ⟨(some 4), none, .mv (.tmp 11)⟩])
  (.ret))))
theorem h_laws_szReplica : (Try.prog.funcs[n_laws_szReplica]?).bind (fun fn => fn.body.bind (comp Try.prog fn.ntmps)) = some (AS.strip c_laws_szReplica) := by kernel_rfl
theorem r_laws_szReplica : (Try.prog.funcs[n_laws_szReplica]?).map (fun fn => (fn.results.toList, fn.ntmps)) = some ([.tmp 4], 12) := by kernel_rfl
-- 47 loop.example/g00850/spec.l1In
abbrev n_spec_l1In : Nat := 47
def c_spec_l1In : AS :=
  .seq (.ops [⟨(some 6), none, .mv (.const (.bool false))⟩])
  (.seq (.ops [⟨(some 7), none, .mv (.tmp 0)⟩,
    ⟨(some 8), none, .mv (.tmp 1)⟩,
    ⟨(some 9), none, .bin .geq (.tmp 7) (.tmp 8)⟩,
    ⟨(some 10), none, .mv (.tmp 9)⟩,
    ⟨(some 11), some (10, true), .mv (.tmp 0)⟩,
    ⟨(some 12), some (10, true), .mv (.tmp 2)⟩,
    ⟨(some 13), some (10, true), .bin .leq (.tmp 11) (.tmp 12)⟩,
    ⟨(some 14), none, .pick (.tmp 10) (.tmp 13) (.const (.bool false))⟩,
    ⟨(some 6), none, .mv (.tmp 14)⟩])
  (.ret))
theorem h_spec_l1In : (Try.prog.funcs[n_spec_l1In]?).bind (fun fn => fn.body.bind (comp Try.prog fn.ntmps)) = some (AS.strip c_spec_l1In) := by kernel_rfl
theorem r_spec_l1In : (Try.prog.funcs[n_spec_l1In]?).map (fun fn => (fn.results.toList, fn.ntmps)) = some ([.tmp 6], 15) := by kernel_rfl
-- 48 loop.example/g00850/spec.l9GoodRep
abbrev n_spec_l9GoodRep : Nat := 48
def c_spec_l9GoodRep_l1 : AS :=
  .seq (.seq (.ops [⟨(some 20), none, .mv (.tmp 6)⟩,
    ⟨(some 21), none, .fa 1 (.tmp 2)⟩,
    ⟨(some 22), none, .load none (.tmp 21)⟩,
    ⟨(some 23), none, .lens (.tmp 22)⟩,
    ⟨(some 24), none, .bin .lss (.tmp 20) (.tmp 23)⟩])
  (.cond (.tmp 24) (.skip) (.exit 0)))
  (.seq (.block 1 (.seq (.seq (.post [(41, 1, [(5, 1), (6, 3)])] (.ops [⟨(some 27), none, .fa 1 (.tmp 2)⟩,
    ⟨(some 28), none, .load none (.tmp 27)⟩,
    ⟨(some 29), none, .mv (.tmp 6)⟩,
    ⟨(some 30), none, .ia 8 (.tmp 28) (.tmp 29)⟩,
    ⟨(some 31), none, .fa 0 (.tmp 30)⟩,
    ⟨(some 32), none, .load none (.tmp 31)⟩,
    ⟨(some 33), none, .mv (.tmp 5)⟩,
    ⟨(some 34), none, .mv (.tmp 1)⟩,
    ⟨(some 35), none, .call 47 [(.tmp 32), (.tmp 33), (.tmp 34)]⟩,
    ⟨(some 36), none, .not (.tmp 35)⟩,
    ⟨(some 37), none, .mv (.tmp 36)⟩,
    ⟨(some 38), some (37, false), .fa 1 (.tmp 2)⟩,
    ⟨(some 39), some (37, false), .load none (.tmp 38)⟩,
    ⟨(some 40), some (37, false), .mv (.tmp 6)⟩,
    ⟨(some 41), some (37, false), .ia 8 (.tmp 39) (.tmp 40)⟩,
    ⟨(some 42), some (37, false), .fa 1 (.tmp 41)⟩,
    ⟨(some 43), some (37, false), .load (some 7) (.tmp 42)⟩,
    ⟨(some 44), some (37, false), .call 81 [(.tmp 43)]⟩,
    ⟨(some 45), some (37, false), .not (.tmp 44)⟩,
    ⟨(some 46), none, .pick (.tmp 37) (.const (.bool true)) (.tmp 45)⟩]))
  (.kept [1, 2, 6, 46] (.cond (.tmp 46) (.seq (.ops [⟨(some 4), none, .mv (.const (.bool false))⟩])
  (.ret)) (.skip))))
  (.kept [1, 2, 6] (.ops [⟨(some 47), none, .fa 1 (.tmp 2)⟩,
    ⟨(some 48), none, .load none (.tmp 47)⟩,
    ⟨(some 49), none, .mv (.tmp 6)⟩,
    ⟨(some 50), none, .ia 8 (.tmp 48) (.tmp 49)⟩,
    ⟨(some 51), none, .fa 0 (.tmp 50)⟩,
    ⟨(some 52), none, .load none (.tmp 51)⟩,
    ⟨(some 5), none, .mv (.tmp 52)⟩]))))
  (.kept [1, 2, 5, 6] (.ops [⟨(some 25), none, .mv (.tmp 6)⟩,
    ⟨(some 26), none, .bin .add (.tmp 25) (.const (.int .i64 1))⟩,
    ⟨(some 6), none, .mv (.tmp 26)⟩])))
def c_spec_l9GoodRep : AS :=
  .seq (.ops [⟨(some 2), none, .box (.tmp 0)⟩,
    ⟨(some 4), none, .mv (.const (.bool false))⟩])
  (.seq (.ops [⟨(some 5), none, .mv (.const (.int .i64 1))⟩])
  (.seq (.seq (.ops [⟨(some 7), none, .fa 1 (.tmp 2)⟩,
    ⟨(some 8), none, .load none (.tmp 7)⟩,
    ⟨(some 9), none, .lens (.tmp 8)⟩,
    ⟨(some 10), none, .bin .gtr (.tmp 9) (.const (.int .i64 60))⟩,
    ⟨(some 11), none, .mv (.tmp 10)⟩,
    ⟨(some 12), some (11, false), .fa 2 (.tmp 2)⟩,
    ⟨(some 13), some (11, false), .load none (.tmp 12)⟩,
    ⟨(some 14), some (11, false), .fa 1 (.tmp 2)⟩,
    ⟨(some 15), some (11, false), .load none (.tmp 14)⟩,
    ⟨(some 16), some (11, false), .lens (.tmp 15)⟩,
    ⟨(some 17), some (11, false), .call 47 [(.tmp 13), (.const (.int .i64 0)), (.tmp 16)]⟩,
    ⟨(some 18), some (11, false), .not (.tmp 17)⟩,
    ⟨(some 19), none, .pick (.tmp 11) (.const (.bool true)) (.tmp 18)⟩])
  (.kept [1, 2, 5, 19] (.cond (.tmp 19) (.seq (.ops [⟨(some 4), none, .mv (.const (.bool false))⟩])
  (.ret)) (.skip))))
  (.kept [1, 2, 5] (.seq (.seq (.ops [⟨(some 6), none, .mv (.const (.int .i64 0))⟩])
  (.block 0 (.loop 2 [(1, 0), (2, 0), (5, 0), (6, 0)] c_spec_l9GoodRep_l1)))
  (.kept [] (.seq (.ops [⟨(some 4), none, .mv (.const (.bool true))⟩])
  (.ret)))))))
theorem h_spec_l9GoodRep : (Try.prog.funcs[n_spec_l9GoodRep]?).bind (fun fn => fn.body.bind (comp Try.prog fn.ntmps)) = some (AS.strip c_spec_l9GoodRep) := by kernel_rfl
theorem r_spec_l9GoodRep : (Try.prog.funcs[n_spec_l9GoodRep]?).map (fun fn => (fn.results.toList, fn.ntmps)) = some ([.tmp 4], 53) := by kernel_rfl
-- 49 loop.example/g00850/laws.toReplica
abbrev n_laws_toReplica : Nat := 49
def c_laws_toReplica : AS :=
  .seq (.ops [⟨(some 1), none, .box (.tmp 0)⟩,
    ⟨(some 2), none, .alloc (.agg #[.bool false, .slice none 0 0, .int .i64 0])⟩])
  (.seq (.ops [⟨(some 3), none, .alloc (.agg #[.bool false, .slice none 0 0, .int .i64 0])⟩])
  (.seq (.ops [⟨(some 4), none, .fa 0 (.tmp 1)⟩,
    ⟨(some 5), none, .load none (.tmp 4)⟩,
    ⟨(some 6), none, .fa 0 (.tmp 3)⟩,
    ⟨none, none, .store 1 (.tmp 6) (.tmp 5)⟩])
  (.seq (.ops [⟨(some 7), none, .fa 1 (.tmp 1)⟩,
    ⟨(some 8), none, .load none (.tmp 7)⟩,
    ⟨(some 9), none, .call 82 [(.tmp 8)]⟩,
    ⟨(some 10), none, .fa 1 (.tmp 3)⟩,
    ⟨none, none, .store 1 (.tmp 10) (.tmp 9)⟩])
  (.seq (.ops [⟨(some 11), none, .fa 2 (.tmp 1)⟩,
    ⟨(some 12), none, .load none (.tmp 11)⟩,
    ⟨(some 13), none, .fa 2 (.tmp 3)⟩,
    ⟨none, none, .store 1 (.tmp 13) (.tmp 12)⟩])
  (.seq (.ops [⟨(some 14), none, .load (some 3) (.tmp 3)⟩,
    ⟨none, none, .store 3 (.tmp 2) (.tmp 14)⟩])
  (.ret))))))
theorem h_laws_toReplica : (Try.prog.funcs[n_laws_toReplica]?).bind (fun fn => fn.body.bind (comp Try.prog fn.ntmps)) = some (AS.strip c_laws_toReplica) := by kernel_rfl
theorem r_laws_toReplica : (Try.prog.funcs[n_laws_toReplica]?).map (fun fn => (fn.results.toList, fn.ntmps)) = some ([.cell 2 84], 15) := by kernel_rfl
-- 50 loop.example/g00850/impl.isMany
abbrev n_impl_isMany : Nat := 50
def c_impl_isMany : AS :=
  .seq (.ops [⟨(some 2), none, .mv (.const (.bool false))⟩])
  (.seq (.ops [⟨(some 3), none, .mv (.tmp 0)⟩,
    ⟨(some 4), none, .bin .eql (.tmp 3) (.const (.int .i64 3))⟩,
    ⟨(some 5), none, .mv (.tmp 4)⟩,
    ⟨(some 6), some (5, false), .mv (.tmp 0)⟩,
    ⟨(some 7), some (5, false), .bin .eql (.tmp 6) (.const (.int .i64 5))⟩,
    ⟨(some 8), none, .pick (.tmp 5) (.const (.bool true)) (.tmp 7)⟩,
    ⟨(some 2), none, .mv (.tmp 8)⟩])
  (.ret))
theorem h_impl_isMany : (Try.prog.funcs[n_impl_isMany]?).bind (fun fn => fn.body.bind (comp Try.prog fn.ntmps)) = some (AS.strip c_impl_isMany) := by kernel_rfl
theorem r_impl_isMany : (Try.prog.funcs[n_impl_isMany]?).map (fun fn => (fn.results.toList, fn.ntmps)) = some ([.tmp 2], 9) := by kernel_rfl
-- 51 loop.example/g00850/impl.within
abbrev n_impl_within : Nat := 51
def c_impl_within : AS :=
  .seq (.ops [⟨(some 6), none, .mv (.const (.bool false))⟩])
  (.seq (.ops [⟨(some 7), none, .mv (.tmp 0)⟩,
    ⟨(some 8), none, .mv (.tmp 1)⟩,
    ⟨(some 9), none, .bin .geq (.tmp 7) (.tmp 8)⟩,
    ⟨(some 10), none, .mv (.tmp 9)⟩,
    ⟨(some 11), some (10, true), .mv (.tmp 0)⟩,
    ⟨(some 12), some (10, true), .mv (.tmp 2)⟩,
    ⟨(some 13), some (10, true), .bin .leq (.tmp 11) (.tmp 12)⟩,
    ⟨(some 14), none, .pick (.tmp 10) (.tmp 13) (.const (.bool false))⟩,
    ⟨(some 6), none, .mv (.tmp 14)⟩])
  (.ret))
theorem h_impl_within : (Try.prog.funcs[n_impl_within]?).bind (fun fn => fn.body.bind (comp Try.prog fn.ntmps)) = some (AS.strip c_impl_within) := by kernel_rfl
theorem r_impl_within : (Try.prog.funcs[n_impl_within]?).map (fun fn => (fn.results.toList, fn.ntmps)) = some ([.tmp 6], 15) := by kernel_rfl
-- 52 (loop.example/g00850/impl.Group).isRep
abbrev n_impl_Group_isRep : Nat := 52
def c_impl_Group_isRep : AS :=
  .seq (.ops [⟨(some 2), none, .box (.tmp 0)⟩,
    ⟨(some 4), none, .mv (.const (.bool false))⟩])
  (.seq (.ops [⟨(some 5), none, .mv (.tmp 1)⟩,
    ⟨(some 6), none, .fa 0 (.tmp 2)⟩,
    ⟨(some 7), none, .load none (.tmp 6)⟩,
    ⟨(some 8), none, .lens (.tmp 7)⟩,
    ⟨(some 9), none, .bin .sub (.tmp 8) (.const (.int .i64 1))⟩,
    ⟨(some 10), none, .call 51 [(.tmp 5), (.const (.int .i64 0)), (.tmp 9)]⟩,
    ⟨(some 4), none, .mv (.tmp 10)⟩])
  (.ret))
theorem h_impl_Group_isRep : (Try.prog.funcs[n_impl_Group_isRep]?).bind (fun fn => fn.body.bind (comp Try.prog fn.ntmps)) = some (AS.strip c_impl_Group_isRep) := by kernel_rfl
theorem r_impl_Group_isRep : (Try.prog.funcs[n_impl_Group_isRep]?).map (fun fn => (fn.results.toList, fn.ntmps)) = some ([.tmp 4], 11) := by kernel_rfl
-- 53 slices.ContainsFunc[[]loop.example/g00850/impl.Replica,loop.example/g00850/impl.Replica]
abbrev n_slices_ContainsFunc___impl_Replica_impl_Replica_ : Nat := 53
def c_slices_ContainsFunc___impl_Replica_impl_Replica_ : AS :=
  .seq (.ops [⟨(some 4), none, .mv (.const (.bool false))⟩])
  (.seq (.ops [⟨(some 5), none, .mv (.tmp 0)⟩,
    ⟨(some 6), none, .mv (.tmp 1)⟩,
    ⟨(some 7), none, .call 83 [(.tmp 5), (.tmp 6)]⟩,
    ⟨(some 8), none, .bin .geq (.tmp 7) (.const (.int .i64 0))⟩,
    ⟨(some 4), none, .mv (.tmp 8)⟩])
  (.ret))
theorem h_slices_ContainsFunc___impl_Replica_impl_Replica_ : (Try.prog.funcs[n_slices_ContainsFunc___impl_Replica_impl_Replica_]?).bind (fun fn => fn.body.bind (comp Try.prog fn.ntmps)) = some (AS.strip c_slices_ContainsFunc___impl_Replica_impl_Replica_) := by kernel_rfl
theorem r_slices_ContainsFunc___impl_Replica_impl_Replica_ : (Try.prog.funcs[n_slices_ContainsFunc___impl_Replica_impl_Replica_]?).map (fun fn => (fn.results.toList, fn.ntmps)) = some ([.tmp 4], 9) := by kernel_rfl
-- 54 loop.example/g00850/impl.GoodGroup$1
abbrev n_impl_GoodGroup_1 : Nat := 54
def c_impl_GoodGroup_1 : AS :=
  .seq (.ops [⟨(some 2), none, .box (.tmp 0)⟩,
    ⟨(some 3), none, .mv (.const (.bool false))⟩])
  (.seq (.ops [⟨(some 4), none, .fa 1 (.tmp 2)⟩,
    ⟨(some 5), none, .load none (.tmp 4)⟩,
    ⟨(some 6), none, .fa 1 (.tmp 1)⟩,
    ⟨(some 7), none, .load none (.tmp 6)⟩,
    ⟨(some 8), none, .call 55 [(.tmp 5), (.tmp 7)]⟩,
    ⟨(some 9), none, .not (.tmp 8)⟩,
    ⟨(some 10), none, .mv (.tmp 9)⟩,
    ⟨(some 11), some (10, false), .fa 2 (.tmp 2)⟩,
    ⟨(some 12), some (10, false), .load none (.tmp 11)⟩,
    ⟨(some 13), some (10, false), .fa 1 (.tmp 2)⟩,
    ⟨(some 14), some (10, false), .load none (.tmp 13)⟩,
    ⟨(some 15), some (10, false), .lens (.tmp 14)⟩,
    ⟨(some 16), some (10, false), .call 51 [(.tmp 12), (.const (.int .i64 0)), (.tmp 15)]⟩,
    ⟨(some 17), some (10, false), .not (.tmp 16)⟩,
    ⟨(some 18), none, .pick (.tmp 10) (.const (.bool true)) (.tmp 17)⟩,
    ⟨(some 3), none, .mv (.tmp 18)⟩])
  (.ret))
theorem h_impl_GoodGroup_1 : (Try.prog.funcs[n_impl_GoodGroup_1]?).bind (fun fn => fn.body.bind (comp Try.prog fn.ntmps)) = some (AS.strip c_impl_GoodGroup_1) := by kernel_rfl
theorem r_impl_GoodGroup_1 : (Try.prog.funcs[n_impl_GoodGroup_1]?).map (fun fn => (fn.results.toList, fn.ntmps)) = some ([.tmp 3], 19) := by kernel_rfl
-- 55 loop.example/g00850/impl.isLog
abbrev n_impl_isLog : Nat := 55
def c_impl_isLog_l1 : AS :=
  .seq (.ops [⟨(some 10), none, .bin .lss (.tmp 9) (.tmp 8)⟩])
  (.seq (.cond (.tmp 10) (.skip) (.exit 0))
  (.seq (.block 1 (.seq (.post [(12, 1, [(5, 1), (6, 3)])] (.ops [⟨(some 11), none, .mv (.tmp 9)⟩,
    ⟨(some 12), none, .ia 8 (.tmp 7) (.tmp 9)⟩,
    ⟨(some 13), none, .load (some 8) (.tmp 12)⟩,
    ⟨(some 6), none, .alloc (.agg #[.int .i64 0, .int .i64 0, .int .i64 0, .int .i64 0, .int .i64 0, .slice none 0 0, .slice none 0 0, .bool false])⟩,
    ⟨(some 5), none, .mv (.tmp 11)⟩,
    ⟨none, none, .store 8 (.tmp 6) (.tmp 13)⟩]))
  (.seq (.rops [(none, ⟨(some 14), none, .fa 0 (.tmp 6)⟩),
    (none, ⟨(some 15), none, .load none (.tmp 14)⟩),
    (none, ⟨(some 16), none, .mv (.tmp 1)⟩),
    (some [], ⟨(some 17), none, .call 51 [(.tmp 15), (.const (.int .i64 1)), (.tmp 16)]⟩),
    (none, ⟨(some 18), none, .not (.tmp 17)⟩),
    (none, ⟨(some 19), none, .mv (.tmp 18)⟩),
    (none, ⟨(some 20), some (19, false), .fa 1 (.tmp 6)⟩),
    (none, ⟨(some 21), some (19, false), .load (some 7) (.tmp 20)⟩),
    (some [], ⟨(some 22), some (19, false), .call 84 [(.tmp 21)]⟩),
    (none, ⟨(some 23), some (19, false), .not (.tmp 22)⟩),
    (none, ⟨(some 24), none, .pick (.tmp 19) (.const (.bool true)) (.tmp 23)⟩),
    (none, ⟨(some 25), none, .mv (.tmp 24)⟩),
    (none, ⟨(some 26), some (25, false), .mv (.tmp 5)⟩),
    (none, ⟨(some 27), some (25, false), .bin .gtr (.tmp 26) (.const (.int .i64 0))⟩),
    (none, ⟨(some 28), some (25, false), .mv (.tmp 27)⟩),
    (none, ⟨(some 29), some (28, true), .fa 0 (.tmp 6)⟩),
    (none, ⟨(some 30), some (28, true), .load none (.tmp 29)⟩),
    (none, ⟨(some 31), some (28, true), .mv (.tmp 0)⟩),
    (none, ⟨(some 32), some (28, true), .mv (.tmp 5)⟩),
    (none, ⟨(some 33), some (28, true), .bin .sub (.tmp 32) (.const (.int .i64 1))⟩),
    (none, ⟨(some 34), some (28, true), .ia 8 (.tmp 31) (.tmp 33)⟩),
    (none, ⟨(some 35), some (28, true), .fa 0 (.tmp 34)⟩),
    (none, ⟨(some 36), some (28, true), .load none (.tmp 35)⟩),
    (none, ⟨(some 37), some (28, true), .bin .lss (.tmp 30) (.tmp 36)⟩),
    (none, ⟨(some 38), some (25, false), .pick (.tmp 28) (.tmp 37) (.const (.bool false))⟩),
    (none, ⟨(some 39), none, .pick (.tmp 25) (.const (.bool true)) (.tmp 38)⟩)])
  (.kept [0, 1, 7, 8, 9, 39] (.cond (.tmp 39) (.seq (.ops [⟨(some 4), none, .mv (.const (.bool false))⟩])
  (.ret)) (.skip))))))
  (.kept [0, 1, 7, 8, 9] (.ops [⟨(some 40), none, .bin .add (.tmp 9) (.const (.int .i64 1))⟩,
    ⟨(some 9), none, .mv (.tmp 40)⟩]))))
def c_impl_isLog : AS :=
  .seq (.ops [⟨(some 4), none, .mv (.const (.bool false))⟩])
  (.seq (.seq (.ops [⟨(some 7), none, .mv (.tmp 0)⟩,
    ⟨(some 8), none, .lens (.tmp 7)⟩,
    ⟨(some 9), none, .mv (.const (.int .i64 0))⟩])
  (.block 0 (.loop 2 [(0, 0), (1, 0), (7, 0), (8, 0), (9, 0)] c_impl_isLog_l1)))
  (.kept [0] (.seq (.ops [⟨(some 41), none, .mv (.tmp 0)⟩,
    ⟨(some 42), none, .lens (.tmp 41)⟩,
    ⟨(some 43), none, .bin .leq (.tmp 42) (.const (.int .i64 60))⟩,
    ⟨(some 4), none, .mv (.tmp 43)⟩])
  (.ret))))
theorem h_impl_isLog : (Try.prog.funcs[n_impl_isLog]?).bind (fun fn => fn.body.bind (comp Try.prog fn.ntmps)) = some (AS.strip c_impl_isLog) := by kernel_rfl
theorem r_impl_isLog : (Try.prog.funcs[n_impl_isLog]?).map (fun fn => (fn.results.toList, fn.ntmps)) = some ([.tmp 4], 44) := by kernel_rfl
-- 56 slices.ContainsFunc[[]loop.example/g00850/impl.Entry,loop.example/g00850/impl.Entry]
abbrev n_slices_ContainsFunc___impl_Entry_impl_Entry_ : Nat := 56
def c_slices_ContainsFunc___impl_Entry_impl_Entry_ : AS :=
  .seq (.ops [⟨(some 4), none, .mv (.const (.bool false))⟩])
  (.seq (.ops [⟨(some 5), none, .mv (.tmp 0)⟩,
    ⟨(some 6), none, .mv (.tmp 1)⟩,
    ⟨(some 7), none, .call 85 [(.tmp 5), (.tmp 6)]⟩,
    ⟨(some 8), none, .bin .geq (.tmp 7) (.const (.int .i64 0))⟩,
    ⟨(some 4), none, .mv (.tmp 8)⟩])
  (.ret))
theorem h_slices_ContainsFunc___impl_Entry_impl_Entry_ : (Try.prog.funcs[n_slices_ContainsFunc___impl_Entry_impl_Entry_]?).bind (fun fn => fn.body.bind (comp Try.prog fn.ntmps)) = some (AS.strip c_slices_ContainsFunc___impl_Entry_impl_Entry_) := by kernel_rfl
theorem r_slices_ContainsFunc___impl_Entry_impl_Entry_ : (Try.prog.funcs[n_slices_ContainsFunc___impl_Entry_impl_Entry_]?).map (fun fn => (fn.results.toList, fn.ntmps)) = some ([.tmp 4], 9) := by kernel_rfl
-- 57 (loop.example/g00850/impl.Replica).sure
abbrev n_impl_Replica_sure : Nat := 57
def c_impl_Replica_sure : AS :=
  .seq (.ops [⟨(some 1), none, .box (.tmp 0)⟩,
    ⟨(some 2), none, .mv (.const (.slice none 0 0))⟩])
  (.seq (.ops [⟨(some 3), none, .fa 1 (.tmp 1)⟩,
    ⟨(some 4), none, .load none (.tmp 3)⟩,
    ⟨(some 5), none, .fa 2 (.tmp 1)⟩,
    ⟨(some 6), none, .load none (.tmp 5)⟩,
    ⟨(some 7), none, .sls 8 (.tmp 4) none (some (.tmp 6)) none⟩,
    ⟨(some 2), none, .mv (.tmp 7)⟩])
  (.ret))
theorem h_impl_Replica_sure : (Try.prog.funcs[n_impl_Replica_sure]?).bind (fun fn => fn.body.bind (comp Try.prog fn.ntmps)) = some (AS.strip c_impl_Replica_sure) := by kernel_rfl
theorem r_impl_Replica_sure : (Try.prog.funcs[n_impl_Replica_sure]?).map (fun fn => (fn.results.toList, fn.ntmps)) = some ([.tmp 2], 8) := by kernel_rfl
-- 58 (loop.example/g00850/impl.Group).isReady$1
abbrev n_impl_Group_isReady_1 : Nat := 58
def c_impl_Group_isReady_1 : AS :=
  .seq (.ops [⟨(some 2), none, .box (.tmp 0)⟩,
    ⟨(some 3), none, .mv (.const (.bool false))⟩])
  (.seq (.ops [⟨(some 4), none, .fa 0 (.tmp 2)⟩,
    ⟨(some 5), none, .load none (.tmp 4)⟩,
    ⟨(some 6), none, .fa 1 (.tmp 1)⟩,
    ⟨(some 7), none, .load none (.tmp 6)⟩,
    ⟨(some 8), none, .bin .eql (.tmp 5) (.tmp 7)⟩,
    ⟨(some 3), none, .mv (.tmp 8)⟩])
  (.ret))
theorem h_impl_Group_isReady_1 : (Try.prog.funcs[n_impl_Group_isReady_1]?).bind (fun fn => fn.body.bind (comp Try.prog fn.ntmps)) = some (AS.strip c_impl_Group_isReady_1) := by kernel_rfl
theorem r_impl_Group_isReady_1 : (Try.prog.funcs[n_impl_Group_isReady_1]?).map (fun fn => (fn.results.toList, fn.ntmps)) = some ([.tmp 3], 9) := by kernel_rfl
-- 59 loop.example/g00850/laws.eqReplica
abbrev n_laws_eqReplica : Nat := 59
def c_laws_eqReplica : AS :=
  .seq (.ops [⟨(some 2), none, .box (.tmp 0)⟩,
    ⟨(some 3), none, .box (.tmp 1)⟩,
    ⟨(some 4), none, .mv (.const (.bool false))⟩])
  (.seq (.seq (.ops [⟨(some 5), none, .fa 0 (.tmp 2)⟩,
    ⟨(some 6), none, .load none (.tmp 5)⟩,
    ⟨(some 7), none, .fa 0 (.tmp 3)⟩,
    ⟨(some 8), none, .load none (.tmp 7)⟩,
    ⟨(some 9), none, .eqb true (.tmp 6) (.tmp 8)⟩])
  (.cond (.tmp 9) (.seq (.ops [⟨(some 4), none, .mv (.const (.bool false))⟩])
  (.ret)) (.skip)))
  (.kept [2, 3] (.seq (.seq (.ops [⟨(some 10), none, .fa 1 (.tmp 2)⟩,
    ⟨(some 11), none, .load none (.tmp 10)⟩,
    ⟨(some 12), none, .fa 1 (.tmp 3)⟩,
    ⟨(some 13), none, .load none (.tmp 12)⟩,
    ⟨(some 14), none, .call 86 [(.tmp 11), (.tmp 13)]⟩,
    ⟨(some 15), none, .not (.tmp 14)⟩])
  (.cond (.tmp 15) (.seq (.ops [⟨(some 4), none, .mv (.const (.bool false))⟩])
  (.ret)) (.skip)))
  (.kept [2, 3] (.seq (.seq (.ops [⟨(some 16), none, .fa 2 (.tmp 2)⟩,
    ⟨(some 17), none, .load none (.tmp 16)⟩,
    ⟨(some 18), none, .fa 2 (.tmp 3)⟩,
    ⟨(some 19), none, .load none (.tmp 18)⟩,
    ⟨(some 20), none, .bin .neq (.tmp 17) (.tmp 19)⟩])
  (.cond (.tmp 20) (.seq (.ops [⟨(some 4), none, .mv (.const (.bool false))⟩])
  (.ret)) (.skip)))
  (.kept [] (.seq (.ops [⟨(some 4), none, .mv (.const (.bool true))⟩])
  (.ret))))))))
theorem h_laws_eqReplica : (Try.prog.funcs[n_laws_eqReplica]?).bind (fun fn => fn.body.bind (comp Try.prog fn.ntmps)) = some (AS.strip c_laws_eqReplica) := by kernel_rfl
theorem r_laws_eqReplica : (Try.prog.funcs[n_laws_eqReplica]?).map (fun fn => (fn.results.toList, fn.ntmps)) = some ([.tmp 4], 21) := by kernel_rfl
-- 80 loop.example/g00850/laws.szEntryS
abbrev n_laws_szEntryS : Nat := 80
def c_laws_szEntryS_l1 : AS :=
  .seq (.seq (.ops [⟨(some 12), none, .mv (.tmp 5)⟩,
    ⟨(some 13), none, .mv (.tmp 0)⟩,
    ⟨(some 14), none, .lens (.tmp 13)⟩,
    ⟨(some 15), none, .bin .lss (.tmp 12) (.tmp 14)⟩])
  (.cond (.tmp 15) (.skip) (.exit 0)))
  (.seq (.block 1 (.seq (.post [(20, 1, [(5, 1), (6, 3)])] (.ops [⟨(some 18), none, .mv (.tmp 0)⟩,
    ⟨(some 19), none, .mv (.tmp 5)⟩,
    ⟨(some 20), none, .ia 8 (.tmp 18) (.tmp 19)⟩,
    ⟨(some 21), none, .load (some 8) (.tmp 20)⟩,
    ⟨(some 22), none, .mv (.tmp 1)⟩,
    ⟨(some 23), none, .call 100 [(.tmp 21), (.tmp 22)]⟩,
    ⟨(some 1), none, .mv (.tmp 23)⟩]))
  (.kept [0, 1, 5] (.seq (.ops [⟨(some 24), none, .mv (.tmp 1)⟩,
    ⟨(some 25), none, .bin .lss (.tmp 24) (.const (.int .i64 0))⟩])
  (.cond (.tmp 25) (.seq (.ops [⟨(some 4), none, .mv (.const (.int .i64 (-1)))⟩])
  (.ret)) (.skip))))))
  (.kept [0, 1, 5] (.ops [⟨(some 16), none, .mv (.tmp 5)⟩,
    ⟨(some 17), none, .bin .add (.tmp 16) (.const (.int .i64 1))⟩,
    ⟨(some 5), none, .mv (.tmp 17)⟩])))
def c_laws_szEntryS : AS :=
  .seq (.ops [⟨(some 4), none, .mv (.const (.int .i64 0))⟩])
  (.seq (.ops [⟨(some 6), none, .mv (.tmp 1)⟩,
    ⟨(some 7), none, .mv (.tmp 0)⟩,
    ⟨(some 8), none, .lens (.tmp 7)⟩,
    ⟨(some 9), none, .bin .sub (.tmp 6) (.tmp 8)⟩,
    ⟨(some 1), none, .mv (.tmp 9)⟩])
  (.seq (.seq (.ops [⟨(some 10), none, .mv (.tmp 1)⟩,
    ⟨(some 11), none, .bin .lss (.tmp 10) (.const (.int .i64 0))⟩])
  (.cond (.tmp 11) (.seq (.ops [⟨(some 4), none, .mv (.const (.int .i64 (-1)))⟩])
  (.ret)) (.skip)))
  (.seq (.seq (.ops [⟨(some 5), none, .mv (.const (.int .i64 0))⟩])
  (.block 0 (.loop 2 [(0, 0), (1, 0), (5, 0)] c_laws_szEntryS_l1)))
  (.kept [1] (.seq (.ops [⟨(some 26), none, .mv (.tmp 1)⟩,
    ⟨(some 4), none, .mv (.tmp 26)⟩])
  (.ret))))))
theorem h_laws_szEntryS : (Try.prog.funcs[n_laws_szEntryS]?).bind (fun fn => fn.body.bind (comp Try.prog fn.ntmps)) = some (AS.strip c_laws_szEntryS) := by kernel_rfl
theorem r_laws_szEntryS : (Try.prog.funcs[n_laws_szEntryS]?).map (fun fn => (fn.results.toList, fn.ntmps)) = some ([.tmp 4], 27) := by kernel_rfl
-- 81 loop.example/g00850/spec.GoodRec
abbrev n_spec_GoodRec : Nat := 81
def c_spec_GoodRec : AS :=
  .seq (.ops [⟨(some 1), none, .box (.tmp 0)⟩,
    ⟨(some 2), none, .mv (.const (.bool false))⟩])
  (.seq (.ops [⟨(some 3), none, .load (some 7) (.tmp 1)⟩,
    ⟨(some 4), none, .call 101 [(.tmp 3)]⟩,
    ⟨(some 2), none, .mv (.tmp 4)⟩])
  (.ret))
theorem h_spec_GoodRec : (Try.prog.funcs[n_spec_GoodRec]?).bind (fun fn => fn.body.bind (comp Try.prog fn.ntmps)) = some (AS.strip c_spec_GoodRec) := by kernel_rfl
theorem r_spec_GoodRec : (Try.prog.funcs[n_spec_GoodRec]?).map (fun fn => (fn.results.toList, fn.ntmps)) = some ([.tmp 2], 5) := by kernel_rfl
-- 82 loop.example/g00850/laws.toEntryS
abbrev n_laws_toEntryS : Nat := 82
def c_laws_toEntryS_l1 : AS :=
  .seq (.seq (.ops [⟨(some 8), none, .mv (.tmp 4)⟩,
    ⟨(some 9), none, .mv (.tmp 0)⟩,
    ⟨(some 10), none, .lens (.tmp 9)⟩,
    ⟨(some 11), none, .bin .lss (.tmp 8) (.tmp 10)⟩])
  (.cond (.tmp 11) (.skip) (.exit 0)))
  (.seq (.block 1 (.post [(21, 1, [(5, 1), (6, 3)]), (18, 1, [(5, 1), (6, 3)])] (.ops [⟨(some 14), none, .mv (.tmp 3)⟩,
    ⟨(some 15), none, .mv (.tmp 4)⟩,
    ⟨(some 16), none, .mv (.tmp 0)⟩,
    ⟨(some 17), none, .mv (.tmp 4)⟩,
    ⟨(some 18), none, .ia 8 (.tmp 16) (.tmp 17)⟩,
    ⟨(some 19), none, .load (some 8) (.tmp 18)⟩,
    ⟨(some 20), none, .call 102 [(.tmp 19)]⟩,
    ⟨(some 21), none, .ia 8 (.tmp 14) (.tmp 15)⟩,
    ⟨none, none, .store 8 (.tmp 21) (.tmp 20)⟩])))
  (.kept [0, 3, 4] (.ops [⟨(some 12), none, .mv (.tmp 4)⟩,
    ⟨(some 13), none, .bin .add (.tmp 12) (.const (.int .i64 1))⟩,
    ⟨(some 4), none, .mv (.tmp 13)⟩])))
def c_laws_toEntryS : AS :=
  .seq (.ops [⟨(some 2), none, .mv (.const (.slice none 0 0))⟩])
  (.seq (.ops [⟨(some 5), none, .mv (.tmp 0)⟩,
    ⟨(some 6), none, .lens (.tmp 5)⟩,
    ⟨(some 7), none, .mks 8 96 (.agg #[.int .i64 0, .int .i64 0, .int .i64 0, .int .i64 0, .int .i64 0, .slice none 0 0, .slice none 0 0, .bool false]) (.tmp 6) (.tmp 6)⟩,
    ⟨(some 3), none, .mv (.tmp 7)⟩])
  (.seq (.seq (.ops [⟨(some 4), none, .mv (.const (.int .i64 0))⟩])
  (.block 0 (.loop 1 [(0, 0), (3, 0), (4, 0)] c_laws_toEntryS_l1)))
  (.kept [3] (.seq (.ops [⟨(some 22), none, .mv (.tmp 3)⟩,
    ⟨(some 2), none, .mv (.tmp 22)⟩])
  (.ret)))))
theorem h_laws_toEntryS : (Try.prog.funcs[n_laws_toEntryS]?).bind (fun fn => fn.body.bind (comp Try.prog fn.ntmps)) = some (AS.strip c_laws_toEntryS) := by kernel_rfl
theorem r_laws_toEntryS : (Try.prog.funcs[n_laws_toEntryS]?).map (fun fn => (fn.results.toList, fn.ntmps)) = some ([.tmp 2], 23) := by kernel_rfl
-- 83 slices.IndexFunc[[]loop.example/g00850/impl.Replica,loop.example/g00850/impl.Replica]
abbrev n_slices_IndexFunc___impl_Replica_impl_Replica_ : Nat := 83
def c_slices_IndexFunc___impl_Replica_impl_Replica__l1 : AS :=
  .seq (.ops [⟨(some 9), none, .bin .lss (.tmp 8) (.tmp 7)⟩])
  (.seq (.cond (.tmp 9) (.skip) (.exit 0))
  (.seq (.block 1 (.seq (.ops [⟨(some 10), none, .mv (.tmp 8)⟩,
    ⟨(some 5), none, .mv (.tmp 10)⟩])
  (.seq (.post [(14, 1, [(1, 8)])] (.ops [⟨(some 11), none, .mv (.tmp 1)⟩,
    ⟨(some 12), none, .mv (.tmp 0)⟩,
    ⟨(some 13), none, .mv (.tmp 5)⟩,
    ⟨(some 14), none, .ia 3 (.tmp 12) (.tmp 13)⟩,
    ⟨(some 15), none, .load (some 3) (.tmp 14)⟩,
    ⟨(some 16), none, .callv (.tmp 11) [(.tmp 15)]⟩]))
  (.cond (.tmp 16) (.seq (.ops [⟨(some 17), none, .mv (.tmp 5)⟩,
    ⟨(some 4), none, .mv (.tmp 17)⟩])
  (.ret)) (.skip)))))
  (.kept [0, 1, 7, 8] (.ops [⟨(some 18), none, .bin .add (.tmp 8) (.const (.int .i64 1))⟩,
    ⟨(some 8), none, .mv (.tmp 18)⟩]))))
def c_slices_IndexFunc___impl_Replica_impl_Replica_ : AS :=
  .seq (.ops [⟨(some 4), none, .mv (.const (.int .i64 0))⟩])
  (.seq (.seq (.ops [⟨(some 6), none, .mv (.tmp 0)⟩,
    ⟨(some 7), none, .lens (.tmp 6)⟩,
    ⟨(some 8), none, .mv (.const (.int .i64 0))⟩])
  (.block 0 (.loop 2 [(0, 0), (1, 0), (7, 0), (8, 0)] c_slices_IndexFunc___impl_Replica_impl_Replica__l1)))
  (.kept [] (.seq (.ops [⟨(some 4), none, .mv (.const (.int .i64 (-1)))⟩])
  (.ret))))
theorem h_slices_IndexFunc___impl_Replica_impl_Replica_ : (Try.prog.funcs[n_slices_IndexFunc___impl_Replica_impl_Replica_]?).bind (fun fn => fn.body.bind (comp Try.prog fn.ntmps)) = some (AS.strip c_slices_IndexFunc___impl_Replica_impl_Replica_) := by kernel_rfl
theorem r_slices_IndexFunc___impl_Replica_impl_Replica_ : (Try.prog.funcs[n_slices_IndexFunc___impl_Replica_impl_Replica_]?).map (fun fn => (fn.results.toList, fn.ntmps)) = some ([.tmp 4], 19) := by kernel_rfl
-- 84 loop.example/g00850/impl.GoodRec
abbrev n_impl_GoodRec : Nat := 84
def c_impl_GoodRec : AS :=
  .seq (.ops [⟨(some 1), none, .box (.tmp 0)⟩,
    ⟨(some 2), none, .mv (.const (.bool false))⟩])
  (.seq (.ops [⟨(some 4), none, .fa 3 (.tmp 1)⟩,
    ⟨(some 5), none, .load none (.tmp 4)⟩,
    ⟨(some 6), none, .bin .eql (.tmp 5) (.const (.int .i64 0))⟩,
    ⟨(some 7), none, .mv (.tmp 6)⟩,
    ⟨(some 8), some (7, true), .fa 4 (.tmp 1)⟩,
    ⟨(some 9), some (7, true), .load none (.tmp 8)⟩,
    ⟨(some 10), some (7, true), .lens (.tmp 9)⟩,
    ⟨(some 11), some (7, true), .bin .eql (.tmp 10) (.const (.int .i64 0))⟩,
    ⟨(some 12), none, .pick (.tmp 7) (.tmp 11) (.const (.bool false))⟩,
    ⟨(some 13), none, .mv (.tmp 12)⟩,
    ⟨(some 14), some (13, true), .fa 5 (.tmp 1)⟩,
    ⟨(some 15), some (13, true), .load none (.tmp 14)⟩,
    ⟨(some 16), some (13, true), .lens (.tmp 15)⟩,
    ⟨(some 17), some (13, true), .bin .eql (.tmp 16) (.const (.int .i64 0))⟩,
    ⟨(some 18), none, .pick (.tmp 13) (.tmp 17) (.const (.bool false))⟩,
    ⟨(some 3), none, .mv (.tmp 18)⟩])
  (.kept [1, 3] (.seq (.seq (.ops [⟨(some 19), none, .fa 0 (.tmp 1)⟩,
    ⟨(some 20), none, .load none (.tmp 19)⟩])
  (.block 0 (.seq (.ops [⟨(some 22), none, .bin .eql (.tmp 20) (.const (.int .i64 1))⟩,
    ⟨(some 21), none, .mv (.tmp 22)⟩])
  (.cond (.tmp 21) (.seq (.ops [⟨(some 23), none, .fa 1 (.tmp 1)⟩,
    ⟨(some 24), none, .load none (.tmp 23)⟩,
    ⟨(some 25), none, .call 103 [(.tmp 24)]⟩,
    ⟨(some 26), none, .mv (.tmp 25)⟩,
    ⟨(some 27), some (26, true), .fa 2 (.tmp 1)⟩,
    ⟨(some 28), some (26, true), .load none (.tmp 27)⟩,
    ⟨(some 29), some (26, true), .call 104 [(.tmp 28)]⟩,
    ⟨(some 30), none, .pick (.tmp 26) (.tmp 29) (.const (.bool false))⟩,
    ⟨(some 31), none, .mv (.tmp 30)⟩,
    ⟨(some 32), some (31, true), .fa 3 (.tmp 1)⟩,
    ⟨(some 33), some (31, true), .load none (.tmp 32)⟩,
    ⟨(some 34), some (31, true), .call 51 [(.tmp 33), (.const (.int .i64 0)), (.const (.int .i64 3))]⟩,
    ⟨(some 35), none, .pick (.tmp 31) (.tmp 34) (.const (.bool false))⟩,
    ⟨(some 36), none, .mv (.tmp 35)⟩,
    ⟨(some 37), some (36, true), .fa 4 (.tmp 1)⟩,
    ⟨(some 38), some (36, true), .load none (.tmp 37)⟩,
    ⟨(some 39), some (36, true), .lens (.tmp 38)⟩,
    ⟨(some 40), some (36, true), .bin .leq (.tmp 39) (.const (.int .i64 8))⟩,
    ⟨(some 41), none, .pick (.tmp 36) (.tmp 40) (.const (.bool false))⟩,
    ⟨(some 42), none, .mv (.tmp 41)⟩,
    ⟨(some 43), some (42, true), .fa 4 (.tmp 1)⟩,
    ⟨(some 44), some (42, true), .load none (.tmp 43)⟩,
    ⟨(some 45), some (42, true), .call 105 [(.tmp 44)]⟩,
    ⟨(some 46), none, .pick (.tmp 42) (.tmp 45) (.const (.bool false))⟩,
    ⟨(some 47), none, .mv (.tmp 46)⟩,
    ⟨(some 48), some (47, true), .fa 5 (.tmp 1)⟩,
    ⟨(some 49), some (47, true), .load none (.tmp 48)⟩,
    ⟨(some 50), some (47, true), .lens (.tmp 49)⟩,
    ⟨(some 51), some (47, true), .bin .leq (.tmp 50) (.const (.int .i64 8))⟩,
    ⟨(some 52), none, .pick (.tmp 47) (.tmp 51) (.const (.bool false))⟩,
    ⟨(some 53), none, .mv (.tmp 52)⟩,
    ⟨(some 54), some (53, true), .fa 5 (.tmp 1)⟩,
    ⟨(some 55), some (53, true), .load none (.tmp 54)⟩,
    ⟨(some 56), some (53, true), .call 106 [(.tmp 55)]⟩,
    ⟨(some 57), none, .pick (.tmp 53) (.tmp 56) (.const (.bool false))⟩,
    ⟨(some 58), none, .mv (.tmp 57)⟩,
    ⟨(some 59), some (58, true), .fa 4 (.tmp 1)⟩,
    ⟨(some 60), some (58, true), .load none (.tmp 59)⟩,
    ⟨(some 61), some (58, true), .lens (.tmp 60)⟩,
    ⟨(some 62), some (58, true), .fa 5 (.tmp 1)⟩,
    ⟨(some 63), some (58, true), .load none (.tmp 62)⟩,
    ⟨(some 64), some (58, true), .lens (.tmp 63)⟩,
    ⟨(some 65), some (58, true), .bin .add (.tmp 61) (.tmp 64)⟩,
    ⟨(some 66), some (58, true), .bin .gtr (.tmp 65) (.const (.int .i64 0))⟩,
    ⟨(some 67), none, .pick (.tmp 58) (.tmp 66) (.const (.bool false))⟩,
    ⟨(some 68), none, .mv (.tmp 67)⟩,
    ⟨(some 69), some (68, true), .fa 6 (.tmp 1)⟩,
    ⟨(some 70), some (68, true), .load none (.tmp 69)⟩,
    ⟨(some 71), some (68, true), .not (.tmp 70)⟩,
    ⟨(some 72), none, .pick (.tmp 68) (.tmp 71) (.const (.bool false))⟩,
    ⟨(some 2), none, .mv (.tmp 72)⟩])
  (.ret)) (.seq (.seq (.ops [⟨(some 74), none, .bin .eql (.tmp 20) (.const (.int .i64 2))⟩,
    ⟨(some 73), none, .mv (.tmp 74)⟩])
  (.cond (.tmp 73) (.skip) (.ops [⟨(some 75), none, .bin .eql (.tmp 20) (.const (.int .i64 3))⟩,
    ⟨(some 73), none, .mv (.tmp 75)⟩])))
  (.cond (.tmp 73) (.seq (.ops [⟨(some 76), none, .mv (.tmp 3)⟩,
    ⟨(some 77), none, .mv (.tmp 76)⟩,
    ⟨(some 78), some (77, true), .fa 1 (.tmp 1)⟩,
    ⟨(some 79), some (77, true), .load none (.tmp 78)⟩,
    ⟨(some 80), some (77, true), .call 103 [(.tmp 79)]⟩,
    ⟨(some 81), none, .pick (.tmp 77) (.tmp 80) (.const (.bool false))⟩,
    ⟨(some 82), none, .mv (.tmp 81)⟩,
    ⟨(some 83), some (82, true), .fa 6 (.tmp 1)⟩,
    ⟨(some 84), some (82, true), .load none (.tmp 83)⟩,
    ⟨(some 85), some (82, true), .mv (.tmp 84)⟩,
    ⟨(some 86), some (85, true), .fa 2 (.tmp 1)⟩,
    ⟨(some 87), some (85, true), .load none (.tmp 86)⟩,
    ⟨(some 88), some (85, true), .call 104 [(.tmp 87)]⟩,
    ⟨(some 89), some (82, true), .pick (.tmp 85) (.tmp 88) (.const (.bool false))⟩,
    ⟨(some 90), some (82, true), .mv (.tmp 89)⟩,
    ⟨(some 91), some (90, false), .fa 6 (.tmp 1)⟩,
    ⟨(some 92), some (90, false), .load none (.tmp 91)⟩,
    ⟨(some 93), some (90, false), .not (.tmp 92)⟩,
    ⟨(some 94), some (90, false), .mv (.tmp 93)⟩,
    ⟨(some 95), some (94, true), .fa 2 (.tmp 1)⟩,
    ⟨(some 96), some (94, true), .load none (.tmp 95)⟩,
    ⟨(some 97), some (94, true), .bin .eql (.tmp 96) (.const (.int .i64 0))⟩,
    ⟨(some 98), some (90, false), .pick (.tmp 94) (.tmp 97) (.const (.bool false))⟩,
    ⟨(some 99), some (82, true), .pick (.tmp 90) (.const (.bool true)) (.tmp 98)⟩,
    ⟨(some 100), none, .pick (.tmp 82) (.tmp 99) (.const (.bool false))⟩,
    ⟨(some 2), none, .mv (.tmp 100)⟩])
  (.ret)) (.seq (.ops [⟨(some 102), none, .bin .eql (.tmp 20) (.const (.int .i64 4))⟩,
    ⟨(some 101), none, .mv (.tmp 102)⟩])
  (.cond (.tmp 101) (.seq (.ops [⟨(some 103), none, .mv (.tmp 3)⟩,
    ⟨(some 104), none, .mv (.tmp 103)⟩,
    ⟨(some 105), some (104, true), .fa 1 (.tmp 1)⟩,
    ⟨(some 106), some (104, true), .load none (.tmp 105)⟩,
    ⟨(some 107), some (104, true), .bin .eql (.tmp 106) (.const (.int .i64 0))⟩,
    ⟨(some 108), none, .pick (.tmp 104) (.tmp 107) (.const (.bool false))⟩,
    ⟨(some 109), none, .mv (.tmp 108)⟩,
    ⟨(some 110), some (109, true), .fa 2 (.tmp 1)⟩,
    ⟨(some 111), some (109, true), .load none (.tmp 110)⟩,
    ⟨(some 112), some (109, true), .call 104 [(.tmp 111)]⟩,
    ⟨(some 113), none, .pick (.tmp 109) (.tmp 112) (.const (.bool false))⟩,
    ⟨(some 114), none, .mv (.tmp 113)⟩,
    ⟨(some 115), some (114, true), .fa 6 (.tmp 1)⟩,
    ⟨(some 116), some (114, true), .load none (.tmp 115)⟩,
    ⟨(some 117), some (114, true), .not (.tmp 116)⟩,
    ⟨(some 118), none, .pick (.tmp 114) (.tmp 117) (.const (.bool false))⟩,
    ⟨(some 2), none, .mv (.tmp 118)⟩])
  (.ret)) (.skip)))))))))
  (.kept [] (.seq (.ops [⟨(some 2), none, .mv (.const (.bool false))⟩])
  (.ret))))))
theorem h_impl_GoodRec : (Try.prog.funcs[n_impl_GoodRec]?).bind (fun fn => fn.body.bind (comp Try.prog fn.ntmps)) = some (AS.strip c_impl_GoodRec) := by kernel_rfl
theorem r_impl_GoodRec : (Try.prog.funcs[n_impl_GoodRec]?).map (fun fn => (fn.results.toList, fn.ntmps)) = some ([.tmp 2], 119) := by kernel_rfl
-- 85 slices.IndexFunc[[]loop.example/g00850/impl.Entry,loop.example/g00850/impl.Entry]
abbrev n_slices_IndexFunc___impl_Entry_impl_Entry_ : Nat := 85
def c_slices_IndexFunc___impl_Entry_impl_Entry__l1 : AS :=
  .seq (.ops [⟨(some 9), none, .bin .lss (.tmp 8) (.tmp 7)⟩])
  (.seq (.cond (.tmp 9) (.skip) (.exit 0))
  (.seq (.block 1 (.seq (.ops [⟨(some 10), none, .mv (.tmp 8)⟩,
    ⟨(some 5), none, .mv (.tmp 10)⟩])
  (.seq (.post [(14, 1, [(5, 1), (6, 3)])] (.ops [⟨(some 11), none, .mv (.tmp 1)⟩,
    ⟨(some 12), none, .mv (.tmp 0)⟩,
    ⟨(some 13), none, .mv (.tmp 5)⟩,
    ⟨(some 14), none, .ia 8 (.tmp 12) (.tmp 13)⟩,
    ⟨(some 15), none, .load (some 8) (.tmp 14)⟩,
    ⟨(some 16), none, .callv (.tmp 11) [(.tmp 15)]⟩]))
  (.cond (.tmp 16) (.seq (.ops [⟨(some 17), none, .mv (.tmp 5)⟩,
    ⟨(some 4), none, .mv (.tmp 17)⟩])
  (.ret)) (.skip)))))
  (.kept [0, 1, 7, 8] (.ops [⟨(some 18), none, .bin .add (.tmp 8) (.const (.int .i64 1))⟩,
    ⟨(some 8), none, .mv (.tmp 18)⟩]))))
def c_slices_IndexFunc___impl_Entry_impl_Entry_ : AS :=
  .seq (.ops [⟨(some 4), none, .mv (.const (.int .i64 0))⟩])
  (.seq (.seq (.ops [⟨(some 6), none, .mv (.tmp 0)⟩,
    ⟨(some 7), none, .lens (.tmp 6)⟩,
    ⟨(some 8), none, .mv (.const (.int .i64 0))⟩])
  (.block 0 (.loop 2 [(0, 0), (1, 0), (7, 0), (8, 0)] c_slices_IndexFunc___impl_Entry_impl_Entry__l1)))
  (.kept [] (.seq (.ops [⟨(some 4), none, .mv (.const (.int .i64 (-1)))⟩])
  (.ret))))
theorem h_slices_IndexFunc___impl_Entry_impl_Entry_ : (Try.prog.funcs[n_slices_IndexFunc___impl_Entry_impl_Entry_]?).bind (fun fn => fn.body.bind (comp Try.prog fn.ntmps)) = some (AS.strip c_slices_IndexFunc___impl_Entry_impl_Entry_) := by kernel_rfl
theorem r_slices_IndexFunc___impl_Entry_impl_Entry_ : (Try.prog.funcs[n_slices_IndexFunc___impl_Entry_impl_Entry_]?).map (fun fn => (fn.results.toList, fn.ntmps)) = some ([.tmp 4], 19) := by kernel_rfl
-- 86 loop.example/g00850/laws.eqEntryS
abbrev n_laws_eqEntryS : Nat := 86
def c_laws_eqEntryS_l1 : AS :=
  .seq (.seq (.ops [⟨(some 11), none, .mv (.tmp 5)⟩,
    ⟨(some 12), none, .mv (.tmp 0)⟩,
    ⟨(some 13), none, .lens (.tmp 12)⟩,
    ⟨(some 14), none, .bin .lss (.tmp 11) (.tmp 13)⟩])
  (.cond (.tmp 14) (.skip) (.exit 0)))
  (.seq (.block 1 (.seq (.post [(23, 1, [(5, 1), (6, 3)]), (19, 1, [(5, 1), (6, 3)])] (.rops [(none, ⟨(some 17), none, .mv (.tmp 0)⟩),
    (none, ⟨(some 18), none, .mv (.tmp 5)⟩),
    (none, ⟨(some 19), none, .ia 8 (.tmp 17) (.tmp 18)⟩),
    (none, ⟨(some 20), none, .load (some 8) (.tmp 19)⟩),
    (none, ⟨(some 21), none, .mv (.tmp 1)⟩),
    (none, ⟨(some 22), none, .mv (.tmp 5)⟩),
    (none, ⟨(some 23), none, .ia 8 (.tmp 21) (.tmp 22)⟩),
    (none, ⟨(some 24), none, .load (some 8) (.tmp 23)⟩),
    (some [], ⟨(some 25), none, .call 107 [(.tmp 20), (.tmp 24)]⟩),
    (none, ⟨(some 26), none, .not (.tmp 25)⟩)]))
  (.kept [0, 1, 5, 26] (.cond (.tmp 26) (.seq (.ops [⟨(some 4), none, .mv (.const (.bool false))⟩])
  (.ret)) (.skip)))))
  (.kept [0, 1, 5] (.ops [⟨(some 15), none, .mv (.tmp 5)⟩,
    ⟨(some 16), none, .bin .add (.tmp 15) (.const (.int .i64 1))⟩,
    ⟨(some 5), none, .mv (.tmp 16)⟩])))
def c_laws_eqEntryS : AS :=
  .seq (.ops [⟨(some 4), none, .mv (.const (.bool false))⟩])
  (.seq (.seq (.ops [⟨(some 6), none, .mv (.tmp 0)⟩,
    ⟨(some 7), none, .lens (.tmp 6)⟩,
    ⟨(some 8), none, .mv (.tmp 1)⟩,
    ⟨(some 9), none, .lens (.tmp 8)⟩,
    ⟨(some 10), none, .bin .neq (.tmp 7) (.tmp 9)⟩])
  (.cond (.tmp 10) (.seq (.ops [⟨(some 4), none, .mv (.const (.bool false))⟩])
  (.ret)) (.skip)))
  (.kept [0, 1] (.seq (.seq (.ops [⟨(some 5), none, .mv (.const (.int .i64 0))⟩])
  (.block 0 (.loop 2 [(0, 0), (1, 0), (5, 0)] c_laws_eqEntryS_l1)))
  (.kept [] (.seq (.ops [⟨(some 4), none, .mv (.const (.bool true))⟩])
  (.ret))))))
theorem h_laws_eqEntryS : (Try.prog.funcs[n_laws_eqEntryS]?).bind (fun fn => fn.body.bind (comp Try.prog fn.ntmps)) = some (AS.strip c_laws_eqEntryS) := by kernel_rfl
theorem r_laws_eqEntryS : (Try.prog.funcs[n_laws_eqEntryS]?).map (fun fn => (fn.results.toList, fn.ntmps)) = some ([.tmp 4], 27) := by kernel_rfl
-- 100 loop.example/g00850/laws.szEntry
abbrev n_laws_szEntry : Nat := 100
def c_laws_szEntry : AS :=
  .seq (.ops [⟨(some 2), none, .box (.tmp 0)⟩,
    ⟨(some 4), none, .mv (.const (.int .i64 0))⟩])
  (.seq (.ops [⟨(some 5), none, .fa 1 (.tmp 2)⟩,
    ⟨(some 6), none, .load (some 7) (.tmp 5)⟩,
    ⟨(some 7), none, .mv (.tmp 1)⟩,
    ⟨(some 8), none, .call 112 [(.tmp 6), (.tmp 7)]⟩,
    ⟨(some 1), none, .mv (.tmp 8)⟩])
  (.seq (.seq (.ops [⟨(some 9), none, .mv (.tmp 1)⟩,
    ⟨(some 10), none, .bin .lss (.tmp 9) (.const (.int .i64 0))⟩])
  (.cond (.tmp 10) (.seq (.ops [⟨(some 4), none, .mv (.const (.int .i64 (-1)))⟩])
  (.ret)) (.skip)))
  (.seq (.ops [⟨(some 11), none, .mv (.tmp 1)⟩,
    ⟨(some 4), none, .mv (.tmp 11)⟩])
  (.ret))))
theorem h_laws_szEntry : (Try.prog.funcs[n_laws_szEntry]?).bind (fun fn => fn.body.bind (comp Try.prog fn.ntmps)) = some (AS.strip c_laws_szEntry) := by kernel_rfl
theorem r_laws_szEntry : (Try.prog.funcs[n_laws_szEntry]?).map (fun fn => (fn.results.toList, fn.ntmps)) = some ([.tmp 4], 12) := by kernel_rfl
-- 101 loop.example/g00850/spec.l4Good
abbrev n_spec_l4Good : Nat := 101
def c_spec_l4Good : AS :=
  .seq (.ops [⟨(some 1), none, .box (.tmp 0)⟩,
    ⟨(some 2), none, .mv (.const (.bool false))⟩])
  (.seq (.seq (.ops [⟨(some 3), none, .fa 0 (.tmp 1)⟩,
    ⟨(some 4), none, .load none (.tmp 3)⟩,
    ⟨(some 5), none, .bin .neq (.tmp 4) (.const (.int .i64 1))⟩,
    ⟨(some 6), none, .mv (.tmp 5)⟩,
    ⟨(some 7), some (6, true), .fa 3 (.tmp 1)⟩,
    ⟨(some 8), some (6, true), .load none (.tmp 7)⟩,
    ⟨(some 9), some (6, true), .bin .neq (.tmp 8) (.const (.int .i64 0))⟩,
    ⟨(some 10), some (6, true), .mv (.tmp 9)⟩,
    ⟨(some 11), some (10, false), .fa 4 (.tmp 1)⟩,
    ⟨(some 12), some (10, false), .load none (.tmp 11)⟩,
    ⟨(some 13), some (10, false), .lens (.tmp 12)⟩,
    ⟨(some 14), some (10, false), .fa 5 (.tmp 1)⟩,
    ⟨(some 15), some (10, false), .load none (.tmp 14)⟩,
    ⟨(some 16), some (10, false), .lens (.tmp 15)⟩,
    ⟨(some 17), some (10, false), .bin .add (.tmp 13) (.tmp 16)⟩,
    ⟨(some 18), some (10, false), .bin .gtr (.tmp 17) (.const (.int .i64 0))⟩,
    ⟨(some 19), some (6, true), .pick (.tmp 10) (.const (.bool true)) (.tmp 18)⟩,
    ⟨(some 20), none, .pick (.tmp 6) (.tmp 19) (.const (.bool false))⟩])
  (.kept [1, 20] (.cond (.tmp 20) (.seq (.ops [⟨(some 2), none, .mv (.const (.bool false))⟩])
  (.ret)) (.skip))))
  (.kept [1] (.seq (.seq (.ops [⟨(some 21), none, .fa 0 (.tmp 1)⟩,
    ⟨(some 22), none, .load none (.tmp 21)⟩])
  (.block 0 (.seq (.ops [⟨(some 24), none, .bin .eql (.tmp 22) (.const (.int .i64 1))⟩,
    ⟨(some 23), none, .mv (.tmp 24)⟩])
  (.cond (.tmp 23) (.seq (.ops [⟨(some 25), none, .fa 1 (.tmp 1)⟩,
    ⟨(some 26), none, .load none (.tmp 25)⟩,
    ⟨(some 27), none, .call 47 [(.tmp 26), (.const (.int .i64 1)), (.const (.int .i64 60))]⟩,
    ⟨(some 28), none, .mv (.tmp 27)⟩,
    ⟨(some 29), some (28, true), .fa 2 (.tmp 1)⟩,
    ⟨(some 30), some (28, true), .load none (.tmp 29)⟩,
    ⟨(some 31), some (28, true), .call 113 [(.tmp 30)]⟩,
    ⟨(some 32), none, .pick (.tmp 28) (.tmp 31) (.const (.bool false))⟩,
    ⟨(some 33), none, .mv (.tmp 32)⟩,
    ⟨(some 34), some (33, true), .fa 3 (.tmp 1)⟩,
    ⟨(some 35), some (33, true), .load none (.tmp 34)⟩,
    ⟨(some 36), some (33, true), .call 47 [(.tmp 35), (.const (.int .i64 0)), (.const (.int .i64 3))]⟩,
    ⟨(some 37), none, .pick (.tmp 33) (.tmp 36) (.const (.bool false))⟩,
    ⟨(some 38), none, .mv (.tmp 37)⟩,
    ⟨(some 39), some (38, true), .fa 4 (.tmp 1)⟩,
    ⟨(some 40), some (38, true), .load none (.tmp 39)⟩,
    ⟨(some 41), some (38, true), .call 114 [(.tmp 40)]⟩,
    ⟨(some 42), none, .pick (.tmp 38) (.tmp 41) (.const (.bool false))⟩,
    ⟨(some 43), none, .mv (.tmp 42)⟩,
    ⟨(some 44), some (43, true), .fa 5 (.tmp 1)⟩,
    ⟨(some 45), some (43, true), .load none (.tmp 44)⟩,
    ⟨(some 46), some (43, true), .call 115 [(.tmp 45)]⟩,
    ⟨(some 47), none, .pick (.tmp 43) (.tmp 46) (.const (.bool false))⟩,
    ⟨(some 48), none, .mv (.tmp 47)⟩,
    ⟨(some 49), some (48, true), .fa 5 (.tmp 1)⟩,
    ⟨(some 50), some (48, true), .load none (.tmp 49)⟩,
    ⟨(some 51), some (48, true), .lens (.tmp 50)⟩,
    ⟨(some 52), some (48, true), .call 47 [(.tmp 51), (.const (.int .i64 0)), (.const (.int .i64 8))]⟩,
    ⟨(some 53), none, .pick (.tmp 48) (.tmp 52) (.const (.bool false))⟩,
    ⟨(some 54), none, .mv (.tmp 53)⟩,
    ⟨(some 55), some (54, true), .fa 4 (.tmp 1)⟩,
    ⟨(some 56), some (54, true), .load none (.tmp 55)⟩,
    ⟨(some 57), some (54, true), .lens (.tmp 56)⟩,
    ⟨(some 58), some (54, true), .fa 5 (.tmp 1)⟩,
    ⟨(some 59), some (54, true), .load none (.tmp 58)⟩,
    ⟨(some 60), some (54, true), .lens (.tmp 59)⟩,
    ⟨(some 61), some (54, true), .bin .add (.tmp 57) (.tmp 60)⟩,
    ⟨(some 62), some (54, true), .bin .gtr (.tmp 61) (.const (.int .i64 0))⟩,
    ⟨(some 63), none, .pick (.tmp 54) (.tmp 62) (.const (.bool false))⟩,
    ⟨(some 64), none, .mv (.tmp 63)⟩,
    ⟨(some 65), some (64, true), .fa 6 (.tmp 1)⟩,
    ⟨(some 66), some (64, true), .load none (.tmp 65)⟩,
    ⟨(some 67), some (64, true), .not (.tmp 66)⟩,
    ⟨(some 68), none, .pick (.tmp 64) (.tmp 67) (.const (.bool false))⟩,
    ⟨(some 2), none, .mv (.tmp 68)⟩])
  (.ret)) (.seq (.seq (.ops [⟨(some 70), none, .bin .eql (.tmp 22) (.const (.int .i64 2))⟩,
    ⟨(some 69), none, .mv (.tmp 70)⟩])
  (.cond (.tmp 69) (.skip) (.ops [⟨(some 71), none, .bin .eql (.tmp 22) (.const (.int .i64 3))⟩,
    ⟨(some 69), none, .mv (.tmp 71)⟩])))
  (.cond (.tmp 69) (.seq (.ops [⟨(some 72), none, .fa 1 (.tmp 1)⟩,
    ⟨(some 73), none, .load none (.tmp 72)⟩,
    ⟨(some 74), none, .call 47 [(.tmp 73), (.const (.int .i64 1)), (.const (.int .i64 60))]⟩,
    ⟨(some 75), none, .mv (.tmp 74)⟩,
    ⟨(some 76), some (75, true), .fa 6 (.tmp 1)⟩,
    ⟨(some 77), some (75, true), .load none (.tmp 76)⟩,
    ⟨(some 78), some (75, true), .mv (.tmp 77)⟩,
    ⟨(some 79), some (78, true), .fa 2 (.tmp 1)⟩,
    ⟨(some 80), some (78, true), .load none (.tmp 79)⟩,
    ⟨(some 81), some (78, true), .call 113 [(.tmp 80)]⟩,
    ⟨(some 82), some (75, true), .pick (.tmp 78) (.tmp 81) (.const (.bool false))⟩,
    ⟨(some 83), some (75, true), .mv (.tmp 82)⟩,
    ⟨(some 84), some (83, false), .fa 6 (.tmp 1)⟩,
    ⟨(some 85), some (83, false), .load none (.tmp 84)⟩,
    ⟨(some 86), some (83, false), .not (.tmp 85)⟩,
    ⟨(some 87), some (83, false), .mv (.tmp 86)⟩,
    ⟨(some 88), some (87, true), .fa 2 (.tmp 1)⟩,
    ⟨(some 89), some (87, true), .load none (.tmp 88)⟩,
    ⟨(some 90), some (87, true), .bin .eql (.tmp 89) (.const (.int .i64 0))⟩,
    ⟨(some 91), some (83, false), .pick (.tmp 87) (.tmp 90) (.const (.bool false))⟩,
    ⟨(some 92), some (75, true), .pick (.tmp 83) (.const (.bool true)) (.tmp 91)⟩,
    ⟨(some 93), none, .pick (.tmp 75) (.tmp 92) (.const (.bool false))⟩,
    ⟨(some 2), none, .mv (.tmp 93)⟩])
  (.ret)) (.skip)))))))
  (.kept [1] (.seq (.ops [⟨(some 94), none, .fa 0 (.tmp 1)⟩,
    ⟨(some 95), none, .load none (.tmp 94)⟩,
    ⟨(some 96), none, .bin .eql (.tmp 95) (.const (.int .i64 4))⟩,
    ⟨(some 97), none, .mv (.tmp 96)⟩,
    ⟨(some 98), some (97, true), .fa 1 (.tmp 1)⟩,
    ⟨(some 99), some (97, true), .load none (.tmp 98)⟩,
    ⟨(some 100), some (97, true), .bin .eql (.tmp 99) (.const (.int .i64 0))⟩,
    ⟨(some 101), none, .pick (.tmp 97) (.tmp 100) (.const (.bool false))⟩,
    ⟨(some 102), none, .mv (.tmp 101)⟩,
    ⟨(some 103), some (102, true), .fa 2 (.tmp 1)⟩,
    ⟨(some 104), some (102, true), .load none (.tmp 103)⟩,
    ⟨(some 105), some (102, true), .call 113 [(.tmp 104)]⟩,
    ⟨(some 106), none, .pick (.tmp 102) (.tmp 105) (.const (.bool false))⟩,
    ⟨(some 107), none, .mv (.tmp 106)⟩,
    ⟨(some 108), some (107, true), .fa 6 (.tmp 1)⟩,
    ⟨(some 109), some (107, true), .load none (.tmp 108)⟩,
    ⟨(some 110), some (107, true), .not (.tmp 109)⟩,
    ⟨(some 111), none, .pick (.tmp 107) (.tmp 110) (.const (.bool false))⟩,
    ⟨(some 2), none, .mv (.tmp 111)⟩])
  (.ret))))))
theorem h_spec_l4Good : (Try.prog.funcs[n_spec_l4Good]?).bind (fun fn => fn.body.bind (comp Try.prog fn.ntmps)) = some (AS.strip c_spec_l4Good) := by kernel_rfl
theorem r_spec_l4Good : (Try.prog.funcs[n_spec_l4Good]?).map (fun fn => (fn.results.toList, fn.ntmps)) = some ([.tmp 2], 112) := by kernel_rfl
-- 102 loop.example/g00850/laws.toEntry
abbrev n_laws_toEntry : Nat := 102
def c_laws_toEntry : AS :=
  .seq (.ops [⟨(some 1), none, .box (.tmp 0)⟩,
    ⟨(some 2), none, .alloc (.agg #[.int .i64 0, .int .i64 0, .int .i64 0, .int .i64 0, .int .i64 0, .slice none 0 0, .slice none 0 0, .bool false])⟩])
  (.seq (.ops [⟨(some 3), none, .alloc (.agg #[.int .i64 0, .int .i64 0, .int .i64 0, .int .i64 0, .int .i64 0, .slice none 0 0, .slice none 0 0, .bool false])⟩])
  (.seq (.ops [⟨(some 4), none, .fa 0 (.tmp 1)⟩,
    ⟨(some 5), none, .load none (.tmp 4)⟩,
    ⟨(some 6), none, .fa 0 (.tmp 3)⟩,
    ⟨none, none, .store 1 (.tmp 6) (.tmp 5)⟩])
  (.seq (.ops [⟨(some 7), none, .fa 1 (.tmp 1)⟩,
    ⟨(some 8), none, .load (some 7) (.tmp 7)⟩,
    ⟨(some 9), none, .call 116 [(.tmp 8)]⟩,
    ⟨(some 10), none, .fa 1 (.tmp 3)⟩,
    ⟨none, none, .store 7 (.tmp 10) (.tmp 9)⟩])
  (.seq (.ops [⟨(some 11), none, .load (some 8) (.tmp 3)⟩,
    ⟨none, none, .store 8 (.tmp 2) (.tmp 11)⟩])
  (.ret)))))
theorem h_laws_toEntry : (Try.prog.funcs[n_laws_toEntry]?).bind (fun fn => fn.body.bind (comp Try.prog fn.ntmps)) = some (AS.strip c_laws_toEntry) := by kernel_rfl
theorem r_laws_toEntry : (Try.prog.funcs[n_laws_toEntry]?).map (fun fn => (fn.results.toList, fn.ntmps)) = some ([.cell 2 90], 12) := by kernel_rfl
-- 103 loop.example/g00850/impl.isTxn
abbrev n_impl_isTxn : Nat := 103
def c_impl_isTxn : AS :=
  .seq (.ops [⟨(some 2), none, .mv (.const (.bool false))⟩])
  (.seq (.ops [⟨(some 3), none, .mv (.tmp 0)⟩,
    ⟨(some 4), none, .call 51 [(.tmp 3), (.const (.int .i64 1)), (.const (.int .i64 60))]⟩,
    ⟨(some 2), none, .mv (.tmp 4)⟩])
  (.ret))
theorem h_impl_isTxn : (Try.prog.funcs[n_impl_isTxn]?).bind (fun fn => fn.body.bind (comp Try.prog fn.ntmps)) = some (AS.strip c_impl_isTxn) := by kernel_rfl
theorem r_impl_isTxn : (Try.prog.funcs[n_impl_isTxn]?).map (fun fn => (fn.results.toList, fn.ntmps)) = some ([.tmp 2], 5) := by kernel_rfl
-- 104 loop.example/g00850/impl.isTime
abbrev n_impl_isTime : Nat := 104
def c_impl_isTime : AS :=
  .seq (.ops [⟨(some 2), none, .mv (.const (.bool false))⟩])
  (.seq (.ops [⟨(some 3), none, .mv (.tmp 0)⟩,
    ⟨(some 4), none, .call 51 [(.tmp 3), (.const (.int .i64 1)), (.const (.int .i64 100000))]⟩,
    ⟨(some 2), none, .mv (.tmp 4)⟩])
  (.ret))
theorem h_impl_isTime : (Try.prog.funcs[n_impl_isTime]?).bind (fun fn => fn.body.bind (comp Try.prog fn.ntmps)) = some (AS.strip c_impl_isTime) := by kernel_rfl
theorem r_impl_isTime : (Try.prog.funcs[n_impl_isTime]?).map (fun fn => (fn.results.toList, fn.ntmps)) = some ([.tmp 2], 5) := by kernel_rfl
-- 105 loop.example/g00850/impl.areRising
abbrev n_impl_areRising : Nat := 105
def c_impl_areRising_l1 : AS :=
  .seq (.ops [⟨(some 8), none, .bin .lss (.tmp 7) (.tmp 6)⟩])
  (.seq (.cond (.tmp 8) (.skip) (.exit 0))
  (.seq (.block 1 (.seq (.ops [⟨(some 9), none, .mv (.tmp 7)⟩,
    ⟨(some 10), none, .ia 1 (.tmp 5) (.tmp 7)⟩,
    ⟨(some 11), none, .load none (.tmp 10)⟩,
    ⟨(some 3), none, .mv (.tmp 9)⟩,
    ⟨(some 4), none, .mv (.tmp 11)⟩])
  (.seq (.ops [⟨(some 12), none, .mv (.tmp 4)⟩,
    ⟨(some 13), none, .call 117 [(.tmp 12)]⟩,
    ⟨(some 14), none, .not (.tmp 13)⟩,
    ⟨(some 15), none, .mv (.tmp 14)⟩,
    ⟨(some 16), some (15, false), .mv (.tmp 3)⟩,
    ⟨(some 17), some (15, false), .bin .gtr (.tmp 16) (.const (.int .i64 0))⟩,
    ⟨(some 18), some (15, false), .mv (.tmp 17)⟩,
    ⟨(some 19), some (18, true), .mv (.tmp 4)⟩,
    ⟨(some 20), some (18, true), .mv (.tmp 0)⟩,
    ⟨(some 21), some (18, true), .mv (.tmp 3)⟩,
    ⟨(some 22), some (18, true), .bin .sub (.tmp 21) (.const (.int .i64 1))⟩,
    ⟨(some 23), some (18, true), .ia 1 (.tmp 20) (.tmp 22)⟩,
    ⟨(some 24), some (18, true), .load none (.tmp 23)⟩,
    ⟨(some 25), some (18, true), .bin .leq (.tmp 19) (.tmp 24)⟩,
    ⟨(some 26), some (15, false), .pick (.tmp 18) (.tmp 25) (.const (.bool false))⟩,
    ⟨(some 27), none, .pick (.tmp 15) (.const (.bool true)) (.tmp 26)⟩])
  (.kept [0, 5, 6, 7, 27] (.cond (.tmp 27) (.seq (.ops [⟨(some 2), none, .mv (.const (.bool false))⟩])
  (.ret)) (.skip))))))
  (.kept [0, 5, 6, 7] (.ops [⟨(some 28), none, .bin .add (.tmp 7) (.const (.int .i64 1))⟩,
    ⟨(some 7), none, .mv (.tmp 28)⟩]))))
def c_impl_areRising : AS :=
  .seq (.ops [⟨(some 2), none, .mv (.const (.bool false))⟩])
  (.seq (.seq (.ops [⟨(some 5), none, .mv (.tmp 0)⟩,
    ⟨(some 6), none, .lens (.tmp 5)⟩,
    ⟨(some 7), none, .mv (.const (.int .i64 0))⟩])
  (.block 0 (.loop 1 [(0, 0), (5, 0), (6, 0), (7, 0)] c_impl_areRising_l1)))
  (.kept [] (.seq (.ops [⟨(some 2), none, .mv (.const (.bool true))⟩])
  (.ret))))
theorem h_impl_areRising : (Try.prog.funcs[n_impl_areRising]?).bind (fun fn => fn.body.bind (comp Try.prog fn.ntmps)) = some (AS.strip c_impl_areRising) := by kernel_rfl
theorem r_impl_areRising : (Try.prog.funcs[n_impl_areRising]?).map (fun fn => (fn.results.toList, fn.ntmps)) = some ([.tmp 2], 29) := by kernel_rfl
-- 106 loop.example/g00850/impl.GoodWrites
abbrev n_impl_GoodWrites : Nat := 106
def c_impl_GoodWrites : AS :=
  .seq (.ops [⟨(some 2), none, .mv (.const (.bool false))⟩])
  (.seq (.ops [⟨(some 3), none, .mv (.tmp 0)⟩,
    ⟨(some 4), none, .lens (.tmp 3)⟩,
    ⟨(some 5), none, .bin .leq (.tmp 4) (.const (.int .i64 24))⟩,
    ⟨(some 6), none, .mv (.tmp 5)⟩,
    ⟨(some 7), some (6, true), .mv (.tmp 0)⟩,
    ⟨(some 8), some (6, true), .call 118 [(.tmp 7)]⟩,
    ⟨(some 9), some (6, true), .call 105 [(.tmp 8)]⟩,
    ⟨(some 10), none, .pick (.tmp 6) (.tmp 9) (.const (.bool false))⟩,
    ⟨(some 11), none, .mv (.tmp 10)⟩,
    ⟨(some 12), some (11, true), .mv (.tmp 0)⟩,
    ⟨(some 13), some (11, true), .call 119 [(.tmp 12), (.func 120)]⟩,
    ⟨(some 14), some (11, true), .not (.tmp 13)⟩,
    ⟨(some 15), none, .pick (.tmp 11) (.tmp 14) (.const (.bool false))⟩,
    ⟨(some 2), none, .mv (.tmp 15)⟩])
  (.ret))
theorem h_impl_GoodWrites : (Try.prog.funcs[n_impl_GoodWrites]?).bind (fun fn => fn.body.bind (comp Try.prog fn.ntmps)) = some (AS.strip c_impl_GoodWrites) := by kernel_rfl
theorem r_impl_GoodWrites : (Try.prog.funcs[n_impl_GoodWrites]?).map (fun fn => (fn.results.toList, fn.ntmps)) = some ([.tmp 2], 16) := by kernel_rfl
-- 107 loop.example/g00850/laws.eqEntry
abbrev n_laws_eqEntry : Nat := 107
def c_laws_eqEntry : AS :=
  .seq (.ops [⟨(some 2), none, .box (.tmp 0)⟩,
    ⟨(some 3), none, .box (.tmp 1)⟩,
    ⟨(some 4), none, .mv (.const (.bool false))⟩])
  (.seq (.seq (.ops [⟨(some 5), none, .fa 0 (.tmp 2)⟩,
    ⟨(some 6), none, .load none (.tmp 5)⟩,
    ⟨(some 7), none, .fa 0 (.tmp 3)⟩,
    ⟨(some 8), none, .load none (.tmp 7)⟩,
    ⟨(some 9), none, .bin .neq (.tmp 6) (.tmp 8)⟩])
  (.cond (.tmp 9) (.seq (.ops [⟨(some 4), none, .mv (.const (.bool false))⟩])
  (.ret)) (.skip)))
  (.kept [2, 3] (.seq (.seq (.ops [⟨(some 10), none, .fa 1 (.tmp 2)⟩,
    ⟨(some 11), none, .load (some 7) (.tmp 10)⟩,
    ⟨(some 12), none, .fa 1 (.tmp 3)⟩,
    ⟨(some 13), none, .load (some 7) (.tmp 12)⟩,
    ⟨(some 14), none, .call 122 [(.tmp 11), (.tmp 13)]⟩,
    ⟨(some 15), none, .not (.tmp 14)⟩])
  (.cond (.tmp 15) (.seq (.ops [⟨(some 4), none, .mv (.const (.bool false))⟩])
  (.ret)) (.skip)))
  (.kept [] (.seq (.ops [⟨(some 4), none, .mv (.const (.bool true))⟩])
  (.ret))))))
theorem h_laws_eqEntry : (Try.prog.funcs[n_laws_eqEntry]?).bind (fun fn => fn.body.bind (comp Try.prog fn.ntmps)) = some (AS.strip c_laws_eqEntry) := by kernel_rfl
theorem r_laws_eqEntry : (Try.prog.funcs[n_laws_eqEntry]?).map (fun fn => (fn.results.toList, fn.ntmps)) = some ([.tmp 4], 16) := by kernel_rfl
-- 112 loop.example/g00850/laws.szRec
abbrev n_laws_szRec : Nat := 112
def c_laws_szRec : AS :=
  .seq (.ops [⟨(some 2), none, .box (.tmp 0)⟩,
    ⟨(some 4), none, .mv (.const (.int .i64 0))⟩])
  (.seq (.ops [⟨(some 5), none, .fa 4 (.tmp 2)⟩,
    ⟨(some 6), none, .load none (.tmp 5)⟩,
    ⟨(some 7), none, .mv (.tmp 1)⟩,
    ⟨(some 8), none, .call 124 [(.tmp 6), (.tmp 7)]⟩,
    ⟨(some 1), none, .mv (.tmp 8)⟩])
  (.seq (.seq (.ops [⟨(some 9), none, .mv (.tmp 1)⟩,
    ⟨(some 10), none, .bin .lss (.tmp 9) (.const (.int .i64 0))⟩])
  (.cond (.tmp 10) (.seq (.ops [⟨(some 4), none, .mv (.const (.int .i64 (-1)))⟩])
  (.ret)) (.skip)))
  (.seq (.ops [⟨(some 11), none, .fa 5 (.tmp 2)⟩,
    ⟨(some 12), none, .load none (.tmp 11)⟩,
    ⟨(some 13), none, .mv (.tmp 1)⟩,
    ⟨(some 14), none, .call 125 [(.tmp 12), (.tmp 13)]⟩,
    ⟨(some 1), none, .mv (.tmp 14)⟩])
  (.seq (.seq (.ops [⟨(some 15), none, .mv (.tmp 1)⟩,
    ⟨(some 16), none, .bin .lss (.tmp 15) (.const (.int .i64 0))⟩])
  (.cond (.tmp 16) (.seq (.ops [⟨(some 4), none, .mv (.const (.int .i64 (-1)))⟩])
  (.ret)) (.skip)))
  (.seq (.ops [⟨(some 17), none, .mv (.tmp 1)⟩,
    ⟨(some 4), none, .mv (.tmp 17)⟩])
  (.ret))))))
theorem h_laws_szRec : (Try.prog.funcs[n_laws_szRec]?).bind (fun fn => fn.body.bind (comp Try.prog fn.ntmps)) = some (AS.strip c_laws_szRec) := by kernel_rfl
theorem r_laws_szRec : (Try.prog.funcs[n_laws_szRec]?).map (fun fn => (fn.results.toList, fn.ntmps)) = some ([.tmp 4], 18) := by kernel_rfl
-- 113 loop.example/g00850/spec.l3Time
abbrev n_spec_l3Time : Nat := 113
def c_spec_l3Time : AS :=
  .seq (.ops [⟨(some 2), none, .mv (.const (.bool false))⟩])
  (.seq (.ops [⟨(some 3), none, .mv (.tmp 0)⟩,
    ⟨(some 4), none, .call 47 [(.tmp 3), (.const (.int .i64 1)), (.const (.int .i64 100000))]⟩,
    ⟨(some 2), none, .mv (.tmp 4)⟩])
  (.ret))
theorem h_spec_l3Time : (Try.prog.funcs[n_spec_l3Time]?).bind (fun fn => fn.body.bind (comp Try.prog fn.ntmps)) = some (AS.strip c_spec_l3Time) := by kernel_rfl
theorem r_spec_l3Time : (Try.prog.funcs[n_spec_l3Time]?).map (fun fn => (fn.results.toList, fn.ntmps)) = some ([.tmp 2], 5) := by kernel_rfl
-- 114 loop.example/g00850/spec.l4Keys
abbrev n_spec_l4Keys : Nat := 114
def c_spec_l4Keys_l1 : AS :=
  .seq (.ops [⟨(some 8), none, .bin .lss (.tmp 7) (.tmp 6)⟩])
  (.seq (.cond (.tmp 8) (.skip) (.exit 0))
  (.seq (.block 1 (.seq (.ops [⟨(some 9), none, .mv (.tmp 7)⟩,
    ⟨(some 10), none, .ia 1 (.tmp 5) (.tmp 7)⟩,
    ⟨(some 11), none, .load none (.tmp 10)⟩,
    ⟨(some 3), none, .mv (.tmp 9)⟩,
    ⟨(some 4), none, .mv (.tmp 11)⟩])
  (.seq (.ops [⟨(some 12), none, .mv (.tmp 4)⟩,
    ⟨(some 13), none, .call 126 [(.tmp 12)]⟩,
    ⟨(some 14), none, .not (.tmp 13)⟩,
    ⟨(some 15), none, .mv (.tmp 14)⟩,
    ⟨(some 16), some (15, false), .mv (.tmp 3)⟩,
    ⟨(some 17), some (15, false), .bin .gtr (.tmp 16) (.const (.int .i64 0))⟩,
    ⟨(some 18), some (15, false), .mv (.tmp 17)⟩,
    ⟨(some 19), some (18, true), .mv (.tmp 0)⟩,
    ⟨(some 20), some (18, true), .mv (.tmp 3)⟩,
    ⟨(some 21), some (18, true), .bin .sub (.tmp 20) (.const (.int .i64 1))⟩,
    ⟨(some 22), some (18, true), .ia 1 (.tmp 19) (.tmp 21)⟩,
    ⟨(some 23), some (18, true), .load none (.tmp 22)⟩,
    ⟨(some 24), some (18, true), .mv (.tmp 4)⟩,
    ⟨(some 25), some (18, true), .bin .geq (.tmp 23) (.tmp 24)⟩,
    ⟨(some 26), some (15, false), .pick (.tmp 18) (.tmp 25) (.const (.bool false))⟩,
    ⟨(some 27), none, .pick (.tmp 15) (.const (.bool true)) (.tmp 26)⟩])
  (.kept [0, 5, 6, 7, 27] (.cond (.tmp 27) (.seq (.ops [⟨(some 2), none, .mv (.const (.bool false))⟩])
  (.ret)) (.skip))))))
  (.kept [0, 5, 6, 7] (.ops [⟨(some 28), none, .bin .add (.tmp 7) (.const (.int .i64 1))⟩,
    ⟨(some 7), none, .mv (.tmp 28)⟩]))))
def c_spec_l4Keys : AS :=
  .seq (.ops [⟨(some 2), none, .mv (.const (.bool false))⟩])
  (.seq (.seq (.ops [⟨(some 5), none, .mv (.tmp 0)⟩,
    ⟨(some 6), none, .lens (.tmp 5)⟩,
    ⟨(some 7), none, .mv (.const (.int .i64 0))⟩])
  (.block 0 (.loop 1 [(0, 0), (5, 0), (6, 0), (7, 0)] c_spec_l4Keys_l1)))
  (.kept [0] (.seq (.ops [⟨(some 29), none, .mv (.tmp 0)⟩,
    ⟨(some 30), none, .lens (.tmp 29)⟩,
    ⟨(some 31), none, .bin .leq (.tmp 30) (.const (.int .i64 8))⟩,
    ⟨(some 2), none, .mv (.tmp 31)⟩])
  (.ret))))
theorem h_spec_l4Keys : (Try.prog.funcs[n_spec_l4Keys]?).bind (fun fn => fn.body.bind (comp Try.prog fn.ntmps)) = some (AS.strip c_spec_l4Keys) := by kernel_rfl
theorem r_spec_l4Keys : (Try.prog.funcs[n_spec_l4Keys]?).map (fun fn => (fn.results.toList, fn.ntmps)) = some ([.tmp 2], 32) := by kernel_rfl
-- 115 loop.example/g00850/spec.l3Writes
abbrev n_spec_l3Writes : Nat := 115
def c_spec_l3Writes_l1 : AS :=
  .seq (.ops [⟨(some 8), none, .bin .lss (.tmp 7) (.tmp 6)⟩])
  (.seq (.cond (.tmp 8) (.skip) (.exit 0))
  (.seq (.block 1 (.seq (.ops [⟨(some 9), none, .mv (.tmp 7)⟩,
    ⟨(some 10), none, .ia 3 (.tmp 5) (.tmp 7)⟩,
    ⟨(some 11), none, .load (some 3) (.tmp 10)⟩,
    ⟨(some 4), none, .alloc (.agg #[.string ⟨⟨[]⟩⟩, .string ⟨⟨[]⟩⟩, .bool false])⟩,
    ⟨(some 3), none, .mv (.tmp 9)⟩,
    ⟨none, none, .store 3 (.tmp 4) (.tmp 11)⟩])
  (.seq (.rops [(none, ⟨(some 12), none, .fa 0 (.tmp 4)⟩),
    (none, ⟨(some 13), none, .load none (.tmp 12)⟩),
    (none, ⟨(some 14), none, .fa 1 (.tmp 4)⟩),
    (none, ⟨(some 15), none, .load none (.tmp 14)⟩),
    (none, ⟨(some 16), none, .fa 2 (.tmp 4)⟩),
    (none, ⟨(some 17), none, .load none (.tmp 16)⟩),
    (some [], ⟨(some 18), none, .call 127 [(.tmp 13), (.tmp 15), (.tmp 17)]⟩),
    (none, ⟨(some 19), none, .not (.tmp 18)⟩),
    (none, ⟨(some 20), none, .mv (.tmp 19)⟩),
    (none, ⟨(some 21), some (20, false), .mv (.tmp 3)⟩),
    (none, ⟨(some 22), some (20, false), .bin .gtr (.tmp 21) (.const (.int .i64 0))⟩),
    (none, ⟨(some 23), some (20, false), .mv (.tmp 22)⟩),
    (none, ⟨(some 24), some (23, true), .mv (.tmp 0)⟩),
    (none, ⟨(some 25), some (23, true), .mv (.tmp 3)⟩),
    (none, ⟨(some 26), some (23, true), .bin .sub (.tmp 25) (.const (.int .i64 1))⟩),
    (none, ⟨(some 27), some (23, true), .ia 3 (.tmp 24) (.tmp 26)⟩),
    (none, ⟨(some 28), some (23, true), .fa 0 (.tmp 27)⟩),
    (none, ⟨(some 29), some (23, true), .load none (.tmp 28)⟩),
    (none, ⟨(some 30), some (23, true), .fa 0 (.tmp 4)⟩),
    (none, ⟨(some 31), some (23, true), .load none (.tmp 30)⟩),
    (none, ⟨(some 32), some (23, true), .bin .geq (.tmp 29) (.tmp 31)⟩),
    (none, ⟨(some 33), some (20, false), .pick (.tmp 23) (.tmp 32) (.const (.bool false))⟩),
    (none, ⟨(some 34), none, .pick (.tmp 20) (.const (.bool true)) (.tmp 33)⟩)])
  (.kept [0, 5, 6, 7, 34] (.cond (.tmp 34) (.seq (.ops [⟨(some 2), none, .mv (.const (.bool false))⟩])
  (.ret)) (.skip))))))
  (.kept [0, 5, 6, 7] (.ops [⟨(some 35), none, .bin .add (.tmp 7) (.const (.int .i64 1))⟩,
    ⟨(some 7), none, .mv (.tmp 35)⟩]))))
def c_spec_l3Writes : AS :=
  .seq (.ops [⟨(some 2), none, .mv (.const (.bool false))⟩])
  (.seq (.seq (.ops [⟨(some 5), none, .mv (.tmp 0)⟩,
    ⟨(some 6), none, .lens (.tmp 5)⟩,
    ⟨(some 7), none, .mv (.const (.int .i64 0))⟩])
  (.block 0 (.loop 1 [(0, 0), (5, 0), (6, 0), (7, 0)] c_spec_l3Writes_l1)))
  (.kept [0] (.seq (.ops [⟨(some 36), none, .mv (.tmp 0)⟩,
    ⟨(some 37), none, .lens (.tmp 36)⟩,
    ⟨(some 38), none, .bin .leq (.tmp 37) (.const (.int .i64 24))⟩,
    ⟨(some 2), none, .mv (.tmp 38)⟩])
  (.ret))))
theorem h_spec_l3Writes : (Try.prog.funcs[n_spec_l3Writes]?).bind (fun fn => fn.body.bind (comp Try.prog fn.ntmps)) = some (AS.strip c_spec_l3Writes) := by kernel_rfl
theorem r_spec_l3Writes : (Try.prog.funcs[n_spec_l3Writes]?).map (fun fn => (fn.results.toList, fn.ntmps)) = some ([.tmp 2], 39) := by kernel_rfl
-- 116 loop.example/g00850/laws.toRec
abbrev n_laws_toRec : Nat := 116
def c_laws_toRec : AS :=
  .seq (.ops [⟨(some 1), none, .box (.tmp 0)⟩,
    ⟨(some 2), none, .alloc (.agg #[.int .i64 0, .int .i64 0, .int .i64 0, .int .i64 0, .slice none 0 0, .slice none 0 0, .bool false])⟩])
  (.seq (.ops [⟨(some 3), none, .alloc (.agg #[.int .i64 0, .int .i64 0, .int .i64 0, .int .i64 0, .slice none 0 0, .slice none 0 0, .bool false])⟩])
  (.seq (.ops [⟨(some 4), none, .fa 0 (.tmp 1)⟩,
    ⟨(some 5), none, .load none (.tmp 4)⟩,
    ⟨(some 6), none, .fa 0 (.tmp 3)⟩,
    ⟨none, none, .store 1 (.tmp 6) (.tmp 5)⟩])
  (.seq (.ops [⟨(some 7), none, .fa 1 (.tmp 1)⟩,
    ⟨(some 8), none, .load none (.tmp 7)⟩,
    ⟨(some 9), none, .fa 1 (.tmp 3)⟩,
    ⟨none, none, .store 1 (.tmp 9) (.tmp 8)⟩])
  (.seq (.ops [⟨(some 10), none, .fa 2 (.tmp 1)⟩,
    ⟨(some 11), none, .load none (.tmp 10)⟩,
    ⟨(some 12), none, .fa 2 (.tmp 3)⟩,
    ⟨none, none, .store 1 (.tmp 12) (.tmp 11)⟩])
  (.seq (.ops [⟨(some 13), none, .fa 3 (.tmp 1)⟩,
    ⟨(some 14), none, .load none (.tmp 13)⟩,
    ⟨(some 15), none, .fa 3 (.tmp 3)⟩,
    ⟨none, none, .store 1 (.tmp 15) (.tmp 14)⟩])
  (.seq (.ops [⟨(some 16), none, .fa 4 (.tmp 1)⟩,
    ⟨(some 17), none, .load none (.tmp 16)⟩,
    ⟨(some 18), none, .call 128 [(.tmp 17)]⟩,
    ⟨(some 19), none, .fa 4 (.tmp 3)⟩,
    ⟨none, none, .store 1 (.tmp 19) (.tmp 18)⟩])
  (.seq (.ops [⟨(some 20), none, .fa 5 (.tmp 1)⟩,
    ⟨(some 21), none, .load none (.tmp 20)⟩,
    ⟨(some 22), none, .call 129 [(.tmp 21)]⟩,
    ⟨(some 23), none, .fa 5 (.tmp 3)⟩,
    ⟨none, none, .store 1 (.tmp 23) (.tmp 22)⟩])
  (.seq (.ops [⟨(some 24), none, .fa 6 (.tmp 1)⟩,
    ⟨(some 25), none, .load none (.tmp 24)⟩,
    ⟨(some 26), none, .fa 6 (.tmp 3)⟩,
    ⟨none, none, .store 1 (.tmp 26) (.tmp 25)⟩])
  (.seq (.ops [⟨(some 27), none, .load (some 7) (.tmp 3)⟩,
    ⟨none, none, .store 7 (.tmp 2) (.tmp 27)⟩])
  (.ret))))))))))
theorem h_laws_toRec : (Try.prog.funcs[n_laws_toRec]?).bind (fun fn => fn.body.bind (comp Try.prog fn.ntmps)) = some (AS.strip c_laws_toRec) := by kernel_rfl
theorem r_laws_toRec : (Try.prog.funcs[n_laws_toRec]?).map (fun fn => (fn.results.toList, fn.ntmps)) = some ([.cell 2 88], 28) := by kernel_rfl
-- 117 loop.example/g00850/impl.GoodKey
abbrev n_impl_GoodKey : Nat := 117
def c_impl_GoodKey : AS :=
  .seq (.ops [⟨(some 2), none, .mv (.const (.bool false))⟩])
  (.seq (.ops [⟨(some 3), none, .mv (.tmp 0)⟩,
    ⟨(some 4), none, .lent (.tmp 3)⟩,
    ⟨(some 5), none, .call 51 [(.tmp 4), (.const (.int .i64 1)), (.const (.int .i64 12))]⟩,
    ⟨(some 6), none, .mv (.tmp 5)⟩,
    ⟨(some 7), some (6, true), .mv (.tmp 0)⟩,
    ⟨(some 8), some (6, true), .call 130 [(.tmp 7), (.const (.string ⟨⟨[46, 47]⟩⟩))]⟩,
    ⟨(some 9), none, .pick (.tmp 6) (.tmp 8) (.const (.bool false))⟩,
    ⟨(some 2), none, .mv (.tmp 9)⟩])
  (.ret))
theorem h_impl_GoodKey : (Try.prog.funcs[n_impl_GoodKey]?).bind (fun fn => fn.body.bind (comp Try.prog fn.ntmps)) = some (AS.strip c_impl_GoodKey) := by kernel_rfl
theorem r_impl_GoodKey : (Try.prog.funcs[n_impl_GoodKey]?).map (fun fn => (fn.results.toList, fn.ntmps)) = some ([.tmp 2], 10) := by kernel_rfl
-- 118 loop.example/g00850/impl.writeKeys
abbrev n_impl_writeKeys : Nat := 118
def c_impl_writeKeys_l1 : AS :=
  .seq (.ops [⟨(some 10), none, .bin .lss (.tmp 9) (.tmp 8)⟩])
  (.seq (.cond (.tmp 10) (.skip) (.exit 0))
  (.seq (.block 1 (.seq (.ops [⟨(some 11), none, .ia 3 (.tmp 7) (.tmp 9)⟩,
    ⟨(some 12), none, .load (some 3) (.tmp 11)⟩,
    ⟨(some 5), none, .alloc (.agg #[.string ⟨⟨[]⟩⟩, .string ⟨⟨[]⟩⟩, .bool false])⟩,
    ⟨none, none, .store 3 (.tmp 5) (.tmp 12)⟩])
  (.ops [⟨(some 13), none, .mv (.tmp 3)⟩,
    ⟨(some 14), none, .fa 0 (.tmp 5)⟩,
    ⟨(some 15), none, .load none (.tmp 14)⟩,
    ⟨(some 16), none, .bsl 1 (.string ⟨⟨[]⟩⟩) 1 [(0, (.tmp 15))]⟩,
    ⟨(some 17), none, .app 1 16 (.string ⟨⟨[]⟩⟩) (.tmp 13) (.tmp 16)⟩,
    ⟨(some 3), none, .mv (.tmp 17)⟩])))
  (.kept [3, 7, 8, 9] (.ops [⟨(some 18), none, .bin .add (.tmp 9) (.const (.int .i64 1))⟩,
    ⟨(some 9), none, .mv (.tmp 18)⟩]))))
def c_impl_writeKeys : AS :=
  .seq (.ops [⟨(some 2), none, .mv (.const (.slice none 0 0))⟩])
  (.seq (.ops [⟨(some 6), none, .bsl 1 (.string ⟨⟨[]⟩⟩) 0 []⟩,
    ⟨(some 3), none, .mv (.tmp 6)⟩])
  (.seq (.seq (.ops [⟨(some 7), none, .mv (.tmp 0)⟩,
    ⟨(some 8), none, .lens (.tmp 7)⟩,
    ⟨(some 9), none, .mv (.const (.int .i64 0))⟩])
  (.block 0 (.loop 1 [(3, 1), (7, 0), (8, 0), (9, 0)] c_impl_writeKeys_l1)))
  (.kept [3] (.seq (.ops [⟨(some 19), none, .mv (.tmp 3)⟩,
    ⟨(some 2), none, .mv (.tmp 19)⟩])
  (.ret)))))
theorem h_impl_writeKeys : (Try.prog.funcs[n_impl_writeKeys]?).bind (fun fn => fn.body.bind (comp Try.prog fn.ntmps)) = some (AS.strip c_impl_writeKeys) := by kernel_rfl
theorem r_impl_writeKeys : (Try.prog.funcs[n_impl_writeKeys]?).map (fun fn => (fn.results.toList, fn.ntmps)) = some ([.tmp 2], 20) := by kernel_rfl
-- 119 slices.ContainsFunc[[]loop.example/g00850/impl.Write,loop.example/g00850/impl.Write]
abbrev n_slices_ContainsFunc___impl_Write_impl_Write_ : Nat := 119
def c_slices_ContainsFunc___impl_Write_impl_Write_ : AS :=
  .seq (.ops [⟨(some 4), none, .mv (.const (.bool false))⟩])
  (.seq (.ops [⟨(some 5), none, .mv (.tmp 0)⟩,
    ⟨(some 6), none, .mv (.tmp 1)⟩,
    ⟨(some 7), none, .call 131 [(.tmp 5), (.tmp 6)]⟩,
    ⟨(some 8), none, .bin .geq (.tmp 7) (.const (.int .i64 0))⟩,
    ⟨(some 4), none, .mv (.tmp 8)⟩])
  (.ret))
theorem h_slices_ContainsFunc___impl_Write_impl_Write_ : (Try.prog.funcs[n_slices_ContainsFunc___impl_Write_impl_Write_]?).bind (fun fn => fn.body.bind (comp Try.prog fn.ntmps)) = some (AS.strip c_slices_ContainsFunc___impl_Write_impl_Write_) := by kernel_rfl
theorem r_slices_ContainsFunc___impl_Write_impl_Write_ : (Try.prog.funcs[n_slices_ContainsFunc___impl_Write_impl_Write_]?).map (fun fn => (fn.results.toList, fn.ntmps)) = some ([.tmp 4], 9) := by kernel_rfl
-- 120 loop.example/g00850/impl.GoodWrites$1
abbrev n_impl_GoodWrites_1 : Nat := 120
def c_impl_GoodWrites_1 : AS :=
  .seq (.ops [⟨(some 1), none, .box (.tmp 0)⟩,
    ⟨(some 2), none, .mv (.const (.bool false))⟩])
  (.seq (.ops [⟨(some 3), none, .fa 1 (.tmp 1)⟩,
    ⟨(some 4), none, .load none (.tmp 3)⟩,
    ⟨(some 5), none, .fa 2 (.tmp 1)⟩,
    ⟨(some 6), none, .load none (.tmp 5)⟩,
    ⟨(some 7), none, .call 121 [(.tmp 4), (.tmp 6)]⟩,
    ⟨(some 8), none, .not (.tmp 7)⟩,
    ⟨(some 2), none, .mv (.tmp 8)⟩])
  (.ret))
theorem h_impl_GoodWrites_1 : (Try.prog.funcs[n_impl_GoodWrites_1]?).bind (fun fn => fn.body.bind (comp Try.prog fn.ntmps)) = some (AS.strip c_impl_GoodWrites_1) := by kernel_rfl
theorem r_impl_GoodWrites_1 : (Try.prog.funcs[n_impl_GoodWrites_1]?).map (fun fn => (fn.results.toList, fn.ntmps)) = some ([.tmp 2], 9) := by kernel_rfl
-- 121 loop.example/g00850/impl.isStored
abbrev n_impl_isStored : Nat := 121
def c_impl_isStored : AS :=
  .seq (.ops [⟨(some 4), none, .mv (.const (.bool false))⟩])
  (.seq (.ops [⟨(some 5), none, .mv (.tmp 0)⟩,
    ⟨(some 6), none, .call 132 [(.tmp 5)]⟩,
    ⟨(some 7), none, .mv (.tmp 6)⟩,
    ⟨(some 8), some (7, true), .mv (.tmp 1)⟩,
    ⟨(some 9), some (7, true), .mv (.tmp 8)⟩,
    ⟨(some 10), some (9, true), .mv (.tmp 0)⟩,
    ⟨(some 11), some (9, true), .bin .neq (.tmp 10) (.const (.string ⟨⟨[]⟩⟩))⟩,
    ⟨(some 12), some (7, true), .pick (.tmp 9) (.tmp 11) (.const (.bool false))⟩,
    ⟨(some 13), some (7, true), .not (.tmp 12)⟩,
    ⟨(some 14), none, .pick (.tmp 7) (.tmp 13) (.const (.bool false))⟩,
    ⟨(some 4), none, .mv (.tmp 14)⟩])
  (.ret))
theorem h_impl_isStored : (Try.prog.funcs[n_impl_isStored]?).bind (fun fn => fn.body.bind (comp Try.prog fn.ntmps)) = some (AS.strip c_impl_isStored) := by kernel_rfl
theorem r_impl_isStored : (Try.prog.funcs[n_impl_isStored]?).map (fun fn => (fn.results.toList, fn.ntmps)) = some ([.tmp 4], 15) := by kernel_rfl
-- 122 loop.example/g00850/laws.eqRec
abbrev n_laws_eqRec : Nat := 122
def c_laws_eqRec : AS :=
  .seq (.ops [⟨(some 2), none, .box (.tmp 0)⟩,
    ⟨(some 3), none, .box (.tmp 1)⟩,
    ⟨(some 4), none, .mv (.const (.bool false))⟩])
  (.seq (.seq (.ops [⟨(some 5), none, .fa 0 (.tmp 2)⟩,
    ⟨(some 6), none, .load none (.tmp 5)⟩,
    ⟨(some 7), none, .fa 0 (.tmp 3)⟩,
    ⟨(some 8), none, .load none (.tmp 7)⟩,
    ⟨(some 9), none, .bin .neq (.tmp 6) (.tmp 8)⟩])
  (.cond (.tmp 9) (.seq (.ops [⟨(some 4), none, .mv (.const (.bool false))⟩])
  (.ret)) (.skip)))
  (.kept [2, 3] (.seq (.seq (.ops [⟨(some 10), none, .fa 1 (.tmp 2)⟩,
    ⟨(some 11), none, .load none (.tmp 10)⟩,
    ⟨(some 12), none, .fa 1 (.tmp 3)⟩,
    ⟨(some 13), none, .load none (.tmp 12)⟩,
    ⟨(some 14), none, .bin .neq (.tmp 11) (.tmp 13)⟩])
  (.cond (.tmp 14) (.seq (.ops [⟨(some 4), none, .mv (.const (.bool false))⟩])
  (.ret)) (.skip)))
  (.kept [2, 3] (.seq (.seq (.ops [⟨(some 15), none, .fa 2 (.tmp 2)⟩,
    ⟨(some 16), none, .load none (.tmp 15)⟩,
    ⟨(some 17), none, .fa 2 (.tmp 3)⟩,
    ⟨(some 18), none, .load none (.tmp 17)⟩,
    ⟨(some 19), none, .bin .neq (.tmp 16) (.tmp 18)⟩])
  (.cond (.tmp 19) (.seq (.ops [⟨(some 4), none, .mv (.const (.bool false))⟩])
  (.ret)) (.skip)))
  (.kept [2, 3] (.seq (.seq (.ops [⟨(some 20), none, .fa 3 (.tmp 2)⟩,
    ⟨(some 21), none, .load none (.tmp 20)⟩,
    ⟨(some 22), none, .fa 3 (.tmp 3)⟩,
    ⟨(some 23), none, .load none (.tmp 22)⟩,
    ⟨(some 24), none, .bin .neq (.tmp 21) (.tmp 23)⟩])
  (.cond (.tmp 24) (.seq (.ops [⟨(some 4), none, .mv (.const (.bool false))⟩])
  (.ret)) (.skip)))
  (.kept [2, 3] (.seq (.seq (.ops [⟨(some 25), none, .fa 4 (.tmp 2)⟩,
    ⟨(some 26), none, .load none (.tmp 25)⟩,
    ⟨(some 27), none, .fa 4 (.tmp 3)⟩,
    ⟨(some 28), none, .load none (.tmp 27)⟩,
    ⟨(some 29), none, .call 133 [(.tmp 26), (.tmp 28)]⟩,
    ⟨(some 30), none, .not (.tmp 29)⟩])
  (.cond (.tmp 30) (.seq (.ops [⟨(some 4), none, .mv (.const (.bool false))⟩])
  (.ret)) (.skip)))
  (.kept [2, 3] (.seq (.seq (.ops [⟨(some 31), none, .fa 5 (.tmp 2)⟩,
    ⟨(some 32), none, .load none (.tmp 31)⟩,
    ⟨(some 33), none, .fa 5 (.tmp 3)⟩,
    ⟨(some 34), none, .load none (.tmp 33)⟩,
    ⟨(some 35), none, .call 134 [(.tmp 32), (.tmp 34)]⟩,
    ⟨(some 36), none, .not (.tmp 35)⟩])
  (.cond (.tmp 36) (.seq (.ops [⟨(some 4), none, .mv (.const (.bool false))⟩])
  (.ret)) (.skip)))
  (.kept [2, 3] (.seq (.seq (.ops [⟨(some 37), none, .fa 6 (.tmp 2)⟩,
    ⟨(some 38), none, .load none (.tmp 37)⟩,
    ⟨(some 39), none, .fa 6 (.tmp 3)⟩,
    ⟨(some 40), none, .load none (.tmp 39)⟩,
    ⟨(some 41), none, .eqb true (.tmp 38) (.tmp 40)⟩])
  (.cond (.tmp 41) (.seq (.ops [⟨(some 4), none, .mv (.const (.bool false))⟩])
  (.ret)) (.skip)))
  (.kept [] (.seq (.ops [⟨(some 4), none, .mv (.const (.bool true))⟩])
  (.ret))))))))))))))))
theorem h_laws_eqRec : (Try.prog.funcs[n_laws_eqRec]?).bind (fun fn => fn.body.bind (comp Try.prog fn.ntmps)) = some (AS.strip c_laws_eqRec) := by kernel_rfl
theorem r_laws_eqRec : (Try.prog.funcs[n_laws_eqRec]?).map (fun fn => (fn.results.toList, fn.ntmps)) = some ([.tmp 4], 42) := by kernel_rfl
-- 124 loop.example/g00850/laws.szStringS
abbrev n_laws_szStringS : Nat := 124
def c_laws_szStringS_l1 : AS :=
  .seq (.seq (.ops [⟨(some 12), none, .mv (.tmp 5)⟩,
    ⟨(some 13), none, .mv (.tmp 0)⟩,
    ⟨(some 14), none, .lens (.tmp 13)⟩,
    ⟨(some 15), none, .bin .lss (.tmp 12) (.tmp 14)⟩])
  (.cond (.tmp 15) (.skip) (.exit 0)))
  (.seq (.block 1 (.seq (.ops [⟨(some 18), none, .mv (.tmp 1)⟩,
    ⟨(some 19), none, .mv (.tmp 0)⟩,
    ⟨(some 20), none, .mv (.tmp 5)⟩,
    ⟨(some 21), none, .ia 1 (.tmp 19) (.tmp 20)⟩,
    ⟨(some 22), none, .load none (.tmp 21)⟩,
    ⟨(some 23), none, .lent (.tmp 22)⟩,
    ⟨(some 24), none, .bin .sub (.tmp 18) (.tmp 23)⟩,
    ⟨(some 1), none, .mv (.tmp 24)⟩])
  (.kept [0, 1, 5] (.seq (.ops [⟨(some 25), none, .mv (.tmp 1)⟩,
    ⟨(some 26), none, .bin .lss (.tmp 25) (.const (.int .i64 0))⟩])
  (.cond (.tmp 26) (.seq (.ops [⟨(some 4), none, .mv (.const (.int .i64 (-1)))⟩])
  (.ret)) (.skip))))))
  (.kept [0, 1, 5] (.ops [⟨(some 16), none, .mv (.tmp 5)⟩,
    ⟨(some 17), none, .bin .add (.tmp 16) (.const (.int .i64 1))⟩,
    ⟨(some 5), none, .mv (.tmp 17)⟩])))
def c_laws_szStringS : AS :=
  .seq (.ops [⟨(some 4), none, .mv (.const (.int .i64 0))⟩])
  (.seq (.ops [⟨(some 6), none, .mv (.tmp 1)⟩,
    ⟨(some 7), none, .mv (.tmp 0)⟩,
    ⟨(some 8), none, .lens (.tmp 7)⟩,
    ⟨(some 9), none, .bin .sub (.tmp 6) (.tmp 8)⟩,
    ⟨(some 1), none, .mv (.tmp 9)⟩])
  (.seq (.seq (.ops [⟨(some 10), none, .mv (.tmp 1)⟩,
    ⟨(some 11), none, .bin .lss (.tmp 10) (.const (.int .i64 0))⟩])
  (.cond (.tmp 11) (.seq (.ops [⟨(some 4), none, .mv (.const (.int .i64 (-1)))⟩])
  (.ret)) (.skip)))
  (.seq (.seq (.ops [⟨(some 5), none, .mv (.const (.int .i64 0))⟩])
  (.block 0 (.loop 2 [(0, 0), (1, 0), (5, 0)] c_laws_szStringS_l1)))
  (.kept [1] (.seq (.ops [⟨(some 27), none, .mv (.tmp 1)⟩,
    ⟨(some 4), none, .mv (.tmp 27)⟩])
  (.ret))))))
theorem h_laws_szStringS : (Try.prog.funcs[n_laws_szStringS]?).bind (fun fn => fn.body.bind (comp Try.prog fn.ntmps)) = some (AS.strip c_laws_szStringS) := by kernel_rfl
theorem r_laws_szStringS : (Try.prog.funcs[n_laws_szStringS]?).map (fun fn => (fn.results.toList, fn.ntmps)) = some ([.tmp 4], 28) := by kernel_rfl
-- 125 loop.example/g00850/laws.szWriteS
abbrev n_laws_szWriteS : Nat := 125
def c_laws_szWriteS_l1 : AS :=
  .seq (.seq (.ops [⟨(some 12), none, .mv (.tmp 5)⟩,
    ⟨(some 13), none, .mv (.tmp 0)⟩,
    ⟨(some 14), none, .lens (.tmp 13)⟩,
    ⟨(some 15), none, .bin .lss (.tmp 12) (.tmp 14)⟩])
  (.cond (.tmp 15) (.skip) (.exit 0)))
  (.seq (.block 1 (.seq (.ops [⟨(some 18), none, .mv (.tmp 0)⟩,
    ⟨(some 19), none, .mv (.tmp 5)⟩,
    ⟨(some 20), none, .ia 3 (.tmp 18) (.tmp 19)⟩,
    ⟨(some 21), none, .load (some 3) (.tmp 20)⟩,
    ⟨(some 22), none, .mv (.tmp 1)⟩,
    ⟨(some 23), none, .call 135 [(.tmp 21), (.tmp 22)]⟩,
    ⟨(some 1), none, .mv (.tmp 23)⟩])
  (.kept [0, 1, 5] (.seq (.ops [⟨(some 24), none, .mv (.tmp 1)⟩,
    ⟨(some 25), none, .bin .lss (.tmp 24) (.const (.int .i64 0))⟩])
  (.cond (.tmp 25) (.seq (.ops [⟨(some 4), none, .mv (.const (.int .i64 (-1)))⟩])
  (.ret)) (.skip))))))
  (.kept [0, 1, 5] (.ops [⟨(some 16), none, .mv (.tmp 5)⟩,
    ⟨(some 17), none, .bin .add (.tmp 16) (.const (.int .i64 1))⟩,
    ⟨(some 5), none, .mv (.tmp 17)⟩])))
def c_laws_szWriteS : AS :=
  .seq (.ops [⟨(some 4), none, .mv (.const (.int .i64 0))⟩])
  (.seq (.ops [⟨(some 6), none, .mv (.tmp 1)⟩,
    ⟨(some 7), none, .mv (.tmp 0)⟩,
    ⟨(some 8), none, .lens (.tmp 7)⟩,
    ⟨(some 9), none, .bin .sub (.tmp 6) (.tmp 8)⟩,
    ⟨(some 1), none, .mv (.tmp 9)⟩])
  (.seq (.seq (.ops [⟨(some 10), none, .mv (.tmp 1)⟩,
    ⟨(some 11), none, .bin .lss (.tmp 10) (.const (.int .i64 0))⟩])
  (.cond (.tmp 11) (.seq (.ops [⟨(some 4), none, .mv (.const (.int .i64 (-1)))⟩])
  (.ret)) (.skip)))
  (.seq (.seq (.ops [⟨(some 5), none, .mv (.const (.int .i64 0))⟩])
  (.block 0 (.loop 2 [(0, 0), (1, 0), (5, 0)] c_laws_szWriteS_l1)))
  (.kept [1] (.seq (.ops [⟨(some 26), none, .mv (.tmp 1)⟩,
    ⟨(some 4), none, .mv (.tmp 26)⟩])
  (.ret))))))
theorem h_laws_szWriteS : (Try.prog.funcs[n_laws_szWriteS]?).bind (fun fn => fn.body.bind (comp Try.prog fn.ntmps)) = some (AS.strip c_laws_szWriteS) := by kernel_rfl
theorem r_laws_szWriteS : (Try.prog.funcs[n_laws_szWriteS]?).map (fun fn => (fn.results.toList, fn.ntmps)) = some ([.tmp 4], 27) := by kernel_rfl
-- 126 loop.example/g00850/spec.l3Key
abbrev n_spec_l3Key : Nat := 126
def c_spec_l3Key : AS :=
  .seq (.ops [⟨(some 2), none, .mv (.const (.bool false))⟩])
  (.seq (.ops [⟨(some 3), none, .mv (.tmp 0)⟩,
    ⟨(some 4), none, .lent (.tmp 3)⟩,
    ⟨(some 5), none, .call 47 [(.tmp 4), (.const (.int .i64 1)), (.const (.int .i64 12))]⟩,
    ⟨(some 6), none, .mv (.tmp 5)⟩,
    ⟨(some 7), some (6, true), .mv (.tmp 0)⟩,
    ⟨(some 8), some (6, true), .call 136 [(.tmp 7), (.const (.string ⟨⟨[46, 47]⟩⟩))]⟩,
    ⟨(some 9), none, .pick (.tmp 6) (.tmp 8) (.const (.bool false))⟩,
    ⟨(some 2), none, .mv (.tmp 9)⟩])
  (.ret))
theorem h_spec_l3Key : (Try.prog.funcs[n_spec_l3Key]?).bind (fun fn => fn.body.bind (comp Try.prog fn.ntmps)) = some (AS.strip c_spec_l3Key) := by kernel_rfl
theorem r_spec_l3Key : (Try.prog.funcs[n_spec_l3Key]?).map (fun fn => (fn.results.toList, fn.ntmps)) = some ([.tmp 2], 10) := by kernel_rfl
-- 127 loop.example/g00850/spec.l3Write
abbrev n_spec_l3Write : Nat := 127
def c_spec_l3Write : AS :=
  .seq (.ops [⟨(some 6), none, .mv (.const (.bool false))⟩])
  (.seq (.ops [⟨(some 7), none, .mv (.tmp 0)⟩,
    ⟨(some 8), none, .call 126 [(.tmp 7)]⟩,
    ⟨(some 9), none, .mv (.tmp 8)⟩,
    ⟨(some 10), some (9, true), .mv (.tmp 1)⟩,
    ⟨(some 11), some (9, true), .call 137 [(.tmp 10)]⟩,
    ⟨(some 12), none, .pick (.tmp 9) (.tmp 11) (.const (.bool false))⟩,
    ⟨(some 13), none, .mv (.tmp 12)⟩,
    ⟨(some 14), some (13, true), .mv (.tmp 2)⟩,
    ⟨(some 15), some (13, true), .not (.tmp 14)⟩,
    ⟨(some 16), some (13, true), .mv (.tmp 15)⟩,
    ⟨(some 17), some (16, false), .mv (.tmp 1)⟩,
    ⟨(some 18), some (16, false), .bin .eql (.tmp 17) (.const (.string ⟨⟨[]⟩⟩))⟩,
    ⟨(some 19), some (13, true), .pick (.tmp 16) (.const (.bool true)) (.tmp 18)⟩,
    ⟨(some 20), none, .pick (.tmp 13) (.tmp 19) (.const (.bool false))⟩,
    ⟨(some 6), none, .mv (.tmp 20)⟩])
  (.ret))
theorem h_spec_l3Write : (Try.prog.funcs[n_spec_l3Write]?).bind (fun fn => fn.body.bind (comp Try.prog fn.ntmps)) = some (AS.strip c_spec_l3Write) := by kernel_rfl
theorem r_spec_l3Write : (Try.prog.funcs[n_spec_l3Write]?).map (fun fn => (fn.results.toList, fn.ntmps)) = some ([.tmp 6], 21) := by kernel_rfl
-- 128 loop.example/g00850/laws.toStringS
abbrev n_laws_toStringS : Nat := 128
def c_laws_toStringS_l1 : AS :=
  .seq (.seq (.ops [⟨(some 8), none, .mv (.tmp 4)⟩,
    ⟨(some 9), none, .mv (.tmp 0)⟩,
    ⟨(some 10), none, .lens (.tmp 9)⟩,
    ⟨(some 11), none, .bin .lss (.tmp 8) (.tmp 10)⟩])
  (.cond (.tmp 11) (.skip) (.exit 0)))
  (.seq (.block 1 (.ops [⟨(some 14), none, .mv (.tmp 3)⟩,
    ⟨(some 15), none, .mv (.tmp 4)⟩,
    ⟨(some 16), none, .mv (.tmp 0)⟩,
    ⟨(some 17), none, .mv (.tmp 4)⟩,
    ⟨(some 18), none, .ia 1 (.tmp 16) (.tmp 17)⟩,
    ⟨(some 19), none, .load none (.tmp 18)⟩,
    ⟨(some 20), none, .ia 1 (.tmp 14) (.tmp 15)⟩,
    ⟨none, none, .store 1 (.tmp 20) (.tmp 19)⟩]))
  (.kept [0, 3, 4] (.ops [⟨(some 12), none, .mv (.tmp 4)⟩,
    ⟨(some 13), none, .bin .add (.tmp 12) (.const (.int .i64 1))⟩,
    ⟨(some 4), none, .mv (.tmp 13)⟩])))
def c_laws_toStringS : AS :=
  .seq (.ops [⟨(some 2), none, .mv (.const (.slice none 0 0))⟩])
  (.seq (.ops [⟨(some 5), none, .mv (.tmp 0)⟩,
    ⟨(some 6), none, .lens (.tmp 5)⟩,
    ⟨(some 7), none, .mks 1 16 (.string ⟨⟨[]⟩⟩) (.tmp 6) (.tmp 6)⟩,
    ⟨(some 3), none, .mv (.tmp 7)⟩])
  (.seq (.seq (.ops [⟨(some 4), none, .mv (.const (.int .i64 0))⟩])
  (.block 0 (.loop 1 [(0, 0), (3, 0), (4, 0)] c_laws_toStringS_l1)))
  (.kept [3] (.seq (.ops [⟨(some 21), none, .mv (.tmp 3)⟩,
    ⟨(some 2), none, .mv (.tmp 21)⟩])
  (.ret)))))
theorem h_laws_toStringS : (Try.prog.funcs[n_laws_toStringS]?).bind (fun fn => fn.body.bind (comp Try.prog fn.ntmps)) = some (AS.strip c_laws_toStringS) := by kernel_rfl
theorem r_laws_toStringS : (Try.prog.funcs[n_laws_toStringS]?).map (fun fn => (fn.results.toList, fn.ntmps)) = some ([.tmp 2], 22) := by kernel_rfl
-- 129 loop.example/g00850/laws.toWriteS
abbrev n_laws_toWriteS : Nat := 129
def c_laws_toWriteS_l1 : AS :=
  .seq (.seq (.ops [⟨(some 8), none, .mv (.tmp 4)⟩,
    ⟨(some 9), none, .mv (.tmp 0)⟩,
    ⟨(some 10), none, .lens (.tmp 9)⟩,
    ⟨(some 11), none, .bin .lss (.tmp 8) (.tmp 10)⟩])
  (.cond (.tmp 11) (.skip) (.exit 0)))
  (.seq (.block 1 (.ops [⟨(some 14), none, .mv (.tmp 3)⟩,
    ⟨(some 15), none, .mv (.tmp 4)⟩,
    ⟨(some 16), none, .mv (.tmp 0)⟩,
    ⟨(some 17), none, .mv (.tmp 4)⟩,
    ⟨(some 18), none, .ia 3 (.tmp 16) (.tmp 17)⟩,
    ⟨(some 19), none, .load (some 3) (.tmp 18)⟩,
    ⟨(some 20), none, .call 138 [(.tmp 19)]⟩,
    ⟨(some 21), none, .ia 3 (.tmp 14) (.tmp 15)⟩,
    ⟨none, none, .store 3 (.tmp 21) (.tmp 20)⟩]))
  (.kept [0, 3, 4] (.ops [⟨(some 12), none, .mv (.tmp 4)⟩,
    ⟨(some 13), none, .bin .add (.tmp 12) (.const (.int .i64 1))⟩,
    ⟨(some 4), none, .mv (.tmp 13)⟩])))
def c_laws_toWriteS : AS :=
  .seq (.ops [⟨(some 2), none, .mv (.const (.slice none 0 0))⟩])
  (.seq (.ops [⟨(some 5), none, .mv (.tmp 0)⟩,
    ⟨(some 6), none, .lens (.tmp 5)⟩,
    ⟨(some 7), none, .mks 3 40 (.agg #[.string ⟨⟨[]⟩⟩, .string ⟨⟨[]⟩⟩, .bool false]) (.tmp 6) (.tmp 6)⟩,
    ⟨(some 3), none, .mv (.tmp 7)⟩])
  (.seq (.seq (.ops [⟨(some 4), none, .mv (.const (.int .i64 0))⟩])
  (.block 0 (.loop 1 [(0, 0), (3, 0), (4, 0)] c_laws_toWriteS_l1)))
  (.kept [3] (.seq (.ops [⟨(some 22), none, .mv (.tmp 3)⟩,
    ⟨(some 2), none, .mv (.tmp 22)⟩])
  (.ret)))))
theorem h_laws_toWriteS : (Try.prog.funcs[n_laws_toWriteS]?).bind (fun fn => fn.body.bind (comp Try.prog fn.ntmps)) = some (AS.strip c_laws_toWriteS) := by kernel_rfl
theorem r_laws_toWriteS : (Try.prog.funcs[n_laws_toWriteS]?).map (fun fn => (fn.results.toList, fn.ntmps)) = some ([.tmp 2], 23) := by kernel_rfl
-- 130 loop.example/g00850/impl.hasBytes
abbrev n_impl_hasBytes : Nat := 130
def c_impl_hasBytes_l1 : AS :=
  .seq (.ops [⟨(some 9), none, .bin .lss (.tmp 8) (.tmp 7)⟩])
  (.seq (.cond (.tmp 9) (.skip) (.exit 0))
  (.seq (.block 1 (.seq (.ops [⟨(some 10), none, .mv (.tmp 8)⟩,
    ⟨(some 5), none, .mv (.tmp 10)⟩])
  (.seq (.ops [⟨(some 11), none, .mv (.tmp 0)⟩,
    ⟨(some 12), none, .mv (.tmp 5)⟩,
    ⟨(some 13), none, .ix (.tmp 11) (.tmp 12)⟩,
    ⟨(some 14), none, .call 139 [(.tmp 13)]⟩,
    ⟨(some 15), none, .not (.tmp 14)⟩,
    ⟨(some 16), none, .mv (.tmp 15)⟩,
    ⟨(some 17), some (16, true), .mv (.tmp 1)⟩,
    ⟨(some 18), some (16, true), .mv (.tmp 0)⟩,
    ⟨(some 19), some (16, true), .mv (.tmp 5)⟩,
    ⟨(some 20), some (16, true), .ix (.tmp 18) (.tmp 19)⟩,
    ⟨(some 21), some (16, true), .call 140 [(.tmp 17), (.tmp 20)]⟩,
    ⟨(some 22), some (16, true), .bin .lss (.tmp 21) (.const (.int .i64 0))⟩,
    ⟨(some 23), none, .pick (.tmp 16) (.tmp 22) (.const (.bool false))⟩])
  (.kept [0, 1, 7, 8, 23] (.cond (.tmp 23) (.seq (.ops [⟨(some 4), none, .mv (.const (.bool false))⟩])
  (.ret)) (.skip))))))
  (.kept [0, 1, 7, 8] (.ops [⟨(some 24), none, .bin .add (.tmp 8) (.const (.int .i64 1))⟩,
    ⟨(some 8), none, .mv (.tmp 24)⟩]))))
def c_impl_hasBytes : AS :=
  .seq (.ops [⟨(some 4), none, .mv (.const (.bool false))⟩])
  (.seq (.seq (.ops [⟨(some 6), none, .mv (.tmp 0)⟩,
    ⟨(some 7), none, .lent (.tmp 6)⟩,
    ⟨(some 8), none, .mv (.const (.int .i64 0))⟩])
  (.block 0 (.loop 2 [(0, 0), (1, 0), (7, 0), (8, 0)] c_impl_hasBytes_l1)))
  (.kept [] (.seq (.ops [⟨(some 4), none, .mv (.const (.bool true))⟩])
  (.ret))))
theorem h_impl_hasBytes : (Try.prog.funcs[n_impl_hasBytes]?).bind (fun fn => fn.body.bind (comp Try.prog fn.ntmps)) = some (AS.strip c_impl_hasBytes) := by kernel_rfl
theorem r_impl_hasBytes : (Try.prog.funcs[n_impl_hasBytes]?).map (fun fn => (fn.results.toList, fn.ntmps)) = some ([.tmp 4], 25) := by kernel_rfl
-- 131 slices.IndexFunc[[]loop.example/g00850/impl.Write,loop.example/g00850/impl.Write]
abbrev n_slices_IndexFunc___impl_Write_impl_Write_ : Nat := 131
def c_slices_IndexFunc___impl_Write_impl_Write__l1 : AS :=
  .seq (.ops [⟨(some 9), none, .bin .lss (.tmp 8) (.tmp 7)⟩])
  (.seq (.cond (.tmp 9) (.skip) (.exit 0))
  (.seq (.block 1 (.seq (.ops [⟨(some 10), none, .mv (.tmp 8)⟩,
    ⟨(some 5), none, .mv (.tmp 10)⟩])
  (.seq (.ops [⟨(some 11), none, .mv (.tmp 1)⟩,
    ⟨(some 12), none, .mv (.tmp 0)⟩,
    ⟨(some 13), none, .mv (.tmp 5)⟩,
    ⟨(some 14), none, .ia 3 (.tmp 12) (.tmp 13)⟩,
    ⟨(some 15), none, .load (some 3) (.tmp 14)⟩,
    ⟨(some 16), none, .callv (.tmp 11) [(.tmp 15)]⟩])
  (.cond (.tmp 16) (.seq (.ops [⟨(some 17), none, .mv (.tmp 5)⟩,
    ⟨(some 4), none, .mv (.tmp 17)⟩])
  (.ret)) (.skip)))))
  (.kept [0, 1, 7, 8] (.ops [⟨(some 18), none, .bin .add (.tmp 8) (.const (.int .i64 1))⟩,
    ⟨(some 8), none, .mv (.tmp 18)⟩]))))
def c_slices_IndexFunc___impl_Write_impl_Write_ : AS :=
  .seq (.ops [⟨(some 4), none, .mv (.const (.int .i64 0))⟩])
  (.seq (.seq (.ops [⟨(some 6), none, .mv (.tmp 0)⟩,
    ⟨(some 7), none, .lens (.tmp 6)⟩,
    ⟨(some 8), none, .mv (.const (.int .i64 0))⟩])
  (.block 0 (.loop 2 [(0, 0), (1, 0), (7, 0), (8, 0)] c_slices_IndexFunc___impl_Write_impl_Write__l1)))
  (.kept [] (.seq (.ops [⟨(some 4), none, .mv (.const (.int .i64 (-1)))⟩])
  (.ret))))
theorem h_slices_IndexFunc___impl_Write_impl_Write_ : (Try.prog.funcs[n_slices_IndexFunc___impl_Write_impl_Write_]?).bind (fun fn => fn.body.bind (comp Try.prog fn.ntmps)) = some (AS.strip c_slices_IndexFunc___impl_Write_impl_Write_) := by kernel_rfl
theorem r_slices_IndexFunc___impl_Write_impl_Write_ : (Try.prog.funcs[n_slices_IndexFunc___impl_Write_impl_Write_]?).map (fun fn => (fn.results.toList, fn.ntmps)) = some ([.tmp 4], 19) := by kernel_rfl
-- 132 loop.example/g00850/impl.GoodVal
abbrev n_impl_GoodVal : Nat := 132
def c_impl_GoodVal : AS :=
  .seq (.ops [⟨(some 2), none, .mv (.const (.bool false))⟩])
  (.seq (.ops [⟨(some 3), none, .mv (.tmp 0)⟩,
    ⟨(some 4), none, .lent (.tmp 3)⟩,
    ⟨(some 5), none, .bin .leq (.tmp 4) (.const (.int .i64 24))⟩,
    ⟨(some 6), none, .mv (.tmp 5)⟩,
    ⟨(some 7), some (6, true), .mv (.tmp 0)⟩,
    ⟨(some 8), some (6, true), .call 130 [(.tmp 7), (.const (.string ⟨⟨[46, 45, 44, 95]⟩⟩))]⟩,
    ⟨(some 9), none, .pick (.tmp 6) (.tmp 8) (.const (.bool false))⟩,
    ⟨(some 2), none, .mv (.tmp 9)⟩])
  (.ret))
theorem h_impl_GoodVal : (Try.prog.funcs[n_impl_GoodVal]?).bind (fun fn => fn.body.bind (comp Try.prog fn.ntmps)) = some (AS.strip c_impl_GoodVal) := by kernel_rfl
theorem r_impl_GoodVal : (Try.prog.funcs[n_impl_GoodVal]?).map (fun fn => (fn.results.toList, fn.ntmps)) = some ([.tmp 2], 10) := by kernel_rfl
-- 133 loop.example/g00850/laws.eqStringS
abbrev n_laws_eqStringS : Nat := 133
def c_laws_eqStringS_l1 : AS :=
  .seq (.seq (.ops [⟨(some 11), none, .mv (.tmp 5)⟩,
    ⟨(some 12), none, .mv (.tmp 0)⟩,
    ⟨(some 13), none, .lens (.tmp 12)⟩,
    ⟨(some 14), none, .bin .lss (.tmp 11) (.tmp 13)⟩])
  (.cond (.tmp 14) (.skip) (.exit 0)))
  (.seq (.block 1 (.seq (.dops [⟨(some 17), none, .mv (.tmp 0)⟩,
    ⟨(some 18), none, .mv (.tmp 5)⟩,
    ⟨(some 19), none, .ia 1 (.tmp 17) (.tmp 18)⟩,
    ⟨(some 20), none, .load none (.tmp 19)⟩,
    ⟨(some 21), none, .mv (.tmp 1)⟩,
    ⟨(some 22), none, .mv (.tmp 5)⟩,
    ⟨(some 23), none, .ia 1 (.tmp 21) (.tmp 22)⟩,
    ⟨(some 24), none, .load none (.tmp 23)⟩,
    ⟨(some 25), none, .bin .neq (.tmp 20) (.tmp 24)⟩])
  (.kept [0, 1, 5, 25] (.cond (.tmp 25) (.seq (.ops [⟨(some 4), none, .mv (.const (.bool false))⟩])
  (.ret)) (.skip)))))
  (.kept [0, 1, 5] (.ops [⟨(some 15), none, .mv (.tmp 5)⟩,
    ⟨(some 16), none, .bin .add (.tmp 15) (.const (.int .i64 1))⟩,
    ⟨(some 5), none, .mv (.tmp 16)⟩])))
def c_laws_eqStringS : AS :=
  .seq (.ops [⟨(some 4), none, .mv (.const (.bool false))⟩])
  (.seq (.seq (.ops [⟨(some 6), none, .mv (.tmp 0)⟩,
    ⟨(some 7), none, .lens (.tmp 6)⟩,
    ⟨(some 8), none, .mv (.tmp 1)⟩,
    ⟨(some 9), none, .lens (.tmp 8)⟩,
    ⟨(some 10), none, .bin .neq (.tmp 7) (.tmp 9)⟩])
  (.cond (.tmp 10) (.seq (.ops [⟨(some 4), none, .mv (.const (.bool false))⟩])
  (.ret)) (.skip)))
  (.kept [0, 1] (.seq (.seq (.ops [⟨(some 5), none, .mv (.const (.int .i64 0))⟩])
  (.block 0 (.loop 2 [(0, 0), (1, 0), (5, 0)] c_laws_eqStringS_l1)))
  (.kept [] (.seq (.ops [⟨(some 4), none, .mv (.const (.bool true))⟩])
  (.ret))))))
theorem h_laws_eqStringS : (Try.prog.funcs[n_laws_eqStringS]?).bind (fun fn => fn.body.bind (comp Try.prog fn.ntmps)) = some (AS.strip c_laws_eqStringS) := by kernel_rfl
theorem r_laws_eqStringS : (Try.prog.funcs[n_laws_eqStringS]?).map (fun fn => (fn.results.toList, fn.ntmps)) = some ([.tmp 4], 26) := by kernel_rfl
-- 134 loop.example/g00850/laws.eqWriteS
abbrev n_laws_eqWriteS : Nat := 134
def c_laws_eqWriteS_l1 : AS :=
  .seq (.seq (.ops [⟨(some 11), none, .mv (.tmp 5)⟩,
    ⟨(some 12), none, .mv (.tmp 0)⟩,
    ⟨(some 13), none, .lens (.tmp 12)⟩,
    ⟨(some 14), none, .bin .lss (.tmp 11) (.tmp 13)⟩])
  (.cond (.tmp 14) (.skip) (.exit 0)))
  (.seq (.block 1 (.seq (.rops [(none, ⟨(some 17), none, .mv (.tmp 0)⟩),
    (none, ⟨(some 18), none, .mv (.tmp 5)⟩),
    (none, ⟨(some 19), none, .ia 3 (.tmp 17) (.tmp 18)⟩),
    (none, ⟨(some 20), none, .load (some 3) (.tmp 19)⟩),
    (none, ⟨(some 21), none, .mv (.tmp 1)⟩),
    (none, ⟨(some 22), none, .mv (.tmp 5)⟩),
    (none, ⟨(some 23), none, .ia 3 (.tmp 21) (.tmp 22)⟩),
    (none, ⟨(some 24), none, .load (some 3) (.tmp 23)⟩),
    (some [], ⟨(some 25), none, .call 141 [(.tmp 20), (.tmp 24)]⟩),
    (none, ⟨(some 26), none, .not (.tmp 25)⟩)])
  (.kept [0, 1, 5, 26] (.cond (.tmp 26) (.seq (.ops [⟨(some 4), none, .mv (.const (.bool false))⟩])
  (.ret)) (.skip)))))
  (.kept [0, 1, 5] (.ops [⟨(some 15), none, .mv (.tmp 5)⟩,
    ⟨(some 16), none, .bin .add (.tmp 15) (.const (.int .i64 1))⟩,
    ⟨(some 5), none, .mv (.tmp 16)⟩])))
def c_laws_eqWriteS : AS :=
  .seq (.ops [⟨(some 4), none, .mv (.const (.bool false))⟩])
  (.seq (.seq (.ops [⟨(some 6), none, .mv (.tmp 0)⟩,
    ⟨(some 7), none, .lens (.tmp 6)⟩,
    ⟨(some 8), none, .mv (.tmp 1)⟩,
    ⟨(some 9), none, .lens (.tmp 8)⟩,
    ⟨(some 10), none, .bin .neq (.tmp 7) (.tmp 9)⟩])
  (.cond (.tmp 10) (.seq (.ops [⟨(some 4), none, .mv (.const (.bool false))⟩])
  (.ret)) (.skip)))
  (.kept [0, 1] (.seq (.seq (.ops [⟨(some 5), none, .mv (.const (.int .i64 0))⟩])
  (.block 0 (.loop 2 [(0, 0), (1, 0), (5, 0)] c_laws_eqWriteS_l1)))
  (.kept [] (.seq (.ops [⟨(some 4), none, .mv (.const (.bool true))⟩])
  (.ret))))))
theorem h_laws_eqWriteS : (Try.prog.funcs[n_laws_eqWriteS]?).bind (fun fn => fn.body.bind (comp Try.prog fn.ntmps)) = some (AS.strip c_laws_eqWriteS) := by kernel_rfl
theorem r_laws_eqWriteS : (Try.prog.funcs[n_laws_eqWriteS]?).map (fun fn => (fn.results.toList, fn.ntmps)) = some ([.tmp 4], 27) := by kernel_rfl
-- 135 loop.example/g00850/laws.szWrite
abbrev n_laws_szWrite : Nat := 135
def c_laws_szWrite : AS :=
  .seq (.ops [⟨(some 2), none, .box (.tmp 0)⟩,
    ⟨(some 4), none, .mv (.const (.int .i64 0))⟩])
  (.seq (.ops [⟨(some 5), none, .mv (.tmp 1)⟩,
    ⟨(some 6), none, .fa 0 (.tmp 2)⟩,
    ⟨(some 7), none, .load none (.tmp 6)⟩,
    ⟨(some 8), none, .lent (.tmp 7)⟩,
    ⟨(some 9), none, .bin .sub (.tmp 5) (.tmp 8)⟩,
    ⟨(some 1), none, .mv (.tmp 9)⟩])
  (.seq (.seq (.ops [⟨(some 10), none, .mv (.tmp 1)⟩,
    ⟨(some 11), none, .bin .lss (.tmp 10) (.const (.int .i64 0))⟩])
  (.cond (.tmp 11) (.seq (.ops [⟨(some 4), none, .mv (.const (.int .i64 (-1)))⟩])
  (.ret)) (.skip)))
  (.seq (.ops [⟨(some 12), none, .mv (.tmp 1)⟩,
    ⟨(some 13), none, .fa 1 (.tmp 2)⟩,
    ⟨(some 14), none, .load none (.tmp 13)⟩,
    ⟨(some 15), none, .lent (.tmp 14)⟩,
    ⟨(some 16), none, .bin .sub (.tmp 12) (.tmp 15)⟩,
    ⟨(some 1), none, .mv (.tmp 16)⟩])
  (.seq (.seq (.ops [⟨(some 17), none, .mv (.tmp 1)⟩,
    ⟨(some 18), none, .bin .lss (.tmp 17) (.const (.int .i64 0))⟩])
  (.cond (.tmp 18) (.seq (.ops [⟨(some 4), none, .mv (.const (.int .i64 (-1)))⟩])
  (.ret)) (.skip)))
  (.seq (.ops [⟨(some 19), none, .mv (.tmp 1)⟩,
    ⟨(some 4), none, .mv (.tmp 19)⟩])
  (.ret))))))
theorem h_laws_szWrite : (Try.prog.funcs[n_laws_szWrite]?).bind (fun fn => fn.body.bind (comp Try.prog fn.ntmps)) = some (AS.strip c_laws_szWrite) := by kernel_rfl
theorem r_laws_szWrite : (Try.prog.funcs[n_laws_szWrite]?).map (fun fn => (fn.results.toList, fn.ntmps)) = some ([.tmp 4], 20) := by kernel_rfl
-- 136 loop.example/g00850/spec.l3Bytes
abbrev n_spec_l3Bytes : Nat := 136
def c_spec_l3Bytes_l1 : AS :=
  .seq (.seq (.ops [⟨(some 36), none, .mv (.tmp 7)⟩,
    ⟨(some 37), none, .mv (.tmp 1)⟩,
    ⟨(some 38), none, .lent (.tmp 37)⟩,
    ⟨(some 39), none, .bin .lss (.tmp 36) (.tmp 38)⟩])
  (.cond (.tmp 39) (.skip) (.exit 2)))
  (.seq (.block 3 (.dops [⟨(some 42), none, .mv (.tmp 6)⟩,
    ⟨(some 43), none, .mv (.tmp 42)⟩,
    ⟨(some 44), some (43, false), .mv (.tmp 0)⟩,
    ⟨(some 45), some (43, false), .mv (.tmp 5)⟩,
    ⟨(some 46), some (43, false), .ix (.tmp 44) (.tmp 45)⟩,
    ⟨(some 47), some (43, false), .mv (.tmp 1)⟩,
    ⟨(some 48), some (43, false), .mv (.tmp 7)⟩,
    ⟨(some 49), some (43, false), .ix (.tmp 47) (.tmp 48)⟩,
    ⟨(some 50), some (43, false), .bin .eql (.tmp 46) (.tmp 49)⟩,
    ⟨(some 51), none, .pick (.tmp 43) (.const (.bool true)) (.tmp 50)⟩,
    ⟨(some 6), none, .mv (.tmp 51)⟩]))
  (.kept [0, 1, 5, 6, 7] (.ops [⟨(some 40), none, .mv (.tmp 7)⟩,
    ⟨(some 41), none, .bin .add (.tmp 40) (.const (.int .i64 1))⟩,
    ⟨(some 7), none, .mv (.tmp 41)⟩])))
def c_spec_l3Bytes_l2 : AS :=
  .seq (.seq (.ops [⟨(some 8), none, .mv (.tmp 5)⟩,
    ⟨(some 9), none, .mv (.tmp 0)⟩,
    ⟨(some 10), none, .lent (.tmp 9)⟩,
    ⟨(some 11), none, .bin .lss (.tmp 8) (.tmp 10)⟩])
  (.cond (.tmp 11) (.skip) (.exit 0)))
  (.seq (.block 1 (.seq (.ops [⟨(some 14), none, .mv (.tmp 0)⟩,
    ⟨(some 15), none, .mv (.tmp 5)⟩,
    ⟨(some 16), none, .ix (.tmp 14) (.tmp 15)⟩,
    ⟨(some 17), none, .bin .geq (.tmp 16) (.const (.int .u8 97))⟩,
    ⟨(some 18), none, .mv (.tmp 17)⟩,
    ⟨(some 19), some (18, true), .mv (.tmp 0)⟩,
    ⟨(some 20), some (18, true), .mv (.tmp 5)⟩,
    ⟨(some 21), some (18, true), .ix (.tmp 19) (.tmp 20)⟩,
    ⟨(some 22), some (18, true), .bin .leq (.tmp 21) (.const (.int .u8 122))⟩,
    ⟨(some 23), none, .pick (.tmp 18) (.tmp 22) (.const (.bool false))⟩,
    ⟨(some 24), none, .mv (.tmp 23)⟩,
    ⟨(some 25), some (24, false), .mv (.tmp 0)⟩,
    ⟨(some 26), some (24, false), .mv (.tmp 5)⟩,
    ⟨(some 27), some (24, false), .ix (.tmp 25) (.tmp 26)⟩,
    ⟨(some 28), some (24, false), .bin .geq (.tmp 27) (.const (.int .u8 48))⟩,
    ⟨(some 29), some (24, false), .mv (.tmp 28)⟩,
    ⟨(some 30), some (29, true), .mv (.tmp 0)⟩,
    ⟨(some 31), some (29, true), .mv (.tmp 5)⟩,
    ⟨(some 32), some (29, true), .ix (.tmp 30) (.tmp 31)⟩,
    ⟨(some 33), some (29, true), .bin .leq (.tmp 32) (.const (.int .u8 57))⟩,
    ⟨(some 34), some (24, false), .pick (.tmp 29) (.tmp 33) (.const (.bool false))⟩,
    ⟨(some 35), none, .pick (.tmp 24) (.const (.bool true)) (.tmp 34)⟩,
    ⟨(some 6), none, .mv (.tmp 35)⟩])
  (.kept [0, 1, 5, 6] (.seq (.seq (.ops [⟨(some 7), none, .mv (.const (.int .i64 0))⟩])
  (.block 2 (.loop 2 [(0, 0), (1, 0), (5, 0), (6, 0), (7, 0)] c_spec_l3Bytes_l1)))
  (.kept [0, 1, 5, 6] (.seq (.ops [⟨(some 52), none, .mv (.tmp 6)⟩,
    ⟨(some 53), none, .not (.tmp 52)⟩])
  (.cond (.tmp 53) (.seq (.ops [⟨(some 4), none, .mv (.const (.bool false))⟩])
  (.ret)) (.skip))))))))
  (.kept [0, 1, 5] (.ops [⟨(some 12), none, .mv (.tmp 5)⟩,
    ⟨(some 13), none, .bin .add (.tmp 12) (.const (.int .i64 1))⟩,
    ⟨(some 5), none, .mv (.tmp 13)⟩])))
def c_spec_l3Bytes : AS :=
  .seq (.ops [⟨(some 4), none, .mv (.const (.bool false))⟩])
  (.seq (.seq (.ops [⟨(some 5), none, .mv (.const (.int .i64 0))⟩])
  (.block 0 (.loop 2 [(0, 0), (1, 0), (5, 0)] c_spec_l3Bytes_l2)))
  (.kept [] (.seq (.ops [⟨(some 4), none, .mv (.const (.bool true))⟩])
  (.ret))))
theorem h_spec_l3Bytes : (Try.prog.funcs[n_spec_l3Bytes]?).bind (fun fn => fn.body.bind (comp Try.prog fn.ntmps)) = some (AS.strip c_spec_l3Bytes) := by kernel_rfl
theorem r_spec_l3Bytes : (Try.prog.funcs[n_spec_l3Bytes]?).map (fun fn => (fn.results.toList, fn.ntmps)) = some ([.tmp 4], 54) := by kernel_rfl
-- 137 loop.example/g00850/spec.l3Val
abbrev n_spec_l3Val : Nat := 137
def c_spec_l3Val : AS :=
  .seq (.ops [⟨(some 2), none, .mv (.const (.bool false))⟩])
  (.seq (.ops [⟨(some 3), none, .mv (.tmp 0)⟩,
    ⟨(some 4), none, .lent (.tmp 3)⟩,
    ⟨(some 5), none, .bin .leq (.tmp 4) (.const (.int .i64 24))⟩,
    ⟨(some 6), none, .mv (.tmp 5)⟩,
    ⟨(some 7), some (6, true), .mv (.tmp 0)⟩,
    ⟨(some 8), some (6, true), .call 136 [(.tmp 7), (.const (.string ⟨⟨[46, 45, 44, 95]⟩⟩))]⟩,
    ⟨(some 9), none, .pick (.tmp 6) (.tmp 8) (.const (.bool false))⟩,
    ⟨(some 2), none, .mv (.tmp 9)⟩])
  (.ret))
theorem h_spec_l3Val : (Try.prog.funcs[n_spec_l3Val]?).bind (fun fn => fn.body.bind (comp Try.prog fn.ntmps)) = some (AS.strip c_spec_l3Val) := by kernel_rfl
theorem r_spec_l3Val : (Try.prog.funcs[n_spec_l3Val]?).map (fun fn => (fn.results.toList, fn.ntmps)) = some ([.tmp 2], 10) := by kernel_rfl
-- 138 loop.example/g00850/laws.toWrite
abbrev n_laws_toWrite : Nat := 138
def c_laws_toWrite : AS :=
  .seq (.ops [⟨(some 1), none, .box (.tmp 0)⟩,
    ⟨(some 2), none, .alloc (.agg #[.string ⟨⟨[]⟩⟩, .string ⟨⟨[]⟩⟩, .bool false])⟩])
  (.seq (.ops [⟨(some 3), none, .alloc (.agg #[.string ⟨⟨[]⟩⟩, .string ⟨⟨[]⟩⟩, .bool false])⟩])
  (.seq (.ops [⟨(some 4), none, .fa 0 (.tmp 1)⟩,
    ⟨(some 5), none, .load none (.tmp 4)⟩,
    ⟨(some 6), none, .fa 0 (.tmp 3)⟩,
    ⟨none, none, .store 1 (.tmp 6) (.tmp 5)⟩])
  (.seq (.ops [⟨(some 7), none, .fa 1 (.tmp 1)⟩,
    ⟨(some 8), none, .load none (.tmp 7)⟩,
    ⟨(some 9), none, .fa 1 (.tmp 3)⟩,
    ⟨none, none, .store 1 (.tmp 9) (.tmp 8)⟩])
  (.seq (.ops [⟨(some 10), none, .fa 2 (.tmp 1)⟩,
    ⟨(some 11), none, .load none (.tmp 10)⟩,
    ⟨(some 12), none, .fa 2 (.tmp 3)⟩,
    ⟨none, none, .store 1 (.tmp 12) (.tmp 11)⟩])
  (.seq (.ops [⟨(some 13), none, .load (some 3) (.tmp 3)⟩,
    ⟨none, none, .store 3 (.tmp 2) (.tmp 13)⟩])
  (.ret))))))
theorem h_laws_toWrite : (Try.prog.funcs[n_laws_toWrite]?).bind (fun fn => fn.body.bind (comp Try.prog fn.ntmps)) = some (AS.strip c_laws_toWrite) := by kernel_rfl
theorem r_laws_toWrite : (Try.prog.funcs[n_laws_toWrite]?).map (fun fn => (fn.results.toList, fn.ntmps)) = some ([.cell 2 153], 14) := by kernel_rfl
-- 139 loop.example/g00850/impl.isLowerOrDigit
abbrev n_impl_isLowerOrDigit : Nat := 139
def c_impl_isLowerOrDigit : AS :=
  .seq (.ops [⟨(some 2), none, .mv (.const (.bool false))⟩])
  (.seq (.ops [⟨(some 3), none, .mv (.tmp 0)⟩,
    ⟨(some 4), none, .bin .geq (.tmp 3) (.const (.int .u8 97))⟩,
    ⟨(some 5), none, .mv (.tmp 4)⟩,
    ⟨(some 6), some (5, true), .mv (.tmp 0)⟩,
    ⟨(some 7), some (5, true), .bin .leq (.tmp 6) (.const (.int .u8 122))⟩,
    ⟨(some 8), none, .pick (.tmp 5) (.tmp 7) (.const (.bool false))⟩,
    ⟨(some 9), none, .mv (.tmp 8)⟩,
    ⟨(some 10), some (9, false), .mv (.tmp 0)⟩,
    ⟨(some 11), some (9, false), .bin .geq (.tmp 10) (.const (.int .u8 48))⟩,
    ⟨(some 12), some (9, false), .mv (.tmp 11)⟩,
    ⟨(some 13), some (12, true), .mv (.tmp 0)⟩,
    ⟨(some 14), some (12, true), .bin .leq (.tmp 13) (.const (.int .u8 57))⟩,
    ⟨(some 15), some (9, false), .pick (.tmp 12) (.tmp 14) (.const (.bool false))⟩,
    ⟨(some 16), none, .pick (.tmp 9) (.const (.bool true)) (.tmp 15)⟩,
    ⟨(some 2), none, .mv (.tmp 16)⟩])
  (.ret))
theorem h_impl_isLowerOrDigit : (Try.prog.funcs[n_impl_isLowerOrDigit]?).bind (fun fn => fn.body.bind (comp Try.prog fn.ntmps)) = some (AS.strip c_impl_isLowerOrDigit) := by kernel_rfl
theorem r_impl_isLowerOrDigit : (Try.prog.funcs[n_impl_isLowerOrDigit]?).map (fun fn => (fn.results.toList, fn.ntmps)) = some ([.tmp 2], 17) := by kernel_rfl
-- 140 strings.IndexByte
abbrev n_strings_IndexByte : Nat := 140
def c_strings_IndexByte : AS :=
  .seq (.ops [⟨(some 4), none, .mv (.const (.int .i64 0))⟩])
  (.seq (.ops [⟨(some 5), none, .mv (.tmp 0)⟩,
    ⟨(some 6), none, .mv (.tmp 1)⟩,
    ⟨(some 7), none, .call 142 [(.tmp 5), (.tmp 6)]⟩,
    ⟨(some 4), none, .mv (.tmp 7)⟩])
  (.ret))
theorem h_strings_IndexByte : (Try.prog.funcs[n_strings_IndexByte]?).bind (fun fn => fn.body.bind (comp Try.prog fn.ntmps)) = some (AS.strip c_strings_IndexByte) := by kernel_rfl
theorem r_strings_IndexByte : (Try.prog.funcs[n_strings_IndexByte]?).map (fun fn => (fn.results.toList, fn.ntmps)) = some ([.tmp 4], 8) := by kernel_rfl
-- 141 loop.example/g00850/laws.eqWrite
abbrev n_laws_eqWrite : Nat := 141
def c_laws_eqWrite : AS :=
  .seq (.ops [⟨(some 2), none, .box (.tmp 0)⟩,
    ⟨(some 3), none, .box (.tmp 1)⟩,
    ⟨(some 4), none, .mv (.const (.bool false))⟩])
  (.seq (.seq (.ops [⟨(some 5), none, .fa 0 (.tmp 2)⟩,
    ⟨(some 6), none, .load none (.tmp 5)⟩,
    ⟨(some 7), none, .fa 0 (.tmp 3)⟩,
    ⟨(some 8), none, .load none (.tmp 7)⟩,
    ⟨(some 9), none, .bin .neq (.tmp 6) (.tmp 8)⟩])
  (.cond (.tmp 9) (.seq (.ops [⟨(some 4), none, .mv (.const (.bool false))⟩])
  (.ret)) (.skip)))
  (.kept [2, 3] (.seq (.seq (.ops [⟨(some 10), none, .fa 1 (.tmp 2)⟩,
    ⟨(some 11), none, .load none (.tmp 10)⟩,
    ⟨(some 12), none, .fa 1 (.tmp 3)⟩,
    ⟨(some 13), none, .load none (.tmp 12)⟩,
    ⟨(some 14), none, .bin .neq (.tmp 11) (.tmp 13)⟩])
  (.cond (.tmp 14) (.seq (.ops [⟨(some 4), none, .mv (.const (.bool false))⟩])
  (.ret)) (.skip)))
  (.kept [2, 3] (.seq (.seq (.ops [⟨(some 15), none, .fa 2 (.tmp 2)⟩,
    ⟨(some 16), none, .load none (.tmp 15)⟩,
    ⟨(some 17), none, .fa 2 (.tmp 3)⟩,
    ⟨(some 18), none, .load none (.tmp 17)⟩,
    ⟨(some 19), none, .eqb true (.tmp 16) (.tmp 18)⟩])
  (.cond (.tmp 19) (.seq (.ops [⟨(some 4), none, .mv (.const (.bool false))⟩])
  (.ret)) (.skip)))
  (.kept [] (.seq (.ops [⟨(some 4), none, .mv (.const (.bool true))⟩])
  (.ret))))))))
theorem h_laws_eqWrite : (Try.prog.funcs[n_laws_eqWrite]?).bind (fun fn => fn.body.bind (comp Try.prog fn.ntmps)) = some (AS.strip c_laws_eqWrite) := by kernel_rfl
theorem r_laws_eqWrite : (Try.prog.funcs[n_laws_eqWrite]?).map (fun fn => (fn.results.toList, fn.ntmps)) = some ([.tmp 4], 20) := by kernel_rfl
-- 142 internal/stringslite.IndexByte
abbrev n_internal_stringslite_IndexByte : Nat := 142
def c_internal_stringslite_IndexByte : AS :=
  .seq (.ops [⟨(some 4), none, .mv (.const (.int .i64 0))⟩])
  (.seq (.ops [⟨(some 5), none, .mv (.tmp 0)⟩,
    ⟨(some 6), none, .mv (.tmp 1)⟩,
    ⟨(some 7), none, .xcall 143 [(.tmp 5), (.tmp 6)]⟩,
    ⟨(some 4), none, .mv (.tmp 7)⟩])
  (.ret))
theorem h_internal_stringslite_IndexByte : (Try.prog.funcs[n_internal_stringslite_IndexByte]?).bind (fun fn => fn.body.bind (comp Try.prog fn.ntmps)) = some (AS.strip c_internal_stringslite_IndexByte) := by kernel_rfl
theorem r_internal_stringslite_IndexByte : (Try.prog.funcs[n_internal_stringslite_IndexByte]?).map (fun fn => (fn.results.toList, fn.ntmps)) = some ([.tmp 4], 8) := by kernel_rfl
-- 143 internal/bytealg.IndexByteString
abbrev n_internal_bytealg_IndexByteString : Nat := 143
-- NOT COMPILED
theorem d_internal_bytealg_IndexByteString : Try.prog.funcs[n_internal_bytealg_IndexByteString]? = some Try.f143 := by kernel_rfl

end Go.Proofs.Wb

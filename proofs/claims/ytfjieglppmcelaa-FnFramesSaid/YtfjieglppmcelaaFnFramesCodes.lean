/- The compiled statements of the functions that the law reaches. -/
import Derived.Test.YtfjieglppmcelaaProg
import Derived.Test.YtfjieglppmcelaaAmAuto
import Derived.Test.YtfjieglppmcelaaAmSet
namespace Go.Proofs.Wb
open Go Go.Am
@[go_sem] theorem w_7 : wide Try.prog 7 = some (some 4) := by kernel_rfl
@[go_sem] theorem w_8 : wide Try.prog 8 = some (some 4) := by kernel_rfl
@[go_sem] theorem w_13 : wide Try.prog 13 = some (some 2) := by kernel_rfl
@[go_sem] theorem w_14 : wide Try.prog 14 = some (some 2) := by kernel_rfl
@[go_sem] theorem w_18 : wide Try.prog 18 = some (some 1) := by kernel_rfl
@[go_sem] theorem w_19 : wide Try.prog 19 = some (some 1) := by kernel_rfl
@[go_sem] theorem w_37 : wide Try.prog 37 = some (some 3) := by kernel_rfl
@[go_sem] theorem w_38 : wide Try.prog 38 = some (some 3) := by kernel_rfl
@[go_sem] theorem w_53 : wide Try.prog 53 = some (some 3) := by kernel_rfl
@[go_sem] theorem w_54 : wide Try.prog 54 = some (some 3) := by kernel_rfl
@[go_sem] theorem w_55 : wide Try.prog 55 = some (some 4) := by kernel_rfl
@[go_sem] theorem w_56 : wide Try.prog 56 = some (some 4) := by kernel_rfl
@[go_sem] theorem w_67 : wide Try.prog 67 = some (some 11) := by kernel_rfl
@[go_sem] theorem w_68 : wide Try.prog 68 = some (some 11) := by kernel_rfl
-- 4 loop.example/g00850/laws.FnFrames
abbrev n_laws_FnFrames : Nat := 4
def c_laws_FnFrames : AS :=
  .seq (.ops [⟨(some 2), none, .mv (.const (.bool false))⟩])
  (.seq (.seq (.ops [⟨(some 17), none, .mv (.tmp 0)⟩,
    ⟨(some 18), none, .call 16 [(.tmp 17)]⟩])
  (.cond (.tmp 18) (.seq (.ops [⟨(some 2), none, .mv (.const (.bool true))⟩])
  (.ret)) (.skip)))
  (.seq (.ops [⟨(some 19), none, .mv (.tmp 0)⟩,
    ⟨(some 20), none, .call 17 [(.tmp 19)]⟩,
    ⟨(some 3), none, .mv (.tmp 20)⟩])
  (.seq (.ops [⟨(some 22), none, .mv (.tmp 3)⟩,
    ⟨(some 23), none, .call 18 [(.tmp 22)]⟩,
    ⟨(some 21), none, .mv (.tmp 23)⟩,
    ⟨(some 24), none, .ext 0 (.tmp 21)⟩,
    ⟨(some 25), none, .ext 1 (.tmp 21)⟩,
    ⟨(some 4), none, .mv (.tmp 24)⟩,
    ⟨(some 5), none, .mv (.tmp 25)⟩])
  (.seq (.ops [⟨(some 27), none, .mv (.tmp 3)⟩,
    ⟨(some 28), none, .call 19 [(.tmp 27)]⟩,
    ⟨(some 26), none, .mv (.tmp 28)⟩,
    ⟨(some 29), none, .ext 0 (.tmp 26)⟩,
    ⟨(some 30), none, .ext 1 (.tmp 26)⟩,
    ⟨(some 6), none, .mv (.tmp 29)⟩,
    ⟨(some 7), none, .mv (.tmp 30)⟩])
  (.seq (.seq (.ops [⟨(some 31), none, .mv (.tmp 4)⟩,
    ⟨(some 32), none, .mv (.tmp 6)⟩,
    ⟨(some 33), none, .bin .neq (.tmp 31) (.tmp 32)⟩,
    ⟨(some 34), none, .mv (.tmp 33)⟩,
    ⟨(some 35), some (34, false), .mv (.tmp 5)⟩,
    ⟨(some 36), some (34, false), .mv (.tmp 7)⟩,
    ⟨(some 37), some (34, false), .eqb true (.tmp 35) (.tmp 36)⟩,
    ⟨(some 38), none, .pick (.tmp 34) (.const (.bool true)) (.tmp 37)⟩])
  (.kept [3, 4, 5, 38] (.cond (.tmp 38) (.seq (.ops [⟨(some 2), none, .mv (.const (.bool false))⟩])
  (.ret)) (.skip))))
  (.kept [3, 4, 5] (.seq (.seq (.ops [⟨(some 39), none, .mv (.tmp 5)⟩,
    ⟨(some 40), none, .not (.tmp 39)⟩])
  (.cond (.tmp 40) (.seq (.ops [⟨(some 41), none, .mv (.tmp 4)⟩,
    ⟨(some 42), none, .bin .eql (.tmp 41) (.const (.string ⟨⟨[]⟩⟩))⟩,
    ⟨(some 2), none, .mv (.tmp 42)⟩])
  (.ret)) (.skip)))
  (.seq (.ops [⟨(some 44), none, .mv (.tmp 4)⟩,
    ⟨(some 45), none, .mv (.tmp 4)⟩,
    ⟨(some 46), none, .bin .add (.tmp 44) (.tmp 45)⟩,
    ⟨(some 47), none, .call 20 [(.tmp 46), (.const (.int .i64 0))]⟩,
    ⟨(some 43), none, .mv (.tmp 47)⟩,
    ⟨(some 48), none, .ext 0 (.tmp 43)⟩,
    ⟨(some 49), none, .ext 1 (.tmp 43)⟩,
    ⟨(some 50), none, .ext 2 (.tmp 43)⟩,
    ⟨(some 8), none, .mv (.tmp 48)⟩,
    ⟨(some 9), none, .mv (.tmp 49)⟩,
    ⟨(some 10), none, .mv (.tmp 50)⟩])
  (.kept [3, 4, 8, 9, 10] (.seq (.ops [⟨(some 52), none, .mv (.tmp 4)⟩,
    ⟨(some 53), none, .mv (.tmp 4)⟩,
    ⟨(some 54), none, .bin .add (.tmp 52) (.tmp 53)⟩,
    ⟨(some 55), none, .mv (.tmp 4)⟩,
    ⟨(some 56), none, .lent (.tmp 55)⟩,
    ⟨(some 57), none, .call 20 [(.tmp 54), (.tmp 56)]⟩,
    ⟨(some 51), none, .mv (.tmp 57)⟩,
    ⟨(some 58), none, .ext 0 (.tmp 51)⟩,
    ⟨(some 59), none, .ext 1 (.tmp 51)⟩,
    ⟨(some 60), none, .ext 2 (.tmp 51)⟩,
    ⟨(some 11), none, .mv (.tmp 58)⟩,
    ⟨(some 12), none, .mv (.tmp 59)⟩,
    ⟨(some 13), none, .mv (.tmp 60)⟩])
  (.kept [3, 4, 8, 9, 10, 11, 12, 13] (.seq (.ops [⟨(some 62), none, .mv (.tmp 4)⟩,
    ⟨(some 63), none, .mv (.tmp 4)⟩,
    ⟨(some 64), none, .lent (.tmp 63)⟩,
    ⟨(some 65), none, .bin .sub (.tmp 64) (.const (.int .i64 1))⟩,
    ⟨(some 66), none, .slt (.tmp 62) none (some (.tmp 65))⟩,
    ⟨(some 67), none, .call 20 [(.tmp 66), (.const (.int .i64 0))]⟩,
    ⟨(some 61), none, .mv (.tmp 67)⟩,
    ⟨(some 68), none, .ext 0 (.tmp 61)⟩,
    ⟨(some 69), none, .ext 1 (.tmp 61)⟩,
    ⟨(some 70), none, .ext 2 (.tmp 61)⟩,
    ⟨(some 14), none, .mv (.tmp 68)⟩,
    ⟨(some 15), none, .mv (.tmp 69)⟩,
    ⟨(some 16), none, .mv (.tmp 70)⟩])
  (.kept [3, 4, 8, 9, 10, 11, 12, 13, 16] (.seq (.ops [⟨(some 71), none, .mv (.tmp 10)⟩,
    ⟨(some 72), none, .mv (.tmp 71)⟩,
    ⟨(some 73), some (72, true), .mv (.tmp 13)⟩,
    ⟨(some 74), none, .pick (.tmp 72) (.tmp 73) (.const (.bool false))⟩,
    ⟨(some 75), none, .mv (.tmp 74)⟩,
    ⟨(some 76), some (75, true), .mv (.tmp 16)⟩,
    ⟨(some 77), some (75, true), .not (.tmp 76)⟩,
    ⟨(some 78), none, .pick (.tmp 75) (.tmp 77) (.const (.bool false))⟩,
    ⟨(some 79), none, .mv (.tmp 78)⟩,
    ⟨(some 80), some (79, true), .mv (.tmp 8)⟩,
    ⟨(some 81), some (79, true), .mv (.tmp 3)⟩,
    ⟨(some 82), some (79, true), .bin .eql (.tmp 80) (.tmp 81)⟩,
    ⟨(some 83), none, .pick (.tmp 79) (.tmp 82) (.const (.bool false))⟩,
    ⟨(some 84), none, .mv (.tmp 83)⟩,
    ⟨(some 85), some (84, true), .mv (.tmp 11)⟩,
    ⟨(some 86), some (84, true), .mv (.tmp 3)⟩,
    ⟨(some 87), some (84, true), .bin .eql (.tmp 85) (.tmp 86)⟩,
    ⟨(some 88), none, .pick (.tmp 84) (.tmp 87) (.const (.bool false))⟩,
    ⟨(some 89), none, .mv (.tmp 88)⟩,
    ⟨(some 90), some (89, true), .mv (.tmp 9)⟩,
    ⟨(some 91), some (89, true), .mv (.tmp 4)⟩,
    ⟨(some 92), some (89, true), .lent (.tmp 91)⟩,
    ⟨(some 93), some (89, true), .bin .eql (.tmp 90) (.tmp 92)⟩,
    ⟨(some 94), none, .pick (.tmp 89) (.tmp 93) (.const (.bool false))⟩,
    ⟨(some 95), none, .mv (.tmp 94)⟩,
    ⟨(some 96), some (95, true), .mv (.tmp 12)⟩,
    ⟨(some 97), some (95, true), .mv (.tmp 4)⟩,
    ⟨(some 98), some (95, true), .lent (.tmp 97)⟩,
    ⟨(some 99), some (95, true), .bin .mul (.const (.int .i64 2)) (.tmp 98)⟩,
    ⟨(some 100), some (95, true), .bin .eql (.tmp 96) (.tmp 99)⟩,
    ⟨(some 101), none, .pick (.tmp 95) (.tmp 100) (.const (.bool false))⟩,
    ⟨(some 2), none, .mv (.tmp 101)⟩])
  (.ret)))))))))))))))
theorem h_laws_FnFrames : (Try.prog.funcs[n_laws_FnFrames]?).bind (fun fn => fn.body.bind (comp Try.prog fn.ntmps)) = some (AS.strip c_laws_FnFrames) := by kernel_rfl
theorem r_laws_FnFrames : (Try.prog.funcs[n_laws_FnFrames]?).map (fun fn => (fn.results.toList, fn.ntmps)) = some ([.tmp 2], 102) := by kernel_rfl
-- 16 loop.example/g00850/laws.vBig
abbrev n_laws_vBig : Nat := 16
def c_laws_vBig : AS :=
  .seq (.ops [⟨(some 2), none, .mv (.const (.bool false))⟩])
  (.seq (.ops [⟨(some 3), none, .mv (.tmp 0)⟩,
    ⟨(some 4), none, .lens (.tmp 3)⟩,
    ⟨(some 5), none, .bin .gtr (.tmp 4) (.const (.int .i64 65536))⟩,
    ⟨(some 2), none, .mv (.tmp 5)⟩])
  (.ret))
theorem h_laws_vBig : (Try.prog.funcs[n_laws_vBig]?).bind (fun fn => fn.body.bind (comp Try.prog fn.ntmps)) = some (AS.strip c_laws_vBig) := by kernel_rfl
theorem r_laws_vBig : (Try.prog.funcs[n_laws_vBig]?).map (fun fn => (fn.results.toList, fn.ntmps)) = some ([.tmp 2], 6) := by kernel_rfl
-- 17 loop.example/g00850/spec.DrawFrameBytes
abbrev n_spec_DrawFrameBytes : Nat := 17
def c_spec_DrawFrameBytes : AS :=
  .seq (.ops [⟨(some 2), none, .mv (.const (.string ⟨⟨[]⟩⟩))⟩])
  (.seq (.ops [⟨(some 4), none, .mv (.tmp 0)⟩,
    ⟨(some 5), none, .build (.agg #[.slice none 0 0, .int .i64 0, .int .u64 0]) [(0, 1, (.tmp 4))]⟩,
    ⟨(some 6), none, .box (.tmp 5)⟩,
    ⟨(some 3), none, .mv (.tmp 6)⟩])
  (.seq (.ops [⟨(some 7), none, .mv (.tmp 3)⟩,
    ⟨(some 8), none, .call 31 [(.tmp 7)]⟩,
    ⟨(some 2), none, .mv (.tmp 8)⟩])
  (.ret)))
theorem h_spec_DrawFrameBytes : (Try.prog.funcs[n_spec_DrawFrameBytes]?).bind (fun fn => fn.body.bind (comp Try.prog fn.ntmps)) = some (AS.strip c_spec_DrawFrameBytes) := by kernel_rfl
theorem r_spec_DrawFrameBytes : (Try.prog.funcs[n_spec_DrawFrameBytes]?).map (fun fn => (fn.results.toList, fn.ntmps)) = some ([.tmp 2], 9) := by kernel_rfl
-- 18 loop.example/g00850/impl.FrameBytes
abbrev n_impl_FrameBytes : Nat := 18
def c_impl_FrameBytes : AS :=
  .seq (.ops [⟨(some 2), none, .mv (.const (.string ⟨⟨[]⟩⟩))⟩,
    ⟨(some 3), none, .mv (.const (.bool false))⟩])
  (.seq (.seq (.ops [⟨(some 4), none, .mv (.tmp 0)⟩,
    ⟨(some 5), none, .lent (.tmp 4)⟩,
    ⟨(some 6), none, .bin .gtr (.tmp 5) (.const (.int .i64 700))⟩])
  (.cond (.tmp 6) (.seq (.ops [⟨(some 2), none, .mv (.const (.string ⟨⟨[]⟩⟩))⟩,
    ⟨(some 3), none, .mv (.const (.bool false))⟩])
  (.ret)) (.skip)))
  (.seq (.ops [⟨(some 7), none, .mv (.tmp 0)⟩,
    ⟨(some 8), none, .call 32 [(.tmp 7)]⟩,
    ⟨(some 2), none, .mv (.tmp 8)⟩,
    ⟨(some 3), none, .mv (.const (.bool true))⟩])
  (.ret)))
theorem h_impl_FrameBytes : (Try.prog.funcs[n_impl_FrameBytes]?).bind (fun fn => fn.body.bind (comp Try.prog fn.ntmps)) = some (AS.strip c_impl_FrameBytes) := by kernel_rfl
theorem r_impl_FrameBytes : (Try.prog.funcs[n_impl_FrameBytes]?).map (fun fn => (fn.results.toList, fn.ntmps)) = some ([.tmp 2, .tmp 3], 9) := by kernel_rfl
-- 19 loop.example/g00850/spec.FrameBytes
abbrev n_spec_FrameBytes : Nat := 19
def c_spec_FrameBytes : AS :=
  .seq (.ops [⟨(some 2), none, .mv (.const (.string ⟨⟨[]⟩⟩))⟩,
    ⟨(some 3), none, .mv (.const (.bool false))⟩])
  (.seq (.seq (.ops [⟨(some 4), none, .mv (.tmp 0)⟩,
    ⟨(some 5), none, .lent (.tmp 4)⟩,
    ⟨(some 6), none, .bin .gtr (.tmp 5) (.const (.int .i64 700))⟩])
  (.cond (.tmp 6) (.seq (.ops [⟨(some 2), none, .mv (.const (.string ⟨⟨[]⟩⟩))⟩,
    ⟨(some 3), none, .mv (.const (.bool false))⟩])
  (.ret)) (.skip)))
  (.seq (.ops [⟨(some 7), none, .mv (.tmp 0)⟩,
    ⟨(some 8), none, .call 33 [(.tmp 7)]⟩,
    ⟨(some 2), none, .mv (.tmp 8)⟩,
    ⟨(some 3), none, .mv (.const (.bool true))⟩])
  (.ret)))
theorem h_spec_FrameBytes : (Try.prog.funcs[n_spec_FrameBytes]?).bind (fun fn => fn.body.bind (comp Try.prog fn.ntmps)) = some (AS.strip c_spec_FrameBytes) := by kernel_rfl
theorem r_spec_FrameBytes : (Try.prog.funcs[n_spec_FrameBytes]?).map (fun fn => (fn.results.toList, fn.ntmps)) = some ([.tmp 2, .tmp 3], 9) := by kernel_rfl
-- 20 loop.example/g00850/impl.ReadFrame
abbrev n_impl_ReadFrame : Nat := 20
def c_impl_ReadFrame : AS :=
  .seq (.ops [⟨(some 4), none, .mv (.const (.string ⟨⟨[]⟩⟩))⟩,
    ⟨(some 5), none, .mv (.const (.int .i64 0))⟩,
    ⟨(some 6), none, .mv (.const (.bool false))⟩])
  (.seq (.seq (.ops [⟨(some 7), none, .mv (.tmp 0)⟩,
    ⟨(some 8), none, .lent (.tmp 7)⟩,
    ⟨(some 9), none, .bin .gtr (.tmp 8) (.const (.int .i64 50000))⟩,
    ⟨(some 10), none, .mv (.tmp 9)⟩,
    ⟨(some 11), some (10, false), .mv (.tmp 1)⟩,
    ⟨(some 12), some (10, false), .mv (.tmp 0)⟩,
    ⟨(some 13), some (10, false), .lent (.tmp 12)⟩,
    ⟨(some 14), some (10, false), .call 23 [(.tmp 11), (.const (.int .i64 0)), (.tmp 13)]⟩,
    ⟨(some 15), some (10, false), .not (.tmp 14)⟩,
    ⟨(some 16), none, .pick (.tmp 10) (.const (.bool true)) (.tmp 15)⟩])
  (.kept [0, 1, 16] (.cond (.tmp 16) (.seq (.ops [⟨(some 4), none, .mv (.const (.string ⟨⟨[]⟩⟩))⟩,
    ⟨(some 5), none, .mv (.const (.int .i64 0))⟩,
    ⟨(some 6), none, .mv (.const (.bool false))⟩])
  (.ret)) (.skip))))
  (.kept [0, 1] (.seq (.ops [⟨(some 17), none, .mv (.tmp 0)⟩,
    ⟨(some 18), none, .mv (.tmp 1)⟩,
    ⟨(some 19), none, .call 34 [(.tmp 17), (.tmp 18)]⟩,
    ⟨(some 20), none, .ext 0 (.tmp 19)⟩,
    ⟨(some 21), none, .ext 1 (.tmp 19)⟩,
    ⟨(some 22), none, .ext 2 (.tmp 19)⟩,
    ⟨(some 4), none, .mv (.tmp 20)⟩,
    ⟨(some 5), none, .mv (.tmp 21)⟩,
    ⟨(some 6), none, .mv (.tmp 22)⟩])
  (.ret))))
theorem h_impl_ReadFrame : (Try.prog.funcs[n_impl_ReadFrame]?).bind (fun fn => fn.body.bind (comp Try.prog fn.ntmps)) = some (AS.strip c_impl_ReadFrame) := by kernel_rfl
theorem r_impl_ReadFrame : (Try.prog.funcs[n_impl_ReadFrame]?).map (fun fn => (fn.results.toList, fn.ntmps)) = some ([.tmp 4, .tmp 5, .tmp 6], 23) := by kernel_rfl
-- 21 loop.example/g00850/impl.seal
abbrev n_impl_seal : Nat := 21
def c_impl_seal : AS :=
  .seq (.ops [⟨(some 2), none, .mv (.const (.string ⟨⟨[]⟩⟩))⟩])
  (.seq (.ops [⟨(some 4), none, .mv (.tmp 0)⟩,
    ⟨(some 5), none, .call 29 [(.tmp 4)]⟩,
    ⟨(some 3), none, .mv (.tmp 5)⟩])
  (.seq (.ops [⟨(some 6), none, .mv (.tmp 0)⟩,
    ⟨(some 7), none, .mv (.tmp 3)⟩,
    ⟨(some 8), none, .bin .shr (.tmp 7) (.const (.int .u64 16))⟩,
    ⟨(some 9), none, .cvi .u8 (.tmp 8)⟩,
    ⟨(some 10), none, .mv (.tmp 3)⟩,
    ⟨(some 11), none, .bin .shr (.tmp 10) (.const (.int .u64 8))⟩,
    ⟨(some 12), none, .cvi .u8 (.tmp 11)⟩,
    ⟨(some 13), none, .mv (.tmp 3)⟩,
    ⟨(some 14), none, .cvi .u8 (.tmp 13)⟩,
    ⟨(some 15), none, .bsl 1 (.int .u8 0) 3 [(0, (.tmp 9)), (1, (.tmp 12)), (2, (.tmp 14))]⟩,
    ⟨(some 16), none, .cvbs (.tmp 15)⟩,
    ⟨(some 17), none, .bin .add (.tmp 6) (.tmp 16)⟩,
    ⟨(some 2), none, .mv (.tmp 17)⟩])
  (.ret)))
theorem h_impl_seal : (Try.prog.funcs[n_impl_seal]?).bind (fun fn => fn.body.bind (comp Try.prog fn.ntmps)) = some (AS.strip c_impl_seal) := by kernel_rfl
theorem r_impl_seal : (Try.prog.funcs[n_impl_seal]?).map (fun fn => (fn.results.toList, fn.ntmps)) = some ([.tmp 2], 18) := by kernel_rfl
-- 22 loop.example/g00850/spec.l1Seal
abbrev n_spec_l1Seal : Nat := 22
def c_spec_l1Seal : AS :=
  .seq (.ops [⟨(some 2), none, .mv (.const (.string ⟨⟨[]⟩⟩))⟩])
  (.seq (.ops [⟨(some 3), none, .mv (.tmp 0)⟩,
    ⟨(some 4), none, .mv (.tmp 0)⟩,
    ⟨(some 5), none, .call 30 [(.tmp 4)]⟩,
    ⟨(some 6), none, .call 35 [(.tmp 5)]⟩,
    ⟨(some 7), none, .bin .add (.tmp 3) (.tmp 6)⟩,
    ⟨(some 2), none, .mv (.tmp 7)⟩])
  (.ret))
theorem h_spec_l1Seal : (Try.prog.funcs[n_spec_l1Seal]?).bind (fun fn => fn.body.bind (comp Try.prog fn.ntmps)) = some (AS.strip c_spec_l1Seal) := by kernel_rfl
theorem r_spec_l1Seal : (Try.prog.funcs[n_spec_l1Seal]?).map (fun fn => (fn.results.toList, fn.ntmps)) = some ([.tmp 2], 8) := by kernel_rfl
-- 23 loop.example/g00850/impl.within
abbrev n_impl_within : Nat := 23
def c_impl_within : AS :=
  .seq (.ops [⟨(some 6), none, .mv (.const (.bool false))⟩])
  (.seq (.ops [⟨(some 7), none, .mv (.tmp 0)⟩,
    ⟨(some 8), none, .mv (.tmp 1)⟩,
    ⟨(some 9), none, .bin .geq (.tmp 7) (.tmp 8)⟩,
    ⟨(some 10), none, .mv (.tmp 9)⟩,
    ⟨(some 11), some (10, true), .mv (.tmp 0)⟩,
    ⟨(some 12), some (10, true), .mv (.tmp 2)⟩,
    ⟨(some 13), some (10, true), .bin .leq (.tmp 11) (.tmp 12)⟩,
    ⟨(some 14), none, .pick (.tmp 10) (.tmp 13) (.const (.bool false))⟩,
    ⟨(some 6), none, .mv (.tmp 14)⟩])
  (.ret))
theorem h_impl_within : (Try.prog.funcs[n_impl_within]?).bind (fun fn => fn.body.bind (comp Try.prog fn.ntmps)) = some (AS.strip c_impl_within) := by kernel_rfl
theorem r_impl_within : (Try.prog.funcs[n_impl_within]?).map (fun fn => (fn.results.toList, fn.ntmps)) = some ([.tmp 6], 15) := by kernel_rfl
-- 24 (*loop.example/g00850/spec.l1Cur).any1
abbrev n_pspec_l1Cur_any1 : Nat := 24
def c_pspec_l1Cur_any1 : AS :=
  .seq (.ops [⟨(some 2), none, .mv (.const (.string ⟨⟨[]⟩⟩))⟩])
  (.seq (.ops [⟨(some 3), none, .mv (.tmp 0)⟩,
    ⟨(some 4), none, .bsl 1 (.string ⟨⟨[]⟩⟩) 6 [(0, (.const (.string ⟨⟨[]⟩⟩))), (1, (.const (.string ⟨⟨[97]⟩⟩))), (2, (.const (.string ⟨⟨[114, 111, 119]⟩⟩))), (3, (.const (.string ⟨⟨[97, 32, 108, 111, 110, 103, 32, 116, 101, 120, 116, 32, 111, 102, 32, 115, 111, 109, 101, 32, 119, 111, 114, 100, 115]⟩⟩))), (4, (.const (.string ⟨⟨[0, 255]⟩⟩))), (5, (.const (.string ⟨⟨[48, 49, 50, 51, 52, 53, 54, 55, 56, 57, 48, 49, 50, 51, 52, 53, 54, 55, 56, 57, 48, 49, 50, 51, 52, 53, 54, 55, 56, 57, 48, 49, 50, 51, 52, 53, 54, 55, 56, 57, 48, 49, 50, 51, 52, 53, 54, 55, 56, 57, 48, 49, 50, 51, 52, 53, 54, 55, 56, 57, 48]⟩⟩)))]⟩,
    ⟨(some 5), none, .call 36 [(.tmp 3), (.tmp 4)]⟩,
    ⟨(some 2), none, .mv (.tmp 5)⟩])
  (.ret))
theorem h_pspec_l1Cur_any1 : (Try.prog.funcs[n_pspec_l1Cur_any1]?).bind (fun fn => fn.body.bind (comp Try.prog fn.ntmps)) = some (AS.strip c_pspec_l1Cur_any1) := by kernel_rfl
theorem r_pspec_l1Cur_any1 : (Try.prog.funcs[n_pspec_l1Cur_any1]?).map (fun fn => (fn.results.toList, fn.ntmps)) = some ([.tmp 2], 6) := by kernel_rfl
-- 25 (*loop.example/g00850/spec.l1Cur).one
abbrev n_pspec_l1Cur_one : Nat := 25
def c_pspec_l1Cur_one : AS :=
  .seq (.ops [⟨(some 4), none, .mv (.const (.bool false))⟩])
  (.seq (.ops [⟨(some 5), none, .mv (.tmp 0)⟩,
    ⟨(some 6), none, .mv (.tmp 1)⟩,
    ⟨(some 7), none, .call 27 [(.tmp 5), (.tmp 6)]⟩,
    ⟨(some 8), none, .bin .eql (.tmp 7) (.const (.int .i64 0))⟩,
    ⟨(some 4), none, .mv (.tmp 8)⟩])
  (.ret))
theorem h_pspec_l1Cur_one : (Try.prog.funcs[n_pspec_l1Cur_one]?).bind (fun fn => fn.body.bind (comp Try.prog fn.ntmps)) = some (AS.strip c_pspec_l1Cur_one) := by kernel_rfl
theorem r_pspec_l1Cur_one : (Try.prog.funcs[n_pspec_l1Cur_one]?).map (fun fn => (fn.results.toList, fn.ntmps)) = some ([.tmp 4], 9) := by kernel_rfl
-- 27 (*loop.example/g00850/spec.l1Cur).pick
abbrev n_pspec_l1Cur_pick : Nat := 27
def c_pspec_l1Cur_pick : AS :=
  .seq (.ops [⟨(some 4), none, .mv (.const (.int .i64 0))⟩])
  (.seq (.seq (.ops [⟨(some 6), none, .mv (.tmp 1)⟩,
    ⟨(some 7), none, .bin .leq (.tmp 6) (.const (.int .i64 1))⟩])
  (.cond (.tmp 7) (.seq (.ops [⟨(some 4), none, .mv (.const (.int .i64 0))⟩])
  (.ret)) (.skip)))
  (.seq (.ops [⟨(some 8), none, .mv (.tmp 0)⟩,
    ⟨(some 9), none, .call 37 [(.tmp 8)]⟩,
    ⟨(some 5), none, .mv (.tmp 9)⟩])
  (.seq (.seq (.ops [⟨(some 10), none, .mv (.tmp 1)⟩,
    ⟨(some 11), none, .bin .gtr (.tmp 10) (.const (.int .i64 200))⟩])
  (.cond (.tmp 11) (.ops [⟨(some 12), none, .mv (.tmp 5)⟩,
    ⟨(some 13), none, .bin .mul (.tmp 12) (.const (.int .i64 256))⟩,
    ⟨(some 14), none, .mv (.tmp 0)⟩,
    ⟨(some 15), none, .call 37 [(.tmp 14)]⟩,
    ⟨(some 16), none, .bin .add (.tmp 13) (.tmp 15)⟩,
    ⟨(some 5), none, .mv (.tmp 16)⟩]) (.skip)))
  (.kept [1, 5] (.seq (.ops [⟨(some 17), none, .mv (.tmp 5)⟩,
    ⟨(some 18), none, .mv (.tmp 1)⟩,
    ⟨(some 19), none, .bin .rem (.tmp 17) (.tmp 18)⟩,
    ⟨(some 4), none, .mv (.tmp 19)⟩])
  (.ret))))))
theorem h_pspec_l1Cur_pick : (Try.prog.funcs[n_pspec_l1Cur_pick]?).bind (fun fn => fn.body.bind (comp Try.prog fn.ntmps)) = some (AS.strip c_pspec_l1Cur_pick) := by kernel_rfl
theorem r_pspec_l1Cur_pick : (Try.prog.funcs[n_pspec_l1Cur_pick]?).map (fun fn => (fn.results.toList, fn.ntmps)) = some ([.tmp 4], 20) := by kernel_rfl
-- 29 loop.example/g00850/impl.sumOf
abbrev n_impl_sumOf : Nat := 29
def c_impl_sumOf_l1 : AS :=
  .seq (.ops [⟨(some 8), none, .bin .lss (.tmp 7) (.tmp 6)⟩])
  (.seq (.cond (.tmp 8) (.skip) (.exit 0))
  (.seq (.block 1 (.seq (.ops [⟨(some 9), none, .mv (.tmp 7)⟩,
    ⟨(some 4), none, .mv (.tmp 9)⟩])
  (.ops [⟨(some 10), none, .mv (.tmp 3)⟩,
    ⟨(some 11), none, .bin .mul (.const (.int .i64 31)) (.tmp 10)⟩,
    ⟨(some 12), none, .mv (.tmp 0)⟩,
    ⟨(some 13), none, .mv (.tmp 4)⟩,
    ⟨(some 14), none, .ix (.tmp 12) (.tmp 13)⟩,
    ⟨(some 15), none, .cvi .i64 (.tmp 14)⟩,
    ⟨(some 16), none, .bin .add (.tmp 11) (.tmp 15)⟩,
    ⟨(some 17), none, .bin .add (.tmp 16) (.const (.int .i64 1))⟩,
    ⟨(some 18), none, .bin .rem (.tmp 17) (.const (.int .i64 16000057))⟩,
    ⟨(some 3), none, .mv (.tmp 18)⟩])))
  (.kept [0, 3, 6, 7] (.ops [⟨(some 19), none, .bin .add (.tmp 7) (.const (.int .i64 1))⟩,
    ⟨(some 7), none, .mv (.tmp 19)⟩]))))
def c_impl_sumOf : AS :=
  .seq (.ops [⟨(some 2), none, .mv (.const (.int .i64 0))⟩])
  (.seq (.ops [⟨(some 3), none, .mv (.const (.int .i64 7))⟩])
  (.seq (.seq (.ops [⟨(some 5), none, .mv (.tmp 0)⟩,
    ⟨(some 6), none, .lent (.tmp 5)⟩,
    ⟨(some 7), none, .mv (.const (.int .i64 0))⟩])
  (.block 0 (.loop 1 [(0, 0), (3, 0), (6, 0), (7, 0)] c_impl_sumOf_l1)))
  (.kept [3] (.seq (.ops [⟨(some 20), none, .mv (.tmp 3)⟩,
    ⟨(some 2), none, .mv (.tmp 20)⟩])
  (.ret)))))
theorem h_impl_sumOf : (Try.prog.funcs[n_impl_sumOf]?).bind (fun fn => fn.body.bind (comp Try.prog fn.ntmps)) = some (AS.strip c_impl_sumOf) := by kernel_rfl
theorem r_impl_sumOf : (Try.prog.funcs[n_impl_sumOf]?).map (fun fn => (fn.results.toList, fn.ntmps)) = some ([.tmp 2], 21) := by kernel_rfl
-- 30 loop.example/g00850/spec.l1Sum
abbrev n_spec_l1Sum : Nat := 30
def c_spec_l1Sum_l1 : AS :=
  .seq (.seq (.ops [⟨(some 5), none, .mv (.tmp 4)⟩,
    ⟨(some 6), none, .mv (.tmp 0)⟩,
    ⟨(some 7), none, .lent (.tmp 6)⟩,
    ⟨(some 8), none, .bin .lss (.tmp 5) (.tmp 7)⟩])
  (.cond (.tmp 8) (.skip) (.exit 0)))
  (.seq (.block 1 (.ops [⟨(some 11), none, .mv (.tmp 3)⟩,
    ⟨(some 12), none, .bin .mul (.const (.int .i64 31)) (.tmp 11)⟩,
    ⟨(some 13), none, .mv (.tmp 0)⟩,
    ⟨(some 14), none, .mv (.tmp 4)⟩,
    ⟨(some 15), none, .ix (.tmp 13) (.tmp 14)⟩,
    ⟨(some 16), none, .cvi .i64 (.tmp 15)⟩,
    ⟨(some 17), none, .bin .add (.tmp 12) (.tmp 16)⟩,
    ⟨(some 18), none, .bin .add (.tmp 17) (.const (.int .i64 1))⟩,
    ⟨(some 19), none, .bin .rem (.tmp 18) (.const (.int .i64 16000057))⟩,
    ⟨(some 3), none, .mv (.tmp 19)⟩]))
  (.kept [0, 3, 4] (.ops [⟨(some 9), none, .mv (.tmp 4)⟩,
    ⟨(some 10), none, .bin .add (.tmp 9) (.const (.int .i64 1))⟩,
    ⟨(some 4), none, .mv (.tmp 10)⟩])))
def c_spec_l1Sum : AS :=
  .seq (.ops [⟨(some 2), none, .mv (.const (.int .i64 0))⟩])
  (.seq (.ops [⟨(some 3), none, .mv (.const (.int .i64 7))⟩])
  (.seq (.seq (.ops [⟨(some 4), none, .mv (.const (.int .i64 0))⟩])
  (.block 0 (.loop 1 [(0, 0), (3, 0), (4, 0)] c_spec_l1Sum_l1)))
  (.kept [3] (.seq (.ops [⟨(some 20), none, .mv (.tmp 3)⟩,
    ⟨(some 2), none, .mv (.tmp 20)⟩])
  (.ret)))))
theorem h_spec_l1Sum : (Try.prog.funcs[n_spec_l1Sum]?).bind (fun fn => fn.body.bind (comp Try.prog fn.ntmps)) = some (AS.strip c_spec_l1Sum) := by kernel_rfl
theorem r_spec_l1Sum : (Try.prog.funcs[n_spec_l1Sum]?).map (fun fn => (fn.results.toList, fn.ntmps)) = some ([.tmp 2], 21) := by kernel_rfl
-- 31 loop.example/g00850/spec.l6Text
abbrev n_spec_l6Text : Nat := 31
def c_spec_l6Text : AS :=
  .seq (.ops [⟨(some 2), none, .mv (.const (.string ⟨⟨[]⟩⟩))⟩])
  (.seq (.seq (.ops [⟨(some 3), none, .mv (.tmp 0)⟩,
    ⟨(some 4), none, .call 25 [(.tmp 3), (.const (.int .i64 12))]⟩])
  (.cond (.tmp 4) (.seq (.ops [⟨(some 5), none, .mv (.tmp 0)⟩,
    ⟨(some 6), none, .bsl 1 (.int .i64 0) 5 [(0, (.const (.int .i64 127))), (1, (.const (.int .i64 128))), (2, (.const (.int .i64 699))), (3, (.const (.int .i64 700))), (4, (.const (.int .i64 701)))]⟩,
    ⟨(some 7), none, .call 38 [(.tmp 5), (.tmp 6)]⟩,
    ⟨(some 8), none, .mks 1 1 (.int .u8 0) (.tmp 7) (.tmp 7)⟩,
    ⟨(some 9), none, .cvbs (.tmp 8)⟩,
    ⟨(some 2), none, .mv (.tmp 9)⟩])
  (.ret)) (.skip)))
  (.kept [0] (.seq (.ops [⟨(some 10), none, .mv (.tmp 0)⟩,
    ⟨(some 11), none, .call 24 [(.tmp 10)]⟩,
    ⟨(some 2), none, .mv (.tmp 11)⟩])
  (.ret))))
theorem h_spec_l6Text : (Try.prog.funcs[n_spec_l6Text]?).bind (fun fn => fn.body.bind (comp Try.prog fn.ntmps)) = some (AS.strip c_spec_l6Text) := by kernel_rfl
theorem r_spec_l6Text : (Try.prog.funcs[n_spec_l6Text]?).map (fun fn => (fn.results.toList, fn.ntmps)) = some ([.tmp 2], 12) := by kernel_rfl
-- 32 loop.example/g00850/impl.frameBytes
abbrev n_impl_frameBytes : Nat := 32
def c_impl_frameBytes : AS :=
  .seq (.ops [⟨(some 2), none, .mv (.const (.string ⟨⟨[]⟩⟩))⟩])
  (.seq (.ops [⟨(some 3), none, .mv (.tmp 0)⟩,
    ⟨(some 4), none, .lent (.tmp 3)⟩,
    ⟨(some 5), none, .call 39 [(.tmp 4)]⟩,
    ⟨(some 6), none, .mv (.tmp 0)⟩,
    ⟨(some 7), none, .call 21 [(.tmp 6)]⟩,
    ⟨(some 8), none, .bin .add (.tmp 5) (.tmp 7)⟩,
    ⟨(some 2), none, .mv (.tmp 8)⟩])
  (.ret))
theorem h_impl_frameBytes : (Try.prog.funcs[n_impl_frameBytes]?).bind (fun fn => fn.body.bind (comp Try.prog fn.ntmps)) = some (AS.strip c_impl_frameBytes) := by kernel_rfl
theorem r_impl_frameBytes : (Try.prog.funcs[n_impl_frameBytes]?).map (fun fn => (fn.results.toList, fn.ntmps)) = some ([.tmp 2], 9) := by kernel_rfl
-- 33 loop.example/g00850/spec.l6Frame
abbrev n_spec_l6Frame : Nat := 33
def c_spec_l6Frame : AS :=
  .seq (.ops [⟨(some 2), none, .mv (.const (.string ⟨⟨[]⟩⟩))⟩])
  (.seq (.ops [⟨(some 3), none, .mv (.tmp 0)⟩,
    ⟨(some 4), none, .lent (.tmp 3)⟩,
    ⟨(some 5), none, .call 40 [(.tmp 4)]⟩,
    ⟨(some 6), none, .mv (.tmp 0)⟩,
    ⟨(some 7), none, .call 22 [(.tmp 6)]⟩,
    ⟨(some 8), none, .bin .add (.tmp 5) (.tmp 7)⟩,
    ⟨(some 2), none, .mv (.tmp 8)⟩])
  (.ret))
theorem h_spec_l6Frame : (Try.prog.funcs[n_spec_l6Frame]?).bind (fun fn => fn.body.bind (comp Try.prog fn.ntmps)) = some (AS.strip c_spec_l6Frame) := by kernel_rfl
theorem r_spec_l6Frame : (Try.prog.funcs[n_spec_l6Frame]?).map (fun fn => (fn.results.toList, fn.ntmps)) = some ([.tmp 2], 9) := by kernel_rfl
-- 34 loop.example/g00850/impl.readFrame
abbrev n_impl_readFrame : Nat := 34
def c_impl_readFrame : AS :=
  .seq (.ops [⟨(some 4), none, .mv (.const (.string ⟨⟨[]⟩⟩))⟩,
    ⟨(some 5), none, .mv (.const (.int .i64 0))⟩,
    ⟨(some 6), none, .mv (.const (.bool false))⟩])
  (.seq (.ops [⟨(some 11), none, .mv (.tmp 0)⟩,
    ⟨(some 12), none, .mv (.tmp 1)⟩,
    ⟨(some 13), none, .build (.agg #[.string ⟨⟨[]⟩⟩, .int .i64 0, .bool false]) [(0, 1, (.tmp 11)), (1, 1, (.tmp 12))]⟩,
    ⟨(some 14), none, .box (.tmp 13)⟩,
    ⟨(some 7), none, .mv (.tmp 14)⟩])
  (.seq (.ops [⟨(some 15), none, .mv (.tmp 7)⟩,
    ⟨(some 16), none, .call 41 [(.tmp 15)]⟩,
    ⟨(some 8), none, .mv (.tmp 16)⟩])
  (.seq (.seq (.ops [⟨(some 17), none, .mv (.tmp 8)⟩,
    ⟨(some 18), none, .bin .gtr (.tmp 17) (.const (.int .i64 700))⟩])
  (.cond (.tmp 18) (.seq (.ops [⟨(some 4), none, .mv (.const (.string ⟨⟨[]⟩⟩))⟩,
    ⟨(some 5), none, .mv (.const (.int .i64 0))⟩,
    ⟨(some 6), none, .mv (.const (.bool false))⟩])
  (.ret)) (.skip)))
  (.seq (.ops [⟨(some 19), none, .mv (.tmp 7)⟩,
    ⟨(some 20), none, .mv (.tmp 8)⟩,
    ⟨(some 21), none, .call 42 [(.tmp 19), (.tmp 20)]⟩,
    ⟨(some 9), none, .mv (.tmp 21)⟩])
  (.seq (.ops [⟨(some 22), none, .mv (.tmp 7)⟩,
    ⟨(some 23), none, .call 42 [(.tmp 22), (.const (.int .i64 3))]⟩,
    ⟨(some 10), none, .mv (.tmp 23)⟩])
  (.seq (.seq (.ops [⟨(some 24), none, .mv (.tmp 7)⟩,
    ⟨(some 25), none, .nc (.tmp 24)⟩,
    ⟨(some 26), none, .fa 2 (.tmp 25)⟩,
    ⟨(some 27), none, .load none (.tmp 26)⟩,
    ⟨(some 28), none, .mv (.tmp 27)⟩,
    ⟨(some 29), some (28, false), .mv (.tmp 9)⟩,
    ⟨(some 30), some (28, false), .call 21 [(.tmp 29)]⟩,
    ⟨(some 31), some (28, false), .mv (.tmp 9)⟩,
    ⟨(some 32), some (28, false), .mv (.tmp 10)⟩,
    ⟨(some 33), some (28, false), .bin .add (.tmp 31) (.tmp 32)⟩,
    ⟨(some 34), some (28, false), .bin .neq (.tmp 30) (.tmp 33)⟩,
    ⟨(some 35), none, .pick (.tmp 28) (.const (.bool true)) (.tmp 34)⟩])
  (.kept [7, 9, 35] (.cond (.tmp 35) (.seq (.ops [⟨(some 4), none, .mv (.const (.string ⟨⟨[]⟩⟩))⟩,
    ⟨(some 5), none, .mv (.const (.int .i64 0))⟩,
    ⟨(some 6), none, .mv (.const (.bool false))⟩])
  (.ret)) (.skip))))
  (.kept [7, 9] (.seq (.dops [⟨(some 36), none, .mv (.tmp 9)⟩,
    ⟨(some 37), none, .mv (.tmp 7)⟩,
    ⟨(some 38), none, .nc (.tmp 37)⟩,
    ⟨(some 39), none, .fa 1 (.tmp 38)⟩,
    ⟨(some 40), none, .load none (.tmp 39)⟩,
    ⟨(some 4), none, .mv (.tmp 36)⟩,
    ⟨(some 5), none, .mv (.tmp 40)⟩,
    ⟨(some 6), none, .mv (.const (.bool true))⟩])
  (.ret)))))))))
theorem h_impl_readFrame : (Try.prog.funcs[n_impl_readFrame]?).bind (fun fn => fn.body.bind (comp Try.prog fn.ntmps)) = some (AS.strip c_impl_readFrame) := by kernel_rfl
theorem r_impl_readFrame : (Try.prog.funcs[n_impl_readFrame]?).map (fun fn => (fn.results.toList, fn.ntmps)) = some ([.tmp 4, .tmp 5, .tmp 6], 41) := by kernel_rfl
-- 35 loop.example/g00850/spec.l1Three
abbrev n_spec_l1Three : Nat := 35
def c_spec_l1Three : AS :=
  .seq (.ops [⟨(some 2), none, .mv (.const (.string ⟨⟨[]⟩⟩))⟩])
  (.seq (.ops [⟨(some 3), none, .mv (.tmp 0)⟩,
    ⟨(some 4), none, .bin .quo (.tmp 3) (.const (.int .i64 65536))⟩,
    ⟨(some 5), none, .cvi .u8 (.tmp 4)⟩,
    ⟨(some 6), none, .mv (.tmp 0)⟩,
    ⟨(some 7), none, .bin .quo (.tmp 6) (.const (.int .i64 256))⟩,
    ⟨(some 8), none, .bin .rem (.tmp 7) (.const (.int .i64 256))⟩,
    ⟨(some 9), none, .cvi .u8 (.tmp 8)⟩,
    ⟨(some 10), none, .mv (.tmp 0)⟩,
    ⟨(some 11), none, .bin .rem (.tmp 10) (.const (.int .i64 256))⟩,
    ⟨(some 12), none, .cvi .u8 (.tmp 11)⟩,
    ⟨(some 13), none, .bsl 1 (.int .u8 0) 3 [(0, (.tmp 5)), (1, (.tmp 9)), (2, (.tmp 12))]⟩,
    ⟨(some 14), none, .cvbs (.tmp 13)⟩,
    ⟨(some 2), none, .mv (.tmp 14)⟩])
  (.ret))
theorem h_spec_l1Three : (Try.prog.funcs[n_spec_l1Three]?).bind (fun fn => fn.body.bind (comp Try.prog fn.ntmps)) = some (AS.strip c_spec_l1Three) := by kernel_rfl
theorem r_spec_l1Three : (Try.prog.funcs[n_spec_l1Three]?).map (fun fn => (fn.results.toList, fn.ntmps)) = some ([.tmp 2], 15) := by kernel_rfl
-- 36 (*loop.example/g00850/spec.l1Cur).of
abbrev n_pspec_l1Cur_of : Nat := 36
def c_pspec_l1Cur_of : AS :=
  .seq (.ops [⟨(some 4), none, .mv (.const (.string ⟨⟨[]⟩⟩))⟩])
  (.seq (.ops [⟨(some 5), none, .mv (.tmp 1)⟩,
    ⟨(some 6), none, .mv (.tmp 0)⟩,
    ⟨(some 7), none, .mv (.tmp 1)⟩,
    ⟨(some 8), none, .lens (.tmp 7)⟩,
    ⟨(some 9), none, .call 27 [(.tmp 6), (.tmp 8)]⟩,
    ⟨(some 10), none, .ia 1 (.tmp 5) (.tmp 9)⟩,
    ⟨(some 11), none, .load none (.tmp 10)⟩,
    ⟨(some 4), none, .mv (.tmp 11)⟩])
  (.ret))
theorem h_pspec_l1Cur_of : (Try.prog.funcs[n_pspec_l1Cur_of]?).bind (fun fn => fn.body.bind (comp Try.prog fn.ntmps)) = some (AS.strip c_pspec_l1Cur_of) := by kernel_rfl
theorem r_pspec_l1Cur_of : (Try.prog.funcs[n_pspec_l1Cur_of]?).map (fun fn => (fn.results.toList, fn.ntmps)) = some ([.tmp 4], 12) := by kernel_rfl
-- 37 (*loop.example/g00850/spec.l1Cur).next
abbrev n_pspec_l1Cur_next : Nat := 37
def c_pspec_l1Cur_next : AS :=
  .seq (.ops [⟨(some 2), none, .mv (.const (.int .i64 0))⟩])
  (.seq (.ops [⟨(some 3), none, .mv (.const (.int .i64 0))⟩])
  (.seq (.seq (.dops [⟨(some 4), none, .mv (.tmp 0)⟩,
    ⟨(some 5), none, .nc (.tmp 4)⟩,
    ⟨(some 6), none, .fa 1 (.tmp 5)⟩,
    ⟨(some 7), none, .load none (.tmp 6)⟩,
    ⟨(some 8), none, .mv (.tmp 0)⟩,
    ⟨(some 9), none, .nc (.tmp 8)⟩,
    ⟨(some 10), none, .fa 0 (.tmp 9)⟩,
    ⟨(some 11), none, .load none (.tmp 10)⟩,
    ⟨(some 12), none, .lens (.tmp 11)⟩,
    ⟨(some 13), none, .bin .lss (.tmp 7) (.tmp 12)⟩])
  (.kept [0, 3, 13] (.cond (.tmp 13) (.dops [⟨(some 14), none, .mv (.tmp 0)⟩,
    ⟨(some 15), none, .nc (.tmp 14)⟩,
    ⟨(some 16), none, .fa 0 (.tmp 15)⟩,
    ⟨(some 17), none, .load none (.tmp 16)⟩,
    ⟨(some 18), none, .mv (.tmp 0)⟩,
    ⟨(some 19), none, .nc (.tmp 18)⟩,
    ⟨(some 20), none, .fa 1 (.tmp 19)⟩,
    ⟨(some 21), none, .load none (.tmp 20)⟩,
    ⟨(some 22), none, .ia 1 (.tmp 17) (.tmp 21)⟩,
    ⟨(some 23), none, .load none (.tmp 22)⟩,
    ⟨(some 24), none, .cvi .i64 (.tmp 23)⟩,
    ⟨(some 3), none, .mv (.tmp 24)⟩]) (.skip))))
  (.kept [0, 3] (.seq (.ops [⟨(some 25), none, .mv (.tmp 0)⟩,
    ⟨(some 26), none, .nc (.tmp 25)⟩,
    ⟨(some 27), none, .fa 1 (.tmp 26)⟩,
    ⟨(some 28), none, .load none (.tmp 27)⟩,
    ⟨(some 29), none, .bin .add (.tmp 28) (.const (.int .i64 1))⟩,
    ⟨(some 30), none, .nc (.tmp 25)⟩,
    ⟨(some 31), none, .fa 1 (.tmp 30)⟩,
    ⟨none, none, .store 1 (.tmp 31) (.tmp 29)⟩])
  (.kept [0, 3] (.seq (.ops [⟨(some 32), none, .mv (.tmp 0)⟩,
    ⟨(some 33), none, .mv (.tmp 0)⟩,
    ⟨(some 34), none, .nc (.tmp 33)⟩,
    ⟨(some 35), none, .fa 2 (.tmp 34)⟩,
    ⟨(some 36), none, .load none (.tmp 35)⟩,
    ⟨(some 37), none, .bin .mul (.tmp 36) (.const (.int .u64 6364136223846793005))⟩,
    ⟨(some 38), none, .mv (.tmp 3)⟩,
    ⟨(some 39), none, .cvi .u64 (.tmp 38)⟩,
    ⟨(some 40), none, .bin .add (.tmp 37) (.tmp 39)⟩,
    ⟨(some 41), none, .bin .add (.tmp 40) (.const (.int .u64 1442695040888963407))⟩,
    ⟨(some 42), none, .nc (.tmp 32)⟩,
    ⟨(some 43), none, .fa 2 (.tmp 42)⟩,
    ⟨none, none, .store 1 (.tmp 43) (.tmp 41)⟩])
  (.kept [0, 3] (.seq (.seq (.dops [⟨(some 44), none, .mv (.tmp 0)⟩,
    ⟨(some 45), none, .nc (.tmp 44)⟩,
    ⟨(some 46), none, .fa 1 (.tmp 45)⟩,
    ⟨(some 47), none, .load none (.tmp 46)⟩,
    ⟨(some 48), none, .mv (.tmp 0)⟩,
    ⟨(some 49), none, .nc (.tmp 48)⟩,
    ⟨(some 50), none, .fa 0 (.tmp 49)⟩,
    ⟨(some 51), none, .load none (.tmp 50)⟩,
    ⟨(some 52), none, .lens (.tmp 51)⟩,
    ⟨(some 53), none, .bin .leq (.tmp 47) (.tmp 52)⟩])
  (.kept [0, 3, 53] (.cond (.tmp 53) (.seq (.ops [⟨(some 54), none, .mv (.tmp 3)⟩,
    ⟨(some 2), none, .mv (.tmp 54)⟩])
  (.ret)) (.skip))))
  (.kept [0] (.seq (.ops [⟨(some 55), none, .mv (.tmp 0)⟩,
    ⟨(some 56), none, .nc (.tmp 55)⟩,
    ⟨(some 57), none, .fa 2 (.tmp 56)⟩,
    ⟨(some 58), none, .load none (.tmp 57)⟩,
    ⟨(some 59), none, .bin .shr (.tmp 58) (.const (.int .u64 40))⟩,
    ⟨(some 60), none, .bin .and (.tmp 59) (.const (.int .u64 255))⟩,
    ⟨(some 61), none, .cvi .i64 (.tmp 60)⟩,
    ⟨(some 2), none, .mv (.tmp 61)⟩])
  (.ret)))))))))))
theorem h_pspec_l1Cur_next : (Try.prog.funcs[n_pspec_l1Cur_next]?).bind (fun fn => fn.body.bind (comp Try.prog fn.ntmps)) = some (AS.strip c_pspec_l1Cur_next) := by kernel_rfl
theorem r_pspec_l1Cur_next : (Try.prog.funcs[n_pspec_l1Cur_next]?).map (fun fn => (fn.results.toList, fn.ntmps)) = some ([.tmp 2], 62) := by kernel_rfl
-- 38 (*loop.example/g00850/spec.l1Cur).among
abbrev n_pspec_l1Cur_among : Nat := 38
def c_pspec_l1Cur_among : AS :=
  .seq (.ops [⟨(some 4), none, .mv (.const (.int .i64 0))⟩])
  (.seq (.ops [⟨(some 5), none, .mv (.tmp 1)⟩,
    ⟨(some 6), none, .mv (.tmp 0)⟩,
    ⟨(some 7), none, .mv (.tmp 1)⟩,
    ⟨(some 8), none, .lens (.tmp 7)⟩,
    ⟨(some 9), none, .call 27 [(.tmp 6), (.tmp 8)]⟩,
    ⟨(some 10), none, .ia 1 (.tmp 5) (.tmp 9)⟩,
    ⟨(some 11), none, .load none (.tmp 10)⟩,
    ⟨(some 4), none, .mv (.tmp 11)⟩])
  (.ret))
theorem h_pspec_l1Cur_among : (Try.prog.funcs[n_pspec_l1Cur_among]?).bind (fun fn => fn.body.bind (comp Try.prog fn.ntmps)) = some (AS.strip c_pspec_l1Cur_among) := by kernel_rfl
theorem r_pspec_l1Cur_among : (Try.prog.funcs[n_pspec_l1Cur_among]?).map (fun fn => (fn.results.toList, fn.ntmps)) = some ([.tmp 4], 12) := by kernel_rfl
-- 39 loop.example/g00850/impl.numBytes
abbrev n_impl_numBytes : Nat := 39
def c_impl_numBytes_l1 : AS :=
  .seq (.seq (.ops [⟨(some 5), none, .mv (.tmp 0)⟩,
    ⟨(some 6), none, .bin .geq (.tmp 5) (.const (.int .i64 128))⟩])
  (.cond (.tmp 6) (.skip) (.exit 0)))
  (.block 1 (.seq (.ops [⟨(some 7), none, .mv (.tmp 3)⟩,
    ⟨(some 8), none, .mv (.tmp 0)⟩,
    ⟨(some 9), none, .bin .rem (.tmp 8) (.const (.int .i64 128))⟩,
    ⟨(some 10), none, .cvi .u8 (.tmp 9)⟩,
    ⟨(some 11), none, .bin .add (.tmp 10) (.const (.int .u8 128))⟩,
    ⟨(some 12), none, .bsl 1 (.int .u8 0) 1 [(0, (.tmp 11))]⟩,
    ⟨(some 13), none, .app 1 1 (.int .u8 0) (.tmp 7) (.tmp 12)⟩,
    ⟨(some 3), none, .mv (.tmp 13)⟩])
  (.kept [0, 3] (.ops [⟨(some 14), none, .mv (.tmp 0)⟩,
    ⟨(some 15), none, .bin .quo (.tmp 14) (.const (.int .i64 128))⟩,
    ⟨(some 0), none, .mv (.tmp 15)⟩]))))
def c_impl_numBytes : AS :=
  .seq (.ops [⟨(some 2), none, .mv (.const (.string ⟨⟨[]⟩⟩))⟩])
  (.seq (.ops [⟨(some 4), none, .bsl 1 (.int .u8 0) 0 []⟩,
    ⟨(some 3), none, .mv (.tmp 4)⟩])
  (.seq (.block 0 (.loop 1 [(0, 0), (3, 1)] c_impl_numBytes_l1))
  (.kept [0, 3] (.seq (.ops [⟨(some 16), none, .mv (.tmp 3)⟩,
    ⟨(some 17), none, .mv (.tmp 0)⟩,
    ⟨(some 18), none, .cvi .u8 (.tmp 17)⟩,
    ⟨(some 19), none, .bsl 1 (.int .u8 0) 1 [(0, (.tmp 18))]⟩,
    ⟨(some 20), none, .app 1 1 (.int .u8 0) (.tmp 16) (.tmp 19)⟩,
    ⟨(some 21), none, .cvbs (.tmp 20)⟩,
    ⟨(some 2), none, .mv (.tmp 21)⟩])
  (.ret)))))
theorem h_impl_numBytes : (Try.prog.funcs[n_impl_numBytes]?).bind (fun fn => fn.body.bind (comp Try.prog fn.ntmps)) = some (AS.strip c_impl_numBytes) := by kernel_rfl
theorem r_impl_numBytes : (Try.prog.funcs[n_impl_numBytes]?).map (fun fn => (fn.results.toList, fn.ntmps)) = some ([.tmp 2], 22) := by kernel_rfl
-- 40 loop.example/g00850/spec.l1NumB
abbrev n_spec_l1NumB : Nat := 40
def c_spec_l1NumB_l1 : AS :=
  .seq (.seq (.ops [⟨(some 4), none, .mv (.tmp 0)⟩,
    ⟨(some 5), none, .bin .geq (.tmp 4) (.const (.int .i64 128))⟩])
  (.cond (.tmp 5) (.skip) (.exit 0)))
  (.seq (.block 1 (.ops [⟨(some 8), none, .mv (.tmp 3)⟩,
    ⟨(some 9), none, .mv (.tmp 0)⟩,
    ⟨(some 10), none, .bin .rem (.tmp 9) (.const (.int .i64 128))⟩,
    ⟨(some 11), none, .bin .add (.tmp 10) (.const (.int .i64 128))⟩,
    ⟨(some 12), none, .cvi .u8 (.tmp 11)⟩,
    ⟨(some 13), none, .bsl 1 (.int .u8 0) 1 [(0, (.tmp 12))]⟩,
    ⟨(some 14), none, .app 1 1 (.int .u8 0) (.tmp 8) (.tmp 13)⟩,
    ⟨(some 3), none, .mv (.tmp 14)⟩]))
  (.kept [0, 3] (.ops [⟨(some 6), none, .mv (.tmp 0)⟩,
    ⟨(some 7), none, .bin .quo (.tmp 6) (.const (.int .i64 128))⟩,
    ⟨(some 0), none, .mv (.tmp 7)⟩])))
def c_spec_l1NumB : AS :=
  .seq (.ops [⟨(some 2), none, .mv (.const (.string ⟨⟨[]⟩⟩))⟩])
  (.seq (.ops [⟨(some 3), none, .mv (.const (.slice none 0 0))⟩])
  (.seq (.block 0 (.loop 1 [(0, 0), (3, 1)] c_spec_l1NumB_l1))
  (.kept [0, 3] (.seq (.ops [⟨(some 15), none, .mv (.tmp 3)⟩,
    ⟨(some 16), none, .mv (.tmp 0)⟩,
    ⟨(some 17), none, .cvi .u8 (.tmp 16)⟩,
    ⟨(some 18), none, .bsl 1 (.int .u8 0) 1 [(0, (.tmp 17))]⟩,
    ⟨(some 19), none, .app 1 1 (.int .u8 0) (.tmp 15) (.tmp 18)⟩,
    ⟨(some 20), none, .cvbs (.tmp 19)⟩,
    ⟨(some 2), none, .mv (.tmp 20)⟩])
  (.ret)))))
theorem h_spec_l1NumB : (Try.prog.funcs[n_spec_l1NumB]?).bind (fun fn => fn.body.bind (comp Try.prog fn.ntmps)) = some (AS.strip c_spec_l1NumB) := by kernel_rfl
theorem r_spec_l1NumB : (Try.prog.funcs[n_spec_l1NumB]?).map (fun fn => (fn.results.toList, fn.ntmps)) = some ([.tmp 2], 21) := by kernel_rfl
-- 41 (*loop.example/g00850/impl.source).num
abbrev n_pimpl_source_num : Nat := 41
def c_pimpl_source_num_l1 : AS :=
  .block 1 (.seq (.ops [⟨(some 11), none, .mv (.tmp 0)⟩,
    ⟨(some 12), none, .call 42 [(.tmp 11), (.const (.int .i64 1))]⟩,
    ⟨(some 6), none, .mv (.tmp 12)⟩])
  (.seq (.seq (.ops [⟨(some 13), none, .mv (.tmp 0)⟩,
    ⟨(some 14), none, .nc (.tmp 13)⟩,
    ⟨(some 15), none, .fa 2 (.tmp 14)⟩,
    ⟨(some 16), none, .load none (.tmp 15)⟩])
  (.cond (.tmp 16) (.seq (.ops [⟨(some 2), none, .mv (.const (.int .i64 0))⟩])
  (.ret)) (.skip)))
  (.seq (.ops [⟨(some 17), none, .mv (.tmp 4)⟩,
    ⟨(some 18), none, .mv (.tmp 6)⟩,
    ⟨(some 19), none, .ix (.tmp 18) (.const (.int .i64 0))⟩,
    ⟨(some 20), none, .bin .rem (.tmp 19) (.const (.int .u8 128))⟩,
    ⟨(some 21), none, .cvi .i64 (.tmp 20)⟩,
    ⟨(some 22), none, .mv (.tmp 5)⟩,
    ⟨(some 23), none, .bin .mul (.tmp 21) (.tmp 22)⟩,
    ⟨(some 24), none, .bin .add (.tmp 17) (.tmp 23)⟩,
    ⟨(some 4), none, .mv (.tmp 24)⟩])
  (.kept [0, 3, 4, 5, 6] (.seq (.seq (.ops [⟨(some 25), none, .mv (.tmp 4)⟩,
    ⟨(some 26), none, .bin .gtr (.tmp 25) (.const (.int .i64 1000000000))⟩,
    ⟨(some 27), none, .mv (.tmp 26)⟩,
    ⟨(some 28), some (27, false), .mv (.tmp 0)⟩,
    ⟨(some 29), some (27, false), .nc (.tmp 28)⟩,
    ⟨(some 30), some (27, false), .fa 1 (.tmp 29)⟩,
    ⟨(some 31), some (27, false), .load none (.tmp 30)⟩,
    ⟨(some 32), some (27, false), .mv (.tmp 3)⟩,
    ⟨(some 33), some (27, false), .bin .sub (.tmp 31) (.tmp 32)⟩,
    ⟨(some 34), some (27, false), .bin .gtr (.tmp 33) (.const (.int .i64 5))⟩,
    ⟨(some 35), none, .pick (.tmp 27) (.const (.bool true)) (.tmp 34)⟩])
  (.kept [0, 3, 4, 5, 6, 35] (.cond (.tmp 35) (.seq (.ops [⟨(some 36), none, .mv (.tmp 0)⟩,
    ⟨(some 37), none, .call 43 [(.tmp 36)]⟩])
  (.seq (.ops [⟨(some 2), none, .mv (.const (.int .i64 0))⟩])
  (.ret))) (.skip))))
  (.kept [0, 3, 4, 5, 6] (.seq (.seq (.ops [⟨(some 38), none, .mv (.tmp 6)⟩,
    ⟨(some 39), none, .ix (.tmp 38) (.const (.int .i64 0))⟩,
    ⟨(some 40), none, .bin .lss (.tmp 39) (.const (.int .u8 128))⟩])
  (.cond (.tmp 40) (.exit 0) (.skip)))
  (.ops [⟨(some 41), none, .mv (.tmp 5)⟩,
    ⟨(some 42), none, .bin .mul (.tmp 41) (.const (.int .i64 128))⟩,
    ⟨(some 5), none, .mv (.tmp 42)⟩]))))))))
def c_pimpl_source_num : AS :=
  .seq (.ops [⟨(some 2), none, .mv (.const (.int .i64 0))⟩])
  (.seq (.ops [⟨(some 7), none, .mv (.tmp 0)⟩,
    ⟨(some 8), none, .nc (.tmp 7)⟩,
    ⟨(some 9), none, .fa 1 (.tmp 8)⟩,
    ⟨(some 10), none, .load none (.tmp 9)⟩,
    ⟨(some 3), none, .mv (.tmp 10)⟩])
  (.seq (.ops [⟨(some 4), none, .mv (.const (.int .i64 0))⟩,
    ⟨(some 5), none, .mv (.const (.int .i64 1))⟩])
  (.seq (.block 0 (.loop 1 [(0, 0), (3, 0), (4, 0), (5, 0)] c_pimpl_source_num_l1))
  (.kept [0, 3, 4] (.seq (.seq (.rops [(none, ⟨(some 43), none, .mv (.tmp 4)⟩),
    (none, ⟨(some 45), none, .mv (.tmp 0)⟩),
    (none, ⟨(some 46), none, .nc (.tmp 45)⟩),
    (none, ⟨(some 47), none, .fa 0 (.tmp 46)⟩),
    (none, ⟨(some 48), none, .load none (.tmp 47)⟩),
    (none, ⟨(some 49), none, .mv (.tmp 3)⟩),
    (none, ⟨(some 50), none, .mv (.tmp 0)⟩),
    (none, ⟨(some 51), none, .nc (.tmp 50)⟩),
    (none, ⟨(some 52), none, .fa 1 (.tmp 51)⟩),
    (none, ⟨(some 53), none, .load none (.tmp 52)⟩),
    (none, ⟨(some 54), none, .slt (.tmp 48) (some (.tmp 49)) (some (.tmp 53))⟩),
    (some [⟨(some 54), none, .slt (.tmp 48) (some (.tmp 49)) (some (.tmp 53))⟩, ⟨(some 53), none, .load none (.tmp 52)⟩, ⟨(some 52), none, .fa 1 (.tmp 51)⟩, ⟨(some 51), none, .nc (.tmp 50)⟩, ⟨(some 50), none, .mv (.tmp 0)⟩, ⟨(some 49), none, .mv (.tmp 3)⟩, ⟨(some 48), none, .load none (.tmp 47)⟩, ⟨(some 47), none, .fa 0 (.tmp 46)⟩, ⟨(some 46), none, .nc (.tmp 45)⟩, ⟨(some 45), none, .mv (.tmp 0)⟩], ⟨(some 44), none, .call 39 [(.tmp 43)]⟩),
    (none, ⟨(some 55), none, .bin .neq (.tmp 44) (.tmp 54)⟩)])
  (.kept [0, 4, 55] (.cond (.tmp 55) (.seq (.ops [⟨(some 56), none, .mv (.tmp 0)⟩,
    ⟨(some 57), none, .call 43 [(.tmp 56)]⟩])
  (.seq (.ops [⟨(some 2), none, .mv (.const (.int .i64 0))⟩])
  (.ret))) (.skip))))
  (.kept [4] (.seq (.ops [⟨(some 58), none, .mv (.tmp 4)⟩,
    ⟨(some 2), none, .mv (.tmp 58)⟩])
  (.ret))))))))
theorem h_pimpl_source_num : (Try.prog.funcs[n_pimpl_source_num]?).bind (fun fn => fn.body.bind (comp Try.prog fn.ntmps)) = some (AS.strip c_pimpl_source_num) := by kernel_rfl
theorem r_pimpl_source_num : (Try.prog.funcs[n_pimpl_source_num]?).map (fun fn => (fn.results.toList, fn.ntmps)) = some ([.tmp 2], 59) := by kernel_rfl
-- 42 (*loop.example/g00850/impl.source).take
abbrev n_pimpl_source_take : Nat := 42
def c_pimpl_source_take : AS :=
  .seq (.ops [⟨(some 4), none, .mv (.const (.string ⟨⟨[]⟩⟩))⟩])
  (.seq (.seq (.dops [⟨(some 5), none, .mv (.tmp 0)⟩,
    ⟨(some 6), none, .nc (.tmp 5)⟩,
    ⟨(some 7), none, .fa 2 (.tmp 6)⟩,
    ⟨(some 8), none, .load none (.tmp 7)⟩,
    ⟨(some 9), none, .mv (.tmp 8)⟩,
    ⟨(some 10), some (9, false), .mv (.tmp 1)⟩,
    ⟨(some 11), some (9, false), .mv (.tmp 0)⟩,
    ⟨(some 12), some (9, false), .nc (.tmp 11)⟩,
    ⟨(some 13), some (9, false), .fa 0 (.tmp 12)⟩,
    ⟨(some 14), some (9, false), .load none (.tmp 13)⟩,
    ⟨(some 15), some (9, false), .lent (.tmp 14)⟩,
    ⟨(some 16), some (9, false), .mv (.tmp 0)⟩,
    ⟨(some 17), some (9, false), .nc (.tmp 16)⟩,
    ⟨(some 18), some (9, false), .fa 1 (.tmp 17)⟩,
    ⟨(some 19), some (9, false), .load none (.tmp 18)⟩,
    ⟨(some 20), some (9, false), .bin .sub (.tmp 15) (.tmp 19)⟩,
    ⟨(some 21), some (9, false), .bin .gtr (.tmp 10) (.tmp 20)⟩,
    ⟨(some 22), none, .pick (.tmp 9) (.const (.bool true)) (.tmp 21)⟩])
  (.kept [0, 1, 22] (.cond (.tmp 22) (.seq (.ops [⟨(some 23), none, .mv (.tmp 0)⟩,
    ⟨(some 24), none, .call 43 [(.tmp 23)]⟩])
  (.seq (.ops [⟨(some 4), none, .mv (.const (.string ⟨⟨[]⟩⟩))⟩])
  (.ret))) (.skip))))
  (.kept [0, 1] (.seq (.ops [⟨(some 25), none, .mv (.tmp 0)⟩,
    ⟨(some 26), none, .nc (.tmp 25)⟩,
    ⟨(some 27), none, .fa 1 (.tmp 26)⟩,
    ⟨(some 28), none, .load none (.tmp 27)⟩,
    ⟨(some 29), none, .mv (.tmp 1)⟩,
    ⟨(some 30), none, .bin .add (.tmp 28) (.tmp 29)⟩,
    ⟨(some 31), none, .nc (.tmp 25)⟩,
    ⟨(some 32), none, .fa 1 (.tmp 31)⟩,
    ⟨none, none, .store 1 (.tmp 32) (.tmp 30)⟩])
  (.kept [0, 1] (.seq (.dops [⟨(some 33), none, .mv (.tmp 0)⟩,
    ⟨(some 34), none, .nc (.tmp 33)⟩,
    ⟨(some 35), none, .fa 0 (.tmp 34)⟩,
    ⟨(some 36), none, .load none (.tmp 35)⟩,
    ⟨(some 37), none, .mv (.tmp 0)⟩,
    ⟨(some 38), none, .nc (.tmp 37)⟩,
    ⟨(some 39), none, .fa 1 (.tmp 38)⟩,
    ⟨(some 40), none, .load none (.tmp 39)⟩,
    ⟨(some 41), none, .mv (.tmp 1)⟩,
    ⟨(some 42), none, .bin .sub (.tmp 40) (.tmp 41)⟩,
    ⟨(some 43), none, .mv (.tmp 0)⟩,
    ⟨(some 44), none, .nc (.tmp 43)⟩,
    ⟨(some 45), none, .fa 1 (.tmp 44)⟩,
    ⟨(some 46), none, .load none (.tmp 45)⟩,
    ⟨(some 47), none, .slt (.tmp 36) (some (.tmp 42)) (some (.tmp 46))⟩,
    ⟨(some 4), none, .mv (.tmp 47)⟩])
  (.ret))))))
theorem h_pimpl_source_take : (Try.prog.funcs[n_pimpl_source_take]?).bind (fun fn => fn.body.bind (comp Try.prog fn.ntmps)) = some (AS.strip c_pimpl_source_take) := by kernel_rfl
theorem r_pimpl_source_take : (Try.prog.funcs[n_pimpl_source_take]?).map (fun fn => (fn.results.toList, fn.ntmps)) = some ([.tmp 4], 48) := by kernel_rfl
-- 43 (*loop.example/g00850/impl.source).fail
abbrev n_pimpl_source_fail : Nat := 43
def c_pimpl_source_fail : AS :=
  .ops [⟨(some 2), none, .mv (.tmp 0)⟩,
    ⟨(some 3), none, .nc (.tmp 2)⟩,
    ⟨(some 4), none, .fa 2 (.tmp 3)⟩,
    ⟨none, none, .store 1 (.tmp 4) (.const (.bool true))⟩]
theorem h_pimpl_source_fail : (Try.prog.funcs[n_pimpl_source_fail]?).bind (fun fn => fn.body.bind (comp Try.prog fn.ntmps)) = some (AS.strip c_pimpl_source_fail) := by kernel_rfl
theorem r_pimpl_source_fail : (Try.prog.funcs[n_pimpl_source_fail]?).map (fun fn => (fn.results.toList, fn.ntmps)) = some ([], 5) := by kernel_rfl

end Go.Proofs.Wb

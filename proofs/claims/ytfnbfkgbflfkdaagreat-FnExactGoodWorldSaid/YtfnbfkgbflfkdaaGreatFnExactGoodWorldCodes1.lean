/- The compiled statements of the functions that the law reaches. -/
import Derived.Test.YtfnbfkgbflfkdaaGreatProg
import Derived.Test.YtfnbfkgbflfkdaaGreatAmAuto
import Derived.Test.YtfnbfkgbflfkdaaGreatFnExactGoodWorldCodes
namespace Go.Proofs.Wb
open Go Go.Am Go.Am.K
-- 120 loop.example/g00850/spec.l3Bytes
abbrev n_spec_l3Bytes : Nat := 120
def c_spec_l3Bytes_l1 : AS :=
 .seq (.seq (.ops [m 36 7,
 m 37 1,
 o 38 (.lent (t 37)),
 o 39 (.bin .lss (t 36) (t 38))])
 (.cond (t 39) (.skip) (.exit 2)))
 (.seq (.block 3 (.dops [m 42 6,
 m 43 42,
 mg 44 43 false 0,
 mg 45 43 false 5,
 g 46 43 false (.ix (t 44) (t 45)),
 mg 47 43 false 1,
 mg 48 43 false 7,
 g 49 43 false (.ix (t 47) (t 48)),
 g 50 43 false (.bin .eql (t 46) (t 49)),
 o 51 (.pick (t 43) tt (t 50)),
 m 6 51]))
 (.kept [0, 1, 5, 6, 7] (.ops [m 40 7,
 o 41 (.bin .add (t 40) (k 1)),
 m 7 41])))
def c_spec_l3Bytes_l2 : AS :=
 .seq (.seq (.ops [m 8 5,
 m 9 0,
 o 10 (.lent (t 9)),
 o 11 (.bin .lss (t 8) (t 10))])
 (.cond (t 11) (.skip) (.exit 0)))
 (.seq (.block 1 (.seq (.ops [m 14 0,
 m 15 5,
 o 16 (.ix (t 14) (t 15)),
 o 17 (.bin .geq (t 16) (.const (.int .u8 97))),
 m 18 17,
 mg 19 18 true 0,
 mg 20 18 true 5,
 g 21 18 true (.ix (t 19) (t 20)),
 g 22 18 true (.bin .leq (t 21) (.const (.int .u8 122))),
 o 23 (.pick (t 18) (t 22) ff),
 m 24 23,
 mg 25 24 false 0,
 mg 26 24 false 5,
 g 27 24 false (.ix (t 25) (t 26)),
 g 28 24 false (.bin .geq (t 27) (.const (.int .u8 48))),
 mg 29 24 false 28,
 mg 30 29 true 0,
 mg 31 29 true 5,
 g 32 29 true (.ix (t 30) (t 31)),
 g 33 29 true (.bin .leq (t 32) (.const (.int .u8 57))),
 g 34 24 false (.pick (t 29) (t 33) ff),
 o 35 (.pick (t 24) tt (t 34)),
 m 6 35])
 (.kept [0, 1, 5, 6] (.seq (.seq (.ops [o 7 (.mv (k 0))])
 (.block 2 (.loop 2 [(0, 0), (1, 0), (5, 0), (6, 0), (7, 0)] c_spec_l3Bytes_l1)))
 (.kept [0, 1, 5, 6] (.seq (.ops [m 52 6,
 o 53 (.not (t 52))])
 (.cond (t 53) (.seq (.ops [o 4 (.mv ff)])
 (.ret)) (.skip))))))))
 (.kept [0, 1, 5] (.ops [m 12 5,
 o 13 (.bin .add (t 12) (k 1)),
 m 5 13])))
def c_spec_l3Bytes : AS :=
 .seq (.ops [o 4 (.mv ff)])
 (.seq (.seq (.ops [o 5 (.mv (k 0))])
 (.block 0 (.loop 2 [(0, 0), (1, 0), (5, 0)] c_spec_l3Bytes_l2)))
 (.kept [] (.seq (.ops [o 4 (.mv tt)])
 (.ret))))
theorem h_spec_l3Bytes : hF Tryz.prog n_spec_l3Bytes = some c_spec_l3Bytes.strip := by kernel_rfl
theorem r_spec_l3Bytes : rF Tryz.prog n_spec_l3Bytes = some ([.tmp 4], 54) := by kernel_rfl
-- 121 loop.example/g00850/spec.GoodRec
abbrev n_spec_GoodRec : Nat := 121
def c_spec_GoodRec : AS :=
 .seq (.ops [o 1 (.box (t 0)),
 o 2 (.mv ff)])
 (.seq (.ops [o 3 (.load (some 7) (t 1)),
 o 4 (.call 139 [(t 3)]),
 m 2 4])
 (.ret))
theorem h_spec_GoodRec : hF Tryz.prog n_spec_GoodRec = some c_spec_GoodRec.strip := by kernel_rfl
theorem r_spec_GoodRec : rF Tryz.prog n_spec_GoodRec = some ([.tmp 2], 5) := by kernel_rfl
-- 122 loop.example/g00850/spec.l5Op
abbrev n_spec_l5Op : Nat := 122
def c_spec_l5Op : AS :=
 .seq (.ops [o 1 (.box (t 0)),
 o 2 (.mv ff)])
 (.seq (.seq (.ops [o 3 (.fa 1 (t 1)),
 o 4 (.load none (t 3)),
 o 5 (.call 92 [(t 4)]),
 o 6 (.not (t 5))])
 (.cond (t 6) (.seq (.ops [o 2 (.mv ff)])
 (.ret)) (.skip)))
 (.seq (.seq (.ops [o 7 (.fa 0 (t 1)),
 o 8 (.load none (t 7))])
 (.block 0 (.seq (.seq (.ops [o 10 (.bin .eql (t 8) (k 2)),
 m 9 10])
 (.cond (t 9) (.skip) (.ops [o 11 (.bin .eql (t 8) (k 7)),
 m 9 11])))
 (.cond (t 9) (.seq (.ops [o 12 (.fa 2 (t 1)),
 o 13 (.load none (t 12)),
 o 14 (.call 123 [(t 13)]),
 m 15 14,
 g 16 15 true (.fa 3 (t 1)),
 g 17 15 true (.load none (t 16)),
 g 18 15 true (.bin .eql (t 17) (k 0)),
 o 19 (.pick (t 15) (t 18) ff),
 m 2 19])
 (.ret)) (.seq (.seq (.ops [o 21 (.bin .eql (t 8) (k 4)),
 m 20 21])
 (.cond (t 20) (.skip) (.ops [o 22 (.bin .eql (t 8) (k 5)),
 m 20 22])))
 (.cond (t 20) (.seq (.ops [o 23 (.fa 2 (t 1)),
 o 24 (.load none (t 23)),
 o 25 (.bin .eql (t 24) (.const (.string ⟨⟨[]⟩⟩))),
 m 26 25,
 g 27 26 true (.fa 3 (t 1)),
 g 28 26 true (.load none (t 27)),
 g 29 26 true (.call 57 [(t 28), (k (-9999)), (k 9999)]),
 o 30 (.pick (t 26) (t 29) ff),
 m 2 30])
 (.ret)) (.skip)))))))
 (.kept [1] (.seq (.ops [o 31 (.fa 0 (t 1)),
 o 32 (.load none (t 31)),
 o 33 (.bin .eql (t 32) (k 1)),
 m 34 33,
 g 35 34 false (.fa 0 (t 1)),
 g 36 34 false (.load none (t 35)),
 g 37 34 false (.bin .eql (t 36) (k 3)),
 o 38 (.pick (t 34) tt (t 37)),
 m 39 38,
 g 40 39 false (.fa 0 (t 1)),
 g 41 39 false (.load none (t 40)),
 g 42 39 false (.bin .eql (t 41) (k 6)),
 o 43 (.pick (t 39) tt (t 42)),
 m 44 43,
 g 45 44 true (.fa 2 (t 1)),
 g 46 44 true (.load none (t 45)),
 g 47 44 true (.bin .eql (t 46) (.const (.string ⟨⟨[]⟩⟩))),
 o 48 (.pick (t 44) (t 47) ff),
 m 49 48,
 g 50 49 true (.fa 3 (t 1)),
 g 51 49 true (.load none (t 50)),
 g 52 49 true (.bin .eql (t 51) (k 0)),
 o 53 (.pick (t 49) (t 52) ff),
 m 2 53])
 (.ret)))))
theorem h_spec_l5Op : hF Tryz.prog n_spec_l5Op = some c_spec_l5Op.strip := by kernel_rfl
theorem r_spec_l5Op : rF Tryz.prog n_spec_l5Op = some ([.tmp 2], 54) := by kernel_rfl
-- 123 loop.example/g00850/spec.l3Val
abbrev n_spec_l3Val : Nat := 123
def c_spec_l3Val : AS :=
 .seq (.ops [o 2 (.mv ff)])
 (.seq (.ops [m 3 0,
 o 4 (.lent (t 3)),
 o 5 (.bin .leq (t 4) (k 24)),
 m 6 5,
 mg 7 6 true 0,
 g 8 6 true (.call 120 [(t 7), (.const (.string ⟨⟨[46, 45, 44, 95]⟩⟩))]),
 o 9 (.pick (t 6) (t 8) ff),
 m 2 9])
 (.ret))
theorem h_spec_l3Val : hF Tryz.prog n_spec_l3Val = some c_spec_l3Val.strip := by kernel_rfl
theorem r_spec_l3Val : rF Tryz.prog n_spec_l3Val = some ([.tmp 2], 10) := by kernel_rfl
-- 124 loop.example/g00850/laws.toReplica
abbrev n_laws_toReplica : Nat := 124
def c_laws_toReplica : AS :=
 .seq (.ops [o 1 (.box (t 0)),
 o 2 (.alloc (.agg #[.bool false, .slice none 0 0, .int .i64 0]))])
 (.seq (.ops [o 3 (.alloc (.agg #[.bool false, .slice none 0 0, .int .i64 0]))])
 (.seq (.ops [o 4 (.fa 0 (t 1)),
 o 5 (.load none (t 4)),
 o 6 (.fa 0 (t 3)),
 u (.store 1 (t 6) (t 5))])
 (.seq (.ops [o 7 (.fa 1 (t 1)),
 o 8 (.load none (t 7)),
 o 9 (.call 140 [(t 8)]),
 o 10 (.fa 1 (t 3)),
 u (.store 1 (t 10) (t 9))])
 (.seq (.ops [o 11 (.fa 2 (t 1)),
 o 12 (.load none (t 11)),
 o 13 (.fa 2 (t 3)),
 u (.store 1 (t 13) (t 12))])
 (.seq (.ops [o 14 (.load (some 3) (t 3)),
 u (.store 3 (t 2) (t 14))])
 (.ret))))))
theorem h_laws_toReplica : hF Tryz.prog n_laws_toReplica = some c_laws_toReplica.strip := by kernel_rfl
theorem r_laws_toReplica : rF Tryz.prog n_laws_toReplica = some ([.cell 2 112], 15) := by kernel_rfl
-- 125 loop.example/g00850/laws.toOp
abbrev n_laws_toOp : Nat := 125
def c_laws_toOp : AS :=
 .seq (.ops [o 1 (.box (t 0)),
 o 2 (.alloc (.agg #[.int .i64 0, .string ⟨⟨[]⟩⟩, .string ⟨⟨[]⟩⟩, .int .i64 0]))])
 (.seq (.ops [o 3 (.alloc (.agg #[.int .i64 0, .string ⟨⟨[]⟩⟩, .string ⟨⟨[]⟩⟩, .int .i64 0]))])
 (.seq (.ops [o 4 (.fa 0 (t 1)),
 o 5 (.load none (t 4)),
 o 6 (.fa 0 (t 3)),
 u (.store 1 (t 6) (t 5))])
 (.seq (.ops [o 7 (.fa 1 (t 1)),
 o 8 (.load none (t 7)),
 o 9 (.fa 1 (t 3)),
 u (.store 1 (t 9) (t 8))])
 (.seq (.ops [o 10 (.fa 2 (t 1)),
 o 11 (.load none (t 10)),
 o 12 (.fa 2 (t 3)),
 u (.store 1 (t 12) (t 11))])
 (.seq (.ops [o 13 (.fa 3 (t 1)),
 o 14 (.load none (t 13)),
 o 15 (.fa 3 (t 3)),
 u (.store 1 (t 15) (t 14))])
 (.seq (.ops [o 16 (.load (some 4) (t 3)),
 u (.store 4 (t 2) (t 16))])
 (.ret)))))))
theorem h_laws_toOp : hF Tryz.prog n_laws_toOp = some c_laws_toOp.strip := by kernel_rfl
theorem r_laws_toOp : rF Tryz.prog n_laws_toOp = some ([.cell 2 170], 17) := by kernel_rfl
-- 126 loop.example/g00850/laws.toGot
abbrev n_laws_toGot : Nat := 126
def c_laws_toGot : AS :=
 .seq (.ops [o 1 (.box (t 0)),
 o 2 (.alloc (.agg #[.string ⟨⟨[]⟩⟩, .string ⟨⟨[]⟩⟩, .bool false]))])
 (.seq (.ops [o 3 (.alloc (.agg #[.string ⟨⟨[]⟩⟩, .string ⟨⟨[]⟩⟩, .bool false]))])
 (.seq (.ops [o 4 (.fa 0 (t 1)),
 o 5 (.load none (t 4)),
 o 6 (.fa 0 (t 3)),
 u (.store 1 (t 6) (t 5))])
 (.seq (.ops [o 7 (.fa 1 (t 1)),
 o 8 (.load none (t 7)),
 o 9 (.fa 1 (t 3)),
 u (.store 1 (t 9) (t 8))])
 (.seq (.ops [o 10 (.fa 2 (t 1)),
 o 11 (.load none (t 10)),
 o 12 (.fa 2 (t 3)),
 u (.store 1 (t 12) (t 11))])
 (.seq (.ops [o 13 (.load (some 3) (t 3)),
 u (.store 3 (t 2) (t 13))])
 (.ret))))))
theorem h_laws_toGot : hF Tryz.prog n_laws_toGot = some c_laws_toGot.strip := by kernel_rfl
theorem r_laws_toGot : rF Tryz.prog n_laws_toGot = some ([.cell 2 128], 14) := by kernel_rfl
-- 127 loop.example/g00850/impl.hasBytes
abbrev n_impl_hasBytes : Nat := 127
def c_impl_hasBytes_l1 : AS :=
 .seq (.ops [o 9 (.bin .lss (t 8) (t 7))])
 (.seq (.cond (t 9) (.skip) (.exit 0))
 (.seq (.block 1 (.seq (.ops [m 10 8,
 m 5 10])
 (.seq (.ops [m 11 0,
 m 12 5,
 o 13 (.ix (t 11) (t 12)),
 o 14 (.call 141 [(t 13)]),
 o 15 (.not (t 14)),
 m 16 15,
 mg 17 16 true 1,
 mg 18 16 true 0,
 mg 19 16 true 5,
 g 20 16 true (.ix (t 18) (t 19)),
 g 21 16 true (.call 142 [(t 17), (t 20)]),
 g 22 16 true (.bin .lss (t 21) (k 0)),
 o 23 (.pick (t 16) (t 22) ff)])
 (.kept [0, 1, 7, 8, 23] (.cond (t 23) (.seq (.ops [o 4 (.mv ff)])
 (.ret)) (.skip))))))
 (.kept [0, 1, 7, 8] (.ops [o 24 (.bin .add (t 8) (k 1)),
 m 8 24]))))
def c_impl_hasBytes : AS :=
 .seq (.ops [o 4 (.mv ff)])
 (.seq (.seq (.ops [m 6 0,
 o 7 (.lent (t 6)),
 o 8 (.mv (k 0))])
 (.block 0 (.loop 2 [(0, 0), (1, 0), (7, 0), (8, 0)] c_impl_hasBytes_l1)))
 (.kept [] (.seq (.ops [o 4 (.mv tt)])
 (.ret))))
theorem h_impl_hasBytes : hF Tryz.prog n_impl_hasBytes = some c_impl_hasBytes.strip := by kernel_rfl
theorem r_impl_hasBytes : rF Tryz.prog n_impl_hasBytes = some ([.tmp 4], 25) := by kernel_rfl
-- 128 loop.example/g00850/impl.isTime
abbrev n_impl_isTime : Nat := 128
def c_impl_isTime : AS :=
 .seq (.ops [o 2 (.mv ff)])
 (.seq (.ops [m 3 0,
 o 4 (.call 28 [(t 3), (k 1), (k 100000)]),
 m 2 4])
 (.ret))
theorem h_impl_isTime : hF Tryz.prog n_impl_isTime = some c_impl_isTime.strip := by kernel_rfl
theorem r_impl_isTime : rF Tryz.prog n_impl_isTime = some ([.tmp 2], 5) := by kernel_rfl
-- 129 loop.example/g00850/impl.GoodWrites
abbrev n_impl_GoodWrites : Nat := 129
def c_impl_GoodWrites : AS :=
 .seq (.ops [o 2 (.mv ff)])
 (.seq (.ops [m 3 0,
 o 4 (.lens (t 3)),
 o 5 (.bin .leq (t 4) (k 24)),
 m 6 5,
 mg 7 6 true 0,
 g 8 6 true (.call 143 [(t 7)]),
 g 9 6 true (.call 63 [(t 8)]),
 o 10 (.pick (t 6) (t 9) ff),
 m 11 10,
 mg 12 11 true 0,
 g 13 11 true (.call 144 [(t 12), (.func 145)]),
 g 14 11 true (.not (t 13)),
 o 15 (.pick (t 11) (t 14) ff),
 m 2 15])
 (.ret))
theorem h_impl_GoodWrites : hF Tryz.prog n_impl_GoodWrites = some c_impl_GoodWrites.strip := by kernel_rfl
theorem r_impl_GoodWrites : rF Tryz.prog n_impl_GoodWrites = some ([.tmp 2], 16) := by kernel_rfl
-- 130 slices.ContainsFunc[[]loop.example/g00850/impl.Op,loop.example/g00850/impl.Op]
abbrev n_slices_ContainsFunc___impl_Op_impl_Op_ : Nat := 130
def c_slices_ContainsFunc___impl_Op_impl_Op_ : AS :=
 .seq (.ops [o 4 (.mv ff)])
 (.seq (.ops [m 5 0,
 m 6 1,
 o 7 (.call 146 [(t 5), (t 6)]),
 o 8 (.bin .geq (t 7) (k 0)),
 m 4 8])
 (.ret))
theorem h_slices_ContainsFunc___impl_Op_impl_Op_ : hF Tryz.prog n_slices_ContainsFunc___impl_Op_impl_Op_ = some c_slices_ContainsFunc___impl_Op_impl_Op_.strip := by kernel_rfl
theorem r_slices_ContainsFunc___impl_Op_impl_Op_ : rF Tryz.prog n_slices_ContainsFunc___impl_Op_impl_Op_ = some ([.tmp 4], 9) := by kernel_rfl
-- 131 loop.example/g00850/impl.GoodOps$1
abbrev n_impl_GoodOps_1 : Nat := 131
def c_impl_GoodOps_1 : AS :=
 .seq (.ops [o 1 (.box (t 0)),
 o 2 (.mv ff)])
 (.seq (.ops [o 3 (.load (some 4) (t 1)),
 o 4 (.call 132 [(t 3)]),
 o 5 (.not (t 4)),
 m 2 5])
 (.ret))
theorem h_impl_GoodOps_1 : hF Tryz.prog n_impl_GoodOps_1 = some c_impl_GoodOps_1.strip := by kernel_rfl
theorem r_impl_GoodOps_1 : rF Tryz.prog n_impl_GoodOps_1 = some ([.tmp 2], 6) := by kernel_rfl
-- 132 loop.example/g00850/impl.isOp
abbrev n_impl_isOp : Nat := 132
def c_impl_isOp : AS :=
 .seq (.ops [o 1 (.box (t 0)),
 o 2 (.mv ff)])
 (.seq (.ops [o 3 (.fa 0 (t 1)),
 o 4 (.load none (t 3)),
 o 5 (.call 28 [(t 4), (k 1), (k 7)]),
 m 6 5,
 g 7 6 true (.fa 1 (t 1)),
 g 8 6 true (.load none (t 7)),
 g 9 6 true (.call 103 [(t 8)]),
 o 10 (.pick (t 6) (t 9) ff),
 m 11 10,
 g 12 11 true (.fa 2 (t 1)),
 g 13 11 true (.load none (t 12)),
 g 14 11 true (.call 133 [(t 13)]),
 o 15 (.pick (t 11) (t 14) ff),
 m 16 15,
 g 17 16 true (.fa 0 (t 1)),
 g 18 16 true (.load none (t 17)),
 g 19 16 true (.call 147 [(t 18)]),
 mg 20 16 true 19,
 g 21 20 false (.fa 2 (t 1)),
 g 22 20 false (.load none (t 21)),
 g 23 20 false (.bin .eql (t 22) (.const (.string ⟨⟨[]⟩⟩))),
 g 24 16 true (.pick (t 20) tt (t 23)),
 o 25 (.pick (t 16) (t 24) ff),
 m 26 25,
 g 27 26 true (.fa 3 (t 1)),
 g 28 26 true (.load none (t 27)),
 g 29 26 true (.call 28 [(t 28), (k (-9999)), (k 9999)]),
 o 30 (.pick (t 26) (t 29) ff),
 m 31 30,
 g 32 31 true (.fa 0 (t 1)),
 g 33 31 true (.load none (t 32)),
 g 34 31 true (.call 148 [(t 33)]),
 mg 35 31 true 34,
 g 36 35 false (.fa 3 (t 1)),
 g 37 35 false (.load none (t 36)),
 g 38 35 false (.bin .eql (t 37) (k 0)),
 g 39 31 true (.pick (t 35) tt (t 38)),
 o 40 (.pick (t 31) (t 39) ff),
 m 2 40])
 (.ret))
theorem h_impl_isOp : hF Tryz.prog n_impl_isOp = some c_impl_isOp.strip := by kernel_rfl
theorem r_impl_isOp : rF Tryz.prog n_impl_isOp = some ([.tmp 2], 41) := by kernel_rfl
-- 133 loop.example/g00850/impl.GoodVal
abbrev n_impl_GoodVal : Nat := 133
def c_impl_GoodVal : AS :=
 .seq (.ops [o 2 (.mv ff)])
 (.seq (.ops [m 3 0,
 o 4 (.lent (t 3)),
 o 5 (.bin .leq (t 4) (k 24)),
 m 6 5,
 mg 7 6 true 0,
 g 8 6 true (.call 127 [(t 7), (.const (.string ⟨⟨[46, 45, 44, 95]⟩⟩))]),
 o 9 (.pick (t 6) (t 8) ff),
 m 2 9])
 (.ret))
theorem h_impl_GoodVal : hF Tryz.prog n_impl_GoodVal = some c_impl_GoodVal.strip := by kernel_rfl
theorem r_impl_GoodVal : rF Tryz.prog n_impl_GoodVal = some ([.tmp 2], 10) := by kernel_rfl
-- 134 slices.IndexFunc[[]loop.example/g00850/impl.Got,loop.example/g00850/impl.Got]
abbrev n_slices_IndexFunc___impl_Got_impl_Got_ : Nat := 134
def c_slices_IndexFunc___impl_Got_impl_Got__l1 : AS :=
 .seq (.ops [o 9 (.bin .lss (t 8) (t 7))])
 (.seq (.cond (t 9) (.skip) (.exit 0))
 (.seq (.block 1 (.seq (.ops [m 10 8,
 m 5 10])
 (.seq (.ops [m 11 1,
 m 12 0,
 m 13 5,
 o 14 (.ia 3 (t 12) (t 13)),
 o 15 (.load (some 3) (t 14)),
 o 16 (.callv (t 11) [(t 15)])])
 (.cond (t 16) (.seq (.ops [m 17 5,
 m 4 17])
 (.ret)) (.skip)))))
 (.kept [0, 1, 7, 8] (.ops [o 18 (.bin .add (t 8) (k 1)),
 m 8 18]))))
def c_slices_IndexFunc___impl_Got_impl_Got_ : AS :=
 .seq (.ops [o 4 (.mv (k 0))])
 (.seq (.seq (.ops [m 6 0,
 o 7 (.lens (t 6)),
 o 8 (.mv (k 0))])
 (.block 0 (.loop 2 [(0, 0), (1, 0), (7, 0), (8, 0)] c_slices_IndexFunc___impl_Got_impl_Got__l1)))
 (.kept [] (.seq (.ops [o 4 (.mv (k (-1)))])
 (.ret))))
theorem h_slices_IndexFunc___impl_Got_impl_Got_ : hF Tryz.prog n_slices_IndexFunc___impl_Got_impl_Got_ = some c_slices_IndexFunc___impl_Got_impl_Got_.strip := by kernel_rfl
theorem r_slices_IndexFunc___impl_Got_impl_Got_ : rF Tryz.prog n_slices_IndexFunc___impl_Got_impl_Got_ = some ([.tmp 4], 19) := by kernel_rfl
-- 135 loop.example/g00850/laws.eqReplica
abbrev n_laws_eqReplica : Nat := 135
def c_laws_eqReplica : AS :=
 .seq (.ops [o 2 (.box (t 0)),
 o 3 (.box (t 1)),
 o 4 (.mv ff)])
 (.seq (.seq (.ops [o 5 (.fa 0 (t 2)),
 o 6 (.load none (t 5)),
 o 7 (.fa 0 (t 3)),
 o 8 (.load none (t 7)),
 o 9 (.eqb true (t 6) (t 8))])
 (.cond (t 9) (.seq (.ops [o 4 (.mv ff)])
 (.ret)) (.skip)))
 (.kept [2, 3] (.seq (.seq (.ops [o 10 (.fa 1 (t 2)),
 o 11 (.load none (t 10)),
 o 12 (.fa 1 (t 3)),
 o 13 (.load none (t 12)),
 o 14 (.call 149 [(t 11), (t 13)]),
 o 15 (.not (t 14))])
 (.cond (t 15) (.seq (.ops [o 4 (.mv ff)])
 (.ret)) (.skip)))
 (.kept [2, 3] (.seq (.seq (.ops [o 16 (.fa 2 (t 2)),
 o 17 (.load none (t 16)),
 o 18 (.fa 2 (t 3)),
 o 19 (.load none (t 18)),
 o 20 (.bin .neq (t 17) (t 19))])
 (.cond (t 20) (.seq (.ops [o 4 (.mv ff)])
 (.ret)) (.skip)))
 (.kept [] (.seq (.ops [o 4 (.mv tt)])
 (.ret))))))))
theorem h_laws_eqReplica : hF Tryz.prog n_laws_eqReplica = some c_laws_eqReplica.strip := by kernel_rfl
theorem r_laws_eqReplica : rF Tryz.prog n_laws_eqReplica = some ([.tmp 4], 21) := by kernel_rfl
-- 136 loop.example/g00850/laws.eqOp
abbrev n_laws_eqOp : Nat := 136
def c_laws_eqOp : AS :=
 .seq (.ops [o 2 (.box (t 0)),
 o 3 (.box (t 1)),
 o 4 (.mv ff)])
 (.seq (.seq (.ops [o 5 (.fa 0 (t 2)),
 o 6 (.load none (t 5)),
 o 7 (.fa 0 (t 3)),
 o 8 (.load none (t 7)),
 o 9 (.bin .neq (t 6) (t 8))])
 (.cond (t 9) (.seq (.ops [o 4 (.mv ff)])
 (.ret)) (.skip)))
 (.kept [2, 3] (.seq (.seq (.ops [o 10 (.fa 1 (t 2)),
 o 11 (.load none (t 10)),
 o 12 (.fa 1 (t 3)),
 o 13 (.load none (t 12)),
 o 14 (.bin .neq (t 11) (t 13))])
 (.cond (t 14) (.seq (.ops [o 4 (.mv ff)])
 (.ret)) (.skip)))
 (.kept [2, 3] (.seq (.seq (.ops [o 15 (.fa 2 (t 2)),
 o 16 (.load none (t 15)),
 o 17 (.fa 2 (t 3)),
 o 18 (.load none (t 17)),
 o 19 (.bin .neq (t 16) (t 18))])
 (.cond (t 19) (.seq (.ops [o 4 (.mv ff)])
 (.ret)) (.skip)))
 (.kept [2, 3] (.seq (.seq (.ops [o 20 (.fa 3 (t 2)),
 o 21 (.load none (t 20)),
 o 22 (.fa 3 (t 3)),
 o 23 (.load none (t 22)),
 o 24 (.bin .neq (t 21) (t 23))])
 (.cond (t 24) (.seq (.ops [o 4 (.mv ff)])
 (.ret)) (.skip)))
 (.kept [] (.seq (.ops [o 4 (.mv tt)])
 (.ret))))))))))
theorem h_laws_eqOp : hF Tryz.prog n_laws_eqOp = some c_laws_eqOp.strip := by kernel_rfl
theorem r_laws_eqOp : rF Tryz.prog n_laws_eqOp = some ([.tmp 4], 25) := by kernel_rfl
-- 137 loop.example/g00850/laws.eqGot
abbrev n_laws_eqGot : Nat := 137
def c_laws_eqGot : AS :=
 .seq (.ops [o 2 (.box (t 0)),
 o 3 (.box (t 1)),
 o 4 (.mv ff)])
 (.seq (.seq (.ops [o 5 (.fa 0 (t 2)),
 o 6 (.load none (t 5)),
 o 7 (.fa 0 (t 3)),
 o 8 (.load none (t 7)),
 o 9 (.bin .neq (t 6) (t 8))])
 (.cond (t 9) (.seq (.ops [o 4 (.mv ff)])
 (.ret)) (.skip)))
 (.kept [2, 3] (.seq (.seq (.ops [o 10 (.fa 1 (t 2)),
 o 11 (.load none (t 10)),
 o 12 (.fa 1 (t 3)),
 o 13 (.load none (t 12)),
 o 14 (.bin .neq (t 11) (t 13))])
 (.cond (t 14) (.seq (.ops [o 4 (.mv ff)])
 (.ret)) (.skip)))
 (.kept [2, 3] (.seq (.seq (.ops [o 15 (.fa 2 (t 2)),
 o 16 (.load none (t 15)),
 o 17 (.fa 2 (t 3)),
 o 18 (.load none (t 17)),
 o 19 (.eqb true (t 16) (t 18))])
 (.cond (t 19) (.seq (.ops [o 4 (.mv ff)])
 (.ret)) (.skip)))
 (.kept [] (.seq (.ops [o 4 (.mv tt)])
 (.ret))))))))
theorem h_laws_eqGot : hF Tryz.prog n_laws_eqGot = some c_laws_eqGot.strip := by kernel_rfl
theorem r_laws_eqGot : rF Tryz.prog n_laws_eqGot = some ([.tmp 4], 20) := by kernel_rfl
-- 138 loop.example/g00850/laws.szEntryS
abbrev n_laws_szEntryS : Nat := 138
def c_laws_szEntryS_l1 : AS :=
 .seq (.seq (.ops [m 12 5,
 m 13 0,
 o 14 (.lens (t 13)),
 o 15 (.bin .lss (t 12) (t 14))])
 (.cond (t 15) (.skip) (.exit 0)))
 (.seq (.block 1 (.seq (.post [(20, 1, [(5, 1), (6, 3)])] (.ops [m 18 0,
 m 19 5,
 o 20 (.ia 8 (t 18) (t 19)),
 o 21 (.load (some 8) (t 20)),
 m 22 1,
 o 23 (.call 150 [(t 21), (t 22)]),
 m 1 23]))
 (.kept [0, 1, 5] (.seq (.ops [m 24 1,
 o 25 (.bin .lss (t 24) (k 0))])
 (.cond (t 25) (.seq (.ops [o 4 (.mv (k (-1)))])
 (.ret)) (.skip))))))
 (.kept [0, 1, 5] (.ops [m 16 5,
 o 17 (.bin .add (t 16) (k 1)),
 m 5 17])))
def c_laws_szEntryS : AS :=
 .seq (.ops [o 4 (.mv (k 0))])
 (.seq (.ops [m 6 1,
 m 7 0,
 o 8 (.lens (t 7)),
 o 9 (.bin .sub (t 6) (t 8)),
 m 1 9])
 (.seq (.seq (.ops [m 10 1,
 o 11 (.bin .lss (t 10) (k 0))])
 (.cond (t 11) (.seq (.ops [o 4 (.mv (k (-1)))])
 (.ret)) (.skip)))
 (.seq (.seq (.ops [o 5 (.mv (k 0))])
 (.block 0 (.loop 2 [(0, 0), (1, 0), (5, 0)] c_laws_szEntryS_l1)))
 (.kept [1] (.seq (.ops [m 26 1,
 m 4 26])
 (.ret))))))
theorem h_laws_szEntryS : hF Tryz.prog n_laws_szEntryS = some c_laws_szEntryS.strip := by kernel_rfl
theorem r_laws_szEntryS : rF Tryz.prog n_laws_szEntryS = some ([.tmp 4], 27) := by kernel_rfl
-- 139 loop.example/g00850/spec.l4Good
abbrev n_spec_l4Good : Nat := 139
def c_spec_l4Good : AS :=
 .seq (.ops [o 1 (.box (t 0)),
 o 2 (.mv ff)])
 (.seq (.seq (.ops [o 3 (.fa 0 (t 1)),
 o 4 (.load none (t 3)),
 o 5 (.bin .neq (t 4) (k 1)),
 m 6 5,
 g 7 6 true (.fa 3 (t 1)),
 g 8 6 true (.load none (t 7)),
 g 9 6 true (.bin .neq (t 8) (k 0)),
 mg 10 6 true 9,
 g 11 10 false (.fa 4 (t 1)),
 g 12 10 false (.load none (t 11)),
 g 13 10 false (.lens (t 12)),
 g 14 10 false (.fa 5 (t 1)),
 g 15 10 false (.load none (t 14)),
 g 16 10 false (.lens (t 15)),
 g 17 10 false (.bin .add (t 13) (t 16)),
 g 18 10 false (.bin .gtr (t 17) (k 0)),
 g 19 6 true (.pick (t 10) tt (t 18)),
 o 20 (.pick (t 6) (t 19) ff)])
 (.kept [1, 20] (.cond (t 20) (.seq (.ops [o 2 (.mv ff)])
 (.ret)) (.skip))))
 (.kept [1] (.seq (.seq (.ops [o 21 (.fa 0 (t 1)),
 o 22 (.load none (t 21))])
 (.block 0 (.seq (.ops [o 24 (.bin .eql (t 22) (k 1)),
 m 23 24])
 (.cond (t 23) (.seq (.ops [o 25 (.fa 1 (t 1)),
 o 26 (.load none (t 25)),
 o 27 (.call 57 [(t 26), (k 1), (k 60)]),
 m 28 27,
 g 29 28 true (.fa 2 (t 1)),
 g 30 28 true (.load none (t 29)),
 g 31 28 true (.call 151 [(t 30)]),
 o 32 (.pick (t 28) (t 31) ff),
 m 33 32,
 g 34 33 true (.fa 3 (t 1)),
 g 35 33 true (.load none (t 34)),
 g 36 33 true (.call 57 [(t 35), (k 0), (k 3)]),
 o 37 (.pick (t 33) (t 36) ff),
 m 38 37,
 g 39 38 true (.fa 4 (t 1)),
 g 40 38 true (.load none (t 39)),
 g 41 38 true (.call 152 [(t 40)]),
 o 42 (.pick (t 38) (t 41) ff),
 m 43 42,
 g 44 43 true (.fa 5 (t 1)),
 g 45 43 true (.load none (t 44)),
 g 46 43 true (.call 153 [(t 45)]),
 o 47 (.pick (t 43) (t 46) ff),
 m 48 47,
 g 49 48 true (.fa 5 (t 1)),
 g 50 48 true (.load none (t 49)),
 g 51 48 true (.lens (t 50)),
 g 52 48 true (.call 57 [(t 51), (k 0), (k 8)]),
 o 53 (.pick (t 48) (t 52) ff),
 m 54 53,
 g 55 54 true (.fa 4 (t 1)),
 g 56 54 true (.load none (t 55)),
 g 57 54 true (.lens (t 56)),
 g 58 54 true (.fa 5 (t 1)),
 g 59 54 true (.load none (t 58)),
 g 60 54 true (.lens (t 59)),
 g 61 54 true (.bin .add (t 57) (t 60)),
 g 62 54 true (.bin .gtr (t 61) (k 0)),
 o 63 (.pick (t 54) (t 62) ff),
 m 64 63,
 g 65 64 true (.fa 6 (t 1)),
 g 66 64 true (.load none (t 65)),
 g 67 64 true (.not (t 66)),
 o 68 (.pick (t 64) (t 67) ff),
 m 2 68])
 (.ret)) (.seq (.seq (.ops [o 70 (.bin .eql (t 22) (k 2)),
 m 69 70])
 (.cond (t 69) (.skip) (.ops [o 71 (.bin .eql (t 22) (k 3)),
 m 69 71])))
 (.cond (t 69) (.seq (.ops [o 72 (.fa 1 (t 1)),
 o 73 (.load none (t 72)),
 o 74 (.call 57 [(t 73), (k 1), (k 60)]),
 m 75 74,
 g 76 75 true (.fa 6 (t 1)),
 g 77 75 true (.load none (t 76)),
 mg 78 75 true 77,
 g 79 78 true (.fa 2 (t 1)),
 g 80 78 true (.load none (t 79)),
 g 81 78 true (.call 151 [(t 80)]),
 g 82 75 true (.pick (t 78) (t 81) ff),
 mg 83 75 true 82,
 g 84 83 false (.fa 6 (t 1)),
 g 85 83 false (.load none (t 84)),
 g 86 83 false (.not (t 85)),
 mg 87 83 false 86,
 g 88 87 true (.fa 2 (t 1)),
 g 89 87 true (.load none (t 88)),
 g 90 87 true (.bin .eql (t 89) (k 0)),
 g 91 83 false (.pick (t 87) (t 90) ff),
 g 92 75 true (.pick (t 83) tt (t 91)),
 o 93 (.pick (t 75) (t 92) ff),
 m 2 93])
 (.ret)) (.skip)))))))
 (.kept [1] (.seq (.ops [o 94 (.fa 0 (t 1)),
 o 95 (.load none (t 94)),
 o 96 (.bin .eql (t 95) (k 4)),
 m 97 96,
 g 98 97 true (.fa 1 (t 1)),
 g 99 97 true (.load none (t 98)),
 g 100 97 true (.bin .eql (t 99) (k 0)),
 o 101 (.pick (t 97) (t 100) ff),
 m 102 101,
 g 103 102 true (.fa 2 (t 1)),
 g 104 102 true (.load none (t 103)),
 g 105 102 true (.call 151 [(t 104)]),
 o 106 (.pick (t 102) (t 105) ff),
 m 107 106,
 g 108 107 true (.fa 6 (t 1)),
 g 109 107 true (.load none (t 108)),
 g 110 107 true (.not (t 109)),
 o 111 (.pick (t 107) (t 110) ff),
 m 2 111])
 (.ret))))))
theorem h_spec_l4Good : hF Tryz.prog n_spec_l4Good = some c_spec_l4Good.strip := by kernel_rfl
theorem r_spec_l4Good : rF Tryz.prog n_spec_l4Good = some ([.tmp 2], 112) := by kernel_rfl
-- 140 loop.example/g00850/laws.toEntryS
abbrev n_laws_toEntryS : Nat := 140
def c_laws_toEntryS_l1 : AS :=
 .seq (.seq (.ops [m 8 4,
 m 9 0,
 o 10 (.lens (t 9)),
 o 11 (.bin .lss (t 8) (t 10))])
 (.cond (t 11) (.skip) (.exit 0)))
 (.seq (.block 1 (.post [(21, 1, [(5, 1), (6, 3)]), (18, 1, [(5, 1), (6, 3)])] (.ops [m 14 3,
 m 15 4,
 m 16 0,
 m 17 4,
 o 18 (.ia 8 (t 16) (t 17)),
 o 19 (.load (some 8) (t 18)),
 o 20 (.call 154 [(t 19)]),
 o 21 (.ia 8 (t 14) (t 15)),
 u (.store 8 (t 21) (t 20))])))
 (.kept [0, 3, 4] (.ops [m 12 4,
 o 13 (.bin .add (t 12) (k 1)),
 m 4 13])))
def c_laws_toEntryS : AS :=
 .seq (.ops [o 2 (.mv (.const (.slice none 0 0)))])
 (.seq (.ops [m 5 0,
 o 6 (.lens (t 5)),
 o 7 (.mks 8 96 (.agg #[.int .i64 0, .int .i64 0, .int .i64 0, .int .i64 0, .int .i64 0, .slice none 0 0, .slice none 0 0, .bool false]) (t 6) (t 6)),
 m 3 7])
 (.seq (.seq (.ops [o 4 (.mv (k 0))])
 (.block 0 (.loop 1 [(0, 0), (3, 0), (4, 0)] c_laws_toEntryS_l1)))
 (.kept [3] (.seq (.ops [m 22 3,
 m 2 22])
 (.ret)))))
theorem h_laws_toEntryS : hF Tryz.prog n_laws_toEntryS = some c_laws_toEntryS.strip := by kernel_rfl
theorem r_laws_toEntryS : rF Tryz.prog n_laws_toEntryS = some ([.tmp 2], 23) := by kernel_rfl
-- 141 loop.example/g00850/impl.isLowerOrDigit
abbrev n_impl_isLowerOrDigit : Nat := 141
def c_impl_isLowerOrDigit : AS :=
 .seq (.ops [o 2 (.mv ff)])
 (.seq (.ops [m 3 0,
 o 4 (.bin .geq (t 3) (.const (.int .u8 97))),
 m 5 4,
 mg 6 5 true 0,
 g 7 5 true (.bin .leq (t 6) (.const (.int .u8 122))),
 o 8 (.pick (t 5) (t 7) ff),
 m 9 8,
 mg 10 9 false 0,
 g 11 9 false (.bin .geq (t 10) (.const (.int .u8 48))),
 mg 12 9 false 11,
 mg 13 12 true 0,
 g 14 12 true (.bin .leq (t 13) (.const (.int .u8 57))),
 g 15 9 false (.pick (t 12) (t 14) ff),
 o 16 (.pick (t 9) tt (t 15)),
 m 2 16])
 (.ret))
theorem h_impl_isLowerOrDigit : hF Tryz.prog n_impl_isLowerOrDigit = some c_impl_isLowerOrDigit.strip := by kernel_rfl
theorem r_impl_isLowerOrDigit : rF Tryz.prog n_impl_isLowerOrDigit = some ([.tmp 2], 17) := by kernel_rfl
-- 142 strings.IndexByte
abbrev n_strings_IndexByte : Nat := 142
def c_strings_IndexByte : AS :=
 .seq (.ops [o 4 (.mv (k 0))])
 (.seq (.ops [m 5 0,
 m 6 1,
 o 7 (.call 155 [(t 5), (t 6)]),
 m 4 7])
 (.ret))
theorem h_strings_IndexByte : hF Tryz.prog n_strings_IndexByte = some c_strings_IndexByte.strip := by kernel_rfl
theorem r_strings_IndexByte : rF Tryz.prog n_strings_IndexByte = some ([.tmp 4], 8) := by kernel_rfl
-- 143 loop.example/g00850/impl.writeKeys
abbrev n_impl_writeKeys : Nat := 143
def c_impl_writeKeys_l1 : AS :=
 .seq (.ops [o 10 (.bin .lss (t 9) (t 8))])
 (.seq (.cond (t 10) (.skip) (.exit 0))
 (.seq (.block 1 (.seq (.ops [o 11 (.ia 3 (t 7) (t 9)),
 o 12 (.load (some 3) (t 11)),
 o 5 (.alloc (.agg #[.string ⟨⟨[]⟩⟩, .string ⟨⟨[]⟩⟩, .bool false])),
 u (.store 3 (t 5) (t 12))])
 (.ops [m 13 3,
 o 14 (.fa 0 (t 5)),
 o 15 (.load none (t 14)),
 o 16 (.bsl 1 (.string ⟨⟨[]⟩⟩) 1 [(0, (t 15))]),
 o 17 (.app 1 16 (.string ⟨⟨[]⟩⟩) (t 13) (t 16)),
 m 3 17])))
 (.kept [3, 7, 8, 9] (.ops [o 18 (.bin .add (t 9) (k 1)),
 m 9 18]))))
def c_impl_writeKeys : AS :=
 .seq (.ops [o 2 (.mv (.const (.slice none 0 0)))])
 (.seq (.ops [o 6 (.bsl 1 (.string ⟨⟨[]⟩⟩) 0 []),
 m 3 6])
 (.seq (.seq (.ops [m 7 0,
 o 8 (.lens (t 7)),
 o 9 (.mv (k 0))])
 (.block 0 (.loop 1 [(3, 1), (7, 0), (8, 0), (9, 0)] c_impl_writeKeys_l1)))
 (.kept [3] (.seq (.ops [m 19 3,
 m 2 19])
 (.ret)))))
theorem h_impl_writeKeys : hF Tryz.prog n_impl_writeKeys = some c_impl_writeKeys.strip := by kernel_rfl
theorem r_impl_writeKeys : rF Tryz.prog n_impl_writeKeys = some ([.tmp 2], 20) := by kernel_rfl
-- 144 slices.ContainsFunc[[]loop.example/g00850/impl.Write,loop.example/g00850/impl.Write]
abbrev n_slices_ContainsFunc___impl_Write_impl_Write_ : Nat := 144
def c_slices_ContainsFunc___impl_Write_impl_Write_ : AS :=
 .seq (.ops [o 4 (.mv ff)])
 (.seq (.ops [m 5 0,
 m 6 1,
 o 7 (.call 156 [(t 5), (t 6)]),
 o 8 (.bin .geq (t 7) (k 0)),
 m 4 8])
 (.ret))
theorem h_slices_ContainsFunc___impl_Write_impl_Write_ : hF Tryz.prog n_slices_ContainsFunc___impl_Write_impl_Write_ = some c_slices_ContainsFunc___impl_Write_impl_Write_.strip := by kernel_rfl
theorem r_slices_ContainsFunc___impl_Write_impl_Write_ : rF Tryz.prog n_slices_ContainsFunc___impl_Write_impl_Write_ = some ([.tmp 4], 9) := by kernel_rfl
-- 145 loop.example/g00850/impl.GoodWrites$1
abbrev n_impl_GoodWrites_1 : Nat := 145
def c_impl_GoodWrites_1 : AS :=
 .seq (.ops [o 1 (.box (t 0)),
 o 2 (.mv ff)])
 (.seq (.ops [o 3 (.fa 1 (t 1)),
 o 4 (.load none (t 3)),
 o 5 (.fa 2 (t 1)),
 o 6 (.load none (t 5)),
 o 7 (.call 109 [(t 4), (t 6)]),
 o 8 (.not (t 7)),
 m 2 8])
 (.ret))
theorem h_impl_GoodWrites_1 : hF Tryz.prog n_impl_GoodWrites_1 = some c_impl_GoodWrites_1.strip := by kernel_rfl
theorem r_impl_GoodWrites_1 : rF Tryz.prog n_impl_GoodWrites_1 = some ([.tmp 2], 9) := by kernel_rfl
-- 146 slices.IndexFunc[[]loop.example/g00850/impl.Op,loop.example/g00850/impl.Op]
abbrev n_slices_IndexFunc___impl_Op_impl_Op_ : Nat := 146
def c_slices_IndexFunc___impl_Op_impl_Op__l1 : AS :=
 .seq (.ops [o 9 (.bin .lss (t 8) (t 7))])
 (.seq (.cond (t 9) (.skip) (.exit 0))
 (.seq (.block 1 (.seq (.ops [m 10 8,
 m 5 10])
 (.seq (.ops [m 11 1,
 m 12 0,
 m 13 5,
 o 14 (.ia 4 (t 12) (t 13)),
 o 15 (.load (some 4) (t 14)),
 o 16 (.callv (t 11) [(t 15)])])
 (.cond (t 16) (.seq (.ops [m 17 5,
 m 4 17])
 (.ret)) (.skip)))))
 (.kept [0, 1, 7, 8] (.ops [o 18 (.bin .add (t 8) (k 1)),
 m 8 18]))))
def c_slices_IndexFunc___impl_Op_impl_Op_ : AS :=
 .seq (.ops [o 4 (.mv (k 0))])
 (.seq (.seq (.ops [m 6 0,
 o 7 (.lens (t 6)),
 o 8 (.mv (k 0))])
 (.block 0 (.loop 2 [(0, 0), (1, 0), (7, 0), (8, 0)] c_slices_IndexFunc___impl_Op_impl_Op__l1)))
 (.kept [] (.seq (.ops [o 4 (.mv (k (-1)))])
 (.ret))))
theorem h_slices_IndexFunc___impl_Op_impl_Op_ : hF Tryz.prog n_slices_IndexFunc___impl_Op_impl_Op_ = some c_slices_IndexFunc___impl_Op_impl_Op_.strip := by kernel_rfl
theorem r_slices_IndexFunc___impl_Op_impl_Op_ : rF Tryz.prog n_slices_IndexFunc___impl_Op_impl_Op_ = some ([.tmp 4], 19) := by kernel_rfl
-- 147 loop.example/g00850/impl.hasVal
abbrev n_impl_hasVal : Nat := 147
def c_impl_hasVal : AS :=
 .seq (.ops [o 2 (.mv ff)])
 (.seq (.ops [m 3 0,
 o 4 (.bin .eql (t 3) (k 2)),
 m 5 4,
 mg 6 5 false 0,
 g 7 5 false (.bin .eql (t 6) (k 7)),
 o 8 (.pick (t 5) tt (t 7)),
 m 2 8])
 (.ret))
theorem h_impl_hasVal : hF Tryz.prog n_impl_hasVal = some c_impl_hasVal.strip := by kernel_rfl
theorem r_impl_hasVal : rF Tryz.prog n_impl_hasVal = some ([.tmp 2], 9) := by kernel_rfl
-- 148 loop.example/g00850/impl.hasBy
abbrev n_impl_hasBy : Nat := 148
def c_impl_hasBy : AS :=
 .seq (.ops [o 2 (.mv ff)])
 (.seq (.ops [m 3 0,
 o 4 (.bin .eql (t 3) (k 4)),
 m 5 4,
 mg 6 5 false 0,
 g 7 5 false (.bin .eql (t 6) (k 5)),
 o 8 (.pick (t 5) tt (t 7)),
 m 2 8])
 (.ret))
theorem h_impl_hasBy : hF Tryz.prog n_impl_hasBy = some c_impl_hasBy.strip := by kernel_rfl
theorem r_impl_hasBy : rF Tryz.prog n_impl_hasBy = some ([.tmp 2], 9) := by kernel_rfl
-- 149 loop.example/g00850/laws.eqEntryS
abbrev n_laws_eqEntryS : Nat := 149
def c_laws_eqEntryS_l1 : AS :=
 .seq (.seq (.ops [m 11 5,
 m 12 0,
 o 13 (.lens (t 12)),
 o 14 (.bin .lss (t 11) (t 13))])
 (.cond (t 14) (.skip) (.exit 0)))
 (.seq (.block 1 (.seq (.post [(23, 1, [(5, 1), (6, 3)]), (19, 1, [(5, 1), (6, 3)])] (.rops [(none, m 17 0),
 (none, m 18 5),
 (none, o 19 (.ia 8 (t 17) (t 18))),
 (none, o 20 (.load (some 8) (t 19))),
 (none, m 21 1),
 (none, m 22 5),
 (none, o 23 (.ia 8 (t 21) (t 22))),
 (none, o 24 (.load (some 8) (t 23))),
 (some [], o 25 (.call 157 [(t 20), (t 24)])),
 (none, o 26 (.not (t 25)))]))
 (.kept [0, 1, 5, 26] (.cond (t 26) (.seq (.ops [o 4 (.mv ff)])
 (.ret)) (.skip)))))
 (.kept [0, 1, 5] (.ops [m 15 5,
 o 16 (.bin .add (t 15) (k 1)),
 m 5 16])))
def c_laws_eqEntryS : AS :=
 .seq (.ops [o 4 (.mv ff)])
 (.seq (.seq (.ops [m 6 0,
 o 7 (.lens (t 6)),
 m 8 1,
 o 9 (.lens (t 8)),
 o 10 (.bin .neq (t 7) (t 9))])
 (.cond (t 10) (.seq (.ops [o 4 (.mv ff)])
 (.ret)) (.skip)))
 (.kept [0, 1] (.seq (.seq (.ops [o 5 (.mv (k 0))])
 (.block 0 (.loop 2 [(0, 0), (1, 0), (5, 0)] c_laws_eqEntryS_l1)))
 (.kept [] (.seq (.ops [o 4 (.mv tt)])
 (.ret))))))
theorem h_laws_eqEntryS : hF Tryz.prog n_laws_eqEntryS = some c_laws_eqEntryS.strip := by kernel_rfl
theorem r_laws_eqEntryS : rF Tryz.prog n_laws_eqEntryS = some ([.tmp 4], 27) := by kernel_rfl
-- 150 loop.example/g00850/laws.szEntry
abbrev n_laws_szEntry : Nat := 150
def c_laws_szEntry : AS :=
 .seq (.ops [o 2 (.box (t 0)),
 o 4 (.mv (k 0))])
 (.seq (.ops [o 5 (.fa 1 (t 2)),
 o 6 (.load (some 7) (t 5)),
 m 7 1,
 o 8 (.call 158 [(t 6), (t 7)]),
 m 1 8])
 (.seq (.seq (.ops [m 9 1,
 o 10 (.bin .lss (t 9) (k 0))])
 (.cond (t 10) (.seq (.ops [o 4 (.mv (k (-1)))])
 (.ret)) (.skip)))
 (.seq (.ops [m 11 1,
 m 4 11])
 (.ret))))
theorem h_laws_szEntry : hF Tryz.prog n_laws_szEntry = some c_laws_szEntry.strip := by kernel_rfl
theorem r_laws_szEntry : rF Tryz.prog n_laws_szEntry = some ([.tmp 4], 12) := by kernel_rfl
-- 151 loop.example/g00850/spec.l3Time
abbrev n_spec_l3Time : Nat := 151
def c_spec_l3Time : AS :=
 .seq (.ops [o 2 (.mv ff)])
 (.seq (.ops [m 3 0,
 o 4 (.call 57 [(t 3), (k 1), (k 100000)]),
 m 2 4])
 (.ret))
theorem h_spec_l3Time : hF Tryz.prog n_spec_l3Time = some c_spec_l3Time.strip := by kernel_rfl
theorem r_spec_l3Time : rF Tryz.prog n_spec_l3Time = some ([.tmp 2], 5) := by kernel_rfl
-- 152 loop.example/g00850/spec.l4Keys
abbrev n_spec_l4Keys : Nat := 152
def c_spec_l4Keys_l1 : AS :=
 .seq (.ops [o 8 (.bin .lss (t 7) (t 6))])
 (.seq (.cond (t 8) (.skip) (.exit 0))
 (.seq (.block 1 (.seq (.ops [m 9 7,
 o 10 (.ia 1 (t 5) (t 7)),
 o 11 (.load none (t 10)),
 m 3 9,
 m 4 11])
 (.seq (.ops [m 12 4,
 o 13 (.call 92 [(t 12)]),
 o 14 (.not (t 13)),
 m 15 14,
 mg 16 15 false 3,
 g 17 15 false (.bin .gtr (t 16) (k 0)),
 mg 18 15 false 17,
 mg 19 18 true 0,
 mg 20 18 true 3,
 g 21 18 true (.bin .sub (t 20) (k 1)),
 g 22 18 true (.ia 1 (t 19) (t 21)),
 g 23 18 true (.load none (t 22)),
 mg 24 18 true 4,
 g 25 18 true (.bin .geq (t 23) (t 24)),
 g 26 15 false (.pick (t 18) (t 25) ff),
 o 27 (.pick (t 15) tt (t 26))])
 (.kept [0, 5, 6, 7, 27] (.cond (t 27) (.seq (.ops [o 2 (.mv ff)])
 (.ret)) (.skip))))))
 (.kept [0, 5, 6, 7] (.ops [o 28 (.bin .add (t 7) (k 1)),
 m 7 28]))))
def c_spec_l4Keys : AS :=
 .seq (.ops [o 2 (.mv ff)])
 (.seq (.seq (.ops [m 5 0,
 o 6 (.lens (t 5)),
 o 7 (.mv (k 0))])
 (.block 0 (.loop 1 [(0, 0), (5, 0), (6, 0), (7, 0)] c_spec_l4Keys_l1)))
 (.kept [0] (.seq (.ops [m 29 0,
 o 30 (.lens (t 29)),
 o 31 (.bin .leq (t 30) (k 8)),
 m 2 31])
 (.ret))))
theorem h_spec_l4Keys : hF Tryz.prog n_spec_l4Keys = some c_spec_l4Keys.strip := by kernel_rfl
theorem r_spec_l4Keys : rF Tryz.prog n_spec_l4Keys = some ([.tmp 2], 32) := by kernel_rfl
-- 153 loop.example/g00850/spec.l3Writes
abbrev n_spec_l3Writes : Nat := 153
def c_spec_l3Writes_l1 : AS :=
 .seq (.ops [o 8 (.bin .lss (t 7) (t 6))])
 (.seq (.cond (t 8) (.skip) (.exit 0))
 (.seq (.block 1 (.seq (.ops [m 9 7,
 o 10 (.ia 3 (t 5) (t 7)),
 o 11 (.load (some 3) (t 10)),
 o 4 (.alloc (.agg #[.string ⟨⟨[]⟩⟩, .string ⟨⟨[]⟩⟩, .bool false])),
 m 3 9,
 u (.store 3 (t 4) (t 11))])
 (.seq (.rops [(none, o 12 (.fa 0 (t 4))),
 (none, o 13 (.load none (t 12))),
 (none, o 14 (.fa 1 (t 4))),
 (none, o 15 (.load none (t 14))),
 (none, o 16 (.fa 2 (t 4))),
 (none, o 17 (.load none (t 16))),
 (some [], o 18 (.call 159 [(t 13), (t 15), (t 17)])),
 (none, o 19 (.not (t 18))),
 (none, m 20 19),
 (none, mg 21 20 false 3),
 (none, g 22 20 false (.bin .gtr (t 21) (k 0))),
 (none, mg 23 20 false 22),
 (none, mg 24 23 true 0),
 (none, mg 25 23 true 3),
 (none, g 26 23 true (.bin .sub (t 25) (k 1))),
 (none, g 27 23 true (.ia 3 (t 24) (t 26))),
 (none, g 28 23 true (.fa 0 (t 27))),
 (none, g 29 23 true (.load none (t 28))),
 (none, g 30 23 true (.fa 0 (t 4))),
 (none, g 31 23 true (.load none (t 30))),
 (none, g 32 23 true (.bin .geq (t 29) (t 31))),
 (none, g 33 20 false (.pick (t 23) (t 32) ff)),
 (none, o 34 (.pick (t 20) tt (t 33)))])
 (.kept [0, 5, 6, 7, 34] (.cond (t 34) (.seq (.ops [o 2 (.mv ff)])
 (.ret)) (.skip))))))
 (.kept [0, 5, 6, 7] (.ops [o 35 (.bin .add (t 7) (k 1)),
 m 7 35]))))
def c_spec_l3Writes : AS :=
 .seq (.ops [o 2 (.mv ff)])
 (.seq (.seq (.ops [m 5 0,
 o 6 (.lens (t 5)),
 o 7 (.mv (k 0))])
 (.block 0 (.loop 1 [(0, 0), (5, 0), (6, 0), (7, 0)] c_spec_l3Writes_l1)))
 (.kept [0] (.seq (.ops [m 36 0,
 o 37 (.lens (t 36)),
 o 38 (.bin .leq (t 37) (k 24)),
 m 2 38])
 (.ret))))
theorem h_spec_l3Writes : hF Tryz.prog n_spec_l3Writes = some c_spec_l3Writes.strip := by kernel_rfl
theorem r_spec_l3Writes : rF Tryz.prog n_spec_l3Writes = some ([.tmp 2], 39) := by kernel_rfl
-- 154 loop.example/g00850/laws.toEntry
abbrev n_laws_toEntry : Nat := 154
def c_laws_toEntry : AS :=
 .seq (.ops [o 1 (.box (t 0)),
 o 2 (.alloc (.agg #[.int .i64 0, .int .i64 0, .int .i64 0, .int .i64 0, .int .i64 0, .slice none 0 0, .slice none 0 0, .bool false]))])
 (.seq (.ops [o 3 (.alloc (.agg #[.int .i64 0, .int .i64 0, .int .i64 0, .int .i64 0, .int .i64 0, .slice none 0 0, .slice none 0 0, .bool false]))])
 (.seq (.ops [o 4 (.fa 0 (t 1)),
 o 5 (.load none (t 4)),
 o 6 (.fa 0 (t 3)),
 u (.store 1 (t 6) (t 5))])
 (.seq (.ops [o 7 (.fa 1 (t 1)),
 o 8 (.load (some 7) (t 7)),
 o 9 (.call 160 [(t 8)]),
 o 10 (.fa 1 (t 3)),
 u (.store 7 (t 10) (t 9))])
 (.seq (.ops [o 11 (.load (some 8) (t 3)),
 u (.store 8 (t 2) (t 11))])
 (.ret)))))
theorem h_laws_toEntry : hF Tryz.prog n_laws_toEntry = some c_laws_toEntry.strip := by kernel_rfl
theorem r_laws_toEntry : rF Tryz.prog n_laws_toEntry = some ([.cell 2 150], 12) := by kernel_rfl
-- 155 internal/stringslite.IndexByte
abbrev n_internal_stringslite_IndexByte : Nat := 155
def c_internal_stringslite_IndexByte : AS :=
 .seq (.ops [o 4 (.mv (k 0))])
 (.seq (.ops [m 5 0,
 m 6 1,
 o 7 (.xcall 161 [(t 5), (t 6)]),
 m 4 7])
 (.ret))
theorem h_internal_stringslite_IndexByte : hF Tryz.prog n_internal_stringslite_IndexByte = some c_internal_stringslite_IndexByte.strip := by kernel_rfl
theorem r_internal_stringslite_IndexByte : rF Tryz.prog n_internal_stringslite_IndexByte = some ([.tmp 4], 8) := by kernel_rfl
-- 156 slices.IndexFunc[[]loop.example/g00850/impl.Write,loop.example/g00850/impl.Write]
abbrev n_slices_IndexFunc___impl_Write_impl_Write_ : Nat := 156
def c_slices_IndexFunc___impl_Write_impl_Write__l1 : AS :=
 .seq (.ops [o 9 (.bin .lss (t 8) (t 7))])
 (.seq (.cond (t 9) (.skip) (.exit 0))
 (.seq (.block 1 (.seq (.ops [m 10 8,
 m 5 10])
 (.seq (.ops [m 11 1,
 m 12 0,
 m 13 5,
 o 14 (.ia 3 (t 12) (t 13)),
 o 15 (.load (some 3) (t 14)),
 o 16 (.callv (t 11) [(t 15)])])
 (.cond (t 16) (.seq (.ops [m 17 5,
 m 4 17])
 (.ret)) (.skip)))))
 (.kept [0, 1, 7, 8] (.ops [o 18 (.bin .add (t 8) (k 1)),
 m 8 18]))))
def c_slices_IndexFunc___impl_Write_impl_Write_ : AS :=
 .seq (.ops [o 4 (.mv (k 0))])
 (.seq (.seq (.ops [m 6 0,
 o 7 (.lens (t 6)),
 o 8 (.mv (k 0))])
 (.block 0 (.loop 2 [(0, 0), (1, 0), (7, 0), (8, 0)] c_slices_IndexFunc___impl_Write_impl_Write__l1)))
 (.kept [] (.seq (.ops [o 4 (.mv (k (-1)))])
 (.ret))))
theorem h_slices_IndexFunc___impl_Write_impl_Write_ : hF Tryz.prog n_slices_IndexFunc___impl_Write_impl_Write_ = some c_slices_IndexFunc___impl_Write_impl_Write_.strip := by kernel_rfl
theorem r_slices_IndexFunc___impl_Write_impl_Write_ : rF Tryz.prog n_slices_IndexFunc___impl_Write_impl_Write_ = some ([.tmp 4], 19) := by kernel_rfl
-- 157 loop.example/g00850/laws.eqEntry
abbrev n_laws_eqEntry : Nat := 157
def c_laws_eqEntry : AS :=
 .seq (.ops [o 2 (.box (t 0)),
 o 3 (.box (t 1)),
 o 4 (.mv ff)])
 (.seq (.seq (.ops [o 5 (.fa 0 (t 2)),
 o 6 (.load none (t 5)),
 o 7 (.fa 0 (t 3)),
 o 8 (.load none (t 7)),
 o 9 (.bin .neq (t 6) (t 8))])
 (.cond (t 9) (.seq (.ops [o 4 (.mv ff)])
 (.ret)) (.skip)))
 (.kept [2, 3] (.seq (.seq (.ops [o 10 (.fa 1 (t 2)),
 o 11 (.load (some 7) (t 10)),
 o 12 (.fa 1 (t 3)),
 o 13 (.load (some 7) (t 12)),
 o 14 (.call 162 [(t 11), (t 13)]),
 o 15 (.not (t 14))])
 (.cond (t 15) (.seq (.ops [o 4 (.mv ff)])
 (.ret)) (.skip)))
 (.kept [] (.seq (.ops [o 4 (.mv tt)])
 (.ret))))))
theorem h_laws_eqEntry : hF Tryz.prog n_laws_eqEntry = some c_laws_eqEntry.strip := by kernel_rfl
theorem r_laws_eqEntry : rF Tryz.prog n_laws_eqEntry = some ([.tmp 4], 16) := by kernel_rfl
-- 158 loop.example/g00850/laws.szRec
abbrev n_laws_szRec : Nat := 158
def c_laws_szRec : AS :=
 .seq (.ops [o 2 (.box (t 0)),
 o 4 (.mv (k 0))])
 (.seq (.ops [o 5 (.fa 4 (t 2)),
 o 6 (.load none (t 5)),
 m 7 1,
 o 8 (.call 10 [(t 6), (t 7)]),
 m 1 8])
 (.seq (.seq (.ops [m 9 1,
 o 10 (.bin .lss (t 9) (k 0))])
 (.cond (t 10) (.seq (.ops [o 4 (.mv (k (-1)))])
 (.ret)) (.skip)))
 (.seq (.ops [o 11 (.fa 5 (t 2)),
 o 12 (.load none (t 11)),
 m 13 1,
 o 14 (.call 163 [(t 12), (t 13)]),
 m 1 14])
 (.seq (.seq (.ops [m 15 1,
 o 16 (.bin .lss (t 15) (k 0))])
 (.cond (t 16) (.seq (.ops [o 4 (.mv (k (-1)))])
 (.ret)) (.skip)))
 (.seq (.ops [m 17 1,
 m 4 17])
 (.ret))))))
theorem h_laws_szRec : hF Tryz.prog n_laws_szRec = some c_laws_szRec.strip := by kernel_rfl
theorem r_laws_szRec : rF Tryz.prog n_laws_szRec = some ([.tmp 4], 18) := by kernel_rfl
-- 159 loop.example/g00850/spec.l3Write
abbrev n_spec_l3Write : Nat := 159
def c_spec_l3Write : AS :=
 .seq (.ops [o 6 (.mv ff)])
 (.seq (.ops [m 7 0,
 o 8 (.call 92 [(t 7)]),
 m 9 8,
 mg 10 9 true 1,
 g 11 9 true (.call 123 [(t 10)]),
 o 12 (.pick (t 9) (t 11) ff),
 m 13 12,
 mg 14 13 true 2,
 g 15 13 true (.not (t 14)),
 mg 16 13 true 15,
 mg 17 16 false 1,
 g 18 16 false (.bin .eql (t 17) (.const (.string ⟨⟨[]⟩⟩))),
 g 19 13 true (.pick (t 16) tt (t 18)),
 o 20 (.pick (t 13) (t 19) ff),
 m 6 20])
 (.ret))
theorem h_spec_l3Write : hF Tryz.prog n_spec_l3Write = some c_spec_l3Write.strip := by kernel_rfl
theorem r_spec_l3Write : rF Tryz.prog n_spec_l3Write = some ([.tmp 6], 21) := by kernel_rfl
-- 160 loop.example/g00850/laws.toRec
abbrev n_laws_toRec : Nat := 160
def c_laws_toRec : AS :=
 .seq (.ops [o 1 (.box (t 0)),
 o 2 (.alloc (.agg #[.int .i64 0, .int .i64 0, .int .i64 0, .int .i64 0, .slice none 0 0, .slice none 0 0, .bool false]))])
 (.seq (.ops [o 3 (.alloc (.agg #[.int .i64 0, .int .i64 0, .int .i64 0, .int .i64 0, .slice none 0 0, .slice none 0 0, .bool false]))])
 (.seq (.ops [o 4 (.fa 0 (t 1)),
 o 5 (.load none (t 4)),
 o 6 (.fa 0 (t 3)),
 u (.store 1 (t 6) (t 5))])
 (.seq (.ops [o 7 (.fa 1 (t 1)),
 o 8 (.load none (t 7)),
 o 9 (.fa 1 (t 3)),
 u (.store 1 (t 9) (t 8))])
 (.seq (.ops [o 10 (.fa 2 (t 1)),
 o 11 (.load none (t 10)),
 o 12 (.fa 2 (t 3)),
 u (.store 1 (t 12) (t 11))])
 (.seq (.ops [o 13 (.fa 3 (t 1)),
 o 14 (.load none (t 13)),
 o 15 (.fa 3 (t 3)),
 u (.store 1 (t 15) (t 14))])
 (.seq (.ops [o 16 (.fa 4 (t 1)),
 o 17 (.load none (t 16)),
 o 18 (.call 18 [(t 17)]),
 o 19 (.fa 4 (t 3)),
 u (.store 1 (t 19) (t 18))])
 (.seq (.ops [o 20 (.fa 5 (t 1)),
 o 21 (.load none (t 20)),
 o 22 (.call 164 [(t 21)]),
 o 23 (.fa 5 (t 3)),
 u (.store 1 (t 23) (t 22))])
 (.seq (.ops [o 24 (.fa 6 (t 1)),
 o 25 (.load none (t 24)),
 o 26 (.fa 6 (t 3)),
 u (.store 1 (t 26) (t 25))])
 (.seq (.ops [o 27 (.load (some 7) (t 3)),
 u (.store 7 (t 2) (t 27))])
 (.ret))))))))))
theorem h_laws_toRec : hF Tryz.prog n_laws_toRec = some c_laws_toRec.strip := by kernel_rfl
theorem r_laws_toRec : rF Tryz.prog n_laws_toRec = some ([.cell 2 148], 28) := by kernel_rfl
-- 161 internal/bytealg.IndexByteString
abbrev n_internal_bytealg_IndexByteString : Nat := 161
-- NOT COMPILED
theorem d_internal_bytealg_IndexByteString : Tryz.prog.funcs[n_internal_bytealg_IndexByteString]? = some Tryz.f161 := by kernel_rfl
-- 162 loop.example/g00850/laws.eqRec
abbrev n_laws_eqRec : Nat := 162
def c_laws_eqRec : AS :=
 .seq (.ops [o 2 (.box (t 0)),
 o 3 (.box (t 1)),
 o 4 (.mv ff)])
 (.seq (.seq (.ops [o 5 (.fa 0 (t 2)),
 o 6 (.load none (t 5)),
 o 7 (.fa 0 (t 3)),
 o 8 (.load none (t 7)),
 o 9 (.bin .neq (t 6) (t 8))])
 (.cond (t 9) (.seq (.ops [o 4 (.mv ff)])
 (.ret)) (.skip)))
 (.kept [2, 3] (.seq (.seq (.ops [o 10 (.fa 1 (t 2)),
 o 11 (.load none (t 10)),
 o 12 (.fa 1 (t 3)),
 o 13 (.load none (t 12)),
 o 14 (.bin .neq (t 11) (t 13))])
 (.cond (t 14) (.seq (.ops [o 4 (.mv ff)])
 (.ret)) (.skip)))
 (.kept [2, 3] (.seq (.seq (.ops [o 15 (.fa 2 (t 2)),
 o 16 (.load none (t 15)),
 o 17 (.fa 2 (t 3)),
 o 18 (.load none (t 17)),
 o 19 (.bin .neq (t 16) (t 18))])
 (.cond (t 19) (.seq (.ops [o 4 (.mv ff)])
 (.ret)) (.skip)))
 (.kept [2, 3] (.seq (.seq (.ops [o 20 (.fa 3 (t 2)),
 o 21 (.load none (t 20)),
 o 22 (.fa 3 (t 3)),
 o 23 (.load none (t 22)),
 o 24 (.bin .neq (t 21) (t 23))])
 (.cond (t 24) (.seq (.ops [o 4 (.mv ff)])
 (.ret)) (.skip)))
 (.kept [2, 3] (.seq (.seq (.ops [o 25 (.fa 4 (t 2)),
 o 26 (.load none (t 25)),
 o 27 (.fa 4 (t 3)),
 o 28 (.load none (t 27)),
 o 29 (.call 39 [(t 26), (t 28)]),
 o 30 (.not (t 29))])
 (.cond (t 30) (.seq (.ops [o 4 (.mv ff)])
 (.ret)) (.skip)))
 (.kept [2, 3] (.seq (.seq (.ops [o 31 (.fa 5 (t 2)),
 o 32 (.load none (t 31)),
 o 33 (.fa 5 (t 3)),
 o 34 (.load none (t 33)),
 o 35 (.call 165 [(t 32), (t 34)]),
 o 36 (.not (t 35))])
 (.cond (t 36) (.seq (.ops [o 4 (.mv ff)])
 (.ret)) (.skip)))
 (.kept [2, 3] (.seq (.seq (.ops [o 37 (.fa 6 (t 2)),
 o 38 (.load none (t 37)),
 o 39 (.fa 6 (t 3)),
 o 40 (.load none (t 39)),
 o 41 (.eqb true (t 38) (t 40))])
 (.cond (t 41) (.seq (.ops [o 4 (.mv ff)])
 (.ret)) (.skip)))
 (.kept [] (.seq (.ops [o 4 (.mv tt)])
 (.ret))))))))))))))))
theorem h_laws_eqRec : hF Tryz.prog n_laws_eqRec = some c_laws_eqRec.strip := by kernel_rfl
theorem r_laws_eqRec : rF Tryz.prog n_laws_eqRec = some ([.tmp 4], 42) := by kernel_rfl
-- 163 loop.example/g00850/laws.szWriteS
abbrev n_laws_szWriteS : Nat := 163
def c_laws_szWriteS_l1 : AS :=
 .seq (.seq (.ops [m 12 5,
 m 13 0,
 o 14 (.lens (t 13)),
 o 15 (.bin .lss (t 12) (t 14))])
 (.cond (t 15) (.skip) (.exit 0)))
 (.seq (.block 1 (.seq (.ops [m 18 0,
 m 19 5,
 o 20 (.ia 3 (t 18) (t 19)),
 o 21 (.load (some 3) (t 20)),
 m 22 1,
 o 23 (.call 166 [(t 21), (t 22)]),
 m 1 23])
 (.kept [0, 1, 5] (.seq (.ops [m 24 1,
 o 25 (.bin .lss (t 24) (k 0))])
 (.cond (t 25) (.seq (.ops [o 4 (.mv (k (-1)))])
 (.ret)) (.skip))))))
 (.kept [0, 1, 5] (.ops [m 16 5,
 o 17 (.bin .add (t 16) (k 1)),
 m 5 17])))
def c_laws_szWriteS : AS :=
 .seq (.ops [o 4 (.mv (k 0))])
 (.seq (.ops [m 6 1,
 m 7 0,
 o 8 (.lens (t 7)),
 o 9 (.bin .sub (t 6) (t 8)),
 m 1 9])
 (.seq (.seq (.ops [m 10 1,
 o 11 (.bin .lss (t 10) (k 0))])
 (.cond (t 11) (.seq (.ops [o 4 (.mv (k (-1)))])
 (.ret)) (.skip)))
 (.seq (.seq (.ops [o 5 (.mv (k 0))])
 (.block 0 (.loop 2 [(0, 0), (1, 0), (5, 0)] c_laws_szWriteS_l1)))
 (.kept [1] (.seq (.ops [m 26 1,
 m 4 26])
 (.ret))))))
theorem h_laws_szWriteS : hF Tryz.prog n_laws_szWriteS = some c_laws_szWriteS.strip := by kernel_rfl
theorem r_laws_szWriteS : rF Tryz.prog n_laws_szWriteS = some ([.tmp 4], 27) := by kernel_rfl
-- 164 loop.example/g00850/laws.toWriteS
abbrev n_laws_toWriteS : Nat := 164
def c_laws_toWriteS_l1 : AS :=
 .seq (.seq (.ops [m 8 4,
 m 9 0,
 o 10 (.lens (t 9)),
 o 11 (.bin .lss (t 8) (t 10))])
 (.cond (t 11) (.skip) (.exit 0)))
 (.seq (.block 1 (.ops [m 14 3,
 m 15 4,
 m 16 0,
 m 17 4,
 o 18 (.ia 3 (t 16) (t 17)),
 o 19 (.load (some 3) (t 18)),
 o 20 (.call 167 [(t 19)]),
 o 21 (.ia 3 (t 14) (t 15)),
 u (.store 3 (t 21) (t 20))]))
 (.kept [0, 3, 4] (.ops [m 12 4,
 o 13 (.bin .add (t 12) (k 1)),
 m 4 13])))
def c_laws_toWriteS : AS :=
 .seq (.ops [o 2 (.mv (.const (.slice none 0 0)))])
 (.seq (.ops [m 5 0,
 o 6 (.lens (t 5)),
 o 7 (.mks 3 40 (.agg #[.string ⟨⟨[]⟩⟩, .string ⟨⟨[]⟩⟩, .bool false]) (t 6) (t 6)),
 m 3 7])
 (.seq (.seq (.ops [o 4 (.mv (k 0))])
 (.block 0 (.loop 1 [(0, 0), (3, 0), (4, 0)] c_laws_toWriteS_l1)))
 (.kept [3] (.seq (.ops [m 22 3,
 m 2 22])
 (.ret)))))
theorem h_laws_toWriteS : hF Tryz.prog n_laws_toWriteS = some c_laws_toWriteS.strip := by kernel_rfl
theorem r_laws_toWriteS : rF Tryz.prog n_laws_toWriteS = some ([.tmp 2], 23) := by kernel_rfl
-- 165 loop.example/g00850/laws.eqWriteS
abbrev n_laws_eqWriteS : Nat := 165
def c_laws_eqWriteS_l1 : AS :=
 .seq (.seq (.ops [m 11 5,
 m 12 0,
 o 13 (.lens (t 12)),
 o 14 (.bin .lss (t 11) (t 13))])
 (.cond (t 14) (.skip) (.exit 0)))
 (.seq (.block 1 (.seq (.rops [(none, m 17 0),
 (none, m 18 5),
 (none, o 19 (.ia 3 (t 17) (t 18))),
 (none, o 20 (.load (some 3) (t 19))),
 (none, m 21 1),
 (none, m 22 5),
 (none, o 23 (.ia 3 (t 21) (t 22))),
 (none, o 24 (.load (some 3) (t 23))),
 (some [], o 25 (.call 168 [(t 20), (t 24)])),
 (none, o 26 (.not (t 25)))])
 (.kept [0, 1, 5, 26] (.cond (t 26) (.seq (.ops [o 4 (.mv ff)])
 (.ret)) (.skip)))))
 (.kept [0, 1, 5] (.ops [m 15 5,
 o 16 (.bin .add (t 15) (k 1)),
 m 5 16])))
def c_laws_eqWriteS : AS :=
 .seq (.ops [o 4 (.mv ff)])
 (.seq (.seq (.ops [m 6 0,
 o 7 (.lens (t 6)),
 m 8 1,
 o 9 (.lens (t 8)),
 o 10 (.bin .neq (t 7) (t 9))])
 (.cond (t 10) (.seq (.ops [o 4 (.mv ff)])
 (.ret)) (.skip)))
 (.kept [0, 1] (.seq (.seq (.ops [o 5 (.mv (k 0))])
 (.block 0 (.loop 2 [(0, 0), (1, 0), (5, 0)] c_laws_eqWriteS_l1)))
 (.kept [] (.seq (.ops [o 4 (.mv tt)])
 (.ret))))))
theorem h_laws_eqWriteS : hF Tryz.prog n_laws_eqWriteS = some c_laws_eqWriteS.strip := by kernel_rfl
theorem r_laws_eqWriteS : rF Tryz.prog n_laws_eqWriteS = some ([.tmp 4], 27) := by kernel_rfl
-- 166 loop.example/g00850/laws.szWrite
abbrev n_laws_szWrite : Nat := 166
def c_laws_szWrite : AS :=
 .seq (.ops [o 2 (.box (t 0)),
 o 4 (.mv (k 0))])
 (.seq (.ops [m 5 1,
 o 6 (.fa 0 (t 2)),
 o 7 (.load none (t 6)),
 o 8 (.lent (t 7)),
 o 9 (.bin .sub (t 5) (t 8)),
 m 1 9])
 (.seq (.seq (.ops [m 10 1,
 o 11 (.bin .lss (t 10) (k 0))])
 (.cond (t 11) (.seq (.ops [o 4 (.mv (k (-1)))])
 (.ret)) (.skip)))
 (.seq (.ops [m 12 1,
 o 13 (.fa 1 (t 2)),
 o 14 (.load none (t 13)),
 o 15 (.lent (t 14)),
 o 16 (.bin .sub (t 12) (t 15)),
 m 1 16])
 (.seq (.seq (.ops [m 17 1,
 o 18 (.bin .lss (t 17) (k 0))])
 (.cond (t 18) (.seq (.ops [o 4 (.mv (k (-1)))])
 (.ret)) (.skip)))
 (.seq (.ops [m 19 1,
 m 4 19])
 (.ret))))))
theorem h_laws_szWrite : hF Tryz.prog n_laws_szWrite = some c_laws_szWrite.strip := by kernel_rfl
theorem r_laws_szWrite : rF Tryz.prog n_laws_szWrite = some ([.tmp 4], 20) := by kernel_rfl
-- 167 loop.example/g00850/laws.toWrite
abbrev n_laws_toWrite : Nat := 167
def c_laws_toWrite : AS :=
 .seq (.ops [o 1 (.box (t 0)),
 o 2 (.alloc (.agg #[.string ⟨⟨[]⟩⟩, .string ⟨⟨[]⟩⟩, .bool false]))])
 (.seq (.ops [o 3 (.alloc (.agg #[.string ⟨⟨[]⟩⟩, .string ⟨⟨[]⟩⟩, .bool false]))])
 (.seq (.ops [o 4 (.fa 0 (t 1)),
 o 5 (.load none (t 4)),
 o 6 (.fa 0 (t 3)),
 u (.store 1 (t 6) (t 5))])
 (.seq (.ops [o 7 (.fa 1 (t 1)),
 o 8 (.load none (t 7)),
 o 9 (.fa 1 (t 3)),
 u (.store 1 (t 9) (t 8))])
 (.seq (.ops [o 10 (.fa 2 (t 1)),
 o 11 (.load none (t 10)),
 o 12 (.fa 2 (t 3)),
 u (.store 1 (t 12) (t 11))])
 (.seq (.ops [o 13 (.load (some 3) (t 3)),
 u (.store 3 (t 2) (t 13))])
 (.ret))))))
theorem h_laws_toWrite : hF Tryz.prog n_laws_toWrite = some c_laws_toWrite.strip := by kernel_rfl
theorem r_laws_toWrite : rF Tryz.prog n_laws_toWrite = some ([.cell 2 188], 14) := by kernel_rfl
-- 168 loop.example/g00850/laws.eqWrite
abbrev n_laws_eqWrite : Nat := 168
def c_laws_eqWrite : AS :=
 .seq (.ops [o 2 (.box (t 0)),
 o 3 (.box (t 1)),
 o 4 (.mv ff)])
 (.seq (.seq (.ops [o 5 (.fa 0 (t 2)),
 o 6 (.load none (t 5)),
 o 7 (.fa 0 (t 3)),
 o 8 (.load none (t 7)),
 o 9 (.bin .neq (t 6) (t 8))])
 (.cond (t 9) (.seq (.ops [o 4 (.mv ff)])
 (.ret)) (.skip)))
 (.kept [2, 3] (.seq (.seq (.ops [o 10 (.fa 1 (t 2)),
 o 11 (.load none (t 10)),
 o 12 (.fa 1 (t 3)),
 o 13 (.load none (t 12)),
 o 14 (.bin .neq (t 11) (t 13))])
 (.cond (t 14) (.seq (.ops [o 4 (.mv ff)])
 (.ret)) (.skip)))
 (.kept [2, 3] (.seq (.seq (.ops [o 15 (.fa 2 (t 2)),
 o 16 (.load none (t 15)),
 o 17 (.fa 2 (t 3)),
 o 18 (.load none (t 17)),
 o 19 (.eqb true (t 16) (t 18))])
 (.cond (t 19) (.seq (.ops [o 4 (.mv ff)])
 (.ret)) (.skip)))
 (.kept [] (.seq (.ops [o 4 (.mv tt)])
 (.ret))))))))
theorem h_laws_eqWrite : hF Tryz.prog n_laws_eqWrite = some c_laws_eqWrite.strip := by kernel_rfl
theorem r_laws_eqWrite : rF Tryz.prog n_laws_eqWrite = some ([.tmp 4], 20) := by kernel_rfl

end Go.Proofs.Wb

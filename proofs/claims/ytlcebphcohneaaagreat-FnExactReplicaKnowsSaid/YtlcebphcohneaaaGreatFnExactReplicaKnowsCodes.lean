import Derived.Test.YtlcebphcohneaaaGreatProg
import Derived.Test.YtlcebphcohneaaaGreatAmAuto
import Derived.Test.YtlcebphcohneaaaGreatAmRaw
namespace Go.Proofs.Wb
open Go Go.Am Go.Am.K
@[go_sem] theorem w_7 : wide Tryz.prog 7 = some (some 4) := by kernel_rfl
@[go_sem] theorem w_8 : wide Tryz.prog 8 = some (some 4) := by kernel_rfl
@[go_sem] theorem w_13 : wide Tryz.prog 13 = some (some 2) := by kernel_rfl
@[go_sem] theorem w_14 : wide Tryz.prog 14 = some (some 2) := by kernel_rfl
@[go_sem] theorem w_18 : wide Tryz.prog 18 = some (some 1) := by kernel_rfl
@[go_sem] theorem w_19 : wide Tryz.prog 19 = some (some 1) := by kernel_rfl
@[go_sem] theorem w_23 : wide Tryz.prog 23 = some (some 3) := by kernel_rfl
@[go_sem] theorem w_24 : wide Tryz.prog 24 = some (some 3) := by kernel_rfl
@[go_sem] theorem w_29 : wide Tryz.prog 29 = some (some 3) := by kernel_rfl
@[go_sem] theorem w_30 : wide Tryz.prog 30 = some (some 3) := by kernel_rfl
@[go_sem] theorem w_42 : wide Tryz.prog 42 = some (some 4) := by kernel_rfl
@[go_sem] theorem w_43 : wide Tryz.prog 43 = some (some 4) := by kernel_rfl
@[go_sem] theorem w_59 : wide Tryz.prog 59 = some (some 4) := by kernel_rfl
@[go_sem] theorem w_60 : wide Tryz.prog 60 = some (some 4) := by kernel_rfl
@[go_sem] theorem w_63 : wide Tryz.prog 63 = some (some 7) := by kernel_rfl
@[go_sem] theorem w_64 : wide Tryz.prog 64 = some (some 7) := by kernel_rfl
@[go_sem] theorem w_71 : wide Tryz.prog 71 = some (some 7) := by kernel_rfl
@[go_sem] theorem w_72 : wide Tryz.prog 72 = some (some 7) := by kernel_rfl
@[go_sem] theorem w_123 : wide Tryz.prog 123 = some (some 3) := by kernel_rfl
@[go_sem] theorem w_124 : wide Tryz.prog 124 = some (some 3) := by kernel_rfl
@[go_sem] theorem w_126 : wide Tryz.prog 126 = some (some 5) := by kernel_rfl
@[go_sem] theorem w_127 : wide Tryz.prog 127 = some (some 5) := by kernel_rfl
@[go_sem] theorem w_131 : wide Tryz.prog 131 = some (some 3) := by kernel_rfl
@[go_sem] theorem w_132 : wide Tryz.prog 132 = some (some 3) := by kernel_rfl
@[go_sem] theorem w_139 : wide Tryz.prog 139 = some (some 3) := by kernel_rfl
@[go_sem] theorem w_140 : wide Tryz.prog 140 = some (some 3) := by kernel_rfl
@[go_sem] theorem w_144 : wide Tryz.prog 144 = some (some 2) := by kernel_rfl
@[go_sem] theorem w_145 : wide Tryz.prog 145 = some (some 2) := by kernel_rfl
@[go_sem] theorem w_155 : wide Tryz.prog 155 = some (some 3) := by kernel_rfl
@[go_sem] theorem w_156 : wide Tryz.prog 156 = some (some 3) := by kernel_rfl
@[go_sem] theorem w_158 : wide Tryz.prog 158 = some (some 3) := by kernel_rfl
@[go_sem] theorem w_159 : wide Tryz.prog 159 = some (some 3) := by kernel_rfl
@[go_sem] theorem w_163 : wide Tryz.prog 163 = some (some 2) := by kernel_rfl
@[go_sem] theorem w_164 : wide Tryz.prog 164 = some (some 2) := by kernel_rfl
@[go_sem] theorem w_166 : wide Tryz.prog 166 = some (some 5) := by kernel_rfl
@[go_sem] theorem w_167 : wide Tryz.prog 167 = some (some 5) := by kernel_rfl
@[go_sem] theorem w_169 : wide Tryz.prog 169 = some (some 3) := by kernel_rfl
@[go_sem] theorem w_185 : wide Tryz.prog 185 = some (some 3) := by kernel_rfl
@[go_sem] theorem w_200 : wide Tryz.prog 200 = some (some 8) := by kernel_rfl
@[go_sem] theorem w_201 : wide Tryz.prog 201 = some (some 8) := by kernel_rfl
@[go_sem] theorem w_243 : wide Tryz.prog 243 = some (some 8) := by kernel_rfl
@[go_sem] theorem w_244 : wide Tryz.prog 244 = some (some 8) := by kernel_rfl
@[go_sem] theorem w_252 : wide Tryz.prog 252 = some (some 3) := by kernel_rfl
@[go_sem] theorem w_294 : wide Tryz.prog 294 = some (some 4) := by kernel_rfl
@[go_sem] theorem w_295 : wide Tryz.prog 295 = some (some 4) := by kernel_rfl
@[go_sem] theorem w_305 : wide Tryz.prog 305 = some (some 11) := by kernel_rfl
@[go_sem] theorem w_306 : wide Tryz.prog 306 = some (some 11) := by kernel_rfl
abbrev n_laws_FnExactReplicaKnows : Nat := 3
def c_laws_FnExactReplicaKnows : AS :=
 .seq (.ops [o 3 (.box (t 0)),
 (o 6 (.mv ff))])
 (.seq (.ops [o 7 (.mv (k 1048576))])
 (.seq (.ops [o 13 (.load (some 3) (t 3)),
 m 14 7,
 (o 15 (.call 8 [(t 13), (t 14)])),
 m 7 15])
 (.seq (.seq (.ops [m 16 7,
 (o 17 (.bin .lss (t 16) (k 0)))])
 (.cond (t 17) (.seq (.ops [o 6 (.mv tt)])
 (.ret)) (.skip)))
 (.seq (.ops [o 19 (.load (some 3) (t 3)),
 (o 20 (.call 10 [(t 19)])),
 m 21 1,
 m 22 2,
 (o 23 (.call 9 [(t 20), (t 21), (t 22)])),
 m 18 23,
 (o 24 (.ext 0 (t 18))),
 (o 25 (.ext 1 (t 18))),
 m 8 24,
 m 9 25])
 (.kept [1, 2, 3, 8, 9] (.seq (.ops [o 26 (.load (some 3) (t 3)),
 (o 27 (.call 10 [(t 26)])),
 (o 10 (.alloc (.agg #[.slice none 0 0, .int .i64 0, .int .i64 0]))),
 (u (.store 3 (t 10) (t 27)))])
 (.seq (.ops [o 29 (.load (some 3) (t 10)),
 m 30 1,
 m 31 2,
 (o 32 (.call 11 [(t 29), (t 30), (t 31)])),
 m 28 32,
 (o 33 (.ext 0 (t 28))),
 (o 34 (.ext 1 (t 28))),
 m 11 33,
 m 12 34])
 (.kept [3, 8, 9, 10, 11, 12] (.seq (.seq (.ops [m 35 11,
 m 36 8,
 (o 37 (.eqb true (t 35) (t 36))),
 m 38 37,
 mg 39 38 false 12,
 mg 40 38 false 9,
 (g 41 38 false (.eqb true (t 39) (t 40))),
 (o 42 (.pick (t 38) tt (t 41)))])
 (.kept [3, 10, 42] (.cond (t 42) (.seq (.ops [o 6 (.mv ff)])
 (.ret)) (.skip))))
 (.kept [3, 10] (.seq (.seq (.rops [(none, o 43 (.load (some 3) (t 10))),
 (none, o 44 (.load (some 3) (t 3))),
 (some [o 43 (.load (some 3) (t 10))], o 45 (.call 10 [(t 44)])),
 (some [], o 46 (.call 12 [(t 43), (t 45)])),
 (none, o 47 (.not (t 46)))])
 (.cond (t 47) (.seq (.ops [o 6 (.mv ff)])
 (.ret)) (.skip)))
 (.kept [] (.seq (.ops [o 6 (.mv tt)])
 (.ret))))))))))))))
theorem h_laws_FnExactReplicaKnows : hF Tryz.prog n_laws_FnExactReplicaKnows = some c_laws_FnExactReplicaKnows.strip := by kernel_rfl
theorem r_laws_FnExactReplicaKnows : rF Tryz.prog n_laws_FnExactReplicaKnows = some ([.tmp 6], 48) := by kernel_rfl
abbrev n_laws_szGroup : Nat := 8
def c_laws_szGroup : AS :=
 .seq (.ops [o 2 (.box (t 0)),
 (o 4 (.mv (k 0)))])
 (.seq (.ops [o 5 (.fa 0 (t 2)),
 (o 6 (.load none (t 5))),
 m 7 1,
 (o 8 (.call 38 [(t 6), (t 7)])),
 m 1 8])
 (.seq (.seq (.ops [m 9 1,
 (o 10 (.bin .lss (t 9) (k 0)))])
 (.cond (t 10) (.seq (.ops [o 4 (.mv (k (-1)))])
 (.ret)) (.skip)))
 (.seq (.ops [m 11 1,
 m 4 11])
 (.ret))))
theorem h_laws_szGroup : hF Tryz.prog n_laws_szGroup = some c_laws_szGroup.strip := by kernel_rfl
theorem r_laws_szGroup : rF Tryz.prog n_laws_szGroup = some ([.tmp 4], 12) := by kernel_rfl
abbrev n_spec_ReplicaKnows : Nat := 9
def c_spec_ReplicaKnows : AS :=
 .seq (.ops [o 3 (.box (t 0)),
 (o 6 (.mv ff)),
 (o 7 (.mv ff))])
 (.seq (.seq (.ops [o 8 (.load (some 3) (t 3)),
 m 9 1,
 (o 10 (.call 39 [(t 8), (t 9)])),
 (o 11 (.not (t 10))),
 m 12 11,
 mg 13 12 false 2,
 (g 14 12 false (.call 40 [(t 13)])),
 (g 15 12 false (.not (t 14))),
 (o 16 (.pick (t 12) tt (t 15)))])
 (.kept [1, 2, 3, 16] (.cond (t 16) (.seq (.ops [o 6 (.mv ff),
 (o 7 (.mv ff))])
 (.ret)) (.skip))))
 (.kept [1, 2, 3] (.seq (.ops [o 17 (.load (some 3) (t 3)),
 m 18 1,
 (o 19 (.call 42 [(t 17), (t 18)])),
 (o 20 (.call 41 [(t 19)])),
 m 21 2,
 (o 22 (.bin .geq (t 20) (t 21))),
 m 6 22,
 (o 7 (.mv tt))])
 (.ret))))
theorem h_spec_ReplicaKnows : hF Tryz.prog n_spec_ReplicaKnows = some c_spec_ReplicaKnows.strip := by kernel_rfl
theorem r_spec_ReplicaKnows : rF Tryz.prog n_spec_ReplicaKnows = some ([.tmp 6, .tmp 7], 23) := by kernel_rfl
abbrev n_laws_toGroup : Nat := 10
def c_laws_toGroup : AS :=
 .seq (.ops [o 1 (.box (t 0)),
 (o 2 (.alloc (.agg #[.slice none 0 0, .int .i64 0, .int .i64 0])))])
 (.seq (.ops [o 3 (.alloc (.agg #[.slice none 0 0, .int .i64 0, .int .i64 0]))])
 (.seq (.ops [o 4 (.fa 0 (t 1)),
 (o 5 (.load none (t 4))),
 (o 6 (.call 43 [(t 5)])),
 (o 7 (.fa 0 (t 3))),
 (u (.store 1 (t 7) (t 6)))])
 (.seq (.ops [o 8 (.fa 1 (t 1)),
 (o 9 (.load none (t 8))),
 (o 10 (.fa 1 (t 3))),
 (u (.store 1 (t 10) (t 9)))])
 (.seq (.ops [o 11 (.fa 2 (t 1)),
 (o 12 (.load none (t 11))),
 (o 13 (.fa 2 (t 3))),
 (u (.store 1 (t 13) (t 12)))])
 (.seq (.ops [o 14 (.load (some 3) (t 3)),
 (u (.store 3 (t 2) (t 14)))])
 (.ret))))))
theorem h_laws_toGroup : hF Tryz.prog n_laws_toGroup = some c_laws_toGroup.strip := by kernel_rfl
theorem r_laws_toGroup : rF Tryz.prog n_laws_toGroup = some ([.cell 2 30], 15) := by kernel_rfl
abbrev n_impl_ReplicaKnows : Nat := 11
def c_impl_ReplicaKnows : AS :=
 .seq (.ops [o 3 (.box (t 0)),
 (o 6 (.mv ff)),
 (o 7 (.mv ff))])
 (.seq (.ops [o 11 (.load (some 3) (t 3)),
 m 12 1,
 (o 13 (.call 44 [(t 11), (t 12)])),
 m 10 13,
 (o 14 (.ext 0 (t 10))),
 (o 15 (.ext 1 (t 10))),
 (o 8 (.alloc (.agg #[.int .i64 0, .slice none 0 0, .slice none 0 0, .slice none 0 0]))),
 (u (.store 4 (t 8) (t 14))),
 m 9 15])
 (.kept [2, 8, 9] (.seq (.seq (.ops [m 16 9,
 (o 17 (.not (t 16))),
 m 18 17,
 mg 19 18 false 2,
 (g 20 18 false (.call 45 [(t 19)])),
 (g 21 18 false (.not (t 20))),
 (o 22 (.pick (t 18) tt (t 21)))])
 (.kept [2, 8, 22] (.cond (t 22) (.seq (.ops [o 6 (.mv ff),
 (o 7 (.mv ff))])
 (.ret)) (.skip))))
 (.kept [2, 8] (.seq (.ops [o 23 (.load (some 4) (t 8)),
 (o 24 (.call 46 [(t 23)])),
 m 25 2,
 (o 26 (.bin .geq (t 24) (t 25))),
 m 6 26,
 (o 7 (.mv tt))])
 (.ret))))))
theorem h_impl_ReplicaKnows : hF Tryz.prog n_impl_ReplicaKnows = some c_impl_ReplicaKnows.strip := by kernel_rfl
theorem r_impl_ReplicaKnows : rF Tryz.prog n_impl_ReplicaKnows = some ([.tmp 6, .tmp 7], 27) := by kernel_rfl
abbrev n_laws_eqGroup : Nat := 12
def c_laws_eqGroup : AS :=
 .seq (.ops [o 2 (.box (t 0)),
 (o 3 (.box (t 1))),
 (o 4 (.mv ff))])
 (.seq (.seq (.ops [o 5 (.fa 0 (t 2)),
 (o 6 (.load none (t 5))),
 (o 7 (.fa 0 (t 3))),
 (o 8 (.load none (t 7))),
 (o 9 (.call 47 [(t 6), (t 8)])),
 (o 10 (.not (t 9)))])
 (.cond (t 10) (.seq (.ops [o 4 (.mv ff)])
 (.ret)) (.skip)))
 (.kept [2, 3] (.seq (.seq (.ops [o 11 (.fa 1 (t 2)),
 (o 12 (.load none (t 11))),
 (o 13 (.fa 1 (t 3))),
 (o 14 (.load none (t 13))),
 (o 15 (.bin .neq (t 12) (t 14)))])
 (.cond (t 15) (.seq (.ops [o 4 (.mv ff)])
 (.ret)) (.skip)))
 (.kept [2, 3] (.seq (.seq (.ops [o 16 (.fa 2 (t 2)),
 (o 17 (.load none (t 16))),
 (o 18 (.fa 2 (t 3))),
 (o 19 (.load none (t 18))),
 (o 20 (.bin .neq (t 17) (t 19)))])
 (.cond (t 20) (.seq (.ops [o 4 (.mv ff)])
 (.ret)) (.skip)))
 (.kept [] (.seq (.ops [o 4 (.mv tt)])
 (.ret))))))))
theorem h_laws_eqGroup : hF Tryz.prog n_laws_eqGroup = some c_laws_eqGroup.strip := by kernel_rfl
theorem r_laws_eqGroup : rF Tryz.prog n_laws_eqGroup = some ([.tmp 4], 21) := by kernel_rfl
abbrev n_laws_szRec : Nat := 28
def c_laws_szRec : AS :=
 .seq (.ops [o 2 (.box (t 0)),
 (o 4 (.mv (k 0)))])
 (.seq (.ops [o 5 (.fa 4 (t 2)),
 (o 6 (.load none (t 5))),
 m 7 1,
 (o 8 (.call 72 [(t 6), (t 7)])),
 m 1 8])
 (.seq (.seq (.ops [m 9 1,
 (o 10 (.bin .lss (t 9) (k 0)))])
 (.cond (t 10) (.seq (.ops [o 4 (.mv (k (-1)))])
 (.ret)) (.skip)))
 (.seq (.ops [o 11 (.fa 5 (t 2)),
 (o 12 (.load none (t 11))),
 m 13 1,
 (o 14 (.call 73 [(t 12), (t 13)])),
 m 1 14])
 (.seq (.seq (.ops [m 15 1,
 (o 16 (.bin .lss (t 15) (k 0)))])
 (.cond (t 16) (.seq (.ops [o 4 (.mv (k (-1)))])
 (.ret)) (.skip)))
 (.seq (.ops [m 17 1,
 m 4 17])
 (.ret))))))
theorem h_laws_szRec : hF Tryz.prog n_laws_szRec = some c_laws_szRec.strip := by kernel_rfl
theorem r_laws_szRec : rF Tryz.prog n_laws_szRec = some ([.tmp 4], 18) := by kernel_rfl
abbrev n_laws_toRec : Nat := 31
def c_laws_toRec : AS :=
 .seq (.ops [o 1 (.box (t 0)),
 (o 2 (.alloc (.agg #[.int .i64 0, .int .i64 0, .int .i64 0, .int .i64 0, .slice none 0 0, .slice none 0 0, .bool false])))])
 (.seq (.ops [o 3 (.alloc (.agg #[.int .i64 0, .int .i64 0, .int .i64 0, .int .i64 0, .slice none 0 0, .slice none 0 0, .bool false]))])
 (.seq (.ops [o 4 (.fa 0 (t 1)),
 (o 5 (.load none (t 4))),
 (o 6 (.fa 0 (t 3))),
 (u (.store 1 (t 6) (t 5)))])
 (.seq (.ops [o 7 (.fa 1 (t 1)),
 (o 8 (.load none (t 7))),
 (o 9 (.fa 1 (t 3))),
 (u (.store 1 (t 9) (t 8)))])
 (.seq (.ops [o 10 (.fa 2 (t 1)),
 (o 11 (.load none (t 10))),
 (o 12 (.fa 2 (t 3))),
 (u (.store 1 (t 12) (t 11)))])
 (.seq (.ops [o 13 (.fa 3 (t 1)),
 (o 14 (.load none (t 13))),
 (o 15 (.fa 3 (t 3))),
 (u (.store 1 (t 15) (t 14)))])
 (.seq (.ops [o 16 (.fa 4 (t 1)),
 (o 17 (.load none (t 16))),
 (o 18 (.call 79 [(t 17)])),
 (o 19 (.fa 4 (t 3))),
 (u (.store 1 (t 19) (t 18)))])
 (.seq (.ops [o 20 (.fa 5 (t 1)),
 (o 21 (.load none (t 20))),
 (o 22 (.call 80 [(t 21)])),
 (o 23 (.fa 5 (t 3))),
 (u (.store 1 (t 23) (t 22)))])
 (.seq (.ops [o 24 (.fa 6 (t 1)),
 (o 25 (.load none (t 24))),
 (o 26 (.fa 6 (t 3))),
 (u (.store 1 (t 26) (t 25)))])
 (.seq (.ops [o 27 (.load (some 7) (t 3)),
 (u (.store 7 (t 2) (t 27)))])
 (.ret))))))))))
theorem h_laws_toRec : hF Tryz.prog n_laws_toRec = some c_laws_toRec.strip := by kernel_rfl
theorem r_laws_toRec : rF Tryz.prog n_laws_toRec = some ([.cell 2 72], 28) := by kernel_rfl
abbrev n_laws_eqRec : Nat := 33
def c_laws_eqRec : AS :=
 .seq (.ops [o 2 (.box (t 0)),
 (o 3 (.box (t 1))),
 (o 4 (.mv ff))])
 (.seq (.seq (.ops [o 5 (.fa 0 (t 2)),
 (o 6 (.load none (t 5))),
 (o 7 (.fa 0 (t 3))),
 (o 8 (.load none (t 7))),
 (o 9 (.bin .neq (t 6) (t 8)))])
 (.cond (t 9) (.seq (.ops [o 4 (.mv ff)])
 (.ret)) (.skip)))
 (.kept [2, 3] (.seq (.seq (.ops [o 10 (.fa 1 (t 2)),
 (o 11 (.load none (t 10))),
 (o 12 (.fa 1 (t 3))),
 (o 13 (.load none (t 12))),
 (o 14 (.bin .neq (t 11) (t 13)))])
 (.cond (t 14) (.seq (.ops [o 4 (.mv ff)])
 (.ret)) (.skip)))
 (.kept [2, 3] (.seq (.seq (.ops [o 15 (.fa 2 (t 2)),
 (o 16 (.load none (t 15))),
 (o 17 (.fa 2 (t 3))),
 (o 18 (.load none (t 17))),
 (o 19 (.bin .neq (t 16) (t 18)))])
 (.cond (t 19) (.seq (.ops [o 4 (.mv ff)])
 (.ret)) (.skip)))
 (.kept [2, 3] (.seq (.seq (.ops [o 20 (.fa 3 (t 2)),
 (o 21 (.load none (t 20))),
 (o 22 (.fa 3 (t 3))),
 (o 23 (.load none (t 22))),
 (o 24 (.bin .neq (t 21) (t 23)))])
 (.cond (t 24) (.seq (.ops [o 4 (.mv ff)])
 (.ret)) (.skip)))
 (.kept [2, 3] (.seq (.seq (.ops [o 25 (.fa 4 (t 2)),
 (o 26 (.load none (t 25))),
 (o 27 (.fa 4 (t 3))),
 (o 28 (.load none (t 27))),
 (o 29 (.call 83 [(t 26), (t 28)])),
 (o 30 (.not (t 29)))])
 (.cond (t 30) (.seq (.ops [o 4 (.mv ff)])
 (.ret)) (.skip)))
 (.kept [2, 3] (.seq (.seq (.ops [o 31 (.fa 5 (t 2)),
 (o 32 (.load none (t 31))),
 (o 33 (.fa 5 (t 3))),
 (o 34 (.load none (t 33))),
 (o 35 (.call 84 [(t 32), (t 34)])),
 (o 36 (.not (t 35)))])
 (.cond (t 36) (.seq (.ops [o 4 (.mv ff)])
 (.ret)) (.skip)))
 (.kept [2, 3] (.seq (.seq (.ops [o 37 (.fa 6 (t 2)),
 (o 38 (.load none (t 37))),
 (o 39 (.fa 6 (t 3))),
 (o 40 (.load none (t 39))),
 (o 41 (.eqb true (t 38) (t 40)))])
 (.cond (t 41) (.seq (.ops [o 4 (.mv ff)])
 (.ret)) (.skip)))
 (.kept [] (.seq (.ops [o 4 (.mv tt)])
 (.ret))))))))))))))))
theorem h_laws_eqRec : hF Tryz.prog n_laws_eqRec = some c_laws_eqRec.strip := by kernel_rfl
theorem r_laws_eqRec : rF Tryz.prog n_laws_eqRec = some ([.tmp 4], 42) := by kernel_rfl
abbrev n_laws_szReplicaS : Nat := 38
def c_laws_szReplicaS_l1 : AS :=
 .seq (.seq (.ops [m 12 5,
 m 13 0,
 (o 14 (.lens (t 13))),
 (o 15 (.bin .lss (t 12) (t 14)))])
 (.cond (t 15) (.skip) (.exit 0)))
 (.seq (.block 1 (.seq (.post [(20, 1, [(1, 8)])] (.ops [m 18 0,
 m 19 5,
 (o 20 (.ia 3 (t 18) (t 19))),
 (o 21 (.load (some 3) (t 20))),
 m 22 1,
 (o 23 (.call 90 [(t 21), (t 22)])),
 m 1 23]))
 (.kept [0, 1, 5] (.seq (.ops [m 24 1,
 (o 25 (.bin .lss (t 24) (k 0)))])
 (.cond (t 25) (.seq (.ops [o 4 (.mv (k (-1)))])
 (.ret)) (.skip))))))
 (.kept [0, 1, 5] (.ops [m 16 5,
 (o 17 (.bin .add (t 16) (k 1))),
 m 5 17])))
def c_laws_szReplicaS : AS :=
 .seq (.ops [o 4 (.mv (k 0))])
 (.seq (.ops [m 6 1,
 m 7 0,
 (o 8 (.lens (t 7))),
 (o 9 (.bin .sub (t 6) (t 8))),
 m 1 9])
 (.seq (.seq (.ops [m 10 1,
 (o 11 (.bin .lss (t 10) (k 0)))])
 (.cond (t 11) (.seq (.ops [o 4 (.mv (k (-1)))])
 (.ret)) (.skip)))
 (.seq (.seq (.ops [o 5 (.mv (k 0))])
 (.block 0 (.loop 2 [(0, 0), (1, 0), (5, 0)] c_laws_szReplicaS_l1)))
 (.kept [1] (.seq (.ops [m 26 1,
 m 4 26])
 (.ret))))))
theorem h_laws_szReplicaS : hF Tryz.prog n_laws_szReplicaS = some c_laws_szReplicaS.strip := by kernel_rfl
theorem r_laws_szReplicaS : rF Tryz.prog n_laws_szReplicaS = some ([.tmp 4], 27) := by kernel_rfl
abbrev n_spec_l17Rep : Nat := 39
def c_spec_l17Rep : AS :=
 .seq (.ops [o 2 (.box (t 0)),
 (o 4 (.mv ff))])
 (.seq (.ops [o 5 (.load (some 3) (t 2)),
 (o 6 (.call 85 [(t 5)])),
 m 7 6,
 mg 8 7 true 1,
 (g 9 7 true (.fa 0 (t 2))),
 (g 10 7 true (.load none (t 9))),
 (g 11 7 true (.lens (t 10))),
 (g 12 7 true (.bin .sub (t 11) (k 1))),
 (g 13 7 true (.call 91 [(t 8), (k 0), (t 12)])),
 (o 14 (.pick (t 7) (t 13) ff)),
 m 4 14])
 (.ret))
theorem h_spec_l17Rep : hF Tryz.prog n_spec_l17Rep = some c_spec_l17Rep.strip := by kernel_rfl
theorem r_spec_l17Rep : rF Tryz.prog n_spec_l17Rep = some ([.tmp 4], 15) := by kernel_rfl
abbrev n_spec_l2True : Nat := 40
def c_spec_l2True : AS :=
 .seq (.ops [o 2 (.mv ff)])
 (.seq (.ops [m 3 0,
 (o 4 (.call 91 [(t 3), (k 0), (k 100000)])),
 m 2 4])
 (.ret))
theorem h_spec_l2True : hF Tryz.prog n_spec_l2True = some c_spec_l2True.strip := by kernel_rfl
theorem r_spec_l2True : rF Tryz.prog n_spec_l2True = some ([.tmp 2], 5) := by kernel_rfl
abbrev n_spec_l13Settled : Nat := 41
def c_spec_l13Settled_l1 : AS :=
 .seq (.ops [o 12 (.bin .lss (t 11) (t 10))])
 (.seq (.cond (t 12) (.skip) (.exit 0))
 (.seq (.block 1 (.seq (.post [(13, 1, [(3, 1), (4, 3)])] (.ops [o 13 (.ia 5 (t 9) (t 11)),
 (o 14 (.load (some 5) (t 13))),
 (o 5 (.alloc (.agg #[.int .i64 0, .int .i64 0, .int .i64 0, .slice none 0 0, .slice none 0 0]))),
 (u (.store 5 (t 5) (t 14)))]))
 (.ops [m 15 3,
 (o 16 (.fa 1 (t 5))),
 (o 17 (.load none (t 16))),
 (o 18 (.bin .sub (t 17) (k 1))),
 (o 19 (.call 92 [(t 15), (t 18)])),
 m 3 19])))
 (.kept [3, 9, 10, 11] (.ops [o 20 (.bin .add (t 11) (k 1)),
 m 11 20]))))
def c_spec_l13Settled : AS :=
 .seq (.ops [o 1 (.box (t 0)),
 (o 2 (.mv (k 0)))])
 (.seq (.ops [o 6 (.fa 0 (t 1)),
 (o 7 (.load none (t 6))),
 m 3 7])
 (.seq (.seq (.ops [o 8 (.fa 2 (t 1)),
 (o 9 (.load none (t 8))),
 (o 10 (.lens (t 9))),
 (o 11 (.mv (k 0)))])
 (.block 0 (.loop 1 [(3, 0), (9, 0), (10, 0), (11, 0)] c_spec_l13Settled_l1)))
 (.kept [3] (.seq (.ops [m 21 3,
 m 2 21])
 (.ret)))))
theorem h_spec_l13Settled : hF Tryz.prog n_spec_l13Settled = some c_spec_l13Settled.strip := by kernel_rfl
theorem r_spec_l13Settled : rF Tryz.prog n_spec_l13Settled = some ([.tmp 2], 22) := by kernel_rfl
abbrev n_spec_l17Knows : Nat := 42
def c_spec_l17Knows : AS :=
 .seq (.ops [o 2 (.box (t 0)),
 (o 4 (.alloc (.agg #[.int .i64 0, .slice none 0 0, .slice none 0 0, .slice none 0 0])))])
 (.seq (.pre [o 5 (.fa 0 (t 2)), o 6 (.load none (t 5)), m 7 1, o 8 (.ia 3 (t 6) (t 7)), o 9 (.fa 1 (t 8))] 9 10 (.post [(8, 1, [(1, 8)])] (.rops [(none, o 5 (.fa 0 (t 2))),
 (none, o 6 (.load none (t 5))),
 (none, m 7 1),
 (none, o 8 (.ia 3 (t 6) (t 7))),
 (none, o 9 (.fa 1 (t 8))),
 (none, o 10 (.load none (t 9))),
 (none, o 11 (.fa 0 (t 2))),
 (none, o 12 (.load none (t 11))),
 (none, m 13 1),
 (none, o 14 (.ia 3 (t 12) (t 13))),
 (none, o 15 (.fa 2 (t 14))),
 (none, o 16 (.load none (t 15))),
 (some [], o 17 (.call 93 [(t 10), (t 16)])),
 (some [], u (.store 4 (t 4) (t 17)))])))
 (.ret))
theorem h_spec_l17Knows : hF Tryz.prog n_spec_l17Knows = some c_spec_l17Knows.strip := by kernel_rfl
theorem r_spec_l17Knows : rF Tryz.prog n_spec_l17Knows = some ([.cell 4 43], 18) := by kernel_rfl
abbrev n_laws_toReplicaS : Nat := 43
def c_laws_toReplicaS_l1 : AS :=
 .seq (.seq (.ops [m 8 4,
 m 9 0,
 (o 10 (.lens (t 9))),
 (o 11 (.bin .lss (t 8) (t 10)))])
 (.cond (t 11) (.skip) (.exit 0)))
 (.seq (.block 1 (.post [(21, 1, [(1, 8)]), (18, 1, [(1, 8)])] (.ops [m 14 3,
 m 15 4,
 m 16 0,
 m 17 4,
 (o 18 (.ia 3 (t 16) (t 17))),
 (o 19 (.load (some 3) (t 18))),
 (o 20 (.call 94 [(t 19)])),
 (o 21 (.ia 3 (t 14) (t 15))),
 (u (.store 3 (t 21) (t 20)))])))
 (.kept [0, 3, 4] (.ops [m 12 4,
 (o 13 (.bin .add (t 12) (k 1))),
 m 4 13])))
def c_laws_toReplicaS : AS :=
 .seq (.ops [o 2 (.mv (.const (.slice none 0 0)))])
 (.seq (.ops [m 5 0,
 (o 6 (.lens (t 5))),
 (o 7 (.mks 3 40 (.agg #[.bool false, .slice none 0 0, .int .i64 0]) (t 6) (t 6))),
 m 3 7])
 (.seq (.seq (.ops [o 4 (.mv (k 0))])
 (.block 0 (.loop 1 [(0, 0), (3, 0), (4, 0)] c_laws_toReplicaS_l1)))
 (.kept [3] (.seq (.ops [m 22 3,
 m 2 22])
 (.ret)))))
theorem h_laws_toReplicaS : hF Tryz.prog n_laws_toReplicaS = some c_laws_toReplicaS.strip := by kernel_rfl
theorem r_laws_toReplicaS : rF Tryz.prog n_laws_toReplicaS = some ([.tmp 2], 23) := by kernel_rfl
abbrev n_impl_replicaState : Nat := 44
def c_impl_replicaState : AS :=
 .seq (.ops [o 2 (.box (t 0)),
 (o 4 (.alloc (.agg #[.int .i64 0, .slice none 0 0, .slice none 0 0, .slice none 0 0]))),
 (o 5 (.mv ff))])
 (.seq (.seq (.ops [o 6 (.load (some 3) (t 2)),
 (o 7 (.call 87 [(t 6)])),
 (o 8 (.not (t 7))),
 m 9 8,
 (g 10 9 false (.load (some 3) (t 2))),
 mg 11 9 false 1,
 (g 12 9 false (.call 95 [(t 10), (t 11)])),
 (g 13 9 false (.not (t 12))),
 (o 14 (.pick (t 9) tt (t 13)))])
 (.kept [1, 2, 4, 14] (.cond (t 14) (.seq (.ops [o 15 (.build (.agg #[.int .i64 0, .slice none 0 0, .slice none 0 0, .slice none 0 0]) []),
 (u (.store 4 (t 4) (t 15))),
 (o 5 (.mv ff))])
 (.ret)) (.skip))))
 (.kept [1, 2, 4] (.seq (.post [(19, 1, [(1, 8)])] (.ops [o 16 (.fa 0 (t 2)),
 (o 17 (.load none (t 16))),
 m 18 1,
 (o 19 (.ia 3 (t 17) (t 18))),
 (o 20 (.load (some 3) (t 19))),
 (o 21 (.call 97 [(t 20)])),
 (o 22 (.call 96 [(t 21)])),
 (u (.store 4 (t 4) (t 22))),
 (o 5 (.mv tt))]))
 (.ret))))
theorem h_impl_replicaState : hF Tryz.prog n_impl_replicaState = some c_impl_replicaState.strip := by kernel_rfl
theorem r_impl_replicaState : rF Tryz.prog n_impl_replicaState = some ([.cell 4 43, .tmp 5], 23) := by kernel_rfl
abbrev n_impl_isTrue : Nat := 45
def c_impl_isTrue : AS :=
 .seq (.ops [o 2 (.mv ff)])
 (.seq (.ops [m 3 0,
 (o 4 (.call 98 [(t 3), (k 0), (k 100000)])),
 m 2 4])
 (.ret))
theorem h_impl_isTrue : hF Tryz.prog n_impl_isTrue = some c_impl_isTrue.strip := by kernel_rfl
theorem r_impl_isTrue : rF Tryz.prog n_impl_isTrue = some ([.tmp 2], 5) := by kernel_rfl
abbrev n_impl_State_settled : Nat := 46
def c_impl_State_settled_l1 : AS :=
 .seq (.ops [o 12 (.bin .lss (t 11) (t 10))])
 (.seq (.cond (t 12) (.skip) (.exit 0))
 (.seq (.block 1 (.seq (.post [(13, 1, [(3, 1), (4, 3)])] (.ops [o 13 (.ia 5 (t 9) (t 11)),
 (o 14 (.load (some 5) (t 13))),
 (o 5 (.alloc (.agg #[.int .i64 0, .int .i64 0, .int .i64 0, .slice none 0 0, .slice none 0 0]))),
 (u (.store 5 (t 5) (t 14)))]))
 (.ops [m 15 3,
 (o 16 (.fa 1 (t 5))),
 (o 17 (.load none (t 16))),
 (o 18 (.bin .sub (t 17) (k 1))),
 (o 19 (.bmin [(t 15), (t 18)])),
 m 3 19])))
 (.kept [3, 9, 10, 11] (.ops [o 20 (.bin .add (t 11) (k 1)),
 m 11 20]))))
def c_impl_State_settled : AS :=
 .seq (.ops [o 1 (.box (t 0)),
 (o 2 (.mv (k 0)))])
 (.seq (.ops [o 6 (.fa 0 (t 1)),
 (o 7 (.load none (t 6))),
 m 3 7])
 (.seq (.seq (.ops [o 8 (.fa 2 (t 1)),
 (o 9 (.load none (t 8))),
 (o 10 (.lens (t 9))),
 (o 11 (.mv (k 0)))])
 (.block 0 (.loop 1 [(3, 0), (9, 0), (10, 0), (11, 0)] c_impl_State_settled_l1)))
 (.kept [3] (.seq (.ops [m 21 3,
 m 2 21])
 (.ret)))))
theorem h_impl_State_settled : hF Tryz.prog n_impl_State_settled = some c_impl_State_settled.strip := by kernel_rfl
theorem r_impl_State_settled : rF Tryz.prog n_impl_State_settled = some ([.tmp 2], 22) := by kernel_rfl
abbrev n_laws_eqReplicaS : Nat := 47
def c_laws_eqReplicaS_l1 : AS :=
 .seq (.seq (.ops [m 11 5,
 m 12 0,
 (o 13 (.lens (t 12))),
 (o 14 (.bin .lss (t 11) (t 13)))])
 (.cond (t 14) (.skip) (.exit 0)))
 (.seq (.block 1 (.seq (.post [(23, 1, [(1, 8)]), (19, 1, [(1, 8)])] (.rops [(none, m 17 0),
 (none, m 18 5),
 (none, o 19 (.ia 3 (t 17) (t 18))),
 (none, o 20 (.load (some 3) (t 19))),
 (none, m 21 1),
 (none, m 22 5),
 (none, o 23 (.ia 3 (t 21) (t 22))),
 (none, o 24 (.load (some 3) (t 23))),
 (some [], o 25 (.call 99 [(t 20), (t 24)])),
 (none, o 26 (.not (t 25)))]))
 (.kept [0, 1, 5, 26] (.cond (t 26) (.seq (.ops [o 4 (.mv ff)])
 (.ret)) (.skip)))))
 (.kept [0, 1, 5] (.ops [m 15 5,
 (o 16 (.bin .add (t 15) (k 1))),
 m 5 16])))
def c_laws_eqReplicaS : AS :=
 .seq (.ops [o 4 (.mv ff)])
 (.seq (.seq (.ops [m 6 0,
 (o 7 (.lens (t 6))),
 m 8 1,
 (o 9 (.lens (t 8))),
 (o 10 (.bin .neq (t 7) (t 9)))])
 (.cond (t 10) (.seq (.ops [o 4 (.mv ff)])
 (.ret)) (.skip)))
 (.kept [0, 1] (.seq (.seq (.ops [o 5 (.mv (k 0))])
 (.block 0 (.loop 2 [(0, 0), (1, 0), (5, 0)] c_laws_eqReplicaS_l1)))
 (.kept [] (.seq (.ops [o 4 (.mv tt)])
 (.ret))))))
theorem h_laws_eqReplicaS : hF Tryz.prog n_laws_eqReplicaS = some c_laws_eqReplicaS.strip := by kernel_rfl
theorem r_laws_eqReplicaS : rF Tryz.prog n_laws_eqReplicaS = some ([.tmp 4], 27) := by kernel_rfl
abbrev n_spec_l3Key : Nat := 48
def c_spec_l3Key : AS :=
 .seq (.ops [o 2 (.mv ff)])
 (.seq (.ops [m 3 0,
 (o 4 (.lent (t 3))),
 (o 5 (.call 91 [(t 4), (k 1), (k 12)])),
 m 6 5,
 mg 7 6 true 0,
 (g 8 6 true (.call 100 [(t 7), (.const (.string ⟨⟨[46, 47]⟩⟩))])),
 (o 9 (.pick (t 6) (t 8) ff)),
 m 2 9])
 (.ret))
theorem h_spec_l3Key : hF Tryz.prog n_spec_l3Key = some c_spec_l3Key.strip := by kernel_rfl
theorem r_spec_l3Key : rF Tryz.prog n_spec_l3Key = some ([.tmp 2], 10) := by kernel_rfl
abbrev n_impl_GoodKey : Nat := 50
def c_impl_GoodKey : AS :=
 .seq (.ops [o 2 (.mv ff)])
 (.seq (.ops [m 3 0,
 (o 4 (.lent (t 3))),
 (o 5 (.call 98 [(t 4), (k 1), (k 12)])),
 m 6 5,
 mg 7 6 true 0,
 (g 8 6 true (.call 103 [(t 7), (.const (.string ⟨⟨[46, 47]⟩⟩))])),
 (o 9 (.pick (t 6) (t 8) ff)),
 m 2 9])
 (.ret))
theorem h_impl_GoodKey : hF Tryz.prog n_impl_GoodKey = some c_impl_GoodKey.strip := by kernel_rfl
theorem r_impl_GoodKey : rF Tryz.prog n_impl_GoodKey = some ([.tmp 2], 10) := by kernel_rfl
abbrev n_spec_l4Good : Nat := 52
def c_spec_l4Good : AS :=
 .seq (.ops [o 1 (.box (t 0)),
 (o 2 (.mv ff))])
 (.seq (.seq (.ops [o 3 (.fa 0 (t 1)),
 (o 4 (.load none (t 3))),
 (o 5 (.bin .neq (t 4) (k 1))),
 m 6 5,
 (g 7 6 true (.fa 3 (t 1))),
 (g 8 6 true (.load none (t 7))),
 (g 9 6 true (.bin .neq (t 8) (k 0))),
 mg 10 6 true 9,
 (g 11 10 false (.fa 4 (t 1))),
 (g 12 10 false (.load none (t 11))),
 (g 13 10 false (.lens (t 12))),
 (g 14 10 false (.fa 5 (t 1))),
 (g 15 10 false (.load none (t 14))),
 (g 16 10 false (.lens (t 15))),
 (g 17 10 false (.bin .add (t 13) (t 16))),
 (g 18 10 false (.bin .gtr (t 17) (k 0))),
 (g 19 6 true (.pick (t 10) tt (t 18))),
 (o 20 (.pick (t 6) (t 19) ff))])
 (.kept [1, 20] (.cond (t 20) (.seq (.ops [o 2 (.mv ff)])
 (.ret)) (.skip))))
 (.kept [1] (.seq (.seq (.ops [o 21 (.fa 0 (t 1)),
 (o 22 (.load none (t 21)))])
 (.block 0 (.seq (.ops [o 24 (.bin .eql (t 22) (k 1)),
 m 23 24])
 (.cond (t 23) (.seq (.ops [o 25 (.fa 1 (t 1)),
 (o 26 (.load none (t 25))),
 (o 27 (.call 91 [(t 26), (k 1), (k 60)])),
 m 28 27,
 (g 29 28 true (.fa 2 (t 1))),
 (g 30 28 true (.load none (t 29))),
 (g 31 28 true (.call 106 [(t 30)])),
 (o 32 (.pick (t 28) (t 31) ff)),
 m 33 32,
 (g 34 33 true (.fa 3 (t 1))),
 (g 35 33 true (.load none (t 34))),
 (g 36 33 true (.call 91 [(t 35), (k 0), (k 3)])),
 (o 37 (.pick (t 33) (t 36) ff)),
 m 38 37,
 (g 39 38 true (.fa 4 (t 1))),
 (g 40 38 true (.load none (t 39))),
 (g 41 38 true (.call 107 [(t 40)])),
 (o 42 (.pick (t 38) (t 41) ff)),
 m 43 42,
 (g 44 43 true (.fa 5 (t 1))),
 (g 45 43 true (.load none (t 44))),
 (g 46 43 true (.call 108 [(t 45)])),
 (o 47 (.pick (t 43) (t 46) ff)),
 m 48 47,
 (g 49 48 true (.fa 5 (t 1))),
 (g 50 48 true (.load none (t 49))),
 (g 51 48 true (.lens (t 50))),
 (g 52 48 true (.call 91 [(t 51), (k 0), (k 8)])),
 (o 53 (.pick (t 48) (t 52) ff)),
 m 54 53,
 (g 55 54 true (.fa 4 (t 1))),
 (g 56 54 true (.load none (t 55))),
 (g 57 54 true (.lens (t 56))),
 (g 58 54 true (.fa 5 (t 1))),
 (g 59 54 true (.load none (t 58))),
 (g 60 54 true (.lens (t 59))),
 (g 61 54 true (.bin .add (t 57) (t 60))),
 (g 62 54 true (.bin .gtr (t 61) (k 0))),
 (o 63 (.pick (t 54) (t 62) ff)),
 m 64 63,
 (g 65 64 true (.fa 6 (t 1))),
 (g 66 64 true (.load none (t 65))),
 (g 67 64 true (.not (t 66))),
 (o 68 (.pick (t 64) (t 67) ff)),
 m 2 68])
 (.ret)) (.seq (.seq (.ops [o 70 (.bin .eql (t 22) (k 2)),
 m 69 70])
 (.cond (t 69) (.skip) (.ops [o 71 (.bin .eql (t 22) (k 3)),
 m 69 71])))
 (.cond (t 69) (.seq (.ops [o 72 (.fa 1 (t 1)),
 (o 73 (.load none (t 72))),
 (o 74 (.call 91 [(t 73), (k 1), (k 60)])),
 m 75 74,
 (g 76 75 true (.fa 6 (t 1))),
 (g 77 75 true (.load none (t 76))),
 mg 78 75 true 77,
 (g 79 78 true (.fa 2 (t 1))),
 (g 80 78 true (.load none (t 79))),
 (g 81 78 true (.call 106 [(t 80)])),
 (g 82 75 true (.pick (t 78) (t 81) ff)),
 mg 83 75 true 82,
 (g 84 83 false (.fa 6 (t 1))),
 (g 85 83 false (.load none (t 84))),
 (g 86 83 false (.not (t 85))),
 mg 87 83 false 86,
 (g 88 87 true (.fa 2 (t 1))),
 (g 89 87 true (.load none (t 88))),
 (g 90 87 true (.bin .eql (t 89) (k 0))),
 (g 91 83 false (.pick (t 87) (t 90) ff)),
 (g 92 75 true (.pick (t 83) tt (t 91))),
 (o 93 (.pick (t 75) (t 92) ff)),
 m 2 93])
 (.ret)) (.skip)))))))
 (.kept [1] (.seq (.ops [o 94 (.fa 0 (t 1)),
 (o 95 (.load none (t 94))),
 (o 96 (.bin .eql (t 95) (k 4))),
 m 97 96,
 (g 98 97 true (.fa 1 (t 1))),
 (g 99 97 true (.load none (t 98))),
 (g 100 97 true (.bin .eql (t 99) (k 0))),
 (o 101 (.pick (t 97) (t 100) ff)),
 m 102 101,
 (g 103 102 true (.fa 2 (t 1))),
 (g 104 102 true (.load none (t 103))),
 (g 105 102 true (.call 106 [(t 104)])),
 (o 106 (.pick (t 102) (t 105) ff)),
 m 107 106,
 (g 108 107 true (.fa 6 (t 1))),
 (g 109 107 true (.load none (t 108))),
 (g 110 107 true (.not (t 109))),
 (o 111 (.pick (t 107) (t 110) ff)),
 m 2 111])
 (.ret))))))
theorem h_spec_l4Good : hF Tryz.prog n_spec_l4Good = some c_spec_l4Good.strip := by kernel_rfl
theorem r_spec_l4Good : rF Tryz.prog n_spec_l4Good = some ([.tmp 2], 112) := by kernel_rfl
abbrev n_spec_l13Of : Nat := 53
def c_spec_l13Of_l1 : AS :=
 .seq (.ops [o 13 (.bin .lss (t 12) (t 11))])
 (.seq (.cond (t 13) (.skip) (.exit 0))
 (.seq (.block 1 (.seq (.post [(14, 1, [(4, 1), (5, 3)])] (.ops [o 14 (.ia 7 (t 10) (t 12)),
 (o 15 (.load (some 7) (t 14))),
 (o 7 (.alloc (.agg #[.int .i64 0, .int .i64 0, .int .i64 0, .int .i64 0, .slice none 0 0, .slice none 0 0, .bool false]))),
 (u (.store 7 (t 7) (t 15)))]))
 (.seq (.ops [o 17 (.load (some 4) (t 4)),
 (o 18 (.load (some 7) (t 7))),
 (o 19 (.call 75 [(t 17), (t 18)])),
 m 16 19,
 (o 20 (.ext 0 (t 16))),
 (o 21 (.ext 1 (t 16))),
 (o 8 (.alloc (.agg #[.int .i64 0, .slice none 0 0, .slice none 0 0, .slice none 0 0]))),
 (u (.store 4 (t 8) (t 20))),
 m 9 21])
 (.kept [2, 4, 5, 8, 9, 10, 11, 12] (.seq (.seq (.ops [m 22 9])
 (.cond (t 22) (.ops [o 23 (.load (some 4) (t 8)),
 (u (.store 4 (t 4) (t 23)))]) (.skip)))
 (.ops [m 24 5,
 m 25 9,
 (o 26 (.bsl 1 (.bool false) 1 [(0, (t 25))])),
 (o 27 (.app 1 1 (.bool false) (t 24) (t 26))),
 m 5 27]))))))
 (.kept [2, 4, 5, 10, 11, 12] (.ops [o 28 (.bin .add (t 12) (k 1)),
 m 12 28]))))
def c_spec_l13Of : AS :=
 .seq (.ops [o 2 (.alloc (.agg #[.int .i64 0, .slice none 0 0, .slice none 0 0, .slice none 0 0])),
 (o 3 (.mv (.const (.slice none 0 0))))])
 (.seq (.ops [o 4 (.alloc (.agg #[.int .i64 0, .slice none 0 0, .slice none 0 0, .slice none 0 0]))])
 (.seq (.ops [o 5 (.mv (.const (.slice none 0 0)))])
 (.seq (.seq (.ops [m 10 0,
 (o 11 (.lens (t 10))),
 (o 12 (.mv (k 0)))])
 (.block 0 (.loop 1 [(2, 0), (4, 0), (5, 1), (10, 0), (11, 0), (12, 0)] c_spec_l13Of_l1)))
 (.kept [2, 4, 5] (.seq (.ops [o 29 (.load (some 4) (t 4)),
 m 30 5,
 (u (.store 4 (t 2) (t 29))),
 m 3 30])
 (.ret))))))
theorem h_spec_l13Of : hF Tryz.prog n_spec_l13Of = some c_spec_l13Of.strip := by kernel_rfl
theorem r_spec_l13Of : rF Tryz.prog n_spec_l13Of = some ([.cell 2 43, .tmp 3], 31) := by kernel_rfl
abbrev n_impl_GoodRec : Nat := 56
def c_impl_GoodRec : AS :=
 .seq (.ops [o 1 (.box (t 0)),
 (o 2 (.mv ff))])
 (.seq (.ops [o 4 (.fa 3 (t 1)),
 (o 5 (.load none (t 4))),
 (o 6 (.bin .eql (t 5) (k 0))),
 m 7 6,
 (g 8 7 true (.fa 4 (t 1))),
 (g 9 7 true (.load none (t 8))),
 (g 10 7 true (.lens (t 9))),
 (g 11 7 true (.bin .eql (t 10) (k 0))),
 (o 12 (.pick (t 7) (t 11) ff)),
 m 13 12,
 (g 14 13 true (.fa 5 (t 1))),
 (g 15 13 true (.load none (t 14))),
 (g 16 13 true (.lens (t 15))),
 (g 17 13 true (.bin .eql (t 16) (k 0))),
 (o 18 (.pick (t 13) (t 17) ff)),
 m 3 18])
 (.kept [1, 3] (.seq (.seq (.ops [o 19 (.fa 0 (t 1)),
 (o 20 (.load none (t 19)))])
 (.block 0 (.seq (.ops [o 22 (.bin .eql (t 20) (k 1)),
 m 21 22])
 (.cond (t 21) (.seq (.ops [o 23 (.fa 1 (t 1)),
 (o 24 (.load none (t 23))),
 (o 25 (.call 110 [(t 24)])),
 m 26 25,
 (g 27 26 true (.fa 2 (t 1))),
 (g 28 26 true (.load none (t 27))),
 (g 29 26 true (.call 111 [(t 28)])),
 (o 30 (.pick (t 26) (t 29) ff)),
 m 31 30,
 (g 32 31 true (.fa 3 (t 1))),
 (g 33 31 true (.load none (t 32))),
 (g 34 31 true (.call 98 [(t 33), (k 0), (k 3)])),
 (o 35 (.pick (t 31) (t 34) ff)),
 m 36 35,
 (g 37 36 true (.fa 4 (t 1))),
 (g 38 36 true (.load none (t 37))),
 (g 39 36 true (.lens (t 38))),
 (g 40 36 true (.bin .leq (t 39) (k 8))),
 (o 41 (.pick (t 36) (t 40) ff)),
 m 42 41,
 (g 43 42 true (.fa 4 (t 1))),
 (g 44 42 true (.load none (t 43))),
 (g 45 42 true (.call 112 [(t 44)])),
 (o 46 (.pick (t 42) (t 45) ff)),
 m 47 46,
 (g 48 47 true (.fa 5 (t 1))),
 (g 49 47 true (.load none (t 48))),
 (g 50 47 true (.lens (t 49))),
 (g 51 47 true (.bin .leq (t 50) (k 8))),
 (o 52 (.pick (t 47) (t 51) ff)),
 m 53 52,
 (g 54 53 true (.fa 5 (t 1))),
 (g 55 53 true (.load none (t 54))),
 (g 56 53 true (.call 113 [(t 55)])),
 (o 57 (.pick (t 53) (t 56) ff)),
 m 58 57,
 (g 59 58 true (.fa 4 (t 1))),
 (g 60 58 true (.load none (t 59))),
 (g 61 58 true (.lens (t 60))),
 (g 62 58 true (.fa 5 (t 1))),
 (g 63 58 true (.load none (t 62))),
 (g 64 58 true (.lens (t 63))),
 (g 65 58 true (.bin .add (t 61) (t 64))),
 (g 66 58 true (.bin .gtr (t 65) (k 0))),
 (o 67 (.pick (t 58) (t 66) ff)),
 m 68 67,
 (g 69 68 true (.fa 6 (t 1))),
 (g 70 68 true (.load none (t 69))),
 (g 71 68 true (.not (t 70))),
 (o 72 (.pick (t 68) (t 71) ff)),
 m 2 72])
 (.ret)) (.seq (.seq (.ops [o 74 (.bin .eql (t 20) (k 2)),
 m 73 74])
 (.cond (t 73) (.skip) (.ops [o 75 (.bin .eql (t 20) (k 3)),
 m 73 75])))
 (.cond (t 73) (.seq (.ops [m 76 3,
 m 77 76,
 (g 78 77 true (.fa 1 (t 1))),
 (g 79 77 true (.load none (t 78))),
 (g 80 77 true (.call 110 [(t 79)])),
 (o 81 (.pick (t 77) (t 80) ff)),
 m 82 81,
 (g 83 82 true (.fa 6 (t 1))),
 (g 84 82 true (.load none (t 83))),
 mg 85 82 true 84,
 (g 86 85 true (.fa 2 (t 1))),
 (g 87 85 true (.load none (t 86))),
 (g 88 85 true (.call 111 [(t 87)])),
 (g 89 82 true (.pick (t 85) (t 88) ff)),
 mg 90 82 true 89,
 (g 91 90 false (.fa 6 (t 1))),
 (g 92 90 false (.load none (t 91))),
 (g 93 90 false (.not (t 92))),
 mg 94 90 false 93,
 (g 95 94 true (.fa 2 (t 1))),
 (g 96 94 true (.load none (t 95))),
 (g 97 94 true (.bin .eql (t 96) (k 0))),
 (g 98 90 false (.pick (t 94) (t 97) ff)),
 (g 99 82 true (.pick (t 90) tt (t 98))),
 (o 100 (.pick (t 82) (t 99) ff)),
 m 2 100])
 (.ret)) (.seq (.ops [o 102 (.bin .eql (t 20) (k 4)),
 m 101 102])
 (.cond (t 101) (.seq (.ops [m 103 3,
 m 104 103,
 (g 105 104 true (.fa 1 (t 1))),
 (g 106 104 true (.load none (t 105))),
 (g 107 104 true (.bin .eql (t 106) (k 0))),
 (o 108 (.pick (t 104) (t 107) ff)),
 m 109 108,
 (g 110 109 true (.fa 2 (t 1))),
 (g 111 109 true (.load none (t 110))),
 (g 112 109 true (.call 111 [(t 111)])),
 (o 113 (.pick (t 109) (t 112) ff)),
 m 114 113,
 (g 115 114 true (.fa 6 (t 1))),
 (g 116 114 true (.load none (t 115))),
 (g 117 114 true (.not (t 116))),
 (o 118 (.pick (t 114) (t 117) ff)),
 m 2 118])
 (.ret)) (.skip)))))))))
 (.kept [] (.seq (.ops [o 2 (.mv ff)])
 (.ret))))))
theorem h_impl_GoodRec : hF Tryz.prog n_impl_GoodRec = some c_impl_GoodRec.strip := by kernel_rfl
theorem r_impl_GoodRec : rF Tryz.prog n_impl_GoodRec = some ([.tmp 2], 119) := by kernel_rfl
abbrev n_impl_stateOf : Nat := 57
def c_impl_stateOf_l1 : AS :=
 .seq (.ops [o 15 (.bin .lss (t 14) (t 13))])
 (.seq (.cond (t 15) (.skip) (.exit 0))
 (.seq (.block 1 (.seq (.post [(16, 1, [(4, 1), (5, 3)])] (.ops [o 16 (.ia 7 (t 12) (t 14)),
 (o 17 (.load (some 7) (t 16))),
 (o 7 (.alloc (.agg #[.int .i64 0, .int .i64 0, .int .i64 0, .int .i64 0, .slice none 0 0, .slice none 0 0, .bool false]))),
 (u (.store 7 (t 7) (t 17)))]))
 (.seq (.ops [o 19 (.load (some 4) (t 4)),
 (o 20 (.load (some 7) (t 7))),
 (o 21 (.call 82 [(t 19), (t 20)])),
 m 18 21,
 (o 22 (.ext 0 (t 18))),
 (o 23 (.ext 1 (t 18))),
 (o 8 (.alloc (.agg #[.int .i64 0, .slice none 0 0, .slice none 0 0, .slice none 0 0]))),
 (u (.store 4 (t 8) (t 22))),
 m 9 23])
 (.kept [2, 4, 5, 8, 9, 12, 13, 14] (.seq (.seq (.ops [m 24 9])
 (.cond (t 24) (.ops [o 25 (.load (some 4) (t 8)),
 (u (.store 4 (t 4) (t 25)))]) (.skip)))
 (.ops [m 26 5,
 m 27 9,
 (o 28 (.bsl 1 (.bool false) 1 [(0, (t 27))])),
 (o 29 (.app 1 1 (.bool false) (t 26) (t 28))),
 m 5 29]))))))
 (.kept [2, 4, 5, 12, 13, 14] (.ops [o 30 (.bin .add (t 14) (k 1)),
 m 14 30]))))
def c_impl_stateOf : AS :=
 .seq (.ops [o 2 (.alloc (.agg #[.int .i64 0, .slice none 0 0, .slice none 0 0, .slice none 0 0])),
 (o 3 (.mv (.const (.slice none 0 0))))])
 (.seq (.ops [o 10 (.build (.agg #[.int .i64 0, .slice none 0 0, .slice none 0 0, .slice none 0 0]) []),
 (o 4 (.alloc (.agg #[.int .i64 0, .slice none 0 0, .slice none 0 0, .slice none 0 0]))),
 (u (.store 4 (t 4) (t 10)))])
 (.seq (.ops [o 11 (.bsl 1 (.bool false) 0 []),
 m 5 11])
 (.seq (.seq (.ops [m 12 0,
 (o 13 (.lens (t 12))),
 (o 14 (.mv (k 0)))])
 (.block 0 (.loop 1 [(2, 0), (4, 0), (5, 1), (12, 0), (13, 0), (14, 0)] c_impl_stateOf_l1)))
 (.kept [2, 4, 5] (.seq (.ops [o 31 (.load (some 4) (t 4)),
 m 32 5,
 (u (.store 4 (t 2) (t 31))),
 m 3 32])
 (.ret))))))
theorem h_impl_stateOf : hF Tryz.prog n_impl_stateOf = some c_impl_stateOf.strip := by kernel_rfl
theorem r_impl_stateOf : rF Tryz.prog n_impl_stateOf = some ([.cell 2 43, .tmp 3], 33) := by kernel_rfl
abbrev n_laws_szStringS : Nat := 72
def c_laws_szStringS_l1 : AS :=
 .seq (.seq (.ops [m 12 5,
 m 13 0,
 (o 14 (.lens (t 13))),
 (o 15 (.bin .lss (t 12) (t 14)))])
 (.cond (t 15) (.skip) (.exit 0)))
 (.seq (.block 1 (.seq (.ops [m 18 1,
 m 19 0,
 m 20 5,
 (o 21 (.ia 1 (t 19) (t 20))),
 (o 22 (.load none (t 21))),
 (o 23 (.lent (t 22))),
 (o 24 (.bin .sub (t 18) (t 23))),
 m 1 24])
 (.kept [0, 1, 5] (.seq (.ops [m 25 1,
 (o 26 (.bin .lss (t 25) (k 0)))])
 (.cond (t 26) (.seq (.ops [o 4 (.mv (k (-1)))])
 (.ret)) (.skip))))))
 (.kept [0, 1, 5] (.ops [m 16 5,
 (o 17 (.bin .add (t 16) (k 1))),
 m 5 17])))
def c_laws_szStringS : AS :=
 .seq (.ops [o 4 (.mv (k 0))])
 (.seq (.ops [m 6 1,
 m 7 0,
 (o 8 (.lens (t 7))),
 (o 9 (.bin .sub (t 6) (t 8))),
 m 1 9])
 (.seq (.seq (.ops [m 10 1,
 (o 11 (.bin .lss (t 10) (k 0)))])
 (.cond (t 11) (.seq (.ops [o 4 (.mv (k (-1)))])
 (.ret)) (.skip)))
 (.seq (.seq (.ops [o 5 (.mv (k 0))])
 (.block 0 (.loop 2 [(0, 0), (1, 0), (5, 0)] c_laws_szStringS_l1)))
 (.kept [1] (.seq (.ops [m 27 1,
 m 4 27])
 (.ret))))))
theorem h_laws_szStringS : hF Tryz.prog n_laws_szStringS = some c_laws_szStringS.strip := by kernel_rfl
theorem r_laws_szStringS : rF Tryz.prog n_laws_szStringS = some ([.tmp 4], 28) := by kernel_rfl
abbrev n_laws_szWriteS : Nat := 73
def c_laws_szWriteS_l1 : AS :=
 .seq (.seq (.ops [m 12 5,
 m 13 0,
 (o 14 (.lens (t 13))),
 (o 15 (.bin .lss (t 12) (t 14)))])
 (.cond (t 15) (.skip) (.exit 0)))
 (.seq (.block 1 (.seq (.ops [m 18 0,
 m 19 5,
 (o 20 (.ia 3 (t 18) (t 19))),
 (o 21 (.load (some 3) (t 20))),
 m 22 1,
 (o 23 (.call 124 [(t 21), (t 22)])),
 m 1 23])
 (.kept [0, 1, 5] (.seq (.ops [m 24 1,
 (o 25 (.bin .lss (t 24) (k 0)))])
 (.cond (t 25) (.seq (.ops [o 4 (.mv (k (-1)))])
 (.ret)) (.skip))))))
 (.kept [0, 1, 5] (.ops [m 16 5,
 (o 17 (.bin .add (t 16) (k 1))),
 m 5 17])))
def c_laws_szWriteS : AS :=
 .seq (.ops [o 4 (.mv (k 0))])
 (.seq (.ops [m 6 1,
 m 7 0,
 (o 8 (.lens (t 7))),
 (o 9 (.bin .sub (t 6) (t 8))),
 m 1 9])
 (.seq (.seq (.ops [m 10 1,
 (o 11 (.bin .lss (t 10) (k 0)))])
 (.cond (t 11) (.seq (.ops [o 4 (.mv (k (-1)))])
 (.ret)) (.skip)))
 (.seq (.seq (.ops [o 5 (.mv (k 0))])
 (.block 0 (.loop 2 [(0, 0), (1, 0), (5, 0)] c_laws_szWriteS_l1)))
 (.kept [1] (.seq (.ops [m 26 1,
 m 4 26])
 (.ret))))))
theorem h_laws_szWriteS : hF Tryz.prog n_laws_szWriteS = some c_laws_szWriteS.strip := by kernel_rfl
theorem r_laws_szWriteS : rF Tryz.prog n_laws_szWriteS = some ([.tmp 4], 27) := by kernel_rfl
abbrev n_spec_l13Apply : Nat := 75
def c_spec_l13Apply : AS :=
 .seq (.ops [o 2 (.box (t 0)),
 (o 3 (.box (t 1))),
 (o 4 (.alloc (.agg #[.int .i64 0, .slice none 0 0, .slice none 0 0, .slice none 0 0]))),
 (o 5 (.mv ff))])
 (.seq (.ops [o 13 (.load (some 4) (t 2)),
 (o 14 (.call 129 [(t 13)])),
 (o 6 (.alloc (.agg #[.int .i64 0, .slice none 0 0, .slice none 0 0, .slice none 0 0]))),
 (u (.store 4 (t 6) (t 14)))])
 (.seq (.ops [o 16 (.load (some 4) (t 2)),
 (o 17 (.fa 1 (t 3))),
 (o 18 (.load none (t 17))),
 (o 19 (.call 128 [(t 16), (t 18)])),
 m 15 19,
 (o 20 (.ext 0 (t 15))),
 (o 21 (.ext 1 (t 15))),
 (o 7 (.alloc (.agg #[.int .i64 0, .int .i64 0, .int .i64 0, .slice none 0 0, .slice none 0 0]))),
 (u (.store 5 (t 7) (t 20))),
 m 8 21])
 (.kept [2, 3, 4, 6, 7, 8] (.seq (.ops [o 23 (.load (some 4) (t 2)),
 (o 24 (.fa 1 (t 3))),
 (o 25 (.load none (t 24))),
 (o 26 (.call 130 [(t 23), (t 25)])),
 m 22 26,
 (o 27 (.ext 0 (t 22))),
 (o 28 (.ext 1 (t 22))),
 (o 9 (.alloc (.agg #[.int .i64 0, .bool false, .int .i64 0]))),
 (u (.store 3 (t 9) (t 27))),
 m 10 28])
 (.kept [2, 3, 4, 6, 7, 8, 10] (.seq (.block 0 (.seq (.ops [o 30 (.fa 0 (t 3)),
 (o 31 (.load none (t 30))),
 (o 32 (.bin .eql (t 31) (k 4))),
 m 29 32])
 (.cond (t 29) (.seq (.ops [o 33 (.fa 2 (t 3)),
 (o 34 (.load none (t 33))),
 (o 35 (.fa 0 (t 6))),
 (u (.store 1 (t 35) (t 34)))])
 (.seq (.rops [(none, o 36 (.load (some 4) (t 6))),
 (none, o 37 (.fa 2 (t 3))),
 (none, o 38 (.load none (t 37))),
 (none, o 39 (.fa 0 (t 2))),
 (none, o 40 (.load none (t 39))),
 (none, o 41 (.bin .gtr (t 38) (t 40))),
 (some [o 41 (.bin .gtr (t 38) (t 40)), o 40 (.load none (t 39)), o 39 (.fa 0 (t 2)), o 38 (.load none (t 37)), o 37 (.fa 2 (t 3))], u (.store 4 (t 4) (t 36))),
 (none, m 5 41)])
 (.ret))) (.seq (.ops [m 43 10,
 m 42 43])
 (.cond (t 42) (.seq (.ops [o 44 (.load (some 4) (t 6)),
 (u (.store 4 (t 4) (t 44))),
 (o 5 (.mv ff))])
 (.ret)) (.seq (.ops [o 46 (.fa 0 (t 3)),
 (o 47 (.load none (t 46))),
 (o 48 (.bin .eql (t 47) (k 1))),
 m 45 48])
 (.cond (t 45) (.seq (.tops [(2, 0), (3, 0), (4, 0), (6, 0), (8, 0)] (.rd (o 49 (.fa 2 (t 6))) (.rd (o 50 (.load none (t 49))) (.rd (o 51 (.fa 1 (t 3))) (.rd (o 52 (.load none (t 51))) (.rd (o 53 (.fa 2 (t 3))) (.rd (o 54 (.load none (t 53))) (.rd (o 55 (.fa 3 (t 3))) (.rd (o 56 (.load none (t 55))) (.rd (o 57 (.fa 4 (t 3))) (.rd (o 58 (.load none (t 57))) (.rd (o 61 (.fa 5 (t 3))) (.rd (o 62 (.load none (t 61))) (.alt [o 62 (.load none (t 61)), o 61 (.fa 5 (t 3)), o 56 (.load none (t 55)), o 55 (.fa 3 (t 3)), o 54 (.load none (t 53)), o 53 (.fa 2 (t 3)), o 52 (.load none (t 51)), o 51 (.fa 1 (t 3)), o 50 (.load none (t 49)), o 49 (.fa 2 (t 6))] (o 59 (.call 132 [(t 58)]))
 (.alt [o 62 (.load none (t 61)), o 61 (.fa 5 (t 3)), o 56 (.load none (t 55)), o 55 (.fa 3 (t 3)), o 54 (.load none (t 53)), o 53 (.fa 2 (t 3)), o 52 (.load none (t 51)), o 51 (.fa 1 (t 3)), o 50 (.load none (t 49)), o 49 (.fa 2 (t 6))] (o 60 (.bsl 3 (.agg #[.string ⟨⟨[]⟩⟩, .string ⟨⟨[]⟩⟩, .bool false]) 0 []))
 (.alt [o 56 (.load none (t 55)), o 55 (.fa 3 (t 3)), o 54 (.load none (t 53)), o 53 (.fa 2 (t 3)), o 52 (.load none (t 51)), o 51 (.fa 1 (t 3)), o 50 (.load none (t 49)), o 49 (.fa 2 (t 6))] (o 63 (.app 3 40 (.agg #[.string ⟨⟨[]⟩⟩, .string ⟨⟨[]⟩⟩, .bool false]) (t 60) (t 62)))
 (.rd (o 64 (.build (.agg #[.int .i64 0, .int .i64 0, .int .i64 0, .slice none 0 0, .slice none 0 0]) [(0, 1, (t 52)), (1, 1, (t 54)), (2, 1, (t 56)), (3, 1, (t 59)), (4, 1, (t 63))])) (.alt [] (o 65 (.call 131 [(t 50), (t 64)]))
 (.rd (o 66 (.fa 2 (t 6))) (.alt [] (u (.store 1 (t 66) (t 65)))
 (.done)
 (.none)))
 (.none)))
 (.none))
 (.none))
 (.alt [o 62 (.load none (t 61)), o 61 (.fa 5 (t 3)), o 58 (.load none (t 57)), o 57 (.fa 4 (t 3)), o 56 (.load none (t 55)), o 55 (.fa 3 (t 3)), o 54 (.load none (t 53)), o 53 (.fa 2 (t 3)), o 52 (.load none (t 51)), o 51 (.fa 1 (t 3)), o 50 (.load none (t 49)), o 49 (.fa 2 (t 6))] (o 60 (.bsl 3 (.agg #[.string ⟨⟨[]⟩⟩, .string ⟨⟨[]⟩⟩, .bool false]) 0 []))
 (.alt [o 62 (.load none (t 61)), o 61 (.fa 5 (t 3)), o 56 (.load none (t 55)), o 55 (.fa 3 (t 3)), o 54 (.load none (t 53)), o 53 (.fa 2 (t 3)), o 52 (.load none (t 51)), o 51 (.fa 1 (t 3)), o 50 (.load none (t 49)), o 49 (.fa 2 (t 6))] (o 59 (.call 132 [(t 58)]))
 (.alt [o 56 (.load none (t 55)), o 55 (.fa 3 (t 3)), o 54 (.load none (t 53)), o 53 (.fa 2 (t 3)), o 52 (.load none (t 51)), o 51 (.fa 1 (t 3)), o 50 (.load none (t 49)), o 49 (.fa 2 (t 6))] (o 63 (.app 3 40 (.agg #[.string ⟨⟨[]⟩⟩, .string ⟨⟨[]⟩⟩, .bool false]) (t 60) (t 62)))
 (.rd (o 64 (.build (.agg #[.int .i64 0, .int .i64 0, .int .i64 0, .slice none 0 0, .slice none 0 0]) [(0, 1, (t 52)), (1, 1, (t 54)), (2, 1, (t 56)), (3, 1, (t 59)), (4, 1, (t 63))])) (.alt [] (o 65 (.call 131 [(t 50), (t 64)]))
 (.rd (o 66 (.fa 2 (t 6))) (.alt [] (u (.store 1 (t 66) (t 65)))
 (.done)
 (.none)))
 (.none)))
 (.none))
 (.none))
 (.none))))))))))))))))
 (.kept [2, 3, 4, 6, 8] (.seq (.ops [o 67 (.fa 2 (t 3)),
 (o 68 (.load none (t 67))),
 (o 69 (.fa 0 (t 6))),
 (u (.store 1 (t 69) (t 68)))])
 (.seq (.rops [(none, o 70 (.load (some 4) (t 6))),
 (none, m 71 8),
 (none, o 72 (.not (t 71))),
 (none, m 73 72),
 (none, g 74 73 true (.fa 2 (t 3))),
 (none, g 75 73 true (.load none (t 74))),
 (none, g 76 73 true (.fa 0 (t 2))),
 (none, g 77 73 true (.load none (t 76))),
 (none, g 78 73 true (.bin .gtr (t 75) (t 77))),
 (none, o 79 (.pick (t 73) (t 78) ff)),
 (none, m 80 79),
 (none, g 81 80 true (.load (some 4) (t 2))),
 (none, g 82 80 true (.fa 4 (t 3))),
 (none, g 83 80 true (.load none (t 82))),
 (none, g 84 80 true (.fa 5 (t 3))),
 (none, g 85 80 true (.load none (t 84))),
 (some [o 70 (.load (some 4) (t 6))], g 86 80 true (.call 133 [(t 81), (t 83), (t 85)])),
 (none, o 87 (.pick (t 80) (t 86) ff)),
 (some [o 87 (.pick (t 80) (t 86) ff)], u (.store 4 (t 4) (t 70))),
 (none, m 5 87)])
 (.ret))))) (.seq (.ops [o 89 (.fa 6 (t 3)),
 (o 90 (.load none (t 89))),
 m 88 90])
 (.cond (t 88) (.seq (.seq (.ops [m 91 8,
 (o 92 (.not (t 91))),
 m 93 92,
 (g 94 93 false (.fa 1 (t 7))),
 (g 95 93 false (.load none (t 94))),
 (g 96 93 false (.fa 2 (t 3))),
 (g 97 93 false (.load none (t 96))),
 (g 98 93 false (.bin .gtr (t 95) (t 97))),
 (o 99 (.pick (t 93) tt (t 98)))])
 (.kept [2, 3, 4, 6, 7, 99] (.cond (t 99) (.seq (.ops [o 100 (.load (some 4) (t 6)),
 (u (.store 4 (t 4) (t 100))),
 (o 5 (.mv ff))])
 (.ret)) (.skip))))
 (.kept [2, 3, 4, 6, 7] (.seq (.ops [o 102 (.fa 1 (t 2)),
 (o 103 (.load none (t 102))),
 (o 104 (.fa 4 (t 7))),
 (o 105 (.load none (t 104))),
 (o 106 (.fa 2 (t 3))),
 (o 107 (.load none (t 106))),
 (o 108 (.call 134 [(t 103), (t 105), (t 107)])),
 m 101 108,
 (o 109 (.ext 0 (t 101))),
 (o 110 (.ext 1 (t 101))),
 m 11 109,
 m 12 110])
 (.kept [2, 3, 4, 6, 11, 12] (.seq (.seq (.ops [m 111 12,
 (o 112 (.not (t 111)))])
 (.cond (t 112) (.seq (.ops [o 113 (.load (some 4) (t 6)),
 (u (.store 4 (t 4) (t 113))),
 (o 5 (.mv ff))])
 (.ret)) (.skip)))
 (.seq (.ops [m 114 11,
 (o 115 (.fa 1 (t 6))),
 (u (.store 1 (t 115) (t 114)))])
 (.ops [o 116 (.fa 0 (t 2)),
 (o 117 (.load none (t 116))),
 (o 118 (.fa 2 (t 3))),
 (o 119 (.load none (t 118))),
 (o 120 (.call 135 [(t 117), (t 119)])),
 (o 121 (.fa 0 (t 6))),
 (u (.store 1 (t 121) (t 120)))]))))))) (.skip))))))))))
 (.kept [3, 4, 6] (.seq (.ops [o 122 (.fa 2 (t 6)),
 (o 123 (.load none (t 122))),
 (o 124 (.fa 1 (t 3))),
 (o 125 (.load none (t 124))),
 (o 126 (.call 136 [(t 123), (t 125)])),
 (o 127 (.fa 2 (t 6))),
 (u (.store 1 (t 127) (t 126)))])
 (.kept [3, 4, 6] (.seq (.ops [o 128 (.fa 3 (t 6)),
 (o 129 (.load none (t 128))),
 (o 130 (.fa 1 (t 3))),
 (o 131 (.load none (t 130))),
 (o 132 (.fa 6 (t 3))),
 (o 133 (.load none (t 132))),
 (o 134 (.fa 2 (t 3))),
 (o 135 (.load none (t 134))),
 (o 136 (.build (.agg #[.int .i64 0, .bool false, .int .i64 0]) [(0, 1, (t 131)), (1, 1, (t 133)), (2, 1, (t 135))])),
 (o 137 (.call 137 [(t 129), (t 136)])),
 (o 138 (.fa 3 (t 6))),
 (u (.store 1 (t 138) (t 137)))])
 (.kept [4, 6] (.seq (.ops [o 139 (.load (some 4) (t 6)),
 (u (.store 4 (t 4) (t 139))),
 (o 5 (.mv tt))])
 (.ret)))))))))))))
theorem h_spec_l13Apply : hF Tryz.prog n_spec_l13Apply = some c_spec_l13Apply.strip := by kernel_rfl
theorem r_spec_l13Apply : rF Tryz.prog n_spec_l13Apply = some ([.cell 4 43, .tmp 5], 140) := by kernel_rfl
abbrev n_laws_toStringS : Nat := 79
def c_laws_toStringS_l1 : AS :=
 .seq (.seq (.ops [m 8 4,
 m 9 0,
 (o 10 (.lens (t 9))),
 (o 11 (.bin .lss (t 8) (t 10)))])
 (.cond (t 11) (.skip) (.exit 0)))
 (.seq (.block 1 (.ops [m 14 3,
 m 15 4,
 m 16 0,
 m 17 4,
 (o 18 (.ia 1 (t 16) (t 17))),
 (o 19 (.load none (t 18))),
 (o 20 (.ia 1 (t 14) (t 15))),
 (u (.store 1 (t 20) (t 19)))]))
 (.kept [0, 3, 4] (.ops [m 12 4,
 (o 13 (.bin .add (t 12) (k 1))),
 m 4 13])))
def c_laws_toStringS : AS :=
 .seq (.ops [o 2 (.mv (.const (.slice none 0 0)))])
 (.seq (.ops [m 5 0,
 (o 6 (.lens (t 5))),
 (o 7 (.mks 1 16 (.string ⟨⟨[]⟩⟩) (t 6) (t 6))),
 m 3 7])
 (.seq (.seq (.ops [o 4 (.mv (k 0))])
 (.block 0 (.loop 1 [(0, 0), (3, 0), (4, 0)] c_laws_toStringS_l1)))
 (.kept [3] (.seq (.ops [m 21 3,
 m 2 21])
 (.ret)))))
theorem h_laws_toStringS : hF Tryz.prog n_laws_toStringS = some c_laws_toStringS.strip := by kernel_rfl
theorem r_laws_toStringS : rF Tryz.prog n_laws_toStringS = some ([.tmp 2], 22) := by kernel_rfl
abbrev n_laws_toWriteS : Nat := 80
def c_laws_toWriteS_l1 : AS :=
 .seq (.seq (.ops [m 8 4,
 m 9 0,
 (o 10 (.lens (t 9))),
 (o 11 (.bin .lss (t 8) (t 10)))])
 (.cond (t 11) (.skip) (.exit 0)))
 (.seq (.block 1 (.ops [m 14 3,
 m 15 4,
 m 16 0,
 m 17 4,
 (o 18 (.ia 3 (t 16) (t 17))),
 (o 19 (.load (some 3) (t 18))),
 (o 20 (.call 141 [(t 19)])),
 (o 21 (.ia 3 (t 14) (t 15))),
 (u (.store 3 (t 21) (t 20)))]))
 (.kept [0, 3, 4] (.ops [m 12 4,
 (o 13 (.bin .add (t 12) (k 1))),
 m 4 13])))
def c_laws_toWriteS : AS :=
 .seq (.ops [o 2 (.mv (.const (.slice none 0 0)))])
 (.seq (.ops [m 5 0,
 (o 6 (.lens (t 5))),
 (o 7 (.mks 3 40 (.agg #[.string ⟨⟨[]⟩⟩, .string ⟨⟨[]⟩⟩, .bool false]) (t 6) (t 6))),
 m 3 7])
 (.seq (.seq (.ops [o 4 (.mv (k 0))])
 (.block 0 (.loop 1 [(0, 0), (3, 0), (4, 0)] c_laws_toWriteS_l1)))
 (.kept [3] (.seq (.ops [m 22 3,
 m 2 22])
 (.ret)))))
theorem h_laws_toWriteS : hF Tryz.prog n_laws_toWriteS = some c_laws_toWriteS.strip := by kernel_rfl
theorem r_laws_toWriteS : rF Tryz.prog n_laws_toWriteS = some ([.tmp 2], 23) := by kernel_rfl
abbrev n_impl_State_applied : Nat := 82
def c_impl_State_applied : AS :=
 .seq (.ops [o 2 (.box (t 0)),
 (o 3 (.box (t 1))),
 (o 4 (.alloc (.agg #[.int .i64 0, .slice none 0 0, .slice none 0 0, .slice none 0 0]))),
 (o 5 (.mv ff))])
 (.seq (.seq (.ops [o 12 (.fa 0 (t 3)),
 (o 13 (.load none (t 12))),
 (o 14 (.bin .eql (t 13) (k 4)))])
 (.cond (t 14) (.seq (.seq (.ops [o 15 (.fa 2 (t 3)),
 (o 16 (.load none (t 15))),
 (o 17 (.fa 0 (t 2))),
 (o 18 (.load none (t 17))),
 (o 19 (.bin .leq (t 16) (t 18)))])
 (.cond (t 19) (.seq (.ops [o 20 (.build (.agg #[.int .i64 0, .slice none 0 0, .slice none 0 0, .slice none 0 0]) []),
 (u (.store 4 (t 4) (t 20))),
 (o 5 (.mv ff))])
 (.ret)) (.skip)))
 (.kept [2, 3, 4] (.seq (.ops [o 21 (.load (some 4) (t 2)),
 (o 22 (.call 146 [(t 21)])),
 (o 6 (.alloc (.agg #[.int .i64 0, .slice none 0 0, .slice none 0 0, .slice none 0 0]))),
 (u (.store 4 (t 6) (t 22)))])
 (.seq (.ops [o 23 (.fa 2 (t 3)),
 (o 24 (.load none (t 23))),
 (o 25 (.fa 0 (t 6))),
 (u (.store 1 (t 25) (t 24)))])
 (.seq (.ops [o 26 (.load (some 4) (t 6)),
 (u (.store 4 (t 4) (t 26))),
 (o 5 (.mv tt))])
 (.ret)))))) (.skip)))
 (.kept [2, 3, 4] (.seq (.seq (.ops [o 28 (.load (some 4) (t 2)),
 (o 29 (.fa 1 (t 3))),
 (o 30 (.load none (t 29))),
 (o 31 (.call 147 [(t 28), (t 30)])),
 m 27 31,
 (o 32 (.ext 0 (t 27))),
 (o 33 (.ext 1 (t 27))),
 m 7 32,
 m 8 33])
 (.kept [2, 3, 4, 8] (.seq (.ops [m 34 8])
 (.cond (t 34) (.seq (.ops [o 35 (.build (.agg #[.int .i64 0, .slice none 0 0, .slice none 0 0, .slice none 0 0]) []),
 (u (.store 4 (t 4) (t 35))),
 (o 5 (.mv ff))])
 (.ret)) (.skip)))))
 (.kept [2, 3, 4] (.seq (.seq (.ops [o 36 (.fa 0 (t 3)),
 (o 37 (.load none (t 36))),
 (o 38 (.bin .neq (t 37) (k 1)))])
 (.cond (t 38) (.seq (.ops [o 39 (.load (some 4) (t 2)),
 (o 40 (.load (some 7) (t 3))),
 (o 41 (.call 148 [(t 39), (t 40)])),
 (o 42 (.ext 0 (t 41))),
 (o 43 (.ext 1 (t 41))),
 (u (.store 4 (t 4) (t 42))),
 m 5 43])
 (.ret)) (.skip)))
 (.kept [2, 3, 4] (.seq (.ops [o 45 (.load (some 4) (t 2)),
 (o 46 (.fa 1 (t 3))),
 (o 47 (.load none (t 46))),
 (o 48 (.call 145 [(t 45), (t 47)])),
 m 44 48,
 (o 49 (.ext 0 (t 44))),
 (o 50 (.ext 1 (t 44))),
 m 9 49,
 m 10 50])
 (.kept [2, 3, 4, 9, 10] (.seq (.seq (.ops [m 51 10,
 m 52 51,
 (g 53 52 false (.fa 2 (t 3))),
 (g 54 52 false (.load none (t 53))),
 (g 55 52 false (.fa 0 (t 2))),
 (g 56 52 false (.load none (t 55))),
 (g 57 52 false (.bin .leq (t 54) (t 56))),
 (o 58 (.pick (t 52) tt (t 57))),
 m 59 58,
 (g 60 59 false (.load (some 4) (t 2))),
 (g 61 59 false (.fa 4 (t 3))),
 (g 62 59 false (.load none (t 61))),
 (g 63 59 false (.fa 5 (t 3))),
 (g 64 59 false (.load none (t 63))),
 (g 65 59 false (.call 149 [(t 60), (t 62), (t 64)])),
 (g 66 59 false (.not (t 65))),
 (o 67 (.pick (t 59) tt (t 66)))])
 (.kept [2, 3, 4, 9, 67] (.cond (t 67) (.seq (.ops [o 68 (.build (.agg #[.int .i64 0, .slice none 0 0, .slice none 0 0, .slice none 0 0]) []),
 (u (.store 4 (t 4) (t 68))),
 (o 5 (.mv ff))])
 (.ret)) (.skip))))
 (.kept [2, 3, 4, 9] (.seq (.ops [o 69 (.load (some 4) (t 2)),
 (o 70 (.call 146 [(t 69)])),
 (o 11 (.alloc (.agg #[.int .i64 0, .slice none 0 0, .slice none 0 0, .slice none 0 0]))),
 (u (.store 4 (t 11) (t 70)))])
 (.seq (.post [(76, 1, [(3, 1), (4, 3)])] (.rops [(none, o 71 (.fa 2 (t 11))),
 (none, o 72 (.load none (t 71))),
 (none, m 73 9),
 (none, o 74 (.load (some 7) (t 3))),
 (some [m 73 9, o 72 (.load none (t 71)), o 71 (.fa 2 (t 11))], o 75 (.call 151 [(t 74)])),
 (some [m 73 9, o 72 (.load none (t 71)), o 71 (.fa 2 (t 11))], o 76 (.bsl 5 (.agg #[.int .i64 0, .int .i64 0, .int .i64 0, .slice none 0 0, .slice none 0 0]) 1 [(0, (t 75))])),
 (some [], o 77 (.call 150 [(t 72), (t 73), (t 76)])),
 (none, o 78 (.fa 2 (t 11))),
 (some [], u (.store 1 (t 78) (t 77)))]))
 (.kept [3, 4, 11] (.seq (.ops [o 79 (.fa 2 (t 3)),
 (o 80 (.load none (t 79))),
 (o 81 (.fa 0 (t 11))),
 (u (.store 1 (t 81) (t 80)))])
 (.seq (.ops [o 82 (.load (some 4) (t 11)),
 (u (.store 4 (t 4) (t 82))),
 (o 5 (.mv tt))])
 (.ret))))))))))))))))
theorem h_impl_State_applied : hF Tryz.prog n_impl_State_applied = some c_impl_State_applied.strip := by kernel_rfl
theorem r_impl_State_applied : rF Tryz.prog n_impl_State_applied = some ([.cell 4 43, .tmp 5], 83) := by kernel_rfl
abbrev n_laws_eqStringS : Nat := 83
def c_laws_eqStringS_l1 : AS :=
 .seq (.seq (.ops [m 11 5,
 m 12 0,
 (o 13 (.lens (t 12))),
 (o 14 (.bin .lss (t 11) (t 13)))])
 (.cond (t 14) (.skip) (.exit 0)))
 (.seq (.block 1 (.seq (.dops [m 17 0,
 m 18 5,
 (o 19 (.ia 1 (t 17) (t 18))),
 (o 20 (.load none (t 19))),
 m 21 1,
 m 22 5,
 (o 23 (.ia 1 (t 21) (t 22))),
 (o 24 (.load none (t 23))),
 (o 25 (.bin .neq (t 20) (t 24)))])
 (.kept [0, 1, 5, 25] (.cond (t 25) (.seq (.ops [o 4 (.mv ff)])
 (.ret)) (.skip)))))
 (.kept [0, 1, 5] (.ops [m 15 5,
 (o 16 (.bin .add (t 15) (k 1))),
 m 5 16])))
def c_laws_eqStringS : AS :=
 .seq (.ops [o 4 (.mv ff)])
 (.seq (.seq (.ops [m 6 0,
 (o 7 (.lens (t 6))),
 m 8 1,
 (o 9 (.lens (t 8))),
 (o 10 (.bin .neq (t 7) (t 9)))])
 (.cond (t 10) (.seq (.ops [o 4 (.mv ff)])
 (.ret)) (.skip)))
 (.kept [0, 1] (.seq (.seq (.ops [o 5 (.mv (k 0))])
 (.block 0 (.loop 2 [(0, 0), (1, 0), (5, 0)] c_laws_eqStringS_l1)))
 (.kept [] (.seq (.ops [o 4 (.mv tt)])
 (.ret))))))
theorem h_laws_eqStringS : hF Tryz.prog n_laws_eqStringS = some c_laws_eqStringS.strip := by kernel_rfl
theorem r_laws_eqStringS : rF Tryz.prog n_laws_eqStringS = some ([.tmp 4], 26) := by kernel_rfl
abbrev n_laws_eqWriteS : Nat := 84
def c_laws_eqWriteS_l1 : AS :=
 .seq (.seq (.ops [m 11 5,
 m 12 0,
 (o 13 (.lens (t 12))),
 (o 14 (.bin .lss (t 11) (t 13)))])
 (.cond (t 14) (.skip) (.exit 0)))
 (.seq (.block 1 (.seq (.rops [(none, m 17 0),
 (none, m 18 5),
 (none, o 19 (.ia 3 (t 17) (t 18))),
 (none, o 20 (.load (some 3) (t 19))),
 (none, m 21 1),
 (none, m 22 5),
 (none, o 23 (.ia 3 (t 21) (t 22))),
 (none, o 24 (.load (some 3) (t 23))),
 (some [], o 25 (.call 152 [(t 20), (t 24)])),
 (none, o 26 (.not (t 25)))])
 (.kept [0, 1, 5, 26] (.cond (t 26) (.seq (.ops [o 4 (.mv ff)])
 (.ret)) (.skip)))))
 (.kept [0, 1, 5] (.ops [m 15 5,
 (o 16 (.bin .add (t 15) (k 1))),
 m 5 16])))
def c_laws_eqWriteS : AS :=
 .seq (.ops [o 4 (.mv ff)])
 (.seq (.seq (.ops [m 6 0,
 (o 7 (.lens (t 6))),
 m 8 1,
 (o 9 (.lens (t 8))),
 (o 10 (.bin .neq (t 7) (t 9)))])
 (.cond (t 10) (.seq (.ops [o 4 (.mv ff)])
 (.ret)) (.skip)))
 (.kept [0, 1] (.seq (.seq (.ops [o 5 (.mv (k 0))])
 (.block 0 (.loop 2 [(0, 0), (1, 0), (5, 0)] c_laws_eqWriteS_l1)))
 (.kept [] (.seq (.ops [o 4 (.mv tt)])
 (.ret))))))
theorem h_laws_eqWriteS : hF Tryz.prog n_laws_eqWriteS = some c_laws_eqWriteS.strip := by kernel_rfl
theorem r_laws_eqWriteS : rF Tryz.prog n_laws_eqWriteS = some ([.tmp 4], 27) := by kernel_rfl
abbrev n_spec_GoodGroup : Nat := 85
def c_spec_GoodGroup_l1 : AS :=
 .seq (.seq (.ops [m 30 3,
 (o 31 (.fa 0 (t 1))),
 (o 32 (.load none (t 31))),
 (o 33 (.lens (t 32))),
 (o 34 (.bin .lss (t 30) (t 33)))])
 (.cond (t 34) (.skip) (.exit 0)))
 (.seq (.block 1 (.seq (.post [(40, 1, [(1, 8)])] (.rops [(none, o 37 (.fa 0 (t 1))),
 (none, o 38 (.load none (t 37))),
 (none, m 39 3),
 (none, o 40 (.ia 3 (t 38) (t 39))),
 (none, o 41 (.load (some 3) (t 40))),
 (none, o 42 (.fa 1 (t 1))),
 (none, o 43 (.load none (t 42))),
 (some [], o 44 (.call 153 [(t 41), (t 43)])),
 (none, o 45 (.not (t 44)))]))
 (.kept [1, 3, 45] (.cond (t 45) (.seq (.ops [o 2 (.mv ff)])
 (.ret)) (.skip)))))
 (.kept [1, 3] (.ops [m 35 3,
 (o 36 (.bin .add (t 35) (k 1))),
 m 3 36])))
def c_spec_GoodGroup : AS :=
 .seq (.ops [o 1 (.box (t 0)),
 (o 2 (.mv ff))])
 (.seq (.seq (.ops [o 4 (.fa 0 (t 1)),
 (o 5 (.load none (t 4))),
 (o 6 (.lens (t 5))),
 (o 7 (.bin .neq (t 6) (k 3))),
 m 8 7,
 (g 9 8 true (.fa 0 (t 1))),
 (g 10 8 true (.load none (t 9))),
 (g 11 8 true (.lens (t 10))),
 (g 12 8 true (.bin .neq (t 11) (k 5))),
 (o 13 (.pick (t 8) (t 12) ff)),
 m 14 13,
 (g 15 14 false (.fa 1 (t 1))),
 (g 16 14 false (.load none (t 15))),
 (g 17 14 false (.call 91 [(t 16), (k 0), (k 200)])),
 (g 18 14 false (.not (t 17))),
 (o 19 (.pick (t 14) tt (t 18))),
 m 20 19,
 (g 21 20 false (.fa 2 (t 1))),
 (g 22 20 false (.load none (t 21))),
 (g 23 20 false (.fa 0 (t 1))),
 (g 24 20 false (.load none (t 23))),
 (g 25 20 false (.lens (t 24))),
 (g 26 20 false (.bin .sub (t 25) (k 1))),
 (g 27 20 false (.call 91 [(t 22), (k (-1)), (t 26)])),
 (g 28 20 false (.not (t 27))),
 (o 29 (.pick (t 20) tt (t 28)))])
 (.kept [1, 29] (.cond (t 29) (.seq (.ops [o 2 (.mv ff)])
 (.ret)) (.skip))))
 (.kept [1] (.seq (.seq (.ops [o 3 (.mv (k 0))])
 (.block 0 (.loop 1 [(1, 0), (3, 0)] c_spec_GoodGroup_l1)))
 (.kept [1] (.seq (.ops [o 46 (.fa 2 (t 1)),
 (o 47 (.load none (t 46))),
 (o 48 (.bin .lss (t 47) (k 0))),
 m 49 48,
 (g 50 49 false (.fa 0 (t 1))),
 (g 51 49 false (.load none (t 50))),
 (g 52 49 false (.fa 2 (t 1))),
 (g 53 49 false (.load none (t 52))),
 (g 54 49 false (.ia 3 (t 51) (t 53))),
 (g 55 49 false (.fa 0 (t 54))),
 (g 56 49 false (.load none (t 55))),
 (o 57 (.pick (t 49) tt (t 56))),
 m 2 57])
 (.ret))))))
theorem h_spec_GoodGroup : hF Tryz.prog n_spec_GoodGroup = some c_spec_GoodGroup.strip := by kernel_rfl
theorem r_spec_GoodGroup : rF Tryz.prog n_spec_GoodGroup = some ([.tmp 2], 58) := by kernel_rfl
abbrev n_impl_GoodGroup : Nat := 87
def c_impl_GoodGroup : AS :=
 .seq (.ops [o 1 (.box (t 0)),
 (o 2 (.mv ff))])
 (.seq (.seq (.ops [o 3 (.fa 0 (t 1)),
 (o 4 (.load none (t 3))),
 (o 5 (.lens (t 4))),
 (o 6 (.call 154 [(t 5)])),
 (o 7 (.not (t 6))),
 m 8 7,
 (g 9 8 false (.fa 1 (t 1))),
 (g 10 8 false (.load none (t 9))),
 (g 11 8 false (.call 98 [(t 10), (k 0), (k 200)])),
 (g 12 8 false (.not (t 11))),
 (o 13 (.pick (t 8) tt (t 12))),
 m 14 13,
 (g 15 14 false (.fa 2 (t 1))),
 (g 16 14 false (.load none (t 15))),
 (g 17 14 false (.bin .neq (t 16) (k (-1)))),
 mg 18 14 false 17,
 (g 19 18 true (.load (some 3) (t 1))),
 (g 20 18 true (.fa 2 (t 1))),
 (g 21 18 true (.load none (t 20))),
 (g 22 18 true (.call 95 [(t 19), (t 21)])),
 mg 23 18 true 22,
 (g 24 23 true (.fa 0 (t 1))),
 (g 25 23 true (.load none (t 24))),
 (g 26 23 true (.fa 2 (t 1))),
 (g 27 23 true (.load none (t 26))),
 (g 28 23 true (.ia 3 (t 25) (t 27))),
 (g 29 23 true (.fa 0 (t 28))),
 (g 30 23 true (.load none (t 29))),
 (g 31 18 true (.pick (t 23) (t 30) ff)),
 (g 32 18 true (.not (t 31))),
 (g 33 14 false (.pick (t 18) (t 32) ff)),
 (o 34 (.pick (t 14) tt (t 33)))])
 (.kept [1, 34] (.cond (t 34) (.seq (.ops [o 2 (.mv ff)])
 (.ret)) (.skip))))
 (.kept [1] (.seq (.ops [o 35 (.fa 0 (t 1)),
 (o 36 (.load none (t 35))),
 (o 37 (.mkf 156 [(t 1)])),
 (o 38 (.call 155 [(t 36), (t 37)])),
 (o 39 (.not (t 38))),
 m 2 39])
 (.ret))))
theorem h_impl_GoodGroup : hF Tryz.prog n_impl_GoodGroup = some c_impl_GoodGroup.strip := by kernel_rfl
theorem r_impl_GoodGroup : rF Tryz.prog n_impl_GoodGroup = some ([.tmp 2], 40) := by kernel_rfl
abbrev n_laws_szReplica : Nat := 90
def c_laws_szReplica : AS :=
 .seq (.ops [o 2 (.box (t 0)),
 (o 4 (.mv (k 0)))])
 (.seq (.ops [o 5 (.fa 1 (t 2)),
 (o 6 (.load none (t 5))),
 m 7 1,
 (o 8 (.call 160 [(t 6), (t 7)])),
 m 1 8])
 (.seq (.seq (.ops [m 9 1,
 (o 10 (.bin .lss (t 9) (k 0)))])
 (.cond (t 10) (.seq (.ops [o 4 (.mv (k (-1)))])
 (.ret)) (.skip)))
 (.seq (.ops [m 11 1,
 m 4 11])
 (.ret))))
theorem h_laws_szReplica : hF Tryz.prog n_laws_szReplica = some c_laws_szReplica.strip := by kernel_rfl
theorem r_laws_szReplica : rF Tryz.prog n_laws_szReplica = some ([.tmp 4], 12) := by kernel_rfl
abbrev n_spec_l1In : Nat := 91
def c_spec_l1In : AS :=
 .seq (.ops [o 6 (.mv ff)])
 (.seq (.ops [m 7 0,
 m 8 1,
 (o 9 (.bin .geq (t 7) (t 8))),
 m 10 9,
 mg 11 10 true 0,
 mg 12 10 true 2,
 (g 13 10 true (.bin .leq (t 11) (t 12))),
 (o 14 (.pick (t 10) (t 13) ff)),
 m 6 14])
 (.ret))
theorem h_spec_l1In : hF Tryz.prog n_spec_l1In = some c_spec_l1In.strip := by kernel_rfl
theorem r_spec_l1In : rF Tryz.prog n_spec_l1In = some ([.tmp 6], 15) := by kernel_rfl
abbrev n_spec_l1Least : Nat := 92
def c_spec_l1Least : AS :=
 .seq (.ops [o 4 (.mv (k 0))])
 (.seq (.seq (.ops [m 5 0,
 m 6 1,
 (o 7 (.bin .lss (t 5) (t 6)))])
 (.cond (t 7) (.seq (.ops [m 8 0,
 m 4 8])
 (.ret)) (.skip)))
 (.seq (.ops [m 9 1,
 m 4 9])
 (.ret)))
theorem h_spec_l1Least : hF Tryz.prog n_spec_l1Least = some c_spec_l1Least.strip := by kernel_rfl
theorem r_spec_l1Least : rF Tryz.prog n_spec_l1Least = some ([.tmp 4], 10) := by kernel_rfl
abbrev n_spec_l16Means : Nat := 93
def c_spec_l16Means_l1 : AS :=
 .seq (.ops [o 15 (.bin .lss (t 14) (t 13))])
 (.seq (.cond (t 15) (.skip) (.exit 0))
 (.seq (.block 1 (.seq (.post [(16, 1, [(5, 1), (6, 3)])] (.ops [o 16 (.ia 8 (t 12) (t 14)),
 (o 17 (.load (some 8) (t 16))),
 (o 7 (.alloc (.agg #[.int .i64 0, .int .i64 0, .int .i64 0, .int .i64 0, .int .i64 0, .slice none 0 0, .slice none 0 0, .bool false]))),
 (u (.store 8 (t 7) (t 17)))]))
 (.post [(22, 1, [(4, 1), (5, 3)])] (.ops [m 18 5,
 (o 19 (.fa 1 (t 7))),
 (o 20 (.load (some 7) (t 19))),
 (o 21 (.bsl 7 (.agg #[.int .i64 0, .int .i64 0, .int .i64 0, .int .i64 0, .slice none 0 0, .slice none 0 0, .bool false]) 1 [(0, (t 20))])),
 (o 22 (.app 7 88 (.agg #[.int .i64 0, .int .i64 0, .int .i64 0, .int .i64 0, .slice none 0 0, .slice none 0 0, .bool false]) (t 18) (t 21))),
 m 5 22]))))
 (.kept [4, 5, 12, 13, 14] (.ops [o 23 (.bin .add (t 14) (k 1)),
 m 14 23]))))
def c_spec_l16Means : AS :=
 .seq (.ops [o 4 (.alloc (.agg #[.int .i64 0, .slice none 0 0, .slice none 0 0, .slice none 0 0]))])
 (.seq (.ops [o 5 (.mv (.const (.slice none 0 0)))])
 (.seq (.seq (.ops [m 10 0,
 m 11 1,
 (o 12 (.sls 8 (t 10) none (some (t 11)) none)),
 (o 13 (.lens (t 12))),
 (o 14 (.mv (k 0)))])
 (.block 0 (.loop 2 [(4, 0), (5, 7), (12, 0), (13, 0), (14, 0)] c_spec_l16Means_l1)))
 (.kept [4, 5] (.seq (.ops [m 25 5,
 (o 26 (.call 53 [(t 25)])),
 m 24 26,
 (o 27 (.ext 0 (t 24))),
 (o 28 (.ext 1 (t 24))),
 (o 8 (.alloc (.agg #[.int .i64 0, .slice none 0 0, .slice none 0 0, .slice none 0 0]))),
 (u (.store 4 (t 8) (t 27))),
 m 9 28])
 (.kept [4, 8] (.seq (.ops [o 29 (.load (some 4) (t 8)),
 (u (.store 4 (t 4) (t 29)))])
 (.ret)))))))
theorem h_spec_l16Means : hF Tryz.prog n_spec_l16Means = some c_spec_l16Means.strip := by kernel_rfl
theorem r_spec_l16Means : rF Tryz.prog n_spec_l16Means = some ([.cell 4 43], 30) := by kernel_rfl
abbrev n_laws_toReplica : Nat := 94
def c_laws_toReplica : AS :=
 .seq (.ops [o 1 (.box (t 0)),
 (o 2 (.alloc (.agg #[.bool false, .slice none 0 0, .int .i64 0])))])
 (.seq (.ops [o 3 (.alloc (.agg #[.bool false, .slice none 0 0, .int .i64 0]))])
 (.seq (.ops [o 4 (.fa 0 (t 1)),
 (o 5 (.load none (t 4))),
 (o 6 (.fa 0 (t 3))),
 (u (.store 1 (t 6) (t 5)))])
 (.seq (.ops [o 7 (.fa 1 (t 1)),
 (o 8 (.load none (t 7))),
 (o 9 (.call 161 [(t 8)])),
 (o 10 (.fa 1 (t 3))),
 (u (.store 1 (t 10) (t 9)))])
 (.seq (.ops [o 11 (.fa 2 (t 1)),
 (o 12 (.load none (t 11))),
 (o 13 (.fa 2 (t 3))),
 (u (.store 1 (t 13) (t 12)))])
 (.seq (.ops [o 14 (.load (some 3) (t 3)),
 (u (.store 3 (t 2) (t 14)))])
 (.ret))))))
theorem h_laws_toReplica : hF Tryz.prog n_laws_toReplica = some c_laws_toReplica.strip := by kernel_rfl
theorem r_laws_toReplica : rF Tryz.prog n_laws_toReplica = some ([.cell 2 132], 15) := by kernel_rfl
abbrev n_impl_Group_isRep : Nat := 95
def c_impl_Group_isRep : AS :=
 .seq (.ops [o 2 (.box (t 0)),
 (o 4 (.mv ff))])
 (.seq (.ops [m 5 1,
 (o 6 (.fa 0 (t 2))),
 (o 7 (.load none (t 6))),
 (o 8 (.lens (t 7))),
 (o 9 (.bin .sub (t 8) (k 1))),
 (o 10 (.call 98 [(t 5), (k 0), (t 9)])),
 m 4 10])
 (.ret))
theorem h_impl_Group_isRep : hF Tryz.prog n_impl_Group_isRep = some c_impl_Group_isRep.strip := by kernel_rfl
theorem r_impl_Group_isRep : rF Tryz.prog n_impl_Group_isRep = some ([.tmp 4], 11) := by kernel_rfl
abbrev n_impl_denoted : Nat := 96
def c_impl_denoted_l1 : AS :=
 .seq (.ops [o 12 (.bin .lss (t 11) (t 10))])
 (.seq (.cond (t 12) (.skip) (.exit 0))
 (.seq (.block 1 (.seq (.post [(13, 1, [(5, 1), (6, 3)])] (.ops [o 13 (.ia 8 (t 9) (t 11)),
 (o 14 (.load (some 8) (t 13))),
 (o 5 (.alloc (.agg #[.int .i64 0, .int .i64 0, .int .i64 0, .int .i64 0, .int .i64 0, .slice none 0 0, .slice none 0 0, .bool false]))),
 (u (.store 8 (t 5) (t 14)))]))
 (.post [(19, 1, [(4, 1), (5, 3)])] (.ops [m 15 3,
 (o 16 (.fa 1 (t 5))),
 (o 17 (.load (some 7) (t 16))),
 (o 18 (.bsl 7 (.agg #[.int .i64 0, .int .i64 0, .int .i64 0, .int .i64 0, .slice none 0 0, .slice none 0 0, .bool false]) 1 [(0, (t 17))])),
 (o 19 (.app 7 88 (.agg #[.int .i64 0, .int .i64 0, .int .i64 0, .int .i64 0, .slice none 0 0, .slice none 0 0, .bool false]) (t 15) (t 18))),
 m 3 19]))))
 (.kept [2, 3, 9, 10, 11] (.ops [o 20 (.bin .add (t 11) (k 1)),
 m 11 20]))))
def c_impl_denoted : AS :=
 .seq (.ops [o 2 (.alloc (.agg #[.int .i64 0, .slice none 0 0, .slice none 0 0, .slice none 0 0]))])
 (.seq (.ops [o 8 (.bsl 7 (.agg #[.int .i64 0, .int .i64 0, .int .i64 0, .int .i64 0, .slice none 0 0, .slice none 0 0, .bool false]) 0 []),
 m 3 8])
 (.seq (.seq (.ops [m 9 0,
 (o 10 (.lens (t 9))),
 (o 11 (.mv (k 0)))])
 (.block 0 (.loop 1 [(2, 0), (3, 7), (9, 0), (10, 0), (11, 0)] c_impl_denoted_l1)))
 (.kept [2, 3] (.seq (.ops [m 22 3,
 (o 23 (.call 57 [(t 22)])),
 m 21 23,
 (o 24 (.ext 0 (t 21))),
 (o 25 (.ext 1 (t 21))),
 (o 6 (.alloc (.agg #[.int .i64 0, .slice none 0 0, .slice none 0 0, .slice none 0 0]))),
 (u (.store 4 (t 6) (t 24))),
 m 7 25])
 (.kept [2, 6] (.seq (.ops [o 26 (.load (some 4) (t 6)),
 (u (.store 4 (t 2) (t 26)))])
 (.ret)))))))
theorem h_impl_denoted : hF Tryz.prog n_impl_denoted = some c_impl_denoted.strip := by kernel_rfl
theorem r_impl_denoted : rF Tryz.prog n_impl_denoted = some ([.cell 2 43], 27) := by kernel_rfl
abbrev n_impl_Replica_sure : Nat := 97
def c_impl_Replica_sure : AS :=
 .seq (.ops [o 1 (.box (t 0)),
 (o 2 (.mv (.const (.slice none 0 0))))])
 (.seq (.ops [o 3 (.fa 1 (t 1)),
 (o 4 (.load none (t 3))),
 (o 5 (.fa 2 (t 1))),
 (o 6 (.load none (t 5))),
 (o 7 (.sls 8 (t 4) none (some (t 6)) none)),
 m 2 7])
 (.ret))
theorem h_impl_Replica_sure : hF Tryz.prog n_impl_Replica_sure = some c_impl_Replica_sure.strip := by kernel_rfl
theorem r_impl_Replica_sure : rF Tryz.prog n_impl_Replica_sure = some ([.tmp 2], 8) := by kernel_rfl
abbrev n_impl_within : Nat := 98
def c_impl_within : AS :=
 .seq (.ops [o 6 (.mv ff)])
 (.seq (.ops [m 7 0,
 m 8 1,
 (o 9 (.bin .geq (t 7) (t 8))),
 m 10 9,
 mg 11 10 true 0,
 mg 12 10 true 2,
 (g 13 10 true (.bin .leq (t 11) (t 12))),
 (o 14 (.pick (t 10) (t 13) ff)),
 m 6 14])
 (.ret))
theorem h_impl_within : hF Tryz.prog n_impl_within = some c_impl_within.strip := by kernel_rfl
theorem r_impl_within : rF Tryz.prog n_impl_within = some ([.tmp 6], 15) := by kernel_rfl
abbrev n_laws_eqReplica : Nat := 99
def c_laws_eqReplica : AS :=
 .seq (.ops [o 2 (.box (t 0)),
 (o 3 (.box (t 1))),
 (o 4 (.mv ff))])
 (.seq (.seq (.ops [o 5 (.fa 0 (t 2)),
 (o 6 (.load none (t 5))),
 (o 7 (.fa 0 (t 3))),
 (o 8 (.load none (t 7))),
 (o 9 (.eqb true (t 6) (t 8)))])
 (.cond (t 9) (.seq (.ops [o 4 (.mv ff)])
 (.ret)) (.skip)))
 (.kept [2, 3] (.seq (.seq (.ops [o 10 (.fa 1 (t 2)),
 (o 11 (.load none (t 10))),
 (o 12 (.fa 1 (t 3))),
 (o 13 (.load none (t 12))),
 (o 14 (.call 162 [(t 11), (t 13)])),
 (o 15 (.not (t 14)))])
 (.cond (t 15) (.seq (.ops [o 4 (.mv ff)])
 (.ret)) (.skip)))
 (.kept [2, 3] (.seq (.seq (.ops [o 16 (.fa 2 (t 2)),
 (o 17 (.load none (t 16))),
 (o 18 (.fa 2 (t 3))),
 (o 19 (.load none (t 18))),
 (o 20 (.bin .neq (t 17) (t 19)))])
 (.cond (t 20) (.seq (.ops [o 4 (.mv ff)])
 (.ret)) (.skip)))
 (.kept [] (.seq (.ops [o 4 (.mv tt)])
 (.ret))))))))
theorem h_laws_eqReplica : hF Tryz.prog n_laws_eqReplica = some c_laws_eqReplica.strip := by kernel_rfl
theorem r_laws_eqReplica : rF Tryz.prog n_laws_eqReplica = some ([.tmp 4], 21) := by kernel_rfl
abbrev n_spec_l3Bytes : Nat := 100
def c_spec_l3Bytes_l1 : AS :=
 .seq (.seq (.ops [m 36 7,
 m 37 1,
 (o 38 (.lent (t 37))),
 (o 39 (.bin .lss (t 36) (t 38)))])
 (.cond (t 39) (.skip) (.exit 2)))
 (.seq (.block 3 (.dops [m 42 6,
 m 43 42,
 mg 44 43 false 0,
 mg 45 43 false 5,
 (g 46 43 false (.ix (t 44) (t 45))),
 mg 47 43 false 1,
 mg 48 43 false 7,
 (g 49 43 false (.ix (t 47) (t 48))),
 (g 50 43 false (.bin .eql (t 46) (t 49))),
 (o 51 (.pick (t 43) tt (t 50))),
 m 6 51]))
 (.kept [0, 1, 5, 6, 7] (.ops [m 40 7,
 (o 41 (.bin .add (t 40) (k 1))),
 m 7 41])))
def c_spec_l3Bytes_l2 : AS :=
 .seq (.seq (.ops [m 8 5,
 m 9 0,
 (o 10 (.lent (t 9))),
 (o 11 (.bin .lss (t 8) (t 10)))])
 (.cond (t 11) (.skip) (.exit 0)))
 (.seq (.block 1 (.seq (.ops [m 14 0,
 m 15 5,
 (o 16 (.ix (t 14) (t 15))),
 (o 17 (.bin .geq (t 16) (.const (.int .u8 97)))),
 m 18 17,
 mg 19 18 true 0,
 mg 20 18 true 5,
 (g 21 18 true (.ix (t 19) (t 20))),
 (g 22 18 true (.bin .leq (t 21) (.const (.int .u8 122)))),
 (o 23 (.pick (t 18) (t 22) ff)),
 m 24 23,
 mg 25 24 false 0,
 mg 26 24 false 5,
 (g 27 24 false (.ix (t 25) (t 26))),
 (g 28 24 false (.bin .geq (t 27) (.const (.int .u8 48)))),
 mg 29 24 false 28,
 mg 30 29 true 0,
 mg 31 29 true 5,
 (g 32 29 true (.ix (t 30) (t 31))),
 (g 33 29 true (.bin .leq (t 32) (.const (.int .u8 57)))),
 (g 34 24 false (.pick (t 29) (t 33) ff)),
 (o 35 (.pick (t 24) tt (t 34))),
 m 6 35])
 (.kept [0, 1, 5, 6] (.seq (.seq (.ops [o 7 (.mv (k 0))])
 (.block 2 (.loop 2 [(0, 0), (1, 0), (5, 0), (6, 0), (7, 0)] c_spec_l3Bytes_l1)))
 (.kept [0, 1, 5, 6] (.seq (.ops [m 52 6,
 (o 53 (.not (t 52)))])
 (.cond (t 53) (.seq (.ops [o 4 (.mv ff)])
 (.ret)) (.skip))))))))
 (.kept [0, 1, 5] (.ops [m 12 5,
 (o 13 (.bin .add (t 12) (k 1))),
 m 5 13])))
def c_spec_l3Bytes : AS :=
 .seq (.ops [o 4 (.mv ff)])
 (.seq (.seq (.ops [o 5 (.mv (k 0))])
 (.block 0 (.loop 2 [(0, 0), (1, 0), (5, 0)] c_spec_l3Bytes_l2)))
 (.kept [] (.seq (.ops [o 4 (.mv tt)])
 (.ret))))
theorem h_spec_l3Bytes : hF Tryz.prog n_spec_l3Bytes = some c_spec_l3Bytes.strip := by kernel_rfl
theorem r_spec_l3Bytes : rF Tryz.prog n_spec_l3Bytes = some ([.tmp 4], 54) := by kernel_rfl
abbrev n_spec_l3At : Nat := 101
def c_spec_l3At_l1 : AS :=
 .seq (.ops [o 10 (.bin .lss (t 9) (t 8))])
 (.seq (.cond (t 10) (.skip) (.exit 0))
 (.seq (.block 1 (.seq (.post [(12, 1, [(1, 3)])] (.ops [m 11 9,
 (o 12 (.ia 2 (t 7) (t 9))),
 (o 13 (.load (some 2) (t 12))),
 (o 6 (.alloc (.agg #[.string ⟨⟨[]⟩⟩, .slice none 0 0]))),
 m 5 11,
 (u (.store 2 (t 6) (t 13)))]))
 (.seq (.ops [o 14 (.fa 0 (t 6)),
 (o 15 (.load none (t 14))),
 m 16 1,
 (o 17 (.bin .eql (t 15) (t 16)))])
 (.cond (t 17) (.seq (.ops [m 18 5,
 m 4 18])
 (.ret)) (.skip)))))
 (.kept [1, 7, 8, 9] (.ops [o 19 (.bin .add (t 9) (k 1)),
 m 9 19]))))
def c_spec_l3At : AS :=
 .seq (.ops [o 4 (.mv (k 0))])
 (.seq (.seq (.ops [m 7 0,
 (o 8 (.lens (t 7))),
 (o 9 (.mv (k 0)))])
 (.block 0 (.loop 2 [(1, 0), (7, 0), (8, 0), (9, 0)] c_spec_l3At_l1)))
 (.kept [] (.seq (.ops [o 4 (.mv (k (-1)))])
 (.ret))))
theorem h_spec_l3At : hF Tryz.prog n_spec_l3At = some c_spec_l3At.strip := by kernel_rfl
theorem r_spec_l3At : rF Tryz.prog n_spec_l3At = some ([.tmp 4], 20) := by kernel_rfl
abbrev n_impl_hasBytes : Nat := 103
def c_impl_hasBytes_l1 : AS :=
 .seq (.ops [o 9 (.bin .lss (t 8) (t 7))])
 (.seq (.cond (t 9) (.skip) (.exit 0))
 (.seq (.block 1 (.seq (.ops [m 10 8,
 m 5 10])
 (.seq (.ops [m 11 0,
 m 12 5,
 (o 13 (.ix (t 11) (t 12))),
 (o 14 (.call 163 [(t 13)])),
 (o 15 (.not (t 14))),
 m 16 15,
 mg 17 16 true 1,
 mg 18 16 true 0,
 mg 19 16 true 5,
 (g 20 16 true (.ix (t 18) (t 19))),
 (g 21 16 true (.call 164 [(t 17), (t 20)])),
 (g 22 16 true (.bin .lss (t 21) (k 0))),
 (o 23 (.pick (t 16) (t 22) ff))])
 (.kept [0, 1, 7, 8, 23] (.cond (t 23) (.seq (.ops [o 4 (.mv ff)])
 (.ret)) (.skip))))))
 (.kept [0, 1, 7, 8] (.ops [o 24 (.bin .add (t 8) (k 1)),
 m 8 24]))))
def c_impl_hasBytes : AS :=
 .seq (.ops [o 4 (.mv ff)])
 (.seq (.seq (.ops [m 6 0,
 (o 7 (.lent (t 6))),
 (o 8 (.mv (k 0)))])
 (.block 0 (.loop 2 [(0, 0), (1, 0), (7, 0), (8, 0)] c_impl_hasBytes_l1)))
 (.kept [] (.seq (.ops [o 4 (.mv tt)])
 (.ret))))
theorem h_impl_hasBytes : hF Tryz.prog n_impl_hasBytes = some c_impl_hasBytes.strip := by kernel_rfl
theorem r_impl_hasBytes : rF Tryz.prog n_impl_hasBytes = some ([.tmp 4], 25) := by kernel_rfl
abbrev n_impl_findCell : Nat := 104
def c_impl_findCell : AS :=
 .seq (.ops [o 4 (.mv (k 0)),
 (o 5 (.mv ff))])
 (.seq (.ops [m 6 0,
 m 7 1,
 (o 8 (.call 165 [(t 6), (t 7), (.func 166)])),
 (o 9 (.ext 0 (t 8))),
 (o 10 (.ext 1 (t 8))),
 m 4 9,
 m 5 10])
 (.ret))
theorem h_impl_findCell : hF Tryz.prog n_impl_findCell = some c_impl_findCell.strip := by kernel_rfl
theorem r_impl_findCell : rF Tryz.prog n_impl_findCell = some ([.tmp 4, .tmp 5], 11) := by kernel_rfl
abbrev n_spec_l3Time : Nat := 106
def c_spec_l3Time : AS :=
 .seq (.ops [o 2 (.mv ff)])
 (.seq (.ops [m 3 0,
 (o 4 (.call 91 [(t 3), (k 1), (k 100000)])),
 m 2 4])
 (.ret))
theorem h_spec_l3Time : hF Tryz.prog n_spec_l3Time = some c_spec_l3Time.strip := by kernel_rfl
theorem r_spec_l3Time : rF Tryz.prog n_spec_l3Time = some ([.tmp 2], 5) := by kernel_rfl
abbrev n_spec_l4Keys : Nat := 107
def c_spec_l4Keys_l1 : AS :=
 .seq (.ops [o 8 (.bin .lss (t 7) (t 6))])
 (.seq (.cond (t 8) (.skip) (.exit 0))
 (.seq (.block 1 (.seq (.ops [m 9 7,
 (o 10 (.ia 1 (t 5) (t 7))),
 (o 11 (.load none (t 10))),
 m 3 9,
 m 4 11])
 (.seq (.ops [m 12 4,
 (o 13 (.call 48 [(t 12)])),
 (o 14 (.not (t 13))),
 m 15 14,
 mg 16 15 false 3,
 (g 17 15 false (.bin .gtr (t 16) (k 0))),
 mg 18 15 false 17,
 mg 19 18 true 0,
 mg 20 18 true 3,
 (g 21 18 true (.bin .sub (t 20) (k 1))),
 (g 22 18 true (.ia 1 (t 19) (t 21))),
 (g 23 18 true (.load none (t 22))),
 mg 24 18 true 4,
 (g 25 18 true (.bin .geq (t 23) (t 24))),
 (g 26 15 false (.pick (t 18) (t 25) ff)),
 (o 27 (.pick (t 15) tt (t 26)))])
 (.kept [0, 5, 6, 7, 27] (.cond (t 27) (.seq (.ops [o 2 (.mv ff)])
 (.ret)) (.skip))))))
 (.kept [0, 5, 6, 7] (.ops [o 28 (.bin .add (t 7) (k 1)),
 m 7 28]))))
def c_spec_l4Keys : AS :=
 .seq (.ops [o 2 (.mv ff)])
 (.seq (.seq (.ops [m 5 0,
 (o 6 (.lens (t 5))),
 (o 7 (.mv (k 0)))])
 (.block 0 (.loop 1 [(0, 0), (5, 0), (6, 0), (7, 0)] c_spec_l4Keys_l1)))
 (.kept [0] (.seq (.ops [m 29 0,
 (o 30 (.lens (t 29))),
 (o 31 (.bin .leq (t 30) (k 8))),
 m 2 31])
 (.ret))))
theorem h_spec_l4Keys : hF Tryz.prog n_spec_l4Keys = some c_spec_l4Keys.strip := by kernel_rfl
theorem r_spec_l4Keys : rF Tryz.prog n_spec_l4Keys = some ([.tmp 2], 32) := by kernel_rfl
abbrev n_spec_l3Writes : Nat := 108
def c_spec_l3Writes_l1 : AS :=
 .seq (.ops [o 8 (.bin .lss (t 7) (t 6))])
 (.seq (.cond (t 8) (.skip) (.exit 0))
 (.seq (.block 1 (.seq (.ops [m 9 7,
 (o 10 (.ia 3 (t 5) (t 7))),
 (o 11 (.load (some 3) (t 10))),
 (o 4 (.alloc (.agg #[.string ⟨⟨[]⟩⟩, .string ⟨⟨[]⟩⟩, .bool false]))),
 m 3 9,
 (u (.store 3 (t 4) (t 11)))])
 (.seq (.rops [(none, o 12 (.fa 0 (t 4))),
 (none, o 13 (.load none (t 12))),
 (none, o 14 (.fa 1 (t 4))),
 (none, o 15 (.load none (t 14))),
 (none, o 16 (.fa 2 (t 4))),
 (none, o 17 (.load none (t 16))),
 (some [], o 18 (.call 169 [(t 13), (t 15), (t 17)])),
 (none, o 19 (.not (t 18))),
 (none, m 20 19),
 (none, mg 21 20 false 3),
 (none, g 22 20 false (.bin .gtr (t 21) (k 0))),
 (none, mg 23 20 false 22),
 (none, mg 24 23 true 0),
 (none, mg 25 23 true 3),
 (none, g 26 23 true (.bin .sub (t 25) (k 1))),
 (none, g 27 23 true (.ia 3 (t 24) (t 26))),
 (none, g 28 23 true (.fa 0 (t 27))),
 (none, g 29 23 true (.load none (t 28))),
 (none, g 30 23 true (.fa 0 (t 4))),
 (none, g 31 23 true (.load none (t 30))),
 (none, g 32 23 true (.bin .geq (t 29) (t 31))),
 (none, g 33 20 false (.pick (t 23) (t 32) ff)),
 (none, o 34 (.pick (t 20) tt (t 33)))])
 (.kept [0, 5, 6, 7, 34] (.cond (t 34) (.seq (.ops [o 2 (.mv ff)])
 (.ret)) (.skip))))))
 (.kept [0, 5, 6, 7] (.ops [o 35 (.bin .add (t 7) (k 1)),
 m 7 35]))))
def c_spec_l3Writes : AS :=
 .seq (.ops [o 2 (.mv ff)])
 (.seq (.seq (.ops [m 5 0,
 (o 6 (.lens (t 5))),
 (o 7 (.mv (k 0)))])
 (.block 0 (.loop 1 [(0, 0), (5, 0), (6, 0), (7, 0)] c_spec_l3Writes_l1)))
 (.kept [0] (.seq (.ops [m 36 0,
 (o 37 (.lens (t 36))),
 (o 38 (.bin .leq (t 37) (k 24))),
 m 2 38])
 (.ret))))
theorem h_spec_l3Writes : hF Tryz.prog n_spec_l3Writes = some c_spec_l3Writes.strip := by kernel_rfl
theorem r_spec_l3Writes : rF Tryz.prog n_spec_l3Writes = some ([.tmp 2], 39) := by kernel_rfl
abbrev n_impl_isTxn : Nat := 110
def c_impl_isTxn : AS :=
 .seq (.ops [o 2 (.mv ff)])
 (.seq (.ops [m 3 0,
 (o 4 (.call 98 [(t 3), (k 1), (k 60)])),
 m 2 4])
 (.ret))
theorem h_impl_isTxn : hF Tryz.prog n_impl_isTxn = some c_impl_isTxn.strip := by kernel_rfl
theorem r_impl_isTxn : rF Tryz.prog n_impl_isTxn = some ([.tmp 2], 5) := by kernel_rfl
abbrev n_impl_isTime : Nat := 111
def c_impl_isTime : AS :=
 .seq (.ops [o 2 (.mv ff)])
 (.seq (.ops [m 3 0,
 (o 4 (.call 98 [(t 3), (k 1), (k 100000)])),
 m 2 4])
 (.ret))
theorem h_impl_isTime : hF Tryz.prog n_impl_isTime = some c_impl_isTime.strip := by kernel_rfl
theorem r_impl_isTime : rF Tryz.prog n_impl_isTime = some ([.tmp 2], 5) := by kernel_rfl
abbrev n_impl_areRising : Nat := 112
def c_impl_areRising_l1 : AS :=
 .seq (.ops [o 8 (.bin .lss (t 7) (t 6))])
 (.seq (.cond (t 8) (.skip) (.exit 0))
 (.seq (.block 1 (.seq (.ops [m 9 7,
 (o 10 (.ia 1 (t 5) (t 7))),
 (o 11 (.load none (t 10))),
 m 3 9,
 m 4 11])
 (.seq (.ops [m 12 4,
 (o 13 (.call 50 [(t 12)])),
 (o 14 (.not (t 13))),
 m 15 14,
 mg 16 15 false 3,
 (g 17 15 false (.bin .gtr (t 16) (k 0))),
 mg 18 15 false 17,
 mg 19 18 true 4,
 mg 20 18 true 0,
 mg 21 18 true 3,
 (g 22 18 true (.bin .sub (t 21) (k 1))),
 (g 23 18 true (.ia 1 (t 20) (t 22))),
 (g 24 18 true (.load none (t 23))),
 (g 25 18 true (.bin .leq (t 19) (t 24))),
 (g 26 15 false (.pick (t 18) (t 25) ff)),
 (o 27 (.pick (t 15) tt (t 26)))])
 (.kept [0, 5, 6, 7, 27] (.cond (t 27) (.seq (.ops [o 2 (.mv ff)])
 (.ret)) (.skip))))))
 (.kept [0, 5, 6, 7] (.ops [o 28 (.bin .add (t 7) (k 1)),
 m 7 28]))))
def c_impl_areRising : AS :=
 .seq (.ops [o 2 (.mv ff)])
 (.seq (.seq (.ops [m 5 0,
 (o 6 (.lens (t 5))),
 (o 7 (.mv (k 0)))])
 (.block 0 (.loop 1 [(0, 0), (5, 0), (6, 0), (7, 0)] c_impl_areRising_l1)))
 (.kept [] (.seq (.ops [o 2 (.mv tt)])
 (.ret))))
theorem h_impl_areRising : hF Tryz.prog n_impl_areRising = some c_impl_areRising.strip := by kernel_rfl
theorem r_impl_areRising : rF Tryz.prog n_impl_areRising = some ([.tmp 2], 29) := by kernel_rfl
abbrev n_impl_GoodWrites : Nat := 113
def c_impl_GoodWrites : AS :=
 .seq (.ops [o 2 (.mv ff)])
 (.seq (.ops [m 3 0,
 (o 4 (.lens (t 3))),
 (o 5 (.bin .leq (t 4) (k 24))),
 m 6 5,
 mg 7 6 true 0,
 (g 8 6 true (.call 170 [(t 7)])),
 (g 9 6 true (.call 112 [(t 8)])),
 (o 10 (.pick (t 6) (t 9) ff)),
 m 11 10,
 mg 12 11 true 0,
 (g 13 11 true (.call 171 [(t 12), (.func 172)])),
 (g 14 11 true (.not (t 13))),
 (o 15 (.pick (t 11) (t 14) ff)),
 m 2 15])
 (.ret))
theorem h_impl_GoodWrites : hF Tryz.prog n_impl_GoodWrites = some c_impl_GoodWrites.strip := by kernel_rfl
theorem r_impl_GoodWrites : rF Tryz.prog n_impl_GoodWrites = some ([.tmp 2], 16) := by kernel_rfl
abbrev n_laws_szWrite : Nat := 124
def c_laws_szWrite : AS :=
 .seq (.ops [o 2 (.box (t 0)),
 (o 4 (.mv (k 0)))])
 (.seq (.ops [m 5 1,
 (o 6 (.fa 0 (t 2))),
 (o 7 (.load none (t 6))),
 (o 8 (.lent (t 7))),
 (o 9 (.bin .sub (t 5) (t 8))),
 m 1 9])
 (.seq (.seq (.ops [m 10 1,
 (o 11 (.bin .lss (t 10) (k 0)))])
 (.cond (t 11) (.seq (.ops [o 4 (.mv (k (-1)))])
 (.ret)) (.skip)))
 (.seq (.ops [m 12 1,
 (o 13 (.fa 1 (t 2))),
 (o 14 (.load none (t 13))),
 (o 15 (.lent (t 14))),
 (o 16 (.bin .sub (t 12) (t 15))),
 m 1 16])
 (.seq (.seq (.ops [m 17 1,
 (o 18 (.bin .lss (t 17) (k 0)))])
 (.cond (t 18) (.seq (.ops [o 4 (.mv (k (-1)))])
 (.ret)) (.skip)))
 (.seq (.ops [m 19 1,
 m 4 19])
 (.ret))))))
theorem h_laws_szWrite : hF Tryz.prog n_laws_szWrite = some c_laws_szWrite.strip := by kernel_rfl
theorem r_laws_szWrite : rF Tryz.prog n_laws_szWrite = some ([.tmp 4], 20) := by kernel_rfl
abbrev n_spec_l3Good : Nat := 125
def c_spec_l3Good_l1 : AS :=
 .seq (.ops [o 8 (.bin .lss (t 7) (t 6))])
 (.seq (.cond (t 8) (.skip) (.exit 0))
 (.seq (.block 1 (.seq (.post [(10, 1, [(1, 3)])] (.ops [m 9 7,
 (o 10 (.ia 2 (t 5) (t 7))),
 (o 11 (.load (some 2) (t 10))),
 (o 4 (.alloc (.agg #[.string ⟨⟨[]⟩⟩, .slice none 0 0]))),
 m 3 9,
 (u (.store 2 (t 4) (t 11)))]))
 (.seq (.rops [(none, o 12 (.load (some 2) (t 4))),
 (some [], o 13 (.call 176 [(t 12)])),
 (none, o 14 (.not (t 13))),
 (none, m 15 14),
 (none, mg 16 15 false 3),
 (none, g 17 15 false (.bin .gtr (t 16) (k 0))),
 (none, mg 18 15 false 17),
 (none, mg 19 18 true 0),
 (none, mg 20 18 true 3),
 (none, g 21 18 true (.bin .sub (t 20) (k 1))),
 (none, g 22 18 true (.ia 2 (t 19) (t 21))),
 (none, g 23 18 true (.fa 0 (t 22))),
 (none, g 24 18 true (.load none (t 23))),
 (none, g 25 18 true (.fa 0 (t 4))),
 (none, g 26 18 true (.load none (t 25))),
 (none, g 27 18 true (.bin .geq (t 24) (t 26))),
 (none, g 28 15 false (.pick (t 18) (t 27) ff)),
 (none, o 29 (.pick (t 15) tt (t 28)))])
 (.kept [0, 5, 6, 7, 29] (.cond (t 29) (.seq (.ops [o 2 (.mv ff)])
 (.ret)) (.skip))))))
 (.kept [0, 5, 6, 7] (.ops [o 30 (.bin .add (t 7) (k 1)),
 m 7 30]))))
def c_spec_l3Good : AS :=
 .seq (.ops [o 2 (.mv ff)])
 (.seq (.seq (.ops [m 5 0,
 (o 6 (.lens (t 5))),
 (o 7 (.mv (k 0)))])
 (.block 0 (.loop 1 [(0, 0), (5, 0), (6, 0), (7, 0)] c_spec_l3Good_l1)))
 (.kept [0] (.seq (.ops [m 31 0,
 (o 32 (.lens (t 31))),
 (o 33 (.bin .leq (t 32) (k 24))),
 m 2 33])
 (.ret))))
theorem h_spec_l3Good : hF Tryz.prog n_spec_l3Good = some c_spec_l3Good.strip := by kernel_rfl
theorem r_spec_l3Good : rF Tryz.prog n_spec_l3Good = some ([.tmp 2], 34) := by kernel_rfl
abbrev n_spec_l3Last : Nat := 127
def c_spec_l3Last : AS :=
 .seq (.ops [o 4 (.mv (k 0))])
 (.seq (.ops [m 6 0,
 m 7 1,
 (o 8 (.call 101 [(t 6), (t 7)])),
 m 5 8])
 (.seq (.seq (.ops [m 9 5,
 (o 10 (.bin .lss (t 9) (k 0)))])
 (.cond (t 10) (.seq (.ops [o 4 (.mv (k 0))])
 (.ret)) (.skip)))
 (.seq (.post [(18, 1, [(1, 3)]), (13, 1, [(1, 3)])] (.dops [m 11 0,
 m 12 5,
 (o 13 (.ia 2 (t 11) (t 12))),
 (o 14 (.fa 1 (t 13))),
 (o 15 (.load none (t 14))),
 m 16 0,
 m 17 5,
 (o 18 (.ia 2 (t 16) (t 17))),
 (o 19 (.fa 1 (t 18))),
 (o 20 (.load none (t 19))),
 (o 21 (.lens (t 20))),
 (o 22 (.bin .sub (t 21) (k 1))),
 (o 23 (.ia 3 (t 15) (t 22))),
 (o 24 (.fa 0 (t 23))),
 (o 25 (.load none (t 24))),
 m 4 25]))
 (.ret))))
theorem h_spec_l3Last : hF Tryz.prog n_spec_l3Last = some c_spec_l3Last.strip := by kernel_rfl
theorem r_spec_l3Last : rF Tryz.prog n_spec_l3Last = some ([.tmp 4], 26) := by kernel_rfl
abbrev n_spec_l13HeldOf : Nat := 128
def c_spec_l13HeldOf_l1 : AS :=
 .seq (.ops [o 12 (.bin .lss (t 11) (t 10))])
 (.seq (.cond (t 12) (.skip) (.exit 0))
 (.seq (.block 1 (.seq (.post [(13, 1, [(3, 1), (4, 3)])] (.ops [o 13 (.ia 5 (t 9) (t 11)),
 (o 14 (.load (some 5) (t 13))),
 (o 7 (.alloc (.agg #[.int .i64 0, .int .i64 0, .int .i64 0, .slice none 0 0, .slice none 0 0]))),
 (u (.store 5 (t 7) (t 14)))]))
 (.seq (.ops [o 15 (.fa 0 (t 7)),
 (o 16 (.load none (t 15))),
 m 17 1,
 (o 18 (.bin .eql (t 16) (t 17)))])
 (.cond (t 18) (.seq (.ops [o 19 (.load (some 5) (t 7)),
 (u (.store 5 (t 4) (t 19))),
 (o 5 (.mv tt))])
 (.ret)) (.skip)))))
 (.kept [1, 4, 9, 10, 11] (.ops [o 20 (.bin .add (t 11) (k 1)),
 m 11 20]))))
def c_spec_l13HeldOf : AS :=
 .seq (.ops [o 2 (.box (t 0)),
 (o 4 (.alloc (.agg #[.int .i64 0, .int .i64 0, .int .i64 0, .slice none 0 0, .slice none 0 0]))),
 (o 5 (.mv ff))])
 (.seq (.seq (.ops [o 8 (.fa 2 (t 2)),
 (o 9 (.load none (t 8))),
 (o 10 (.lens (t 9))),
 (o 11 (.mv (k 0)))])
 (.block 0 (.loop 2 [(1, 0), (4, 0), (9, 0), (10, 0), (11, 0)] c_spec_l13HeldOf_l1)))
 (.kept [4] (.seq (.ops [o 21 (.build (.agg #[.int .i64 0, .int .i64 0, .int .i64 0, .slice none 0 0, .slice none 0 0]) []),
 (u (.store 5 (t 4) (t 21))),
 (o 5 (.mv ff))])
 (.ret))))
theorem h_spec_l13HeldOf : hF Tryz.prog n_spec_l13HeldOf = some c_spec_l13HeldOf.strip := by kernel_rfl
theorem r_spec_l13HeldOf : rF Tryz.prog n_spec_l13HeldOf = some ([.cell 4 127, .tmp 5], 22) := by kernel_rfl
abbrev n_spec_l13Own : Nat := 129
def c_spec_l13Own_l1 : AS :=
 .seq (.ops [o 20 (.bin .lss (t 19) (t 18))])
 (.seq (.cond (t 20) (.skip) (.exit 0))
 (.seq (.block 1 (.seq (.post [(21, 1, [(3, 1), (4, 3)])] (.ops [o 21 (.ia 5 (t 17) (t 19)),
 (o 22 (.load (some 5) (t 21))),
 (o 5 (.alloc (.agg #[.int .i64 0, .int .i64 0, .int .i64 0, .slice none 0 0, .slice none 0 0]))),
 (u (.store 5 (t 5) (t 22)))]))
 (.post [(28, 1, [(3, 1), (4, 3)])] (.rops [(none, o 23 (.fa 2 (t 3))),
 (none, o 24 (.load none (t 23))),
 (none, o 25 (.load (some 5) (t 5))),
 (some [o 24 (.load none (t 23)), o 23 (.fa 2 (t 3))], o 26 (.call 181 [(t 25)])),
 (some [o 24 (.load none (t 23)), o 23 (.fa 2 (t 3))], o 27 (.bsl 5 (.agg #[.int .i64 0, .int .i64 0, .int .i64 0, .slice none 0 0, .slice none 0 0]) 1 [(0, (t 26))])),
 (some [], o 28 (.app 5 72 (.agg #[.int .i64 0, .int .i64 0, .int .i64 0, .slice none 0 0, .slice none 0 0]) (t 24) (t 27))),
 (none, o 29 (.fa 2 (t 3))),
 (some [], u (.store 1 (t 29) (t 28)))]))))
 (.kept [2, 3, 17, 18, 19] (.ops [o 30 (.bin .add (t 19) (k 1)),
 m 19 30]))))
def c_spec_l13Own : AS :=
 .seq (.ops [o 1 (.box (t 0)),
 (o 2 (.alloc (.agg #[.int .i64 0, .slice none 0 0, .slice none 0 0, .slice none 0 0])))])
 (.seq (.tops [(1, 0), (2, 0), (3, 0)] (.rd (o 6 (.fa 0 (t 1))) (.rd (o 7 (.load none (t 6))) (.rd (o 8 (.fa 1 (t 1))) (.rd (o 9 (.load none (t 8))) (.rd (o 12 (.fa 3 (t 1))) (.rd (o 13 (.load none (t 12))) (.alt [o 13 (.load none (t 12)), o 12 (.fa 3 (t 1)), o 7 (.load none (t 6)), o 6 (.fa 0 (t 1))] (o 10 (.call 180 [(t 9)]))
 (.alt [o 13 (.load none (t 12)), o 12 (.fa 3 (t 1)), o 7 (.load none (t 6)), o 6 (.fa 0 (t 1))] (o 11 (.bsl 3 (.agg #[.int .i64 0, .bool false, .int .i64 0]) 0 []))
 (.alt [o 7 (.load none (t 6)), o 6 (.fa 0 (t 1))] (o 14 (.app 3 24 (.agg #[.int .i64 0, .bool false, .int .i64 0]) (t 11) (t 13)))
 (.rd (o 15 (.build (.agg #[.int .i64 0, .slice none 0 0, .slice none 0 0, .slice none 0 0]) [(0, 1, (t 7)), (1, 1, (t 10)), (3, 1, (t 14))])) (.alt [o 15 (.build (.agg #[.int .i64 0, .slice none 0 0, .slice none 0 0, .slice none 0 0]) [(0, 1, (t 7)), (1, 1, (t 10)), (3, 1, (t 14))]), o 7 (.load none (t 6)), o 6 (.fa 0 (t 1))] (o 3 (.alloc (.agg #[.int .i64 0, .slice none 0 0, .slice none 0 0, .slice none 0 0])))
 (.alt [] (u (.store 4 (t 3) (t 15)))
 (.done)
 (.none))
 (.none)))
 (.alt [o 13 (.load none (t 12)), o 12 (.fa 3 (t 1)), o 7 (.load none (t 6)), o 6 (.fa 0 (t 1))] (o 3 (.alloc (.agg #[.int .i64 0, .slice none 0 0, .slice none 0 0, .slice none 0 0])))
 (.alt [o 7 (.load none (t 6)), o 6 (.fa 0 (t 1))] (o 14 (.app 3 24 (.agg #[.int .i64 0, .bool false, .int .i64 0]) (t 11) (t 13)))
 (.rd (o 15 (.build (.agg #[.int .i64 0, .slice none 0 0, .slice none 0 0, .slice none 0 0]) [(0, 1, (t 7)), (1, 1, (t 10)), (3, 1, (t 14))])) (.alt [] (u (.store 4 (t 3) (t 15)))
 (.done)
 (.none)))
 (.none))
 (.none)))
 (.alt [o 13 (.load none (t 12)), o 12 (.fa 3 (t 1)), o 7 (.load none (t 6)), o 6 (.fa 0 (t 1))] (o 3 (.alloc (.agg #[.int .i64 0, .slice none 0 0, .slice none 0 0, .slice none 0 0])))
 (.alt [o 13 (.load none (t 12)), o 12 (.fa 3 (t 1)), o 7 (.load none (t 6)), o 6 (.fa 0 (t 1))] (o 11 (.bsl 3 (.agg #[.int .i64 0, .bool false, .int .i64 0]) 0 []))
 (.alt [o 7 (.load none (t 6)), o 6 (.fa 0 (t 1))] (o 14 (.app 3 24 (.agg #[.int .i64 0, .bool false, .int .i64 0]) (t 11) (t 13)))
 (.rd (o 15 (.build (.agg #[.int .i64 0, .slice none 0 0, .slice none 0 0, .slice none 0 0]) [(0, 1, (t 7)), (1, 1, (t 10)), (3, 1, (t 14))])) (.alt [] (u (.store 4 (t 3) (t 15)))
 (.done)
 (.none)))
 (.none))
 (.none))
 (.none)))
 (.alt [o 13 (.load none (t 12)), o 12 (.fa 3 (t 1)), o 9 (.load none (t 8)), o 8 (.fa 1 (t 1)), o 7 (.load none (t 6)), o 6 (.fa 0 (t 1))] (o 11 (.bsl 3 (.agg #[.int .i64 0, .bool false, .int .i64 0]) 0 []))
 (.alt [o 13 (.load none (t 12)), o 12 (.fa 3 (t 1)), o 7 (.load none (t 6)), o 6 (.fa 0 (t 1))] (o 10 (.call 180 [(t 9)]))
 (.alt [o 7 (.load none (t 6)), o 6 (.fa 0 (t 1))] (o 14 (.app 3 24 (.agg #[.int .i64 0, .bool false, .int .i64 0]) (t 11) (t 13)))
 (.rd (o 15 (.build (.agg #[.int .i64 0, .slice none 0 0, .slice none 0 0, .slice none 0 0]) [(0, 1, (t 7)), (1, 1, (t 10)), (3, 1, (t 14))])) (.alt [o 15 (.build (.agg #[.int .i64 0, .slice none 0 0, .slice none 0 0, .slice none 0 0]) [(0, 1, (t 7)), (1, 1, (t 10)), (3, 1, (t 14))]), o 7 (.load none (t 6)), o 6 (.fa 0 (t 1))] (o 3 (.alloc (.agg #[.int .i64 0, .slice none 0 0, .slice none 0 0, .slice none 0 0])))
 (.alt [] (u (.store 4 (t 3) (t 15)))
 (.done)
 (.none))
 (.none)))
 (.alt [o 13 (.load none (t 12)), o 12 (.fa 3 (t 1)), o 7 (.load none (t 6)), o 6 (.fa 0 (t 1))] (o 3 (.alloc (.agg #[.int .i64 0, .slice none 0 0, .slice none 0 0, .slice none 0 0])))
 (.alt [o 7 (.load none (t 6)), o 6 (.fa 0 (t 1))] (o 14 (.app 3 24 (.agg #[.int .i64 0, .bool false, .int .i64 0]) (t 11) (t 13)))
 (.rd (o 15 (.build (.agg #[.int .i64 0, .slice none 0 0, .slice none 0 0, .slice none 0 0]) [(0, 1, (t 7)), (1, 1, (t 10)), (3, 1, (t 14))])) (.alt [] (u (.store 4 (t 3) (t 15)))
 (.done)
 (.none)))
 (.none))
 (.none)))
 (.alt [o 13 (.load none (t 12)), o 12 (.fa 3 (t 1)), o 9 (.load none (t 8)), o 8 (.fa 1 (t 1)), o 7 (.load none (t 6)), o 6 (.fa 0 (t 1))] (o 3 (.alloc (.agg #[.int .i64 0, .slice none 0 0, .slice none 0 0, .slice none 0 0])))
 (.alt [o 13 (.load none (t 12)), o 12 (.fa 3 (t 1)), o 7 (.load none (t 6)), o 6 (.fa 0 (t 1))] (o 10 (.call 180 [(t 9)]))
 (.alt [o 7 (.load none (t 6)), o 6 (.fa 0 (t 1))] (o 14 (.app 3 24 (.agg #[.int .i64 0, .bool false, .int .i64 0]) (t 11) (t 13)))
 (.rd (o 15 (.build (.agg #[.int .i64 0, .slice none 0 0, .slice none 0 0, .slice none 0 0]) [(0, 1, (t 7)), (1, 1, (t 10)), (3, 1, (t 14))])) (.alt [] (u (.store 4 (t 3) (t 15)))
 (.done)
 (.none)))
 (.none))
 (.none))
 (.none)))
 (.alt [o 13 (.load none (t 12)), o 12 (.fa 3 (t 1)), o 9 (.load none (t 8)), o 8 (.fa 1 (t 1)), o 7 (.load none (t 6)), o 6 (.fa 0 (t 1))] (o 3 (.alloc (.agg #[.int .i64 0, .slice none 0 0, .slice none 0 0, .slice none 0 0])))
 (.alt [o 13 (.load none (t 12)), o 12 (.fa 3 (t 1)), o 7 (.load none (t 6)), o 6 (.fa 0 (t 1))] (o 10 (.call 180 [(t 9)]))
 (.alt [o 13 (.load none (t 12)), o 12 (.fa 3 (t 1)), o 7 (.load none (t 6)), o 6 (.fa 0 (t 1))] (o 11 (.bsl 3 (.agg #[.int .i64 0, .bool false, .int .i64 0]) 0 []))
 (.alt [o 7 (.load none (t 6)), o 6 (.fa 0 (t 1))] (o 14 (.app 3 24 (.agg #[.int .i64 0, .bool false, .int .i64 0]) (t 11) (t 13)))
 (.rd (o 15 (.build (.agg #[.int .i64 0, .slice none 0 0, .slice none 0 0, .slice none 0 0]) [(0, 1, (t 7)), (1, 1, (t 10)), (3, 1, (t 14))])) (.alt [] (u (.store 4 (t 3) (t 15)))
 (.done)
 (.none)))
 (.none))
 (.none))
 (.alt [o 13 (.load none (t 12)), o 12 (.fa 3 (t 1)), o 9 (.load none (t 8)), o 8 (.fa 1 (t 1)), o 7 (.load none (t 6)), o 6 (.fa 0 (t 1))] (o 11 (.bsl 3 (.agg #[.int .i64 0, .bool false, .int .i64 0]) 0 []))
 (.alt [o 13 (.load none (t 12)), o 12 (.fa 3 (t 1)), o 7 (.load none (t 6)), o 6 (.fa 0 (t 1))] (o 10 (.call 180 [(t 9)]))
 (.alt [o 7 (.load none (t 6)), o 6 (.fa 0 (t 1))] (o 14 (.app 3 24 (.agg #[.int .i64 0, .bool false, .int .i64 0]) (t 11) (t 13)))
 (.rd (o 15 (.build (.agg #[.int .i64 0, .slice none 0 0, .slice none 0 0, .slice none 0 0]) [(0, 1, (t 7)), (1, 1, (t 10)), (3, 1, (t 14))])) (.alt [] (u (.store 4 (t 3) (t 15)))
 (.done)
 (.none)))
 (.none))
 (.none))
 (.none)))
 (.none)))))))))))
 (.kept [1, 2, 3] (.seq (.seq (.ops [o 16 (.fa 2 (t 1)),
 (o 17 (.load none (t 16))),
 (o 18 (.lens (t 17))),
 (o 19 (.mv (k 0)))])
 (.block 0 (.loop 1 [(2, 0), (3, 0), (17, 0), (18, 0), (19, 0)] c_spec_l13Own_l1)))
 (.kept [2, 3] (.seq (.ops [o 31 (.load (some 4) (t 3)),
 (u (.store 4 (t 2) (t 31)))])
 (.ret))))))
theorem h_spec_l13Own : hF Tryz.prog n_spec_l13Own = some c_spec_l13Own.strip := by kernel_rfl
theorem r_spec_l13Own : rF Tryz.prog n_spec_l13Own = some ([.cell 2 43], 32) := by kernel_rfl
abbrev n_spec_l13ToldOf : Nat := 130
def c_spec_l13ToldOf_l1 : AS :=
 .seq (.ops [o 12 (.bin .lss (t 11) (t 10))])
 (.seq (.cond (t 12) (.skip) (.exit 0))
 (.seq (.block 1 (.seq (.ops [o 13 (.ia 3 (t 9) (t 11)),
 (o 14 (.load (some 3) (t 13))),
 (o 7 (.alloc (.agg #[.int .i64 0, .bool false, .int .i64 0]))),
 (u (.store 3 (t 7) (t 14)))])
 (.seq (.ops [o 15 (.fa 0 (t 7)),
 (o 16 (.load none (t 15))),
 m 17 1,
 (o 18 (.bin .eql (t 16) (t 17)))])
 (.cond (t 18) (.seq (.ops [o 19 (.load (some 3) (t 7)),
 (u (.store 3 (t 4) (t 19))),
 (o 5 (.mv tt))])
 (.ret)) (.skip)))))
 (.kept [1, 4, 9, 10, 11] (.ops [o 20 (.bin .add (t 11) (k 1)),
 m 11 20]))))
def c_spec_l13ToldOf : AS :=
 .seq (.ops [o 2 (.box (t 0)),
 (o 4 (.alloc (.agg #[.int .i64 0, .bool false, .int .i64 0]))),
 (o 5 (.mv ff))])
 (.seq (.seq (.ops [o 8 (.fa 3 (t 2)),
 (o 9 (.load none (t 8))),
 (o 10 (.lens (t 9))),
 (o 11 (.mv (k 0)))])
 (.block 0 (.loop 2 [(1, 0), (4, 0), (9, 0), (10, 0), (11, 0)] c_spec_l13ToldOf_l1)))
 (.kept [4] (.seq (.ops [o 21 (.build (.agg #[.int .i64 0, .bool false, .int .i64 0]) []),
 (u (.store 3 (t 4) (t 21))),
 (o 5 (.mv ff))])
 (.ret))))
theorem h_spec_l13ToldOf : hF Tryz.prog n_spec_l13ToldOf = some c_spec_l13ToldOf.strip := by kernel_rfl
theorem r_spec_l13ToldOf : rF Tryz.prog n_spec_l13ToldOf = some ([.cell 4 156, .tmp 5], 22) := by kernel_rfl
abbrev n_spec_l13PutHeld : Nat := 131
def c_spec_l13PutHeld_l1 : AS :=
 .seq (.seq (.dops [m 9 5,
 (o 10 (.bin .gtr (t 9) (k 0))),
 m 11 10,
 mg 12 11 true 0,
 mg 13 11 true 5,
 (g 14 11 true (.bin .sub (t 13) (k 1))),
 (g 15 11 true (.ia 5 (t 12) (t 14))),
 (g 16 11 true (.fa 0 (t 15))),
 (g 17 11 true (.load none (t 16))),
 (g 18 11 true (.fa 0 (t 3))),
 (g 19 11 true (.load none (t 18))),
 (g 20 11 true (.bin .gtr (t 17) (t 19))),
 (o 21 (.pick (t 11) (t 20) ff))])
 (.kept [0, 3, 5, 21] (.cond (t 21) (.skip) (.exit 0))))
 (.kept [0, 3, 5] (.block 1 (.ops [m 22 5,
 (o 23 (.bin .sub (t 22) (k 1))),
 m 5 23])))
def c_spec_l13PutHeld : AS :=
 .seq (.ops [o 3 (.box (t 1)),
 (o 4 (.mv (.const (.slice none 0 0))))])
 (.seq (.ops [m 7 0,
 (o 8 (.lens (t 7))),
 m 5 8])
 (.seq (.block 0 (.loop 2 [(0, 0), (3, 0), (5, 0)] c_spec_l13PutHeld_l1))
 (.kept [0, 3, 5] (.seq (.ops [o 24 (.bsl 5 (.agg #[.int .i64 0, .int .i64 0, .int .i64 0, .slice none 0 0, .slice none 0 0]) 0 []),
 m 25 0,
 m 26 5,
 (o 27 (.sls 5 (t 25) (some (t 26)) none none)),
 (o 28 (.app 5 72 (.agg #[.int .i64 0, .int .i64 0, .int .i64 0, .slice none 0 0, .slice none 0 0]) (t 24) (t 27))),
 m 6 28])
 (.seq (.post [(4, 0, [(5, 0), (3, 1), (4, 3)])] (.tops [(0, 0), (3, 0), (4, 0), (5, 0)] (.rd (m 30 0) (.rd (m 31 5) (.rd (o 32 (.sls 5 (t 30) none (some (t 31)) none)) (.rd (o 34 (.load (some 5) (t 3))) (.rd (m 37 6) (.alt [m 37 6, o 34 (.load (some 5) (t 3)), o 32 (.sls 5 (t 30) none (some (t 31)) none), m 31 5, m 30 0] (o 29 (.bsl 5 (.agg #[.int .i64 0, .int .i64 0, .int .i64 0, .slice none 0 0, .slice none 0 0]) 0 []))
 (.alt [m 37 6, o 34 (.load (some 5) (t 3))] (o 33 (.app 5 72 (.agg #[.int .i64 0, .int .i64 0, .int .i64 0, .slice none 0 0, .slice none 0 0]) (t 29) (t 32)))
 (.alt [m 37 6] (o 35 (.bsl 5 (.agg #[.int .i64 0, .int .i64 0, .int .i64 0, .slice none 0 0, .slice none 0 0]) 1 [(0, (t 34))]))
 (.alt [m 37 6] (o 36 (.app 5 72 (.agg #[.int .i64 0, .int .i64 0, .int .i64 0, .slice none 0 0, .slice none 0 0]) (t 33) (t 35)))
 (.alt [] (o 38 (.app 5 72 (.agg #[.int .i64 0, .int .i64 0, .int .i64 0, .slice none 0 0, .slice none 0 0]) (t 36) (t 37)))
 (.rd (m 4 38) (.done))
 (.none))
 (.none))
 (.none))
 (.alt [m 37 6, o 32 (.sls 5 (t 30) none (some (t 31)) none), m 31 5, m 30 0] (o 35 (.bsl 5 (.agg #[.int .i64 0, .int .i64 0, .int .i64 0, .slice none 0 0, .slice none 0 0]) 1 [(0, (t 34))]))
 (.alt [m 37 6] (o 33 (.app 5 72 (.agg #[.int .i64 0, .int .i64 0, .int .i64 0, .slice none 0 0, .slice none 0 0]) (t 29) (t 32)))
 (.alt [m 37 6] (o 36 (.app 5 72 (.agg #[.int .i64 0, .int .i64 0, .int .i64 0, .slice none 0 0, .slice none 0 0]) (t 33) (t 35)))
 (.alt [] (o 38 (.app 5 72 (.agg #[.int .i64 0, .int .i64 0, .int .i64 0, .slice none 0 0, .slice none 0 0]) (t 36) (t 37)))
 (.rd (m 4 38) (.done))
 (.none))
 (.none))
 (.none))
 (.none)))
 (.alt [m 37 6, o 32 (.sls 5 (t 30) none (some (t 31)) none), m 31 5, m 30 0] (o 35 (.bsl 5 (.agg #[.int .i64 0, .int .i64 0, .int .i64 0, .slice none 0 0, .slice none 0 0]) 1 [(0, (t 34))]))
 (.alt [m 37 6, o 32 (.sls 5 (t 30) none (some (t 31)) none), m 31 5, m 30 0] (o 29 (.bsl 5 (.agg #[.int .i64 0, .int .i64 0, .int .i64 0, .slice none 0 0, .slice none 0 0]) 0 []))
 (.alt [m 37 6] (o 33 (.app 5 72 (.agg #[.int .i64 0, .int .i64 0, .int .i64 0, .slice none 0 0, .slice none 0 0]) (t 29) (t 32)))
 (.alt [m 37 6] (o 36 (.app 5 72 (.agg #[.int .i64 0, .int .i64 0, .int .i64 0, .slice none 0 0, .slice none 0 0]) (t 33) (t 35)))
 (.alt [] (o 38 (.app 5 72 (.agg #[.int .i64 0, .int .i64 0, .int .i64 0, .slice none 0 0, .slice none 0 0]) (t 36) (t 37)))
 (.rd (m 4 38) (.done))
 (.none))
 (.none))
 (.none))
 (.none))
 (.none))))))))))
 (.ret))))))
theorem h_spec_l13PutHeld : hF Tryz.prog n_spec_l13PutHeld = some c_spec_l13PutHeld.strip := by kernel_rfl
theorem r_spec_l13PutHeld : rF Tryz.prog n_spec_l13PutHeld = some ([.tmp 4], 39) := by kernel_rfl
abbrev n_spec_l1OwnS : Nat := 132
def c_spec_l1OwnS : AS :=
 .seq (.ops [o 2 (.mv (.const (.slice none 0 0)))])
 (.seq (.ops [o 3 (.bsl 1 (.string ⟨⟨[]⟩⟩) 0 []),
 m 4 0,
 (o 5 (.app 1 16 (.string ⟨⟨[]⟩⟩) (t 3) (t 4))),
 m 2 5])
 (.ret))
theorem h_spec_l1OwnS : hF Tryz.prog n_spec_l1OwnS = some c_spec_l1OwnS.strip := by kernel_rfl
theorem r_spec_l1OwnS : rF Tryz.prog n_spec_l1OwnS = some ([.tmp 2], 6) := by kernel_rfl
abbrev n_spec_l13Fits : Nat := 133
def c_spec_l13Fits_l1 : AS :=
 .seq (.ops [o 13 (.bin .lss (t 12) (t 11))])
 (.seq (.cond (t 13) (.skip) (.exit 0))
 (.seq (.block 1 (.seq (.post [(14, 1, [(3, 1), (4, 3)])] (.ops [o 14 (.ia 5 (t 10) (t 12)),
 (o 15 (.load (some 5) (t 14))),
 (o 8 (.alloc (.agg #[.int .i64 0, .int .i64 0, .int .i64 0, .slice none 0 0, .slice none 0 0]))),
 (u (.store 5 (t 8) (t 15)))]))
 (.seq (.ops [o 16 (.load (some 5) (t 8)),
 m 17 1,
 m 18 2,
 (o 19 (.call 178 [(t 16), (t 17), (t 18)])),
 (o 20 (.not (t 19)))])
 (.cond (t 20) (.seq (.ops [o 6 (.mv ff)])
 (.ret)) (.skip)))))
 (.kept [1, 2, 3, 10, 11, 12] (.ops [o 21 (.bin .add (t 12) (k 1)),
 m 12 21]))))
def c_spec_l13Fits : AS :=
 .seq (.ops [o 3 (.box (t 0)),
 (o 6 (.mv ff))])
 (.seq (.seq (.ops [o 9 (.fa 2 (t 3)),
 (o 10 (.load none (t 9))),
 (o 11 (.lens (t 10))),
 (o 12 (.mv (k 0)))])
 (.block 0 (.loop 3 [(1, 0), (2, 0), (3, 0), (10, 0), (11, 0), (12, 0)] c_spec_l13Fits_l1)))
 (.kept [2, 3] (.seq (.ops [o 22 (.fa 2 (t 3)),
 (o 23 (.load none (t 22))),
 (o 24 (.lens (t 23))),
 (o 25 (.bin .lss (t 24) (k 12))),
 m 26 25,
 (g 27 26 true (.load (some 4) (t 3))),
 mg 28 26 true 2,
 (g 29 26 true (.call 179 [(t 27), (t 28)])),
 (o 30 (.pick (t 26) (t 29) ff)),
 m 6 30])
 (.ret))))
theorem h_spec_l13Fits : hF Tryz.prog n_spec_l13Fits = some c_spec_l13Fits.strip := by kernel_rfl
theorem r_spec_l13Fits : rF Tryz.prog n_spec_l13Fits = some ([.tmp 6], 31) := by kernel_rfl
abbrev n_spec_l3Put : Nat := 134
def c_spec_l3Put_l1 : AS :=
 .seq (.seq (.dops [m 30 12,
 (o 31 (.bin .gtr (t 30) (k 0))),
 m 32 31,
 mg 33 32 true 8,
 mg 34 32 true 12,
 (g 35 32 true (.bin .sub (t 34) (k 1))),
 (g 36 32 true (.ia 2 (t 33) (t 35))),
 (g 37 32 true (.fa 0 (t 36))),
 (g 38 32 true (.load none (t 37))),
 (g 39 32 true (.fa 0 (t 10))),
 (g 40 32 true (.load none (t 39))),
 (g 41 32 true (.bin .gtr (t 38) (t 40))),
 (o 42 (.pick (t 32) (t 41) ff))])
 (.kept [2, 8, 10, 11, 12, 16, 17, 18, 42] (.cond (t 42) (.skip) (.exit 2))))
 (.kept [2, 8, 10, 11, 12, 16, 17, 18] (.block 3 (.ops [m 43 12,
 (o 44 (.bin .sub (t 43) (k 1))),
 m 12 44])))
def c_spec_l3Put_l2 : AS :=
 .seq (.ops [o 19 (.bin .lss (t 18) (t 17))])
 (.seq (.cond (t 19) (.skip) (.exit 0))
 (.seq (.block 1 (.seq (.ops [o 20 (.ia 3 (t 16) (t 18)),
 (o 21 (.load (some 3) (t 20))),
 (o 10 (.alloc (.agg #[.string ⟨⟨[]⟩⟩, .string ⟨⟨[]⟩⟩, .bool false]))),
 (u (.store 3 (t 10) (t 21)))])
 (.seq (.ops [m 22 2,
 (o 23 (.fa 1 (t 10))),
 (o 24 (.load none (t 23))),
 (o 25 (.fa 2 (t 10))),
 (o 26 (.load none (t 25))),
 (o 27 (.build (.agg #[.int .i64 0, .string ⟨⟨[]⟩⟩, .bool false]) [(0, 1, (t 22)), (1, 1, (t 24)), (2, 1, (t 26))])),
 (o 11 (.alloc (.agg #[.int .i64 0, .string ⟨⟨[]⟩⟩, .bool false]))),
 (u (.store 3 (t 11) (t 27)))])
 (.kept [2, 8, 10, 11, 16, 17, 18] (.seq (.ops [m 28 8,
 (o 29 (.lens (t 28))),
 m 12 29])
 (.seq (.block 2 (.loop 3 [(2, 0), (8, 2), (10, 0), (11, 0), (12, 0), (16, 0), (17, 0), (18, 0)] c_spec_l3Put_l1))
 (.kept [2, 8, 10, 11, 12, 16, 17, 18] (.seq (.seq (.dops [m 45 12,
 (o 46 (.bin .gtr (t 45) (k 0))),
 m 47 46,
 mg 48 47 true 8,
 mg 49 47 true 12,
 (g 50 47 true (.bin .sub (t 49) (k 1))),
 (g 51 47 true (.ia 2 (t 48) (t 50))),
 (g 52 47 true (.fa 0 (t 51))),
 (g 53 47 true (.load none (t 52))),
 (g 54 47 true (.fa 0 (t 10))),
 (g 55 47 true (.load none (t 54))),
 (g 56 47 true (.bin .eql (t 53) (t 55))),
 (o 57 (.pick (t 47) (t 56) ff))])
 (.kept [2, 8, 10, 11, 12, 16, 17, 18, 57] (.cond (t 57) (.seq (.seq (.ops [m 58 8,
 (o 59 (.fa 0 (t 10))),
 (o 60 (.load none (t 59))),
 (o 61 (.call 127 [(t 58), (t 60)])),
 m 62 2,
 (o 63 (.bin .geq (t 61) (t 62)))])
 (.cond (t 63) (.seq (.ops [o 6 (.mv (.const (.slice none 0 0))),
 (o 7 (.mv ff))])
 (.ret)) (.skip)))
 (.kept [2, 8, 11, 12, 16, 17, 18] (.seq (.pre [m 67 8, m 68 12, o 69 (.bin .sub (t 68) (k 1)), o 70 (.ia 2 (t 67) (t 69)), o 71 (.fa 1 (t 70))] 71 72 (.post [(70, 1, [(1, 3)])] (.rops [(none, m 64 8),
 (none, m 65 12),
 (none, o 66 (.bin .sub (t 65) (k 1))),
 (none, m 67 8),
 (none, m 68 12),
 (none, o 69 (.bin .sub (t 68) (k 1))),
 (none, o 70 (.ia 2 (t 67) (t 69))),
 (none, o 71 (.fa 1 (t 70))),
 (none, o 72 (.load none (t 71))),
 (none, o 73 (.load (some 3) (t 11))),
 (some [o 72 (.load none (t 71)), o 71 (.fa 1 (t 70)), o 70 (.ia 2 (t 67) (t 69)), o 69 (.bin .sub (t 68) (k 1)), m 68 12, m 67 8, o 66 (.bin .sub (t 65) (k 1)), m 65 12, m 64 8], o 74 (.bsl 3 (.agg #[.int .i64 0, .string ⟨⟨[]⟩⟩, .bool false]) 1 [(0, (t 73))])),
 (some [o 66 (.bin .sub (t 65) (k 1)), m 65 12, m 64 8], o 75 (.app 3 32 (.agg #[.int .i64 0, .string ⟨⟨[]⟩⟩, .bool false]) (t 72) (t 74))),
 (none, o 76 (.ia 2 (t 64) (t 66))),
 (none, o 77 (.fa 1 (t 76))),
 (some [], u (.store 1 (t 77) (t 75)))])))
 (.exit 1)))) (.skip))))
 (.kept [2, 8, 10, 11, 12, 16, 17, 18] (.seq (.ops [o 78 (.bsl 2 (.agg #[.string ⟨⟨[]⟩⟩, .slice none 0 0]) 0 []),
 m 79 8,
 m 80 12,
 (o 81 (.sls 2 (t 79) (some (t 80)) none none)),
 (o 82 (.app 2 40 (.agg #[.string ⟨⟨[]⟩⟩, .slice none 0 0]) (t 78) (t 81))),
 m 13 82])
 (.post [(8, 0, [(12, 0), (1, 3)])] (.tops [(2, 0), (8, 0), (12, 0), (16, 0), (17, 0), (18, 0), (91, 0)] (.rd (m 84 8) (.rd (m 85 12) (.rd (o 86 (.sls 2 (t 84) none (some (t 85)) none)) (.rd (o 88 (.fa 0 (t 10))) (.rd (o 89 (.load none (t 88))) (.rd (o 90 (.load (some 3) (t 11))) (.rd (m 95 13) (.alt [m 95 13, o 90 (.load (some 3) (t 11)), o 89 (.load none (t 88)), o 88 (.fa 0 (t 10)), o 86 (.sls 2 (t 84) none (some (t 85)) none), m 85 12, m 84 8] (o 83 (.bsl 2 (.agg #[.string ⟨⟨[]⟩⟩, .slice none 0 0]) 0 []))
 (.alt [m 95 13, o 90 (.load (some 3) (t 11)), o 89 (.load none (t 88)), o 88 (.fa 0 (t 10))] (o 87 (.app 2 40 (.agg #[.string ⟨⟨[]⟩⟩, .slice none 0 0]) (t 83) (t 86)))
 (.alt [m 95 13, o 89 (.load none (t 88)), o 88 (.fa 0 (t 10))] (o 91 (.bsl 3 (.agg #[.int .i64 0, .string ⟨⟨[]⟩⟩, .bool false]) 1 [(0, (t 90))]))
 (.rd (o 92 (.build (.agg #[.string ⟨⟨[]⟩⟩, .slice none 0 0]) [(0, 1, (t 89)), (1, 1, (t 91))])) (.alt [m 95 13] (o 93 (.bsl 2 (.agg #[.string ⟨⟨[]⟩⟩, .slice none 0 0]) 1 [(0, (t 92))]))
 (.alt [m 95 13] (o 94 (.app 2 40 (.agg #[.string ⟨⟨[]⟩⟩, .slice none 0 0]) (t 87) (t 93)))
 (.alt [] (o 96 (.app 2 40 (.agg #[.string ⟨⟨[]⟩⟩, .slice none 0 0]) (t 94) (t 95)))
 (.rd (m 8 96) (.done))
 (.none))
 (.none))
 (.none)))
 (.none))
 (.alt [m 95 13, o 89 (.load none (t 88)), o 88 (.fa 0 (t 10)), o 86 (.sls 2 (t 84) none (some (t 85)) none), m 85 12, m 84 8] (o 91 (.bsl 3 (.agg #[.int .i64 0, .string ⟨⟨[]⟩⟩, .bool false]) 1 [(0, (t 90))]))
 (.rd (o 92 (.build (.agg #[.string ⟨⟨[]⟩⟩, .slice none 0 0]) [(0, 1, (t 89)), (1, 1, (t 91))])) (.alt [o 92 (.build (.agg #[.string ⟨⟨[]⟩⟩, .slice none 0 0]) [(0, 1, (t 89)), (1, 1, (t 91))]), m 95 13, o 89 (.load none (t 88)), o 88 (.fa 0 (t 10))] (o 87 (.app 2 40 (.agg #[.string ⟨⟨[]⟩⟩, .slice none 0 0]) (t 83) (t 86)))
 (.alt [m 95 13] (o 93 (.bsl 2 (.agg #[.string ⟨⟨[]⟩⟩, .slice none 0 0]) 1 [(0, (t 92))]))
 (.alt [m 95 13] (o 94 (.app 2 40 (.agg #[.string ⟨⟨[]⟩⟩, .slice none 0 0]) (t 87) (t 93)))
 (.alt [] (o 96 (.app 2 40 (.agg #[.string ⟨⟨[]⟩⟩, .slice none 0 0]) (t 94) (t 95)))
 (.rd (m 8 96) (.done))
 (.none))
 (.none))
 (.none))
 (.alt [m 95 13, o 86 (.sls 2 (t 84) none (some (t 85)) none), m 85 12, m 84 8] (o 93 (.bsl 2 (.agg #[.string ⟨⟨[]⟩⟩, .slice none 0 0]) 1 [(0, (t 92))]))
 (.alt [m 95 13] (o 87 (.app 2 40 (.agg #[.string ⟨⟨[]⟩⟩, .slice none 0 0]) (t 83) (t 86)))
 (.alt [m 95 13] (o 94 (.app 2 40 (.agg #[.string ⟨⟨[]⟩⟩, .slice none 0 0]) (t 87) (t 93)))
 (.alt [] (o 96 (.app 2 40 (.agg #[.string ⟨⟨[]⟩⟩, .slice none 0 0]) (t 94) (t 95)))
 (.rd (m 8 96) (.done))
 (.none))
 (.none))
 (.none))
 (.none))))
 (.none)))
 (.alt [m 95 13, o 89 (.load none (t 88)), o 88 (.fa 0 (t 10)), o 86 (.sls 2 (t 84) none (some (t 85)) none), m 85 12, m 84 8] (o 91 (.bsl 3 (.agg #[.int .i64 0, .string ⟨⟨[]⟩⟩, .bool false]) 1 [(0, (t 90))]))
 (.rd (o 92 (.build (.agg #[.string ⟨⟨[]⟩⟩, .slice none 0 0]) [(0, 1, (t 89)), (1, 1, (t 91))])) (.alt [o 92 (.build (.agg #[.string ⟨⟨[]⟩⟩, .slice none 0 0]) [(0, 1, (t 89)), (1, 1, (t 91))]), m 95 13, o 89 (.load none (t 88)), o 88 (.fa 0 (t 10)), o 86 (.sls 2 (t 84) none (some (t 85)) none), m 85 12, m 84 8] (o 83 (.bsl 2 (.agg #[.string ⟨⟨[]⟩⟩, .slice none 0 0]) 0 []))
 (.alt [o 92 (.build (.agg #[.string ⟨⟨[]⟩⟩, .slice none 0 0]) [(0, 1, (t 89)), (1, 1, (t 91))]), m 95 13, o 89 (.load none (t 88)), o 88 (.fa 0 (t 10))] (o 87 (.app 2 40 (.agg #[.string ⟨⟨[]⟩⟩, .slice none 0 0]) (t 83) (t 86)))
 (.alt [m 95 13] (o 93 (.bsl 2 (.agg #[.string ⟨⟨[]⟩⟩, .slice none 0 0]) 1 [(0, (t 92))]))
 (.alt [m 95 13] (o 94 (.app 2 40 (.agg #[.string ⟨⟨[]⟩⟩, .slice none 0 0]) (t 87) (t 93)))
 (.alt [] (o 96 (.app 2 40 (.agg #[.string ⟨⟨[]⟩⟩, .slice none 0 0]) (t 94) (t 95)))
 (.rd (m 8 96) (.done))
 (.none))
 (.none))
 (.none))
 (.alt [m 95 13, o 86 (.sls 2 (t 84) none (some (t 85)) none), m 85 12, m 84 8] (o 93 (.bsl 2 (.agg #[.string ⟨⟨[]⟩⟩, .slice none 0 0]) 1 [(0, (t 92))]))
 (.alt [m 95 13] (o 87 (.app 2 40 (.agg #[.string ⟨⟨[]⟩⟩, .slice none 0 0]) (t 83) (t 86)))
 (.alt [m 95 13] (o 94 (.app 2 40 (.agg #[.string ⟨⟨[]⟩⟩, .slice none 0 0]) (t 87) (t 93)))
 (.alt [] (o 96 (.app 2 40 (.agg #[.string ⟨⟨[]⟩⟩, .slice none 0 0]) (t 94) (t 95)))
 (.rd (m 8 96) (.done))
 (.none))
 (.none))
 (.none))
 (.none)))
 (.alt [m 95 13, o 86 (.sls 2 (t 84) none (some (t 85)) none), m 85 12, m 84 8] (o 93 (.bsl 2 (.agg #[.string ⟨⟨[]⟩⟩, .slice none 0 0]) 1 [(0, (t 92))]))
 (.alt [m 95 13, o 86 (.sls 2 (t 84) none (some (t 85)) none), m 85 12, m 84 8] (o 83 (.bsl 2 (.agg #[.string ⟨⟨[]⟩⟩, .slice none 0 0]) 0 []))
 (.alt [m 95 13] (o 87 (.app 2 40 (.agg #[.string ⟨⟨[]⟩⟩, .slice none 0 0]) (t 83) (t 86)))
 (.alt [m 95 13] (o 94 (.app 2 40 (.agg #[.string ⟨⟨[]⟩⟩, .slice none 0 0]) (t 87) (t 93)))
 (.alt [] (o 96 (.app 2 40 (.agg #[.string ⟨⟨[]⟩⟩, .slice none 0 0]) (t 94) (t 95)))
 (.rd (m 8 96) (.done))
 (.none))
 (.none))
 (.none))
 (.none))
 (.none))))
 (.none))))))))))))))))))))))
 (.kept [2, 8, 16, 17, 18] (.ops [o 97 (.bin .add (t 18) (k 1)),
 m 18 97]))))
def c_spec_l3Put : AS :=
 .seq (.ops [o 6 (.mv (.const (.slice none 0 0))),
 (o 7 (.mv ff))])
 (.seq (.ops [m 14 0,
 (o 15 (.call 180 [(t 14)])),
 m 8 15])
 (.seq (.seq (.ops [m 16 1,
 (o 17 (.lens (t 16))),
 (o 18 (.mv (k 0)))])
 (.block 0 (.loop 3 [(2, 0), (8, 2), (16, 0), (17, 0), (18, 0)] c_spec_l3Put_l2)))
 (.kept [8] (.seq (.ops [m 98 8,
 m 99 8,
 (o 100 (.call 125 [(t 99)])),
 m 6 98,
 m 7 100])
 (.ret)))))
theorem h_spec_l3Put : hF Tryz.prog n_spec_l3Put = some c_spec_l3Put.strip := by kernel_rfl
theorem r_spec_l3Put : rF Tryz.prog n_spec_l3Put = some ([.tmp 6, .tmp 7], 101) := by kernel_rfl
abbrev n_spec_l1Most : Nat := 135
def c_spec_l1Most : AS :=
 .seq (.ops [o 4 (.mv (k 0))])
 (.seq (.seq (.ops [m 5 0,
 m 6 1,
 (o 7 (.bin .gtr (t 5) (t 6)))])
 (.cond (t 7) (.seq (.ops [m 8 0,
 m 4 8])
 (.ret)) (.skip)))
 (.seq (.ops [m 9 1,
 m 4 9])
 (.ret)))
theorem h_spec_l1Most : hF Tryz.prog n_spec_l1Most = some c_spec_l1Most.strip := by kernel_rfl
theorem r_spec_l1Most : rF Tryz.prog n_spec_l1Most = some ([.tmp 4], 10) := by kernel_rfl
abbrev n_spec_l13Less : Nat := 136
def c_spec_l13Less_l1 : AS :=
 .seq (.ops [o 11 (.bin .lss (t 10) (t 9))])
 (.seq (.cond (t 11) (.skip) (.exit 0))
 (.seq (.block 1 (.seq (.post [(12, 1, [(3, 1), (4, 3)])] (.ops [o 12 (.ia 5 (t 8) (t 10)),
 (o 13 (.load (some 5) (t 12))),
 (o 7 (.alloc (.agg #[.int .i64 0, .int .i64 0, .int .i64 0, .slice none 0 0, .slice none 0 0]))),
 (u (.store 5 (t 7) (t 13)))]))
 (.seq (.ops [o 14 (.fa 0 (t 7)),
 (o 15 (.load none (t 14))),
 m 16 1,
 (o 17 (.bin .neq (t 15) (t 16)))])
 (.cond (t 17) (.post [(21, 1, [(3, 1), (4, 3)])] (.ops [m 18 5,
 (o 19 (.load (some 5) (t 7))),
 (o 20 (.bsl 5 (.agg #[.int .i64 0, .int .i64 0, .int .i64 0, .slice none 0 0, .slice none 0 0]) 1 [(0, (t 19))])),
 (o 21 (.app 5 72 (.agg #[.int .i64 0, .int .i64 0, .int .i64 0, .slice none 0 0, .slice none 0 0]) (t 18) (t 20))),
 m 5 21])) (.skip)))))
 (.kept [1, 5, 8, 9, 10] (.ops [o 22 (.bin .add (t 10) (k 1)),
 m 10 22]))))
def c_spec_l13Less : AS :=
 .seq (.ops [o 4 (.mv (.const (.slice none 0 0)))])
 (.seq (.ops [o 5 (.mv (.const (.slice none 0 0)))])
 (.seq (.seq (.ops [m 8 0,
 (o 9 (.lens (t 8))),
 (o 10 (.mv (k 0)))])
 (.block 0 (.loop 2 [(1, 0), (5, 5), (8, 0), (9, 0), (10, 0)] c_spec_l13Less_l1)))
 (.kept [5] (.seq (.ops [m 23 5,
 m 4 23])
 (.ret)))))
theorem h_spec_l13Less : hF Tryz.prog n_spec_l13Less = some c_spec_l13Less.strip := by kernel_rfl
theorem r_spec_l13Less : rF Tryz.prog n_spec_l13Less = some ([.tmp 4], 24) := by kernel_rfl
abbrev n_spec_l13PutTold : Nat := 137
def c_spec_l13PutTold_l1 : AS :=
 .seq (.seq (.dops [m 9 5,
 (o 10 (.bin .gtr (t 9) (k 0))),
 m 11 10,
 mg 12 11 true 0,
 mg 13 11 true 5,
 (g 14 11 true (.bin .sub (t 13) (k 1))),
 (g 15 11 true (.ia 3 (t 12) (t 14))),
 (g 16 11 true (.fa 0 (t 15))),
 (g 17 11 true (.load none (t 16))),
 (g 18 11 true (.fa 0 (t 3))),
 (g 19 11 true (.load none (t 18))),
 (g 20 11 true (.bin .gtr (t 17) (t 19))),
 (o 21 (.pick (t 11) (t 20) ff))])
 (.kept [0, 3, 5, 21] (.cond (t 21) (.skip) (.exit 0))))
 (.kept [0, 3, 5] (.block 1 (.ops [m 22 5,
 (o 23 (.bin .sub (t 22) (k 1))),
 m 5 23])))
def c_spec_l13PutTold : AS :=
 .seq (.ops [o 3 (.box (t 1)),
 (o 4 (.mv (.const (.slice none 0 0))))])
 (.seq (.ops [m 7 0,
 (o 8 (.lens (t 7))),
 m 5 8])
 (.seq (.block 0 (.loop 2 [(0, 0), (3, 0), (5, 0)] c_spec_l13PutTold_l1))
 (.kept [0, 3, 5] (.seq (.ops [o 24 (.bsl 3 (.agg #[.int .i64 0, .bool false, .int .i64 0]) 0 []),
 m 25 0,
 m 26 5,
 (o 27 (.sls 3 (t 25) (some (t 26)) none none)),
 (o 28 (.app 3 24 (.agg #[.int .i64 0, .bool false, .int .i64 0]) (t 24) (t 27))),
 m 6 28])
 (.seq (.tops [(0, 0), (4, 0)] (.rd (m 30 0) (.rd (m 31 5) (.rd (o 32 (.sls 3 (t 30) none (some (t 31)) none)) (.rd (o 34 (.load (some 3) (t 3))) (.rd (m 37 6) (.alt [m 37 6, o 34 (.load (some 3) (t 3)), o 32 (.sls 3 (t 30) none (some (t 31)) none), m 31 5, m 30 0] (o 29 (.bsl 3 (.agg #[.int .i64 0, .bool false, .int .i64 0]) 0 []))
 (.alt [m 37 6, o 34 (.load (some 3) (t 3))] (o 33 (.app 3 24 (.agg #[.int .i64 0, .bool false, .int .i64 0]) (t 29) (t 32)))
 (.alt [m 37 6] (o 35 (.bsl 3 (.agg #[.int .i64 0, .bool false, .int .i64 0]) 1 [(0, (t 34))]))
 (.alt [m 37 6] (o 36 (.app 3 24 (.agg #[.int .i64 0, .bool false, .int .i64 0]) (t 33) (t 35)))
 (.alt [] (o 38 (.app 3 24 (.agg #[.int .i64 0, .bool false, .int .i64 0]) (t 36) (t 37)))
 (.rd (m 4 38) (.done))
 (.none))
 (.none))
 (.none))
 (.alt [m 37 6, o 32 (.sls 3 (t 30) none (some (t 31)) none), m 31 5, m 30 0] (o 35 (.bsl 3 (.agg #[.int .i64 0, .bool false, .int .i64 0]) 1 [(0, (t 34))]))
 (.alt [m 37 6] (o 33 (.app 3 24 (.agg #[.int .i64 0, .bool false, .int .i64 0]) (t 29) (t 32)))
 (.alt [m 37 6] (o 36 (.app 3 24 (.agg #[.int .i64 0, .bool false, .int .i64 0]) (t 33) (t 35)))
 (.alt [] (o 38 (.app 3 24 (.agg #[.int .i64 0, .bool false, .int .i64 0]) (t 36) (t 37)))
 (.rd (m 4 38) (.done))
 (.none))
 (.none))
 (.none))
 (.none)))
 (.alt [m 37 6, o 32 (.sls 3 (t 30) none (some (t 31)) none), m 31 5, m 30 0] (o 35 (.bsl 3 (.agg #[.int .i64 0, .bool false, .int .i64 0]) 1 [(0, (t 34))]))
 (.alt [m 37 6, o 32 (.sls 3 (t 30) none (some (t 31)) none), m 31 5, m 30 0] (o 29 (.bsl 3 (.agg #[.int .i64 0, .bool false, .int .i64 0]) 0 []))
 (.alt [m 37 6] (o 33 (.app 3 24 (.agg #[.int .i64 0, .bool false, .int .i64 0]) (t 29) (t 32)))
 (.alt [m 37 6] (o 36 (.app 3 24 (.agg #[.int .i64 0, .bool false, .int .i64 0]) (t 33) (t 35)))
 (.alt [] (o 38 (.app 3 24 (.agg #[.int .i64 0, .bool false, .int .i64 0]) (t 36) (t 37)))
 (.rd (m 4 38) (.done))
 (.none))
 (.none))
 (.none))
 (.none))
 (.none)))))))))
 (.ret))))))
theorem h_spec_l13PutTold : hF Tryz.prog n_spec_l13PutTold = some c_spec_l13PutTold.strip := by kernel_rfl
theorem r_spec_l13PutTold : rF Tryz.prog n_spec_l13PutTold = some ([.tmp 4], 39) := by kernel_rfl
abbrev n_laws_toWrite : Nat := 141
def c_laws_toWrite : AS :=
 .seq (.ops [o 1 (.box (t 0)),
 (o 2 (.alloc (.agg #[.string ⟨⟨[]⟩⟩, .string ⟨⟨[]⟩⟩, .bool false])))])
 (.seq (.ops [o 3 (.alloc (.agg #[.string ⟨⟨[]⟩⟩, .string ⟨⟨[]⟩⟩, .bool false]))])
 (.seq (.ops [o 4 (.fa 0 (t 1)),
 (o 5 (.load none (t 4))),
 (o 6 (.fa 0 (t 3))),
 (u (.store 1 (t 6) (t 5)))])
 (.seq (.ops [o 7 (.fa 1 (t 1)),
 (o 8 (.load none (t 7))),
 (o 9 (.fa 1 (t 3))),
 (u (.store 1 (t 9) (t 8)))])
 (.seq (.ops [o 10 (.fa 2 (t 1)),
 (o 11 (.load none (t 10))),
 (o 12 (.fa 2 (t 3))),
 (u (.store 1 (t 12) (t 11)))])
 (.seq (.ops [o 13 (.load (some 3) (t 3)),
 (u (.store 3 (t 2) (t 13)))])
 (.ret))))))
theorem h_laws_toWrite : hF Tryz.prog n_laws_toWrite = some c_laws_toWrite.strip := by kernel_rfl
theorem r_laws_toWrite : rF Tryz.prog n_laws_toWrite = some ([.cell 2 159], 14) := by kernel_rfl
abbrev n_impl_GoodCells : Nat := 142
def c_impl_GoodCells_l1 : AS :=
 .seq (.ops [o 10 (.bin .lss (t 9) (t 8))])
 (.seq (.cond (t 10) (.skip) (.exit 0))
 (.seq (.block 1 (.seq (.post [(11, 1, [(1, 3)])] (.ops [o 11 (.ia 2 (t 7) (t 9)),
 (o 12 (.load (some 2) (t 11))),
 (o 5 (.alloc (.agg #[.string ⟨⟨[]⟩⟩, .slice none 0 0]))),
 (u (.store 2 (t 5) (t 12)))]))
 (.seq (.seq (.ops [o 13 (.load (some 2) (t 5)),
 (o 14 (.call 183 [(t 13)])),
 (o 15 (.not (t 14)))])
 (.cond (t 15) (.seq (.ops [o 2 (.mv ff)])
 (.ret)) (.skip)))
 (.ops [m 16 3,
 (o 17 (.fa 0 (t 5))),
 (o 18 (.load none (t 17))),
 (o 19 (.bsl 1 (.string ⟨⟨[]⟩⟩) 1 [(0, (t 18))])),
 (o 20 (.app 1 16 (.string ⟨⟨[]⟩⟩) (t 16) (t 19))),
 m 3 20]))))
 (.kept [0, 3, 7, 8, 9] (.ops [o 21 (.bin .add (t 9) (k 1)),
 m 9 21]))))
def c_impl_GoodCells : AS :=
 .seq (.ops [o 2 (.mv ff)])
 (.seq (.ops [o 6 (.bsl 1 (.string ⟨⟨[]⟩⟩) 0 []),
 m 3 6])
 (.seq (.seq (.ops [m 7 0,
 (o 8 (.lens (t 7))),
 (o 9 (.mv (k 0)))])
 (.block 0 (.loop 1 [(0, 0), (3, 1), (7, 0), (8, 0), (9, 0)] c_impl_GoodCells_l1)))
 (.kept [0, 3] (.seq (.ops [m 22 0,
 (o 23 (.lens (t 22))),
 (o 24 (.bin .leq (t 23) (k 24))),
 m 25 24,
 mg 26 25 true 3,
 (g 27 25 true (.call 112 [(t 26)])),
 (o 28 (.pick (t 25) (t 27) ff)),
 m 2 28])
 (.ret)))))
theorem h_impl_GoodCells : hF Tryz.prog n_impl_GoodCells = some c_impl_GoodCells.strip := by kernel_rfl
theorem r_impl_GoodCells : rF Tryz.prog n_impl_GoodCells = some ([.tmp 2], 29) := by kernel_rfl
abbrev n_impl_lastTime : Nat := 144
def c_impl_lastTime : AS :=
 .seq (.ops [o 4 (.mv (k 0))])
 (.seq (.ops [m 8 0,
 m 9 1,
 (o 10 (.call 104 [(t 8), (t 9)])),
 m 7 10,
 (o 11 (.ext 0 (t 7))),
 (o 12 (.ext 1 (t 7))),
 m 5 11,
 m 6 12])
 (.kept [0, 5, 6] (.seq (.seq (.ops [m 13 6,
 (o 14 (.not (t 13)))])
 (.cond (t 14) (.seq (.ops [o 4 (.mv (k 0))])
 (.ret)) (.skip)))
 (.seq (.post [(22, 1, [(1, 3)]), (17, 1, [(1, 3)])] (.dops [m 15 0,
 m 16 5,
 (o 17 (.ia 2 (t 15) (t 16))),
 (o 18 (.fa 1 (t 17))),
 (o 19 (.load none (t 18))),
 m 20 0,
 m 21 5,
 (o 22 (.ia 2 (t 20) (t 21))),
 (o 23 (.fa 1 (t 22))),
 (o 24 (.load none (t 23))),
 (o 25 (.lens (t 24))),
 (o 26 (.bin .sub (t 25) (k 1))),
 (o 27 (.ia 3 (t 19) (t 26))),
 (o 28 (.fa 0 (t 27))),
 (o 29 (.load none (t 28))),
 m 4 29]))
 (.ret)))))
theorem h_impl_lastTime : hF Tryz.prog n_impl_lastTime = some c_impl_lastTime.strip := by kernel_rfl
theorem r_impl_lastTime : rF Tryz.prog n_impl_lastTime = some ([.tmp 4], 30) := by kernel_rfl
abbrev n_impl_State_findHeld : Nat := 145
def c_impl_State_findHeld : AS :=
 .seq (.ops [o 2 (.box (t 0)),
 (o 4 (.mv (k 0))),
 (o 5 (.mv ff))])
 (.seq (.ops [o 6 (.fa 2 (t 2)),
 (o 7 (.load none (t 6))),
 m 8 1,
 (o 9 (.call 190 [(t 7), (t 8), (.func 191)])),
 (o 10 (.ext 0 (t 9))),
 (o 11 (.ext 1 (t 9))),
 m 4 10,
 m 5 11])
 (.ret))
theorem h_impl_State_findHeld : hF Tryz.prog n_impl_State_findHeld = some c_impl_State_findHeld.strip := by kernel_rfl
theorem r_impl_State_findHeld : rF Tryz.prog n_impl_State_findHeld = some ([.tmp 4, .tmp 5], 12) := by kernel_rfl
abbrev n_impl_copyState : Nat := 146
def c_impl_copyState_l1 : AS :=
 .seq (.ops [o 19 (.bin .lss (t 18) (t 17))])
 (.seq (.cond (t 19) (.skip) (.exit 0))
 (.seq (.block 1 (.seq (.post [(20, 1, [(3, 1), (4, 3)])] (.ops [o 20 (.ia 5 (t 16) (t 18)),
 (o 21 (.load (some 5) (t 20))),
 (o 5 (.alloc (.agg #[.int .i64 0, .int .i64 0, .int .i64 0, .slice none 0 0, .slice none 0 0]))),
 (u (.store 5 (t 5) (t 21)))]))
 (.post [(27, 1, [(3, 1), (4, 3)])] (.rops [(none, o 22 (.fa 2 (t 3))),
 (none, o 23 (.load none (t 22))),
 (none, o 24 (.load (some 5) (t 5))),
 (some [o 23 (.load none (t 22)), o 22 (.fa 2 (t 3))], o 25 (.call 195 [(t 24)])),
 (some [o 23 (.load none (t 22)), o 22 (.fa 2 (t 3))], o 26 (.bsl 5 (.agg #[.int .i64 0, .int .i64 0, .int .i64 0, .slice none 0 0, .slice none 0 0]) 1 [(0, (t 25))])),
 (some [], o 27 (.app 5 72 (.agg #[.int .i64 0, .int .i64 0, .int .i64 0, .slice none 0 0, .slice none 0 0]) (t 23) (t 26))),
 (none, o 28 (.fa 2 (t 3))),
 (some [], u (.store 1 (t 28) (t 27)))]))))
 (.kept [2, 3, 16, 17, 18] (.ops [o 29 (.bin .add (t 18) (k 1)),
 m 18 29]))))
def c_impl_copyState : AS :=
 .seq (.ops [o 1 (.box (t 0)),
 (o 2 (.alloc (.agg #[.int .i64 0, .slice none 0 0, .slice none 0 0, .slice none 0 0])))])
 (.seq (.tops [(1, 0), (2, 0), (3, 0)] (.rd (o 6 (.fa 0 (t 1))) (.rd (o 7 (.load none (t 6))) (.rd (o 8 (.fa 1 (t 1))) (.rd (o 9 (.load none (t 8))) (.rd (o 11 (.fa 3 (t 1))) (.rd (o 12 (.load none (t 11))) (.alt [o 12 (.load none (t 11)), o 11 (.fa 3 (t 1)), o 7 (.load none (t 6)), o 6 (.fa 0 (t 1))] (o 10 (.call 193 [(t 9)]))
 (.alt [o 7 (.load none (t 6)), o 6 (.fa 0 (t 1))] (o 13 (.call 194 [(t 12)]))
 (.rd (o 14 (.build (.agg #[.int .i64 0, .slice none 0 0, .slice none 0 0, .slice none 0 0]) [(0, 1, (t 7)), (1, 1, (t 10)), (3, 1, (t 13))])) (.alt [o 14 (.build (.agg #[.int .i64 0, .slice none 0 0, .slice none 0 0, .slice none 0 0]) [(0, 1, (t 7)), (1, 1, (t 10)), (3, 1, (t 13))]), o 7 (.load none (t 6)), o 6 (.fa 0 (t 1))] (o 3 (.alloc (.agg #[.int .i64 0, .slice none 0 0, .slice none 0 0, .slice none 0 0])))
 (.alt [] (u (.store 4 (t 3) (t 14)))
 (.done)
 (.none))
 (.none)))
 (.alt [o 12 (.load none (t 11)), o 11 (.fa 3 (t 1)), o 7 (.load none (t 6)), o 6 (.fa 0 (t 1))] (o 3 (.alloc (.agg #[.int .i64 0, .slice none 0 0, .slice none 0 0, .slice none 0 0])))
 (.alt [o 7 (.load none (t 6)), o 6 (.fa 0 (t 1))] (o 13 (.call 194 [(t 12)]))
 (.rd (o 14 (.build (.agg #[.int .i64 0, .slice none 0 0, .slice none 0 0, .slice none 0 0]) [(0, 1, (t 7)), (1, 1, (t 10)), (3, 1, (t 13))])) (.alt [] (u (.store 4 (t 3) (t 14)))
 (.done)
 (.none)))
 (.none))
 (.none)))
 (.alt [o 12 (.load none (t 11)), o 11 (.fa 3 (t 1)), o 9 (.load none (t 8)), o 8 (.fa 1 (t 1)), o 7 (.load none (t 6)), o 6 (.fa 0 (t 1))] (o 3 (.alloc (.agg #[.int .i64 0, .slice none 0 0, .slice none 0 0, .slice none 0 0])))
 (.alt [o 12 (.load none (t 11)), o 11 (.fa 3 (t 1)), o 7 (.load none (t 6)), o 6 (.fa 0 (t 1))] (o 10 (.call 193 [(t 9)]))
 (.alt [o 7 (.load none (t 6)), o 6 (.fa 0 (t 1))] (o 13 (.call 194 [(t 12)]))
 (.rd (o 14 (.build (.agg #[.int .i64 0, .slice none 0 0, .slice none 0 0, .slice none 0 0]) [(0, 1, (t 7)), (1, 1, (t 10)), (3, 1, (t 13))])) (.alt [] (u (.store 4 (t 3) (t 14)))
 (.done)
 (.none)))
 (.none))
 (.none))
 (.none))))))))))
 (.kept [1, 2, 3] (.seq (.seq (.ops [o 15 (.fa 2 (t 1)),
 (o 16 (.load none (t 15))),
 (o 17 (.lens (t 16))),
 (o 18 (.mv (k 0)))])
 (.block 0 (.loop 1 [(2, 0), (3, 0), (16, 0), (17, 0), (18, 0)] c_impl_copyState_l1)))
 (.kept [2, 3] (.seq (.ops [o 30 (.load (some 4) (t 3)),
 (u (.store 4 (t 2) (t 30)))])
 (.ret))))))
theorem h_impl_copyState : hF Tryz.prog n_impl_copyState = some c_impl_copyState.strip := by kernel_rfl
theorem r_impl_copyState : rF Tryz.prog n_impl_copyState = some ([.cell 2 43], 31) := by kernel_rfl
abbrev n_impl_State_findTold : Nat := 147
def c_impl_State_findTold : AS :=
 .seq (.ops [o 2 (.box (t 0)),
 (o 4 (.mv (k 0))),
 (o 5 (.mv ff))])
 (.seq (.ops [o 6 (.fa 3 (t 2)),
 (o 7 (.load none (t 6))),
 m 8 1,
 (o 9 (.call 196 [(t 7), (t 8), (.func 197)])),
 (o 10 (.ext 0 (t 9))),
 (o 11 (.ext 1 (t 9))),
 m 4 10,
 m 5 11])
 (.ret))
theorem h_impl_State_findTold : hF Tryz.prog n_impl_State_findTold = some c_impl_State_findTold.strip := by kernel_rfl
theorem r_impl_State_findTold : rF Tryz.prog n_impl_State_findTold = some ([.tmp 4, .tmp 5], 12) := by kernel_rfl
abbrev n_impl_State_decided : Nat := 148
def c_impl_State_decided : AS :=
 .seq (.ops [o 2 (.box (t 0)),
 (o 3 (.box (t 1))),
 (o 4 (.alloc (.agg #[.int .i64 0, .slice none 0 0, .slice none 0 0, .slice none 0 0]))),
 (o 5 (.mv ff))])
 (.seq (.ops [o 13 (.load (some 4) (t 2)),
 (o 14 (.call 146 [(t 13)])),
 (o 6 (.alloc (.agg #[.int .i64 0, .slice none 0 0, .slice none 0 0, .slice none 0 0]))),
 (u (.store 4 (t 6) (t 14)))])
 (.seq (.ops [o 16 (.load (some 4) (t 6)),
 (o 17 (.fa 1 (t 3))),
 (o 18 (.load none (t 17))),
 (o 19 (.call 145 [(t 16), (t 18)])),
 m 15 19,
 (o 20 (.ext 0 (t 15))),
 (o 21 (.ext 1 (t 15))),
 m 7 20,
 m 8 21])
 (.kept [3, 4, 6, 7, 8] (.seq (.seq (.ops [o 22 (.fa 6 (t 3)),
 (o 23 (.load none (t 22)))])
 (.cond (t 23) (.seq (.seq (.dops [m 24 8,
 (o 25 (.not (t 24))),
 m 26 25,
 (g 27 26 false (.fa 2 (t 6))),
 (g 28 26 false (.load none (t 27))),
 mg 29 26 false 7,
 (g 30 26 false (.ia 5 (t 28) (t 29))),
 (g 31 26 false (.fa 1 (t 30))),
 (g 32 26 false (.load none (t 31))),
 (g 33 26 false (.fa 2 (t 3))),
 (g 34 26 false (.load none (t 33))),
 (g 35 26 false (.bin .gtr (t 32) (t 34))),
 (o 36 (.pick (t 26) tt (t 35)))])
 (.kept [3, 4, 6, 7, 8, 36] (.cond (t 36) (.seq (.ops [o 37 (.build (.agg #[.int .i64 0, .slice none 0 0, .slice none 0 0, .slice none 0 0]) []),
 (u (.store 4 (t 4) (t 37))),
 (o 5 (.mv ff))])
 (.ret)) (.skip))))
 (.kept [3, 4, 6, 7, 8] (.seq (.pre [o 41 (.fa 2 (t 6)), o 42 (.load none (t 41)), m 43 7, o 44 (.ia 5 (t 42) (t 43)), o 45 (.fa 4 (t 44))] 45 46 (.post [(44, 1, [(3, 1), (4, 3)])] (.rops [(none, o 39 (.fa 1 (t 6))),
 (none, o 40 (.load none (t 39))),
 (none, o 41 (.fa 2 (t 6))),
 (none, o 42 (.load none (t 41))),
 (none, m 43 7),
 (none, o 44 (.ia 5 (t 42) (t 43))),
 (none, o 45 (.fa 4 (t 44))),
 (none, o 46 (.load none (t 45))),
 (none, o 47 (.fa 2 (t 3))),
 (none, o 48 (.load none (t 47))),
 (some [], o 49 (.call 198 [(t 40), (t 46), (t 48)])),
 (none, m 38 49),
 (none, o 50 (.ext 0 (t 38))),
 (none, o 51 (.ext 1 (t 38))),
 (none, m 9 50),
 (none, m 10 51)])))
 (.kept [3, 4, 6, 7, 8, 9, 10] (.seq (.seq (.ops [m 52 10,
 (o 53 (.not (t 52)))])
 (.cond (t 53) (.seq (.ops [o 54 (.build (.agg #[.int .i64 0, .slice none 0 0, .slice none 0 0, .slice none 0 0]) []),
 (u (.store 4 (t 4) (t 54))),
 (o 5 (.mv ff))])
 (.ret)) (.skip)))
 (.seq (.ops [m 55 9,
 (o 56 (.fa 1 (t 6))),
 (u (.store 1 (t 56) (t 55)))])
 (.ops [o 57 (.fa 0 (t 6)),
 (o 58 (.load none (t 57))),
 (o 59 (.fa 2 (t 3))),
 (o 60 (.load none (t 59))),
 (o 61 (.bmax [(t 58), (t 60)])),
 (o 62 (.fa 0 (t 6))),
 (u (.store 1 (t 62) (t 61)))]))))))) (.skip)))
 (.kept [3, 4, 6, 7, 8] (.seq (.seq (.ops [m 63 8])
 (.cond (t 63) (.ops [o 64 (.fa 2 (t 6)),
 (o 65 (.load none (t 64))),
 m 66 7,
 m 67 7,
 (o 68 (.bin .add (t 67) (k 1))),
 (o 69 (.call 199 [(t 65), (t 66), (t 68)])),
 (o 70 (.fa 2 (t 6))),
 (u (.store 1 (t 70) (t 69)))]) (.skip)))
 (.kept [3, 4, 6] (.seq (.ops [o 72 (.load (some 4) (t 6)),
 (o 73 (.fa 1 (t 3))),
 (o 74 (.load none (t 73))),
 (o 75 (.call 147 [(t 72), (t 74)])),
 m 71 75,
 (o 76 (.ext 0 (t 71))),
 (o 77 (.ext 1 (t 71))),
 m 11 76,
 m 12 77])
 (.kept [3, 4, 6, 11] (.seq (.ops [o 78 (.fa 3 (t 6)),
 (o 79 (.load none (t 78))),
 m 80 11,
 (o 81 (.fa 1 (t 3))),
 (o 82 (.load none (t 81))),
 (o 83 (.fa 6 (t 3))),
 (o 84 (.load none (t 83))),
 (o 85 (.fa 2 (t 3))),
 (o 86 (.load none (t 85))),
 (o 87 (.build (.agg #[.int .i64 0, .bool false, .int .i64 0]) [(0, 1, (t 82)), (1, 1, (t 84)), (2, 1, (t 86))])),
 (o 88 (.bsl 3 (.agg #[.int .i64 0, .bool false, .int .i64 0]) 1 [(0, (t 87))])),
 (o 89 (.call 200 [(t 79), (t 80), (t 88)])),
 (o 90 (.fa 3 (t 6))),
 (u (.store 1 (t 90) (t 89)))])
 (.kept [4, 6] (.seq (.ops [o 91 (.load (some 4) (t 6)),
 (u (.store 4 (t 4) (t 91))),
 (o 5 (.mv tt))])
 (.ret)))))))))))))
theorem h_impl_State_decided : hF Tryz.prog n_impl_State_decided = some c_impl_State_decided.strip := by kernel_rfl
theorem r_impl_State_decided : rF Tryz.prog n_impl_State_decided = some ([.cell 4 43, .tmp 5], 92) := by kernel_rfl
abbrev n_impl_State_fits : Nat := 149
def c_impl_State_fits : AS :=
 .seq (.ops [o 3 (.box (t 0)),
 (o 6 (.mv ff))])
 (.seq (.ops [m 8 1,
 m 9 2,
 (o 10 (.build (.agg #[.int .i64 0, .int .i64 0, .int .i64 0, .slice none 0 0, .slice none 0 0]) [(3, 1, (t 8)), (4, 1, (t 9))])),
 (o 7 (.alloc (.agg #[.int .i64 0, .int .i64 0, .int .i64 0, .slice none 0 0, .slice none 0 0]))),
 (u (.store 5 (t 7) (t 10)))])
 (.seq (.seq (.ops [o 11 (.fa 2 (t 3)),
 (o 12 (.load none (t 11))),
 (o 13 (.mkf 201 [(t 7)])),
 (o 14 (.call 185 [(t 12), (t 13)]))])
 (.cond (t 14) (.seq (.ops [o 6 (.mv ff)])
 (.ret)) (.skip)))
 (.seq (.post [(21, 1, [(3, 1), (4, 3)])] (.tops [(6, 0), (21, 0)] (.rd (o 15 (.load (some 4) (t 3))) (.rd (o 16 (.fa 2 (t 3))) (.rd (o 17 (.load none (t 16))) (.rd (o 19 (.load (some 5) (t 7))) (.alt [o 19 (.load (some 5) (t 7)), o 15 (.load (some 4) (t 3))] (o 18 (.call 202 [(t 17)]))
 (.alt [o 15 (.load (some 4) (t 3))] (o 20 (.bsl 5 (.agg #[.int .i64 0, .int .i64 0, .int .i64 0, .slice none 0 0, .slice none 0 0]) 1 [(0, (t 19))]))
 (.alt [o 15 (.load (some 4) (t 3))] (o 21 (.app 5 72 (.agg #[.int .i64 0, .int .i64 0, .int .i64 0, .slice none 0 0, .slice none 0 0]) (t 18) (t 20)))
 (.alt [] (o 22 (.call 189 [(t 15), (t 21)]))
 (.rd (m 6 22) (.done))
 (.none))
 (.none))
 (.none))
 (.alt [o 17 (.load none (t 16)), o 16 (.fa 2 (t 3)), o 15 (.load (some 4) (t 3))] (o 20 (.bsl 5 (.agg #[.int .i64 0, .int .i64 0, .int .i64 0, .slice none 0 0, .slice none 0 0]) 1 [(0, (t 19))]))
 (.alt [o 15 (.load (some 4) (t 3))] (o 18 (.call 202 [(t 17)]))
 (.alt [o 15 (.load (some 4) (t 3))] (o 21 (.app 5 72 (.agg #[.int .i64 0, .int .i64 0, .int .i64 0, .slice none 0 0, .slice none 0 0]) (t 18) (t 20)))
 (.alt [] (o 22 (.call 189 [(t 15), (t 21)]))
 (.rd (m 6 22) (.done))
 (.none))
 (.none))
 (.none))
 (.none)))))))))
 (.ret))))
theorem h_impl_State_fits : hF Tryz.prog n_impl_State_fits = some c_impl_State_fits.strip := by kernel_rfl
theorem r_impl_State_fits : rF Tryz.prog n_impl_State_fits = some ([.tmp 6], 23) := by kernel_rfl
abbrev n_slices_Insert___impl_Held_impl_Held_ : Nat := 150
def c_slices_Insert___impl_Held_impl_Held_ : AS :=
 .seq (.ops [o 6 (.mv (.const (.slice none 0 0)))])
 (.seq (.ops [m 10 0,
 m 11 1,
 (o 12 (.sls 5 (t 10) (some (t 11)) none none))])
 (.seq (.ops [m 13 2,
 (o 14 (.lens (t 13))),
 m 7 14])
 (.seq (.seq (.ops [m 15 7,
 (o 16 (.bin .eql (t 15) (k 0)))])
 (.cond (t 16) (.seq (.post [(6, 0, [])] (.ops [m 17 0,
 m 6 17]))
 (.ret)) (.skip)))
 (.seq (.ops [m 18 0,
 (o 19 (.lens (t 18))),
 m 8 19])
 (.seq (.seq (.ops [m 20 1,
 m 21 8,
 (o 22 (.bin .eql (t 20) (t 21)))])
 (.cond (t 22) (.seq (.post [(6, 0, [])] (.ops [m 23 0,
 m 24 2,
 (o 25 (.app 5 72 (.agg #[.int .i64 0, .int .i64 0, .int .i64 0, .slice none 0 0, .slice none 0 0]) (t 23) (t 24))),
 m 6 25]))
 (.ret)) (.skip)))
 (.kept [0, 1, 2, 7, 8] (.seq (.seq (.ops [m 26 8,
 m 27 7,
 (o 28 (.bin .add (t 26) (t 27))),
 m 29 0,
 (o 30 (.capo (t 29))),
 (o 31 (.bin .gtr (t 28) (t 30)))])
 (.cond (t 31) (.seq (.ops [m 32 0,
 m 33 1,
 (o 34 (.sls 5 (t 32) none (some (t 33)) none)),
 m 35 8,
 m 36 7,
 (o 37 (.bin .add (t 35) (t 36))),
 m 38 1,
 (o 39 (.bin .sub (t 37) (t 38))),
 (o 40 (.apz 5 72 (.agg #[.int .i64 0, .int .i64 0, .int .i64 0, .slice none 0 0, .slice none 0 0]) (t 34) (t 39))),
 m 9 40])
 (.kept [0, 1, 2, 7, 9] (.seq (.ops [m 41 9,
 m 42 1,
 (o 43 (.sls 5 (t 41) (some (t 42)) none none)),
 m 44 2,
 (o 45 (.cpy 5 (t 43) (t 44)))])
 (.seq (.rops [(none, m 46 9),
 (none, m 47 1),
 (none, m 48 7),
 (none, o 49 (.bin .add (t 47) (t 48))),
 (none, o 50 (.sls 5 (t 46) (some (t 49)) none none)),
 (none, m 51 0),
 (none, m 52 1),
 (none, o 53 (.sls 5 (t 51) (some (t 52)) none none)),
 (some [], o 54 (.cpy 5 (t 50) (t 53)))])
 (.kept [9] (.seq (.post [(6, 0, [])] (.ops [m 55 9,
 m 6 55]))
 (.ret))))))) (.skip)))
 (.kept [0, 1, 2, 7, 8] (.seq (.ops [m 56 0,
 m 57 8,
 m 58 7,
 (o 59 (.bin .add (t 57) (t 58))),
 (o 60 (.sls 5 (t 56) none (some (t 59)) none)),
 m 0 60])
 (.seq (.seq (.ops [m 61 2,
 m 62 0,
 m 63 1,
 m 64 7,
 (o 65 (.bin .add (t 63) (t 64))),
 (o 66 (.sls 5 (t 62) (some (t 65)) none none)),
 (o 67 (.xcall 203 [(t 61), (t 66)])),
 (o 68 (.not (t 67)))])
 (.kept [0, 1, 2, 7, 8, 68] (.cond (t 68) (.seq (.rops [(none, m 69 0),
 (none, m 70 1),
 (none, m 71 7),
 (none, o 72 (.bin .add (t 70) (t 71))),
 (none, o 73 (.sls 5 (t 69) (some (t 72)) none none)),
 (none, m 74 0),
 (none, m 75 1),
 (none, o 76 (.sls 5 (t 74) (some (t 75)) none none)),
 (some [], o 77 (.cpy 5 (t 73) (t 76)))])
 (.kept [0, 1, 2] (.seq (.ops [m 78 0,
 m 79 1,
 (o 80 (.sls 5 (t 78) (some (t 79)) none none)),
 m 81 2,
 (o 82 (.cpy 5 (t 80) (t 81)))])
 (.seq (.post [(6, 0, [])] (.ops [m 83 0,
 m 6 83]))
 (.ret))))) (.skip))))
 (.kept [0, 1, 2, 7, 8] (.seq (.ops [m 84 0,
 m 85 8,
 (o 86 (.sls 5 (t 84) (some (t 85)) none none)),
 m 87 2,
 (o 88 (.cpy 5 (t 86) (t 87)))])
 (.seq (.ops [m 89 0,
 m 90 1,
 (o 91 (.sls 5 (t 89) (some (t 90)) none none)),
 m 92 7,
 (o 93 (.call 204 [(t 91), (t 92)]))])
 (.seq (.post [(6, 0, [])] (.ops [m 94 0,
 m 6 94]))
 (.ret)))))))))))))))
theorem h_slices_Insert___impl_Held_impl_Held_ : hF Tryz.prog n_slices_Insert___impl_Held_impl_Held_ = some c_slices_Insert___impl_Held_impl_Held_.strip := by kernel_rfl
theorem r_slices_Insert___impl_Held_impl_Held_ : rF Tryz.prog n_slices_Insert___impl_Held_impl_Held_ = some ([.tmp 6], 95) := by kernel_rfl
abbrev n_impl_heldOf : Nat := 151
def c_impl_heldOf : AS :=
 .seq (.ops [o 1 (.box (t 0)),
 (o 2 (.alloc (.agg #[.int .i64 0, .int .i64 0, .int .i64 0, .slice none 0 0, .slice none 0 0])))])
 (.seq (.rops [(none, o 3 (.fa 1 (t 1))),
 (none, o 4 (.load none (t 3))),
 (none, o 5 (.fa 2 (t 1))),
 (none, o 6 (.load none (t 5))),
 (none, o 7 (.fa 3 (t 1))),
 (none, o 8 (.load none (t 7))),
 (none, o 9 (.fa 4 (t 1))),
 (none, o 10 (.load none (t 9))),
 (none, o 12 (.fa 5 (t 1))),
 (none, o 13 (.load none (t 12))),
 (some [o 13 (.load none (t 12)), o 12 (.fa 5 (t 1)), o 8 (.load none (t 7)), o 7 (.fa 3 (t 1)), o 6 (.load none (t 5)), o 5 (.fa 2 (t 1)), o 4 (.load none (t 3)), o 3 (.fa 1 (t 1))], o 11 (.call 205 [(t 10)])),
 (some [o 8 (.load none (t 7)), o 7 (.fa 3 (t 1)), o 6 (.load none (t 5)), o 5 (.fa 2 (t 1)), o 4 (.load none (t 3)), o 3 (.fa 1 (t 1))], o 14 (.call 206 [(t 13)])),
 (none, o 15 (.build (.agg #[.int .i64 0, .int .i64 0, .int .i64 0, .slice none 0 0, .slice none 0 0]) [(0, 1, (t 4)), (1, 1, (t 6)), (2, 1, (t 8)), (3, 1, (t 11)), (4, 1, (t 14))])),
 (some [], u (.store 5 (t 2) (t 15)))])
 (.ret))
theorem h_impl_heldOf : hF Tryz.prog n_impl_heldOf = some c_impl_heldOf.strip := by kernel_rfl
theorem r_impl_heldOf : rF Tryz.prog n_impl_heldOf = some ([.cell 2 127], 16) := by kernel_rfl
abbrev n_laws_eqWrite : Nat := 152
def c_laws_eqWrite : AS :=
 .seq (.ops [o 2 (.box (t 0)),
 (o 3 (.box (t 1))),
 (o 4 (.mv ff))])
 (.seq (.seq (.ops [o 5 (.fa 0 (t 2)),
 (o 6 (.load none (t 5))),
 (o 7 (.fa 0 (t 3))),
 (o 8 (.load none (t 7))),
 (o 9 (.bin .neq (t 6) (t 8)))])
 (.cond (t 9) (.seq (.ops [o 4 (.mv ff)])
 (.ret)) (.skip)))
 (.kept [2, 3] (.seq (.seq (.ops [o 10 (.fa 1 (t 2)),
 (o 11 (.load none (t 10))),
 (o 12 (.fa 1 (t 3))),
 (o 13 (.load none (t 12))),
 (o 14 (.bin .neq (t 11) (t 13)))])
 (.cond (t 14) (.seq (.ops [o 4 (.mv ff)])
 (.ret)) (.skip)))
 (.kept [2, 3] (.seq (.seq (.ops [o 15 (.fa 2 (t 2)),
 (o 16 (.load none (t 15))),
 (o 17 (.fa 2 (t 3))),
 (o 18 (.load none (t 17))),
 (o 19 (.eqb true (t 16) (t 18)))])
 (.cond (t 19) (.seq (.ops [o 4 (.mv ff)])
 (.ret)) (.skip)))
 (.kept [] (.seq (.ops [o 4 (.mv tt)])
 (.ret))))))))
theorem h_laws_eqWrite : hF Tryz.prog n_laws_eqWrite = some c_laws_eqWrite.strip := by kernel_rfl
theorem r_laws_eqWrite : rF Tryz.prog n_laws_eqWrite = some ([.tmp 4], 20) := by kernel_rfl
abbrev n_spec_l9GoodRep : Nat := 153
def c_spec_l9GoodRep_l1 : AS :=
 .seq (.seq (.ops [m 20 6,
 (o 21 (.fa 1 (t 2))),
 (o 22 (.load none (t 21))),
 (o 23 (.lens (t 22))),
 (o 24 (.bin .lss (t 20) (t 23)))])
 (.cond (t 24) (.skip) (.exit 0)))
 (.seq (.block 1 (.seq (.seq (.post [(41, 1, [(5, 1), (6, 3)])] (.ops [o 27 (.fa 1 (t 2)),
 (o 28 (.load none (t 27))),
 m 29 6,
 (o 30 (.ia 8 (t 28) (t 29))),
 (o 31 (.fa 0 (t 30))),
 (o 32 (.load none (t 31))),
 m 33 5,
 m 34 1,
 (o 35 (.call 91 [(t 32), (t 33), (t 34)])),
 (o 36 (.not (t 35))),
 m 37 36,
 (g 38 37 false (.fa 1 (t 2))),
 (g 39 37 false (.load none (t 38))),
 mg 40 37 false 6,
 (g 41 37 false (.ia 8 (t 39) (t 40))),
 (g 42 37 false (.fa 1 (t 41))),
 (g 43 37 false (.load (some 7) (t 42))),
 (g 44 37 false (.call 207 [(t 43)])),
 (g 45 37 false (.not (t 44))),
 (o 46 (.pick (t 37) tt (t 45)))]))
 (.kept [1, 2, 6, 46] (.cond (t 46) (.seq (.ops [o 4 (.mv ff)])
 (.ret)) (.skip))))
 (.kept [1, 2, 6] (.ops [o 47 (.fa 1 (t 2)),
 (o 48 (.load none (t 47))),
 m 49 6,
 (o 50 (.ia 8 (t 48) (t 49))),
 (o 51 (.fa 0 (t 50))),
 (o 52 (.load none (t 51))),
 m 5 52]))))
 (.kept [1, 2, 5, 6] (.ops [m 25 6,
 (o 26 (.bin .add (t 25) (k 1))),
 m 6 26])))
def c_spec_l9GoodRep : AS :=
 .seq (.ops [o 2 (.box (t 0)),
 (o 4 (.mv ff))])
 (.seq (.ops [o 5 (.mv (k 1))])
 (.seq (.seq (.ops [o 7 (.fa 1 (t 2)),
 (o 8 (.load none (t 7))),
 (o 9 (.lens (t 8))),
 (o 10 (.bin .gtr (t 9) (k 60))),
 m 11 10,
 (g 12 11 false (.fa 2 (t 2))),
 (g 13 11 false (.load none (t 12))),
 (g 14 11 false (.fa 1 (t 2))),
 (g 15 11 false (.load none (t 14))),
 (g 16 11 false (.lens (t 15))),
 (g 17 11 false (.call 91 [(t 13), (k 0), (t 16)])),
 (g 18 11 false (.not (t 17))),
 (o 19 (.pick (t 11) tt (t 18)))])
 (.kept [1, 2, 5, 19] (.cond (t 19) (.seq (.ops [o 4 (.mv ff)])
 (.ret)) (.skip))))
 (.kept [1, 2, 5] (.seq (.seq (.ops [o 6 (.mv (k 0))])
 (.block 0 (.loop 2 [(1, 0), (2, 0), (5, 0), (6, 0)] c_spec_l9GoodRep_l1)))
 (.kept [] (.seq (.ops [o 4 (.mv tt)])
 (.ret)))))))
theorem h_spec_l9GoodRep : hF Tryz.prog n_spec_l9GoodRep = some c_spec_l9GoodRep.strip := by kernel_rfl
theorem r_spec_l9GoodRep : rF Tryz.prog n_spec_l9GoodRep = some ([.tmp 4], 53) := by kernel_rfl
abbrev n_impl_isMany : Nat := 154
def c_impl_isMany : AS :=
 .seq (.ops [o 2 (.mv ff)])
 (.seq (.ops [m 3 0,
 (o 4 (.bin .eql (t 3) (k 3))),
 m 5 4,
 mg 6 5 false 0,
 (g 7 5 false (.bin .eql (t 6) (k 5))),
 (o 8 (.pick (t 5) tt (t 7))),
 m 2 8])
 (.ret))
theorem h_impl_isMany : hF Tryz.prog n_impl_isMany = some c_impl_isMany.strip := by kernel_rfl
theorem r_impl_isMany : rF Tryz.prog n_impl_isMany = some ([.tmp 2], 9) := by kernel_rfl
abbrev n_slices_ContainsFunc___impl_Replica_impl_Replica_ : Nat := 155
def c_slices_ContainsFunc___impl_Replica_impl_Replica_ : AS :=
 .seq (.ops [o 4 (.mv ff)])
 (.seq (.ops [m 5 0,
 m 6 1,
 (o 7 (.call 208 [(t 5), (t 6)])),
 (o 8 (.bin .geq (t 7) (k 0))),
 m 4 8])
 (.ret))
theorem h_slices_ContainsFunc___impl_Replica_impl_Replica_ : hF Tryz.prog n_slices_ContainsFunc___impl_Replica_impl_Replica_ = some c_slices_ContainsFunc___impl_Replica_impl_Replica_.strip := by kernel_rfl
theorem r_slices_ContainsFunc___impl_Replica_impl_Replica_ : rF Tryz.prog n_slices_ContainsFunc___impl_Replica_impl_Replica_ = some ([.tmp 4], 9) := by kernel_rfl
abbrev n_impl_GoodGroup_1 : Nat := 156
def c_impl_GoodGroup_1 : AS :=
 .seq (.ops [o 2 (.box (t 0)),
 (o 3 (.mv ff))])
 (.seq (.ops [o 4 (.fa 1 (t 2)),
 (o 5 (.load none (t 4))),
 (o 6 (.fa 1 (t 1))),
 (o 7 (.load none (t 6))),
 (o 8 (.call 157 [(t 5), (t 7)])),
 (o 9 (.not (t 8))),
 m 10 9,
 (g 11 10 false (.fa 2 (t 2))),
 (g 12 10 false (.load none (t 11))),
 (g 13 10 false (.fa 1 (t 2))),
 (g 14 10 false (.load none (t 13))),
 (g 15 10 false (.lens (t 14))),
 (g 16 10 false (.call 98 [(t 12), (k 0), (t 15)])),
 (g 17 10 false (.not (t 16))),
 (o 18 (.pick (t 10) tt (t 17))),
 m 3 18])
 (.ret))
theorem h_impl_GoodGroup_1 : hF Tryz.prog n_impl_GoodGroup_1 = some c_impl_GoodGroup_1.strip := by kernel_rfl
theorem r_impl_GoodGroup_1 : rF Tryz.prog n_impl_GoodGroup_1 = some ([.tmp 3], 19) := by kernel_rfl
abbrev n_impl_isLog : Nat := 157
def c_impl_isLog_l1 : AS :=
 .seq (.ops [o 10 (.bin .lss (t 9) (t 8))])
 (.seq (.cond (t 10) (.skip) (.exit 0))
 (.seq (.block 1 (.seq (.post [(12, 1, [(5, 1), (6, 3)])] (.ops [m 11 9,
 (o 12 (.ia 8 (t 7) (t 9))),
 (o 13 (.load (some 8) (t 12))),
 (o 6 (.alloc (.agg #[.int .i64 0, .int .i64 0, .int .i64 0, .int .i64 0, .int .i64 0, .slice none 0 0, .slice none 0 0, .bool false]))),
 m 5 11,
 (u (.store 8 (t 6) (t 13)))]))
 (.seq (.rops [(none, o 14 (.fa 0 (t 6))),
 (none, o 15 (.load none (t 14))),
 (none, m 16 1),
 (some [], o 17 (.call 98 [(t 15), (k 1), (t 16)])),
 (none, o 18 (.not (t 17))),
 (none, m 19 18),
 (none, g 20 19 false (.fa 1 (t 6))),
 (none, g 21 19 false (.load (some 7) (t 20))),
 (some [], g 22 19 false (.call 56 [(t 21)])),
 (none, g 23 19 false (.not (t 22))),
 (none, o 24 (.pick (t 19) tt (t 23))),
 (none, m 25 24),
 (none, mg 26 25 false 5),
 (none, g 27 25 false (.bin .gtr (t 26) (k 0))),
 (none, mg 28 25 false 27),
 (none, g 29 28 true (.fa 0 (t 6))),
 (none, g 30 28 true (.load none (t 29))),
 (none, mg 31 28 true 0),
 (none, mg 32 28 true 5),
 (none, g 33 28 true (.bin .sub (t 32) (k 1))),
 (none, g 34 28 true (.ia 8 (t 31) (t 33))),
 (none, g 35 28 true (.fa 0 (t 34))),
 (none, g 36 28 true (.load none (t 35))),
 (none, g 37 28 true (.bin .lss (t 30) (t 36))),
 (none, g 38 25 false (.pick (t 28) (t 37) ff)),
 (none, o 39 (.pick (t 25) tt (t 38)))])
 (.kept [0, 1, 7, 8, 9, 39] (.cond (t 39) (.seq (.ops [o 4 (.mv ff)])
 (.ret)) (.skip))))))
 (.kept [0, 1, 7, 8, 9] (.ops [o 40 (.bin .add (t 9) (k 1)),
 m 9 40]))))
def c_impl_isLog : AS :=
 .seq (.ops [o 4 (.mv ff)])
 (.seq (.seq (.ops [m 7 0,
 (o 8 (.lens (t 7))),
 (o 9 (.mv (k 0)))])
 (.block 0 (.loop 2 [(0, 0), (1, 0), (7, 0), (8, 0), (9, 0)] c_impl_isLog_l1)))
 (.kept [0] (.seq (.ops [m 41 0,
 (o 42 (.lens (t 41))),
 (o 43 (.bin .leq (t 42) (k 60))),
 m 4 43])
 (.ret))))
theorem h_impl_isLog : hF Tryz.prog n_impl_isLog = some c_impl_isLog.strip := by kernel_rfl
theorem r_impl_isLog : rF Tryz.prog n_impl_isLog = some ([.tmp 4], 44) := by kernel_rfl
abbrev n_laws_szEntryS : Nat := 160
def c_laws_szEntryS_l1 : AS :=
 .seq (.seq (.ops [m 12 5,
 m 13 0,
 (o 14 (.lens (t 13))),
 (o 15 (.bin .lss (t 12) (t 14)))])
 (.cond (t 15) (.skip) (.exit 0)))
 (.seq (.block 1 (.seq (.post [(20, 1, [(5, 1), (6, 3)])] (.ops [m 18 0,
 m 19 5,
 (o 20 (.ia 8 (t 18) (t 19))),
 (o 21 (.load (some 8) (t 20))),
 m 22 1,
 (o 23 (.call 209 [(t 21), (t 22)])),
 m 1 23]))
 (.kept [0, 1, 5] (.seq (.ops [m 24 1,
 (o 25 (.bin .lss (t 24) (k 0)))])
 (.cond (t 25) (.seq (.ops [o 4 (.mv (k (-1)))])
 (.ret)) (.skip))))))
 (.kept [0, 1, 5] (.ops [m 16 5,
 (o 17 (.bin .add (t 16) (k 1))),
 m 5 17])))
def c_laws_szEntryS : AS :=
 .seq (.ops [o 4 (.mv (k 0))])
 (.seq (.ops [m 6 1,
 m 7 0,
 (o 8 (.lens (t 7))),
 (o 9 (.bin .sub (t 6) (t 8))),
 m 1 9])
 (.seq (.seq (.ops [m 10 1,
 (o 11 (.bin .lss (t 10) (k 0)))])
 (.cond (t 11) (.seq (.ops [o 4 (.mv (k (-1)))])
 (.ret)) (.skip)))
 (.seq (.seq (.ops [o 5 (.mv (k 0))])
 (.block 0 (.loop 2 [(0, 0), (1, 0), (5, 0)] c_laws_szEntryS_l1)))
 (.kept [1] (.seq (.ops [m 26 1,
 m 4 26])
 (.ret))))))
theorem h_laws_szEntryS : hF Tryz.prog n_laws_szEntryS = some c_laws_szEntryS.strip := by kernel_rfl
theorem r_laws_szEntryS : rF Tryz.prog n_laws_szEntryS = some ([.tmp 4], 27) := by kernel_rfl
abbrev n_laws_toEntryS : Nat := 161
def c_laws_toEntryS_l1 : AS :=
 .seq (.seq (.ops [m 8 4,
 m 9 0,
 (o 10 (.lens (t 9))),
 (o 11 (.bin .lss (t 8) (t 10)))])
 (.cond (t 11) (.skip) (.exit 0)))
 (.seq (.block 1 (.post [(21, 1, [(5, 1), (6, 3)]), (18, 1, [(5, 1), (6, 3)])] (.ops [m 14 3,
 m 15 4,
 m 16 0,
 m 17 4,
 (o 18 (.ia 8 (t 16) (t 17))),
 (o 19 (.load (some 8) (t 18))),
 (o 20 (.call 210 [(t 19)])),
 (o 21 (.ia 8 (t 14) (t 15))),
 (u (.store 8 (t 21) (t 20)))])))
 (.kept [0, 3, 4] (.ops [m 12 4,
 (o 13 (.bin .add (t 12) (k 1))),
 m 4 13])))
def c_laws_toEntryS : AS :=
 .seq (.ops [o 2 (.mv (.const (.slice none 0 0)))])
 (.seq (.ops [m 5 0,
 (o 6 (.lens (t 5))),
 (o 7 (.mks 8 96 (.agg #[.int .i64 0, .int .i64 0, .int .i64 0, .int .i64 0, .int .i64 0, .slice none 0 0, .slice none 0 0, .bool false]) (t 6) (t 6))),
 m 3 7])
 (.seq (.seq (.ops [o 4 (.mv (k 0))])
 (.block 0 (.loop 1 [(0, 0), (3, 0), (4, 0)] c_laws_toEntryS_l1)))
 (.kept [3] (.seq (.ops [m 22 3,
 m 2 22])
 (.ret)))))
theorem h_laws_toEntryS : hF Tryz.prog n_laws_toEntryS = some c_laws_toEntryS.strip := by kernel_rfl
theorem r_laws_toEntryS : rF Tryz.prog n_laws_toEntryS = some ([.tmp 2], 23) := by kernel_rfl
abbrev n_laws_eqEntryS : Nat := 162
def c_laws_eqEntryS_l1 : AS :=
 .seq (.seq (.ops [m 11 5,
 m 12 0,
 (o 13 (.lens (t 12))),
 (o 14 (.bin .lss (t 11) (t 13)))])
 (.cond (t 14) (.skip) (.exit 0)))
 (.seq (.block 1 (.seq (.post [(23, 1, [(5, 1), (6, 3)]), (19, 1, [(5, 1), (6, 3)])] (.rops [(none, m 17 0),
 (none, m 18 5),
 (none, o 19 (.ia 8 (t 17) (t 18))),
 (none, o 20 (.load (some 8) (t 19))),
 (none, m 21 1),
 (none, m 22 5),
 (none, o 23 (.ia 8 (t 21) (t 22))),
 (none, o 24 (.load (some 8) (t 23))),
 (some [], o 25 (.call 211 [(t 20), (t 24)])),
 (none, o 26 (.not (t 25)))]))
 (.kept [0, 1, 5, 26] (.cond (t 26) (.seq (.ops [o 4 (.mv ff)])
 (.ret)) (.skip)))))
 (.kept [0, 1, 5] (.ops [m 15 5,
 (o 16 (.bin .add (t 15) (k 1))),
 m 5 16])))
def c_laws_eqEntryS : AS :=
 .seq (.ops [o 4 (.mv ff)])
 (.seq (.seq (.ops [m 6 0,
 (o 7 (.lens (t 6))),
 m 8 1,
 (o 9 (.lens (t 8))),
 (o 10 (.bin .neq (t 7) (t 9)))])
 (.cond (t 10) (.seq (.ops [o 4 (.mv ff)])
 (.ret)) (.skip)))
 (.kept [0, 1] (.seq (.seq (.ops [o 5 (.mv (k 0))])
 (.block 0 (.loop 2 [(0, 0), (1, 0), (5, 0)] c_laws_eqEntryS_l1)))
 (.kept [] (.seq (.ops [o 4 (.mv tt)])
 (.ret))))))
theorem h_laws_eqEntryS : hF Tryz.prog n_laws_eqEntryS = some c_laws_eqEntryS.strip := by kernel_rfl
theorem r_laws_eqEntryS : rF Tryz.prog n_laws_eqEntryS = some ([.tmp 4], 27) := by kernel_rfl
abbrev n_impl_isLowerOrDigit : Nat := 163
def c_impl_isLowerOrDigit : AS :=
 .seq (.ops [o 2 (.mv ff)])
 (.seq (.ops [m 3 0,
 (o 4 (.bin .geq (t 3) (.const (.int .u8 97)))),
 m 5 4,
 mg 6 5 true 0,
 (g 7 5 true (.bin .leq (t 6) (.const (.int .u8 122)))),
 (o 8 (.pick (t 5) (t 7) ff)),
 m 9 8,
 mg 10 9 false 0,
 (g 11 9 false (.bin .geq (t 10) (.const (.int .u8 48)))),
 mg 12 9 false 11,
 mg 13 12 true 0,
 (g 14 12 true (.bin .leq (t 13) (.const (.int .u8 57)))),
 (g 15 9 false (.pick (t 12) (t 14) ff)),
 (o 16 (.pick (t 9) tt (t 15))),
 m 2 16])
 (.ret))
theorem h_impl_isLowerOrDigit : hF Tryz.prog n_impl_isLowerOrDigit = some c_impl_isLowerOrDigit.strip := by kernel_rfl
theorem r_impl_isLowerOrDigit : rF Tryz.prog n_impl_isLowerOrDigit = some ([.tmp 2], 17) := by kernel_rfl
abbrev n_strings_IndexByte : Nat := 164
def c_strings_IndexByte : AS :=
 .seq (.ops [o 4 (.mv (k 0))])
 (.seq (.ops [m 5 0,
 m 6 1,
 (o 7 (.call 212 [(t 5), (t 6)])),
 m 4 7])
 (.ret))
theorem h_strings_IndexByte : hF Tryz.prog n_strings_IndexByte = some c_strings_IndexByte.strip := by kernel_rfl
theorem r_strings_IndexByte : rF Tryz.prog n_strings_IndexByte = some ([.tmp 4], 8) := by kernel_rfl
abbrev n_slices_BinarySearchFunc___impl_Cell_impl_Cell_string_ : Nat := 165
def c_slices_BinarySearchFunc___impl_Cell_impl_Cell_string__l1 : AS :=
 .seq (.seq (.ops [m 15 9,
 m 16 10,
 (o 17 (.bin .lss (t 15) (t 16)))])
 (.cond (t 17) (.skip) (.exit 0)))
 (.block 1 (.seq (.ops [m 18 9,
 m 19 10,
 (o 20 (.bin .add (t 18) (t 19))),
 (o 21 (.cvi .u64 (t 20))),
 (o 22 (.bin .shr (t 21) (.const (.int .u64 1)))),
 (o 23 (.cvi .i64 (t 22))),
 m 11 23])
 (.kept [0, 1, 2, 8, 9, 10, 11] (.seq (.post [(27, 1, [(1, 3)])] (.ops [m 24 2,
 m 25 0,
 m 26 11,
 (o 27 (.ia 2 (t 25) (t 26))),
 (o 28 (.load (some 2) (t 27))),
 m 29 1,
 (o 30 (.callv (t 24) [(t 28), (t 29)])),
 (o 31 (.bin .lss (t 30) (k 0)))]))
 (.kept [0, 1, 2, 8, 9, 10, 11, 31] (.cond (t 31) (.ops [m 32 11,
 (o 33 (.bin .add (t 32) (k 1))),
 m 9 33]) (.ops [m 34 11,
 m 10 34])))))))
def c_slices_BinarySearchFunc___impl_Cell_impl_Cell_string_ : AS :=
 .seq (.ops [o 6 (.mv (k 0)),
 (o 7 (.mv ff))])
 (.seq (.ops [m 12 0,
 (o 13 (.lens (t 12))),
 m 8 13])
 (.seq (.ops [m 14 8,
 (o 9 (.mv (k 0))),
 m 10 14])
 (.seq (.block 0 (.loop 3 [(0, 0), (1, 0), (2, 0), (8, 0), (9, 0), (10, 0)] c_slices_BinarySearchFunc___impl_Cell_impl_Cell_string__l1))
 (.kept [0, 1, 2, 8, 9] (.seq (.post [(43, 1, [(1, 3)])] (.ops [m 35 9,
 m 36 9,
 m 37 8,
 (o 38 (.bin .lss (t 36) (t 37))),
 m 39 38,
 mg 40 39 true 2,
 mg 41 39 true 0,
 mg 42 39 true 9,
 (g 43 39 true (.ia 2 (t 41) (t 42))),
 (g 44 39 true (.load (some 2) (t 43))),
 mg 45 39 true 1,
 (g 46 39 true (.callv (t 40) [(t 44), (t 45)])),
 (g 47 39 true (.bin .eql (t 46) (k 0))),
 (o 48 (.pick (t 39) (t 47) ff)),
 m 6 35,
 m 7 48]))
 (.ret))))))
theorem h_slices_BinarySearchFunc___impl_Cell_impl_Cell_string_ : hF Tryz.prog n_slices_BinarySearchFunc___impl_Cell_impl_Cell_string_ = some c_slices_BinarySearchFunc___impl_Cell_impl_Cell_string_.strip := by kernel_rfl
theorem r_slices_BinarySearchFunc___impl_Cell_impl_Cell_string_ : rF Tryz.prog n_slices_BinarySearchFunc___impl_Cell_impl_Cell_string_ = some ([.tmp 6, .tmp 7], 49) := by kernel_rfl
end Go.Proofs.Wb

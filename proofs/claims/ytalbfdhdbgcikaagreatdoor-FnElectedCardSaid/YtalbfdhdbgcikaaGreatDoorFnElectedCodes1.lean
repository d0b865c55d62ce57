import Derived.Test.YtalbfdhdbgcikaaGreatDoorProg
import Derived.Test.YtalbfdhdbgcikaaGreatDoorAmAuto
import Derived.Test.YtalbfdhdbgcikaaGreatDoorAmRaw
namespace Go.Proofs.Wb
open Go Go.Am Go.Am.K
abbrev n_slices_Insert___impl_Letter_impl_Letter_ : Nat := 165
def c_slices_Insert___impl_Letter_impl_Letter_ : AS :=
 .seq (.ops [o 6 (.mv (.const (.slice none 0 0)))])
 (.seq (.ops [m 10 0,
 m 11 1,
 (o 12 (.sls 4 (t 10) (some (t 11)) none none))])
 (.seq (.ops [m 13 2,
 (o 14 (.lens (t 13))),
 m 7 14])
 (.seq (.seq (.ops [m 15 7,
 (o 16 (.bin .eql (t 15) (k 0)))])
 (.cond (t 16) (.seq (.post [(6, 0, [])] (.ops [m 17 0,
 m 6 17]))
 (.ret)) (.skip)))
 (.seq (.ops [m 18 0,
 (o 19 (.lens (t 18))),
 m 8 19])
 (.seq (.seq (.ops [m 20 1,
 m 21 8,
 (o 22 (.bin .eql (t 20) (t 21)))])
 (.cond (t 22) (.seq (.post [(6, 0, [])] (.ops [m 23 0,
 m 24 2,
 (o 25 (.app 4 40 (.agg #[.int .i64 0, .int .i64 0, .int .i64 0, .string ⟨⟨[]⟩⟩]) (t 23) (t 24))),
 m 6 25]))
 (.ret)) (.skip)))
 (.kept [0, 1, 2, 7, 8] (.seq (.seq (.ops [m 26 8,
 m 27 7,
 (o 28 (.bin .add (t 26) (t 27))),
 m 29 0,
 (o 30 (.capo (t 29))),
 (o 31 (.bin .gtr (t 28) (t 30)))])
 (.cond (t 31) (.seq (.ops [m 32 0,
 m 33 1,
 (o 34 (.sls 4 (t 32) none (some (t 33)) none)),
 m 35 8,
 m 36 7,
 (o 37 (.bin .add (t 35) (t 36))),
 m 38 1,
 (o 39 (.bin .sub (t 37) (t 38))),
 (o 40 (.apz 4 40 (.agg #[.int .i64 0, .int .i64 0, .int .i64 0, .string ⟨⟨[]⟩⟩]) (t 34) (t 39))),
 m 9 40])
 (.kept [0, 1, 2, 7, 9] (.seq (.ops [m 41 9,
 m 42 1,
 (o 43 (.sls 4 (t 41) (some (t 42)) none none)),
 m 44 2,
 (o 45 (.cpy 4 (t 43) (t 44)))])
 (.seq (.rops [(none, m 46 9),
 (none, m 47 1),
 (none, m 48 7),
 (none, o 49 (.bin .add (t 47) (t 48))),
 (none, o 50 (.sls 4 (t 46) (some (t 49)) none none)),
 (none, m 51 0),
 (none, m 52 1),
 (none, o 53 (.sls 4 (t 51) (some (t 52)) none none)),
 (some [], o 54 (.cpy 4 (t 50) (t 53)))])
 (.kept [9] (.seq (.post [(6, 0, [])] (.ops [m 55 9,
 m 6 55]))
 (.ret))))))) (.skip)))
 (.kept [0, 1, 2, 7, 8] (.seq (.ops [m 56 0,
 m 57 8,
 m 58 7,
 (o 59 (.bin .add (t 57) (t 58))),
 (o 60 (.sls 4 (t 56) none (some (t 59)) none)),
 m 0 60])
 (.seq (.seq (.ops [m 61 2,
 m 62 0,
 m 63 1,
 m 64 7,
 (o 65 (.bin .add (t 63) (t 64))),
 (o 66 (.sls 4 (t 62) (some (t 65)) none none)),
 (o 67 (.xcall 178 [(t 61), (t 66)])),
 (o 68 (.not (t 67)))])
 (.kept [0, 1, 2, 7, 8, 68] (.cond (t 68) (.seq (.rops [(none, m 69 0),
 (none, m 70 1),
 (none, m 71 7),
 (none, o 72 (.bin .add (t 70) (t 71))),
 (none, o 73 (.sls 4 (t 69) (some (t 72)) none none)),
 (none, m 74 0),
 (none, m 75 1),
 (none, o 76 (.sls 4 (t 74) (some (t 75)) none none)),
 (some [], o 77 (.cpy 4 (t 73) (t 76)))])
 (.kept [0, 1, 2] (.seq (.ops [m 78 0,
 m 79 1,
 (o 80 (.sls 4 (t 78) (some (t 79)) none none)),
 m 81 2,
 (o 82 (.cpy 4 (t 80) (t 81)))])
 (.seq (.post [(6, 0, [])] (.ops [m 83 0,
 m 6 83]))
 (.ret))))) (.skip))))
 (.kept [0, 1, 2, 7, 8] (.seq (.ops [m 84 0,
 m 85 8,
 (o 86 (.sls 4 (t 84) (some (t 85)) none none)),
 m 87 2,
 (o 88 (.cpy 4 (t 86) (t 87)))])
 (.seq (.ops [m 89 0,
 m 90 1,
 (o 91 (.sls 4 (t 89) (some (t 90)) none none)),
 m 92 7,
 (o 93 (.call 179 [(t 91), (t 92)]))])
 (.seq (.post [(6, 0, [])] (.ops [m 94 0,
 m 6 94]))
 (.ret)))))))))))))))
theorem h_slices_Insert___impl_Letter_impl_Letter_ : hF Tryz.prog n_slices_Insert___impl_Letter_impl_Letter_ = some c_slices_Insert___impl_Letter_impl_Letter_.strip := by kernel_rfl
theorem r_slices_Insert___impl_Letter_impl_Letter_ : rF Tryz.prog n_slices_Insert___impl_Letter_impl_Letter_ = some ([.tmp 6], 95) := by kernel_rfl
abbrev n_slices_IndexFunc___int_int_ : Nat := 170
def c_slices_IndexFunc___int_int__l1 : AS :=
 .seq (.ops [o 9 (.bin .lss (t 8) (t 7))])
 (.seq (.cond (t 9) (.skip) (.exit 0))
 (.seq (.block 1 (.seq (.ops [m 10 8,
 m 5 10])
 (.seq (.ops [m 11 1,
 m 12 0,
 m 13 5,
 (o 14 (.ia 1 (t 12) (t 13))),
 (o 15 (.load none (t 14))),
 (o 16 (.callv (t 11) [(t 15)]))])
 (.cond (t 16) (.seq (.ops [m 17 5,
 m 4 17])
 (.ret)) (.skip)))))
 (.kept [0, 1, 7, 8] (.ops [o 18 (.bin .add (t 8) (k 1)),
 m 8 18]))))
def c_slices_IndexFunc___int_int_ : AS :=
 .seq (.ops [o 4 (.mv (k 0))])
 (.seq (.seq (.ops [m 6 0,
 (o 7 (.lens (t 6))),
 (o 8 (.mv (k 0)))])
 (.block 0 (.loop 2 [(0, 0), (1, 0), (7, 0), (8, 0)] c_slices_IndexFunc___int_int__l1)))
 (.kept [] (.seq (.ops [o 4 (.mv (k (-1)))])
 (.ret))))
theorem h_slices_IndexFunc___int_int_ : hF Tryz.prog n_slices_IndexFunc___int_int_ = some c_slices_IndexFunc___int_int_.strip := by kernel_rfl
theorem r_slices_IndexFunc___int_int_ : rF Tryz.prog n_slices_IndexFunc___int_int_ = some ([.tmp 4], 19) := by kernel_rfl
abbrev n_cmp_isNaN_int_ : Nat := 176
def c_cmp_isNaN_int_ : AS :=
 .seq (.ops [o 2 (.mv ff)])
 (.seq (.ops [m 3 0,
 m 4 0,
 (o 5 (.bin .neq (t 3) (t 4))),
 m 2 5])
 (.ret))
theorem h_cmp_isNaN_int_ : hF Tryz.prog n_cmp_isNaN_int_ = some c_cmp_isNaN_int_.strip := by kernel_rfl
theorem r_cmp_isNaN_int_ : rF Tryz.prog n_cmp_isNaN_int_ = some ([.tmp 2], 6) := by kernel_rfl
abbrev n_slices_overlaps_impl_Letter_ : Nat := 178
theorem d_slices_overlaps_impl_Letter_ : Tryz.prog.funcs[n_slices_overlaps_impl_Letter_]? = some Tryz.f178 := by kernel_rfl
theorem x_slices_overlaps_impl_Letter_ (vs : Array Value) (w : Go.World) : (callFunc n_slices_overlaps_impl_Letter_ vs).run Tryz.prog w = ((Extern.SlicesOverlaps.overlaps #[32, 32] #[4] vs).run Tryz.prog w).andThen fun v w' => .ok (.value v) w' := run_callFunc_extern (e := Extern.SlicesOverlaps.overlaps #[32, 32] #[4]) d_slices_overlaps_impl_Letter_ (by kernel_rfl) (by kernel_rfl) (by kernel_rfl) (by kernel_rfl) vs w
theorem u_slices_overlaps_impl_Letter_ : Tryz.prog.underlying 32 = some (.slice 93) := by kernel_rfl
theorem wd_slices_overlaps_impl_Letter_ : width Tryz.prog 93 = some 4 := by kernel_rfl
end Go.Proofs.Wb

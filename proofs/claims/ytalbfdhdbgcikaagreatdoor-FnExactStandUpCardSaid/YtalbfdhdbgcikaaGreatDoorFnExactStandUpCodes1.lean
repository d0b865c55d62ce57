import Derived.Test.YtalbfdhdbgcikaaGreatDoorProg
import Derived.Test.YtalbfdhdbgcikaaGreatDoorAmAuto
import Derived.Test.YtalbfdhdbgcikaaGreatDoorAmRaw
namespace Go.Proofs.Wb
open Go Go.Am Go.Am.K
abbrev n_slices_overlaps_impl_Letter_ : Nat := 178
theorem d_slices_overlaps_impl_Letter_ : Tryz.prog.funcs[n_slices_overlaps_impl_Letter_]? = some Tryz.f178 := by kernel_rfl
theorem x_slices_overlaps_impl_Letter_ (vs : Array Value) (w : Go.World) : (callFunc n_slices_overlaps_impl_Letter_ vs).run Tryz.prog w = ((Extern.SlicesOverlaps.overlaps #[32, 32] #[4] vs).run Tryz.prog w).andThen fun v w' => .ok (.value v) w' := run_callFunc_extern (e := Extern.SlicesOverlaps.overlaps #[32, 32] #[4]) d_slices_overlaps_impl_Letter_ (by kernel_rfl) (by kernel_rfl) (by kernel_rfl) (by kernel_rfl) vs w
theorem u_slices_overlaps_impl_Letter_ : Tryz.prog.underlying 32 = some (.slice 93) := by kernel_rfl
theorem wd_slices_overlaps_impl_Letter_ : width Tryz.prog 93 = some 4 := by kernel_rfl
end Go.Proofs.Wb

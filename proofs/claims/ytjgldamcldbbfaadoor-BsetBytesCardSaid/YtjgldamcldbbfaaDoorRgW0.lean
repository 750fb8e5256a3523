/- Each function computes what its plain text says: printed by a program of ours. -/
import Derived.Test.YtjgldamcldbbfaaDoorRgP
import Derived.Test.YtjgldamcldbbfaaDoorProg
import Derived.KernelRfl
namespace Go.Rv
open Go.Proofs
set_option maxRecDepth 100000
set_option maxHeartbeats 4000000
set_option linter.unusedVariables false

theorem TrydMixed : Tryd.prog.follows .mixedOrders = true := by kernel_rfl
theorem i5 : EInfo Tryd.prog 5 (.int .u8 0) 1 1 := EInfo.mk' (by kernel_rfl)

theorem i22 : EInfo Tryd.prog 22 (.int .u64 0) 1 8 := EInfo.mk' (by kernel_rfl)

theorem i24 : EInfo Tryd.prog 24 (.agg #[.int .u64 0, .int .u64 0, .int .u64 0, .int .u64 0]) 4 32 := EInfo.mk' (by kernel_rfl)

theorem i34 : EInfo Tryd.prog 34 (.agg #[.int .u8 0, .int .u8 0]) 2 2 := EInfo.mk' (by kernel_rfl)

end Go.Rv

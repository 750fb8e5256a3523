/- Each function computes what its plain text says: printed by a program of ours. -/
import Derived.Test.YtnedpcjnhkmikaaRgP
import Derived.Test.YtnedpcjnhkmikaaProg
import Derived.KernelRfl
namespace Go.Rv
open Go.Proofs
set_option maxRecDepth 100000
set_option linter.unusedVariables false

theorem TryMixed : Try.prog.follows .mixedOrders = true := by kernel_rfl
theorem i3 : EInfo Try.prog 3 (.int .i64 0) 1 8 := EInfo.mk' (by kernel_rfl)

theorem i5 : EInfo Try.prog 5 (.int .u8 0) 1 1 := EInfo.mk' (by kernel_rfl)

theorem i23 : EInfo Try.prog 23 (.agg #[.int .i64 0, .int .i64 0]) 2 16 := EInfo.mk' (by kernel_rfl)

theorem i24 : EInfo Try.prog 24 (.slice none 0 0) 1 24 := EInfo.mk' (by kernel_rfl)

end Go.Rv

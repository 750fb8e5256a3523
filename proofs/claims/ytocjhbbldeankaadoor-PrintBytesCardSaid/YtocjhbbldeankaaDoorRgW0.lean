/- Each function computes what its plain text says: printed by a program of ours. -/
import Derived.Test.YtocjhbbldeankaaDoorRgP
import Derived.Test.YtocjhbbldeankaaDoorProg
import Derived.KernelRfl
namespace Go.Rv
open Go.Proofs
set_option maxRecDepth 100000
set_option maxHeartbeats 4000000
set_option linter.unusedVariables false

theorem TrydMixed : Tryd.prog.follows .mixedOrders = true := by kernel_rfl
theorem i3 : EInfo Tryd.prog 3 (.int .i64 0) 1 8 := EInfo.mk' (by kernel_rfl)

theorem i5 : EInfo Tryd.prog 5 (.int .u8 0) 1 1 := EInfo.mk' (by kernel_rfl)

theorem i9 : EInfo Tryd.prog 9 (.string ⟨#[]⟩) 1 16 := EInfo.mk' (by kernel_rfl)

theorem i22 : EInfo Tryd.prog 22 (.slice none 0 0) 1 24 := EInfo.mk' (by kernel_rfl)

theorem i23 : EInfo Tryd.prog 23 (.int .u64 0) 1 8 := EInfo.mk' (by kernel_rfl)

theorem i25 : EInfo Tryd.prog 25 (.agg #[.int .u64 0, .int .u64 0, .int .u64 0, .int .u64 0]) 4 32 := EInfo.mk' (by kernel_rfl)

theorem i32 : EInfo Tryd.prog 32 (.slice none 0 0) 1 24 := EInfo.mk' (by kernel_rfl)

theorem i35 : EInfo Tryd.prog 35 (.int .i64 0) 1 8 := EInfo.mk' (by kernel_rfl)

theorem i40 : EInfo Tryd.prog 40 (.slice none 0 0) 1 24 := EInfo.mk' (by kernel_rfl)

theorem i42 : EInfo Tryd.prog 42 (.agg #[.int .u8 0, .int .u64 0, .int .u64 0, .int .u64 0, .int .u64 0, .slice none 0 0, .int .i64 0, .int .i64 0, .string ⟨#[]⟩]) 9 96 := EInfo.mk' (by kernel_rfl)

theorem i56 : EInfo Tryd.prog 56 (.agg #[.int .u8 0, .int .u8 0]) 2 2 := EInfo.mk' (by kernel_rfl)

theorem i59 : EInfo Tryd.prog 59 (.pointer none) 1 8 := EInfo.mk' (by kernel_rfl)

theorem i61 : EInfo Tryd.prog 61 (.agg #[.pointer none, .slice none 0 0]) 2 32 := EInfo.mk' (by kernel_rfl)

theorem i80 : EInfo Tryd.prog 80 (.agg #[.int .i64 0, .int .i64 0]) 2 16 := EInfo.mk' (by kernel_rfl)

theorem i88 : EInfo Tryd.prog 88 (.agg #[.string ⟨#[]⟩, .int .i64 0, .slice none 0 0, .int .i64 0, .int .i64 0, .int .i64 0]) 6 72 := EInfo.mk' (by kernel_rfl)

theorem i94 : EInfo Tryd.prog 94 (.agg #[.int .u8 0, .int .u8 0, .int .u8 0, .int .u8 0, .int .u8 0, .int .u8 0, .int .u8 0, .int .u8 0, .int .u8 0, .int .u8 0, .int .u8 0, .int .u8 0, .int .u8 0, .int .u8 0, .int .u8 0, .int .u8 0, .int .u8 0, .int .u8 0, .int .u8 0, .int .u8 0, .int .u8 0, .int .u8 0, .int .u8 0, .int .u8 0]) 24 24 := EInfo.mk' (by kernel_rfl)

theorem i107 : EInfo Tryd.prog 107 (.agg #[.int .u8 0, .int .u8 0, .int .u8 0, .int .u8 0, .int .u8 0, .int .u8 0, .int .u8 0, .int .u8 0, .int .u8 0, .int .u8 0, .int .u8 0, .int .u8 0, .int .u8 0, .int .u8 0, .int .u8 0, .int .u8 0, .int .u8 0, .int .u8 0, .int .u8 0, .int .u8 0, .int .u8 0, .int .u8 0, .int .u8 0, .int .u8 0, .int .u8 0, .int .u8 0, .int .u8 0, .int .u8 0, .int .u8 0, .int .u8 0, .int .u8 0, .int .u8 0, .int .u8 0, .int .u8 0, .int .u8 0, .int .u8 0, .int .u8 0, .int .u8 0, .int .u8 0, .int .u8 0, .int .u8 0, .int .u8 0, .int .u8 0, .int .u8 0, .int .u8 0, .int .u8 0, .int .u8 0, .int .u8 0, .int .u8 0, .int .u8 0, .int .u8 0, .int .u8 0, .int .u8 0, .int .u8 0, .int .u8 0, .int .u8 0, .int .u8 0, .int .u8 0, .int .u8 0, .int .u8 0, .int .u8 0, .int .u8 0, .int .u8 0, .int .u8 0, .int .u8 0]) 65 65 := EInfo.mk' (by kernel_rfl)

abbrev r4r_alternative_S (f : r4r → Option (Int × r4r)) : Prop := ∀ (x0 : r4r) (bx0 : Nat) (wx0c2 : Value) (r : Int × r4r), f x0 = some r → CallG Tryd.prog 48 [.ptr bx0 0] [.box bx0 88 [.d (.str x0.s), .d (.int .i64 x0.at_), .d (.ex wx0c2), .d (.int .i64 x0.deep), .d (.int .i64 x0.e), .d (.int .i64 x0.where_)], .arrA wx0c2 42 9 (x0.nodes.map c_api_Node)] (fun γ => (.int .i64 r.1)) (fun γ => [.box bx0 88 [.d (.str r.2.s), .d (.int .i64 r.2.at_), .d (.ex (γ 0)), .d (.int .i64 r.2.deep), .d (.int .i64 r.2.e), .d (.int .i64 r.2.where_)], .arrA (γ 0) 42 9 (r.2.nodes.map c_api_Node)])

end Go.Rv

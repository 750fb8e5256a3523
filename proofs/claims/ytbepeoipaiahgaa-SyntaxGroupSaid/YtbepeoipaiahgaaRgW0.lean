/- Each function computes what its plain text says: printed by a program of ours. -/
import Derived.Test.YtbepeoipaiahgaaRgP
import Derived.Test.YtbepeoipaiahgaaProg
import Derived.KernelRfl
namespace Go.Rv
open Go.Proofs
set_option maxRecDepth 100000
set_option maxHeartbeats 4000000
set_option linter.unusedVariables false

theorem TryMixed : Try.prog.follows .mixedOrders = true := by kernel_rfl
theorem i3 : EInfo Try.prog 3 (.int .i64 0) 1 8 := EInfo.mk' (by kernel_rfl)

theorem i5 : EInfo Try.prog 5 (.int .u8 0) 1 1 := EInfo.mk' (by kernel_rfl)

theorem i9 : EInfo Try.prog 9 (.string ⟨#[]⟩) 1 16 := EInfo.mk' (by kernel_rfl)

theorem i23 : EInfo Try.prog 23 (.slice none 0 0) 1 24 := EInfo.mk' (by kernel_rfl)

theorem i24 : EInfo Try.prog 24 (.int .i64 0) 1 8 := EInfo.mk' (by kernel_rfl)

theorem i31 : EInfo Try.prog 31 (.int .u64 0) 1 8 := EInfo.mk' (by kernel_rfl)

theorem i33 : EInfo Try.prog 33 (.agg #[.int .u64 0, .int .u64 0, .int .u64 0, .int .u64 0]) 4 32 := EInfo.mk' (by kernel_rfl)

theorem i34 : EInfo Try.prog 34 (.slice none 0 0) 1 24 := EInfo.mk' (by kernel_rfl)

theorem i36 : EInfo Try.prog 36 (.agg #[.int .u8 0, .int .u64 0, .int .u64 0, .int .u64 0, .int .u64 0, .slice none 0 0, .int .i64 0, .int .i64 0, .string ⟨#[]⟩]) 9 96 := EInfo.mk' (by kernel_rfl)

theorem i45 : EInfo Try.prog 45 (.agg #[.string ⟨#[]⟩, .int .i64 0, .int .i64 0, .int .i64 0]) 4 40 := EInfo.mk' (by kernel_rfl)

theorem i47 : EInfo Try.prog 47 (.agg #[.string ⟨#[]⟩, .int .i64 0, .int .i64 0, .int .i64 0, .slice none 0 0, .int .i64 0]) 6 72 := EInfo.mk' (by kernel_rfl)

abbrev syntax_parser_alternative_S (f : syntax_parser → Option (Int × syntax_parser)) : Prop := ∀ (x0 : syntax_parser) (bx0 : Nat) (wx0c1 : Value) (r : Int × syntax_parser), f x0 = some r → CallG Try.prog 18 [.ptr bx0 0] [.box bx0 47 [.d (.str x0.reader.s), .d (.int .i64 x0.reader.at_), .d (.int .i64 x0.reader.where_), .d (.int .i64 x0.reader.e), .d (.ex wx0c1), .d (.int .i64 x0.deep)], .arrA wx0c1 36 9 (x0.nodes.map c_api_Node)] (fun γ => (.int .i64 r.1)) (fun γ => [.box bx0 47 [.d (.str r.2.reader.s), .d (.int .i64 r.2.reader.at_), .d (.int .i64 r.2.reader.where_), .d (.int .i64 r.2.reader.e), .d (.ex (γ 0)), .d (.int .i64 r.2.deep)], .arrA (γ 0) 36 9 (r.2.nodes.map c_api_Node)])

end Go.Rv

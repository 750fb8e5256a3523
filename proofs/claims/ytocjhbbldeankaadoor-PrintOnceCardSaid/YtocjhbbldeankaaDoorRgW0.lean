/- Each function computes what its plain text says: printed by a program of ours. -/
import Derived.Test.YtocjhbbldeankaaDoorRgP
import Derived.Test.YtocjhbbldeankaaDoorProg
import Derived.KernelRfl
namespace Go.Rv
open Go.Proofs
set_option maxRecDepth 100000
set_option maxHeartbeats 4000000
set_option linter.unusedVariables false
abbrev wI (x : Int) : Int := IntKind.i64.wrap x
abbrev u0 : (Nat → Value) × Nat := (fun _ => undef, 0)
theorem dk {o : Oper} {d N : Nat} (e : (o.dst, Nat.blt d N) = (some d, true)) : ∀ d', o.dst = some d' → d' < N := by
  simp only [Prod.mk.injEq] at e
  exact dl e.1 e.2
theorem nb {n m : Nat} (h : Nat.ble n m = true) : n ≤ m := Nat.le_of_ble_eq_true h
theorem mw {P : Program} {N : Nat} {s : St} {Q : Exit → St → Prop} {ops : Array Oper} {o : Oper} {l : List Oper} {d : Nat} {x : Operand} {v : AV} (e : (o.op, o.guard, o.dst, Nat.blt d N, s.ev x) = (.move x, none, some d, true, some v)) (h : TL' P N ops l (s.put d v) Q) : TL' P N ops (o :: l) s Q := by
  simp only [Prod.mk.injEq] at e
  exact mv e.2.2.2.2 e.1 e.2.1 e.2.2.1 e.2.2.2.1 h
theorem aw {P : Program} {N : Nat} {s : St} {Q : Exit → St → Prop} {ops : Array Oper} {o : Oper} {l : List Oper} {d : Nat} {x : Operand} {v : AV} (e : (o.op, o.guard, o.dst, Nat.blt d N, s.ev x) = (.assign x, none, some d, true, some v)) (h : TL' P N ops l (s.put d v) Q) : TL' P N ops (o :: l) s Q := by
  simp only [Prod.mk.injEq] at e
  exact asg e.2.2.2.2 e.1 e.2.1 e.2.2.1 e.2.2.2.1 h
abbrev ul3 := Tryd.underlying3
abbrev ul5 := Tryd.underlying5
abbrev ul9 := Tryd.underlying9
abbrev ul21 := Tryd.underlying21
abbrev ul22 := Tryd.underlying22
abbrev ul23 := Tryd.underlying23
abbrev ul25 := Tryd.underlying25
abbrev ul32 := Tryd.underlying32
abbrev ul35 := Tryd.underlying35
abbrev ul40 := Tryd.underlying40
abbrev ul42 := Tryd.underlying42
abbrev ul47 := Tryd.underlying47
abbrev ul53 := Tryd.underlying53
abbrev ul54 := Tryd.underlying54
abbrev ul56 := Tryd.underlying56
abbrev ul59 := Tryd.underlying59
abbrev ul61 := Tryd.underlying61
abbrev ul72 := Tryd.underlying72
abbrev ul74 := Tryd.underlying74
abbrev ul80 := Tryd.underlying80
abbrev ul88 := Tryd.underlying88
abbrev ul99 := Tryd.underlying99
abbrev ul110 := Tryd.underlying110
abbrev ul123 := Tryd.underlying123
abbrev o88 (b : Nat) (x0 : ByteArray) (x1 : Int) (x2 : Value) (x3 : Int) (x4 : Int) (x5 : Int) : Ob := .box b 88 [.d (.str x0), .d (.int .i64 x1), .d (.ex x2), .d (.int .i64 x3), .d (.int .i64 x4), .d (.int .i64 x5)]
abbrev o74 (b : Nat) (x0 : ByteArray) (x1 : Int) (x2 : Int) (x3 : Int) (x4 : Value) (x5 : Int) : Ob := .box b 74 [.d (.str x0), .d (.int .i64 x1), .d (.int .i64 x2), .d (.int .i64 x3), .d (.ex x4), .d (.int .i64 x5)]
theorem TrydMixed : Tryd.prog.follows .mixedOrders = true := by kernel_rfl
theorem i3 : EInfo Tryd.prog 3 (.int .i64 0) 1 8 := EInfo.mk' (by kernel_rfl)
theorem i5 : EInfo Tryd.prog 5 (.int .u8 0) 1 1 := EInfo.mk' (by kernel_rfl)
theorem i9 : EInfo Tryd.prog 9 (.string ⟨#[]⟩) 1 16 := EInfo.mk' (by kernel_rfl)
theorem i22 : EInfo Tryd.prog 22 (.slice none 0 0) 1 24 := EInfo.mk' (by kernel_rfl)
theorem i23 : EInfo Tryd.prog 23 (.int .u64 0) 1 8 := EInfo.mk' (by kernel_rfl)
theorem i25 : EInfo Tryd.prog 25 (.agg #[.int .u64 0, .int .u64 0, .int .u64 0, .int .u64 0]) 4 32 := EInfo.mk' (by kernel_rfl)
theorem i32 : EInfo Tryd.prog 32 (.slice none 0 0) 1 24 := EInfo.mk' (by kernel_rfl)
theorem i35 : EInfo Tryd.prog 35 (.int .i64 0) 1 8 := EInfo.mk' (by kernel_rfl)
theorem i40 : EInfo Tryd.prog 40 (.slice none 0 0) 1 24 := EInfo.mk' (by kernel_rfl)
theorem i42 : EInfo Tryd.prog 42 (.agg #[.int .u8 0, .int .u64 0, .int .u64 0, .int .u64 0, .int .u64 0, .slice none 0 0, .int .i64 0, .int .i64 0, .string ⟨#[]⟩]) 9 96 := EInfo.mk' (by kernel_rfl)
theorem i56 : EInfo Tryd.prog 56 (.agg #[.int .u8 0, .int .u8 0]) 2 2 := EInfo.mk' (by kernel_rfl)
theorem i59 : EInfo Tryd.prog 59 (.pointer none) 1 8 := EInfo.mk' (by kernel_rfl)
theorem i61 : EInfo Tryd.prog 61 (.agg #[.pointer none, .slice none 0 0]) 2 32 := EInfo.mk' (by kernel_rfl)
theorem i72 : EInfo Tryd.prog 72 (.agg #[.string ⟨#[]⟩, .int .i64 0, .int .i64 0, .int .i64 0]) 4 40 := EInfo.mk' (by kernel_rfl)
theorem i74 : EInfo Tryd.prog 74 (.agg #[.string ⟨#[]⟩, .int .i64 0, .int .i64 0, .int .i64 0, .slice none 0 0, .int .i64 0]) 6 72 := EInfo.mk' (by kernel_rfl)
theorem i80 : EInfo Tryd.prog 80 (.agg #[.int .i64 0, .int .i64 0]) 2 16 := EInfo.mk' (by kernel_rfl)
theorem i88 : EInfo Tryd.prog 88 (.agg #[.string ⟨#[]⟩, .int .i64 0, .slice none 0 0, .int .i64 0, .int .i64 0, .int .i64 0]) 6 72 := EInfo.mk' (by kernel_rfl)
theorem i94 : EInfo Tryd.prog 94 (.agg #[.int .u8 0, .int .u8 0, .int .u8 0, .int .u8 0, .int .u8 0, .int .u8 0, .int .u8 0, .int .u8 0, .int .u8 0, .int .u8 0, .int .u8 0, .int .u8 0, .int .u8 0, .int .u8 0, .int .u8 0, .int .u8 0, .int .u8 0, .int .u8 0, .int .u8 0, .int .u8 0, .int .u8 0, .int .u8 0, .int .u8 0, .int .u8 0]) 24 24 := EInfo.mk' (by kernel_rfl)
theorem i107 : EInfo Tryd.prog 107 (.agg #[.int .u8 0, .int .u8 0, .int .u8 0, .int .u8 0, .int .u8 0, .int .u8 0, .int .u8 0, .int .u8 0, .int .u8 0, .int .u8 0, .int .u8 0, .int .u8 0, .int .u8 0, .int .u8 0, .int .u8 0, .int .u8 0, .int .u8 0, .int .u8 0, .int .u8 0, .int .u8 0, .int .u8 0, .int .u8 0, .int .u8 0, .int .u8 0, .int .u8 0, .int .u8 0, .int .u8 0, .int .u8 0, .int .u8 0, .int .u8 0, .int .u8 0, .int .u8 0, .int .u8 0, .int .u8 0, .int .u8 0, .int .u8 0, .int .u8 0, .int .u8 0, .int .u8 0, .int .u8 0, .int .u8 0, .int .u8 0, .int .u8 0, .int .u8 0, .int .u8 0, .int .u8 0, .int .u8 0, .int .u8 0, .int .u8 0, .int .u8 0, .int .u8 0, .int .u8 0, .int .u8 0, .int .u8 0, .int .u8 0, .int .u8 0, .int .u8 0, .int .u8 0, .int .u8 0, .int .u8 0, .int .u8 0, .int .u8 0, .int .u8 0, .int .u8 0, .int .u8 0]) 65 65 := EInfo.mk' (by kernel_rfl)
abbrev r4r_alternative_S (f : r4r → Option (Int × r4r)) : Prop := ∀ (x0 : r4r) (bx0 : Nat) (wx0c2 : Value) (r : Int × r4r), f x0 = some r → CallG Tryd.prog 48 [.ptr bx0 0] [(o88 bx0 x0.s x0.at_ wx0c2 x0.deep x0.e x0.where_), .arrA wx0c2 42 9 (x0.nodes.map c_aNd)] (fun γ => (.int .i64 r.1)) (fun γ => [(o88 bx0 r.2.s r.2.at_ (γ 0) r.2.deep r.2.e r.2.where_), .arrA (γ 0) 42 9 (r.2.nodes.map c_aNd)])
abbrev syp_alternative_S (f : syp → Option (Int × syp)) : Prop := ∀ (x0 : syp) (bx0 : Nat) (wx0c1 : Value) (r : Int × syp), f x0 = some r → CallG Tryd.prog 38 [.ptr bx0 0] [(o74 bx0 x0.reader.s x0.reader.at_ x0.reader.where_ x0.reader.e wx0c1 x0.deep), .arrA wx0c1 42 9 (x0.nodes.map c_aNd)] (fun γ => (.int .i64 r.1)) (fun γ => [(o74 bx0 r.2.reader.s r.2.reader.at_ r.2.reader.where_ r.2.reader.e (γ 0) r.2.deep), .arrA (γ 0) 42 9 (r.2.nodes.map c_aNd)])
end Go.Rv

/- Each function computes what its plain text says: printed by a program of ours. -/
import Derived.Test.YtocjhbbldeankaaDoorRgW0
namespace Go.Rv
open Go.Proofs
set_option maxRecDepth 100000
set_option maxHeartbeats 4000000
set_option linter.unusedVariables false
abbrev r4r_ends_q (bx0 : Nat) (x0 : r4r) (r : Bool) : Exit → St → Prop := retS Tryd.prog Tryd.f49 (fun y t => ∃ γ : Nat → Value, y = (.bool r) ∧ t = [(o88 bx0 x0.s x0.at_ (γ 0) x0.deep x0.e x0.where_), .arrA (γ 0) 42 9 (x0.nodes.map c_aNd)])
theorem r4r_ends_T (K : Nat) {x0 : r4r} {bx0 : Nat} {wx0c2 : Value} {r : Bool} (h : r4r_ends K x0 = some r) : CallG Tryd.prog 49 [.ptr bx0 0] [(o88 bx0 x0.s x0.at_ wx0c2 x0.deep x0.e x0.where_), .arrA wx0c2 42 9 (x0.nodes.map c_aNd)] (fun γ => (.bool r)) (fun γ => [(o88 bx0 x0.s x0.at_ (γ 0) x0.deep x0.e x0.where_), .arrA (γ 0) 42 9 (x0.nodes.map c_aNd)]) := by
 refine CallT.intro Tryd.func49 rfl (nb rfl) ?_
 show T Tryd.prog 20 (Code.at [] (codeOf Tryd.f49)) ⟨paramSlots 0 [.ptr bx0 0], [(o88 bx0 x0.s x0.at_ wx0c2 x0.deep x0.e x0.where_), .arrA wx0c2 42 9 (x0.nodes.map c_aNd)]⟩ (r4r_ends_q bx0 x0 r)
 unfold r4r_ends at h
 refine T.seq ?_
 refine T.rL ?_
 refine aw rfl ?_
 refine TL'.nil (tN ?_)
 refine T.seq ?_
 refine DG.start ?_
 refine DG.mv rfl rfl rfl rfl rfl rfl ?_
 refine DG.step (c := ⟨some 4, .ptr bx0 0, [(3, .ptr bx0 0)], [], []⟩) (fun t hm => One.step rfl (.free rfl) (OpT.nilCheck rfl (dk rfl) hm.s0 rfl rfl)) (Ct.mo rfl rfl) ?_
 refine DG.step (c := ⟨some 5, .ptr bx0 (0 + 1), [(4, .ptr bx0 0)], [], []⟩) (fun t hm => One.step rfl (.free rfl) (OpT.fieldPtr rfl (dk rfl) ul88 rfl i3 (by decide) hm.s0 rfl)) (Ct.mo rfl rfl) ?_
 refine DG.step (c := ⟨some 6, .int .i64 x0.at_, [(5, .ptr bx0 (0 + 1))], [(0, (o88 bx0 x0.s x0.at_ wx0c2 x0.deep x0.e x0.where_))], []⟩) (fun t hm => One.step rfl (.free rfl) (OpT.loadBox (i := 0) rfl (dk rfl) ul3 rfl hm.s0 hm.o0 rfl rfl)) (Ct.mo rfl rfl) ?_
 refine DG.mv rfl rfl rfl rfl rfl rfl ?_
 refine DG.step (c := ⟨some 8, .ptr bx0 0, [(7, .ptr bx0 0)], [], []⟩) (fun t hm => One.step rfl (.free rfl) (OpT.nilCheck rfl (dk rfl) hm.s0 rfl rfl)) (Ct.mo rfl rfl) ?_
 refine DG.step (c := ⟨some 9, .ptr bx0 (0 + 0), [(8, .ptr bx0 0)], [], []⟩) (fun t hm => One.step rfl (.free rfl) (OpT.fieldPtr rfl (dk rfl) ul88 rfl i9 (by decide) hm.s0 rfl)) (Ct.mo rfl rfl) ?_
 refine DG.step (c := ⟨some 10, .str x0.s, [(9, .ptr bx0 (0 + 0))], [(0, (o88 bx0 x0.s x0.at_ wx0c2 x0.deep x0.e x0.where_))], []⟩) (fun t hm => One.step rfl (.free rfl) (OpT.loadBox (i := 0) rfl (dk rfl) ul9 rfl hm.s0 hm.o0 rfl rfl)) (Ct.mo rfl rfl) ?_
 refine DG.step (c := ⟨some 11, .int .i64 (x0.s.size : Int), [(10, .str x0.s)], [], []⟩) (fun t hm => One.step rfl (.free rfl) (OpT.lenStr rfl (dk rfl) ul9 hm.s0 rfl)) (Ct.mo rfl rfl) ?_
 refine DG.step (c := ⟨some 12, .bool (decide (x0.at_ ≥ (x0.s.size : Int))), [(6, .int .i64 x0.at_), (11, .int .i64 (x0.s.size : Int))], [], []⟩) (fun t hm => One.step rfl (.free rfl) (OpT.int2 rfl rfl (dk rfl) hm.s0 hm.s1 rfl)) (Ct.mo rfl rfl) ?_
 refine DG.mv rfl rfl rfl rfl rfl rfl ?_
 rcases bif_some h with ⟨c_15, h⟩ | ⟨c_15, h⟩
 refine DG.off c_15 rfl rfl rfl rfl rfl rfl ?_
 refine DG.off c_15 rfl rfl rfl rfl rfl rfl ?_
 refine DG.off c_15 rfl rfl rfl rfl rfl rfl ?_
 refine DG.off c_15 rfl rfl rfl rfl rfl rfl ?_
 refine DG.off c_15 rfl rfl rfl rfl rfl rfl ?_
 refine DG.step (c := ⟨some 19, .bool true, [(13, .bool (decide (x0.at_ ≥ (x0.s.size : Int))))], [], []⟩) (fun t hm => One.step rfl (.free rfl) (OpT.pickT rfl (dk rfl) hm.s0 c_15 rfl rfl)) (Ct.mo rfl rfl) ?_
 refine DG.step (c := ⟨some 2, .bool true, [(19, .bool true)], [], []⟩) (fun t hm => One.step rfl (.free rfl) (OpT.assign rfl (dk rfl) hm.s0 rfl)) (Ct.mo rfl rfl) ?_
 refine DG.fin (s1 := ⟨[(2, .bool true)], [(o88 bx0 x0.s x0.at_ wx0c2 x0.deep x0.e x0.where_), .arrA wx0c2 42 9 (x0.nodes.map c_aNd)]⟩) (ms := [0, 1, 3, 7, 0, 16, 48, 112, 240, 511, 1023, 2047, 4095, 8191, 16383, 32767, 65535, 131071]) TrydMixed rfl (by kernel_rfl) (by kernel_rfl) (by kernel_rfl) (.cons rfl (.nil _)) rfl (fun u hu => (tN (T.by_turn hu ?_)))
 refine T.ret ?_
 exact Fin.doneK (.cons _ _ _ _ (.tmp 2 _ rfl) .nil) (.cons 0 rfl (.cons 0 rfl (.nil _))) (by cases h; exact ⟨gl [wx0c2], rfl, rfl⟩)
 refine DG.step (c := ⟨some 14, .ptr bx0 0, [(0, .ptr bx0 0), (13, .bool (decide (x0.at_ ≥ (x0.s.size : Int))))], [], []⟩) (fun t hm => One.step rfl (.on rfl rfl hm.s1 c_15) (OpT.move rfl (dk rfl) hm.s0 rfl)) (Ct.mo rfl rfl) ?_
 refine DG.step (c := ⟨some 15, .ptr bx0 0, [(14, .ptr bx0 0), (13, .bool (decide (x0.at_ ≥ (x0.s.size : Int))))], [], []⟩) (fun t hm => One.step rfl (.on rfl rfl hm.s1 c_15) (OpT.nilCheck rfl (dk rfl) hm.s0 rfl rfl)) (Ct.mo rfl rfl) ?_
 refine DG.step (c := ⟨some 16, .ptr bx0 (0 + 4), [(15, .ptr bx0 0), (13, .bool (decide (x0.at_ ≥ (x0.s.size : Int))))], [], []⟩) (fun t hm => One.step rfl (.on rfl rfl hm.s1 c_15) (OpT.fieldPtr rfl (dk rfl) ul88 rfl i35 (by decide) hm.s0 rfl)) (Ct.mo rfl rfl) ?_
 refine DG.step (c := ⟨some 17, .int .i64 x0.e, [(16, .ptr bx0 (0 + 4)), (13, .bool (decide (x0.at_ ≥ (x0.s.size : Int))))], [(0, (o88 bx0 x0.s x0.at_ wx0c2 x0.deep x0.e x0.where_))], []⟩) (fun t hm => One.step rfl (.on rfl rfl hm.s1 c_15) (OpT.loadBox (i := 0) rfl (dk rfl) ul35 rfl hm.s0 hm.o0 rfl rfl)) (Ct.mo rfl rfl) ?_
 refine DG.step (c := ⟨some 18, .bool (x0.e != (0 : Int)), [(17, .int .i64 x0.e), (13, .bool (decide (x0.at_ ≥ (x0.s.size : Int))))], [], []⟩) (fun t hm => One.step rfl (.on rfl rfl hm.s1 c_15) (OpT.int2 rfl rfl (dk rfl) hm.s0 rfl rfl)) (Ct.mo rfl rfl) ?_
 refine DG.step (c := ⟨some 19, .bool (x0.e != (0 : Int)), [(13, .bool (decide (x0.at_ ≥ (x0.s.size : Int)))), (18, .bool (x0.e != (0 : Int)))], [], []⟩) (fun t hm => One.step rfl (.free rfl) (OpT.pickF rfl (dk rfl) hm.s0 c_15 hm.s1 rfl)) (Ct.mo rfl rfl) ?_
 refine DG.step (c := ⟨some 2, .bool (x0.e != (0 : Int)), [(19, .bool (x0.e != (0 : Int)))], [], []⟩) (fun t hm => One.step rfl (.free rfl) (OpT.assign rfl (dk rfl) hm.s0 rfl)) (Ct.mo rfl rfl) ?_
 refine DG.fin (s1 := ⟨[(2, .bool (x0.e != (0 : Int)))], [(o88 bx0 x0.s x0.at_ wx0c2 x0.deep x0.e x0.where_), .arrA wx0c2 42 9 (x0.nodes.map c_aNd)]⟩) (ms := [0, 1, 3, 7, 0, 16, 48, 112, 240, 511, 1023, 2047, 4095, 8191, 16383, 32767, 65535, 131071]) TrydMixed rfl (by kernel_rfl) (by kernel_rfl) (by kernel_rfl) (.cons rfl (.nil _)) rfl (fun u hu => (tN (T.by_turn hu ?_)))
 refine T.ret ?_
 exact Fin.doneK (.cons _ _ _ _ (.tmp 2 _ rfl) .nil) (.cons 0 rfl (.cons 0 rfl (.nil _))) (by cases h; exact ⟨gl [wx0c2], rfl, rfl⟩)
abbrev r4r_put_q (bx0 : Nat) (r : Int × r4r) : Exit → St → Prop := retS Tryd.prog Tryd.f65 (fun y t => ∃ γ : Nat → Value, y = (.int .i64 r.1) ∧ t = [(o88 bx0 r.2.s r.2.at_ (γ 0) r.2.deep r.2.e r.2.where_), .arrA (γ 0) 42 9 (r.2.nodes.map c_aNd)])
theorem r4r_put_T (K : Nat) {x0 : r4r} {x1 : aNd} {bx0 : Nat} {wx0c2 : Value} {r : Int × r4r} (h : r4r_put K x0 x1 = some r) : CallG Tryd.prog 65 [.ptr bx0 0, .agg [.int .u8 x1.Op, .int .u64 x1.S.a0, .int .u64 x1.S.a1, .int .u64 x1.S.a2, .int .u64 x1.S.a3, .sl false 1 (x1.L.map (cI .i64)), .int .i64 x1.Lo, .int .i64 x1.Hi, .str x1.Name]] [(o88 bx0 x0.s x0.at_ wx0c2 x0.deep x0.e x0.where_), .arrA wx0c2 42 9 (x0.nodes.map c_aNd)] (fun γ => (.int .i64 r.1)) (fun γ => [(o88 bx0 r.2.s r.2.at_ (γ 0) r.2.deep r.2.e r.2.where_), .arrA (γ 0) 42 9 (r.2.nodes.map c_aNd)]) := by
 refine CallT.intro Tryd.func65 rfl (nb rfl) ?_
 show T Tryd.prog 21 (Code.at [] (codeOf Tryd.f65)) ⟨paramSlots 0 [.ptr bx0 0, .agg [.int .u8 x1.Op, .int .u64 x1.S.a0, .int .u64 x1.S.a1, .int .u64 x1.S.a2, .int .u64 x1.S.a3, .sl false 1 (x1.L.map (cI .i64)), .int .i64 x1.Lo, .int .i64 x1.Hi, .str x1.Name]], [(o88 bx0 x0.s x0.at_ wx0c2 x0.deep x0.e x0.where_), .arrA wx0c2 42 9 (x0.nodes.map c_aNd)]⟩ (r4r_put_q bx0 r)
 unfold r4r_put at h
 refine T.seq ?_
 refine T.rL ?_
 refine sp rfl (OpT.boxAgg rfl (dk rfl) rfl (fun b_16 => ?_))
 refine aw rfl ?_
 refine TL'.nil (tN ?_)
 refine T.seq ?_
 refine T.by_turn Turn.keepPlace ?_
 refine DGG.start ?_
 refine DGG.step (c := fun γ_17 => ⟨some 5, .ptr bx0 0, [(0, .ptr bx0 0)], [], []⟩) [] (fun _ _ _ => rfl) (fun γ_17 t hm => One.step rfl (.free rfl) (OpT.move rfl (dk rfl) hm.s0 ⟨(fun _ => undef, 0), rfl⟩)) (fun γ_17 => Ct.mo rfl rfl) ?_
 refine DGG.step (c := fun γ_17 => ⟨some 6, .ptr bx0 0, [(0, .ptr bx0 0)], [], []⟩) [] (fun _ _ _ => rfl) (fun γ_17 t hm => One.step rfl (.free rfl) (OpT.move rfl (dk rfl) hm.s0 ⟨(fun _ => undef, 0), rfl⟩)) (fun γ_17 => Ct.mo rfl rfl) ?_
 refine DGG.step (c := fun γ_17 => ⟨some 7, .ptr bx0 0, [(6, .ptr bx0 0)], [], []⟩) [] (fun _ _ _ => rfl) (fun γ_17 t hm => One.step rfl (.free rfl) (OpT.nilCheck rfl (dk rfl) hm.s0 rfl ⟨(fun _ => undef, 0), rfl⟩)) (fun γ_17 => Ct.mo rfl rfl) ?_
 refine DGG.step (c := fun γ_17 => ⟨some 8, .ptr bx0 (0 + 2), [(7, .ptr bx0 0)], [], []⟩) [] (fun _ _ _ => rfl) (fun γ_17 t hm => One.step rfl (.free rfl) (OpT.fieldPtr rfl (dk rfl) ul88 rfl i22 (by decide) hm.s0 ⟨(fun _ => undef, 0), rfl⟩)) (fun γ_17 => Ct.mo rfl rfl) ?_
 refine DGG.step (c := fun γ_17 => ⟨some 9, .c (.ex wx0c2), [(8, .ptr bx0 (0 + 2))], [(2, (o88 bx0 x0.s x0.at_ wx0c2 x0.deep x0.e x0.where_))], []⟩) [] (fun _ _ _ => rfl) (fun γ_17 t hm => One.step rfl (.free rfl) (OpT.loadBox (i := 2) rfl (dk rfl) ul22 rfl hm.s0 hm.o0 rfl ⟨(fun _ => undef, 0), rfl⟩)) (fun γ_17 => Ct.mo rfl rfl) ?_
 refine DGG.step (c := fun γ_17 => ⟨some 10, .agg [.int .u8 x1.Op, .int .u64 x1.S.a0, .int .u64 x1.S.a1, .int .u64 x1.S.a2, .int .u64 x1.S.a3, .sl false 1 (x1.L.map (cI .i64)), .int .i64 x1.Lo, .int .i64 x1.Hi, .str x1.Name], [(3, .ptr b_16 0)], [(1, .box b_16 42 [.d (.int .u8 x1.Op), .d (.int .u64 x1.S.a0), .d (.int .u64 x1.S.a1), .d (.int .u64 x1.S.a2), .d (.int .u64 x1.S.a3), .d (.sl false 1 (x1.L.map (cI .i64))), .d (.int .i64 x1.Lo), .d (.int .i64 x1.Hi), .d (.str x1.Name)])], []⟩) [] (fun _ _ _ => rfl) (fun γ_17 t hm => One.step rfl (.free rfl) (OpT.loadBoxAgg (i := 1) (l := [.int .u8 x1.Op, .int .u64 x1.S.a0, .int .u64 x1.S.a1, .int .u64 x1.S.a2, .int .u64 x1.S.a3, .sl false 1 (x1.L.map (cI .i64)), .int .i64 x1.Lo, .int .i64 x1.Hi, .str x1.Name]) rfl (dk rfl) ul42 rfl i42 hm.s0 hm.o0 rfl rfl ⟨(fun _ => undef, 0), rfl⟩)) (fun γ_17 => Ct.mo rfl rfl) ?_
 refine DGG.step (c := fun γ_17 => ⟨some 11, .sl true 9 ([x1].map c_aNd), [(10, .agg [.int .u8 x1.Op, .int .u64 x1.S.a0, .int .u64 x1.S.a1, .int .u64 x1.S.a2, .int .u64 x1.S.a3, .sl false 1 (x1.L.map (cI .i64)), .int .i64 x1.Lo, .int .i64 x1.Hi, .str x1.Name])], [], []⟩) [] (fun _ _ _ => rfl) (fun γ_17 t hm => One.step rfl (.free rfl) (OpT.buildSlice (elems := ([x1] : List aNd).map c_aNd) rfl (dk rfl) ul22 i42 (by decide) rfl (all1 rfl) (parts_cons hm.s0 rfl parts_nil) rfl rfl (lenAll rfl) (by decide) ⟨(fun _ => undef, 0), rfl⟩)) (fun γ_17 => Ct.mo rfl rfl) ?_
 obtain ⟨g_20, h⟩ := ck_some h
 refine DGG.step (c := fun γ_17 => ⟨some 12, .c (.ex ((γ_17 7).1 0)), [(11, .sl true 9 ([x1].map c_aNd)), (9, .c (.ex wx0c2))], [(3, .arrA wx0c2 42 9 (x0.nodes.map c_aNd))], [(3, .arrA ((γ_17 7).1 0) 42 9 ((x0.nodes ++ [x1]).map c_aNd))]⟩) [7] (fun γ_17 γ' h => by simp only [h 7 (by decide)]) (fun γ_17 t hm => One.step rfl (.free rfl) (OpT.appendAM (i := 3) (xs := x0.nodes) (ys := [x1]) (f := c_aNd) rfl (dk rfl) ul22 i42 rfl hm.s1 hm.o0 hm.s0 g_20 (fun w => ⟨(fun _ => w, 0), rfl⟩))) (fun γ_17 => Ct.mo rfl rfl) ?_
 refine DGG.step (c := fun γ_17 => ⟨some 13, .ptr bx0 0, [(5, .ptr bx0 0)], [], []⟩) [] (fun _ _ _ => rfl) (fun γ_17 t hm => One.step rfl (.free rfl) (OpT.nilCheck rfl (dk rfl) hm.s0 rfl ⟨(fun _ => undef, 0), rfl⟩)) (fun γ_17 => Ct.mo rfl rfl) ?_
 refine DGG.step (c := fun γ_17 => ⟨some 14, .ptr bx0 (0 + 2), [(13, .ptr bx0 0)], [], []⟩) [] (fun _ _ _ => rfl) (fun γ_17 t hm => One.step rfl (.free rfl) (OpT.fieldPtr rfl (dk rfl) ul88 rfl i22 (by decide) hm.s0 ⟨(fun _ => undef, 0), rfl⟩)) (fun γ_17 => Ct.mo rfl rfl) ?_
 refine DGG.step (c := fun γ_17 => ⟨none, .any, [(14, .ptr bx0 (0 + 2)), (12, .c (.ex ((γ_17 7).1 0)))], [(2, (o88 bx0 x0.s x0.at_ wx0c2 x0.deep x0.e x0.where_))], [(2, (o88 bx0 x0.s x0.at_ ((γ_17 7).1 0) x0.deep x0.e x0.where_))]⟩) [7] (fun γ_17 γ' h => by simp only [h 7 (by decide)]) (fun γ_17 t hm => One.step rfl (.free rfl) (OpT.storeTo (i := 2) (cells' := [.d (.str x0.s), .d (.int .i64 x0.at_), .d (.ex ((γ_17 7).1 0)), .d (.int .i64 x0.deep), .d (.int .i64 x0.e), .d (.int .i64 x0.where_)]) rfl rfl i22 hm.s0 hm.s1 hm.o0 (nb rfl) rfl ⟨(fun _ => undef, 0), rfl⟩)) (fun γ_17 => Ct.mo rfl rfl) ?_
 refine DGG.fin (s1 := fun γ_17 => ⟨[(0, .ptr bx0 0)], [.ro 0 [], .box b_16 42 [.d (.int .u8 x1.Op), .d (.int .u64 x1.S.a0), .d (.int .u64 x1.S.a1), .d (.int .u64 x1.S.a2), .d (.int .u64 x1.S.a3), .d (.sl false 1 (x1.L.map (cI .i64))), .d (.int .i64 x1.Lo), .d (.int .i64 x1.Hi), .d (.str x1.Name)], (o88 bx0 x0.s x0.at_ ((γ_17 7).1 0) x0.deep x0.e x0.where_), .arrA ((γ_17 7).1 0) 42 9 ((x0.nodes ++ [x1]).map c_aNd)]⟩) (ms := [0, 0, 2, 6, 14, 0, 32, 126, 255, 511, 1023]) TrydMixed rfl (by kernel_rfl) (by kernel_rfl) (by kernel_rfl) (fun γ_17 => by kernel_rfl) (fun γ_17 => .cons rfl (.nil _)) (fun _ => rfl) (fun γ_17 u hu => (tN (T.by_turn hu ?_)))
 refine T.seq ?_
 refine T.rL ?_
 refine mw rfl ?_
 refine sp rfl (OpT.nilCheck rfl (dk rfl) rfl rfl ?_)
 refine sp rfl (OpT.fieldPtr rfl (dk rfl) ul88 rfl i22 (by decide) rfl ?_)
 refine sp rfl (OpT.thenTurn (OpT.loadBox (i := 2) rfl (dk rfl) ul22 rfl rfl rfl rfl rfl) (Turn.viewP 18 3 rfl) ?_)
 refine sp rfl (OpT.lenSlM (xs := (x0.nodes ++ [x1])) (f := c_aNd) rfl (dk rfl) ul22 rfl ?_)
 refine sp rfl (OpT.int2 rfl rfl (dk rfl) rfl rfl ?_)
 refine aw rfl ?_
 refine TL'.nil (tN ?_)
 refine T.ret ?_
 exact Fin.doneK (.cons _ _ _ _ (.tmp 4 _ rfl) .nil) (.cons 2 rfl (.cons 2 rfl (.nil _))) (by cases h; exact ⟨gl [(γ_17 7).1 0], rfl, rfl⟩)
abbrev r4_digit_q (r : Bool) : Exit → St → Prop := retS Tryd.prog Tryd.f81 (fun y t => y = (.bool r) ∧ t = [])
theorem r4_digit_T (K : Nat) {x0 : Int} {r : Bool} (h : r4_digit K x0 = some r) : CallR Tryd.prog 81 [.int .u8 x0] [] (.bool r) := by
 refine CallT.intro Tryd.func81 rfl (nb rfl) ?_
 show T Tryd.prog 9 (Code.at [] (codeOf Tryd.f81)) ⟨paramSlots 0 [.int .u8 x0], []⟩ (r4_digit_q r)
 unfold r4_digit at h
 refine T.seq ?_
 refine T.rL ?_
 refine aw rfl ?_
 refine TL'.nil (tN ?_)
 refine T.seq ?_
 refine T.rL ?_
 refine mw rfl ?_
 refine sp rfl (OpT.int2 rfl rfl (dk rfl) rfl rfl ?_)
 refine mw rfl ?_
 rcases bif_some h with ⟨c_5, h⟩ | ⟨c_5, h⟩
 refine TL'.step (.on rfl rfl rfl c_5) (OpT.move rfl (dk rfl) rfl ?_)
 refine TL'.step (.on rfl rfl rfl c_5) (OpT.int2 rfl rfl (dk rfl) rfl rfl ?_)
 refine sp rfl (OpT.pickT rfl (dk rfl) rfl c_5 rfl ?_)
 refine aw rfl ?_
 refine TL'.nil (tN ?_)
 refine T.ret ?_
 exact Fin.done (.cons _ _ _ _ (.tmp 2 _ rfl) .nil) (by cases h; exact ⟨rfl, rfl⟩)
 refine TL'.passU (.off _ _ _ _ rfl rfl rfl c_5) (dk rfl) ?_
 refine TL'.passU (.off _ _ _ _ rfl rfl rfl c_5) (dk rfl) ?_
 refine sp rfl (OpT.pickF rfl (dk rfl) rfl c_5 rfl ?_)
 refine aw rfl ?_
 refine TL'.nil (tN ?_)
 refine T.ret ?_
 exact Fin.done (.cons _ _ _ _ (.tmp 2 _ rfl) .nil) (by cases h; exact ⟨rfl, rfl⟩)
abbrev r4_special_q (r : ByteArray) : Exit → St → Prop := retS Tryd.prog Tryd.f105 (fun y t => y = (.str r) ∧ t = [])
theorem r4_special_T (K : Nat) {r : ByteArray} (h : r4_special K = some r) : CallR Tryd.prog 105 [] [] (.str r) := by
 refine CallT.intro Tryd.func105 rfl (nb rfl) ?_
 show T Tryd.prog 1 (Code.at [] (codeOf Tryd.f105)) ⟨paramSlots 0 [], []⟩ (r4_special_q r)
 unfold r4_special at h
 refine T.seq ?_
 refine T.rL ?_
 refine aw rfl ?_
 refine TL'.nil (tN ?_)
 refine T.seq ?_
 refine T.rL ?_
 refine aw rfl ?_
 refine TL'.nil (tN ?_)
 refine T.ret ?_
 exact Fin.done (.cons _ _ _ _ (.tmp 0 _ rfl) .nil) (by cases h; exact ⟨rfl, rfl⟩)
abbrev r4_in_q (r : Bool) : Exit → St → Prop := retS Tryd.prog Tryd.f104 (fun y t => y = (.bool r) ∧ t = [])
abbrev r4_in_qs11 (r : Bool) : Exit → St → Prop := thenS (fun s' => T Tryd.prog 17 (Code.at [1, 1] (codeOf Tryd.f104)) s' ((r4_in_q r))) ((r4_in_q r))
abbrev r4_in_qb0x11 (r : Bool) : Exit → St → Prop := inBlockS 0 ((r4_in_qs11 r))
theorem r4_in_l0_T {r : Bool} (K : Nat) : ∀ (k : Nat), ∀ (x0 : Int) (x1 : ByteArray) (x5_0_2 : Int), r4_in_l0 K k x0 x1 x5_0_2 = some r → TL Tryd.prog 17 (Code.at [1, 0, 1, 0, 0] (codeOf Tryd.f104)) ⟨[(0, .int .u8 x0), (1, .str x1), (5, .int .i64 x5_0_2)], []⟩ (r4_in_qb0x11 r) := by
  intro k
  induction k with
  | zero =>
    intro x0 x1 x5_0_2 h
    cases (show (none : Option Bool) = some r from h)
  | succ k ih =>
    intro x0 x1 x5_0_2 h
    rw [r4_in_l0] at h
    refine TL.round ?_
    refine T.seq ?_
    refine T.seq ?_
    refine T.rL ?_
    refine mv rfl rfl rfl rfl rfl ?_
    refine mv rfl rfl rfl rfl rfl ?_
    refine sp rfl (OpT.lenStr rfl (dl rfl rfl) Tryd.underlying9 rfl ?_)
    refine sp rfl (OpT.int2 rfl rfl (dl rfl rfl) rfl rfl ?_)
    refine TL'.nil (tN ?_)
    rcases bif_some h with ⟨c_28, h⟩ | ⟨c_28, h⟩
    · refine T.condT rfl c_28 ?_
      refine T.skip (tN ?_)
      refine T.seq ?_
      refine T.block ?_
      refine T.seq ?_
      refine T.rL ?_
      refine mv rfl rfl rfl rfl rfl ?_
      refine mv rfl rfl rfl rfl rfl ?_
      obtain ⟨g_29, h⟩ := ck_some h
      refine sp rfl (OpT.indexStr rfl (dl rfl rfl) Tryd.underlying9 rfl rfl g_29.1 g_29.2 ?_)
      refine mv rfl rfl rfl rfl rfl ?_
      refine sp rfl (OpT.int2 rfl rfl (dl rfl rfl) rfl rfl ?_)
      refine TL'.nil (tN ?_)
      rcases bif_some h with ⟨c_30, h⟩ | ⟨c_30, h⟩
      · refine T.condT rfl c_30 ?_
        refine T.seq ?_
        refine T.rL ?_
        refine asg rfl rfl rfl rfl rfl ?_
        refine TL'.nil (tN ?_)
        refine T.ret (inBlock_ret (thenS_ret (thenS_ret (inBlock_ret (thenS_ret ?_)))))
        exact Fin.done (.cons _ _ _ _ (.tmp 4 _ rfl) .nil) (by cases h; exact ⟨rfl, rfl⟩)
      · refine T.condF rfl c_30 ?_
        refine T.skip (inBlock_normal (tN ?_))
        refine T.rL ?_
        refine mv rfl rfl rfl rfl rfl ?_
        refine sp rfl (OpT.int2 rfl rfl (dl rfl rfl) rfl rfl ?_)
        refine asg rfl rfl rfl rfl rfl ?_
        refine TL'.nil (tN ?_)
        refine TL.by_turn ?_ (ih x0 x1 (IntKind.i64.wrap (x5_0_2 + (1 : Int))) h)
        exact Turn.rp (.cons rfl (.cons rfl (.cons rfl (.nil _)))) (.n _)
    · refine T.condF rfl c_28 ?_
      refine T.exit (thenS_exit (thenS_exit (inBlock_exit (tN ?_))))
      refine T.seq ?_
      refine T.rL ?_
      refine asg rfl rfl rfl rfl rfl ?_
      refine TL'.nil (tN ?_)
      refine T.ret ?_
      exact Fin.done (.cons _ _ _ _ (.tmp 4 _ rfl) .nil) (by cases h; exact ⟨rfl, rfl⟩)
theorem r4_in_T (K : Nat) {x0 : Int} {x1 : ByteArray} {r : Bool} (h : r4_in K x0 x1 = some r) : CallR Tryd.prog 104 [.int .u8 x0, .str x1] [] (.bool r) := by
 refine CallT.intro Tryd.func104 rfl (nb rfl) ?_
 show T Tryd.prog 17 (Code.at [] (codeOf Tryd.f104)) ⟨paramSlots 0 [.int .u8 x0, .str x1], []⟩ (r4_in_q r)
 unfold r4_in at h
 refine T.seq ?_
 refine T.rL ?_
 refine aw rfl ?_
 refine TL'.nil (tN ?_)
 refine T.seq ?_
 refine T.seq ?_
 refine T.rL ?_
 refine aw rfl ?_
 refine TL'.nil (tN ?_)
 refine T.block ?_
 refine T.loop ?_
 refine TL.by_turn ?_ (r4_in_l0_T K K x0 x1 (0 : Int) h)
 exact Turn.rp (.cons rfl (.cons rfl (.cons rfl (.nil _)))) (.n _)
abbrev r4r_fail_q (bx0 : Nat) (r : r4r) : Exit → St → Prop := retS Tryd.prog Tryd.f50 (fun y t => ∃ γ : Nat → Value, y = (.tup []) ∧ t = [(o88 bx0 r.s r.at_ (γ 0) r.deep r.e r.where_), .arrA (γ 0) 42 9 (r.nodes.map c_aNd)])
theorem r4r_fail_T (K : Nat) {x0 : r4r} {x1 : Int} {x2 : Int} {bx0 : Nat} {wx0c2 : Value} {r : r4r} (h : r4r_fail K x0 x1 x2 = some r) : CallG Tryd.prog 50 [.ptr bx0 0, .int .i64 x1, .int .i64 x2] [(o88 bx0 x0.s x0.at_ wx0c2 x0.deep x0.e x0.where_), .arrA wx0c2 42 9 (x0.nodes.map c_aNd)] (fun γ => (.tup [])) (fun γ => [(o88 bx0 r.s r.at_ (γ 0) r.deep r.e r.where_), .arrA (γ 0) 42 9 (r.nodes.map c_aNd)]) := by
 refine CallT.intro Tryd.func50 rfl (nb rfl) ?_
 show T Tryd.prog 19 (Code.at [] (codeOf Tryd.f50)) ⟨paramSlots 0 [.ptr bx0 0, .int .i64 x1, .int .i64 x2], [(o88 bx0 x0.s x0.at_ wx0c2 x0.deep x0.e x0.where_), .arrA wx0c2 42 9 (x0.nodes.map c_aNd)]⟩ (r4r_fail_q bx0 r)
 unfold r4r_fail at h
 refine T.seq ?_
 refine T.rL ?_
 refine mw rfl ?_
 refine sp rfl (OpT.nilCheck rfl (dk rfl) rfl rfl ?_)
 refine sp rfl (OpT.fieldPtr rfl (dk rfl) ul88 rfl i35 (by decide) rfl ?_)
 refine sp rfl (OpT.loadBox (i := 0) rfl (dk rfl) ul35 rfl rfl rfl rfl ?_)
 refine sp rfl (OpT.int2 rfl rfl (dk rfl) rfl rfl ?_)
 refine TL'.nil (tN ?_)
 rcases bif_some h with ⟨c_5, h⟩ | ⟨c_5, h⟩
 refine T.condT rfl c_5 ?_
 refine T.seq ?_
 refine T.rL ?_
 refine mw rfl ?_
 refine mw rfl ?_
 refine sp rfl (OpT.nilCheck rfl (dk rfl) rfl rfl ?_)
 refine sp rfl (OpT.fieldPtr rfl (dk rfl) ul88 rfl i35 (by decide) rfl ?_)
 refine sp rfl (OpT.storeTo (i := 0) (cells' := [.d (.str x0.s), .d (.int .i64 x0.at_), .d (.ex wx0c2), .d (.int .i64 x0.deep), .d (.int .i64 x1), .d (.int .i64 x0.where_)]) rfl rfl i35 rfl rfl rfl (nb rfl) rfl ?_)
 refine TL'.nil (tN ?_)
 refine T.rL ?_
 refine mw rfl ?_
 refine mw rfl ?_
 refine sp rfl (OpT.nilCheck rfl (dk rfl) rfl rfl ?_)
 refine sp rfl (OpT.fieldPtr rfl (dk rfl) ul88 rfl i3 (by decide) rfl ?_)
 refine sp rfl (OpT.storeTo (i := 0) (cells' := [.d (.str x0.s), .d (.int .i64 x0.at_), .d (.ex wx0c2), .d (.int .i64 x0.deep), .d (.int .i64 x1), .d (.int .i64 x2)]) rfl rfl i3 rfl rfl rfl (nb rfl) rfl ?_)
 refine TL'.nil ?_
 exact Fin.doneK (.nil) (.cons 0 rfl (.cons 0 rfl (.nil _))) (by cases h; exact ⟨gl [wx0c2], rfl, rfl⟩)
 refine T.condF rfl c_5 ?_
 refine T.skip ?_
 exact Fin.doneK (.nil) (.cons 0 rfl (.cons 0 rfl (.nil _))) (by cases h; exact ⟨gl [wx0c2], rfl, rfl⟩)
abbrev r4r_one_q (bx0 : Nat) (r : Int × r4r) : Exit → St → Prop := retS Tryd.prog Tryd.f106 (fun y t => ∃ γ : Nat → Value, y = (.int .u8 r.1) ∧ t = [(o88 bx0 r.2.s r.2.at_ (γ 0) r.2.deep r.2.e r.2.where_), .arrA (γ 0) 42 9 (r.2.nodes.map c_aNd)])
abbrev r4r_one_qs111111111 (bx0 : Nat) (r : Int × r4r) : Exit → St → Prop := thenS (fun s' => T Tryd.prog 138 (Code.at [1, 1, 1, 1, 1, 1, 1, 1, 1] (codeOf Tryd.f106)) s' ((r4r_one_q bx0 r))) ((r4r_one_q bx0 r))
abbrev r4r_one_qb0x111111111 (bx0 : Nat) (r : Int × r4r) : Exit → St → Prop := inBlockS 0 ((r4r_one_qs111111111 bx0 r))
theorem r4r_one_j0_T {r : Int × r4r} (K : Nat) (bx0 : Nat) (x5_0_0 : Int) (y9000_0_1 : ByteArray) (y9000_0_2 : Int) (y9000_0_4 : Int) (y9000_0_5 : Int) (y9000_0_6 : Int) (y9000_0_3 : List aNd) (w9000_0 : Value) (h : r4r_one_j0 K x5_0_0 y9000_0_1 y9000_0_2 y9000_0_4 y9000_0_5 y9000_0_6 y9000_0_3 = some r) : T Tryd.prog 138 (Code.at [1, 1, 1, 1, 1, 1, 1, 1, 0, 0, 1, 1, 1, 1, 1, 1, 1, 1, 1, 0] (codeOf Tryd.f106)) ⟨[(5, .int .u8 x5_0_0)], [(o88 bx0 y9000_0_1 y9000_0_2 w9000_0 y9000_0_4 y9000_0_5 y9000_0_6), .arrA w9000_0 42 9 (y9000_0_3.map c_aNd)]⟩ (r4r_one_qb0x111111111 bx0 r) := by
 unfold r4r_one_j0 at h
 refine T.seq ?_
 refine T.rL ?_
 refine mw rfl ?_
 refine aw rfl ?_
 refine TL'.nil (tN ?_)
 refine T.ret (inBlock_ret (thenS_ret ?_))
 exact Fin.doneK (.cons _ _ _ _ (.tmp 2 _ rfl) .nil) (.cons 0 rfl (.cons 0 rfl (.nil _))) (by cases h; exact ⟨gl [w9000_0], rfl, rfl⟩)
theorem r4r_one_T (K : Nat) {x0 : r4r} {bx0 : Nat} {wx0c2 : Value} {r : Int × r4r} (h : r4r_one K x0 = some r) : CallG Tryd.prog 106 [.ptr bx0 0] [(o88 bx0 x0.s x0.at_ wx0c2 x0.deep x0.e x0.where_), .arrA wx0c2 42 9 (x0.nodes.map c_aNd)] (fun γ => (.int .u8 r.1)) (fun γ => [(o88 bx0 r.2.s r.2.at_ (γ 0) r.2.deep r.2.e r.2.where_), .arrA (γ 0) 42 9 (r.2.nodes.map c_aNd)]) := by
 refine CallT.intro Tryd.func106 rfl (nb rfl) ?_
 show T Tryd.prog 138 (Code.at [] (codeOf Tryd.f106)) ⟨paramSlots 0 [.ptr bx0 0], [(o88 bx0 x0.s x0.at_ wx0c2 x0.deep x0.e x0.where_), .arrA wx0c2 42 9 (x0.nodes.map c_aNd)]⟩ (r4r_one_q bx0 r)
 unfold r4r_one at h
 refine T.seq ?_
 refine T.rL ?_
 refine aw rfl ?_
 refine TL'.nil (tN ?_)
 refine T.seq ?_
 refine DG.start ?_
 refine DG.mv rfl rfl rfl rfl rfl rfl ?_
 refine DG.step (c := ⟨some 9, .ptr bx0 0, [(8, .ptr bx0 0)], [], []⟩) (fun t hm => One.step rfl (.free rfl) (OpT.nilCheck rfl (dk rfl) hm.s0 rfl rfl)) (Ct.mo rfl rfl) ?_
 refine DG.step (c := ⟨some 10, .ptr bx0 (0 + 0), [(9, .ptr bx0 0)], [], []⟩) (fun t hm => One.step rfl (.free rfl) (OpT.fieldPtr rfl (dk rfl) ul88 rfl i9 (by decide) hm.s0 rfl)) (Ct.mo rfl rfl) ?_
 refine DG.step (c := ⟨some 11, .str x0.s, [(10, .ptr bx0 (0 + 0))], [(0, (o88 bx0 x0.s x0.at_ wx0c2 x0.deep x0.e x0.where_))], []⟩) (fun t hm => One.step rfl (.free rfl) (OpT.loadBox (i := 0) rfl (dk rfl) ul9 rfl hm.s0 hm.o0 rfl rfl)) (Ct.mo rfl rfl) ?_
 refine DG.mv rfl rfl rfl rfl rfl rfl ?_
 refine DG.step (c := ⟨some 13, .ptr bx0 0, [(12, .ptr bx0 0)], [], []⟩) (fun t hm => One.step rfl (.free rfl) (OpT.nilCheck rfl (dk rfl) hm.s0 rfl rfl)) (Ct.mo rfl rfl) ?_
 refine DG.step (c := ⟨some 14, .ptr bx0 (0 + 1), [(13, .ptr bx0 0)], [], []⟩) (fun t hm => One.step rfl (.free rfl) (OpT.fieldPtr rfl (dk rfl) ul88 rfl i3 (by decide) hm.s0 rfl)) (Ct.mo rfl rfl) ?_
 refine DG.step (c := ⟨some 15, .int .i64 x0.at_, [(14, .ptr bx0 (0 + 1))], [(0, (o88 bx0 x0.s x0.at_ wx0c2 x0.deep x0.e x0.where_))], []⟩) (fun t hm => One.step rfl (.free rfl) (OpT.loadBox (i := 0) rfl (dk rfl) ul3 rfl hm.s0 hm.o0 rfl rfl)) (Ct.mo rfl rfl) ?_
 obtain ⟨g_178, h⟩ := ck_some h
 refine DG.step (c := ⟨some 16, .int .u8 (bt x0.s x0.at_), [(11, .str x0.s), (15, .int .i64 x0.at_)], [], []⟩) (fun t hm => One.step rfl (.free rfl) (OpT.indexStr rfl (dk rfl) ul9 hm.s0 hm.s1 g_178.1 g_178.2 rfl)) (Ct.mo rfl rfl) ?_
 refine DG.step (c := ⟨some 3, .int .u8 (bt x0.s x0.at_), [(16, .int .u8 (bt x0.s x0.at_))], [], []⟩) (fun t hm => One.step rfl (.free rfl) (OpT.assign rfl (dk rfl) hm.s0 rfl)) (Ct.mo rfl rfl) ?_
 refine DG.fin (s1 := ⟨[(0, .ptr bx0 0), (3, .int .u8 (bt x0.s x0.at_))], [(o88 bx0 x0.s x0.at_ wx0c2 x0.deep x0.e x0.where_), .arrA wx0c2 42 9 (x0.nodes.map c_aNd)]⟩) (ms := [0, 1, 3, 7, 0, 16, 48, 112, 255, 511]) TrydMixed rfl (by kernel_rfl) (by kernel_rfl) (by kernel_rfl) (.cons rfl (.cons rfl (.nil _))) rfl (fun u hu => (tN (T.by_turn hu ?_)))
 refine T.seq ?_
 refine T.rL ?_
 refine mw rfl ?_
 refine sp rfl (OpT.nilCheck rfl (dk rfl) rfl rfl ?_)
 refine sp rfl (OpT.fieldPtr rfl (dk rfl) ul88 rfl i3 (by decide) rfl ?_)
 refine sp rfl (OpT.loadBox (i := 0) rfl (dk rfl) ul3 rfl rfl rfl rfl ?_)
 refine aw rfl ?_
 refine TL'.nil (tN ?_)
 refine T.seq ?_
 refine T.rL ?_
 refine mw rfl ?_
 refine sp rfl (OpT.nilCheck rfl (dk rfl) rfl rfl ?_)
 refine sp rfl (OpT.fieldPtr rfl (dk rfl) ul88 rfl i3 (by decide) rfl ?_)
 refine sp rfl (OpT.loadBox (i := 0) rfl (dk rfl) ul3 rfl rfl rfl rfl ?_)
 refine sp rfl (OpT.int2 rfl rfl (dk rfl) rfl rfl ?_)
 refine sp rfl (OpT.nilCheck rfl (dk rfl) rfl rfl ?_)
 refine sp rfl (OpT.fieldPtr rfl (dk rfl) ul88 rfl i3 (by decide) rfl ?_)
 refine sp rfl (OpT.storeTo (i := 0) (cells' := [.d (.str x0.s), .d (.int .i64 (IntKind.i64.wrap (x0.at_ + (1 : Int)))), .d (.ex wx0c2), .d (.int .i64 x0.deep), .d (.int .i64 x0.e), .d (.int .i64 x0.where_)]) rfl rfl i3 rfl rfl rfl (nb rfl) rfl ?_)
 refine TL'.nil (tN ?_)
 refine T.seq ?_
 refine T.seq ?_
 refine T.rL ?_
 refine mw rfl ?_
 refine sp rfl (OpT.int2 rfl rfl (dk rfl) rfl rfl ?_)
 refine TL'.nil (tN ?_)
 rcases bif_some h with ⟨c_179, h⟩ | ⟨c_179, h⟩
 refine T.condT rfl c_179 ?_
 refine T.seq ?_
 refine T.rL ?_
 refine mw rfl ?_
 refine aw rfl ?_
 refine TL'.nil (tN ?_)
 refine T.ret (thenS_ret ?_)
 exact Fin.doneK (.cons _ _ _ _ (.tmp 2 _ rfl) .nil) (.cons 0 rfl (.cons 0 rfl (.nil _))) (by cases h; exact ⟨gl [wx0c2], rfl, rfl⟩)
 refine T.condF rfl c_179 ?_
 refine T.skip (tN ?_)
 refine T.seq ?_
 refine T.seq ?_
 refine T.rL ?_
 refine mw rfl ?_
 obtain ⟨v_180, e_181, h⟩ := bind_some h
 refine sp rfl (OpT.callG (is := [0, 1]) (ph := []) rfl (dk rfl) Tryd.func49 rfl rfl (Args.cons rfl Args.nil) (r4r_ends_T K (bx0 := bx0) (wx0c2 := wx0c2) e_181) (.cons rfl rfl (.cons rfl rfl (.nil))) (fun _ => rfl) (fun γ_182 => ?_))
 refine nm (.c (.c (.n))) ?_
 refine TL'.nil (tN ?_)
 rcases bif_some h with ⟨c_183, h⟩ | ⟨c_183, h⟩
 refine T.condT rfl c_183 ?_
 refine T.seq ?_
 refine T.rL ?_
 refine mw rfl ?_
 refine mw rfl ?_
 refine sp rfl (OpT.nilCheck rfl (dk rfl) rfl rfl ?_)
 refine sp rfl (OpT.fieldPtr rfl (dk rfl) ul88 rfl i9 (by decide) rfl ?_)
 refine sp rfl (OpT.loadBox (i := 0) rfl (dk rfl) ul9 rfl rfl rfl rfl ?_)
 refine sp rfl (OpT.lenStr rfl (dk rfl) ul9 rfl ?_)
 obtain ⟨v_184, e_185, h⟩ := bind_some h
 refine sp rfl (OpT.callG (is := [0, 1]) (ph := []) rfl (dk rfl) Tryd.func50 rfl rfl (Args.cons rfl (Args.cons rfl (Args.cons rfl Args.nil))) (r4r_fail_T K (bx0 := bx0) (wx0c2 := (γ_182 0)) e_185) (.cons rfl rfl (.cons rfl rfl (.nil))) (fun _ => rfl) (fun γ_186 => ?_))
 refine nm (.c (.c (.n))) ?_
 refine TL'.nil (tN ?_)
 refine T.seq ?_
 refine T.rL ?_
 refine aw rfl ?_
 refine TL'.nil (tN ?_)
 refine T.ret (thenS_ret ?_)
 exact Fin.doneK (.cons _ _ _ _ (.tmp 2 _ rfl) .nil) (.cons 0 rfl (.cons 0 rfl (.nil _))) (by cases h; exact ⟨gl [γ_186 0], rfl, rfl⟩)
 refine T.condF rfl c_183 ?_
 refine T.skip (tN ?_)
 refine T.seq ?_
 refine DG.start ?_
 refine DG.mv rfl rfl rfl rfl rfl rfl ?_
 refine DG.step (c := ⟨some 41, .ptr bx0 0, [(40, .ptr bx0 0)], [], []⟩) (fun t hm => One.step rfl (.free rfl) (OpT.nilCheck rfl (dk rfl) hm.s0 rfl rfl)) (Ct.mo rfl rfl) ?_
 refine DG.step (c := ⟨some 42, .ptr bx0 (0 + 0), [(41, .ptr bx0 0)], [], []⟩) (fun t hm => One.step rfl (.free rfl) (OpT.fieldPtr rfl (dk rfl) ul88 rfl i9 (by decide) hm.s0 rfl)) (Ct.mo rfl rfl) ?_
 refine DG.step (c := ⟨some 43, .str x0.s, [(42, .ptr bx0 (0 + 0))], [(0, (o88 bx0 x0.s ((IntKind.i64.wrap (x0.at_ + (1 : Int)))) (γ_182 0) x0.deep x0.e x0.where_))], []⟩) (fun t hm => One.step rfl (.free rfl) (OpT.loadBox (i := 0) rfl (dk rfl) ul9 rfl hm.s0 hm.o0 rfl rfl)) (Ct.mo rfl rfl) ?_
 refine DG.mv rfl rfl rfl rfl rfl rfl ?_
 refine DG.step (c := ⟨some 45, .ptr bx0 0, [(44, .ptr bx0 0)], [], []⟩) (fun t hm => One.step rfl (.free rfl) (OpT.nilCheck rfl (dk rfl) hm.s0 rfl rfl)) (Ct.mo rfl rfl) ?_
 refine DG.step (c := ⟨some 46, .ptr bx0 (0 + 1), [(45, .ptr bx0 0)], [], []⟩) (fun t hm => One.step rfl (.free rfl) (OpT.fieldPtr rfl (dk rfl) ul88 rfl i3 (by decide) hm.s0 rfl)) (Ct.mo rfl rfl) ?_
 refine DG.step (c := ⟨some 47, .int .i64 ((IntKind.i64.wrap (x0.at_ + (1 : Int)))), [(46, .ptr bx0 (0 + 1))], [(0, (o88 bx0 x0.s ((IntKind.i64.wrap (x0.at_ + (1 : Int)))) (γ_182 0) x0.deep x0.e x0.where_))], []⟩) (fun t hm => One.step rfl (.free rfl) (OpT.loadBox (i := 0) rfl (dk rfl) ul3 rfl hm.s0 hm.o0 rfl rfl)) (Ct.mo rfl rfl) ?_
 obtain ⟨g_189, h⟩ := ck_some h
 refine DG.step (c := ⟨some 48, .int .u8 (bt x0.s ((IntKind.i64.wrap (x0.at_ + (1 : Int))))), [(43, .str x0.s), (47, .int .i64 ((IntKind.i64.wrap (x0.at_ + (1 : Int)))))], [], []⟩) (fun t hm => One.step rfl (.free rfl) (OpT.indexStr rfl (dk rfl) ul9 hm.s0 hm.s1 g_189.1 g_189.2 rfl)) (Ct.mo rfl rfl) ?_
 refine DG.step (c := ⟨some 5, .int .u8 (bt x0.s ((IntKind.i64.wrap (x0.at_ + (1 : Int))))), [(48, .int .u8 (bt x0.s ((IntKind.i64.wrap (x0.at_ + (1 : Int))))))], [], []⟩) (fun t hm => One.step rfl (.free rfl) (OpT.assign rfl (dk rfl) hm.s0 rfl)) (Ct.mo rfl rfl) ?_
 refine DG.fin (s1 := ⟨[(0, .ptr bx0 0), (4, .int .i64 x0.at_), (5, .int .u8 (bt x0.s ((IntKind.i64.wrap (x0.at_ + (1 : Int))))))], [(o88 bx0 x0.s ((IntKind.i64.wrap (x0.at_ + (1 : Int)))) (γ_182 0) x0.deep x0.e x0.where_), .arrA (γ_182 0) 42 9 ((x0.nodes).map c_aNd)]⟩) (ms := [0, 1, 3, 7, 0, 16, 48, 112, 255, 511]) TrydMixed rfl (by kernel_rfl) (by kernel_rfl) (by kernel_rfl) (.cons rfl (.cons rfl (.cons rfl (.nil _)))) rfl (fun u hu => (tN (T.by_turn hu ?_)))
 refine T.seq ?_
 refine T.rL ?_
 refine mw rfl ?_
 refine sp rfl (OpT.nilCheck rfl (dk rfl) rfl rfl ?_)
 refine sp rfl (OpT.fieldPtr rfl (dk rfl) ul88 rfl i3 (by decide) rfl ?_)
 refine sp rfl (OpT.loadBox (i := 0) rfl (dk rfl) ul3 rfl rfl rfl rfl ?_)
 refine sp rfl (OpT.int2 rfl rfl (dk rfl) rfl rfl ?_)
 refine sp rfl (OpT.nilCheck rfl (dk rfl) rfl rfl ?_)
 refine sp rfl (OpT.fieldPtr rfl (dk rfl) ul88 rfl i3 (by decide) rfl ?_)
 refine sp rfl (OpT.storeTo (i := 0) (cells' := [.d (.str x0.s), .d (.int .i64 (IntKind.i64.wrap ((IntKind.i64.wrap (x0.at_ + (1 : Int))) + (1 : Int)))), .d (.ex (γ_182 0)), .d (.int .i64 x0.deep), .d (.int .i64 x0.e), .d (.int .i64 x0.where_)]) rfl rfl i3 rfl rfl rfl (nb rfl) rfl ?_)
 refine TL'.nil (tN ?_)
 refine T.seq ?_
 refine T.block ?_
 refine T.seq ?_
 refine T.rL ?_
 refine mw rfl ?_
 refine sp rfl (OpT.int2 rfl rfl (dk rfl) rfl rfl ?_)
 refine aw rfl ?_
 refine TL'.nil (tN ?_)
 rcases bif_some h with ⟨c_190, h⟩ | ⟨c_190, h⟩
 refine T.condT rfl c_190 ?_
 refine T.seq ?_
 refine T.rL ?_
 refine aw rfl ?_
 refine TL'.nil (tN ?_)
 refine T.ret (inBlock_ret (thenS_ret ?_))
 exact Fin.doneK (.cons _ _ _ _ (.tmp 2 _ rfl) .nil) (.cons 0 rfl (.cons 0 rfl (.nil _))) (by cases h; exact ⟨gl [γ_182 0], rfl, rfl⟩)
 refine T.condF rfl c_190 ?_
 refine T.seq ?_
 refine T.rL ?_
 refine mw rfl ?_
 refine sp rfl (OpT.int2 rfl rfl (dk rfl) rfl rfl ?_)
 refine aw rfl ?_
 refine TL'.nil (tN ?_)
 rcases bif_some h with ⟨c_191, h⟩ | ⟨c_191, h⟩
 refine T.condT rfl c_191 ?_
 refine T.seq ?_
 refine T.rL ?_
 refine aw rfl ?_
 refine TL'.nil (tN ?_)
 refine T.ret (inBlock_ret (thenS_ret ?_))
 exact Fin.doneK (.cons _ _ _ _ (.tmp 2 _ rfl) .nil) (.cons 0 rfl (.cons 0 rfl (.nil _))) (by cases h; exact ⟨gl [γ_182 0], rfl, rfl⟩)
 refine T.condF rfl c_191 ?_
 refine T.seq ?_
 refine T.rL ?_
 refine mw rfl ?_
 refine sp rfl (OpT.int2 rfl rfl (dk rfl) rfl rfl ?_)
 refine aw rfl ?_
 refine TL'.nil (tN ?_)
 rcases bif_some h with ⟨c_192, h⟩ | ⟨c_192, h⟩
 refine T.condT rfl c_192 ?_
 refine T.seq ?_
 refine T.rL ?_
 refine aw rfl ?_
 refine TL'.nil (tN ?_)
 refine T.ret (inBlock_ret (thenS_ret ?_))
 exact Fin.doneK (.cons _ _ _ _ (.tmp 2 _ rfl) .nil) (.cons 0 rfl (.cons 0 rfl (.nil _))) (by cases h; exact ⟨gl [γ_182 0], rfl, rfl⟩)
 refine T.condF rfl c_192 ?_
 refine T.seq ?_
 refine T.rL ?_
 refine mw rfl ?_
 refine sp rfl (OpT.int2 rfl rfl (dk rfl) rfl rfl ?_)
 refine aw rfl ?_
 refine TL'.nil (tN ?_)
 rcases bif_some h with ⟨c_193, h⟩ | ⟨c_193, h⟩
 refine T.condT rfl c_193 ?_
 refine T.seq ?_
 refine T.seq ?_
 refine DG.start ?_
 refine DG.mv rfl rfl rfl rfl rfl rfl ?_
 refine DG.step (c := ⟨some 69, .ptr bx0 0, [(68, .ptr bx0 0)], [], []⟩) (fun t hm => One.step rfl (.free rfl) (OpT.nilCheck rfl (dk rfl) hm.s0 rfl rfl)) (Ct.mo rfl rfl) ?_
 refine DG.step (c := ⟨some 70, .ptr bx0 (0 + 1), [(69, .ptr bx0 0)], [], []⟩) (fun t hm => One.step rfl (.free rfl) (OpT.fieldPtr rfl (dk rfl) ul88 rfl i3 (by decide) hm.s0 rfl)) (Ct.mo rfl rfl) ?_
 refine DG.step (c := ⟨some 71, .int .i64 (IntKind.i64.wrap ((IntKind.i64.wrap (x0.at_ + (1 : Int))) + (1 : Int))), [(70, .ptr bx0 (0 + 1))], [(0, (o88 bx0 x0.s (IntKind.i64.wrap ((IntKind.i64.wrap (x0.at_ + (1 : Int))) + (1 : Int))) (γ_182 0) x0.deep x0.e x0.where_))], []⟩) (fun t hm => One.step rfl (.free rfl) (OpT.loadBox (i := 0) rfl (dk rfl) ul3 rfl hm.s0 hm.o0 rfl rfl)) (Ct.mo rfl rfl) ?_
 refine DG.step (c := ⟨some 72, .int .i64 (IntKind.i64.wrap ((IntKind.i64.wrap ((IntKind.i64.wrap (x0.at_ + (1 : Int))) + (1 : Int))) + (1 : Int))), [(71, .int .i64 (IntKind.i64.wrap ((IntKind.i64.wrap (x0.at_ + (1 : Int))) + (1 : Int))))], [], []⟩) (fun t hm => One.step rfl (.free rfl) (OpT.int2 rfl rfl (dk rfl) hm.s0 rfl rfl)) (Ct.mo rfl rfl) ?_
 refine DG.mv rfl rfl rfl rfl rfl rfl ?_
 refine DG.step (c := ⟨some 74, .ptr bx0 0, [(73, .ptr bx0 0)], [], []⟩) (fun t hm => One.step rfl (.free rfl) (OpT.nilCheck rfl (dk rfl) hm.s0 rfl rfl)) (Ct.mo rfl rfl) ?_
 refine DG.step (c := ⟨some 75, .ptr bx0 (0 + 0), [(74, .ptr bx0 0)], [], []⟩) (fun t hm => One.step rfl (.free rfl) (OpT.fieldPtr rfl (dk rfl) ul88 rfl i9 (by decide) hm.s0 rfl)) (Ct.mo rfl rfl) ?_
 refine DG.step (c := ⟨some 76, .str x0.s, [(75, .ptr bx0 (0 + 0))], [(0, (o88 bx0 x0.s (IntKind.i64.wrap ((IntKind.i64.wrap (x0.at_ + (1 : Int))) + (1 : Int))) (γ_182 0) x0.deep x0.e x0.where_))], []⟩) (fun t hm => One.step rfl (.free rfl) (OpT.loadBox (i := 0) rfl (dk rfl) ul9 rfl hm.s0 hm.o0 rfl rfl)) (Ct.mo rfl rfl) ?_
 refine DG.step (c := ⟨some 77, .int .i64 ((x0.s).size : Int), [(76, .str x0.s)], [], []⟩) (fun t hm => One.step rfl (.free rfl) (OpT.lenStr rfl (dk rfl) ul9 hm.s0 rfl)) (Ct.mo rfl rfl) ?_
 refine DG.step (c := ⟨some 78, .bool (decide ((IntKind.i64.wrap ((IntKind.i64.wrap ((IntKind.i64.wrap (x0.at_ + (1 : Int))) + (1 : Int))) + (1 : Int))) ≥ ((x0.s).size : Int))), [(72, .int .i64 (IntKind.i64.wrap ((IntKind.i64.wrap ((IntKind.i64.wrap (x0.at_ + (1 : Int))) + (1 : Int))) + (1 : Int)))), (77, .int .i64 ((x0.s).size : Int))], [], []⟩) (fun t hm => One.step rfl (.free rfl) (OpT.int2 rfl rfl (dk rfl) hm.s0 hm.s1 rfl)) (Ct.mo rfl rfl) ?_
 refine DG.fin (s1 := ⟨[(0, .ptr bx0 0), (4, .int .i64 x0.at_), (78, .bool (decide ((IntKind.i64.wrap ((IntKind.i64.wrap ((IntKind.i64.wrap (x0.at_ + (1 : Int))) + (1 : Int))) + (1 : Int))) ≥ ((x0.s).size : Int))))], [(o88 bx0 x0.s (IntKind.i64.wrap ((IntKind.i64.wrap (x0.at_ + (1 : Int))) + (1 : Int))) (γ_182 0) x0.deep x0.e x0.where_), .arrA (γ_182 0) 42 9 ((x0.nodes).map c_aNd)]⟩) (ms := [0, 1, 3, 7, 15, 0, 32, 96, 224, 480, 1023]) TrydMixed rfl (by kernel_rfl) (by kernel_rfl) (by kernel_rfl) (.cons rfl (.cons rfl (.cons rfl (.nil _)))) rfl (fun u hu => (tN (T.by_turn hu ?_)))
 rcases bif_some h with ⟨c_195, h⟩ | ⟨c_195, h⟩
 refine T.condT rfl c_195 ?_
 refine T.seq ?_
 refine T.rL ?_
 refine mw rfl ?_
 refine mw rfl ?_
 refine sp rfl (OpT.nilCheck rfl (dk rfl) rfl rfl ?_)
 refine sp rfl (OpT.fieldPtr rfl (dk rfl) ul88 rfl i9 (by decide) rfl ?_)
 refine sp rfl (OpT.loadBox (i := 0) rfl (dk rfl) ul9 rfl rfl rfl rfl ?_)
 refine sp rfl (OpT.lenStr rfl (dk rfl) ul9 rfl ?_)
 obtain ⟨v_196, e_197, h⟩ := bind_some h
 refine sp rfl (OpT.callG (is := [0, 1]) (ph := []) rfl (dk rfl) Tryd.func50 rfl rfl (Args.cons rfl (Args.cons rfl (Args.cons rfl Args.nil))) (r4r_fail_T K (bx0 := bx0) (wx0c2 := (γ_182 0)) e_197) (.cons rfl rfl (.cons rfl rfl (.nil))) (fun _ => rfl) (fun γ_198 => ?_))
 refine nm (.c (.c (.n))) ?_
 refine TL'.nil (tN ?_)
 refine T.seq ?_
 refine T.rL ?_
 refine aw rfl ?_
 refine TL'.nil (tN ?_)
 refine T.ret (thenS_ret (inBlock_ret (thenS_ret ?_)))
 exact Fin.doneK (.cons _ _ _ _ (.tmp 2 _ rfl) .nil) (.cons 0 rfl (.cons 0 rfl (.nil _))) (by cases h; exact ⟨gl [γ_198 0], rfl, rfl⟩)
 refine T.condF rfl c_195 ?_
 refine T.skip (tN ?_)
 refine T.seq ?_
 refine DG.start ?_
 refine DG.mv rfl rfl rfl rfl rfl rfl ?_
 refine DG.step (c := ⟨some 87, .ptr bx0 0, [(86, .ptr bx0 0)], [], []⟩) (fun t hm => One.step rfl (.free rfl) (OpT.nilCheck rfl (dk rfl) hm.s0 rfl rfl)) (Ct.mo rfl rfl) ?_
 refine DG.step (c := ⟨some 88, .ptr bx0 (0 + 0), [(87, .ptr bx0 0)], [], []⟩) (fun t hm => One.step rfl (.free rfl) (OpT.fieldPtr rfl (dk rfl) ul88 rfl i9 (by decide) hm.s0 rfl)) (Ct.mo rfl rfl) ?_
 refine DG.step (c := ⟨some 89, .str x0.s, [(88, .ptr bx0 (0 + 0))], [(0, (o88 bx0 x0.s (IntKind.i64.wrap ((IntKind.i64.wrap (x0.at_ + (1 : Int))) + (1 : Int))) (γ_182 0) x0.deep x0.e x0.where_))], []⟩) (fun t hm => One.step rfl (.free rfl) (OpT.loadBox (i := 0) rfl (dk rfl) ul9 rfl hm.s0 hm.o0 rfl rfl)) (Ct.mo rfl rfl) ?_
 refine DG.mv rfl rfl rfl rfl rfl rfl ?_
 refine DG.step (c := ⟨some 91, .ptr bx0 0, [(90, .ptr bx0 0)], [], []⟩) (fun t hm => One.step rfl (.free rfl) (OpT.nilCheck rfl (dk rfl) hm.s0 rfl rfl)) (Ct.mo rfl rfl) ?_
 refine DG.step (c := ⟨some 92, .ptr bx0 (0 + 1), [(91, .ptr bx0 0)], [], []⟩) (fun t hm => One.step rfl (.free rfl) (OpT.fieldPtr rfl (dk rfl) ul88 rfl i3 (by decide) hm.s0 rfl)) (Ct.mo rfl rfl) ?_
 refine DG.step (c := ⟨some 93, .int .i64 (IntKind.i64.wrap ((IntKind.i64.wrap (x0.at_ + (1 : Int))) + (1 : Int))), [(92, .ptr bx0 (0 + 1))], [(0, (o88 bx0 x0.s (IntKind.i64.wrap ((IntKind.i64.wrap (x0.at_ + (1 : Int))) + (1 : Int))) (γ_182 0) x0.deep x0.e x0.where_))], []⟩) (fun t hm => One.step rfl (.free rfl) (OpT.loadBox (i := 0) rfl (dk rfl) ul3 rfl hm.s0 hm.o0 rfl rfl)) (Ct.mo rfl rfl) ?_
 obtain ⟨g_201, h⟩ := ck_some h
 refine DG.step (c := ⟨some 94, .int .u8 (bt x0.s (IntKind.i64.wrap ((IntKind.i64.wrap (x0.at_ + (1 : Int))) + (1 : Int)))), [(89, .str x0.s), (93, .int .i64 (IntKind.i64.wrap ((IntKind.i64.wrap (x0.at_ + (1 : Int))) + (1 : Int))))], [], []⟩) (fun t hm => One.step rfl (.free rfl) (OpT.indexStr rfl (dk rfl) ul9 hm.s0 hm.s1 g_201.1 g_201.2 rfl)) (Ct.mo rfl rfl) ?_
 cases h
 refine T.condF rfl c_193 ?_
 refine T.seq ?_
 refine T.rL ?_
 refine mw rfl ?_
 obtain ⟨v_202, e_203, h⟩ := bind_some h
 refine sp rfl (OpT.callPA rfl (dk rfl) Tryd.func105 rfl rfl Args.nil (CallR.nil (r4_special_T K e_203)) ?_)
 obtain ⟨v_204, e_205, h⟩ := bind_some h
 refine sp rfl (OpT.callPA rfl (dk rfl) Tryd.func104 rfl rfl (Args.cons rfl (Args.cons rfl Args.nil)) (CallR.nil (r4_in_T K e_205)) ?_)
 refine mw rfl ?_
 rcases bif_some h with ⟨c_206, h⟩ | ⟨c_206, h⟩
 refine TL'.passU (.off _ _ _ _ rfl rfl rfl c_206) (dk rfl) ?_
 refine TL'.passU (.off _ _ _ _ rfl rfl rfl c_206) (dk rfl) ?_
 refine sp rfl (OpT.pickT rfl (dk rfl) rfl c_206 rfl ?_)
 refine aw rfl ?_
 refine TL'.nil (tN ?_)
 refine T.condT rfl rfl ?_
 refine T.by_turn ?_ (r4r_one_j0_T K bx0 (bt x0.s ((IntKind.i64.wrap (x0.at_ + (1 : Int))))) x0.s (IntKind.i64.wrap ((IntKind.i64.wrap (x0.at_ + (1 : Int))) + (1 : Int))) x0.deep x0.e x0.where_ x0.nodes (γ_182 0) h)
 exact Turn.rp (.cons rfl (.nil _)) (.c .z (.c .z (.n _)))
 refine TL'.step (.on rfl rfl rfl c_206) (OpT.move rfl (dk rfl) rfl ?_)
 refine TL'.step (.on rfl rfl rfl c_206) (OpT.int2 rfl rfl (dk rfl) rfl rfl ?_)
 refine sp rfl (OpT.pickF rfl (dk rfl) rfl c_206 rfl ?_)
 refine aw rfl ?_
 refine TL'.nil (tN ?_)
 rcases bif_some h with ⟨c_207, h⟩ | ⟨c_207, h⟩
 refine T.condT rfl c_207 ?_
 refine T.by_turn ?_ (r4r_one_j0_T K bx0 (bt x0.s ((IntKind.i64.wrap (x0.at_ + (1 : Int))))) x0.s (IntKind.i64.wrap ((IntKind.i64.wrap (x0.at_ + (1 : Int))) + (1 : Int))) x0.deep x0.e x0.where_ x0.nodes (γ_182 0) h)
 exact Turn.rp (.cons rfl (.nil _)) (.c .z (.c .z (.n _)))
 refine T.condF rfl c_207 ?_
 refine T.skip (inBlock_normal (tN ?_))
 refine T.seq ?_
 refine T.rL ?_
 refine mw rfl ?_
 refine mw rfl ?_
 obtain ⟨v_208, e_209, h⟩ := bind_some h
 refine sp rfl (OpT.callG (is := [0, 1]) (ph := []) rfl (dk rfl) Tryd.func50 rfl rfl (Args.cons rfl (Args.cons rfl (Args.cons rfl Args.nil))) (r4r_fail_T K (bx0 := bx0) (wx0c2 := (γ_182 0)) e_209) (.cons rfl rfl (.cons rfl rfl (.nil))) (fun _ => rfl) (fun γ_210 => ?_))
 refine nm (.c (.c (.n))) ?_
 refine TL'.nil (tN ?_)
 refine T.seq ?_
 refine T.rL ?_
 refine aw rfl ?_
 refine TL'.nil (tN ?_)
 refine T.ret ?_
 exact Fin.doneK (.cons _ _ _ _ (.tmp 2 _ rfl) .nil) (.cons 0 rfl (.cons 0 rfl (.nil _))) (by cases h; exact ⟨gl [γ_210 0], rfl, rfl⟩)
abbrev r1_Has_q (r : Bool) : Exit → St → Prop := retS Tryd.prog Tryd.f55 (fun y t => y = (.bool r) ∧ t = [])
theorem r1_Has_T (K : Nat) {x0 : Arr4} {x1 : Int} {r : Bool} (h : r1_Has K x0 x1 = some r) : CallR Tryd.prog 55 [.agg (Arr4.dc .u64 x0), .int .u8 x1] [] (.bool r) := by
 refine CallT.intro Tryd.func55 rfl (nb rfl) ?_
 show T Tryd.prog 14 (Code.at [] (codeOf Tryd.f55)) ⟨paramSlots 0 [.agg (Arr4.dc .u64 x0), .int .u8 x1], []⟩ (r1_Has_q r)
 unfold r1_Has at h
 refine T.seq ?_
 refine T.rL ?_
 refine sp rfl (OpT.boxAgg rfl (dk rfl) rfl (fun b_10 => ?_))
 refine aw rfl ?_
 refine TL'.nil (tN ?_)
 refine T.seq ?_
 refine T.rL ?_
 refine mw rfl ?_
 refine sp rfl (OpT.quo rfl (dk rfl) rfl rfl (by decide) ?_)
 obtain ⟨g_11, h⟩ := ck_some h
 refine sp rfl (OpT.indexPtr rfl (dk rfl) ul25 i23 rfl rfl g_11.1 g_11.2 ?_)
 refine sp rfl (OpT.loadBox (i := 0) rfl (dk rfl) ul23 rfl rfl rfl (Arr4.oc_get (k := .u64) (a := x0) (pre := []) (post := []) g_11.1 g_11.2) ?_)
 refine mw rfl ?_
 refine sp rfl (OpT.rem rfl (dk rfl) rfl rfl (by decide) ?_)
 obtain ⟨g_12, h⟩ := ck_some h
 refine sp rfl (OpT.shr rfl (dk rfl) rfl rfl g_12 ?_)
 refine sp rfl (OpT.rem rfl (dk rfl) rfl rfl (by decide) ?_)
 refine sp rfl (OpT.int2 rfl rfl (dk rfl) rfl rfl ?_)
 refine aw rfl ?_
 refine TL'.nil (tN ?_)
 refine T.ret ?_
 exact Fin.done (.cons _ _ _ _ (.tmp 4 _ rfl) .nil) (by cases h; exact ⟨rfl, rfl⟩)
abbrev r1_with_q (r : Arr4) : Exit → St → Prop := retS Tryd.prog Tryd.f41 (fun y t => y = (.agg (Arr4.dc .u64 r)) ∧ t = [])
theorem r1_with_T (K : Nat) {x0 : Arr4} {x1 : Int} {r : Arr4} (h : r1_with K x0 x1 = some r) : CallR Tryd.prog 41 [.agg (Arr4.dc .u64 x0), .int .u8 x1] [] (.agg (Arr4.dc .u64 r)) := by
 refine CallT.intro Tryd.func41 rfl (nb rfl) ?_
 show T Tryd.prog 21 (Code.at [] (codeOf Tryd.f41)) ⟨paramSlots 0 [.agg (Arr4.dc .u64 x0), .int .u8 x1], []⟩ (r1_with_q r)
 unfold r1_with at h
 refine T.seq ?_
 refine T.rL ?_
 refine sp rfl (OpT.boxAgg rfl (dk rfl) rfl (fun b_29 => ?_))
 refine sp rfl (OpT.alloc' rfl (dk rfl) i25 rfl (fun b_30 => ?_))
 refine TL'.nil (tN ?_)
 refine T.seq ?_
 refine T.seq ?_
 refine T.rL ?_
 refine sp rfl (OpT.loadBoxAgg (i := 1) (l := (Arr4.dc .u64 x0)) rfl (dk rfl) ul25 rfl i25 rfl rfl rfl rfl ?_)
 refine mw rfl ?_
 obtain ⟨v_31, e_32, h⟩ := bind_some h
 refine sp rfl (OpT.callPA rfl (dk rfl) Tryd.func55 rfl rfl (Args.cons rfl (Args.cons rfl Args.nil)) (CallR.nil (r1_Has_T K e_32)) ?_)
 refine sp rfl (OpT.not rfl (dk rfl) rfl ?_)
 refine TL'.nil (tN ?_)
 rcases bif_some h with ⟨c_33, h⟩ | ⟨c_33, h⟩
 refine T.condT rfl c_33 ?_
 refine T.rL ?_
 refine mw rfl ?_
 refine sp rfl (OpT.quo rfl (dk rfl) rfl rfl (by decide) ?_)
 refine mw rfl ?_
 refine sp rfl (OpT.quo rfl (dk rfl) rfl rfl (by decide) ?_)
 obtain ⟨g_34, h⟩ := ck_some h
 refine sp rfl (OpT.indexPtr rfl (dk rfl) ul25 i23 rfl rfl g_34.1 g_34.2 ?_)
 refine sp rfl (OpT.loadBox (i := 1) rfl (dk rfl) ul23 rfl rfl rfl (Arr4.oc_get (k := .u64) (a := x0) (pre := []) (post := []) g_34.1 g_34.2) ?_)
 refine mw rfl ?_
 refine sp rfl (OpT.rem rfl (dk rfl) rfl rfl (by decide) ?_)
 obtain ⟨g_35, h⟩ := ck_some h
 refine sp rfl (OpT.shl rfl (dk rfl) rfl rfl g_35 ?_)
 refine sp rfl (OpT.int2 rfl rfl (dk rfl) rfl rfl ?_)
 refine sp rfl (OpT.indexPtr rfl (dk rfl) ul25 i23 rfl rfl g_34.1 g_34.2 ?_)
 refine sp rfl (OpT.storeTo (i := 1) (cells' := (Arr4.oc .u64 (Arr4.set x0 (IntKind.u8.wrap (Int.tdiv x1 (64 : Int))) (IntKind.u64.wrap ((Arr4.get x0 (IntKind.u8.wrap (Int.tdiv x1 (64 : Int)))) + (IntKind.u64.wrap ((1 : Int) * 2 ^ min (Int.toNat (Int.tmod x1 (64 : Int))) IntKind.u64.bits))))))) rfl rfl i23 rfl rfl rfl (Arr4.oc_lt (k := .u64) (a := x0) (pre := []) (post := []) g_34.1 g_34.2) (Arr4.oc_set (k := .u64) (a := x0) (pre := []) (post := []) g_34.1 g_34.2) ?_)
 refine TL'.nil (tN ?_)
 refine T.seq ?_
 refine T.rL ?_
 refine sp rfl (OpT.loadBoxAgg (i := 1) (l := (Arr4.dc .u64 (Arr4.set x0 (IntKind.u8.wrap (Int.tdiv x1 (64 : Int))) (IntKind.u64.wrap ((Arr4.get x0 (IntKind.u8.wrap (Int.tdiv x1 (64 : Int)))) + (IntKind.u64.wrap ((1 : Int) * 2 ^ min (Int.toNat (Int.tmod x1 (64 : Int))) IntKind.u64.bits))))))) rfl (dk rfl) ul25 rfl i25 rfl rfl rfl rfl ?_)
 refine sp rfl (OpT.storeAggTo (i := 0) (cells' := (Arr4.oc .u64 (Arr4.set x0 (IntKind.u8.wrap (Int.tdiv x1 (64 : Int))) (IntKind.u64.wrap ((Arr4.get x0 (IntKind.u8.wrap (Int.tdiv x1 (64 : Int)))) + (IntKind.u64.wrap ((1 : Int) * 2 ^ min (Int.toNat (Int.tmod x1 (64 : Int))) IntKind.u64.bits))))))) rfl rfl i25 rfl rfl rfl rfl (nb rfl) rfl ?_)
 refine TL'.nil (tN ?_)
 refine T.ret ?_
 exact Fin.done (.cons _ _ _ _ (.cellAgg 4 25 _ 0 0 25 _ (Arr4.dc .u64 (Arr4.set x0 (IntKind.u8.wrap (Int.tdiv x1 (64 : Int))) (IntKind.u64.wrap ((Arr4.get x0 (IntKind.u8.wrap (Int.tdiv x1 (64 : Int)))) + (IntKind.u64.wrap ((1 : Int) * 2 ^ min (Int.toNat (Int.tmod x1 (64 : Int))) IntKind.u64.bits)))))) _ _ 4 _ rfl rfl rfl rfl ul25 rfl i25) .nil) (by cases h; exact ⟨rfl, rfl⟩)
 refine T.condF rfl c_33 ?_
 refine T.skip (tN ?_)
 refine T.seq ?_
 refine T.rL ?_
 refine sp rfl (OpT.loadBoxAgg (i := 1) (l := (Arr4.dc .u64 x0)) rfl (dk rfl) ul25 rfl i25 rfl rfl rfl rfl ?_)
 refine sp rfl (OpT.storeAggTo (i := 0) (cells' := (Arr4.oc .u64 x0)) rfl rfl i25 rfl rfl rfl rfl (nb rfl) rfl ?_)
 refine TL'.nil (tN ?_)
 refine T.ret ?_
 exact Fin.done (.cons _ _ _ _ (.cellAgg 4 25 _ 0 0 25 _ (Arr4.dc .u64 x0) _ _ 4 _ rfl rfl rfl rfl ul25 rfl i25) .nil) (by cases h; exact ⟨rfl, rfl⟩)
abbrev r1_Of_q (r : Arr4) : Exit → St → Prop := retS Tryd.prog Tryd.f19 (fun y t => y = (.agg (Arr4.dc .u64 r)) ∧ t = [])
abbrev r1_Of_qs111 (r : Arr4) : Exit → St → Prop := thenS (fun s' => T Tryd.prog 19 (Code.at [1, 1, 1] (codeOf Tryd.f19)) s' ((r1_Of_q r))) ((r1_Of_q r))
abbrev r1_Of_qb0x111 (r : Arr4) : Exit → St → Prop := inBlockS 0 ((r1_Of_qs111 r))
theorem r1_Of_l0_T {r : Arr4} (K : Nat) : ∀ (k : Nat), ∀ (x0 : List Int) (x4_0_3 : Int) (y2_0_1 : Arr4) (y3_0_2 : Arr4) (flx0 : Bool) (b2_0 : Nat) (b3_0 : Nat), r1_Of_l0 K k x0 x4_0_3 y2_0_1 y3_0_2 = some r → TL Tryd.prog 19 (Code.at [1, 1, 0, 1, 0, 0] (codeOf Tryd.f19)) ⟨[(0, .sl flx0 1 (x0.map (cI .u8))), (2, .ptr b2_0 0), (3, .ptr b3_0 0), (4, .int .i64 x4_0_3)], [.box b2_0 25 (Arr4.oc .u64 y2_0_1), .box b3_0 25 (Arr4.oc .u64 y3_0_2)]⟩ (r1_Of_qb0x111 r) := by
  intro k
  induction k with
  | zero =>
    intro x0 x4_0_3 y2_0_1 y3_0_2 flx0 b2_0 b3_0 h
    cases (show (none : Option Arr4) = some r from h)
  | succ k ih =>
    intro x0 x4_0_3 y2_0_1 y3_0_2 flx0 b2_0 b3_0 h
    rw [r1_Of_l0] at h
    refine TL.round ?_
    refine T.seq ?_
    refine T.seq ?_
    refine T.rL ?_
    refine mv rfl rfl rfl rfl rfl ?_
    refine mv rfl rfl rfl rfl rfl ?_
    refine sp rfl (OpT.lenSlM (xs := x0) (f := (cI .u8)) rfl (dl rfl rfl) Tryd.underlying32 rfl ?_)
    refine sp rfl (OpT.int2 rfl rfl (dl rfl rfl) rfl rfl ?_)
    refine TL'.nil (tN ?_)
    rcases bif_some h with ⟨c_99, h⟩ | ⟨c_99, h⟩
    · refine T.condT rfl c_99 ?_
      refine T.skip (tN ?_)
      refine T.seq ?_
      refine T.block ?_
      refine DG.start ?_
      refine DG.step (c := ⟨some 12, .agg (Arr4.dc .u64 y3_0_2), [(3, .ptr b3_0 0)], [(1, .box b3_0 25 (Arr4.oc .u64 y3_0_2))], []⟩) (fun t hm => One.step rfl (.free rfl) (OpT.loadBoxAgg (i := 1) (l := (Arr4.dc .u64 y3_0_2)) rfl (dl rfl rfl) Tryd.underlying25 rfl i25 hm.s0 hm.o0 rfl rfl rfl)) (Ct.mo rfl rfl) ?_
      refine DG.mv rfl rfl rfl rfl rfl rfl ?_
      refine DG.mv rfl rfl rfl rfl rfl rfl ?_
      obtain ⟨v_105, e_106, h⟩ := bind_some h
      refine DG.step (c := ⟨some 15, .ref [.int .u8 v_105], [(13, .sl flx0 1 (x0.map (cI .u8))), (14, .int .i64 x4_0_3)], [], []⟩) (fun t hm => One.step rfl (.free rfl) (OpT.indexSlM (xs := x0) (f := (cI .u8)) (v := v_105) rfl (dl rfl rfl) Tryd.underlying32 i5 hm.s0 hm.s1 e_106 rfl)) (Ct.mo rfl rfl) ?_
      refine DG.step (c := ⟨some 16, .int .u8 v_105, [(15, .ref [.int .u8 v_105])], [], []⟩) (fun t hm => One.step rfl (.free rfl) (OpT.loadRef rfl (dl rfl rfl) Tryd.underlying5 rfl hm.s0 rfl rfl)) (Ct.mo rfl rfl) ?_
      obtain ⟨v_107, e_108, h⟩ := bind_some h
      refine DG.step (c := ⟨some 17, .agg (Arr4.dc .u64 v_107), [(12, .agg (Arr4.dc .u64 y3_0_2)), (16, .int .u8 v_105)], [], []⟩) (fun t hm => One.step rfl (.free rfl) (OpT.callPA rfl (dl rfl rfl) Tryd.func41 rfl rfl (Args.cons hm.s0 (Args.cons hm.s1 Args.nil)) (CallR.nil (r1_with_T K e_108)) rfl)) (Ct.mo rfl rfl) ?_
      refine DG.step (c := ⟨none, .any, [(3, .ptr b3_0 0), (17, .agg (Arr4.dc .u64 v_107))], [(1, .box b3_0 25 (Arr4.oc .u64 y3_0_2))], [(1, .box b3_0 25 (Arr4.oc .u64 v_107))]⟩) (fun t hm => One.step rfl (.free rfl) (OpT.storeAggTo (i := 1) (cells' := (Arr4.oc .u64 v_107)) rfl rfl i25 hm.s0 hm.s1 rfl hm.o0 (Nat.le_of_ble_eq_true rfl) rfl rfl)) (Ct.mo rfl rfl) ?_
      refine DG.fin (s1 := ⟨[(0, .sl flx0 1 (x0.map (cI .u8))), (2, .ptr b2_0 0), (3, .ptr b3_0 0), (4, .int .i64 x4_0_3)], [.box b2_0 25 (Arr4.oc .u64 y2_0_1), .box b3_0 25 (Arr4.oc .u64 v_107)]⟩) (ms := [0, 0, 0, 6, 14, 31, 63]) TrydMixed rfl (by kernel_rfl) (by kernel_rfl) (by kernel_rfl) (.cons rfl (.cons rfl (.cons rfl (.cons rfl (.nil _))))) rfl (fun u hu => (inBlock_normal (tN (T.by_turn hu ?_))))
      refine T.rL ?_
      refine mv rfl rfl rfl rfl rfl ?_
      refine sp rfl (OpT.int2 rfl rfl (dl rfl rfl) rfl rfl ?_)
      refine asg rfl rfl rfl rfl rfl ?_
      refine TL'.nil (tN ?_)
      refine TL.by_turn ?_ (ih x0 (IntKind.i64.wrap (x4_0_3 + (1 : Int))) y2_0_1 v_107 flx0 b2_0 b3_0 h)
      exact Turn.rp (.cons rfl (.cons rfl (.cons rfl (.cons rfl (.nil _))))) (.c .z (.c .z (.n _)))
    · refine T.condF rfl c_99 ?_
      refine T.exit (thenS_exit (thenS_exit (inBlock_exit (tN ?_))))
      refine T.seq ?_
      refine T.rL ?_
      refine sp rfl (OpT.loadBoxAgg (i := 1) (l := (Arr4.dc .u64 y3_0_2)) rfl (dl rfl rfl) Tryd.underlying25 rfl i25 rfl rfl rfl rfl ?_)
      refine sp rfl (OpT.storeAggTo (i := 0) (cells' := (Arr4.oc .u64 y3_0_2)) rfl rfl i25 rfl rfl rfl rfl (Nat.le_of_ble_eq_true rfl) rfl ?_)
      refine TL'.nil (tN ?_)
      refine T.ret ?_
      exact Fin.done (.cons _ _ _ _ (.cellAgg 2 25 _ 0 0 25 _ (Arr4.dc .u64 y3_0_2) _ _ 4 _ rfl rfl rfl rfl Tryd.underlying25 rfl i25) .nil) (by cases h; exact ⟨rfl, rfl⟩)
theorem r1_Of_T (K : Nat) {x0 : List Int} {flx0 : Bool} {r : Arr4} (h : r1_Of K x0 = some r) : CallR Tryd.prog 19 [.sl flx0 1 (x0.map (cI .u8))] [] (.agg (Arr4.dc .u64 r)) := by
 refine CallT.intro Tryd.func19 rfl (nb rfl) ?_
 show T Tryd.prog 19 (Code.at [] (codeOf Tryd.f19)) ⟨paramSlots 0 [.sl flx0 1 (x0.map (cI .u8))], []⟩ (r1_Of_q r)
 unfold r1_Of at h
 refine T.seq ?_
 refine T.rL ?_
 refine sp rfl (OpT.alloc' rfl (dk rfl) i25 rfl (fun b_97 => ?_))
 refine TL'.nil (tN ?_)
 refine T.seq ?_
 refine T.rL ?_
 refine sp rfl (OpT.build (l := (Arr4.dc .u64 (Arr4.mk 0 0 0 0))) rfl (dk rfl) (built_arr ul25 i25 i23) (all1 rfl) rfl rfl ?_)
 refine sp rfl (OpT.alloc' rfl (dk rfl) i25 rfl (fun b_98 => ?_))
 refine sp rfl (OpT.storeAggTo (i := 0) (cells' := (Arr4.oc .u64 (Arr4.mk 0 0 0 0))) rfl rfl i25 rfl rfl rfl rfl (nb rfl) rfl ?_)
 refine TL'.nil (tN ?_)
 refine T.seq ?_
 refine T.seq ?_
 refine T.rL ?_
 refine aw rfl ?_
 refine TL'.nil (tN ?_)
 refine T.block ?_
 refine T.loop ?_
 refine TL.by_turn ?_ (r1_Of_l0_T K K x0 (0 : Int) (Arr4.mk 0 0 0 0) (Arr4.mk 0 0 0 0) flx0 b_97 b_98 h)
 exact Turn.rp (.cons rfl (.cons rfl (.cons rfl (.cons rfl (.nil _))))) (.c (.s .z) (.c .z (.n _)))
abbrev r1_Not_q (r : Arr4) : Exit → St → Prop := retS Tryd.prog Tryd.f34 (fun y t => y = (.agg (Arr4.dc .u64 r)) ∧ t = [])
abbrev r1_Not_qs111 (r : Arr4) : Exit → St → Prop := thenS (fun s' => T Tryd.prog 20 (Code.at [1, 1, 1] (codeOf Tryd.f34)) s' ((r1_Not_q r))) ((r1_Not_q r))
abbrev r1_Not_qb0x111 (r : Arr4) : Exit → St → Prop := inBlockS 0 ((r1_Not_qs111 r))
theorem r1_Not_l0_T {r : Arr4} (K : Nat) : ∀ (k : Nat), ∀ (x4_0_3 : Int) (x0 : Arr4) (y2_0_1 : Arr4) (y3_0_2 : Arr4) (b1_0 : Nat) (b2_0 : Nat) (b3_0 : Nat), r1_Not_l0 K k x4_0_3 x0 y2_0_1 y3_0_2 = some r → TL Tryd.prog 20 (Code.at [1, 1, 0, 1, 0, 0] (codeOf Tryd.f34)) ⟨[(1, .ptr b1_0 0), (2, .ptr b2_0 0), (3, .ptr b3_0 0), (4, .int .i64 x4_0_3)], [.box b1_0 25 (Arr4.oc .u64 x0), .box b2_0 25 (Arr4.oc .u64 y2_0_1), .box b3_0 25 (Arr4.oc .u64 y3_0_2)]⟩ (r1_Not_qb0x111 r) := by
  intro k
  induction k with
  | zero =>
    intro x4_0_3 x0 y2_0_1 y3_0_2 b1_0 b2_0 b3_0 h
    cases (show (none : Option Arr4) = some r from h)
  | succ k ih =>
    intro x4_0_3 x0 y2_0_1 y3_0_2 b1_0 b2_0 b3_0 h
    rw [r1_Not_l0] at h
    refine TL.round ?_
    refine T.seq ?_
    refine T.seq ?_
    refine T.rL ?_
    refine mv rfl rfl rfl rfl rfl ?_
    refine sp rfl (OpT.int2 rfl rfl (dl rfl rfl) rfl rfl ?_)
    refine TL'.nil (tN ?_)
    rcases bif_some h with ⟨c_83, h⟩ | ⟨c_83, h⟩
    · refine T.condT rfl c_83 ?_
      refine T.skip (tN ?_)
      refine T.seq ?_
      refine T.block ?_
      refine T.seq ?_
      refine T.rL ?_
      refine sp rfl (OpT.loadBoxAgg (i := 0) (l := (Arr4.dc .u64 x0)) rfl (dl rfl rfl) Tryd.underlying25 rfl i25 rfl rfl rfl rfl ?_)
      refine mv rfl rfl rfl rfl rfl ?_
      refine sp rfl (OpT.convInt rfl (dl rfl rfl) Tryd.underlying3 Tryd.underlying5 rfl ?_)
      obtain ⟨v_84, e_85, h⟩ := bind_some h
      refine sp rfl (OpT.callPA rfl (dl rfl rfl) Tryd.func55 rfl rfl (Args.cons rfl (Args.cons rfl Args.nil)) (CallR.nil (r1_Has_T K e_85)) ?_)
      refine sp rfl (OpT.not rfl (dl rfl rfl) rfl ?_)
      refine TL'.nil (tN ?_)
      rcases bif_some h with ⟨c_86, h⟩ | ⟨c_86, h⟩
      · refine T.condT rfl c_86 ?_
        refine T.rL ?_
        refine sp rfl (OpT.loadBoxAgg (i := 2) (l := (Arr4.dc .u64 y3_0_2)) rfl (dl rfl rfl) Tryd.underlying25 rfl i25 rfl rfl rfl rfl ?_)
        refine mv rfl rfl rfl rfl rfl ?_
        refine sp rfl (OpT.convInt rfl (dl rfl rfl) Tryd.underlying3 Tryd.underlying5 rfl ?_)
        obtain ⟨v_87, e_88, h⟩ := bind_some h
        refine sp rfl (OpT.callPA rfl (dl rfl rfl) Tryd.func41 rfl rfl (Args.cons rfl (Args.cons rfl Args.nil)) (CallR.nil (r1_with_T K e_88)) ?_)
        refine sp rfl (OpT.storeAggTo (i := 2) (cells' := (Arr4.oc .u64 v_87)) rfl rfl i25 rfl rfl rfl rfl (Nat.le_of_ble_eq_true rfl) rfl ?_)
        refine TL'.nil (inBlock_normal (tN ?_))
        refine T.rL ?_
        refine mv rfl rfl rfl rfl rfl ?_
        refine sp rfl (OpT.int2 rfl rfl (dl rfl rfl) rfl rfl ?_)
        refine asg rfl rfl rfl rfl rfl ?_
        refine TL'.nil (tN ?_)
        refine TL.by_turn ?_ (ih (IntKind.i64.wrap (x4_0_3 + (1 : Int))) x0 y2_0_1 v_87 b1_0 b2_0 b3_0 h)
        exact Turn.rp (.cons rfl (.cons rfl (.cons rfl (.cons rfl (.nil _))))) (.c .z (.c .z (.c .z (.n _))))
      · refine T.condF rfl c_86 ?_
        refine T.skip (inBlock_normal (tN ?_))
        refine T.rL ?_
        refine mv rfl rfl rfl rfl rfl ?_
        refine sp rfl (OpT.int2 rfl rfl (dl rfl rfl) rfl rfl ?_)
        refine asg rfl rfl rfl rfl rfl ?_
        refine TL'.nil (tN ?_)
        refine TL.by_turn ?_ (ih (IntKind.i64.wrap (x4_0_3 + (1 : Int))) x0 y2_0_1 y3_0_2 b1_0 b2_0 b3_0 h)
        exact Turn.rp (.cons rfl (.cons rfl (.cons rfl (.cons rfl (.nil _))))) (.c .z (.c .z (.c .z (.n _))))
    · refine T.condF rfl c_83 ?_
      refine T.exit (thenS_exit (thenS_exit (inBlock_exit (tN ?_))))
      refine T.seq ?_
      refine T.rL ?_
      refine sp rfl (OpT.loadBoxAgg (i := 2) (l := (Arr4.dc .u64 y3_0_2)) rfl (dl rfl rfl) Tryd.underlying25 rfl i25 rfl rfl rfl rfl ?_)
      refine sp rfl (OpT.storeAggTo (i := 1) (cells' := (Arr4.oc .u64 y3_0_2)) rfl rfl i25 rfl rfl rfl rfl (Nat.le_of_ble_eq_true rfl) rfl ?_)
      refine TL'.nil (tN ?_)
      refine T.ret ?_
      exact Fin.done (.cons _ _ _ _ (.cellAgg 2 25 _ 0 1 25 _ (Arr4.dc .u64 y3_0_2) _ _ 4 _ rfl rfl rfl rfl Tryd.underlying25 rfl i25) .nil) (by cases h; exact ⟨rfl, rfl⟩)
theorem r1_Not_T (K : Nat) {x0 : Arr4} {r : Arr4} (h : r1_Not K x0 = some r) : CallR Tryd.prog 34 [.agg (Arr4.dc .u64 x0)] [] (.agg (Arr4.dc .u64 r)) := by
 refine CallT.intro Tryd.func34 rfl (nb rfl) ?_
 show T Tryd.prog 20 (Code.at [] (codeOf Tryd.f34)) ⟨paramSlots 0 [.agg (Arr4.dc .u64 x0)], []⟩ (r1_Not_q r)
 unfold r1_Not at h
 refine T.seq ?_
 refine T.rL ?_
 refine sp rfl (OpT.boxAgg rfl (dk rfl) rfl (fun b_80 => ?_))
 refine sp rfl (OpT.alloc' rfl (dk rfl) i25 rfl (fun b_81 => ?_))
 refine TL'.nil (tN ?_)
 refine T.seq ?_
 refine T.rL ?_
 refine sp rfl (OpT.build (l := (Arr4.dc .u64 (Arr4.mk 0 0 0 0))) rfl (dk rfl) (built_arr ul25 i25 i23) (all1 rfl) rfl rfl ?_)
 refine sp rfl (OpT.alloc' rfl (dk rfl) i25 rfl (fun b_82 => ?_))
 refine sp rfl (OpT.storeAggTo (i := 0) (cells' := (Arr4.oc .u64 (Arr4.mk 0 0 0 0))) rfl rfl i25 rfl rfl rfl rfl (nb rfl) rfl ?_)
 refine TL'.nil (tN ?_)
 refine T.seq ?_
 refine T.seq ?_
 refine T.rL ?_
 refine aw rfl ?_
 refine TL'.nil (tN ?_)
 refine T.block ?_
 refine T.loop ?_
 refine TL.by_turn ?_ (r1_Not_l0_T K K (0 : Int) x0 (Arr4.mk 0 0 0 0) (Arr4.mk 0 0 0 0) b_80 b_81 b_82 h)
 exact Turn.rp (.cons rfl (.cons rfl (.cons rfl (.cons rfl (.nil _))))) (.c (.s (.s .z)) (.c (.s .z) (.c .z (.n _))))
abbrev r4r_group_q (bx0 : Nat) (r : Int × r4r) : Exit → St → Prop := retS Tryd.prog Tryd.f101 (fun y t => ∃ γ : Nat → Value, y = (.int .i64 r.1) ∧ t = [(o88 bx0 r.2.s r.2.at_ (γ 0) r.2.deep r.2.e r.2.where_), .arrA (γ 0) 42 9 (r.2.nodes.map c_aNd)])
theorem r4r_group_T (K : Nat) (rec_r4r_alternative : r4r → Option (Int × r4r)) (hrec_r4r_alternative : r4r_alternative_S rec_r4r_alternative) {x0 : r4r} {bx0 : Nat} {wx0c2 : Value} {r : Int × r4r} (h : r4r_group K rec_r4r_alternative x0 = some r) : CallG Tryd.prog 101 [.ptr bx0 0] [(o88 bx0 x0.s x0.at_ wx0c2 x0.deep x0.e x0.where_), .arrA wx0c2 42 9 (x0.nodes.map c_aNd)] (fun γ => (.int .i64 r.1)) (fun γ => [(o88 bx0 r.2.s r.2.at_ (γ 0) r.2.deep r.2.e r.2.where_), .arrA (γ 0) 42 9 (r.2.nodes.map c_aNd)]) := by
 refine CallT.intro Tryd.func101 rfl (nb rfl) ?_
 show T Tryd.prog 55 (Code.at [] (codeOf Tryd.f101)) ⟨paramSlots 0 [.ptr bx0 0], [(o88 bx0 x0.s x0.at_ wx0c2 x0.deep x0.e x0.where_), .arrA wx0c2 42 9 (x0.nodes.map c_aNd)]⟩ (r4r_group_q bx0 r)
 unfold r4r_group at h
 refine T.seq ?_
 refine T.rL ?_
 refine aw rfl ?_
 refine TL'.nil (tN ?_)
 refine T.seq ?_
 refine T.seq ?_
 refine T.rL ?_
 refine mw rfl ?_
 refine sp rfl (OpT.nilCheck rfl (dk rfl) rfl rfl ?_)
 refine sp rfl (OpT.fieldPtr rfl (dk rfl) ul88 rfl i3 (by decide) rfl ?_)
 refine sp rfl (OpT.loadBox (i := 0) rfl (dk rfl) ul3 rfl rfl rfl rfl ?_)
 refine sp rfl (OpT.int2 rfl rfl (dk rfl) rfl rfl ?_)
 refine TL'.nil (tN ?_)
 rcases bif_some h with ⟨c_57, h⟩ | ⟨c_57, h⟩
 refine T.condT rfl c_57 ?_
 refine T.seq ?_
 refine T.rL ?_
 refine mw rfl ?_
 refine mw rfl ?_
 refine sp rfl (OpT.nilCheck rfl (dk rfl) rfl rfl ?_)
 refine sp rfl (OpT.fieldPtr rfl (dk rfl) ul88 rfl i3 (by decide) rfl ?_)
 refine sp rfl (OpT.loadBox (i := 0) rfl (dk rfl) ul3 rfl rfl rfl rfl ?_)
 obtain ⟨v_58, e_59, h⟩ := bind_some h
 refine sp rfl (OpT.callG (is := [0, 1]) (ph := []) rfl (dk rfl) Tryd.func50 rfl rfl (Args.cons rfl (Args.cons rfl (Args.cons rfl Args.nil))) (r4r_fail_T K (bx0 := bx0) (wx0c2 := wx0c2) e_59) (.cons rfl rfl (.cons rfl rfl (.nil))) (fun _ => rfl) (fun γ_60 => ?_))
 refine nm (.c (.c (.n))) ?_
 refine TL'.nil (tN ?_)
 refine T.seq ?_
 refine T.rL ?_
 refine aw rfl ?_
 refine TL'.nil (tN ?_)
 refine T.ret (thenS_ret ?_)
 exact Fin.doneK (.cons _ _ _ _ (.tmp 2 _ rfl) .nil) (.cons 0 rfl (.cons 0 rfl (.nil _))) (by cases h; exact ⟨gl [γ_60 0], rfl, rfl⟩)
 refine T.condF rfl c_57 ?_
 refine T.skip (tN ?_)
 refine T.seq ?_
 refine T.rL ?_
 refine mw rfl ?_
 refine sp rfl (OpT.nilCheck rfl (dk rfl) rfl rfl ?_)
 refine sp rfl (OpT.fieldPtr rfl (dk rfl) ul88 rfl i3 (by decide) rfl ?_)
 refine sp rfl (OpT.loadBox (i := 0) rfl (dk rfl) ul3 rfl rfl rfl rfl ?_)
 refine sp rfl (OpT.int2 rfl rfl (dk rfl) rfl rfl ?_)
 refine sp rfl (OpT.nilCheck rfl (dk rfl) rfl rfl ?_)
 refine sp rfl (OpT.fieldPtr rfl (dk rfl) ul88 rfl i3 (by decide) rfl ?_)
 refine sp rfl (OpT.storeTo (i := 0) (cells' := [.d (.str x0.s), .d (.int .i64 (IntKind.i64.wrap (x0.at_ + (1 : Int)))), .d (.ex wx0c2), .d (.int .i64 x0.deep), .d (.int .i64 x0.e), .d (.int .i64 x0.where_)]) rfl rfl i3 rfl rfl rfl (nb rfl) rfl ?_)
 refine TL'.nil (tN ?_)
 refine T.seq ?_
 refine T.rL ?_
 refine mw rfl ?_
 refine sp rfl (OpT.nilCheck rfl (dk rfl) rfl rfl ?_)
 refine sp rfl (OpT.fieldPtr rfl (dk rfl) ul88 rfl i3 (by decide) rfl ?_)
 refine sp rfl (OpT.loadBox (i := 0) rfl (dk rfl) ul3 rfl rfl rfl rfl ?_)
 refine sp rfl (OpT.int2 rfl rfl (dk rfl) rfl rfl ?_)
 refine sp rfl (OpT.nilCheck rfl (dk rfl) rfl rfl ?_)
 refine sp rfl (OpT.fieldPtr rfl (dk rfl) ul88 rfl i3 (by decide) rfl ?_)
 refine sp rfl (OpT.storeTo (i := 0) (cells' := [.d (.str x0.s), .d (.int .i64 (IntKind.i64.wrap (x0.at_ + (1 : Int)))), .d (.ex wx0c2), .d (.int .i64 (IntKind.i64.wrap (x0.deep + (1 : Int)))), .d (.int .i64 x0.e), .d (.int .i64 x0.where_)]) rfl rfl i3 rfl rfl rfl (nb rfl) rfl ?_)
 refine TL'.nil (tN ?_)
 refine T.seq ?_
 refine T.rL ?_
 refine mw rfl ?_
 obtain ⟨v_61, e_62, h⟩ := bind_some h
 refine sp rfl (OpT.callG (is := [0, 1]) (ph := []) rfl (dk rfl) Tryd.func48 rfl rfl (Args.cons rfl Args.nil) (hrec_r4r_alternative (r4r.mk x0.s (IntKind.i64.wrap (x0.at_ + (1 : Int))) x0.nodes (IntKind.i64.wrap (x0.deep + (1 : Int))) x0.e x0.where_) bx0 wx0c2 _ e_62) (.cons rfl rfl (.cons rfl rfl (.nil))) (fun _ => rfl) (fun γ_63 => ?_))
 refine nm (.c (.c (.n))) ?_
 refine aw rfl ?_
 refine TL'.nil (tN ?_)
 refine T.seq ?_
 refine T.rL ?_
 refine mw rfl ?_
 refine sp rfl (OpT.nilCheck rfl (dk rfl) rfl rfl ?_)
 refine sp rfl (OpT.fieldPtr rfl (dk rfl) ul88 rfl i3 (by decide) rfl ?_)
 refine sp rfl (OpT.loadBox (i := 0) rfl (dk rfl) ul3 rfl rfl rfl rfl ?_)
 refine sp rfl (OpT.int2 rfl rfl (dk rfl) rfl rfl ?_)
 refine sp rfl (OpT.nilCheck rfl (dk rfl) rfl rfl ?_)
 refine sp rfl (OpT.fieldPtr rfl (dk rfl) ul88 rfl i3 (by decide) rfl ?_)
 refine sp rfl (OpT.storeTo (i := 0) (cells' := [.d (.str v_61.2.s), .d (.int .i64 v_61.2.at_), .d (.ex (γ_63 0)), .d (.int .i64 (IntKind.i64.wrap (v_61.2.deep - (1 : Int)))), .d (.int .i64 v_61.2.e), .d (.int .i64 v_61.2.where_)]) rfl rfl i3 rfl rfl rfl (nb rfl) rfl ?_)
 refine TL'.nil (tN ?_)
 refine T.seq ?_
 refine T.seq ?_
 refine T.rL ?_
 refine mw rfl ?_
 obtain ⟨v_64, e_65, h⟩ := bind_some h
 refine sp rfl (OpT.callG (is := [0, 1]) (ph := []) rfl (dk rfl) Tryd.func49 rfl rfl (Args.cons rfl Args.nil) (r4r_ends_T K (bx0 := bx0) (wx0c2 := (γ_63 0)) e_65) (.cons rfl rfl (.cons rfl rfl (.nil))) (fun _ => rfl) (fun γ_66 => ?_))
 refine nm (.c (.c (.n))) ?_
 refine TL'.nil (tN ?_)
 rcases bif_some h with ⟨c_67, h⟩ | ⟨c_67, h⟩
 refine T.condT rfl c_67 ?_
 refine T.seq ?_
 refine T.rL ?_
 refine mw rfl ?_
 refine mw rfl ?_
 refine sp rfl (OpT.nilCheck rfl (dk rfl) rfl rfl ?_)
 refine sp rfl (OpT.fieldPtr rfl (dk rfl) ul88 rfl i9 (by decide) rfl ?_)
 refine sp rfl (OpT.loadBox (i := 0) rfl (dk rfl) ul9 rfl rfl rfl rfl ?_)
 refine sp rfl (OpT.lenStr rfl (dk rfl) ul9 rfl ?_)
 obtain ⟨v_68, e_69, h⟩ := bind_some h
 refine sp rfl (OpT.callG (is := [0, 1]) (ph := []) rfl (dk rfl) Tryd.func50 rfl rfl (Args.cons rfl (Args.cons rfl (Args.cons rfl Args.nil))) (r4r_fail_T K (bx0 := bx0) (wx0c2 := (γ_66 0)) e_69) (.cons rfl rfl (.cons rfl rfl (.nil))) (fun _ => rfl) (fun γ_70 => ?_))
 refine nm (.c (.c (.n))) ?_
 refine TL'.nil (tN ?_)
 refine T.seq ?_
 refine T.rL ?_
 refine aw rfl ?_
 refine TL'.nil (tN ?_)
 refine T.ret (thenS_ret ?_)
 exact Fin.doneK (.cons _ _ _ _ (.tmp 2 _ rfl) .nil) (.cons 0 rfl (.cons 0 rfl (.nil _))) (by cases h; exact ⟨gl [γ_70 0], rfl, rfl⟩)
 refine T.condF rfl c_67 ?_
 refine T.skip (tN ?_)
 refine T.seq ?_
 refine T.rL ?_
 refine mw rfl ?_
 refine sp rfl (OpT.nilCheck rfl (dk rfl) rfl rfl ?_)
 refine sp rfl (OpT.fieldPtr rfl (dk rfl) ul88 rfl i3 (by decide) rfl ?_)
 refine sp rfl (OpT.loadBox (i := 0) rfl (dk rfl) ul3 rfl rfl rfl rfl ?_)
 refine sp rfl (OpT.int2 rfl rfl (dk rfl) rfl rfl ?_)
 refine sp rfl (OpT.nilCheck rfl (dk rfl) rfl rfl ?_)
 refine sp rfl (OpT.fieldPtr rfl (dk rfl) ul88 rfl i3 (by decide) rfl ?_)
 refine sp rfl (OpT.storeTo (i := 0) (cells' := [.d (.str v_61.2.s), .d (.int .i64 (IntKind.i64.wrap (v_61.2.at_ + (1 : Int)))), .d (.ex (γ_66 0)), .d (.int .i64 ((IntKind.i64.wrap (v_61.2.deep - (1 : Int))))), .d (.int .i64 v_61.2.e), .d (.int .i64 v_61.2.where_)]) rfl rfl i3 rfl rfl rfl (nb rfl) rfl ?_)
 refine TL'.nil (tN ?_)
 refine T.seq ?_
 refine T.rL ?_
 refine mw rfl ?_
 refine aw rfl ?_
 refine TL'.nil (tN ?_)
 refine T.ret ?_
 exact Fin.doneK (.cons _ _ _ _ (.tmp 2 _ rfl) .nil) (.cons 0 rfl (.cons 0 rfl (.nil _))) (by cases h; exact ⟨gl [γ_66 0], rfl, rfl⟩)
abbrev r4r_atom_q (bx0 : Nat) (r : Int × r4r) : Exit → St → Prop := retS Tryd.prog Tryd.f90 (fun y t => ∃ γ : Nat → Value, y = (.int .i64 r.1) ∧ t = [(o88 bx0 r.2.s r.2.at_ (γ 0) r.2.deep r.2.e r.2.where_), .arrA (γ 0) 42 9 (r.2.nodes.map c_aNd)])
abbrev r4r_atom_qs111 (bx0 : Nat) (r : Int × r4r) : Exit → St → Prop := thenS (fun s' => T Tryd.prog 112 (Code.at [1, 1, 1] (codeOf Tryd.f90)) s' ((r4r_atom_q bx0 r))) ((r4r_atom_q bx0 r))
abbrev r4r_atom_qb0x111 (bx0 : Nat) (r : Int × r4r) : Exit → St → Prop := inBlockS 0 ((r4r_atom_qs111 bx0 r))
theorem r4r_atom_j0_T {r : Int × r4r} (K : Nat) (rec_r4r_alternative : r4r → Option (Int × r4r)) (hrec_r4r_alternative : r4r_alternative_S rec_r4r_alternative) (bx0 : Nat) (x0 : r4r) (w0_0 : Value) (h : r4r_atom_j0 K rec_r4r_alternative x0 = some r) : T Tryd.prog 112 (Code.at [1, 1, 0, 0, 1, 1, 1, 1, 1, 1, 1, 0] (codeOf Tryd.f90)) ⟨[(0, .ptr bx0 0)], [(o88 bx0 x0.s x0.at_ w0_0 x0.deep x0.e x0.where_), .arrA w0_0 42 9 (x0.nodes.map c_aNd)]⟩ (r4r_atom_qb0x111 bx0 r) := by
 unfold r4r_atom_j0 at h
 refine T.seq ?_
 refine T.rL ?_
 refine mw rfl ?_
 cases h
theorem r4r_atom_j2_T {r : Int × r4r} (K : Nat) (rec_r4r_alternative : r4r → Option (Int × r4r)) (hrec_r4r_alternative : r4r_alternative_S rec_r4r_alternative) (bx0 : Nat) (x0 : r4r) (w0_2 : Value) (h : r4r_atom_j2 K rec_r4r_alternative x0 = some r) : T Tryd.prog 112 (Code.at [1, 1, 0, 0, 1, 1, 1, 1, 1, 1, 1, 1, 1, 0] (codeOf Tryd.f90)) ⟨[(0, .ptr bx0 0)], [(o88 bx0 x0.s x0.at_ w0_2 x0.deep x0.e x0.where_), .arrA w0_2 42 9 (x0.nodes.map c_aNd)]⟩ (r4r_atom_qb0x111 bx0 r) := by
 unfold r4r_atom_j2 at h
 refine T.seq ?_
 refine T.rL ?_
 refine mw rfl ?_
 refine mw rfl ?_
 refine sp rfl (OpT.nilCheck rfl (dk rfl) rfl rfl ?_)
 refine sp rfl (OpT.fieldPtr rfl (dk rfl) ul88 rfl i3 (by decide) rfl ?_)
 refine sp rfl (OpT.loadBox (i := 0) rfl (dk rfl) ul3 rfl rfl rfl rfl ?_)
 obtain ⟨v_285, e_286, h⟩ := bind_some h
 refine sp rfl (OpT.callG (is := [0, 1]) (ph := []) rfl (dk rfl) Tryd.func50 rfl rfl (Args.cons rfl (Args.cons rfl (Args.cons rfl Args.nil))) (r4r_fail_T K (bx0 := bx0) (wx0c2 := w0_2) e_286) (.cons rfl rfl (.cons rfl rfl (.nil))) (fun _ => rfl) (fun γ_287 => ?_))
 refine nm (.c (.c (.n))) ?_
 refine TL'.nil (tN ?_)
 refine T.seq ?_
 refine T.rL ?_
 refine aw rfl ?_
 refine TL'.nil (tN ?_)
 refine T.ret (inBlock_ret (thenS_ret ?_))
 exact Fin.doneK (.cons _ _ _ _ (.tmp 2 _ rfl) .nil) (.cons 0 rfl (.cons 0 rfl (.nil _))) (by cases h; exact ⟨gl [γ_287 0], rfl, rfl⟩)
theorem r4r_atom_j3_T {r : Int × r4r} (K : Nat) (rec_r4r_alternative : r4r → Option (Int × r4r)) (hrec_r4r_alternative : r4r_alternative_S rec_r4r_alternative) (bx0 : Nat) (x0 : r4r) (w0_3 : Value) (h : r4r_atom_j3 K rec_r4r_alternative x0 = some r) : T Tryd.prog 112 (Code.at [1, 1, 0, 0, 1, 1, 1, 1, 1, 1, 1, 1, 1, 1, 1, 1] (codeOf Tryd.f90)) ⟨[(0, .ptr bx0 0)], [(o88 bx0 x0.s x0.at_ w0_3 x0.deep x0.e x0.where_), .arrA w0_3 42 9 (x0.nodes.map c_aNd)]⟩ (r4r_atom_qb0x111 bx0 r) := by
 unfold r4r_atom_j3 at h
 refine T.skip (inBlock_normal (tN ?_))
 refine T.seq ?_
 refine T.rL ?_
 refine mw rfl ?_
 obtain ⟨v_298, e_299, h⟩ := bind_some h
 refine sp rfl (OpT.callG (is := [0, 1]) (ph := []) rfl (dk rfl) Tryd.func106 rfl rfl (Args.cons rfl Args.nil) (r4r_one_T K (bx0 := bx0) (wx0c2 := w0_3) e_299) (.cons rfl rfl (.cons rfl rfl (.nil))) (fun _ => rfl) (fun γ_300 => ?_))
 refine nm (.c (.c (.n))) ?_
 refine aw rfl ?_
 refine TL'.nil (tN ?_)
 refine T.seq ?_
 refine T.seq ?_
 refine T.rL ?_
 refine mw rfl ?_
 refine sp rfl (OpT.nilCheck rfl (dk rfl) rfl rfl ?_)
 refine sp rfl (OpT.fieldPtr rfl (dk rfl) ul88 rfl i35 (by decide) rfl ?_)
 refine sp rfl (OpT.loadBox (i := 0) rfl (dk rfl) ul35 rfl rfl rfl rfl ?_)
 refine sp rfl (OpT.int2 rfl rfl (dk rfl) rfl rfl ?_)
 refine TL'.nil (tN ?_)
 rcases bif_some h with ⟨c_301, h⟩ | ⟨c_301, h⟩
 refine T.condT rfl c_301 ?_
 refine T.seq ?_
 refine T.rL ?_
 refine aw rfl ?_
 refine TL'.nil (tN ?_)
 refine T.ret (thenS_ret ?_)
 exact Fin.doneK (.cons _ _ _ _ (.tmp 2 _ rfl) .nil) (.cons 0 rfl (.cons 0 rfl (.nil _))) (by cases h; exact ⟨gl [γ_300 0], rfl, rfl⟩)
 refine T.condF rfl c_301 ?_
 refine T.skip (tN ?_)
 refine T.seq ?_
 refine T.rL ?_
 refine mw rfl ?_
 refine mw rfl ?_
 refine sp rfl (OpT.buildSlice (elems := ([v_298.1] : List Int).map (cI .u8)) rfl (dk rfl) ul32 i5 (by decide) rfl (all1 rfl) rfl rfl rfl (lenAll rfl) (by decide) ?_)
 obtain ⟨v_302, e_303, h⟩ := bind_some h
 refine sp rfl (OpT.callPA rfl (dk rfl) Tryd.func19 rfl rfl (Args.cons rfl Args.nil) (CallR.nil (r1_Of_T K (flx0 := true) e_303)) ?_)
 refine sp rfl (OpT.thenTurn (OpT.build (l := [.int .u8 (2 : Int), .int .u64 v_302.a0, .int .u64 v_302.a1, .int .u64 v_302.a2, .int .u64 v_302.a3, .ex (.slice none 0 0), .int .i64 (0 : Int), .int .i64 (0 : Int), .str (⟨#[]⟩ : ByteArray)]) rfl (dk rfl) (built_struct (pl := [(0, 1), (1, 4), (5, 1), (6, 1), (7, 1), (8, 1)]) ul42 i42 rfl) (all1 rfl) rfl rfl rfl) (Turn.weakSlotP 110 (l := [.int .u8 (2 : Int), .int .u64 v_302.a0, .int .u64 v_302.a1, .int .u64 v_302.a2, .int .u64 v_302.a3, .ex (.slice none 0 0), .int .i64 (0 : Int), .int .i64 (0 : Int), .str (⟨#[]⟩ : ByteArray)]) (l' := [.int .u8 (2 : Int), .int .u64 v_302.a0, .int .u64 v_302.a1, .int .u64 v_302.a2, .int .u64 v_302.a3, .sl false 1 (([] : List Int).map (cI .i64)), .int .i64 (0 : Int), .int .i64 (0 : Int), .str (⟨#[]⟩ : ByteArray)]) (.cons (.same _) (.cons (.same _) (.cons (.same _) (.cons (.same _) (.cons (.same _) (.cons (.nil _ _) (.cons (.same _) (.cons (.same _) (.cons (.same _) (.refl _))))))))))) ?_)
 obtain ⟨v_304, e_305, h⟩ := bind_some h
 refine sp rfl (OpT.callG (is := [0, 1]) (ph := []) rfl (dk rfl) Tryd.func65 rfl rfl (Args.cons rfl (Args.cons rfl Args.nil)) (r4r_put_T K (bx0 := bx0) (wx0c2 := (γ_300 0)) e_305) (.cons rfl rfl (.cons rfl rfl (.nil))) (fun _ => rfl) (fun γ_306 => ?_))
 refine nm (.c (.c (.n))) ?_
 refine aw rfl ?_
 refine TL'.nil (tN ?_)
 refine T.ret ?_
 exact Fin.doneK (.cons _ _ _ _ (.tmp 2 _ rfl) .nil) (.cons 0 rfl (.cons 0 rfl (.nil _))) (by cases h; exact ⟨gl [γ_306 0], rfl, rfl⟩)
theorem r4r_atom_j1_T {r : Int × r4r} (K : Nat) (rec_r4r_alternative : r4r → Option (Int × r4r)) (hrec_r4r_alternative : r4r_alternative_S rec_r4r_alternative) (bx0 : Nat) (x3_1_6 : Int) (x0 : r4r) (w0_1 : Value) (h : r4r_atom_j1 K rec_r4r_alternative x3_1_6 x0 = some r) : T Tryd.prog 112 (Code.at [1, 1, 0, 0, 1, 1, 1, 1, 1, 1, 1, 1] (codeOf Tryd.f90)) ⟨[(0, .ptr bx0 0), (3, .int .u8 x3_1_6)], [(o88 bx0 x0.s x0.at_ w0_1 x0.deep x0.e x0.where_), .arrA w0_1 42 9 (x0.nodes.map c_aNd)]⟩ (r4r_atom_qb0x111 bx0 r) := by
 unfold r4r_atom_j1 at h
 refine T.seq ?_
 refine T.rL ?_
 refine mw rfl ?_
 refine sp rfl (OpT.int2 rfl rfl (dk rfl) rfl rfl ?_)
 refine mw rfl ?_
 rcases bif_some h with ⟨c_284, h⟩ | ⟨c_284, h⟩
 refine TL'.passU (.off _ _ _ _ rfl rfl rfl c_284) (dk rfl) ?_
 refine TL'.passU (.off _ _ _ _ rfl rfl rfl c_284) (dk rfl) ?_
 refine sp rfl (OpT.pickT rfl (dk rfl) rfl c_284 rfl ?_)
 refine aw rfl ?_
 refine TL'.nil (tN ?_)
 refine T.condT rfl rfl ?_
 refine T.by_turn ?_ (r4r_atom_j2_T K rec_r4r_alternative hrec_r4r_alternative bx0 x0 w0_1 h)
 exact Turn.rp (.cons rfl (.nil _)) (.c .z (.c .z (.n _)))
 refine TL'.step (.on rfl rfl rfl c_284) (OpT.move rfl (dk rfl) rfl ?_)
 refine TL'.step (.on rfl rfl rfl c_284) (OpT.int2 rfl rfl (dk rfl) rfl rfl ?_)
 refine sp rfl (OpT.pickF rfl (dk rfl) rfl c_284 rfl ?_)
 refine aw rfl ?_
 refine TL'.nil (tN ?_)
 rcases bif_some h with ⟨c_288, h⟩ | ⟨c_288, h⟩
 refine T.condT rfl c_288 ?_
 refine T.by_turn ?_ (r4r_atom_j2_T K rec_r4r_alternative hrec_r4r_alternative bx0 x0 w0_1 h)
 exact Turn.rp (.cons rfl (.nil _)) (.c .z (.c .z (.n _)))
 refine T.condF rfl c_288 ?_
 refine T.seq ?_
 refine T.rL ?_
 refine mw rfl ?_
 refine sp rfl (OpT.int2 rfl rfl (dk rfl) rfl rfl ?_)
 refine mw rfl ?_
 rcases bif_some h with ⟨c_289, h⟩ | ⟨c_289, h⟩
 refine TL'.step (.on rfl rfl rfl c_289) (OpT.move rfl (dk rfl) rfl ?_)
 obtain ⟨v_290, e_291, h⟩ := bind_some h
 refine TL'.step (.on rfl rfl rfl c_289) (OpT.callPA rfl (dk rfl) Tryd.func105 rfl rfl Args.nil (CallR.nil (r4_special_T K e_291)) ?_)
 obtain ⟨v_292, e_293, h⟩ := bind_some h
 refine TL'.step (.on rfl rfl rfl c_289) (OpT.callPA rfl (dk rfl) Tryd.func104 rfl rfl (Args.cons rfl (Args.cons rfl Args.nil)) (CallR.nil (r4_in_T K e_293)) ?_)
 refine sp rfl (OpT.pickT rfl (dk rfl) rfl c_289 rfl ?_)
 refine aw rfl ?_
 refine TL'.nil (tN ?_)
 rcases bif_some h with ⟨c_294, h⟩ | ⟨c_294, h⟩
 refine T.condT rfl c_294 ?_
 refine T.seq ?_
 refine T.rL ?_
 refine mw rfl ?_
 refine mw rfl ?_
 refine sp rfl (OpT.nilCheck rfl (dk rfl) rfl rfl ?_)
 refine sp rfl (OpT.fieldPtr rfl (dk rfl) ul88 rfl i3 (by decide) rfl ?_)
 refine sp rfl (OpT.loadBox (i := 0) rfl (dk rfl) ul3 rfl rfl rfl rfl ?_)
 obtain ⟨v_295, e_296, h⟩ := bind_some h
 refine sp rfl (OpT.callG (is := [0, 1]) (ph := []) rfl (dk rfl) Tryd.func50 rfl rfl (Args.cons rfl (Args.cons rfl (Args.cons rfl Args.nil))) (r4r_fail_T K (bx0 := bx0) (wx0c2 := w0_1) e_296) (.cons rfl rfl (.cons rfl rfl (.nil))) (fun _ => rfl) (fun γ_297 => ?_))
 refine nm (.c (.c (.n))) ?_
 refine TL'.nil (tN ?_)
 refine T.seq ?_
 refine T.rL ?_
 refine aw rfl ?_
 refine TL'.nil (tN ?_)
 refine T.ret (inBlock_ret (thenS_ret ?_))
 exact Fin.doneK (.cons _ _ _ _ (.tmp 2 _ rfl) .nil) (.cons 0 rfl (.cons 0 rfl (.nil _))) (by cases h; exact ⟨gl [γ_297 0], rfl, rfl⟩)
 refine T.condF rfl c_294 ?_
 refine T.by_turn ?_ (r4r_atom_j3_T K rec_r4r_alternative hrec_r4r_alternative bx0 x0 w0_1 h)
 exact Turn.rp (.cons rfl (.nil _)) (.c .z (.c .z (.n _)))
 refine TL'.passU (.off _ _ _ _ rfl rfl rfl c_289) (dk rfl) ?_
 refine TL'.passU (.off _ _ _ _ rfl rfl rfl c_289) (dk rfl) ?_
 refine TL'.passU (.off _ _ _ _ rfl rfl rfl c_289) (dk rfl) ?_
 refine sp rfl (OpT.pickF rfl (dk rfl) rfl c_289 rfl ?_)
 refine aw rfl ?_
 refine TL'.nil (tN ?_)
 refine T.condF rfl rfl ?_
 refine T.by_turn ?_ (r4r_atom_j3_T K rec_r4r_alternative hrec_r4r_alternative bx0 x0 w0_1 h)
 exact Turn.rp (.cons rfl (.nil _)) (.c .z (.c .z (.n _)))
theorem r4r_atom_T (K : Nat) (rec_r4r_alternative : r4r → Option (Int × r4r)) (hrec_r4r_alternative : r4r_alternative_S rec_r4r_alternative) {x0 : r4r} {bx0 : Nat} {wx0c2 : Value} {r : Int × r4r} (h : r4r_atom K rec_r4r_alternative x0 = some r) : CallG Tryd.prog 90 [.ptr bx0 0] [(o88 bx0 x0.s x0.at_ wx0c2 x0.deep x0.e x0.where_), .arrA wx0c2 42 9 (x0.nodes.map c_aNd)] (fun γ => (.int .i64 r.1)) (fun γ => [(o88 bx0 r.2.s r.2.at_ (γ 0) r.2.deep r.2.e r.2.where_), .arrA (γ 0) 42 9 (r.2.nodes.map c_aNd)]) := by
 refine CallT.intro Tryd.func90 rfl (nb rfl) ?_
 show T Tryd.prog 112 (Code.at [] (codeOf Tryd.f90)) ⟨paramSlots 0 [.ptr bx0 0], [(o88 bx0 x0.s x0.at_ wx0c2 x0.deep x0.e x0.where_), .arrA wx0c2 42 9 (x0.nodes.map c_aNd)]⟩ (r4r_atom_q bx0 r)
 unfold r4r_atom at h
 refine T.seq ?_
 refine T.rL ?_
 refine aw rfl ?_
 refine TL'.nil (tN ?_)
 refine T.seq ?_
 refine DG.start ?_
 refine DG.mv rfl rfl rfl rfl rfl rfl ?_
 refine DG.step (c := ⟨some 6, .ptr bx0 0, [(5, .ptr bx0 0)], [], []⟩) (fun t hm => One.step rfl (.free rfl) (OpT.nilCheck rfl (dk rfl) hm.s0 rfl rfl)) (Ct.mo rfl rfl) ?_
 refine DG.step (c := ⟨some 7, .ptr bx0 (0 + 0), [(6, .ptr bx0 0)], [], []⟩) (fun t hm => One.step rfl (.free rfl) (OpT.fieldPtr rfl (dk rfl) ul88 rfl i9 (by decide) hm.s0 rfl)) (Ct.mo rfl rfl) ?_
 refine DG.step (c := ⟨some 8, .str x0.s, [(7, .ptr bx0 (0 + 0))], [(0, (o88 bx0 x0.s x0.at_ wx0c2 x0.deep x0.e x0.where_))], []⟩) (fun t hm => One.step rfl (.free rfl) (OpT.loadBox (i := 0) rfl (dk rfl) ul9 rfl hm.s0 hm.o0 rfl rfl)) (Ct.mo rfl rfl) ?_
 refine DG.mv rfl rfl rfl rfl rfl rfl ?_
 refine DG.step (c := ⟨some 10, .ptr bx0 0, [(9, .ptr bx0 0)], [], []⟩) (fun t hm => One.step rfl (.free rfl) (OpT.nilCheck rfl (dk rfl) hm.s0 rfl rfl)) (Ct.mo rfl rfl) ?_
 refine DG.step (c := ⟨some 11, .ptr bx0 (0 + 1), [(10, .ptr bx0 0)], [], []⟩) (fun t hm => One.step rfl (.free rfl) (OpT.fieldPtr rfl (dk rfl) ul88 rfl i3 (by decide) hm.s0 rfl)) (Ct.mo rfl rfl) ?_
 refine DG.step (c := ⟨some 12, .int .i64 x0.at_, [(11, .ptr bx0 (0 + 1))], [(0, (o88 bx0 x0.s x0.at_ wx0c2 x0.deep x0.e x0.where_))], []⟩) (fun t hm => One.step rfl (.free rfl) (OpT.loadBox (i := 0) rfl (dk rfl) ul3 rfl hm.s0 hm.o0 rfl rfl)) (Ct.mo rfl rfl) ?_
 obtain ⟨g_258, h⟩ := ck_some h
 refine DG.step (c := ⟨some 13, .int .u8 (bt x0.s x0.at_), [(8, .str x0.s), (12, .int .i64 x0.at_)], [], []⟩) (fun t hm => One.step rfl (.free rfl) (OpT.indexStr rfl (dk rfl) ul9 hm.s0 hm.s1 g_258.1 g_258.2 rfl)) (Ct.mo rfl rfl) ?_
 refine DG.step (c := ⟨some 3, .int .u8 (bt x0.s x0.at_), [(13, .int .u8 (bt x0.s x0.at_))], [], []⟩) (fun t hm => One.step rfl (.free rfl) (OpT.assign rfl (dk rfl) hm.s0 rfl)) (Ct.mo rfl rfl) ?_
 refine DG.fin (s1 := ⟨[(0, .ptr bx0 0), (3, .int .u8 (bt x0.s x0.at_))], [(o88 bx0 x0.s x0.at_ wx0c2 x0.deep x0.e x0.where_), .arrA wx0c2 42 9 (x0.nodes.map c_aNd)]⟩) (ms := [0, 1, 3, 7, 0, 16, 48, 112, 255, 511]) TrydMixed rfl (by kernel_rfl) (by kernel_rfl) (by kernel_rfl) (.cons rfl (.cons rfl (.nil _))) rfl (fun u hu => (tN (T.by_turn hu ?_)))
 refine T.seq ?_
 refine T.block ?_
 refine T.seq ?_
 refine T.rL ?_
 refine mw rfl ?_
 refine sp rfl (OpT.int2 rfl rfl (dk rfl) rfl rfl ?_)
 refine aw rfl ?_
 refine TL'.nil (tN ?_)
 rcases bif_some h with ⟨c_259, h⟩ | ⟨c_259, h⟩
 refine T.condT rfl c_259 ?_
 refine T.seq ?_
 refine T.rL ?_
 refine mw rfl ?_
 obtain ⟨v_260, e_261, h⟩ := bind_some h
 refine sp rfl (OpT.callG (is := [0, 1]) (ph := []) rfl (dk rfl) Tryd.func101 rfl rfl (Args.cons rfl Args.nil) (r4r_group_T K rec_r4r_alternative hrec_r4r_alternative (bx0 := bx0) (wx0c2 := wx0c2) e_261) (.cons rfl rfl (.cons rfl rfl (.nil))) (fun _ => rfl) (fun γ_262 => ?_))
 refine nm (.c (.c (.n))) ?_
 refine aw rfl ?_
 refine TL'.nil (tN ?_)
 refine T.ret (inBlock_ret (thenS_ret ?_))
 exact Fin.doneK (.cons _ _ _ _ (.tmp 2 _ rfl) .nil) (.cons 0 rfl (.cons 0 rfl (.nil _))) (by cases h; exact ⟨gl [γ_262 0], rfl, rfl⟩)
 refine T.condF rfl c_259 ?_
 refine T.seq ?_
 refine T.rL ?_
 refine mw rfl ?_
 refine sp rfl (OpT.int2 rfl rfl (dk rfl) rfl rfl ?_)
 refine aw rfl ?_
 refine TL'.nil (tN ?_)
 rcases bif_some h with ⟨c_263, h⟩ | ⟨c_263, h⟩
 refine T.condT rfl c_263 ?_
 refine T.seq ?_
 refine T.rL ?_
 refine mw rfl ?_
 cases h
 refine T.condF rfl c_263 ?_
 refine T.seq ?_
 refine T.rL ?_
 refine mw rfl ?_
 refine sp rfl (OpT.int2 rfl rfl (dk rfl) rfl rfl ?_)
 refine aw rfl ?_
 refine TL'.nil (tN ?_)
 rcases bif_some h with ⟨c_264, h⟩ | ⟨c_264, h⟩
 refine T.condT rfl c_264 ?_
 refine T.seq ?_
 refine T.rL ?_
 refine mw rfl ?_
 refine sp rfl (OpT.nilCheck rfl (dk rfl) rfl rfl ?_)
 refine sp rfl (OpT.fieldPtr rfl (dk rfl) ul88 rfl i3 (by decide) rfl ?_)
 refine sp rfl (OpT.loadBox (i := 0) rfl (dk rfl) ul3 rfl rfl rfl rfl ?_)
 refine sp rfl (OpT.int2 rfl rfl (dk rfl) rfl rfl ?_)
 refine sp rfl (OpT.nilCheck rfl (dk rfl) rfl rfl ?_)
 refine sp rfl (OpT.fieldPtr rfl (dk rfl) ul88 rfl i3 (by decide) rfl ?_)
 refine sp rfl (OpT.storeTo (i := 0) (cells' := [.d (.str x0.s), .d (.int .i64 (IntKind.i64.wrap (x0.at_ + (1 : Int)))), .d (.ex wx0c2), .d (.int .i64 x0.deep), .d (.int .i64 x0.e), .d (.int .i64 x0.where_)]) rfl rfl i3 rfl rfl rfl (nb rfl) rfl ?_)
 refine TL'.nil (tN ?_)
 refine T.seq ?_
 refine T.rL ?_
 refine mw rfl ?_
 refine sp rfl (OpT.buildSlice (elems := ([(10 : Int)] : List Int).map (cI .u8)) rfl (dk rfl) ul32 i5 (by decide) rfl (all1 rfl) rfl rfl rfl (lenAll rfl) (by decide) ?_)
 obtain ⟨v_265, e_266, h⟩ := bind_some h
 refine sp rfl (OpT.callPA rfl (dk rfl) Tryd.func19 rfl rfl (Args.cons rfl Args.nil) (CallR.nil (r1_Of_T K (flx0 := true) e_266)) ?_)
 obtain ⟨v_267, e_268, h⟩ := bind_some h
 refine sp rfl (OpT.callPA rfl (dk rfl) Tryd.func34 rfl rfl (Args.cons rfl Args.nil) (CallR.nil (r1_Not_T K e_268)) ?_)
 refine sp rfl (OpT.thenTurn (OpT.build (l := [.int .u8 (2 : Int), .int .u64 v_267.a0, .int .u64 v_267.a1, .int .u64 v_267.a2, .int .u64 v_267.a3, .ex (.slice none 0 0), .int .i64 (0 : Int), .int .i64 (0 : Int), .str (⟨#[]⟩ : ByteArray)]) rfl (dk rfl) (built_struct (pl := [(0, 1), (1, 4), (5, 1), (6, 1), (7, 1), (8, 1)]) ul42 i42 rfl) (all1 rfl) rfl rfl rfl) (Turn.weakSlotP 38 (l := [.int .u8 (2 : Int), .int .u64 v_267.a0, .int .u64 v_267.a1, .int .u64 v_267.a2, .int .u64 v_267.a3, .ex (.slice none 0 0), .int .i64 (0 : Int), .int .i64 (0 : Int), .str (⟨#[]⟩ : ByteArray)]) (l' := [.int .u8 (2 : Int), .int .u64 v_267.a0, .int .u64 v_267.a1, .int .u64 v_267.a2, .int .u64 v_267.a3, .sl false 1 (([] : List Int).map (cI .i64)), .int .i64 (0 : Int), .int .i64 (0 : Int), .str (⟨#[]⟩ : ByteArray)]) (.cons (.same _) (.cons (.same _) (.cons (.same _) (.cons (.same _) (.cons (.same _) (.cons (.nil _ _) (.cons (.same _) (.cons (.same _) (.cons (.same _) (.refl _))))))))))) ?_)
 obtain ⟨v_269, e_270, h⟩ := bind_some h
 refine sp rfl (OpT.callG (is := [0, 1]) (ph := []) rfl (dk rfl) Tryd.func65 rfl rfl (Args.cons rfl (Args.cons rfl Args.nil)) (r4r_put_T K (bx0 := bx0) (wx0c2 := wx0c2) e_270) (.cons rfl rfl (.cons rfl rfl (.nil))) (fun _ => rfl) (fun γ_271 => ?_))
 refine nm (.c (.c (.n))) ?_
 refine aw rfl ?_
 refine TL'.nil (tN ?_)
 refine T.ret (inBlock_ret (thenS_ret ?_))
 exact Fin.doneK (.cons _ _ _ _ (.tmp 2 _ rfl) .nil) (.cons 0 rfl (.cons 0 rfl (.nil _))) (by cases h; exact ⟨gl [γ_271 0], rfl, rfl⟩)
 refine T.condF rfl c_264 ?_
 refine T.seq ?_
 refine DG.start ?_
 refine DG.mv rfl rfl rfl rfl rfl rfl ?_
 refine DG.step (c := ⟨some 42, .bool ((bt x0.s x0.at_) == (123 : Int)), [(41, .int .u8 (bt x0.s x0.at_))], [], []⟩) (fun t hm => One.step rfl (.free rfl) (OpT.int2 rfl rfl (dk rfl) hm.s0 rfl rfl)) (Ct.mo rfl rfl) ?_
 refine DG.mv rfl rfl rfl rfl rfl rfl ?_
 rcases bif_some h with ⟨c_278, h⟩ | ⟨c_278, h⟩
 refine DG.step (c := ⟨some 44, .ptr bx0 0, [(0, .ptr bx0 0), (43, .bool ((bt x0.s x0.at_) == (123 : Int)))], [], []⟩) (fun t hm => One.step rfl (.on rfl rfl hm.s1 c_278) (OpT.move rfl (dk rfl) hm.s0 rfl)) (Ct.mo rfl rfl) ?_
 refine DG.step (c := ⟨some 45, .ptr bx0 0, [(44, .ptr bx0 0), (43, .bool ((bt x0.s x0.at_) == (123 : Int)))], [], []⟩) (fun t hm => One.step rfl (.on rfl rfl hm.s1 c_278) (OpT.nilCheck rfl (dk rfl) hm.s0 rfl rfl)) (Ct.mo rfl rfl) ?_
 refine DG.step (c := ⟨some 46, .ptr bx0 (0 + 1), [(45, .ptr bx0 0), (43, .bool ((bt x0.s x0.at_) == (123 : Int)))], [], []⟩) (fun t hm => One.step rfl (.on rfl rfl hm.s1 c_278) (OpT.fieldPtr rfl (dk rfl) ul88 rfl i3 (by decide) hm.s0 rfl)) (Ct.mo rfl rfl) ?_
 refine DG.step (c := ⟨some 47, .int .i64 x0.at_, [(46, .ptr bx0 (0 + 1)), (43, .bool ((bt x0.s x0.at_) == (123 : Int)))], [(0, (o88 bx0 x0.s x0.at_ wx0c2 x0.deep x0.e x0.where_))], []⟩) (fun t hm => One.step rfl (.on rfl rfl hm.s1 c_278) (OpT.loadBox (i := 0) rfl (dk rfl) ul3 rfl hm.s0 hm.o0 rfl rfl)) (Ct.mo rfl rfl) ?_
 refine DG.step (c := ⟨some 48, .int .i64 (IntKind.i64.wrap (x0.at_ + (1 : Int))), [(47, .int .i64 x0.at_), (43, .bool ((bt x0.s x0.at_) == (123 : Int)))], [], []⟩) (fun t hm => One.step rfl (.on rfl rfl hm.s1 c_278) (OpT.int2 rfl rfl (dk rfl) hm.s0 rfl rfl)) (Ct.mo rfl rfl) ?_
 refine DG.step (c := ⟨some 49, .ptr bx0 0, [(0, .ptr bx0 0), (43, .bool ((bt x0.s x0.at_) == (123 : Int)))], [], []⟩) (fun t hm => One.step rfl (.on rfl rfl hm.s1 c_278) (OpT.move rfl (dk rfl) hm.s0 rfl)) (Ct.mo rfl rfl) ?_
 refine DG.step (c := ⟨some 50, .ptr bx0 0, [(49, .ptr bx0 0), (43, .bool ((bt x0.s x0.at_) == (123 : Int)))], [], []⟩) (fun t hm => One.step rfl (.on rfl rfl hm.s1 c_278) (OpT.nilCheck rfl (dk rfl) hm.s0 rfl rfl)) (Ct.mo rfl rfl) ?_
 refine DG.step (c := ⟨some 51, .ptr bx0 (0 + 0), [(50, .ptr bx0 0), (43, .bool ((bt x0.s x0.at_) == (123 : Int)))], [], []⟩) (fun t hm => One.step rfl (.on rfl rfl hm.s1 c_278) (OpT.fieldPtr rfl (dk rfl) ul88 rfl i9 (by decide) hm.s0 rfl)) (Ct.mo rfl rfl) ?_
 refine DG.step (c := ⟨some 52, .str x0.s, [(51, .ptr bx0 (0 + 0)), (43, .bool ((bt x0.s x0.at_) == (123 : Int)))], [(0, (o88 bx0 x0.s x0.at_ wx0c2 x0.deep x0.e x0.where_))], []⟩) (fun t hm => One.step rfl (.on rfl rfl hm.s1 c_278) (OpT.loadBox (i := 0) rfl (dk rfl) ul9 rfl hm.s0 hm.o0 rfl rfl)) (Ct.mo rfl rfl) ?_
 refine DG.step (c := ⟨some 53, .int .i64 (x0.s.size : Int), [(52, .str x0.s), (43, .bool ((bt x0.s x0.at_) == (123 : Int)))], [], []⟩) (fun t hm => One.step rfl (.on rfl rfl hm.s1 c_278) (OpT.lenStr rfl (dk rfl) ul9 hm.s0 rfl)) (Ct.mo rfl rfl) ?_
 refine DG.step (c := ⟨some 54, .bool (decide ((IntKind.i64.wrap (x0.at_ + (1 : Int))) ≥ (x0.s.size : Int))), [(48, .int .i64 (IntKind.i64.wrap (x0.at_ + (1 : Int)))), (53, .int .i64 (x0.s.size : Int)), (43, .bool ((bt x0.s x0.at_) == (123 : Int)))], [], []⟩) (fun t hm => One.step rfl (.on rfl rfl hm.s2 c_278) (OpT.int2 rfl rfl (dk rfl) hm.s0 hm.s1 rfl)) (Ct.mo rfl rfl) ?_
 refine DG.step (c := ⟨some 55, .bool (decide ((IntKind.i64.wrap (x0.at_ + (1 : Int))) ≥ (x0.s.size : Int))), [(54, .bool (decide ((IntKind.i64.wrap (x0.at_ + (1 : Int))) ≥ (x0.s.size : Int)))), (43, .bool ((bt x0.s x0.at_) == (123 : Int)))], [], []⟩) (fun t hm => One.step rfl (.on rfl rfl hm.s1 c_278) (OpT.move rfl (dk rfl) hm.s0 rfl)) (Ct.mo rfl rfl) ?_
 rcases bif_some h with ⟨c_279, h⟩ | ⟨c_279, h⟩
 refine DG.off c_279 rfl rfl rfl rfl rfl rfl ?_
 refine DG.off c_279 rfl rfl rfl rfl rfl rfl ?_
 refine DG.off c_279 rfl rfl rfl rfl rfl rfl ?_
 refine DG.off c_279 rfl rfl rfl rfl rfl rfl ?_
 refine DG.off c_279 rfl rfl rfl rfl rfl rfl ?_
 refine DG.off c_279 rfl rfl rfl rfl rfl rfl ?_
 refine DG.off c_279 rfl rfl rfl rfl rfl rfl ?_
 refine DG.off c_279 rfl rfl rfl rfl rfl rfl ?_
 refine DG.off c_279 rfl rfl rfl rfl rfl rfl ?_
 refine DG.off c_279 rfl rfl rfl rfl rfl rfl ?_
 refine DG.off c_279 rfl rfl rfl rfl rfl rfl ?_
 refine DG.off c_279 rfl rfl rfl rfl rfl rfl ?_
 refine DG.step (c := ⟨some 68, .bool true, [(55, .bool (decide ((IntKind.i64.wrap (x0.at_ + (1 : Int))) ≥ (x0.s.size : Int)))), (43, .bool ((bt x0.s x0.at_) == (123 : Int)))], [], []⟩) (fun t hm => One.step rfl (.on rfl rfl hm.s1 c_278) (OpT.pickT rfl (dk rfl) hm.s0 c_279 rfl rfl)) (Ct.mo rfl rfl) ?_
 refine DG.step (c := ⟨some 69, .bool true, [(43, .bool ((bt x0.s x0.at_) == (123 : Int))), (68, .bool true)], [], []⟩) (fun t hm => One.step rfl (.free rfl) (OpT.pickT rfl (dk rfl) hm.s0 c_278 hm.s1 rfl)) (Ct.mo rfl rfl) ?_
 refine DG.step (c := ⟨some 40, .bool true, [(69, .bool true)], [], []⟩) (fun t hm => One.step rfl (.free rfl) (OpT.assign rfl (dk rfl) hm.s0 rfl)) (Ct.mo rfl rfl) ?_
 refine DG.fin (s1 := ⟨[(0, .ptr bx0 0), (3, .int .u8 (bt x0.s x0.at_)), (40, .bool true)], [(o88 bx0 x0.s x0.at_ wx0c2 x0.deep x0.e x0.where_), .arrA wx0c2 42 9 (x0.nodes.map c_aNd)]⟩) (ms := [0, 1, 3, 7, 15, 31, 63, 127, 7, 263, 775, 1799, 3847, 8191, 16383, 32767, 65535, 131071, 262143, 32767, 557055, 1605631, 3702783, 7897087, 16777215, 33554431, 67108863, 134217727, 268435455, 536870911]) TrydMixed rfl (by kernel_rfl) (by kernel_rfl) (by kernel_rfl) (.cons rfl (.cons rfl (.cons rfl (.nil _)))) rfl (fun u hu => (tN (T.by_turn hu ?_)))
 refine T.condT rfl rfl ?_
 refine T.by_turn ?_ (r4r_atom_j0_T K rec_r4r_alternative hrec_r4r_alternative bx0 x0 wx0c2 h)
 exact Turn.rp (.cons rfl (.nil _)) (.c .z (.c .z (.n _)))
 refine DG.step (c := ⟨some 56, .ptr bx0 0, [(0, .ptr bx0 0), (55, .bool (decide ((IntKind.i64.wrap (x0.at_ + (1 : Int))) ≥ (x0.s.size : Int))))], [], []⟩) (fun t hm => One.step rfl (.on rfl rfl hm.s1 c_279) (OpT.move rfl (dk rfl) hm.s0 rfl)) (Ct.mo rfl rfl) ?_
 refine DG.step (c := ⟨some 57, .ptr bx0 0, [(56, .ptr bx0 0), (55, .bool (decide ((IntKind.i64.wrap (x0.at_ + (1 : Int))) ≥ (x0.s.size : Int))))], [], []⟩) (fun t hm => One.step rfl (.on rfl rfl hm.s1 c_279) (OpT.nilCheck rfl (dk rfl) hm.s0 rfl rfl)) (Ct.mo rfl rfl) ?_
 refine DG.step (c := ⟨some 58, .ptr bx0 (0 + 0), [(57, .ptr bx0 0), (55, .bool (decide ((IntKind.i64.wrap (x0.at_ + (1 : Int))) ≥ (x0.s.size : Int))))], [], []⟩) (fun t hm => One.step rfl (.on rfl rfl hm.s1 c_279) (OpT.fieldPtr rfl (dk rfl) ul88 rfl i9 (by decide) hm.s0 rfl)) (Ct.mo rfl rfl) ?_
 refine DG.step (c := ⟨some 59, .str x0.s, [(58, .ptr bx0 (0 + 0)), (55, .bool (decide ((IntKind.i64.wrap (x0.at_ + (1 : Int))) ≥ (x0.s.size : Int))))], [(0, (o88 bx0 x0.s x0.at_ wx0c2 x0.deep x0.e x0.where_))], []⟩) (fun t hm => One.step rfl (.on rfl rfl hm.s1 c_279) (OpT.loadBox (i := 0) rfl (dk rfl) ul9 rfl hm.s0 hm.o0 rfl rfl)) (Ct.mo rfl rfl) ?_
 refine DG.step (c := ⟨some 60, .ptr bx0 0, [(0, .ptr bx0 0), (55, .bool (decide ((IntKind.i64.wrap (x0.at_ + (1 : Int))) ≥ (x0.s.size : Int))))], [], []⟩) (fun t hm => One.step rfl (.on rfl rfl hm.s1 c_279) (OpT.move rfl (dk rfl) hm.s0 rfl)) (Ct.mo rfl rfl) ?_
 refine DG.step (c := ⟨some 61, .ptr bx0 0, [(60, .ptr bx0 0), (55, .bool (decide ((IntKind.i64.wrap (x0.at_ + (1 : Int))) ≥ (x0.s.size : Int))))], [], []⟩) (fun t hm => One.step rfl (.on rfl rfl hm.s1 c_279) (OpT.nilCheck rfl (dk rfl) hm.s0 rfl rfl)) (Ct.mo rfl rfl) ?_
 refine DG.step (c := ⟨some 62, .ptr bx0 (0 + 1), [(61, .ptr bx0 0), (55, .bool (decide ((IntKind.i64.wrap (x0.at_ + (1 : Int))) ≥ (x0.s.size : Int))))], [], []⟩) (fun t hm => One.step rfl (.on rfl rfl hm.s1 c_279) (OpT.fieldPtr rfl (dk rfl) ul88 rfl i3 (by decide) hm.s0 rfl)) (Ct.mo rfl rfl) ?_
 refine DG.step (c := ⟨some 63, .int .i64 x0.at_, [(62, .ptr bx0 (0 + 1)), (55, .bool (decide ((IntKind.i64.wrap (x0.at_ + (1 : Int))) ≥ (x0.s.size : Int))))], [(0, (o88 bx0 x0.s x0.at_ wx0c2 x0.deep x0.e x0.where_))], []⟩) (fun t hm => One.step rfl (.on rfl rfl hm.s1 c_279) (OpT.loadBox (i := 0) rfl (dk rfl) ul3 rfl hm.s0 hm.o0 rfl rfl)) (Ct.mo rfl rfl) ?_
 refine DG.step (c := ⟨some 64, .int .i64 (IntKind.i64.wrap (x0.at_ + (1 : Int))), [(63, .int .i64 x0.at_), (55, .bool (decide ((IntKind.i64.wrap (x0.at_ + (1 : Int))) ≥ (x0.s.size : Int))))], [], []⟩) (fun t hm => One.step rfl (.on rfl rfl hm.s1 c_279) (OpT.int2 rfl rfl (dk rfl) hm.s0 rfl rfl)) (Ct.mo rfl rfl) ?_
 obtain ⟨g_280, h⟩ := ck_some h
 refine DG.step (c := ⟨some 65, .int .u8 (bt x0.s (IntKind.i64.wrap (x0.at_ + (1 : Int)))), [(59, .str x0.s), (64, .int .i64 (IntKind.i64.wrap (x0.at_ + (1 : Int)))), (55, .bool (decide ((IntKind.i64.wrap (x0.at_ + (1 : Int))) ≥ (x0.s.size : Int))))], [], []⟩) (fun t hm => One.step rfl (.on rfl rfl hm.s2 c_279) (OpT.indexStr rfl (dk rfl) ul9 hm.s0 hm.s1 g_280.1 g_280.2 rfl)) (Ct.mo rfl rfl) ?_
 obtain ⟨v_281, e_282, h⟩ := bind_some h
 refine DG.step (c := ⟨some 66, .bool v_281, [(65, .int .u8 (bt x0.s (IntKind.i64.wrap (x0.at_ + (1 : Int))))), (55, .bool (decide ((IntKind.i64.wrap (x0.at_ + (1 : Int))) ≥ (x0.s.size : Int))))], [], []⟩) (fun t hm => One.step rfl (.on rfl rfl hm.s1 c_279) (OpT.callPA rfl (dk rfl) Tryd.func81 rfl rfl (Args.cons hm.s0 Args.nil) (CallR.nil (r4_digit_T K e_282)) rfl)) (Ct.mo rfl rfl) ?_
 refine DG.step (c := ⟨some 67, .bool (!v_281), [(66, .bool v_281), (55, .bool (decide ((IntKind.i64.wrap (x0.at_ + (1 : Int))) ≥ (x0.s.size : Int))))], [], []⟩) (fun t hm => One.step rfl (.on rfl rfl hm.s1 c_279) (OpT.not rfl (dk rfl) hm.s0 rfl)) (Ct.mo rfl rfl) ?_
 refine DG.step (c := ⟨some 68, .bool (!v_281), [(55, .bool (decide ((IntKind.i64.wrap (x0.at_ + (1 : Int))) ≥ (x0.s.size : Int)))), (67, .bool (!v_281)), (43, .bool ((bt x0.s x0.at_) == (123 : Int)))], [], []⟩) (fun t hm => One.step rfl (.on rfl rfl hm.s2 c_278) (OpT.pickF rfl (dk rfl) hm.s0 c_279 hm.s1 rfl)) (Ct.mo rfl rfl) ?_
 refine DG.step (c := ⟨some 69, .bool (!v_281), [(43, .bool ((bt x0.s x0.at_) == (123 : Int))), (68, .bool (!v_281))], [], []⟩) (fun t hm => One.step rfl (.free rfl) (OpT.pickT rfl (dk rfl) hm.s0 c_278 hm.s1 rfl)) (Ct.mo rfl rfl) ?_
 refine DG.step (c := ⟨some 40, .bool (!v_281), [(69, .bool (!v_281))], [], []⟩) (fun t hm => One.step rfl (.free rfl) (OpT.assign rfl (dk rfl) hm.s0 rfl)) (Ct.mo rfl rfl) ?_
 refine DG.fin (s1 := ⟨[(0, .ptr bx0 0), (3, .int .u8 (bt x0.s x0.at_)), (40, .bool (!v_281))], [(o88 bx0 x0.s x0.at_ wx0c2 x0.deep x0.e x0.where_), .arrA wx0c2 42 9 (x0.nodes.map c_aNd)]⟩) (ms := [0, 1, 3, 7, 15, 31, 63, 127, 7, 263, 775, 1799, 3847, 8191, 16383, 32767, 65535, 131071, 262143, 32767, 557055, 1605631, 3702783, 7897087, 16777215, 33554431, 67108863, 134217727, 268435455, 536870911]) TrydMixed rfl (by kernel_rfl) (by kernel_rfl) (by kernel_rfl) (.cons rfl (.cons rfl (.cons rfl (.nil _)))) rfl (fun u hu => (tN (T.by_turn hu ?_)))
 rcases bif_some h with ⟨c_283, h⟩ | ⟨c_283, h⟩
 refine T.condT rfl c_283 ?_
 refine T.by_turn ?_ (r4r_atom_j0_T K rec_r4r_alternative hrec_r4r_alternative bx0 x0 wx0c2 h)
 exact Turn.rp (.cons rfl (.nil _)) (.c .z (.c .z (.n _)))
 refine T.condF rfl c_283 ?_
 refine T.by_turn ?_ (r4r_atom_j1_T K rec_r4r_alternative hrec_r4r_alternative bx0 (bt x0.s x0.at_) x0 wx0c2 h)
 exact Turn.rp (.cons rfl (.cons rfl (.nil _))) (.c .z (.c .z (.n _)))
 refine DG.off c_278 rfl rfl rfl rfl rfl rfl ?_
 refine DG.off c_278 rfl rfl rfl rfl rfl rfl ?_
 refine DG.off c_278 rfl rfl rfl rfl rfl rfl ?_
 refine DG.off c_278 rfl rfl rfl rfl rfl rfl ?_
 refine DG.off c_278 rfl rfl rfl rfl rfl rfl ?_
 refine DG.off c_278 rfl rfl rfl rfl rfl rfl ?_
 refine DG.off c_278 rfl rfl rfl rfl rfl rfl ?_
 refine DG.off c_278 rfl rfl rfl rfl rfl rfl ?_
 refine DG.off c_278 rfl rfl rfl rfl rfl rfl ?_
 refine DG.off c_278 rfl rfl rfl rfl rfl rfl ?_
 refine DG.off c_278 rfl rfl rfl rfl rfl rfl ?_
 refine DG.off c_278 rfl rfl rfl rfl rfl rfl ?_
 refine DG.gone rfl rfl rfl rfl rfl rfl ?_
 refine DG.gone rfl rfl rfl rfl rfl rfl ?_
 refine DG.gone rfl rfl rfl rfl rfl rfl ?_
 refine DG.gone rfl rfl rfl rfl rfl rfl ?_
 refine DG.gone rfl rfl rfl rfl rfl rfl ?_
 refine DG.gone rfl rfl rfl rfl rfl rfl ?_
 refine DG.gone rfl rfl rfl rfl rfl rfl ?_
 refine DG.gone rfl rfl rfl rfl rfl rfl ?_
 refine DG.gone rfl rfl rfl rfl rfl rfl ?_
 refine DG.gone rfl rfl rfl rfl rfl rfl ?_
 refine DG.gone rfl rfl rfl rfl rfl rfl ?_
 refine DG.gone rfl rfl rfl rfl rfl rfl ?_
 refine DG.off c_278 rfl rfl rfl rfl rfl rfl ?_
 refine DG.step (c := ⟨some 69, .bool false, [(43, .bool ((bt x0.s x0.at_) == (123 : Int)))], [], []⟩) (fun t hm => One.step rfl (.free rfl) (OpT.pickF rfl (dk rfl) hm.s0 c_278 rfl rfl)) (Ct.mo rfl rfl) ?_
 refine DG.step (c := ⟨some 40, .bool false, [(69, .bool false)], [], []⟩) (fun t hm => One.step rfl (.free rfl) (OpT.assign rfl (dk rfl) hm.s0 rfl)) (Ct.mo rfl rfl) ?_
 refine DG.fin (s1 := ⟨[(0, .ptr bx0 0), (3, .int .u8 (bt x0.s x0.at_)), (40, .bool false)], [(o88 bx0 x0.s x0.at_ wx0c2 x0.deep x0.e x0.where_), .arrA wx0c2 42 9 (x0.nodes.map c_aNd)]⟩) (ms := [0, 1, 3, 7, 15, 31, 63, 127, 7, 263, 775, 1799, 3847, 8191, 16383, 32767, 65535, 131071, 262143, 32767, 557055, 1605631, 3702783, 7897087, 16777215, 33554431, 67108863, 134217727, 268435455, 536870911]) TrydMixed rfl (by kernel_rfl) (by kernel_rfl) (by kernel_rfl) (.cons rfl (.cons rfl (.cons rfl (.nil _)))) rfl (fun u hu => (tN (T.by_turn hu ?_)))
 refine T.condF rfl rfl ?_
 refine T.by_turn ?_ (r4r_atom_j1_T K rec_r4r_alternative hrec_r4r_alternative bx0 (bt x0.s x0.at_) x0 wx0c2 h)
 exact Turn.rp (.cons rfl (.cons rfl (.nil _))) (.c .z (.c .z (.n _)))
abbrev r4r_number_q (bx0 : Nat) (r : Int × r4r) : Exit → St → Prop := retS Tryd.prog Tryd.f107 (fun y t => ∃ γ : Nat → Value, y = (.int .i64 r.1) ∧ t = [(o88 bx0 r.2.s r.2.at_ (γ 0) r.2.deep r.2.e r.2.where_), .arrA (γ 0) 42 9 (r.2.nodes.map c_aNd)])
abbrev r4r_number_qs11111 (bx0 : Nat) (r : Int × r4r) : Exit → St → Prop := thenS (fun s' => T Tryd.prog 72 (Code.at [1, 1, 1, 1, 1] (codeOf Tryd.f107)) s' ((r4r_number_q bx0 r))) ((r4r_number_q bx0 r))
abbrev r4r_number_qs1111 (bx0 : Nat) (r : Int × r4r) : Exit → St → Prop := thenS (fun s' => T Tryd.prog 72 (Code.at [1, 1, 1, 1] (codeOf Tryd.f107)) s' ((r4r_number_q bx0 r))) ((r4r_number_q bx0 r))
abbrev r4r_number_qb0x1111 (bx0 : Nat) (r : Int × r4r) : Exit → St → Prop := inBlockS 0 ((r4r_number_qs1111 bx0 r))
abbrev r4r_number_ql11100 (bx0 : Nat) (r : Int × r4r) : Exit → St → Prop := thenS (fun s' => TL Tryd.prog 72 (Code.at [1, 1, 1, 0, 0, 0] (codeOf Tryd.f107)) s' ((r4r_number_qb0x1111 bx0 r))) ((r4r_number_qb0x1111 bx0 r))
abbrev r4r_number_qs1110001 (bx0 : Nat) (r : Int × r4r) : Exit → St → Prop := thenS (fun s' => T Tryd.prog 72 (Code.at [1, 1, 1, 0, 0, 0, 1] (codeOf Tryd.f107)) s' ((r4r_number_ql11100 bx0 r))) ((r4r_number_ql11100 bx0 r))
theorem r4r_number_j2_T {r : Int × r4r} (K : Nat) (bx0 : Nat) (y9000_2_0 : ByteArray) (y9000_2_1 : Int) (y9000_2_3 : Int) (y9000_2_4 : Int) (y9000_2_5 : Int) (y9000_2_2 : List aNd) (w9000_2 : Value) (h : r4r_number_j2 K y9000_2_0 y9000_2_1 y9000_2_3 y9000_2_4 y9000_2_5 y9000_2_2 = some r) : T Tryd.prog 72 (Code.at [1, 1, 1, 1, 0, 1, 0] (codeOf Tryd.f107)) ⟨[], [(o88 bx0 y9000_2_0 y9000_2_1 w9000_2 y9000_2_3 y9000_2_4 y9000_2_5), .arrA w9000_2 42 9 (y9000_2_2.map c_aNd)]⟩ (r4r_number_qs11111 bx0 r) := by
 unfold r4r_number_j2 at h
 refine T.seq ?_
 refine T.rL ?_
 refine aw rfl ?_
 refine TL'.nil (tN ?_)
 refine T.ret (thenS_ret ?_)
 exact Fin.doneK (.cons _ _ _ _ (.tmp 2 _ rfl) .nil) (.cons 0 rfl (.cons 0 rfl (.nil _))) (by cases h; exact ⟨gl [w9000_2], rfl, rfl⟩)
theorem r4r_number_j1_T {r : Int × r4r} (K : Nat) (bx0 : Nat) (x3_1_6 : Int) (x0 : r4r) (y0_1_0 : ByteArray) (y0_1_1 : Int) (y0_1_3 : Int) (y0_1_4 : Int) (y0_1_5 : Int) (y0_1_2 : List aNd) (w0_1 : Value) (h : r4r_number_j1 K x3_1_6 x0 y0_1_0 y0_1_1 y0_1_3 y0_1_4 y0_1_5 y0_1_2 = some r) : T Tryd.prog 72 (Code.at [1, 1, 1, 0, 0, 0, 0, 1, 1] (codeOf Tryd.f107)) ⟨[(0, .ptr bx0 0), (3, .int .i64 x3_1_6), (4, .int .i64 x0.at_)], [(o88 bx0 y0_1_0 y0_1_1 w0_1 y0_1_3 y0_1_4 y0_1_5), .arrA w0_1 42 9 (y0_1_2.map c_aNd)]⟩ (r4r_number_qs1110001 bx0 r) := by
 unfold r4r_number_j1 at h
 refine T.exit (thenS_exit (thenS_exit (inBlock_exit (tN ?_))))
 refine T.seq ?_
 refine T.seq ?_
 refine T.rL ?_
 refine mw rfl ?_
 refine sp rfl (OpT.nilCheck rfl (dk rfl) rfl rfl ?_)
 refine sp rfl (OpT.fieldPtr rfl (dk rfl) ul88 rfl i3 (by decide) rfl ?_)
 refine sp rfl (OpT.loadBox (i := 0) rfl (dk rfl) ul3 rfl rfl rfl rfl ?_)
 refine mw rfl ?_
 refine sp rfl (OpT.int2 rfl rfl (dk rfl) rfl rfl ?_)
 refine sp rfl (OpT.int2 rfl rfl (dk rfl) rfl rfl ?_)
 refine mw rfl ?_
 rcases bif_some h with ⟨c_237, h⟩ | ⟨c_237, h⟩
 refine TL'.passU (.off _ _ _ _ rfl rfl rfl c_237) (dk rfl) ?_
 refine TL'.passU (.off _ _ _ _ rfl rfl rfl c_237) (dk rfl) ?_
 refine TL'.passU (.off _ _ _ _ rfl rfl rfl c_237) (dk rfl) ?_
 refine TL'.passU (.off _ _ _ _ rfl rfl rfl c_237) (dk rfl) ?_
 refine TL'.passU (.off _ _ _ _ rfl rfl rfl c_237) (dk rfl) ?_
 refine TL'.passU (.off _ _ _ _ rfl rfl rfl c_237) (dk rfl) ?_
 refine TL'.passU (.off _ _ _ _ rfl rfl rfl c_237) (dk rfl) ?_
 refine TL'.passU (.off _ _ _ _ rfl rfl rfl c_237) (dk rfl) ?_
 refine TL'.passU (.gone _ _ _ rfl rfl rfl) (dk rfl) ?_
 refine TL'.passU (.gone _ _ _ rfl rfl rfl) (dk rfl) ?_
 refine TL'.passU (.gone _ _ _ rfl rfl rfl) (dk rfl) ?_
 refine TL'.passU (.gone _ _ _ rfl rfl rfl) (dk rfl) ?_
 refine TL'.passU (.gone _ _ _ rfl rfl rfl) (dk rfl) ?_
 refine TL'.passU (.gone _ _ _ rfl rfl rfl) (dk rfl) ?_
 refine TL'.passU (.gone _ _ _ rfl rfl rfl) (dk rfl) ?_
 refine TL'.passU (.off _ _ _ _ rfl rfl rfl c_237) (dk rfl) ?_
 refine sp rfl (OpT.pickT rfl (dk rfl) rfl c_237 rfl ?_)
 refine TL'.nil (tN ?_)
 refine T.condT rfl rfl ?_
 refine T.by_turn ?_ (r4r_number_j2_T K bx0 y0_1_0 y0_1_1 y0_1_3 y0_1_4 y0_1_5 y0_1_2 w0_1 h)
 exact Turn.rp (.nil _) (.c .z (.c .z (.n _)))
 refine TL'.step (.on rfl rfl rfl c_237) (OpT.move rfl (dk rfl) rfl ?_)
 refine TL'.step (.on rfl rfl rfl c_237) (OpT.nilCheck rfl (dk rfl) rfl rfl ?_)
 refine TL'.step (.on rfl rfl rfl c_237) (OpT.fieldPtr rfl (dk rfl) ul88 rfl i9 (by decide) rfl ?_)
 refine TL'.step (.on rfl rfl rfl c_237) (OpT.loadBox (i := 0) rfl (dk rfl) ul9 rfl rfl rfl rfl ?_)
 refine TL'.step (.on rfl rfl rfl c_237) (OpT.move rfl (dk rfl) rfl ?_)
 obtain ⟨g_238, h⟩ := ck_some h
 refine TL'.step (.on rfl rfl rfl c_237) (OpT.indexStr rfl (dk rfl) ul9 rfl rfl g_238.1 g_238.2 ?_)
 refine TL'.step (.on rfl rfl rfl c_237) (OpT.int2 rfl rfl (dk rfl) rfl rfl ?_)
 refine TL'.step (.on rfl rfl rfl c_237) (OpT.move rfl (dk rfl) rfl ?_)
 rcases bif_some h with ⟨c_239, h⟩ | ⟨c_239, h⟩
 refine TL'.step (.on rfl rfl rfl c_239) (OpT.move rfl (dk rfl) rfl ?_)
 refine TL'.step (.on rfl rfl rfl c_239) (OpT.nilCheck rfl (dk rfl) rfl rfl ?_)
 refine TL'.step (.on rfl rfl rfl c_239) (OpT.fieldPtr rfl (dk rfl) ul88 rfl i3 (by decide) rfl ?_)
 refine TL'.step (.on rfl rfl rfl c_239) (OpT.loadBox (i := 0) rfl (dk rfl) ul3 rfl rfl rfl rfl ?_)
 refine TL'.step (.on rfl rfl rfl c_239) (OpT.move rfl (dk rfl) rfl ?_)
 refine TL'.step (.on rfl rfl rfl c_239) (OpT.int2 rfl rfl (dk rfl) rfl rfl ?_)
 refine TL'.step (.on rfl rfl rfl c_239) (OpT.int2 rfl rfl (dk rfl) rfl rfl ?_)
 refine TL'.step (.on rfl rfl rfl c_237) (OpT.pickT rfl (dk rfl) rfl c_239 rfl ?_)
 refine sp rfl (OpT.pickF rfl (dk rfl) rfl c_237 rfl ?_)
 refine TL'.nil (tN ?_)
 rcases bif_some h with ⟨c_240, h⟩ | ⟨c_240, h⟩
 refine T.condT rfl c_240 ?_
 refine T.by_turn ?_ (r4r_number_j2_T K bx0 y0_1_0 y0_1_1 y0_1_3 y0_1_4 y0_1_5 y0_1_2 w0_1 h)
 exact Turn.rp (.nil _) (.c .z (.c .z (.n _)))
 refine T.condF rfl c_240 ?_
 refine T.skip (tN ?_)
 refine T.seq ?_
 refine T.rL ?_
 refine mw rfl ?_
 refine aw rfl ?_
 refine TL'.nil (tN ?_)
 refine T.ret ?_
 exact Fin.doneK (.cons _ _ _ _ (.tmp 2 _ rfl) .nil) (.cons 0 rfl (.cons 0 rfl (.nil _))) (by cases h; exact ⟨gl [w0_1], rfl, rfl⟩)
 refine TL'.passU (.off _ _ _ _ rfl rfl rfl c_239) (dk rfl) ?_
 refine TL'.passU (.off _ _ _ _ rfl rfl rfl c_239) (dk rfl) ?_
 refine TL'.passU (.off _ _ _ _ rfl rfl rfl c_239) (dk rfl) ?_
 refine TL'.passU (.off _ _ _ _ rfl rfl rfl c_239) (dk rfl) ?_
 refine TL'.passU (.off _ _ _ _ rfl rfl rfl c_239) (dk rfl) ?_
 refine TL'.passU (.off _ _ _ _ rfl rfl rfl c_239) (dk rfl) ?_
 refine TL'.passU (.off _ _ _ _ rfl rfl rfl c_239) (dk rfl) ?_
 refine TL'.step (.on rfl rfl rfl c_237) (OpT.pickF rfl (dk rfl) rfl c_239 rfl ?_)
 refine sp rfl (OpT.pickF rfl (dk rfl) rfl c_237 rfl ?_)
 refine TL'.nil (tN ?_)
 refine T.condF rfl rfl ?_
 refine T.skip (tN ?_)
 refine T.seq ?_
 refine T.rL ?_
 refine mw rfl ?_
 refine aw rfl ?_
 refine TL'.nil (tN ?_)
 refine T.ret ?_
 exact Fin.doneK (.cons _ _ _ _ (.tmp 2 _ rfl) .nil) (.cons 0 rfl (.cons 0 rfl (.nil _))) (by cases h; exact ⟨gl [w0_1], rfl, rfl⟩)
theorem r4r_number_l0_T {r : Int × r4r} (K : Nat) (bx0 : Nat) : ∀ (k : Nat), ∀ (x3_0_6 : Int) (x0 : r4r) (y0_0_0 : ByteArray) (y0_0_1 : Int) (y0_0_3 : Int) (y0_0_4 : Int) (y0_0_5 : Int) (y0_0_2 : List aNd) (w0_0 : Value), r4r_number_l0 K k x3_0_6 x0 y0_0_0 y0_0_1 y0_0_3 y0_0_4 y0_0_5 y0_0_2 = some r → TL Tryd.prog 72 (Code.at [1, 1, 1, 0, 0, 0] (codeOf Tryd.f107)) ⟨[(0, .ptr bx0 0), (3, .int .i64 x3_0_6), (4, .int .i64 x0.at_)], [(o88 bx0 y0_0_0 y0_0_1 w0_0 y0_0_3 y0_0_4 y0_0_5), .arrA w0_0 42 9 (y0_0_2.map c_aNd)]⟩ (r4r_number_qb0x1111 bx0 r) := by
  intro k
  induction k with
  | zero =>
    intro x3_0_6 x0 y0_0_0 y0_0_1 y0_0_3 y0_0_4 y0_0_5 y0_0_2 w0_0 h
    cases (show (none : Option (Int × r4r)) = some r from h)
  | succ k ih =>
    intro x3_0_6 x0 y0_0_0 y0_0_1 y0_0_3 y0_0_4 y0_0_5 y0_0_2 w0_0 h
    rw [r4r_number_l0] at h
    refine TL.round ?_
    refine T.seq ?_
    refine T.seq ?_
    refine DGG.start ?_
    refine DGG.step (c := fun γ_222 => ⟨some 9, .ptr bx0 0, [(0, .ptr bx0 0)], [], []⟩) [] (fun _ _ _ => rfl) (fun γ_222 t hm => One.step rfl (.free rfl) (OpT.move rfl (dl rfl rfl) hm.s0 ⟨(fun _ => undef, 0), rfl⟩)) (fun γ_222 => Ct.mo rfl rfl) ?_
    obtain ⟨v_229, e_230, h⟩ := bind_some h
    refine DGG.step (c := fun γ_222 => ⟨some 10, .bool v_229, [(9, .ptr bx0 0)], [(1, .arrA w0_0 42 9 (y0_0_2.map c_aNd)), (0, (o88 bx0 y0_0_0 y0_0_1 w0_0 y0_0_3 y0_0_4 y0_0_5))], [(0, (o88 bx0 y0_0_0 y0_0_1 ((γ_222 1).1 0) y0_0_3 y0_0_4 y0_0_5)), (1, .arrA ((γ_222 1).1 0) 42 9 ((y0_0_2).map c_aNd))]⟩) [1] (fun γ_222 γ' h => by simp only [h 1 (by decide)]) (fun γ_222 t hm => One.step rfl (.free rfl) (OpT.callG (is := [0, 1]) (ph := []) rfl (dl rfl rfl) Tryd.func49 rfl rfl (Args.cons hm.s0 Args.nil) (r4r_ends_T K (bx0 := bx0) (wx0c2 := w0_0) e_230) (.cons hm.o1 rfl (.cons hm.o0 rfl (.nil))) (fun _ => rfl) (fun g => ⟨(g, 0), rfl⟩))) (fun γ_222 => Ct.mo rfl rfl) ?_
    refine DGG.step (c := fun γ_222 => ⟨some 11, .bool (!v_229), [(10, .bool v_229)], [], []⟩) [] (fun _ _ _ => rfl) (fun γ_222 t hm => One.step rfl (.free rfl) (OpT.not rfl (dl rfl rfl) hm.s0 ⟨(fun _ => undef, 0), rfl⟩)) (fun γ_222 => Ct.mo rfl rfl) ?_
    refine DGG.step (c := fun γ_222 => ⟨some 12, .bool (!v_229), [(11, .bool (!v_229))], [], []⟩) [] (fun _ _ _ => rfl) (fun γ_222 t hm => One.step rfl (.free rfl) (OpT.move rfl (dl rfl rfl) hm.s0 ⟨(fun _ => undef, 0), rfl⟩)) (fun γ_222 => Ct.mo rfl rfl) ?_
    rcases bif_some h with ⟨c_231, h⟩ | ⟨c_231, h⟩
    · refine DGG.step (c := fun γ_222 => ⟨some 13, .ptr bx0 0, [(0, .ptr bx0 0), (12, .bool (!v_229))], [], []⟩) [] (fun _ _ _ => rfl) (fun γ_222 t hm => One.step rfl (.on rfl rfl hm.s1 c_231) (OpT.move rfl (dl rfl rfl) hm.s0 ⟨(fun _ => undef, 0), rfl⟩)) (fun γ_222 => Ct.mo rfl rfl) ?_
      refine DGG.step (c := fun γ_222 => ⟨some 14, .ptr bx0 0, [(13, .ptr bx0 0), (12, .bool (!v_229))], [], []⟩) [] (fun _ _ _ => rfl) (fun γ_222 t hm => One.step rfl (.on rfl rfl hm.s1 c_231) (OpT.nilCheck rfl (dl rfl rfl) hm.s0 rfl ⟨(fun _ => undef, 0), rfl⟩)) (fun γ_222 => Ct.mo rfl rfl) ?_
      refine DGG.step (c := fun γ_222 => ⟨some 15, .ptr bx0 (0 + 0), [(14, .ptr bx0 0), (12, .bool (!v_229))], [], []⟩) [] (fun _ _ _ => rfl) (fun γ_222 t hm => One.step rfl (.on rfl rfl hm.s1 c_231) (OpT.fieldPtr rfl (dl rfl rfl) Tryd.underlying88 rfl i9 (by decide) hm.s0 ⟨(fun _ => undef, 0), rfl⟩)) (fun γ_222 => Ct.mo rfl rfl) ?_
      refine DGG.step (c := fun γ_222 => ⟨some 16, .str y0_0_0, [(15, .ptr bx0 (0 + 0)), (12, .bool (!v_229))], [(0, (o88 bx0 y0_0_0 y0_0_1 ((γ_222 1).1 0) y0_0_3 y0_0_4 y0_0_5))], []⟩) [1] (fun γ_222 γ' h => by simp only [h 1 (by decide)]) (fun γ_222 t hm => One.step rfl (.on rfl rfl hm.s1 c_231) (OpT.loadBox (i := 0) rfl (dl rfl rfl) Tryd.underlying9 rfl hm.s0 hm.o0 rfl ⟨(fun _ => undef, 0), rfl⟩)) (fun γ_222 => Ct.mo rfl rfl) ?_
      refine DGG.step (c := fun γ_222 => ⟨some 17, .ptr bx0 0, [(0, .ptr bx0 0), (12, .bool (!v_229))], [], []⟩) [] (fun _ _ _ => rfl) (fun γ_222 t hm => One.step rfl (.on rfl rfl hm.s1 c_231) (OpT.move rfl (dl rfl rfl) hm.s0 ⟨(fun _ => undef, 0), rfl⟩)) (fun γ_222 => Ct.mo rfl rfl) ?_
      refine DGG.step (c := fun γ_222 => ⟨some 18, .ptr bx0 0, [(17, .ptr bx0 0), (12, .bool (!v_229))], [], []⟩) [] (fun _ _ _ => rfl) (fun γ_222 t hm => One.step rfl (.on rfl rfl hm.s1 c_231) (OpT.nilCheck rfl (dl rfl rfl) hm.s0 rfl ⟨(fun _ => undef, 0), rfl⟩)) (fun γ_222 => Ct.mo rfl rfl) ?_
      refine DGG.step (c := fun γ_222 => ⟨some 19, .ptr bx0 (0 + 1), [(18, .ptr bx0 0), (12, .bool (!v_229))], [], []⟩) [] (fun _ _ _ => rfl) (fun γ_222 t hm => One.step rfl (.on rfl rfl hm.s1 c_231) (OpT.fieldPtr rfl (dl rfl rfl) Tryd.underlying88 rfl i3 (by decide) hm.s0 ⟨(fun _ => undef, 0), rfl⟩)) (fun γ_222 => Ct.mo rfl rfl) ?_
      refine DGG.step (c := fun γ_222 => ⟨some 20, .int .i64 y0_0_1, [(19, .ptr bx0 (0 + 1)), (12, .bool (!v_229))], [(0, (o88 bx0 y0_0_0 y0_0_1 ((γ_222 1).1 0) y0_0_3 y0_0_4 y0_0_5))], []⟩) [1] (fun γ_222 γ' h => by simp only [h 1 (by decide)]) (fun γ_222 t hm => One.step rfl (.on rfl rfl hm.s1 c_231) (OpT.loadBox (i := 0) rfl (dl rfl rfl) Tryd.underlying3 rfl hm.s0 hm.o0 rfl ⟨(fun _ => undef, 0), rfl⟩)) (fun γ_222 => Ct.mo rfl rfl) ?_
      obtain ⟨g_232, h⟩ := ck_some h
      refine DGG.step (c := fun γ_222 => ⟨some 21, .int .u8 (bt y0_0_0 y0_0_1), [(16, .str y0_0_0), (20, .int .i64 y0_0_1), (12, .bool (!v_229))], [], []⟩) [] (fun _ _ _ => rfl) (fun γ_222 t hm => One.step rfl (.on rfl rfl hm.s2 c_231) (OpT.indexStr rfl (dl rfl rfl) Tryd.underlying9 hm.s0 hm.s1 g_232.1 g_232.2 ⟨(fun _ => undef, 0), rfl⟩)) (fun γ_222 => Ct.mo rfl rfl) ?_
      obtain ⟨v_233, e_234, h⟩ := bind_some h
      refine DGG.step (c := fun γ_222 => ⟨some 22, .bool v_233, [(21, .int .u8 (bt y0_0_0 y0_0_1)), (12, .bool (!v_229))], [], []⟩) [] (fun _ _ _ => rfl) (fun γ_222 t hm => One.step rfl (.on rfl rfl hm.s1 c_231) (OpT.callPA rfl (dl rfl rfl) Tryd.func81 rfl rfl (Args.cons hm.s0 Args.nil) (CallR.nil (r4_digit_T K e_234)) ⟨(fun _ => undef, 0), rfl⟩)) (fun γ_222 => Ct.mo rfl rfl) ?_
      refine DGG.step (c := fun γ_222 => ⟨some 23, .bool v_233, [(12, .bool (!v_229)), (22, .bool v_233)], [], []⟩) [] (fun _ _ _ => rfl) (fun γ_222 t hm => One.step rfl (.free rfl) (OpT.pickT rfl (dl rfl rfl) hm.s0 c_231 hm.s1 ⟨(fun _ => undef, 0), rfl⟩)) (fun γ_222 => Ct.mo rfl rfl) ?_
      refine DGG.fin (s1 := fun γ_222 => ⟨[(0, .ptr bx0 0), (3, .int .i64 x3_0_6), (4, .int .i64 x0.at_), (13, .ptr bx0 0), (14, .ptr bx0 0), (15, .ptr bx0 (0 + 0)), (16, .str y0_0_0), (17, .ptr bx0 0), (18, .ptr bx0 0), (19, .ptr bx0 (0 + 1)), (20, .int .i64 y0_0_1), (21, .int .u8 (bt y0_0_0 y0_0_1)), (22, .bool v_233), (23, .bool v_233)], [(o88 bx0 y0_0_0 y0_0_1 ((γ_222 1).1 0) y0_0_3 y0_0_4 y0_0_5), .arrA ((γ_222 1).1 0) 42 9 ((y0_0_2).map c_aNd)]⟩) (ms := [0, 1, 3, 7, 15, 31, 63, 127, 15, 271, 783, 1807, 4095, 8191, 16383]) TrydMixed rfl (by kernel_rfl) (by kernel_rfl) (by kernel_rfl) (fun γ_222 => by kernel_rfl) (fun γ_222 => .cons rfl (.cons rfl (.cons rfl (.cons rfl (.cons rfl (.cons rfl (.cons rfl (.cons rfl (.cons rfl (.cons rfl (.cons rfl (.cons rfl (.cons rfl (.cons rfl (.nil _))))))))))))))) (fun _ => rfl) (fun γ_222 u hu => (tN (T.by_turn hu ?_)))
      rcases bif_some h with ⟨c_235, h⟩ | ⟨c_235, h⟩
      · refine T.condT rfl c_235 ?_
        refine T.skip (tN ?_)
        refine T.block ?_
        refine T.seq ?_
        refine DG.start ?_
        refine DG.mv rfl rfl rfl rfl rfl rfl ?_
        refine DG.step (c := ⟨some 25, .int .i64 (IntKind.i64.wrap (x3_0_6 * (10 : Int))), [(24, .int .i64 x3_0_6)], [], []⟩) (fun t hm => One.step rfl (.free rfl) (OpT.int2 rfl rfl (dl rfl rfl) hm.s0 rfl rfl)) (Ct.mo rfl rfl) ?_
        refine DG.mv rfl rfl rfl rfl rfl rfl ?_
        refine DG.step (c := ⟨some 27, .ptr bx0 0, [(26, .ptr bx0 0)], [], []⟩) (fun t hm => One.step rfl (.free rfl) (OpT.nilCheck rfl (dl rfl rfl) hm.s0 rfl rfl)) (Ct.mo rfl rfl) ?_
        refine DG.step (c := ⟨some 28, .ptr bx0 (0 + 0), [(27, .ptr bx0 0)], [], []⟩) (fun t hm => One.step rfl (.free rfl) (OpT.fieldPtr rfl (dl rfl rfl) Tryd.underlying88 rfl i9 (by decide) hm.s0 rfl)) (Ct.mo rfl rfl) ?_
        refine DG.step (c := ⟨some 29, .str y0_0_0, [(28, .ptr bx0 (0 + 0))], [(0, (o88 bx0 y0_0_0 y0_0_1 ((γ_222 1).1 0) y0_0_3 y0_0_4 y0_0_5))], []⟩) (fun t hm => One.step rfl (.free rfl) (OpT.loadBox (i := 0) rfl (dl rfl rfl) Tryd.underlying9 rfl hm.s0 hm.o0 rfl rfl)) (Ct.mo rfl rfl) ?_
        refine DG.mv rfl rfl rfl rfl rfl rfl ?_
        refine DG.step (c := ⟨some 31, .ptr bx0 0, [(30, .ptr bx0 0)], [], []⟩) (fun t hm => One.step rfl (.free rfl) (OpT.nilCheck rfl (dl rfl rfl) hm.s0 rfl rfl)) (Ct.mo rfl rfl) ?_
        refine DG.step (c := ⟨some 32, .ptr bx0 (0 + 1), [(31, .ptr bx0 0)], [], []⟩) (fun t hm => One.step rfl (.free rfl) (OpT.fieldPtr rfl (dl rfl rfl) Tryd.underlying88 rfl i3 (by decide) hm.s0 rfl)) (Ct.mo rfl rfl) ?_
        refine DG.step (c := ⟨some 33, .int .i64 y0_0_1, [(32, .ptr bx0 (0 + 1))], [(0, (o88 bx0 y0_0_0 y0_0_1 ((γ_222 1).1 0) y0_0_3 y0_0_4 y0_0_5))], []⟩) (fun t hm => One.step rfl (.free rfl) (OpT.loadBox (i := 0) rfl (dl rfl rfl) Tryd.underlying3 rfl hm.s0 hm.o0 rfl rfl)) (Ct.mo rfl rfl) ?_
        refine DG.step (c := ⟨some 34, .int .u8 (bt y0_0_0 y0_0_1), [(29, .str y0_0_0), (33, .int .i64 y0_0_1)], [], []⟩) (fun t hm => One.step rfl (.free rfl) (OpT.indexStr rfl (dl rfl rfl) Tryd.underlying9 hm.s0 hm.s1 g_232.1 g_232.2 rfl)) (Ct.mo rfl rfl) ?_
        refine DG.step (c := ⟨some 35, .int .u8 (IntKind.u8.wrap ((bt y0_0_0 y0_0_1) - (48 : Int))), [(34, .int .u8 (bt y0_0_0 y0_0_1))], [], []⟩) (fun t hm => One.step rfl (.free rfl) (OpT.int2 rfl rfl (dl rfl rfl) hm.s0 rfl rfl)) (Ct.mo rfl rfl) ?_
        refine DG.step (c := ⟨some 36, .int .i64 (IntKind.i64.wrap (IntKind.u8.wrap ((bt y0_0_0 y0_0_1) - (48 : Int)))), [(35, .int .u8 (IntKind.u8.wrap ((bt y0_0_0 y0_0_1) - (48 : Int))))], [], []⟩) (fun t hm => One.step rfl (.free rfl) (OpT.convInt rfl (dl rfl rfl) Tryd.underlying5 Tryd.underlying3 hm.s0 rfl)) (Ct.mo rfl rfl) ?_
        refine DG.step (c := ⟨some 37, .int .i64 (IntKind.i64.wrap ((IntKind.i64.wrap (x3_0_6 * (10 : Int))) + (IntKind.i64.wrap (IntKind.u8.wrap ((bt y0_0_0 y0_0_1) - (48 : Int)))))), [(25, .int .i64 (IntKind.i64.wrap (x3_0_6 * (10 : Int)))), (36, .int .i64 (IntKind.i64.wrap (IntKind.u8.wrap ((bt y0_0_0 y0_0_1) - (48 : Int)))))], [], []⟩) (fun t hm => One.step rfl (.free rfl) (OpT.int2 rfl rfl (dl rfl rfl) hm.s0 hm.s1 rfl)) (Ct.mo rfl rfl) ?_
        refine DG.step (c := ⟨some 38, .int .i64 (if (1000000 : Int) < (IntKind.i64.wrap ((IntKind.i64.wrap (x3_0_6 * (10 : Int))) + (IntKind.i64.wrap (IntKind.u8.wrap ((bt y0_0_0 y0_0_1) - (48 : Int)))))) then (1000000 : Int) else (IntKind.i64.wrap ((IntKind.i64.wrap (x3_0_6 * (10 : Int))) + (IntKind.i64.wrap (IntKind.u8.wrap ((bt y0_0_0 y0_0_1) - (48 : Int))))))), [(37, .int .i64 (IntKind.i64.wrap ((IntKind.i64.wrap (x3_0_6 * (10 : Int))) + (IntKind.i64.wrap (IntKind.u8.wrap ((bt y0_0_0 y0_0_1) - (48 : Int)))))))], [], []⟩) (fun t hm => One.step rfl (.free rfl) (OpT.min2 rfl (dl rfl rfl) hm.s0 rfl rfl)) (Ct.mo rfl rfl) ?_
        refine DG.step (c := ⟨some 3, .int .i64 (if (1000000 : Int) < (IntKind.i64.wrap ((IntKind.i64.wrap (x3_0_6 * (10 : Int))) + (IntKind.i64.wrap (IntKind.u8.wrap ((bt y0_0_0 y0_0_1) - (48 : Int)))))) then (1000000 : Int) else (IntKind.i64.wrap ((IntKind.i64.wrap (x3_0_6 * (10 : Int))) + (IntKind.i64.wrap (IntKind.u8.wrap ((bt y0_0_0 y0_0_1) - (48 : Int))))))), [(38, .int .i64 (if (1000000 : Int) < (IntKind.i64.wrap ((IntKind.i64.wrap (x3_0_6 * (10 : Int))) + (IntKind.i64.wrap (IntKind.u8.wrap ((bt y0_0_0 y0_0_1) - (48 : Int)))))) then (1000000 : Int) else (IntKind.i64.wrap ((IntKind.i64.wrap (x3_0_6 * (10 : Int))) + (IntKind.i64.wrap (IntKind.u8.wrap ((bt y0_0_0 y0_0_1) - (48 : Int))))))))], [], []⟩) (fun t hm => One.step rfl (.free rfl) (OpT.assign rfl (dl rfl rfl) hm.s0 rfl)) (Ct.mo rfl rfl) ?_
        refine DG.fin (s1 := ⟨[(0, .ptr bx0 0), (3, .int .i64 (if (1000000 : Int) < (IntKind.i64.wrap ((IntKind.i64.wrap (x3_0_6 * (10 : Int))) + (IntKind.i64.wrap (IntKind.u8.wrap ((bt y0_0_0 y0_0_1) - (48 : Int)))))) then (1000000 : Int) else (IntKind.i64.wrap ((IntKind.i64.wrap (x3_0_6 * (10 : Int))) + (IntKind.i64.wrap (IntKind.u8.wrap ((bt y0_0_0 y0_0_1) - (48 : Int)))))))), (4, .int .i64 x0.at_), (13, .ptr bx0 0), (14, .ptr bx0 0), (15, .ptr bx0 (0 + 0)), (16, .str y0_0_0), (17, .ptr bx0 0), (18, .ptr bx0 0), (19, .ptr bx0 (0 + 1)), (20, .int .i64 y0_0_1), (21, .int .u8 (bt y0_0_0 y0_0_1)), (22, .bool v_233)], [(o88 bx0 y0_0_0 y0_0_1 ((γ_222 1).1 0) y0_0_3 y0_0_4 y0_0_5), .arrA ((γ_222 1).1 0) 42 9 ((y0_0_2).map c_aNd)]⟩) (ms := [0, 1, 0, 4, 12, 28, 0, 64, 192, 448, 1020, 2044, 4092, 8191, 16383, 32767]) TrydMixed rfl (by kernel_rfl) (by kernel_rfl) (by kernel_rfl) (.cons rfl (.cons rfl (.cons rfl (.cons rfl (.cons rfl (.cons rfl (.cons rfl (.cons rfl (.cons rfl (.cons rfl (.cons rfl (.cons rfl (.cons rfl (.nil _)))))))))))))) rfl (fun u hu => (tN (T.by_turn hu ?_)))
        refine T.rL ?_
        refine mv rfl rfl rfl rfl rfl ?_
        refine sp rfl (OpT.nilCheck rfl (dl rfl rfl) rfl rfl ?_)
        refine sp rfl (OpT.fieldPtr rfl (dl rfl rfl) Tryd.underlying88 rfl i3 (by decide) rfl ?_)
        refine sp rfl (OpT.loadBox (i := 0) rfl (dl rfl rfl) Tryd.underlying3 rfl rfl rfl rfl ?_)
        refine sp rfl (OpT.int2 rfl rfl (dl rfl rfl) rfl rfl ?_)
        refine sp rfl (OpT.nilCheck rfl (dl rfl rfl) rfl rfl ?_)
        refine sp rfl (OpT.fieldPtr rfl (dl rfl rfl) Tryd.underlying88 rfl i3 (by decide) rfl ?_)
        refine sp rfl (OpT.storeTo (i := 0) (cells' := [.d (.str y0_0_0), .d (.int .i64 (IntKind.i64.wrap (y0_0_1 + (1 : Int)))), .d (.ex ((γ_222 1).1 0)), .d (.int .i64 y0_0_3), .d (.int .i64 y0_0_4), .d (.int .i64 y0_0_5)]) rfl rfl i3 rfl rfl rfl (Nat.le_of_ble_eq_true rfl) rfl ?_)
        refine TL'.nil (inBlock_normal (tN ?_))
        refine TL.by_turn ?_ (ih (if (1000000 : Int) < (IntKind.i64.wrap ((IntKind.i64.wrap (x3_0_6 * (10 : Int))) + (IntKind.i64.wrap (IntKind.u8.wrap ((bt y0_0_0 y0_0_1) - (48 : Int)))))) then (1000000 : Int) else (IntKind.i64.wrap ((IntKind.i64.wrap (x3_0_6 * (10 : Int))) + (IntKind.i64.wrap (IntKind.u8.wrap ((bt y0_0_0 y0_0_1) - (48 : Int))))))) x0 y0_0_0 (IntKind.i64.wrap (y0_0_1 + (1 : Int))) y0_0_3 y0_0_4 y0_0_5 y0_0_2 ((γ_222 1).1 0) h)
        exact Turn.rp (.cons rfl (.cons rfl (.cons rfl (.nil _)))) (.c .z (.c .z (.n _)))
      · refine T.condF rfl c_235 ?_
        refine T.by_turn ?_ (r4r_number_j1_T K bx0 x3_0_6 x0 y0_0_0 y0_0_1 y0_0_3 y0_0_4 y0_0_5 y0_0_2 ((γ_222 1).1 0) h)
        exact Turn.rp (.cons rfl (.cons rfl (.cons rfl (.nil _)))) (.c .z (.c .z (.n _)))
    · refine DGG.off c_231 rfl rfl rfl rfl rfl (fun _ => rfl) ?_
      refine DGG.off c_231 rfl rfl rfl rfl rfl (fun _ => rfl) ?_
      refine DGG.off c_231 rfl rfl rfl rfl rfl (fun _ => rfl) ?_
      refine DGG.off c_231 rfl rfl rfl rfl rfl (fun _ => rfl) ?_
      refine DGG.off c_231 rfl rfl rfl rfl rfl (fun _ => rfl) ?_
      refine DGG.off c_231 rfl rfl rfl rfl rfl (fun _ => rfl) ?_
      refine DGG.off c_231 rfl rfl rfl rfl rfl (fun _ => rfl) ?_
      refine DGG.off c_231 rfl rfl rfl rfl rfl (fun _ => rfl) ?_
      refine DGG.off c_231 rfl rfl rfl rfl rfl (fun _ => rfl) ?_
      refine DGG.off c_231 rfl rfl rfl rfl rfl (fun _ => rfl) ?_
      refine DGG.step (c := fun γ_222 => ⟨some 23, .bool false, [(12, .bool (!v_229))], [], []⟩) [] (fun _ _ _ => rfl) (fun γ_222 t hm => One.step rfl (.free rfl) (OpT.pickF rfl (dl rfl rfl) hm.s0 c_231 rfl ⟨(fun _ => undef, 0), rfl⟩)) (fun γ_222 => Ct.mo rfl rfl) ?_
      refine DGG.fin (s1 := fun γ_222 => ⟨[(0, .ptr bx0 0), (3, .int .i64 x3_0_6), (4, .int .i64 x0.at_), (13, .tup []), (14, .tup []), (15, .tup []), (16, .tup []), (17, .tup []), (18, .tup []), (19, .tup []), (20, .tup []), (21, .tup []), (22, .tup []), (23, .bool false)], [(o88 bx0 y0_0_0 y0_0_1 ((γ_222 1).1 0) y0_0_3 y0_0_4 y0_0_5), .arrA ((γ_222 1).1 0) 42 9 ((y0_0_2).map c_aNd)]⟩) (ms := [0, 1, 3, 7, 15, 31, 63, 127, 15, 271, 783, 1807, 4095, 8191, 16383]) TrydMixed rfl (by kernel_rfl) (by kernel_rfl) (by kernel_rfl) (fun γ_222 => by kernel_rfl) (fun γ_222 => .cons rfl (.cons rfl (.cons rfl (.cons rfl (.cons rfl (.cons rfl (.cons rfl (.cons rfl (.cons rfl (.cons rfl (.cons rfl (.cons rfl (.cons rfl (.cons rfl (.nil _))))))))))))))) (fun _ => rfl) (fun γ_222 u hu => (tN (T.by_turn hu ?_)))
      refine T.condF rfl rfl ?_
      refine T.by_turn ?_ (r4r_number_j1_T K bx0 x3_0_6 x0 y0_0_0 y0_0_1 y0_0_3 y0_0_4 y0_0_5 y0_0_2 ((γ_222 1).1 0) h)
      exact Turn.rp (.cons rfl (.cons rfl (.cons rfl (.nil _)))) (.c .z (.c .z (.n _)))
theorem r4r_number_T (K : Nat) {x0 : r4r} {bx0 : Nat} {wx0c2 : Value} {r : Int × r4r} (h : r4r_number K x0 = some r) : CallG Tryd.prog 107 [.ptr bx0 0] [(o88 bx0 x0.s x0.at_ wx0c2 x0.deep x0.e x0.where_), .arrA wx0c2 42 9 (x0.nodes.map c_aNd)] (fun γ => (.int .i64 r.1)) (fun γ => [(o88 bx0 r.2.s r.2.at_ (γ 0) r.2.deep r.2.e r.2.where_), .arrA (γ 0) 42 9 (r.2.nodes.map c_aNd)]) := by
 refine CallT.intro Tryd.func107 rfl (nb rfl) ?_
 show T Tryd.prog 72 (Code.at [] (codeOf Tryd.f107)) ⟨paramSlots 0 [.ptr bx0 0], [(o88 bx0 x0.s x0.at_ wx0c2 x0.deep x0.e x0.where_), .arrA wx0c2 42 9 (x0.nodes.map c_aNd)]⟩ (r4r_number_q bx0 r)
 unfold r4r_number at h
 refine T.seq ?_
 refine T.rL ?_
 refine aw rfl ?_
 refine TL'.nil (tN ?_)
 refine T.seq ?_
 refine T.rL ?_
 refine aw rfl ?_
 refine TL'.nil (tN ?_)
 refine T.seq ?_
 refine T.rL ?_
 refine mw rfl ?_
 refine sp rfl (OpT.nilCheck rfl (dk rfl) rfl rfl ?_)
 refine sp rfl (OpT.fieldPtr rfl (dk rfl) ul88 rfl i3 (by decide) rfl ?_)
 refine sp rfl (OpT.loadBox (i := 0) rfl (dk rfl) ul3 rfl rfl rfl rfl ?_)
 refine aw rfl ?_
 refine TL'.nil (tN ?_)
 refine T.seq ?_
 refine T.block ?_
 refine T.loop ?_
 refine TL.by_turn ?_ (r4r_number_l0_T K bx0 K (0 : Int) x0 x0.s x0.at_ x0.deep x0.e x0.where_ x0.nodes wx0c2 h)
 exact Turn.rp (.cons rfl (.cons rfl (.cons rfl (.nil _)))) (.c .z (.c .z (.n _)))
end Go.Rv

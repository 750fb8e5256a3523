/- Each function computes what its plain text says: printed by a program of ours. -/
import Derived.Test.YtocjhbbldeankaaDoorRgW0
namespace Go.Rv
open Go.Proofs
set_option maxRecDepth 100000
set_option maxHeartbeats 4000000
set_option linter.unusedVariables false

abbrev r4r_ends_q (bx0 : Nat) (x0 : r4r) (r : Bool) : Exit → St → Prop := retS Tryd.prog Tryd.f49 (fun y t => ∃ γ : Nat → Value, y = (.bool r) ∧ t = [.box bx0 88 [.d (.str x0.s), .d (.int .i64 x0.at_), .d (.ex (γ 0)), .d (.int .i64 x0.deep), .d (.int .i64 x0.e), .d (.int .i64 x0.where_)], .arrA (γ 0) 42 9 (x0.nodes.map c_api_Node)])

theorem r4r_ends_T (K : Nat) {x0 : r4r} {bx0 : Nat} {wx0c2 : Value} {r : Bool} (h : r4r_ends K x0 = some r) : CallG Tryd.prog 49 [.ptr bx0 0] [.box bx0 88 [.d (.str x0.s), .d (.int .i64 x0.at_), .d (.ex wx0c2), .d (.int .i64 x0.deep), .d (.int .i64 x0.e), .d (.int .i64 x0.where_)], .arrA wx0c2 42 9 (x0.nodes.map c_api_Node)] (fun γ => (.bool r)) (fun γ => [.box bx0 88 [.d (.str x0.s), .d (.int .i64 x0.at_), .d (.ex (γ 0)), .d (.int .i64 x0.deep), .d (.int .i64 x0.e), .d (.int .i64 x0.where_)], .arrA (γ 0) 42 9 (x0.nodes.map c_api_Node)]) := by
  refine CallT.intro Tryd.func49 rfl (Nat.le_of_ble_eq_true rfl) ?_
  show T Tryd.prog 20 (Code.at [] (codeOf Tryd.f49)) ⟨paramSlots 0 [.ptr bx0 0], [.box bx0 88 [.d (.str x0.s), .d (.int .i64 x0.at_), .d (.ex wx0c2), .d (.int .i64 x0.deep), .d (.int .i64 x0.e), .d (.int .i64 x0.where_)], .arrA wx0c2 42 9 (x0.nodes.map c_api_Node)]⟩ (r4r_ends_q bx0 x0 r)
  unfold r4r_ends at h
  refine T.seq ?_
  refine T.regionL ?_
  refine asg rfl rfl rfl rfl rfl ?_
  refine TL'.nil (thenS_normal ?_)
  refine T.seq ?_
  refine DG.start ?_
  refine DG.mv rfl rfl rfl rfl rfl rfl ?_
  refine DG.step (c := ⟨some 4, .ptr bx0 0, [(3, .ptr bx0 0)], [], []⟩) (fun t hm => One.step rfl (.free rfl) (OpT.nilCheck rfl (dl rfl rfl) hm.s0 rfl rfl)) (Ct.met_of rfl rfl) ?_
  refine DG.step (c := ⟨some 5, .ptr bx0 (0 + 1), [(4, .ptr bx0 0)], [], []⟩) (fun t hm => One.step rfl (.free rfl) (OpT.fieldPtr rfl (dl rfl rfl) Tryd.underlying88 rfl i3 (by decide) hm.s0 rfl)) (Ct.met_of rfl rfl) ?_
  refine DG.step (c := ⟨some 6, .int .i64 x0.at_, [(5, .ptr bx0 (0 + 1))], [(0, .box bx0 88 [.d (.str x0.s), .d (.int .i64 x0.at_), .d (.ex wx0c2), .d (.int .i64 x0.deep), .d (.int .i64 x0.e), .d (.int .i64 x0.where_)])], []⟩) (fun t hm => One.step rfl (.free rfl) (OpT.loadBox (i := 0) rfl (dl rfl rfl) Tryd.underlying3 rfl hm.s0 hm.o0 rfl rfl)) (Ct.met_of rfl rfl) ?_
  refine DG.mv rfl rfl rfl rfl rfl rfl ?_
  refine DG.step (c := ⟨some 8, .ptr bx0 0, [(7, .ptr bx0 0)], [], []⟩) (fun t hm => One.step rfl (.free rfl) (OpT.nilCheck rfl (dl rfl rfl) hm.s0 rfl rfl)) (Ct.met_of rfl rfl) ?_
  refine DG.step (c := ⟨some 9, .ptr bx0 (0 + 0), [(8, .ptr bx0 0)], [], []⟩) (fun t hm => One.step rfl (.free rfl) (OpT.fieldPtr rfl (dl rfl rfl) Tryd.underlying88 rfl i9 (by decide) hm.s0 rfl)) (Ct.met_of rfl rfl) ?_
  refine DG.step (c := ⟨some 10, .str x0.s, [(9, .ptr bx0 (0 + 0))], [(0, .box bx0 88 [.d (.str x0.s), .d (.int .i64 x0.at_), .d (.ex wx0c2), .d (.int .i64 x0.deep), .d (.int .i64 x0.e), .d (.int .i64 x0.where_)])], []⟩) (fun t hm => One.step rfl (.free rfl) (OpT.loadBox (i := 0) rfl (dl rfl rfl) Tryd.underlying9 rfl hm.s0 hm.o0 rfl rfl)) (Ct.met_of rfl rfl) ?_
  refine DG.step (c := ⟨some 11, .int .i64 (x0.s.size : Int), [(10, .str x0.s)], [], []⟩) (fun t hm => One.step rfl (.free rfl) (OpT.lenStr rfl (dl rfl rfl) Tryd.underlying9 hm.s0 rfl)) (Ct.met_of rfl rfl) ?_
  refine DG.step (c := ⟨some 12, .bool (decide (x0.at_ ≥ (x0.s.size : Int))), [(6, .int .i64 x0.at_), (11, .int .i64 (x0.s.size : Int))], [], []⟩) (fun t hm => One.step rfl (.free rfl) (OpT.int2 rfl rfl (dl rfl rfl) hm.s0 hm.s1 rfl)) (Ct.met_of rfl rfl) ?_
  refine DG.mv rfl rfl rfl rfl rfl rfl ?_
  rcases bif_some h with ⟨c_15, h⟩ | ⟨c_15, h⟩
  · refine DG.off c_15 rfl rfl rfl rfl rfl rfl ?_
    refine DG.off c_15 rfl rfl rfl rfl rfl rfl ?_
    refine DG.off c_15 rfl rfl rfl rfl rfl rfl ?_
    refine DG.off c_15 rfl rfl rfl rfl rfl rfl ?_
    refine DG.off c_15 rfl rfl rfl rfl rfl rfl ?_
    refine DG.step (c := ⟨some 19, .bool true, [(13, .bool (decide (x0.at_ ≥ (x0.s.size : Int))))], [], []⟩) (fun t hm => One.step rfl (.free rfl) (OpT.pickT rfl (dl rfl rfl) hm.s0 c_15 rfl rfl)) (Ct.met_of rfl rfl) ?_
    refine DG.step (c := ⟨some 2, .bool true, [(19, .bool true)], [], []⟩) (fun t hm => One.step rfl (.free rfl) (OpT.assign rfl (dl rfl rfl) hm.s0 rfl)) (Ct.met_of rfl rfl) ?_
    refine DG.fin (s1 := ⟨[(2, .bool true)], [.box bx0 88 [.d (.str x0.s), .d (.int .i64 x0.at_), .d (.ex wx0c2), .d (.int .i64 x0.deep), .d (.int .i64 x0.e), .d (.int .i64 x0.where_)], .arrA wx0c2 42 9 (x0.nodes.map c_api_Node)]⟩) (ms := [0, 1, 3, 7, 0, 16, 48, 112, 240, 511, 1023, 2047, 4095, 8191, 16383, 32767, 65535, 131071]) TrydMixed rfl (by kernel_rfl) (by kernel_rfl) (by kernel_rfl) (.cons rfl (.nil _)) rfl (fun u hu => (thenS_normal (T.by_turn hu ?_)))
    refine T.ret ?_
    exact Fin.doneK (.cons _ _ _ _ (.tmp 2 _ rfl) .nil) (.cons 0 rfl (.cons 0 rfl (.nil _))) (by cases h; exact ⟨gl [wx0c2], rfl, rfl⟩)
  · refine DG.step (c := ⟨some 14, .ptr bx0 0, [(0, .ptr bx0 0), (13, .bool (decide (x0.at_ ≥ (x0.s.size : Int))))], [], []⟩) (fun t hm => One.step rfl (.on rfl rfl hm.s1 c_15) (OpT.move rfl (dl rfl rfl) hm.s0 rfl)) (Ct.met_of rfl rfl) ?_
    refine DG.step (c := ⟨some 15, .ptr bx0 0, [(14, .ptr bx0 0), (13, .bool (decide (x0.at_ ≥ (x0.s.size : Int))))], [], []⟩) (fun t hm => One.step rfl (.on rfl rfl hm.s1 c_15) (OpT.nilCheck rfl (dl rfl rfl) hm.s0 rfl rfl)) (Ct.met_of rfl rfl) ?_
    refine DG.step (c := ⟨some 16, .ptr bx0 (0 + 4), [(15, .ptr bx0 0), (13, .bool (decide (x0.at_ ≥ (x0.s.size : Int))))], [], []⟩) (fun t hm => One.step rfl (.on rfl rfl hm.s1 c_15) (OpT.fieldPtr rfl (dl rfl rfl) Tryd.underlying88 rfl i35 (by decide) hm.s0 rfl)) (Ct.met_of rfl rfl) ?_
    refine DG.step (c := ⟨some 17, .int .i64 x0.e, [(16, .ptr bx0 (0 + 4)), (13, .bool (decide (x0.at_ ≥ (x0.s.size : Int))))], [(0, .box bx0 88 [.d (.str x0.s), .d (.int .i64 x0.at_), .d (.ex wx0c2), .d (.int .i64 x0.deep), .d (.int .i64 x0.e), .d (.int .i64 x0.where_)])], []⟩) (fun t hm => One.step rfl (.on rfl rfl hm.s1 c_15) (OpT.loadBox (i := 0) rfl (dl rfl rfl) Tryd.underlying35 rfl hm.s0 hm.o0 rfl rfl)) (Ct.met_of rfl rfl) ?_
    refine DG.step (c := ⟨some 18, .bool (x0.e != (0 : Int)), [(17, .int .i64 x0.e), (13, .bool (decide (x0.at_ ≥ (x0.s.size : Int))))], [], []⟩) (fun t hm => One.step rfl (.on rfl rfl hm.s1 c_15) (OpT.int2 rfl rfl (dl rfl rfl) hm.s0 rfl rfl)) (Ct.met_of rfl rfl) ?_
    refine DG.step (c := ⟨some 19, .bool (x0.e != (0 : Int)), [(13, .bool (decide (x0.at_ ≥ (x0.s.size : Int)))), (18, .bool (x0.e != (0 : Int)))], [], []⟩) (fun t hm => One.step rfl (.free rfl) (OpT.pickF rfl (dl rfl rfl) hm.s0 c_15 hm.s1 rfl)) (Ct.met_of rfl rfl) ?_
    refine DG.step (c := ⟨some 2, .bool (x0.e != (0 : Int)), [(19, .bool (x0.e != (0 : Int)))], [], []⟩) (fun t hm => One.step rfl (.free rfl) (OpT.assign rfl (dl rfl rfl) hm.s0 rfl)) (Ct.met_of rfl rfl) ?_
    refine DG.fin (s1 := ⟨[(2, .bool (x0.e != (0 : Int)))], [.box bx0 88 [.d (.str x0.s), .d (.int .i64 x0.at_), .d (.ex wx0c2), .d (.int .i64 x0.deep), .d (.int .i64 x0.e), .d (.int .i64 x0.where_)], .arrA wx0c2 42 9 (x0.nodes.map c_api_Node)]⟩) (ms := [0, 1, 3, 7, 0, 16, 48, 112, 240, 511, 1023, 2047, 4095, 8191, 16383, 32767, 65535, 131071]) TrydMixed rfl (by kernel_rfl) (by kernel_rfl) (by kernel_rfl) (.cons rfl (.nil _)) rfl (fun u hu => (thenS_normal (T.by_turn hu ?_)))
    refine T.ret ?_
    exact Fin.doneK (.cons _ _ _ _ (.tmp 2 _ rfl) .nil) (.cons 0 rfl (.cons 0 rfl (.nil _))) (by cases h; exact ⟨gl [wx0c2], rfl, rfl⟩)

abbrev r4r_put_q (bx0 : Nat) (r : Int × r4r) : Exit → St → Prop := retS Tryd.prog Tryd.f65 (fun y t => ∃ γ : Nat → Value, y = (.int .i64 r.1) ∧ t = [.box bx0 88 [.d (.str r.2.s), .d (.int .i64 r.2.at_), .d (.ex (γ 0)), .d (.int .i64 r.2.deep), .d (.int .i64 r.2.e), .d (.int .i64 r.2.where_)], .arrA (γ 0) 42 9 (r.2.nodes.map c_api_Node)])

theorem r4r_put_T (K : Nat) {x0 : r4r} {x1 : api_Node} {bx0 : Nat} {wx0c2 : Value} {r : Int × r4r} (h : r4r_put K x0 x1 = some r) : CallG Tryd.prog 65 [.ptr bx0 0, .agg [.int .u8 x1.Op, .int .u64 x1.S.a0, .int .u64 x1.S.a1, .int .u64 x1.S.a2, .int .u64 x1.S.a3, .sl false 1 (x1.L.map (cI .i64)), .int .i64 x1.Lo, .int .i64 x1.Hi, .str x1.Name]] [.box bx0 88 [.d (.str x0.s), .d (.int .i64 x0.at_), .d (.ex wx0c2), .d (.int .i64 x0.deep), .d (.int .i64 x0.e), .d (.int .i64 x0.where_)], .arrA wx0c2 42 9 (x0.nodes.map c_api_Node)] (fun γ => (.int .i64 r.1)) (fun γ => [.box bx0 88 [.d (.str r.2.s), .d (.int .i64 r.2.at_), .d (.ex (γ 0)), .d (.int .i64 r.2.deep), .d (.int .i64 r.2.e), .d (.int .i64 r.2.where_)], .arrA (γ 0) 42 9 (r.2.nodes.map c_api_Node)]) := by
  refine CallT.intro Tryd.func65 rfl (Nat.le_of_ble_eq_true rfl) ?_
  show T Tryd.prog 21 (Code.at [] (codeOf Tryd.f65)) ⟨paramSlots 0 [.ptr bx0 0, .agg [.int .u8 x1.Op, .int .u64 x1.S.a0, .int .u64 x1.S.a1, .int .u64 x1.S.a2, .int .u64 x1.S.a3, .sl false 1 (x1.L.map (cI .i64)), .int .i64 x1.Lo, .int .i64 x1.Hi, .str x1.Name]], [.box bx0 88 [.d (.str x0.s), .d (.int .i64 x0.at_), .d (.ex wx0c2), .d (.int .i64 x0.deep), .d (.int .i64 x0.e), .d (.int .i64 x0.where_)], .arrA wx0c2 42 9 (x0.nodes.map c_api_Node)]⟩ (r4r_put_q bx0 r)
  unfold r4r_put at h
  refine T.seq ?_
  refine T.regionL ?_
  refine sp rfl (OpT.boxAgg rfl (dl rfl rfl) rfl (fun b_16 => ?_))
  refine asg rfl rfl rfl rfl rfl ?_
  refine TL'.nil (thenS_normal ?_)
  refine T.seq ?_
  refine T.by_turn Turn.keepPlace ?_
  refine DGG.start ?_
  refine DGG.step (c := fun γ_17 => ⟨some 5, .ptr bx0 0, [(0, .ptr bx0 0)], [], []⟩) [] (fun _ _ _ => rfl) (fun γ_17 t hm => One.step rfl (.free rfl) (OpT.move rfl (dl rfl rfl) hm.s0 ⟨(fun _ => undef, 0), rfl⟩)) (fun γ_17 => Ct.met_of rfl rfl) ?_
  refine DGG.step (c := fun γ_17 => ⟨some 6, .ptr bx0 0, [(0, .ptr bx0 0)], [], []⟩) [] (fun _ _ _ => rfl) (fun γ_17 t hm => One.step rfl (.free rfl) (OpT.move rfl (dl rfl rfl) hm.s0 ⟨(fun _ => undef, 0), rfl⟩)) (fun γ_17 => Ct.met_of rfl rfl) ?_
  refine DGG.step (c := fun γ_17 => ⟨some 7, .ptr bx0 0, [(6, .ptr bx0 0)], [], []⟩) [] (fun _ _ _ => rfl) (fun γ_17 t hm => One.step rfl (.free rfl) (OpT.nilCheck rfl (dl rfl rfl) hm.s0 rfl ⟨(fun _ => undef, 0), rfl⟩)) (fun γ_17 => Ct.met_of rfl rfl) ?_
  refine DGG.step (c := fun γ_17 => ⟨some 8, .ptr bx0 (0 + 2), [(7, .ptr bx0 0)], [], []⟩) [] (fun _ _ _ => rfl) (fun γ_17 t hm => One.step rfl (.free rfl) (OpT.fieldPtr rfl (dl rfl rfl) Tryd.underlying88 rfl i22 (by decide) hm.s0 ⟨(fun _ => undef, 0), rfl⟩)) (fun γ_17 => Ct.met_of rfl rfl) ?_
  refine DGG.step (c := fun γ_17 => ⟨some 9, .c (.ex wx0c2), [(8, .ptr bx0 (0 + 2))], [(2, .box bx0 88 [.d (.str x0.s), .d (.int .i64 x0.at_), .d (.ex wx0c2), .d (.int .i64 x0.deep), .d (.int .i64 x0.e), .d (.int .i64 x0.where_)])], []⟩) [] (fun _ _ _ => rfl) (fun γ_17 t hm => One.step rfl (.free rfl) (OpT.loadBox (i := 2) rfl (dl rfl rfl) Tryd.underlying22 rfl hm.s0 hm.o0 rfl ⟨(fun _ => undef, 0), rfl⟩)) (fun γ_17 => Ct.met_of rfl rfl) ?_
  refine DGG.step (c := fun γ_17 => ⟨some 10, .agg [.int .u8 x1.Op, .int .u64 x1.S.a0, .int .u64 x1.S.a1, .int .u64 x1.S.a2, .int .u64 x1.S.a3, .sl false 1 (x1.L.map (cI .i64)), .int .i64 x1.Lo, .int .i64 x1.Hi, .str x1.Name], [(3, .ptr b_16 0)], [(1, .box b_16 42 [.d (.int .u8 x1.Op), .d (.int .u64 x1.S.a0), .d (.int .u64 x1.S.a1), .d (.int .u64 x1.S.a2), .d (.int .u64 x1.S.a3), .d (.sl false 1 (x1.L.map (cI .i64))), .d (.int .i64 x1.Lo), .d (.int .i64 x1.Hi), .d (.str x1.Name)])], []⟩) [] (fun _ _ _ => rfl) (fun γ_17 t hm => One.step rfl (.free rfl) (OpT.loadBoxAgg (i := 1) (l := [.int .u8 x1.Op, .int .u64 x1.S.a0, .int .u64 x1.S.a1, .int .u64 x1.S.a2, .int .u64 x1.S.a3, .sl false 1 (x1.L.map (cI .i64)), .int .i64 x1.Lo, .int .i64 x1.Hi, .str x1.Name]) rfl (dl rfl rfl) Tryd.underlying42 rfl i42 hm.s0 hm.o0 rfl rfl ⟨(fun _ => undef, 0), rfl⟩)) (fun γ_17 => Ct.met_of rfl rfl) ?_
  refine DGG.step (c := fun γ_17 => ⟨some 11, .sl true 9 ([x1].map c_api_Node), [(10, .agg [.int .u8 x1.Op, .int .u64 x1.S.a0, .int .u64 x1.S.a1, .int .u64 x1.S.a2, .int .u64 x1.S.a3, .sl false 1 (x1.L.map (cI .i64)), .int .i64 x1.Lo, .int .i64 x1.Hi, .str x1.Name])], [], []⟩) [] (fun _ _ _ => rfl) (fun γ_17 t hm => One.step rfl (.free rfl) (OpT.buildSlice (elems := ([x1] : List api_Node).map c_api_Node) rfl (dl rfl rfl) Tryd.underlying22 i42 (by decide) rfl (all1 rfl) (parts_cons hm.s0 rfl parts_nil) rfl rfl (lenAll rfl) (by decide) ⟨(fun _ => undef, 0), rfl⟩)) (fun γ_17 => Ct.met_of rfl rfl) ?_
  obtain ⟨g_20, h⟩ := ck_some h
  refine DGG.step (c := fun γ_17 => ⟨some 12, .c (.ex ((γ_17 7).1 0)), [(11, .sl true 9 ([x1].map c_api_Node)), (9, .c (.ex wx0c2))], [(3, .arrA wx0c2 42 9 (x0.nodes.map c_api_Node))], [(3, .arrA ((γ_17 7).1 0) 42 9 ((x0.nodes ++ [x1]).map c_api_Node))]⟩) [7] (fun γ_17 γ' h => by simp only [h 7 (by decide)]) (fun γ_17 t hm => One.step rfl (.free rfl) (OpT.appendAM (i := 3) (xs := x0.nodes) (ys := [x1]) (f := c_api_Node) rfl (dl rfl rfl) Tryd.underlying22 i42 rfl hm.s1 hm.o0 hm.s0 g_20 (fun w => ⟨(fun _ => w, 0), rfl⟩))) (fun γ_17 => Ct.met_of rfl rfl) ?_
  refine DGG.step (c := fun γ_17 => ⟨some 13, .ptr bx0 0, [(5, .ptr bx0 0)], [], []⟩) [] (fun _ _ _ => rfl) (fun γ_17 t hm => One.step rfl (.free rfl) (OpT.nilCheck rfl (dl rfl rfl) hm.s0 rfl ⟨(fun _ => undef, 0), rfl⟩)) (fun γ_17 => Ct.met_of rfl rfl) ?_
  refine DGG.step (c := fun γ_17 => ⟨some 14, .ptr bx0 (0 + 2), [(13, .ptr bx0 0)], [], []⟩) [] (fun _ _ _ => rfl) (fun γ_17 t hm => One.step rfl (.free rfl) (OpT.fieldPtr rfl (dl rfl rfl) Tryd.underlying88 rfl i22 (by decide) hm.s0 ⟨(fun _ => undef, 0), rfl⟩)) (fun γ_17 => Ct.met_of rfl rfl) ?_
  refine DGG.step (c := fun γ_17 => ⟨none, .any, [(14, .ptr bx0 (0 + 2)), (12, .c (.ex ((γ_17 7).1 0)))], [(2, .box bx0 88 [.d (.str x0.s), .d (.int .i64 x0.at_), .d (.ex wx0c2), .d (.int .i64 x0.deep), .d (.int .i64 x0.e), .d (.int .i64 x0.where_)])], [(2, .box bx0 88 [.d (.str x0.s), .d (.int .i64 x0.at_), .d (.ex ((γ_17 7).1 0)), .d (.int .i64 x0.deep), .d (.int .i64 x0.e), .d (.int .i64 x0.where_)])]⟩) [7] (fun γ_17 γ' h => by simp only [h 7 (by decide)]) (fun γ_17 t hm => One.step rfl (.free rfl) (OpT.storeTo (i := 2) (cells' := [.d (.str x0.s), .d (.int .i64 x0.at_), .d (.ex ((γ_17 7).1 0)), .d (.int .i64 x0.deep), .d (.int .i64 x0.e), .d (.int .i64 x0.where_)]) rfl rfl i22 hm.s0 hm.s1 hm.o0 (Nat.le_of_ble_eq_true rfl) rfl ⟨(fun _ => undef, 0), rfl⟩)) (fun γ_17 => Ct.met_of rfl rfl) ?_
  refine DGG.fin (s1 := fun γ_17 => ⟨[(0, .ptr bx0 0)], [.ro 0 [], .box b_16 42 [.d (.int .u8 x1.Op), .d (.int .u64 x1.S.a0), .d (.int .u64 x1.S.a1), .d (.int .u64 x1.S.a2), .d (.int .u64 x1.S.a3), .d (.sl false 1 (x1.L.map (cI .i64))), .d (.int .i64 x1.Lo), .d (.int .i64 x1.Hi), .d (.str x1.Name)], .box bx0 88 [.d (.str x0.s), .d (.int .i64 x0.at_), .d (.ex ((γ_17 7).1 0)), .d (.int .i64 x0.deep), .d (.int .i64 x0.e), .d (.int .i64 x0.where_)], .arrA ((γ_17 7).1 0) 42 9 ((x0.nodes ++ [x1]).map c_api_Node)]⟩) (ms := [0, 0, 2, 6, 14, 0, 32, 126, 255, 511, 1023]) TrydMixed rfl (by kernel_rfl) (by kernel_rfl) (by kernel_rfl) (fun γ_17 => by kernel_rfl) (fun γ_17 => .cons rfl (.nil _)) (fun _ => rfl) (fun γ_17 u hu => (thenS_normal (T.by_turn hu ?_)))
  refine T.seq ?_
  refine T.regionL ?_
  refine mv rfl rfl rfl rfl rfl ?_
  refine sp rfl (OpT.nilCheck rfl (dl rfl rfl) rfl rfl ?_)
  refine sp rfl (OpT.fieldPtr rfl (dl rfl rfl) Tryd.underlying88 rfl i22 (by decide) rfl ?_)
  refine sp rfl (OpT.thenTurn (OpT.loadBox (i := 2) rfl (dl rfl rfl) Tryd.underlying22 rfl rfl rfl rfl rfl) (Turn.viewP 18 3 rfl) ?_)
  refine sp rfl (OpT.lenSlM (xs := (x0.nodes ++ [x1])) (f := c_api_Node) rfl (dl rfl rfl) Tryd.underlying22 rfl ?_)
  refine sp rfl (OpT.int2 rfl rfl (dl rfl rfl) rfl rfl ?_)
  refine asg rfl rfl rfl rfl rfl ?_
  refine TL'.nil (thenS_normal ?_)
  refine T.ret ?_
  exact Fin.doneK (.cons _ _ _ _ (.tmp 4 _ rfl) .nil) (.cons 2 rfl (.cons 2 rfl (.nil _))) (by cases h; exact ⟨gl [(γ_17 7).1 0], rfl, rfl⟩)

abbrev r4_digit_q (r : Bool) : Exit → St → Prop := retS Tryd.prog Tryd.f81 (fun y t => y = (.bool r) ∧ t = [])

theorem r4_digit_T (K : Nat) {x0 : Int} {r : Bool} (h : r4_digit K x0 = some r) : CallR Tryd.prog 81 [.int .u8 x0] [] (.bool r) := by
  refine CallT.intro Tryd.func81 rfl (Nat.le_of_ble_eq_true rfl) ?_
  show T Tryd.prog 9 (Code.at [] (codeOf Tryd.f81)) ⟨paramSlots 0 [.int .u8 x0], []⟩ (r4_digit_q r)
  unfold r4_digit at h
  refine T.seq ?_
  refine T.regionL ?_
  refine asg rfl rfl rfl rfl rfl ?_
  refine TL'.nil (thenS_normal ?_)
  refine T.seq ?_
  refine T.regionL ?_
  refine mv rfl rfl rfl rfl rfl ?_
  refine sp rfl (OpT.int2 rfl rfl (dl rfl rfl) rfl rfl ?_)
  refine mv rfl rfl rfl rfl rfl ?_
  rcases bif_some h with ⟨c_5, h⟩ | ⟨c_5, h⟩
  · refine TL'.step (.on rfl rfl rfl c_5) (OpT.move rfl (dl rfl rfl) rfl ?_)
    refine TL'.step (.on rfl rfl rfl c_5) (OpT.int2 rfl rfl (dl rfl rfl) rfl rfl ?_)
    refine sp rfl (OpT.pickT rfl (dl rfl rfl) rfl c_5 rfl ?_)
    refine asg rfl rfl rfl rfl rfl ?_
    refine TL'.nil (thenS_normal ?_)
    refine T.ret ?_
    exact Fin.done (.cons _ _ _ _ (.tmp 2 _ rfl) .nil) (by cases h; exact ⟨rfl, rfl⟩)
  · refine TL'.passU (.off _ _ _ _ rfl rfl rfl c_5) (dl rfl rfl) ?_
    refine TL'.passU (.off _ _ _ _ rfl rfl rfl c_5) (dl rfl rfl) ?_
    refine sp rfl (OpT.pickF rfl (dl rfl rfl) rfl c_5 rfl ?_)
    refine asg rfl rfl rfl rfl rfl ?_
    refine TL'.nil (thenS_normal ?_)
    refine T.ret ?_
    exact Fin.done (.cons _ _ _ _ (.tmp 2 _ rfl) .nil) (by cases h; exact ⟨rfl, rfl⟩)

abbrev r4_special_q (r : ByteArray) : Exit → St → Prop := retS Tryd.prog Tryd.f105 (fun y t => y = (.str r) ∧ t = [])

theorem r4_special_T (K : Nat) {r : ByteArray} (h : r4_special K = some r) : CallR Tryd.prog 105 [] [] (.str r) := by
  refine CallT.intro Tryd.func105 rfl (Nat.le_of_ble_eq_true rfl) ?_
  show T Tryd.prog 1 (Code.at [] (codeOf Tryd.f105)) ⟨paramSlots 0 [], []⟩ (r4_special_q r)
  unfold r4_special at h
  refine T.seq ?_
  refine T.regionL ?_
  refine asg rfl rfl rfl rfl rfl ?_
  refine TL'.nil (thenS_normal ?_)
  refine T.seq ?_
  refine T.regionL ?_
  refine asg rfl rfl rfl rfl rfl ?_
  refine TL'.nil (thenS_normal ?_)
  refine T.ret ?_
  exact Fin.done (.cons _ _ _ _ (.tmp 0 _ rfl) .nil) (by cases h; exact ⟨rfl, rfl⟩)

abbrev r4_in_q (r : Bool) : Exit → St → Prop := retS Tryd.prog Tryd.f104 (fun y t => y = (.bool r) ∧ t = [])

abbrev r4_in_qs11 (r : Bool) : Exit → St → Prop := thenS (fun s' => T Tryd.prog 17 (Code.at [1, 1] (codeOf Tryd.f104)) s' ((r4_in_q r))) ((r4_in_q r))

abbrev r4_in_qb0x11 (r : Bool) : Exit → St → Prop := inBlockS 0 ((r4_in_qs11 r))

theorem r4_in_l0_T {r : Bool} (K : Nat) : ∀ (k : Nat), ∀ (x0 : Int) (x1 : ByteArray) (x5_0_2 : Int), r4_in_l0 K k x0 x1 x5_0_2 = some r → TL Tryd.prog 17 (Code.at [1, 0, 1, 0, 0] (codeOf Tryd.f104)) ⟨[(0, .int .u8 x0), (1, .str x1), (5, .int .i64 x5_0_2)], []⟩ (r4_in_qb0x11 r) := by
  intro k
  induction k with
  | zero =>
    intro x0 x1 x5_0_2 h
    cases (show (none : Option Bool) = some r from h)
  | succ k ih =>
    intro x0 x1 x5_0_2 h
    rw [r4_in_l0] at h
    refine TL.round ?_
    refine T.seq ?_
    refine T.seq ?_
    refine T.regionL ?_
    refine mv rfl rfl rfl rfl rfl ?_
    refine mv rfl rfl rfl rfl rfl ?_
    refine sp rfl (OpT.lenStr rfl (dl rfl rfl) Tryd.underlying9 rfl ?_)
    refine sp rfl (OpT.int2 rfl rfl (dl rfl rfl) rfl rfl ?_)
    refine TL'.nil (thenS_normal ?_)
    rcases bif_some h with ⟨c_28, h⟩ | ⟨c_28, h⟩
    · refine T.condT rfl c_28 ?_
      refine T.skip (thenS_normal ?_)
      refine T.seq ?_
      refine T.block ?_
      refine T.seq ?_
      refine T.regionL ?_
      refine mv rfl rfl rfl rfl rfl ?_
      refine mv rfl rfl rfl rfl rfl ?_
      obtain ⟨g_29, h⟩ := ck_some h
      refine sp rfl (OpT.indexStr rfl (dl rfl rfl) Tryd.underlying9 rfl rfl g_29.1 g_29.2 ?_)
      refine mv rfl rfl rfl rfl rfl ?_
      refine sp rfl (OpT.int2 rfl rfl (dl rfl rfl) rfl rfl ?_)
      refine TL'.nil (thenS_normal ?_)
      rcases bif_some h with ⟨c_30, h⟩ | ⟨c_30, h⟩
      · refine T.condT rfl c_30 ?_
        refine T.seq ?_
        refine T.regionL ?_
        refine asg rfl rfl rfl rfl rfl ?_
        refine TL'.nil (thenS_normal ?_)
        refine T.ret (inBlock_ret (thenS_ret (thenS_ret (inBlock_ret (thenS_ret ?_)))))
        exact Fin.done (.cons _ _ _ _ (.tmp 4 _ rfl) .nil) (by cases h; exact ⟨rfl, rfl⟩)
      · refine T.condF rfl c_30 ?_
        refine T.skip (inBlock_normal (thenS_normal ?_))
        refine T.regionL ?_
        refine mv rfl rfl rfl rfl rfl ?_
        refine sp rfl (OpT.int2 rfl rfl (dl rfl rfl) rfl rfl ?_)
        refine asg rfl rfl rfl rfl rfl ?_
        refine TL'.nil (thenS_normal ?_)
        refine TL.by_turn ?_ (ih x0 x1 (IntKind.i64.wrap (x5_0_2 + (1 : Int))) h)
        exact Turn.rp (.cons rfl (.cons rfl (.cons rfl (.nil _)))) (.n _)
    · refine T.condF rfl c_28 ?_
      refine T.exit (thenS_exit (thenS_exit (inBlock_exit (thenS_normal ?_))))
      refine T.seq ?_
      refine T.regionL ?_
      refine asg rfl rfl rfl rfl rfl ?_
      refine TL'.nil (thenS_normal ?_)
      refine T.ret ?_
      exact Fin.done (.cons _ _ _ _ (.tmp 4 _ rfl) .nil) (by cases h; exact ⟨rfl, rfl⟩)

theorem r4_in_T (K : Nat) {x0 : Int} {x1 : ByteArray} {r : Bool} (h : r4_in K x0 x1 = some r) : CallR Tryd.prog 104 [.int .u8 x0, .str x1] [] (.bool r) := by
  refine CallT.intro Tryd.func104 rfl (Nat.le_of_ble_eq_true rfl) ?_
  show T Tryd.prog 17 (Code.at [] (codeOf Tryd.f104)) ⟨paramSlots 0 [.int .u8 x0, .str x1], []⟩ (r4_in_q r)
  unfold r4_in at h
  refine T.seq ?_
  refine T.regionL ?_
  refine asg rfl rfl rfl rfl rfl ?_
  refine TL'.nil (thenS_normal ?_)
  refine T.seq ?_
  refine T.seq ?_
  refine T.regionL ?_
  refine asg rfl rfl rfl rfl rfl ?_
  refine TL'.nil (thenS_normal ?_)
  refine T.block ?_
  refine T.loop ?_
  refine TL.by_turn ?_ (r4_in_l0_T K K x0 x1 (0 : Int) h)
  exact Turn.rp (.cons rfl (.cons rfl (.cons rfl (.nil _)))) (.n _)

abbrev r4r_fail_q (bx0 : Nat) (r : r4r) : Exit → St → Prop := retS Tryd.prog Tryd.f50 (fun y t => ∃ γ : Nat → Value, y = (.tup []) ∧ t = [.box bx0 88 [.d (.str r.s), .d (.int .i64 r.at_), .d (.ex (γ 0)), .d (.int .i64 r.deep), .d (.int .i64 r.e), .d (.int .i64 r.where_)], .arrA (γ 0) 42 9 (r.nodes.map c_api_Node)])

theorem r4r_fail_T (K : Nat) {x0 : r4r} {x1 : Int} {x2 : Int} {bx0 : Nat} {wx0c2 : Value} {r : r4r} (h : r4r_fail K x0 x1 x2 = some r) : CallG Tryd.prog 50 [.ptr bx0 0, .int .i64 x1, .int .i64 x2] [.box bx0 88 [.d (.str x0.s), .d (.int .i64 x0.at_), .d (.ex wx0c2), .d (.int .i64 x0.deep), .d (.int .i64 x0.e), .d (.int .i64 x0.where_)], .arrA wx0c2 42 9 (x0.nodes.map c_api_Node)] (fun γ => (.tup [])) (fun γ => [.box bx0 88 [.d (.str r.s), .d (.int .i64 r.at_), .d (.ex (γ 0)), .d (.int .i64 r.deep), .d (.int .i64 r.e), .d (.int .i64 r.where_)], .arrA (γ 0) 42 9 (r.nodes.map c_api_Node)]) := by
  refine CallT.intro Tryd.func50 rfl (Nat.le_of_ble_eq_true rfl) ?_
  show T Tryd.prog 19 (Code.at [] (codeOf Tryd.f50)) ⟨paramSlots 0 [.ptr bx0 0, .int .i64 x1, .int .i64 x2], [.box bx0 88 [.d (.str x0.s), .d (.int .i64 x0.at_), .d (.ex wx0c2), .d (.int .i64 x0.deep), .d (.int .i64 x0.e), .d (.int .i64 x0.where_)], .arrA wx0c2 42 9 (x0.nodes.map c_api_Node)]⟩ (r4r_fail_q bx0 r)
  unfold r4r_fail at h
  refine T.seq ?_
  refine T.regionL ?_
  refine mv rfl rfl rfl rfl rfl ?_
  refine sp rfl (OpT.nilCheck rfl (dl rfl rfl) rfl rfl ?_)
  refine sp rfl (OpT.fieldPtr rfl (dl rfl rfl) Tryd.underlying88 rfl i35 (by decide) rfl ?_)
  refine sp rfl (OpT.loadBox (i := 0) rfl (dl rfl rfl) Tryd.underlying35 rfl rfl rfl rfl ?_)
  refine sp rfl (OpT.int2 rfl rfl (dl rfl rfl) rfl rfl ?_)
  refine TL'.nil (thenS_normal ?_)
  rcases bif_some h with ⟨c_5, h⟩ | ⟨c_5, h⟩
  · refine T.condT rfl c_5 ?_
    refine T.seq ?_
    refine T.regionL ?_
    refine mv rfl rfl rfl rfl rfl ?_
    refine mv rfl rfl rfl rfl rfl ?_
    refine sp rfl (OpT.nilCheck rfl (dl rfl rfl) rfl rfl ?_)
    refine sp rfl (OpT.fieldPtr rfl (dl rfl rfl) Tryd.underlying88 rfl i35 (by decide) rfl ?_)
    refine sp rfl (OpT.storeTo (i := 0) (cells' := [.d (.str x0.s), .d (.int .i64 x0.at_), .d (.ex wx0c2), .d (.int .i64 x0.deep), .d (.int .i64 x1), .d (.int .i64 x0.where_)]) rfl rfl i35 rfl rfl rfl (Nat.le_of_ble_eq_true rfl) rfl ?_)
    refine TL'.nil (thenS_normal ?_)
    refine T.regionL ?_
    refine mv rfl rfl rfl rfl rfl ?_
    refine mv rfl rfl rfl rfl rfl ?_
    refine sp rfl (OpT.nilCheck rfl (dl rfl rfl) rfl rfl ?_)
    refine sp rfl (OpT.fieldPtr rfl (dl rfl rfl) Tryd.underlying88 rfl i3 (by decide) rfl ?_)
    refine sp rfl (OpT.storeTo (i := 0) (cells' := [.d (.str x0.s), .d (.int .i64 x0.at_), .d (.ex wx0c2), .d (.int .i64 x0.deep), .d (.int .i64 x1), .d (.int .i64 x2)]) rfl rfl i3 rfl rfl rfl (Nat.le_of_ble_eq_true rfl) rfl ?_)
    refine TL'.nil ?_
    exact Fin.doneK (.nil) (.cons 0 rfl (.cons 0 rfl (.nil _))) (by cases h; exact ⟨gl [wx0c2], rfl, rfl⟩)
  · refine T.condF rfl c_5 ?_
    refine T.skip ?_
    exact Fin.doneK (.nil) (.cons 0 rfl (.cons 0 rfl (.nil _))) (by cases h; exact ⟨gl [wx0c2], rfl, rfl⟩)

abbrev r4_hex_q (r : Int) : Exit → St → Prop := retS Tryd.prog Tryd.f116 (fun y t => y = (.int .i64 r) ∧ t = [])

theorem r4_hex_T (K : Nat) {x0 : Int} {r : Int} (h : r4_hex K x0 = some r) : CallR Tryd.prog 116 [.int .u8 x0] [] (.int .i64 r) := by
  refine CallT.intro Tryd.func116 rfl (Nat.le_of_ble_eq_true rfl) ?_
  show T Tryd.prog 18 (Code.at [] (codeOf Tryd.f116)) ⟨paramSlots 0 [.int .u8 x0], []⟩ (r4_hex_q r)
  unfold r4_hex at h
  refine T.seq ?_
  refine T.regionL ?_
  refine asg rfl rfl rfl rfl rfl ?_
  refine TL'.nil (thenS_normal ?_)
  refine T.seq ?_
  refine T.seq ?_
  refine T.regionL ?_
  refine mv rfl rfl rfl rfl rfl ?_
  obtain ⟨v_21, e_22, h⟩ := bind_some h
  refine sp rfl (OpT.callPA rfl (dl rfl rfl) Tryd.func81 rfl rfl (Args.cons rfl Args.nil) (CallR.nil (r4_digit_T K e_22)) ?_)
  refine TL'.nil (thenS_normal ?_)
  rcases bif_some h with ⟨c_23, h⟩ | ⟨c_23, h⟩
  · refine T.condT rfl c_23 ?_
    refine T.seq ?_
    refine T.regionL ?_
    refine mv rfl rfl rfl rfl rfl ?_
    refine sp rfl (OpT.int2 rfl rfl (dl rfl rfl) rfl rfl ?_)
    refine sp rfl (OpT.convInt rfl (dl rfl rfl) Tryd.underlying5 Tryd.underlying3 rfl ?_)
    refine asg rfl rfl rfl rfl rfl ?_
    refine TL'.nil (thenS_normal ?_)
    refine T.ret (thenS_ret ?_)
    exact Fin.done (.cons _ _ _ _ (.tmp 2 _ rfl) .nil) (by cases h; exact ⟨rfl, rfl⟩)
  · refine T.condF rfl c_23 ?_
    refine T.skip (thenS_normal ?_)
    refine T.seq ?_
    refine T.seq ?_
    refine T.regionL ?_
    refine mv rfl rfl rfl rfl rfl ?_
    refine sp rfl (OpT.int2 rfl rfl (dl rfl rfl) rfl rfl ?_)
    refine mv rfl rfl rfl rfl rfl ?_
    rcases bif_some h with ⟨c_24, h⟩ | ⟨c_24, h⟩
    · refine TL'.step (.on rfl rfl rfl c_24) (OpT.move rfl (dl rfl rfl) rfl ?_)
      refine TL'.step (.on rfl rfl rfl c_24) (OpT.int2 rfl rfl (dl rfl rfl) rfl rfl ?_)
      refine sp rfl (OpT.pickT rfl (dl rfl rfl) rfl c_24 rfl ?_)
      refine TL'.nil (thenS_normal ?_)
      rcases bif_some h with ⟨c_25, h⟩ | ⟨c_25, h⟩
      · refine T.condT rfl c_25 ?_
        refine T.seq ?_
        refine T.regionL ?_
        refine mv rfl rfl rfl rfl rfl ?_
        refine sp rfl (OpT.int2 rfl rfl (dl rfl rfl) rfl rfl ?_)
        refine sp rfl (OpT.convInt rfl (dl rfl rfl) Tryd.underlying5 Tryd.underlying3 rfl ?_)
        refine sp rfl (OpT.int2 rfl rfl (dl rfl rfl) rfl rfl ?_)
        refine asg rfl rfl rfl rfl rfl ?_
        refine TL'.nil (thenS_normal ?_)
        refine T.ret (thenS_ret ?_)
        exact Fin.done (.cons _ _ _ _ (.tmp 2 _ rfl) .nil) (by cases h; exact ⟨rfl, rfl⟩)
      · refine T.condF rfl c_25 ?_
        refine T.skip (thenS_normal ?_)
        refine T.seq ?_
        refine T.regionL ?_
        refine asg rfl rfl rfl rfl rfl ?_
        refine TL'.nil (thenS_normal ?_)
        refine T.ret ?_
        exact Fin.done (.cons _ _ _ _ (.tmp 2 _ rfl) .nil) (by cases h; exact ⟨rfl, rfl⟩)
    · refine TL'.passU (.off _ _ _ _ rfl rfl rfl c_24) (dl rfl rfl) ?_
      refine TL'.passU (.off _ _ _ _ rfl rfl rfl c_24) (dl rfl rfl) ?_
      refine sp rfl (OpT.pickF rfl (dl rfl rfl) rfl c_24 rfl ?_)
      refine TL'.nil (thenS_normal ?_)
      refine T.condF rfl rfl ?_
      refine T.skip (thenS_normal ?_)
      refine T.seq ?_
      refine T.regionL ?_
      refine asg rfl rfl rfl rfl rfl ?_
      refine TL'.nil (thenS_normal ?_)
      refine T.ret ?_
      exact Fin.done (.cons _ _ _ _ (.tmp 2 _ rfl) .nil) (by cases h; exact ⟨rfl, rfl⟩)

abbrev r4r_one_q (bx0 : Nat) (r : Int × r4r) : Exit → St → Prop := retS Tryd.prog Tryd.f106 (fun y t => ∃ γ : Nat → Value, y = (.int .u8 r.1) ∧ t = [.box bx0 88 [.d (.str r.2.s), .d (.int .i64 r.2.at_), .d (.ex (γ 0)), .d (.int .i64 r.2.deep), .d (.int .i64 r.2.e), .d (.int .i64 r.2.where_)], .arrA (γ 0) 42 9 (r.2.nodes.map c_api_Node)])

abbrev r4r_one_qs111111111 (bx0 : Nat) (r : Int × r4r) : Exit → St → Prop := thenS (fun s' => T Tryd.prog 138 (Code.at [1, 1, 1, 1, 1, 1, 1, 1, 1] (codeOf Tryd.f106)) s' ((r4r_one_q bx0 r))) ((r4r_one_q bx0 r))

abbrev r4r_one_qb0x111111111 (bx0 : Nat) (r : Int × r4r) : Exit → St → Prop := inBlockS 0 ((r4r_one_qs111111111 bx0 r))

theorem r4r_one_j2_T {r : Int × r4r} (K : Nat) (bx0 : Nat) (x0 : r4r) (y0_2_0 : ByteArray) (y0_2_1 : Int) (y0_2_3 : Int) (y0_2_4 : Int) (y0_2_5 : Int) (y0_2_2 : List api_Node) (w0_2 : Value) (h : r4r_one_j2 K x0 y0_2_0 y0_2_1 y0_2_3 y0_2_4 y0_2_5 y0_2_2 = some r) : T Tryd.prog 138 (Code.at [1, 1, 1, 1, 1, 1, 1, 1, 1] (codeOf Tryd.f106)) ⟨[(0, .ptr bx0 0), (4, .int .i64 x0.at_)], [.box bx0 88 [.d (.str y0_2_0), .d (.int .i64 y0_2_1), .d (.ex w0_2), .d (.int .i64 y0_2_3), .d (.int .i64 y0_2_4), .d (.int .i64 y0_2_5)], .arrA w0_2 42 9 (y0_2_2.map c_api_Node)]⟩ (r4r_one_q bx0 r) := by
  unfold r4r_one_j2 at h
  refine T.seq ?_
  refine T.regionL ?_
  refine mv rfl rfl rfl rfl rfl ?_
  refine mv rfl rfl rfl rfl rfl ?_
  obtain ⟨v_280, e_281, h⟩ := bind_some h
  refine sp rfl (OpT.callG (is := [0, 1]) (ph := []) rfl (dl rfl rfl) Tryd.func50 rfl rfl (Args.cons rfl (Args.cons rfl (Args.cons rfl Args.nil))) (r4r_fail_T K (bx0 := bx0) (wx0c2 := w0_2) e_281) (.cons rfl rfl (.cons rfl rfl (.nil))) (fun _ => rfl) (fun γ_282 => ?_))
  refine nm (.c (.c (.n))) ?_
  refine TL'.nil (thenS_normal ?_)
  refine T.seq ?_
  refine T.regionL ?_
  refine asg rfl rfl rfl rfl rfl ?_
  refine TL'.nil (thenS_normal ?_)
  refine T.ret ?_
  exact Fin.doneK (.cons _ _ _ _ (.tmp 2 _ rfl) .nil) (.cons 0 rfl (.cons 0 rfl (.nil _))) (by cases h; exact ⟨gl [γ_282 0], rfl, rfl⟩)

theorem r4r_one_j0_T {r : Int × r4r} (K : Nat) (bx0 : Nat) (x0 : r4r) (y0_0_0 : ByteArray) (y0_0_1 : Int) (y0_0_3 : Int) (y0_0_4 : Int) (y0_0_5 : Int) (y0_0_2 : List api_Node) (w0_0 : Value) (h : r4r_one_j0 K x0 y0_0_0 y0_0_1 y0_0_3 y0_0_4 y0_0_5 y0_0_2 = some r) : T Tryd.prog 138 (Code.at [1, 1, 1, 1, 1, 1, 1, 1, 0, 0, 1, 1, 1, 1, 1, 1, 1, 0, 1, 1, 1, 1, 1, 1] (codeOf Tryd.f106)) ⟨[(0, .ptr bx0 0), (4, .int .i64 x0.at_)], [.box bx0 88 [.d (.str y0_0_0), .d (.int .i64 y0_0_1), .d (.ex w0_0), .d (.int .i64 y0_0_3), .d (.int .i64 y0_0_4), .d (.int .i64 y0_0_5)], .arrA w0_0 42 9 (y0_0_2.map c_api_Node)]⟩ (r4r_one_qb0x111111111 bx0 r) := by
  unfold r4r_one_j0 at h
  refine T.skip (inBlock_normal (thenS_normal ?_))
  refine T.by_turn ?_ (r4r_one_j2_T K bx0 x0 y0_0_0 y0_0_1 y0_0_3 y0_0_4 y0_0_5 y0_0_2 w0_0 h)
  exact Turn.rp (.cons rfl (.cons rfl (.nil _))) (.c .z (.c .z (.n _)))

theorem r4r_one_j1_T {r : Int × r4r} (K : Nat) (bx0 : Nat) (x5_1_0 : Int) (y9000_1_1 : ByteArray) (y9000_1_2 : Int) (y9000_1_4 : Int) (y9000_1_5 : Int) (y9000_1_6 : Int) (y9000_1_3 : List api_Node) (w9000_1 : Value) (h : r4r_one_j1 K x5_1_0 y9000_1_1 y9000_1_2 y9000_1_4 y9000_1_5 y9000_1_6 y9000_1_3 = some r) : T Tryd.prog 138 (Code.at [1, 1, 1, 1, 1, 1, 1, 1, 0, 0, 1, 1, 1, 1, 1, 1, 1, 1, 1, 0] (codeOf Tryd.f106)) ⟨[(5, .int .u8 x5_1_0)], [.box bx0 88 [.d (.str y9000_1_1), .d (.int .i64 y9000_1_2), .d (.ex w9000_1), .d (.int .i64 y9000_1_4), .d (.int .i64 y9000_1_5), .d (.int .i64 y9000_1_6)], .arrA w9000_1 42 9 (y9000_1_3.map c_api_Node)]⟩ (r4r_one_qb0x111111111 bx0 r) := by
  unfold r4r_one_j1 at h
  refine T.seq ?_
  refine T.regionL ?_
  refine mv rfl rfl rfl rfl rfl ?_
  refine asg rfl rfl rfl rfl rfl ?_
  refine TL'.nil (thenS_normal ?_)
  refine T.ret (inBlock_ret (thenS_ret ?_))
  exact Fin.doneK (.cons _ _ _ _ (.tmp 2 _ rfl) .nil) (.cons 0 rfl (.cons 0 rfl (.nil _))) (by cases h; exact ⟨gl [w9000_1], rfl, rfl⟩)

theorem r4r_one_T (K : Nat) {x0 : r4r} {bx0 : Nat} {wx0c2 : Value} {r : Int × r4r} (h : r4r_one K x0 = some r) : CallG Tryd.prog 106 [.ptr bx0 0] [.box bx0 88 [.d (.str x0.s), .d (.int .i64 x0.at_), .d (.ex wx0c2), .d (.int .i64 x0.deep), .d (.int .i64 x0.e), .d (.int .i64 x0.where_)], .arrA wx0c2 42 9 (x0.nodes.map c_api_Node)] (fun γ => (.int .u8 r.1)) (fun γ => [.box bx0 88 [.d (.str r.2.s), .d (.int .i64 r.2.at_), .d (.ex (γ 0)), .d (.int .i64 r.2.deep), .d (.int .i64 r.2.e), .d (.int .i64 r.2.where_)], .arrA (γ 0) 42 9 (r.2.nodes.map c_api_Node)]) := by
  refine CallT.intro Tryd.func106 rfl (Nat.le_of_ble_eq_true rfl) ?_
  show T Tryd.prog 138 (Code.at [] (codeOf Tryd.f106)) ⟨paramSlots 0 [.ptr bx0 0], [.box bx0 88 [.d (.str x0.s), .d (.int .i64 x0.at_), .d (.ex wx0c2), .d (.int .i64 x0.deep), .d (.int .i64 x0.e), .d (.int .i64 x0.where_)], .arrA wx0c2 42 9 (x0.nodes.map c_api_Node)]⟩ (r4r_one_q bx0 r)
  unfold r4r_one at h
  refine T.seq ?_
  refine T.regionL ?_
  refine asg rfl rfl rfl rfl rfl ?_
  refine TL'.nil (thenS_normal ?_)
  refine T.seq ?_
  refine DG.start ?_
  refine DG.mv rfl rfl rfl rfl rfl rfl ?_
  refine DG.step (c := ⟨some 9, .ptr bx0 0, [(8, .ptr bx0 0)], [], []⟩) (fun t hm => One.step rfl (.free rfl) (OpT.nilCheck rfl (dl rfl rfl) hm.s0 rfl rfl)) (Ct.met_of rfl rfl) ?_
  refine DG.step (c := ⟨some 10, .ptr bx0 (0 + 0), [(9, .ptr bx0 0)], [], []⟩) (fun t hm => One.step rfl (.free rfl) (OpT.fieldPtr rfl (dl rfl rfl) Tryd.underlying88 rfl i9 (by decide) hm.s0 rfl)) (Ct.met_of rfl rfl) ?_
  refine DG.step (c := ⟨some 11, .str x0.s, [(10, .ptr bx0 (0 + 0))], [(0, .box bx0 88 [.d (.str x0.s), .d (.int .i64 x0.at_), .d (.ex wx0c2), .d (.int .i64 x0.deep), .d (.int .i64 x0.e), .d (.int .i64 x0.where_)])], []⟩) (fun t hm => One.step rfl (.free rfl) (OpT.loadBox (i := 0) rfl (dl rfl rfl) Tryd.underlying9 rfl hm.s0 hm.o0 rfl rfl)) (Ct.met_of rfl rfl) ?_
  refine DG.mv rfl rfl rfl rfl rfl rfl ?_
  refine DG.step (c := ⟨some 13, .ptr bx0 0, [(12, .ptr bx0 0)], [], []⟩) (fun t hm => One.step rfl (.free rfl) (OpT.nilCheck rfl (dl rfl rfl) hm.s0 rfl rfl)) (Ct.met_of rfl rfl) ?_
  refine DG.step (c := ⟨some 14, .ptr bx0 (0 + 1), [(13, .ptr bx0 0)], [], []⟩) (fun t hm => One.step rfl (.free rfl) (OpT.fieldPtr rfl (dl rfl rfl) Tryd.underlying88 rfl i3 (by decide) hm.s0 rfl)) (Ct.met_of rfl rfl) ?_
  refine DG.step (c := ⟨some 15, .int .i64 x0.at_, [(14, .ptr bx0 (0 + 1))], [(0, .box bx0 88 [.d (.str x0.s), .d (.int .i64 x0.at_), .d (.ex wx0c2), .d (.int .i64 x0.deep), .d (.int .i64 x0.e), .d (.int .i64 x0.where_)])], []⟩) (fun t hm => One.step rfl (.free rfl) (OpT.loadBox (i := 0) rfl (dl rfl rfl) Tryd.underlying3 rfl hm.s0 hm.o0 rfl rfl)) (Ct.met_of rfl rfl) ?_
  obtain ⟨g_243, h⟩ := ck_some h
  refine DG.step (c := ⟨some 16, .int .u8 (bt x0.s x0.at_), [(11, .str x0.s), (15, .int .i64 x0.at_)], [], []⟩) (fun t hm => One.step rfl (.free rfl) (OpT.indexStr rfl (dl rfl rfl) Tryd.underlying9 hm.s0 hm.s1 g_243.1 g_243.2 rfl)) (Ct.met_of rfl rfl) ?_
  refine DG.step (c := ⟨some 3, .int .u8 (bt x0.s x0.at_), [(16, .int .u8 (bt x0.s x0.at_))], [], []⟩) (fun t hm => One.step rfl (.free rfl) (OpT.assign rfl (dl rfl rfl) hm.s0 rfl)) (Ct.met_of rfl rfl) ?_
  refine DG.fin (s1 := ⟨[(0, .ptr bx0 0), (3, .int .u8 (bt x0.s x0.at_))], [.box bx0 88 [.d (.str x0.s), .d (.int .i64 x0.at_), .d (.ex wx0c2), .d (.int .i64 x0.deep), .d (.int .i64 x0.e), .d (.int .i64 x0.where_)], .arrA wx0c2 42 9 (x0.nodes.map c_api_Node)]⟩) (ms := [0, 1, 3, 7, 0, 16, 48, 112, 255, 511]) TrydMixed rfl (by kernel_rfl) (by kernel_rfl) (by kernel_rfl) (.cons rfl (.cons rfl (.nil _))) rfl (fun u hu => (thenS_normal (T.by_turn hu ?_)))
  refine T.seq ?_
  refine T.regionL ?_
  refine mv rfl rfl rfl rfl rfl ?_
  refine sp rfl (OpT.nilCheck rfl (dl rfl rfl) rfl rfl ?_)
  refine sp rfl (OpT.fieldPtr rfl (dl rfl rfl) Tryd.underlying88 rfl i3 (by decide) rfl ?_)
  refine sp rfl (OpT.loadBox (i := 0) rfl (dl rfl rfl) Tryd.underlying3 rfl rfl rfl rfl ?_)
  refine asg rfl rfl rfl rfl rfl ?_
  refine TL'.nil (thenS_normal ?_)
  refine T.seq ?_
  refine T.regionL ?_
  refine mv rfl rfl rfl rfl rfl ?_
  refine sp rfl (OpT.nilCheck rfl (dl rfl rfl) rfl rfl ?_)
  refine sp rfl (OpT.fieldPtr rfl (dl rfl rfl) Tryd.underlying88 rfl i3 (by decide) rfl ?_)
  refine sp rfl (OpT.loadBox (i := 0) rfl (dl rfl rfl) Tryd.underlying3 rfl rfl rfl rfl ?_)
  refine sp rfl (OpT.int2 rfl rfl (dl rfl rfl) rfl rfl ?_)
  refine sp rfl (OpT.nilCheck rfl (dl rfl rfl) rfl rfl ?_)
  refine sp rfl (OpT.fieldPtr rfl (dl rfl rfl) Tryd.underlying88 rfl i3 (by decide) rfl ?_)
  refine sp rfl (OpT.storeTo (i := 0) (cells' := [.d (.str x0.s), .d (.int .i64 (IntKind.i64.wrap (x0.at_ + (1 : Int)))), .d (.ex wx0c2), .d (.int .i64 x0.deep), .d (.int .i64 x0.e), .d (.int .i64 x0.where_)]) rfl rfl i3 rfl rfl rfl (Nat.le_of_ble_eq_true rfl) rfl ?_)
  refine TL'.nil (thenS_normal ?_)
  refine T.seq ?_
  refine T.seq ?_
  refine T.regionL ?_
  refine mv rfl rfl rfl rfl rfl ?_
  refine sp rfl (OpT.int2 rfl rfl (dl rfl rfl) rfl rfl ?_)
  refine TL'.nil (thenS_normal ?_)
  rcases bif_some h with ⟨c_244, h⟩ | ⟨c_244, h⟩
  · refine T.condT rfl c_244 ?_
    refine T.seq ?_
    refine T.regionL ?_
    refine mv rfl rfl rfl rfl rfl ?_
    refine asg rfl rfl rfl rfl rfl ?_
    refine TL'.nil (thenS_normal ?_)
    refine T.ret (thenS_ret ?_)
    exact Fin.doneK (.cons _ _ _ _ (.tmp 2 _ rfl) .nil) (.cons 0 rfl (.cons 0 rfl (.nil _))) (by cases h; exact ⟨gl [wx0c2], rfl, rfl⟩)
  · refine T.condF rfl c_244 ?_
    refine T.skip (thenS_normal ?_)
    refine T.seq ?_
    refine T.seq ?_
    refine T.regionL ?_
    refine mv rfl rfl rfl rfl rfl ?_
    obtain ⟨v_245, e_246, h⟩ := bind_some h
    refine sp rfl (OpT.callG (is := [0, 1]) (ph := []) rfl (dl rfl rfl) Tryd.func49 rfl rfl (Args.cons rfl Args.nil) (r4r_ends_T K (bx0 := bx0) (wx0c2 := wx0c2) e_246) (.cons rfl rfl (.cons rfl rfl (.nil))) (fun _ => rfl) (fun γ_247 => ?_))
    refine nm (.c (.c (.n))) ?_
    refine TL'.nil (thenS_normal ?_)
    rcases bif_some h with ⟨c_248, h⟩ | ⟨c_248, h⟩
    · refine T.condT rfl c_248 ?_
      refine T.seq ?_
      refine T.regionL ?_
      refine mv rfl rfl rfl rfl rfl ?_
      refine mv rfl rfl rfl rfl rfl ?_
      refine sp rfl (OpT.nilCheck rfl (dl rfl rfl) rfl rfl ?_)
      refine sp rfl (OpT.fieldPtr rfl (dl rfl rfl) Tryd.underlying88 rfl i9 (by decide) rfl ?_)
      refine sp rfl (OpT.loadBox (i := 0) rfl (dl rfl rfl) Tryd.underlying9 rfl rfl rfl rfl ?_)
      refine sp rfl (OpT.lenStr rfl (dl rfl rfl) Tryd.underlying9 rfl ?_)
      obtain ⟨v_249, e_250, h⟩ := bind_some h
      refine sp rfl (OpT.callG (is := [0, 1]) (ph := []) rfl (dl rfl rfl) Tryd.func50 rfl rfl (Args.cons rfl (Args.cons rfl (Args.cons rfl Args.nil))) (r4r_fail_T K (bx0 := bx0) (wx0c2 := (γ_247 0)) e_250) (.cons rfl rfl (.cons rfl rfl (.nil))) (fun _ => rfl) (fun γ_251 => ?_))
      refine nm (.c (.c (.n))) ?_
      refine TL'.nil (thenS_normal ?_)
      refine T.seq ?_
      refine T.regionL ?_
      refine asg rfl rfl rfl rfl rfl ?_
      refine TL'.nil (thenS_normal ?_)
      refine T.ret (thenS_ret ?_)
      exact Fin.doneK (.cons _ _ _ _ (.tmp 2 _ rfl) .nil) (.cons 0 rfl (.cons 0 rfl (.nil _))) (by cases h; exact ⟨gl [γ_251 0], rfl, rfl⟩)
    · refine T.condF rfl c_248 ?_
      refine T.skip (thenS_normal ?_)
      refine T.seq ?_
      refine DG.start ?_
      refine DG.mv rfl rfl rfl rfl rfl rfl ?_
      refine DG.step (c := ⟨some 41, .ptr bx0 0, [(40, .ptr bx0 0)], [], []⟩) (fun t hm => One.step rfl (.free rfl) (OpT.nilCheck rfl (dl rfl rfl) hm.s0 rfl rfl)) (Ct.met_of rfl rfl) ?_
      refine DG.step (c := ⟨some 42, .ptr bx0 (0 + 0), [(41, .ptr bx0 0)], [], []⟩) (fun t hm => One.step rfl (.free rfl) (OpT.fieldPtr rfl (dl rfl rfl) Tryd.underlying88 rfl i9 (by decide) hm.s0 rfl)) (Ct.met_of rfl rfl) ?_
      refine DG.step (c := ⟨some 43, .str ((r4r.mk x0.s (IntKind.i64.wrap (x0.at_ + (1 : Int))) x0.nodes x0.deep x0.e x0.where_).s), [(42, .ptr bx0 (0 + 0))], [(0, .box bx0 88 [.d (.str ((r4r.mk x0.s (IntKind.i64.wrap (x0.at_ + (1 : Int))) x0.nodes x0.deep x0.e x0.where_).s)), .d (.int .i64 ((r4r.mk x0.s (IntKind.i64.wrap (x0.at_ + (1 : Int))) x0.nodes x0.deep x0.e x0.where_).at_)), .d (.ex (γ_247 0)), .d (.int .i64 ((r4r.mk x0.s (IntKind.i64.wrap (x0.at_ + (1 : Int))) x0.nodes x0.deep x0.e x0.where_).deep)), .d (.int .i64 ((r4r.mk x0.s (IntKind.i64.wrap (x0.at_ + (1 : Int))) x0.nodes x0.deep x0.e x0.where_).e)), .d (.int .i64 ((r4r.mk x0.s (IntKind.i64.wrap (x0.at_ + (1 : Int))) x0.nodes x0.deep x0.e x0.where_).where_))])], []⟩) (fun t hm => One.step rfl (.free rfl) (OpT.loadBox (i := 0) rfl (dl rfl rfl) Tryd.underlying9 rfl hm.s0 hm.o0 rfl rfl)) (Ct.met_of rfl rfl) ?_
      refine DG.mv rfl rfl rfl rfl rfl rfl ?_
      refine DG.step (c := ⟨some 45, .ptr bx0 0, [(44, .ptr bx0 0)], [], []⟩) (fun t hm => One.step rfl (.free rfl) (OpT.nilCheck rfl (dl rfl rfl) hm.s0 rfl rfl)) (Ct.met_of rfl rfl) ?_
      refine DG.step (c := ⟨some 46, .ptr bx0 (0 + 1), [(45, .ptr bx0 0)], [], []⟩) (fun t hm => One.step rfl (.free rfl) (OpT.fieldPtr rfl (dl rfl rfl) Tryd.underlying88 rfl i3 (by decide) hm.s0 rfl)) (Ct.met_of rfl rfl) ?_
      refine DG.step (c := ⟨some 47, .int .i64 ((r4r.mk x0.s (IntKind.i64.wrap (x0.at_ + (1 : Int))) x0.nodes x0.deep x0.e x0.where_).at_), [(46, .ptr bx0 (0 + 1))], [(0, .box bx0 88 [.d (.str ((r4r.mk x0.s (IntKind.i64.wrap (x0.at_ + (1 : Int))) x0.nodes x0.deep x0.e x0.where_).s)), .d (.int .i64 ((r4r.mk x0.s (IntKind.i64.wrap (x0.at_ + (1 : Int))) x0.nodes x0.deep x0.e x0.where_).at_)), .d (.ex (γ_247 0)), .d (.int .i64 ((r4r.mk x0.s (IntKind.i64.wrap (x0.at_ + (1 : Int))) x0.nodes x0.deep x0.e x0.where_).deep)), .d (.int .i64 ((r4r.mk x0.s (IntKind.i64.wrap (x0.at_ + (1 : Int))) x0.nodes x0.deep x0.e x0.where_).e)), .d (.int .i64 ((r4r.mk x0.s (IntKind.i64.wrap (x0.at_ + (1 : Int))) x0.nodes x0.deep x0.e x0.where_).where_))])], []⟩) (fun t hm => One.step rfl (.free rfl) (OpT.loadBox (i := 0) rfl (dl rfl rfl) Tryd.underlying3 rfl hm.s0 hm.o0 rfl rfl)) (Ct.met_of rfl rfl) ?_
      obtain ⟨g_254, h⟩ := ck_some h
      refine DG.step (c := ⟨some 48, .int .u8 (bt ((r4r.mk x0.s (IntKind.i64.wrap (x0.at_ + (1 : Int))) x0.nodes x0.deep x0.e x0.where_).s) ((r4r.mk x0.s (IntKind.i64.wrap (x0.at_ + (1 : Int))) x0.nodes x0.deep x0.e x0.where_).at_)), [(43, .str ((r4r.mk x0.s (IntKind.i64.wrap (x0.at_ + (1 : Int))) x0.nodes x0.deep x0.e x0.where_).s)), (47, .int .i64 ((r4r.mk x0.s (IntKind.i64.wrap (x0.at_ + (1 : Int))) x0.nodes x0.deep x0.e x0.where_).at_))], [], []⟩) (fun t hm => One.step rfl (.free rfl) (OpT.indexStr rfl (dl rfl rfl) Tryd.underlying9 hm.s0 hm.s1 g_254.1 g_254.2 rfl)) (Ct.met_of rfl rfl) ?_
      refine DG.step (c := ⟨some 5, .int .u8 (bt ((r4r.mk x0.s (IntKind.i64.wrap (x0.at_ + (1 : Int))) x0.nodes x0.deep x0.e x0.where_).s) ((r4r.mk x0.s (IntKind.i64.wrap (x0.at_ + (1 : Int))) x0.nodes x0.deep x0.e x0.where_).at_)), [(48, .int .u8 (bt ((r4r.mk x0.s (IntKind.i64.wrap (x0.at_ + (1 : Int))) x0.nodes x0.deep x0.e x0.where_).s) ((r4r.mk x0.s (IntKind.i64.wrap (x0.at_ + (1 : Int))) x0.nodes x0.deep x0.e x0.where_).at_)))], [], []⟩) (fun t hm => One.step rfl (.free rfl) (OpT.assign rfl (dl rfl rfl) hm.s0 rfl)) (Ct.met_of rfl rfl) ?_
      refine DG.fin (s1 := ⟨[(0, .ptr bx0 0), (4, .int .i64 x0.at_), (5, .int .u8 (bt ((r4r.mk x0.s (IntKind.i64.wrap (x0.at_ + (1 : Int))) x0.nodes x0.deep x0.e x0.where_).s) ((r4r.mk x0.s (IntKind.i64.wrap (x0.at_ + (1 : Int))) x0.nodes x0.deep x0.e x0.where_).at_)))], [.box bx0 88 [.d (.str ((r4r.mk x0.s (IntKind.i64.wrap (x0.at_ + (1 : Int))) x0.nodes x0.deep x0.e x0.where_).s)), .d (.int .i64 ((r4r.mk x0.s (IntKind.i64.wrap (x0.at_ + (1 : Int))) x0.nodes x0.deep x0.e x0.where_).at_)), .d (.ex (γ_247 0)), .d (.int .i64 ((r4r.mk x0.s (IntKind.i64.wrap (x0.at_ + (1 : Int))) x0.nodes x0.deep x0.e x0.where_).deep)), .d (.int .i64 ((r4r.mk x0.s (IntKind.i64.wrap (x0.at_ + (1 : Int))) x0.nodes x0.deep x0.e x0.where_).e)), .d (.int .i64 ((r4r.mk x0.s (IntKind.i64.wrap (x0.at_ + (1 : Int))) x0.nodes x0.deep x0.e x0.where_).where_))], .arrA (γ_247 0) 42 9 (((r4r.mk x0.s (IntKind.i64.wrap (x0.at_ + (1 : Int))) x0.nodes x0.deep x0.e x0.where_).nodes).map c_api_Node)]⟩) (ms := [0, 1, 3, 7, 0, 16, 48, 112, 255, 511]) TrydMixed rfl (by kernel_rfl) (by kernel_rfl) (by kernel_rfl) (.cons rfl (.cons rfl (.cons rfl (.nil _)))) rfl (fun u hu => (thenS_normal (T.by_turn hu ?_)))
      refine T.seq ?_
      refine T.regionL ?_
      refine mv rfl rfl rfl rfl rfl ?_
      refine sp rfl (OpT.nilCheck rfl (dl rfl rfl) rfl rfl ?_)
      refine sp rfl (OpT.fieldPtr rfl (dl rfl rfl) Tryd.underlying88 rfl i3 (by decide) rfl ?_)
      refine sp rfl (OpT.loadBox (i := 0) rfl (dl rfl rfl) Tryd.underlying3 rfl rfl rfl rfl ?_)
      refine sp rfl (OpT.int2 rfl rfl (dl rfl rfl) rfl rfl ?_)
      refine sp rfl (OpT.nilCheck rfl (dl rfl rfl) rfl rfl ?_)
      refine sp rfl (OpT.fieldPtr rfl (dl rfl rfl) Tryd.underlying88 rfl i3 (by decide) rfl ?_)
      refine sp rfl (OpT.storeTo (i := 0) (cells' := [.d (.str ((r4r.mk x0.s (IntKind.i64.wrap (x0.at_ + (1 : Int))) x0.nodes x0.deep x0.e x0.where_).s)), .d (.int .i64 (IntKind.i64.wrap ((r4r.mk x0.s (IntKind.i64.wrap (x0.at_ + (1 : Int))) x0.nodes x0.deep x0.e x0.where_).at_ + (1 : Int)))), .d (.ex (γ_247 0)), .d (.int .i64 ((r4r.mk x0.s (IntKind.i64.wrap (x0.at_ + (1 : Int))) x0.nodes x0.deep x0.e x0.where_).deep)), .d (.int .i64 ((r4r.mk x0.s (IntKind.i64.wrap (x0.at_ + (1 : Int))) x0.nodes x0.deep x0.e x0.where_).e)), .d (.int .i64 ((r4r.mk x0.s (IntKind.i64.wrap (x0.at_ + (1 : Int))) x0.nodes x0.deep x0.e x0.where_).where_))]) rfl rfl i3 rfl rfl rfl (Nat.le_of_ble_eq_true rfl) rfl ?_)
      refine TL'.nil (thenS_normal ?_)
      refine T.seq ?_
      refine T.block ?_
      refine T.seq ?_
      refine T.regionL ?_
      refine mv rfl rfl rfl rfl rfl ?_
      refine sp rfl (OpT.int2 rfl rfl (dl rfl rfl) rfl rfl ?_)
      refine asg rfl rfl rfl rfl rfl ?_
      refine TL'.nil (thenS_normal ?_)
      rcases bif_some h with ⟨c_255, h⟩ | ⟨c_255, h⟩
      · refine T.condT rfl c_255 ?_
        refine T.seq ?_
        refine T.regionL ?_
        refine asg rfl rfl rfl rfl rfl ?_
        refine TL'.nil (thenS_normal ?_)
        refine T.ret (inBlock_ret (thenS_ret ?_))
        exact Fin.doneK (.cons _ _ _ _ (.tmp 2 _ rfl) .nil) (.cons 0 rfl (.cons 0 rfl (.nil _))) (by cases h; exact ⟨gl [γ_247 0], rfl, rfl⟩)
      · refine T.condF rfl c_255 ?_
        refine T.seq ?_
        refine T.regionL ?_
        refine mv rfl rfl rfl rfl rfl ?_
        refine sp rfl (OpT.int2 rfl rfl (dl rfl rfl) rfl rfl ?_)
        refine asg rfl rfl rfl rfl rfl ?_
        refine TL'.nil (thenS_normal ?_)
        rcases bif_some h with ⟨c_256, h⟩ | ⟨c_256, h⟩
        · refine T.condT rfl c_256 ?_
          refine T.seq ?_
          refine T.regionL ?_
          refine asg rfl rfl rfl rfl rfl ?_
          refine TL'.nil (thenS_normal ?_)
          refine T.ret (inBlock_ret (thenS_ret ?_))
          exact Fin.doneK (.cons _ _ _ _ (.tmp 2 _ rfl) .nil) (.cons 0 rfl (.cons 0 rfl (.nil _))) (by cases h; exact ⟨gl [γ_247 0], rfl, rfl⟩)
        · refine T.condF rfl c_256 ?_
          refine T.seq ?_
          refine T.regionL ?_
          refine mv rfl rfl rfl rfl rfl ?_
          refine sp rfl (OpT.int2 rfl rfl (dl rfl rfl) rfl rfl ?_)
          refine asg rfl rfl rfl rfl rfl ?_
          refine TL'.nil (thenS_normal ?_)
          rcases bif_some h with ⟨c_257, h⟩ | ⟨c_257, h⟩
          · refine T.condT rfl c_257 ?_
            refine T.seq ?_
            refine T.regionL ?_
            refine asg rfl rfl rfl rfl rfl ?_
            refine TL'.nil (thenS_normal ?_)
            refine T.ret (inBlock_ret (thenS_ret ?_))
            exact Fin.doneK (.cons _ _ _ _ (.tmp 2 _ rfl) .nil) (.cons 0 rfl (.cons 0 rfl (.nil _))) (by cases h; exact ⟨gl [γ_247 0], rfl, rfl⟩)
          · refine T.condF rfl c_257 ?_
            refine T.seq ?_
            refine T.regionL ?_
            refine mv rfl rfl rfl rfl rfl ?_
            refine sp rfl (OpT.int2 rfl rfl (dl rfl rfl) rfl rfl ?_)
            refine asg rfl rfl rfl rfl rfl ?_
            refine TL'.nil (thenS_normal ?_)
            rcases bif_some h with ⟨c_258, h⟩ | ⟨c_258, h⟩
            · refine T.condT rfl c_258 ?_
              refine T.seq ?_
              refine T.seq ?_
              refine DG.start ?_
              refine DG.mv rfl rfl rfl rfl rfl rfl ?_
              refine DG.step (c := ⟨some 69, .ptr bx0 0, [(68, .ptr bx0 0)], [], []⟩) (fun t hm => One.step rfl (.free rfl) (OpT.nilCheck rfl (dl rfl rfl) hm.s0 rfl rfl)) (Ct.met_of rfl rfl) ?_
              refine DG.step (c := ⟨some 70, .ptr bx0 (0 + 1), [(69, .ptr bx0 0)], [], []⟩) (fun t hm => One.step rfl (.free rfl) (OpT.fieldPtr rfl (dl rfl rfl) Tryd.underlying88 rfl i3 (by decide) hm.s0 rfl)) (Ct.met_of rfl rfl) ?_
              refine DG.step (c := ⟨some 71, .int .i64 (IntKind.i64.wrap ((r4r.mk x0.s (IntKind.i64.wrap (x0.at_ + (1 : Int))) x0.nodes x0.deep x0.e x0.where_).at_ + (1 : Int))), [(70, .ptr bx0 (0 + 1))], [(0, .box bx0 88 [.d (.str ((r4r.mk x0.s (IntKind.i64.wrap (x0.at_ + (1 : Int))) x0.nodes x0.deep x0.e x0.where_).s)), .d (.int .i64 (IntKind.i64.wrap ((r4r.mk x0.s (IntKind.i64.wrap (x0.at_ + (1 : Int))) x0.nodes x0.deep x0.e x0.where_).at_ + (1 : Int)))), .d (.ex (γ_247 0)), .d (.int .i64 ((r4r.mk x0.s (IntKind.i64.wrap (x0.at_ + (1 : Int))) x0.nodes x0.deep x0.e x0.where_).deep)), .d (.int .i64 ((r4r.mk x0.s (IntKind.i64.wrap (x0.at_ + (1 : Int))) x0.nodes x0.deep x0.e x0.where_).e)), .d (.int .i64 ((r4r.mk x0.s (IntKind.i64.wrap (x0.at_ + (1 : Int))) x0.nodes x0.deep x0.e x0.where_).where_))])], []⟩) (fun t hm => One.step rfl (.free rfl) (OpT.loadBox (i := 0) rfl (dl rfl rfl) Tryd.underlying3 rfl hm.s0 hm.o0 rfl rfl)) (Ct.met_of rfl rfl) ?_
              refine DG.step (c := ⟨some 72, .int .i64 (IntKind.i64.wrap ((IntKind.i64.wrap ((r4r.mk x0.s (IntKind.i64.wrap (x0.at_ + (1 : Int))) x0.nodes x0.deep x0.e x0.where_).at_ + (1 : Int))) + (1 : Int))), [(71, .int .i64 (IntKind.i64.wrap ((r4r.mk x0.s (IntKind.i64.wrap (x0.at_ + (1 : Int))) x0.nodes x0.deep x0.e x0.where_).at_ + (1 : Int))))], [], []⟩) (fun t hm => One.step rfl (.free rfl) (OpT.int2 rfl rfl (dl rfl rfl) hm.s0 rfl rfl)) (Ct.met_of rfl rfl) ?_
              refine DG.mv rfl rfl rfl rfl rfl rfl ?_
              refine DG.step (c := ⟨some 74, .ptr bx0 0, [(73, .ptr bx0 0)], [], []⟩) (fun t hm => One.step rfl (.free rfl) (OpT.nilCheck rfl (dl rfl rfl) hm.s0 rfl rfl)) (Ct.met_of rfl rfl) ?_
              refine DG.step (c := ⟨some 75, .ptr bx0 (0 + 0), [(74, .ptr bx0 0)], [], []⟩) (fun t hm => One.step rfl (.free rfl) (OpT.fieldPtr rfl (dl rfl rfl) Tryd.underlying88 rfl i9 (by decide) hm.s0 rfl)) (Ct.met_of rfl rfl) ?_
              refine DG.step (c := ⟨some 76, .str ((r4r.mk x0.s (IntKind.i64.wrap (x0.at_ + (1 : Int))) x0.nodes x0.deep x0.e x0.where_).s), [(75, .ptr bx0 (0 + 0))], [(0, .box bx0 88 [.d (.str ((r4r.mk x0.s (IntKind.i64.wrap (x0.at_ + (1 : Int))) x0.nodes x0.deep x0.e x0.where_).s)), .d (.int .i64 (IntKind.i64.wrap ((r4r.mk x0.s (IntKind.i64.wrap (x0.at_ + (1 : Int))) x0.nodes x0.deep x0.e x0.where_).at_ + (1 : Int)))), .d (.ex (γ_247 0)), .d (.int .i64 ((r4r.mk x0.s (IntKind.i64.wrap (x0.at_ + (1 : Int))) x0.nodes x0.deep x0.e x0.where_).deep)), .d (.int .i64 ((r4r.mk x0.s (IntKind.i64.wrap (x0.at_ + (1 : Int))) x0.nodes x0.deep x0.e x0.where_).e)), .d (.int .i64 ((r4r.mk x0.s (IntKind.i64.wrap (x0.at_ + (1 : Int))) x0.nodes x0.deep x0.e x0.where_).where_))])], []⟩) (fun t hm => One.step rfl (.free rfl) (OpT.loadBox (i := 0) rfl (dl rfl rfl) Tryd.underlying9 rfl hm.s0 hm.o0 rfl rfl)) (Ct.met_of rfl rfl) ?_
              refine DG.step (c := ⟨some 77, .int .i64 (((r4r.mk x0.s (IntKind.i64.wrap (x0.at_ + (1 : Int))) x0.nodes x0.deep x0.e x0.where_).s).size : Int), [(76, .str ((r4r.mk x0.s (IntKind.i64.wrap (x0.at_ + (1 : Int))) x0.nodes x0.deep x0.e x0.where_).s))], [], []⟩) (fun t hm => One.step rfl (.free rfl) (OpT.lenStr rfl (dl rfl rfl) Tryd.underlying9 hm.s0 rfl)) (Ct.met_of rfl rfl) ?_
              refine DG.step (c := ⟨some 78, .bool (decide ((IntKind.i64.wrap ((IntKind.i64.wrap ((r4r.mk x0.s (IntKind.i64.wrap (x0.at_ + (1 : Int))) x0.nodes x0.deep x0.e x0.where_).at_ + (1 : Int))) + (1 : Int))) ≥ (((r4r.mk x0.s (IntKind.i64.wrap (x0.at_ + (1 : Int))) x0.nodes x0.deep x0.e x0.where_).s).size : Int))), [(72, .int .i64 (IntKind.i64.wrap ((IntKind.i64.wrap ((r4r.mk x0.s (IntKind.i64.wrap (x0.at_ + (1 : Int))) x0.nodes x0.deep x0.e x0.where_).at_ + (1 : Int))) + (1 : Int)))), (77, .int .i64 (((r4r.mk x0.s (IntKind.i64.wrap (x0.at_ + (1 : Int))) x0.nodes x0.deep x0.e x0.where_).s).size : Int))], [], []⟩) (fun t hm => One.step rfl (.free rfl) (OpT.int2 rfl rfl (dl rfl rfl) hm.s0 hm.s1 rfl)) (Ct.met_of rfl rfl) ?_
              refine DG.fin (s1 := ⟨[(0, .ptr bx0 0), (4, .int .i64 x0.at_), (78, .bool (decide ((IntKind.i64.wrap ((IntKind.i64.wrap ((r4r.mk x0.s (IntKind.i64.wrap (x0.at_ + (1 : Int))) x0.nodes x0.deep x0.e x0.where_).at_ + (1 : Int))) + (1 : Int))) ≥ (((r4r.mk x0.s (IntKind.i64.wrap (x0.at_ + (1 : Int))) x0.nodes x0.deep x0.e x0.where_).s).size : Int))))], [.box bx0 88 [.d (.str ((r4r.mk x0.s (IntKind.i64.wrap (x0.at_ + (1 : Int))) x0.nodes x0.deep x0.e x0.where_).s)), .d (.int .i64 (IntKind.i64.wrap ((r4r.mk x0.s (IntKind.i64.wrap (x0.at_ + (1 : Int))) x0.nodes x0.deep x0.e x0.where_).at_ + (1 : Int)))), .d (.ex (γ_247 0)), .d (.int .i64 ((r4r.mk x0.s (IntKind.i64.wrap (x0.at_ + (1 : Int))) x0.nodes x0.deep x0.e x0.where_).deep)), .d (.int .i64 ((r4r.mk x0.s (IntKind.i64.wrap (x0.at_ + (1 : Int))) x0.nodes x0.deep x0.e x0.where_).e)), .d (.int .i64 ((r4r.mk x0.s (IntKind.i64.wrap (x0.at_ + (1 : Int))) x0.nodes x0.deep x0.e x0.where_).where_))], .arrA (γ_247 0) 42 9 (((r4r.mk x0.s (IntKind.i64.wrap (x0.at_ + (1 : Int))) x0.nodes x0.deep x0.e x0.where_).nodes).map c_api_Node)]⟩) (ms := [0, 1, 3, 7, 15, 0, 32, 96, 224, 480, 1023]) TrydMixed rfl (by kernel_rfl) (by kernel_rfl) (by kernel_rfl) (.cons rfl (.cons rfl (.cons rfl (.nil _)))) rfl (fun u hu => (thenS_normal (T.by_turn hu ?_)))
              rcases bif_some h with ⟨c_260, h⟩ | ⟨c_260, h⟩
              · refine T.condT rfl c_260 ?_
                refine T.seq ?_
                refine T.regionL ?_
                refine mv rfl rfl rfl rfl rfl ?_
                refine mv rfl rfl rfl rfl rfl ?_
                refine sp rfl (OpT.nilCheck rfl (dl rfl rfl) rfl rfl ?_)
                refine sp rfl (OpT.fieldPtr rfl (dl rfl rfl) Tryd.underlying88 rfl i9 (by decide) rfl ?_)
                refine sp rfl (OpT.loadBox (i := 0) rfl (dl rfl rfl) Tryd.underlying9 rfl rfl rfl rfl ?_)
                refine sp rfl (OpT.lenStr rfl (dl rfl rfl) Tryd.underlying9 rfl ?_)
                obtain ⟨v_261, e_262, h⟩ := bind_some h
                refine sp rfl (OpT.callG (is := [0, 1]) (ph := []) rfl (dl rfl rfl) Tryd.func50 rfl rfl (Args.cons rfl (Args.cons rfl (Args.cons rfl Args.nil))) (r4r_fail_T K (bx0 := bx0) (wx0c2 := (γ_247 0)) e_262) (.cons rfl rfl (.cons rfl rfl (.nil))) (fun _ => rfl) (fun γ_263 => ?_))
                refine nm (.c (.c (.n))) ?_
                refine TL'.nil (thenS_normal ?_)
                refine T.seq ?_
                refine T.regionL ?_
                refine asg rfl rfl rfl rfl rfl ?_
                refine TL'.nil (thenS_normal ?_)
                refine T.ret (thenS_ret (inBlock_ret (thenS_ret ?_)))
                exact Fin.doneK (.cons _ _ _ _ (.tmp 2 _ rfl) .nil) (.cons 0 rfl (.cons 0 rfl (.nil _))) (by cases h; exact ⟨gl [γ_263 0], rfl, rfl⟩)
              · refine T.condF rfl c_260 ?_
                refine T.skip (thenS_normal ?_)
                refine T.seq ?_
                refine DG.start ?_
                refine DG.mv rfl rfl rfl rfl rfl rfl ?_
                refine DG.step (c := ⟨some 87, .ptr bx0 0, [(86, .ptr bx0 0)], [], []⟩) (fun t hm => One.step rfl (.free rfl) (OpT.nilCheck rfl (dl rfl rfl) hm.s0 rfl rfl)) (Ct.met_of rfl rfl) ?_
                refine DG.step (c := ⟨some 88, .ptr bx0 (0 + 0), [(87, .ptr bx0 0)], [], []⟩) (fun t hm => One.step rfl (.free rfl) (OpT.fieldPtr rfl (dl rfl rfl) Tryd.underlying88 rfl i9 (by decide) hm.s0 rfl)) (Ct.met_of rfl rfl) ?_
                refine DG.step (c := ⟨some 89, .str ((r4r.mk x0.s (IntKind.i64.wrap (x0.at_ + (1 : Int))) x0.nodes x0.deep x0.e x0.where_).s), [(88, .ptr bx0 (0 + 0))], [(0, .box bx0 88 [.d (.str ((r4r.mk x0.s (IntKind.i64.wrap (x0.at_ + (1 : Int))) x0.nodes x0.deep x0.e x0.where_).s)), .d (.int .i64 (IntKind.i64.wrap ((r4r.mk x0.s (IntKind.i64.wrap (x0.at_ + (1 : Int))) x0.nodes x0.deep x0.e x0.where_).at_ + (1 : Int)))), .d (.ex (γ_247 0)), .d (.int .i64 ((r4r.mk x0.s (IntKind.i64.wrap (x0.at_ + (1 : Int))) x0.nodes x0.deep x0.e x0.where_).deep)), .d (.int .i64 ((r4r.mk x0.s (IntKind.i64.wrap (x0.at_ + (1 : Int))) x0.nodes x0.deep x0.e x0.where_).e)), .d (.int .i64 ((r4r.mk x0.s (IntKind.i64.wrap (x0.at_ + (1 : Int))) x0.nodes x0.deep x0.e x0.where_).where_))])], []⟩) (fun t hm => One.step rfl (.free rfl) (OpT.loadBox (i := 0) rfl (dl rfl rfl) Tryd.underlying9 rfl hm.s0 hm.o0 rfl rfl)) (Ct.met_of rfl rfl) ?_
                refine DG.mv rfl rfl rfl rfl rfl rfl ?_
                refine DG.step (c := ⟨some 91, .ptr bx0 0, [(90, .ptr bx0 0)], [], []⟩) (fun t hm => One.step rfl (.free rfl) (OpT.nilCheck rfl (dl rfl rfl) hm.s0 rfl rfl)) (Ct.met_of rfl rfl) ?_
                refine DG.step (c := ⟨some 92, .ptr bx0 (0 + 1), [(91, .ptr bx0 0)], [], []⟩) (fun t hm => One.step rfl (.free rfl) (OpT.fieldPtr rfl (dl rfl rfl) Tryd.underlying88 rfl i3 (by decide) hm.s0 rfl)) (Ct.met_of rfl rfl) ?_
                refine DG.step (c := ⟨some 93, .int .i64 (IntKind.i64.wrap ((r4r.mk x0.s (IntKind.i64.wrap (x0.at_ + (1 : Int))) x0.nodes x0.deep x0.e x0.where_).at_ + (1 : Int))), [(92, .ptr bx0 (0 + 1))], [(0, .box bx0 88 [.d (.str ((r4r.mk x0.s (IntKind.i64.wrap (x0.at_ + (1 : Int))) x0.nodes x0.deep x0.e x0.where_).s)), .d (.int .i64 (IntKind.i64.wrap ((r4r.mk x0.s (IntKind.i64.wrap (x0.at_ + (1 : Int))) x0.nodes x0.deep x0.e x0.where_).at_ + (1 : Int)))), .d (.ex (γ_247 0)), .d (.int .i64 ((r4r.mk x0.s (IntKind.i64.wrap (x0.at_ + (1 : Int))) x0.nodes x0.deep x0.e x0.where_).deep)), .d (.int .i64 ((r4r.mk x0.s (IntKind.i64.wrap (x0.at_ + (1 : Int))) x0.nodes x0.deep x0.e x0.where_).e)), .d (.int .i64 ((r4r.mk x0.s (IntKind.i64.wrap (x0.at_ + (1 : Int))) x0.nodes x0.deep x0.e x0.where_).where_))])], []⟩) (fun t hm => One.step rfl (.free rfl) (OpT.loadBox (i := 0) rfl (dl rfl rfl) Tryd.underlying3 rfl hm.s0 hm.o0 rfl rfl)) (Ct.met_of rfl rfl) ?_
                obtain ⟨g_268, h⟩ := ck_some h
                refine DG.step (c := ⟨some 94, .int .u8 (bt ((r4r.mk x0.s (IntKind.i64.wrap (x0.at_ + (1 : Int))) x0.nodes x0.deep x0.e x0.where_).s) (IntKind.i64.wrap ((r4r.mk x0.s (IntKind.i64.wrap (x0.at_ + (1 : Int))) x0.nodes x0.deep x0.e x0.where_).at_ + (1 : Int)))), [(89, .str ((r4r.mk x0.s (IntKind.i64.wrap (x0.at_ + (1 : Int))) x0.nodes x0.deep x0.e x0.where_).s)), (93, .int .i64 (IntKind.i64.wrap ((r4r.mk x0.s (IntKind.i64.wrap (x0.at_ + (1 : Int))) x0.nodes x0.deep x0.e x0.where_).at_ + (1 : Int))))], [], []⟩) (fun t hm => One.step rfl (.free rfl) (OpT.indexStr rfl (dl rfl rfl) Tryd.underlying9 hm.s0 hm.s1 g_268.1 g_268.2 rfl)) (Ct.met_of rfl rfl) ?_
                obtain ⟨v_269, e_270, h⟩ := bind_some h
                refine DG.step (c := ⟨some 95, .int .i64 v_269, [(94, .int .u8 (bt ((r4r.mk x0.s (IntKind.i64.wrap (x0.at_ + (1 : Int))) x0.nodes x0.deep x0.e x0.where_).s) (IntKind.i64.wrap ((r4r.mk x0.s (IntKind.i64.wrap (x0.at_ + (1 : Int))) x0.nodes x0.deep x0.e x0.where_).at_ + (1 : Int)))))], [], []⟩) (fun t hm => One.step rfl (.free rfl) (OpT.callPA rfl (dl rfl rfl) Tryd.func116 rfl rfl (Args.cons hm.s0 Args.nil) (CallR.nil (r4_hex_T K e_270)) rfl)) (Ct.met_of rfl rfl) ?_
                refine DG.step (c := ⟨some 6, .int .i64 v_269, [(95, .int .i64 v_269)], [], []⟩) (fun t hm => One.step rfl (.free rfl) (OpT.assign rfl (dl rfl rfl) hm.s0 rfl)) (Ct.met_of rfl rfl) ?_
                refine DG.fin (s1 := ⟨[(0, .ptr bx0 0), (4, .int .i64 x0.at_), (6, .int .i64 v_269)], [.box bx0 88 [.d (.str ((r4r.mk x0.s (IntKind.i64.wrap (x0.at_ + (1 : Int))) x0.nodes x0.deep x0.e x0.where_).s)), .d (.int .i64 (IntKind.i64.wrap ((r4r.mk x0.s (IntKind.i64.wrap (x0.at_ + (1 : Int))) x0.nodes x0.deep x0.e x0.where_).at_ + (1 : Int)))), .d (.ex (γ_247 0)), .d (.int .i64 ((r4r.mk x0.s (IntKind.i64.wrap (x0.at_ + (1 : Int))) x0.nodes x0.deep x0.e x0.where_).deep)), .d (.int .i64 ((r4r.mk x0.s (IntKind.i64.wrap (x0.at_ + (1 : Int))) x0.nodes x0.deep x0.e x0.where_).e)), .d (.int .i64 ((r4r.mk x0.s (IntKind.i64.wrap (x0.at_ + (1 : Int))) x0.nodes x0.deep x0.e x0.where_).where_))], .arrA (γ_247 0) 42 9 (((r4r.mk x0.s (IntKind.i64.wrap (x0.at_ + (1 : Int))) x0.nodes x0.deep x0.e x0.where_).nodes).map c_api_Node)]⟩) (ms := [0, 1, 3, 7, 0, 16, 48, 112, 255, 511, 1023]) TrydMixed rfl (by kernel_rfl) (by kernel_rfl) (by kernel_rfl) (.cons rfl (.cons rfl (.cons rfl (.nil _)))) rfl (fun u hu => (thenS_normal (T.by_turn hu ?_)))
                refine T.seq ?_
                refine DG.start ?_
                refine DG.mv rfl rfl rfl rfl rfl rfl ?_
                refine DG.step (c := ⟨some 97, .ptr bx0 0, [(96, .ptr bx0 0)], [], []⟩) (fun t hm => One.step rfl (.free rfl) (OpT.nilCheck rfl (dl rfl rfl) hm.s0 rfl rfl)) (Ct.met_of rfl rfl) ?_
                refine DG.step (c := ⟨some 98, .ptr bx0 (0 + 0), [(97, .ptr bx0 0)], [], []⟩) (fun t hm => One.step rfl (.free rfl) (OpT.fieldPtr rfl (dl rfl rfl) Tryd.underlying88 rfl i9 (by decide) hm.s0 rfl)) (Ct.met_of rfl rfl) ?_
                refine DG.step (c := ⟨some 99, .str ((r4r.mk x0.s (IntKind.i64.wrap (x0.at_ + (1 : Int))) x0.nodes x0.deep x0.e x0.where_).s), [(98, .ptr bx0 (0 + 0))], [(0, .box bx0 88 [.d (.str ((r4r.mk x0.s (IntKind.i64.wrap (x0.at_ + (1 : Int))) x0.nodes x0.deep x0.e x0.where_).s)), .d (.int .i64 (IntKind.i64.wrap ((r4r.mk x0.s (IntKind.i64.wrap (x0.at_ + (1 : Int))) x0.nodes x0.deep x0.e x0.where_).at_ + (1 : Int)))), .d (.ex (γ_247 0)), .d (.int .i64 ((r4r.mk x0.s (IntKind.i64.wrap (x0.at_ + (1 : Int))) x0.nodes x0.deep x0.e x0.where_).deep)), .d (.int .i64 ((r4r.mk x0.s (IntKind.i64.wrap (x0.at_ + (1 : Int))) x0.nodes x0.deep x0.e x0.where_).e)), .d (.int .i64 ((r4r.mk x0.s (IntKind.i64.wrap (x0.at_ + (1 : Int))) x0.nodes x0.deep x0.e x0.where_).where_))])], []⟩) (fun t hm => One.step rfl (.free rfl) (OpT.loadBox (i := 0) rfl (dl rfl rfl) Tryd.underlying9 rfl hm.s0 hm.o0 rfl rfl)) (Ct.met_of rfl rfl) ?_
                refine DG.mv rfl rfl rfl rfl rfl rfl ?_
                refine DG.step (c := ⟨some 101, .ptr bx0 0, [(100, .ptr bx0 0)], [], []⟩) (fun t hm => One.step rfl (.free rfl) (OpT.nilCheck rfl (dl rfl rfl) hm.s0 rfl rfl)) (Ct.met_of rfl rfl) ?_
                refine DG.step (c := ⟨some 102, .ptr bx0 (0 + 1), [(101, .ptr bx0 0)], [], []⟩) (fun t hm => One.step rfl (.free rfl) (OpT.fieldPtr rfl (dl rfl rfl) Tryd.underlying88 rfl i3 (by decide) hm.s0 rfl)) (Ct.met_of rfl rfl) ?_
                refine DG.step (c := ⟨some 103, .int .i64 (IntKind.i64.wrap ((r4r.mk x0.s (IntKind.i64.wrap (x0.at_ + (1 : Int))) x0.nodes x0.deep x0.e x0.where_).at_ + (1 : Int))), [(102, .ptr bx0 (0 + 1))], [(0, .box bx0 88 [.d (.str ((r4r.mk x0.s (IntKind.i64.wrap (x0.at_ + (1 : Int))) x0.nodes x0.deep x0.e x0.where_).s)), .d (.int .i64 (IntKind.i64.wrap ((r4r.mk x0.s (IntKind.i64.wrap (x0.at_ + (1 : Int))) x0.nodes x0.deep x0.e x0.where_).at_ + (1 : Int)))), .d (.ex (γ_247 0)), .d (.int .i64 ((r4r.mk x0.s (IntKind.i64.wrap (x0.at_ + (1 : Int))) x0.nodes x0.deep x0.e x0.where_).deep)), .d (.int .i64 ((r4r.mk x0.s (IntKind.i64.wrap (x0.at_ + (1 : Int))) x0.nodes x0.deep x0.e x0.where_).e)), .d (.int .i64 ((r4r.mk x0.s (IntKind.i64.wrap (x0.at_ + (1 : Int))) x0.nodes x0.deep x0.e x0.where_).where_))])], []⟩) (fun t hm => One.step rfl (.free rfl) (OpT.loadBox (i := 0) rfl (dl rfl rfl) Tryd.underlying3 rfl hm.s0 hm.o0 rfl rfl)) (Ct.met_of rfl rfl) ?_
                refine DG.step (c := ⟨some 104, .int .i64 (IntKind.i64.wrap ((IntKind.i64.wrap ((r4r.mk x0.s (IntKind.i64.wrap (x0.at_ + (1 : Int))) x0.nodes x0.deep x0.e x0.where_).at_ + (1 : Int))) + (1 : Int))), [(103, .int .i64 (IntKind.i64.wrap ((r4r.mk x0.s (IntKind.i64.wrap (x0.at_ + (1 : Int))) x0.nodes x0.deep x0.e x0.where_).at_ + (1 : Int))))], [], []⟩) (fun t hm => One.step rfl (.free rfl) (OpT.int2 rfl rfl (dl rfl rfl) hm.s0 rfl rfl)) (Ct.met_of rfl rfl) ?_
                obtain ⟨g_275, h⟩ := ck_some h
                refine DG.step (c := ⟨some 105, .int .u8 (bt ((r4r.mk x0.s (IntKind.i64.wrap (x0.at_ + (1 : Int))) x0.nodes x0.deep x0.e x0.where_).s) (IntKind.i64.wrap ((IntKind.i64.wrap ((r4r.mk x0.s (IntKind.i64.wrap (x0.at_ + (1 : Int))) x0.nodes x0.deep x0.e x0.where_).at_ + (1 : Int))) + (1 : Int)))), [(99, .str ((r4r.mk x0.s (IntKind.i64.wrap (x0.at_ + (1 : Int))) x0.nodes x0.deep x0.e x0.where_).s)), (104, .int .i64 (IntKind.i64.wrap ((IntKind.i64.wrap ((r4r.mk x0.s (IntKind.i64.wrap (x0.at_ + (1 : Int))) x0.nodes x0.deep x0.e x0.where_).at_ + (1 : Int))) + (1 : Int))))], [], []⟩) (fun t hm => One.step rfl (.free rfl) (OpT.indexStr rfl (dl rfl rfl) Tryd.underlying9 hm.s0 hm.s1 g_275.1 g_275.2 rfl)) (Ct.met_of rfl rfl) ?_
                obtain ⟨v_276, e_277, h⟩ := bind_some h
                refine DG.step (c := ⟨some 106, .int .i64 v_276, [(105, .int .u8 (bt ((r4r.mk x0.s (IntKind.i64.wrap (x0.at_ + (1 : Int))) x0.nodes x0.deep x0.e x0.where_).s) (IntKind.i64.wrap ((IntKind.i64.wrap ((r4r.mk x0.s (IntKind.i64.wrap (x0.at_ + (1 : Int))) x0.nodes x0.deep x0.e x0.where_).at_ + (1 : Int))) + (1 : Int)))))], [], []⟩) (fun t hm => One.step rfl (.free rfl) (OpT.callPA rfl (dl rfl rfl) Tryd.func116 rfl rfl (Args.cons hm.s0 Args.nil) (CallR.nil (r4_hex_T K e_277)) rfl)) (Ct.met_of rfl rfl) ?_
                refine DG.step (c := ⟨some 7, .int .i64 v_276, [(106, .int .i64 v_276)], [], []⟩) (fun t hm => One.step rfl (.free rfl) (OpT.assign rfl (dl rfl rfl) hm.s0 rfl)) (Ct.met_of rfl rfl) ?_
                refine DG.fin (s1 := ⟨[(0, .ptr bx0 0), (4, .int .i64 x0.at_), (6, .int .i64 v_269), (7, .int .i64 v_276)], [.box bx0 88 [.d (.str ((r4r.mk x0.s (IntKind.i64.wrap (x0.at_ + (1 : Int))) x0.nodes x0.deep x0.e x0.where_).s)), .d (.int .i64 (IntKind.i64.wrap ((r4r.mk x0.s (IntKind.i64.wrap (x0.at_ + (1 : Int))) x0.nodes x0.deep x0.e x0.where_).at_ + (1 : Int)))), .d (.ex (γ_247 0)), .d (.int .i64 ((r4r.mk x0.s (IntKind.i64.wrap (x0.at_ + (1 : Int))) x0.nodes x0.deep x0.e x0.where_).deep)), .d (.int .i64 ((r4r.mk x0.s (IntKind.i64.wrap (x0.at_ + (1 : Int))) x0.nodes x0.deep x0.e x0.where_).e)), .d (.int .i64 ((r4r.mk x0.s (IntKind.i64.wrap (x0.at_ + (1 : Int))) x0.nodes x0.deep x0.e x0.where_).where_))], .arrA (γ_247 0) 42 9 (((r4r.mk x0.s (IntKind.i64.wrap (x0.at_ + (1 : Int))) x0.nodes x0.deep x0.e x0.where_).nodes).map c_api_Node)]⟩) (ms := [0, 1, 3, 7, 0, 16, 48, 112, 240, 511, 1023, 2047]) TrydMixed rfl (by kernel_rfl) (by kernel_rfl) (by kernel_rfl) (.cons rfl (.cons rfl (.cons rfl (.cons rfl (.nil _))))) rfl (fun u hu => (thenS_normal (T.by_turn hu ?_)))
                refine T.seq ?_
                refine T.regionL ?_
                refine mv rfl rfl rfl rfl rfl ?_
                refine mv rfl rfl rfl rfl rfl ?_
                refine sp rfl (OpT.nilCheck rfl (dl rfl rfl) rfl rfl ?_)
                refine sp rfl (OpT.fieldPtr rfl (dl rfl rfl) Tryd.underlying88 rfl i3 (by decide) rfl ?_)
                refine sp rfl (OpT.loadBox (i := 0) rfl (dl rfl rfl) Tryd.underlying3 rfl rfl rfl rfl ?_)
                refine sp rfl (OpT.int2 rfl rfl (dl rfl rfl) rfl rfl ?_)
                refine sp rfl (OpT.nilCheck rfl (dl rfl rfl) rfl rfl ?_)
                refine sp rfl (OpT.fieldPtr rfl (dl rfl rfl) Tryd.underlying88 rfl i3 (by decide) rfl ?_)
                refine sp rfl (OpT.storeTo (i := 0) (cells' := [.d (.str ((r4r.mk x0.s (IntKind.i64.wrap (x0.at_ + (1 : Int))) x0.nodes x0.deep x0.e x0.where_).s)), .d (.int .i64 (IntKind.i64.wrap ((IntKind.i64.wrap ((r4r.mk x0.s (IntKind.i64.wrap (x0.at_ + (1 : Int))) x0.nodes x0.deep x0.e x0.where_).at_ + (1 : Int))) + (2 : Int)))), .d (.ex (γ_247 0)), .d (.int .i64 ((r4r.mk x0.s (IntKind.i64.wrap (x0.at_ + (1 : Int))) x0.nodes x0.deep x0.e x0.where_).deep)), .d (.int .i64 ((r4r.mk x0.s (IntKind.i64.wrap (x0.at_ + (1 : Int))) x0.nodes x0.deep x0.e x0.where_).e)), .d (.int .i64 ((r4r.mk x0.s (IntKind.i64.wrap (x0.at_ + (1 : Int))) x0.nodes x0.deep x0.e x0.where_).where_))]) rfl rfl i3 rfl rfl rfl (Nat.le_of_ble_eq_true rfl) rfl ?_)
                refine TL'.nil (thenS_normal ?_)
                refine T.seq ?_
                refine T.regionL ?_
                refine mv rfl rfl rfl rfl rfl ?_
                refine sp rfl (OpT.int2 rfl rfl (dl rfl rfl) rfl rfl ?_)
                refine mv rfl rfl rfl rfl rfl ?_
                rcases bif_some h with ⟨c_278, h⟩ | ⟨c_278, h⟩
                · refine TL'.step (.on rfl rfl rfl c_278) (OpT.move rfl (dl rfl rfl) rfl ?_)
                  refine TL'.step (.on rfl rfl rfl c_278) (OpT.int2 rfl rfl (dl rfl rfl) rfl rfl ?_)
                  refine sp rfl (OpT.pickT rfl (dl rfl rfl) rfl c_278 rfl ?_)
                  refine TL'.nil (thenS_normal ?_)
                  rcases bif_some h with ⟨c_279, h⟩ | ⟨c_279, h⟩
                  · refine T.condT rfl c_279 ?_
                    refine T.seq ?_
                    refine T.regionL ?_
                    refine mv rfl rfl rfl rfl rfl ?_
                    refine sp rfl (OpT.int2 rfl rfl (dl rfl rfl) rfl rfl ?_)
                    refine mv rfl rfl rfl rfl rfl ?_
                    refine sp rfl (OpT.int2 rfl rfl (dl rfl rfl) rfl rfl ?_)
                    refine sp rfl (OpT.convInt rfl (dl rfl rfl) Tryd.underlying3 Tryd.underlying5 rfl ?_)
                    refine asg rfl rfl rfl rfl rfl ?_
                    refine TL'.nil (thenS_normal ?_)
                    refine T.ret (inBlock_ret (thenS_ret ?_))
                    exact Fin.doneK (.cons _ _ _ _ (.tmp 2 _ rfl) .nil) (.cons 0 rfl (.cons 0 rfl (.nil _))) (by cases h; exact ⟨gl [γ_247 0], rfl, rfl⟩)
                  · refine T.condF rfl c_279 ?_
                    refine T.by_turn ?_ (r4r_one_j0_T K bx0 x0 ((r4r.mk x0.s (IntKind.i64.wrap (x0.at_ + (1 : Int))) x0.nodes x0.deep x0.e x0.where_).s) (IntKind.i64.wrap ((IntKind.i64.wrap ((r4r.mk x0.s (IntKind.i64.wrap (x0.at_ + (1 : Int))) x0.nodes x0.deep x0.e x0.where_).at_ + (1 : Int))) + (2 : Int))) ((r4r.mk x0.s (IntKind.i64.wrap (x0.at_ + (1 : Int))) x0.nodes x0.deep x0.e x0.where_).deep) ((r4r.mk x0.s (IntKind.i64.wrap (x0.at_ + (1 : Int))) x0.nodes x0.deep x0.e x0.where_).e) ((r4r.mk x0.s (IntKind.i64.wrap (x0.at_ + (1 : Int))) x0.nodes x0.deep x0.e x0.where_).where_) ((r4r.mk x0.s (IntKind.i64.wrap (x0.at_ + (1 : Int))) x0.nodes x0.deep x0.e x0.where_).nodes) (γ_247 0) h)
                    exact Turn.rp (.cons rfl (.cons rfl (.nil _))) (.c .z (.c .z (.n _)))
                · refine TL'.passU (.off _ _ _ _ rfl rfl rfl c_278) (dl rfl rfl) ?_
                  refine TL'.passU (.off _ _ _ _ rfl rfl rfl c_278) (dl rfl rfl) ?_
                  refine sp rfl (OpT.pickF rfl (dl rfl rfl) rfl c_278 rfl ?_)
                  refine TL'.nil (thenS_normal ?_)
                  refine T.condF rfl rfl ?_
                  refine T.by_turn ?_ (r4r_one_j0_T K bx0 x0 ((r4r.mk x0.s (IntKind.i64.wrap (x0.at_ + (1 : Int))) x0.nodes x0.deep x0.e x0.where_).s) (IntKind.i64.wrap ((IntKind.i64.wrap ((r4r.mk x0.s (IntKind.i64.wrap (x0.at_ + (1 : Int))) x0.nodes x0.deep x0.e x0.where_).at_ + (1 : Int))) + (2 : Int))) ((r4r.mk x0.s (IntKind.i64.wrap (x0.at_ + (1 : Int))) x0.nodes x0.deep x0.e x0.where_).deep) ((r4r.mk x0.s (IntKind.i64.wrap (x0.at_ + (1 : Int))) x0.nodes x0.deep x0.e x0.where_).e) ((r4r.mk x0.s (IntKind.i64.wrap (x0.at_ + (1 : Int))) x0.nodes x0.deep x0.e x0.where_).where_) ((r4r.mk x0.s (IntKind.i64.wrap (x0.at_ + (1 : Int))) x0.nodes x0.deep x0.e x0.where_).nodes) (γ_247 0) h)
                  exact Turn.rp (.cons rfl (.cons rfl (.nil _))) (.c .z (.c .z (.n _)))
            · refine T.condF rfl c_258 ?_
              refine T.seq ?_
              refine T.regionL ?_
              refine mv rfl rfl rfl rfl rfl ?_
              obtain ⟨v_283, e_284, h⟩ := bind_some h
              refine sp rfl (OpT.callPA rfl (dl rfl rfl) Tryd.func105 rfl rfl Args.nil (CallR.nil (r4_special_T K e_284)) ?_)
              obtain ⟨v_285, e_286, h⟩ := bind_some h
              refine sp rfl (OpT.callPA rfl (dl rfl rfl) Tryd.func104 rfl rfl (Args.cons rfl (Args.cons rfl Args.nil)) (CallR.nil (r4_in_T K e_286)) ?_)
              refine mv rfl rfl rfl rfl rfl ?_
              rcases bif_some h with ⟨c_287, h⟩ | ⟨c_287, h⟩
              · refine TL'.passU (.off _ _ _ _ rfl rfl rfl c_287) (dl rfl rfl) ?_
                refine TL'.passU (.off _ _ _ _ rfl rfl rfl c_287) (dl rfl rfl) ?_
                refine sp rfl (OpT.pickT rfl (dl rfl rfl) rfl c_287 rfl ?_)
                refine asg rfl rfl rfl rfl rfl ?_
                refine TL'.nil (thenS_normal ?_)
                refine T.condT rfl rfl ?_
                refine T.by_turn ?_ (r4r_one_j1_T K bx0 (bt ((r4r.mk x0.s (IntKind.i64.wrap (x0.at_ + (1 : Int))) x0.nodes x0.deep x0.e x0.where_).s) ((r4r.mk x0.s (IntKind.i64.wrap (x0.at_ + (1 : Int))) x0.nodes x0.deep x0.e x0.where_).at_)) ((r4r.mk x0.s (IntKind.i64.wrap (x0.at_ + (1 : Int))) x0.nodes x0.deep x0.e x0.where_).s) (IntKind.i64.wrap ((r4r.mk x0.s (IntKind.i64.wrap (x0.at_ + (1 : Int))) x0.nodes x0.deep x0.e x0.where_).at_ + (1 : Int))) ((r4r.mk x0.s (IntKind.i64.wrap (x0.at_ + (1 : Int))) x0.nodes x0.deep x0.e x0.where_).deep) ((r4r.mk x0.s (IntKind.i64.wrap (x0.at_ + (1 : Int))) x0.nodes x0.deep x0.e x0.where_).e) ((r4r.mk x0.s (IntKind.i64.wrap (x0.at_ + (1 : Int))) x0.nodes x0.deep x0.e x0.where_).where_) ((r4r.mk x0.s (IntKind.i64.wrap (x0.at_ + (1 : Int))) x0.nodes x0.deep x0.e x0.where_).nodes) (γ_247 0) h)
                exact Turn.rp (.cons rfl (.nil _)) (.c .z (.c .z (.n _)))
              · refine TL'.step (.on rfl rfl rfl c_287) (OpT.move rfl (dl rfl rfl) rfl ?_)
                refine TL'.step (.on rfl rfl rfl c_287) (OpT.int2 rfl rfl (dl rfl rfl) rfl rfl ?_)
                refine sp rfl (OpT.pickF rfl (dl rfl rfl) rfl c_287 rfl ?_)
                refine asg rfl rfl rfl rfl rfl ?_
                refine TL'.nil (thenS_normal ?_)
                rcases bif_some h with ⟨c_288, h⟩ | ⟨c_288, h⟩
                · refine T.condT rfl c_288 ?_
                  refine T.by_turn ?_ (r4r_one_j1_T K bx0 (bt ((r4r.mk x0.s (IntKind.i64.wrap (x0.at_ + (1 : Int))) x0.nodes x0.deep x0.e x0.where_).s) ((r4r.mk x0.s (IntKind.i64.wrap (x0.at_ + (1 : Int))) x0.nodes x0.deep x0.e x0.where_).at_)) ((r4r.mk x0.s (IntKind.i64.wrap (x0.at_ + (1 : Int))) x0.nodes x0.deep x0.e x0.where_).s) (IntKind.i64.wrap ((r4r.mk x0.s (IntKind.i64.wrap (x0.at_ + (1 : Int))) x0.nodes x0.deep x0.e x0.where_).at_ + (1 : Int))) ((r4r.mk x0.s (IntKind.i64.wrap (x0.at_ + (1 : Int))) x0.nodes x0.deep x0.e x0.where_).deep) ((r4r.mk x0.s (IntKind.i64.wrap (x0.at_ + (1 : Int))) x0.nodes x0.deep x0.e x0.where_).e) ((r4r.mk x0.s (IntKind.i64.wrap (x0.at_ + (1 : Int))) x0.nodes x0.deep x0.e x0.where_).where_) ((r4r.mk x0.s (IntKind.i64.wrap (x0.at_ + (1 : Int))) x0.nodes x0.deep x0.e x0.where_).nodes) (γ_247 0) h)
                  exact Turn.rp (.cons rfl (.nil _)) (.c .z (.c .z (.n _)))
                · refine T.condF rfl c_288 ?_
                  refine T.skip (inBlock_normal (thenS_normal ?_))
                  refine T.by_turn ?_ (r4r_one_j2_T K bx0 x0 ((r4r.mk x0.s (IntKind.i64.wrap (x0.at_ + (1 : Int))) x0.nodes x0.deep x0.e x0.where_).s) (IntKind.i64.wrap ((r4r.mk x0.s (IntKind.i64.wrap (x0.at_ + (1 : Int))) x0.nodes x0.deep x0.e x0.where_).at_ + (1 : Int))) ((r4r.mk x0.s (IntKind.i64.wrap (x0.at_ + (1 : Int))) x0.nodes x0.deep x0.e x0.where_).deep) ((r4r.mk x0.s (IntKind.i64.wrap (x0.at_ + (1 : Int))) x0.nodes x0.deep x0.e x0.where_).e) ((r4r.mk x0.s (IntKind.i64.wrap (x0.at_ + (1 : Int))) x0.nodes x0.deep x0.e x0.where_).where_) ((r4r.mk x0.s (IntKind.i64.wrap (x0.at_ + (1 : Int))) x0.nodes x0.deep x0.e x0.where_).nodes) (γ_247 0) h)
                  exact Turn.rp (.cons rfl (.cons rfl (.nil _))) (.c .z (.c .z (.n _)))

abbrev r1_Has_q (r : Bool) : Exit → St → Prop := retS Tryd.prog Tryd.f55 (fun y t => y = (.bool r) ∧ t = [])

theorem r1_Has_T (K : Nat) {x0 : Arr4} {x1 : Int} {r : Bool} (h : r1_Has K x0 x1 = some r) : CallR Tryd.prog 55 [.agg (Arr4.dc .u64 x0), .int .u8 x1] [] (.bool r) := by
  refine CallT.intro Tryd.func55 rfl (Nat.le_of_ble_eq_true rfl) ?_
  show T Tryd.prog 14 (Code.at [] (codeOf Tryd.f55)) ⟨paramSlots 0 [.agg (Arr4.dc .u64 x0), .int .u8 x1], []⟩ (r1_Has_q r)
  unfold r1_Has at h
  refine T.seq ?_
  refine T.regionL ?_
  refine sp rfl (OpT.boxAgg rfl (dl rfl rfl) rfl (fun b_10 => ?_))
  refine asg rfl rfl rfl rfl rfl ?_
  refine TL'.nil (thenS_normal ?_)
  refine T.seq ?_
  refine T.regionL ?_
  refine mv rfl rfl rfl rfl rfl ?_
  refine sp rfl (OpT.quo rfl (dl rfl rfl) rfl rfl (by decide) ?_)
  obtain ⟨g_11, h⟩ := ck_some h
  refine sp rfl (OpT.indexPtr rfl (dl rfl rfl) Tryd.underlying25 i23 rfl rfl g_11.1 g_11.2 ?_)
  refine sp rfl (OpT.loadBox (i := 0) rfl (dl rfl rfl) Tryd.underlying23 rfl rfl rfl (Arr4.oc_get (k := .u64) (a := x0) (pre := []) (post := []) g_11.1 g_11.2) ?_)
  refine mv rfl rfl rfl rfl rfl ?_
  refine sp rfl (OpT.rem rfl (dl rfl rfl) rfl rfl (by decide) ?_)
  obtain ⟨g_12, h⟩ := ck_some h
  refine sp rfl (OpT.shr rfl (dl rfl rfl) rfl rfl g_12 ?_)
  refine sp rfl (OpT.rem rfl (dl rfl rfl) rfl rfl (by decide) ?_)
  refine sp rfl (OpT.int2 rfl rfl (dl rfl rfl) rfl rfl ?_)
  refine asg rfl rfl rfl rfl rfl ?_
  refine TL'.nil (thenS_normal ?_)
  refine T.ret ?_
  exact Fin.done (.cons _ _ _ _ (.tmp 4 _ rfl) .nil) (by cases h; exact ⟨rfl, rfl⟩)

abbrev r1_with_q (r : Arr4) : Exit → St → Prop := retS Tryd.prog Tryd.f41 (fun y t => y = (.agg (Arr4.dc .u64 r)) ∧ t = [])

theorem r1_with_T (K : Nat) {x0 : Arr4} {x1 : Int} {r : Arr4} (h : r1_with K x0 x1 = some r) : CallR Tryd.prog 41 [.agg (Arr4.dc .u64 x0), .int .u8 x1] [] (.agg (Arr4.dc .u64 r)) := by
  refine CallT.intro Tryd.func41 rfl (Nat.le_of_ble_eq_true rfl) ?_
  show T Tryd.prog 21 (Code.at [] (codeOf Tryd.f41)) ⟨paramSlots 0 [.agg (Arr4.dc .u64 x0), .int .u8 x1], []⟩ (r1_with_q r)
  unfold r1_with at h
  refine T.seq ?_
  refine T.regionL ?_
  refine sp rfl (OpT.boxAgg rfl (dl rfl rfl) rfl (fun b_29 => ?_))
  refine sp rfl (OpT.alloc' rfl (dl rfl rfl) i25 rfl (fun b_30 => ?_))
  refine TL'.nil (thenS_normal ?_)
  refine T.seq ?_
  refine T.seq ?_
  refine T.regionL ?_
  refine sp rfl (OpT.loadBoxAgg (i := 1) (l := (Arr4.dc .u64 x0)) rfl (dl rfl rfl) Tryd.underlying25 rfl i25 rfl rfl rfl rfl ?_)
  refine mv rfl rfl rfl rfl rfl ?_
  obtain ⟨v_31, e_32, h⟩ := bind_some h
  refine sp rfl (OpT.callPA rfl (dl rfl rfl) Tryd.func55 rfl rfl (Args.cons rfl (Args.cons rfl Args.nil)) (CallR.nil (r1_Has_T K e_32)) ?_)
  refine sp rfl (OpT.not rfl (dl rfl rfl) rfl ?_)
  refine TL'.nil (thenS_normal ?_)
  rcases bif_some h with ⟨c_33, h⟩ | ⟨c_33, h⟩
  · refine T.condT rfl c_33 ?_
    refine T.regionL ?_
    refine mv rfl rfl rfl rfl rfl ?_
    refine sp rfl (OpT.quo rfl (dl rfl rfl) rfl rfl (by decide) ?_)
    refine mv rfl rfl rfl rfl rfl ?_
    refine sp rfl (OpT.quo rfl (dl rfl rfl) rfl rfl (by decide) ?_)
    obtain ⟨g_34, h⟩ := ck_some h
    refine sp rfl (OpT.indexPtr rfl (dl rfl rfl) Tryd.underlying25 i23 rfl rfl g_34.1 g_34.2 ?_)
    refine sp rfl (OpT.loadBox (i := 1) rfl (dl rfl rfl) Tryd.underlying23 rfl rfl rfl (Arr4.oc_get (k := .u64) (a := x0) (pre := []) (post := []) g_34.1 g_34.2) ?_)
    refine mv rfl rfl rfl rfl rfl ?_
    refine sp rfl (OpT.rem rfl (dl rfl rfl) rfl rfl (by decide) ?_)
    obtain ⟨g_35, h⟩ := ck_some h
    refine sp rfl (OpT.shl rfl (dl rfl rfl) rfl rfl g_35 ?_)
    refine sp rfl (OpT.int2 rfl rfl (dl rfl rfl) rfl rfl ?_)
    refine sp rfl (OpT.indexPtr rfl (dl rfl rfl) Tryd.underlying25 i23 rfl rfl g_34.1 g_34.2 ?_)
    refine sp rfl (OpT.storeTo (i := 1) (cells' := (Arr4.oc .u64 (Arr4.set x0 (IntKind.u8.wrap (Int.tdiv x1 (64 : Int))) (IntKind.u64.wrap ((Arr4.get x0 (IntKind.u8.wrap (Int.tdiv x1 (64 : Int)))) + (IntKind.u64.wrap ((1 : Int) * 2 ^ min (Int.toNat (Int.tmod x1 (64 : Int))) IntKind.u64.bits))))))) rfl rfl i23 rfl rfl rfl (Arr4.oc_lt (k := .u64) (a := x0) (pre := []) (post := []) g_34.1 g_34.2) (Arr4.oc_set (k := .u64) (a := x0) (pre := []) (post := []) g_34.1 g_34.2) ?_)
    refine TL'.nil (thenS_normal ?_)
    refine T.seq ?_
    refine T.regionL ?_
    refine sp rfl (OpT.loadBoxAgg (i := 1) (l := (Arr4.dc .u64 (Arr4.set x0 (IntKind.u8.wrap (Int.tdiv x1 (64 : Int))) (IntKind.u64.wrap ((Arr4.get x0 (IntKind.u8.wrap (Int.tdiv x1 (64 : Int)))) + (IntKind.u64.wrap ((1 : Int) * 2 ^ min (Int.toNat (Int.tmod x1 (64 : Int))) IntKind.u64.bits))))))) rfl (dl rfl rfl) Tryd.underlying25 rfl i25 rfl rfl rfl rfl ?_)
    refine sp rfl (OpT.storeAggTo (i := 0) (cells' := (Arr4.oc .u64 (Arr4.set x0 (IntKind.u8.wrap (Int.tdiv x1 (64 : Int))) (IntKind.u64.wrap ((Arr4.get x0 (IntKind.u8.wrap (Int.tdiv x1 (64 : Int)))) + (IntKind.u64.wrap ((1 : Int) * 2 ^ min (Int.toNat (Int.tmod x1 (64 : Int))) IntKind.u64.bits))))))) rfl rfl i25 rfl rfl rfl rfl (Nat.le_of_ble_eq_true rfl) rfl ?_)
    refine TL'.nil (thenS_normal ?_)
    refine T.ret ?_
    exact Fin.done (.cons _ _ _ _ (.cellAgg 4 25 _ 0 0 25 _ (Arr4.dc .u64 (Arr4.set x0 (IntKind.u8.wrap (Int.tdiv x1 (64 : Int))) (IntKind.u64.wrap ((Arr4.get x0 (IntKind.u8.wrap (Int.tdiv x1 (64 : Int)))) + (IntKind.u64.wrap ((1 : Int) * 2 ^ min (Int.toNat (Int.tmod x1 (64 : Int))) IntKind.u64.bits)))))) _ _ 4 _ rfl rfl rfl rfl Tryd.underlying25 rfl i25) .nil) (by cases h; exact ⟨rfl, rfl⟩)
  · refine T.condF rfl c_33 ?_
    refine T.skip (thenS_normal ?_)
    refine T.seq ?_
    refine T.regionL ?_
    refine sp rfl (OpT.loadBoxAgg (i := 1) (l := (Arr4.dc .u64 x0)) rfl (dl rfl rfl) Tryd.underlying25 rfl i25 rfl rfl rfl rfl ?_)
    refine sp rfl (OpT.storeAggTo (i := 0) (cells' := (Arr4.oc .u64 x0)) rfl rfl i25 rfl rfl rfl rfl (Nat.le_of_ble_eq_true rfl) rfl ?_)
    refine TL'.nil (thenS_normal ?_)
    refine T.ret ?_
    exact Fin.done (.cons _ _ _ _ (.cellAgg 4 25 _ 0 0 25 _ (Arr4.dc .u64 x0) _ _ 4 _ rfl rfl rfl rfl Tryd.underlying25 rfl i25) .nil) (by cases h; exact ⟨rfl, rfl⟩)

abbrev r1_Of_q (r : Arr4) : Exit → St → Prop := retS Tryd.prog Tryd.f19 (fun y t => y = (.agg (Arr4.dc .u64 r)) ∧ t = [])

abbrev r1_Of_qs111 (r : Arr4) : Exit → St → Prop := thenS (fun s' => T Tryd.prog 19 (Code.at [1, 1, 1] (codeOf Tryd.f19)) s' ((r1_Of_q r))) ((r1_Of_q r))

abbrev r1_Of_qb0x111 (r : Arr4) : Exit → St → Prop := inBlockS 0 ((r1_Of_qs111 r))

theorem r1_Of_l0_T {r : Arr4} (K : Nat) : ∀ (k : Nat), ∀ (x0 : List Int) (x4_0_3 : Int) (y2_0_1 : Arr4) (y3_0_2 : Arr4) (flx0 : Bool) (b2_0 : Nat) (b3_0 : Nat), r1_Of_l0 K k x0 x4_0_3 y2_0_1 y3_0_2 = some r → TL Tryd.prog 19 (Code.at [1, 1, 0, 1, 0, 0] (codeOf Tryd.f19)) ⟨[(0, .sl flx0 1 (x0.map (cI .u8))), (2, .ptr b2_0 0), (3, .ptr b3_0 0), (4, .int .i64 x4_0_3)], [.box b2_0 25 (Arr4.oc .u64 y2_0_1), .box b3_0 25 (Arr4.oc .u64 y3_0_2)]⟩ (r1_Of_qb0x111 r) := by
  intro k
  induction k with
  | zero =>
    intro x0 x4_0_3 y2_0_1 y3_0_2 flx0 b2_0 b3_0 h
    cases (show (none : Option Arr4) = some r from h)
  | succ k ih =>
    intro x0 x4_0_3 y2_0_1 y3_0_2 flx0 b2_0 b3_0 h
    rw [r1_Of_l0] at h
    refine TL.round ?_
    refine T.seq ?_
    refine T.seq ?_
    refine T.regionL ?_
    refine mv rfl rfl rfl rfl rfl ?_
    refine mv rfl rfl rfl rfl rfl ?_
    refine sp rfl (OpT.lenSlM (xs := x0) (f := (cI .u8)) rfl (dl rfl rfl) Tryd.underlying32 rfl ?_)
    refine sp rfl (OpT.int2 rfl rfl (dl rfl rfl) rfl rfl ?_)
    refine TL'.nil (thenS_normal ?_)
    rcases bif_some h with ⟨c_99, h⟩ | ⟨c_99, h⟩
    · refine T.condT rfl c_99 ?_
      refine T.skip (thenS_normal ?_)
      refine T.seq ?_
      refine T.block ?_
      refine DG.start ?_
      refine DG.step (c := ⟨some 12, .agg (Arr4.dc .u64 y3_0_2), [(3, .ptr b3_0 0)], [(1, .box b3_0 25 (Arr4.oc .u64 y3_0_2))], []⟩) (fun t hm => One.step rfl (.free rfl) (OpT.loadBoxAgg (i := 1) (l := (Arr4.dc .u64 y3_0_2)) rfl (dl rfl rfl) Tryd.underlying25 rfl i25 hm.s0 hm.o0 rfl rfl rfl)) (Ct.met_of rfl rfl) ?_
      refine DG.mv rfl rfl rfl rfl rfl rfl ?_
      refine DG.mv rfl rfl rfl rfl rfl rfl ?_
      obtain ⟨v_105, e_106, h⟩ := bind_some h
      refine DG.step (c := ⟨some 15, .ref [.int .u8 v_105], [(13, .sl flx0 1 (x0.map (cI .u8))), (14, .int .i64 x4_0_3)], [], []⟩) (fun t hm => One.step rfl (.free rfl) (OpT.indexSlM (xs := x0) (f := (cI .u8)) (v := v_105) rfl (dl rfl rfl) Tryd.underlying32 i5 hm.s0 hm.s1 e_106 rfl)) (Ct.met_of rfl rfl) ?_
      refine DG.step (c := ⟨some 16, .int .u8 v_105, [(15, .ref [.int .u8 v_105])], [], []⟩) (fun t hm => One.step rfl (.free rfl) (OpT.loadRef rfl (dl rfl rfl) Tryd.underlying5 rfl hm.s0 rfl rfl)) (Ct.met_of rfl rfl) ?_
      obtain ⟨v_107, e_108, h⟩ := bind_some h
      refine DG.step (c := ⟨some 17, .agg (Arr4.dc .u64 v_107), [(12, .agg (Arr4.dc .u64 y3_0_2)), (16, .int .u8 v_105)], [], []⟩) (fun t hm => One.step rfl (.free rfl) (OpT.callPA rfl (dl rfl rfl) Tryd.func41 rfl rfl (Args.cons hm.s0 (Args.cons hm.s1 Args.nil)) (CallR.nil (r1_with_T K e_108)) rfl)) (Ct.met_of rfl rfl) ?_
      refine DG.step (c := ⟨none, .any, [(3, .ptr b3_0 0), (17, .agg (Arr4.dc .u64 v_107))], [(1, .box b3_0 25 (Arr4.oc .u64 y3_0_2))], [(1, .box b3_0 25 (Arr4.oc .u64 v_107))]⟩) (fun t hm => One.step rfl (.free rfl) (OpT.storeAggTo (i := 1) (cells' := (Arr4.oc .u64 v_107)) rfl rfl i25 hm.s0 hm.s1 rfl hm.o0 (Nat.le_of_ble_eq_true rfl) rfl rfl)) (Ct.met_of rfl rfl) ?_
      refine DG.fin (s1 := ⟨[(0, .sl flx0 1 (x0.map (cI .u8))), (2, .ptr b2_0 0), (3, .ptr b3_0 0), (4, .int .i64 x4_0_3)], [.box b2_0 25 (Arr4.oc .u64 y2_0_1), .box b3_0 25 (Arr4.oc .u64 v_107)]⟩) (ms := [0, 0, 0, 6, 14, 31, 63]) TrydMixed rfl (by kernel_rfl) (by kernel_rfl) (by kernel_rfl) (.cons rfl (.cons rfl (.cons rfl (.cons rfl (.nil _))))) rfl (fun u hu => (inBlock_normal (thenS_normal (T.by_turn hu ?_))))
      refine T.regionL ?_
      refine mv rfl rfl rfl rfl rfl ?_
      refine sp rfl (OpT.int2 rfl rfl (dl rfl rfl) rfl rfl ?_)
      refine asg rfl rfl rfl rfl rfl ?_
      refine TL'.nil (thenS_normal ?_)
      refine TL.by_turn ?_ (ih x0 (IntKind.i64.wrap (x4_0_3 + (1 : Int))) y2_0_1 v_107 flx0 b2_0 b3_0 h)
      exact Turn.rp (.cons rfl (.cons rfl (.cons rfl (.cons rfl (.nil _))))) (.c .z (.c .z (.n _)))
    · refine T.condF rfl c_99 ?_
      refine T.exit (thenS_exit (thenS_exit (inBlock_exit (thenS_normal ?_))))
      refine T.seq ?_
      refine T.regionL ?_
      refine sp rfl (OpT.loadBoxAgg (i := 1) (l := (Arr4.dc .u64 y3_0_2)) rfl (dl rfl rfl) Tryd.underlying25 rfl i25 rfl rfl rfl rfl ?_)
      refine sp rfl (OpT.storeAggTo (i := 0) (cells' := (Arr4.oc .u64 y3_0_2)) rfl rfl i25 rfl rfl rfl rfl (Nat.le_of_ble_eq_true rfl) rfl ?_)
      refine TL'.nil (thenS_normal ?_)
      refine T.ret ?_
      exact Fin.done (.cons _ _ _ _ (.cellAgg 2 25 _ 0 0 25 _ (Arr4.dc .u64 y3_0_2) _ _ 4 _ rfl rfl rfl rfl Tryd.underlying25 rfl i25) .nil) (by cases h; exact ⟨rfl, rfl⟩)

theorem r1_Of_T (K : Nat) {x0 : List Int} {flx0 : Bool} {r : Arr4} (h : r1_Of K x0 = some r) : CallR Tryd.prog 19 [.sl flx0 1 (x0.map (cI .u8))] [] (.agg (Arr4.dc .u64 r)) := by
  refine CallT.intro Tryd.func19 rfl (Nat.le_of_ble_eq_true rfl) ?_
  show T Tryd.prog 19 (Code.at [] (codeOf Tryd.f19)) ⟨paramSlots 0 [.sl flx0 1 (x0.map (cI .u8))], []⟩ (r1_Of_q r)
  unfold r1_Of at h
  refine T.seq ?_
  refine T.regionL ?_
  refine sp rfl (OpT.alloc' rfl (dl rfl rfl) i25 rfl (fun b_97 => ?_))
  refine TL'.nil (thenS_normal ?_)
  refine T.seq ?_
  refine T.regionL ?_
  refine sp rfl (OpT.build (l := (Arr4.dc .u64 (Arr4.mk 0 0 0 0))) rfl (dl rfl rfl) (built_arr Tryd.underlying25 i25 i23) (all1 rfl) rfl rfl ?_)
  refine sp rfl (OpT.alloc' rfl (dl rfl rfl) i25 rfl (fun b_98 => ?_))
  refine sp rfl (OpT.storeAggTo (i := 0) (cells' := (Arr4.oc .u64 (Arr4.mk 0 0 0 0))) rfl rfl i25 rfl rfl rfl rfl (Nat.le_of_ble_eq_true rfl) rfl ?_)
  refine TL'.nil (thenS_normal ?_)
  refine T.seq ?_
  refine T.seq ?_
  refine T.regionL ?_
  refine asg rfl rfl rfl rfl rfl ?_
  refine TL'.nil (thenS_normal ?_)
  refine T.block ?_
  refine T.loop ?_
  refine TL.by_turn ?_ (r1_Of_l0_T K K x0 (0 : Int) (Arr4.mk 0 0 0 0) (Arr4.mk 0 0 0 0) flx0 b_97 b_98 h)
  exact Turn.rp (.cons rfl (.cons rfl (.cons rfl (.cons rfl (.nil _))))) (.c (.s .z) (.c .z (.n _)))

abbrev r4_letter_q (r : Bool) : Exit → St → Prop := retS Tryd.prog Tryd.f80 (fun y t => y = (.bool r) ∧ t = [])

theorem r4_letter_T (K : Nat) {x0 : Int} {r : Bool} (h : r4_letter K x0 = some r) : CallR Tryd.prog 80 [.int .u8 x0] [] (.bool r) := by
  refine CallT.intro Tryd.func80 rfl (Nat.le_of_ble_eq_true rfl) ?_
  show T Tryd.prog 21 (Code.at [] (codeOf Tryd.f80)) ⟨paramSlots 0 [.int .u8 x0], []⟩ (r4_letter_q r)
  unfold r4_letter at h
  refine T.seq ?_
  refine T.regionL ?_
  refine asg rfl rfl rfl rfl rfl ?_
  refine TL'.nil (thenS_normal ?_)
  refine T.seq ?_
  refine T.regionL ?_
  refine mv rfl rfl rfl rfl rfl ?_
  refine sp rfl (OpT.int2 rfl rfl (dl rfl rfl) rfl rfl ?_)
  refine mv rfl rfl rfl rfl rfl ?_
  rcases bif_some h with ⟨c_25, h⟩ | ⟨c_25, h⟩
  · refine TL'.step (.on rfl rfl rfl c_25) (OpT.move rfl (dl rfl rfl) rfl ?_)
    refine TL'.step (.on rfl rfl rfl c_25) (OpT.int2 rfl rfl (dl rfl rfl) rfl rfl ?_)
    refine sp rfl (OpT.pickT rfl (dl rfl rfl) rfl c_25 rfl ?_)
    refine mv rfl rfl rfl rfl rfl ?_
    rcases bif_some h with ⟨c_26, h⟩ | ⟨c_26, h⟩
    · refine TL'.passU (.off _ _ _ _ rfl rfl rfl c_26) (dl rfl rfl) ?_
      refine TL'.passU (.off _ _ _ _ rfl rfl rfl c_26) (dl rfl rfl) ?_
      refine TL'.passU (.off _ _ _ _ rfl rfl rfl c_26) (dl rfl rfl) ?_
      refine TL'.passU (.gone _ _ _ rfl rfl rfl) (dl rfl rfl) ?_
      refine TL'.passU (.gone _ _ _ rfl rfl rfl) (dl rfl rfl) ?_
      refine TL'.passU (.off _ _ _ _ rfl rfl rfl c_26) (dl rfl rfl) ?_
      refine sp rfl (OpT.pickT rfl (dl rfl rfl) rfl c_26 rfl ?_)
      refine mv rfl rfl rfl rfl rfl ?_
      refine TL'.passU (.off _ _ _ _ rfl rfl rfl rfl) (dl rfl rfl) ?_
      refine TL'.passU (.off _ _ _ _ rfl rfl rfl rfl) (dl rfl rfl) ?_
      refine sp rfl (OpT.pickT rfl (dl rfl rfl) rfl rfl rfl ?_)
      refine asg rfl rfl rfl rfl rfl ?_
      refine TL'.nil (thenS_normal ?_)
      refine T.ret ?_
      exact Fin.done (.cons _ _ _ _ (.tmp 2 _ rfl) .nil) (by cases h; exact ⟨rfl, rfl⟩)
    · refine TL'.step (.on rfl rfl rfl c_26) (OpT.move rfl (dl rfl rfl) rfl ?_)
      refine TL'.step (.on rfl rfl rfl c_26) (OpT.int2 rfl rfl (dl rfl rfl) rfl rfl ?_)
      refine TL'.step (.on rfl rfl rfl c_26) (OpT.move rfl (dl rfl rfl) rfl ?_)
      rcases bif_some h with ⟨c_27, h⟩ | ⟨c_27, h⟩
      · refine TL'.step (.on rfl rfl rfl c_27) (OpT.move rfl (dl rfl rfl) rfl ?_)
        refine TL'.step (.on rfl rfl rfl c_27) (OpT.int2 rfl rfl (dl rfl rfl) rfl rfl ?_)
        refine TL'.step (.on rfl rfl rfl c_26) (OpT.pickT rfl (dl rfl rfl) rfl c_27 rfl ?_)
        refine sp rfl (OpT.pickF rfl (dl rfl rfl) rfl c_26 rfl ?_)
        refine mv rfl rfl rfl rfl rfl ?_
        rcases bif_some h with ⟨c_28, h⟩ | ⟨c_28, h⟩
        · refine TL'.passU (.off _ _ _ _ rfl rfl rfl c_28) (dl rfl rfl) ?_
          refine TL'.passU (.off _ _ _ _ rfl rfl rfl c_28) (dl rfl rfl) ?_
          refine sp rfl (OpT.pickT rfl (dl rfl rfl) rfl c_28 rfl ?_)
          refine asg rfl rfl rfl rfl rfl ?_
          refine TL'.nil (thenS_normal ?_)
          refine T.ret ?_
          exact Fin.done (.cons _ _ _ _ (.tmp 2 _ rfl) .nil) (by cases h; exact ⟨rfl, rfl⟩)
        · refine TL'.step (.on rfl rfl rfl c_28) (OpT.move rfl (dl rfl rfl) rfl ?_)
          refine TL'.step (.on rfl rfl rfl c_28) (OpT.int2 rfl rfl (dl rfl rfl) rfl rfl ?_)
          refine sp rfl (OpT.pickF rfl (dl rfl rfl) rfl c_28 rfl ?_)
          refine asg rfl rfl rfl rfl rfl ?_
          refine TL'.nil (thenS_normal ?_)
          refine T.ret ?_
          exact Fin.done (.cons _ _ _ _ (.tmp 2 _ rfl) .nil) (by cases h; exact ⟨rfl, rfl⟩)
      · refine TL'.passU (.off _ _ _ _ rfl rfl rfl c_27) (dl rfl rfl) ?_
        refine TL'.passU (.off _ _ _ _ rfl rfl rfl c_27) (dl rfl rfl) ?_
        refine TL'.step (.on rfl rfl rfl c_26) (OpT.pickF rfl (dl rfl rfl) rfl c_27 rfl ?_)
        refine sp rfl (OpT.pickF rfl (dl rfl rfl) rfl c_26 rfl ?_)
        refine mv rfl rfl rfl rfl rfl ?_
        refine TL'.step (.on rfl rfl rfl rfl) (OpT.move rfl (dl rfl rfl) rfl ?_)
        refine TL'.step (.on rfl rfl rfl rfl) (OpT.int2 rfl rfl (dl rfl rfl) rfl rfl ?_)
        refine sp rfl (OpT.pickF rfl (dl rfl rfl) rfl rfl rfl ?_)
        refine asg rfl rfl rfl rfl rfl ?_
        refine TL'.nil (thenS_normal ?_)
        refine T.ret ?_
        exact Fin.done (.cons _ _ _ _ (.tmp 2 _ rfl) .nil) (by cases h; exact ⟨rfl, rfl⟩)
  · refine TL'.passU (.off _ _ _ _ rfl rfl rfl c_25) (dl rfl rfl) ?_
    refine TL'.passU (.off _ _ _ _ rfl rfl rfl c_25) (dl rfl rfl) ?_
    refine sp rfl (OpT.pickF rfl (dl rfl rfl) rfl c_25 rfl ?_)
    refine mv rfl rfl rfl rfl rfl ?_
    refine TL'.step (.on rfl rfl rfl rfl) (OpT.move rfl (dl rfl rfl) rfl ?_)
    refine TL'.step (.on rfl rfl rfl rfl) (OpT.int2 rfl rfl (dl rfl rfl) rfl rfl ?_)
    refine TL'.step (.on rfl rfl rfl rfl) (OpT.move rfl (dl rfl rfl) rfl ?_)
    rcases bif_some h with ⟨c_29, h⟩ | ⟨c_29, h⟩
    · refine TL'.step (.on rfl rfl rfl c_29) (OpT.move rfl (dl rfl rfl) rfl ?_)
      refine TL'.step (.on rfl rfl rfl c_29) (OpT.int2 rfl rfl (dl rfl rfl) rfl rfl ?_)
      refine TL'.step (.on rfl rfl rfl rfl) (OpT.pickT rfl (dl rfl rfl) rfl c_29 rfl ?_)
      refine sp rfl (OpT.pickF rfl (dl rfl rfl) rfl rfl rfl ?_)
      refine mv rfl rfl rfl rfl rfl ?_
      rcases bif_some h with ⟨c_30, h⟩ | ⟨c_30, h⟩
      · refine TL'.passU (.off _ _ _ _ rfl rfl rfl c_30) (dl rfl rfl) ?_
        refine TL'.passU (.off _ _ _ _ rfl rfl rfl c_30) (dl rfl rfl) ?_
        refine sp rfl (OpT.pickT rfl (dl rfl rfl) rfl c_30 rfl ?_)
        refine asg rfl rfl rfl rfl rfl ?_
        refine TL'.nil (thenS_normal ?_)
        refine T.ret ?_
        exact Fin.done (.cons _ _ _ _ (.tmp 2 _ rfl) .nil) (by cases h; exact ⟨rfl, rfl⟩)
      · refine TL'.step (.on rfl rfl rfl c_30) (OpT.move rfl (dl rfl rfl) rfl ?_)
        refine TL'.step (.on rfl rfl rfl c_30) (OpT.int2 rfl rfl (dl rfl rfl) rfl rfl ?_)
        refine sp rfl (OpT.pickF rfl (dl rfl rfl) rfl c_30 rfl ?_)
        refine asg rfl rfl rfl rfl rfl ?_
        refine TL'.nil (thenS_normal ?_)
        refine T.ret ?_
        exact Fin.done (.cons _ _ _ _ (.tmp 2 _ rfl) .nil) (by cases h; exact ⟨rfl, rfl⟩)
    · refine TL'.passU (.off _ _ _ _ rfl rfl rfl c_29) (dl rfl rfl) ?_
      refine TL'.passU (.off _ _ _ _ rfl rfl rfl c_29) (dl rfl rfl) ?_
      refine TL'.step (.on rfl rfl rfl rfl) (OpT.pickF rfl (dl rfl rfl) rfl c_29 rfl ?_)
      refine sp rfl (OpT.pickF rfl (dl rfl rfl) rfl rfl rfl ?_)
      refine mv rfl rfl rfl rfl rfl ?_
      refine TL'.step (.on rfl rfl rfl rfl) (OpT.move rfl (dl rfl rfl) rfl ?_)
      refine TL'.step (.on rfl rfl rfl rfl) (OpT.int2 rfl rfl (dl rfl rfl) rfl rfl ?_)
      refine sp rfl (OpT.pickF rfl (dl rfl rfl) rfl rfl rfl ?_)
      refine asg rfl rfl rfl rfl rfl ?_
      refine TL'.nil (thenS_normal ?_)
      refine T.ret ?_
      exact Fin.done (.cons _ _ _ _ (.tmp 2 _ rfl) .nil) (by cases h; exact ⟨rfl, rfl⟩)

abbrev r4_Name_q (r : Bool) : Exit → St → Prop := retS Tryd.prog Tryd.f62 (fun y t => y = (.bool r) ∧ t = [])

abbrev r4_Name_qs11 (r : Bool) : Exit → St → Prop := thenS (fun s' => T Tryd.prog 34 (Code.at [1, 1] (codeOf Tryd.f62)) s' ((r4_Name_q r))) ((r4_Name_q r))

abbrev r4_Name_qb0x11 (r : Bool) : Exit → St → Prop := inBlockS 0 ((r4_Name_qs11 r))

abbrev r4_Name_ql1010 (r : Bool) : Exit → St → Prop := thenS (fun s' => TL Tryd.prog 34 (Code.at [1, 0, 1, 0, 0] (codeOf Tryd.f62)) s' ((r4_Name_qb0x11 r))) ((r4_Name_qb0x11 r))

abbrev r4_Name_qs1010011 (r : Bool) : Exit → St → Prop := thenS (fun s' => T Tryd.prog 34 (Code.at [1, 0, 1, 0, 0, 1, 1] (codeOf Tryd.f62)) s' ((r4_Name_ql1010 r))) ((r4_Name_ql1010 r))

abbrev r4_Name_qb1_0x1010011 (r : Bool) : Exit → St → Prop := inBlockS 1 ((r4_Name_qs1010011 r))

theorem r4_Name_j1_T {r : Bool} (K : Nat) (h : r4_Name_j1 K = some r) : T Tryd.prog 34 (Code.at [1, 0, 1, 0, 0, 1, 0, 0, 1, 0] (codeOf Tryd.f62)) ⟨[], []⟩ (r4_Name_qb1_0x1010011 r) := by
  unfold r4_Name_j1 at h
  refine T.seq ?_
  refine T.regionL ?_
  refine asg rfl rfl rfl rfl rfl ?_
  refine TL'.nil (thenS_normal ?_)
  refine T.ret (inBlock_ret (thenS_ret (thenS_ret (inBlock_ret (thenS_ret ?_)))))
  exact Fin.done (.cons _ _ _ _ (.tmp 2 _ rfl) .nil) (by cases h; exact ⟨rfl, rfl⟩)

theorem r4_Name_l0_T {r : Bool} (K : Nat) : ∀ (k : Nat), ∀ (x0 : ByteArray) (x3_0_1 : Int), r4_Name_l0 K k x0 x3_0_1 = some r → TL Tryd.prog 34 (Code.at [1, 0, 1, 0, 0] (codeOf Tryd.f62)) ⟨[(0, .str x0), (3, .int .i64 x3_0_1)], []⟩ (r4_Name_qb0x11 r) := by
  intro k
  induction k with
  | zero =>
    intro x0 x3_0_1 h
    cases (show (none : Option Bool) = some r from h)
  | succ k ih =>
    intro x0 x3_0_1 h
    rw [r4_Name_l0] at h
    refine TL.round ?_
    refine T.seq ?_
    refine T.seq ?_
    refine T.regionL ?_
    refine mv rfl rfl rfl rfl rfl ?_
    refine mv rfl rfl rfl rfl rfl ?_
    refine sp rfl (OpT.lenStr rfl (dl rfl rfl) Tryd.underlying9 rfl ?_)
    refine sp rfl (OpT.int2 rfl rfl (dl rfl rfl) rfl rfl ?_)
    refine TL'.nil (thenS_normal ?_)
    rcases bif_some h with ⟨c_75, h⟩ | ⟨c_75, h⟩
    · refine T.condT rfl c_75 ?_
      refine T.skip (thenS_normal ?_)
      refine T.seq ?_
      refine T.block ?_
      refine T.seq ?_
      refine T.regionL ?_
      refine mv rfl rfl rfl rfl rfl ?_
      refine mv rfl rfl rfl rfl rfl ?_
      obtain ⟨g_76, h⟩ := ck_some h
      refine sp rfl (OpT.indexStr rfl (dl rfl rfl) Tryd.underlying9 rfl rfl g_76.1 g_76.2 ?_)
      obtain ⟨v_77, e_78, h⟩ := bind_some h
      refine sp rfl (OpT.callPA rfl (dl rfl rfl) Tryd.func80 rfl rfl (Args.cons rfl Args.nil) (CallR.nil (r4_letter_T K e_78)) ?_)
      refine sp rfl (OpT.not rfl (dl rfl rfl) rfl ?_)
      refine mv rfl rfl rfl rfl rfl ?_
      rcases bif_some h with ⟨c_79, h⟩ | ⟨c_79, h⟩
      · refine TL'.step (.on rfl rfl rfl c_79) (OpT.move rfl (dl rfl rfl) rfl ?_)
        refine TL'.step (.on rfl rfl rfl c_79) (OpT.int2 rfl rfl (dl rfl rfl) rfl rfl ?_)
        refine TL'.step (.on rfl rfl rfl c_79) (OpT.move rfl (dl rfl rfl) rfl ?_)
        rcases bif_some h with ⟨c_80, h⟩ | ⟨c_80, h⟩
        · refine TL'.passU (.off _ _ _ _ rfl rfl rfl c_80) (dl rfl rfl) ?_
          refine TL'.passU (.off _ _ _ _ rfl rfl rfl c_80) (dl rfl rfl) ?_
          refine TL'.passU (.off _ _ _ _ rfl rfl rfl c_80) (dl rfl rfl) ?_
          refine TL'.passU (.off _ _ _ _ rfl rfl rfl c_80) (dl rfl rfl) ?_
          refine TL'.passU (.off _ _ _ _ rfl rfl rfl c_80) (dl rfl rfl) ?_
          refine TL'.step (.on rfl rfl rfl c_79) (OpT.pickT rfl (dl rfl rfl) rfl c_80 rfl ?_)
          refine sp rfl (OpT.pickT rfl (dl rfl rfl) rfl c_79 rfl ?_)
          refine TL'.nil (thenS_normal ?_)
          refine T.condT rfl rfl ?_
          refine T.by_turn ?_ (r4_Name_j1_T K h)
          exact Turn.rp (.nil _) (.n _)
        · refine TL'.step (.on rfl rfl rfl c_80) (OpT.move rfl (dl rfl rfl) rfl ?_)
          refine TL'.step (.on rfl rfl rfl c_80) (OpT.move rfl (dl rfl rfl) rfl ?_)
          refine TL'.step (.on rfl rfl rfl c_80) (OpT.indexStr rfl (dl rfl rfl) Tryd.underlying9 rfl rfl g_76.1 g_76.2 ?_)
          obtain ⟨v_81, e_82, h⟩ := bind_some h
          refine TL'.step (.on rfl rfl rfl c_80) (OpT.callPA rfl (dl rfl rfl) Tryd.func81 rfl rfl (Args.cons rfl Args.nil) (CallR.nil (r4_digit_T K e_82)) ?_)
          refine TL'.step (.on rfl rfl rfl c_80) (OpT.not rfl (dl rfl rfl) rfl ?_)
          refine TL'.step (.on rfl rfl rfl c_79) (OpT.pickF rfl (dl rfl rfl) rfl c_80 rfl ?_)
          refine sp rfl (OpT.pickT rfl (dl rfl rfl) rfl c_79 rfl ?_)
          refine TL'.nil (thenS_normal ?_)
          rcases bif_some h with ⟨c_83, h⟩ | ⟨c_83, h⟩
          · refine T.condT rfl c_83 ?_
            refine T.by_turn ?_ (r4_Name_j1_T K h)
            exact Turn.rp (.nil _) (.n _)
          · refine T.condF rfl c_83 ?_
            refine T.skip (inBlock_normal (thenS_normal ?_))
            refine T.regionL ?_
            refine mv rfl rfl rfl rfl rfl ?_
            refine sp rfl (OpT.int2 rfl rfl (dl rfl rfl) rfl rfl ?_)
            refine asg rfl rfl rfl rfl rfl ?_
            refine TL'.nil (thenS_normal ?_)
            refine TL.by_turn ?_ (ih x0 (IntKind.i64.wrap (x3_0_1 + (1 : Int))) h)
            exact Turn.rp (.cons rfl (.cons rfl (.nil _))) (.n _)
      · refine TL'.passU (.off _ _ _ _ rfl rfl rfl c_79) (dl rfl rfl) ?_
        refine TL'.passU (.off _ _ _ _ rfl rfl rfl c_79) (dl rfl rfl) ?_
        refine TL'.passU (.off _ _ _ _ rfl rfl rfl c_79) (dl rfl rfl) ?_
        refine TL'.passU (.gone _ _ _ rfl rfl rfl) (dl rfl rfl) ?_
        refine TL'.passU (.gone _ _ _ rfl rfl rfl) (dl rfl rfl) ?_
        refine TL'.passU (.gone _ _ _ rfl rfl rfl) (dl rfl rfl) ?_
        refine TL'.passU (.gone _ _ _ rfl rfl rfl) (dl rfl rfl) ?_
        refine TL'.passU (.gone _ _ _ rfl rfl rfl) (dl rfl rfl) ?_
        refine TL'.passU (.off _ _ _ _ rfl rfl rfl c_79) (dl rfl rfl) ?_
        refine sp rfl (OpT.pickF rfl (dl rfl rfl) rfl c_79 rfl ?_)
        refine TL'.nil (thenS_normal ?_)
        refine T.condF rfl rfl ?_
        refine T.skip (inBlock_normal (thenS_normal ?_))
        refine T.regionL ?_
        refine mv rfl rfl rfl rfl rfl ?_
        refine sp rfl (OpT.int2 rfl rfl (dl rfl rfl) rfl rfl ?_)
        refine asg rfl rfl rfl rfl rfl ?_
        refine TL'.nil (thenS_normal ?_)
        refine TL.by_turn ?_ (ih x0 (IntKind.i64.wrap (x3_0_1 + (1 : Int))) h)
        exact Turn.rp (.cons rfl (.cons rfl (.nil _))) (.n _)
    · refine T.condF rfl c_75 ?_
      refine T.exit (thenS_exit (thenS_exit (inBlock_exit (thenS_normal ?_))))
      refine T.seq ?_
      refine T.regionL ?_
      refine mv rfl rfl rfl rfl rfl ?_
      refine sp rfl (OpT.lenStr rfl (dl rfl rfl) Tryd.underlying9 rfl ?_)
      refine sp rfl (OpT.int2 rfl rfl (dl rfl rfl) rfl rfl ?_)
      refine mv rfl rfl rfl rfl rfl ?_
      rcases bif_some h with ⟨c_84, h⟩ | ⟨c_84, h⟩
      · refine TL'.step (.on rfl rfl rfl c_84) (OpT.move rfl (dl rfl rfl) rfl ?_)
        refine TL'.step (.on rfl rfl rfl c_84) (OpT.lenStr rfl (dl rfl rfl) Tryd.underlying9 rfl ?_)
        refine TL'.step (.on rfl rfl rfl c_84) (OpT.int2 rfl rfl (dl rfl rfl) rfl rfl ?_)
        refine sp rfl (OpT.pickT rfl (dl rfl rfl) rfl c_84 rfl ?_)
        refine asg rfl rfl rfl rfl rfl ?_
        refine TL'.nil (thenS_normal ?_)
        refine T.ret ?_
        exact Fin.done (.cons _ _ _ _ (.tmp 2 _ rfl) .nil) (by cases h; exact ⟨rfl, rfl⟩)
      · refine TL'.passU (.off _ _ _ _ rfl rfl rfl c_84) (dl rfl rfl) ?_
        refine TL'.passU (.off _ _ _ _ rfl rfl rfl c_84) (dl rfl rfl) ?_
        refine TL'.passU (.off _ _ _ _ rfl rfl rfl c_84) (dl rfl rfl) ?_
        refine sp rfl (OpT.pickF rfl (dl rfl rfl) rfl c_84 rfl ?_)
        refine asg rfl rfl rfl rfl rfl ?_
        refine TL'.nil (thenS_normal ?_)
        refine T.ret ?_
        exact Fin.done (.cons _ _ _ _ (.tmp 2 _ rfl) .nil) (by cases h; exact ⟨rfl, rfl⟩)

theorem r4_Name_T (K : Nat) {x0 : ByteArray} {r : Bool} (h : r4_Name K x0 = some r) : CallR Tryd.prog 62 [.str x0] [] (.bool r) := by
  refine CallT.intro Tryd.func62 rfl (Nat.le_of_ble_eq_true rfl) ?_
  show T Tryd.prog 34 (Code.at [] (codeOf Tryd.f62)) ⟨paramSlots 0 [.str x0], []⟩ (r4_Name_q r)
  unfold r4_Name at h
  refine T.seq ?_
  refine T.regionL ?_
  refine asg rfl rfl rfl rfl rfl ?_
  refine TL'.nil (thenS_normal ?_)
  refine T.seq ?_
  refine T.seq ?_
  refine T.regionL ?_
  refine asg rfl rfl rfl rfl rfl ?_
  refine TL'.nil (thenS_normal ?_)
  refine T.block ?_
  refine T.loop ?_
  refine TL.by_turn ?_ (r4_Name_l0_T K K x0 (0 : Int) h)
  exact Turn.rp (.cons rfl (.cons rfl (.nil _))) (.n _)

abbrev r4r_name_q (bx0 : Nat) (r : Int × r4r) : Exit → St → Prop := retS Tryd.prog Tryd.f103 (fun y t => ∃ γ : Nat → Value, y = (.int .i64 r.1) ∧ t = [.box bx0 88 [.d (.str r.2.s), .d (.int .i64 r.2.at_), .d (.ex (γ 0)), .d (.int .i64 r.2.deep), .d (.int .i64 r.2.e), .d (.int .i64 r.2.where_)], .arrA (γ 0) 42 9 (r.2.nodes.map c_api_Node)])

abbrev r4r_name_qs1111 (bx0 : Nat) (r : Int × r4r) : Exit → St → Prop := thenS (fun s' => T Tryd.prog 82 (Code.at [1, 1, 1, 1] (codeOf Tryd.f103)) s' ((r4r_name_q bx0 r))) ((r4r_name_q bx0 r))

abbrev r4r_name_qb0x1111 (bx0 : Nat) (r : Int × r4r) : Exit → St → Prop := inBlockS 0 ((r4r_name_qs1111 bx0 r))

abbrev r4r_name_ql11100 (bx0 : Nat) (r : Int × r4r) : Exit → St → Prop := thenS (fun s' => TL Tryd.prog 82 (Code.at [1, 1, 1, 0, 0, 0] (codeOf Tryd.f103)) s' ((r4r_name_qb0x1111 bx0 r))) ((r4r_name_qb0x1111 bx0 r))

abbrev r4r_name_qs1110001 (bx0 : Nat) (r : Int × r4r) : Exit → St → Prop := thenS (fun s' => T Tryd.prog 82 (Code.at [1, 1, 1, 0, 0, 0, 1] (codeOf Tryd.f103)) s' ((r4r_name_ql11100 bx0 r))) ((r4r_name_ql11100 bx0 r))

theorem r4r_name_j1_T {r : Int × r4r} (K : Nat) (bx0 : Nat) (x3_0_6 : Int) (y0_1_0 : ByteArray) (y0_1_1 : Int) (y0_1_3 : Int) (y0_1_4 : Int) (y0_1_5 : Int) (y0_1_2 : List api_Node) (w0_1 : Value) (h : r4r_name_j1 K x3_0_6 y0_1_0 y0_1_1 y0_1_3 y0_1_4 y0_1_5 y0_1_2 = some r) : T Tryd.prog 82 (Code.at [1, 1, 1, 0, 0, 0, 0, 1, 1] (codeOf Tryd.f103)) ⟨[(0, .ptr bx0 0), (3, .int .i64 x3_0_6)], [.box bx0 88 [.d (.str y0_1_0), .d (.int .i64 y0_1_1), .d (.ex w0_1), .d (.int .i64 y0_1_3), .d (.int .i64 y0_1_4), .d (.int .i64 y0_1_5)], .arrA w0_1 42 9 (y0_1_2.map c_api_Node)]⟩ (r4r_name_qs1110001 bx0 r) := by
  unfold r4r_name_j1 at h
  refine T.exit (thenS_exit (thenS_exit (inBlock_exit (thenS_normal ?_))))
  refine T.seq ?_
  refine T.seq ?_
  refine T.regionL ?_
  refine mv rfl rfl rfl rfl rfl ?_
  obtain ⟨v_186, e_187, h⟩ := bind_some h
  refine sp rfl (OpT.callG (is := [0, 1]) (ph := []) rfl (dl rfl rfl) Tryd.func49 rfl rfl (Args.cons rfl Args.nil) (r4r_ends_T K (bx0 := bx0) (wx0c2 := w0_1) e_187) (.cons rfl rfl (.cons rfl rfl (.nil))) (fun _ => rfl) (fun γ_188 => ?_))
  refine nm (.c (.c (.n))) ?_
  refine TL'.nil (thenS_normal ?_)
  rcases bif_some h with ⟨c_189, h⟩ | ⟨c_189, h⟩
  · refine T.condT rfl c_189 ?_
    refine T.seq ?_
    refine T.regionL ?_
    refine mv rfl rfl rfl rfl rfl ?_
    refine mv rfl rfl rfl rfl rfl ?_
    refine sp rfl (OpT.nilCheck rfl (dl rfl rfl) rfl rfl ?_)
    refine sp rfl (OpT.fieldPtr rfl (dl rfl rfl) Tryd.underlying88 rfl i9 (by decide) rfl ?_)
    refine sp rfl (OpT.loadBox (i := 0) rfl (dl rfl rfl) Tryd.underlying9 rfl rfl rfl rfl ?_)
    refine sp rfl (OpT.lenStr rfl (dl rfl rfl) Tryd.underlying9 rfl ?_)
    obtain ⟨v_190, e_191, h⟩ := bind_some h
    refine sp rfl (OpT.callG (is := [0, 1]) (ph := []) rfl (dl rfl rfl) Tryd.func50 rfl rfl (Args.cons rfl (Args.cons rfl (Args.cons rfl Args.nil))) (r4r_fail_T K (bx0 := bx0) (wx0c2 := (γ_188 0)) e_191) (.cons rfl rfl (.cons rfl rfl (.nil))) (fun _ => rfl) (fun γ_192 => ?_))
    refine nm (.c (.c (.n))) ?_
    refine TL'.nil (thenS_normal ?_)
    refine T.seq ?_
    refine T.regionL ?_
    refine asg rfl rfl rfl rfl rfl ?_
    refine TL'.nil (thenS_normal ?_)
    refine T.ret (thenS_ret ?_)
    exact Fin.doneK (.cons _ _ _ _ (.tmp 2 _ rfl) .nil) (.cons 0 rfl (.cons 0 rfl (.nil _))) (by cases h; exact ⟨gl [γ_192 0], rfl, rfl⟩)
  · refine T.condF rfl c_189 ?_
    refine T.skip (thenS_normal ?_)
    refine T.seq ?_
    refine T.seq ?_
    refine DG.start ?_
    refine DG.mv rfl rfl rfl rfl rfl rfl ?_
    refine DG.step (c := ⟨some 47, .ptr bx0 0, [(46, .ptr bx0 0)], [], []⟩) (fun t hm => One.step rfl (.free rfl) (OpT.nilCheck rfl (dl rfl rfl) hm.s0 rfl rfl)) (Ct.met_of rfl rfl) ?_
    refine DG.step (c := ⟨some 48, .ptr bx0 (0 + 0), [(47, .ptr bx0 0)], [], []⟩) (fun t hm => One.step rfl (.free rfl) (OpT.fieldPtr rfl (dl rfl rfl) Tryd.underlying88 rfl i9 (by decide) hm.s0 rfl)) (Ct.met_of rfl rfl) ?_
    refine DG.step (c := ⟨some 49, .str ((r4r.mk y0_1_0 y0_1_1 y0_1_2 y0_1_3 y0_1_4 y0_1_5).s), [(48, .ptr bx0 (0 + 0))], [(0, .box bx0 88 [.d (.str ((r4r.mk y0_1_0 y0_1_1 y0_1_2 y0_1_3 y0_1_4 y0_1_5).s)), .d (.int .i64 ((r4r.mk y0_1_0 y0_1_1 y0_1_2 y0_1_3 y0_1_4 y0_1_5).at_)), .d (.ex (γ_188 0)), .d (.int .i64 ((r4r.mk y0_1_0 y0_1_1 y0_1_2 y0_1_3 y0_1_4 y0_1_5).deep)), .d (.int .i64 ((r4r.mk y0_1_0 y0_1_1 y0_1_2 y0_1_3 y0_1_4 y0_1_5).e)), .d (.int .i64 ((r4r.mk y0_1_0 y0_1_1 y0_1_2 y0_1_3 y0_1_4 y0_1_5).where_))])], []⟩) (fun t hm => One.step rfl (.free rfl) (OpT.loadBox (i := 0) rfl (dl rfl rfl) Tryd.underlying9 rfl hm.s0 hm.o0 rfl rfl)) (Ct.met_of rfl rfl) ?_
    refine DG.mv rfl rfl rfl rfl rfl rfl ?_
    refine DG.mv rfl rfl rfl rfl rfl rfl ?_
    refine DG.step (c := ⟨some 52, .ptr bx0 0, [(51, .ptr bx0 0)], [], []⟩) (fun t hm => One.step rfl (.free rfl) (OpT.nilCheck rfl (dl rfl rfl) hm.s0 rfl rfl)) (Ct.met_of rfl rfl) ?_
    refine DG.step (c := ⟨some 53, .ptr bx0 (0 + 1), [(52, .ptr bx0 0)], [], []⟩) (fun t hm => One.step rfl (.free rfl) (OpT.fieldPtr rfl (dl rfl rfl) Tryd.underlying88 rfl i3 (by decide) hm.s0 rfl)) (Ct.met_of rfl rfl) ?_
    refine DG.step (c := ⟨some 54, .int .i64 ((r4r.mk y0_1_0 y0_1_1 y0_1_2 y0_1_3 y0_1_4 y0_1_5).at_), [(53, .ptr bx0 (0 + 1))], [(0, .box bx0 88 [.d (.str ((r4r.mk y0_1_0 y0_1_1 y0_1_2 y0_1_3 y0_1_4 y0_1_5).s)), .d (.int .i64 ((r4r.mk y0_1_0 y0_1_1 y0_1_2 y0_1_3 y0_1_4 y0_1_5).at_)), .d (.ex (γ_188 0)), .d (.int .i64 ((r4r.mk y0_1_0 y0_1_1 y0_1_2 y0_1_3 y0_1_4 y0_1_5).deep)), .d (.int .i64 ((r4r.mk y0_1_0 y0_1_1 y0_1_2 y0_1_3 y0_1_4 y0_1_5).e)), .d (.int .i64 ((r4r.mk y0_1_0 y0_1_1 y0_1_2 y0_1_3 y0_1_4 y0_1_5).where_))])], []⟩) (fun t hm => One.step rfl (.free rfl) (OpT.loadBox (i := 0) rfl (dl rfl rfl) Tryd.underlying3 rfl hm.s0 hm.o0 rfl rfl)) (Ct.met_of rfl rfl) ?_
    obtain ⟨g_197, h⟩ := ck_some h
    refine DG.step (c := ⟨some 55, .str (((r4r.mk y0_1_0 y0_1_1 y0_1_2 y0_1_3 y0_1_4 y0_1_5).s).extract (Int.toNat x3_0_6) (Int.toNat ((r4r.mk y0_1_0 y0_1_1 y0_1_2 y0_1_3 y0_1_4 y0_1_5).at_))), [(49, .str ((r4r.mk y0_1_0 y0_1_1 y0_1_2 y0_1_3 y0_1_4 y0_1_5).s)), (50, .int .i64 x3_0_6), (54, .int .i64 ((r4r.mk y0_1_0 y0_1_1 y0_1_2 y0_1_3 y0_1_4 y0_1_5).at_))], [], []⟩) (fun t hm => One.step rfl (.free rfl) (OpT.sliceStr (l := (Int.toNat x3_0_6)) (h := (Int.toNat ((r4r.mk y0_1_0 y0_1_1 y0_1_2 y0_1_3 y0_1_4 y0_1_5).at_))) rfl (dl rfl rfl) Tryd.underlying9 hm.s0 (.some _ _ _ _ hm.s1 g_197.1) (.some _ _ _ _ hm.s2 g_197.2.1) g_197.2.2.1 g_197.2.2.2 rfl)) (Ct.met_of rfl rfl) ?_
    obtain ⟨v_198, e_199, h⟩ := bind_some h
    refine DG.step (c := ⟨some 56, .bool v_198, [(55, .str (((r4r.mk y0_1_0 y0_1_1 y0_1_2 y0_1_3 y0_1_4 y0_1_5).s).extract (Int.toNat x3_0_6) (Int.toNat ((r4r.mk y0_1_0 y0_1_1 y0_1_2 y0_1_3 y0_1_4 y0_1_5).at_))))], [], []⟩) (fun t hm => One.step rfl (.free rfl) (OpT.callPA rfl (dl rfl rfl) Tryd.func62 rfl rfl (Args.cons hm.s0 Args.nil) (CallR.nil (r4_Name_T K e_199)) rfl)) (Ct.met_of rfl rfl) ?_
    refine DG.step (c := ⟨some 57, .bool (!v_198), [(56, .bool v_198)], [], []⟩) (fun t hm => One.step rfl (.free rfl) (OpT.not rfl (dl rfl rfl) hm.s0 rfl)) (Ct.met_of rfl rfl) ?_
    refine DG.fin (s1 := ⟨[(0, .ptr bx0 0), (3, .int .i64 x3_0_6), (57, .bool (!v_198))], [.box bx0 88 [.d (.str ((r4r.mk y0_1_0 y0_1_1 y0_1_2 y0_1_3 y0_1_4 y0_1_5).s)), .d (.int .i64 ((r4r.mk y0_1_0 y0_1_1 y0_1_2 y0_1_3 y0_1_4 y0_1_5).at_)), .d (.ex (γ_188 0)), .d (.int .i64 ((r4r.mk y0_1_0 y0_1_1 y0_1_2 y0_1_3 y0_1_4 y0_1_5).deep)), .d (.int .i64 ((r4r.mk y0_1_0 y0_1_1 y0_1_2 y0_1_3 y0_1_4 y0_1_5).e)), .d (.int .i64 ((r4r.mk y0_1_0 y0_1_1 y0_1_2 y0_1_3 y0_1_4 y0_1_5).where_))], .arrA (γ_188 0) 42 9 (((r4r.mk y0_1_0 y0_1_1 y0_1_2 y0_1_3 y0_1_4 y0_1_5).nodes).map c_api_Node)]⟩) (ms := [0, 1, 3, 7, 0, 0, 32, 96, 224, 511, 1023, 2047]) TrydMixed rfl (by kernel_rfl) (by kernel_rfl) (by kernel_rfl) (.cons rfl (.cons rfl (.cons rfl (.nil _)))) rfl (fun u hu => (thenS_normal (T.by_turn hu ?_)))
    rcases bif_some h with ⟨c_200, h⟩ | ⟨c_200, h⟩
    · refine T.condT rfl c_200 ?_
      refine T.seq ?_
      refine T.regionL ?_
      refine mv rfl rfl rfl rfl rfl ?_
      refine mv rfl rfl rfl rfl rfl ?_
      obtain ⟨v_201, e_202, h⟩ := bind_some h
      refine sp rfl (OpT.callG (is := [0, 1]) (ph := []) rfl (dl rfl rfl) Tryd.func50 rfl rfl (Args.cons rfl (Args.cons rfl (Args.cons rfl Args.nil))) (r4r_fail_T K (bx0 := bx0) (wx0c2 := (γ_188 0)) e_202) (.cons rfl rfl (.cons rfl rfl (.nil))) (fun _ => rfl) (fun γ_203 => ?_))
      refine nm (.c (.c (.n))) ?_
      refine TL'.nil (thenS_normal ?_)
      refine T.seq ?_
      refine T.regionL ?_
      refine asg rfl rfl rfl rfl rfl ?_
      refine TL'.nil (thenS_normal ?_)
      refine T.ret (thenS_ret ?_)
      exact Fin.doneK (.cons _ _ _ _ (.tmp 2 _ rfl) .nil) (.cons 0 rfl (.cons 0 rfl (.nil _))) (by cases h; exact ⟨gl [γ_203 0], rfl, rfl⟩)
    · refine T.condF rfl c_200 ?_
      refine T.skip (thenS_normal ?_)
      refine T.seq ?_
      refine T.regionL ?_
      refine mv rfl rfl rfl rfl rfl ?_
      refine sp rfl (OpT.nilCheck rfl (dl rfl rfl) rfl rfl ?_)
      refine sp rfl (OpT.fieldPtr rfl (dl rfl rfl) Tryd.underlying88 rfl i3 (by decide) rfl ?_)
      refine sp rfl (OpT.loadBox (i := 0) rfl (dl rfl rfl) Tryd.underlying3 rfl rfl rfl rfl ?_)
      refine sp rfl (OpT.int2 rfl rfl (dl rfl rfl) rfl rfl ?_)
      refine sp rfl (OpT.nilCheck rfl (dl rfl rfl) rfl rfl ?_)
      refine sp rfl (OpT.fieldPtr rfl (dl rfl rfl) Tryd.underlying88 rfl i3 (by decide) rfl ?_)
      refine sp rfl (OpT.storeTo (i := 0) (cells' := [.d (.str ((r4r.mk y0_1_0 y0_1_1 y0_1_2 y0_1_3 y0_1_4 y0_1_5).s)), .d (.int .i64 (IntKind.i64.wrap ((r4r.mk y0_1_0 y0_1_1 y0_1_2 y0_1_3 y0_1_4 y0_1_5).at_ + (1 : Int)))), .d (.ex (γ_188 0)), .d (.int .i64 ((r4r.mk y0_1_0 y0_1_1 y0_1_2 y0_1_3 y0_1_4 y0_1_5).deep)), .d (.int .i64 ((r4r.mk y0_1_0 y0_1_1 y0_1_2 y0_1_3 y0_1_4 y0_1_5).e)), .d (.int .i64 ((r4r.mk y0_1_0 y0_1_1 y0_1_2 y0_1_3 y0_1_4 y0_1_5).where_))]) rfl rfl i3 rfl rfl rfl (Nat.le_of_ble_eq_true rfl) rfl ?_)
      refine TL'.nil (thenS_normal ?_)
      refine T.seq ?_
      refine DGG.start ?_
      refine DGG.step (c := fun γ_204 => ⟨some 68, .ptr bx0 0, [(0, .ptr bx0 0)], [], []⟩) [] (fun _ _ _ => rfl) (fun γ_204 t hm => One.step rfl (.free rfl) (OpT.move rfl (dl rfl rfl) hm.s0 ⟨(fun _ => undef, 0), rfl⟩)) (fun γ_204 => Ct.met_of rfl rfl) ?_
      refine DGG.step (c := fun γ_204 => ⟨some 69, .ptr bx0 0, [(0, .ptr bx0 0)], [], []⟩) [] (fun _ _ _ => rfl) (fun γ_204 t hm => One.step rfl (.free rfl) (OpT.move rfl (dl rfl rfl) hm.s0 ⟨(fun _ => undef, 0), rfl⟩)) (fun γ_204 => Ct.met_of rfl rfl) ?_
      refine DGG.step (c := fun γ_204 => ⟨some 70, .ptr bx0 0, [(69, .ptr bx0 0)], [], []⟩) [] (fun _ _ _ => rfl) (fun γ_204 t hm => One.step rfl (.free rfl) (OpT.nilCheck rfl (dl rfl rfl) hm.s0 rfl ⟨(fun _ => undef, 0), rfl⟩)) (fun γ_204 => Ct.met_of rfl rfl) ?_
      refine DGG.step (c := fun γ_204 => ⟨some 71, .ptr bx0 (0 + 0), [(70, .ptr bx0 0)], [], []⟩) [] (fun _ _ _ => rfl) (fun γ_204 t hm => One.step rfl (.free rfl) (OpT.fieldPtr rfl (dl rfl rfl) Tryd.underlying88 rfl i9 (by decide) hm.s0 ⟨(fun _ => undef, 0), rfl⟩)) (fun γ_204 => Ct.met_of rfl rfl) ?_
      refine DGG.step (c := fun γ_204 => ⟨some 72, .str ((r4r.mk y0_1_0 y0_1_1 y0_1_2 y0_1_3 y0_1_4 y0_1_5).s), [(71, .ptr bx0 (0 + 0))], [(0, .box bx0 88 [.d (.str ((r4r.mk y0_1_0 y0_1_1 y0_1_2 y0_1_3 y0_1_4 y0_1_5).s)), .d (.int .i64 (IntKind.i64.wrap ((r4r.mk y0_1_0 y0_1_1 y0_1_2 y0_1_3 y0_1_4 y0_1_5).at_ + (1 : Int)))), .d (.ex (γ_188 0)), .d (.int .i64 ((r4r.mk y0_1_0 y0_1_1 y0_1_2 y0_1_3 y0_1_4 y0_1_5).deep)), .d (.int .i64 ((r4r.mk y0_1_0 y0_1_1 y0_1_2 y0_1_3 y0_1_4 y0_1_5).e)), .d (.int .i64 ((r4r.mk y0_1_0 y0_1_1 y0_1_2 y0_1_3 y0_1_4 y0_1_5).where_))])], []⟩) [] (fun _ _ _ => rfl) (fun γ_204 t hm => One.step rfl (.free rfl) (OpT.loadBox (i := 0) rfl (dl rfl rfl) Tryd.underlying9 rfl hm.s0 hm.o0 rfl ⟨(fun _ => undef, 0), rfl⟩)) (fun γ_204 => Ct.met_of rfl rfl) ?_
      refine DGG.step (c := fun γ_204 => ⟨some 73, .int .i64 x3_0_6, [(3, .int .i64 x3_0_6)], [], []⟩) [] (fun _ _ _ => rfl) (fun γ_204 t hm => One.step rfl (.free rfl) (OpT.move rfl (dl rfl rfl) hm.s0 ⟨(fun _ => undef, 0), rfl⟩)) (fun γ_204 => Ct.met_of rfl rfl) ?_
      refine DGG.step (c := fun γ_204 => ⟨some 74, .ptr bx0 0, [(0, .ptr bx0 0)], [], []⟩) [] (fun _ _ _ => rfl) (fun γ_204 t hm => One.step rfl (.free rfl) (OpT.move rfl (dl rfl rfl) hm.s0 ⟨(fun _ => undef, 0), rfl⟩)) (fun γ_204 => Ct.met_of rfl rfl) ?_
      refine DGG.step (c := fun γ_204 => ⟨some 75, .ptr bx0 0, [(74, .ptr bx0 0)], [], []⟩) [] (fun _ _ _ => rfl) (fun γ_204 t hm => One.step rfl (.free rfl) (OpT.nilCheck rfl (dl rfl rfl) hm.s0 rfl ⟨(fun _ => undef, 0), rfl⟩)) (fun γ_204 => Ct.met_of rfl rfl) ?_
      refine DGG.step (c := fun γ_204 => ⟨some 76, .ptr bx0 (0 + 1), [(75, .ptr bx0 0)], [], []⟩) [] (fun _ _ _ => rfl) (fun γ_204 t hm => One.step rfl (.free rfl) (OpT.fieldPtr rfl (dl rfl rfl) Tryd.underlying88 rfl i3 (by decide) hm.s0 ⟨(fun _ => undef, 0), rfl⟩)) (fun γ_204 => Ct.met_of rfl rfl) ?_
      refine DGG.step (c := fun γ_204 => ⟨some 77, .int .i64 (IntKind.i64.wrap ((r4r.mk y0_1_0 y0_1_1 y0_1_2 y0_1_3 y0_1_4 y0_1_5).at_ + (1 : Int))), [(76, .ptr bx0 (0 + 1))], [(0, .box bx0 88 [.d (.str ((r4r.mk y0_1_0 y0_1_1 y0_1_2 y0_1_3 y0_1_4 y0_1_5).s)), .d (.int .i64 (IntKind.i64.wrap ((r4r.mk y0_1_0 y0_1_1 y0_1_2 y0_1_3 y0_1_4 y0_1_5).at_ + (1 : Int)))), .d (.ex (γ_188 0)), .d (.int .i64 ((r4r.mk y0_1_0 y0_1_1 y0_1_2 y0_1_3 y0_1_4 y0_1_5).deep)), .d (.int .i64 ((r4r.mk y0_1_0 y0_1_1 y0_1_2 y0_1_3 y0_1_4 y0_1_5).e)), .d (.int .i64 ((r4r.mk y0_1_0 y0_1_1 y0_1_2 y0_1_3 y0_1_4 y0_1_5).where_))])], []⟩) [] (fun _ _ _ => rfl) (fun γ_204 t hm => One.step rfl (.free rfl) (OpT.loadBox (i := 0) rfl (dl rfl rfl) Tryd.underlying3 rfl hm.s0 hm.o0 rfl ⟨(fun _ => undef, 0), rfl⟩)) (fun γ_204 => Ct.met_of rfl rfl) ?_
      refine DGG.step (c := fun γ_204 => ⟨some 78, .int .i64 (IntKind.i64.wrap ((IntKind.i64.wrap ((r4r.mk y0_1_0 y0_1_1 y0_1_2 y0_1_3 y0_1_4 y0_1_5).at_ + (1 : Int))) - (1 : Int))), [(77, .int .i64 (IntKind.i64.wrap ((r4r.mk y0_1_0 y0_1_1 y0_1_2 y0_1_3 y0_1_4 y0_1_5).at_ + (1 : Int))))], [], []⟩) [] (fun _ _ _ => rfl) (fun γ_204 t hm => One.step rfl (.free rfl) (OpT.int2 rfl rfl (dl rfl rfl) hm.s0 rfl ⟨(fun _ => undef, 0), rfl⟩)) (fun γ_204 => Ct.met_of rfl rfl) ?_
      obtain ⟨g_208, h⟩ := ck_some h
      refine DGG.step (c := fun γ_204 => ⟨some 79, .str (((r4r.mk y0_1_0 y0_1_1 y0_1_2 y0_1_3 y0_1_4 y0_1_5).s).extract (Int.toNat x3_0_6) (Int.toNat (IntKind.i64.wrap ((IntKind.i64.wrap ((r4r.mk y0_1_0 y0_1_1 y0_1_2 y0_1_3 y0_1_4 y0_1_5).at_ + (1 : Int))) - (1 : Int))))), [(72, .str ((r4r.mk y0_1_0 y0_1_1 y0_1_2 y0_1_3 y0_1_4 y0_1_5).s)), (73, .int .i64 x3_0_6), (78, .int .i64 (IntKind.i64.wrap ((IntKind.i64.wrap ((r4r.mk y0_1_0 y0_1_1 y0_1_2 y0_1_3 y0_1_4 y0_1_5).at_ + (1 : Int))) - (1 : Int))))], [], []⟩) [] (fun _ _ _ => rfl) (fun γ_204 t hm => One.step rfl (.free rfl) (OpT.sliceStr (l := (Int.toNat x3_0_6)) (h := (Int.toNat (IntKind.i64.wrap ((IntKind.i64.wrap ((r4r.mk y0_1_0 y0_1_1 y0_1_2 y0_1_3 y0_1_4 y0_1_5).at_ + (1 : Int))) - (1 : Int))))) rfl (dl rfl rfl) Tryd.underlying9 hm.s0 (.some _ _ _ _ hm.s1 g_208.1) (.some _ _ _ _ hm.s2 g_208.2.1) g_208.2.2.1 g_208.2.2.2 ⟨(fun _ => undef, 0), rfl⟩)) (fun γ_204 => Ct.met_of rfl rfl) ?_
      refine DGG.step (c := fun γ_204 => ⟨some 80, .agg [.int .u8 (6 : Int), .int .u64 (Arr4.mk 0 0 0 0).a0, .int .u64 (Arr4.mk 0 0 0 0).a1, .int .u64 (Arr4.mk 0 0 0 0).a2, .int .u64 (Arr4.mk 0 0 0 0).a3, .sl false 1 (([] : List Int).map (cI .i64)), .int .i64 (0 : Int), .int .i64 (0 : Int), .str (((r4r.mk y0_1_0 y0_1_1 y0_1_2 y0_1_3 y0_1_4 y0_1_5).s).extract (Int.toNat x3_0_6) (Int.toNat (IntKind.i64.wrap ((IntKind.i64.wrap ((r4r.mk y0_1_0 y0_1_1 y0_1_2 y0_1_3 y0_1_4 y0_1_5).at_ + (1 : Int))) - (1 : Int)))))], [(79, .str (((r4r.mk y0_1_0 y0_1_1 y0_1_2 y0_1_3 y0_1_4 y0_1_5).s).extract (Int.toNat x3_0_6) (Int.toNat (IntKind.i64.wrap ((IntKind.i64.wrap ((r4r.mk y0_1_0 y0_1_1 y0_1_2 y0_1_3 y0_1_4 y0_1_5).at_ + (1 : Int))) - (1 : Int))))))], [], []⟩) [] (fun _ _ _ => rfl) (fun γ_204 t hm => One.step rfl (.free rfl) (OpT.thenTurn (OpT.build (l := [.int .u8 (6 : Int), .int .u64 (Arr4.mk 0 0 0 0).a0, .int .u64 (Arr4.mk 0 0 0 0).a1, .int .u64 (Arr4.mk 0 0 0 0).a2, .int .u64 (Arr4.mk 0 0 0 0).a3, .ex (.slice none 0 0), .int .i64 (0 : Int), .int .i64 (0 : Int), .str (((r4r.mk y0_1_0 y0_1_1 y0_1_2 y0_1_3 y0_1_4 y0_1_5).s).extract (Int.toNat x3_0_6) (Int.toNat (IntKind.i64.wrap ((IntKind.i64.wrap ((r4r.mk y0_1_0 y0_1_1 y0_1_2 y0_1_3 y0_1_4 y0_1_5).at_ + (1 : Int))) - (1 : Int)))))]) rfl (dl rfl rfl) (built_struct (pl := [(0, 1), (1, 4), (5, 1), (6, 1), (7, 1), (8, 1)]) Tryd.underlying42 i42 rfl) (all1 rfl) (parts_cons rfl rfl (parts_cons hm.s0 rfl parts_nil)) rfl rfl) (Turn.weakSlotP 80 (l := [.int .u8 (6 : Int), .int .u64 (Arr4.mk 0 0 0 0).a0, .int .u64 (Arr4.mk 0 0 0 0).a1, .int .u64 (Arr4.mk 0 0 0 0).a2, .int .u64 (Arr4.mk 0 0 0 0).a3, .ex (.slice none 0 0), .int .i64 (0 : Int), .int .i64 (0 : Int), .str (((r4r.mk y0_1_0 y0_1_1 y0_1_2 y0_1_3 y0_1_4 y0_1_5).s).extract (Int.toNat x3_0_6) (Int.toNat (IntKind.i64.wrap ((IntKind.i64.wrap ((r4r.mk y0_1_0 y0_1_1 y0_1_2 y0_1_3 y0_1_4 y0_1_5).at_ + (1 : Int))) - (1 : Int)))))]) (l' := [.int .u8 (6 : Int), .int .u64 (Arr4.mk 0 0 0 0).a0, .int .u64 (Arr4.mk 0 0 0 0).a1, .int .u64 (Arr4.mk 0 0 0 0).a2, .int .u64 (Arr4.mk 0 0 0 0).a3, .sl false 1 (([] : List Int).map (cI .i64)), .int .i64 (0 : Int), .int .i64 (0 : Int), .str (((r4r.mk y0_1_0 y0_1_1 y0_1_2 y0_1_3 y0_1_4 y0_1_5).s).extract (Int.toNat x3_0_6) (Int.toNat (IntKind.i64.wrap ((IntKind.i64.wrap ((r4r.mk y0_1_0 y0_1_1 y0_1_2 y0_1_3 y0_1_4 y0_1_5).at_ + (1 : Int))) - (1 : Int)))))]) (.cons (.same _) (.cons (.same _) (.cons (.same _) (.cons (.same _) (.cons (.same _) (.cons (.nil _ _) (.cons (.same _) (.cons (.same _) (.cons (.same _) (.refl _))))))))))) ⟨(fun _ => undef, 0), rfl⟩)) (fun γ_204 => Ct.met_of rfl rfl) ?_
      obtain ⟨v_209, e_210, h⟩ := bind_some h
      refine DGG.step (c := fun γ_204 => ⟨some 81, .int .i64 v_209.1, [(68, .ptr bx0 0), (80, .agg [.int .u8 (6 : Int), .int .u64 (Arr4.mk 0 0 0 0).a0, .int .u64 (Arr4.mk 0 0 0 0).a1, .int .u64 (Arr4.mk 0 0 0 0).a2, .int .u64 (Arr4.mk 0 0 0 0).a3, .sl false 1 (([] : List Int).map (cI .i64)), .int .i64 (0 : Int), .int .i64 (0 : Int), .str (((r4r.mk y0_1_0 y0_1_1 y0_1_2 y0_1_3 y0_1_4 y0_1_5).s).extract (Int.toNat x3_0_6) (Int.toNat (IntKind.i64.wrap ((IntKind.i64.wrap ((r4r.mk y0_1_0 y0_1_1 y0_1_2 y0_1_3 y0_1_4 y0_1_5).at_ + (1 : Int))) - (1 : Int)))))])], [(1, .arrA (γ_188 0) 42 9 (((r4r.mk y0_1_0 y0_1_1 y0_1_2 y0_1_3 y0_1_4 y0_1_5).nodes).map c_api_Node)), (0, .box bx0 88 [.d (.str ((r4r.mk y0_1_0 y0_1_1 y0_1_2 y0_1_3 y0_1_4 y0_1_5).s)), .d (.int .i64 (IntKind.i64.wrap ((r4r.mk y0_1_0 y0_1_1 y0_1_2 y0_1_3 y0_1_4 y0_1_5).at_ + (1 : Int)))), .d (.ex (γ_188 0)), .d (.int .i64 ((r4r.mk y0_1_0 y0_1_1 y0_1_2 y0_1_3 y0_1_4 y0_1_5).deep)), .d (.int .i64 ((r4r.mk y0_1_0 y0_1_1 y0_1_2 y0_1_3 y0_1_4 y0_1_5).e)), .d (.int .i64 ((r4r.mk y0_1_0 y0_1_1 y0_1_2 y0_1_3 y0_1_4 y0_1_5).where_))])], [(0, .box bx0 88 [.d (.str v_209.2.s), .d (.int .i64 v_209.2.at_), .d (.ex ((γ_204 13).1 0)), .d (.int .i64 v_209.2.deep), .d (.int .i64 v_209.2.e), .d (.int .i64 v_209.2.where_)]), (1, .arrA ((γ_204 13).1 0) 42 9 (v_209.2.nodes.map c_api_Node))]⟩) [13] (fun γ_204 γ' h => by simp only [h 13 (by decide)]) (fun γ_204 t hm => One.step rfl (.free rfl) (OpT.callG (is := [0, 1]) (ph := []) rfl (dl rfl rfl) Tryd.func65 rfl rfl (Args.cons hm.s0 (Args.cons hm.s1 Args.nil)) (r4r_put_T K (bx0 := bx0) (wx0c2 := (γ_188 0)) e_210) (.cons hm.o1 rfl (.cons hm.o0 rfl (.nil))) (fun _ => rfl) (fun g => ⟨(g, 0), rfl⟩))) (fun γ_204 => Ct.met_of rfl rfl) ?_
      refine DGG.step (c := fun γ_204 => ⟨some 2, .int .i64 v_209.1, [(81, .int .i64 v_209.1)], [], []⟩) [] (fun _ _ _ => rfl) (fun γ_204 t hm => One.step rfl (.free rfl) (OpT.assign rfl (dl rfl rfl) hm.s0 ⟨(fun _ => undef, 0), rfl⟩)) (fun γ_204 => Ct.met_of rfl rfl) ?_
      refine DGG.fin (s1 := fun γ_204 => ⟨[(2, .int .i64 v_209.1)], [.box bx0 88 [.d (.str v_209.2.s), .d (.int .i64 v_209.2.at_), .d (.ex ((γ_204 13).1 0)), .d (.int .i64 v_209.2.deep), .d (.int .i64 v_209.2.e), .d (.int .i64 v_209.2.where_)], .arrA ((γ_204 13).1 0) 42 9 (v_209.2.nodes.map c_api_Node)]⟩) (ms := [0, 0, 2, 6, 14, 0, 0, 64, 192, 448, 960, 2046, 4094, 8191, 16383]) TrydMixed rfl (by kernel_rfl) (by kernel_rfl) (by kernel_rfl) (fun γ_204 => by kernel_rfl) (fun γ_204 => .cons rfl (.nil _)) (fun _ => rfl) (fun γ_204 u hu => (thenS_normal (T.by_turn hu ?_)))
      refine T.ret ?_
      exact Fin.doneK (.cons _ _ _ _ (.tmp 2 _ rfl) .nil) (.cons 0 rfl (.cons 0 rfl (.nil _))) (by cases h; exact ⟨gl [(γ_204 13).1 0], rfl, rfl⟩)

theorem r4r_name_l0_T {r : Int × r4r} (K : Nat) (bx0 : Nat) : ∀ (k : Nat), ∀ (x3_0_6 : Int) (y0_0_0 : ByteArray) (y0_0_1 : Int) (y0_0_3 : Int) (y0_0_4 : Int) (y0_0_5 : Int) (y0_0_2 : List api_Node) (w0_0 : Value), r4r_name_l0 K k x3_0_6 y0_0_0 y0_0_1 y0_0_3 y0_0_4 y0_0_5 y0_0_2 = some r → TL Tryd.prog 82 (Code.at [1, 1, 1, 0, 0, 0] (codeOf Tryd.f103)) ⟨[(0, .ptr bx0 0), (3, .int .i64 x3_0_6)], [.box bx0 88 [.d (.str y0_0_0), .d (.int .i64 y0_0_1), .d (.ex w0_0), .d (.int .i64 y0_0_3), .d (.int .i64 y0_0_4), .d (.int .i64 y0_0_5)], .arrA w0_0 42 9 (y0_0_2.map c_api_Node)]⟩ (r4r_name_qb0x1111 bx0 r) := by
  intro k
  induction k with
  | zero =>
    intro x3_0_6 y0_0_0 y0_0_1 y0_0_3 y0_0_4 y0_0_5 y0_0_2 w0_0 h
    cases (show (none : Option (Int × r4r)) = some r from h)
  | succ k ih =>
    intro x3_0_6 y0_0_0 y0_0_1 y0_0_3 y0_0_4 y0_0_5 y0_0_2 w0_0 h
    rw [r4r_name_l0] at h
    refine TL.round ?_
    refine T.seq ?_
    refine T.seq ?_
    refine DGG.start ?_
    refine DGG.step (c := fun γ_176 => ⟨some 15, .ptr bx0 0, [(0, .ptr bx0 0)], [], []⟩) [] (fun _ _ _ => rfl) (fun γ_176 t hm => One.step rfl (.free rfl) (OpT.move rfl (dl rfl rfl) hm.s0 ⟨(fun _ => undef, 0), rfl⟩)) (fun γ_176 => Ct.met_of rfl rfl) ?_
    obtain ⟨v_181, e_182, h⟩ := bind_some h
    refine DGG.step (c := fun γ_176 => ⟨some 16, .bool v_181, [(15, .ptr bx0 0)], [(1, .arrA w0_0 42 9 (y0_0_2.map c_api_Node)), (0, .box bx0 88 [.d (.str y0_0_0), .d (.int .i64 y0_0_1), .d (.ex w0_0), .d (.int .i64 y0_0_3), .d (.int .i64 y0_0_4), .d (.int .i64 y0_0_5)])], [(0, .box bx0 88 [.d (.str ((r4r.mk y0_0_0 y0_0_1 y0_0_2 y0_0_3 y0_0_4 y0_0_5).s)), .d (.int .i64 ((r4r.mk y0_0_0 y0_0_1 y0_0_2 y0_0_3 y0_0_4 y0_0_5).at_)), .d (.ex ((γ_176 1).1 0)), .d (.int .i64 ((r4r.mk y0_0_0 y0_0_1 y0_0_2 y0_0_3 y0_0_4 y0_0_5).deep)), .d (.int .i64 ((r4r.mk y0_0_0 y0_0_1 y0_0_2 y0_0_3 y0_0_4 y0_0_5).e)), .d (.int .i64 ((r4r.mk y0_0_0 y0_0_1 y0_0_2 y0_0_3 y0_0_4 y0_0_5).where_))]), (1, .arrA ((γ_176 1).1 0) 42 9 (((r4r.mk y0_0_0 y0_0_1 y0_0_2 y0_0_3 y0_0_4 y0_0_5).nodes).map c_api_Node))]⟩) [1] (fun γ_176 γ' h => by simp only [h 1 (by decide)]) (fun γ_176 t hm => One.step rfl (.free rfl) (OpT.callG (is := [0, 1]) (ph := []) rfl (dl rfl rfl) Tryd.func49 rfl rfl (Args.cons hm.s0 Args.nil) (r4r_ends_T K (bx0 := bx0) (wx0c2 := w0_0) e_182) (.cons hm.o1 rfl (.cons hm.o0 rfl (.nil))) (fun _ => rfl) (fun g => ⟨(g, 0), rfl⟩))) (fun γ_176 => Ct.met_of rfl rfl) ?_
    refine DGG.step (c := fun γ_176 => ⟨some 17, .bool (!v_181), [(16, .bool v_181)], [], []⟩) [] (fun _ _ _ => rfl) (fun γ_176 t hm => One.step rfl (.free rfl) (OpT.not rfl (dl rfl rfl) hm.s0 ⟨(fun _ => undef, 0), rfl⟩)) (fun γ_176 => Ct.met_of rfl rfl) ?_
    refine DGG.step (c := fun γ_176 => ⟨some 18, .bool (!v_181), [(17, .bool (!v_181))], [], []⟩) [] (fun _ _ _ => rfl) (fun γ_176 t hm => One.step rfl (.free rfl) (OpT.move rfl (dl rfl rfl) hm.s0 ⟨(fun _ => undef, 0), rfl⟩)) (fun γ_176 => Ct.met_of rfl rfl) ?_
    rcases bif_some h with ⟨c_183, h⟩ | ⟨c_183, h⟩
    · refine DGG.step (c := fun γ_176 => ⟨some 19, .ptr bx0 0, [(0, .ptr bx0 0), (18, .bool (!v_181))], [], []⟩) [] (fun _ _ _ => rfl) (fun γ_176 t hm => One.step rfl (.on rfl rfl hm.s1 c_183) (OpT.move rfl (dl rfl rfl) hm.s0 ⟨(fun _ => undef, 0), rfl⟩)) (fun γ_176 => Ct.met_of rfl rfl) ?_
      refine DGG.step (c := fun γ_176 => ⟨some 20, .ptr bx0 0, [(19, .ptr bx0 0), (18, .bool (!v_181))], [], []⟩) [] (fun _ _ _ => rfl) (fun γ_176 t hm => One.step rfl (.on rfl rfl hm.s1 c_183) (OpT.nilCheck rfl (dl rfl rfl) hm.s0 rfl ⟨(fun _ => undef, 0), rfl⟩)) (fun γ_176 => Ct.met_of rfl rfl) ?_
      refine DGG.step (c := fun γ_176 => ⟨some 21, .ptr bx0 (0 + 0), [(20, .ptr bx0 0), (18, .bool (!v_181))], [], []⟩) [] (fun _ _ _ => rfl) (fun γ_176 t hm => One.step rfl (.on rfl rfl hm.s1 c_183) (OpT.fieldPtr rfl (dl rfl rfl) Tryd.underlying88 rfl i9 (by decide) hm.s0 ⟨(fun _ => undef, 0), rfl⟩)) (fun γ_176 => Ct.met_of rfl rfl) ?_
      refine DGG.step (c := fun γ_176 => ⟨some 22, .str ((r4r.mk y0_0_0 y0_0_1 y0_0_2 y0_0_3 y0_0_4 y0_0_5).s), [(21, .ptr bx0 (0 + 0)), (18, .bool (!v_181))], [(0, .box bx0 88 [.d (.str ((r4r.mk y0_0_0 y0_0_1 y0_0_2 y0_0_3 y0_0_4 y0_0_5).s)), .d (.int .i64 ((r4r.mk y0_0_0 y0_0_1 y0_0_2 y0_0_3 y0_0_4 y0_0_5).at_)), .d (.ex ((γ_176 1).1 0)), .d (.int .i64 ((r4r.mk y0_0_0 y0_0_1 y0_0_2 y0_0_3 y0_0_4 y0_0_5).deep)), .d (.int .i64 ((r4r.mk y0_0_0 y0_0_1 y0_0_2 y0_0_3 y0_0_4 y0_0_5).e)), .d (.int .i64 ((r4r.mk y0_0_0 y0_0_1 y0_0_2 y0_0_3 y0_0_4 y0_0_5).where_))])], []⟩) [1] (fun γ_176 γ' h => by simp only [h 1 (by decide)]) (fun γ_176 t hm => One.step rfl (.on rfl rfl hm.s1 c_183) (OpT.loadBox (i := 0) rfl (dl rfl rfl) Tryd.underlying9 rfl hm.s0 hm.o0 rfl ⟨(fun _ => undef, 0), rfl⟩)) (fun γ_176 => Ct.met_of rfl rfl) ?_
      refine DGG.step (c := fun γ_176 => ⟨some 23, .ptr bx0 0, [(0, .ptr bx0 0), (18, .bool (!v_181))], [], []⟩) [] (fun _ _ _ => rfl) (fun γ_176 t hm => One.step rfl (.on rfl rfl hm.s1 c_183) (OpT.move rfl (dl rfl rfl) hm.s0 ⟨(fun _ => undef, 0), rfl⟩)) (fun γ_176 => Ct.met_of rfl rfl) ?_
      refine DGG.step (c := fun γ_176 => ⟨some 24, .ptr bx0 0, [(23, .ptr bx0 0), (18, .bool (!v_181))], [], []⟩) [] (fun _ _ _ => rfl) (fun γ_176 t hm => One.step rfl (.on rfl rfl hm.s1 c_183) (OpT.nilCheck rfl (dl rfl rfl) hm.s0 rfl ⟨(fun _ => undef, 0), rfl⟩)) (fun γ_176 => Ct.met_of rfl rfl) ?_
      refine DGG.step (c := fun γ_176 => ⟨some 25, .ptr bx0 (0 + 1), [(24, .ptr bx0 0), (18, .bool (!v_181))], [], []⟩) [] (fun _ _ _ => rfl) (fun γ_176 t hm => One.step rfl (.on rfl rfl hm.s1 c_183) (OpT.fieldPtr rfl (dl rfl rfl) Tryd.underlying88 rfl i3 (by decide) hm.s0 ⟨(fun _ => undef, 0), rfl⟩)) (fun γ_176 => Ct.met_of rfl rfl) ?_
      refine DGG.step (c := fun γ_176 => ⟨some 26, .int .i64 ((r4r.mk y0_0_0 y0_0_1 y0_0_2 y0_0_3 y0_0_4 y0_0_5).at_), [(25, .ptr bx0 (0 + 1)), (18, .bool (!v_181))], [(0, .box bx0 88 [.d (.str ((r4r.mk y0_0_0 y0_0_1 y0_0_2 y0_0_3 y0_0_4 y0_0_5).s)), .d (.int .i64 ((r4r.mk y0_0_0 y0_0_1 y0_0_2 y0_0_3 y0_0_4 y0_0_5).at_)), .d (.ex ((γ_176 1).1 0)), .d (.int .i64 ((r4r.mk y0_0_0 y0_0_1 y0_0_2 y0_0_3 y0_0_4 y0_0_5).deep)), .d (.int .i64 ((r4r.mk y0_0_0 y0_0_1 y0_0_2 y0_0_3 y0_0_4 y0_0_5).e)), .d (.int .i64 ((r4r.mk y0_0_0 y0_0_1 y0_0_2 y0_0_3 y0_0_4 y0_0_5).where_))])], []⟩) [1] (fun γ_176 γ' h => by simp only [h 1 (by decide)]) (fun γ_176 t hm => One.step rfl (.on rfl rfl hm.s1 c_183) (OpT.loadBox (i := 0) rfl (dl rfl rfl) Tryd.underlying3 rfl hm.s0 hm.o0 rfl ⟨(fun _ => undef, 0), rfl⟩)) (fun γ_176 => Ct.met_of rfl rfl) ?_
      obtain ⟨g_184, h⟩ := ck_some h
      refine DGG.step (c := fun γ_176 => ⟨some 27, .int .u8 (bt ((r4r.mk y0_0_0 y0_0_1 y0_0_2 y0_0_3 y0_0_4 y0_0_5).s) ((r4r.mk y0_0_0 y0_0_1 y0_0_2 y0_0_3 y0_0_4 y0_0_5).at_)), [(22, .str ((r4r.mk y0_0_0 y0_0_1 y0_0_2 y0_0_3 y0_0_4 y0_0_5).s)), (26, .int .i64 ((r4r.mk y0_0_0 y0_0_1 y0_0_2 y0_0_3 y0_0_4 y0_0_5).at_)), (18, .bool (!v_181))], [], []⟩) [] (fun _ _ _ => rfl) (fun γ_176 t hm => One.step rfl (.on rfl rfl hm.s2 c_183) (OpT.indexStr rfl (dl rfl rfl) Tryd.underlying9 hm.s0 hm.s1 g_184.1 g_184.2 ⟨(fun _ => undef, 0), rfl⟩)) (fun γ_176 => Ct.met_of rfl rfl) ?_
      refine DGG.step (c := fun γ_176 => ⟨some 28, .bool ((bt ((r4r.mk y0_0_0 y0_0_1 y0_0_2 y0_0_3 y0_0_4 y0_0_5).s) ((r4r.mk y0_0_0 y0_0_1 y0_0_2 y0_0_3 y0_0_4 y0_0_5).at_)) != (125 : Int)), [(27, .int .u8 (bt ((r4r.mk y0_0_0 y0_0_1 y0_0_2 y0_0_3 y0_0_4 y0_0_5).s) ((r4r.mk y0_0_0 y0_0_1 y0_0_2 y0_0_3 y0_0_4 y0_0_5).at_))), (18, .bool (!v_181))], [], []⟩) [] (fun _ _ _ => rfl) (fun γ_176 t hm => One.step rfl (.on rfl rfl hm.s1 c_183) (OpT.int2 rfl rfl (dl rfl rfl) hm.s0 rfl ⟨(fun _ => undef, 0), rfl⟩)) (fun γ_176 => Ct.met_of rfl rfl) ?_
      refine DGG.step (c := fun γ_176 => ⟨some 29, .bool ((bt ((r4r.mk y0_0_0 y0_0_1 y0_0_2 y0_0_3 y0_0_4 y0_0_5).s) ((r4r.mk y0_0_0 y0_0_1 y0_0_2 y0_0_3 y0_0_4 y0_0_5).at_)) != (125 : Int)), [(18, .bool (!v_181)), (28, .bool ((bt ((r4r.mk y0_0_0 y0_0_1 y0_0_2 y0_0_3 y0_0_4 y0_0_5).s) ((r4r.mk y0_0_0 y0_0_1 y0_0_2 y0_0_3 y0_0_4 y0_0_5).at_)) != (125 : Int)))], [], []⟩) [] (fun _ _ _ => rfl) (fun γ_176 t hm => One.step rfl (.free rfl) (OpT.pickT rfl (dl rfl rfl) hm.s0 c_183 hm.s1 ⟨(fun _ => undef, 0), rfl⟩)) (fun γ_176 => Ct.met_of rfl rfl) ?_
      refine DGG.fin (s1 := fun γ_176 => ⟨[(0, .ptr bx0 0), (3, .int .i64 x3_0_6), (19, .ptr bx0 0), (20, .ptr bx0 0), (21, .ptr bx0 (0 + 0)), (22, .str ((r4r.mk y0_0_0 y0_0_1 y0_0_2 y0_0_3 y0_0_4 y0_0_5).s)), (23, .ptr bx0 0), (24, .ptr bx0 0), (25, .ptr bx0 (0 + 1)), (26, .int .i64 ((r4r.mk y0_0_0 y0_0_1 y0_0_2 y0_0_3 y0_0_4 y0_0_5).at_)), (27, .int .u8 (bt ((r4r.mk y0_0_0 y0_0_1 y0_0_2 y0_0_3 y0_0_4 y0_0_5).s) ((r4r.mk y0_0_0 y0_0_1 y0_0_2 y0_0_3 y0_0_4 y0_0_5).at_))), (28, .bool ((bt ((r4r.mk y0_0_0 y0_0_1 y0_0_2 y0_0_3 y0_0_4 y0_0_5).s) ((r4r.mk y0_0_0 y0_0_1 y0_0_2 y0_0_3 y0_0_4 y0_0_5).at_)) != (125 : Int))), (29, .bool ((bt ((r4r.mk y0_0_0 y0_0_1 y0_0_2 y0_0_3 y0_0_4 y0_0_5).s) ((r4r.mk y0_0_0 y0_0_1 y0_0_2 y0_0_3 y0_0_4 y0_0_5).at_)) != (125 : Int)))], [.box bx0 88 [.d (.str ((r4r.mk y0_0_0 y0_0_1 y0_0_2 y0_0_3 y0_0_4 y0_0_5).s)), .d (.int .i64 ((r4r.mk y0_0_0 y0_0_1 y0_0_2 y0_0_3 y0_0_4 y0_0_5).at_)), .d (.ex ((γ_176 1).1 0)), .d (.int .i64 ((r4r.mk y0_0_0 y0_0_1 y0_0_2 y0_0_3 y0_0_4 y0_0_5).deep)), .d (.int .i64 ((r4r.mk y0_0_0 y0_0_1 y0_0_2 y0_0_3 y0_0_4 y0_0_5).e)), .d (.int .i64 ((r4r.mk y0_0_0 y0_0_1 y0_0_2 y0_0_3 y0_0_4 y0_0_5).where_))], .arrA ((γ_176 1).1 0) 42 9 (((r4r.mk y0_0_0 y0_0_1 y0_0_2 y0_0_3 y0_0_4 y0_0_5).nodes).map c_api_Node)]⟩) (ms := [0, 1, 3, 7, 15, 31, 63, 127, 15, 271, 783, 1807, 4095, 8191, 16383]) TrydMixed rfl (by kernel_rfl) (by kernel_rfl) (by kernel_rfl) (fun γ_176 => by kernel_rfl) (fun γ_176 => .cons rfl (.cons rfl (.cons rfl (.cons rfl (.cons rfl (.cons rfl (.cons rfl (.cons rfl (.cons rfl (.cons rfl (.cons rfl (.cons rfl (.cons rfl (.nil _)))))))))))))) (fun _ => rfl) (fun γ_176 u hu => (thenS_normal (T.by_turn hu ?_)))
      rcases bif_some h with ⟨c_185, h⟩ | ⟨c_185, h⟩
      · refine T.condT rfl c_185 ?_
        refine T.skip (thenS_normal ?_)
        refine T.block ?_
        refine T.regionL ?_
        refine mv rfl rfl rfl rfl rfl ?_
        refine sp rfl (OpT.nilCheck rfl (dl rfl rfl) rfl rfl ?_)
        refine sp rfl (OpT.fieldPtr rfl (dl rfl rfl) Tryd.underlying88 rfl i3 (by decide) rfl ?_)
        refine sp rfl (OpT.loadBox (i := 0) rfl (dl rfl rfl) Tryd.underlying3 rfl rfl rfl rfl ?_)
        refine sp rfl (OpT.int2 rfl rfl (dl rfl rfl) rfl rfl ?_)
        refine sp rfl (OpT.nilCheck rfl (dl rfl rfl) rfl rfl ?_)
        refine sp rfl (OpT.fieldPtr rfl (dl rfl rfl) Tryd.underlying88 rfl i3 (by decide) rfl ?_)
        refine sp rfl (OpT.storeTo (i := 0) (cells' := [.d (.str ((r4r.mk y0_0_0 y0_0_1 y0_0_2 y0_0_3 y0_0_4 y0_0_5).s)), .d (.int .i64 (IntKind.i64.wrap ((r4r.mk y0_0_0 y0_0_1 y0_0_2 y0_0_3 y0_0_4 y0_0_5).at_ + (1 : Int)))), .d (.ex ((γ_176 1).1 0)), .d (.int .i64 ((r4r.mk y0_0_0 y0_0_1 y0_0_2 y0_0_3 y0_0_4 y0_0_5).deep)), .d (.int .i64 ((r4r.mk y0_0_0 y0_0_1 y0_0_2 y0_0_3 y0_0_4 y0_0_5).e)), .d (.int .i64 ((r4r.mk y0_0_0 y0_0_1 y0_0_2 y0_0_3 y0_0_4 y0_0_5).where_))]) rfl rfl i3 rfl rfl rfl (Nat.le_of_ble_eq_true rfl) rfl ?_)
        refine TL'.nil (inBlock_normal (thenS_normal ?_))
        refine TL.by_turn ?_ (ih x3_0_6 ((r4r.mk y0_0_0 y0_0_1 y0_0_2 y0_0_3 y0_0_4 y0_0_5).s) (IntKind.i64.wrap ((r4r.mk y0_0_0 y0_0_1 y0_0_2 y0_0_3 y0_0_4 y0_0_5).at_ + (1 : Int))) ((r4r.mk y0_0_0 y0_0_1 y0_0_2 y0_0_3 y0_0_4 y0_0_5).deep) ((r4r.mk y0_0_0 y0_0_1 y0_0_2 y0_0_3 y0_0_4 y0_0_5).e) ((r4r.mk y0_0_0 y0_0_1 y0_0_2 y0_0_3 y0_0_4 y0_0_5).where_) ((r4r.mk y0_0_0 y0_0_1 y0_0_2 y0_0_3 y0_0_4 y0_0_5).nodes) ((γ_176 1).1 0) h)
        exact Turn.rp (.cons rfl (.cons rfl (.nil _))) (.c .z (.c .z (.n _)))
      · refine T.condF rfl c_185 ?_
        refine T.by_turn ?_ (r4r_name_j1_T K bx0 x3_0_6 ((r4r.mk y0_0_0 y0_0_1 y0_0_2 y0_0_3 y0_0_4 y0_0_5).s) ((r4r.mk y0_0_0 y0_0_1 y0_0_2 y0_0_3 y0_0_4 y0_0_5).at_) ((r4r.mk y0_0_0 y0_0_1 y0_0_2 y0_0_3 y0_0_4 y0_0_5).deep) ((r4r.mk y0_0_0 y0_0_1 y0_0_2 y0_0_3 y0_0_4 y0_0_5).e) ((r4r.mk y0_0_0 y0_0_1 y0_0_2 y0_0_3 y0_0_4 y0_0_5).where_) ((r4r.mk y0_0_0 y0_0_1 y0_0_2 y0_0_3 y0_0_4 y0_0_5).nodes) ((γ_176 1).1 0) h)
        exact Turn.rp (.cons rfl (.cons rfl (.nil _))) (.c .z (.c .z (.n _)))
    · refine DGG.off c_183 rfl rfl rfl rfl rfl (fun _ => rfl) ?_
      refine DGG.off c_183 rfl rfl rfl rfl rfl (fun _ => rfl) ?_
      refine DGG.off c_183 rfl rfl rfl rfl rfl (fun _ => rfl) ?_
      refine DGG.off c_183 rfl rfl rfl rfl rfl (fun _ => rfl) ?_
      refine DGG.off c_183 rfl rfl rfl rfl rfl (fun _ => rfl) ?_
      refine DGG.off c_183 rfl rfl rfl rfl rfl (fun _ => rfl) ?_
      refine DGG.off c_183 rfl rfl rfl rfl rfl (fun _ => rfl) ?_
      refine DGG.off c_183 rfl rfl rfl rfl rfl (fun _ => rfl) ?_
      refine DGG.off c_183 rfl rfl rfl rfl rfl (fun _ => rfl) ?_
      refine DGG.off c_183 rfl rfl rfl rfl rfl (fun _ => rfl) ?_
      refine DGG.step (c := fun γ_176 => ⟨some 29, .bool false, [(18, .bool (!v_181))], [], []⟩) [] (fun _ _ _ => rfl) (fun γ_176 t hm => One.step rfl (.free rfl) (OpT.pickF rfl (dl rfl rfl) hm.s0 c_183 rfl ⟨(fun _ => undef, 0), rfl⟩)) (fun γ_176 => Ct.met_of rfl rfl) ?_
      refine DGG.fin (s1 := fun γ_176 => ⟨[(0, .ptr bx0 0), (3, .int .i64 x3_0_6), (19, .tup []), (20, .tup []), (21, .tup []), (22, .tup []), (23, .tup []), (24, .tup []), (25, .tup []), (26, .tup []), (27, .tup []), (28, .tup []), (29, .bool false)], [.box bx0 88 [.d (.str ((r4r.mk y0_0_0 y0_0_1 y0_0_2 y0_0_3 y0_0_4 y0_0_5).s)), .d (.int .i64 ((r4r.mk y0_0_0 y0_0_1 y0_0_2 y0_0_3 y0_0_4 y0_0_5).at_)), .d (.ex ((γ_176 1).1 0)), .d (.int .i64 ((r4r.mk y0_0_0 y0_0_1 y0_0_2 y0_0_3 y0_0_4 y0_0_5).deep)), .d (.int .i64 ((r4r.mk y0_0_0 y0_0_1 y0_0_2 y0_0_3 y0_0_4 y0_0_5).e)), .d (.int .i64 ((r4r.mk y0_0_0 y0_0_1 y0_0_2 y0_0_3 y0_0_4 y0_0_5).where_))], .arrA ((γ_176 1).1 0) 42 9 (((r4r.mk y0_0_0 y0_0_1 y0_0_2 y0_0_3 y0_0_4 y0_0_5).nodes).map c_api_Node)]⟩) (ms := [0, 1, 3, 7, 15, 31, 63, 127, 15, 271, 783, 1807, 4095, 8191, 16383]) TrydMixed rfl (by kernel_rfl) (by kernel_rfl) (by kernel_rfl) (fun γ_176 => by kernel_rfl) (fun γ_176 => .cons rfl (.cons rfl (.cons rfl (.cons rfl (.cons rfl (.cons rfl (.cons rfl (.cons rfl (.cons rfl (.cons rfl (.cons rfl (.cons rfl (.cons rfl (.nil _)))))))))))))) (fun _ => rfl) (fun γ_176 u hu => (thenS_normal (T.by_turn hu ?_)))
      refine T.condF rfl rfl ?_
      refine T.by_turn ?_ (r4r_name_j1_T K bx0 x3_0_6 ((r4r.mk y0_0_0 y0_0_1 y0_0_2 y0_0_3 y0_0_4 y0_0_5).s) ((r4r.mk y0_0_0 y0_0_1 y0_0_2 y0_0_3 y0_0_4 y0_0_5).at_) ((r4r.mk y0_0_0 y0_0_1 y0_0_2 y0_0_3 y0_0_4 y0_0_5).deep) ((r4r.mk y0_0_0 y0_0_1 y0_0_2 y0_0_3 y0_0_4 y0_0_5).e) ((r4r.mk y0_0_0 y0_0_1 y0_0_2 y0_0_3 y0_0_4 y0_0_5).where_) ((r4r.mk y0_0_0 y0_0_1 y0_0_2 y0_0_3 y0_0_4 y0_0_5).nodes) ((γ_176 1).1 0) h)
      exact Turn.rp (.cons rfl (.cons rfl (.nil _))) (.c .z (.c .z (.n _)))

theorem r4r_name_T (K : Nat) {x0 : r4r} {bx0 : Nat} {wx0c2 : Value} {r : Int × r4r} (h : r4r_name K x0 = some r) : CallG Tryd.prog 103 [.ptr bx0 0] [.box bx0 88 [.d (.str x0.s), .d (.int .i64 x0.at_), .d (.ex wx0c2), .d (.int .i64 x0.deep), .d (.int .i64 x0.e), .d (.int .i64 x0.where_)], .arrA wx0c2 42 9 (x0.nodes.map c_api_Node)] (fun γ => (.int .i64 r.1)) (fun γ => [.box bx0 88 [.d (.str r.2.s), .d (.int .i64 r.2.at_), .d (.ex (γ 0)), .d (.int .i64 r.2.deep), .d (.int .i64 r.2.e), .d (.int .i64 r.2.where_)], .arrA (γ 0) 42 9 (r.2.nodes.map c_api_Node)]) := by
  refine CallT.intro Tryd.func103 rfl (Nat.le_of_ble_eq_true rfl) ?_
  show T Tryd.prog 82 (Code.at [] (codeOf Tryd.f103)) ⟨paramSlots 0 [.ptr bx0 0], [.box bx0 88 [.d (.str x0.s), .d (.int .i64 x0.at_), .d (.ex wx0c2), .d (.int .i64 x0.deep), .d (.int .i64 x0.e), .d (.int .i64 x0.where_)], .arrA wx0c2 42 9 (x0.nodes.map c_api_Node)]⟩ (r4r_name_q bx0 r)
  unfold r4r_name at h
  refine T.seq ?_
  refine T.regionL ?_
  refine asg rfl rfl rfl rfl rfl ?_
  refine TL'.nil (thenS_normal ?_)
  refine T.seq ?_
  refine T.regionL ?_
  refine mv rfl rfl rfl rfl rfl ?_
  refine sp rfl (OpT.nilCheck rfl (dl rfl rfl) rfl rfl ?_)
  refine sp rfl (OpT.fieldPtr rfl (dl rfl rfl) Tryd.underlying88 rfl i3 (by decide) rfl ?_)
  refine sp rfl (OpT.loadBox (i := 0) rfl (dl rfl rfl) Tryd.underlying3 rfl rfl rfl rfl ?_)
  refine sp rfl (OpT.int2 rfl rfl (dl rfl rfl) rfl rfl ?_)
  refine sp rfl (OpT.nilCheck rfl (dl rfl rfl) rfl rfl ?_)
  refine sp rfl (OpT.fieldPtr rfl (dl rfl rfl) Tryd.underlying88 rfl i3 (by decide) rfl ?_)
  refine sp rfl (OpT.storeTo (i := 0) (cells' := [.d (.str x0.s), .d (.int .i64 (IntKind.i64.wrap (x0.at_ + (1 : Int)))), .d (.ex wx0c2), .d (.int .i64 x0.deep), .d (.int .i64 x0.e), .d (.int .i64 x0.where_)]) rfl rfl i3 rfl rfl rfl (Nat.le_of_ble_eq_true rfl) rfl ?_)
  refine TL'.nil (thenS_normal ?_)
  refine T.seq ?_
  refine T.regionL ?_
  refine mv rfl rfl rfl rfl rfl ?_
  refine sp rfl (OpT.nilCheck rfl (dl rfl rfl) rfl rfl ?_)
  refine sp rfl (OpT.fieldPtr rfl (dl rfl rfl) Tryd.underlying88 rfl i3 (by decide) rfl ?_)
  refine sp rfl (OpT.loadBox (i := 0) rfl (dl rfl rfl) Tryd.underlying3 rfl rfl rfl rfl ?_)
  refine asg rfl rfl rfl rfl rfl ?_
  refine TL'.nil (thenS_normal ?_)
  refine T.seq ?_
  refine T.block ?_
  refine T.loop ?_
  refine TL.by_turn ?_ (r4r_name_l0_T K bx0 K (IntKind.i64.wrap (x0.at_ + (1 : Int))) x0.s (IntKind.i64.wrap (x0.at_ + (1 : Int))) x0.deep x0.e x0.where_ x0.nodes wx0c2 h)
  exact Turn.rp (.cons rfl (.cons rfl (.nil _))) (.c .z (.c .z (.n _)))

abbrev r1_Not_q (r : Arr4) : Exit → St → Prop := retS Tryd.prog Tryd.f34 (fun y t => y = (.agg (Arr4.dc .u64 r)) ∧ t = [])

abbrev r1_Not_qs111 (r : Arr4) : Exit → St → Prop := thenS (fun s' => T Tryd.prog 20 (Code.at [1, 1, 1] (codeOf Tryd.f34)) s' ((r1_Not_q r))) ((r1_Not_q r))

abbrev r1_Not_qb0x111 (r : Arr4) : Exit → St → Prop := inBlockS 0 ((r1_Not_qs111 r))

theorem r1_Not_l0_T {r : Arr4} (K : Nat) : ∀ (k : Nat), ∀ (x4_0_3 : Int) (x0 : Arr4) (y2_0_1 : Arr4) (y3_0_2 : Arr4) (b1_0 : Nat) (b2_0 : Nat) (b3_0 : Nat), r1_Not_l0 K k x4_0_3 x0 y2_0_1 y3_0_2 = some r → TL Tryd.prog 20 (Code.at [1, 1, 0, 1, 0, 0] (codeOf Tryd.f34)) ⟨[(1, .ptr b1_0 0), (2, .ptr b2_0 0), (3, .ptr b3_0 0), (4, .int .i64 x4_0_3)], [.box b1_0 25 (Arr4.oc .u64 x0), .box b2_0 25 (Arr4.oc .u64 y2_0_1), .box b3_0 25 (Arr4.oc .u64 y3_0_2)]⟩ (r1_Not_qb0x111 r) := by
  intro k
  induction k with
  | zero =>
    intro x4_0_3 x0 y2_0_1 y3_0_2 b1_0 b2_0 b3_0 h
    cases (show (none : Option Arr4) = some r from h)
  | succ k ih =>
    intro x4_0_3 x0 y2_0_1 y3_0_2 b1_0 b2_0 b3_0 h
    rw [r1_Not_l0] at h
    refine TL.round ?_
    refine T.seq ?_
    refine T.seq ?_
    refine T.regionL ?_
    refine mv rfl rfl rfl rfl rfl ?_
    refine sp rfl (OpT.int2 rfl rfl (dl rfl rfl) rfl rfl ?_)
    refine TL'.nil (thenS_normal ?_)
    rcases bif_some h with ⟨c_83, h⟩ | ⟨c_83, h⟩
    · refine T.condT rfl c_83 ?_
      refine T.skip (thenS_normal ?_)
      refine T.seq ?_
      refine T.block ?_
      refine T.seq ?_
      refine T.regionL ?_
      refine sp rfl (OpT.loadBoxAgg (i := 0) (l := (Arr4.dc .u64 x0)) rfl (dl rfl rfl) Tryd.underlying25 rfl i25 rfl rfl rfl rfl ?_)
      refine mv rfl rfl rfl rfl rfl ?_
      refine sp rfl (OpT.convInt rfl (dl rfl rfl) Tryd.underlying3 Tryd.underlying5 rfl ?_)
      obtain ⟨v_84, e_85, h⟩ := bind_some h
      refine sp rfl (OpT.callPA rfl (dl rfl rfl) Tryd.func55 rfl rfl (Args.cons rfl (Args.cons rfl Args.nil)) (CallR.nil (r1_Has_T K e_85)) ?_)
      refine sp rfl (OpT.not rfl (dl rfl rfl) rfl ?_)
      refine TL'.nil (thenS_normal ?_)
      rcases bif_some h with ⟨c_86, h⟩ | ⟨c_86, h⟩
      · refine T.condT rfl c_86 ?_
        refine T.regionL ?_
        refine sp rfl (OpT.loadBoxAgg (i := 2) (l := (Arr4.dc .u64 y3_0_2)) rfl (dl rfl rfl) Tryd.underlying25 rfl i25 rfl rfl rfl rfl ?_)
        refine mv rfl rfl rfl rfl rfl ?_
        refine sp rfl (OpT.convInt rfl (dl rfl rfl) Tryd.underlying3 Tryd.underlying5 rfl ?_)
        obtain ⟨v_87, e_88, h⟩ := bind_some h
        refine sp rfl (OpT.callPA rfl (dl rfl rfl) Tryd.func41 rfl rfl (Args.cons rfl (Args.cons rfl Args.nil)) (CallR.nil (r1_with_T K e_88)) ?_)
        refine sp rfl (OpT.storeAggTo (i := 2) (cells' := (Arr4.oc .u64 v_87)) rfl rfl i25 rfl rfl rfl rfl (Nat.le_of_ble_eq_true rfl) rfl ?_)
        refine TL'.nil (inBlock_normal (thenS_normal ?_))
        refine T.regionL ?_
        refine mv rfl rfl rfl rfl rfl ?_
        refine sp rfl (OpT.int2 rfl rfl (dl rfl rfl) rfl rfl ?_)
        refine asg rfl rfl rfl rfl rfl ?_
        refine TL'.nil (thenS_normal ?_)
        refine TL.by_turn ?_ (ih (IntKind.i64.wrap (x4_0_3 + (1 : Int))) x0 y2_0_1 v_87 b1_0 b2_0 b3_0 h)
        exact Turn.rp (.cons rfl (.cons rfl (.cons rfl (.cons rfl (.nil _))))) (.c .z (.c .z (.c .z (.n _))))
      · refine T.condF rfl c_86 ?_
        refine T.skip (inBlock_normal (thenS_normal ?_))
        refine T.regionL ?_
        refine mv rfl rfl rfl rfl rfl ?_
        refine sp rfl (OpT.int2 rfl rfl (dl rfl rfl) rfl rfl ?_)
        refine asg rfl rfl rfl rfl rfl ?_
        refine TL'.nil (thenS_normal ?_)
        refine TL.by_turn ?_ (ih (IntKind.i64.wrap (x4_0_3 + (1 : Int))) x0 y2_0_1 y3_0_2 b1_0 b2_0 b3_0 h)
        exact Turn.rp (.cons rfl (.cons rfl (.cons rfl (.cons rfl (.nil _))))) (.c .z (.c .z (.c .z (.n _))))
    · refine T.condF rfl c_83 ?_
      refine T.exit (thenS_exit (thenS_exit (inBlock_exit (thenS_normal ?_))))
      refine T.seq ?_
      refine T.regionL ?_
      refine sp rfl (OpT.loadBoxAgg (i := 2) (l := (Arr4.dc .u64 y3_0_2)) rfl (dl rfl rfl) Tryd.underlying25 rfl i25 rfl rfl rfl rfl ?_)
      refine sp rfl (OpT.storeAggTo (i := 1) (cells' := (Arr4.oc .u64 y3_0_2)) rfl rfl i25 rfl rfl rfl rfl (Nat.le_of_ble_eq_true rfl) rfl ?_)
      refine TL'.nil (thenS_normal ?_)
      refine T.ret ?_
      exact Fin.done (.cons _ _ _ _ (.cellAgg 2 25 _ 0 1 25 _ (Arr4.dc .u64 y3_0_2) _ _ 4 _ rfl rfl rfl rfl Tryd.underlying25 rfl i25) .nil) (by cases h; exact ⟨rfl, rfl⟩)

theorem r1_Not_T (K : Nat) {x0 : Arr4} {r : Arr4} (h : r1_Not K x0 = some r) : CallR Tryd.prog 34 [.agg (Arr4.dc .u64 x0)] [] (.agg (Arr4.dc .u64 r)) := by
  refine CallT.intro Tryd.func34 rfl (Nat.le_of_ble_eq_true rfl) ?_
  show T Tryd.prog 20 (Code.at [] (codeOf Tryd.f34)) ⟨paramSlots 0 [.agg (Arr4.dc .u64 x0)], []⟩ (r1_Not_q r)
  unfold r1_Not at h
  refine T.seq ?_
  refine T.regionL ?_
  refine sp rfl (OpT.boxAgg rfl (dl rfl rfl) rfl (fun b_80 => ?_))
  refine sp rfl (OpT.alloc' rfl (dl rfl rfl) i25 rfl (fun b_81 => ?_))
  refine TL'.nil (thenS_normal ?_)
  refine T.seq ?_
  refine T.regionL ?_
  refine sp rfl (OpT.build (l := (Arr4.dc .u64 (Arr4.mk 0 0 0 0))) rfl (dl rfl rfl) (built_arr Tryd.underlying25 i25 i23) (all1 rfl) rfl rfl ?_)
  refine sp rfl (OpT.alloc' rfl (dl rfl rfl) i25 rfl (fun b_82 => ?_))
  refine sp rfl (OpT.storeAggTo (i := 0) (cells' := (Arr4.oc .u64 (Arr4.mk 0 0 0 0))) rfl rfl i25 rfl rfl rfl rfl (Nat.le_of_ble_eq_true rfl) rfl ?_)
  refine TL'.nil (thenS_normal ?_)
  refine T.seq ?_
  refine T.seq ?_
  refine T.regionL ?_
  refine asg rfl rfl rfl rfl rfl ?_
  refine TL'.nil (thenS_normal ?_)
  refine T.block ?_
  refine T.loop ?_
  refine TL.by_turn ?_ (r1_Not_l0_T K K (0 : Int) x0 (Arr4.mk 0 0 0 0) (Arr4.mk 0 0 0 0) b_80 b_81 b_82 h)
  exact Turn.rp (.cons rfl (.cons rfl (.cons rfl (.cons rfl (.nil _))))) (.c (.s (.s .z)) (.c (.s .z) (.c .z (.n _))))

abbrev r1_Or_q (r : Arr4) : Exit → St → Prop := retS Tryd.prog Tryd.f115 (fun y t => y = (.agg (Arr4.dc .u64 r)) ∧ t = [])

abbrev r1_Or_qs111 (r : Arr4) : Exit → St → Prop := thenS (fun s' => T Tryd.prog 29 (Code.at [1, 1, 1] (codeOf Tryd.f115)) s' ((r1_Or_q r))) ((r1_Or_q r))

abbrev r1_Or_qb0x111 (r : Arr4) : Exit → St → Prop := inBlockS 0 ((r1_Or_qs111 r))

abbrev r1_Or_ql11010 (r : Arr4) : Exit → St → Prop := thenS (fun s' => TL Tryd.prog 29 (Code.at [1, 1, 0, 1, 0, 0] (codeOf Tryd.f115)) s' ((r1_Or_qb0x111 r))) ((r1_Or_qb0x111 r))

abbrev r1_Or_qs11010011 (r : Arr4) : Exit → St → Prop := thenS (fun s' => T Tryd.prog 29 (Code.at [1, 1, 0, 1, 0, 0, 1, 1] (codeOf Tryd.f115)) s' ((r1_Or_ql11010 r))) ((r1_Or_ql11010 r))

abbrev r1_Or_qb1_0x11010011 (r : Arr4) : Exit → St → Prop := inBlockS 1 ((r1_Or_qs11010011 r))

abbrev r1_Or_qb2_1_0x11010011 (r : Arr4) : Exit → St → Prop := inBlockS 2 ((r1_Or_qb1_0x11010011 r))

abbrev r1_Or_l0_H (r : Arr4) (go : (List Arr4) → Int → Arr4 → Arr4 → Option Arr4) : Prop := ∀ (x0 : List Arr4) (x4_0_3 : Int) (y2_0_1 : Arr4) (y3_0_2 : Arr4) (flx0 : Bool) (b2_0 : Nat) (b3_0 : Nat), go x0 x4_0_3 y2_0_1 y3_0_2 = some r → TL Tryd.prog 29 (Code.at [1, 1, 0, 1, 0, 0] (codeOf Tryd.f115)) ⟨[(0, .sl flx0 4 (x0.map (Arr4.dc .u64))), (2, .ptr b2_0 0), (3, .ptr b3_0 0), (4, .int .i64 x4_0_3)], [.box b2_0 25 (Arr4.oc .u64 y2_0_1), .box b3_0 25 (Arr4.oc .u64 y3_0_2)]⟩ (r1_Or_qb0x111 r)

theorem r1_Or_l1_T {r : Arr4} (K : Nat) (go0 : (List Arr4) → Int → Arr4 → Arr4 → Option Arr4) (hgo0 : r1_Or_l0_H r go0) : ∀ (k : Nat), ∀ (x0 : List Arr4) (x4_1_3 : Int) (x5_1_4 : Int) (y2_0_1 : Arr4) (y3_1_2 : Arr4) (flx0 : Bool) (b2_1 : Nat) (b3_1 : Nat), r1_Or_l1 K go0 k x0 x4_1_3 x5_1_4 y2_0_1 y3_1_2 = some r → TL Tryd.prog 29 (Code.at [1, 1, 0, 1, 0, 0, 1, 0, 0, 1, 0, 0] (codeOf Tryd.f115)) ⟨[(0, .sl flx0 4 (x0.map (Arr4.dc .u64))), (2, .ptr b2_1 0), (3, .ptr b3_1 0), (4, .int .i64 x4_1_3), (5, .int .i64 x5_1_4)], [.box b2_1 25 (Arr4.oc .u64 y2_0_1), .box b3_1 25 (Arr4.oc .u64 y3_1_2)]⟩ (r1_Or_qb2_1_0x11010011 r) := by
  intro k
  induction k with
  | zero =>
    intro x0 x4_1_3 x5_1_4 y2_0_1 y3_1_2 flx0 b2_1 b3_1 h
    cases (show (none : Option Arr4) = some r from h)
  | succ k ih =>
    intro x0 x4_1_3 x5_1_4 y2_0_1 y3_1_2 flx0 b2_1 b3_1 h
    rw [r1_Or_l1] at h
    refine TL.round ?_
    refine T.seq ?_
    refine T.seq ?_
    refine T.regionL ?_
    refine mv rfl rfl rfl rfl rfl ?_
    refine mv rfl rfl rfl rfl rfl ?_
    refine sp rfl (OpT.lenSlM (xs := x0) (f := (Arr4.dc .u64)) rfl (dl rfl rfl) Tryd.underlying123 rfl ?_)
    refine sp rfl (OpT.int2 rfl rfl (dl rfl rfl) rfl rfl ?_)
    refine TL'.nil (thenS_normal ?_)
    rcases bif_some h with ⟨c_145, h⟩ | ⟨c_145, h⟩
    · refine T.condT rfl c_145 ?_
      refine T.skip (thenS_normal ?_)
      refine T.seq ?_
      refine T.block ?_
      refine T.seq ?_
      refine T.regionL ?_
      refine mv rfl rfl rfl rfl rfl ?_
      refine mv rfl rfl rfl rfl rfl ?_
      obtain ⟨v_146, e_147, h⟩ := bind_some h
      refine sp rfl (OpT.indexSlM (xs := x0) (f := (Arr4.dc .u64)) (v := v_146) rfl (dl rfl rfl) Tryd.underlying123 i25 rfl rfl e_147 ?_)
      refine sp rfl (OpT.loadRefAgg rfl (dl rfl rfl) Tryd.underlying25 rfl i25 rfl (Nat.le_of_ble_eq_true rfl) ?_)
      refine mv rfl rfl rfl rfl rfl ?_
      refine sp rfl (OpT.convInt rfl (dl rfl rfl) Tryd.underlying3 Tryd.underlying5 rfl ?_)
      obtain ⟨v_148, e_149, h⟩ := bind_some h
      refine sp rfl (OpT.callPA rfl (dl rfl rfl) Tryd.func55 rfl rfl (Args.cons rfl (Args.cons rfl Args.nil)) (CallR.nil (r1_Has_T K e_149)) ?_)
      refine TL'.nil (thenS_normal ?_)
      rcases bif_some h with ⟨c_150, h⟩ | ⟨c_150, h⟩
      · refine T.condT rfl c_150 ?_
        refine T.regionL ?_
        refine sp rfl (OpT.loadBoxAgg (i := 1) (l := (Arr4.dc .u64 y3_1_2)) rfl (dl rfl rfl) Tryd.underlying25 rfl i25 rfl rfl rfl rfl ?_)
        refine mv rfl rfl rfl rfl rfl ?_
        refine sp rfl (OpT.convInt rfl (dl rfl rfl) Tryd.underlying3 Tryd.underlying5 rfl ?_)
        obtain ⟨v_151, e_152, h⟩ := bind_some h
        refine sp rfl (OpT.callPA rfl (dl rfl rfl) Tryd.func41 rfl rfl (Args.cons rfl (Args.cons rfl Args.nil)) (CallR.nil (r1_with_T K e_152)) ?_)
        refine sp rfl (OpT.storeAggTo (i := 1) (cells' := (Arr4.oc .u64 v_151)) rfl rfl i25 rfl rfl rfl rfl (Nat.le_of_ble_eq_true rfl) rfl ?_)
        refine TL'.nil (inBlock_normal (thenS_normal ?_))
        refine T.regionL ?_
        refine mv rfl rfl rfl rfl rfl ?_
        refine sp rfl (OpT.int2 rfl rfl (dl rfl rfl) rfl rfl ?_)
        refine asg rfl rfl rfl rfl rfl ?_
        refine TL'.nil (thenS_normal ?_)
        refine TL.by_turn ?_ (ih x0 x4_1_3 (IntKind.i64.wrap (x5_1_4 + (1 : Int))) y2_0_1 v_151 flx0 b2_1 b3_1 h)
        exact Turn.rp (.cons rfl (.cons rfl (.cons rfl (.cons rfl (.cons rfl (.nil _)))))) (.c .z (.c .z (.n _)))
      · refine T.condF rfl c_150 ?_
        refine T.skip (inBlock_normal (thenS_normal ?_))
        refine T.regionL ?_
        refine mv rfl rfl rfl rfl rfl ?_
        refine sp rfl (OpT.int2 rfl rfl (dl rfl rfl) rfl rfl ?_)
        refine asg rfl rfl rfl rfl rfl ?_
        refine TL'.nil (thenS_normal ?_)
        refine TL.by_turn ?_ (ih x0 x4_1_3 (IntKind.i64.wrap (x5_1_4 + (1 : Int))) y2_0_1 y3_1_2 flx0 b2_1 b3_1 h)
        exact Turn.rp (.cons rfl (.cons rfl (.cons rfl (.cons rfl (.cons rfl (.nil _)))))) (.c .z (.c .z (.n _)))
    · refine T.condF rfl c_145 ?_
      refine T.exit (thenS_exit (thenS_exit (inBlock_exit (inBlock_normal (thenS_normal ?_)))))
      refine T.regionL ?_
      refine mv rfl rfl rfl rfl rfl ?_
      refine sp rfl (OpT.int2 rfl rfl (dl rfl rfl) rfl rfl ?_)
      refine asg rfl rfl rfl rfl rfl ?_
      refine TL'.nil (thenS_normal ?_)
      refine TL.by_turn ?_ (hgo0 x0 (IntKind.i64.wrap (x4_1_3 + (1 : Int))) y2_0_1 y3_1_2 flx0 b2_1 b3_1 h)
      exact Turn.rp (.cons rfl (.cons rfl (.cons rfl (.cons rfl (.nil _))))) (.c .z (.c .z (.n _)))

theorem r1_Or_l0_T {r : Arr4} (K : Nat) : ∀ (k : Nat), ∀ (x0 : List Arr4) (x4_0_3 : Int) (y2_0_1 : Arr4) (y3_0_2 : Arr4) (flx0 : Bool) (b2_0 : Nat) (b3_0 : Nat), r1_Or_l0 K k x0 x4_0_3 y2_0_1 y3_0_2 = some r → TL Tryd.prog 29 (Code.at [1, 1, 0, 1, 0, 0] (codeOf Tryd.f115)) ⟨[(0, .sl flx0 4 (x0.map (Arr4.dc .u64))), (2, .ptr b2_0 0), (3, .ptr b3_0 0), (4, .int .i64 x4_0_3)], [.box b2_0 25 (Arr4.oc .u64 y2_0_1), .box b3_0 25 (Arr4.oc .u64 y3_0_2)]⟩ (r1_Or_qb0x111 r) := by
  intro k
  induction k with
  | zero =>
    intro x0 x4_0_3 y2_0_1 y3_0_2 flx0 b2_0 b3_0 h
    cases (show (none : Option Arr4) = some r from h)
  | succ k ih =>
    intro x0 x4_0_3 y2_0_1 y3_0_2 flx0 b2_0 b3_0 h
    rw [r1_Or_l0] at h
    refine TL.round ?_
    refine T.seq ?_
    refine T.seq ?_
    refine T.regionL ?_
    refine mv rfl rfl rfl rfl rfl ?_
    refine sp rfl (OpT.int2 rfl rfl (dl rfl rfl) rfl rfl ?_)
    refine TL'.nil (thenS_normal ?_)
    rcases bif_some h with ⟨c_144, h⟩ | ⟨c_144, h⟩
    · refine T.condT rfl c_144 ?_
      refine T.skip (thenS_normal ?_)
      refine T.seq ?_
      refine T.block ?_
      refine T.seq ?_
      refine T.regionL ?_
      refine asg rfl rfl rfl rfl rfl ?_
      refine TL'.nil (thenS_normal ?_)
      refine T.block ?_
      refine T.loop ?_
      refine TL.by_turn ?_ (r1_Or_l1_T K (r1_Or_l0 K k) ih K x0 x4_0_3 (0 : Int) y2_0_1 y3_0_2 flx0 b2_0 b3_0 h)
      exact Turn.rp (.cons rfl (.cons rfl (.cons rfl (.cons rfl (.cons rfl (.nil _)))))) (.c .z (.c .z (.n _)))
    · refine T.condF rfl c_144 ?_
      refine T.exit (thenS_exit (thenS_exit (inBlock_exit (thenS_normal ?_))))
      refine T.seq ?_
      refine T.regionL ?_
      refine sp rfl (OpT.loadBoxAgg (i := 1) (l := (Arr4.dc .u64 y3_0_2)) rfl (dl rfl rfl) Tryd.underlying25 rfl i25 rfl rfl rfl rfl ?_)
      refine sp rfl (OpT.storeAggTo (i := 0) (cells' := (Arr4.oc .u64 y3_0_2)) rfl rfl i25 rfl rfl rfl rfl (Nat.le_of_ble_eq_true rfl) rfl ?_)
      refine TL'.nil (thenS_normal ?_)
      refine T.ret ?_
      exact Fin.done (.cons _ _ _ _ (.cellAgg 2 25 _ 0 0 25 _ (Arr4.dc .u64 y3_0_2) _ _ 4 _ rfl rfl rfl rfl Tryd.underlying25 rfl i25) .nil) (by cases h; exact ⟨rfl, rfl⟩)

theorem r1_Or_T (K : Nat) {x0 : List Arr4} {flx0 : Bool} {r : Arr4} (h : r1_Or K x0 = some r) : CallR Tryd.prog 115 [.sl flx0 4 (x0.map (Arr4.dc .u64))] [] (.agg (Arr4.dc .u64 r)) := by
  refine CallT.intro Tryd.func115 rfl (Nat.le_of_ble_eq_true rfl) ?_
  show T Tryd.prog 29 (Code.at [] (codeOf Tryd.f115)) ⟨paramSlots 0 [.sl flx0 4 (x0.map (Arr4.dc .u64))], []⟩ (r1_Or_q r)
  unfold r1_Or at h
  refine T.seq ?_
  refine T.regionL ?_
  refine sp rfl (OpT.alloc' rfl (dl rfl rfl) i25 rfl (fun b_142 => ?_))
  refine TL'.nil (thenS_normal ?_)
  refine T.seq ?_
  refine T.regionL ?_
  refine sp rfl (OpT.build (l := (Arr4.dc .u64 (Arr4.mk 0 0 0 0))) rfl (dl rfl rfl) (built_arr Tryd.underlying25 i25 i23) (all1 rfl) rfl rfl ?_)
  refine sp rfl (OpT.alloc' rfl (dl rfl rfl) i25 rfl (fun b_143 => ?_))
  refine sp rfl (OpT.storeAggTo (i := 0) (cells' := (Arr4.oc .u64 (Arr4.mk 0 0 0 0))) rfl rfl i25 rfl rfl rfl rfl (Nat.le_of_ble_eq_true rfl) rfl ?_)
  refine TL'.nil (thenS_normal ?_)
  refine T.seq ?_
  refine T.seq ?_
  refine T.regionL ?_
  refine asg rfl rfl rfl rfl rfl ?_
  refine TL'.nil (thenS_normal ?_)
  refine T.block ?_
  refine T.loop ?_
  refine TL.by_turn ?_ (r1_Or_l0_T K K x0 (0 : Int) (Arr4.mk 0 0 0 0) (Arr4.mk 0 0 0 0) flx0 b_142 b_143 h)
  exact Turn.rp (.cons rfl (.cons rfl (.cons rfl (.cons rfl (.nil _))))) (.c (.s .z) (.c .z (.n _)))

abbrev r4r_member_q (bx0 : Nat) (r : Int × r4r) : Exit → St → Prop := retS Tryd.prog Tryd.f113 (fun y t => ∃ γ : Nat → Value, y = (.int .u8 r.1) ∧ t = [.box bx0 88 [.d (.str r.2.s), .d (.int .i64 r.2.at_), .d (.ex (γ 0)), .d (.int .i64 r.2.deep), .d (.int .i64 r.2.e), .d (.int .i64 r.2.where_)], .arrA (γ 0) 42 9 (r.2.nodes.map c_api_Node)])

theorem r4r_member_T (K : Nat) {x0 : r4r} {bx0 : Nat} {wx0c2 : Value} {r : Int × r4r} (h : r4r_member K x0 = some r) : CallG Tryd.prog 113 [.ptr bx0 0] [.box bx0 88 [.d (.str x0.s), .d (.int .i64 x0.at_), .d (.ex wx0c2), .d (.int .i64 x0.deep), .d (.int .i64 x0.e), .d (.int .i64 x0.where_)], .arrA wx0c2 42 9 (x0.nodes.map c_api_Node)] (fun γ => (.int .u8 r.1)) (fun γ => [.box bx0 88 [.d (.str r.2.s), .d (.int .i64 r.2.at_), .d (.ex (γ 0)), .d (.int .i64 r.2.deep), .d (.int .i64 r.2.e), .d (.int .i64 r.2.where_)], .arrA (γ 0) 42 9 (r.2.nodes.map c_api_Node)]) := by
  refine CallT.intro Tryd.func113 rfl (Nat.le_of_ble_eq_true rfl) ?_
  show T Tryd.prog 30 (Code.at [] (codeOf Tryd.f113)) ⟨paramSlots 0 [.ptr bx0 0], [.box bx0 88 [.d (.str x0.s), .d (.int .i64 x0.at_), .d (.ex wx0c2), .d (.int .i64 x0.deep), .d (.int .i64 x0.e), .d (.int .i64 x0.where_)], .arrA wx0c2 42 9 (x0.nodes.map c_api_Node)]⟩ (r4r_member_q bx0 r)
  unfold r4r_member at h
  refine T.seq ?_
  refine T.regionL ?_
  refine asg rfl rfl rfl rfl rfl ?_
  refine TL'.nil (thenS_normal ?_)
  refine T.seq ?_
  refine T.seq ?_
  refine T.regionL ?_
  refine mv rfl rfl rfl rfl rfl ?_
  obtain ⟨v_85, e_86, h⟩ := bind_some h
  refine sp rfl (OpT.callG (is := [0, 1]) (ph := []) rfl (dl rfl rfl) Tryd.func49 rfl rfl (Args.cons rfl Args.nil) (r4r_ends_T K (bx0 := bx0) (wx0c2 := wx0c2) e_86) (.cons rfl rfl (.cons rfl rfl (.nil))) (fun _ => rfl) (fun γ_87 => ?_))
  refine nm (.c (.c (.n))) ?_
  refine TL'.nil (thenS_normal ?_)
  rcases bif_some h with ⟨c_88, h⟩ | ⟨c_88, h⟩
  · refine T.condT rfl c_88 ?_
    refine T.seq ?_
    refine T.regionL ?_
    refine mv rfl rfl rfl rfl rfl ?_
    refine mv rfl rfl rfl rfl rfl ?_
    refine sp rfl (OpT.nilCheck rfl (dl rfl rfl) rfl rfl ?_)
    refine sp rfl (OpT.fieldPtr rfl (dl rfl rfl) Tryd.underlying88 rfl i9 (by decide) rfl ?_)
    refine sp rfl (OpT.loadBox (i := 0) rfl (dl rfl rfl) Tryd.underlying9 rfl rfl rfl rfl ?_)
    refine sp rfl (OpT.lenStr rfl (dl rfl rfl) Tryd.underlying9 rfl ?_)
    obtain ⟨v_89, e_90, h⟩ := bind_some h
    refine sp rfl (OpT.callG (is := [0, 1]) (ph := []) rfl (dl rfl rfl) Tryd.func50 rfl rfl (Args.cons rfl (Args.cons rfl (Args.cons rfl Args.nil))) (r4r_fail_T K (bx0 := bx0) (wx0c2 := (γ_87 0)) e_90) (.cons rfl rfl (.cons rfl rfl (.nil))) (fun _ => rfl) (fun γ_91 => ?_))
    refine nm (.c (.c (.n))) ?_
    refine TL'.nil (thenS_normal ?_)
    refine T.seq ?_
    refine T.regionL ?_
    refine asg rfl rfl rfl rfl rfl ?_
    refine TL'.nil (thenS_normal ?_)
    refine T.ret (thenS_ret ?_)
    exact Fin.doneK (.cons _ _ _ _ (.tmp 2 _ rfl) .nil) (.cons 0 rfl (.cons 0 rfl (.nil _))) (by cases h; exact ⟨gl [γ_91 0], rfl, rfl⟩)
  · refine T.condF rfl c_88 ?_
    refine T.skip (thenS_normal ?_)
    refine T.seq ?_
    refine T.seq ?_
    refine DG.start ?_
    refine DG.mv rfl rfl rfl rfl rfl rfl ?_
    refine DG.step (c := ⟨some 13, .ptr bx0 0, [(12, .ptr bx0 0)], [], []⟩) (fun t hm => One.step rfl (.free rfl) (OpT.nilCheck rfl (dl rfl rfl) hm.s0 rfl rfl)) (Ct.met_of rfl rfl) ?_
    refine DG.step (c := ⟨some 14, .ptr bx0 (0 + 0), [(13, .ptr bx0 0)], [], []⟩) (fun t hm => One.step rfl (.free rfl) (OpT.fieldPtr rfl (dl rfl rfl) Tryd.underlying88 rfl i9 (by decide) hm.s0 rfl)) (Ct.met_of rfl rfl) ?_
    refine DG.step (c := ⟨some 15, .str x0.s, [(14, .ptr bx0 (0 + 0))], [(0, .box bx0 88 [.d (.str x0.s), .d (.int .i64 x0.at_), .d (.ex (γ_87 0)), .d (.int .i64 x0.deep), .d (.int .i64 x0.e), .d (.int .i64 x0.where_)])], []⟩) (fun t hm => One.step rfl (.free rfl) (OpT.loadBox (i := 0) rfl (dl rfl rfl) Tryd.underlying9 rfl hm.s0 hm.o0 rfl rfl)) (Ct.met_of rfl rfl) ?_
    refine DG.mv rfl rfl rfl rfl rfl rfl ?_
    refine DG.step (c := ⟨some 17, .ptr bx0 0, [(16, .ptr bx0 0)], [], []⟩) (fun t hm => One.step rfl (.free rfl) (OpT.nilCheck rfl (dl rfl rfl) hm.s0 rfl rfl)) (Ct.met_of rfl rfl) ?_
    refine DG.step (c := ⟨some 18, .ptr bx0 (0 + 1), [(17, .ptr bx0 0)], [], []⟩) (fun t hm => One.step rfl (.free rfl) (OpT.fieldPtr rfl (dl rfl rfl) Tryd.underlying88 rfl i3 (by decide) hm.s0 rfl)) (Ct.met_of rfl rfl) ?_
    refine DG.step (c := ⟨some 19, .int .i64 x0.at_, [(18, .ptr bx0 (0 + 1))], [(0, .box bx0 88 [.d (.str x0.s), .d (.int .i64 x0.at_), .d (.ex (γ_87 0)), .d (.int .i64 x0.deep), .d (.int .i64 x0.e), .d (.int .i64 x0.where_)])], []⟩) (fun t hm => One.step rfl (.free rfl) (OpT.loadBox (i := 0) rfl (dl rfl rfl) Tryd.underlying3 rfl hm.s0 hm.o0 rfl rfl)) (Ct.met_of rfl rfl) ?_
    obtain ⟨g_96, h⟩ := ck_some h
    refine DG.step (c := ⟨some 20, .int .u8 (bt x0.s x0.at_), [(15, .str x0.s), (19, .int .i64 x0.at_)], [], []⟩) (fun t hm => One.step rfl (.free rfl) (OpT.indexStr rfl (dl rfl rfl) Tryd.underlying9 hm.s0 hm.s1 g_96.1 g_96.2 rfl)) (Ct.met_of rfl rfl) ?_
    obtain ⟨v_97, e_98, h⟩ := bind_some h
    refine DG.step (c := ⟨some 21, .bool v_97, [(20, .int .u8 (bt x0.s x0.at_))], [], []⟩) (fun t hm => One.step rfl (.free rfl) (OpT.callPA rfl (dl rfl rfl) Tryd.func104 rfl rfl (Args.cons hm.s0 (Args.cons rfl Args.nil)) (CallR.nil (r4_in_T K e_98)) rfl)) (Ct.met_of rfl rfl) ?_
    refine DG.fin (s1 := ⟨[(0, .ptr bx0 0), (21, .bool v_97)], [.box bx0 88 [.d (.str x0.s), .d (.int .i64 x0.at_), .d (.ex (γ_87 0)), .d (.int .i64 x0.deep), .d (.int .i64 x0.e), .d (.int .i64 x0.where_)], .arrA (γ_87 0) 42 9 (x0.nodes.map c_api_Node)]⟩) (ms := [0, 1, 3, 7, 0, 16, 48, 112, 255, 511]) TrydMixed rfl (by kernel_rfl) (by kernel_rfl) (by kernel_rfl) (.cons rfl (.cons rfl (.nil _))) rfl (fun u hu => (thenS_normal (T.by_turn hu ?_)))
    rcases bif_some h with ⟨c_99, h⟩ | ⟨c_99, h⟩
    · refine T.condT rfl c_99 ?_
      refine T.seq ?_
      refine T.regionL ?_
      refine mv rfl rfl rfl rfl rfl ?_
      refine mv rfl rfl rfl rfl rfl ?_
      refine sp rfl (OpT.nilCheck rfl (dl rfl rfl) rfl rfl ?_)
      refine sp rfl (OpT.fieldPtr rfl (dl rfl rfl) Tryd.underlying88 rfl i3 (by decide) rfl ?_)
      refine sp rfl (OpT.loadBox (i := 0) rfl (dl rfl rfl) Tryd.underlying3 rfl rfl rfl rfl ?_)
      obtain ⟨v_100, e_101, h⟩ := bind_some h
      refine sp rfl (OpT.callG (is := [0, 1]) (ph := []) rfl (dl rfl rfl) Tryd.func50 rfl rfl (Args.cons rfl (Args.cons rfl (Args.cons rfl Args.nil))) (r4r_fail_T K (bx0 := bx0) (wx0c2 := (γ_87 0)) e_101) (.cons rfl rfl (.cons rfl rfl (.nil))) (fun _ => rfl) (fun γ_102 => ?_))
      refine nm (.c (.c (.n))) ?_
      refine TL'.nil (thenS_normal ?_)
      refine T.seq ?_
      refine T.regionL ?_
      refine asg rfl rfl rfl rfl rfl ?_
      refine TL'.nil (thenS_normal ?_)
      refine T.ret (thenS_ret ?_)
      exact Fin.doneK (.cons _ _ _ _ (.tmp 2 _ rfl) .nil) (.cons 0 rfl (.cons 0 rfl (.nil _))) (by cases h; exact ⟨gl [γ_102 0], rfl, rfl⟩)
    · refine T.condF rfl c_99 ?_
      refine T.skip (thenS_normal ?_)
      refine T.seq ?_
      refine T.regionL ?_
      refine mv rfl rfl rfl rfl rfl ?_
      obtain ⟨v_103, e_104, h⟩ := bind_some h
      refine sp rfl (OpT.callG (is := [0, 1]) (ph := []) rfl (dl rfl rfl) Tryd.func106 rfl rfl (Args.cons rfl Args.nil) (r4r_one_T K (bx0 := bx0) (wx0c2 := (γ_87 0)) e_104) (.cons rfl rfl (.cons rfl rfl (.nil))) (fun _ => rfl) (fun γ_105 => ?_))
      refine nm (.c (.c (.n))) ?_
      refine asg rfl rfl rfl rfl rfl ?_
      refine TL'.nil (thenS_normal ?_)
      refine T.ret ?_
      exact Fin.doneK (.cons _ _ _ _ (.tmp 2 _ rfl) .nil) (.cons 0 rfl (.cons 0 rfl (.nil _))) (by cases h; exact ⟨gl [γ_105 0], rfl, rfl⟩)

abbrev r1_Range_q (r : Arr4) : Exit → St → Prop := retS Tryd.prog Tryd.f114 (fun y t => y = (.agg (Arr4.dc .u64 r)) ∧ t = [])

abbrev r1_Range_qs111 (r : Arr4) : Exit → St → Prop := thenS (fun s' => T Tryd.prog 21 (Code.at [1, 1, 1] (codeOf Tryd.f114)) s' ((r1_Range_q r))) ((r1_Range_q r))

abbrev r1_Range_qb0x111 (r : Arr4) : Exit → St → Prop := inBlockS 0 ((r1_Range_qs111 r))

theorem r1_Range_l0_T {r : Arr4} (K : Nat) : ∀ (k : Nat), ∀ (x1 : Int) (x6_0_3 : Int) (y4_0_1 : Arr4) (y5_0_2 : Arr4) (b4_0 : Nat) (b5_0 : Nat), r1_Range_l0 K k x1 x6_0_3 y4_0_1 y5_0_2 = some r → TL Tryd.prog 21 (Code.at [1, 1, 0, 1, 0, 0] (codeOf Tryd.f114)) ⟨[(1, .int .u8 x1), (4, .ptr b4_0 0), (5, .ptr b5_0 0), (6, .int .i64 x6_0_3)], [.box b4_0 25 (Arr4.oc .u64 y4_0_1), .box b5_0 25 (Arr4.oc .u64 y5_0_2)]⟩ (r1_Range_qb0x111 r) := by
  intro k
  induction k with
  | zero =>
    intro x1 x6_0_3 y4_0_1 y5_0_2 b4_0 b5_0 h
    cases (show (none : Option Arr4) = some r from h)
  | succ k ih =>
    intro x1 x6_0_3 y4_0_1 y5_0_2 b4_0 b5_0 h
    rw [r1_Range_l0] at h
    refine TL.round ?_
    refine T.seq ?_
    refine T.seq ?_
    refine T.regionL ?_
    refine mv rfl rfl rfl rfl rfl ?_
    refine mv rfl rfl rfl rfl rfl ?_
    refine sp rfl (OpT.convInt rfl (dl rfl rfl) Tryd.underlying5 Tryd.underlying3 rfl ?_)
    refine sp rfl (OpT.int2 rfl rfl (dl rfl rfl) rfl rfl ?_)
    refine TL'.nil (thenS_normal ?_)
    rcases bif_some h with ⟨c_28, h⟩ | ⟨c_28, h⟩
    · refine T.condT rfl c_28 ?_
      refine T.skip (thenS_normal ?_)
      refine T.seq ?_
      refine T.block ?_
      refine T.regionL ?_
      refine sp rfl (OpT.loadBoxAgg (i := 1) (l := (Arr4.dc .u64 y5_0_2)) rfl (dl rfl rfl) Tryd.underlying25 rfl i25 rfl rfl rfl rfl ?_)
      refine mv rfl rfl rfl rfl rfl ?_
      refine sp rfl (OpT.convInt rfl (dl rfl rfl) Tryd.underlying3 Tryd.underlying5 rfl ?_)
      obtain ⟨v_29, e_30, h⟩ := bind_some h
      refine sp rfl (OpT.callPA rfl (dl rfl rfl) Tryd.func41 rfl rfl (Args.cons rfl (Args.cons rfl Args.nil)) (CallR.nil (r1_with_T K e_30)) ?_)
      refine sp rfl (OpT.storeAggTo (i := 1) (cells' := (Arr4.oc .u64 v_29)) rfl rfl i25 rfl rfl rfl rfl (Nat.le_of_ble_eq_true rfl) rfl ?_)
      refine TL'.nil (inBlock_normal (thenS_normal ?_))
      refine T.regionL ?_
      refine mv rfl rfl rfl rfl rfl ?_
      refine sp rfl (OpT.int2 rfl rfl (dl rfl rfl) rfl rfl ?_)
      refine asg rfl rfl rfl rfl rfl ?_
      refine TL'.nil (thenS_normal ?_)
      refine TL.by_turn ?_ (ih x1 (IntKind.i64.wrap (x6_0_3 + (1 : Int))) y4_0_1 v_29 b4_0 b5_0 h)
      exact Turn.rp (.cons rfl (.cons rfl (.cons rfl (.cons rfl (.nil _))))) (.c .z (.c .z (.n _)))
    · refine T.condF rfl c_28 ?_
      refine T.exit (thenS_exit (thenS_exit (inBlock_exit (thenS_normal ?_))))
      refine T.seq ?_
      refine T.regionL ?_
      refine sp rfl (OpT.loadBoxAgg (i := 1) (l := (Arr4.dc .u64 y5_0_2)) rfl (dl rfl rfl) Tryd.underlying25 rfl i25 rfl rfl rfl rfl ?_)
      refine sp rfl (OpT.storeAggTo (i := 0) (cells' := (Arr4.oc .u64 y5_0_2)) rfl rfl i25 rfl rfl rfl rfl (Nat.le_of_ble_eq_true rfl) rfl ?_)
      refine TL'.nil (thenS_normal ?_)
      refine T.ret ?_
      exact Fin.done (.cons _ _ _ _ (.cellAgg 4 25 _ 0 0 25 _ (Arr4.dc .u64 y5_0_2) _ _ 4 _ rfl rfl rfl rfl Tryd.underlying25 rfl i25) .nil) (by cases h; exact ⟨rfl, rfl⟩)

theorem r1_Range_T (K : Nat) {x0 : Int} {x1 : Int} {r : Arr4} (h : r1_Range K x0 x1 = some r) : CallR Tryd.prog 114 [.int .u8 x0, .int .u8 x1] [] (.agg (Arr4.dc .u64 r)) := by
  refine CallT.intro Tryd.func114 rfl (Nat.le_of_ble_eq_true rfl) ?_
  show T Tryd.prog 21 (Code.at [] (codeOf Tryd.f114)) ⟨paramSlots 0 [.int .u8 x0, .int .u8 x1], []⟩ (r1_Range_q r)
  unfold r1_Range at h
  refine T.seq ?_
  refine T.regionL ?_
  refine sp rfl (OpT.alloc' rfl (dl rfl rfl) i25 rfl (fun b_26 => ?_))
  refine TL'.nil (thenS_normal ?_)
  refine T.seq ?_
  refine T.regionL ?_
  refine sp rfl (OpT.build (l := (Arr4.dc .u64 (Arr4.mk 0 0 0 0))) rfl (dl rfl rfl) (built_arr Tryd.underlying25 i25 i23) (all1 rfl) rfl rfl ?_)
  refine sp rfl (OpT.alloc' rfl (dl rfl rfl) i25 rfl (fun b_27 => ?_))
  refine sp rfl (OpT.storeAggTo (i := 0) (cells' := (Arr4.oc .u64 (Arr4.mk 0 0 0 0))) rfl rfl i25 rfl rfl rfl rfl (Nat.le_of_ble_eq_true rfl) rfl ?_)
  refine TL'.nil (thenS_normal ?_)
  refine T.seq ?_
  refine T.seq ?_
  refine T.regionL ?_
  refine mv rfl rfl rfl rfl rfl ?_
  refine sp rfl (OpT.convInt rfl (dl rfl rfl) Tryd.underlying5 Tryd.underlying3 rfl ?_)
  refine asg rfl rfl rfl rfl rfl ?_
  refine TL'.nil (thenS_normal ?_)
  refine T.block ?_
  refine T.loop ?_
  refine TL.by_turn ?_ (r1_Range_l0_T K K x1 (IntKind.i64.wrap x0) (Arr4.mk 0 0 0 0) (Arr4.mk 0 0 0 0) b_26 b_27 h)
  exact Turn.rp (.cons rfl (.cons rfl (.cons rfl (.cons rfl (.nil _))))) (.c (.s .z) (.c .z (.n _)))

end Go.Rv

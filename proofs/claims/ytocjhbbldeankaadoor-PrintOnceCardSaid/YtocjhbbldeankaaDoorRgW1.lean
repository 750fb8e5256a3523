/- Each function computes what its plain text says: printed by a program of ours. -/
import Derived.Test.YtocjhbbldeankaaDoorRgW0
namespace Go.Rv
open Go.Proofs
set_option maxRecDepth 100000
set_option maxHeartbeats 4000000
set_option linter.unusedVariables false
abbrev r4r_ends_q (bx0 : Nat) (x0 : r4r) (r : Bool) : Exit → St → Prop := retS Tryd.prog Tryd.f49 (fun y t => ∃ γ : Nat → Value, y = (.bool r) ∧ t = [(o88 bx0 x0.s x0.at_ (γ 0) x0.deep x0.e x0.where_), .arrA (γ 0) 42 9 (x0.nodes.map c_aNd)])
theorem r4r_ends_T (K : Nat) {x0 : r4r} {bx0 : Nat} {wx0c2 : Value} {r : Bool} (h : r4r_ends K x0 = some r) : CallG Tryd.prog 49 [.ptr bx0 0] [(o88 bx0 x0.s x0.at_ wx0c2 x0.deep x0.e x0.where_), .arrA wx0c2 42 9 (x0.nodes.map c_aNd)] (fun γ => (.bool r)) (fun γ => [(o88 bx0 x0.s x0.at_ (γ 0) x0.deep x0.e x0.where_), .arrA (γ 0) 42 9 (x0.nodes.map c_aNd)]) := by
 refine CallT.intro Tryd.func49 rfl (nb rfl) ?_
 show T Tryd.prog 20 (Code.at [] (codeOf Tryd.f49)) ⟨paramSlots 0 [.ptr bx0 0], [(o88 bx0 x0.s x0.at_ wx0c2 x0.deep x0.e x0.where_), .arrA wx0c2 42 9 (x0.nodes.map c_aNd)]⟩ (r4r_ends_q bx0 x0 r)
 unfold r4r_ends at h
 refine T.seq (T.rL ?_)
 refine aw rfl ?_
 refine TL'.nil (tN ?_)
 refine T.seq ?_
 refine DG.start ?_
 refine DG.mv rfl rfl rfl rfl rfl rfl ?_
 refine DG.step (c := ⟨some 4, .ptr bx0 0, [(3, .ptr bx0 0)], [], []⟩) (fun t hm => One.step rfl (.free rfl) (OpT.nilCheck rfl (dk rfl) hm.s0 rfl rfl)) (Ct.mo rfl rfl) ?_
 refine DG.step (c := ⟨some 5, .ptr bx0 (0 + 1), [(4, .ptr bx0 0)], [], []⟩) (fun t hm => One.step rfl (.free rfl) (OpT.fP rfl (dk rfl) ul88 rfl i3 (by decide) hm.s0 rfl)) (Ct.mo rfl rfl) ?_
 refine DG.step (c := ⟨some 6, .int .i64 x0.at_, [(5, .ptr bx0 (0 + 1))], [(0, (o88 bx0 x0.s x0.at_ wx0c2 x0.deep x0.e x0.where_))], []⟩) (fun t hm => One.step rfl (.free rfl) (OpT.lB (i := 0) rfl (dk rfl) ul3 rfl hm.s0 hm.o0 rfl rfl)) (Ct.mo rfl rfl) ?_
 refine DG.mv rfl rfl rfl rfl rfl rfl ?_
 refine DG.step (c := ⟨some 8, .ptr bx0 0, [(7, .ptr bx0 0)], [], []⟩) (fun t hm => One.step rfl (.free rfl) (OpT.nilCheck rfl (dk rfl) hm.s0 rfl rfl)) (Ct.mo rfl rfl) ?_
 refine DG.step (c := ⟨some 9, .ptr bx0 (0 + 0), [(8, .ptr bx0 0)], [], []⟩) (fun t hm => One.step rfl (.free rfl) (OpT.fP rfl (dk rfl) ul88 rfl i9 (by decide) hm.s0 rfl)) (Ct.mo rfl rfl) ?_
 refine DG.step (c := ⟨some 10, .str x0.s, [(9, .ptr bx0 (0 + 0))], [(0, (o88 bx0 x0.s x0.at_ wx0c2 x0.deep x0.e x0.where_))], []⟩) (fun t hm => One.step rfl (.free rfl) (OpT.lB (i := 0) rfl (dk rfl) ul9 rfl hm.s0 hm.o0 rfl rfl)) (Ct.mo rfl rfl) ?_
 refine DG.step (c := ⟨some 11, .int .i64 (x0.s.size : Int), [(10, .str x0.s)], [], []⟩) (fun t hm => One.step rfl (.free rfl) (OpT.lenStr rfl (dk rfl) ul9 hm.s0 rfl)) (Ct.mo rfl rfl) ?_
 refine DG.step (c := ⟨some 12, .bool (decide (x0.at_ ≥ (x0.s.size : Int))), [(6, .int .i64 x0.at_), (11, .int .i64 (x0.s.size : Int))], [], []⟩) (fun t hm => One.step rfl (.free rfl) (OpT.int2 rfl rfl (dk rfl) hm.s0 hm.s1 rfl)) (Ct.mo rfl rfl) ?_
 refine DG.mv rfl rfl rfl rfl rfl rfl ?_
 rcases bif_some h with ⟨a, h⟩ | ⟨a, h⟩
 refine DG.off a rfl rfl rfl rfl rfl rfl ?_
 refine DG.off a rfl rfl rfl rfl rfl rfl ?_
 refine DG.off a rfl rfl rfl rfl rfl rfl ?_
 refine DG.off a rfl rfl rfl rfl rfl rfl ?_
 refine DG.off a rfl rfl rfl rfl rfl rfl ?_
 refine DG.step (c := ⟨some 19, .bool true, [(13, .bool (decide (x0.at_ ≥ (x0.s.size : Int))))], [], []⟩) (fun t hm => One.step rfl (.free rfl) (OpT.pickT rfl (dk rfl) hm.s0 a rfl rfl)) (Ct.mo rfl rfl) ?_
 refine DG.step (c := ⟨some 2, .bool true, [(19, .bool true)], [], []⟩) (fun t hm => One.step rfl (.free rfl) (OpT.assign rfl (dk rfl) hm.s0 rfl)) (Ct.mo rfl rfl) ?_
 refine DG.fin (s1 := ⟨[(2, .bool true)], [(o88 bx0 x0.s x0.at_ wx0c2 x0.deep x0.e x0.where_), .arrA wx0c2 42 9 (x0.nodes.map c_aNd)]⟩) (ms := [0, 1, 3, 7, 0, 16, 48, 112, 240, 511, 1023, 2047, 4095, 8191, 16383, 32767, 65535, 131071]) TrydMixed rfl (by kernel_rfl) (by kernel_rfl) (by kernel_rfl) (.cons rfl (.nil _)) rfl (fun u hu => (tN (T.by_turn hu ?_)))
 refine T.ret ?_
 exact Fin.doneK (.cons _ _ _ _ (.tmp 2 _ rfl) .nil) (.cons 0 rfl (.cons 0 rfl (.nil _))) (by cases h; exact ⟨gl [wx0c2], rfl, rfl⟩)
 refine DG.step (c := ⟨some 14, .ptr bx0 0, [(0, .ptr bx0 0), (13, .bool (decide (x0.at_ ≥ (x0.s.size : Int))))], [], []⟩) (fun t hm => One.step rfl (.on rfl rfl hm.s1 a) (OpT.move rfl (dk rfl) hm.s0 rfl)) (Ct.mo rfl rfl) ?_
 refine DG.step (c := ⟨some 15, .ptr bx0 0, [(14, .ptr bx0 0), (13, .bool (decide (x0.at_ ≥ (x0.s.size : Int))))], [], []⟩) (fun t hm => One.step rfl (.on rfl rfl hm.s1 a) (OpT.nilCheck rfl (dk rfl) hm.s0 rfl rfl)) (Ct.mo rfl rfl) ?_
 refine DG.step (c := ⟨some 16, .ptr bx0 (0 + 4), [(15, .ptr bx0 0), (13, .bool (decide (x0.at_ ≥ (x0.s.size : Int))))], [], []⟩) (fun t hm => One.step rfl (.on rfl rfl hm.s1 a) (OpT.fP rfl (dk rfl) ul88 rfl i35 (by decide) hm.s0 rfl)) (Ct.mo rfl rfl) ?_
 refine DG.step (c := ⟨some 17, .int .i64 x0.e, [(16, .ptr bx0 (0 + 4)), (13, .bool (decide (x0.at_ ≥ (x0.s.size : Int))))], [(0, (o88 bx0 x0.s x0.at_ wx0c2 x0.deep x0.e x0.where_))], []⟩) (fun t hm => One.step rfl (.on rfl rfl hm.s1 a) (OpT.lB (i := 0) rfl (dk rfl) ul35 rfl hm.s0 hm.o0 rfl rfl)) (Ct.mo rfl rfl) ?_
 refine DG.step (c := ⟨some 18, .bool (x0.e != (0 : Int)), [(17, .int .i64 x0.e), (13, .bool (decide (x0.at_ ≥ (x0.s.size : Int))))], [], []⟩) (fun t hm => One.step rfl (.on rfl rfl hm.s1 a) (OpT.int2 rfl rfl (dk rfl) hm.s0 rfl rfl)) (Ct.mo rfl rfl) ?_
 refine DG.step (c := ⟨some 19, .bool (x0.e != (0 : Int)), [(13, .bool (decide (x0.at_ ≥ (x0.s.size : Int)))), (18, .bool (x0.e != (0 : Int)))], [], []⟩) (fun t hm => One.step rfl (.free rfl) (OpT.pickF rfl (dk rfl) hm.s0 a hm.s1 rfl)) (Ct.mo rfl rfl) ?_
 refine DG.step (c := ⟨some 2, .bool (x0.e != (0 : Int)), [(19, .bool (x0.e != (0 : Int)))], [], []⟩) (fun t hm => One.step rfl (.free rfl) (OpT.assign rfl (dk rfl) hm.s0 rfl)) (Ct.mo rfl rfl) ?_
 refine DG.fin (s1 := ⟨[(2, .bool (x0.e != (0 : Int)))], [(o88 bx0 x0.s x0.at_ wx0c2 x0.deep x0.e x0.where_), .arrA wx0c2 42 9 (x0.nodes.map c_aNd)]⟩) (ms := [0, 1, 3, 7, 0, 16, 48, 112, 240, 511, 1023, 2047, 4095, 8191, 16383, 32767, 65535, 131071]) TrydMixed rfl (by kernel_rfl) (by kernel_rfl) (by kernel_rfl) (.cons rfl (.nil _)) rfl (fun u hu => (tN (T.by_turn hu ?_)))
 refine T.ret ?_
 exact Fin.doneK (.cons _ _ _ _ (.tmp 2 _ rfl) .nil) (.cons 0 rfl (.cons 0 rfl (.nil _))) (by cases h; exact ⟨gl [wx0c2], rfl, rfl⟩)
abbrev r4r_put_q (bx0 : Nat) (r : Int × r4r) : Exit → St → Prop := retS Tryd.prog Tryd.f65 (fun y t => ∃ γ : Nat → Value, y = (.int .i64 r.1) ∧ t = [(o88 bx0 r.2.s r.2.at_ (γ 0) r.2.deep r.2.e r.2.where_), .arrA (γ 0) 42 9 (r.2.nodes.map c_aNd)])
theorem r4r_put_T (K : Nat) {x0 : r4r} {x1 : aNd} {bx0 : Nat} {wx0c2 : Value} {r : Int × r4r} (h : r4r_put K x0 x1 = some r) : CallG Tryd.prog 65 [.ptr bx0 0, .agg [.int .u8 x1.Op, .int .u64 x1.S.a0, .int .u64 x1.S.a1, .int .u64 x1.S.a2, .int .u64 x1.S.a3, .sl false 1 (x1.L.map (cI .i64)), .int .i64 x1.Lo, .int .i64 x1.Hi, .str x1.Name]] [(o88 bx0 x0.s x0.at_ wx0c2 x0.deep x0.e x0.where_), .arrA wx0c2 42 9 (x0.nodes.map c_aNd)] (fun γ => (.int .i64 r.1)) (fun γ => [(o88 bx0 r.2.s r.2.at_ (γ 0) r.2.deep r.2.e r.2.where_), .arrA (γ 0) 42 9 (r.2.nodes.map c_aNd)]) := by
 refine CallT.intro Tryd.func65 rfl (nb rfl) ?_
 show T Tryd.prog 21 (Code.at [] (codeOf Tryd.f65)) ⟨paramSlots 0 [.ptr bx0 0, .agg [.int .u8 x1.Op, .int .u64 x1.S.a0, .int .u64 x1.S.a1, .int .u64 x1.S.a2, .int .u64 x1.S.a3, .sl false 1 (x1.L.map (cI .i64)), .int .i64 x1.Lo, .int .i64 x1.Hi, .str x1.Name]], [(o88 bx0 x0.s x0.at_ wx0c2 x0.deep x0.e x0.where_), .arrA wx0c2 42 9 (x0.nodes.map c_aNd)]⟩ (r4r_put_q bx0 r)
 unfold r4r_put at h
 refine T.seq (T.rL ?_)
 refine sp rfl (OpT.boxAgg rfl (dk rfl) rfl (fun b => ?_))
 refine aw rfl ?_
 refine TL'.nil (tN ?_)
 refine T.seq ?_
 refine T.by_turn Turn.keepPlace ?_
 refine DGG.start ?_
 refine DGG.step (c := fun a => ⟨some 5, .ptr bx0 0, [(0, .ptr bx0 0)], [], []⟩) [] (fun _ _ _ => rfl) (fun a t hm => One.step rfl (.free rfl) (OpT.move rfl (dk rfl) hm.s0 ⟨u0, rfl⟩)) (fun a => Ct.mo rfl rfl) ?_
 refine DGG.step (c := fun a => ⟨some 6, .ptr bx0 0, [(0, .ptr bx0 0)], [], []⟩) [] (fun _ _ _ => rfl) (fun a t hm => One.step rfl (.free rfl) (OpT.move rfl (dk rfl) hm.s0 ⟨u0, rfl⟩)) (fun a => Ct.mo rfl rfl) ?_
 refine DGG.step (c := fun a => ⟨some 7, .ptr bx0 0, [(6, .ptr bx0 0)], [], []⟩) [] (fun _ _ _ => rfl) (fun a t hm => One.step rfl (.free rfl) (OpT.nilCheck rfl (dk rfl) hm.s0 rfl ⟨u0, rfl⟩)) (fun a => Ct.mo rfl rfl) ?_
 refine DGG.step (c := fun a => ⟨some 8, .ptr bx0 (0 + 2), [(7, .ptr bx0 0)], [], []⟩) [] (fun _ _ _ => rfl) (fun a t hm => One.step rfl (.free rfl) (OpT.fP rfl (dk rfl) ul88 rfl i22 (by decide) hm.s0 ⟨u0, rfl⟩)) (fun a => Ct.mo rfl rfl) ?_
 refine DGG.step (c := fun a => ⟨some 9, .c (.ex wx0c2), [(8, .ptr bx0 (0 + 2))], [(2, (o88 bx0 x0.s x0.at_ wx0c2 x0.deep x0.e x0.where_))], []⟩) [] (fun _ _ _ => rfl) (fun a t hm => One.step rfl (.free rfl) (OpT.lB (i := 2) rfl (dk rfl) ul22 rfl hm.s0 hm.o0 rfl ⟨u0, rfl⟩)) (fun a => Ct.mo rfl rfl) ?_
 refine DGG.step (c := fun a => ⟨some 10, .agg [.int .u8 x1.Op, .int .u64 x1.S.a0, .int .u64 x1.S.a1, .int .u64 x1.S.a2, .int .u64 x1.S.a3, .sl false 1 (x1.L.map (cI .i64)), .int .i64 x1.Lo, .int .i64 x1.Hi, .str x1.Name], [(3, .ptr b 0)], [(1, .box b 42 [.d (.int .u8 x1.Op), .d (.int .u64 x1.S.a0), .d (.int .u64 x1.S.a1), .d (.int .u64 x1.S.a2), .d (.int .u64 x1.S.a3), .d (.sl false 1 (x1.L.map (cI .i64))), .d (.int .i64 x1.Lo), .d (.int .i64 x1.Hi), .d (.str x1.Name)])], []⟩) [] (fun _ _ _ => rfl) (fun a t hm => One.step rfl (.free rfl) (OpT.lBAgg (i := 1) (l := [.int .u8 x1.Op, .int .u64 x1.S.a0, .int .u64 x1.S.a1, .int .u64 x1.S.a2, .int .u64 x1.S.a3, .sl false 1 (x1.L.map (cI .i64)), .int .i64 x1.Lo, .int .i64 x1.Hi, .str x1.Name]) rfl (dk rfl) ul42 rfl i42 hm.s0 hm.o0 rfl rfl ⟨u0, rfl⟩)) (fun a => Ct.mo rfl rfl) ?_
 refine DGG.step (c := fun a => ⟨some 11, .sl true 9 ([x1].map c_aNd), [(10, .agg [.int .u8 x1.Op, .int .u64 x1.S.a0, .int .u64 x1.S.a1, .int .u64 x1.S.a2, .int .u64 x1.S.a3, .sl false 1 (x1.L.map (cI .i64)), .int .i64 x1.Lo, .int .i64 x1.Hi, .str x1.Name])], [], []⟩) [] (fun _ _ _ => rfl) (fun a t hm => One.step rfl (.free rfl) (OpT.buildSlice (elems := ([x1] : List aNd).map c_aNd) rfl (dk rfl) ul22 i42 (by decide) rfl (all1 rfl) (parts_cons hm.s0 rfl parts_nil) rfl rfl (lenAll rfl) (by decide) ⟨u0, rfl⟩)) (fun a => Ct.mo rfl rfl) ?_
 obtain ⟨g, h⟩ := ck_some h
 refine DGG.step (c := fun a => ⟨some 12, .c (.ex ((a 7).1 0)), [(11, .sl true 9 ([x1].map c_aNd)), (9, .c (.ex wx0c2))], [(3, .arrA wx0c2 42 9 (x0.nodes.map c_aNd))], [(3, .arrA ((a 7).1 0) 42 9 ((x0.nodes ++ [x1]).map c_aNd))]⟩) [7] (fun a γ' h => by simp only [h 7 (by decide)]) (fun a t hm => One.step rfl (.free rfl) (OpT.appendAM (i := 3) (xs := x0.nodes) (ys := [x1]) (f := c_aNd) rfl (dk rfl) ul22 i42 rfl hm.s1 hm.o0 hm.s0 g (fun w => ⟨(fun _ => w, 0), rfl⟩))) (fun a => Ct.mo rfl rfl) ?_
 refine DGG.step (c := fun a => ⟨some 13, .ptr bx0 0, [(5, .ptr bx0 0)], [], []⟩) [] (fun _ _ _ => rfl) (fun a t hm => One.step rfl (.free rfl) (OpT.nilCheck rfl (dk rfl) hm.s0 rfl ⟨u0, rfl⟩)) (fun a => Ct.mo rfl rfl) ?_
 refine DGG.step (c := fun a => ⟨some 14, .ptr bx0 (0 + 2), [(13, .ptr bx0 0)], [], []⟩) [] (fun _ _ _ => rfl) (fun a t hm => One.step rfl (.free rfl) (OpT.fP rfl (dk rfl) ul88 rfl i22 (by decide) hm.s0 ⟨u0, rfl⟩)) (fun a => Ct.mo rfl rfl) ?_
 refine DGG.step (c := fun a => ⟨none, .any, [(14, .ptr bx0 (0 + 2)), (12, .c (.ex ((a 7).1 0)))], [(2, (o88 bx0 x0.s x0.at_ wx0c2 x0.deep x0.e x0.where_))], [(2, (o88 bx0 x0.s x0.at_ ((a 7).1 0) x0.deep x0.e x0.where_))]⟩) [7] (fun a γ' h => by simp only [h 7 (by decide)]) (fun a t hm => One.step rfl (.free rfl) (OpT.sT (i := 2) (cells' := [.d (.str x0.s), .d (.int .i64 x0.at_), .d (.ex ((a 7).1 0)), .d (.int .i64 x0.deep), .d (.int .i64 x0.e), .d (.int .i64 x0.where_)]) rfl rfl i22 hm.s0 hm.s1 hm.o0 (nb rfl) rfl ⟨u0, rfl⟩)) (fun a => Ct.mo rfl rfl) ?_
 refine DGG.fin (s1 := fun a => ⟨[(0, .ptr bx0 0)], [.ro 0 [], .box b 42 [.d (.int .u8 x1.Op), .d (.int .u64 x1.S.a0), .d (.int .u64 x1.S.a1), .d (.int .u64 x1.S.a2), .d (.int .u64 x1.S.a3), .d (.sl false 1 (x1.L.map (cI .i64))), .d (.int .i64 x1.Lo), .d (.int .i64 x1.Hi), .d (.str x1.Name)], (o88 bx0 x0.s x0.at_ ((a 7).1 0) x0.deep x0.e x0.where_), .arrA ((a 7).1 0) 42 9 ((x0.nodes ++ [x1]).map c_aNd)]⟩) (ms := [0, 0, 2, 6, 14, 0, 32, 126, 255, 511, 1023]) TrydMixed rfl (by kernel_rfl) (by kernel_rfl) (by kernel_rfl) (fun a => by kernel_rfl) (fun a => .cons rfl (.nil _)) (fun _ => rfl) (fun a u hu => (tN (T.by_turn hu ?_)))
 refine T.seq (T.rL ?_)
 refine mw rfl ?_
 refine sp rfl (OpT.nilCheck rfl (dk rfl) rfl rfl ?_)
 refine sp rfl (OpT.fP rfl (dk rfl) ul88 rfl i22 (by decide) rfl ?_)
 refine sp rfl (OpT.thenTurn (OpT.lB (i := 2) rfl (dk rfl) ul22 rfl rfl rfl rfl rfl) (Turn.viewP 18 3 rfl) ?_)
 refine sp rfl (OpT.lenSlM (xs := (x0.nodes ++ [x1])) (f := c_aNd) rfl (dk rfl) ul22 rfl ?_)
 refine sp rfl (OpT.int2 rfl rfl (dk rfl) rfl rfl ?_)
 refine aw rfl ?_
 refine TL'.nil (tN ?_)
 refine T.ret ?_
 exact Fin.doneK (.cons _ _ _ _ (.tmp 4 _ rfl) .nil) (.cons 2 rfl (.cons 2 rfl (.nil _))) (by cases h; exact ⟨gl [(a 7).1 0], rfl, rfl⟩)
abbrev r4_digit_q (r : Bool) : Exit → St → Prop := retS Tryd.prog Tryd.f81 (fun y t => y = (.bool r) ∧ t = [])
theorem r4_digit_T (K : Nat) {x0 : Int} {r : Bool} (h : r4_digit K x0 = some r) : CallR Tryd.prog 81 [.int .u8 x0] [] (.bool r) := by
 refine CallT.intro Tryd.func81 rfl (nb rfl) ?_
 show T Tryd.prog 9 (Code.at [] (codeOf Tryd.f81)) ⟨paramSlots 0 [.int .u8 x0], []⟩ (r4_digit_q r)
 unfold r4_digit at h
 refine T.seq (T.rL ?_)
 refine aw rfl ?_
 refine TL'.nil (tN (T.seq (T.rL ?_)))
 refine mw rfl ?_
 refine sp rfl (OpT.int2 rfl rfl (dk rfl) rfl rfl ?_)
 refine mw rfl ?_
 rcases bif_some h with ⟨a, h⟩ | ⟨a, h⟩
 refine TL'.step (.on rfl rfl rfl a) (OpT.move rfl (dk rfl) rfl ?_)
 refine TL'.step (.on rfl rfl rfl a) (OpT.int2 rfl rfl (dk rfl) rfl rfl ?_)
 refine sp rfl (OpT.pickT rfl (dk rfl) rfl a rfl ?_)
 refine aw rfl ?_
 refine TL'.nil (tN ?_)
 refine T.ret ?_
 exact Fin.done (.cons _ _ _ _ (.tmp 2 _ rfl) .nil) (by cases h; exact ⟨rfl, rfl⟩)
 refine TL'.pU (.off _ _ _ _ rfl rfl rfl a) (dk rfl) ?_
 refine TL'.pU (.off _ _ _ _ rfl rfl rfl a) (dk rfl) ?_
 refine sp rfl (OpT.pickF rfl (dk rfl) rfl a rfl ?_)
 refine aw rfl ?_
 refine TL'.nil (tN ?_)
 refine T.ret ?_
 exact Fin.done (.cons _ _ _ _ (.tmp 2 _ rfl) .nil) (by cases h; exact ⟨rfl, rfl⟩)
abbrev r4_special_q (r : ByteArray) : Exit → St → Prop := retS Tryd.prog Tryd.f105 (fun y t => y = (.str r) ∧ t = [])
theorem r4_special_T (K : Nat) {r : ByteArray} (h : r4_special K = some r) : CallR Tryd.prog 105 [] [] (.str r) := by
 refine CallT.intro Tryd.func105 rfl (nb rfl) ?_
 show T Tryd.prog 1 (Code.at [] (codeOf Tryd.f105)) ⟨paramSlots 0 [], []⟩ (r4_special_q r)
 unfold r4_special at h
 refine T.seq (T.rL ?_)
 refine aw rfl ?_
 refine TL'.nil (tN (T.seq (T.rL ?_)))
 refine aw rfl ?_
 refine TL'.nil (tN ?_)
 refine T.ret ?_
 exact Fin.done (.cons _ _ _ _ (.tmp 0 _ rfl) .nil) (by cases h; exact ⟨rfl, rfl⟩)
abbrev r4_in_q (r : Bool) : Exit → St → Prop := retS Tryd.prog Tryd.f104 (fun y t => y = (.bool r) ∧ t = [])
abbrev r4_in_qs11 (r : Bool) : Exit → St → Prop := thenS (fun s' => T Tryd.prog 17 (Code.at [1, 1] (codeOf Tryd.f104)) s' ((r4_in_q r))) ((r4_in_q r))
abbrev r4_in_qb0x11 (r : Bool) : Exit → St → Prop := inBlockS 0 ((r4_in_qs11 r))
theorem r4_in_l0_T {r : Bool} (K : Nat) : ∀ (k : Nat), ∀ (x0 : Int) (x1 : ByteArray) (a : Int), r4_in_l0 K k x0 x1 a = some r → TL Tryd.prog 17 (Code.at [1, 0, 1, 0, 0] (codeOf Tryd.f104)) ⟨[(0, .int .u8 x0), (1, .str x1), (5, .int .i64 a)], []⟩ (r4_in_qb0x11 r) := by
  intro k
  induction k with
  | zero =>
    intro x0 x1 a h
    cases (show (none : Option Bool) = some r from h)
  | succ k ih =>
    intro x0 x1 a h
    rw [r4_in_l0] at h
    refine TL.round ?_
    refine T.seq ?_
    refine T.seq ?_
    refine T.rL ?_
    refine mv rfl rfl rfl rfl rfl ?_
    refine mv rfl rfl rfl rfl rfl ?_
    refine sp rfl (OpT.lenStr rfl (dl rfl rfl) Tryd.underlying9 rfl ?_)
    refine sp rfl (OpT.int2 rfl rfl (dl rfl rfl) rfl rfl ?_)
    refine TL'.nil (tN ?_)
    rcases bif_some h with ⟨b, h⟩ | ⟨b, h⟩
    · refine T.condT rfl b ?_
      refine T.skip (tN ?_)
      refine T.seq ?_
      refine T.block ?_
      refine T.seq ?_
      refine T.rL ?_
      refine mv rfl rfl rfl rfl rfl ?_
      refine mv rfl rfl rfl rfl rfl ?_
      obtain ⟨d, h⟩ := ck_some h
      refine sp rfl (OpT.indexStr rfl (dl rfl rfl) Tryd.underlying9 rfl rfl d.1 d.2 ?_)
      refine mv rfl rfl rfl rfl rfl ?_
      refine sp rfl (OpT.int2 rfl rfl (dl rfl rfl) rfl rfl ?_)
      refine TL'.nil (tN ?_)
      rcases bif_some h with ⟨c, h⟩ | ⟨c, h⟩
      · refine T.condT rfl c ?_
        refine T.seq ?_
        refine T.rL ?_
        refine asg rfl rfl rfl rfl rfl ?_
        refine TL'.nil (tN ?_)
        refine T.ret (inBlock_ret (thenS_ret (thenS_ret (inBlock_ret (thenS_ret ?_)))))
        exact Fin.done (.cons _ _ _ _ (.tmp 4 _ rfl) .nil) (by cases h; exact ⟨rfl, rfl⟩)
      · refine T.condF rfl c ?_
        refine T.skip (inBlock_normal (tN ?_))
        refine T.rL ?_
        refine mv rfl rfl rfl rfl rfl ?_
        refine sp rfl (OpT.int2 rfl rfl (dl rfl rfl) rfl rfl ?_)
        refine asg rfl rfl rfl rfl rfl ?_
        refine TL'.nil (tN ?_)
        refine TL.by_turn ?_ (ih x0 x1 (wI (a + (1 : Int))) h)
        exact Turn.rp (.cons rfl (.cons rfl (.cons rfl (.nil _)))) (.n _)
    · refine T.condF rfl b ?_
      refine T.exit (thenS_exit (thenS_exit (inBlock_exit (tN ?_))))
      refine T.seq ?_
      refine T.rL ?_
      refine asg rfl rfl rfl rfl rfl ?_
      refine TL'.nil (tN ?_)
      refine T.ret ?_
      exact Fin.done (.cons _ _ _ _ (.tmp 4 _ rfl) .nil) (by cases h; exact ⟨rfl, rfl⟩)
theorem r4_in_T (K : Nat) {x0 : Int} {x1 : ByteArray} {r : Bool} (h : r4_in K x0 x1 = some r) : CallR Tryd.prog 104 [.int .u8 x0, .str x1] [] (.bool r) := by
 refine CallT.intro Tryd.func104 rfl (nb rfl) ?_
 show T Tryd.prog 17 (Code.at [] (codeOf Tryd.f104)) ⟨paramSlots 0 [.int .u8 x0, .str x1], []⟩ (r4_in_q r)
 unfold r4_in at h
 refine T.seq (T.rL ?_)
 refine aw rfl ?_
 refine TL'.nil (tN ?_)
 refine T.seq ?_
 refine T.seq (T.rL ?_)
 refine aw rfl ?_
 refine TL'.nil (tN ?_)
 refine T.block ?_
 refine T.loop ?_
 refine TL.by_turn ?_ (r4_in_l0_T K K x0 x1 (0 : Int) h)
 exact Turn.rp (.cons rfl (.cons rfl (.cons rfl (.nil _)))) (.n _)
abbrev r4r_one_q (bx0 : Nat) (r : Int × r4r) : Exit → St → Prop := retS Tryd.prog Tryd.f106 (fun y t => ∃ γ : Nat → Value, y = (.int .u8 r.1) ∧ t = [(o88 bx0 r.2.s r.2.at_ (γ 0) r.2.deep r.2.e r.2.where_), .arrA (γ 0) 42 9 (r.2.nodes.map c_aNd)])
theorem r4r_one_T (K : Nat) {x0 : r4r} {bx0 : Nat} {wx0c2 : Value} {r : Int × r4r} (h : r4r_one K x0 = some r) : CallG Tryd.prog 106 [.ptr bx0 0] [(o88 bx0 x0.s x0.at_ wx0c2 x0.deep x0.e x0.where_), .arrA wx0c2 42 9 (x0.nodes.map c_aNd)] (fun γ => (.int .u8 r.1)) (fun γ => [(o88 bx0 r.2.s r.2.at_ (γ 0) r.2.deep r.2.e r.2.where_), .arrA (γ 0) 42 9 (r.2.nodes.map c_aNd)]) := by
 refine CallT.intro Tryd.func106 rfl (nb rfl) ?_
 show T Tryd.prog 138 (Code.at [] (codeOf Tryd.f106)) ⟨paramSlots 0 [.ptr bx0 0], [(o88 bx0 x0.s x0.at_ wx0c2 x0.deep x0.e x0.where_), .arrA wx0c2 42 9 (x0.nodes.map c_aNd)]⟩ (r4r_one_q bx0 r)
 unfold r4r_one at h
 refine T.seq (T.rL ?_)
 refine aw rfl ?_
 refine TL'.nil (tN ?_)
 refine T.seq ?_
 refine DG.start ?_
 refine DG.mv rfl rfl rfl rfl rfl rfl ?_
 refine DG.step (c := ⟨some 9, .ptr bx0 0, [(8, .ptr bx0 0)], [], []⟩) (fun t hm => One.step rfl (.free rfl) (OpT.nilCheck rfl (dk rfl) hm.s0 rfl rfl)) (Ct.mo rfl rfl) ?_
 refine DG.step (c := ⟨some 10, .ptr bx0 (0 + 0), [(9, .ptr bx0 0)], [], []⟩) (fun t hm => One.step rfl (.free rfl) (OpT.fP rfl (dk rfl) ul88 rfl i9 (by decide) hm.s0 rfl)) (Ct.mo rfl rfl) ?_
 refine DG.step (c := ⟨some 11, .str x0.s, [(10, .ptr bx0 (0 + 0))], [(0, (o88 bx0 x0.s x0.at_ wx0c2 x0.deep x0.e x0.where_))], []⟩) (fun t hm => One.step rfl (.free rfl) (OpT.lB (i := 0) rfl (dk rfl) ul9 rfl hm.s0 hm.o0 rfl rfl)) (Ct.mo rfl rfl) ?_
 refine DG.mv rfl rfl rfl rfl rfl rfl ?_
 refine DG.step (c := ⟨some 13, .ptr bx0 0, [(12, .ptr bx0 0)], [], []⟩) (fun t hm => One.step rfl (.free rfl) (OpT.nilCheck rfl (dk rfl) hm.s0 rfl rfl)) (Ct.mo rfl rfl) ?_
 refine DG.step (c := ⟨some 14, .ptr bx0 (0 + 1), [(13, .ptr bx0 0)], [], []⟩) (fun t hm => One.step rfl (.free rfl) (OpT.fP rfl (dk rfl) ul88 rfl i3 (by decide) hm.s0 rfl)) (Ct.mo rfl rfl) ?_
 refine DG.step (c := ⟨some 15, .int .i64 x0.at_, [(14, .ptr bx0 (0 + 1))], [(0, (o88 bx0 x0.s x0.at_ wx0c2 x0.deep x0.e x0.where_))], []⟩) (fun t hm => One.step rfl (.free rfl) (OpT.lB (i := 0) rfl (dk rfl) ul3 rfl hm.s0 hm.o0 rfl rfl)) (Ct.mo rfl rfl) ?_
 obtain ⟨b, h⟩ := ck_some h
 refine DG.step (c := ⟨some 16, .int .u8 (bt x0.s x0.at_), [(11, .str x0.s), (15, .int .i64 x0.at_)], [], []⟩) (fun t hm => One.step rfl (.free rfl) (OpT.indexStr rfl (dk rfl) ul9 hm.s0 hm.s1 b.1 b.2 rfl)) (Ct.mo rfl rfl) ?_
 refine DG.step (c := ⟨some 3, .int .u8 (bt x0.s x0.at_), [(16, .int .u8 (bt x0.s x0.at_))], [], []⟩) (fun t hm => One.step rfl (.free rfl) (OpT.assign rfl (dk rfl) hm.s0 rfl)) (Ct.mo rfl rfl) ?_
 refine DG.fin (s1 := ⟨[(0, .ptr bx0 0), (3, .int .u8 (bt x0.s x0.at_))], [(o88 bx0 x0.s x0.at_ wx0c2 x0.deep x0.e x0.where_), .arrA wx0c2 42 9 (x0.nodes.map c_aNd)]⟩) (ms := [0, 1, 3, 7, 0, 16, 48, 112, 255, 511]) TrydMixed rfl (by kernel_rfl) (by kernel_rfl) (by kernel_rfl) (.cons rfl (.cons rfl (.nil _))) rfl (fun u hu => (tN (T.by_turn hu ?_)))
 refine T.seq (T.rL ?_)
 refine mw rfl ?_
 refine sp rfl (OpT.nilCheck rfl (dk rfl) rfl rfl ?_)
 refine sp rfl (OpT.fP rfl (dk rfl) ul88 rfl i3 (by decide) rfl ?_)
 refine sp rfl (OpT.lB (i := 0) rfl (dk rfl) ul3 rfl rfl rfl rfl ?_)
 refine aw rfl ?_
 refine TL'.nil (tN (T.seq (T.rL ?_)))
 refine mw rfl ?_
 refine sp rfl (OpT.nilCheck rfl (dk rfl) rfl rfl ?_)
 refine sp rfl (OpT.fP rfl (dk rfl) ul88 rfl i3 (by decide) rfl ?_)
 refine sp rfl (OpT.lB (i := 0) rfl (dk rfl) ul3 rfl rfl rfl rfl ?_)
 refine sp rfl (OpT.int2 rfl rfl (dk rfl) rfl rfl ?_)
 refine sp rfl (OpT.nilCheck rfl (dk rfl) rfl rfl ?_)
 refine sp rfl (OpT.fP rfl (dk rfl) ul88 rfl i3 (by decide) rfl ?_)
 refine sp rfl (OpT.sT (i := 0) (cells' := [.d (.str x0.s), .d (.int .i64 (wI (x0.at_ + (1 : Int)))), .d (.ex wx0c2), .d (.int .i64 x0.deep), .d (.int .i64 x0.e), .d (.int .i64 x0.where_)]) rfl rfl i3 rfl rfl rfl (nb rfl) rfl ?_)
 refine TL'.nil (tN ?_)
 refine T.seq ?_
 refine T.seq (T.rL ?_)
 refine mw rfl ?_
 refine sp rfl (OpT.int2 rfl rfl (dk rfl) rfl rfl ?_)
 refine TL'.nil (tN ?_)
 rcases bif_some h with ⟨a, h⟩ | ⟨a, h⟩
 refine T.condT rfl a ?_
 refine T.seq (T.rL ?_)
 refine mw rfl ?_
 refine aw rfl ?_
 refine TL'.nil (tN ?_)
 refine T.ret (thenS_ret ?_)
 exact Fin.doneK (.cons _ _ _ _ (.tmp 2 _ rfl) .nil) (.cons 0 rfl (.cons 0 rfl (.nil _))) (by cases h; exact ⟨gl [wx0c2], rfl, rfl⟩)
 refine T.condF rfl a ?_
 refine T.skip (tN ?_)
 refine T.seq ?_
 refine T.seq (T.rL ?_)
 cases h
abbrev r1_Has_q (r : Bool) : Exit → St → Prop := retS Tryd.prog Tryd.f55 (fun y t => y = (.bool r) ∧ t = [])
theorem r1_Has_T (K : Nat) {x0 : Arr4} {x1 : Int} {r : Bool} (h : r1_Has K x0 x1 = some r) : CallR Tryd.prog 55 [.agg (Arr4.dc .u64 x0), .int .u8 x1] [] (.bool r) := by
 refine CallT.intro Tryd.func55 rfl (nb rfl) ?_
 show T Tryd.prog 14 (Code.at [] (codeOf Tryd.f55)) ⟨paramSlots 0 [.agg (Arr4.dc .u64 x0), .int .u8 x1], []⟩ (r1_Has_q r)
 unfold r1_Has at h
 refine T.seq (T.rL ?_)
 refine sp rfl (OpT.boxAgg rfl (dk rfl) rfl (fun d => ?_))
 refine aw rfl ?_
 refine TL'.nil (tN (T.seq (T.rL ?_)))
 refine mw rfl ?_
 refine sp rfl (OpT.quo rfl (dk rfl) rfl rfl (by decide) ?_)
 obtain ⟨b, h⟩ := ck_some h
 refine sp rfl (OpT.indexPtr rfl (dk rfl) ul25 i23 rfl rfl b.1 b.2 ?_)
 refine sp rfl (OpT.lB (i := 0) rfl (dk rfl) ul23 rfl rfl rfl (Arr4.oc_get (k := .u64) (a := x0) (pre := []) (post := []) b.1 b.2) ?_)
 refine mw rfl ?_
 refine sp rfl (OpT.rem rfl (dk rfl) rfl rfl (by decide) ?_)
 obtain ⟨c, h⟩ := ck_some h
 refine sp rfl (OpT.shr rfl (dk rfl) rfl rfl c ?_)
 refine sp rfl (OpT.rem rfl (dk rfl) rfl rfl (by decide) ?_)
 refine sp rfl (OpT.int2 rfl rfl (dk rfl) rfl rfl ?_)
 refine aw rfl ?_
 refine TL'.nil (tN ?_)
 refine T.ret ?_
 exact Fin.done (.cons _ _ _ _ (.tmp 4 _ rfl) .nil) (by cases h; exact ⟨rfl, rfl⟩)
abbrev r1_with_q (r : Arr4) : Exit → St → Prop := retS Tryd.prog Tryd.f41 (fun y t => y = (.agg (Arr4.dc .u64 r)) ∧ t = [])
theorem r1_with_T (K : Nat) {x0 : Arr4} {x1 : Int} {r : Arr4} (h : r1_with K x0 x1 = some r) : CallR Tryd.prog 41 [.agg (Arr4.dc .u64 x0), .int .u8 x1] [] (.agg (Arr4.dc .u64 r)) := by
 refine CallT.intro Tryd.func41 rfl (nb rfl) ?_
 show T Tryd.prog 21 (Code.at [] (codeOf Tryd.f41)) ⟨paramSlots 0 [.agg (Arr4.dc .u64 x0), .int .u8 x1], []⟩ (r1_with_q r)
 unfold r1_with at h
 refine T.seq (T.rL ?_)
 refine sp rfl (OpT.boxAgg rfl (dk rfl) rfl (fun g => ?_))
 refine sp rfl (OpT.alloc' rfl (dk rfl) i25 rfl (fun j => ?_))
 refine TL'.nil (tN ?_)
 refine T.seq ?_
 refine T.seq (T.rL ?_)
 refine sp rfl (OpT.lBAgg (i := 1) (l := (Arr4.dc .u64 x0)) rfl (dk rfl) ul25 rfl i25 rfl rfl rfl rfl ?_)
 refine mw rfl ?_
 obtain ⟨m, d, h⟩ := bind_some h
 refine sp rfl (OpT.callPA rfl (dk rfl) Tryd.func55 rfl rfl (Args.cons rfl (Args.cons rfl Args.nil)) (CallR.nil (r1_Has_T K d)) ?_)
 refine sp rfl (OpT.not rfl (dk rfl) rfl ?_)
 refine TL'.nil (tN ?_)
 rcases bif_some h with ⟨c, h⟩ | ⟨c, h⟩
 refine T.condT rfl c ?_
 refine T.rL ?_
 refine mw rfl ?_
 refine sp rfl (OpT.quo rfl (dk rfl) rfl rfl (by decide) ?_)
 refine mw rfl ?_
 refine sp rfl (OpT.quo rfl (dk rfl) rfl rfl (by decide) ?_)
 obtain ⟨b, h⟩ := ck_some h
 refine sp rfl (OpT.indexPtr rfl (dk rfl) ul25 i23 rfl rfl b.1 b.2 ?_)
 refine sp rfl (OpT.lB (i := 1) rfl (dk rfl) ul23 rfl rfl rfl (Arr4.oc_get (k := .u64) (a := x0) (pre := []) (post := []) b.1 b.2) ?_)
 refine mw rfl ?_
 refine sp rfl (OpT.rem rfl (dk rfl) rfl rfl (by decide) ?_)
 obtain ⟨f, h⟩ := ck_some h
 refine sp rfl (OpT.shl rfl (dk rfl) rfl rfl f ?_)
 refine sp rfl (OpT.int2 rfl rfl (dk rfl) rfl rfl ?_)
 refine sp rfl (OpT.indexPtr rfl (dk rfl) ul25 i23 rfl rfl b.1 b.2 ?_)
 refine sp rfl (OpT.sT (i := 1) (cells' := (Arr4.oc .u64 (Arr4.set x0 (IntKind.u8.wrap (Int.tdiv x1 (64 : Int))) (IntKind.u64.wrap ((Arr4.get x0 (IntKind.u8.wrap (Int.tdiv x1 (64 : Int)))) + (IntKind.u64.wrap ((1 : Int) * 2 ^ min (Int.toNat (Int.tmod x1 (64 : Int))) IntKind.u64.bits))))))) rfl rfl i23 rfl rfl rfl (Arr4.oc_lt (k := .u64) (a := x0) (pre := []) (post := []) b.1 b.2) (Arr4.oc_set (k := .u64) (a := x0) (pre := []) (post := []) b.1 b.2) ?_)
 refine TL'.nil (tN (T.seq (T.rL ?_)))
 refine sp rfl (OpT.lBAgg (i := 1) (l := (Arr4.dc .u64 (Arr4.set x0 (IntKind.u8.wrap (Int.tdiv x1 (64 : Int))) (IntKind.u64.wrap ((Arr4.get x0 (IntKind.u8.wrap (Int.tdiv x1 (64 : Int)))) + (IntKind.u64.wrap ((1 : Int) * 2 ^ min (Int.toNat (Int.tmod x1 (64 : Int))) IntKind.u64.bits))))))) rfl (dk rfl) ul25 rfl i25 rfl rfl rfl rfl ?_)
 refine sp rfl (OpT.storeAggTo (i := 0) (cells' := (Arr4.oc .u64 (Arr4.set x0 (IntKind.u8.wrap (Int.tdiv x1 (64 : Int))) (IntKind.u64.wrap ((Arr4.get x0 (IntKind.u8.wrap (Int.tdiv x1 (64 : Int)))) + (IntKind.u64.wrap ((1 : Int) * 2 ^ min (Int.toNat (Int.tmod x1 (64 : Int))) IntKind.u64.bits))))))) rfl rfl i25 rfl rfl rfl rfl (nb rfl) rfl ?_)
 refine TL'.nil (tN ?_)
 refine T.ret ?_
 exact Fin.done (.cons _ _ _ _ (.cellAgg 4 25 _ 0 0 25 _ (Arr4.dc .u64 (Arr4.set x0 (IntKind.u8.wrap (Int.tdiv x1 (64 : Int))) (IntKind.u64.wrap ((Arr4.get x0 (IntKind.u8.wrap (Int.tdiv x1 (64 : Int)))) + (IntKind.u64.wrap ((1 : Int) * 2 ^ min (Int.toNat (Int.tmod x1 (64 : Int))) IntKind.u64.bits)))))) _ _ 4 _ rfl rfl rfl rfl ul25 rfl i25) .nil) (by cases h; exact ⟨rfl, rfl⟩)
 refine T.condF rfl c ?_
 refine T.skip (tN ?_)
 refine T.seq (T.rL ?_)
 refine sp rfl (OpT.lBAgg (i := 1) (l := (Arr4.dc .u64 x0)) rfl (dk rfl) ul25 rfl i25 rfl rfl rfl rfl ?_)
 refine sp rfl (OpT.storeAggTo (i := 0) (cells' := (Arr4.oc .u64 x0)) rfl rfl i25 rfl rfl rfl rfl (nb rfl) rfl ?_)
 refine TL'.nil (tN ?_)
 refine T.ret ?_
 exact Fin.done (.cons _ _ _ _ (.cellAgg 4 25 _ 0 0 25 _ (Arr4.dc .u64 x0) _ _ 4 _ rfl rfl rfl rfl ul25 rfl i25) .nil) (by cases h; exact ⟨rfl, rfl⟩)
abbrev r1_Of_q (r : Arr4) : Exit → St → Prop := retS Tryd.prog Tryd.f19 (fun y t => y = (.agg (Arr4.dc .u64 r)) ∧ t = [])
abbrev r1_Of_qs111 (r : Arr4) : Exit → St → Prop := thenS (fun s' => T Tryd.prog 19 (Code.at [1, 1, 1] (codeOf Tryd.f19)) s' ((r1_Of_q r))) ((r1_Of_q r))
abbrev r1_Of_qb0x111 (r : Arr4) : Exit → St → Prop := inBlockS 0 ((r1_Of_qs111 r))
theorem r1_Of_l0_T {r : Arr4} (K : Nat) : ∀ (k : Nat), ∀ (x0 : List Int) (d : Int) (j : Arr4) (a : Arr4) (flx0 : Bool) (g : Nat) (b : Nat), r1_Of_l0 K k x0 d j a = some r → TL Tryd.prog 19 (Code.at [1, 1, 0, 1, 0, 0] (codeOf Tryd.f19)) ⟨[(0, .sl flx0 1 (x0.map (cI .u8))), (2, .ptr g 0), (3, .ptr b 0), (4, .int .i64 d)], [.box g 25 (Arr4.oc .u64 j), .box b 25 (Arr4.oc .u64 a)]⟩ (r1_Of_qb0x111 r) := by
  intro k
  induction k with
  | zero =>
    intro x0 d j a flx0 g b h
    cases (show (none : Option Arr4) = some r from h)
  | succ k ih =>
    intro x0 d j a flx0 g b h
    rw [r1_Of_l0] at h
    refine TL.round ?_
    refine T.seq ?_
    refine T.seq ?_
    refine T.rL ?_
    refine mv rfl rfl rfl rfl rfl ?_
    refine mv rfl rfl rfl rfl rfl ?_
    refine sp rfl (OpT.lenSlM (xs := x0) (f := (cI .u8)) rfl (dl rfl rfl) Tryd.underlying32 rfl ?_)
    refine sp rfl (OpT.int2 rfl rfl (dl rfl rfl) rfl rfl ?_)
    refine TL'.nil (tN ?_)
    rcases bif_some h with ⟨q, h⟩ | ⟨q, h⟩
    · refine T.condT rfl q ?_
      refine T.skip (tN ?_)
      refine T.seq ?_
      refine T.block ?_
      refine DG.start ?_
      refine DG.step (c := ⟨some 12, .agg (Arr4.dc .u64 a), [(3, .ptr b 0)], [(1, .box b 25 (Arr4.oc .u64 a))], []⟩) (fun t hm => One.step rfl (.free rfl) (OpT.lBAgg (i := 1) (l := (Arr4.dc .u64 a)) rfl (dl rfl rfl) Tryd.underlying25 rfl i25 hm.s0 hm.o0 rfl rfl rfl)) (Ct.mo rfl rfl) ?_
      refine DG.mv rfl rfl rfl rfl rfl rfl ?_
      refine DG.mv rfl rfl rfl rfl rfl rfl ?_
      obtain ⟨p, s, h⟩ := bind_some h
      refine DG.step (c := ⟨some 15, .ref [.int .u8 p], [(13, .sl flx0 1 (x0.map (cI .u8))), (14, .int .i64 d)], [], []⟩) (fun t hm => One.step rfl (.free rfl) (OpT.indexSlM (xs := x0) (f := (cI .u8)) (v := p) rfl (dl rfl rfl) Tryd.underlying32 i5 hm.s0 hm.s1 s rfl)) (Ct.mo rfl rfl) ?_
      refine DG.step (c := ⟨some 16, .int .u8 p, [(15, .ref [.int .u8 p])], [], []⟩) (fun t hm => One.step rfl (.free rfl) (OpT.loadRef rfl (dl rfl rfl) Tryd.underlying5 rfl hm.s0 rfl rfl)) (Ct.mo rfl rfl) ?_
      obtain ⟨m, w, h⟩ := bind_some h
      refine DG.step (c := ⟨some 17, .agg (Arr4.dc .u64 m), [(12, .agg (Arr4.dc .u64 a)), (16, .int .u8 p)], [], []⟩) (fun t hm => One.step rfl (.free rfl) (OpT.callPA rfl (dl rfl rfl) Tryd.func41 rfl rfl (Args.cons hm.s0 (Args.cons hm.s1 Args.nil)) (CallR.nil (r1_with_T K w)) rfl)) (Ct.mo rfl rfl) ?_
      refine DG.step (c := ⟨none, .any, [(3, .ptr b 0), (17, .agg (Arr4.dc .u64 m))], [(1, .box b 25 (Arr4.oc .u64 a))], [(1, .box b 25 (Arr4.oc .u64 m))]⟩) (fun t hm => One.step rfl (.free rfl) (OpT.storeAggTo (i := 1) (cells' := (Arr4.oc .u64 m)) rfl rfl i25 hm.s0 hm.s1 rfl hm.o0 (Nat.le_of_ble_eq_true rfl) rfl rfl)) (Ct.mo rfl rfl) ?_
      refine DG.fin (s1 := ⟨[(0, .sl flx0 1 (x0.map (cI .u8))), (2, .ptr g 0), (3, .ptr b 0), (4, .int .i64 d)], [.box g 25 (Arr4.oc .u64 j), .box b 25 (Arr4.oc .u64 m)]⟩) (ms := [0, 0, 0, 6, 14, 31, 63]) TrydMixed rfl (by kernel_rfl) (by kernel_rfl) (by kernel_rfl) (.cons rfl (.cons rfl (.cons rfl (.cons rfl (.nil _))))) rfl (fun u hu => (inBlock_normal (tN (T.by_turn hu ?_))))
      refine T.rL ?_
      refine mv rfl rfl rfl rfl rfl ?_
      refine sp rfl (OpT.int2 rfl rfl (dl rfl rfl) rfl rfl ?_)
      refine asg rfl rfl rfl rfl rfl ?_
      refine TL'.nil (tN ?_)
      refine TL.by_turn ?_ (ih x0 (wI (d + (1 : Int))) j m flx0 g b h)
      exact Turn.rp (.cons rfl (.cons rfl (.cons rfl (.cons rfl (.nil _))))) (.c .z (.c .z (.n _)))
    · refine T.condF rfl q ?_
      refine T.exit (thenS_exit (thenS_exit (inBlock_exit (tN ?_))))
      refine T.seq ?_
      refine T.rL ?_
      refine sp rfl (OpT.lBAgg (i := 1) (l := (Arr4.dc .u64 a)) rfl (dl rfl rfl) Tryd.underlying25 rfl i25 rfl rfl rfl rfl ?_)
      refine sp rfl (OpT.storeAggTo (i := 0) (cells' := (Arr4.oc .u64 a)) rfl rfl i25 rfl rfl rfl rfl (Nat.le_of_ble_eq_true rfl) rfl ?_)
      refine TL'.nil (tN ?_)
      refine T.ret ?_
      exact Fin.done (.cons _ _ _ _ (.cellAgg 2 25 _ 0 0 25 _ (Arr4.dc .u64 a) _ _ 4 _ rfl rfl rfl rfl Tryd.underlying25 rfl i25) .nil) (by cases h; exact ⟨rfl, rfl⟩)
theorem r1_Of_T (K : Nat) {x0 : List Int} {flx0 : Bool} {r : Arr4} (h : r1_Of K x0 = some r) : CallR Tryd.prog 19 [.sl flx0 1 (x0.map (cI .u8))] [] (.agg (Arr4.dc .u64 r)) := by
 refine CallT.intro Tryd.func19 rfl (nb rfl) ?_
 show T Tryd.prog 19 (Code.at [] (codeOf Tryd.f19)) ⟨paramSlots 0 [.sl flx0 1 (x0.map (cI .u8))], []⟩ (r1_Of_q r)
 unfold r1_Of at h
 refine T.seq (T.rL ?_)
 refine sp rfl (OpT.alloc' rfl (dk rfl) i25 rfl (fun a => ?_))
 refine TL'.nil (tN (T.seq (T.rL ?_)))
 refine sp rfl (OpT.build (l := (Arr4.dc .u64 (Arr4.mk 0 0 0 0))) rfl (dk rfl) (built_arr ul25 i25 i23) (all1 rfl) rfl rfl ?_)
 refine sp rfl (OpT.alloc' rfl (dk rfl) i25 rfl (fun b => ?_))
 refine sp rfl (OpT.storeAggTo (i := 0) (cells' := (Arr4.oc .u64 (Arr4.mk 0 0 0 0))) rfl rfl i25 rfl rfl rfl rfl (nb rfl) rfl ?_)
 refine TL'.nil (tN ?_)
 refine T.seq ?_
 refine T.seq (T.rL ?_)
 refine aw rfl ?_
 refine TL'.nil (tN ?_)
 refine T.block ?_
 refine T.loop ?_
 refine TL.by_turn ?_ (r1_Of_l0_T K K x0 (0 : Int) (Arr4.mk 0 0 0 0) (Arr4.mk 0 0 0 0) flx0 a b h)
 exact Turn.rp (.cons rfl (.cons rfl (.cons rfl (.cons rfl (.nil _))))) (.c (.s .z) (.c .z (.n _)))
abbrev r4r_group_q (bx0 : Nat) (r : Int × r4r) : Exit → St → Prop := retS Tryd.prog Tryd.f101 (fun y t => ∃ γ : Nat → Value, y = (.int .i64 r.1) ∧ t = [(o88 bx0 r.2.s r.2.at_ (γ 0) r.2.deep r.2.e r.2.where_), .arrA (γ 0) 42 9 (r.2.nodes.map c_aNd)])
theorem r4r_group_T (K : Nat) (rec_r4r_alternative : r4r → Option (Int × r4r)) (hrec_r4r_alternative : r4r_alternative_S rec_r4r_alternative) {x0 : r4r} {bx0 : Nat} {wx0c2 : Value} {r : Int × r4r} (h : r4r_group K rec_r4r_alternative x0 = some r) : CallG Tryd.prog 101 [.ptr bx0 0] [(o88 bx0 x0.s x0.at_ wx0c2 x0.deep x0.e x0.where_), .arrA wx0c2 42 9 (x0.nodes.map c_aNd)] (fun γ => (.int .i64 r.1)) (fun γ => [(o88 bx0 r.2.s r.2.at_ (γ 0) r.2.deep r.2.e r.2.where_), .arrA (γ 0) 42 9 (r.2.nodes.map c_aNd)]) := by
 refine CallT.intro Tryd.func101 rfl (nb rfl) ?_
 show T Tryd.prog 55 (Code.at [] (codeOf Tryd.f101)) ⟨paramSlots 0 [.ptr bx0 0], [(o88 bx0 x0.s x0.at_ wx0c2 x0.deep x0.e x0.where_), .arrA wx0c2 42 9 (x0.nodes.map c_aNd)]⟩ (r4r_group_q bx0 r)
 unfold r4r_group at h
 refine T.seq (T.rL ?_)
 refine aw rfl ?_
 refine TL'.nil (tN ?_)
 refine T.seq ?_
 refine T.seq (T.rL ?_)
 refine mw rfl ?_
 refine sp rfl (OpT.nilCheck rfl (dk rfl) rfl rfl ?_)
 refine sp rfl (OpT.fP rfl (dk rfl) ul88 rfl i3 (by decide) rfl ?_)
 refine sp rfl (OpT.lB (i := 0) rfl (dk rfl) ul3 rfl rfl rfl rfl ?_)
 refine sp rfl (OpT.int2 rfl rfl (dk rfl) rfl rfl ?_)
 refine TL'.nil (tN ?_)
 rcases bif_some h with ⟨b, h⟩ | ⟨b, h⟩
 refine T.condT rfl b ?_
 refine T.seq (T.rL ?_)
 refine mw rfl ?_
 refine mw rfl ?_
 refine sp rfl (OpT.nilCheck rfl (dk rfl) rfl rfl ?_)
 refine sp rfl (OpT.fP rfl (dk rfl) ul88 rfl i3 (by decide) rfl ?_)
 refine sp rfl (OpT.lB (i := 0) rfl (dk rfl) ul3 rfl rfl rfl rfl ?_)
 cases h
 refine T.condF rfl b ?_
 refine T.skip (tN ?_)
 refine T.seq (T.rL ?_)
 refine mw rfl ?_
 refine sp rfl (OpT.nilCheck rfl (dk rfl) rfl rfl ?_)
 refine sp rfl (OpT.fP rfl (dk rfl) ul88 rfl i3 (by decide) rfl ?_)
 refine sp rfl (OpT.lB (i := 0) rfl (dk rfl) ul3 rfl rfl rfl rfl ?_)
 refine sp rfl (OpT.int2 rfl rfl (dk rfl) rfl rfl ?_)
 refine sp rfl (OpT.nilCheck rfl (dk rfl) rfl rfl ?_)
 refine sp rfl (OpT.fP rfl (dk rfl) ul88 rfl i3 (by decide) rfl ?_)
 refine sp rfl (OpT.sT (i := 0) (cells' := [.d (.str x0.s), .d (.int .i64 (wI (x0.at_ + (1 : Int)))), .d (.ex wx0c2), .d (.int .i64 x0.deep), .d (.int .i64 x0.e), .d (.int .i64 x0.where_)]) rfl rfl i3 rfl rfl rfl (nb rfl) rfl ?_)
 refine TL'.nil (tN (T.seq (T.rL ?_)))
 refine mw rfl ?_
 refine sp rfl (OpT.nilCheck rfl (dk rfl) rfl rfl ?_)
 refine sp rfl (OpT.fP rfl (dk rfl) ul88 rfl i3 (by decide) rfl ?_)
 refine sp rfl (OpT.lB (i := 0) rfl (dk rfl) ul3 rfl rfl rfl rfl ?_)
 refine sp rfl (OpT.int2 rfl rfl (dk rfl) rfl rfl ?_)
 refine sp rfl (OpT.nilCheck rfl (dk rfl) rfl rfl ?_)
 refine sp rfl (OpT.fP rfl (dk rfl) ul88 rfl i3 (by decide) rfl ?_)
 refine sp rfl (OpT.sT (i := 0) (cells' := [.d (.str x0.s), .d (.int .i64 (wI (x0.at_ + (1 : Int)))), .d (.ex wx0c2), .d (.int .i64 (wI (x0.deep + (1 : Int)))), .d (.int .i64 x0.e), .d (.int .i64 x0.where_)]) rfl rfl i3 rfl rfl rfl (nb rfl) rfl ?_)
 refine TL'.nil (tN (T.seq (T.rL ?_)))
 refine mw rfl ?_
 obtain ⟨a, l, h⟩ := bind_some h
 refine sp rfl (OpT.callG (is := [0, 1]) (ph := []) rfl (dk rfl) Tryd.func48 rfl rfl (Args.cons rfl Args.nil) (hrec_r4r_alternative (r4r.mk x0.s (wI (x0.at_ + (1 : Int))) x0.nodes (wI (x0.deep + (1 : Int))) x0.e x0.where_) bx0 wx0c2 _ l) (.cons rfl rfl (.cons rfl rfl (.nil))) (fun _ => rfl) (fun g => ?_))
 refine nm (.c (.c (.n))) ?_
 refine aw rfl ?_
 refine TL'.nil (tN (T.seq (T.rL ?_)))
 refine mw rfl ?_
 refine sp rfl (OpT.nilCheck rfl (dk rfl) rfl rfl ?_)
 refine sp rfl (OpT.fP rfl (dk rfl) ul88 rfl i3 (by decide) rfl ?_)
 refine sp rfl (OpT.lB (i := 0) rfl (dk rfl) ul3 rfl rfl rfl rfl ?_)
 refine sp rfl (OpT.int2 rfl rfl (dk rfl) rfl rfl ?_)
 refine sp rfl (OpT.nilCheck rfl (dk rfl) rfl rfl ?_)
 refine sp rfl (OpT.fP rfl (dk rfl) ul88 rfl i3 (by decide) rfl ?_)
 refine sp rfl (OpT.sT (i := 0) (cells' := [.d (.str a.2.s), .d (.int .i64 a.2.at_), .d (.ex (g 0)), .d (.int .i64 (wI (a.2.deep - (1 : Int)))), .d (.int .i64 a.2.e), .d (.int .i64 a.2.where_)]) rfl rfl i3 rfl rfl rfl (nb rfl) rfl ?_)
 refine TL'.nil (tN ?_)
 refine T.seq ?_
 refine T.seq (T.rL ?_)
 refine mw rfl ?_
 obtain ⟨p, m, h⟩ := bind_some h
 refine sp rfl (OpT.callG (is := [0, 1]) (ph := []) rfl (dk rfl) Tryd.func49 rfl rfl (Args.cons rfl Args.nil) (r4r_ends_T K (bx0 := bx0) (wx0c2 := (g 0)) m) (.cons rfl rfl (.cons rfl rfl (.nil))) (fun _ => rfl) (fun j => ?_))
 refine nm (.c (.c (.n))) ?_
 refine TL'.nil (tN ?_)
 rcases bif_some h with ⟨f, h⟩ | ⟨f, h⟩
 refine T.condT rfl f ?_
 refine T.seq (T.rL ?_)
 refine mw rfl ?_
 refine mw rfl ?_
 refine sp rfl (OpT.nilCheck rfl (dk rfl) rfl rfl ?_)
 refine sp rfl (OpT.fP rfl (dk rfl) ul88 rfl i9 (by decide) rfl ?_)
 refine sp rfl (OpT.lB (i := 0) rfl (dk rfl) ul9 rfl rfl rfl rfl ?_)
 refine sp rfl (OpT.lenStr rfl (dk rfl) ul9 rfl ?_)
 cases h
 refine T.condF rfl f ?_
 refine T.skip (tN ?_)
 refine T.seq (T.rL ?_)
 refine mw rfl ?_
 refine sp rfl (OpT.nilCheck rfl (dk rfl) rfl rfl ?_)
 refine sp rfl (OpT.fP rfl (dk rfl) ul88 rfl i3 (by decide) rfl ?_)
 refine sp rfl (OpT.lB (i := 0) rfl (dk rfl) ul3 rfl rfl rfl rfl ?_)
 refine sp rfl (OpT.int2 rfl rfl (dk rfl) rfl rfl ?_)
 refine sp rfl (OpT.nilCheck rfl (dk rfl) rfl rfl ?_)
 refine sp rfl (OpT.fP rfl (dk rfl) ul88 rfl i3 (by decide) rfl ?_)
 refine sp rfl (OpT.sT (i := 0) (cells' := [.d (.str a.2.s), .d (.int .i64 (wI (a.2.at_ + (1 : Int)))), .d (.ex (j 0)), .d (.int .i64 ((wI (a.2.deep - (1 : Int))))), .d (.int .i64 a.2.e), .d (.int .i64 a.2.where_)]) rfl rfl i3 rfl rfl rfl (nb rfl) rfl ?_)
 refine TL'.nil (tN (T.seq (T.rL ?_)))
 refine mw rfl ?_
 refine aw rfl ?_
 refine TL'.nil (tN ?_)
 refine T.ret ?_
 exact Fin.doneK (.cons _ _ _ _ (.tmp 2 _ rfl) .nil) (.cons 0 rfl (.cons 0 rfl (.nil _))) (by cases h; exact ⟨gl [j 0], rfl, rfl⟩)
abbrev r4r_atom_q (bx0 : Nat) (r : Int × r4r) : Exit → St → Prop := retS Tryd.prog Tryd.f90 (fun y t => ∃ γ : Nat → Value, y = (.int .i64 r.1) ∧ t = [(o88 bx0 r.2.s r.2.at_ (γ 0) r.2.deep r.2.e r.2.where_), .arrA (γ 0) 42 9 (r.2.nodes.map c_aNd)])
abbrev r4r_atom_qs111 (bx0 : Nat) (r : Int × r4r) : Exit → St → Prop := thenS (fun s' => T Tryd.prog 112 (Code.at [1, 1, 1] (codeOf Tryd.f90)) s' ((r4r_atom_q bx0 r))) ((r4r_atom_q bx0 r))
abbrev r4r_atom_qb0x111 (bx0 : Nat) (r : Int × r4r) : Exit → St → Prop := inBlockS 0 ((r4r_atom_qs111 bx0 r))
theorem r4r_atom_j0_T {r : Int × r4r} (K : Nat) (rec_r4r_alternative : r4r → Option (Int × r4r)) (hrec_r4r_alternative : r4r_alternative_S rec_r4r_alternative) (bx0 : Nat) (x0 : r4r) (a : Value) (h : r4r_atom_j0 K rec_r4r_alternative x0 = some r) : T Tryd.prog 112 (Code.at [1, 1, 0, 0, 1, 1, 1, 1, 1, 1, 1, 0] (codeOf Tryd.f90)) ⟨[(0, .ptr bx0 0)], [(o88 bx0 x0.s x0.at_ a x0.deep x0.e x0.where_), .arrA a 42 9 (x0.nodes.map c_aNd)]⟩ (r4r_atom_qb0x111 bx0 r) := by
 unfold r4r_atom_j0 at h
 refine T.seq (T.rL ?_)
 refine mw rfl ?_
 cases h
theorem r4r_atom_j2_T {r : Int × r4r} (K : Nat) (rec_r4r_alternative : r4r → Option (Int × r4r)) (hrec_r4r_alternative : r4r_alternative_S rec_r4r_alternative) (bx0 : Nat) (x0 : r4r) (a : Value) (h : r4r_atom_j2 K rec_r4r_alternative x0 = some r) : T Tryd.prog 112 (Code.at [1, 1, 0, 0, 1, 1, 1, 1, 1, 1, 1, 1, 1, 0] (codeOf Tryd.f90)) ⟨[(0, .ptr bx0 0)], [(o88 bx0 x0.s x0.at_ a x0.deep x0.e x0.where_), .arrA a 42 9 (x0.nodes.map c_aNd)]⟩ (r4r_atom_qb0x111 bx0 r) := by
 unfold r4r_atom_j2 at h
 refine T.seq (T.rL ?_)
 refine mw rfl ?_
 refine mw rfl ?_
 refine sp rfl (OpT.nilCheck rfl (dk rfl) rfl rfl ?_)
 refine sp rfl (OpT.fP rfl (dk rfl) ul88 rfl i3 (by decide) rfl ?_)
 refine sp rfl (OpT.lB (i := 0) rfl (dk rfl) ul3 rfl rfl rfl rfl ?_)
 cases h
theorem r4r_atom_j3_T {r : Int × r4r} (K : Nat) (rec_r4r_alternative : r4r → Option (Int × r4r)) (hrec_r4r_alternative : r4r_alternative_S rec_r4r_alternative) (bx0 : Nat) (x0 : r4r) (b : Value) (h : r4r_atom_j3 K rec_r4r_alternative x0 = some r) : T Tryd.prog 112 (Code.at [1, 1, 0, 0, 1, 1, 1, 1, 1, 1, 1, 1, 1, 1, 1, 1] (codeOf Tryd.f90)) ⟨[(0, .ptr bx0 0)], [(o88 bx0 x0.s x0.at_ b x0.deep x0.e x0.where_), .arrA b 42 9 (x0.nodes.map c_aNd)]⟩ (r4r_atom_qb0x111 bx0 r) := by
 unfold r4r_atom_j3 at h
 refine T.skip (inBlock_normal (tN ?_))
 refine T.seq (T.rL ?_)
 refine mw rfl ?_
 obtain ⟨f, g, h⟩ := bind_some h
 refine sp rfl (OpT.callG (is := [0, 1]) (ph := []) rfl (dk rfl) Tryd.func106 rfl rfl (Args.cons rfl Args.nil) (r4r_one_T K (bx0 := bx0) (wx0c2 := b) g) (.cons rfl rfl (.cons rfl rfl (.nil))) (fun _ => rfl) (fun j => ?_))
 refine nm (.c (.c (.n))) ?_
 refine aw rfl ?_
 refine TL'.nil (tN ?_)
 refine T.seq ?_
 refine T.seq (T.rL ?_)
 refine mw rfl ?_
 refine sp rfl (OpT.nilCheck rfl (dk rfl) rfl rfl ?_)
 refine sp rfl (OpT.fP rfl (dk rfl) ul88 rfl i35 (by decide) rfl ?_)
 refine sp rfl (OpT.lB (i := 0) rfl (dk rfl) ul35 rfl rfl rfl rfl ?_)
 refine sp rfl (OpT.int2 rfl rfl (dk rfl) rfl rfl ?_)
 refine TL'.nil (tN ?_)
 rcases bif_some h with ⟨d, h⟩ | ⟨d, h⟩
 refine T.condT rfl d ?_
 refine T.seq (T.rL ?_)
 cases h
 refine T.condF rfl d ?_
 refine T.skip (tN ?_)
 refine T.seq (T.rL ?_)
 refine mw rfl ?_
 refine mw rfl ?_
 refine sp rfl (OpT.buildSlice (elems := ([f.1] : List Int).map (cI .u8)) rfl (dk rfl) ul32 i5 (by decide) rfl (all1 rfl) rfl rfl rfl (lenAll rfl) (by decide) ?_)
 obtain ⟨a, m, h⟩ := bind_some h
 refine sp rfl (OpT.callPA rfl (dk rfl) Tryd.func19 rfl rfl (Args.cons rfl Args.nil) (CallR.nil (r1_Of_T K (flx0 := true) m)) ?_)
 refine sp rfl (OpT.thenTurn (OpT.build (l := [.int .u8 (2 : Int), .int .u64 a.a0, .int .u64 a.a1, .int .u64 a.a2, .int .u64 a.a3, .ex (.slice none 0 0), .int .i64 (0 : Int), .int .i64 (0 : Int), .str (⟨#[]⟩ : ByteArray)]) rfl (dk rfl) (built_struct (pl := [(0, 1), (1, 4), (5, 1), (6, 1), (7, 1), (8, 1)]) ul42 i42 rfl) (all1 rfl) rfl rfl rfl) (Turn.weakSlotP 110 (l := [.int .u8 (2 : Int), .int .u64 a.a0, .int .u64 a.a1, .int .u64 a.a2, .int .u64 a.a3, .ex (.slice none 0 0), .int .i64 (0 : Int), .int .i64 (0 : Int), .str (⟨#[]⟩ : ByteArray)]) (l' := [.int .u8 (2 : Int), .int .u64 a.a0, .int .u64 a.a1, .int .u64 a.a2, .int .u64 a.a3, .sl false 1 (([] : List Int).map (cI .i64)), .int .i64 (0 : Int), .int .i64 (0 : Int), .str (⟨#[]⟩ : ByteArray)]) (.cons (.same _) (.cons (.same _) (.cons (.same _) (.cons (.same _) (.cons (.same _) (.cons (.nil _ _) (.cons (.same _) (.cons (.same _) (.cons (.same _) (.refl _))))))))))) ?_)
 obtain ⟨u, p, h⟩ := bind_some h
 refine sp rfl (OpT.callG (is := [0, 1]) (ph := []) rfl (dk rfl) Tryd.func65 rfl rfl (Args.cons rfl (Args.cons rfl Args.nil)) (r4r_put_T K (bx0 := bx0) (wx0c2 := (j 0)) p) (.cons rfl rfl (.cons rfl rfl (.nil))) (fun _ => rfl) (fun q => ?_))
 refine nm (.c (.c (.n))) ?_
 refine aw rfl ?_
 refine TL'.nil (tN ?_)
 refine T.ret ?_
 exact Fin.doneK (.cons _ _ _ _ (.tmp 2 _ rfl) .nil) (.cons 0 rfl (.cons 0 rfl (.nil _))) (by cases h; exact ⟨gl [q 0], rfl, rfl⟩)
theorem r4r_atom_j1_T {r : Int × r4r} (K : Nat) (rec_r4r_alternative : r4r → Option (Int × r4r)) (hrec_r4r_alternative : r4r_alternative_S rec_r4r_alternative) (bx0 : Nat) (j : Int) (x0 : r4r) (d : Value) (h : r4r_atom_j1 K rec_r4r_alternative j x0 = some r) : T Tryd.prog 112 (Code.at [1, 1, 0, 0, 1, 1, 1, 1, 1, 1, 1, 1] (codeOf Tryd.f90)) ⟨[(0, .ptr bx0 0), (3, .int .u8 j)], [(o88 bx0 x0.s x0.at_ d x0.deep x0.e x0.where_), .arrA d 42 9 (x0.nodes.map c_aNd)]⟩ (r4r_atom_qb0x111 bx0 r) := by
 unfold r4r_atom_j1 at h
 refine T.seq (T.rL ?_)
 refine mw rfl ?_
 refine sp rfl (OpT.int2 rfl rfl (dk rfl) rfl rfl ?_)
 refine mw rfl ?_
 rcases bif_some h with ⟨b, h⟩ | ⟨b, h⟩
 refine TL'.pU (.off _ _ _ _ rfl rfl rfl b) (dk rfl) ?_
 refine TL'.pU (.off _ _ _ _ rfl rfl rfl b) (dk rfl) ?_
 refine sp rfl (OpT.pickT rfl (dk rfl) rfl b rfl ?_)
 refine aw rfl ?_
 refine TL'.nil (tN ?_)
 refine T.condT rfl rfl ?_
 refine T.by_turn ?_ (r4r_atom_j2_T K rec_r4r_alternative hrec_r4r_alternative bx0 x0 d h)
 exact Turn.rp (.cons rfl (.nil _)) (.c .z (.c .z (.n _)))
 refine TL'.step (.on rfl rfl rfl b) (OpT.move rfl (dk rfl) rfl ?_)
 refine TL'.step (.on rfl rfl rfl b) (OpT.int2 rfl rfl (dk rfl) rfl rfl ?_)
 refine sp rfl (OpT.pickF rfl (dk rfl) rfl b rfl ?_)
 refine aw rfl ?_
 refine TL'.nil (tN ?_)
 rcases bif_some h with ⟨f, h⟩ | ⟨f, h⟩
 refine T.condT rfl f ?_
 refine T.by_turn ?_ (r4r_atom_j2_T K rec_r4r_alternative hrec_r4r_alternative bx0 x0 d h)
 exact Turn.rp (.cons rfl (.nil _)) (.c .z (.c .z (.n _)))
 refine T.condF rfl f ?_
 refine T.seq (T.rL ?_)
 refine mw rfl ?_
 refine sp rfl (OpT.int2 rfl rfl (dk rfl) rfl rfl ?_)
 refine mw rfl ?_
 rcases bif_some h with ⟨a, h⟩ | ⟨a, h⟩
 refine TL'.step (.on rfl rfl rfl a) (OpT.move rfl (dk rfl) rfl ?_)
 obtain ⟨p, l, h⟩ := bind_some h
 refine TL'.step (.on rfl rfl rfl a) (OpT.callPA rfl (dk rfl) Tryd.func105 rfl rfl Args.nil (CallR.nil (r4_special_T K l)) ?_)
 obtain ⟨q, m, h⟩ := bind_some h
 refine TL'.step (.on rfl rfl rfl a) (OpT.callPA rfl (dk rfl) Tryd.func104 rfl rfl (Args.cons rfl (Args.cons rfl Args.nil)) (CallR.nil (r4_in_T K m)) ?_)
 refine sp rfl (OpT.pickT rfl (dk rfl) rfl a rfl ?_)
 refine aw rfl ?_
 refine TL'.nil (tN ?_)
 rcases bif_some h with ⟨g, h⟩ | ⟨g, h⟩
 refine T.condT rfl g ?_
 refine T.seq (T.rL ?_)
 refine mw rfl ?_
 refine mw rfl ?_
 refine sp rfl (OpT.nilCheck rfl (dk rfl) rfl rfl ?_)
 refine sp rfl (OpT.fP rfl (dk rfl) ul88 rfl i3 (by decide) rfl ?_)
 refine sp rfl (OpT.lB (i := 0) rfl (dk rfl) ul3 rfl rfl rfl rfl ?_)
 cases h
 refine T.condF rfl g ?_
 refine T.by_turn ?_ (r4r_atom_j3_T K rec_r4r_alternative hrec_r4r_alternative bx0 x0 d h)
 exact Turn.rp (.cons rfl (.nil _)) (.c .z (.c .z (.n _)))
 refine TL'.pU (.off _ _ _ _ rfl rfl rfl a) (dk rfl) ?_
 refine TL'.pU (.off _ _ _ _ rfl rfl rfl a) (dk rfl) ?_
 refine TL'.pU (.off _ _ _ _ rfl rfl rfl a) (dk rfl) ?_
 refine sp rfl (OpT.pickF rfl (dk rfl) rfl a rfl ?_)
 refine aw rfl ?_
 refine TL'.nil (tN ?_)
 refine T.condF rfl rfl ?_
 refine T.by_turn ?_ (r4r_atom_j3_T K rec_r4r_alternative hrec_r4r_alternative bx0 x0 d h)
 exact Turn.rp (.cons rfl (.nil _)) (.c .z (.c .z (.n _)))
theorem r4r_atom_T (K : Nat) (rec_r4r_alternative : r4r → Option (Int × r4r)) (hrec_r4r_alternative : r4r_alternative_S rec_r4r_alternative) {x0 : r4r} {bx0 : Nat} {wx0c2 : Value} {r : Int × r4r} (h : r4r_atom K rec_r4r_alternative x0 = some r) : CallG Tryd.prog 90 [.ptr bx0 0] [(o88 bx0 x0.s x0.at_ wx0c2 x0.deep x0.e x0.where_), .arrA wx0c2 42 9 (x0.nodes.map c_aNd)] (fun γ => (.int .i64 r.1)) (fun γ => [(o88 bx0 r.2.s r.2.at_ (γ 0) r.2.deep r.2.e r.2.where_), .arrA (γ 0) 42 9 (r.2.nodes.map c_aNd)]) := by
 refine CallT.intro Tryd.func90 rfl (nb rfl) ?_
 show T Tryd.prog 112 (Code.at [] (codeOf Tryd.f90)) ⟨paramSlots 0 [.ptr bx0 0], [(o88 bx0 x0.s x0.at_ wx0c2 x0.deep x0.e x0.where_), .arrA wx0c2 42 9 (x0.nodes.map c_aNd)]⟩ (r4r_atom_q bx0 r)
 unfold r4r_atom at h
 refine T.seq (T.rL ?_)
 refine aw rfl ?_
 refine TL'.nil (tN ?_)
 refine T.seq ?_
 refine DG.start ?_
 refine DG.mv rfl rfl rfl rfl rfl rfl ?_
 refine DG.step (c := ⟨some 6, .ptr bx0 0, [(5, .ptr bx0 0)], [], []⟩) (fun t hm => One.step rfl (.free rfl) (OpT.nilCheck rfl (dk rfl) hm.s0 rfl rfl)) (Ct.mo rfl rfl) ?_
 refine DG.step (c := ⟨some 7, .ptr bx0 (0 + 0), [(6, .ptr bx0 0)], [], []⟩) (fun t hm => One.step rfl (.free rfl) (OpT.fP rfl (dk rfl) ul88 rfl i9 (by decide) hm.s0 rfl)) (Ct.mo rfl rfl) ?_
 refine DG.step (c := ⟨some 8, .str x0.s, [(7, .ptr bx0 (0 + 0))], [(0, (o88 bx0 x0.s x0.at_ wx0c2 x0.deep x0.e x0.where_))], []⟩) (fun t hm => One.step rfl (.free rfl) (OpT.lB (i := 0) rfl (dk rfl) ul9 rfl hm.s0 hm.o0 rfl rfl)) (Ct.mo rfl rfl) ?_
 refine DG.mv rfl rfl rfl rfl rfl rfl ?_
 refine DG.step (c := ⟨some 10, .ptr bx0 0, [(9, .ptr bx0 0)], [], []⟩) (fun t hm => One.step rfl (.free rfl) (OpT.nilCheck rfl (dk rfl) hm.s0 rfl rfl)) (Ct.mo rfl rfl) ?_
 refine DG.step (c := ⟨some 11, .ptr bx0 (0 + 1), [(10, .ptr bx0 0)], [], []⟩) (fun t hm => One.step rfl (.free rfl) (OpT.fP rfl (dk rfl) ul88 rfl i3 (by decide) hm.s0 rfl)) (Ct.mo rfl rfl) ?_
 refine DG.step (c := ⟨some 12, .int .i64 x0.at_, [(11, .ptr bx0 (0 + 1))], [(0, (o88 bx0 x0.s x0.at_ wx0c2 x0.deep x0.e x0.where_))], []⟩) (fun t hm => One.step rfl (.free rfl) (OpT.lB (i := 0) rfl (dk rfl) ul3 rfl hm.s0 hm.o0 rfl rfl)) (Ct.mo rfl rfl) ?_
 obtain ⟨m, h⟩ := ck_some h
 refine DG.step (c := ⟨some 13, .int .u8 (bt x0.s x0.at_), [(8, .str x0.s), (12, .int .i64 x0.at_)], [], []⟩) (fun t hm => One.step rfl (.free rfl) (OpT.indexStr rfl (dk rfl) ul9 hm.s0 hm.s1 m.1 m.2 rfl)) (Ct.mo rfl rfl) ?_
 refine DG.step (c := ⟨some 3, .int .u8 (bt x0.s x0.at_), [(13, .int .u8 (bt x0.s x0.at_))], [], []⟩) (fun t hm => One.step rfl (.free rfl) (OpT.assign rfl (dk rfl) hm.s0 rfl)) (Ct.mo rfl rfl) ?_
 refine DG.fin (s1 := ⟨[(0, .ptr bx0 0), (3, .int .u8 (bt x0.s x0.at_))], [(o88 bx0 x0.s x0.at_ wx0c2 x0.deep x0.e x0.where_), .arrA wx0c2 42 9 (x0.nodes.map c_aNd)]⟩) (ms := [0, 1, 3, 7, 0, 16, 48, 112, 255, 511]) TrydMixed rfl (by kernel_rfl) (by kernel_rfl) (by kernel_rfl) (.cons rfl (.cons rfl (.nil _))) rfl (fun u hu => (tN (T.by_turn hu ?_)))
 refine T.seq ?_
 refine T.block ?_
 refine T.seq (T.rL ?_)
 refine mw rfl ?_
 refine sp rfl (OpT.int2 rfl rfl (dk rfl) rfl rfl ?_)
 refine aw rfl ?_
 refine TL'.nil (tN ?_)
 rcases bif_some h with ⟨f, h⟩ | ⟨f, h⟩
 refine T.condT rfl f ?_
 refine T.seq (T.rL ?_)
 refine mw rfl ?_
 obtain ⟨y, q, h⟩ := bind_some h
 refine sp rfl (OpT.callG (is := [0, 1]) (ph := []) rfl (dk rfl) Tryd.func101 rfl rfl (Args.cons rfl Args.nil) (r4r_group_T K rec_r4r_alternative hrec_r4r_alternative (bx0 := bx0) (wx0c2 := wx0c2) q) (.cons rfl rfl (.cons rfl rfl (.nil))) (fun _ => rfl) (fun v => ?_))
 refine nm (.c (.c (.n))) ?_
 refine aw rfl ?_
 refine TL'.nil (tN ?_)
 refine T.ret (inBlock_ret (thenS_ret ?_))
 exact Fin.doneK (.cons _ _ _ _ (.tmp 2 _ rfl) .nil) (.cons 0 rfl (.cons 0 rfl (.nil _))) (by cases h; exact ⟨gl [v 0], rfl, rfl⟩)
 refine T.condF rfl f ?_
 refine T.seq (T.rL ?_)
 refine mw rfl ?_
 refine sp rfl (OpT.int2 rfl rfl (dk rfl) rfl rfl ?_)
 refine aw rfl ?_
 refine TL'.nil (tN ?_)
 rcases bif_some h with ⟨g, h⟩ | ⟨g, h⟩
 refine T.condT rfl g ?_
 refine T.seq (T.rL ?_)
 refine mw rfl ?_
 cases h
 refine T.condF rfl g ?_
 refine T.seq (T.rL ?_)
 refine mw rfl ?_
 refine sp rfl (OpT.int2 rfl rfl (dk rfl) rfl rfl ?_)
 refine aw rfl ?_
 refine TL'.nil (tN ?_)
 rcases bif_some h with ⟨j, h⟩ | ⟨j, h⟩
 refine T.condT rfl j ?_
 refine T.seq (T.rL ?_)
 cases h
 refine T.condF rfl j ?_
 refine T.seq ?_
 refine DG.start ?_
 refine DG.mv rfl rfl rfl rfl rfl rfl ?_
 refine DG.step (c := ⟨some 42, .bool ((bt x0.s x0.at_) == (123 : Int)), [(41, .int .u8 (bt x0.s x0.at_))], [], []⟩) (fun t hm => One.step rfl (.free rfl) (OpT.int2 rfl rfl (dk rfl) hm.s0 rfl rfl)) (Ct.mo rfl rfl) ?_
 refine DG.mv rfl rfl rfl rfl rfl rfl ?_
 rcases bif_some h with ⟨a, h⟩ | ⟨a, h⟩
 refine DG.step (c := ⟨some 44, .ptr bx0 0, [(0, .ptr bx0 0), (43, .bool ((bt x0.s x0.at_) == (123 : Int)))], [], []⟩) (fun t hm => One.step rfl (.on rfl rfl hm.s1 a) (OpT.move rfl (dk rfl) hm.s0 rfl)) (Ct.mo rfl rfl) ?_
 refine DG.step (c := ⟨some 45, .ptr bx0 0, [(44, .ptr bx0 0), (43, .bool ((bt x0.s x0.at_) == (123 : Int)))], [], []⟩) (fun t hm => One.step rfl (.on rfl rfl hm.s1 a) (OpT.nilCheck rfl (dk rfl) hm.s0 rfl rfl)) (Ct.mo rfl rfl) ?_
 refine DG.step (c := ⟨some 46, .ptr bx0 (0 + 1), [(45, .ptr bx0 0), (43, .bool ((bt x0.s x0.at_) == (123 : Int)))], [], []⟩) (fun t hm => One.step rfl (.on rfl rfl hm.s1 a) (OpT.fP rfl (dk rfl) ul88 rfl i3 (by decide) hm.s0 rfl)) (Ct.mo rfl rfl) ?_
 refine DG.step (c := ⟨some 47, .int .i64 x0.at_, [(46, .ptr bx0 (0 + 1)), (43, .bool ((bt x0.s x0.at_) == (123 : Int)))], [(0, (o88 bx0 x0.s x0.at_ wx0c2 x0.deep x0.e x0.where_))], []⟩) (fun t hm => One.step rfl (.on rfl rfl hm.s1 a) (OpT.lB (i := 0) rfl (dk rfl) ul3 rfl hm.s0 hm.o0 rfl rfl)) (Ct.mo rfl rfl) ?_
 refine DG.step (c := ⟨some 48, .int .i64 (wI (x0.at_ + (1 : Int))), [(47, .int .i64 x0.at_), (43, .bool ((bt x0.s x0.at_) == (123 : Int)))], [], []⟩) (fun t hm => One.step rfl (.on rfl rfl hm.s1 a) (OpT.int2 rfl rfl (dk rfl) hm.s0 rfl rfl)) (Ct.mo rfl rfl) ?_
 refine DG.step (c := ⟨some 49, .ptr bx0 0, [(0, .ptr bx0 0), (43, .bool ((bt x0.s x0.at_) == (123 : Int)))], [], []⟩) (fun t hm => One.step rfl (.on rfl rfl hm.s1 a) (OpT.move rfl (dk rfl) hm.s0 rfl)) (Ct.mo rfl rfl) ?_
 refine DG.step (c := ⟨some 50, .ptr bx0 0, [(49, .ptr bx0 0), (43, .bool ((bt x0.s x0.at_) == (123 : Int)))], [], []⟩) (fun t hm => One.step rfl (.on rfl rfl hm.s1 a) (OpT.nilCheck rfl (dk rfl) hm.s0 rfl rfl)) (Ct.mo rfl rfl) ?_
 refine DG.step (c := ⟨some 51, .ptr bx0 (0 + 0), [(50, .ptr bx0 0), (43, .bool ((bt x0.s x0.at_) == (123 : Int)))], [], []⟩) (fun t hm => One.step rfl (.on rfl rfl hm.s1 a) (OpT.fP rfl (dk rfl) ul88 rfl i9 (by decide) hm.s0 rfl)) (Ct.mo rfl rfl) ?_
 refine DG.step (c := ⟨some 52, .str x0.s, [(51, .ptr bx0 (0 + 0)), (43, .bool ((bt x0.s x0.at_) == (123 : Int)))], [(0, (o88 bx0 x0.s x0.at_ wx0c2 x0.deep x0.e x0.where_))], []⟩) (fun t hm => One.step rfl (.on rfl rfl hm.s1 a) (OpT.lB (i := 0) rfl (dk rfl) ul9 rfl hm.s0 hm.o0 rfl rfl)) (Ct.mo rfl rfl) ?_
 refine DG.step (c := ⟨some 53, .int .i64 (x0.s.size : Int), [(52, .str x0.s), (43, .bool ((bt x0.s x0.at_) == (123 : Int)))], [], []⟩) (fun t hm => One.step rfl (.on rfl rfl hm.s1 a) (OpT.lenStr rfl (dk rfl) ul9 hm.s0 rfl)) (Ct.mo rfl rfl) ?_
 refine DG.step (c := ⟨some 54, .bool (decide ((wI (x0.at_ + (1 : Int))) ≥ (x0.s.size : Int))), [(48, .int .i64 (wI (x0.at_ + (1 : Int)))), (53, .int .i64 (x0.s.size : Int)), (43, .bool ((bt x0.s x0.at_) == (123 : Int)))], [], []⟩) (fun t hm => One.step rfl (.on rfl rfl hm.s2 a) (OpT.int2 rfl rfl (dk rfl) hm.s0 hm.s1 rfl)) (Ct.mo rfl rfl) ?_
 refine DG.step (c := ⟨some 55, .bool (decide ((wI (x0.at_ + (1 : Int))) ≥ (x0.s.size : Int))), [(54, .bool (decide ((wI (x0.at_ + (1 : Int))) ≥ (x0.s.size : Int)))), (43, .bool ((bt x0.s x0.at_) == (123 : Int)))], [], []⟩) (fun t hm => One.step rfl (.on rfl rfl hm.s1 a) (OpT.move rfl (dk rfl) hm.s0 rfl)) (Ct.mo rfl rfl) ?_
 rcases bif_some h with ⟨b, h⟩ | ⟨b, h⟩
 refine DG.off b rfl rfl rfl rfl rfl rfl ?_
 refine DG.off b rfl rfl rfl rfl rfl rfl ?_
 refine DG.off b rfl rfl rfl rfl rfl rfl ?_
 refine DG.off b rfl rfl rfl rfl rfl rfl ?_
 refine DG.off b rfl rfl rfl rfl rfl rfl ?_
 refine DG.off b rfl rfl rfl rfl rfl rfl ?_
 refine DG.off b rfl rfl rfl rfl rfl rfl ?_
 refine DG.off b rfl rfl rfl rfl rfl rfl ?_
 refine DG.off b rfl rfl rfl rfl rfl rfl ?_
 refine DG.off b rfl rfl rfl rfl rfl rfl ?_
 refine DG.off b rfl rfl rfl rfl rfl rfl ?_
 refine DG.off b rfl rfl rfl rfl rfl rfl ?_
 refine DG.step (c := ⟨some 68, .bool true, [(55, .bool (decide ((wI (x0.at_ + (1 : Int))) ≥ (x0.s.size : Int)))), (43, .bool ((bt x0.s x0.at_) == (123 : Int)))], [], []⟩) (fun t hm => One.step rfl (.on rfl rfl hm.s1 a) (OpT.pickT rfl (dk rfl) hm.s0 b rfl rfl)) (Ct.mo rfl rfl) ?_
 refine DG.step (c := ⟨some 69, .bool true, [(43, .bool ((bt x0.s x0.at_) == (123 : Int))), (68, .bool true)], [], []⟩) (fun t hm => One.step rfl (.free rfl) (OpT.pickT rfl (dk rfl) hm.s0 a hm.s1 rfl)) (Ct.mo rfl rfl) ?_
 refine DG.step (c := ⟨some 40, .bool true, [(69, .bool true)], [], []⟩) (fun t hm => One.step rfl (.free rfl) (OpT.assign rfl (dk rfl) hm.s0 rfl)) (Ct.mo rfl rfl) ?_
 refine DG.fin (s1 := ⟨[(0, .ptr bx0 0), (3, .int .u8 (bt x0.s x0.at_)), (40, .bool true)], [(o88 bx0 x0.s x0.at_ wx0c2 x0.deep x0.e x0.where_), .arrA wx0c2 42 9 (x0.nodes.map c_aNd)]⟩) (ms := [0, 1, 3, 7, 15, 31, 63, 127, 7, 263, 775, 1799, 3847, 8191, 16383, 32767, 65535, 131071, 262143, 32767, 557055, 1605631, 3702783, 7897087, 16777215, 33554431, 67108863, 134217727, 268435455, 536870911]) TrydMixed rfl (by kernel_rfl) (by kernel_rfl) (by kernel_rfl) (.cons rfl (.cons rfl (.cons rfl (.nil _)))) rfl (fun u hu => (tN (T.by_turn hu ?_)))
 refine T.condT rfl rfl ?_
 refine T.by_turn ?_ (r4r_atom_j0_T K rec_r4r_alternative hrec_r4r_alternative bx0 x0 wx0c2 h)
 exact Turn.rp (.cons rfl (.nil _)) (.c .z (.c .z (.n _)))
 refine DG.step (c := ⟨some 56, .ptr bx0 0, [(0, .ptr bx0 0), (55, .bool (decide ((wI (x0.at_ + (1 : Int))) ≥ (x0.s.size : Int))))], [], []⟩) (fun t hm => One.step rfl (.on rfl rfl hm.s1 b) (OpT.move rfl (dk rfl) hm.s0 rfl)) (Ct.mo rfl rfl) ?_
 refine DG.step (c := ⟨some 57, .ptr bx0 0, [(56, .ptr bx0 0), (55, .bool (decide ((wI (x0.at_ + (1 : Int))) ≥ (x0.s.size : Int))))], [], []⟩) (fun t hm => One.step rfl (.on rfl rfl hm.s1 b) (OpT.nilCheck rfl (dk rfl) hm.s0 rfl rfl)) (Ct.mo rfl rfl) ?_
 refine DG.step (c := ⟨some 58, .ptr bx0 (0 + 0), [(57, .ptr bx0 0), (55, .bool (decide ((wI (x0.at_ + (1 : Int))) ≥ (x0.s.size : Int))))], [], []⟩) (fun t hm => One.step rfl (.on rfl rfl hm.s1 b) (OpT.fP rfl (dk rfl) ul88 rfl i9 (by decide) hm.s0 rfl)) (Ct.mo rfl rfl) ?_
 refine DG.step (c := ⟨some 59, .str x0.s, [(58, .ptr bx0 (0 + 0)), (55, .bool (decide ((wI (x0.at_ + (1 : Int))) ≥ (x0.s.size : Int))))], [(0, (o88 bx0 x0.s x0.at_ wx0c2 x0.deep x0.e x0.where_))], []⟩) (fun t hm => One.step rfl (.on rfl rfl hm.s1 b) (OpT.lB (i := 0) rfl (dk rfl) ul9 rfl hm.s0 hm.o0 rfl rfl)) (Ct.mo rfl rfl) ?_
 refine DG.step (c := ⟨some 60, .ptr bx0 0, [(0, .ptr bx0 0), (55, .bool (decide ((wI (x0.at_ + (1 : Int))) ≥ (x0.s.size : Int))))], [], []⟩) (fun t hm => One.step rfl (.on rfl rfl hm.s1 b) (OpT.move rfl (dk rfl) hm.s0 rfl)) (Ct.mo rfl rfl) ?_
 refine DG.step (c := ⟨some 61, .ptr bx0 0, [(60, .ptr bx0 0), (55, .bool (decide ((wI (x0.at_ + (1 : Int))) ≥ (x0.s.size : Int))))], [], []⟩) (fun t hm => One.step rfl (.on rfl rfl hm.s1 b) (OpT.nilCheck rfl (dk rfl) hm.s0 rfl rfl)) (Ct.mo rfl rfl) ?_
 refine DG.step (c := ⟨some 62, .ptr bx0 (0 + 1), [(61, .ptr bx0 0), (55, .bool (decide ((wI (x0.at_ + (1 : Int))) ≥ (x0.s.size : Int))))], [], []⟩) (fun t hm => One.step rfl (.on rfl rfl hm.s1 b) (OpT.fP rfl (dk rfl) ul88 rfl i3 (by decide) hm.s0 rfl)) (Ct.mo rfl rfl) ?_
 refine DG.step (c := ⟨some 63, .int .i64 x0.at_, [(62, .ptr bx0 (0 + 1)), (55, .bool (decide ((wI (x0.at_ + (1 : Int))) ≥ (x0.s.size : Int))))], [(0, (o88 bx0 x0.s x0.at_ wx0c2 x0.deep x0.e x0.where_))], []⟩) (fun t hm => One.step rfl (.on rfl rfl hm.s1 b) (OpT.lB (i := 0) rfl (dk rfl) ul3 rfl hm.s0 hm.o0 rfl rfl)) (Ct.mo rfl rfl) ?_
 refine DG.step (c := ⟨some 64, .int .i64 (wI (x0.at_ + (1 : Int))), [(63, .int .i64 x0.at_), (55, .bool (decide ((wI (x0.at_ + (1 : Int))) ≥ (x0.s.size : Int))))], [], []⟩) (fun t hm => One.step rfl (.on rfl rfl hm.s1 b) (OpT.int2 rfl rfl (dk rfl) hm.s0 rfl rfl)) (Ct.mo rfl rfl) ?_
 obtain ⟨p, h⟩ := ck_some h
 refine DG.step (c := ⟨some 65, .int .u8 (bt x0.s (wI (x0.at_ + (1 : Int)))), [(59, .str x0.s), (64, .int .i64 (wI (x0.at_ + (1 : Int)))), (55, .bool (decide ((wI (x0.at_ + (1 : Int))) ≥ (x0.s.size : Int))))], [], []⟩) (fun t hm => One.step rfl (.on rfl rfl hm.s2 b) (OpT.indexStr rfl (dk rfl) ul9 hm.s0 hm.s1 p.1 p.2 rfl)) (Ct.mo rfl rfl) ?_
 obtain ⟨d, w, h⟩ := bind_some h
 refine DG.step (c := ⟨some 66, .bool d, [(65, .int .u8 (bt x0.s (wI (x0.at_ + (1 : Int))))), (55, .bool (decide ((wI (x0.at_ + (1 : Int))) ≥ (x0.s.size : Int))))], [], []⟩) (fun t hm => One.step rfl (.on rfl rfl hm.s1 b) (OpT.callPA rfl (dk rfl) Tryd.func81 rfl rfl (Args.cons hm.s0 Args.nil) (CallR.nil (r4_digit_T K w)) rfl)) (Ct.mo rfl rfl) ?_
 refine DG.step (c := ⟨some 67, .bool (!d), [(66, .bool d), (55, .bool (decide ((wI (x0.at_ + (1 : Int))) ≥ (x0.s.size : Int))))], [], []⟩) (fun t hm => One.step rfl (.on rfl rfl hm.s1 b) (OpT.not rfl (dk rfl) hm.s0 rfl)) (Ct.mo rfl rfl) ?_
 refine DG.step (c := ⟨some 68, .bool (!d), [(55, .bool (decide ((wI (x0.at_ + (1 : Int))) ≥ (x0.s.size : Int)))), (67, .bool (!d)), (43, .bool ((bt x0.s x0.at_) == (123 : Int)))], [], []⟩) (fun t hm => One.step rfl (.on rfl rfl hm.s2 a) (OpT.pickF rfl (dk rfl) hm.s0 b hm.s1 rfl)) (Ct.mo rfl rfl) ?_
 refine DG.step (c := ⟨some 69, .bool (!d), [(43, .bool ((bt x0.s x0.at_) == (123 : Int))), (68, .bool (!d))], [], []⟩) (fun t hm => One.step rfl (.free rfl) (OpT.pickT rfl (dk rfl) hm.s0 a hm.s1 rfl)) (Ct.mo rfl rfl) ?_
 refine DG.step (c := ⟨some 40, .bool (!d), [(69, .bool (!d))], [], []⟩) (fun t hm => One.step rfl (.free rfl) (OpT.assign rfl (dk rfl) hm.s0 rfl)) (Ct.mo rfl rfl) ?_
 refine DG.fin (s1 := ⟨[(0, .ptr bx0 0), (3, .int .u8 (bt x0.s x0.at_)), (40, .bool (!d))], [(o88 bx0 x0.s x0.at_ wx0c2 x0.deep x0.e x0.where_), .arrA wx0c2 42 9 (x0.nodes.map c_aNd)]⟩) (ms := [0, 1, 3, 7, 15, 31, 63, 127, 7, 263, 775, 1799, 3847, 8191, 16383, 32767, 65535, 131071, 262143, 32767, 557055, 1605631, 3702783, 7897087, 16777215, 33554431, 67108863, 134217727, 268435455, 536870911]) TrydMixed rfl (by kernel_rfl) (by kernel_rfl) (by kernel_rfl) (.cons rfl (.cons rfl (.cons rfl (.nil _)))) rfl (fun u hu => (tN (T.by_turn hu ?_)))
 rcases bif_some h with ⟨l, h⟩ | ⟨l, h⟩
 refine T.condT rfl l ?_
 refine T.by_turn ?_ (r4r_atom_j0_T K rec_r4r_alternative hrec_r4r_alternative bx0 x0 wx0c2 h)
 exact Turn.rp (.cons rfl (.nil _)) (.c .z (.c .z (.n _)))
 refine T.condF rfl l ?_
 refine T.by_turn ?_ (r4r_atom_j1_T K rec_r4r_alternative hrec_r4r_alternative bx0 (bt x0.s x0.at_) x0 wx0c2 h)
 exact Turn.rp (.cons rfl (.cons rfl (.nil _))) (.c .z (.c .z (.n _)))
 refine DG.off a rfl rfl rfl rfl rfl rfl ?_
 refine DG.off a rfl rfl rfl rfl rfl rfl ?_
 refine DG.off a rfl rfl rfl rfl rfl rfl ?_
 refine DG.off a rfl rfl rfl rfl rfl rfl ?_
 refine DG.off a rfl rfl rfl rfl rfl rfl ?_
 refine DG.off a rfl rfl rfl rfl rfl rfl ?_
 refine DG.off a rfl rfl rfl rfl rfl rfl ?_
 refine DG.off a rfl rfl rfl rfl rfl rfl ?_
 refine DG.off a rfl rfl rfl rfl rfl rfl ?_
 refine DG.off a rfl rfl rfl rfl rfl rfl ?_
 refine DG.off a rfl rfl rfl rfl rfl rfl ?_
 refine DG.off a rfl rfl rfl rfl rfl rfl ?_
 refine DG.gone rfl rfl rfl rfl rfl rfl ?_
 refine DG.gone rfl rfl rfl rfl rfl rfl ?_
 refine DG.gone rfl rfl rfl rfl rfl rfl ?_
 refine DG.gone rfl rfl rfl rfl rfl rfl ?_
 refine DG.gone rfl rfl rfl rfl rfl rfl ?_
 refine DG.gone rfl rfl rfl rfl rfl rfl ?_
 refine DG.gone rfl rfl rfl rfl rfl rfl ?_
 refine DG.gone rfl rfl rfl rfl rfl rfl ?_
 refine DG.gone rfl rfl rfl rfl rfl rfl ?_
 refine DG.gone rfl rfl rfl rfl rfl rfl ?_
 refine DG.gone rfl rfl rfl rfl rfl rfl ?_
 refine DG.gone rfl rfl rfl rfl rfl rfl ?_
 refine DG.off a rfl rfl rfl rfl rfl rfl ?_
 refine DG.step (c := ⟨some 69, .bool false, [(43, .bool ((bt x0.s x0.at_) == (123 : Int)))], [], []⟩) (fun t hm => One.step rfl (.free rfl) (OpT.pickF rfl (dk rfl) hm.s0 a rfl rfl)) (Ct.mo rfl rfl) ?_
 refine DG.step (c := ⟨some 40, .bool false, [(69, .bool false)], [], []⟩) (fun t hm => One.step rfl (.free rfl) (OpT.assign rfl (dk rfl) hm.s0 rfl)) (Ct.mo rfl rfl) ?_
 refine DG.fin (s1 := ⟨[(0, .ptr bx0 0), (3, .int .u8 (bt x0.s x0.at_)), (40, .bool false)], [(o88 bx0 x0.s x0.at_ wx0c2 x0.deep x0.e x0.where_), .arrA wx0c2 42 9 (x0.nodes.map c_aNd)]⟩) (ms := [0, 1, 3, 7, 15, 31, 63, 127, 7, 263, 775, 1799, 3847, 8191, 16383, 32767, 65535, 131071, 262143, 32767, 557055, 1605631, 3702783, 7897087, 16777215, 33554431, 67108863, 134217727, 268435455, 536870911]) TrydMixed rfl (by kernel_rfl) (by kernel_rfl) (by kernel_rfl) (.cons rfl (.cons rfl (.cons rfl (.nil _)))) rfl (fun u hu => (tN (T.by_turn hu ?_)))
 refine T.condF rfl rfl ?_
 refine T.by_turn ?_ (r4r_atom_j1_T K rec_r4r_alternative hrec_r4r_alternative bx0 (bt x0.s x0.at_) x0 wx0c2 h)
 exact Turn.rp (.cons rfl (.cons rfl (.nil _))) (.c .z (.c .z (.n _)))
abbrev r4r_number_q (bx0 : Nat) (r : Int × r4r) : Exit → St → Prop := retS Tryd.prog Tryd.f107 (fun y t => ∃ γ : Nat → Value, y = (.int .i64 r.1) ∧ t = [(o88 bx0 r.2.s r.2.at_ (γ 0) r.2.deep r.2.e r.2.where_), .arrA (γ 0) 42 9 (r.2.nodes.map c_aNd)])
abbrev r4r_number_qs11111 (bx0 : Nat) (r : Int × r4r) : Exit → St → Prop := thenS (fun s' => T Tryd.prog 72 (Code.at [1, 1, 1, 1, 1] (codeOf Tryd.f107)) s' ((r4r_number_q bx0 r))) ((r4r_number_q bx0 r))
abbrev r4r_number_qs1111 (bx0 : Nat) (r : Int × r4r) : Exit → St → Prop := thenS (fun s' => T Tryd.prog 72 (Code.at [1, 1, 1, 1] (codeOf Tryd.f107)) s' ((r4r_number_q bx0 r))) ((r4r_number_q bx0 r))
abbrev r4r_number_qb0x1111 (bx0 : Nat) (r : Int × r4r) : Exit → St → Prop := inBlockS 0 ((r4r_number_qs1111 bx0 r))
abbrev r4r_number_ql11100 (bx0 : Nat) (r : Int × r4r) : Exit → St → Prop := thenS (fun s' => TL Tryd.prog 72 (Code.at [1, 1, 1, 0, 0, 0] (codeOf Tryd.f107)) s' ((r4r_number_qb0x1111 bx0 r))) ((r4r_number_qb0x1111 bx0 r))
abbrev r4r_number_qs1110001 (bx0 : Nat) (r : Int × r4r) : Exit → St → Prop := thenS (fun s' => T Tryd.prog 72 (Code.at [1, 1, 1, 0, 0, 0, 1] (codeOf Tryd.f107)) s' ((r4r_number_ql11100 bx0 r))) ((r4r_number_ql11100 bx0 r))
theorem r4r_number_j2_T {r : Int × r4r} (K : Nat) (bx0 : Nat) (a : ByteArray) (b : Int) (c : Int) (d : Int) (f : Int) (g : List aNd) (i : Value) (h : r4r_number_j2 K a b c d f g = some r) : T Tryd.prog 72 (Code.at [1, 1, 1, 1, 0, 1, 0] (codeOf Tryd.f107)) ⟨[], [(o88 bx0 a b i c d f), .arrA i 42 9 (g.map c_aNd)]⟩ (r4r_number_qs11111 bx0 r) := by
 unfold r4r_number_j2 at h
 refine T.seq (T.rL ?_)
 cases h
theorem r4r_number_j1_T {r : Int × r4r} (K : Nat) (bx0 : Nat) (s : Int) (x0 : r4r) (f : ByteArray) (g : Int) (j : Int) (l : Int) (m : Int) (p : List aNd) (d : Value) (h : r4r_number_j1 K s x0 f g j l m p = some r) : T Tryd.prog 72 (Code.at [1, 1, 1, 0, 0, 0, 0, 1, 1] (codeOf Tryd.f107)) ⟨[(0, .ptr bx0 0), (3, .int .i64 s), (4, .int .i64 x0.at_)], [(o88 bx0 f g d j l m), .arrA d 42 9 (p.map c_aNd)]⟩ (r4r_number_qs1110001 bx0 r) := by
 unfold r4r_number_j1 at h
 refine T.exit (thenS_exit (thenS_exit (inBlock_exit (tN ?_))))
 refine T.seq ?_
 refine T.seq (T.rL ?_)
 refine mw rfl ?_
 refine sp rfl (OpT.nilCheck rfl (dk rfl) rfl rfl ?_)
 refine sp rfl (OpT.fP rfl (dk rfl) ul88 rfl i3 (by decide) rfl ?_)
 refine sp rfl (OpT.lB (i := 0) rfl (dk rfl) ul3 rfl rfl rfl rfl ?_)
 refine mw rfl ?_
 refine sp rfl (OpT.int2 rfl rfl (dk rfl) rfl rfl ?_)
 refine sp rfl (OpT.int2 rfl rfl (dk rfl) rfl rfl ?_)
 refine mw rfl ?_
 rcases bif_some h with ⟨a, h⟩ | ⟨a, h⟩
 refine TL'.pU (.off _ _ _ _ rfl rfl rfl a) (dk rfl) ?_
 refine TL'.pU (.off _ _ _ _ rfl rfl rfl a) (dk rfl) ?_
 refine TL'.pU (.off _ _ _ _ rfl rfl rfl a) (dk rfl) ?_
 refine TL'.pU (.off _ _ _ _ rfl rfl rfl a) (dk rfl) ?_
 refine TL'.pU (.off _ _ _ _ rfl rfl rfl a) (dk rfl) ?_
 refine TL'.pU (.off _ _ _ _ rfl rfl rfl a) (dk rfl) ?_
 refine TL'.pU (.off _ _ _ _ rfl rfl rfl a) (dk rfl) ?_
 refine TL'.pU (.off _ _ _ _ rfl rfl rfl a) (dk rfl) ?_
 refine TL'.pU (.gone _ _ _ rfl rfl rfl) (dk rfl) ?_
 refine TL'.pU (.gone _ _ _ rfl rfl rfl) (dk rfl) ?_
 refine TL'.pU (.gone _ _ _ rfl rfl rfl) (dk rfl) ?_
 refine TL'.pU (.gone _ _ _ rfl rfl rfl) (dk rfl) ?_
 refine TL'.pU (.gone _ _ _ rfl rfl rfl) (dk rfl) ?_
 refine TL'.pU (.gone _ _ _ rfl rfl rfl) (dk rfl) ?_
 refine TL'.pU (.gone _ _ _ rfl rfl rfl) (dk rfl) ?_
 refine TL'.pU (.off _ _ _ _ rfl rfl rfl a) (dk rfl) ?_
 refine sp rfl (OpT.pickT rfl (dk rfl) rfl a rfl ?_)
 refine TL'.nil (tN ?_)
 refine T.condT rfl rfl ?_
 refine T.by_turn ?_ (r4r_number_j2_T K bx0 f g j l m p d h)
 exact Turn.rp (.nil _) (.c .z (.c .z (.n _)))
 refine TL'.step (.on rfl rfl rfl a) (OpT.move rfl (dk rfl) rfl ?_)
 refine TL'.step (.on rfl rfl rfl a) (OpT.nilCheck rfl (dk rfl) rfl rfl ?_)
 refine TL'.step (.on rfl rfl rfl a) (OpT.fP rfl (dk rfl) ul88 rfl i9 (by decide) rfl ?_)
 refine TL'.step (.on rfl rfl rfl a) (OpT.lB (i := 0) rfl (dk rfl) ul9 rfl rfl rfl rfl ?_)
 refine TL'.step (.on rfl rfl rfl a) (OpT.move rfl (dk rfl) rfl ?_)
 obtain ⟨u, h⟩ := ck_some h
 refine TL'.step (.on rfl rfl rfl a) (OpT.indexStr rfl (dk rfl) ul9 rfl rfl u.1 u.2 ?_)
 refine TL'.step (.on rfl rfl rfl a) (OpT.int2 rfl rfl (dk rfl) rfl rfl ?_)
 refine TL'.step (.on rfl rfl rfl a) (OpT.move rfl (dk rfl) rfl ?_)
 rcases bif_some h with ⟨b, h⟩ | ⟨b, h⟩
 refine TL'.step (.on rfl rfl rfl b) (OpT.move rfl (dk rfl) rfl ?_)
 refine TL'.step (.on rfl rfl rfl b) (OpT.nilCheck rfl (dk rfl) rfl rfl ?_)
 refine TL'.step (.on rfl rfl rfl b) (OpT.fP rfl (dk rfl) ul88 rfl i3 (by decide) rfl ?_)
 refine TL'.step (.on rfl rfl rfl b) (OpT.lB (i := 0) rfl (dk rfl) ul3 rfl rfl rfl rfl ?_)
 refine TL'.step (.on rfl rfl rfl b) (OpT.move rfl (dk rfl) rfl ?_)
 refine TL'.step (.on rfl rfl rfl b) (OpT.int2 rfl rfl (dk rfl) rfl rfl ?_)
 refine TL'.step (.on rfl rfl rfl b) (OpT.int2 rfl rfl (dk rfl) rfl rfl ?_)
 refine TL'.step (.on rfl rfl rfl a) (OpT.pickT rfl (dk rfl) rfl b rfl ?_)
 refine sp rfl (OpT.pickF rfl (dk rfl) rfl a rfl ?_)
 refine TL'.nil (tN ?_)
 rcases bif_some h with ⟨q, h⟩ | ⟨q, h⟩
 refine T.condT rfl q ?_
 refine T.by_turn ?_ (r4r_number_j2_T K bx0 f g j l m p d h)
 exact Turn.rp (.nil _) (.c .z (.c .z (.n _)))
 refine T.condF rfl q ?_
 refine T.skip (tN ?_)
 refine T.seq (T.rL ?_)
 refine mw rfl ?_
 refine aw rfl ?_
 refine TL'.nil (tN ?_)
 refine T.ret ?_
 exact Fin.doneK (.cons _ _ _ _ (.tmp 2 _ rfl) .nil) (.cons 0 rfl (.cons 0 rfl (.nil _))) (by cases h; exact ⟨gl [d], rfl, rfl⟩)
 refine TL'.pU (.off _ _ _ _ rfl rfl rfl b) (dk rfl) ?_
 refine TL'.pU (.off _ _ _ _ rfl rfl rfl b) (dk rfl) ?_
 refine TL'.pU (.off _ _ _ _ rfl rfl rfl b) (dk rfl) ?_
 refine TL'.pU (.off _ _ _ _ rfl rfl rfl b) (dk rfl) ?_
 refine TL'.pU (.off _ _ _ _ rfl rfl rfl b) (dk rfl) ?_
 refine TL'.pU (.off _ _ _ _ rfl rfl rfl b) (dk rfl) ?_
 refine TL'.pU (.off _ _ _ _ rfl rfl rfl b) (dk rfl) ?_
 refine TL'.step (.on rfl rfl rfl a) (OpT.pickF rfl (dk rfl) rfl b rfl ?_)
 refine sp rfl (OpT.pickF rfl (dk rfl) rfl a rfl ?_)
 refine TL'.nil (tN ?_)
 refine T.condF rfl rfl ?_
 refine T.skip (tN ?_)
 refine T.seq (T.rL ?_)
 refine mw rfl ?_
 refine aw rfl ?_
 refine TL'.nil (tN ?_)
 refine T.ret ?_
 exact Fin.doneK (.cons _ _ _ _ (.tmp 2 _ rfl) .nil) (.cons 0 rfl (.cons 0 rfl (.nil _))) (by cases h; exact ⟨gl [d], rfl, rfl⟩)
theorem r4r_number_l0_T {r : Int × r4r} (K : Nat) (bx0 : Nat) : ∀ (k : Nat), ∀ (j : Int) (x0 : r4r) (b : ByteArray) (f : Int) (m : Int) (p : Int) (q : Int) (v : List aNd) (w : Value), r4r_number_l0 K k j x0 b f m p q v = some r → TL Tryd.prog 72 (Code.at [1, 1, 1, 0, 0, 0] (codeOf Tryd.f107)) ⟨[(0, .ptr bx0 0), (3, .int .i64 j), (4, .int .i64 x0.at_)], [(o88 bx0 b f w m p q), .arrA w 42 9 (v.map c_aNd)]⟩ (r4r_number_qb0x1111 bx0 r) := by
  intro k
  induction k with
  | zero =>
    intro j x0 b f m p q v w h
    cases (show (none : Option (Int × r4r)) = some r from h)
  | succ k ih =>
    intro j x0 b f m p q v w h
    rw [r4r_number_l0] at h
    refine TL.round ?_
    refine T.seq ?_
    refine T.seq ?_
    refine DGG.start ?_
    refine DGG.step (c := fun a => ⟨some 9, .ptr bx0 0, [(0, .ptr bx0 0)], [], []⟩) [] (fun _ _ _ => rfl) (fun a t hm => One.step rfl (.free rfl) (OpT.move rfl (dl rfl rfl) hm.s0 ⟨u0, rfl⟩)) (fun a => Ct.mo rfl rfl) ?_
    obtain ⟨s, ac, h⟩ := bind_some h
    refine DGG.step (c := fun a => ⟨some 10, .bool s, [(9, .ptr bx0 0)], [(1, .arrA w 42 9 (v.map c_aNd)), (0, (o88 bx0 b f w m p q))], [(0, (o88 bx0 b f ((a 1).1 0) m p q)), (1, .arrA ((a 1).1 0) 42 9 ((v).map c_aNd))]⟩) [1] (fun a γ' h => by simp only [h 1 (by decide)]) (fun a t hm => One.step rfl (.free rfl) (OpT.callG (is := [0, 1]) (ph := []) rfl (dl rfl rfl) Tryd.func49 rfl rfl (Args.cons hm.s0 Args.nil) (r4r_ends_T K (bx0 := bx0) (wx0c2 := w) ac) (.cons hm.o1 rfl (.cons hm.o0 rfl (.nil))) (fun _ => rfl) (fun g => ⟨(g, 0), rfl⟩))) (fun a => Ct.mo rfl rfl) ?_
    refine DGG.step (c := fun a => ⟨some 11, .bool (!s), [(10, .bool s)], [], []⟩) [] (fun _ _ _ => rfl) (fun a t hm => One.step rfl (.free rfl) (OpT.not rfl (dl rfl rfl) hm.s0 ⟨u0, rfl⟩)) (fun a => Ct.mo rfl rfl) ?_
    refine DGG.step (c := fun a => ⟨some 12, .bool (!s), [(11, .bool (!s))], [], []⟩) [] (fun _ _ _ => rfl) (fun a t hm => One.step rfl (.free rfl) (OpT.move rfl (dl rfl rfl) hm.s0 ⟨u0, rfl⟩)) (fun a => Ct.mo rfl rfl) ?_
    rcases bif_some h with ⟨l, h⟩ | ⟨l, h⟩
    · refine DGG.step (c := fun a => ⟨some 13, .ptr bx0 0, [(0, .ptr bx0 0), (12, .bool (!s))], [], []⟩) [] (fun _ _ _ => rfl) (fun a t hm => One.step rfl (.on rfl rfl hm.s1 l) (OpT.move rfl (dl rfl rfl) hm.s0 ⟨u0, rfl⟩)) (fun a => Ct.mo rfl rfl) ?_
      refine DGG.step (c := fun a => ⟨some 14, .ptr bx0 0, [(13, .ptr bx0 0), (12, .bool (!s))], [], []⟩) [] (fun _ _ _ => rfl) (fun a t hm => One.step rfl (.on rfl rfl hm.s1 l) (OpT.nilCheck rfl (dl rfl rfl) hm.s0 rfl ⟨u0, rfl⟩)) (fun a => Ct.mo rfl rfl) ?_
      refine DGG.step (c := fun a => ⟨some 15, .ptr bx0 (0 + 0), [(14, .ptr bx0 0), (12, .bool (!s))], [], []⟩) [] (fun _ _ _ => rfl) (fun a t hm => One.step rfl (.on rfl rfl hm.s1 l) (OpT.fP rfl (dl rfl rfl) Tryd.underlying88 rfl i9 (by decide) hm.s0 ⟨u0, rfl⟩)) (fun a => Ct.mo rfl rfl) ?_
      refine DGG.step (c := fun a => ⟨some 16, .str b, [(15, .ptr bx0 (0 + 0)), (12, .bool (!s))], [(0, (o88 bx0 b f ((a 1).1 0) m p q))], []⟩) [1] (fun a γ' h => by simp only [h 1 (by decide)]) (fun a t hm => One.step rfl (.on rfl rfl hm.s1 l) (OpT.lB (i := 0) rfl (dl rfl rfl) Tryd.underlying9 rfl hm.s0 hm.o0 rfl ⟨u0, rfl⟩)) (fun a => Ct.mo rfl rfl) ?_
      refine DGG.step (c := fun a => ⟨some 17, .ptr bx0 0, [(0, .ptr bx0 0), (12, .bool (!s))], [], []⟩) [] (fun _ _ _ => rfl) (fun a t hm => One.step rfl (.on rfl rfl hm.s1 l) (OpT.move rfl (dl rfl rfl) hm.s0 ⟨u0, rfl⟩)) (fun a => Ct.mo rfl rfl) ?_
      refine DGG.step (c := fun a => ⟨some 18, .ptr bx0 0, [(17, .ptr bx0 0), (12, .bool (!s))], [], []⟩) [] (fun _ _ _ => rfl) (fun a t hm => One.step rfl (.on rfl rfl hm.s1 l) (OpT.nilCheck rfl (dl rfl rfl) hm.s0 rfl ⟨u0, rfl⟩)) (fun a => Ct.mo rfl rfl) ?_
      refine DGG.step (c := fun a => ⟨some 19, .ptr bx0 (0 + 1), [(18, .ptr bx0 0), (12, .bool (!s))], [], []⟩) [] (fun _ _ _ => rfl) (fun a t hm => One.step rfl (.on rfl rfl hm.s1 l) (OpT.fP rfl (dl rfl rfl) Tryd.underlying88 rfl i3 (by decide) hm.s0 ⟨u0, rfl⟩)) (fun a => Ct.mo rfl rfl) ?_
      refine DGG.step (c := fun a => ⟨some 20, .int .i64 f, [(19, .ptr bx0 (0 + 1)), (12, .bool (!s))], [(0, (o88 bx0 b f ((a 1).1 0) m p q))], []⟩) [1] (fun a γ' h => by simp only [h 1 (by decide)]) (fun a t hm => One.step rfl (.on rfl rfl hm.s1 l) (OpT.lB (i := 0) rfl (dl rfl rfl) Tryd.underlying3 rfl hm.s0 hm.o0 rfl ⟨u0, rfl⟩)) (fun a => Ct.mo rfl rfl) ?_
      obtain ⟨aa, h⟩ := ck_some h
      refine DGG.step (c := fun a => ⟨some 21, .int .u8 (bt b f), [(16, .str b), (20, .int .i64 f), (12, .bool (!s))], [], []⟩) [] (fun _ _ _ => rfl) (fun a t hm => One.step rfl (.on rfl rfl hm.s2 l) (OpT.indexStr rfl (dl rfl rfl) Tryd.underlying9 hm.s0 hm.s1 aa.1 aa.2 ⟨u0, rfl⟩)) (fun a => Ct.mo rfl rfl) ?_
      obtain ⟨y, ad, h⟩ := bind_some h
      refine DGG.step (c := fun a => ⟨some 22, .bool y, [(21, .int .u8 (bt b f)), (12, .bool (!s))], [], []⟩) [] (fun _ _ _ => rfl) (fun a t hm => One.step rfl (.on rfl rfl hm.s1 l) (OpT.callPA rfl (dl rfl rfl) Tryd.func81 rfl rfl (Args.cons hm.s0 Args.nil) (CallR.nil (r4_digit_T K ad)) ⟨u0, rfl⟩)) (fun a => Ct.mo rfl rfl) ?_
      refine DGG.step (c := fun a => ⟨some 23, .bool y, [(12, .bool (!s)), (22, .bool y)], [], []⟩) [] (fun _ _ _ => rfl) (fun a t hm => One.step rfl (.free rfl) (OpT.pickT rfl (dl rfl rfl) hm.s0 l hm.s1 ⟨u0, rfl⟩)) (fun a => Ct.mo rfl rfl) ?_
      refine DGG.fin (s1 := fun a => ⟨[(0, .ptr bx0 0), (3, .int .i64 j), (4, .int .i64 x0.at_), (13, .ptr bx0 0), (14, .ptr bx0 0), (15, .ptr bx0 (0 + 0)), (16, .str b), (17, .ptr bx0 0), (18, .ptr bx0 0), (19, .ptr bx0 (0 + 1)), (20, .int .i64 f), (21, .int .u8 (bt b f)), (22, .bool y), (23, .bool y)], [(o88 bx0 b f ((a 1).1 0) m p q), .arrA ((a 1).1 0) 42 9 ((v).map c_aNd)]⟩) (ms := [0, 1, 3, 7, 15, 31, 63, 127, 15, 271, 783, 1807, 4095, 8191, 16383]) TrydMixed rfl (by kernel_rfl) (by kernel_rfl) (by kernel_rfl) (fun a => by kernel_rfl) (fun a => .cons rfl (.cons rfl (.cons rfl (.cons rfl (.cons rfl (.cons rfl (.cons rfl (.cons rfl (.cons rfl (.cons rfl (.cons rfl (.cons rfl (.cons rfl (.cons rfl (.nil _))))))))))))))) (fun _ => rfl) (fun a u hu => (tN (T.by_turn hu ?_)))
      rcases bif_some h with ⟨ab, h⟩ | ⟨ab, h⟩
      · refine T.condT rfl ab ?_
        refine T.skip (tN ?_)
        refine T.block ?_
        refine T.seq ?_
        refine DG.start ?_
        refine DG.mv rfl rfl rfl rfl rfl rfl ?_
        refine DG.step (c := ⟨some 25, .int .i64 (wI (j * (10 : Int))), [(24, .int .i64 j)], [], []⟩) (fun t hm => One.step rfl (.free rfl) (OpT.int2 rfl rfl (dl rfl rfl) hm.s0 rfl rfl)) (Ct.mo rfl rfl) ?_
        refine DG.mv rfl rfl rfl rfl rfl rfl ?_
        refine DG.step (c := ⟨some 27, .ptr bx0 0, [(26, .ptr bx0 0)], [], []⟩) (fun t hm => One.step rfl (.free rfl) (OpT.nilCheck rfl (dl rfl rfl) hm.s0 rfl rfl)) (Ct.mo rfl rfl) ?_
        refine DG.step (c := ⟨some 28, .ptr bx0 (0 + 0), [(27, .ptr bx0 0)], [], []⟩) (fun t hm => One.step rfl (.free rfl) (OpT.fP rfl (dl rfl rfl) Tryd.underlying88 rfl i9 (by decide) hm.s0 rfl)) (Ct.mo rfl rfl) ?_
        refine DG.step (c := ⟨some 29, .str b, [(28, .ptr bx0 (0 + 0))], [(0, (o88 bx0 b f ((a 1).1 0) m p q))], []⟩) (fun t hm => One.step rfl (.free rfl) (OpT.lB (i := 0) rfl (dl rfl rfl) Tryd.underlying9 rfl hm.s0 hm.o0 rfl rfl)) (Ct.mo rfl rfl) ?_
        refine DG.mv rfl rfl rfl rfl rfl rfl ?_
        refine DG.step (c := ⟨some 31, .ptr bx0 0, [(30, .ptr bx0 0)], [], []⟩) (fun t hm => One.step rfl (.free rfl) (OpT.nilCheck rfl (dl rfl rfl) hm.s0 rfl rfl)) (Ct.mo rfl rfl) ?_
        refine DG.step (c := ⟨some 32, .ptr bx0 (0 + 1), [(31, .ptr bx0 0)], [], []⟩) (fun t hm => One.step rfl (.free rfl) (OpT.fP rfl (dl rfl rfl) Tryd.underlying88 rfl i3 (by decide) hm.s0 rfl)) (Ct.mo rfl rfl) ?_
        refine DG.step (c := ⟨some 33, .int .i64 f, [(32, .ptr bx0 (0 + 1))], [(0, (o88 bx0 b f ((a 1).1 0) m p q))], []⟩) (fun t hm => One.step rfl (.free rfl) (OpT.lB (i := 0) rfl (dl rfl rfl) Tryd.underlying3 rfl hm.s0 hm.o0 rfl rfl)) (Ct.mo rfl rfl) ?_
        refine DG.step (c := ⟨some 34, .int .u8 (bt b f), [(29, .str b), (33, .int .i64 f)], [], []⟩) (fun t hm => One.step rfl (.free rfl) (OpT.indexStr rfl (dl rfl rfl) Tryd.underlying9 hm.s0 hm.s1 aa.1 aa.2 rfl)) (Ct.mo rfl rfl) ?_
        refine DG.step (c := ⟨some 35, .int .u8 (IntKind.u8.wrap ((bt b f) - (48 : Int))), [(34, .int .u8 (bt b f))], [], []⟩) (fun t hm => One.step rfl (.free rfl) (OpT.int2 rfl rfl (dl rfl rfl) hm.s0 rfl rfl)) (Ct.mo rfl rfl) ?_
        refine DG.step (c := ⟨some 36, .int .i64 (wI (IntKind.u8.wrap ((bt b f) - (48 : Int)))), [(35, .int .u8 (IntKind.u8.wrap ((bt b f) - (48 : Int))))], [], []⟩) (fun t hm => One.step rfl (.free rfl) (OpT.convInt rfl (dl rfl rfl) Tryd.underlying5 Tryd.underlying3 hm.s0 rfl)) (Ct.mo rfl rfl) ?_
        refine DG.step (c := ⟨some 37, .int .i64 (wI ((wI (j * (10 : Int))) + (wI (IntKind.u8.wrap ((bt b f) - (48 : Int)))))), [(25, .int .i64 (wI (j * (10 : Int)))), (36, .int .i64 (wI (IntKind.u8.wrap ((bt b f) - (48 : Int)))))], [], []⟩) (fun t hm => One.step rfl (.free rfl) (OpT.int2 rfl rfl (dl rfl rfl) hm.s0 hm.s1 rfl)) (Ct.mo rfl rfl) ?_
        refine DG.step (c := ⟨some 38, .int .i64 (if (1000000 : Int) < (wI ((wI (j * (10 : Int))) + (wI (IntKind.u8.wrap ((bt b f) - (48 : Int)))))) then (1000000 : Int) else (wI ((wI (j * (10 : Int))) + (wI (IntKind.u8.wrap ((bt b f) - (48 : Int))))))), [(37, .int .i64 (wI ((wI (j * (10 : Int))) + (wI (IntKind.u8.wrap ((bt b f) - (48 : Int)))))))], [], []⟩) (fun t hm => One.step rfl (.free rfl) (OpT.min2 rfl (dl rfl rfl) hm.s0 rfl rfl)) (Ct.mo rfl rfl) ?_
        refine DG.step (c := ⟨some 3, .int .i64 (if (1000000 : Int) < (wI ((wI (j * (10 : Int))) + (wI (IntKind.u8.wrap ((bt b f) - (48 : Int)))))) then (1000000 : Int) else (wI ((wI (j * (10 : Int))) + (wI (IntKind.u8.wrap ((bt b f) - (48 : Int))))))), [(38, .int .i64 (if (1000000 : Int) < (wI ((wI (j * (10 : Int))) + (wI (IntKind.u8.wrap ((bt b f) - (48 : Int)))))) then (1000000 : Int) else (wI ((wI (j * (10 : Int))) + (wI (IntKind.u8.wrap ((bt b f) - (48 : Int))))))))], [], []⟩) (fun t hm => One.step rfl (.free rfl) (OpT.assign rfl (dl rfl rfl) hm.s0 rfl)) (Ct.mo rfl rfl) ?_
        refine DG.fin (s1 := ⟨[(0, .ptr bx0 0), (3, .int .i64 (if (1000000 : Int) < (wI ((wI (j * (10 : Int))) + (wI (IntKind.u8.wrap ((bt b f) - (48 : Int)))))) then (1000000 : Int) else (wI ((wI (j * (10 : Int))) + (wI (IntKind.u8.wrap ((bt b f) - (48 : Int)))))))), (4, .int .i64 x0.at_), (13, .ptr bx0 0), (14, .ptr bx0 0), (15, .ptr bx0 (0 + 0)), (16, .str b), (17, .ptr bx0 0), (18, .ptr bx0 0), (19, .ptr bx0 (0 + 1)), (20, .int .i64 f), (21, .int .u8 (bt b f)), (22, .bool y)], [(o88 bx0 b f ((a 1).1 0) m p q), .arrA ((a 1).1 0) 42 9 ((v).map c_aNd)]⟩) (ms := [0, 1, 0, 4, 12, 28, 0, 64, 192, 448, 1020, 2044, 4092, 8191, 16383, 32767]) TrydMixed rfl (by kernel_rfl) (by kernel_rfl) (by kernel_rfl) (.cons rfl (.cons rfl (.cons rfl (.cons rfl (.cons rfl (.cons rfl (.cons rfl (.cons rfl (.cons rfl (.cons rfl (.cons rfl (.cons rfl (.cons rfl (.nil _)))))))))))))) rfl (fun u hu => (tN (T.by_turn hu ?_)))
        refine T.rL ?_
        refine mv rfl rfl rfl rfl rfl ?_
        refine sp rfl (OpT.nilCheck rfl (dl rfl rfl) rfl rfl ?_)
        refine sp rfl (OpT.fP rfl (dl rfl rfl) Tryd.underlying88 rfl i3 (by decide) rfl ?_)
        refine sp rfl (OpT.lB (i := 0) rfl (dl rfl rfl) Tryd.underlying3 rfl rfl rfl rfl ?_)
        refine sp rfl (OpT.int2 rfl rfl (dl rfl rfl) rfl rfl ?_)
        refine sp rfl (OpT.nilCheck rfl (dl rfl rfl) rfl rfl ?_)
        refine sp rfl (OpT.fP rfl (dl rfl rfl) Tryd.underlying88 rfl i3 (by decide) rfl ?_)
        refine sp rfl (OpT.sT (i := 0) (cells' := [.d (.str b), .d (.int .i64 (wI (f + (1 : Int)))), .d (.ex ((a 1).1 0)), .d (.int .i64 m), .d (.int .i64 p), .d (.int .i64 q)]) rfl rfl i3 rfl rfl rfl (Nat.le_of_ble_eq_true rfl) rfl ?_)
        refine TL'.nil (inBlock_normal (tN ?_))
        refine TL.by_turn ?_ (ih (if (1000000 : Int) < (wI ((wI (j * (10 : Int))) + (wI (IntKind.u8.wrap ((bt b f) - (48 : Int)))))) then (1000000 : Int) else (wI ((wI (j * (10 : Int))) + (wI (IntKind.u8.wrap ((bt b f) - (48 : Int))))))) x0 b (wI (f + (1 : Int))) m p q v ((a 1).1 0) h)
        exact Turn.rp (.cons rfl (.cons rfl (.cons rfl (.nil _)))) (.c .z (.c .z (.n _)))
      · refine T.condF rfl ab ?_
        refine T.by_turn ?_ (r4r_number_j1_T K bx0 j x0 b f m p q v ((a 1).1 0) h)
        exact Turn.rp (.cons rfl (.cons rfl (.cons rfl (.nil _)))) (.c .z (.c .z (.n _)))
    · refine DGG.off l rfl rfl rfl rfl rfl (fun _ => rfl) ?_
      refine DGG.off l rfl rfl rfl rfl rfl (fun _ => rfl) ?_
      refine DGG.off l rfl rfl rfl rfl rfl (fun _ => rfl) ?_
      refine DGG.off l rfl rfl rfl rfl rfl (fun _ => rfl) ?_
      refine DGG.off l rfl rfl rfl rfl rfl (fun _ => rfl) ?_
      refine DGG.off l rfl rfl rfl rfl rfl (fun _ => rfl) ?_
      refine DGG.off l rfl rfl rfl rfl rfl (fun _ => rfl) ?_
      refine DGG.off l rfl rfl rfl rfl rfl (fun _ => rfl) ?_
      refine DGG.off l rfl rfl rfl rfl rfl (fun _ => rfl) ?_
      refine DGG.off l rfl rfl rfl rfl rfl (fun _ => rfl) ?_
      refine DGG.step (c := fun a => ⟨some 23, .bool false, [(12, .bool (!s))], [], []⟩) [] (fun _ _ _ => rfl) (fun a t hm => One.step rfl (.free rfl) (OpT.pickF rfl (dl rfl rfl) hm.s0 l rfl ⟨u0, rfl⟩)) (fun a => Ct.mo rfl rfl) ?_
      refine DGG.fin (s1 := fun a => ⟨[(0, .ptr bx0 0), (3, .int .i64 j), (4, .int .i64 x0.at_), (13, .tup []), (14, .tup []), (15, .tup []), (16, .tup []), (17, .tup []), (18, .tup []), (19, .tup []), (20, .tup []), (21, .tup []), (22, .tup []), (23, .bool false)], [(o88 bx0 b f ((a 1).1 0) m p q), .arrA ((a 1).1 0) 42 9 ((v).map c_aNd)]⟩) (ms := [0, 1, 3, 7, 15, 31, 63, 127, 15, 271, 783, 1807, 4095, 8191, 16383]) TrydMixed rfl (by kernel_rfl) (by kernel_rfl) (by kernel_rfl) (fun a => by kernel_rfl) (fun a => .cons rfl (.cons rfl (.cons rfl (.cons rfl (.cons rfl (.cons rfl (.cons rfl (.cons rfl (.cons rfl (.cons rfl (.cons rfl (.cons rfl (.cons rfl (.cons rfl (.nil _))))))))))))))) (fun _ => rfl) (fun a u hu => (tN (T.by_turn hu ?_)))
      refine T.condF rfl rfl ?_
      refine T.by_turn ?_ (r4r_number_j1_T K bx0 j x0 b f m p q v ((a 1).1 0) h)
      exact Turn.rp (.cons rfl (.cons rfl (.cons rfl (.nil _)))) (.c .z (.c .z (.n _)))
theorem r4r_number_T (K : Nat) {x0 : r4r} {bx0 : Nat} {wx0c2 : Value} {r : Int × r4r} (h : r4r_number K x0 = some r) : CallG Tryd.prog 107 [.ptr bx0 0] [(o88 bx0 x0.s x0.at_ wx0c2 x0.deep x0.e x0.where_), .arrA wx0c2 42 9 (x0.nodes.map c_aNd)] (fun γ => (.int .i64 r.1)) (fun γ => [(o88 bx0 r.2.s r.2.at_ (γ 0) r.2.deep r.2.e r.2.where_), .arrA (γ 0) 42 9 (r.2.nodes.map c_aNd)]) := by
 refine CallT.intro Tryd.func107 rfl (nb rfl) ?_
 show T Tryd.prog 72 (Code.at [] (codeOf Tryd.f107)) ⟨paramSlots 0 [.ptr bx0 0], [(o88 bx0 x0.s x0.at_ wx0c2 x0.deep x0.e x0.where_), .arrA wx0c2 42 9 (x0.nodes.map c_aNd)]⟩ (r4r_number_q bx0 r)
 unfold r4r_number at h
 refine T.seq (T.rL ?_)
 refine aw rfl ?_
 refine TL'.nil (tN (T.seq (T.rL ?_)))
 refine aw rfl ?_
 refine TL'.nil (tN (T.seq (T.rL ?_)))
 refine mw rfl ?_
 refine sp rfl (OpT.nilCheck rfl (dk rfl) rfl rfl ?_)
 refine sp rfl (OpT.fP rfl (dk rfl) ul88 rfl i3 (by decide) rfl ?_)
 refine sp rfl (OpT.lB (i := 0) rfl (dk rfl) ul3 rfl rfl rfl rfl ?_)
 refine aw rfl ?_
 refine TL'.nil (tN ?_)
 refine T.seq ?_
 refine T.block ?_
 refine T.loop ?_
 refine TL.by_turn ?_ (r4r_number_l0_T K bx0 K (0 : Int) x0 x0.s x0.at_ x0.deep x0.e x0.where_ x0.nodes wx0c2 h)
 exact Turn.rp (.cons rfl (.cons rfl (.cons rfl (.nil _)))) (.c .z (.c .z (.n _)))
abbrev r4r_bounds_q (bx0 : Nat) (r : Int × Int × r4r) : Exit → St → Prop := retS Tryd.prog Tryd.f91 (fun y t => ∃ γ : Nat → Value, y = (.tup [.int .i64 r.1, .int .i64 r.2.1]) ∧ t = [(o88 bx0 r.2.2.s r.2.2.at_ (γ 0) r.2.2.deep r.2.2.e r.2.2.where_), .arrA (γ 0) 42 9 (r.2.2.nodes.map c_aNd)])
abbrev r4r_bounds_qs1111111111 (bx0 : Nat) (r : Int × Int × r4r) : Exit → St → Prop := thenS (fun s' => T Tryd.prog 122 (Code.at [1, 1, 1, 1, 1, 1, 1, 1, 1, 1] (codeOf Tryd.f91)) s' ((r4r_bounds_q bx0 r))) ((r4r_bounds_q bx0 r))
abbrev r4r_bounds_qs111111 (bx0 : Nat) (r : Int × Int × r4r) : Exit → St → Prop := thenS (fun s' => T Tryd.prog 122 (Code.at [1, 1, 1, 1, 1, 1] (codeOf Tryd.f91)) s' ((r4r_bounds_q bx0 r))) ((r4r_bounds_q bx0 r))
theorem r4r_bounds_j3_T {r : Int × Int × r4r} (K : Nat) (bx0 : Nat) (x0 : r4r) (a : Int) (b : Int) (c : ByteArray) (d : Int) (f : Int) (g : Int) (i : Int) (j : List aNd) (l : Value) (h : r4r_bounds_j3 K x0 a b c d f g i j = some r) : T Tryd.prog 122 (Code.at [1, 1, 1, 1, 1, 1, 1, 1, 1, 0, 1, 0] (codeOf Tryd.f91)) ⟨[(0, .ptr bx0 0), (4, .int .i64 x0.at_), (5, .int .i64 a), (6, .int .i64 b)], [(o88 bx0 c d l f g i), .arrA l 42 9 (j.map c_aNd)]⟩ (r4r_bounds_qs1111111111 bx0 r) := by
 unfold r4r_bounds_j3 at h
 refine T.rL ?_
 refine mw rfl ?_
 refine mw rfl ?_
 cases h
theorem r4r_bounds_j4_T {r : Int × Int × r4r} (K : Nat) (bx0 : Nat) (b : Int) (c : Int) (d : ByteArray) (f : Int) (g : Int) (i : Int) (j : Int) (l : List aNd) (a : Value) (h : r4r_bounds_j4 K b c d f g i j l = some r) : T Tryd.prog 122 (Code.at [1, 1, 1, 1, 1, 1, 1, 1, 1, 0, 1, 1] (codeOf Tryd.f91)) ⟨[(5, .int .i64 b), (6, .int .i64 c)], [(o88 bx0 d f a g i j), .arrA a 42 9 (l.map c_aNd)]⟩ (r4r_bounds_qs1111111111 bx0 r) := by
 unfold r4r_bounds_j4 at h
 refine T.skip (tN ?_)
 refine T.seq (T.rL ?_)
 refine mw rfl ?_
 refine mw rfl ?_
 refine aw rfl ?_
 refine aw rfl ?_
 refine TL'.nil (tN ?_)
 refine T.ret ?_
 exact Fin.doneK (.cons _ _ _ _ (.tmp 2 _ rfl) (.cons _ _ _ _ (.tmp 3 _ rfl) .nil)) (.cons 0 rfl (.cons 0 rfl (.nil _))) (by cases h; exact ⟨gl [a], rfl, rfl⟩)
theorem r4r_bounds_j0_T {r : Int × Int × r4r} (K : Nat) (bx0 : Nat) (x0 : r4r) (p : Int) (q : Int) (a : ByteArray) (b : Int) (f : Int) (g : Int) (j : Int) (s : List aNd) (ab : Value) (h : r4r_bounds_j0 K x0 p q a b f g j s = some r) : T Tryd.prog 122 (Code.at [1, 1, 1, 1, 1, 1] (codeOf Tryd.f91)) ⟨[(0, .ptr bx0 0), (4, .int .i64 x0.at_), (5, .int .i64 p), (6, .int .i64 q)], [(o88 bx0 a b ab f g j), .arrA ab 42 9 (s.map c_aNd)]⟩ (r4r_bounds_q bx0 r) := by
 unfold r4r_bounds_j0 at h
 refine T.seq ?_
 refine T.seq (T.rL ?_)
 refine mw rfl ?_
 obtain ⟨aj, ai, h⟩ := bind_some h
 refine sp rfl (OpT.callG (is := [0, 1]) (ph := []) rfl (dk rfl) Tryd.func49 rfl rfl (Args.cons rfl Args.nil) (r4r_ends_T K (bx0 := bx0) (wx0c2 := ab) ai) (.cons rfl rfl (.cons rfl rfl (.nil))) (fun _ => rfl) (fun m => ?_))
 refine nm (.c (.c (.n))) ?_
 refine TL'.nil (tN ?_)
 rcases bif_some h with ⟨ac, h⟩ | ⟨ac, h⟩
 refine T.condT rfl ac ?_
 refine T.seq (T.rL ?_)
 refine mw rfl ?_
 refine mw rfl ?_
 refine sp rfl (OpT.nilCheck rfl (dk rfl) rfl rfl ?_)
 refine sp rfl (OpT.fP rfl (dk rfl) ul88 rfl i9 (by decide) rfl ?_)
 refine sp rfl (OpT.lB (i := 0) rfl (dk rfl) ul9 rfl rfl rfl rfl ?_)
 refine sp rfl (OpT.lenStr rfl (dk rfl) ul9 rfl ?_)
 cases h
 refine T.condF rfl ac ?_
 refine T.skip (tN ?_)
 refine T.seq ?_
 refine T.seq ?_
 refine DG.start ?_
 refine DG.mv rfl rfl rfl rfl rfl rfl ?_
 refine DG.step (c := ⟨some 72, .ptr bx0 0, [(71, .ptr bx0 0)], [], []⟩) (fun t hm => One.step rfl (.free rfl) (OpT.nilCheck rfl (dk rfl) hm.s0 rfl rfl)) (Ct.mo rfl rfl) ?_
 refine DG.step (c := ⟨some 73, .ptr bx0 (0 + 0), [(72, .ptr bx0 0)], [], []⟩) (fun t hm => One.step rfl (.free rfl) (OpT.fP rfl (dk rfl) ul88 rfl i9 (by decide) hm.s0 rfl)) (Ct.mo rfl rfl) ?_
 refine DG.step (c := ⟨some 74, .str a, [(73, .ptr bx0 (0 + 0))], [(0, (o88 bx0 a b (m 0) f g j))], []⟩) (fun t hm => One.step rfl (.free rfl) (OpT.lB (i := 0) rfl (dk rfl) ul9 rfl hm.s0 hm.o0 rfl rfl)) (Ct.mo rfl rfl) ?_
 refine DG.mv rfl rfl rfl rfl rfl rfl ?_
 refine DG.step (c := ⟨some 76, .ptr bx0 0, [(75, .ptr bx0 0)], [], []⟩) (fun t hm => One.step rfl (.free rfl) (OpT.nilCheck rfl (dk rfl) hm.s0 rfl rfl)) (Ct.mo rfl rfl) ?_
 refine DG.step (c := ⟨some 77, .ptr bx0 (0 + 1), [(76, .ptr bx0 0)], [], []⟩) (fun t hm => One.step rfl (.free rfl) (OpT.fP rfl (dk rfl) ul88 rfl i3 (by decide) hm.s0 rfl)) (Ct.mo rfl rfl) ?_
 refine DG.step (c := ⟨some 78, .int .i64 b, [(77, .ptr bx0 (0 + 1))], [(0, (o88 bx0 a b (m 0) f g j))], []⟩) (fun t hm => One.step rfl (.free rfl) (OpT.lB (i := 0) rfl (dk rfl) ul3 rfl hm.s0 hm.o0 rfl rfl)) (Ct.mo rfl rfl) ?_
 obtain ⟨ag, h⟩ := ck_some h
 refine DG.step (c := ⟨some 79, .int .u8 (bt a b), [(74, .str a), (78, .int .i64 b)], [], []⟩) (fun t hm => One.step rfl (.free rfl) (OpT.indexStr rfl (dk rfl) ul9 hm.s0 hm.s1 ag.1 ag.2 rfl)) (Ct.mo rfl rfl) ?_
 refine DG.step (c := ⟨some 80, .bool ((bt a b) != (125 : Int)), [(79, .int .u8 (bt a b))], [], []⟩) (fun t hm => One.step rfl (.free rfl) (OpT.int2 rfl rfl (dk rfl) hm.s0 rfl rfl)) (Ct.mo rfl rfl) ?_
 refine DG.fin (s1 := ⟨[(0, .ptr bx0 0), (4, .int .i64 x0.at_), (5, .int .i64 p), (6, .int .i64 q), (80, .bool ((bt a b) != (125 : Int)))], [(o88 bx0 a b (m 0) f g j), .arrA (m 0) 42 9 ((s).map c_aNd)]⟩) (ms := [0, 1, 3, 7, 0, 16, 48, 112, 255, 511]) TrydMixed rfl (by kernel_rfl) (by kernel_rfl) (by kernel_rfl) (.cons rfl (.cons rfl (.cons rfl (.cons rfl (.cons rfl (.nil _)))))) rfl (fun u hu => (tN (T.by_turn hu ?_)))
 rcases bif_some h with ⟨ad, h⟩ | ⟨ad, h⟩
 refine T.condT rfl ad ?_
 refine T.seq (T.rL ?_)
 refine mw rfl ?_
 refine mw rfl ?_
 refine sp rfl (OpT.nilCheck rfl (dk rfl) rfl rfl ?_)
 refine sp rfl (OpT.fP rfl (dk rfl) ul88 rfl i3 (by decide) rfl ?_)
 refine sp rfl (OpT.lB (i := 0) rfl (dk rfl) ul3 rfl rfl rfl rfl ?_)
 cases h
 refine T.condF rfl ad ?_
 refine T.skip (tN ?_)
 refine T.seq (T.rL ?_)
 refine mw rfl ?_
 refine sp rfl (OpT.nilCheck rfl (dk rfl) rfl rfl ?_)
 refine sp rfl (OpT.fP rfl (dk rfl) ul88 rfl i3 (by decide) rfl ?_)
 refine sp rfl (OpT.lB (i := 0) rfl (dk rfl) ul3 rfl rfl rfl rfl ?_)
 refine sp rfl (OpT.int2 rfl rfl (dk rfl) rfl rfl ?_)
 refine sp rfl (OpT.nilCheck rfl (dk rfl) rfl rfl ?_)
 refine sp rfl (OpT.fP rfl (dk rfl) ul88 rfl i3 (by decide) rfl ?_)
 refine sp rfl (OpT.sT (i := 0) (cells' := [.d (.str a), .d (.int .i64 (wI (b + (1 : Int)))), .d (.ex (m 0)), .d (.int .i64 f), .d (.int .i64 g), .d (.int .i64 j)]) rfl rfl i3 rfl rfl rfl (nb rfl) rfl ?_)
 refine TL'.nil (tN ?_)
 refine T.seq ?_
 refine T.seq (T.rL ?_)
 refine mw rfl ?_
 refine sp rfl (OpT.int2 rfl rfl (dk rfl) rfl rfl ?_)
 refine mw rfl ?_
 rcases bif_some h with ⟨w, h⟩ | ⟨w, h⟩
 refine TL'.pU (.off _ _ _ _ rfl rfl rfl w) (dk rfl) ?_
 refine TL'.pU (.off _ _ _ _ rfl rfl rfl w) (dk rfl) ?_
 refine sp rfl (OpT.pickT rfl (dk rfl) rfl w rfl ?_)
 refine mw rfl ?_
 refine TL'.pU (.off _ _ _ _ rfl rfl rfl rfl) (dk rfl) ?_
 refine TL'.pU (.off _ _ _ _ rfl rfl rfl rfl) (dk rfl) ?_
 refine sp rfl (OpT.pickT rfl (dk rfl) rfl rfl rfl ?_)
 refine mw rfl ?_
 refine TL'.pU (.off _ _ _ _ rfl rfl rfl rfl) (dk rfl) ?_
 refine TL'.pU (.off _ _ _ _ rfl rfl rfl rfl) (dk rfl) ?_
 refine sp rfl (OpT.pickT rfl (dk rfl) rfl rfl rfl ?_)
 refine mw rfl ?_
 refine TL'.pU (.off _ _ _ _ rfl rfl rfl rfl) (dk rfl) ?_
 refine TL'.pU (.off _ _ _ _ rfl rfl rfl rfl) (dk rfl) ?_
 refine TL'.pU (.off _ _ _ _ rfl rfl rfl rfl) (dk rfl) ?_
 refine TL'.pU (.gone _ _ _ rfl rfl rfl) (dk rfl) ?_
 refine TL'.pU (.gone _ _ _ rfl rfl rfl) (dk rfl) ?_
 refine TL'.pU (.gone _ _ _ rfl rfl rfl) (dk rfl) ?_
 refine TL'.pU (.off _ _ _ _ rfl rfl rfl rfl) (dk rfl) ?_
 refine sp rfl (OpT.pickT rfl (dk rfl) rfl rfl rfl ?_)
 refine TL'.nil (tN ?_)
 refine T.condT rfl rfl ?_
 refine T.by_turn ?_ (r4r_bounds_j3_T K bx0 x0 p q a (wI (b + (1 : Int))) f g j s (m 0) h)
 exact Turn.rp (.cons rfl (.cons rfl (.cons rfl (.cons rfl (.nil _))))) (.c .z (.c .z (.n _)))
 refine TL'.step (.on rfl rfl rfl w) (OpT.move rfl (dk rfl) rfl ?_)
 refine TL'.step (.on rfl rfl rfl w) (OpT.int2 rfl rfl (dk rfl) rfl rfl ?_)
 refine sp rfl (OpT.pickF rfl (dk rfl) rfl w rfl ?_)
 refine mw rfl ?_
 rcases bif_some h with ⟨y, h⟩ | ⟨y, h⟩
 refine TL'.pU (.off _ _ _ _ rfl rfl rfl y) (dk rfl) ?_
 refine TL'.pU (.off _ _ _ _ rfl rfl rfl y) (dk rfl) ?_
 refine sp rfl (OpT.pickT rfl (dk rfl) rfl y rfl ?_)
 refine mw rfl ?_
 refine TL'.pU (.off _ _ _ _ rfl rfl rfl rfl) (dk rfl) ?_
 refine TL'.pU (.off _ _ _ _ rfl rfl rfl rfl) (dk rfl) ?_
 refine sp rfl (OpT.pickT rfl (dk rfl) rfl rfl rfl ?_)
 refine mw rfl ?_
 refine TL'.pU (.off _ _ _ _ rfl rfl rfl rfl) (dk rfl) ?_
 refine TL'.pU (.off _ _ _ _ rfl rfl rfl rfl) (dk rfl) ?_
 refine TL'.pU (.off _ _ _ _ rfl rfl rfl rfl) (dk rfl) ?_
 refine TL'.pU (.gone _ _ _ rfl rfl rfl) (dk rfl) ?_
 refine TL'.pU (.gone _ _ _ rfl rfl rfl) (dk rfl) ?_
 refine TL'.pU (.gone _ _ _ rfl rfl rfl) (dk rfl) ?_
 refine TL'.pU (.off _ _ _ _ rfl rfl rfl rfl) (dk rfl) ?_
 refine sp rfl (OpT.pickT rfl (dk rfl) rfl rfl rfl ?_)
 refine TL'.nil (tN ?_)
 refine T.condT rfl rfl ?_
 refine T.by_turn ?_ (r4r_bounds_j3_T K bx0 x0 p q a (wI (b + (1 : Int))) f g j s (m 0) h)
 exact Turn.rp (.cons rfl (.cons rfl (.cons rfl (.cons rfl (.nil _))))) (.c .z (.c .z (.n _)))
 refine TL'.step (.on rfl rfl rfl y) (OpT.move rfl (dk rfl) rfl ?_)
 refine TL'.step (.on rfl rfl rfl y) (OpT.int2 rfl rfl (dk rfl) rfl rfl ?_)
 refine sp rfl (OpT.pickF rfl (dk rfl) rfl y rfl ?_)
 refine mw rfl ?_
 rcases bif_some h with ⟨aa, h⟩ | ⟨aa, h⟩
 refine TL'.pU (.off _ _ _ _ rfl rfl rfl aa) (dk rfl) ?_
 refine TL'.pU (.off _ _ _ _ rfl rfl rfl aa) (dk rfl) ?_
 refine sp rfl (OpT.pickT rfl (dk rfl) rfl aa rfl ?_)
 refine mw rfl ?_
 refine TL'.pU (.off _ _ _ _ rfl rfl rfl rfl) (dk rfl) ?_
 refine TL'.pU (.off _ _ _ _ rfl rfl rfl rfl) (dk rfl) ?_
 refine TL'.pU (.off _ _ _ _ rfl rfl rfl rfl) (dk rfl) ?_
 refine TL'.pU (.gone _ _ _ rfl rfl rfl) (dk rfl) ?_
 refine TL'.pU (.gone _ _ _ rfl rfl rfl) (dk rfl) ?_
 refine TL'.pU (.gone _ _ _ rfl rfl rfl) (dk rfl) ?_
 refine TL'.pU (.off _ _ _ _ rfl rfl rfl rfl) (dk rfl) ?_
 refine sp rfl (OpT.pickT rfl (dk rfl) rfl rfl rfl ?_)
 refine TL'.nil (tN ?_)
 refine T.condT rfl rfl ?_
 refine T.by_turn ?_ (r4r_bounds_j3_T K bx0 x0 p q a (wI (b + (1 : Int))) f g j s (m 0) h)
 exact Turn.rp (.cons rfl (.cons rfl (.cons rfl (.cons rfl (.nil _))))) (.c .z (.c .z (.n _)))
 refine TL'.step (.on rfl rfl rfl aa) (OpT.move rfl (dk rfl) rfl ?_)
 refine TL'.step (.on rfl rfl rfl aa) (OpT.int2 rfl rfl (dk rfl) rfl rfl ?_)
 refine sp rfl (OpT.pickF rfl (dk rfl) rfl aa rfl ?_)
 refine mw rfl ?_
 rcases bif_some h with ⟨l, h⟩ | ⟨l, h⟩
 refine TL'.pU (.off _ _ _ _ rfl rfl rfl l) (dk rfl) ?_
 refine TL'.pU (.off _ _ _ _ rfl rfl rfl l) (dk rfl) ?_
 refine TL'.pU (.off _ _ _ _ rfl rfl rfl l) (dk rfl) ?_
 refine TL'.pU (.gone _ _ _ rfl rfl rfl) (dk rfl) ?_
 refine TL'.pU (.gone _ _ _ rfl rfl rfl) (dk rfl) ?_
 refine TL'.pU (.gone _ _ _ rfl rfl rfl) (dk rfl) ?_
 refine TL'.pU (.off _ _ _ _ rfl rfl rfl l) (dk rfl) ?_
 refine sp rfl (OpT.pickT rfl (dk rfl) rfl l rfl ?_)
 refine TL'.nil (tN ?_)
 refine T.condT rfl rfl ?_
 refine T.by_turn ?_ (r4r_bounds_j3_T K bx0 x0 p q a (wI (b + (1 : Int))) f g j s (m 0) h)
 exact Turn.rp (.cons rfl (.cons rfl (.cons rfl (.cons rfl (.nil _))))) (.c .z (.c .z (.n _)))
 refine TL'.step (.on rfl rfl rfl l) (OpT.move rfl (dk rfl) rfl ?_)
 refine TL'.step (.on rfl rfl rfl l) (OpT.int2 rfl rfl (dk rfl) rfl rfl ?_)
 refine TL'.step (.on rfl rfl rfl l) (OpT.move rfl (dk rfl) rfl ?_)
 rcases bif_some h with ⟨v, h⟩ | ⟨v, h⟩
 refine TL'.step (.on rfl rfl rfl v) (OpT.move rfl (dk rfl) rfl ?_)
 refine TL'.step (.on rfl rfl rfl v) (OpT.move rfl (dk rfl) rfl ?_)
 refine TL'.step (.on rfl rfl rfl v) (OpT.int2 rfl rfl (dk rfl) rfl rfl ?_)
 refine TL'.step (.on rfl rfl rfl l) (OpT.pickT rfl (dk rfl) rfl v rfl ?_)
 refine sp rfl (OpT.pickF rfl (dk rfl) rfl l rfl ?_)
 refine TL'.nil (tN ?_)
 rcases bif_some h with ⟨af, h⟩ | ⟨af, h⟩
 refine T.condT rfl af ?_
 refine T.by_turn ?_ (r4r_bounds_j3_T K bx0 x0 p q a (wI (b + (1 : Int))) f g j s (m 0) h)
 exact Turn.rp (.cons rfl (.cons rfl (.cons rfl (.cons rfl (.nil _))))) (.c .z (.c .z (.n _)))
 refine T.condF rfl af ?_
 refine T.by_turn ?_ (r4r_bounds_j4_T K bx0 p q a (wI (b + (1 : Int))) f g j s (m 0) h)
 exact Turn.rp (.cons rfl (.cons rfl (.nil _))) (.c .z (.c .z (.n _)))
 refine TL'.pU (.off _ _ _ _ rfl rfl rfl v) (dk rfl) ?_
 refine TL'.pU (.off _ _ _ _ rfl rfl rfl v) (dk rfl) ?_
 refine TL'.pU (.off _ _ _ _ rfl rfl rfl v) (dk rfl) ?_
 refine TL'.step (.on rfl rfl rfl l) (OpT.pickF rfl (dk rfl) rfl v rfl ?_)
 refine sp rfl (OpT.pickF rfl (dk rfl) rfl l rfl ?_)
 refine TL'.nil (tN ?_)
 refine T.condF rfl rfl ?_
 refine T.by_turn ?_ (r4r_bounds_j4_T K bx0 p q a (wI (b + (1 : Int))) f g j s (m 0) h)
 exact Turn.rp (.cons rfl (.cons rfl (.nil _))) (.c .z (.c .z (.n _)))
theorem r4r_bounds_j1_T {r : Int × Int × r4r} (K : Nat) (bx0 : Nat) (x0 : r4r) (a : Int) (b : ByteArray) (d : Int) (f : Int) (g : Int) (i : Int) (j : List aNd) (l : Value) (h : r4r_bounds_j1 K x0 a b d f g i j = some r) : T Tryd.prog 122 (Code.at [1, 1, 1, 1, 1, 0, 1, 0, 1, 1, 1, 1] (codeOf Tryd.f91)) ⟨[(0, .ptr bx0 0), (4, .int .i64 x0.at_), (5, .int .i64 a), (6, .int .i64 (-1 : Int))], [(o88 bx0 b d l f g i), .arrA l 42 9 (j.map c_aNd)]⟩ (r4r_bounds_qs111111 bx0 r) := by
 unfold r4r_bounds_j1 at h
 refine T.skip (tN ?_)
 refine T.by_turn ?_ (r4r_bounds_j0_T K bx0 x0 a (-1 : Int) b d f g i j l h)
 exact Turn.rp (.cons rfl (.cons rfl (.cons rfl (.cons rfl (.nil _))))) (.c .z (.c .z (.n _)))
theorem r4r_bounds_j2_T {r : Int × Int × r4r} (K : Nat) (bx0 : Nat) (x0 : r4r) (a : Int) (b : Int) (d : ByteArray) (f : Int) (g : Int) (i : Int) (j : Int) (l : List aNd) (m : Value) (h : r4r_bounds_j2 K x0 a b d f g i j l = some r) : T Tryd.prog 122 (Code.at [1, 1, 1, 1, 1, 0, 1, 1] (codeOf Tryd.f91)) ⟨[(0, .ptr bx0 0), (4, .int .i64 x0.at_), (5, .int .i64 a), (6, .int .i64 b)], [(o88 bx0 d f m g i j), .arrA m 42 9 (l.map c_aNd)]⟩ (r4r_bounds_qs111111 bx0 r) := by
 unfold r4r_bounds_j2 at h
 refine T.skip (tN ?_)
 refine T.by_turn ?_ (r4r_bounds_j0_T K bx0 x0 a b d f g i j l m h)
 exact Turn.rp (.cons rfl (.cons rfl (.cons rfl (.cons rfl (.nil _))))) (.c .z (.c .z (.n _)))
theorem r4r_bounds_T (K : Nat) {x0 : r4r} {bx0 : Nat} {wx0c2 : Value} {r : Int × Int × r4r} (h : r4r_bounds K x0 = some r) : CallG Tryd.prog 91 [.ptr bx0 0] [(o88 bx0 x0.s x0.at_ wx0c2 x0.deep x0.e x0.where_), .arrA wx0c2 42 9 (x0.nodes.map c_aNd)] (fun γ => (.tup [.int .i64 r.1, .int .i64 r.2.1])) (fun γ => [(o88 bx0 r.2.2.s r.2.2.at_ (γ 0) r.2.2.deep r.2.2.e r.2.2.where_), .arrA (γ 0) 42 9 (r.2.2.nodes.map c_aNd)]) := by
 refine CallT.intro Tryd.func91 rfl (nb rfl) ?_
 show T Tryd.prog 122 (Code.at [] (codeOf Tryd.f91)) ⟨paramSlots 0 [.ptr bx0 0], [(o88 bx0 x0.s x0.at_ wx0c2 x0.deep x0.e x0.where_), .arrA wx0c2 42 9 (x0.nodes.map c_aNd)]⟩ (r4r_bounds_q bx0 r)
 unfold r4r_bounds at h
 refine T.seq (T.rL ?_)
 refine aw rfl ?_
 refine aw rfl ?_
 refine TL'.nil (tN (T.seq (T.rL ?_)))
 refine mw rfl ?_
 refine sp rfl (OpT.nilCheck rfl (dk rfl) rfl rfl ?_)
 refine sp rfl (OpT.fP rfl (dk rfl) ul88 rfl i3 (by decide) rfl ?_)
 refine sp rfl (OpT.lB (i := 0) rfl (dk rfl) ul3 rfl rfl rfl rfl ?_)
 refine aw rfl ?_
 refine TL'.nil (tN (T.seq (T.rL ?_)))
 refine mw rfl ?_
 refine sp rfl (OpT.nilCheck rfl (dk rfl) rfl rfl ?_)
 refine sp rfl (OpT.fP rfl (dk rfl) ul88 rfl i3 (by decide) rfl ?_)
 refine sp rfl (OpT.lB (i := 0) rfl (dk rfl) ul3 rfl rfl rfl rfl ?_)
 refine sp rfl (OpT.int2 rfl rfl (dk rfl) rfl rfl ?_)
 refine sp rfl (OpT.nilCheck rfl (dk rfl) rfl rfl ?_)
 refine sp rfl (OpT.fP rfl (dk rfl) ul88 rfl i3 (by decide) rfl ?_)
 refine sp rfl (OpT.sT (i := 0) (cells' := [.d (.str x0.s), .d (.int .i64 (wI (x0.at_ + (1 : Int)))), .d (.ex wx0c2), .d (.int .i64 x0.deep), .d (.int .i64 x0.e), .d (.int .i64 x0.where_)]) rfl rfl i3 rfl rfl rfl (nb rfl) rfl ?_)
 refine TL'.nil (tN (T.seq (T.rL ?_)))
 refine mw rfl ?_
 obtain ⟨a, ag, h⟩ := bind_some h
 refine sp rfl (OpT.callG (is := [0, 1]) (ph := []) rfl (dk rfl) Tryd.func107 rfl rfl (Args.cons rfl Args.nil) (r4r_number_T K (bx0 := bx0) (wx0c2 := wx0c2) ag) (.cons rfl rfl (.cons rfl rfl (.nil))) (fun _ => rfl) (fun w => ?_))
 refine nm (.c (.c (.n))) ?_
 refine aw rfl ?_
 refine TL'.nil (tN (T.seq (T.rL ?_)))
 refine mw rfl ?_
 refine aw rfl ?_
 refine TL'.nil (tN ?_)
 refine T.seq ?_
 refine T.seq ?_
 refine DGG.start ?_
 refine DGG.step (c := fun b => ⟨some 21, .ptr bx0 0, [(0, .ptr bx0 0)], [], []⟩) [] (fun _ _ _ => rfl) (fun b t hm => One.step rfl (.free rfl) (OpT.move rfl (dk rfl) hm.s0 ⟨u0, rfl⟩)) (fun b => Ct.mo rfl rfl) ?_
 obtain ⟨m, ai, h⟩ := bind_some h
 refine DGG.step (c := fun b => ⟨some 22, .bool m, [(21, .ptr bx0 0)], [(1, .arrA (w 0) 42 9 (a.2.nodes.map c_aNd)), (0, (o88 bx0 a.2.s a.2.at_ (w 0) a.2.deep a.2.e a.2.where_))], [(0, (o88 bx0 a.2.s a.2.at_ ((b 1).1 0) a.2.deep a.2.e a.2.where_)), (1, .arrA ((b 1).1 0) 42 9 (a.2.nodes.map c_aNd))]⟩) [1] (fun b γ' h => by simp only [h 1 (by decide)]) (fun b t hm => One.step rfl (.free rfl) (OpT.callG (is := [0, 1]) (ph := []) rfl (dk rfl) Tryd.func49 rfl rfl (Args.cons hm.s0 Args.nil) (r4r_ends_T K (bx0 := bx0) (wx0c2 := (w 0)) ai) (.cons hm.o1 rfl (.cons hm.o0 rfl (.nil))) (fun _ => rfl) (fun g => ⟨(g, 0), rfl⟩))) (fun b => Ct.mo rfl rfl) ?_
 refine DGG.step (c := fun b => ⟨some 23, .bool (!m), [(22, .bool m)], [], []⟩) [] (fun _ _ _ => rfl) (fun b t hm => One.step rfl (.free rfl) (OpT.not rfl (dk rfl) hm.s0 ⟨u0, rfl⟩)) (fun b => Ct.mo rfl rfl) ?_
 refine DGG.step (c := fun b => ⟨some 24, .bool (!m), [(23, .bool (!m))], [], []⟩) [] (fun _ _ _ => rfl) (fun b t hm => One.step rfl (.free rfl) (OpT.move rfl (dk rfl) hm.s0 ⟨u0, rfl⟩)) (fun b => Ct.mo rfl rfl) ?_
 rcases bif_some h with ⟨j, h⟩ | ⟨j, h⟩
 refine DGG.step (c := fun b => ⟨some 25, .ptr bx0 0, [(0, .ptr bx0 0), (24, .bool (!m))], [], []⟩) [] (fun _ _ _ => rfl) (fun b t hm => One.step rfl (.on rfl rfl hm.s1 j) (OpT.move rfl (dk rfl) hm.s0 ⟨u0, rfl⟩)) (fun b => Ct.mo rfl rfl) ?_
 refine DGG.step (c := fun b => ⟨some 26, .ptr bx0 0, [(25, .ptr bx0 0), (24, .bool (!m))], [], []⟩) [] (fun _ _ _ => rfl) (fun b t hm => One.step rfl (.on rfl rfl hm.s1 j) (OpT.nilCheck rfl (dk rfl) hm.s0 rfl ⟨u0, rfl⟩)) (fun b => Ct.mo rfl rfl) ?_
 refine DGG.step (c := fun b => ⟨some 27, .ptr bx0 (0 + 0), [(26, .ptr bx0 0), (24, .bool (!m))], [], []⟩) [] (fun _ _ _ => rfl) (fun b t hm => One.step rfl (.on rfl rfl hm.s1 j) (OpT.fP rfl (dk rfl) ul88 rfl i9 (by decide) hm.s0 ⟨u0, rfl⟩)) (fun b => Ct.mo rfl rfl) ?_
 refine DGG.step (c := fun b => ⟨some 28, .str a.2.s, [(27, .ptr bx0 (0 + 0)), (24, .bool (!m))], [(0, (o88 bx0 a.2.s a.2.at_ ((b 1).1 0) a.2.deep a.2.e a.2.where_))], []⟩) [1] (fun b γ' h => by simp only [h 1 (by decide)]) (fun b t hm => One.step rfl (.on rfl rfl hm.s1 j) (OpT.lB (i := 0) rfl (dk rfl) ul9 rfl hm.s0 hm.o0 rfl ⟨u0, rfl⟩)) (fun b => Ct.mo rfl rfl) ?_
 refine DGG.step (c := fun b => ⟨some 29, .ptr bx0 0, [(0, .ptr bx0 0), (24, .bool (!m))], [], []⟩) [] (fun _ _ _ => rfl) (fun b t hm => One.step rfl (.on rfl rfl hm.s1 j) (OpT.move rfl (dk rfl) hm.s0 ⟨u0, rfl⟩)) (fun b => Ct.mo rfl rfl) ?_
 refine DGG.step (c := fun b => ⟨some 30, .ptr bx0 0, [(29, .ptr bx0 0), (24, .bool (!m))], [], []⟩) [] (fun _ _ _ => rfl) (fun b t hm => One.step rfl (.on rfl rfl hm.s1 j) (OpT.nilCheck rfl (dk rfl) hm.s0 rfl ⟨u0, rfl⟩)) (fun b => Ct.mo rfl rfl) ?_
 refine DGG.step (c := fun b => ⟨some 31, .ptr bx0 (0 + 1), [(30, .ptr bx0 0), (24, .bool (!m))], [], []⟩) [] (fun _ _ _ => rfl) (fun b t hm => One.step rfl (.on rfl rfl hm.s1 j) (OpT.fP rfl (dk rfl) ul88 rfl i3 (by decide) hm.s0 ⟨u0, rfl⟩)) (fun b => Ct.mo rfl rfl) ?_
 refine DGG.step (c := fun b => ⟨some 32, .int .i64 a.2.at_, [(31, .ptr bx0 (0 + 1)), (24, .bool (!m))], [(0, (o88 bx0 a.2.s a.2.at_ ((b 1).1 0) a.2.deep a.2.e a.2.where_))], []⟩) [1] (fun b γ' h => by simp only [h 1 (by decide)]) (fun b t hm => One.step rfl (.on rfl rfl hm.s1 j) (OpT.lB (i := 0) rfl (dk rfl) ul3 rfl hm.s0 hm.o0 rfl ⟨u0, rfl⟩)) (fun b => Ct.mo rfl rfl) ?_
 obtain ⟨ac, h⟩ := ck_some h
 refine DGG.step (c := fun b => ⟨some 33, .int .u8 (bt a.2.s a.2.at_), [(28, .str a.2.s), (32, .int .i64 a.2.at_), (24, .bool (!m))], [], []⟩) [] (fun _ _ _ => rfl) (fun b t hm => One.step rfl (.on rfl rfl hm.s2 j) (OpT.indexStr rfl (dk rfl) ul9 hm.s0 hm.s1 ac.1 ac.2 ⟨u0, rfl⟩)) (fun b => Ct.mo rfl rfl) ?_
 refine DGG.step (c := fun b => ⟨some 34, .bool ((bt a.2.s a.2.at_) == (44 : Int)), [(33, .int .u8 (bt a.2.s a.2.at_)), (24, .bool (!m))], [], []⟩) [] (fun _ _ _ => rfl) (fun b t hm => One.step rfl (.on rfl rfl hm.s1 j) (OpT.int2 rfl rfl (dk rfl) hm.s0 rfl ⟨u0, rfl⟩)) (fun b => Ct.mo rfl rfl) ?_
 refine DGG.step (c := fun b => ⟨some 35, .bool ((bt a.2.s a.2.at_) == (44 : Int)), [(24, .bool (!m)), (34, .bool ((bt a.2.s a.2.at_) == (44 : Int)))], [], []⟩) [] (fun _ _ _ => rfl) (fun b t hm => One.step rfl (.free rfl) (OpT.pickT rfl (dk rfl) hm.s0 j hm.s1 ⟨u0, rfl⟩)) (fun b => Ct.mo rfl rfl) ?_
 refine DGG.fin (s1 := fun b => ⟨[(0, .ptr bx0 0), (4, .int .i64 x0.at_), (5, .int .i64 a.1), (6, .int .i64 a.1), (35, .bool ((bt a.2.s a.2.at_) == (44 : Int)))], [(o88 bx0 a.2.s a.2.at_ ((b 1).1 0) a.2.deep a.2.e a.2.where_), .arrA ((b 1).1 0) 42 9 (a.2.nodes.map c_aNd)]⟩) (ms := [0, 1, 3, 7, 15, 31, 63, 127, 15, 271, 783, 1807, 4095, 8191, 16383]) TrydMixed rfl (by kernel_rfl) (by kernel_rfl) (by kernel_rfl) (fun b => by kernel_rfl) (fun b => .cons rfl (.cons rfl (.cons rfl (.cons rfl (.cons rfl (.nil _)))))) (fun _ => rfl) (fun b u hu => (tN (T.by_turn hu ?_)))
 rcases bif_some h with ⟨y, h⟩ | ⟨y, h⟩
 refine T.condT rfl y ?_
 refine T.seq (T.rL ?_)
 refine mw rfl ?_
 refine sp rfl (OpT.nilCheck rfl (dk rfl) rfl rfl ?_)
 refine sp rfl (OpT.fP rfl (dk rfl) ul88 rfl i3 (by decide) rfl ?_)
 refine sp rfl (OpT.lB (i := 0) rfl (dk rfl) ul3 rfl rfl rfl rfl ?_)
 refine sp rfl (OpT.int2 rfl rfl (dk rfl) rfl rfl ?_)
 refine sp rfl (OpT.nilCheck rfl (dk rfl) rfl rfl ?_)
 refine sp rfl (OpT.fP rfl (dk rfl) ul88 rfl i3 (by decide) rfl ?_)
 refine sp rfl (OpT.sT (i := 0) (cells' := [.d (.str a.2.s), .d (.int .i64 (wI (a.2.at_ + (1 : Int)))), .d (.ex ((b 1).1 0)), .d (.int .i64 a.2.deep), .d (.int .i64 a.2.e), .d (.int .i64 a.2.where_)]) rfl rfl i3 rfl rfl rfl (nb rfl) rfl ?_)
 refine TL'.nil (tN (T.seq (T.rL ?_)))
 refine aw rfl ?_
 refine TL'.nil (tN ?_)
 refine T.seq ?_
 refine DGG.start ?_
 refine DGG.step (c := fun f => ⟨some 43, .ptr bx0 0, [(0, .ptr bx0 0)], [], []⟩) [] (fun _ _ _ => rfl) (fun f t hm => One.step rfl (.free rfl) (OpT.move rfl (dk rfl) hm.s0 ⟨u0, rfl⟩)) (fun f => Ct.mo rfl rfl) ?_
 obtain ⟨p, aj, h⟩ := bind_some h
 refine DGG.step (c := fun f => ⟨some 44, .bool p, [(43, .ptr bx0 0)], [(1, .arrA ((b 1).1 0) 42 9 (a.2.nodes.map c_aNd)), (0, (o88 bx0 a.2.s (wI (a.2.at_ + (1 : Int))) ((b 1).1 0) a.2.deep a.2.e a.2.where_))], [(0, (o88 bx0 a.2.s ((wI (a.2.at_ + (1 : Int)))) ((f 1).1 0) a.2.deep a.2.e a.2.where_)), (1, .arrA ((f 1).1 0) 42 9 ((a.2.nodes).map c_aNd))]⟩) [1] (fun f γ' h => by simp only [h 1 (by decide)]) (fun f t hm => One.step rfl (.free rfl) (OpT.callG (is := [0, 1]) (ph := []) rfl (dk rfl) Tryd.func49 rfl rfl (Args.cons hm.s0 Args.nil) (r4r_ends_T K (bx0 := bx0) (wx0c2 := ((b 1).1 0)) aj) (.cons hm.o1 rfl (.cons hm.o0 rfl (.nil))) (fun _ => rfl) (fun g => ⟨(g, 0), rfl⟩))) (fun f => Ct.mo rfl rfl) ?_
 refine DGG.step (c := fun f => ⟨some 45, .bool (!p), [(44, .bool p)], [], []⟩) [] (fun _ _ _ => rfl) (fun f t hm => One.step rfl (.free rfl) (OpT.not rfl (dk rfl) hm.s0 ⟨u0, rfl⟩)) (fun f => Ct.mo rfl rfl) ?_
 refine DGG.step (c := fun f => ⟨some 46, .bool (!p), [(45, .bool (!p))], [], []⟩) [] (fun _ _ _ => rfl) (fun f t hm => One.step rfl (.free rfl) (OpT.move rfl (dk rfl) hm.s0 ⟨u0, rfl⟩)) (fun f => Ct.mo rfl rfl) ?_
 rcases bif_some h with ⟨l, h⟩ | ⟨l, h⟩
 refine DGG.step (c := fun f => ⟨some 47, .ptr bx0 0, [(0, .ptr bx0 0), (46, .bool (!p))], [], []⟩) [] (fun _ _ _ => rfl) (fun f t hm => One.step rfl (.on rfl rfl hm.s1 l) (OpT.move rfl (dk rfl) hm.s0 ⟨u0, rfl⟩)) (fun f => Ct.mo rfl rfl) ?_
 refine DGG.step (c := fun f => ⟨some 48, .ptr bx0 0, [(47, .ptr bx0 0), (46, .bool (!p))], [], []⟩) [] (fun _ _ _ => rfl) (fun f t hm => One.step rfl (.on rfl rfl hm.s1 l) (OpT.nilCheck rfl (dk rfl) hm.s0 rfl ⟨u0, rfl⟩)) (fun f => Ct.mo rfl rfl) ?_
 refine DGG.step (c := fun f => ⟨some 49, .ptr bx0 (0 + 0), [(48, .ptr bx0 0), (46, .bool (!p))], [], []⟩) [] (fun _ _ _ => rfl) (fun f t hm => One.step rfl (.on rfl rfl hm.s1 l) (OpT.fP rfl (dk rfl) ul88 rfl i9 (by decide) hm.s0 ⟨u0, rfl⟩)) (fun f => Ct.mo rfl rfl) ?_
 refine DGG.step (c := fun f => ⟨some 50, .str a.2.s, [(49, .ptr bx0 (0 + 0)), (46, .bool (!p))], [(0, (o88 bx0 a.2.s ((wI (a.2.at_ + (1 : Int)))) ((f 1).1 0) a.2.deep a.2.e a.2.where_))], []⟩) [1] (fun f γ' h => by simp only [h 1 (by decide)]) (fun f t hm => One.step rfl (.on rfl rfl hm.s1 l) (OpT.lB (i := 0) rfl (dk rfl) ul9 rfl hm.s0 hm.o0 rfl ⟨u0, rfl⟩)) (fun f => Ct.mo rfl rfl) ?_
 refine DGG.step (c := fun f => ⟨some 51, .ptr bx0 0, [(0, .ptr bx0 0), (46, .bool (!p))], [], []⟩) [] (fun _ _ _ => rfl) (fun f t hm => One.step rfl (.on rfl rfl hm.s1 l) (OpT.move rfl (dk rfl) hm.s0 ⟨u0, rfl⟩)) (fun f => Ct.mo rfl rfl) ?_
 refine DGG.step (c := fun f => ⟨some 52, .ptr bx0 0, [(51, .ptr bx0 0), (46, .bool (!p))], [], []⟩) [] (fun _ _ _ => rfl) (fun f t hm => One.step rfl (.on rfl rfl hm.s1 l) (OpT.nilCheck rfl (dk rfl) hm.s0 rfl ⟨u0, rfl⟩)) (fun f => Ct.mo rfl rfl) ?_
 refine DGG.step (c := fun f => ⟨some 53, .ptr bx0 (0 + 1), [(52, .ptr bx0 0), (46, .bool (!p))], [], []⟩) [] (fun _ _ _ => rfl) (fun f t hm => One.step rfl (.on rfl rfl hm.s1 l) (OpT.fP rfl (dk rfl) ul88 rfl i3 (by decide) hm.s0 ⟨u0, rfl⟩)) (fun f => Ct.mo rfl rfl) ?_
 refine DGG.step (c := fun f => ⟨some 54, .int .i64 ((wI (a.2.at_ + (1 : Int)))), [(53, .ptr bx0 (0 + 1)), (46, .bool (!p))], [(0, (o88 bx0 a.2.s ((wI (a.2.at_ + (1 : Int)))) ((f 1).1 0) a.2.deep a.2.e a.2.where_))], []⟩) [1] (fun f γ' h => by simp only [h 1 (by decide)]) (fun f t hm => One.step rfl (.on rfl rfl hm.s1 l) (OpT.lB (i := 0) rfl (dk rfl) ul3 rfl hm.s0 hm.o0 rfl ⟨u0, rfl⟩)) (fun f => Ct.mo rfl rfl) ?_
 obtain ⟨ad, h⟩ := ck_some h
 refine DGG.step (c := fun f => ⟨some 55, .int .u8 (bt a.2.s ((wI (a.2.at_ + (1 : Int))))), [(50, .str a.2.s), (54, .int .i64 ((wI (a.2.at_ + (1 : Int))))), (46, .bool (!p))], [], []⟩) [] (fun _ _ _ => rfl) (fun f t hm => One.step rfl (.on rfl rfl hm.s2 l) (OpT.indexStr rfl (dk rfl) ul9 hm.s0 hm.s1 ad.1 ad.2 ⟨u0, rfl⟩)) (fun f => Ct.mo rfl rfl) ?_
 obtain ⟨v, al, h⟩ := bind_some h
 refine DGG.step (c := fun f => ⟨some 56, .bool v, [(55, .int .u8 (bt a.2.s ((wI (a.2.at_ + (1 : Int)))))), (46, .bool (!p))], [], []⟩) [] (fun _ _ _ => rfl) (fun f t hm => One.step rfl (.on rfl rfl hm.s1 l) (OpT.callPA rfl (dk rfl) Tryd.func81 rfl rfl (Args.cons hm.s0 Args.nil) (CallR.nil (r4_digit_T K al)) ⟨u0, rfl⟩)) (fun f => Ct.mo rfl rfl) ?_
 refine DGG.step (c := fun f => ⟨some 57, .bool v, [(46, .bool (!p)), (56, .bool v)], [], []⟩) [] (fun _ _ _ => rfl) (fun f t hm => One.step rfl (.free rfl) (OpT.pickT rfl (dk rfl) hm.s0 l hm.s1 ⟨u0, rfl⟩)) (fun f => Ct.mo rfl rfl) ?_
 refine DGG.fin (s1 := fun f => ⟨[(0, .ptr bx0 0), (4, .int .i64 x0.at_), (5, .int .i64 a.1), (6, .int .i64 (-1 : Int)), (57, .bool v)], [(o88 bx0 a.2.s ((wI (a.2.at_ + (1 : Int)))) ((f 1).1 0) a.2.deep a.2.e a.2.where_), .arrA ((f 1).1 0) 42 9 ((a.2.nodes).map c_aNd)]⟩) (ms := [0, 1, 3, 7, 15, 31, 63, 127, 15, 271, 783, 1807, 4095, 8191, 16383]) TrydMixed rfl (by kernel_rfl) (by kernel_rfl) (by kernel_rfl) (fun f => by kernel_rfl) (fun f => .cons rfl (.cons rfl (.cons rfl (.cons rfl (.cons rfl (.nil _)))))) (fun _ => rfl) (fun f u hu => (tN (T.by_turn hu ?_)))
 rcases bif_some h with ⟨aa, h⟩ | ⟨aa, h⟩
 refine T.condT rfl aa ?_
 refine T.seq (T.rL ?_)
 refine mw rfl ?_
 obtain ⟨q, am, h⟩ := bind_some h
 refine sp rfl (OpT.callG (is := [0, 1]) (ph := []) rfl (dk rfl) Tryd.func107 rfl rfl (Args.cons rfl Args.nil) (r4r_number_T K (bx0 := bx0) (wx0c2 := ((f 1).1 0)) am) (.cons rfl rfl (.cons rfl rfl (.nil))) (fun _ => rfl) (fun af => ?_))
 refine nm (.c (.c (.n))) ?_
 refine aw rfl ?_
 refine TL'.nil (tN (T.seq (T.rL ?_)))
 refine mw rfl ?_
 refine sp rfl (OpT.int2 rfl rfl (dk rfl) rfl rfl ?_)
 refine TL'.nil (tN ?_)
 rcases bif_some h with ⟨ab, h⟩ | ⟨ab, h⟩
 refine T.condT rfl ab ?_
 refine T.rL ?_
 refine aw rfl ?_
 refine TL'.nil (tN ?_)
 refine T.by_turn ?_ (r4r_bounds_j0_T K bx0 x0 (-1 : Int) q.1 q.2.s q.2.at_ q.2.deep q.2.e q.2.where_ q.2.nodes (af 0) h)
 exact Turn.rp (.cons rfl (.cons rfl (.cons rfl (.cons rfl (.nil _))))) (.c .z (.c .z (.n _)))
 refine T.condF rfl ab ?_
 refine T.skip (tN ?_)
 refine T.by_turn ?_ (r4r_bounds_j0_T K bx0 x0 a.1 q.1 q.2.s q.2.at_ q.2.deep q.2.e q.2.where_ q.2.nodes (af 0) h)
 exact Turn.rp (.cons rfl (.cons rfl (.cons rfl (.cons rfl (.nil _))))) (.c .z (.c .z (.n _)))
 refine T.condF rfl aa ?_
 refine T.by_turn ?_ (r4r_bounds_j1_T K bx0 x0 a.1 a.2.s ((wI (a.2.at_ + (1 : Int)))) a.2.deep a.2.e a.2.where_ a.2.nodes ((f 1).1 0) h)
 exact Turn.rp (.cons rfl (.cons rfl (.cons rfl (.cons rfl (.nil _))))) (.c .z (.c .z (.n _)))
 refine DGG.off l rfl rfl rfl rfl rfl (fun _ => rfl) ?_
 refine DGG.off l rfl rfl rfl rfl rfl (fun _ => rfl) ?_
 refine DGG.off l rfl rfl rfl rfl rfl (fun _ => rfl) ?_
 refine DGG.off l rfl rfl rfl rfl rfl (fun _ => rfl) ?_
 refine DGG.off l rfl rfl rfl rfl rfl (fun _ => rfl) ?_
 refine DGG.off l rfl rfl rfl rfl rfl (fun _ => rfl) ?_
 refine DGG.off l rfl rfl rfl rfl rfl (fun _ => rfl) ?_
 refine DGG.off l rfl rfl rfl rfl rfl (fun _ => rfl) ?_
 refine DGG.off l rfl rfl rfl rfl rfl (fun _ => rfl) ?_
 refine DGG.off l rfl rfl rfl rfl rfl (fun _ => rfl) ?_
 refine DGG.step (c := fun f => ⟨some 57, .bool false, [(46, .bool (!p))], [], []⟩) [] (fun _ _ _ => rfl) (fun f t hm => One.step rfl (.free rfl) (OpT.pickF rfl (dk rfl) hm.s0 l rfl ⟨u0, rfl⟩)) (fun f => Ct.mo rfl rfl) ?_
 refine DGG.fin (s1 := fun f => ⟨[(0, .ptr bx0 0), (4, .int .i64 x0.at_), (5, .int .i64 a.1), (6, .int .i64 (-1 : Int)), (57, .bool false)], [(o88 bx0 a.2.s ((wI (a.2.at_ + (1 : Int)))) ((f 1).1 0) a.2.deep a.2.e a.2.where_), .arrA ((f 1).1 0) 42 9 ((a.2.nodes).map c_aNd)]⟩) (ms := [0, 1, 3, 7, 15, 31, 63, 127, 15, 271, 783, 1807, 4095, 8191, 16383]) TrydMixed rfl (by kernel_rfl) (by kernel_rfl) (by kernel_rfl) (fun f => by kernel_rfl) (fun f => .cons rfl (.cons rfl (.cons rfl (.cons rfl (.cons rfl (.nil _)))))) (fun _ => rfl) (fun f u hu => (tN (T.by_turn hu ?_)))
 refine T.condF rfl rfl ?_
 refine T.by_turn ?_ (r4r_bounds_j1_T K bx0 x0 a.1 a.2.s ((wI (a.2.at_ + (1 : Int)))) a.2.deep a.2.e a.2.where_ a.2.nodes ((f 1).1 0) h)
 exact Turn.rp (.cons rfl (.cons rfl (.cons rfl (.cons rfl (.nil _))))) (.c .z (.c .z (.n _)))
 refine T.condF rfl y ?_
 refine T.by_turn ?_ (r4r_bounds_j2_T K bx0 x0 a.1 a.1 a.2.s a.2.at_ a.2.deep a.2.e a.2.where_ a.2.nodes ((b 1).1 0) h)
 exact Turn.rp (.cons rfl (.cons rfl (.cons rfl (.cons rfl (.nil _))))) (.c .z (.c .z (.n _)))
 refine DGG.off j rfl rfl rfl rfl rfl (fun _ => rfl) ?_
 refine DGG.off j rfl rfl rfl rfl rfl (fun _ => rfl) ?_
 refine DGG.off j rfl rfl rfl rfl rfl (fun _ => rfl) ?_
 refine DGG.off j rfl rfl rfl rfl rfl (fun _ => rfl) ?_
 refine DGG.off j rfl rfl rfl rfl rfl (fun _ => rfl) ?_
 refine DGG.off j rfl rfl rfl rfl rfl (fun _ => rfl) ?_
 refine DGG.off j rfl rfl rfl rfl rfl (fun _ => rfl) ?_
 refine DGG.off j rfl rfl rfl rfl rfl (fun _ => rfl) ?_
 refine DGG.off j rfl rfl rfl rfl rfl (fun _ => rfl) ?_
 refine DGG.off j rfl rfl rfl rfl rfl (fun _ => rfl) ?_
 refine DGG.step (c := fun b => ⟨some 35, .bool false, [(24, .bool (!m))], [], []⟩) [] (fun _ _ _ => rfl) (fun b t hm => One.step rfl (.free rfl) (OpT.pickF rfl (dk rfl) hm.s0 j rfl ⟨u0, rfl⟩)) (fun b => Ct.mo rfl rfl) ?_
 refine DGG.fin (s1 := fun b => ⟨[(0, .ptr bx0 0), (4, .int .i64 x0.at_), (5, .int .i64 a.1), (6, .int .i64 a.1), (35, .bool false)], [(o88 bx0 a.2.s a.2.at_ ((b 1).1 0) a.2.deep a.2.e a.2.where_), .arrA ((b 1).1 0) 42 9 (a.2.nodes.map c_aNd)]⟩) (ms := [0, 1, 3, 7, 15, 31, 63, 127, 15, 271, 783, 1807, 4095, 8191, 16383]) TrydMixed rfl (by kernel_rfl) (by kernel_rfl) (by kernel_rfl) (fun b => by kernel_rfl) (fun b => .cons rfl (.cons rfl (.cons rfl (.cons rfl (.cons rfl (.nil _)))))) (fun _ => rfl) (fun b u hu => (tN (T.by_turn hu ?_)))
 refine T.condF rfl rfl ?_
 refine T.by_turn ?_ (r4r_bounds_j2_T K bx0 x0 a.1 a.1 a.2.s a.2.at_ a.2.deep a.2.e a.2.where_ a.2.nodes ((b 1).1 0) h)
 exact Turn.rp (.cons rfl (.cons rfl (.cons rfl (.cons rfl (.nil _))))) (.c .z (.c .z (.n _)))
end Go.Rv

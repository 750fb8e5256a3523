/- Each function computes what its plain text says: printed by a program of ours. -/
import Derived.Test.YtocjhbbldeankaaDoorRgW1
namespace Go.Rv
open Go.Proofs
set_option maxRecDepth 100000
set_option maxHeartbeats 4000000
set_option linter.unusedVariables false

abbrev r4r_class_q (bx0 : Nat) (r : Int × r4r) : Exit → St → Prop := retS Tryd.prog Tryd.f102 (fun y t => ∃ γ : Nat → Value, y = (.int .i64 r.1) ∧ t = [.box bx0 88 [.d (.str r.2.s), .d (.int .i64 r.2.at_), .d (.ex (γ 0)), .d (.int .i64 r.2.deep), .d (.int .i64 r.2.e), .d (.int .i64 r.2.where_)], .arrA (γ 0) 42 9 (r.2.nodes.map c_api_Node)])

abbrev r4r_class_qs111111 (bx0 : Nat) (r : Int × r4r) : Exit → St → Prop := thenS (fun s' => T Tryd.prog 139 (Code.at [1, 1, 1, 1, 1, 1] (codeOf Tryd.f102)) s' ((r4r_class_q bx0 r))) ((r4r_class_q bx0 r))

abbrev r4r_class_qb0x111111 (bx0 : Nat) (r : Int × r4r) : Exit → St → Prop := inBlockS 0 ((r4r_class_qs111111 bx0 r))

abbrev r4r_class_ql1111100 (bx0 : Nat) (r : Int × r4r) : Exit → St → Prop := thenS (fun s' => TL Tryd.prog 139 (Code.at [1, 1, 1, 1, 1, 0, 0, 0] (codeOf Tryd.f102)) s' ((r4r_class_qb0x111111 bx0 r))) ((r4r_class_qb0x111111 bx0 r))

abbrev r4r_class_qb1_0x1111100 (bx0 : Nat) (r : Int × r4r) : Exit → St → Prop := inBlockS 1 ((r4r_class_ql1111100 bx0 r))

abbrev r4r_class_qs1111100010111 (bx0 : Nat) (r : Int × r4r) : Exit → St → Prop := thenS (fun s' => T Tryd.prog 139 (Code.at [1, 1, 1, 1, 1, 0, 0, 0, 1, 0, 1, 1, 1] (codeOf Tryd.f102)) s' ((r4r_class_qb1_0x1111100 bx0 r))) ((r4r_class_qb1_0x1111100 bx0 r))

abbrev r4r_class_qs111110001 (bx0 : Nat) (r : Int × r4r) : Exit → St → Prop := thenS (fun s' => T Tryd.prog 139 (Code.at [1, 1, 1, 1, 1, 0, 0, 0, 1] (codeOf Tryd.f102)) s' ((r4r_class_ql1111100 bx0 r))) ((r4r_class_ql1111100 bx0 r))

abbrev r4r_class_l2_H (bx0 : Nat) (r : Int × r4r) (go : Bool → ByteArray → Int → Int → Int → Int → (List api_Node) → (List Arr4) → Option (Int × r4r)) : Prop := ∀ (x3_0_6 : Bool) (y0_2_0 : ByteArray) (y0_2_1 : Int) (y0_2_3 : Int) (y0_2_4 : Int) (y0_2_5 : Int) (y0_2_2 : List api_Node) (y4_2_7 : List Arr4) (w0_2 : Value) (w4_2 : Value), go x3_0_6 y0_2_0 y0_2_1 y0_2_3 y0_2_4 y0_2_5 y0_2_2 y4_2_7 = some r → TL Tryd.prog 139 (Code.at [1, 1, 1, 1, 1, 0, 0, 0] (codeOf Tryd.f102)) ⟨[(0, .ptr bx0 0), (3, .bool x3_0_6), (4, .c (.ex w4_2))], [.box bx0 88 [.d (.str y0_2_0), .d (.int .i64 y0_2_1), .d (.ex w0_2), .d (.int .i64 y0_2_3), .d (.int .i64 y0_2_4), .d (.int .i64 y0_2_5)], .arrA w0_2 42 9 (y0_2_2.map c_api_Node), .arrA w4_2 25 4 (y4_2_7.map (Arr4.dc .u64))]⟩ (r4r_class_qb0x111111 bx0 r)

theorem r4r_class_j6_T {r : Int × r4r} (K : Nat) (bx0 : Nat) (go2 : Bool → ByteArray → Int → Int → Int → Int → (List api_Node) → (List Arr4) → Option (Int × r4r)) (hgo2 : r4r_class_l2_H bx0 r go2) (x3_0_6 : Bool) (x5_6_8 : Int) (x6_6_9 : Int) (x47_6_10 : Int) (x48_6_11 : Bool) (x49_6_12 : Bool) (x52_6_13 : Bool) (x53_6_14 : Bool) (x64_6_15 : Bool) (y0_6_0 : ByteArray) (y0_6_1 : Int) (y0_6_3 : Int) (y0_6_4 : Int) (y0_6_5 : Int) (y0_6_2 : List api_Node) (y4_6_7 : List Arr4) (w0_6 : Value) (w4_6 : Value) (h : r4r_class_j6 K go2 x3_0_6 x5_6_8 x6_6_9 x47_6_10 x48_6_11 x49_6_12 x52_6_13 x53_6_14 x64_6_15 y0_6_0 y0_6_1 y0_6_3 y0_6_4 y0_6_5 y0_6_2 y4_6_7 = some r) : T Tryd.prog 139 (Code.at [1, 1, 1, 1, 1, 0, 0, 0, 1, 0, 1, 1, 1] (codeOf Tryd.f102)) ⟨[(0, .ptr bx0 0), (3, .bool x3_0_6), (4, .c (.ex w4_6)), (5, .int .u8 x5_6_8), (6, .int .u8 x6_6_9), (46, .c (.ex w4_6)), (47, .int .i64 x47_6_10), (48, .bool x48_6_11), (49, .bool x49_6_12), (52, .bool x52_6_13), (53, .bool x53_6_14), (64, .bool x64_6_15)], [.box bx0 88 [.d (.str y0_6_0), .d (.int .i64 y0_6_1), .d (.ex w0_6), .d (.int .i64 y0_6_3), .d (.int .i64 y0_6_4), .d (.int .i64 y0_6_5)], .arrA w0_6 42 9 (y0_6_2.map c_api_Node), .arrA w4_6 25 4 (y4_6_7.map (Arr4.dc .u64))]⟩ (r4r_class_qb1_0x1111100 bx0 r) := by
  unfold r4r_class_j6 at h
  refine T.regionL ?_
  refine mv rfl rfl rfl rfl rfl ?_
  refine mv rfl rfl rfl rfl rfl ?_
  refine mv rfl rfl rfl rfl rfl ?_
  obtain ⟨v_724, e_725, h⟩ := bind_some h
  refine sp rfl (OpT.callPA rfl (dl rfl rfl) Tryd.func114 rfl rfl (Args.cons rfl (Args.cons rfl Args.nil)) (CallR.nil (r1_Range_T K e_725)) ?_)
  refine sp rfl (OpT.buildSlice (elems := ([v_724] : List Arr4).map (Arr4.dc .u64)) rfl (dl rfl rfl) Tryd.underlying123 i25 (by decide) rfl (all1 rfl) rfl rfl rfl (lenAll rfl) (by decide) ?_)
  obtain ⟨g_727, h⟩ := ck_some h
  refine sp rfl (OpT.appendAM (i := 2) (xs := y4_6_7) (ys := [v_724]) (f := (Arr4.dc .u64)) rfl (dl rfl rfl) Tryd.underlying123 i25 rfl rfl rfl rfl g_727 (fun w_726 => ?_))
  refine asg rfl rfl rfl rfl rfl ?_
  refine TL'.nil (inBlock_normal (thenS_normal ?_))
  refine TL.by_turn ?_ (hgo2 x3_0_6 y0_6_0 y0_6_1 y0_6_3 y0_6_4 y0_6_5 y0_6_2 (y4_6_7 ++ [v_724]) w0_6 w_726 h)
  exact Turn.rp (.cons rfl (.cons rfl (.cons rfl (.nil _)))) (.c .z (.c .z (.c .z (.n _))))

theorem r4r_class_j7_T {r : Int × r4r} (K : Nat) (bx0 : Nat) (go2 : Bool → ByteArray → Int → Int → Int → Int → (List api_Node) → (List Arr4) → Option (Int × r4r)) (hgo2 : r4r_class_l2_H bx0 r go2) (x3_0_6 : Bool) (x5_7_8 : Int) (x6_7_9 : Int) (x47_7_10 : Int) (x48_7_11 : Bool) (x49_7_12 : Bool) (x52_7_13 : Bool) (x53_7_14 : Bool) (x64_7_15 : Bool) (y0_7_0 : ByteArray) (y0_7_1 : Int) (y0_7_3 : Int) (y0_7_4 : Int) (y0_7_5 : Int) (y0_7_2 : List api_Node) (y4_7_7 : List Arr4) (w0_7 : Value) (w4_7 : Value) (h : r4r_class_j7 K go2 x3_0_6 x5_7_8 x6_7_9 x47_7_10 x48_7_11 x49_7_12 x52_7_13 x53_7_14 x64_7_15 y0_7_0 y0_7_1 y0_7_3 y0_7_4 y0_7_5 y0_7_2 y4_7_7 = some r) : T Tryd.prog 139 (Code.at [1, 1, 1, 1, 1, 0, 0, 0, 1, 0, 1, 1, 0, 1, 1] (codeOf Tryd.f102)) ⟨[(0, .ptr bx0 0), (3, .bool x3_0_6), (4, .c (.ex w4_7)), (5, .int .u8 x5_7_8), (6, .int .u8 x6_7_9), (46, .c (.ex w4_7)), (47, .int .i64 x47_7_10), (48, .bool x48_7_11), (49, .bool x49_7_12), (52, .bool x52_7_13), (53, .bool x53_7_14), (64, .bool x64_7_15)], [.box bx0 88 [.d (.str y0_7_0), .d (.int .i64 y0_7_1), .d (.ex w0_7), .d (.int .i64 y0_7_3), .d (.int .i64 y0_7_4), .d (.int .i64 y0_7_5)], .arrA w0_7 42 9 (y0_7_2.map c_api_Node), .arrA w4_7 25 4 (y4_7_7.map (Arr4.dc .u64))]⟩ (r4r_class_qs1111100010111 bx0 r) := by
  unfold r4r_class_j7 at h
  refine T.skip (thenS_normal ?_)
  refine T.by_turn ?_ (r4r_class_j6_T K bx0 go2 hgo2 x3_0_6 x5_7_8 x6_7_9 x47_7_10 x48_7_11 x49_7_12 x52_7_13 x53_7_14 x64_7_15 y0_7_0 y0_7_1 y0_7_3 y0_7_4 y0_7_5 y0_7_2 y4_7_7 w0_7 w4_7 h)
  exact Turn.rp (.cons rfl (.cons rfl (.cons rfl (.cons rfl (.cons rfl (.cons rfl (.cons rfl (.cons rfl (.cons rfl (.cons rfl (.cons rfl (.cons rfl (.nil _))))))))))))) (.c .z (.c .z (.c .z (.n _))))

theorem r4r_class_j3_T {r : Int × r4r} (K : Nat) (bx0 : Nat) (go2 : Bool → ByteArray → Int → Int → Int → Int → (List api_Node) → (List Arr4) → Option (Int × r4r)) (hgo2 : r4r_class_l2_H bx0 r go2) (x3_0_6 : Bool) (x47_3_8 : Int) (x48_3_9 : Bool) (x49_3_10 : Bool) (x52_3_11 : Bool) (x53_3_12 : Bool) (x64_3_13 : Bool) (y0_3_0 : ByteArray) (y0_3_1 : Int) (y0_3_3 : Int) (y0_3_4 : Int) (y0_3_5 : Int) (y0_3_2 : List api_Node) (y4_3_7 : List Arr4) (w0_3 : Value) (w4_3 : Value) (h : r4r_class_j3 K go2 x3_0_6 x47_3_8 x48_3_9 x49_3_10 x52_3_11 x53_3_12 x64_3_13 y0_3_0 y0_3_1 y0_3_3 y0_3_4 y0_3_5 y0_3_2 y4_3_7 = some r) : T Tryd.prog 139 (Code.at [1, 1, 1, 1, 1, 0, 0, 0, 0, 1, 0] (codeOf Tryd.f102)) ⟨[(0, .ptr bx0 0), (3, .bool x3_0_6), (4, .c (.ex w4_3)), (46, .c (.ex w4_3)), (47, .int .i64 x47_3_8), (48, .bool x48_3_9), (49, .bool x49_3_10), (52, .bool x52_3_11), (53, .bool x53_3_12), (64, .bool x64_3_13)], [.box bx0 88 [.d (.str y0_3_0), .d (.int .i64 y0_3_1), .d (.ex w0_3), .d (.int .i64 y0_3_3), .d (.int .i64 y0_3_4), .d (.int .i64 y0_3_5)], .arrA w0_3 42 9 (y0_3_2.map c_api_Node), .arrA w4_3 25 4 (y4_3_7.map (Arr4.dc .u64))]⟩ (r4r_class_qs111110001 bx0 r) := by
  unfold r4r_class_j3 at h
  refine T.skip (thenS_normal ?_)
  refine T.block ?_
  refine T.seq ?_
  refine T.regionL ?_
  refine mv rfl rfl rfl rfl rfl ?_
  obtain ⟨v_704, e_705, h⟩ := bind_some h
  refine sp rfl (OpT.callG (is := [0, 1]) (ph := []) rfl (dl rfl rfl) Tryd.func113 rfl rfl (Args.cons rfl Args.nil) (r4r_member_T K (bx0 := bx0) (wx0c2 := w0_3) e_705) (.cons rfl rfl (.cons rfl rfl (.nil))) (fun _ => rfl) (fun γ_706 => ?_))
  refine nm (.c (.c (.c (.n)))) ?_
  refine asg rfl rfl rfl rfl rfl ?_
  refine TL'.nil (thenS_normal ?_)
  refine T.seq ?_
  refine T.regionL ?_
  refine mv rfl rfl rfl rfl rfl ?_
  refine asg rfl rfl rfl rfl rfl ?_
  refine TL'.nil (thenS_normal ?_)
  refine T.seq ?_
  refine T.seq ?_
  refine DGG.start ?_
  refine DGG.step (c := fun γ_707 => ⟨some 69, .ptr bx0 0, [(0, .ptr bx0 0)], [], []⟩) [] (fun _ _ _ => rfl) (fun γ_707 t hm => One.step rfl (.free rfl) (OpT.move rfl (dl rfl rfl) hm.s0 ⟨(fun _ => undef, 0), rfl⟩)) (fun γ_707 => Ct.met_of rfl rfl) ?_
  obtain ⟨v_712, e_713, h⟩ := bind_some h
  refine DGG.step (c := fun γ_707 => ⟨some 70, .bool v_712, [(69, .ptr bx0 0)], [(1, .arrA (γ_706 0) 42 9 (v_704.2.nodes.map c_api_Node)), (0, .box bx0 88 [.d (.str v_704.2.s), .d (.int .i64 v_704.2.at_), .d (.ex (γ_706 0)), .d (.int .i64 v_704.2.deep), .d (.int .i64 v_704.2.e), .d (.int .i64 v_704.2.where_)])], [(0, .box bx0 88 [.d (.str v_704.2.s), .d (.int .i64 v_704.2.at_), .d (.ex ((γ_707 1).1 0)), .d (.int .i64 v_704.2.deep), .d (.int .i64 v_704.2.e), .d (.int .i64 v_704.2.where_)]), (1, .arrA ((γ_707 1).1 0) 42 9 (v_704.2.nodes.map c_api_Node))]⟩) [1] (fun γ_707 γ' h => by simp only [h 1 (by decide)]) (fun γ_707 t hm => One.step rfl (.free rfl) (OpT.callG (is := [0, 1]) (ph := []) rfl (dl rfl rfl) Tryd.func49 rfl rfl (Args.cons hm.s0 Args.nil) (r4r_ends_T K (bx0 := bx0) (wx0c2 := (γ_706 0)) e_713) (.cons hm.o1 rfl (.cons hm.o0 rfl (.nil))) (fun _ => rfl) (fun g => ⟨(g, 0), rfl⟩))) (fun γ_707 => Ct.met_of rfl rfl) ?_
  refine DGG.step (c := fun γ_707 => ⟨some 71, .bool (!v_712), [(70, .bool v_712)], [], []⟩) [] (fun _ _ _ => rfl) (fun γ_707 t hm => One.step rfl (.free rfl) (OpT.not rfl (dl rfl rfl) hm.s0 ⟨(fun _ => undef, 0), rfl⟩)) (fun γ_707 => Ct.met_of rfl rfl) ?_
  refine DGG.step (c := fun γ_707 => ⟨some 72, .bool (!v_712), [(71, .bool (!v_712))], [], []⟩) [] (fun _ _ _ => rfl) (fun γ_707 t hm => One.step rfl (.free rfl) (OpT.move rfl (dl rfl rfl) hm.s0 ⟨(fun _ => undef, 0), rfl⟩)) (fun γ_707 => Ct.met_of rfl rfl) ?_
  rcases bif_some h with ⟨c_714, h⟩ | ⟨c_714, h⟩
  · refine DGG.step (c := fun γ_707 => ⟨some 73, .ptr bx0 0, [(0, .ptr bx0 0), (72, .bool (!v_712))], [], []⟩) [] (fun _ _ _ => rfl) (fun γ_707 t hm => One.step rfl (.on rfl rfl hm.s1 c_714) (OpT.move rfl (dl rfl rfl) hm.s0 ⟨(fun _ => undef, 0), rfl⟩)) (fun γ_707 => Ct.met_of rfl rfl) ?_
    refine DGG.step (c := fun γ_707 => ⟨some 74, .ptr bx0 0, [(73, .ptr bx0 0), (72, .bool (!v_712))], [], []⟩) [] (fun _ _ _ => rfl) (fun γ_707 t hm => One.step rfl (.on rfl rfl hm.s1 c_714) (OpT.nilCheck rfl (dl rfl rfl) hm.s0 rfl ⟨(fun _ => undef, 0), rfl⟩)) (fun γ_707 => Ct.met_of rfl rfl) ?_
    refine DGG.step (c := fun γ_707 => ⟨some 75, .ptr bx0 (0 + 0), [(74, .ptr bx0 0), (72, .bool (!v_712))], [], []⟩) [] (fun _ _ _ => rfl) (fun γ_707 t hm => One.step rfl (.on rfl rfl hm.s1 c_714) (OpT.fieldPtr rfl (dl rfl rfl) Tryd.underlying88 rfl i9 (by decide) hm.s0 ⟨(fun _ => undef, 0), rfl⟩)) (fun γ_707 => Ct.met_of rfl rfl) ?_
    refine DGG.step (c := fun γ_707 => ⟨some 76, .str v_704.2.s, [(75, .ptr bx0 (0 + 0)), (72, .bool (!v_712))], [(0, .box bx0 88 [.d (.str v_704.2.s), .d (.int .i64 v_704.2.at_), .d (.ex ((γ_707 1).1 0)), .d (.int .i64 v_704.2.deep), .d (.int .i64 v_704.2.e), .d (.int .i64 v_704.2.where_)])], []⟩) [1] (fun γ_707 γ' h => by simp only [h 1 (by decide)]) (fun γ_707 t hm => One.step rfl (.on rfl rfl hm.s1 c_714) (OpT.loadBox (i := 0) rfl (dl rfl rfl) Tryd.underlying9 rfl hm.s0 hm.o0 rfl ⟨(fun _ => undef, 0), rfl⟩)) (fun γ_707 => Ct.met_of rfl rfl) ?_
    refine DGG.step (c := fun γ_707 => ⟨some 77, .ptr bx0 0, [(0, .ptr bx0 0), (72, .bool (!v_712))], [], []⟩) [] (fun _ _ _ => rfl) (fun γ_707 t hm => One.step rfl (.on rfl rfl hm.s1 c_714) (OpT.move rfl (dl rfl rfl) hm.s0 ⟨(fun _ => undef, 0), rfl⟩)) (fun γ_707 => Ct.met_of rfl rfl) ?_
    refine DGG.step (c := fun γ_707 => ⟨some 78, .ptr bx0 0, [(77, .ptr bx0 0), (72, .bool (!v_712))], [], []⟩) [] (fun _ _ _ => rfl) (fun γ_707 t hm => One.step rfl (.on rfl rfl hm.s1 c_714) (OpT.nilCheck rfl (dl rfl rfl) hm.s0 rfl ⟨(fun _ => undef, 0), rfl⟩)) (fun γ_707 => Ct.met_of rfl rfl) ?_
    refine DGG.step (c := fun γ_707 => ⟨some 79, .ptr bx0 (0 + 1), [(78, .ptr bx0 0), (72, .bool (!v_712))], [], []⟩) [] (fun _ _ _ => rfl) (fun γ_707 t hm => One.step rfl (.on rfl rfl hm.s1 c_714) (OpT.fieldPtr rfl (dl rfl rfl) Tryd.underlying88 rfl i3 (by decide) hm.s0 ⟨(fun _ => undef, 0), rfl⟩)) (fun γ_707 => Ct.met_of rfl rfl) ?_
    refine DGG.step (c := fun γ_707 => ⟨some 80, .int .i64 v_704.2.at_, [(79, .ptr bx0 (0 + 1)), (72, .bool (!v_712))], [(0, .box bx0 88 [.d (.str v_704.2.s), .d (.int .i64 v_704.2.at_), .d (.ex ((γ_707 1).1 0)), .d (.int .i64 v_704.2.deep), .d (.int .i64 v_704.2.e), .d (.int .i64 v_704.2.where_)])], []⟩) [1] (fun γ_707 γ' h => by simp only [h 1 (by decide)]) (fun γ_707 t hm => One.step rfl (.on rfl rfl hm.s1 c_714) (OpT.loadBox (i := 0) rfl (dl rfl rfl) Tryd.underlying3 rfl hm.s0 hm.o0 rfl ⟨(fun _ => undef, 0), rfl⟩)) (fun γ_707 => Ct.met_of rfl rfl) ?_
    obtain ⟨g_715, h⟩ := ck_some h
    refine DGG.step (c := fun γ_707 => ⟨some 81, .int .u8 (bt v_704.2.s v_704.2.at_), [(76, .str v_704.2.s), (80, .int .i64 v_704.2.at_), (72, .bool (!v_712))], [], []⟩) [] (fun _ _ _ => rfl) (fun γ_707 t hm => One.step rfl (.on rfl rfl hm.s2 c_714) (OpT.indexStr rfl (dl rfl rfl) Tryd.underlying9 hm.s0 hm.s1 g_715.1 g_715.2 ⟨(fun _ => undef, 0), rfl⟩)) (fun γ_707 => Ct.met_of rfl rfl) ?_
    refine DGG.step (c := fun γ_707 => ⟨some 82, .bool ((bt v_704.2.s v_704.2.at_) == (45 : Int)), [(81, .int .u8 (bt v_704.2.s v_704.2.at_)), (72, .bool (!v_712))], [], []⟩) [] (fun _ _ _ => rfl) (fun γ_707 t hm => One.step rfl (.on rfl rfl hm.s1 c_714) (OpT.int2 rfl rfl (dl rfl rfl) hm.s0 rfl ⟨(fun _ => undef, 0), rfl⟩)) (fun γ_707 => Ct.met_of rfl rfl) ?_
    refine DGG.step (c := fun γ_707 => ⟨some 83, .bool ((bt v_704.2.s v_704.2.at_) == (45 : Int)), [(72, .bool (!v_712)), (82, .bool ((bt v_704.2.s v_704.2.at_) == (45 : Int)))], [], []⟩) [] (fun _ _ _ => rfl) (fun γ_707 t hm => One.step rfl (.free rfl) (OpT.pickT rfl (dl rfl rfl) hm.s0 c_714 hm.s1 ⟨(fun _ => undef, 0), rfl⟩)) (fun γ_707 => Ct.met_of rfl rfl) ?_
    refine DGG.fin (s1 := fun γ_707 => ⟨[(0, .ptr bx0 0), (3, .bool x3_0_6), (4, .c (.ex w4_3)), (5, .int .u8 v_704.1), (6, .int .u8 v_704.1), (46, .c (.ex w4_3)), (47, .int .i64 x47_3_8), (48, .bool x48_3_9), (49, .bool x49_3_10), (52, .bool x52_3_11), (53, .bool x53_3_12), (64, .bool x64_3_13), (73, .ptr bx0 0), (74, .ptr bx0 0), (75, .ptr bx0 (0 + 0)), (76, .str v_704.2.s), (77, .ptr bx0 0), (78, .ptr bx0 0), (79, .ptr bx0 (0 + 1)), (80, .int .i64 v_704.2.at_), (81, .int .u8 (bt v_704.2.s v_704.2.at_)), (82, .bool ((bt v_704.2.s v_704.2.at_) == (45 : Int))), (83, .bool ((bt v_704.2.s v_704.2.at_) == (45 : Int)))], [.box bx0 88 [.d (.str v_704.2.s), .d (.int .i64 v_704.2.at_), .d (.ex ((γ_707 1).1 0)), .d (.int .i64 v_704.2.deep), .d (.int .i64 v_704.2.e), .d (.int .i64 v_704.2.where_)], .arrA ((γ_707 1).1 0) 42 9 (v_704.2.nodes.map c_api_Node), .arrA w4_3 25 4 (y4_3_7.map (Arr4.dc .u64))]⟩) (ms := [0, 1, 3, 7, 15, 31, 63, 127, 15, 271, 783, 1807, 4095, 8191, 16383]) TrydMixed rfl (by kernel_rfl) (by kernel_rfl) (by kernel_rfl) (fun γ_707 => by kernel_rfl) (fun γ_707 => .cons rfl (.cons rfl (.cons rfl (.cons rfl (.cons rfl (.cons rfl (.cons rfl (.cons rfl (.cons rfl (.cons rfl (.cons rfl (.cons rfl (.cons rfl (.cons rfl (.cons rfl (.cons rfl (.cons rfl (.cons rfl (.cons rfl (.cons rfl (.cons rfl (.cons rfl (.cons rfl (.nil _)))))))))))))))))))))))) (fun _ => rfl) (fun γ_707 u hu => (thenS_normal (T.by_turn hu ?_)))
    rcases bif_some h with ⟨c_716, h⟩ | ⟨c_716, h⟩
    · refine T.condT rfl c_716 ?_
      refine T.seq ?_
      refine T.regionL ?_
      refine mv rfl rfl rfl rfl rfl ?_
      refine sp rfl (OpT.nilCheck rfl (dl rfl rfl) rfl rfl ?_)
      refine sp rfl (OpT.fieldPtr rfl (dl rfl rfl) Tryd.underlying88 rfl i3 (by decide) rfl ?_)
      refine sp rfl (OpT.loadBox (i := 0) rfl (dl rfl rfl) Tryd.underlying3 rfl rfl rfl rfl ?_)
      refine sp rfl (OpT.int2 rfl rfl (dl rfl rfl) rfl rfl ?_)
      refine sp rfl (OpT.nilCheck rfl (dl rfl rfl) rfl rfl ?_)
      refine sp rfl (OpT.fieldPtr rfl (dl rfl rfl) Tryd.underlying88 rfl i3 (by decide) rfl ?_)
      refine sp rfl (OpT.storeTo (i := 0) (cells' := [.d (.str v_704.2.s), .d (.int .i64 (IntKind.i64.wrap (v_704.2.at_ + (1 : Int)))), .d (.ex ((γ_707 1).1 0)), .d (.int .i64 v_704.2.deep), .d (.int .i64 v_704.2.e), .d (.int .i64 v_704.2.where_)]) rfl rfl i3 rfl rfl rfl (Nat.le_of_ble_eq_true rfl) rfl ?_)
      refine TL'.nil (thenS_normal ?_)
      refine T.seq ?_
      refine T.regionL ?_
      refine mv rfl rfl rfl rfl rfl ?_
      refine sp rfl (OpT.nilCheck rfl (dl rfl rfl) rfl rfl ?_)
      refine sp rfl (OpT.fieldPtr rfl (dl rfl rfl) Tryd.underlying88 rfl i3 (by decide) rfl ?_)
      refine sp rfl (OpT.loadBox (i := 0) rfl (dl rfl rfl) Tryd.underlying3 rfl rfl rfl rfl ?_)
      refine asg rfl rfl rfl rfl rfl ?_
      refine TL'.nil (thenS_normal ?_)
      refine T.seq ?_
      refine T.regionL ?_
      refine mv rfl rfl rfl rfl rfl ?_
      obtain ⟨v_717, e_718, h⟩ := bind_some h
      refine sp rfl (OpT.callG (is := [0, 1]) (ph := []) rfl (dl rfl rfl) Tryd.func113 rfl rfl (Args.cons rfl Args.nil) (r4r_member_T K (bx0 := bx0) (wx0c2 := ((γ_707 1).1 0)) e_718) (.cons rfl rfl (.cons rfl rfl (.nil))) (fun _ => rfl) (fun γ_719 => ?_))
      refine nm (.c (.c (.c (.n)))) ?_
      refine asg rfl rfl rfl rfl rfl ?_
      refine TL'.nil (thenS_normal ?_)
      refine T.seq ?_
      refine T.regionL ?_
      refine mv rfl rfl rfl rfl rfl ?_
      refine mv rfl rfl rfl rfl rfl ?_
      refine sp rfl (OpT.int2 rfl rfl (dl rfl rfl) rfl rfl ?_)
      refine TL'.nil (thenS_normal ?_)
      rcases bif_some h with ⟨c_720, h⟩ | ⟨c_720, h⟩
      · refine T.condT rfl c_720 ?_
        refine T.regionL ?_
        refine mv rfl rfl rfl rfl rfl ?_
        refine mv rfl rfl rfl rfl rfl ?_
        obtain ⟨v_721, e_722, h⟩ := bind_some h
        refine sp rfl (OpT.callG (is := [0, 1]) (ph := []) rfl (dl rfl rfl) Tryd.func50 rfl rfl (Args.cons rfl (Args.cons rfl (Args.cons rfl Args.nil))) (r4r_fail_T K (bx0 := bx0) (wx0c2 := (γ_719 0)) e_722) (.cons rfl rfl (.cons rfl rfl (.nil))) (fun _ => rfl) (fun γ_723 => ?_))
        refine nm (.c (.c (.c (.n)))) ?_
        refine TL'.nil (thenS_normal ?_)
        refine T.by_turn ?_ (r4r_class_j6_T K bx0 go2 hgo2 x3_0_6 v_704.1 v_717.1 x47_3_8 x48_3_9 x49_3_10 x52_3_11 x53_3_12 x64_3_13 v_721.s v_721.at_ v_721.deep v_721.e v_721.where_ v_721.nodes y4_3_7 (γ_723 0) w4_3 h)
        exact Turn.rp (.cons rfl (.cons rfl (.cons rfl (.cons rfl (.cons rfl (.cons rfl (.cons rfl (.cons rfl (.cons rfl (.cons rfl (.cons rfl (.cons rfl (.nil _))))))))))))) (.c .z (.c .z (.c .z (.n _))))
      · refine T.condF rfl c_720 ?_
        refine T.skip (thenS_normal ?_)
        refine T.by_turn ?_ (r4r_class_j6_T K bx0 go2 hgo2 x3_0_6 v_704.1 v_717.1 x47_3_8 x48_3_9 x49_3_10 x52_3_11 x53_3_12 x64_3_13 v_717.2.s v_717.2.at_ v_717.2.deep v_717.2.e v_717.2.where_ v_717.2.nodes y4_3_7 (γ_719 0) w4_3 h)
        exact Turn.rp (.cons rfl (.cons rfl (.cons rfl (.cons rfl (.cons rfl (.cons rfl (.cons rfl (.cons rfl (.cons rfl (.cons rfl (.cons rfl (.cons rfl (.nil _))))))))))))) (.c .z (.c .z (.c .z (.n _))))
    · refine T.condF rfl c_716 ?_
      refine T.by_turn ?_ (r4r_class_j7_T K bx0 go2 hgo2 x3_0_6 v_704.1 v_704.1 x47_3_8 x48_3_9 x49_3_10 x52_3_11 x53_3_12 x64_3_13 v_704.2.s v_704.2.at_ v_704.2.deep v_704.2.e v_704.2.where_ v_704.2.nodes y4_3_7 ((γ_707 1).1 0) w4_3 h)
      exact Turn.rp (.cons rfl (.cons rfl (.cons rfl (.cons rfl (.cons rfl (.cons rfl (.cons rfl (.cons rfl (.cons rfl (.cons rfl (.cons rfl (.cons rfl (.nil _))))))))))))) (.c .z (.c .z (.c .z (.n _))))
  · refine DGG.off c_714 rfl rfl rfl rfl rfl (fun _ => rfl) ?_
    refine DGG.off c_714 rfl rfl rfl rfl rfl (fun _ => rfl) ?_
    refine DGG.off c_714 rfl rfl rfl rfl rfl (fun _ => rfl) ?_
    refine DGG.off c_714 rfl rfl rfl rfl rfl (fun _ => rfl) ?_
    refine DGG.off c_714 rfl rfl rfl rfl rfl (fun _ => rfl) ?_
    refine DGG.off c_714 rfl rfl rfl rfl rfl (fun _ => rfl) ?_
    refine DGG.off c_714 rfl rfl rfl rfl rfl (fun _ => rfl) ?_
    refine DGG.off c_714 rfl rfl rfl rfl rfl (fun _ => rfl) ?_
    refine DGG.off c_714 rfl rfl rfl rfl rfl (fun _ => rfl) ?_
    refine DGG.off c_714 rfl rfl rfl rfl rfl (fun _ => rfl) ?_
    refine DGG.step (c := fun γ_707 => ⟨some 83, .bool false, [(72, .bool (!v_712))], [], []⟩) [] (fun _ _ _ => rfl) (fun γ_707 t hm => One.step rfl (.free rfl) (OpT.pickF rfl (dl rfl rfl) hm.s0 c_714 rfl ⟨(fun _ => undef, 0), rfl⟩)) (fun γ_707 => Ct.met_of rfl rfl) ?_
    refine DGG.fin (s1 := fun γ_707 => ⟨[(0, .ptr bx0 0), (3, .bool x3_0_6), (4, .c (.ex w4_3)), (5, .int .u8 v_704.1), (6, .int .u8 v_704.1), (46, .c (.ex w4_3)), (47, .int .i64 x47_3_8), (48, .bool x48_3_9), (49, .bool x49_3_10), (52, .bool x52_3_11), (53, .bool x53_3_12), (64, .bool x64_3_13), (73, .tup []), (74, .tup []), (75, .tup []), (76, .tup []), (77, .tup []), (78, .tup []), (79, .tup []), (80, .tup []), (81, .tup []), (82, .tup []), (83, .bool false)], [.box bx0 88 [.d (.str v_704.2.s), .d (.int .i64 v_704.2.at_), .d (.ex ((γ_707 1).1 0)), .d (.int .i64 v_704.2.deep), .d (.int .i64 v_704.2.e), .d (.int .i64 v_704.2.where_)], .arrA ((γ_707 1).1 0) 42 9 (v_704.2.nodes.map c_api_Node), .arrA w4_3 25 4 (y4_3_7.map (Arr4.dc .u64))]⟩) (ms := [0, 1, 3, 7, 15, 31, 63, 127, 15, 271, 783, 1807, 4095, 8191, 16383]) TrydMixed rfl (by kernel_rfl) (by kernel_rfl) (by kernel_rfl) (fun γ_707 => by kernel_rfl) (fun γ_707 => .cons rfl (.cons rfl (.cons rfl (.cons rfl (.cons rfl (.cons rfl (.cons rfl (.cons rfl (.cons rfl (.cons rfl (.cons rfl (.cons rfl (.cons rfl (.cons rfl (.cons rfl (.cons rfl (.cons rfl (.cons rfl (.cons rfl (.cons rfl (.cons rfl (.cons rfl (.cons rfl (.nil _)))))))))))))))))))))))) (fun _ => rfl) (fun γ_707 u hu => (thenS_normal (T.by_turn hu ?_)))
    refine T.condF rfl rfl ?_
    refine T.by_turn ?_ (r4r_class_j7_T K bx0 go2 hgo2 x3_0_6 v_704.1 v_704.1 x47_3_8 x48_3_9 x49_3_10 x52_3_11 x53_3_12 x64_3_13 v_704.2.s v_704.2.at_ v_704.2.deep v_704.2.e v_704.2.where_ v_704.2.nodes y4_3_7 ((γ_707 1).1 0) w4_3 h)
    exact Turn.rp (.cons rfl (.cons rfl (.cons rfl (.cons rfl (.cons rfl (.cons rfl (.cons rfl (.cons rfl (.cons rfl (.cons rfl (.cons rfl (.cons rfl (.nil _))))))))))))) (.c .z (.c .z (.c .z (.n _))))

theorem r4r_class_j5_T {r : Int × r4r} (K : Nat) (bx0 : Nat) (y0_4_0 : ByteArray) (y0_4_1 : Int) (y0_4_3 : Int) (y0_4_4 : Int) (y0_4_5 : Int) (y0_4_2 : List api_Node) (y8_5_6 : Arr4) (w0_5 : Value) (b8_5 : Nat) (h : r4r_class_j5 K y0_4_0 y0_4_1 y0_4_3 y0_4_4 y0_4_5 y0_4_2 y8_5_6 = some r) : T Tryd.prog 139 (Code.at [1, 1, 1, 1, 1, 1, 1, 1, 1] (codeOf Tryd.f102)) ⟨[(0, .ptr bx0 0), (8, .ptr b8_5 0)], [.box bx0 88 [.d (.str y0_4_0), .d (.int .i64 y0_4_1), .d (.ex w0_5), .d (.int .i64 y0_4_3), .d (.int .i64 y0_4_4), .d (.int .i64 y0_4_5)], .arrA w0_5 42 9 (y0_4_2.map c_api_Node), .box b8_5 25 (Arr4.oc .u64 y8_5_6)]⟩ (r4r_class_q bx0 r) := by
  unfold r4r_class_j5 at h
  refine T.seq ?_
  refine T.seq ?_
  refine T.regionL ?_
  refine sp rfl (OpT.loadBoxAgg (i := 2) (l := (Arr4.dc .u64 y8_5_6)) rfl (dl rfl rfl) Tryd.underlying25 rfl i25 rfl rfl rfl rfl ?_)
  refine sp rfl (OpT.build (l := (Arr4.dc .u64 (Arr4.mk 0 0 0 0))) rfl (dl rfl rfl) (built_arr Tryd.underlying25 i25 i23) (all1 rfl) rfl rfl ?_)
  refine sp rfl (OpT.intsEql (k := .u64) (xs := [y8_5_6.a0, y8_5_6.a1, y8_5_6.a2, y8_5_6.a3]) (ys := [(Arr4.mk 0 0 0 0).a0, (Arr4.mk 0 0 0 0).a1, (Arr4.mk 0 0 0 0).a2, (Arr4.mk 0 0 0 0).a3]) rfl (dl rfl rfl) Tryd.underlying25 Tryd.underlying23 i23 Tryd.eqGuardType25 rfl rfl rfl rfl rfl rfl (Arr4.same_eq y8_5_6 (Arr4.mk 0 0 0 0)) ?_)
  refine TL'.nil (thenS_normal ?_)
  rcases bif_some h with ⟨c_740, h⟩ | ⟨c_740, h⟩
  · refine T.condT rfl c_740 ?_
    refine T.seq ?_
    refine T.regionL ?_
    refine mv rfl rfl rfl rfl rfl ?_
    refine mv rfl rfl rfl rfl rfl ?_
    refine sp rfl (OpT.nilCheck rfl (dl rfl rfl) rfl rfl ?_)
    refine sp rfl (OpT.fieldPtr rfl (dl rfl rfl) Tryd.underlying88 rfl i3 (by decide) rfl ?_)
    refine sp rfl (OpT.loadBox (i := 0) rfl (dl rfl rfl) Tryd.underlying3 rfl rfl rfl rfl ?_)
    obtain ⟨v_741, e_742, h⟩ := bind_some h
    refine sp rfl (OpT.callG (is := [0, 1]) (ph := []) rfl (dl rfl rfl) Tryd.func50 rfl rfl (Args.cons rfl (Args.cons rfl (Args.cons rfl Args.nil))) (r4r_fail_T K (bx0 := bx0) (wx0c2 := w0_5) e_742) (.cons rfl rfl (.cons rfl rfl (.nil))) (fun _ => rfl) (fun γ_743 => ?_))
    refine nm (.c (.c (.c (.n)))) ?_
    refine TL'.nil (thenS_normal ?_)
    refine T.seq ?_
    refine T.regionL ?_
    refine asg rfl rfl rfl rfl rfl ?_
    refine TL'.nil (thenS_normal ?_)
    refine T.ret (thenS_ret ?_)
    exact Fin.doneK (.cons _ _ _ _ (.tmp 2 _ rfl) .nil) (.cons 0 rfl (.cons 0 rfl (.nil _))) (by cases h; exact ⟨gl [γ_743 0], rfl, rfl⟩)
  · refine T.condF rfl c_740 ?_
    refine T.skip (thenS_normal ?_)
    refine T.seq ?_
    refine T.regionL ?_
    refine mv rfl rfl rfl rfl rfl ?_
    refine sp rfl (OpT.nilCheck rfl (dl rfl rfl) rfl rfl ?_)
    refine sp rfl (OpT.fieldPtr rfl (dl rfl rfl) Tryd.underlying88 rfl i3 (by decide) rfl ?_)
    refine sp rfl (OpT.loadBox (i := 0) rfl (dl rfl rfl) Tryd.underlying3 rfl rfl rfl rfl ?_)
    refine sp rfl (OpT.int2 rfl rfl (dl rfl rfl) rfl rfl ?_)
    refine sp rfl (OpT.nilCheck rfl (dl rfl rfl) rfl rfl ?_)
    refine sp rfl (OpT.fieldPtr rfl (dl rfl rfl) Tryd.underlying88 rfl i3 (by decide) rfl ?_)
    refine sp rfl (OpT.storeTo (i := 0) (cells' := [.d (.str y0_4_0), .d (.int .i64 (IntKind.i64.wrap (y0_4_1 + (1 : Int)))), .d (.ex w0_5), .d (.int .i64 y0_4_3), .d (.int .i64 y0_4_4), .d (.int .i64 y0_4_5)]) rfl rfl i3 rfl rfl rfl (Nat.le_of_ble_eq_true rfl) rfl ?_)
    refine TL'.nil (thenS_normal ?_)
    refine T.seq ?_
    refine T.regionL ?_
    refine mv rfl rfl rfl rfl rfl ?_
    refine sp rfl (OpT.loadBoxAgg (i := 2) (l := (Arr4.dc .u64 y8_5_6)) rfl (dl rfl rfl) Tryd.underlying25 rfl i25 rfl rfl rfl rfl ?_)
    refine sp rfl (OpT.thenTurn (OpT.build (l := [.int .u8 (2 : Int), .int .u64 y8_5_6.a0, .int .u64 y8_5_6.a1, .int .u64 y8_5_6.a2, .int .u64 y8_5_6.a3, .ex (.slice none 0 0), .int .i64 (0 : Int), .int .i64 (0 : Int), .str (⟨#[]⟩ : ByteArray)]) rfl (dl rfl rfl) (built_struct (pl := [(0, 1), (1, 4), (5, 1), (6, 1), (7, 1), (8, 1)]) Tryd.underlying42 i42 rfl) (all1 rfl) rfl rfl rfl) (Turn.weakSlotP 137 (l := [.int .u8 (2 : Int), .int .u64 y8_5_6.a0, .int .u64 y8_5_6.a1, .int .u64 y8_5_6.a2, .int .u64 y8_5_6.a3, .ex (.slice none 0 0), .int .i64 (0 : Int), .int .i64 (0 : Int), .str (⟨#[]⟩ : ByteArray)]) (l' := [.int .u8 (2 : Int), .int .u64 y8_5_6.a0, .int .u64 y8_5_6.a1, .int .u64 y8_5_6.a2, .int .u64 y8_5_6.a3, .sl false 1 (([] : List Int).map (cI .i64)), .int .i64 (0 : Int), .int .i64 (0 : Int), .str (⟨#[]⟩ : ByteArray)]) (.cons (.same _) (.cons (.same _) (.cons (.same _) (.cons (.same _) (.cons (.same _) (.cons (.nil _ _) (.cons (.same _) (.cons (.same _) (.cons (.same _) (.refl _))))))))))) ?_)
    obtain ⟨v_744, e_745, h⟩ := bind_some h
    refine sp rfl (OpT.callG (is := [0, 1]) (ph := []) rfl (dl rfl rfl) Tryd.func65 rfl rfl (Args.cons rfl (Args.cons rfl Args.nil)) (r4r_put_T K (bx0 := bx0) (wx0c2 := w0_5) e_745) (.cons rfl rfl (.cons rfl rfl (.nil))) (fun _ => rfl) (fun γ_746 => ?_))
    refine nm (.c (.c (.c (.n)))) ?_
    refine asg rfl rfl rfl rfl rfl ?_
    refine TL'.nil (thenS_normal ?_)
    refine T.ret ?_
    exact Fin.doneK (.cons _ _ _ _ (.tmp 2 _ rfl) .nil) (.cons 0 rfl (.cons 0 rfl (.nil _))) (by cases h; exact ⟨gl [γ_746 0], rfl, rfl⟩)

theorem r4r_class_j4_T {r : Int × r4r} (K : Nat) (bx0 : Nat) (x3_0_6 : Bool) (y0_4_0 : ByteArray) (y0_4_1 : Int) (y0_4_3 : Int) (y0_4_4 : Int) (y0_4_5 : Int) (y0_4_2 : List api_Node) (y4_4_7 : List Arr4) (w0_4 : Value) (w4_4 : Value) (h : r4r_class_j4 K x3_0_6 y0_4_0 y0_4_1 y0_4_3 y0_4_4 y0_4_5 y0_4_2 y4_4_7 = some r) : T Tryd.prog 139 (Code.at [1, 1, 1, 1, 1, 0, 0, 0, 0, 1, 1] (codeOf Tryd.f102)) ⟨[(0, .ptr bx0 0), (3, .bool x3_0_6), (4, .c (.ex w4_4))], [.box bx0 88 [.d (.str y0_4_0), .d (.int .i64 y0_4_1), .d (.ex w0_4), .d (.int .i64 y0_4_3), .d (.int .i64 y0_4_4), .d (.int .i64 y0_4_5)], .arrA w0_4 42 9 (y0_4_2.map c_api_Node), .arrA w4_4 25 4 (y4_4_7.map (Arr4.dc .u64))]⟩ (r4r_class_qs111110001 bx0 r) := by
  unfold r4r_class_j4 at h
  refine T.exit (thenS_exit (thenS_exit (inBlock_exit (thenS_normal ?_))))
  refine T.seq ?_
  refine T.seq ?_
  refine T.regionL ?_
  refine mv rfl rfl rfl rfl rfl ?_
  refine sp rfl (OpT.nilCheck rfl (dl rfl rfl) rfl rfl ?_)
  refine sp rfl (OpT.fieldPtr rfl (dl rfl rfl) Tryd.underlying88 rfl i35 (by decide) rfl ?_)
  refine sp rfl (OpT.loadBox (i := 0) rfl (dl rfl rfl) Tryd.underlying35 rfl rfl rfl rfl ?_)
  refine sp rfl (OpT.int2 rfl rfl (dl rfl rfl) rfl rfl ?_)
  refine TL'.nil (thenS_normal ?_)
  rcases bif_some h with ⟨c_733, h⟩ | ⟨c_733, h⟩
  · refine T.condT rfl c_733 ?_
    refine T.seq ?_
    refine T.regionL ?_
    refine asg rfl rfl rfl rfl rfl ?_
    refine TL'.nil (thenS_normal ?_)
    refine T.ret (thenS_ret ?_)
    exact Fin.doneK (.cons _ _ _ _ (.tmp 2 _ rfl) .nil) (.cons 0 rfl (.cons 0 rfl (.nil _))) (by cases h; exact ⟨gl [w0_4], rfl, rfl⟩)
  · refine T.condF rfl c_733 ?_
    refine T.skip (thenS_normal ?_)
    refine T.seq ?_
    refine T.regionL ?_
    refine mv rfl rfl rfl rfl rfl ?_
    obtain ⟨v_734, e_735, h⟩ := bind_some h
    refine sp rfl (OpT.callPA rfl (dl rfl rfl) Tryd.func115 rfl rfl (Args.view (i := 2) rfl rfl Args.nil) (CallR.nil (r1_Or_T K (flx0 := false) e_735)) ?_)
    refine sp rfl (OpT.alloc' rfl (dl rfl rfl) i25 rfl (fun b_736 => ?_))
    refine sp rfl (OpT.storeAggTo (i := 0) (cells' := (Arr4.oc .u64 v_734)) rfl rfl i25 rfl rfl rfl rfl (Nat.le_of_ble_eq_true rfl) rfl ?_)
    refine TL'.nil (thenS_normal ?_)
    refine T.seq ?_
    refine T.seq ?_
    refine T.regionL ?_
    refine mv rfl rfl rfl rfl rfl ?_
    refine TL'.nil (thenS_normal ?_)
    rcases bif_some h with ⟨c_737, h⟩ | ⟨c_737, h⟩
    · refine T.condT rfl c_737 ?_
      refine T.regionL ?_
      refine sp rfl (OpT.loadBoxAgg (i := 0) (l := (Arr4.dc .u64 v_734)) rfl (dl rfl rfl) Tryd.underlying25 rfl i25 rfl rfl rfl rfl ?_)
      obtain ⟨v_738, e_739, h⟩ := bind_some h
      refine sp rfl (OpT.callPA rfl (dl rfl rfl) Tryd.func34 rfl rfl (Args.cons rfl Args.nil) (CallR.nil (r1_Not_T K e_739)) ?_)
      refine sp rfl (OpT.storeAggTo (i := 0) (cells' := (Arr4.oc .u64 v_738)) rfl rfl i25 rfl rfl rfl rfl (Nat.le_of_ble_eq_true rfl) rfl ?_)
      refine TL'.nil (thenS_normal ?_)
      refine T.by_turn ?_ (r4r_class_j5_T K bx0 y0_4_0 y0_4_1 y0_4_3 y0_4_4 y0_4_5 y0_4_2 v_738 w0_4 b_736 h)
      exact Turn.rp (.cons rfl (.cons rfl (.nil _))) (.c (.s .z) (.c (.s .z) (.c .z (.n _))))
    · refine T.condF rfl c_737 ?_
      refine T.skip (thenS_normal ?_)
      refine T.by_turn ?_ (r4r_class_j5_T K bx0 y0_4_0 y0_4_1 y0_4_3 y0_4_4 y0_4_5 y0_4_2 v_734 w0_4 b_736 h)
      exact Turn.rp (.cons rfl (.cons rfl (.nil _))) (.c (.s .z) (.c (.s .z) (.c .z (.n _))))

theorem r4r_class_l2_T {r : Int × r4r} (K : Nat) (bx0 : Nat) : ∀ (k : Nat), ∀ (x3_0_6 : Bool) (y0_2_0 : ByteArray) (y0_2_1 : Int) (y0_2_3 : Int) (y0_2_4 : Int) (y0_2_5 : Int) (y0_2_2 : List api_Node) (y4_2_7 : List Arr4) (w0_2 : Value) (w4_2 : Value), r4r_class_l2 K k x3_0_6 y0_2_0 y0_2_1 y0_2_3 y0_2_4 y0_2_5 y0_2_2 y4_2_7 = some r → TL Tryd.prog 139 (Code.at [1, 1, 1, 1, 1, 0, 0, 0] (codeOf Tryd.f102)) ⟨[(0, .ptr bx0 0), (3, .bool x3_0_6), (4, .c (.ex w4_2))], [.box bx0 88 [.d (.str y0_2_0), .d (.int .i64 y0_2_1), .d (.ex w0_2), .d (.int .i64 y0_2_3), .d (.int .i64 y0_2_4), .d (.int .i64 y0_2_5)], .arrA w0_2 42 9 (y0_2_2.map c_api_Node), .arrA w4_2 25 4 (y4_2_7.map (Arr4.dc .u64))]⟩ (r4r_class_qb0x111111 bx0 r) := by
  intro k
  induction k with
  | zero =>
    intro x3_0_6 y0_2_0 y0_2_1 y0_2_3 y0_2_4 y0_2_5 y0_2_2 y4_2_7 w0_2 w4_2 h
    cases (show (none : Option (Int × r4r)) = some r from h)
  | succ k ih =>
    intro x3_0_6 y0_2_0 y0_2_1 y0_2_3 y0_2_4 y0_2_5 y0_2_2 y4_2_7 w0_2 w4_2 h
    rw [r4r_class_l2] at h
    refine TL.round ?_
    refine T.seq ?_
    refine T.seq ?_
    refine DGG.start ?_
    refine DGG.step (c := fun γ_695 => ⟨some 40, .ptr bx0 0, [(0, .ptr bx0 0)], [], []⟩) [] (fun _ _ _ => rfl) (fun γ_695 t hm => One.step rfl (.free rfl) (OpT.move rfl (dl rfl rfl) hm.s0 ⟨(fun _ => undef, 0), rfl⟩)) (fun γ_695 => Ct.met_of rfl rfl) ?_
    refine DGG.step (c := fun γ_695 => ⟨some 41, .ptr bx0 0, [(40, .ptr bx0 0)], [], []⟩) [] (fun _ _ _ => rfl) (fun γ_695 t hm => One.step rfl (.free rfl) (OpT.nilCheck rfl (dl rfl rfl) hm.s0 rfl ⟨(fun _ => undef, 0), rfl⟩)) (fun γ_695 => Ct.met_of rfl rfl) ?_
    refine DGG.step (c := fun γ_695 => ⟨some 42, .ptr bx0 (0 + 4), [(41, .ptr bx0 0)], [], []⟩) [] (fun _ _ _ => rfl) (fun γ_695 t hm => One.step rfl (.free rfl) (OpT.fieldPtr rfl (dl rfl rfl) Tryd.underlying88 rfl i35 (by decide) hm.s0 ⟨(fun _ => undef, 0), rfl⟩)) (fun γ_695 => Ct.met_of rfl rfl) ?_
    refine DGG.step (c := fun γ_695 => ⟨some 43, .int .i64 y0_2_4, [(42, .ptr bx0 (0 + 4))], [(0, .box bx0 88 [.d (.str y0_2_0), .d (.int .i64 y0_2_1), .d (.ex w0_2), .d (.int .i64 y0_2_3), .d (.int .i64 y0_2_4), .d (.int .i64 y0_2_5)])], []⟩) [] (fun _ _ _ => rfl) (fun γ_695 t hm => One.step rfl (.free rfl) (OpT.loadBox (i := 0) rfl (dl rfl rfl) Tryd.underlying35 rfl hm.s0 hm.o0 rfl ⟨(fun _ => undef, 0), rfl⟩)) (fun γ_695 => Ct.met_of rfl rfl) ?_
    refine DGG.step (c := fun γ_695 => ⟨some 44, .bool (y0_2_4 == (0 : Int)), [(43, .int .i64 y0_2_4)], [], []⟩) [] (fun _ _ _ => rfl) (fun γ_695 t hm => One.step rfl (.free rfl) (OpT.int2 rfl rfl (dl rfl rfl) hm.s0 rfl ⟨(fun _ => undef, 0), rfl⟩)) (fun γ_695 => Ct.met_of rfl rfl) ?_
    refine DGG.step (c := fun γ_695 => ⟨some 45, .bool (y0_2_4 == (0 : Int)), [(44, .bool (y0_2_4 == (0 : Int)))], [], []⟩) [] (fun _ _ _ => rfl) (fun γ_695 t hm => One.step rfl (.free rfl) (OpT.move rfl (dl rfl rfl) hm.s0 ⟨(fun _ => undef, 0), rfl⟩)) (fun γ_695 => Ct.met_of rfl rfl) ?_
    rcases bif_some h with ⟨c_702, h⟩ | ⟨c_702, h⟩
    · refine DGG.step (c := fun γ_695 => ⟨some 46, .c (.ex w4_2), [(4, .c (.ex w4_2)), (45, .bool (y0_2_4 == (0 : Int)))], [], []⟩) [] (fun _ _ _ => rfl) (fun γ_695 t hm => One.step rfl (.on rfl rfl hm.s1 c_702) (OpT.move rfl (dl rfl rfl) hm.s0 ⟨(fun _ => undef, 0), rfl⟩)) (fun γ_695 => Ct.met_of rfl rfl) ?_
      refine DGG.step (c := fun γ_695 => ⟨some 47, .int .i64 (y4_2_7.length : Int), [(46, .c (.ex w4_2)), (45, .bool (y0_2_4 == (0 : Int)))], [(2, .arrA w4_2 25 4 (y4_2_7.map (Arr4.dc .u64)))], []⟩) [] (fun _ _ _ => rfl) (fun γ_695 t hm => One.step rfl (.on rfl rfl hm.s1 c_702) (OpT.lenAM (i := 2) (xs := y4_2_7) (f := (Arr4.dc .u64)) rfl (dl rfl rfl) Tryd.underlying123 hm.s0 hm.o0 ⟨(fun _ => undef, 0), rfl⟩)) (fun γ_695 => Ct.met_of rfl rfl) ?_
      refine DGG.step (c := fun γ_695 => ⟨some 48, .bool ((y4_2_7.length : Int) == (0 : Int)), [(47, .int .i64 (y4_2_7.length : Int)), (45, .bool (y0_2_4 == (0 : Int)))], [], []⟩) [] (fun _ _ _ => rfl) (fun γ_695 t hm => One.step rfl (.on rfl rfl hm.s1 c_702) (OpT.int2 rfl rfl (dl rfl rfl) hm.s0 rfl ⟨(fun _ => undef, 0), rfl⟩)) (fun γ_695 => Ct.met_of rfl rfl) ?_
      refine DGG.step (c := fun γ_695 => ⟨some 49, .bool ((y4_2_7.length : Int) == (0 : Int)), [(48, .bool ((y4_2_7.length : Int) == (0 : Int))), (45, .bool (y0_2_4 == (0 : Int)))], [], []⟩) [] (fun _ _ _ => rfl) (fun γ_695 t hm => One.step rfl (.on rfl rfl hm.s1 c_702) (OpT.move rfl (dl rfl rfl) hm.s0 ⟨(fun _ => undef, 0), rfl⟩)) (fun γ_695 => Ct.met_of rfl rfl) ?_
      rcases bif_some h with ⟨c_703, h⟩ | ⟨c_703, h⟩
      · refine DGG.off c_703 rfl rfl rfl rfl rfl (fun _ => rfl) ?_
        refine DGG.off c_703 rfl rfl rfl rfl rfl (fun _ => rfl) ?_
        refine DGG.step (c := fun γ_695 => ⟨some 52, .bool true, [(49, .bool ((y4_2_7.length : Int) == (0 : Int))), (45, .bool (y0_2_4 == (0 : Int)))], [], []⟩) [] (fun _ _ _ => rfl) (fun γ_695 t hm => One.step rfl (.on rfl rfl hm.s1 c_702) (OpT.pickT rfl (dl rfl rfl) hm.s0 c_703 rfl ⟨(fun _ => undef, 0), rfl⟩)) (fun γ_695 => Ct.met_of rfl rfl) ?_
        refine DGG.step (c := fun γ_695 => ⟨some 53, .bool true, [(52, .bool true), (45, .bool (y0_2_4 == (0 : Int)))], [], []⟩) [] (fun _ _ _ => rfl) (fun γ_695 t hm => One.step rfl (.on rfl rfl hm.s1 c_702) (OpT.move rfl (dl rfl rfl) hm.s0 ⟨(fun _ => undef, 0), rfl⟩)) (fun γ_695 => Ct.met_of rfl rfl) ?_
        refine DGG.off rfl rfl rfl rfl rfl rfl (fun _ => rfl) ?_
        refine DGG.off rfl rfl rfl rfl rfl rfl (fun _ => rfl) ?_
        refine DGG.off rfl rfl rfl rfl rfl rfl (fun _ => rfl) ?_
        refine DGG.off rfl rfl rfl rfl rfl rfl (fun _ => rfl) ?_
        refine DGG.off rfl rfl rfl rfl rfl rfl (fun _ => rfl) ?_
        refine DGG.off rfl rfl rfl rfl rfl rfl (fun _ => rfl) ?_
        refine DGG.off rfl rfl rfl rfl rfl rfl (fun _ => rfl) ?_
        refine DGG.off rfl rfl rfl rfl rfl rfl (fun _ => rfl) ?_
        refine DGG.off rfl rfl rfl rfl rfl rfl (fun _ => rfl) ?_
        refine DGG.off rfl rfl rfl rfl rfl rfl (fun _ => rfl) ?_
        refine DGG.step (c := fun γ_695 => ⟨some 64, .bool true, [(53, .bool true), (45, .bool (y0_2_4 == (0 : Int)))], [], []⟩) [] (fun _ _ _ => rfl) (fun γ_695 t hm => One.step rfl (.on rfl rfl hm.s1 c_702) (OpT.pickT rfl (dl rfl rfl) hm.s0 rfl rfl ⟨(fun _ => undef, 0), rfl⟩)) (fun γ_695 => Ct.met_of rfl rfl) ?_
        refine DGG.step (c := fun γ_695 => ⟨some 65, .bool true, [(45, .bool (y0_2_4 == (0 : Int))), (64, .bool true)], [], []⟩) [] (fun _ _ _ => rfl) (fun γ_695 t hm => One.step rfl (.free rfl) (OpT.pickT rfl (dl rfl rfl) hm.s0 c_702 hm.s1 ⟨(fun _ => undef, 0), rfl⟩)) (fun γ_695 => Ct.met_of rfl rfl) ?_
        refine DGG.fin (s1 := fun γ_695 => ⟨[(0, .ptr bx0 0), (3, .bool x3_0_6), (4, .c (.ex w4_2)), (46, .c (.ex w4_2)), (47, .int .i64 (y4_2_7.length : Int)), (48, .bool ((y4_2_7.length : Int) == (0 : Int))), (49, .bool ((y4_2_7.length : Int) == (0 : Int))), (50, .tup []), (51, .tup []), (52, .bool true), (53, .bool true), (54, .tup []), (55, .tup []), (56, .tup []), (57, .tup []), (58, .tup []), (59, .tup []), (60, .tup []), (61, .tup []), (62, .tup []), (63, .tup []), (64, .bool true), (65, .bool true)], [.box bx0 88 [.d (.str y0_2_0), .d (.int .i64 y0_2_1), .d (.ex w0_2), .d (.int .i64 y0_2_3), .d (.int .i64 y0_2_4), .d (.int .i64 y0_2_5)], .arrA w0_2 42 9 (y0_2_2.map c_api_Node), .arrA w4_2 25 4 (y4_2_7.map (Arr4.dc .u64))]⟩) (ms := [0, 1, 3, 7, 15, 31, 63, 127, 255, 511, 1023, 2047, 4095, 8191, 16383, 32767, 65535, 131071, 16383, 278527, 802815, 1851391, 4194303, 8388607, 16777215, 33554431]) TrydMixed rfl (by kernel_rfl) (by kernel_rfl) (by kernel_rfl) (fun γ_695 => by kernel_rfl) (fun γ_695 => .cons rfl (.cons rfl (.cons rfl (.cons rfl (.cons rfl (.cons rfl (.cons rfl (.cons rfl (.cons rfl (.cons rfl (.cons rfl (.cons rfl (.cons rfl (.cons rfl (.cons rfl (.cons rfl (.cons rfl (.cons rfl (.cons rfl (.cons rfl (.cons rfl (.cons rfl (.cons rfl (.nil _)))))))))))))))))))))))) (fun _ => rfl) (fun γ_695 u hu => (thenS_normal (T.by_turn hu ?_)))
        refine T.condT rfl rfl ?_
        refine T.by_turn ?_ (r4r_class_j3_T K bx0 (r4r_class_l2 K k) ih x3_0_6 (y4_2_7.length : Int) ((y4_2_7.length : Int) == (0 : Int)) ((y4_2_7.length : Int) == (0 : Int)) true true true y0_2_0 y0_2_1 y0_2_3 y0_2_4 y0_2_5 y0_2_2 y4_2_7 w0_2 w4_2 h)
        exact Turn.rp (.cons rfl (.cons rfl (.cons rfl (.cons rfl (.cons rfl (.cons rfl (.cons rfl (.cons rfl (.cons rfl (.cons rfl (.nil _))))))))))) (.c .z (.c .z (.c .z (.n _))))
      · refine DGG.step (c := fun γ_695 => ⟨some 50, .ptr bx0 0, [(0, .ptr bx0 0), (49, .bool ((y4_2_7.length : Int) == (0 : Int)))], [], []⟩) [] (fun _ _ _ => rfl) (fun γ_695 t hm => One.step rfl (.on rfl rfl hm.s1 c_703) (OpT.move rfl (dl rfl rfl) hm.s0 ⟨(fun _ => undef, 0), rfl⟩)) (fun γ_695 => Ct.met_of rfl rfl) ?_
        obtain ⟨v_728, e_729, h⟩ := bind_some h
        refine DGG.step (c := fun γ_695 => ⟨some 51, .bool v_728, [(50, .ptr bx0 0), (49, .bool ((y4_2_7.length : Int) == (0 : Int)))], [(1, .arrA w0_2 42 9 (y0_2_2.map c_api_Node)), (0, .box bx0 88 [.d (.str y0_2_0), .d (.int .i64 y0_2_1), .d (.ex w0_2), .d (.int .i64 y0_2_3), .d (.int .i64 y0_2_4), .d (.int .i64 y0_2_5)])], [(0, .box bx0 88 [.d (.str ((r4r.mk y0_2_0 y0_2_1 y0_2_2 y0_2_3 y0_2_4 y0_2_5).s)), .d (.int .i64 ((r4r.mk y0_2_0 y0_2_1 y0_2_2 y0_2_3 y0_2_4 y0_2_5).at_)), .d (.ex ((γ_695 11).1 0)), .d (.int .i64 ((r4r.mk y0_2_0 y0_2_1 y0_2_2 y0_2_3 y0_2_4 y0_2_5).deep)), .d (.int .i64 ((r4r.mk y0_2_0 y0_2_1 y0_2_2 y0_2_3 y0_2_4 y0_2_5).e)), .d (.int .i64 ((r4r.mk y0_2_0 y0_2_1 y0_2_2 y0_2_3 y0_2_4 y0_2_5).where_))]), (1, .arrA ((γ_695 11).1 0) 42 9 (((r4r.mk y0_2_0 y0_2_1 y0_2_2 y0_2_3 y0_2_4 y0_2_5).nodes).map c_api_Node))]⟩) [11] (fun γ_695 γ' h => by simp only [h 11 (by decide)]) (fun γ_695 t hm => One.step rfl (.on rfl rfl hm.s1 c_703) (OpT.callG (is := [0, 1]) (ph := []) rfl (dl rfl rfl) Tryd.func49 rfl rfl (Args.cons hm.s0 Args.nil) (r4r_ends_T K (bx0 := bx0) (wx0c2 := w0_2) e_729) (.cons hm.o1 rfl (.cons hm.o0 rfl (.nil))) (fun _ => rfl) (fun g => ⟨(g, 0), rfl⟩))) (fun γ_695 => Ct.met_of rfl rfl) ?_
        refine DGG.step (c := fun γ_695 => ⟨some 52, .bool v_728, [(49, .bool ((y4_2_7.length : Int) == (0 : Int))), (51, .bool v_728), (45, .bool (y0_2_4 == (0 : Int)))], [], []⟩) [] (fun _ _ _ => rfl) (fun γ_695 t hm => One.step rfl (.on rfl rfl hm.s2 c_702) (OpT.pickF rfl (dl rfl rfl) hm.s0 c_703 hm.s1 ⟨(fun _ => undef, 0), rfl⟩)) (fun γ_695 => Ct.met_of rfl rfl) ?_
        refine DGG.step (c := fun γ_695 => ⟨some 53, .bool v_728, [(52, .bool v_728), (45, .bool (y0_2_4 == (0 : Int)))], [], []⟩) [] (fun _ _ _ => rfl) (fun γ_695 t hm => One.step rfl (.on rfl rfl hm.s1 c_702) (OpT.move rfl (dl rfl rfl) hm.s0 ⟨(fun _ => undef, 0), rfl⟩)) (fun γ_695 => Ct.met_of rfl rfl) ?_
        rcases bif_some h with ⟨c_730, h⟩ | ⟨c_730, h⟩
        · refine DGG.off c_730 rfl rfl rfl rfl rfl (fun _ => rfl) ?_
          refine DGG.off c_730 rfl rfl rfl rfl rfl (fun _ => rfl) ?_
          refine DGG.off c_730 rfl rfl rfl rfl rfl (fun _ => rfl) ?_
          refine DGG.off c_730 rfl rfl rfl rfl rfl (fun _ => rfl) ?_
          refine DGG.off c_730 rfl rfl rfl rfl rfl (fun _ => rfl) ?_
          refine DGG.off c_730 rfl rfl rfl rfl rfl (fun _ => rfl) ?_
          refine DGG.off c_730 rfl rfl rfl rfl rfl (fun _ => rfl) ?_
          refine DGG.off c_730 rfl rfl rfl rfl rfl (fun _ => rfl) ?_
          refine DGG.off c_730 rfl rfl rfl rfl rfl (fun _ => rfl) ?_
          refine DGG.off c_730 rfl rfl rfl rfl rfl (fun _ => rfl) ?_
          refine DGG.step (c := fun γ_695 => ⟨some 64, .bool true, [(53, .bool v_728), (45, .bool (y0_2_4 == (0 : Int)))], [], []⟩) [] (fun _ _ _ => rfl) (fun γ_695 t hm => One.step rfl (.on rfl rfl hm.s1 c_702) (OpT.pickT rfl (dl rfl rfl) hm.s0 c_730 rfl ⟨(fun _ => undef, 0), rfl⟩)) (fun γ_695 => Ct.met_of rfl rfl) ?_
          refine DGG.step (c := fun γ_695 => ⟨some 65, .bool true, [(45, .bool (y0_2_4 == (0 : Int))), (64, .bool true)], [], []⟩) [] (fun _ _ _ => rfl) (fun γ_695 t hm => One.step rfl (.free rfl) (OpT.pickT rfl (dl rfl rfl) hm.s0 c_702 hm.s1 ⟨(fun _ => undef, 0), rfl⟩)) (fun γ_695 => Ct.met_of rfl rfl) ?_
          refine DGG.fin (s1 := fun γ_695 => ⟨[(0, .ptr bx0 0), (3, .bool x3_0_6), (4, .c (.ex w4_2)), (46, .c (.ex w4_2)), (47, .int .i64 (y4_2_7.length : Int)), (48, .bool ((y4_2_7.length : Int) == (0 : Int))), (49, .bool ((y4_2_7.length : Int) == (0 : Int))), (50, .ptr bx0 0), (51, .bool v_728), (52, .bool v_728), (53, .bool v_728), (54, .tup []), (55, .tup []), (56, .tup []), (57, .tup []), (58, .tup []), (59, .tup []), (60, .tup []), (61, .tup []), (62, .tup []), (63, .tup []), (64, .bool true), (65, .bool true)], [.box bx0 88 [.d (.str ((r4r.mk y0_2_0 y0_2_1 y0_2_2 y0_2_3 y0_2_4 y0_2_5).s)), .d (.int .i64 ((r4r.mk y0_2_0 y0_2_1 y0_2_2 y0_2_3 y0_2_4 y0_2_5).at_)), .d (.ex ((γ_695 11).1 0)), .d (.int .i64 ((r4r.mk y0_2_0 y0_2_1 y0_2_2 y0_2_3 y0_2_4 y0_2_5).deep)), .d (.int .i64 ((r4r.mk y0_2_0 y0_2_1 y0_2_2 y0_2_3 y0_2_4 y0_2_5).e)), .d (.int .i64 ((r4r.mk y0_2_0 y0_2_1 y0_2_2 y0_2_3 y0_2_4 y0_2_5).where_))], .arrA ((γ_695 11).1 0) 42 9 (((r4r.mk y0_2_0 y0_2_1 y0_2_2 y0_2_3 y0_2_4 y0_2_5).nodes).map c_api_Node), .arrA w4_2 25 4 (y4_2_7.map (Arr4.dc .u64))]⟩) (ms := [0, 1, 3, 7, 15, 31, 63, 127, 255, 511, 1023, 2047, 4095, 8191, 16383, 32767, 65535, 131071, 16383, 278527, 802815, 1851391, 4194303, 8388607, 16777215, 33554431]) TrydMixed rfl (by kernel_rfl) (by kernel_rfl) (by kernel_rfl) (fun γ_695 => by kernel_rfl) (fun γ_695 => .cons rfl (.cons rfl (.cons rfl (.cons rfl (.cons rfl (.cons rfl (.cons rfl (.cons rfl (.cons rfl (.cons rfl (.cons rfl (.cons rfl (.cons rfl (.cons rfl (.cons rfl (.cons rfl (.cons rfl (.cons rfl (.cons rfl (.cons rfl (.cons rfl (.cons rfl (.cons rfl (.nil _)))))))))))))))))))))))) (fun _ => rfl) (fun γ_695 u hu => (thenS_normal (T.by_turn hu ?_)))
          refine T.condT rfl rfl ?_
          refine T.by_turn ?_ (r4r_class_j3_T K bx0 (r4r_class_l2 K k) ih x3_0_6 (y4_2_7.length : Int) ((y4_2_7.length : Int) == (0 : Int)) ((y4_2_7.length : Int) == (0 : Int)) v_728 v_728 true ((r4r.mk y0_2_0 y0_2_1 y0_2_2 y0_2_3 y0_2_4 y0_2_5).s) ((r4r.mk y0_2_0 y0_2_1 y0_2_2 y0_2_3 y0_2_4 y0_2_5).at_) ((r4r.mk y0_2_0 y0_2_1 y0_2_2 y0_2_3 y0_2_4 y0_2_5).deep) ((r4r.mk y0_2_0 y0_2_1 y0_2_2 y0_2_3 y0_2_4 y0_2_5).e) ((r4r.mk y0_2_0 y0_2_1 y0_2_2 y0_2_3 y0_2_4 y0_2_5).where_) ((r4r.mk y0_2_0 y0_2_1 y0_2_2 y0_2_3 y0_2_4 y0_2_5).nodes) y4_2_7 ((γ_695 11).1 0) w4_2 h)
          exact Turn.rp (.cons rfl (.cons rfl (.cons rfl (.cons rfl (.cons rfl (.cons rfl (.cons rfl (.cons rfl (.cons rfl (.cons rfl (.nil _))))))))))) (.c .z (.c .z (.c .z (.n _))))
        · refine DGG.step (c := fun γ_695 => ⟨some 54, .ptr bx0 0, [(0, .ptr bx0 0), (53, .bool v_728)], [], []⟩) [] (fun _ _ _ => rfl) (fun γ_695 t hm => One.step rfl (.on rfl rfl hm.s1 c_730) (OpT.move rfl (dl rfl rfl) hm.s0 ⟨(fun _ => undef, 0), rfl⟩)) (fun γ_695 => Ct.met_of rfl rfl) ?_
          refine DGG.step (c := fun γ_695 => ⟨some 55, .ptr bx0 0, [(54, .ptr bx0 0), (53, .bool v_728)], [], []⟩) [] (fun _ _ _ => rfl) (fun γ_695 t hm => One.step rfl (.on rfl rfl hm.s1 c_730) (OpT.nilCheck rfl (dl rfl rfl) hm.s0 rfl ⟨(fun _ => undef, 0), rfl⟩)) (fun γ_695 => Ct.met_of rfl rfl) ?_
          refine DGG.step (c := fun γ_695 => ⟨some 56, .ptr bx0 (0 + 0), [(55, .ptr bx0 0), (53, .bool v_728)], [], []⟩) [] (fun _ _ _ => rfl) (fun γ_695 t hm => One.step rfl (.on rfl rfl hm.s1 c_730) (OpT.fieldPtr rfl (dl rfl rfl) Tryd.underlying88 rfl i9 (by decide) hm.s0 ⟨(fun _ => undef, 0), rfl⟩)) (fun γ_695 => Ct.met_of rfl rfl) ?_
          refine DGG.step (c := fun γ_695 => ⟨some 57, .str ((r4r.mk y0_2_0 y0_2_1 y0_2_2 y0_2_3 y0_2_4 y0_2_5).s), [(56, .ptr bx0 (0 + 0)), (53, .bool v_728)], [(0, .box bx0 88 [.d (.str ((r4r.mk y0_2_0 y0_2_1 y0_2_2 y0_2_3 y0_2_4 y0_2_5).s)), .d (.int .i64 ((r4r.mk y0_2_0 y0_2_1 y0_2_2 y0_2_3 y0_2_4 y0_2_5).at_)), .d (.ex ((γ_695 11).1 0)), .d (.int .i64 ((r4r.mk y0_2_0 y0_2_1 y0_2_2 y0_2_3 y0_2_4 y0_2_5).deep)), .d (.int .i64 ((r4r.mk y0_2_0 y0_2_1 y0_2_2 y0_2_3 y0_2_4 y0_2_5).e)), .d (.int .i64 ((r4r.mk y0_2_0 y0_2_1 y0_2_2 y0_2_3 y0_2_4 y0_2_5).where_))])], []⟩) [11] (fun γ_695 γ' h => by simp only [h 11 (by decide)]) (fun γ_695 t hm => One.step rfl (.on rfl rfl hm.s1 c_730) (OpT.loadBox (i := 0) rfl (dl rfl rfl) Tryd.underlying9 rfl hm.s0 hm.o0 rfl ⟨(fun _ => undef, 0), rfl⟩)) (fun γ_695 => Ct.met_of rfl rfl) ?_
          refine DGG.step (c := fun γ_695 => ⟨some 58, .ptr bx0 0, [(0, .ptr bx0 0), (53, .bool v_728)], [], []⟩) [] (fun _ _ _ => rfl) (fun γ_695 t hm => One.step rfl (.on rfl rfl hm.s1 c_730) (OpT.move rfl (dl rfl rfl) hm.s0 ⟨(fun _ => undef, 0), rfl⟩)) (fun γ_695 => Ct.met_of rfl rfl) ?_
          refine DGG.step (c := fun γ_695 => ⟨some 59, .ptr bx0 0, [(58, .ptr bx0 0), (53, .bool v_728)], [], []⟩) [] (fun _ _ _ => rfl) (fun γ_695 t hm => One.step rfl (.on rfl rfl hm.s1 c_730) (OpT.nilCheck rfl (dl rfl rfl) hm.s0 rfl ⟨(fun _ => undef, 0), rfl⟩)) (fun γ_695 => Ct.met_of rfl rfl) ?_
          refine DGG.step (c := fun γ_695 => ⟨some 60, .ptr bx0 (0 + 1), [(59, .ptr bx0 0), (53, .bool v_728)], [], []⟩) [] (fun _ _ _ => rfl) (fun γ_695 t hm => One.step rfl (.on rfl rfl hm.s1 c_730) (OpT.fieldPtr rfl (dl rfl rfl) Tryd.underlying88 rfl i3 (by decide) hm.s0 ⟨(fun _ => undef, 0), rfl⟩)) (fun γ_695 => Ct.met_of rfl rfl) ?_
          refine DGG.step (c := fun γ_695 => ⟨some 61, .int .i64 ((r4r.mk y0_2_0 y0_2_1 y0_2_2 y0_2_3 y0_2_4 y0_2_5).at_), [(60, .ptr bx0 (0 + 1)), (53, .bool v_728)], [(0, .box bx0 88 [.d (.str ((r4r.mk y0_2_0 y0_2_1 y0_2_2 y0_2_3 y0_2_4 y0_2_5).s)), .d (.int .i64 ((r4r.mk y0_2_0 y0_2_1 y0_2_2 y0_2_3 y0_2_4 y0_2_5).at_)), .d (.ex ((γ_695 11).1 0)), .d (.int .i64 ((r4r.mk y0_2_0 y0_2_1 y0_2_2 y0_2_3 y0_2_4 y0_2_5).deep)), .d (.int .i64 ((r4r.mk y0_2_0 y0_2_1 y0_2_2 y0_2_3 y0_2_4 y0_2_5).e)), .d (.int .i64 ((r4r.mk y0_2_0 y0_2_1 y0_2_2 y0_2_3 y0_2_4 y0_2_5).where_))])], []⟩) [11] (fun γ_695 γ' h => by simp only [h 11 (by decide)]) (fun γ_695 t hm => One.step rfl (.on rfl rfl hm.s1 c_730) (OpT.loadBox (i := 0) rfl (dl rfl rfl) Tryd.underlying3 rfl hm.s0 hm.o0 rfl ⟨(fun _ => undef, 0), rfl⟩)) (fun γ_695 => Ct.met_of rfl rfl) ?_
          obtain ⟨g_731, h⟩ := ck_some h
          refine DGG.step (c := fun γ_695 => ⟨some 62, .int .u8 (bt ((r4r.mk y0_2_0 y0_2_1 y0_2_2 y0_2_3 y0_2_4 y0_2_5).s) ((r4r.mk y0_2_0 y0_2_1 y0_2_2 y0_2_3 y0_2_4 y0_2_5).at_)), [(57, .str ((r4r.mk y0_2_0 y0_2_1 y0_2_2 y0_2_3 y0_2_4 y0_2_5).s)), (61, .int .i64 ((r4r.mk y0_2_0 y0_2_1 y0_2_2 y0_2_3 y0_2_4 y0_2_5).at_)), (53, .bool v_728)], [], []⟩) [] (fun _ _ _ => rfl) (fun γ_695 t hm => One.step rfl (.on rfl rfl hm.s2 c_730) (OpT.indexStr rfl (dl rfl rfl) Tryd.underlying9 hm.s0 hm.s1 g_731.1 g_731.2 ⟨(fun _ => undef, 0), rfl⟩)) (fun γ_695 => Ct.met_of rfl rfl) ?_
          refine DGG.step (c := fun γ_695 => ⟨some 63, .bool ((bt ((r4r.mk y0_2_0 y0_2_1 y0_2_2 y0_2_3 y0_2_4 y0_2_5).s) ((r4r.mk y0_2_0 y0_2_1 y0_2_2 y0_2_3 y0_2_4 y0_2_5).at_)) != (93 : Int)), [(62, .int .u8 (bt ((r4r.mk y0_2_0 y0_2_1 y0_2_2 y0_2_3 y0_2_4 y0_2_5).s) ((r4r.mk y0_2_0 y0_2_1 y0_2_2 y0_2_3 y0_2_4 y0_2_5).at_))), (53, .bool v_728)], [], []⟩) [] (fun _ _ _ => rfl) (fun γ_695 t hm => One.step rfl (.on rfl rfl hm.s1 c_730) (OpT.int2 rfl rfl (dl rfl rfl) hm.s0 rfl ⟨(fun _ => undef, 0), rfl⟩)) (fun γ_695 => Ct.met_of rfl rfl) ?_
          refine DGG.step (c := fun γ_695 => ⟨some 64, .bool ((bt ((r4r.mk y0_2_0 y0_2_1 y0_2_2 y0_2_3 y0_2_4 y0_2_5).s) ((r4r.mk y0_2_0 y0_2_1 y0_2_2 y0_2_3 y0_2_4 y0_2_5).at_)) != (93 : Int)), [(53, .bool v_728), (63, .bool ((bt ((r4r.mk y0_2_0 y0_2_1 y0_2_2 y0_2_3 y0_2_4 y0_2_5).s) ((r4r.mk y0_2_0 y0_2_1 y0_2_2 y0_2_3 y0_2_4 y0_2_5).at_)) != (93 : Int))), (45, .bool (y0_2_4 == (0 : Int)))], [], []⟩) [] (fun _ _ _ => rfl) (fun γ_695 t hm => One.step rfl (.on rfl rfl hm.s2 c_702) (OpT.pickF rfl (dl rfl rfl) hm.s0 c_730 hm.s1 ⟨(fun _ => undef, 0), rfl⟩)) (fun γ_695 => Ct.met_of rfl rfl) ?_
          refine DGG.step (c := fun γ_695 => ⟨some 65, .bool ((bt ((r4r.mk y0_2_0 y0_2_1 y0_2_2 y0_2_3 y0_2_4 y0_2_5).s) ((r4r.mk y0_2_0 y0_2_1 y0_2_2 y0_2_3 y0_2_4 y0_2_5).at_)) != (93 : Int)), [(45, .bool (y0_2_4 == (0 : Int))), (64, .bool ((bt ((r4r.mk y0_2_0 y0_2_1 y0_2_2 y0_2_3 y0_2_4 y0_2_5).s) ((r4r.mk y0_2_0 y0_2_1 y0_2_2 y0_2_3 y0_2_4 y0_2_5).at_)) != (93 : Int)))], [], []⟩) [] (fun _ _ _ => rfl) (fun γ_695 t hm => One.step rfl (.free rfl) (OpT.pickT rfl (dl rfl rfl) hm.s0 c_702 hm.s1 ⟨(fun _ => undef, 0), rfl⟩)) (fun γ_695 => Ct.met_of rfl rfl) ?_
          refine DGG.fin (s1 := fun γ_695 => ⟨[(0, .ptr bx0 0), (3, .bool x3_0_6), (4, .c (.ex w4_2)), (46, .c (.ex w4_2)), (47, .int .i64 (y4_2_7.length : Int)), (48, .bool ((y4_2_7.length : Int) == (0 : Int))), (49, .bool ((y4_2_7.length : Int) == (0 : Int))), (50, .ptr bx0 0), (51, .bool v_728), (52, .bool v_728), (53, .bool v_728), (54, .ptr bx0 0), (55, .ptr bx0 0), (56, .ptr bx0 (0 + 0)), (57, .str ((r4r.mk y0_2_0 y0_2_1 y0_2_2 y0_2_3 y0_2_4 y0_2_5).s)), (58, .ptr bx0 0), (59, .ptr bx0 0), (60, .ptr bx0 (0 + 1)), (61, .int .i64 ((r4r.mk y0_2_0 y0_2_1 y0_2_2 y0_2_3 y0_2_4 y0_2_5).at_)), (62, .int .u8 (bt ((r4r.mk y0_2_0 y0_2_1 y0_2_2 y0_2_3 y0_2_4 y0_2_5).s) ((r4r.mk y0_2_0 y0_2_1 y0_2_2 y0_2_3 y0_2_4 y0_2_5).at_))), (63, .bool ((bt ((r4r.mk y0_2_0 y0_2_1 y0_2_2 y0_2_3 y0_2_4 y0_2_5).s) ((r4r.mk y0_2_0 y0_2_1 y0_2_2 y0_2_3 y0_2_4 y0_2_5).at_)) != (93 : Int))), (64, .bool ((bt ((r4r.mk y0_2_0 y0_2_1 y0_2_2 y0_2_3 y0_2_4 y0_2_5).s) ((r4r.mk y0_2_0 y0_2_1 y0_2_2 y0_2_3 y0_2_4 y0_2_5).at_)) != (93 : Int))), (65, .bool ((bt ((r4r.mk y0_2_0 y0_2_1 y0_2_2 y0_2_3 y0_2_4 y0_2_5).s) ((r4r.mk y0_2_0 y0_2_1 y0_2_2 y0_2_3 y0_2_4 y0_2_5).at_)) != (93 : Int)))], [.box bx0 88 [.d (.str ((r4r.mk y0_2_0 y0_2_1 y0_2_2 y0_2_3 y0_2_4 y0_2_5).s)), .d (.int .i64 ((r4r.mk y0_2_0 y0_2_1 y0_2_2 y0_2_3 y0_2_4 y0_2_5).at_)), .d (.ex ((γ_695 11).1 0)), .d (.int .i64 ((r4r.mk y0_2_0 y0_2_1 y0_2_2 y0_2_3 y0_2_4 y0_2_5).deep)), .d (.int .i64 ((r4r.mk y0_2_0 y0_2_1 y0_2_2 y0_2_3 y0_2_4 y0_2_5).e)), .d (.int .i64 ((r4r.mk y0_2_0 y0_2_1 y0_2_2 y0_2_3 y0_2_4 y0_2_5).where_))], .arrA ((γ_695 11).1 0) 42 9 (((r4r.mk y0_2_0 y0_2_1 y0_2_2 y0_2_3 y0_2_4 y0_2_5).nodes).map c_api_Node), .arrA w4_2 25 4 (y4_2_7.map (Arr4.dc .u64))]⟩) (ms := [0, 1, 3, 7, 15, 31, 63, 127, 255, 511, 1023, 2047, 4095, 8191, 16383, 32767, 65535, 131071, 16383, 278527, 802815, 1851391, 4194303, 8388607, 16777215, 33554431]) TrydMixed rfl (by kernel_rfl) (by kernel_rfl) (by kernel_rfl) (fun γ_695 => by kernel_rfl) (fun γ_695 => .cons rfl (.cons rfl (.cons rfl (.cons rfl (.cons rfl (.cons rfl (.cons rfl (.cons rfl (.cons rfl (.cons rfl (.cons rfl (.cons rfl (.cons rfl (.cons rfl (.cons rfl (.cons rfl (.cons rfl (.cons rfl (.cons rfl (.cons rfl (.cons rfl (.cons rfl (.cons rfl (.nil _)))))))))))))))))))))))) (fun _ => rfl) (fun γ_695 u hu => (thenS_normal (T.by_turn hu ?_)))
          rcases bif_some h with ⟨c_732, h⟩ | ⟨c_732, h⟩
          · refine T.condT rfl c_732 ?_
            refine T.by_turn ?_ (r4r_class_j3_T K bx0 (r4r_class_l2 K k) ih x3_0_6 (y4_2_7.length : Int) ((y4_2_7.length : Int) == (0 : Int)) ((y4_2_7.length : Int) == (0 : Int)) v_728 v_728 ((bt ((r4r.mk y0_2_0 y0_2_1 y0_2_2 y0_2_3 y0_2_4 y0_2_5).s) ((r4r.mk y0_2_0 y0_2_1 y0_2_2 y0_2_3 y0_2_4 y0_2_5).at_)) != (93 : Int)) ((r4r.mk y0_2_0 y0_2_1 y0_2_2 y0_2_3 y0_2_4 y0_2_5).s) ((r4r.mk y0_2_0 y0_2_1 y0_2_2 y0_2_3 y0_2_4 y0_2_5).at_) ((r4r.mk y0_2_0 y0_2_1 y0_2_2 y0_2_3 y0_2_4 y0_2_5).deep) ((r4r.mk y0_2_0 y0_2_1 y0_2_2 y0_2_3 y0_2_4 y0_2_5).e) ((r4r.mk y0_2_0 y0_2_1 y0_2_2 y0_2_3 y0_2_4 y0_2_5).where_) ((r4r.mk y0_2_0 y0_2_1 y0_2_2 y0_2_3 y0_2_4 y0_2_5).nodes) y4_2_7 ((γ_695 11).1 0) w4_2 h)
            exact Turn.rp (.cons rfl (.cons rfl (.cons rfl (.cons rfl (.cons rfl (.cons rfl (.cons rfl (.cons rfl (.cons rfl (.cons rfl (.nil _))))))))))) (.c .z (.c .z (.c .z (.n _))))
          · refine T.condF rfl c_732 ?_
            refine T.by_turn ?_ (r4r_class_j4_T K bx0 x3_0_6 ((r4r.mk y0_2_0 y0_2_1 y0_2_2 y0_2_3 y0_2_4 y0_2_5).s) ((r4r.mk y0_2_0 y0_2_1 y0_2_2 y0_2_3 y0_2_4 y0_2_5).at_) ((r4r.mk y0_2_0 y0_2_1 y0_2_2 y0_2_3 y0_2_4 y0_2_5).deep) ((r4r.mk y0_2_0 y0_2_1 y0_2_2 y0_2_3 y0_2_4 y0_2_5).e) ((r4r.mk y0_2_0 y0_2_1 y0_2_2 y0_2_3 y0_2_4 y0_2_5).where_) ((r4r.mk y0_2_0 y0_2_1 y0_2_2 y0_2_3 y0_2_4 y0_2_5).nodes) y4_2_7 ((γ_695 11).1 0) w4_2 h)
            exact Turn.rp (.cons rfl (.cons rfl (.cons rfl (.nil _)))) (.c .z (.c .z (.c .z (.n _))))
    · refine DGG.off c_702 rfl rfl rfl rfl rfl (fun _ => rfl) ?_
      refine DGG.off c_702 rfl rfl rfl rfl rfl (fun _ => rfl) ?_
      refine DGG.off c_702 rfl rfl rfl rfl rfl (fun _ => rfl) ?_
      refine DGG.off c_702 rfl rfl rfl rfl rfl (fun _ => rfl) ?_
      refine DGG.gone rfl rfl rfl rfl rfl (fun _ => rfl) ?_
      refine DGG.gone rfl rfl rfl rfl rfl (fun _ => rfl) ?_
      refine DGG.off c_702 rfl rfl rfl rfl rfl (fun _ => rfl) ?_
      refine DGG.off c_702 rfl rfl rfl rfl rfl (fun _ => rfl) ?_
      refine DGG.gone rfl rfl rfl rfl rfl (fun _ => rfl) ?_
      refine DGG.gone rfl rfl rfl rfl rfl (fun _ => rfl) ?_
      refine DGG.gone rfl rfl rfl rfl rfl (fun _ => rfl) ?_
      refine DGG.gone rfl rfl rfl rfl rfl (fun _ => rfl) ?_
      refine DGG.gone rfl rfl rfl rfl rfl (fun _ => rfl) ?_
      refine DGG.gone rfl rfl rfl rfl rfl (fun _ => rfl) ?_
      refine DGG.gone rfl rfl rfl rfl rfl (fun _ => rfl) ?_
      refine DGG.gone rfl rfl rfl rfl rfl (fun _ => rfl) ?_
      refine DGG.gone rfl rfl rfl rfl rfl (fun _ => rfl) ?_
      refine DGG.gone rfl rfl rfl rfl rfl (fun _ => rfl) ?_
      refine DGG.off c_702 rfl rfl rfl rfl rfl (fun _ => rfl) ?_
      refine DGG.step (c := fun γ_695 => ⟨some 65, .bool false, [(45, .bool (y0_2_4 == (0 : Int)))], [], []⟩) [] (fun _ _ _ => rfl) (fun γ_695 t hm => One.step rfl (.free rfl) (OpT.pickF rfl (dl rfl rfl) hm.s0 c_702 rfl ⟨(fun _ => undef, 0), rfl⟩)) (fun γ_695 => Ct.met_of rfl rfl) ?_
      refine DGG.fin (s1 := fun γ_695 => ⟨[(0, .ptr bx0 0), (3, .bool x3_0_6), (4, .c (.ex w4_2)), (46, .tup []), (47, .tup []), (48, .tup []), (49, .tup []), (50, .tup []), (51, .tup []), (52, .tup []), (53, .tup []), (54, .tup []), (55, .tup []), (56, .tup []), (57, .tup []), (58, .tup []), (59, .tup []), (60, .tup []), (61, .tup []), (62, .tup []), (63, .tup []), (64, .tup []), (65, .bool false)], [.box bx0 88 [.d (.str y0_2_0), .d (.int .i64 y0_2_1), .d (.ex w0_2), .d (.int .i64 y0_2_3), .d (.int .i64 y0_2_4), .d (.int .i64 y0_2_5)], .arrA w0_2 42 9 (y0_2_2.map c_api_Node), .arrA w4_2 25 4 (y4_2_7.map (Arr4.dc .u64))]⟩) (ms := [0, 1, 3, 7, 15, 31, 63, 127, 255, 511, 1023, 2047, 4095, 8191, 16383, 32767, 65535, 131071, 16383, 278527, 802815, 1851391, 4194303, 8388607, 16777215, 33554431]) TrydMixed rfl (by kernel_rfl) (by kernel_rfl) (by kernel_rfl) (fun γ_695 => by kernel_rfl) (fun γ_695 => .cons rfl (.cons rfl (.cons rfl (.cons rfl (.cons rfl (.cons rfl (.cons rfl (.cons rfl (.cons rfl (.cons rfl (.cons rfl (.cons rfl (.cons rfl (.cons rfl (.cons rfl (.cons rfl (.cons rfl (.cons rfl (.cons rfl (.cons rfl (.cons rfl (.cons rfl (.cons rfl (.nil _)))))))))))))))))))))))) (fun _ => rfl) (fun γ_695 u hu => (thenS_normal (T.by_turn hu ?_)))
      refine T.condF rfl rfl ?_
      refine T.by_turn ?_ (r4r_class_j4_T K bx0 x3_0_6 y0_2_0 y0_2_1 y0_2_3 y0_2_4 y0_2_5 y0_2_2 y4_2_7 w0_2 w4_2 h)
      exact Turn.rp (.cons rfl (.cons rfl (.cons rfl (.nil _)))) (.c .z (.c .z (.c .z (.n _))))

theorem r4r_class_j1_T {r : Int × r4r} (K : Nat) (bx0 : Nat) (x3_0_6 : Bool) (y0_0_0 : ByteArray) (y0_1_1 : Int) (y0_0_3 : Int) (y0_0_4 : Int) (y0_0_5 : Int) (y0_0_2 : List api_Node) (w0_1 : Value) (h : r4r_class_j1 K x3_0_6 y0_0_0 y0_1_1 y0_0_3 y0_0_4 y0_0_5 y0_0_2 = some r) : T Tryd.prog 139 (Code.at [1, 1, 1, 1] (codeOf Tryd.f102)) ⟨[(0, .ptr bx0 0), (3, .bool x3_0_6)], [.box bx0 88 [.d (.str y0_0_0), .d (.int .i64 y0_1_1), .d (.ex w0_1), .d (.int .i64 y0_0_3), .d (.int .i64 y0_0_4), .d (.int .i64 y0_0_5)], .arrA w0_1 42 9 (y0_0_2.map c_api_Node)]⟩ (r4r_class_q bx0 r) := by
  unfold r4r_class_j1 at h
  refine T.seq ?_
  refine T.regionL ?_
  refine sp rfl (OpT.buildSlice (elems := ([] : List Arr4).map (Arr4.dc .u64)) rfl (dl rfl rfl) Tryd.underlying123 i25 (by decide) rfl (all1 rfl) rfl rfl rfl (lenAll rfl) (by decide) ?_)
  refine asg rfl rfl rfl rfl rfl ?_
  refine TL'.nil (thenS_normal ?_)
  refine T.seq ?_
  refine T.block ?_
  refine T.loop ?_
  refine TL.by_turnG (TurnG.ownFull 4 25 rfl) (fun w_694 => ?_)
  refine TL.by_turn ?_ (r4r_class_l2_T K bx0 K x3_0_6 y0_0_0 y0_1_1 y0_0_3 y0_0_4 y0_0_5 y0_0_2 ([] : List Arr4) w0_1 w_694 h)
  exact Turn.rp (.cons rfl (.cons rfl (.cons rfl (.nil _)))) (.c (.s .z) (.c (.s .z) (.c .z (.n _))))

theorem r4r_class_j0_T {r : Int × r4r} (K : Nat) (bx0 : Nat) (x3_0_6 : Bool) (y0_0_0 : ByteArray) (y0_0_1 : Int) (y0_0_3 : Int) (y0_0_4 : Int) (y0_0_5 : Int) (y0_0_2 : List api_Node) (w0_0 : Value) (h : r4r_class_j0 K x3_0_6 y0_0_0 y0_0_1 y0_0_3 y0_0_4 y0_0_5 y0_0_2 = some r) : T Tryd.prog 139 (Code.at [1, 1, 1] (codeOf Tryd.f102)) ⟨[(0, .ptr bx0 0), (3, .bool x3_0_6)], [.box bx0 88 [.d (.str y0_0_0), .d (.int .i64 y0_0_1), .d (.ex w0_0), .d (.int .i64 y0_0_3), .d (.int .i64 y0_0_4), .d (.int .i64 y0_0_5)], .arrA w0_0 42 9 (y0_0_2.map c_api_Node)]⟩ (r4r_class_q bx0 r) := by
  unfold r4r_class_j0 at h
  refine T.seq ?_
  refine T.seq ?_
  refine T.regionL ?_
  refine mv rfl rfl rfl rfl rfl ?_
  refine TL'.nil (thenS_normal ?_)
  rcases bif_some h with ⟨c_693, h⟩ | ⟨c_693, h⟩
  · refine T.condT rfl c_693 ?_
    refine T.regionL ?_
    refine mv rfl rfl rfl rfl rfl ?_
    refine sp rfl (OpT.nilCheck rfl (dl rfl rfl) rfl rfl ?_)
    refine sp rfl (OpT.fieldPtr rfl (dl rfl rfl) Tryd.underlying88 rfl i3 (by decide) rfl ?_)
    refine sp rfl (OpT.loadBox (i := 0) rfl (dl rfl rfl) Tryd.underlying3 rfl rfl rfl rfl ?_)
    refine sp rfl (OpT.int2 rfl rfl (dl rfl rfl) rfl rfl ?_)
    refine sp rfl (OpT.nilCheck rfl (dl rfl rfl) rfl rfl ?_)
    refine sp rfl (OpT.fieldPtr rfl (dl rfl rfl) Tryd.underlying88 rfl i3 (by decide) rfl ?_)
    refine sp rfl (OpT.storeTo (i := 0) (cells' := [.d (.str y0_0_0), .d (.int .i64 (IntKind.i64.wrap (y0_0_1 + (1 : Int)))), .d (.ex w0_0), .d (.int .i64 y0_0_3), .d (.int .i64 y0_0_4), .d (.int .i64 y0_0_5)]) rfl rfl i3 rfl rfl rfl (Nat.le_of_ble_eq_true rfl) rfl ?_)
    refine TL'.nil (thenS_normal ?_)
    refine T.by_turn ?_ (r4r_class_j1_T K bx0 x3_0_6 y0_0_0 (IntKind.i64.wrap (y0_0_1 + (1 : Int))) y0_0_3 y0_0_4 y0_0_5 y0_0_2 w0_0 h)
    exact Turn.rp (.cons rfl (.cons rfl (.nil _))) (.c .z (.c .z (.n _)))
  · refine T.condF rfl c_693 ?_
    refine T.skip (thenS_normal ?_)
    refine T.by_turn ?_ (r4r_class_j1_T K bx0 x3_0_6 y0_0_0 y0_0_1 y0_0_3 y0_0_4 y0_0_5 y0_0_2 w0_0 h)
    exact Turn.rp (.cons rfl (.cons rfl (.nil _))) (.c .z (.c .z (.n _)))

theorem r4r_class_T (K : Nat) {x0 : r4r} {bx0 : Nat} {wx0c2 : Value} {r : Int × r4r} (h : r4r_class K x0 = some r) : CallG Tryd.prog 102 [.ptr bx0 0] [.box bx0 88 [.d (.str x0.s), .d (.int .i64 x0.at_), .d (.ex wx0c2), .d (.int .i64 x0.deep), .d (.int .i64 x0.e), .d (.int .i64 x0.where_)], .arrA wx0c2 42 9 (x0.nodes.map c_api_Node)] (fun γ => (.int .i64 r.1)) (fun γ => [.box bx0 88 [.d (.str r.2.s), .d (.int .i64 r.2.at_), .d (.ex (γ 0)), .d (.int .i64 r.2.deep), .d (.int .i64 r.2.e), .d (.int .i64 r.2.where_)], .arrA (γ 0) 42 9 (r.2.nodes.map c_api_Node)]) := by
  refine CallT.intro Tryd.func102 rfl (Nat.le_of_ble_eq_true rfl) ?_
  show T Tryd.prog 139 (Code.at [] (codeOf Tryd.f102)) ⟨paramSlots 0 [.ptr bx0 0], [.box bx0 88 [.d (.str x0.s), .d (.int .i64 x0.at_), .d (.ex wx0c2), .d (.int .i64 x0.deep), .d (.int .i64 x0.e), .d (.int .i64 x0.where_)], .arrA wx0c2 42 9 (x0.nodes.map c_api_Node)]⟩ (r4r_class_q bx0 r)
  unfold r4r_class at h
  refine T.seq ?_
  refine T.regionL ?_
  refine asg rfl rfl rfl rfl rfl ?_
  refine TL'.nil (thenS_normal ?_)
  refine T.seq ?_
  refine T.regionL ?_
  refine mv rfl rfl rfl rfl rfl ?_
  refine sp rfl (OpT.nilCheck rfl (dl rfl rfl) rfl rfl ?_)
  refine sp rfl (OpT.fieldPtr rfl (dl rfl rfl) Tryd.underlying88 rfl i3 (by decide) rfl ?_)
  refine sp rfl (OpT.loadBox (i := 0) rfl (dl rfl rfl) Tryd.underlying3 rfl rfl rfl rfl ?_)
  refine sp rfl (OpT.int2 rfl rfl (dl rfl rfl) rfl rfl ?_)
  refine sp rfl (OpT.nilCheck rfl (dl rfl rfl) rfl rfl ?_)
  refine sp rfl (OpT.fieldPtr rfl (dl rfl rfl) Tryd.underlying88 rfl i3 (by decide) rfl ?_)
  refine sp rfl (OpT.storeTo (i := 0) (cells' := [.d (.str x0.s), .d (.int .i64 (IntKind.i64.wrap (x0.at_ + (1 : Int)))), .d (.ex wx0c2), .d (.int .i64 x0.deep), .d (.int .i64 x0.e), .d (.int .i64 x0.where_)]) rfl rfl i3 rfl rfl rfl (Nat.le_of_ble_eq_true rfl) rfl ?_)
  refine TL'.nil (thenS_normal ?_)
  refine T.seq ?_
  refine DGG.start ?_
  refine DGG.step (c := fun γ_684 => ⟨some 16, .ptr bx0 0, [(0, .ptr bx0 0)], [], []⟩) [] (fun _ _ _ => rfl) (fun γ_684 t hm => One.step rfl (.free rfl) (OpT.move rfl (dl rfl rfl) hm.s0 ⟨(fun _ => undef, 0), rfl⟩)) (fun γ_684 => Ct.met_of rfl rfl) ?_
  obtain ⟨v_689, e_690, h⟩ := bind_some h
  refine DGG.step (c := fun γ_684 => ⟨some 17, .bool v_689, [(16, .ptr bx0 0)], [(1, .arrA wx0c2 42 9 (x0.nodes.map c_api_Node)), (0, .box bx0 88 [.d (.str x0.s), .d (.int .i64 (IntKind.i64.wrap (x0.at_ + (1 : Int)))), .d (.ex wx0c2), .d (.int .i64 x0.deep), .d (.int .i64 x0.e), .d (.int .i64 x0.where_)])], [(0, .box bx0 88 [.d (.str ((r4r.mk x0.s (IntKind.i64.wrap (x0.at_ + (1 : Int))) x0.nodes x0.deep x0.e x0.where_).s)), .d (.int .i64 ((r4r.mk x0.s (IntKind.i64.wrap (x0.at_ + (1 : Int))) x0.nodes x0.deep x0.e x0.where_).at_)), .d (.ex ((γ_684 1).1 0)), .d (.int .i64 ((r4r.mk x0.s (IntKind.i64.wrap (x0.at_ + (1 : Int))) x0.nodes x0.deep x0.e x0.where_).deep)), .d (.int .i64 ((r4r.mk x0.s (IntKind.i64.wrap (x0.at_ + (1 : Int))) x0.nodes x0.deep x0.e x0.where_).e)), .d (.int .i64 ((r4r.mk x0.s (IntKind.i64.wrap (x0.at_ + (1 : Int))) x0.nodes x0.deep x0.e x0.where_).where_))]), (1, .arrA ((γ_684 1).1 0) 42 9 (((r4r.mk x0.s (IntKind.i64.wrap (x0.at_ + (1 : Int))) x0.nodes x0.deep x0.e x0.where_).nodes).map c_api_Node))]⟩) [1] (fun γ_684 γ' h => by simp only [h 1 (by decide)]) (fun γ_684 t hm => One.step rfl (.free rfl) (OpT.callG (is := [0, 1]) (ph := []) rfl (dl rfl rfl) Tryd.func49 rfl rfl (Args.cons hm.s0 Args.nil) (r4r_ends_T K (bx0 := bx0) (wx0c2 := wx0c2) e_690) (.cons hm.o1 rfl (.cons hm.o0 rfl (.nil))) (fun _ => rfl) (fun g => ⟨(g, 0), rfl⟩))) (fun γ_684 => Ct.met_of rfl rfl) ?_
  refine DGG.step (c := fun γ_684 => ⟨some 18, .bool (!v_689), [(17, .bool v_689)], [], []⟩) [] (fun _ _ _ => rfl) (fun γ_684 t hm => One.step rfl (.free rfl) (OpT.not rfl (dl rfl rfl) hm.s0 ⟨(fun _ => undef, 0), rfl⟩)) (fun γ_684 => Ct.met_of rfl rfl) ?_
  refine DGG.step (c := fun γ_684 => ⟨some 19, .bool (!v_689), [(18, .bool (!v_689))], [], []⟩) [] (fun _ _ _ => rfl) (fun γ_684 t hm => One.step rfl (.free rfl) (OpT.move rfl (dl rfl rfl) hm.s0 ⟨(fun _ => undef, 0), rfl⟩)) (fun γ_684 => Ct.met_of rfl rfl) ?_
  rcases bif_some h with ⟨c_691, h⟩ | ⟨c_691, h⟩
  · refine DGG.step (c := fun γ_684 => ⟨some 20, .ptr bx0 0, [(0, .ptr bx0 0), (19, .bool (!v_689))], [], []⟩) [] (fun _ _ _ => rfl) (fun γ_684 t hm => One.step rfl (.on rfl rfl hm.s1 c_691) (OpT.move rfl (dl rfl rfl) hm.s0 ⟨(fun _ => undef, 0), rfl⟩)) (fun γ_684 => Ct.met_of rfl rfl) ?_
    refine DGG.step (c := fun γ_684 => ⟨some 21, .ptr bx0 0, [(20, .ptr bx0 0), (19, .bool (!v_689))], [], []⟩) [] (fun _ _ _ => rfl) (fun γ_684 t hm => One.step rfl (.on rfl rfl hm.s1 c_691) (OpT.nilCheck rfl (dl rfl rfl) hm.s0 rfl ⟨(fun _ => undef, 0), rfl⟩)) (fun γ_684 => Ct.met_of rfl rfl) ?_
    refine DGG.step (c := fun γ_684 => ⟨some 22, .ptr bx0 (0 + 0), [(21, .ptr bx0 0), (19, .bool (!v_689))], [], []⟩) [] (fun _ _ _ => rfl) (fun γ_684 t hm => One.step rfl (.on rfl rfl hm.s1 c_691) (OpT.fieldPtr rfl (dl rfl rfl) Tryd.underlying88 rfl i9 (by decide) hm.s0 ⟨(fun _ => undef, 0), rfl⟩)) (fun γ_684 => Ct.met_of rfl rfl) ?_
    refine DGG.step (c := fun γ_684 => ⟨some 23, .str ((r4r.mk x0.s (IntKind.i64.wrap (x0.at_ + (1 : Int))) x0.nodes x0.deep x0.e x0.where_).s), [(22, .ptr bx0 (0 + 0)), (19, .bool (!v_689))], [(0, .box bx0 88 [.d (.str ((r4r.mk x0.s (IntKind.i64.wrap (x0.at_ + (1 : Int))) x0.nodes x0.deep x0.e x0.where_).s)), .d (.int .i64 ((r4r.mk x0.s (IntKind.i64.wrap (x0.at_ + (1 : Int))) x0.nodes x0.deep x0.e x0.where_).at_)), .d (.ex ((γ_684 1).1 0)), .d (.int .i64 ((r4r.mk x0.s (IntKind.i64.wrap (x0.at_ + (1 : Int))) x0.nodes x0.deep x0.e x0.where_).deep)), .d (.int .i64 ((r4r.mk x0.s (IntKind.i64.wrap (x0.at_ + (1 : Int))) x0.nodes x0.deep x0.e x0.where_).e)), .d (.int .i64 ((r4r.mk x0.s (IntKind.i64.wrap (x0.at_ + (1 : Int))) x0.nodes x0.deep x0.e x0.where_).where_))])], []⟩) [1] (fun γ_684 γ' h => by simp only [h 1 (by decide)]) (fun γ_684 t hm => One.step rfl (.on rfl rfl hm.s1 c_691) (OpT.loadBox (i := 0) rfl (dl rfl rfl) Tryd.underlying9 rfl hm.s0 hm.o0 rfl ⟨(fun _ => undef, 0), rfl⟩)) (fun γ_684 => Ct.met_of rfl rfl) ?_
    refine DGG.step (c := fun γ_684 => ⟨some 24, .ptr bx0 0, [(0, .ptr bx0 0), (19, .bool (!v_689))], [], []⟩) [] (fun _ _ _ => rfl) (fun γ_684 t hm => One.step rfl (.on rfl rfl hm.s1 c_691) (OpT.move rfl (dl rfl rfl) hm.s0 ⟨(fun _ => undef, 0), rfl⟩)) (fun γ_684 => Ct.met_of rfl rfl) ?_
    refine DGG.step (c := fun γ_684 => ⟨some 25, .ptr bx0 0, [(24, .ptr bx0 0), (19, .bool (!v_689))], [], []⟩) [] (fun _ _ _ => rfl) (fun γ_684 t hm => One.step rfl (.on rfl rfl hm.s1 c_691) (OpT.nilCheck rfl (dl rfl rfl) hm.s0 rfl ⟨(fun _ => undef, 0), rfl⟩)) (fun γ_684 => Ct.met_of rfl rfl) ?_
    refine DGG.step (c := fun γ_684 => ⟨some 26, .ptr bx0 (0 + 1), [(25, .ptr bx0 0), (19, .bool (!v_689))], [], []⟩) [] (fun _ _ _ => rfl) (fun γ_684 t hm => One.step rfl (.on rfl rfl hm.s1 c_691) (OpT.fieldPtr rfl (dl rfl rfl) Tryd.underlying88 rfl i3 (by decide) hm.s0 ⟨(fun _ => undef, 0), rfl⟩)) (fun γ_684 => Ct.met_of rfl rfl) ?_
    refine DGG.step (c := fun γ_684 => ⟨some 27, .int .i64 ((r4r.mk x0.s (IntKind.i64.wrap (x0.at_ + (1 : Int))) x0.nodes x0.deep x0.e x0.where_).at_), [(26, .ptr bx0 (0 + 1)), (19, .bool (!v_689))], [(0, .box bx0 88 [.d (.str ((r4r.mk x0.s (IntKind.i64.wrap (x0.at_ + (1 : Int))) x0.nodes x0.deep x0.e x0.where_).s)), .d (.int .i64 ((r4r.mk x0.s (IntKind.i64.wrap (x0.at_ + (1 : Int))) x0.nodes x0.deep x0.e x0.where_).at_)), .d (.ex ((γ_684 1).1 0)), .d (.int .i64 ((r4r.mk x0.s (IntKind.i64.wrap (x0.at_ + (1 : Int))) x0.nodes x0.deep x0.e x0.where_).deep)), .d (.int .i64 ((r4r.mk x0.s (IntKind.i64.wrap (x0.at_ + (1 : Int))) x0.nodes x0.deep x0.e x0.where_).e)), .d (.int .i64 ((r4r.mk x0.s (IntKind.i64.wrap (x0.at_ + (1 : Int))) x0.nodes x0.deep x0.e x0.where_).where_))])], []⟩) [1] (fun γ_684 γ' h => by simp only [h 1 (by decide)]) (fun γ_684 t hm => One.step rfl (.on rfl rfl hm.s1 c_691) (OpT.loadBox (i := 0) rfl (dl rfl rfl) Tryd.underlying3 rfl hm.s0 hm.o0 rfl ⟨(fun _ => undef, 0), rfl⟩)) (fun γ_684 => Ct.met_of rfl rfl) ?_
    obtain ⟨g_692, h⟩ := ck_some h
    refine DGG.step (c := fun γ_684 => ⟨some 28, .int .u8 (bt ((r4r.mk x0.s (IntKind.i64.wrap (x0.at_ + (1 : Int))) x0.nodes x0.deep x0.e x0.where_).s) ((r4r.mk x0.s (IntKind.i64.wrap (x0.at_ + (1 : Int))) x0.nodes x0.deep x0.e x0.where_).at_)), [(23, .str ((r4r.mk x0.s (IntKind.i64.wrap (x0.at_ + (1 : Int))) x0.nodes x0.deep x0.e x0.where_).s)), (27, .int .i64 ((r4r.mk x0.s (IntKind.i64.wrap (x0.at_ + (1 : Int))) x0.nodes x0.deep x0.e x0.where_).at_)), (19, .bool (!v_689))], [], []⟩) [] (fun _ _ _ => rfl) (fun γ_684 t hm => One.step rfl (.on rfl rfl hm.s2 c_691) (OpT.indexStr rfl (dl rfl rfl) Tryd.underlying9 hm.s0 hm.s1 g_692.1 g_692.2 ⟨(fun _ => undef, 0), rfl⟩)) (fun γ_684 => Ct.met_of rfl rfl) ?_
    refine DGG.step (c := fun γ_684 => ⟨some 29, .bool ((bt ((r4r.mk x0.s (IntKind.i64.wrap (x0.at_ + (1 : Int))) x0.nodes x0.deep x0.e x0.where_).s) ((r4r.mk x0.s (IntKind.i64.wrap (x0.at_ + (1 : Int))) x0.nodes x0.deep x0.e x0.where_).at_)) == (94 : Int)), [(28, .int .u8 (bt ((r4r.mk x0.s (IntKind.i64.wrap (x0.at_ + (1 : Int))) x0.nodes x0.deep x0.e x0.where_).s) ((r4r.mk x0.s (IntKind.i64.wrap (x0.at_ + (1 : Int))) x0.nodes x0.deep x0.e x0.where_).at_))), (19, .bool (!v_689))], [], []⟩) [] (fun _ _ _ => rfl) (fun γ_684 t hm => One.step rfl (.on rfl rfl hm.s1 c_691) (OpT.int2 rfl rfl (dl rfl rfl) hm.s0 rfl ⟨(fun _ => undef, 0), rfl⟩)) (fun γ_684 => Ct.met_of rfl rfl) ?_
    refine DGG.step (c := fun γ_684 => ⟨some 30, .bool ((bt ((r4r.mk x0.s (IntKind.i64.wrap (x0.at_ + (1 : Int))) x0.nodes x0.deep x0.e x0.where_).s) ((r4r.mk x0.s (IntKind.i64.wrap (x0.at_ + (1 : Int))) x0.nodes x0.deep x0.e x0.where_).at_)) == (94 : Int)), [(19, .bool (!v_689)), (29, .bool ((bt ((r4r.mk x0.s (IntKind.i64.wrap (x0.at_ + (1 : Int))) x0.nodes x0.deep x0.e x0.where_).s) ((r4r.mk x0.s (IntKind.i64.wrap (x0.at_ + (1 : Int))) x0.nodes x0.deep x0.e x0.where_).at_)) == (94 : Int)))], [], []⟩) [] (fun _ _ _ => rfl) (fun γ_684 t hm => One.step rfl (.free rfl) (OpT.pickT rfl (dl rfl rfl) hm.s0 c_691 hm.s1 ⟨(fun _ => undef, 0), rfl⟩)) (fun γ_684 => Ct.met_of rfl rfl) ?_
    refine DGG.step (c := fun γ_684 => ⟨some 3, .bool ((bt ((r4r.mk x0.s (IntKind.i64.wrap (x0.at_ + (1 : Int))) x0.nodes x0.deep x0.e x0.where_).s) ((r4r.mk x0.s (IntKind.i64.wrap (x0.at_ + (1 : Int))) x0.nodes x0.deep x0.e x0.where_).at_)) == (94 : Int)), [(30, .bool ((bt ((r4r.mk x0.s (IntKind.i64.wrap (x0.at_ + (1 : Int))) x0.nodes x0.deep x0.e x0.where_).s) ((r4r.mk x0.s (IntKind.i64.wrap (x0.at_ + (1 : Int))) x0.nodes x0.deep x0.e x0.where_).at_)) == (94 : Int)))], [], []⟩) [] (fun _ _ _ => rfl) (fun γ_684 t hm => One.step rfl (.free rfl) (OpT.assign rfl (dl rfl rfl) hm.s0 ⟨(fun _ => undef, 0), rfl⟩)) (fun γ_684 => Ct.met_of rfl rfl) ?_
    refine DGG.fin (s1 := fun γ_684 => ⟨[(0, .ptr bx0 0), (3, .bool ((bt ((r4r.mk x0.s (IntKind.i64.wrap (x0.at_ + (1 : Int))) x0.nodes x0.deep x0.e x0.where_).s) ((r4r.mk x0.s (IntKind.i64.wrap (x0.at_ + (1 : Int))) x0.nodes x0.deep x0.e x0.where_).at_)) == (94 : Int)))], [.box bx0 88 [.d (.str ((r4r.mk x0.s (IntKind.i64.wrap (x0.at_ + (1 : Int))) x0.nodes x0.deep x0.e x0.where_).s)), .d (.int .i64 ((r4r.mk x0.s (IntKind.i64.wrap (x0.at_ + (1 : Int))) x0.nodes x0.deep x0.e x0.where_).at_)), .d (.ex ((γ_684 1).1 0)), .d (.int .i64 ((r4r.mk x0.s (IntKind.i64.wrap (x0.at_ + (1 : Int))) x0.nodes x0.deep x0.e x0.where_).deep)), .d (.int .i64 ((r4r.mk x0.s (IntKind.i64.wrap (x0.at_ + (1 : Int))) x0.nodes x0.deep x0.e x0.where_).e)), .d (.int .i64 ((r4r.mk x0.s (IntKind.i64.wrap (x0.at_ + (1 : Int))) x0.nodes x0.deep x0.e x0.where_).where_))], .arrA ((γ_684 1).1 0) 42 9 (((r4r.mk x0.s (IntKind.i64.wrap (x0.at_ + (1 : Int))) x0.nodes x0.deep x0.e x0.where_).nodes).map c_api_Node)]⟩) (ms := [0, 1, 3, 7, 15, 31, 63, 127, 15, 271, 783, 1807, 4095, 8191, 16383, 32767]) TrydMixed rfl (by kernel_rfl) (by kernel_rfl) (by kernel_rfl) (fun γ_684 => by kernel_rfl) (fun γ_684 => .cons rfl (.cons rfl (.nil _))) (fun _ => rfl) (fun γ_684 u hu => (thenS_normal (T.by_turn hu ?_)))
    refine T.by_turn ?_ (r4r_class_j0_T K bx0 ((bt ((r4r.mk x0.s (IntKind.i64.wrap (x0.at_ + (1 : Int))) x0.nodes x0.deep x0.e x0.where_).s) ((r4r.mk x0.s (IntKind.i64.wrap (x0.at_ + (1 : Int))) x0.nodes x0.deep x0.e x0.where_).at_)) == (94 : Int)) ((r4r.mk x0.s (IntKind.i64.wrap (x0.at_ + (1 : Int))) x0.nodes x0.deep x0.e x0.where_).s) ((r4r.mk x0.s (IntKind.i64.wrap (x0.at_ + (1 : Int))) x0.nodes x0.deep x0.e x0.where_).at_) ((r4r.mk x0.s (IntKind.i64.wrap (x0.at_ + (1 : Int))) x0.nodes x0.deep x0.e x0.where_).deep) ((r4r.mk x0.s (IntKind.i64.wrap (x0.at_ + (1 : Int))) x0.nodes x0.deep x0.e x0.where_).e) ((r4r.mk x0.s (IntKind.i64.wrap (x0.at_ + (1 : Int))) x0.nodes x0.deep x0.e x0.where_).where_) ((r4r.mk x0.s (IntKind.i64.wrap (x0.at_ + (1 : Int))) x0.nodes x0.deep x0.e x0.where_).nodes) ((γ_684 1).1 0) h)
    exact Turn.rp (.cons rfl (.cons rfl (.nil _))) (.c .z (.c .z (.n _)))
  · refine DGG.off c_691 rfl rfl rfl rfl rfl (fun _ => rfl) ?_
    refine DGG.off c_691 rfl rfl rfl rfl rfl (fun _ => rfl) ?_
    refine DGG.off c_691 rfl rfl rfl rfl rfl (fun _ => rfl) ?_
    refine DGG.off c_691 rfl rfl rfl rfl rfl (fun _ => rfl) ?_
    refine DGG.off c_691 rfl rfl rfl rfl rfl (fun _ => rfl) ?_
    refine DGG.off c_691 rfl rfl rfl rfl rfl (fun _ => rfl) ?_
    refine DGG.off c_691 rfl rfl rfl rfl rfl (fun _ => rfl) ?_
    refine DGG.off c_691 rfl rfl rfl rfl rfl (fun _ => rfl) ?_
    refine DGG.off c_691 rfl rfl rfl rfl rfl (fun _ => rfl) ?_
    refine DGG.off c_691 rfl rfl rfl rfl rfl (fun _ => rfl) ?_
    refine DGG.step (c := fun γ_684 => ⟨some 30, .bool false, [(19, .bool (!v_689))], [], []⟩) [] (fun _ _ _ => rfl) (fun γ_684 t hm => One.step rfl (.free rfl) (OpT.pickF rfl (dl rfl rfl) hm.s0 c_691 rfl ⟨(fun _ => undef, 0), rfl⟩)) (fun γ_684 => Ct.met_of rfl rfl) ?_
    refine DGG.step (c := fun γ_684 => ⟨some 3, .bool false, [(30, .bool false)], [], []⟩) [] (fun _ _ _ => rfl) (fun γ_684 t hm => One.step rfl (.free rfl) (OpT.assign rfl (dl rfl rfl) hm.s0 ⟨(fun _ => undef, 0), rfl⟩)) (fun γ_684 => Ct.met_of rfl rfl) ?_
    refine DGG.fin (s1 := fun γ_684 => ⟨[(0, .ptr bx0 0), (3, .bool false)], [.box bx0 88 [.d (.str ((r4r.mk x0.s (IntKind.i64.wrap (x0.at_ + (1 : Int))) x0.nodes x0.deep x0.e x0.where_).s)), .d (.int .i64 ((r4r.mk x0.s (IntKind.i64.wrap (x0.at_ + (1 : Int))) x0.nodes x0.deep x0.e x0.where_).at_)), .d (.ex ((γ_684 1).1 0)), .d (.int .i64 ((r4r.mk x0.s (IntKind.i64.wrap (x0.at_ + (1 : Int))) x0.nodes x0.deep x0.e x0.where_).deep)), .d (.int .i64 ((r4r.mk x0.s (IntKind.i64.wrap (x0.at_ + (1 : Int))) x0.nodes x0.deep x0.e x0.where_).e)), .d (.int .i64 ((r4r.mk x0.s (IntKind.i64.wrap (x0.at_ + (1 : Int))) x0.nodes x0.deep x0.e x0.where_).where_))], .arrA ((γ_684 1).1 0) 42 9 (((r4r.mk x0.s (IntKind.i64.wrap (x0.at_ + (1 : Int))) x0.nodes x0.deep x0.e x0.where_).nodes).map c_api_Node)]⟩) (ms := [0, 1, 3, 7, 15, 31, 63, 127, 15, 271, 783, 1807, 4095, 8191, 16383, 32767]) TrydMixed rfl (by kernel_rfl) (by kernel_rfl) (by kernel_rfl) (fun γ_684 => by kernel_rfl) (fun γ_684 => .cons rfl (.cons rfl (.nil _))) (fun _ => rfl) (fun γ_684 u hu => (thenS_normal (T.by_turn hu ?_)))
    refine T.by_turn ?_ (r4r_class_j0_T K bx0 false ((r4r.mk x0.s (IntKind.i64.wrap (x0.at_ + (1 : Int))) x0.nodes x0.deep x0.e x0.where_).s) ((r4r.mk x0.s (IntKind.i64.wrap (x0.at_ + (1 : Int))) x0.nodes x0.deep x0.e x0.where_).at_) ((r4r.mk x0.s (IntKind.i64.wrap (x0.at_ + (1 : Int))) x0.nodes x0.deep x0.e x0.where_).deep) ((r4r.mk x0.s (IntKind.i64.wrap (x0.at_ + (1 : Int))) x0.nodes x0.deep x0.e x0.where_).e) ((r4r.mk x0.s (IntKind.i64.wrap (x0.at_ + (1 : Int))) x0.nodes x0.deep x0.e x0.where_).where_) ((r4r.mk x0.s (IntKind.i64.wrap (x0.at_ + (1 : Int))) x0.nodes x0.deep x0.e x0.where_).nodes) ((γ_684 1).1 0) h)
    exact Turn.rp (.cons rfl (.cons rfl (.nil _))) (.c .z (.c .z (.n _)))

abbrev r4r_group_q (bx0 : Nat) (r : Int × r4r) : Exit → St → Prop := retS Tryd.prog Tryd.f101 (fun y t => ∃ γ : Nat → Value, y = (.int .i64 r.1) ∧ t = [.box bx0 88 [.d (.str r.2.s), .d (.int .i64 r.2.at_), .d (.ex (γ 0)), .d (.int .i64 r.2.deep), .d (.int .i64 r.2.e), .d (.int .i64 r.2.where_)], .arrA (γ 0) 42 9 (r.2.nodes.map c_api_Node)])

theorem r4r_group_T (K : Nat) (rec_r4r_alternative : r4r → Option (Int × r4r)) (hrec_r4r_alternative : r4r_alternative_S rec_r4r_alternative) {x0 : r4r} {bx0 : Nat} {wx0c2 : Value} {r : Int × r4r} (h : r4r_group K rec_r4r_alternative x0 = some r) : CallG Tryd.prog 101 [.ptr bx0 0] [.box bx0 88 [.d (.str x0.s), .d (.int .i64 x0.at_), .d (.ex wx0c2), .d (.int .i64 x0.deep), .d (.int .i64 x0.e), .d (.int .i64 x0.where_)], .arrA wx0c2 42 9 (x0.nodes.map c_api_Node)] (fun γ => (.int .i64 r.1)) (fun γ => [.box bx0 88 [.d (.str r.2.s), .d (.int .i64 r.2.at_), .d (.ex (γ 0)), .d (.int .i64 r.2.deep), .d (.int .i64 r.2.e), .d (.int .i64 r.2.where_)], .arrA (γ 0) 42 9 (r.2.nodes.map c_api_Node)]) := by
  refine CallT.intro Tryd.func101 rfl (Nat.le_of_ble_eq_true rfl) ?_
  show T Tryd.prog 55 (Code.at [] (codeOf Tryd.f101)) ⟨paramSlots 0 [.ptr bx0 0], [.box bx0 88 [.d (.str x0.s), .d (.int .i64 x0.at_), .d (.ex wx0c2), .d (.int .i64 x0.deep), .d (.int .i64 x0.e), .d (.int .i64 x0.where_)], .arrA wx0c2 42 9 (x0.nodes.map c_api_Node)]⟩ (r4r_group_q bx0 r)
  unfold r4r_group at h
  refine T.seq ?_
  refine T.regionL ?_
  refine asg rfl rfl rfl rfl rfl ?_
  refine TL'.nil (thenS_normal ?_)
  refine T.seq ?_
  refine T.seq ?_
  refine T.regionL ?_
  refine mv rfl rfl rfl rfl rfl ?_
  refine sp rfl (OpT.nilCheck rfl (dl rfl rfl) rfl rfl ?_)
  refine sp rfl (OpT.fieldPtr rfl (dl rfl rfl) Tryd.underlying88 rfl i3 (by decide) rfl ?_)
  refine sp rfl (OpT.loadBox (i := 0) rfl (dl rfl rfl) Tryd.underlying3 rfl rfl rfl rfl ?_)
  refine sp rfl (OpT.int2 rfl rfl (dl rfl rfl) rfl rfl ?_)
  refine TL'.nil (thenS_normal ?_)
  rcases bif_some h with ⟨c_57, h⟩ | ⟨c_57, h⟩
  · refine T.condT rfl c_57 ?_
    refine T.seq ?_
    refine T.regionL ?_
    refine mv rfl rfl rfl rfl rfl ?_
    refine mv rfl rfl rfl rfl rfl ?_
    refine sp rfl (OpT.nilCheck rfl (dl rfl rfl) rfl rfl ?_)
    refine sp rfl (OpT.fieldPtr rfl (dl rfl rfl) Tryd.underlying88 rfl i3 (by decide) rfl ?_)
    refine sp rfl (OpT.loadBox (i := 0) rfl (dl rfl rfl) Tryd.underlying3 rfl rfl rfl rfl ?_)
    obtain ⟨v_58, e_59, h⟩ := bind_some h
    refine sp rfl (OpT.callG (is := [0, 1]) (ph := []) rfl (dl rfl rfl) Tryd.func50 rfl rfl (Args.cons rfl (Args.cons rfl (Args.cons rfl Args.nil))) (r4r_fail_T K (bx0 := bx0) (wx0c2 := wx0c2) e_59) (.cons rfl rfl (.cons rfl rfl (.nil))) (fun _ => rfl) (fun γ_60 => ?_))
    refine nm (.c (.c (.n))) ?_
    refine TL'.nil (thenS_normal ?_)
    refine T.seq ?_
    refine T.regionL ?_
    refine asg rfl rfl rfl rfl rfl ?_
    refine TL'.nil (thenS_normal ?_)
    refine T.ret (thenS_ret ?_)
    exact Fin.doneK (.cons _ _ _ _ (.tmp 2 _ rfl) .nil) (.cons 0 rfl (.cons 0 rfl (.nil _))) (by cases h; exact ⟨gl [γ_60 0], rfl, rfl⟩)
  · refine T.condF rfl c_57 ?_
    refine T.skip (thenS_normal ?_)
    refine T.seq ?_
    refine T.regionL ?_
    refine mv rfl rfl rfl rfl rfl ?_
    refine sp rfl (OpT.nilCheck rfl (dl rfl rfl) rfl rfl ?_)
    refine sp rfl (OpT.fieldPtr rfl (dl rfl rfl) Tryd.underlying88 rfl i3 (by decide) rfl ?_)
    refine sp rfl (OpT.loadBox (i := 0) rfl (dl rfl rfl) Tryd.underlying3 rfl rfl rfl rfl ?_)
    refine sp rfl (OpT.int2 rfl rfl (dl rfl rfl) rfl rfl ?_)
    refine sp rfl (OpT.nilCheck rfl (dl rfl rfl) rfl rfl ?_)
    refine sp rfl (OpT.fieldPtr rfl (dl rfl rfl) Tryd.underlying88 rfl i3 (by decide) rfl ?_)
    refine sp rfl (OpT.storeTo (i := 0) (cells' := [.d (.str x0.s), .d (.int .i64 (IntKind.i64.wrap (x0.at_ + (1 : Int)))), .d (.ex wx0c2), .d (.int .i64 x0.deep), .d (.int .i64 x0.e), .d (.int .i64 x0.where_)]) rfl rfl i3 rfl rfl rfl (Nat.le_of_ble_eq_true rfl) rfl ?_)
    refine TL'.nil (thenS_normal ?_)
    refine T.seq ?_
    refine T.regionL ?_
    refine mv rfl rfl rfl rfl rfl ?_
    refine sp rfl (OpT.nilCheck rfl (dl rfl rfl) rfl rfl ?_)
    refine sp rfl (OpT.fieldPtr rfl (dl rfl rfl) Tryd.underlying88 rfl i3 (by decide) rfl ?_)
    refine sp rfl (OpT.loadBox (i := 0) rfl (dl rfl rfl) Tryd.underlying3 rfl rfl rfl rfl ?_)
    refine sp rfl (OpT.int2 rfl rfl (dl rfl rfl) rfl rfl ?_)
    refine sp rfl (OpT.nilCheck rfl (dl rfl rfl) rfl rfl ?_)
    refine sp rfl (OpT.fieldPtr rfl (dl rfl rfl) Tryd.underlying88 rfl i3 (by decide) rfl ?_)
    refine sp rfl (OpT.storeTo (i := 0) (cells' := [.d (.str x0.s), .d (.int .i64 (IntKind.i64.wrap (x0.at_ + (1 : Int)))), .d (.ex wx0c2), .d (.int .i64 (IntKind.i64.wrap (x0.deep + (1 : Int)))), .d (.int .i64 x0.e), .d (.int .i64 x0.where_)]) rfl rfl i3 rfl rfl rfl (Nat.le_of_ble_eq_true rfl) rfl ?_)
    refine TL'.nil (thenS_normal ?_)
    refine T.seq ?_
    refine T.regionL ?_
    refine mv rfl rfl rfl rfl rfl ?_
    obtain ⟨v_61, e_62, h⟩ := bind_some h
    refine sp rfl (OpT.callG (is := [0, 1]) (ph := []) rfl (dl rfl rfl) Tryd.func48 rfl rfl (Args.cons rfl Args.nil) (hrec_r4r_alternative (r4r.mk x0.s (IntKind.i64.wrap (x0.at_ + (1 : Int))) x0.nodes (IntKind.i64.wrap (x0.deep + (1 : Int))) x0.e x0.where_) bx0 wx0c2 _ e_62) (.cons rfl rfl (.cons rfl rfl (.nil))) (fun _ => rfl) (fun γ_63 => ?_))
    refine nm (.c (.c (.n))) ?_
    refine asg rfl rfl rfl rfl rfl ?_
    refine TL'.nil (thenS_normal ?_)
    refine T.seq ?_
    refine T.regionL ?_
    refine mv rfl rfl rfl rfl rfl ?_
    refine sp rfl (OpT.nilCheck rfl (dl rfl rfl) rfl rfl ?_)
    refine sp rfl (OpT.fieldPtr rfl (dl rfl rfl) Tryd.underlying88 rfl i3 (by decide) rfl ?_)
    refine sp rfl (OpT.loadBox (i := 0) rfl (dl rfl rfl) Tryd.underlying3 rfl rfl rfl rfl ?_)
    refine sp rfl (OpT.int2 rfl rfl (dl rfl rfl) rfl rfl ?_)
    refine sp rfl (OpT.nilCheck rfl (dl rfl rfl) rfl rfl ?_)
    refine sp rfl (OpT.fieldPtr rfl (dl rfl rfl) Tryd.underlying88 rfl i3 (by decide) rfl ?_)
    refine sp rfl (OpT.storeTo (i := 0) (cells' := [.d (.str v_61.2.s), .d (.int .i64 v_61.2.at_), .d (.ex (γ_63 0)), .d (.int .i64 (IntKind.i64.wrap (v_61.2.deep - (1 : Int)))), .d (.int .i64 v_61.2.e), .d (.int .i64 v_61.2.where_)]) rfl rfl i3 rfl rfl rfl (Nat.le_of_ble_eq_true rfl) rfl ?_)
    refine TL'.nil (thenS_normal ?_)
    refine T.seq ?_
    refine T.seq ?_
    refine T.regionL ?_
    refine mv rfl rfl rfl rfl rfl ?_
    obtain ⟨v_64, e_65, h⟩ := bind_some h
    refine sp rfl (OpT.callG (is := [0, 1]) (ph := []) rfl (dl rfl rfl) Tryd.func49 rfl rfl (Args.cons rfl Args.nil) (r4r_ends_T K (bx0 := bx0) (wx0c2 := (γ_63 0)) e_65) (.cons rfl rfl (.cons rfl rfl (.nil))) (fun _ => rfl) (fun γ_66 => ?_))
    refine nm (.c (.c (.n))) ?_
    refine TL'.nil (thenS_normal ?_)
    rcases bif_some h with ⟨c_67, h⟩ | ⟨c_67, h⟩
    · refine T.condT rfl c_67 ?_
      refine T.seq ?_
      refine T.regionL ?_
      refine mv rfl rfl rfl rfl rfl ?_
      refine mv rfl rfl rfl rfl rfl ?_
      refine sp rfl (OpT.nilCheck rfl (dl rfl rfl) rfl rfl ?_)
      refine sp rfl (OpT.fieldPtr rfl (dl rfl rfl) Tryd.underlying88 rfl i9 (by decide) rfl ?_)
      refine sp rfl (OpT.loadBox (i := 0) rfl (dl rfl rfl) Tryd.underlying9 rfl rfl rfl rfl ?_)
      refine sp rfl (OpT.lenStr rfl (dl rfl rfl) Tryd.underlying9 rfl ?_)
      obtain ⟨v_68, e_69, h⟩ := bind_some h
      refine sp rfl (OpT.callG (is := [0, 1]) (ph := []) rfl (dl rfl rfl) Tryd.func50 rfl rfl (Args.cons rfl (Args.cons rfl (Args.cons rfl Args.nil))) (r4r_fail_T K (bx0 := bx0) (wx0c2 := (γ_66 0)) e_69) (.cons rfl rfl (.cons rfl rfl (.nil))) (fun _ => rfl) (fun γ_70 => ?_))
      refine nm (.c (.c (.n))) ?_
      refine TL'.nil (thenS_normal ?_)
      refine T.seq ?_
      refine T.regionL ?_
      refine asg rfl rfl rfl rfl rfl ?_
      refine TL'.nil (thenS_normal ?_)
      refine T.ret (thenS_ret ?_)
      exact Fin.doneK (.cons _ _ _ _ (.tmp 2 _ rfl) .nil) (.cons 0 rfl (.cons 0 rfl (.nil _))) (by cases h; exact ⟨gl [γ_70 0], rfl, rfl⟩)
    · refine T.condF rfl c_67 ?_
      refine T.skip (thenS_normal ?_)
      refine T.seq ?_
      refine T.regionL ?_
      refine mv rfl rfl rfl rfl rfl ?_
      refine sp rfl (OpT.nilCheck rfl (dl rfl rfl) rfl rfl ?_)
      refine sp rfl (OpT.fieldPtr rfl (dl rfl rfl) Tryd.underlying88 rfl i3 (by decide) rfl ?_)
      refine sp rfl (OpT.loadBox (i := 0) rfl (dl rfl rfl) Tryd.underlying3 rfl rfl rfl rfl ?_)
      refine sp rfl (OpT.int2 rfl rfl (dl rfl rfl) rfl rfl ?_)
      refine sp rfl (OpT.nilCheck rfl (dl rfl rfl) rfl rfl ?_)
      refine sp rfl (OpT.fieldPtr rfl (dl rfl rfl) Tryd.underlying88 rfl i3 (by decide) rfl ?_)
      refine sp rfl (OpT.storeTo (i := 0) (cells' := [.d (.str ((r4r.mk v_61.2.s v_61.2.at_ v_61.2.nodes (IntKind.i64.wrap (v_61.2.deep - (1 : Int))) v_61.2.e v_61.2.where_).s)), .d (.int .i64 (IntKind.i64.wrap ((r4r.mk v_61.2.s v_61.2.at_ v_61.2.nodes (IntKind.i64.wrap (v_61.2.deep - (1 : Int))) v_61.2.e v_61.2.where_).at_ + (1 : Int)))), .d (.ex (γ_66 0)), .d (.int .i64 ((r4r.mk v_61.2.s v_61.2.at_ v_61.2.nodes (IntKind.i64.wrap (v_61.2.deep - (1 : Int))) v_61.2.e v_61.2.where_).deep)), .d (.int .i64 ((r4r.mk v_61.2.s v_61.2.at_ v_61.2.nodes (IntKind.i64.wrap (v_61.2.deep - (1 : Int))) v_61.2.e v_61.2.where_).e)), .d (.int .i64 ((r4r.mk v_61.2.s v_61.2.at_ v_61.2.nodes (IntKind.i64.wrap (v_61.2.deep - (1 : Int))) v_61.2.e v_61.2.where_).where_))]) rfl rfl i3 rfl rfl rfl (Nat.le_of_ble_eq_true rfl) rfl ?_)
      refine TL'.nil (thenS_normal ?_)
      refine T.seq ?_
      refine T.regionL ?_
      refine mv rfl rfl rfl rfl rfl ?_
      refine asg rfl rfl rfl rfl rfl ?_
      refine TL'.nil (thenS_normal ?_)
      refine T.ret ?_
      exact Fin.doneK (.cons _ _ _ _ (.tmp 2 _ rfl) .nil) (.cons 0 rfl (.cons 0 rfl (.nil _))) (by cases h; exact ⟨gl [γ_66 0], rfl, rfl⟩)

abbrev r4r_atom_q (bx0 : Nat) (r : Int × r4r) : Exit → St → Prop := retS Tryd.prog Tryd.f90 (fun y t => ∃ γ : Nat → Value, y = (.int .i64 r.1) ∧ t = [.box bx0 88 [.d (.str r.2.s), .d (.int .i64 r.2.at_), .d (.ex (γ 0)), .d (.int .i64 r.2.deep), .d (.int .i64 r.2.e), .d (.int .i64 r.2.where_)], .arrA (γ 0) 42 9 (r.2.nodes.map c_api_Node)])

abbrev r4r_atom_qs111 (bx0 : Nat) (r : Int × r4r) : Exit → St → Prop := thenS (fun s' => T Tryd.prog 112 (Code.at [1, 1, 1] (codeOf Tryd.f90)) s' ((r4r_atom_q bx0 r))) ((r4r_atom_q bx0 r))

abbrev r4r_atom_qb0x111 (bx0 : Nat) (r : Int × r4r) : Exit → St → Prop := inBlockS 0 ((r4r_atom_qs111 bx0 r))

theorem r4r_atom_j0_T {r : Int × r4r} (K : Nat) (rec_r4r_alternative : r4r → Option (Int × r4r)) (hrec_r4r_alternative : r4r_alternative_S rec_r4r_alternative) (bx0 : Nat) (x0 : r4r) (w0_0 : Value) (h : r4r_atom_j0 K rec_r4r_alternative x0 = some r) : T Tryd.prog 112 (Code.at [1, 1, 0, 0, 1, 1, 1, 1, 1, 1, 1, 0] (codeOf Tryd.f90)) ⟨[(0, .ptr bx0 0)], [.box bx0 88 [.d (.str x0.s), .d (.int .i64 x0.at_), .d (.ex w0_0), .d (.int .i64 x0.deep), .d (.int .i64 x0.e), .d (.int .i64 x0.where_)], .arrA w0_0 42 9 (x0.nodes.map c_api_Node)]⟩ (r4r_atom_qb0x111 bx0 r) := by
  unfold r4r_atom_j0 at h
  refine T.seq ?_
  refine T.regionL ?_
  refine mv rfl rfl rfl rfl rfl ?_
  obtain ⟨v_313, e_314, h⟩ := bind_some h
  refine sp rfl (OpT.callG (is := [0, 1]) (ph := []) rfl (dl rfl rfl) Tryd.func103 rfl rfl (Args.cons rfl Args.nil) (r4r_name_T K (bx0 := bx0) (wx0c2 := w0_0) e_314) (.cons rfl rfl (.cons rfl rfl (.nil))) (fun _ => rfl) (fun γ_315 => ?_))
  refine nm (.c (.c (.n))) ?_
  refine asg rfl rfl rfl rfl rfl ?_
  refine TL'.nil (thenS_normal ?_)
  refine T.ret (inBlock_ret (thenS_ret ?_))
  exact Fin.doneK (.cons _ _ _ _ (.tmp 2 _ rfl) .nil) (.cons 0 rfl (.cons 0 rfl (.nil _))) (by cases h; exact ⟨gl [γ_315 0], rfl, rfl⟩)

theorem r4r_atom_j2_T {r : Int × r4r} (K : Nat) (rec_r4r_alternative : r4r → Option (Int × r4r)) (hrec_r4r_alternative : r4r_alternative_S rec_r4r_alternative) (bx0 : Nat) (x0 : r4r) (w0_2 : Value) (h : r4r_atom_j2 K rec_r4r_alternative x0 = some r) : T Tryd.prog 112 (Code.at [1, 1, 0, 0, 1, 1, 1, 1, 1, 1, 1, 1, 1, 0] (codeOf Tryd.f90)) ⟨[(0, .ptr bx0 0)], [.box bx0 88 [.d (.str x0.s), .d (.int .i64 x0.at_), .d (.ex w0_2), .d (.int .i64 x0.deep), .d (.int .i64 x0.e), .d (.int .i64 x0.where_)], .arrA w0_2 42 9 (x0.nodes.map c_api_Node)]⟩ (r4r_atom_qb0x111 bx0 r) := by
  unfold r4r_atom_j2 at h
  refine T.seq ?_
  refine T.regionL ?_
  refine mv rfl rfl rfl rfl rfl ?_
  refine mv rfl rfl rfl rfl rfl ?_
  refine sp rfl (OpT.nilCheck rfl (dl rfl rfl) rfl rfl ?_)
  refine sp rfl (OpT.fieldPtr rfl (dl rfl rfl) Tryd.underlying88 rfl i3 (by decide) rfl ?_)
  refine sp rfl (OpT.loadBox (i := 0) rfl (dl rfl rfl) Tryd.underlying3 rfl rfl rfl rfl ?_)
  obtain ⟨v_321, e_322, h⟩ := bind_some h
  refine sp rfl (OpT.callG (is := [0, 1]) (ph := []) rfl (dl rfl rfl) Tryd.func50 rfl rfl (Args.cons rfl (Args.cons rfl (Args.cons rfl Args.nil))) (r4r_fail_T K (bx0 := bx0) (wx0c2 := w0_2) e_322) (.cons rfl rfl (.cons rfl rfl (.nil))) (fun _ => rfl) (fun γ_323 => ?_))
  refine nm (.c (.c (.n))) ?_
  refine TL'.nil (thenS_normal ?_)
  refine T.seq ?_
  refine T.regionL ?_
  refine asg rfl rfl rfl rfl rfl ?_
  refine TL'.nil (thenS_normal ?_)
  refine T.ret (inBlock_ret (thenS_ret ?_))
  exact Fin.doneK (.cons _ _ _ _ (.tmp 2 _ rfl) .nil) (.cons 0 rfl (.cons 0 rfl (.nil _))) (by cases h; exact ⟨gl [γ_323 0], rfl, rfl⟩)

theorem r4r_atom_j3_T {r : Int × r4r} (K : Nat) (rec_r4r_alternative : r4r → Option (Int × r4r)) (hrec_r4r_alternative : r4r_alternative_S rec_r4r_alternative) (bx0 : Nat) (x0 : r4r) (w0_3 : Value) (h : r4r_atom_j3 K rec_r4r_alternative x0 = some r) : T Tryd.prog 112 (Code.at [1, 1, 0, 0, 1, 1, 1, 1, 1, 1, 1, 1, 1, 1, 1, 1] (codeOf Tryd.f90)) ⟨[(0, .ptr bx0 0)], [.box bx0 88 [.d (.str x0.s), .d (.int .i64 x0.at_), .d (.ex w0_3), .d (.int .i64 x0.deep), .d (.int .i64 x0.e), .d (.int .i64 x0.where_)], .arrA w0_3 42 9 (x0.nodes.map c_api_Node)]⟩ (r4r_atom_qb0x111 bx0 r) := by
  unfold r4r_atom_j3 at h
  refine T.skip (inBlock_normal (thenS_normal ?_))
  refine T.seq ?_
  refine T.regionL ?_
  refine mv rfl rfl rfl rfl rfl ?_
  obtain ⟨v_334, e_335, h⟩ := bind_some h
  refine sp rfl (OpT.callG (is := [0, 1]) (ph := []) rfl (dl rfl rfl) Tryd.func106 rfl rfl (Args.cons rfl Args.nil) (r4r_one_T K (bx0 := bx0) (wx0c2 := w0_3) e_335) (.cons rfl rfl (.cons rfl rfl (.nil))) (fun _ => rfl) (fun γ_336 => ?_))
  refine nm (.c (.c (.n))) ?_
  refine asg rfl rfl rfl rfl rfl ?_
  refine TL'.nil (thenS_normal ?_)
  refine T.seq ?_
  refine T.seq ?_
  refine T.regionL ?_
  refine mv rfl rfl rfl rfl rfl ?_
  refine sp rfl (OpT.nilCheck rfl (dl rfl rfl) rfl rfl ?_)
  refine sp rfl (OpT.fieldPtr rfl (dl rfl rfl) Tryd.underlying88 rfl i35 (by decide) rfl ?_)
  refine sp rfl (OpT.loadBox (i := 0) rfl (dl rfl rfl) Tryd.underlying35 rfl rfl rfl rfl ?_)
  refine sp rfl (OpT.int2 rfl rfl (dl rfl rfl) rfl rfl ?_)
  refine TL'.nil (thenS_normal ?_)
  rcases bif_some h with ⟨c_337, h⟩ | ⟨c_337, h⟩
  · refine T.condT rfl c_337 ?_
    refine T.seq ?_
    refine T.regionL ?_
    refine asg rfl rfl rfl rfl rfl ?_
    refine TL'.nil (thenS_normal ?_)
    refine T.ret (thenS_ret ?_)
    exact Fin.doneK (.cons _ _ _ _ (.tmp 2 _ rfl) .nil) (.cons 0 rfl (.cons 0 rfl (.nil _))) (by cases h; exact ⟨gl [γ_336 0], rfl, rfl⟩)
  · refine T.condF rfl c_337 ?_
    refine T.skip (thenS_normal ?_)
    refine T.seq ?_
    refine T.regionL ?_
    refine mv rfl rfl rfl rfl rfl ?_
    refine mv rfl rfl rfl rfl rfl ?_
    refine sp rfl (OpT.buildSlice (elems := ([v_334.1] : List Int).map (cI .u8)) rfl (dl rfl rfl) Tryd.underlying32 i5 (by decide) rfl (all1 rfl) rfl rfl rfl (lenAll rfl) (by decide) ?_)
    obtain ⟨v_338, e_339, h⟩ := bind_some h
    refine sp rfl (OpT.callPA rfl (dl rfl rfl) Tryd.func19 rfl rfl (Args.cons rfl Args.nil) (CallR.nil (r1_Of_T K (flx0 := true) e_339)) ?_)
    refine sp rfl (OpT.thenTurn (OpT.build (l := [.int .u8 (2 : Int), .int .u64 v_338.a0, .int .u64 v_338.a1, .int .u64 v_338.a2, .int .u64 v_338.a3, .ex (.slice none 0 0), .int .i64 (0 : Int), .int .i64 (0 : Int), .str (⟨#[]⟩ : ByteArray)]) rfl (dl rfl rfl) (built_struct (pl := [(0, 1), (1, 4), (5, 1), (6, 1), (7, 1), (8, 1)]) Tryd.underlying42 i42 rfl) (all1 rfl) rfl rfl rfl) (Turn.weakSlotP 110 (l := [.int .u8 (2 : Int), .int .u64 v_338.a0, .int .u64 v_338.a1, .int .u64 v_338.a2, .int .u64 v_338.a3, .ex (.slice none 0 0), .int .i64 (0 : Int), .int .i64 (0 : Int), .str (⟨#[]⟩ : ByteArray)]) (l' := [.int .u8 (2 : Int), .int .u64 v_338.a0, .int .u64 v_338.a1, .int .u64 v_338.a2, .int .u64 v_338.a3, .sl false 1 (([] : List Int).map (cI .i64)), .int .i64 (0 : Int), .int .i64 (0 : Int), .str (⟨#[]⟩ : ByteArray)]) (.cons (.same _) (.cons (.same _) (.cons (.same _) (.cons (.same _) (.cons (.same _) (.cons (.nil _ _) (.cons (.same _) (.cons (.same _) (.cons (.same _) (.refl _))))))))))) ?_)
    obtain ⟨v_340, e_341, h⟩ := bind_some h
    refine sp rfl (OpT.callG (is := [0, 1]) (ph := []) rfl (dl rfl rfl) Tryd.func65 rfl rfl (Args.cons rfl (Args.cons rfl Args.nil)) (r4r_put_T K (bx0 := bx0) (wx0c2 := (γ_336 0)) e_341) (.cons rfl rfl (.cons rfl rfl (.nil))) (fun _ => rfl) (fun γ_342 => ?_))
    refine nm (.c (.c (.n))) ?_
    refine asg rfl rfl rfl rfl rfl ?_
    refine TL'.nil (thenS_normal ?_)
    refine T.ret ?_
    exact Fin.doneK (.cons _ _ _ _ (.tmp 2 _ rfl) .nil) (.cons 0 rfl (.cons 0 rfl (.nil _))) (by cases h; exact ⟨gl [γ_342 0], rfl, rfl⟩)

theorem r4r_atom_j1_T {r : Int × r4r} (K : Nat) (rec_r4r_alternative : r4r → Option (Int × r4r)) (hrec_r4r_alternative : r4r_alternative_S rec_r4r_alternative) (bx0 : Nat) (x3_1_6 : Int) (x0 : r4r) (w0_1 : Value) (h : r4r_atom_j1 K rec_r4r_alternative x3_1_6 x0 = some r) : T Tryd.prog 112 (Code.at [1, 1, 0, 0, 1, 1, 1, 1, 1, 1, 1, 1] (codeOf Tryd.f90)) ⟨[(0, .ptr bx0 0), (3, .int .u8 x3_1_6)], [.box bx0 88 [.d (.str x0.s), .d (.int .i64 x0.at_), .d (.ex w0_1), .d (.int .i64 x0.deep), .d (.int .i64 x0.e), .d (.int .i64 x0.where_)], .arrA w0_1 42 9 (x0.nodes.map c_api_Node)]⟩ (r4r_atom_qb0x111 bx0 r) := by
  unfold r4r_atom_j1 at h
  refine T.seq ?_
  refine T.regionL ?_
  refine mv rfl rfl rfl rfl rfl ?_
  refine sp rfl (OpT.int2 rfl rfl (dl rfl rfl) rfl rfl ?_)
  refine mv rfl rfl rfl rfl rfl ?_
  rcases bif_some h with ⟨c_320, h⟩ | ⟨c_320, h⟩
  · refine TL'.passU (.off _ _ _ _ rfl rfl rfl c_320) (dl rfl rfl) ?_
    refine TL'.passU (.off _ _ _ _ rfl rfl rfl c_320) (dl rfl rfl) ?_
    refine sp rfl (OpT.pickT rfl (dl rfl rfl) rfl c_320 rfl ?_)
    refine asg rfl rfl rfl rfl rfl ?_
    refine TL'.nil (thenS_normal ?_)
    refine T.condT rfl rfl ?_
    refine T.by_turn ?_ (r4r_atom_j2_T K rec_r4r_alternative hrec_r4r_alternative bx0 x0 w0_1 h)
    exact Turn.rp (.cons rfl (.nil _)) (.c .z (.c .z (.n _)))
  · refine TL'.step (.on rfl rfl rfl c_320) (OpT.move rfl (dl rfl rfl) rfl ?_)
    refine TL'.step (.on rfl rfl rfl c_320) (OpT.int2 rfl rfl (dl rfl rfl) rfl rfl ?_)
    refine sp rfl (OpT.pickF rfl (dl rfl rfl) rfl c_320 rfl ?_)
    refine asg rfl rfl rfl rfl rfl ?_
    refine TL'.nil (thenS_normal ?_)
    rcases bif_some h with ⟨c_324, h⟩ | ⟨c_324, h⟩
    · refine T.condT rfl c_324 ?_
      refine T.by_turn ?_ (r4r_atom_j2_T K rec_r4r_alternative hrec_r4r_alternative bx0 x0 w0_1 h)
      exact Turn.rp (.cons rfl (.nil _)) (.c .z (.c .z (.n _)))
    · refine T.condF rfl c_324 ?_
      refine T.seq ?_
      refine T.regionL ?_
      refine mv rfl rfl rfl rfl rfl ?_
      refine sp rfl (OpT.int2 rfl rfl (dl rfl rfl) rfl rfl ?_)
      refine mv rfl rfl rfl rfl rfl ?_
      rcases bif_some h with ⟨c_325, h⟩ | ⟨c_325, h⟩
      · refine TL'.step (.on rfl rfl rfl c_325) (OpT.move rfl (dl rfl rfl) rfl ?_)
        obtain ⟨v_326, e_327, h⟩ := bind_some h
        refine TL'.step (.on rfl rfl rfl c_325) (OpT.callPA rfl (dl rfl rfl) Tryd.func105 rfl rfl Args.nil (CallR.nil (r4_special_T K e_327)) ?_)
        obtain ⟨v_328, e_329, h⟩ := bind_some h
        refine TL'.step (.on rfl rfl rfl c_325) (OpT.callPA rfl (dl rfl rfl) Tryd.func104 rfl rfl (Args.cons rfl (Args.cons rfl Args.nil)) (CallR.nil (r4_in_T K e_329)) ?_)
        refine sp rfl (OpT.pickT rfl (dl rfl rfl) rfl c_325 rfl ?_)
        refine asg rfl rfl rfl rfl rfl ?_
        refine TL'.nil (thenS_normal ?_)
        rcases bif_some h with ⟨c_330, h⟩ | ⟨c_330, h⟩
        · refine T.condT rfl c_330 ?_
          refine T.seq ?_
          refine T.regionL ?_
          refine mv rfl rfl rfl rfl rfl ?_
          refine mv rfl rfl rfl rfl rfl ?_
          refine sp rfl (OpT.nilCheck rfl (dl rfl rfl) rfl rfl ?_)
          refine sp rfl (OpT.fieldPtr rfl (dl rfl rfl) Tryd.underlying88 rfl i3 (by decide) rfl ?_)
          refine sp rfl (OpT.loadBox (i := 0) rfl (dl rfl rfl) Tryd.underlying3 rfl rfl rfl rfl ?_)
          obtain ⟨v_331, e_332, h⟩ := bind_some h
          refine sp rfl (OpT.callG (is := [0, 1]) (ph := []) rfl (dl rfl rfl) Tryd.func50 rfl rfl (Args.cons rfl (Args.cons rfl (Args.cons rfl Args.nil))) (r4r_fail_T K (bx0 := bx0) (wx0c2 := w0_1) e_332) (.cons rfl rfl (.cons rfl rfl (.nil))) (fun _ => rfl) (fun γ_333 => ?_))
          refine nm (.c (.c (.n))) ?_
          refine TL'.nil (thenS_normal ?_)
          refine T.seq ?_
          refine T.regionL ?_
          refine asg rfl rfl rfl rfl rfl ?_
          refine TL'.nil (thenS_normal ?_)
          refine T.ret (inBlock_ret (thenS_ret ?_))
          exact Fin.doneK (.cons _ _ _ _ (.tmp 2 _ rfl) .nil) (.cons 0 rfl (.cons 0 rfl (.nil _))) (by cases h; exact ⟨gl [γ_333 0], rfl, rfl⟩)
        · refine T.condF rfl c_330 ?_
          refine T.by_turn ?_ (r4r_atom_j3_T K rec_r4r_alternative hrec_r4r_alternative bx0 x0 w0_1 h)
          exact Turn.rp (.cons rfl (.nil _)) (.c .z (.c .z (.n _)))
      · refine TL'.passU (.off _ _ _ _ rfl rfl rfl c_325) (dl rfl rfl) ?_
        refine TL'.passU (.off _ _ _ _ rfl rfl rfl c_325) (dl rfl rfl) ?_
        refine TL'.passU (.off _ _ _ _ rfl rfl rfl c_325) (dl rfl rfl) ?_
        refine sp rfl (OpT.pickF rfl (dl rfl rfl) rfl c_325 rfl ?_)
        refine asg rfl rfl rfl rfl rfl ?_
        refine TL'.nil (thenS_normal ?_)
        refine T.condF rfl rfl ?_
        refine T.by_turn ?_ (r4r_atom_j3_T K rec_r4r_alternative hrec_r4r_alternative bx0 x0 w0_1 h)
        exact Turn.rp (.cons rfl (.nil _)) (.c .z (.c .z (.n _)))

theorem r4r_atom_T (K : Nat) (rec_r4r_alternative : r4r → Option (Int × r4r)) (hrec_r4r_alternative : r4r_alternative_S rec_r4r_alternative) {x0 : r4r} {bx0 : Nat} {wx0c2 : Value} {r : Int × r4r} (h : r4r_atom K rec_r4r_alternative x0 = some r) : CallG Tryd.prog 90 [.ptr bx0 0] [.box bx0 88 [.d (.str x0.s), .d (.int .i64 x0.at_), .d (.ex wx0c2), .d (.int .i64 x0.deep), .d (.int .i64 x0.e), .d (.int .i64 x0.where_)], .arrA wx0c2 42 9 (x0.nodes.map c_api_Node)] (fun γ => (.int .i64 r.1)) (fun γ => [.box bx0 88 [.d (.str r.2.s), .d (.int .i64 r.2.at_), .d (.ex (γ 0)), .d (.int .i64 r.2.deep), .d (.int .i64 r.2.e), .d (.int .i64 r.2.where_)], .arrA (γ 0) 42 9 (r.2.nodes.map c_api_Node)]) := by
  refine CallT.intro Tryd.func90 rfl (Nat.le_of_ble_eq_true rfl) ?_
  show T Tryd.prog 112 (Code.at [] (codeOf Tryd.f90)) ⟨paramSlots 0 [.ptr bx0 0], [.box bx0 88 [.d (.str x0.s), .d (.int .i64 x0.at_), .d (.ex wx0c2), .d (.int .i64 x0.deep), .d (.int .i64 x0.e), .d (.int .i64 x0.where_)], .arrA wx0c2 42 9 (x0.nodes.map c_api_Node)]⟩ (r4r_atom_q bx0 r)
  unfold r4r_atom at h
  refine T.seq ?_
  refine T.regionL ?_
  refine asg rfl rfl rfl rfl rfl ?_
  refine TL'.nil (thenS_normal ?_)
  refine T.seq ?_
  refine DG.start ?_
  refine DG.mv rfl rfl rfl rfl rfl rfl ?_
  refine DG.step (c := ⟨some 6, .ptr bx0 0, [(5, .ptr bx0 0)], [], []⟩) (fun t hm => One.step rfl (.free rfl) (OpT.nilCheck rfl (dl rfl rfl) hm.s0 rfl rfl)) (Ct.met_of rfl rfl) ?_
  refine DG.step (c := ⟨some 7, .ptr bx0 (0 + 0), [(6, .ptr bx0 0)], [], []⟩) (fun t hm => One.step rfl (.free rfl) (OpT.fieldPtr rfl (dl rfl rfl) Tryd.underlying88 rfl i9 (by decide) hm.s0 rfl)) (Ct.met_of rfl rfl) ?_
  refine DG.step (c := ⟨some 8, .str x0.s, [(7, .ptr bx0 (0 + 0))], [(0, .box bx0 88 [.d (.str x0.s), .d (.int .i64 x0.at_), .d (.ex wx0c2), .d (.int .i64 x0.deep), .d (.int .i64 x0.e), .d (.int .i64 x0.where_)])], []⟩) (fun t hm => One.step rfl (.free rfl) (OpT.loadBox (i := 0) rfl (dl rfl rfl) Tryd.underlying9 rfl hm.s0 hm.o0 rfl rfl)) (Ct.met_of rfl rfl) ?_
  refine DG.mv rfl rfl rfl rfl rfl rfl ?_
  refine DG.step (c := ⟨some 10, .ptr bx0 0, [(9, .ptr bx0 0)], [], []⟩) (fun t hm => One.step rfl (.free rfl) (OpT.nilCheck rfl (dl rfl rfl) hm.s0 rfl rfl)) (Ct.met_of rfl rfl) ?_
  refine DG.step (c := ⟨some 11, .ptr bx0 (0 + 1), [(10, .ptr bx0 0)], [], []⟩) (fun t hm => One.step rfl (.free rfl) (OpT.fieldPtr rfl (dl rfl rfl) Tryd.underlying88 rfl i3 (by decide) hm.s0 rfl)) (Ct.met_of rfl rfl) ?_
  refine DG.step (c := ⟨some 12, .int .i64 x0.at_, [(11, .ptr bx0 (0 + 1))], [(0, .box bx0 88 [.d (.str x0.s), .d (.int .i64 x0.at_), .d (.ex wx0c2), .d (.int .i64 x0.deep), .d (.int .i64 x0.e), .d (.int .i64 x0.where_)])], []⟩) (fun t hm => One.step rfl (.free rfl) (OpT.loadBox (i := 0) rfl (dl rfl rfl) Tryd.underlying3 rfl hm.s0 hm.o0 rfl rfl)) (Ct.met_of rfl rfl) ?_
  obtain ⟨g_288, h⟩ := ck_some h
  refine DG.step (c := ⟨some 13, .int .u8 (bt x0.s x0.at_), [(8, .str x0.s), (12, .int .i64 x0.at_)], [], []⟩) (fun t hm => One.step rfl (.free rfl) (OpT.indexStr rfl (dl rfl rfl) Tryd.underlying9 hm.s0 hm.s1 g_288.1 g_288.2 rfl)) (Ct.met_of rfl rfl) ?_
  refine DG.step (c := ⟨some 3, .int .u8 (bt x0.s x0.at_), [(13, .int .u8 (bt x0.s x0.at_))], [], []⟩) (fun t hm => One.step rfl (.free rfl) (OpT.assign rfl (dl rfl rfl) hm.s0 rfl)) (Ct.met_of rfl rfl) ?_
  refine DG.fin (s1 := ⟨[(0, .ptr bx0 0), (3, .int .u8 (bt x0.s x0.at_))], [.box bx0 88 [.d (.str x0.s), .d (.int .i64 x0.at_), .d (.ex wx0c2), .d (.int .i64 x0.deep), .d (.int .i64 x0.e), .d (.int .i64 x0.where_)], .arrA wx0c2 42 9 (x0.nodes.map c_api_Node)]⟩) (ms := [0, 1, 3, 7, 0, 16, 48, 112, 255, 511]) TrydMixed rfl (by kernel_rfl) (by kernel_rfl) (by kernel_rfl) (.cons rfl (.cons rfl (.nil _))) rfl (fun u hu => (thenS_normal (T.by_turn hu ?_)))
  refine T.seq ?_
  refine T.block ?_
  refine T.seq ?_
  refine T.regionL ?_
  refine mv rfl rfl rfl rfl rfl ?_
  refine sp rfl (OpT.int2 rfl rfl (dl rfl rfl) rfl rfl ?_)
  refine asg rfl rfl rfl rfl rfl ?_
  refine TL'.nil (thenS_normal ?_)
  rcases bif_some h with ⟨c_289, h⟩ | ⟨c_289, h⟩
  · refine T.condT rfl c_289 ?_
    refine T.seq ?_
    refine T.regionL ?_
    refine mv rfl rfl rfl rfl rfl ?_
    obtain ⟨v_290, e_291, h⟩ := bind_some h
    refine sp rfl (OpT.callG (is := [0, 1]) (ph := []) rfl (dl rfl rfl) Tryd.func101 rfl rfl (Args.cons rfl Args.nil) (r4r_group_T K rec_r4r_alternative hrec_r4r_alternative (bx0 := bx0) (wx0c2 := wx0c2) e_291) (.cons rfl rfl (.cons rfl rfl (.nil))) (fun _ => rfl) (fun γ_292 => ?_))
    refine nm (.c (.c (.n))) ?_
    refine asg rfl rfl rfl rfl rfl ?_
    refine TL'.nil (thenS_normal ?_)
    refine T.ret (inBlock_ret (thenS_ret ?_))
    exact Fin.doneK (.cons _ _ _ _ (.tmp 2 _ rfl) .nil) (.cons 0 rfl (.cons 0 rfl (.nil _))) (by cases h; exact ⟨gl [γ_292 0], rfl, rfl⟩)
  · refine T.condF rfl c_289 ?_
    refine T.seq ?_
    refine T.regionL ?_
    refine mv rfl rfl rfl rfl rfl ?_
    refine sp rfl (OpT.int2 rfl rfl (dl rfl rfl) rfl rfl ?_)
    refine asg rfl rfl rfl rfl rfl ?_
    refine TL'.nil (thenS_normal ?_)
    rcases bif_some h with ⟨c_293, h⟩ | ⟨c_293, h⟩
    · refine T.condT rfl c_293 ?_
      refine T.seq ?_
      refine T.regionL ?_
      refine mv rfl rfl rfl rfl rfl ?_
      obtain ⟨v_294, e_295, h⟩ := bind_some h
      refine sp rfl (OpT.callG (is := [0, 1]) (ph := []) rfl (dl rfl rfl) Tryd.func102 rfl rfl (Args.cons rfl Args.nil) (r4r_class_T K (bx0 := bx0) (wx0c2 := wx0c2) e_295) (.cons rfl rfl (.cons rfl rfl (.nil))) (fun _ => rfl) (fun γ_296 => ?_))
      refine nm (.c (.c (.n))) ?_
      refine asg rfl rfl rfl rfl rfl ?_
      refine TL'.nil (thenS_normal ?_)
      refine T.ret (inBlock_ret (thenS_ret ?_))
      exact Fin.doneK (.cons _ _ _ _ (.tmp 2 _ rfl) .nil) (.cons 0 rfl (.cons 0 rfl (.nil _))) (by cases h; exact ⟨gl [γ_296 0], rfl, rfl⟩)
    · refine T.condF rfl c_293 ?_
      refine T.seq ?_
      refine T.regionL ?_
      refine mv rfl rfl rfl rfl rfl ?_
      refine sp rfl (OpT.int2 rfl rfl (dl rfl rfl) rfl rfl ?_)
      refine asg rfl rfl rfl rfl rfl ?_
      refine TL'.nil (thenS_normal ?_)
      rcases bif_some h with ⟨c_297, h⟩ | ⟨c_297, h⟩
      · refine T.condT rfl c_297 ?_
        refine T.seq ?_
        refine T.regionL ?_
        refine mv rfl rfl rfl rfl rfl ?_
        refine sp rfl (OpT.nilCheck rfl (dl rfl rfl) rfl rfl ?_)
        refine sp rfl (OpT.fieldPtr rfl (dl rfl rfl) Tryd.underlying88 rfl i3 (by decide) rfl ?_)
        refine sp rfl (OpT.loadBox (i := 0) rfl (dl rfl rfl) Tryd.underlying3 rfl rfl rfl rfl ?_)
        refine sp rfl (OpT.int2 rfl rfl (dl rfl rfl) rfl rfl ?_)
        refine sp rfl (OpT.nilCheck rfl (dl rfl rfl) rfl rfl ?_)
        refine sp rfl (OpT.fieldPtr rfl (dl rfl rfl) Tryd.underlying88 rfl i3 (by decide) rfl ?_)
        refine sp rfl (OpT.storeTo (i := 0) (cells' := [.d (.str x0.s), .d (.int .i64 (IntKind.i64.wrap (x0.at_ + (1 : Int)))), .d (.ex wx0c2), .d (.int .i64 x0.deep), .d (.int .i64 x0.e), .d (.int .i64 x0.where_)]) rfl rfl i3 rfl rfl rfl (Nat.le_of_ble_eq_true rfl) rfl ?_)
        refine TL'.nil (thenS_normal ?_)
        refine T.seq ?_
        refine T.regionL ?_
        refine mv rfl rfl rfl rfl rfl ?_
        refine sp rfl (OpT.buildSlice (elems := ([(10 : Int)] : List Int).map (cI .u8)) rfl (dl rfl rfl) Tryd.underlying32 i5 (by decide) rfl (all1 rfl) rfl rfl rfl (lenAll rfl) (by decide) ?_)
        obtain ⟨v_298, e_299, h⟩ := bind_some h
        refine sp rfl (OpT.callPA rfl (dl rfl rfl) Tryd.func19 rfl rfl (Args.cons rfl Args.nil) (CallR.nil (r1_Of_T K (flx0 := true) e_299)) ?_)
        obtain ⟨v_300, e_301, h⟩ := bind_some h
        refine sp rfl (OpT.callPA rfl (dl rfl rfl) Tryd.func34 rfl rfl (Args.cons rfl Args.nil) (CallR.nil (r1_Not_T K e_301)) ?_)
        refine sp rfl (OpT.thenTurn (OpT.build (l := [.int .u8 (2 : Int), .int .u64 v_300.a0, .int .u64 v_300.a1, .int .u64 v_300.a2, .int .u64 v_300.a3, .ex (.slice none 0 0), .int .i64 (0 : Int), .int .i64 (0 : Int), .str (⟨#[]⟩ : ByteArray)]) rfl (dl rfl rfl) (built_struct (pl := [(0, 1), (1, 4), (5, 1), (6, 1), (7, 1), (8, 1)]) Tryd.underlying42 i42 rfl) (all1 rfl) rfl rfl rfl) (Turn.weakSlotP 38 (l := [.int .u8 (2 : Int), .int .u64 v_300.a0, .int .u64 v_300.a1, .int .u64 v_300.a2, .int .u64 v_300.a3, .ex (.slice none 0 0), .int .i64 (0 : Int), .int .i64 (0 : Int), .str (⟨#[]⟩ : ByteArray)]) (l' := [.int .u8 (2 : Int), .int .u64 v_300.a0, .int .u64 v_300.a1, .int .u64 v_300.a2, .int .u64 v_300.a3, .sl false 1 (([] : List Int).map (cI .i64)), .int .i64 (0 : Int), .int .i64 (0 : Int), .str (⟨#[]⟩ : ByteArray)]) (.cons (.same _) (.cons (.same _) (.cons (.same _) (.cons (.same _) (.cons (.same _) (.cons (.nil _ _) (.cons (.same _) (.cons (.same _) (.cons (.same _) (.refl _))))))))))) ?_)
        obtain ⟨v_302, e_303, h⟩ := bind_some h
        refine sp rfl (OpT.callG (is := [0, 1]) (ph := []) rfl (dl rfl rfl) Tryd.func65 rfl rfl (Args.cons rfl (Args.cons rfl Args.nil)) (r4r_put_T K (bx0 := bx0) (wx0c2 := wx0c2) e_303) (.cons rfl rfl (.cons rfl rfl (.nil))) (fun _ => rfl) (fun γ_304 => ?_))
        refine nm (.c (.c (.n))) ?_
        refine asg rfl rfl rfl rfl rfl ?_
        refine TL'.nil (thenS_normal ?_)
        refine T.ret (inBlock_ret (thenS_ret ?_))
        exact Fin.doneK (.cons _ _ _ _ (.tmp 2 _ rfl) .nil) (.cons 0 rfl (.cons 0 rfl (.nil _))) (by cases h; exact ⟨gl [γ_304 0], rfl, rfl⟩)
      · refine T.condF rfl c_297 ?_
        refine T.seq ?_
        refine DG.start ?_
        refine DG.mv rfl rfl rfl rfl rfl rfl ?_
        refine DG.step (c := ⟨some 42, .bool ((bt x0.s x0.at_) == (123 : Int)), [(41, .int .u8 (bt x0.s x0.at_))], [], []⟩) (fun t hm => One.step rfl (.free rfl) (OpT.int2 rfl rfl (dl rfl rfl) hm.s0 rfl rfl)) (Ct.met_of rfl rfl) ?_
        refine DG.mv rfl rfl rfl rfl rfl rfl ?_
        rcases bif_some h with ⟨c_311, h⟩ | ⟨c_311, h⟩
        · refine DG.step (c := ⟨some 44, .ptr bx0 0, [(0, .ptr bx0 0), (43, .bool ((bt x0.s x0.at_) == (123 : Int)))], [], []⟩) (fun t hm => One.step rfl (.on rfl rfl hm.s1 c_311) (OpT.move rfl (dl rfl rfl) hm.s0 rfl)) (Ct.met_of rfl rfl) ?_
          refine DG.step (c := ⟨some 45, .ptr bx0 0, [(44, .ptr bx0 0), (43, .bool ((bt x0.s x0.at_) == (123 : Int)))], [], []⟩) (fun t hm => One.step rfl (.on rfl rfl hm.s1 c_311) (OpT.nilCheck rfl (dl rfl rfl) hm.s0 rfl rfl)) (Ct.met_of rfl rfl) ?_
          refine DG.step (c := ⟨some 46, .ptr bx0 (0 + 1), [(45, .ptr bx0 0), (43, .bool ((bt x0.s x0.at_) == (123 : Int)))], [], []⟩) (fun t hm => One.step rfl (.on rfl rfl hm.s1 c_311) (OpT.fieldPtr rfl (dl rfl rfl) Tryd.underlying88 rfl i3 (by decide) hm.s0 rfl)) (Ct.met_of rfl rfl) ?_
          refine DG.step (c := ⟨some 47, .int .i64 x0.at_, [(46, .ptr bx0 (0 + 1)), (43, .bool ((bt x0.s x0.at_) == (123 : Int)))], [(0, .box bx0 88 [.d (.str x0.s), .d (.int .i64 x0.at_), .d (.ex wx0c2), .d (.int .i64 x0.deep), .d (.int .i64 x0.e), .d (.int .i64 x0.where_)])], []⟩) (fun t hm => One.step rfl (.on rfl rfl hm.s1 c_311) (OpT.loadBox (i := 0) rfl (dl rfl rfl) Tryd.underlying3 rfl hm.s0 hm.o0 rfl rfl)) (Ct.met_of rfl rfl) ?_
          refine DG.step (c := ⟨some 48, .int .i64 (IntKind.i64.wrap (x0.at_ + (1 : Int))), [(47, .int .i64 x0.at_), (43, .bool ((bt x0.s x0.at_) == (123 : Int)))], [], []⟩) (fun t hm => One.step rfl (.on rfl rfl hm.s1 c_311) (OpT.int2 rfl rfl (dl rfl rfl) hm.s0 rfl rfl)) (Ct.met_of rfl rfl) ?_
          refine DG.step (c := ⟨some 49, .ptr bx0 0, [(0, .ptr bx0 0), (43, .bool ((bt x0.s x0.at_) == (123 : Int)))], [], []⟩) (fun t hm => One.step rfl (.on rfl rfl hm.s1 c_311) (OpT.move rfl (dl rfl rfl) hm.s0 rfl)) (Ct.met_of rfl rfl) ?_
          refine DG.step (c := ⟨some 50, .ptr bx0 0, [(49, .ptr bx0 0), (43, .bool ((bt x0.s x0.at_) == (123 : Int)))], [], []⟩) (fun t hm => One.step rfl (.on rfl rfl hm.s1 c_311) (OpT.nilCheck rfl (dl rfl rfl) hm.s0 rfl rfl)) (Ct.met_of rfl rfl) ?_
          refine DG.step (c := ⟨some 51, .ptr bx0 (0 + 0), [(50, .ptr bx0 0), (43, .bool ((bt x0.s x0.at_) == (123 : Int)))], [], []⟩) (fun t hm => One.step rfl (.on rfl rfl hm.s1 c_311) (OpT.fieldPtr rfl (dl rfl rfl) Tryd.underlying88 rfl i9 (by decide) hm.s0 rfl)) (Ct.met_of rfl rfl) ?_
          refine DG.step (c := ⟨some 52, .str x0.s, [(51, .ptr bx0 (0 + 0)), (43, .bool ((bt x0.s x0.at_) == (123 : Int)))], [(0, .box bx0 88 [.d (.str x0.s), .d (.int .i64 x0.at_), .d (.ex wx0c2), .d (.int .i64 x0.deep), .d (.int .i64 x0.e), .d (.int .i64 x0.where_)])], []⟩) (fun t hm => One.step rfl (.on rfl rfl hm.s1 c_311) (OpT.loadBox (i := 0) rfl (dl rfl rfl) Tryd.underlying9 rfl hm.s0 hm.o0 rfl rfl)) (Ct.met_of rfl rfl) ?_
          refine DG.step (c := ⟨some 53, .int .i64 (x0.s.size : Int), [(52, .str x0.s), (43, .bool ((bt x0.s x0.at_) == (123 : Int)))], [], []⟩) (fun t hm => One.step rfl (.on rfl rfl hm.s1 c_311) (OpT.lenStr rfl (dl rfl rfl) Tryd.underlying9 hm.s0 rfl)) (Ct.met_of rfl rfl) ?_
          refine DG.step (c := ⟨some 54, .bool (decide ((IntKind.i64.wrap (x0.at_ + (1 : Int))) ≥ (x0.s.size : Int))), [(48, .int .i64 (IntKind.i64.wrap (x0.at_ + (1 : Int)))), (53, .int .i64 (x0.s.size : Int)), (43, .bool ((bt x0.s x0.at_) == (123 : Int)))], [], []⟩) (fun t hm => One.step rfl (.on rfl rfl hm.s2 c_311) (OpT.int2 rfl rfl (dl rfl rfl) hm.s0 hm.s1 rfl)) (Ct.met_of rfl rfl) ?_
          refine DG.step (c := ⟨some 55, .bool (decide ((IntKind.i64.wrap (x0.at_ + (1 : Int))) ≥ (x0.s.size : Int))), [(54, .bool (decide ((IntKind.i64.wrap (x0.at_ + (1 : Int))) ≥ (x0.s.size : Int)))), (43, .bool ((bt x0.s x0.at_) == (123 : Int)))], [], []⟩) (fun t hm => One.step rfl (.on rfl rfl hm.s1 c_311) (OpT.move rfl (dl rfl rfl) hm.s0 rfl)) (Ct.met_of rfl rfl) ?_
          rcases bif_some h with ⟨c_312, h⟩ | ⟨c_312, h⟩
          · refine DG.off c_312 rfl rfl rfl rfl rfl rfl ?_
            refine DG.off c_312 rfl rfl rfl rfl rfl rfl ?_
            refine DG.off c_312 rfl rfl rfl rfl rfl rfl ?_
            refine DG.off c_312 rfl rfl rfl rfl rfl rfl ?_
            refine DG.off c_312 rfl rfl rfl rfl rfl rfl ?_
            refine DG.off c_312 rfl rfl rfl rfl rfl rfl ?_
            refine DG.off c_312 rfl rfl rfl rfl rfl rfl ?_
            refine DG.off c_312 rfl rfl rfl rfl rfl rfl ?_
            refine DG.off c_312 rfl rfl rfl rfl rfl rfl ?_
            refine DG.off c_312 rfl rfl rfl rfl rfl rfl ?_
            refine DG.off c_312 rfl rfl rfl rfl rfl rfl ?_
            refine DG.off c_312 rfl rfl rfl rfl rfl rfl ?_
            refine DG.step (c := ⟨some 68, .bool true, [(55, .bool (decide ((IntKind.i64.wrap (x0.at_ + (1 : Int))) ≥ (x0.s.size : Int)))), (43, .bool ((bt x0.s x0.at_) == (123 : Int)))], [], []⟩) (fun t hm => One.step rfl (.on rfl rfl hm.s1 c_311) (OpT.pickT rfl (dl rfl rfl) hm.s0 c_312 rfl rfl)) (Ct.met_of rfl rfl) ?_
            refine DG.step (c := ⟨some 69, .bool true, [(43, .bool ((bt x0.s x0.at_) == (123 : Int))), (68, .bool true)], [], []⟩) (fun t hm => One.step rfl (.free rfl) (OpT.pickT rfl (dl rfl rfl) hm.s0 c_311 hm.s1 rfl)) (Ct.met_of rfl rfl) ?_
            refine DG.step (c := ⟨some 40, .bool true, [(69, .bool true)], [], []⟩) (fun t hm => One.step rfl (.free rfl) (OpT.assign rfl (dl rfl rfl) hm.s0 rfl)) (Ct.met_of rfl rfl) ?_
            refine DG.fin (s1 := ⟨[(0, .ptr bx0 0), (3, .int .u8 (bt x0.s x0.at_)), (40, .bool true)], [.box bx0 88 [.d (.str x0.s), .d (.int .i64 x0.at_), .d (.ex wx0c2), .d (.int .i64 x0.deep), .d (.int .i64 x0.e), .d (.int .i64 x0.where_)], .arrA wx0c2 42 9 (x0.nodes.map c_api_Node)]⟩) (ms := [0, 1, 3, 7, 15, 31, 63, 127, 7, 263, 775, 1799, 3847, 8191, 16383, 32767, 65535, 131071, 262143, 32767, 557055, 1605631, 3702783, 7897087, 16777215, 33554431, 67108863, 134217727, 268435455, 536870911]) TrydMixed rfl (by kernel_rfl) (by kernel_rfl) (by kernel_rfl) (.cons rfl (.cons rfl (.cons rfl (.nil _)))) rfl (fun u hu => (thenS_normal (T.by_turn hu ?_)))
            refine T.condT rfl rfl ?_
            refine T.by_turn ?_ (r4r_atom_j0_T K rec_r4r_alternative hrec_r4r_alternative bx0 x0 wx0c2 h)
            exact Turn.rp (.cons rfl (.nil _)) (.c .z (.c .z (.n _)))
          · refine DG.step (c := ⟨some 56, .ptr bx0 0, [(0, .ptr bx0 0), (55, .bool (decide ((IntKind.i64.wrap (x0.at_ + (1 : Int))) ≥ (x0.s.size : Int))))], [], []⟩) (fun t hm => One.step rfl (.on rfl rfl hm.s1 c_312) (OpT.move rfl (dl rfl rfl) hm.s0 rfl)) (Ct.met_of rfl rfl) ?_
            refine DG.step (c := ⟨some 57, .ptr bx0 0, [(56, .ptr bx0 0), (55, .bool (decide ((IntKind.i64.wrap (x0.at_ + (1 : Int))) ≥ (x0.s.size : Int))))], [], []⟩) (fun t hm => One.step rfl (.on rfl rfl hm.s1 c_312) (OpT.nilCheck rfl (dl rfl rfl) hm.s0 rfl rfl)) (Ct.met_of rfl rfl) ?_
            refine DG.step (c := ⟨some 58, .ptr bx0 (0 + 0), [(57, .ptr bx0 0), (55, .bool (decide ((IntKind.i64.wrap (x0.at_ + (1 : Int))) ≥ (x0.s.size : Int))))], [], []⟩) (fun t hm => One.step rfl (.on rfl rfl hm.s1 c_312) (OpT.fieldPtr rfl (dl rfl rfl) Tryd.underlying88 rfl i9 (by decide) hm.s0 rfl)) (Ct.met_of rfl rfl) ?_
            refine DG.step (c := ⟨some 59, .str x0.s, [(58, .ptr bx0 (0 + 0)), (55, .bool (decide ((IntKind.i64.wrap (x0.at_ + (1 : Int))) ≥ (x0.s.size : Int))))], [(0, .box bx0 88 [.d (.str x0.s), .d (.int .i64 x0.at_), .d (.ex wx0c2), .d (.int .i64 x0.deep), .d (.int .i64 x0.e), .d (.int .i64 x0.where_)])], []⟩) (fun t hm => One.step rfl (.on rfl rfl hm.s1 c_312) (OpT.loadBox (i := 0) rfl (dl rfl rfl) Tryd.underlying9 rfl hm.s0 hm.o0 rfl rfl)) (Ct.met_of rfl rfl) ?_
            refine DG.step (c := ⟨some 60, .ptr bx0 0, [(0, .ptr bx0 0), (55, .bool (decide ((IntKind.i64.wrap (x0.at_ + (1 : Int))) ≥ (x0.s.size : Int))))], [], []⟩) (fun t hm => One.step rfl (.on rfl rfl hm.s1 c_312) (OpT.move rfl (dl rfl rfl) hm.s0 rfl)) (Ct.met_of rfl rfl) ?_
            refine DG.step (c := ⟨some 61, .ptr bx0 0, [(60, .ptr bx0 0), (55, .bool (decide ((IntKind.i64.wrap (x0.at_ + (1 : Int))) ≥ (x0.s.size : Int))))], [], []⟩) (fun t hm => One.step rfl (.on rfl rfl hm.s1 c_312) (OpT.nilCheck rfl (dl rfl rfl) hm.s0 rfl rfl)) (Ct.met_of rfl rfl) ?_
            refine DG.step (c := ⟨some 62, .ptr bx0 (0 + 1), [(61, .ptr bx0 0), (55, .bool (decide ((IntKind.i64.wrap (x0.at_ + (1 : Int))) ≥ (x0.s.size : Int))))], [], []⟩) (fun t hm => One.step rfl (.on rfl rfl hm.s1 c_312) (OpT.fieldPtr rfl (dl rfl rfl) Tryd.underlying88 rfl i3 (by decide) hm.s0 rfl)) (Ct.met_of rfl rfl) ?_
            refine DG.step (c := ⟨some 63, .int .i64 x0.at_, [(62, .ptr bx0 (0 + 1)), (55, .bool (decide ((IntKind.i64.wrap (x0.at_ + (1 : Int))) ≥ (x0.s.size : Int))))], [(0, .box bx0 88 [.d (.str x0.s), .d (.int .i64 x0.at_), .d (.ex wx0c2), .d (.int .i64 x0.deep), .d (.int .i64 x0.e), .d (.int .i64 x0.where_)])], []⟩) (fun t hm => One.step rfl (.on rfl rfl hm.s1 c_312) (OpT.loadBox (i := 0) rfl (dl rfl rfl) Tryd.underlying3 rfl hm.s0 hm.o0 rfl rfl)) (Ct.met_of rfl rfl) ?_
            refine DG.step (c := ⟨some 64, .int .i64 (IntKind.i64.wrap (x0.at_ + (1 : Int))), [(63, .int .i64 x0.at_), (55, .bool (decide ((IntKind.i64.wrap (x0.at_ + (1 : Int))) ≥ (x0.s.size : Int))))], [], []⟩) (fun t hm => One.step rfl (.on rfl rfl hm.s1 c_312) (OpT.int2 rfl rfl (dl rfl rfl) hm.s0 rfl rfl)) (Ct.met_of rfl rfl) ?_
            obtain ⟨g_316, h⟩ := ck_some h
            refine DG.step (c := ⟨some 65, .int .u8 (bt x0.s (IntKind.i64.wrap (x0.at_ + (1 : Int)))), [(59, .str x0.s), (64, .int .i64 (IntKind.i64.wrap (x0.at_ + (1 : Int)))), (55, .bool (decide ((IntKind.i64.wrap (x0.at_ + (1 : Int))) ≥ (x0.s.size : Int))))], [], []⟩) (fun t hm => One.step rfl (.on rfl rfl hm.s2 c_312) (OpT.indexStr rfl (dl rfl rfl) Tryd.underlying9 hm.s0 hm.s1 g_316.1 g_316.2 rfl)) (Ct.met_of rfl rfl) ?_
            obtain ⟨v_317, e_318, h⟩ := bind_some h
            refine DG.step (c := ⟨some 66, .bool v_317, [(65, .int .u8 (bt x0.s (IntKind.i64.wrap (x0.at_ + (1 : Int))))), (55, .bool (decide ((IntKind.i64.wrap (x0.at_ + (1 : Int))) ≥ (x0.s.size : Int))))], [], []⟩) (fun t hm => One.step rfl (.on rfl rfl hm.s1 c_312) (OpT.callPA rfl (dl rfl rfl) Tryd.func81 rfl rfl (Args.cons hm.s0 Args.nil) (CallR.nil (r4_digit_T K e_318)) rfl)) (Ct.met_of rfl rfl) ?_
            refine DG.step (c := ⟨some 67, .bool (!v_317), [(66, .bool v_317), (55, .bool (decide ((IntKind.i64.wrap (x0.at_ + (1 : Int))) ≥ (x0.s.size : Int))))], [], []⟩) (fun t hm => One.step rfl (.on rfl rfl hm.s1 c_312) (OpT.not rfl (dl rfl rfl) hm.s0 rfl)) (Ct.met_of rfl rfl) ?_
            refine DG.step (c := ⟨some 68, .bool (!v_317), [(55, .bool (decide ((IntKind.i64.wrap (x0.at_ + (1 : Int))) ≥ (x0.s.size : Int)))), (67, .bool (!v_317)), (43, .bool ((bt x0.s x0.at_) == (123 : Int)))], [], []⟩) (fun t hm => One.step rfl (.on rfl rfl hm.s2 c_311) (OpT.pickF rfl (dl rfl rfl) hm.s0 c_312 hm.s1 rfl)) (Ct.met_of rfl rfl) ?_
            refine DG.step (c := ⟨some 69, .bool (!v_317), [(43, .bool ((bt x0.s x0.at_) == (123 : Int))), (68, .bool (!v_317))], [], []⟩) (fun t hm => One.step rfl (.free rfl) (OpT.pickT rfl (dl rfl rfl) hm.s0 c_311 hm.s1 rfl)) (Ct.met_of rfl rfl) ?_
            refine DG.step (c := ⟨some 40, .bool (!v_317), [(69, .bool (!v_317))], [], []⟩) (fun t hm => One.step rfl (.free rfl) (OpT.assign rfl (dl rfl rfl) hm.s0 rfl)) (Ct.met_of rfl rfl) ?_
            refine DG.fin (s1 := ⟨[(0, .ptr bx0 0), (3, .int .u8 (bt x0.s x0.at_)), (40, .bool (!v_317))], [.box bx0 88 [.d (.str x0.s), .d (.int .i64 x0.at_), .d (.ex wx0c2), .d (.int .i64 x0.deep), .d (.int .i64 x0.e), .d (.int .i64 x0.where_)], .arrA wx0c2 42 9 (x0.nodes.map c_api_Node)]⟩) (ms := [0, 1, 3, 7, 15, 31, 63, 127, 7, 263, 775, 1799, 3847, 8191, 16383, 32767, 65535, 131071, 262143, 32767, 557055, 1605631, 3702783, 7897087, 16777215, 33554431, 67108863, 134217727, 268435455, 536870911]) TrydMixed rfl (by kernel_rfl) (by kernel_rfl) (by kernel_rfl) (.cons rfl (.cons rfl (.cons rfl (.nil _)))) rfl (fun u hu => (thenS_normal (T.by_turn hu ?_)))
            rcases bif_some h with ⟨c_319, h⟩ | ⟨c_319, h⟩
            · refine T.condT rfl c_319 ?_
              refine T.by_turn ?_ (r4r_atom_j0_T K rec_r4r_alternative hrec_r4r_alternative bx0 x0 wx0c2 h)
              exact Turn.rp (.cons rfl (.nil _)) (.c .z (.c .z (.n _)))
            · refine T.condF rfl c_319 ?_
              refine T.by_turn ?_ (r4r_atom_j1_T K rec_r4r_alternative hrec_r4r_alternative bx0 (bt x0.s x0.at_) x0 wx0c2 h)
              exact Turn.rp (.cons rfl (.cons rfl (.nil _))) (.c .z (.c .z (.n _)))
        · refine DG.off c_311 rfl rfl rfl rfl rfl rfl ?_
          refine DG.off c_311 rfl rfl rfl rfl rfl rfl ?_
          refine DG.off c_311 rfl rfl rfl rfl rfl rfl ?_
          refine DG.off c_311 rfl rfl rfl rfl rfl rfl ?_
          refine DG.off c_311 rfl rfl rfl rfl rfl rfl ?_
          refine DG.off c_311 rfl rfl rfl rfl rfl rfl ?_
          refine DG.off c_311 rfl rfl rfl rfl rfl rfl ?_
          refine DG.off c_311 rfl rfl rfl rfl rfl rfl ?_
          refine DG.off c_311 rfl rfl rfl rfl rfl rfl ?_
          refine DG.off c_311 rfl rfl rfl rfl rfl rfl ?_
          refine DG.off c_311 rfl rfl rfl rfl rfl rfl ?_
          refine DG.off c_311 rfl rfl rfl rfl rfl rfl ?_
          refine DG.gone rfl rfl rfl rfl rfl rfl ?_
          refine DG.gone rfl rfl rfl rfl rfl rfl ?_
          refine DG.gone rfl rfl rfl rfl rfl rfl ?_
          refine DG.gone rfl rfl rfl rfl rfl rfl ?_
          refine DG.gone rfl rfl rfl rfl rfl rfl ?_
          refine DG.gone rfl rfl rfl rfl rfl rfl ?_
          refine DG.gone rfl rfl rfl rfl rfl rfl ?_
          refine DG.gone rfl rfl rfl rfl rfl rfl ?_
          refine DG.gone rfl rfl rfl rfl rfl rfl ?_
          refine DG.gone rfl rfl rfl rfl rfl rfl ?_
          refine DG.gone rfl rfl rfl rfl rfl rfl ?_
          refine DG.gone rfl rfl rfl rfl rfl rfl ?_
          refine DG.off c_311 rfl rfl rfl rfl rfl rfl ?_
          refine DG.step (c := ⟨some 69, .bool false, [(43, .bool ((bt x0.s x0.at_) == (123 : Int)))], [], []⟩) (fun t hm => One.step rfl (.free rfl) (OpT.pickF rfl (dl rfl rfl) hm.s0 c_311 rfl rfl)) (Ct.met_of rfl rfl) ?_
          refine DG.step (c := ⟨some 40, .bool false, [(69, .bool false)], [], []⟩) (fun t hm => One.step rfl (.free rfl) (OpT.assign rfl (dl rfl rfl) hm.s0 rfl)) (Ct.met_of rfl rfl) ?_
          refine DG.fin (s1 := ⟨[(0, .ptr bx0 0), (3, .int .u8 (bt x0.s x0.at_)), (40, .bool false)], [.box bx0 88 [.d (.str x0.s), .d (.int .i64 x0.at_), .d (.ex wx0c2), .d (.int .i64 x0.deep), .d (.int .i64 x0.e), .d (.int .i64 x0.where_)], .arrA wx0c2 42 9 (x0.nodes.map c_api_Node)]⟩) (ms := [0, 1, 3, 7, 15, 31, 63, 127, 7, 263, 775, 1799, 3847, 8191, 16383, 32767, 65535, 131071, 262143, 32767, 557055, 1605631, 3702783, 7897087, 16777215, 33554431, 67108863, 134217727, 268435455, 536870911]) TrydMixed rfl (by kernel_rfl) (by kernel_rfl) (by kernel_rfl) (.cons rfl (.cons rfl (.cons rfl (.nil _)))) rfl (fun u hu => (thenS_normal (T.by_turn hu ?_)))
          refine T.condF rfl rfl ?_
          refine T.by_turn ?_ (r4r_atom_j1_T K rec_r4r_alternative hrec_r4r_alternative bx0 (bt x0.s x0.at_) x0 wx0c2 h)
          exact Turn.rp (.cons rfl (.cons rfl (.nil _))) (.c .z (.c .z (.n _)))

abbrev r4r_number_q (bx0 : Nat) (r : Int × r4r) : Exit → St → Prop := retS Tryd.prog Tryd.f107 (fun y t => ∃ γ : Nat → Value, y = (.int .i64 r.1) ∧ t = [.box bx0 88 [.d (.str r.2.s), .d (.int .i64 r.2.at_), .d (.ex (γ 0)), .d (.int .i64 r.2.deep), .d (.int .i64 r.2.e), .d (.int .i64 r.2.where_)], .arrA (γ 0) 42 9 (r.2.nodes.map c_api_Node)])

abbrev r4r_number_qs11111 (bx0 : Nat) (r : Int × r4r) : Exit → St → Prop := thenS (fun s' => T Tryd.prog 72 (Code.at [1, 1, 1, 1, 1] (codeOf Tryd.f107)) s' ((r4r_number_q bx0 r))) ((r4r_number_q bx0 r))

abbrev r4r_number_qs1111 (bx0 : Nat) (r : Int × r4r) : Exit → St → Prop := thenS (fun s' => T Tryd.prog 72 (Code.at [1, 1, 1, 1] (codeOf Tryd.f107)) s' ((r4r_number_q bx0 r))) ((r4r_number_q bx0 r))

abbrev r4r_number_qb0x1111 (bx0 : Nat) (r : Int × r4r) : Exit → St → Prop := inBlockS 0 ((r4r_number_qs1111 bx0 r))

abbrev r4r_number_ql11100 (bx0 : Nat) (r : Int × r4r) : Exit → St → Prop := thenS (fun s' => TL Tryd.prog 72 (Code.at [1, 1, 1, 0, 0, 0] (codeOf Tryd.f107)) s' ((r4r_number_qb0x1111 bx0 r))) ((r4r_number_qb0x1111 bx0 r))

abbrev r4r_number_qs1110001 (bx0 : Nat) (r : Int × r4r) : Exit → St → Prop := thenS (fun s' => T Tryd.prog 72 (Code.at [1, 1, 1, 0, 0, 0, 1] (codeOf Tryd.f107)) s' ((r4r_number_ql11100 bx0 r))) ((r4r_number_ql11100 bx0 r))

theorem r4r_number_j2_T {r : Int × r4r} (K : Nat) (bx0 : Nat) (y9000_2_0 : ByteArray) (y9000_2_1 : Int) (y9000_2_3 : Int) (y9000_2_4 : Int) (y9000_2_5 : Int) (y9000_2_2 : List api_Node) (w9000_2 : Value) (h : r4r_number_j2 K y9000_2_0 y9000_2_1 y9000_2_3 y9000_2_4 y9000_2_5 y9000_2_2 = some r) : T Tryd.prog 72 (Code.at [1, 1, 1, 1, 0, 1, 0] (codeOf Tryd.f107)) ⟨[], [.box bx0 88 [.d (.str y9000_2_0), .d (.int .i64 y9000_2_1), .d (.ex w9000_2), .d (.int .i64 y9000_2_3), .d (.int .i64 y9000_2_4), .d (.int .i64 y9000_2_5)], .arrA w9000_2 42 9 (y9000_2_2.map c_api_Node)]⟩ (r4r_number_qs11111 bx0 r) := by
  unfold r4r_number_j2 at h
  refine T.seq ?_
  refine T.regionL ?_
  refine asg rfl rfl rfl rfl rfl ?_
  refine TL'.nil (thenS_normal ?_)
  refine T.ret (thenS_ret ?_)
  exact Fin.doneK (.cons _ _ _ _ (.tmp 2 _ rfl) .nil) (.cons 0 rfl (.cons 0 rfl (.nil _))) (by cases h; exact ⟨gl [w9000_2], rfl, rfl⟩)

theorem r4r_number_j1_T {r : Int × r4r} (K : Nat) (bx0 : Nat) (x3_1_6 : Int) (x0 : r4r) (y0_1_0 : ByteArray) (y0_1_1 : Int) (y0_1_3 : Int) (y0_1_4 : Int) (y0_1_5 : Int) (y0_1_2 : List api_Node) (w0_1 : Value) (h : r4r_number_j1 K x3_1_6 x0 y0_1_0 y0_1_1 y0_1_3 y0_1_4 y0_1_5 y0_1_2 = some r) : T Tryd.prog 72 (Code.at [1, 1, 1, 0, 0, 0, 0, 1, 1] (codeOf Tryd.f107)) ⟨[(0, .ptr bx0 0), (3, .int .i64 x3_1_6), (4, .int .i64 x0.at_)], [.box bx0 88 [.d (.str y0_1_0), .d (.int .i64 y0_1_1), .d (.ex w0_1), .d (.int .i64 y0_1_3), .d (.int .i64 y0_1_4), .d (.int .i64 y0_1_5)], .arrA w0_1 42 9 (y0_1_2.map c_api_Node)]⟩ (r4r_number_qs1110001 bx0 r) := by
  unfold r4r_number_j1 at h
  refine T.exit (thenS_exit (thenS_exit (inBlock_exit (thenS_normal ?_))))
  refine T.seq ?_
  refine T.seq ?_
  refine T.regionL ?_
  refine mv rfl rfl rfl rfl rfl ?_
  refine sp rfl (OpT.nilCheck rfl (dl rfl rfl) rfl rfl ?_)
  refine sp rfl (OpT.fieldPtr rfl (dl rfl rfl) Tryd.underlying88 rfl i3 (by decide) rfl ?_)
  refine sp rfl (OpT.loadBox (i := 0) rfl (dl rfl rfl) Tryd.underlying3 rfl rfl rfl rfl ?_)
  refine mv rfl rfl rfl rfl rfl ?_
  refine sp rfl (OpT.int2 rfl rfl (dl rfl rfl) rfl rfl ?_)
  refine sp rfl (OpT.int2 rfl rfl (dl rfl rfl) rfl rfl ?_)
  refine mv rfl rfl rfl rfl rfl ?_
  rcases bif_some h with ⟨c_237, h⟩ | ⟨c_237, h⟩
  · refine TL'.passU (.off _ _ _ _ rfl rfl rfl c_237) (dl rfl rfl) ?_
    refine TL'.passU (.off _ _ _ _ rfl rfl rfl c_237) (dl rfl rfl) ?_
    refine TL'.passU (.off _ _ _ _ rfl rfl rfl c_237) (dl rfl rfl) ?_
    refine TL'.passU (.off _ _ _ _ rfl rfl rfl c_237) (dl rfl rfl) ?_
    refine TL'.passU (.off _ _ _ _ rfl rfl rfl c_237) (dl rfl rfl) ?_
    refine TL'.passU (.off _ _ _ _ rfl rfl rfl c_237) (dl rfl rfl) ?_
    refine TL'.passU (.off _ _ _ _ rfl rfl rfl c_237) (dl rfl rfl) ?_
    refine TL'.passU (.off _ _ _ _ rfl rfl rfl c_237) (dl rfl rfl) ?_
    refine TL'.passU (.gone _ _ _ rfl rfl rfl) (dl rfl rfl) ?_
    refine TL'.passU (.gone _ _ _ rfl rfl rfl) (dl rfl rfl) ?_
    refine TL'.passU (.gone _ _ _ rfl rfl rfl) (dl rfl rfl) ?_
    refine TL'.passU (.gone _ _ _ rfl rfl rfl) (dl rfl rfl) ?_
    refine TL'.passU (.gone _ _ _ rfl rfl rfl) (dl rfl rfl) ?_
    refine TL'.passU (.gone _ _ _ rfl rfl rfl) (dl rfl rfl) ?_
    refine TL'.passU (.gone _ _ _ rfl rfl rfl) (dl rfl rfl) ?_
    refine TL'.passU (.off _ _ _ _ rfl rfl rfl c_237) (dl rfl rfl) ?_
    refine sp rfl (OpT.pickT rfl (dl rfl rfl) rfl c_237 rfl ?_)
    refine TL'.nil (thenS_normal ?_)
    refine T.condT rfl rfl ?_
    refine T.by_turn ?_ (r4r_number_j2_T K bx0 y0_1_0 y0_1_1 y0_1_3 y0_1_4 y0_1_5 y0_1_2 w0_1 h)
    exact Turn.rp (.nil _) (.c .z (.c .z (.n _)))
  · refine TL'.step (.on rfl rfl rfl c_237) (OpT.move rfl (dl rfl rfl) rfl ?_)
    refine TL'.step (.on rfl rfl rfl c_237) (OpT.nilCheck rfl (dl rfl rfl) rfl rfl ?_)
    refine TL'.step (.on rfl rfl rfl c_237) (OpT.fieldPtr rfl (dl rfl rfl) Tryd.underlying88 rfl i9 (by decide) rfl ?_)
    refine TL'.step (.on rfl rfl rfl c_237) (OpT.loadBox (i := 0) rfl (dl rfl rfl) Tryd.underlying9 rfl rfl rfl rfl ?_)
    refine TL'.step (.on rfl rfl rfl c_237) (OpT.move rfl (dl rfl rfl) rfl ?_)
    obtain ⟨g_238, h⟩ := ck_some h
    refine TL'.step (.on rfl rfl rfl c_237) (OpT.indexStr rfl (dl rfl rfl) Tryd.underlying9 rfl rfl g_238.1 g_238.2 ?_)
    refine TL'.step (.on rfl rfl rfl c_237) (OpT.int2 rfl rfl (dl rfl rfl) rfl rfl ?_)
    refine TL'.step (.on rfl rfl rfl c_237) (OpT.move rfl (dl rfl rfl) rfl ?_)
    rcases bif_some h with ⟨c_239, h⟩ | ⟨c_239, h⟩
    · refine TL'.step (.on rfl rfl rfl c_239) (OpT.move rfl (dl rfl rfl) rfl ?_)
      refine TL'.step (.on rfl rfl rfl c_239) (OpT.nilCheck rfl (dl rfl rfl) rfl rfl ?_)
      refine TL'.step (.on rfl rfl rfl c_239) (OpT.fieldPtr rfl (dl rfl rfl) Tryd.underlying88 rfl i3 (by decide) rfl ?_)
      refine TL'.step (.on rfl rfl rfl c_239) (OpT.loadBox (i := 0) rfl (dl rfl rfl) Tryd.underlying3 rfl rfl rfl rfl ?_)
      refine TL'.step (.on rfl rfl rfl c_239) (OpT.move rfl (dl rfl rfl) rfl ?_)
      refine TL'.step (.on rfl rfl rfl c_239) (OpT.int2 rfl rfl (dl rfl rfl) rfl rfl ?_)
      refine TL'.step (.on rfl rfl rfl c_239) (OpT.int2 rfl rfl (dl rfl rfl) rfl rfl ?_)
      refine TL'.step (.on rfl rfl rfl c_237) (OpT.pickT rfl (dl rfl rfl) rfl c_239 rfl ?_)
      refine sp rfl (OpT.pickF rfl (dl rfl rfl) rfl c_237 rfl ?_)
      refine TL'.nil (thenS_normal ?_)
      rcases bif_some h with ⟨c_240, h⟩ | ⟨c_240, h⟩
      · refine T.condT rfl c_240 ?_
        refine T.by_turn ?_ (r4r_number_j2_T K bx0 y0_1_0 y0_1_1 y0_1_3 y0_1_4 y0_1_5 y0_1_2 w0_1 h)
        exact Turn.rp (.nil _) (.c .z (.c .z (.n _)))
      · refine T.condF rfl c_240 ?_
        refine T.skip (thenS_normal ?_)
        refine T.seq ?_
        refine T.regionL ?_
        refine mv rfl rfl rfl rfl rfl ?_
        refine asg rfl rfl rfl rfl rfl ?_
        refine TL'.nil (thenS_normal ?_)
        refine T.ret ?_
        exact Fin.doneK (.cons _ _ _ _ (.tmp 2 _ rfl) .nil) (.cons 0 rfl (.cons 0 rfl (.nil _))) (by cases h; exact ⟨gl [w0_1], rfl, rfl⟩)
    · refine TL'.passU (.off _ _ _ _ rfl rfl rfl c_239) (dl rfl rfl) ?_
      refine TL'.passU (.off _ _ _ _ rfl rfl rfl c_239) (dl rfl rfl) ?_
      refine TL'.passU (.off _ _ _ _ rfl rfl rfl c_239) (dl rfl rfl) ?_
      refine TL'.passU (.off _ _ _ _ rfl rfl rfl c_239) (dl rfl rfl) ?_
      refine TL'.passU (.off _ _ _ _ rfl rfl rfl c_239) (dl rfl rfl) ?_
      refine TL'.passU (.off _ _ _ _ rfl rfl rfl c_239) (dl rfl rfl) ?_
      refine TL'.passU (.off _ _ _ _ rfl rfl rfl c_239) (dl rfl rfl) ?_
      refine TL'.step (.on rfl rfl rfl c_237) (OpT.pickF rfl (dl rfl rfl) rfl c_239 rfl ?_)
      refine sp rfl (OpT.pickF rfl (dl rfl rfl) rfl c_237 rfl ?_)
      refine TL'.nil (thenS_normal ?_)
      refine T.condF rfl rfl ?_
      refine T.skip (thenS_normal ?_)
      refine T.seq ?_
      refine T.regionL ?_
      refine mv rfl rfl rfl rfl rfl ?_
      refine asg rfl rfl rfl rfl rfl ?_
      refine TL'.nil (thenS_normal ?_)
      refine T.ret ?_
      exact Fin.doneK (.cons _ _ _ _ (.tmp 2 _ rfl) .nil) (.cons 0 rfl (.cons 0 rfl (.nil _))) (by cases h; exact ⟨gl [w0_1], rfl, rfl⟩)

theorem r4r_number_l0_T {r : Int × r4r} (K : Nat) (bx0 : Nat) : ∀ (k : Nat), ∀ (x3_0_6 : Int) (x0 : r4r) (y0_0_0 : ByteArray) (y0_0_1 : Int) (y0_0_3 : Int) (y0_0_4 : Int) (y0_0_5 : Int) (y0_0_2 : List api_Node) (w0_0 : Value), r4r_number_l0 K k x3_0_6 x0 y0_0_0 y0_0_1 y0_0_3 y0_0_4 y0_0_5 y0_0_2 = some r → TL Tryd.prog 72 (Code.at [1, 1, 1, 0, 0, 0] (codeOf Tryd.f107)) ⟨[(0, .ptr bx0 0), (3, .int .i64 x3_0_6), (4, .int .i64 x0.at_)], [.box bx0 88 [.d (.str y0_0_0), .d (.int .i64 y0_0_1), .d (.ex w0_0), .d (.int .i64 y0_0_3), .d (.int .i64 y0_0_4), .d (.int .i64 y0_0_5)], .arrA w0_0 42 9 (y0_0_2.map c_api_Node)]⟩ (r4r_number_qb0x1111 bx0 r) := by
  intro k
  induction k with
  | zero =>
    intro x3_0_6 x0 y0_0_0 y0_0_1 y0_0_3 y0_0_4 y0_0_5 y0_0_2 w0_0 h
    cases (show (none : Option (Int × r4r)) = some r from h)
  | succ k ih =>
    intro x3_0_6 x0 y0_0_0 y0_0_1 y0_0_3 y0_0_4 y0_0_5 y0_0_2 w0_0 h
    rw [r4r_number_l0] at h
    refine TL.round ?_
    refine T.seq ?_
    refine T.seq ?_
    refine DGG.start ?_
    refine DGG.step (c := fun γ_222 => ⟨some 9, .ptr bx0 0, [(0, .ptr bx0 0)], [], []⟩) [] (fun _ _ _ => rfl) (fun γ_222 t hm => One.step rfl (.free rfl) (OpT.move rfl (dl rfl rfl) hm.s0 ⟨(fun _ => undef, 0), rfl⟩)) (fun γ_222 => Ct.met_of rfl rfl) ?_
    obtain ⟨v_229, e_230, h⟩ := bind_some h
    refine DGG.step (c := fun γ_222 => ⟨some 10, .bool v_229, [(9, .ptr bx0 0)], [(1, .arrA w0_0 42 9 (y0_0_2.map c_api_Node)), (0, .box bx0 88 [.d (.str y0_0_0), .d (.int .i64 y0_0_1), .d (.ex w0_0), .d (.int .i64 y0_0_3), .d (.int .i64 y0_0_4), .d (.int .i64 y0_0_5)])], [(0, .box bx0 88 [.d (.str ((r4r.mk y0_0_0 y0_0_1 y0_0_2 y0_0_3 y0_0_4 y0_0_5).s)), .d (.int .i64 ((r4r.mk y0_0_0 y0_0_1 y0_0_2 y0_0_3 y0_0_4 y0_0_5).at_)), .d (.ex ((γ_222 1).1 0)), .d (.int .i64 ((r4r.mk y0_0_0 y0_0_1 y0_0_2 y0_0_3 y0_0_4 y0_0_5).deep)), .d (.int .i64 ((r4r.mk y0_0_0 y0_0_1 y0_0_2 y0_0_3 y0_0_4 y0_0_5).e)), .d (.int .i64 ((r4r.mk y0_0_0 y0_0_1 y0_0_2 y0_0_3 y0_0_4 y0_0_5).where_))]), (1, .arrA ((γ_222 1).1 0) 42 9 (((r4r.mk y0_0_0 y0_0_1 y0_0_2 y0_0_3 y0_0_4 y0_0_5).nodes).map c_api_Node))]⟩) [1] (fun γ_222 γ' h => by simp only [h 1 (by decide)]) (fun γ_222 t hm => One.step rfl (.free rfl) (OpT.callG (is := [0, 1]) (ph := []) rfl (dl rfl rfl) Tryd.func49 rfl rfl (Args.cons hm.s0 Args.nil) (r4r_ends_T K (bx0 := bx0) (wx0c2 := w0_0) e_230) (.cons hm.o1 rfl (.cons hm.o0 rfl (.nil))) (fun _ => rfl) (fun g => ⟨(g, 0), rfl⟩))) (fun γ_222 => Ct.met_of rfl rfl) ?_
    refine DGG.step (c := fun γ_222 => ⟨some 11, .bool (!v_229), [(10, .bool v_229)], [], []⟩) [] (fun _ _ _ => rfl) (fun γ_222 t hm => One.step rfl (.free rfl) (OpT.not rfl (dl rfl rfl) hm.s0 ⟨(fun _ => undef, 0), rfl⟩)) (fun γ_222 => Ct.met_of rfl rfl) ?_
    refine DGG.step (c := fun γ_222 => ⟨some 12, .bool (!v_229), [(11, .bool (!v_229))], [], []⟩) [] (fun _ _ _ => rfl) (fun γ_222 t hm => One.step rfl (.free rfl) (OpT.move rfl (dl rfl rfl) hm.s0 ⟨(fun _ => undef, 0), rfl⟩)) (fun γ_222 => Ct.met_of rfl rfl) ?_
    rcases bif_some h with ⟨c_231, h⟩ | ⟨c_231, h⟩
    · refine DGG.step (c := fun γ_222 => ⟨some 13, .ptr bx0 0, [(0, .ptr bx0 0), (12, .bool (!v_229))], [], []⟩) [] (fun _ _ _ => rfl) (fun γ_222 t hm => One.step rfl (.on rfl rfl hm.s1 c_231) (OpT.move rfl (dl rfl rfl) hm.s0 ⟨(fun _ => undef, 0), rfl⟩)) (fun γ_222 => Ct.met_of rfl rfl) ?_
      refine DGG.step (c := fun γ_222 => ⟨some 14, .ptr bx0 0, [(13, .ptr bx0 0), (12, .bool (!v_229))], [], []⟩) [] (fun _ _ _ => rfl) (fun γ_222 t hm => One.step rfl (.on rfl rfl hm.s1 c_231) (OpT.nilCheck rfl (dl rfl rfl) hm.s0 rfl ⟨(fun _ => undef, 0), rfl⟩)) (fun γ_222 => Ct.met_of rfl rfl) ?_
      refine DGG.step (c := fun γ_222 => ⟨some 15, .ptr bx0 (0 + 0), [(14, .ptr bx0 0), (12, .bool (!v_229))], [], []⟩) [] (fun _ _ _ => rfl) (fun γ_222 t hm => One.step rfl (.on rfl rfl hm.s1 c_231) (OpT.fieldPtr rfl (dl rfl rfl) Tryd.underlying88 rfl i9 (by decide) hm.s0 ⟨(fun _ => undef, 0), rfl⟩)) (fun γ_222 => Ct.met_of rfl rfl) ?_
      refine DGG.step (c := fun γ_222 => ⟨some 16, .str ((r4r.mk y0_0_0 y0_0_1 y0_0_2 y0_0_3 y0_0_4 y0_0_5).s), [(15, .ptr bx0 (0 + 0)), (12, .bool (!v_229))], [(0, .box bx0 88 [.d (.str ((r4r.mk y0_0_0 y0_0_1 y0_0_2 y0_0_3 y0_0_4 y0_0_5).s)), .d (.int .i64 ((r4r.mk y0_0_0 y0_0_1 y0_0_2 y0_0_3 y0_0_4 y0_0_5).at_)), .d (.ex ((γ_222 1).1 0)), .d (.int .i64 ((r4r.mk y0_0_0 y0_0_1 y0_0_2 y0_0_3 y0_0_4 y0_0_5).deep)), .d (.int .i64 ((r4r.mk y0_0_0 y0_0_1 y0_0_2 y0_0_3 y0_0_4 y0_0_5).e)), .d (.int .i64 ((r4r.mk y0_0_0 y0_0_1 y0_0_2 y0_0_3 y0_0_4 y0_0_5).where_))])], []⟩) [1] (fun γ_222 γ' h => by simp only [h 1 (by decide)]) (fun γ_222 t hm => One.step rfl (.on rfl rfl hm.s1 c_231) (OpT.loadBox (i := 0) rfl (dl rfl rfl) Tryd.underlying9 rfl hm.s0 hm.o0 rfl ⟨(fun _ => undef, 0), rfl⟩)) (fun γ_222 => Ct.met_of rfl rfl) ?_
      refine DGG.step (c := fun γ_222 => ⟨some 17, .ptr bx0 0, [(0, .ptr bx0 0), (12, .bool (!v_229))], [], []⟩) [] (fun _ _ _ => rfl) (fun γ_222 t hm => One.step rfl (.on rfl rfl hm.s1 c_231) (OpT.move rfl (dl rfl rfl) hm.s0 ⟨(fun _ => undef, 0), rfl⟩)) (fun γ_222 => Ct.met_of rfl rfl) ?_
      refine DGG.step (c := fun γ_222 => ⟨some 18, .ptr bx0 0, [(17, .ptr bx0 0), (12, .bool (!v_229))], [], []⟩) [] (fun _ _ _ => rfl) (fun γ_222 t hm => One.step rfl (.on rfl rfl hm.s1 c_231) (OpT.nilCheck rfl (dl rfl rfl) hm.s0 rfl ⟨(fun _ => undef, 0), rfl⟩)) (fun γ_222 => Ct.met_of rfl rfl) ?_
      refine DGG.step (c := fun γ_222 => ⟨some 19, .ptr bx0 (0 + 1), [(18, .ptr bx0 0), (12, .bool (!v_229))], [], []⟩) [] (fun _ _ _ => rfl) (fun γ_222 t hm => One.step rfl (.on rfl rfl hm.s1 c_231) (OpT.fieldPtr rfl (dl rfl rfl) Tryd.underlying88 rfl i3 (by decide) hm.s0 ⟨(fun _ => undef, 0), rfl⟩)) (fun γ_222 => Ct.met_of rfl rfl) ?_
      refine DGG.step (c := fun γ_222 => ⟨some 20, .int .i64 ((r4r.mk y0_0_0 y0_0_1 y0_0_2 y0_0_3 y0_0_4 y0_0_5).at_), [(19, .ptr bx0 (0 + 1)), (12, .bool (!v_229))], [(0, .box bx0 88 [.d (.str ((r4r.mk y0_0_0 y0_0_1 y0_0_2 y0_0_3 y0_0_4 y0_0_5).s)), .d (.int .i64 ((r4r.mk y0_0_0 y0_0_1 y0_0_2 y0_0_3 y0_0_4 y0_0_5).at_)), .d (.ex ((γ_222 1).1 0)), .d (.int .i64 ((r4r.mk y0_0_0 y0_0_1 y0_0_2 y0_0_3 y0_0_4 y0_0_5).deep)), .d (.int .i64 ((r4r.mk y0_0_0 y0_0_1 y0_0_2 y0_0_3 y0_0_4 y0_0_5).e)), .d (.int .i64 ((r4r.mk y0_0_0 y0_0_1 y0_0_2 y0_0_3 y0_0_4 y0_0_5).where_))])], []⟩) [1] (fun γ_222 γ' h => by simp only [h 1 (by decide)]) (fun γ_222 t hm => One.step rfl (.on rfl rfl hm.s1 c_231) (OpT.loadBox (i := 0) rfl (dl rfl rfl) Tryd.underlying3 rfl hm.s0 hm.o0 rfl ⟨(fun _ => undef, 0), rfl⟩)) (fun γ_222 => Ct.met_of rfl rfl) ?_
      obtain ⟨g_232, h⟩ := ck_some h
      refine DGG.step (c := fun γ_222 => ⟨some 21, .int .u8 (bt ((r4r.mk y0_0_0 y0_0_1 y0_0_2 y0_0_3 y0_0_4 y0_0_5).s) ((r4r.mk y0_0_0 y0_0_1 y0_0_2 y0_0_3 y0_0_4 y0_0_5).at_)), [(16, .str ((r4r.mk y0_0_0 y0_0_1 y0_0_2 y0_0_3 y0_0_4 y0_0_5).s)), (20, .int .i64 ((r4r.mk y0_0_0 y0_0_1 y0_0_2 y0_0_3 y0_0_4 y0_0_5).at_)), (12, .bool (!v_229))], [], []⟩) [] (fun _ _ _ => rfl) (fun γ_222 t hm => One.step rfl (.on rfl rfl hm.s2 c_231) (OpT.indexStr rfl (dl rfl rfl) Tryd.underlying9 hm.s0 hm.s1 g_232.1 g_232.2 ⟨(fun _ => undef, 0), rfl⟩)) (fun γ_222 => Ct.met_of rfl rfl) ?_
      obtain ⟨v_233, e_234, h⟩ := bind_some h
      refine DGG.step (c := fun γ_222 => ⟨some 22, .bool v_233, [(21, .int .u8 (bt ((r4r.mk y0_0_0 y0_0_1 y0_0_2 y0_0_3 y0_0_4 y0_0_5).s) ((r4r.mk y0_0_0 y0_0_1 y0_0_2 y0_0_3 y0_0_4 y0_0_5).at_))), (12, .bool (!v_229))], [], []⟩) [] (fun _ _ _ => rfl) (fun γ_222 t hm => One.step rfl (.on rfl rfl hm.s1 c_231) (OpT.callPA rfl (dl rfl rfl) Tryd.func81 rfl rfl (Args.cons hm.s0 Args.nil) (CallR.nil (r4_digit_T K e_234)) ⟨(fun _ => undef, 0), rfl⟩)) (fun γ_222 => Ct.met_of rfl rfl) ?_
      refine DGG.step (c := fun γ_222 => ⟨some 23, .bool v_233, [(12, .bool (!v_229)), (22, .bool v_233)], [], []⟩) [] (fun _ _ _ => rfl) (fun γ_222 t hm => One.step rfl (.free rfl) (OpT.pickT rfl (dl rfl rfl) hm.s0 c_231 hm.s1 ⟨(fun _ => undef, 0), rfl⟩)) (fun γ_222 => Ct.met_of rfl rfl) ?_
      refine DGG.fin (s1 := fun γ_222 => ⟨[(0, .ptr bx0 0), (3, .int .i64 x3_0_6), (4, .int .i64 x0.at_), (13, .ptr bx0 0), (14, .ptr bx0 0), (15, .ptr bx0 (0 + 0)), (16, .str ((r4r.mk y0_0_0 y0_0_1 y0_0_2 y0_0_3 y0_0_4 y0_0_5).s)), (17, .ptr bx0 0), (18, .ptr bx0 0), (19, .ptr bx0 (0 + 1)), (20, .int .i64 ((r4r.mk y0_0_0 y0_0_1 y0_0_2 y0_0_3 y0_0_4 y0_0_5).at_)), (21, .int .u8 (bt ((r4r.mk y0_0_0 y0_0_1 y0_0_2 y0_0_3 y0_0_4 y0_0_5).s) ((r4r.mk y0_0_0 y0_0_1 y0_0_2 y0_0_3 y0_0_4 y0_0_5).at_))), (22, .bool v_233), (23, .bool v_233)], [.box bx0 88 [.d (.str ((r4r.mk y0_0_0 y0_0_1 y0_0_2 y0_0_3 y0_0_4 y0_0_5).s)), .d (.int .i64 ((r4r.mk y0_0_0 y0_0_1 y0_0_2 y0_0_3 y0_0_4 y0_0_5).at_)), .d (.ex ((γ_222 1).1 0)), .d (.int .i64 ((r4r.mk y0_0_0 y0_0_1 y0_0_2 y0_0_3 y0_0_4 y0_0_5).deep)), .d (.int .i64 ((r4r.mk y0_0_0 y0_0_1 y0_0_2 y0_0_3 y0_0_4 y0_0_5).e)), .d (.int .i64 ((r4r.mk y0_0_0 y0_0_1 y0_0_2 y0_0_3 y0_0_4 y0_0_5).where_))], .arrA ((γ_222 1).1 0) 42 9 (((r4r.mk y0_0_0 y0_0_1 y0_0_2 y0_0_3 y0_0_4 y0_0_5).nodes).map c_api_Node)]⟩) (ms := [0, 1, 3, 7, 15, 31, 63, 127, 15, 271, 783, 1807, 4095, 8191, 16383]) TrydMixed rfl (by kernel_rfl) (by kernel_rfl) (by kernel_rfl) (fun γ_222 => by kernel_rfl) (fun γ_222 => .cons rfl (.cons rfl (.cons rfl (.cons rfl (.cons rfl (.cons rfl (.cons rfl (.cons rfl (.cons rfl (.cons rfl (.cons rfl (.cons rfl (.cons rfl (.cons rfl (.nil _))))))))))))))) (fun _ => rfl) (fun γ_222 u hu => (thenS_normal (T.by_turn hu ?_)))
      rcases bif_some h with ⟨c_235, h⟩ | ⟨c_235, h⟩
      · refine T.condT rfl c_235 ?_
        refine T.skip (thenS_normal ?_)
        refine T.block ?_
        refine T.seq ?_
        refine DG.start ?_
        refine DG.mv rfl rfl rfl rfl rfl rfl ?_
        refine DG.step (c := ⟨some 25, .int .i64 (IntKind.i64.wrap (x3_0_6 * (10 : Int))), [(24, .int .i64 x3_0_6)], [], []⟩) (fun t hm => One.step rfl (.free rfl) (OpT.int2 rfl rfl (dl rfl rfl) hm.s0 rfl rfl)) (Ct.met_of rfl rfl) ?_
        refine DG.mv rfl rfl rfl rfl rfl rfl ?_
        refine DG.step (c := ⟨some 27, .ptr bx0 0, [(26, .ptr bx0 0)], [], []⟩) (fun t hm => One.step rfl (.free rfl) (OpT.nilCheck rfl (dl rfl rfl) hm.s0 rfl rfl)) (Ct.met_of rfl rfl) ?_
        refine DG.step (c := ⟨some 28, .ptr bx0 (0 + 0), [(27, .ptr bx0 0)], [], []⟩) (fun t hm => One.step rfl (.free rfl) (OpT.fieldPtr rfl (dl rfl rfl) Tryd.underlying88 rfl i9 (by decide) hm.s0 rfl)) (Ct.met_of rfl rfl) ?_
        refine DG.step (c := ⟨some 29, .str ((r4r.mk y0_0_0 y0_0_1 y0_0_2 y0_0_3 y0_0_4 y0_0_5).s), [(28, .ptr bx0 (0 + 0))], [(0, .box bx0 88 [.d (.str ((r4r.mk y0_0_0 y0_0_1 y0_0_2 y0_0_3 y0_0_4 y0_0_5).s)), .d (.int .i64 ((r4r.mk y0_0_0 y0_0_1 y0_0_2 y0_0_3 y0_0_4 y0_0_5).at_)), .d (.ex ((γ_222 1).1 0)), .d (.int .i64 ((r4r.mk y0_0_0 y0_0_1 y0_0_2 y0_0_3 y0_0_4 y0_0_5).deep)), .d (.int .i64 ((r4r.mk y0_0_0 y0_0_1 y0_0_2 y0_0_3 y0_0_4 y0_0_5).e)), .d (.int .i64 ((r4r.mk y0_0_0 y0_0_1 y0_0_2 y0_0_3 y0_0_4 y0_0_5).where_))])], []⟩) (fun t hm => One.step rfl (.free rfl) (OpT.loadBox (i := 0) rfl (dl rfl rfl) Tryd.underlying9 rfl hm.s0 hm.o0 rfl rfl)) (Ct.met_of rfl rfl) ?_
        refine DG.mv rfl rfl rfl rfl rfl rfl ?_
        refine DG.step (c := ⟨some 31, .ptr bx0 0, [(30, .ptr bx0 0)], [], []⟩) (fun t hm => One.step rfl (.free rfl) (OpT.nilCheck rfl (dl rfl rfl) hm.s0 rfl rfl)) (Ct.met_of rfl rfl) ?_
        refine DG.step (c := ⟨some 32, .ptr bx0 (0 + 1), [(31, .ptr bx0 0)], [], []⟩) (fun t hm => One.step rfl (.free rfl) (OpT.fieldPtr rfl (dl rfl rfl) Tryd.underlying88 rfl i3 (by decide) hm.s0 rfl)) (Ct.met_of rfl rfl) ?_
        refine DG.step (c := ⟨some 33, .int .i64 ((r4r.mk y0_0_0 y0_0_1 y0_0_2 y0_0_3 y0_0_4 y0_0_5).at_), [(32, .ptr bx0 (0 + 1))], [(0, .box bx0 88 [.d (.str ((r4r.mk y0_0_0 y0_0_1 y0_0_2 y0_0_3 y0_0_4 y0_0_5).s)), .d (.int .i64 ((r4r.mk y0_0_0 y0_0_1 y0_0_2 y0_0_3 y0_0_4 y0_0_5).at_)), .d (.ex ((γ_222 1).1 0)), .d (.int .i64 ((r4r.mk y0_0_0 y0_0_1 y0_0_2 y0_0_3 y0_0_4 y0_0_5).deep)), .d (.int .i64 ((r4r.mk y0_0_0 y0_0_1 y0_0_2 y0_0_3 y0_0_4 y0_0_5).e)), .d (.int .i64 ((r4r.mk y0_0_0 y0_0_1 y0_0_2 y0_0_3 y0_0_4 y0_0_5).where_))])], []⟩) (fun t hm => One.step rfl (.free rfl) (OpT.loadBox (i := 0) rfl (dl rfl rfl) Tryd.underlying3 rfl hm.s0 hm.o0 rfl rfl)) (Ct.met_of rfl rfl) ?_
        refine DG.step (c := ⟨some 34, .int .u8 (bt ((r4r.mk y0_0_0 y0_0_1 y0_0_2 y0_0_3 y0_0_4 y0_0_5).s) ((r4r.mk y0_0_0 y0_0_1 y0_0_2 y0_0_3 y0_0_4 y0_0_5).at_)), [(29, .str ((r4r.mk y0_0_0 y0_0_1 y0_0_2 y0_0_3 y0_0_4 y0_0_5).s)), (33, .int .i64 ((r4r.mk y0_0_0 y0_0_1 y0_0_2 y0_0_3 y0_0_4 y0_0_5).at_))], [], []⟩) (fun t hm => One.step rfl (.free rfl) (OpT.indexStr rfl (dl rfl rfl) Tryd.underlying9 hm.s0 hm.s1 g_232.1 g_232.2 rfl)) (Ct.met_of rfl rfl) ?_
        refine DG.step (c := ⟨some 35, .int .u8 (IntKind.u8.wrap ((bt ((r4r.mk y0_0_0 y0_0_1 y0_0_2 y0_0_3 y0_0_4 y0_0_5).s) ((r4r.mk y0_0_0 y0_0_1 y0_0_2 y0_0_3 y0_0_4 y0_0_5).at_)) - (48 : Int))), [(34, .int .u8 (bt ((r4r.mk y0_0_0 y0_0_1 y0_0_2 y0_0_3 y0_0_4 y0_0_5).s) ((r4r.mk y0_0_0 y0_0_1 y0_0_2 y0_0_3 y0_0_4 y0_0_5).at_)))], [], []⟩) (fun t hm => One.step rfl (.free rfl) (OpT.int2 rfl rfl (dl rfl rfl) hm.s0 rfl rfl)) (Ct.met_of rfl rfl) ?_
        refine DG.step (c := ⟨some 36, .int .i64 (IntKind.i64.wrap (IntKind.u8.wrap ((bt ((r4r.mk y0_0_0 y0_0_1 y0_0_2 y0_0_3 y0_0_4 y0_0_5).s) ((r4r.mk y0_0_0 y0_0_1 y0_0_2 y0_0_3 y0_0_4 y0_0_5).at_)) - (48 : Int)))), [(35, .int .u8 (IntKind.u8.wrap ((bt ((r4r.mk y0_0_0 y0_0_1 y0_0_2 y0_0_3 y0_0_4 y0_0_5).s) ((r4r.mk y0_0_0 y0_0_1 y0_0_2 y0_0_3 y0_0_4 y0_0_5).at_)) - (48 : Int))))], [], []⟩) (fun t hm => One.step rfl (.free rfl) (OpT.convInt rfl (dl rfl rfl) Tryd.underlying5 Tryd.underlying3 hm.s0 rfl)) (Ct.met_of rfl rfl) ?_
        refine DG.step (c := ⟨some 37, .int .i64 (IntKind.i64.wrap ((IntKind.i64.wrap (x3_0_6 * (10 : Int))) + (IntKind.i64.wrap (IntKind.u8.wrap ((bt ((r4r.mk y0_0_0 y0_0_1 y0_0_2 y0_0_3 y0_0_4 y0_0_5).s) ((r4r.mk y0_0_0 y0_0_1 y0_0_2 y0_0_3 y0_0_4 y0_0_5).at_)) - (48 : Int)))))), [(25, .int .i64 (IntKind.i64.wrap (x3_0_6 * (10 : Int)))), (36, .int .i64 (IntKind.i64.wrap (IntKind.u8.wrap ((bt ((r4r.mk y0_0_0 y0_0_1 y0_0_2 y0_0_3 y0_0_4 y0_0_5).s) ((r4r.mk y0_0_0 y0_0_1 y0_0_2 y0_0_3 y0_0_4 y0_0_5).at_)) - (48 : Int)))))], [], []⟩) (fun t hm => One.step rfl (.free rfl) (OpT.int2 rfl rfl (dl rfl rfl) hm.s0 hm.s1 rfl)) (Ct.met_of rfl rfl) ?_
        refine DG.step (c := ⟨some 38, .int .i64 (if (1000000 : Int) < (IntKind.i64.wrap ((IntKind.i64.wrap (x3_0_6 * (10 : Int))) + (IntKind.i64.wrap (IntKind.u8.wrap ((bt ((r4r.mk y0_0_0 y0_0_1 y0_0_2 y0_0_3 y0_0_4 y0_0_5).s) ((r4r.mk y0_0_0 y0_0_1 y0_0_2 y0_0_3 y0_0_4 y0_0_5).at_)) - (48 : Int)))))) then (1000000 : Int) else (IntKind.i64.wrap ((IntKind.i64.wrap (x3_0_6 * (10 : Int))) + (IntKind.i64.wrap (IntKind.u8.wrap ((bt ((r4r.mk y0_0_0 y0_0_1 y0_0_2 y0_0_3 y0_0_4 y0_0_5).s) ((r4r.mk y0_0_0 y0_0_1 y0_0_2 y0_0_3 y0_0_4 y0_0_5).at_)) - (48 : Int))))))), [(37, .int .i64 (IntKind.i64.wrap ((IntKind.i64.wrap (x3_0_6 * (10 : Int))) + (IntKind.i64.wrap (IntKind.u8.wrap ((bt ((r4r.mk y0_0_0 y0_0_1 y0_0_2 y0_0_3 y0_0_4 y0_0_5).s) ((r4r.mk y0_0_0 y0_0_1 y0_0_2 y0_0_3 y0_0_4 y0_0_5).at_)) - (48 : Int)))))))], [], []⟩) (fun t hm => One.step rfl (.free rfl) (OpT.min2 rfl (dl rfl rfl) hm.s0 rfl rfl)) (Ct.met_of rfl rfl) ?_
        refine DG.step (c := ⟨some 3, .int .i64 (if (1000000 : Int) < (IntKind.i64.wrap ((IntKind.i64.wrap (x3_0_6 * (10 : Int))) + (IntKind.i64.wrap (IntKind.u8.wrap ((bt ((r4r.mk y0_0_0 y0_0_1 y0_0_2 y0_0_3 y0_0_4 y0_0_5).s) ((r4r.mk y0_0_0 y0_0_1 y0_0_2 y0_0_3 y0_0_4 y0_0_5).at_)) - (48 : Int)))))) then (1000000 : Int) else (IntKind.i64.wrap ((IntKind.i64.wrap (x3_0_6 * (10 : Int))) + (IntKind.i64.wrap (IntKind.u8.wrap ((bt ((r4r.mk y0_0_0 y0_0_1 y0_0_2 y0_0_3 y0_0_4 y0_0_5).s) ((r4r.mk y0_0_0 y0_0_1 y0_0_2 y0_0_3 y0_0_4 y0_0_5).at_)) - (48 : Int))))))), [(38, .int .i64 (if (1000000 : Int) < (IntKind.i64.wrap ((IntKind.i64.wrap (x3_0_6 * (10 : Int))) + (IntKind.i64.wrap (IntKind.u8.wrap ((bt ((r4r.mk y0_0_0 y0_0_1 y0_0_2 y0_0_3 y0_0_4 y0_0_5).s) ((r4r.mk y0_0_0 y0_0_1 y0_0_2 y0_0_3 y0_0_4 y0_0_5).at_)) - (48 : Int)))))) then (1000000 : Int) else (IntKind.i64.wrap ((IntKind.i64.wrap (x3_0_6 * (10 : Int))) + (IntKind.i64.wrap (IntKind.u8.wrap ((bt ((r4r.mk y0_0_0 y0_0_1 y0_0_2 y0_0_3 y0_0_4 y0_0_5).s) ((r4r.mk y0_0_0 y0_0_1 y0_0_2 y0_0_3 y0_0_4 y0_0_5).at_)) - (48 : Int))))))))], [], []⟩) (fun t hm => One.step rfl (.free rfl) (OpT.assign rfl (dl rfl rfl) hm.s0 rfl)) (Ct.met_of rfl rfl) ?_
        refine DG.fin (s1 := ⟨[(0, .ptr bx0 0), (3, .int .i64 (if (1000000 : Int) < (IntKind.i64.wrap ((IntKind.i64.wrap (x3_0_6 * (10 : Int))) + (IntKind.i64.wrap (IntKind.u8.wrap ((bt ((r4r.mk y0_0_0 y0_0_1 y0_0_2 y0_0_3 y0_0_4 y0_0_5).s) ((r4r.mk y0_0_0 y0_0_1 y0_0_2 y0_0_3 y0_0_4 y0_0_5).at_)) - (48 : Int)))))) then (1000000 : Int) else (IntKind.i64.wrap ((IntKind.i64.wrap (x3_0_6 * (10 : Int))) + (IntKind.i64.wrap (IntKind.u8.wrap ((bt ((r4r.mk y0_0_0 y0_0_1 y0_0_2 y0_0_3 y0_0_4 y0_0_5).s) ((r4r.mk y0_0_0 y0_0_1 y0_0_2 y0_0_3 y0_0_4 y0_0_5).at_)) - (48 : Int)))))))), (4, .int .i64 x0.at_), (13, .ptr bx0 0), (14, .ptr bx0 0), (15, .ptr bx0 (0 + 0)), (16, .str ((r4r.mk y0_0_0 y0_0_1 y0_0_2 y0_0_3 y0_0_4 y0_0_5).s)), (17, .ptr bx0 0), (18, .ptr bx0 0), (19, .ptr bx0 (0 + 1)), (20, .int .i64 ((r4r.mk y0_0_0 y0_0_1 y0_0_2 y0_0_3 y0_0_4 y0_0_5).at_)), (21, .int .u8 (bt ((r4r.mk y0_0_0 y0_0_1 y0_0_2 y0_0_3 y0_0_4 y0_0_5).s) ((r4r.mk y0_0_0 y0_0_1 y0_0_2 y0_0_3 y0_0_4 y0_0_5).at_))), (22, .bool v_233)], [.box bx0 88 [.d (.str ((r4r.mk y0_0_0 y0_0_1 y0_0_2 y0_0_3 y0_0_4 y0_0_5).s)), .d (.int .i64 ((r4r.mk y0_0_0 y0_0_1 y0_0_2 y0_0_3 y0_0_4 y0_0_5).at_)), .d (.ex ((γ_222 1).1 0)), .d (.int .i64 ((r4r.mk y0_0_0 y0_0_1 y0_0_2 y0_0_3 y0_0_4 y0_0_5).deep)), .d (.int .i64 ((r4r.mk y0_0_0 y0_0_1 y0_0_2 y0_0_3 y0_0_4 y0_0_5).e)), .d (.int .i64 ((r4r.mk y0_0_0 y0_0_1 y0_0_2 y0_0_3 y0_0_4 y0_0_5).where_))], .arrA ((γ_222 1).1 0) 42 9 (((r4r.mk y0_0_0 y0_0_1 y0_0_2 y0_0_3 y0_0_4 y0_0_5).nodes).map c_api_Node)]⟩) (ms := [0, 1, 0, 4, 12, 28, 0, 64, 192, 448, 1020, 2044, 4092, 8191, 16383, 32767]) TrydMixed rfl (by kernel_rfl) (by kernel_rfl) (by kernel_rfl) (.cons rfl (.cons rfl (.cons rfl (.cons rfl (.cons rfl (.cons rfl (.cons rfl (.cons rfl (.cons rfl (.cons rfl (.cons rfl (.cons rfl (.cons rfl (.nil _)))))))))))))) rfl (fun u hu => (thenS_normal (T.by_turn hu ?_)))
        refine T.regionL ?_
        refine mv rfl rfl rfl rfl rfl ?_
        refine sp rfl (OpT.nilCheck rfl (dl rfl rfl) rfl rfl ?_)
        refine sp rfl (OpT.fieldPtr rfl (dl rfl rfl) Tryd.underlying88 rfl i3 (by decide) rfl ?_)
        refine sp rfl (OpT.loadBox (i := 0) rfl (dl rfl rfl) Tryd.underlying3 rfl rfl rfl rfl ?_)
        refine sp rfl (OpT.int2 rfl rfl (dl rfl rfl) rfl rfl ?_)
        refine sp rfl (OpT.nilCheck rfl (dl rfl rfl) rfl rfl ?_)
        refine sp rfl (OpT.fieldPtr rfl (dl rfl rfl) Tryd.underlying88 rfl i3 (by decide) rfl ?_)
        refine sp rfl (OpT.storeTo (i := 0) (cells' := [.d (.str ((r4r.mk y0_0_0 y0_0_1 y0_0_2 y0_0_3 y0_0_4 y0_0_5).s)), .d (.int .i64 (IntKind.i64.wrap ((r4r.mk y0_0_0 y0_0_1 y0_0_2 y0_0_3 y0_0_4 y0_0_5).at_ + (1 : Int)))), .d (.ex ((γ_222 1).1 0)), .d (.int .i64 ((r4r.mk y0_0_0 y0_0_1 y0_0_2 y0_0_3 y0_0_4 y0_0_5).deep)), .d (.int .i64 ((r4r.mk y0_0_0 y0_0_1 y0_0_2 y0_0_3 y0_0_4 y0_0_5).e)), .d (.int .i64 ((r4r.mk y0_0_0 y0_0_1 y0_0_2 y0_0_3 y0_0_4 y0_0_5).where_))]) rfl rfl i3 rfl rfl rfl (Nat.le_of_ble_eq_true rfl) rfl ?_)
        refine TL'.nil (inBlock_normal (thenS_normal ?_))
        refine TL.by_turn ?_ (ih (if (1000000 : Int) < (IntKind.i64.wrap ((IntKind.i64.wrap (x3_0_6 * (10 : Int))) + (IntKind.i64.wrap (IntKind.u8.wrap ((bt ((r4r.mk y0_0_0 y0_0_1 y0_0_2 y0_0_3 y0_0_4 y0_0_5).s) ((r4r.mk y0_0_0 y0_0_1 y0_0_2 y0_0_3 y0_0_4 y0_0_5).at_)) - (48 : Int)))))) then (1000000 : Int) else (IntKind.i64.wrap ((IntKind.i64.wrap (x3_0_6 * (10 : Int))) + (IntKind.i64.wrap (IntKind.u8.wrap ((bt ((r4r.mk y0_0_0 y0_0_1 y0_0_2 y0_0_3 y0_0_4 y0_0_5).s) ((r4r.mk y0_0_0 y0_0_1 y0_0_2 y0_0_3 y0_0_4 y0_0_5).at_)) - (48 : Int))))))) x0 ((r4r.mk y0_0_0 y0_0_1 y0_0_2 y0_0_3 y0_0_4 y0_0_5).s) (IntKind.i64.wrap ((r4r.mk y0_0_0 y0_0_1 y0_0_2 y0_0_3 y0_0_4 y0_0_5).at_ + (1 : Int))) ((r4r.mk y0_0_0 y0_0_1 y0_0_2 y0_0_3 y0_0_4 y0_0_5).deep) ((r4r.mk y0_0_0 y0_0_1 y0_0_2 y0_0_3 y0_0_4 y0_0_5).e) ((r4r.mk y0_0_0 y0_0_1 y0_0_2 y0_0_3 y0_0_4 y0_0_5).where_) ((r4r.mk y0_0_0 y0_0_1 y0_0_2 y0_0_3 y0_0_4 y0_0_5).nodes) ((γ_222 1).1 0) h)
        exact Turn.rp (.cons rfl (.cons rfl (.cons rfl (.nil _)))) (.c .z (.c .z (.n _)))
      · refine T.condF rfl c_235 ?_
        refine T.by_turn ?_ (r4r_number_j1_T K bx0 x3_0_6 x0 ((r4r.mk y0_0_0 y0_0_1 y0_0_2 y0_0_3 y0_0_4 y0_0_5).s) ((r4r.mk y0_0_0 y0_0_1 y0_0_2 y0_0_3 y0_0_4 y0_0_5).at_) ((r4r.mk y0_0_0 y0_0_1 y0_0_2 y0_0_3 y0_0_4 y0_0_5).deep) ((r4r.mk y0_0_0 y0_0_1 y0_0_2 y0_0_3 y0_0_4 y0_0_5).e) ((r4r.mk y0_0_0 y0_0_1 y0_0_2 y0_0_3 y0_0_4 y0_0_5).where_) ((r4r.mk y0_0_0 y0_0_1 y0_0_2 y0_0_3 y0_0_4 y0_0_5).nodes) ((γ_222 1).1 0) h)
        exact Turn.rp (.cons rfl (.cons rfl (.cons rfl (.nil _)))) (.c .z (.c .z (.n _)))
    · refine DGG.off c_231 rfl rfl rfl rfl rfl (fun _ => rfl) ?_
      refine DGG.off c_231 rfl rfl rfl rfl rfl (fun _ => rfl) ?_
      refine DGG.off c_231 rfl rfl rfl rfl rfl (fun _ => rfl) ?_
      refine DGG.off c_231 rfl rfl rfl rfl rfl (fun _ => rfl) ?_
      refine DGG.off c_231 rfl rfl rfl rfl rfl (fun _ => rfl) ?_
      refine DGG.off c_231 rfl rfl rfl rfl rfl (fun _ => rfl) ?_
      refine DGG.off c_231 rfl rfl rfl rfl rfl (fun _ => rfl) ?_
      refine DGG.off c_231 rfl rfl rfl rfl rfl (fun _ => rfl) ?_
      refine DGG.off c_231 rfl rfl rfl rfl rfl (fun _ => rfl) ?_
      refine DGG.off c_231 rfl rfl rfl rfl rfl (fun _ => rfl) ?_
      refine DGG.step (c := fun γ_222 => ⟨some 23, .bool false, [(12, .bool (!v_229))], [], []⟩) [] (fun _ _ _ => rfl) (fun γ_222 t hm => One.step rfl (.free rfl) (OpT.pickF rfl (dl rfl rfl) hm.s0 c_231 rfl ⟨(fun _ => undef, 0), rfl⟩)) (fun γ_222 => Ct.met_of rfl rfl) ?_
      refine DGG.fin (s1 := fun γ_222 => ⟨[(0, .ptr bx0 0), (3, .int .i64 x3_0_6), (4, .int .i64 x0.at_), (13, .tup []), (14, .tup []), (15, .tup []), (16, .tup []), (17, .tup []), (18, .tup []), (19, .tup []), (20, .tup []), (21, .tup []), (22, .tup []), (23, .bool false)], [.box bx0 88 [.d (.str ((r4r.mk y0_0_0 y0_0_1 y0_0_2 y0_0_3 y0_0_4 y0_0_5).s)), .d (.int .i64 ((r4r.mk y0_0_0 y0_0_1 y0_0_2 y0_0_3 y0_0_4 y0_0_5).at_)), .d (.ex ((γ_222 1).1 0)), .d (.int .i64 ((r4r.mk y0_0_0 y0_0_1 y0_0_2 y0_0_3 y0_0_4 y0_0_5).deep)), .d (.int .i64 ((r4r.mk y0_0_0 y0_0_1 y0_0_2 y0_0_3 y0_0_4 y0_0_5).e)), .d (.int .i64 ((r4r.mk y0_0_0 y0_0_1 y0_0_2 y0_0_3 y0_0_4 y0_0_5).where_))], .arrA ((γ_222 1).1 0) 42 9 (((r4r.mk y0_0_0 y0_0_1 y0_0_2 y0_0_3 y0_0_4 y0_0_5).nodes).map c_api_Node)]⟩) (ms := [0, 1, 3, 7, 15, 31, 63, 127, 15, 271, 783, 1807, 4095, 8191, 16383]) TrydMixed rfl (by kernel_rfl) (by kernel_rfl) (by kernel_rfl) (fun γ_222 => by kernel_rfl) (fun γ_222 => .cons rfl (.cons rfl (.cons rfl (.cons rfl (.cons rfl (.cons rfl (.cons rfl (.cons rfl (.cons rfl (.cons rfl (.cons rfl (.cons rfl (.cons rfl (.cons rfl (.nil _))))))))))))))) (fun _ => rfl) (fun γ_222 u hu => (thenS_normal (T.by_turn hu ?_)))
      refine T.condF rfl rfl ?_
      refine T.by_turn ?_ (r4r_number_j1_T K bx0 x3_0_6 x0 ((r4r.mk y0_0_0 y0_0_1 y0_0_2 y0_0_3 y0_0_4 y0_0_5).s) ((r4r.mk y0_0_0 y0_0_1 y0_0_2 y0_0_3 y0_0_4 y0_0_5).at_) ((r4r.mk y0_0_0 y0_0_1 y0_0_2 y0_0_3 y0_0_4 y0_0_5).deep) ((r4r.mk y0_0_0 y0_0_1 y0_0_2 y0_0_3 y0_0_4 y0_0_5).e) ((r4r.mk y0_0_0 y0_0_1 y0_0_2 y0_0_3 y0_0_4 y0_0_5).where_) ((r4r.mk y0_0_0 y0_0_1 y0_0_2 y0_0_3 y0_0_4 y0_0_5).nodes) ((γ_222 1).1 0) h)
      exact Turn.rp (.cons rfl (.cons rfl (.cons rfl (.nil _)))) (.c .z (.c .z (.n _)))

theorem r4r_number_T (K : Nat) {x0 : r4r} {bx0 : Nat} {wx0c2 : Value} {r : Int × r4r} (h : r4r_number K x0 = some r) : CallG Tryd.prog 107 [.ptr bx0 0] [.box bx0 88 [.d (.str x0.s), .d (.int .i64 x0.at_), .d (.ex wx0c2), .d (.int .i64 x0.deep), .d (.int .i64 x0.e), .d (.int .i64 x0.where_)], .arrA wx0c2 42 9 (x0.nodes.map c_api_Node)] (fun γ => (.int .i64 r.1)) (fun γ => [.box bx0 88 [.d (.str r.2.s), .d (.int .i64 r.2.at_), .d (.ex (γ 0)), .d (.int .i64 r.2.deep), .d (.int .i64 r.2.e), .d (.int .i64 r.2.where_)], .arrA (γ 0) 42 9 (r.2.nodes.map c_api_Node)]) := by
  refine CallT.intro Tryd.func107 rfl (Nat.le_of_ble_eq_true rfl) ?_
  show T Tryd.prog 72 (Code.at [] (codeOf Tryd.f107)) ⟨paramSlots 0 [.ptr bx0 0], [.box bx0 88 [.d (.str x0.s), .d (.int .i64 x0.at_), .d (.ex wx0c2), .d (.int .i64 x0.deep), .d (.int .i64 x0.e), .d (.int .i64 x0.where_)], .arrA wx0c2 42 9 (x0.nodes.map c_api_Node)]⟩ (r4r_number_q bx0 r)
  unfold r4r_number at h
  refine T.seq ?_
  refine T.regionL ?_
  refine asg rfl rfl rfl rfl rfl ?_
  refine TL'.nil (thenS_normal ?_)
  refine T.seq ?_
  refine T.regionL ?_
  refine asg rfl rfl rfl rfl rfl ?_
  refine TL'.nil (thenS_normal ?_)
  refine T.seq ?_
  refine T.regionL ?_
  refine mv rfl rfl rfl rfl rfl ?_
  refine sp rfl (OpT.nilCheck rfl (dl rfl rfl) rfl rfl ?_)
  refine sp rfl (OpT.fieldPtr rfl (dl rfl rfl) Tryd.underlying88 rfl i3 (by decide) rfl ?_)
  refine sp rfl (OpT.loadBox (i := 0) rfl (dl rfl rfl) Tryd.underlying3 rfl rfl rfl rfl ?_)
  refine asg rfl rfl rfl rfl rfl ?_
  refine TL'.nil (thenS_normal ?_)
  refine T.seq ?_
  refine T.block ?_
  refine T.loop ?_
  refine TL.by_turn ?_ (r4r_number_l0_T K bx0 K (0 : Int) x0 x0.s x0.at_ x0.deep x0.e x0.where_ x0.nodes wx0c2 h)
  exact Turn.rp (.cons rfl (.cons rfl (.cons rfl (.nil _)))) (.c .z (.c .z (.n _)))

end Go.Rv

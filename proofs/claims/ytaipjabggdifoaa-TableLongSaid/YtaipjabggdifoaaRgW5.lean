/- Each function computes what its plain text says: printed by a program of ours. -/
import Derived.Test.YtaipjabggdifoaaRgW4
namespace Go.Rv
open Go.Proofs
set_option maxRecDepth 100000
set_option maxHeartbeats 4000000
set_option linter.unusedVariables false

abbrev raddleref11_Of_q (r : api_Auto × Int) : Exit → St → Prop := retS Try.prog Try.f26 (fun y t => y = (.tup [.agg ((ArrN.dc 256 .u8 r.1.Split.Of) ++ (([.int .i64 r.1.Split.Many, .sl false 2 (r.1.Counts.map (Arr2.dc .i64)), .sl false 4 (r.1.States.map c_api_State)] : List DC))), .int .i64 r.2]) ∧ t = [])

abbrev raddleref11_Of_qs11111111 (r : api_Auto × Int) : Exit → St → Prop := thenS (fun s' => T Try.prog 198 (Code.at [1, 1, 1, 1, 1, 1, 1, 1] (codeOf Try.f26)) s' ((raddleref11_Of_q r))) ((raddleref11_Of_q r))

abbrev raddleref11_Of_qb2x11111111 (r : api_Auto × Int) : Exit → St → Prop := inBlockS 2 ((raddleref11_Of_qs11111111 r))

abbrev raddleref11_Of_ql1111111010 (r : api_Auto × Int) : Exit → St → Prop := thenS (fun s' => TL Try.prog 198 (Code.at [1, 1, 1, 1, 1, 1, 1, 0, 1, 0, 0] (codeOf Try.f26)) s' ((raddleref11_Of_qb2x11111111 r))) ((raddleref11_Of_qb2x11111111 r))

abbrev raddleref11_Of_qs1111111010011 (r : api_Auto × Int) : Exit → St → Prop := thenS (fun s' => T Try.prog 198 (Code.at [1, 1, 1, 1, 1, 1, 1, 0, 1, 0, 0, 1, 1] (codeOf Try.f26)) s' ((raddleref11_Of_ql1111111010 r))) ((raddleref11_Of_ql1111111010 r))

abbrev raddleref11_Of_qb3_2x1111111010011 (r : api_Auto × Int) : Exit → St → Prop := inBlockS 3 ((raddleref11_Of_qs1111111010011 r))

abbrev raddleref11_Of_qs111111101001001111 (r : api_Auto × Int) : Exit → St → Prop := thenS (fun s' => T Try.prog 198 (Code.at [1, 1, 1, 1, 1, 1, 1, 0, 1, 0, 0, 1, 0, 0, 1, 1, 1, 1] (codeOf Try.f26)) s' ((raddleref11_Of_qb3_2x1111111010011 r))) ((raddleref11_Of_qb3_2x1111111010011 r))

abbrev raddleref11_Of_qb4_3_2x111111101001001111 (r : api_Auto × Int) : Exit → St → Prop := inBlockS 4 ((raddleref11_Of_qs111111101001001111 r))

abbrev raddleref11_Of_ql11111110100100111010 (r : api_Auto × Int) : Exit → St → Prop := thenS (fun s' => TL Try.prog 198 (Code.at [1, 1, 1, 1, 1, 1, 1, 0, 1, 0, 0, 1, 0, 0, 1, 1, 1, 0, 1, 0, 0] (codeOf Try.f26)) s' ((raddleref11_Of_qb4_3_2x111111101001001111 r))) ((raddleref11_Of_qb4_3_2x111111101001001111 r))

abbrev raddleref11_Of_qs11111110100100111010011 (r : api_Auto × Int) : Exit → St → Prop := thenS (fun s' => T Try.prog 198 (Code.at [1, 1, 1, 1, 1, 1, 1, 0, 1, 0, 0, 1, 0, 0, 1, 1, 1, 0, 1, 0, 0, 1, 1] (codeOf Try.f26)) s' ((raddleref11_Of_ql11111110100100111010 r))) ((raddleref11_Of_ql11111110100100111010 r))

abbrev raddleref11_Of_qb5_4_3_2x11111110100100111010011 (r : api_Auto × Int) : Exit → St → Prop := inBlockS 5 ((raddleref11_Of_qs11111110100100111010011 r))

abbrev raddleref11_Of_qs111111101001001110100100111 (r : api_Auto × Int) : Exit → St → Prop := thenS (fun s' => T Try.prog 198 (Code.at [1, 1, 1, 1, 1, 1, 1, 0, 1, 0, 0, 1, 0, 0, 1, 1, 1, 0, 1, 0, 0, 1, 0, 0, 1, 1, 1] (codeOf Try.f26)) s' ((raddleref11_Of_qb5_4_3_2x11111110100100111010011 r))) ((raddleref11_Of_qb5_4_3_2x11111110100100111010011 r))

abbrev raddleref11_Of_qb6_5_4_3_2x111111101001001110100100111 (r : api_Auto × Int) : Exit → St → Prop := inBlockS 6 ((raddleref11_Of_qs111111101001001110100100111 r))

abbrev raddleref11_Of_qs11111 (r : api_Auto × Int) : Exit → St → Prop := thenS (fun s' => T Try.prog 198 (Code.at [1, 1, 1, 1, 1] (codeOf Try.f26)) s' ((raddleref11_Of_q r))) ((raddleref11_Of_q r))

abbrev raddleref11_Of_qb0x11111 (r : api_Auto × Int) : Exit → St → Prop := inBlockS 0 ((raddleref11_Of_qs11111 r))

abbrev raddleref11_Of_l2_H (r : api_Auto × Int) (go : Int → Int → Int → ArrN → (List Arr2) → (List api_State) → (List Int) → (List api_Pos) → ArrN → Int → Int → (List Int) → (List Arr2) → (List api_State) → (List Int) → (List (List api_Move)) → Option (api_Auto × Int)) : Prop := ∀ (x7_2_12 : Int) (x8_2_13 : Int) (x11_2_16 : Int) (y2_0_2 : ArrN) (y2_2_2 : List Arr2) (y2_2_3 : List api_State) (y4_2_4 : List Int) (y4_2_5 : List api_Pos) (y4_2_7 : ArrN) (y4_2_8 : Int) (y4_2_11 : Int) (y4_2_6 : List Int) (y4_2_9 : List Arr2) (y4_2_10 : List api_State) (y9_2_14 : List Int) (y10_2_15 : List (List api_Move)) (b2_2 : Nat) (w2_2 : Value) (w2_2a : Value) (b4_2 : Nat) (w4_2 : Value) (w4_2a : Value) (w4_2aa : Value) (w9_2 : Value) (w10_2 : Value), go x7_2_12 x8_2_13 x11_2_16 y2_0_2 y2_2_2 y2_2_3 y4_2_4 y4_2_5 y4_2_7 y4_2_8 y4_2_11 y4_2_6 y4_2_9 y4_2_10 y9_2_14 y10_2_15 = some r → TL Try.prog 198 (Code.at [1, 1, 1, 1, 1, 1, 1, 0, 1, 0, 0, 1, 0, 0, 1, 1, 1, 0, 1, 0, 0] (codeOf Try.f26)) ⟨[(2, .ptr b2_2 0), (4, .ptr b4_2 0), (7, .int .i64 x7_2_12), (8, .int .i64 x8_2_13), (9, .c (.ex w9_2)), (10, .c (.ex w10_2)), (11, .int .i64 x11_2_16)], [.box b2_2 28 ((ArrN.oc 256 .u8 y2_0_2) ++ (([.d (.int .i64 (0 : Int)), .d (.ex w2_2), .d (.ex w2_2a)] : List OC))), .arrA w2_2 42 2 (y2_2_2.map (Arr2.dc .i64)), .arrX w2_2a 59 4 0 (y2_2_3.map c_api_State), .box b4_2 98 (([.d (.sl false 1 (y4_2_4.map (cI .i64))), .d (.sl false 9 (y4_2_5.map c_api_Pos)), .d (.ex w4_2)] : List OC) ++ ((ArrN.oc 256 .u8 y4_2_7) ++ (([.d (.int .i64 y4_2_8), .d (.ex w4_2a), .d (.ex w4_2aa), .d (.int .i64 y4_2_11)] : List OC)))), .arrA w4_2 3 1 (y4_2_6.map (cI .i64)), .arrA w4_2a 42 2 (y4_2_9.map (Arr2.dc .i64)), .arrX w4_2aa 59 4 0 (y4_2_10.map c_api_State), .arrA w9_2 3 1 (y9_2_14.map (cI .i64)), .arrA w10_2 61 1 (y10_2_15.map (cL 2 c_api_Move))]⟩ (raddleref11_Of_qb4_3_2x111111101001001111 r)

theorem raddleref11_Of_l3_T {r : api_Auto × Int} (K : Nat) (go2 : Int → Int → Int → ArrN → (List Arr2) → (List api_State) → (List Int) → (List api_Pos) → ArrN → Int → Int → (List Int) → (List Arr2) → (List api_State) → (List Int) → (List (List api_Move)) → Option (api_Auto × Int)) (hgo2 : raddleref11_Of_l2_H r go2) : ∀ (k : Nat), ∀ (x7_3_12 : Int) (x8_3_13 : Int) (x11_3_16 : Int) (x13_3_18 : Int) (y2_0_2 : ArrN) (y2_3_2 : List Arr2) (y2_3_3 : List api_State) (y4_3_4 : List Int) (y4_3_5 : List api_Pos) (y4_3_7 : ArrN) (y4_3_8 : Int) (y4_3_11 : Int) (y4_3_6 : List Int) (y4_3_9 : List Arr2) (y4_3_10 : List api_State) (y9_3_14 : List Int) (y10_3_15 : List (List api_Move)) (y12_3_17 : List api_Move) (b2_3 : Nat) (w2_3 : Value) (w2_3a : Value) (b4_3 : Nat) (w4_3 : Value) (w4_3a : Value) (w4_3aa : Value) (w9_3 : Value) (w10_3 : Value) (w12_3 : Value), raddleref11_Of_l3 K go2 k x7_3_12 x8_3_13 x11_3_16 x13_3_18 y2_0_2 y2_3_2 y2_3_3 y4_3_4 y4_3_5 y4_3_7 y4_3_8 y4_3_11 y4_3_6 y4_3_9 y4_3_10 y9_3_14 y10_3_15 y12_3_17 = some r → TL Try.prog 198 (Code.at [1, 1, 1, 1, 1, 1, 1, 0, 1, 0, 0, 1, 0, 0, 1, 1, 1, 0, 1, 0, 0, 1, 0, 0, 1, 1, 0, 1, 0, 0] (codeOf Try.f26)) ⟨[(2, .ptr b2_3 0), (4, .ptr b4_3 0), (7, .int .i64 x7_3_12), (8, .int .i64 x8_3_13), (9, .c (.ex w9_3)), (10, .c (.ex w10_3)), (11, .int .i64 x11_3_16), (12, .c (.ex w12_3)), (13, .int .i64 x13_3_18)], [.box b2_3 28 ((ArrN.oc 256 .u8 y2_0_2) ++ (([.d (.int .i64 (0 : Int)), .d (.ex w2_3), .d (.ex w2_3a)] : List OC))), .arrA w2_3 42 2 (y2_3_2.map (Arr2.dc .i64)), .arrX w2_3a 59 4 0 (y2_3_3.map c_api_State), .box b4_3 98 (([.d (.sl false 1 (y4_3_4.map (cI .i64))), .d (.sl false 9 (y4_3_5.map c_api_Pos)), .d (.ex w4_3)] : List OC) ++ ((ArrN.oc 256 .u8 y4_3_7) ++ (([.d (.int .i64 y4_3_8), .d (.ex w4_3a), .d (.ex w4_3aa), .d (.int .i64 y4_3_11)] : List OC)))), .arrA w4_3 3 1 (y4_3_6.map (cI .i64)), .arrA w4_3a 42 2 (y4_3_9.map (Arr2.dc .i64)), .arrX w4_3aa 59 4 0 (y4_3_10.map c_api_State), .arrA w9_3 3 1 (y9_3_14.map (cI .i64)), .arrA w10_3 61 1 (y10_3_15.map (cL 2 c_api_Move)), .arrA w12_3 63 2 (y12_3_17.map c_api_Move)]⟩ (raddleref11_Of_qb6_5_4_3_2x111111101001001110100100111 r) := by
  intro k
  induction k with
  | zero =>
    intro x7_3_12 x8_3_13 x11_3_16 x13_3_18 y2_0_2 y2_3_2 y2_3_3 y4_3_4 y4_3_5 y4_3_7 y4_3_8 y4_3_11 y4_3_6 y4_3_9 y4_3_10 y9_3_14 y10_3_15 y12_3_17 b2_3 w2_3 w2_3a b4_3 w4_3 w4_3a w4_3aa w9_3 w10_3 w12_3 h
    cases (show (none : Option (api_Auto × Int)) = some r from h)
  | succ k ih =>
    intro x7_3_12 x8_3_13 x11_3_16 x13_3_18 y2_0_2 y2_3_2 y2_3_3 y4_3_4 y4_3_5 y4_3_7 y4_3_8 y4_3_11 y4_3_6 y4_3_9 y4_3_10 y9_3_14 y10_3_15 y12_3_17 b2_3 w2_3 w2_3a b4_3 w4_3 w4_3a w4_3aa w9_3 w10_3 w12_3 h
    rw [raddleref11_Of_l3] at h
    refine TL.round ?_
    refine T.seq ?_
    refine T.seq ?_
    refine T.regionL ?_
    refine mv rfl rfl rfl rfl rfl ?_
    refine mv rfl rfl rfl rfl rfl ?_
    refine sp rfl (OpT.nilCheck rfl (dl rfl rfl) rfl rfl ?_)
    refine sp rfl (OpT.fieldPtr rfl (dl rfl rfl) Try.underlying98 rfl i28 (by decide) rfl ?_)
    refine sp rfl (OpT.fieldPtr rfl (dl rfl rfl) Try.underlying28 rfl i24 (by decide) rfl ?_)
    refine sp rfl (OpT.fieldPtr rfl (dl rfl rfl) Try.underlying24 rfl i3 (by decide) rfl ?_)
    refine sp rfl (OpT.loadBox (i := 3) rfl (dl rfl rfl) Try.underlying3 rfl rfl rfl rfl ?_)
    refine sp rfl (OpT.int2 rfl rfl (dl rfl rfl) rfl rfl ?_)
    refine TL'.nil (thenS_normal ?_)
    rcases bif_some h with ⟨c_1191, h⟩ | ⟨c_1191, h⟩
    · refine T.condT rfl c_1191 ?_
      refine T.skip (thenS_normal ?_)
      refine T.seq ?_
      refine T.block ?_
      refine T.seq ?_
      refine T.regionL ?_
      refine mv rfl rfl rfl rfl rfl ?_
      refine mv rfl rfl rfl rfl rfl ?_
      refine mv rfl rfl rfl rfl rfl ?_
      refine mv rfl rfl rfl rfl rfl ?_
      refine mv rfl rfl rfl rfl rfl ?_
      obtain ⟨v_1192, e_1193, h⟩ := bind_some h
      refine sp rfl (OpT.callG (is := [3, 4, 5, 6]) (ph := []) rfl (dl rfl rfl) Try.func52 rfl rfl (Args.cons rfl (Args.cons rfl (Args.cons rfl (Args.cons rfl Args.nil)))) (raddleref11_builder_goes_T K (bx0 := b4_3) (wx0c1 := w4_3) (wx0c2c1 := w4_3a) (wx0c2c2 := w4_3aa) e_1193) (.cons rfl rfl (.cons rfl rfl (.cons rfl rfl (.cons rfl rfl (.nil))))) (fun _ => rfl) (fun γ_1194 => ?_))
      refine nm (.c (.c (.c (.c (.c (.c (.c (.c (.c (.c (.n))))))))))) ?_
      refine sp rfl (OpT.buildSlice (elems := ([v_1192.1] : List api_Move).map c_api_Move) rfl (dl rfl rfl) Try.underlying61 i63 (by decide) rfl (all1 rfl) rfl rfl rfl (lenAll rfl) (by decide) ?_)
      obtain ⟨g_1196, h⟩ := ck_some h
      refine sp rfl (OpT.appendAM (i := 9) (xs := y12_3_17) (ys := [v_1192.1]) (f := c_api_Move) rfl (dl rfl rfl) Try.underlying61 i63 rfl rfl rfl rfl g_1196 (fun w_1195 => ?_))
      refine asg rfl rfl rfl rfl rfl ?_
      refine TL'.nil (thenS_normal ?_)
      refine T.seq ?_
      refine T.regionL ?_
      refine mv rfl rfl rfl rfl rfl ?_
      refine sp rfl (OpT.nilCheck rfl (dl rfl rfl) rfl rfl ?_)
      refine sp rfl (OpT.fieldPtr rfl (dl rfl rfl) Try.underlying98 rfl i30 (by decide) rfl ?_)
      refine sp rfl (OpT.loadBox (i := 3) rfl (dl rfl rfl) Try.underlying30 rfl rfl rfl rfl ?_)
      refine sp rfl (OpT.int2 rfl rfl (dl rfl rfl) rfl rfl ?_)
      refine TL'.nil (thenS_normal ?_)
      rcases bif_some h with ⟨c_1197, h⟩ | ⟨c_1197, h⟩
      · refine T.condT rfl c_1197 ?_
        refine T.seq ?_
        refine DG.start ?_
        refine DG.step (c := ⟨some 167, .agg ((ArrN.dc 256 .u8 (ArrN.mk fun _ => 0)) ++ (([.int .i64 (0 : Int), .ex (.slice none 0 0), .ex (.slice none 0 0)] : List DC))), [], [], []⟩) (fun t hm => One.step rfl (.free rfl) (OpT.build (l := ((ArrN.dc 256 .u8 (ArrN.mk fun _ => 0)) ++ (([.int .i64 (0 : Int), .ex (.slice none 0 0), .ex (.slice none 0 0)] : List DC)))) rfl (dl rfl rfl) (built_struct (pl := [(0, 257), (257, 1), (258, 1)]) Try.underlying28 i28 rfl) (all1 rfl) parts_nil rfl rfl)) (Ct.met_of rfl rfl) ?_
        refine DG.mv rfl rfl rfl rfl rfl rfl ?_
        refine DG.step (c := ⟨some 169, .ptr b4_3 0, [(168, .ptr b4_3 0)], [], []⟩) (fun t hm => One.step rfl (.free rfl) (OpT.nilCheck rfl (dl rfl rfl) hm.s0 rfl rfl)) (Ct.met_of rfl rfl) ?_
        refine DG.step (c := ⟨some 170, .ptr b4_3 (0 + 262), [(169, .ptr b4_3 0)], [], []⟩) (fun t hm => One.step rfl (.free rfl) (OpT.fieldPtr rfl (dl rfl rfl) Try.underlying98 rfl i30 (by decide) hm.s0 rfl)) (Ct.met_of rfl rfl) ?_
        refine DG.step (c := ⟨some 171, .int .i64 v_1192.2.e, [(170, .ptr b4_3 (0 + 262))], [(3, .box b4_3 98 (([.d (.sl false 1 (v_1192.2.g.First.map (cI .i64))), .d (.sl false 9 (v_1192.2.g.P.map c_api_Pos)), .d (.ex (γ_1194 0))] : List OC) ++ ((ArrN.oc 256 .u8 v_1192.2.a.Split.Of) ++ (([.d (.int .i64 v_1192.2.a.Split.Many), .d (.ex (γ_1194 1)), .d (.ex (γ_1194 2)), .d (.int .i64 v_1192.2.e)] : List OC)))))], []⟩) (fun t hm => One.step rfl (.free rfl) (OpT.loadBox (i := 3) rfl (dl rfl rfl) Try.underlying30 rfl hm.s0 hm.o0 rfl rfl)) (Ct.met_of rfl rfl) ?_
        refine DG.step (c := ⟨none, .any, [(2, .ptr b2_3 0), (167, .agg ((ArrN.dc 256 .u8 (ArrN.mk fun _ => 0)) ++ (([.int .i64 (0 : Int), .ex (.slice none 0 0), .ex (.slice none 0 0)] : List DC))))], [(0, .box b2_3 28 ((ArrN.oc 256 .u8 y2_0_2) ++ (([.d (.int .i64 (0 : Int)), .d (.ex w2_3), .d (.ex w2_3a)] : List OC))))], [(0, .box b2_3 28 ((ArrN.oc 256 .u8 (ArrN.mk fun _ => 0)) ++ (([.d (.int .i64 (0 : Int)), .d (.ex (.slice none 0 0)), .d (.ex (.slice none 0 0))] : List OC))))]⟩) (fun t hm => One.step rfl (.free rfl) (OpT.storeAggTo (i := 0) (cells' := ((ArrN.oc 256 .u8 (ArrN.mk fun _ => 0)) ++ (([.d (.int .i64 (0 : Int)), .d (.ex (.slice none 0 0)), .d (.ex (.slice none 0 0))] : List OC)))) rfl rfl i28 hm.s0 hm.s1 rfl hm.o0 (Nat.le_of_ble_eq_true rfl) rfl rfl)) (Ct.met_of rfl rfl) ?_
        refine DG.step (c := ⟨some 3, .int .i64 v_1192.2.e, [(171, .int .i64 v_1192.2.e)], [], []⟩) (fun t hm => One.step rfl (.free rfl) (OpT.assign rfl (dl rfl rfl) hm.s0 rfl)) (Ct.met_of rfl rfl) ?_
        refine DG.fin (s1 := ⟨[(2, .ptr b2_3 0), (3, .int .i64 v_1192.2.e)], [.box b2_3 28 ((ArrN.oc 256 .u8 (ArrN.mk fun _ => 0)) ++ (([.d (.int .i64 (0 : Int)), .d (.ex (.slice none 0 0)), .d (.ex (.slice none 0 0))] : List OC))), .arrA w2_3 42 2 (y2_3_2.map (Arr2.dc .i64)), .arrX w2_3a 59 4 0 (y2_3_3.map c_api_State), .box b4_3 98 (([.d (.sl false 1 (v_1192.2.g.First.map (cI .i64))), .d (.sl false 9 (v_1192.2.g.P.map c_api_Pos)), .d (.ex (γ_1194 0))] : List OC) ++ ((ArrN.oc 256 .u8 v_1192.2.a.Split.Of) ++ (([.d (.int .i64 v_1192.2.a.Split.Many), .d (.ex (γ_1194 1)), .d (.ex (γ_1194 2)), .d (.int .i64 v_1192.2.e)] : List OC)))), .arrA (γ_1194 0) 3 1 (v_1192.2.number.map (cI .i64)), .arrA (γ_1194 1) 42 2 (v_1192.2.a.Counts.map (Arr2.dc .i64)), .arrX (γ_1194 2) 59 4 0 (v_1192.2.a.States.map c_api_State), .arrA w9_3 3 1 (y9_3_14.map (cI .i64)), .arrA w10_3 61 1 (y10_3_15.map (cL 2 c_api_Move)), .arrA w_1195 63 2 ((y12_3_17 ++ [v_1192.1]).map c_api_Move)]⟩) (ms := [0, 0, 2, 6, 14, 1, 63]) TryMixed rfl (by kernel_rfl) (by kernel_rfl) (by kernel_rfl) (.cons rfl (.cons rfl (.nil _))) rfl (fun u hu => (thenS_normal (T.by_turn hu ?_)))
        refine T.ret (inBlock_ret (thenS_ret (thenS_ret (inBlock_ret (thenS_ret (inBlock_ret (thenS_ret (thenS_ret (inBlock_ret (thenS_ret (inBlock_ret (thenS_ret (thenS_ret (inBlock_ret (thenS_ret ?_)))))))))))))))
        refine Fin.turn (Turn.weakBox 0 (l := ((ArrN.dc 256 .u8 (ArrN.mk fun _ => 0)) ++ (([.int .i64 (0 : Int), .ex (.slice none 0 0), .ex (.slice none 0 0)] : List DC)))) (l' := ((ArrN.dc 256 .u8 (ArrN.mk fun _ => 0)) ++ (([.int .i64 (0 : Int), .sl false 2 (([] : List Arr2).map (Arr2.dc .i64)), .sl false 4 (([] : List api_State).map c_api_State)] : List DC)))) rfl (.app _ (.cons (.same _) (.cons (.nil _ _) (.cons (.nil _ _) (.refl _)))))) ?_
        exact Fin.done (.cons _ _ _ _ (.cellAgg 2 28 _ 0 0 28 _ ((ArrN.dc 256 .u8 (ArrN.mk fun _ => 0)) ++ (([.int .i64 (0 : Int), .sl false 2 (([] : List Arr2).map (Arr2.dc .i64)), .sl false 4 (([] : List api_State).map c_api_State)] : List DC))) _ _ 259 _ rfl rfl rfl rfl Try.underlying28 rfl i28) (.cons _ _ _ _ (.tmp 3 _ rfl) .nil)) (by cases h; exact ⟨rfl, rfl⟩)
      · refine T.condF rfl c_1197 ?_
        refine T.skip (inBlock_normal (thenS_normal ?_))
        refine T.regionL ?_
        refine mv rfl rfl rfl rfl rfl ?_
        refine sp rfl (OpT.int2 rfl rfl (dl rfl rfl) rfl rfl ?_)
        refine asg rfl rfl rfl rfl rfl ?_
        refine TL'.nil (thenS_normal ?_)
        refine TL.by_turn ?_ (ih x7_3_12 x8_3_13 x11_3_16 (IntKind.i64.wrap (x13_3_18 + (1 : Int))) y2_0_2 y2_3_2 y2_3_3 v_1192.2.g.First v_1192.2.g.P v_1192.2.a.Split.Of v_1192.2.a.Split.Many v_1192.2.e v_1192.2.number v_1192.2.a.Counts v_1192.2.a.States y9_3_14 y10_3_15 (y12_3_17 ++ [v_1192.1]) b2_3 w2_3 w2_3a b4_3 (γ_1194 0) (γ_1194 1) (γ_1194 2) w9_3 w10_3 w_1195 h)
        exact Turn.rp (.cons rfl (.cons rfl (.cons rfl (.cons rfl (.cons rfl (.cons rfl (.cons rfl (.cons rfl (.cons rfl (.nil _)))))))))) (.c .z (.c .z (.c .z (.c .z (.c .z (.c .z (.c .z (.c .z (.c .z (.c .z (.n _)))))))))))
    · refine T.condF rfl c_1191 ?_
      refine T.exit (thenS_exit (thenS_exit (inBlock_exit (thenS_normal ?_))))
      refine T.regionL ?_
      refine mv rfl rfl rfl rfl rfl ?_
      refine mv rfl rfl rfl rfl rfl ?_
      refine TL'.turn (Turn.view 173 9 rfl rfl) ?_
      refine sp rfl (OpT.buildSlice (elems := ([y12_3_17] : List (List api_Move)).map (cL 2 c_api_Move)) rfl (dl rfl rfl) Try.underlying57 i61 (by decide) rfl (all1 rfl) rfl rfl rfl (lenAll rfl) (by decide) ?_)
      obtain ⟨g_1200, h⟩ := ck_some h
      refine sp rfl (OpT.appendAM (i := 8) (xs := y10_3_15) (ys := [y12_3_17]) (f := (cL 2 c_api_Move)) rfl (dl rfl rfl) Try.underlying57 i61 rfl rfl rfl rfl g_1200 (fun w_1199 => ?_))
      refine asg rfl rfl rfl rfl rfl ?_
      refine TL'.nil (inBlock_normal (thenS_normal ?_))
      refine T.regionL ?_
      refine mv rfl rfl rfl rfl rfl ?_
      refine sp rfl (OpT.int2 rfl rfl (dl rfl rfl) rfl rfl ?_)
      refine asg rfl rfl rfl rfl rfl ?_
      refine TL'.nil (thenS_normal ?_)
      refine TL.by_turn ?_ (hgo2 x7_3_12 x8_3_13 (IntKind.i64.wrap (x11_3_16 + (1 : Int))) y2_0_2 y2_3_2 y2_3_3 y4_3_4 y4_3_5 y4_3_7 y4_3_8 y4_3_11 y4_3_6 y4_3_9 y4_3_10 y9_3_14 (y10_3_15 ++ [y12_3_17]) b2_3 w2_3 w2_3a b4_3 w4_3 w4_3a w4_3aa w9_3 w_1199 h)
      exact Turn.rp (.cons rfl (.cons rfl (.cons rfl (.cons rfl (.cons rfl (.cons rfl (.cons rfl (.nil _)))))))) (.c .z (.c .z (.c .z (.c .z (.c .z (.c .z (.c .z (.c .z (.c .z (.n _))))))))))

abbrev raddleref11_Of_l1_H (r : api_Auto × Int) (go : Int → ArrN → (List Arr2) → (List api_State) → (List Int) → (List api_Pos) → ArrN → Int → Int → (List Int) → (List Arr2) → (List api_State) → Option (api_Auto × Int)) : Prop := ∀ (x7_1_12 : Int) (y2_0_2 : ArrN) (y2_1_2 : List Arr2) (y2_1_3 : List api_State) (y4_1_4 : List Int) (y4_1_5 : List api_Pos) (y4_1_7 : ArrN) (y4_1_8 : Int) (y4_1_11 : Int) (y4_1_6 : List Int) (y4_1_9 : List Arr2) (y4_1_10 : List api_State) (b2_1 : Nat) (w2_1 : Value) (w2_1a : Value) (b4_1 : Nat) (w4_1 : Value) (w4_1a : Value) (w4_1aa : Value), go x7_1_12 y2_0_2 y2_1_2 y2_1_3 y4_1_4 y4_1_5 y4_1_7 y4_1_8 y4_1_11 y4_1_6 y4_1_9 y4_1_10 = some r → TL Try.prog 198 (Code.at [1, 1, 1, 1, 1, 1, 1, 0, 1, 0, 0] (codeOf Try.f26)) ⟨[(2, .ptr b2_1 0), (4, .ptr b4_1 0), (7, .int .i64 x7_1_12)], [.box b2_1 28 ((ArrN.oc 256 .u8 y2_0_2) ++ (([.d (.int .i64 (0 : Int)), .d (.ex w2_1), .d (.ex w2_1a)] : List OC))), .arrA w2_1 42 2 (y2_1_2.map (Arr2.dc .i64)), .arrX w2_1a 59 4 0 (y2_1_3.map c_api_State), .box b4_1 98 (([.d (.sl false 1 (y4_1_4.map (cI .i64))), .d (.sl false 9 (y4_1_5.map c_api_Pos)), .d (.ex w4_1)] : List OC) ++ ((ArrN.oc 256 .u8 y4_1_7) ++ (([.d (.int .i64 y4_1_8), .d (.ex w4_1a), .d (.ex w4_1aa), .d (.int .i64 y4_1_11)] : List OC)))), .arrA w4_1 3 1 (y4_1_6.map (cI .i64)), .arrA w4_1a 42 2 (y4_1_9.map (Arr2.dc .i64)), .arrX w4_1aa 59 4 0 (y4_1_10.map c_api_State)]⟩ (raddleref11_Of_qb2x11111111 r)

theorem raddleref11_Of_l2_T {r : api_Auto × Int} (K : Nat) (go1 : Int → ArrN → (List Arr2) → (List api_State) → (List Int) → (List api_Pos) → ArrN → Int → Int → (List Int) → (List Arr2) → (List api_State) → Option (api_Auto × Int)) (hgo1 : raddleref11_Of_l1_H r go1) : ∀ (k : Nat), ∀ (x7_2_12 : Int) (x8_2_13 : Int) (x11_2_16 : Int) (y2_0_2 : ArrN) (y2_2_2 : List Arr2) (y2_2_3 : List api_State) (y4_2_4 : List Int) (y4_2_5 : List api_Pos) (y4_2_7 : ArrN) (y4_2_8 : Int) (y4_2_11 : Int) (y4_2_6 : List Int) (y4_2_9 : List Arr2) (y4_2_10 : List api_State) (y9_2_14 : List Int) (y10_2_15 : List (List api_Move)) (b2_2 : Nat) (w2_2 : Value) (w2_2a : Value) (b4_2 : Nat) (w4_2 : Value) (w4_2a : Value) (w4_2aa : Value) (w9_2 : Value) (w10_2 : Value), raddleref11_Of_l2 K go1 k x7_2_12 x8_2_13 x11_2_16 y2_0_2 y2_2_2 y2_2_3 y4_2_4 y4_2_5 y4_2_7 y4_2_8 y4_2_11 y4_2_6 y4_2_9 y4_2_10 y9_2_14 y10_2_15 = some r → TL Try.prog 198 (Code.at [1, 1, 1, 1, 1, 1, 1, 0, 1, 0, 0, 1, 0, 0, 1, 1, 1, 0, 1, 0, 0] (codeOf Try.f26)) ⟨[(2, .ptr b2_2 0), (4, .ptr b4_2 0), (7, .int .i64 x7_2_12), (8, .int .i64 x8_2_13), (9, .c (.ex w9_2)), (10, .c (.ex w10_2)), (11, .int .i64 x11_2_16)], [.box b2_2 28 ((ArrN.oc 256 .u8 y2_0_2) ++ (([.d (.int .i64 (0 : Int)), .d (.ex w2_2), .d (.ex w2_2a)] : List OC))), .arrA w2_2 42 2 (y2_2_2.map (Arr2.dc .i64)), .arrX w2_2a 59 4 0 (y2_2_3.map c_api_State), .box b4_2 98 (([.d (.sl false 1 (y4_2_4.map (cI .i64))), .d (.sl false 9 (y4_2_5.map c_api_Pos)), .d (.ex w4_2)] : List OC) ++ ((ArrN.oc 256 .u8 y4_2_7) ++ (([.d (.int .i64 y4_2_8), .d (.ex w4_2a), .d (.ex w4_2aa), .d (.int .i64 y4_2_11)] : List OC)))), .arrA w4_2 3 1 (y4_2_6.map (cI .i64)), .arrA w4_2a 42 2 (y4_2_9.map (Arr2.dc .i64)), .arrX w4_2aa 59 4 0 (y4_2_10.map c_api_State), .arrA w9_2 3 1 (y9_2_14.map (cI .i64)), .arrA w10_2 61 1 (y10_2_15.map (cL 2 c_api_Move))]⟩ (raddleref11_Of_qb4_3_2x111111101001001111 r) := by
  intro k
  induction k with
  | zero =>
    intro x7_2_12 x8_2_13 x11_2_16 y2_0_2 y2_2_2 y2_2_3 y4_2_4 y4_2_5 y4_2_7 y4_2_8 y4_2_11 y4_2_6 y4_2_9 y4_2_10 y9_2_14 y10_2_15 b2_2 w2_2 w2_2a b4_2 w4_2 w4_2a w4_2aa w9_2 w10_2 h
    cases (show (none : Option (api_Auto × Int)) = some r from h)
  | succ k ih =>
    intro x7_2_12 x8_2_13 x11_2_16 y2_0_2 y2_2_2 y2_2_3 y4_2_4 y4_2_5 y4_2_7 y4_2_8 y4_2_11 y4_2_6 y4_2_9 y4_2_10 y9_2_14 y10_2_15 b2_2 w2_2 w2_2a b4_2 w4_2 w4_2a w4_2aa w9_2 w10_2 h
    rw [raddleref11_Of_l2] at h
    refine TL.round ?_
    refine T.seq ?_
    refine T.seq ?_
    refine T.regionL ?_
    refine mv rfl rfl rfl rfl rfl ?_
    refine mv rfl rfl rfl rfl rfl ?_
    refine sp rfl (OpT.int2 rfl rfl (dl rfl rfl) rfl rfl ?_)
    refine TL'.nil (thenS_normal ?_)
    rcases bif_some h with ⟨c_1183, h⟩ | ⟨c_1183, h⟩
    · refine T.condT rfl c_1183 ?_
      refine T.skip (thenS_normal ?_)
      refine T.seq ?_
      refine T.block ?_
      refine T.seq ?_
      refine T.regionL ?_
      refine mv rfl rfl rfl rfl rfl ?_
      refine mv rfl rfl rfl rfl rfl ?_
      refine mv rfl rfl rfl rfl rfl ?_
      refine sp rfl (OpT.nilCheck rfl (dl rfl rfl) rfl rfl ?_)
      refine sp rfl (OpT.fieldPtr rfl (dl rfl rfl) Try.underlying98 rfl i28 (by decide) rfl ?_)
      refine sp rfl (OpT.fieldPtr rfl (dl rfl rfl) Try.underlying28 rfl i26 (by decide) rfl ?_)
      refine sp rfl (OpT.loadBox (i := 3) rfl (dl rfl rfl) Try.underlying26 rfl rfl rfl rfl ?_)
      refine mv rfl rfl rfl rfl rfl ?_
      obtain ⟨v_1184, e_1185, h⟩ := bind_some h
      refine sp rfl (OpT.indexXM (n := 6) (xs := y4_2_10) (f := c_api_State) (old := v_1184) rfl (dl rfl rfl) Try.underlying26 i59 rfl rfl rfl e_1185 ?_)
      refine sp rfl (OpT.loadXAggM (i := 6) (xs := y4_2_10) (f := c_api_State) (old := v_1184) (l := [.sl false 1 (v_1184.L.map (cI .i64)), .sl false 1 (v_1184.R.map (cI .i64)), .sl false 1 (v_1184.Rule.map (cI .i64)), .sl false 1 (v_1184.Next.map (cL 2 c_api_Move))]) rfl (dl rfl rfl) Try.underlying59 rfl i59 rfl rfl (geti_some e_1185).2 rfl rfl ?_)
      refine mv rfl rfl rfl rfl rfl ?_
      obtain ⟨v_1186, e_1187, h⟩ := bind_some h
      refine sp rfl (OpT.callG (is := [3, 4, 5, 6]) (ph := []) rfl (dl rfl rfl) Try.func51 rfl rfl (Args.cons rfl (Args.cons rfl (Args.cons rfl Args.nil))) (raddleref11_builder_rule_T K (bx0 := b4_2) (wx0c1 := w4_2) (wx0c2c1 := w4_2a) (wx0c2c2 := w4_2aa) e_1187) (.cons rfl rfl (.cons rfl rfl (.cons rfl rfl (.cons rfl rfl (.nil))))) (fun _ => rfl) (fun γ_1188 => ?_))
      refine nm (.c (.c (.c (.c (.c (.c (.c (.c (.c (.n)))))))))) ?_
      refine sp rfl (OpT.buildSlice (elems := ([v_1186] : List Int).map (cI .i64)) rfl (dl rfl rfl) Try.underlying56 i3 (by decide) rfl (all1 rfl) rfl rfl rfl (lenAll rfl) (by decide) ?_)
      obtain ⟨g_1190, h⟩ := ck_some h
      refine sp rfl (OpT.appendAM (i := 7) (xs := y9_2_14) (ys := [v_1186]) (f := (cI .i64)) rfl (dl rfl rfl) Try.underlying56 i3 rfl rfl rfl rfl g_1190 (fun w_1189 => ?_))
      refine asg rfl rfl rfl rfl rfl ?_
      refine TL'.nil (thenS_normal ?_)
      refine T.seq ?_
      refine T.regionL ?_
      refine asg rfl rfl rfl rfl rfl ?_
      refine TL'.nil (thenS_normal ?_)
      refine T.seq ?_
      refine T.seq ?_
      refine T.regionL ?_
      refine asg rfl rfl rfl rfl rfl ?_
      refine TL'.nil (thenS_normal ?_)
      refine T.block ?_
      refine T.loop ?_
      refine TL.by_turn (Turn.nilA 63 2) ?_
      refine TL.by_turn ?_ (raddleref11_Of_l3_T K (raddleref11_Of_l2 K go1 k) ih K x7_2_12 x8_2_13 x11_2_16 (0 : Int) y2_0_2 y2_2_2 y2_2_3 ((raddleref11_builder.mk (api_Glush.mk y4_2_4 y4_2_5) y4_2_6 (api_Auto.mk (api_Split.mk y4_2_7 y4_2_8) y4_2_9 y4_2_10) y4_2_11).g.First) ((raddleref11_builder.mk (api_Glush.mk y4_2_4 y4_2_5) y4_2_6 (api_Auto.mk (api_Split.mk y4_2_7 y4_2_8) y4_2_9 y4_2_10) y4_2_11).g.P) ((raddleref11_builder.mk (api_Glush.mk y4_2_4 y4_2_5) y4_2_6 (api_Auto.mk (api_Split.mk y4_2_7 y4_2_8) y4_2_9 y4_2_10) y4_2_11).a.Split.Of) ((raddleref11_builder.mk (api_Glush.mk y4_2_4 y4_2_5) y4_2_6 (api_Auto.mk (api_Split.mk y4_2_7 y4_2_8) y4_2_9 y4_2_10) y4_2_11).a.Split.Many) ((raddleref11_builder.mk (api_Glush.mk y4_2_4 y4_2_5) y4_2_6 (api_Auto.mk (api_Split.mk y4_2_7 y4_2_8) y4_2_9 y4_2_10) y4_2_11).e) ((raddleref11_builder.mk (api_Glush.mk y4_2_4 y4_2_5) y4_2_6 (api_Auto.mk (api_Split.mk y4_2_7 y4_2_8) y4_2_9 y4_2_10) y4_2_11).number) ((raddleref11_builder.mk (api_Glush.mk y4_2_4 y4_2_5) y4_2_6 (api_Auto.mk (api_Split.mk y4_2_7 y4_2_8) y4_2_9 y4_2_10) y4_2_11).a.Counts) ((raddleref11_builder.mk (api_Glush.mk y4_2_4 y4_2_5) y4_2_6 (api_Auto.mk (api_Split.mk y4_2_7 y4_2_8) y4_2_9 y4_2_10) y4_2_11).a.States) (y9_2_14 ++ [v_1186]) y10_2_15 [] b2_2 w2_2 w2_2a b4_2 (γ_1188 0) (γ_1188 1) (γ_1188 2) w_1189 w10_2 (nilv 51) h)
      exact Turn.rp (.cons rfl (.cons rfl (.cons rfl (.cons rfl (.cons rfl (.cons rfl (.cons rfl (.cons rfl (.cons rfl (.nil _)))))))))) (.c (.s .z) (.c (.s .z) (.c (.s .z) (.c (.s .z) (.c (.s .z) (.c (.s .z) (.c (.s .z) (.c (.s .z) (.c (.s .z) (.c .z (.n _)))))))))))
    · refine T.condF rfl c_1183 ?_
      refine T.exit (thenS_exit (thenS_exit (inBlock_exit (thenS_normal ?_))))
      refine T.seq ?_
      refine T.regionL ?_
      refine mv rfl rfl rfl rfl rfl ?_
      refine sp rfl (OpT.nilCheck rfl (dl rfl rfl) rfl rfl ?_)
      refine sp rfl (OpT.fieldPtr rfl (dl rfl rfl) Try.underlying98 rfl i28 (by decide) rfl ?_)
      refine sp rfl (OpT.fieldPtr rfl (dl rfl rfl) Try.underlying28 rfl i26 (by decide) rfl ?_)
      refine sp rfl (OpT.loadBox (i := 3) rfl (dl rfl rfl) Try.underlying26 rfl rfl rfl rfl ?_)
      refine mv rfl rfl rfl rfl rfl ?_
      refine mv rfl rfl rfl rfl rfl ?_
      obtain ⟨v_1201, e_1202, h⟩ := bind_some h
      refine sp rfl (OpT.indexXM (n := 6) (xs := y4_2_10) (f := c_api_State) (old := v_1201) rfl (dl rfl rfl) Try.underlying26 i59 rfl rfl rfl e_1202 ?_)
      refine sp rfl (OpT.fieldEl rfl (dl rfl rfl) Try.underlying59 rfl i56 (by decide) rfl ?_)
      refine TL'.turn (Turn.view 182 7 rfl rfl) ?_
      refine sp rfl (OpT.storeXM (i := 6) (xs := y4_2_10) (f := c_api_State) (old := v_1201) (new := (api_State.mk v_1201.L v_1201.R y9_2_14 v_1201.Next)) rfl rfl i56 rfl rfl rfl (geti_some e_1202).2 (Nat.zero_le _) (Nat.le_of_ble_eq_true rfl) rfl ?_)
      refine TL'.nil (thenS_normal ?_)
      refine T.regionL ?_
      refine mv rfl rfl rfl rfl rfl ?_
      refine sp rfl (OpT.nilCheck rfl (dl rfl rfl) rfl rfl ?_)
      refine sp rfl (OpT.fieldPtr rfl (dl rfl rfl) Try.underlying98 rfl i28 (by decide) rfl ?_)
      refine sp rfl (OpT.fieldPtr rfl (dl rfl rfl) Try.underlying28 rfl i26 (by decide) rfl ?_)
      refine sp rfl (OpT.loadBox (i := 3) rfl (dl rfl rfl) Try.underlying26 rfl rfl rfl rfl ?_)
      refine mv rfl rfl rfl rfl rfl ?_
      refine mv rfl rfl rfl rfl rfl ?_
      obtain ⟨v_1203, e_1204, h⟩ := bind_some h
      refine sp rfl (OpT.indexXM (n := 6) (xs := (List.set y4_2_10 (Int.toNat x7_2_12) (api_State.mk v_1201.L v_1201.R y9_2_14 v_1201.Next))) (f := c_api_State) (old := v_1203) rfl (dl rfl rfl) Try.underlying26 i59 rfl rfl rfl e_1204 ?_)
      refine sp rfl (OpT.fieldEl rfl (dl rfl rfl) Try.underlying59 rfl i57 (by decide) rfl ?_)
      refine TL'.turn (Turn.view 191 8 rfl rfl) ?_
      refine sp rfl (OpT.storeXM (i := 6) (xs := (List.set y4_2_10 (Int.toNat x7_2_12) (api_State.mk v_1201.L v_1201.R y9_2_14 v_1201.Next))) (f := c_api_State) (old := v_1203) (new := (api_State.mk v_1203.L v_1203.R v_1203.Rule y10_2_15)) rfl rfl i57 rfl rfl rfl (geti_some e_1204).2 (Nat.zero_le _) (Nat.le_of_ble_eq_true rfl) rfl ?_)
      refine TL'.nil (inBlock_normal (thenS_normal ?_))
      refine T.regionL ?_
      refine mv rfl rfl rfl rfl rfl ?_
      refine sp rfl (OpT.int2 rfl rfl (dl rfl rfl) rfl rfl ?_)
      refine asg rfl rfl rfl rfl rfl ?_
      refine TL'.nil (thenS_normal ?_)
      refine TL.by_turn ?_ (hgo1 (IntKind.i64.wrap (x7_2_12 + (1 : Int))) y2_0_2 y2_2_2 y2_2_3 y4_2_4 y4_2_5 y4_2_7 y4_2_8 y4_2_11 y4_2_6 y4_2_9 (List.set (List.set y4_2_10 (Int.toNat x7_2_12) (api_State.mk v_1201.L v_1201.R y9_2_14 v_1201.Next)) (Int.toNat x7_2_12) (api_State.mk v_1203.L v_1203.R v_1203.Rule y10_2_15)) b2_2 w2_2 w2_2a b4_2 w4_2 w4_2a w4_2aa h)
      exact Turn.rp (.cons rfl (.cons rfl (.cons rfl (.nil _)))) (.c .z (.c .z (.c .z (.c .z (.c .z (.c .z (.c .z (.n _))))))))

theorem raddleref11_Of_l1_T {r : api_Auto × Int} (K : Nat) : ∀ (k : Nat), ∀ (x7_1_12 : Int) (y2_0_2 : ArrN) (y2_1_2 : List Arr2) (y2_1_3 : List api_State) (y4_1_4 : List Int) (y4_1_5 : List api_Pos) (y4_1_7 : ArrN) (y4_1_8 : Int) (y4_1_11 : Int) (y4_1_6 : List Int) (y4_1_9 : List Arr2) (y4_1_10 : List api_State) (b2_1 : Nat) (w2_1 : Value) (w2_1a : Value) (b4_1 : Nat) (w4_1 : Value) (w4_1a : Value) (w4_1aa : Value), raddleref11_Of_l1 K k x7_1_12 y2_0_2 y2_1_2 y2_1_3 y4_1_4 y4_1_5 y4_1_7 y4_1_8 y4_1_11 y4_1_6 y4_1_9 y4_1_10 = some r → TL Try.prog 198 (Code.at [1, 1, 1, 1, 1, 1, 1, 0, 1, 0, 0] (codeOf Try.f26)) ⟨[(2, .ptr b2_1 0), (4, .ptr b4_1 0), (7, .int .i64 x7_1_12)], [.box b2_1 28 ((ArrN.oc 256 .u8 y2_0_2) ++ (([.d (.int .i64 (0 : Int)), .d (.ex w2_1), .d (.ex w2_1a)] : List OC))), .arrA w2_1 42 2 (y2_1_2.map (Arr2.dc .i64)), .arrX w2_1a 59 4 0 (y2_1_3.map c_api_State), .box b4_1 98 (([.d (.sl false 1 (y4_1_4.map (cI .i64))), .d (.sl false 9 (y4_1_5.map c_api_Pos)), .d (.ex w4_1)] : List OC) ++ ((ArrN.oc 256 .u8 y4_1_7) ++ (([.d (.int .i64 y4_1_8), .d (.ex w4_1a), .d (.ex w4_1aa), .d (.int .i64 y4_1_11)] : List OC)))), .arrA w4_1 3 1 (y4_1_6.map (cI .i64)), .arrA w4_1a 42 2 (y4_1_9.map (Arr2.dc .i64)), .arrX w4_1aa 59 4 0 (y4_1_10.map c_api_State)]⟩ (raddleref11_Of_qb2x11111111 r) := by
  intro k
  induction k with
  | zero =>
    intro x7_1_12 y2_0_2 y2_1_2 y2_1_3 y4_1_4 y4_1_5 y4_1_7 y4_1_8 y4_1_11 y4_1_6 y4_1_9 y4_1_10 b2_1 w2_1 w2_1a b4_1 w4_1 w4_1a w4_1aa h
    cases (show (none : Option (api_Auto × Int)) = some r from h)
  | succ k ih =>
    intro x7_1_12 y2_0_2 y2_1_2 y2_1_3 y4_1_4 y4_1_5 y4_1_7 y4_1_8 y4_1_11 y4_1_6 y4_1_9 y4_1_10 b2_1 w2_1 w2_1a b4_1 w4_1 w4_1a w4_1aa h
    rw [raddleref11_Of_l1] at h
    refine TL.round ?_
    refine T.seq ?_
    refine T.seq ?_
    refine T.regionL ?_
    refine mv rfl rfl rfl rfl rfl ?_
    refine mv rfl rfl rfl rfl rfl ?_
    refine sp rfl (OpT.nilCheck rfl (dl rfl rfl) rfl rfl ?_)
    refine sp rfl (OpT.fieldPtr rfl (dl rfl rfl) Try.underlying98 rfl i28 (by decide) rfl ?_)
    refine sp rfl (OpT.fieldPtr rfl (dl rfl rfl) Try.underlying28 rfl i26 (by decide) rfl ?_)
    refine sp rfl (OpT.loadBox (i := 3) rfl (dl rfl rfl) Try.underlying26 rfl rfl rfl rfl ?_)
    refine sp rfl (OpT.lenXM (i := 6) (xs := y4_1_10) (f := c_api_State) rfl (dl rfl rfl) Try.underlying26 rfl rfl ?_)
    refine sp rfl (OpT.int2 rfl rfl (dl rfl rfl) rfl rfl ?_)
    refine TL'.nil (thenS_normal ?_)
    rcases bif_some h with ⟨c_1178, h⟩ | ⟨c_1178, h⟩
    · refine T.condT rfl c_1178 ?_
      refine T.skip (thenS_normal ?_)
      refine T.seq ?_
      refine T.block ?_
      refine T.seq ?_
      refine T.regionL ?_
      refine mv rfl rfl rfl rfl rfl ?_
      refine sp rfl (OpT.nilCheck rfl (dl rfl rfl) rfl rfl ?_)
      refine sp rfl (OpT.fieldPtr rfl (dl rfl rfl) Try.underlying98 rfl i28 (by decide) rfl ?_)
      refine sp rfl (OpT.fieldPtr rfl (dl rfl rfl) Try.underlying28 rfl i26 (by decide) rfl ?_)
      refine sp rfl (OpT.loadBox (i := 3) rfl (dl rfl rfl) Try.underlying26 rfl rfl rfl rfl ?_)
      refine mv rfl rfl rfl rfl rfl ?_
      obtain ⟨v_1179, e_1180, h⟩ := bind_some h
      refine sp rfl (OpT.indexXM (n := 6) (xs := y4_1_10) (f := c_api_State) (old := v_1179) rfl (dl rfl rfl) Try.underlying26 i59 rfl rfl rfl e_1180 ?_)
      refine sp rfl (OpT.fieldEl rfl (dl rfl rfl) Try.underlying59 rfl i56 (by decide) rfl ?_)
      refine sp rfl (OpT.loadXM (i := 6) (xs := y4_1_10) (f := c_api_State) (old := v_1179) rfl (dl rfl rfl) Try.underlying56 rfl rfl rfl (geti_some e_1180).2 rfl ?_)
      refine sp rfl (OpT.lenSlM (xs := v_1179.R) (f := (cI .i64)) rfl (dl rfl rfl) Try.underlying56 rfl ?_)
      obtain ⟨v_1181, e_1182, h⟩ := bind_some h
      refine sp rfl (OpT.callPA rfl (dl rfl rfl) Try.func50 rfl rfl (Args.cons rfl Args.nil) (CallR.nil (raddleref11_Codes_T K e_1182)) ?_)
      refine asg rfl rfl rfl rfl rfl ?_
      refine TL'.nil (thenS_normal ?_)
      refine T.seq ?_
      refine T.regionL ?_
      refine asg rfl rfl rfl rfl rfl ?_
      refine TL'.nil (thenS_normal ?_)
      refine T.seq ?_
      refine T.regionL ?_
      refine asg rfl rfl rfl rfl rfl ?_
      refine TL'.nil (thenS_normal ?_)
      refine T.seq ?_
      refine T.seq ?_
      refine T.regionL ?_
      refine asg rfl rfl rfl rfl rfl ?_
      refine TL'.nil (thenS_normal ?_)
      refine T.block ?_
      refine T.loop ?_
      refine TL.by_turn (Turn.nilA 3 1) ?_
      refine TL.by_turn (Turn.nilA 61 1) ?_
      refine TL.by_turn ?_ (raddleref11_Of_l2_T K (raddleref11_Of_l1 K k) ih K x7_1_12 v_1181 (0 : Int) y2_0_2 y2_1_2 y2_1_3 y4_1_4 y4_1_5 y4_1_7 y4_1_8 y4_1_11 y4_1_6 y4_1_9 y4_1_10 [] [] b2_1 w2_1 w2_1a b4_1 w4_1 w4_1a w4_1aa (nilv 49) (nilv 50) h)
      exact Turn.rp (.cons rfl (.cons rfl (.cons rfl (.cons rfl (.cons rfl (.cons rfl (.cons rfl (.nil _)))))))) (.c (.s (.s .z)) (.c (.s (.s .z)) (.c (.s (.s .z)) (.c (.s (.s .z)) (.c (.s (.s .z)) (.c (.s (.s .z)) (.c (.s (.s .z)) (.c (.s .z) (.c .z (.n _))))))))))
    · refine T.condF rfl c_1178 ?_
      refine T.exit (thenS_exit (thenS_exit (inBlock_exit (thenS_normal ?_))))
      refine T.seq ?_
      refine T.regionL ?_
      refine mv rfl rfl rfl rfl rfl ?_
      refine sp rfl (OpT.nilCheck rfl (dl rfl rfl) rfl rfl ?_)
      refine sp rfl (OpT.fieldPtr rfl (dl rfl rfl) Try.underlying98 rfl i28 (by decide) rfl ?_)
      refine TL'.turn (Turn.sealX 6 rfl) ?_
      refine sp rfl (OpT.thenTurn (OpT.loadBoxAgg (i := 3) (l := ((ArrN.dc 256 .u8 y4_1_7) ++ (([.int .i64 y4_1_8, .ex w4_1a, .ex w4_1aa] : List DC)))) rfl (dl rfl rfl) Try.underlying28 rfl i28 rfl rfl rfl rfl rfl) (Turn.weakSlotP 197 (l := ((ArrN.dc 256 .u8 y4_1_7) ++ (([.int .i64 y4_1_8, .ex w4_1a, .ex w4_1aa] : List DC)))) (l' := ((ArrN.dc 256 .u8 y4_1_7) ++ (([.int .i64 y4_1_8, .sl false 2 (y4_1_9.map (Arr2.dc .i64)), .sl false 4 (y4_1_10.map c_api_State)] : List DC)))) (.app _ (.cons (.same _) (.cons (.view 5 rfl) (.cons (.view 6 rfl) (.refl _)))))) ?_)
      refine sp rfl (OpT.storeAggTo (i := 0) (cells' := ((ArrN.oc 256 .u8 y4_1_7) ++ (([.d (.int .i64 y4_1_8), .d (.sl false 2 (y4_1_9.map (Arr2.dc .i64))), .d (.sl false 4 (y4_1_10.map c_api_State))] : List OC)))) rfl rfl i28 rfl rfl rfl rfl (Nat.le_of_ble_eq_true rfl) rfl ?_)
      refine asg rfl rfl rfl rfl rfl ?_
      refine TL'.nil (thenS_normal ?_)
      refine T.ret ?_
      exact Fin.done (.cons _ _ _ _ (.cellAgg 2 28 _ 0 0 28 _ ((ArrN.dc 256 .u8 y4_1_7) ++ (([.int .i64 y4_1_8, .sl false 2 (y4_1_9.map (Arr2.dc .i64)), .sl false 4 (y4_1_10.map c_api_State)] : List DC))) _ _ 259 _ rfl rfl rfl rfl Try.underlying28 rfl i28) (.cons _ _ _ _ (.tmp 3 _ rfl) .nil)) (by cases h; exact ⟨rfl, rfl⟩)

theorem raddleref11_Of_l0_T {r : api_Auto × Int} (K : Nat) : ∀ (k : Nat), ∀ (x6_0_15 : Int) (x0 : api_Glush) (y2_0_2 : ArrN) (y2_0_4 : List Arr2) (y2_0_5 : List api_State) (y4_0_9 : ArrN) (y4_0_8 : List Int) (y4_0_11 : List Arr2) (y4_0_12 : List api_State) (y5_0_14 : List Arr4) (b1_0 : Nat) (b2_0 : Nat) (w2_0 : Value) (w2_0a : Value) (b4_0 : Nat) (w4_0 : Value) (w4_0a : Value) (w4_0aa : Value) (w5_0 : Value), raddleref11_Of_l0 K k x6_0_15 x0 y2_0_2 y2_0_4 y2_0_5 y4_0_9 y4_0_8 y4_0_11 y4_0_12 y5_0_14 = some r → TL Try.prog 198 (Code.at [1, 1, 1, 1, 0, 1, 0, 0] (codeOf Try.f26)) ⟨[(1, .ptr b1_0 0), (2, .ptr b2_0 0), (4, .ptr b4_0 0), (5, .c (.ex w5_0)), (6, .int .i64 x6_0_15)], [.box b1_0 71 [.d (.sl false 1 (x0.First.map (cI .i64))), .d (.sl false 9 (x0.P.map c_api_Pos))], .box b2_0 28 ((ArrN.oc 256 .u8 y2_0_2) ++ (([.d (.int .i64 (0 : Int)), .d (.ex w2_0), .d (.ex w2_0a)] : List OC))), .arrA w2_0 42 2 (y2_0_4.map (Arr2.dc .i64)), .arrX w2_0a 59 4 0 (y2_0_5.map c_api_State), .box b4_0 98 (([.d (.sl false 1 (x0.First.map (cI .i64))), .d (.sl false 9 (x0.P.map c_api_Pos)), .d (.ex w4_0)] : List OC) ++ ((ArrN.oc 256 .u8 y4_0_9) ++ (([.d (.int .i64 (0 : Int)), .d (.ex w4_0a), .d (.ex w4_0aa), .d (.int .i64 (0 : Int))] : List OC)))), .arrA w4_0 3 1 (y4_0_8.map (cI .i64)), .arrA w4_0a 42 2 (y4_0_11.map (Arr2.dc .i64)), .arrX w4_0aa 59 4 0 (y4_0_12.map c_api_State), .arrA w5_0 102 4 (y5_0_14.map (Arr4.dc .u64))]⟩ (raddleref11_Of_qb0x11111 r) := by
  intro k
  induction k with
  | zero =>
    intro x6_0_15 x0 y2_0_2 y2_0_4 y2_0_5 y4_0_9 y4_0_8 y4_0_11 y4_0_12 y5_0_14 b1_0 b2_0 w2_0 w2_0a b4_0 w4_0 w4_0a w4_0aa w5_0 h
    cases (show (none : Option (api_Auto × Int)) = some r from h)
  | succ k ih =>
    intro x6_0_15 x0 y2_0_2 y2_0_4 y2_0_5 y4_0_9 y4_0_8 y4_0_11 y4_0_12 y5_0_14 b1_0 b2_0 w2_0 w2_0a b4_0 w4_0 w4_0a w4_0aa w5_0 h
    rw [raddleref11_Of_l0] at h
    refine TL.round ?_
    refine T.seq ?_
    refine T.seq ?_
    refine T.regionL ?_
    refine mv rfl rfl rfl rfl rfl ?_
    refine sp rfl (OpT.fieldPtr rfl (dl rfl rfl) Try.underlying71 rfl i69 (by decide) rfl ?_)
    refine sp rfl (OpT.loadBox (i := 0) rfl (dl rfl rfl) Try.underlying69 rfl rfl rfl rfl ?_)
    refine sp rfl (OpT.lenSlM (xs := x0.P) (f := c_api_Pos) rfl (dl rfl rfl) Try.underlying69 rfl ?_)
    refine sp rfl (OpT.int2 rfl rfl (dl rfl rfl) rfl rfl ?_)
    refine TL'.nil (thenS_normal ?_)
    rcases bif_some h with ⟨c_1159, h⟩ | ⟨c_1159, h⟩
    · refine T.condT rfl c_1159 ?_
      refine T.skip (thenS_normal ?_)
      refine T.seq ?_
      refine T.block ?_
      refine T.seq ?_
      refine T.regionL ?_
      refine mv rfl rfl rfl rfl rfl ?_
      refine sp rfl (OpT.fieldPtr rfl (dl rfl rfl) Try.underlying71 rfl i69 (by decide) rfl ?_)
      refine sp rfl (OpT.loadBox (i := 0) rfl (dl rfl rfl) Try.underlying69 rfl rfl rfl rfl ?_)
      refine mv rfl rfl rfl rfl rfl ?_
      obtain ⟨v_1160, e_1161, h⟩ := bind_some h
      refine sp rfl (OpT.indexSlM (xs := x0.P) (f := c_api_Pos) (v := v_1160) rfl (dl rfl rfl) Try.underlying69 i104 rfl rfl e_1161 ?_)
      refine sp rfl (OpT.fieldRef rfl (dl rfl rfl) Try.underlying104 rfl i102 (by decide) rfl ?_)
      refine sp rfl (OpT.loadRefAgg rfl (dl rfl rfl) Try.underlying102 rfl i102 rfl (Nat.le_of_ble_eq_true rfl) ?_)
      refine sp rfl (OpT.buildSlice (elems := ([v_1160.S] : List Arr4).map (Arr4.dc .u64)) rfl (dl rfl rfl) Try.underlying99 i102 (by decide) rfl (all1 rfl) rfl rfl rfl (lenAll rfl) (by decide) ?_)
      obtain ⟨g_1163, h⟩ := ck_some h
      refine sp rfl (OpT.appendAM (i := 8) (xs := y5_0_14) (ys := [v_1160.S]) (f := (Arr4.dc .u64)) rfl (dl rfl rfl) Try.underlying99 i102 rfl rfl rfl rfl g_1163 (fun w_1162 => ?_))
      refine asg rfl rfl rfl rfl rfl ?_
      refine TL'.nil (thenS_normal ?_)
      refine T.seq ?_
      refine T.regionL ?_
      refine sp rfl (OpT.fieldPtr rfl (dl rfl rfl) Try.underlying71 rfl i69 (by decide) rfl ?_)
      refine sp rfl (OpT.loadBox (i := 0) rfl (dl rfl rfl) Try.underlying69 rfl rfl rfl rfl ?_)
      refine mv rfl rfl rfl rfl rfl ?_
      refine sp rfl (OpT.indexSlM (xs := x0.P) (f := c_api_Pos) (v := v_1160) rfl (dl rfl rfl) Try.underlying69 i104 rfl rfl e_1161 ?_)
      refine sp rfl (OpT.fieldRef rfl (dl rfl rfl) Try.underlying104 rfl i3 (by decide) rfl ?_)
      refine sp rfl (OpT.loadRef rfl (dl rfl rfl) Try.underlying3 rfl rfl rfl ?_)
      refine sp rfl (OpT.int2 rfl rfl (dl rfl rfl) rfl rfl ?_)
      refine TL'.nil (thenS_normal ?_)
      rcases bif_some h with ⟨c_1164, h⟩ | ⟨c_1164, h⟩
      · refine T.condT rfl c_1164 ?_
        refine T.seq ?_
        refine T.by_turn Turn.keepPlace ?_
        refine DGG.start ?_
        refine DGG.step (c := fun γ_1165 => ⟨some 44, .ptr b4_0 0, [(4, .ptr b4_0 0)], [], []⟩) [] (fun _ _ _ => rfl) (fun γ_1165 t hm => One.step rfl (.free rfl) (OpT.move rfl (dl rfl rfl) hm.s0 ⟨(fun _ => undef, 0), rfl⟩)) (fun γ_1165 => Ct.met_of rfl rfl) ?_
        refine DGG.step (c := fun γ_1165 => ⟨some 45, .ptr b4_0 0, [(4, .ptr b4_0 0)], [], []⟩) [] (fun _ _ _ => rfl) (fun γ_1165 t hm => One.step rfl (.free rfl) (OpT.move rfl (dl rfl rfl) hm.s0 ⟨(fun _ => undef, 0), rfl⟩)) (fun γ_1165 => Ct.met_of rfl rfl) ?_
        refine DGG.step (c := fun γ_1165 => ⟨some 46, .ptr b4_0 0, [(45, .ptr b4_0 0)], [], []⟩) [] (fun _ _ _ => rfl) (fun γ_1165 t hm => One.step rfl (.free rfl) (OpT.nilCheck rfl (dl rfl rfl) hm.s0 rfl ⟨(fun _ => undef, 0), rfl⟩)) (fun γ_1165 => Ct.met_of rfl rfl) ?_
        refine DGG.step (c := fun γ_1165 => ⟨some 47, .ptr b4_0 (0 + 2), [(46, .ptr b4_0 0)], [], []⟩) [] (fun _ _ _ => rfl) (fun γ_1165 t hm => One.step rfl (.free rfl) (OpT.fieldPtr rfl (dl rfl rfl) Try.underlying98 rfl i56 (by decide) hm.s0 ⟨(fun _ => undef, 0), rfl⟩)) (fun γ_1165 => Ct.met_of rfl rfl) ?_
        refine DGG.step (c := fun γ_1165 => ⟨some 48, .c (.ex w4_0), [(47, .ptr b4_0 (0 + 2))], [(5, .box b4_0 98 (([.d (.sl false 1 (x0.First.map (cI .i64))), .d (.sl false 9 (x0.P.map c_api_Pos)), .d (.ex w4_0)] : List OC) ++ ((ArrN.oc 256 .u8 y4_0_9) ++ (([.d (.int .i64 (0 : Int)), .d (.ex w4_0a), .d (.ex w4_0aa), .d (.int .i64 (0 : Int))] : List OC)))))], []⟩) [] (fun _ _ _ => rfl) (fun γ_1165 t hm => One.step rfl (.free rfl) (OpT.loadBox (i := 5) rfl (dl rfl rfl) Try.underlying56 rfl hm.s0 hm.o0 rfl ⟨(fun _ => undef, 0), rfl⟩)) (fun γ_1165 => Ct.met_of rfl rfl) ?_
        refine DGG.step (c := fun γ_1165 => ⟨some 49, .ptr b4_0 0, [(4, .ptr b4_0 0)], [], []⟩) [] (fun _ _ _ => rfl) (fun γ_1165 t hm => One.step rfl (.free rfl) (OpT.move rfl (dl rfl rfl) hm.s0 ⟨(fun _ => undef, 0), rfl⟩)) (fun γ_1165 => Ct.met_of rfl rfl) ?_
        refine DGG.step (c := fun γ_1165 => ⟨some 50, .ptr b4_0 0, [(49, .ptr b4_0 0)], [], []⟩) [] (fun _ _ _ => rfl) (fun γ_1165 t hm => One.step rfl (.free rfl) (OpT.nilCheck rfl (dl rfl rfl) hm.s0 rfl ⟨(fun _ => undef, 0), rfl⟩)) (fun γ_1165 => Ct.met_of rfl rfl) ?_
        refine DGG.step (c := fun γ_1165 => ⟨some 51, .ptr b4_0 (0 + 3), [(50, .ptr b4_0 0)], [], []⟩) [] (fun _ _ _ => rfl) (fun γ_1165 t hm => One.step rfl (.free rfl) (OpT.fieldPtr rfl (dl rfl rfl) Try.underlying98 rfl i28 (by decide) hm.s0 ⟨(fun _ => undef, 0), rfl⟩)) (fun γ_1165 => Ct.met_of rfl rfl) ?_
        refine DGG.step (c := fun γ_1165 => ⟨some 52, .ptr b4_0 (0 + 3 + 257), [(51, .ptr b4_0 (0 + 3))], [], []⟩) [] (fun _ _ _ => rfl) (fun γ_1165 t hm => One.step rfl (.free rfl) (OpT.fieldPtr rfl (dl rfl rfl) Try.underlying28 rfl i25 (by decide) hm.s0 ⟨(fun _ => undef, 0), rfl⟩)) (fun γ_1165 => Ct.met_of rfl rfl) ?_
        refine DGG.step (c := fun γ_1165 => ⟨some 53, .sl false 2 (y4_0_11.map (Arr2.dc .i64)), [(52, .ptr b4_0 (0 + 3 + 257))], [(5, .box b4_0 98 (([.d (.sl false 1 (x0.First.map (cI .i64))), .d (.sl false 9 (x0.P.map c_api_Pos)), .d (.ex w4_0)] : List OC) ++ ((ArrN.oc 256 .u8 y4_0_9) ++ (([.d (.int .i64 (0 : Int)), .d (.ex w4_0a), .d (.ex w4_0aa), .d (.int .i64 (0 : Int))] : List OC))))), (7, .arrA w4_0a 42 2 (y4_0_11.map (Arr2.dc .i64)))], []⟩) [] (fun _ _ _ => rfl) (fun γ_1165 t hm => One.step rfl (.free rfl) (OpT.thenTurn (OpT.loadBox (i := 5) rfl (dl rfl rfl) Try.underlying25 rfl hm.s0 hm.o0 rfl rfl) (Turn.viewP 53 7 hm.o1) ⟨(fun _ => undef, 0), rfl⟩)) (fun γ_1165 => Ct.met_of rfl rfl) ?_
        refine DGG.step (c := fun γ_1165 => ⟨some 54, .int .i64 (y4_0_11.length : Int), [(53, .sl false 2 (y4_0_11.map (Arr2.dc .i64)))], [], []⟩) [] (fun _ _ _ => rfl) (fun γ_1165 t hm => One.step rfl (.free rfl) (OpT.lenSlM (xs := y4_0_11) (f := (Arr2.dc .i64)) rfl (dl rfl rfl) Try.underlying25 hm.s0 ⟨(fun _ => undef, 0), rfl⟩)) (fun γ_1165 => Ct.met_of rfl rfl) ?_
        refine DGG.step (c := fun γ_1165 => ⟨some 55, .sl true 1 ([(y4_0_11.length : Int)].map (cI .i64)), [(54, .int .i64 (y4_0_11.length : Int))], [], []⟩) [] (fun _ _ _ => rfl) (fun γ_1165 t hm => One.step rfl (.free rfl) (OpT.buildSlice (elems := ([(y4_0_11.length : Int)] : List Int).map (cI .i64)) rfl (dl rfl rfl) Try.underlying56 i3 (by decide) rfl (all1 rfl) (parts_cons hm.s0 rfl parts_nil) rfl rfl (lenAll rfl) (by decide) ⟨(fun _ => undef, 0), rfl⟩)) (fun γ_1165 => Ct.met_of rfl rfl) ?_
        obtain ⟨g_1168, h⟩ := ck_some h
        refine DGG.step (c := fun γ_1165 => ⟨some 56, .c (.ex ((γ_1165 12).1 0)), [(55, .sl true 1 ([(y4_0_11.length : Int)].map (cI .i64))), (48, .c (.ex w4_0))], [(6, .arrA w4_0 3 1 (y4_0_8.map (cI .i64)))], [(6, .arrA ((γ_1165 12).1 0) 3 1 ((y4_0_8 ++ [(y4_0_11.length : Int)]).map (cI .i64)))]⟩) [12] (fun γ_1165 γ' h => by simp only [h 12 (by decide)]) (fun γ_1165 t hm => One.step rfl (.free rfl) (OpT.appendAM (i := 6) (xs := y4_0_8) (ys := [(y4_0_11.length : Int)]) (f := (cI .i64)) rfl (dl rfl rfl) Try.underlying56 i3 rfl hm.s1 hm.o0 hm.s0 g_1168 (fun w => ⟨(fun _ => w, 0), rfl⟩))) (fun γ_1165 => Ct.met_of rfl rfl) ?_
        refine DGG.step (c := fun γ_1165 => ⟨some 57, .ptr b4_0 0, [(44, .ptr b4_0 0)], [], []⟩) [] (fun _ _ _ => rfl) (fun γ_1165 t hm => One.step rfl (.free rfl) (OpT.nilCheck rfl (dl rfl rfl) hm.s0 rfl ⟨(fun _ => undef, 0), rfl⟩)) (fun γ_1165 => Ct.met_of rfl rfl) ?_
        refine DGG.step (c := fun γ_1165 => ⟨some 58, .ptr b4_0 (0 + 2), [(57, .ptr b4_0 0)], [], []⟩) [] (fun _ _ _ => rfl) (fun γ_1165 t hm => One.step rfl (.free rfl) (OpT.fieldPtr rfl (dl rfl rfl) Try.underlying98 rfl i56 (by decide) hm.s0 ⟨(fun _ => undef, 0), rfl⟩)) (fun γ_1165 => Ct.met_of rfl rfl) ?_
        refine DGG.step (c := fun γ_1165 => ⟨none, .any, [(58, .ptr b4_0 (0 + 2)), (56, .c (.ex ((γ_1165 12).1 0)))], [(5, .box b4_0 98 (([.d (.sl false 1 (x0.First.map (cI .i64))), .d (.sl false 9 (x0.P.map c_api_Pos)), .d (.ex w4_0)] : List OC) ++ ((ArrN.oc 256 .u8 y4_0_9) ++ (([.d (.int .i64 (0 : Int)), .d (.ex w4_0a), .d (.ex w4_0aa), .d (.int .i64 (0 : Int))] : List OC)))))], [(5, .box b4_0 98 (([.d (.sl false 1 (x0.First.map (cI .i64))), .d (.sl false 9 (x0.P.map c_api_Pos)), .d (.ex ((γ_1165 12).1 0))] : List OC) ++ ((ArrN.oc 256 .u8 y4_0_9) ++ (([.d (.int .i64 (0 : Int)), .d (.ex w4_0a), .d (.ex w4_0aa), .d (.int .i64 (0 : Int))] : List OC)))))]⟩) [12] (fun γ_1165 γ' h => by simp only [h 12 (by decide)]) (fun γ_1165 t hm => One.step rfl (.free rfl) (OpT.storeTo (i := 5) (cells' := (([.d (.sl false 1 (x0.First.map (cI .i64))), .d (.sl false 9 (x0.P.map c_api_Pos)), .d (.ex ((γ_1165 12).1 0))] : List OC) ++ ((ArrN.oc 256 .u8 y4_0_9) ++ (([.d (.int .i64 (0 : Int)), .d (.ex w4_0a), .d (.ex w4_0aa), .d (.int .i64 (0 : Int))] : List OC))))) rfl rfl i56 hm.s0 hm.s1 hm.o0 (Nat.le_of_ble_eq_true rfl) rfl ⟨(fun _ => undef, 0), rfl⟩)) (fun γ_1165 => Ct.met_of rfl rfl) ?_
        refine DGG.fin (s1 := fun γ_1165 => ⟨[(1, .ptr b1_0 0), (2, .ptr b2_0 0), (4, .ptr b4_0 0), (5, .c (.ex w_1162)), (6, .int .i64 x6_0_15)], [.ro 0 [], .box b1_0 71 [.d (.sl false 1 (x0.First.map (cI .i64))), .d (.sl false 9 (x0.P.map c_api_Pos))], .box b2_0 28 ((ArrN.oc 256 .u8 y2_0_2) ++ (([.d (.int .i64 (0 : Int)), .d (.ex w2_0), .d (.ex w2_0a)] : List OC))), .arrA w2_0 42 2 (y2_0_4.map (Arr2.dc .i64)), .arrX w2_0a 59 4 0 (y2_0_5.map c_api_State), .box b4_0 98 (([.d (.sl false 1 (x0.First.map (cI .i64))), .d (.sl false 9 (x0.P.map c_api_Pos)), .d (.ex ((γ_1165 12).1 0))] : List OC) ++ ((ArrN.oc 256 .u8 y4_0_9) ++ (([.d (.int .i64 (0 : Int)), .d (.ex w4_0a), .d (.ex w4_0aa), .d (.int .i64 (0 : Int))] : List OC)))), .arrA ((γ_1165 12).1 0) 3 1 ((y4_0_8 ++ [(y4_0_11.length : Int)]).map (cI .i64)), .arrA w4_0a 42 2 (y4_0_11.map (Arr2.dc .i64)), .arrX w4_0aa 59 4 0 (y4_0_12.map c_api_State), .arrA w_1162 102 4 ((y5_0_14 ++ [v_1160.S]).map (Arr4.dc .u64))]⟩) (ms := [0, 0, 2, 6, 14, 0, 32, 96, 224, 480, 992, 2016, 4094, 8191, 16383, 32767]) TryMixed rfl (by kernel_rfl) (by kernel_rfl) (by kernel_rfl) (fun γ_1165 => by kernel_rfl) (fun γ_1165 => .cons rfl (.cons rfl (.cons rfl (.cons rfl (.cons rfl (.nil _)))))) (fun _ => rfl) (fun γ_1165 u hu => (thenS_normal (T.by_turn hu ?_)))
        refine T.by_turn Turn.keepPlace ?_
        refine DGG.start ?_
        refine DGG.step (c := fun γ_1169 => ⟨some 59, .ptr b4_0 0, [(4, .ptr b4_0 0)], [], []⟩) [] (fun _ _ _ => rfl) (fun γ_1169 t hm => One.step rfl (.free rfl) (OpT.move rfl (dl rfl rfl) hm.s0 ⟨(fun _ => undef, 0), rfl⟩)) (fun γ_1169 => Ct.met_of rfl rfl) ?_
        refine DGG.step (c := fun γ_1169 => ⟨some 60, .ptr b4_0 0, [(4, .ptr b4_0 0)], [], []⟩) [] (fun _ _ _ => rfl) (fun γ_1169 t hm => One.step rfl (.free rfl) (OpT.move rfl (dl rfl rfl) hm.s0 ⟨(fun _ => undef, 0), rfl⟩)) (fun γ_1169 => Ct.met_of rfl rfl) ?_
        refine DGG.step (c := fun γ_1169 => ⟨some 61, .ptr b4_0 0, [(60, .ptr b4_0 0)], [], []⟩) [] (fun _ _ _ => rfl) (fun γ_1169 t hm => One.step rfl (.free rfl) (OpT.nilCheck rfl (dl rfl rfl) hm.s0 rfl ⟨(fun _ => undef, 0), rfl⟩)) (fun γ_1169 => Ct.met_of rfl rfl) ?_
        refine DGG.step (c := fun γ_1169 => ⟨some 62, .ptr b4_0 (0 + 3), [(61, .ptr b4_0 0)], [], []⟩) [] (fun _ _ _ => rfl) (fun γ_1169 t hm => One.step rfl (.free rfl) (OpT.fieldPtr rfl (dl rfl rfl) Try.underlying98 rfl i28 (by decide) hm.s0 ⟨(fun _ => undef, 0), rfl⟩)) (fun γ_1169 => Ct.met_of rfl rfl) ?_
        refine DGG.step (c := fun γ_1169 => ⟨some 63, .ptr b4_0 (0 + 3 + 257), [(62, .ptr b4_0 (0 + 3))], [], []⟩) [] (fun _ _ _ => rfl) (fun γ_1169 t hm => One.step rfl (.free rfl) (OpT.fieldPtr rfl (dl rfl rfl) Try.underlying28 rfl i25 (by decide) hm.s0 ⟨(fun _ => undef, 0), rfl⟩)) (fun γ_1169 => Ct.met_of rfl rfl) ?_
        refine DGG.step (c := fun γ_1169 => ⟨some 64, .c (.ex w4_0a), [(63, .ptr b4_0 (0 + 3 + 257))], [(6, .box b4_0 98 (([.d (.sl false 1 (x0.First.map (cI .i64))), .d (.sl false 9 (x0.P.map c_api_Pos)), .d (.ex ((γ_1165 12).1 0))] : List OC) ++ ((ArrN.oc 256 .u8 y4_0_9) ++ (([.d (.int .i64 (0 : Int)), .d (.ex w4_0a), .d (.ex w4_0aa), .d (.int .i64 (0 : Int))] : List OC)))))], []⟩) [] (fun _ _ _ => rfl) (fun γ_1169 t hm => One.step rfl (.free rfl) (OpT.loadBox (i := 6) rfl (dl rfl rfl) Try.underlying25 rfl hm.s0 hm.o0 rfl ⟨(fun _ => undef, 0), rfl⟩)) (fun γ_1169 => Ct.met_of rfl rfl) ?_
        refine DGG.step (c := fun γ_1169 => ⟨some 65, .ptr b1_0 (0 + 1), [(1, .ptr b1_0 0)], [], []⟩) [] (fun _ _ _ => rfl) (fun γ_1169 t hm => One.step rfl (.free rfl) (OpT.fieldPtr rfl (dl rfl rfl) Try.underlying71 rfl i69 (by decide) hm.s0 ⟨(fun _ => undef, 0), rfl⟩)) (fun γ_1169 => Ct.met_of rfl rfl) ?_
        refine DGG.step (c := fun γ_1169 => ⟨some 66, .sl false 9 (x0.P.map c_api_Pos), [(65, .ptr b1_0 (0 + 1))], [(2, .box b1_0 71 [.d (.sl false 1 (x0.First.map (cI .i64))), .d (.sl false 9 (x0.P.map c_api_Pos))])], []⟩) [] (fun _ _ _ => rfl) (fun γ_1169 t hm => One.step rfl (.free rfl) (OpT.loadBox (i := 2) rfl (dl rfl rfl) Try.underlying69 rfl hm.s0 hm.o0 rfl ⟨(fun _ => undef, 0), rfl⟩)) (fun γ_1169 => Ct.met_of rfl rfl) ?_
        refine DGG.step (c := fun γ_1169 => ⟨some 67, .int .i64 x6_0_15, [(6, .int .i64 x6_0_15)], [], []⟩) [] (fun _ _ _ => rfl) (fun γ_1169 t hm => One.step rfl (.free rfl) (OpT.move rfl (dl rfl rfl) hm.s0 ⟨(fun _ => undef, 0), rfl⟩)) (fun γ_1169 => Ct.met_of rfl rfl) ?_
        refine DGG.step (c := fun γ_1169 => ⟨some 68, .ref [.int .u64 v_1160.S.a0, .int .u64 v_1160.S.a1, .int .u64 v_1160.S.a2, .int .u64 v_1160.S.a3, .int .i64 v_1160.Lo, .int .i64 v_1160.Hi, .int .i64 v_1160.Rule, .bool v_1160.Last, .sl false 1 (v_1160.Next.map (cI .i64))], [(66, .sl false 9 (x0.P.map c_api_Pos)), (67, .int .i64 x6_0_15)], [], []⟩) [] (fun _ _ _ => rfl) (fun γ_1169 t hm => One.step rfl (.free rfl) (OpT.indexSlM (xs := x0.P) (f := c_api_Pos) (v := v_1160) rfl (dl rfl rfl) Try.underlying69 i104 hm.s0 hm.s1 e_1161 ⟨(fun _ => undef, 0), rfl⟩)) (fun γ_1169 => Ct.met_of rfl rfl) ?_
        refine DGG.step (c := fun γ_1169 => ⟨some 69, .ref [.int .i64 v_1160.Lo, .int .i64 v_1160.Hi, .int .i64 v_1160.Rule, .bool v_1160.Last, .sl false 1 (v_1160.Next.map (cI .i64))], [(68, .ref [.int .u64 v_1160.S.a0, .int .u64 v_1160.S.a1, .int .u64 v_1160.S.a2, .int .u64 v_1160.S.a3, .int .i64 v_1160.Lo, .int .i64 v_1160.Hi, .int .i64 v_1160.Rule, .bool v_1160.Last, .sl false 1 (v_1160.Next.map (cI .i64))])], [], []⟩) [] (fun _ _ _ => rfl) (fun γ_1169 t hm => One.step rfl (.free rfl) (OpT.fieldRef rfl (dl rfl rfl) Try.underlying104 rfl i3 (by decide) hm.s0 ⟨(fun _ => undef, 0), rfl⟩)) (fun γ_1169 => Ct.met_of rfl rfl) ?_
        refine DGG.step (c := fun γ_1169 => ⟨some 70, .int .i64 v_1160.Lo, [(69, .ref [.int .i64 v_1160.Lo, .int .i64 v_1160.Hi, .int .i64 v_1160.Rule, .bool v_1160.Last, .sl false 1 (v_1160.Next.map (cI .i64))])], [], []⟩) [] (fun _ _ _ => rfl) (fun γ_1169 t hm => One.step rfl (.free rfl) (OpT.loadRef rfl (dl rfl rfl) Try.underlying3 rfl hm.s0 rfl ⟨(fun _ => undef, 0), rfl⟩)) (fun γ_1169 => Ct.met_of rfl rfl) ?_
        refine DGG.step (c := fun γ_1169 => ⟨some 71, .ptr b1_0 (0 + 1), [(1, .ptr b1_0 0)], [], []⟩) [] (fun _ _ _ => rfl) (fun γ_1169 t hm => One.step rfl (.free rfl) (OpT.fieldPtr rfl (dl rfl rfl) Try.underlying71 rfl i69 (by decide) hm.s0 ⟨(fun _ => undef, 0), rfl⟩)) (fun γ_1169 => Ct.met_of rfl rfl) ?_
        refine DGG.step (c := fun γ_1169 => ⟨some 72, .sl false 9 (x0.P.map c_api_Pos), [(71, .ptr b1_0 (0 + 1))], [(2, .box b1_0 71 [.d (.sl false 1 (x0.First.map (cI .i64))), .d (.sl false 9 (x0.P.map c_api_Pos))])], []⟩) [] (fun _ _ _ => rfl) (fun γ_1169 t hm => One.step rfl (.free rfl) (OpT.loadBox (i := 2) rfl (dl rfl rfl) Try.underlying69 rfl hm.s0 hm.o0 rfl ⟨(fun _ => undef, 0), rfl⟩)) (fun γ_1169 => Ct.met_of rfl rfl) ?_
        refine DGG.step (c := fun γ_1169 => ⟨some 73, .int .i64 x6_0_15, [(6, .int .i64 x6_0_15)], [], []⟩) [] (fun _ _ _ => rfl) (fun γ_1169 t hm => One.step rfl (.free rfl) (OpT.move rfl (dl rfl rfl) hm.s0 ⟨(fun _ => undef, 0), rfl⟩)) (fun γ_1169 => Ct.met_of rfl rfl) ?_
        refine DGG.step (c := fun γ_1169 => ⟨some 74, .ref [.int .u64 v_1160.S.a0, .int .u64 v_1160.S.a1, .int .u64 v_1160.S.a2, .int .u64 v_1160.S.a3, .int .i64 v_1160.Lo, .int .i64 v_1160.Hi, .int .i64 v_1160.Rule, .bool v_1160.Last, .sl false 1 (v_1160.Next.map (cI .i64))], [(72, .sl false 9 (x0.P.map c_api_Pos)), (73, .int .i64 x6_0_15)], [], []⟩) [] (fun _ _ _ => rfl) (fun γ_1169 t hm => One.step rfl (.free rfl) (OpT.indexSlM (xs := x0.P) (f := c_api_Pos) (v := v_1160) rfl (dl rfl rfl) Try.underlying69 i104 hm.s0 hm.s1 e_1161 ⟨(fun _ => undef, 0), rfl⟩)) (fun γ_1169 => Ct.met_of rfl rfl) ?_
        refine DGG.step (c := fun γ_1169 => ⟨some 75, .ref [.int .i64 v_1160.Hi, .int .i64 v_1160.Rule, .bool v_1160.Last, .sl false 1 (v_1160.Next.map (cI .i64))], [(74, .ref [.int .u64 v_1160.S.a0, .int .u64 v_1160.S.a1, .int .u64 v_1160.S.a2, .int .u64 v_1160.S.a3, .int .i64 v_1160.Lo, .int .i64 v_1160.Hi, .int .i64 v_1160.Rule, .bool v_1160.Last, .sl false 1 (v_1160.Next.map (cI .i64))])], [], []⟩) [] (fun _ _ _ => rfl) (fun γ_1169 t hm => One.step rfl (.free rfl) (OpT.fieldRef rfl (dl rfl rfl) Try.underlying104 rfl i3 (by decide) hm.s0 ⟨(fun _ => undef, 0), rfl⟩)) (fun γ_1169 => Ct.met_of rfl rfl) ?_
        refine DGG.step (c := fun γ_1169 => ⟨some 76, .int .i64 v_1160.Hi, [(75, .ref [.int .i64 v_1160.Hi, .int .i64 v_1160.Rule, .bool v_1160.Last, .sl false 1 (v_1160.Next.map (cI .i64))])], [], []⟩) [] (fun _ _ _ => rfl) (fun γ_1169 t hm => One.step rfl (.free rfl) (OpT.loadRef rfl (dl rfl rfl) Try.underlying3 rfl hm.s0 rfl ⟨(fun _ => undef, 0), rfl⟩)) (fun γ_1169 => Ct.met_of rfl rfl) ?_
        refine DGG.step (c := fun γ_1169 => ⟨some 77, .agg (Arr2.dc .i64 (Arr2.mk v_1160.Lo v_1160.Hi)), [(70, .int .i64 v_1160.Lo), (76, .int .i64 v_1160.Hi)], [], []⟩) [] (fun _ _ _ => rfl) (fun γ_1169 t hm => One.step rfl (.free rfl) (OpT.build (l := (Arr2.dc .i64 (Arr2.mk v_1160.Lo v_1160.Hi))) rfl (dl rfl rfl) (built_arr Try.underlying42 i42 i3) (all1 rfl) (parts_cons hm.s0 rfl (parts_cons hm.s1 rfl parts_nil)) rfl ⟨(fun _ => undef, 0), rfl⟩)) (fun γ_1169 => Ct.met_of rfl rfl) ?_
        refine DGG.step (c := fun γ_1169 => ⟨some 78, .sl true 2 ([(Arr2.mk v_1160.Lo v_1160.Hi)].map (Arr2.dc .i64)), [(77, .agg (Arr2.dc .i64 (Arr2.mk v_1160.Lo v_1160.Hi)))], [], []⟩) [] (fun _ _ _ => rfl) (fun γ_1169 t hm => One.step rfl (.free rfl) (OpT.buildSlice (elems := ([(Arr2.mk v_1160.Lo v_1160.Hi)] : List Arr2).map (Arr2.dc .i64)) rfl (dl rfl rfl) Try.underlying25 i42 (by decide) rfl (all1 rfl) (parts_cons hm.s0 rfl parts_nil) rfl rfl (lenAll rfl) (by decide) ⟨(fun _ => undef, 0), rfl⟩)) (fun γ_1169 => Ct.met_of rfl rfl) ?_
        obtain ⟨g_1172, h⟩ := ck_some h
        refine DGG.step (c := fun γ_1169 => ⟨some 79, .c (.ex ((γ_1169 20).1 0)), [(78, .sl true 2 ([(Arr2.mk v_1160.Lo v_1160.Hi)].map (Arr2.dc .i64))), (64, .c (.ex w4_0a))], [(8, .arrA w4_0a 42 2 (y4_0_11.map (Arr2.dc .i64)))], [(8, .arrA ((γ_1169 20).1 0) 42 2 ((y4_0_11 ++ [(Arr2.mk v_1160.Lo v_1160.Hi)]).map (Arr2.dc .i64)))]⟩) [20] (fun γ_1169 γ' h => by simp only [h 20 (by decide)]) (fun γ_1169 t hm => One.step rfl (.free rfl) (OpT.appendAM (i := 8) (xs := y4_0_11) (ys := [(Arr2.mk v_1160.Lo v_1160.Hi)]) (f := (Arr2.dc .i64)) rfl (dl rfl rfl) Try.underlying25 i42 rfl hm.s1 hm.o0 hm.s0 g_1172 (fun w => ⟨(fun _ => w, 0), rfl⟩))) (fun γ_1169 => Ct.met_of rfl rfl) ?_
        refine DGG.step (c := fun γ_1169 => ⟨some 80, .ptr b4_0 0, [(59, .ptr b4_0 0)], [], []⟩) [] (fun _ _ _ => rfl) (fun γ_1169 t hm => One.step rfl (.free rfl) (OpT.nilCheck rfl (dl rfl rfl) hm.s0 rfl ⟨(fun _ => undef, 0), rfl⟩)) (fun γ_1169 => Ct.met_of rfl rfl) ?_
        refine DGG.step (c := fun γ_1169 => ⟨some 81, .ptr b4_0 (0 + 3), [(80, .ptr b4_0 0)], [], []⟩) [] (fun _ _ _ => rfl) (fun γ_1169 t hm => One.step rfl (.free rfl) (OpT.fieldPtr rfl (dl rfl rfl) Try.underlying98 rfl i28 (by decide) hm.s0 ⟨(fun _ => undef, 0), rfl⟩)) (fun γ_1169 => Ct.met_of rfl rfl) ?_
        refine DGG.step (c := fun γ_1169 => ⟨some 82, .ptr b4_0 (0 + 3 + 257), [(81, .ptr b4_0 (0 + 3))], [], []⟩) [] (fun _ _ _ => rfl) (fun γ_1169 t hm => One.step rfl (.free rfl) (OpT.fieldPtr rfl (dl rfl rfl) Try.underlying28 rfl i25 (by decide) hm.s0 ⟨(fun _ => undef, 0), rfl⟩)) (fun γ_1169 => Ct.met_of rfl rfl) ?_
        refine DGG.step (c := fun γ_1169 => ⟨none, .any, [(82, .ptr b4_0 (0 + 3 + 257)), (79, .c (.ex ((γ_1169 20).1 0)))], [(6, .box b4_0 98 (([.d (.sl false 1 (x0.First.map (cI .i64))), .d (.sl false 9 (x0.P.map c_api_Pos)), .d (.ex ((γ_1165 12).1 0))] : List OC) ++ ((ArrN.oc 256 .u8 y4_0_9) ++ (([.d (.int .i64 (0 : Int)), .d (.ex w4_0a), .d (.ex w4_0aa), .d (.int .i64 (0 : Int))] : List OC)))))], [(6, .box b4_0 98 (([.d (.sl false 1 (x0.First.map (cI .i64))), .d (.sl false 9 (x0.P.map c_api_Pos)), .d (.ex ((γ_1165 12).1 0))] : List OC) ++ ((ArrN.oc 256 .u8 y4_0_9) ++ (([.d (.int .i64 (0 : Int)), .d (.ex ((γ_1169 20).1 0)), .d (.ex w4_0aa), .d (.int .i64 (0 : Int))] : List OC)))))]⟩) [20] (fun γ_1169 γ' h => by simp only [h 20 (by decide)]) (fun γ_1169 t hm => One.step rfl (.free rfl) (OpT.storeTo (i := 6) (cells' := (([.d (.sl false 1 (x0.First.map (cI .i64))), .d (.sl false 9 (x0.P.map c_api_Pos)), .d (.ex ((γ_1165 12).1 0))] : List OC) ++ ((ArrN.oc 256 .u8 y4_0_9) ++ (([.d (.int .i64 (0 : Int)), .d (.ex ((γ_1169 20).1 0)), .d (.ex w4_0aa), .d (.int .i64 (0 : Int))] : List OC))))) rfl rfl i25 hm.s0 hm.s1 hm.o0 (Nat.le_of_ble_eq_true rfl) rfl ⟨(fun _ => undef, 0), rfl⟩)) (fun γ_1169 => Ct.met_of rfl rfl) ?_
        refine DGG.fin (s1 := fun γ_1169 => ⟨[(1, .ptr b1_0 0), (2, .ptr b2_0 0), (4, .ptr b4_0 0), (5, .c (.ex w_1162)), (6, .int .i64 x6_0_15)], [.ro 0 [], .ro 0 [], .box b1_0 71 [.d (.sl false 1 (x0.First.map (cI .i64))), .d (.sl false 9 (x0.P.map c_api_Pos))], .box b2_0 28 ((ArrN.oc 256 .u8 y2_0_2) ++ (([.d (.int .i64 (0 : Int)), .d (.ex w2_0), .d (.ex w2_0a)] : List OC))), .arrA w2_0 42 2 (y2_0_4.map (Arr2.dc .i64)), .arrX w2_0a 59 4 0 (y2_0_5.map c_api_State), .box b4_0 98 (([.d (.sl false 1 (x0.First.map (cI .i64))), .d (.sl false 9 (x0.P.map c_api_Pos)), .d (.ex ((γ_1165 12).1 0))] : List OC) ++ ((ArrN.oc 256 .u8 y4_0_9) ++ (([.d (.int .i64 (0 : Int)), .d (.ex ((γ_1169 20).1 0)), .d (.ex w4_0aa), .d (.int .i64 (0 : Int))] : List OC)))), .arrA ((γ_1165 12).1 0) 3 1 ((y4_0_8 ++ [(y4_0_11.length : Int)]).map (cI .i64)), .arrA ((γ_1169 20).1 0) 42 2 ((y4_0_11 ++ [(Arr2.mk v_1160.Lo v_1160.Hi)]).map (Arr2.dc .i64)), .arrX w4_0aa 59 4 0 (y4_0_12.map c_api_State), .arrA w_1162 102 4 ((y5_0_14 ++ [v_1160.S]).map (Arr4.dc .u64))]⟩) (ms := [0, 0, 2, 6, 14, 30, 0, 64, 0, 448, 960, 1984, 0, 4096, 0, 28672, 61440, 126976, 262080, 524224, 1048574, 2097151, 4194303, 8388607, 16777215]) TryMixed rfl (by kernel_rfl) (by kernel_rfl) (by kernel_rfl) (fun γ_1169 => by kernel_rfl) (fun γ_1169 => .cons rfl (.cons rfl (.cons rfl (.cons rfl (.cons rfl (.nil _)))))) (fun _ => rfl) (fun γ_1169 u hu => (inBlock_normal (thenS_normal (T.by_turn hu ?_))))
        refine T.regionL ?_
        refine mv rfl rfl rfl rfl rfl ?_
        refine sp rfl (OpT.int2 rfl rfl (dl rfl rfl) rfl rfl ?_)
        refine asg rfl rfl rfl rfl rfl ?_
        refine TL'.nil (thenS_normal ?_)
        refine TL.by_turn ?_ (ih (IntKind.i64.wrap (x6_0_15 + (1 : Int))) x0 y2_0_2 y2_0_4 y2_0_5 y4_0_9 (y4_0_8 ++ [(y4_0_11.length : Int)]) (y4_0_11 ++ [(Arr2.mk v_1160.Lo v_1160.Hi)]) y4_0_12 (y5_0_14 ++ [v_1160.S]) b1_0 b2_0 w2_0 w2_0a b4_0 ((γ_1165 12).1 0) ((γ_1169 20).1 0) w4_0aa w_1162 h)
        exact Turn.rp (.cons rfl (.cons rfl (.cons rfl (.cons rfl (.cons rfl (.nil _)))))) (.c (.s (.s .z)) (.c (.s (.s .z)) (.c (.s (.s .z)) (.c (.s (.s .z)) (.c (.s (.s .z)) (.c (.s (.s .z)) (.c (.s (.s .z)) (.c (.s (.s .z)) (.c (.s (.s .z)) (.n _))))))))))
      · refine T.condF rfl c_1164 ?_
        refine T.regionL ?_
        refine mv rfl rfl rfl rfl rfl ?_
        refine mv rfl rfl rfl rfl rfl ?_
        refine sp rfl (OpT.nilCheck rfl (dl rfl rfl) rfl rfl ?_)
        refine sp rfl (OpT.fieldPtr rfl (dl rfl rfl) Try.underlying98 rfl i56 (by decide) rfl ?_)
        refine sp rfl (OpT.loadBox (i := 4) rfl (dl rfl rfl) Try.underlying56 rfl rfl rfl rfl ?_)
        refine sp rfl (OpT.buildSlice (elems := ([(-1 : Int)] : List Int).map (cI .i64)) rfl (dl rfl rfl) Try.underlying56 i3 (by decide) rfl (all1 rfl) rfl rfl rfl (lenAll rfl) (by decide) ?_)
        obtain ⟨g_1174, h⟩ := ck_some h
        refine sp rfl (OpT.appendAM (i := 5) (xs := y4_0_8) (ys := [(-1 : Int)]) (f := (cI .i64)) rfl (dl rfl rfl) Try.underlying56 i3 rfl rfl rfl rfl g_1174 (fun w_1173 => ?_))
        refine sp rfl (OpT.nilCheck rfl (dl rfl rfl) rfl rfl ?_)
        refine sp rfl (OpT.fieldPtr rfl (dl rfl rfl) Try.underlying98 rfl i56 (by decide) rfl ?_)
        refine sp rfl (OpT.storeTo (i := 4) (cells' := (([.d (.sl false 1 (x0.First.map (cI .i64))), .d (.sl false 9 (x0.P.map c_api_Pos)), .d (.ex w_1173)] : List OC) ++ ((ArrN.oc 256 .u8 y4_0_9) ++ (([.d (.int .i64 (0 : Int)), .d (.ex w4_0a), .d (.ex w4_0aa), .d (.int .i64 (0 : Int))] : List OC))))) rfl rfl i56 rfl rfl rfl (Nat.le_of_ble_eq_true rfl) rfl ?_)
        refine TL'.nil (inBlock_normal (thenS_normal ?_))
        refine T.regionL ?_
        refine mv rfl rfl rfl rfl rfl ?_
        refine sp rfl (OpT.int2 rfl rfl (dl rfl rfl) rfl rfl ?_)
        refine asg rfl rfl rfl rfl rfl ?_
        refine TL'.nil (thenS_normal ?_)
        refine TL.by_turn ?_ (ih (IntKind.i64.wrap (x6_0_15 + (1 : Int))) x0 y2_0_2 y2_0_4 y2_0_5 y4_0_9 (y4_0_8 ++ [(-1 : Int)]) y4_0_11 y4_0_12 (y5_0_14 ++ [v_1160.S]) b1_0 b2_0 w2_0 w2_0a b4_0 w_1173 w4_0a w4_0aa w_1162 h)
        exact Turn.rp (.cons rfl (.cons rfl (.cons rfl (.cons rfl (.cons rfl (.nil _)))))) (.c .z (.c .z (.c .z (.c .z (.c .z (.c .z (.c .z (.c .z (.c .z (.n _))))))))))
    · refine T.condF rfl c_1159 ?_
      refine T.exit (thenS_exit (thenS_exit (inBlock_exit (thenS_normal ?_))))
      refine T.seq ?_
      refine T.regionL ?_
      refine mv rfl rfl rfl rfl rfl ?_
      refine mv rfl rfl rfl rfl rfl ?_
      obtain ⟨v_1175, e_1176, h⟩ := bind_some h
      refine sp rfl (OpT.callPA rfl (dl rfl rfl) Try.func49 rfl rfl (Args.view (i := 8) rfl rfl Args.nil) (CallR.nil (raddleref02_Of_T K (flx0 := false) e_1176)) ?_)
      refine sp rfl (OpT.nilCheck rfl (dl rfl rfl) rfl rfl ?_)
      refine sp rfl (OpT.fieldPtr rfl (dl rfl rfl) Try.underlying98 rfl i28 (by decide) rfl ?_)
      refine sp rfl (OpT.fieldPtr rfl (dl rfl rfl) Try.underlying28 rfl i24 (by decide) rfl ?_)
      refine sp rfl (OpT.storeAggTo (i := 4) (cells' := (([.d (.sl false 1 (x0.First.map (cI .i64))), .d (.sl false 9 (x0.P.map c_api_Pos)), .d (.ex w4_0)] : List OC) ++ ((ArrN.oc 256 .u8 v_1175.Of) ++ (([.d (.int .i64 v_1175.Many), .d (.ex w4_0a), .d (.ex w4_0aa), .d (.int .i64 (0 : Int))] : List OC))))) rfl rfl i24 rfl rfl rfl rfl (Nat.le_of_ble_eq_true rfl) rfl ?_)
      refine TL'.nil (thenS_normal ?_)
      refine T.seq ?_
      refine T.regionL ?_
      refine mv rfl rfl rfl rfl rfl ?_
      refine sp rfl (OpT.thenTurn (OpT.build (l := [.ex (.slice none 0 0), .ex (.slice none 0 0), .ex (.slice none 0 0), .ex (.slice none 0 0)]) rfl (dl rfl rfl) (built_struct (pl := [(0, 1), (1, 1), (2, 1), (3, 1)]) Try.underlying59 i59 rfl) (all1 rfl) rfl rfl rfl) (Turn.weakSlotP 99 (l := [.ex (.slice none 0 0), .ex (.slice none 0 0), .ex (.slice none 0 0), .ex (.slice none 0 0)]) (l' := [.sl false 1 (([] : List Int).map (cI .i64)), .sl false 1 (([] : List Int).map (cI .i64)), .ex (.slice none 0 0), .ex (.slice none 0 0)]) (.cons (.nil _ _) (.cons (.nil _ _) (.cons (.same _) (.cons (.same _) (.refl _)))))) ?_)
      refine TL'.turn (Turn.weakSlot 99 (l := [.sl false 1 (([] : List Int).map (cI .i64)), .sl false 1 (([] : List Int).map (cI .i64)), .ex (.slice none 0 0), .ex (.slice none 0 0)]) (l' := [.sl false 1 (([] : List Int).map (cI .i64)), .sl false 1 (([] : List Int).map (cI .i64)), .sl false 1 (([] : List Int).map (cI .i64)), .sl false 1 (([] : List (List api_Move)).map (cL 2 c_api_Move))]) rfl (.cons (.same _) (.cons (.same _) (.cons (.nil _ _) (.cons (.nil _ _) (.refl _)))))) ?_
      refine sp rfl (OpT.buildSliceX (elems := ([(api_State.mk [] [] [] [])] : List api_State).map c_api_State) rfl (dl rfl rfl) Try.underlying26 i59 (by decide) rfl (all1 rfl) rfl rfl rfl (lenAll rfl) (by decide) (fun b_1177 => ?_))
      refine sp rfl (OpT.nilCheck rfl (dl rfl rfl) rfl rfl ?_)
      refine sp rfl (OpT.fieldPtr rfl (dl rfl rfl) Try.underlying98 rfl i28 (by decide) rfl ?_)
      refine sp rfl (OpT.fieldPtr rfl (dl rfl rfl) Try.underlying28 rfl i26 (by decide) rfl ?_)
      refine sp rfl (OpT.storeTo (i := 5) (cells' := (([.d (.sl false 1 (x0.First.map (cI .i64))), .d (.sl false 9 (x0.P.map c_api_Pos)), .d (.ex w4_0)] : List OC) ++ ((ArrN.oc 256 .u8 v_1175.Of) ++ (([.d (.int .i64 v_1175.Many), .d (.ex w4_0a), .d (.ex (.slice (some ⟨b_1177, 0, none⟩) 1 1)), .d (.int .i64 (0 : Int))] : List OC))))) rfl rfl i26 rfl rfl rfl (Nat.le_of_ble_eq_true rfl) rfl ?_)
      refine TL'.nil (thenS_normal ?_)
      refine T.seq ?_
      refine T.seq ?_
      refine T.regionL ?_
      refine asg rfl rfl rfl rfl rfl ?_
      refine TL'.nil (thenS_normal ?_)
      refine T.block ?_
      refine T.loop ?_
      refine TL.by_turn ?_ (raddleref11_Of_l1_T K K (0 : Int) y2_0_2 y2_0_4 y2_0_5 x0.First x0.P v_1175.Of v_1175.Many (0 : Int) y4_0_8 y4_0_11 [(api_State.mk [] [] [] [])] b2_0 w2_0 w2_0a b4_0 w4_0 w4_0a (.slice (some ⟨b_1177, 0, none⟩) 1 1) h)
      exact Turn.rp (.cons rfl (.cons rfl (.cons rfl (.nil _)))) (.c (.s (.s .z)) (.c (.s (.s .z)) (.c (.s (.s .z)) (.c (.s (.s .z)) (.c (.s (.s .z)) (.c (.s (.s .z)) (.c .z (.n _))))))))

theorem raddleref11_Of_T (K : Nat) {x0 : api_Glush} {r : api_Auto × Int} (h : raddleref11_Of K x0 = some r) : CallR Try.prog 26 [.agg [.sl false 1 (x0.First.map (cI .i64)), .sl false 9 (x0.P.map c_api_Pos)]] [] (.tup [.agg ((ArrN.dc 256 .u8 r.1.Split.Of) ++ (([.int .i64 r.1.Split.Many, .sl false 2 (r.1.Counts.map (Arr2.dc .i64)), .sl false 4 (r.1.States.map c_api_State)] : List DC))), .int .i64 r.2]) := by
  refine CallT.intro Try.func26 rfl (Nat.le_of_ble_eq_true rfl) ?_
  show T Try.prog 198 (Code.at [] (codeOf Try.f26)) ⟨paramSlots 0 [.agg [.sl false 1 (x0.First.map (cI .i64)), .sl false 9 (x0.P.map c_api_Pos)]], []⟩ (raddleref11_Of_q r)
  unfold raddleref11_Of at h
  refine T.seq ?_
  refine T.regionL ?_
  refine sp rfl (OpT.boxAgg rfl (dl rfl rfl) rfl (fun b_1153 => ?_))
  refine sp rfl (OpT.alloc' rfl (dl rfl rfl) i28 rfl (fun b_1154 => ?_))
  refine asg rfl rfl rfl rfl rfl ?_
  refine TL'.nil (thenS_normal ?_)
  refine T.seq ?_
  refine T.seq ?_
  refine T.regionL ?_
  refine sp rfl (OpT.loadBoxAgg (i := 1) (l := [.sl false 1 (x0.First.map (cI .i64)), .sl false 9 (x0.P.map c_api_Pos)]) rfl (dl rfl rfl) Try.underlying71 rfl i71 rfl rfl rfl rfl ?_)
  obtain ⟨v_1155, e_1156, h⟩ := bind_some h
  refine sp rfl (OpT.callPA rfl (dl rfl rfl) Try.func48 rfl rfl (Args.cons rfl Args.nil) (CallR.nil (raddleref09_Right_T K e_1156)) ?_)
  refine sp rfl (OpT.not rfl (dl rfl rfl) rfl ?_)
  refine TL'.nil (thenS_normal ?_)
  rcases bif_some h with ⟨c_1157, h⟩ | ⟨c_1157, h⟩
  · refine T.condT rfl c_1157 ?_
    refine T.seq ?_
    refine T.regionL ?_
    refine sp rfl (OpT.build (l := ((ArrN.dc 256 .u8 (ArrN.mk fun _ => 0)) ++ (([.int .i64 (0 : Int), .ex (.slice none 0 0), .ex (.slice none 0 0)] : List DC)))) rfl (dl rfl rfl) (built_struct (pl := [(0, 257), (257, 1), (258, 1)]) Try.underlying28 i28 rfl) (all1 rfl) rfl rfl ?_)
    refine sp rfl (OpT.storeAggTo (i := 0) (cells' := ((ArrN.oc 256 .u8 (ArrN.mk fun _ => 0)) ++ (([.d (.int .i64 (0 : Int)), .d (.ex (.slice none 0 0)), .d (.ex (.slice none 0 0))] : List OC)))) rfl rfl i28 rfl rfl rfl rfl (Nat.le_of_ble_eq_true rfl) rfl ?_)
    refine asg rfl rfl rfl rfl rfl ?_
    refine TL'.nil (thenS_normal ?_)
    refine T.ret (thenS_ret ?_)
    refine Fin.turn (Turn.weakBox 0 (l := ((ArrN.dc 256 .u8 (ArrN.mk fun _ => 0)) ++ (([.int .i64 (0 : Int), .ex (.slice none 0 0), .ex (.slice none 0 0)] : List DC)))) (l' := ((ArrN.dc 256 .u8 (ArrN.mk fun _ => 0)) ++ (([.int .i64 (0 : Int), .sl false 2 (([] : List Arr2).map (Arr2.dc .i64)), .sl false 4 (([] : List api_State).map c_api_State)] : List DC)))) rfl (.app _ (.cons (.same _) (.cons (.nil _ _) (.cons (.nil _ _) (.refl _)))))) ?_
    exact Fin.done (.cons _ _ _ _ (.cellAgg 2 28 _ 0 0 28 _ ((ArrN.dc 256 .u8 (ArrN.mk fun _ => 0)) ++ (([.int .i64 (0 : Int), .sl false 2 (([] : List Arr2).map (Arr2.dc .i64)), .sl false 4 (([] : List api_State).map c_api_State)] : List DC))) _ _ 259 _ rfl rfl rfl rfl Try.underlying28 rfl i28) (.cons _ _ _ _ (.tmp 3 _ rfl) .nil)) (by cases h; exact ⟨rfl, rfl⟩)
  · refine T.condF rfl c_1157 ?_
    refine T.skip (thenS_normal ?_)
    refine T.seq ?_
    refine T.regionL ?_
    refine sp rfl (OpT.loadBoxAgg (i := 1) (l := [.sl false 1 (x0.First.map (cI .i64)), .sl false 9 (x0.P.map c_api_Pos)]) rfl (dl rfl rfl) Try.underlying71 rfl i71 rfl rfl rfl rfl ?_)
    refine sp rfl (OpT.build (l := (([.sl false 1 (x0.First.map (cI .i64)), .sl false 9 (x0.P.map c_api_Pos), .ex (.slice none 0 0)] : List DC) ++ ((ArrN.dc 256 .u8 (ArrN.mk fun _ => 0)) ++ (([.int .i64 (0 : Int), .ex (.slice none 0 0), .ex (.slice none 0 0), .int .i64 (0 : Int)] : List DC))))) rfl (dl rfl rfl) (built_struct (pl := [(0, 2), (2, 1), (3, 259), (262, 1)]) Try.underlying98 i98 rfl) (all1 rfl) rfl rfl ?_)
    refine sp rfl (OpT.boxAgg rfl (dl rfl rfl) rfl (fun b_1158 => ?_))
    refine asg rfl rfl rfl rfl rfl ?_
    refine TL'.nil (thenS_normal ?_)
    refine T.seq ?_
    refine T.regionL ?_
    refine asg rfl rfl rfl rfl rfl ?_
    refine TL'.nil (thenS_normal ?_)
    refine T.seq ?_
    refine T.seq ?_
    refine T.regionL ?_
    refine asg rfl rfl rfl rfl rfl ?_
    refine TL'.nil (thenS_normal ?_)
    refine T.block ?_
    refine T.loop ?_
    refine TL.by_turn (Turn.nilA 102 4) ?_
    refine TL.by_turn (Turn.nilA 42 2) ?_
    refine TL.by_turn (Turn.nilX 59 4) ?_
    refine TL.by_turn (Turn.nilA 3 1) ?_
    refine TL.by_turn (Turn.nilA 42 2) ?_
    refine TL.by_turn (Turn.nilX 59 4) ?_
    refine TL.by_turn ?_ (raddleref11_Of_l0_T K K (0 : Int) x0 (ArrN.mk fun _ => 0) [] [] (ArrN.mk fun _ => 0) [] [] [] [] b_1153 b_1154 (nilv 44) (nilv 45) b_1158 (nilv 46) (nilv 47) (nilv 48) (nilv 43) h)
    exact Turn.rp (.cons rfl (.cons rfl (.cons rfl (.cons rfl (.cons rfl (.nil _)))))) (.c (.s (.s (.s (.s (.s (.s (.s (.s .z)))))))) (.c (.s (.s (.s (.s (.s (.s (.s .z))))))) (.c (.s (.s (.s (.s .z)))) (.c (.s (.s (.s .z))) (.c (.s (.s (.s (.s .z)))) (.c (.s (.s .z)) (.c (.s .z) (.c .z (.c .z (.n _))))))))))

abbrev raddlelaw14_shown_q (r : Bool) : Exit → St → Prop := retS Try.prog Try.f13 (fun y t => y = (.bool r) ∧ t = [])

theorem raddlelaw14_shown_T (K : Nat) {r : Bool} (h : raddlelaw14_shown K = some r) : CallR Try.prog 13 [] [] (.bool r) := by
  refine CallT.intro Try.func13 rfl (Nat.le_of_ble_eq_true rfl) ?_
  show T Try.prog 39 (Code.at [] (codeOf Try.f13)) ⟨paramSlots 0 [], []⟩ (raddlelaw14_shown_q r)
  unfold raddlelaw14_shown at h
  refine T.seq ?_
  refine T.regionL ?_
  refine asg rfl rfl rfl rfl rfl ?_
  refine TL'.nil (thenS_normal ?_)
  refine T.seq ?_
  refine T.regionL ?_
  refine sp rfl (OpT.thenTurn (OpT.build (l := [.ex (.slice none 0 0), .ex (.slice none 0 0)]) rfl (dl rfl rfl) (built_struct (pl := [(0, 1), (1, 1)]) Try.underlying71 i71 rfl) (all1 rfl) rfl rfl rfl) (Turn.weakSlotP 6 (l := [.ex (.slice none 0 0), .ex (.slice none 0 0)]) (l' := [.sl false 1 (([] : List Int).map (cI .i64)), .sl false 9 (([] : List api_Pos).map c_api_Pos)]) (.cons (.nil _ _) (.cons (.nil _ _) (.refl _)))) ?_)
  obtain ⟨v_61, e_62, h⟩ := bind_some h
  refine sp rfl (OpT.callPA rfl (dl rfl rfl) Try.func26 rfl rfl (Args.cons rfl Args.nil) (CallR.nil (raddleref11_Of_T K e_62)) ?_)
  refine mv rfl rfl rfl rfl rfl ?_
  refine sp rfl (OpT.extract rfl (dl rfl rfl) rfl rfl ?_)
  refine sp rfl (OpT.extract rfl (dl rfl rfl) rfl rfl ?_)
  refine sp rfl (OpT.alloc' rfl (dl rfl rfl) i28 rfl (fun b_63 => ?_))
  refine sp rfl (OpT.storeAggTo (i := 0) (cells' := ((ArrN.oc 256 .u8 v_61.1.Split.Of) ++ (([.d (.int .i64 v_61.1.Split.Many), .d (.sl false 2 (v_61.1.Counts.map (Arr2.dc .i64))), .d (.sl false 4 (v_61.1.States.map c_api_State))] : List OC)))) rfl rfl i28 rfl rfl rfl rfl (Nat.le_of_ble_eq_true rfl) rfl ?_)
  refine asg rfl rfl rfl rfl rfl ?_
  refine TL'.nil (thenS_normal ?_)
  refine T.seq ?_
  refine T.regionL ?_
  refine sp rfl (OpT.loadBoxAgg (i := 0) (l := ((ArrN.dc 256 .u8 v_61.1.Split.Of) ++ (([.int .i64 v_61.1.Split.Many, .sl false 2 (v_61.1.Counts.map (Arr2.dc .i64)), .sl false 4 (v_61.1.States.map c_api_State)] : List DC)))) rfl (dl rfl rfl) Try.underlying28 rfl i28 rfl rfl rfl rfl ?_)
  obtain ⟨v_64, e_65, h⟩ := bind_some h
  refine sp rfl (OpT.callPA rfl (dl rfl rfl) Try.func10 rfl rfl (Args.cons rfl Args.nil) (CallR.nil (table_Encode_T K e_65)) ?_)
  refine mv rfl rfl rfl rfl rfl ?_
  refine sp rfl (OpT.extract rfl (dl rfl rfl) rfl rfl ?_)
  refine sp rfl (OpT.extract rfl (dl rfl rfl) rfl rfl ?_)
  refine asg rfl rfl rfl rfl rfl ?_
  refine asg rfl rfl rfl rfl rfl ?_
  refine TL'.nil (thenS_normal ?_)
  refine T.seq ?_
  refine T.regionL ?_
  refine mv rfl rfl rfl rfl rfl ?_
  refine sp rfl (OpT.int2 rfl rfl (dl rfl rfl) rfl rfl ?_)
  refine mv rfl rfl rfl rfl rfl ?_
  rcases bif_some h with ⟨c_66, h⟩ | ⟨c_66, h⟩
  · refine TL'.step (.on rfl rfl rfl c_66) (OpT.move rfl (dl rfl rfl) rfl ?_)
    refine TL'.step (.on rfl rfl rfl c_66) (OpT.lenSlM (xs := v_64.1) (f := (cI .u8)) rfl (dl rfl rfl) Try.underlying29 rfl ?_)
    refine TL'.step (.on rfl rfl rfl c_66) (OpT.int2 rfl rfl (dl rfl rfl) rfl rfl ?_)
    refine sp rfl (OpT.pickT rfl (dl rfl rfl) rfl c_66 rfl ?_)
    refine mv rfl rfl rfl rfl rfl ?_
    rcases bif_some h with ⟨c_67, h⟩ | ⟨c_67, h⟩
    · refine TL'.step (.on rfl rfl rfl c_67) (OpT.move rfl (dl rfl rfl) rfl ?_)
      obtain ⟨g_68, h⟩ := ck_some h
      refine TL'.step (.on rfl rfl rfl c_67) (OpT.sliceM (xs := v_64.1) (f := (cI .u8)) (l := 0) (h := (Int.toNat (4 : Int))) rfl (dl rfl rfl) Try.underlying29 i5 rfl (.none _) (.some _ _ _ _ rfl g_68.1) g_68.2.1 g_68.2.2 ?_)
      refine TL'.step (.on rfl rfl rfl c_67) (OpT.convBytes (xs := ((v_64.1.take (Int.toNat (4 : Int))).drop 0)) rfl (dl rfl rfl) Try.underlying29 Try.underlying5 Try.underlying9 rfl ?_)
      refine TL'.step (.on rfl rfl rfl c_67) (OpT.str_eql rfl (dl rfl rfl) rfl rfl ?_)
      refine sp rfl (OpT.pickT rfl (dl rfl rfl) rfl c_67 rfl ?_)
      refine mv rfl rfl rfl rfl rfl ?_
      rcases bif_some h with ⟨c_69, h⟩ | ⟨c_69, h⟩
      · refine TL'.step (.on rfl rfl rfl c_69) (OpT.move rfl (dl rfl rfl) rfl ?_)
        obtain ⟨g_70, h⟩ := ck_some h
        refine TL'.step (.on rfl rfl rfl c_69) (OpT.sliceM (xs := v_64.1) (f := (cI .u8)) (l := (Int.toNat (260 : Int))) (h := v_64.1.length) rfl (dl rfl rfl) Try.underlying29 i5 rfl (.some _ _ _ _ rfl g_70.1) (.none _) g_70.2.1 g_70.2.2 ?_)
        refine TL'.step (.on rfl rfl rfl c_69) (OpT.convBytes (xs := ((v_64.1.take v_64.1.length).drop (Int.toNat (260 : Int)))) rfl (dl rfl rfl) Try.underlying29 Try.underlying5 Try.underlying9 rfl ?_)
        refine TL'.step (.on rfl rfl rfl c_69) (OpT.str_eql rfl (dl rfl rfl) rfl rfl ?_)
        refine sp rfl (OpT.pickT rfl (dl rfl rfl) rfl c_69 rfl ?_)
        refine mv rfl rfl rfl rfl rfl ?_
        rcases bif_some h with ⟨c_71, h⟩ | ⟨c_71, h⟩
        · refine TL'.turn Turn.keepPlace ?_
          obtain ⟨v_73, e_74, h⟩ := bind_some h
          refine TL'.step (.on rfl rfl rfl c_71) (OpT.callG (is := [0]) (ph := [.ro 0 []]) rfl (dl rfl rfl) Try.func14 rfl rfl (Args.nilSl rfl (Args.cons rfl Args.nil)) (table_Number_T K (flx0 := false) e_74) (.cons rfl rfl (.nil)) (fun _ => rfl) (fun γ_75 => ?_))
          refine nm (.c (.c (.n))) ?_
          refine TL'.turn (Turn.view 35 0 rfl rfl) ?_
          refine TL'.step (.on rfl rfl rfl c_71) (OpT.convBytes (xs := v_73) rfl (dl rfl rfl) Try.underlying29 Try.underlying5 Try.underlying9 rfl ?_)
          refine TL'.step (.on rfl rfl rfl c_71) (OpT.str_eql rfl (dl rfl rfl) rfl rfl ?_)
          refine sp rfl (OpT.pickT rfl (dl rfl rfl) rfl c_71 rfl ?_)
          refine asg rfl rfl rfl rfl rfl ?_
          refine TL'.nil (thenS_normal ?_)
          refine T.ret ?_
          exact Fin.done (.cons _ _ _ _ (.tmp 0 _ rfl) .nil) (by cases h; exact ⟨rfl, rfl⟩)
        · refine TL'.passU (.off _ _ _ _ rfl rfl rfl c_71) (dl rfl rfl) ?_
          refine TL'.passU (.off _ _ _ _ rfl rfl rfl c_71) (dl rfl rfl) ?_
          refine TL'.passU (.off _ _ _ _ rfl rfl rfl c_71) (dl rfl rfl) ?_
          refine sp rfl (OpT.pickF rfl (dl rfl rfl) rfl c_71 rfl ?_)
          refine asg rfl rfl rfl rfl rfl ?_
          refine TL'.nil (thenS_normal ?_)
          refine T.ret ?_
          exact Fin.done (.cons _ _ _ _ (.tmp 0 _ rfl) .nil) (by cases h; exact ⟨rfl, rfl⟩)
      · refine TL'.passU (.off _ _ _ _ rfl rfl rfl c_69) (dl rfl rfl) ?_
        refine TL'.passU (.off _ _ _ _ rfl rfl rfl c_69) (dl rfl rfl) ?_
        refine TL'.passU (.off _ _ _ _ rfl rfl rfl c_69) (dl rfl rfl) ?_
        refine TL'.passU (.off _ _ _ _ rfl rfl rfl c_69) (dl rfl rfl) ?_
        refine sp rfl (OpT.pickF rfl (dl rfl rfl) rfl c_69 rfl ?_)
        refine mv rfl rfl rfl rfl rfl ?_
        refine TL'.passU (.off _ _ _ _ rfl rfl rfl rfl) (dl rfl rfl) ?_
        refine TL'.passU (.off _ _ _ _ rfl rfl rfl rfl) (dl rfl rfl) ?_
        refine TL'.passU (.off _ _ _ _ rfl rfl rfl rfl) (dl rfl rfl) ?_
        refine sp rfl (OpT.pickF rfl (dl rfl rfl) rfl rfl rfl ?_)
        refine asg rfl rfl rfl rfl rfl ?_
        refine TL'.nil (thenS_normal ?_)
        refine T.ret ?_
        exact Fin.done (.cons _ _ _ _ (.tmp 0 _ rfl) .nil) (by cases h; exact ⟨rfl, rfl⟩)
    · refine TL'.passU (.off _ _ _ _ rfl rfl rfl c_67) (dl rfl rfl) ?_
      refine TL'.passU (.off _ _ _ _ rfl rfl rfl c_67) (dl rfl rfl) ?_
      refine TL'.passU (.off _ _ _ _ rfl rfl rfl c_67) (dl rfl rfl) ?_
      refine TL'.passU (.off _ _ _ _ rfl rfl rfl c_67) (dl rfl rfl) ?_
      refine sp rfl (OpT.pickF rfl (dl rfl rfl) rfl c_67 rfl ?_)
      refine mv rfl rfl rfl rfl rfl ?_
      refine TL'.passU (.off _ _ _ _ rfl rfl rfl rfl) (dl rfl rfl) ?_
      refine TL'.passU (.off _ _ _ _ rfl rfl rfl rfl) (dl rfl rfl) ?_
      refine TL'.passU (.off _ _ _ _ rfl rfl rfl rfl) (dl rfl rfl) ?_
      refine TL'.passU (.off _ _ _ _ rfl rfl rfl rfl) (dl rfl rfl) ?_
      refine sp rfl (OpT.pickF rfl (dl rfl rfl) rfl rfl rfl ?_)
      refine mv rfl rfl rfl rfl rfl ?_
      refine TL'.passU (.off _ _ _ _ rfl rfl rfl rfl) (dl rfl rfl) ?_
      refine TL'.passU (.off _ _ _ _ rfl rfl rfl rfl) (dl rfl rfl) ?_
      refine TL'.passU (.off _ _ _ _ rfl rfl rfl rfl) (dl rfl rfl) ?_
      refine sp rfl (OpT.pickF rfl (dl rfl rfl) rfl rfl rfl ?_)
      refine asg rfl rfl rfl rfl rfl ?_
      refine TL'.nil (thenS_normal ?_)
      refine T.ret ?_
      exact Fin.done (.cons _ _ _ _ (.tmp 0 _ rfl) .nil) (by cases h; exact ⟨rfl, rfl⟩)
  · refine TL'.passU (.off _ _ _ _ rfl rfl rfl c_66) (dl rfl rfl) ?_
    refine TL'.passU (.off _ _ _ _ rfl rfl rfl c_66) (dl rfl rfl) ?_
    refine TL'.passU (.off _ _ _ _ rfl rfl rfl c_66) (dl rfl rfl) ?_
    refine sp rfl (OpT.pickF rfl (dl rfl rfl) rfl c_66 rfl ?_)
    refine mv rfl rfl rfl rfl rfl ?_
    refine TL'.passU (.off _ _ _ _ rfl rfl rfl rfl) (dl rfl rfl) ?_
    refine TL'.passU (.off _ _ _ _ rfl rfl rfl rfl) (dl rfl rfl) ?_
    refine TL'.passU (.off _ _ _ _ rfl rfl rfl rfl) (dl rfl rfl) ?_
    refine TL'.passU (.off _ _ _ _ rfl rfl rfl rfl) (dl rfl rfl) ?_
    refine sp rfl (OpT.pickF rfl (dl rfl rfl) rfl rfl rfl ?_)
    refine mv rfl rfl rfl rfl rfl ?_
    refine TL'.passU (.off _ _ _ _ rfl rfl rfl rfl) (dl rfl rfl) ?_
    refine TL'.passU (.off _ _ _ _ rfl rfl rfl rfl) (dl rfl rfl) ?_
    refine TL'.passU (.off _ _ _ _ rfl rfl rfl rfl) (dl rfl rfl) ?_
    refine TL'.passU (.off _ _ _ _ rfl rfl rfl rfl) (dl rfl rfl) ?_
    refine sp rfl (OpT.pickF rfl (dl rfl rfl) rfl rfl rfl ?_)
    refine mv rfl rfl rfl rfl rfl ?_
    refine TL'.passU (.off _ _ _ _ rfl rfl rfl rfl) (dl rfl rfl) ?_
    refine TL'.passU (.off _ _ _ _ rfl rfl rfl rfl) (dl rfl rfl) ?_
    refine TL'.passU (.off _ _ _ _ rfl rfl rfl rfl) (dl rfl rfl) ?_
    refine sp rfl (OpT.pickF rfl (dl rfl rfl) rfl rfl rfl ?_)
    refine asg rfl rfl rfl rfl rfl ?_
    refine TL'.nil (thenS_normal ?_)
    refine T.ret ?_
    exact Fin.done (.cons _ _ _ _ (.tmp 0 _ rfl) .nil) (by cases h; exact ⟨rfl, rfl⟩)

end Go.Rv

/- Each function computes what its plain text says: printed by a program of ours. -/
import Derived.Test.YtocjhbbldeankaaDoorRgW4
namespace Go.Rv
open Go.Proofs
set_option maxRecDepth 100000
set_option maxHeartbeats 4000000
set_option linter.unusedVariables false

abbrev print_Tree_q (r : ByteArray × Bool) : Exit → St → Prop := retS Tryd.prog Tryd.f9 (fun y t => y = (.tup [.str r.1, .bool r.2]) ∧ t = [.tab 1 pow10V, .ro 2 deBruijnD, .ro 3 deBruijn32D])

abbrev print_Tree_qs1111 (r : ByteArray × Bool) : Exit → St → Prop := thenS (fun s' => T Tryd.prog 105 (Code.at [1, 1, 1, 1] (codeOf Tryd.f9)) s' ((print_Tree_q r))) ((print_Tree_q r))

abbrev print_Tree_qb0x1111 (r : ByteArray × Bool) : Exit → St → Prop := inBlockS 0 ((print_Tree_qs1111 r))

abbrev print_Tree_ql111010 (r : ByteArray × Bool) : Exit → St → Prop := thenS (fun s' => TL Tryd.prog 105 (Code.at [1, 1, 1, 0, 1, 0, 0] (codeOf Tryd.f9)) s' ((print_Tree_qb0x1111 r))) ((print_Tree_qb0x1111 r))

abbrev print_Tree_qs1110100111 (r : ByteArray × Bool) : Exit → St → Prop := thenS (fun s' => T Tryd.prog 105 (Code.at [1, 1, 1, 0, 1, 0, 0, 1, 1, 1] (codeOf Tryd.f9)) s' ((print_Tree_ql111010 r))) ((print_Tree_ql111010 r))

abbrev print_Tree_qb1_0x1110100111 (r : ByteArray × Bool) : Exit → St → Prop := inBlockS 1 ((print_Tree_qs1110100111 r))

abbrev print_Tree_qs11101001100111 (r : ByteArray × Bool) : Exit → St → Prop := thenS (fun s' => T Tryd.prog 105 (Code.at [1, 1, 1, 0, 1, 0, 0, 1, 1, 0, 0, 1, 1, 1] (codeOf Tryd.f9)) s' ((print_Tree_qb1_0x1110100111 r))) ((print_Tree_qb1_0x1110100111 r))

abbrev print_Tree_qb2_1_0x11101001100111 (r : ByteArray × Bool) : Exit → St → Prop := inBlockS 2 ((print_Tree_qs11101001100111 r))

abbrev print_Tree_ql1110100110011010 (r : ByteArray × Bool) : Exit → St → Prop := thenS (fun s' => TL Tryd.prog 105 (Code.at [1, 1, 1, 0, 1, 0, 0, 1, 1, 0, 0, 1, 1, 0, 1, 0, 0] (codeOf Tryd.f9)) s' ((print_Tree_qb2_1_0x11101001100111 r))) ((print_Tree_qb2_1_0x11101001100111 r))

abbrev print_Tree_qs11101001100110100111 (r : ByteArray × Bool) : Exit → St → Prop := thenS (fun s' => T Tryd.prog 105 (Code.at [1, 1, 1, 0, 1, 0, 0, 1, 1, 0, 0, 1, 1, 0, 1, 0, 0, 1, 1, 1] (codeOf Tryd.f9)) s' ((print_Tree_ql1110100110011010 r))) ((print_Tree_ql1110100110011010 r))

abbrev print_Tree_qb3_2_1_0x11101001100110100111 (r : ByteArray × Bool) : Exit → St → Prop := inBlockS 3 ((print_Tree_qs11101001100110100111 r))

abbrev print_Tree_l1_H (r : ByteArray × Bool) (go : (List api_Node) → Int → Int → Int → (List Int) → Int → Int → (List ByteArray) → Int → Arr4 → (List Int) → Int → Int → ByteArray → (List ByteArray) → Option (ByteArray × Bool)) : Prop := ∀ (x0 : List api_Node) (x5_1_2 : Int) (x18_0_3 : Int) (x19_1_12 : Int) (x25_1_13 : List Int) (x26_1_14 : Int) (x27_1_15 : Int) (y4_0_1 : List ByteArray) (y6_1_3 : Int) (y6_1_4 : Arr4) (y6_1_5 : List Int) (y6_1_6 : Int) (y6_1_7 : Int) (y6_1_8 : ByteArray) (y7_1_9 : List ByteArray) (flx0 : Bool) (w4_1 : Value) (b6_1 : Nat) (w7_1 : Value), go x0 x5_1_2 x18_0_3 x19_1_12 x25_1_13 x26_1_14 x27_1_15 y4_0_1 y6_1_3 y6_1_4 y6_1_5 y6_1_6 y6_1_7 y6_1_8 y7_1_9 = some r → TL Tryd.prog 105 (Code.at [1, 1, 1, 0, 1, 0, 0, 1, 1, 0, 0, 1, 1, 0, 1, 0, 0] (codeOf Tryd.f9)) ⟨[(0, .sl flx0 9 (x0.map c_api_Node)), (4, .c (.ex w4_1)), (5, .int .i64 x5_1_2), (6, .ptr b6_1 0), (7, .c (.ex w7_1)), (17, .sl flx0 9 (x0.map c_api_Node)), (18, .int .i64 x18_0_3), (19, .int .i64 x19_1_12), (25, .sl false 1 (x25_1_13.map (cI .i64))), (26, .int .i64 x26_1_14), (27, .int .i64 x27_1_15)], [.arrX w4_1 9 1 0 (y4_0_1.map cS), .box b6_1 42 [.d (.int .u8 y6_1_3), .d (.int .u64 y6_1_4.a0), .d (.int .u64 y6_1_4.a1), .d (.int .u64 y6_1_4.a2), .d (.int .u64 y6_1_4.a3), .d (.sl false 1 (y6_1_5.map (cI .i64))), .d (.int .i64 y6_1_6), .d (.int .i64 y6_1_7), .d (.str y6_1_8)], .arrX w7_1 9 1 0 (y7_1_9.map cS), .tab 1 pow10V, .ro 2 deBruijnD, .ro 3 deBruijn32D]⟩ (print_Tree_qb2_1_0x11101001100111 r)

theorem print_Tree_j2_T {r : ByteArray × Bool} (K : Nat) (go1 : (List api_Node) → Int → Int → Int → (List Int) → Int → Int → (List ByteArray) → Int → Arr4 → (List Int) → Int → Int → ByteArray → (List ByteArray) → Option (ByteArray × Bool)) (hgo1 : print_Tree_l1_H r go1) (x0 : List api_Node) (x5_2_2 : Int) (x10_2_10 : ByteArray) (x18_0_3 : Int) (x19_2_13 : Int) (x25_2_14 : List Int) (x26_2_15 : Int) (x27_2_16 : Int) (y4_0_1 : List ByteArray) (y6_1_3 : Int) (y6_1_4 : Arr4) (y6_1_5 : List Int) (y6_1_6 : Int) (y6_1_7 : Int) (y6_1_8 : ByteArray) (y7_2_9 : List ByteArray) (flx0 : Bool) (w4_2 : Value) (b6_2 : Nat) (w7_2 : Value) (h : print_Tree_j2 K go1 x0 x5_2_2 x10_2_10 x18_0_3 x19_2_13 x25_2_14 x26_2_15 x27_2_16 y4_0_1 y6_1_3 y6_1_4 y6_1_5 y6_1_6 y6_1_7 y6_1_8 y7_2_9 = some r) : T Tryd.prog 105 (Code.at [1, 1, 1, 0, 1, 0, 0, 1, 1, 0, 0, 1, 1, 0, 1, 0, 0, 1, 1, 0, 0, 1, 1, 1] (codeOf Tryd.f9)) ⟨[(0, .sl flx0 9 (x0.map c_api_Node)), (4, .c (.ex w4_2)), (5, .int .i64 x5_2_2), (6, .ptr b6_2 0), (7, .c (.ex w7_2)), (10, .str x10_2_10), (17, .sl flx0 9 (x0.map c_api_Node)), (18, .int .i64 x18_0_3), (19, .int .i64 x19_2_13), (25, .sl false 1 (x25_2_14.map (cI .i64))), (26, .int .i64 x26_2_15), (27, .int .i64 x27_2_16)], [.arrX w4_2 9 1 0 (y4_0_1.map cS), .box b6_2 42 [.d (.int .u8 y6_1_3), .d (.int .u64 y6_1_4.a0), .d (.int .u64 y6_1_4.a1), .d (.int .u64 y6_1_4.a2), .d (.int .u64 y6_1_4.a3), .d (.sl false 1 (y6_1_5.map (cI .i64))), .d (.int .i64 y6_1_6), .d (.int .i64 y6_1_7), .d (.str y6_1_8)], .arrX w7_2 9 1 0 (y7_2_9.map cS), .tab 1 pow10V, .ro 2 deBruijnD, .ro 3 deBruijn32D]⟩ (print_Tree_qb3_2_1_0x11101001100110100111 r) := by
  unfold print_Tree_j2 at h
  refine T.regionL ?_
  refine mv rfl rfl rfl rfl rfl ?_
  refine mv rfl rfl rfl rfl rfl ?_
  refine sp rfl (OpT.buildSliceX (elems := ([x10_2_10] : List ByteArray).map cS) rfl (dl rfl rfl) Tryd.underlying47 i9 (by decide) rfl (all1 rfl) rfl rfl rfl (lenAll rfl) (by decide) (fun b_1086 => ?_))
  refine TL'.turn (Turn.sealX 0 rfl) ?_
  refine TL'.turn (Turn.view 48 0 rfl rfl) ?_
  obtain ⟨g_1088, h⟩ := ck_some h
  refine sp rfl (OpT.appendXM (i := 3) (xs := y7_2_9) (ys := [x10_2_10]) (f := cS) rfl (dl rfl rfl) Tryd.underlying47 i9 rfl rfl rfl rfl g_1088 (fun w_1087 => ?_))
  refine asg rfl rfl rfl rfl rfl ?_
  refine TL'.nil (inBlock_normal (thenS_normal ?_))
  refine T.regionL ?_
  refine sp rfl (OpT.int2 rfl rfl (dl rfl rfl) rfl rfl ?_)
  refine mv rfl rfl rfl rfl rfl ?_
  refine TL'.nil (thenS_normal ?_)
  refine TL.by_turn ?_ (hgo1 x0 x5_2_2 x18_0_3 x19_2_13 x25_2_14 x26_2_15 (IntKind.i64.wrap (x27_2_16 + (1 : Int))) y4_0_1 y6_1_3 y6_1_4 y6_1_5 y6_1_6 y6_1_7 y6_1_8 (y7_2_9 ++ [x10_2_10]) flx0 w4_2 b6_2 w_1087 h)
  exact Turn.rp (.cons rfl (.cons rfl (.cons rfl (.cons rfl (.cons rfl (.cons rfl (.cons rfl (.cons rfl (.cons rfl (.cons rfl (.cons rfl (.nil _)))))))))))) (.c (.s .z) (.c (.s .z) (.c (.s .z) (.c (.s .z) (.c (.s .z) (.c (.s .z) (.n _)))))))

abbrev print_Tree_l0_H (r : ByteArray × Bool) (go : (List api_Node) → Int → Int → (List ByteArray) → Option (ByteArray × Bool)) : Prop := ∀ (x0 : List api_Node) (x18_0_3 : Int) (x19_0_4 : Int) (y4_0_1 : List ByteArray) (flx0 : Bool) (w4_0 : Value), go x0 x18_0_3 x19_0_4 y4_0_1 = some r → TL Tryd.prog 105 (Code.at [1, 1, 1, 0, 1, 0, 0] (codeOf Tryd.f9)) ⟨[(0, .sl flx0 9 (x0.map c_api_Node)), (4, .c (.ex w4_0)), (17, .sl flx0 9 (x0.map c_api_Node)), (18, .int .i64 x18_0_3), (19, .int .i64 x19_0_4)], [.arrX w4_0 9 1 0 (y4_0_1.map cS), .tab 1 pow10V, .ro 2 deBruijnD, .ro 3 deBruijn32D]⟩ (print_Tree_qb0x1111 r)

theorem print_Tree_l1_T {r : ByteArray × Bool} (K : Nat) (go0 : (List api_Node) → Int → Int → (List ByteArray) → Option (ByteArray × Bool)) (hgo0 : print_Tree_l0_H r go0) : ∀ (k : Nat), ∀ (x0 : List api_Node) (x5_1_2 : Int) (x18_0_3 : Int) (x19_1_12 : Int) (x25_1_13 : List Int) (x26_1_14 : Int) (x27_1_15 : Int) (y4_0_1 : List ByteArray) (y6_1_3 : Int) (y6_1_4 : Arr4) (y6_1_5 : List Int) (y6_1_6 : Int) (y6_1_7 : Int) (y6_1_8 : ByteArray) (y7_1_9 : List ByteArray) (flx0 : Bool) (w4_1 : Value) (b6_1 : Nat) (w7_1 : Value), print_Tree_l1 K go0 k x0 x5_1_2 x18_0_3 x19_1_12 x25_1_13 x26_1_14 x27_1_15 y4_0_1 y6_1_3 y6_1_4 y6_1_5 y6_1_6 y6_1_7 y6_1_8 y7_1_9 = some r → TL Tryd.prog 105 (Code.at [1, 1, 1, 0, 1, 0, 0, 1, 1, 0, 0, 1, 1, 0, 1, 0, 0] (codeOf Tryd.f9)) ⟨[(0, .sl flx0 9 (x0.map c_api_Node)), (4, .c (.ex w4_1)), (5, .int .i64 x5_1_2), (6, .ptr b6_1 0), (7, .c (.ex w7_1)), (17, .sl flx0 9 (x0.map c_api_Node)), (18, .int .i64 x18_0_3), (19, .int .i64 x19_1_12), (25, .sl false 1 (x25_1_13.map (cI .i64))), (26, .int .i64 x26_1_14), (27, .int .i64 x27_1_15)], [.arrX w4_1 9 1 0 (y4_0_1.map cS), .box b6_1 42 [.d (.int .u8 y6_1_3), .d (.int .u64 y6_1_4.a0), .d (.int .u64 y6_1_4.a1), .d (.int .u64 y6_1_4.a2), .d (.int .u64 y6_1_4.a3), .d (.sl false 1 (y6_1_5.map (cI .i64))), .d (.int .i64 y6_1_6), .d (.int .i64 y6_1_7), .d (.str y6_1_8)], .arrX w7_1 9 1 0 (y7_1_9.map cS), .tab 1 pow10V, .ro 2 deBruijnD, .ro 3 deBruijn32D]⟩ (print_Tree_qb2_1_0x11101001100111 r) := by
  intro k
  induction k with
  | zero =>
    intro x0 x5_1_2 x18_0_3 x19_1_12 x25_1_13 x26_1_14 x27_1_15 y4_0_1 y6_1_3 y6_1_4 y6_1_5 y6_1_6 y6_1_7 y6_1_8 y7_1_9 flx0 w4_1 b6_1 w7_1 h
    cases (show (none : Option (ByteArray × Bool)) = some r from h)
  | succ k ih =>
    intro x0 x5_1_2 x18_0_3 x19_1_12 x25_1_13 x26_1_14 x27_1_15 y4_0_1 y6_1_3 y6_1_4 y6_1_5 y6_1_6 y6_1_7 y6_1_8 y7_1_9 flx0 w4_1 b6_1 w7_1 h
    rw [print_Tree_l1] at h
    refine TL.round ?_
    refine T.seq ?_
    refine T.regionL ?_
    refine sp rfl (OpT.int2 rfl rfl (dl rfl rfl) rfl rfl ?_)
    refine TL'.nil (thenS_normal ?_)
    refine T.seq ?_
    rcases bif_some h with ⟨c_1069, h⟩ | ⟨c_1069, h⟩
    · refine T.condT rfl c_1069 ?_
      refine T.skip (thenS_normal ?_)
      refine T.seq ?_
      refine T.block ?_
      refine T.seq ?_
      refine T.regionL ?_
      obtain ⟨v_1070, e_1071, h⟩ := bind_some h
      refine sp rfl (OpT.indexSlM (xs := x25_1_13) (f := (cI .i64)) (v := v_1070) rfl (dl rfl rfl) Tryd.underlying40 i3 rfl rfl e_1071 ?_)
      refine sp rfl (OpT.loadRef rfl (dl rfl rfl) Tryd.underlying3 rfl rfl rfl ?_)
      refine asg rfl rfl rfl rfl rfl ?_
      refine TL'.nil (thenS_normal ?_)
      refine T.seq ?_
      refine T.regionL ?_
      refine mv rfl rfl rfl rfl rfl ?_
      refine mv rfl rfl rfl rfl rfl ?_
      obtain ⟨v_1072, e_1073, h⟩ := bind_some h
      refine sp rfl (OpT.indexXM (n := 0) (xs := y4_0_1) (f := cS) (old := v_1072) rfl (dl rfl rfl) Tryd.underlying47 i9 rfl rfl rfl e_1073 ?_)
      refine sp rfl (OpT.loadXM (i := 0) (xs := y4_0_1) (f := cS) (old := v_1072) rfl (dl rfl rfl) Tryd.underlying9 rfl rfl rfl (geti_some e_1073).2 rfl ?_)
      refine asg rfl rfl rfl rfl rfl ?_
      refine TL'.nil (thenS_normal ?_)
      refine T.seq ?_
      refine T.seq ?_
      refine DG.start ?_
      refine DG.step (c := ⟨some 35, .ptr b6_1 (0 + 0), [(6, .ptr b6_1 0)], [], []⟩) (fun t hm => One.step rfl (.free rfl) (OpT.fieldPtr rfl (dl rfl rfl) Tryd.underlying42 rfl i5 (by decide) hm.s0 rfl)) (Ct.met_of rfl rfl) ?_
      refine DG.step (c := ⟨some 36, .int .u8 y6_1_3, [(35, .ptr b6_1 (0 + 0))], [(1, .box b6_1 42 [.d (.int .u8 y6_1_3), .d (.int .u64 y6_1_4.a0), .d (.int .u64 y6_1_4.a1), .d (.int .u64 y6_1_4.a2), .d (.int .u64 y6_1_4.a3), .d (.sl false 1 (y6_1_5.map (cI .i64))), .d (.int .i64 y6_1_6), .d (.int .i64 y6_1_7), .d (.str y6_1_8)])], []⟩) (fun t hm => One.step rfl (.free rfl) (OpT.loadBox (i := 1) rfl (dl rfl rfl) Tryd.underlying5 rfl hm.s0 hm.o0 rfl rfl)) (Ct.met_of rfl rfl) ?_
      refine DG.mv rfl rfl rfl rfl rfl rfl ?_
      refine DG.mv rfl rfl rfl rfl rfl rfl ?_
      obtain ⟨v_1079, e_1080, h⟩ := bind_some h
      refine DG.step (c := ⟨some 39, .ref [.int .u8 v_1079.Op, .int .u64 v_1079.S.a0, .int .u64 v_1079.S.a1, .int .u64 v_1079.S.a2, .int .u64 v_1079.S.a3, .sl false 1 (v_1079.L.map (cI .i64)), .int .i64 v_1079.Lo, .int .i64 v_1079.Hi, .str v_1079.Name], [(37, .sl flx0 9 (x0.map c_api_Node)), (38, .int .i64 v_1070)], [], []⟩) (fun t hm => One.step rfl (.free rfl) (OpT.indexSlM (xs := x0) (f := c_api_Node) (v := v_1079) rfl (dl rfl rfl) Tryd.underlying22 i42 hm.s0 hm.s1 e_1080 rfl)) (Ct.met_of rfl rfl) ?_
      refine DG.step (c := ⟨some 40, .ref [.int .u8 v_1079.Op, .int .u64 v_1079.S.a0, .int .u64 v_1079.S.a1, .int .u64 v_1079.S.a2, .int .u64 v_1079.S.a3, .sl false 1 (v_1079.L.map (cI .i64)), .int .i64 v_1079.Lo, .int .i64 v_1079.Hi, .str v_1079.Name], [(39, .ref [.int .u8 v_1079.Op, .int .u64 v_1079.S.a0, .int .u64 v_1079.S.a1, .int .u64 v_1079.S.a2, .int .u64 v_1079.S.a3, .sl false 1 (v_1079.L.map (cI .i64)), .int .i64 v_1079.Lo, .int .i64 v_1079.Hi, .str v_1079.Name])], [], []⟩) (fun t hm => One.step rfl (.free rfl) (OpT.fieldRef rfl (dl rfl rfl) Tryd.underlying42 rfl i5 (by decide) hm.s0 rfl)) (Ct.met_of rfl rfl) ?_
      refine DG.step (c := ⟨some 41, .int .u8 v_1079.Op, [(40, .ref [.int .u8 v_1079.Op, .int .u64 v_1079.S.a0, .int .u64 v_1079.S.a1, .int .u64 v_1079.S.a2, .int .u64 v_1079.S.a3, .sl false 1 (v_1079.L.map (cI .i64)), .int .i64 v_1079.Lo, .int .i64 v_1079.Hi, .str v_1079.Name])], [], []⟩) (fun t hm => One.step rfl (.free rfl) (OpT.loadRef rfl (dl rfl rfl) Tryd.underlying5 rfl hm.s0 rfl rfl)) (Ct.met_of rfl rfl) ?_
      obtain ⟨v_1081, e_1082, h⟩ := bind_some h
      refine DG.step (c := ⟨some 42, .bool v_1081, [(36, .int .u8 y6_1_3), (41, .int .u8 v_1079.Op)], [], []⟩) (fun t hm => One.step rfl (.free rfl) (OpT.callPA rfl (dl rfl rfl) Tryd.func20 rfl rfl (Args.cons hm.s0 (Args.cons hm.s1 Args.nil)) (CallR.nil (print_wrapped_T K e_1082)) rfl)) (Ct.met_of rfl rfl) ?_
      refine DG.fin (s1 := ⟨[(0, .sl flx0 9 (x0.map c_api_Node)), (4, .c (.ex w4_1)), (5, .int .i64 x5_1_2), (6, .ptr b6_1 0), (7, .c (.ex w7_1)), (10, .str v_1072), (17, .sl flx0 9 (x0.map c_api_Node)), (18, .int .i64 x18_0_3), (19, .int .i64 x19_1_12), (25, .sl false 1 (x25_1_13.map (cI .i64))), (26, .int .i64 x26_1_14), (27, .int .i64 x27_1_15), (42, .bool v_1081)], [.arrX w4_1 9 1 0 (y4_0_1.map cS), .box b6_1 42 [.d (.int .u8 y6_1_3), .d (.int .u64 y6_1_4.a0), .d (.int .u64 y6_1_4.a1), .d (.int .u64 y6_1_4.a2), .d (.int .u64 y6_1_4.a3), .d (.sl false 1 (y6_1_5.map (cI .i64))), .d (.int .i64 y6_1_6), .d (.int .i64 y6_1_7), .d (.str y6_1_8)], .arrX w7_1 9 1 0 (y7_1_9.map cS), .tab 1 pow10V, .ro 2 deBruijnD, .ro 3 deBruijn32D]⟩) (ms := [0, 1, 0, 0, 12, 28, 60, 127]) TrydMixed rfl (by kernel_rfl) (by kernel_rfl) (by kernel_rfl) (.cons rfl (.cons rfl (.cons rfl (.cons rfl (.cons rfl (.cons rfl (.cons rfl (.cons rfl (.cons rfl (.cons rfl (.cons rfl (.cons rfl (.cons rfl (.nil _)))))))))))))) rfl (fun u hu => (thenS_normal (T.by_turn hu ?_)))
      rcases bif_some h with ⟨c_1083, h⟩ | ⟨c_1083, h⟩
      · refine T.condT rfl c_1083 ?_
        refine T.regionL ?_
        refine mv rfl rfl rfl rfl rfl ?_
        obtain ⟨g_1084, h⟩ := ck_some h
        refine sp rfl (OpT.str_add rfl (dl rfl rfl) rfl rfl g_1084 ?_)
        obtain ⟨g_1085, h⟩ := ck_some h
        refine sp rfl (OpT.str_add rfl (dl rfl rfl) rfl rfl g_1085 ?_)
        refine asg rfl rfl rfl rfl rfl ?_
        refine TL'.nil (thenS_normal ?_)
        refine T.by_turn ?_ (print_Tree_j2_T K (print_Tree_l1 K go0 k) ih x0 x5_1_2 (((⟨#[40]⟩ : ByteArray) ++ v_1072) ++ (⟨#[41]⟩ : ByteArray)) x18_0_3 x19_1_12 x25_1_13 x26_1_14 x27_1_15 y4_0_1 y6_1_3 y6_1_4 y6_1_5 y6_1_6 y6_1_7 y6_1_8 y7_1_9 flx0 w4_1 b6_1 w7_1 h)
        exact Turn.rp (.cons rfl (.cons rfl (.cons rfl (.cons rfl (.cons rfl (.cons rfl (.cons rfl (.cons rfl (.cons rfl (.cons rfl (.cons rfl (.cons rfl (.nil _))))))))))))) (.c .z (.c .z (.c .z (.c .z (.c .z (.c .z (.n _)))))))
      · refine T.condF rfl c_1083 ?_
        refine T.skip (thenS_normal ?_)
        refine T.by_turn ?_ (print_Tree_j2_T K (print_Tree_l1 K go0 k) ih x0 x5_1_2 v_1072 x18_0_3 x19_1_12 x25_1_13 x26_1_14 x27_1_15 y4_0_1 y6_1_3 y6_1_4 y6_1_5 y6_1_6 y6_1_7 y6_1_8 y7_1_9 flx0 w4_1 b6_1 w7_1 h)
        exact Turn.rp (.cons rfl (.cons rfl (.cons rfl (.cons rfl (.cons rfl (.cons rfl (.cons rfl (.cons rfl (.cons rfl (.cons rfl (.cons rfl (.cons rfl (.nil _))))))))))))) (.c .z (.c .z (.c .z (.c .z (.c .z (.c .z (.n _)))))))
    · refine T.condF rfl c_1069 ?_
      refine T.exit (thenS_exit (thenS_exit (inBlock_exit (thenS_normal ?_))))
      refine T.seq ?_
      refine T.regionL ?_
      refine sp rfl (OpT.fieldPtr rfl (dl rfl rfl) Tryd.underlying42 rfl i5 (by decide) rfl ?_)
      refine sp rfl (OpT.loadBox (i := 1) rfl (dl rfl rfl) Tryd.underlying5 rfl rfl rfl rfl ?_)
      refine TL'.nil (thenS_normal ?_)
      refine T.block ?_
      refine T.seq ?_
      refine T.regionL ?_
      refine sp rfl (OpT.int2 rfl rfl (dl rfl rfl) rfl rfl ?_)
      refine asg rfl rfl rfl rfl rfl ?_
      refine TL'.nil (thenS_normal ?_)
      rcases bif_some h with ⟨c_1089, h⟩ | ⟨c_1089, h⟩
      · refine T.condT rfl c_1089 ?_
        refine T.regionL ?_
        refine mv rfl rfl rfl rfl rfl ?_
        refine mv rfl rfl rfl rfl rfl ?_
        refine sp rfl (OpT.fieldPtr rfl (dl rfl rfl) Tryd.underlying42 rfl i25 (by decide) rfl ?_)
        refine sp rfl (OpT.loadBoxAgg (i := 1) (l := (Arr4.dc .u64 y6_1_4)) rfl (dl rfl rfl) Tryd.underlying25 rfl i25 rfl rfl rfl rfl ?_)
        obtain ⟨v_1090, e_1091, h⟩ := bind_some h
        refine sp rfl (OpT.callRoA rfl (dl rfl rfl) Tryd.func14 rfl rfl (Args.cons rfl Args.nil) (.cons 4 rfl (.cons 5 rfl (.nil))) (print_Set_T K e_1091) ?_)
        obtain ⟨v_1092, e_1093, h⟩ := bind_some h
        refine sp rfl (OpT.indexXM (n := 0) (xs := y4_0_1) (f := cS) (old := v_1092) rfl (dl rfl rfl) Tryd.underlying47 i9 rfl rfl rfl e_1093 ?_)
        refine sp rfl (OpT.storeXM (i := 0) (xs := y4_0_1) (f := cS) (old := v_1092) (new := v_1090) rfl rfl i9 rfl rfl rfl (geti_some e_1093).2 (Nat.zero_le _) (Nat.le_of_ble_eq_true rfl) rfl ?_)
        refine TL'.nil (inBlock_normal (inBlock_normal (thenS_normal ?_)))
        refine T.regionL ?_
        refine sp rfl (OpT.int2 rfl rfl (dl rfl rfl) rfl rfl ?_)
        refine mv rfl rfl rfl rfl rfl ?_
        refine TL'.nil (thenS_normal ?_)
        refine TL.by_turn ?_ (hgo0 x0 x18_0_3 (IntKind.i64.wrap (x19_1_12 + (1 : Int))) (List.set y4_0_1 (Int.toNat x5_1_2) v_1090) flx0 w4_1 h)
        exact Turn.rp (.cons rfl (.cons rfl (.cons rfl (.cons rfl (.cons rfl (.nil _)))))) (.c .z (.c (.s (.s .z)) (.c (.s (.s .z)) (.c (.s (.s .z)) (.n _)))))
      · refine T.condF rfl c_1089 ?_
        refine T.seq ?_
        refine T.regionL ?_
        refine sp rfl (OpT.int2 rfl rfl (dl rfl rfl) rfl rfl ?_)
        refine asg rfl rfl rfl rfl rfl ?_
        refine TL'.nil (thenS_normal ?_)
        rcases bif_some h with ⟨c_1094, h⟩ | ⟨c_1094, h⟩
        · refine T.condT rfl c_1094 ?_
          refine T.regionL ?_
          refine mv rfl rfl rfl rfl rfl ?_
          refine mv rfl rfl rfl rfl rfl ?_
          refine sp rfl (OpT.fieldPtr rfl (dl rfl rfl) Tryd.underlying42 rfl i9 (by decide) rfl ?_)
          refine sp rfl (OpT.loadBox (i := 1) rfl (dl rfl rfl) Tryd.underlying9 rfl rfl rfl rfl ?_)
          obtain ⟨g_1095, h⟩ := ck_some h
          refine sp rfl (OpT.str_add rfl (dl rfl rfl) rfl rfl g_1095 ?_)
          obtain ⟨g_1096, h⟩ := ck_some h
          refine sp rfl (OpT.str_add rfl (dl rfl rfl) rfl rfl g_1096 ?_)
          obtain ⟨v_1097, e_1098, h⟩ := bind_some h
          refine sp rfl (OpT.indexXM (n := 0) (xs := y4_0_1) (f := cS) (old := v_1097) rfl (dl rfl rfl) Tryd.underlying47 i9 rfl rfl rfl e_1098 ?_)
          refine sp rfl (OpT.storeXM (i := 0) (xs := y4_0_1) (f := cS) (old := v_1097) (new := (((⟨#[123]⟩ : ByteArray) ++ y6_1_8) ++ (⟨#[125]⟩ : ByteArray))) rfl rfl i9 rfl rfl rfl (geti_some e_1098).2 (Nat.zero_le _) (Nat.le_of_ble_eq_true rfl) rfl ?_)
          refine TL'.nil (inBlock_normal (inBlock_normal (thenS_normal ?_)))
          refine T.regionL ?_
          refine sp rfl (OpT.int2 rfl rfl (dl rfl rfl) rfl rfl ?_)
          refine mv rfl rfl rfl rfl rfl ?_
          refine TL'.nil (thenS_normal ?_)
          refine TL.by_turn ?_ (hgo0 x0 x18_0_3 (IntKind.i64.wrap (x19_1_12 + (1 : Int))) (List.set y4_0_1 (Int.toNat x5_1_2) (((⟨#[123]⟩ : ByteArray) ++ y6_1_8) ++ (⟨#[125]⟩ : ByteArray))) flx0 w4_1 h)
          exact Turn.rp (.cons rfl (.cons rfl (.cons rfl (.cons rfl (.cons rfl (.nil _)))))) (.c .z (.c (.s (.s .z)) (.c (.s (.s .z)) (.c (.s (.s .z)) (.n _)))))
        · refine T.condF rfl c_1094 ?_
          refine T.seq ?_
          refine T.regionL ?_
          refine sp rfl (OpT.int2 rfl rfl (dl rfl rfl) rfl rfl ?_)
          refine asg rfl rfl rfl rfl rfl ?_
          refine TL'.nil (thenS_normal ?_)
          rcases bif_some h with ⟨c_1099, h⟩ | ⟨c_1099, h⟩
          · refine T.condT rfl c_1099 ?_
            refine DG.start ?_
            refine DG.mv rfl rfl rfl rfl rfl rfl ?_
            refine DG.mv rfl rfl rfl rfl rfl rfl ?_
            refine DG.mv rfl rfl rfl rfl rfl rfl ?_
            obtain ⟨v_1108, e_1109, h⟩ := bind_some h
            refine DG.step (c := ⟨some 75, .el w7_1 1 (Int.toNat (0 : Int)) 0, [(74, .c (.ex w7_1))], [(2, .arrX w7_1 9 1 0 (y7_1_9.map cS))], []⟩) (fun t hm => One.step rfl (.free rfl) (OpT.indexXM (n := 2) (xs := y7_1_9) (f := cS) (old := v_1108) rfl (dl rfl rfl) Tryd.underlying47 i9 hm.s0 hm.o0 rfl e_1109 rfl)) (Ct.met_of rfl rfl) ?_
            refine DG.step (c := ⟨some 76, .str v_1108, [(75, .el w7_1 1 (Int.toNat (0 : Int)) 0)], [(2, .arrX w7_1 9 1 0 (y7_1_9.map cS))], []⟩) (fun t hm => One.step rfl (.free rfl) (OpT.loadXM (i := 2) (xs := y7_1_9) (f := cS) (old := v_1108) rfl (dl rfl rfl) Tryd.underlying9 rfl hm.s0 hm.o0 (geti_some e_1109).2 rfl rfl)) (Ct.met_of rfl rfl) ?_
            refine DG.step (c := ⟨some 77, .ptr b6_1 (0 + 6), [(6, .ptr b6_1 0)], [], []⟩) (fun t hm => One.step rfl (.free rfl) (OpT.fieldPtr rfl (dl rfl rfl) Tryd.underlying42 rfl i3 (by decide) hm.s0 rfl)) (Ct.met_of rfl rfl) ?_
            refine DG.step (c := ⟨some 78, .int .i64 y6_1_6, [(77, .ptr b6_1 (0 + 6))], [(1, .box b6_1 42 [.d (.int .u8 y6_1_3), .d (.int .u64 y6_1_4.a0), .d (.int .u64 y6_1_4.a1), .d (.int .u64 y6_1_4.a2), .d (.int .u64 y6_1_4.a3), .d (.sl false 1 (y6_1_5.map (cI .i64))), .d (.int .i64 y6_1_6), .d (.int .i64 y6_1_7), .d (.str y6_1_8)])], []⟩) (fun t hm => One.step rfl (.free rfl) (OpT.loadBox (i := 1) rfl (dl rfl rfl) Tryd.underlying3 rfl hm.s0 hm.o0 rfl rfl)) (Ct.met_of rfl rfl) ?_
            refine DG.step (c := ⟨some 79, .ptr b6_1 (0 + 7), [(6, .ptr b6_1 0)], [], []⟩) (fun t hm => One.step rfl (.free rfl) (OpT.fieldPtr rfl (dl rfl rfl) Tryd.underlying42 rfl i3 (by decide) hm.s0 rfl)) (Ct.met_of rfl rfl) ?_
            refine DG.step (c := ⟨some 80, .int .i64 y6_1_7, [(79, .ptr b6_1 (0 + 7))], [(1, .box b6_1 42 [.d (.int .u8 y6_1_3), .d (.int .u64 y6_1_4.a0), .d (.int .u64 y6_1_4.a1), .d (.int .u64 y6_1_4.a2), .d (.int .u64 y6_1_4.a3), .d (.sl false 1 (y6_1_5.map (cI .i64))), .d (.int .i64 y6_1_6), .d (.int .i64 y6_1_7), .d (.str y6_1_8)])], []⟩) (fun t hm => One.step rfl (.free rfl) (OpT.loadBox (i := 1) rfl (dl rfl rfl) Tryd.underlying3 rfl hm.s0 hm.o0 rfl rfl)) (Ct.met_of rfl rfl) ?_
            obtain ⟨v_1110, e_1111, h⟩ := bind_some h
            refine DG.step (c := ⟨some 81, .str v_1110, [(78, .int .i64 y6_1_6), (80, .int .i64 y6_1_7)], [(3, .tab 1 pow10V)], []⟩) (fun t hm => One.step rfl (.free rfl) (OpT.callRoA rfl (dl rfl rfl) Tryd.func21 rfl rfl (Args.cons hm.s0 (Args.cons hm.s1 Args.nil)) (.tab 3 hm.o0 (.nil)) (print_times_T K e_1111) rfl)) (Ct.met_of rfl rfl) ?_
            obtain ⟨g_1112, h⟩ := ck_some h
            refine DG.step (c := ⟨some 82, .str (v_1108 ++ v_1110), [(76, .str v_1108), (81, .str v_1110)], [], []⟩) (fun t hm => One.step rfl (.free rfl) (OpT.str_add rfl (dl rfl rfl) hm.s0 hm.s1 g_1112 rfl)) (Ct.met_of rfl rfl) ?_
            obtain ⟨v_1113, e_1114, h⟩ := bind_some h
            refine DG.step (c := ⟨some 83, .el w4_1 1 (Int.toNat x5_1_2) 0, [(72, .c (.ex w4_1)), (73, .int .i64 x5_1_2)], [(0, .arrX w4_1 9 1 0 (y4_0_1.map cS))], []⟩) (fun t hm => One.step rfl (.free rfl) (OpT.indexXM (n := 0) (xs := y4_0_1) (f := cS) (old := v_1113) rfl (dl rfl rfl) Tryd.underlying47 i9 hm.s0 hm.o0 hm.s1 e_1114 rfl)) (Ct.met_of rfl rfl) ?_
            refine DG.step (c := ⟨none, .any, [(83, .el w4_1 1 (Int.toNat x5_1_2) 0), (82, .str (v_1108 ++ v_1110))], [(0, .arrX w4_1 9 1 0 (y4_0_1.map cS))], [(0, .arrX w4_1 9 1 0 ((List.set y4_0_1 (Int.toNat x5_1_2) (v_1108 ++ v_1110)).map cS))]⟩) (fun t hm => One.step rfl (.free rfl) (OpT.storeXM (i := 0) (xs := y4_0_1) (f := cS) (old := v_1113) (new := (v_1108 ++ v_1110)) rfl rfl i9 hm.s0 hm.s1 hm.o0 (geti_some e_1114).2 (Nat.zero_le _) (Nat.le_of_ble_eq_true rfl) rfl rfl)) (Ct.met_of rfl rfl) ?_
            refine DG.fin (s1 := ⟨[(0, .sl flx0 9 (x0.map c_api_Node)), (4, .c (.ex w4_1)), (17, .sl flx0 9 (x0.map c_api_Node)), (18, .int .i64 x18_0_3), (19, .int .i64 x19_1_12)], [.arrX w4_1 9 1 0 ((List.set y4_0_1 (Int.toNat x5_1_2) (v_1108 ++ v_1110)).map cS), .box b6_1 42 [.d (.int .u8 y6_1_3), .d (.int .u64 y6_1_4.a0), .d (.int .u64 y6_1_4.a1), .d (.int .u64 y6_1_4.a2), .d (.int .u64 y6_1_4.a3), .d (.sl false 1 (y6_1_5.map (cI .i64))), .d (.int .i64 y6_1_6), .d (.int .i64 y6_1_7), .d (.str y6_1_8)], .arrX w7_1 9 1 0 (y7_1_9.map cS), .tab 1 pow10V, .ro 2 deBruijnD, .ro 3 deBruijn32D]⟩) (ms := [0, 0, 0, 4, 12, 0, 32, 0, 128, 480, 1020, 2047, 4095]) TrydMixed rfl (by kernel_rfl) (by kernel_rfl) (by kernel_rfl) (.cons rfl (.cons rfl (.cons rfl (.cons rfl (.cons rfl (.nil _)))))) rfl (fun u hu => (inBlock_normal (inBlock_normal (thenS_normal (T.by_turn hu ?_)))))
            refine T.regionL ?_
            refine sp rfl (OpT.int2 rfl rfl (dl rfl rfl) rfl rfl ?_)
            refine mv rfl rfl rfl rfl rfl ?_
            refine TL'.nil (thenS_normal ?_)
            refine TL.by_turn ?_ (hgo0 x0 x18_0_3 (IntKind.i64.wrap (x19_1_12 + (1 : Int))) (List.set y4_0_1 (Int.toNat x5_1_2) (v_1108 ++ v_1110)) flx0 w4_1 h)
            exact Turn.rp (.cons rfl (.cons rfl (.cons rfl (.cons rfl (.cons rfl (.nil _)))))) (.c .z (.c (.s (.s .z)) (.c (.s (.s .z)) (.c (.s (.s .z)) (.n _)))))
          · refine T.condF rfl c_1099 ?_
            refine T.seq ?_
            refine T.regionL ?_
            refine sp rfl (OpT.int2 rfl rfl (dl rfl rfl) rfl rfl ?_)
            refine asg rfl rfl rfl rfl rfl ?_
            refine TL'.nil (thenS_normal ?_)
            rcases bif_some h with ⟨c_1115, h⟩ | ⟨c_1115, h⟩
            · refine T.condT rfl c_1115 ?_
              refine T.regionL ?_
              refine mv rfl rfl rfl rfl rfl ?_
              refine mv rfl rfl rfl rfl rfl ?_
              refine mv rfl rfl rfl rfl rfl ?_
              obtain ⟨v_1116, e_1117, h⟩ := bind_some h
              refine sp rfl (OpT.callLent (i := 2) rfl (dl rfl rfl) Tryd.func22 rfl rfl rfl (ArgsB.lentXM (xs := y7_1_9) (f := cS) rfl (ArgsB.cons rfl ArgsB.nil)) (CallR.nil (strings_Join_T K (flx0 := false) e_1117)) (.ex _) ?_)
              obtain ⟨v_1118, e_1119, h⟩ := bind_some h
              refine sp rfl (OpT.indexXM (n := 0) (xs := y4_0_1) (f := cS) (old := v_1118) rfl (dl rfl rfl) Tryd.underlying47 i9 rfl rfl rfl e_1119 ?_)
              refine sp rfl (OpT.storeXM (i := 0) (xs := y4_0_1) (f := cS) (old := v_1118) (new := v_1116) rfl rfl i9 rfl rfl rfl (geti_some e_1119).2 (Nat.zero_le _) (Nat.le_of_ble_eq_true rfl) rfl ?_)
              refine TL'.nil (inBlock_normal (inBlock_normal (thenS_normal ?_)))
              refine T.regionL ?_
              refine sp rfl (OpT.int2 rfl rfl (dl rfl rfl) rfl rfl ?_)
              refine mv rfl rfl rfl rfl rfl ?_
              refine TL'.nil (thenS_normal ?_)
              refine TL.by_turn ?_ (hgo0 x0 x18_0_3 (IntKind.i64.wrap (x19_1_12 + (1 : Int))) (List.set y4_0_1 (Int.toNat x5_1_2) v_1116) flx0 w4_1 h)
              exact Turn.rp (.cons rfl (.cons rfl (.cons rfl (.cons rfl (.cons rfl (.nil _)))))) (.c .z (.c (.s (.s .z)) (.c (.s (.s .z)) (.c (.s (.s .z)) (.n _)))))
            · refine T.condF rfl c_1115 ?_
              refine T.seq ?_
              refine T.regionL ?_
              refine sp rfl (OpT.int2 rfl rfl (dl rfl rfl) rfl rfl ?_)
              refine asg rfl rfl rfl rfl rfl ?_
              refine TL'.nil (thenS_normal ?_)
              rcases bif_some h with ⟨c_1120, h⟩ | ⟨c_1120, h⟩
              · refine T.condT rfl c_1120 ?_
                refine T.regionL ?_
                refine mv rfl rfl rfl rfl rfl ?_
                refine mv rfl rfl rfl rfl rfl ?_
                refine mv rfl rfl rfl rfl rfl ?_
                obtain ⟨v_1121, e_1122, h⟩ := bind_some h
                refine sp rfl (OpT.callLent (i := 2) rfl (dl rfl rfl) Tryd.func22 rfl rfl rfl (ArgsB.lentXM (xs := y7_1_9) (f := cS) rfl (ArgsB.cons rfl ArgsB.nil)) (CallR.nil (strings_Join_T K (flx0 := false) e_1122)) (.ex _) ?_)
                obtain ⟨v_1123, e_1124, h⟩ := bind_some h
                refine sp rfl (OpT.indexXM (n := 0) (xs := y4_0_1) (f := cS) (old := v_1123) rfl (dl rfl rfl) Tryd.underlying47 i9 rfl rfl rfl e_1124 ?_)
                refine sp rfl (OpT.storeXM (i := 0) (xs := y4_0_1) (f := cS) (old := v_1123) (new := v_1121) rfl rfl i9 rfl rfl rfl (geti_some e_1124).2 (Nat.zero_le _) (Nat.le_of_ble_eq_true rfl) rfl ?_)
                refine TL'.nil (inBlock_normal (inBlock_normal (thenS_normal ?_)))
                refine T.regionL ?_
                refine sp rfl (OpT.int2 rfl rfl (dl rfl rfl) rfl rfl ?_)
                refine mv rfl rfl rfl rfl rfl ?_
                refine TL'.nil (thenS_normal ?_)
                refine TL.by_turn ?_ (hgo0 x0 x18_0_3 (IntKind.i64.wrap (x19_1_12 + (1 : Int))) (List.set y4_0_1 (Int.toNat x5_1_2) v_1121) flx0 w4_1 h)
                exact Turn.rp (.cons rfl (.cons rfl (.cons rfl (.cons rfl (.cons rfl (.nil _)))))) (.c .z (.c (.s (.s .z)) (.c (.s (.s .z)) (.c (.s (.s .z)) (.n _)))))
              · refine T.condF rfl c_1120 ?_
                refine T.skip (inBlock_normal (inBlock_normal (thenS_normal ?_)))
                refine T.regionL ?_
                refine sp rfl (OpT.int2 rfl rfl (dl rfl rfl) rfl rfl ?_)
                refine mv rfl rfl rfl rfl rfl ?_
                refine TL'.nil (thenS_normal ?_)
                refine TL.by_turn ?_ (hgo0 x0 x18_0_3 (IntKind.i64.wrap (x19_1_12 + (1 : Int))) y4_0_1 flx0 w4_1 h)
                exact Turn.rp (.cons rfl (.cons rfl (.cons rfl (.cons rfl (.cons rfl (.nil _)))))) (.c .z (.c (.s (.s .z)) (.c (.s (.s .z)) (.c (.s (.s .z)) (.n _)))))

theorem print_Tree_l0_T {r : ByteArray × Bool} (K : Nat) : ∀ (k : Nat), ∀ (x0 : List api_Node) (x18_0_3 : Int) (x19_0_4 : Int) (y4_0_1 : List ByteArray) (flx0 : Bool) (w4_0 : Value), print_Tree_l0 K k x0 x18_0_3 x19_0_4 y4_0_1 = some r → TL Tryd.prog 105 (Code.at [1, 1, 1, 0, 1, 0, 0] (codeOf Tryd.f9)) ⟨[(0, .sl flx0 9 (x0.map c_api_Node)), (4, .c (.ex w4_0)), (17, .sl flx0 9 (x0.map c_api_Node)), (18, .int .i64 x18_0_3), (19, .int .i64 x19_0_4)], [.arrX w4_0 9 1 0 (y4_0_1.map cS), .tab 1 pow10V, .ro 2 deBruijnD, .ro 3 deBruijn32D]⟩ (print_Tree_qb0x1111 r) := by
  intro k
  induction k with
  | zero =>
    intro x0 x18_0_3 x19_0_4 y4_0_1 flx0 w4_0 h
    cases (show (none : Option (ByteArray × Bool)) = some r from h)
  | succ k ih =>
    intro x0 x18_0_3 x19_0_4 y4_0_1 flx0 w4_0 h
    rw [print_Tree_l0] at h
    refine TL.round ?_
    refine T.seq ?_
    refine T.regionL ?_
    refine sp rfl (OpT.int2 rfl rfl (dl rfl rfl) rfl rfl ?_)
    refine TL'.nil (thenS_normal ?_)
    refine T.seq ?_
    rcases bif_some h with ⟨c_1065, h⟩ | ⟨c_1065, h⟩
    · refine T.condT rfl c_1065 ?_
      refine T.skip (thenS_normal ?_)
      refine T.seq ?_
      refine T.block ?_
      refine T.seq ?_
      refine T.regionL ?_
      refine mv rfl rfl rfl rfl rfl ?_
      obtain ⟨v_1066, e_1067, h⟩ := bind_some h
      refine sp rfl (OpT.indexSlM (xs := x0) (f := c_api_Node) (v := v_1066) rfl (dl rfl rfl) Tryd.underlying22 i42 rfl rfl e_1067 ?_)
      refine sp rfl (OpT.loadRefAgg rfl (dl rfl rfl) Tryd.underlying42 rfl i42 rfl (Nat.le_of_ble_eq_true rfl) ?_)
      refine sp rfl (OpT.alloc' rfl (dl rfl rfl) i42 rfl (fun b_1068 => ?_))
      refine asg rfl rfl rfl rfl rfl ?_
      refine sp rfl (OpT.storeAggTo (i := 0) (cells' := [.d (.int .u8 v_1066.Op), .d (.int .u64 v_1066.S.a0), .d (.int .u64 v_1066.S.a1), .d (.int .u64 v_1066.S.a2), .d (.int .u64 v_1066.S.a3), .d (.sl false 1 (v_1066.L.map (cI .i64))), .d (.int .i64 v_1066.Lo), .d (.int .i64 v_1066.Hi), .d (.str v_1066.Name)]) rfl rfl i42 rfl rfl rfl rfl (Nat.le_of_ble_eq_true rfl) rfl ?_)
      refine TL'.nil (thenS_normal ?_)
      refine T.seq ?_
      refine T.regionL ?_
      refine asg rfl rfl rfl rfl rfl ?_
      refine TL'.nil (thenS_normal ?_)
      refine T.seq ?_
      refine T.seq ?_
      refine T.regionL ?_
      refine sp rfl (OpT.fieldPtr rfl (dl rfl rfl) Tryd.underlying42 rfl i40 (by decide) rfl ?_)
      refine sp rfl (OpT.loadBox (i := 0) rfl (dl rfl rfl) Tryd.underlying40 rfl rfl rfl rfl ?_)
      refine sp rfl (OpT.lenSlM (xs := v_1066.L) (f := (cI .i64)) rfl (dl rfl rfl) Tryd.underlying40 rfl ?_)
      refine mv rfl rfl rfl rfl rfl ?_
      refine TL'.nil (thenS_normal ?_)
      refine T.block ?_
      refine T.loop ?_
      refine TL.by_turn (Turn.nilX 9 1) ?_
      refine TL.by_turn ?_ (print_Tree_l1_T K (print_Tree_l0 K k) ih K x0 x19_0_4 x18_0_3 x19_0_4 v_1066.L (v_1066.L.length : Int) (0 : Int) y4_0_1 v_1066.Op v_1066.S v_1066.L v_1066.Lo v_1066.Hi v_1066.Name [] flx0 w4_0 b_1068 (nilv 2) h)
      exact Turn.rp (.cons rfl (.cons rfl (.cons rfl (.cons rfl (.cons rfl (.cons rfl (.cons rfl (.cons rfl (.cons rfl (.cons rfl (.cons rfl (.nil _)))))))))))) (.c (.s (.s .z)) (.c (.s .z) (.c .z (.c .z (.c .z (.c .z (.n _)))))))
    · refine T.condF rfl c_1065 ?_
      refine T.exit (thenS_exit (thenS_exit (inBlock_exit (thenS_normal ?_))))
      refine T.seq ?_
      refine T.regionL ?_
      refine mv rfl rfl rfl rfl rfl ?_
      refine mv rfl rfl rfl rfl rfl ?_
      refine sp rfl (OpT.lenSlM (xs := x0) (f := c_api_Node) rfl (dl rfl rfl) Tryd.underlying22 rfl ?_)
      refine sp rfl (OpT.int2 rfl rfl (dl rfl rfl) rfl rfl ?_)
      obtain ⟨v_1125, e_1126, h⟩ := bind_some h
      refine sp rfl (OpT.indexXM (n := 0) (xs := y4_0_1) (f := cS) (old := v_1125) rfl (dl rfl rfl) Tryd.underlying47 i9 rfl rfl rfl e_1126 ?_)
      refine sp rfl (OpT.loadXM (i := 0) (xs := y4_0_1) (f := cS) (old := v_1125) rfl (dl rfl rfl) Tryd.underlying9 rfl rfl rfl (geti_some e_1126).2 rfl ?_)
      refine asg rfl rfl rfl rfl rfl ?_
      refine asg rfl rfl rfl rfl rfl ?_
      refine TL'.nil (thenS_normal ?_)
      refine T.ret ?_
      exact Fin.doneK (.cons _ _ _ _ (.tmp 2 _ rfl) (.cons _ _ _ _ (.tmp 3 _ rfl) .nil)) (.cons 1 rfl (.cons 1 rfl (.cons 1 rfl (.nil _)))) (by cases h; exact ⟨rfl, rfl⟩)

theorem print_Tree_T (K : Nat) {x0 : List api_Node} {flx0 : Bool} {r : ByteArray × Bool} (h : print_Tree K x0 = some r) : CallR Tryd.prog 9 [.sl flx0 9 (x0.map c_api_Node)] [.tab 1 pow10V, .ro 2 deBruijnD, .ro 3 deBruijn32D] (.tup [.str r.1, .bool r.2]) := by
  refine CallT.intro Tryd.func9 rfl (Nat.le_of_ble_eq_true rfl) ?_
  show T Tryd.prog 105 (Code.at [] (codeOf Tryd.f9)) ⟨paramSlots 0 [.sl flx0 9 (x0.map c_api_Node)], [.tab 1 pow10V, .ro 2 deBruijnD, .ro 3 deBruijn32D]⟩ (print_Tree_q r)
  unfold print_Tree at h
  refine T.seq ?_
  refine T.regionL ?_
  refine asg rfl rfl rfl rfl rfl ?_
  refine asg rfl rfl rfl rfl rfl ?_
  refine TL'.nil (thenS_normal ?_)
  refine T.seq ?_
  refine T.seq ?_
  refine T.regionL ?_
  refine mv rfl rfl rfl rfl rfl ?_
  obtain ⟨v_1059, e_1060, h⟩ := bind_some h
  refine sp rfl (OpT.callPA rfl (dl rfl rfl) Tryd.func16 rfl rfl (Args.cons rfl Args.nil) (CallR.nil (syntax_Right_T K (flx0 := flx0) e_1060)) ?_)
  refine sp rfl (OpT.not rfl (dl rfl rfl) rfl ?_)
  refine TL'.nil (thenS_normal ?_)
  rcases bif_some h with ⟨c_1061, h⟩ | ⟨c_1061, h⟩
  · refine T.condT rfl c_1061 ?_
    refine T.seq ?_
    refine T.regionL ?_
    refine asg rfl rfl rfl rfl rfl ?_
    refine asg rfl rfl rfl rfl rfl ?_
    refine TL'.nil (thenS_normal ?_)
    refine T.ret (thenS_ret ?_)
    exact Fin.doneK (.cons _ _ _ _ (.tmp 2 _ rfl) (.cons _ _ _ _ (.tmp 3 _ rfl) .nil)) (.cons 0 rfl (.cons 0 rfl (.cons 0 rfl (.nil _)))) (by cases h; exact ⟨rfl, rfl⟩)
  · refine T.condF rfl c_1061 ?_
    refine T.skip (thenS_normal ?_)
    refine T.seq ?_
    refine T.regionL ?_
    refine mv rfl rfl rfl rfl rfl ?_
    refine sp rfl (OpT.lenSlM (xs := x0) (f := c_api_Node) rfl (dl rfl rfl) Tryd.underlying22 rfl ?_)
    obtain ⟨g_1062, h⟩ := ck_some h
    obtain ⟨g_1063, h⟩ := ck_some h
    refine sp rfl (OpT.makeSliceX (f := cS) (zv := ((⟨#[]⟩ : ByteArray) : ByteArray)) rfl (dl rfl rfl) Tryd.underlying47 i9 (by decide) rfl rfl rfl rfl rfl g_1062 g_1063 (fun w_1064 => ?_))
    refine asg rfl rfl rfl rfl rfl ?_
    refine TL'.nil (thenS_normal ?_)
    refine T.seq ?_
    refine T.seq ?_
    refine T.regionL ?_
    refine mv rfl rfl rfl rfl rfl ?_
    refine sp rfl (OpT.lenSlM (xs := x0) (f := c_api_Node) rfl (dl rfl rfl) Tryd.underlying22 rfl ?_)
    refine mv rfl rfl rfl rfl rfl ?_
    refine TL'.nil (thenS_normal ?_)
    refine T.block ?_
    refine T.loop ?_
    refine TL.by_turn ?_ (print_Tree_l0_T K K x0 (x0.length : Int) (0 : Int) (List.replicate (Int.toNat (x0.length : Int)) ((⟨#[]⟩ : ByteArray) : ByteArray)) flx0 w_1064 h)
    exact Turn.rp (.cons rfl (.cons rfl (.cons rfl (.cons rfl (.cons rfl (.nil _)))))) (.c .z (.c .z (.c .z (.c .z (.n _)))))

abbrev l5_shown_q (r : Bool) : Exit → St → Prop := retS Tryd.prog Tryd.f11 (fun y t => y = (.bool r) ∧ t = [.tab 1 pow10V, .ro 2 deBruijnD, .ro 3 deBruijn32D])

theorem l5_shown_T (K : Nat) {r : Bool} (h : l5_shown K = some r) : CallR Tryd.prog 11 [] [.tab 1 pow10V, .ro 2 deBruijnD, .ro 3 deBruijn32D] (.bool r) := by
  refine CallT.intro Tryd.func11 rfl (Nat.le_of_ble_eq_true rfl) ?_
  show T Tryd.prog 21 (Code.at [] (codeOf Tryd.f11)) ⟨paramSlots 0 [], [.tab 1 pow10V, .ro 2 deBruijnD, .ro 3 deBruijn32D]⟩ (l5_shown_q r)
  unfold l5_shown at h
  refine T.seq ?_
  refine T.regionL ?_
  refine asg rfl rfl rfl rfl rfl ?_
  refine TL'.nil (thenS_normal ?_)
  refine T.seq ?_
  refine T.regionL ?_
  obtain ⟨v_21, e_22, h⟩ := bind_some h
  refine sp rfl (OpT.callPA rfl (dl rfl rfl) Tryd.func25 rfl rfl (Args.cons rfl Args.nil) (CallR.nil (r4_Parse_T K e_22)) ?_)
  refine mv rfl rfl rfl rfl rfl ?_
  refine sp rfl (OpT.extract rfl (dl rfl rfl) rfl rfl ?_)
  refine sp rfl (OpT.extract rfl (dl rfl rfl) rfl rfl ?_)
  refine sp rfl (OpT.extract rfl (dl rfl rfl) rfl rfl ?_)
  refine asg rfl rfl rfl rfl rfl ?_
  refine asg rfl rfl rfl rfl rfl ?_
  refine asg rfl rfl rfl rfl rfl ?_
  refine TL'.nil (thenS_normal ?_)
  refine T.seq ?_
  refine T.regionL ?_
  refine mv rfl rfl rfl rfl rfl ?_
  obtain ⟨v_23, e_24, h⟩ := bind_some h
  refine sp rfl (OpT.callRoA rfl (dl rfl rfl) Tryd.func9 rfl rfl (Args.cons rfl Args.nil) (.tab 0 rfl (.cons 1 rfl (.cons 2 rfl (.nil)))) (print_Tree_T K (flx0 := false) e_24) ?_)
  refine mv rfl rfl rfl rfl rfl ?_
  refine sp rfl (OpT.extract rfl (dl rfl rfl) rfl rfl ?_)
  refine sp rfl (OpT.extract rfl (dl rfl rfl) rfl rfl ?_)
  refine asg rfl rfl rfl rfl rfl ?_
  refine asg rfl rfl rfl rfl rfl ?_
  refine TL'.nil (thenS_normal ?_)
  refine T.seq ?_
  refine T.regionL ?_
  refine mv rfl rfl rfl rfl rfl ?_
  refine sp rfl (OpT.str_eql rfl (dl rfl rfl) rfl rfl ?_)
  refine mv rfl rfl rfl rfl rfl ?_
  rcases bif_some h with ⟨c_25, h⟩ | ⟨c_25, h⟩
  · refine TL'.step (.on rfl rfl rfl c_25) (OpT.move rfl (dl rfl rfl) rfl ?_)
    refine sp rfl (OpT.pickT rfl (dl rfl rfl) rfl c_25 rfl ?_)
    refine asg rfl rfl rfl rfl rfl ?_
    refine TL'.nil (thenS_normal ?_)
    refine T.ret ?_
    exact Fin.doneK (.cons _ _ _ _ (.tmp 0 _ rfl) .nil) (.cons 0 rfl (.cons 0 rfl (.cons 0 rfl (.nil _)))) (by cases h; exact ⟨rfl, rfl⟩)
  · refine TL'.passU (.off _ _ _ _ rfl rfl rfl c_25) (dl rfl rfl) ?_
    refine sp rfl (OpT.pickF rfl (dl rfl rfl) rfl c_25 rfl ?_)
    refine asg rfl rfl rfl rfl rfl ?_
    refine TL'.nil (thenS_normal ?_)
    refine T.ret ?_
    exact Fin.doneK (.cons _ _ _ _ (.tmp 0 _ rfl) .nil) (.cons 0 rfl (.cons 0 rfl (.cons 0 rfl (.nil _)))) (by cases h; exact ⟨rfl, rfl⟩)

end Go.Rv

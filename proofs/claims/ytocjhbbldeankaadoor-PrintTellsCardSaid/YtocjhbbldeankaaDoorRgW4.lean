/- Each function computes what its plain text says: printed by a program of ours. -/
import Derived.Test.YtocjhbbldeankaaDoorRgW3
namespace Go.Rv
open Go.Proofs
set_option maxRecDepth 100000
set_option maxHeartbeats 4000000
set_option linter.unusedVariables false
abbrev pT_q (r : ByteArray × Bool) : Exit → St → Prop := retS Tryd.prog Tryd.f9 (fun y t => y = (.tup [.str r.1, .bool r.2]) ∧ t = [.tab 1 pow10V, .ro 2 deBruijnD, .ro 3 deBruijn32D])
abbrev pT_qs1111 (r : ByteArray × Bool) : Exit → St → Prop := thenS (fun s' => T Tryd.prog 105 (Code.at [1, 1, 1, 1] (codeOf Tryd.f9)) s' ((pT_q r))) ((pT_q r))
abbrev pT_qb0x1111 (r : ByteArray × Bool) : Exit → St → Prop := inBlockS 0 ((pT_qs1111 r))
abbrev pT_ql111010 (r : ByteArray × Bool) : Exit → St → Prop := thenS (fun s' => TL Tryd.prog 105 (Code.at [1, 1, 1, 0, 1, 0, 0] (codeOf Tryd.f9)) s' ((pT_qb0x1111 r))) ((pT_qb0x1111 r))
abbrev pT_qs1110100111 (r : ByteArray × Bool) : Exit → St → Prop := thenS (fun s' => T Tryd.prog 105 (Code.at [1, 1, 1, 0, 1, 0, 0, 1, 1, 1] (codeOf Tryd.f9)) s' ((pT_ql111010 r))) ((pT_ql111010 r))
abbrev pT_qb1_0x1110100111 (r : ByteArray × Bool) : Exit → St → Prop := inBlockS 1 ((pT_qs1110100111 r))
abbrev pT_qs11101001100111 (r : ByteArray × Bool) : Exit → St → Prop := thenS (fun s' => T Tryd.prog 105 (Code.at [1, 1, 1, 0, 1, 0, 0, 1, 1, 0, 0, 1, 1, 1] (codeOf Tryd.f9)) s' ((pT_qb1_0x1110100111 r))) ((pT_qb1_0x1110100111 r))
abbrev pT_qb2_1_0x11101001100111 (r : ByteArray × Bool) : Exit → St → Prop := inBlockS 2 ((pT_qs11101001100111 r))
abbrev pT_ql1110100110011010 (r : ByteArray × Bool) : Exit → St → Prop := thenS (fun s' => TL Tryd.prog 105 (Code.at [1, 1, 1, 0, 1, 0, 0, 1, 1, 0, 0, 1, 1, 0, 1, 0, 0] (codeOf Tryd.f9)) s' ((pT_qb2_1_0x11101001100111 r))) ((pT_qb2_1_0x11101001100111 r))
abbrev pT_qs11101001100110100111 (r : ByteArray × Bool) : Exit → St → Prop := thenS (fun s' => T Tryd.prog 105 (Code.at [1, 1, 1, 0, 1, 0, 0, 1, 1, 0, 0, 1, 1, 0, 1, 0, 0, 1, 1, 1] (codeOf Tryd.f9)) s' ((pT_ql1110100110011010 r))) ((pT_ql1110100110011010 r))
abbrev pT_qb3_2_1_0x11101001100110100111 (r : ByteArray × Bool) : Exit → St → Prop := inBlockS 3 ((pT_qs11101001100110100111 r))
abbrev pT_l1_H (r : ByteArray × Bool) (go : (List aNd) → Int → Int → Int → (List Int) → Int → Int → (List ByteArray) → Int → Arr4 → (List Int) → Int → Int → ByteArray → (List ByteArray) → Option (ByteArray × Bool)) : Prop := ∀ (x0 : List aNd) (x5_1_2 : Int) (x18_0_3 : Int) (x19_1_12 : Int) (x25_1_13 : List Int) (x26_1_14 : Int) (x27_1_15 : Int) (y4_0_1 : List ByteArray) (y6_1_3 : Int) (y6_1_4 : Arr4) (y6_1_5 : List Int) (y6_1_6 : Int) (y6_1_7 : Int) (y6_1_8 : ByteArray) (y7_1_9 : List ByteArray) (flx0 : Bool) (w4_1 : Value) (b6_1 : Nat) (w7_1 : Value), go x0 x5_1_2 x18_0_3 x19_1_12 x25_1_13 x26_1_14 x27_1_15 y4_0_1 y6_1_3 y6_1_4 y6_1_5 y6_1_6 y6_1_7 y6_1_8 y7_1_9 = some r → TL Tryd.prog 105 (Code.at [1, 1, 1, 0, 1, 0, 0, 1, 1, 0, 0, 1, 1, 0, 1, 0, 0] (codeOf Tryd.f9)) ⟨[(0, .sl flx0 9 (x0.map c_aNd)), (4, .c (.ex w4_1)), (5, .int .i64 x5_1_2), (6, .ptr b6_1 0), (7, .c (.ex w7_1)), (17, .sl flx0 9 (x0.map c_aNd)), (18, .int .i64 x18_0_3), (19, .int .i64 x19_1_12), (25, .sl false 1 (x25_1_13.map (cI .i64))), (26, .int .i64 x26_1_14), (27, .int .i64 x27_1_15)], [.arrX w4_1 9 1 0 (y4_0_1.map cS), .box b6_1 42 [.d (.int .u8 y6_1_3), .d (.int .u64 y6_1_4.a0), .d (.int .u64 y6_1_4.a1), .d (.int .u64 y6_1_4.a2), .d (.int .u64 y6_1_4.a3), .d (.sl false 1 (y6_1_5.map (cI .i64))), .d (.int .i64 y6_1_6), .d (.int .i64 y6_1_7), .d (.str y6_1_8)], .arrX w7_1 9 1 0 (y7_1_9.map cS), .tab 1 pow10V, .ro 2 deBruijnD, .ro 3 deBruijn32D]⟩ (pT_qb2_1_0x11101001100111 r)
theorem pT_j2_T {r : ByteArray × Bool} (K : Nat) (go1 : (List aNd) → Int → Int → Int → (List Int) → Int → Int → (List ByteArray) → Int → Arr4 → (List Int) → Int → Int → ByteArray → (List ByteArray) → Option (ByteArray × Bool)) (hgo1 : pT_l1_H r go1) (x0 : List aNd) (x5_2_2 : Int) (x10_2_10 : ByteArray) (x18_0_3 : Int) (x19_2_13 : Int) (x25_2_14 : List Int) (x26_2_15 : Int) (x27_2_16 : Int) (y4_0_1 : List ByteArray) (y6_1_3 : Int) (y6_1_4 : Arr4) (y6_1_5 : List Int) (y6_1_6 : Int) (y6_1_7 : Int) (y6_1_8 : ByteArray) (y7_2_9 : List ByteArray) (flx0 : Bool) (w4_2 : Value) (b6_2 : Nat) (w7_2 : Value) (h : pT_j2 K go1 x0 x5_2_2 x10_2_10 x18_0_3 x19_2_13 x25_2_14 x26_2_15 x27_2_16 y4_0_1 y6_1_3 y6_1_4 y6_1_5 y6_1_6 y6_1_7 y6_1_8 y7_2_9 = some r) : T Tryd.prog 105 (Code.at [1, 1, 1, 0, 1, 0, 0, 1, 1, 0, 0, 1, 1, 0, 1, 0, 0, 1, 1, 0, 0, 1, 1, 1] (codeOf Tryd.f9)) ⟨[(0, .sl flx0 9 (x0.map c_aNd)), (4, .c (.ex w4_2)), (5, .int .i64 x5_2_2), (6, .ptr b6_2 0), (7, .c (.ex w7_2)), (10, .str x10_2_10), (17, .sl flx0 9 (x0.map c_aNd)), (18, .int .i64 x18_0_3), (19, .int .i64 x19_2_13), (25, .sl false 1 (x25_2_14.map (cI .i64))), (26, .int .i64 x26_2_15), (27, .int .i64 x27_2_16)], [.arrX w4_2 9 1 0 (y4_0_1.map cS), .box b6_2 42 [.d (.int .u8 y6_1_3), .d (.int .u64 y6_1_4.a0), .d (.int .u64 y6_1_4.a1), .d (.int .u64 y6_1_4.a2), .d (.int .u64 y6_1_4.a3), .d (.sl false 1 (y6_1_5.map (cI .i64))), .d (.int .i64 y6_1_6), .d (.int .i64 y6_1_7), .d (.str y6_1_8)], .arrX w7_2 9 1 0 (y7_2_9.map cS), .tab 1 pow10V, .ro 2 deBruijnD, .ro 3 deBruijn32D]⟩ (pT_qb3_2_1_0x11101001100110100111 r) := by
 unfold pT_j2 at h
 refine T.rL ?_
 refine mw rfl ?_
 refine mw rfl ?_
 refine sp rfl (OpT.buildSliceX (elems := ([x10_2_10] : List ByteArray).map cS) rfl (dk rfl) ul47 i9 (by decide) rfl (all1 rfl) rfl rfl rfl (lenAll rfl) (by decide) (fun b_1086 => ?_))
 refine TL'.turn (Turn.sealX 0 rfl) ?_
 refine TL'.turn (Turn.view 48 0 rfl rfl) ?_
 obtain ⟨g_1088, h⟩ := ck_some h
 refine sp rfl (OpT.appendXM (i := 3) (xs := y7_2_9) (ys := [x10_2_10]) (f := cS) rfl (dk rfl) ul47 i9 rfl rfl rfl rfl g_1088 (fun w_1087 => ?_))
 refine aw rfl ?_
 refine TL'.nil (inBlock_normal (tN ?_))
 refine T.rL ?_
 refine sp rfl (OpT.int2 rfl rfl (dk rfl) rfl rfl ?_)
 refine mw rfl ?_
 refine TL'.nil (tN ?_)
 refine TL.by_turn ?_ (hgo1 x0 x5_2_2 x18_0_3 x19_2_13 x25_2_14 x26_2_15 (IntKind.i64.wrap (x27_2_16 + (1 : Int))) y4_0_1 y6_1_3 y6_1_4 y6_1_5 y6_1_6 y6_1_7 y6_1_8 (y7_2_9 ++ [x10_2_10]) flx0 w4_2 b6_2 w_1087 h)
 exact Turn.rp (.cons rfl (.cons rfl (.cons rfl (.cons rfl (.cons rfl (.cons rfl (.cons rfl (.cons rfl (.cons rfl (.cons rfl (.cons rfl (.nil _)))))))))))) (.c (.s .z) (.c (.s .z) (.c (.s .z) (.c (.s .z) (.c (.s .z) (.c (.s .z) (.n _)))))))
abbrev pT_l0_H (r : ByteArray × Bool) (go : (List aNd) → Int → Int → (List ByteArray) → Option (ByteArray × Bool)) : Prop := ∀ (x0 : List aNd) (x18_0_3 : Int) (x19_0_4 : Int) (y4_0_1 : List ByteArray) (flx0 : Bool) (w4_0 : Value), go x0 x18_0_3 x19_0_4 y4_0_1 = some r → TL Tryd.prog 105 (Code.at [1, 1, 1, 0, 1, 0, 0] (codeOf Tryd.f9)) ⟨[(0, .sl flx0 9 (x0.map c_aNd)), (4, .c (.ex w4_0)), (17, .sl flx0 9 (x0.map c_aNd)), (18, .int .i64 x18_0_3), (19, .int .i64 x19_0_4)], [.arrX w4_0 9 1 0 (y4_0_1.map cS), .tab 1 pow10V, .ro 2 deBruijnD, .ro 3 deBruijn32D]⟩ (pT_qb0x1111 r)
theorem pT_l1_T {r : ByteArray × Bool} (K : Nat) (go0 : (List aNd) → Int → Int → (List ByteArray) → Option (ByteArray × Bool)) (hgo0 : pT_l0_H r go0) : ∀ (k : Nat), ∀ (x0 : List aNd) (x5_1_2 : Int) (x18_0_3 : Int) (x19_1_12 : Int) (x25_1_13 : List Int) (x26_1_14 : Int) (x27_1_15 : Int) (y4_0_1 : List ByteArray) (y6_1_3 : Int) (y6_1_4 : Arr4) (y6_1_5 : List Int) (y6_1_6 : Int) (y6_1_7 : Int) (y6_1_8 : ByteArray) (y7_1_9 : List ByteArray) (flx0 : Bool) (w4_1 : Value) (b6_1 : Nat) (w7_1 : Value), pT_l1 K go0 k x0 x5_1_2 x18_0_3 x19_1_12 x25_1_13 x26_1_14 x27_1_15 y4_0_1 y6_1_3 y6_1_4 y6_1_5 y6_1_6 y6_1_7 y6_1_8 y7_1_9 = some r → TL Tryd.prog 105 (Code.at [1, 1, 1, 0, 1, 0, 0, 1, 1, 0, 0, 1, 1, 0, 1, 0, 0] (codeOf Tryd.f9)) ⟨[(0, .sl flx0 9 (x0.map c_aNd)), (4, .c (.ex w4_1)), (5, .int .i64 x5_1_2), (6, .ptr b6_1 0), (7, .c (.ex w7_1)), (17, .sl flx0 9 (x0.map c_aNd)), (18, .int .i64 x18_0_3), (19, .int .i64 x19_1_12), (25, .sl false 1 (x25_1_13.map (cI .i64))), (26, .int .i64 x26_1_14), (27, .int .i64 x27_1_15)], [.arrX w4_1 9 1 0 (y4_0_1.map cS), .box b6_1 42 [.d (.int .u8 y6_1_3), .d (.int .u64 y6_1_4.a0), .d (.int .u64 y6_1_4.a1), .d (.int .u64 y6_1_4.a2), .d (.int .u64 y6_1_4.a3), .d (.sl false 1 (y6_1_5.map (cI .i64))), .d (.int .i64 y6_1_6), .d (.int .i64 y6_1_7), .d (.str y6_1_8)], .arrX w7_1 9 1 0 (y7_1_9.map cS), .tab 1 pow10V, .ro 2 deBruijnD, .ro 3 deBruijn32D]⟩ (pT_qb2_1_0x11101001100111 r) := by
  intro k
  induction k with
  | zero =>
    intro x0 x5_1_2 x18_0_3 x19_1_12 x25_1_13 x26_1_14 x27_1_15 y4_0_1 y6_1_3 y6_1_4 y6_1_5 y6_1_6 y6_1_7 y6_1_8 y7_1_9 flx0 w4_1 b6_1 w7_1 h
    cases (show (none : Option (ByteArray × Bool)) = some r from h)
  | succ k ih =>
    intro x0 x5_1_2 x18_0_3 x19_1_12 x25_1_13 x26_1_14 x27_1_15 y4_0_1 y6_1_3 y6_1_4 y6_1_5 y6_1_6 y6_1_7 y6_1_8 y7_1_9 flx0 w4_1 b6_1 w7_1 h
    rw [pT_l1] at h
    refine TL.round ?_
    refine T.seq ?_
    refine T.rL ?_
    refine sp rfl (OpT.int2 rfl rfl (dl rfl rfl) rfl rfl ?_)
    refine TL'.nil (tN ?_)
    refine T.seq ?_
    rcases bif_some h with ⟨c_1069, h⟩ | ⟨c_1069, h⟩
    · refine T.condT rfl c_1069 ?_
      refine T.skip (tN ?_)
      refine T.seq ?_
      refine T.block ?_
      refine T.seq ?_
      refine T.rL ?_
      obtain ⟨v_1070, e_1071, h⟩ := bind_some h
      refine sp rfl (OpT.indexSlM (xs := x25_1_13) (f := (cI .i64)) (v := v_1070) rfl (dl rfl rfl) Tryd.underlying40 i3 rfl rfl e_1071 ?_)
      refine sp rfl (OpT.loadRef rfl (dl rfl rfl) Tryd.underlying3 rfl rfl rfl ?_)
      refine asg rfl rfl rfl rfl rfl ?_
      refine TL'.nil (tN ?_)
      refine T.seq ?_
      refine T.rL ?_
      refine mv rfl rfl rfl rfl rfl ?_
      refine mv rfl rfl rfl rfl rfl ?_
      obtain ⟨v_1072, e_1073, h⟩ := bind_some h
      refine sp rfl (OpT.indexXM (n := 0) (xs := y4_0_1) (f := cS) (old := v_1072) rfl (dl rfl rfl) Tryd.underlying47 i9 rfl rfl rfl e_1073 ?_)
      refine sp rfl (OpT.loadXM (i := 0) (xs := y4_0_1) (f := cS) (old := v_1072) rfl (dl rfl rfl) Tryd.underlying9 rfl rfl rfl (geti_some e_1073).2 rfl ?_)
      refine asg rfl rfl rfl rfl rfl ?_
      refine TL'.nil (tN ?_)
      refine T.seq ?_
      refine T.seq ?_
      refine DG.start ?_
      refine DG.step (c := ⟨some 35, .ptr b6_1 (0 + 0), [(6, .ptr b6_1 0)], [], []⟩) (fun t hm => One.step rfl (.free rfl) (OpT.fieldPtr rfl (dl rfl rfl) Tryd.underlying42 rfl i5 (by decide) hm.s0 rfl)) (Ct.mo rfl rfl) ?_
      refine DG.step (c := ⟨some 36, .int .u8 y6_1_3, [(35, .ptr b6_1 (0 + 0))], [(1, .box b6_1 42 [.d (.int .u8 y6_1_3), .d (.int .u64 y6_1_4.a0), .d (.int .u64 y6_1_4.a1), .d (.int .u64 y6_1_4.a2), .d (.int .u64 y6_1_4.a3), .d (.sl false 1 (y6_1_5.map (cI .i64))), .d (.int .i64 y6_1_6), .d (.int .i64 y6_1_7), .d (.str y6_1_8)])], []⟩) (fun t hm => One.step rfl (.free rfl) (OpT.loadBox (i := 1) rfl (dl rfl rfl) Tryd.underlying5 rfl hm.s0 hm.o0 rfl rfl)) (Ct.mo rfl rfl) ?_
      refine DG.mv rfl rfl rfl rfl rfl rfl ?_
      refine DG.mv rfl rfl rfl rfl rfl rfl ?_
      obtain ⟨v_1079, e_1080, h⟩ := bind_some h
      refine DG.step (c := ⟨some 39, .ref [.int .u8 v_1079.Op, .int .u64 v_1079.S.a0, .int .u64 v_1079.S.a1, .int .u64 v_1079.S.a2, .int .u64 v_1079.S.a3, .sl false 1 (v_1079.L.map (cI .i64)), .int .i64 v_1079.Lo, .int .i64 v_1079.Hi, .str v_1079.Name], [(37, .sl flx0 9 (x0.map c_aNd)), (38, .int .i64 v_1070)], [], []⟩) (fun t hm => One.step rfl (.free rfl) (OpT.indexSlM (xs := x0) (f := c_aNd) (v := v_1079) rfl (dl rfl rfl) Tryd.underlying22 i42 hm.s0 hm.s1 e_1080 rfl)) (Ct.mo rfl rfl) ?_
      refine DG.step (c := ⟨some 40, .ref [.int .u8 v_1079.Op, .int .u64 v_1079.S.a0, .int .u64 v_1079.S.a1, .int .u64 v_1079.S.a2, .int .u64 v_1079.S.a3, .sl false 1 (v_1079.L.map (cI .i64)), .int .i64 v_1079.Lo, .int .i64 v_1079.Hi, .str v_1079.Name], [(39, .ref [.int .u8 v_1079.Op, .int .u64 v_1079.S.a0, .int .u64 v_1079.S.a1, .int .u64 v_1079.S.a2, .int .u64 v_1079.S.a3, .sl false 1 (v_1079.L.map (cI .i64)), .int .i64 v_1079.Lo, .int .i64 v_1079.Hi, .str v_1079.Name])], [], []⟩) (fun t hm => One.step rfl (.free rfl) (OpT.fieldRef rfl (dl rfl rfl) Tryd.underlying42 rfl i5 (by decide) hm.s0 rfl)) (Ct.mo rfl rfl) ?_
      refine DG.step (c := ⟨some 41, .int .u8 v_1079.Op, [(40, .ref [.int .u8 v_1079.Op, .int .u64 v_1079.S.a0, .int .u64 v_1079.S.a1, .int .u64 v_1079.S.a2, .int .u64 v_1079.S.a3, .sl false 1 (v_1079.L.map (cI .i64)), .int .i64 v_1079.Lo, .int .i64 v_1079.Hi, .str v_1079.Name])], [], []⟩) (fun t hm => One.step rfl (.free rfl) (OpT.loadRef rfl (dl rfl rfl) Tryd.underlying5 rfl hm.s0 rfl rfl)) (Ct.mo rfl rfl) ?_
      obtain ⟨v_1081, e_1082, h⟩ := bind_some h
      refine DG.step (c := ⟨some 42, .bool v_1081, [(36, .int .u8 y6_1_3), (41, .int .u8 v_1079.Op)], [], []⟩) (fun t hm => One.step rfl (.free rfl) (OpT.callPA rfl (dl rfl rfl) Tryd.func20 rfl rfl (Args.cons hm.s0 (Args.cons hm.s1 Args.nil)) (CallR.nil (pW_T K e_1082)) rfl)) (Ct.mo rfl rfl) ?_
      refine DG.fin (s1 := ⟨[(0, .sl flx0 9 (x0.map c_aNd)), (4, .c (.ex w4_1)), (5, .int .i64 x5_1_2), (6, .ptr b6_1 0), (7, .c (.ex w7_1)), (10, .str v_1072), (17, .sl flx0 9 (x0.map c_aNd)), (18, .int .i64 x18_0_3), (19, .int .i64 x19_1_12), (25, .sl false 1 (x25_1_13.map (cI .i64))), (26, .int .i64 x26_1_14), (27, .int .i64 x27_1_15), (42, .bool v_1081)], [.arrX w4_1 9 1 0 (y4_0_1.map cS), .box b6_1 42 [.d (.int .u8 y6_1_3), .d (.int .u64 y6_1_4.a0), .d (.int .u64 y6_1_4.a1), .d (.int .u64 y6_1_4.a2), .d (.int .u64 y6_1_4.a3), .d (.sl false 1 (y6_1_5.map (cI .i64))), .d (.int .i64 y6_1_6), .d (.int .i64 y6_1_7), .d (.str y6_1_8)], .arrX w7_1 9 1 0 (y7_1_9.map cS), .tab 1 pow10V, .ro 2 deBruijnD, .ro 3 deBruijn32D]⟩) (ms := [0, 1, 0, 0, 12, 28, 60, 127]) TrydMixed rfl (by kernel_rfl) (by kernel_rfl) (by kernel_rfl) (.cons rfl (.cons rfl (.cons rfl (.cons rfl (.cons rfl (.cons rfl (.cons rfl (.cons rfl (.cons rfl (.cons rfl (.cons rfl (.cons rfl (.cons rfl (.nil _)))))))))))))) rfl (fun u hu => (tN (T.by_turn hu ?_)))
      rcases bif_some h with ⟨c_1083, h⟩ | ⟨c_1083, h⟩
      · refine T.condT rfl c_1083 ?_
        refine T.rL ?_
        refine mv rfl rfl rfl rfl rfl ?_
        obtain ⟨g_1084, h⟩ := ck_some h
        refine sp rfl (OpT.str_add rfl (dl rfl rfl) rfl rfl g_1084 ?_)
        obtain ⟨g_1085, h⟩ := ck_some h
        refine sp rfl (OpT.str_add rfl (dl rfl rfl) rfl rfl g_1085 ?_)
        refine asg rfl rfl rfl rfl rfl ?_
        refine TL'.nil (tN ?_)
        refine T.by_turn ?_ (pT_j2_T K (pT_l1 K go0 k) ih x0 x5_1_2 (((⟨#[40]⟩ : ByteArray) ++ v_1072) ++ (⟨#[41]⟩ : ByteArray)) x18_0_3 x19_1_12 x25_1_13 x26_1_14 x27_1_15 y4_0_1 y6_1_3 y6_1_4 y6_1_5 y6_1_6 y6_1_7 y6_1_8 y7_1_9 flx0 w4_1 b6_1 w7_1 h)
        exact Turn.rp (.cons rfl (.cons rfl (.cons rfl (.cons rfl (.cons rfl (.cons rfl (.cons rfl (.cons rfl (.cons rfl (.cons rfl (.cons rfl (.cons rfl (.nil _))))))))))))) (.c .z (.c .z (.c .z (.c .z (.c .z (.c .z (.n _)))))))
      · refine T.condF rfl c_1083 ?_
        refine T.skip (tN ?_)
        refine T.by_turn ?_ (pT_j2_T K (pT_l1 K go0 k) ih x0 x5_1_2 v_1072 x18_0_3 x19_1_12 x25_1_13 x26_1_14 x27_1_15 y4_0_1 y6_1_3 y6_1_4 y6_1_5 y6_1_6 y6_1_7 y6_1_8 y7_1_9 flx0 w4_1 b6_1 w7_1 h)
        exact Turn.rp (.cons rfl (.cons rfl (.cons rfl (.cons rfl (.cons rfl (.cons rfl (.cons rfl (.cons rfl (.cons rfl (.cons rfl (.cons rfl (.cons rfl (.nil _))))))))))))) (.c .z (.c .z (.c .z (.c .z (.c .z (.c .z (.n _)))))))
    · refine T.condF rfl c_1069 ?_
      refine T.exit (thenS_exit (thenS_exit (inBlock_exit (tN ?_))))
      refine T.seq ?_
      refine T.rL ?_
      refine sp rfl (OpT.fieldPtr rfl (dl rfl rfl) Tryd.underlying42 rfl i5 (by decide) rfl ?_)
      refine sp rfl (OpT.loadBox (i := 1) rfl (dl rfl rfl) Tryd.underlying5 rfl rfl rfl rfl ?_)
      refine TL'.nil (tN ?_)
      refine T.block ?_
      refine T.seq ?_
      refine T.rL ?_
      refine sp rfl (OpT.int2 rfl rfl (dl rfl rfl) rfl rfl ?_)
      refine asg rfl rfl rfl rfl rfl ?_
      refine TL'.nil (tN ?_)
      rcases bif_some h with ⟨c_1089, h⟩ | ⟨c_1089, h⟩
      · refine T.condT rfl c_1089 ?_
        refine T.rL ?_
        refine mv rfl rfl rfl rfl rfl ?_
        refine mv rfl rfl rfl rfl rfl ?_
        refine sp rfl (OpT.fieldPtr rfl (dl rfl rfl) Tryd.underlying42 rfl i25 (by decide) rfl ?_)
        refine sp rfl (OpT.loadBoxAgg (i := 1) (l := (Arr4.dc .u64 y6_1_4)) rfl (dl rfl rfl) Tryd.underlying25 rfl i25 rfl rfl rfl rfl ?_)
        obtain ⟨v_1090, e_1091, h⟩ := bind_some h
        refine sp rfl (OpT.callRoA rfl (dl rfl rfl) Tryd.func14 rfl rfl (Args.cons rfl Args.nil) (.cons 4 rfl (.cons 5 rfl (.nil))) (print_Set_T K e_1091) ?_)
        obtain ⟨v_1092, e_1093, h⟩ := bind_some h
        refine sp rfl (OpT.indexXM (n := 0) (xs := y4_0_1) (f := cS) (old := v_1092) rfl (dl rfl rfl) Tryd.underlying47 i9 rfl rfl rfl e_1093 ?_)
        refine sp rfl (OpT.storeXM (i := 0) (xs := y4_0_1) (f := cS) (old := v_1092) (new := v_1090) rfl rfl i9 rfl rfl rfl (geti_some e_1093).2 (Nat.zero_le _) (Nat.le_of_ble_eq_true rfl) rfl ?_)
        refine TL'.nil (inBlock_normal (inBlock_normal (tN ?_)))
        refine T.rL ?_
        refine sp rfl (OpT.int2 rfl rfl (dl rfl rfl) rfl rfl ?_)
        refine mv rfl rfl rfl rfl rfl ?_
        refine TL'.nil (tN ?_)
        refine TL.by_turn ?_ (hgo0 x0 x18_0_3 (IntKind.i64.wrap (x19_1_12 + (1 : Int))) (List.set y4_0_1 (Int.toNat x5_1_2) v_1090) flx0 w4_1 h)
        exact Turn.rp (.cons rfl (.cons rfl (.cons rfl (.cons rfl (.cons rfl (.nil _)))))) (.c .z (.c (.s (.s .z)) (.c (.s (.s .z)) (.c (.s (.s .z)) (.n _)))))
      · refine T.condF rfl c_1089 ?_
        refine T.seq ?_
        refine T.rL ?_
        refine sp rfl (OpT.int2 rfl rfl (dl rfl rfl) rfl rfl ?_)
        refine asg rfl rfl rfl rfl rfl ?_
        refine TL'.nil (tN ?_)
        rcases bif_some h with ⟨c_1094, h⟩ | ⟨c_1094, h⟩
        · refine T.condT rfl c_1094 ?_
          refine T.rL ?_
          refine mv rfl rfl rfl rfl rfl ?_
          refine mv rfl rfl rfl rfl rfl ?_
          refine sp rfl (OpT.fieldPtr rfl (dl rfl rfl) Tryd.underlying42 rfl i9 (by decide) rfl ?_)
          refine sp rfl (OpT.loadBox (i := 1) rfl (dl rfl rfl) Tryd.underlying9 rfl rfl rfl rfl ?_)
          obtain ⟨g_1095, h⟩ := ck_some h
          refine sp rfl (OpT.str_add rfl (dl rfl rfl) rfl rfl g_1095 ?_)
          obtain ⟨g_1096, h⟩ := ck_some h
          refine sp rfl (OpT.str_add rfl (dl rfl rfl) rfl rfl g_1096 ?_)
          obtain ⟨v_1097, e_1098, h⟩ := bind_some h
          refine sp rfl (OpT.indexXM (n := 0) (xs := y4_0_1) (f := cS) (old := v_1097) rfl (dl rfl rfl) Tryd.underlying47 i9 rfl rfl rfl e_1098 ?_)
          refine sp rfl (OpT.storeXM (i := 0) (xs := y4_0_1) (f := cS) (old := v_1097) (new := (((⟨#[123]⟩ : ByteArray) ++ y6_1_8) ++ (⟨#[125]⟩ : ByteArray))) rfl rfl i9 rfl rfl rfl (geti_some e_1098).2 (Nat.zero_le _) (Nat.le_of_ble_eq_true rfl) rfl ?_)
          refine TL'.nil (inBlock_normal (inBlock_normal (tN ?_)))
          refine T.rL ?_
          refine sp rfl (OpT.int2 rfl rfl (dl rfl rfl) rfl rfl ?_)
          refine mv rfl rfl rfl rfl rfl ?_
          refine TL'.nil (tN ?_)
          refine TL.by_turn ?_ (hgo0 x0 x18_0_3 (IntKind.i64.wrap (x19_1_12 + (1 : Int))) (List.set y4_0_1 (Int.toNat x5_1_2) (((⟨#[123]⟩ : ByteArray) ++ y6_1_8) ++ (⟨#[125]⟩ : ByteArray))) flx0 w4_1 h)
          exact Turn.rp (.cons rfl (.cons rfl (.cons rfl (.cons rfl (.cons rfl (.nil _)))))) (.c .z (.c (.s (.s .z)) (.c (.s (.s .z)) (.c (.s (.s .z)) (.n _)))))
        · refine T.condF rfl c_1094 ?_
          refine T.seq ?_
          refine T.rL ?_
          refine sp rfl (OpT.int2 rfl rfl (dl rfl rfl) rfl rfl ?_)
          refine asg rfl rfl rfl rfl rfl ?_
          refine TL'.nil (tN ?_)
          rcases bif_some h with ⟨c_1099, h⟩ | ⟨c_1099, h⟩
          · refine T.condT rfl c_1099 ?_
            refine DG.start ?_
            refine DG.mv rfl rfl rfl rfl rfl rfl ?_
            refine DG.mv rfl rfl rfl rfl rfl rfl ?_
            refine DG.mv rfl rfl rfl rfl rfl rfl ?_
            obtain ⟨v_1108, e_1109, h⟩ := bind_some h
            refine DG.step (c := ⟨some 75, .el w7_1 1 (Int.toNat (0 : Int)) 0, [(74, .c (.ex w7_1))], [(2, .arrX w7_1 9 1 0 (y7_1_9.map cS))], []⟩) (fun t hm => One.step rfl (.free rfl) (OpT.indexXM (n := 2) (xs := y7_1_9) (f := cS) (old := v_1108) rfl (dl rfl rfl) Tryd.underlying47 i9 hm.s0 hm.o0 rfl e_1109 rfl)) (Ct.mo rfl rfl) ?_
            refine DG.step (c := ⟨some 76, .str v_1108, [(75, .el w7_1 1 (Int.toNat (0 : Int)) 0)], [(2, .arrX w7_1 9 1 0 (y7_1_9.map cS))], []⟩) (fun t hm => One.step rfl (.free rfl) (OpT.loadXM (i := 2) (xs := y7_1_9) (f := cS) (old := v_1108) rfl (dl rfl rfl) Tryd.underlying9 rfl hm.s0 hm.o0 (geti_some e_1109).2 rfl rfl)) (Ct.mo rfl rfl) ?_
            refine DG.step (c := ⟨some 77, .ptr b6_1 (0 + 6), [(6, .ptr b6_1 0)], [], []⟩) (fun t hm => One.step rfl (.free rfl) (OpT.fieldPtr rfl (dl rfl rfl) Tryd.underlying42 rfl i3 (by decide) hm.s0 rfl)) (Ct.mo rfl rfl) ?_
            refine DG.step (c := ⟨some 78, .int .i64 y6_1_6, [(77, .ptr b6_1 (0 + 6))], [(1, .box b6_1 42 [.d (.int .u8 y6_1_3), .d (.int .u64 y6_1_4.a0), .d (.int .u64 y6_1_4.a1), .d (.int .u64 y6_1_4.a2), .d (.int .u64 y6_1_4.a3), .d (.sl false 1 (y6_1_5.map (cI .i64))), .d (.int .i64 y6_1_6), .d (.int .i64 y6_1_7), .d (.str y6_1_8)])], []⟩) (fun t hm => One.step rfl (.free rfl) (OpT.loadBox (i := 1) rfl (dl rfl rfl) Tryd.underlying3 rfl hm.s0 hm.o0 rfl rfl)) (Ct.mo rfl rfl) ?_
            refine DG.step (c := ⟨some 79, .ptr b6_1 (0 + 7), [(6, .ptr b6_1 0)], [], []⟩) (fun t hm => One.step rfl (.free rfl) (OpT.fieldPtr rfl (dl rfl rfl) Tryd.underlying42 rfl i3 (by decide) hm.s0 rfl)) (Ct.mo rfl rfl) ?_
            refine DG.step (c := ⟨some 80, .int .i64 y6_1_7, [(79, .ptr b6_1 (0 + 7))], [(1, .box b6_1 42 [.d (.int .u8 y6_1_3), .d (.int .u64 y6_1_4.a0), .d (.int .u64 y6_1_4.a1), .d (.int .u64 y6_1_4.a2), .d (.int .u64 y6_1_4.a3), .d (.sl false 1 (y6_1_5.map (cI .i64))), .d (.int .i64 y6_1_6), .d (.int .i64 y6_1_7), .d (.str y6_1_8)])], []⟩) (fun t hm => One.step rfl (.free rfl) (OpT.loadBox (i := 1) rfl (dl rfl rfl) Tryd.underlying3 rfl hm.s0 hm.o0 rfl rfl)) (Ct.mo rfl rfl) ?_
            obtain ⟨v_1110, e_1111, h⟩ := bind_some h
            refine DG.step (c := ⟨some 81, .str v_1110, [(78, .int .i64 y6_1_6), (80, .int .i64 y6_1_7)], [(3, .tab 1 pow10V)], []⟩) (fun t hm => One.step rfl (.free rfl) (OpT.callRoA rfl (dl rfl rfl) Tryd.func21 rfl rfl (Args.cons hm.s0 (Args.cons hm.s1 Args.nil)) (.tab 3 hm.o0 (.nil)) (print_times_T K e_1111) rfl)) (Ct.mo rfl rfl) ?_
            obtain ⟨g_1112, h⟩ := ck_some h
            refine DG.step (c := ⟨some 82, .str (v_1108 ++ v_1110), [(76, .str v_1108), (81, .str v_1110)], [], []⟩) (fun t hm => One.step rfl (.free rfl) (OpT.str_add rfl (dl rfl rfl) hm.s0 hm.s1 g_1112 rfl)) (Ct.mo rfl rfl) ?_
            obtain ⟨v_1113, e_1114, h⟩ := bind_some h
            refine DG.step (c := ⟨some 83, .el w4_1 1 (Int.toNat x5_1_2) 0, [(72, .c (.ex w4_1)), (73, .int .i64 x5_1_2)], [(0, .arrX w4_1 9 1 0 (y4_0_1.map cS))], []⟩) (fun t hm => One.step rfl (.free rfl) (OpT.indexXM (n := 0) (xs := y4_0_1) (f := cS) (old := v_1113) rfl (dl rfl rfl) Tryd.underlying47 i9 hm.s0 hm.o0 hm.s1 e_1114 rfl)) (Ct.mo rfl rfl) ?_
            refine DG.step (c := ⟨none, .any, [(83, .el w4_1 1 (Int.toNat x5_1_2) 0), (82, .str (v_1108 ++ v_1110))], [(0, .arrX w4_1 9 1 0 (y4_0_1.map cS))], [(0, .arrX w4_1 9 1 0 ((List.set y4_0_1 (Int.toNat x5_1_2) (v_1108 ++ v_1110)).map cS))]⟩) (fun t hm => One.step rfl (.free rfl) (OpT.storeXM (i := 0) (xs := y4_0_1) (f := cS) (old := v_1113) (new := (v_1108 ++ v_1110)) rfl rfl i9 hm.s0 hm.s1 hm.o0 (geti_some e_1114).2 (Nat.zero_le _) (Nat.le_of_ble_eq_true rfl) rfl rfl)) (Ct.mo rfl rfl) ?_
            refine DG.fin (s1 := ⟨[(0, .sl flx0 9 (x0.map c_aNd)), (4, .c (.ex w4_1)), (17, .sl flx0 9 (x0.map c_aNd)), (18, .int .i64 x18_0_3), (19, .int .i64 x19_1_12)], [.arrX w4_1 9 1 0 ((List.set y4_0_1 (Int.toNat x5_1_2) (v_1108 ++ v_1110)).map cS), .box b6_1 42 [.d (.int .u8 y6_1_3), .d (.int .u64 y6_1_4.a0), .d (.int .u64 y6_1_4.a1), .d (.int .u64 y6_1_4.a2), .d (.int .u64 y6_1_4.a3), .d (.sl false 1 (y6_1_5.map (cI .i64))), .d (.int .i64 y6_1_6), .d (.int .i64 y6_1_7), .d (.str y6_1_8)], .arrX w7_1 9 1 0 (y7_1_9.map cS), .tab 1 pow10V, .ro 2 deBruijnD, .ro 3 deBruijn32D]⟩) (ms := [0, 0, 0, 4, 12, 0, 32, 0, 128, 480, 1020, 2047, 4095]) TrydMixed rfl (by kernel_rfl) (by kernel_rfl) (by kernel_rfl) (.cons rfl (.cons rfl (.cons rfl (.cons rfl (.cons rfl (.nil _)))))) rfl (fun u hu => (inBlock_normal (inBlock_normal (tN (T.by_turn hu ?_)))))
            refine T.rL ?_
            refine sp rfl (OpT.int2 rfl rfl (dl rfl rfl) rfl rfl ?_)
            refine mv rfl rfl rfl rfl rfl ?_
            refine TL'.nil (tN ?_)
            refine TL.by_turn ?_ (hgo0 x0 x18_0_3 (IntKind.i64.wrap (x19_1_12 + (1 : Int))) (List.set y4_0_1 (Int.toNat x5_1_2) (v_1108 ++ v_1110)) flx0 w4_1 h)
            exact Turn.rp (.cons rfl (.cons rfl (.cons rfl (.cons rfl (.cons rfl (.nil _)))))) (.c .z (.c (.s (.s .z)) (.c (.s (.s .z)) (.c (.s (.s .z)) (.n _)))))
          · refine T.condF rfl c_1099 ?_
            refine T.seq ?_
            refine T.rL ?_
            refine sp rfl (OpT.int2 rfl rfl (dl rfl rfl) rfl rfl ?_)
            refine asg rfl rfl rfl rfl rfl ?_
            refine TL'.nil (tN ?_)
            rcases bif_some h with ⟨c_1115, h⟩ | ⟨c_1115, h⟩
            · refine T.condT rfl c_1115 ?_
              refine T.rL ?_
              refine mv rfl rfl rfl rfl rfl ?_
              refine mv rfl rfl rfl rfl rfl ?_
              refine mv rfl rfl rfl rfl rfl ?_
              obtain ⟨v_1116, e_1117, h⟩ := bind_some h
              refine sp rfl (OpT.callLent (i := 2) rfl (dl rfl rfl) Tryd.func22 rfl rfl rfl (ArgsB.lentXM (xs := y7_1_9) (f := cS) rfl (ArgsB.cons rfl ArgsB.nil)) (CallR.nil (strings_Join_T K (flx0 := false) e_1117)) (.ex _) ?_)
              obtain ⟨v_1118, e_1119, h⟩ := bind_some h
              refine sp rfl (OpT.indexXM (n := 0) (xs := y4_0_1) (f := cS) (old := v_1118) rfl (dl rfl rfl) Tryd.underlying47 i9 rfl rfl rfl e_1119 ?_)
              refine sp rfl (OpT.storeXM (i := 0) (xs := y4_0_1) (f := cS) (old := v_1118) (new := v_1116) rfl rfl i9 rfl rfl rfl (geti_some e_1119).2 (Nat.zero_le _) (Nat.le_of_ble_eq_true rfl) rfl ?_)
              refine TL'.nil (inBlock_normal (inBlock_normal (tN ?_)))
              refine T.rL ?_
              refine sp rfl (OpT.int2 rfl rfl (dl rfl rfl) rfl rfl ?_)
              refine mv rfl rfl rfl rfl rfl ?_
              refine TL'.nil (tN ?_)
              refine TL.by_turn ?_ (hgo0 x0 x18_0_3 (IntKind.i64.wrap (x19_1_12 + (1 : Int))) (List.set y4_0_1 (Int.toNat x5_1_2) v_1116) flx0 w4_1 h)
              exact Turn.rp (.cons rfl (.cons rfl (.cons rfl (.cons rfl (.cons rfl (.nil _)))))) (.c .z (.c (.s (.s .z)) (.c (.s (.s .z)) (.c (.s (.s .z)) (.n _)))))
            · refine T.condF rfl c_1115 ?_
              refine T.seq ?_
              refine T.rL ?_
              refine sp rfl (OpT.int2 rfl rfl (dl rfl rfl) rfl rfl ?_)
              refine asg rfl rfl rfl rfl rfl ?_
              refine TL'.nil (tN ?_)
              rcases bif_some h with ⟨c_1120, h⟩ | ⟨c_1120, h⟩
              · refine T.condT rfl c_1120 ?_
                refine T.rL ?_
                refine mv rfl rfl rfl rfl rfl ?_
                refine mv rfl rfl rfl rfl rfl ?_
                refine mv rfl rfl rfl rfl rfl ?_
                obtain ⟨v_1121, e_1122, h⟩ := bind_some h
                refine sp rfl (OpT.callLent (i := 2) rfl (dl rfl rfl) Tryd.func22 rfl rfl rfl (ArgsB.lentXM (xs := y7_1_9) (f := cS) rfl (ArgsB.cons rfl ArgsB.nil)) (CallR.nil (strings_Join_T K (flx0 := false) e_1122)) (.ex _) ?_)
                obtain ⟨v_1123, e_1124, h⟩ := bind_some h
                refine sp rfl (OpT.indexXM (n := 0) (xs := y4_0_1) (f := cS) (old := v_1123) rfl (dl rfl rfl) Tryd.underlying47 i9 rfl rfl rfl e_1124 ?_)
                refine sp rfl (OpT.storeXM (i := 0) (xs := y4_0_1) (f := cS) (old := v_1123) (new := v_1121) rfl rfl i9 rfl rfl rfl (geti_some e_1124).2 (Nat.zero_le _) (Nat.le_of_ble_eq_true rfl) rfl ?_)
                refine TL'.nil (inBlock_normal (inBlock_normal (tN ?_)))
                refine T.rL ?_
                refine sp rfl (OpT.int2 rfl rfl (dl rfl rfl) rfl rfl ?_)
                refine mv rfl rfl rfl rfl rfl ?_
                refine TL'.nil (tN ?_)
                refine TL.by_turn ?_ (hgo0 x0 x18_0_3 (IntKind.i64.wrap (x19_1_12 + (1 : Int))) (List.set y4_0_1 (Int.toNat x5_1_2) v_1121) flx0 w4_1 h)
                exact Turn.rp (.cons rfl (.cons rfl (.cons rfl (.cons rfl (.cons rfl (.nil _)))))) (.c .z (.c (.s (.s .z)) (.c (.s (.s .z)) (.c (.s (.s .z)) (.n _)))))
              · refine T.condF rfl c_1120 ?_
                refine T.skip (inBlock_normal (inBlock_normal (tN ?_)))
                refine T.rL ?_
                refine sp rfl (OpT.int2 rfl rfl (dl rfl rfl) rfl rfl ?_)
                refine mv rfl rfl rfl rfl rfl ?_
                refine TL'.nil (tN ?_)
                refine TL.by_turn ?_ (hgo0 x0 x18_0_3 (IntKind.i64.wrap (x19_1_12 + (1 : Int))) y4_0_1 flx0 w4_1 h)
                exact Turn.rp (.cons rfl (.cons rfl (.cons rfl (.cons rfl (.cons rfl (.nil _)))))) (.c .z (.c (.s (.s .z)) (.c (.s (.s .z)) (.c (.s (.s .z)) (.n _)))))
theorem pT_l0_T {r : ByteArray × Bool} (K : Nat) : ∀ (k : Nat), ∀ (x0 : List aNd) (x18_0_3 : Int) (x19_0_4 : Int) (y4_0_1 : List ByteArray) (flx0 : Bool) (w4_0 : Value), pT_l0 K k x0 x18_0_3 x19_0_4 y4_0_1 = some r → TL Tryd.prog 105 (Code.at [1, 1, 1, 0, 1, 0, 0] (codeOf Tryd.f9)) ⟨[(0, .sl flx0 9 (x0.map c_aNd)), (4, .c (.ex w4_0)), (17, .sl flx0 9 (x0.map c_aNd)), (18, .int .i64 x18_0_3), (19, .int .i64 x19_0_4)], [.arrX w4_0 9 1 0 (y4_0_1.map cS), .tab 1 pow10V, .ro 2 deBruijnD, .ro 3 deBruijn32D]⟩ (pT_qb0x1111 r) := by
  intro k
  induction k with
  | zero =>
    intro x0 x18_0_3 x19_0_4 y4_0_1 flx0 w4_0 h
    cases (show (none : Option (ByteArray × Bool)) = some r from h)
  | succ k ih =>
    intro x0 x18_0_3 x19_0_4 y4_0_1 flx0 w4_0 h
    rw [pT_l0] at h
    refine TL.round ?_
    refine T.seq ?_
    refine T.rL ?_
    refine sp rfl (OpT.int2 rfl rfl (dl rfl rfl) rfl rfl ?_)
    refine TL'.nil (tN ?_)
    refine T.seq ?_
    rcases bif_some h with ⟨c_1065, h⟩ | ⟨c_1065, h⟩
    · refine T.condT rfl c_1065 ?_
      refine T.skip (tN ?_)
      refine T.seq ?_
      refine T.block ?_
      refine T.seq ?_
      refine T.rL ?_
      refine mv rfl rfl rfl rfl rfl ?_
      obtain ⟨v_1066, e_1067, h⟩ := bind_some h
      refine sp rfl (OpT.indexSlM (xs := x0) (f := c_aNd) (v := v_1066) rfl (dl rfl rfl) Tryd.underlying22 i42 rfl rfl e_1067 ?_)
      refine sp rfl (OpT.loadRefAgg rfl (dl rfl rfl) Tryd.underlying42 rfl i42 rfl (Nat.le_of_ble_eq_true rfl) ?_)
      refine sp rfl (OpT.alloc' rfl (dl rfl rfl) i42 rfl (fun b_1068 => ?_))
      refine asg rfl rfl rfl rfl rfl ?_
      refine sp rfl (OpT.storeAggTo (i := 0) (cells' := [.d (.int .u8 v_1066.Op), .d (.int .u64 v_1066.S.a0), .d (.int .u64 v_1066.S.a1), .d (.int .u64 v_1066.S.a2), .d (.int .u64 v_1066.S.a3), .d (.sl false 1 (v_1066.L.map (cI .i64))), .d (.int .i64 v_1066.Lo), .d (.int .i64 v_1066.Hi), .d (.str v_1066.Name)]) rfl rfl i42 rfl rfl rfl rfl (Nat.le_of_ble_eq_true rfl) rfl ?_)
      refine TL'.nil (tN ?_)
      refine T.seq ?_
      refine T.rL ?_
      refine asg rfl rfl rfl rfl rfl ?_
      refine TL'.nil (tN ?_)
      refine T.seq ?_
      refine T.seq ?_
      refine T.rL ?_
      refine sp rfl (OpT.fieldPtr rfl (dl rfl rfl) Tryd.underlying42 rfl i40 (by decide) rfl ?_)
      refine sp rfl (OpT.loadBox (i := 0) rfl (dl rfl rfl) Tryd.underlying40 rfl rfl rfl rfl ?_)
      refine sp rfl (OpT.lenSlM (xs := v_1066.L) (f := (cI .i64)) rfl (dl rfl rfl) Tryd.underlying40 rfl ?_)
      refine mv rfl rfl rfl rfl rfl ?_
      refine TL'.nil (tN ?_)
      refine T.block ?_
      refine T.loop ?_
      refine TL.by_turn (Turn.nilX 9 1) ?_
      refine TL.by_turn ?_ (pT_l1_T K (pT_l0 K k) ih K x0 x19_0_4 x18_0_3 x19_0_4 v_1066.L (v_1066.L.length : Int) (0 : Int) y4_0_1 v_1066.Op v_1066.S v_1066.L v_1066.Lo v_1066.Hi v_1066.Name [] flx0 w4_0 b_1068 (nilv 2) h)
      exact Turn.rp (.cons rfl (.cons rfl (.cons rfl (.cons rfl (.cons rfl (.cons rfl (.cons rfl (.cons rfl (.cons rfl (.cons rfl (.cons rfl (.nil _)))))))))))) (.c (.s (.s .z)) (.c (.s .z) (.c .z (.c .z (.c .z (.c .z (.n _)))))))
    · refine T.condF rfl c_1065 ?_
      refine T.exit (thenS_exit (thenS_exit (inBlock_exit (tN ?_))))
      refine T.seq ?_
      refine T.rL ?_
      refine mv rfl rfl rfl rfl rfl ?_
      refine mv rfl rfl rfl rfl rfl ?_
      refine sp rfl (OpT.lenSlM (xs := x0) (f := c_aNd) rfl (dl rfl rfl) Tryd.underlying22 rfl ?_)
      refine sp rfl (OpT.int2 rfl rfl (dl rfl rfl) rfl rfl ?_)
      obtain ⟨v_1125, e_1126, h⟩ := bind_some h
      refine sp rfl (OpT.indexXM (n := 0) (xs := y4_0_1) (f := cS) (old := v_1125) rfl (dl rfl rfl) Tryd.underlying47 i9 rfl rfl rfl e_1126 ?_)
      refine sp rfl (OpT.loadXM (i := 0) (xs := y4_0_1) (f := cS) (old := v_1125) rfl (dl rfl rfl) Tryd.underlying9 rfl rfl rfl (geti_some e_1126).2 rfl ?_)
      refine asg rfl rfl rfl rfl rfl ?_
      refine asg rfl rfl rfl rfl rfl ?_
      refine TL'.nil (tN ?_)
      refine T.ret ?_
      exact Fin.doneK (.cons _ _ _ _ (.tmp 2 _ rfl) (.cons _ _ _ _ (.tmp 3 _ rfl) .nil)) (.cons 1 rfl (.cons 1 rfl (.cons 1 rfl (.nil _)))) (by cases h; exact ⟨rfl, rfl⟩)
theorem pT_T (K : Nat) {x0 : List aNd} {flx0 : Bool} {r : ByteArray × Bool} (h : pT K x0 = some r) : CallR Tryd.prog 9 [.sl flx0 9 (x0.map c_aNd)] [.tab 1 pow10V, .ro 2 deBruijnD, .ro 3 deBruijn32D] (.tup [.str r.1, .bool r.2]) := by
 refine CallT.intro Tryd.func9 rfl (nb rfl) ?_
 show T Tryd.prog 105 (Code.at [] (codeOf Tryd.f9)) ⟨paramSlots 0 [.sl flx0 9 (x0.map c_aNd)], [.tab 1 pow10V, .ro 2 deBruijnD, .ro 3 deBruijn32D]⟩ (pT_q r)
 unfold pT at h
 refine T.seq ?_
 refine T.rL ?_
 refine aw rfl ?_
 refine aw rfl ?_
 refine TL'.nil (tN ?_)
 refine T.seq ?_
 refine T.seq ?_
 refine T.rL ?_
 refine mw rfl ?_
 obtain ⟨v_1059, e_1060, h⟩ := bind_some h
 refine sp rfl (OpT.callPA rfl (dk rfl) Tryd.func16 rfl rfl (Args.cons rfl Args.nil) (CallR.nil (sy_Right_T K (flx0 := flx0) e_1060)) ?_)
 refine sp rfl (OpT.not rfl (dk rfl) rfl ?_)
 refine TL'.nil (tN ?_)
 rcases bif_some h with ⟨c_1061, h⟩ | ⟨c_1061, h⟩
 refine T.condT rfl c_1061 ?_
 refine T.seq ?_
 refine T.rL ?_
 refine aw rfl ?_
 refine aw rfl ?_
 refine TL'.nil (tN ?_)
 refine T.ret (thenS_ret ?_)
 exact Fin.doneK (.cons _ _ _ _ (.tmp 2 _ rfl) (.cons _ _ _ _ (.tmp 3 _ rfl) .nil)) (.cons 0 rfl (.cons 0 rfl (.cons 0 rfl (.nil _)))) (by cases h; exact ⟨rfl, rfl⟩)
 refine T.condF rfl c_1061 ?_
 refine T.skip (tN ?_)
 refine T.seq ?_
 refine T.rL ?_
 refine mw rfl ?_
 refine sp rfl (OpT.lenSlM (xs := x0) (f := c_aNd) rfl (dk rfl) ul22 rfl ?_)
 obtain ⟨g_1062, h⟩ := ck_some h
 obtain ⟨g_1063, h⟩ := ck_some h
 refine sp rfl (OpT.makeSliceX (f := cS) (zv := ((⟨#[]⟩ : ByteArray) : ByteArray)) rfl (dk rfl) ul47 i9 (by decide) rfl rfl rfl rfl rfl g_1062 g_1063 (fun w_1064 => ?_))
 refine aw rfl ?_
 refine TL'.nil (tN ?_)
 refine T.seq ?_
 refine T.seq ?_
 refine T.rL ?_
 refine mw rfl ?_
 refine sp rfl (OpT.lenSlM (xs := x0) (f := c_aNd) rfl (dk rfl) ul22 rfl ?_)
 refine mw rfl ?_
 refine TL'.nil (tN ?_)
 refine T.block ?_
 refine T.loop ?_
 refine TL.by_turn ?_ (pT_l0_T K K x0 (x0.length : Int) (0 : Int) (List.replicate (Int.toNat (x0.length : Int)) ((⟨#[]⟩ : ByteArray) : ByteArray)) flx0 w_1064 h)
 exact Turn.rp (.cons rfl (.cons rfl (.cons rfl (.cons rfl (.cons rfl (.nil _)))))) (.c .z (.c .z (.c .z (.c .z (.n _)))))
abbrev l5_shown_q (r : Bool) : Exit → St → Prop := retS Tryd.prog Tryd.f11 (fun y t => y = (.bool r) ∧ t = [.tab 1 pow10V, .ro 2 deBruijnD, .ro 3 deBruijn32D])
theorem l5_shown_T (K : Nat) {r : Bool} (h : l5_shown K = some r) : CallR Tryd.prog 11 [] [.tab 1 pow10V, .ro 2 deBruijnD, .ro 3 deBruijn32D] (.bool r) := by
 refine CallT.intro Tryd.func11 rfl (nb rfl) ?_
 show T Tryd.prog 21 (Code.at [] (codeOf Tryd.f11)) ⟨paramSlots 0 [], [.tab 1 pow10V, .ro 2 deBruijnD, .ro 3 deBruijn32D]⟩ (l5_shown_q r)
 unfold l5_shown at h
 refine T.seq ?_
 refine T.rL ?_
 refine aw rfl ?_
 refine TL'.nil (tN ?_)
 refine T.seq ?_
 refine T.rL ?_
 obtain ⟨v_21, e_22, h⟩ := bind_some h
 refine sp rfl (OpT.callPA rfl (dk rfl) Tryd.func25 rfl rfl (Args.cons rfl Args.nil) (CallR.nil (r4_Parse_T K e_22)) ?_)
 refine mw rfl ?_
 refine sp rfl (OpT.extract rfl (dk rfl) rfl rfl ?_)
 refine sp rfl (OpT.extract rfl (dk rfl) rfl rfl ?_)
 refine sp rfl (OpT.extract rfl (dk rfl) rfl rfl ?_)
 refine aw rfl ?_
 refine aw rfl ?_
 refine aw rfl ?_
 refine TL'.nil (tN ?_)
 refine T.seq ?_
 refine T.rL ?_
 refine mw rfl ?_
 obtain ⟨v_23, e_24, h⟩ := bind_some h
 refine sp rfl (OpT.callRoA rfl (dk rfl) Tryd.func9 rfl rfl (Args.cons rfl Args.nil) (.tab 0 rfl (.cons 1 rfl (.cons 2 rfl (.nil)))) (pT_T K (flx0 := false) e_24) ?_)
 refine mw rfl ?_
 refine sp rfl (OpT.extract rfl (dk rfl) rfl rfl ?_)
 refine sp rfl (OpT.extract rfl (dk rfl) rfl rfl ?_)
 refine aw rfl ?_
 refine aw rfl ?_
 refine TL'.nil (tN ?_)
 refine T.seq ?_
 refine T.rL ?_
 refine mw rfl ?_
 refine sp rfl (OpT.str_eql rfl (dk rfl) rfl rfl ?_)
 refine mw rfl ?_
 rcases bif_some h with ⟨c_25, h⟩ | ⟨c_25, h⟩
 refine TL'.step (.on rfl rfl rfl c_25) (OpT.move rfl (dk rfl) rfl ?_)
 refine sp rfl (OpT.pickT rfl (dk rfl) rfl c_25 rfl ?_)
 refine aw rfl ?_
 refine TL'.nil (tN ?_)
 refine T.ret ?_
 exact Fin.doneK (.cons _ _ _ _ (.tmp 0 _ rfl) .nil) (.cons 0 rfl (.cons 0 rfl (.cons 0 rfl (.nil _)))) (by cases h; exact ⟨rfl, rfl⟩)
 refine TL'.passU (.off _ _ _ _ rfl rfl rfl c_25) (dk rfl) ?_
 refine sp rfl (OpT.pickF rfl (dk rfl) rfl c_25 rfl ?_)
 refine aw rfl ?_
 refine TL'.nil (tN ?_)
 refine T.ret ?_
 exact Fin.doneK (.cons _ _ _ _ (.tmp 0 _ rfl) .nil) (.cons 0 rfl (.cons 0 rfl (.cons 0 rfl (.nil _)))) (by cases h; exact ⟨rfl, rfl⟩)
abbrev r4_walk_q (r : (List Int) × Bool) : Exit → St → Prop := retS Tryd.prog Tryd.f45 (fun y t => ∃ γ : Nat → Value, y = (.tup [.c (.ex (γ 0)), .bool r.2]) ∧ t = [.arrA (γ 0) 3 1 (r.1.map (cI .i64))])
abbrev r4_walk_qs111 (r : (List Int) × Bool) : Exit → St → Prop := thenS (fun s' => T Tryd.prog 59 (Code.at [1, 1, 1] (codeOf Tryd.f45)) s' ((r4_walk_q r))) ((r4_walk_q r))
abbrev r4_walk_qb0x111 (r : (List Int) × Bool) : Exit → St → Prop := inBlockS 0 ((r4_walk_qs111 r))
abbrev r4_walk_ql11010 (r : (List Int) × Bool) : Exit → St → Prop := thenS (fun s' => TL Tryd.prog 59 (Code.at [1, 1, 0, 1, 0, 0] (codeOf Tryd.f45)) s' ((r4_walk_qb0x111 r))) ((r4_walk_qb0x111 r))
abbrev r4_walk_qs11010011 (r : (List Int) × Bool) : Exit → St → Prop := thenS (fun s' => T Tryd.prog 59 (Code.at [1, 1, 0, 1, 0, 0, 1, 1] (codeOf Tryd.f45)) s' ((r4_walk_ql11010 r))) ((r4_walk_ql11010 r))
abbrev r4_walk_qb1_0x11010011 (r : (List Int) × Bool) : Exit → St → Prop := inBlockS 1 ((r4_walk_qs11010011 r))
abbrev r4_walk_qs11010010011 (r : (List Int) × Bool) : Exit → St → Prop := thenS (fun s' => T Tryd.prog 59 (Code.at [1, 1, 0, 1, 0, 0, 1, 0, 0, 1, 1] (codeOf Tryd.f45)) s' ((r4_walk_qb1_0x11010011 r))) ((r4_walk_qb1_0x11010011 r))
theorem r4_walk_j1_T {r : (List Int) × Bool} (K : Nat) (rec_r4_walk : (List aNd) → Int → (List Int) → Option ((List Int) × Bool)) (hrec_r4_walk : r4_walk_S rec_r4_walk) (y2_1_0 : List Int) (w2_1 : Value) (h : r4_walk_j1 K rec_r4_walk y2_1_0 = some r) : T Tryd.prog 59 (Code.at [1, 1, 0, 1, 0, 0, 1, 0, 0, 1, 0, 1, 0] (codeOf Tryd.f45)) ⟨[(2, .c (.ex w2_1))], [.arrA w2_1 3 1 (y2_1_0.map (cI .i64))]⟩ (r4_walk_qs11010010011 r) := by
 unfold r4_walk_j1 at h
 refine T.seq ?_
 refine T.rL ?_
 refine mw rfl ?_
 refine aw rfl ?_
 refine aw rfl ?_
 refine TL'.nil (tN ?_)
 refine T.ret (thenS_ret (inBlock_ret (thenS_ret (thenS_ret (inBlock_ret (thenS_ret ?_))))))
 exact Fin.doneK (.cons _ _ _ _ (.tmp 6 _ rfl) (.cons _ _ _ _ (.tmp 7 _ rfl) .nil)) (.cons 0 rfl (.nil _)) (by cases h; exact ⟨gl [w2_1], rfl, rfl⟩)
theorem r4_walk_l0_T {r : (List Int) × Bool} (K : Nat) (rec_r4_walk : (List aNd) → Int → (List Int) → Option ((List Int) × Bool)) (hrec_r4_walk : r4_walk_S rec_r4_walk) : ∀ (k : Nat), ∀ (x0 : List aNd) (x1 : Int) (x8_0_3 : Int) (y2_0_2 : List Int) (flx0 : Bool) (w2_0 : Value), r4_walk_l0 K rec_r4_walk k x0 x1 x8_0_3 y2_0_2 = some r → TL Tryd.prog 59 (Code.at [1, 1, 0, 1, 0, 0] (codeOf Tryd.f45)) ⟨[(0, .sl flx0 9 (x0.map c_aNd)), (1, .int .i64 x1), (2, .c (.ex w2_0)), (8, .int .i64 x8_0_3)], [.arrA w2_0 3 1 (y2_0_2.map (cI .i64))]⟩ (r4_walk_qb0x111 r) := by
  intro k
  induction k with
  | zero =>
    intro x0 x1 x8_0_3 y2_0_2 flx0 w2_0 h
    cases (show (none : Option ((List Int) × Bool)) = some r from h)
  | succ k ih =>
    intro x0 x1 x8_0_3 y2_0_2 flx0 w2_0 h
    rw [r4_walk_l0] at h
    refine TL.round ?_
    refine T.seq ?_
    refine T.seq ?_
    refine T.rL ?_
    refine mv rfl rfl rfl rfl rfl ?_
    refine mv rfl rfl rfl rfl rfl ?_
    refine mv rfl rfl rfl rfl rfl ?_
    obtain ⟨v_202, e_203, h⟩ := bind_some h
    refine sp rfl (OpT.indexSlM (xs := x0) (f := c_aNd) (v := v_202) rfl (dl rfl rfl) Tryd.underlying22 i42 rfl rfl e_203 ?_)
    refine sp rfl (OpT.fieldRef rfl (dl rfl rfl) Tryd.underlying42 rfl i40 (by decide) rfl ?_)
    refine sp rfl (OpT.loadRef rfl (dl rfl rfl) Tryd.underlying40 rfl rfl rfl ?_)
    refine sp rfl (OpT.lenSlM (xs := v_202.L) (f := (cI .i64)) rfl (dl rfl rfl) Tryd.underlying40 rfl ?_)
    refine sp rfl (OpT.int2 rfl rfl (dl rfl rfl) rfl rfl ?_)
    refine TL'.nil (tN ?_)
    rcases bif_some h with ⟨c_204, h⟩ | ⟨c_204, h⟩
    · refine T.condT rfl c_204 ?_
      refine T.skip (tN ?_)
      refine T.seq ?_
      refine T.block ?_
      refine T.seq ?_
      refine T.rL ?_
      refine mv rfl rfl rfl rfl rfl ?_
      refine mv rfl rfl rfl rfl rfl ?_
      refine sp rfl (OpT.indexSlM (xs := x0) (f := c_aNd) (v := v_202) rfl (dl rfl rfl) Tryd.underlying22 i42 rfl rfl e_203 ?_)
      refine sp rfl (OpT.fieldRef rfl (dl rfl rfl) Tryd.underlying42 rfl i40 (by decide) rfl ?_)
      refine sp rfl (OpT.loadRef rfl (dl rfl rfl) Tryd.underlying40 rfl rfl rfl ?_)
      refine mv rfl rfl rfl rfl rfl ?_
      obtain ⟨v_205, e_206, h⟩ := bind_some h
      refine sp rfl (OpT.indexSlM (xs := v_202.L) (f := (cI .i64)) (v := v_205) rfl (dl rfl rfl) Tryd.underlying40 i3 rfl rfl e_206 ?_)
      refine sp rfl (OpT.loadRef rfl (dl rfl rfl) Tryd.underlying3 rfl rfl rfl ?_)
      refine asg rfl rfl rfl rfl rfl ?_
      refine TL'.nil (tN ?_)
      refine T.seq ?_
      refine T.seq ?_
      refine T.rL ?_
      refine mv rfl rfl rfl rfl rfl ?_
      refine sp rfl (OpT.int2 rfl rfl (dl rfl rfl) rfl rfl ?_)
      refine mv rfl rfl rfl rfl rfl ?_
      rcases bif_some h with ⟨c_207, h⟩ | ⟨c_207, h⟩
      · refine TL'.passU (.off _ _ _ _ rfl rfl rfl c_207) (dl rfl rfl) ?_
        refine TL'.passU (.off _ _ _ _ rfl rfl rfl c_207) (dl rfl rfl) ?_
        refine TL'.passU (.off _ _ _ _ rfl rfl rfl c_207) (dl rfl rfl) ?_
        refine sp rfl (OpT.pickT rfl (dl rfl rfl) rfl c_207 rfl ?_)
        refine TL'.nil (tN ?_)
        refine T.condT rfl rfl ?_
        refine T.by_turn ?_ (r4_walk_j1_T K rec_r4_walk hrec_r4_walk y2_0_2 w2_0 h)
        exact Turn.rp (.cons rfl (.nil _)) (.c .z (.n _))
      · refine TL'.step (.on rfl rfl rfl c_207) (OpT.move rfl (dl rfl rfl) rfl ?_)
        refine TL'.step (.on rfl rfl rfl c_207) (OpT.move rfl (dl rfl rfl) rfl ?_)
        refine TL'.step (.on rfl rfl rfl c_207) (OpT.int2 rfl rfl (dl rfl rfl) rfl rfl ?_)
        refine sp rfl (OpT.pickF rfl (dl rfl rfl) rfl c_207 rfl ?_)
        refine TL'.nil (tN ?_)
        rcases bif_some h with ⟨c_208, h⟩ | ⟨c_208, h⟩
        · refine T.condT rfl c_208 ?_
          refine T.by_turn ?_ (r4_walk_j1_T K rec_r4_walk hrec_r4_walk y2_0_2 w2_0 h)
          exact Turn.rp (.cons rfl (.nil _)) (.c .z (.n _))
        · refine T.condF rfl c_208 ?_
          refine T.skip (tN ?_)
          refine T.seq ?_
          refine T.rL ?_
          refine mv rfl rfl rfl rfl rfl ?_
          refine mv rfl rfl rfl rfl rfl ?_
          refine mv rfl rfl rfl rfl rfl ?_
          obtain ⟨v_209, e_210, h⟩ := bind_some h
          refine sp rfl (OpT.callG (is := [0]) (ph := []) rfl (dl rfl rfl) Tryd.func45 rfl rfl (Args.cons rfl (Args.cons rfl (Args.cons rfl Args.nil))) (hrec_r4_walk x0 v_205 y2_0_2 flx0 w2_0 _ e_210) (.cons rfl rfl (.nil)) (fun _ => rfl) (fun γ_211 => ?_))
          refine nm (.c (.n)) ?_
          refine mv rfl rfl rfl rfl rfl ?_
          refine sp rfl (OpT.extract rfl (dl rfl rfl) rfl rfl ?_)
          refine sp rfl (OpT.extract rfl (dl rfl rfl) rfl rfl ?_)
          refine asg rfl rfl rfl rfl rfl ?_
          refine asg rfl rfl rfl rfl rfl ?_
          refine TL'.nil (tN ?_)
          refine T.seq ?_
          refine T.seq ?_
          refine T.rL ?_
          refine mv rfl rfl rfl rfl rfl ?_
          refine sp rfl (OpT.not rfl (dl rfl rfl) rfl ?_)
          refine TL'.nil (tN ?_)
          rcases bif_some h with ⟨c_212, h⟩ | ⟨c_212, h⟩
          · refine T.condT rfl c_212 ?_
            refine T.seq ?_
            refine T.rL ?_
            refine mv rfl rfl rfl rfl rfl ?_
            refine asg rfl rfl rfl rfl rfl ?_
            refine asg rfl rfl rfl rfl rfl ?_
            refine TL'.nil (tN ?_)
            refine T.ret (thenS_ret (inBlock_ret (thenS_ret (thenS_ret (inBlock_ret (thenS_ret ?_))))))
            exact Fin.doneK (.cons _ _ _ _ (.tmp 6 _ rfl) (.cons _ _ _ _ (.tmp 7 _ rfl) .nil)) (.cons 0 rfl (.nil _)) (by cases h; exact ⟨gl [γ_211 0], rfl, rfl⟩)
          · refine T.condF rfl c_212 ?_
            refine T.skip (tN ?_)
            refine T.rL ?_
            refine mv rfl rfl rfl rfl rfl ?_
            refine asg rfl rfl rfl rfl rfl ?_
            refine TL'.nil (inBlock_normal (tN ?_))
            refine T.rL ?_
            refine mv rfl rfl rfl rfl rfl ?_
            refine sp rfl (OpT.int2 rfl rfl (dl rfl rfl) rfl rfl ?_)
            refine asg rfl rfl rfl rfl rfl ?_
            refine TL'.nil (tN ?_)
            refine TL.by_turn ?_ (ih x0 x1 (IntKind.i64.wrap (x8_0_3 + (1 : Int))) v_209.1 flx0 (γ_211 0) h)
            exact Turn.rp (.cons rfl (.cons rfl (.cons rfl (.cons rfl (.nil _))))) (.c .z (.n _))
    · refine T.condF rfl c_204 ?_
      refine T.exit (thenS_exit (thenS_exit (inBlock_exit (tN ?_))))
      refine T.seq ?_
      refine T.rL ?_
      refine mv rfl rfl rfl rfl rfl ?_
      refine mv rfl rfl rfl rfl rfl ?_
      refine sp rfl (OpT.buildSlice (elems := ([x1] : List Int).map (cI .i64)) rfl (dl rfl rfl) Tryd.underlying40 i3 (by decide) rfl (all1 rfl) rfl rfl rfl (lenAll rfl) (by decide) ?_)
      obtain ⟨g_214, h⟩ := ck_some h
      refine sp rfl (OpT.appendAM (i := 0) (xs := y2_0_2) (ys := [x1]) (f := (cI .i64)) rfl (dl rfl rfl) Tryd.underlying40 i3 rfl rfl rfl rfl g_214 (fun w_213 => ?_))
      refine asg rfl rfl rfl rfl rfl ?_
      refine asg rfl rfl rfl rfl rfl ?_
      refine TL'.nil (tN ?_)
      refine T.ret ?_
      exact Fin.doneK (.cons _ _ _ _ (.tmp 6 _ rfl) (.cons _ _ _ _ (.tmp 7 _ rfl) .nil)) (.cons 0 rfl (.nil _)) (by cases h; exact ⟨gl [w_213], rfl, rfl⟩)
theorem r4_walk_b_T (K : Nat) (rec_r4_walk : (List aNd) → Int → (List Int) → Option ((List Int) × Bool)) (hrec_r4_walk : r4_walk_S rec_r4_walk) {x0 : List aNd} {x1 : Int} {x2 : List Int} {flx0 : Bool} {wx2 : Value} {r : (List Int) × Bool} (h : r4_walk_b K rec_r4_walk x0 x1 x2 = some r) : CallG Tryd.prog 45 [.sl flx0 9 (x0.map c_aNd), .int .i64 x1, .c (.ex wx2)] [.arrA wx2 3 1 (x2.map (cI .i64))] (fun γ => (.tup [.c (.ex (γ 0)), .bool r.2])) (fun γ => [.arrA (γ 0) 3 1 (r.1.map (cI .i64))]) := by
 refine CallT.intro Tryd.func45 rfl (nb rfl) ?_
 show T Tryd.prog 59 (Code.at [] (codeOf Tryd.f45)) ⟨paramSlots 0 [.sl flx0 9 (x0.map c_aNd), .int .i64 x1, .c (.ex wx2)], [.arrA wx2 3 1 (x2.map (cI .i64))]⟩ (r4_walk_q r)
 unfold r4_walk_b at h
 refine T.seq ?_
 refine T.rL ?_
 refine aw rfl ?_
 refine aw rfl ?_
 refine TL'.nil (tN ?_)
 refine T.seq ?_
 refine T.seq ?_
 refine T.rL ?_
 refine mw rfl ?_
 refine sp rfl (OpT.lenAM (i := 0) (xs := x2) (f := (cI .i64)) rfl (dk rfl) ul40 rfl rfl ?_)
 refine mw rfl ?_
 refine sp rfl (OpT.lenSlM (xs := x0) (f := c_aNd) rfl (dk rfl) ul22 rfl ?_)
 refine sp rfl (OpT.int2 rfl rfl (dk rfl) rfl rfl ?_)
 refine TL'.nil (tN ?_)
 rcases bif_some h with ⟨c_201, h⟩ | ⟨c_201, h⟩
 refine T.condT rfl c_201 ?_
 refine T.seq ?_
 refine T.rL ?_
 refine mw rfl ?_
 refine aw rfl ?_
 refine aw rfl ?_
 refine TL'.nil (tN ?_)
 refine T.ret (thenS_ret ?_)
 exact Fin.doneK (.cons _ _ _ _ (.tmp 6 _ rfl) (.cons _ _ _ _ (.tmp 7 _ rfl) .nil)) (.cons 0 rfl (.nil _)) (by cases h; exact ⟨gl [wx2], rfl, rfl⟩)
 refine T.condF rfl c_201 ?_
 refine T.skip (tN ?_)
 refine T.seq ?_
 refine T.seq ?_
 refine T.rL ?_
 refine aw rfl ?_
 refine TL'.nil (tN ?_)
 refine T.block ?_
 refine T.loop ?_
 refine TL.by_turn ?_ (r4_walk_l0_T K rec_r4_walk hrec_r4_walk K x0 x1 (0 : Int) x2 flx0 wx2 h)
 exact Turn.rp (.cons rfl (.cons rfl (.cons rfl (.cons rfl (.nil _))))) (.c .z (.n _))
theorem r4_walk_r_T (K : Nat) : ∀ n, r4_walk_S (r4_walk_r K n) := by
  intro n
  induction n with
  | zero =>
    intro x0 x1 x2 flx0 wx2 r h
    cases (show (none : Option ((List Int) × Bool)) = some r from h)
  | succ n ih =>
    intro x0 x1 x2 flx0 wx2 r h
    exact r4_walk_b_T K (r4_walk_r K n) ih h
theorem r4_walk_T (K : Nat) {x0 : List aNd} {x1 : Int} {x2 : List Int} {flx0 : Bool} {wx2 : Value} {r : (List Int) × Bool} (h : r4_walk K x0 x1 x2 = some r) : CallG Tryd.prog 45 [.sl flx0 9 (x0.map c_aNd), .int .i64 x1, .c (.ex wx2)] [.arrA wx2 3 1 (x2.map (cI .i64))] (fun γ => (.tup [.c (.ex (γ 0)), .bool r.2])) (fun γ => [.arrA (γ 0) 3 1 (r.1.map (cI .i64))]) := r4_walk_r_T K K x0 x1 x2 flx0 wx2 r h
abbrev r4_letter_q (r : Bool) : Exit → St → Prop := retS Tryd.prog Tryd.f80 (fun y t => y = (.bool r) ∧ t = [])
theorem r4_letter_T (K : Nat) {x0 : Int} {r : Bool} (h : r4_letter K x0 = some r) : CallR Tryd.prog 80 [.int .u8 x0] [] (.bool r) := by
 refine CallT.intro Tryd.func80 rfl (nb rfl) ?_
 show T Tryd.prog 21 (Code.at [] (codeOf Tryd.f80)) ⟨paramSlots 0 [.int .u8 x0], []⟩ (r4_letter_q r)
 unfold r4_letter at h
 refine T.seq ?_
 refine T.rL ?_
 refine aw rfl ?_
 refine TL'.nil (tN ?_)
 refine T.seq ?_
 refine T.rL ?_
 refine mw rfl ?_
 refine sp rfl (OpT.int2 rfl rfl (dk rfl) rfl rfl ?_)
 refine mw rfl ?_
 rcases bif_some h with ⟨c_25, h⟩ | ⟨c_25, h⟩
 refine TL'.step (.on rfl rfl rfl c_25) (OpT.move rfl (dk rfl) rfl ?_)
 refine TL'.step (.on rfl rfl rfl c_25) (OpT.int2 rfl rfl (dk rfl) rfl rfl ?_)
 refine sp rfl (OpT.pickT rfl (dk rfl) rfl c_25 rfl ?_)
 refine mw rfl ?_
 rcases bif_some h with ⟨c_26, h⟩ | ⟨c_26, h⟩
 refine TL'.passU (.off _ _ _ _ rfl rfl rfl c_26) (dk rfl) ?_
 refine TL'.passU (.off _ _ _ _ rfl rfl rfl c_26) (dk rfl) ?_
 refine TL'.passU (.off _ _ _ _ rfl rfl rfl c_26) (dk rfl) ?_
 refine TL'.passU (.gone _ _ _ rfl rfl rfl) (dk rfl) ?_
 refine TL'.passU (.gone _ _ _ rfl rfl rfl) (dk rfl) ?_
 refine TL'.passU (.off _ _ _ _ rfl rfl rfl c_26) (dk rfl) ?_
 refine sp rfl (OpT.pickT rfl (dk rfl) rfl c_26 rfl ?_)
 refine mw rfl ?_
 refine TL'.passU (.off _ _ _ _ rfl rfl rfl rfl) (dk rfl) ?_
 refine TL'.passU (.off _ _ _ _ rfl rfl rfl rfl) (dk rfl) ?_
 refine sp rfl (OpT.pickT rfl (dk rfl) rfl rfl rfl ?_)
 refine aw rfl ?_
 refine TL'.nil (tN ?_)
 refine T.ret ?_
 exact Fin.done (.cons _ _ _ _ (.tmp 2 _ rfl) .nil) (by cases h; exact ⟨rfl, rfl⟩)
 refine TL'.step (.on rfl rfl rfl c_26) (OpT.move rfl (dk rfl) rfl ?_)
 refine TL'.step (.on rfl rfl rfl c_26) (OpT.int2 rfl rfl (dk rfl) rfl rfl ?_)
 refine TL'.step (.on rfl rfl rfl c_26) (OpT.move rfl (dk rfl) rfl ?_)
 rcases bif_some h with ⟨c_27, h⟩ | ⟨c_27, h⟩
 refine TL'.step (.on rfl rfl rfl c_27) (OpT.move rfl (dk rfl) rfl ?_)
 refine TL'.step (.on rfl rfl rfl c_27) (OpT.int2 rfl rfl (dk rfl) rfl rfl ?_)
 refine TL'.step (.on rfl rfl rfl c_26) (OpT.pickT rfl (dk rfl) rfl c_27 rfl ?_)
 refine sp rfl (OpT.pickF rfl (dk rfl) rfl c_26 rfl ?_)
 refine mw rfl ?_
 rcases bif_some h with ⟨c_28, h⟩ | ⟨c_28, h⟩
 refine TL'.passU (.off _ _ _ _ rfl rfl rfl c_28) (dk rfl) ?_
 refine TL'.passU (.off _ _ _ _ rfl rfl rfl c_28) (dk rfl) ?_
 refine sp rfl (OpT.pickT rfl (dk rfl) rfl c_28 rfl ?_)
 refine aw rfl ?_
 refine TL'.nil (tN ?_)
 refine T.ret ?_
 exact Fin.done (.cons _ _ _ _ (.tmp 2 _ rfl) .nil) (by cases h; exact ⟨rfl, rfl⟩)
 refine TL'.step (.on rfl rfl rfl c_28) (OpT.move rfl (dk rfl) rfl ?_)
 refine TL'.step (.on rfl rfl rfl c_28) (OpT.int2 rfl rfl (dk rfl) rfl rfl ?_)
 refine sp rfl (OpT.pickF rfl (dk rfl) rfl c_28 rfl ?_)
 refine aw rfl ?_
 refine TL'.nil (tN ?_)
 refine T.ret ?_
 exact Fin.done (.cons _ _ _ _ (.tmp 2 _ rfl) .nil) (by cases h; exact ⟨rfl, rfl⟩)
 refine TL'.passU (.off _ _ _ _ rfl rfl rfl c_27) (dk rfl) ?_
 refine TL'.passU (.off _ _ _ _ rfl rfl rfl c_27) (dk rfl) ?_
 refine TL'.step (.on rfl rfl rfl c_26) (OpT.pickF rfl (dk rfl) rfl c_27 rfl ?_)
 refine sp rfl (OpT.pickF rfl (dk rfl) rfl c_26 rfl ?_)
 refine mw rfl ?_
 refine TL'.step (.on rfl rfl rfl rfl) (OpT.move rfl (dk rfl) rfl ?_)
 refine TL'.step (.on rfl rfl rfl rfl) (OpT.int2 rfl rfl (dk rfl) rfl rfl ?_)
 refine sp rfl (OpT.pickF rfl (dk rfl) rfl rfl rfl ?_)
 refine aw rfl ?_
 refine TL'.nil (tN ?_)
 refine T.ret ?_
 exact Fin.done (.cons _ _ _ _ (.tmp 2 _ rfl) .nil) (by cases h; exact ⟨rfl, rfl⟩)
 refine TL'.passU (.off _ _ _ _ rfl rfl rfl c_25) (dk rfl) ?_
 refine TL'.passU (.off _ _ _ _ rfl rfl rfl c_25) (dk rfl) ?_
 refine sp rfl (OpT.pickF rfl (dk rfl) rfl c_25 rfl ?_)
 refine mw rfl ?_
 refine TL'.step (.on rfl rfl rfl rfl) (OpT.move rfl (dk rfl) rfl ?_)
 refine TL'.step (.on rfl rfl rfl rfl) (OpT.int2 rfl rfl (dk rfl) rfl rfl ?_)
 refine TL'.step (.on rfl rfl rfl rfl) (OpT.move rfl (dk rfl) rfl ?_)
 rcases bif_some h with ⟨c_29, h⟩ | ⟨c_29, h⟩
 refine TL'.step (.on rfl rfl rfl c_29) (OpT.move rfl (dk rfl) rfl ?_)
 refine TL'.step (.on rfl rfl rfl c_29) (OpT.int2 rfl rfl (dk rfl) rfl rfl ?_)
 refine TL'.step (.on rfl rfl rfl rfl) (OpT.pickT rfl (dk rfl) rfl c_29 rfl ?_)
 refine sp rfl (OpT.pickF rfl (dk rfl) rfl rfl rfl ?_)
 refine mw rfl ?_
 rcases bif_some h with ⟨c_30, h⟩ | ⟨c_30, h⟩
 refine TL'.passU (.off _ _ _ _ rfl rfl rfl c_30) (dk rfl) ?_
 refine TL'.passU (.off _ _ _ _ rfl rfl rfl c_30) (dk rfl) ?_
 refine sp rfl (OpT.pickT rfl (dk rfl) rfl c_30 rfl ?_)
 refine aw rfl ?_
 refine TL'.nil (tN ?_)
 refine T.ret ?_
 exact Fin.done (.cons _ _ _ _ (.tmp 2 _ rfl) .nil) (by cases h; exact ⟨rfl, rfl⟩)
 refine TL'.step (.on rfl rfl rfl c_30) (OpT.move rfl (dk rfl) rfl ?_)
 refine TL'.step (.on rfl rfl rfl c_30) (OpT.int2 rfl rfl (dk rfl) rfl rfl ?_)
 refine sp rfl (OpT.pickF rfl (dk rfl) rfl c_30 rfl ?_)
 refine aw rfl ?_
 refine TL'.nil (tN ?_)
 refine T.ret ?_
 exact Fin.done (.cons _ _ _ _ (.tmp 2 _ rfl) .nil) (by cases h; exact ⟨rfl, rfl⟩)
 refine TL'.passU (.off _ _ _ _ rfl rfl rfl c_29) (dk rfl) ?_
 refine TL'.passU (.off _ _ _ _ rfl rfl rfl c_29) (dk rfl) ?_
 refine TL'.step (.on rfl rfl rfl rfl) (OpT.pickF rfl (dk rfl) rfl c_29 rfl ?_)
 refine sp rfl (OpT.pickF rfl (dk rfl) rfl rfl rfl ?_)
 refine mw rfl ?_
 refine TL'.step (.on rfl rfl rfl rfl) (OpT.move rfl (dk rfl) rfl ?_)
 refine TL'.step (.on rfl rfl rfl rfl) (OpT.int2 rfl rfl (dk rfl) rfl rfl ?_)
 refine sp rfl (OpT.pickF rfl (dk rfl) rfl rfl rfl ?_)
 refine aw rfl ?_
 refine TL'.nil (tN ?_)
 refine T.ret ?_
 exact Fin.done (.cons _ _ _ _ (.tmp 2 _ rfl) .nil) (by cases h; exact ⟨rfl, rfl⟩)
abbrev r4_Name_q (r : Bool) : Exit → St → Prop := retS Tryd.prog Tryd.f62 (fun y t => y = (.bool r) ∧ t = [])
abbrev r4_Name_qs11 (r : Bool) : Exit → St → Prop := thenS (fun s' => T Tryd.prog 34 (Code.at [1, 1] (codeOf Tryd.f62)) s' ((r4_Name_q r))) ((r4_Name_q r))
abbrev r4_Name_qb0x11 (r : Bool) : Exit → St → Prop := inBlockS 0 ((r4_Name_qs11 r))
abbrev r4_Name_ql1010 (r : Bool) : Exit → St → Prop := thenS (fun s' => TL Tryd.prog 34 (Code.at [1, 0, 1, 0, 0] (codeOf Tryd.f62)) s' ((r4_Name_qb0x11 r))) ((r4_Name_qb0x11 r))
abbrev r4_Name_qs1010011 (r : Bool) : Exit → St → Prop := thenS (fun s' => T Tryd.prog 34 (Code.at [1, 0, 1, 0, 0, 1, 1] (codeOf Tryd.f62)) s' ((r4_Name_ql1010 r))) ((r4_Name_ql1010 r))
abbrev r4_Name_qb1_0x1010011 (r : Bool) : Exit → St → Prop := inBlockS 1 ((r4_Name_qs1010011 r))
theorem r4_Name_j1_T {r : Bool} (K : Nat) (h : r4_Name_j1 K = some r) : T Tryd.prog 34 (Code.at [1, 0, 1, 0, 0, 1, 0, 0, 1, 0] (codeOf Tryd.f62)) ⟨[], []⟩ (r4_Name_qb1_0x1010011 r) := by
 unfold r4_Name_j1 at h
 refine T.seq ?_
 refine T.rL ?_
 refine aw rfl ?_
 refine TL'.nil (tN ?_)
 refine T.ret (inBlock_ret (thenS_ret (thenS_ret (inBlock_ret (thenS_ret ?_)))))
 exact Fin.done (.cons _ _ _ _ (.tmp 2 _ rfl) .nil) (by cases h; exact ⟨rfl, rfl⟩)
theorem r4_Name_l0_T {r : Bool} (K : Nat) : ∀ (k : Nat), ∀ (x0 : ByteArray) (x3_0_1 : Int), r4_Name_l0 K k x0 x3_0_1 = some r → TL Tryd.prog 34 (Code.at [1, 0, 1, 0, 0] (codeOf Tryd.f62)) ⟨[(0, .str x0), (3, .int .i64 x3_0_1)], []⟩ (r4_Name_qb0x11 r) := by
  intro k
  induction k with
  | zero =>
    intro x0 x3_0_1 h
    cases (show (none : Option Bool) = some r from h)
  | succ k ih =>
    intro x0 x3_0_1 h
    rw [r4_Name_l0] at h
    refine TL.round ?_
    refine T.seq ?_
    refine T.seq ?_
    refine T.rL ?_
    refine mv rfl rfl rfl rfl rfl ?_
    refine mv rfl rfl rfl rfl rfl ?_
    refine sp rfl (OpT.lenStr rfl (dl rfl rfl) Tryd.underlying9 rfl ?_)
    refine sp rfl (OpT.int2 rfl rfl (dl rfl rfl) rfl rfl ?_)
    refine TL'.nil (tN ?_)
    rcases bif_some h with ⟨c_75, h⟩ | ⟨c_75, h⟩
    · refine T.condT rfl c_75 ?_
      refine T.skip (tN ?_)
      refine T.seq ?_
      refine T.block ?_
      refine T.seq ?_
      refine T.rL ?_
      refine mv rfl rfl rfl rfl rfl ?_
      refine mv rfl rfl rfl rfl rfl ?_
      obtain ⟨g_76, h⟩ := ck_some h
      refine sp rfl (OpT.indexStr rfl (dl rfl rfl) Tryd.underlying9 rfl rfl g_76.1 g_76.2 ?_)
      obtain ⟨v_77, e_78, h⟩ := bind_some h
      refine sp rfl (OpT.callPA rfl (dl rfl rfl) Tryd.func80 rfl rfl (Args.cons rfl Args.nil) (CallR.nil (r4_letter_T K e_78)) ?_)
      refine sp rfl (OpT.not rfl (dl rfl rfl) rfl ?_)
      refine mv rfl rfl rfl rfl rfl ?_
      rcases bif_some h with ⟨c_79, h⟩ | ⟨c_79, h⟩
      · refine TL'.step (.on rfl rfl rfl c_79) (OpT.move rfl (dl rfl rfl) rfl ?_)
        refine TL'.step (.on rfl rfl rfl c_79) (OpT.int2 rfl rfl (dl rfl rfl) rfl rfl ?_)
        refine TL'.step (.on rfl rfl rfl c_79) (OpT.move rfl (dl rfl rfl) rfl ?_)
        rcases bif_some h with ⟨c_80, h⟩ | ⟨c_80, h⟩
        · refine TL'.passU (.off _ _ _ _ rfl rfl rfl c_80) (dl rfl rfl) ?_
          refine TL'.passU (.off _ _ _ _ rfl rfl rfl c_80) (dl rfl rfl) ?_
          refine TL'.passU (.off _ _ _ _ rfl rfl rfl c_80) (dl rfl rfl) ?_
          refine TL'.passU (.off _ _ _ _ rfl rfl rfl c_80) (dl rfl rfl) ?_
          refine TL'.passU (.off _ _ _ _ rfl rfl rfl c_80) (dl rfl rfl) ?_
          refine TL'.step (.on rfl rfl rfl c_79) (OpT.pickT rfl (dl rfl rfl) rfl c_80 rfl ?_)
          refine sp rfl (OpT.pickT rfl (dl rfl rfl) rfl c_79 rfl ?_)
          refine TL'.nil (tN ?_)
          refine T.condT rfl rfl ?_
          refine T.by_turn ?_ (r4_Name_j1_T K h)
          exact Turn.rp (.nil _) (.n _)
        · refine TL'.step (.on rfl rfl rfl c_80) (OpT.move rfl (dl rfl rfl) rfl ?_)
          refine TL'.step (.on rfl rfl rfl c_80) (OpT.move rfl (dl rfl rfl) rfl ?_)
          refine TL'.step (.on rfl rfl rfl c_80) (OpT.indexStr rfl (dl rfl rfl) Tryd.underlying9 rfl rfl g_76.1 g_76.2 ?_)
          obtain ⟨v_81, e_82, h⟩ := bind_some h
          refine TL'.step (.on rfl rfl rfl c_80) (OpT.callPA rfl (dl rfl rfl) Tryd.func81 rfl rfl (Args.cons rfl Args.nil) (CallR.nil (r4_digit_T K e_82)) ?_)
          refine TL'.step (.on rfl rfl rfl c_80) (OpT.not rfl (dl rfl rfl) rfl ?_)
          refine TL'.step (.on rfl rfl rfl c_79) (OpT.pickF rfl (dl rfl rfl) rfl c_80 rfl ?_)
          refine sp rfl (OpT.pickT rfl (dl rfl rfl) rfl c_79 rfl ?_)
          refine TL'.nil (tN ?_)
          rcases bif_some h with ⟨c_83, h⟩ | ⟨c_83, h⟩
          · refine T.condT rfl c_83 ?_
            refine T.by_turn ?_ (r4_Name_j1_T K h)
            exact Turn.rp (.nil _) (.n _)
          · refine T.condF rfl c_83 ?_
            refine T.skip (inBlock_normal (tN ?_))
            refine T.rL ?_
            refine mv rfl rfl rfl rfl rfl ?_
            refine sp rfl (OpT.int2 rfl rfl (dl rfl rfl) rfl rfl ?_)
            refine asg rfl rfl rfl rfl rfl ?_
            refine TL'.nil (tN ?_)
            refine TL.by_turn ?_ (ih x0 (IntKind.i64.wrap (x3_0_1 + (1 : Int))) h)
            exact Turn.rp (.cons rfl (.cons rfl (.nil _))) (.n _)
      · refine TL'.passU (.off _ _ _ _ rfl rfl rfl c_79) (dl rfl rfl) ?_
        refine TL'.passU (.off _ _ _ _ rfl rfl rfl c_79) (dl rfl rfl) ?_
        refine TL'.passU (.off _ _ _ _ rfl rfl rfl c_79) (dl rfl rfl) ?_
        refine TL'.passU (.gone _ _ _ rfl rfl rfl) (dl rfl rfl) ?_
        refine TL'.passU (.gone _ _ _ rfl rfl rfl) (dl rfl rfl) ?_
        refine TL'.passU (.gone _ _ _ rfl rfl rfl) (dl rfl rfl) ?_
        refine TL'.passU (.gone _ _ _ rfl rfl rfl) (dl rfl rfl) ?_
        refine TL'.passU (.gone _ _ _ rfl rfl rfl) (dl rfl rfl) ?_
        refine TL'.passU (.off _ _ _ _ rfl rfl rfl c_79) (dl rfl rfl) ?_
        refine sp rfl (OpT.pickF rfl (dl rfl rfl) rfl c_79 rfl ?_)
        refine TL'.nil (tN ?_)
        refine T.condF rfl rfl ?_
        refine T.skip (inBlock_normal (tN ?_))
        refine T.rL ?_
        refine mv rfl rfl rfl rfl rfl ?_
        refine sp rfl (OpT.int2 rfl rfl (dl rfl rfl) rfl rfl ?_)
        refine asg rfl rfl rfl rfl rfl ?_
        refine TL'.nil (tN ?_)
        refine TL.by_turn ?_ (ih x0 (IntKind.i64.wrap (x3_0_1 + (1 : Int))) h)
        exact Turn.rp (.cons rfl (.cons rfl (.nil _))) (.n _)
    · refine T.condF rfl c_75 ?_
      refine T.exit (thenS_exit (thenS_exit (inBlock_exit (tN ?_))))
      refine T.seq ?_
      refine T.rL ?_
      refine mv rfl rfl rfl rfl rfl ?_
      refine sp rfl (OpT.lenStr rfl (dl rfl rfl) Tryd.underlying9 rfl ?_)
      refine sp rfl (OpT.int2 rfl rfl (dl rfl rfl) rfl rfl ?_)
      refine mv rfl rfl rfl rfl rfl ?_
      rcases bif_some h with ⟨c_84, h⟩ | ⟨c_84, h⟩
      · refine TL'.step (.on rfl rfl rfl c_84) (OpT.move rfl (dl rfl rfl) rfl ?_)
        refine TL'.step (.on rfl rfl rfl c_84) (OpT.lenStr rfl (dl rfl rfl) Tryd.underlying9 rfl ?_)
        refine TL'.step (.on rfl rfl rfl c_84) (OpT.int2 rfl rfl (dl rfl rfl) rfl rfl ?_)
        refine sp rfl (OpT.pickT rfl (dl rfl rfl) rfl c_84 rfl ?_)
        refine asg rfl rfl rfl rfl rfl ?_
        refine TL'.nil (tN ?_)
        refine T.ret ?_
        exact Fin.done (.cons _ _ _ _ (.tmp 2 _ rfl) .nil) (by cases h; exact ⟨rfl, rfl⟩)
      · refine TL'.passU (.off _ _ _ _ rfl rfl rfl c_84) (dl rfl rfl) ?_
        refine TL'.passU (.off _ _ _ _ rfl rfl rfl c_84) (dl rfl rfl) ?_
        refine TL'.passU (.off _ _ _ _ rfl rfl rfl c_84) (dl rfl rfl) ?_
        refine sp rfl (OpT.pickF rfl (dl rfl rfl) rfl c_84 rfl ?_)
        refine asg rfl rfl rfl rfl rfl ?_
        refine TL'.nil (tN ?_)
        refine T.ret ?_
        exact Fin.done (.cons _ _ _ _ (.tmp 2 _ rfl) .nil) (by cases h; exact ⟨rfl, rfl⟩)
theorem r4_Name_T (K : Nat) {x0 : ByteArray} {r : Bool} (h : r4_Name K x0 = some r) : CallR Tryd.prog 62 [.str x0] [] (.bool r) := by
 refine CallT.intro Tryd.func62 rfl (nb rfl) ?_
 show T Tryd.prog 34 (Code.at [] (codeOf Tryd.f62)) ⟨paramSlots 0 [.str x0], []⟩ (r4_Name_q r)
 unfold r4_Name at h
 refine T.seq ?_
 refine T.rL ?_
 refine aw rfl ?_
 refine TL'.nil (tN ?_)
 refine T.seq ?_
 refine T.seq ?_
 refine T.rL ?_
 refine aw rfl ?_
 refine TL'.nil (tN ?_)
 refine T.block ?_
 refine T.loop ?_
 refine TL.by_turn ?_ (r4_Name_l0_T K K x0 (0 : Int) h)
 exact Turn.rp (.cons rfl (.cons rfl (.nil _))) (.n _)
abbrev r4_shape_q (r : Bool) : Exit → St → Prop := retS Tryd.prog Tryd.f44 (fun y t => y = (.bool r) ∧ t = [])
abbrev r4_shape_qs11111 (r : Bool) : Exit → St → Prop := thenS (fun s' => T Tryd.prog 144 (Code.at [1, 1, 1, 1, 1] (codeOf Tryd.f44)) s' ((r4_shape_q r))) ((r4_shape_q r))
abbrev r4_shape_qb0x11111 (r : Bool) : Exit → St → Prop := inBlockS 0 ((r4_shape_qs11111 r))
theorem r4_shape_j2_T {r : Bool} (K : Nat) (x3_0_6 : Bool) (x5_1_8 : Bool) (x6_2_8 : Bool) (x0 : aNd) (b1_2 : Nat) (h : r4_shape_j2 K x3_0_6 x5_1_8 x6_2_8 x0 = some r) : T Tryd.prog 144 (Code.at [1, 1, 1, 1, 0, 1, 0, 1, 1, 1, 1, 1, 1, 1, 0, 1] (codeOf Tryd.f44)) ⟨[(1, .ptr b1_2 0), (3, .bool x3_0_6), (5, .bool x5_1_8), (6, .bool x6_2_8)], [.box b1_2 42 [.d (.int .u8 x0.Op), .d (.int .u64 x0.S.a0), .d (.int .u64 x0.S.a1), .d (.int .u64 x0.S.a2), .d (.int .u64 x0.S.a3), .d (.sl false 1 (x0.L.map (cI .i64))), .d (.int .i64 x0.Lo), .d (.int .i64 x0.Hi), .d (.str x0.Name)]]⟩ (r4_shape_qb0x11111 r) := by
 unfold r4_shape_j2 at h
 refine T.seq ?_
 refine T.rL ?_
 refine mw rfl ?_
 refine sp rfl (OpT.not rfl (dk rfl) rfl ?_)
 refine mw rfl ?_
 rcases bif_some h with ⟨c_168, h⟩ | ⟨c_168, h⟩
 refine TL'.step (.on rfl rfl rfl c_168) (OpT.move rfl (dk rfl) rfl ?_)
 refine TL'.step (.on rfl rfl rfl c_168) (OpT.not rfl (dk rfl) rfl ?_)
 refine sp rfl (OpT.pickT rfl (dk rfl) rfl c_168 rfl ?_)
 refine mw rfl ?_
 rcases bif_some h with ⟨c_169, h⟩ | ⟨c_169, h⟩
 refine TL'.step (.on rfl rfl rfl c_169) (OpT.fieldPtr rfl (dk rfl) ul42 rfl i40 (by decide) rfl ?_)
 refine TL'.step (.on rfl rfl rfl c_169) (OpT.loadBox (i := 0) rfl (dk rfl) ul40 rfl rfl rfl rfl ?_)
 refine TL'.step (.on rfl rfl rfl c_169) (OpT.lenSlM (xs := x0.L) (f := (cI .i64)) rfl (dk rfl) ul40 rfl ?_)
 refine TL'.step (.on rfl rfl rfl c_169) (OpT.int2 rfl rfl (dk rfl) rfl rfl ?_)
 refine sp rfl (OpT.pickT rfl (dk rfl) rfl c_169 rfl ?_)
 refine mw rfl ?_
 rcases bif_some h with ⟨c_170, h⟩ | ⟨c_170, h⟩
 refine TL'.step (.on rfl rfl rfl c_170) (OpT.fieldPtr rfl (dk rfl) ul42 rfl i3 (by decide) rfl ?_)
 refine TL'.step (.on rfl rfl rfl c_170) (OpT.loadBox (i := 0) rfl (dk rfl) ul3 rfl rfl rfl rfl ?_)
 refine TL'.step (.on rfl rfl rfl c_170) (OpT.int2 rfl rfl (dk rfl) rfl rfl ?_)
 refine sp rfl (OpT.pickT rfl (dk rfl) rfl c_170 rfl ?_)
 refine mw rfl ?_
 rcases bif_some h with ⟨c_171, h⟩ | ⟨c_171, h⟩
 refine TL'.step (.on rfl rfl rfl c_171) (OpT.fieldPtr rfl (dk rfl) ul42 rfl i3 (by decide) rfl ?_)
 refine TL'.step (.on rfl rfl rfl c_171) (OpT.loadBox (i := 0) rfl (dk rfl) ul3 rfl rfl rfl rfl ?_)
 refine TL'.step (.on rfl rfl rfl c_171) (OpT.int2 rfl rfl (dk rfl) rfl rfl ?_)
 refine sp rfl (OpT.pickT rfl (dk rfl) rfl c_171 rfl ?_)
 refine mw rfl ?_
 rcases bif_some h with ⟨c_172, h⟩ | ⟨c_172, h⟩
 refine TL'.step (.on rfl rfl rfl c_172) (OpT.move rfl (dk rfl) rfl ?_)
 refine sp rfl (OpT.pickT rfl (dk rfl) rfl c_172 rfl ?_)
 refine aw rfl ?_
 refine TL'.nil (tN ?_)
 refine T.ret (inBlock_ret (thenS_ret ?_))
 exact Fin.done (.cons _ _ _ _ (.tmp 2 _ rfl) .nil) (by cases h; exact ⟨rfl, rfl⟩)
 refine TL'.passU (.off _ _ _ _ rfl rfl rfl c_172) (dk rfl) ?_
 refine sp rfl (OpT.pickF rfl (dk rfl) rfl c_172 rfl ?_)
 refine aw rfl ?_
 refine TL'.nil (tN ?_)
 refine T.ret (inBlock_ret (thenS_ret ?_))
 exact Fin.done (.cons _ _ _ _ (.tmp 2 _ rfl) .nil) (by cases h; exact ⟨rfl, rfl⟩)
 refine TL'.passU (.off _ _ _ _ rfl rfl rfl c_171) (dk rfl) ?_
 refine TL'.passU (.off _ _ _ _ rfl rfl rfl c_171) (dk rfl) ?_
 refine TL'.passU (.off _ _ _ _ rfl rfl rfl c_171) (dk rfl) ?_
 refine sp rfl (OpT.pickF rfl (dk rfl) rfl c_171 rfl ?_)
 refine mw rfl ?_
 refine TL'.passU (.off _ _ _ _ rfl rfl rfl rfl) (dk rfl) ?_
 refine sp rfl (OpT.pickF rfl (dk rfl) rfl rfl rfl ?_)
 refine aw rfl ?_
 refine TL'.nil (tN ?_)
 refine T.ret (inBlock_ret (thenS_ret ?_))
 exact Fin.done (.cons _ _ _ _ (.tmp 2 _ rfl) .nil) (by cases h; exact ⟨rfl, rfl⟩)
 refine TL'.passU (.off _ _ _ _ rfl rfl rfl c_170) (dk rfl) ?_
 refine TL'.passU (.off _ _ _ _ rfl rfl rfl c_170) (dk rfl) ?_
 refine TL'.passU (.off _ _ _ _ rfl rfl rfl c_170) (dk rfl) ?_
 refine sp rfl (OpT.pickF rfl (dk rfl) rfl c_170 rfl ?_)
 refine mw rfl ?_
 refine TL'.passU (.off _ _ _ _ rfl rfl rfl rfl) (dk rfl) ?_
 refine TL'.passU (.off _ _ _ _ rfl rfl rfl rfl) (dk rfl) ?_
 refine TL'.passU (.off _ _ _ _ rfl rfl rfl rfl) (dk rfl) ?_
 refine sp rfl (OpT.pickF rfl (dk rfl) rfl rfl rfl ?_)
 refine mw rfl ?_
 refine TL'.passU (.off _ _ _ _ rfl rfl rfl rfl) (dk rfl) ?_
 refine sp rfl (OpT.pickF rfl (dk rfl) rfl rfl rfl ?_)
 refine aw rfl ?_
 refine TL'.nil (tN ?_)
 refine T.ret (inBlock_ret (thenS_ret ?_))
 exact Fin.done (.cons _ _ _ _ (.tmp 2 _ rfl) .nil) (by cases h; exact ⟨rfl, rfl⟩)
 refine TL'.passU (.off _ _ _ _ rfl rfl rfl c_169) (dk rfl) ?_
 refine TL'.passU (.off _ _ _ _ rfl rfl rfl c_169) (dk rfl) ?_
 refine TL'.passU (.off _ _ _ _ rfl rfl rfl c_169) (dk rfl) ?_
 refine TL'.passU (.off _ _ _ _ rfl rfl rfl c_169) (dk rfl) ?_
 refine sp rfl (OpT.pickF rfl (dk rfl) rfl c_169 rfl ?_)
 refine mw rfl ?_
 refine TL'.passU (.off _ _ _ _ rfl rfl rfl rfl) (dk rfl) ?_
 refine TL'.passU (.off _ _ _ _ rfl rfl rfl rfl) (dk rfl) ?_
 refine TL'.passU (.off _ _ _ _ rfl rfl rfl rfl) (dk rfl) ?_
 refine sp rfl (OpT.pickF rfl (dk rfl) rfl rfl rfl ?_)
 refine mw rfl ?_
 refine TL'.passU (.off _ _ _ _ rfl rfl rfl rfl) (dk rfl) ?_
 refine TL'.passU (.off _ _ _ _ rfl rfl rfl rfl) (dk rfl) ?_
 refine TL'.passU (.off _ _ _ _ rfl rfl rfl rfl) (dk rfl) ?_
 refine sp rfl (OpT.pickF rfl (dk rfl) rfl rfl rfl ?_)
 refine mw rfl ?_
 refine TL'.passU (.off _ _ _ _ rfl rfl rfl rfl) (dk rfl) ?_
 refine sp rfl (OpT.pickF rfl (dk rfl) rfl rfl rfl ?_)
 refine aw rfl ?_
 refine TL'.nil (tN ?_)
 refine T.ret (inBlock_ret (thenS_ret ?_))
 exact Fin.done (.cons _ _ _ _ (.tmp 2 _ rfl) .nil) (by cases h; exact ⟨rfl, rfl⟩)
 refine TL'.passU (.off _ _ _ _ rfl rfl rfl c_168) (dk rfl) ?_
 refine TL'.passU (.off _ _ _ _ rfl rfl rfl c_168) (dk rfl) ?_
 refine sp rfl (OpT.pickF rfl (dk rfl) rfl c_168 rfl ?_)
 refine mw rfl ?_
 refine TL'.passU (.off _ _ _ _ rfl rfl rfl rfl) (dk rfl) ?_
 refine TL'.passU (.off _ _ _ _ rfl rfl rfl rfl) (dk rfl) ?_
 refine TL'.passU (.off _ _ _ _ rfl rfl rfl rfl) (dk rfl) ?_
 refine TL'.passU (.off _ _ _ _ rfl rfl rfl rfl) (dk rfl) ?_
 refine sp rfl (OpT.pickF rfl (dk rfl) rfl rfl rfl ?_)
 refine mw rfl ?_
 refine TL'.passU (.off _ _ _ _ rfl rfl rfl rfl) (dk rfl) ?_
 refine TL'.passU (.off _ _ _ _ rfl rfl rfl rfl) (dk rfl) ?_
 refine TL'.passU (.off _ _ _ _ rfl rfl rfl rfl) (dk rfl) ?_
 refine sp rfl (OpT.pickF rfl (dk rfl) rfl rfl rfl ?_)
 refine mw rfl ?_
 refine TL'.passU (.off _ _ _ _ rfl rfl rfl rfl) (dk rfl) ?_
 refine TL'.passU (.off _ _ _ _ rfl rfl rfl rfl) (dk rfl) ?_
 refine TL'.passU (.off _ _ _ _ rfl rfl rfl rfl) (dk rfl) ?_
 refine sp rfl (OpT.pickF rfl (dk rfl) rfl rfl rfl ?_)
 refine mw rfl ?_
 refine TL'.passU (.off _ _ _ _ rfl rfl rfl rfl) (dk rfl) ?_
 refine sp rfl (OpT.pickF rfl (dk rfl) rfl rfl rfl ?_)
 refine aw rfl ?_
 refine TL'.nil (tN ?_)
 refine T.ret (inBlock_ret (thenS_ret ?_))
 exact Fin.done (.cons _ _ _ _ (.tmp 2 _ rfl) .nil) (by cases h; exact ⟨rfl, rfl⟩)
theorem r4_shape_j1_T {r : Bool} (K : Nat) (x3_0_6 : Bool) (x4_0_7 : Bool) (x5_1_8 : Bool) (x0 : aNd) (x59_1_10 : Bool) (b1_1 : Nat) (h : r4_shape_j1 K x3_0_6 x4_0_7 x5_1_8 x0 x59_1_10 = some r) : T Tryd.prog 144 (Code.at [1, 1, 1, 1, 0, 1, 0, 1, 1, 1, 1, 1] (codeOf Tryd.f44)) ⟨[(1, .ptr b1_1 0), (3, .bool x3_0_6), (4, .bool x4_0_7), (5, .bool x5_1_8), (23, .int .u8 x0.Op), (59, .bool x59_1_10)], [.box b1_1 42 [.d (.int .u8 x0.Op), .d (.int .u64 x0.S.a0), .d (.int .u64 x0.S.a1), .d (.int .u64 x0.S.a2), .d (.int .u64 x0.S.a3), .d (.sl false 1 (x0.L.map (cI .i64))), .d (.int .i64 x0.Lo), .d (.int .i64 x0.Hi), .d (.str x0.Name)]]⟩ (r4_shape_qb0x11111 r) := by
 unfold r4_shape_j1 at h
 rcases bif_some h with ⟨c_162, h⟩ | ⟨c_162, h⟩
 refine T.condT rfl c_162 ?_
 refine T.seq ?_
 refine T.rL ?_
 refine mw rfl ?_
 refine sp rfl (OpT.not rfl (dk rfl) rfl ?_)
 refine mw rfl ?_
 rcases bif_some h with ⟨c_163, h⟩ | ⟨c_163, h⟩
 refine TL'.step (.on rfl rfl rfl c_163) (OpT.move rfl (dk rfl) rfl ?_)
 refine TL'.step (.on rfl rfl rfl c_163) (OpT.not rfl (dk rfl) rfl ?_)
 refine sp rfl (OpT.pickT rfl (dk rfl) rfl c_163 rfl ?_)
 refine mw rfl ?_
 rcases bif_some h with ⟨c_164, h⟩ | ⟨c_164, h⟩
 refine TL'.step (.on rfl rfl rfl c_164) (OpT.move rfl (dk rfl) rfl ?_)
 refine TL'.step (.on rfl rfl rfl c_164) (OpT.not rfl (dk rfl) rfl ?_)
 refine sp rfl (OpT.pickT rfl (dk rfl) rfl c_164 rfl ?_)
 refine mw rfl ?_
 rcases bif_some h with ⟨c_165, h⟩ | ⟨c_165, h⟩
 refine TL'.step (.on rfl rfl rfl c_165) (OpT.fieldPtr rfl (dk rfl) ul42 rfl i40 (by decide) rfl ?_)
 refine TL'.step (.on rfl rfl rfl c_165) (OpT.loadBox (i := 0) rfl (dk rfl) ul40 rfl rfl rfl rfl ?_)
 refine TL'.step (.on rfl rfl rfl c_165) (OpT.lenSlM (xs := x0.L) (f := (cI .i64)) rfl (dk rfl) ul40 rfl ?_)
 refine TL'.step (.on rfl rfl rfl c_165) (OpT.int2 rfl rfl (dk rfl) rfl rfl ?_)
 refine sp rfl (OpT.pickT rfl (dk rfl) rfl c_165 rfl ?_)
 refine aw rfl ?_
 refine TL'.nil (tN ?_)
 refine T.ret (inBlock_ret (thenS_ret ?_))
 exact Fin.done (.cons _ _ _ _ (.tmp 2 _ rfl) .nil) (by cases h; exact ⟨rfl, rfl⟩)
 refine TL'.passU (.off _ _ _ _ rfl rfl rfl c_165) (dk rfl) ?_
 refine TL'.passU (.off _ _ _ _ rfl rfl rfl c_165) (dk rfl) ?_
 refine TL'.passU (.off _ _ _ _ rfl rfl rfl c_165) (dk rfl) ?_
 refine TL'.passU (.off _ _ _ _ rfl rfl rfl c_165) (dk rfl) ?_
 refine sp rfl (OpT.pickF rfl (dk rfl) rfl c_165 rfl ?_)
 refine aw rfl ?_
 refine TL'.nil (tN ?_)
 refine T.ret (inBlock_ret (thenS_ret ?_))
 exact Fin.done (.cons _ _ _ _ (.tmp 2 _ rfl) .nil) (by cases h; exact ⟨rfl, rfl⟩)
 refine TL'.passU (.off _ _ _ _ rfl rfl rfl c_164) (dk rfl) ?_
 refine TL'.passU (.off _ _ _ _ rfl rfl rfl c_164) (dk rfl) ?_
 refine sp rfl (OpT.pickF rfl (dk rfl) rfl c_164 rfl ?_)
 refine mw rfl ?_
 refine TL'.passU (.off _ _ _ _ rfl rfl rfl rfl) (dk rfl) ?_
 refine TL'.passU (.off _ _ _ _ rfl rfl rfl rfl) (dk rfl) ?_
 refine TL'.passU (.off _ _ _ _ rfl rfl rfl rfl) (dk rfl) ?_
 refine TL'.passU (.off _ _ _ _ rfl rfl rfl rfl) (dk rfl) ?_
 refine sp rfl (OpT.pickF rfl (dk rfl) rfl rfl rfl ?_)
 refine aw rfl ?_
 refine TL'.nil (tN ?_)
 refine T.ret (inBlock_ret (thenS_ret ?_))
 exact Fin.done (.cons _ _ _ _ (.tmp 2 _ rfl) .nil) (by cases h; exact ⟨rfl, rfl⟩)
 refine TL'.passU (.off _ _ _ _ rfl rfl rfl c_163) (dk rfl) ?_
 refine TL'.passU (.off _ _ _ _ rfl rfl rfl c_163) (dk rfl) ?_
 refine sp rfl (OpT.pickF rfl (dk rfl) rfl c_163 rfl ?_)
 refine mw rfl ?_
 refine TL'.passU (.off _ _ _ _ rfl rfl rfl rfl) (dk rfl) ?_
 refine TL'.passU (.off _ _ _ _ rfl rfl rfl rfl) (dk rfl) ?_
 refine sp rfl (OpT.pickF rfl (dk rfl) rfl rfl rfl ?_)
 refine mw rfl ?_
 refine TL'.passU (.off _ _ _ _ rfl rfl rfl rfl) (dk rfl) ?_
 refine TL'.passU (.off _ _ _ _ rfl rfl rfl rfl) (dk rfl) ?_
 refine TL'.passU (.off _ _ _ _ rfl rfl rfl rfl) (dk rfl) ?_
 refine TL'.passU (.off _ _ _ _ rfl rfl rfl rfl) (dk rfl) ?_
 refine sp rfl (OpT.pickF rfl (dk rfl) rfl rfl rfl ?_)
 refine aw rfl ?_
 refine TL'.nil (tN ?_)
 refine T.ret (inBlock_ret (thenS_ret ?_))
 exact Fin.done (.cons _ _ _ _ (.tmp 2 _ rfl) .nil) (by cases h; exact ⟨rfl, rfl⟩)
 refine T.condF rfl c_162 ?_
 refine T.seq ?_
 refine T.rL ?_
 refine sp rfl (OpT.int2 rfl rfl (dk rfl) rfl rfl ?_)
 refine aw rfl ?_
 refine TL'.nil (tN ?_)
 rcases bif_some h with ⟨c_166, h⟩ | ⟨c_166, h⟩
 refine T.condT rfl c_166 ?_
 refine T.seq ?_
 refine T.rL ?_
 refine sp rfl (OpT.fieldPtr rfl (dk rfl) ul42 rfl i3 (by decide) rfl ?_)
 refine sp rfl (OpT.loadBox (i := 0) rfl (dk rfl) ul3 rfl rfl rfl rfl ?_)
 refine sp rfl (OpT.int2 rfl rfl (dk rfl) rfl rfl ?_)
 refine mw rfl ?_
 rcases bif_some h with ⟨c_167, h⟩ | ⟨c_167, h⟩
 refine TL'.passU (.off _ _ _ _ rfl rfl rfl c_167) (dk rfl) ?_
 refine TL'.passU (.off _ _ _ _ rfl rfl rfl c_167) (dk rfl) ?_
 refine TL'.passU (.off _ _ _ _ rfl rfl rfl c_167) (dk rfl) ?_
 refine TL'.passU (.off _ _ _ _ rfl rfl rfl c_167) (dk rfl) ?_
 refine TL'.passU (.gone _ _ _ rfl rfl rfl) (dk rfl) ?_
 refine TL'.passU (.gone _ _ _ rfl rfl rfl) (dk rfl) ?_
 refine TL'.passU (.gone _ _ _ rfl rfl rfl) (dk rfl) ?_
 refine TL'.passU (.off _ _ _ _ rfl rfl rfl c_167) (dk rfl) ?_
 refine TL'.passU (.off _ _ _ _ rfl rfl rfl c_167) (dk rfl) ?_
 refine TL'.passU (.gone _ _ _ rfl rfl rfl) (dk rfl) ?_
 refine TL'.passU (.gone _ _ _ rfl rfl rfl) (dk rfl) ?_
 refine TL'.passU (.gone _ _ _ rfl rfl rfl) (dk rfl) ?_
 refine TL'.passU (.gone _ _ _ rfl rfl rfl) (dk rfl) ?_
 refine TL'.passU (.gone _ _ _ rfl rfl rfl) (dk rfl) ?_
 refine TL'.passU (.off _ _ _ _ rfl rfl rfl c_167) (dk rfl) ?_
 refine sp rfl (OpT.pickT rfl (dk rfl) rfl c_167 rfl ?_)
 refine aw rfl ?_
 refine TL'.nil (tN ?_)
 refine T.by_turn ?_ (r4_shape_j2_T K x3_0_6 x5_1_8 true x0 b1_1 h)
 exact Turn.rp (.cons rfl (.cons rfl (.cons rfl (.cons rfl (.nil _))))) (.c .z (.n _))
 refine TL'.step (.on rfl rfl rfl c_167) (OpT.fieldPtr rfl (dk rfl) ul42 rfl i3 (by decide) rfl ?_)
 refine TL'.step (.on rfl rfl rfl c_167) (OpT.loadBox (i := 0) rfl (dk rfl) ul3 rfl rfl rfl rfl ?_)
 refine TL'.step (.on rfl rfl rfl c_167) (OpT.int2 rfl rfl (dk rfl) rfl rfl ?_)
 refine TL'.step (.on rfl rfl rfl c_167) (OpT.move rfl (dk rfl) rfl ?_)
 rcases bif_some h with ⟨c_173, h⟩ | ⟨c_173, h⟩
 refine TL'.step (.on rfl rfl rfl c_173) (OpT.fieldPtr rfl (dk rfl) ul42 rfl i3 (by decide) rfl ?_)
 refine TL'.step (.on rfl rfl rfl c_173) (OpT.loadBox (i := 0) rfl (dk rfl) ul3 rfl rfl rfl rfl ?_)
 refine TL'.step (.on rfl rfl rfl c_173) (OpT.int2 rfl rfl (dk rfl) rfl rfl ?_)
 refine TL'.step (.on rfl rfl rfl c_167) (OpT.pickT rfl (dk rfl) rfl c_173 rfl ?_)
 refine TL'.step (.on rfl rfl rfl c_167) (OpT.move rfl (dk rfl) rfl ?_)
 rcases bif_some h with ⟨c_174, h⟩ | ⟨c_174, h⟩
 refine TL'.step (.on rfl rfl rfl c_174) (OpT.fieldPtr rfl (dk rfl) ul42 rfl i3 (by decide) rfl ?_)
 refine TL'.step (.on rfl rfl rfl c_174) (OpT.loadBox (i := 0) rfl (dk rfl) ul3 rfl rfl rfl rfl ?_)
 refine TL'.step (.on rfl rfl rfl c_174) (OpT.fieldPtr rfl (dk rfl) ul42 rfl i3 (by decide) rfl ?_)
 refine TL'.step (.on rfl rfl rfl c_174) (OpT.loadBox (i := 0) rfl (dk rfl) ul3 rfl rfl rfl rfl ?_)
 refine TL'.step (.on rfl rfl rfl c_174) (OpT.int2 rfl rfl (dk rfl) rfl rfl ?_)
 refine TL'.step (.on rfl rfl rfl c_167) (OpT.pickT rfl (dk rfl) rfl c_174 rfl ?_)
 refine sp rfl (OpT.pickF rfl (dk rfl) rfl c_167 rfl ?_)
 refine aw rfl ?_
 refine TL'.nil (tN ?_)
 refine T.by_turn ?_ (r4_shape_j2_T K x3_0_6 x5_1_8 (decide (x0.Hi ≥ x0.Lo)) x0 b1_1 h)
 exact Turn.rp (.cons rfl (.cons rfl (.cons rfl (.cons rfl (.nil _))))) (.c .z (.n _))
 refine TL'.passU (.off _ _ _ _ rfl rfl rfl c_174) (dk rfl) ?_
 refine TL'.passU (.off _ _ _ _ rfl rfl rfl c_174) (dk rfl) ?_
 refine TL'.passU (.off _ _ _ _ rfl rfl rfl c_174) (dk rfl) ?_
 refine TL'.passU (.off _ _ _ _ rfl rfl rfl c_174) (dk rfl) ?_
 refine TL'.passU (.off _ _ _ _ rfl rfl rfl c_174) (dk rfl) ?_
 refine TL'.step (.on rfl rfl rfl c_167) (OpT.pickF rfl (dk rfl) rfl c_174 rfl ?_)
 refine sp rfl (OpT.pickF rfl (dk rfl) rfl c_167 rfl ?_)
 refine aw rfl ?_
 refine TL'.nil (tN ?_)
 refine T.by_turn ?_ (r4_shape_j2_T K x3_0_6 x5_1_8 false x0 b1_1 h)
 exact Turn.rp (.cons rfl (.cons rfl (.cons rfl (.cons rfl (.nil _))))) (.c .z (.n _))
 refine TL'.passU (.off _ _ _ _ rfl rfl rfl c_173) (dk rfl) ?_
 refine TL'.passU (.off _ _ _ _ rfl rfl rfl c_173) (dk rfl) ?_
 refine TL'.passU (.off _ _ _ _ rfl rfl rfl c_173) (dk rfl) ?_
 refine TL'.step (.on rfl rfl rfl c_167) (OpT.pickF rfl (dk rfl) rfl c_173 rfl ?_)
 refine TL'.step (.on rfl rfl rfl c_167) (OpT.move rfl (dk rfl) rfl ?_)
 refine TL'.passU (.off _ _ _ _ rfl rfl rfl rfl) (dk rfl) ?_
 refine TL'.passU (.off _ _ _ _ rfl rfl rfl rfl) (dk rfl) ?_
 refine TL'.passU (.off _ _ _ _ rfl rfl rfl rfl) (dk rfl) ?_
 refine TL'.passU (.off _ _ _ _ rfl rfl rfl rfl) (dk rfl) ?_
 refine TL'.passU (.off _ _ _ _ rfl rfl rfl rfl) (dk rfl) ?_
 refine TL'.step (.on rfl rfl rfl c_167) (OpT.pickF rfl (dk rfl) rfl rfl rfl ?_)
 refine sp rfl (OpT.pickF rfl (dk rfl) rfl c_167 rfl ?_)
 refine aw rfl ?_
 refine TL'.nil (tN ?_)
 refine T.by_turn ?_ (r4_shape_j2_T K x3_0_6 x5_1_8 false x0 b1_1 h)
 exact Turn.rp (.cons rfl (.cons rfl (.cons rfl (.cons rfl (.nil _))))) (.c .z (.n _))
 refine T.condF rfl c_166 ?_
 refine T.seq ?_
 refine T.rL ?_
 refine sp rfl (OpT.int2 rfl rfl (dk rfl) rfl rfl ?_)
 refine aw rfl ?_
 refine TL'.nil (tN ?_)
 rcases bif_some h with ⟨c_175, h⟩ | ⟨c_175, h⟩
 refine T.condT rfl c_175 ?_
 refine T.seq ?_
 refine T.rL ?_
 refine mw rfl ?_
 refine sp rfl (OpT.not rfl (dk rfl) rfl ?_)
 refine mw rfl ?_
 rcases bif_some h with ⟨c_176, h⟩ | ⟨c_176, h⟩
 refine TL'.step (.on rfl rfl rfl c_176) (OpT.move rfl (dk rfl) rfl ?_)
 refine TL'.step (.on rfl rfl rfl c_176) (OpT.not rfl (dk rfl) rfl ?_)
 refine sp rfl (OpT.pickT rfl (dk rfl) rfl c_176 rfl ?_)
 refine mw rfl ?_
 rcases bif_some h with ⟨c_177, h⟩ | ⟨c_177, h⟩
 refine TL'.step (.on rfl rfl rfl c_177) (OpT.fieldPtr rfl (dk rfl) ul42 rfl i9 (by decide) rfl ?_)
 refine TL'.step (.on rfl rfl rfl c_177) (OpT.loadBox (i := 0) rfl (dk rfl) ul9 rfl rfl rfl rfl ?_)
 obtain ⟨v_178, e_179, h⟩ := bind_some h
 refine TL'.step (.on rfl rfl rfl c_177) (OpT.callPA rfl (dk rfl) Tryd.func62 rfl rfl (Args.cons rfl Args.nil) (CallR.nil (r4_Name_T K e_179)) ?_)
 refine sp rfl (OpT.pickT rfl (dk rfl) rfl c_177 rfl ?_)
 refine mw rfl ?_
 rcases bif_some h with ⟨c_180, h⟩ | ⟨c_180, h⟩
 refine TL'.step (.on rfl rfl rfl c_180) (OpT.fieldPtr rfl (dk rfl) ul42 rfl i40 (by decide) rfl ?_)
 refine TL'.step (.on rfl rfl rfl c_180) (OpT.loadBox (i := 0) rfl (dk rfl) ul40 rfl rfl rfl rfl ?_)
 refine TL'.step (.on rfl rfl rfl c_180) (OpT.lenSlM (xs := x0.L) (f := (cI .i64)) rfl (dk rfl) ul40 rfl ?_)
 refine TL'.step (.on rfl rfl rfl c_180) (OpT.int2 rfl rfl (dk rfl) rfl rfl ?_)
 refine sp rfl (OpT.pickT rfl (dk rfl) rfl c_180 rfl ?_)
 refine aw rfl ?_
 refine TL'.nil (tN ?_)
 refine T.ret (inBlock_ret (thenS_ret ?_))
 exact Fin.done (.cons _ _ _ _ (.tmp 2 _ rfl) .nil) (by cases h; exact ⟨rfl, rfl⟩)
 refine TL'.passU (.off _ _ _ _ rfl rfl rfl c_180) (dk rfl) ?_
 refine TL'.passU (.off _ _ _ _ rfl rfl rfl c_180) (dk rfl) ?_
 refine TL'.passU (.off _ _ _ _ rfl rfl rfl c_180) (dk rfl) ?_
 refine TL'.passU (.off _ _ _ _ rfl rfl rfl c_180) (dk rfl) ?_
 refine sp rfl (OpT.pickF rfl (dk rfl) rfl c_180 rfl ?_)
 refine aw rfl ?_
 refine TL'.nil (tN ?_)
 refine T.ret (inBlock_ret (thenS_ret ?_))
 exact Fin.done (.cons _ _ _ _ (.tmp 2 _ rfl) .nil) (by cases h; exact ⟨rfl, rfl⟩)
 refine TL'.passU (.off _ _ _ _ rfl rfl rfl c_177) (dk rfl) ?_
 refine TL'.passU (.off _ _ _ _ rfl rfl rfl c_177) (dk rfl) ?_
 refine TL'.passU (.off _ _ _ _ rfl rfl rfl c_177) (dk rfl) ?_
 refine sp rfl (OpT.pickF rfl (dk rfl) rfl c_177 rfl ?_)
 refine mw rfl ?_
 refine TL'.passU (.off _ _ _ _ rfl rfl rfl rfl) (dk rfl) ?_
 refine TL'.passU (.off _ _ _ _ rfl rfl rfl rfl) (dk rfl) ?_
 refine TL'.passU (.off _ _ _ _ rfl rfl rfl rfl) (dk rfl) ?_
 refine TL'.passU (.off _ _ _ _ rfl rfl rfl rfl) (dk rfl) ?_
 refine sp rfl (OpT.pickF rfl (dk rfl) rfl rfl rfl ?_)
 refine aw rfl ?_
 refine TL'.nil (tN ?_)
 refine T.ret (inBlock_ret (thenS_ret ?_))
 exact Fin.done (.cons _ _ _ _ (.tmp 2 _ rfl) .nil) (by cases h; exact ⟨rfl, rfl⟩)
 refine TL'.passU (.off _ _ _ _ rfl rfl rfl c_176) (dk rfl) ?_
 refine TL'.passU (.off _ _ _ _ rfl rfl rfl c_176) (dk rfl) ?_
 refine sp rfl (OpT.pickF rfl (dk rfl) rfl c_176 rfl ?_)
 refine mw rfl ?_
 refine TL'.passU (.off _ _ _ _ rfl rfl rfl rfl) (dk rfl) ?_
 refine TL'.passU (.off _ _ _ _ rfl rfl rfl rfl) (dk rfl) ?_
 refine TL'.passU (.off _ _ _ _ rfl rfl rfl rfl) (dk rfl) ?_
 refine sp rfl (OpT.pickF rfl (dk rfl) rfl rfl rfl ?_)
 refine mw rfl ?_
 refine TL'.passU (.off _ _ _ _ rfl rfl rfl rfl) (dk rfl) ?_
 refine TL'.passU (.off _ _ _ _ rfl rfl rfl rfl) (dk rfl) ?_
 refine TL'.passU (.off _ _ _ _ rfl rfl rfl rfl) (dk rfl) ?_
 refine TL'.passU (.off _ _ _ _ rfl rfl rfl rfl) (dk rfl) ?_
 refine sp rfl (OpT.pickF rfl (dk rfl) rfl rfl rfl ?_)
 refine aw rfl ?_
 refine TL'.nil (tN ?_)
 refine T.ret (inBlock_ret (thenS_ret ?_))
 exact Fin.done (.cons _ _ _ _ (.tmp 2 _ rfl) .nil) (by cases h; exact ⟨rfl, rfl⟩)
 refine T.condF rfl c_175 ?_
 refine T.skip (inBlock_normal (tN ?_))
 refine T.seq ?_
 refine T.rL ?_
 refine aw rfl ?_
 refine TL'.nil (tN ?_)
 refine T.ret ?_
 exact Fin.done (.cons _ _ _ _ (.tmp 2 _ rfl) .nil) (by cases h; exact ⟨rfl, rfl⟩)
theorem r4_shape_j0_T {r : Bool} (K : Nat) (x3_0_6 : Bool) (x4_0_7 : Bool) (x0 : aNd) (b1_0 : Nat) (h : r4_shape_j0 K x3_0_6 x4_0_7 x0 = some r) : T Tryd.prog 144 (Code.at [1, 1, 1] (codeOf Tryd.f44)) ⟨[(1, .ptr b1_0 0), (3, .bool x3_0_6), (4, .bool x4_0_7)], [.box b1_0 42 [.d (.int .u8 x0.Op), .d (.int .u64 x0.S.a0), .d (.int .u64 x0.S.a1), .d (.int .u64 x0.S.a2), .d (.int .u64 x0.S.a3), .d (.sl false 1 (x0.L.map (cI .i64))), .d (.int .i64 x0.Lo), .d (.int .i64 x0.Hi), .d (.str x0.Name)]]⟩ (r4_shape_q r) := by
 unfold r4_shape_j0 at h
 refine T.seq ?_
 refine T.rL ?_
 refine sp rfl (OpT.fieldPtr rfl (dk rfl) ul42 rfl i9 (by decide) rfl ?_)
 refine sp rfl (OpT.loadBox (i := 0) rfl (dk rfl) ul9 rfl rfl rfl rfl ?_)
 refine sp rfl (OpT.str_neq rfl (dk rfl) rfl rfl ?_)
 refine aw rfl ?_
 refine TL'.nil (tN ?_)
 refine T.seq ?_
 refine T.seq ?_
 refine T.rL ?_
 refine sp rfl (OpT.fieldPtr rfl (dk rfl) ul42 rfl i5 (by decide) rfl ?_)
 refine sp rfl (OpT.loadBox (i := 0) rfl (dk rfl) ul5 rfl rfl rfl rfl ?_)
 refine TL'.nil (tN ?_)
 refine T.block ?_
 refine T.seq ?_
 refine T.rL ?_
 refine sp rfl (OpT.int2 rfl rfl (dk rfl) rfl rfl ?_)
 refine aw rfl ?_
 refine TL'.nil (tN ?_)
 rcases bif_some h with ⟨c_153, h⟩ | ⟨c_153, h⟩
 refine T.condT rfl c_153 ?_
 refine T.seq ?_
 refine T.rL ?_
 refine mw rfl ?_
 refine sp rfl (OpT.not rfl (dk rfl) rfl ?_)
 refine mw rfl ?_
 rcases bif_some h with ⟨c_154, h⟩ | ⟨c_154, h⟩
 refine TL'.step (.on rfl rfl rfl c_154) (OpT.move rfl (dk rfl) rfl ?_)
 refine TL'.step (.on rfl rfl rfl c_154) (OpT.not rfl (dk rfl) rfl ?_)
 refine sp rfl (OpT.pickT rfl (dk rfl) rfl c_154 rfl ?_)
 refine mw rfl ?_
 rcases bif_some h with ⟨c_155, h⟩ | ⟨c_155, h⟩
 refine TL'.step (.on rfl rfl rfl c_155) (OpT.move rfl (dk rfl) rfl ?_)
 refine TL'.step (.on rfl rfl rfl c_155) (OpT.not rfl (dk rfl) rfl ?_)
 refine sp rfl (OpT.pickT rfl (dk rfl) rfl c_155 rfl ?_)
 refine mw rfl ?_
 rcases bif_some h with ⟨c_156, h⟩ | ⟨c_156, h⟩
 refine TL'.step (.on rfl rfl rfl c_156) (OpT.fieldPtr rfl (dk rfl) ul42 rfl i40 (by decide) rfl ?_)
 refine TL'.step (.on rfl rfl rfl c_156) (OpT.loadBox (i := 0) rfl (dk rfl) ul40 rfl rfl rfl rfl ?_)
 refine TL'.step (.on rfl rfl rfl c_156) (OpT.lenSlM (xs := x0.L) (f := (cI .i64)) rfl (dk rfl) ul40 rfl ?_)
 refine TL'.step (.on rfl rfl rfl c_156) (OpT.int2 rfl rfl (dk rfl) rfl rfl ?_)
 refine sp rfl (OpT.pickT rfl (dk rfl) rfl c_156 rfl ?_)
 refine aw rfl ?_
 refine TL'.nil (tN ?_)
 refine T.ret (inBlock_ret (thenS_ret ?_))
 exact Fin.done (.cons _ _ _ _ (.tmp 2 _ rfl) .nil) (by cases h; exact ⟨rfl, rfl⟩)
 refine TL'.passU (.off _ _ _ _ rfl rfl rfl c_156) (dk rfl) ?_
 refine TL'.passU (.off _ _ _ _ rfl rfl rfl c_156) (dk rfl) ?_
 refine TL'.passU (.off _ _ _ _ rfl rfl rfl c_156) (dk rfl) ?_
 refine TL'.passU (.off _ _ _ _ rfl rfl rfl c_156) (dk rfl) ?_
 refine sp rfl (OpT.pickF rfl (dk rfl) rfl c_156 rfl ?_)
 refine aw rfl ?_
 refine TL'.nil (tN ?_)
 refine T.ret (inBlock_ret (thenS_ret ?_))
 exact Fin.done (.cons _ _ _ _ (.tmp 2 _ rfl) .nil) (by cases h; exact ⟨rfl, rfl⟩)
 refine TL'.passU (.off _ _ _ _ rfl rfl rfl c_155) (dk rfl) ?_
 refine TL'.passU (.off _ _ _ _ rfl rfl rfl c_155) (dk rfl) ?_
 refine sp rfl (OpT.pickF rfl (dk rfl) rfl c_155 rfl ?_)
 refine mw rfl ?_
 refine TL'.passU (.off _ _ _ _ rfl rfl rfl rfl) (dk rfl) ?_
 refine TL'.passU (.off _ _ _ _ rfl rfl rfl rfl) (dk rfl) ?_
 refine TL'.passU (.off _ _ _ _ rfl rfl rfl rfl) (dk rfl) ?_
 refine TL'.passU (.off _ _ _ _ rfl rfl rfl rfl) (dk rfl) ?_
 refine sp rfl (OpT.pickF rfl (dk rfl) rfl rfl rfl ?_)
 refine aw rfl ?_
 refine TL'.nil (tN ?_)
 refine T.ret (inBlock_ret (thenS_ret ?_))
 exact Fin.done (.cons _ _ _ _ (.tmp 2 _ rfl) .nil) (by cases h; exact ⟨rfl, rfl⟩)
 refine TL'.passU (.off _ _ _ _ rfl rfl rfl c_154) (dk rfl) ?_
 refine TL'.passU (.off _ _ _ _ rfl rfl rfl c_154) (dk rfl) ?_
 refine sp rfl (OpT.pickF rfl (dk rfl) rfl c_154 rfl ?_)
 refine mw rfl ?_
 refine TL'.passU (.off _ _ _ _ rfl rfl rfl rfl) (dk rfl) ?_
 refine TL'.passU (.off _ _ _ _ rfl rfl rfl rfl) (dk rfl) ?_
 refine sp rfl (OpT.pickF rfl (dk rfl) rfl rfl rfl ?_)
 refine mw rfl ?_
 refine TL'.passU (.off _ _ _ _ rfl rfl rfl rfl) (dk rfl) ?_
 refine TL'.passU (.off _ _ _ _ rfl rfl rfl rfl) (dk rfl) ?_
 refine TL'.passU (.off _ _ _ _ rfl rfl rfl rfl) (dk rfl) ?_
 refine TL'.passU (.off _ _ _ _ rfl rfl rfl rfl) (dk rfl) ?_
 refine sp rfl (OpT.pickF rfl (dk rfl) rfl rfl rfl ?_)
 refine aw rfl ?_
 refine TL'.nil (tN ?_)
 refine T.ret (inBlock_ret (thenS_ret ?_))
 exact Fin.done (.cons _ _ _ _ (.tmp 2 _ rfl) .nil) (by cases h; exact ⟨rfl, rfl⟩)
 refine T.condF rfl c_153 ?_
 refine T.seq ?_
 refine T.rL ?_
 refine sp rfl (OpT.int2 rfl rfl (dk rfl) rfl rfl ?_)
 refine aw rfl ?_
 refine TL'.nil (tN ?_)
 rcases bif_some h with ⟨c_157, h⟩ | ⟨c_157, h⟩
 refine T.condT rfl c_157 ?_
 refine T.seq ?_
 refine T.rL ?_
 refine mw rfl ?_
 refine mw rfl ?_
 rcases bif_some h with ⟨c_158, h⟩ | ⟨c_158, h⟩
 refine TL'.step (.on rfl rfl rfl c_158) (OpT.move rfl (dk rfl) rfl ?_)
 refine TL'.step (.on rfl rfl rfl c_158) (OpT.not rfl (dk rfl) rfl ?_)
 refine sp rfl (OpT.pickT rfl (dk rfl) rfl c_158 rfl ?_)
 refine mw rfl ?_
 rcases bif_some h with ⟨c_159, h⟩ | ⟨c_159, h⟩
 refine TL'.step (.on rfl rfl rfl c_159) (OpT.move rfl (dk rfl) rfl ?_)
 refine TL'.step (.on rfl rfl rfl c_159) (OpT.not rfl (dk rfl) rfl ?_)
 refine sp rfl (OpT.pickT rfl (dk rfl) rfl c_159 rfl ?_)
 refine mw rfl ?_
 rcases bif_some h with ⟨c_160, h⟩ | ⟨c_160, h⟩
 refine TL'.step (.on rfl rfl rfl c_160) (OpT.fieldPtr rfl (dk rfl) ul42 rfl i40 (by decide) rfl ?_)
 refine TL'.step (.on rfl rfl rfl c_160) (OpT.loadBox (i := 0) rfl (dk rfl) ul40 rfl rfl rfl rfl ?_)
 refine TL'.step (.on rfl rfl rfl c_160) (OpT.lenSlM (xs := x0.L) (f := (cI .i64)) rfl (dk rfl) ul40 rfl ?_)
 refine TL'.step (.on rfl rfl rfl c_160) (OpT.int2 rfl rfl (dk rfl) rfl rfl ?_)
 refine sp rfl (OpT.pickT rfl (dk rfl) rfl c_160 rfl ?_)
 refine aw rfl ?_
 refine TL'.nil (tN ?_)
 refine T.ret (inBlock_ret (thenS_ret ?_))
 exact Fin.done (.cons _ _ _ _ (.tmp 2 _ rfl) .nil) (by cases h; exact ⟨rfl, rfl⟩)
 refine TL'.passU (.off _ _ _ _ rfl rfl rfl c_160) (dk rfl) ?_
 refine TL'.passU (.off _ _ _ _ rfl rfl rfl c_160) (dk rfl) ?_
 refine TL'.passU (.off _ _ _ _ rfl rfl rfl c_160) (dk rfl) ?_
 refine TL'.passU (.off _ _ _ _ rfl rfl rfl c_160) (dk rfl) ?_
 refine sp rfl (OpT.pickF rfl (dk rfl) rfl c_160 rfl ?_)
 refine aw rfl ?_
 refine TL'.nil (tN ?_)
 refine T.ret (inBlock_ret (thenS_ret ?_))
 exact Fin.done (.cons _ _ _ _ (.tmp 2 _ rfl) .nil) (by cases h; exact ⟨rfl, rfl⟩)
 refine TL'.passU (.off _ _ _ _ rfl rfl rfl c_159) (dk rfl) ?_
 refine TL'.passU (.off _ _ _ _ rfl rfl rfl c_159) (dk rfl) ?_
 refine sp rfl (OpT.pickF rfl (dk rfl) rfl c_159 rfl ?_)
 refine mw rfl ?_
 refine TL'.passU (.off _ _ _ _ rfl rfl rfl rfl) (dk rfl) ?_
 refine TL'.passU (.off _ _ _ _ rfl rfl rfl rfl) (dk rfl) ?_
 refine TL'.passU (.off _ _ _ _ rfl rfl rfl rfl) (dk rfl) ?_
 refine TL'.passU (.off _ _ _ _ rfl rfl rfl rfl) (dk rfl) ?_
 refine sp rfl (OpT.pickF rfl (dk rfl) rfl rfl rfl ?_)
 refine aw rfl ?_
 refine TL'.nil (tN ?_)
 refine T.ret (inBlock_ret (thenS_ret ?_))
 exact Fin.done (.cons _ _ _ _ (.tmp 2 _ rfl) .nil) (by cases h; exact ⟨rfl, rfl⟩)
 refine TL'.passU (.off _ _ _ _ rfl rfl rfl c_158) (dk rfl) ?_
 refine TL'.passU (.off _ _ _ _ rfl rfl rfl c_158) (dk rfl) ?_
 refine sp rfl (OpT.pickF rfl (dk rfl) rfl c_158 rfl ?_)
 refine mw rfl ?_
 refine TL'.passU (.off _ _ _ _ rfl rfl rfl rfl) (dk rfl) ?_
 refine TL'.passU (.off _ _ _ _ rfl rfl rfl rfl) (dk rfl) ?_
 refine sp rfl (OpT.pickF rfl (dk rfl) rfl rfl rfl ?_)
 refine mw rfl ?_
 refine TL'.passU (.off _ _ _ _ rfl rfl rfl rfl) (dk rfl) ?_
 refine TL'.passU (.off _ _ _ _ rfl rfl rfl rfl) (dk rfl) ?_
 refine TL'.passU (.off _ _ _ _ rfl rfl rfl rfl) (dk rfl) ?_
 refine TL'.passU (.off _ _ _ _ rfl rfl rfl rfl) (dk rfl) ?_
 refine sp rfl (OpT.pickF rfl (dk rfl) rfl rfl rfl ?_)
 refine aw rfl ?_
 refine TL'.nil (tN ?_)
 refine T.ret (inBlock_ret (thenS_ret ?_))
 exact Fin.done (.cons _ _ _ _ (.tmp 2 _ rfl) .nil) (by cases h; exact ⟨rfl, rfl⟩)
 refine T.condF rfl c_157 ?_
 refine T.seq ?_
 refine T.seq ?_
 refine T.rL ?_
 refine sp rfl (OpT.int2 rfl rfl (dk rfl) rfl rfl ?_)
 refine aw rfl ?_
 refine TL'.nil (tN ?_)
 rcases bif_some h with ⟨c_161, h⟩ | ⟨c_161, h⟩
 refine T.condT rfl c_161 ?_
 refine T.skip (tN ?_)
 refine T.by_turn ?_ (r4_shape_j1_T K x3_0_6 x4_0_7 (!(x0.Name.toList == (⟨#[]⟩ : ByteArray).toList)) x0 (x0.Op == (3 : Int)) b1_0 h)
 exact Turn.rp (.cons rfl (.cons rfl (.cons rfl (.cons rfl (.cons rfl (.cons rfl (.nil _))))))) (.c .z (.n _))
 refine T.condF rfl c_161 ?_
 refine T.rL ?_
 refine sp rfl (OpT.int2 rfl rfl (dk rfl) rfl rfl ?_)
 refine aw rfl ?_
 refine TL'.nil (tN ?_)
 refine T.by_turn ?_ (r4_shape_j1_T K x3_0_6 x4_0_7 (!(x0.Name.toList == (⟨#[]⟩ : ByteArray).toList)) x0 (x0.Op == (4 : Int)) b1_0 h)
 exact Turn.rp (.cons rfl (.cons rfl (.cons rfl (.cons rfl (.cons rfl (.cons rfl (.nil _))))))) (.c .z (.n _))
theorem r4_shape_T (K : Nat) {x0 : aNd} {r : Bool} (h : r4_shape K x0 = some r) : CallR Tryd.prog 44 [.agg [.int .u8 x0.Op, .int .u64 x0.S.a0, .int .u64 x0.S.a1, .int .u64 x0.S.a2, .int .u64 x0.S.a3, .sl false 1 (x0.L.map (cI .i64)), .int .i64 x0.Lo, .int .i64 x0.Hi, .str x0.Name]] [] (.bool r) := by
 refine CallT.intro Tryd.func44 rfl (nb rfl) ?_
 show T Tryd.prog 144 (Code.at [] (codeOf Tryd.f44)) ⟨paramSlots 0 [.agg [.int .u8 x0.Op, .int .u64 x0.S.a0, .int .u64 x0.S.a1, .int .u64 x0.S.a2, .int .u64 x0.S.a3, .sl false 1 (x0.L.map (cI .i64)), .int .i64 x0.Lo, .int .i64 x0.Hi, .str x0.Name]], []⟩ (r4_shape_q r)
 unfold r4_shape at h
 refine T.seq ?_
 refine T.rL ?_
 refine sp rfl (OpT.boxAgg rfl (dk rfl) rfl (fun b_151 => ?_))
 refine aw rfl ?_
 refine TL'.nil (tN ?_)
 refine T.seq ?_
 refine T.rL ?_
 refine sp rfl (OpT.fieldPtr rfl (dk rfl) ul42 rfl i25 (by decide) rfl ?_)
 refine sp rfl (OpT.loadBoxAgg (i := 0) (l := (Arr4.dc .u64 x0.S)) rfl (dk rfl) ul25 rfl i25 rfl rfl rfl rfl ?_)
 refine sp rfl (OpT.build (l := (Arr4.dc .u64 (Arr4.mk 0 0 0 0))) rfl (dk rfl) (built_arr ul25 i25 i23) (all1 rfl) rfl rfl ?_)
 refine sp rfl (OpT.intsNeq (k := .u64) (xs := [x0.S.a0, x0.S.a1, x0.S.a2, x0.S.a3]) (ys := [(Arr4.mk 0 0 0 0).a0, (Arr4.mk 0 0 0 0).a1, (Arr4.mk 0 0 0 0).a2, (Arr4.mk 0 0 0 0).a3]) rfl (dk rfl) ul25 ul23 i23 Tryd.eqGuardType25 rfl rfl rfl rfl rfl rfl (Arr4.same_eq x0.S (Arr4.mk 0 0 0 0)) ?_)
 refine aw rfl ?_
 refine TL'.nil (tN ?_)
 refine T.seq ?_
 refine T.rL ?_
 refine sp rfl (OpT.fieldPtr rfl (dk rfl) ul42 rfl i3 (by decide) rfl ?_)
 refine sp rfl (OpT.loadBox (i := 0) rfl (dk rfl) ul3 rfl rfl rfl rfl ?_)
 refine sp rfl (OpT.int2 rfl rfl (dk rfl) rfl rfl ?_)
 refine mw rfl ?_
 rcases bif_some h with ⟨c_152, h⟩ | ⟨c_152, h⟩
 refine TL'.passU (.off _ _ _ _ rfl rfl rfl c_152) (dk rfl) ?_
 refine TL'.passU (.off _ _ _ _ rfl rfl rfl c_152) (dk rfl) ?_
 refine TL'.passU (.off _ _ _ _ rfl rfl rfl c_152) (dk rfl) ?_
 refine sp rfl (OpT.pickT rfl (dk rfl) rfl c_152 rfl ?_)
 refine aw rfl ?_
 refine TL'.nil (tN ?_)
 refine T.by_turn ?_ (r4_shape_j0_T K (!(Arr4.same x0.S (Arr4.mk 0 0 0 0))) true x0 b_151 h)
 exact Turn.rp (.cons rfl (.cons rfl (.cons rfl (.nil _)))) (.c .z (.n _))
 refine TL'.step (.on rfl rfl rfl c_152) (OpT.fieldPtr rfl (dk rfl) ul42 rfl i3 (by decide) rfl ?_)
 refine TL'.step (.on rfl rfl rfl c_152) (OpT.loadBox (i := 0) rfl (dk rfl) ul3 rfl rfl rfl rfl ?_)
 refine TL'.step (.on rfl rfl rfl c_152) (OpT.int2 rfl rfl (dk rfl) rfl rfl ?_)
 refine sp rfl (OpT.pickF rfl (dk rfl) rfl c_152 rfl ?_)
 refine aw rfl ?_
 refine TL'.nil (tN ?_)
 refine T.by_turn ?_ (r4_shape_j0_T K (!(Arr4.same x0.S (Arr4.mk 0 0 0 0))) (x0.Hi != (0 : Int)) x0 b_151 h)
 exact Turn.rp (.cons rfl (.cons rfl (.cons rfl (.nil _)))) (.c .z (.n _))
abbrev r4_Right_q (r : Bool) : Exit → St → Prop := retS Tryd.prog Tryd.f23 (fun y t => y = (.bool r) ∧ t = [])
abbrev r4_Right_qs11 (r : Bool) : Exit → St → Prop := thenS (fun s' => T Tryd.prog 56 (Code.at [1, 1] (codeOf Tryd.f23)) s' ((r4_Right_q r))) ((r4_Right_q r))
abbrev r4_Right_qs11111 (r : Bool) : Exit → St → Prop := thenS (fun s' => T Tryd.prog 56 (Code.at [1, 1, 1, 1, 1] (codeOf Tryd.f23)) s' ((r4_Right_q r))) ((r4_Right_q r))
abbrev r4_Right_qs111111 (r : Bool) : Exit → St → Prop := thenS (fun s' => T Tryd.prog 56 (Code.at [1, 1, 1, 1, 1, 1] (codeOf Tryd.f23)) s' ((r4_Right_q r))) ((r4_Right_q r))
abbrev r4_Right_qb2x111111 (r : Bool) : Exit → St → Prop := inBlockS 2 ((r4_Right_qs111111 r))
abbrev r4_Right_qs111 (r : Bool) : Exit → St → Prop := thenS (fun s' => T Tryd.prog 56 (Code.at [1, 1, 1] (codeOf Tryd.f23)) s' ((r4_Right_q r))) ((r4_Right_q r))
abbrev r4_Right_qb0x111 (r : Bool) : Exit → St → Prop := inBlockS 0 ((r4_Right_qs111 r))
theorem r4_Right_j0_T {r : Bool} (K : Nat) (h : r4_Right_j0 K = some r) : T Tryd.prog 56 (Code.at [1, 0, 1, 0] (codeOf Tryd.f23)) ⟨[], []⟩ (r4_Right_qs11 r) := by
 unfold r4_Right_j0 at h
 refine T.seq ?_
 refine T.rL ?_
 refine aw rfl ?_
 refine TL'.nil (tN ?_)
 refine T.ret (thenS_ret ?_)
 exact Fin.done (.cons _ _ _ _ (.tmp 2 _ rfl) .nil) (by cases h; exact ⟨rfl, rfl⟩)
theorem r4_Right_j2_T {r : Bool} (K : Nat) (h : r4_Right_j2 K = some r) : T Tryd.prog 56 (Code.at [1, 1, 1, 1, 0, 1, 0] (codeOf Tryd.f23)) ⟨[], []⟩ (r4_Right_qs11111 r) := by
 unfold r4_Right_j2 at h
 refine T.seq ?_
 refine T.rL ?_
 refine aw rfl ?_
 refine TL'.nil (tN ?_)
 refine T.ret (thenS_ret ?_)
 exact Fin.done (.cons _ _ _ _ (.tmp 2 _ rfl) .nil) (by cases h; exact ⟨rfl, rfl⟩)
theorem r4_Right_l3_T {r : Bool} (K : Nat) : ∀ (k : Nat), ∀ (x6_3_1 : Int) (y4_3_0 : List Int) (w4_3 : Value), r4_Right_l3 K k x6_3_1 y4_3_0 = some r → TL Tryd.prog 56 (Code.at [1, 1, 1, 1, 1, 0, 1, 0, 0] (codeOf Tryd.f23)) ⟨[(4, .c (.ex w4_3)), (6, .int .i64 x6_3_1)], [.arrA w4_3 3 1 (y4_3_0.map (cI .i64))]⟩ (r4_Right_qb2x111111 r) := by
  intro k
  induction k with
  | zero =>
    intro x6_3_1 y4_3_0 w4_3 h
    cases (show (none : Option Bool) = some r from h)
  | succ k ih =>
    intro x6_3_1 y4_3_0 w4_3 h
    rw [r4_Right_l3] at h
    refine TL.round ?_
    refine T.seq ?_
    refine T.seq ?_
    refine T.rL ?_
    refine mv rfl rfl rfl rfl rfl ?_
    refine mv rfl rfl rfl rfl rfl ?_
    refine sp rfl (OpT.lenAM (i := 0) (xs := y4_3_0) (f := (cI .i64)) rfl (dl rfl rfl) Tryd.underlying40 rfl rfl ?_)
    refine sp rfl (OpT.int2 rfl rfl (dl rfl rfl) rfl rfl ?_)
    refine TL'.nil (tN ?_)
    rcases bif_some h with ⟨c_167, h⟩ | ⟨c_167, h⟩
    · refine T.condT rfl c_167 ?_
      refine T.skip (tN ?_)
      refine T.seq ?_
      refine T.block ?_
      refine T.seq ?_
      refine T.rL ?_
      refine mv rfl rfl rfl rfl rfl ?_
      refine mv rfl rfl rfl rfl rfl ?_
      refine TL'.turn (Turn.view 50 0 rfl rfl) ?_
      obtain ⟨v_168, e_169, h⟩ := bind_some h
      refine sp rfl (OpT.indexSlM (xs := y4_3_0) (f := (cI .i64)) (v := v_168) rfl (dl rfl rfl) Tryd.underlying40 i3 rfl rfl e_169 ?_)
      refine sp rfl (OpT.loadRef rfl (dl rfl rfl) Tryd.underlying3 rfl rfl rfl ?_)
      refine mv rfl rfl rfl rfl rfl ?_
      refine sp rfl (OpT.int2 rfl rfl (dl rfl rfl) rfl rfl ?_)
      refine TL'.nil (tN ?_)
      rcases bif_some h with ⟨c_170, h⟩ | ⟨c_170, h⟩
      · refine T.condT rfl c_170 ?_
        refine T.seq ?_
        refine T.rL ?_
        refine asg rfl rfl rfl rfl rfl ?_
        refine TL'.nil (tN ?_)
        refine T.ret (inBlock_ret (thenS_ret (thenS_ret (inBlock_ret (thenS_ret ?_)))))
        exact Fin.done (.cons _ _ _ _ (.tmp 2 _ rfl) .nil) (by cases h; exact ⟨rfl, rfl⟩)
      · refine T.condF rfl c_170 ?_
        refine T.skip (inBlock_normal (tN ?_))
        refine T.rL ?_
        refine mv rfl rfl rfl rfl rfl ?_
        refine sp rfl (OpT.int2 rfl rfl (dl rfl rfl) rfl rfl ?_)
        refine asg rfl rfl rfl rfl rfl ?_
        refine TL'.nil (tN ?_)
        refine TL.by_turn ?_ (ih (IntKind.i64.wrap (x6_3_1 + (1 : Int))) y4_3_0 w4_3 h)
        exact Turn.rp (.cons rfl (.cons rfl (.nil _))) (.c .z (.n _))
    · refine T.condF rfl c_167 ?_
      refine T.exit (thenS_exit (thenS_exit (inBlock_exit (tN ?_))))
      refine T.seq ?_
      refine T.rL ?_
      refine asg rfl rfl rfl rfl rfl ?_
      refine TL'.nil (tN ?_)
      refine T.ret ?_
      exact Fin.done (.cons _ _ _ _ (.tmp 2 _ rfl) .nil) (by cases h; exact ⟨rfl, rfl⟩)
theorem r4_Right_l1_T {r : Bool} (K : Nat) : ∀ (k : Nat), ∀ (x0 : List aNd) (x3_1_1 : Int) (flx0 : Bool), r4_Right_l1 K k x0 x3_1_1 = some r → TL Tryd.prog 56 (Code.at [1, 1, 0, 1, 0, 0] (codeOf Tryd.f23)) ⟨[(0, .sl flx0 9 (x0.map c_aNd)), (3, .int .i64 x3_1_1)], []⟩ (r4_Right_qb0x111 r) := by
  intro k
  induction k with
  | zero =>
    intro x0 x3_1_1 flx0 h
    cases (show (none : Option Bool) = some r from h)
  | succ k ih =>
    intro x0 x3_1_1 flx0 h
    rw [r4_Right_l1] at h
    refine TL.round ?_
    refine T.seq ?_
    refine T.seq ?_
    refine T.rL ?_
    refine mv rfl rfl rfl rfl rfl ?_
    refine mv rfl rfl rfl rfl rfl ?_
    refine sp rfl (OpT.lenSlM (xs := x0) (f := c_aNd) rfl (dl rfl rfl) Tryd.underlying22 rfl ?_)
    refine sp rfl (OpT.int2 rfl rfl (dl rfl rfl) rfl rfl ?_)
    refine TL'.nil (tN ?_)
    rcases bif_some h with ⟨c_156, h⟩ | ⟨c_156, h⟩
    · refine T.condT rfl c_156 ?_
      refine T.skip (tN ?_)
      refine T.seq ?_
      refine T.block ?_
      refine T.seq ?_
      refine T.rL ?_
      refine mv rfl rfl rfl rfl rfl ?_
      refine mv rfl rfl rfl rfl rfl ?_
      obtain ⟨v_157, e_158, h⟩ := bind_some h
      refine sp rfl (OpT.indexSlM (xs := x0) (f := c_aNd) (v := v_157) rfl (dl rfl rfl) Tryd.underlying22 i42 rfl rfl e_158 ?_)
      refine sp rfl (OpT.loadRefAgg rfl (dl rfl rfl) Tryd.underlying42 rfl i42 rfl (Nat.le_of_ble_eq_true rfl) ?_)
      obtain ⟨v_159, e_160, h⟩ := bind_some h
      refine sp rfl (OpT.callPA rfl (dl rfl rfl) Tryd.func44 rfl rfl (Args.cons rfl Args.nil) (CallR.nil (r4_shape_T K e_160)) ?_)
      refine sp rfl (OpT.not rfl (dl rfl rfl) rfl ?_)
      refine TL'.nil (tN ?_)
      rcases bif_some h with ⟨c_161, h⟩ | ⟨c_161, h⟩
      · refine T.condT rfl c_161 ?_
        refine T.seq ?_
        refine T.rL ?_
        refine asg rfl rfl rfl rfl rfl ?_
        refine TL'.nil (tN ?_)
        refine T.ret (inBlock_ret (thenS_ret (thenS_ret (inBlock_ret (thenS_ret ?_)))))
        exact Fin.done (.cons _ _ _ _ (.tmp 2 _ rfl) .nil) (by cases h; exact ⟨rfl, rfl⟩)
      · refine T.condF rfl c_161 ?_
        refine T.skip (inBlock_normal (tN ?_))
        refine T.rL ?_
        refine mv rfl rfl rfl rfl rfl ?_
        refine sp rfl (OpT.int2 rfl rfl (dl rfl rfl) rfl rfl ?_)
        refine asg rfl rfl rfl rfl rfl ?_
        refine TL'.nil (tN ?_)
        refine TL.by_turn ?_ (ih x0 (IntKind.i64.wrap (x3_1_1 + (1 : Int))) flx0 h)
        exact Turn.rp (.cons rfl (.cons rfl (.nil _))) (.n _)
    · refine T.condF rfl c_156 ?_
      refine T.exit (thenS_exit (thenS_exit (inBlock_exit (tN ?_))))
      refine T.seq ?_
      refine T.rL ?_
      refine mv rfl rfl rfl rfl rfl ?_
      refine mv rfl rfl rfl rfl rfl ?_
      refine sp rfl (OpT.lenSlM (xs := x0) (f := c_aNd) rfl (dl rfl rfl) Tryd.underlying22 rfl ?_)
      refine sp rfl (OpT.int2 rfl rfl (dl rfl rfl) rfl rfl ?_)
      refine TL'.turn (Turn.nilA 3 1) ?_
      obtain ⟨v_162, e_163, h⟩ := bind_some h
      refine sp rfl (OpT.callG (is := [0]) (ph := []) rfl (dl rfl rfl) Tryd.func45 rfl rfl (Args.cons rfl (Args.cons rfl (Args.cons rfl Args.nil))) (r4_walk_T K (flx0 := flx0) (wx2 := (nilv 10)) e_163) (.cons rfl rfl (.nil)) (fun _ => rfl) (fun γ_164 => ?_))
      refine nm (.c (.n)) ?_
      refine mv rfl rfl rfl rfl rfl ?_
      refine sp rfl (OpT.extract rfl (dl rfl rfl) rfl rfl ?_)
      refine sp rfl (OpT.extract rfl (dl rfl rfl) rfl rfl ?_)
      refine asg rfl rfl rfl rfl rfl ?_
      refine asg rfl rfl rfl rfl rfl ?_
      refine TL'.nil (tN ?_)
      refine T.seq ?_
      refine T.seq ?_
      refine T.rL ?_
      refine mv rfl rfl rfl rfl rfl ?_
      refine sp rfl (OpT.not rfl (dl rfl rfl) rfl ?_)
      refine mv rfl rfl rfl rfl rfl ?_
      rcases bif_some h with ⟨c_165, h⟩ | ⟨c_165, h⟩
      · refine TL'.passU (.off _ _ _ _ rfl rfl rfl c_165) (dl rfl rfl) ?_
        refine TL'.passU (.off _ _ _ _ rfl rfl rfl c_165) (dl rfl rfl) ?_
        refine TL'.passU (.off _ _ _ _ rfl rfl rfl c_165) (dl rfl rfl) ?_
        refine TL'.passU (.off _ _ _ _ rfl rfl rfl c_165) (dl rfl rfl) ?_
        refine TL'.passU (.off _ _ _ _ rfl rfl rfl c_165) (dl rfl rfl) ?_
        refine sp rfl (OpT.pickT rfl (dl rfl rfl) rfl c_165 rfl ?_)
        refine TL'.nil (tN ?_)
        refine T.condT rfl rfl ?_
        refine T.by_turn ?_ (r4_Right_j2_T K h)
        exact Turn.rp (.nil _) (.n _)
      · refine TL'.step (.on rfl rfl rfl c_165) (OpT.move rfl (dl rfl rfl) rfl ?_)
        refine TL'.step (.on rfl rfl rfl c_165) (OpT.lenAM (i := 0) (xs := v_162.1) (f := (cI .i64)) rfl (dl rfl rfl) Tryd.underlying40 rfl rfl ?_)
        refine TL'.step (.on rfl rfl rfl c_165) (OpT.move rfl (dl rfl rfl) rfl ?_)
        refine TL'.step (.on rfl rfl rfl c_165) (OpT.lenSlM (xs := x0) (f := c_aNd) rfl (dl rfl rfl) Tryd.underlying22 rfl ?_)
        refine TL'.step (.on rfl rfl rfl c_165) (OpT.int2 rfl rfl (dl rfl rfl) rfl rfl ?_)
        refine sp rfl (OpT.pickF rfl (dl rfl rfl) rfl c_165 rfl ?_)
        refine TL'.nil (tN ?_)
        rcases bif_some h with ⟨c_166, h⟩ | ⟨c_166, h⟩
        · refine T.condT rfl c_166 ?_
          refine T.by_turn ?_ (r4_Right_j2_T K h)
          exact Turn.rp (.nil _) (.n _)
        · refine T.condF rfl c_166 ?_
          refine T.skip (tN ?_)
          refine T.seq ?_
          refine T.seq ?_
          refine T.rL ?_
          refine asg rfl rfl rfl rfl rfl ?_
          refine TL'.nil (tN ?_)
          refine T.block ?_
          refine T.loop ?_
          refine TL.by_turn ?_ (r4_Right_l3_T K K (0 : Int) v_162.1 (γ_164 0) h)
          exact Turn.rp (.cons rfl (.cons rfl (.nil _))) (.c .z (.n _))
theorem r4_Right_T (K : Nat) {x0 : List aNd} {flx0 : Bool} {r : Bool} (h : r4_Right K x0 = some r) : CallR Tryd.prog 23 [.sl flx0 9 (x0.map c_aNd)] [] (.bool r) := by
 refine CallT.intro Tryd.func23 rfl (nb rfl) ?_
 show T Tryd.prog 56 (Code.at [] (codeOf Tryd.f23)) ⟨paramSlots 0 [.sl flx0 9 (x0.map c_aNd)], []⟩ (r4_Right_q r)
 unfold r4_Right at h
 refine T.seq ?_
 refine T.rL ?_
 refine aw rfl ?_
 refine TL'.nil (tN ?_)
 refine T.seq ?_
 refine T.seq ?_
 refine T.rL ?_
 refine mw rfl ?_
 refine sp rfl (OpT.lenSlM (xs := x0) (f := c_aNd) rfl (dk rfl) ul22 rfl ?_)
 refine sp rfl (OpT.int2 rfl rfl (dk rfl) rfl rfl ?_)
 refine mw rfl ?_
 rcases bif_some h with ⟨c_154, h⟩ | ⟨c_154, h⟩
 refine TL'.passU (.off _ _ _ _ rfl rfl rfl c_154) (dk rfl) ?_
 refine TL'.passU (.off _ _ _ _ rfl rfl rfl c_154) (dk rfl) ?_
 refine TL'.passU (.off _ _ _ _ rfl rfl rfl c_154) (dk rfl) ?_
 refine sp rfl (OpT.pickT rfl (dk rfl) rfl c_154 rfl ?_)
 refine TL'.nil (tN ?_)
 refine T.condT rfl rfl ?_
 refine T.by_turn ?_ (r4_Right_j0_T K h)
 exact Turn.rp (.nil _) (.n _)
 refine TL'.step (.on rfl rfl rfl c_154) (OpT.move rfl (dk rfl) rfl ?_)
 refine TL'.step (.on rfl rfl rfl c_154) (OpT.lenSlM (xs := x0) (f := c_aNd) rfl (dk rfl) ul22 rfl ?_)
 refine TL'.step (.on rfl rfl rfl c_154) (OpT.int2 rfl rfl (dk rfl) rfl rfl ?_)
 refine sp rfl (OpT.pickF rfl (dk rfl) rfl c_154 rfl ?_)
 refine TL'.nil (tN ?_)
 rcases bif_some h with ⟨c_155, h⟩ | ⟨c_155, h⟩
 refine T.condT rfl c_155 ?_
 refine T.by_turn ?_ (r4_Right_j0_T K h)
 exact Turn.rp (.nil _) (.n _)
 refine T.condF rfl c_155 ?_
 refine T.skip (tN ?_)
 refine T.seq ?_
 refine T.seq ?_
 refine T.rL ?_
 refine aw rfl ?_
 refine TL'.nil (tN ?_)
 refine T.block ?_
 refine T.loop ?_
 refine TL.by_turn ?_ (r4_Right_l1_T K K x0 (0 : Int) flx0 h)
 exact Turn.rp (.cons rfl (.cons rfl (.nil _))) (.n _)
abbrev r5_kid_q (r : ByteArray) : Exit → St → Prop := retS Tryd.prog Tryd.f46 (fun y t => y = (.str r) ∧ t = [])
abbrev r5_kid_qs11111 (r : ByteArray) : Exit → St → Prop := thenS (fun s' => T Tryd.prog 55 (Code.at [1, 1, 1, 1, 1] (codeOf Tryd.f46)) s' ((r5_kid_q r))) ((r5_kid_q r))
theorem r5_kid_j1_T {r : ByteArray} (K : Nat) (rec_r5_node : (List aNd) → Int → Option ByteArray) (hrec_r5_node : r5_node_S rec_r5_node) (x8_0_1 : ByteArray) (h : r5_kid_j1 K rec_r5_node x8_0_1 = some r) : T Tryd.prog 55 (Code.at [1, 1, 1, 1, 0, 1, 0] (codeOf Tryd.f46)) ⟨[(8, .str x8_0_1)], []⟩ (r5_kid_qs11111 r) := by
 unfold r5_kid_j1 at h
 refine T.seq ?_
 refine T.rL ?_
 refine mw rfl ?_
 obtain ⟨g_87, h⟩ := ck_some h
 refine sp rfl (OpT.str_add rfl (dk rfl) rfl rfl g_87 ?_)
 obtain ⟨g_88, h⟩ := ck_some h
 refine sp rfl (OpT.str_add rfl (dk rfl) rfl rfl g_88 ?_)
 refine aw rfl ?_
 refine TL'.nil (tN ?_)
 refine T.ret (thenS_ret ?_)
 exact Fin.done (.cons _ _ _ _ (.tmp 6 _ rfl) .nil) (by cases h; exact ⟨rfl, rfl⟩)
theorem r5_kid_j0_T {r : ByteArray} (K : Nat) (rec_r5_node : (List aNd) → Int → Option ByteArray) (hrec_r5_node : r5_node_S rec_r5_node) (x7_0_0 : Int) (x8_0_1 : ByteArray) (x9_0_2 : Bool) (h : r5_kid_j0 K rec_r5_node x7_0_0 x8_0_1 x9_0_2 = some r) : T Tryd.prog 55 (Code.at [1, 1, 1, 1] (codeOf Tryd.f46)) ⟨[(7, .int .u8 x7_0_0), (8, .str x8_0_1), (9, .bool x9_0_2)], []⟩ (r5_kid_q r) := by
 unfold r5_kid_j0 at h
 refine T.seq ?_
 refine T.seq ?_
 refine T.rL ?_
 refine mw rfl ?_
 refine sp rfl (OpT.not rfl (dk rfl) rfl ?_)
 refine mw rfl ?_
 rcases bif_some h with ⟨c_85, h⟩ | ⟨c_85, h⟩
 refine TL'.step (.on rfl rfl rfl c_85) (OpT.move rfl (dk rfl) rfl ?_)
 refine TL'.step (.on rfl rfl rfl c_85) (OpT.int2 rfl rfl (dk rfl) rfl rfl ?_)
 refine TL'.step (.on rfl rfl rfl c_85) (OpT.move rfl (dk rfl) rfl ?_)
 rcases bif_some h with ⟨c_86, h⟩ | ⟨c_86, h⟩
 refine TL'.passU (.off _ _ _ _ rfl rfl rfl c_86) (dk rfl) ?_
 refine TL'.passU (.off _ _ _ _ rfl rfl rfl c_86) (dk rfl) ?_
 refine TL'.step (.on rfl rfl rfl c_85) (OpT.pickT rfl (dk rfl) rfl c_86 rfl ?_)
 refine TL'.step (.on rfl rfl rfl c_85) (OpT.move rfl (dk rfl) rfl ?_)
 refine TL'.passU (.off _ _ _ _ rfl rfl rfl rfl) (dk rfl) ?_
 refine TL'.passU (.off _ _ _ _ rfl rfl rfl rfl) (dk rfl) ?_
 refine TL'.step (.on rfl rfl rfl c_85) (OpT.pickT rfl (dk rfl) rfl rfl rfl ?_)
 refine sp rfl (OpT.pickT rfl (dk rfl) rfl c_85 rfl ?_)
 refine TL'.nil (tN ?_)
 refine T.condT rfl rfl ?_
 refine T.by_turn ?_ (r5_kid_j1_T K rec_r5_node hrec_r5_node x8_0_1 h)
 exact Turn.rp (.cons rfl (.nil _)) (.n _)
 refine TL'.step (.on rfl rfl rfl c_86) (OpT.move rfl (dk rfl) rfl ?_)
 refine TL'.step (.on rfl rfl rfl c_86) (OpT.int2 rfl rfl (dk rfl) rfl rfl ?_)
 refine TL'.step (.on rfl rfl rfl c_85) (OpT.pickF rfl (dk rfl) rfl c_86 rfl ?_)
 refine TL'.step (.on rfl rfl rfl c_85) (OpT.move rfl (dk rfl) rfl ?_)
 rcases bif_some h with ⟨c_89, h⟩ | ⟨c_89, h⟩
 refine TL'.passU (.off _ _ _ _ rfl rfl rfl c_89) (dk rfl) ?_
 refine TL'.passU (.off _ _ _ _ rfl rfl rfl c_89) (dk rfl) ?_
 refine TL'.step (.on rfl rfl rfl c_85) (OpT.pickT rfl (dk rfl) rfl c_89 rfl ?_)
 refine sp rfl (OpT.pickT rfl (dk rfl) rfl c_85 rfl ?_)
 refine TL'.nil (tN ?_)
 refine T.condT rfl rfl ?_
 refine T.by_turn ?_ (r5_kid_j1_T K rec_r5_node hrec_r5_node x8_0_1 h)
 exact Turn.rp (.cons rfl (.nil _)) (.n _)
 refine TL'.step (.on rfl rfl rfl c_89) (OpT.move rfl (dk rfl) rfl ?_)
 refine TL'.step (.on rfl rfl rfl c_89) (OpT.int2 rfl rfl (dk rfl) rfl rfl ?_)
 refine TL'.step (.on rfl rfl rfl c_85) (OpT.pickF rfl (dk rfl) rfl c_89 rfl ?_)
 refine sp rfl (OpT.pickT rfl (dk rfl) rfl c_85 rfl ?_)
 refine TL'.nil (tN ?_)
 rcases bif_some h with ⟨c_90, h⟩ | ⟨c_90, h⟩
 refine T.condT rfl c_90 ?_
 refine T.by_turn ?_ (r5_kid_j1_T K rec_r5_node hrec_r5_node x8_0_1 h)
 exact Turn.rp (.cons rfl (.nil _)) (.n _)
 refine T.condF rfl c_90 ?_
 refine T.skip (tN ?_)
 refine T.seq ?_
 refine T.rL ?_
 refine mw rfl ?_
 refine aw rfl ?_
 refine TL'.nil (tN ?_)
 refine T.ret ?_
 exact Fin.done (.cons _ _ _ _ (.tmp 6 _ rfl) .nil) (by cases h; exact ⟨rfl, rfl⟩)
 refine TL'.passU (.off _ _ _ _ rfl rfl rfl c_85) (dk rfl) ?_
 refine TL'.passU (.off _ _ _ _ rfl rfl rfl c_85) (dk rfl) ?_
 refine TL'.passU (.off _ _ _ _ rfl rfl rfl c_85) (dk rfl) ?_
 refine TL'.passU (.gone _ _ _ rfl rfl rfl) (dk rfl) ?_
 refine TL'.passU (.gone _ _ _ rfl rfl rfl) (dk rfl) ?_
 refine TL'.passU (.off _ _ _ _ rfl rfl rfl c_85) (dk rfl) ?_
 refine TL'.passU (.off _ _ _ _ rfl rfl rfl c_85) (dk rfl) ?_
 refine TL'.passU (.gone _ _ _ rfl rfl rfl) (dk rfl) ?_
 refine TL'.passU (.gone _ _ _ rfl rfl rfl) (dk rfl) ?_
 refine TL'.passU (.off _ _ _ _ rfl rfl rfl c_85) (dk rfl) ?_
 refine sp rfl (OpT.pickF rfl (dk rfl) rfl c_85 rfl ?_)
 refine TL'.nil (tN ?_)
 refine T.condF rfl rfl ?_
 refine T.skip (tN ?_)
 refine T.seq ?_
 refine T.rL ?_
 refine mw rfl ?_
 refine aw rfl ?_
 refine TL'.nil (tN ?_)
 refine T.ret ?_
 exact Fin.done (.cons _ _ _ _ (.tmp 6 _ rfl) .nil) (by cases h; exact ⟨rfl, rfl⟩)
theorem r5_kid_T (K : Nat) (rec_r5_node : (List aNd) → Int → Option ByteArray) (hrec_r5_node : r5_node_S rec_r5_node) {x0 : List aNd} {x1 : aNd} {x2 : Int} {flx0 : Bool} {r : ByteArray} (h : r5_kid K rec_r5_node x0 x1 x2 = some r) : CallR Tryd.prog 46 [.sl flx0 9 (x0.map c_aNd), .agg [.int .u8 x1.Op, .int .u64 x1.S.a0, .int .u64 x1.S.a1, .int .u64 x1.S.a2, .int .u64 x1.S.a3, .sl false 1 (x1.L.map (cI .i64)), .int .i64 x1.Lo, .int .i64 x1.Hi, .str x1.Name], .int .i64 x2] [] (.str r) := by
 refine CallT.intro Tryd.func46 rfl (nb rfl) ?_
 show T Tryd.prog 55 (Code.at [] (codeOf Tryd.f46)) ⟨paramSlots 0 [.sl flx0 9 (x0.map c_aNd), .agg [.int .u8 x1.Op, .int .u64 x1.S.a0, .int .u64 x1.S.a1, .int .u64 x1.S.a2, .int .u64 x1.S.a3, .sl false 1 (x1.L.map (cI .i64)), .int .i64 x1.Lo, .int .i64 x1.Hi, .str x1.Name], .int .i64 x2], []⟩ (r5_kid_q r)
 unfold r5_kid at h
 refine T.seq ?_
 refine T.rL ?_
 refine sp rfl (OpT.boxAgg rfl (dk rfl) rfl (fun b_76 => ?_))
 refine aw rfl ?_
 refine TL'.nil (tN ?_)
 refine T.seq ?_
 refine T.rL ?_
 refine mw rfl ?_
 refine sp rfl (OpT.fieldPtr rfl (dk rfl) ul42 rfl i40 (by decide) rfl ?_)
 refine sp rfl (OpT.loadBox (i := 0) rfl (dk rfl) ul40 rfl rfl rfl rfl ?_)
 refine mw rfl ?_
 obtain ⟨v_77, e_78, h⟩ := bind_some h
 refine sp rfl (OpT.indexSlM (xs := x1.L) (f := (cI .i64)) (v := v_77) rfl (dk rfl) ul40 i3 rfl rfl e_78 ?_)
 refine sp rfl (OpT.loadRef rfl (dk rfl) ul3 rfl rfl rfl ?_)
 obtain ⟨v_79, e_80, h⟩ := bind_some h
 refine sp rfl (OpT.indexSlM (xs := x0) (f := c_aNd) (v := v_79) rfl (dk rfl) ul22 i42 rfl rfl e_80 ?_)
 refine sp rfl (OpT.fieldRef rfl (dk rfl) ul42 rfl i5 (by decide) rfl ?_)
 refine sp rfl (OpT.loadRef rfl (dk rfl) ul5 rfl rfl rfl ?_)
 refine aw rfl ?_
 refine TL'.nil (tN ?_)
 refine T.seq ?_
 refine T.rL ?_
 refine mw rfl ?_
 refine sp rfl (OpT.fieldPtr rfl (dk rfl) ul42 rfl i40 (by decide) rfl ?_)
 refine sp rfl (OpT.loadBox (i := 0) rfl (dk rfl) ul40 rfl rfl rfl rfl ?_)
 refine mw rfl ?_
 refine sp rfl (OpT.indexSlM (xs := x1.L) (f := (cI .i64)) (v := v_77) rfl (dk rfl) ul40 i3 rfl rfl e_78 ?_)
 refine sp rfl (OpT.loadRef rfl (dk rfl) ul3 rfl rfl rfl ?_)
 obtain ⟨v_81, e_82, h⟩ := bind_some h
 refine sp rfl (OpT.callPA rfl (dk rfl) Tryd.func24 rfl rfl (Args.cons rfl (Args.cons rfl Args.nil)) (CallR.nil (hrec_r5_node x0 v_77 flx0 _ e_82)) ?_)
 refine aw rfl ?_
 refine TL'.nil (tN ?_)
 refine T.seq ?_
 refine T.rL ?_
 refine sp rfl (OpT.fieldPtr rfl (dk rfl) ul42 rfl i5 (by decide) rfl ?_)
 refine sp rfl (OpT.loadBox (i := 0) rfl (dk rfl) ul5 rfl rfl rfl rfl ?_)
 refine sp rfl (OpT.int2 rfl rfl (dk rfl) rfl rfl ?_)
 refine mw rfl ?_
 rcases bif_some h with ⟨c_83, h⟩ | ⟨c_83, h⟩
 refine TL'.step (.on rfl rfl rfl c_83) (OpT.move rfl (dk rfl) rfl ?_)
 refine TL'.step (.on rfl rfl rfl c_83) (OpT.int2 rfl rfl (dk rfl) rfl rfl ?_)
 refine TL'.step (.on rfl rfl rfl c_83) (OpT.move rfl (dk rfl) rfl ?_)
 rcases bif_some h with ⟨c_84, h⟩ | ⟨c_84, h⟩
 refine TL'.passU (.off _ _ _ _ rfl rfl rfl c_84) (dk rfl) ?_
 refine TL'.passU (.off _ _ _ _ rfl rfl rfl c_84) (dk rfl) ?_
 refine TL'.step (.on rfl rfl rfl c_83) (OpT.pickT rfl (dk rfl) rfl c_84 rfl ?_)
 refine sp rfl (OpT.pickT rfl (dk rfl) rfl c_83 rfl ?_)
 refine aw rfl ?_
 refine TL'.nil (tN ?_)
 refine T.by_turn ?_ (r5_kid_j0_T K rec_r5_node hrec_r5_node v_79.Op v_81 true h)
 exact Turn.rp (.cons rfl (.cons rfl (.cons rfl (.nil _)))) (.n _)
 refine TL'.step (.on rfl rfl rfl c_84) (OpT.move rfl (dk rfl) rfl ?_)
 refine TL'.step (.on rfl rfl rfl c_84) (OpT.int2 rfl rfl (dk rfl) rfl rfl ?_)
 refine TL'.step (.on rfl rfl rfl c_83) (OpT.pickF rfl (dk rfl) rfl c_84 rfl ?_)
 refine sp rfl (OpT.pickT rfl (dk rfl) rfl c_83 rfl ?_)
 refine aw rfl ?_
 refine TL'.nil (tN ?_)
 refine T.by_turn ?_ (r5_kid_j0_T K rec_r5_node hrec_r5_node v_79.Op v_81 (v_79.Op == (3 : Int)) h)
 exact Turn.rp (.cons rfl (.cons rfl (.cons rfl (.nil _)))) (.n _)
 refine TL'.passU (.off _ _ _ _ rfl rfl rfl c_83) (dk rfl) ?_
 refine TL'.passU (.off _ _ _ _ rfl rfl rfl c_83) (dk rfl) ?_
 refine TL'.passU (.off _ _ _ _ rfl rfl rfl c_83) (dk rfl) ?_
 refine TL'.passU (.gone _ _ _ rfl rfl rfl) (dk rfl) ?_
 refine TL'.passU (.gone _ _ _ rfl rfl rfl) (dk rfl) ?_
 refine TL'.passU (.off _ _ _ _ rfl rfl rfl c_83) (dk rfl) ?_
 refine sp rfl (OpT.pickF rfl (dk rfl) rfl c_83 rfl ?_)
 refine aw rfl ?_
 refine TL'.nil (tN ?_)
 refine T.by_turn ?_ (r5_kid_j0_T K rec_r5_node hrec_r5_node v_79.Op v_81 false h)
 exact Turn.rp (.cons rfl (.cons rfl (.cons rfl (.nil _)))) (.n _)
abbrev r5_digits_q (r : ByteArray) : Exit → St → Prop := retS Tryd.prog Tryd.f63 (fun y t => y = (.str r) ∧ t = [])
theorem r5_digits_b_T (K : Nat) (rec_r5_digits : Int → Option ByteArray) (hrec_r5_digits : r5_digits_S rec_r5_digits) {x0 : Int} {r : ByteArray} (h : r5_digits_b K rec_r5_digits x0 = some r) : CallR Tryd.prog 63 [.int .i64 x0] [] (.str r) := by
 refine CallT.intro Tryd.func63 rfl (nb rfl) ?_
 show T Tryd.prog 17 (Code.at [] (codeOf Tryd.f63)) ⟨paramSlots 0 [.int .i64 x0], []⟩ (r5_digits_q r)
 unfold r5_digits_b at h
 refine T.seq ?_
 refine T.rL ?_
 refine aw rfl ?_
 refine TL'.nil (tN ?_)
 refine T.seq ?_
 refine T.seq ?_
 refine T.rL ?_
 refine mw rfl ?_
 refine sp rfl (OpT.int2 rfl rfl (dk rfl) rfl rfl ?_)
 refine TL'.nil (tN ?_)
 rcases bif_some h with ⟨c_25, h⟩ | ⟨c_25, h⟩
 refine T.condT rfl c_25 ?_
 refine T.seq ?_
 refine T.rL ?_
 refine mw rfl ?_
 refine sp rfl (OpT.quo rfl (dk rfl) rfl rfl (by decide) ?_)
 obtain ⟨v_26, e_27, h⟩ := bind_some h
 refine sp rfl (OpT.callPA rfl (dk rfl) Tryd.func63 rfl rfl (Args.cons rfl Args.nil) (CallR.nil (hrec_r5_digits (IntKind.i64.wrap (Int.tdiv x0 (10 : Int))) _ e_27)) ?_)
 refine mw rfl ?_
 refine sp rfl (OpT.rem rfl (dk rfl) rfl rfl (by decide) ?_)
 obtain ⟨v_28, e_29, h⟩ := bind_some h
 refine sp rfl (OpT.callPA rfl (dk rfl) Tryd.func63 rfl rfl (Args.cons rfl Args.nil) (CallR.nil (hrec_r5_digits (Int.tmod x0 (10 : Int)) _ e_29)) ?_)
 obtain ⟨g_30, h⟩ := ck_some h
 refine sp rfl (OpT.str_add rfl (dk rfl) rfl rfl g_30 ?_)
 refine aw rfl ?_
 refine TL'.nil (tN ?_)
 refine T.ret (thenS_ret ?_)
 exact Fin.done (.cons _ _ _ _ (.tmp 2 _ rfl) .nil) (by cases h; exact ⟨rfl, rfl⟩)
 refine T.condF rfl c_25 ?_
 refine T.skip (tN ?_)
 refine T.seq ?_
 refine T.rL ?_
 refine mw rfl ?_
 refine sp rfl (OpT.int2 rfl rfl (dk rfl) rfl rfl ?_)
 refine sp rfl (OpT.convInt rfl (dk rfl) ul3 ul5 rfl ?_)
 refine sp rfl (OpT.buildSlice (elems := ([(IntKind.u8.wrap (IntKind.i64.wrap ((48 : Int) + x0)))] : List Int).map (cI .u8)) rfl (dk rfl) ul32 i5 (by decide) rfl (all1 rfl) rfl rfl rfl (lenAll rfl) (by decide) ?_)
 refine sp rfl (OpT.convBytes (xs := [(IntKind.u8.wrap (IntKind.i64.wrap ((48 : Int) + x0)))]) rfl (dk rfl) ul32 ul5 ul9 rfl ?_)
 refine aw rfl ?_
 refine TL'.nil (tN ?_)
 refine T.ret ?_
 exact Fin.done (.cons _ _ _ _ (.tmp 2 _ rfl) .nil) (by cases h; exact ⟨rfl, rfl⟩)
theorem r5_digits_r_T (K : Nat) : ∀ n, r5_digits_S (r5_digits_r K n) := by
  intro n
  induction n with
  | zero =>
    intro x0 r h
    cases (show (none : Option ByteArray) = some r from h)
  | succ n ih =>
    intro x0 r h
    exact r5_digits_b_T K (r5_digits_r K n) ih h
theorem r5_digits_T (K : Nat) {x0 : Int} {r : ByteArray} (h : r5_digits K x0 = some r) : CallR Tryd.prog 63 [.int .i64 x0] [] (.str r) := r5_digits_r_T K K x0 r h
abbrev r5_times_q (r : ByteArray) : Exit → St → Prop := retS Tryd.prog Tryd.f47 (fun y t => y = (.str r) ∧ t = [])
abbrev r5_times_qs11 (r : ByteArray) : Exit → St → Prop := thenS (fun s' => T Tryd.prog 49 (Code.at [1, 1] (codeOf Tryd.f47)) s' ((r5_times_q r))) ((r5_times_q r))
abbrev r5_times_qb0x11 (r : ByteArray) : Exit → St → Prop := inBlockS 0 ((r5_times_qs11 r))
theorem r5_times_j2_T {r : ByteArray} (K : Nat) (x0 : Int) (x1 : Int) (h : r5_times_j2 K x0 x1 = some r) : T Tryd.prog 49 (Code.at [1, 0, 0, 1, 1, 1, 1, 1, 1] (codeOf Tryd.f47)) ⟨[(0, .int .i64 x0), (1, .int .i64 x1)], []⟩ (r5_times_qb0x11 r) := by
 unfold r5_times_j2 at h
 refine T.seq ?_
 refine T.rL ?_
 refine mw rfl ?_
 refine mw rfl ?_
 refine sp rfl (OpT.int2 rfl rfl (dk rfl) rfl rfl ?_)
 refine aw rfl ?_
 refine TL'.nil (tN ?_)
 rcases bif_some h with ⟨c_127, h⟩ | ⟨c_127, h⟩
 refine T.condT rfl c_127 ?_
 refine T.seq ?_
 refine T.rL ?_
 refine mw rfl ?_
 obtain ⟨v_128, e_129, h⟩ := bind_some h
 refine sp rfl (OpT.callPA rfl (dk rfl) Tryd.func63 rfl rfl (Args.cons rfl Args.nil) (CallR.nil (r5_digits_T K e_129)) ?_)
 obtain ⟨g_130, h⟩ := ck_some h
 refine sp rfl (OpT.str_add rfl (dk rfl) rfl rfl g_130 ?_)
 obtain ⟨g_131, h⟩ := ck_some h
 refine sp rfl (OpT.str_add rfl (dk rfl) rfl rfl g_131 ?_)
 refine aw rfl ?_
 refine TL'.nil (tN ?_)
 refine T.ret (inBlock_ret (thenS_ret ?_))
 exact Fin.done (.cons _ _ _ _ (.tmp 4 _ rfl) .nil) (by cases h; exact ⟨rfl, rfl⟩)
 refine T.condF rfl c_127 ?_
 refine T.seq ?_
 refine T.rL ?_
 refine mw rfl ?_
 refine sp rfl (OpT.int2 rfl rfl (dk rfl) rfl rfl ?_)
 refine aw rfl ?_
 refine TL'.nil (tN ?_)
 rcases bif_some h with ⟨c_132, h⟩ | ⟨c_132, h⟩
 refine T.condT rfl c_132 ?_
 refine T.seq ?_
 refine T.rL ?_
 refine mw rfl ?_
 obtain ⟨v_133, e_134, h⟩ := bind_some h
 refine sp rfl (OpT.callPA rfl (dk rfl) Tryd.func63 rfl rfl (Args.cons rfl Args.nil) (CallR.nil (r5_digits_T K e_134)) ?_)
 obtain ⟨g_135, h⟩ := ck_some h
 refine sp rfl (OpT.str_add rfl (dk rfl) rfl rfl g_135 ?_)
 obtain ⟨g_136, h⟩ := ck_some h
 refine sp rfl (OpT.str_add rfl (dk rfl) rfl rfl g_136 ?_)
 refine aw rfl ?_
 refine TL'.nil (tN ?_)
 refine T.ret (inBlock_ret (thenS_ret ?_))
 exact Fin.done (.cons _ _ _ _ (.tmp 4 _ rfl) .nil) (by cases h; exact ⟨rfl, rfl⟩)
 refine T.condF rfl c_132 ?_
 refine T.skip (inBlock_normal (tN ?_))
 refine T.seq ?_
 refine T.rL ?_
 refine mw rfl ?_
 obtain ⟨v_137, e_138, h⟩ := bind_some h
 refine sp rfl (OpT.callPA rfl (dk rfl) Tryd.func63 rfl rfl (Args.cons rfl Args.nil) (CallR.nil (r5_digits_T K e_138)) ?_)
 obtain ⟨g_139, h⟩ := ck_some h
 refine sp rfl (OpT.str_add rfl (dk rfl) rfl rfl g_139 ?_)
 obtain ⟨g_140, h⟩ := ck_some h
 refine sp rfl (OpT.str_add rfl (dk rfl) rfl rfl g_140 ?_)
 refine mw rfl ?_
 obtain ⟨v_141, e_142, h⟩ := bind_some h
 refine sp rfl (OpT.callPA rfl (dk rfl) Tryd.func63 rfl rfl (Args.cons rfl Args.nil) (CallR.nil (r5_digits_T K e_142)) ?_)
 obtain ⟨g_143, h⟩ := ck_some h
 refine sp rfl (OpT.str_add rfl (dk rfl) rfl rfl g_143 ?_)
 obtain ⟨g_144, h⟩ := ck_some h
 refine sp rfl (OpT.str_add rfl (dk rfl) rfl rfl g_144 ?_)
 refine aw rfl ?_
 refine TL'.nil (tN ?_)
 refine T.ret ?_
 exact Fin.done (.cons _ _ _ _ (.tmp 4 _ rfl) .nil) (by cases h; exact ⟨rfl, rfl⟩)
theorem r5_times_j1_T {r : ByteArray} (K : Nat) (x0 : Int) (x1 : Int) (h : r5_times_j1 K x0 x1 = some r) : T Tryd.prog 49 (Code.at [1, 0, 0, 1, 1, 1, 1] (codeOf Tryd.f47)) ⟨[(0, .int .i64 x0), (1, .int .i64 x1)], []⟩ (r5_times_qb0x11 r) := by
 unfold r5_times_j1 at h
 refine T.seq ?_
 refine T.rL ?_
 refine mw rfl ?_
 refine sp rfl (OpT.int2 rfl rfl (dk rfl) rfl rfl ?_)
 refine mw rfl ?_
 rcases bif_some h with ⟨c_125, h⟩ | ⟨c_125, h⟩
 refine TL'.step (.on rfl rfl rfl c_125) (OpT.move rfl (dk rfl) rfl ?_)
 refine TL'.step (.on rfl rfl rfl c_125) (OpT.int2 rfl rfl (dk rfl) rfl rfl ?_)
 refine sp rfl (OpT.pickT rfl (dk rfl) rfl c_125 rfl ?_)
 refine aw rfl ?_
 refine TL'.nil (tN ?_)
 rcases bif_some h with ⟨c_126, h⟩ | ⟨c_126, h⟩
 refine T.condT rfl c_126 ?_
 refine T.seq ?_
 refine T.rL ?_
 refine aw rfl ?_
 refine TL'.nil (tN ?_)
 refine T.ret (inBlock_ret (thenS_ret ?_))
 exact Fin.done (.cons _ _ _ _ (.tmp 4 _ rfl) .nil) (by cases h; exact ⟨rfl, rfl⟩)
 refine T.condF rfl c_126 ?_
 refine T.by_turn ?_ (r5_times_j2_T K x0 x1 h)
 exact Turn.rp (.cons rfl (.cons rfl (.nil _))) (.n _)
 refine TL'.passU (.off _ _ _ _ rfl rfl rfl c_125) (dk rfl) ?_
 refine TL'.passU (.off _ _ _ _ rfl rfl rfl c_125) (dk rfl) ?_
 refine sp rfl (OpT.pickF rfl (dk rfl) rfl c_125 rfl ?_)
 refine aw rfl ?_
 refine TL'.nil (tN ?_)
 refine T.condF rfl rfl ?_
 refine T.by_turn ?_ (r5_times_j2_T K x0 x1 h)
 exact Turn.rp (.cons rfl (.cons rfl (.nil _))) (.n _)
theorem r5_times_j0_T {r : ByteArray} (K : Nat) (x0 : Int) (x1 : Int) (h : r5_times_j0 K x0 x1 = some r) : T Tryd.prog 49 (Code.at [1, 0, 0, 1, 1] (codeOf Tryd.f47)) ⟨[(0, .int .i64 x0), (1, .int .i64 x1)], []⟩ (r5_times_qb0x11 r) := by
 unfold r5_times_j0 at h
 refine T.seq ?_
 refine T.rL ?_
 refine mw rfl ?_
 refine sp rfl (OpT.int2 rfl rfl (dk rfl) rfl rfl ?_)
 refine mw rfl ?_
 rcases bif_some h with ⟨c_123, h⟩ | ⟨c_123, h⟩
 refine TL'.step (.on rfl rfl rfl c_123) (OpT.move rfl (dk rfl) rfl ?_)
 refine TL'.step (.on rfl rfl rfl c_123) (OpT.int2 rfl rfl (dk rfl) rfl rfl ?_)
 refine sp rfl (OpT.pickT rfl (dk rfl) rfl c_123 rfl ?_)
 refine aw rfl ?_
 refine TL'.nil (tN ?_)
 rcases bif_some h with ⟨c_124, h⟩ | ⟨c_124, h⟩
 refine T.condT rfl c_124 ?_
 refine T.seq ?_
 refine T.rL ?_
 refine aw rfl ?_
 refine TL'.nil (tN ?_)
 refine T.ret (inBlock_ret (thenS_ret ?_))
 exact Fin.done (.cons _ _ _ _ (.tmp 4 _ rfl) .nil) (by cases h; exact ⟨rfl, rfl⟩)
 refine T.condF rfl c_124 ?_
 refine T.by_turn ?_ (r5_times_j1_T K x0 x1 h)
 exact Turn.rp (.cons rfl (.cons rfl (.nil _))) (.n _)
 refine TL'.passU (.off _ _ _ _ rfl rfl rfl c_123) (dk rfl) ?_
 refine TL'.passU (.off _ _ _ _ rfl rfl rfl c_123) (dk rfl) ?_
 refine sp rfl (OpT.pickF rfl (dk rfl) rfl c_123 rfl ?_)
 refine aw rfl ?_
 refine TL'.nil (tN ?_)
 refine T.condF rfl rfl ?_
 refine T.by_turn ?_ (r5_times_j1_T K x0 x1 h)
 exact Turn.rp (.cons rfl (.cons rfl (.nil _))) (.n _)
theorem r5_times_T (K : Nat) {x0 : Int} {x1 : Int} {r : ByteArray} (h : r5_times K x0 x1 = some r) : CallR Tryd.prog 47 [.int .i64 x0, .int .i64 x1] [] (.str r) := by
 refine CallT.intro Tryd.func47 rfl (nb rfl) ?_
 show T Tryd.prog 49 (Code.at [] (codeOf Tryd.f47)) ⟨paramSlots 0 [.int .i64 x0, .int .i64 x1], []⟩ (r5_times_q r)
 unfold r5_times at h
 refine T.seq ?_
 refine T.rL ?_
 refine aw rfl ?_
 refine TL'.nil (tN ?_)
 refine T.seq ?_
 refine T.block ?_
 refine T.seq ?_
 refine T.rL ?_
 refine mw rfl ?_
 refine sp rfl (OpT.int2 rfl rfl (dk rfl) rfl rfl ?_)
 refine mw rfl ?_
 rcases bif_some h with ⟨c_121, h⟩ | ⟨c_121, h⟩
 refine TL'.step (.on rfl rfl rfl c_121) (OpT.move rfl (dk rfl) rfl ?_)
 refine TL'.step (.on rfl rfl rfl c_121) (OpT.int2 rfl rfl (dk rfl) rfl rfl ?_)
 refine sp rfl (OpT.pickT rfl (dk rfl) rfl c_121 rfl ?_)
 refine aw rfl ?_
 refine TL'.nil (tN ?_)
 rcases bif_some h with ⟨c_122, h⟩ | ⟨c_122, h⟩
 refine T.condT rfl c_122 ?_
 refine T.seq ?_
 refine T.rL ?_
 refine aw rfl ?_
 refine TL'.nil (tN ?_)
 refine T.ret (inBlock_ret (thenS_ret ?_))
 exact Fin.done (.cons _ _ _ _ (.tmp 4 _ rfl) .nil) (by cases h; exact ⟨rfl, rfl⟩)
 refine T.condF rfl c_122 ?_
 refine T.by_turn ?_ (r5_times_j0_T K x0 x1 h)
 exact Turn.rp (.cons rfl (.cons rfl (.nil _))) (.n _)
 refine TL'.passU (.off _ _ _ _ rfl rfl rfl c_121) (dk rfl) ?_
 refine TL'.passU (.off _ _ _ _ rfl rfl rfl c_121) (dk rfl) ?_
 refine sp rfl (OpT.pickF rfl (dk rfl) rfl c_121 rfl ?_)
 refine aw rfl ?_
 refine TL'.nil (tN ?_)
 refine T.condF rfl rfl ?_
 refine T.by_turn ?_ (r5_times_j0_T K x0 x1 h)
 exact Turn.rp (.cons rfl (.cons rfl (.nil _))) (.n _)
abbrev r1_List_q (r : List Int) : Exit → St → Prop := retS Tryd.prog Tryd.f33 (fun y t => y = (.sl false 1 (r.map (cI .u8))) ∧ t = [])
abbrev r1_List_qs111 (r : List Int) : Exit → St → Prop := thenS (fun s' => T Tryd.prog 19 (Code.at [1, 1, 1] (codeOf Tryd.f33)) s' ((r1_List_q r))) ((r1_List_q r))
abbrev r1_List_qb0x111 (r : List Int) : Exit → St → Prop := inBlockS 0 ((r1_List_qs111 r))
theorem r1_List_l0_T {r : List Int} (K : Nat) : ∀ (k : Nat), ∀ (x4_0_2 : Int) (x0 : Arr4) (y3_0_1 : List Int) (b1_0 : Nat) (w3_0 : Value), r1_List_l0 K k x4_0_2 x0 y3_0_1 = some r → TL Tryd.prog 19 (Code.at [1, 1, 0, 1, 0, 0] (codeOf Tryd.f33)) ⟨[(1, .ptr b1_0 0), (3, .c (.ex w3_0)), (4, .int .i64 x4_0_2)], [.box b1_0 25 (Arr4.oc .u64 x0), .arrA w3_0 5 1 (y3_0_1.map (cI .u8))]⟩ (r1_List_qb0x111 r) := by
  intro k
  induction k with
  | zero =>
    intro x4_0_2 x0 y3_0_1 b1_0 w3_0 h
    cases (show (none : Option (List Int)) = some r from h)
  | succ k ih =>
    intro x4_0_2 x0 y3_0_1 b1_0 w3_0 h
    rw [r1_List_l0] at h
    refine TL.round ?_
    refine T.seq ?_
    refine T.seq ?_
    refine T.rL ?_
    refine mv rfl rfl rfl rfl rfl ?_
    refine sp rfl (OpT.int2 rfl rfl (dl rfl rfl) rfl rfl ?_)
    refine TL'.nil (tN ?_)
    rcases bif_some h with ⟨c_63, h⟩ | ⟨c_63, h⟩
    · refine T.condT rfl c_63 ?_
      refine T.skip (tN ?_)
      refine T.seq ?_
      refine T.block ?_
      refine T.seq ?_
      refine T.rL ?_
      refine sp rfl (OpT.loadBoxAgg (i := 0) (l := (Arr4.dc .u64 x0)) rfl (dl rfl rfl) Tryd.underlying25 rfl i25 rfl rfl rfl rfl ?_)
      refine mv rfl rfl rfl rfl rfl ?_
      refine sp rfl (OpT.convInt rfl (dl rfl rfl) Tryd.underlying3 Tryd.underlying5 rfl ?_)
      obtain ⟨v_64, e_65, h⟩ := bind_some h
      refine sp rfl (OpT.callPA rfl (dl rfl rfl) Tryd.func55 rfl rfl (Args.cons rfl (Args.cons rfl Args.nil)) (CallR.nil (r1_Has_T K e_65)) ?_)
      refine TL'.nil (tN ?_)
      rcases bif_some h with ⟨c_66, h⟩ | ⟨c_66, h⟩
      · refine T.condT rfl c_66 ?_
        refine T.rL ?_
        refine mv rfl rfl rfl rfl rfl ?_
        refine mv rfl rfl rfl rfl rfl ?_
        refine sp rfl (OpT.convInt rfl (dl rfl rfl) Tryd.underlying3 Tryd.underlying5 rfl ?_)
        refine sp rfl (OpT.buildSlice (elems := ([(IntKind.u8.wrap x4_0_2)] : List Int).map (cI .u8)) rfl (dl rfl rfl) Tryd.underlying32 i5 (by decide) rfl (all1 rfl) rfl rfl rfl (lenAll rfl) (by decide) ?_)
        obtain ⟨g_68, h⟩ := ck_some h
        refine sp rfl (OpT.appendAM (i := 1) (xs := y3_0_1) (ys := [(IntKind.u8.wrap x4_0_2)]) (f := (cI .u8)) rfl (dl rfl rfl) Tryd.underlying32 i5 rfl rfl rfl rfl g_68 (fun w_67 => ?_))
        refine asg rfl rfl rfl rfl rfl ?_
        refine TL'.nil (inBlock_normal (tN ?_))
        refine T.rL ?_
        refine mv rfl rfl rfl rfl rfl ?_
        refine sp rfl (OpT.int2 rfl rfl (dl rfl rfl) rfl rfl ?_)
        refine asg rfl rfl rfl rfl rfl ?_
        refine TL'.nil (tN ?_)
        refine TL.by_turn ?_ (ih (IntKind.i64.wrap (x4_0_2 + (1 : Int))) x0 (y3_0_1 ++ [(IntKind.u8.wrap x4_0_2)]) b1_0 w_67 h)
        exact Turn.rp (.cons rfl (.cons rfl (.cons rfl (.nil _)))) (.c .z (.c .z (.n _)))
      · refine T.condF rfl c_66 ?_
        refine T.skip (inBlock_normal (tN ?_))
        refine T.rL ?_
        refine mv rfl rfl rfl rfl rfl ?_
        refine sp rfl (OpT.int2 rfl rfl (dl rfl rfl) rfl rfl ?_)
        refine asg rfl rfl rfl rfl rfl ?_
        refine TL'.nil (tN ?_)
        refine TL.by_turn ?_ (ih (IntKind.i64.wrap (x4_0_2 + (1 : Int))) x0 y3_0_1 b1_0 w3_0 h)
        exact Turn.rp (.cons rfl (.cons rfl (.cons rfl (.nil _)))) (.c .z (.c .z (.n _)))
    · refine T.condF rfl c_63 ?_
      refine T.exit (thenS_exit (thenS_exit (inBlock_exit (tN ?_))))
      refine T.seq ?_
      refine T.rL ?_
      refine mv rfl rfl rfl rfl rfl ?_
      refine asg rfl rfl rfl rfl rfl ?_
      refine TL'.nil (tN ?_)
      refine T.ret ?_
      refine Fin.turn (Turn.view 2 1 rfl rfl) ?_
      exact Fin.done (.cons _ _ _ _ (.tmp 2 _ rfl) .nil) (by cases h; exact ⟨rfl, rfl⟩)
theorem r1_List_T (K : Nat) {x0 : Arr4} {r : List Int} (h : r1_List K x0 = some r) : CallR Tryd.prog 33 [.agg (Arr4.dc .u64 x0)] [] (.sl false 1 (r.map (cI .u8))) := by
 refine CallT.intro Tryd.func33 rfl (nb rfl) ?_
 show T Tryd.prog 19 (Code.at [] (codeOf Tryd.f33)) ⟨paramSlots 0 [.agg (Arr4.dc .u64 x0)], []⟩ (r1_List_q r)
 unfold r1_List at h
 refine T.seq ?_
 refine T.rL ?_
 refine sp rfl (OpT.boxAgg rfl (dk rfl) rfl (fun b_62 => ?_))
 refine aw rfl ?_
 refine TL'.nil (tN ?_)
 refine T.seq ?_
 refine T.rL ?_
 refine aw rfl ?_
 refine TL'.nil (tN ?_)
 refine T.seq ?_
 refine T.seq ?_
 refine T.rL ?_
 refine aw rfl ?_
 refine TL'.nil (tN ?_)
 refine T.block ?_
 refine T.loop ?_
 refine TL.by_turn (Turn.nilA 5 1) ?_
 refine TL.by_turn ?_ (r1_List_l0_T K K (0 : Int) x0 [] b_62 (nilv 2) h)
 exact Turn.rp (.cons rfl (.cons rfl (.cons rfl (.nil _)))) (.c (.s .z) (.c .z (.n _)))
abbrev r1_Spans_q (r : List Arr2) : Exit → St → Prop := retS Tryd.prog Tryd.f35 (fun y t => y = (.sl false 2 (r.map (Arr2.dc .u8))) ∧ t = [])
abbrev r1_Spans_qs1111 (r : List Arr2) : Exit → St → Prop := thenS (fun s' => T Tryd.prog 52 (Code.at [1, 1, 1, 1] (codeOf Tryd.f35)) s' ((r1_Spans_q r))) ((r1_Spans_q r))
abbrev r1_Spans_qb0x1111 (r : List Arr2) : Exit → St → Prop := inBlockS 0 ((r1_Spans_qs1111 r))
abbrev r1_Spans_ql111010 (r : List Arr2) : Exit → St → Prop := thenS (fun s' => TL Tryd.prog 52 (Code.at [1, 1, 1, 0, 1, 0, 0] (codeOf Tryd.f35)) s' ((r1_Spans_qb0x1111 r))) ((r1_Spans_qb0x1111 r))
abbrev r1_Spans_qs111010011 (r : List Arr2) : Exit → St → Prop := thenS (fun s' => T Tryd.prog 52 (Code.at [1, 1, 1, 0, 1, 0, 0, 1, 1] (codeOf Tryd.f35)) s' ((r1_Spans_ql111010 r))) ((r1_Spans_ql111010 r))
abbrev r1_Spans_qb1_0x111010011 (r : List Arr2) : Exit → St → Prop := inBlockS 1 ((r1_Spans_qs111010011 r))
abbrev r1_Spans_l0_H (r : List Arr2) (go : (List Int) → Int → (List Arr2) → Option (List Arr2)) : Prop := ∀ (x4_0_1 : List Int) (x5_0_2 : Int) (y3_0_0 : List Arr2) (w3_0 : Value), go x4_0_1 x5_0_2 y3_0_0 = some r → TL Tryd.prog 52 (Code.at [1, 1, 1, 0, 1, 0, 0] (codeOf Tryd.f35)) ⟨[(3, .c (.ex w3_0)), (4, .sl false 1 (x4_0_1.map (cI .u8))), (5, .int .i64 x5_0_2)], [.arrX w3_0 56 2 0 (y3_0_0.map (Arr2.dc .u8))]⟩ (r1_Spans_qb0x1111 r)
theorem r1_Spans_j1_T {r : List Arr2} (K : Nat) (go0 : (List Int) → Int → (List Arr2) → Option (List Arr2)) (hgo0 : r1_Spans_l0_H r go0) (x4_1_1 : List Int) (x5_1_2 : Int) (y3_1_0 : List Arr2) (w3_1 : Value) (h : r1_Spans_j1 K go0 x4_1_1 x5_1_2 y3_1_0 = some r) : T Tryd.prog 52 (Code.at [1, 1, 1, 0, 1, 0, 0, 1, 0, 0, 1, 1] (codeOf Tryd.f35)) ⟨[(3, .c (.ex w3_1)), (4, .sl false 1 (x4_1_1.map (cI .u8))), (5, .int .i64 x5_1_2)], [.arrX w3_1 56 2 0 (y3_1_0.map (Arr2.dc .u8))]⟩ (r1_Spans_qb1_0x111010011 r) := by
 unfold r1_Spans_j1 at h
 refine DGG.start ?_
 refine DGG.step (c := fun γ_218 => ⟨some 39, .c (.ex w3_1), [(3, .c (.ex w3_1))], [], []⟩) [] (fun _ _ _ => rfl) (fun γ_218 t hm => One.step rfl (.free rfl) (OpT.move rfl (dk rfl) hm.s0 ⟨(fun _ => undef, 0), rfl⟩)) (fun γ_218 => Ct.mo rfl rfl) ?_
 refine DGG.step (c := fun γ_218 => ⟨some 40, .sl false 1 (x4_1_1.map (cI .u8)), [(4, .sl false 1 (x4_1_1.map (cI .u8)))], [], []⟩) [] (fun _ _ _ => rfl) (fun γ_218 t hm => One.step rfl (.free rfl) (OpT.move rfl (dk rfl) hm.s0 ⟨(fun _ => undef, 0), rfl⟩)) (fun γ_218 => Ct.mo rfl rfl) ?_
 refine DGG.step (c := fun γ_218 => ⟨some 41, .int .i64 x5_1_2, [(5, .int .i64 x5_1_2)], [], []⟩) [] (fun _ _ _ => rfl) (fun γ_218 t hm => One.step rfl (.free rfl) (OpT.move rfl (dk rfl) hm.s0 ⟨(fun _ => undef, 0), rfl⟩)) (fun γ_218 => Ct.mo rfl rfl) ?_
 obtain ⟨v_222, e_223, h⟩ := bind_some h
 refine DGG.step (c := fun γ_218 => ⟨some 42, .ref [.int .u8 v_222], [(40, .sl false 1 (x4_1_1.map (cI .u8))), (41, .int .i64 x5_1_2)], [], []⟩) [] (fun _ _ _ => rfl) (fun γ_218 t hm => One.step rfl (.free rfl) (OpT.indexSlM (xs := x4_1_1) (f := (cI .u8)) (v := v_222) rfl (dk rfl) ul32 i5 hm.s0 hm.s1 e_223 ⟨(fun _ => undef, 0), rfl⟩)) (fun γ_218 => Ct.mo rfl rfl) ?_
 refine DGG.step (c := fun γ_218 => ⟨some 43, .int .u8 v_222, [(42, .ref [.int .u8 v_222])], [], []⟩) [] (fun _ _ _ => rfl) (fun γ_218 t hm => One.step rfl (.free rfl) (OpT.loadRef rfl (dk rfl) ul5 rfl hm.s0 rfl ⟨(fun _ => undef, 0), rfl⟩)) (fun γ_218 => Ct.mo rfl rfl) ?_
 refine DGG.step (c := fun γ_218 => ⟨some 44, .sl false 1 (x4_1_1.map (cI .u8)), [(4, .sl false 1 (x4_1_1.map (cI .u8)))], [], []⟩) [] (fun _ _ _ => rfl) (fun γ_218 t hm => One.step rfl (.free rfl) (OpT.move rfl (dk rfl) hm.s0 ⟨(fun _ => undef, 0), rfl⟩)) (fun γ_218 => Ct.mo rfl rfl) ?_
 refine DGG.step (c := fun γ_218 => ⟨some 45, .int .i64 x5_1_2, [(5, .int .i64 x5_1_2)], [], []⟩) [] (fun _ _ _ => rfl) (fun γ_218 t hm => One.step rfl (.free rfl) (OpT.move rfl (dk rfl) hm.s0 ⟨(fun _ => undef, 0), rfl⟩)) (fun γ_218 => Ct.mo rfl rfl) ?_
 refine DGG.step (c := fun γ_218 => ⟨some 46, .ref [.int .u8 v_222], [(44, .sl false 1 (x4_1_1.map (cI .u8))), (45, .int .i64 x5_1_2)], [], []⟩) [] (fun _ _ _ => rfl) (fun γ_218 t hm => One.step rfl (.free rfl) (OpT.indexSlM (xs := x4_1_1) (f := (cI .u8)) (v := v_222) rfl (dk rfl) ul32 i5 hm.s0 hm.s1 e_223 ⟨(fun _ => undef, 0), rfl⟩)) (fun γ_218 => Ct.mo rfl rfl) ?_
 refine DGG.step (c := fun γ_218 => ⟨some 47, .int .u8 v_222, [(46, .ref [.int .u8 v_222])], [], []⟩) [] (fun _ _ _ => rfl) (fun γ_218 t hm => One.step rfl (.free rfl) (OpT.loadRef rfl (dk rfl) ul5 rfl hm.s0 rfl ⟨(fun _ => undef, 0), rfl⟩)) (fun γ_218 => Ct.mo rfl rfl) ?_
 refine DGG.step (c := fun γ_218 => ⟨some 48, .agg (Arr2.dc .u8 (Arr2.mk v_222 v_222)), [(43, .int .u8 v_222), (47, .int .u8 v_222)], [], []⟩) [] (fun _ _ _ => rfl) (fun γ_218 t hm => One.step rfl (.free rfl) (OpT.build (l := (Arr2.dc .u8 (Arr2.mk v_222 v_222))) rfl (dk rfl) (built_arr ul56 i56 i5) (all1 rfl) (parts_cons hm.s0 rfl (parts_cons hm.s1 rfl parts_nil)) rfl ⟨(fun _ => undef, 0), rfl⟩)) (fun γ_218 => Ct.mo rfl rfl) ?_
 refine DGG.step (c := fun γ_218 => ⟨some 49, .sl true 2 ([(Arr2.mk v_222 v_222)].map (Arr2.dc .u8)), [(48, .agg (Arr2.dc .u8 (Arr2.mk v_222 v_222)))], [], []⟩) [] (fun _ _ _ => rfl) (fun γ_218 t hm => One.step rfl (.free rfl) (OpT.buildSlice (elems := ([(Arr2.mk v_222 v_222)] : List Arr2).map (Arr2.dc .u8)) rfl (dk rfl) ul54 i56 (by decide) rfl (all1 rfl) (parts_cons hm.s0 rfl parts_nil) rfl rfl (lenAll rfl) (by decide) ⟨(fun _ => undef, 0), rfl⟩)) (fun γ_218 => Ct.mo rfl rfl) ?_
 obtain ⟨g_224, h⟩ := ck_some h
 refine DGG.step (c := fun γ_218 => ⟨some 50, .c (.ex ((γ_218 11).1 0)), [(49, .sl true 2 ([(Arr2.mk v_222 v_222)].map (Arr2.dc .u8))), (39, .c (.ex w3_1))], [(0, .arrX w3_1 56 2 0 (y3_1_0.map (Arr2.dc .u8)))], [(0, .arrX ((γ_218 11).1 0) 56 2 0 ((y3_1_0 ++ [(Arr2.mk v_222 v_222)]).map (Arr2.dc .u8)))]⟩) [11] (fun γ_218 γ' h => by simp only [h 11 (by decide)]) (fun γ_218 t hm => One.step rfl (.free rfl) (OpT.appendXM (i := 0) (xs := y3_1_0) (ys := [(Arr2.mk v_222 v_222)]) (f := (Arr2.dc .u8)) rfl (dk rfl) ul54 i56 rfl hm.s1 hm.o0 hm.s0 g_224 (fun w => ⟨(fun _ => w, 0), rfl⟩))) (fun γ_218 => Ct.mo rfl rfl) ?_
 refine DGG.step (c := fun γ_218 => ⟨some 3, .c (.ex ((γ_218 11).1 0)), [(50, .c (.ex ((γ_218 11).1 0)))], [], []⟩) [11] (fun γ_218 γ' h => by simp only [h 11 (by decide)]) (fun γ_218 t hm => One.step rfl (.free rfl) (OpT.assign rfl (dk rfl) hm.s0 ⟨(fun _ => undef, 0), rfl⟩)) (fun γ_218 => Ct.mo rfl rfl) ?_
 refine DGG.fin (s1 := fun γ_218 => ⟨[(3, .c (.ex ((γ_218 11).1 0))), (4, .sl false 1 (x4_1_1.map (cI .u8))), (5, .int .i64 x5_1_2)], [.arrX ((γ_218 11).1 0) 56 2 0 ((y3_1_0 ++ [(Arr2.mk v_222 v_222)]).map (Arr2.dc .u8))]⟩) (ms := [0, 0, 0, 6, 14, 0, 0, 96, 224, 510, 1022, 2047, 4095]) TrydMixed rfl (by kernel_rfl) (by kernel_rfl) (by kernel_rfl) (fun γ_218 => by kernel_rfl) (fun γ_218 => .cons rfl (.cons rfl (.cons rfl (.nil _)))) (fun _ => rfl) (fun γ_218 u hu => (inBlock_normal (tN (T.by_turn hu ?_))))
 refine T.rL ?_
 refine mw rfl ?_
 refine sp rfl (OpT.int2 rfl rfl (dk rfl) rfl rfl ?_)
 refine aw rfl ?_
 refine TL'.nil (tN ?_)
 refine TL.by_turn ?_ (hgo0 x4_1_1 (IntKind.i64.wrap (x5_1_2 + (1 : Int))) (y3_1_0 ++ [(Arr2.mk v_222 v_222)]) ((γ_218 11).1 0) h)
 exact Turn.rp (.cons rfl (.cons rfl (.cons rfl (.nil _)))) (.c .z (.n _))
theorem r1_Spans_l0_T {r : List Arr2} (K : Nat) : ∀ (k : Nat), ∀ (x4_0_1 : List Int) (x5_0_2 : Int) (y3_0_0 : List Arr2) (w3_0 : Value), r1_Spans_l0 K k x4_0_1 x5_0_2 y3_0_0 = some r → TL Tryd.prog 52 (Code.at [1, 1, 1, 0, 1, 0, 0] (codeOf Tryd.f35)) ⟨[(3, .c (.ex w3_0)), (4, .sl false 1 (x4_0_1.map (cI .u8))), (5, .int .i64 x5_0_2)], [.arrX w3_0 56 2 0 (y3_0_0.map (Arr2.dc .u8))]⟩ (r1_Spans_qb0x1111 r) := by
  intro k
  induction k with
  | zero =>
    intro x4_0_1 x5_0_2 y3_0_0 w3_0 h
    cases (show (none : Option (List Arr2)) = some r from h)
  | succ k ih =>
    intro x4_0_1 x5_0_2 y3_0_0 w3_0 h
    rw [r1_Spans_l0] at h
    refine TL.round ?_
    refine T.seq ?_
    refine T.seq ?_
    refine T.rL ?_
    refine mv rfl rfl rfl rfl rfl ?_
    refine mv rfl rfl rfl rfl rfl ?_
    refine sp rfl (OpT.lenSlM (xs := x4_0_1) (f := (cI .u8)) rfl (dl rfl rfl) Tryd.underlying32 rfl ?_)
    refine sp rfl (OpT.int2 rfl rfl (dl rfl rfl) rfl rfl ?_)
    refine TL'.nil (tN ?_)
    rcases bif_some h with ⟨c_200, h⟩ | ⟨c_200, h⟩
    · refine T.condT rfl c_200 ?_
      refine T.skip (tN ?_)
      refine T.seq ?_
      refine T.block ?_
      refine T.seq ?_
      refine DG.start ?_
      refine DG.mv rfl rfl rfl rfl rfl rfl ?_
      refine DG.step (c := ⟨some 15, .bool (decide (x5_0_2 > (0 : Int))), [(14, .int .i64 x5_0_2)], [], []⟩) (fun t hm => One.step rfl (.free rfl) (OpT.int2 rfl rfl (dl rfl rfl) hm.s0 rfl rfl)) (Ct.mo rfl rfl) ?_
      refine DG.mv rfl rfl rfl rfl rfl rfl ?_
      rcases bif_some h with ⟨c_207, h⟩ | ⟨c_207, h⟩
      · refine DG.step (c := ⟨some 17, .sl false 1 (x4_0_1.map (cI .u8)), [(4, .sl false 1 (x4_0_1.map (cI .u8))), (16, .bool (decide (x5_0_2 > (0 : Int))))], [], []⟩) (fun t hm => One.step rfl (.on rfl rfl hm.s1 c_207) (OpT.move rfl (dl rfl rfl) hm.s0 rfl)) (Ct.mo rfl rfl) ?_
        refine DG.step (c := ⟨some 18, .int .i64 x5_0_2, [(5, .int .i64 x5_0_2), (16, .bool (decide (x5_0_2 > (0 : Int))))], [], []⟩) (fun t hm => One.step rfl (.on rfl rfl hm.s1 c_207) (OpT.move rfl (dl rfl rfl) hm.s0 rfl)) (Ct.mo rfl rfl) ?_
        refine DG.step (c := ⟨some 19, .int .i64 (IntKind.i64.wrap (x5_0_2 - (1 : Int))), [(18, .int .i64 x5_0_2), (16, .bool (decide (x5_0_2 > (0 : Int))))], [], []⟩) (fun t hm => One.step rfl (.on rfl rfl hm.s1 c_207) (OpT.int2 rfl rfl (dl rfl rfl) hm.s0 rfl rfl)) (Ct.mo rfl rfl) ?_
        obtain ⟨v_208, e_209, h⟩ := bind_some h
        refine DG.step (c := ⟨some 20, .ref [.int .u8 v_208], [(17, .sl false 1 (x4_0_1.map (cI .u8))), (19, .int .i64 (IntKind.i64.wrap (x5_0_2 - (1 : Int)))), (16, .bool (decide (x5_0_2 > (0 : Int))))], [], []⟩) (fun t hm => One.step rfl (.on rfl rfl hm.s2 c_207) (OpT.indexSlM (xs := x4_0_1) (f := (cI .u8)) (v := v_208) rfl (dl rfl rfl) Tryd.underlying32 i5 hm.s0 hm.s1 e_209 rfl)) (Ct.mo rfl rfl) ?_
        refine DG.step (c := ⟨some 21, .int .u8 v_208, [(20, .ref [.int .u8 v_208]), (16, .bool (decide (x5_0_2 > (0 : Int))))], [], []⟩) (fun t hm => One.step rfl (.on rfl rfl hm.s1 c_207) (OpT.loadRef rfl (dl rfl rfl) Tryd.underlying5 rfl hm.s0 rfl rfl)) (Ct.mo rfl rfl) ?_
        refine DG.step (c := ⟨some 22, .int .u8 (IntKind.u8.wrap (v_208 + (1 : Int))), [(21, .int .u8 v_208), (16, .bool (decide (x5_0_2 > (0 : Int))))], [], []⟩) (fun t hm => One.step rfl (.on rfl rfl hm.s1 c_207) (OpT.int2 rfl rfl (dl rfl rfl) hm.s0 rfl rfl)) (Ct.mo rfl rfl) ?_
        refine DG.step (c := ⟨some 23, .sl false 1 (x4_0_1.map (cI .u8)), [(4, .sl false 1 (x4_0_1.map (cI .u8))), (16, .bool (decide (x5_0_2 > (0 : Int))))], [], []⟩) (fun t hm => One.step rfl (.on rfl rfl hm.s1 c_207) (OpT.move rfl (dl rfl rfl) hm.s0 rfl)) (Ct.mo rfl rfl) ?_
        refine DG.step (c := ⟨some 24, .int .i64 x5_0_2, [(5, .int .i64 x5_0_2), (16, .bool (decide (x5_0_2 > (0 : Int))))], [], []⟩) (fun t hm => One.step rfl (.on rfl rfl hm.s1 c_207) (OpT.move rfl (dl rfl rfl) hm.s0 rfl)) (Ct.mo rfl rfl) ?_
        obtain ⟨v_210, e_211, h⟩ := bind_some h
        refine DG.step (c := ⟨some 25, .ref [.int .u8 v_210], [(23, .sl false 1 (x4_0_1.map (cI .u8))), (24, .int .i64 x5_0_2), (16, .bool (decide (x5_0_2 > (0 : Int))))], [], []⟩) (fun t hm => One.step rfl (.on rfl rfl hm.s2 c_207) (OpT.indexSlM (xs := x4_0_1) (f := (cI .u8)) (v := v_210) rfl (dl rfl rfl) Tryd.underlying32 i5 hm.s0 hm.s1 e_211 rfl)) (Ct.mo rfl rfl) ?_
        refine DG.step (c := ⟨some 26, .int .u8 v_210, [(25, .ref [.int .u8 v_210]), (16, .bool (decide (x5_0_2 > (0 : Int))))], [], []⟩) (fun t hm => One.step rfl (.on rfl rfl hm.s1 c_207) (OpT.loadRef rfl (dl rfl rfl) Tryd.underlying5 rfl hm.s0 rfl rfl)) (Ct.mo rfl rfl) ?_
        refine DG.step (c := ⟨some 27, .bool ((IntKind.u8.wrap (v_208 + (1 : Int))) == v_210), [(22, .int .u8 (IntKind.u8.wrap (v_208 + (1 : Int)))), (26, .int .u8 v_210), (16, .bool (decide (x5_0_2 > (0 : Int))))], [], []⟩) (fun t hm => One.step rfl (.on rfl rfl hm.s2 c_207) (OpT.int2 rfl rfl (dl rfl rfl) hm.s0 hm.s1 rfl)) (Ct.mo rfl rfl) ?_
        refine DG.step (c := ⟨some 28, .bool ((IntKind.u8.wrap (v_208 + (1 : Int))) == v_210), [(16, .bool (decide (x5_0_2 > (0 : Int)))), (27, .bool ((IntKind.u8.wrap (v_208 + (1 : Int))) == v_210))], [], []⟩) (fun t hm => One.step rfl (.free rfl) (OpT.pickT rfl (dl rfl rfl) hm.s0 c_207 hm.s1 rfl)) (Ct.mo rfl rfl) ?_
        refine DG.fin (s1 := ⟨[(3, .c (.ex w3_0)), (4, .sl false 1 (x4_0_1.map (cI .u8))), (5, .int .i64 x5_0_2), (17, .sl false 1 (x4_0_1.map (cI .u8))), (18, .int .i64 x5_0_2), (19, .int .i64 (IntKind.i64.wrap (x5_0_2 - (1 : Int)))), (20, .ref [.int .u8 v_208]), (21, .int .u8 v_208), (22, .int .u8 (IntKind.u8.wrap (v_208 + (1 : Int)))), (23, .sl false 1 (x4_0_1.map (cI .u8))), (24, .int .i64 x5_0_2), (25, .ref [.int .u8 v_210]), (26, .int .u8 v_210), (27, .bool ((IntKind.u8.wrap (v_208 + (1 : Int))) == v_210)), (28, .bool ((IntKind.u8.wrap (v_208 + (1 : Int))) == v_210))], [.arrX w3_0 56 2 0 (y3_0_0.map (Arr2.dc .u8))]⟩) (ms := [0, 1, 3, 7, 7, 23, 63, 127, 255, 7, 7, 1543, 3591, 8191, 16383]) TrydMixed rfl (by kernel_rfl) (by kernel_rfl) (by kernel_rfl) (.cons rfl (.cons rfl (.cons rfl (.cons rfl (.cons rfl (.cons rfl (.cons rfl (.cons rfl (.cons rfl (.cons rfl (.cons rfl (.cons rfl (.cons rfl (.cons rfl (.cons rfl (.nil _)))))))))))))))) rfl (fun u hu => (tN (T.by_turn hu ?_)))
        rcases bif_some h with ⟨c_212, h⟩ | ⟨c_212, h⟩
        · refine T.condT rfl c_212 ?_
          refine DG.start ?_
          refine DG.mv rfl rfl rfl rfl rfl rfl ?_
          refine DG.mv rfl rfl rfl rfl rfl rfl ?_
          refine DG.step (c := ⟨some 31, .int .i64 (y3_0_0.length : Int), [(30, .c (.ex w3_0))], [(0, .arrX w3_0 56 2 0 (y3_0_0.map (Arr2.dc .u8)))], []⟩) (fun t hm => One.step rfl (.free rfl) (OpT.lenXM (i := 0) (xs := y3_0_0) (f := (Arr2.dc .u8)) rfl (dl rfl rfl) Tryd.underlying54 hm.s0 hm.o0 rfl)) (Ct.mo rfl rfl) ?_
          refine DG.step (c := ⟨some 32, .int .i64 (IntKind.i64.wrap ((y3_0_0.length : Int) - (1 : Int))), [(31, .int .i64 (y3_0_0.length : Int))], [], []⟩) (fun t hm => One.step rfl (.free rfl) (OpT.int2 rfl rfl (dl rfl rfl) hm.s0 rfl rfl)) (Ct.mo rfl rfl) ?_
          refine DG.mv rfl rfl rfl rfl rfl rfl ?_
          refine DG.mv rfl rfl rfl rfl rfl rfl ?_
          refine DG.step (c := ⟨some 35, .ref [.int .u8 v_210], [(33, .sl false 1 (x4_0_1.map (cI .u8))), (34, .int .i64 x5_0_2)], [], []⟩) (fun t hm => One.step rfl (.free rfl) (OpT.indexSlM (xs := x4_0_1) (f := (cI .u8)) (v := v_210) rfl (dl rfl rfl) Tryd.underlying32 i5 hm.s0 hm.s1 e_211 rfl)) (Ct.mo rfl rfl) ?_
          refine DG.step (c := ⟨some 36, .int .u8 v_210, [(35, .ref [.int .u8 v_210])], [], []⟩) (fun t hm => One.step rfl (.free rfl) (OpT.loadRef rfl (dl rfl rfl) Tryd.underlying5 rfl hm.s0 rfl rfl)) (Ct.mo rfl rfl) ?_
          obtain ⟨v_216, e_217, h⟩ := bind_some h
          refine DG.step (c := ⟨some 37, .el w3_0 2 (Int.toNat (IntKind.i64.wrap ((y3_0_0.length : Int) - (1 : Int)))) 0, [(29, .c (.ex w3_0)), (32, .int .i64 (IntKind.i64.wrap ((y3_0_0.length : Int) - (1 : Int))))], [(0, .arrX w3_0 56 2 0 (y3_0_0.map (Arr2.dc .u8)))], []⟩) (fun t hm => One.step rfl (.free rfl) (OpT.indexXM (n := 0) (xs := y3_0_0) (f := (Arr2.dc .u8)) (old := v_216) rfl (dl rfl rfl) Tryd.underlying54 i56 hm.s0 hm.o0 hm.s1 e_217 rfl)) (Ct.mo rfl rfl) ?_
          refine DG.step (c := ⟨some 38, .el w3_0 2 (Int.toNat (IntKind.i64.wrap ((y3_0_0.length : Int) - (1 : Int)))) 1, [(37, .el w3_0 2 (Int.toNat (IntKind.i64.wrap ((y3_0_0.length : Int) - (1 : Int)))) 0)], [], []⟩) (fun t hm => One.step rfl (.free rfl) (OpT.indexEl rfl (dl rfl rfl) Tryd.underlying56 i5 hm.s0 rfl (by decide) (by decide) rfl)) (Ct.mo rfl rfl) ?_
          refine DG.step (c := ⟨none, .any, [(38, .el w3_0 2 (Int.toNat (IntKind.i64.wrap ((y3_0_0.length : Int) - (1 : Int)))) 1), (36, .int .u8 v_210)], [(0, .arrX w3_0 56 2 0 (y3_0_0.map (Arr2.dc .u8)))], [(0, .arrX w3_0 56 2 0 ((List.set y3_0_0 (Int.toNat (IntKind.i64.wrap ((y3_0_0.length : Int) - (1 : Int)))) (Arr2.set v_216 1 v_210)).map (Arr2.dc .u8)))]⟩) (fun t hm => One.step rfl (.free rfl) (OpT.storeXM (i := 0) (xs := y3_0_0) (f := (Arr2.dc .u8)) (old := v_216) (new := (Arr2.set v_216 1 v_210)) rfl rfl i5 hm.s0 hm.s1 hm.o0 (geti_some e_217).2 (Nat.zero_le _) (Nat.le_of_ble_eq_true rfl) rfl rfl)) (Ct.mo rfl rfl) ?_
          refine DG.fin (s1 := ⟨[(3, .c (.ex w3_0)), (4, .sl false 1 (x4_0_1.map (cI .u8))), (5, .int .i64 x5_0_2), (17, .sl false 1 (x4_0_1.map (cI .u8))), (18, .int .i64 x5_0_2), (19, .int .i64 (IntKind.i64.wrap (x5_0_2 - (1 : Int)))), (20, .ref [.int .u8 v_208]), (21, .int .u8 v_208), (22, .int .u8 (IntKind.u8.wrap (v_208 + (1 : Int)))), (23, .sl false 1 (x4_0_1.map (cI .u8))), (24, .int .i64 x5_0_2), (25, .ref [.int .u8 v_210]), (26, .int .u8 v_210), (27, .bool ((IntKind.u8.wrap (v_208 + (1 : Int))) == v_210))], [.arrX w3_0 56 2 0 ((List.set y3_0_0 (Int.toNat (IntKind.i64.wrap ((y3_0_0.length : Int) - (1 : Int)))) (Arr2.set v_216 1 v_210)).map (Arr2.dc .u8))]⟩) (ms := [0, 0, 2, 6, 0, 0, 48, 112, 15, 511, 1023]) TrydMixed rfl (by kernel_rfl) (by kernel_rfl) (by kernel_rfl) (.cons rfl (.cons rfl (.cons rfl (.cons rfl (.cons rfl (.cons rfl (.cons rfl (.cons rfl (.cons rfl (.cons rfl (.cons rfl (.cons rfl (.cons rfl (.cons rfl (.nil _))))))))))))))) rfl (fun u hu => (inBlock_normal (tN (T.by_turn hu ?_))))
          refine T.rL ?_
          refine mv rfl rfl rfl rfl rfl ?_
          refine sp rfl (OpT.int2 rfl rfl (dl rfl rfl) rfl rfl ?_)
          refine asg rfl rfl rfl rfl rfl ?_
          refine TL'.nil (tN ?_)
          refine TL.by_turn ?_ (ih x4_0_1 (IntKind.i64.wrap (x5_0_2 + (1 : Int))) (List.set y3_0_0 (Int.toNat (IntKind.i64.wrap ((y3_0_0.length : Int) - (1 : Int)))) (Arr2.set v_216 1 v_210)) w3_0 h)
          exact Turn.rp (.cons rfl (.cons rfl (.cons rfl (.nil _)))) (.c .z (.n _))
        · refine T.condF rfl c_212 ?_
          refine T.by_turn ?_ (r1_Spans_j1_T K (r1_Spans_l0 K k) ih x4_0_1 x5_0_2 y3_0_0 w3_0 h)
          exact Turn.rp (.cons rfl (.cons rfl (.cons rfl (.nil _)))) (.c .z (.n _))
      · refine DG.off c_207 rfl rfl rfl rfl rfl rfl ?_
        refine DG.off c_207 rfl rfl rfl rfl rfl rfl ?_
        refine DG.off c_207 rfl rfl rfl rfl rfl rfl ?_
        refine DG.off c_207 rfl rfl rfl rfl rfl rfl ?_
        refine DG.off c_207 rfl rfl rfl rfl rfl rfl ?_
        refine DG.off c_207 rfl rfl rfl rfl rfl rfl ?_
        refine DG.off c_207 rfl rfl rfl rfl rfl rfl ?_
        refine DG.off c_207 rfl rfl rfl rfl rfl rfl ?_
        refine DG.off c_207 rfl rfl rfl rfl rfl rfl ?_
        refine DG.off c_207 rfl rfl rfl rfl rfl rfl ?_
        refine DG.off c_207 rfl rfl rfl rfl rfl rfl ?_
        refine DG.step (c := ⟨some 28, .bool false, [(16, .bool (decide (x5_0_2 > (0 : Int))))], [], []⟩) (fun t hm => One.step rfl (.free rfl) (OpT.pickF rfl (dl rfl rfl) hm.s0 c_207 rfl rfl)) (Ct.mo rfl rfl) ?_
        refine DG.fin (s1 := ⟨[(3, .c (.ex w3_0)), (4, .sl false 1 (x4_0_1.map (cI .u8))), (5, .int .i64 x5_0_2), (17, .tup []), (18, .tup []), (19, .tup []), (20, .tup []), (21, .tup []), (22, .tup []), (23, .tup []), (24, .tup []), (25, .tup []), (26, .tup []), (27, .tup []), (28, .bool false)], [.arrX w3_0 56 2 0 (y3_0_0.map (Arr2.dc .u8))]⟩) (ms := [0, 1, 3, 7, 7, 23, 63, 127, 255, 7, 7, 1543, 3591, 8191, 16383]) TrydMixed rfl (by kernel_rfl) (by kernel_rfl) (by kernel_rfl) (.cons rfl (.cons rfl (.cons rfl (.cons rfl (.cons rfl (.cons rfl (.cons rfl (.cons rfl (.cons rfl (.cons rfl (.cons rfl (.cons rfl (.cons rfl (.cons rfl (.cons rfl (.nil _)))))))))))))))) rfl (fun u hu => (tN (T.by_turn hu ?_)))
        refine T.condF rfl rfl ?_
        refine T.by_turn ?_ (r1_Spans_j1_T K (r1_Spans_l0 K k) ih x4_0_1 x5_0_2 y3_0_0 w3_0 h)
        exact Turn.rp (.cons rfl (.cons rfl (.cons rfl (.nil _)))) (.c .z (.n _))
    · refine T.condF rfl c_200 ?_
      refine T.exit (thenS_exit (thenS_exit (inBlock_exit (tN ?_))))
      refine T.seq ?_
      refine T.rL ?_
      refine mv rfl rfl rfl rfl rfl ?_
      refine asg rfl rfl rfl rfl rfl ?_
      refine TL'.nil (tN ?_)
      refine T.ret ?_
      refine Fin.turn (Turn.sealX 0 rfl) ?_
      refine Fin.turn (Turn.view 2 0 rfl rfl) ?_
      exact Fin.done (.cons _ _ _ _ (.tmp 2 _ rfl) .nil) (by cases h; exact ⟨rfl, rfl⟩)
theorem r1_Spans_T (K : Nat) {x0 : Arr4} {r : List Arr2} (h : r1_Spans K x0 = some r) : CallR Tryd.prog 35 [.agg (Arr4.dc .u64 x0)] [] (.sl false 2 (r.map (Arr2.dc .u8))) := by
 refine CallT.intro Tryd.func35 rfl (nb rfl) ?_
 show T Tryd.prog 52 (Code.at [] (codeOf Tryd.f35)) ⟨paramSlots 0 [.agg (Arr4.dc .u64 x0)], []⟩ (r1_Spans_q r)
 unfold r1_Spans at h
 refine T.seq ?_
 refine T.rL ?_
 refine sp rfl (OpT.boxAgg rfl (dk rfl) rfl (fun b_197 => ?_))
 refine aw rfl ?_
 refine TL'.nil (tN ?_)
 refine T.seq ?_
 refine T.rL ?_
 refine aw rfl ?_
 refine TL'.nil (tN ?_)
 refine T.seq ?_
 refine T.rL ?_
 refine sp rfl (OpT.loadBoxAgg (i := 0) (l := (Arr4.dc .u64 x0)) rfl (dk rfl) ul25 rfl i25 rfl rfl rfl rfl ?_)
 obtain ⟨v_198, e_199, h⟩ := bind_some h
 refine sp rfl (OpT.callPA rfl (dk rfl) Tryd.func33 rfl rfl (Args.cons rfl Args.nil) (CallR.nil (r1_List_T K e_199)) ?_)
 refine aw rfl ?_
 refine TL'.nil (tN ?_)
 refine T.seq ?_
 refine T.seq ?_
 refine T.rL ?_
 refine aw rfl ?_
 refine TL'.nil (tN ?_)
 refine T.block ?_
 refine T.loop ?_
 refine TL.by_turn (Turn.nilX 56 2) ?_
 refine TL.by_turn ?_ (r1_Spans_l0_T K K v_198 (0 : Int) [] (nilv 8) h)
 exact Turn.rp (.cons rfl (.cons rfl (.cons rfl (.nil _)))) (.c .z (.n _))
abbrev r5_Byte_q (r : ByteArray) : Exit → St → Prop := retS Tryd.prog Tryd.f13 (fun y t => y = (.str r) ∧ t = [])
abbrev r5_Byte_qs11111 (r : ByteArray) : Exit → St → Prop := thenS (fun s' => T Tryd.prog 55 (Code.at [1, 1, 1, 1, 1] (codeOf Tryd.f13)) s' ((r5_Byte_q r))) ((r5_Byte_q r))
abbrev r5_Byte_qs111 (r : ByteArray) : Exit → St → Prop := thenS (fun s' => T Tryd.prog 55 (Code.at [1, 1, 1] (codeOf Tryd.f13)) s' ((r5_Byte_q r))) ((r5_Byte_q r))
abbrev r5_Byte_qb0x111 (r : ByteArray) : Exit → St → Prop := inBlockS 0 ((r5_Byte_qs111 r))
theorem r5_Byte_j1_T {r : ByteArray} (K : Nat) (x0 : Int) (h : r5_Byte_j1 K x0 = some r) : T Tryd.prog 55 (Code.at [1, 1, 1, 1, 0, 1, 0] (codeOf Tryd.f13)) ⟨[(0, .int .u8 x0)], []⟩ (r5_Byte_qs11111 r) := by
 unfold r5_Byte_j1 at h
 refine T.seq ?_
 refine T.rL ?_
 refine aw rfl ?_
 refine TL'.nil (tN ?_)
 refine T.seq ?_
 refine DG.start ?_
 refine DG.mv rfl rfl rfl rfl rfl rfl ?_
 refine DG.mv rfl rfl rfl rfl rfl rfl ?_
 refine DG.step (c := ⟨some 38, .int .u8 (IntKind.u8.wrap (Int.tdiv x0 (16 : Int))), [(37, .int .u8 x0)], [], []⟩) (fun t hm => One.step rfl (.free rfl) (OpT.quo rfl (dk rfl) hm.s0 rfl (by decide) rfl)) (Ct.mo rfl rfl) ?_
 refine DG.mv rfl rfl rfl rfl rfl rfl ?_
 refine DG.step (c := ⟨some 40, .int .u8 (IntKind.u8.wrap (Int.tdiv x0 (16 : Int))), [(39, .int .u8 x0)], [], []⟩) (fun t hm => One.step rfl (.free rfl) (OpT.quo rfl (dk rfl) hm.s0 rfl (by decide) rfl)) (Ct.mo rfl rfl) ?_
 refine DG.step (c := ⟨some 41, .int .u8 (IntKind.u8.wrap ((IntKind.u8.wrap (Int.tdiv x0 (16 : Int))) + (1 : Int))), [(40, .int .u8 (IntKind.u8.wrap (Int.tdiv x0 (16 : Int))))], [], []⟩) (fun t hm => One.step rfl (.free rfl) (OpT.int2 rfl rfl (dk rfl) hm.s0 rfl rfl)) (Ct.mo rfl rfl) ?_
 obtain ⟨g_186, h⟩ := ck_some h
 refine DG.step (c := ⟨some 42, .str ((⟨#[48, 49, 50, 51, 52, 53, 54, 55, 56, 57, 97, 98, 99, 100, 101, 102]⟩ : ByteArray).extract (Int.toNat (IntKind.u8.wrap (Int.tdiv x0 (16 : Int)))) (Int.toNat (IntKind.u8.wrap ((IntKind.u8.wrap (Int.tdiv x0 (16 : Int))) + (1 : Int))))), [(36, .str (⟨#[48, 49, 50, 51, 52, 53, 54, 55, 56, 57, 97, 98, 99, 100, 101, 102]⟩ : ByteArray)), (38, .int .u8 (IntKind.u8.wrap (Int.tdiv x0 (16 : Int)))), (41, .int .u8 (IntKind.u8.wrap ((IntKind.u8.wrap (Int.tdiv x0 (16 : Int))) + (1 : Int))))], [], []⟩) (fun t hm => One.step rfl (.free rfl) (OpT.sliceStr (l := (Int.toNat (IntKind.u8.wrap (Int.tdiv x0 (16 : Int))))) (h := (Int.toNat (IntKind.u8.wrap ((IntKind.u8.wrap (Int.tdiv x0 (16 : Int))) + (1 : Int))))) rfl (dk rfl) ul9 hm.s0 (.some _ _ _ _ hm.s1 g_186.1) (.some _ _ _ _ hm.s2 g_186.2.1) g_186.2.2.1 g_186.2.2.2 rfl)) (Ct.mo rfl rfl) ?_
 obtain ⟨g_187, h⟩ := ck_some h
 refine DG.step (c := ⟨some 43, .str ((⟨#[92, 120]⟩ : ByteArray) ++ ((⟨#[48, 49, 50, 51, 52, 53, 54, 55, 56, 57, 97, 98, 99, 100, 101, 102]⟩ : ByteArray).extract (Int.toNat (IntKind.u8.wrap (Int.tdiv x0 (16 : Int)))) (Int.toNat (IntKind.u8.wrap ((IntKind.u8.wrap (Int.tdiv x0 (16 : Int))) + (1 : Int)))))), [(42, .str ((⟨#[48, 49, 50, 51, 52, 53, 54, 55, 56, 57, 97, 98, 99, 100, 101, 102]⟩ : ByteArray).extract (Int.toNat (IntKind.u8.wrap (Int.tdiv x0 (16 : Int)))) (Int.toNat (IntKind.u8.wrap ((IntKind.u8.wrap (Int.tdiv x0 (16 : Int))) + (1 : Int))))))], [], []⟩) (fun t hm => One.step rfl (.free rfl) (OpT.str_add rfl (dk rfl) rfl hm.s0 g_187 rfl)) (Ct.mo rfl rfl) ?_
 refine DG.mv rfl rfl rfl rfl rfl rfl ?_
 refine DG.mv rfl rfl rfl rfl rfl rfl ?_
 refine DG.step (c := ⟨some 46, .int .u8 (Int.tmod x0 (16 : Int)), [(45, .int .u8 x0)], [], []⟩) (fun t hm => One.step rfl (.free rfl) (OpT.rem rfl (dk rfl) hm.s0 rfl (by decide) rfl)) (Ct.mo rfl rfl) ?_
 refine DG.mv rfl rfl rfl rfl rfl rfl ?_
 refine DG.step (c := ⟨some 48, .int .u8 (Int.tmod x0 (16 : Int)), [(47, .int .u8 x0)], [], []⟩) (fun t hm => One.step rfl (.free rfl) (OpT.rem rfl (dk rfl) hm.s0 rfl (by decide) rfl)) (Ct.mo rfl rfl) ?_
 refine DG.step (c := ⟨some 49, .int .u8 (IntKind.u8.wrap ((Int.tmod x0 (16 : Int)) + (1 : Int))), [(48, .int .u8 (Int.tmod x0 (16 : Int)))], [], []⟩) (fun t hm => One.step rfl (.free rfl) (OpT.int2 rfl rfl (dk rfl) hm.s0 rfl rfl)) (Ct.mo rfl rfl) ?_
 obtain ⟨g_188, h⟩ := ck_some h
 refine DG.step (c := ⟨some 50, .str ((⟨#[48, 49, 50, 51, 52, 53, 54, 55, 56, 57, 97, 98, 99, 100, 101, 102]⟩ : ByteArray).extract (Int.toNat (Int.tmod x0 (16 : Int))) (Int.toNat (IntKind.u8.wrap ((Int.tmod x0 (16 : Int)) + (1 : Int))))), [(44, .str (⟨#[48, 49, 50, 51, 52, 53, 54, 55, 56, 57, 97, 98, 99, 100, 101, 102]⟩ : ByteArray)), (46, .int .u8 (Int.tmod x0 (16 : Int))), (49, .int .u8 (IntKind.u8.wrap ((Int.tmod x0 (16 : Int)) + (1 : Int))))], [], []⟩) (fun t hm => One.step rfl (.free rfl) (OpT.sliceStr (l := (Int.toNat (Int.tmod x0 (16 : Int)))) (h := (Int.toNat (IntKind.u8.wrap ((Int.tmod x0 (16 : Int)) + (1 : Int))))) rfl (dk rfl) ul9 hm.s0 (.some _ _ _ _ hm.s1 g_188.1) (.some _ _ _ _ hm.s2 g_188.2.1) g_188.2.2.1 g_188.2.2.2 rfl)) (Ct.mo rfl rfl) ?_
 obtain ⟨g_189, h⟩ := ck_some h
 refine DG.step (c := ⟨some 51, .str (((⟨#[92, 120]⟩ : ByteArray) ++ ((⟨#[48, 49, 50, 51, 52, 53, 54, 55, 56, 57, 97, 98, 99, 100, 101, 102]⟩ : ByteArray).extract (Int.toNat (IntKind.u8.wrap (Int.tdiv x0 (16 : Int)))) (Int.toNat (IntKind.u8.wrap ((IntKind.u8.wrap (Int.tdiv x0 (16 : Int))) + (1 : Int)))))) ++ ((⟨#[48, 49, 50, 51, 52, 53, 54, 55, 56, 57, 97, 98, 99, 100, 101, 102]⟩ : ByteArray).extract (Int.toNat (Int.tmod x0 (16 : Int))) (Int.toNat (IntKind.u8.wrap ((Int.tmod x0 (16 : Int)) + (1 : Int)))))), [(43, .str ((⟨#[92, 120]⟩ : ByteArray) ++ ((⟨#[48, 49, 50, 51, 52, 53, 54, 55, 56, 57, 97, 98, 99, 100, 101, 102]⟩ : ByteArray).extract (Int.toNat (IntKind.u8.wrap (Int.tdiv x0 (16 : Int)))) (Int.toNat (IntKind.u8.wrap ((IntKind.u8.wrap (Int.tdiv x0 (16 : Int))) + (1 : Int))))))), (50, .str ((⟨#[48, 49, 50, 51, 52, 53, 54, 55, 56, 57, 97, 98, 99, 100, 101, 102]⟩ : ByteArray).extract (Int.toNat (Int.tmod x0 (16 : Int))) (Int.toNat (IntKind.u8.wrap ((Int.tmod x0 (16 : Int)) + (1 : Int))))))], [], []⟩) (fun t hm => One.step rfl (.free rfl) (OpT.str_add rfl (dk rfl) hm.s0 hm.s1 g_189 rfl)) (Ct.mo rfl rfl) ?_
 refine DG.step (c := ⟨some 2, .str (((⟨#[92, 120]⟩ : ByteArray) ++ ((⟨#[48, 49, 50, 51, 52, 53, 54, 55, 56, 57, 97, 98, 99, 100, 101, 102]⟩ : ByteArray).extract (Int.toNat (IntKind.u8.wrap (Int.tdiv x0 (16 : Int)))) (Int.toNat (IntKind.u8.wrap ((IntKind.u8.wrap (Int.tdiv x0 (16 : Int))) + (1 : Int)))))) ++ ((⟨#[48, 49, 50, 51, 52, 53, 54, 55, 56, 57, 97, 98, 99, 100, 101, 102]⟩ : ByteArray).extract (Int.toNat (Int.tmod x0 (16 : Int))) (Int.toNat (IntKind.u8.wrap ((Int.tmod x0 (16 : Int)) + (1 : Int)))))), [(51, .str (((⟨#[92, 120]⟩ : ByteArray) ++ ((⟨#[48, 49, 50, 51, 52, 53, 54, 55, 56, 57, 97, 98, 99, 100, 101, 102]⟩ : ByteArray).extract (Int.toNat (IntKind.u8.wrap (Int.tdiv x0 (16 : Int)))) (Int.toNat (IntKind.u8.wrap ((IntKind.u8.wrap (Int.tdiv x0 (16 : Int))) + (1 : Int)))))) ++ ((⟨#[48, 49, 50, 51, 52, 53, 54, 55, 56, 57, 97, 98, 99, 100, 101, 102]⟩ : ByteArray).extract (Int.toNat (Int.tmod x0 (16 : Int))) (Int.toNat (IntKind.u8.wrap ((Int.tmod x0 (16 : Int)) + (1 : Int)))))))], [], []⟩) (fun t hm => One.step rfl (.free rfl) (OpT.assign rfl (dk rfl) hm.s0 rfl)) (Ct.mo rfl rfl) ?_
 refine DG.fin (s1 := ⟨[(2, .str (((⟨#[92, 120]⟩ : ByteArray) ++ ((⟨#[48, 49, 50, 51, 52, 53, 54, 55, 56, 57, 97, 98, 99, 100, 101, 102]⟩ : ByteArray).extract (Int.toNat (IntKind.u8.wrap (Int.tdiv x0 (16 : Int)))) (Int.toNat (IntKind.u8.wrap ((IntKind.u8.wrap (Int.tdiv x0 (16 : Int))) + (1 : Int)))))) ++ ((⟨#[48, 49, 50, 51, 52, 53, 54, 55, 56, 57, 97, 98, 99, 100, 101, 102]⟩ : ByteArray).extract (Int.toNat (Int.tmod x0 (16 : Int))) (Int.toNat (IntKind.u8.wrap ((Int.tmod x0 (16 : Int)) + (1 : Int)))))))], []⟩) (ms := [0, 0, 2, 0, 8, 24, 63, 127, 0, 0, 512, 0, 2048, 6144, 16128, 32767, 65535]) TrydMixed rfl (by kernel_rfl) (by kernel_rfl) (by kernel_rfl) (.cons rfl (.nil _)) rfl (fun u hu => (tN (T.by_turn hu ?_)))
 refine T.ret (thenS_ret ?_)
 exact Fin.done (.cons _ _ _ _ (.tmp 2 _ rfl) .nil) (by cases h; exact ⟨rfl, rfl⟩)
theorem r5_Byte_l0_T {r : ByteArray} (K : Nat) : ∀ (k : Nat), ∀ (x0 : Int) (x3_0_1 : ByteArray) (x4_0_2 : Int), r5_Byte_l0 K k x0 x3_0_1 x4_0_2 = some r → TL Tryd.prog 55 (Code.at [1, 1, 0, 1, 0, 0] (codeOf Tryd.f13)) ⟨[(0, .int .u8 x0), (3, .str x3_0_1), (4, .int .i64 x4_0_2)], []⟩ (r5_Byte_qb0x111 r) := by
  intro k
  induction k with
  | zero =>
    intro x0 x3_0_1 x4_0_2 h
    cases (show (none : Option ByteArray) = some r from h)
  | succ k ih =>
    intro x0 x3_0_1 x4_0_2 h
    rw [r5_Byte_l0] at h
    refine TL.round ?_
    refine T.seq ?_
    refine T.seq ?_
    refine T.rL ?_
    refine mv rfl rfl rfl rfl rfl ?_
    refine mv rfl rfl rfl rfl rfl ?_
    refine sp rfl (OpT.lenStr rfl (dl rfl rfl) Tryd.underlying9 rfl ?_)
    refine sp rfl (OpT.int2 rfl rfl (dl rfl rfl) rfl rfl ?_)
    refine TL'.nil (tN ?_)
    rcases bif_some h with ⟨c_172, h⟩ | ⟨c_172, h⟩
    · refine T.condT rfl c_172 ?_
      refine T.skip (tN ?_)
      refine T.seq ?_
      refine T.block ?_
      refine T.seq ?_
      refine T.rL ?_
      refine mv rfl rfl rfl rfl rfl ?_
      refine mv rfl rfl rfl rfl rfl ?_
      obtain ⟨g_173, h⟩ := ck_some h
      refine sp rfl (OpT.indexStr rfl (dl rfl rfl) Tryd.underlying9 rfl rfl g_173.1 g_173.2 ?_)
      refine mv rfl rfl rfl rfl rfl ?_
      refine sp rfl (OpT.int2 rfl rfl (dl rfl rfl) rfl rfl ?_)
      refine TL'.nil (tN ?_)
      rcases bif_some h with ⟨c_174, h⟩ | ⟨c_174, h⟩
      · refine T.condT rfl c_174 ?_
        refine T.seq ?_
        refine T.rL ?_
        refine mv rfl rfl rfl rfl rfl ?_
        refine mv rfl rfl rfl rfl rfl ?_
        refine mv rfl rfl rfl rfl rfl ?_
        refine sp rfl (OpT.int2 rfl rfl (dl rfl rfl) rfl rfl ?_)
        obtain ⟨g_175, h⟩ := ck_some h
        refine sp rfl (OpT.sliceStr (l := (Int.toNat x4_0_2)) (h := (Int.toNat (IntKind.i64.wrap (x4_0_2 + (1 : Int))))) rfl (dl rfl rfl) Tryd.underlying9 rfl (.some _ _ _ _ rfl g_175.1) (.some _ _ _ _ rfl g_175.2.1) g_175.2.2.1 g_175.2.2.2 ?_)
        obtain ⟨g_176, h⟩ := ck_some h
        refine sp rfl (OpT.str_add rfl (dl rfl rfl) rfl rfl g_176 ?_)
        refine asg rfl rfl rfl rfl rfl ?_
        refine TL'.nil (tN ?_)
        refine T.ret (inBlock_ret (thenS_ret (thenS_ret (inBlock_ret (thenS_ret ?_)))))
        exact Fin.done (.cons _ _ _ _ (.tmp 2 _ rfl) .nil) (by cases h; exact ⟨rfl, rfl⟩)
      · refine T.condF rfl c_174 ?_
        refine T.skip (inBlock_normal (tN ?_))
        refine T.rL ?_
        refine mv rfl rfl rfl rfl rfl ?_
        refine sp rfl (OpT.int2 rfl rfl (dl rfl rfl) rfl rfl ?_)
        refine asg rfl rfl rfl rfl rfl ?_
        refine TL'.nil (tN ?_)
        refine TL.by_turn ?_ (ih x0 x3_0_1 (IntKind.i64.wrap (x4_0_2 + (1 : Int))) h)
        exact Turn.rp (.cons rfl (.cons rfl (.cons rfl (.nil _)))) (.n _)
    · refine T.condF rfl c_172 ?_
      refine T.exit (thenS_exit (thenS_exit (inBlock_exit (tN ?_))))
      refine T.seq ?_
      refine T.seq ?_
      refine T.rL ?_
      refine mv rfl rfl rfl rfl rfl ?_
      refine TL'.nil (tN ?_)
      refine T.block ?_
      refine T.seq ?_
      refine T.rL ?_
      refine sp rfl (OpT.int2 rfl rfl (dl rfl rfl) rfl rfl ?_)
      refine asg rfl rfl rfl rfl rfl ?_
      refine TL'.nil (tN ?_)
      rcases bif_some h with ⟨c_177, h⟩ | ⟨c_177, h⟩
      · refine T.condT rfl c_177 ?_
        refine T.seq ?_
        refine T.rL ?_
        refine asg rfl rfl rfl rfl rfl ?_
        refine TL'.nil (tN ?_)
        refine T.ret (inBlock_ret (thenS_ret ?_))
        exact Fin.done (.cons _ _ _ _ (.tmp 2 _ rfl) .nil) (by cases h; exact ⟨rfl, rfl⟩)
      · refine T.condF rfl c_177 ?_
        refine T.seq ?_
        refine T.rL ?_
        refine sp rfl (OpT.int2 rfl rfl (dl rfl rfl) rfl rfl ?_)
        refine asg rfl rfl rfl rfl rfl ?_
        refine TL'.nil (tN ?_)
        rcases bif_some h with ⟨c_178, h⟩ | ⟨c_178, h⟩
        · refine T.condT rfl c_178 ?_
          refine T.seq ?_
          refine T.rL ?_
          refine asg rfl rfl rfl rfl rfl ?_
          refine TL'.nil (tN ?_)
          refine T.ret (inBlock_ret (thenS_ret ?_))
          exact Fin.done (.cons _ _ _ _ (.tmp 2 _ rfl) .nil) (by cases h; exact ⟨rfl, rfl⟩)
        · refine T.condF rfl c_178 ?_
          refine T.seq ?_
          refine T.rL ?_
          refine sp rfl (OpT.int2 rfl rfl (dl rfl rfl) rfl rfl ?_)
          refine asg rfl rfl rfl rfl rfl ?_
          refine TL'.nil (tN ?_)
          rcases bif_some h with ⟨c_179, h⟩ | ⟨c_179, h⟩
          · refine T.condT rfl c_179 ?_
            refine T.seq ?_
            refine T.rL ?_
            refine asg rfl rfl rfl rfl rfl ?_
            refine TL'.nil (tN ?_)
            refine T.ret (inBlock_ret (thenS_ret ?_))
            exact Fin.done (.cons _ _ _ _ (.tmp 2 _ rfl) .nil) (by cases h; exact ⟨rfl, rfl⟩)
          · refine T.condF rfl c_179 ?_
            refine T.skip (inBlock_normal (tN ?_))
            refine T.seq ?_
            refine T.seq ?_
            refine T.rL ?_
            refine mv rfl rfl rfl rfl rfl ?_
            refine sp rfl (OpT.int2 rfl rfl (dl rfl rfl) rfl rfl ?_)
            refine mv rfl rfl rfl rfl rfl ?_
            rcases bif_some h with ⟨c_180, h⟩ | ⟨c_180, h⟩
            · refine TL'.passU (.off _ _ _ _ rfl rfl rfl c_180) (dl rfl rfl) ?_
              refine TL'.passU (.off _ _ _ _ rfl rfl rfl c_180) (dl rfl rfl) ?_
              refine sp rfl (OpT.pickT rfl (dl rfl rfl) rfl c_180 rfl ?_)
              refine TL'.nil (tN ?_)
              refine T.condT rfl rfl ?_
              refine T.by_turn ?_ (r5_Byte_j1_T K x0 h)
              exact Turn.rp (.cons rfl (.nil _)) (.n _)
            · refine TL'.step (.on rfl rfl rfl c_180) (OpT.move rfl (dl rfl rfl) rfl ?_)
              refine TL'.step (.on rfl rfl rfl c_180) (OpT.int2 rfl rfl (dl rfl rfl) rfl rfl ?_)
              refine sp rfl (OpT.pickF rfl (dl rfl rfl) rfl c_180 rfl ?_)
              refine TL'.nil (tN ?_)
              rcases bif_some h with ⟨c_190, h⟩ | ⟨c_190, h⟩
              · refine T.condT rfl c_190 ?_
                refine T.by_turn ?_ (r5_Byte_j1_T K x0 h)
                exact Turn.rp (.cons rfl (.nil _)) (.n _)
              · refine T.condF rfl c_190 ?_
                refine T.skip (tN ?_)
                refine T.seq ?_
                refine T.rL ?_
                refine mv rfl rfl rfl rfl rfl ?_
                refine sp rfl (OpT.buildSlice (elems := ([x0] : List Int).map (cI .u8)) rfl (dl rfl rfl) Tryd.underlying32 i5 (by decide) rfl (all1 rfl) rfl rfl rfl (lenAll rfl) (by decide) ?_)
                refine sp rfl (OpT.convBytes (xs := [x0]) rfl (dl rfl rfl) Tryd.underlying32 Tryd.underlying5 Tryd.underlying9 rfl ?_)
                refine asg rfl rfl rfl rfl rfl ?_
                refine TL'.nil (tN ?_)
                refine T.ret ?_
                exact Fin.done (.cons _ _ _ _ (.tmp 2 _ rfl) .nil) (by cases h; exact ⟨rfl, rfl⟩)
theorem r5_Byte_T (K : Nat) {x0 : Int} {r : ByteArray} (h : r5_Byte K x0 = some r) : CallR Tryd.prog 13 [.int .u8 x0] [] (.str r) := by
 refine CallT.intro Tryd.func13 rfl (nb rfl) ?_
 show T Tryd.prog 55 (Code.at [] (codeOf Tryd.f13)) ⟨paramSlots 0 [.int .u8 x0], []⟩ (r5_Byte_q r)
 unfold r5_Byte at h
 refine T.seq ?_
 refine T.rL ?_
 refine aw rfl ?_
 refine TL'.nil (tN ?_)
 refine T.seq ?_
 refine T.rL ?_
 refine aw rfl ?_
 refine TL'.nil (tN ?_)
 refine T.seq ?_
 refine T.seq ?_
 refine T.rL ?_
 refine aw rfl ?_
 refine TL'.nil (tN ?_)
 refine T.block ?_
 refine T.loop ?_
 refine TL.by_turn ?_ (r5_Byte_l0_T K K x0 (⟨#[124, 42, 43, 63, 123, 125, 40, 41, 91, 93, 46, 92, 47, 36, 94, 34, 45]⟩ : ByteArray) (0 : Int) h)
 exact Turn.rp (.cons rfl (.cons rfl (.cons rfl (.nil _)))) (.n _)
end Go.Rv

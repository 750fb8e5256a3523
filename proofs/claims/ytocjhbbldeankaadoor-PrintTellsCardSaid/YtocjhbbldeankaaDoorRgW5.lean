/- Each function computes what its plain text says: printed by a program of ours. -/
import Derived.Test.YtocjhbbldeankaaDoorRgW4
namespace Go.Rv
open Go.Proofs
set_option maxRecDepth 100000
set_option maxHeartbeats 4000000
set_option linter.unusedVariables false
abbrev r5_Set_q (r : ByteArray) : Exit → St → Prop := retS Tryd.prog Tryd.f15 (fun y t => y = (.str r) ∧ t = [])
abbrev r5_Set_qs1111111 (r : ByteArray) : Exit → St → Prop := thenS (fun s' => T Tryd.prog 59 (Code.at [1, 1, 1, 1, 1, 1, 1] (codeOf Tryd.f15)) s' ((r5_Set_q r))) ((r5_Set_q r))
abbrev r5_Set_qb0x1111111 (r : ByteArray) : Exit → St → Prop := inBlockS 0 ((r5_Set_qs1111111 r))
theorem r5_Set_l0_T {r : ByteArray} (K : Nat) : ∀ (k : Nat), ∀ (x4_0_0 : ByteArray) (x5_0_1 : List Arr2) (x6_0_2 : Int), r5_Set_l0 K k x4_0_0 x5_0_1 x6_0_2 = some r → TL Tryd.prog 59 (Code.at [1, 1, 1, 1, 1, 1, 0, 1, 0, 0] (codeOf Tryd.f15)) ⟨[(4, .str x4_0_0), (5, .sl false 2 (x5_0_1.map (Arr2.dc .u8))), (6, .int .i64 x6_0_2)], []⟩ (r5_Set_qb0x1111111 r) := by
  intro k
  induction k with
  | zero =>
    intro x4_0_0 x5_0_1 x6_0_2 h
    cases (show (none : Option ByteArray) = some r from h)
  | succ k ih =>
    intro x4_0_0 x5_0_1 x6_0_2 h
    rw [r5_Set_l0] at h
    refine TL.round ?_
    refine T.seq ?_
    refine T.seq ?_
    refine T.rL ?_
    refine mv rfl rfl rfl rfl rfl ?_
    refine mv rfl rfl rfl rfl rfl ?_
    refine sp rfl (OpT.lenSlM (xs := x5_0_1) (f := (Arr2.dc .u8)) rfl (dl rfl rfl) Tryd.underlying54 rfl ?_)
    refine sp rfl (OpT.int2 rfl rfl (dl rfl rfl) rfl rfl ?_)
    refine TL'.nil (tN ?_)
    rcases bif_some h with ⟨c_330, h⟩ | ⟨c_330, h⟩
    · refine T.condT rfl c_330 ?_
      refine T.skip (tN ?_)
      refine T.seq ?_
      refine T.block ?_
      refine T.seq ?_
      refine T.rL ?_
      refine mv rfl rfl rfl rfl rfl ?_
      refine mv rfl rfl rfl rfl rfl ?_
      refine mv rfl rfl rfl rfl rfl ?_
      obtain ⟨v_331, e_332, h⟩ := bind_some h
      refine sp rfl (OpT.indexSlM (xs := x5_0_1) (f := (Arr2.dc .u8)) (v := v_331) rfl (dl rfl rfl) Tryd.underlying54 i56 rfl rfl e_332 ?_)
      refine sp rfl (OpT.indexRef rfl (dl rfl rfl) Tryd.underlying56 i5 rfl rfl (by decide) (by decide) ?_)
      refine sp rfl (OpT.loadRef rfl (dl rfl rfl) Tryd.underlying5 rfl rfl rfl ?_)
      obtain ⟨v_333, e_334, h⟩ := bind_some h
      refine sp rfl (OpT.callPA rfl (dl rfl rfl) Tryd.func13 rfl rfl (Args.cons rfl Args.nil) (CallR.nil (r5_Byte_T K e_334)) ?_)
      obtain ⟨g_335, h⟩ := ck_some h
      refine sp rfl (OpT.str_add rfl (dl rfl rfl) rfl rfl g_335 ?_)
      refine asg rfl rfl rfl rfl rfl ?_
      refine TL'.nil (tN ?_)
      refine T.seq ?_
      refine DG.start ?_
      refine DG.mv rfl rfl rfl rfl rfl rfl ?_
      refine DG.mv rfl rfl rfl rfl rfl rfl ?_
      refine DG.step (c := ⟨some 39, .ref [.int .u8 v_331.a0, .int .u8 v_331.a1], [(37, .sl false 2 (x5_0_1.map (Arr2.dc .u8))), (38, .int .i64 x6_0_2)], [], []⟩) (fun t hm => One.step rfl (.free rfl) (OpT.indexSlM (xs := x5_0_1) (f := (Arr2.dc .u8)) (v := v_331) rfl (dl rfl rfl) Tryd.underlying54 i56 hm.s0 hm.s1 e_332 rfl)) (Ct.mo rfl rfl) ?_
      refine DG.step (c := ⟨some 40, .ref [.int .u8 v_331.a1], [(39, .ref [.int .u8 v_331.a0, .int .u8 v_331.a1])], [], []⟩) (fun t hm => One.step rfl (.free rfl) (OpT.indexRef rfl (dl rfl rfl) Tryd.underlying56 i5 hm.s0 rfl (by decide) (by decide) rfl)) (Ct.mo rfl rfl) ?_
      refine DG.step (c := ⟨some 41, .int .u8 v_331.a1, [(40, .ref [.int .u8 v_331.a1])], [], []⟩) (fun t hm => One.step rfl (.free rfl) (OpT.loadRef rfl (dl rfl rfl) Tryd.underlying5 rfl hm.s0 rfl rfl)) (Ct.mo rfl rfl) ?_
      refine DG.mv rfl rfl rfl rfl rfl rfl ?_
      refine DG.mv rfl rfl rfl rfl rfl rfl ?_
      refine DG.step (c := ⟨some 44, .ref [.int .u8 v_331.a0, .int .u8 v_331.a1], [(42, .sl false 2 (x5_0_1.map (Arr2.dc .u8))), (43, .int .i64 x6_0_2)], [], []⟩) (fun t hm => One.step rfl (.free rfl) (OpT.indexSlM (xs := x5_0_1) (f := (Arr2.dc .u8)) (v := v_331) rfl (dl rfl rfl) Tryd.underlying54 i56 hm.s0 hm.s1 e_332 rfl)) (Ct.mo rfl rfl) ?_
      refine DG.step (c := ⟨some 45, .ref [.int .u8 v_331.a0, .int .u8 v_331.a1], [(44, .ref [.int .u8 v_331.a0, .int .u8 v_331.a1])], [], []⟩) (fun t hm => One.step rfl (.free rfl) (OpT.indexRef rfl (dl rfl rfl) Tryd.underlying56 i5 hm.s0 rfl (by decide) (by decide) rfl)) (Ct.mo rfl rfl) ?_
      refine DG.step (c := ⟨some 46, .int .u8 v_331.a0, [(45, .ref [.int .u8 v_331.a0, .int .u8 v_331.a1])], [], []⟩) (fun t hm => One.step rfl (.free rfl) (OpT.loadRef rfl (dl rfl rfl) Tryd.underlying5 rfl hm.s0 rfl rfl)) (Ct.mo rfl rfl) ?_
      refine DG.step (c := ⟨some 47, .bool (v_331.a1 != v_331.a0), [(41, .int .u8 v_331.a1), (46, .int .u8 v_331.a0)], [], []⟩) (fun t hm => One.step rfl (.free rfl) (OpT.int2 rfl rfl (dl rfl rfl) hm.s0 hm.s1 rfl)) (Ct.mo rfl rfl) ?_
      refine DG.fin (s1 := ⟨[(4, .str (x4_0_0 ++ v_333)), (5, .sl false 2 (x5_0_1.map (Arr2.dc .u8))), (6, .int .i64 x6_0_2), (47, .bool (v_331.a1 != v_331.a0))], []⟩) (ms := [0, 0, 3, 7, 15, 0, 0, 96, 224, 480, 1023]) TrydMixed rfl (by kernel_rfl) (by kernel_rfl) (by kernel_rfl) (.cons rfl (.cons rfl (.cons rfl (.cons rfl (.nil _))))) rfl (fun u hu => (tN (T.by_turn hu ?_)))
      rcases bif_some h with ⟨c_337, h⟩ | ⟨c_337, h⟩
      · refine T.condT rfl c_337 ?_
        refine T.rL ?_
        refine mv rfl rfl rfl rfl rfl ?_
        obtain ⟨g_338, h⟩ := ck_some h
        refine sp rfl (OpT.str_add rfl (dl rfl rfl) rfl rfl g_338 ?_)
        refine mv rfl rfl rfl rfl rfl ?_
        refine mv rfl rfl rfl rfl rfl ?_
        refine sp rfl (OpT.indexSlM (xs := x5_0_1) (f := (Arr2.dc .u8)) (v := v_331) rfl (dl rfl rfl) Tryd.underlying54 i56 rfl rfl e_332 ?_)
        refine sp rfl (OpT.indexRef rfl (dl rfl rfl) Tryd.underlying56 i5 rfl rfl (by decide) (by decide) ?_)
        refine sp rfl (OpT.loadRef rfl (dl rfl rfl) Tryd.underlying5 rfl rfl rfl ?_)
        obtain ⟨v_339, e_340, h⟩ := bind_some h
        refine sp rfl (OpT.callPA rfl (dl rfl rfl) Tryd.func13 rfl rfl (Args.cons rfl Args.nil) (CallR.nil (r5_Byte_T K e_340)) ?_)
        obtain ⟨g_341, h⟩ := ck_some h
        refine sp rfl (OpT.str_add rfl (dl rfl rfl) rfl rfl g_341 ?_)
        refine asg rfl rfl rfl rfl rfl ?_
        refine TL'.nil (inBlock_normal (tN ?_))
        refine T.rL ?_
        refine mv rfl rfl rfl rfl rfl ?_
        refine sp rfl (OpT.int2 rfl rfl (dl rfl rfl) rfl rfl ?_)
        refine asg rfl rfl rfl rfl rfl ?_
        refine TL'.nil (tN ?_)
        refine TL.by_turn ?_ (ih (((x4_0_0 ++ v_333) ++ (⟨#[45]⟩ : ByteArray)) ++ v_339) x5_0_1 (IntKind.i64.wrap (x6_0_2 + (1 : Int))) h)
        exact Turn.rp (.cons rfl (.cons rfl (.cons rfl (.nil _)))) (.n _)
      · refine T.condF rfl c_337 ?_
        refine T.skip (inBlock_normal (tN ?_))
        refine T.rL ?_
        refine mv rfl rfl rfl rfl rfl ?_
        refine sp rfl (OpT.int2 rfl rfl (dl rfl rfl) rfl rfl ?_)
        refine asg rfl rfl rfl rfl rfl ?_
        refine TL'.nil (tN ?_)
        refine TL.by_turn ?_ (ih (x4_0_0 ++ v_333) x5_0_1 (IntKind.i64.wrap (x6_0_2 + (1 : Int))) h)
        exact Turn.rp (.cons rfl (.cons rfl (.cons rfl (.nil _)))) (.n _)
    · refine T.condF rfl c_330 ?_
      refine T.exit (thenS_exit (thenS_exit (inBlock_exit (tN ?_))))
      refine T.seq ?_
      refine T.rL ?_
      refine mv rfl rfl rfl rfl rfl ?_
      obtain ⟨g_342, h⟩ := ck_some h
      refine sp rfl (OpT.str_add rfl (dl rfl rfl) rfl rfl g_342 ?_)
      refine asg rfl rfl rfl rfl rfl ?_
      refine TL'.nil (tN ?_)
      refine T.ret ?_
      exact Fin.done (.cons _ _ _ _ (.tmp 2 _ rfl) .nil) (by cases h; exact ⟨rfl, rfl⟩)
theorem r5_Set_T (K : Nat) {x0 : Arr4} {r : ByteArray} (h : r5_Set K x0 = some r) : CallR Tryd.prog 15 [.agg (Arr4.dc .u64 x0)] [] (.str r) := by
 refine CallT.intro Tryd.func15 rfl (nb rfl) ?_
 show T Tryd.prog 59 (Code.at [] (codeOf Tryd.f15)) ⟨paramSlots 0 [.agg (Arr4.dc .u64 x0)], []⟩ (r5_Set_q r)
 unfold r5_Set at h
 refine T.seq ?_
 refine T.rL ?_
 refine sp rfl (OpT.boxAgg rfl (dk rfl) rfl (fun b_310 => ?_))
 refine aw rfl ?_
 refine TL'.nil (tN ?_)
 refine T.seq ?_
 refine T.rL ?_
 refine sp rfl (OpT.loadBoxAgg (i := 0) (l := (Arr4.dc .u64 x0)) rfl (dk rfl) ul25 rfl i25 rfl rfl rfl rfl ?_)
 obtain ⟨v_311, e_312, h⟩ := bind_some h
 refine sp rfl (OpT.callPA rfl (dk rfl) Tryd.func33 rfl rfl (Args.cons rfl Args.nil) (CallR.nil (r1_List_T K e_312)) ?_)
 refine aw rfl ?_
 refine TL'.nil (tN ?_)
 refine T.seq ?_
 refine T.seq ?_
 refine T.rL ?_
 refine mw rfl ?_
 refine sp rfl (OpT.lenSlM (xs := v_311) (f := (cI .u8)) rfl (dk rfl) ul32 rfl ?_)
 refine sp rfl (OpT.int2 rfl rfl (dk rfl) rfl rfl ?_)
 refine TL'.nil (tN ?_)
 rcases bif_some h with ⟨c_313, h⟩ | ⟨c_313, h⟩
 refine T.condT rfl c_313 ?_
 refine T.seq ?_
 refine T.rL ?_
 refine mw rfl ?_
 obtain ⟨v_314, e_315, h⟩ := bind_some h
 refine sp rfl (OpT.indexSlM (xs := v_311) (f := (cI .u8)) (v := v_314) rfl (dk rfl) ul32 i5 rfl rfl e_315 ?_)
 refine sp rfl (OpT.loadRef rfl (dk rfl) ul5 rfl rfl rfl ?_)
 obtain ⟨v_316, e_317, h⟩ := bind_some h
 refine sp rfl (OpT.callPA rfl (dk rfl) Tryd.func13 rfl rfl (Args.cons rfl Args.nil) (CallR.nil (r5_Byte_T K e_317)) ?_)
 refine aw rfl ?_
 refine TL'.nil (tN ?_)
 refine T.ret (thenS_ret ?_)
 exact Fin.done (.cons _ _ _ _ (.tmp 2 _ rfl) .nil) (by cases h; exact ⟨rfl, rfl⟩)
 refine T.condF rfl c_313 ?_
 refine T.skip (tN ?_)
 refine T.seq ?_
 refine T.seq ?_
 refine DG.start ?_
 refine DG.step (c := ⟨some 16, .agg (Arr4.dc .u64 x0), [(1, .ptr b_310 0)], [(0, .box b_310 25 (Arr4.oc .u64 x0))], []⟩) (fun t hm => One.step rfl (.free rfl) (OpT.loadBoxAgg (i := 0) (l := (Arr4.dc .u64 x0)) rfl (dk rfl) ul25 rfl i25 hm.s0 hm.o0 rfl rfl rfl)) (Ct.mo rfl rfl) ?_
 refine DG.step (c := ⟨some 17, .sl true 1 ([(10 : Int)].map (cI .u8)), [], [], []⟩) (fun t hm => One.step rfl (.free rfl) (OpT.buildSlice (elems := ([(10 : Int)] : List Int).map (cI .u8)) rfl (dk rfl) ul32 i5 (by decide) rfl (all1 rfl) (parts_cons rfl rfl parts_nil) rfl rfl (lenAll rfl) (by decide) rfl)) (Ct.mo rfl rfl) ?_
 obtain ⟨v_323, e_324, h⟩ := bind_some h
 refine DG.step (c := ⟨some 18, .agg (Arr4.dc .u64 v_323), [(17, .sl true 1 ([(10 : Int)].map (cI .u8)))], [], []⟩) (fun t hm => One.step rfl (.free rfl) (OpT.callPA rfl (dk rfl) Tryd.func19 rfl rfl (Args.cons hm.s0 Args.nil) (CallR.nil (r1_Of_T K (flx0 := true) e_324)) rfl)) (Ct.mo rfl rfl) ?_
 obtain ⟨v_325, e_326, h⟩ := bind_some h
 refine DG.step (c := ⟨some 19, .agg (Arr4.dc .u64 v_325), [(18, .agg (Arr4.dc .u64 v_323))], [], []⟩) (fun t hm => One.step rfl (.free rfl) (OpT.callPA rfl (dk rfl) Tryd.func34 rfl rfl (Args.cons hm.s0 Args.nil) (CallR.nil (r1_Not_T K e_326)) rfl)) (Ct.mo rfl rfl) ?_
 refine DG.step (c := ⟨some 20, .bool (Arr4.same x0 v_325), [(16, .agg (Arr4.dc .u64 x0)), (19, .agg (Arr4.dc .u64 v_325))], [], []⟩) (fun t hm => One.step rfl (.free rfl) (OpT.intsEql (k := .u64) (xs := [x0.a0, x0.a1, x0.a2, x0.a3]) (ys := [v_325.a0, v_325.a1, v_325.a2, v_325.a3]) rfl (dk rfl) ul25 ul23 i23 Tryd.eqGuardType25 hm.s0 hm.s1 rfl rfl rfl rfl (Arr4.same_eq x0 v_325) rfl)) (Ct.mo rfl rfl) ?_
 refine DG.fin (s1 := ⟨[(1, .ptr b_310 0), (20, .bool (Arr4.same x0 v_325))], [.box b_310 25 (Arr4.oc .u64 x0)]⟩) (ms := [0, 0, 2, 6, 15]) TrydMixed rfl (by kernel_rfl) (by kernel_rfl) (by kernel_rfl) (.cons rfl (.cons rfl (.nil _))) rfl (fun u hu => (tN (T.by_turn hu ?_)))
 rcases bif_some h with ⟨c_327, h⟩ | ⟨c_327, h⟩
 refine T.condT rfl c_327 ?_
 refine T.seq ?_
 refine T.rL ?_
 refine aw rfl ?_
 refine TL'.nil (tN ?_)
 refine T.ret (thenS_ret ?_)
 exact Fin.done (.cons _ _ _ _ (.tmp 2 _ rfl) .nil) (by cases h; exact ⟨rfl, rfl⟩)
 refine T.condF rfl c_327 ?_
 refine T.skip (tN ?_)
 refine T.seq ?_
 refine T.rL ?_
 refine aw rfl ?_
 refine TL'.nil (tN ?_)
 refine T.seq ?_
 refine T.rL ?_
 refine sp rfl (OpT.loadBoxAgg (i := 0) (l := (Arr4.dc .u64 x0)) rfl (dk rfl) ul25 rfl i25 rfl rfl rfl rfl ?_)
 obtain ⟨v_328, e_329, h⟩ := bind_some h
 refine sp rfl (OpT.callPA rfl (dk rfl) Tryd.func35 rfl rfl (Args.cons rfl Args.nil) (CallR.nil (r1_Spans_T K e_329)) ?_)
 refine aw rfl ?_
 refine TL'.nil (tN ?_)
 refine T.seq ?_
 refine T.seq ?_
 refine T.rL ?_
 refine aw rfl ?_
 refine TL'.nil (tN ?_)
 refine T.block ?_
 refine T.loop ?_
 refine TL.by_turn ?_ (r5_Set_l0_T K K (⟨#[91]⟩ : ByteArray) v_328 (0 : Int) h)
 exact Turn.rp (.cons rfl (.cons rfl (.cons rfl (.nil _)))) (.n _)
abbrev r5_node_q (r : ByteArray) : Exit → St → Prop := retS Tryd.prog Tryd.f24 (fun y t => y = (.str r) ∧ t = [])
abbrev r5_node_qs11111 (r : ByteArray) : Exit → St → Prop := thenS (fun s' => T Tryd.prog 59 (Code.at [1, 1, 1, 1, 1] (codeOf Tryd.f24)) s' ((r5_node_q r))) ((r5_node_q r))
abbrev r5_node_qb1x11111 (r : ByteArray) : Exit → St → Prop := inBlockS 1 ((r5_node_qs11111 r))
abbrev r5_node_ql1111010 (r : ByteArray) : Exit → St → Prop := thenS (fun s' => TL Tryd.prog 59 (Code.at [1, 1, 1, 1, 0, 1, 0, 0] (codeOf Tryd.f24)) s' ((r5_node_qb1x11111 r))) ((r5_node_qb1x11111 r))
abbrev r5_node_qs1111010011 (r : ByteArray) : Exit → St → Prop := thenS (fun s' => T Tryd.prog 59 (Code.at [1, 1, 1, 1, 0, 1, 0, 0, 1, 1] (codeOf Tryd.f24)) s' ((r5_node_ql1111010 r))) ((r5_node_ql1111010 r))
abbrev r5_node_qb2_1x1111010011 (r : ByteArray) : Exit → St → Prop := inBlockS 2 ((r5_node_qs1111010011 r))
abbrev r5_node_qs111101001001 (r : ByteArray) : Exit → St → Prop := thenS (fun s' => T Tryd.prog 59 (Code.at [1, 1, 1, 1, 0, 1, 0, 0, 1, 0, 0, 1] (codeOf Tryd.f24)) s' ((r5_node_qb2_1x1111010011 r))) ((r5_node_qb2_1x1111010011 r))
abbrev r5_node_l0_H (r : ByteArray) (go : (List aNd) → ByteArray → Int → Int → Arr4 → (List Int) → Int → Int → ByteArray → Option ByteArray) : Prop := ∀ (x0 : List aNd) (x6_0_7 : ByteArray) (x7_0_8 : Int) (y5_0_1 : Int) (y5_0_2 : Arr4) (y5_0_3 : List Int) (y5_0_4 : Int) (y5_0_5 : Int) (y5_0_6 : ByteArray) (flx0 : Bool) (b5_0 : Nat), go x0 x6_0_7 x7_0_8 y5_0_1 y5_0_2 y5_0_3 y5_0_4 y5_0_5 y5_0_6 = some r → TL Tryd.prog 59 (Code.at [1, 1, 1, 1, 0, 1, 0, 0] (codeOf Tryd.f24)) ⟨[(0, .sl flx0 9 (x0.map c_aNd)), (5, .ptr b5_0 0), (6, .str x6_0_7), (7, .int .i64 x7_0_8)], [.box b5_0 42 [.d (.int .u8 y5_0_1), .d (.int .u64 y5_0_2.a0), .d (.int .u64 y5_0_2.a1), .d (.int .u64 y5_0_2.a2), .d (.int .u64 y5_0_2.a3), .d (.sl false 1 (y5_0_3.map (cI .i64))), .d (.int .i64 y5_0_4), .d (.int .i64 y5_0_5), .d (.str y5_0_6)]]⟩ (r5_node_qb1x11111 r)
theorem r5_node_j2_T {r : ByteArray} (K : Nat) (rec_r5_node : (List aNd) → Int → Option ByteArray) (hrec_r5_node : r5_node_S rec_r5_node) (go0 : (List aNd) → ByteArray → Int → Int → Arr4 → (List Int) → Int → Int → ByteArray → Option ByteArray) (hgo0 : r5_node_l0_H r go0) (x0 : List aNd) (x6_2_7 : ByteArray) (x7_2_8 : Int) (y5_0_1 : Int) (y5_0_2 : Arr4) (y5_0_3 : List Int) (y5_0_4 : Int) (y5_0_5 : Int) (y5_0_6 : ByteArray) (flx0 : Bool) (b5_2 : Nat) (h : r5_node_j2 K rec_r5_node go0 x0 x6_2_7 x7_2_8 y5_0_1 y5_0_2 y5_0_3 y5_0_4 y5_0_5 y5_0_6 = some r) : T Tryd.prog 59 (Code.at [1, 1, 1, 1, 0, 1, 0, 0, 1, 0, 0, 1] (codeOf Tryd.f24)) ⟨[(0, .sl flx0 9 (x0.map c_aNd)), (5, .ptr b5_2 0), (6, .str x6_2_7), (7, .int .i64 x7_2_8)], [.box b5_2 42 [.d (.int .u8 y5_0_1), .d (.int .u64 y5_0_2.a0), .d (.int .u64 y5_0_2.a1), .d (.int .u64 y5_0_2.a2), .d (.int .u64 y5_0_2.a3), .d (.sl false 1 (y5_0_3.map (cI .i64))), .d (.int .i64 y5_0_4), .d (.int .i64 y5_0_5), .d (.str y5_0_6)]]⟩ (r5_node_qb2_1x1111010011 r) := by
 unfold r5_node_j2 at h
 refine T.rL ?_
 refine mw rfl ?_
 refine mw rfl ?_
 refine sp rfl (OpT.loadBoxAgg (i := 0) (l := [.int .u8 y5_0_1, .int .u64 y5_0_2.a0, .int .u64 y5_0_2.a1, .int .u64 y5_0_2.a2, .int .u64 y5_0_2.a3, .sl false 1 (y5_0_3.map (cI .i64)), .int .i64 y5_0_4, .int .i64 y5_0_5, .str y5_0_6]) rfl (dk rfl) ul42 rfl i42 rfl rfl rfl rfl ?_)
 refine mw rfl ?_
 obtain ⟨v_294, e_295, h⟩ := bind_some h
 refine sp rfl (OpT.callPA rfl (dk rfl) Tryd.func46 rfl rfl (Args.cons rfl (Args.cons rfl (Args.cons rfl Args.nil))) (CallR.nil (r5_kid_T K rec_r5_node hrec_r5_node (flx0 := flx0) e_295)) ?_)
 obtain ⟨g_296, h⟩ := ck_some h
 refine sp rfl (OpT.str_add rfl (dk rfl) rfl rfl g_296 ?_)
 refine aw rfl ?_
 refine TL'.nil (inBlock_normal (tN ?_))
 refine T.rL ?_
 refine mw rfl ?_
 refine sp rfl (OpT.int2 rfl rfl (dk rfl) rfl rfl ?_)
 refine aw rfl ?_
 refine TL'.nil (tN ?_)
 refine TL.by_turn ?_ (hgo0 x0 (x6_2_7 ++ v_294) (IntKind.i64.wrap (x7_2_8 + (1 : Int))) y5_0_1 y5_0_2 y5_0_3 y5_0_4 y5_0_5 y5_0_6 flx0 b5_2 h)
 exact Turn.rp (.cons rfl (.cons rfl (.cons rfl (.cons rfl (.nil _))))) (.c .z (.n _))
theorem r5_node_j1_T {r : ByteArray} (K : Nat) (rec_r5_node : (List aNd) → Int → Option ByteArray) (hrec_r5_node : r5_node_S rec_r5_node) (go0 : (List aNd) → ByteArray → Int → Int → Arr4 → (List Int) → Int → Int → ByteArray → Option ByteArray) (hgo0 : r5_node_l0_H r go0) (x0 : List aNd) (x6_1_7 : ByteArray) (x7_1_8 : Int) (y5_0_1 : Int) (y5_0_2 : Arr4) (y5_0_3 : List Int) (y5_0_4 : Int) (y5_0_5 : Int) (y5_0_6 : ByteArray) (flx0 : Bool) (b5_1 : Nat) (h : r5_node_j1 K rec_r5_node go0 x0 x6_1_7 x7_1_8 y5_0_1 y5_0_2 y5_0_3 y5_0_4 y5_0_5 y5_0_6 = some r) : T Tryd.prog 59 (Code.at [1, 1, 1, 1, 0, 1, 0, 0, 1, 0, 0, 0, 1, 1] (codeOf Tryd.f24)) ⟨[(0, .sl flx0 9 (x0.map c_aNd)), (5, .ptr b5_1 0), (6, .str x6_1_7), (7, .int .i64 x7_1_8)], [.box b5_1 42 [.d (.int .u8 y5_0_1), .d (.int .u64 y5_0_2.a0), .d (.int .u64 y5_0_2.a1), .d (.int .u64 y5_0_2.a2), .d (.int .u64 y5_0_2.a3), .d (.sl false 1 (y5_0_3.map (cI .i64))), .d (.int .i64 y5_0_4), .d (.int .i64 y5_0_5), .d (.str y5_0_6)]]⟩ (r5_node_qs111101001001 r) := by
 unfold r5_node_j1 at h
 refine T.skip (tN ?_)
 refine T.by_turn ?_ (r5_node_j2_T K rec_r5_node hrec_r5_node go0 hgo0 x0 x6_1_7 x7_1_8 y5_0_1 y5_0_2 y5_0_3 y5_0_4 y5_0_5 y5_0_6 flx0 b5_1 h)
 exact Turn.rp (.cons rfl (.cons rfl (.cons rfl (.cons rfl (.nil _))))) (.c .z (.n _))
theorem r5_node_l0_T {r : ByteArray} (K : Nat) (rec_r5_node : (List aNd) → Int → Option ByteArray) (hrec_r5_node : r5_node_S rec_r5_node) : ∀ (k : Nat), ∀ (x0 : List aNd) (x6_0_7 : ByteArray) (x7_0_8 : Int) (y5_0_1 : Int) (y5_0_2 : Arr4) (y5_0_3 : List Int) (y5_0_4 : Int) (y5_0_5 : Int) (y5_0_6 : ByteArray) (flx0 : Bool) (b5_0 : Nat), r5_node_l0 K rec_r5_node k x0 x6_0_7 x7_0_8 y5_0_1 y5_0_2 y5_0_3 y5_0_4 y5_0_5 y5_0_6 = some r → TL Tryd.prog 59 (Code.at [1, 1, 1, 1, 0, 1, 0, 0] (codeOf Tryd.f24)) ⟨[(0, .sl flx0 9 (x0.map c_aNd)), (5, .ptr b5_0 0), (6, .str x6_0_7), (7, .int .i64 x7_0_8)], [.box b5_0 42 [.d (.int .u8 y5_0_1), .d (.int .u64 y5_0_2.a0), .d (.int .u64 y5_0_2.a1), .d (.int .u64 y5_0_2.a2), .d (.int .u64 y5_0_2.a3), .d (.sl false 1 (y5_0_3.map (cI .i64))), .d (.int .i64 y5_0_4), .d (.int .i64 y5_0_5), .d (.str y5_0_6)]]⟩ (r5_node_qb1x11111 r) := by
  intro k
  induction k with
  | zero =>
    intro x0 x6_0_7 x7_0_8 y5_0_1 y5_0_2 y5_0_3 y5_0_4 y5_0_5 y5_0_6 flx0 b5_0 h
    cases (show (none : Option ByteArray) = some r from h)
  | succ k ih =>
    intro x0 x6_0_7 x7_0_8 y5_0_1 y5_0_2 y5_0_3 y5_0_4 y5_0_5 y5_0_6 flx0 b5_0 h
    rw [r5_node_l0] at h
    refine TL.round ?_
    refine T.seq ?_
    refine T.seq ?_
    refine T.rL ?_
    refine mv rfl rfl rfl rfl rfl ?_
    refine sp rfl (OpT.fieldPtr rfl (dl rfl rfl) Tryd.underlying42 rfl i40 (by decide) rfl ?_)
    refine sp rfl (OpT.loadBox (i := 0) rfl (dl rfl rfl) Tryd.underlying40 rfl rfl rfl rfl ?_)
    refine sp rfl (OpT.lenSlM (xs := y5_0_3) (f := (cI .i64)) rfl (dl rfl rfl) Tryd.underlying40 rfl ?_)
    refine sp rfl (OpT.int2 rfl rfl (dl rfl rfl) rfl rfl ?_)
    refine TL'.nil (tN ?_)
    rcases bif_some h with ⟨c_290, h⟩ | ⟨c_290, h⟩
    · refine T.condT rfl c_290 ?_
      refine T.skip (tN ?_)
      refine T.seq ?_
      refine T.block ?_
      refine T.seq ?_
      refine T.seq ?_
      refine T.rL ?_
      refine mv rfl rfl rfl rfl rfl ?_
      refine sp rfl (OpT.int2 rfl rfl (dl rfl rfl) rfl rfl ?_)
      refine mv rfl rfl rfl rfl rfl ?_
      rcases bif_some h with ⟨c_291, h⟩ | ⟨c_291, h⟩
      · refine TL'.step (.on rfl rfl rfl c_291) (OpT.fieldPtr rfl (dl rfl rfl) Tryd.underlying42 rfl i5 (by decide) rfl ?_)
        refine TL'.step (.on rfl rfl rfl c_291) (OpT.loadBox (i := 0) rfl (dl rfl rfl) Tryd.underlying5 rfl rfl rfl rfl ?_)
        refine TL'.step (.on rfl rfl rfl c_291) (OpT.int2 rfl rfl (dl rfl rfl) rfl rfl ?_)
        refine sp rfl (OpT.pickT rfl (dl rfl rfl) rfl c_291 rfl ?_)
        refine TL'.nil (tN ?_)
        rcases bif_some h with ⟨c_292, h⟩ | ⟨c_292, h⟩
        · refine T.condT rfl c_292 ?_
          refine T.rL ?_
          refine mv rfl rfl rfl rfl rfl ?_
          obtain ⟨g_293, h⟩ := ck_some h
          refine sp rfl (OpT.str_add rfl (dl rfl rfl) rfl rfl g_293 ?_)
          refine asg rfl rfl rfl rfl rfl ?_
          refine TL'.nil (tN ?_)
          refine T.by_turn ?_ (r5_node_j2_T K rec_r5_node hrec_r5_node (r5_node_l0 K rec_r5_node k) ih x0 (x6_0_7 ++ (⟨#[124]⟩ : ByteArray)) x7_0_8 y5_0_1 y5_0_2 y5_0_3 y5_0_4 y5_0_5 y5_0_6 flx0 b5_0 h)
          exact Turn.rp (.cons rfl (.cons rfl (.cons rfl (.cons rfl (.nil _))))) (.c .z (.n _))
        · refine T.condF rfl c_292 ?_
          refine T.by_turn ?_ (r5_node_j1_T K rec_r5_node hrec_r5_node (r5_node_l0 K rec_r5_node k) ih x0 x6_0_7 x7_0_8 y5_0_1 y5_0_2 y5_0_3 y5_0_4 y5_0_5 y5_0_6 flx0 b5_0 h)
          exact Turn.rp (.cons rfl (.cons rfl (.cons rfl (.cons rfl (.nil _))))) (.c .z (.n _))
      · refine TL'.passU (.off _ _ _ _ rfl rfl rfl c_291) (dl rfl rfl) ?_
        refine TL'.passU (.off _ _ _ _ rfl rfl rfl c_291) (dl rfl rfl) ?_
        refine TL'.passU (.off _ _ _ _ rfl rfl rfl c_291) (dl rfl rfl) ?_
        refine sp rfl (OpT.pickF rfl (dl rfl rfl) rfl c_291 rfl ?_)
        refine TL'.nil (tN ?_)
        refine T.condF rfl rfl ?_
        refine T.by_turn ?_ (r5_node_j1_T K rec_r5_node hrec_r5_node (r5_node_l0 K rec_r5_node k) ih x0 x6_0_7 x7_0_8 y5_0_1 y5_0_2 y5_0_3 y5_0_4 y5_0_5 y5_0_6 flx0 b5_0 h)
        exact Turn.rp (.cons rfl (.cons rfl (.cons rfl (.cons rfl (.nil _))))) (.c .z (.n _))
    · refine T.condF rfl c_290 ?_
      refine T.exit (thenS_exit (thenS_exit (inBlock_exit (tN ?_))))
      refine T.seq ?_
      refine T.rL ?_
      refine mv rfl rfl rfl rfl rfl ?_
      refine asg rfl rfl rfl rfl rfl ?_
      refine TL'.nil (tN ?_)
      refine T.ret ?_
      exact Fin.done (.cons _ _ _ _ (.tmp 4 _ rfl) .nil) (by cases h; exact ⟨rfl, rfl⟩)
theorem r5_node_b_T (K : Nat) (rec_r5_node : (List aNd) → Int → Option ByteArray) (hrec_r5_node : r5_node_S rec_r5_node) {x0 : List aNd} {x1 : Int} {flx0 : Bool} {r : ByteArray} (h : r5_node_b K rec_r5_node x0 x1 = some r) : CallR Tryd.prog 24 [.sl flx0 9 (x0.map c_aNd), .int .i64 x1] [] (.str r) := by
 refine CallT.intro Tryd.func24 rfl (nb rfl) ?_
 show T Tryd.prog 59 (Code.at [] (codeOf Tryd.f24)) ⟨paramSlots 0 [.sl flx0 9 (x0.map c_aNd), .int .i64 x1], []⟩ (r5_node_q r)
 unfold r5_node_b at h
 refine T.seq ?_
 refine T.rL ?_
 refine aw rfl ?_
 refine TL'.nil (tN ?_)
 refine T.seq ?_
 refine T.rL ?_
 refine mw rfl ?_
 refine mw rfl ?_
 obtain ⟨v_269, e_270, h⟩ := bind_some h
 refine sp rfl (OpT.indexSlM (xs := x0) (f := c_aNd) (v := v_269) rfl (dk rfl) ul22 i42 rfl rfl e_270 ?_)
 refine sp rfl (OpT.loadRefAgg rfl (dk rfl) ul42 rfl i42 rfl (nb rfl) ?_)
 refine sp rfl (OpT.alloc' rfl (dk rfl) i42 rfl (fun b_271 => ?_))
 refine sp rfl (OpT.storeAggTo (i := 0) (cells' := [.d (.int .u8 v_269.Op), .d (.int .u64 v_269.S.a0), .d (.int .u64 v_269.S.a1), .d (.int .u64 v_269.S.a2), .d (.int .u64 v_269.S.a3), .d (.sl false 1 (v_269.L.map (cI .i64))), .d (.int .i64 v_269.Lo), .d (.int .i64 v_269.Hi), .d (.str v_269.Name)]) rfl rfl i42 rfl rfl rfl rfl (nb rfl) rfl ?_)
 refine TL'.nil (tN ?_)
 refine T.seq ?_
 refine T.seq ?_
 refine T.rL ?_
 refine sp rfl (OpT.fieldPtr rfl (dk rfl) ul42 rfl i5 (by decide) rfl ?_)
 refine sp rfl (OpT.loadBox (i := 0) rfl (dk rfl) ul5 rfl rfl rfl rfl ?_)
 refine TL'.nil (tN ?_)
 refine T.block ?_
 refine T.seq ?_
 refine T.rL ?_
 refine sp rfl (OpT.int2 rfl rfl (dk rfl) rfl rfl ?_)
 refine aw rfl ?_
 refine TL'.nil (tN ?_)
 rcases bif_some h with ⟨c_272, h⟩ | ⟨c_272, h⟩
 refine T.condT rfl c_272 ?_
 refine T.seq ?_
 refine T.rL ?_
 refine sp rfl (OpT.fieldPtr rfl (dk rfl) ul42 rfl i25 (by decide) rfl ?_)
 refine sp rfl (OpT.loadBoxAgg (i := 0) (l := (Arr4.dc .u64 v_269.S)) rfl (dk rfl) ul25 rfl i25 rfl rfl rfl rfl ?_)
 obtain ⟨v_273, e_274, h⟩ := bind_some h
 refine sp rfl (OpT.callPA rfl (dk rfl) Tryd.func15 rfl rfl (Args.cons rfl Args.nil) (CallR.nil (r5_Set_T K e_274)) ?_)
 refine aw rfl ?_
 refine TL'.nil (tN ?_)
 refine T.ret (inBlock_ret (thenS_ret ?_))
 exact Fin.done (.cons _ _ _ _ (.tmp 4 _ rfl) .nil) (by cases h; exact ⟨rfl, rfl⟩)
 refine T.condF rfl c_272 ?_
 refine T.seq ?_
 refine T.rL ?_
 refine sp rfl (OpT.int2 rfl rfl (dk rfl) rfl rfl ?_)
 refine aw rfl ?_
 refine TL'.nil (tN ?_)
 rcases bif_some h with ⟨c_275, h⟩ | ⟨c_275, h⟩
 refine T.condT rfl c_275 ?_
 refine T.seq ?_
 refine T.rL ?_
 refine sp rfl (OpT.fieldPtr rfl (dk rfl) ul42 rfl i9 (by decide) rfl ?_)
 refine sp rfl (OpT.loadBox (i := 0) rfl (dk rfl) ul9 rfl rfl rfl rfl ?_)
 obtain ⟨g_276, h⟩ := ck_some h
 refine sp rfl (OpT.str_add rfl (dk rfl) rfl rfl g_276 ?_)
 obtain ⟨g_277, h⟩ := ck_some h
 refine sp rfl (OpT.str_add rfl (dk rfl) rfl rfl g_277 ?_)
 refine aw rfl ?_
 refine TL'.nil (tN ?_)
 refine T.ret (inBlock_ret (thenS_ret ?_))
 exact Fin.done (.cons _ _ _ _ (.tmp 4 _ rfl) .nil) (by cases h; exact ⟨rfl, rfl⟩)
 refine T.condF rfl c_275 ?_
 refine T.seq ?_
 refine T.rL ?_
 refine sp rfl (OpT.int2 rfl rfl (dk rfl) rfl rfl ?_)
 refine aw rfl ?_
 refine TL'.nil (tN ?_)
 rcases bif_some h with ⟨c_278, h⟩ | ⟨c_278, h⟩
 refine T.condT rfl c_278 ?_
 refine T.seq ?_
 refine DG.start ?_
 refine DG.mv rfl rfl rfl rfl rfl rfl ?_
 refine DG.step (c := ⟨some 28, .agg [.int .u8 v_269.Op, .int .u64 v_269.S.a0, .int .u64 v_269.S.a1, .int .u64 v_269.S.a2, .int .u64 v_269.S.a3, .sl false 1 (v_269.L.map (cI .i64)), .int .i64 v_269.Lo, .int .i64 v_269.Hi, .str v_269.Name], [(5, .ptr b_271 0)], [(0, .box b_271 42 [.d (.int .u8 v_269.Op), .d (.int .u64 v_269.S.a0), .d (.int .u64 v_269.S.a1), .d (.int .u64 v_269.S.a2), .d (.int .u64 v_269.S.a3), .d (.sl false 1 (v_269.L.map (cI .i64))), .d (.int .i64 v_269.Lo), .d (.int .i64 v_269.Hi), .d (.str v_269.Name)])], []⟩) (fun t hm => One.step rfl (.free rfl) (OpT.loadBoxAgg (i := 0) (l := [.int .u8 v_269.Op, .int .u64 v_269.S.a0, .int .u64 v_269.S.a1, .int .u64 v_269.S.a2, .int .u64 v_269.S.a3, .sl false 1 (v_269.L.map (cI .i64)), .int .i64 v_269.Lo, .int .i64 v_269.Hi, .str v_269.Name]) rfl (dk rfl) ul42 rfl i42 hm.s0 hm.o0 rfl rfl rfl)) (Ct.mo rfl rfl) ?_
 obtain ⟨v_285, e_286, h⟩ := bind_some h
 refine DG.step (c := ⟨some 29, .str v_285, [(27, .sl flx0 9 (x0.map c_aNd)), (28, .agg [.int .u8 v_269.Op, .int .u64 v_269.S.a0, .int .u64 v_269.S.a1, .int .u64 v_269.S.a2, .int .u64 v_269.S.a3, .sl false 1 (v_269.L.map (cI .i64)), .int .i64 v_269.Lo, .int .i64 v_269.Hi, .str v_269.Name])], [], []⟩) (fun t hm => One.step rfl (.free rfl) (OpT.callPA rfl (dk rfl) Tryd.func46 rfl rfl (Args.cons hm.s0 (Args.cons hm.s1 (Args.cons rfl Args.nil))) (CallR.nil (r5_kid_T K rec_r5_node hrec_r5_node (flx0 := flx0) e_286)) rfl)) (Ct.mo rfl rfl) ?_
 refine DG.step (c := ⟨some 30, .ptr b_271 (0 + 6), [(5, .ptr b_271 0)], [], []⟩) (fun t hm => One.step rfl (.free rfl) (OpT.fieldPtr rfl (dk rfl) ul42 rfl i3 (by decide) hm.s0 rfl)) (Ct.mo rfl rfl) ?_
 refine DG.step (c := ⟨some 31, .int .i64 v_269.Lo, [(30, .ptr b_271 (0 + 6))], [(0, .box b_271 42 [.d (.int .u8 v_269.Op), .d (.int .u64 v_269.S.a0), .d (.int .u64 v_269.S.a1), .d (.int .u64 v_269.S.a2), .d (.int .u64 v_269.S.a3), .d (.sl false 1 (v_269.L.map (cI .i64))), .d (.int .i64 v_269.Lo), .d (.int .i64 v_269.Hi), .d (.str v_269.Name)])], []⟩) (fun t hm => One.step rfl (.free rfl) (OpT.loadBox (i := 0) rfl (dk rfl) ul3 rfl hm.s0 hm.o0 rfl rfl)) (Ct.mo rfl rfl) ?_
 refine DG.step (c := ⟨some 32, .ptr b_271 (0 + 7), [(5, .ptr b_271 0)], [], []⟩) (fun t hm => One.step rfl (.free rfl) (OpT.fieldPtr rfl (dk rfl) ul42 rfl i3 (by decide) hm.s0 rfl)) (Ct.mo rfl rfl) ?_
 refine DG.step (c := ⟨some 33, .int .i64 v_269.Hi, [(32, .ptr b_271 (0 + 7))], [(0, .box b_271 42 [.d (.int .u8 v_269.Op), .d (.int .u64 v_269.S.a0), .d (.int .u64 v_269.S.a1), .d (.int .u64 v_269.S.a2), .d (.int .u64 v_269.S.a3), .d (.sl false 1 (v_269.L.map (cI .i64))), .d (.int .i64 v_269.Lo), .d (.int .i64 v_269.Hi), .d (.str v_269.Name)])], []⟩) (fun t hm => One.step rfl (.free rfl) (OpT.loadBox (i := 0) rfl (dk rfl) ul3 rfl hm.s0 hm.o0 rfl rfl)) (Ct.mo rfl rfl) ?_
 obtain ⟨v_287, e_288, h⟩ := bind_some h
 refine DG.step (c := ⟨some 34, .str v_287, [(31, .int .i64 v_269.Lo), (33, .int .i64 v_269.Hi)], [], []⟩) (fun t hm => One.step rfl (.free rfl) (OpT.callPA rfl (dk rfl) Tryd.func47 rfl rfl (Args.cons hm.s0 (Args.cons hm.s1 Args.nil)) (CallR.nil (r5_times_T K e_288)) rfl)) (Ct.mo rfl rfl) ?_
 obtain ⟨g_289, h⟩ := ck_some h
 refine DG.step (c := ⟨some 35, .str (v_285 ++ v_287), [(29, .str v_285), (34, .str v_287)], [], []⟩) (fun t hm => One.step rfl (.free rfl) (OpT.str_add rfl (dk rfl) hm.s0 hm.s1 g_289 rfl)) (Ct.mo rfl rfl) ?_
 refine DG.step (c := ⟨some 4, .str (v_285 ++ v_287), [(35, .str (v_285 ++ v_287))], [], []⟩) (fun t hm => One.step rfl (.free rfl) (OpT.assign rfl (dk rfl) hm.s0 rfl)) (Ct.mo rfl rfl) ?_
 refine DG.fin (s1 := ⟨[(4, .str (v_285 ++ v_287))], [.box b_271 42 [.d (.int .u8 v_269.Op), .d (.int .u64 v_269.S.a0), .d (.int .u64 v_269.S.a1), .d (.int .u64 v_269.S.a2), .d (.int .u64 v_269.S.a3), .d (.sl false 1 (v_269.L.map (cI .i64))), .d (.int .i64 v_269.Lo), .d (.int .i64 v_269.Hi), .d (.str v_269.Name)]]⟩) (ms := [0, 0, 3, 0, 8, 0, 32, 127, 255, 511]) TrydMixed rfl (by kernel_rfl) (by kernel_rfl) (by kernel_rfl) (.cons rfl (.nil _)) rfl (fun u hu => (tN (T.by_turn hu ?_)))
 refine T.ret (inBlock_ret (thenS_ret ?_))
 exact Fin.done (.cons _ _ _ _ (.tmp 4 _ rfl) .nil) (by cases h; exact ⟨rfl, rfl⟩)
 refine T.condF rfl c_278 ?_
 refine T.skip (inBlock_normal (tN ?_))
 refine T.seq ?_
 refine T.rL ?_
 refine aw rfl ?_
 refine TL'.nil (tN ?_)
 refine T.seq ?_
 refine T.seq ?_
 refine T.rL ?_
 refine aw rfl ?_
 refine TL'.nil (tN ?_)
 refine T.block ?_
 refine T.loop ?_
 refine TL.by_turn ?_ (r5_node_l0_T K rec_r5_node hrec_r5_node K x0 (⟨#[]⟩ : ByteArray) (0 : Int) v_269.Op v_269.S v_269.L v_269.Lo v_269.Hi v_269.Name flx0 b_271 h)
 exact Turn.rp (.cons rfl (.cons rfl (.cons rfl (.cons rfl (.nil _))))) (.c .z (.n _))
theorem r5_node_r_T (K : Nat) : ∀ n, r5_node_S (r5_node_r K n) := by
  intro n
  induction n with
  | zero =>
    intro x0 x1 flx0 r h
    cases (show (none : Option ByteArray) = some r from h)
  | succ n ih =>
    intro x0 x1 flx0 r h
    exact r5_node_b_T K (r5_node_r K n) ih h
theorem r5_node_T (K : Nat) {x0 : List aNd} {x1 : Int} {flx0 : Bool} {r : ByteArray} (h : r5_node K x0 x1 = some r) : CallR Tryd.prog 24 [.sl flx0 9 (x0.map c_aNd), .int .i64 x1] [] (.str r) := r5_node_r_T K K x0 x1 flx0 r h
abbrev r5_Tree_q (r : ByteArray × Bool) : Exit → St → Prop := retS Tryd.prog Tryd.f10 (fun y t => y = (.tup [.str r.1, .bool r.2]) ∧ t = [])
theorem r5_Tree_T (K : Nat) {x0 : List aNd} {flx0 : Bool} {r : ByteArray × Bool} (h : r5_Tree K x0 = some r) : CallR Tryd.prog 10 [.sl flx0 9 (x0.map c_aNd)] [] (.tup [.str r.1, .bool r.2]) := by
 refine CallT.intro Tryd.func10 rfl (nb rfl) ?_
 show T Tryd.prog 12 (Code.at [] (codeOf Tryd.f10)) ⟨paramSlots 0 [.sl flx0 9 (x0.map c_aNd)], []⟩ (r5_Tree_q r)
 unfold r5_Tree at h
 refine T.seq ?_
 refine T.rL ?_
 refine aw rfl ?_
 refine aw rfl ?_
 refine TL'.nil (tN ?_)
 refine T.seq ?_
 refine T.seq ?_
 refine T.rL ?_
 refine mw rfl ?_
 obtain ⟨v_21, e_22, h⟩ := bind_some h
 refine sp rfl (OpT.callPA rfl (dk rfl) Tryd.func23 rfl rfl (Args.cons rfl Args.nil) (CallR.nil (r4_Right_T K (flx0 := flx0) e_22)) ?_)
 refine sp rfl (OpT.not rfl (dk rfl) rfl ?_)
 refine TL'.nil (tN ?_)
 rcases bif_some h with ⟨c_23, h⟩ | ⟨c_23, h⟩
 refine T.condT rfl c_23 ?_
 refine T.seq ?_
 refine T.rL ?_
 refine aw rfl ?_
 refine aw rfl ?_
 refine TL'.nil (tN ?_)
 refine T.ret (thenS_ret ?_)
 exact Fin.done (.cons _ _ _ _ (.tmp 2 _ rfl) (.cons _ _ _ _ (.tmp 3 _ rfl) .nil)) (by cases h; exact ⟨rfl, rfl⟩)
 refine T.condF rfl c_23 ?_
 refine T.skip (tN ?_)
 refine T.seq ?_
 refine T.rL ?_
 refine mw rfl ?_
 refine mw rfl ?_
 refine sp rfl (OpT.lenSlM (xs := x0) (f := c_aNd) rfl (dk rfl) ul22 rfl ?_)
 refine sp rfl (OpT.int2 rfl rfl (dk rfl) rfl rfl ?_)
 obtain ⟨v_24, e_25, h⟩ := bind_some h
 refine sp rfl (OpT.callPA rfl (dk rfl) Tryd.func24 rfl rfl (Args.cons rfl (Args.cons rfl Args.nil)) (CallR.nil (r5_node_T K (flx0 := flx0) e_25)) ?_)
 refine aw rfl ?_
 refine aw rfl ?_
 refine TL'.nil (tN ?_)
 refine T.ret ?_
 exact Fin.done (.cons _ _ _ _ (.tmp 2 _ rfl) (.cons _ _ _ _ (.tmp 3 _ rfl) .nil)) (by cases h; exact ⟨rfl, rfl⟩)
end Go.Rv

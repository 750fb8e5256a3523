/- Each function computes what its plain text says: printed by a program of ours. -/
import Derived.Test.YtjgldamcldbbfaaDoorRgW1
namespace Go.Rv
open Go.Proofs
set_option maxRecDepth 100000
set_option linter.unusedVariables false

abbrev raddlelaw01_BsetBack_q (r : Bool) : Exit → St → Prop := retS Tryd.prog Tryd.f4 (fun y t => y = (.c (.ex (.bool r))) ∧ t = [.ro 0 deBruijnD])

abbrev raddlelaw01_BsetBack_qs11111 (r : Bool) : Exit → St → Prop := thenS (fun s' => T Tryd.prog 55 (Code.at [1, 1, 1, 1, 1] (codeOf Tryd.f4)) s' ((raddlelaw01_BsetBack_q r))) ((raddlelaw01_BsetBack_q r))

abbrev raddlelaw01_BsetBack_qb0x11111 (r : Bool) : Exit → St → Prop := inBlockS 0 ((raddlelaw01_BsetBack_qs11111 r))

abbrev raddlelaw01_BsetBack_ql1111010 (r : Bool) : Exit → St → Prop := thenS (fun s' => TL Tryd.prog 55 (Code.at [1, 1, 1, 1, 0, 1, 0, 0] (codeOf Tryd.f4)) s' ((raddlelaw01_BsetBack_qb0x11111 r))) ((raddlelaw01_BsetBack_qb0x11111 r))

abbrev raddlelaw01_BsetBack_qs11110100111 (r : Bool) : Exit → St → Prop := thenS (fun s' => T Tryd.prog 55 (Code.at [1, 1, 1, 1, 0, 1, 0, 0, 1, 1, 1] (codeOf Tryd.f4)) s' ((raddlelaw01_BsetBack_ql1111010 r))) ((raddlelaw01_BsetBack_ql1111010 r))

abbrev raddlelaw01_BsetBack_qb1_0x11110100111 (r : Bool) : Exit → St → Prop := inBlockS 1 ((raddlelaw01_BsetBack_qs11110100111 r))

abbrev raddlelaw01_BsetBack_qs11110100110011 (r : Bool) : Exit → St → Prop := thenS (fun s' => T Tryd.prog 55 (Code.at [1, 1, 1, 1, 0, 1, 0, 0, 1, 1, 0, 0, 1, 1] (codeOf Tryd.f4)) s' ((raddlelaw01_BsetBack_qb1_0x11110100111 r))) ((raddlelaw01_BsetBack_qb1_0x11110100111 r))

theorem raddlelaw01_BsetBack_j1_T {r : Bool} (K : Nat) (h : raddlelaw01_BsetBack_j1 K = some r) : T Tryd.prog 55 (Code.at [1, 1, 1, 1, 0, 1, 0, 0, 1, 1, 0, 0, 1, 0, 1, 0] (codeOf Tryd.f4)) ⟨[], [.ro 0 deBruijnD]⟩ (raddlelaw01_BsetBack_qs11110100110011 r) := by
  unfold raddlelaw01_BsetBack_j1 at h
  refine T.seq ?_
  refine T.regionL ?_
  refine TL'.step (.free rfl) (OpT.assign rfl (dlt rfl (by decide)) rfl ?_)
  refine TL'.nil (thenS_normal ?_)
  refine T.ret (thenS_ret (inBlock_ret (thenS_ret (thenS_ret (inBlock_ret (thenS_ret ?_))))))
  exact Fin.doneK (.cons _ _ _ _ (.tmp 2 _ rfl) .nil) (.cons 0 rfl (.nil _)) (by cases h; exact ⟨rfl, rfl⟩)

theorem raddlelaw01_BsetBack_l0_T {r : Bool} (K : Nat) : ∀ (k : Nat), ∀ (x3_0_1 : Bool) (x5_0_3 : Int) (x10_0_4 : List Arr2) (x11_0_5 : Int) (x12_0_6 : Int) (x0 : Arr4) (y4_0_2 : List Arr4) (b1_0 : Nat) (w4_0 : Value), raddlelaw01_BsetBack_l0 K k x3_0_1 x5_0_3 x10_0_4 x11_0_5 x12_0_6 x0 y4_0_2 = some r → TL Tryd.prog 55 (Code.at [1, 1, 1, 1, 0, 1, 0, 0] (codeOf Tryd.f4)) ⟨[(1, .c (.ex (.pointer (some ⟨b1_0, 0, none⟩)))), (3, .c (.ex (.bool x3_0_1))), (4, .c (.ex w4_0)), (5, .c (.ex (.int .i64 x5_0_3))), (10, .c (.sl false 2 (x10_0_4.map (Arr2.dc .u8)))), (11, .c (.ex (.int .i64 x11_0_5))), (12, .c (.ex (.int .i64 x12_0_6)))], [.box b1_0 24 (Arr4.oc .u64 x0), .arrA w4_0 24 4 (y4_0_2.map (Arr4.dc .u64)), .ro 0 deBruijnD]⟩ (raddlelaw01_BsetBack_qb0x11111 r) := by
  intro k
  induction k with
  | zero =>
    intro x3_0_1 x5_0_3 x10_0_4 x11_0_5 x12_0_6 x0 y4_0_2 b1_0 w4_0 h
    cases (show (none : Option Bool) = some r from h)
  | succ k ih =>
    intro x3_0_1 x5_0_3 x10_0_4 x11_0_5 x12_0_6 x0 y4_0_2 b1_0 w4_0 h
    rw [raddlelaw01_BsetBack_l0] at h
    refine TL.round ?_
    refine T.seq ?_
    refine T.regionL ?_
    refine TL'.step (.free rfl) (OpT.int2 rfl rfl (dlt rfl (by decide)) rfl rfl ?_)
    refine TL'.nil (thenS_normal ?_)
    refine T.seq ?_
    rcases bif_some h with ⟨c_270, h⟩ | ⟨c_270, h⟩
    · refine T.condT rfl c_270 ?_
      refine T.skip (thenS_normal ?_)
      refine T.seq ?_
      refine T.block ?_
      refine T.seq ?_
      refine T.regionL ?_
      obtain ⟨v_271, e_272, h⟩ := bind_some h
      refine TL'.step (.free rfl) (OpT.indexSlM (xs := x10_0_4) (f := (Arr2.dc .u8)) (v := v_271) rfl (dlt rfl (by decide)) Tryd.underlying29 i34 rfl rfl e_272 ?_)
      refine TL'.step (.free rfl) (OpT.loadRefAgg rfl (dlt rfl (by decide)) Tryd.underlying34 rfl i34 rfl (Nat.le_of_ble_eq_true rfl) ?_)
      refine TL'.step (.free rfl) (OpT.alloc' rfl (dlt rfl (by decide)) i34 rfl (fun b_273 => ?_))
      refine TL'.step (.free rfl) (OpT.storeAggTo (i := 0) (cells' := (Arr2.oc .u8 v_271)) rfl rfl i34 rfl rfl rfl rfl (Nat.le_of_ble_eq_true rfl) rfl ?_)
      refine TL'.nil (thenS_normal ?_)
      refine T.seq ?_
      refine T.seq ?_
      refine T.regionL ?_
      refine TL'.step (.free rfl) (OpT.indexPtr rfl (dlt rfl (by decide)) Tryd.underlying34 i5 rfl rfl (by decide) (by decide) ?_)
      refine TL'.step (.free rfl) (OpT.loadBox (i := 0) rfl (dlt rfl (by decide)) Tryd.underlying5 rfl rfl rfl (Arr2.oc_get (k := .u8) (a := v_271) (pre := []) (post := []) (by decide) (by decide)) ?_)
      refine TL'.step (.free rfl) (OpT.convInt rfl (dlt rfl (by decide)) Tryd.underlying5 Tryd.underlying3 rfl ?_)
      refine TL'.step (.free rfl) (OpT.move rfl (dlt rfl (by decide)) rfl ?_)
      refine TL'.step (.free rfl) (OpT.int2 rfl rfl (dlt rfl (by decide)) rfl rfl ?_)
      refine TL'.step (.free rfl) (OpT.int2 rfl rfl (dlt rfl (by decide)) rfl rfl ?_)
      refine TL'.step (.free rfl) (OpT.move rfl (dlt rfl (by decide)) rfl ?_)
      rcases bif_some h with ⟨c_274, h⟩ | ⟨c_274, h⟩
      · refine TL'.passU (.off _ _ _ _ rfl rfl rfl c_274) (dlt rfl (by decide)) ?_
        refine TL'.passU (.off _ _ _ _ rfl rfl rfl c_274) (dlt rfl (by decide)) ?_
        refine TL'.passU (.off _ _ _ _ rfl rfl rfl c_274) (dlt rfl (by decide)) ?_
        refine TL'.passU (.off _ _ _ _ rfl rfl rfl c_274) (dlt rfl (by decide)) ?_
        refine TL'.passU (.off _ _ _ _ rfl rfl rfl c_274) (dlt rfl (by decide)) ?_
        refine TL'.step (.free rfl) (OpT.pickT rfl (dlt rfl (by decide)) rfl c_274 rfl ?_)
        refine TL'.nil (thenS_normal ?_)
        refine T.condT rfl rfl ?_
        refine T.by_turn ?_ (raddlelaw01_BsetBack_j1_T K h)
        exact Turn.re (.nil _) (.cons 3 rfl (.nil _))
      · refine TL'.step (.on rfl rfl rfl c_274) (OpT.indexPtr rfl (dlt rfl (by decide)) Tryd.underlying34 i5 rfl rfl (by decide) (by decide) ?_)
        refine TL'.step (.on rfl rfl rfl c_274) (OpT.loadBox (i := 0) rfl (dlt rfl (by decide)) Tryd.underlying5 rfl rfl rfl (Arr2.oc_get (k := .u8) (a := v_271) (pre := []) (post := []) (by decide) (by decide)) ?_)
        refine TL'.step (.on rfl rfl rfl c_274) (OpT.indexPtr rfl (dlt rfl (by decide)) Tryd.underlying34 i5 rfl rfl (by decide) (by decide) ?_)
        refine TL'.step (.on rfl rfl rfl c_274) (OpT.loadBox (i := 0) rfl (dlt rfl (by decide)) Tryd.underlying5 rfl rfl rfl (Arr2.oc_get (k := .u8) (a := v_271) (pre := []) (post := []) (by decide) (by decide)) ?_)
        refine TL'.step (.on rfl rfl rfl c_274) (OpT.int2 rfl rfl (dlt rfl (by decide)) rfl rfl ?_)
        refine TL'.step (.free rfl) (OpT.pickF rfl (dlt rfl (by decide)) rfl c_274 rfl ?_)
        refine TL'.nil (thenS_normal ?_)
        rcases bif_some h with ⟨c_275, h⟩ | ⟨c_275, h⟩
        · refine T.condT rfl c_275 ?_
          refine T.by_turn ?_ (raddlelaw01_BsetBack_j1_T K h)
          exact Turn.re (.nil _) (.cons 3 rfl (.nil _))
        · refine T.condF rfl c_275 ?_
          refine T.skip (thenS_normal ?_)
          refine T.seq ?_
          refine T.regionL ?_
          refine TL'.step (.free rfl) (OpT.indexPtr rfl (dlt rfl (by decide)) Tryd.underlying34 i5 rfl rfl (by decide) (by decide) ?_)
          refine TL'.step (.free rfl) (OpT.loadBox (i := 0) rfl (dlt rfl (by decide)) Tryd.underlying5 rfl rfl rfl (Arr2.oc_get (k := .u8) (a := v_271) (pre := []) (post := []) (by decide) (by decide)) ?_)
          refine TL'.step (.free rfl) (OpT.convInt rfl (dlt rfl (by decide)) Tryd.underlying5 Tryd.underlying3 rfl ?_)
          refine TL'.step (.free rfl) (OpT.assign rfl (dlt rfl (by decide)) rfl ?_)
          refine TL'.nil (thenS_normal ?_)
          refine T.regionL ?_
          refine TL'.step (.free rfl) (OpT.move rfl (dlt rfl (by decide)) rfl ?_)
          refine TL'.step (.free rfl) (OpT.indexPtr rfl (dlt rfl (by decide)) Tryd.underlying34 i5 rfl rfl (by decide) (by decide) ?_)
          refine TL'.step (.free rfl) (OpT.loadBox (i := 0) rfl (dlt rfl (by decide)) Tryd.underlying5 rfl rfl rfl (Arr2.oc_get (k := .u8) (a := v_271) (pre := []) (post := []) (by decide) (by decide)) ?_)
          refine TL'.step (.free rfl) (OpT.indexPtr rfl (dlt rfl (by decide)) Tryd.underlying34 i5 rfl rfl (by decide) (by decide) ?_)
          refine TL'.step (.free rfl) (OpT.loadBox (i := 0) rfl (dlt rfl (by decide)) Tryd.underlying5 rfl rfl rfl (Arr2.oc_get (k := .u8) (a := v_271) (pre := []) (post := []) (by decide) (by decide)) ?_)
          obtain ⟨v_276, e_277, h⟩ := bind_some h
          refine TL'.step (.free rfl) (OpT.callP rfl (dlt rfl (by decide)) Tryd.func18 rfl rfl rfl (CallR.nil (bset_Range_T e_277)) ?_)
          refine TL'.step (.free rfl) (OpT.buildSlice (elems := ([v_276] : List Arr4).map (Arr4.dc .u64)) rfl (dlt rfl (by decide)) Tryd.underlying33 i24 (by decide) rfl (all1 rfl) rfl rfl rfl (lenAll rfl) (by decide) ?_)
          obtain ⟨g_279, h⟩ := ck_some h
          refine TL'.step (.free rfl) (OpT.appendAM (i := 2) (xs := y4_0_2) (ys := [v_276]) (f := (Arr4.dc .u64)) rfl (dlt rfl (by decide)) Tryd.underlying33 i24 rfl rfl rfl rfl g_279 (fun w_278 => ?_))
          refine TL'.step (.free rfl) (OpT.assign rfl (dlt rfl (by decide)) rfl ?_)
          refine TL'.nil (inBlock_normal (thenS_normal ?_))
          refine T.regionL ?_
          refine TL'.step (.free rfl) (OpT.int2 rfl rfl (dlt rfl (by decide)) rfl rfl ?_)
          refine TL'.step (.free rfl) (OpT.move rfl (dlt rfl (by decide)) rfl ?_)
          refine TL'.nil (thenS_normal ?_)
          refine TL.by_turn ?_ (ih x3_0_1 (IntKind.i64.wrap (Arr2.get v_271 (1 : Int))) x10_0_4 x11_0_5 (IntKind.i64.wrap (x12_0_6 + (1 : Int))) x0 (y4_0_2 ++ [v_276]) b1_0 w_278 h)
          exact Turn.re (.cons rfl (.cons rfl (.cons rfl (.cons rfl (.cons rfl (.cons rfl (.cons rfl (.nil _)))))))) (.cons 1 rfl (.cons 1 rfl (.cons 1 rfl (.nil _))))
    · refine T.condF rfl c_270 ?_
      refine T.exit (thenS_exit (thenS_exit (inBlock_exit (thenS_normal ?_))))
      refine T.seq ?_
      refine T.by_turn (Turn.view 4 1 rfl rfl) ?_
      rcases bif_some h with ⟨c_281, h⟩ | ⟨c_281, h⟩
      · obtain ⟨v_282, e_283, h⟩ := bind_some h
        rcases bif_some h with ⟨c_284, h⟩ | ⟨c_284, h⟩
        · obtain ⟨v_285, e_286, h⟩ := bind_some h
          obtain ⟨v_287, e_288, h⟩ := bind_some h
          refine T.draw (s1 := ⟨[(2, .c (.ex (.bool (Arr4.same v_287 x0))))], [.box b1_0 24 (Arr4.oc .u64 x0), .arrA w4_0 24 4 (y4_0_2.map (Arr4.dc .u64)), .ro 0 deBruijnD]⟩) (ms := [0, 1, 3, 7, 3, 31, 63, 127, 255, 511, 1023, 255, 4095, 8191, 16383]) TrydMixed (.cons (c := ⟨some 41, .c (.ex (.bool x3_0_1)), [(3, .c (.ex (.bool x3_0_1)))], [], []⟩) (fun t hm => One.step rfl (.free rfl) (OpT.move rfl (dlt rfl (by decide)) (hm.slots (3, _) (.head _)) rfl)) (Ct.met_of rfl rfl) (.cons (c := ⟨some 42, .c (.ex (.bool x3_0_1)), [(41, .c (.ex (.bool x3_0_1)))], [], []⟩) (fun t hm => One.step rfl (.free rfl) (OpT.move rfl (dlt rfl (by decide)) (hm.slots (41, _) (.head _)) rfl)) (Ct.met_of rfl rfl) (.cons (c := ⟨some 43, .c (.sl false 4 (y4_0_2.map (Arr4.dc .u64))), [(4, .c (.sl false 4 (y4_0_2.map (Arr4.dc .u64)))), (42, .c (.ex (.bool x3_0_1)))], [], []⟩) (fun t hm => One.step rfl (.on rfl rfl (hm.slots (42, _) (.tail _ (.head _))) c_281) (OpT.move rfl (dlt rfl (by decide)) (hm.slots (4, _) (.head _)) rfl)) (Ct.met_of rfl rfl) (.cons (c := ⟨some 44, .agg (Arr4.dc .u64 v_282), [(43, .c (.sl false 4 (y4_0_2.map (Arr4.dc .u64)))), (42, .c (.ex (.bool x3_0_1)))], [], []⟩) (fun t hm => One.step rfl (.on rfl rfl (hm.slots (42, _) (.tail _ (.head _))) c_281) (OpT.callP rfl (dlt rfl (by decide)) Tryd.func19 rfl rfl (evs_cons (hm.slots (43, _) (.head _)) evs_nil) (CallR.nil (bset_Or_T (fl0 := false) e_283)) rfl)) (Ct.met_of rfl rfl) (.cons (c := ⟨some 45, .agg (Arr4.dc .u64 x0), [(1, .c (.ex (.pointer (some ⟨b1_0, 0, none⟩)))), (42, .c (.ex (.bool x3_0_1)))], [(0, .box b1_0 24 (Arr4.oc .u64 x0))], []⟩) (fun t hm => One.step rfl (.on rfl rfl (hm.slots (42, _) (.tail _ (.head _))) c_281) (OpT.loadBoxAgg (i := 0) (l := (Arr4.dc .u64 x0)) rfl (dlt rfl (by decide)) Tryd.underlying24 rfl i24 (hm.slots (1, _) (.head _)) (hm.objs (0, _) (.head _)) rfl rfl rfl)) (Ct.met_of rfl rfl) (.cons (c := ⟨some 46, .c (.ex (.bool (Arr4.same v_282 x0))), [(44, .agg (Arr4.dc .u64 v_282)), (45, .agg (Arr4.dc .u64 x0)), (42, .c (.ex (.bool x3_0_1)))], [], []⟩) (fun t hm => One.step rfl (.on rfl rfl (hm.slots (42, _) (.tail _ (.tail _ (.head _)))) c_281) (OpT.intsEql (k := .u64) (xs := [v_282.a0, v_282.a1, v_282.a2, v_282.a3]) (ys := [x0.a0, x0.a1, x0.a2, x0.a3]) rfl (dlt rfl (by decide)) Tryd.underlying24 Tryd.underlying22 i22 Tryd.eqGuardType24 (hm.slots (44, _) (.head _)) (hm.slots (45, _) (.tail _ (.head _))) rfl rfl rfl rfl (Arr4.same_eq v_282 x0) rfl)) (Ct.met_of rfl rfl) (.cons (c := ⟨some 47, .c (.ex (.bool (Arr4.same v_282 x0))), [(42, .c (.ex (.bool x3_0_1))), (46, .c (.ex (.bool (Arr4.same v_282 x0))))], [], []⟩) (fun t hm => One.step rfl (.free rfl) (OpT.pickT rfl (dlt rfl (by decide)) (hm.slots (42, _) (.head _)) c_281 (hm.slots (46, _) (.tail _ (.head _))) rfl)) (Ct.met_of rfl rfl) (.cons (c := ⟨some 48, .c (.ex (.bool (Arr4.same v_282 x0))), [(47, .c (.ex (.bool (Arr4.same v_282 x0))))], [], []⟩) (fun t hm => One.step rfl (.free rfl) (OpT.move rfl (dlt rfl (by decide)) (hm.slots (47, _) (.head _)) rfl)) (Ct.met_of rfl rfl) (.cons (c := ⟨some 49, .agg (Arr4.dc .u64 x0), [(1, .c (.ex (.pointer (some ⟨b1_0, 0, none⟩)))), (48, .c (.ex (.bool (Arr4.same v_282 x0))))], [(0, .box b1_0 24 (Arr4.oc .u64 x0))], []⟩) (fun t hm => One.step rfl (.on rfl rfl (hm.slots (48, _) (.tail _ (.head _))) c_284) (OpT.loadBoxAgg (i := 0) (l := (Arr4.dc .u64 x0)) rfl (dlt rfl (by decide)) Tryd.underlying24 rfl i24 (hm.slots (1, _) (.head _)) (hm.objs (0, _) (.head _)) rfl rfl rfl)) (Ct.met_of rfl rfl) (.cons (c := ⟨some 50, .c (.sl false 1 (v_285.map (cI .u8))), [(49, .agg (Arr4.dc .u64 x0)), (48, .c (.ex (.bool (Arr4.same v_282 x0))))], [(2, .ro 0 deBruijnD)], []⟩) (fun t hm => One.step rfl (.on rfl rfl (hm.slots (48, _) (.tail _ (.head _))) c_284) (OpT.callRo rfl (dlt rfl (by decide)) Tryd.func11 rfl rfl (evs_cons (hm.slots (49, _) (.head _)) evs_nil) (.cons 2 (hm.objs (2, _) (.head _)) (.nil)) (bset_List_T e_286) rfl)) (Ct.met_of rfl rfl) (.cons (c := ⟨some 51, .agg (Arr4.dc .u64 v_287), [(50, .c (.sl false 1 (v_285.map (cI .u8)))), (48, .c (.ex (.bool (Arr4.same v_282 x0))))], [], []⟩) (fun t hm => One.step rfl (.on rfl rfl (hm.slots (48, _) (.tail _ (.head _))) c_284) (OpT.callP rfl (dlt rfl (by decide)) Tryd.func20 rfl rfl (evs_cons (hm.slots (50, _) (.head _)) evs_nil) (CallR.nil (bset_Of_T (fl0 := false) e_288)) rfl)) (Ct.met_of rfl rfl) (.cons (c := ⟨some 52, .agg (Arr4.dc .u64 x0), [(1, .c (.ex (.pointer (some ⟨b1_0, 0, none⟩)))), (48, .c (.ex (.bool (Arr4.same v_282 x0))))], [(0, .box b1_0 24 (Arr4.oc .u64 x0))], []⟩) (fun t hm => One.step rfl (.on rfl rfl (hm.slots (48, _) (.tail _ (.head _))) c_284) (OpT.loadBoxAgg (i := 0) (l := (Arr4.dc .u64 x0)) rfl (dlt rfl (by decide)) Tryd.underlying24 rfl i24 (hm.slots (1, _) (.head _)) (hm.objs (0, _) (.head _)) rfl rfl rfl)) (Ct.met_of rfl rfl) (.cons (c := ⟨some 53, .c (.ex (.bool (Arr4.same v_287 x0))), [(51, .agg (Arr4.dc .u64 v_287)), (52, .agg (Arr4.dc .u64 x0)), (48, .c (.ex (.bool (Arr4.same v_282 x0))))], [], []⟩) (fun t hm => One.step rfl (.on rfl rfl (hm.slots (48, _) (.tail _ (.tail _ (.head _)))) c_284) (OpT.intsEql (k := .u64) (xs := [v_287.a0, v_287.a1, v_287.a2, v_287.a3]) (ys := [x0.a0, x0.a1, x0.a2, x0.a3]) rfl (dlt rfl (by decide)) Tryd.underlying24 Tryd.underlying22 i22 Tryd.eqGuardType24 (hm.slots (51, _) (.head _)) (hm.slots (52, _) (.tail _ (.head _))) rfl rfl rfl rfl (Arr4.same_eq v_287 x0) rfl)) (Ct.met_of rfl rfl) (.cons (c := ⟨some 54, .c (.ex (.bool (Arr4.same v_287 x0))), [(48, .c (.ex (.bool (Arr4.same v_282 x0)))), (53, .c (.ex (.bool (Arr4.same v_287 x0))))], [], []⟩) (fun t hm => One.step rfl (.free rfl) (OpT.pickT rfl (dlt rfl (by decide)) (hm.slots (48, _) (.head _)) c_284 (hm.slots (53, _) (.tail _ (.head _))) rfl)) (Ct.met_of rfl rfl) (.cons (c := ⟨some 2, .c (.ex (.bool (Arr4.same v_287 x0))), [(54, .c (.ex (.bool (Arr4.same v_287 x0))))], [], []⟩) (fun t hm => One.step rfl (.free rfl) (OpT.assign rfl (dlt rfl (by decide)) (hm.slots (54, _) (.head _)) rfl)) (Ct.met_of rfl rfl) (.nil _ _)))))))))))))))) rfl (by kernel_rfl) (by kernel_rfl) (by kernel_rfl) (.cons rfl (.nil _)) rfl (fun u hu => (thenS_normal (T.by_turn hu ?_)))
          refine T.ret ?_
          exact Fin.doneK (.cons _ _ _ _ (.tmp 2 _ rfl) .nil) (.cons 2 rfl (.nil _)) (by cases h; exact ⟨rfl, rfl⟩)
        · refine T.draw (s1 := ⟨[(2, .c (.ex (.bool false)))], [.box b1_0 24 (Arr4.oc .u64 x0), .arrA w4_0 24 4 (y4_0_2.map (Arr4.dc .u64)), .ro 0 deBruijnD]⟩) (ms := [0, 1, 3, 7, 3, 31, 63, 127, 255, 511, 1023, 255, 4095, 8191, 16383]) TrydMixed (.cons (c := ⟨some 41, .c (.ex (.bool x3_0_1)), [(3, .c (.ex (.bool x3_0_1)))], [], []⟩) (fun t hm => One.step rfl (.free rfl) (OpT.move rfl (dlt rfl (by decide)) (hm.slots (3, _) (.head _)) rfl)) (Ct.met_of rfl rfl) (.cons (c := ⟨some 42, .c (.ex (.bool x3_0_1)), [(41, .c (.ex (.bool x3_0_1)))], [], []⟩) (fun t hm => One.step rfl (.free rfl) (OpT.move rfl (dlt rfl (by decide)) (hm.slots (41, _) (.head _)) rfl)) (Ct.met_of rfl rfl) (.cons (c := ⟨some 43, .c (.sl false 4 (y4_0_2.map (Arr4.dc .u64))), [(4, .c (.sl false 4 (y4_0_2.map (Arr4.dc .u64)))), (42, .c (.ex (.bool x3_0_1)))], [], []⟩) (fun t hm => One.step rfl (.on rfl rfl (hm.slots (42, _) (.tail _ (.head _))) c_281) (OpT.move rfl (dlt rfl (by decide)) (hm.slots (4, _) (.head _)) rfl)) (Ct.met_of rfl rfl) (.cons (c := ⟨some 44, .agg (Arr4.dc .u64 v_282), [(43, .c (.sl false 4 (y4_0_2.map (Arr4.dc .u64)))), (42, .c (.ex (.bool x3_0_1)))], [], []⟩) (fun t hm => One.step rfl (.on rfl rfl (hm.slots (42, _) (.tail _ (.head _))) c_281) (OpT.callP rfl (dlt rfl (by decide)) Tryd.func19 rfl rfl (evs_cons (hm.slots (43, _) (.head _)) evs_nil) (CallR.nil (bset_Or_T (fl0 := false) e_283)) rfl)) (Ct.met_of rfl rfl) (.cons (c := ⟨some 45, .agg (Arr4.dc .u64 x0), [(1, .c (.ex (.pointer (some ⟨b1_0, 0, none⟩)))), (42, .c (.ex (.bool x3_0_1)))], [(0, .box b1_0 24 (Arr4.oc .u64 x0))], []⟩) (fun t hm => One.step rfl (.on rfl rfl (hm.slots (42, _) (.tail _ (.head _))) c_281) (OpT.loadBoxAgg (i := 0) (l := (Arr4.dc .u64 x0)) rfl (dlt rfl (by decide)) Tryd.underlying24 rfl i24 (hm.slots (1, _) (.head _)) (hm.objs (0, _) (.head _)) rfl rfl rfl)) (Ct.met_of rfl rfl) (.cons (c := ⟨some 46, .c (.ex (.bool (Arr4.same v_282 x0))), [(44, .agg (Arr4.dc .u64 v_282)), (45, .agg (Arr4.dc .u64 x0)), (42, .c (.ex (.bool x3_0_1)))], [], []⟩) (fun t hm => One.step rfl (.on rfl rfl (hm.slots (42, _) (.tail _ (.tail _ (.head _)))) c_281) (OpT.intsEql (k := .u64) (xs := [v_282.a0, v_282.a1, v_282.a2, v_282.a3]) (ys := [x0.a0, x0.a1, x0.a2, x0.a3]) rfl (dlt rfl (by decide)) Tryd.underlying24 Tryd.underlying22 i22 Tryd.eqGuardType24 (hm.slots (44, _) (.head _)) (hm.slots (45, _) (.tail _ (.head _))) rfl rfl rfl rfl (Arr4.same_eq v_282 x0) rfl)) (Ct.met_of rfl rfl) (.cons (c := ⟨some 47, .c (.ex (.bool (Arr4.same v_282 x0))), [(42, .c (.ex (.bool x3_0_1))), (46, .c (.ex (.bool (Arr4.same v_282 x0))))], [], []⟩) (fun t hm => One.step rfl (.free rfl) (OpT.pickT rfl (dlt rfl (by decide)) (hm.slots (42, _) (.head _)) c_281 (hm.slots (46, _) (.tail _ (.head _))) rfl)) (Ct.met_of rfl rfl) (.cons (c := ⟨some 48, .c (.ex (.bool (Arr4.same v_282 x0))), [(47, .c (.ex (.bool (Arr4.same v_282 x0))))], [], []⟩) (fun t hm => One.step rfl (.free rfl) (OpT.move rfl (dlt rfl (by decide)) (hm.slots (47, _) (.head _)) rfl)) (Ct.met_of rfl rfl) (.cons (c := ⟨some 49, .tup [], [(48, .c (.ex (.bool (Arr4.same v_282 x0))))], [], []⟩) (fun t hm => One.passU rfl (.off _ _ _ _ rfl rfl (hm.slots (48, _) (.head _)) c_284) (dlt rfl (by decide)) rfl) (Ct.met_of rfl rfl) (.cons (c := ⟨some 50, .tup [], [(48, .c (.ex (.bool (Arr4.same v_282 x0))))], [], []⟩) (fun t hm => One.passU rfl (.off _ _ _ _ rfl rfl (hm.slots (48, _) (.head _)) c_284) (dlt rfl (by decide)) rfl) (Ct.met_of rfl rfl) (.cons (c := ⟨some 51, .tup [], [(48, .c (.ex (.bool (Arr4.same v_282 x0))))], [], []⟩) (fun t hm => One.passU rfl (.off _ _ _ _ rfl rfl (hm.slots (48, _) (.head _)) c_284) (dlt rfl (by decide)) rfl) (Ct.met_of rfl rfl) (.cons (c := ⟨some 52, .tup [], [(48, .c (.ex (.bool (Arr4.same v_282 x0))))], [], []⟩) (fun t hm => One.passU rfl (.off _ _ _ _ rfl rfl (hm.slots (48, _) (.head _)) c_284) (dlt rfl (by decide)) rfl) (Ct.met_of rfl rfl) (.cons (c := ⟨some 53, .tup [], [(48, .c (.ex (.bool (Arr4.same v_282 x0))))], [], []⟩) (fun t hm => One.passU rfl (.off _ _ _ _ rfl rfl (hm.slots (48, _) (.head _)) c_284) (dlt rfl (by decide)) rfl) (Ct.met_of rfl rfl) (.cons (c := ⟨some 54, .c (.ex (.bool false)), [(48, .c (.ex (.bool (Arr4.same v_282 x0))))], [], []⟩) (fun t hm => One.step rfl (.free rfl) (OpT.pickF rfl (dlt rfl (by decide)) (hm.slots (48, _) (.head _)) c_284 rfl rfl)) (Ct.met_of rfl rfl) (.cons (c := ⟨some 2, .c (.ex (.bool false)), [(54, .c (.ex (.bool false)))], [], []⟩) (fun t hm => One.step rfl (.free rfl) (OpT.assign rfl (dlt rfl (by decide)) (hm.slots (54, _) (.head _)) rfl)) (Ct.met_of rfl rfl) (.nil _ _)))))))))))))))) rfl (by kernel_rfl) (by kernel_rfl) (by kernel_rfl) (.cons rfl (.nil _)) rfl (fun u hu => (thenS_normal (T.by_turn hu ?_)))
          refine T.ret ?_
          exact Fin.doneK (.cons _ _ _ _ (.tmp 2 _ rfl) .nil) (.cons 2 rfl (.nil _)) (by cases h; exact ⟨rfl, rfl⟩)
      · refine T.draw (s1 := ⟨[(2, .c (.ex (.bool false)))], [.box b1_0 24 (Arr4.oc .u64 x0), .arrA w4_0 24 4 (y4_0_2.map (Arr4.dc .u64)), .ro 0 deBruijnD]⟩) (ms := [0, 1, 3, 7, 3, 31, 63, 127, 255, 511, 1023, 255, 4095, 8191, 16383]) TrydMixed (.cons (c := ⟨some 41, .c (.ex (.bool x3_0_1)), [(3, .c (.ex (.bool x3_0_1)))], [], []⟩) (fun t hm => One.step rfl (.free rfl) (OpT.move rfl (dlt rfl (by decide)) (hm.slots (3, _) (.head _)) rfl)) (Ct.met_of rfl rfl) (.cons (c := ⟨some 42, .c (.ex (.bool x3_0_1)), [(41, .c (.ex (.bool x3_0_1)))], [], []⟩) (fun t hm => One.step rfl (.free rfl) (OpT.move rfl (dlt rfl (by decide)) (hm.slots (41, _) (.head _)) rfl)) (Ct.met_of rfl rfl) (.cons (c := ⟨some 43, .tup [], [(42, .c (.ex (.bool x3_0_1)))], [], []⟩) (fun t hm => One.passU rfl (.off _ _ _ _ rfl rfl (hm.slots (42, _) (.head _)) c_281) (dlt rfl (by decide)) rfl) (Ct.met_of rfl rfl) (.cons (c := ⟨some 44, .tup [], [(42, .c (.ex (.bool x3_0_1)))], [], []⟩) (fun t hm => One.passU rfl (.off _ _ _ _ rfl rfl (hm.slots (42, _) (.head _)) c_281) (dlt rfl (by decide)) rfl) (Ct.met_of rfl rfl) (.cons (c := ⟨some 45, .tup [], [(42, .c (.ex (.bool x3_0_1)))], [], []⟩) (fun t hm => One.passU rfl (.off _ _ _ _ rfl rfl (hm.slots (42, _) (.head _)) c_281) (dlt rfl (by decide)) rfl) (Ct.met_of rfl rfl) (.cons (c := ⟨some 46, .tup [], [(42, .c (.ex (.bool x3_0_1)))], [], []⟩) (fun t hm => One.passU rfl (.off _ _ _ _ rfl rfl (hm.slots (42, _) (.head _)) c_281) (dlt rfl (by decide)) rfl) (Ct.met_of rfl rfl) (.cons (c := ⟨some 47, .c (.ex (.bool false)), [(42, .c (.ex (.bool x3_0_1)))], [], []⟩) (fun t hm => One.step rfl (.free rfl) (OpT.pickF rfl (dlt rfl (by decide)) (hm.slots (42, _) (.head _)) c_281 rfl rfl)) (Ct.met_of rfl rfl) (.cons (c := ⟨some 48, .c (.ex (.bool false)), [(47, .c (.ex (.bool false)))], [], []⟩) (fun t hm => One.step rfl (.free rfl) (OpT.move rfl (dlt rfl (by decide)) (hm.slots (47, _) (.head _)) rfl)) (Ct.met_of rfl rfl) (.cons (c := ⟨some 49, .tup [], [(48, .c (.ex (.bool false)))], [], []⟩) (fun t hm => One.passU rfl (.off _ _ _ _ rfl rfl (hm.slots (48, _) (.head _)) rfl) (dlt rfl (by decide)) rfl) (Ct.met_of rfl rfl) (.cons (c := ⟨some 50, .tup [], [(48, .c (.ex (.bool false)))], [], []⟩) (fun t hm => One.passU rfl (.off _ _ _ _ rfl rfl (hm.slots (48, _) (.head _)) rfl) (dlt rfl (by decide)) rfl) (Ct.met_of rfl rfl) (.cons (c := ⟨some 51, .tup [], [(48, .c (.ex (.bool false)))], [], []⟩) (fun t hm => One.passU rfl (.off _ _ _ _ rfl rfl (hm.slots (48, _) (.head _)) rfl) (dlt rfl (by decide)) rfl) (Ct.met_of rfl rfl) (.cons (c := ⟨some 52, .tup [], [(48, .c (.ex (.bool false)))], [], []⟩) (fun t hm => One.passU rfl (.off _ _ _ _ rfl rfl (hm.slots (48, _) (.head _)) rfl) (dlt rfl (by decide)) rfl) (Ct.met_of rfl rfl) (.cons (c := ⟨some 53, .tup [], [(48, .c (.ex (.bool false)))], [], []⟩) (fun t hm => One.passU rfl (.off _ _ _ _ rfl rfl (hm.slots (48, _) (.head _)) rfl) (dlt rfl (by decide)) rfl) (Ct.met_of rfl rfl) (.cons (c := ⟨some 54, .c (.ex (.bool false)), [(48, .c (.ex (.bool false)))], [], []⟩) (fun t hm => One.step rfl (.free rfl) (OpT.pickF rfl (dlt rfl (by decide)) (hm.slots (48, _) (.head _)) rfl rfl rfl)) (Ct.met_of rfl rfl) (.cons (c := ⟨some 2, .c (.ex (.bool false)), [(54, .c (.ex (.bool false)))], [], []⟩) (fun t hm => One.step rfl (.free rfl) (OpT.assign rfl (dlt rfl (by decide)) (hm.slots (54, _) (.head _)) rfl)) (Ct.met_of rfl rfl) (.nil _ _)))))))))))))))) rfl (by kernel_rfl) (by kernel_rfl) (by kernel_rfl) (.cons rfl (.nil _)) rfl (fun u hu => (thenS_normal (T.by_turn hu ?_)))
        refine T.ret ?_
        exact Fin.doneK (.cons _ _ _ _ (.tmp 2 _ rfl) .nil) (.cons 2 rfl (.nil _)) (by cases h; exact ⟨rfl, rfl⟩)

theorem raddlelaw01_BsetBack_T {K : Nat} {x0 : Arr4} {r : Bool} (h : raddlelaw01_BsetBack K x0 = some r) : CallR Tryd.prog 4 [.agg (Arr4.dc .u64 x0)] [.ro 0 deBruijnD] (.c (.ex (.bool r))) := by
  refine CallT.intro Tryd.func4 rfl (Nat.le_of_ble_eq_true rfl) ?_
  show T Tryd.prog 55 (Code.at [] (codeOf Tryd.f4)) ⟨paramSlots 0 [.agg (Arr4.dc .u64 x0)], [.ro 0 deBruijnD]⟩ (raddlelaw01_BsetBack_q r)
  unfold raddlelaw01_BsetBack at h
  refine T.seq ?_
  refine T.regionL ?_
  refine TL'.step (.free rfl) (OpT.boxAgg rfl (dlt rfl (by decide)) rfl (fun b_265 => ?_))
  refine TL'.step (.free rfl) (OpT.assign rfl (dlt rfl (by decide)) rfl ?_)
  refine TL'.nil (thenS_normal ?_)
  refine T.seq ?_
  refine T.regionL ?_
  obtain ⟨v_266, e_267, h⟩ := bind_some h
  refine TL'.step (.free rfl) (OpT.callRo rfl (dlt rfl (by decide)) Tryd.func10 rfl rfl rfl (.cons 1 rfl (.nil)) (raddlelaw01_shown_T e_267) ?_)
  refine TL'.step (.free rfl) (OpT.assign rfl (dlt rfl (by decide)) rfl ?_)
  refine TL'.nil (thenS_normal ?_)
  refine T.seq ?_
  refine T.regionL ?_
  refine TL'.step (.free rfl) (OpT.assign rfl (dlt rfl (by decide)) rfl ?_)
  refine TL'.nil (thenS_normal ?_)
  refine T.seq ?_
  refine T.regionL ?_
  refine TL'.step (.free rfl) (OpT.assign rfl (dlt rfl (by decide)) rfl ?_)
  refine TL'.nil (thenS_normal ?_)
  refine T.seq ?_
  refine T.seq ?_
  refine T.regionL ?_
  refine TL'.step (.free rfl) (OpT.loadBoxAgg (i := 0) (l := (Arr4.dc .u64 x0)) rfl (dlt rfl (by decide)) Tryd.underlying24 rfl i24 rfl rfl rfl rfl ?_)
  obtain ⟨v_268, e_269, h⟩ := bind_some h
  refine TL'.step (.free rfl) (OpT.callRo rfl (dlt rfl (by decide)) Tryd.func14 rfl rfl rfl (.cons 1 rfl (.nil)) (bset_Spans_T e_269) ?_)
  refine TL'.step (.free rfl) (OpT.lenSlM (xs := v_268) (f := (Arr2.dc .u8)) rfl (dlt rfl (by decide)) Tryd.underlying29 rfl ?_)
  refine TL'.step (.free rfl) (OpT.move rfl (dlt rfl (by decide)) rfl ?_)
  refine TL'.nil (thenS_normal ?_)
  refine T.block ?_
  refine T.loop ?_
  refine TL.by_turn (Turn.nilA 24 4) ?_
  refine TL.by_turn ?_ (raddlelaw01_BsetBack_l0_T K K v_266 (-2 : Int) v_268 (v_268.length : Int) (0 : Int) x0 [] b_265 (.slice none 0 0) h)
  exact Turn.re (.cons rfl (.cons rfl (.cons rfl (.cons rfl (.cons rfl (.cons rfl (.cons rfl (.nil _)))))))) (.cons 1 rfl (.cons 0 rfl (.cons 0 rfl (.nil _))))

end Go.Rv

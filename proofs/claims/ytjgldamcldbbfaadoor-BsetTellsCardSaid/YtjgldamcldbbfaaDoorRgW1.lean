/- Each function computes what its plain text says: printed by a program of ours. -/
import Derived.Test.YtjgldamcldbbfaaDoorRgW0
namespace Go.Rv
open Go.Proofs
set_option maxRecDepth 100000
set_option linter.unusedVariables false

abbrev bits_TrailingZeros64_q (r : Int) : Exit → St → Prop := retS Tryd.prog Tryd.f32 (fun y t => y = (.c (.ex (.int .i64 r))) ∧ t = [.ro 0 deBruijnD])

theorem bits_TrailingZeros64_T {K : Nat} {x0 : Int} {r : Int} (h : bits_TrailingZeros64 K x0 = some r) : CallR Tryd.prog 32 [.c (.ex (.int .u64 x0))] [.ro 0 deBruijnD] (.c (.ex (.int .i64 r))) := by
  refine CallT.intro Tryd.func32 rfl (Nat.le_of_ble_eq_true rfl) ?_
  show T Tryd.prog 14 (Code.at [] (codeOf Tryd.f32)) ⟨paramSlots 0 [.c (.ex (.int .u64 x0))], [.ro 0 deBruijnD]⟩ (bits_TrailingZeros64_q r)
  unfold bits_TrailingZeros64 at h
  refine T.seq ?_
  refine T.regionL ?_
  refine TL'.step (.free rfl) (OpT.assign rfl (dlt rfl (by decide)) rfl ?_)
  refine TL'.nil (thenS_normal ?_)
  refine T.seq ?_
  refine T.seq ?_
  refine T.regionL ?_
  refine TL'.step (.free rfl) (OpT.move rfl (dlt rfl (by decide)) rfl ?_)
  refine TL'.step (.free rfl) (OpT.int2 rfl rfl (dlt rfl (by decide)) rfl rfl ?_)
  refine TL'.nil (thenS_normal ?_)
  rcases bif_some h with ⟨c_17, h⟩ | ⟨c_17, h⟩
  · refine T.condT rfl c_17 ?_
    refine T.seq ?_
    refine T.regionL ?_
    refine TL'.step (.free rfl) (OpT.assign rfl (dlt rfl (by decide)) rfl ?_)
    refine TL'.nil (thenS_normal ?_)
    refine T.ret (thenS_ret ?_)
    exact Fin.doneK (.cons _ _ _ _ (.tmp 2 _ rfl) .nil) (.cons 0 rfl (.nil _)) (by cases h; exact ⟨rfl, rfl⟩)
  · refine T.condF rfl c_17 ?_
    refine T.skip (thenS_normal ?_)
    refine T.seq ?_
    refine T.regionL ?_
    refine TL'.step (.free rfl) (OpT.move rfl (dlt rfl (by decide)) rfl ?_)
    refine TL'.step (.free rfl) (OpT.move rfl (dlt rfl (by decide)) rfl ?_)
    refine TL'.step (.free rfl) (OpT.neg rfl (dlt rfl (by decide)) rfl ?_)
    refine TL'.step (.free rfl) (OpT.int2 rfl rfl (dlt rfl (by decide)) rfl rfl ?_)
    refine TL'.step (.free rfl) (OpT.int2 rfl rfl (dlt rfl (by decide)) rfl rfl ?_)
    refine TL'.step (.free rfl) (OpT.shr rfl (dlt rfl (by decide)) rfl rfl (by decide) ?_)
    obtain ⟨v_18, e_19, h⟩ := bind_some h
    obtain ⟨g_20, h⟩ := ck_some h
    refine TL'.step (.free rfl) (OpT.indexPtr rfl (dlt rfl (by decide)) Tryd.underlying50 i5 rfl rfl (geti_some e_19).1 g_20 ?_)
    refine TL'.step (.free rfl) (OpT.loadRo (i := 0) rfl (dlt rfl (by decide)) Tryd.underlying5 rfl rfl rfl (ro_get e_19) ?_)
    refine TL'.step (.free rfl) (OpT.convInt rfl (dlt rfl (by decide)) Tryd.underlying5 Tryd.underlying3 rfl ?_)
    refine TL'.step (.free rfl) (OpT.assign rfl (dlt rfl (by decide)) rfl ?_)
    refine TL'.nil (thenS_normal ?_)
    refine T.ret ?_
    exact Fin.doneK (.cons _ _ _ _ (.tmp 2 _ rfl) .nil) (.cons 0 rfl (.nil _)) (by cases h; exact ⟨rfl, rfl⟩)

abbrev bset_List_q (r : List Int) : Exit → St → Prop := retS Tryd.prog Tryd.f11 (fun y t => y = (.c (.sl false 1 (r.map (cI .u8)))) ∧ t = [.ro 0 deBruijnD])

abbrev bset_List_qs111 (r : List Int) : Exit → St → Prop := thenS (fun s' => T Tryd.prog 28 (Code.at [1, 1, 1] (codeOf Tryd.f11)) s' ((bset_List_q r))) ((bset_List_q r))

abbrev bset_List_qb0x111 (r : List Int) : Exit → St → Prop := inBlockS 0 ((bset_List_qs111 r))

abbrev bset_List_ql11010 (r : List Int) : Exit → St → Prop := thenS (fun s' => TL Tryd.prog 28 (Code.at [1, 1, 0, 1, 0, 0] (codeOf Tryd.f11)) s' ((bset_List_qb0x111 r))) ((bset_List_qb0x111 r))

abbrev bset_List_qs110100111 (r : List Int) : Exit → St → Prop := thenS (fun s' => T Tryd.prog 28 (Code.at [1, 1, 0, 1, 0, 0, 1, 1, 1] (codeOf Tryd.f11)) s' ((bset_List_ql11010 r))) ((bset_List_ql11010 r))

abbrev bset_List_qb1_0x110100111 (r : List Int) : Exit → St → Prop := inBlockS 1 ((bset_List_qs110100111 r))

abbrev bset_List_qb2_1_0x110100111 (r : List Int) : Exit → St → Prop := inBlockS 2 ((bset_List_qb1_0x110100111 r))

theorem bset_List_l1_T {r : List Int} (K : Nat) (go0 : Arr4 → Int → (List Int) → Option (List Int)) (hgo0 : ∀ (x0 : Arr4) (x7_0_2 : Int) (y3_0_0 : List Int) (w3_0 : Value), go0 x0 x7_0_2 y3_0_0 = some r → TL Tryd.prog 28 (Code.at [1, 1, 0, 1, 0, 0] (codeOf Tryd.f11)) ⟨[(3, .c (.ex w3_0)), (6, .agg (Arr4.dc .u64 x0)), (7, .c (.ex (.int .i64 x7_0_2)))], [.arrA w3_0 5 1 (y3_0_0.map (cI .u8)), .ro 0 deBruijnD]⟩ (bset_List_qb0x111 r)) : ∀ (k : Nat), ∀ (x4_1_1 : Int) (x5_1_2 : Int) (x0 : Arr4) (x7_1_4 : Int) (y3_1_0 : List Int) (w3_1 : Value), bset_List_l1 K go0 k x4_1_1 x5_1_2 x0 x7_1_4 y3_1_0 = some r → TL Tryd.prog 28 (Code.at [1, 1, 0, 1, 0, 0, 1, 1, 0, 0, 1, 0, 0] (codeOf Tryd.f11)) ⟨[(3, .c (.ex w3_1)), (4, .c (.ex (.int .i64 x4_1_1))), (5, .c (.ex (.int .u64 x5_1_2))), (6, .agg (Arr4.dc .u64 x0)), (7, .c (.ex (.int .i64 x7_1_4)))], [.arrA w3_1 5 1 (y3_1_0.map (cI .u8)), .ro 0 deBruijnD]⟩ (bset_List_qb2_1_0x110100111 r) := by
  intro k
  induction k with
  | zero =>
    intro x4_1_1 x5_1_2 x0 x7_1_4 y3_1_0 w3_1 h
    cases (show (none : Option (List Int)) = some r from h)
  | succ k ih =>
    intro x4_1_1 x5_1_2 x0 x7_1_4 y3_1_0 w3_1 h
    rw [bset_List_l1] at h
    refine TL.round ?_
    refine T.seq ?_
    refine T.seq ?_
    refine T.regionL ?_
    refine TL'.step (.free rfl) (OpT.move rfl (dlt rfl (by decide)) rfl ?_)
    refine TL'.step (.free rfl) (OpT.int2 rfl rfl (dlt rfl (by decide)) rfl rfl ?_)
    refine TL'.nil (thenS_normal ?_)
    rcases bif_some h with ⟨c_94, h⟩ | ⟨c_94, h⟩
    · refine T.condT rfl c_94 ?_
      refine T.skip (thenS_normal ?_)
      refine T.seq ?_
      refine T.block ?_
      refine T.regionL ?_
      refine TL'.step (.free rfl) (OpT.move rfl (dlt rfl (by decide)) rfl ?_)
      refine TL'.step (.free rfl) (OpT.move rfl (dlt rfl (by decide)) rfl ?_)
      refine TL'.step (.free rfl) (OpT.int2 rfl rfl (dlt rfl (by decide)) rfl rfl ?_)
      refine TL'.step (.free rfl) (OpT.move rfl (dlt rfl (by decide)) rfl ?_)
      obtain ⟨v_95, e_96, h⟩ := bind_some h
      refine TL'.step (.free rfl) (OpT.callRo rfl (dlt rfl (by decide)) Tryd.func32 rfl rfl rfl (.cons 1 rfl (.nil)) (bits_TrailingZeros64_T e_96) ?_)
      refine TL'.step (.free rfl) (OpT.int2 rfl rfl (dlt rfl (by decide)) rfl rfl ?_)
      refine TL'.step (.free rfl) (OpT.convInt rfl (dlt rfl (by decide)) Tryd.underlying3 Tryd.underlying5 rfl ?_)
      refine TL'.step (.free rfl) (OpT.buildSlice (elems := ([(IntKind.u8.wrap (IntKind.i64.wrap ((IntKind.i64.wrap ((64 : Int) * x4_1_1)) + v_95)))] : List Int).map (cI .u8)) rfl (dlt rfl (by decide)) Tryd.underlying26 i5 (by decide) rfl (all1 rfl) rfl rfl rfl (lenAll rfl) (by decide) ?_)
      obtain ⟨g_98, h⟩ := ck_some h
      refine TL'.step (.free rfl) (OpT.appendAM (i := 0) (xs := y3_1_0) (ys := [(IntKind.u8.wrap (IntKind.i64.wrap ((IntKind.i64.wrap ((64 : Int) * x4_1_1)) + v_95)))]) (f := (cI .u8)) rfl (dlt rfl (by decide)) Tryd.underlying26 i5 rfl rfl rfl rfl g_98 (fun w_97 => ?_))
      refine TL'.step (.free rfl) (OpT.assign rfl (dlt rfl (by decide)) rfl ?_)
      refine TL'.nil (inBlock_normal (thenS_normal ?_))
      refine T.regionL ?_
      refine TL'.step (.free rfl) (OpT.move rfl (dlt rfl (by decide)) rfl ?_)
      refine TL'.step (.free rfl) (OpT.move rfl (dlt rfl (by decide)) rfl ?_)
      refine TL'.step (.free rfl) (OpT.int2 rfl rfl (dlt rfl (by decide)) rfl rfl ?_)
      refine TL'.step (.free rfl) (OpT.int2 rfl rfl (dlt rfl (by decide)) rfl rfl ?_)
      refine TL'.step (.free rfl) (OpT.assign rfl (dlt rfl (by decide)) rfl ?_)
      refine TL'.nil (thenS_normal ?_)
      refine TL.by_turn ?_ (ih x4_1_1 (bits .and .u64 x5_1_2 (IntKind.u64.wrap (x5_1_2 - (1 : Int)))) x0 x7_1_4 (y3_1_0 ++ [(IntKind.u8.wrap (IntKind.i64.wrap ((IntKind.i64.wrap ((64 : Int) * x4_1_1)) + v_95)))]) w_97 h)
      exact Turn.re (.cons rfl (.cons rfl (.cons rfl (.cons rfl (.cons rfl (.nil _)))))) (.cons 0 rfl (.cons 0 rfl (.nil _)))
    · refine T.condF rfl c_94 ?_
      refine T.exit (thenS_exit (thenS_exit (inBlock_exit (inBlock_normal (thenS_normal ?_)))))
      refine T.regionL ?_
      refine TL'.step (.free rfl) (OpT.int2 rfl rfl (dlt rfl (by decide)) rfl rfl ?_)
      refine TL'.step (.free rfl) (OpT.move rfl (dlt rfl (by decide)) rfl ?_)
      refine TL'.nil (thenS_normal ?_)
      refine TL.by_turn ?_ (hgo0 x0 (IntKind.i64.wrap (x7_1_4 + (1 : Int))) y3_1_0 w3_1 h)
      exact Turn.re (.cons rfl (.cons rfl (.cons rfl (.nil _)))) (.cons 0 rfl (.cons 0 rfl (.nil _)))

theorem bset_List_l0_T {r : List Int} (K : Nat) : ∀ (k : Nat), ∀ (x0 : Arr4) (x7_0_2 : Int) (y3_0_0 : List Int) (w3_0 : Value), bset_List_l0 K k x0 x7_0_2 y3_0_0 = some r → TL Tryd.prog 28 (Code.at [1, 1, 0, 1, 0, 0] (codeOf Tryd.f11)) ⟨[(3, .c (.ex w3_0)), (6, .agg (Arr4.dc .u64 x0)), (7, .c (.ex (.int .i64 x7_0_2)))], [.arrA w3_0 5 1 (y3_0_0.map (cI .u8)), .ro 0 deBruijnD]⟩ (bset_List_qb0x111 r) := by
  intro k
  induction k with
  | zero =>
    intro x0 x7_0_2 y3_0_0 w3_0 h
    cases (show (none : Option (List Int)) = some r from h)
  | succ k ih =>
    intro x0 x7_0_2 y3_0_0 w3_0 h
    rw [bset_List_l0] at h
    refine TL.round ?_
    refine T.seq ?_
    refine T.regionL ?_
    refine TL'.step (.free rfl) (OpT.int2 rfl rfl (dlt rfl (by decide)) rfl rfl ?_)
    refine TL'.nil (thenS_normal ?_)
    refine T.seq ?_
    rcases bif_some h with ⟨c_92, h⟩ | ⟨c_92, h⟩
    · refine T.condT rfl c_92 ?_
      refine T.skip (thenS_normal ?_)
      refine T.seq ?_
      refine T.block ?_
      refine T.seq ?_
      refine T.regionL ?_
      refine TL'.step (.free rfl) (OpT.move rfl (dlt rfl (by decide)) rfl ?_)
      obtain ⟨g_93, h⟩ := ck_some h
      refine TL'.step (.free rfl) (OpT.indexArr rfl (dlt rfl (by decide)) Tryd.underlying24 Tryd.underlying22 rfl i22 rfl rfl g_93.1 g_93.2 (Arr4.dc_get (a := x0) (k := .u64) g_93.1 g_93.2) ?_)
      refine TL'.step (.free rfl) (OpT.assign rfl (dlt rfl (by decide)) rfl ?_)
      refine TL'.step (.free rfl) (OpT.assign rfl (dlt rfl (by decide)) rfl ?_)
      refine TL'.nil (thenS_normal ?_)
      refine T.block ?_
      refine T.loop ?_
      refine TL.by_turn ?_ (bset_List_l1_T K (bset_List_l0 K k) ih K x7_0_2 (Arr4.get x0 x7_0_2) x0 x7_0_2 y3_0_0 w3_0 h)
      exact Turn.re (.cons rfl (.cons rfl (.cons rfl (.cons rfl (.cons rfl (.nil _)))))) (.cons 0 rfl (.cons 0 rfl (.nil _)))
    · refine T.condF rfl c_92 ?_
      refine T.exit (thenS_exit (thenS_exit (inBlock_exit (thenS_normal ?_))))
      refine T.seq ?_
      refine T.regionL ?_
      refine TL'.step (.free rfl) (OpT.move rfl (dlt rfl (by decide)) rfl ?_)
      refine TL'.step (.free rfl) (OpT.assign rfl (dlt rfl (by decide)) rfl ?_)
      refine TL'.nil (thenS_normal ?_)
      refine T.ret ?_
      refine Fin.turn (Turn.view 2 0 rfl rfl) ?_
      exact Fin.doneK (.cons _ _ _ _ (.tmp 2 _ rfl) .nil) (.cons 1 rfl (.nil _)) (by cases h; exact ⟨rfl, rfl⟩)

theorem bset_List_T {K : Nat} {x0 : Arr4} {r : List Int} (h : bset_List K x0 = some r) : CallR Tryd.prog 11 [.agg (Arr4.dc .u64 x0)] [.ro 0 deBruijnD] (.c (.sl false 1 (r.map (cI .u8)))) := by
  refine CallT.intro Tryd.func11 rfl (Nat.le_of_ble_eq_true rfl) ?_
  show T Tryd.prog 28 (Code.at [] (codeOf Tryd.f11)) ⟨paramSlots 0 [.agg (Arr4.dc .u64 x0)], [.ro 0 deBruijnD]⟩ (bset_List_q r)
  unfold bset_List at h
  refine T.seq ?_
  refine T.regionL ?_
  refine TL'.step (.free rfl) (OpT.boxAgg rfl (dlt rfl (by decide)) rfl (fun b_91 => ?_))
  refine TL'.step (.free rfl) (OpT.assign rfl (dlt rfl (by decide)) rfl ?_)
  refine TL'.nil (thenS_normal ?_)
  refine T.seq ?_
  refine T.regionL ?_
  refine TL'.step (.free rfl) (OpT.assign rfl (dlt rfl (by decide)) rfl ?_)
  refine TL'.nil (thenS_normal ?_)
  refine T.seq ?_
  refine T.seq ?_
  refine T.regionL ?_
  refine TL'.step (.free rfl) (OpT.loadBoxAgg (i := 0) (l := (Arr4.dc .u64 x0)) rfl (dlt rfl (by decide)) Tryd.underlying24 rfl i24 rfl rfl rfl rfl ?_)
  refine TL'.step (.free rfl) (OpT.move rfl (dlt rfl (by decide)) rfl ?_)
  refine TL'.nil (thenS_normal ?_)
  refine T.block ?_
  refine T.loop ?_
  refine TL.by_turn (Turn.nilA 5 1) ?_
  refine TL.by_turn ?_ (bset_List_l0_T K K x0 (0 : Int) [] (.slice none 0 0) h)
  exact Turn.re (.cons rfl (.cons rfl (.cons rfl (.nil _)))) (.cons 0 rfl (.cons 1 rfl (.nil _)))

abbrev raddlelaw01_spans_q (r : Bool) : Exit → St → Prop := retS Tryd.prog Tryd.f13 (fun y t => y = (.c (.ex (.bool r))) ∧ t = [])

abbrev raddlelaw01_spans_qs111 (r : Bool) : Exit → St → Prop := thenS (fun s' => T Tryd.prog 26 (Code.at [1, 1, 1] (codeOf Tryd.f13)) s' ((raddlelaw01_spans_q r))) ((raddlelaw01_spans_q r))

abbrev raddlelaw01_spans_qb0x111 (r : Bool) : Exit → St → Prop := inBlockS 0 ((raddlelaw01_spans_qs111 r))

theorem raddlelaw01_spans_l0_T {r : Bool} (K : Nat) : ∀ (k : Nat), ∀ (x0 : List Arr2) (x1 : List Arr2) (x12_0_2 : Int) (x13_0_3 : Int) (fl0 : Bool) (fl1 : Bool), raddlelaw01_spans_l0 K k x0 x1 x12_0_2 x13_0_3 = some r → TL Tryd.prog 26 (Code.at [1, 1, 0, 1, 0, 0] (codeOf Tryd.f13)) ⟨[(0, .c (.sl fl0 2 (x0.map (Arr2.dc .u8)))), (1, .c (.sl fl1 2 (x1.map (Arr2.dc .u8)))), (12, .c (.ex (.int .i64 x12_0_2))), (13, .c (.ex (.int .i64 x13_0_3)))], []⟩ (raddlelaw01_spans_qb0x111 r) := by
  intro k
  induction k with
  | zero =>
    intro x0 x1 x12_0_2 x13_0_3 fl0 fl1 h
    cases (show (none : Option Bool) = some r from h)
  | succ k ih =>
    intro x0 x1 x12_0_2 x13_0_3 fl0 fl1 h
    rw [raddlelaw01_spans_l0] at h
    refine TL.round ?_
    refine T.seq ?_
    refine T.regionL ?_
    refine TL'.step (.free rfl) (OpT.int2 rfl rfl (dlt rfl (by decide)) rfl rfl ?_)
    refine TL'.nil (thenS_normal ?_)
    refine T.seq ?_
    rcases bif_some h with ⟨c_74, h⟩ | ⟨c_74, h⟩
    · refine T.condT rfl c_74 ?_
      refine T.skip (thenS_normal ?_)
      refine T.seq ?_
      refine T.block ?_
      refine T.seq ?_
      refine T.regionL ?_
      refine TL'.step (.free rfl) (OpT.move rfl (dlt rfl (by decide)) rfl ?_)
      refine TL'.step (.free rfl) (OpT.assign rfl (dlt rfl (by decide)) rfl ?_)
      refine TL'.nil (thenS_normal ?_)
      refine T.seq ?_
      obtain ⟨v_76, e_77, h⟩ := bind_some h
      obtain ⟨v_78, e_79, h⟩ := bind_some h
      refine T.draw (s1 := ⟨[(0, .c (.sl fl0 2 (x0.map (Arr2.dc .u8)))), (1, .c (.sl fl1 2 (x1.map (Arr2.dc .u8)))), (12, .c (.ex (.int .i64 x12_0_2))), (13, .c (.ex (.int .i64 x13_0_3))), (24, .c (.ex (.bool (!(Arr2.same v_76 v_78)))))], []⟩) (ms := [0, 0, 3, 7, 0, 0, 48, 112, 255]) TrydMixed (.cons (c := ⟨some 16, .c (.sl fl0 2 (x0.map (Arr2.dc .u8))), [(0, .c (.sl fl0 2 (x0.map (Arr2.dc .u8))))], [], []⟩) (fun t hm => One.step rfl (.free rfl) (OpT.move rfl (dlt rfl (by decide)) (hm.slots (0, _) (.head _)) rfl)) (Ct.met_of rfl rfl) (.cons (c := ⟨some 17, .c (.ex (.int .i64 x13_0_3)), [(5, .c (.ex (.int .i64 x13_0_3)))], [], []⟩) (fun t hm => One.step rfl (.free rfl) (OpT.move rfl (dlt rfl (by decide)) (hm.slots (5, _) (.head _)) rfl)) (Ct.met_of rfl rfl) (.cons (c := ⟨some 18, .ref [.ex (.int .u8 v_76.a0), .ex (.int .u8 v_76.a1)], [(16, .c (.sl fl0 2 (x0.map (Arr2.dc .u8)))), (17, .c (.ex (.int .i64 x13_0_3)))], [], []⟩) (fun t hm => One.step rfl (.free rfl) (OpT.indexSlM (xs := x0) (f := (Arr2.dc .u8)) (v := v_76) rfl (dlt rfl (by decide)) Tryd.underlying29 i34 (hm.slots (16, _) (.head _)) (hm.slots (17, _) (.tail _ (.head _))) e_77 rfl)) (Ct.met_of rfl rfl) (.cons (c := ⟨some 19, .agg (Arr2.dc .u8 v_76), [(18, .ref [.ex (.int .u8 v_76.a0), .ex (.int .u8 v_76.a1)])], [], []⟩) (fun t hm => One.step rfl (.free rfl) (OpT.loadRefAgg rfl (dlt rfl (by decide)) Tryd.underlying34 rfl i34 (hm.slots (18, _) (.head _)) (Nat.le_of_ble_eq_true rfl) rfl)) (Ct.met_of rfl rfl) (.cons (c := ⟨some 20, .c (.sl fl1 2 (x1.map (Arr2.dc .u8))), [(1, .c (.sl fl1 2 (x1.map (Arr2.dc .u8))))], [], []⟩) (fun t hm => One.step rfl (.free rfl) (OpT.move rfl (dlt rfl (by decide)) (hm.slots (1, _) (.head _)) rfl)) (Ct.met_of rfl rfl) (.cons (c := ⟨some 21, .c (.ex (.int .i64 x13_0_3)), [(5, .c (.ex (.int .i64 x13_0_3)))], [], []⟩) (fun t hm => One.step rfl (.free rfl) (OpT.move rfl (dlt rfl (by decide)) (hm.slots (5, _) (.head _)) rfl)) (Ct.met_of rfl rfl) (.cons (c := ⟨some 22, .ref [.ex (.int .u8 v_78.a0), .ex (.int .u8 v_78.a1)], [(20, .c (.sl fl1 2 (x1.map (Arr2.dc .u8)))), (21, .c (.ex (.int .i64 x13_0_3)))], [], []⟩) (fun t hm => One.step rfl (.free rfl) (OpT.indexSlM (xs := x1) (f := (Arr2.dc .u8)) (v := v_78) rfl (dlt rfl (by decide)) Tryd.underlying29 i34 (hm.slots (20, _) (.head _)) (hm.slots (21, _) (.tail _ (.head _))) e_79 rfl)) (Ct.met_of rfl rfl) (.cons (c := ⟨some 23, .agg (Arr2.dc .u8 v_78), [(22, .ref [.ex (.int .u8 v_78.a0), .ex (.int .u8 v_78.a1)])], [], []⟩) (fun t hm => One.step rfl (.free rfl) (OpT.loadRefAgg rfl (dlt rfl (by decide)) Tryd.underlying34 rfl i34 (hm.slots (22, _) (.head _)) (Nat.le_of_ble_eq_true rfl) rfl)) (Ct.met_of rfl rfl) (.cons (c := ⟨some 24, .c (.ex (.bool (!(Arr2.same v_76 v_78)))), [(19, .agg (Arr2.dc .u8 v_76)), (23, .agg (Arr2.dc .u8 v_78))], [], []⟩) (fun t hm => One.step rfl (.free rfl) (OpT.intsNeq (k := .u8) (xs := [v_76.a0, v_76.a1]) (ys := [v_78.a0, v_78.a1]) rfl (dlt rfl (by decide)) Tryd.underlying34 Tryd.underlying5 i5 Tryd.eqGuardType34 (hm.slots (19, _) (.head _)) (hm.slots (23, _) (.tail _ (.head _))) rfl rfl rfl rfl (Arr2.same_eq v_76 v_78) rfl)) (Ct.met_of rfl rfl) (.nil _ _)))))))))) rfl (by kernel_rfl) (by kernel_rfl) (by kernel_rfl) (.cons rfl (.cons rfl (.cons rfl (.cons rfl (.cons rfl (.nil _)))))) rfl (fun u hu => (thenS_normal (T.by_turn hu ?_)))
      rcases bif_some h with ⟨c_80, h⟩ | ⟨c_80, h⟩
      · refine T.condT rfl c_80 ?_
        refine T.seq ?_
        refine T.regionL ?_
        refine TL'.step (.free rfl) (OpT.assign rfl (dlt rfl (by decide)) rfl ?_)
        refine TL'.nil (thenS_normal ?_)
        refine T.ret (inBlock_ret (thenS_ret (thenS_ret (inBlock_ret (thenS_ret ?_)))))
        exact Fin.done (.cons _ _ _ _ (.tmp 4 _ rfl) .nil) (by cases h; exact ⟨rfl, rfl⟩)
      · refine T.condF rfl c_80 ?_
        refine T.skip (inBlock_normal (thenS_normal ?_))
        refine T.regionL ?_
        refine TL'.step (.free rfl) (OpT.int2 rfl rfl (dlt rfl (by decide)) rfl rfl ?_)
        refine TL'.step (.free rfl) (OpT.move rfl (dlt rfl (by decide)) rfl ?_)
        refine TL'.nil (thenS_normal ?_)
        refine TL.by_turn ?_ (ih x0 x1 x12_0_2 (IntKind.i64.wrap (x13_0_3 + (1 : Int))) fl0 fl1 h)
        exact Turn.re (.cons rfl (.cons rfl (.cons rfl (.cons rfl (.nil _))))) (.nil _)
    · refine T.condF rfl c_74 ?_
      refine T.exit (thenS_exit (thenS_exit (inBlock_exit (thenS_normal ?_))))
      refine T.seq ?_
      refine T.regionL ?_
      refine TL'.step (.free rfl) (OpT.assign rfl (dlt rfl (by decide)) rfl ?_)
      refine TL'.nil (thenS_normal ?_)
      refine T.ret ?_
      exact Fin.done (.cons _ _ _ _ (.tmp 4 _ rfl) .nil) (by cases h; exact ⟨rfl, rfl⟩)

theorem raddlelaw01_spans_T {K : Nat} {x0 : List Arr2} {x1 : List Arr2} {fl0 : Bool} {fl1 : Bool} {r : Bool} (h : raddlelaw01_spans K x0 x1 = some r) : CallR Tryd.prog 13 [.c (.sl fl0 2 (x0.map (Arr2.dc .u8))), .c (.sl fl1 2 (x1.map (Arr2.dc .u8)))] [] (.c (.ex (.bool r))) := by
  refine CallT.intro Tryd.func13 rfl (Nat.le_of_ble_eq_true rfl) ?_
  show T Tryd.prog 26 (Code.at [] (codeOf Tryd.f13)) ⟨paramSlots 0 [.c (.sl fl0 2 (x0.map (Arr2.dc .u8))), .c (.sl fl1 2 (x1.map (Arr2.dc .u8)))], []⟩ (raddlelaw01_spans_q r)
  unfold raddlelaw01_spans at h
  refine T.seq ?_
  refine T.regionL ?_
  refine TL'.step (.free rfl) (OpT.assign rfl (dlt rfl (by decide)) rfl ?_)
  refine TL'.nil (thenS_normal ?_)
  refine T.seq ?_
  refine T.seq ?_
  refine T.regionL ?_
  refine TL'.step (.free rfl) (OpT.move rfl (dlt rfl (by decide)) rfl ?_)
  refine TL'.step (.free rfl) (OpT.lenSlM (xs := x0) (f := (Arr2.dc .u8)) rfl (dlt rfl (by decide)) Tryd.underlying29 rfl ?_)
  refine TL'.step (.free rfl) (OpT.move rfl (dlt rfl (by decide)) rfl ?_)
  refine TL'.step (.free rfl) (OpT.lenSlM (xs := x1) (f := (Arr2.dc .u8)) rfl (dlt rfl (by decide)) Tryd.underlying29 rfl ?_)
  refine TL'.step (.free rfl) (OpT.int2 rfl rfl (dlt rfl (by decide)) rfl rfl ?_)
  refine TL'.nil (thenS_normal ?_)
  rcases bif_some h with ⟨c_73, h⟩ | ⟨c_73, h⟩
  · refine T.condT rfl c_73 ?_
    refine T.seq ?_
    refine T.regionL ?_
    refine TL'.step (.free rfl) (OpT.assign rfl (dlt rfl (by decide)) rfl ?_)
    refine TL'.nil (thenS_normal ?_)
    refine T.ret (thenS_ret ?_)
    exact Fin.done (.cons _ _ _ _ (.tmp 4 _ rfl) .nil) (by cases h; exact ⟨rfl, rfl⟩)
  · refine T.condF rfl c_73 ?_
    refine T.skip (thenS_normal ?_)
    refine T.seq ?_
    refine T.seq ?_
    refine T.regionL ?_
    refine TL'.step (.free rfl) (OpT.move rfl (dlt rfl (by decide)) rfl ?_)
    refine TL'.step (.free rfl) (OpT.lenSlM (xs := x0) (f := (Arr2.dc .u8)) rfl (dlt rfl (by decide)) Tryd.underlying29 rfl ?_)
    refine TL'.step (.free rfl) (OpT.move rfl (dlt rfl (by decide)) rfl ?_)
    refine TL'.nil (thenS_normal ?_)
    refine T.block ?_
    refine T.loop ?_
    refine TL.by_turn ?_ (raddlelaw01_spans_l0_T K K x0 x1 (x0.length : Int) (0 : Int) fl0 fl1 h)
    exact Turn.re (.cons rfl (.cons rfl (.cons rfl (.cons rfl (.nil _))))) (.nil _)

abbrev bset_Spans_q (r : List Arr2) : Exit → St → Prop := retS Tryd.prog Tryd.f14 (fun y t => y = (.c (.sl false 2 (r.map (Arr2.dc .u8)))) ∧ t = [.ro 0 deBruijnD])

abbrev bset_Spans_qs1111 (r : List Arr2) : Exit → St → Prop := thenS (fun s' => T Tryd.prog 36 (Code.at [1, 1, 1, 1] (codeOf Tryd.f14)) s' ((bset_Spans_q r))) ((bset_Spans_q r))

abbrev bset_Spans_qb0x1111 (r : List Arr2) : Exit → St → Prop := inBlockS 0 ((bset_Spans_qs1111 r))

abbrev bset_Spans_ql111010 (r : List Arr2) : Exit → St → Prop := thenS (fun s' => TL Tryd.prog 36 (Code.at [1, 1, 1, 0, 1, 0, 0] (codeOf Tryd.f14)) s' ((bset_Spans_qb0x1111 r))) ((bset_Spans_qb0x1111 r))

abbrev bset_Spans_qs1110100111 (r : List Arr2) : Exit → St → Prop := thenS (fun s' => T Tryd.prog 36 (Code.at [1, 1, 1, 0, 1, 0, 0, 1, 1, 1] (codeOf Tryd.f14)) s' ((bset_Spans_ql111010 r))) ((bset_Spans_ql111010 r))

abbrev bset_Spans_qb1_0x1110100111 (r : List Arr2) : Exit → St → Prop := inBlockS 1 ((bset_Spans_qs1110100111 r))

theorem bset_Spans_j1_T {r : List Arr2} (K : Nat) (go0 : Int → (List Int) → Int → Int → (List Arr2) → Option (List Arr2)) (hgo0 : ∀ (x4_0_1 : Int) (x8_0_2 : List Int) (x9_0_3 : Int) (x10_0_4 : Int) (y3_0_0 : List Arr2) (w3_0 : Value), go0 x4_0_1 x8_0_2 x9_0_3 x10_0_4 y3_0_0 = some r → TL Tryd.prog 36 (Code.at [1, 1, 1, 0, 1, 0, 0] (codeOf Tryd.f14)) ⟨[(3, .c (.ex w3_0)), (4, .c (.ex (.int .i64 x4_0_1))), (8, .c (.sl false 1 (x8_0_2.map (cI .u8)))), (9, .c (.ex (.int .i64 x9_0_3))), (10, .c (.ex (.int .i64 x10_0_4)))], [.arrX w3_0 34 2 0 (y3_0_0.map (Arr2.dc .u8)), .ro 0 deBruijnD]⟩ (bset_Spans_qb0x1111 r)) (x6_1_1 : Int) (x8_1_2 : List Int) (x9_1_3 : Int) (x10_1_4 : Int) (y3_1_0 : List Arr2) (w3_1 : Value) (h : bset_Spans_j1 K go0 x6_1_1 x8_1_2 x9_1_3 x10_1_4 y3_1_0 = some r) : T Tryd.prog 36 (Code.at [1, 1, 1, 0, 1, 0, 0, 1, 1, 0, 0, 1, 1] (codeOf Tryd.f14)) ⟨[(3, .c (.ex w3_1)), (6, .c (.ex (.int .u8 x6_1_1))), (8, .c (.sl false 1 (x8_1_2.map (cI .u8)))), (9, .c (.ex (.int .i64 x9_1_3))), (10, .c (.ex (.int .i64 x10_1_4)))], [.arrX w3_1 34 2 0 (y3_1_0.map (Arr2.dc .u8)), .ro 0 deBruijnD]⟩ (bset_Spans_qb1_0x1110100111 r) := by
  unfold bset_Spans_j1 at h
  refine T.regionL ?_
  refine TL'.step (.free rfl) (OpT.move rfl (dlt rfl (by decide)) rfl ?_)
  refine TL'.step (.free rfl) (OpT.convInt rfl (dlt rfl (by decide)) Tryd.underlying5 Tryd.underlying3 rfl ?_)
  refine TL'.step (.free rfl) (OpT.assign rfl (dlt rfl (by decide)) rfl ?_)
  refine TL'.nil (inBlock_normal (thenS_normal ?_))
  refine T.regionL ?_
  refine TL'.step (.free rfl) (OpT.int2 rfl rfl (dlt rfl (by decide)) rfl rfl ?_)
  refine TL'.step (.free rfl) (OpT.move rfl (dlt rfl (by decide)) rfl ?_)
  refine TL'.nil (thenS_normal ?_)
  refine TL.by_turn ?_ (hgo0 (IntKind.i64.wrap x6_1_1) x8_1_2 x9_1_3 (IntKind.i64.wrap (x10_1_4 + (1 : Int))) y3_1_0 w3_1 h)
  exact Turn.re (.cons rfl (.cons rfl (.cons rfl (.cons rfl (.cons rfl (.nil _)))))) (.cons 0 rfl (.cons 0 rfl (.nil _)))

theorem bset_Spans_l0_T {r : List Arr2} (K : Nat) : ∀ (k : Nat), ∀ (x4_0_1 : Int) (x8_0_2 : List Int) (x9_0_3 : Int) (x10_0_4 : Int) (y3_0_0 : List Arr2) (w3_0 : Value), bset_Spans_l0 K k x4_0_1 x8_0_2 x9_0_3 x10_0_4 y3_0_0 = some r → TL Tryd.prog 36 (Code.at [1, 1, 1, 0, 1, 0, 0] (codeOf Tryd.f14)) ⟨[(3, .c (.ex w3_0)), (4, .c (.ex (.int .i64 x4_0_1))), (8, .c (.sl false 1 (x8_0_2.map (cI .u8)))), (9, .c (.ex (.int .i64 x9_0_3))), (10, .c (.ex (.int .i64 x10_0_4)))], [.arrX w3_0 34 2 0 (y3_0_0.map (Arr2.dc .u8)), .ro 0 deBruijnD]⟩ (bset_Spans_qb0x1111 r) := by
  intro k
  induction k with
  | zero =>
    intro x4_0_1 x8_0_2 x9_0_3 x10_0_4 y3_0_0 w3_0 h
    cases (show (none : Option (List Arr2)) = some r from h)
  | succ k ih =>
    intro x4_0_1 x8_0_2 x9_0_3 x10_0_4 y3_0_0 w3_0 h
    rw [bset_Spans_l0] at h
    refine TL.round ?_
    refine T.seq ?_
    refine T.regionL ?_
    refine TL'.step (.free rfl) (OpT.int2 rfl rfl (dlt rfl (by decide)) rfl rfl ?_)
    refine TL'.nil (thenS_normal ?_)
    refine T.seq ?_
    rcases bif_some h with ⟨c_115, h⟩ | ⟨c_115, h⟩
    · refine T.condT rfl c_115 ?_
      refine T.skip (thenS_normal ?_)
      refine T.seq ?_
      refine T.block ?_
      refine T.seq ?_
      refine T.regionL ?_
      obtain ⟨v_116, e_117, h⟩ := bind_some h
      refine TL'.step (.free rfl) (OpT.indexSlM (xs := x8_0_2) (f := (cI .u8)) (v := v_116) rfl (dlt rfl (by decide)) Tryd.underlying26 i5 rfl rfl e_117 ?_)
      refine TL'.step (.free rfl) (OpT.loadRef rfl (dlt rfl (by decide)) Tryd.underlying5 rfl rfl rfl ?_)
      refine TL'.step (.free rfl) (OpT.assign rfl (dlt rfl (by decide)) rfl ?_)
      refine TL'.nil (thenS_normal ?_)
      refine T.seq ?_
      refine T.seq ?_
      refine T.regionL ?_
      refine TL'.step (.free rfl) (OpT.move rfl (dlt rfl (by decide)) rfl ?_)
      refine TL'.step (.free rfl) (OpT.convInt rfl (dlt rfl (by decide)) Tryd.underlying5 Tryd.underlying3 rfl ?_)
      refine TL'.step (.free rfl) (OpT.move rfl (dlt rfl (by decide)) rfl ?_)
      refine TL'.step (.free rfl) (OpT.int2 rfl rfl (dlt rfl (by decide)) rfl rfl ?_)
      refine TL'.step (.free rfl) (OpT.int2 rfl rfl (dlt rfl (by decide)) rfl rfl ?_)
      refine TL'.nil (thenS_normal ?_)
      rcases bif_some h with ⟨c_118, h⟩ | ⟨c_118, h⟩
      · refine T.condT rfl c_118 ?_
        refine T.regionL ?_
        refine TL'.step (.free rfl) (OpT.move rfl (dlt rfl (by decide)) rfl ?_)
        refine TL'.step (.free rfl) (OpT.move rfl (dlt rfl (by decide)) rfl ?_)
        refine TL'.step (.free rfl) (OpT.lenXM (i := 0) (xs := y3_0_0) (f := (Arr2.dc .u8)) rfl (dlt rfl (by decide)) Tryd.underlying29 rfl rfl ?_)
        refine TL'.step (.free rfl) (OpT.int2 rfl rfl (dlt rfl (by decide)) rfl rfl ?_)
        refine TL'.step (.free rfl) (OpT.move rfl (dlt rfl (by decide)) rfl ?_)
        obtain ⟨v_119, e_120, h⟩ := bind_some h
        refine TL'.step (.free rfl) (OpT.indexXM (n := 0) (xs := y3_0_0) (f := (Arr2.dc .u8)) (old := v_119) rfl (dlt rfl (by decide)) Tryd.underlying29 i34 rfl rfl rfl e_120 ?_)
        refine TL'.step (.free rfl) (OpT.indexEl rfl (dlt rfl (by decide)) Tryd.underlying34 i5 rfl rfl (by decide) (by decide) ?_)
        refine TL'.step (.free rfl) (OpT.storeXM (i := 0) (xs := y3_0_0) (f := (Arr2.dc .u8)) (old := v_119) (new := (Arr2.set v_119 1 v_116)) rfl rfl i5 rfl rfl rfl (geti_some e_120).2 (Nat.zero_le _) (Nat.le_of_ble_eq_true rfl) rfl ?_)
        refine TL'.nil (thenS_normal ?_)
        refine T.by_turn ?_ (bset_Spans_j1_T K (bset_Spans_l0 K k) ih v_116 x8_0_2 x9_0_3 x10_0_4 (List.set y3_0_0 (Int.toNat (IntKind.i64.wrap ((y3_0_0.length : Int) - (1 : Int)))) (Arr2.set v_119 1 v_116)) w3_0 h)
        exact Turn.re (.cons rfl (.cons rfl (.cons rfl (.cons rfl (.cons rfl (.nil _)))))) (.cons 0 rfl (.cons 0 rfl (.nil _)))
      · refine T.condF rfl c_118 ?_
        refine T.regionL ?_
        refine TL'.step (.free rfl) (OpT.move rfl (dlt rfl (by decide)) rfl ?_)
        refine TL'.step (.free rfl) (OpT.move rfl (dlt rfl (by decide)) rfl ?_)
        refine TL'.step (.free rfl) (OpT.move rfl (dlt rfl (by decide)) rfl ?_)
        refine TL'.step (.free rfl) (OpT.build (l := (Arr2.dc .u8 (Arr2.mk v_116 v_116))) rfl (dlt rfl (by decide)) (built_arr Tryd.underlying34 i34 i5) (all1 rfl) rfl rfl ?_)
        refine TL'.step (.free rfl) (OpT.buildSlice (elems := ([(Arr2.mk v_116 v_116)] : List Arr2).map (Arr2.dc .u8)) rfl (dlt rfl (by decide)) Tryd.underlying29 i34 (by decide) rfl (all1 rfl) rfl rfl rfl (lenAll rfl) (by decide) ?_)
        obtain ⟨g_122, h⟩ := ck_some h
        refine TL'.step (.free rfl) (OpT.appendXM (i := 0) (xs := y3_0_0) (ys := [(Arr2.mk v_116 v_116)]) (f := (Arr2.dc .u8)) rfl (dlt rfl (by decide)) Tryd.underlying29 i34 rfl rfl rfl rfl g_122 (fun w_121 => ?_))
        refine TL'.step (.free rfl) (OpT.assign rfl (dlt rfl (by decide)) rfl ?_)
        refine TL'.nil (thenS_normal ?_)
        refine T.by_turn ?_ (bset_Spans_j1_T K (bset_Spans_l0 K k) ih v_116 x8_0_2 x9_0_3 x10_0_4 (y3_0_0 ++ [(Arr2.mk v_116 v_116)]) w_121 h)
        exact Turn.re (.cons rfl (.cons rfl (.cons rfl (.cons rfl (.cons rfl (.nil _)))))) (.cons 0 rfl (.cons 0 rfl (.nil _)))
    · refine T.condF rfl c_115 ?_
      refine T.exit (thenS_exit (thenS_exit (inBlock_exit (thenS_normal ?_))))
      refine T.seq ?_
      refine T.regionL ?_
      refine TL'.step (.free rfl) (OpT.move rfl (dlt rfl (by decide)) rfl ?_)
      refine TL'.step (.free rfl) (OpT.assign rfl (dlt rfl (by decide)) rfl ?_)
      refine TL'.nil (thenS_normal ?_)
      refine T.ret ?_
      refine Fin.turn (Turn.sealX 0 rfl) ?_
      refine Fin.turn (Turn.view 2 0 rfl rfl) ?_
      exact Fin.doneK (.cons _ _ _ _ (.tmp 2 _ rfl) .nil) (.cons 1 rfl (.nil _)) (by cases h; exact ⟨rfl, rfl⟩)

theorem bset_Spans_T {K : Nat} {x0 : Arr4} {r : List Arr2} (h : bset_Spans K x0 = some r) : CallR Tryd.prog 14 [.agg (Arr4.dc .u64 x0)] [.ro 0 deBruijnD] (.c (.sl false 2 (r.map (Arr2.dc .u8)))) := by
  refine CallT.intro Tryd.func14 rfl (Nat.le_of_ble_eq_true rfl) ?_
  show T Tryd.prog 36 (Code.at [] (codeOf Tryd.f14)) ⟨paramSlots 0 [.agg (Arr4.dc .u64 x0)], [.ro 0 deBruijnD]⟩ (bset_Spans_q r)
  unfold bset_Spans at h
  refine T.seq ?_
  refine T.regionL ?_
  refine TL'.step (.free rfl) (OpT.boxAgg rfl (dlt rfl (by decide)) rfl (fun b_112 => ?_))
  refine TL'.step (.free rfl) (OpT.assign rfl (dlt rfl (by decide)) rfl ?_)
  refine TL'.nil (thenS_normal ?_)
  refine T.seq ?_
  refine T.regionL ?_
  refine TL'.step (.free rfl) (OpT.assign rfl (dlt rfl (by decide)) rfl ?_)
  refine TL'.nil (thenS_normal ?_)
  refine T.seq ?_
  refine T.regionL ?_
  refine TL'.step (.free rfl) (OpT.assign rfl (dlt rfl (by decide)) rfl ?_)
  refine TL'.nil (thenS_normal ?_)
  refine T.seq ?_
  refine T.seq ?_
  refine T.regionL ?_
  refine TL'.step (.free rfl) (OpT.loadBoxAgg (i := 0) (l := (Arr4.dc .u64 x0)) rfl (dlt rfl (by decide)) Tryd.underlying24 rfl i24 rfl rfl rfl rfl ?_)
  obtain ⟨v_113, e_114, h⟩ := bind_some h
  refine TL'.step (.free rfl) (OpT.callRo rfl (dlt rfl (by decide)) Tryd.func11 rfl rfl rfl (.cons 1 rfl (.nil)) (bset_List_T e_114) ?_)
  refine TL'.step (.free rfl) (OpT.lenSlM (xs := v_113) (f := (cI .u8)) rfl (dlt rfl (by decide)) Tryd.underlying26 rfl ?_)
  refine TL'.step (.free rfl) (OpT.move rfl (dlt rfl (by decide)) rfl ?_)
  refine TL'.nil (thenS_normal ?_)
  refine T.block ?_
  refine T.loop ?_
  refine TL.by_turn (Turn.nilX 34 2) ?_
  refine TL.by_turn ?_ (bset_Spans_l0_T K K (-2 : Int) v_113 (v_113.length : Int) (0 : Int) [] (.slice none 0 0) h)
  exact Turn.re (.cons rfl (.cons rfl (.cons rfl (.cons rfl (.cons rfl (.nil _)))))) (.cons 0 rfl (.cons 1 rfl (.nil _)))

abbrev bset_Range_q (r : Arr4) : Exit → St → Prop := retS Tryd.prog Tryd.f18 (fun y t => y = (.agg (Arr4.dc .u64 r)) ∧ t = [])

abbrev bset_Range_qs111 (r : Arr4) : Exit → St → Prop := thenS (fun s' => T Tryd.prog 25 (Code.at [1, 1, 1] (codeOf Tryd.f18)) s' ((bset_Range_q r))) ((bset_Range_q r))

abbrev bset_Range_qb0x111 (r : Arr4) : Exit → St → Prop := inBlockS 0 ((bset_Range_qs111 r))

theorem bset_Range_l0_T {r : Arr4} (K : Nat) : ∀ (k : Nat), ∀ (x1 : Int) (x6_0_3 : Int) (y4_0_1 : Arr4) (y5_0_2 : Arr4) (b4_0 : Nat) (b5_0 : Nat), bset_Range_l0 K k x1 x6_0_3 y4_0_1 y5_0_2 = some r → TL Tryd.prog 25 (Code.at [1, 1, 0, 1, 0, 0] (codeOf Tryd.f18)) ⟨[(1, .c (.ex (.int .u8 x1))), (4, .c (.ex (.pointer (some ⟨b4_0, 0, none⟩)))), (5, .c (.ex (.pointer (some ⟨b5_0, 0, none⟩)))), (6, .c (.ex (.int .i64 x6_0_3)))], [.box b4_0 24 (Arr4.oc .u64 y4_0_1), .box b5_0 24 (Arr4.oc .u64 y5_0_2)]⟩ (bset_Range_qb0x111 r) := by
  intro k
  induction k with
  | zero =>
    intro x1 x6_0_3 y4_0_1 y5_0_2 b4_0 b5_0 h
    cases (show (none : Option Arr4) = some r from h)
  | succ k ih =>
    intro x1 x6_0_3 y4_0_1 y5_0_2 b4_0 b5_0 h
    rw [bset_Range_l0] at h
    refine TL.round ?_
    refine T.seq ?_
    refine T.seq ?_
    refine T.regionL ?_
    refine TL'.step (.free rfl) (OpT.move rfl (dlt rfl (by decide)) rfl ?_)
    refine TL'.step (.free rfl) (OpT.move rfl (dlt rfl (by decide)) rfl ?_)
    refine TL'.step (.free rfl) (OpT.convInt rfl (dlt rfl (by decide)) Tryd.underlying5 Tryd.underlying3 rfl ?_)
    refine TL'.step (.free rfl) (OpT.int2 rfl rfl (dlt rfl (by decide)) rfl rfl ?_)
    refine TL'.nil (thenS_normal ?_)
    rcases bif_some h with ⟨c_33, h⟩ | ⟨c_33, h⟩
    · refine T.condT rfl c_33 ?_
      refine T.skip (thenS_normal ?_)
      refine T.seq ?_
      refine T.block ?_
      obtain ⟨g_35, h⟩ := ck_some h
      obtain ⟨g_36, h⟩ := ck_some h
      refine T.draw (s1 := ⟨[(1, .c (.ex (.int .u8 x1))), (4, .c (.ex (.pointer (some ⟨b4_0, 0, none⟩)))), (5, .c (.ex (.pointer (some ⟨b5_0, 0, none⟩)))), (6, .c (.ex (.int .i64 x6_0_3)))], [.box b4_0 24 (Arr4.oc .u64 y4_0_1), .box b5_0 24 (Arr4.oc .u64 (Arr4.set y5_0_2 (IntKind.i64.wrap (Int.tdiv x6_0_3 (64 : Int))) (bits .or .u64 (Arr4.get y5_0_2 (IntKind.i64.wrap (Int.tdiv x6_0_3 (64 : Int)))) (IntKind.u64.wrap ((1 : Int) * 2 ^ min (Int.toNat (Int.tmod x6_0_3 (64 : Int))) IntKind.u64.bits)))))]⟩) (ms := [0, 1, 3, 7, 0, 16, 48, 127, 255, 511]) TrydMixed (.cons (c := ⟨some 15, .c (.ex (.int .i64 x6_0_3)), [(6, .c (.ex (.int .i64 x6_0_3)))], [], []⟩) (fun t hm => One.step rfl (.free rfl) (OpT.move rfl (dlt rfl (by decide)) (hm.slots (6, _) (.head _)) rfl)) (Ct.met_of rfl rfl) (.cons (c := ⟨some 16, .c (.ex (.int .i64 (IntKind.i64.wrap (Int.tdiv x6_0_3 (64 : Int))))), [(15, .c (.ex (.int .i64 x6_0_3)))], [], []⟩) (fun t hm => One.step rfl (.free rfl) (OpT.quo rfl (dlt rfl (by decide)) (hm.slots (15, _) (.head _)) rfl (by decide) rfl)) (Ct.met_of rfl rfl) (.cons (c := ⟨some 17, .c (.ex (.pointer (some ⟨b5_0, (0 + (Int.toNat (IntKind.i64.wrap (Int.tdiv x6_0_3 (64 : Int)))) * 1), none⟩))), [(5, .c (.ex (.pointer (some ⟨b5_0, 0, none⟩)))), (16, .c (.ex (.int .i64 (IntKind.i64.wrap (Int.tdiv x6_0_3 (64 : Int))))))], [], []⟩) (fun t hm => One.step rfl (.free rfl) (OpT.indexPtr rfl (dlt rfl (by decide)) Tryd.underlying24 i22 (hm.slots (5, _) (.head _)) (hm.slots (16, _) (.tail _ (.head _))) g_35.1 g_35.2 rfl)) (Ct.met_of rfl rfl) (.cons (c := ⟨some 18, .c (.ex (.int .u64 (Arr4.get y5_0_2 (IntKind.i64.wrap (Int.tdiv x6_0_3 (64 : Int)))))), [(17, .c (.ex (.pointer (some ⟨b5_0, (0 + (Int.toNat (IntKind.i64.wrap (Int.tdiv x6_0_3 (64 : Int)))) * 1), none⟩))))], [(1, .box b5_0 24 (Arr4.oc .u64 y5_0_2))], []⟩) (fun t hm => One.step rfl (.free rfl) (OpT.loadBox (i := 1) rfl (dlt rfl (by decide)) Tryd.underlying22 rfl (hm.slots (17, _) (.head _)) (hm.objs (1, _) (.head _)) (Arr4.oc_get (k := .u64) (a := y5_0_2) (pre := []) (post := []) g_35.1 g_35.2) rfl)) (Ct.met_of rfl rfl) (.cons (c := ⟨some 19, .c (.ex (.int .i64 x6_0_3)), [(6, .c (.ex (.int .i64 x6_0_3)))], [], []⟩) (fun t hm => One.step rfl (.free rfl) (OpT.move rfl (dlt rfl (by decide)) (hm.slots (6, _) (.head _)) rfl)) (Ct.met_of rfl rfl) (.cons (c := ⟨some 20, .c (.ex (.int .i64 (Int.tmod x6_0_3 (64 : Int)))), [(19, .c (.ex (.int .i64 x6_0_3)))], [], []⟩) (fun t hm => One.step rfl (.free rfl) (OpT.rem rfl (dlt rfl (by decide)) (hm.slots (19, _) (.head _)) rfl (by decide) rfl)) (Ct.met_of rfl rfl) (.cons (c := ⟨some 21, .c (.ex (.int .u64 (IntKind.u64.wrap ((1 : Int) * 2 ^ min (Int.toNat (Int.tmod x6_0_3 (64 : Int))) IntKind.u64.bits)))), [(20, .c (.ex (.int .i64 (Int.tmod x6_0_3 (64 : Int)))))], [], []⟩) (fun t hm => One.step rfl (.free rfl) (OpT.shl rfl (dlt rfl (by decide)) rfl (hm.slots (20, _) (.head _)) g_36 rfl)) (Ct.met_of rfl rfl) (.cons (c := ⟨some 22, .c (.ex (.int .u64 (bits .or .u64 (Arr4.get y5_0_2 (IntKind.i64.wrap (Int.tdiv x6_0_3 (64 : Int)))) (IntKind.u64.wrap ((1 : Int) * 2 ^ min (Int.toNat (Int.tmod x6_0_3 (64 : Int))) IntKind.u64.bits))))), [(18, .c (.ex (.int .u64 (Arr4.get y5_0_2 (IntKind.i64.wrap (Int.tdiv x6_0_3 (64 : Int))))))), (21, .c (.ex (.int .u64 (IntKind.u64.wrap ((1 : Int) * 2 ^ min (Int.toNat (Int.tmod x6_0_3 (64 : Int))) IntKind.u64.bits)))))], [], []⟩) (fun t hm => One.step rfl (.free rfl) (OpT.int2 rfl rfl (dlt rfl (by decide)) (hm.slots (18, _) (.head _)) (hm.slots (21, _) (.tail _ (.head _))) rfl)) (Ct.met_of rfl rfl) (.cons (c := ⟨some 23, .c (.ex (.pointer (some ⟨b5_0, (0 + (Int.toNat (IntKind.i64.wrap (Int.tdiv x6_0_3 (64 : Int)))) * 1), none⟩))), [(5, .c (.ex (.pointer (some ⟨b5_0, 0, none⟩)))), (16, .c (.ex (.int .i64 (IntKind.i64.wrap (Int.tdiv x6_0_3 (64 : Int))))))], [], []⟩) (fun t hm => One.step rfl (.free rfl) (OpT.indexPtr rfl (dlt rfl (by decide)) Tryd.underlying24 i22 (hm.slots (5, _) (.head _)) (hm.slots (16, _) (.tail _ (.head _))) g_35.1 g_35.2 rfl)) (Ct.met_of rfl rfl) (.cons (c := ⟨none, .any, [(23, .c (.ex (.pointer (some ⟨b5_0, (0 + (Int.toNat (IntKind.i64.wrap (Int.tdiv x6_0_3 (64 : Int)))) * 1), none⟩)))), (22, .c (.ex (.int .u64 (bits .or .u64 (Arr4.get y5_0_2 (IntKind.i64.wrap (Int.tdiv x6_0_3 (64 : Int)))) (IntKind.u64.wrap ((1 : Int) * 2 ^ min (Int.toNat (Int.tmod x6_0_3 (64 : Int))) IntKind.u64.bits))))))], [(1, .box b5_0 24 (Arr4.oc .u64 y5_0_2))], [(1, .box b5_0 24 (Arr4.oc .u64 (Arr4.set y5_0_2 (IntKind.i64.wrap (Int.tdiv x6_0_3 (64 : Int))) (bits .or .u64 (Arr4.get y5_0_2 (IntKind.i64.wrap (Int.tdiv x6_0_3 (64 : Int)))) (IntKind.u64.wrap ((1 : Int) * 2 ^ min (Int.toNat (Int.tmod x6_0_3 (64 : Int))) IntKind.u64.bits))))))]⟩) (fun t hm => One.step rfl (.free rfl) (OpT.storeTo (i := 1) (cells' := (Arr4.oc .u64 (Arr4.set y5_0_2 (IntKind.i64.wrap (Int.tdiv x6_0_3 (64 : Int))) (bits .or .u64 (Arr4.get y5_0_2 (IntKind.i64.wrap (Int.tdiv x6_0_3 (64 : Int)))) (IntKind.u64.wrap ((1 : Int) * 2 ^ min (Int.toNat (Int.tmod x6_0_3 (64 : Int))) IntKind.u64.bits)))))) rfl rfl i22 (hm.slots (23, _) (.head _)) (hm.slots (22, _) (.tail _ (.head _))) (hm.objs (1, _) (.head _)) (Arr4.oc_lt (k := .u64) (a := y5_0_2) (pre := []) (post := []) g_35.1 g_35.2) (Arr4.oc_set (k := .u64) (a := y5_0_2) (pre := []) (post := []) g_35.1 g_35.2) rfl)) (Ct.met_of rfl rfl) (.nil _ _))))))))))) rfl (by kernel_rfl) (by kernel_rfl) (by kernel_rfl) (.cons rfl (.cons rfl (.cons rfl (.cons rfl (.nil _))))) rfl (fun u hu => (inBlock_normal (thenS_normal (T.by_turn hu ?_))))
      refine T.regionL ?_
      refine TL'.step (.free rfl) (OpT.move rfl (dlt rfl (by decide)) rfl ?_)
      refine TL'.step (.free rfl) (OpT.int2 rfl rfl (dlt rfl (by decide)) rfl rfl ?_)
      refine TL'.step (.free rfl) (OpT.assign rfl (dlt rfl (by decide)) rfl ?_)
      refine TL'.nil (thenS_normal ?_)
      refine TL.by_turn ?_ (ih x1 (IntKind.i64.wrap (x6_0_3 + (1 : Int))) y4_0_1 (Arr4.set y5_0_2 (IntKind.i64.wrap (Int.tdiv x6_0_3 (64 : Int))) (bits .or .u64 (Arr4.get y5_0_2 (IntKind.i64.wrap (Int.tdiv x6_0_3 (64 : Int)))) (IntKind.u64.wrap ((1 : Int) * 2 ^ min (Int.toNat (Int.tmod x6_0_3 (64 : Int))) IntKind.u64.bits)))) b4_0 b5_0 h)
      exact Turn.re (.cons rfl (.cons rfl (.cons rfl (.cons rfl (.nil _))))) (.cons 0 rfl (.cons 0 rfl (.nil _)))
    · refine T.condF rfl c_33 ?_
      refine T.exit (thenS_exit (thenS_exit (inBlock_exit (thenS_normal ?_))))
      refine T.seq ?_
      refine T.regionL ?_
      refine TL'.step (.free rfl) (OpT.loadBoxAgg (i := 1) (l := (Arr4.dc .u64 y5_0_2)) rfl (dlt rfl (by decide)) Tryd.underlying24 rfl i24 rfl rfl rfl rfl ?_)
      refine TL'.step (.free rfl) (OpT.storeAggTo (i := 0) (cells' := (Arr4.oc .u64 y5_0_2)) rfl rfl i24 rfl rfl rfl rfl (Nat.le_of_ble_eq_true rfl) rfl ?_)
      refine TL'.nil (thenS_normal ?_)
      refine T.ret ?_
      exact Fin.done (.cons _ _ _ _ (.cellAgg 4 24 _ 0 0 24 _ (Arr4.dc .u64 y5_0_2) _ _ 4 _ rfl rfl rfl rfl Tryd.underlying24 rfl i24) .nil) (by cases h; exact ⟨rfl, rfl⟩)

theorem bset_Range_T {K : Nat} {x0 : Int} {x1 : Int} {r : Arr4} (h : bset_Range K x0 x1 = some r) : CallR Tryd.prog 18 [.c (.ex (.int .u8 x0)), .c (.ex (.int .u8 x1))] [] (.agg (Arr4.dc .u64 r)) := by
  refine CallT.intro Tryd.func18 rfl (Nat.le_of_ble_eq_true rfl) ?_
  show T Tryd.prog 25 (Code.at [] (codeOf Tryd.f18)) ⟨paramSlots 0 [.c (.ex (.int .u8 x0)), .c (.ex (.int .u8 x1))], []⟩ (bset_Range_q r)
  unfold bset_Range at h
  refine T.seq ?_
  refine T.regionL ?_
  refine TL'.step (.free rfl) (OpT.alloc' rfl (dlt rfl (by decide)) i24 rfl (fun b_31 => ?_))
  refine TL'.nil (thenS_normal ?_)
  refine T.seq ?_
  refine T.regionL ?_
  refine TL'.step (.free rfl) (OpT.alloc' rfl (dlt rfl (by decide)) i24 rfl (fun b_32 => ?_))
  refine TL'.nil (thenS_normal ?_)
  refine T.seq ?_
  refine T.seq ?_
  refine T.regionL ?_
  refine TL'.step (.free rfl) (OpT.move rfl (dlt rfl (by decide)) rfl ?_)
  refine TL'.step (.free rfl) (OpT.convInt rfl (dlt rfl (by decide)) Tryd.underlying5 Tryd.underlying3 rfl ?_)
  refine TL'.step (.free rfl) (OpT.assign rfl (dlt rfl (by decide)) rfl ?_)
  refine TL'.nil (thenS_normal ?_)
  refine T.block ?_
  refine T.loop ?_
  refine TL.by_turn ?_ (bset_Range_l0_T K K x1 (IntKind.i64.wrap x0) (Arr4.mk 0 0 0 0) (Arr4.mk 0 0 0 0) b_31 b_32 h)
  exact Turn.re (.cons rfl (.cons rfl (.cons rfl (.cons rfl (.nil _))))) (.cons 1 rfl (.cons 0 rfl (.nil _)))

abbrev bset_Or_q (r : Arr4) : Exit → St → Prop := retS Tryd.prog Tryd.f19 (fun y t => y = (.agg (Arr4.dc .u64 r)) ∧ t = [])

abbrev bset_Or_qs111 (r : Arr4) : Exit → St → Prop := thenS (fun s' => T Tryd.prog 28 (Code.at [1, 1, 1] (codeOf Tryd.f19)) s' ((bset_Or_q r))) ((bset_Or_q r))

abbrev bset_Or_qb0x111 (r : Arr4) : Exit → St → Prop := inBlockS 0 ((bset_Or_qs111 r))

abbrev bset_Or_ql11010 (r : Arr4) : Exit → St → Prop := thenS (fun s' => TL Tryd.prog 28 (Code.at [1, 1, 0, 1, 0, 0] (codeOf Tryd.f19)) s' ((bset_Or_qb0x111 r))) ((bset_Or_qb0x111 r))

abbrev bset_Or_qs110100111 (r : Arr4) : Exit → St → Prop := thenS (fun s' => T Tryd.prog 28 (Code.at [1, 1, 0, 1, 0, 0, 1, 1, 1] (codeOf Tryd.f19)) s' ((bset_Or_ql11010 r))) ((bset_Or_ql11010 r))

abbrev bset_Or_qb1_0x110100111 (r : Arr4) : Exit → St → Prop := inBlockS 1 ((bset_Or_qs110100111 r))

abbrev bset_Or_qb2_1_0x110100111 (r : Arr4) : Exit → St → Prop := inBlockS 2 ((bset_Or_qb1_0x110100111 r))

theorem bset_Or_l1_T {r : Arr4} (K : Nat) (go0 : (List Arr4) → Int → Int → Arr4 → Arr4 → Option Arr4) (hgo0 : ∀ (x0 : List Arr4) (x9_0_3 : Int) (x10_0_4 : Int) (y2_0_0 : Arr4) (y3_0_1 : Arr4) (fl0 : Bool) (b2_0 : Nat) (b3_0 : Nat), go0 x0 x9_0_3 x10_0_4 y2_0_0 y3_0_1 = some r → TL Tryd.prog 28 (Code.at [1, 1, 0, 1, 0, 0] (codeOf Tryd.f19)) ⟨[(2, .c (.ex (.pointer (some ⟨b2_0, 0, none⟩)))), (3, .c (.ex (.pointer (some ⟨b3_0, 0, none⟩)))), (8, .c (.sl fl0 4 (x0.map (Arr4.dc .u64)))), (9, .c (.ex (.int .i64 x9_0_3))), (10, .c (.ex (.int .i64 x10_0_4)))], [.box b2_0 24 (Arr4.oc .u64 y2_0_0), .box b3_0 24 (Arr4.oc .u64 y3_0_1)]⟩ (bset_Or_qb0x111 r)) : ∀ (k : Nat), ∀ (x0 : List Arr4) (x9_0_3 : Int) (x10_1_4 : Int) (x14_1_5 : Arr4) (x15_1_6 : Int) (y2_0_0 : Arr4) (y3_1_1 : Arr4) (fl0 : Bool) (b2_1 : Nat) (b3_1 : Nat), bset_Or_l1 K go0 k x0 x9_0_3 x10_1_4 x14_1_5 x15_1_6 y2_0_0 y3_1_1 = some r → TL Tryd.prog 28 (Code.at [1, 1, 0, 1, 0, 0, 1, 1, 0, 0, 1, 1, 0, 0] (codeOf Tryd.f19)) ⟨[(2, .c (.ex (.pointer (some ⟨b2_1, 0, none⟩)))), (3, .c (.ex (.pointer (some ⟨b3_1, 0, none⟩)))), (8, .c (.sl fl0 4 (x0.map (Arr4.dc .u64)))), (9, .c (.ex (.int .i64 x9_0_3))), (10, .c (.ex (.int .i64 x10_1_4))), (14, .agg (Arr4.dc .u64 x14_1_5)), (15, .c (.ex (.int .i64 x15_1_6)))], [.box b2_1 24 (Arr4.oc .u64 y2_0_0), .box b3_1 24 (Arr4.oc .u64 y3_1_1)]⟩ (bset_Or_qb2_1_0x110100111 r) := by
  intro k
  induction k with
  | zero =>
    intro x0 x9_0_3 x10_1_4 x14_1_5 x15_1_6 y2_0_0 y3_1_1 fl0 b2_1 b3_1 h
    cases (show (none : Option Arr4) = some r from h)
  | succ k ih =>
    intro x0 x9_0_3 x10_1_4 x14_1_5 x15_1_6 y2_0_0 y3_1_1 fl0 b2_1 b3_1 h
    rw [bset_Or_l1] at h
    refine TL.round ?_
    refine T.seq ?_
    refine T.regionL ?_
    refine TL'.step (.free rfl) (OpT.int2 rfl rfl (dlt rfl (by decide)) rfl rfl ?_)
    refine TL'.nil (thenS_normal ?_)
    refine T.seq ?_
    rcases bif_some h with ⟨c_97, h⟩ | ⟨c_97, h⟩
    · refine T.condT rfl c_97 ?_
      refine T.skip (thenS_normal ?_)
      refine T.seq ?_
      refine T.block ?_
      refine T.seq ?_
      refine T.regionL ?_
      refine TL'.step (.free rfl) (OpT.move rfl (dlt rfl (by decide)) rfl ?_)
      obtain ⟨g_98, h⟩ := ck_some h
      refine TL'.step (.free rfl) (OpT.indexArr rfl (dlt rfl (by decide)) Tryd.underlying24 Tryd.underlying22 rfl i22 rfl rfl g_98.1 g_98.2 (Arr4.dc_get (a := x14_1_5) (k := .u64) g_98.1 g_98.2) ?_)
      refine TL'.step (.free rfl) (OpT.assign rfl (dlt rfl (by decide)) rfl ?_)
      refine TL'.step (.free rfl) (OpT.assign rfl (dlt rfl (by decide)) rfl ?_)
      refine TL'.nil (thenS_normal ?_)
      refine T.regionL ?_
      refine TL'.step (.free rfl) (OpT.move rfl (dlt rfl (by decide)) rfl ?_)
      refine TL'.step (.free rfl) (OpT.indexPtr rfl (dlt rfl (by decide)) Tryd.underlying24 i22 rfl rfl g_98.1 g_98.2 ?_)
      refine TL'.step (.free rfl) (OpT.loadBox (i := 1) rfl (dlt rfl (by decide)) Tryd.underlying22 rfl rfl rfl (Arr4.oc_get (k := .u64) (a := y3_1_1) (pre := []) (post := []) g_98.1 g_98.2) ?_)
      refine TL'.step (.free rfl) (OpT.move rfl (dlt rfl (by decide)) rfl ?_)
      refine TL'.step (.free rfl) (OpT.int2 rfl rfl (dlt rfl (by decide)) rfl rfl ?_)
      refine TL'.step (.free rfl) (OpT.indexPtr rfl (dlt rfl (by decide)) Tryd.underlying24 i22 rfl rfl g_98.1 g_98.2 ?_)
      refine TL'.step (.free rfl) (OpT.storeTo (i := 1) (cells' := (Arr4.oc .u64 (Arr4.set y3_1_1 x15_1_6 (bits .or .u64 (Arr4.get y3_1_1 x15_1_6) (Arr4.get x14_1_5 x15_1_6))))) rfl rfl i22 rfl rfl rfl (Arr4.oc_lt (k := .u64) (a := y3_1_1) (pre := []) (post := []) g_98.1 g_98.2) (Arr4.oc_set (k := .u64) (a := y3_1_1) (pre := []) (post := []) g_98.1 g_98.2) ?_)
      refine TL'.nil (inBlock_normal (thenS_normal ?_))
      refine T.regionL ?_
      refine TL'.step (.free rfl) (OpT.int2 rfl rfl (dlt rfl (by decide)) rfl rfl ?_)
      refine TL'.step (.free rfl) (OpT.move rfl (dlt rfl (by decide)) rfl ?_)
      refine TL'.nil (thenS_normal ?_)
      refine TL.by_turn ?_ (ih x0 x9_0_3 x10_1_4 x14_1_5 (IntKind.i64.wrap (x15_1_6 + (1 : Int))) y2_0_0 (Arr4.set y3_1_1 x15_1_6 (bits .or .u64 (Arr4.get y3_1_1 x15_1_6) (Arr4.get x14_1_5 x15_1_6))) fl0 b2_1 b3_1 h)
      exact Turn.re (.cons rfl (.cons rfl (.cons rfl (.cons rfl (.cons rfl (.cons rfl (.cons rfl (.nil _)))))))) (.cons 0 rfl (.cons 0 rfl (.nil _)))
    · refine T.condF rfl c_97 ?_
      refine T.exit (thenS_exit (thenS_exit (inBlock_exit (inBlock_normal (thenS_normal ?_)))))
      refine T.regionL ?_
      refine TL'.step (.free rfl) (OpT.int2 rfl rfl (dlt rfl (by decide)) rfl rfl ?_)
      refine TL'.step (.free rfl) (OpT.move rfl (dlt rfl (by decide)) rfl ?_)
      refine TL'.nil (thenS_normal ?_)
      refine TL.by_turn ?_ (hgo0 x0 x9_0_3 (IntKind.i64.wrap (x10_1_4 + (1 : Int))) y2_0_0 y3_1_1 fl0 b2_1 b3_1 h)
      exact Turn.re (.cons rfl (.cons rfl (.cons rfl (.cons rfl (.cons rfl (.nil _)))))) (.cons 0 rfl (.cons 0 rfl (.nil _)))

theorem bset_Or_l0_T {r : Arr4} (K : Nat) : ∀ (k : Nat), ∀ (x0 : List Arr4) (x9_0_3 : Int) (x10_0_4 : Int) (y2_0_0 : Arr4) (y3_0_1 : Arr4) (fl0 : Bool) (b2_0 : Nat) (b3_0 : Nat), bset_Or_l0 K k x0 x9_0_3 x10_0_4 y2_0_0 y3_0_1 = some r → TL Tryd.prog 28 (Code.at [1, 1, 0, 1, 0, 0] (codeOf Tryd.f19)) ⟨[(2, .c (.ex (.pointer (some ⟨b2_0, 0, none⟩)))), (3, .c (.ex (.pointer (some ⟨b3_0, 0, none⟩)))), (8, .c (.sl fl0 4 (x0.map (Arr4.dc .u64)))), (9, .c (.ex (.int .i64 x9_0_3))), (10, .c (.ex (.int .i64 x10_0_4)))], [.box b2_0 24 (Arr4.oc .u64 y2_0_0), .box b3_0 24 (Arr4.oc .u64 y3_0_1)]⟩ (bset_Or_qb0x111 r) := by
  intro k
  induction k with
  | zero =>
    intro x0 x9_0_3 x10_0_4 y2_0_0 y3_0_1 fl0 b2_0 b3_0 h
    cases (show (none : Option Arr4) = some r from h)
  | succ k ih =>
    intro x0 x9_0_3 x10_0_4 y2_0_0 y3_0_1 fl0 b2_0 b3_0 h
    rw [bset_Or_l0] at h
    refine TL.round ?_
    refine T.seq ?_
    refine T.regionL ?_
    refine TL'.step (.free rfl) (OpT.int2 rfl rfl (dlt rfl (by decide)) rfl rfl ?_)
    refine TL'.nil (thenS_normal ?_)
    refine T.seq ?_
    rcases bif_some h with ⟨c_93, h⟩ | ⟨c_93, h⟩
    · refine T.condT rfl c_93 ?_
      refine T.skip (thenS_normal ?_)
      refine T.seq ?_
      refine T.block ?_
      refine T.seq ?_
      refine T.regionL ?_
      obtain ⟨v_94, e_95, h⟩ := bind_some h
      refine TL'.step (.free rfl) (OpT.indexSlM (xs := x0) (f := (Arr4.dc .u64)) (v := v_94) rfl (dlt rfl (by decide)) Tryd.underlying33 i24 rfl rfl e_95 ?_)
      refine TL'.step (.free rfl) (OpT.loadRefAgg rfl (dlt rfl (by decide)) Tryd.underlying24 rfl i24 rfl (Nat.le_of_ble_eq_true rfl) ?_)
      refine TL'.step (.free rfl) (OpT.alloc' rfl (dlt rfl (by decide)) i24 rfl (fun b_96 => ?_))
      refine TL'.step (.free rfl) (OpT.storeAggTo (i := 0) (cells' := (Arr4.oc .u64 v_94)) rfl rfl i24 rfl rfl rfl rfl (Nat.le_of_ble_eq_true rfl) rfl ?_)
      refine TL'.nil (thenS_normal ?_)
      refine T.seq ?_
      refine T.regionL ?_
      refine TL'.step (.free rfl) (OpT.loadBoxAgg (i := 0) (l := (Arr4.dc .u64 v_94)) rfl (dlt rfl (by decide)) Tryd.underlying24 rfl i24 rfl rfl rfl rfl ?_)
      refine TL'.step (.free rfl) (OpT.move rfl (dlt rfl (by decide)) rfl ?_)
      refine TL'.nil (thenS_normal ?_)
      refine T.block ?_
      refine T.loop ?_
      refine TL.by_turn ?_ (bset_Or_l1_T K (bset_Or_l0 K k) ih K x0 x9_0_3 x10_0_4 v_94 (0 : Int) y2_0_0 y3_0_1 fl0 b2_0 b3_0 h)
      exact Turn.re (.cons rfl (.cons rfl (.cons rfl (.cons rfl (.cons rfl (.cons rfl (.cons rfl (.nil _)))))))) (.cons 1 rfl (.cons 1 rfl (.nil _)))
    · refine T.condF rfl c_93 ?_
      refine T.exit (thenS_exit (thenS_exit (inBlock_exit (thenS_normal ?_))))
      refine T.seq ?_
      refine T.regionL ?_
      refine TL'.step (.free rfl) (OpT.loadBoxAgg (i := 1) (l := (Arr4.dc .u64 y3_0_1)) rfl (dlt rfl (by decide)) Tryd.underlying24 rfl i24 rfl rfl rfl rfl ?_)
      refine TL'.step (.free rfl) (OpT.storeAggTo (i := 0) (cells' := (Arr4.oc .u64 y3_0_1)) rfl rfl i24 rfl rfl rfl rfl (Nat.le_of_ble_eq_true rfl) rfl ?_)
      refine TL'.nil (thenS_normal ?_)
      refine T.ret ?_
      exact Fin.done (.cons _ _ _ _ (.cellAgg 2 24 _ 0 0 24 _ (Arr4.dc .u64 y3_0_1) _ _ 4 _ rfl rfl rfl rfl Tryd.underlying24 rfl i24) .nil) (by cases h; exact ⟨rfl, rfl⟩)

theorem bset_Or_T {K : Nat} {x0 : List Arr4} {fl0 : Bool} {r : Arr4} (h : bset_Or K x0 = some r) : CallR Tryd.prog 19 [.c (.sl fl0 4 (x0.map (Arr4.dc .u64)))] [] (.agg (Arr4.dc .u64 r)) := by
  refine CallT.intro Tryd.func19 rfl (Nat.le_of_ble_eq_true rfl) ?_
  show T Tryd.prog 28 (Code.at [] (codeOf Tryd.f19)) ⟨paramSlots 0 [.c (.sl fl0 4 (x0.map (Arr4.dc .u64)))], []⟩ (bset_Or_q r)
  unfold bset_Or at h
  refine T.seq ?_
  refine T.regionL ?_
  refine TL'.step (.free rfl) (OpT.alloc' rfl (dlt rfl (by decide)) i24 rfl (fun b_91 => ?_))
  refine TL'.nil (thenS_normal ?_)
  refine T.seq ?_
  refine T.regionL ?_
  refine TL'.step (.free rfl) (OpT.alloc' rfl (dlt rfl (by decide)) i24 rfl (fun b_92 => ?_))
  refine TL'.nil (thenS_normal ?_)
  refine T.seq ?_
  refine T.seq ?_
  refine T.regionL ?_
  refine TL'.step (.free rfl) (OpT.move rfl (dlt rfl (by decide)) rfl ?_)
  refine TL'.step (.free rfl) (OpT.lenSlM (xs := x0) (f := (Arr4.dc .u64)) rfl (dlt rfl (by decide)) Tryd.underlying33 rfl ?_)
  refine TL'.step (.free rfl) (OpT.move rfl (dlt rfl (by decide)) rfl ?_)
  refine TL'.nil (thenS_normal ?_)
  refine T.block ?_
  refine T.loop ?_
  refine TL.by_turn ?_ (bset_Or_l0_T K K x0 (x0.length : Int) (0 : Int) (Arr4.mk 0 0 0 0) (Arr4.mk 0 0 0 0) fl0 b_91 b_92 h)
  exact Turn.re (.cons rfl (.cons rfl (.cons rfl (.cons rfl (.cons rfl (.nil _)))))) (.cons 1 rfl (.cons 0 rfl (.nil _)))

abbrev bset_Of_q (r : Arr4) : Exit → St → Prop := retS Tryd.prog Tryd.f20 (fun y t => y = (.agg (Arr4.dc .u64 r)) ∧ t = [])

abbrev bset_Of_qs111 (r : Arr4) : Exit → St → Prop := thenS (fun s' => T Tryd.prog 23 (Code.at [1, 1, 1] (codeOf Tryd.f20)) s' ((bset_Of_q r))) ((bset_Of_q r))

abbrev bset_Of_qb0x111 (r : Arr4) : Exit → St → Prop := inBlockS 0 ((bset_Of_qs111 r))

theorem bset_Of_l0_T {r : Arr4} (K : Nat) : ∀ (k : Nat), ∀ (x0 : List Int) (x7_0_3 : Int) (x8_0_4 : Int) (y2_0_0 : Arr4) (y3_0_1 : Arr4) (fl0 : Bool) (b2_0 : Nat) (b3_0 : Nat), bset_Of_l0 K k x0 x7_0_3 x8_0_4 y2_0_0 y3_0_1 = some r → TL Tryd.prog 23 (Code.at [1, 1, 0, 1, 0, 0] (codeOf Tryd.f20)) ⟨[(2, .c (.ex (.pointer (some ⟨b2_0, 0, none⟩)))), (3, .c (.ex (.pointer (some ⟨b3_0, 0, none⟩)))), (6, .c (.sl fl0 1 (x0.map (cI .u8)))), (7, .c (.ex (.int .i64 x7_0_3))), (8, .c (.ex (.int .i64 x8_0_4)))], [.box b2_0 24 (Arr4.oc .u64 y2_0_0), .box b3_0 24 (Arr4.oc .u64 y3_0_1)]⟩ (bset_Of_qb0x111 r) := by
  intro k
  induction k with
  | zero =>
    intro x0 x7_0_3 x8_0_4 y2_0_0 y3_0_1 fl0 b2_0 b3_0 h
    cases (show (none : Option Arr4) = some r from h)
  | succ k ih =>
    intro x0 x7_0_3 x8_0_4 y2_0_0 y3_0_1 fl0 b2_0 b3_0 h
    rw [bset_Of_l0] at h
    refine TL.round ?_
    refine T.seq ?_
    refine T.regionL ?_
    refine TL'.step (.free rfl) (OpT.int2 rfl rfl (dlt rfl (by decide)) rfl rfl ?_)
    refine TL'.nil (thenS_normal ?_)
    refine T.seq ?_
    rcases bif_some h with ⟨c_59, h⟩ | ⟨c_59, h⟩
    · refine T.condT rfl c_59 ?_
      refine T.skip (thenS_normal ?_)
      refine T.seq ?_
      refine T.block ?_
      refine T.seq ?_
      refine T.regionL ?_
      obtain ⟨v_60, e_61, h⟩ := bind_some h
      refine TL'.step (.free rfl) (OpT.indexSlM (xs := x0) (f := (cI .u8)) (v := v_60) rfl (dlt rfl (by decide)) Tryd.underlying26 i5 rfl rfl e_61 ?_)
      refine TL'.step (.free rfl) (OpT.loadRef rfl (dlt rfl (by decide)) Tryd.underlying5 rfl rfl rfl ?_)
      refine TL'.step (.free rfl) (OpT.assign rfl (dlt rfl (by decide)) rfl ?_)
      refine TL'.nil (thenS_normal ?_)
      refine T.regionL ?_
      refine TL'.step (.free rfl) (OpT.move rfl (dlt rfl (by decide)) rfl ?_)
      refine TL'.step (.free rfl) (OpT.quo rfl (dlt rfl (by decide)) rfl rfl (by decide) ?_)
      obtain ⟨g_62, h⟩ := ck_some h
      refine TL'.step (.free rfl) (OpT.indexPtr rfl (dlt rfl (by decide)) Tryd.underlying24 i22 rfl rfl g_62.1 g_62.2 ?_)
      refine TL'.step (.free rfl) (OpT.loadBox (i := 1) rfl (dlt rfl (by decide)) Tryd.underlying22 rfl rfl rfl (Arr4.oc_get (k := .u64) (a := y3_0_1) (pre := []) (post := []) g_62.1 g_62.2) ?_)
      refine TL'.step (.free rfl) (OpT.move rfl (dlt rfl (by decide)) rfl ?_)
      refine TL'.step (.free rfl) (OpT.rem rfl (dlt rfl (by decide)) rfl rfl (by decide) ?_)
      obtain ⟨g_63, h⟩ := ck_some h
      refine TL'.step (.free rfl) (OpT.shl rfl (dlt rfl (by decide)) rfl rfl g_63 ?_)
      refine TL'.step (.free rfl) (OpT.int2 rfl rfl (dlt rfl (by decide)) rfl rfl ?_)
      refine TL'.step (.free rfl) (OpT.indexPtr rfl (dlt rfl (by decide)) Tryd.underlying24 i22 rfl rfl g_62.1 g_62.2 ?_)
      refine TL'.step (.free rfl) (OpT.storeTo (i := 1) (cells' := (Arr4.oc .u64 (Arr4.set y3_0_1 (IntKind.u8.wrap (Int.tdiv v_60 (64 : Int))) (bits .or .u64 (Arr4.get y3_0_1 (IntKind.u8.wrap (Int.tdiv v_60 (64 : Int)))) (IntKind.u64.wrap ((1 : Int) * 2 ^ min (Int.toNat (Int.tmod v_60 (64 : Int))) IntKind.u64.bits)))))) rfl rfl i22 rfl rfl rfl (Arr4.oc_lt (k := .u64) (a := y3_0_1) (pre := []) (post := []) g_62.1 g_62.2) (Arr4.oc_set (k := .u64) (a := y3_0_1) (pre := []) (post := []) g_62.1 g_62.2) ?_)
      refine TL'.nil (inBlock_normal (thenS_normal ?_))
      refine T.regionL ?_
      refine TL'.step (.free rfl) (OpT.int2 rfl rfl (dlt rfl (by decide)) rfl rfl ?_)
      refine TL'.step (.free rfl) (OpT.move rfl (dlt rfl (by decide)) rfl ?_)
      refine TL'.nil (thenS_normal ?_)
      refine TL.by_turn ?_ (ih x0 x7_0_3 (IntKind.i64.wrap (x8_0_4 + (1 : Int))) y2_0_0 (Arr4.set y3_0_1 (IntKind.u8.wrap (Int.tdiv v_60 (64 : Int))) (bits .or .u64 (Arr4.get y3_0_1 (IntKind.u8.wrap (Int.tdiv v_60 (64 : Int)))) (IntKind.u64.wrap ((1 : Int) * 2 ^ min (Int.toNat (Int.tmod v_60 (64 : Int))) IntKind.u64.bits)))) fl0 b2_0 b3_0 h)
      exact Turn.re (.cons rfl (.cons rfl (.cons rfl (.cons rfl (.cons rfl (.nil _)))))) (.cons 0 rfl (.cons 0 rfl (.nil _)))
    · refine T.condF rfl c_59 ?_
      refine T.exit (thenS_exit (thenS_exit (inBlock_exit (thenS_normal ?_))))
      refine T.seq ?_
      refine T.regionL ?_
      refine TL'.step (.free rfl) (OpT.loadBoxAgg (i := 1) (l := (Arr4.dc .u64 y3_0_1)) rfl (dlt rfl (by decide)) Tryd.underlying24 rfl i24 rfl rfl rfl rfl ?_)
      refine TL'.step (.free rfl) (OpT.storeAggTo (i := 0) (cells' := (Arr4.oc .u64 y3_0_1)) rfl rfl i24 rfl rfl rfl rfl (Nat.le_of_ble_eq_true rfl) rfl ?_)
      refine TL'.nil (thenS_normal ?_)
      refine T.ret ?_
      exact Fin.done (.cons _ _ _ _ (.cellAgg 2 24 _ 0 0 24 _ (Arr4.dc .u64 y3_0_1) _ _ 4 _ rfl rfl rfl rfl Tryd.underlying24 rfl i24) .nil) (by cases h; exact ⟨rfl, rfl⟩)

theorem bset_Of_T {K : Nat} {x0 : List Int} {fl0 : Bool} {r : Arr4} (h : bset_Of K x0 = some r) : CallR Tryd.prog 20 [.c (.sl fl0 1 (x0.map (cI .u8)))] [] (.agg (Arr4.dc .u64 r)) := by
  refine CallT.intro Tryd.func20 rfl (Nat.le_of_ble_eq_true rfl) ?_
  show T Tryd.prog 23 (Code.at [] (codeOf Tryd.f20)) ⟨paramSlots 0 [.c (.sl fl0 1 (x0.map (cI .u8)))], []⟩ (bset_Of_q r)
  unfold bset_Of at h
  refine T.seq ?_
  refine T.regionL ?_
  refine TL'.step (.free rfl) (OpT.alloc' rfl (dlt rfl (by decide)) i24 rfl (fun b_57 => ?_))
  refine TL'.nil (thenS_normal ?_)
  refine T.seq ?_
  refine T.regionL ?_
  refine TL'.step (.free rfl) (OpT.alloc' rfl (dlt rfl (by decide)) i24 rfl (fun b_58 => ?_))
  refine TL'.nil (thenS_normal ?_)
  refine T.seq ?_
  refine T.seq ?_
  refine T.regionL ?_
  refine TL'.step (.free rfl) (OpT.move rfl (dlt rfl (by decide)) rfl ?_)
  refine TL'.step (.free rfl) (OpT.lenSlM (xs := x0) (f := (cI .u8)) rfl (dlt rfl (by decide)) Tryd.underlying26 rfl ?_)
  refine TL'.step (.free rfl) (OpT.move rfl (dlt rfl (by decide)) rfl ?_)
  refine TL'.nil (thenS_normal ?_)
  refine T.block ?_
  refine T.loop ?_
  refine TL.by_turn ?_ (bset_Of_l0_T K K x0 (x0.length : Int) (0 : Int) (Arr4.mk 0 0 0 0) (Arr4.mk 0 0 0 0) fl0 b_57 b_58 h)
  exact Turn.re (.cons rfl (.cons rfl (.cons rfl (.cons rfl (.cons rfl (.nil _)))))) (.cons 1 rfl (.cons 0 rfl (.nil _)))

abbrev bset_Not_q (r : Arr4) : Exit → St → Prop := retS Tryd.prog Tryd.f22 (fun y t => y = (.agg (Arr4.dc .u64 r)) ∧ t = [])

abbrev bset_Not_qs11 (r : Arr4) : Exit → St → Prop := thenS (fun s' => T Tryd.prog 16 (Code.at [1, 1] (codeOf Tryd.f22)) s' ((bset_Not_q r))) ((bset_Not_q r))

abbrev bset_Not_qb0x11 (r : Arr4) : Exit → St → Prop := inBlockS 0 ((bset_Not_qs11 r))

theorem bset_Not_l0_T {r : Arr4} (K : Nat) : ∀ (k : Nat), ∀ (x0 : Arr4) (x6_0_3 : Int) (y1_0_0 : Arr4) (y2_0_1 : Arr4) (b1_0 : Nat) (b2_0 : Nat), bset_Not_l0 K k x0 x6_0_3 y1_0_0 y2_0_1 = some r → TL Tryd.prog 16 (Code.at [1, 0, 1, 0, 0] (codeOf Tryd.f22)) ⟨[(1, .c (.ex (.pointer (some ⟨b1_0, 0, none⟩)))), (2, .c (.ex (.pointer (some ⟨b2_0, 0, none⟩)))), (5, .agg (Arr4.dc .u64 x0)), (6, .c (.ex (.int .i64 x6_0_3)))], [.box b1_0 24 (Arr4.oc .u64 y1_0_0), .box b2_0 24 (Arr4.oc .u64 y2_0_1)]⟩ (bset_Not_qb0x11 r) := by
  intro k
  induction k with
  | zero =>
    intro x0 x6_0_3 y1_0_0 y2_0_1 b1_0 b2_0 h
    cases (show (none : Option Arr4) = some r from h)
  | succ k ih =>
    intro x0 x6_0_3 y1_0_0 y2_0_1 b1_0 b2_0 h
    rw [bset_Not_l0] at h
    refine TL.round ?_
    refine T.seq ?_
    refine T.regionL ?_
    refine TL'.step (.free rfl) (OpT.int2 rfl rfl (dlt rfl (by decide)) rfl rfl ?_)
    refine TL'.nil (thenS_normal ?_)
    refine T.seq ?_
    rcases bif_some h with ⟨c_29, h⟩ | ⟨c_29, h⟩
    · refine T.condT rfl c_29 ?_
      refine T.skip (thenS_normal ?_)
      refine T.seq ?_
      refine T.block ?_
      refine T.seq ?_
      refine T.regionL ?_
      refine TL'.step (.free rfl) (OpT.move rfl (dlt rfl (by decide)) rfl ?_)
      obtain ⟨g_30, h⟩ := ck_some h
      refine TL'.step (.free rfl) (OpT.indexArr rfl (dlt rfl (by decide)) Tryd.underlying24 Tryd.underlying22 rfl i22 rfl rfl g_30.1 g_30.2 (Arr4.dc_get (a := x0) (k := .u64) g_30.1 g_30.2) ?_)
      refine TL'.step (.free rfl) (OpT.assign rfl (dlt rfl (by decide)) rfl ?_)
      refine TL'.step (.free rfl) (OpT.assign rfl (dlt rfl (by decide)) rfl ?_)
      refine TL'.nil (thenS_normal ?_)
      refine T.regionL ?_
      refine TL'.step (.free rfl) (OpT.move rfl (dlt rfl (by decide)) rfl ?_)
      refine TL'.step (.free rfl) (OpT.move rfl (dlt rfl (by decide)) rfl ?_)
      refine TL'.step (.free rfl) (OpT.compl rfl (dlt rfl (by decide)) rfl ?_)
      refine TL'.step (.free rfl) (OpT.indexPtr rfl (dlt rfl (by decide)) Tryd.underlying24 i22 rfl rfl g_30.1 g_30.2 ?_)
      refine TL'.step (.free rfl) (OpT.storeTo (i := 0) (cells' := (Arr4.oc .u64 (Arr4.set y1_0_0 x6_0_3 (bits .xor .u64 IntKind.u64.max (Arr4.get x0 x6_0_3))))) rfl rfl i22 rfl rfl rfl (Arr4.oc_lt (k := .u64) (a := y1_0_0) (pre := []) (post := []) g_30.1 g_30.2) (Arr4.oc_set (k := .u64) (a := y1_0_0) (pre := []) (post := []) g_30.1 g_30.2) ?_)
      refine TL'.nil (inBlock_normal (thenS_normal ?_))
      refine T.regionL ?_
      refine TL'.step (.free rfl) (OpT.int2 rfl rfl (dlt rfl (by decide)) rfl rfl ?_)
      refine TL'.step (.free rfl) (OpT.move rfl (dlt rfl (by decide)) rfl ?_)
      refine TL'.nil (thenS_normal ?_)
      refine TL.by_turn ?_ (ih x0 (IntKind.i64.wrap (x6_0_3 + (1 : Int))) (Arr4.set y1_0_0 x6_0_3 (bits .xor .u64 IntKind.u64.max (Arr4.get x0 x6_0_3))) y2_0_1 b1_0 b2_0 h)
      exact Turn.re (.cons rfl (.cons rfl (.cons rfl (.cons rfl (.nil _))))) (.cons 0 rfl (.cons 0 rfl (.nil _)))
    · refine T.condF rfl c_29 ?_
      refine T.exit (thenS_exit (thenS_exit (inBlock_exit (thenS_normal ?_))))
      refine T.seq ?_
      refine T.regionL ?_
      refine TL'.step (.free rfl) (OpT.loadBoxAgg (i := 0) (l := (Arr4.dc .u64 y1_0_0)) rfl (dlt rfl (by decide)) Tryd.underlying24 rfl i24 rfl rfl rfl rfl ?_)
      refine TL'.step (.free rfl) (OpT.storeAggTo (i := 1) (cells' := (Arr4.oc .u64 y1_0_0)) rfl rfl i24 rfl rfl rfl rfl (Nat.le_of_ble_eq_true rfl) rfl ?_)
      refine TL'.nil (thenS_normal ?_)
      refine T.ret ?_
      exact Fin.done (.cons _ _ _ _ (.cellAgg 2 24 _ 0 1 24 _ (Arr4.dc .u64 y1_0_0) _ _ 4 _ rfl rfl rfl rfl Tryd.underlying24 rfl i24) .nil) (by cases h; exact ⟨rfl, rfl⟩)

theorem bset_Not_T {K : Nat} {x0 : Arr4} {r : Arr4} (h : bset_Not K x0 = some r) : CallR Tryd.prog 22 [.agg (Arr4.dc .u64 x0)] [] (.agg (Arr4.dc .u64 r)) := by
  refine CallT.intro Tryd.func22 rfl (Nat.le_of_ble_eq_true rfl) ?_
  show T Tryd.prog 16 (Code.at [] (codeOf Tryd.f22)) ⟨paramSlots 0 [.agg (Arr4.dc .u64 x0)], []⟩ (bset_Not_q r)
  unfold bset_Not at h
  refine T.seq ?_
  refine T.regionL ?_
  refine TL'.step (.free rfl) (OpT.boxAgg rfl (dlt rfl (by decide)) rfl (fun b_27 => ?_))
  refine TL'.step (.free rfl) (OpT.alloc' rfl (dlt rfl (by decide)) i24 rfl (fun b_28 => ?_))
  refine TL'.nil (thenS_normal ?_)
  refine T.seq ?_
  refine T.seq ?_
  refine T.regionL ?_
  refine TL'.step (.free rfl) (OpT.loadBoxAgg (i := 1) (l := (Arr4.dc .u64 x0)) rfl (dlt rfl (by decide)) Tryd.underlying24 rfl i24 rfl rfl rfl rfl ?_)
  refine TL'.step (.free rfl) (OpT.move rfl (dlt rfl (by decide)) rfl ?_)
  refine TL'.nil (thenS_normal ?_)
  refine T.block ?_
  refine T.loop ?_
  refine TL.by_turn ?_ (bset_Not_l0_T K K x0 (0 : Int) x0 (Arr4.mk 0 0 0 0) b_27 b_28 h)
  exact Turn.re (.cons rfl (.cons rfl (.cons rfl (.cons rfl (.nil _))))) (.cons 1 rfl (.cons 0 rfl (.nil _)))

abbrev bset_And_q (r : Arr4) : Exit → St → Prop := retS Tryd.prog Tryd.f21 (fun y t => y = (.agg (Arr4.dc .u64 r)) ∧ t = [])

abbrev bset_And_qs111 (r : Arr4) : Exit → St → Prop := thenS (fun s' => T Tryd.prog 30 (Code.at [1, 1, 1] (codeOf Tryd.f21)) s' ((bset_And_q r))) ((bset_And_q r))

abbrev bset_And_qb0x111 (r : Arr4) : Exit → St → Prop := inBlockS 0 ((bset_And_qs111 r))

abbrev bset_And_ql11010 (r : Arr4) : Exit → St → Prop := thenS (fun s' => TL Tryd.prog 30 (Code.at [1, 1, 0, 1, 0, 0] (codeOf Tryd.f21)) s' ((bset_And_qb0x111 r))) ((bset_And_qb0x111 r))

abbrev bset_And_qs110100111 (r : Arr4) : Exit → St → Prop := thenS (fun s' => T Tryd.prog 30 (Code.at [1, 1, 0, 1, 0, 0, 1, 1, 1] (codeOf Tryd.f21)) s' ((bset_And_ql11010 r))) ((bset_And_ql11010 r))

abbrev bset_And_qb1_0x110100111 (r : Arr4) : Exit → St → Prop := inBlockS 1 ((bset_And_qs110100111 r))

abbrev bset_And_qb2_1_0x110100111 (r : Arr4) : Exit → St → Prop := inBlockS 2 ((bset_And_qb1_0x110100111 r))

theorem bset_And_l1_T {r : Arr4} (K : Nat) (go0 : (List Arr4) → Int → Int → Arr4 → Arr4 → Option Arr4) (hgo0 : ∀ (x0 : List Arr4) (x11_0_3 : Int) (x12_0_4 : Int) (y2_0_0 : Arr4) (y3_0_1 : Arr4) (fl0 : Bool) (b2_0 : Nat) (b3_0 : Nat), go0 x0 x11_0_3 x12_0_4 y2_0_0 y3_0_1 = some r → TL Tryd.prog 30 (Code.at [1, 1, 0, 1, 0, 0] (codeOf Tryd.f21)) ⟨[(2, .c (.ex (.pointer (some ⟨b2_0, 0, none⟩)))), (3, .c (.ex (.pointer (some ⟨b3_0, 0, none⟩)))), (10, .c (.sl fl0 4 (x0.map (Arr4.dc .u64)))), (11, .c (.ex (.int .i64 x11_0_3))), (12, .c (.ex (.int .i64 x12_0_4)))], [.box b2_0 24 (Arr4.oc .u64 y2_0_0), .box b3_0 24 (Arr4.oc .u64 y3_0_1)]⟩ (bset_And_qb0x111 r)) : ∀ (k : Nat), ∀ (x0 : List Arr4) (x11_0_3 : Int) (x12_1_4 : Int) (x16_1_5 : Arr4) (x17_1_6 : Int) (y2_0_0 : Arr4) (y3_1_1 : Arr4) (fl0 : Bool) (b2_1 : Nat) (b3_1 : Nat), bset_And_l1 K go0 k x0 x11_0_3 x12_1_4 x16_1_5 x17_1_6 y2_0_0 y3_1_1 = some r → TL Tryd.prog 30 (Code.at [1, 1, 0, 1, 0, 0, 1, 1, 0, 0, 1, 1, 0, 0] (codeOf Tryd.f21)) ⟨[(2, .c (.ex (.pointer (some ⟨b2_1, 0, none⟩)))), (3, .c (.ex (.pointer (some ⟨b3_1, 0, none⟩)))), (10, .c (.sl fl0 4 (x0.map (Arr4.dc .u64)))), (11, .c (.ex (.int .i64 x11_0_3))), (12, .c (.ex (.int .i64 x12_1_4))), (16, .agg (Arr4.dc .u64 x16_1_5)), (17, .c (.ex (.int .i64 x17_1_6)))], [.box b2_1 24 (Arr4.oc .u64 y2_0_0), .box b3_1 24 (Arr4.oc .u64 y3_1_1)]⟩ (bset_And_qb2_1_0x110100111 r) := by
  intro k
  induction k with
  | zero =>
    intro x0 x11_0_3 x12_1_4 x16_1_5 x17_1_6 y2_0_0 y3_1_1 fl0 b2_1 b3_1 h
    cases (show (none : Option Arr4) = some r from h)
  | succ k ih =>
    intro x0 x11_0_3 x12_1_4 x16_1_5 x17_1_6 y2_0_0 y3_1_1 fl0 b2_1 b3_1 h
    rw [bset_And_l1] at h
    refine TL.round ?_
    refine T.seq ?_
    refine T.regionL ?_
    refine TL'.step (.free rfl) (OpT.int2 rfl rfl (dlt rfl (by decide)) rfl rfl ?_)
    refine TL'.nil (thenS_normal ?_)
    refine T.seq ?_
    rcases bif_some h with ⟨c_123, h⟩ | ⟨c_123, h⟩
    · refine T.condT rfl c_123 ?_
      refine T.skip (thenS_normal ?_)
      refine T.seq ?_
      refine T.block ?_
      refine T.seq ?_
      refine T.regionL ?_
      refine TL'.step (.free rfl) (OpT.move rfl (dlt rfl (by decide)) rfl ?_)
      obtain ⟨g_124, h⟩ := ck_some h
      refine TL'.step (.free rfl) (OpT.indexArr rfl (dlt rfl (by decide)) Tryd.underlying24 Tryd.underlying22 rfl i22 rfl rfl g_124.1 g_124.2 (Arr4.dc_get (a := x16_1_5) (k := .u64) g_124.1 g_124.2) ?_)
      refine TL'.step (.free rfl) (OpT.assign rfl (dlt rfl (by decide)) rfl ?_)
      refine TL'.step (.free rfl) (OpT.assign rfl (dlt rfl (by decide)) rfl ?_)
      refine TL'.nil (thenS_normal ?_)
      refine T.regionL ?_
      refine TL'.step (.free rfl) (OpT.move rfl (dlt rfl (by decide)) rfl ?_)
      refine TL'.step (.free rfl) (OpT.indexPtr rfl (dlt rfl (by decide)) Tryd.underlying24 i22 rfl rfl g_124.1 g_124.2 ?_)
      refine TL'.step (.free rfl) (OpT.loadBox (i := 1) rfl (dlt rfl (by decide)) Tryd.underlying22 rfl rfl rfl (Arr4.oc_get (k := .u64) (a := y3_1_1) (pre := []) (post := []) g_124.1 g_124.2) ?_)
      refine TL'.step (.free rfl) (OpT.move rfl (dlt rfl (by decide)) rfl ?_)
      refine TL'.step (.free rfl) (OpT.int2 rfl rfl (dlt rfl (by decide)) rfl rfl ?_)
      refine TL'.step (.free rfl) (OpT.indexPtr rfl (dlt rfl (by decide)) Tryd.underlying24 i22 rfl rfl g_124.1 g_124.2 ?_)
      refine TL'.step (.free rfl) (OpT.storeTo (i := 1) (cells' := (Arr4.oc .u64 (Arr4.set y3_1_1 x17_1_6 (bits .and .u64 (Arr4.get y3_1_1 x17_1_6) (Arr4.get x16_1_5 x17_1_6))))) rfl rfl i22 rfl rfl rfl (Arr4.oc_lt (k := .u64) (a := y3_1_1) (pre := []) (post := []) g_124.1 g_124.2) (Arr4.oc_set (k := .u64) (a := y3_1_1) (pre := []) (post := []) g_124.1 g_124.2) ?_)
      refine TL'.nil (inBlock_normal (thenS_normal ?_))
      refine T.regionL ?_
      refine TL'.step (.free rfl) (OpT.int2 rfl rfl (dlt rfl (by decide)) rfl rfl ?_)
      refine TL'.step (.free rfl) (OpT.move rfl (dlt rfl (by decide)) rfl ?_)
      refine TL'.nil (thenS_normal ?_)
      refine TL.by_turn ?_ (ih x0 x11_0_3 x12_1_4 x16_1_5 (IntKind.i64.wrap (x17_1_6 + (1 : Int))) y2_0_0 (Arr4.set y3_1_1 x17_1_6 (bits .and .u64 (Arr4.get y3_1_1 x17_1_6) (Arr4.get x16_1_5 x17_1_6))) fl0 b2_1 b3_1 h)
      exact Turn.re (.cons rfl (.cons rfl (.cons rfl (.cons rfl (.cons rfl (.cons rfl (.cons rfl (.nil _)))))))) (.cons 0 rfl (.cons 0 rfl (.nil _)))
    · refine T.condF rfl c_123 ?_
      refine T.exit (thenS_exit (thenS_exit (inBlock_exit (inBlock_normal (thenS_normal ?_)))))
      refine T.regionL ?_
      refine TL'.step (.free rfl) (OpT.int2 rfl rfl (dlt rfl (by decide)) rfl rfl ?_)
      refine TL'.step (.free rfl) (OpT.move rfl (dlt rfl (by decide)) rfl ?_)
      refine TL'.nil (thenS_normal ?_)
      refine TL.by_turn ?_ (hgo0 x0 x11_0_3 (IntKind.i64.wrap (x12_1_4 + (1 : Int))) y2_0_0 y3_1_1 fl0 b2_1 b3_1 h)
      exact Turn.re (.cons rfl (.cons rfl (.cons rfl (.cons rfl (.cons rfl (.nil _)))))) (.cons 0 rfl (.cons 0 rfl (.nil _)))

theorem bset_And_l0_T {r : Arr4} (K : Nat) : ∀ (k : Nat), ∀ (x0 : List Arr4) (x11_0_3 : Int) (x12_0_4 : Int) (y2_0_0 : Arr4) (y3_0_1 : Arr4) (fl0 : Bool) (b2_0 : Nat) (b3_0 : Nat), bset_And_l0 K k x0 x11_0_3 x12_0_4 y2_0_0 y3_0_1 = some r → TL Tryd.prog 30 (Code.at [1, 1, 0, 1, 0, 0] (codeOf Tryd.f21)) ⟨[(2, .c (.ex (.pointer (some ⟨b2_0, 0, none⟩)))), (3, .c (.ex (.pointer (some ⟨b3_0, 0, none⟩)))), (10, .c (.sl fl0 4 (x0.map (Arr4.dc .u64)))), (11, .c (.ex (.int .i64 x11_0_3))), (12, .c (.ex (.int .i64 x12_0_4)))], [.box b2_0 24 (Arr4.oc .u64 y2_0_0), .box b3_0 24 (Arr4.oc .u64 y3_0_1)]⟩ (bset_And_qb0x111 r) := by
  intro k
  induction k with
  | zero =>
    intro x0 x11_0_3 x12_0_4 y2_0_0 y3_0_1 fl0 b2_0 b3_0 h
    cases (show (none : Option Arr4) = some r from h)
  | succ k ih =>
    intro x0 x11_0_3 x12_0_4 y2_0_0 y3_0_1 fl0 b2_0 b3_0 h
    rw [bset_And_l0] at h
    refine TL.round ?_
    refine T.seq ?_
    refine T.regionL ?_
    refine TL'.step (.free rfl) (OpT.int2 rfl rfl (dlt rfl (by decide)) rfl rfl ?_)
    refine TL'.nil (thenS_normal ?_)
    refine T.seq ?_
    rcases bif_some h with ⟨c_119, h⟩ | ⟨c_119, h⟩
    · refine T.condT rfl c_119 ?_
      refine T.skip (thenS_normal ?_)
      refine T.seq ?_
      refine T.block ?_
      refine T.seq ?_
      refine T.regionL ?_
      obtain ⟨v_120, e_121, h⟩ := bind_some h
      refine TL'.step (.free rfl) (OpT.indexSlM (xs := x0) (f := (Arr4.dc .u64)) (v := v_120) rfl (dlt rfl (by decide)) Tryd.underlying33 i24 rfl rfl e_121 ?_)
      refine TL'.step (.free rfl) (OpT.loadRefAgg rfl (dlt rfl (by decide)) Tryd.underlying24 rfl i24 rfl (Nat.le_of_ble_eq_true rfl) ?_)
      refine TL'.step (.free rfl) (OpT.alloc' rfl (dlt rfl (by decide)) i24 rfl (fun b_122 => ?_))
      refine TL'.step (.free rfl) (OpT.storeAggTo (i := 0) (cells' := (Arr4.oc .u64 v_120)) rfl rfl i24 rfl rfl rfl rfl (Nat.le_of_ble_eq_true rfl) rfl ?_)
      refine TL'.nil (thenS_normal ?_)
      refine T.seq ?_
      refine T.regionL ?_
      refine TL'.step (.free rfl) (OpT.loadBoxAgg (i := 0) (l := (Arr4.dc .u64 v_120)) rfl (dlt rfl (by decide)) Tryd.underlying24 rfl i24 rfl rfl rfl rfl ?_)
      refine TL'.step (.free rfl) (OpT.move rfl (dlt rfl (by decide)) rfl ?_)
      refine TL'.nil (thenS_normal ?_)
      refine T.block ?_
      refine T.loop ?_
      refine TL.by_turn ?_ (bset_And_l1_T K (bset_And_l0 K k) ih K x0 x11_0_3 x12_0_4 v_120 (0 : Int) y2_0_0 y3_0_1 fl0 b2_0 b3_0 h)
      exact Turn.re (.cons rfl (.cons rfl (.cons rfl (.cons rfl (.cons rfl (.cons rfl (.cons rfl (.nil _)))))))) (.cons 1 rfl (.cons 1 rfl (.nil _)))
    · refine T.condF rfl c_119 ?_
      refine T.exit (thenS_exit (thenS_exit (inBlock_exit (thenS_normal ?_))))
      refine T.seq ?_
      refine T.regionL ?_
      refine TL'.step (.free rfl) (OpT.loadBoxAgg (i := 1) (l := (Arr4.dc .u64 y3_0_1)) rfl (dlt rfl (by decide)) Tryd.underlying24 rfl i24 rfl rfl rfl rfl ?_)
      refine TL'.step (.free rfl) (OpT.storeAggTo (i := 0) (cells' := (Arr4.oc .u64 y3_0_1)) rfl rfl i24 rfl rfl rfl rfl (Nat.le_of_ble_eq_true rfl) rfl ?_)
      refine TL'.nil (thenS_normal ?_)
      refine T.ret ?_
      exact Fin.done (.cons _ _ _ _ (.cellAgg 2 24 _ 0 0 24 _ (Arr4.dc .u64 y3_0_1) _ _ 4 _ rfl rfl rfl rfl Tryd.underlying24 rfl i24) .nil) (by cases h; exact ⟨rfl, rfl⟩)

theorem bset_And_T {K : Nat} {x0 : List Arr4} {fl0 : Bool} {r : Arr4} (h : bset_And K x0 = some r) : CallR Tryd.prog 21 [.c (.sl fl0 4 (x0.map (Arr4.dc .u64)))] [] (.agg (Arr4.dc .u64 r)) := by
  refine CallT.intro Tryd.func21 rfl (Nat.le_of_ble_eq_true rfl) ?_
  show T Tryd.prog 30 (Code.at [] (codeOf Tryd.f21)) ⟨paramSlots 0 [.c (.sl fl0 4 (x0.map (Arr4.dc .u64)))], []⟩ (bset_And_q r)
  unfold bset_And at h
  refine T.seq ?_
  refine T.regionL ?_
  refine TL'.step (.free rfl) (OpT.alloc' rfl (dlt rfl (by decide)) i24 rfl (fun b_115 => ?_))
  refine TL'.nil (thenS_normal ?_)
  refine T.seq ?_
  refine T.regionL ?_
  refine TL'.step (.free rfl) (OpT.build (l := (Arr4.dc .u64 (Arr4.mk 0 0 0 0))) rfl (dlt rfl (by decide)) (built_arr Tryd.underlying24 i24 i22) (all1 rfl) rfl rfl ?_)
  obtain ⟨v_116, e_117, h⟩ := bind_some h
  refine TL'.step (.free rfl) (OpT.callP rfl (dlt rfl (by decide)) Tryd.func22 rfl rfl rfl (CallR.nil (bset_Not_T e_117)) ?_)
  refine TL'.step (.free rfl) (OpT.alloc' rfl (dlt rfl (by decide)) i24 rfl (fun b_118 => ?_))
  refine TL'.step (.free rfl) (OpT.storeAggTo (i := 0) (cells' := (Arr4.oc .u64 v_116)) rfl rfl i24 rfl rfl rfl rfl (Nat.le_of_ble_eq_true rfl) rfl ?_)
  refine TL'.nil (thenS_normal ?_)
  refine T.seq ?_
  refine T.seq ?_
  refine T.regionL ?_
  refine TL'.step (.free rfl) (OpT.move rfl (dlt rfl (by decide)) rfl ?_)
  refine TL'.step (.free rfl) (OpT.lenSlM (xs := x0) (f := (Arr4.dc .u64)) rfl (dlt rfl (by decide)) Tryd.underlying33 rfl ?_)
  refine TL'.step (.free rfl) (OpT.move rfl (dlt rfl (by decide)) rfl ?_)
  refine TL'.nil (thenS_normal ?_)
  refine T.block ?_
  refine T.loop ?_
  refine TL.by_turn ?_ (bset_And_l0_T K K x0 (x0.length : Int) (0 : Int) (Arr4.mk 0 0 0 0) v_116 fl0 b_115 b_118 h)
  exact Turn.re (.cons rfl (.cons rfl (.cons rfl (.cons rfl (.cons rfl (.nil _)))))) (.cons 1 rfl (.cons 0 rfl (.nil _)))

abbrev bset_Fold_q (r : Arr4) : Exit → St → Prop := retS Tryd.prog Tryd.f16 (fun y t => y = (.agg (Arr4.dc .u64 r)) ∧ t = [.ro 0 deBruijnD])

abbrev bset_Fold_qs1111 (r : Arr4) : Exit → St → Prop := thenS (fun s' => T Tryd.prog 46 (Code.at [1, 1, 1, 1] (codeOf Tryd.f16)) s' ((bset_Fold_q r))) ((bset_Fold_q r))

abbrev bset_Fold_qb2x1111 (r : Arr4) : Exit → St → Prop := inBlockS 2 ((bset_Fold_qs1111 r))

abbrev bset_Fold_qs111 (r : Arr4) : Exit → St → Prop := thenS (fun s' => T Tryd.prog 46 (Code.at [1, 1, 1] (codeOf Tryd.f16)) s' ((bset_Fold_q r))) ((bset_Fold_q r))

abbrev bset_Fold_qb0x111 (r : Arr4) : Exit → St → Prop := inBlockS 0 ((bset_Fold_qs111 r))

theorem bset_Fold_l1_T {r : Arr4} (K : Nat) : ∀ (k : Nat), ∀ (x31_1_2 : List Int) (x32_1_3 : Int) (x33_1_4 : Int) (y2_0_1 : Arr4) (y3_1_1 : Arr4) (b2_1 : Nat) (b3_1 : Nat), bset_Fold_l1 K k x31_1_2 x32_1_3 x33_1_4 y2_0_1 y3_1_1 = some r → TL Tryd.prog 46 (Code.at [1, 1, 1, 0, 1, 0, 0] (codeOf Tryd.f16)) ⟨[(2, .c (.ex (.pointer (some ⟨b2_1, 0, none⟩)))), (3, .c (.ex (.pointer (some ⟨b3_1, 0, none⟩)))), (31, .c (.sl false 1 (x31_1_2.map (cI .u8)))), (32, .c (.ex (.int .i64 x32_1_3))), (33, .c (.ex (.int .i64 x33_1_4)))], [.box b2_1 24 (Arr4.oc .u64 y2_0_1), .box b3_1 24 (Arr4.oc .u64 y3_1_1), .ro 0 deBruijnD]⟩ (bset_Fold_qb2x1111 r) := by
  intro k
  induction k with
  | zero =>
    intro x31_1_2 x32_1_3 x33_1_4 y2_0_1 y3_1_1 b2_1 b3_1 h
    cases (show (none : Option Arr4) = some r from h)
  | succ k ih =>
    intro x31_1_2 x32_1_3 x33_1_4 y2_0_1 y3_1_1 b2_1 b3_1 h
    rw [bset_Fold_l1] at h
    refine TL.round ?_
    refine T.seq ?_
    refine T.regionL ?_
    refine TL'.step (.free rfl) (OpT.int2 rfl rfl (dlt rfl (by decide)) rfl rfl ?_)
    refine TL'.nil (thenS_normal ?_)
    refine T.seq ?_
    rcases bif_some h with ⟨c_290, h⟩ | ⟨c_290, h⟩
    · refine T.condT rfl c_290 ?_
      refine T.skip (thenS_normal ?_)
      refine T.seq ?_
      refine T.block ?_
      refine T.seq ?_
      refine T.regionL ?_
      obtain ⟨v_291, e_292, h⟩ := bind_some h
      refine TL'.step (.free rfl) (OpT.indexSlM (xs := x31_1_2) (f := (cI .u8)) (v := v_291) rfl (dlt rfl (by decide)) Tryd.underlying26 i5 rfl rfl e_292 ?_)
      refine TL'.step (.free rfl) (OpT.loadRef rfl (dlt rfl (by decide)) Tryd.underlying5 rfl rfl rfl ?_)
      refine TL'.step (.free rfl) (OpT.assign rfl (dlt rfl (by decide)) rfl ?_)
      refine TL'.nil (thenS_normal ?_)
      obtain ⟨v_294, e_295, h⟩ := bind_some h
      obtain ⟨v_296, e_297, h⟩ := bind_some h
      refine T.draw (s1 := ⟨[(2, .c (.ex (.pointer (some ⟨b2_1, 0, none⟩)))), (3, .c (.ex (.pointer (some ⟨b3_1, 0, none⟩)))), (31, .c (.sl false 1 (x31_1_2.map (cI .u8)))), (32, .c (.ex (.int .i64 x32_1_3))), (33, .c (.ex (.int .i64 x33_1_4)))], [.box b2_1 24 (Arr4.oc .u64 y2_0_1), .box b3_1 24 (Arr4.oc .u64 v_296), .ro 0 deBruijnD]⟩) (ms := [0, 0, 2, 6, 14, 31, 63, 127]) TrydMixed (.cons (c := ⟨some 37, .agg (Arr4.dc .u64 y3_1_1), [(3, .c (.ex (.pointer (some ⟨b3_1, 0, none⟩))))], [(1, .box b3_1 24 (Arr4.oc .u64 y3_1_1))], []⟩) (fun t hm => One.step rfl (.free rfl) (OpT.loadBoxAgg (i := 1) (l := (Arr4.dc .u64 y3_1_1)) rfl (dlt rfl (by decide)) Tryd.underlying24 rfl i24 (hm.slots (3, _) (.head _)) (hm.objs (1, _) (.head _)) rfl rfl rfl)) (Ct.met_of rfl rfl) (.cons (c := ⟨some 38, .c (.ex (.int .u8 v_291)), [(7, .c (.ex (.int .u8 v_291)))], [], []⟩) (fun t hm => One.step rfl (.free rfl) (OpT.move rfl (dlt rfl (by decide)) (hm.slots (7, _) (.head _)) rfl)) (Ct.met_of rfl rfl) (.cons (c := ⟨some 39, .c (.ex (.int .u8 (IntKind.u8.wrap (v_291 + (32 : Int))))), [(38, .c (.ex (.int .u8 v_291)))], [], []⟩) (fun t hm => One.step rfl (.free rfl) (OpT.int2 rfl rfl (dlt rfl (by decide)) (hm.slots (38, _) (.head _)) rfl rfl)) (Ct.met_of rfl rfl) (.cons (c := ⟨some 40, .c (.sl true 1 ([(IntKind.u8.wrap (v_291 + (32 : Int)))].map (cI .u8))), [(39, .c (.ex (.int .u8 (IntKind.u8.wrap (v_291 + (32 : Int))))))], [], []⟩) (fun t hm => One.step rfl (.free rfl) (OpT.buildSlice (elems := ([(IntKind.u8.wrap (v_291 + (32 : Int)))] : List Int).map (cI .u8)) rfl (dlt rfl (by decide)) Tryd.underlying26 i5 (by decide) rfl (all1 rfl) (parts_cons (hm.slots (39, _) (.head _)) rfl parts_nil) rfl rfl (lenAll rfl) (by decide) rfl)) (Ct.met_of rfl rfl) (.cons (c := ⟨some 41, .agg (Arr4.dc .u64 v_294), [(40, .c (.sl true 1 ([(IntKind.u8.wrap (v_291 + (32 : Int)))].map (cI .u8))))], [], []⟩) (fun t hm => One.step rfl (.free rfl) (OpT.callP rfl (dlt rfl (by decide)) Tryd.func20 rfl rfl (evs_cons (hm.slots (40, _) (.head _)) evs_nil) (CallR.nil (bset_Of_T (fl0 := true) e_295)) rfl)) (Ct.met_of rfl rfl) (.cons (c := ⟨some 42, .c (.sl true 4 ([y3_1_1, v_294].map (Arr4.dc .u64))), [(37, .agg (Arr4.dc .u64 y3_1_1)), (41, .agg (Arr4.dc .u64 v_294))], [], []⟩) (fun t hm => One.step rfl (.free rfl) (OpT.buildSlice (elems := ([y3_1_1, v_294] : List Arr4).map (Arr4.dc .u64)) rfl (dlt rfl (by decide)) Tryd.underlying33 i24 (by decide) rfl (all1 rfl) (parts_cons (hm.slots (37, _) (.head _)) rfl (parts_cons (hm.slots (41, _) (.tail _ (.head _))) rfl parts_nil)) rfl rfl (lenAll rfl) (by decide) rfl)) (Ct.met_of rfl rfl) (.cons (c := ⟨some 43, .agg (Arr4.dc .u64 v_296), [(42, .c (.sl true 4 ([y3_1_1, v_294].map (Arr4.dc .u64))))], [], []⟩) (fun t hm => One.step rfl (.free rfl) (OpT.callP rfl (dlt rfl (by decide)) Tryd.func19 rfl rfl (evs_cons (hm.slots (42, _) (.head _)) evs_nil) (CallR.nil (bset_Or_T (fl0 := true) e_297)) rfl)) (Ct.met_of rfl rfl) (.cons (c := ⟨none, .any, [(3, .c (.ex (.pointer (some ⟨b3_1, 0, none⟩)))), (43, .agg (Arr4.dc .u64 v_296))], [(1, .box b3_1 24 (Arr4.oc .u64 y3_1_1))], [(1, .box b3_1 24 (Arr4.oc .u64 v_296))]⟩) (fun t hm => One.step rfl (.free rfl) (OpT.storeAggTo (i := 1) (cells' := (Arr4.oc .u64 v_296)) rfl rfl i24 (hm.slots (3, _) (.head _)) (hm.slots (43, _) (.tail _ (.head _))) rfl (hm.objs (1, _) (.head _)) (Nat.le_of_ble_eq_true rfl) rfl rfl)) (Ct.met_of rfl rfl) (.nil _ _))))))))) rfl (by kernel_rfl) (by kernel_rfl) (by kernel_rfl) (.cons rfl (.cons rfl (.cons rfl (.cons rfl (.cons rfl (.nil _)))))) rfl (fun u hu => (inBlock_normal (thenS_normal (T.by_turn hu ?_))))
      refine T.regionL ?_
      refine TL'.step (.free rfl) (OpT.int2 rfl rfl (dlt rfl (by decide)) rfl rfl ?_)
      refine TL'.step (.free rfl) (OpT.move rfl (dlt rfl (by decide)) rfl ?_)
      refine TL'.nil (thenS_normal ?_)
      refine TL.by_turn ?_ (ih x31_1_2 x32_1_3 (IntKind.i64.wrap (x33_1_4 + (1 : Int))) y2_0_1 v_296 b2_1 b3_1 h)
      exact Turn.re (.cons rfl (.cons rfl (.cons rfl (.cons rfl (.cons rfl (.nil _)))))) (.cons 0 rfl (.cons 0 rfl (.cons 0 rfl (.nil _))))
    · refine T.condF rfl c_290 ?_
      refine T.exit (thenS_exit (thenS_exit (inBlock_exit (thenS_normal ?_))))
      refine T.seq ?_
      refine T.regionL ?_
      refine TL'.step (.free rfl) (OpT.loadBoxAgg (i := 1) (l := (Arr4.dc .u64 y3_1_1)) rfl (dlt rfl (by decide)) Tryd.underlying24 rfl i24 rfl rfl rfl rfl ?_)
      refine TL'.step (.free rfl) (OpT.storeAggTo (i := 0) (cells' := (Arr4.oc .u64 y3_1_1)) rfl rfl i24 rfl rfl rfl rfl (Nat.le_of_ble_eq_true rfl) rfl ?_)
      refine TL'.nil (thenS_normal ?_)
      refine T.ret ?_
      exact Fin.doneK (.cons _ _ _ _ (.cellAgg 2 24 _ 0 0 24 _ (Arr4.dc .u64 y3_1_1) _ _ 4 _ rfl rfl rfl rfl Tryd.underlying24 rfl i24) .nil) (.cons 2 rfl (.nil _)) (by cases h; exact ⟨rfl, rfl⟩)

theorem bset_Fold_l0_T {r : Arr4} (K : Nat) : ∀ (k : Nat), ∀ (x13_0_3 : List Int) (x14_0_4 : Int) (x15_0_5 : Int) (x0 : Arr4) (y2_0_1 : Arr4) (y3_0_2 : Arr4) (b1_0 : Nat) (b2_0 : Nat) (b3_0 : Nat), bset_Fold_l0 K k x13_0_3 x14_0_4 x15_0_5 x0 y2_0_1 y3_0_2 = some r → TL Tryd.prog 46 (Code.at [1, 1, 0, 1, 0, 0] (codeOf Tryd.f16)) ⟨[(1, .c (.ex (.pointer (some ⟨b1_0, 0, none⟩)))), (2, .c (.ex (.pointer (some ⟨b2_0, 0, none⟩)))), (3, .c (.ex (.pointer (some ⟨b3_0, 0, none⟩)))), (13, .c (.sl false 1 (x13_0_3.map (cI .u8)))), (14, .c (.ex (.int .i64 x14_0_4))), (15, .c (.ex (.int .i64 x15_0_5)))], [.box b1_0 24 (Arr4.oc .u64 x0), .box b2_0 24 (Arr4.oc .u64 y2_0_1), .box b3_0 24 (Arr4.oc .u64 y3_0_2), .ro 0 deBruijnD]⟩ (bset_Fold_qb0x111 r) := by
  intro k
  induction k with
  | zero =>
    intro x13_0_3 x14_0_4 x15_0_5 x0 y2_0_1 y3_0_2 b1_0 b2_0 b3_0 h
    cases (show (none : Option Arr4) = some r from h)
  | succ k ih =>
    intro x13_0_3 x14_0_4 x15_0_5 x0 y2_0_1 y3_0_2 b1_0 b2_0 b3_0 h
    rw [bset_Fold_l0] at h
    refine TL.round ?_
    refine T.seq ?_
    refine T.regionL ?_
    refine TL'.step (.free rfl) (OpT.int2 rfl rfl (dlt rfl (by decide)) rfl rfl ?_)
    refine TL'.nil (thenS_normal ?_)
    refine T.seq ?_
    rcases bif_some h with ⟨c_275, h⟩ | ⟨c_275, h⟩
    · refine T.condT rfl c_275 ?_
      refine T.skip (thenS_normal ?_)
      refine T.seq ?_
      refine T.block ?_
      refine T.seq ?_
      refine T.regionL ?_
      obtain ⟨v_276, e_277, h⟩ := bind_some h
      refine TL'.step (.free rfl) (OpT.indexSlM (xs := x13_0_3) (f := (cI .u8)) (v := v_276) rfl (dlt rfl (by decide)) Tryd.underlying26 i5 rfl rfl e_277 ?_)
      refine TL'.step (.free rfl) (OpT.loadRef rfl (dlt rfl (by decide)) Tryd.underlying5 rfl rfl rfl ?_)
      refine TL'.step (.free rfl) (OpT.assign rfl (dlt rfl (by decide)) rfl ?_)
      refine TL'.nil (thenS_normal ?_)
      obtain ⟨v_279, e_280, h⟩ := bind_some h
      obtain ⟨v_281, e_282, h⟩ := bind_some h
      refine T.draw (s1 := ⟨[(1, .c (.ex (.pointer (some ⟨b1_0, 0, none⟩)))), (2, .c (.ex (.pointer (some ⟨b2_0, 0, none⟩)))), (3, .c (.ex (.pointer (some ⟨b3_0, 0, none⟩)))), (13, .c (.sl false 1 (x13_0_3.map (cI .u8)))), (14, .c (.ex (.int .i64 x14_0_4))), (15, .c (.ex (.int .i64 x15_0_5)))], [.box b1_0 24 (Arr4.oc .u64 x0), .box b2_0 24 (Arr4.oc .u64 y2_0_1), .box b3_0 24 (Arr4.oc .u64 v_281), .ro 0 deBruijnD]⟩) (ms := [0, 0, 2, 6, 14, 31, 63, 127]) TrydMixed (.cons (c := ⟨some 19, .agg (Arr4.dc .u64 y3_0_2), [(3, .c (.ex (.pointer (some ⟨b3_0, 0, none⟩))))], [(2, .box b3_0 24 (Arr4.oc .u64 y3_0_2))], []⟩) (fun t hm => One.step rfl (.free rfl) (OpT.loadBoxAgg (i := 2) (l := (Arr4.dc .u64 y3_0_2)) rfl (dlt rfl (by decide)) Tryd.underlying24 rfl i24 (hm.slots (3, _) (.head _)) (hm.objs (2, _) (.head _)) rfl rfl rfl)) (Ct.met_of rfl rfl) (.cons (c := ⟨some 20, .c (.ex (.int .u8 v_276)), [(5, .c (.ex (.int .u8 v_276)))], [], []⟩) (fun t hm => One.step rfl (.free rfl) (OpT.move rfl (dlt rfl (by decide)) (hm.slots (5, _) (.head _)) rfl)) (Ct.met_of rfl rfl) (.cons (c := ⟨some 21, .c (.ex (.int .u8 (IntKind.u8.wrap (v_276 - (32 : Int))))), [(20, .c (.ex (.int .u8 v_276)))], [], []⟩) (fun t hm => One.step rfl (.free rfl) (OpT.int2 rfl rfl (dlt rfl (by decide)) (hm.slots (20, _) (.head _)) rfl rfl)) (Ct.met_of rfl rfl) (.cons (c := ⟨some 22, .c (.sl true 1 ([(IntKind.u8.wrap (v_276 - (32 : Int)))].map (cI .u8))), [(21, .c (.ex (.int .u8 (IntKind.u8.wrap (v_276 - (32 : Int))))))], [], []⟩) (fun t hm => One.step rfl (.free rfl) (OpT.buildSlice (elems := ([(IntKind.u8.wrap (v_276 - (32 : Int)))] : List Int).map (cI .u8)) rfl (dlt rfl (by decide)) Tryd.underlying26 i5 (by decide) rfl (all1 rfl) (parts_cons (hm.slots (21, _) (.head _)) rfl parts_nil) rfl rfl (lenAll rfl) (by decide) rfl)) (Ct.met_of rfl rfl) (.cons (c := ⟨some 23, .agg (Arr4.dc .u64 v_279), [(22, .c (.sl true 1 ([(IntKind.u8.wrap (v_276 - (32 : Int)))].map (cI .u8))))], [], []⟩) (fun t hm => One.step rfl (.free rfl) (OpT.callP rfl (dlt rfl (by decide)) Tryd.func20 rfl rfl (evs_cons (hm.slots (22, _) (.head _)) evs_nil) (CallR.nil (bset_Of_T (fl0 := true) e_280)) rfl)) (Ct.met_of rfl rfl) (.cons (c := ⟨some 24, .c (.sl true 4 ([y3_0_2, v_279].map (Arr4.dc .u64))), [(19, .agg (Arr4.dc .u64 y3_0_2)), (23, .agg (Arr4.dc .u64 v_279))], [], []⟩) (fun t hm => One.step rfl (.free rfl) (OpT.buildSlice (elems := ([y3_0_2, v_279] : List Arr4).map (Arr4.dc .u64)) rfl (dlt rfl (by decide)) Tryd.underlying33 i24 (by decide) rfl (all1 rfl) (parts_cons (hm.slots (19, _) (.head _)) rfl (parts_cons (hm.slots (23, _) (.tail _ (.head _))) rfl parts_nil)) rfl rfl (lenAll rfl) (by decide) rfl)) (Ct.met_of rfl rfl) (.cons (c := ⟨some 25, .agg (Arr4.dc .u64 v_281), [(24, .c (.sl true 4 ([y3_0_2, v_279].map (Arr4.dc .u64))))], [], []⟩) (fun t hm => One.step rfl (.free rfl) (OpT.callP rfl (dlt rfl (by decide)) Tryd.func19 rfl rfl (evs_cons (hm.slots (24, _) (.head _)) evs_nil) (CallR.nil (bset_Or_T (fl0 := true) e_282)) rfl)) (Ct.met_of rfl rfl) (.cons (c := ⟨none, .any, [(3, .c (.ex (.pointer (some ⟨b3_0, 0, none⟩)))), (25, .agg (Arr4.dc .u64 v_281))], [(2, .box b3_0 24 (Arr4.oc .u64 y3_0_2))], [(2, .box b3_0 24 (Arr4.oc .u64 v_281))]⟩) (fun t hm => One.step rfl (.free rfl) (OpT.storeAggTo (i := 2) (cells' := (Arr4.oc .u64 v_281)) rfl rfl i24 (hm.slots (3, _) (.head _)) (hm.slots (25, _) (.tail _ (.head _))) rfl (hm.objs (2, _) (.head _)) (Nat.le_of_ble_eq_true rfl) rfl rfl)) (Ct.met_of rfl rfl) (.nil _ _))))))))) rfl (by kernel_rfl) (by kernel_rfl) (by kernel_rfl) (.cons rfl (.cons rfl (.cons rfl (.cons rfl (.cons rfl (.cons rfl (.nil _))))))) rfl (fun u hu => (inBlock_normal (thenS_normal (T.by_turn hu ?_))))
      refine T.regionL ?_
      refine TL'.step (.free rfl) (OpT.int2 rfl rfl (dlt rfl (by decide)) rfl rfl ?_)
      refine TL'.step (.free rfl) (OpT.move rfl (dlt rfl (by decide)) rfl ?_)
      refine TL'.nil (thenS_normal ?_)
      refine TL.by_turn ?_ (ih x13_0_3 x14_0_4 (IntKind.i64.wrap (x15_0_5 + (1 : Int))) x0 y2_0_1 v_281 b1_0 b2_0 b3_0 h)
      exact Turn.re (.cons rfl (.cons rfl (.cons rfl (.cons rfl (.cons rfl (.cons rfl (.nil _))))))) (.cons 0 rfl (.cons 0 rfl (.cons 0 rfl (.cons 0 rfl (.nil _)))))
    · refine T.condF rfl c_275 ?_
      refine T.exit (thenS_exit (thenS_exit (inBlock_exit (thenS_normal ?_))))
      refine T.seq ?_
      refine T.seq ?_
      obtain ⟨v_284, e_285, h⟩ := bind_some h
      obtain ⟨v_286, e_287, h⟩ := bind_some h
      obtain ⟨v_288, e_289, h⟩ := bind_some h
      refine T.draw (s1 := ⟨[(2, .c (.ex (.pointer (some ⟨b2_0, 0, none⟩)))), (3, .c (.ex (.pointer (some ⟨b3_0, 0, none⟩)))), (31, .c (.sl false 1 (v_288.map (cI .u8)))), (32, .c (.ex (.int .i64 (v_288.length : Int)))), (33, .c (.ex (.int .i64 (0 : Int))))], [.box b1_0 24 (Arr4.oc .u64 x0), .box b2_0 24 (Arr4.oc .u64 y2_0_1), .box b3_0 24 (Arr4.oc .u64 y3_0_2), .ro 0 deBruijnD]⟩) (ms := [0, 0, 3, 7, 15, 31, 0]) TrydMixed (.cons (c := ⟨some 27, .agg (Arr4.dc .u64 x0), [(1, .c (.ex (.pointer (some ⟨b1_0, 0, none⟩))))], [(0, .box b1_0 24 (Arr4.oc .u64 x0))], []⟩) (fun t hm => One.step rfl (.free rfl) (OpT.loadBoxAgg (i := 0) (l := (Arr4.dc .u64 x0)) rfl (dlt rfl (by decide)) Tryd.underlying24 rfl i24 (hm.slots (1, _) (.head _)) (hm.objs (0, _) (.head _)) rfl rfl rfl)) (Ct.met_of rfl rfl) (.cons (c := ⟨some 28, .agg (Arr4.dc .u64 v_284), [], [], []⟩) (fun t hm => One.step rfl (.free rfl) (OpT.callP rfl (dlt rfl (by decide)) Tryd.func18 rfl rfl (evs_cons rfl (evs_cons rfl evs_nil)) (CallR.nil (bset_Range_T e_285)) rfl)) (Ct.met_of rfl rfl) (.cons (c := ⟨some 29, .c (.sl true 4 ([x0, v_284].map (Arr4.dc .u64))), [(27, .agg (Arr4.dc .u64 x0)), (28, .agg (Arr4.dc .u64 v_284))], [], []⟩) (fun t hm => One.step rfl (.free rfl) (OpT.buildSlice (elems := ([x0, v_284] : List Arr4).map (Arr4.dc .u64)) rfl (dlt rfl (by decide)) Tryd.underlying33 i24 (by decide) rfl (all1 rfl) (parts_cons (hm.slots (27, _) (.head _)) rfl (parts_cons (hm.slots (28, _) (.tail _ (.head _))) rfl parts_nil)) rfl rfl (lenAll rfl) (by decide) rfl)) (Ct.met_of rfl rfl) (.cons (c := ⟨some 30, .agg (Arr4.dc .u64 v_286), [(29, .c (.sl true 4 ([x0, v_284].map (Arr4.dc .u64))))], [], []⟩) (fun t hm => One.step rfl (.free rfl) (OpT.callP rfl (dlt rfl (by decide)) Tryd.func21 rfl rfl (evs_cons (hm.slots (29, _) (.head _)) evs_nil) (CallR.nil (bset_And_T (fl0 := true) e_287)) rfl)) (Ct.met_of rfl rfl) (.cons (c := ⟨some 31, .c (.sl false 1 (v_288.map (cI .u8))), [(30, .agg (Arr4.dc .u64 v_286))], [(3, .ro 0 deBruijnD)], []⟩) (fun t hm => One.step rfl (.free rfl) (OpT.callRo rfl (dlt rfl (by decide)) Tryd.func11 rfl rfl (evs_cons (hm.slots (30, _) (.head _)) evs_nil) (.cons 3 (hm.objs (3, _) (.head _)) (.nil)) (bset_List_T e_289) rfl)) (Ct.met_of rfl rfl) (.cons (c := ⟨some 32, .c (.ex (.int .i64 (v_288.length : Int))), [(31, .c (.sl false 1 (v_288.map (cI .u8))))], [], []⟩) (fun t hm => One.step rfl (.free rfl) (OpT.lenSlM (xs := v_288) (f := (cI .u8)) rfl (dlt rfl (by decide)) Tryd.underlying26 (hm.slots (31, _) (.head _)) rfl)) (Ct.met_of rfl rfl) (.cons (c := ⟨some 33, .c (.ex (.int .i64 (0 : Int))), [], [], []⟩) (fun t hm => One.step rfl (.free rfl) (OpT.move rfl (dlt rfl (by decide)) rfl rfl)) (Ct.met_of rfl rfl) (.nil _ _)))))))) rfl (by kernel_rfl) (by kernel_rfl) (by kernel_rfl) (.cons rfl (.cons rfl (.cons rfl (.cons rfl (.cons rfl (.nil _)))))) rfl (fun u hu => (thenS_normal (T.by_turn hu ?_)))
      refine T.block ?_
      refine T.loop ?_
      refine TL.by_turn ?_ (bset_Fold_l1_T K K v_288 (v_288.length : Int) (0 : Int) y2_0_1 y3_0_2 b2_0 b3_0 h)
      exact Turn.re (.cons rfl (.cons rfl (.cons rfl (.cons rfl (.cons rfl (.nil _)))))) (.cons 1 rfl (.cons 1 rfl (.cons 1 rfl (.nil _))))

theorem bset_Fold_T {K : Nat} {x0 : Arr4} {r : Arr4} (h : bset_Fold K x0 = some r) : CallR Tryd.prog 16 [.agg (Arr4.dc .u64 x0)] [.ro 0 deBruijnD] (.agg (Arr4.dc .u64 r)) := by
  refine CallT.intro Tryd.func16 rfl (Nat.le_of_ble_eq_true rfl) ?_
  show T Tryd.prog 46 (Code.at [] (codeOf Tryd.f16)) ⟨paramSlots 0 [.agg (Arr4.dc .u64 x0)], [.ro 0 deBruijnD]⟩ (bset_Fold_q r)
  unfold bset_Fold at h
  refine T.seq ?_
  refine T.regionL ?_
  refine TL'.step (.free rfl) (OpT.boxAgg rfl (dlt rfl (by decide)) rfl (fun b_265 => ?_))
  refine TL'.step (.free rfl) (OpT.alloc' rfl (dlt rfl (by decide)) i24 rfl (fun b_266 => ?_))
  refine TL'.nil (thenS_normal ?_)
  refine T.seq ?_
  refine T.regionL ?_
  refine TL'.step (.free rfl) (OpT.loadBoxAgg (i := 1) (l := (Arr4.dc .u64 x0)) rfl (dlt rfl (by decide)) Tryd.underlying24 rfl i24 rfl rfl rfl rfl ?_)
  refine TL'.step (.free rfl) (OpT.alloc' rfl (dlt rfl (by decide)) i24 rfl (fun b_267 => ?_))
  refine TL'.step (.free rfl) (OpT.storeAggTo (i := 0) (cells' := (Arr4.oc .u64 x0)) rfl rfl i24 rfl rfl rfl rfl (Nat.le_of_ble_eq_true rfl) rfl ?_)
  refine TL'.nil (thenS_normal ?_)
  refine T.seq ?_
  refine T.seq ?_
  obtain ⟨v_269, e_270, h⟩ := bind_some h
  obtain ⟨v_271, e_272, h⟩ := bind_some h
  obtain ⟨v_273, e_274, h⟩ := bind_some h
  refine T.draw (s1 := ⟨[(1, .c (.ex (.pointer (some ⟨b_265, 0, none⟩)))), (2, .c (.ex (.pointer (some ⟨b_266, 0, none⟩)))), (3, .c (.ex (.pointer (some ⟨b_267, 0, none⟩)))), (13, .c (.sl false 1 (v_273.map (cI .u8)))), (14, .c (.ex (.int .i64 (v_273.length : Int)))), (15, .c (.ex (.int .i64 (0 : Int))))], [.box b_267 24 (Arr4.oc .u64 x0), .box b_266 24 (Arr4.oc .u64 (Arr4.mk 0 0 0 0)), .box b_265 24 (Arr4.oc .u64 x0), .ro 0 deBruijnD]⟩) (ms := [0, 0, 3, 7, 15, 31, 0]) TrydMixed (.cons (c := ⟨some 9, .agg (Arr4.dc .u64 x0), [(1, .c (.ex (.pointer (some ⟨b_265, 0, none⟩))))], [(2, .box b_265 24 (Arr4.oc .u64 x0))], []⟩) (fun t hm => One.step rfl (.free rfl) (OpT.loadBoxAgg (i := 2) (l := (Arr4.dc .u64 x0)) rfl (dlt rfl (by decide)) Tryd.underlying24 rfl i24 (hm.slots (1, _) (.head _)) (hm.objs (2, _) (.head _)) rfl rfl rfl)) (Ct.met_of rfl rfl) (.cons (c := ⟨some 10, .agg (Arr4.dc .u64 v_269), [], [], []⟩) (fun t hm => One.step rfl (.free rfl) (OpT.callP rfl (dlt rfl (by decide)) Tryd.func18 rfl rfl (evs_cons rfl (evs_cons rfl evs_nil)) (CallR.nil (bset_Range_T e_270)) rfl)) (Ct.met_of rfl rfl) (.cons (c := ⟨some 11, .c (.sl true 4 ([x0, v_269].map (Arr4.dc .u64))), [(9, .agg (Arr4.dc .u64 x0)), (10, .agg (Arr4.dc .u64 v_269))], [], []⟩) (fun t hm => One.step rfl (.free rfl) (OpT.buildSlice (elems := ([x0, v_269] : List Arr4).map (Arr4.dc .u64)) rfl (dlt rfl (by decide)) Tryd.underlying33 i24 (by decide) rfl (all1 rfl) (parts_cons (hm.slots (9, _) (.head _)) rfl (parts_cons (hm.slots (10, _) (.tail _ (.head _))) rfl parts_nil)) rfl rfl (lenAll rfl) (by decide) rfl)) (Ct.met_of rfl rfl) (.cons (c := ⟨some 12, .agg (Arr4.dc .u64 v_271), [(11, .c (.sl true 4 ([x0, v_269].map (Arr4.dc .u64))))], [], []⟩) (fun t hm => One.step rfl (.free rfl) (OpT.callP rfl (dlt rfl (by decide)) Tryd.func21 rfl rfl (evs_cons (hm.slots (11, _) (.head _)) evs_nil) (CallR.nil (bset_And_T (fl0 := true) e_272)) rfl)) (Ct.met_of rfl rfl) (.cons (c := ⟨some 13, .c (.sl false 1 (v_273.map (cI .u8))), [(12, .agg (Arr4.dc .u64 v_271))], [(3, .ro 0 deBruijnD)], []⟩) (fun t hm => One.step rfl (.free rfl) (OpT.callRo rfl (dlt rfl (by decide)) Tryd.func11 rfl rfl (evs_cons (hm.slots (12, _) (.head _)) evs_nil) (.cons 3 (hm.objs (3, _) (.head _)) (.nil)) (bset_List_T e_274) rfl)) (Ct.met_of rfl rfl) (.cons (c := ⟨some 14, .c (.ex (.int .i64 (v_273.length : Int))), [(13, .c (.sl false 1 (v_273.map (cI .u8))))], [], []⟩) (fun t hm => One.step rfl (.free rfl) (OpT.lenSlM (xs := v_273) (f := (cI .u8)) rfl (dlt rfl (by decide)) Tryd.underlying26 (hm.slots (13, _) (.head _)) rfl)) (Ct.met_of rfl rfl) (.cons (c := ⟨some 15, .c (.ex (.int .i64 (0 : Int))), [], [], []⟩) (fun t hm => One.step rfl (.free rfl) (OpT.move rfl (dlt rfl (by decide)) rfl rfl)) (Ct.met_of rfl rfl) (.nil _ _)))))))) rfl (by kernel_rfl) (by kernel_rfl) (by kernel_rfl) (.cons rfl (.cons rfl (.cons rfl (.cons rfl (.cons rfl (.cons rfl (.nil _))))))) rfl (fun u hu => (thenS_normal (T.by_turn hu ?_)))
  refine T.block ?_
  refine T.loop ?_
  refine TL.by_turn ?_ (bset_Fold_l0_T K K v_273 (v_273.length : Int) (0 : Int) x0 (Arr4.mk 0 0 0 0) x0 b_265 b_266 b_267 h)
  exact Turn.re (.cons rfl (.cons rfl (.cons rfl (.cons rfl (.cons rfl (.cons rfl (.nil _))))))) (.cons 2 rfl (.cons 1 rfl (.cons 0 rfl (.cons 0 rfl (.nil _)))))

abbrev raddlelaw01_shown_q (r : Bool) : Exit → St → Prop := retS Tryd.prog Tryd.f10 (fun y t => y = (.c (.ex (.bool r))) ∧ t = [.ro 0 deBruijnD])

theorem raddlelaw01_shown_T {K : Nat} {r : Bool} (h : raddlelaw01_shown K = some r) : CallR Tryd.prog 10 [] [.ro 0 deBruijnD] (.c (.ex (.bool r))) := by
  refine CallT.intro Tryd.func10 rfl (Nat.le_of_ble_eq_true rfl) ?_
  show T Tryd.prog 27 (Code.at [] (codeOf Tryd.f10)) ⟨paramSlots 0 [], [.ro 0 deBruijnD]⟩ (raddlelaw01_shown_q r)
  unfold raddlelaw01_shown at h
  refine T.seq ?_
  refine T.regionL ?_
  refine TL'.step (.free rfl) (OpT.assign rfl (dlt rfl (by decide)) rfl ?_)
  refine TL'.nil (thenS_normal ?_)
  refine T.seq ?_
  refine T.regionL ?_
  obtain ⟨v_85, e_86, h⟩ := bind_some h
  refine TL'.step (.free rfl) (OpT.callP rfl (dlt rfl (by decide)) Tryd.func18 rfl rfl rfl (CallR.nil (bset_Range_T e_86)) ?_)
  refine TL'.step (.free rfl) (OpT.buildSlice (elems := ([(122 : Int)] : List Int).map (cI .u8)) rfl (dlt rfl (by decide)) Tryd.underlying26 i5 (by decide) rfl (all1 rfl) rfl rfl rfl (lenAll rfl) (by decide) ?_)
  obtain ⟨v_87, e_88, h⟩ := bind_some h
  refine TL'.step (.free rfl) (OpT.callP rfl (dlt rfl (by decide)) Tryd.func20 rfl rfl rfl (CallR.nil (bset_Of_T (fl0 := true) e_88)) ?_)
  refine TL'.step (.free rfl) (OpT.buildSlice (elems := ([v_85, v_87] : List Arr4).map (Arr4.dc .u64)) rfl (dlt rfl (by decide)) Tryd.underlying33 i24 (by decide) rfl (all1 rfl) rfl rfl rfl (lenAll rfl) (by decide) ?_)
  obtain ⟨v_89, e_90, h⟩ := bind_some h
  refine TL'.step (.free rfl) (OpT.callP rfl (dlt rfl (by decide)) Tryd.func19 rfl rfl rfl (CallR.nil (bset_Or_T (fl0 := true) e_90)) ?_)
  refine TL'.step (.free rfl) (OpT.alloc' rfl (dlt rfl (by decide)) i24 rfl (fun b_91 => ?_))
  refine TL'.step (.free rfl) (OpT.storeAggTo (i := 0) (cells' := (Arr4.oc .u64 v_89)) rfl rfl i24 rfl rfl rfl rfl (Nat.le_of_ble_eq_true rfl) rfl ?_)
  refine TL'.nil (thenS_normal ?_)
  refine T.seq ?_
  refine T.regionL ?_
  refine TL'.step (.free rfl) (OpT.loadBoxAgg (i := 0) (l := (Arr4.dc .u64 v_89)) rfl (dlt rfl (by decide)) Tryd.underlying24 rfl i24 rfl rfl rfl rfl ?_)
  obtain ⟨v_92, e_93, h⟩ := bind_some h
  refine TL'.step (.free rfl) (OpT.callRo rfl (dlt rfl (by decide)) Tryd.func11 rfl rfl rfl (.cons 1 rfl (.nil)) (bset_List_T e_93) ?_)
  refine TL'.step (.free rfl) (OpT.convBytes (xs := v_92) rfl (dlt rfl (by decide)) Tryd.underlying26 Tryd.underlying5 Tryd.underlying9 rfl ?_)
  refine TL'.step (.free rfl) (OpT.str_eql rfl (dlt rfl (by decide)) rfl rfl ?_)
  refine TL'.step (.free rfl) (OpT.move rfl (dlt rfl (by decide)) rfl ?_)
  rcases bif_some h with ⟨c_94, h⟩ | ⟨c_94, h⟩
  · refine TL'.step (.on rfl rfl rfl c_94) (OpT.loadBoxAgg (i := 0) (l := (Arr4.dc .u64 v_89)) rfl (dlt rfl (by decide)) Tryd.underlying24 rfl i24 rfl rfl rfl rfl ?_)
    obtain ⟨v_95, e_96, h⟩ := bind_some h
    refine TL'.step (.on rfl rfl rfl c_94) (OpT.callRo rfl (dlt rfl (by decide)) Tryd.func14 rfl rfl rfl (.cons 1 rfl (.nil)) (bset_Spans_T e_96) ?_)
    refine TL'.step (.on rfl rfl rfl c_94) (OpT.build (l := (Arr2.dc .u8 (Arr2.mk (97 : Int) (99 : Int)))) rfl (dlt rfl (by decide)) (built_arr Tryd.underlying34 i34 i5) (all1 rfl) rfl rfl ?_)
    refine TL'.step (.on rfl rfl rfl c_94) (OpT.build (l := (Arr2.dc .u8 (Arr2.mk (122 : Int) (122 : Int)))) rfl (dlt rfl (by decide)) (built_arr Tryd.underlying34 i34 i5) (all1 rfl) rfl rfl ?_)
    refine TL'.step (.on rfl rfl rfl c_94) (OpT.buildSlice (elems := ([(Arr2.mk (97 : Int) (99 : Int)), (Arr2.mk (122 : Int) (122 : Int))] : List Arr2).map (Arr2.dc .u8)) rfl (dlt rfl (by decide)) Tryd.underlying29 i34 (by decide) rfl (all1 rfl) rfl rfl rfl (lenAll rfl) (by decide) ?_)
    obtain ⟨v_97, e_98, h⟩ := bind_some h
    refine TL'.step (.on rfl rfl rfl c_94) (OpT.callP rfl (dlt rfl (by decide)) Tryd.func13 rfl rfl rfl (CallR.nil (raddlelaw01_spans_T (fl0 := false) (fl1 := true) e_98)) ?_)
    refine TL'.step (.free rfl) (OpT.pickT rfl (dlt rfl (by decide)) rfl c_94 rfl ?_)
    refine TL'.step (.free rfl) (OpT.move rfl (dlt rfl (by decide)) rfl ?_)
    rcases bif_some h with ⟨c_99, h⟩ | ⟨c_99, h⟩
    · refine TL'.step (.on rfl rfl rfl c_99) (OpT.buildSlice (elems := ([(97 : Int)] : List Int).map (cI .u8)) rfl (dlt rfl (by decide)) Tryd.underlying26 i5 (by decide) rfl (all1 rfl) rfl rfl rfl (lenAll rfl) (by decide) ?_)
      obtain ⟨v_100, e_101, h⟩ := bind_some h
      refine TL'.step (.on rfl rfl rfl c_99) (OpT.callP rfl (dlt rfl (by decide)) Tryd.func20 rfl rfl rfl (CallR.nil (bset_Of_T (fl0 := true) e_101)) ?_)
      obtain ⟨v_102, e_103, h⟩ := bind_some h
      refine TL'.step (.on rfl rfl rfl c_99) (OpT.callRo rfl (dlt rfl (by decide)) Tryd.func16 rfl rfl rfl (.cons 1 rfl (.nil)) (bset_Fold_T e_103) ?_)
      refine TL'.step (.on rfl rfl rfl c_99) (OpT.buildSlice (elems := ([(65 : Int), (97 : Int)] : List Int).map (cI .u8)) rfl (dlt rfl (by decide)) Tryd.underlying26 i5 (by decide) rfl (all1 rfl) rfl rfl rfl (lenAll rfl) (by decide) ?_)
      obtain ⟨v_104, e_105, h⟩ := bind_some h
      refine TL'.step (.on rfl rfl rfl c_99) (OpT.callP rfl (dlt rfl (by decide)) Tryd.func20 rfl rfl rfl (CallR.nil (bset_Of_T (fl0 := true) e_105)) ?_)
      refine TL'.step (.on rfl rfl rfl c_99) (OpT.intsEql (k := .u64) (xs := [v_102.a0, v_102.a1, v_102.a2, v_102.a3]) (ys := [v_104.a0, v_104.a1, v_104.a2, v_104.a3]) rfl (dlt rfl (by decide)) Tryd.underlying24 Tryd.underlying22 i22 Tryd.eqGuardType24 rfl rfl rfl rfl rfl rfl (Arr4.same_eq v_102 v_104) ?_)
      refine TL'.step (.free rfl) (OpT.pickT rfl (dlt rfl (by decide)) rfl c_99 rfl ?_)
      refine TL'.step (.free rfl) (OpT.assign rfl (dlt rfl (by decide)) rfl ?_)
      refine TL'.nil (thenS_normal ?_)
      refine T.ret ?_
      exact Fin.doneK (.cons _ _ _ _ (.tmp 0 _ rfl) .nil) (.cons 1 rfl (.nil _)) (by cases h; exact ⟨rfl, rfl⟩)
    · refine TL'.passU (.off _ _ _ _ rfl rfl rfl c_99) (dlt rfl (by decide)) ?_
      refine TL'.passU (.off _ _ _ _ rfl rfl rfl c_99) (dlt rfl (by decide)) ?_
      refine TL'.passU (.off _ _ _ _ rfl rfl rfl c_99) (dlt rfl (by decide)) ?_
      refine TL'.passU (.off _ _ _ _ rfl rfl rfl c_99) (dlt rfl (by decide)) ?_
      refine TL'.passU (.off _ _ _ _ rfl rfl rfl c_99) (dlt rfl (by decide)) ?_
      refine TL'.passU (.off _ _ _ _ rfl rfl rfl c_99) (dlt rfl (by decide)) ?_
      refine TL'.step (.free rfl) (OpT.pickF rfl (dlt rfl (by decide)) rfl c_99 rfl ?_)
      refine TL'.step (.free rfl) (OpT.assign rfl (dlt rfl (by decide)) rfl ?_)
      refine TL'.nil (thenS_normal ?_)
      refine T.ret ?_
      exact Fin.doneK (.cons _ _ _ _ (.tmp 0 _ rfl) .nil) (.cons 1 rfl (.nil _)) (by cases h; exact ⟨rfl, rfl⟩)
  · refine TL'.passU (.off _ _ _ _ rfl rfl rfl c_94) (dlt rfl (by decide)) ?_
    refine TL'.passU (.off _ _ _ _ rfl rfl rfl c_94) (dlt rfl (by decide)) ?_
    refine TL'.passU (.off _ _ _ _ rfl rfl rfl c_94) (dlt rfl (by decide)) ?_
    refine TL'.passU (.off _ _ _ _ rfl rfl rfl c_94) (dlt rfl (by decide)) ?_
    refine TL'.passU (.off _ _ _ _ rfl rfl rfl c_94) (dlt rfl (by decide)) ?_
    refine TL'.passU (.off _ _ _ _ rfl rfl rfl c_94) (dlt rfl (by decide)) ?_
    refine TL'.step (.free rfl) (OpT.pickF rfl (dlt rfl (by decide)) rfl c_94 rfl ?_)
    refine TL'.step (.free rfl) (OpT.move rfl (dlt rfl (by decide)) rfl ?_)
    refine TL'.passU (.off _ _ _ _ rfl rfl rfl rfl) (dlt rfl (by decide)) ?_
    refine TL'.passU (.off _ _ _ _ rfl rfl rfl rfl) (dlt rfl (by decide)) ?_
    refine TL'.passU (.off _ _ _ _ rfl rfl rfl rfl) (dlt rfl (by decide)) ?_
    refine TL'.passU (.off _ _ _ _ rfl rfl rfl rfl) (dlt rfl (by decide)) ?_
    refine TL'.passU (.off _ _ _ _ rfl rfl rfl rfl) (dlt rfl (by decide)) ?_
    refine TL'.passU (.off _ _ _ _ rfl rfl rfl rfl) (dlt rfl (by decide)) ?_
    refine TL'.step (.free rfl) (OpT.pickF rfl (dlt rfl (by decide)) rfl rfl rfl ?_)
    refine TL'.step (.free rfl) (OpT.assign rfl (dlt rfl (by decide)) rfl ?_)
    refine TL'.nil (thenS_normal ?_)
    refine T.ret ?_
    exact Fin.doneK (.cons _ _ _ _ (.tmp 0 _ rfl) .nil) (.cons 1 rfl (.nil _)) (by cases h; exact ⟨rfl, rfl⟩)

abbrev raddleref01_Has_q (r : Bool) : Exit → St → Prop := retS Tryd.prog Tryd.f31 (fun y t => y = (.c (.ex (.bool r))) ∧ t = [])

theorem raddleref01_Has_T {K : Nat} {x0 : Arr4} {x1 : Int} {r : Bool} (h : raddleref01_Has K x0 x1 = some r) : CallR Tryd.prog 31 [.agg (Arr4.dc .u64 x0), .c (.ex (.int .u8 x1))] [] (.c (.ex (.bool r))) := by
  refine CallT.intro Tryd.func31 rfl (Nat.le_of_ble_eq_true rfl) ?_
  show T Tryd.prog 14 (Code.at [] (codeOf Tryd.f31)) ⟨paramSlots 0 [.agg (Arr4.dc .u64 x0), .c (.ex (.int .u8 x1))], []⟩ (raddleref01_Has_q r)
  unfold raddleref01_Has at h
  refine T.seq ?_
  refine T.regionL ?_
  refine TL'.step (.free rfl) (OpT.boxAgg rfl (dlt rfl (by decide)) rfl (fun b_10 => ?_))
  refine TL'.step (.free rfl) (OpT.assign rfl (dlt rfl (by decide)) rfl ?_)
  refine TL'.nil (thenS_normal ?_)
  refine T.seq ?_
  refine T.regionL ?_
  refine TL'.step (.free rfl) (OpT.move rfl (dlt rfl (by decide)) rfl ?_)
  refine TL'.step (.free rfl) (OpT.quo rfl (dlt rfl (by decide)) rfl rfl (by decide) ?_)
  obtain ⟨g_11, h⟩ := ck_some h
  refine TL'.step (.free rfl) (OpT.indexPtr rfl (dlt rfl (by decide)) Tryd.underlying24 i22 rfl rfl g_11.1 g_11.2 ?_)
  refine TL'.step (.free rfl) (OpT.loadBox (i := 0) rfl (dlt rfl (by decide)) Tryd.underlying22 rfl rfl rfl (Arr4.oc_get (k := .u64) (a := x0) (pre := []) (post := []) g_11.1 g_11.2) ?_)
  refine TL'.step (.free rfl) (OpT.move rfl (dlt rfl (by decide)) rfl ?_)
  refine TL'.step (.free rfl) (OpT.rem rfl (dlt rfl (by decide)) rfl rfl (by decide) ?_)
  obtain ⟨g_12, h⟩ := ck_some h
  refine TL'.step (.free rfl) (OpT.shr rfl (dlt rfl (by decide)) rfl rfl g_12 ?_)
  refine TL'.step (.free rfl) (OpT.rem rfl (dlt rfl (by decide)) rfl rfl (by decide) ?_)
  refine TL'.step (.free rfl) (OpT.int2 rfl rfl (dlt rfl (by decide)) rfl rfl ?_)
  refine TL'.step (.free rfl) (OpT.assign rfl (dlt rfl (by decide)) rfl ?_)
  refine TL'.nil (thenS_normal ?_)
  refine T.ret ?_
  exact Fin.done (.cons _ _ _ _ (.tmp 4 _ rfl) .nil) (by cases h; exact ⟨rfl, rfl⟩)

abbrev raddleref01_List_q (r : List Int) : Exit → St → Prop := retS Tryd.prog Tryd.f12 (fun y t => y = (.c (.sl false 1 (r.map (cI .u8)))) ∧ t = [])

abbrev raddleref01_List_qs111 (r : List Int) : Exit → St → Prop := thenS (fun s' => T Tryd.prog 19 (Code.at [1, 1, 1] (codeOf Tryd.f12)) s' ((raddleref01_List_q r))) ((raddleref01_List_q r))

abbrev raddleref01_List_qb0x111 (r : List Int) : Exit → St → Prop := inBlockS 0 ((raddleref01_List_qs111 r))

theorem raddleref01_List_l0_T {r : List Int} (K : Nat) : ∀ (k : Nat), ∀ (x4_0_2 : Int) (x0 : Arr4) (y3_0_1 : List Int) (b1_0 : Nat) (w3_0 : Value), raddleref01_List_l0 K k x4_0_2 x0 y3_0_1 = some r → TL Tryd.prog 19 (Code.at [1, 1, 0, 1, 0, 0] (codeOf Tryd.f12)) ⟨[(1, .c (.ex (.pointer (some ⟨b1_0, 0, none⟩)))), (3, .c (.ex w3_0)), (4, .c (.ex (.int .i64 x4_0_2)))], [.box b1_0 24 (Arr4.oc .u64 x0), .arrA w3_0 5 1 (y3_0_1.map (cI .u8))]⟩ (raddleref01_List_qb0x111 r) := by
  intro k
  induction k with
  | zero =>
    intro x4_0_2 x0 y3_0_1 b1_0 w3_0 h
    cases (show (none : Option (List Int)) = some r from h)
  | succ k ih =>
    intro x4_0_2 x0 y3_0_1 b1_0 w3_0 h
    rw [raddleref01_List_l0] at h
    refine TL.round ?_
    refine T.seq ?_
    refine T.seq ?_
    refine T.regionL ?_
    refine TL'.step (.free rfl) (OpT.move rfl (dlt rfl (by decide)) rfl ?_)
    refine TL'.step (.free rfl) (OpT.int2 rfl rfl (dlt rfl (by decide)) rfl rfl ?_)
    refine TL'.nil (thenS_normal ?_)
    rcases bif_some h with ⟨c_63, h⟩ | ⟨c_63, h⟩
    · refine T.condT rfl c_63 ?_
      refine T.skip (thenS_normal ?_)
      refine T.seq ?_
      refine T.block ?_
      refine T.seq ?_
      refine T.regionL ?_
      refine TL'.step (.free rfl) (OpT.loadBoxAgg (i := 0) (l := (Arr4.dc .u64 x0)) rfl (dlt rfl (by decide)) Tryd.underlying24 rfl i24 rfl rfl rfl rfl ?_)
      refine TL'.step (.free rfl) (OpT.move rfl (dlt rfl (by decide)) rfl ?_)
      refine TL'.step (.free rfl) (OpT.convInt rfl (dlt rfl (by decide)) Tryd.underlying3 Tryd.underlying5 rfl ?_)
      obtain ⟨v_64, e_65, h⟩ := bind_some h
      refine TL'.step (.free rfl) (OpT.callP rfl (dlt rfl (by decide)) Tryd.func31 rfl rfl rfl (CallR.nil (raddleref01_Has_T e_65)) ?_)
      refine TL'.nil (thenS_normal ?_)
      rcases bif_some h with ⟨c_66, h⟩ | ⟨c_66, h⟩
      · refine T.condT rfl c_66 ?_
        refine T.regionL ?_
        refine TL'.step (.free rfl) (OpT.move rfl (dlt rfl (by decide)) rfl ?_)
        refine TL'.step (.free rfl) (OpT.move rfl (dlt rfl (by decide)) rfl ?_)
        refine TL'.step (.free rfl) (OpT.convInt rfl (dlt rfl (by decide)) Tryd.underlying3 Tryd.underlying5 rfl ?_)
        refine TL'.step (.free rfl) (OpT.buildSlice (elems := ([(IntKind.u8.wrap x4_0_2)] : List Int).map (cI .u8)) rfl (dlt rfl (by decide)) Tryd.underlying26 i5 (by decide) rfl (all1 rfl) rfl rfl rfl (lenAll rfl) (by decide) ?_)
        obtain ⟨g_68, h⟩ := ck_some h
        refine TL'.step (.free rfl) (OpT.appendAM (i := 1) (xs := y3_0_1) (ys := [(IntKind.u8.wrap x4_0_2)]) (f := (cI .u8)) rfl (dlt rfl (by decide)) Tryd.underlying26 i5 rfl rfl rfl rfl g_68 (fun w_67 => ?_))
        refine TL'.step (.free rfl) (OpT.assign rfl (dlt rfl (by decide)) rfl ?_)
        refine TL'.nil (inBlock_normal (thenS_normal ?_))
        refine T.regionL ?_
        refine TL'.step (.free rfl) (OpT.move rfl (dlt rfl (by decide)) rfl ?_)
        refine TL'.step (.free rfl) (OpT.int2 rfl rfl (dlt rfl (by decide)) rfl rfl ?_)
        refine TL'.step (.free rfl) (OpT.assign rfl (dlt rfl (by decide)) rfl ?_)
        refine TL'.nil (thenS_normal ?_)
        refine TL.by_turn ?_ (ih (IntKind.i64.wrap (x4_0_2 + (1 : Int))) x0 (y3_0_1 ++ [(IntKind.u8.wrap x4_0_2)]) b1_0 w_67 h)
        exact Turn.re (.cons rfl (.cons rfl (.cons rfl (.nil _)))) (.cons 0 rfl (.cons 0 rfl (.nil _)))
      · refine T.condF rfl c_66 ?_
        refine T.skip (inBlock_normal (thenS_normal ?_))
        refine T.regionL ?_
        refine TL'.step (.free rfl) (OpT.move rfl (dlt rfl (by decide)) rfl ?_)
        refine TL'.step (.free rfl) (OpT.int2 rfl rfl (dlt rfl (by decide)) rfl rfl ?_)
        refine TL'.step (.free rfl) (OpT.assign rfl (dlt rfl (by decide)) rfl ?_)
        refine TL'.nil (thenS_normal ?_)
        refine TL.by_turn ?_ (ih (IntKind.i64.wrap (x4_0_2 + (1 : Int))) x0 y3_0_1 b1_0 w3_0 h)
        exact Turn.re (.cons rfl (.cons rfl (.cons rfl (.nil _)))) (.cons 0 rfl (.cons 0 rfl (.nil _)))
    · refine T.condF rfl c_63 ?_
      refine T.exit (thenS_exit (thenS_exit (inBlock_exit (thenS_normal ?_))))
      refine T.seq ?_
      refine T.regionL ?_
      refine TL'.step (.free rfl) (OpT.move rfl (dlt rfl (by decide)) rfl ?_)
      refine TL'.step (.free rfl) (OpT.assign rfl (dlt rfl (by decide)) rfl ?_)
      refine TL'.nil (thenS_normal ?_)
      refine T.ret ?_
      refine Fin.turn (Turn.view 2 1 rfl rfl) ?_
      exact Fin.done (.cons _ _ _ _ (.tmp 2 _ rfl) .nil) (by cases h; exact ⟨rfl, rfl⟩)

theorem raddleref01_List_T {K : Nat} {x0 : Arr4} {r : List Int} (h : raddleref01_List K x0 = some r) : CallR Tryd.prog 12 [.agg (Arr4.dc .u64 x0)] [] (.c (.sl false 1 (r.map (cI .u8)))) := by
  refine CallT.intro Tryd.func12 rfl (Nat.le_of_ble_eq_true rfl) ?_
  show T Tryd.prog 19 (Code.at [] (codeOf Tryd.f12)) ⟨paramSlots 0 [.agg (Arr4.dc .u64 x0)], []⟩ (raddleref01_List_q r)
  unfold raddleref01_List at h
  refine T.seq ?_
  refine T.regionL ?_
  refine TL'.step (.free rfl) (OpT.boxAgg rfl (dlt rfl (by decide)) rfl (fun b_62 => ?_))
  refine TL'.step (.free rfl) (OpT.assign rfl (dlt rfl (by decide)) rfl ?_)
  refine TL'.nil (thenS_normal ?_)
  refine T.seq ?_
  refine T.regionL ?_
  refine TL'.step (.free rfl) (OpT.assign rfl (dlt rfl (by decide)) rfl ?_)
  refine TL'.nil (thenS_normal ?_)
  refine T.seq ?_
  refine T.seq ?_
  refine T.regionL ?_
  refine TL'.step (.free rfl) (OpT.assign rfl (dlt rfl (by decide)) rfl ?_)
  refine TL'.nil (thenS_normal ?_)
  refine T.block ?_
  refine T.loop ?_
  refine TL.by_turn (Turn.nilA 5 1) ?_
  refine TL.by_turn ?_ (raddleref01_List_l0_T K K (0 : Int) x0 [] b_62 (.slice none 0 0) h)
  exact Turn.re (.cons rfl (.cons rfl (.cons rfl (.nil _)))) (.cons 1 rfl (.cons 0 rfl (.nil _)))

abbrev raddleref01_Spans_q (r : List Arr2) : Exit → St → Prop := retS Tryd.prog Tryd.f15 (fun y t => y = (.c (.sl false 2 (r.map (Arr2.dc .u8)))) ∧ t = [])

abbrev raddleref01_Spans_qs1111 (r : List Arr2) : Exit → St → Prop := thenS (fun s' => T Tryd.prog 52 (Code.at [1, 1, 1, 1] (codeOf Tryd.f15)) s' ((raddleref01_Spans_q r))) ((raddleref01_Spans_q r))

abbrev raddleref01_Spans_qb0x1111 (r : List Arr2) : Exit → St → Prop := inBlockS 0 ((raddleref01_Spans_qs1111 r))

abbrev raddleref01_Spans_ql111010 (r : List Arr2) : Exit → St → Prop := thenS (fun s' => TL Tryd.prog 52 (Code.at [1, 1, 1, 0, 1, 0, 0] (codeOf Tryd.f15)) s' ((raddleref01_Spans_qb0x1111 r))) ((raddleref01_Spans_qb0x1111 r))

abbrev raddleref01_Spans_qs111010011 (r : List Arr2) : Exit → St → Prop := thenS (fun s' => T Tryd.prog 52 (Code.at [1, 1, 1, 0, 1, 0, 0, 1, 1] (codeOf Tryd.f15)) s' ((raddleref01_Spans_ql111010 r))) ((raddleref01_Spans_ql111010 r))

abbrev raddleref01_Spans_qb1_0x111010011 (r : List Arr2) : Exit → St → Prop := inBlockS 1 ((raddleref01_Spans_qs111010011 r))

theorem raddleref01_Spans_j1_T {r : List Arr2} (K : Nat) (go0 : (List Int) → Int → (List Arr2) → Option (List Arr2)) (hgo0 : ∀ (x4_0_1 : List Int) (x5_0_2 : Int) (y3_0_0 : List Arr2) (w3_0 : Value), go0 x4_0_1 x5_0_2 y3_0_0 = some r → TL Tryd.prog 52 (Code.at [1, 1, 1, 0, 1, 0, 0] (codeOf Tryd.f15)) ⟨[(3, .c (.ex w3_0)), (4, .c (.sl false 1 (x4_0_1.map (cI .u8)))), (5, .c (.ex (.int .i64 x5_0_2)))], [.arrX w3_0 34 2 0 (y3_0_0.map (Arr2.dc .u8))]⟩ (raddleref01_Spans_qb0x1111 r)) (x4_1_1 : List Int) (x5_1_2 : Int) (y3_1_0 : List Arr2) (w3_1 : Value) (h : raddleref01_Spans_j1 K go0 x4_1_1 x5_1_2 y3_1_0 = some r) : T Tryd.prog 52 (Code.at [1, 1, 1, 0, 1, 0, 0, 1, 0, 0, 1, 1] (codeOf Tryd.f15)) ⟨[(3, .c (.ex w3_1)), (4, .c (.sl false 1 (x4_1_1.map (cI .u8)))), (5, .c (.ex (.int .i64 x5_1_2)))], [.arrX w3_1 34 2 0 (y3_1_0.map (Arr2.dc .u8))]⟩ (raddleref01_Spans_qb1_0x111010011 r) := by
  unfold raddleref01_Spans_j1 at h
  obtain ⟨v_146, e_147, h⟩ := bind_some h
  obtain ⟨g_148, h⟩ := ck_some h
  refine T.drawG (s1 := fun γ_145 => ⟨[(3, .c (.ex ((γ_145 11).1))), (4, .c (.sl false 1 (x4_1_1.map (cI .u8)))), (5, .c (.ex (.int .i64 x5_1_2)))], [.arrX ((γ_145 11).1) 34 2 0 ((y3_1_0 ++ [(Arr2.mk v_146 v_146)]).map (Arr2.dc .u8))]⟩) (ms := [0, 0, 0, 6, 14, 0, 0, 96, 224, 510, 1022, 2047, 4095]) TrydMixed (.cons (c := fun γ_145 => ⟨some 39, .c (.ex w3_1), [(3, .c (.ex w3_1))], [], []⟩) [] (fun _ _ _ => rfl) (fun γ_145 t hm => One.step rfl (.free rfl) (OpT.move rfl (dlt rfl (by decide)) (hm.slots (3, _) (.head _)) ⟨(undef, 0), rfl⟩)) (fun γ_145 => Ct.met_of rfl rfl) (.cons (c := fun γ_145 => ⟨some 40, .c (.sl false 1 (x4_1_1.map (cI .u8))), [(4, .c (.sl false 1 (x4_1_1.map (cI .u8))))], [], []⟩) [] (fun _ _ _ => rfl) (fun γ_145 t hm => One.step rfl (.free rfl) (OpT.move rfl (dlt rfl (by decide)) (hm.slots (4, _) (.head _)) ⟨(undef, 0), rfl⟩)) (fun γ_145 => Ct.met_of rfl rfl) (.cons (c := fun γ_145 => ⟨some 41, .c (.ex (.int .i64 x5_1_2)), [(5, .c (.ex (.int .i64 x5_1_2)))], [], []⟩) [] (fun _ _ _ => rfl) (fun γ_145 t hm => One.step rfl (.free rfl) (OpT.move rfl (dlt rfl (by decide)) (hm.slots (5, _) (.head _)) ⟨(undef, 0), rfl⟩)) (fun γ_145 => Ct.met_of rfl rfl) (.cons (c := fun γ_145 => ⟨some 42, .ref [.ex (.int .u8 v_146)], [(40, .c (.sl false 1 (x4_1_1.map (cI .u8)))), (41, .c (.ex (.int .i64 x5_1_2)))], [], []⟩) [] (fun _ _ _ => rfl) (fun γ_145 t hm => One.step rfl (.free rfl) (OpT.indexSlM (xs := x4_1_1) (f := (cI .u8)) (v := v_146) rfl (dlt rfl (by decide)) Tryd.underlying26 i5 (hm.slots (40, _) (.head _)) (hm.slots (41, _) (.tail _ (.head _))) e_147 ⟨(undef, 0), rfl⟩)) (fun γ_145 => Ct.met_of rfl rfl) (.cons (c := fun γ_145 => ⟨some 43, .c (.ex (.int .u8 v_146)), [(42, .ref [.ex (.int .u8 v_146)])], [], []⟩) [] (fun _ _ _ => rfl) (fun γ_145 t hm => One.step rfl (.free rfl) (OpT.loadRef rfl (dlt rfl (by decide)) Tryd.underlying5 rfl (hm.slots (42, _) (.head _)) rfl ⟨(undef, 0), rfl⟩)) (fun γ_145 => Ct.met_of rfl rfl) (.cons (c := fun γ_145 => ⟨some 44, .c (.sl false 1 (x4_1_1.map (cI .u8))), [(4, .c (.sl false 1 (x4_1_1.map (cI .u8))))], [], []⟩) [] (fun _ _ _ => rfl) (fun γ_145 t hm => One.step rfl (.free rfl) (OpT.move rfl (dlt rfl (by decide)) (hm.slots (4, _) (.head _)) ⟨(undef, 0), rfl⟩)) (fun γ_145 => Ct.met_of rfl rfl) (.cons (c := fun γ_145 => ⟨some 45, .c (.ex (.int .i64 x5_1_2)), [(5, .c (.ex (.int .i64 x5_1_2)))], [], []⟩) [] (fun _ _ _ => rfl) (fun γ_145 t hm => One.step rfl (.free rfl) (OpT.move rfl (dlt rfl (by decide)) (hm.slots (5, _) (.head _)) ⟨(undef, 0), rfl⟩)) (fun γ_145 => Ct.met_of rfl rfl) (.cons (c := fun γ_145 => ⟨some 46, .ref [.ex (.int .u8 v_146)], [(44, .c (.sl false 1 (x4_1_1.map (cI .u8)))), (45, .c (.ex (.int .i64 x5_1_2)))], [], []⟩) [] (fun _ _ _ => rfl) (fun γ_145 t hm => One.step rfl (.free rfl) (OpT.indexSlM (xs := x4_1_1) (f := (cI .u8)) (v := v_146) rfl (dlt rfl (by decide)) Tryd.underlying26 i5 (hm.slots (44, _) (.head _)) (hm.slots (45, _) (.tail _ (.head _))) e_147 ⟨(undef, 0), rfl⟩)) (fun γ_145 => Ct.met_of rfl rfl) (.cons (c := fun γ_145 => ⟨some 47, .c (.ex (.int .u8 v_146)), [(46, .ref [.ex (.int .u8 v_146)])], [], []⟩) [] (fun _ _ _ => rfl) (fun γ_145 t hm => One.step rfl (.free rfl) (OpT.loadRef rfl (dlt rfl (by decide)) Tryd.underlying5 rfl (hm.slots (46, _) (.head _)) rfl ⟨(undef, 0), rfl⟩)) (fun γ_145 => Ct.met_of rfl rfl) (.cons (c := fun γ_145 => ⟨some 48, .agg (Arr2.dc .u8 (Arr2.mk v_146 v_146)), [(43, .c (.ex (.int .u8 v_146))), (47, .c (.ex (.int .u8 v_146)))], [], []⟩) [] (fun _ _ _ => rfl) (fun γ_145 t hm => One.step rfl (.free rfl) (OpT.build (l := (Arr2.dc .u8 (Arr2.mk v_146 v_146))) rfl (dlt rfl (by decide)) (built_arr Tryd.underlying34 i34 i5) (all1 rfl) (parts_cons (hm.slots (43, _) (.head _)) rfl (parts_cons (hm.slots (47, _) (.tail _ (.head _))) rfl parts_nil)) rfl ⟨(undef, 0), rfl⟩)) (fun γ_145 => Ct.met_of rfl rfl) (.cons (c := fun γ_145 => ⟨some 49, .c (.sl true 2 ([(Arr2.mk v_146 v_146)].map (Arr2.dc .u8))), [(48, .agg (Arr2.dc .u8 (Arr2.mk v_146 v_146)))], [], []⟩) [] (fun _ _ _ => rfl) (fun γ_145 t hm => One.step rfl (.free rfl) (OpT.buildSlice (elems := ([(Arr2.mk v_146 v_146)] : List Arr2).map (Arr2.dc .u8)) rfl (dlt rfl (by decide)) Tryd.underlying29 i34 (by decide) rfl (all1 rfl) (parts_cons (hm.slots (48, _) (.head _)) rfl parts_nil) rfl rfl (lenAll rfl) (by decide) ⟨(undef, 0), rfl⟩)) (fun γ_145 => Ct.met_of rfl rfl) (.cons (c := fun γ_145 => ⟨some 50, .c (.ex ((γ_145 11).1)), [(49, .c (.sl true 2 ([(Arr2.mk v_146 v_146)].map (Arr2.dc .u8)))), (39, .c (.ex w3_1))], [(0, .arrX w3_1 34 2 0 (y3_1_0.map (Arr2.dc .u8)))], [(0, .arrX ((γ_145 11).1) 34 2 0 ((y3_1_0 ++ [(Arr2.mk v_146 v_146)]).map (Arr2.dc .u8)))]⟩) [11] (fun γ_145 γ' h => by simp only [h 11 (by decide)]) (fun γ_145 t hm => One.step rfl (.free rfl) (OpT.appendXM (i := 0) (xs := y3_1_0) (ys := [(Arr2.mk v_146 v_146)]) (f := (Arr2.dc .u8)) rfl (dlt rfl (by decide)) Tryd.underlying29 i34 rfl (hm.slots (39, _) (.tail _ (.head _))) (hm.objs (0, _) (.head _)) (hm.slots (49, _) (.head _)) g_148 (fun w => ⟨(w, 0), rfl⟩))) (fun γ_145 => Ct.met_of rfl rfl) (.cons (c := fun γ_145 => ⟨some 3, .c (.ex ((γ_145 11).1)), [(50, .c (.ex ((γ_145 11).1)))], [], []⟩) [11] (fun γ_145 γ' h => by simp only [h 11 (by decide)]) (fun γ_145 t hm => One.step rfl (.free rfl) (OpT.assign rfl (dlt rfl (by decide)) (hm.slots (50, _) (.head _)) ⟨(undef, 0), rfl⟩)) (fun γ_145 => Ct.met_of rfl rfl) (.nil _ _)))))))))))))) rfl (by kernel_rfl) (by kernel_rfl) (by kernel_rfl) (fun γ_145 => by kernel_rfl) (fun γ_145 => .cons rfl (.cons rfl (.cons rfl (.nil _)))) (fun _ => rfl) (fun γ_145 u hu => (inBlock_normal (thenS_normal (T.by_turn hu ?_))))
  refine T.regionL ?_
  refine TL'.step (.free rfl) (OpT.move rfl (dlt rfl (by decide)) rfl ?_)
  refine TL'.step (.free rfl) (OpT.int2 rfl rfl (dlt rfl (by decide)) rfl rfl ?_)
  refine TL'.step (.free rfl) (OpT.assign rfl (dlt rfl (by decide)) rfl ?_)
  refine TL'.nil (thenS_normal ?_)
  refine TL.by_turn ?_ (hgo0 x4_1_1 (IntKind.i64.wrap (x5_1_2 + (1 : Int))) (y3_1_0 ++ [(Arr2.mk v_146 v_146)]) ((γ_145 11).1) h)
  exact Turn.re (.cons rfl (.cons rfl (.cons rfl (.nil _)))) (.cons 0 rfl (.nil _))

theorem raddleref01_Spans_l0_T {r : List Arr2} (K : Nat) : ∀ (k : Nat), ∀ (x4_0_1 : List Int) (x5_0_2 : Int) (y3_0_0 : List Arr2) (w3_0 : Value), raddleref01_Spans_l0 K k x4_0_1 x5_0_2 y3_0_0 = some r → TL Tryd.prog 52 (Code.at [1, 1, 1, 0, 1, 0, 0] (codeOf Tryd.f15)) ⟨[(3, .c (.ex w3_0)), (4, .c (.sl false 1 (x4_0_1.map (cI .u8)))), (5, .c (.ex (.int .i64 x5_0_2)))], [.arrX w3_0 34 2 0 (y3_0_0.map (Arr2.dc .u8))]⟩ (raddleref01_Spans_qb0x1111 r) := by
  intro k
  induction k with
  | zero =>
    intro x4_0_1 x5_0_2 y3_0_0 w3_0 h
    cases (show (none : Option (List Arr2)) = some r from h)
  | succ k ih =>
    intro x4_0_1 x5_0_2 y3_0_0 w3_0 h
    rw [raddleref01_Spans_l0] at h
    refine TL.round ?_
    refine T.seq ?_
    refine T.seq ?_
    refine T.regionL ?_
    refine TL'.step (.free rfl) (OpT.move rfl (dlt rfl (by decide)) rfl ?_)
    refine TL'.step (.free rfl) (OpT.move rfl (dlt rfl (by decide)) rfl ?_)
    refine TL'.step (.free rfl) (OpT.lenSlM (xs := x4_0_1) (f := (cI .u8)) rfl (dlt rfl (by decide)) Tryd.underlying26 rfl ?_)
    refine TL'.step (.free rfl) (OpT.int2 rfl rfl (dlt rfl (by decide)) rfl rfl ?_)
    refine TL'.nil (thenS_normal ?_)
    rcases bif_some h with ⟨c_134, h⟩ | ⟨c_134, h⟩
    · refine T.condT rfl c_134 ?_
      refine T.skip (thenS_normal ?_)
      refine T.seq ?_
      refine T.block ?_
      refine T.seq ?_
      rcases bif_some h with ⟨c_136, h⟩ | ⟨c_136, h⟩
      · obtain ⟨v_137, e_138, h⟩ := bind_some h
        obtain ⟨v_139, e_140, h⟩ := bind_some h
        refine T.draw (s1 := ⟨[(3, .c (.ex w3_0)), (4, .c (.sl false 1 (x4_0_1.map (cI .u8)))), (5, .c (.ex (.int .i64 x5_0_2))), (17, .c (.sl false 1 (x4_0_1.map (cI .u8)))), (18, .c (.ex (.int .i64 x5_0_2))), (19, .c (.ex (.int .i64 (IntKind.i64.wrap (x5_0_2 - (1 : Int)))))), (20, .ref [.ex (.int .u8 v_137)]), (21, .c (.ex (.int .u8 v_137))), (22, .c (.ex (.int .u8 (IntKind.u8.wrap (v_137 + (1 : Int)))))), (23, .c (.sl false 1 (x4_0_1.map (cI .u8)))), (24, .c (.ex (.int .i64 x5_0_2))), (25, .ref [.ex (.int .u8 v_139)]), (26, .c (.ex (.int .u8 v_139))), (27, .c (.ex (.bool ((IntKind.u8.wrap (v_137 + (1 : Int))) == v_139)))), (28, .c (.ex (.bool ((IntKind.u8.wrap (v_137 + (1 : Int))) == v_139))))], [.arrX w3_0 34 2 0 (y3_0_0.map (Arr2.dc .u8))]⟩) (ms := [0, 1, 3, 7, 7, 23, 63, 127, 255, 7, 7, 1543, 3591, 8191, 16383]) TrydMixed (.cons (c := ⟨some 14, .c (.ex (.int .i64 x5_0_2)), [(5, .c (.ex (.int .i64 x5_0_2)))], [], []⟩) (fun t hm => One.step rfl (.free rfl) (OpT.move rfl (dlt rfl (by decide)) (hm.slots (5, _) (.head _)) rfl)) (Ct.met_of rfl rfl) (.cons (c := ⟨some 15, .c (.ex (.bool (decide (x5_0_2 > (0 : Int))))), [(14, .c (.ex (.int .i64 x5_0_2)))], [], []⟩) (fun t hm => One.step rfl (.free rfl) (OpT.int2 rfl rfl (dlt rfl (by decide)) (hm.slots (14, _) (.head _)) rfl rfl)) (Ct.met_of rfl rfl) (.cons (c := ⟨some 16, .c (.ex (.bool (decide (x5_0_2 > (0 : Int))))), [(15, .c (.ex (.bool (decide (x5_0_2 > (0 : Int))))))], [], []⟩) (fun t hm => One.step rfl (.free rfl) (OpT.move rfl (dlt rfl (by decide)) (hm.slots (15, _) (.head _)) rfl)) (Ct.met_of rfl rfl) (.cons (c := ⟨some 17, .c (.sl false 1 (x4_0_1.map (cI .u8))), [(4, .c (.sl false 1 (x4_0_1.map (cI .u8)))), (16, .c (.ex (.bool (decide (x5_0_2 > (0 : Int))))))], [], []⟩) (fun t hm => One.step rfl (.on rfl rfl (hm.slots (16, _) (.tail _ (.head _))) c_136) (OpT.move rfl (dlt rfl (by decide)) (hm.slots (4, _) (.head _)) rfl)) (Ct.met_of rfl rfl) (.cons (c := ⟨some 18, .c (.ex (.int .i64 x5_0_2)), [(5, .c (.ex (.int .i64 x5_0_2))), (16, .c (.ex (.bool (decide (x5_0_2 > (0 : Int))))))], [], []⟩) (fun t hm => One.step rfl (.on rfl rfl (hm.slots (16, _) (.tail _ (.head _))) c_136) (OpT.move rfl (dlt rfl (by decide)) (hm.slots (5, _) (.head _)) rfl)) (Ct.met_of rfl rfl) (.cons (c := ⟨some 19, .c (.ex (.int .i64 (IntKind.i64.wrap (x5_0_2 - (1 : Int))))), [(18, .c (.ex (.int .i64 x5_0_2))), (16, .c (.ex (.bool (decide (x5_0_2 > (0 : Int))))))], [], []⟩) (fun t hm => One.step rfl (.on rfl rfl (hm.slots (16, _) (.tail _ (.head _))) c_136) (OpT.int2 rfl rfl (dlt rfl (by decide)) (hm.slots (18, _) (.head _)) rfl rfl)) (Ct.met_of rfl rfl) (.cons (c := ⟨some 20, .ref [.ex (.int .u8 v_137)], [(17, .c (.sl false 1 (x4_0_1.map (cI .u8)))), (19, .c (.ex (.int .i64 (IntKind.i64.wrap (x5_0_2 - (1 : Int)))))), (16, .c (.ex (.bool (decide (x5_0_2 > (0 : Int))))))], [], []⟩) (fun t hm => One.step rfl (.on rfl rfl (hm.slots (16, _) (.tail _ (.tail _ (.head _)))) c_136) (OpT.indexSlM (xs := x4_0_1) (f := (cI .u8)) (v := v_137) rfl (dlt rfl (by decide)) Tryd.underlying26 i5 (hm.slots (17, _) (.head _)) (hm.slots (19, _) (.tail _ (.head _))) e_138 rfl)) (Ct.met_of rfl rfl) (.cons (c := ⟨some 21, .c (.ex (.int .u8 v_137)), [(20, .ref [.ex (.int .u8 v_137)]), (16, .c (.ex (.bool (decide (x5_0_2 > (0 : Int))))))], [], []⟩) (fun t hm => One.step rfl (.on rfl rfl (hm.slots (16, _) (.tail _ (.head _))) c_136) (OpT.loadRef rfl (dlt rfl (by decide)) Tryd.underlying5 rfl (hm.slots (20, _) (.head _)) rfl rfl)) (Ct.met_of rfl rfl) (.cons (c := ⟨some 22, .c (.ex (.int .u8 (IntKind.u8.wrap (v_137 + (1 : Int))))), [(21, .c (.ex (.int .u8 v_137))), (16, .c (.ex (.bool (decide (x5_0_2 > (0 : Int))))))], [], []⟩) (fun t hm => One.step rfl (.on rfl rfl (hm.slots (16, _) (.tail _ (.head _))) c_136) (OpT.int2 rfl rfl (dlt rfl (by decide)) (hm.slots (21, _) (.head _)) rfl rfl)) (Ct.met_of rfl rfl) (.cons (c := ⟨some 23, .c (.sl false 1 (x4_0_1.map (cI .u8))), [(4, .c (.sl false 1 (x4_0_1.map (cI .u8)))), (16, .c (.ex (.bool (decide (x5_0_2 > (0 : Int))))))], [], []⟩) (fun t hm => One.step rfl (.on rfl rfl (hm.slots (16, _) (.tail _ (.head _))) c_136) (OpT.move rfl (dlt rfl (by decide)) (hm.slots (4, _) (.head _)) rfl)) (Ct.met_of rfl rfl) (.cons (c := ⟨some 24, .c (.ex (.int .i64 x5_0_2)), [(5, .c (.ex (.int .i64 x5_0_2))), (16, .c (.ex (.bool (decide (x5_0_2 > (0 : Int))))))], [], []⟩) (fun t hm => One.step rfl (.on rfl rfl (hm.slots (16, _) (.tail _ (.head _))) c_136) (OpT.move rfl (dlt rfl (by decide)) (hm.slots (5, _) (.head _)) rfl)) (Ct.met_of rfl rfl) (.cons (c := ⟨some 25, .ref [.ex (.int .u8 v_139)], [(23, .c (.sl false 1 (x4_0_1.map (cI .u8)))), (24, .c (.ex (.int .i64 x5_0_2))), (16, .c (.ex (.bool (decide (x5_0_2 > (0 : Int))))))], [], []⟩) (fun t hm => One.step rfl (.on rfl rfl (hm.slots (16, _) (.tail _ (.tail _ (.head _)))) c_136) (OpT.indexSlM (xs := x4_0_1) (f := (cI .u8)) (v := v_139) rfl (dlt rfl (by decide)) Tryd.underlying26 i5 (hm.slots (23, _) (.head _)) (hm.slots (24, _) (.tail _ (.head _))) e_140 rfl)) (Ct.met_of rfl rfl) (.cons (c := ⟨some 26, .c (.ex (.int .u8 v_139)), [(25, .ref [.ex (.int .u8 v_139)]), (16, .c (.ex (.bool (decide (x5_0_2 > (0 : Int))))))], [], []⟩) (fun t hm => One.step rfl (.on rfl rfl (hm.slots (16, _) (.tail _ (.head _))) c_136) (OpT.loadRef rfl (dlt rfl (by decide)) Tryd.underlying5 rfl (hm.slots (25, _) (.head _)) rfl rfl)) (Ct.met_of rfl rfl) (.cons (c := ⟨some 27, .c (.ex (.bool ((IntKind.u8.wrap (v_137 + (1 : Int))) == v_139))), [(22, .c (.ex (.int .u8 (IntKind.u8.wrap (v_137 + (1 : Int)))))), (26, .c (.ex (.int .u8 v_139))), (16, .c (.ex (.bool (decide (x5_0_2 > (0 : Int))))))], [], []⟩) (fun t hm => One.step rfl (.on rfl rfl (hm.slots (16, _) (.tail _ (.tail _ (.head _)))) c_136) (OpT.int2 rfl rfl (dlt rfl (by decide)) (hm.slots (22, _) (.head _)) (hm.slots (26, _) (.tail _ (.head _))) rfl)) (Ct.met_of rfl rfl) (.cons (c := ⟨some 28, .c (.ex (.bool ((IntKind.u8.wrap (v_137 + (1 : Int))) == v_139))), [(16, .c (.ex (.bool (decide (x5_0_2 > (0 : Int)))))), (27, .c (.ex (.bool ((IntKind.u8.wrap (v_137 + (1 : Int))) == v_139))))], [], []⟩) (fun t hm => One.step rfl (.free rfl) (OpT.pickT rfl (dlt rfl (by decide)) (hm.slots (16, _) (.head _)) c_136 (hm.slots (27, _) (.tail _ (.head _))) rfl)) (Ct.met_of rfl rfl) (.nil _ _)))))))))))))))) rfl (by kernel_rfl) (by kernel_rfl) (by kernel_rfl) (.cons rfl (.cons rfl (.cons rfl (.cons rfl (.cons rfl (.cons rfl (.cons rfl (.cons rfl (.cons rfl (.cons rfl (.cons rfl (.cons rfl (.cons rfl (.cons rfl (.cons rfl (.nil _)))))))))))))))) rfl (fun u hu => (thenS_normal (T.by_turn hu ?_)))
        rcases bif_some h with ⟨c_141, h⟩ | ⟨c_141, h⟩
        · refine T.condT rfl c_141 ?_
          obtain ⟨v_143, e_144, h⟩ := bind_some h
          refine T.draw (s1 := ⟨[(3, .c (.ex w3_0)), (4, .c (.sl false 1 (x4_0_1.map (cI .u8)))), (5, .c (.ex (.int .i64 x5_0_2))), (17, .c (.sl false 1 (x4_0_1.map (cI .u8)))), (18, .c (.ex (.int .i64 x5_0_2))), (19, .c (.ex (.int .i64 (IntKind.i64.wrap (x5_0_2 - (1 : Int)))))), (20, .ref [.ex (.int .u8 v_137)]), (21, .c (.ex (.int .u8 v_137))), (22, .c (.ex (.int .u8 (IntKind.u8.wrap (v_137 + (1 : Int)))))), (23, .c (.sl false 1 (x4_0_1.map (cI .u8)))), (24, .c (.ex (.int .i64 x5_0_2))), (25, .ref [.ex (.int .u8 v_139)]), (26, .c (.ex (.int .u8 v_139))), (27, .c (.ex (.bool ((IntKind.u8.wrap (v_137 + (1 : Int))) == v_139))))], [.arrX w3_0 34 2 0 ((List.set y3_0_0 (Int.toNat (IntKind.i64.wrap ((y3_0_0.length : Int) - (1 : Int)))) (Arr2.set v_143 1 v_139)).map (Arr2.dc .u8))]⟩) (ms := [0, 0, 2, 6, 0, 0, 48, 112, 15, 511, 1023]) TrydMixed (.cons (c := ⟨some 29, .c (.ex w3_0), [(3, .c (.ex w3_0))], [], []⟩) (fun t hm => One.step rfl (.free rfl) (OpT.move rfl (dlt rfl (by decide)) (hm.slots (3, _) (.head _)) rfl)) (Ct.met_of rfl rfl) (.cons (c := ⟨some 30, .c (.ex w3_0), [(3, .c (.ex w3_0))], [], []⟩) (fun t hm => One.step rfl (.free rfl) (OpT.move rfl (dlt rfl (by decide)) (hm.slots (3, _) (.head _)) rfl)) (Ct.met_of rfl rfl) (.cons (c := ⟨some 31, .c (.ex (.int .i64 (y3_0_0.length : Int))), [(30, .c (.ex w3_0))], [(0, .arrX w3_0 34 2 0 (y3_0_0.map (Arr2.dc .u8)))], []⟩) (fun t hm => One.step rfl (.free rfl) (OpT.lenXM (i := 0) (xs := y3_0_0) (f := (Arr2.dc .u8)) rfl (dlt rfl (by decide)) Tryd.underlying29 (hm.slots (30, _) (.head _)) (hm.objs (0, _) (.head _)) rfl)) (Ct.met_of rfl rfl) (.cons (c := ⟨some 32, .c (.ex (.int .i64 (IntKind.i64.wrap ((y3_0_0.length : Int) - (1 : Int))))), [(31, .c (.ex (.int .i64 (y3_0_0.length : Int))))], [], []⟩) (fun t hm => One.step rfl (.free rfl) (OpT.int2 rfl rfl (dlt rfl (by decide)) (hm.slots (31, _) (.head _)) rfl rfl)) (Ct.met_of rfl rfl) (.cons (c := ⟨some 33, .c (.sl false 1 (x4_0_1.map (cI .u8))), [(4, .c (.sl false 1 (x4_0_1.map (cI .u8))))], [], []⟩) (fun t hm => One.step rfl (.free rfl) (OpT.move rfl (dlt rfl (by decide)) (hm.slots (4, _) (.head _)) rfl)) (Ct.met_of rfl rfl) (.cons (c := ⟨some 34, .c (.ex (.int .i64 x5_0_2)), [(5, .c (.ex (.int .i64 x5_0_2)))], [], []⟩) (fun t hm => One.step rfl (.free rfl) (OpT.move rfl (dlt rfl (by decide)) (hm.slots (5, _) (.head _)) rfl)) (Ct.met_of rfl rfl) (.cons (c := ⟨some 35, .ref [.ex (.int .u8 v_139)], [(33, .c (.sl false 1 (x4_0_1.map (cI .u8)))), (34, .c (.ex (.int .i64 x5_0_2)))], [], []⟩) (fun t hm => One.step rfl (.free rfl) (OpT.indexSlM (xs := x4_0_1) (f := (cI .u8)) (v := v_139) rfl (dlt rfl (by decide)) Tryd.underlying26 i5 (hm.slots (33, _) (.head _)) (hm.slots (34, _) (.tail _ (.head _))) e_140 rfl)) (Ct.met_of rfl rfl) (.cons (c := ⟨some 36, .c (.ex (.int .u8 v_139)), [(35, .ref [.ex (.int .u8 v_139)])], [], []⟩) (fun t hm => One.step rfl (.free rfl) (OpT.loadRef rfl (dlt rfl (by decide)) Tryd.underlying5 rfl (hm.slots (35, _) (.head _)) rfl rfl)) (Ct.met_of rfl rfl) (.cons (c := ⟨some 37, .el w3_0 2 (Int.toNat (IntKind.i64.wrap ((y3_0_0.length : Int) - (1 : Int)))) 0, [(29, .c (.ex w3_0)), (32, .c (.ex (.int .i64 (IntKind.i64.wrap ((y3_0_0.length : Int) - (1 : Int))))))], [(0, .arrX w3_0 34 2 0 (y3_0_0.map (Arr2.dc .u8)))], []⟩) (fun t hm => One.step rfl (.free rfl) (OpT.indexXM (n := 0) (xs := y3_0_0) (f := (Arr2.dc .u8)) (old := v_143) rfl (dlt rfl (by decide)) Tryd.underlying29 i34 (hm.slots (29, _) (.head _)) (hm.objs (0, _) (.head _)) (hm.slots (32, _) (.tail _ (.head _))) e_144 rfl)) (Ct.met_of rfl rfl) (.cons (c := ⟨some 38, .el w3_0 2 (Int.toNat (IntKind.i64.wrap ((y3_0_0.length : Int) - (1 : Int)))) 1, [(37, .el w3_0 2 (Int.toNat (IntKind.i64.wrap ((y3_0_0.length : Int) - (1 : Int)))) 0)], [], []⟩) (fun t hm => One.step rfl (.free rfl) (OpT.indexEl rfl (dlt rfl (by decide)) Tryd.underlying34 i5 (hm.slots (37, _) (.head _)) rfl (by decide) (by decide) rfl)) (Ct.met_of rfl rfl) (.cons (c := ⟨none, .any, [(38, .el w3_0 2 (Int.toNat (IntKind.i64.wrap ((y3_0_0.length : Int) - (1 : Int)))) 1), (36, .c (.ex (.int .u8 v_139)))], [(0, .arrX w3_0 34 2 0 (y3_0_0.map (Arr2.dc .u8)))], [(0, .arrX w3_0 34 2 0 ((List.set y3_0_0 (Int.toNat (IntKind.i64.wrap ((y3_0_0.length : Int) - (1 : Int)))) (Arr2.set v_143 1 v_139)).map (Arr2.dc .u8)))]⟩) (fun t hm => One.step rfl (.free rfl) (OpT.storeXM (i := 0) (xs := y3_0_0) (f := (Arr2.dc .u8)) (old := v_143) (new := (Arr2.set v_143 1 v_139)) rfl rfl i5 (hm.slots (38, _) (.head _)) (hm.slots (36, _) (.tail _ (.head _))) (hm.objs (0, _) (.head _)) (geti_some e_144).2 (Nat.zero_le _) (Nat.le_of_ble_eq_true rfl) rfl rfl)) (Ct.met_of rfl rfl) (.nil _ _)))))))))))) rfl (by kernel_rfl) (by kernel_rfl) (by kernel_rfl) (.cons rfl (.cons rfl (.cons rfl (.cons rfl (.cons rfl (.cons rfl (.cons rfl (.cons rfl (.cons rfl (.cons rfl (.cons rfl (.cons rfl (.cons rfl (.cons rfl (.nil _))))))))))))))) rfl (fun u hu => (inBlock_normal (thenS_normal (T.by_turn hu ?_))))
          refine T.regionL ?_
          refine TL'.step (.free rfl) (OpT.move rfl (dlt rfl (by decide)) rfl ?_)
          refine TL'.step (.free rfl) (OpT.int2 rfl rfl (dlt rfl (by decide)) rfl rfl ?_)
          refine TL'.step (.free rfl) (OpT.assign rfl (dlt rfl (by decide)) rfl ?_)
          refine TL'.nil (thenS_normal ?_)
          refine TL.by_turn ?_ (ih x4_0_1 (IntKind.i64.wrap (x5_0_2 + (1 : Int))) (List.set y3_0_0 (Int.toNat (IntKind.i64.wrap ((y3_0_0.length : Int) - (1 : Int)))) (Arr2.set v_143 1 v_139)) w3_0 h)
          exact Turn.re (.cons rfl (.cons rfl (.cons rfl (.nil _)))) (.cons 0 rfl (.nil _))
        · refine T.condF rfl c_141 ?_
          refine T.by_turn ?_ (raddleref01_Spans_j1_T K (raddleref01_Spans_l0 K k) ih x4_0_1 x5_0_2 y3_0_0 w3_0 h)
          exact Turn.re (.cons rfl (.cons rfl (.cons rfl (.nil _)))) (.cons 0 rfl (.nil _))
      · refine T.draw (s1 := ⟨[(3, .c (.ex w3_0)), (4, .c (.sl false 1 (x4_0_1.map (cI .u8)))), (5, .c (.ex (.int .i64 x5_0_2))), (17, .tup []), (18, .tup []), (19, .tup []), (20, .tup []), (21, .tup []), (22, .tup []), (23, .tup []), (24, .tup []), (25, .tup []), (26, .tup []), (27, .tup []), (28, .c (.ex (.bool false)))], [.arrX w3_0 34 2 0 (y3_0_0.map (Arr2.dc .u8))]⟩) (ms := [0, 1, 3, 7, 7, 23, 63, 127, 255, 7, 7, 1543, 3591, 8191, 16383]) TrydMixed (.cons (c := ⟨some 14, .c (.ex (.int .i64 x5_0_2)), [(5, .c (.ex (.int .i64 x5_0_2)))], [], []⟩) (fun t hm => One.step rfl (.free rfl) (OpT.move rfl (dlt rfl (by decide)) (hm.slots (5, _) (.head _)) rfl)) (Ct.met_of rfl rfl) (.cons (c := ⟨some 15, .c (.ex (.bool (decide (x5_0_2 > (0 : Int))))), [(14, .c (.ex (.int .i64 x5_0_2)))], [], []⟩) (fun t hm => One.step rfl (.free rfl) (OpT.int2 rfl rfl (dlt rfl (by decide)) (hm.slots (14, _) (.head _)) rfl rfl)) (Ct.met_of rfl rfl) (.cons (c := ⟨some 16, .c (.ex (.bool (decide (x5_0_2 > (0 : Int))))), [(15, .c (.ex (.bool (decide (x5_0_2 > (0 : Int))))))], [], []⟩) (fun t hm => One.step rfl (.free rfl) (OpT.move rfl (dlt rfl (by decide)) (hm.slots (15, _) (.head _)) rfl)) (Ct.met_of rfl rfl) (.cons (c := ⟨some 17, .tup [], [(16, .c (.ex (.bool (decide (x5_0_2 > (0 : Int))))))], [], []⟩) (fun t hm => One.passU rfl (.off _ _ _ _ rfl rfl (hm.slots (16, _) (.head _)) c_136) (dlt rfl (by decide)) rfl) (Ct.met_of rfl rfl) (.cons (c := ⟨some 18, .tup [], [(16, .c (.ex (.bool (decide (x5_0_2 > (0 : Int))))))], [], []⟩) (fun t hm => One.passU rfl (.off _ _ _ _ rfl rfl (hm.slots (16, _) (.head _)) c_136) (dlt rfl (by decide)) rfl) (Ct.met_of rfl rfl) (.cons (c := ⟨some 19, .tup [], [(16, .c (.ex (.bool (decide (x5_0_2 > (0 : Int))))))], [], []⟩) (fun t hm => One.passU rfl (.off _ _ _ _ rfl rfl (hm.slots (16, _) (.head _)) c_136) (dlt rfl (by decide)) rfl) (Ct.met_of rfl rfl) (.cons (c := ⟨some 20, .tup [], [(16, .c (.ex (.bool (decide (x5_0_2 > (0 : Int))))))], [], []⟩) (fun t hm => One.passU rfl (.off _ _ _ _ rfl rfl (hm.slots (16, _) (.head _)) c_136) (dlt rfl (by decide)) rfl) (Ct.met_of rfl rfl) (.cons (c := ⟨some 21, .tup [], [(16, .c (.ex (.bool (decide (x5_0_2 > (0 : Int))))))], [], []⟩) (fun t hm => One.passU rfl (.off _ _ _ _ rfl rfl (hm.slots (16, _) (.head _)) c_136) (dlt rfl (by decide)) rfl) (Ct.met_of rfl rfl) (.cons (c := ⟨some 22, .tup [], [(16, .c (.ex (.bool (decide (x5_0_2 > (0 : Int))))))], [], []⟩) (fun t hm => One.passU rfl (.off _ _ _ _ rfl rfl (hm.slots (16, _) (.head _)) c_136) (dlt rfl (by decide)) rfl) (Ct.met_of rfl rfl) (.cons (c := ⟨some 23, .tup [], [(16, .c (.ex (.bool (decide (x5_0_2 > (0 : Int))))))], [], []⟩) (fun t hm => One.passU rfl (.off _ _ _ _ rfl rfl (hm.slots (16, _) (.head _)) c_136) (dlt rfl (by decide)) rfl) (Ct.met_of rfl rfl) (.cons (c := ⟨some 24, .tup [], [(16, .c (.ex (.bool (decide (x5_0_2 > (0 : Int))))))], [], []⟩) (fun t hm => One.passU rfl (.off _ _ _ _ rfl rfl (hm.slots (16, _) (.head _)) c_136) (dlt rfl (by decide)) rfl) (Ct.met_of rfl rfl) (.cons (c := ⟨some 25, .tup [], [(16, .c (.ex (.bool (decide (x5_0_2 > (0 : Int))))))], [], []⟩) (fun t hm => One.passU rfl (.off _ _ _ _ rfl rfl (hm.slots (16, _) (.head _)) c_136) (dlt rfl (by decide)) rfl) (Ct.met_of rfl rfl) (.cons (c := ⟨some 26, .tup [], [(16, .c (.ex (.bool (decide (x5_0_2 > (0 : Int))))))], [], []⟩) (fun t hm => One.passU rfl (.off _ _ _ _ rfl rfl (hm.slots (16, _) (.head _)) c_136) (dlt rfl (by decide)) rfl) (Ct.met_of rfl rfl) (.cons (c := ⟨some 27, .tup [], [(16, .c (.ex (.bool (decide (x5_0_2 > (0 : Int))))))], [], []⟩) (fun t hm => One.passU rfl (.off _ _ _ _ rfl rfl (hm.slots (16, _) (.head _)) c_136) (dlt rfl (by decide)) rfl) (Ct.met_of rfl rfl) (.cons (c := ⟨some 28, .c (.ex (.bool false)), [(16, .c (.ex (.bool (decide (x5_0_2 > (0 : Int))))))], [], []⟩) (fun t hm => One.step rfl (.free rfl) (OpT.pickF rfl (dlt rfl (by decide)) (hm.slots (16, _) (.head _)) c_136 rfl rfl)) (Ct.met_of rfl rfl) (.nil _ _)))))))))))))))) rfl (by kernel_rfl) (by kernel_rfl) (by kernel_rfl) (.cons rfl (.cons rfl (.cons rfl (.cons rfl (.cons rfl (.cons rfl (.cons rfl (.cons rfl (.cons rfl (.cons rfl (.cons rfl (.cons rfl (.cons rfl (.cons rfl (.cons rfl (.nil _)))))))))))))))) rfl (fun u hu => (thenS_normal (T.by_turn hu ?_)))
        refine T.condF rfl rfl ?_
        refine T.by_turn ?_ (raddleref01_Spans_j1_T K (raddleref01_Spans_l0 K k) ih x4_0_1 x5_0_2 y3_0_0 w3_0 h)
        exact Turn.re (.cons rfl (.cons rfl (.cons rfl (.nil _)))) (.cons 0 rfl (.nil _))
    · refine T.condF rfl c_134 ?_
      refine T.exit (thenS_exit (thenS_exit (inBlock_exit (thenS_normal ?_))))
      refine T.seq ?_
      refine T.regionL ?_
      refine TL'.step (.free rfl) (OpT.move rfl (dlt rfl (by decide)) rfl ?_)
      refine TL'.step (.free rfl) (OpT.assign rfl (dlt rfl (by decide)) rfl ?_)
      refine TL'.nil (thenS_normal ?_)
      refine T.ret ?_
      refine Fin.turn (Turn.sealX 0 rfl) ?_
      refine Fin.turn (Turn.view 2 0 rfl rfl) ?_
      exact Fin.done (.cons _ _ _ _ (.tmp 2 _ rfl) .nil) (by cases h; exact ⟨rfl, rfl⟩)

theorem raddleref01_Spans_T {K : Nat} {x0 : Arr4} {r : List Arr2} (h : raddleref01_Spans K x0 = some r) : CallR Tryd.prog 15 [.agg (Arr4.dc .u64 x0)] [] (.c (.sl false 2 (r.map (Arr2.dc .u8)))) := by
  refine CallT.intro Tryd.func15 rfl (Nat.le_of_ble_eq_true rfl) ?_
  show T Tryd.prog 52 (Code.at [] (codeOf Tryd.f15)) ⟨paramSlots 0 [.agg (Arr4.dc .u64 x0)], []⟩ (raddleref01_Spans_q r)
  unfold raddleref01_Spans at h
  refine T.seq ?_
  refine T.regionL ?_
  refine TL'.step (.free rfl) (OpT.boxAgg rfl (dlt rfl (by decide)) rfl (fun b_131 => ?_))
  refine TL'.step (.free rfl) (OpT.assign rfl (dlt rfl (by decide)) rfl ?_)
  refine TL'.nil (thenS_normal ?_)
  refine T.seq ?_
  refine T.regionL ?_
  refine TL'.step (.free rfl) (OpT.assign rfl (dlt rfl (by decide)) rfl ?_)
  refine TL'.nil (thenS_normal ?_)
  refine T.seq ?_
  refine T.regionL ?_
  refine TL'.step (.free rfl) (OpT.loadBoxAgg (i := 0) (l := (Arr4.dc .u64 x0)) rfl (dlt rfl (by decide)) Tryd.underlying24 rfl i24 rfl rfl rfl rfl ?_)
  obtain ⟨v_132, e_133, h⟩ := bind_some h
  refine TL'.step (.free rfl) (OpT.callP rfl (dlt rfl (by decide)) Tryd.func12 rfl rfl rfl (CallR.nil (raddleref01_List_T e_133)) ?_)
  refine TL'.step (.free rfl) (OpT.assign rfl (dlt rfl (by decide)) rfl ?_)
  refine TL'.nil (thenS_normal ?_)
  refine T.seq ?_
  refine T.seq ?_
  refine T.regionL ?_
  refine TL'.step (.free rfl) (OpT.assign rfl (dlt rfl (by decide)) rfl ?_)
  refine TL'.nil (thenS_normal ?_)
  refine T.block ?_
  refine T.loop ?_
  refine TL.by_turn (Turn.nilX 34 2) ?_
  refine TL.by_turn ?_ (raddleref01_Spans_l0_T K K v_132 (0 : Int) [] (.slice none 0 0) h)
  exact Turn.re (.cons rfl (.cons rfl (.cons rfl (.nil _)))) (.cons 0 rfl (.nil _))

abbrev raddleref01_with_q (r : Arr4) : Exit → St → Prop := retS Tryd.prog Tryd.f33 (fun y t => y = (.agg (Arr4.dc .u64 r)) ∧ t = [])

theorem raddleref01_with_T {K : Nat} {x0 : Arr4} {x1 : Int} {r : Arr4} (h : raddleref01_with K x0 x1 = some r) : CallR Tryd.prog 33 [.agg (Arr4.dc .u64 x0), .c (.ex (.int .u8 x1))] [] (.agg (Arr4.dc .u64 r)) := by
  refine CallT.intro Tryd.func33 rfl (Nat.le_of_ble_eq_true rfl) ?_
  show T Tryd.prog 21 (Code.at [] (codeOf Tryd.f33)) ⟨paramSlots 0 [.agg (Arr4.dc .u64 x0), .c (.ex (.int .u8 x1))], []⟩ (raddleref01_with_q r)
  unfold raddleref01_with at h
  refine T.seq ?_
  refine T.regionL ?_
  refine TL'.step (.free rfl) (OpT.boxAgg rfl (dlt rfl (by decide)) rfl (fun b_29 => ?_))
  refine TL'.step (.free rfl) (OpT.alloc' rfl (dlt rfl (by decide)) i24 rfl (fun b_30 => ?_))
  refine TL'.nil (thenS_normal ?_)
  refine T.seq ?_
  refine T.seq ?_
  refine T.regionL ?_
  refine TL'.step (.free rfl) (OpT.loadBoxAgg (i := 1) (l := (Arr4.dc .u64 x0)) rfl (dlt rfl (by decide)) Tryd.underlying24 rfl i24 rfl rfl rfl rfl ?_)
  refine TL'.step (.free rfl) (OpT.move rfl (dlt rfl (by decide)) rfl ?_)
  obtain ⟨v_31, e_32, h⟩ := bind_some h
  refine TL'.step (.free rfl) (OpT.callP rfl (dlt rfl (by decide)) Tryd.func31 rfl rfl rfl (CallR.nil (raddleref01_Has_T e_32)) ?_)
  refine TL'.step (.free rfl) (OpT.not rfl (dlt rfl (by decide)) rfl ?_)
  refine TL'.nil (thenS_normal ?_)
  rcases bif_some h with ⟨c_33, h⟩ | ⟨c_33, h⟩
  · refine T.condT rfl c_33 ?_
    refine T.regionL ?_
    refine TL'.step (.free rfl) (OpT.move rfl (dlt rfl (by decide)) rfl ?_)
    refine TL'.step (.free rfl) (OpT.quo rfl (dlt rfl (by decide)) rfl rfl (by decide) ?_)
    refine TL'.step (.free rfl) (OpT.move rfl (dlt rfl (by decide)) rfl ?_)
    refine TL'.step (.free rfl) (OpT.quo rfl (dlt rfl (by decide)) rfl rfl (by decide) ?_)
    obtain ⟨g_34, h⟩ := ck_some h
    refine TL'.step (.free rfl) (OpT.indexPtr rfl (dlt rfl (by decide)) Tryd.underlying24 i22 rfl rfl g_34.1 g_34.2 ?_)
    refine TL'.step (.free rfl) (OpT.loadBox (i := 1) rfl (dlt rfl (by decide)) Tryd.underlying22 rfl rfl rfl (Arr4.oc_get (k := .u64) (a := x0) (pre := []) (post := []) g_34.1 g_34.2) ?_)
    refine TL'.step (.free rfl) (OpT.move rfl (dlt rfl (by decide)) rfl ?_)
    refine TL'.step (.free rfl) (OpT.rem rfl (dlt rfl (by decide)) rfl rfl (by decide) ?_)
    obtain ⟨g_35, h⟩ := ck_some h
    refine TL'.step (.free rfl) (OpT.shl rfl (dlt rfl (by decide)) rfl rfl g_35 ?_)
    refine TL'.step (.free rfl) (OpT.int2 rfl rfl (dlt rfl (by decide)) rfl rfl ?_)
    refine TL'.step (.free rfl) (OpT.indexPtr rfl (dlt rfl (by decide)) Tryd.underlying24 i22 rfl rfl g_34.1 g_34.2 ?_)
    refine TL'.step (.free rfl) (OpT.storeTo (i := 1) (cells' := (Arr4.oc .u64 (Arr4.set x0 (IntKind.u8.wrap (Int.tdiv x1 (64 : Int))) (IntKind.u64.wrap ((Arr4.get x0 (IntKind.u8.wrap (Int.tdiv x1 (64 : Int)))) + (IntKind.u64.wrap ((1 : Int) * 2 ^ min (Int.toNat (Int.tmod x1 (64 : Int))) IntKind.u64.bits))))))) rfl rfl i22 rfl rfl rfl (Arr4.oc_lt (k := .u64) (a := x0) (pre := []) (post := []) g_34.1 g_34.2) (Arr4.oc_set (k := .u64) (a := x0) (pre := []) (post := []) g_34.1 g_34.2) ?_)
    refine TL'.nil (thenS_normal ?_)
    refine T.seq ?_
    refine T.regionL ?_
    refine TL'.step (.free rfl) (OpT.loadBoxAgg (i := 1) (l := (Arr4.dc .u64 (Arr4.set x0 (IntKind.u8.wrap (Int.tdiv x1 (64 : Int))) (IntKind.u64.wrap ((Arr4.get x0 (IntKind.u8.wrap (Int.tdiv x1 (64 : Int)))) + (IntKind.u64.wrap ((1 : Int) * 2 ^ min (Int.toNat (Int.tmod x1 (64 : Int))) IntKind.u64.bits))))))) rfl (dlt rfl (by decide)) Tryd.underlying24 rfl i24 rfl rfl rfl rfl ?_)
    refine TL'.step (.free rfl) (OpT.storeAggTo (i := 0) (cells' := (Arr4.oc .u64 (Arr4.set x0 (IntKind.u8.wrap (Int.tdiv x1 (64 : Int))) (IntKind.u64.wrap ((Arr4.get x0 (IntKind.u8.wrap (Int.tdiv x1 (64 : Int)))) + (IntKind.u64.wrap ((1 : Int) * 2 ^ min (Int.toNat (Int.tmod x1 (64 : Int))) IntKind.u64.bits))))))) rfl rfl i24 rfl rfl rfl rfl (Nat.le_of_ble_eq_true rfl) rfl ?_)
    refine TL'.nil (thenS_normal ?_)
    refine T.ret ?_
    exact Fin.done (.cons _ _ _ _ (.cellAgg 4 24 _ 0 0 24 _ (Arr4.dc .u64 (Arr4.set x0 (IntKind.u8.wrap (Int.tdiv x1 (64 : Int))) (IntKind.u64.wrap ((Arr4.get x0 (IntKind.u8.wrap (Int.tdiv x1 (64 : Int)))) + (IntKind.u64.wrap ((1 : Int) * 2 ^ min (Int.toNat (Int.tmod x1 (64 : Int))) IntKind.u64.bits)))))) _ _ 4 _ rfl rfl rfl rfl Tryd.underlying24 rfl i24) .nil) (by cases h; exact ⟨rfl, rfl⟩)
  · refine T.condF rfl c_33 ?_
    refine T.skip (thenS_normal ?_)
    refine T.seq ?_
    refine T.regionL ?_
    refine TL'.step (.free rfl) (OpT.loadBoxAgg (i := 1) (l := (Arr4.dc .u64 x0)) rfl (dlt rfl (by decide)) Tryd.underlying24 rfl i24 rfl rfl rfl rfl ?_)
    refine TL'.step (.free rfl) (OpT.storeAggTo (i := 0) (cells' := (Arr4.oc .u64 x0)) rfl rfl i24 rfl rfl rfl rfl (Nat.le_of_ble_eq_true rfl) rfl ?_)
    refine TL'.nil (thenS_normal ?_)
    refine T.ret ?_
    exact Fin.done (.cons _ _ _ _ (.cellAgg 4 24 _ 0 0 24 _ (Arr4.dc .u64 x0) _ _ 4 _ rfl rfl rfl rfl Tryd.underlying24 rfl i24) .nil) (by cases h; exact ⟨rfl, rfl⟩)

abbrev raddleref01_Fold_q (r : Arr4) : Exit → St → Prop := retS Tryd.prog Tryd.f17 (fun y t => y = (.agg (Arr4.dc .u64 r)) ∧ t = [])

abbrev raddleref01_Fold_qs111 (r : Arr4) : Exit → St → Prop := thenS (fun s' => T Tryd.prog 26 (Code.at [1, 1, 1] (codeOf Tryd.f17)) s' ((raddleref01_Fold_q r))) ((raddleref01_Fold_q r))

abbrev raddleref01_Fold_qb0x111 (r : Arr4) : Exit → St → Prop := inBlockS 0 ((raddleref01_Fold_qs111 r))

abbrev raddleref01_Fold_ql11010 (r : Arr4) : Exit → St → Prop := thenS (fun s' => TL Tryd.prog 26 (Code.at [1, 1, 0, 1, 0, 0] (codeOf Tryd.f17)) s' ((raddleref01_Fold_qb0x111 r))) ((raddleref01_Fold_qb0x111 r))

abbrev raddleref01_Fold_qs11010011 (r : Arr4) : Exit → St → Prop := thenS (fun s' => T Tryd.prog 26 (Code.at [1, 1, 0, 1, 0, 0, 1, 1] (codeOf Tryd.f17)) s' ((raddleref01_Fold_ql11010 r))) ((raddleref01_Fold_ql11010 r))

abbrev raddleref01_Fold_qb1_0x11010011 (r : Arr4) : Exit → St → Prop := inBlockS 1 ((raddleref01_Fold_qs11010011 r))

theorem raddleref01_Fold_j1_T {r : Arr4} (K : Nat) (go0 : Int → Arr4 → Arr4 → Arr4 → Option Arr4) (hgo0 : ∀ (x4_0_3 : Int) (x0 : Arr4) (y2_0_1 : Arr4) (y3_0_2 : Arr4) (b1_0 : Nat) (b2_0 : Nat) (b3_0 : Nat), go0 x4_0_3 x0 y2_0_1 y3_0_2 = some r → TL Tryd.prog 26 (Code.at [1, 1, 0, 1, 0, 0] (codeOf Tryd.f17)) ⟨[(1, .c (.ex (.pointer (some ⟨b1_0, 0, none⟩)))), (2, .c (.ex (.pointer (some ⟨b2_0, 0, none⟩)))), (3, .c (.ex (.pointer (some ⟨b3_0, 0, none⟩)))), (4, .c (.ex (.int .u8 x4_0_3)))], [.box b1_0 24 (Arr4.oc .u64 x0), .box b2_0 24 (Arr4.oc .u64 y2_0_1), .box b3_0 24 (Arr4.oc .u64 y3_0_2)]⟩ (raddleref01_Fold_qb0x111 r)) (x4_1_3 : Int) (x0 : Arr4) (y2_0_1 : Arr4) (y3_1_2 : Arr4) (b1_1 : Nat) (b2_1 : Nat) (b3_1 : Nat) (h : raddleref01_Fold_j1 K go0 x4_1_3 x0 y2_0_1 y3_1_2 = some r) : T Tryd.prog 26 (Code.at [1, 1, 0, 1, 0, 0, 1, 0, 0, 1, 0] (codeOf Tryd.f17)) ⟨[(1, .c (.ex (.pointer (some ⟨b1_1, 0, none⟩)))), (2, .c (.ex (.pointer (some ⟨b2_1, 0, none⟩)))), (3, .c (.ex (.pointer (some ⟨b3_1, 0, none⟩)))), (4, .c (.ex (.int .u8 x4_1_3)))], [.box b1_1 24 (Arr4.oc .u64 x0), .box b2_1 24 (Arr4.oc .u64 y2_0_1), .box b3_1 24 (Arr4.oc .u64 y3_1_2)]⟩ (raddleref01_Fold_qb1_0x11010011 r) := by
  unfold raddleref01_Fold_j1 at h
  refine T.regionL ?_
  refine TL'.step (.free rfl) (OpT.loadBoxAgg (i := 2) (l := (Arr4.dc .u64 y3_1_2)) rfl (dlt rfl (by decide)) Tryd.underlying24 rfl i24 rfl rfl rfl rfl ?_)
  refine TL'.step (.free rfl) (OpT.move rfl (dlt rfl (by decide)) rfl ?_)
  obtain ⟨v_146, e_147, h⟩ := bind_some h
  refine TL'.step (.free rfl) (OpT.callP rfl (dlt rfl (by decide)) Tryd.func33 rfl rfl rfl (CallR.nil (raddleref01_with_T e_147)) ?_)
  refine TL'.step (.free rfl) (OpT.move rfl (dlt rfl (by decide)) rfl ?_)
  refine TL'.step (.free rfl) (OpT.int2 rfl rfl (dlt rfl (by decide)) rfl rfl ?_)
  obtain ⟨v_148, e_149, h⟩ := bind_some h
  refine TL'.step (.free rfl) (OpT.callP rfl (dlt rfl (by decide)) Tryd.func33 rfl rfl rfl (CallR.nil (raddleref01_with_T e_149)) ?_)
  refine TL'.step (.free rfl) (OpT.storeAggTo (i := 2) (cells' := (Arr4.oc .u64 v_148)) rfl rfl i24 rfl rfl rfl rfl (Nat.le_of_ble_eq_true rfl) rfl ?_)
  refine TL'.nil (inBlock_normal (thenS_normal ?_))
  refine T.regionL ?_
  refine TL'.step (.free rfl) (OpT.move rfl (dlt rfl (by decide)) rfl ?_)
  refine TL'.step (.free rfl) (OpT.int2 rfl rfl (dlt rfl (by decide)) rfl rfl ?_)
  refine TL'.step (.free rfl) (OpT.assign rfl (dlt rfl (by decide)) rfl ?_)
  refine TL'.nil (thenS_normal ?_)
  refine TL.by_turn ?_ (hgo0 (IntKind.u8.wrap (x4_1_3 + (1 : Int))) x0 y2_0_1 v_148 b1_1 b2_1 b3_1 h)
  exact Turn.re (.cons rfl (.cons rfl (.cons rfl (.cons rfl (.nil _))))) (.cons 0 rfl (.cons 0 rfl (.cons 0 rfl (.nil _))))

theorem raddleref01_Fold_l0_T {r : Arr4} (K : Nat) : ∀ (k : Nat), ∀ (x4_0_3 : Int) (x0 : Arr4) (y2_0_1 : Arr4) (y3_0_2 : Arr4) (b1_0 : Nat) (b2_0 : Nat) (b3_0 : Nat), raddleref01_Fold_l0 K k x4_0_3 x0 y2_0_1 y3_0_2 = some r → TL Tryd.prog 26 (Code.at [1, 1, 0, 1, 0, 0] (codeOf Tryd.f17)) ⟨[(1, .c (.ex (.pointer (some ⟨b1_0, 0, none⟩)))), (2, .c (.ex (.pointer (some ⟨b2_0, 0, none⟩)))), (3, .c (.ex (.pointer (some ⟨b3_0, 0, none⟩)))), (4, .c (.ex (.int .u8 x4_0_3)))], [.box b1_0 24 (Arr4.oc .u64 x0), .box b2_0 24 (Arr4.oc .u64 y2_0_1), .box b3_0 24 (Arr4.oc .u64 y3_0_2)]⟩ (raddleref01_Fold_qb0x111 r) := by
  intro k
  induction k with
  | zero =>
    intro x4_0_3 x0 y2_0_1 y3_0_2 b1_0 b2_0 b3_0 h
    cases (show (none : Option Arr4) = some r from h)
  | succ k ih =>
    intro x4_0_3 x0 y2_0_1 y3_0_2 b1_0 b2_0 b3_0 h
    rw [raddleref01_Fold_l0] at h
    refine TL.round ?_
    refine T.seq ?_
    refine T.seq ?_
    refine T.regionL ?_
    refine TL'.step (.free rfl) (OpT.move rfl (dlt rfl (by decide)) rfl ?_)
    refine TL'.step (.free rfl) (OpT.int2 rfl rfl (dlt rfl (by decide)) rfl rfl ?_)
    refine TL'.nil (thenS_normal ?_)
    rcases bif_some h with ⟨c_142, h⟩ | ⟨c_142, h⟩
    · refine T.condT rfl c_142 ?_
      refine T.skip (thenS_normal ?_)
      refine T.seq ?_
      refine T.block ?_
      refine T.seq ?_
      refine T.regionL ?_
      refine TL'.step (.free rfl) (OpT.loadBoxAgg (i := 0) (l := (Arr4.dc .u64 x0)) rfl (dlt rfl (by decide)) Tryd.underlying24 rfl i24 rfl rfl rfl rfl ?_)
      refine TL'.step (.free rfl) (OpT.move rfl (dlt rfl (by decide)) rfl ?_)
      obtain ⟨v_143, e_144, h⟩ := bind_some h
      refine TL'.step (.free rfl) (OpT.callP rfl (dlt rfl (by decide)) Tryd.func31 rfl rfl rfl (CallR.nil (raddleref01_Has_T e_144)) ?_)
      refine TL'.step (.free rfl) (OpT.move rfl (dlt rfl (by decide)) rfl ?_)
      rcases bif_some h with ⟨c_145, h⟩ | ⟨c_145, h⟩
      · refine TL'.passU (.off _ _ _ _ rfl rfl rfl c_145) (dlt rfl (by decide)) ?_
        refine TL'.passU (.off _ _ _ _ rfl rfl rfl c_145) (dlt rfl (by decide)) ?_
        refine TL'.passU (.off _ _ _ _ rfl rfl rfl c_145) (dlt rfl (by decide)) ?_
        refine TL'.passU (.off _ _ _ _ rfl rfl rfl c_145) (dlt rfl (by decide)) ?_
        refine TL'.step (.free rfl) (OpT.pickT rfl (dlt rfl (by decide)) rfl c_145 rfl ?_)
        refine TL'.nil (thenS_normal ?_)
        refine T.condT rfl rfl ?_
        refine T.by_turn ?_ (raddleref01_Fold_j1_T K (raddleref01_Fold_l0 K k) ih x4_0_3 x0 y2_0_1 y3_0_2 b1_0 b2_0 b3_0 h)
        exact Turn.re (.cons rfl (.cons rfl (.cons rfl (.cons rfl (.nil _))))) (.cons 0 rfl (.cons 0 rfl (.cons 0 rfl (.nil _))))
      · refine TL'.step (.on rfl rfl rfl c_145) (OpT.loadBoxAgg (i := 0) (l := (Arr4.dc .u64 x0)) rfl (dlt rfl (by decide)) Tryd.underlying24 rfl i24 rfl rfl rfl rfl ?_)
        refine TL'.step (.on rfl rfl rfl c_145) (OpT.move rfl (dlt rfl (by decide)) rfl ?_)
        refine TL'.step (.on rfl rfl rfl c_145) (OpT.int2 rfl rfl (dlt rfl (by decide)) rfl rfl ?_)
        obtain ⟨v_150, e_151, h⟩ := bind_some h
        refine TL'.step (.on rfl rfl rfl c_145) (OpT.callP rfl (dlt rfl (by decide)) Tryd.func31 rfl rfl rfl (CallR.nil (raddleref01_Has_T e_151)) ?_)
        refine TL'.step (.free rfl) (OpT.pickF rfl (dlt rfl (by decide)) rfl c_145 rfl ?_)
        refine TL'.nil (thenS_normal ?_)
        rcases bif_some h with ⟨c_152, h⟩ | ⟨c_152, h⟩
        · refine T.condT rfl c_152 ?_
          refine T.by_turn ?_ (raddleref01_Fold_j1_T K (raddleref01_Fold_l0 K k) ih x4_0_3 x0 y2_0_1 y3_0_2 b1_0 b2_0 b3_0 h)
          exact Turn.re (.cons rfl (.cons rfl (.cons rfl (.cons rfl (.nil _))))) (.cons 0 rfl (.cons 0 rfl (.cons 0 rfl (.nil _))))
        · refine T.condF rfl c_152 ?_
          refine T.skip (inBlock_normal (thenS_normal ?_))
          refine T.regionL ?_
          refine TL'.step (.free rfl) (OpT.move rfl (dlt rfl (by decide)) rfl ?_)
          refine TL'.step (.free rfl) (OpT.int2 rfl rfl (dlt rfl (by decide)) rfl rfl ?_)
          refine TL'.step (.free rfl) (OpT.assign rfl (dlt rfl (by decide)) rfl ?_)
          refine TL'.nil (thenS_normal ?_)
          refine TL.by_turn ?_ (ih (IntKind.u8.wrap (x4_0_3 + (1 : Int))) x0 y2_0_1 y3_0_2 b1_0 b2_0 b3_0 h)
          exact Turn.re (.cons rfl (.cons rfl (.cons rfl (.cons rfl (.nil _))))) (.cons 0 rfl (.cons 0 rfl (.cons 0 rfl (.nil _))))
    · refine T.condF rfl c_142 ?_
      refine T.exit (thenS_exit (thenS_exit (inBlock_exit (thenS_normal ?_))))
      refine T.seq ?_
      refine T.regionL ?_
      refine TL'.step (.free rfl) (OpT.loadBoxAgg (i := 2) (l := (Arr4.dc .u64 y3_0_2)) rfl (dlt rfl (by decide)) Tryd.underlying24 rfl i24 rfl rfl rfl rfl ?_)
      refine TL'.step (.free rfl) (OpT.storeAggTo (i := 1) (cells' := (Arr4.oc .u64 y3_0_2)) rfl rfl i24 rfl rfl rfl rfl (Nat.le_of_ble_eq_true rfl) rfl ?_)
      refine TL'.nil (thenS_normal ?_)
      refine T.ret ?_
      exact Fin.done (.cons _ _ _ _ (.cellAgg 2 24 _ 0 1 24 _ (Arr4.dc .u64 y3_0_2) _ _ 4 _ rfl rfl rfl rfl Tryd.underlying24 rfl i24) .nil) (by cases h; exact ⟨rfl, rfl⟩)

theorem raddleref01_Fold_T {K : Nat} {x0 : Arr4} {r : Arr4} (h : raddleref01_Fold K x0 = some r) : CallR Tryd.prog 17 [.agg (Arr4.dc .u64 x0)] [] (.agg (Arr4.dc .u64 r)) := by
  refine CallT.intro Tryd.func17 rfl (Nat.le_of_ble_eq_true rfl) ?_
  show T Tryd.prog 26 (Code.at [] (codeOf Tryd.f17)) ⟨paramSlots 0 [.agg (Arr4.dc .u64 x0)], []⟩ (raddleref01_Fold_q r)
  unfold raddleref01_Fold at h
  refine T.seq ?_
  refine T.regionL ?_
  refine TL'.step (.free rfl) (OpT.boxAgg rfl (dlt rfl (by decide)) rfl (fun b_139 => ?_))
  refine TL'.step (.free rfl) (OpT.alloc' rfl (dlt rfl (by decide)) i24 rfl (fun b_140 => ?_))
  refine TL'.nil (thenS_normal ?_)
  refine T.seq ?_
  refine T.regionL ?_
  refine TL'.step (.free rfl) (OpT.loadBoxAgg (i := 1) (l := (Arr4.dc .u64 x0)) rfl (dlt rfl (by decide)) Tryd.underlying24 rfl i24 rfl rfl rfl rfl ?_)
  refine TL'.step (.free rfl) (OpT.alloc' rfl (dlt rfl (by decide)) i24 rfl (fun b_141 => ?_))
  refine TL'.step (.free rfl) (OpT.storeAggTo (i := 0) (cells' := (Arr4.oc .u64 x0)) rfl rfl i24 rfl rfl rfl rfl (Nat.le_of_ble_eq_true rfl) rfl ?_)
  refine TL'.nil (thenS_normal ?_)
  refine T.seq ?_
  refine T.seq ?_
  refine T.regionL ?_
  refine TL'.step (.free rfl) (OpT.assign rfl (dlt rfl (by decide)) rfl ?_)
  refine TL'.nil (thenS_normal ?_)
  refine T.block ?_
  refine T.loop ?_
  refine TL.by_turn ?_ (raddleref01_Fold_l0_T K K (97 : Int) x0 (Arr4.mk 0 0 0 0) x0 b_139 b_140 b_141 h)
  exact Turn.re (.cons rfl (.cons rfl (.cons rfl (.cons rfl (.nil _))))) (.cons 2 rfl (.cons 1 rfl (.cons 0 rfl (.nil _))))

abbrev raddlelaw01_BsetSizes_1_q (r : Int) : Exit → St → Prop := retS Tryd.prog Tryd.f23 (fun y t => y = (.c (.ex (.int .i64 r))) ∧ t = [.ro 0 deBruijnD])

theorem raddlelaw01_BsetSizes_1_T {K : Nat} {x0 : Arr4} {r : Int} (h : raddlelaw01_BsetSizes_1 K x0 = some r) : CallR Tryd.prog 23 [.agg (Arr4.dc .u64 x0)] [.ro 0 deBruijnD] (.c (.ex (.int .i64 r))) := by
  refine CallT.intro Tryd.func23 rfl (Nat.le_of_ble_eq_true rfl) ?_
  show T Tryd.prog 6 (Code.at [] (codeOf Tryd.f23)) ⟨paramSlots 0 [.agg (Arr4.dc .u64 x0)], [.ro 0 deBruijnD]⟩ (raddlelaw01_BsetSizes_1_q r)
  unfold raddlelaw01_BsetSizes_1 at h
  refine T.seq ?_
  refine T.regionL ?_
  refine TL'.step (.free rfl) (OpT.boxAgg rfl (dlt rfl (by decide)) rfl (fun b_10 => ?_))
  refine TL'.step (.free rfl) (OpT.assign rfl (dlt rfl (by decide)) rfl ?_)
  refine TL'.nil (thenS_normal ?_)
  refine T.seq ?_
  refine T.regionL ?_
  refine TL'.step (.free rfl) (OpT.loadBoxAgg (i := 0) (l := (Arr4.dc .u64 x0)) rfl (dlt rfl (by decide)) Tryd.underlying24 rfl i24 rfl rfl rfl rfl ?_)
  obtain ⟨v_11, e_12, h⟩ := bind_some h
  refine TL'.step (.free rfl) (OpT.callRo rfl (dlt rfl (by decide)) Tryd.func11 rfl rfl rfl (.cons 1 rfl (.nil)) (bset_List_T e_12) ?_)
  refine TL'.step (.free rfl) (OpT.lenSlM (xs := v_11) (f := (cI .u8)) rfl (dlt rfl (by decide)) Tryd.underlying26 rfl ?_)
  refine TL'.step (.free rfl) (OpT.assign rfl (dlt rfl (by decide)) rfl ?_)
  refine TL'.nil (thenS_normal ?_)
  refine T.ret ?_
  exact Fin.doneK (.cons _ _ _ _ (.tmp 2 _ rfl) .nil) (.cons 1 rfl (.nil _)) (by cases h; exact ⟨rfl, rfl⟩)

abbrev raddlelaw01_few_q (r : List Arr4) : Exit → St → Prop := retS Tryd.prog Tryd.f24 (fun y t => y = (.c (.sl false 4 (r.map (Arr4.dc .u64)))) ∧ t = [])

theorem raddlelaw01_few_T {K : Nat} {x0 : List Arr4} {fl0 : Bool} {r : List Arr4} (h : raddlelaw01_few K x0 = some r) : CallR Tryd.prog 24 [.c (.sl fl0 4 (x0.map (Arr4.dc .u64)))] [] (.c (.sl false 4 (r.map (Arr4.dc .u64)))) := by
  refine CallT.intro Tryd.func24 rfl (Nat.le_of_ble_eq_true rfl) ?_
  show T Tryd.prog 8 (Code.at [] (codeOf Tryd.f24)) ⟨paramSlots 0 [.c (.sl fl0 4 (x0.map (Arr4.dc .u64)))], []⟩ (raddlelaw01_few_q r)
  unfold raddlelaw01_few at h
  refine T.seq ?_
  refine T.regionL ?_
  refine TL'.step (.free rfl) (OpT.assign rfl (dlt rfl (by decide)) rfl ?_)
  refine TL'.nil (thenS_normal ?_)
  refine T.seq ?_
  refine T.regionL ?_
  refine TL'.step (.free rfl) (OpT.move rfl (dlt rfl (by decide)) rfl ?_)
  refine TL'.step (.free rfl) (OpT.move rfl (dlt rfl (by decide)) rfl ?_)
  refine TL'.step (.free rfl) (OpT.lenSlM (xs := x0) (f := (Arr4.dc .u64)) rfl (dlt rfl (by decide)) Tryd.underlying33 rfl ?_)
  refine TL'.step (.free rfl) (OpT.min2 rfl (dlt rfl (by decide)) rfl rfl ?_)
  obtain ⟨g_4, h⟩ := ck_some h
  refine TL'.step (.free rfl) (OpT.sliceM (xs := x0) (f := (Arr4.dc .u64)) (l := 0) (h := (Int.toNat (if (20 : Int) < (x0.length : Int) then (20 : Int) else (x0.length : Int)))) rfl (dlt rfl (by decide)) Tryd.underlying33 i24 rfl (.none _) (.some _ _ _ _ rfl g_4.1) g_4.2.1 g_4.2.2 ?_)
  refine TL'.step (.free rfl) (OpT.assign rfl (dlt rfl (by decide)) rfl ?_)
  refine TL'.nil (thenS_normal ?_)
  refine T.ret ?_
  exact Fin.done (.cons _ _ _ _ (.tmp 2 _ rfl) .nil) (by cases h; exact ⟨rfl, rfl⟩)

abbrev raddleref01_Of_q (r : Arr4) : Exit → St → Prop := retS Tryd.prog Tryd.f25 (fun y t => y = (.agg (Arr4.dc .u64 r)) ∧ t = [])

abbrev raddleref01_Of_qs111 (r : Arr4) : Exit → St → Prop := thenS (fun s' => T Tryd.prog 19 (Code.at [1, 1, 1] (codeOf Tryd.f25)) s' ((raddleref01_Of_q r))) ((raddleref01_Of_q r))

abbrev raddleref01_Of_qb0x111 (r : Arr4) : Exit → St → Prop := inBlockS 0 ((raddleref01_Of_qs111 r))

theorem raddleref01_Of_l0_T {r : Arr4} (K : Nat) : ∀ (k : Nat), ∀ (x0 : List Int) (x4_0_3 : Int) (y2_0_1 : Arr4) (y3_0_2 : Arr4) (fl0 : Bool) (b2_0 : Nat) (b3_0 : Nat), raddleref01_Of_l0 K k x0 x4_0_3 y2_0_1 y3_0_2 = some r → TL Tryd.prog 19 (Code.at [1, 1, 0, 1, 0, 0] (codeOf Tryd.f25)) ⟨[(0, .c (.sl fl0 1 (x0.map (cI .u8)))), (2, .c (.ex (.pointer (some ⟨b2_0, 0, none⟩)))), (3, .c (.ex (.pointer (some ⟨b3_0, 0, none⟩)))), (4, .c (.ex (.int .i64 x4_0_3)))], [.box b2_0 24 (Arr4.oc .u64 y2_0_1), .box b3_0 24 (Arr4.oc .u64 y3_0_2)]⟩ (raddleref01_Of_qb0x111 r) := by
  intro k
  induction k with
  | zero =>
    intro x0 x4_0_3 y2_0_1 y3_0_2 fl0 b2_0 b3_0 h
    cases (show (none : Option Arr4) = some r from h)
  | succ k ih =>
    intro x0 x4_0_3 y2_0_1 y3_0_2 fl0 b2_0 b3_0 h
    rw [raddleref01_Of_l0] at h
    refine TL.round ?_
    refine T.seq ?_
    refine T.seq ?_
    refine T.regionL ?_
    refine TL'.step (.free rfl) (OpT.move rfl (dlt rfl (by decide)) rfl ?_)
    refine TL'.step (.free rfl) (OpT.move rfl (dlt rfl (by decide)) rfl ?_)
    refine TL'.step (.free rfl) (OpT.lenSlM (xs := x0) (f := (cI .u8)) rfl (dlt rfl (by decide)) Tryd.underlying26 rfl ?_)
    refine TL'.step (.free rfl) (OpT.int2 rfl rfl (dlt rfl (by decide)) rfl rfl ?_)
    refine TL'.nil (thenS_normal ?_)
    rcases bif_some h with ⟨c_67, h⟩ | ⟨c_67, h⟩
    · refine T.condT rfl c_67 ?_
      refine T.skip (thenS_normal ?_)
      refine T.seq ?_
      refine T.block ?_
      obtain ⟨v_69, e_70, h⟩ := bind_some h
      obtain ⟨v_71, e_72, h⟩ := bind_some h
      refine T.draw (s1 := ⟨[(0, .c (.sl fl0 1 (x0.map (cI .u8)))), (2, .c (.ex (.pointer (some ⟨b2_0, 0, none⟩)))), (3, .c (.ex (.pointer (some ⟨b3_0, 0, none⟩)))), (4, .c (.ex (.int .i64 x4_0_3)))], [.box b2_0 24 (Arr4.oc .u64 y2_0_1), .box b3_0 24 (Arr4.oc .u64 v_71)]⟩) (ms := [0, 0, 0, 6, 14, 31, 63]) TrydMixed (.cons (c := ⟨some 12, .agg (Arr4.dc .u64 y3_0_2), [(3, .c (.ex (.pointer (some ⟨b3_0, 0, none⟩))))], [(1, .box b3_0 24 (Arr4.oc .u64 y3_0_2))], []⟩) (fun t hm => One.step rfl (.free rfl) (OpT.loadBoxAgg (i := 1) (l := (Arr4.dc .u64 y3_0_2)) rfl (dlt rfl (by decide)) Tryd.underlying24 rfl i24 (hm.slots (3, _) (.head _)) (hm.objs (1, _) (.head _)) rfl rfl rfl)) (Ct.met_of rfl rfl) (.cons (c := ⟨some 13, .c (.sl fl0 1 (x0.map (cI .u8))), [(0, .c (.sl fl0 1 (x0.map (cI .u8))))], [], []⟩) (fun t hm => One.step rfl (.free rfl) (OpT.move rfl (dlt rfl (by decide)) (hm.slots (0, _) (.head _)) rfl)) (Ct.met_of rfl rfl) (.cons (c := ⟨some 14, .c (.ex (.int .i64 x4_0_3)), [(4, .c (.ex (.int .i64 x4_0_3)))], [], []⟩) (fun t hm => One.step rfl (.free rfl) (OpT.move rfl (dlt rfl (by decide)) (hm.slots (4, _) (.head _)) rfl)) (Ct.met_of rfl rfl) (.cons (c := ⟨some 15, .ref [.ex (.int .u8 v_69)], [(13, .c (.sl fl0 1 (x0.map (cI .u8)))), (14, .c (.ex (.int .i64 x4_0_3)))], [], []⟩) (fun t hm => One.step rfl (.free rfl) (OpT.indexSlM (xs := x0) (f := (cI .u8)) (v := v_69) rfl (dlt rfl (by decide)) Tryd.underlying26 i5 (hm.slots (13, _) (.head _)) (hm.slots (14, _) (.tail _ (.head _))) e_70 rfl)) (Ct.met_of rfl rfl) (.cons (c := ⟨some 16, .c (.ex (.int .u8 v_69)), [(15, .ref [.ex (.int .u8 v_69)])], [], []⟩) (fun t hm => One.step rfl (.free rfl) (OpT.loadRef rfl (dlt rfl (by decide)) Tryd.underlying5 rfl (hm.slots (15, _) (.head _)) rfl rfl)) (Ct.met_of rfl rfl) (.cons (c := ⟨some 17, .agg (Arr4.dc .u64 v_71), [(12, .agg (Arr4.dc .u64 y3_0_2)), (16, .c (.ex (.int .u8 v_69)))], [], []⟩) (fun t hm => One.step rfl (.free rfl) (OpT.callP rfl (dlt rfl (by decide)) Tryd.func33 rfl rfl (evs_cons (hm.slots (12, _) (.head _)) (evs_cons (hm.slots (16, _) (.tail _ (.head _))) evs_nil)) (CallR.nil (raddleref01_with_T e_72)) rfl)) (Ct.met_of rfl rfl) (.cons (c := ⟨none, .any, [(3, .c (.ex (.pointer (some ⟨b3_0, 0, none⟩)))), (17, .agg (Arr4.dc .u64 v_71))], [(1, .box b3_0 24 (Arr4.oc .u64 y3_0_2))], [(1, .box b3_0 24 (Arr4.oc .u64 v_71))]⟩) (fun t hm => One.step rfl (.free rfl) (OpT.storeAggTo (i := 1) (cells' := (Arr4.oc .u64 v_71)) rfl rfl i24 (hm.slots (3, _) (.head _)) (hm.slots (17, _) (.tail _ (.head _))) rfl (hm.objs (1, _) (.head _)) (Nat.le_of_ble_eq_true rfl) rfl rfl)) (Ct.met_of rfl rfl) (.nil _ _)))))))) rfl (by kernel_rfl) (by kernel_rfl) (by kernel_rfl) (.cons rfl (.cons rfl (.cons rfl (.cons rfl (.nil _))))) rfl (fun u hu => (inBlock_normal (thenS_normal (T.by_turn hu ?_))))
      refine T.regionL ?_
      refine TL'.step (.free rfl) (OpT.move rfl (dlt rfl (by decide)) rfl ?_)
      refine TL'.step (.free rfl) (OpT.int2 rfl rfl (dlt rfl (by decide)) rfl rfl ?_)
      refine TL'.step (.free rfl) (OpT.assign rfl (dlt rfl (by decide)) rfl ?_)
      refine TL'.nil (thenS_normal ?_)
      refine TL.by_turn ?_ (ih x0 (IntKind.i64.wrap (x4_0_3 + (1 : Int))) y2_0_1 v_71 fl0 b2_0 b3_0 h)
      exact Turn.re (.cons rfl (.cons rfl (.cons rfl (.cons rfl (.nil _))))) (.cons 0 rfl (.cons 0 rfl (.nil _)))
    · refine T.condF rfl c_67 ?_
      refine T.exit (thenS_exit (thenS_exit (inBlock_exit (thenS_normal ?_))))
      refine T.seq ?_
      refine T.regionL ?_
      refine TL'.step (.free rfl) (OpT.loadBoxAgg (i := 1) (l := (Arr4.dc .u64 y3_0_2)) rfl (dlt rfl (by decide)) Tryd.underlying24 rfl i24 rfl rfl rfl rfl ?_)
      refine TL'.step (.free rfl) (OpT.storeAggTo (i := 0) (cells' := (Arr4.oc .u64 y3_0_2)) rfl rfl i24 rfl rfl rfl rfl (Nat.le_of_ble_eq_true rfl) rfl ?_)
      refine TL'.nil (thenS_normal ?_)
      refine T.ret ?_
      exact Fin.done (.cons _ _ _ _ (.cellAgg 2 24 _ 0 0 24 _ (Arr4.dc .u64 y3_0_2) _ _ 4 _ rfl rfl rfl rfl Tryd.underlying24 rfl i24) .nil) (by cases h; exact ⟨rfl, rfl⟩)

theorem raddleref01_Of_T {K : Nat} {x0 : List Int} {fl0 : Bool} {r : Arr4} (h : raddleref01_Of K x0 = some r) : CallR Tryd.prog 25 [.c (.sl fl0 1 (x0.map (cI .u8)))] [] (.agg (Arr4.dc .u64 r)) := by
  refine CallT.intro Tryd.func25 rfl (Nat.le_of_ble_eq_true rfl) ?_
  show T Tryd.prog 19 (Code.at [] (codeOf Tryd.f25)) ⟨paramSlots 0 [.c (.sl fl0 1 (x0.map (cI .u8)))], []⟩ (raddleref01_Of_q r)
  unfold raddleref01_Of at h
  refine T.seq ?_
  refine T.regionL ?_
  refine TL'.step (.free rfl) (OpT.alloc' rfl (dlt rfl (by decide)) i24 rfl (fun b_65 => ?_))
  refine TL'.nil (thenS_normal ?_)
  refine T.seq ?_
  refine T.regionL ?_
  refine TL'.step (.free rfl) (OpT.build (l := (Arr4.dc .u64 (Arr4.mk 0 0 0 0))) rfl (dlt rfl (by decide)) (built_arr Tryd.underlying24 i24 i22) (all1 rfl) rfl rfl ?_)
  refine TL'.step (.free rfl) (OpT.alloc' rfl (dlt rfl (by decide)) i24 rfl (fun b_66 => ?_))
  refine TL'.step (.free rfl) (OpT.storeAggTo (i := 0) (cells' := (Arr4.oc .u64 (Arr4.mk 0 0 0 0))) rfl rfl i24 rfl rfl rfl rfl (Nat.le_of_ble_eq_true rfl) rfl ?_)
  refine TL'.nil (thenS_normal ?_)
  refine T.seq ?_
  refine T.seq ?_
  refine T.regionL ?_
  refine TL'.step (.free rfl) (OpT.assign rfl (dlt rfl (by decide)) rfl ?_)
  refine TL'.nil (thenS_normal ?_)
  refine T.block ?_
  refine T.loop ?_
  refine TL.by_turn ?_ (raddleref01_Of_l0_T K K x0 (0 : Int) (Arr4.mk 0 0 0 0) (Arr4.mk 0 0 0 0) fl0 b_65 b_66 h)
  exact Turn.re (.cons rfl (.cons rfl (.cons rfl (.cons rfl (.nil _))))) (.cons 1 rfl (.cons 0 rfl (.nil _)))

abbrev raddleref01_Range_q (r : Arr4) : Exit → St → Prop := retS Tryd.prog Tryd.f26 (fun y t => y = (.agg (Arr4.dc .u64 r)) ∧ t = [])

abbrev raddleref01_Range_qs111 (r : Arr4) : Exit → St → Prop := thenS (fun s' => T Tryd.prog 21 (Code.at [1, 1, 1] (codeOf Tryd.f26)) s' ((raddleref01_Range_q r))) ((raddleref01_Range_q r))

abbrev raddleref01_Range_qb0x111 (r : Arr4) : Exit → St → Prop := inBlockS 0 ((raddleref01_Range_qs111 r))

theorem raddleref01_Range_l0_T {r : Arr4} (K : Nat) : ∀ (k : Nat), ∀ (x1 : Int) (x6_0_3 : Int) (y4_0_1 : Arr4) (y5_0_2 : Arr4) (b4_0 : Nat) (b5_0 : Nat), raddleref01_Range_l0 K k x1 x6_0_3 y4_0_1 y5_0_2 = some r → TL Tryd.prog 21 (Code.at [1, 1, 0, 1, 0, 0] (codeOf Tryd.f26)) ⟨[(1, .c (.ex (.int .u8 x1))), (4, .c (.ex (.pointer (some ⟨b4_0, 0, none⟩)))), (5, .c (.ex (.pointer (some ⟨b5_0, 0, none⟩)))), (6, .c (.ex (.int .i64 x6_0_3)))], [.box b4_0 24 (Arr4.oc .u64 y4_0_1), .box b5_0 24 (Arr4.oc .u64 y5_0_2)]⟩ (raddleref01_Range_qb0x111 r) := by
  intro k
  induction k with
  | zero =>
    intro x1 x6_0_3 y4_0_1 y5_0_2 b4_0 b5_0 h
    cases (show (none : Option Arr4) = some r from h)
  | succ k ih =>
    intro x1 x6_0_3 y4_0_1 y5_0_2 b4_0 b5_0 h
    rw [raddleref01_Range_l0] at h
    refine TL.round ?_
    refine T.seq ?_
    refine T.seq ?_
    refine T.regionL ?_
    refine TL'.step (.free rfl) (OpT.move rfl (dlt rfl (by decide)) rfl ?_)
    refine TL'.step (.free rfl) (OpT.move rfl (dlt rfl (by decide)) rfl ?_)
    refine TL'.step (.free rfl) (OpT.convInt rfl (dlt rfl (by decide)) Tryd.underlying5 Tryd.underlying3 rfl ?_)
    refine TL'.step (.free rfl) (OpT.int2 rfl rfl (dlt rfl (by decide)) rfl rfl ?_)
    refine TL'.nil (thenS_normal ?_)
    rcases bif_some h with ⟨c_28, h⟩ | ⟨c_28, h⟩
    · refine T.condT rfl c_28 ?_
      refine T.skip (thenS_normal ?_)
      refine T.seq ?_
      refine T.block ?_
      refine T.regionL ?_
      refine TL'.step (.free rfl) (OpT.loadBoxAgg (i := 1) (l := (Arr4.dc .u64 y5_0_2)) rfl (dlt rfl (by decide)) Tryd.underlying24 rfl i24 rfl rfl rfl rfl ?_)
      refine TL'.step (.free rfl) (OpT.move rfl (dlt rfl (by decide)) rfl ?_)
      refine TL'.step (.free rfl) (OpT.convInt rfl (dlt rfl (by decide)) Tryd.underlying3 Tryd.underlying5 rfl ?_)
      obtain ⟨v_29, e_30, h⟩ := bind_some h
      refine TL'.step (.free rfl) (OpT.callP rfl (dlt rfl (by decide)) Tryd.func33 rfl rfl rfl (CallR.nil (raddleref01_with_T e_30)) ?_)
      refine TL'.step (.free rfl) (OpT.storeAggTo (i := 1) (cells' := (Arr4.oc .u64 v_29)) rfl rfl i24 rfl rfl rfl rfl (Nat.le_of_ble_eq_true rfl) rfl ?_)
      refine TL'.nil (inBlock_normal (thenS_normal ?_))
      refine T.regionL ?_
      refine TL'.step (.free rfl) (OpT.move rfl (dlt rfl (by decide)) rfl ?_)
      refine TL'.step (.free rfl) (OpT.int2 rfl rfl (dlt rfl (by decide)) rfl rfl ?_)
      refine TL'.step (.free rfl) (OpT.assign rfl (dlt rfl (by decide)) rfl ?_)
      refine TL'.nil (thenS_normal ?_)
      refine TL.by_turn ?_ (ih x1 (IntKind.i64.wrap (x6_0_3 + (1 : Int))) y4_0_1 v_29 b4_0 b5_0 h)
      exact Turn.re (.cons rfl (.cons rfl (.cons rfl (.cons rfl (.nil _))))) (.cons 0 rfl (.cons 0 rfl (.nil _)))
    · refine T.condF rfl c_28 ?_
      refine T.exit (thenS_exit (thenS_exit (inBlock_exit (thenS_normal ?_))))
      refine T.seq ?_
      refine T.regionL ?_
      refine TL'.step (.free rfl) (OpT.loadBoxAgg (i := 1) (l := (Arr4.dc .u64 y5_0_2)) rfl (dlt rfl (by decide)) Tryd.underlying24 rfl i24 rfl rfl rfl rfl ?_)
      refine TL'.step (.free rfl) (OpT.storeAggTo (i := 0) (cells' := (Arr4.oc .u64 y5_0_2)) rfl rfl i24 rfl rfl rfl rfl (Nat.le_of_ble_eq_true rfl) rfl ?_)
      refine TL'.nil (thenS_normal ?_)
      refine T.ret ?_
      exact Fin.done (.cons _ _ _ _ (.cellAgg 4 24 _ 0 0 24 _ (Arr4.dc .u64 y5_0_2) _ _ 4 _ rfl rfl rfl rfl Tryd.underlying24 rfl i24) .nil) (by cases h; exact ⟨rfl, rfl⟩)

theorem raddleref01_Range_T {K : Nat} {x0 : Int} {x1 : Int} {r : Arr4} (h : raddleref01_Range K x0 x1 = some r) : CallR Tryd.prog 26 [.c (.ex (.int .u8 x0)), .c (.ex (.int .u8 x1))] [] (.agg (Arr4.dc .u64 r)) := by
  refine CallT.intro Tryd.func26 rfl (Nat.le_of_ble_eq_true rfl) ?_
  show T Tryd.prog 21 (Code.at [] (codeOf Tryd.f26)) ⟨paramSlots 0 [.c (.ex (.int .u8 x0)), .c (.ex (.int .u8 x1))], []⟩ (raddleref01_Range_q r)
  unfold raddleref01_Range at h
  refine T.seq ?_
  refine T.regionL ?_
  refine TL'.step (.free rfl) (OpT.alloc' rfl (dlt rfl (by decide)) i24 rfl (fun b_26 => ?_))
  refine TL'.nil (thenS_normal ?_)
  refine T.seq ?_
  refine T.regionL ?_
  refine TL'.step (.free rfl) (OpT.build (l := (Arr4.dc .u64 (Arr4.mk 0 0 0 0))) rfl (dlt rfl (by decide)) (built_arr Tryd.underlying24 i24 i22) (all1 rfl) rfl rfl ?_)
  refine TL'.step (.free rfl) (OpT.alloc' rfl (dlt rfl (by decide)) i24 rfl (fun b_27 => ?_))
  refine TL'.step (.free rfl) (OpT.storeAggTo (i := 0) (cells' := (Arr4.oc .u64 (Arr4.mk 0 0 0 0))) rfl rfl i24 rfl rfl rfl rfl (Nat.le_of_ble_eq_true rfl) rfl ?_)
  refine TL'.nil (thenS_normal ?_)
  refine T.seq ?_
  refine T.seq ?_
  refine T.regionL ?_
  refine TL'.step (.free rfl) (OpT.move rfl (dlt rfl (by decide)) rfl ?_)
  refine TL'.step (.free rfl) (OpT.convInt rfl (dlt rfl (by decide)) Tryd.underlying5 Tryd.underlying3 rfl ?_)
  refine TL'.step (.free rfl) (OpT.assign rfl (dlt rfl (by decide)) rfl ?_)
  refine TL'.nil (thenS_normal ?_)
  refine T.block ?_
  refine T.loop ?_
  refine TL.by_turn ?_ (raddleref01_Range_l0_T K K x1 (IntKind.i64.wrap x0) (Arr4.mk 0 0 0 0) (Arr4.mk 0 0 0 0) b_26 b_27 h)
  exact Turn.re (.cons rfl (.cons rfl (.cons rfl (.cons rfl (.nil _))))) (.cons 1 rfl (.cons 0 rfl (.nil _)))

abbrev raddleref01_Or_q (r : Arr4) : Exit → St → Prop := retS Tryd.prog Tryd.f27 (fun y t => y = (.agg (Arr4.dc .u64 r)) ∧ t = [])

abbrev raddleref01_Or_qs111 (r : Arr4) : Exit → St → Prop := thenS (fun s' => T Tryd.prog 29 (Code.at [1, 1, 1] (codeOf Tryd.f27)) s' ((raddleref01_Or_q r))) ((raddleref01_Or_q r))

abbrev raddleref01_Or_qb0x111 (r : Arr4) : Exit → St → Prop := inBlockS 0 ((raddleref01_Or_qs111 r))

abbrev raddleref01_Or_ql11010 (r : Arr4) : Exit → St → Prop := thenS (fun s' => TL Tryd.prog 29 (Code.at [1, 1, 0, 1, 0, 0] (codeOf Tryd.f27)) s' ((raddleref01_Or_qb0x111 r))) ((raddleref01_Or_qb0x111 r))

abbrev raddleref01_Or_qs11010011 (r : Arr4) : Exit → St → Prop := thenS (fun s' => T Tryd.prog 29 (Code.at [1, 1, 0, 1, 0, 0, 1, 1] (codeOf Tryd.f27)) s' ((raddleref01_Or_ql11010 r))) ((raddleref01_Or_ql11010 r))

abbrev raddleref01_Or_qb1_0x11010011 (r : Arr4) : Exit → St → Prop := inBlockS 1 ((raddleref01_Or_qs11010011 r))

abbrev raddleref01_Or_qb2_1_0x11010011 (r : Arr4) : Exit → St → Prop := inBlockS 2 ((raddleref01_Or_qb1_0x11010011 r))

theorem raddleref01_Or_l1_T {r : Arr4} (K : Nat) (go0 : (List Arr4) → Int → Arr4 → Arr4 → Option Arr4) (hgo0 : ∀ (x0 : List Arr4) (x4_0_3 : Int) (y2_0_1 : Arr4) (y3_0_2 : Arr4) (fl0 : Bool) (b2_0 : Nat) (b3_0 : Nat), go0 x0 x4_0_3 y2_0_1 y3_0_2 = some r → TL Tryd.prog 29 (Code.at [1, 1, 0, 1, 0, 0] (codeOf Tryd.f27)) ⟨[(0, .c (.sl fl0 4 (x0.map (Arr4.dc .u64)))), (2, .c (.ex (.pointer (some ⟨b2_0, 0, none⟩)))), (3, .c (.ex (.pointer (some ⟨b3_0, 0, none⟩)))), (4, .c (.ex (.int .i64 x4_0_3)))], [.box b2_0 24 (Arr4.oc .u64 y2_0_1), .box b3_0 24 (Arr4.oc .u64 y3_0_2)]⟩ (raddleref01_Or_qb0x111 r)) : ∀ (k : Nat), ∀ (x0 : List Arr4) (x4_1_3 : Int) (x5_1_4 : Int) (y2_0_1 : Arr4) (y3_1_2 : Arr4) (fl0 : Bool) (b2_1 : Nat) (b3_1 : Nat), raddleref01_Or_l1 K go0 k x0 x4_1_3 x5_1_4 y2_0_1 y3_1_2 = some r → TL Tryd.prog 29 (Code.at [1, 1, 0, 1, 0, 0, 1, 0, 0, 1, 0, 0] (codeOf Tryd.f27)) ⟨[(0, .c (.sl fl0 4 (x0.map (Arr4.dc .u64)))), (2, .c (.ex (.pointer (some ⟨b2_1, 0, none⟩)))), (3, .c (.ex (.pointer (some ⟨b3_1, 0, none⟩)))), (4, .c (.ex (.int .i64 x4_1_3))), (5, .c (.ex (.int .i64 x5_1_4)))], [.box b2_1 24 (Arr4.oc .u64 y2_0_1), .box b3_1 24 (Arr4.oc .u64 y3_1_2)]⟩ (raddleref01_Or_qb2_1_0x11010011 r) := by
  intro k
  induction k with
  | zero =>
    intro x0 x4_1_3 x5_1_4 y2_0_1 y3_1_2 fl0 b2_1 b3_1 h
    cases (show (none : Option Arr4) = some r from h)
  | succ k ih =>
    intro x0 x4_1_3 x5_1_4 y2_0_1 y3_1_2 fl0 b2_1 b3_1 h
    rw [raddleref01_Or_l1] at h
    refine TL.round ?_
    refine T.seq ?_
    refine T.seq ?_
    refine T.regionL ?_
    refine TL'.step (.free rfl) (OpT.move rfl (dlt rfl (by decide)) rfl ?_)
    refine TL'.step (.free rfl) (OpT.move rfl (dlt rfl (by decide)) rfl ?_)
    refine TL'.step (.free rfl) (OpT.lenSlM (xs := x0) (f := (Arr4.dc .u64)) rfl (dlt rfl (by decide)) Tryd.underlying33 rfl ?_)
    refine TL'.step (.free rfl) (OpT.int2 rfl rfl (dlt rfl (by decide)) rfl rfl ?_)
    refine TL'.nil (thenS_normal ?_)
    rcases bif_some h with ⟨c_145, h⟩ | ⟨c_145, h⟩
    · refine T.condT rfl c_145 ?_
      refine T.skip (thenS_normal ?_)
      refine T.seq ?_
      refine T.block ?_
      refine T.seq ?_
      refine T.regionL ?_
      refine TL'.step (.free rfl) (OpT.move rfl (dlt rfl (by decide)) rfl ?_)
      refine TL'.step (.free rfl) (OpT.move rfl (dlt rfl (by decide)) rfl ?_)
      obtain ⟨v_146, e_147, h⟩ := bind_some h
      refine TL'.step (.free rfl) (OpT.indexSlM (xs := x0) (f := (Arr4.dc .u64)) (v := v_146) rfl (dlt rfl (by decide)) Tryd.underlying33 i24 rfl rfl e_147 ?_)
      refine TL'.step (.free rfl) (OpT.loadRefAgg rfl (dlt rfl (by decide)) Tryd.underlying24 rfl i24 rfl (Nat.le_of_ble_eq_true rfl) ?_)
      refine TL'.step (.free rfl) (OpT.move rfl (dlt rfl (by decide)) rfl ?_)
      refine TL'.step (.free rfl) (OpT.convInt rfl (dlt rfl (by decide)) Tryd.underlying3 Tryd.underlying5 rfl ?_)
      obtain ⟨v_148, e_149, h⟩ := bind_some h
      refine TL'.step (.free rfl) (OpT.callP rfl (dlt rfl (by decide)) Tryd.func31 rfl rfl rfl (CallR.nil (raddleref01_Has_T e_149)) ?_)
      refine TL'.nil (thenS_normal ?_)
      rcases bif_some h with ⟨c_150, h⟩ | ⟨c_150, h⟩
      · refine T.condT rfl c_150 ?_
        refine T.regionL ?_
        refine TL'.step (.free rfl) (OpT.loadBoxAgg (i := 1) (l := (Arr4.dc .u64 y3_1_2)) rfl (dlt rfl (by decide)) Tryd.underlying24 rfl i24 rfl rfl rfl rfl ?_)
        refine TL'.step (.free rfl) (OpT.move rfl (dlt rfl (by decide)) rfl ?_)
        refine TL'.step (.free rfl) (OpT.convInt rfl (dlt rfl (by decide)) Tryd.underlying3 Tryd.underlying5 rfl ?_)
        obtain ⟨v_151, e_152, h⟩ := bind_some h
        refine TL'.step (.free rfl) (OpT.callP rfl (dlt rfl (by decide)) Tryd.func33 rfl rfl rfl (CallR.nil (raddleref01_with_T e_152)) ?_)
        refine TL'.step (.free rfl) (OpT.storeAggTo (i := 1) (cells' := (Arr4.oc .u64 v_151)) rfl rfl i24 rfl rfl rfl rfl (Nat.le_of_ble_eq_true rfl) rfl ?_)
        refine TL'.nil (inBlock_normal (thenS_normal ?_))
        refine T.regionL ?_
        refine TL'.step (.free rfl) (OpT.move rfl (dlt rfl (by decide)) rfl ?_)
        refine TL'.step (.free rfl) (OpT.int2 rfl rfl (dlt rfl (by decide)) rfl rfl ?_)
        refine TL'.step (.free rfl) (OpT.assign rfl (dlt rfl (by decide)) rfl ?_)
        refine TL'.nil (thenS_normal ?_)
        refine TL.by_turn ?_ (ih x0 x4_1_3 (IntKind.i64.wrap (x5_1_4 + (1 : Int))) y2_0_1 v_151 fl0 b2_1 b3_1 h)
        exact Turn.re (.cons rfl (.cons rfl (.cons rfl (.cons rfl (.cons rfl (.nil _)))))) (.cons 0 rfl (.cons 0 rfl (.nil _)))
      · refine T.condF rfl c_150 ?_
        refine T.skip (inBlock_normal (thenS_normal ?_))
        refine T.regionL ?_
        refine TL'.step (.free rfl) (OpT.move rfl (dlt rfl (by decide)) rfl ?_)
        refine TL'.step (.free rfl) (OpT.int2 rfl rfl (dlt rfl (by decide)) rfl rfl ?_)
        refine TL'.step (.free rfl) (OpT.assign rfl (dlt rfl (by decide)) rfl ?_)
        refine TL'.nil (thenS_normal ?_)
        refine TL.by_turn ?_ (ih x0 x4_1_3 (IntKind.i64.wrap (x5_1_4 + (1 : Int))) y2_0_1 y3_1_2 fl0 b2_1 b3_1 h)
        exact Turn.re (.cons rfl (.cons rfl (.cons rfl (.cons rfl (.cons rfl (.nil _)))))) (.cons 0 rfl (.cons 0 rfl (.nil _)))
    · refine T.condF rfl c_145 ?_
      refine T.exit (thenS_exit (thenS_exit (inBlock_exit (inBlock_normal (thenS_normal ?_)))))
      refine T.regionL ?_
      refine TL'.step (.free rfl) (OpT.move rfl (dlt rfl (by decide)) rfl ?_)
      refine TL'.step (.free rfl) (OpT.int2 rfl rfl (dlt rfl (by decide)) rfl rfl ?_)
      refine TL'.step (.free rfl) (OpT.assign rfl (dlt rfl (by decide)) rfl ?_)
      refine TL'.nil (thenS_normal ?_)
      refine TL.by_turn ?_ (hgo0 x0 (IntKind.i64.wrap (x4_1_3 + (1 : Int))) y2_0_1 y3_1_2 fl0 b2_1 b3_1 h)
      exact Turn.re (.cons rfl (.cons rfl (.cons rfl (.cons rfl (.nil _))))) (.cons 0 rfl (.cons 0 rfl (.nil _)))

theorem raddleref01_Or_l0_T {r : Arr4} (K : Nat) : ∀ (k : Nat), ∀ (x0 : List Arr4) (x4_0_3 : Int) (y2_0_1 : Arr4) (y3_0_2 : Arr4) (fl0 : Bool) (b2_0 : Nat) (b3_0 : Nat), raddleref01_Or_l0 K k x0 x4_0_3 y2_0_1 y3_0_2 = some r → TL Tryd.prog 29 (Code.at [1, 1, 0, 1, 0, 0] (codeOf Tryd.f27)) ⟨[(0, .c (.sl fl0 4 (x0.map (Arr4.dc .u64)))), (2, .c (.ex (.pointer (some ⟨b2_0, 0, none⟩)))), (3, .c (.ex (.pointer (some ⟨b3_0, 0, none⟩)))), (4, .c (.ex (.int .i64 x4_0_3)))], [.box b2_0 24 (Arr4.oc .u64 y2_0_1), .box b3_0 24 (Arr4.oc .u64 y3_0_2)]⟩ (raddleref01_Or_qb0x111 r) := by
  intro k
  induction k with
  | zero =>
    intro x0 x4_0_3 y2_0_1 y3_0_2 fl0 b2_0 b3_0 h
    cases (show (none : Option Arr4) = some r from h)
  | succ k ih =>
    intro x0 x4_0_3 y2_0_1 y3_0_2 fl0 b2_0 b3_0 h
    rw [raddleref01_Or_l0] at h
    refine TL.round ?_
    refine T.seq ?_
    refine T.seq ?_
    refine T.regionL ?_
    refine TL'.step (.free rfl) (OpT.move rfl (dlt rfl (by decide)) rfl ?_)
    refine TL'.step (.free rfl) (OpT.int2 rfl rfl (dlt rfl (by decide)) rfl rfl ?_)
    refine TL'.nil (thenS_normal ?_)
    rcases bif_some h with ⟨c_144, h⟩ | ⟨c_144, h⟩
    · refine T.condT rfl c_144 ?_
      refine T.skip (thenS_normal ?_)
      refine T.seq ?_
      refine T.block ?_
      refine T.seq ?_
      refine T.regionL ?_
      refine TL'.step (.free rfl) (OpT.assign rfl (dlt rfl (by decide)) rfl ?_)
      refine TL'.nil (thenS_normal ?_)
      refine T.block ?_
      refine T.loop ?_
      refine TL.by_turn ?_ (raddleref01_Or_l1_T K (raddleref01_Or_l0 K k) ih K x0 x4_0_3 (0 : Int) y2_0_1 y3_0_2 fl0 b2_0 b3_0 h)
      exact Turn.re (.cons rfl (.cons rfl (.cons rfl (.cons rfl (.cons rfl (.nil _)))))) (.cons 0 rfl (.cons 0 rfl (.nil _)))
    · refine T.condF rfl c_144 ?_
      refine T.exit (thenS_exit (thenS_exit (inBlock_exit (thenS_normal ?_))))
      refine T.seq ?_
      refine T.regionL ?_
      refine TL'.step (.free rfl) (OpT.loadBoxAgg (i := 1) (l := (Arr4.dc .u64 y3_0_2)) rfl (dlt rfl (by decide)) Tryd.underlying24 rfl i24 rfl rfl rfl rfl ?_)
      refine TL'.step (.free rfl) (OpT.storeAggTo (i := 0) (cells' := (Arr4.oc .u64 y3_0_2)) rfl rfl i24 rfl rfl rfl rfl (Nat.le_of_ble_eq_true rfl) rfl ?_)
      refine TL'.nil (thenS_normal ?_)
      refine T.ret ?_
      exact Fin.done (.cons _ _ _ _ (.cellAgg 2 24 _ 0 0 24 _ (Arr4.dc .u64 y3_0_2) _ _ 4 _ rfl rfl rfl rfl Tryd.underlying24 rfl i24) .nil) (by cases h; exact ⟨rfl, rfl⟩)

theorem raddleref01_Or_T {K : Nat} {x0 : List Arr4} {fl0 : Bool} {r : Arr4} (h : raddleref01_Or K x0 = some r) : CallR Tryd.prog 27 [.c (.sl fl0 4 (x0.map (Arr4.dc .u64)))] [] (.agg (Arr4.dc .u64 r)) := by
  refine CallT.intro Tryd.func27 rfl (Nat.le_of_ble_eq_true rfl) ?_
  show T Tryd.prog 29 (Code.at [] (codeOf Tryd.f27)) ⟨paramSlots 0 [.c (.sl fl0 4 (x0.map (Arr4.dc .u64)))], []⟩ (raddleref01_Or_q r)
  unfold raddleref01_Or at h
  refine T.seq ?_
  refine T.regionL ?_
  refine TL'.step (.free rfl) (OpT.alloc' rfl (dlt rfl (by decide)) i24 rfl (fun b_142 => ?_))
  refine TL'.nil (thenS_normal ?_)
  refine T.seq ?_
  refine T.regionL ?_
  refine TL'.step (.free rfl) (OpT.build (l := (Arr4.dc .u64 (Arr4.mk 0 0 0 0))) rfl (dlt rfl (by decide)) (built_arr Tryd.underlying24 i24 i22) (all1 rfl) rfl rfl ?_)
  refine TL'.step (.free rfl) (OpT.alloc' rfl (dlt rfl (by decide)) i24 rfl (fun b_143 => ?_))
  refine TL'.step (.free rfl) (OpT.storeAggTo (i := 0) (cells' := (Arr4.oc .u64 (Arr4.mk 0 0 0 0))) rfl rfl i24 rfl rfl rfl rfl (Nat.le_of_ble_eq_true rfl) rfl ?_)
  refine TL'.nil (thenS_normal ?_)
  refine T.seq ?_
  refine T.seq ?_
  refine T.regionL ?_
  refine TL'.step (.free rfl) (OpT.assign rfl (dlt rfl (by decide)) rfl ?_)
  refine TL'.nil (thenS_normal ?_)
  refine T.block ?_
  refine T.loop ?_
  refine TL.by_turn ?_ (raddleref01_Or_l0_T K K x0 (0 : Int) (Arr4.mk 0 0 0 0) (Arr4.mk 0 0 0 0) fl0 b_142 b_143 h)
  exact Turn.re (.cons rfl (.cons rfl (.cons rfl (.cons rfl (.nil _))))) (.cons 1 rfl (.cons 0 rfl (.nil _)))

abbrev raddleref01_Not_q (r : Arr4) : Exit → St → Prop := retS Tryd.prog Tryd.f29 (fun y t => y = (.agg (Arr4.dc .u64 r)) ∧ t = [])

abbrev raddleref01_Not_qs111 (r : Arr4) : Exit → St → Prop := thenS (fun s' => T Tryd.prog 20 (Code.at [1, 1, 1] (codeOf Tryd.f29)) s' ((raddleref01_Not_q r))) ((raddleref01_Not_q r))

abbrev raddleref01_Not_qb0x111 (r : Arr4) : Exit → St → Prop := inBlockS 0 ((raddleref01_Not_qs111 r))

theorem raddleref01_Not_l0_T {r : Arr4} (K : Nat) : ∀ (k : Nat), ∀ (x4_0_3 : Int) (x0 : Arr4) (y2_0_1 : Arr4) (y3_0_2 : Arr4) (b1_0 : Nat) (b2_0 : Nat) (b3_0 : Nat), raddleref01_Not_l0 K k x4_0_3 x0 y2_0_1 y3_0_2 = some r → TL Tryd.prog 20 (Code.at [1, 1, 0, 1, 0, 0] (codeOf Tryd.f29)) ⟨[(1, .c (.ex (.pointer (some ⟨b1_0, 0, none⟩)))), (2, .c (.ex (.pointer (some ⟨b2_0, 0, none⟩)))), (3, .c (.ex (.pointer (some ⟨b3_0, 0, none⟩)))), (4, .c (.ex (.int .i64 x4_0_3)))], [.box b1_0 24 (Arr4.oc .u64 x0), .box b2_0 24 (Arr4.oc .u64 y2_0_1), .box b3_0 24 (Arr4.oc .u64 y3_0_2)]⟩ (raddleref01_Not_qb0x111 r) := by
  intro k
  induction k with
  | zero =>
    intro x4_0_3 x0 y2_0_1 y3_0_2 b1_0 b2_0 b3_0 h
    cases (show (none : Option Arr4) = some r from h)
  | succ k ih =>
    intro x4_0_3 x0 y2_0_1 y3_0_2 b1_0 b2_0 b3_0 h
    rw [raddleref01_Not_l0] at h
    refine TL.round ?_
    refine T.seq ?_
    refine T.seq ?_
    refine T.regionL ?_
    refine TL'.step (.free rfl) (OpT.move rfl (dlt rfl (by decide)) rfl ?_)
    refine TL'.step (.free rfl) (OpT.int2 rfl rfl (dlt rfl (by decide)) rfl rfl ?_)
    refine TL'.nil (thenS_normal ?_)
    rcases bif_some h with ⟨c_83, h⟩ | ⟨c_83, h⟩
    · refine T.condT rfl c_83 ?_
      refine T.skip (thenS_normal ?_)
      refine T.seq ?_
      refine T.block ?_
      refine T.seq ?_
      refine T.regionL ?_
      refine TL'.step (.free rfl) (OpT.loadBoxAgg (i := 0) (l := (Arr4.dc .u64 x0)) rfl (dlt rfl (by decide)) Tryd.underlying24 rfl i24 rfl rfl rfl rfl ?_)
      refine TL'.step (.free rfl) (OpT.move rfl (dlt rfl (by decide)) rfl ?_)
      refine TL'.step (.free rfl) (OpT.convInt rfl (dlt rfl (by decide)) Tryd.underlying3 Tryd.underlying5 rfl ?_)
      obtain ⟨v_84, e_85, h⟩ := bind_some h
      refine TL'.step (.free rfl) (OpT.callP rfl (dlt rfl (by decide)) Tryd.func31 rfl rfl rfl (CallR.nil (raddleref01_Has_T e_85)) ?_)
      refine TL'.step (.free rfl) (OpT.not rfl (dlt rfl (by decide)) rfl ?_)
      refine TL'.nil (thenS_normal ?_)
      rcases bif_some h with ⟨c_86, h⟩ | ⟨c_86, h⟩
      · refine T.condT rfl c_86 ?_
        refine T.regionL ?_
        refine TL'.step (.free rfl) (OpT.loadBoxAgg (i := 2) (l := (Arr4.dc .u64 y3_0_2)) rfl (dlt rfl (by decide)) Tryd.underlying24 rfl i24 rfl rfl rfl rfl ?_)
        refine TL'.step (.free rfl) (OpT.move rfl (dlt rfl (by decide)) rfl ?_)
        refine TL'.step (.free rfl) (OpT.convInt rfl (dlt rfl (by decide)) Tryd.underlying3 Tryd.underlying5 rfl ?_)
        obtain ⟨v_87, e_88, h⟩ := bind_some h
        refine TL'.step (.free rfl) (OpT.callP rfl (dlt rfl (by decide)) Tryd.func33 rfl rfl rfl (CallR.nil (raddleref01_with_T e_88)) ?_)
        refine TL'.step (.free rfl) (OpT.storeAggTo (i := 2) (cells' := (Arr4.oc .u64 v_87)) rfl rfl i24 rfl rfl rfl rfl (Nat.le_of_ble_eq_true rfl) rfl ?_)
        refine TL'.nil (inBlock_normal (thenS_normal ?_))
        refine T.regionL ?_
        refine TL'.step (.free rfl) (OpT.move rfl (dlt rfl (by decide)) rfl ?_)
        refine TL'.step (.free rfl) (OpT.int2 rfl rfl (dlt rfl (by decide)) rfl rfl ?_)
        refine TL'.step (.free rfl) (OpT.assign rfl (dlt rfl (by decide)) rfl ?_)
        refine TL'.nil (thenS_normal ?_)
        refine TL.by_turn ?_ (ih (IntKind.i64.wrap (x4_0_3 + (1 : Int))) x0 y2_0_1 v_87 b1_0 b2_0 b3_0 h)
        exact Turn.re (.cons rfl (.cons rfl (.cons rfl (.cons rfl (.nil _))))) (.cons 0 rfl (.cons 0 rfl (.cons 0 rfl (.nil _))))
      · refine T.condF rfl c_86 ?_
        refine T.skip (inBlock_normal (thenS_normal ?_))
        refine T.regionL ?_
        refine TL'.step (.free rfl) (OpT.move rfl (dlt rfl (by decide)) rfl ?_)
        refine TL'.step (.free rfl) (OpT.int2 rfl rfl (dlt rfl (by decide)) rfl rfl ?_)
        refine TL'.step (.free rfl) (OpT.assign rfl (dlt rfl (by decide)) rfl ?_)
        refine TL'.nil (thenS_normal ?_)
        refine TL.by_turn ?_ (ih (IntKind.i64.wrap (x4_0_3 + (1 : Int))) x0 y2_0_1 y3_0_2 b1_0 b2_0 b3_0 h)
        exact Turn.re (.cons rfl (.cons rfl (.cons rfl (.cons rfl (.nil _))))) (.cons 0 rfl (.cons 0 rfl (.cons 0 rfl (.nil _))))
    · refine T.condF rfl c_83 ?_
      refine T.exit (thenS_exit (thenS_exit (inBlock_exit (thenS_normal ?_))))
      refine T.seq ?_
      refine T.regionL ?_
      refine TL'.step (.free rfl) (OpT.loadBoxAgg (i := 2) (l := (Arr4.dc .u64 y3_0_2)) rfl (dlt rfl (by decide)) Tryd.underlying24 rfl i24 rfl rfl rfl rfl ?_)
      refine TL'.step (.free rfl) (OpT.storeAggTo (i := 1) (cells' := (Arr4.oc .u64 y3_0_2)) rfl rfl i24 rfl rfl rfl rfl (Nat.le_of_ble_eq_true rfl) rfl ?_)
      refine TL'.nil (thenS_normal ?_)
      refine T.ret ?_
      exact Fin.done (.cons _ _ _ _ (.cellAgg 2 24 _ 0 1 24 _ (Arr4.dc .u64 y3_0_2) _ _ 4 _ rfl rfl rfl rfl Tryd.underlying24 rfl i24) .nil) (by cases h; exact ⟨rfl, rfl⟩)

theorem raddleref01_Not_T {K : Nat} {x0 : Arr4} {r : Arr4} (h : raddleref01_Not K x0 = some r) : CallR Tryd.prog 29 [.agg (Arr4.dc .u64 x0)] [] (.agg (Arr4.dc .u64 r)) := by
  refine CallT.intro Tryd.func29 rfl (Nat.le_of_ble_eq_true rfl) ?_
  show T Tryd.prog 20 (Code.at [] (codeOf Tryd.f29)) ⟨paramSlots 0 [.agg (Arr4.dc .u64 x0)], []⟩ (raddleref01_Not_q r)
  unfold raddleref01_Not at h
  refine T.seq ?_
  refine T.regionL ?_
  refine TL'.step (.free rfl) (OpT.boxAgg rfl (dlt rfl (by decide)) rfl (fun b_80 => ?_))
  refine TL'.step (.free rfl) (OpT.alloc' rfl (dlt rfl (by decide)) i24 rfl (fun b_81 => ?_))
  refine TL'.nil (thenS_normal ?_)
  refine T.seq ?_
  refine T.regionL ?_
  refine TL'.step (.free rfl) (OpT.build (l := (Arr4.dc .u64 (Arr4.mk 0 0 0 0))) rfl (dlt rfl (by decide)) (built_arr Tryd.underlying24 i24 i22) (all1 rfl) rfl rfl ?_)
  refine TL'.step (.free rfl) (OpT.alloc' rfl (dlt rfl (by decide)) i24 rfl (fun b_82 => ?_))
  refine TL'.step (.free rfl) (OpT.storeAggTo (i := 0) (cells' := (Arr4.oc .u64 (Arr4.mk 0 0 0 0))) rfl rfl i24 rfl rfl rfl rfl (Nat.le_of_ble_eq_true rfl) rfl ?_)
  refine TL'.nil (thenS_normal ?_)
  refine T.seq ?_
  refine T.seq ?_
  refine T.regionL ?_
  refine TL'.step (.free rfl) (OpT.assign rfl (dlt rfl (by decide)) rfl ?_)
  refine TL'.nil (thenS_normal ?_)
  refine T.block ?_
  refine T.loop ?_
  refine TL.by_turn ?_ (raddleref01_Not_l0_T K K (0 : Int) x0 (Arr4.mk 0 0 0 0) (Arr4.mk 0 0 0 0) b_80 b_81 b_82 h)
  exact Turn.re (.cons rfl (.cons rfl (.cons rfl (.cons rfl (.nil _))))) (.cons 2 rfl (.cons 1 rfl (.cons 0 rfl (.nil _))))

abbrev raddleref01_And_q (r : Arr4) : Exit → St → Prop := retS Tryd.prog Tryd.f28 (fun y t => y = (.agg (Arr4.dc .u64 r)) ∧ t = [])

abbrev raddleref01_And_qs111 (r : Arr4) : Exit → St → Prop := thenS (fun s' => T Tryd.prog 22 (Code.at [1, 1, 1] (codeOf Tryd.f28)) s' ((raddleref01_And_q r))) ((raddleref01_And_q r))

abbrev raddleref01_And_qb0x111 (r : Arr4) : Exit → St → Prop := inBlockS 0 ((raddleref01_And_qs111 r))

theorem raddleref01_And_l0_T {r : Arr4} (K : Nat) : ∀ (k : Nat), ∀ (x0 : List Arr4) (x4_0_3 : Int) (y2_0_1 : Arr4) (y3_0_2 : List Arr4) (fl0 : Bool) (b2_0 : Nat) (w3_0 : Value), raddleref01_And_l0 K k x0 x4_0_3 y2_0_1 y3_0_2 = some r → TL Tryd.prog 22 (Code.at [1, 1, 0, 1, 0, 0] (codeOf Tryd.f28)) ⟨[(0, .c (.sl fl0 4 (x0.map (Arr4.dc .u64)))), (2, .c (.ex (.pointer (some ⟨b2_0, 0, none⟩)))), (3, .c (.ex w3_0)), (4, .c (.ex (.int .i64 x4_0_3)))], [.box b2_0 24 (Arr4.oc .u64 y2_0_1), .arrA w3_0 24 4 (y3_0_2.map (Arr4.dc .u64))]⟩ (raddleref01_And_qb0x111 r) := by
  intro k
  induction k with
  | zero =>
    intro x0 x4_0_3 y2_0_1 y3_0_2 fl0 b2_0 w3_0 h
    cases (show (none : Option Arr4) = some r from h)
  | succ k ih =>
    intro x0 x4_0_3 y2_0_1 y3_0_2 fl0 b2_0 w3_0 h
    rw [raddleref01_And_l0] at h
    refine TL.round ?_
    refine T.seq ?_
    refine T.seq ?_
    refine T.regionL ?_
    refine TL'.step (.free rfl) (OpT.move rfl (dlt rfl (by decide)) rfl ?_)
    refine TL'.step (.free rfl) (OpT.move rfl (dlt rfl (by decide)) rfl ?_)
    refine TL'.step (.free rfl) (OpT.lenSlM (xs := x0) (f := (Arr4.dc .u64)) rfl (dlt rfl (by decide)) Tryd.underlying33 rfl ?_)
    refine TL'.step (.free rfl) (OpT.int2 rfl rfl (dlt rfl (by decide)) rfl rfl ?_)
    refine TL'.nil (thenS_normal ?_)
    rcases bif_some h with ⟨c_98, h⟩ | ⟨c_98, h⟩
    · refine T.condT rfl c_98 ?_
      refine T.skip (thenS_normal ?_)
      refine T.seq ?_
      refine T.block ?_
      refine T.regionL ?_
      refine TL'.step (.free rfl) (OpT.move rfl (dlt rfl (by decide)) rfl ?_)
      refine TL'.step (.free rfl) (OpT.move rfl (dlt rfl (by decide)) rfl ?_)
      refine TL'.step (.free rfl) (OpT.move rfl (dlt rfl (by decide)) rfl ?_)
      obtain ⟨v_99, e_100, h⟩ := bind_some h
      refine TL'.step (.free rfl) (OpT.indexSlM (xs := x0) (f := (Arr4.dc .u64)) (v := v_99) rfl (dlt rfl (by decide)) Tryd.underlying33 i24 rfl rfl e_100 ?_)
      refine TL'.step (.free rfl) (OpT.loadRefAgg rfl (dlt rfl (by decide)) Tryd.underlying24 rfl i24 rfl (Nat.le_of_ble_eq_true rfl) ?_)
      obtain ⟨v_101, e_102, h⟩ := bind_some h
      refine TL'.step (.free rfl) (OpT.callP rfl (dlt rfl (by decide)) Tryd.func29 rfl rfl rfl (CallR.nil (raddleref01_Not_T e_102)) ?_)
      refine TL'.step (.free rfl) (OpT.buildSlice (elems := ([v_101] : List Arr4).map (Arr4.dc .u64)) rfl (dlt rfl (by decide)) Tryd.underlying33 i24 (by decide) rfl (all1 rfl) rfl rfl rfl (lenAll rfl) (by decide) ?_)
      obtain ⟨g_104, h⟩ := ck_some h
      refine TL'.step (.free rfl) (OpT.appendAM (i := 1) (xs := y3_0_2) (ys := [v_101]) (f := (Arr4.dc .u64)) rfl (dlt rfl (by decide)) Tryd.underlying33 i24 rfl rfl rfl rfl g_104 (fun w_103 => ?_))
      refine TL'.step (.free rfl) (OpT.assign rfl (dlt rfl (by decide)) rfl ?_)
      refine TL'.nil (inBlock_normal (thenS_normal ?_))
      refine T.regionL ?_
      refine TL'.step (.free rfl) (OpT.move rfl (dlt rfl (by decide)) rfl ?_)
      refine TL'.step (.free rfl) (OpT.int2 rfl rfl (dlt rfl (by decide)) rfl rfl ?_)
      refine TL'.step (.free rfl) (OpT.assign rfl (dlt rfl (by decide)) rfl ?_)
      refine TL'.nil (thenS_normal ?_)
      refine TL.by_turn ?_ (ih x0 (IntKind.i64.wrap (x4_0_3 + (1 : Int))) y2_0_1 (y3_0_2 ++ [v_101]) fl0 b2_0 w_103 h)
      exact Turn.re (.cons rfl (.cons rfl (.cons rfl (.cons rfl (.nil _))))) (.cons 0 rfl (.cons 0 rfl (.nil _)))
    · refine T.condF rfl c_98 ?_
      refine T.exit (thenS_exit (thenS_exit (inBlock_exit (thenS_normal ?_))))
      refine T.seq ?_
      refine T.regionL ?_
      refine TL'.step (.free rfl) (OpT.move rfl (dlt rfl (by decide)) rfl ?_)
      refine TL'.turn (Turn.view 19 1 rfl rfl) ?_
      obtain ⟨v_105, e_106, h⟩ := bind_some h
      refine TL'.step (.free rfl) (OpT.callP rfl (dlt rfl (by decide)) Tryd.func27 rfl rfl rfl (CallR.nil (raddleref01_Or_T (fl0 := false) e_106)) ?_)
      obtain ⟨v_107, e_108, h⟩ := bind_some h
      refine TL'.step (.free rfl) (OpT.callP rfl (dlt rfl (by decide)) Tryd.func29 rfl rfl rfl (CallR.nil (raddleref01_Not_T e_108)) ?_)
      refine TL'.step (.free rfl) (OpT.storeAggTo (i := 0) (cells' := (Arr4.oc .u64 v_107)) rfl rfl i24 rfl rfl rfl rfl (Nat.le_of_ble_eq_true rfl) rfl ?_)
      refine TL'.nil (thenS_normal ?_)
      refine T.ret ?_
      exact Fin.done (.cons _ _ _ _ (.cellAgg 2 24 _ 0 0 24 _ (Arr4.dc .u64 v_107) _ _ 4 _ rfl rfl rfl rfl Tryd.underlying24 rfl i24) .nil) (by cases h; exact ⟨rfl, rfl⟩)

theorem raddleref01_And_T {K : Nat} {x0 : List Arr4} {fl0 : Bool} {r : Arr4} (h : raddleref01_And K x0 = some r) : CallR Tryd.prog 28 [.c (.sl fl0 4 (x0.map (Arr4.dc .u64)))] [] (.agg (Arr4.dc .u64 r)) := by
  refine CallT.intro Tryd.func28 rfl (Nat.le_of_ble_eq_true rfl) ?_
  show T Tryd.prog 22 (Code.at [] (codeOf Tryd.f28)) ⟨paramSlots 0 [.c (.sl fl0 4 (x0.map (Arr4.dc .u64)))], []⟩ (raddleref01_And_q r)
  unfold raddleref01_And at h
  refine T.seq ?_
  refine T.regionL ?_
  refine TL'.step (.free rfl) (OpT.alloc' rfl (dlt rfl (by decide)) i24 rfl (fun b_97 => ?_))
  refine TL'.nil (thenS_normal ?_)
  refine T.seq ?_
  refine T.regionL ?_
  refine TL'.step (.free rfl) (OpT.assign rfl (dlt rfl (by decide)) rfl ?_)
  refine TL'.nil (thenS_normal ?_)
  refine T.seq ?_
  refine T.seq ?_
  refine T.regionL ?_
  refine TL'.step (.free rfl) (OpT.assign rfl (dlt rfl (by decide)) rfl ?_)
  refine TL'.nil (thenS_normal ?_)
  refine T.block ?_
  refine T.loop ?_
  refine TL.by_turn (Turn.nilA 24 4) ?_
  refine TL.by_turn ?_ (raddleref01_And_l0_T K K x0 (0 : Int) (Arr4.mk 0 0 0 0) [] fl0 b_97 (.slice none 0 0) h)
  exact Turn.re (.cons rfl (.cons rfl (.cons rfl (.cons rfl (.nil _))))) (.cons 1 rfl (.cons 0 rfl (.nil _)))

abbrev bset_Has_q (r : Bool) : Exit → St → Prop := retS Tryd.prog Tryd.f30 (fun y t => y = (.c (.ex (.bool r))) ∧ t = [])

theorem bset_Has_T {K : Nat} {x0 : Arr4} {x1 : Int} {r : Bool} (h : bset_Has K x0 x1 = some r) : CallR Tryd.prog 30 [.agg (Arr4.dc .u64 x0), .c (.ex (.int .u8 x1))] [] (.c (.ex (.bool r))) := by
  refine CallT.intro Tryd.func30 rfl (Nat.le_of_ble_eq_true rfl) ?_
  show T Tryd.prog 14 (Code.at [] (codeOf Tryd.f30)) ⟨paramSlots 0 [.agg (Arr4.dc .u64 x0), .c (.ex (.int .u8 x1))], []⟩ (bset_Has_q r)
  unfold bset_Has at h
  refine T.seq ?_
  refine T.regionL ?_
  refine TL'.step (.free rfl) (OpT.boxAgg rfl (dlt rfl (by decide)) rfl (fun b_10 => ?_))
  refine TL'.step (.free rfl) (OpT.assign rfl (dlt rfl (by decide)) rfl ?_)
  refine TL'.nil (thenS_normal ?_)
  refine T.seq ?_
  refine T.regionL ?_
  refine TL'.step (.free rfl) (OpT.move rfl (dlt rfl (by decide)) rfl ?_)
  refine TL'.step (.free rfl) (OpT.quo rfl (dlt rfl (by decide)) rfl rfl (by decide) ?_)
  obtain ⟨g_11, h⟩ := ck_some h
  refine TL'.step (.free rfl) (OpT.indexPtr rfl (dlt rfl (by decide)) Tryd.underlying24 i22 rfl rfl g_11.1 g_11.2 ?_)
  refine TL'.step (.free rfl) (OpT.loadBox (i := 0) rfl (dlt rfl (by decide)) Tryd.underlying22 rfl rfl rfl (Arr4.oc_get (k := .u64) (a := x0) (pre := []) (post := []) g_11.1 g_11.2) ?_)
  refine TL'.step (.free rfl) (OpT.move rfl (dlt rfl (by decide)) rfl ?_)
  refine TL'.step (.free rfl) (OpT.rem rfl (dlt rfl (by decide)) rfl rfl (by decide) ?_)
  obtain ⟨g_12, h⟩ := ck_some h
  refine TL'.step (.free rfl) (OpT.shr rfl (dlt rfl (by decide)) rfl rfl g_12 ?_)
  refine TL'.step (.free rfl) (OpT.int2 rfl rfl (dlt rfl (by decide)) rfl rfl ?_)
  refine TL'.step (.free rfl) (OpT.int2 rfl rfl (dlt rfl (by decide)) rfl rfl ?_)
  refine TL'.step (.free rfl) (OpT.assign rfl (dlt rfl (by decide)) rfl ?_)
  refine TL'.nil (thenS_normal ?_)
  refine T.ret ?_
  exact Fin.done (.cons _ _ _ _ (.tmp 4 _ rfl) .nil) (by cases h; exact ⟨rfl, rfl⟩)

end Go.Rv

/- Each function computes what its plain text says: printed by a program of ours. -/
import Derived.Test.YtaipjabggdifoaaRgW3
namespace Go.Rv
open Go.Proofs
set_option maxRecDepth 100000
set_option maxHeartbeats 4000000
set_option linter.unusedVariables false

abbrev raddleref01_with_q (r : Arr4) : Exit → St → Prop := retS Try.prog Try.f99 (fun y t => y = (.agg (Arr4.dc .u64 r)) ∧ t = [])

theorem raddleref01_with_T (K : Nat) {x0 : Arr4} {x1 : Int} {r : Arr4} (h : raddleref01_with K x0 x1 = some r) : CallR Try.prog 99 [.agg (Arr4.dc .u64 x0), .int .u8 x1] [] (.agg (Arr4.dc .u64 r)) := by
  refine CallT.intro Try.func99 rfl (Nat.le_of_ble_eq_true rfl) ?_
  show T Try.prog 21 (Code.at [] (codeOf Try.f99)) ⟨paramSlots 0 [.agg (Arr4.dc .u64 x0), .int .u8 x1], []⟩ (raddleref01_with_q r)
  unfold raddleref01_with at h
  refine T.seq ?_
  refine T.regionL ?_
  refine sp rfl (OpT.boxAgg rfl (dl rfl rfl) rfl (fun b_29 => ?_))
  refine sp rfl (OpT.alloc' rfl (dl rfl rfl) i102 rfl (fun b_30 => ?_))
  refine TL'.nil (thenS_normal ?_)
  refine T.seq ?_
  refine T.seq ?_
  refine T.regionL ?_
  refine sp rfl (OpT.loadBoxAgg (i := 1) (l := (Arr4.dc .u64 x0)) rfl (dl rfl rfl) Try.underlying102 rfl i102 rfl rfl rfl rfl ?_)
  refine mv rfl rfl rfl rfl rfl ?_
  obtain ⟨v_31, e_32, h⟩ := bind_some h
  refine sp rfl (OpT.callPA rfl (dl rfl rfl) Try.func72 rfl rfl (Args.cons rfl (Args.cons rfl Args.nil)) (CallR.nil (raddleref01_Has_T K e_32)) ?_)
  refine sp rfl (OpT.not rfl (dl rfl rfl) rfl ?_)
  refine TL'.nil (thenS_normal ?_)
  rcases bif_some h with ⟨c_33, h⟩ | ⟨c_33, h⟩
  · refine T.condT rfl c_33 ?_
    refine T.regionL ?_
    refine mv rfl rfl rfl rfl rfl ?_
    refine sp rfl (OpT.quo rfl (dl rfl rfl) rfl rfl (by decide) ?_)
    refine mv rfl rfl rfl rfl rfl ?_
    refine sp rfl (OpT.quo rfl (dl rfl rfl) rfl rfl (by decide) ?_)
    obtain ⟨g_34, h⟩ := ck_some h
    refine sp rfl (OpT.indexPtr rfl (dl rfl rfl) Try.underlying102 i100 rfl rfl g_34.1 g_34.2 ?_)
    refine sp rfl (OpT.loadBox (i := 1) rfl (dl rfl rfl) Try.underlying100 rfl rfl rfl (Arr4.oc_get (k := .u64) (a := x0) (pre := []) (post := []) g_34.1 g_34.2) ?_)
    refine mv rfl rfl rfl rfl rfl ?_
    refine sp rfl (OpT.rem rfl (dl rfl rfl) rfl rfl (by decide) ?_)
    obtain ⟨g_35, h⟩ := ck_some h
    refine sp rfl (OpT.shl rfl (dl rfl rfl) rfl rfl g_35 ?_)
    refine sp rfl (OpT.int2 rfl rfl (dl rfl rfl) rfl rfl ?_)
    refine sp rfl (OpT.indexPtr rfl (dl rfl rfl) Try.underlying102 i100 rfl rfl g_34.1 g_34.2 ?_)
    refine sp rfl (OpT.storeTo (i := 1) (cells' := (Arr4.oc .u64 (Arr4.set x0 (IntKind.u8.wrap (Int.tdiv x1 (64 : Int))) (IntKind.u64.wrap ((Arr4.get x0 (IntKind.u8.wrap (Int.tdiv x1 (64 : Int)))) + (IntKind.u64.wrap ((1 : Int) * 2 ^ min (Int.toNat (Int.tmod x1 (64 : Int))) IntKind.u64.bits))))))) rfl rfl i100 rfl rfl rfl (Arr4.oc_lt (k := .u64) (a := x0) (pre := []) (post := []) g_34.1 g_34.2) (Arr4.oc_set (k := .u64) (a := x0) (pre := []) (post := []) g_34.1 g_34.2) ?_)
    refine TL'.nil (thenS_normal ?_)
    refine T.seq ?_
    refine T.regionL ?_
    refine sp rfl (OpT.loadBoxAgg (i := 1) (l := (Arr4.dc .u64 (Arr4.set x0 (IntKind.u8.wrap (Int.tdiv x1 (64 : Int))) (IntKind.u64.wrap ((Arr4.get x0 (IntKind.u8.wrap (Int.tdiv x1 (64 : Int)))) + (IntKind.u64.wrap ((1 : Int) * 2 ^ min (Int.toNat (Int.tmod x1 (64 : Int))) IntKind.u64.bits))))))) rfl (dl rfl rfl) Try.underlying102 rfl i102 rfl rfl rfl rfl ?_)
    refine sp rfl (OpT.storeAggTo (i := 0) (cells' := (Arr4.oc .u64 (Arr4.set x0 (IntKind.u8.wrap (Int.tdiv x1 (64 : Int))) (IntKind.u64.wrap ((Arr4.get x0 (IntKind.u8.wrap (Int.tdiv x1 (64 : Int)))) + (IntKind.u64.wrap ((1 : Int) * 2 ^ min (Int.toNat (Int.tmod x1 (64 : Int))) IntKind.u64.bits))))))) rfl rfl i102 rfl rfl rfl rfl (Nat.le_of_ble_eq_true rfl) rfl ?_)
    refine TL'.nil (thenS_normal ?_)
    refine T.ret ?_
    exact Fin.done (.cons _ _ _ _ (.cellAgg 4 102 _ 0 0 102 _ (Arr4.dc .u64 (Arr4.set x0 (IntKind.u8.wrap (Int.tdiv x1 (64 : Int))) (IntKind.u64.wrap ((Arr4.get x0 (IntKind.u8.wrap (Int.tdiv x1 (64 : Int)))) + (IntKind.u64.wrap ((1 : Int) * 2 ^ min (Int.toNat (Int.tmod x1 (64 : Int))) IntKind.u64.bits)))))) _ _ 4 _ rfl rfl rfl rfl Try.underlying102 rfl i102) .nil) (by cases h; exact ⟨rfl, rfl⟩)
  · refine T.condF rfl c_33 ?_
    refine T.skip (thenS_normal ?_)
    refine T.seq ?_
    refine T.regionL ?_
    refine sp rfl (OpT.loadBoxAgg (i := 1) (l := (Arr4.dc .u64 x0)) rfl (dl rfl rfl) Try.underlying102 rfl i102 rfl rfl rfl rfl ?_)
    refine sp rfl (OpT.storeAggTo (i := 0) (cells' := (Arr4.oc .u64 x0)) rfl rfl i102 rfl rfl rfl rfl (Nat.le_of_ble_eq_true rfl) rfl ?_)
    refine TL'.nil (thenS_normal ?_)
    refine T.ret ?_
    exact Fin.done (.cons _ _ _ _ (.cellAgg 4 102 _ 0 0 102 _ (Arr4.dc .u64 x0) _ _ 4 _ rfl rfl rfl rfl Try.underlying102 rfl i102) .nil) (by cases h; exact ⟨rfl, rfl⟩)

abbrev raddleref01_Of_q (r : Arr4) : Exit → St → Prop := retS Try.prog Try.f96 (fun y t => y = (.agg (Arr4.dc .u64 r)) ∧ t = [])

abbrev raddleref01_Of_qs111 (r : Arr4) : Exit → St → Prop := thenS (fun s' => T Try.prog 19 (Code.at [1, 1, 1] (codeOf Try.f96)) s' ((raddleref01_Of_q r))) ((raddleref01_Of_q r))

abbrev raddleref01_Of_qb0x111 (r : Arr4) : Exit → St → Prop := inBlockS 0 ((raddleref01_Of_qs111 r))

theorem raddleref01_Of_l0_T {r : Arr4} (K : Nat) : ∀ (k : Nat), ∀ (x0 : List Int) (x4_0_3 : Int) (y2_0_1 : Arr4) (y3_0_2 : Arr4) (flx0 : Bool) (b2_0 : Nat) (b3_0 : Nat), raddleref01_Of_l0 K k x0 x4_0_3 y2_0_1 y3_0_2 = some r → TL Try.prog 19 (Code.at [1, 1, 0, 1, 0, 0] (codeOf Try.f96)) ⟨[(0, .sl flx0 1 (x0.map (cI .u8))), (2, .ptr b2_0 0), (3, .ptr b3_0 0), (4, .int .i64 x4_0_3)], [.box b2_0 102 (Arr4.oc .u64 y2_0_1), .box b3_0 102 (Arr4.oc .u64 y3_0_2)]⟩ (raddleref01_Of_qb0x111 r) := by
  intro k
  induction k with
  | zero =>
    intro x0 x4_0_3 y2_0_1 y3_0_2 flx0 b2_0 b3_0 h
    cases (show (none : Option Arr4) = some r from h)
  | succ k ih =>
    intro x0 x4_0_3 y2_0_1 y3_0_2 flx0 b2_0 b3_0 h
    rw [raddleref01_Of_l0] at h
    refine TL.round ?_
    refine T.seq ?_
    refine T.seq ?_
    refine T.regionL ?_
    refine mv rfl rfl rfl rfl rfl ?_
    refine mv rfl rfl rfl rfl rfl ?_
    refine sp rfl (OpT.lenSlM (xs := x0) (f := (cI .u8)) rfl (dl rfl rfl) Try.underlying29 rfl ?_)
    refine sp rfl (OpT.int2 rfl rfl (dl rfl rfl) rfl rfl ?_)
    refine TL'.nil (thenS_normal ?_)
    rcases bif_some h with ⟨c_99, h⟩ | ⟨c_99, h⟩
    · refine T.condT rfl c_99 ?_
      refine T.skip (thenS_normal ?_)
      refine T.seq ?_
      refine T.block ?_
      refine DG.start ?_
      refine DG.step (c := ⟨some 12, .agg (Arr4.dc .u64 y3_0_2), [(3, .ptr b3_0 0)], [(1, .box b3_0 102 (Arr4.oc .u64 y3_0_2))], []⟩) (fun t hm => One.step rfl (.free rfl) (OpT.loadBoxAgg (i := 1) (l := (Arr4.dc .u64 y3_0_2)) rfl (dl rfl rfl) Try.underlying102 rfl i102 hm.s0 hm.o0 rfl rfl rfl)) (Ct.met_of rfl rfl) ?_
      refine DG.mv rfl rfl rfl rfl rfl rfl ?_
      refine DG.mv rfl rfl rfl rfl rfl rfl ?_
      obtain ⟨v_105, e_106, h⟩ := bind_some h
      refine DG.step (c := ⟨some 15, .ref [.int .u8 v_105], [(13, .sl flx0 1 (x0.map (cI .u8))), (14, .int .i64 x4_0_3)], [], []⟩) (fun t hm => One.step rfl (.free rfl) (OpT.indexSlM (xs := x0) (f := (cI .u8)) (v := v_105) rfl (dl rfl rfl) Try.underlying29 i5 hm.s0 hm.s1 e_106 rfl)) (Ct.met_of rfl rfl) ?_
      refine DG.step (c := ⟨some 16, .int .u8 v_105, [(15, .ref [.int .u8 v_105])], [], []⟩) (fun t hm => One.step rfl (.free rfl) (OpT.loadRef rfl (dl rfl rfl) Try.underlying5 rfl hm.s0 rfl rfl)) (Ct.met_of rfl rfl) ?_
      obtain ⟨v_107, e_108, h⟩ := bind_some h
      refine DG.step (c := ⟨some 17, .agg (Arr4.dc .u64 v_107), [(12, .agg (Arr4.dc .u64 y3_0_2)), (16, .int .u8 v_105)], [], []⟩) (fun t hm => One.step rfl (.free rfl) (OpT.callPA rfl (dl rfl rfl) Try.func99 rfl rfl (Args.cons hm.s0 (Args.cons hm.s1 Args.nil)) (CallR.nil (raddleref01_with_T K e_108)) rfl)) (Ct.met_of rfl rfl) ?_
      refine DG.step (c := ⟨none, .any, [(3, .ptr b3_0 0), (17, .agg (Arr4.dc .u64 v_107))], [(1, .box b3_0 102 (Arr4.oc .u64 y3_0_2))], [(1, .box b3_0 102 (Arr4.oc .u64 v_107))]⟩) (fun t hm => One.step rfl (.free rfl) (OpT.storeAggTo (i := 1) (cells' := (Arr4.oc .u64 v_107)) rfl rfl i102 hm.s0 hm.s1 rfl hm.o0 (Nat.le_of_ble_eq_true rfl) rfl rfl)) (Ct.met_of rfl rfl) ?_
      refine DG.fin (s1 := ⟨[(0, .sl flx0 1 (x0.map (cI .u8))), (2, .ptr b2_0 0), (3, .ptr b3_0 0), (4, .int .i64 x4_0_3)], [.box b2_0 102 (Arr4.oc .u64 y2_0_1), .box b3_0 102 (Arr4.oc .u64 v_107)]⟩) (ms := [0, 0, 0, 6, 14, 31, 63]) TryMixed rfl (by kernel_rfl) (by kernel_rfl) (by kernel_rfl) (.cons rfl (.cons rfl (.cons rfl (.cons rfl (.nil _))))) rfl (fun u hu => (inBlock_normal (thenS_normal (T.by_turn hu ?_))))
      refine T.regionL ?_
      refine mv rfl rfl rfl rfl rfl ?_
      refine sp rfl (OpT.int2 rfl rfl (dl rfl rfl) rfl rfl ?_)
      refine asg rfl rfl rfl rfl rfl ?_
      refine TL'.nil (thenS_normal ?_)
      refine TL.by_turn ?_ (ih x0 (IntKind.i64.wrap (x4_0_3 + (1 : Int))) y2_0_1 v_107 flx0 b2_0 b3_0 h)
      exact Turn.rp (.cons rfl (.cons rfl (.cons rfl (.cons rfl (.nil _))))) (.c .z (.c .z (.n _)))
    · refine T.condF rfl c_99 ?_
      refine T.exit (thenS_exit (thenS_exit (inBlock_exit (thenS_normal ?_))))
      refine T.seq ?_
      refine T.regionL ?_
      refine sp rfl (OpT.loadBoxAgg (i := 1) (l := (Arr4.dc .u64 y3_0_2)) rfl (dl rfl rfl) Try.underlying102 rfl i102 rfl rfl rfl rfl ?_)
      refine sp rfl (OpT.storeAggTo (i := 0) (cells' := (Arr4.oc .u64 y3_0_2)) rfl rfl i102 rfl rfl rfl rfl (Nat.le_of_ble_eq_true rfl) rfl ?_)
      refine TL'.nil (thenS_normal ?_)
      refine T.ret ?_
      exact Fin.done (.cons _ _ _ _ (.cellAgg 2 102 _ 0 0 102 _ (Arr4.dc .u64 y3_0_2) _ _ 4 _ rfl rfl rfl rfl Try.underlying102 rfl i102) .nil) (by cases h; exact ⟨rfl, rfl⟩)

theorem raddleref01_Of_T (K : Nat) {x0 : List Int} {flx0 : Bool} {r : Arr4} (h : raddleref01_Of K x0 = some r) : CallR Try.prog 96 [.sl flx0 1 (x0.map (cI .u8))] [] (.agg (Arr4.dc .u64 r)) := by
  refine CallT.intro Try.func96 rfl (Nat.le_of_ble_eq_true rfl) ?_
  show T Try.prog 19 (Code.at [] (codeOf Try.f96)) ⟨paramSlots 0 [.sl flx0 1 (x0.map (cI .u8))], []⟩ (raddleref01_Of_q r)
  unfold raddleref01_Of at h
  refine T.seq ?_
  refine T.regionL ?_
  refine sp rfl (OpT.alloc' rfl (dl rfl rfl) i102 rfl (fun b_97 => ?_))
  refine TL'.nil (thenS_normal ?_)
  refine T.seq ?_
  refine T.regionL ?_
  refine sp rfl (OpT.build (l := (Arr4.dc .u64 (Arr4.mk 0 0 0 0))) rfl (dl rfl rfl) (built_arr Try.underlying102 i102 i100) (all1 rfl) rfl rfl ?_)
  refine sp rfl (OpT.alloc' rfl (dl rfl rfl) i102 rfl (fun b_98 => ?_))
  refine sp rfl (OpT.storeAggTo (i := 0) (cells' := (Arr4.oc .u64 (Arr4.mk 0 0 0 0))) rfl rfl i102 rfl rfl rfl rfl (Nat.le_of_ble_eq_true rfl) rfl ?_)
  refine TL'.nil (thenS_normal ?_)
  refine T.seq ?_
  refine T.seq ?_
  refine T.regionL ?_
  refine asg rfl rfl rfl rfl rfl ?_
  refine TL'.nil (thenS_normal ?_)
  refine T.block ?_
  refine T.loop ?_
  refine TL.by_turn ?_ (raddleref01_Of_l0_T K K x0 (0 : Int) (Arr4.mk 0 0 0 0) (Arr4.mk 0 0 0 0) flx0 b_97 b_98 h)
  exact Turn.rp (.cons rfl (.cons rfl (.cons rfl (.cons rfl (.nil _))))) (.c (.s .z) (.c .z (.n _)))

abbrev raddleref02_Set_q (r : Arr4) : Exit → St → Prop := retS Try.prog Try.f89 (fun y t => y = (.agg (Arr4.dc .u64 r)) ∧ t = [])

abbrev raddleref02_Set_qs111 (r : Arr4) : Exit → St → Prop := thenS (fun s' => T Try.prog 25 (Code.at [1, 1, 1] (codeOf Try.f89)) s' ((raddleref02_Set_q r))) ((raddleref02_Set_q r))

abbrev raddleref02_Set_qb0x111 (r : Arr4) : Exit → St → Prop := inBlockS 0 ((raddleref02_Set_qs111 r))

theorem raddleref02_Set_l0_T {r : Arr4} (K : Nat) : ∀ (k : Nat), ∀ (x1 : Int) (x6_0_5 : Int) (x0 : api_Split) (y4_0_3 : Arr4) (y5_0_4 : List Int) (b2_0 : Nat) (b4_0 : Nat) (w5_0 : Value), raddleref02_Set_l0 K k x1 x6_0_5 x0 y4_0_3 y5_0_4 = some r → TL Try.prog 25 (Code.at [1, 1, 0, 1, 0, 0] (codeOf Try.f89)) ⟨[(1, .int .i64 x1), (2, .ptr b2_0 0), (4, .ptr b4_0 0), (5, .c (.ex w5_0)), (6, .int .i64 x6_0_5)], [.box b2_0 24 ((ArrN.oc 256 .u8 x0.Of) ++ (([.d (.int .i64 x0.Many)] : List OC))), .box b4_0 102 (Arr4.oc .u64 y4_0_3), .arrA w5_0 5 1 (y5_0_4.map (cI .u8))]⟩ (raddleref02_Set_qb0x111 r) := by
  intro k
  induction k with
  | zero =>
    intro x1 x6_0_5 x0 y4_0_3 y5_0_4 b2_0 b4_0 w5_0 h
    cases (show (none : Option Arr4) = some r from h)
  | succ k ih =>
    intro x1 x6_0_5 x0 y4_0_3 y5_0_4 b2_0 b4_0 w5_0 h
    rw [raddleref02_Set_l0] at h
    refine TL.round ?_
    refine T.seq ?_
    refine T.seq ?_
    refine T.regionL ?_
    refine mv rfl rfl rfl rfl rfl ?_
    refine sp rfl (OpT.int2 rfl rfl (dl rfl rfl) rfl rfl ?_)
    refine TL'.nil (thenS_normal ?_)
    rcases bif_some h with ⟨c_74, h⟩ | ⟨c_74, h⟩
    · refine T.condT rfl c_74 ?_
      refine T.skip (thenS_normal ?_)
      refine T.seq ?_
      refine T.block ?_
      refine T.seq ?_
      refine T.regionL ?_
      refine mv rfl rfl rfl rfl rfl ?_
      refine sp rfl (OpT.fieldPtr rfl (dl rfl rfl) Try.underlying24 rfl i22 (by decide) rfl ?_)
      obtain ⟨g_75, h⟩ := ck_some h
      refine sp rfl (OpT.indexPtr rfl (dl rfl rfl) Try.underlying22 i5 rfl rfl g_75.1 g_75.2 ?_)
      refine sp rfl (OpT.loadBox (i := 0) rfl (dl rfl rfl) Try.underlying5 rfl rfl rfl (ArrN.oc_get (n := 256) (k := .u8) (a := x0.Of) (pre := []) (post := [.d (.int .i64 x0.Many)]) g_75.1 g_75.2) ?_)
      refine sp rfl (OpT.convInt rfl (dl rfl rfl) Try.underlying5 Try.underlying3 rfl ?_)
      refine mv rfl rfl rfl rfl rfl ?_
      refine sp rfl (OpT.int2 rfl rfl (dl rfl rfl) rfl rfl ?_)
      refine TL'.nil (thenS_normal ?_)
      rcases bif_some h with ⟨c_76, h⟩ | ⟨c_76, h⟩
      · refine T.condT rfl c_76 ?_
        refine T.regionL ?_
        refine mv rfl rfl rfl rfl rfl ?_
        refine mv rfl rfl rfl rfl rfl ?_
        refine sp rfl (OpT.convInt rfl (dl rfl rfl) Try.underlying3 Try.underlying5 rfl ?_)
        refine sp rfl (OpT.buildSlice (elems := ([(IntKind.u8.wrap x6_0_5)] : List Int).map (cI .u8)) rfl (dl rfl rfl) Try.underlying29 i5 (by decide) rfl (all1 rfl) rfl rfl rfl (lenAll rfl) (by decide) ?_)
        obtain ⟨g_78, h⟩ := ck_some h
        refine sp rfl (OpT.appendAM (i := 2) (xs := y5_0_4) (ys := [(IntKind.u8.wrap x6_0_5)]) (f := (cI .u8)) rfl (dl rfl rfl) Try.underlying29 i5 rfl rfl rfl rfl g_78 (fun w_77 => ?_))
        refine asg rfl rfl rfl rfl rfl ?_
        refine TL'.nil (inBlock_normal (thenS_normal ?_))
        refine T.regionL ?_
        refine mv rfl rfl rfl rfl rfl ?_
        refine sp rfl (OpT.int2 rfl rfl (dl rfl rfl) rfl rfl ?_)
        refine asg rfl rfl rfl rfl rfl ?_
        refine TL'.nil (thenS_normal ?_)
        refine TL.by_turn ?_ (ih x1 (IntKind.i64.wrap (x6_0_5 + (1 : Int))) x0 y4_0_3 (y5_0_4 ++ [(IntKind.u8.wrap x6_0_5)]) b2_0 b4_0 w_77 h)
        exact Turn.rp (.cons rfl (.cons rfl (.cons rfl (.cons rfl (.cons rfl (.nil _)))))) (.c .z (.c .z (.c .z (.n _))))
      · refine T.condF rfl c_76 ?_
        refine T.skip (inBlock_normal (thenS_normal ?_))
        refine T.regionL ?_
        refine mv rfl rfl rfl rfl rfl ?_
        refine sp rfl (OpT.int2 rfl rfl (dl rfl rfl) rfl rfl ?_)
        refine asg rfl rfl rfl rfl rfl ?_
        refine TL'.nil (thenS_normal ?_)
        refine TL.by_turn ?_ (ih x1 (IntKind.i64.wrap (x6_0_5 + (1 : Int))) x0 y4_0_3 y5_0_4 b2_0 b4_0 w5_0 h)
        exact Turn.rp (.cons rfl (.cons rfl (.cons rfl (.cons rfl (.cons rfl (.nil _)))))) (.c .z (.c .z (.c .z (.n _))))
    · refine T.condF rfl c_74 ?_
      refine T.exit (thenS_exit (thenS_exit (inBlock_exit (thenS_normal ?_))))
      refine T.seq ?_
      refine T.regionL ?_
      refine mv rfl rfl rfl rfl rfl ?_
      obtain ⟨v_79, e_80, h⟩ := bind_some h
      refine sp rfl (OpT.callPA rfl (dl rfl rfl) Try.func96 rfl rfl (Args.view (i := 2) rfl rfl Args.nil) (CallR.nil (raddleref01_Of_T K (flx0 := false) e_80)) ?_)
      refine sp rfl (OpT.storeAggTo (i := 1) (cells' := (Arr4.oc .u64 v_79)) rfl rfl i102 rfl rfl rfl rfl (Nat.le_of_ble_eq_true rfl) rfl ?_)
      refine TL'.nil (thenS_normal ?_)
      refine T.ret ?_
      exact Fin.done (.cons _ _ _ _ (.cellAgg 4 102 _ 0 1 102 _ (Arr4.dc .u64 v_79) _ _ 4 _ rfl rfl rfl rfl Try.underlying102 rfl i102) .nil) (by cases h; exact ⟨rfl, rfl⟩)

theorem raddleref02_Set_T (K : Nat) {x0 : api_Split} {x1 : Int} {r : Arr4} (h : raddleref02_Set K x0 x1 = some r) : CallR Try.prog 89 [.agg ((ArrN.dc 256 .u8 x0.Of) ++ (([.int .i64 x0.Many] : List DC))), .int .i64 x1] [] (.agg (Arr4.dc .u64 r)) := by
  refine CallT.intro Try.func89 rfl (Nat.le_of_ble_eq_true rfl) ?_
  show T Try.prog 25 (Code.at [] (codeOf Try.f89)) ⟨paramSlots 0 [.agg ((ArrN.dc 256 .u8 x0.Of) ++ (([.int .i64 x0.Many] : List DC))), .int .i64 x1], []⟩ (raddleref02_Set_q r)
  unfold raddleref02_Set at h
  refine T.seq ?_
  refine T.regionL ?_
  refine sp rfl (OpT.boxAgg rfl (dl rfl rfl) rfl (fun b_72 => ?_))
  refine sp rfl (OpT.alloc' rfl (dl rfl rfl) i102 rfl (fun b_73 => ?_))
  refine TL'.nil (thenS_normal ?_)
  refine T.seq ?_
  refine T.regionL ?_
  refine asg rfl rfl rfl rfl rfl ?_
  refine TL'.nil (thenS_normal ?_)
  refine T.seq ?_
  refine T.seq ?_
  refine T.regionL ?_
  refine asg rfl rfl rfl rfl rfl ?_
  refine TL'.nil (thenS_normal ?_)
  refine T.block ?_
  refine T.loop ?_
  refine TL.by_turn (Turn.nilA 5 1) ?_
  refine TL.by_turn ?_ (raddleref02_Set_l0_T K K x1 (0 : Int) x0 (Arr4.mk 0 0 0 0) [] b_72 b_73 (nilv 2) h)
  exact Turn.rp (.cons rfl (.cons rfl (.cons rfl (.cons rfl (.cons rfl (.nil _)))))) (.c (.s (.s .z)) (.c (.s .z) (.c .z (.n _))))

abbrev raddleref01_List_q (r : List Int) : Exit → St → Prop := retS Try.prog Try.f88 (fun y t => y = (.sl false 1 (r.map (cI .u8))) ∧ t = [])

abbrev raddleref01_List_qs111 (r : List Int) : Exit → St → Prop := thenS (fun s' => T Try.prog 19 (Code.at [1, 1, 1] (codeOf Try.f88)) s' ((raddleref01_List_q r))) ((raddleref01_List_q r))

abbrev raddleref01_List_qb0x111 (r : List Int) : Exit → St → Prop := inBlockS 0 ((raddleref01_List_qs111 r))

theorem raddleref01_List_l0_T {r : List Int} (K : Nat) : ∀ (k : Nat), ∀ (x4_0_2 : Int) (x0 : Arr4) (y3_0_1 : List Int) (b1_0 : Nat) (w3_0 : Value), raddleref01_List_l0 K k x4_0_2 x0 y3_0_1 = some r → TL Try.prog 19 (Code.at [1, 1, 0, 1, 0, 0] (codeOf Try.f88)) ⟨[(1, .ptr b1_0 0), (3, .c (.ex w3_0)), (4, .int .i64 x4_0_2)], [.box b1_0 102 (Arr4.oc .u64 x0), .arrA w3_0 5 1 (y3_0_1.map (cI .u8))]⟩ (raddleref01_List_qb0x111 r) := by
  intro k
  induction k with
  | zero =>
    intro x4_0_2 x0 y3_0_1 b1_0 w3_0 h
    cases (show (none : Option (List Int)) = some r from h)
  | succ k ih =>
    intro x4_0_2 x0 y3_0_1 b1_0 w3_0 h
    rw [raddleref01_List_l0] at h
    refine TL.round ?_
    refine T.seq ?_
    refine T.seq ?_
    refine T.regionL ?_
    refine mv rfl rfl rfl rfl rfl ?_
    refine sp rfl (OpT.int2 rfl rfl (dl rfl rfl) rfl rfl ?_)
    refine TL'.nil (thenS_normal ?_)
    rcases bif_some h with ⟨c_63, h⟩ | ⟨c_63, h⟩
    · refine T.condT rfl c_63 ?_
      refine T.skip (thenS_normal ?_)
      refine T.seq ?_
      refine T.block ?_
      refine T.seq ?_
      refine T.regionL ?_
      refine sp rfl (OpT.loadBoxAgg (i := 0) (l := (Arr4.dc .u64 x0)) rfl (dl rfl rfl) Try.underlying102 rfl i102 rfl rfl rfl rfl ?_)
      refine mv rfl rfl rfl rfl rfl ?_
      refine sp rfl (OpT.convInt rfl (dl rfl rfl) Try.underlying3 Try.underlying5 rfl ?_)
      obtain ⟨v_64, e_65, h⟩ := bind_some h
      refine sp rfl (OpT.callPA rfl (dl rfl rfl) Try.func72 rfl rfl (Args.cons rfl (Args.cons rfl Args.nil)) (CallR.nil (raddleref01_Has_T K e_65)) ?_)
      refine TL'.nil (thenS_normal ?_)
      rcases bif_some h with ⟨c_66, h⟩ | ⟨c_66, h⟩
      · refine T.condT rfl c_66 ?_
        refine T.regionL ?_
        refine mv rfl rfl rfl rfl rfl ?_
        refine mv rfl rfl rfl rfl rfl ?_
        refine sp rfl (OpT.convInt rfl (dl rfl rfl) Try.underlying3 Try.underlying5 rfl ?_)
        refine sp rfl (OpT.buildSlice (elems := ([(IntKind.u8.wrap x4_0_2)] : List Int).map (cI .u8)) rfl (dl rfl rfl) Try.underlying29 i5 (by decide) rfl (all1 rfl) rfl rfl rfl (lenAll rfl) (by decide) ?_)
        obtain ⟨g_68, h⟩ := ck_some h
        refine sp rfl (OpT.appendAM (i := 1) (xs := y3_0_1) (ys := [(IntKind.u8.wrap x4_0_2)]) (f := (cI .u8)) rfl (dl rfl rfl) Try.underlying29 i5 rfl rfl rfl rfl g_68 (fun w_67 => ?_))
        refine asg rfl rfl rfl rfl rfl ?_
        refine TL'.nil (inBlock_normal (thenS_normal ?_))
        refine T.regionL ?_
        refine mv rfl rfl rfl rfl rfl ?_
        refine sp rfl (OpT.int2 rfl rfl (dl rfl rfl) rfl rfl ?_)
        refine asg rfl rfl rfl rfl rfl ?_
        refine TL'.nil (thenS_normal ?_)
        refine TL.by_turn ?_ (ih (IntKind.i64.wrap (x4_0_2 + (1 : Int))) x0 (y3_0_1 ++ [(IntKind.u8.wrap x4_0_2)]) b1_0 w_67 h)
        exact Turn.rp (.cons rfl (.cons rfl (.cons rfl (.nil _)))) (.c .z (.c .z (.n _)))
      · refine T.condF rfl c_66 ?_
        refine T.skip (inBlock_normal (thenS_normal ?_))
        refine T.regionL ?_
        refine mv rfl rfl rfl rfl rfl ?_
        refine sp rfl (OpT.int2 rfl rfl (dl rfl rfl) rfl rfl ?_)
        refine asg rfl rfl rfl rfl rfl ?_
        refine TL'.nil (thenS_normal ?_)
        refine TL.by_turn ?_ (ih (IntKind.i64.wrap (x4_0_2 + (1 : Int))) x0 y3_0_1 b1_0 w3_0 h)
        exact Turn.rp (.cons rfl (.cons rfl (.cons rfl (.nil _)))) (.c .z (.c .z (.n _)))
    · refine T.condF rfl c_63 ?_
      refine T.exit (thenS_exit (thenS_exit (inBlock_exit (thenS_normal ?_))))
      refine T.seq ?_
      refine T.regionL ?_
      refine mv rfl rfl rfl rfl rfl ?_
      refine asg rfl rfl rfl rfl rfl ?_
      refine TL'.nil (thenS_normal ?_)
      refine T.ret ?_
      refine Fin.turn (Turn.view 2 1 rfl rfl) ?_
      exact Fin.done (.cons _ _ _ _ (.tmp 2 _ rfl) .nil) (by cases h; exact ⟨rfl, rfl⟩)

theorem raddleref01_List_T (K : Nat) {x0 : Arr4} {r : List Int} (h : raddleref01_List K x0 = some r) : CallR Try.prog 88 [.agg (Arr4.dc .u64 x0)] [] (.sl false 1 (r.map (cI .u8))) := by
  refine CallT.intro Try.func88 rfl (Nat.le_of_ble_eq_true rfl) ?_
  show T Try.prog 19 (Code.at [] (codeOf Try.f88)) ⟨paramSlots 0 [.agg (Arr4.dc .u64 x0)], []⟩ (raddleref01_List_q r)
  unfold raddleref01_List at h
  refine T.seq ?_
  refine T.regionL ?_
  refine sp rfl (OpT.boxAgg rfl (dl rfl rfl) rfl (fun b_62 => ?_))
  refine asg rfl rfl rfl rfl rfl ?_
  refine TL'.nil (thenS_normal ?_)
  refine T.seq ?_
  refine T.regionL ?_
  refine asg rfl rfl rfl rfl rfl ?_
  refine TL'.nil (thenS_normal ?_)
  refine T.seq ?_
  refine T.seq ?_
  refine T.regionL ?_
  refine asg rfl rfl rfl rfl rfl ?_
  refine TL'.nil (thenS_normal ?_)
  refine T.block ?_
  refine T.loop ?_
  refine TL.by_turn (Turn.nilA 5 1) ?_
  refine TL.by_turn ?_ (raddleref01_List_l0_T K K (0 : Int) x0 [] b_62 (nilv 2) h)
  exact Turn.rp (.cons rfl (.cons rfl (.cons rfl (.nil _)))) (.c (.s .z) (.c .z (.n _)))

abbrev raddleref02_First_q (r : List Int) : Exit → St → Prop := retS Try.prog Try.f71 (fun y t => y = (.sl false 1 (r.map (cI .u8))) ∧ t = [])

abbrev raddleref02_First_qs11 (r : List Int) : Exit → St → Prop := thenS (fun s' => T Try.prog 37 (Code.at [1, 1] (codeOf Try.f71)) s' ((raddleref02_First_q r))) ((raddleref02_First_q r))

abbrev raddleref02_First_qs1111 (r : List Int) : Exit → St → Prop := thenS (fun s' => T Try.prog 37 (Code.at [1, 1, 1, 1] (codeOf Try.f71)) s' ((raddleref02_First_q r))) ((raddleref02_First_q r))

abbrev raddleref02_First_qb0x1111 (r : List Int) : Exit → St → Prop := inBlockS 0 ((raddleref02_First_qs1111 r))

theorem raddleref02_First_j0_T {r : List Int} (K : Nat) (h : raddleref02_First_j0 K = some r) : T Try.prog 37 (Code.at [1, 0, 1, 0] (codeOf Try.f71)) ⟨[], []⟩ (raddleref02_First_qs11 r) := by
  unfold raddleref02_First_j0 at h
  refine T.seq ?_
  refine T.regionL ?_
  refine asg rfl rfl rfl rfl rfl ?_
  refine TL'.nil (thenS_normal ?_)
  refine T.ret (thenS_ret ?_)
  refine Fin.turn (Turn.nilSl 2 false 1 rfl) ?_
  exact Fin.done (.cons _ _ _ _ (.tmp 2 _ rfl) .nil) (by cases h; exact ⟨rfl, rfl⟩)

theorem raddleref02_First_l1_T {r : List Int} (K : Nat) : ∀ (k : Nat), ∀ (x4_1_3 : Int) (x0 : api_Split) (y3_1_2 : List Int) (b1_1 : Nat) (w3_1 : Value), raddleref02_First_l1 K k x4_1_3 x0 y3_1_2 = some r → TL Try.prog 37 (Code.at [1, 1, 1, 0, 1, 0, 0] (codeOf Try.f71)) ⟨[(1, .ptr b1_1 0), (3, .c (.ex w3_1)), (4, .int .i64 x4_1_3)], [.box b1_1 24 ((ArrN.oc 256 .u8 x0.Of) ++ (([.d (.int .i64 x0.Many)] : List OC))), .arrA w3_1 5 1 (y3_1_2.map (cI .u8))]⟩ (raddleref02_First_qb0x1111 r) := by
  intro k
  induction k with
  | zero =>
    intro x4_1_3 x0 y3_1_2 b1_1 w3_1 h
    cases (show (none : Option (List Int)) = some r from h)
  | succ k ih =>
    intro x4_1_3 x0 y3_1_2 b1_1 w3_1 h
    rw [raddleref02_First_l1] at h
    refine TL.round ?_
    refine T.seq ?_
    refine T.seq ?_
    refine T.regionL ?_
    refine mv rfl rfl rfl rfl rfl ?_
    refine sp rfl (OpT.fieldPtr rfl (dl rfl rfl) Try.underlying24 rfl i3 (by decide) rfl ?_)
    refine sp rfl (OpT.loadBox (i := 0) rfl (dl rfl rfl) Try.underlying3 rfl rfl rfl rfl ?_)
    refine sp rfl (OpT.int2 rfl rfl (dl rfl rfl) rfl rfl ?_)
    refine TL'.nil (thenS_normal ?_)
    rcases bif_some h with ⟨c_139, h⟩ | ⟨c_139, h⟩
    · refine T.condT rfl c_139 ?_
      refine T.skip (thenS_normal ?_)
      refine T.seq ?_
      refine T.block ?_
      refine T.seq ?_
      refine T.regionL ?_
      refine sp rfl (OpT.loadBoxAgg (i := 0) (l := ((ArrN.dc 256 .u8 x0.Of) ++ (([.int .i64 x0.Many] : List DC)))) rfl (dl rfl rfl) Try.underlying24 rfl i24 rfl rfl rfl rfl ?_)
      refine mv rfl rfl rfl rfl rfl ?_
      obtain ⟨v_140, e_141, h⟩ := bind_some h
      refine sp rfl (OpT.callPA rfl (dl rfl rfl) Try.func89 rfl rfl (Args.cons rfl (Args.cons rfl Args.nil)) (CallR.nil (raddleref02_Set_T K e_141)) ?_)
      obtain ⟨v_142, e_143, h⟩ := bind_some h
      refine sp rfl (OpT.callPA rfl (dl rfl rfl) Try.func88 rfl rfl (Args.cons rfl Args.nil) (CallR.nil (raddleref01_List_T K e_143)) ?_)
      refine asg rfl rfl rfl rfl rfl ?_
      refine TL'.nil (thenS_normal ?_)
      refine T.seq ?_
      refine T.regionL ?_
      refine mv rfl rfl rfl rfl rfl ?_
      refine sp rfl (OpT.lenSlM (xs := v_142) (f := (cI .u8)) rfl (dl rfl rfl) Try.underlying29 rfl ?_)
      refine sp rfl (OpT.int2 rfl rfl (dl rfl rfl) rfl rfl ?_)
      refine TL'.nil (thenS_normal ?_)
      rcases bif_some h with ⟨c_144, h⟩ | ⟨c_144, h⟩
      · refine T.condT rfl c_144 ?_
        refine T.regionL ?_
        refine mv rfl rfl rfl rfl rfl ?_
        refine sp rfl (OpT.buildSlice (elems := ([(0 : Int)] : List Int).map (cI .u8)) rfl (dl rfl rfl) Try.underlying29 i5 (by decide) rfl (all1 rfl) rfl rfl rfl (lenAll rfl) (by decide) ?_)
        obtain ⟨g_146, h⟩ := ck_some h
        refine sp rfl (OpT.appendAM (i := 1) (xs := y3_1_2) (ys := [(0 : Int)]) (f := (cI .u8)) rfl (dl rfl rfl) Try.underlying29 i5 rfl rfl rfl rfl g_146 (fun w_145 => ?_))
        refine asg rfl rfl rfl rfl rfl ?_
        refine TL'.nil (inBlock_normal (thenS_normal ?_))
        refine T.regionL ?_
        refine mv rfl rfl rfl rfl rfl ?_
        refine sp rfl (OpT.int2 rfl rfl (dl rfl rfl) rfl rfl ?_)
        refine asg rfl rfl rfl rfl rfl ?_
        refine TL'.nil (thenS_normal ?_)
        refine TL.by_turn ?_ (ih (IntKind.i64.wrap (x4_1_3 + (1 : Int))) x0 (y3_1_2 ++ [(0 : Int)]) b1_1 w_145 h)
        exact Turn.rp (.cons rfl (.cons rfl (.cons rfl (.nil _)))) (.c .z (.c .z (.n _)))
      · refine T.condF rfl c_144 ?_
        refine T.regionL ?_
        refine mv rfl rfl rfl rfl rfl ?_
        refine mv rfl rfl rfl rfl rfl ?_
        obtain ⟨v_147, e_148, h⟩ := bind_some h
        refine sp rfl (OpT.indexSlM (xs := v_142) (f := (cI .u8)) (v := v_147) rfl (dl rfl rfl) Try.underlying29 i5 rfl rfl e_148 ?_)
        refine sp rfl (OpT.loadRef rfl (dl rfl rfl) Try.underlying5 rfl rfl rfl ?_)
        refine sp rfl (OpT.buildSlice (elems := ([v_147] : List Int).map (cI .u8)) rfl (dl rfl rfl) Try.underlying29 i5 (by decide) rfl (all1 rfl) rfl rfl rfl (lenAll rfl) (by decide) ?_)
        obtain ⟨g_150, h⟩ := ck_some h
        refine sp rfl (OpT.appendAM (i := 1) (xs := y3_1_2) (ys := [v_147]) (f := (cI .u8)) rfl (dl rfl rfl) Try.underlying29 i5 rfl rfl rfl rfl g_150 (fun w_149 => ?_))
        refine asg rfl rfl rfl rfl rfl ?_
        refine TL'.nil (inBlock_normal (thenS_normal ?_))
        refine T.regionL ?_
        refine mv rfl rfl rfl rfl rfl ?_
        refine sp rfl (OpT.int2 rfl rfl (dl rfl rfl) rfl rfl ?_)
        refine asg rfl rfl rfl rfl rfl ?_
        refine TL'.nil (thenS_normal ?_)
        refine TL.by_turn ?_ (ih (IntKind.i64.wrap (x4_1_3 + (1 : Int))) x0 (y3_1_2 ++ [v_147]) b1_1 w_149 h)
        exact Turn.rp (.cons rfl (.cons rfl (.cons rfl (.nil _)))) (.c .z (.c .z (.n _)))
    · refine T.condF rfl c_139 ?_
      refine T.exit (thenS_exit (thenS_exit (inBlock_exit (thenS_normal ?_))))
      refine T.seq ?_
      refine T.regionL ?_
      refine mv rfl rfl rfl rfl rfl ?_
      refine asg rfl rfl rfl rfl rfl ?_
      refine TL'.nil (thenS_normal ?_)
      refine T.ret ?_
      refine Fin.turn (Turn.view 2 1 rfl rfl) ?_
      exact Fin.done (.cons _ _ _ _ (.tmp 2 _ rfl) .nil) (by cases h; exact ⟨rfl, rfl⟩)

theorem raddleref02_First_T (K : Nat) {x0 : api_Split} {r : List Int} (h : raddleref02_First K x0 = some r) : CallR Try.prog 71 [.agg ((ArrN.dc 256 .u8 x0.Of) ++ (([.int .i64 x0.Many] : List DC)))] [] (.sl false 1 (r.map (cI .u8))) := by
  refine CallT.intro Try.func71 rfl (Nat.le_of_ble_eq_true rfl) ?_
  show T Try.prog 37 (Code.at [] (codeOf Try.f71)) ⟨paramSlots 0 [.agg ((ArrN.dc 256 .u8 x0.Of) ++ (([.int .i64 x0.Many] : List DC)))], []⟩ (raddleref02_First_q r)
  unfold raddleref02_First at h
  refine T.seq ?_
  refine T.regionL ?_
  refine sp rfl (OpT.boxAgg rfl (dl rfl rfl) rfl (fun b_136 => ?_))
  refine asg rfl rfl rfl rfl rfl ?_
  refine TL'.nil (thenS_normal ?_)
  refine T.seq ?_
  refine T.seq ?_
  refine T.regionL ?_
  refine sp rfl (OpT.fieldPtr rfl (dl rfl rfl) Try.underlying24 rfl i3 (by decide) rfl ?_)
  refine sp rfl (OpT.loadBox (i := 0) rfl (dl rfl rfl) Try.underlying3 rfl rfl rfl rfl ?_)
  refine sp rfl (OpT.int2 rfl rfl (dl rfl rfl) rfl rfl ?_)
  refine mv rfl rfl rfl rfl rfl ?_
  rcases bif_some h with ⟨c_137, h⟩ | ⟨c_137, h⟩
  · refine TL'.passU (.off _ _ _ _ rfl rfl rfl c_137) (dl rfl rfl) ?_
    refine TL'.passU (.off _ _ _ _ rfl rfl rfl c_137) (dl rfl rfl) ?_
    refine TL'.passU (.off _ _ _ _ rfl rfl rfl c_137) (dl rfl rfl) ?_
    refine sp rfl (OpT.pickT rfl (dl rfl rfl) rfl c_137 rfl ?_)
    refine TL'.nil (thenS_normal ?_)
    refine T.condT rfl rfl ?_
    refine T.by_turn ?_ (raddleref02_First_j0_T K h)
    exact Turn.rp (.nil _) (.n _)
  · refine TL'.step (.on rfl rfl rfl c_137) (OpT.fieldPtr rfl (dl rfl rfl) Try.underlying24 rfl i3 (by decide) rfl ?_)
    refine TL'.step (.on rfl rfl rfl c_137) (OpT.loadBox (i := 0) rfl (dl rfl rfl) Try.underlying3 rfl rfl rfl rfl ?_)
    refine TL'.step (.on rfl rfl rfl c_137) (OpT.int2 rfl rfl (dl rfl rfl) rfl rfl ?_)
    refine sp rfl (OpT.pickF rfl (dl rfl rfl) rfl c_137 rfl ?_)
    refine TL'.nil (thenS_normal ?_)
    rcases bif_some h with ⟨c_138, h⟩ | ⟨c_138, h⟩
    · refine T.condT rfl c_138 ?_
      refine T.by_turn ?_ (raddleref02_First_j0_T K h)
      exact Turn.rp (.nil _) (.n _)
    · refine T.condF rfl c_138 ?_
      refine T.skip (thenS_normal ?_)
      refine T.seq ?_
      refine T.regionL ?_
      refine asg rfl rfl rfl rfl rfl ?_
      refine TL'.nil (thenS_normal ?_)
      refine T.seq ?_
      refine T.seq ?_
      refine T.regionL ?_
      refine asg rfl rfl rfl rfl rfl ?_
      refine TL'.nil (thenS_normal ?_)
      refine T.block ?_
      refine T.loop ?_
      refine TL.by_turn (Turn.nilA 5 1) ?_
      refine TL.by_turn ?_ (raddleref02_First_l1_T K K (0 : Int) x0 [] b_136 (nilv 2) h)
      exact Turn.rp (.cons rfl (.cons rfl (.cons rfl (.nil _)))) (.c (.s .z) (.c .z (.n _)))

abbrev raddleref11_builder_enters_q (bx0 : Nat) (x0 : raddleref11_builder) (r : Bool) : Exit → St → Prop := retS Try.prog Try.f73 (fun y t => ∃ γ : Nat → Value, y = (.bool r) ∧ t = [.box bx0 98 (([.d (.sl false 1 (x0.g.First.map (cI .i64))), .d (.sl false 9 (x0.g.P.map c_api_Pos)), .d (.ex (γ 0))] : List OC) ++ ((ArrN.oc 256 .u8 x0.a.Split.Of) ++ (([.d (.int .i64 x0.a.Split.Many), .d (.ex (γ 1)), .d (.ex (γ 2)), .d (.int .i64 x0.e)] : List OC)))), .arrA (γ 0) 3 1 (x0.number.map (cI .i64)), .arrA (γ 1) 42 2 (x0.a.Counts.map (Arr2.dc .i64)), .arrX (γ 2) 59 4 0 (x0.a.States.map c_api_State)])

abbrev raddleref11_builder_enters_qs111 (bx0 : Nat) (x0 : raddleref11_builder) (r : Bool) : Exit → St → Prop := thenS (fun s' => T Try.prog 54 (Code.at [1, 1, 1] (codeOf Try.f73)) s' ((raddleref11_builder_enters_q bx0 x0 r))) ((raddleref11_builder_enters_q bx0 x0 r))

abbrev raddleref11_builder_enters_qb0x111 (bx0 : Nat) (x0 : raddleref11_builder) (r : Bool) : Exit → St → Prop := inBlockS 0 ((raddleref11_builder_enters_qs111 bx0 x0 r))

theorem raddleref11_builder_enters_l0_T {r : Bool} (K : Nat) (bx0 : Nat) (x0 : raddleref11_builder) : ∀ (k : Nat), ∀ (x3 : Int) (x4 : Int) (x11_0_14 : Int) (x0 : raddleref11_builder) (x2 : api_State) (w0_0 : Value) (w0_0a : Value) (w0_0aa : Value) (b7_0 : Nat), raddleref11_builder_enters_l0 K k x3 x4 x11_0_14 x0 x2 = some r → TL Try.prog 54 (Code.at [1, 1, 0, 1, 0, 0] (codeOf Try.f73)) ⟨[(0, .ptr bx0 0), (3, .int .i64 x3), (4, .int .i64 x4), (7, .ptr b7_0 0), (11, .int .i64 x11_0_14)], [.box bx0 98 (([.d (.sl false 1 (x0.g.First.map (cI .i64))), .d (.sl false 9 (x0.g.P.map c_api_Pos)), .d (.ex w0_0)] : List OC) ++ ((ArrN.oc 256 .u8 x0.a.Split.Of) ++ (([.d (.int .i64 x0.a.Split.Many), .d (.ex w0_0a), .d (.ex w0_0aa), .d (.int .i64 x0.e)] : List OC)))), .arrA w0_0 3 1 (x0.number.map (cI .i64)), .arrA w0_0a 42 2 (x0.a.Counts.map (Arr2.dc .i64)), .arrX w0_0aa 59 4 0 (x0.a.States.map c_api_State), .box b7_0 59 [.d (.sl false 1 (x2.L.map (cI .i64))), .d (.sl false 1 (x2.R.map (cI .i64))), .d (.sl false 1 (x2.Rule.map (cI .i64))), .d (.sl false 1 (x2.Next.map (cL 2 c_api_Move)))]]⟩ (raddleref11_builder_enters_qb0x111 bx0 x0 r) := by
  intro k
  induction k with
  | zero =>
    intro x3 x4 x11_0_14 x0 x2 w0_0 w0_0a w0_0aa b7_0 h
    cases (show (none : Option Bool) = some r from h)
  | succ k ih =>
    intro x3 x4 x11_0_14 x0 x2 w0_0 w0_0a w0_0aa b7_0 h
    rw [raddleref11_builder_enters_l0] at h
    refine TL.round ?_
    refine T.seq ?_
    refine T.seq ?_
    refine T.regionL ?_
    refine mv rfl rfl rfl rfl rfl ?_
    refine sp rfl (OpT.fieldPtr rfl (dl rfl rfl) Try.underlying59 rfl i56 (by decide) rfl ?_)
    refine sp rfl (OpT.loadBox (i := 4) rfl (dl rfl rfl) Try.underlying56 rfl rfl rfl rfl ?_)
    refine sp rfl (OpT.lenSlM (xs := x2.L) (f := (cI .i64)) rfl (dl rfl rfl) Try.underlying56 rfl ?_)
    refine sp rfl (OpT.int2 rfl rfl (dl rfl rfl) rfl rfl ?_)
    refine TL'.nil (thenS_normal ?_)
    rcases bif_some h with ⟨c_230, h⟩ | ⟨c_230, h⟩
    · refine T.condT rfl c_230 ?_
      refine T.skip (thenS_normal ?_)
      refine T.seq ?_
      refine T.block ?_
      refine T.seq ?_
      refine DGG.start ?_
      refine DGG.step (c := fun γ_231 => ⟨some 28, .ptr bx0 0, [(0, .ptr bx0 0)], [], []⟩) [] (fun _ _ _ => rfl) (fun γ_231 t hm => One.step rfl (.free rfl) (OpT.move rfl (dl rfl rfl) hm.s0 ⟨(fun _ => undef, 0), rfl⟩)) (fun γ_231 => Ct.met_of rfl rfl) ?_
      refine DGG.step (c := fun γ_231 => ⟨some 29, .agg [.sl false 1 (x2.L.map (cI .i64)), .sl false 1 (x2.R.map (cI .i64)), .sl false 1 (x2.Rule.map (cI .i64)), .sl false 1 (x2.Next.map (cL 2 c_api_Move))], [(7, .ptr b7_0 0)], [(4, .box b7_0 59 [.d (.sl false 1 (x2.L.map (cI .i64))), .d (.sl false 1 (x2.R.map (cI .i64))), .d (.sl false 1 (x2.Rule.map (cI .i64))), .d (.sl false 1 (x2.Next.map (cL 2 c_api_Move)))])], []⟩) [] (fun _ _ _ => rfl) (fun γ_231 t hm => One.step rfl (.free rfl) (OpT.loadBoxAgg (i := 4) (l := [.sl false 1 (x2.L.map (cI .i64)), .sl false 1 (x2.R.map (cI .i64)), .sl false 1 (x2.Rule.map (cI .i64)), .sl false 1 (x2.Next.map (cL 2 c_api_Move))]) rfl (dl rfl rfl) Try.underlying59 rfl i59 hm.s0 hm.o0 rfl rfl ⟨(fun _ => undef, 0), rfl⟩)) (fun γ_231 => Ct.met_of rfl rfl) ?_
      refine DGG.step (c := fun γ_231 => ⟨some 30, .int .i64 x3, [(3, .int .i64 x3)], [], []⟩) [] (fun _ _ _ => rfl) (fun γ_231 t hm => One.step rfl (.free rfl) (OpT.move rfl (dl rfl rfl) hm.s0 ⟨(fun _ => undef, 0), rfl⟩)) (fun γ_231 => Ct.met_of rfl rfl) ?_
      refine DGG.step (c := fun γ_231 => ⟨some 31, .ptr b7_0 (0 + 0), [(7, .ptr b7_0 0)], [], []⟩) [] (fun _ _ _ => rfl) (fun γ_231 t hm => One.step rfl (.free rfl) (OpT.fieldPtr rfl (dl rfl rfl) Try.underlying59 rfl i56 (by decide) hm.s0 ⟨(fun _ => undef, 0), rfl⟩)) (fun γ_231 => Ct.met_of rfl rfl) ?_
      refine DGG.step (c := fun γ_231 => ⟨some 32, .sl false 1 (x2.L.map (cI .i64)), [(31, .ptr b7_0 (0 + 0))], [(4, .box b7_0 59 [.d (.sl false 1 (x2.L.map (cI .i64))), .d (.sl false 1 (x2.R.map (cI .i64))), .d (.sl false 1 (x2.Rule.map (cI .i64))), .d (.sl false 1 (x2.Next.map (cL 2 c_api_Move)))])], []⟩) [] (fun _ _ _ => rfl) (fun γ_231 t hm => One.step rfl (.free rfl) (OpT.loadBox (i := 4) rfl (dl rfl rfl) Try.underlying56 rfl hm.s0 hm.o0 rfl ⟨(fun _ => undef, 0), rfl⟩)) (fun γ_231 => Ct.met_of rfl rfl) ?_
      refine DGG.step (c := fun γ_231 => ⟨some 33, .int .i64 x11_0_14, [(11, .int .i64 x11_0_14)], [], []⟩) [] (fun _ _ _ => rfl) (fun γ_231 t hm => One.step rfl (.free rfl) (OpT.move rfl (dl rfl rfl) hm.s0 ⟨(fun _ => undef, 0), rfl⟩)) (fun γ_231 => Ct.met_of rfl rfl) ?_
      obtain ⟨v_241, e_242, h⟩ := bind_some h
      refine DGG.step (c := fun γ_231 => ⟨some 34, .ref [.int .i64 v_241], [(32, .sl false 1 (x2.L.map (cI .i64))), (33, .int .i64 x11_0_14)], [], []⟩) [] (fun _ _ _ => rfl) (fun γ_231 t hm => One.step rfl (.free rfl) (OpT.indexSlM (xs := x2.L) (f := (cI .i64)) (v := v_241) rfl (dl rfl rfl) Try.underlying56 i3 hm.s0 hm.s1 e_242 ⟨(fun _ => undef, 0), rfl⟩)) (fun γ_231 => Ct.met_of rfl rfl) ?_
      refine DGG.step (c := fun γ_231 => ⟨some 35, .int .i64 v_241, [(34, .ref [.int .i64 v_241])], [], []⟩) [] (fun _ _ _ => rfl) (fun γ_231 t hm => One.step rfl (.free rfl) (OpT.loadRef rfl (dl rfl rfl) Try.underlying3 rfl hm.s0 rfl ⟨(fun _ => undef, 0), rfl⟩)) (fun γ_231 => Ct.met_of rfl rfl) ?_
      obtain ⟨v_243, e_244, h⟩ := bind_some h
      refine DGG.step (c := fun γ_231 => ⟨some 36, .bool v_243, [(28, .ptr bx0 0), (29, .agg [.sl false 1 (x2.L.map (cI .i64)), .sl false 1 (x2.R.map (cI .i64)), .sl false 1 (x2.Rule.map (cI .i64)), .sl false 1 (x2.Next.map (cL 2 c_api_Move))]), (30, .int .i64 x3), (35, .int .i64 v_241)], [(3, .arrX w0_0aa 59 4 0 (x0.a.States.map c_api_State)), (2, .arrA w0_0a 42 2 (x0.a.Counts.map (Arr2.dc .i64))), (1, .arrA w0_0 3 1 (x0.number.map (cI .i64))), (0, .box bx0 98 (([.d (.sl false 1 (x0.g.First.map (cI .i64))), .d (.sl false 9 (x0.g.P.map c_api_Pos)), .d (.ex w0_0)] : List OC) ++ ((ArrN.oc 256 .u8 x0.a.Split.Of) ++ (([.d (.int .i64 x0.a.Split.Many), .d (.ex w0_0a), .d (.ex w0_0aa), .d (.int .i64 x0.e)] : List OC)))))], [(0, .box bx0 98 (([.d (.sl false 1 (x0.g.First.map (cI .i64))), .d (.sl false 9 (x0.g.P.map c_api_Pos)), .d (.ex ((γ_231 8).1 0))] : List OC) ++ ((ArrN.oc 256 .u8 x0.a.Split.Of) ++ (([.d (.int .i64 x0.a.Split.Many), .d (.ex ((γ_231 8).1 1)), .d (.ex ((γ_231 8).1 2)), .d (.int .i64 x0.e)] : List OC))))), (1, .arrA ((γ_231 8).1 0) 3 1 (x0.number.map (cI .i64))), (2, .arrA ((γ_231 8).1 1) 42 2 (x0.a.Counts.map (Arr2.dc .i64))), (3, .arrX ((γ_231 8).1 2) 59 4 0 (x0.a.States.map c_api_State))]⟩) [8] (fun γ_231 γ' h => by simp only [h 8 (by decide)]) (fun γ_231 t hm => One.step rfl (.free rfl) (OpT.callG (is := [0, 1, 2, 3]) (ph := []) rfl (dl rfl rfl) Try.func70 rfl rfl (Args.cons hm.s0 (Args.cons hm.s1 (Args.cons hm.s2 (Args.cons hm.s3 Args.nil)))) (raddleref11_builder_ripe_T K (bx0 := bx0) (wx0c1 := w0_0) (wx0c2c1 := w0_0a) (wx0c2c2 := w0_0aa) e_244) (.cons (hm.objs (0, _) (.tail _ (.tail _ (.tail _ (.head _))))) rfl (.cons hm.o2 rfl (.cons hm.o1 rfl (.cons hm.o0 rfl (.nil))))) (fun _ => rfl) (fun g => ⟨(g, 0), rfl⟩))) (fun γ_231 => Ct.met_of rfl rfl) ?_
      refine DGG.step (c := fun γ_231 => ⟨some 37, .bool v_243, [(36, .bool v_243)], [], []⟩) [] (fun _ _ _ => rfl) (fun γ_231 t hm => One.step rfl (.free rfl) (OpT.move rfl (dl rfl rfl) hm.s0 ⟨(fun _ => undef, 0), rfl⟩)) (fun γ_231 => Ct.met_of rfl rfl) ?_
      rcases bif_some h with ⟨c_245, h⟩ | ⟨c_245, h⟩
      · refine DGG.step (c := fun γ_231 => ⟨some 38, .ptr bx0 0, [(0, .ptr bx0 0), (37, .bool v_243)], [], []⟩) [] (fun _ _ _ => rfl) (fun γ_231 t hm => One.step rfl (.on rfl rfl hm.s1 c_245) (OpT.move rfl (dl rfl rfl) hm.s0 ⟨(fun _ => undef, 0), rfl⟩)) (fun γ_231 => Ct.met_of rfl rfl) ?_
        refine DGG.step (c := fun γ_231 => ⟨some 39, .ptr bx0 0, [(38, .ptr bx0 0), (37, .bool v_243)], [], []⟩) [] (fun _ _ _ => rfl) (fun γ_231 t hm => One.step rfl (.on rfl rfl hm.s1 c_245) (OpT.nilCheck rfl (dl rfl rfl) hm.s0 rfl ⟨(fun _ => undef, 0), rfl⟩)) (fun γ_231 => Ct.met_of rfl rfl) ?_
        refine DGG.step (c := fun γ_231 => ⟨some 40, .ptr bx0 (0 + 0), [(39, .ptr bx0 0), (37, .bool v_243)], [], []⟩) [] (fun _ _ _ => rfl) (fun γ_231 t hm => One.step rfl (.on rfl rfl hm.s1 c_245) (OpT.fieldPtr rfl (dl rfl rfl) Try.underlying98 rfl i71 (by decide) hm.s0 ⟨(fun _ => undef, 0), rfl⟩)) (fun γ_231 => Ct.met_of rfl rfl) ?_
        refine DGG.step (c := fun γ_231 => ⟨some 41, .ptr bx0 (0 + 0 + 1), [(40, .ptr bx0 (0 + 0)), (37, .bool v_243)], [], []⟩) [] (fun _ _ _ => rfl) (fun γ_231 t hm => One.step rfl (.on rfl rfl hm.s1 c_245) (OpT.fieldPtr rfl (dl rfl rfl) Try.underlying71 rfl i69 (by decide) hm.s0 ⟨(fun _ => undef, 0), rfl⟩)) (fun γ_231 => Ct.met_of rfl rfl) ?_
        refine DGG.step (c := fun γ_231 => ⟨some 42, .sl false 9 (x0.g.P.map c_api_Pos), [(41, .ptr bx0 (0 + 0 + 1)), (37, .bool v_243)], [(0, .box bx0 98 (([.d (.sl false 1 (x0.g.First.map (cI .i64))), .d (.sl false 9 (x0.g.P.map c_api_Pos)), .d (.ex ((γ_231 8).1 0))] : List OC) ++ ((ArrN.oc 256 .u8 x0.a.Split.Of) ++ (([.d (.int .i64 x0.a.Split.Many), .d (.ex ((γ_231 8).1 1)), .d (.ex ((γ_231 8).1 2)), .d (.int .i64 x0.e)] : List OC)))))], []⟩) [8] (fun γ_231 γ' h => by simp only [h 8 (by decide)]) (fun γ_231 t hm => One.step rfl (.on rfl rfl hm.s1 c_245) (OpT.loadBox (i := 0) rfl (dl rfl rfl) Try.underlying69 rfl hm.s0 hm.o0 rfl ⟨(fun _ => undef, 0), rfl⟩)) (fun γ_231 => Ct.met_of rfl rfl) ?_
        refine DGG.step (c := fun γ_231 => ⟨some 43, .ptr b7_0 (0 + 0), [(7, .ptr b7_0 0), (37, .bool v_243)], [], []⟩) [] (fun _ _ _ => rfl) (fun γ_231 t hm => One.step rfl (.on rfl rfl hm.s1 c_245) (OpT.fieldPtr rfl (dl rfl rfl) Try.underlying59 rfl i56 (by decide) hm.s0 ⟨(fun _ => undef, 0), rfl⟩)) (fun γ_231 => Ct.met_of rfl rfl) ?_
        refine DGG.step (c := fun γ_231 => ⟨some 44, .sl false 1 (x2.L.map (cI .i64)), [(43, .ptr b7_0 (0 + 0)), (37, .bool v_243)], [(4, .box b7_0 59 [.d (.sl false 1 (x2.L.map (cI .i64))), .d (.sl false 1 (x2.R.map (cI .i64))), .d (.sl false 1 (x2.Rule.map (cI .i64))), .d (.sl false 1 (x2.Next.map (cL 2 c_api_Move)))])], []⟩) [] (fun _ _ _ => rfl) (fun γ_231 t hm => One.step rfl (.on rfl rfl hm.s1 c_245) (OpT.loadBox (i := 4) rfl (dl rfl rfl) Try.underlying56 rfl hm.s0 hm.o0 rfl ⟨(fun _ => undef, 0), rfl⟩)) (fun γ_231 => Ct.met_of rfl rfl) ?_
        refine DGG.step (c := fun γ_231 => ⟨some 45, .int .i64 x11_0_14, [(11, .int .i64 x11_0_14), (37, .bool v_243)], [], []⟩) [] (fun _ _ _ => rfl) (fun γ_231 t hm => One.step rfl (.on rfl rfl hm.s1 c_245) (OpT.move rfl (dl rfl rfl) hm.s0 ⟨(fun _ => undef, 0), rfl⟩)) (fun γ_231 => Ct.met_of rfl rfl) ?_
        refine DGG.step (c := fun γ_231 => ⟨some 46, .ref [.int .i64 v_241], [(44, .sl false 1 (x2.L.map (cI .i64))), (45, .int .i64 x11_0_14), (37, .bool v_243)], [], []⟩) [] (fun _ _ _ => rfl) (fun γ_231 t hm => One.step rfl (.on rfl rfl hm.s2 c_245) (OpT.indexSlM (xs := x2.L) (f := (cI .i64)) (v := v_241) rfl (dl rfl rfl) Try.underlying56 i3 hm.s0 hm.s1 e_242 ⟨(fun _ => undef, 0), rfl⟩)) (fun γ_231 => Ct.met_of rfl rfl) ?_
        refine DGG.step (c := fun γ_231 => ⟨some 47, .int .i64 v_241, [(46, .ref [.int .i64 v_241]), (37, .bool v_243)], [], []⟩) [] (fun _ _ _ => rfl) (fun γ_231 t hm => One.step rfl (.on rfl rfl hm.s1 c_245) (OpT.loadRef rfl (dl rfl rfl) Try.underlying3 rfl hm.s0 rfl ⟨(fun _ => undef, 0), rfl⟩)) (fun γ_231 => Ct.met_of rfl rfl) ?_
        obtain ⟨v_246, e_247, h⟩ := bind_some h
        refine DGG.step (c := fun γ_231 => ⟨some 48, .ref [.int .u64 v_246.S.a0, .int .u64 v_246.S.a1, .int .u64 v_246.S.a2, .int .u64 v_246.S.a3, .int .i64 v_246.Lo, .int .i64 v_246.Hi, .int .i64 v_246.Rule, .bool v_246.Last, .sl false 1 (v_246.Next.map (cI .i64))], [(42, .sl false 9 (x0.g.P.map c_api_Pos)), (47, .int .i64 v_241), (37, .bool v_243)], [], []⟩) [] (fun _ _ _ => rfl) (fun γ_231 t hm => One.step rfl (.on rfl rfl hm.s2 c_245) (OpT.indexSlM (xs := x0.g.P) (f := c_api_Pos) (v := v_246) rfl (dl rfl rfl) Try.underlying69 i104 hm.s0 hm.s1 e_247 ⟨(fun _ => undef, 0), rfl⟩)) (fun γ_231 => Ct.met_of rfl rfl) ?_
        refine DGG.step (c := fun γ_231 => ⟨some 49, .ref [.sl false 1 (v_246.Next.map (cI .i64))], [(48, .ref [.int .u64 v_246.S.a0, .int .u64 v_246.S.a1, .int .u64 v_246.S.a2, .int .u64 v_246.S.a3, .int .i64 v_246.Lo, .int .i64 v_246.Hi, .int .i64 v_246.Rule, .bool v_246.Last, .sl false 1 (v_246.Next.map (cI .i64))]), (37, .bool v_243)], [], []⟩) [] (fun _ _ _ => rfl) (fun γ_231 t hm => One.step rfl (.on rfl rfl hm.s1 c_245) (OpT.fieldRef rfl (dl rfl rfl) Try.underlying104 rfl i56 (by decide) hm.s0 ⟨(fun _ => undef, 0), rfl⟩)) (fun γ_231 => Ct.met_of rfl rfl) ?_
        refine DGG.step (c := fun γ_231 => ⟨some 50, .sl false 1 (v_246.Next.map (cI .i64)), [(49, .ref [.sl false 1 (v_246.Next.map (cI .i64))]), (37, .bool v_243)], [], []⟩) [] (fun _ _ _ => rfl) (fun γ_231 t hm => One.step rfl (.on rfl rfl hm.s1 c_245) (OpT.loadRef rfl (dl rfl rfl) Try.underlying56 rfl hm.s0 rfl ⟨(fun _ => undef, 0), rfl⟩)) (fun γ_231 => Ct.met_of rfl rfl) ?_
        refine DGG.step (c := fun γ_231 => ⟨some 51, .int .i64 x4, [(4, .int .i64 x4), (37, .bool v_243)], [], []⟩) [] (fun _ _ _ => rfl) (fun γ_231 t hm => One.step rfl (.on rfl rfl hm.s1 c_245) (OpT.move rfl (dl rfl rfl) hm.s0 ⟨(fun _ => undef, 0), rfl⟩)) (fun γ_231 => Ct.met_of rfl rfl) ?_
        obtain ⟨v_248, e_249, h⟩ := bind_some h
        refine DGG.step (c := fun γ_231 => ⟨some 52, .bool v_248, [(50, .sl false 1 (v_246.Next.map (cI .i64))), (51, .int .i64 x4), (37, .bool v_243)], [], []⟩) [] (fun _ _ _ => rfl) (fun γ_231 t hm => One.step rfl (.on rfl rfl hm.s2 c_245) (OpT.callPA rfl (dl rfl rfl) Try.func84 rfl rfl (Args.cons hm.s0 (Args.cons hm.s1 Args.nil)) (CallR.nil (raddleref11_in_T K (flx0 := false) e_249)) ⟨(fun _ => undef, 0), rfl⟩)) (fun γ_231 => Ct.met_of rfl rfl) ?_
        refine DGG.step (c := fun γ_231 => ⟨some 53, .bool v_248, [(37, .bool v_243), (52, .bool v_248)], [], []⟩) [] (fun _ _ _ => rfl) (fun γ_231 t hm => One.step rfl (.free rfl) (OpT.pickT rfl (dl rfl rfl) hm.s0 c_245 hm.s1 ⟨(fun _ => undef, 0), rfl⟩)) (fun γ_231 => Ct.met_of rfl rfl) ?_
        refine DGG.fin (s1 := fun γ_231 => ⟨[(0, .ptr bx0 0), (3, .int .i64 x3), (4, .int .i64 x4), (7, .ptr b7_0 0), (11, .int .i64 x11_0_14), (38, .ptr bx0 0), (39, .ptr bx0 0), (40, .ptr bx0 (0 + 0)), (41, .ptr bx0 (0 + 0 + 1)), (42, .sl false 9 (x0.g.P.map c_api_Pos)), (43, .ptr b7_0 (0 + 0)), (44, .sl false 1 (x2.L.map (cI .i64))), (45, .int .i64 x11_0_14), (46, .ref [.int .i64 v_241]), (47, .int .i64 v_241), (48, .ref [.int .u64 v_246.S.a0, .int .u64 v_246.S.a1, .int .u64 v_246.S.a2, .int .u64 v_246.S.a3, .int .i64 v_246.Lo, .int .i64 v_246.Hi, .int .i64 v_246.Rule, .bool v_246.Last, .sl false 1 (v_246.Next.map (cI .i64))]), (49, .ref [.sl false 1 (v_246.Next.map (cI .i64))]), (50, .sl false 1 (v_246.Next.map (cI .i64))), (51, .int .i64 x4), (52, .bool v_248), (53, .bool v_248)], [.box bx0 98 (([.d (.sl false 1 (x0.g.First.map (cI .i64))), .d (.sl false 9 (x0.g.P.map c_api_Pos)), .d (.ex ((γ_231 8).1 0))] : List OC) ++ ((ArrN.oc 256 .u8 x0.a.Split.Of) ++ (([.d (.int .i64 x0.a.Split.Many), .d (.ex ((γ_231 8).1 1)), .d (.ex ((γ_231 8).1 2)), .d (.int .i64 x0.e)] : List OC)))), .arrA ((γ_231 8).1 0) 3 1 (x0.number.map (cI .i64)), .arrA ((γ_231 8).1 1) 42 2 (x0.a.Counts.map (Arr2.dc .i64)), .arrX ((γ_231 8).1 2) 59 4 0 (x0.a.States.map c_api_State), .box b7_0 59 [.d (.sl false 1 (x2.L.map (cI .i64))), .d (.sl false 1 (x2.R.map (cI .i64))), .d (.sl false 1 (x2.Rule.map (cI .i64))), .d (.sl false 1 (x2.Next.map (cL 2 c_api_Move)))]]⟩) (ms := [0, 0, 0, 0, 8, 0, 56, 120, 255, 511, 1023, 2047, 4095, 8191, 16383, 1023, 33791, 1023, 230399, 492543, 1048575, 2097151, 4194303, 1023, 16777215, 33554431]) TryMixed rfl (by kernel_rfl) (by kernel_rfl) (by kernel_rfl) (fun γ_231 => by kernel_rfl) (fun γ_231 => .cons rfl (.cons rfl (.cons rfl (.cons rfl (.cons rfl (.cons rfl (.cons rfl (.cons rfl (.cons rfl (.cons rfl (.cons rfl (.cons rfl (.cons rfl (.cons rfl (.cons rfl (.cons rfl (.cons rfl (.cons rfl (.cons rfl (.cons rfl (.cons rfl (.nil _)))))))))))))))))))))) (fun _ => rfl) (fun γ_231 u hu => (thenS_normal (T.by_turn hu ?_)))
        rcases bif_some h with ⟨c_250, h⟩ | ⟨c_250, h⟩
        · refine T.condT rfl c_250 ?_
          refine T.seq ?_
          refine T.regionL ?_
          refine asg rfl rfl rfl rfl rfl ?_
          refine TL'.nil (thenS_normal ?_)
          refine T.ret (inBlock_ret (thenS_ret (thenS_ret (inBlock_ret (thenS_ret ?_)))))
          exact Fin.doneK (.cons _ _ _ _ (.tmp 10 _ rfl) .nil) (.cons 0 rfl (.cons 0 rfl (.cons 0 rfl (.cons 0 rfl (.nil _))))) (by cases h; exact ⟨gl [(γ_231 8).1 0, (γ_231 8).1 1, (γ_231 8).1 2], rfl, rfl⟩)
        · refine T.condF rfl c_250 ?_
          refine T.skip (inBlock_normal (thenS_normal ?_))
          refine T.regionL ?_
          refine mv rfl rfl rfl rfl rfl ?_
          refine sp rfl (OpT.int2 rfl rfl (dl rfl rfl) rfl rfl ?_)
          refine asg rfl rfl rfl rfl rfl ?_
          refine TL'.nil (thenS_normal ?_)
          refine TL.by_turn ?_ (ih x3 x4 (IntKind.i64.wrap (x11_0_14 + (1 : Int))) x0 x2 ((γ_231 8).1 0) ((γ_231 8).1 1) ((γ_231 8).1 2) b7_0 h)
          exact Turn.rp (.cons rfl (.cons rfl (.cons rfl (.cons rfl (.cons rfl (.nil _)))))) (.c .z (.c .z (.c .z (.c .z (.c .z (.n _))))))
      · refine DGG.off c_245 rfl rfl rfl rfl rfl (fun _ => rfl) ?_
        refine DGG.off c_245 rfl rfl rfl rfl rfl (fun _ => rfl) ?_
        refine DGG.off c_245 rfl rfl rfl rfl rfl (fun _ => rfl) ?_
        refine DGG.off c_245 rfl rfl rfl rfl rfl (fun _ => rfl) ?_
        refine DGG.off c_245 rfl rfl rfl rfl rfl (fun _ => rfl) ?_
        refine DGG.off c_245 rfl rfl rfl rfl rfl (fun _ => rfl) ?_
        refine DGG.off c_245 rfl rfl rfl rfl rfl (fun _ => rfl) ?_
        refine DGG.off c_245 rfl rfl rfl rfl rfl (fun _ => rfl) ?_
        refine DGG.off c_245 rfl rfl rfl rfl rfl (fun _ => rfl) ?_
        refine DGG.off c_245 rfl rfl rfl rfl rfl (fun _ => rfl) ?_
        refine DGG.off c_245 rfl rfl rfl rfl rfl (fun _ => rfl) ?_
        refine DGG.off c_245 rfl rfl rfl rfl rfl (fun _ => rfl) ?_
        refine DGG.off c_245 rfl rfl rfl rfl rfl (fun _ => rfl) ?_
        refine DGG.off c_245 rfl rfl rfl rfl rfl (fun _ => rfl) ?_
        refine DGG.off c_245 rfl rfl rfl rfl rfl (fun _ => rfl) ?_
        refine DGG.step (c := fun γ_231 => ⟨some 53, .bool false, [(37, .bool v_243)], [], []⟩) [] (fun _ _ _ => rfl) (fun γ_231 t hm => One.step rfl (.free rfl) (OpT.pickF rfl (dl rfl rfl) hm.s0 c_245 rfl ⟨(fun _ => undef, 0), rfl⟩)) (fun γ_231 => Ct.met_of rfl rfl) ?_
        refine DGG.fin (s1 := fun γ_231 => ⟨[(0, .ptr bx0 0), (3, .int .i64 x3), (4, .int .i64 x4), (7, .ptr b7_0 0), (11, .int .i64 x11_0_14), (38, .tup []), (39, .tup []), (40, .tup []), (41, .tup []), (42, .tup []), (43, .tup []), (44, .tup []), (45, .tup []), (46, .tup []), (47, .tup []), (48, .tup []), (49, .tup []), (50, .tup []), (51, .tup []), (52, .tup []), (53, .bool false)], [.box bx0 98 (([.d (.sl false 1 (x0.g.First.map (cI .i64))), .d (.sl false 9 (x0.g.P.map c_api_Pos)), .d (.ex ((γ_231 8).1 0))] : List OC) ++ ((ArrN.oc 256 .u8 x0.a.Split.Of) ++ (([.d (.int .i64 x0.a.Split.Many), .d (.ex ((γ_231 8).1 1)), .d (.ex ((γ_231 8).1 2)), .d (.int .i64 x0.e)] : List OC)))), .arrA ((γ_231 8).1 0) 3 1 (x0.number.map (cI .i64)), .arrA ((γ_231 8).1 1) 42 2 (x0.a.Counts.map (Arr2.dc .i64)), .arrX ((γ_231 8).1 2) 59 4 0 (x0.a.States.map c_api_State), .box b7_0 59 [.d (.sl false 1 (x2.L.map (cI .i64))), .d (.sl false 1 (x2.R.map (cI .i64))), .d (.sl false 1 (x2.Rule.map (cI .i64))), .d (.sl false 1 (x2.Next.map (cL 2 c_api_Move)))]]⟩) (ms := [0, 0, 0, 0, 8, 0, 56, 120, 255, 511, 1023, 2047, 4095, 8191, 16383, 1023, 33791, 1023, 230399, 492543, 1048575, 2097151, 4194303, 1023, 16777215, 33554431]) TryMixed rfl (by kernel_rfl) (by kernel_rfl) (by kernel_rfl) (fun γ_231 => by kernel_rfl) (fun γ_231 => .cons rfl (.cons rfl (.cons rfl (.cons rfl (.cons rfl (.cons rfl (.cons rfl (.cons rfl (.cons rfl (.cons rfl (.cons rfl (.cons rfl (.cons rfl (.cons rfl (.cons rfl (.cons rfl (.cons rfl (.cons rfl (.cons rfl (.cons rfl (.cons rfl (.nil _)))))))))))))))))))))) (fun _ => rfl) (fun γ_231 u hu => (thenS_normal (T.by_turn hu ?_)))
        refine T.condF rfl rfl ?_
        refine T.skip (inBlock_normal (thenS_normal ?_))
        refine T.regionL ?_
        refine mv rfl rfl rfl rfl rfl ?_
        refine sp rfl (OpT.int2 rfl rfl (dl rfl rfl) rfl rfl ?_)
        refine asg rfl rfl rfl rfl rfl ?_
        refine TL'.nil (thenS_normal ?_)
        refine TL.by_turn ?_ (ih x3 x4 (IntKind.i64.wrap (x11_0_14 + (1 : Int))) x0 x2 ((γ_231 8).1 0) ((γ_231 8).1 1) ((γ_231 8).1 2) b7_0 h)
        exact Turn.rp (.cons rfl (.cons rfl (.cons rfl (.cons rfl (.cons rfl (.nil _)))))) (.c .z (.c .z (.c .z (.c .z (.c .z (.n _))))))
    · refine T.condF rfl c_230 ?_
      refine T.exit (thenS_exit (thenS_exit (inBlock_exit (thenS_normal ?_))))
      refine T.seq ?_
      refine T.regionL ?_
      refine asg rfl rfl rfl rfl rfl ?_
      refine TL'.nil (thenS_normal ?_)
      refine T.ret ?_
      exact Fin.doneK (.cons _ _ _ _ (.tmp 10 _ rfl) .nil) (.cons 0 rfl (.cons 0 rfl (.cons 0 rfl (.cons 0 rfl (.nil _))))) (by cases h; exact ⟨gl [w0_0, w0_0a, w0_0aa], rfl, rfl⟩)

theorem raddleref11_builder_enters_T (K : Nat) {x0 : raddleref11_builder} {x1 : Int} {x2 : api_State} {x3 : Int} {x4 : Int} {bx0 : Nat} {wx0c1 : Value} {wx0c2c1 : Value} {wx0c2c2 : Value} {r : Bool} (h : raddleref11_builder_enters K x0 x1 x2 x3 x4 = some r) : CallG Try.prog 73 [.ptr bx0 0, .int .i64 x1, .agg [.sl false 1 (x2.L.map (cI .i64)), .sl false 1 (x2.R.map (cI .i64)), .sl false 1 (x2.Rule.map (cI .i64)), .sl false 1 (x2.Next.map (cL 2 c_api_Move))], .int .i64 x3, .int .i64 x4] [.box bx0 98 (([.d (.sl false 1 (x0.g.First.map (cI .i64))), .d (.sl false 9 (x0.g.P.map c_api_Pos)), .d (.ex wx0c1)] : List OC) ++ ((ArrN.oc 256 .u8 x0.a.Split.Of) ++ (([.d (.int .i64 x0.a.Split.Many), .d (.ex wx0c2c1), .d (.ex wx0c2c2), .d (.int .i64 x0.e)] : List OC)))), .arrA wx0c1 3 1 (x0.number.map (cI .i64)), .arrA wx0c2c1 42 2 (x0.a.Counts.map (Arr2.dc .i64)), .arrX wx0c2c2 59 4 0 (x0.a.States.map c_api_State)] (fun γ => (.bool r)) (fun γ => [.box bx0 98 (([.d (.sl false 1 (x0.g.First.map (cI .i64))), .d (.sl false 9 (x0.g.P.map c_api_Pos)), .d (.ex (γ 0))] : List OC) ++ ((ArrN.oc 256 .u8 x0.a.Split.Of) ++ (([.d (.int .i64 x0.a.Split.Many), .d (.ex (γ 1)), .d (.ex (γ 2)), .d (.int .i64 x0.e)] : List OC)))), .arrA (γ 0) 3 1 (x0.number.map (cI .i64)), .arrA (γ 1) 42 2 (x0.a.Counts.map (Arr2.dc .i64)), .arrX (γ 2) 59 4 0 (x0.a.States.map c_api_State)]) := by
  refine CallT.intro Try.func73 rfl (Nat.le_of_ble_eq_true rfl) ?_
  show T Try.prog 54 (Code.at [] (codeOf Try.f73)) ⟨paramSlots 0 [.ptr bx0 0, .int .i64 x1, .agg [.sl false 1 (x2.L.map (cI .i64)), .sl false 1 (x2.R.map (cI .i64)), .sl false 1 (x2.Rule.map (cI .i64)), .sl false 1 (x2.Next.map (cL 2 c_api_Move))], .int .i64 x3, .int .i64 x4], [.box bx0 98 (([.d (.sl false 1 (x0.g.First.map (cI .i64))), .d (.sl false 9 (x0.g.P.map c_api_Pos)), .d (.ex wx0c1)] : List OC) ++ ((ArrN.oc 256 .u8 x0.a.Split.Of) ++ (([.d (.int .i64 x0.a.Split.Many), .d (.ex wx0c2c1), .d (.ex wx0c2c2), .d (.int .i64 x0.e)] : List OC)))), .arrA wx0c1 3 1 (x0.number.map (cI .i64)), .arrA wx0c2c1 42 2 (x0.a.Counts.map (Arr2.dc .i64)), .arrX wx0c2c2 59 4 0 (x0.a.States.map c_api_State)]⟩ (raddleref11_builder_enters_q bx0 x0 r)
  unfold raddleref11_builder_enters at h
  refine T.seq ?_
  refine T.regionL ?_
  refine sp rfl (OpT.boxAgg rfl (dl rfl rfl) rfl (fun b_226 => ?_))
  refine asg rfl rfl rfl rfl rfl ?_
  refine TL'.nil (thenS_normal ?_)
  refine T.seq ?_
  refine T.seq ?_
  refine T.regionL ?_
  refine mv rfl rfl rfl rfl rfl ?_
  refine sp rfl (OpT.int2 rfl rfl (dl rfl rfl) rfl rfl ?_)
  refine TL'.nil (thenS_normal ?_)
  rcases bif_some h with ⟨c_227, h⟩ | ⟨c_227, h⟩
  · refine T.condT rfl c_227 ?_
    refine T.seq ?_
    refine T.regionL ?_
    refine mv rfl rfl rfl rfl rfl ?_
    refine sp rfl (OpT.nilCheck rfl (dl rfl rfl) rfl rfl ?_)
    refine sp rfl (OpT.fieldPtr rfl (dl rfl rfl) Try.underlying98 rfl i71 (by decide) rfl ?_)
    refine sp rfl (OpT.fieldPtr rfl (dl rfl rfl) Try.underlying71 rfl i56 (by decide) rfl ?_)
    refine sp rfl (OpT.loadBox (i := 1) rfl (dl rfl rfl) Try.underlying56 rfl rfl rfl rfl ?_)
    refine mv rfl rfl rfl rfl rfl ?_
    obtain ⟨v_228, e_229, h⟩ := bind_some h
    refine sp rfl (OpT.callPA rfl (dl rfl rfl) Try.func84 rfl rfl (Args.cons rfl (Args.cons rfl Args.nil)) (CallR.nil (raddleref11_in_T K (flx0 := false) e_229)) ?_)
    refine asg rfl rfl rfl rfl rfl ?_
    refine TL'.nil (thenS_normal ?_)
    refine T.ret (thenS_ret ?_)
    exact Fin.doneK (.cons _ _ _ _ (.tmp 10 _ rfl) .nil) (.cons 1 rfl (.cons 1 rfl (.cons 1 rfl (.cons 1 rfl (.nil _))))) (by cases h; exact ⟨gl [wx0c1, wx0c2c1, wx0c2c2], rfl, rfl⟩)
  · refine T.condF rfl c_227 ?_
    refine T.skip (thenS_normal ?_)
    refine T.seq ?_
    refine T.seq ?_
    refine T.regionL ?_
    refine asg rfl rfl rfl rfl rfl ?_
    refine TL'.nil (thenS_normal ?_)
    refine T.block ?_
    refine T.loop ?_
    refine TL.by_turn ?_ (raddleref11_builder_enters_l0_T K bx0 x0 K x3 x4 (0 : Int) x0 x2 wx0c1 wx0c2c1 wx0c2c2 b_226 h)
    exact Turn.rp (.cons rfl (.cons rfl (.cons rfl (.cons rfl (.cons rfl (.nil _)))))) (.c (.s .z) (.c (.s .z) (.c (.s .z) (.c (.s .z) (.c .z (.n _))))))

abbrev raddleref11_builder_stays_q (bx0 : Nat) (x0 : raddleref11_builder) (r : Bool) : Exit → St → Prop := retS Try.prog Try.f74 (fun y t => ∃ γ : Nat → Value, y = (.bool r) ∧ t = [.box bx0 98 (([.d (.sl false 1 (x0.g.First.map (cI .i64))), .d (.sl false 9 (x0.g.P.map c_api_Pos)), .d (.ex (γ 0))] : List OC) ++ ((ArrN.oc 256 .u8 x0.a.Split.Of) ++ (([.d (.int .i64 x0.a.Split.Many), .d (.ex (γ 1)), .d (.ex (γ 2)), .d (.int .i64 x0.e)] : List OC)))), .arrA (γ 0) 3 1 (x0.number.map (cI .i64)), .arrA (γ 1) 42 2 (x0.a.Counts.map (Arr2.dc .i64)), .arrX (γ 2) 59 4 0 (x0.a.States.map c_api_State)])

theorem raddleref11_builder_stays_T (K : Nat) {x0 : raddleref11_builder} {x1 : api_State} {x2 : Int} {x3 : Int} {bx0 : Nat} {wx0c1 : Value} {wx0c2c1 : Value} {wx0c2c2 : Value} {r : Bool} (h : raddleref11_builder_stays K x0 x1 x2 x3 = some r) : CallG Try.prog 74 [.ptr bx0 0, .agg [.sl false 1 (x1.L.map (cI .i64)), .sl false 1 (x1.R.map (cI .i64)), .sl false 1 (x1.Rule.map (cI .i64)), .sl false 1 (x1.Next.map (cL 2 c_api_Move))], .int .i64 x2, .int .i64 x3] [.box bx0 98 (([.d (.sl false 1 (x0.g.First.map (cI .i64))), .d (.sl false 9 (x0.g.P.map c_api_Pos)), .d (.ex wx0c1)] : List OC) ++ ((ArrN.oc 256 .u8 x0.a.Split.Of) ++ (([.d (.int .i64 x0.a.Split.Many), .d (.ex wx0c2c1), .d (.ex wx0c2c2), .d (.int .i64 x0.e)] : List OC)))), .arrA wx0c1 3 1 (x0.number.map (cI .i64)), .arrA wx0c2c1 42 2 (x0.a.Counts.map (Arr2.dc .i64)), .arrX wx0c2c2 59 4 0 (x0.a.States.map c_api_State)] (fun γ => (.bool r)) (fun γ => [.box bx0 98 (([.d (.sl false 1 (x0.g.First.map (cI .i64))), .d (.sl false 9 (x0.g.P.map c_api_Pos)), .d (.ex (γ 0))] : List OC) ++ ((ArrN.oc 256 .u8 x0.a.Split.Of) ++ (([.d (.int .i64 x0.a.Split.Many), .d (.ex (γ 1)), .d (.ex (γ 2)), .d (.int .i64 x0.e)] : List OC)))), .arrA (γ 0) 3 1 (x0.number.map (cI .i64)), .arrA (γ 1) 42 2 (x0.a.Counts.map (Arr2.dc .i64)), .arrX (γ 2) 59 4 0 (x0.a.States.map c_api_State)]) := by
  refine CallT.intro Try.func74 rfl (Nat.le_of_ble_eq_true rfl) ?_
  show T Try.prog 27 (Code.at [] (codeOf Try.f74)) ⟨paramSlots 0 [.ptr bx0 0, .agg [.sl false 1 (x1.L.map (cI .i64)), .sl false 1 (x1.R.map (cI .i64)), .sl false 1 (x1.Rule.map (cI .i64)), .sl false 1 (x1.Next.map (cL 2 c_api_Move))], .int .i64 x2, .int .i64 x3], [.box bx0 98 (([.d (.sl false 1 (x0.g.First.map (cI .i64))), .d (.sl false 9 (x0.g.P.map c_api_Pos)), .d (.ex wx0c1)] : List OC) ++ ((ArrN.oc 256 .u8 x0.a.Split.Of) ++ (([.d (.int .i64 x0.a.Split.Many), .d (.ex wx0c2c1), .d (.ex wx0c2c2), .d (.int .i64 x0.e)] : List OC)))), .arrA wx0c1 3 1 (x0.number.map (cI .i64)), .arrA wx0c2c1 42 2 (x0.a.Counts.map (Arr2.dc .i64)), .arrX wx0c2c2 59 4 0 (x0.a.States.map c_api_State)]⟩ (raddleref11_builder_stays_q bx0 x0 r)
  unfold raddleref11_builder_stays at h
  refine T.seq ?_
  refine T.regionL ?_
  refine sp rfl (OpT.boxAgg rfl (dl rfl rfl) rfl (fun b_33 => ?_))
  refine asg rfl rfl rfl rfl rfl ?_
  refine TL'.nil (thenS_normal ?_)
  refine T.seq ?_
  refine T.regionL ?_
  refine mv rfl rfl rfl rfl rfl ?_
  refine sp rfl (OpT.loadBoxAgg (i := 0) (l := [.sl false 1 (x1.L.map (cI .i64)), .sl false 1 (x1.R.map (cI .i64)), .sl false 1 (x1.Rule.map (cI .i64)), .sl false 1 (x1.Next.map (cL 2 c_api_Move))]) rfl (dl rfl rfl) Try.underlying59 rfl i59 rfl rfl rfl rfl ?_)
  refine mv rfl rfl rfl rfl rfl ?_
  refine mv rfl rfl rfl rfl rfl ?_
  obtain ⟨v_34, e_35, h⟩ := bind_some h
  refine sp rfl (OpT.callG (is := [1, 2, 3, 4]) (ph := []) rfl (dl rfl rfl) Try.func87 rfl rfl (Args.cons rfl (Args.cons rfl (Args.cons rfl (Args.cons rfl Args.nil)))) (raddleref11_builder_digit_T K (bx0 := bx0) (wx0c1 := wx0c1) (wx0c2c1 := wx0c2c1) (wx0c2c2 := wx0c2c2) e_35) (.cons rfl rfl (.cons rfl rfl (.cons rfl rfl (.cons rfl rfl (.nil))))) (fun _ => rfl) (fun γ_36 => ?_))
  refine nm (.c (.c (.c (.c (.c (.n)))))) ?_
  refine asg rfl rfl rfl rfl rfl ?_
  refine TL'.nil (thenS_normal ?_)
  refine T.seq ?_
  refine T.regionL ?_
  refine sp rfl (OpT.fieldPtr rfl (dl rfl rfl) Try.underlying59 rfl i56 (by decide) rfl ?_)
  refine sp rfl (OpT.loadBox (i := 0) rfl (dl rfl rfl) Try.underlying56 rfl rfl rfl rfl ?_)
  refine mv rfl rfl rfl rfl rfl ?_
  obtain ⟨v_37, e_38, h⟩ := bind_some h
  refine sp rfl (OpT.callPA rfl (dl rfl rfl) Try.func84 rfl rfl (Args.cons rfl (Args.cons rfl Args.nil)) (CallR.nil (raddleref11_in_T K (flx0 := false) e_38)) ?_)
  refine mv rfl rfl rfl rfl rfl ?_
  rcases bif_some h with ⟨c_39, h⟩ | ⟨c_39, h⟩
  · refine TL'.step (.on rfl rfl rfl c_39) (OpT.move rfl (dl rfl rfl) rfl ?_)
    refine TL'.step (.on rfl rfl rfl c_39) (OpT.int2 rfl rfl (dl rfl rfl) rfl rfl ?_)
    refine TL'.step (.on rfl rfl rfl c_39) (OpT.move rfl (dl rfl rfl) rfl ?_)
    rcases bif_some h with ⟨c_40, h⟩ | ⟨c_40, h⟩
    · refine TL'.passU (.off _ _ _ _ rfl rfl rfl c_40) (dl rfl rfl) ?_
      refine TL'.passU (.off _ _ _ _ rfl rfl rfl c_40) (dl rfl rfl) ?_
      refine TL'.step (.on rfl rfl rfl c_39) (OpT.pickT rfl (dl rfl rfl) rfl c_40 rfl ?_)
      refine sp rfl (OpT.pickT rfl (dl rfl rfl) rfl c_39 rfl ?_)
      refine asg rfl rfl rfl rfl rfl ?_
      refine TL'.nil (thenS_normal ?_)
      refine T.ret ?_
      exact Fin.doneK (.cons _ _ _ _ (.tmp 8 _ rfl) .nil) (.cons 1 rfl (.cons 1 rfl (.cons 1 rfl (.cons 1 rfl (.nil _))))) (by cases h; exact ⟨gl [γ_36 0, γ_36 1, γ_36 2], rfl, rfl⟩)
    · refine TL'.step (.on rfl rfl rfl c_40) (OpT.move rfl (dl rfl rfl) rfl ?_)
      refine TL'.step (.on rfl rfl rfl c_40) (OpT.int2 rfl rfl (dl rfl rfl) rfl rfl ?_)
      refine TL'.step (.on rfl rfl rfl c_39) (OpT.pickF rfl (dl rfl rfl) rfl c_40 rfl ?_)
      refine sp rfl (OpT.pickT rfl (dl rfl rfl) rfl c_39 rfl ?_)
      refine asg rfl rfl rfl rfl rfl ?_
      refine TL'.nil (thenS_normal ?_)
      refine T.ret ?_
      exact Fin.doneK (.cons _ _ _ _ (.tmp 8 _ rfl) .nil) (.cons 1 rfl (.cons 1 rfl (.cons 1 rfl (.cons 1 rfl (.nil _))))) (by cases h; exact ⟨gl [γ_36 0, γ_36 1, γ_36 2], rfl, rfl⟩)
  · refine TL'.passU (.off _ _ _ _ rfl rfl rfl c_39) (dl rfl rfl) ?_
    refine TL'.passU (.off _ _ _ _ rfl rfl rfl c_39) (dl rfl rfl) ?_
    refine TL'.passU (.off _ _ _ _ rfl rfl rfl c_39) (dl rfl rfl) ?_
    refine TL'.passU (.gone _ _ _ rfl rfl rfl) (dl rfl rfl) ?_
    refine TL'.passU (.gone _ _ _ rfl rfl rfl) (dl rfl rfl) ?_
    refine TL'.passU (.off _ _ _ _ rfl rfl rfl c_39) (dl rfl rfl) ?_
    refine sp rfl (OpT.pickF rfl (dl rfl rfl) rfl c_39 rfl ?_)
    refine asg rfl rfl rfl rfl rfl ?_
    refine TL'.nil (thenS_normal ?_)
    refine T.ret ?_
    exact Fin.doneK (.cons _ _ _ _ (.tmp 8 _ rfl) .nil) (.cons 1 rfl (.cons 1 rfl (.cons 1 rfl (.cons 1 rfl (.nil _))))) (by cases h; exact ⟨gl [γ_36 0, γ_36 1, γ_36 2], rfl, rfl⟩)

abbrev raddleref11_builder_find_q (bx0 : Nat) (r : Int × raddleref11_builder) : Exit → St → Prop := retS Try.prog Try.f75 (fun y t => ∃ γ : Nat → Value, y = (.int .i64 r.1) ∧ t = [.box bx0 98 (([.d (.sl false 1 (r.2.g.First.map (cI .i64))), .d (.sl false 9 (r.2.g.P.map c_api_Pos)), .d (.ex (γ 0))] : List OC) ++ ((ArrN.oc 256 .u8 r.2.a.Split.Of) ++ (([.d (.int .i64 r.2.a.Split.Many), .d (.ex (γ 1)), .d (.ex (γ 2)), .d (.int .i64 r.2.e)] : List OC)))), .arrA (γ 0) 3 1 (r.2.number.map (cI .i64)), .arrA (γ 1) 42 2 (r.2.a.Counts.map (Arr2.dc .i64)), .arrX (γ 2) 59 4 0 (r.2.a.States.map c_api_State)])

abbrev raddleref11_builder_find_qs11 (bx0 : Nat) (r : Int × raddleref11_builder) : Exit → St → Prop := thenS (fun s' => T Try.prog 122 (Code.at [1, 1] (codeOf Try.f75)) s' ((raddleref11_builder_find_q bx0 r))) ((raddleref11_builder_find_q bx0 r))

abbrev raddleref11_builder_find_qb0x11 (bx0 : Nat) (r : Int × raddleref11_builder) : Exit → St → Prop := inBlockS 0 ((raddleref11_builder_find_qs11 bx0 r))

abbrev raddleref11_builder_find_ql1010 (bx0 : Nat) (r : Int × raddleref11_builder) : Exit → St → Prop := thenS (fun s' => TL Try.prog 122 (Code.at [1, 0, 1, 0, 0] (codeOf Try.f75)) s' ((raddleref11_builder_find_qb0x11 bx0 r))) ((raddleref11_builder_find_qb0x11 bx0 r))

abbrev raddleref11_builder_find_qs1010011 (bx0 : Nat) (r : Int × raddleref11_builder) : Exit → St → Prop := thenS (fun s' => T Try.prog 122 (Code.at [1, 0, 1, 0, 0, 1, 1] (codeOf Try.f75)) s' ((raddleref11_builder_find_ql1010 bx0 r))) ((raddleref11_builder_find_ql1010 bx0 r))

abbrev raddleref11_builder_find_qb1_0x1010011 (bx0 : Nat) (r : Int × raddleref11_builder) : Exit → St → Prop := inBlockS 1 ((raddleref11_builder_find_qs1010011 bx0 r))

abbrev raddleref11_builder_find_qs1010010011011 (bx0 : Nat) (r : Int × raddleref11_builder) : Exit → St → Prop := thenS (fun s' => T Try.prog 122 (Code.at [1, 0, 1, 0, 0, 1, 0, 0, 1, 1, 0, 1, 1] (codeOf Try.f75)) s' ((raddleref11_builder_find_qb1_0x1010011 bx0 r))) ((raddleref11_builder_find_qb1_0x1010011 bx0 r))

abbrev raddleref11_builder_find_qb2_1_0x1010010011011 (bx0 : Nat) (r : Int × raddleref11_builder) : Exit → St → Prop := inBlockS 2 ((raddleref11_builder_find_qs1010010011011 bx0 r))

abbrev raddleref11_builder_find_qs1111 (bx0 : Nat) (r : Int × raddleref11_builder) : Exit → St → Prop := thenS (fun s' => T Try.prog 122 (Code.at [1, 1, 1, 1] (codeOf Try.f75)) s' ((raddleref11_builder_find_q bx0 r))) ((raddleref11_builder_find_q bx0 r))

abbrev raddleref11_builder_find_qb4x1111 (bx0 : Nat) (r : Int × raddleref11_builder) : Exit → St → Prop := inBlockS 4 ((raddleref11_builder_find_qs1111 bx0 r))

abbrev raddleref11_builder_find_l0_H (bx0 : Nat) (r : Int × raddleref11_builder) (go : (List Int) → Int → raddleref11_builder → Option (Int × raddleref11_builder)) : Prop := ∀ (x1 : List Int) (x5_0_9 : Int) (x0 : raddleref11_builder) (flx1 : Bool) (w0_0 : Value) (w0_0a : Value) (w0_0aa : Value), go x1 x5_0_9 x0 = some r → TL Try.prog 122 (Code.at [1, 0, 1, 0, 0] (codeOf Try.f75)) ⟨[(0, .ptr bx0 0), (1, .sl flx1 1 (x1.map (cI .i64))), (5, .int .i64 x5_0_9)], [.box bx0 98 (([.d (.sl false 1 (x0.g.First.map (cI .i64))), .d (.sl false 9 (x0.g.P.map c_api_Pos)), .d (.ex w0_0)] : List OC) ++ ((ArrN.oc 256 .u8 x0.a.Split.Of) ++ (([.d (.int .i64 x0.a.Split.Many), .d (.ex w0_0a), .d (.ex w0_0aa), .d (.int .i64 x0.e)] : List OC)))), .arrA w0_0 3 1 (x0.number.map (cI .i64)), .arrA w0_0a 42 2 (x0.a.Counts.map (Arr2.dc .i64)), .arrX w0_0aa 59 4 0 (x0.a.States.map c_api_State)]⟩ (raddleref11_builder_find_qb0x11 bx0 r)

theorem raddleref11_builder_find_l1_T {r : Int × raddleref11_builder} (K : Nat) (bx0 : Nat) (go0 : (List Int) → Int → raddleref11_builder → Option (Int × raddleref11_builder)) (hgo0 : raddleref11_builder_find_l0_H bx0 r go0) : ∀ (k : Nat), ∀ (x1 : List Int) (x5_1_9 : Int) (x6_1_10 : List Int) (x7_1_11 : Bool) (x8_1_12 : Int) (x0 : raddleref11_builder) (flx1 : Bool) (w0_1 : Value) (w0_1a : Value) (w0_1aa : Value), raddleref11_builder_find_l1 K go0 k x1 x5_1_9 x6_1_10 x7_1_11 x8_1_12 x0 = some r → TL Try.prog 122 (Code.at [1, 0, 1, 0, 0, 1, 0, 0, 1, 1, 0, 1, 0, 1, 0, 0] (codeOf Try.f75)) ⟨[(0, .ptr bx0 0), (1, .sl flx1 1 (x1.map (cI .i64))), (5, .int .i64 x5_1_9), (6, .sl false 1 (x6_1_10.map (cI .i64))), (7, .bool x7_1_11), (8, .int .i64 x8_1_12)], [.box bx0 98 (([.d (.sl false 1 (x0.g.First.map (cI .i64))), .d (.sl false 9 (x0.g.P.map c_api_Pos)), .d (.ex w0_1)] : List OC) ++ ((ArrN.oc 256 .u8 x0.a.Split.Of) ++ (([.d (.int .i64 x0.a.Split.Many), .d (.ex w0_1a), .d (.ex w0_1aa), .d (.int .i64 x0.e)] : List OC)))), .arrA w0_1 3 1 (x0.number.map (cI .i64)), .arrA w0_1a 42 2 (x0.a.Counts.map (Arr2.dc .i64)), .arrX w0_1aa 59 4 0 (x0.a.States.map c_api_State)]⟩ (raddleref11_builder_find_qb2_1_0x1010010011011 bx0 r) := by
  intro k
  induction k with
  | zero =>
    intro x1 x5_1_9 x6_1_10 x7_1_11 x8_1_12 x0 flx1 w0_1 w0_1a w0_1aa h
    cases (show (none : Option (Int × raddleref11_builder)) = some r from h)
  | succ k ih =>
    intro x1 x5_1_9 x6_1_10 x7_1_11 x8_1_12 x0 flx1 w0_1 w0_1a w0_1aa h
    rw [raddleref11_builder_find_l1] at h
    refine TL.round ?_
    refine T.seq ?_
    refine T.seq ?_
    refine T.regionL ?_
    refine mv rfl rfl rfl rfl rfl ?_
    refine mv rfl rfl rfl rfl rfl ?_
    refine sp rfl (OpT.lenSlM (xs := x1) (f := (cI .i64)) rfl (dl rfl rfl) Try.underlying56 rfl ?_)
    refine sp rfl (OpT.int2 rfl rfl (dl rfl rfl) rfl rfl ?_)
    refine TL'.nil (thenS_normal ?_)
    rcases bif_some h with ⟨c_516, h⟩ | ⟨c_516, h⟩
    · refine T.condT rfl c_516 ?_
      refine T.skip (thenS_normal ?_)
      refine T.seq ?_
      refine T.block ?_
      refine DG.start ?_
      refine DG.mv rfl rfl rfl rfl rfl rfl ?_
      refine DG.mv rfl rfl rfl rfl rfl rfl ?_
      rcases bif_some h with ⟨c_523, h⟩ | ⟨c_523, h⟩
      · refine DG.step (c := ⟨some 43, .sl false 1 (x6_1_10.map (cI .i64)), [(6, .sl false 1 (x6_1_10.map (cI .i64))), (42, .bool x7_1_11)], [], []⟩) (fun t hm => One.step rfl (.on rfl rfl hm.s1 c_523) (OpT.move rfl (dl rfl rfl) hm.s0 rfl)) (Ct.met_of rfl rfl) ?_
        refine DG.step (c := ⟨some 44, .int .i64 x8_1_12, [(8, .int .i64 x8_1_12), (42, .bool x7_1_11)], [], []⟩) (fun t hm => One.step rfl (.on rfl rfl hm.s1 c_523) (OpT.move rfl (dl rfl rfl) hm.s0 rfl)) (Ct.met_of rfl rfl) ?_
        obtain ⟨v_524, e_525, h⟩ := bind_some h
        refine DG.step (c := ⟨some 45, .ref [.int .i64 v_524], [(43, .sl false 1 (x6_1_10.map (cI .i64))), (44, .int .i64 x8_1_12), (42, .bool x7_1_11)], [], []⟩) (fun t hm => One.step rfl (.on rfl rfl hm.s2 c_523) (OpT.indexSlM (xs := x6_1_10) (f := (cI .i64)) (v := v_524) rfl (dl rfl rfl) Try.underlying56 i3 hm.s0 hm.s1 e_525 rfl)) (Ct.met_of rfl rfl) ?_
        refine DG.step (c := ⟨some 46, .int .i64 v_524, [(45, .ref [.int .i64 v_524]), (42, .bool x7_1_11)], [], []⟩) (fun t hm => One.step rfl (.on rfl rfl hm.s1 c_523) (OpT.loadRef rfl (dl rfl rfl) Try.underlying3 rfl hm.s0 rfl rfl)) (Ct.met_of rfl rfl) ?_
        refine DG.step (c := ⟨some 47, .sl flx1 1 (x1.map (cI .i64)), [(1, .sl flx1 1 (x1.map (cI .i64))), (42, .bool x7_1_11)], [], []⟩) (fun t hm => One.step rfl (.on rfl rfl hm.s1 c_523) (OpT.move rfl (dl rfl rfl) hm.s0 rfl)) (Ct.met_of rfl rfl) ?_
        refine DG.step (c := ⟨some 48, .int .i64 x8_1_12, [(8, .int .i64 x8_1_12), (42, .bool x7_1_11)], [], []⟩) (fun t hm => One.step rfl (.on rfl rfl hm.s1 c_523) (OpT.move rfl (dl rfl rfl) hm.s0 rfl)) (Ct.met_of rfl rfl) ?_
        obtain ⟨v_526, e_527, h⟩ := bind_some h
        refine DG.step (c := ⟨some 49, .ref [.int .i64 v_526], [(47, .sl flx1 1 (x1.map (cI .i64))), (48, .int .i64 x8_1_12), (42, .bool x7_1_11)], [], []⟩) (fun t hm => One.step rfl (.on rfl rfl hm.s2 c_523) (OpT.indexSlM (xs := x1) (f := (cI .i64)) (v := v_526) rfl (dl rfl rfl) Try.underlying56 i3 hm.s0 hm.s1 e_527 rfl)) (Ct.met_of rfl rfl) ?_
        refine DG.step (c := ⟨some 50, .int .i64 v_526, [(49, .ref [.int .i64 v_526]), (42, .bool x7_1_11)], [], []⟩) (fun t hm => One.step rfl (.on rfl rfl hm.s1 c_523) (OpT.loadRef rfl (dl rfl rfl) Try.underlying3 rfl hm.s0 rfl rfl)) (Ct.met_of rfl rfl) ?_
        refine DG.step (c := ⟨some 51, .bool (v_524 == v_526), [(46, .int .i64 v_524), (50, .int .i64 v_526), (42, .bool x7_1_11)], [], []⟩) (fun t hm => One.step rfl (.on rfl rfl hm.s2 c_523) (OpT.int2 rfl rfl (dl rfl rfl) hm.s0 hm.s1 rfl)) (Ct.met_of rfl rfl) ?_
        refine DG.step (c := ⟨some 52, .bool (v_524 == v_526), [(42, .bool x7_1_11), (51, .bool (v_524 == v_526))], [], []⟩) (fun t hm => One.step rfl (.free rfl) (OpT.pickT rfl (dl rfl rfl) hm.s0 c_523 hm.s1 rfl)) (Ct.met_of rfl rfl) ?_
        refine DG.step (c := ⟨some 7, .bool (v_524 == v_526), [(52, .bool (v_524 == v_526))], [], []⟩) (fun t hm => One.step rfl (.free rfl) (OpT.assign rfl (dl rfl rfl) hm.s0 rfl)) (Ct.met_of rfl rfl) ?_
        refine DG.fin (s1 := ⟨[(0, .ptr bx0 0), (1, .sl flx1 1 (x1.map (cI .i64))), (5, .int .i64 x5_1_9), (6, .sl false 1 (x6_1_10.map (cI .i64))), (7, .bool (v_524 == v_526)), (8, .int .i64 x8_1_12), (43, .sl false 1 (x6_1_10.map (cI .i64))), (44, .int .i64 x8_1_12), (45, .ref [.int .i64 v_524]), (46, .int .i64 v_524), (47, .sl flx1 1 (x1.map (cI .i64))), (48, .int .i64 x8_1_12), (49, .ref [.int .i64 v_526]), (50, .int .i64 v_526), (51, .bool (v_524 == v_526))], [.box bx0 98 (([.d (.sl false 1 (x0.g.First.map (cI .i64))), .d (.sl false 9 (x0.g.P.map c_api_Pos)), .d (.ex w0_1)] : List OC) ++ ((ArrN.oc 256 .u8 x0.a.Split.Of) ++ (([.d (.int .i64 x0.a.Split.Many), .d (.ex w0_1a), .d (.ex w0_1aa), .d (.int .i64 x0.e)] : List OC)))), .arrA w0_1 3 1 (x0.number.map (cI .i64)), .arrA w0_1a 42 2 (x0.a.Counts.map (Arr2.dc .i64)), .arrX w0_1aa 59 4 0 (x0.a.States.map c_api_State)]⟩) (ms := [0, 1, 3, 3, 15, 31, 3, 3, 195, 451, 1023, 2047, 4095]) TryMixed rfl (by kernel_rfl) (by kernel_rfl) (by kernel_rfl) (.cons rfl (.cons rfl (.cons rfl (.cons rfl (.cons rfl (.cons rfl (.cons rfl (.cons rfl (.cons rfl (.cons rfl (.cons rfl (.cons rfl (.cons rfl (.cons rfl (.cons rfl (.nil _)))))))))))))))) rfl (fun u hu => (inBlock_normal (thenS_normal (T.by_turn hu ?_))))
        refine T.regionL ?_
        refine mv rfl rfl rfl rfl rfl ?_
        refine sp rfl (OpT.int2 rfl rfl (dl rfl rfl) rfl rfl ?_)
        refine asg rfl rfl rfl rfl rfl ?_
        refine TL'.nil (thenS_normal ?_)
        refine TL.by_turn ?_ (ih x1 x5_1_9 x6_1_10 (v_524 == v_526) (IntKind.i64.wrap (x8_1_12 + (1 : Int))) x0 flx1 w0_1 w0_1a w0_1aa h)
        exact Turn.rp (.cons rfl (.cons rfl (.cons rfl (.cons rfl (.cons rfl (.cons rfl (.nil _))))))) (.c .z (.c .z (.c .z (.c .z (.n _)))))
      · refine DG.off c_523 rfl rfl rfl rfl rfl rfl ?_
        refine DG.off c_523 rfl rfl rfl rfl rfl rfl ?_
        refine DG.off c_523 rfl rfl rfl rfl rfl rfl ?_
        refine DG.off c_523 rfl rfl rfl rfl rfl rfl ?_
        refine DG.off c_523 rfl rfl rfl rfl rfl rfl ?_
        refine DG.off c_523 rfl rfl rfl rfl rfl rfl ?_
        refine DG.off c_523 rfl rfl rfl rfl rfl rfl ?_
        refine DG.off c_523 rfl rfl rfl rfl rfl rfl ?_
        refine DG.off c_523 rfl rfl rfl rfl rfl rfl ?_
        refine DG.step (c := ⟨some 52, .bool false, [(42, .bool x7_1_11)], [], []⟩) (fun t hm => One.step rfl (.free rfl) (OpT.pickF rfl (dl rfl rfl) hm.s0 c_523 rfl rfl)) (Ct.met_of rfl rfl) ?_
        refine DG.step (c := ⟨some 7, .bool false, [(52, .bool false)], [], []⟩) (fun t hm => One.step rfl (.free rfl) (OpT.assign rfl (dl rfl rfl) hm.s0 rfl)) (Ct.met_of rfl rfl) ?_
        refine DG.fin (s1 := ⟨[(0, .ptr bx0 0), (1, .sl flx1 1 (x1.map (cI .i64))), (5, .int .i64 x5_1_9), (6, .sl false 1 (x6_1_10.map (cI .i64))), (7, .bool false), (8, .int .i64 x8_1_12), (43, .tup []), (44, .tup []), (45, .tup []), (46, .tup []), (47, .tup []), (48, .tup []), (49, .tup []), (50, .tup []), (51, .tup [])], [.box bx0 98 (([.d (.sl false 1 (x0.g.First.map (cI .i64))), .d (.sl false 9 (x0.g.P.map c_api_Pos)), .d (.ex w0_1)] : List OC) ++ ((ArrN.oc 256 .u8 x0.a.Split.Of) ++ (([.d (.int .i64 x0.a.Split.Many), .d (.ex w0_1a), .d (.ex w0_1aa), .d (.int .i64 x0.e)] : List OC)))), .arrA w0_1 3 1 (x0.number.map (cI .i64)), .arrA w0_1a 42 2 (x0.a.Counts.map (Arr2.dc .i64)), .arrX w0_1aa 59 4 0 (x0.a.States.map c_api_State)]⟩) (ms := [0, 1, 3, 3, 15, 31, 3, 3, 195, 451, 1023, 2047, 4095]) TryMixed rfl (by kernel_rfl) (by kernel_rfl) (by kernel_rfl) (.cons rfl (.cons rfl (.cons rfl (.cons rfl (.cons rfl (.cons rfl (.cons rfl (.cons rfl (.cons rfl (.cons rfl (.cons rfl (.cons rfl (.cons rfl (.cons rfl (.cons rfl (.nil _)))))))))))))))) rfl (fun u hu => (inBlock_normal (thenS_normal (T.by_turn hu ?_))))
        refine T.regionL ?_
        refine mv rfl rfl rfl rfl rfl ?_
        refine sp rfl (OpT.int2 rfl rfl (dl rfl rfl) rfl rfl ?_)
        refine asg rfl rfl rfl rfl rfl ?_
        refine TL'.nil (thenS_normal ?_)
        refine TL.by_turn ?_ (ih x1 x5_1_9 x6_1_10 false (IntKind.i64.wrap (x8_1_12 + (1 : Int))) x0 flx1 w0_1 w0_1a w0_1aa h)
        exact Turn.rp (.cons rfl (.cons rfl (.cons rfl (.cons rfl (.cons rfl (.cons rfl (.nil _))))))) (.c .z (.c .z (.c .z (.c .z (.n _)))))
    · refine T.condF rfl c_516 ?_
      refine T.exit (thenS_exit (thenS_exit (inBlock_exit (thenS_normal ?_))))
      refine T.seq ?_
      refine T.regionL ?_
      refine mv rfl rfl rfl rfl rfl ?_
      refine TL'.nil (thenS_normal ?_)
      rcases bif_some h with ⟨c_528, h⟩ | ⟨c_528, h⟩
      · refine T.condT rfl c_528 ?_
        refine T.seq ?_
        refine T.regionL ?_
        refine mv rfl rfl rfl rfl rfl ?_
        refine asg rfl rfl rfl rfl rfl ?_
        refine TL'.nil (thenS_normal ?_)
        refine T.ret (inBlock_ret (thenS_ret (thenS_ret (inBlock_ret (thenS_ret ?_)))))
        exact Fin.doneK (.cons _ _ _ _ (.tmp 4 _ rfl) .nil) (.cons 0 rfl (.cons 0 rfl (.cons 0 rfl (.cons 0 rfl (.nil _))))) (by cases h; exact ⟨gl [w0_1, w0_1a, w0_1aa], rfl, rfl⟩)
      · refine T.condF rfl c_528 ?_
        refine T.skip (inBlock_normal (thenS_normal ?_))
        refine T.regionL ?_
        refine mv rfl rfl rfl rfl rfl ?_
        refine sp rfl (OpT.int2 rfl rfl (dl rfl rfl) rfl rfl ?_)
        refine asg rfl rfl rfl rfl rfl ?_
        refine TL'.nil (thenS_normal ?_)
        refine TL.by_turn ?_ (hgo0 x1 (IntKind.i64.wrap (x5_1_9 + (1 : Int))) x0 flx1 w0_1 w0_1a w0_1aa h)
        exact Turn.rp (.cons rfl (.cons rfl (.cons rfl (.nil _)))) (.c .z (.c .z (.c .z (.c .z (.n _)))))

theorem raddleref11_builder_find_l2_T {r : Int × raddleref11_builder} (K : Nat) (bx0 : Nat) : ∀ (k : Nat), ∀ (x1 : List Int) (x10_2_10 : Int) (x0 : raddleref11_builder) (y9_2_9 : List Int) (flx1 : Bool) (w0_2 : Value) (w0_2a : Value) (w0_2aa : Value) (w9_2 : Value), raddleref11_builder_find_l2 K k x1 x10_2_10 x0 y9_2_9 = some r → TL Try.prog 122 (Code.at [1, 1, 1, 0, 1, 0, 0] (codeOf Try.f75)) ⟨[(0, .ptr bx0 0), (1, .sl flx1 1 (x1.map (cI .i64))), (9, .c (.ex w9_2)), (10, .int .i64 x10_2_10)], [.box bx0 98 (([.d (.sl false 1 (x0.g.First.map (cI .i64))), .d (.sl false 9 (x0.g.P.map c_api_Pos)), .d (.ex w0_2)] : List OC) ++ ((ArrN.oc 256 .u8 x0.a.Split.Of) ++ (([.d (.int .i64 x0.a.Split.Many), .d (.ex w0_2a), .d (.ex w0_2aa), .d (.int .i64 x0.e)] : List OC)))), .arrA w0_2 3 1 (x0.number.map (cI .i64)), .arrA w0_2a 42 2 (x0.a.Counts.map (Arr2.dc .i64)), .arrX w0_2aa 59 4 0 (x0.a.States.map c_api_State), .arrA w9_2 3 1 (y9_2_9.map (cI .i64))]⟩ (raddleref11_builder_find_qb4x1111 bx0 r) := by
  intro k
  induction k with
  | zero =>
    intro x1 x10_2_10 x0 y9_2_9 flx1 w0_2 w0_2a w0_2aa w9_2 h
    cases (show (none : Option (Int × raddleref11_builder)) = some r from h)
  | succ k ih =>
    intro x1 x10_2_10 x0 y9_2_9 flx1 w0_2 w0_2a w0_2aa w9_2 h
    rw [raddleref11_builder_find_l2] at h
    refine TL.round ?_
    refine T.seq ?_
    refine T.seq ?_
    refine T.regionL ?_
    refine mv rfl rfl rfl rfl rfl ?_
    refine mv rfl rfl rfl rfl rfl ?_
    refine sp rfl (OpT.lenSlM (xs := x1) (f := (cI .i64)) rfl (dl rfl rfl) Try.underlying56 rfl ?_)
    refine sp rfl (OpT.int2 rfl rfl (dl rfl rfl) rfl rfl ?_)
    refine TL'.nil (thenS_normal ?_)
    rcases bif_some h with ⟨c_529, h⟩ | ⟨c_529, h⟩
    · refine T.condT rfl c_529 ?_
      refine T.skip (thenS_normal ?_)
      refine T.seq ?_
      refine T.block ?_
      refine T.seq ?_
      refine DG.start ?_
      refine DG.mv rfl rfl rfl rfl rfl rfl ?_
      refine DG.step (c := ⟨some 62, .ptr bx0 0, [(61, .ptr bx0 0)], [], []⟩) (fun t hm => One.step rfl (.free rfl) (OpT.nilCheck rfl (dl rfl rfl) hm.s0 rfl rfl)) (Ct.met_of rfl rfl) ?_
      refine DG.step (c := ⟨some 63, .ptr bx0 (0 + 2), [(62, .ptr bx0 0)], [], []⟩) (fun t hm => One.step rfl (.free rfl) (OpT.fieldPtr rfl (dl rfl rfl) Try.underlying98 rfl i56 (by decide) hm.s0 rfl)) (Ct.met_of rfl rfl) ?_
      refine DG.step (c := ⟨some 64, .sl false 1 (x0.number.map (cI .i64)), [(63, .ptr bx0 (0 + 2))], [(0, .box bx0 98 (([.d (.sl false 1 (x0.g.First.map (cI .i64))), .d (.sl false 9 (x0.g.P.map c_api_Pos)), .d (.ex w0_2)] : List OC) ++ ((ArrN.oc 256 .u8 x0.a.Split.Of) ++ (([.d (.int .i64 x0.a.Split.Many), .d (.ex w0_2a), .d (.ex w0_2aa), .d (.int .i64 x0.e)] : List OC))))), (1, .arrA w0_2 3 1 (x0.number.map (cI .i64)))], []⟩) (fun t hm => One.step rfl (.free rfl) (OpT.thenTurn (OpT.loadBox (i := 0) rfl (dl rfl rfl) Try.underlying56 rfl hm.s0 hm.o0 rfl rfl) (Turn.viewP 64 1 hm.o1) rfl)) (Ct.met_of rfl rfl) ?_
      refine DG.mv rfl rfl rfl rfl rfl rfl ?_
      refine DG.mv rfl rfl rfl rfl rfl rfl ?_
      obtain ⟨v_535, e_536, h⟩ := bind_some h
      refine DG.step (c := ⟨some 67, .ref [.int .i64 v_535], [(65, .sl flx1 1 (x1.map (cI .i64))), (66, .int .i64 x10_2_10)], [], []⟩) (fun t hm => One.step rfl (.free rfl) (OpT.indexSlM (xs := x1) (f := (cI .i64)) (v := v_535) rfl (dl rfl rfl) Try.underlying56 i3 hm.s0 hm.s1 e_536 rfl)) (Ct.met_of rfl rfl) ?_
      refine DG.step (c := ⟨some 68, .int .i64 v_535, [(67, .ref [.int .i64 v_535])], [], []⟩) (fun t hm => One.step rfl (.free rfl) (OpT.loadRef rfl (dl rfl rfl) Try.underlying3 rfl hm.s0 rfl rfl)) (Ct.met_of rfl rfl) ?_
      obtain ⟨v_537, e_538, h⟩ := bind_some h
      refine DG.step (c := ⟨some 69, .ref [.int .i64 v_537], [(64, .sl false 1 (x0.number.map (cI .i64))), (68, .int .i64 v_535)], [], []⟩) (fun t hm => One.step rfl (.free rfl) (OpT.indexSlM (xs := x0.number) (f := (cI .i64)) (v := v_537) rfl (dl rfl rfl) Try.underlying56 i3 hm.s0 hm.s1 e_538 rfl)) (Ct.met_of rfl rfl) ?_
      refine DG.step (c := ⟨some 70, .int .i64 v_537, [(69, .ref [.int .i64 v_537])], [], []⟩) (fun t hm => One.step rfl (.free rfl) (OpT.loadRef rfl (dl rfl rfl) Try.underlying3 rfl hm.s0 rfl rfl)) (Ct.met_of rfl rfl) ?_
      refine DG.step (c := ⟨some 71, .bool (decide (v_537 ≥ (0 : Int))), [(70, .int .i64 v_537)], [], []⟩) (fun t hm => One.step rfl (.free rfl) (OpT.int2 rfl rfl (dl rfl rfl) hm.s0 rfl rfl)) (Ct.met_of rfl rfl) ?_
      refine DG.fin (s1 := ⟨[(0, .ptr bx0 0), (1, .sl flx1 1 (x1.map (cI .i64))), (9, .c (.ex w9_2)), (10, .int .i64 x10_2_10), (71, .bool (decide (v_537 ≥ (0 : Int))))], [.box bx0 98 (([.d (.sl false 1 (x0.g.First.map (cI .i64))), .d (.sl false 9 (x0.g.P.map c_api_Pos)), .d (.ex w0_2)] : List OC) ++ ((ArrN.oc 256 .u8 x0.a.Split.Of) ++ (([.d (.int .i64 x0.a.Split.Many), .d (.ex w0_2a), .d (.ex w0_2aa), .d (.int .i64 x0.e)] : List OC)))), .arrA w0_2 3 1 (x0.number.map (cI .i64)), .arrA w0_2a 42 2 (x0.a.Counts.map (Arr2.dc .i64)), .arrX w0_2aa 59 4 0 (x0.a.States.map c_api_State), .arrA w9_2 3 1 (y9_2_9.map (cI .i64))]⟩) (ms := [0, 1, 3, 7, 0, 0, 48, 112, 255, 511, 1023]) TryMixed rfl (by kernel_rfl) (by kernel_rfl) (by kernel_rfl) (.cons rfl (.cons rfl (.cons rfl (.cons rfl (.cons rfl (.nil _)))))) rfl (fun u hu => (thenS_normal (T.by_turn hu ?_)))
      rcases bif_some h with ⟨c_539, h⟩ | ⟨c_539, h⟩
      · refine T.condT rfl c_539 ?_
        refine DGG.start ?_
        refine DGG.step (c := fun γ_540 => ⟨some 72, .c (.ex w9_2), [(9, .c (.ex w9_2))], [], []⟩) [] (fun _ _ _ => rfl) (fun γ_540 t hm => One.step rfl (.free rfl) (OpT.move rfl (dl rfl rfl) hm.s0 ⟨(fun _ => undef, 0), rfl⟩)) (fun γ_540 => Ct.met_of rfl rfl) ?_
        refine DGG.step (c := fun γ_540 => ⟨some 73, .ptr bx0 0, [(0, .ptr bx0 0)], [], []⟩) [] (fun _ _ _ => rfl) (fun γ_540 t hm => One.step rfl (.free rfl) (OpT.move rfl (dl rfl rfl) hm.s0 ⟨(fun _ => undef, 0), rfl⟩)) (fun γ_540 => Ct.met_of rfl rfl) ?_
        refine DGG.step (c := fun γ_540 => ⟨some 74, .ptr bx0 0, [(73, .ptr bx0 0)], [], []⟩) [] (fun _ _ _ => rfl) (fun γ_540 t hm => One.step rfl (.free rfl) (OpT.nilCheck rfl (dl rfl rfl) hm.s0 rfl ⟨(fun _ => undef, 0), rfl⟩)) (fun γ_540 => Ct.met_of rfl rfl) ?_
        refine DGG.step (c := fun γ_540 => ⟨some 75, .ptr bx0 (0 + 2), [(74, .ptr bx0 0)], [], []⟩) [] (fun _ _ _ => rfl) (fun γ_540 t hm => One.step rfl (.free rfl) (OpT.fieldPtr rfl (dl rfl rfl) Try.underlying98 rfl i56 (by decide) hm.s0 ⟨(fun _ => undef, 0), rfl⟩)) (fun γ_540 => Ct.met_of rfl rfl) ?_
        refine DGG.step (c := fun γ_540 => ⟨some 76, .sl false 1 (x0.number.map (cI .i64)), [(75, .ptr bx0 (0 + 2))], [(0, .box bx0 98 (([.d (.sl false 1 (x0.g.First.map (cI .i64))), .d (.sl false 9 (x0.g.P.map c_api_Pos)), .d (.ex w0_2)] : List OC) ++ ((ArrN.oc 256 .u8 x0.a.Split.Of) ++ (([.d (.int .i64 x0.a.Split.Many), .d (.ex w0_2a), .d (.ex w0_2aa), .d (.int .i64 x0.e)] : List OC))))), (1, .arrA w0_2 3 1 (x0.number.map (cI .i64)))], []⟩) [] (fun _ _ _ => rfl) (fun γ_540 t hm => One.step rfl (.free rfl) (OpT.thenTurn (OpT.loadBox (i := 0) rfl (dl rfl rfl) Try.underlying56 rfl hm.s0 hm.o0 rfl rfl) (Turn.viewP 76 1 hm.o1) ⟨(fun _ => undef, 0), rfl⟩)) (fun γ_540 => Ct.met_of rfl rfl) ?_
        refine DGG.step (c := fun γ_540 => ⟨some 77, .sl flx1 1 (x1.map (cI .i64)), [(1, .sl flx1 1 (x1.map (cI .i64)))], [], []⟩) [] (fun _ _ _ => rfl) (fun γ_540 t hm => One.step rfl (.free rfl) (OpT.move rfl (dl rfl rfl) hm.s0 ⟨(fun _ => undef, 0), rfl⟩)) (fun γ_540 => Ct.met_of rfl rfl) ?_
        refine DGG.step (c := fun γ_540 => ⟨some 78, .int .i64 x10_2_10, [(10, .int .i64 x10_2_10)], [], []⟩) [] (fun _ _ _ => rfl) (fun γ_540 t hm => One.step rfl (.free rfl) (OpT.move rfl (dl rfl rfl) hm.s0 ⟨(fun _ => undef, 0), rfl⟩)) (fun γ_540 => Ct.met_of rfl rfl) ?_
        refine DGG.step (c := fun γ_540 => ⟨some 79, .ref [.int .i64 v_535], [(77, .sl flx1 1 (x1.map (cI .i64))), (78, .int .i64 x10_2_10)], [], []⟩) [] (fun _ _ _ => rfl) (fun γ_540 t hm => One.step rfl (.free rfl) (OpT.indexSlM (xs := x1) (f := (cI .i64)) (v := v_535) rfl (dl rfl rfl) Try.underlying56 i3 hm.s0 hm.s1 e_536 ⟨(fun _ => undef, 0), rfl⟩)) (fun γ_540 => Ct.met_of rfl rfl) ?_
        refine DGG.step (c := fun γ_540 => ⟨some 80, .int .i64 v_535, [(79, .ref [.int .i64 v_535])], [], []⟩) [] (fun _ _ _ => rfl) (fun γ_540 t hm => One.step rfl (.free rfl) (OpT.loadRef rfl (dl rfl rfl) Try.underlying3 rfl hm.s0 rfl ⟨(fun _ => undef, 0), rfl⟩)) (fun γ_540 => Ct.met_of rfl rfl) ?_
        refine DGG.step (c := fun γ_540 => ⟨some 81, .ref [.int .i64 v_537], [(76, .sl false 1 (x0.number.map (cI .i64))), (80, .int .i64 v_535)], [], []⟩) [] (fun _ _ _ => rfl) (fun γ_540 t hm => One.step rfl (.free rfl) (OpT.indexSlM (xs := x0.number) (f := (cI .i64)) (v := v_537) rfl (dl rfl rfl) Try.underlying56 i3 hm.s0 hm.s1 e_538 ⟨(fun _ => undef, 0), rfl⟩)) (fun γ_540 => Ct.met_of rfl rfl) ?_
        refine DGG.step (c := fun γ_540 => ⟨some 82, .int .i64 v_537, [(81, .ref [.int .i64 v_537])], [], []⟩) [] (fun _ _ _ => rfl) (fun γ_540 t hm => One.step rfl (.free rfl) (OpT.loadRef rfl (dl rfl rfl) Try.underlying3 rfl hm.s0 rfl ⟨(fun _ => undef, 0), rfl⟩)) (fun γ_540 => Ct.met_of rfl rfl) ?_
        refine DGG.step (c := fun γ_540 => ⟨some 83, .sl true 1 ([v_537].map (cI .i64)), [(82, .int .i64 v_537)], [], []⟩) [] (fun _ _ _ => rfl) (fun γ_540 t hm => One.step rfl (.free rfl) (OpT.buildSlice (elems := ([v_537] : List Int).map (cI .i64)) rfl (dl rfl rfl) Try.underlying56 i3 (by decide) rfl (all1 rfl) (parts_cons hm.s0 rfl parts_nil) rfl rfl (lenAll rfl) (by decide) ⟨(fun _ => undef, 0), rfl⟩)) (fun γ_540 => Ct.met_of rfl rfl) ?_
        obtain ⟨g_542, h⟩ := ck_some h
        refine DGG.step (c := fun γ_540 => ⟨some 84, .c (.ex ((γ_540 12).1 0)), [(83, .sl true 1 ([v_537].map (cI .i64))), (72, .c (.ex w9_2))], [(4, .arrA w9_2 3 1 (y9_2_9.map (cI .i64)))], [(4, .arrA ((γ_540 12).1 0) 3 1 ((y9_2_9 ++ [v_537]).map (cI .i64)))]⟩) [12] (fun γ_540 γ' h => by simp only [h 12 (by decide)]) (fun γ_540 t hm => One.step rfl (.free rfl) (OpT.appendAM (i := 4) (xs := y9_2_9) (ys := [v_537]) (f := (cI .i64)) rfl (dl rfl rfl) Try.underlying56 i3 rfl hm.s1 hm.o0 hm.s0 g_542 (fun w => ⟨(fun _ => w, 0), rfl⟩))) (fun γ_540 => Ct.met_of rfl rfl) ?_
        refine DGG.step (c := fun γ_540 => ⟨some 9, .c (.ex ((γ_540 12).1 0)), [(84, .c (.ex ((γ_540 12).1 0)))], [], []⟩) [12] (fun γ_540 γ' h => by simp only [h 12 (by decide)]) (fun γ_540 t hm => One.step rfl (.free rfl) (OpT.assign rfl (dl rfl rfl) hm.s0 ⟨(fun _ => undef, 0), rfl⟩)) (fun γ_540 => Ct.met_of rfl rfl) ?_
        refine DGG.fin (s1 := fun γ_540 => ⟨[(0, .ptr bx0 0), (1, .sl flx1 1 (x1.map (cI .i64))), (9, .c (.ex ((γ_540 12).1 0))), (10, .int .i64 x10_2_10)], [.box bx0 98 (([.d (.sl false 1 (x0.g.First.map (cI .i64))), .d (.sl false 9 (x0.g.P.map c_api_Pos)), .d (.ex w0_2)] : List OC) ++ ((ArrN.oc 256 .u8 x0.a.Split.Of) ++ (([.d (.int .i64 x0.a.Split.Many), .d (.ex w0_2a), .d (.ex w0_2aa), .d (.int .i64 x0.e)] : List OC)))), .arrA w0_2 3 1 (x0.number.map (cI .i64)), .arrA w0_2a 42 2 (x0.a.Counts.map (Arr2.dc .i64)), .arrX w0_2aa 59 4 0 (x0.a.States.map c_api_State), .arrA ((γ_540 12).1 0) 3 1 ((y9_2_9 ++ [v_537]).map (cI .i64))]⟩) (ms := [0, 0, 2, 6, 14, 0, 0, 96, 224, 510, 1022, 2046, 4095, 8191]) TryMixed rfl (by kernel_rfl) (by kernel_rfl) (by kernel_rfl) (fun γ_540 => by kernel_rfl) (fun γ_540 => .cons rfl (.cons rfl (.cons rfl (.cons rfl (.nil _))))) (fun _ => rfl) (fun γ_540 u hu => (inBlock_normal (thenS_normal (T.by_turn hu ?_))))
        refine T.regionL ?_
        refine mv rfl rfl rfl rfl rfl ?_
        refine sp rfl (OpT.int2 rfl rfl (dl rfl rfl) rfl rfl ?_)
        refine asg rfl rfl rfl rfl rfl ?_
        refine TL'.nil (thenS_normal ?_)
        refine TL.by_turn ?_ (ih x1 (IntKind.i64.wrap (x10_2_10 + (1 : Int))) x0 (y9_2_9 ++ [v_537]) flx1 w0_2 w0_2a w0_2aa ((γ_540 12).1 0) h)
        exact Turn.rp (.cons rfl (.cons rfl (.cons rfl (.cons rfl (.nil _))))) (.c .z (.c .z (.c .z (.c .z (.c .z (.n _))))))
      · refine T.condF rfl c_539 ?_
        refine T.skip (inBlock_normal (thenS_normal ?_))
        refine T.regionL ?_
        refine mv rfl rfl rfl rfl rfl ?_
        refine sp rfl (OpT.int2 rfl rfl (dl rfl rfl) rfl rfl ?_)
        refine asg rfl rfl rfl rfl rfl ?_
        refine TL'.nil (thenS_normal ?_)
        refine TL.by_turn ?_ (ih x1 (IntKind.i64.wrap (x10_2_10 + (1 : Int))) x0 y9_2_9 flx1 w0_2 w0_2a w0_2aa w9_2 h)
        exact Turn.rp (.cons rfl (.cons rfl (.cons rfl (.cons rfl (.nil _))))) (.c .z (.c .z (.c .z (.c .z (.c .z (.n _))))))
    · refine T.condF rfl c_529 ?_
      refine T.exit (thenS_exit (thenS_exit (inBlock_exit (thenS_normal ?_))))
      refine T.seq ?_
      refine T.seq ?_
      refine T.regionL ?_
      refine mv rfl rfl rfl rfl rfl ?_
      refine sp rfl (OpT.lenAM (i := 4) (xs := y9_2_9) (f := (cI .i64)) rfl (dl rfl rfl) Try.underlying56 rfl rfl ?_)
      refine sp rfl (OpT.int2 rfl rfl (dl rfl rfl) rfl rfl ?_)
      refine TL'.nil (thenS_normal ?_)
      rcases bif_some h with ⟨c_543, h⟩ | ⟨c_543, h⟩
      · refine T.condT rfl c_543 ?_
        refine T.seq ?_
        refine T.regionL ?_
        refine mv rfl rfl rfl rfl rfl ?_
        refine sp rfl (OpT.nilCheck rfl (dl rfl rfl) rfl rfl ?_)
        refine sp rfl (OpT.fieldPtr rfl (dl rfl rfl) Try.underlying98 rfl i30 (by decide) rfl ?_)
        refine sp rfl (OpT.storeTo (i := 0) (cells' := (([.d (.sl false 1 (x0.g.First.map (cI .i64))), .d (.sl false 9 (x0.g.P.map c_api_Pos)), .d (.ex w0_2)] : List OC) ++ ((ArrN.oc 256 .u8 x0.a.Split.Of) ++ (([.d (.int .i64 x0.a.Split.Many), .d (.ex w0_2a), .d (.ex w0_2aa), .d (.int .i64 (110 : Int))] : List OC))))) rfl rfl i30 rfl rfl rfl (Nat.le_of_ble_eq_true rfl) rfl ?_)
        refine TL'.nil (thenS_normal ?_)
        refine T.seq ?_
        refine T.regionL ?_
        refine asg rfl rfl rfl rfl rfl ?_
        refine TL'.nil (thenS_normal ?_)
        refine T.ret (thenS_ret ?_)
        exact Fin.doneK (.cons _ _ _ _ (.tmp 4 _ rfl) .nil) (.cons 0 rfl (.cons 0 rfl (.cons 0 rfl (.cons 0 rfl (.nil _))))) (by cases h; exact ⟨gl [w0_2, w0_2a, w0_2aa], rfl, rfl⟩)
      · refine T.condF rfl c_543 ?_
        refine T.skip (thenS_normal ?_)
        refine T.seq ?_
        refine T.seq ?_
        refine T.regionL ?_
        refine mv rfl rfl rfl rfl rfl ?_
        refine sp rfl (OpT.nilCheck rfl (dl rfl rfl) rfl rfl ?_)
        refine sp rfl (OpT.fieldPtr rfl (dl rfl rfl) Try.underlying98 rfl i28 (by decide) rfl ?_)
        refine sp rfl (OpT.fieldPtr rfl (dl rfl rfl) Try.underlying28 rfl i26 (by decide) rfl ?_)
        refine sp rfl (OpT.loadBox (i := 0) rfl (dl rfl rfl) Try.underlying26 rfl rfl rfl rfl ?_)
        refine sp rfl (OpT.lenXM (i := 3) (xs := x0.a.States) (f := c_api_State) rfl (dl rfl rfl) Try.underlying26 rfl rfl ?_)
        refine sp rfl (OpT.int2 rfl rfl (dl rfl rfl) rfl rfl ?_)
        refine TL'.nil (thenS_normal ?_)
        rcases bif_some h with ⟨c_544, h⟩ | ⟨c_544, h⟩
        · refine T.condT rfl c_544 ?_
          refine T.seq ?_
          refine T.regionL ?_
          refine mv rfl rfl rfl rfl rfl ?_
          refine sp rfl (OpT.nilCheck rfl (dl rfl rfl) rfl rfl ?_)
          refine sp rfl (OpT.fieldPtr rfl (dl rfl rfl) Try.underlying98 rfl i30 (by decide) rfl ?_)
          refine sp rfl (OpT.storeTo (i := 0) (cells' := (([.d (.sl false 1 (x0.g.First.map (cI .i64))), .d (.sl false 9 (x0.g.P.map c_api_Pos)), .d (.ex w0_2)] : List OC) ++ ((ArrN.oc 256 .u8 x0.a.Split.Of) ++ (([.d (.int .i64 x0.a.Split.Many), .d (.ex w0_2a), .d (.ex w0_2aa), .d (.int .i64 (3 : Int))] : List OC))))) rfl rfl i30 rfl rfl rfl (Nat.le_of_ble_eq_true rfl) rfl ?_)
          refine TL'.nil (thenS_normal ?_)
          refine T.seq ?_
          refine T.regionL ?_
          refine asg rfl rfl rfl rfl rfl ?_
          refine TL'.nil (thenS_normal ?_)
          refine T.ret (thenS_ret ?_)
          exact Fin.doneK (.cons _ _ _ _ (.tmp 4 _ rfl) .nil) (.cons 0 rfl (.cons 0 rfl (.cons 0 rfl (.cons 0 rfl (.nil _))))) (by cases h; exact ⟨gl [w0_2, w0_2a, w0_2aa], rfl, rfl⟩)
        · refine T.condF rfl c_544 ?_
          refine T.skip (thenS_normal ?_)
          refine T.seq ?_
          refine T.regionL ?_
          refine mv rfl rfl rfl rfl rfl ?_
          refine mv rfl rfl rfl rfl rfl ?_
          refine sp rfl (OpT.nilCheck rfl (dl rfl rfl) rfl rfl ?_)
          refine sp rfl (OpT.fieldPtr rfl (dl rfl rfl) Try.underlying98 rfl i28 (by decide) rfl ?_)
          refine sp rfl (OpT.fieldPtr rfl (dl rfl rfl) Try.underlying28 rfl i26 (by decide) rfl ?_)
          refine sp rfl (OpT.loadBox (i := 0) rfl (dl rfl rfl) Try.underlying26 rfl rfl rfl rfl ?_)
          refine mv rfl rfl rfl rfl rfl ?_
          refine mv rfl rfl rfl rfl rfl ?_
          refine sp rfl (OpT.thenTurn (OpT.build (l := [.sl flx1 1 (x1.map (cI .i64)), .ex w9_2, .ex (.slice none 0 0), .ex (.slice none 0 0)]) rfl (dl rfl rfl) (built_struct (pl := [(0, 1), (1, 1), (2, 1), (3, 1)]) Try.underlying59 i59 rfl) (all1 rfl) rfl rfl rfl) (Turn.weakSlotP 109 (l := [.sl flx1 1 (x1.map (cI .i64)), .ex w9_2, .ex (.slice none 0 0), .ex (.slice none 0 0)]) (l' := [.sl false 1 (x1.map (cI .i64)), .sl false 1 (y9_2_9.map (cI .i64)), .ex (.slice none 0 0), .ex (.slice none 0 0)]) (.cons (.full _ _ _) (.cons (.view 4 rfl) (.cons (.same _) (.cons (.same _) (.refl _)))))) ?_)
          refine TL'.turn (Turn.weakSlot 109 (l := [.sl false 1 (x1.map (cI .i64)), .sl false 1 (y9_2_9.map (cI .i64)), .ex (.slice none 0 0), .ex (.slice none 0 0)]) (l' := [.sl false 1 (x1.map (cI .i64)), .sl false 1 (y9_2_9.map (cI .i64)), .sl false 1 (([] : List Int).map (cI .i64)), .sl false 1 (([] : List (List api_Move)).map (cL 2 c_api_Move))]) rfl (.cons (.same _) (.cons (.same _) (.cons (.nil _ _) (.cons (.nil _ _) (.refl _)))))) ?_
          refine sp rfl (OpT.buildSlice (elems := ([(api_State.mk x1 y9_2_9 [] [])] : List api_State).map c_api_State) rfl (dl rfl rfl) Try.underlying26 i59 (by decide) rfl (all1 rfl) rfl rfl rfl (lenAll rfl) (by decide) ?_)
          obtain ⟨g_546, h⟩ := ck_some h
          refine sp rfl (OpT.appendXM (i := 3) (xs := x0.a.States) (ys := [(api_State.mk x1 y9_2_9 [] [])]) (f := c_api_State) rfl (dl rfl rfl) Try.underlying26 i59 rfl rfl rfl rfl g_546 (fun w_545 => ?_))
          refine sp rfl (OpT.nilCheck rfl (dl rfl rfl) rfl rfl ?_)
          refine sp rfl (OpT.fieldPtr rfl (dl rfl rfl) Try.underlying98 rfl i28 (by decide) rfl ?_)
          refine sp rfl (OpT.fieldPtr rfl (dl rfl rfl) Try.underlying28 rfl i26 (by decide) rfl ?_)
          refine sp rfl (OpT.storeTo (i := 0) (cells' := (([.d (.sl false 1 (x0.g.First.map (cI .i64))), .d (.sl false 9 (x0.g.P.map c_api_Pos)), .d (.ex w0_2)] : List OC) ++ ((ArrN.oc 256 .u8 x0.a.Split.Of) ++ (([.d (.int .i64 x0.a.Split.Many), .d (.ex w0_2a), .d (.ex w_545), .d (.int .i64 x0.e)] : List OC))))) rfl rfl i26 rfl rfl rfl (Nat.le_of_ble_eq_true rfl) rfl ?_)
          refine TL'.nil (thenS_normal ?_)
          refine T.seq ?_
          refine T.regionL ?_
          refine mv rfl rfl rfl rfl rfl ?_
          refine sp rfl (OpT.nilCheck rfl (dl rfl rfl) rfl rfl ?_)
          refine sp rfl (OpT.fieldPtr rfl (dl rfl rfl) Try.underlying98 rfl i28 (by decide) rfl ?_)
          refine sp rfl (OpT.fieldPtr rfl (dl rfl rfl) Try.underlying28 rfl i26 (by decide) rfl ?_)
          refine sp rfl (OpT.loadBox (i := 0) rfl (dl rfl rfl) Try.underlying26 rfl rfl rfl rfl ?_)
          refine sp rfl (OpT.lenXM (i := 3) (xs := (x0.a.States ++ [(api_State.mk x1 y9_2_9 [] [])])) (f := c_api_State) rfl (dl rfl rfl) Try.underlying26 rfl rfl ?_)
          refine sp rfl (OpT.int2 rfl rfl (dl rfl rfl) rfl rfl ?_)
          refine asg rfl rfl rfl rfl rfl ?_
          refine TL'.nil (thenS_normal ?_)
          refine T.ret ?_
          exact Fin.doneK (.cons _ _ _ _ (.tmp 4 _ rfl) .nil) (.cons 0 rfl (.cons 0 rfl (.cons 0 rfl (.cons 0 rfl (.nil _))))) (by cases h; exact ⟨gl [w0_2, w0_2a, w_545], rfl, rfl⟩)

theorem raddleref11_builder_find_l0_T {r : Int × raddleref11_builder} (K : Nat) (bx0 : Nat) : ∀ (k : Nat), ∀ (x1 : List Int) (x5_0_9 : Int) (x0 : raddleref11_builder) (flx1 : Bool) (w0_0 : Value) (w0_0a : Value) (w0_0aa : Value), raddleref11_builder_find_l0 K k x1 x5_0_9 x0 = some r → TL Try.prog 122 (Code.at [1, 0, 1, 0, 0] (codeOf Try.f75)) ⟨[(0, .ptr bx0 0), (1, .sl flx1 1 (x1.map (cI .i64))), (5, .int .i64 x5_0_9)], [.box bx0 98 (([.d (.sl false 1 (x0.g.First.map (cI .i64))), .d (.sl false 9 (x0.g.P.map c_api_Pos)), .d (.ex w0_0)] : List OC) ++ ((ArrN.oc 256 .u8 x0.a.Split.Of) ++ (([.d (.int .i64 x0.a.Split.Many), .d (.ex w0_0a), .d (.ex w0_0aa), .d (.int .i64 x0.e)] : List OC)))), .arrA w0_0 3 1 (x0.number.map (cI .i64)), .arrA w0_0a 42 2 (x0.a.Counts.map (Arr2.dc .i64)), .arrX w0_0aa 59 4 0 (x0.a.States.map c_api_State)]⟩ (raddleref11_builder_find_qb0x11 bx0 r) := by
  intro k
  induction k with
  | zero =>
    intro x1 x5_0_9 x0 flx1 w0_0 w0_0a w0_0aa h
    cases (show (none : Option (Int × raddleref11_builder)) = some r from h)
  | succ k ih =>
    intro x1 x5_0_9 x0 flx1 w0_0 w0_0a w0_0aa h
    rw [raddleref11_builder_find_l0] at h
    refine TL.round ?_
    refine T.seq ?_
    refine T.seq ?_
    refine T.regionL ?_
    refine mv rfl rfl rfl rfl rfl ?_
    refine mv rfl rfl rfl rfl rfl ?_
    refine sp rfl (OpT.nilCheck rfl (dl rfl rfl) rfl rfl ?_)
    refine sp rfl (OpT.fieldPtr rfl (dl rfl rfl) Try.underlying98 rfl i28 (by decide) rfl ?_)
    refine sp rfl (OpT.fieldPtr rfl (dl rfl rfl) Try.underlying28 rfl i26 (by decide) rfl ?_)
    refine sp rfl (OpT.loadBox (i := 0) rfl (dl rfl rfl) Try.underlying26 rfl rfl rfl rfl ?_)
    refine sp rfl (OpT.lenXM (i := 3) (xs := x0.a.States) (f := c_api_State) rfl (dl rfl rfl) Try.underlying26 rfl rfl ?_)
    refine sp rfl (OpT.int2 rfl rfl (dl rfl rfl) rfl rfl ?_)
    refine TL'.nil (thenS_normal ?_)
    rcases bif_some h with ⟨c_512, h⟩ | ⟨c_512, h⟩
    · refine T.condT rfl c_512 ?_
      refine T.skip (thenS_normal ?_)
      refine T.seq ?_
      refine T.block ?_
      refine T.seq ?_
      refine T.regionL ?_
      refine mv rfl rfl rfl rfl rfl ?_
      refine sp rfl (OpT.nilCheck rfl (dl rfl rfl) rfl rfl ?_)
      refine sp rfl (OpT.fieldPtr rfl (dl rfl rfl) Try.underlying98 rfl i28 (by decide) rfl ?_)
      refine sp rfl (OpT.fieldPtr rfl (dl rfl rfl) Try.underlying28 rfl i26 (by decide) rfl ?_)
      refine sp rfl (OpT.loadBox (i := 0) rfl (dl rfl rfl) Try.underlying26 rfl rfl rfl rfl ?_)
      refine mv rfl rfl rfl rfl rfl ?_
      obtain ⟨v_513, e_514, h⟩ := bind_some h
      refine sp rfl (OpT.indexXM (n := 3) (xs := x0.a.States) (f := c_api_State) (old := v_513) rfl (dl rfl rfl) Try.underlying26 i59 rfl rfl rfl e_514 ?_)
      refine sp rfl (OpT.fieldEl rfl (dl rfl rfl) Try.underlying59 rfl i56 (by decide) rfl ?_)
      refine sp rfl (OpT.loadXM (i := 3) (xs := x0.a.States) (f := c_api_State) (old := v_513) rfl (dl rfl rfl) Try.underlying56 rfl rfl rfl (geti_some e_514).2 rfl ?_)
      refine asg rfl rfl rfl rfl rfl ?_
      refine TL'.nil (thenS_normal ?_)
      refine T.seq ?_
      refine T.regionL ?_
      refine mv rfl rfl rfl rfl rfl ?_
      refine sp rfl (OpT.lenSlM (xs := v_513.L) (f := (cI .i64)) rfl (dl rfl rfl) Try.underlying56 rfl ?_)
      refine mv rfl rfl rfl rfl rfl ?_
      refine sp rfl (OpT.lenSlM (xs := x1) (f := (cI .i64)) rfl (dl rfl rfl) Try.underlying56 rfl ?_)
      refine sp rfl (OpT.int2 rfl rfl (dl rfl rfl) rfl rfl ?_)
      refine TL'.nil (thenS_normal ?_)
      rcases bif_some h with ⟨c_515, h⟩ | ⟨c_515, h⟩
      · refine T.condT rfl c_515 ?_
        refine T.seq ?_
        refine T.regionL ?_
        refine asg rfl rfl rfl rfl rfl ?_
        refine TL'.nil (thenS_normal ?_)
        refine T.seq ?_
        refine T.seq ?_
        refine T.regionL ?_
        refine asg rfl rfl rfl rfl rfl ?_
        refine TL'.nil (thenS_normal ?_)
        refine T.block ?_
        refine T.loop ?_
        refine TL.by_turn ?_ (raddleref11_builder_find_l1_T K bx0 (raddleref11_builder_find_l0 K k) ih K x1 x5_0_9 v_513.L true (0 : Int) x0 flx1 w0_0 w0_0a w0_0aa h)
        exact Turn.rp (.cons rfl (.cons rfl (.cons rfl (.cons rfl (.cons rfl (.cons rfl (.nil _))))))) (.c .z (.c .z (.c .z (.c .z (.n _)))))
      · refine T.condF rfl c_515 ?_
        refine T.skip (inBlock_normal (thenS_normal ?_))
        refine T.regionL ?_
        refine mv rfl rfl rfl rfl rfl ?_
        refine sp rfl (OpT.int2 rfl rfl (dl rfl rfl) rfl rfl ?_)
        refine asg rfl rfl rfl rfl rfl ?_
        refine TL'.nil (thenS_normal ?_)
        refine TL.by_turn ?_ (ih x1 (IntKind.i64.wrap (x5_0_9 + (1 : Int))) x0 flx1 w0_0 w0_0a w0_0aa h)
        exact Turn.rp (.cons rfl (.cons rfl (.cons rfl (.nil _)))) (.c .z (.c .z (.c .z (.c .z (.n _)))))
    · refine T.condF rfl c_512 ?_
      refine T.exit (thenS_exit (thenS_exit (inBlock_exit (thenS_normal ?_))))
      refine T.seq ?_
      refine T.regionL ?_
      refine asg rfl rfl rfl rfl rfl ?_
      refine TL'.nil (thenS_normal ?_)
      refine T.seq ?_
      refine T.seq ?_
      refine T.regionL ?_
      refine asg rfl rfl rfl rfl rfl ?_
      refine TL'.nil (thenS_normal ?_)
      refine T.block ?_
      refine T.loop ?_
      refine TL.by_turn (Turn.nilA 3 1) ?_
      refine TL.by_turn ?_ (raddleref11_builder_find_l2_T K bx0 K x1 (0 : Int) x0 [] flx1 w0_0 w0_0a w0_0aa (nilv 7) h)
      exact Turn.rp (.cons rfl (.cons rfl (.cons rfl (.cons rfl (.nil _))))) (.c (.s .z) (.c (.s .z) (.c (.s .z) (.c (.s .z) (.c .z (.n _))))))

theorem raddleref11_builder_find_T (K : Nat) {x0 : raddleref11_builder} {x1 : List Int} {bx0 : Nat} {wx0c1 : Value} {wx0c2c1 : Value} {wx0c2c2 : Value} {flx1 : Bool} {r : Int × raddleref11_builder} (h : raddleref11_builder_find K x0 x1 = some r) : CallG Try.prog 75 [.ptr bx0 0, .sl flx1 1 (x1.map (cI .i64))] [.box bx0 98 (([.d (.sl false 1 (x0.g.First.map (cI .i64))), .d (.sl false 9 (x0.g.P.map c_api_Pos)), .d (.ex wx0c1)] : List OC) ++ ((ArrN.oc 256 .u8 x0.a.Split.Of) ++ (([.d (.int .i64 x0.a.Split.Many), .d (.ex wx0c2c1), .d (.ex wx0c2c2), .d (.int .i64 x0.e)] : List OC)))), .arrA wx0c1 3 1 (x0.number.map (cI .i64)), .arrA wx0c2c1 42 2 (x0.a.Counts.map (Arr2.dc .i64)), .arrX wx0c2c2 59 4 0 (x0.a.States.map c_api_State)] (fun γ => (.int .i64 r.1)) (fun γ => [.box bx0 98 (([.d (.sl false 1 (r.2.g.First.map (cI .i64))), .d (.sl false 9 (r.2.g.P.map c_api_Pos)), .d (.ex (γ 0))] : List OC) ++ ((ArrN.oc 256 .u8 r.2.a.Split.Of) ++ (([.d (.int .i64 r.2.a.Split.Many), .d (.ex (γ 1)), .d (.ex (γ 2)), .d (.int .i64 r.2.e)] : List OC)))), .arrA (γ 0) 3 1 (r.2.number.map (cI .i64)), .arrA (γ 1) 42 2 (r.2.a.Counts.map (Arr2.dc .i64)), .arrX (γ 2) 59 4 0 (r.2.a.States.map c_api_State)]) := by
  refine CallT.intro Try.func75 rfl (Nat.le_of_ble_eq_true rfl) ?_
  show T Try.prog 122 (Code.at [] (codeOf Try.f75)) ⟨paramSlots 0 [.ptr bx0 0, .sl flx1 1 (x1.map (cI .i64))], [.box bx0 98 (([.d (.sl false 1 (x0.g.First.map (cI .i64))), .d (.sl false 9 (x0.g.P.map c_api_Pos)), .d (.ex wx0c1)] : List OC) ++ ((ArrN.oc 256 .u8 x0.a.Split.Of) ++ (([.d (.int .i64 x0.a.Split.Many), .d (.ex wx0c2c1), .d (.ex wx0c2c2), .d (.int .i64 x0.e)] : List OC)))), .arrA wx0c1 3 1 (x0.number.map (cI .i64)), .arrA wx0c2c1 42 2 (x0.a.Counts.map (Arr2.dc .i64)), .arrX wx0c2c2 59 4 0 (x0.a.States.map c_api_State)]⟩ (raddleref11_builder_find_q bx0 r)
  unfold raddleref11_builder_find at h
  refine T.seq ?_
  refine T.regionL ?_
  refine asg rfl rfl rfl rfl rfl ?_
  refine TL'.nil (thenS_normal ?_)
  refine T.seq ?_
  refine T.seq ?_
  refine T.regionL ?_
  refine asg rfl rfl rfl rfl rfl ?_
  refine TL'.nil (thenS_normal ?_)
  refine T.block ?_
  refine T.loop ?_
  refine TL.by_turn ?_ (raddleref11_builder_find_l0_T K bx0 K x1 (1 : Int) x0 flx1 wx0c1 wx0c2c1 wx0c2c2 h)
  exact Turn.rp (.cons rfl (.cons rfl (.cons rfl (.nil _)))) (.c .z (.c .z (.c .z (.c .z (.n _)))))

abbrev raddleref11_builder_goes_q (bx0 : Nat) (r : api_Move × raddleref11_builder) : Exit → St → Prop := retS Try.prog Try.f52 (fun y t => ∃ γ : Nat → Value, y = (.agg [.int .i64 r.1.To, .sl false 1 (r.1.Ops.map (cI .u8))]) ∧ t = [.box bx0 98 (([.d (.sl false 1 (r.2.g.First.map (cI .i64))), .d (.sl false 9 (r.2.g.P.map c_api_Pos)), .d (.ex (γ 0))] : List OC) ++ ((ArrN.oc 256 .u8 r.2.a.Split.Of) ++ (([.d (.int .i64 r.2.a.Split.Many), .d (.ex (γ 1)), .d (.ex (γ 2)), .d (.int .i64 r.2.e)] : List OC)))), .arrA (γ 0) 3 1 (r.2.number.map (cI .i64)), .arrA (γ 1) 42 2 (r.2.a.Counts.map (Arr2.dc .i64)), .arrX (γ 2) 59 4 0 (r.2.a.States.map c_api_State)])

abbrev raddleref11_builder_goes_qs111111 (bx0 : Nat) (r : api_Move × raddleref11_builder) : Exit → St → Prop := thenS (fun s' => T Try.prog 109 (Code.at [1, 1, 1, 1, 1, 1] (codeOf Try.f52)) s' ((raddleref11_builder_goes_q bx0 r))) ((raddleref11_builder_goes_q bx0 r))

abbrev raddleref11_builder_goes_qb0x111111 (bx0 : Nat) (r : api_Move × raddleref11_builder) : Exit → St → Prop := inBlockS 0 ((raddleref11_builder_goes_qs111111 bx0 r))

abbrev raddleref11_builder_goes_ql11111010 (bx0 : Nat) (r : api_Move × raddleref11_builder) : Exit → St → Prop := thenS (fun s' => TL Try.prog 109 (Code.at [1, 1, 1, 1, 1, 0, 1, 0, 0] (codeOf Try.f52)) s' ((raddleref11_builder_goes_qb0x111111 bx0 r))) ((raddleref11_builder_goes_qb0x111111 bx0 r))

abbrev raddleref11_builder_goes_qs11111010011 (bx0 : Nat) (r : api_Move × raddleref11_builder) : Exit → St → Prop := thenS (fun s' => T Try.prog 109 (Code.at [1, 1, 1, 1, 1, 0, 1, 0, 0, 1, 1] (codeOf Try.f52)) s' ((raddleref11_builder_goes_ql11111010 bx0 r))) ((raddleref11_builder_goes_ql11111010 bx0 r))

abbrev raddleref11_builder_goes_qb1_0x11111010011 (bx0 : Nat) (r : api_Move × raddleref11_builder) : Exit → St → Prop := inBlockS 1 ((raddleref11_builder_goes_qs11111010011 bx0 r))

abbrev raddleref11_builder_goes_qb2_1_0x11111010011 (bx0 : Nat) (r : api_Move × raddleref11_builder) : Exit → St → Prop := inBlockS 2 ((raddleref11_builder_goes_qb1_0x11111010011 bx0 r))

abbrev raddleref11_builder_goes_qs1111101001001111 (bx0 : Nat) (r : api_Move × raddleref11_builder) : Exit → St → Prop := thenS (fun s' => T Try.prog 109 (Code.at [1, 1, 1, 1, 1, 0, 1, 0, 0, 1, 0, 0, 1, 1, 1, 1] (codeOf Try.f52)) s' ((raddleref11_builder_goes_qb1_0x11111010011 bx0 r))) ((raddleref11_builder_goes_qb1_0x11111010011 bx0 r))

abbrev raddleref11_builder_goes_l0_H (bx0 : Nat) (r : api_Move × raddleref11_builder) (go : Int → Int → Int → Int → raddleref11_builder → (List Int) → (List Int) → (List Int) → (List (List api_Move)) → (List Int) → (List Int) → Option (api_Move × raddleref11_builder)) : Prop := ∀ (x1 : Int) (x2 : Int) (x10_0_15 : Int) (x13_0_18 : Int) (x0 : raddleref11_builder) (y9_0_11 : List Int) (y9_0_12 : List Int) (y9_0_13 : List Int) (y9_0_14 : List (List api_Move)) (y11_0_16 : List Int) (y12_0_17 : List Int) (w0_0 : Value) (w0_0a : Value) (w0_0aa : Value) (b8_0 : Nat) (b9_0 : Nat) (w11_0 : Value) (w12_0 : Value), go x1 x2 x10_0_15 x13_0_18 x0 y9_0_11 y9_0_12 y9_0_13 y9_0_14 y11_0_16 y12_0_17 = some r → TL Try.prog 109 (Code.at [1, 1, 1, 1, 1, 0, 1, 0, 0] (codeOf Try.f52)) ⟨[(0, .ptr bx0 0), (1, .int .i64 x1), (2, .int .i64 x2), (8, .ptr b8_0 0), (9, .ptr b9_0 0), (10, .int .u8 x10_0_15), (11, .c (.ex w11_0)), (12, .c (.ex w12_0)), (13, .int .i64 x13_0_18)], [.box bx0 98 (([.d (.sl false 1 (x0.g.First.map (cI .i64))), .d (.sl false 9 (x0.g.P.map c_api_Pos)), .d (.ex w0_0)] : List OC) ++ ((ArrN.oc 256 .u8 x0.a.Split.Of) ++ (([.d (.int .i64 x0.a.Split.Many), .d (.ex w0_0a), .d (.ex w0_0aa), .d (.int .i64 x0.e)] : List OC)))), .arrA w0_0 3 1 (x0.number.map (cI .i64)), .arrA w0_0a 42 2 (x0.a.Counts.map (Arr2.dc .i64)), .arrX w0_0aa 59 4 0 (x0.a.States.map c_api_State), .box b8_0 63 [.d (.int .i64 (0 : Int)), .d (.ex (.slice none 0 0))], .box b9_0 59 [.d (.sl false 1 (y9_0_11.map (cI .i64))), .d (.sl false 1 (y9_0_12.map (cI .i64))), .d (.sl false 1 (y9_0_13.map (cI .i64))), .d (.sl false 1 (y9_0_14.map (cL 2 c_api_Move)))], .arrA w11_0 3 1 (y11_0_16.map (cI .i64)), .arrA w12_0 5 1 (y12_0_17.map (cI .u8))]⟩ (raddleref11_builder_goes_qb0x111111 bx0 r)

theorem raddleref11_builder_goes_j2_T {r : api_Move × raddleref11_builder} (K : Nat) (bx0 : Nat) (go0 : Int → Int → Int → Int → raddleref11_builder → (List Int) → (List Int) → (List Int) → (List (List api_Move)) → (List Int) → (List Int) → Option (api_Move × raddleref11_builder)) (hgo0 : raddleref11_builder_goes_l0_H bx0 r go0) (x1 : Int) (x2 : Int) (x10_0_15 : Int) (x13_2_18 : Int) (x15_2_19 : Bool) (x0 : raddleref11_builder) (y9_0_11 : List Int) (y9_0_12 : List Int) (y9_0_13 : List Int) (y9_0_14 : List (List api_Move)) (y11_2_16 : List Int) (y12_2_17 : List Int) (w0_2 : Value) (w0_2a : Value) (w0_2aa : Value) (b8_2 : Nat) (b9_2 : Nat) (w11_2 : Value) (w12_2 : Value) (h : raddleref11_builder_goes_j2 K go0 x1 x2 x10_0_15 x13_2_18 x15_2_19 x0 y9_0_11 y9_0_12 y9_0_13 y9_0_14 y11_2_16 y12_2_17 = some r) : T Try.prog 109 (Code.at [1, 1, 1, 1, 1, 0, 1, 0, 0, 1, 0, 0, 1, 1, 1, 1, 1, 1, 0, 1, 1] (codeOf Try.f52)) ⟨[(0, .ptr bx0 0), (1, .int .i64 x1), (2, .int .i64 x2), (8, .ptr b8_2 0), (9, .ptr b9_2 0), (10, .int .u8 x10_0_15), (11, .c (.ex w11_2)), (12, .c (.ex w12_2)), (13, .int .i64 x13_2_18), (15, .bool x15_2_19)], [.box bx0 98 (([.d (.sl false 1 (x0.g.First.map (cI .i64))), .d (.sl false 9 (x0.g.P.map c_api_Pos)), .d (.ex w0_2)] : List OC) ++ ((ArrN.oc 256 .u8 x0.a.Split.Of) ++ (([.d (.int .i64 x0.a.Split.Many), .d (.ex w0_2a), .d (.ex w0_2aa), .d (.int .i64 x0.e)] : List OC)))), .arrA w0_2 3 1 (x0.number.map (cI .i64)), .arrA w0_2a 42 2 (x0.a.Counts.map (Arr2.dc .i64)), .arrX w0_2aa 59 4 0 (x0.a.States.map c_api_State), .box b8_2 63 [.d (.int .i64 (0 : Int)), .d (.ex (.slice none 0 0))], .box b9_2 59 [.d (.sl false 1 (y9_0_11.map (cI .i64))), .d (.sl false 1 (y9_0_12.map (cI .i64))), .d (.sl false 1 (y9_0_13.map (cI .i64))), .d (.sl false 1 (y9_0_14.map (cL 2 c_api_Move)))], .arrA w11_2 3 1 (y11_2_16.map (cI .i64)), .arrA w12_2 5 1 (y12_2_17.map (cI .u8))]⟩ (raddleref11_builder_goes_qb2_1_0x11111010011 bx0 r) := by
  unfold raddleref11_builder_goes_j2 at h
  refine T.seq ?_
  refine T.regionL ?_
  refine mv rfl rfl rfl rfl rfl ?_
  refine asg rfl rfl rfl rfl rfl ?_
  refine TL'.nil (thenS_normal ?_)
  rcases bif_some h with ⟨c_696, h⟩ | ⟨c_696, h⟩
  · refine T.condT rfl c_696 ?_
    refine T.regionL ?_
    refine mv rfl rfl rfl rfl rfl ?_
    refine sp rfl (OpT.buildSlice (elems := ([(1 : Int)] : List Int).map (cI .u8)) rfl (dl rfl rfl) Try.underlying29 i5 (by decide) rfl (all1 rfl) rfl rfl rfl (lenAll rfl) (by decide) ?_)
    obtain ⟨g_698, h⟩ := ck_some h
    refine sp rfl (OpT.appendAM (i := 7) (xs := y12_2_17) (ys := [(1 : Int)]) (f := (cI .u8)) rfl (dl rfl rfl) Try.underlying29 i5 rfl rfl rfl rfl g_698 (fun w_697 => ?_))
    refine asg rfl rfl rfl rfl rfl ?_
    refine TL'.nil (inBlock_normal (inBlock_normal (thenS_normal ?_)))
    refine T.regionL ?_
    refine mv rfl rfl rfl rfl rfl ?_
    refine sp rfl (OpT.int2 rfl rfl (dl rfl rfl) rfl rfl ?_)
    refine asg rfl rfl rfl rfl rfl ?_
    refine TL'.nil (thenS_normal ?_)
    refine TL.by_turn ?_ (hgo0 x1 x2 x10_0_15 (IntKind.i64.wrap (x13_2_18 + (1 : Int))) x0 y9_0_11 y9_0_12 y9_0_13 y9_0_14 y11_2_16 (y12_2_17 ++ [(1 : Int)]) w0_2 w0_2a w0_2aa b8_2 b9_2 w11_2 w_697 h)
    exact Turn.rp (.cons rfl (.cons rfl (.cons rfl (.cons rfl (.cons rfl (.cons rfl (.cons rfl (.cons rfl (.cons rfl (.nil _)))))))))) (.c .z (.c .z (.c .z (.c .z (.c .z (.c .z (.c .z (.c .z (.n _)))))))))
  · refine T.condF rfl c_696 ?_
    refine T.regionL ?_
    refine mv rfl rfl rfl rfl rfl ?_
    refine sp rfl (OpT.buildSlice (elems := ([(3 : Int)] : List Int).map (cI .u8)) rfl (dl rfl rfl) Try.underlying29 i5 (by decide) rfl (all1 rfl) rfl rfl rfl (lenAll rfl) (by decide) ?_)
    obtain ⟨g_700, h⟩ := ck_some h
    refine sp rfl (OpT.appendAM (i := 7) (xs := y12_2_17) (ys := [(3 : Int)]) (f := (cI .u8)) rfl (dl rfl rfl) Try.underlying29 i5 rfl rfl rfl rfl g_700 (fun w_699 => ?_))
    refine asg rfl rfl rfl rfl rfl ?_
    refine TL'.nil (inBlock_normal (inBlock_normal (thenS_normal ?_)))
    refine T.regionL ?_
    refine mv rfl rfl rfl rfl rfl ?_
    refine sp rfl (OpT.int2 rfl rfl (dl rfl rfl) rfl rfl ?_)
    refine asg rfl rfl rfl rfl rfl ?_
    refine TL'.nil (thenS_normal ?_)
    refine TL.by_turn ?_ (hgo0 x1 x2 x10_0_15 (IntKind.i64.wrap (x13_2_18 + (1 : Int))) x0 y9_0_11 y9_0_12 y9_0_13 y9_0_14 y11_2_16 (y12_2_17 ++ [(3 : Int)]) w0_2 w0_2a w0_2aa b8_2 b9_2 w11_2 w_699 h)
    exact Turn.rp (.cons rfl (.cons rfl (.cons rfl (.cons rfl (.cons rfl (.cons rfl (.cons rfl (.cons rfl (.cons rfl (.nil _)))))))))) (.c .z (.c .z (.c .z (.c .z (.c .z (.c .z (.c .z (.c .z (.n _)))))))))

theorem raddleref11_builder_goes_j1_T {r : api_Move × raddleref11_builder} (K : Nat) (bx0 : Nat) (go0 : Int → Int → Int → Int → raddleref11_builder → (List Int) → (List Int) → (List Int) → (List (List api_Move)) → (List Int) → (List Int) → Option (api_Move × raddleref11_builder)) (hgo0 : raddleref11_builder_goes_l0_H bx0 r go0) (x1 : Int) (x2 : Int) (x10_0_15 : Int) (x13_1_18 : Int) (x14_1_19 : Bool) (x15_1_20 : Bool) (x0 : raddleref11_builder) (y9_0_11 : List Int) (y9_0_12 : List Int) (y9_0_13 : List Int) (y9_0_14 : List (List api_Move)) (y11_1_16 : List Int) (y12_1_17 : List Int) (w0_1 : Value) (w0_1a : Value) (w0_1aa : Value) (b8_1 : Nat) (b9_1 : Nat) (w11_1 : Value) (w12_1 : Value) (h : raddleref11_builder_goes_j1 K go0 x1 x2 x10_0_15 x13_1_18 x14_1_19 x15_1_20 x0 y9_0_11 y9_0_12 y9_0_13 y9_0_14 y11_1_16 y12_1_17 = some r) : T Try.prog 109 (Code.at [1, 1, 1, 1, 1, 0, 1, 0, 0, 1, 0, 0, 1, 1, 1, 0, 1, 1] (codeOf Try.f52)) ⟨[(0, .ptr bx0 0), (1, .int .i64 x1), (2, .int .i64 x2), (8, .ptr b8_1 0), (9, .ptr b9_1 0), (10, .int .u8 x10_0_15), (11, .c (.ex w11_1)), (12, .c (.ex w12_1)), (13, .int .i64 x13_1_18), (14, .bool x14_1_19), (15, .bool x15_1_20)], [.box bx0 98 (([.d (.sl false 1 (x0.g.First.map (cI .i64))), .d (.sl false 9 (x0.g.P.map c_api_Pos)), .d (.ex w0_1)] : List OC) ++ ((ArrN.oc 256 .u8 x0.a.Split.Of) ++ (([.d (.int .i64 x0.a.Split.Many), .d (.ex w0_1a), .d (.ex w0_1aa), .d (.int .i64 x0.e)] : List OC)))), .arrA w0_1 3 1 (x0.number.map (cI .i64)), .arrA w0_1a 42 2 (x0.a.Counts.map (Arr2.dc .i64)), .arrX w0_1aa 59 4 0 (x0.a.States.map c_api_State), .box b8_1 63 [.d (.int .i64 (0 : Int)), .d (.ex (.slice none 0 0))], .box b9_1 59 [.d (.sl false 1 (y9_0_11.map (cI .i64))), .d (.sl false 1 (y9_0_12.map (cI .i64))), .d (.sl false 1 (y9_0_13.map (cI .i64))), .d (.sl false 1 (y9_0_14.map (cL 2 c_api_Move)))], .arrA w11_1 3 1 (y11_1_16.map (cI .i64)), .arrA w12_1 5 1 (y12_1_17.map (cI .u8))]⟩ (raddleref11_builder_goes_qs1111101001001111 bx0 r) := by
  unfold raddleref11_builder_goes_j1 at h
  refine T.skip (thenS_normal ?_)
  refine T.seq ?_
  refine T.regionL ?_
  refine mv rfl rfl rfl rfl rfl ?_
  refine mv rfl rfl rfl rfl rfl ?_
  refine sp rfl (OpT.buildSlice (elems := ([x13_1_18] : List Int).map (cI .i64)) rfl (dl rfl rfl) Try.underlying56 i3 (by decide) rfl (all1 rfl) rfl rfl rfl (lenAll rfl) (by decide) ?_)
  obtain ⟨g_688, h⟩ := ck_some h
  refine sp rfl (OpT.appendAM (i := 6) (xs := y11_1_16) (ys := [x13_1_18]) (f := (cI .i64)) rfl (dl rfl rfl) Try.underlying56 i3 rfl rfl rfl rfl g_688 (fun w_687 => ?_))
  refine asg rfl rfl rfl rfl rfl ?_
  refine TL'.nil (thenS_normal ?_)
  refine T.seq ?_
  refine T.seq ?_
  refine T.regionL ?_
  refine mv rfl rfl rfl rfl rfl ?_
  refine sp rfl (OpT.nilCheck rfl (dl rfl rfl) rfl rfl ?_)
  refine sp rfl (OpT.fieldPtr rfl (dl rfl rfl) Try.underlying98 rfl i56 (by decide) rfl ?_)
  refine sp rfl (OpT.thenTurn (OpT.loadBox (i := 0) rfl (dl rfl rfl) Try.underlying56 rfl rfl rfl rfl rfl) (Turn.viewP 79 1 rfl) ?_)
  refine mv rfl rfl rfl rfl rfl ?_
  obtain ⟨v_689, e_690, h⟩ := bind_some h
  refine sp rfl (OpT.indexSlM (xs := x0.number) (f := (cI .i64)) (v := v_689) rfl (dl rfl rfl) Try.underlying56 i3 rfl rfl e_690 ?_)
  refine sp rfl (OpT.loadRef rfl (dl rfl rfl) Try.underlying3 rfl rfl rfl ?_)
  refine sp rfl (OpT.int2 rfl rfl (dl rfl rfl) rfl rfl ?_)
  refine TL'.nil (thenS_normal ?_)
  rcases bif_some h with ⟨c_691, h⟩ | ⟨c_691, h⟩
  · refine T.condT rfl c_691 ?_
    refine T.exit (thenS_exit (inBlock_exit (thenS_normal ?_)))
    refine T.regionL ?_
    refine mv rfl rfl rfl rfl rfl ?_
    refine sp rfl (OpT.int2 rfl rfl (dl rfl rfl) rfl rfl ?_)
    refine asg rfl rfl rfl rfl rfl ?_
    refine TL'.nil (thenS_normal ?_)
    refine TL.by_turn ?_ (hgo0 x1 x2 x10_0_15 (IntKind.i64.wrap (x13_1_18 + (1 : Int))) x0 y9_0_11 y9_0_12 y9_0_13 y9_0_14 (y11_1_16 ++ [x13_1_18]) y12_1_17 w0_1 w0_1a w0_1aa b8_1 b9_1 w_687 w12_1 h)
    exact Turn.rp (.cons rfl (.cons rfl (.cons rfl (.cons rfl (.cons rfl (.cons rfl (.cons rfl (.cons rfl (.cons rfl (.nil _)))))))))) (.c .z (.c .z (.c .z (.c .z (.c .z (.c .z (.c .z (.c .z (.n _)))))))))
  · refine T.condF rfl c_691 ?_
    refine T.skip (thenS_normal ?_)
    refine T.block ?_
    refine T.seq ?_
    refine T.regionL ?_
    refine mv rfl rfl rfl rfl rfl ?_
    refine mv rfl rfl rfl rfl rfl ?_
    rcases bif_some h with ⟨c_692, h⟩ | ⟨c_692, h⟩
    · refine TL'.step (.on rfl rfl rfl c_692) (OpT.move rfl (dl rfl rfl) rfl ?_)
      refine sp rfl (OpT.pickT rfl (dl rfl rfl) rfl c_692 rfl ?_)
      refine asg rfl rfl rfl rfl rfl ?_
      refine TL'.nil (thenS_normal ?_)
      rcases bif_some h with ⟨c_693, h⟩ | ⟨c_693, h⟩
      · refine T.condT rfl c_693 ?_
        refine T.regionL ?_
        refine mv rfl rfl rfl rfl rfl ?_
        refine sp rfl (OpT.buildSlice (elems := ([(2 : Int)] : List Int).map (cI .u8)) rfl (dl rfl rfl) Try.underlying29 i5 (by decide) rfl (all1 rfl) rfl rfl rfl (lenAll rfl) (by decide) ?_)
        obtain ⟨g_695, h⟩ := ck_some h
        refine sp rfl (OpT.appendAM (i := 7) (xs := y12_1_17) (ys := [(2 : Int)]) (f := (cI .u8)) rfl (dl rfl rfl) Try.underlying29 i5 rfl rfl rfl rfl g_695 (fun w_694 => ?_))
        refine asg rfl rfl rfl rfl rfl ?_
        refine TL'.nil (inBlock_normal (inBlock_normal (thenS_normal ?_)))
        refine T.regionL ?_
        refine mv rfl rfl rfl rfl rfl ?_
        refine sp rfl (OpT.int2 rfl rfl (dl rfl rfl) rfl rfl ?_)
        refine asg rfl rfl rfl rfl rfl ?_
        refine TL'.nil (thenS_normal ?_)
        refine TL.by_turn ?_ (hgo0 x1 x2 x10_0_15 (IntKind.i64.wrap (x13_1_18 + (1 : Int))) x0 y9_0_11 y9_0_12 y9_0_13 y9_0_14 (y11_1_16 ++ [x13_1_18]) (y12_1_17 ++ [(2 : Int)]) w0_1 w0_1a w0_1aa b8_1 b9_1 w_687 w_694 h)
        exact Turn.rp (.cons rfl (.cons rfl (.cons rfl (.cons rfl (.cons rfl (.cons rfl (.cons rfl (.cons rfl (.cons rfl (.nil _)))))))))) (.c .z (.c .z (.c .z (.c .z (.c .z (.c .z (.c .z (.c .z (.n _)))))))))
      · refine T.condF rfl c_693 ?_
        refine T.by_turn ?_ (raddleref11_builder_goes_j2_T K bx0 go0 hgo0 x1 x2 x10_0_15 x13_1_18 x15_1_20 x0 y9_0_11 y9_0_12 y9_0_13 y9_0_14 (y11_1_16 ++ [x13_1_18]) y12_1_17 w0_1 w0_1a w0_1aa b8_1 b9_1 w_687 w12_1 h)
        exact Turn.rp (.cons rfl (.cons rfl (.cons rfl (.cons rfl (.cons rfl (.cons rfl (.cons rfl (.cons rfl (.cons rfl (.cons rfl (.nil _))))))))))) (.c .z (.c .z (.c .z (.c .z (.c .z (.c .z (.c .z (.c .z (.n _)))))))))
    · refine TL'.passU (.off _ _ _ _ rfl rfl rfl c_692) (dl rfl rfl) ?_
      refine sp rfl (OpT.pickF rfl (dl rfl rfl) rfl c_692 rfl ?_)
      refine asg rfl rfl rfl rfl rfl ?_
      refine TL'.nil (thenS_normal ?_)
      refine T.condF rfl rfl ?_
      refine T.by_turn ?_ (raddleref11_builder_goes_j2_T K bx0 go0 hgo0 x1 x2 x10_0_15 x13_1_18 x15_1_20 x0 y9_0_11 y9_0_12 y9_0_13 y9_0_14 (y11_1_16 ++ [x13_1_18]) y12_1_17 w0_1 w0_1a w0_1aa b8_1 b9_1 w_687 w12_1 h)
      exact Turn.rp (.cons rfl (.cons rfl (.cons rfl (.cons rfl (.cons rfl (.cons rfl (.cons rfl (.cons rfl (.cons rfl (.cons rfl (.nil _))))))))))) (.c .z (.c .z (.c .z (.c .z (.c .z (.c .z (.c .z (.c .z (.n _)))))))))

theorem raddleref11_builder_goes_l0_T {r : api_Move × raddleref11_builder} (K : Nat) (bx0 : Nat) : ∀ (k : Nat), ∀ (x1 : Int) (x2 : Int) (x10_0_15 : Int) (x13_0_18 : Int) (x0 : raddleref11_builder) (y9_0_11 : List Int) (y9_0_12 : List Int) (y9_0_13 : List Int) (y9_0_14 : List (List api_Move)) (y11_0_16 : List Int) (y12_0_17 : List Int) (w0_0 : Value) (w0_0a : Value) (w0_0aa : Value) (b8_0 : Nat) (b9_0 : Nat) (w11_0 : Value) (w12_0 : Value), raddleref11_builder_goes_l0 K k x1 x2 x10_0_15 x13_0_18 x0 y9_0_11 y9_0_12 y9_0_13 y9_0_14 y11_0_16 y12_0_17 = some r → TL Try.prog 109 (Code.at [1, 1, 1, 1, 1, 0, 1, 0, 0] (codeOf Try.f52)) ⟨[(0, .ptr bx0 0), (1, .int .i64 x1), (2, .int .i64 x2), (8, .ptr b8_0 0), (9, .ptr b9_0 0), (10, .int .u8 x10_0_15), (11, .c (.ex w11_0)), (12, .c (.ex w12_0)), (13, .int .i64 x13_0_18)], [.box bx0 98 (([.d (.sl false 1 (x0.g.First.map (cI .i64))), .d (.sl false 9 (x0.g.P.map c_api_Pos)), .d (.ex w0_0)] : List OC) ++ ((ArrN.oc 256 .u8 x0.a.Split.Of) ++ (([.d (.int .i64 x0.a.Split.Many), .d (.ex w0_0a), .d (.ex w0_0aa), .d (.int .i64 x0.e)] : List OC)))), .arrA w0_0 3 1 (x0.number.map (cI .i64)), .arrA w0_0a 42 2 (x0.a.Counts.map (Arr2.dc .i64)), .arrX w0_0aa 59 4 0 (x0.a.States.map c_api_State), .box b8_0 63 [.d (.int .i64 (0 : Int)), .d (.ex (.slice none 0 0))], .box b9_0 59 [.d (.sl false 1 (y9_0_11.map (cI .i64))), .d (.sl false 1 (y9_0_12.map (cI .i64))), .d (.sl false 1 (y9_0_13.map (cI .i64))), .d (.sl false 1 (y9_0_14.map (cL 2 c_api_Move)))], .arrA w11_0 3 1 (y11_0_16.map (cI .i64)), .arrA w12_0 5 1 (y12_0_17.map (cI .u8))]⟩ (raddleref11_builder_goes_qb0x111111 bx0 r) := by
  intro k
  induction k with
  | zero =>
    intro x1 x2 x10_0_15 x13_0_18 x0 y9_0_11 y9_0_12 y9_0_13 y9_0_14 y11_0_16 y12_0_17 w0_0 w0_0a w0_0aa b8_0 b9_0 w11_0 w12_0 h
    cases (show (none : Option (api_Move × raddleref11_builder)) = some r from h)
  | succ k ih =>
    intro x1 x2 x10_0_15 x13_0_18 x0 y9_0_11 y9_0_12 y9_0_13 y9_0_14 y11_0_16 y12_0_17 w0_0 w0_0a w0_0aa b8_0 b9_0 w11_0 w12_0 h
    rw [raddleref11_builder_goes_l0] at h
    refine TL.round ?_
    refine T.seq ?_
    refine T.seq ?_
    refine T.regionL ?_
    refine mv rfl rfl rfl rfl rfl ?_
    refine mv rfl rfl rfl rfl rfl ?_
    refine sp rfl (OpT.nilCheck rfl (dl rfl rfl) rfl rfl ?_)
    refine sp rfl (OpT.fieldPtr rfl (dl rfl rfl) Try.underlying98 rfl i71 (by decide) rfl ?_)
    refine sp rfl (OpT.fieldPtr rfl (dl rfl rfl) Try.underlying71 rfl i69 (by decide) rfl ?_)
    refine sp rfl (OpT.loadBox (i := 0) rfl (dl rfl rfl) Try.underlying69 rfl rfl rfl rfl ?_)
    refine sp rfl (OpT.lenSlM (xs := x0.g.P) (f := c_api_Pos) rfl (dl rfl rfl) Try.underlying69 rfl ?_)
    refine sp rfl (OpT.int2 rfl rfl (dl rfl rfl) rfl rfl ?_)
    refine TL'.nil (thenS_normal ?_)
    rcases bif_some h with ⟨c_673, h⟩ | ⟨c_673, h⟩
    · refine T.condT rfl c_673 ?_
      refine T.skip (thenS_normal ?_)
      refine T.seq ?_
      refine T.block ?_
      refine T.seq ?_
      refine T.seq ?_
      refine T.regionL ?_
      refine mv rfl rfl rfl rfl rfl ?_
      refine sp rfl (OpT.nilCheck rfl (dl rfl rfl) rfl rfl ?_)
      refine sp rfl (OpT.fieldPtr rfl (dl rfl rfl) Try.underlying98 rfl i71 (by decide) rfl ?_)
      refine sp rfl (OpT.fieldPtr rfl (dl rfl rfl) Try.underlying71 rfl i69 (by decide) rfl ?_)
      refine sp rfl (OpT.loadBox (i := 0) rfl (dl rfl rfl) Try.underlying69 rfl rfl rfl rfl ?_)
      refine mv rfl rfl rfl rfl rfl ?_
      obtain ⟨v_674, e_675, h⟩ := bind_some h
      refine sp rfl (OpT.indexSlM (xs := x0.g.P) (f := c_api_Pos) (v := v_674) rfl (dl rfl rfl) Try.underlying69 i104 rfl rfl e_675 ?_)
      refine sp rfl (OpT.fieldRef rfl (dl rfl rfl) Try.underlying104 rfl i102 (by decide) rfl ?_)
      refine sp rfl (OpT.loadRefAgg rfl (dl rfl rfl) Try.underlying102 rfl i102 rfl (Nat.le_of_ble_eq_true rfl) ?_)
      refine mv rfl rfl rfl rfl rfl ?_
      obtain ⟨v_676, e_677, h⟩ := bind_some h
      refine sp rfl (OpT.callPA rfl (dl rfl rfl) Try.func72 rfl rfl (Args.cons rfl (Args.cons rfl Args.nil)) (CallR.nil (raddleref01_Has_T K e_677)) ?_)
      refine sp rfl (OpT.not rfl (dl rfl rfl) rfl ?_)
      refine TL'.nil (thenS_normal ?_)
      rcases bif_some h with ⟨c_678, h⟩ | ⟨c_678, h⟩
      · refine T.condT rfl c_678 ?_
        refine T.exit (thenS_exit (inBlock_exit (thenS_normal ?_)))
        refine T.regionL ?_
        refine mv rfl rfl rfl rfl rfl ?_
        refine sp rfl (OpT.int2 rfl rfl (dl rfl rfl) rfl rfl ?_)
        refine asg rfl rfl rfl rfl rfl ?_
        refine TL'.nil (thenS_normal ?_)
        refine TL.by_turn ?_ (ih x1 x2 x10_0_15 (IntKind.i64.wrap (x13_0_18 + (1 : Int))) x0 y9_0_11 y9_0_12 y9_0_13 y9_0_14 y11_0_16 y12_0_17 w0_0 w0_0a w0_0aa b8_0 b9_0 w11_0 w12_0 h)
        exact Turn.rp (.cons rfl (.cons rfl (.cons rfl (.cons rfl (.cons rfl (.cons rfl (.cons rfl (.cons rfl (.cons rfl (.nil _)))))))))) (.c .z (.c .z (.c .z (.c .z (.c .z (.c .z (.c .z (.c .z (.n _)))))))))
      · refine T.condF rfl c_678 ?_
        refine T.skip (thenS_normal ?_)
        refine T.seq ?_
        refine T.regionL ?_
        refine mv rfl rfl rfl rfl rfl ?_
        refine mv rfl rfl rfl rfl rfl ?_
        refine sp rfl (OpT.loadBoxAgg (i := 5) (l := [.sl false 1 (y9_0_11.map (cI .i64)), .sl false 1 (y9_0_12.map (cI .i64)), .sl false 1 (y9_0_13.map (cI .i64)), .sl false 1 (y9_0_14.map (cL 2 c_api_Move))]) rfl (dl rfl rfl) Try.underlying59 rfl i59 rfl rfl rfl rfl ?_)
        refine mv rfl rfl rfl rfl rfl ?_
        refine mv rfl rfl rfl rfl rfl ?_
        obtain ⟨v_679, e_680, h⟩ := bind_some h
        refine sp rfl (OpT.callG (is := [0, 1, 2, 3]) (ph := []) rfl (dl rfl rfl) Try.func73 rfl rfl (Args.cons rfl (Args.cons rfl (Args.cons rfl (Args.cons rfl (Args.cons rfl Args.nil))))) (raddleref11_builder_enters_T K (bx0 := bx0) (wx0c1 := w0_0) (wx0c2c1 := w0_0a) (wx0c2c2 := w0_0aa) e_680) (.cons rfl rfl (.cons rfl rfl (.cons rfl rfl (.cons rfl rfl (.nil))))) (fun _ => rfl) (fun γ_681 => ?_))
        refine nm (.c (.c (.c (.c (.c (.c (.c (.c (.n))))))))) ?_
        refine asg rfl rfl rfl rfl rfl ?_
        refine TL'.nil (thenS_normal ?_)
        refine T.seq ?_
        refine T.regionL ?_
        refine mv rfl rfl rfl rfl rfl ?_
        refine sp rfl (OpT.loadBoxAgg (i := 5) (l := [.sl false 1 (y9_0_11.map (cI .i64)), .sl false 1 (y9_0_12.map (cI .i64)), .sl false 1 (y9_0_13.map (cI .i64)), .sl false 1 (y9_0_14.map (cL 2 c_api_Move))]) rfl (dl rfl rfl) Try.underlying59 rfl i59 rfl rfl rfl rfl ?_)
        refine mv rfl rfl rfl rfl rfl ?_
        refine mv rfl rfl rfl rfl rfl ?_
        obtain ⟨v_682, e_683, h⟩ := bind_some h
        refine sp rfl (OpT.callG (is := [0, 1, 2, 3]) (ph := []) rfl (dl rfl rfl) Try.func74 rfl rfl (Args.cons rfl (Args.cons rfl (Args.cons rfl (Args.cons rfl Args.nil)))) (raddleref11_builder_stays_T K (bx0 := bx0) (wx0c1 := (γ_681 0)) (wx0c2c1 := (γ_681 1)) (wx0c2c2 := (γ_681 2)) e_683) (.cons rfl rfl (.cons rfl rfl (.cons rfl rfl (.cons rfl rfl (.nil))))) (fun _ => rfl) (fun γ_684 => ?_))
        refine nm (.c (.c (.c (.c (.c (.c (.c (.c (.n))))))))) ?_
        refine asg rfl rfl rfl rfl rfl ?_
        refine TL'.nil (thenS_normal ?_)
        refine T.seq ?_
        refine T.seq ?_
        refine T.regionL ?_
        refine mv rfl rfl rfl rfl rfl ?_
        refine sp rfl (OpT.not rfl (dl rfl rfl) rfl ?_)
        refine mv rfl rfl rfl rfl rfl ?_
        rcases bif_some h with ⟨c_685, h⟩ | ⟨c_685, h⟩
        · refine TL'.step (.on rfl rfl rfl c_685) (OpT.move rfl (dl rfl rfl) rfl ?_)
          refine TL'.step (.on rfl rfl rfl c_685) (OpT.not rfl (dl rfl rfl) rfl ?_)
          refine sp rfl (OpT.pickT rfl (dl rfl rfl) rfl c_685 rfl ?_)
          refine TL'.nil (thenS_normal ?_)
          rcases bif_some h with ⟨c_686, h⟩ | ⟨c_686, h⟩
          · refine T.condT rfl c_686 ?_
            refine T.exit (thenS_exit (inBlock_exit (thenS_normal ?_)))
            refine T.regionL ?_
            refine mv rfl rfl rfl rfl rfl ?_
            refine sp rfl (OpT.int2 rfl rfl (dl rfl rfl) rfl rfl ?_)
            refine asg rfl rfl rfl rfl rfl ?_
            refine TL'.nil (thenS_normal ?_)
            refine TL.by_turn ?_ (ih x1 x2 x10_0_15 (IntKind.i64.wrap (x13_0_18 + (1 : Int))) x0 y9_0_11 y9_0_12 y9_0_13 y9_0_14 y11_0_16 y12_0_17 (γ_684 0) (γ_684 1) (γ_684 2) b8_0 b9_0 w11_0 w12_0 h)
            exact Turn.rp (.cons rfl (.cons rfl (.cons rfl (.cons rfl (.cons rfl (.cons rfl (.cons rfl (.cons rfl (.cons rfl (.nil _)))))))))) (.c .z (.c .z (.c .z (.c .z (.c .z (.c .z (.c .z (.c .z (.n _)))))))))
          · refine T.condF rfl c_686 ?_
            refine T.by_turn ?_ (raddleref11_builder_goes_j1_T K bx0 (raddleref11_builder_goes_l0 K k) ih x1 x2 x10_0_15 x13_0_18 v_679 v_682 x0 y9_0_11 y9_0_12 y9_0_13 y9_0_14 y11_0_16 y12_0_17 (γ_684 0) (γ_684 1) (γ_684 2) b8_0 b9_0 w11_0 w12_0 h)
            exact Turn.rp (.cons rfl (.cons rfl (.cons rfl (.cons rfl (.cons rfl (.cons rfl (.cons rfl (.cons rfl (.cons rfl (.cons rfl (.cons rfl (.nil _)))))))))))) (.c .z (.c .z (.c .z (.c .z (.c .z (.c .z (.c .z (.c .z (.n _)))))))))
        · refine TL'.passU (.off _ _ _ _ rfl rfl rfl c_685) (dl rfl rfl) ?_
          refine TL'.passU (.off _ _ _ _ rfl rfl rfl c_685) (dl rfl rfl) ?_
          refine sp rfl (OpT.pickF rfl (dl rfl rfl) rfl c_685 rfl ?_)
          refine TL'.nil (thenS_normal ?_)
          refine T.condF rfl rfl ?_
          refine T.by_turn ?_ (raddleref11_builder_goes_j1_T K bx0 (raddleref11_builder_goes_l0 K k) ih x1 x2 x10_0_15 x13_0_18 v_679 v_682 x0 y9_0_11 y9_0_12 y9_0_13 y9_0_14 y11_0_16 y12_0_17 (γ_684 0) (γ_684 1) (γ_684 2) b8_0 b9_0 w11_0 w12_0 h)
          exact Turn.rp (.cons rfl (.cons rfl (.cons rfl (.cons rfl (.cons rfl (.cons rfl (.cons rfl (.cons rfl (.cons rfl (.cons rfl (.cons rfl (.nil _)))))))))))) (.c .z (.c .z (.c .z (.c .z (.c .z (.c .z (.c .z (.c .z (.n _)))))))))
    · refine T.condF rfl c_673 ?_
      refine T.exit (thenS_exit (thenS_exit (inBlock_exit (thenS_normal ?_))))
      refine T.seq ?_
      refine T.seq ?_
      refine T.regionL ?_
      refine mv rfl rfl rfl rfl rfl ?_
      refine sp rfl (OpT.lenAM (i := 6) (xs := y11_0_16) (f := (cI .i64)) rfl (dl rfl rfl) Try.underlying56 rfl rfl ?_)
      refine sp rfl (OpT.int2 rfl rfl (dl rfl rfl) rfl rfl ?_)
      refine TL'.nil (thenS_normal ?_)
      rcases bif_some h with ⟨c_701, h⟩ | ⟨c_701, h⟩
      · refine T.condT rfl c_701 ?_
        refine T.seq ?_
        refine T.regionL ?_
        refine sp rfl (OpT.thenTurn (OpT.build (l := [.int .i64 (-1 : Int), .ex (.slice none 0 0)]) rfl (dl rfl rfl) (built_struct (pl := [(0, 1), (1, 1)]) Try.underlying63 i63 rfl) (all1 rfl) rfl rfl rfl) (Turn.weakSlotP 103 (l := [.int .i64 (-1 : Int), .ex (.slice none 0 0)]) (l' := [.int .i64 (-1 : Int), .sl false 1 (([] : List Int).map (cI .u8))]) (.cons (.same _) (.cons (.nil _ _) (.refl _)))) ?_)
        refine sp rfl (OpT.storeAggTo (i := 4) (cells' := [.d (.int .i64 (-1 : Int)), .d (.sl false 1 (([] : List Int).map (cI .u8)))]) rfl rfl i63 rfl rfl rfl rfl (Nat.le_of_ble_eq_true rfl) rfl ?_)
        refine TL'.nil (thenS_normal ?_)
        refine T.ret (thenS_ret ?_)
        exact Fin.doneK (.cons _ _ _ _ (.cellAgg 8 63 _ 0 4 63 _ [.int .i64 (-1 : Int), .sl false 1 (([] : List Int).map (cI .u8))] _ _ 2 _ rfl rfl rfl rfl Try.underlying63 rfl i63) .nil) (.cons 0 rfl (.cons 0 rfl (.cons 0 rfl (.cons 0 rfl (.nil _))))) (by cases h; exact ⟨gl [w0_0, w0_0a, w0_0aa], rfl, rfl⟩)
      · refine T.condF rfl c_701 ?_
        refine T.skip (thenS_normal ?_)
        refine T.seq ?_
        refine T.regionL ?_
        refine mv rfl rfl rfl rfl rfl ?_
        refine mv rfl rfl rfl rfl rfl ?_
        obtain ⟨v_702, e_703, h⟩ := bind_some h
        refine sp rfl (OpT.callG (is := [0, 1, 2, 3]) (ph := []) rfl (dl rfl rfl) Try.func75 rfl rfl (Args.cons rfl (Args.view (i := 6) rfl rfl Args.nil)) (raddleref11_builder_find_T K (bx0 := bx0) (wx0c1 := w0_0) (wx0c2c1 := w0_0a) (wx0c2c2 := w0_0aa) (flx1 := false) e_703) (.cons rfl rfl (.cons rfl rfl (.cons rfl rfl (.cons rfl rfl (.nil))))) (fun _ => rfl) (fun γ_704 => ?_))
        refine nm (.c (.c (.c (.c (.c (.c (.c (.c (.n))))))))) ?_
        refine mv rfl rfl rfl rfl rfl ?_
        refine sp rfl (OpT.thenTurn (OpT.build (l := [.int .i64 v_702.1, .ex w12_0]) rfl (dl rfl rfl) (built_struct (pl := [(0, 1), (1, 1)]) Try.underlying63 i63 rfl) (all1 rfl) rfl rfl rfl) (Turn.weakSlotP 108 (l := [.int .i64 v_702.1, .ex w12_0]) (l' := [.int .i64 v_702.1, .sl false 1 (y12_0_17.map (cI .u8))]) (.cons (.same _) (.cons (.view 7 rfl) (.refl _)))) ?_)
        refine sp rfl (OpT.storeAggTo (i := 4) (cells' := [.d (.int .i64 v_702.1), .d (.sl false 1 (y12_0_17.map (cI .u8)))]) rfl rfl i63 rfl rfl rfl rfl (Nat.le_of_ble_eq_true rfl) rfl ?_)
        refine TL'.nil (thenS_normal ?_)
        refine T.ret ?_
        exact Fin.doneK (.cons _ _ _ _ (.cellAgg 8 63 _ 0 4 63 _ [.int .i64 v_702.1, .sl false 1 (y12_0_17.map (cI .u8))] _ _ 2 _ rfl rfl rfl rfl Try.underlying63 rfl i63) .nil) (.cons 0 rfl (.cons 0 rfl (.cons 0 rfl (.cons 0 rfl (.nil _))))) (by cases h; exact ⟨gl [γ_704 0, γ_704 1, γ_704 2], rfl, rfl⟩)

theorem raddleref11_builder_goes_T (K : Nat) {x0 : raddleref11_builder} {x1 : Int} {x2 : Int} {x3 : Int} {bx0 : Nat} {wx0c1 : Value} {wx0c2c1 : Value} {wx0c2c2 : Value} {r : api_Move × raddleref11_builder} (h : raddleref11_builder_goes K x0 x1 x2 x3 = some r) : CallG Try.prog 52 [.ptr bx0 0, .int .i64 x1, .int .i64 x2, .int .i64 x3] [.box bx0 98 (([.d (.sl false 1 (x0.g.First.map (cI .i64))), .d (.sl false 9 (x0.g.P.map c_api_Pos)), .d (.ex wx0c1)] : List OC) ++ ((ArrN.oc 256 .u8 x0.a.Split.Of) ++ (([.d (.int .i64 x0.a.Split.Many), .d (.ex wx0c2c1), .d (.ex wx0c2c2), .d (.int .i64 x0.e)] : List OC)))), .arrA wx0c1 3 1 (x0.number.map (cI .i64)), .arrA wx0c2c1 42 2 (x0.a.Counts.map (Arr2.dc .i64)), .arrX wx0c2c2 59 4 0 (x0.a.States.map c_api_State)] (fun γ => (.agg [.int .i64 r.1.To, .sl false 1 (r.1.Ops.map (cI .u8))])) (fun γ => [.box bx0 98 (([.d (.sl false 1 (r.2.g.First.map (cI .i64))), .d (.sl false 9 (r.2.g.P.map c_api_Pos)), .d (.ex (γ 0))] : List OC) ++ ((ArrN.oc 256 .u8 r.2.a.Split.Of) ++ (([.d (.int .i64 r.2.a.Split.Many), .d (.ex (γ 1)), .d (.ex (γ 2)), .d (.int .i64 r.2.e)] : List OC)))), .arrA (γ 0) 3 1 (r.2.number.map (cI .i64)), .arrA (γ 1) 42 2 (r.2.a.Counts.map (Arr2.dc .i64)), .arrX (γ 2) 59 4 0 (r.2.a.States.map c_api_State)]) := by
  refine CallT.intro Try.func52 rfl (Nat.le_of_ble_eq_true rfl) ?_
  show T Try.prog 109 (Code.at [] (codeOf Try.f52)) ⟨paramSlots 0 [.ptr bx0 0, .int .i64 x1, .int .i64 x2, .int .i64 x3], [.box bx0 98 (([.d (.sl false 1 (x0.g.First.map (cI .i64))), .d (.sl false 9 (x0.g.P.map c_api_Pos)), .d (.ex wx0c1)] : List OC) ++ ((ArrN.oc 256 .u8 x0.a.Split.Of) ++ (([.d (.int .i64 x0.a.Split.Many), .d (.ex wx0c2c1), .d (.ex wx0c2c2), .d (.int .i64 x0.e)] : List OC)))), .arrA wx0c1 3 1 (x0.number.map (cI .i64)), .arrA wx0c2c1 42 2 (x0.a.Counts.map (Arr2.dc .i64)), .arrX wx0c2c2 59 4 0 (x0.a.States.map c_api_State)]⟩ (raddleref11_builder_goes_q bx0 r)
  unfold raddleref11_builder_goes at h
  refine T.seq ?_
  refine T.regionL ?_
  refine sp rfl (OpT.alloc' rfl (dl rfl rfl) i63 rfl (fun b_665 => ?_))
  refine TL'.nil (thenS_normal ?_)
  refine T.seq ?_
  refine T.regionL ?_
  refine mv rfl rfl rfl rfl rfl ?_
  refine sp rfl (OpT.nilCheck rfl (dl rfl rfl) rfl rfl ?_)
  refine sp rfl (OpT.fieldPtr rfl (dl rfl rfl) Try.underlying98 rfl i28 (by decide) rfl ?_)
  refine sp rfl (OpT.fieldPtr rfl (dl rfl rfl) Try.underlying28 rfl i26 (by decide) rfl ?_)
  refine sp rfl (OpT.loadBox (i := 1) rfl (dl rfl rfl) Try.underlying26 rfl rfl rfl rfl ?_)
  refine mv rfl rfl rfl rfl rfl ?_
  obtain ⟨v_666, e_667, h⟩ := bind_some h
  refine sp rfl (OpT.indexXM (n := 4) (xs := x0.a.States) (f := c_api_State) (old := v_666) rfl (dl rfl rfl) Try.underlying26 i59 rfl rfl rfl e_667 ?_)
  refine sp rfl (OpT.loadXAggM (i := 4) (xs := x0.a.States) (f := c_api_State) (old := v_666) (l := [.sl false 1 (v_666.L.map (cI .i64)), .sl false 1 (v_666.R.map (cI .i64)), .sl false 1 (v_666.Rule.map (cI .i64)), .sl false 1 (v_666.Next.map (cL 2 c_api_Move))]) rfl (dl rfl rfl) Try.underlying59 rfl i59 rfl rfl (geti_some e_667).2 rfl rfl ?_)
  refine sp rfl (OpT.alloc' rfl (dl rfl rfl) i59 rfl (fun b_668 => ?_))
  refine sp rfl (OpT.storeAggTo (i := 0) (cells' := [.d (.sl false 1 (v_666.L.map (cI .i64))), .d (.sl false 1 (v_666.R.map (cI .i64))), .d (.sl false 1 (v_666.Rule.map (cI .i64))), .d (.sl false 1 (v_666.Next.map (cL 2 c_api_Move)))]) rfl rfl i59 rfl rfl rfl rfl (Nat.le_of_ble_eq_true rfl) rfl ?_)
  refine TL'.nil (thenS_normal ?_)
  refine T.seq ?_
  refine T.regionL ?_
  refine mv rfl rfl rfl rfl rfl ?_
  refine sp rfl (OpT.nilCheck rfl (dl rfl rfl) rfl rfl ?_)
  refine sp rfl (OpT.fieldPtr rfl (dl rfl rfl) Try.underlying98 rfl i28 (by decide) rfl ?_)
  refine sp rfl (OpT.fieldPtr rfl (dl rfl rfl) Try.underlying28 rfl i24 (by decide) rfl ?_)
  refine sp rfl (OpT.loadBoxAgg (i := 2) (l := ((ArrN.dc 256 .u8 x0.a.Split.Of) ++ (([.int .i64 x0.a.Split.Many] : List DC)))) rfl (dl rfl rfl) Try.underlying24 rfl i24 rfl rfl rfl rfl ?_)
  obtain ⟨v_669, e_670, h⟩ := bind_some h
  refine sp rfl (OpT.callPA rfl (dl rfl rfl) Try.func71 rfl rfl (Args.cons rfl Args.nil) (CallR.nil (raddleref02_First_T K e_670)) ?_)
  refine mv rfl rfl rfl rfl rfl ?_
  obtain ⟨v_671, e_672, h⟩ := bind_some h
  refine sp rfl (OpT.indexSlM (xs := v_669) (f := (cI .u8)) (v := v_671) rfl (dl rfl rfl) Try.underlying29 i5 rfl rfl e_672 ?_)
  refine sp rfl (OpT.loadRef rfl (dl rfl rfl) Try.underlying5 rfl rfl rfl ?_)
  refine asg rfl rfl rfl rfl rfl ?_
  refine TL'.nil (thenS_normal ?_)
  refine T.seq ?_
  refine T.regionL ?_
  refine asg rfl rfl rfl rfl rfl ?_
  refine TL'.nil (thenS_normal ?_)
  refine T.seq ?_
  refine T.regionL ?_
  refine asg rfl rfl rfl rfl rfl ?_
  refine TL'.nil (thenS_normal ?_)
  refine T.seq ?_
  refine T.seq ?_
  refine T.regionL ?_
  refine asg rfl rfl rfl rfl rfl ?_
  refine TL'.nil (thenS_normal ?_)
  refine T.block ?_
  refine T.loop ?_
  refine TL.by_turn (Turn.nilA 3 1) ?_
  refine TL.by_turn (Turn.nilA 5 1) ?_
  refine TL.by_turn ?_ (raddleref11_builder_goes_l0_T K bx0 K x1 x2 v_671 (0 : Int) x0 v_666.L v_666.R v_666.Rule v_666.Next [] [] wx0c1 wx0c2c1 wx0c2c2 b_665 b_668 (nilv 3) (nilv 4) h)
  exact Turn.rp (.cons rfl (.cons rfl (.cons rfl (.cons rfl (.cons rfl (.cons rfl (.cons rfl (.cons rfl (.cons rfl (.nil _)))))))))) (.c (.s (.s (.s (.s .z)))) (.c (.s (.s (.s (.s .z)))) (.c (.s (.s (.s (.s .z)))) (.c (.s (.s (.s (.s .z)))) (.c (.s (.s (.s .z))) (.c (.s (.s .z)) (.c (.s .z) (.c .z (.n _)))))))))

end Go.Rv

/- Each function computes what its plain text says: printed by a program of ours. -/
import Derived.Test.YtjgldamcldbbfaaDoorRgW0
namespace Go.Rv
open Go.Proofs
set_option maxRecDepth 100000
set_option maxHeartbeats 4000000
set_option linter.unusedVariables false

abbrev bset_Range_q (r : Arr4) : Exit → St → Prop := retS Tryd.prog Tryd.f18 (fun y t => y = (.agg (Arr4.dc .u64 r)) ∧ t = [])

abbrev bset_Range_qs111 (r : Arr4) : Exit → St → Prop := thenS (fun s' => T Tryd.prog 25 (Code.at [1, 1, 1] (codeOf Tryd.f18)) s' ((bset_Range_q r))) ((bset_Range_q r))

abbrev bset_Range_qb0x111 (r : Arr4) : Exit → St → Prop := inBlockS 0 ((bset_Range_qs111 r))

theorem bset_Range_l0_T {r : Arr4} (K : Nat) : ∀ (k : Nat), ∀ (x1 : Int) (x6_0_3 : Int) (y4_0_1 : Arr4) (y5_0_2 : Arr4) (b4_0 : Nat) (b5_0 : Nat), bset_Range_l0 K k x1 x6_0_3 y4_0_1 y5_0_2 = some r → TL Tryd.prog 25 (Code.at [1, 1, 0, 1, 0, 0] (codeOf Tryd.f18)) ⟨[(1, .int .u8 x1), (4, .ptr b4_0 0), (5, .ptr b5_0 0), (6, .int .i64 x6_0_3)], [.box b4_0 24 (Arr4.oc .u64 y4_0_1), .box b5_0 24 (Arr4.oc .u64 y5_0_2)]⟩ (bset_Range_qb0x111 r) := by
  intro k
  induction k with
  | zero =>
    intro x1 x6_0_3 y4_0_1 y5_0_2 b4_0 b5_0 h
    cases (show (none : Option Arr4) = some r from h)
  | succ k ih =>
    intro x1 x6_0_3 y4_0_1 y5_0_2 b4_0 b5_0 h
    rw [bset_Range_l0] at h
    refine TL.round ?_
    refine T.seq ?_
    refine T.seq ?_
    refine T.regionL ?_
    refine mv rfl rfl rfl rfl rfl ?_
    refine mv rfl rfl rfl rfl rfl ?_
    refine sp rfl (OpT.convInt rfl (dl rfl rfl) Tryd.underlying5 Tryd.underlying3 rfl ?_)
    refine sp rfl (OpT.int2 rfl rfl (dl rfl rfl) rfl rfl ?_)
    refine TL'.nil (thenS_normal ?_)
    rcases bif_some h with ⟨c_43, h⟩ | ⟨c_43, h⟩
    · refine T.condT rfl c_43 ?_
      refine T.skip (thenS_normal ?_)
      refine T.seq ?_
      refine T.block ?_
      refine DG.start ?_
      refine DG.mv rfl rfl rfl rfl rfl rfl ?_
      refine DG.step (c := ⟨some 16, .int .i64 (IntKind.i64.wrap (Int.tdiv x6_0_3 (64 : Int))), [(15, .int .i64 x6_0_3)], [], []⟩) (fun t hm => One.step rfl (.free rfl) (OpT.quo rfl (dl rfl rfl) hm.s0 rfl (by decide) rfl)) (Ct.met_of rfl rfl) ?_
      obtain ⟨g_47, h⟩ := ck_some h
      refine DG.step (c := ⟨some 17, .ptr b5_0 (0 + (Int.toNat (IntKind.i64.wrap (Int.tdiv x6_0_3 (64 : Int)))) * 1), [(5, .ptr b5_0 0), (16, .int .i64 (IntKind.i64.wrap (Int.tdiv x6_0_3 (64 : Int))))], [], []⟩) (fun t hm => One.step rfl (.free rfl) (OpT.indexPtr rfl (dl rfl rfl) Tryd.underlying24 i22 hm.s0 hm.s1 g_47.1 g_47.2 rfl)) (Ct.met_of rfl rfl) ?_
      refine DG.step (c := ⟨some 18, .int .u64 (Arr4.get y5_0_2 (IntKind.i64.wrap (Int.tdiv x6_0_3 (64 : Int)))), [(17, .ptr b5_0 (0 + (Int.toNat (IntKind.i64.wrap (Int.tdiv x6_0_3 (64 : Int)))) * 1))], [(1, .box b5_0 24 (Arr4.oc .u64 y5_0_2))], []⟩) (fun t hm => One.step rfl (.free rfl) (OpT.loadBox (i := 1) rfl (dl rfl rfl) Tryd.underlying22 rfl hm.s0 hm.o0 (Arr4.oc_get (k := .u64) (a := y5_0_2) (pre := []) (post := []) g_47.1 g_47.2) rfl)) (Ct.met_of rfl rfl) ?_
      refine DG.mv rfl rfl rfl rfl rfl rfl ?_
      refine DG.step (c := ⟨some 20, .int .i64 (Int.tmod x6_0_3 (64 : Int)), [(19, .int .i64 x6_0_3)], [], []⟩) (fun t hm => One.step rfl (.free rfl) (OpT.rem rfl (dl rfl rfl) hm.s0 rfl (by decide) rfl)) (Ct.met_of rfl rfl) ?_
      obtain ⟨g_48, h⟩ := ck_some h
      refine DG.step (c := ⟨some 21, .int .u64 (IntKind.u64.wrap ((1 : Int) * 2 ^ min (Int.toNat (Int.tmod x6_0_3 (64 : Int))) IntKind.u64.bits)), [(20, .int .i64 (Int.tmod x6_0_3 (64 : Int)))], [], []⟩) (fun t hm => One.step rfl (.free rfl) (OpT.shl rfl (dl rfl rfl) rfl hm.s0 g_48 rfl)) (Ct.met_of rfl rfl) ?_
      refine DG.step (c := ⟨some 22, .int .u64 (bits .or .u64 (Arr4.get y5_0_2 (IntKind.i64.wrap (Int.tdiv x6_0_3 (64 : Int)))) (IntKind.u64.wrap ((1 : Int) * 2 ^ min (Int.toNat (Int.tmod x6_0_3 (64 : Int))) IntKind.u64.bits))), [(18, .int .u64 (Arr4.get y5_0_2 (IntKind.i64.wrap (Int.tdiv x6_0_3 (64 : Int))))), (21, .int .u64 (IntKind.u64.wrap ((1 : Int) * 2 ^ min (Int.toNat (Int.tmod x6_0_3 (64 : Int))) IntKind.u64.bits)))], [], []⟩) (fun t hm => One.step rfl (.free rfl) (OpT.int2 rfl rfl (dl rfl rfl) hm.s0 hm.s1 rfl)) (Ct.met_of rfl rfl) ?_
      refine DG.step (c := ⟨some 23, .ptr b5_0 (0 + (Int.toNat (IntKind.i64.wrap (Int.tdiv x6_0_3 (64 : Int)))) * 1), [(5, .ptr b5_0 0), (16, .int .i64 (IntKind.i64.wrap (Int.tdiv x6_0_3 (64 : Int))))], [], []⟩) (fun t hm => One.step rfl (.free rfl) (OpT.indexPtr rfl (dl rfl rfl) Tryd.underlying24 i22 hm.s0 hm.s1 g_47.1 g_47.2 rfl)) (Ct.met_of rfl rfl) ?_
      refine DG.step (c := ⟨none, .any, [(23, .ptr b5_0 (0 + (Int.toNat (IntKind.i64.wrap (Int.tdiv x6_0_3 (64 : Int)))) * 1)), (22, .int .u64 (bits .or .u64 (Arr4.get y5_0_2 (IntKind.i64.wrap (Int.tdiv x6_0_3 (64 : Int)))) (IntKind.u64.wrap ((1 : Int) * 2 ^ min (Int.toNat (Int.tmod x6_0_3 (64 : Int))) IntKind.u64.bits))))], [(1, .box b5_0 24 (Arr4.oc .u64 y5_0_2))], [(1, .box b5_0 24 (Arr4.oc .u64 (Arr4.set y5_0_2 (IntKind.i64.wrap (Int.tdiv x6_0_3 (64 : Int))) (bits .or .u64 (Arr4.get y5_0_2 (IntKind.i64.wrap (Int.tdiv x6_0_3 (64 : Int)))) (IntKind.u64.wrap ((1 : Int) * 2 ^ min (Int.toNat (Int.tmod x6_0_3 (64 : Int))) IntKind.u64.bits))))))]⟩) (fun t hm => One.step rfl (.free rfl) (OpT.storeTo (i := 1) (cells' := (Arr4.oc .u64 (Arr4.set y5_0_2 (IntKind.i64.wrap (Int.tdiv x6_0_3 (64 : Int))) (bits .or .u64 (Arr4.get y5_0_2 (IntKind.i64.wrap (Int.tdiv x6_0_3 (64 : Int)))) (IntKind.u64.wrap ((1 : Int) * 2 ^ min (Int.toNat (Int.tmod x6_0_3 (64 : Int))) IntKind.u64.bits)))))) rfl rfl i22 hm.s0 hm.s1 hm.o0 (Arr4.oc_lt (k := .u64) (a := y5_0_2) (pre := []) (post := []) g_47.1 g_47.2) (Arr4.oc_set (k := .u64) (a := y5_0_2) (pre := []) (post := []) g_47.1 g_47.2) rfl)) (Ct.met_of rfl rfl) ?_
      refine DG.fin (s1 := ⟨[(1, .int .u8 x1), (4, .ptr b4_0 0), (5, .ptr b5_0 0), (6, .int .i64 x6_0_3)], [.box b4_0 24 (Arr4.oc .u64 y4_0_1), .box b5_0 24 (Arr4.oc .u64 (Arr4.set y5_0_2 (IntKind.i64.wrap (Int.tdiv x6_0_3 (64 : Int))) (bits .or .u64 (Arr4.get y5_0_2 (IntKind.i64.wrap (Int.tdiv x6_0_3 (64 : Int)))) (IntKind.u64.wrap ((1 : Int) * 2 ^ min (Int.toNat (Int.tmod x6_0_3 (64 : Int))) IntKind.u64.bits)))))]⟩) (ms := [0, 1, 3, 7, 0, 16, 48, 127, 255, 511]) TrydMixed rfl (by kernel_rfl) (by kernel_rfl) (by kernel_rfl) (.cons rfl (.cons rfl (.cons rfl (.cons rfl (.nil _))))) rfl (fun u hu => (inBlock_normal (thenS_normal (T.by_turn hu ?_))))
      refine T.regionL ?_
      refine mv rfl rfl rfl rfl rfl ?_
      refine sp rfl (OpT.int2 rfl rfl (dl rfl rfl) rfl rfl ?_)
      refine asg rfl rfl rfl rfl rfl ?_
      refine TL'.nil (thenS_normal ?_)
      refine TL.by_turn ?_ (ih x1 (IntKind.i64.wrap (x6_0_3 + (1 : Int))) y4_0_1 (Arr4.set y5_0_2 (IntKind.i64.wrap (Int.tdiv x6_0_3 (64 : Int))) (bits .or .u64 (Arr4.get y5_0_2 (IntKind.i64.wrap (Int.tdiv x6_0_3 (64 : Int)))) (IntKind.u64.wrap ((1 : Int) * 2 ^ min (Int.toNat (Int.tmod x6_0_3 (64 : Int))) IntKind.u64.bits)))) b4_0 b5_0 h)
      exact Turn.rp (.cons rfl (.cons rfl (.cons rfl (.cons rfl (.nil _))))) (.c .z (.c .z (.n _)))
    · refine T.condF rfl c_43 ?_
      refine T.exit (thenS_exit (thenS_exit (inBlock_exit (thenS_normal ?_))))
      refine T.seq ?_
      refine T.regionL ?_
      refine sp rfl (OpT.loadBoxAgg (i := 1) (l := (Arr4.dc .u64 y5_0_2)) rfl (dl rfl rfl) Tryd.underlying24 rfl i24 rfl rfl rfl rfl ?_)
      refine sp rfl (OpT.storeAggTo (i := 0) (cells' := (Arr4.oc .u64 y5_0_2)) rfl rfl i24 rfl rfl rfl rfl (Nat.le_of_ble_eq_true rfl) rfl ?_)
      refine TL'.nil (thenS_normal ?_)
      refine T.ret ?_
      exact Fin.done (.cons _ _ _ _ (.cellAgg 4 24 _ 0 0 24 _ (Arr4.dc .u64 y5_0_2) _ _ 4 _ rfl rfl rfl rfl Tryd.underlying24 rfl i24) .nil) (by cases h; exact ⟨rfl, rfl⟩)

theorem bset_Range_T (K : Nat) {x0 : Int} {x1 : Int} {r : Arr4} (h : bset_Range K x0 x1 = some r) : CallR Tryd.prog 18 [.int .u8 x0, .int .u8 x1] [] (.agg (Arr4.dc .u64 r)) := by
  refine CallT.intro Tryd.func18 rfl (Nat.le_of_ble_eq_true rfl) ?_
  show T Tryd.prog 25 (Code.at [] (codeOf Tryd.f18)) ⟨paramSlots 0 [.int .u8 x0, .int .u8 x1], []⟩ (bset_Range_q r)
  unfold bset_Range at h
  refine T.seq ?_
  refine T.regionL ?_
  refine sp rfl (OpT.alloc' rfl (dl rfl rfl) i24 rfl (fun b_41 => ?_))
  refine TL'.nil (thenS_normal ?_)
  refine T.seq ?_
  refine T.regionL ?_
  refine sp rfl (OpT.alloc' rfl (dl rfl rfl) i24 rfl (fun b_42 => ?_))
  refine TL'.nil (thenS_normal ?_)
  refine T.seq ?_
  refine T.seq ?_
  refine T.regionL ?_
  refine mv rfl rfl rfl rfl rfl ?_
  refine sp rfl (OpT.convInt rfl (dl rfl rfl) Tryd.underlying5 Tryd.underlying3 rfl ?_)
  refine asg rfl rfl rfl rfl rfl ?_
  refine TL'.nil (thenS_normal ?_)
  refine T.block ?_
  refine T.loop ?_
  refine TL.by_turn ?_ (bset_Range_l0_T K K x1 (IntKind.i64.wrap x0) (Arr4.mk 0 0 0 0) (Arr4.mk 0 0 0 0) b_41 b_42 h)
  exact Turn.rp (.cons rfl (.cons rfl (.cons rfl (.cons rfl (.nil _))))) (.c (.s .z) (.c .z (.n _)))

abbrev bset_Of_q (r : Arr4) : Exit → St → Prop := retS Tryd.prog Tryd.f20 (fun y t => y = (.agg (Arr4.dc .u64 r)) ∧ t = [])

abbrev bset_Of_qs111 (r : Arr4) : Exit → St → Prop := thenS (fun s' => T Tryd.prog 23 (Code.at [1, 1, 1] (codeOf Tryd.f20)) s' ((bset_Of_q r))) ((bset_Of_q r))

abbrev bset_Of_qb0x111 (r : Arr4) : Exit → St → Prop := inBlockS 0 ((bset_Of_qs111 r))

theorem bset_Of_l0_T {r : Arr4} (K : Nat) : ∀ (k : Nat), ∀ (x0 : List Int) (x7_0_3 : Int) (x8_0_4 : Int) (y2_0_0 : Arr4) (y3_0_1 : Arr4) (flx0 : Bool) (b2_0 : Nat) (b3_0 : Nat), bset_Of_l0 K k x0 x7_0_3 x8_0_4 y2_0_0 y3_0_1 = some r → TL Tryd.prog 23 (Code.at [1, 1, 0, 1, 0, 0] (codeOf Tryd.f20)) ⟨[(2, .ptr b2_0 0), (3, .ptr b3_0 0), (6, .sl flx0 1 (x0.map (cI .u8))), (7, .int .i64 x7_0_3), (8, .int .i64 x8_0_4)], [.box b2_0 24 (Arr4.oc .u64 y2_0_0), .box b3_0 24 (Arr4.oc .u64 y3_0_1)]⟩ (bset_Of_qb0x111 r) := by
  intro k
  induction k with
  | zero =>
    intro x0 x7_0_3 x8_0_4 y2_0_0 y3_0_1 flx0 b2_0 b3_0 h
    cases (show (none : Option Arr4) = some r from h)
  | succ k ih =>
    intro x0 x7_0_3 x8_0_4 y2_0_0 y3_0_1 flx0 b2_0 b3_0 h
    rw [bset_Of_l0] at h
    refine TL.round ?_
    refine T.seq ?_
    refine T.regionL ?_
    refine sp rfl (OpT.int2 rfl rfl (dl rfl rfl) rfl rfl ?_)
    refine TL'.nil (thenS_normal ?_)
    refine T.seq ?_
    rcases bif_some h with ⟨c_59, h⟩ | ⟨c_59, h⟩
    · refine T.condT rfl c_59 ?_
      refine T.skip (thenS_normal ?_)
      refine T.seq ?_
      refine T.block ?_
      refine T.seq ?_
      refine T.regionL ?_
      obtain ⟨v_60, e_61, h⟩ := bind_some h
      refine sp rfl (OpT.indexSlM (xs := x0) (f := (cI .u8)) (v := v_60) rfl (dl rfl rfl) Tryd.underlying26 i5 rfl rfl e_61 ?_)
      refine sp rfl (OpT.loadRef rfl (dl rfl rfl) Tryd.underlying5 rfl rfl rfl ?_)
      refine asg rfl rfl rfl rfl rfl ?_
      refine TL'.nil (thenS_normal ?_)
      refine T.regionL ?_
      refine mv rfl rfl rfl rfl rfl ?_
      refine sp rfl (OpT.quo rfl (dl rfl rfl) rfl rfl (by decide) ?_)
      obtain ⟨g_62, h⟩ := ck_some h
      refine sp rfl (OpT.indexPtr rfl (dl rfl rfl) Tryd.underlying24 i22 rfl rfl g_62.1 g_62.2 ?_)
      refine sp rfl (OpT.loadBox (i := 1) rfl (dl rfl rfl) Tryd.underlying22 rfl rfl rfl (Arr4.oc_get (k := .u64) (a := y3_0_1) (pre := []) (post := []) g_62.1 g_62.2) ?_)
      refine mv rfl rfl rfl rfl rfl ?_
      refine sp rfl (OpT.rem rfl (dl rfl rfl) rfl rfl (by decide) ?_)
      obtain ⟨g_63, h⟩ := ck_some h
      refine sp rfl (OpT.shl rfl (dl rfl rfl) rfl rfl g_63 ?_)
      refine sp rfl (OpT.int2 rfl rfl (dl rfl rfl) rfl rfl ?_)
      refine sp rfl (OpT.indexPtr rfl (dl rfl rfl) Tryd.underlying24 i22 rfl rfl g_62.1 g_62.2 ?_)
      refine sp rfl (OpT.storeTo (i := 1) (cells' := (Arr4.oc .u64 (Arr4.set y3_0_1 (IntKind.u8.wrap (Int.tdiv v_60 (64 : Int))) (bits .or .u64 (Arr4.get y3_0_1 (IntKind.u8.wrap (Int.tdiv v_60 (64 : Int)))) (IntKind.u64.wrap ((1 : Int) * 2 ^ min (Int.toNat (Int.tmod v_60 (64 : Int))) IntKind.u64.bits)))))) rfl rfl i22 rfl rfl rfl (Arr4.oc_lt (k := .u64) (a := y3_0_1) (pre := []) (post := []) g_62.1 g_62.2) (Arr4.oc_set (k := .u64) (a := y3_0_1) (pre := []) (post := []) g_62.1 g_62.2) ?_)
      refine TL'.nil (inBlock_normal (thenS_normal ?_))
      refine T.regionL ?_
      refine sp rfl (OpT.int2 rfl rfl (dl rfl rfl) rfl rfl ?_)
      refine mv rfl rfl rfl rfl rfl ?_
      refine TL'.nil (thenS_normal ?_)
      refine TL.by_turn ?_ (ih x0 x7_0_3 (IntKind.i64.wrap (x8_0_4 + (1 : Int))) y2_0_0 (Arr4.set y3_0_1 (IntKind.u8.wrap (Int.tdiv v_60 (64 : Int))) (bits .or .u64 (Arr4.get y3_0_1 (IntKind.u8.wrap (Int.tdiv v_60 (64 : Int)))) (IntKind.u64.wrap ((1 : Int) * 2 ^ min (Int.toNat (Int.tmod v_60 (64 : Int))) IntKind.u64.bits)))) flx0 b2_0 b3_0 h)
      exact Turn.rp (.cons rfl (.cons rfl (.cons rfl (.cons rfl (.cons rfl (.nil _)))))) (.c .z (.c .z (.n _)))
    · refine T.condF rfl c_59 ?_
      refine T.exit (thenS_exit (thenS_exit (inBlock_exit (thenS_normal ?_))))
      refine T.seq ?_
      refine T.regionL ?_
      refine sp rfl (OpT.loadBoxAgg (i := 1) (l := (Arr4.dc .u64 y3_0_1)) rfl (dl rfl rfl) Tryd.underlying24 rfl i24 rfl rfl rfl rfl ?_)
      refine sp rfl (OpT.storeAggTo (i := 0) (cells' := (Arr4.oc .u64 y3_0_1)) rfl rfl i24 rfl rfl rfl rfl (Nat.le_of_ble_eq_true rfl) rfl ?_)
      refine TL'.nil (thenS_normal ?_)
      refine T.ret ?_
      exact Fin.done (.cons _ _ _ _ (.cellAgg 2 24 _ 0 0 24 _ (Arr4.dc .u64 y3_0_1) _ _ 4 _ rfl rfl rfl rfl Tryd.underlying24 rfl i24) .nil) (by cases h; exact ⟨rfl, rfl⟩)

theorem bset_Of_T (K : Nat) {x0 : List Int} {flx0 : Bool} {r : Arr4} (h : bset_Of K x0 = some r) : CallR Tryd.prog 20 [.sl flx0 1 (x0.map (cI .u8))] [] (.agg (Arr4.dc .u64 r)) := by
  refine CallT.intro Tryd.func20 rfl (Nat.le_of_ble_eq_true rfl) ?_
  show T Tryd.prog 23 (Code.at [] (codeOf Tryd.f20)) ⟨paramSlots 0 [.sl flx0 1 (x0.map (cI .u8))], []⟩ (bset_Of_q r)
  unfold bset_Of at h
  refine T.seq ?_
  refine T.regionL ?_
  refine sp rfl (OpT.alloc' rfl (dl rfl rfl) i24 rfl (fun b_57 => ?_))
  refine TL'.nil (thenS_normal ?_)
  refine T.seq ?_
  refine T.regionL ?_
  refine sp rfl (OpT.alloc' rfl (dl rfl rfl) i24 rfl (fun b_58 => ?_))
  refine TL'.nil (thenS_normal ?_)
  refine T.seq ?_
  refine T.seq ?_
  refine T.regionL ?_
  refine mv rfl rfl rfl rfl rfl ?_
  refine sp rfl (OpT.lenSlM (xs := x0) (f := (cI .u8)) rfl (dl rfl rfl) Tryd.underlying26 rfl ?_)
  refine mv rfl rfl rfl rfl rfl ?_
  refine TL'.nil (thenS_normal ?_)
  refine T.block ?_
  refine T.loop ?_
  refine TL.by_turn ?_ (bset_Of_l0_T K K x0 (x0.length : Int) (0 : Int) (Arr4.mk 0 0 0 0) (Arr4.mk 0 0 0 0) flx0 b_57 b_58 h)
  exact Turn.rp (.cons rfl (.cons rfl (.cons rfl (.cons rfl (.cons rfl (.nil _)))))) (.c (.s .z) (.c .z (.n _)))

abbrev bset_Or_q (r : Arr4) : Exit → St → Prop := retS Tryd.prog Tryd.f19 (fun y t => y = (.agg (Arr4.dc .u64 r)) ∧ t = [])

abbrev bset_Or_qs111 (r : Arr4) : Exit → St → Prop := thenS (fun s' => T Tryd.prog 28 (Code.at [1, 1, 1] (codeOf Tryd.f19)) s' ((bset_Or_q r))) ((bset_Or_q r))

abbrev bset_Or_qb0x111 (r : Arr4) : Exit → St → Prop := inBlockS 0 ((bset_Or_qs111 r))

abbrev bset_Or_ql11010 (r : Arr4) : Exit → St → Prop := thenS (fun s' => TL Tryd.prog 28 (Code.at [1, 1, 0, 1, 0, 0] (codeOf Tryd.f19)) s' ((bset_Or_qb0x111 r))) ((bset_Or_qb0x111 r))

abbrev bset_Or_qs110100111 (r : Arr4) : Exit → St → Prop := thenS (fun s' => T Tryd.prog 28 (Code.at [1, 1, 0, 1, 0, 0, 1, 1, 1] (codeOf Tryd.f19)) s' ((bset_Or_ql11010 r))) ((bset_Or_ql11010 r))

abbrev bset_Or_qb1_0x110100111 (r : Arr4) : Exit → St → Prop := inBlockS 1 ((bset_Or_qs110100111 r))

abbrev bset_Or_qb2_1_0x110100111 (r : Arr4) : Exit → St → Prop := inBlockS 2 ((bset_Or_qb1_0x110100111 r))

abbrev bset_Or_l0_H (r : Arr4) (go : (List Arr4) → Int → Int → Arr4 → Arr4 → Option Arr4) : Prop := ∀ (x0 : List Arr4) (x9_0_3 : Int) (x10_0_4 : Int) (y2_0_0 : Arr4) (y3_0_1 : Arr4) (flx0 : Bool) (b2_0 : Nat) (b3_0 : Nat), go x0 x9_0_3 x10_0_4 y2_0_0 y3_0_1 = some r → TL Tryd.prog 28 (Code.at [1, 1, 0, 1, 0, 0] (codeOf Tryd.f19)) ⟨[(2, .ptr b2_0 0), (3, .ptr b3_0 0), (8, .sl flx0 4 (x0.map (Arr4.dc .u64))), (9, .int .i64 x9_0_3), (10, .int .i64 x10_0_4)], [.box b2_0 24 (Arr4.oc .u64 y2_0_0), .box b3_0 24 (Arr4.oc .u64 y3_0_1)]⟩ (bset_Or_qb0x111 r)

theorem bset_Or_l1_T {r : Arr4} (K : Nat) (go0 : (List Arr4) → Int → Int → Arr4 → Arr4 → Option Arr4) (hgo0 : bset_Or_l0_H r go0) : ∀ (k : Nat), ∀ (x0 : List Arr4) (x9_0_3 : Int) (x10_1_4 : Int) (x14_1_5 : Arr4) (x15_1_6 : Int) (y2_0_0 : Arr4) (y3_1_1 : Arr4) (flx0 : Bool) (b2_1 : Nat) (b3_1 : Nat), bset_Or_l1 K go0 k x0 x9_0_3 x10_1_4 x14_1_5 x15_1_6 y2_0_0 y3_1_1 = some r → TL Tryd.prog 28 (Code.at [1, 1, 0, 1, 0, 0, 1, 1, 0, 0, 1, 1, 0, 0] (codeOf Tryd.f19)) ⟨[(2, .ptr b2_1 0), (3, .ptr b3_1 0), (8, .sl flx0 4 (x0.map (Arr4.dc .u64))), (9, .int .i64 x9_0_3), (10, .int .i64 x10_1_4), (14, .agg (Arr4.dc .u64 x14_1_5)), (15, .int .i64 x15_1_6)], [.box b2_1 24 (Arr4.oc .u64 y2_0_0), .box b3_1 24 (Arr4.oc .u64 y3_1_1)]⟩ (bset_Or_qb2_1_0x110100111 r) := by
  intro k
  induction k with
  | zero =>
    intro x0 x9_0_3 x10_1_4 x14_1_5 x15_1_6 y2_0_0 y3_1_1 flx0 b2_1 b3_1 h
    cases (show (none : Option Arr4) = some r from h)
  | succ k ih =>
    intro x0 x9_0_3 x10_1_4 x14_1_5 x15_1_6 y2_0_0 y3_1_1 flx0 b2_1 b3_1 h
    rw [bset_Or_l1] at h
    refine TL.round ?_
    refine T.seq ?_
    refine T.regionL ?_
    refine sp rfl (OpT.int2 rfl rfl (dl rfl rfl) rfl rfl ?_)
    refine TL'.nil (thenS_normal ?_)
    refine T.seq ?_
    rcases bif_some h with ⟨c_97, h⟩ | ⟨c_97, h⟩
    · refine T.condT rfl c_97 ?_
      refine T.skip (thenS_normal ?_)
      refine T.seq ?_
      refine T.block ?_
      refine T.seq ?_
      refine T.regionL ?_
      refine mv rfl rfl rfl rfl rfl ?_
      obtain ⟨g_98, h⟩ := ck_some h
      refine sp rfl (OpT.indexArr rfl (dl rfl rfl) Tryd.underlying24 Tryd.underlying22 rfl i22 rfl rfl g_98.1 g_98.2 (Arr4.dc_get (a := x14_1_5) (k := .u64) g_98.1 g_98.2) ?_)
      refine asg rfl rfl rfl rfl rfl ?_
      refine asg rfl rfl rfl rfl rfl ?_
      refine TL'.nil (thenS_normal ?_)
      refine T.regionL ?_
      refine mv rfl rfl rfl rfl rfl ?_
      refine sp rfl (OpT.indexPtr rfl (dl rfl rfl) Tryd.underlying24 i22 rfl rfl g_98.1 g_98.2 ?_)
      refine sp rfl (OpT.loadBox (i := 1) rfl (dl rfl rfl) Tryd.underlying22 rfl rfl rfl (Arr4.oc_get (k := .u64) (a := y3_1_1) (pre := []) (post := []) g_98.1 g_98.2) ?_)
      refine mv rfl rfl rfl rfl rfl ?_
      refine sp rfl (OpT.int2 rfl rfl (dl rfl rfl) rfl rfl ?_)
      refine sp rfl (OpT.indexPtr rfl (dl rfl rfl) Tryd.underlying24 i22 rfl rfl g_98.1 g_98.2 ?_)
      refine sp rfl (OpT.storeTo (i := 1) (cells' := (Arr4.oc .u64 (Arr4.set y3_1_1 x15_1_6 (bits .or .u64 (Arr4.get y3_1_1 x15_1_6) (Arr4.get x14_1_5 x15_1_6))))) rfl rfl i22 rfl rfl rfl (Arr4.oc_lt (k := .u64) (a := y3_1_1) (pre := []) (post := []) g_98.1 g_98.2) (Arr4.oc_set (k := .u64) (a := y3_1_1) (pre := []) (post := []) g_98.1 g_98.2) ?_)
      refine TL'.nil (inBlock_normal (thenS_normal ?_))
      refine T.regionL ?_
      refine sp rfl (OpT.int2 rfl rfl (dl rfl rfl) rfl rfl ?_)
      refine mv rfl rfl rfl rfl rfl ?_
      refine TL'.nil (thenS_normal ?_)
      refine TL.by_turn ?_ (ih x0 x9_0_3 x10_1_4 x14_1_5 (IntKind.i64.wrap (x15_1_6 + (1 : Int))) y2_0_0 (Arr4.set y3_1_1 x15_1_6 (bits .or .u64 (Arr4.get y3_1_1 x15_1_6) (Arr4.get x14_1_5 x15_1_6))) flx0 b2_1 b3_1 h)
      exact Turn.rp (.cons rfl (.cons rfl (.cons rfl (.cons rfl (.cons rfl (.cons rfl (.cons rfl (.nil _)))))))) (.c .z (.c .z (.n _)))
    · refine T.condF rfl c_97 ?_
      refine T.exit (thenS_exit (thenS_exit (inBlock_exit (inBlock_normal (thenS_normal ?_)))))
      refine T.regionL ?_
      refine sp rfl (OpT.int2 rfl rfl (dl rfl rfl) rfl rfl ?_)
      refine mv rfl rfl rfl rfl rfl ?_
      refine TL'.nil (thenS_normal ?_)
      refine TL.by_turn ?_ (hgo0 x0 x9_0_3 (IntKind.i64.wrap (x10_1_4 + (1 : Int))) y2_0_0 y3_1_1 flx0 b2_1 b3_1 h)
      exact Turn.rp (.cons rfl (.cons rfl (.cons rfl (.cons rfl (.cons rfl (.nil _)))))) (.c .z (.c .z (.n _)))

theorem bset_Or_l0_T {r : Arr4} (K : Nat) : ∀ (k : Nat), ∀ (x0 : List Arr4) (x9_0_3 : Int) (x10_0_4 : Int) (y2_0_0 : Arr4) (y3_0_1 : Arr4) (flx0 : Bool) (b2_0 : Nat) (b3_0 : Nat), bset_Or_l0 K k x0 x9_0_3 x10_0_4 y2_0_0 y3_0_1 = some r → TL Tryd.prog 28 (Code.at [1, 1, 0, 1, 0, 0] (codeOf Tryd.f19)) ⟨[(2, .ptr b2_0 0), (3, .ptr b3_0 0), (8, .sl flx0 4 (x0.map (Arr4.dc .u64))), (9, .int .i64 x9_0_3), (10, .int .i64 x10_0_4)], [.box b2_0 24 (Arr4.oc .u64 y2_0_0), .box b3_0 24 (Arr4.oc .u64 y3_0_1)]⟩ (bset_Or_qb0x111 r) := by
  intro k
  induction k with
  | zero =>
    intro x0 x9_0_3 x10_0_4 y2_0_0 y3_0_1 flx0 b2_0 b3_0 h
    cases (show (none : Option Arr4) = some r from h)
  | succ k ih =>
    intro x0 x9_0_3 x10_0_4 y2_0_0 y3_0_1 flx0 b2_0 b3_0 h
    rw [bset_Or_l0] at h
    refine TL.round ?_
    refine T.seq ?_
    refine T.regionL ?_
    refine sp rfl (OpT.int2 rfl rfl (dl rfl rfl) rfl rfl ?_)
    refine TL'.nil (thenS_normal ?_)
    refine T.seq ?_
    rcases bif_some h with ⟨c_93, h⟩ | ⟨c_93, h⟩
    · refine T.condT rfl c_93 ?_
      refine T.skip (thenS_normal ?_)
      refine T.seq ?_
      refine T.block ?_
      refine T.seq ?_
      refine T.regionL ?_
      obtain ⟨v_94, e_95, h⟩ := bind_some h
      refine sp rfl (OpT.indexSlM (xs := x0) (f := (Arr4.dc .u64)) (v := v_94) rfl (dl rfl rfl) Tryd.underlying33 i24 rfl rfl e_95 ?_)
      refine sp rfl (OpT.loadRefAgg rfl (dl rfl rfl) Tryd.underlying24 rfl i24 rfl (Nat.le_of_ble_eq_true rfl) ?_)
      refine sp rfl (OpT.alloc' rfl (dl rfl rfl) i24 rfl (fun b_96 => ?_))
      refine sp rfl (OpT.storeAggTo (i := 0) (cells' := (Arr4.oc .u64 v_94)) rfl rfl i24 rfl rfl rfl rfl (Nat.le_of_ble_eq_true rfl) rfl ?_)
      refine TL'.nil (thenS_normal ?_)
      refine T.seq ?_
      refine T.regionL ?_
      refine sp rfl (OpT.loadBoxAgg (i := 0) (l := (Arr4.dc .u64 v_94)) rfl (dl rfl rfl) Tryd.underlying24 rfl i24 rfl rfl rfl rfl ?_)
      refine mv rfl rfl rfl rfl rfl ?_
      refine TL'.nil (thenS_normal ?_)
      refine T.block ?_
      refine T.loop ?_
      refine TL.by_turn ?_ (bset_Or_l1_T K (bset_Or_l0 K k) ih K x0 x9_0_3 x10_0_4 v_94 (0 : Int) y2_0_0 y3_0_1 flx0 b2_0 b3_0 h)
      exact Turn.rp (.cons rfl (.cons rfl (.cons rfl (.cons rfl (.cons rfl (.cons rfl (.cons rfl (.nil _)))))))) (.c (.s .z) (.c (.s .z) (.n _)))
    · refine T.condF rfl c_93 ?_
      refine T.exit (thenS_exit (thenS_exit (inBlock_exit (thenS_normal ?_))))
      refine T.seq ?_
      refine T.regionL ?_
      refine sp rfl (OpT.loadBoxAgg (i := 1) (l := (Arr4.dc .u64 y3_0_1)) rfl (dl rfl rfl) Tryd.underlying24 rfl i24 rfl rfl rfl rfl ?_)
      refine sp rfl (OpT.storeAggTo (i := 0) (cells' := (Arr4.oc .u64 y3_0_1)) rfl rfl i24 rfl rfl rfl rfl (Nat.le_of_ble_eq_true rfl) rfl ?_)
      refine TL'.nil (thenS_normal ?_)
      refine T.ret ?_
      exact Fin.done (.cons _ _ _ _ (.cellAgg 2 24 _ 0 0 24 _ (Arr4.dc .u64 y3_0_1) _ _ 4 _ rfl rfl rfl rfl Tryd.underlying24 rfl i24) .nil) (by cases h; exact ⟨rfl, rfl⟩)

theorem bset_Or_T (K : Nat) {x0 : List Arr4} {flx0 : Bool} {r : Arr4} (h : bset_Or K x0 = some r) : CallR Tryd.prog 19 [.sl flx0 4 (x0.map (Arr4.dc .u64))] [] (.agg (Arr4.dc .u64 r)) := by
  refine CallT.intro Tryd.func19 rfl (Nat.le_of_ble_eq_true rfl) ?_
  show T Tryd.prog 28 (Code.at [] (codeOf Tryd.f19)) ⟨paramSlots 0 [.sl flx0 4 (x0.map (Arr4.dc .u64))], []⟩ (bset_Or_q r)
  unfold bset_Or at h
  refine T.seq ?_
  refine T.regionL ?_
  refine sp rfl (OpT.alloc' rfl (dl rfl rfl) i24 rfl (fun b_91 => ?_))
  refine TL'.nil (thenS_normal ?_)
  refine T.seq ?_
  refine T.regionL ?_
  refine sp rfl (OpT.alloc' rfl (dl rfl rfl) i24 rfl (fun b_92 => ?_))
  refine TL'.nil (thenS_normal ?_)
  refine T.seq ?_
  refine T.seq ?_
  refine T.regionL ?_
  refine mv rfl rfl rfl rfl rfl ?_
  refine sp rfl (OpT.lenSlM (xs := x0) (f := (Arr4.dc .u64)) rfl (dl rfl rfl) Tryd.underlying33 rfl ?_)
  refine mv rfl rfl rfl rfl rfl ?_
  refine TL'.nil (thenS_normal ?_)
  refine T.block ?_
  refine T.loop ?_
  refine TL.by_turn ?_ (bset_Or_l0_T K K x0 (x0.length : Int) (0 : Int) (Arr4.mk 0 0 0 0) (Arr4.mk 0 0 0 0) flx0 b_91 b_92 h)
  exact Turn.rp (.cons rfl (.cons rfl (.cons rfl (.cons rfl (.cons rfl (.nil _)))))) (.c (.s .z) (.c .z (.n _)))

abbrev bits_TrailingZeros64_q (r : Int) : Exit → St → Prop := retS Tryd.prog Tryd.f32 (fun y t => y = (.int .i64 r) ∧ t = [.ro 0 deBruijnD])

theorem bits_TrailingZeros64_T (K : Nat) {x0 : Int} {r : Int} (h : bits_TrailingZeros64 K x0 = some r) : CallR Tryd.prog 32 [.int .u64 x0] [.ro 0 deBruijnD] (.int .i64 r) := by
  refine CallT.intro Tryd.func32 rfl (Nat.le_of_ble_eq_true rfl) ?_
  show T Tryd.prog 14 (Code.at [] (codeOf Tryd.f32)) ⟨paramSlots 0 [.int .u64 x0], [.ro 0 deBruijnD]⟩ (bits_TrailingZeros64_q r)
  unfold bits_TrailingZeros64 at h
  refine T.seq ?_
  refine T.regionL ?_
  refine asg rfl rfl rfl rfl rfl ?_
  refine TL'.nil (thenS_normal ?_)
  refine T.seq ?_
  refine T.seq ?_
  refine T.regionL ?_
  refine mv rfl rfl rfl rfl rfl ?_
  refine sp rfl (OpT.int2 rfl rfl (dl rfl rfl) rfl rfl ?_)
  refine TL'.nil (thenS_normal ?_)
  rcases bif_some h with ⟨c_17, h⟩ | ⟨c_17, h⟩
  · refine T.condT rfl c_17 ?_
    refine T.seq ?_
    refine T.regionL ?_
    refine asg rfl rfl rfl rfl rfl ?_
    refine TL'.nil (thenS_normal ?_)
    refine T.ret (thenS_ret ?_)
    exact Fin.doneK (.cons _ _ _ _ (.tmp 2 _ rfl) .nil) (.cons 0 rfl (.nil _)) (by cases h; exact ⟨rfl, rfl⟩)
  · refine T.condF rfl c_17 ?_
    refine T.skip (thenS_normal ?_)
    refine T.seq ?_
    refine T.regionL ?_
    refine mv rfl rfl rfl rfl rfl ?_
    refine mv rfl rfl rfl rfl rfl ?_
    refine sp rfl (OpT.neg rfl (dl rfl rfl) rfl ?_)
    refine sp rfl (OpT.int2 rfl rfl (dl rfl rfl) rfl rfl ?_)
    refine sp rfl (OpT.int2 rfl rfl (dl rfl rfl) rfl rfl ?_)
    refine sp rfl (OpT.shr rfl (dl rfl rfl) rfl rfl (by decide) ?_)
    obtain ⟨v_18, e_19, h⟩ := bind_some h
    obtain ⟨g_20, h⟩ := ck_some h
    refine sp rfl (OpT.indexPtr rfl (dl rfl rfl) Tryd.underlying50 i5 rfl rfl (geti_some e_19).1 g_20 ?_)
    refine sp rfl (OpT.loadRo (i := 0) rfl (dl rfl rfl) Tryd.underlying5 rfl rfl rfl (ro_get e_19) ?_)
    refine sp rfl (OpT.convInt rfl (dl rfl rfl) Tryd.underlying5 Tryd.underlying3 rfl ?_)
    refine asg rfl rfl rfl rfl rfl ?_
    refine TL'.nil (thenS_normal ?_)
    refine T.ret ?_
    exact Fin.doneK (.cons _ _ _ _ (.tmp 2 _ rfl) .nil) (.cons 0 rfl (.nil _)) (by cases h; exact ⟨rfl, rfl⟩)

abbrev bset_List_q (r : List Int) : Exit → St → Prop := retS Tryd.prog Tryd.f11 (fun y t => y = (.sl false 1 (r.map (cI .u8))) ∧ t = [.ro 0 deBruijnD])

abbrev bset_List_qs111 (r : List Int) : Exit → St → Prop := thenS (fun s' => T Tryd.prog 28 (Code.at [1, 1, 1] (codeOf Tryd.f11)) s' ((bset_List_q r))) ((bset_List_q r))

abbrev bset_List_qb0x111 (r : List Int) : Exit → St → Prop := inBlockS 0 ((bset_List_qs111 r))

abbrev bset_List_ql11010 (r : List Int) : Exit → St → Prop := thenS (fun s' => TL Tryd.prog 28 (Code.at [1, 1, 0, 1, 0, 0] (codeOf Tryd.f11)) s' ((bset_List_qb0x111 r))) ((bset_List_qb0x111 r))

abbrev bset_List_qs110100111 (r : List Int) : Exit → St → Prop := thenS (fun s' => T Tryd.prog 28 (Code.at [1, 1, 0, 1, 0, 0, 1, 1, 1] (codeOf Tryd.f11)) s' ((bset_List_ql11010 r))) ((bset_List_ql11010 r))

abbrev bset_List_qb1_0x110100111 (r : List Int) : Exit → St → Prop := inBlockS 1 ((bset_List_qs110100111 r))

abbrev bset_List_qb2_1_0x110100111 (r : List Int) : Exit → St → Prop := inBlockS 2 ((bset_List_qb1_0x110100111 r))

abbrev bset_List_l0_H (r : List Int) (go : Arr4 → Int → (List Int) → Option (List Int)) : Prop := ∀ (x0 : Arr4) (x7_0_2 : Int) (y3_0_0 : List Int) (w3_0 : Value), go x0 x7_0_2 y3_0_0 = some r → TL Tryd.prog 28 (Code.at [1, 1, 0, 1, 0, 0] (codeOf Tryd.f11)) ⟨[(3, .c (.ex w3_0)), (6, .agg (Arr4.dc .u64 x0)), (7, .int .i64 x7_0_2)], [.arrA w3_0 5 1 (y3_0_0.map (cI .u8)), .ro 0 deBruijnD]⟩ (bset_List_qb0x111 r)

theorem bset_List_l1_T {r : List Int} (K : Nat) (go0 : Arr4 → Int → (List Int) → Option (List Int)) (hgo0 : bset_List_l0_H r go0) : ∀ (k : Nat), ∀ (x4_1_1 : Int) (x5_1_2 : Int) (x0 : Arr4) (x7_1_4 : Int) (y3_1_0 : List Int) (w3_1 : Value), bset_List_l1 K go0 k x4_1_1 x5_1_2 x0 x7_1_4 y3_1_0 = some r → TL Tryd.prog 28 (Code.at [1, 1, 0, 1, 0, 0, 1, 1, 0, 0, 1, 0, 0] (codeOf Tryd.f11)) ⟨[(3, .c (.ex w3_1)), (4, .int .i64 x4_1_1), (5, .int .u64 x5_1_2), (6, .agg (Arr4.dc .u64 x0)), (7, .int .i64 x7_1_4)], [.arrA w3_1 5 1 (y3_1_0.map (cI .u8)), .ro 0 deBruijnD]⟩ (bset_List_qb2_1_0x110100111 r) := by
  intro k
  induction k with
  | zero =>
    intro x4_1_1 x5_1_2 x0 x7_1_4 y3_1_0 w3_1 h
    cases (show (none : Option (List Int)) = some r from h)
  | succ k ih =>
    intro x4_1_1 x5_1_2 x0 x7_1_4 y3_1_0 w3_1 h
    rw [bset_List_l1] at h
    refine TL.round ?_
    refine T.seq ?_
    refine T.seq ?_
    refine T.regionL ?_
    refine mv rfl rfl rfl rfl rfl ?_
    refine sp rfl (OpT.int2 rfl rfl (dl rfl rfl) rfl rfl ?_)
    refine TL'.nil (thenS_normal ?_)
    rcases bif_some h with ⟨c_94, h⟩ | ⟨c_94, h⟩
    · refine T.condT rfl c_94 ?_
      refine T.skip (thenS_normal ?_)
      refine T.seq ?_
      refine T.block ?_
      refine T.regionL ?_
      refine mv rfl rfl rfl rfl rfl ?_
      refine mv rfl rfl rfl rfl rfl ?_
      refine sp rfl (OpT.int2 rfl rfl (dl rfl rfl) rfl rfl ?_)
      refine mv rfl rfl rfl rfl rfl ?_
      obtain ⟨v_95, e_96, h⟩ := bind_some h
      refine sp rfl (OpT.callRoA rfl (dl rfl rfl) Tryd.func32 rfl rfl (Args.cons rfl Args.nil) (.cons 1 rfl (.nil)) (bits_TrailingZeros64_T K e_96) ?_)
      refine sp rfl (OpT.int2 rfl rfl (dl rfl rfl) rfl rfl ?_)
      refine sp rfl (OpT.convInt rfl (dl rfl rfl) Tryd.underlying3 Tryd.underlying5 rfl ?_)
      refine sp rfl (OpT.buildSlice (elems := ([(IntKind.u8.wrap (IntKind.i64.wrap ((IntKind.i64.wrap ((64 : Int) * x4_1_1)) + v_95)))] : List Int).map (cI .u8)) rfl (dl rfl rfl) Tryd.underlying26 i5 (by decide) rfl (all1 rfl) rfl rfl rfl (lenAll rfl) (by decide) ?_)
      obtain ⟨g_98, h⟩ := ck_some h
      refine sp rfl (OpT.appendAM (i := 0) (xs := y3_1_0) (ys := [(IntKind.u8.wrap (IntKind.i64.wrap ((IntKind.i64.wrap ((64 : Int) * x4_1_1)) + v_95)))]) (f := (cI .u8)) rfl (dl rfl rfl) Tryd.underlying26 i5 rfl rfl rfl rfl g_98 (fun w_97 => ?_))
      refine asg rfl rfl rfl rfl rfl ?_
      refine TL'.nil (inBlock_normal (thenS_normal ?_))
      refine T.regionL ?_
      refine mv rfl rfl rfl rfl rfl ?_
      refine mv rfl rfl rfl rfl rfl ?_
      refine sp rfl (OpT.int2 rfl rfl (dl rfl rfl) rfl rfl ?_)
      refine sp rfl (OpT.int2 rfl rfl (dl rfl rfl) rfl rfl ?_)
      refine asg rfl rfl rfl rfl rfl ?_
      refine TL'.nil (thenS_normal ?_)
      refine TL.by_turn ?_ (ih x4_1_1 (bits .and .u64 x5_1_2 (IntKind.u64.wrap (x5_1_2 - (1 : Int)))) x0 x7_1_4 (y3_1_0 ++ [(IntKind.u8.wrap (IntKind.i64.wrap ((IntKind.i64.wrap ((64 : Int) * x4_1_1)) + v_95)))]) w_97 h)
      exact Turn.rp (.cons rfl (.cons rfl (.cons rfl (.cons rfl (.cons rfl (.nil _)))))) (.c .z (.c .z (.n _)))
    · refine T.condF rfl c_94 ?_
      refine T.exit (thenS_exit (thenS_exit (inBlock_exit (inBlock_normal (thenS_normal ?_)))))
      refine T.regionL ?_
      refine sp rfl (OpT.int2 rfl rfl (dl rfl rfl) rfl rfl ?_)
      refine mv rfl rfl rfl rfl rfl ?_
      refine TL'.nil (thenS_normal ?_)
      refine TL.by_turn ?_ (hgo0 x0 (IntKind.i64.wrap (x7_1_4 + (1 : Int))) y3_1_0 w3_1 h)
      exact Turn.rp (.cons rfl (.cons rfl (.cons rfl (.nil _)))) (.c .z (.c .z (.n _)))

theorem bset_List_l0_T {r : List Int} (K : Nat) : ∀ (k : Nat), ∀ (x0 : Arr4) (x7_0_2 : Int) (y3_0_0 : List Int) (w3_0 : Value), bset_List_l0 K k x0 x7_0_2 y3_0_0 = some r → TL Tryd.prog 28 (Code.at [1, 1, 0, 1, 0, 0] (codeOf Tryd.f11)) ⟨[(3, .c (.ex w3_0)), (6, .agg (Arr4.dc .u64 x0)), (7, .int .i64 x7_0_2)], [.arrA w3_0 5 1 (y3_0_0.map (cI .u8)), .ro 0 deBruijnD]⟩ (bset_List_qb0x111 r) := by
  intro k
  induction k with
  | zero =>
    intro x0 x7_0_2 y3_0_0 w3_0 h
    cases (show (none : Option (List Int)) = some r from h)
  | succ k ih =>
    intro x0 x7_0_2 y3_0_0 w3_0 h
    rw [bset_List_l0] at h
    refine TL.round ?_
    refine T.seq ?_
    refine T.regionL ?_
    refine sp rfl (OpT.int2 rfl rfl (dl rfl rfl) rfl rfl ?_)
    refine TL'.nil (thenS_normal ?_)
    refine T.seq ?_
    rcases bif_some h with ⟨c_92, h⟩ | ⟨c_92, h⟩
    · refine T.condT rfl c_92 ?_
      refine T.skip (thenS_normal ?_)
      refine T.seq ?_
      refine T.block ?_
      refine T.seq ?_
      refine T.regionL ?_
      refine mv rfl rfl rfl rfl rfl ?_
      obtain ⟨g_93, h⟩ := ck_some h
      refine sp rfl (OpT.indexArr rfl (dl rfl rfl) Tryd.underlying24 Tryd.underlying22 rfl i22 rfl rfl g_93.1 g_93.2 (Arr4.dc_get (a := x0) (k := .u64) g_93.1 g_93.2) ?_)
      refine asg rfl rfl rfl rfl rfl ?_
      refine asg rfl rfl rfl rfl rfl ?_
      refine TL'.nil (thenS_normal ?_)
      refine T.block ?_
      refine T.loop ?_
      refine TL.by_turn ?_ (bset_List_l1_T K (bset_List_l0 K k) ih K x7_0_2 (Arr4.get x0 x7_0_2) x0 x7_0_2 y3_0_0 w3_0 h)
      exact Turn.rp (.cons rfl (.cons rfl (.cons rfl (.cons rfl (.cons rfl (.nil _)))))) (.c .z (.c .z (.n _)))
    · refine T.condF rfl c_92 ?_
      refine T.exit (thenS_exit (thenS_exit (inBlock_exit (thenS_normal ?_))))
      refine T.seq ?_
      refine T.regionL ?_
      refine mv rfl rfl rfl rfl rfl ?_
      refine asg rfl rfl rfl rfl rfl ?_
      refine TL'.nil (thenS_normal ?_)
      refine T.ret ?_
      refine Fin.turn (Turn.view 2 0 rfl rfl) ?_
      exact Fin.doneK (.cons _ _ _ _ (.tmp 2 _ rfl) .nil) (.cons 1 rfl (.nil _)) (by cases h; exact ⟨rfl, rfl⟩)

theorem bset_List_T (K : Nat) {x0 : Arr4} {r : List Int} (h : bset_List K x0 = some r) : CallR Tryd.prog 11 [.agg (Arr4.dc .u64 x0)] [.ro 0 deBruijnD] (.sl false 1 (r.map (cI .u8))) := by
  refine CallT.intro Tryd.func11 rfl (Nat.le_of_ble_eq_true rfl) ?_
  show T Tryd.prog 28 (Code.at [] (codeOf Tryd.f11)) ⟨paramSlots 0 [.agg (Arr4.dc .u64 x0)], [.ro 0 deBruijnD]⟩ (bset_List_q r)
  unfold bset_List at h
  refine T.seq ?_
  refine T.regionL ?_
  refine sp rfl (OpT.boxAgg rfl (dl rfl rfl) rfl (fun b_91 => ?_))
  refine asg rfl rfl rfl rfl rfl ?_
  refine TL'.nil (thenS_normal ?_)
  refine T.seq ?_
  refine T.regionL ?_
  refine asg rfl rfl rfl rfl rfl ?_
  refine TL'.nil (thenS_normal ?_)
  refine T.seq ?_
  refine T.seq ?_
  refine T.regionL ?_
  refine sp rfl (OpT.loadBoxAgg (i := 0) (l := (Arr4.dc .u64 x0)) rfl (dl rfl rfl) Tryd.underlying24 rfl i24 rfl rfl rfl rfl ?_)
  refine mv rfl rfl rfl rfl rfl ?_
  refine TL'.nil (thenS_normal ?_)
  refine T.block ?_
  refine T.loop ?_
  refine TL.by_turn (Turn.nilA 5 1) ?_
  refine TL.by_turn ?_ (bset_List_l0_T K K x0 (0 : Int) [] (nilv 2) h)
  exact Turn.rp (.cons rfl (.cons rfl (.cons rfl (.nil _)))) (.c .z (.c (.s .z) (.n _)))

abbrev bset_Spans_q (r : List Arr2) : Exit → St → Prop := retS Tryd.prog Tryd.f14 (fun y t => y = (.sl false 2 (r.map (Arr2.dc .u8))) ∧ t = [.ro 0 deBruijnD])

abbrev bset_Spans_qs1111 (r : List Arr2) : Exit → St → Prop := thenS (fun s' => T Tryd.prog 36 (Code.at [1, 1, 1, 1] (codeOf Tryd.f14)) s' ((bset_Spans_q r))) ((bset_Spans_q r))

abbrev bset_Spans_qb0x1111 (r : List Arr2) : Exit → St → Prop := inBlockS 0 ((bset_Spans_qs1111 r))

abbrev bset_Spans_ql111010 (r : List Arr2) : Exit → St → Prop := thenS (fun s' => TL Tryd.prog 36 (Code.at [1, 1, 1, 0, 1, 0, 0] (codeOf Tryd.f14)) s' ((bset_Spans_qb0x1111 r))) ((bset_Spans_qb0x1111 r))

abbrev bset_Spans_qs1110100111 (r : List Arr2) : Exit → St → Prop := thenS (fun s' => T Tryd.prog 36 (Code.at [1, 1, 1, 0, 1, 0, 0, 1, 1, 1] (codeOf Tryd.f14)) s' ((bset_Spans_ql111010 r))) ((bset_Spans_ql111010 r))

abbrev bset_Spans_qb1_0x1110100111 (r : List Arr2) : Exit → St → Prop := inBlockS 1 ((bset_Spans_qs1110100111 r))

abbrev bset_Spans_l0_H (r : List Arr2) (go : Int → (List Int) → Int → Int → (List Arr2) → Option (List Arr2)) : Prop := ∀ (x4_0_1 : Int) (x8_0_2 : List Int) (x9_0_3 : Int) (x10_0_4 : Int) (y3_0_0 : List Arr2) (w3_0 : Value), go x4_0_1 x8_0_2 x9_0_3 x10_0_4 y3_0_0 = some r → TL Tryd.prog 36 (Code.at [1, 1, 1, 0, 1, 0, 0] (codeOf Tryd.f14)) ⟨[(3, .c (.ex w3_0)), (4, .int .i64 x4_0_1), (8, .sl false 1 (x8_0_2.map (cI .u8))), (9, .int .i64 x9_0_3), (10, .int .i64 x10_0_4)], [.arrX w3_0 34 2 0 (y3_0_0.map (Arr2.dc .u8)), .ro 0 deBruijnD]⟩ (bset_Spans_qb0x1111 r)

theorem bset_Spans_j1_T {r : List Arr2} (K : Nat) (go0 : Int → (List Int) → Int → Int → (List Arr2) → Option (List Arr2)) (hgo0 : bset_Spans_l0_H r go0) (x6_1_1 : Int) (x8_1_2 : List Int) (x9_1_3 : Int) (x10_1_4 : Int) (y3_1_0 : List Arr2) (w3_1 : Value) (h : bset_Spans_j1 K go0 x6_1_1 x8_1_2 x9_1_3 x10_1_4 y3_1_0 = some r) : T Tryd.prog 36 (Code.at [1, 1, 1, 0, 1, 0, 0, 1, 1, 0, 0, 1, 1] (codeOf Tryd.f14)) ⟨[(3, .c (.ex w3_1)), (6, .int .u8 x6_1_1), (8, .sl false 1 (x8_1_2.map (cI .u8))), (9, .int .i64 x9_1_3), (10, .int .i64 x10_1_4)], [.arrX w3_1 34 2 0 (y3_1_0.map (Arr2.dc .u8)), .ro 0 deBruijnD]⟩ (bset_Spans_qb1_0x1110100111 r) := by
  unfold bset_Spans_j1 at h
  refine T.regionL ?_
  refine mv rfl rfl rfl rfl rfl ?_
  refine sp rfl (OpT.convInt rfl (dl rfl rfl) Tryd.underlying5 Tryd.underlying3 rfl ?_)
  refine asg rfl rfl rfl rfl rfl ?_
  refine TL'.nil (inBlock_normal (thenS_normal ?_))
  refine T.regionL ?_
  refine sp rfl (OpT.int2 rfl rfl (dl rfl rfl) rfl rfl ?_)
  refine mv rfl rfl rfl rfl rfl ?_
  refine TL'.nil (thenS_normal ?_)
  refine TL.by_turn ?_ (hgo0 (IntKind.i64.wrap x6_1_1) x8_1_2 x9_1_3 (IntKind.i64.wrap (x10_1_4 + (1 : Int))) y3_1_0 w3_1 h)
  exact Turn.rp (.cons rfl (.cons rfl (.cons rfl (.cons rfl (.cons rfl (.nil _)))))) (.c .z (.c .z (.n _)))

theorem bset_Spans_l0_T {r : List Arr2} (K : Nat) : ∀ (k : Nat), ∀ (x4_0_1 : Int) (x8_0_2 : List Int) (x9_0_3 : Int) (x10_0_4 : Int) (y3_0_0 : List Arr2) (w3_0 : Value), bset_Spans_l0 K k x4_0_1 x8_0_2 x9_0_3 x10_0_4 y3_0_0 = some r → TL Tryd.prog 36 (Code.at [1, 1, 1, 0, 1, 0, 0] (codeOf Tryd.f14)) ⟨[(3, .c (.ex w3_0)), (4, .int .i64 x4_0_1), (8, .sl false 1 (x8_0_2.map (cI .u8))), (9, .int .i64 x9_0_3), (10, .int .i64 x10_0_4)], [.arrX w3_0 34 2 0 (y3_0_0.map (Arr2.dc .u8)), .ro 0 deBruijnD]⟩ (bset_Spans_qb0x1111 r) := by
  intro k
  induction k with
  | zero =>
    intro x4_0_1 x8_0_2 x9_0_3 x10_0_4 y3_0_0 w3_0 h
    cases (show (none : Option (List Arr2)) = some r from h)
  | succ k ih =>
    intro x4_0_1 x8_0_2 x9_0_3 x10_0_4 y3_0_0 w3_0 h
    rw [bset_Spans_l0] at h
    refine TL.round ?_
    refine T.seq ?_
    refine T.regionL ?_
    refine sp rfl (OpT.int2 rfl rfl (dl rfl rfl) rfl rfl ?_)
    refine TL'.nil (thenS_normal ?_)
    refine T.seq ?_
    rcases bif_some h with ⟨c_126, h⟩ | ⟨c_126, h⟩
    · refine T.condT rfl c_126 ?_
      refine T.skip (thenS_normal ?_)
      refine T.seq ?_
      refine T.block ?_
      refine T.seq ?_
      refine T.regionL ?_
      obtain ⟨v_127, e_128, h⟩ := bind_some h
      refine sp rfl (OpT.indexSlM (xs := x8_0_2) (f := (cI .u8)) (v := v_127) rfl (dl rfl rfl) Tryd.underlying26 i5 rfl rfl e_128 ?_)
      refine sp rfl (OpT.loadRef rfl (dl rfl rfl) Tryd.underlying5 rfl rfl rfl ?_)
      refine asg rfl rfl rfl rfl rfl ?_
      refine TL'.nil (thenS_normal ?_)
      refine T.seq ?_
      refine T.seq ?_
      refine T.regionL ?_
      refine mv rfl rfl rfl rfl rfl ?_
      refine sp rfl (OpT.convInt rfl (dl rfl rfl) Tryd.underlying5 Tryd.underlying3 rfl ?_)
      refine mv rfl rfl rfl rfl rfl ?_
      refine sp rfl (OpT.int2 rfl rfl (dl rfl rfl) rfl rfl ?_)
      refine sp rfl (OpT.int2 rfl rfl (dl rfl rfl) rfl rfl ?_)
      refine TL'.nil (thenS_normal ?_)
      rcases bif_some h with ⟨c_129, h⟩ | ⟨c_129, h⟩
      · refine T.condT rfl c_129 ?_
        refine T.regionL ?_
        refine mv rfl rfl rfl rfl rfl ?_
        refine mv rfl rfl rfl rfl rfl ?_
        refine sp rfl (OpT.lenXM (i := 0) (xs := y3_0_0) (f := (Arr2.dc .u8)) rfl (dl rfl rfl) Tryd.underlying29 rfl rfl ?_)
        refine sp rfl (OpT.int2 rfl rfl (dl rfl rfl) rfl rfl ?_)
        refine mv rfl rfl rfl rfl rfl ?_
        obtain ⟨v_130, e_131, h⟩ := bind_some h
        refine sp rfl (OpT.indexXM (n := 0) (xs := y3_0_0) (f := (Arr2.dc .u8)) (old := v_130) rfl (dl rfl rfl) Tryd.underlying29 i34 rfl rfl rfl e_131 ?_)
        refine sp rfl (OpT.indexEl rfl (dl rfl rfl) Tryd.underlying34 i5 rfl rfl (by decide) (by decide) ?_)
        refine sp rfl (OpT.storeXM (i := 0) (xs := y3_0_0) (f := (Arr2.dc .u8)) (old := v_130) (new := (Arr2.set v_130 1 v_127)) rfl rfl i5 rfl rfl rfl (geti_some e_131).2 (Nat.zero_le _) (Nat.le_of_ble_eq_true rfl) rfl ?_)
        refine TL'.nil (thenS_normal ?_)
        refine T.by_turn ?_ (bset_Spans_j1_T K (bset_Spans_l0 K k) ih v_127 x8_0_2 x9_0_3 x10_0_4 (List.set y3_0_0 (Int.toNat (IntKind.i64.wrap ((y3_0_0.length : Int) - (1 : Int)))) (Arr2.set v_130 1 v_127)) w3_0 h)
        exact Turn.rp (.cons rfl (.cons rfl (.cons rfl (.cons rfl (.cons rfl (.nil _)))))) (.c .z (.c .z (.n _)))
      · refine T.condF rfl c_129 ?_
        refine T.regionL ?_
        refine mv rfl rfl rfl rfl rfl ?_
        refine mv rfl rfl rfl rfl rfl ?_
        refine mv rfl rfl rfl rfl rfl ?_
        refine sp rfl (OpT.build (l := (Arr2.dc .u8 (Arr2.mk v_127 v_127))) rfl (dl rfl rfl) (built_arr Tryd.underlying34 i34 i5) (all1 rfl) rfl rfl ?_)
        refine sp rfl (OpT.buildSliceX (elems := ([(Arr2.mk v_127 v_127)] : List Arr2).map (Arr2.dc .u8)) rfl (dl rfl rfl) Tryd.underlying29 i34 (by decide) rfl (all1 rfl) rfl rfl rfl (lenAll rfl) (by decide) (fun b_132 => ?_))
        refine TL'.turn (Turn.sealX 0 rfl) ?_
        refine TL'.turn (Turn.view 30 0 rfl rfl) ?_
        obtain ⟨g_134, h⟩ := ck_some h
        refine sp rfl (OpT.appendXM (i := 1) (xs := y3_0_0) (ys := [(Arr2.mk v_127 v_127)]) (f := (Arr2.dc .u8)) rfl (dl rfl rfl) Tryd.underlying29 i34 rfl rfl rfl rfl g_134 (fun w_133 => ?_))
        refine asg rfl rfl rfl rfl rfl ?_
        refine TL'.nil (thenS_normal ?_)
        refine T.by_turn ?_ (bset_Spans_j1_T K (bset_Spans_l0 K k) ih v_127 x8_0_2 x9_0_3 x10_0_4 (y3_0_0 ++ [(Arr2.mk v_127 v_127)]) w_133 h)
        exact Turn.rp (.cons rfl (.cons rfl (.cons rfl (.cons rfl (.cons rfl (.nil _)))))) (.c (.s .z) (.c (.s .z) (.n _)))
    · refine T.condF rfl c_126 ?_
      refine T.exit (thenS_exit (thenS_exit (inBlock_exit (thenS_normal ?_))))
      refine T.seq ?_
      refine T.regionL ?_
      refine mv rfl rfl rfl rfl rfl ?_
      refine asg rfl rfl rfl rfl rfl ?_
      refine TL'.nil (thenS_normal ?_)
      refine T.ret ?_
      refine Fin.turn (Turn.sealX 0 rfl) ?_
      refine Fin.turn (Turn.view 2 0 rfl rfl) ?_
      exact Fin.doneK (.cons _ _ _ _ (.tmp 2 _ rfl) .nil) (.cons 1 rfl (.nil _)) (by cases h; exact ⟨rfl, rfl⟩)

theorem bset_Spans_T (K : Nat) {x0 : Arr4} {r : List Arr2} (h : bset_Spans K x0 = some r) : CallR Tryd.prog 14 [.agg (Arr4.dc .u64 x0)] [.ro 0 deBruijnD] (.sl false 2 (r.map (Arr2.dc .u8))) := by
  refine CallT.intro Tryd.func14 rfl (Nat.le_of_ble_eq_true rfl) ?_
  show T Tryd.prog 36 (Code.at [] (codeOf Tryd.f14)) ⟨paramSlots 0 [.agg (Arr4.dc .u64 x0)], [.ro 0 deBruijnD]⟩ (bset_Spans_q r)
  unfold bset_Spans at h
  refine T.seq ?_
  refine T.regionL ?_
  refine sp rfl (OpT.boxAgg rfl (dl rfl rfl) rfl (fun b_123 => ?_))
  refine asg rfl rfl rfl rfl rfl ?_
  refine TL'.nil (thenS_normal ?_)
  refine T.seq ?_
  refine T.regionL ?_
  refine asg rfl rfl rfl rfl rfl ?_
  refine TL'.nil (thenS_normal ?_)
  refine T.seq ?_
  refine T.regionL ?_
  refine asg rfl rfl rfl rfl rfl ?_
  refine TL'.nil (thenS_normal ?_)
  refine T.seq ?_
  refine T.seq ?_
  refine T.regionL ?_
  refine sp rfl (OpT.loadBoxAgg (i := 0) (l := (Arr4.dc .u64 x0)) rfl (dl rfl rfl) Tryd.underlying24 rfl i24 rfl rfl rfl rfl ?_)
  obtain ⟨v_124, e_125, h⟩ := bind_some h
  refine sp rfl (OpT.callRoA rfl (dl rfl rfl) Tryd.func11 rfl rfl (Args.cons rfl Args.nil) (.cons 1 rfl (.nil)) (bset_List_T K e_125) ?_)
  refine sp rfl (OpT.lenSlM (xs := v_124) (f := (cI .u8)) rfl (dl rfl rfl) Tryd.underlying26 rfl ?_)
  refine mv rfl rfl rfl rfl rfl ?_
  refine TL'.nil (thenS_normal ?_)
  refine T.block ?_
  refine T.loop ?_
  refine TL.by_turn (Turn.nilX 34 2) ?_
  refine TL.by_turn ?_ (bset_Spans_l0_T K K (-2 : Int) v_124 (v_124.length : Int) (0 : Int) [] (nilv 2) h)
  exact Turn.rp (.cons rfl (.cons rfl (.cons rfl (.cons rfl (.cons rfl (.nil _)))))) (.c .z (.c (.s .z) (.n _)))

abbrev raddlelaw01_spans_q (r : Bool) : Exit → St → Prop := retS Tryd.prog Tryd.f13 (fun y t => y = (.bool r) ∧ t = [])

abbrev raddlelaw01_spans_qs111 (r : Bool) : Exit → St → Prop := thenS (fun s' => T Tryd.prog 26 (Code.at [1, 1, 1] (codeOf Tryd.f13)) s' ((raddlelaw01_spans_q r))) ((raddlelaw01_spans_q r))

abbrev raddlelaw01_spans_qb0x111 (r : Bool) : Exit → St → Prop := inBlockS 0 ((raddlelaw01_spans_qs111 r))

theorem raddlelaw01_spans_l0_T {r : Bool} (K : Nat) : ∀ (k : Nat), ∀ (x0 : List Arr2) (x1 : List Arr2) (x12_0_2 : Int) (x13_0_3 : Int) (flx0 : Bool) (flx1 : Bool), raddlelaw01_spans_l0 K k x0 x1 x12_0_2 x13_0_3 = some r → TL Tryd.prog 26 (Code.at [1, 1, 0, 1, 0, 0] (codeOf Tryd.f13)) ⟨[(0, .sl flx0 2 (x0.map (Arr2.dc .u8))), (1, .sl flx1 2 (x1.map (Arr2.dc .u8))), (12, .int .i64 x12_0_2), (13, .int .i64 x13_0_3)], []⟩ (raddlelaw01_spans_qb0x111 r) := by
  intro k
  induction k with
  | zero =>
    intro x0 x1 x12_0_2 x13_0_3 flx0 flx1 h
    cases (show (none : Option Bool) = some r from h)
  | succ k ih =>
    intro x0 x1 x12_0_2 x13_0_3 flx0 flx1 h
    rw [raddlelaw01_spans_l0] at h
    refine TL.round ?_
    refine T.seq ?_
    refine T.regionL ?_
    refine sp rfl (OpT.int2 rfl rfl (dl rfl rfl) rfl rfl ?_)
    refine TL'.nil (thenS_normal ?_)
    refine T.seq ?_
    rcases bif_some h with ⟨c_110, h⟩ | ⟨c_110, h⟩
    · refine T.condT rfl c_110 ?_
      refine T.skip (thenS_normal ?_)
      refine T.seq ?_
      refine T.block ?_
      refine T.seq ?_
      refine T.regionL ?_
      refine mv rfl rfl rfl rfl rfl ?_
      refine asg rfl rfl rfl rfl rfl ?_
      refine TL'.nil (thenS_normal ?_)
      refine T.seq ?_
      refine DG.start ?_
      refine DG.mv rfl rfl rfl rfl rfl rfl ?_
      refine DG.mv rfl rfl rfl rfl rfl rfl ?_
      obtain ⟨v_116, e_117, h⟩ := bind_some h
      refine DG.step (c := ⟨some 18, .ref [.int .u8 v_116.a0, .int .u8 v_116.a1], [(16, .sl flx0 2 (x0.map (Arr2.dc .u8))), (17, .int .i64 x13_0_3)], [], []⟩) (fun t hm => One.step rfl (.free rfl) (OpT.indexSlM (xs := x0) (f := (Arr2.dc .u8)) (v := v_116) rfl (dl rfl rfl) Tryd.underlying29 i34 hm.s0 hm.s1 e_117 rfl)) (Ct.met_of rfl rfl) ?_
      refine DG.step (c := ⟨some 19, .agg (Arr2.dc .u8 v_116), [(18, .ref [.int .u8 v_116.a0, .int .u8 v_116.a1])], [], []⟩) (fun t hm => One.step rfl (.free rfl) (OpT.loadRefAgg rfl (dl rfl rfl) Tryd.underlying34 rfl i34 hm.s0 (Nat.le_of_ble_eq_true rfl) rfl)) (Ct.met_of rfl rfl) ?_
      refine DG.mv rfl rfl rfl rfl rfl rfl ?_
      refine DG.mv rfl rfl rfl rfl rfl rfl ?_
      obtain ⟨v_118, e_119, h⟩ := bind_some h
      refine DG.step (c := ⟨some 22, .ref [.int .u8 v_118.a0, .int .u8 v_118.a1], [(20, .sl flx1 2 (x1.map (Arr2.dc .u8))), (21, .int .i64 x13_0_3)], [], []⟩) (fun t hm => One.step rfl (.free rfl) (OpT.indexSlM (xs := x1) (f := (Arr2.dc .u8)) (v := v_118) rfl (dl rfl rfl) Tryd.underlying29 i34 hm.s0 hm.s1 e_119 rfl)) (Ct.met_of rfl rfl) ?_
      refine DG.step (c := ⟨some 23, .agg (Arr2.dc .u8 v_118), [(22, .ref [.int .u8 v_118.a0, .int .u8 v_118.a1])], [], []⟩) (fun t hm => One.step rfl (.free rfl) (OpT.loadRefAgg rfl (dl rfl rfl) Tryd.underlying34 rfl i34 hm.s0 (Nat.le_of_ble_eq_true rfl) rfl)) (Ct.met_of rfl rfl) ?_
      refine DG.step (c := ⟨some 24, .bool (!(Arr2.same v_116 v_118)), [(19, .agg (Arr2.dc .u8 v_116)), (23, .agg (Arr2.dc .u8 v_118))], [], []⟩) (fun t hm => One.step rfl (.free rfl) (OpT.intsNeq (k := .u8) (xs := [v_116.a0, v_116.a1]) (ys := [v_118.a0, v_118.a1]) rfl (dl rfl rfl) Tryd.underlying34 Tryd.underlying5 i5 Tryd.eqGuardType34 hm.s0 hm.s1 rfl rfl rfl rfl (Arr2.same_eq v_116 v_118) rfl)) (Ct.met_of rfl rfl) ?_
      refine DG.fin (s1 := ⟨[(0, .sl flx0 2 (x0.map (Arr2.dc .u8))), (1, .sl flx1 2 (x1.map (Arr2.dc .u8))), (12, .int .i64 x12_0_2), (13, .int .i64 x13_0_3), (24, .bool (!(Arr2.same v_116 v_118)))], []⟩) (ms := [0, 0, 3, 7, 0, 0, 48, 112, 255]) TrydMixed rfl (by kernel_rfl) (by kernel_rfl) (by kernel_rfl) (.cons rfl (.cons rfl (.cons rfl (.cons rfl (.cons rfl (.nil _)))))) rfl (fun u hu => (thenS_normal (T.by_turn hu ?_)))
      rcases bif_some h with ⟨c_120, h⟩ | ⟨c_120, h⟩
      · refine T.condT rfl c_120 ?_
        refine T.seq ?_
        refine T.regionL ?_
        refine asg rfl rfl rfl rfl rfl ?_
        refine TL'.nil (thenS_normal ?_)
        refine T.ret (inBlock_ret (thenS_ret (thenS_ret (inBlock_ret (thenS_ret ?_)))))
        exact Fin.done (.cons _ _ _ _ (.tmp 4 _ rfl) .nil) (by cases h; exact ⟨rfl, rfl⟩)
      · refine T.condF rfl c_120 ?_
        refine T.skip (inBlock_normal (thenS_normal ?_))
        refine T.regionL ?_
        refine sp rfl (OpT.int2 rfl rfl (dl rfl rfl) rfl rfl ?_)
        refine mv rfl rfl rfl rfl rfl ?_
        refine TL'.nil (thenS_normal ?_)
        refine TL.by_turn ?_ (ih x0 x1 x12_0_2 (IntKind.i64.wrap (x13_0_3 + (1 : Int))) flx0 flx1 h)
        exact Turn.rp (.cons rfl (.cons rfl (.cons rfl (.cons rfl (.nil _))))) (.n _)
    · refine T.condF rfl c_110 ?_
      refine T.exit (thenS_exit (thenS_exit (inBlock_exit (thenS_normal ?_))))
      refine T.seq ?_
      refine T.regionL ?_
      refine asg rfl rfl rfl rfl rfl ?_
      refine TL'.nil (thenS_normal ?_)
      refine T.ret ?_
      exact Fin.done (.cons _ _ _ _ (.tmp 4 _ rfl) .nil) (by cases h; exact ⟨rfl, rfl⟩)

theorem raddlelaw01_spans_T (K : Nat) {x0 : List Arr2} {x1 : List Arr2} {flx0 : Bool} {flx1 : Bool} {r : Bool} (h : raddlelaw01_spans K x0 x1 = some r) : CallR Tryd.prog 13 [.sl flx0 2 (x0.map (Arr2.dc .u8)), .sl flx1 2 (x1.map (Arr2.dc .u8))] [] (.bool r) := by
  refine CallT.intro Tryd.func13 rfl (Nat.le_of_ble_eq_true rfl) ?_
  show T Tryd.prog 26 (Code.at [] (codeOf Tryd.f13)) ⟨paramSlots 0 [.sl flx0 2 (x0.map (Arr2.dc .u8)), .sl flx1 2 (x1.map (Arr2.dc .u8))], []⟩ (raddlelaw01_spans_q r)
  unfold raddlelaw01_spans at h
  refine T.seq ?_
  refine T.regionL ?_
  refine asg rfl rfl rfl rfl rfl ?_
  refine TL'.nil (thenS_normal ?_)
  refine T.seq ?_
  refine T.seq ?_
  refine T.regionL ?_
  refine mv rfl rfl rfl rfl rfl ?_
  refine sp rfl (OpT.lenSlM (xs := x0) (f := (Arr2.dc .u8)) rfl (dl rfl rfl) Tryd.underlying29 rfl ?_)
  refine mv rfl rfl rfl rfl rfl ?_
  refine sp rfl (OpT.lenSlM (xs := x1) (f := (Arr2.dc .u8)) rfl (dl rfl rfl) Tryd.underlying29 rfl ?_)
  refine sp rfl (OpT.int2 rfl rfl (dl rfl rfl) rfl rfl ?_)
  refine TL'.nil (thenS_normal ?_)
  rcases bif_some h with ⟨c_109, h⟩ | ⟨c_109, h⟩
  · refine T.condT rfl c_109 ?_
    refine T.seq ?_
    refine T.regionL ?_
    refine asg rfl rfl rfl rfl rfl ?_
    refine TL'.nil (thenS_normal ?_)
    refine T.ret (thenS_ret ?_)
    exact Fin.done (.cons _ _ _ _ (.tmp 4 _ rfl) .nil) (by cases h; exact ⟨rfl, rfl⟩)
  · refine T.condF rfl c_109 ?_
    refine T.skip (thenS_normal ?_)
    refine T.seq ?_
    refine T.seq ?_
    refine T.regionL ?_
    refine mv rfl rfl rfl rfl rfl ?_
    refine sp rfl (OpT.lenSlM (xs := x0) (f := (Arr2.dc .u8)) rfl (dl rfl rfl) Tryd.underlying29 rfl ?_)
    refine mv rfl rfl rfl rfl rfl ?_
    refine TL'.nil (thenS_normal ?_)
    refine T.block ?_
    refine T.loop ?_
    refine TL.by_turn ?_ (raddlelaw01_spans_l0_T K K x0 x1 (x0.length : Int) (0 : Int) flx0 flx1 h)
    exact Turn.rp (.cons rfl (.cons rfl (.cons rfl (.cons rfl (.nil _))))) (.n _)

abbrev bset_Not_q (r : Arr4) : Exit → St → Prop := retS Tryd.prog Tryd.f22 (fun y t => y = (.agg (Arr4.dc .u64 r)) ∧ t = [])

abbrev bset_Not_qs11 (r : Arr4) : Exit → St → Prop := thenS (fun s' => T Tryd.prog 16 (Code.at [1, 1] (codeOf Tryd.f22)) s' ((bset_Not_q r))) ((bset_Not_q r))

abbrev bset_Not_qb0x11 (r : Arr4) : Exit → St → Prop := inBlockS 0 ((bset_Not_qs11 r))

theorem bset_Not_l0_T {r : Arr4} (K : Nat) : ∀ (k : Nat), ∀ (x0 : Arr4) (x6_0_3 : Int) (y1_0_0 : Arr4) (y2_0_1 : Arr4) (b1_0 : Nat) (b2_0 : Nat), bset_Not_l0 K k x0 x6_0_3 y1_0_0 y2_0_1 = some r → TL Tryd.prog 16 (Code.at [1, 0, 1, 0, 0] (codeOf Tryd.f22)) ⟨[(1, .ptr b1_0 0), (2, .ptr b2_0 0), (5, .agg (Arr4.dc .u64 x0)), (6, .int .i64 x6_0_3)], [.box b1_0 24 (Arr4.oc .u64 y1_0_0), .box b2_0 24 (Arr4.oc .u64 y2_0_1)]⟩ (bset_Not_qb0x11 r) := by
  intro k
  induction k with
  | zero =>
    intro x0 x6_0_3 y1_0_0 y2_0_1 b1_0 b2_0 h
    cases (show (none : Option Arr4) = some r from h)
  | succ k ih =>
    intro x0 x6_0_3 y1_0_0 y2_0_1 b1_0 b2_0 h
    rw [bset_Not_l0] at h
    refine TL.round ?_
    refine T.seq ?_
    refine T.regionL ?_
    refine sp rfl (OpT.int2 rfl rfl (dl rfl rfl) rfl rfl ?_)
    refine TL'.nil (thenS_normal ?_)
    refine T.seq ?_
    rcases bif_some h with ⟨c_29, h⟩ | ⟨c_29, h⟩
    · refine T.condT rfl c_29 ?_
      refine T.skip (thenS_normal ?_)
      refine T.seq ?_
      refine T.block ?_
      refine T.seq ?_
      refine T.regionL ?_
      refine mv rfl rfl rfl rfl rfl ?_
      obtain ⟨g_30, h⟩ := ck_some h
      refine sp rfl (OpT.indexArr rfl (dl rfl rfl) Tryd.underlying24 Tryd.underlying22 rfl i22 rfl rfl g_30.1 g_30.2 (Arr4.dc_get (a := x0) (k := .u64) g_30.1 g_30.2) ?_)
      refine asg rfl rfl rfl rfl rfl ?_
      refine asg rfl rfl rfl rfl rfl ?_
      refine TL'.nil (thenS_normal ?_)
      refine T.regionL ?_
      refine mv rfl rfl rfl rfl rfl ?_
      refine mv rfl rfl rfl rfl rfl ?_
      refine sp rfl (OpT.compl rfl (dl rfl rfl) rfl ?_)
      refine sp rfl (OpT.indexPtr rfl (dl rfl rfl) Tryd.underlying24 i22 rfl rfl g_30.1 g_30.2 ?_)
      refine sp rfl (OpT.storeTo (i := 0) (cells' := (Arr4.oc .u64 (Arr4.set y1_0_0 x6_0_3 (bits .xor .u64 IntKind.u64.max (Arr4.get x0 x6_0_3))))) rfl rfl i22 rfl rfl rfl (Arr4.oc_lt (k := .u64) (a := y1_0_0) (pre := []) (post := []) g_30.1 g_30.2) (Arr4.oc_set (k := .u64) (a := y1_0_0) (pre := []) (post := []) g_30.1 g_30.2) ?_)
      refine TL'.nil (inBlock_normal (thenS_normal ?_))
      refine T.regionL ?_
      refine sp rfl (OpT.int2 rfl rfl (dl rfl rfl) rfl rfl ?_)
      refine mv rfl rfl rfl rfl rfl ?_
      refine TL'.nil (thenS_normal ?_)
      refine TL.by_turn ?_ (ih x0 (IntKind.i64.wrap (x6_0_3 + (1 : Int))) (Arr4.set y1_0_0 x6_0_3 (bits .xor .u64 IntKind.u64.max (Arr4.get x0 x6_0_3))) y2_0_1 b1_0 b2_0 h)
      exact Turn.rp (.cons rfl (.cons rfl (.cons rfl (.cons rfl (.nil _))))) (.c .z (.c .z (.n _)))
    · refine T.condF rfl c_29 ?_
      refine T.exit (thenS_exit (thenS_exit (inBlock_exit (thenS_normal ?_))))
      refine T.seq ?_
      refine T.regionL ?_
      refine sp rfl (OpT.loadBoxAgg (i := 0) (l := (Arr4.dc .u64 y1_0_0)) rfl (dl rfl rfl) Tryd.underlying24 rfl i24 rfl rfl rfl rfl ?_)
      refine sp rfl (OpT.storeAggTo (i := 1) (cells' := (Arr4.oc .u64 y1_0_0)) rfl rfl i24 rfl rfl rfl rfl (Nat.le_of_ble_eq_true rfl) rfl ?_)
      refine TL'.nil (thenS_normal ?_)
      refine T.ret ?_
      exact Fin.done (.cons _ _ _ _ (.cellAgg 2 24 _ 0 1 24 _ (Arr4.dc .u64 y1_0_0) _ _ 4 _ rfl rfl rfl rfl Tryd.underlying24 rfl i24) .nil) (by cases h; exact ⟨rfl, rfl⟩)

theorem bset_Not_T (K : Nat) {x0 : Arr4} {r : Arr4} (h : bset_Not K x0 = some r) : CallR Tryd.prog 22 [.agg (Arr4.dc .u64 x0)] [] (.agg (Arr4.dc .u64 r)) := by
  refine CallT.intro Tryd.func22 rfl (Nat.le_of_ble_eq_true rfl) ?_
  show T Tryd.prog 16 (Code.at [] (codeOf Tryd.f22)) ⟨paramSlots 0 [.agg (Arr4.dc .u64 x0)], []⟩ (bset_Not_q r)
  unfold bset_Not at h
  refine T.seq ?_
  refine T.regionL ?_
  refine sp rfl (OpT.boxAgg rfl (dl rfl rfl) rfl (fun b_27 => ?_))
  refine sp rfl (OpT.alloc' rfl (dl rfl rfl) i24 rfl (fun b_28 => ?_))
  refine TL'.nil (thenS_normal ?_)
  refine T.seq ?_
  refine T.seq ?_
  refine T.regionL ?_
  refine sp rfl (OpT.loadBoxAgg (i := 1) (l := (Arr4.dc .u64 x0)) rfl (dl rfl rfl) Tryd.underlying24 rfl i24 rfl rfl rfl rfl ?_)
  refine mv rfl rfl rfl rfl rfl ?_
  refine TL'.nil (thenS_normal ?_)
  refine T.block ?_
  refine T.loop ?_
  refine TL.by_turn ?_ (bset_Not_l0_T K K x0 (0 : Int) x0 (Arr4.mk 0 0 0 0) b_27 b_28 h)
  exact Turn.rp (.cons rfl (.cons rfl (.cons rfl (.cons rfl (.nil _))))) (.c (.s .z) (.c .z (.n _)))

abbrev bset_And_q (r : Arr4) : Exit → St → Prop := retS Tryd.prog Tryd.f21 (fun y t => y = (.agg (Arr4.dc .u64 r)) ∧ t = [])

abbrev bset_And_qs111 (r : Arr4) : Exit → St → Prop := thenS (fun s' => T Tryd.prog 30 (Code.at [1, 1, 1] (codeOf Tryd.f21)) s' ((bset_And_q r))) ((bset_And_q r))

abbrev bset_And_qb0x111 (r : Arr4) : Exit → St → Prop := inBlockS 0 ((bset_And_qs111 r))

abbrev bset_And_ql11010 (r : Arr4) : Exit → St → Prop := thenS (fun s' => TL Tryd.prog 30 (Code.at [1, 1, 0, 1, 0, 0] (codeOf Tryd.f21)) s' ((bset_And_qb0x111 r))) ((bset_And_qb0x111 r))

abbrev bset_And_qs110100111 (r : Arr4) : Exit → St → Prop := thenS (fun s' => T Tryd.prog 30 (Code.at [1, 1, 0, 1, 0, 0, 1, 1, 1] (codeOf Tryd.f21)) s' ((bset_And_ql11010 r))) ((bset_And_ql11010 r))

abbrev bset_And_qb1_0x110100111 (r : Arr4) : Exit → St → Prop := inBlockS 1 ((bset_And_qs110100111 r))

abbrev bset_And_qb2_1_0x110100111 (r : Arr4) : Exit → St → Prop := inBlockS 2 ((bset_And_qb1_0x110100111 r))

abbrev bset_And_l0_H (r : Arr4) (go : (List Arr4) → Int → Int → Arr4 → Arr4 → Option Arr4) : Prop := ∀ (x0 : List Arr4) (x11_0_3 : Int) (x12_0_4 : Int) (y2_0_0 : Arr4) (y3_0_1 : Arr4) (flx0 : Bool) (b2_0 : Nat) (b3_0 : Nat), go x0 x11_0_3 x12_0_4 y2_0_0 y3_0_1 = some r → TL Tryd.prog 30 (Code.at [1, 1, 0, 1, 0, 0] (codeOf Tryd.f21)) ⟨[(2, .ptr b2_0 0), (3, .ptr b3_0 0), (10, .sl flx0 4 (x0.map (Arr4.dc .u64))), (11, .int .i64 x11_0_3), (12, .int .i64 x12_0_4)], [.box b2_0 24 (Arr4.oc .u64 y2_0_0), .box b3_0 24 (Arr4.oc .u64 y3_0_1)]⟩ (bset_And_qb0x111 r)

theorem bset_And_l1_T {r : Arr4} (K : Nat) (go0 : (List Arr4) → Int → Int → Arr4 → Arr4 → Option Arr4) (hgo0 : bset_And_l0_H r go0) : ∀ (k : Nat), ∀ (x0 : List Arr4) (x11_0_3 : Int) (x12_1_4 : Int) (x16_1_5 : Arr4) (x17_1_6 : Int) (y2_0_0 : Arr4) (y3_1_1 : Arr4) (flx0 : Bool) (b2_1 : Nat) (b3_1 : Nat), bset_And_l1 K go0 k x0 x11_0_3 x12_1_4 x16_1_5 x17_1_6 y2_0_0 y3_1_1 = some r → TL Tryd.prog 30 (Code.at [1, 1, 0, 1, 0, 0, 1, 1, 0, 0, 1, 1, 0, 0] (codeOf Tryd.f21)) ⟨[(2, .ptr b2_1 0), (3, .ptr b3_1 0), (10, .sl flx0 4 (x0.map (Arr4.dc .u64))), (11, .int .i64 x11_0_3), (12, .int .i64 x12_1_4), (16, .agg (Arr4.dc .u64 x16_1_5)), (17, .int .i64 x17_1_6)], [.box b2_1 24 (Arr4.oc .u64 y2_0_0), .box b3_1 24 (Arr4.oc .u64 y3_1_1)]⟩ (bset_And_qb2_1_0x110100111 r) := by
  intro k
  induction k with
  | zero =>
    intro x0 x11_0_3 x12_1_4 x16_1_5 x17_1_6 y2_0_0 y3_1_1 flx0 b2_1 b3_1 h
    cases (show (none : Option Arr4) = some r from h)
  | succ k ih =>
    intro x0 x11_0_3 x12_1_4 x16_1_5 x17_1_6 y2_0_0 y3_1_1 flx0 b2_1 b3_1 h
    rw [bset_And_l1] at h
    refine TL.round ?_
    refine T.seq ?_
    refine T.regionL ?_
    refine sp rfl (OpT.int2 rfl rfl (dl rfl rfl) rfl rfl ?_)
    refine TL'.nil (thenS_normal ?_)
    refine T.seq ?_
    rcases bif_some h with ⟨c_123, h⟩ | ⟨c_123, h⟩
    · refine T.condT rfl c_123 ?_
      refine T.skip (thenS_normal ?_)
      refine T.seq ?_
      refine T.block ?_
      refine T.seq ?_
      refine T.regionL ?_
      refine mv rfl rfl rfl rfl rfl ?_
      obtain ⟨g_124, h⟩ := ck_some h
      refine sp rfl (OpT.indexArr rfl (dl rfl rfl) Tryd.underlying24 Tryd.underlying22 rfl i22 rfl rfl g_124.1 g_124.2 (Arr4.dc_get (a := x16_1_5) (k := .u64) g_124.1 g_124.2) ?_)
      refine asg rfl rfl rfl rfl rfl ?_
      refine asg rfl rfl rfl rfl rfl ?_
      refine TL'.nil (thenS_normal ?_)
      refine T.regionL ?_
      refine mv rfl rfl rfl rfl rfl ?_
      refine sp rfl (OpT.indexPtr rfl (dl rfl rfl) Tryd.underlying24 i22 rfl rfl g_124.1 g_124.2 ?_)
      refine sp rfl (OpT.loadBox (i := 1) rfl (dl rfl rfl) Tryd.underlying22 rfl rfl rfl (Arr4.oc_get (k := .u64) (a := y3_1_1) (pre := []) (post := []) g_124.1 g_124.2) ?_)
      refine mv rfl rfl rfl rfl rfl ?_
      refine sp rfl (OpT.int2 rfl rfl (dl rfl rfl) rfl rfl ?_)
      refine sp rfl (OpT.indexPtr rfl (dl rfl rfl) Tryd.underlying24 i22 rfl rfl g_124.1 g_124.2 ?_)
      refine sp rfl (OpT.storeTo (i := 1) (cells' := (Arr4.oc .u64 (Arr4.set y3_1_1 x17_1_6 (bits .and .u64 (Arr4.get y3_1_1 x17_1_6) (Arr4.get x16_1_5 x17_1_6))))) rfl rfl i22 rfl rfl rfl (Arr4.oc_lt (k := .u64) (a := y3_1_1) (pre := []) (post := []) g_124.1 g_124.2) (Arr4.oc_set (k := .u64) (a := y3_1_1) (pre := []) (post := []) g_124.1 g_124.2) ?_)
      refine TL'.nil (inBlock_normal (thenS_normal ?_))
      refine T.regionL ?_
      refine sp rfl (OpT.int2 rfl rfl (dl rfl rfl) rfl rfl ?_)
      refine mv rfl rfl rfl rfl rfl ?_
      refine TL'.nil (thenS_normal ?_)
      refine TL.by_turn ?_ (ih x0 x11_0_3 x12_1_4 x16_1_5 (IntKind.i64.wrap (x17_1_6 + (1 : Int))) y2_0_0 (Arr4.set y3_1_1 x17_1_6 (bits .and .u64 (Arr4.get y3_1_1 x17_1_6) (Arr4.get x16_1_5 x17_1_6))) flx0 b2_1 b3_1 h)
      exact Turn.rp (.cons rfl (.cons rfl (.cons rfl (.cons rfl (.cons rfl (.cons rfl (.cons rfl (.nil _)))))))) (.c .z (.c .z (.n _)))
    · refine T.condF rfl c_123 ?_
      refine T.exit (thenS_exit (thenS_exit (inBlock_exit (inBlock_normal (thenS_normal ?_)))))
      refine T.regionL ?_
      refine sp rfl (OpT.int2 rfl rfl (dl rfl rfl) rfl rfl ?_)
      refine mv rfl rfl rfl rfl rfl ?_
      refine TL'.nil (thenS_normal ?_)
      refine TL.by_turn ?_ (hgo0 x0 x11_0_3 (IntKind.i64.wrap (x12_1_4 + (1 : Int))) y2_0_0 y3_1_1 flx0 b2_1 b3_1 h)
      exact Turn.rp (.cons rfl (.cons rfl (.cons rfl (.cons rfl (.cons rfl (.nil _)))))) (.c .z (.c .z (.n _)))

theorem bset_And_l0_T {r : Arr4} (K : Nat) : ∀ (k : Nat), ∀ (x0 : List Arr4) (x11_0_3 : Int) (x12_0_4 : Int) (y2_0_0 : Arr4) (y3_0_1 : Arr4) (flx0 : Bool) (b2_0 : Nat) (b3_0 : Nat), bset_And_l0 K k x0 x11_0_3 x12_0_4 y2_0_0 y3_0_1 = some r → TL Tryd.prog 30 (Code.at [1, 1, 0, 1, 0, 0] (codeOf Tryd.f21)) ⟨[(2, .ptr b2_0 0), (3, .ptr b3_0 0), (10, .sl flx0 4 (x0.map (Arr4.dc .u64))), (11, .int .i64 x11_0_3), (12, .int .i64 x12_0_4)], [.box b2_0 24 (Arr4.oc .u64 y2_0_0), .box b3_0 24 (Arr4.oc .u64 y3_0_1)]⟩ (bset_And_qb0x111 r) := by
  intro k
  induction k with
  | zero =>
    intro x0 x11_0_3 x12_0_4 y2_0_0 y3_0_1 flx0 b2_0 b3_0 h
    cases (show (none : Option Arr4) = some r from h)
  | succ k ih =>
    intro x0 x11_0_3 x12_0_4 y2_0_0 y3_0_1 flx0 b2_0 b3_0 h
    rw [bset_And_l0] at h
    refine TL.round ?_
    refine T.seq ?_
    refine T.regionL ?_
    refine sp rfl (OpT.int2 rfl rfl (dl rfl rfl) rfl rfl ?_)
    refine TL'.nil (thenS_normal ?_)
    refine T.seq ?_
    rcases bif_some h with ⟨c_119, h⟩ | ⟨c_119, h⟩
    · refine T.condT rfl c_119 ?_
      refine T.skip (thenS_normal ?_)
      refine T.seq ?_
      refine T.block ?_
      refine T.seq ?_
      refine T.regionL ?_
      obtain ⟨v_120, e_121, h⟩ := bind_some h
      refine sp rfl (OpT.indexSlM (xs := x0) (f := (Arr4.dc .u64)) (v := v_120) rfl (dl rfl rfl) Tryd.underlying33 i24 rfl rfl e_121 ?_)
      refine sp rfl (OpT.loadRefAgg rfl (dl rfl rfl) Tryd.underlying24 rfl i24 rfl (Nat.le_of_ble_eq_true rfl) ?_)
      refine sp rfl (OpT.alloc' rfl (dl rfl rfl) i24 rfl (fun b_122 => ?_))
      refine sp rfl (OpT.storeAggTo (i := 0) (cells' := (Arr4.oc .u64 v_120)) rfl rfl i24 rfl rfl rfl rfl (Nat.le_of_ble_eq_true rfl) rfl ?_)
      refine TL'.nil (thenS_normal ?_)
      refine T.seq ?_
      refine T.regionL ?_
      refine sp rfl (OpT.loadBoxAgg (i := 0) (l := (Arr4.dc .u64 v_120)) rfl (dl rfl rfl) Tryd.underlying24 rfl i24 rfl rfl rfl rfl ?_)
      refine mv rfl rfl rfl rfl rfl ?_
      refine TL'.nil (thenS_normal ?_)
      refine T.block ?_
      refine T.loop ?_
      refine TL.by_turn ?_ (bset_And_l1_T K (bset_And_l0 K k) ih K x0 x11_0_3 x12_0_4 v_120 (0 : Int) y2_0_0 y3_0_1 flx0 b2_0 b3_0 h)
      exact Turn.rp (.cons rfl (.cons rfl (.cons rfl (.cons rfl (.cons rfl (.cons rfl (.cons rfl (.nil _)))))))) (.c (.s .z) (.c (.s .z) (.n _)))
    · refine T.condF rfl c_119 ?_
      refine T.exit (thenS_exit (thenS_exit (inBlock_exit (thenS_normal ?_))))
      refine T.seq ?_
      refine T.regionL ?_
      refine sp rfl (OpT.loadBoxAgg (i := 1) (l := (Arr4.dc .u64 y3_0_1)) rfl (dl rfl rfl) Tryd.underlying24 rfl i24 rfl rfl rfl rfl ?_)
      refine sp rfl (OpT.storeAggTo (i := 0) (cells' := (Arr4.oc .u64 y3_0_1)) rfl rfl i24 rfl rfl rfl rfl (Nat.le_of_ble_eq_true rfl) rfl ?_)
      refine TL'.nil (thenS_normal ?_)
      refine T.ret ?_
      exact Fin.done (.cons _ _ _ _ (.cellAgg 2 24 _ 0 0 24 _ (Arr4.dc .u64 y3_0_1) _ _ 4 _ rfl rfl rfl rfl Tryd.underlying24 rfl i24) .nil) (by cases h; exact ⟨rfl, rfl⟩)

theorem bset_And_T (K : Nat) {x0 : List Arr4} {flx0 : Bool} {r : Arr4} (h : bset_And K x0 = some r) : CallR Tryd.prog 21 [.sl flx0 4 (x0.map (Arr4.dc .u64))] [] (.agg (Arr4.dc .u64 r)) := by
  refine CallT.intro Tryd.func21 rfl (Nat.le_of_ble_eq_true rfl) ?_
  show T Tryd.prog 30 (Code.at [] (codeOf Tryd.f21)) ⟨paramSlots 0 [.sl flx0 4 (x0.map (Arr4.dc .u64))], []⟩ (bset_And_q r)
  unfold bset_And at h
  refine T.seq ?_
  refine T.regionL ?_
  refine sp rfl (OpT.alloc' rfl (dl rfl rfl) i24 rfl (fun b_115 => ?_))
  refine TL'.nil (thenS_normal ?_)
  refine T.seq ?_
  refine T.regionL ?_
  refine sp rfl (OpT.build (l := (Arr4.dc .u64 (Arr4.mk 0 0 0 0))) rfl (dl rfl rfl) (built_arr Tryd.underlying24 i24 i22) (all1 rfl) rfl rfl ?_)
  obtain ⟨v_116, e_117, h⟩ := bind_some h
  refine sp rfl (OpT.callPA rfl (dl rfl rfl) Tryd.func22 rfl rfl (Args.cons rfl Args.nil) (CallR.nil (bset_Not_T K e_117)) ?_)
  refine sp rfl (OpT.alloc' rfl (dl rfl rfl) i24 rfl (fun b_118 => ?_))
  refine sp rfl (OpT.storeAggTo (i := 0) (cells' := (Arr4.oc .u64 v_116)) rfl rfl i24 rfl rfl rfl rfl (Nat.le_of_ble_eq_true rfl) rfl ?_)
  refine TL'.nil (thenS_normal ?_)
  refine T.seq ?_
  refine T.seq ?_
  refine T.regionL ?_
  refine mv rfl rfl rfl rfl rfl ?_
  refine sp rfl (OpT.lenSlM (xs := x0) (f := (Arr4.dc .u64)) rfl (dl rfl rfl) Tryd.underlying33 rfl ?_)
  refine mv rfl rfl rfl rfl rfl ?_
  refine TL'.nil (thenS_normal ?_)
  refine T.block ?_
  refine T.loop ?_
  refine TL.by_turn ?_ (bset_And_l0_T K K x0 (x0.length : Int) (0 : Int) (Arr4.mk 0 0 0 0) v_116 flx0 b_115 b_118 h)
  exact Turn.rp (.cons rfl (.cons rfl (.cons rfl (.cons rfl (.cons rfl (.nil _)))))) (.c (.s .z) (.c .z (.n _)))

abbrev bset_Fold_q (r : Arr4) : Exit → St → Prop := retS Tryd.prog Tryd.f16 (fun y t => y = (.agg (Arr4.dc .u64 r)) ∧ t = [.ro 0 deBruijnD])

abbrev bset_Fold_qs1111 (r : Arr4) : Exit → St → Prop := thenS (fun s' => T Tryd.prog 46 (Code.at [1, 1, 1, 1] (codeOf Tryd.f16)) s' ((bset_Fold_q r))) ((bset_Fold_q r))

abbrev bset_Fold_qb2x1111 (r : Arr4) : Exit → St → Prop := inBlockS 2 ((bset_Fold_qs1111 r))

abbrev bset_Fold_qs111 (r : Arr4) : Exit → St → Prop := thenS (fun s' => T Tryd.prog 46 (Code.at [1, 1, 1] (codeOf Tryd.f16)) s' ((bset_Fold_q r))) ((bset_Fold_q r))

abbrev bset_Fold_qb0x111 (r : Arr4) : Exit → St → Prop := inBlockS 0 ((bset_Fold_qs111 r))

theorem bset_Fold_l1_T {r : Arr4} (K : Nat) : ∀ (k : Nat), ∀ (x31_1_2 : List Int) (x32_1_3 : Int) (x33_1_4 : Int) (y2_0_1 : Arr4) (y3_1_1 : Arr4) (b2_1 : Nat) (b3_1 : Nat), bset_Fold_l1 K k x31_1_2 x32_1_3 x33_1_4 y2_0_1 y3_1_1 = some r → TL Tryd.prog 46 (Code.at [1, 1, 1, 0, 1, 0, 0] (codeOf Tryd.f16)) ⟨[(2, .ptr b2_1 0), (3, .ptr b3_1 0), (31, .sl false 1 (x31_1_2.map (cI .u8))), (32, .int .i64 x32_1_3), (33, .int .i64 x33_1_4)], [.box b2_1 24 (Arr4.oc .u64 y2_0_1), .box b3_1 24 (Arr4.oc .u64 y3_1_1), .ro 0 deBruijnD]⟩ (bset_Fold_qb2x1111 r) := by
  intro k
  induction k with
  | zero =>
    intro x31_1_2 x32_1_3 x33_1_4 y2_0_1 y3_1_1 b2_1 b3_1 h
    cases (show (none : Option Arr4) = some r from h)
  | succ k ih =>
    intro x31_1_2 x32_1_3 x33_1_4 y2_0_1 y3_1_1 b2_1 b3_1 h
    rw [bset_Fold_l1] at h
    refine TL.round ?_
    refine T.seq ?_
    refine T.regionL ?_
    refine sp rfl (OpT.int2 rfl rfl (dl rfl rfl) rfl rfl ?_)
    refine TL'.nil (thenS_normal ?_)
    refine T.seq ?_
    rcases bif_some h with ⟨c_466, h⟩ | ⟨c_466, h⟩
    · refine T.condT rfl c_466 ?_
      refine T.skip (thenS_normal ?_)
      refine T.seq ?_
      refine T.block ?_
      refine T.seq ?_
      refine T.regionL ?_
      obtain ⟨v_467, e_468, h⟩ := bind_some h
      refine sp rfl (OpT.indexSlM (xs := x31_1_2) (f := (cI .u8)) (v := v_467) rfl (dl rfl rfl) Tryd.underlying26 i5 rfl rfl e_468 ?_)
      refine sp rfl (OpT.loadRef rfl (dl rfl rfl) Tryd.underlying5 rfl rfl rfl ?_)
      refine asg rfl rfl rfl rfl rfl ?_
      refine TL'.nil (thenS_normal ?_)
      refine DG.start ?_
      refine DG.step (c := ⟨some 37, .agg (Arr4.dc .u64 y3_1_1), [(3, .ptr b3_1 0)], [(1, .box b3_1 24 (Arr4.oc .u64 y3_1_1))], []⟩) (fun t hm => One.step rfl (.free rfl) (OpT.loadBoxAgg (i := 1) (l := (Arr4.dc .u64 y3_1_1)) rfl (dl rfl rfl) Tryd.underlying24 rfl i24 hm.s0 hm.o0 rfl rfl rfl)) (Ct.met_of rfl rfl) ?_
      refine DG.mv rfl rfl rfl rfl rfl rfl ?_
      refine DG.step (c := ⟨some 39, .int .u8 (IntKind.u8.wrap (v_467 + (32 : Int))), [(38, .int .u8 v_467)], [], []⟩) (fun t hm => One.step rfl (.free rfl) (OpT.int2 rfl rfl (dl rfl rfl) hm.s0 rfl rfl)) (Ct.met_of rfl rfl) ?_
      refine DG.step (c := ⟨some 40, .sl true 1 ([(IntKind.u8.wrap (v_467 + (32 : Int)))].map (cI .u8)), [(39, .int .u8 (IntKind.u8.wrap (v_467 + (32 : Int))))], [], []⟩) (fun t hm => One.step rfl (.free rfl) (OpT.buildSlice (elems := ([(IntKind.u8.wrap (v_467 + (32 : Int)))] : List Int).map (cI .u8)) rfl (dl rfl rfl) Tryd.underlying26 i5 (by decide) rfl (all1 rfl) (parts_cons hm.s0 rfl parts_nil) rfl rfl (lenAll rfl) (by decide) rfl)) (Ct.met_of rfl rfl) ?_
      obtain ⟨v_474, e_475, h⟩ := bind_some h
      refine DG.step (c := ⟨some 41, .agg (Arr4.dc .u64 v_474), [(40, .sl true 1 ([(IntKind.u8.wrap (v_467 + (32 : Int)))].map (cI .u8)))], [], []⟩) (fun t hm => One.step rfl (.free rfl) (OpT.callPA rfl (dl rfl rfl) Tryd.func20 rfl rfl (Args.cons hm.s0 Args.nil) (CallR.nil (bset_Of_T K (flx0 := true) e_475)) rfl)) (Ct.met_of rfl rfl) ?_
      refine DG.step (c := ⟨some 42, .sl true 4 ([y3_1_1, v_474].map (Arr4.dc .u64)), [(37, .agg (Arr4.dc .u64 y3_1_1)), (41, .agg (Arr4.dc .u64 v_474))], [], []⟩) (fun t hm => One.step rfl (.free rfl) (OpT.buildSlice (elems := ([y3_1_1, v_474] : List Arr4).map (Arr4.dc .u64)) rfl (dl rfl rfl) Tryd.underlying33 i24 (by decide) rfl (all1 rfl) (parts_cons hm.s0 rfl (parts_cons hm.s1 rfl parts_nil)) rfl rfl (lenAll rfl) (by decide) rfl)) (Ct.met_of rfl rfl) ?_
      obtain ⟨v_476, e_477, h⟩ := bind_some h
      refine DG.step (c := ⟨some 43, .agg (Arr4.dc .u64 v_476), [(42, .sl true 4 ([y3_1_1, v_474].map (Arr4.dc .u64)))], [], []⟩) (fun t hm => One.step rfl (.free rfl) (OpT.callPA rfl (dl rfl rfl) Tryd.func19 rfl rfl (Args.cons hm.s0 Args.nil) (CallR.nil (bset_Or_T K (flx0 := true) e_477)) rfl)) (Ct.met_of rfl rfl) ?_
      refine DG.step (c := ⟨none, .any, [(3, .ptr b3_1 0), (43, .agg (Arr4.dc .u64 v_476))], [(1, .box b3_1 24 (Arr4.oc .u64 y3_1_1))], [(1, .box b3_1 24 (Arr4.oc .u64 v_476))]⟩) (fun t hm => One.step rfl (.free rfl) (OpT.storeAggTo (i := 1) (cells' := (Arr4.oc .u64 v_476)) rfl rfl i24 hm.s0 hm.s1 rfl hm.o0 (Nat.le_of_ble_eq_true rfl) rfl rfl)) (Ct.met_of rfl rfl) ?_
      refine DG.fin (s1 := ⟨[(2, .ptr b2_1 0), (3, .ptr b3_1 0), (31, .sl false 1 (x31_1_2.map (cI .u8))), (32, .int .i64 x32_1_3), (33, .int .i64 x33_1_4)], [.box b2_1 24 (Arr4.oc .u64 y2_0_1), .box b3_1 24 (Arr4.oc .u64 v_476), .ro 0 deBruijnD]⟩) (ms := [0, 0, 2, 6, 14, 31, 63, 127]) TrydMixed rfl (by kernel_rfl) (by kernel_rfl) (by kernel_rfl) (.cons rfl (.cons rfl (.cons rfl (.cons rfl (.cons rfl (.nil _)))))) rfl (fun u hu => (inBlock_normal (thenS_normal (T.by_turn hu ?_))))
      refine T.regionL ?_
      refine sp rfl (OpT.int2 rfl rfl (dl rfl rfl) rfl rfl ?_)
      refine mv rfl rfl rfl rfl rfl ?_
      refine TL'.nil (thenS_normal ?_)
      refine TL.by_turn ?_ (ih x31_1_2 x32_1_3 (IntKind.i64.wrap (x33_1_4 + (1 : Int))) y2_0_1 v_476 b2_1 b3_1 h)
      exact Turn.rp (.cons rfl (.cons rfl (.cons rfl (.cons rfl (.cons rfl (.nil _)))))) (.c .z (.c .z (.c .z (.n _))))
    · refine T.condF rfl c_466 ?_
      refine T.exit (thenS_exit (thenS_exit (inBlock_exit (thenS_normal ?_))))
      refine T.seq ?_
      refine T.regionL ?_
      refine sp rfl (OpT.loadBoxAgg (i := 1) (l := (Arr4.dc .u64 y3_1_1)) rfl (dl rfl rfl) Tryd.underlying24 rfl i24 rfl rfl rfl rfl ?_)
      refine sp rfl (OpT.storeAggTo (i := 0) (cells' := (Arr4.oc .u64 y3_1_1)) rfl rfl i24 rfl rfl rfl rfl (Nat.le_of_ble_eq_true rfl) rfl ?_)
      refine TL'.nil (thenS_normal ?_)
      refine T.ret ?_
      exact Fin.doneK (.cons _ _ _ _ (.cellAgg 2 24 _ 0 0 24 _ (Arr4.dc .u64 y3_1_1) _ _ 4 _ rfl rfl rfl rfl Tryd.underlying24 rfl i24) .nil) (.cons 2 rfl (.nil _)) (by cases h; exact ⟨rfl, rfl⟩)

theorem bset_Fold_l0_T {r : Arr4} (K : Nat) : ∀ (k : Nat), ∀ (x13_0_3 : List Int) (x14_0_4 : Int) (x15_0_5 : Int) (x0 : Arr4) (y2_0_1 : Arr4) (y3_0_2 : Arr4) (b1_0 : Nat) (b2_0 : Nat) (b3_0 : Nat), bset_Fold_l0 K k x13_0_3 x14_0_4 x15_0_5 x0 y2_0_1 y3_0_2 = some r → TL Tryd.prog 46 (Code.at [1, 1, 0, 1, 0, 0] (codeOf Tryd.f16)) ⟨[(1, .ptr b1_0 0), (2, .ptr b2_0 0), (3, .ptr b3_0 0), (13, .sl false 1 (x13_0_3.map (cI .u8))), (14, .int .i64 x14_0_4), (15, .int .i64 x15_0_5)], [.box b1_0 24 (Arr4.oc .u64 x0), .box b2_0 24 (Arr4.oc .u64 y2_0_1), .box b3_0 24 (Arr4.oc .u64 y3_0_2), .ro 0 deBruijnD]⟩ (bset_Fold_qb0x111 r) := by
  intro k
  induction k with
  | zero =>
    intro x13_0_3 x14_0_4 x15_0_5 x0 y2_0_1 y3_0_2 b1_0 b2_0 b3_0 h
    cases (show (none : Option Arr4) = some r from h)
  | succ k ih =>
    intro x13_0_3 x14_0_4 x15_0_5 x0 y2_0_1 y3_0_2 b1_0 b2_0 b3_0 h
    rw [bset_Fold_l0] at h
    refine TL.round ?_
    refine T.seq ?_
    refine T.regionL ?_
    refine sp rfl (OpT.int2 rfl rfl (dl rfl rfl) rfl rfl ?_)
    refine TL'.nil (thenS_normal ?_)
    refine T.seq ?_
    rcases bif_some h with ⟨c_441, h⟩ | ⟨c_441, h⟩
    · refine T.condT rfl c_441 ?_
      refine T.skip (thenS_normal ?_)
      refine T.seq ?_
      refine T.block ?_
      refine T.seq ?_
      refine T.regionL ?_
      obtain ⟨v_442, e_443, h⟩ := bind_some h
      refine sp rfl (OpT.indexSlM (xs := x13_0_3) (f := (cI .u8)) (v := v_442) rfl (dl rfl rfl) Tryd.underlying26 i5 rfl rfl e_443 ?_)
      refine sp rfl (OpT.loadRef rfl (dl rfl rfl) Tryd.underlying5 rfl rfl rfl ?_)
      refine asg rfl rfl rfl rfl rfl ?_
      refine TL'.nil (thenS_normal ?_)
      refine DG.start ?_
      refine DG.step (c := ⟨some 19, .agg (Arr4.dc .u64 y3_0_2), [(3, .ptr b3_0 0)], [(2, .box b3_0 24 (Arr4.oc .u64 y3_0_2))], []⟩) (fun t hm => One.step rfl (.free rfl) (OpT.loadBoxAgg (i := 2) (l := (Arr4.dc .u64 y3_0_2)) rfl (dl rfl rfl) Tryd.underlying24 rfl i24 hm.s0 hm.o0 rfl rfl rfl)) (Ct.met_of rfl rfl) ?_
      refine DG.mv rfl rfl rfl rfl rfl rfl ?_
      refine DG.step (c := ⟨some 21, .int .u8 (IntKind.u8.wrap (v_442 - (32 : Int))), [(20, .int .u8 v_442)], [], []⟩) (fun t hm => One.step rfl (.free rfl) (OpT.int2 rfl rfl (dl rfl rfl) hm.s0 rfl rfl)) (Ct.met_of rfl rfl) ?_
      refine DG.step (c := ⟨some 22, .sl true 1 ([(IntKind.u8.wrap (v_442 - (32 : Int)))].map (cI .u8)), [(21, .int .u8 (IntKind.u8.wrap (v_442 - (32 : Int))))], [], []⟩) (fun t hm => One.step rfl (.free rfl) (OpT.buildSlice (elems := ([(IntKind.u8.wrap (v_442 - (32 : Int)))] : List Int).map (cI .u8)) rfl (dl rfl rfl) Tryd.underlying26 i5 (by decide) rfl (all1 rfl) (parts_cons hm.s0 rfl parts_nil) rfl rfl (lenAll rfl) (by decide) rfl)) (Ct.met_of rfl rfl) ?_
      obtain ⟨v_449, e_450, h⟩ := bind_some h
      refine DG.step (c := ⟨some 23, .agg (Arr4.dc .u64 v_449), [(22, .sl true 1 ([(IntKind.u8.wrap (v_442 - (32 : Int)))].map (cI .u8)))], [], []⟩) (fun t hm => One.step rfl (.free rfl) (OpT.callPA rfl (dl rfl rfl) Tryd.func20 rfl rfl (Args.cons hm.s0 Args.nil) (CallR.nil (bset_Of_T K (flx0 := true) e_450)) rfl)) (Ct.met_of rfl rfl) ?_
      refine DG.step (c := ⟨some 24, .sl true 4 ([y3_0_2, v_449].map (Arr4.dc .u64)), [(19, .agg (Arr4.dc .u64 y3_0_2)), (23, .agg (Arr4.dc .u64 v_449))], [], []⟩) (fun t hm => One.step rfl (.free rfl) (OpT.buildSlice (elems := ([y3_0_2, v_449] : List Arr4).map (Arr4.dc .u64)) rfl (dl rfl rfl) Tryd.underlying33 i24 (by decide) rfl (all1 rfl) (parts_cons hm.s0 rfl (parts_cons hm.s1 rfl parts_nil)) rfl rfl (lenAll rfl) (by decide) rfl)) (Ct.met_of rfl rfl) ?_
      obtain ⟨v_451, e_452, h⟩ := bind_some h
      refine DG.step (c := ⟨some 25, .agg (Arr4.dc .u64 v_451), [(24, .sl true 4 ([y3_0_2, v_449].map (Arr4.dc .u64)))], [], []⟩) (fun t hm => One.step rfl (.free rfl) (OpT.callPA rfl (dl rfl rfl) Tryd.func19 rfl rfl (Args.cons hm.s0 Args.nil) (CallR.nil (bset_Or_T K (flx0 := true) e_452)) rfl)) (Ct.met_of rfl rfl) ?_
      refine DG.step (c := ⟨none, .any, [(3, .ptr b3_0 0), (25, .agg (Arr4.dc .u64 v_451))], [(2, .box b3_0 24 (Arr4.oc .u64 y3_0_2))], [(2, .box b3_0 24 (Arr4.oc .u64 v_451))]⟩) (fun t hm => One.step rfl (.free rfl) (OpT.storeAggTo (i := 2) (cells' := (Arr4.oc .u64 v_451)) rfl rfl i24 hm.s0 hm.s1 rfl hm.o0 (Nat.le_of_ble_eq_true rfl) rfl rfl)) (Ct.met_of rfl rfl) ?_
      refine DG.fin (s1 := ⟨[(1, .ptr b1_0 0), (2, .ptr b2_0 0), (3, .ptr b3_0 0), (13, .sl false 1 (x13_0_3.map (cI .u8))), (14, .int .i64 x14_0_4), (15, .int .i64 x15_0_5)], [.box b1_0 24 (Arr4.oc .u64 x0), .box b2_0 24 (Arr4.oc .u64 y2_0_1), .box b3_0 24 (Arr4.oc .u64 v_451), .ro 0 deBruijnD]⟩) (ms := [0, 0, 2, 6, 14, 31, 63, 127]) TrydMixed rfl (by kernel_rfl) (by kernel_rfl) (by kernel_rfl) (.cons rfl (.cons rfl (.cons rfl (.cons rfl (.cons rfl (.cons rfl (.nil _))))))) rfl (fun u hu => (inBlock_normal (thenS_normal (T.by_turn hu ?_))))
      refine T.regionL ?_
      refine sp rfl (OpT.int2 rfl rfl (dl rfl rfl) rfl rfl ?_)
      refine mv rfl rfl rfl rfl rfl ?_
      refine TL'.nil (thenS_normal ?_)
      refine TL.by_turn ?_ (ih x13_0_3 x14_0_4 (IntKind.i64.wrap (x15_0_5 + (1 : Int))) x0 y2_0_1 v_451 b1_0 b2_0 b3_0 h)
      exact Turn.rp (.cons rfl (.cons rfl (.cons rfl (.cons rfl (.cons rfl (.cons rfl (.nil _))))))) (.c .z (.c .z (.c .z (.c .z (.n _)))))
    · refine T.condF rfl c_441 ?_
      refine T.exit (thenS_exit (thenS_exit (inBlock_exit (thenS_normal ?_))))
      refine T.seq ?_
      refine T.seq ?_
      refine DG.start ?_
      refine DG.step (c := ⟨some 27, .agg (Arr4.dc .u64 x0), [(1, .ptr b1_0 0)], [(0, .box b1_0 24 (Arr4.oc .u64 x0))], []⟩) (fun t hm => One.step rfl (.free rfl) (OpT.loadBoxAgg (i := 0) (l := (Arr4.dc .u64 x0)) rfl (dl rfl rfl) Tryd.underlying24 rfl i24 hm.s0 hm.o0 rfl rfl rfl)) (Ct.met_of rfl rfl) ?_
      obtain ⟨v_460, e_461, h⟩ := bind_some h
      refine DG.step (c := ⟨some 28, .agg (Arr4.dc .u64 v_460), [], [], []⟩) (fun t hm => One.step rfl (.free rfl) (OpT.callPA rfl (dl rfl rfl) Tryd.func18 rfl rfl (Args.cons rfl (Args.cons rfl Args.nil)) (CallR.nil (bset_Range_T K e_461)) rfl)) (Ct.met_of rfl rfl) ?_
      refine DG.step (c := ⟨some 29, .sl true 4 ([x0, v_460].map (Arr4.dc .u64)), [(27, .agg (Arr4.dc .u64 x0)), (28, .agg (Arr4.dc .u64 v_460))], [], []⟩) (fun t hm => One.step rfl (.free rfl) (OpT.buildSlice (elems := ([x0, v_460] : List Arr4).map (Arr4.dc .u64)) rfl (dl rfl rfl) Tryd.underlying33 i24 (by decide) rfl (all1 rfl) (parts_cons hm.s0 rfl (parts_cons hm.s1 rfl parts_nil)) rfl rfl (lenAll rfl) (by decide) rfl)) (Ct.met_of rfl rfl) ?_
      obtain ⟨v_462, e_463, h⟩ := bind_some h
      refine DG.step (c := ⟨some 30, .agg (Arr4.dc .u64 v_462), [(29, .sl true 4 ([x0, v_460].map (Arr4.dc .u64)))], [], []⟩) (fun t hm => One.step rfl (.free rfl) (OpT.callPA rfl (dl rfl rfl) Tryd.func21 rfl rfl (Args.cons hm.s0 Args.nil) (CallR.nil (bset_And_T K (flx0 := true) e_463)) rfl)) (Ct.met_of rfl rfl) ?_
      obtain ⟨v_464, e_465, h⟩ := bind_some h
      refine DG.step (c := ⟨some 31, .sl false 1 (v_464.map (cI .u8)), [(30, .agg (Arr4.dc .u64 v_462))], [(3, .ro 0 deBruijnD)], []⟩) (fun t hm => One.step rfl (.free rfl) (OpT.callRoA rfl (dl rfl rfl) Tryd.func11 rfl rfl (Args.cons hm.s0 Args.nil) (.cons 3 hm.o0 (.nil)) (bset_List_T K e_465) rfl)) (Ct.met_of rfl rfl) ?_
      refine DG.step (c := ⟨some 32, .int .i64 (v_464.length : Int), [(31, .sl false 1 (v_464.map (cI .u8)))], [], []⟩) (fun t hm => One.step rfl (.free rfl) (OpT.lenSlM (xs := v_464) (f := (cI .u8)) rfl (dl rfl rfl) Tryd.underlying26 hm.s0 rfl)) (Ct.met_of rfl rfl) ?_
      refine DG.step (c := ⟨some 33, .int .i64 (0 : Int), [], [], []⟩) (fun t hm => One.step rfl (.free rfl) (OpT.move rfl (dl rfl rfl) rfl rfl)) (Ct.met_of rfl rfl) ?_
      refine DG.fin (s1 := ⟨[(2, .ptr b2_0 0), (3, .ptr b3_0 0), (31, .sl false 1 (v_464.map (cI .u8))), (32, .int .i64 (v_464.length : Int)), (33, .int .i64 (0 : Int))], [.box b1_0 24 (Arr4.oc .u64 x0), .box b2_0 24 (Arr4.oc .u64 y2_0_1), .box b3_0 24 (Arr4.oc .u64 y3_0_2), .ro 0 deBruijnD]⟩) (ms := [0, 0, 3, 7, 15, 31, 0]) TrydMixed rfl (by kernel_rfl) (by kernel_rfl) (by kernel_rfl) (.cons rfl (.cons rfl (.cons rfl (.cons rfl (.cons rfl (.nil _)))))) rfl (fun u hu => (thenS_normal (T.by_turn hu ?_)))
      refine T.block ?_
      refine T.loop ?_
      refine TL.by_turn ?_ (bset_Fold_l1_T K K v_464 (v_464.length : Int) (0 : Int) y2_0_1 y3_0_2 b2_0 b3_0 h)
      exact Turn.rp (.cons rfl (.cons rfl (.cons rfl (.cons rfl (.cons rfl (.nil _)))))) (.c (.s .z) (.c (.s .z) (.c (.s .z) (.n _))))

theorem bset_Fold_T (K : Nat) {x0 : Arr4} {r : Arr4} (h : bset_Fold K x0 = some r) : CallR Tryd.prog 16 [.agg (Arr4.dc .u64 x0)] [.ro 0 deBruijnD] (.agg (Arr4.dc .u64 r)) := by
  refine CallT.intro Tryd.func16 rfl (Nat.le_of_ble_eq_true rfl) ?_
  show T Tryd.prog 46 (Code.at [] (codeOf Tryd.f16)) ⟨paramSlots 0 [.agg (Arr4.dc .u64 x0)], [.ro 0 deBruijnD]⟩ (bset_Fold_q r)
  unfold bset_Fold at h
  refine T.seq ?_
  refine T.regionL ?_
  refine sp rfl (OpT.boxAgg rfl (dl rfl rfl) rfl (fun b_425 => ?_))
  refine sp rfl (OpT.alloc' rfl (dl rfl rfl) i24 rfl (fun b_426 => ?_))
  refine TL'.nil (thenS_normal ?_)
  refine T.seq ?_
  refine T.regionL ?_
  refine sp rfl (OpT.loadBoxAgg (i := 1) (l := (Arr4.dc .u64 x0)) rfl (dl rfl rfl) Tryd.underlying24 rfl i24 rfl rfl rfl rfl ?_)
  refine sp rfl (OpT.alloc' rfl (dl rfl rfl) i24 rfl (fun b_427 => ?_))
  refine sp rfl (OpT.storeAggTo (i := 0) (cells' := (Arr4.oc .u64 x0)) rfl rfl i24 rfl rfl rfl rfl (Nat.le_of_ble_eq_true rfl) rfl ?_)
  refine TL'.nil (thenS_normal ?_)
  refine T.seq ?_
  refine T.seq ?_
  refine DG.start ?_
  refine DG.step (c := ⟨some 9, .agg (Arr4.dc .u64 x0), [(1, .ptr b_425 0)], [(2, .box b_425 24 (Arr4.oc .u64 x0))], []⟩) (fun t hm => One.step rfl (.free rfl) (OpT.loadBoxAgg (i := 2) (l := (Arr4.dc .u64 x0)) rfl (dl rfl rfl) Tryd.underlying24 rfl i24 hm.s0 hm.o0 rfl rfl rfl)) (Ct.met_of rfl rfl) ?_
  obtain ⟨v_435, e_436, h⟩ := bind_some h
  refine DG.step (c := ⟨some 10, .agg (Arr4.dc .u64 v_435), [], [], []⟩) (fun t hm => One.step rfl (.free rfl) (OpT.callPA rfl (dl rfl rfl) Tryd.func18 rfl rfl (Args.cons rfl (Args.cons rfl Args.nil)) (CallR.nil (bset_Range_T K e_436)) rfl)) (Ct.met_of rfl rfl) ?_
  refine DG.step (c := ⟨some 11, .sl true 4 ([x0, v_435].map (Arr4.dc .u64)), [(9, .agg (Arr4.dc .u64 x0)), (10, .agg (Arr4.dc .u64 v_435))], [], []⟩) (fun t hm => One.step rfl (.free rfl) (OpT.buildSlice (elems := ([x0, v_435] : List Arr4).map (Arr4.dc .u64)) rfl (dl rfl rfl) Tryd.underlying33 i24 (by decide) rfl (all1 rfl) (parts_cons hm.s0 rfl (parts_cons hm.s1 rfl parts_nil)) rfl rfl (lenAll rfl) (by decide) rfl)) (Ct.met_of rfl rfl) ?_
  obtain ⟨v_437, e_438, h⟩ := bind_some h
  refine DG.step (c := ⟨some 12, .agg (Arr4.dc .u64 v_437), [(11, .sl true 4 ([x0, v_435].map (Arr4.dc .u64)))], [], []⟩) (fun t hm => One.step rfl (.free rfl) (OpT.callPA rfl (dl rfl rfl) Tryd.func21 rfl rfl (Args.cons hm.s0 Args.nil) (CallR.nil (bset_And_T K (flx0 := true) e_438)) rfl)) (Ct.met_of rfl rfl) ?_
  obtain ⟨v_439, e_440, h⟩ := bind_some h
  refine DG.step (c := ⟨some 13, .sl false 1 (v_439.map (cI .u8)), [(12, .agg (Arr4.dc .u64 v_437))], [(3, .ro 0 deBruijnD)], []⟩) (fun t hm => One.step rfl (.free rfl) (OpT.callRoA rfl (dl rfl rfl) Tryd.func11 rfl rfl (Args.cons hm.s0 Args.nil) (.cons 3 hm.o0 (.nil)) (bset_List_T K e_440) rfl)) (Ct.met_of rfl rfl) ?_
  refine DG.step (c := ⟨some 14, .int .i64 (v_439.length : Int), [(13, .sl false 1 (v_439.map (cI .u8)))], [], []⟩) (fun t hm => One.step rfl (.free rfl) (OpT.lenSlM (xs := v_439) (f := (cI .u8)) rfl (dl rfl rfl) Tryd.underlying26 hm.s0 rfl)) (Ct.met_of rfl rfl) ?_
  refine DG.step (c := ⟨some 15, .int .i64 (0 : Int), [], [], []⟩) (fun t hm => One.step rfl (.free rfl) (OpT.move rfl (dl rfl rfl) rfl rfl)) (Ct.met_of rfl rfl) ?_
  refine DG.fin (s1 := ⟨[(1, .ptr b_425 0), (2, .ptr b_426 0), (3, .ptr b_427 0), (13, .sl false 1 (v_439.map (cI .u8))), (14, .int .i64 (v_439.length : Int)), (15, .int .i64 (0 : Int))], [.box b_427 24 (Arr4.oc .u64 x0), .box b_426 24 (Arr4.oc .u64 (Arr4.mk 0 0 0 0)), .box b_425 24 (Arr4.oc .u64 x0), .ro 0 deBruijnD]⟩) (ms := [0, 0, 3, 7, 15, 31, 0]) TrydMixed rfl (by kernel_rfl) (by kernel_rfl) (by kernel_rfl) (.cons rfl (.cons rfl (.cons rfl (.cons rfl (.cons rfl (.cons rfl (.nil _))))))) rfl (fun u hu => (thenS_normal (T.by_turn hu ?_)))
  refine T.block ?_
  refine T.loop ?_
  refine TL.by_turn ?_ (bset_Fold_l0_T K K v_439 (v_439.length : Int) (0 : Int) x0 (Arr4.mk 0 0 0 0) x0 b_425 b_426 b_427 h)
  exact Turn.rp (.cons rfl (.cons rfl (.cons rfl (.cons rfl (.cons rfl (.cons rfl (.nil _))))))) (.c (.s (.s .z)) (.c (.s .z) (.c .z (.c .z (.n _)))))

abbrev raddlelaw01_shown_q (r : Bool) : Exit → St → Prop := retS Tryd.prog Tryd.f10 (fun y t => y = (.bool r) ∧ t = [.ro 0 deBruijnD])

theorem raddlelaw01_shown_T (K : Nat) {r : Bool} (h : raddlelaw01_shown K = some r) : CallR Tryd.prog 10 [] [.ro 0 deBruijnD] (.bool r) := by
  refine CallT.intro Tryd.func10 rfl (Nat.le_of_ble_eq_true rfl) ?_
  show T Tryd.prog 27 (Code.at [] (codeOf Tryd.f10)) ⟨paramSlots 0 [], [.ro 0 deBruijnD]⟩ (raddlelaw01_shown_q r)
  unfold raddlelaw01_shown at h
  refine T.seq ?_
  refine T.regionL ?_
  refine asg rfl rfl rfl rfl rfl ?_
  refine TL'.nil (thenS_normal ?_)
  refine T.seq ?_
  refine T.regionL ?_
  obtain ⟨v_85, e_86, h⟩ := bind_some h
  refine sp rfl (OpT.callPA rfl (dl rfl rfl) Tryd.func18 rfl rfl (Args.cons rfl (Args.cons rfl Args.nil)) (CallR.nil (bset_Range_T K e_86)) ?_)
  refine sp rfl (OpT.buildSlice (elems := ([(122 : Int)] : List Int).map (cI .u8)) rfl (dl rfl rfl) Tryd.underlying26 i5 (by decide) rfl (all1 rfl) rfl rfl rfl (lenAll rfl) (by decide) ?_)
  obtain ⟨v_87, e_88, h⟩ := bind_some h
  refine sp rfl (OpT.callPA rfl (dl rfl rfl) Tryd.func20 rfl rfl (Args.cons rfl Args.nil) (CallR.nil (bset_Of_T K (flx0 := true) e_88)) ?_)
  refine sp rfl (OpT.buildSlice (elems := ([v_85, v_87] : List Arr4).map (Arr4.dc .u64)) rfl (dl rfl rfl) Tryd.underlying33 i24 (by decide) rfl (all1 rfl) rfl rfl rfl (lenAll rfl) (by decide) ?_)
  obtain ⟨v_89, e_90, h⟩ := bind_some h
  refine sp rfl (OpT.callPA rfl (dl rfl rfl) Tryd.func19 rfl rfl (Args.cons rfl Args.nil) (CallR.nil (bset_Or_T K (flx0 := true) e_90)) ?_)
  refine sp rfl (OpT.alloc' rfl (dl rfl rfl) i24 rfl (fun b_91 => ?_))
  refine sp rfl (OpT.storeAggTo (i := 0) (cells' := (Arr4.oc .u64 v_89)) rfl rfl i24 rfl rfl rfl rfl (Nat.le_of_ble_eq_true rfl) rfl ?_)
  refine TL'.nil (thenS_normal ?_)
  refine T.seq ?_
  refine T.regionL ?_
  refine sp rfl (OpT.loadBoxAgg (i := 0) (l := (Arr4.dc .u64 v_89)) rfl (dl rfl rfl) Tryd.underlying24 rfl i24 rfl rfl rfl rfl ?_)
  obtain ⟨v_92, e_93, h⟩ := bind_some h
  refine sp rfl (OpT.callRoA rfl (dl rfl rfl) Tryd.func11 rfl rfl (Args.cons rfl Args.nil) (.cons 1 rfl (.nil)) (bset_List_T K e_93) ?_)
  refine sp rfl (OpT.convBytes (xs := v_92) rfl (dl rfl rfl) Tryd.underlying26 Tryd.underlying5 Tryd.underlying9 rfl ?_)
  refine sp rfl (OpT.str_eql rfl (dl rfl rfl) rfl rfl ?_)
  refine mv rfl rfl rfl rfl rfl ?_
  rcases bif_some h with ⟨c_94, h⟩ | ⟨c_94, h⟩
  · refine TL'.step (.on rfl rfl rfl c_94) (OpT.loadBoxAgg (i := 0) (l := (Arr4.dc .u64 v_89)) rfl (dl rfl rfl) Tryd.underlying24 rfl i24 rfl rfl rfl rfl ?_)
    obtain ⟨v_95, e_96, h⟩ := bind_some h
    refine TL'.step (.on rfl rfl rfl c_94) (OpT.callRoA rfl (dl rfl rfl) Tryd.func14 rfl rfl (Args.cons rfl Args.nil) (.cons 1 rfl (.nil)) (bset_Spans_T K e_96) ?_)
    refine TL'.step (.on rfl rfl rfl c_94) (OpT.build (l := (Arr2.dc .u8 (Arr2.mk (97 : Int) (99 : Int)))) rfl (dl rfl rfl) (built_arr Tryd.underlying34 i34 i5) (all1 rfl) rfl rfl ?_)
    refine TL'.step (.on rfl rfl rfl c_94) (OpT.build (l := (Arr2.dc .u8 (Arr2.mk (122 : Int) (122 : Int)))) rfl (dl rfl rfl) (built_arr Tryd.underlying34 i34 i5) (all1 rfl) rfl rfl ?_)
    refine TL'.step (.on rfl rfl rfl c_94) (OpT.buildSlice (elems := ([(Arr2.mk (97 : Int) (99 : Int)), (Arr2.mk (122 : Int) (122 : Int))] : List Arr2).map (Arr2.dc .u8)) rfl (dl rfl rfl) Tryd.underlying29 i34 (by decide) rfl (all1 rfl) rfl rfl rfl (lenAll rfl) (by decide) ?_)
    obtain ⟨v_97, e_98, h⟩ := bind_some h
    refine TL'.step (.on rfl rfl rfl c_94) (OpT.callPA rfl (dl rfl rfl) Tryd.func13 rfl rfl (Args.cons rfl (Args.cons rfl Args.nil)) (CallR.nil (raddlelaw01_spans_T K (flx0 := false) (flx1 := true) e_98)) ?_)
    refine sp rfl (OpT.pickT rfl (dl rfl rfl) rfl c_94 rfl ?_)
    refine mv rfl rfl rfl rfl rfl ?_
    rcases bif_some h with ⟨c_99, h⟩ | ⟨c_99, h⟩
    · refine TL'.step (.on rfl rfl rfl c_99) (OpT.buildSlice (elems := ([(97 : Int)] : List Int).map (cI .u8)) rfl (dl rfl rfl) Tryd.underlying26 i5 (by decide) rfl (all1 rfl) rfl rfl rfl (lenAll rfl) (by decide) ?_)
      obtain ⟨v_100, e_101, h⟩ := bind_some h
      refine TL'.step (.on rfl rfl rfl c_99) (OpT.callPA rfl (dl rfl rfl) Tryd.func20 rfl rfl (Args.cons rfl Args.nil) (CallR.nil (bset_Of_T K (flx0 := true) e_101)) ?_)
      obtain ⟨v_102, e_103, h⟩ := bind_some h
      refine TL'.step (.on rfl rfl rfl c_99) (OpT.callRoA rfl (dl rfl rfl) Tryd.func16 rfl rfl (Args.cons rfl Args.nil) (.cons 1 rfl (.nil)) (bset_Fold_T K e_103) ?_)
      refine TL'.step (.on rfl rfl rfl c_99) (OpT.buildSlice (elems := ([(65 : Int), (97 : Int)] : List Int).map (cI .u8)) rfl (dl rfl rfl) Tryd.underlying26 i5 (by decide) rfl (all1 rfl) rfl rfl rfl (lenAll rfl) (by decide) ?_)
      obtain ⟨v_104, e_105, h⟩ := bind_some h
      refine TL'.step (.on rfl rfl rfl c_99) (OpT.callPA rfl (dl rfl rfl) Tryd.func20 rfl rfl (Args.cons rfl Args.nil) (CallR.nil (bset_Of_T K (flx0 := true) e_105)) ?_)
      refine TL'.step (.on rfl rfl rfl c_99) (OpT.intsEql (k := .u64) (xs := [v_102.a0, v_102.a1, v_102.a2, v_102.a3]) (ys := [v_104.a0, v_104.a1, v_104.a2, v_104.a3]) rfl (dl rfl rfl) Tryd.underlying24 Tryd.underlying22 i22 Tryd.eqGuardType24 rfl rfl rfl rfl rfl rfl (Arr4.same_eq v_102 v_104) ?_)
      refine sp rfl (OpT.pickT rfl (dl rfl rfl) rfl c_99 rfl ?_)
      refine asg rfl rfl rfl rfl rfl ?_
      refine TL'.nil (thenS_normal ?_)
      refine T.ret ?_
      exact Fin.doneK (.cons _ _ _ _ (.tmp 0 _ rfl) .nil) (.cons 1 rfl (.nil _)) (by cases h; exact ⟨rfl, rfl⟩)
    · refine TL'.passU (.off _ _ _ _ rfl rfl rfl c_99) (dl rfl rfl) ?_
      refine TL'.passU (.off _ _ _ _ rfl rfl rfl c_99) (dl rfl rfl) ?_
      refine TL'.passU (.off _ _ _ _ rfl rfl rfl c_99) (dl rfl rfl) ?_
      refine TL'.passU (.off _ _ _ _ rfl rfl rfl c_99) (dl rfl rfl) ?_
      refine TL'.passU (.off _ _ _ _ rfl rfl rfl c_99) (dl rfl rfl) ?_
      refine TL'.passU (.off _ _ _ _ rfl rfl rfl c_99) (dl rfl rfl) ?_
      refine sp rfl (OpT.pickF rfl (dl rfl rfl) rfl c_99 rfl ?_)
      refine asg rfl rfl rfl rfl rfl ?_
      refine TL'.nil (thenS_normal ?_)
      refine T.ret ?_
      exact Fin.doneK (.cons _ _ _ _ (.tmp 0 _ rfl) .nil) (.cons 1 rfl (.nil _)) (by cases h; exact ⟨rfl, rfl⟩)
  · refine TL'.passU (.off _ _ _ _ rfl rfl rfl c_94) (dl rfl rfl) ?_
    refine TL'.passU (.off _ _ _ _ rfl rfl rfl c_94) (dl rfl rfl) ?_
    refine TL'.passU (.off _ _ _ _ rfl rfl rfl c_94) (dl rfl rfl) ?_
    refine TL'.passU (.off _ _ _ _ rfl rfl rfl c_94) (dl rfl rfl) ?_
    refine TL'.passU (.off _ _ _ _ rfl rfl rfl c_94) (dl rfl rfl) ?_
    refine TL'.passU (.off _ _ _ _ rfl rfl rfl c_94) (dl rfl rfl) ?_
    refine sp rfl (OpT.pickF rfl (dl rfl rfl) rfl c_94 rfl ?_)
    refine mv rfl rfl rfl rfl rfl ?_
    refine TL'.passU (.off _ _ _ _ rfl rfl rfl rfl) (dl rfl rfl) ?_
    refine TL'.passU (.off _ _ _ _ rfl rfl rfl rfl) (dl rfl rfl) ?_
    refine TL'.passU (.off _ _ _ _ rfl rfl rfl rfl) (dl rfl rfl) ?_
    refine TL'.passU (.off _ _ _ _ rfl rfl rfl rfl) (dl rfl rfl) ?_
    refine TL'.passU (.off _ _ _ _ rfl rfl rfl rfl) (dl rfl rfl) ?_
    refine TL'.passU (.off _ _ _ _ rfl rfl rfl rfl) (dl rfl rfl) ?_
    refine sp rfl (OpT.pickF rfl (dl rfl rfl) rfl rfl rfl ?_)
    refine asg rfl rfl rfl rfl rfl ?_
    refine TL'.nil (thenS_normal ?_)
    refine T.ret ?_
    exact Fin.doneK (.cons _ _ _ _ (.tmp 0 _ rfl) .nil) (.cons 1 rfl (.nil _)) (by cases h; exact ⟨rfl, rfl⟩)

abbrev bset_Has_q (r : Bool) : Exit → St → Prop := retS Tryd.prog Tryd.f30 (fun y t => y = (.bool r) ∧ t = [])

theorem bset_Has_T (K : Nat) {x0 : Arr4} {x1 : Int} {r : Bool} (h : bset_Has K x0 x1 = some r) : CallR Tryd.prog 30 [.agg (Arr4.dc .u64 x0), .int .u8 x1] [] (.bool r) := by
  refine CallT.intro Tryd.func30 rfl (Nat.le_of_ble_eq_true rfl) ?_
  show T Tryd.prog 14 (Code.at [] (codeOf Tryd.f30)) ⟨paramSlots 0 [.agg (Arr4.dc .u64 x0), .int .u8 x1], []⟩ (bset_Has_q r)
  unfold bset_Has at h
  refine T.seq ?_
  refine T.regionL ?_
  refine sp rfl (OpT.boxAgg rfl (dl rfl rfl) rfl (fun b_10 => ?_))
  refine asg rfl rfl rfl rfl rfl ?_
  refine TL'.nil (thenS_normal ?_)
  refine T.seq ?_
  refine T.regionL ?_
  refine mv rfl rfl rfl rfl rfl ?_
  refine sp rfl (OpT.quo rfl (dl rfl rfl) rfl rfl (by decide) ?_)
  obtain ⟨g_11, h⟩ := ck_some h
  refine sp rfl (OpT.indexPtr rfl (dl rfl rfl) Tryd.underlying24 i22 rfl rfl g_11.1 g_11.2 ?_)
  refine sp rfl (OpT.loadBox (i := 0) rfl (dl rfl rfl) Tryd.underlying22 rfl rfl rfl (Arr4.oc_get (k := .u64) (a := x0) (pre := []) (post := []) g_11.1 g_11.2) ?_)
  refine mv rfl rfl rfl rfl rfl ?_
  refine sp rfl (OpT.rem rfl (dl rfl rfl) rfl rfl (by decide) ?_)
  obtain ⟨g_12, h⟩ := ck_some h
  refine sp rfl (OpT.shr rfl (dl rfl rfl) rfl rfl g_12 ?_)
  refine sp rfl (OpT.int2 rfl rfl (dl rfl rfl) rfl rfl ?_)
  refine sp rfl (OpT.int2 rfl rfl (dl rfl rfl) rfl rfl ?_)
  refine asg rfl rfl rfl rfl rfl ?_
  refine TL'.nil (thenS_normal ?_)
  refine T.ret ?_
  exact Fin.done (.cons _ _ _ _ (.tmp 4 _ rfl) .nil) (by cases h; exact ⟨rfl, rfl⟩)

abbrev bset_Of_i1_q (wx0 : Value) (x0 : List Int) (r : Arr4) : Exit → St → Prop := retS Tryd.prog Tryd.f20 (fun y t => ∃ γ : Nat → Value, y = (.agg (Arr4.dc .u64 r)) ∧ t = [.arrX (γ 0) 5 1 0 (x0.map (cI .u8))])

abbrev bset_Of_i1_qs111 (wx0 : Value) (x0 : List Int) (r : Arr4) : Exit → St → Prop := thenS (fun s' => T Tryd.prog 23 (Code.at [1, 1, 1] (codeOf Tryd.f20)) s' ((bset_Of_i1_q wx0 x0 r))) ((bset_Of_i1_q wx0 x0 r))

abbrev bset_Of_i1_qb0x111 (wx0 : Value) (x0 : List Int) (r : Arr4) : Exit → St → Prop := inBlockS 0 ((bset_Of_i1_qs111 wx0 x0 r))

theorem bset_Of_i1_l0_T {r : Arr4} (K : Nat) (wx0 : Value) (x0 : List Int) : ∀ (k : Nat), ∀ (x7_0_3 : Int) (x8_0_4 : Int) (y2_0_0 : Arr4) (y3_0_1 : Arr4) (x0 : List Int) (b2_0 : Nat) (b3_0 : Nat), bset_Of_i1_l0 K k x7_0_3 x8_0_4 y2_0_0 y3_0_1 x0 = some r → TL Tryd.prog 23 (Code.at [1, 1, 0, 1, 0, 0] (codeOf Tryd.f20)) ⟨[(2, .ptr b2_0 0), (3, .ptr b3_0 0), (6, .c (.ex wx0)), (7, .int .i64 x7_0_3), (8, .int .i64 x8_0_4)], [.box b2_0 24 (Arr4.oc .u64 y2_0_0), .box b3_0 24 (Arr4.oc .u64 y3_0_1), .arrX wx0 5 1 0 (x0.map (cI .u8))]⟩ (bset_Of_i1_qb0x111 wx0 x0 r) := by
  intro k
  induction k with
  | zero =>
    intro x7_0_3 x8_0_4 y2_0_0 y3_0_1 x0 b2_0 b3_0 h
    cases (show (none : Option Arr4) = some r from h)
  | succ k ih =>
    intro x7_0_3 x8_0_4 y2_0_0 y3_0_1 x0 b2_0 b3_0 h
    rw [bset_Of_i1_l0] at h
    refine TL.round ?_
    refine T.seq ?_
    refine T.regionL ?_
    refine sp rfl (OpT.int2 rfl rfl (dl rfl rfl) rfl rfl ?_)
    refine TL'.nil (thenS_normal ?_)
    refine T.seq ?_
    rcases bif_some h with ⟨c_59, h⟩ | ⟨c_59, h⟩
    · refine T.condT rfl c_59 ?_
      refine T.skip (thenS_normal ?_)
      refine T.seq ?_
      refine T.block ?_
      refine T.seq ?_
      refine T.regionL ?_
      obtain ⟨v_60, e_61, h⟩ := bind_some h
      refine sp rfl (OpT.indexXM (n := 2) (xs := x0) (f := (cI .u8)) (old := v_60) rfl (dl rfl rfl) Tryd.underlying26 i5 rfl rfl rfl e_61 ?_)
      refine sp rfl (OpT.loadXM (i := 2) (xs := x0) (f := (cI .u8)) (old := v_60) rfl (dl rfl rfl) Tryd.underlying5 rfl rfl rfl (geti_some e_61).2 rfl ?_)
      refine asg rfl rfl rfl rfl rfl ?_
      refine TL'.nil (thenS_normal ?_)
      refine T.regionL ?_
      refine mv rfl rfl rfl rfl rfl ?_
      refine sp rfl (OpT.quo rfl (dl rfl rfl) rfl rfl (by decide) ?_)
      obtain ⟨g_62, h⟩ := ck_some h
      refine sp rfl (OpT.indexPtr rfl (dl rfl rfl) Tryd.underlying24 i22 rfl rfl g_62.1 g_62.2 ?_)
      refine sp rfl (OpT.loadBox (i := 1) rfl (dl rfl rfl) Tryd.underlying22 rfl rfl rfl (Arr4.oc_get (k := .u64) (a := y3_0_1) (pre := []) (post := []) g_62.1 g_62.2) ?_)
      refine mv rfl rfl rfl rfl rfl ?_
      refine sp rfl (OpT.rem rfl (dl rfl rfl) rfl rfl (by decide) ?_)
      obtain ⟨g_63, h⟩ := ck_some h
      refine sp rfl (OpT.shl rfl (dl rfl rfl) rfl rfl g_63 ?_)
      refine sp rfl (OpT.int2 rfl rfl (dl rfl rfl) rfl rfl ?_)
      refine sp rfl (OpT.indexPtr rfl (dl rfl rfl) Tryd.underlying24 i22 rfl rfl g_62.1 g_62.2 ?_)
      refine sp rfl (OpT.storeTo (i := 1) (cells' := (Arr4.oc .u64 (Arr4.set y3_0_1 (IntKind.u8.wrap (Int.tdiv v_60 (64 : Int))) (bits .or .u64 (Arr4.get y3_0_1 (IntKind.u8.wrap (Int.tdiv v_60 (64 : Int)))) (IntKind.u64.wrap ((1 : Int) * 2 ^ min (Int.toNat (Int.tmod v_60 (64 : Int))) IntKind.u64.bits)))))) rfl rfl i22 rfl rfl rfl (Arr4.oc_lt (k := .u64) (a := y3_0_1) (pre := []) (post := []) g_62.1 g_62.2) (Arr4.oc_set (k := .u64) (a := y3_0_1) (pre := []) (post := []) g_62.1 g_62.2) ?_)
      refine TL'.nil (inBlock_normal (thenS_normal ?_))
      refine T.regionL ?_
      refine sp rfl (OpT.int2 rfl rfl (dl rfl rfl) rfl rfl ?_)
      refine mv rfl rfl rfl rfl rfl ?_
      refine TL'.nil (thenS_normal ?_)
      refine TL.by_turn ?_ (ih x7_0_3 (IntKind.i64.wrap (x8_0_4 + (1 : Int))) y2_0_0 (Arr4.set y3_0_1 (IntKind.u8.wrap (Int.tdiv v_60 (64 : Int))) (bits .or .u64 (Arr4.get y3_0_1 (IntKind.u8.wrap (Int.tdiv v_60 (64 : Int)))) (IntKind.u64.wrap ((1 : Int) * 2 ^ min (Int.toNat (Int.tmod v_60 (64 : Int))) IntKind.u64.bits)))) x0 b2_0 b3_0 h)
      exact Turn.rp (.cons rfl (.cons rfl (.cons rfl (.cons rfl (.cons rfl (.nil _)))))) (.c .z (.c .z (.c .z (.n _))))
    · refine T.condF rfl c_59 ?_
      refine T.exit (thenS_exit (thenS_exit (inBlock_exit (thenS_normal ?_))))
      refine T.seq ?_
      refine T.regionL ?_
      refine sp rfl (OpT.loadBoxAgg (i := 1) (l := (Arr4.dc .u64 y3_0_1)) rfl (dl rfl rfl) Tryd.underlying24 rfl i24 rfl rfl rfl rfl ?_)
      refine sp rfl (OpT.storeAggTo (i := 0) (cells' := (Arr4.oc .u64 y3_0_1)) rfl rfl i24 rfl rfl rfl rfl (Nat.le_of_ble_eq_true rfl) rfl ?_)
      refine TL'.nil (thenS_normal ?_)
      refine T.ret ?_
      exact Fin.doneK (.cons _ _ _ _ (.cellAgg 2 24 _ 0 0 24 _ (Arr4.dc .u64 y3_0_1) _ _ 4 _ rfl rfl rfl rfl Tryd.underlying24 rfl i24) .nil) (.cons 2 rfl (.nil _)) (by cases h; exact ⟨gl [wx0], rfl, rfl⟩)

theorem bset_Of_i1_T (K : Nat) {x0 : List Int} {wx0 : Value} {r : Arr4} (h : bset_Of_i1 K x0 = some r) : CallG Tryd.prog 20 [.c (.ex wx0)] [.arrX wx0 5 1 0 (x0.map (cI .u8))] (fun γ => (.agg (Arr4.dc .u64 r))) (fun γ => [.arrX (γ 0) 5 1 0 (x0.map (cI .u8))]) := by
  refine CallT.intro Tryd.func20 rfl (Nat.le_of_ble_eq_true rfl) ?_
  show T Tryd.prog 23 (Code.at [] (codeOf Tryd.f20)) ⟨paramSlots 0 [.c (.ex wx0)], [.arrX wx0 5 1 0 (x0.map (cI .u8))]⟩ (bset_Of_i1_q wx0 x0 r)
  unfold bset_Of_i1 at h
  refine T.seq ?_
  refine T.regionL ?_
  refine sp rfl (OpT.alloc' rfl (dl rfl rfl) i24 rfl (fun b_57 => ?_))
  refine TL'.nil (thenS_normal ?_)
  refine T.seq ?_
  refine T.regionL ?_
  refine sp rfl (OpT.alloc' rfl (dl rfl rfl) i24 rfl (fun b_58 => ?_))
  refine TL'.nil (thenS_normal ?_)
  refine T.seq ?_
  refine T.seq ?_
  refine T.regionL ?_
  refine mv rfl rfl rfl rfl rfl ?_
  refine sp rfl (OpT.lenXM (i := 2) (xs := x0) (f := (cI .u8)) rfl (dl rfl rfl) Tryd.underlying26 rfl rfl ?_)
  refine mv rfl rfl rfl rfl rfl ?_
  refine TL'.nil (thenS_normal ?_)
  refine T.block ?_
  refine T.loop ?_
  refine TL.by_turn ?_ (bset_Of_i1_l0_T K wx0 x0 K (x0.length : Int) (0 : Int) (Arr4.mk 0 0 0 0) (Arr4.mk 0 0 0 0) x0 b_57 b_58 h)
  exact Turn.rp (.cons rfl (.cons rfl (.cons rfl (.cons rfl (.cons rfl (.nil _)))))) (.c (.s .z) (.c .z (.c .z (.n _))))

end Go.Rv

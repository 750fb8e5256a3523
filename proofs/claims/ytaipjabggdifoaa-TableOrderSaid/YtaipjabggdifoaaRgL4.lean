/- Each function computes what its plain text says: printed by a program of ours. -/
import Derived.Test.YtaipjabggdifoaaRgW5
namespace Go.Rv
open Go.Proofs
set_option maxRecDepth 100000
set_option maxHeartbeats 4000000
set_option linter.unusedVariables false

abbrev raddlelaw14_TableOrder_q (r : Bool) : Exit → St → Prop := retS Try.prog Try.f4 (fun y t => y = (.bool r) ∧ t = [])

abbrev raddlelaw14_TableOrder_qs11111 (r : Bool) : Exit → St → Prop := thenS (fun s' => T Try.prog 90 (Code.at [1, 1, 1, 1, 1] (codeOf Try.f4)) s' ((raddlelaw14_TableOrder_q r))) ((raddlelaw14_TableOrder_q r))

abbrev raddlelaw14_TableOrder_qb0x11111 (r : Bool) : Exit → St → Prop := inBlockS 0 ((raddlelaw14_TableOrder_qs11111 r))

theorem raddlelaw14_TableOrder_l0_T {r : Bool} (K : Nat) : ∀ (k : Nat), ∀ (x0 : Int) (x1 : Int) (x5_0_2 : Bool) (x8_0_5 : Int) (x9_0_6 : Int) (y6_0_3 : List Int) (y7_0_4 : List Int) (w6_0 : Value) (w7_0 : Value), raddlelaw14_TableOrder_l0 K k x0 x1 x5_0_2 x8_0_5 x9_0_6 y6_0_3 y7_0_4 = some r → TL Try.prog 90 (Code.at [1, 1, 1, 1, 0, 1, 0, 0] (codeOf Try.f4)) ⟨[(0, .int .u32 x0), (1, .int .u32 x1), (5, .bool x5_0_2), (6, .c (.ex w6_0)), (7, .c (.ex w7_0)), (8, .int .i64 x8_0_5), (9, .int .i64 x9_0_6)], [.arrA w6_0 5 1 (y6_0_3.map (cI .u8)), .arrA w7_0 5 1 (y7_0_4.map (cI .u8))]⟩ (raddlelaw14_TableOrder_qb0x11111 r) := by
  intro k
  induction k with
  | zero =>
    intro x0 x1 x5_0_2 x8_0_5 x9_0_6 y6_0_3 y7_0_4 w6_0 w7_0 h
    cases (show (none : Option Bool) = some r from h)
  | succ k ih =>
    intro x0 x1 x5_0_2 x8_0_5 x9_0_6 y6_0_3 y7_0_4 w6_0 w7_0 h
    rw [raddlelaw14_TableOrder_l0] at h
    refine TL.round ?_
    refine T.seq ?_
    refine T.seq ?_
    refine T.regionL ?_
    refine mv rfl rfl rfl rfl rfl ?_
    refine sp rfl (OpT.int2 rfl rfl (dl rfl rfl) rfl rfl ?_)
    refine TL'.nil (thenS_normal ?_)
    rcases bif_some h with ⟨c_291, h⟩ | ⟨c_291, h⟩
    · refine T.condT rfl c_291 ?_
      refine T.skip (thenS_normal ?_)
      refine T.seq ?_
      refine T.block ?_
      refine T.regionL ?_
      refine mv rfl rfl rfl rfl rfl ?_
      refine sp rfl (OpT.shl rfl (dl rfl rfl) rfl rfl (by decide) ?_)
      refine mv rfl rfl rfl rfl rfl ?_
      refine mv rfl rfl rfl rfl rfl ?_
      refine TL'.turn (Turn.view 30 0 rfl rfl) ?_
      obtain ⟨v_292, e_293, h⟩ := bind_some h
      refine sp rfl (OpT.indexSlM (xs := y6_0_3) (f := (cI .u8)) (v := v_292) rfl (dl rfl rfl) Try.underlying29 i5 rfl rfl e_293 ?_)
      refine sp rfl (OpT.loadRef rfl (dl rfl rfl) Try.underlying5 rfl rfl rfl ?_)
      refine sp rfl (OpT.int2 rfl rfl (dl rfl rfl) rfl rfl ?_)
      refine sp rfl (OpT.convInt rfl (dl rfl rfl) Try.underlying5 Try.underlying3 rfl ?_)
      refine sp rfl (OpT.int2 rfl rfl (dl rfl rfl) rfl rfl ?_)
      refine asg rfl rfl rfl rfl rfl ?_
      refine TL'.nil (inBlock_normal (thenS_normal ?_))
      refine T.regionL ?_
      refine mv rfl rfl rfl rfl rfl ?_
      refine sp rfl (OpT.int2 rfl rfl (dl rfl rfl) rfl rfl ?_)
      refine asg rfl rfl rfl rfl rfl ?_
      refine TL'.nil (thenS_normal ?_)
      refine TL.by_turn ?_ (ih x0 x1 x5_0_2 (bits .or .i64 (IntKind.i64.wrap (x8_0_5 * 2 ^ min (Int.toNat (7 : Int)) IntKind.i64.bits)) (IntKind.i64.wrap (bits .and .u8 v_292 (127 : Int)))) (IntKind.i64.wrap (x9_0_6 - (1 : Int))) y6_0_3 y7_0_4 w6_0 w7_0 h)
      exact Turn.rp (.cons rfl (.cons rfl (.cons rfl (.cons rfl (.cons rfl (.cons rfl (.cons rfl (.nil _)))))))) (.c .z (.c .z (.n _)))
    · refine T.condF rfl c_291 ?_
      refine T.exit (thenS_exit (thenS_exit (inBlock_exit (thenS_normal ?_))))
      refine T.seq ?_
      refine T.by_turn Turn.keepPlace ?_
      refine T.by_turn Turn.keepPlace ?_
      refine T.by_turn (Turn.view 6 2 rfl rfl) ?_
      refine T.by_turn (Turn.view 7 3 rfl rfl) ?_
      refine DGG.start ?_
      refine DGG.step (c := fun γ_294 => ⟨some 37, .bool x5_0_2, [(5, .bool x5_0_2)], [], []⟩) [] (fun _ _ _ => rfl) (fun γ_294 t hm => One.step rfl (.free rfl) (OpT.move rfl (dl rfl rfl) hm.s0 ⟨(fun _ => undef, 0), rfl⟩)) (fun γ_294 => Ct.met_of rfl rfl) ?_
      refine DGG.step (c := fun γ_294 => ⟨some 38, .bool x5_0_2, [(37, .bool x5_0_2)], [], []⟩) [] (fun _ _ _ => rfl) (fun γ_294 t hm => One.step rfl (.free rfl) (OpT.move rfl (dl rfl rfl) hm.s0 ⟨(fun _ => undef, 0), rfl⟩)) (fun γ_294 => Ct.met_of rfl rfl) ?_
      rcases bif_some h with ⟨c_309, h⟩ | ⟨c_309, h⟩
      · refine DGG.step (c := fun γ_294 => ⟨some 39, .sl false 1 (y6_0_3.map (cI .u8)), [(6, .sl false 1 (y6_0_3.map (cI .u8))), (38, .bool x5_0_2)], [], []⟩) [] (fun _ _ _ => rfl) (fun γ_294 t hm => One.step rfl (.on rfl rfl hm.s1 c_309) (OpT.move rfl (dl rfl rfl) hm.s0 ⟨(fun _ => undef, 0), rfl⟩)) (fun γ_294 => Ct.met_of rfl rfl) ?_
        refine DGG.step (c := fun γ_294 => ⟨some 40, .int .i64 (y6_0_3.length : Int), [(39, .sl false 1 (y6_0_3.map (cI .u8))), (38, .bool x5_0_2)], [], []⟩) [] (fun _ _ _ => rfl) (fun γ_294 t hm => One.step rfl (.on rfl rfl hm.s1 c_309) (OpT.lenSlM (xs := y6_0_3) (f := (cI .u8)) rfl (dl rfl rfl) Try.underlying29 hm.s0 ⟨(fun _ => undef, 0), rfl⟩)) (fun γ_294 => Ct.met_of rfl rfl) ?_
        refine DGG.step (c := fun γ_294 => ⟨some 41, .sl false 1 (y7_0_4.map (cI .u8)), [(7, .sl false 1 (y7_0_4.map (cI .u8))), (38, .bool x5_0_2)], [], []⟩) [] (fun _ _ _ => rfl) (fun γ_294 t hm => One.step rfl (.on rfl rfl hm.s1 c_309) (OpT.move rfl (dl rfl rfl) hm.s0 ⟨(fun _ => undef, 0), rfl⟩)) (fun γ_294 => Ct.met_of rfl rfl) ?_
        refine DGG.step (c := fun γ_294 => ⟨some 42, .int .i64 (y7_0_4.length : Int), [(41, .sl false 1 (y7_0_4.map (cI .u8))), (38, .bool x5_0_2)], [], []⟩) [] (fun _ _ _ => rfl) (fun γ_294 t hm => One.step rfl (.on rfl rfl hm.s1 c_309) (OpT.lenSlM (xs := y7_0_4) (f := (cI .u8)) rfl (dl rfl rfl) Try.underlying29 hm.s0 ⟨(fun _ => undef, 0), rfl⟩)) (fun γ_294 => Ct.met_of rfl rfl) ?_
        refine DGG.step (c := fun γ_294 => ⟨some 43, .bool (decide ((y6_0_3.length : Int) ≤ (y7_0_4.length : Int))), [(40, .int .i64 (y6_0_3.length : Int)), (42, .int .i64 (y7_0_4.length : Int)), (38, .bool x5_0_2)], [], []⟩) [] (fun _ _ _ => rfl) (fun γ_294 t hm => One.step rfl (.on rfl rfl hm.s2 c_309) (OpT.int2 rfl rfl (dl rfl rfl) hm.s0 hm.s1 ⟨(fun _ => undef, 0), rfl⟩)) (fun γ_294 => Ct.met_of rfl rfl) ?_
        refine DGG.step (c := fun γ_294 => ⟨some 44, .bool (decide ((y6_0_3.length : Int) ≤ (y7_0_4.length : Int))), [(38, .bool x5_0_2), (43, .bool (decide ((y6_0_3.length : Int) ≤ (y7_0_4.length : Int))))], [], []⟩) [] (fun _ _ _ => rfl) (fun γ_294 t hm => One.step rfl (.free rfl) (OpT.pickT rfl (dl rfl rfl) hm.s0 c_309 hm.s1 ⟨(fun _ => undef, 0), rfl⟩)) (fun γ_294 => Ct.met_of rfl rfl) ?_
        refine DGG.step (c := fun γ_294 => ⟨some 45, .bool (decide ((y6_0_3.length : Int) ≤ (y7_0_4.length : Int))), [(44, .bool (decide ((y6_0_3.length : Int) ≤ (y7_0_4.length : Int))))], [], []⟩) [] (fun _ _ _ => rfl) (fun γ_294 t hm => One.step rfl (.free rfl) (OpT.move rfl (dl rfl rfl) hm.s0 ⟨(fun _ => undef, 0), rfl⟩)) (fun γ_294 => Ct.met_of rfl rfl) ?_
        rcases bif_some h with ⟨c_310, h⟩ | ⟨c_310, h⟩
        · refine DGG.step (c := fun γ_294 => ⟨some 46, .sl false 1 (y6_0_3.map (cI .u8)), [(6, .sl false 1 (y6_0_3.map (cI .u8))), (45, .bool (decide ((y6_0_3.length : Int) ≤ (y7_0_4.length : Int))))], [], []⟩) [] (fun _ _ _ => rfl) (fun γ_294 t hm => One.step rfl (.on rfl rfl hm.s1 c_310) (OpT.move rfl (dl rfl rfl) hm.s0 ⟨(fun _ => undef, 0), rfl⟩)) (fun γ_294 => Ct.met_of rfl rfl) ?_
          refine DGG.step (c := fun γ_294 => ⟨some 47, .str (ofBytes y6_0_3), [(46, .sl false 1 (y6_0_3.map (cI .u8))), (45, .bool (decide ((y6_0_3.length : Int) ≤ (y7_0_4.length : Int))))], [], []⟩) [] (fun _ _ _ => rfl) (fun γ_294 t hm => One.step rfl (.on rfl rfl hm.s1 c_310) (OpT.convBytes (xs := y6_0_3) rfl (dl rfl rfl) Try.underlying29 Try.underlying5 Try.underlying9 hm.s0 ⟨(fun _ => undef, 0), rfl⟩)) (fun γ_294 => Ct.met_of rfl rfl) ?_
          refine DGG.step (c := fun γ_294 => ⟨some 48, .sl false 1 (y7_0_4.map (cI .u8)), [(7, .sl false 1 (y7_0_4.map (cI .u8))), (45, .bool (decide ((y6_0_3.length : Int) ≤ (y7_0_4.length : Int))))], [], []⟩) [] (fun _ _ _ => rfl) (fun γ_294 t hm => One.step rfl (.on rfl rfl hm.s1 c_310) (OpT.move rfl (dl rfl rfl) hm.s0 ⟨(fun _ => undef, 0), rfl⟩)) (fun γ_294 => Ct.met_of rfl rfl) ?_
          refine DGG.step (c := fun γ_294 => ⟨some 49, .str (ofBytes y7_0_4), [(48, .sl false 1 (y7_0_4.map (cI .u8))), (45, .bool (decide ((y6_0_3.length : Int) ≤ (y7_0_4.length : Int))))], [], []⟩) [] (fun _ _ _ => rfl) (fun γ_294 t hm => One.step rfl (.on rfl rfl hm.s1 c_310) (OpT.convBytes (xs := y7_0_4) rfl (dl rfl rfl) Try.underlying29 Try.underlying5 Try.underlying9 hm.s0 ⟨(fun _ => undef, 0), rfl⟩)) (fun γ_294 => Ct.met_of rfl rfl) ?_
          refine DGG.step (c := fun γ_294 => ⟨some 50, .bool ((ofBytes y6_0_3).toList == (ofBytes y7_0_4).toList), [(47, .str (ofBytes y6_0_3)), (49, .str (ofBytes y7_0_4)), (45, .bool (decide ((y6_0_3.length : Int) ≤ (y7_0_4.length : Int))))], [], []⟩) [] (fun _ _ _ => rfl) (fun γ_294 t hm => One.step rfl (.on rfl rfl hm.s2 c_310) (OpT.str_eql rfl (dl rfl rfl) hm.s0 hm.s1 ⟨(fun _ => undef, 0), rfl⟩)) (fun γ_294 => Ct.met_of rfl rfl) ?_
          refine DGG.step (c := fun γ_294 => ⟨some 51, .int .u32 x0, [(0, .int .u32 x0), (45, .bool (decide ((y6_0_3.length : Int) ≤ (y7_0_4.length : Int))))], [], []⟩) [] (fun _ _ _ => rfl) (fun γ_294 t hm => One.step rfl (.on rfl rfl hm.s1 c_310) (OpT.move rfl (dl rfl rfl) hm.s0 ⟨(fun _ => undef, 0), rfl⟩)) (fun γ_294 => Ct.met_of rfl rfl) ?_
          refine DGG.step (c := fun γ_294 => ⟨some 52, .int .u32 x1, [(1, .int .u32 x1), (45, .bool (decide ((y6_0_3.length : Int) ≤ (y7_0_4.length : Int))))], [], []⟩) [] (fun _ _ _ => rfl) (fun γ_294 t hm => One.step rfl (.on rfl rfl hm.s1 c_310) (OpT.move rfl (dl rfl rfl) hm.s0 ⟨(fun _ => undef, 0), rfl⟩)) (fun γ_294 => Ct.met_of rfl rfl) ?_
          refine DGG.step (c := fun γ_294 => ⟨some 53, .bool (x0 == x1), [(51, .int .u32 x0), (52, .int .u32 x1), (45, .bool (decide ((y6_0_3.length : Int) ≤ (y7_0_4.length : Int))))], [], []⟩) [] (fun _ _ _ => rfl) (fun γ_294 t hm => One.step rfl (.on rfl rfl hm.s2 c_310) (OpT.int2 rfl rfl (dl rfl rfl) hm.s0 hm.s1 ⟨(fun _ => undef, 0), rfl⟩)) (fun γ_294 => Ct.met_of rfl rfl) ?_
          refine DGG.step (c := fun γ_294 => ⟨some 54, .bool (((ofBytes y6_0_3).toList == (ofBytes y7_0_4).toList) == (x0 == x1)), [(50, .bool ((ofBytes y6_0_3).toList == (ofBytes y7_0_4).toList)), (53, .bool (x0 == x1)), (45, .bool (decide ((y6_0_3.length : Int) ≤ (y7_0_4.length : Int))))], [], []⟩) [] (fun _ _ _ => rfl) (fun γ_294 t hm => One.step rfl (.on rfl rfl hm.s2 c_310) (OpT.bool_eql rfl (dl rfl rfl) Try.underlying4 hm.s0 hm.s1 ⟨(fun _ => undef, 0), rfl⟩)) (fun γ_294 => Ct.met_of rfl rfl) ?_
          refine DGG.step (c := fun γ_294 => ⟨some 55, .bool (((ofBytes y6_0_3).toList == (ofBytes y7_0_4).toList) == (x0 == x1)), [(45, .bool (decide ((y6_0_3.length : Int) ≤ (y7_0_4.length : Int)))), (54, .bool (((ofBytes y6_0_3).toList == (ofBytes y7_0_4).toList) == (x0 == x1)))], [], []⟩) [] (fun _ _ _ => rfl) (fun γ_294 t hm => One.step rfl (.free rfl) (OpT.pickT rfl (dl rfl rfl) hm.s0 c_310 hm.s1 ⟨(fun _ => undef, 0), rfl⟩)) (fun γ_294 => Ct.met_of rfl rfl) ?_
          refine DGG.step (c := fun γ_294 => ⟨some 56, .bool (((ofBytes y6_0_3).toList == (ofBytes y7_0_4).toList) == (x0 == x1)), [(55, .bool (((ofBytes y6_0_3).toList == (ofBytes y7_0_4).toList) == (x0 == x1)))], [], []⟩) [] (fun _ _ _ => rfl) (fun γ_294 t hm => One.step rfl (.free rfl) (OpT.move rfl (dl rfl rfl) hm.s0 ⟨(fun _ => undef, 0), rfl⟩)) (fun γ_294 => Ct.met_of rfl rfl) ?_
          rcases bif_some h with ⟨c_311, h⟩ | ⟨c_311, h⟩
          · refine DGG.step (c := fun γ_294 => ⟨some 57, .int .i64 x8_0_5, [(8, .int .i64 x8_0_5), (56, .bool (((ofBytes y6_0_3).toList == (ofBytes y7_0_4).toList) == (x0 == x1)))], [], []⟩) [] (fun _ _ _ => rfl) (fun γ_294 t hm => One.step rfl (.on rfl rfl hm.s1 c_311) (OpT.move rfl (dl rfl rfl) hm.s0 ⟨(fun _ => undef, 0), rfl⟩)) (fun γ_294 => Ct.met_of rfl rfl) ?_
            refine DGG.step (c := fun γ_294 => ⟨some 58, .int .u32 x0, [(0, .int .u32 x0), (56, .bool (((ofBytes y6_0_3).toList == (ofBytes y7_0_4).toList) == (x0 == x1)))], [], []⟩) [] (fun _ _ _ => rfl) (fun γ_294 t hm => One.step rfl (.on rfl rfl hm.s1 c_311) (OpT.move rfl (dl rfl rfl) hm.s0 ⟨(fun _ => undef, 0), rfl⟩)) (fun γ_294 => Ct.met_of rfl rfl) ?_
            refine DGG.step (c := fun γ_294 => ⟨some 59, .int .u32 x1, [(1, .int .u32 x1), (56, .bool (((ofBytes y6_0_3).toList == (ofBytes y7_0_4).toList) == (x0 == x1)))], [], []⟩) [] (fun _ _ _ => rfl) (fun γ_294 t hm => One.step rfl (.on rfl rfl hm.s1 c_311) (OpT.move rfl (dl rfl rfl) hm.s0 ⟨(fun _ => undef, 0), rfl⟩)) (fun γ_294 => Ct.met_of rfl rfl) ?_
            refine DGG.step (c := fun γ_294 => ⟨some 60, .int .u32 (if x1 < x0 then x1 else x0), [(58, .int .u32 x0), (59, .int .u32 x1), (56, .bool (((ofBytes y6_0_3).toList == (ofBytes y7_0_4).toList) == (x0 == x1)))], [], []⟩) [] (fun _ _ _ => rfl) (fun γ_294 t hm => One.step rfl (.on rfl rfl hm.s2 c_311) (OpT.min2 rfl (dl rfl rfl) hm.s0 hm.s1 ⟨(fun _ => undef, 0), rfl⟩)) (fun γ_294 => Ct.met_of rfl rfl) ?_
            refine DGG.step (c := fun γ_294 => ⟨some 61, .int .i64 (IntKind.i64.wrap (if x1 < x0 then x1 else x0)), [(60, .int .u32 (if x1 < x0 then x1 else x0)), (56, .bool (((ofBytes y6_0_3).toList == (ofBytes y7_0_4).toList) == (x0 == x1)))], [], []⟩) [] (fun _ _ _ => rfl) (fun γ_294 t hm => One.step rfl (.on rfl rfl hm.s1 c_311) (OpT.convInt rfl (dl rfl rfl) Try.underlying37 Try.underlying3 hm.s0 ⟨(fun _ => undef, 0), rfl⟩)) (fun γ_294 => Ct.met_of rfl rfl) ?_
            refine DGG.step (c := fun γ_294 => ⟨some 62, .bool (x8_0_5 == (IntKind.i64.wrap (if x1 < x0 then x1 else x0))), [(57, .int .i64 x8_0_5), (61, .int .i64 (IntKind.i64.wrap (if x1 < x0 then x1 else x0))), (56, .bool (((ofBytes y6_0_3).toList == (ofBytes y7_0_4).toList) == (x0 == x1)))], [], []⟩) [] (fun _ _ _ => rfl) (fun γ_294 t hm => One.step rfl (.on rfl rfl hm.s2 c_311) (OpT.int2 rfl rfl (dl rfl rfl) hm.s0 hm.s1 ⟨(fun _ => undef, 0), rfl⟩)) (fun γ_294 => Ct.met_of rfl rfl) ?_
            refine DGG.step (c := fun γ_294 => ⟨some 63, .bool (x8_0_5 == (IntKind.i64.wrap (if x1 < x0 then x1 else x0))), [(56, .bool (((ofBytes y6_0_3).toList == (ofBytes y7_0_4).toList) == (x0 == x1))), (62, .bool (x8_0_5 == (IntKind.i64.wrap (if x1 < x0 then x1 else x0))))], [], []⟩) [] (fun _ _ _ => rfl) (fun γ_294 t hm => One.step rfl (.free rfl) (OpT.pickT rfl (dl rfl rfl) hm.s0 c_311 hm.s1 ⟨(fun _ => undef, 0), rfl⟩)) (fun γ_294 => Ct.met_of rfl rfl) ?_
            refine DGG.step (c := fun γ_294 => ⟨some 64, .bool (x8_0_5 == (IntKind.i64.wrap (if x1 < x0 then x1 else x0))), [(63, .bool (x8_0_5 == (IntKind.i64.wrap (if x1 < x0 then x1 else x0))))], [], []⟩) [] (fun _ _ _ => rfl) (fun γ_294 t hm => One.step rfl (.free rfl) (OpT.move rfl (dl rfl rfl) hm.s0 ⟨(fun _ => undef, 0), rfl⟩)) (fun γ_294 => Ct.met_of rfl rfl) ?_
            rcases bif_some h with ⟨c_312, h⟩ | ⟨c_312, h⟩
            · refine DGG.step (c := fun γ_294 => ⟨some 65, .sl false 1 (y6_0_3.map (cI .u8)), [(6, .sl false 1 (y6_0_3.map (cI .u8))), (64, .bool (x8_0_5 == (IntKind.i64.wrap (if x1 < x0 then x1 else x0))))], [], []⟩) [] (fun _ _ _ => rfl) (fun γ_294 t hm => One.step rfl (.on rfl rfl hm.s1 c_312) (OpT.move rfl (dl rfl rfl) hm.s0 ⟨(fun _ => undef, 0), rfl⟩)) (fun γ_294 => Ct.met_of rfl rfl) ?_
              refine DGG.step (c := fun γ_294 => ⟨some 66, .int .i64 (y6_0_3.length : Int), [(65, .sl false 1 (y6_0_3.map (cI .u8))), (64, .bool (x8_0_5 == (IntKind.i64.wrap (if x1 < x0 then x1 else x0))))], [], []⟩) [] (fun _ _ _ => rfl) (fun γ_294 t hm => One.step rfl (.on rfl rfl hm.s1 c_312) (OpT.lenSlM (xs := y6_0_3) (f := (cI .u8)) rfl (dl rfl rfl) Try.underlying29 hm.s0 ⟨(fun _ => undef, 0), rfl⟩)) (fun γ_294 => Ct.met_of rfl rfl) ?_
              refine DGG.step (c := fun γ_294 => ⟨some 67, .bool (decide ((y6_0_3.length : Int) ≥ (1 : Int))), [(66, .int .i64 (y6_0_3.length : Int)), (64, .bool (x8_0_5 == (IntKind.i64.wrap (if x1 < x0 then x1 else x0))))], [], []⟩) [] (fun _ _ _ => rfl) (fun γ_294 t hm => One.step rfl (.on rfl rfl hm.s1 c_312) (OpT.int2 rfl rfl (dl rfl rfl) hm.s0 rfl ⟨(fun _ => undef, 0), rfl⟩)) (fun γ_294 => Ct.met_of rfl rfl) ?_
              refine DGG.step (c := fun γ_294 => ⟨some 68, .bool (decide ((y6_0_3.length : Int) ≥ (1 : Int))), [(64, .bool (x8_0_5 == (IntKind.i64.wrap (if x1 < x0 then x1 else x0)))), (67, .bool (decide ((y6_0_3.length : Int) ≥ (1 : Int))))], [], []⟩) [] (fun _ _ _ => rfl) (fun γ_294 t hm => One.step rfl (.free rfl) (OpT.pickT rfl (dl rfl rfl) hm.s0 c_312 hm.s1 ⟨(fun _ => undef, 0), rfl⟩)) (fun γ_294 => Ct.met_of rfl rfl) ?_
              refine DGG.step (c := fun γ_294 => ⟨some 69, .bool (decide ((y6_0_3.length : Int) ≥ (1 : Int))), [(68, .bool (decide ((y6_0_3.length : Int) ≥ (1 : Int))))], [], []⟩) [] (fun _ _ _ => rfl) (fun γ_294 t hm => One.step rfl (.free rfl) (OpT.move rfl (dl rfl rfl) hm.s0 ⟨(fun _ => undef, 0), rfl⟩)) (fun γ_294 => Ct.met_of rfl rfl) ?_
              rcases bif_some h with ⟨c_313, h⟩ | ⟨c_313, h⟩
              · refine DGG.step (c := fun γ_294 => ⟨some 70, .sl false 1 (y6_0_3.map (cI .u8)), [(6, .sl false 1 (y6_0_3.map (cI .u8))), (69, .bool (decide ((y6_0_3.length : Int) ≥ (1 : Int))))], [], []⟩) [] (fun _ _ _ => rfl) (fun γ_294 t hm => One.step rfl (.on rfl rfl hm.s1 c_313) (OpT.move rfl (dl rfl rfl) hm.s0 ⟨(fun _ => undef, 0), rfl⟩)) (fun γ_294 => Ct.met_of rfl rfl) ?_
                refine DGG.step (c := fun γ_294 => ⟨some 71, .sl false 1 (y6_0_3.map (cI .u8)), [(6, .sl false 1 (y6_0_3.map (cI .u8))), (69, .bool (decide ((y6_0_3.length : Int) ≥ (1 : Int))))], [], []⟩) [] (fun _ _ _ => rfl) (fun γ_294 t hm => One.step rfl (.on rfl rfl hm.s1 c_313) (OpT.move rfl (dl rfl rfl) hm.s0 ⟨(fun _ => undef, 0), rfl⟩)) (fun γ_294 => Ct.met_of rfl rfl) ?_
                refine DGG.step (c := fun γ_294 => ⟨some 72, .int .i64 (y6_0_3.length : Int), [(71, .sl false 1 (y6_0_3.map (cI .u8))), (69, .bool (decide ((y6_0_3.length : Int) ≥ (1 : Int))))], [], []⟩) [] (fun _ _ _ => rfl) (fun γ_294 t hm => One.step rfl (.on rfl rfl hm.s1 c_313) (OpT.lenSlM (xs := y6_0_3) (f := (cI .u8)) rfl (dl rfl rfl) Try.underlying29 hm.s0 ⟨(fun _ => undef, 0), rfl⟩)) (fun γ_294 => Ct.met_of rfl rfl) ?_
                refine DGG.step (c := fun γ_294 => ⟨some 73, .int .i64 (IntKind.i64.wrap ((y6_0_3.length : Int) - (1 : Int))), [(72, .int .i64 (y6_0_3.length : Int)), (69, .bool (decide ((y6_0_3.length : Int) ≥ (1 : Int))))], [], []⟩) [] (fun _ _ _ => rfl) (fun γ_294 t hm => One.step rfl (.on rfl rfl hm.s1 c_313) (OpT.int2 rfl rfl (dl rfl rfl) hm.s0 rfl ⟨(fun _ => undef, 0), rfl⟩)) (fun γ_294 => Ct.met_of rfl rfl) ?_
                obtain ⟨v_314, e_315, h⟩ := bind_some h
                refine DGG.step (c := fun γ_294 => ⟨some 74, .ref [.int .u8 v_314], [(70, .sl false 1 (y6_0_3.map (cI .u8))), (73, .int .i64 (IntKind.i64.wrap ((y6_0_3.length : Int) - (1 : Int)))), (69, .bool (decide ((y6_0_3.length : Int) ≥ (1 : Int))))], [], []⟩) [] (fun _ _ _ => rfl) (fun γ_294 t hm => One.step rfl (.on rfl rfl hm.s2 c_313) (OpT.indexSlM (xs := y6_0_3) (f := (cI .u8)) (v := v_314) rfl (dl rfl rfl) Try.underlying29 i5 hm.s0 hm.s1 e_315 ⟨(fun _ => undef, 0), rfl⟩)) (fun γ_294 => Ct.met_of rfl rfl) ?_
                refine DGG.step (c := fun γ_294 => ⟨some 75, .int .u8 v_314, [(74, .ref [.int .u8 v_314]), (69, .bool (decide ((y6_0_3.length : Int) ≥ (1 : Int))))], [], []⟩) [] (fun _ _ _ => rfl) (fun γ_294 t hm => One.step rfl (.on rfl rfl hm.s1 c_313) (OpT.loadRef rfl (dl rfl rfl) Try.underlying5 rfl hm.s0 rfl ⟨(fun _ => undef, 0), rfl⟩)) (fun γ_294 => Ct.met_of rfl rfl) ?_
                refine DGG.step (c := fun γ_294 => ⟨some 76, .bool (decide (v_314 < (128 : Int))), [(75, .int .u8 v_314), (69, .bool (decide ((y6_0_3.length : Int) ≥ (1 : Int))))], [], []⟩) [] (fun _ _ _ => rfl) (fun γ_294 t hm => One.step rfl (.on rfl rfl hm.s1 c_313) (OpT.int2 rfl rfl (dl rfl rfl) hm.s0 rfl ⟨(fun _ => undef, 0), rfl⟩)) (fun γ_294 => Ct.met_of rfl rfl) ?_
                refine DGG.step (c := fun γ_294 => ⟨some 77, .bool (decide (v_314 < (128 : Int))), [(69, .bool (decide ((y6_0_3.length : Int) ≥ (1 : Int)))), (76, .bool (decide (v_314 < (128 : Int))))], [], []⟩) [] (fun _ _ _ => rfl) (fun γ_294 t hm => One.step rfl (.free rfl) (OpT.pickT rfl (dl rfl rfl) hm.s0 c_313 hm.s1 ⟨(fun _ => undef, 0), rfl⟩)) (fun γ_294 => Ct.met_of rfl rfl) ?_
                refine DGG.step (c := fun γ_294 => ⟨some 78, .bool (decide (v_314 < (128 : Int))), [(77, .bool (decide (v_314 < (128 : Int))))], [], []⟩) [] (fun _ _ _ => rfl) (fun γ_294 t hm => One.step rfl (.free rfl) (OpT.move rfl (dl rfl rfl) hm.s0 ⟨(fun _ => undef, 0), rfl⟩)) (fun γ_294 => Ct.met_of rfl rfl) ?_
                rcases bif_some h with ⟨c_316, h⟩ | ⟨c_316, h⟩
                · refine DGG.step (c := fun γ_294 => ⟨some 79, .int .u32 x0, [(0, .int .u32 x0), (78, .bool (decide (v_314 < (128 : Int))))], [], []⟩) [] (fun _ _ _ => rfl) (fun γ_294 t hm => One.step rfl (.on rfl rfl hm.s1 c_316) (OpT.move rfl (dl rfl rfl) hm.s0 ⟨(fun _ => undef, 0), rfl⟩)) (fun γ_294 => Ct.met_of rfl rfl) ?_
                  refine DGG.step (c := fun γ_294 => ⟨some 80, .int .i64 (IntKind.i64.wrap x0), [(79, .int .u32 x0), (78, .bool (decide (v_314 < (128 : Int))))], [], []⟩) [] (fun _ _ _ => rfl) (fun γ_294 t hm => One.step rfl (.on rfl rfl hm.s1 c_316) (OpT.convInt rfl (dl rfl rfl) Try.underlying37 Try.underlying3 hm.s0 ⟨(fun _ => undef, 0), rfl⟩)) (fun γ_294 => Ct.met_of rfl rfl) ?_
                  refine DGG.step (c := fun γ_294 => ⟨some 81, .int .i64 (IntKind.i64.wrap (0 - (IntKind.i64.wrap x0))), [(80, .int .i64 (IntKind.i64.wrap x0)), (78, .bool (decide (v_314 < (128 : Int))))], [], []⟩) [] (fun _ _ _ => rfl) (fun γ_294 t hm => One.step rfl (.on rfl rfl hm.s1 c_316) (OpT.neg rfl (dl rfl rfl) hm.s0 ⟨(fun _ => undef, 0), rfl⟩)) (fun γ_294 => Ct.met_of rfl rfl) ?_
                  obtain ⟨v_317, e_318, h⟩ := bind_some h
                  refine DGG.step (c := fun γ_294 => ⟨some 82, .sl false 1 (v_317.map (cI .u8)), [(81, .int .i64 (IntKind.i64.wrap (0 - (IntKind.i64.wrap x0)))), (78, .bool (decide (v_314 < (128 : Int))))], [(0, .ro 0 [])], [(0, .arrA ((γ_294 45).1 0) 5 1 (v_317.map (cI .u8)))]⟩) [45] (fun γ_294 γ' h => by simp only [h 45 (by decide)]) (fun γ_294 t hm => One.step rfl (.on rfl rfl hm.s1 c_316) (OpT.thenTurnG (OpT.callG (is := [0]) (ph := [.ro 0 []]) rfl (dl rfl rfl) Try.func14 rfl rfl (Args.nilSl rfl (Args.cons hm.s0 Args.nil)) (table_Number_T K (flx0 := false) e_318) (.cons hm.o0 rfl (.nil)) (fun _ => rfl) (fun g => ⟨g, rfl⟩)) (fun g => Turn.viewP 82 0 (AtO.get (AtO.setAll (.cons hm.o0 rfl (.nil)) (by exact rfl)) (k := 0) rfl rfl)) (fun g => ⟨(g, 0), rfl⟩))) (fun γ_294 => Ct.met_of rfl rfl) ?_
                  refine DGG.step (c := fun γ_294 => ⟨some 83, .str (ofBytes v_317), [(82, .sl false 1 (v_317.map (cI .u8))), (78, .bool (decide (v_314 < (128 : Int))))], [], []⟩) [] (fun _ _ _ => rfl) (fun γ_294 t hm => One.step rfl (.on rfl rfl hm.s1 c_316) (OpT.convBytes (xs := v_317) rfl (dl rfl rfl) Try.underlying29 Try.underlying5 Try.underlying9 hm.s0 ⟨(fun _ => undef, 0), rfl⟩)) (fun γ_294 => Ct.met_of rfl rfl) ?_
                  refine DGG.step (c := fun γ_294 => ⟨some 84, .int .u32 x0, [(0, .int .u32 x0), (78, .bool (decide (v_314 < (128 : Int))))], [], []⟩) [] (fun _ _ _ => rfl) (fun γ_294 t hm => One.step rfl (.on rfl rfl hm.s1 c_316) (OpT.move rfl (dl rfl rfl) hm.s0 ⟨(fun _ => undef, 0), rfl⟩)) (fun γ_294 => Ct.met_of rfl rfl) ?_
                  refine DGG.step (c := fun γ_294 => ⟨some 85, .int .i64 (IntKind.i64.wrap x0), [(84, .int .u32 x0), (78, .bool (decide (v_314 < (128 : Int))))], [], []⟩) [] (fun _ _ _ => rfl) (fun γ_294 t hm => One.step rfl (.on rfl rfl hm.s1 c_316) (OpT.convInt rfl (dl rfl rfl) Try.underlying37 Try.underlying3 hm.s0 ⟨(fun _ => undef, 0), rfl⟩)) (fun γ_294 => Ct.met_of rfl rfl) ?_
                  obtain ⟨v_319, e_320, h⟩ := bind_some h
                  refine DGG.step (c := fun γ_294 => ⟨some 86, .sl false 1 (v_319.map (cI .u8)), [(85, .int .i64 (IntKind.i64.wrap x0)), (78, .bool (decide (v_314 < (128 : Int))))], [(1, .ro 0 [])], [(1, .arrA ((γ_294 49).1 0) 5 1 (v_319.map (cI .u8)))]⟩) [49] (fun γ_294 γ' h => by simp only [h 49 (by decide)]) (fun γ_294 t hm => One.step rfl (.on rfl rfl hm.s1 c_316) (OpT.thenTurnG (OpT.callG (is := [1]) (ph := [.ro 0 []]) rfl (dl rfl rfl) Try.func14 rfl rfl (Args.nilSl rfl (Args.cons hm.s0 Args.nil)) (table_Number_T K (flx0 := false) e_320) (.cons hm.o0 rfl (.nil)) (fun _ => rfl) (fun g => ⟨g, rfl⟩)) (fun g => Turn.viewP 86 1 (AtO.get (AtO.setAll (.cons hm.o0 rfl (.nil)) (by exact rfl)) (k := 0) rfl rfl)) (fun g => ⟨(g, 0), rfl⟩))) (fun γ_294 => Ct.met_of rfl rfl) ?_
                  refine DGG.step (c := fun γ_294 => ⟨some 87, .str (ofBytes v_319), [(86, .sl false 1 (v_319.map (cI .u8))), (78, .bool (decide (v_314 < (128 : Int))))], [], []⟩) [] (fun _ _ _ => rfl) (fun γ_294 t hm => One.step rfl (.on rfl rfl hm.s1 c_316) (OpT.convBytes (xs := v_319) rfl (dl rfl rfl) Try.underlying29 Try.underlying5 Try.underlying9 hm.s0 ⟨(fun _ => undef, 0), rfl⟩)) (fun γ_294 => Ct.met_of rfl rfl) ?_
                  refine DGG.step (c := fun γ_294 => ⟨some 88, .bool (Op.bytesLess (ofBytes v_317).toList (ofBytes v_319).toList || (ofBytes v_317).toList == (ofBytes v_319).toList), [(83, .str (ofBytes v_317)), (87, .str (ofBytes v_319)), (78, .bool (decide (v_314 < (128 : Int))))], [], []⟩) [] (fun _ _ _ => rfl) (fun γ_294 t hm => One.step rfl (.on rfl rfl hm.s2 c_316) (OpT.str_leq rfl (dl rfl rfl) hm.s0 hm.s1 ⟨(fun _ => undef, 0), rfl⟩)) (fun γ_294 => Ct.met_of rfl rfl) ?_
                  refine DGG.step (c := fun γ_294 => ⟨some 89, .bool (Op.bytesLess (ofBytes v_317).toList (ofBytes v_319).toList || (ofBytes v_317).toList == (ofBytes v_319).toList), [(78, .bool (decide (v_314 < (128 : Int)))), (88, .bool (Op.bytesLess (ofBytes v_317).toList (ofBytes v_319).toList || (ofBytes v_317).toList == (ofBytes v_319).toList))], [], []⟩) [] (fun _ _ _ => rfl) (fun γ_294 t hm => One.step rfl (.free rfl) (OpT.pickT rfl (dl rfl rfl) hm.s0 c_316 hm.s1 ⟨(fun _ => undef, 0), rfl⟩)) (fun γ_294 => Ct.met_of rfl rfl) ?_
                  refine DGG.step (c := fun γ_294 => ⟨some 4, .bool (Op.bytesLess (ofBytes v_317).toList (ofBytes v_319).toList || (ofBytes v_317).toList == (ofBytes v_319).toList), [(89, .bool (Op.bytesLess (ofBytes v_317).toList (ofBytes v_319).toList || (ofBytes v_317).toList == (ofBytes v_319).toList))], [], []⟩) [] (fun _ _ _ => rfl) (fun γ_294 t hm => One.step rfl (.free rfl) (OpT.assign rfl (dl rfl rfl) hm.s0 ⟨(fun _ => undef, 0), rfl⟩)) (fun γ_294 => Ct.met_of rfl rfl) ?_
                  refine DGG.fin (s1 := fun γ_294 => ⟨[(4, .bool (Op.bytesLess (ofBytes v_317).toList (ofBytes v_319).toList || (ofBytes v_317).toList == (ofBytes v_319).toList))], [.arrA ((γ_294 45).1 0) 5 1 (v_317.map (cI .u8)), .arrA ((γ_294 49).1 0) 5 1 (v_319.map (cI .u8)), .arrA w6_0 5 1 (y6_0_3.map (cI .u8)), .arrA w7_0 5 1 (y7_0_4.map (cI .u8))]⟩) (ms := [0, 1, 3, 7, 3, 19, 63, 127, 255, 511, 1023, 511, 2559, 8191, 511, 511, 49663, 131071, 262143, 524287, 1048575, 1048575, 1048575, 7340031, 15728639, 33554431, 67108863, 134217727, 268435455, 536870911, 1073741823, 2147483647, 4294967295, 8589934591, 8589934591, 25769803775, 60129542143, 137438953471, 274877906943, 549755813887, 1099511627775, 2199023255551, 4398046511103, 8796093022207, 17592186044415, 35184372088831, 70368744177663, 4398046511103, 145135534866431, 492581209243647, 1055531162664959, 2251799813685247, 4503599627370495, 9007199254740991]) TryMixed rfl (by kernel_rfl) (by kernel_rfl) (by kernel_rfl) (fun γ_294 => by kernel_rfl) (fun γ_294 => .cons rfl (.nil _)) (fun _ => rfl) (fun γ_294 u hu => (thenS_normal (T.by_turn hu ?_)))
                  refine T.ret ?_
                  exact Fin.done (.cons _ _ _ _ (.tmp 4 _ rfl) .nil) (by cases h; exact ⟨rfl, rfl⟩)
                · refine DGG.off c_316 rfl rfl rfl rfl rfl (fun _ => rfl) ?_
                  refine DGG.off c_316 rfl rfl rfl rfl rfl (fun _ => rfl) ?_
                  refine DGG.off c_316 rfl rfl rfl rfl rfl (fun _ => rfl) ?_
                  refine DGG.off c_316 rfl rfl rfl rfl rfl (fun _ => rfl) ?_
                  refine DGG.off c_316 rfl rfl rfl rfl rfl (fun _ => rfl) ?_
                  refine DGG.off c_316 rfl rfl rfl rfl rfl (fun _ => rfl) ?_
                  refine DGG.off c_316 rfl rfl rfl rfl rfl (fun _ => rfl) ?_
                  refine DGG.off c_316 rfl rfl rfl rfl rfl (fun _ => rfl) ?_
                  refine DGG.off c_316 rfl rfl rfl rfl rfl (fun _ => rfl) ?_
                  refine DGG.off c_316 rfl rfl rfl rfl rfl (fun _ => rfl) ?_
                  refine DGG.step (c := fun γ_294 => ⟨some 89, .bool false, [(78, .bool (decide (v_314 < (128 : Int))))], [], []⟩) [] (fun _ _ _ => rfl) (fun γ_294 t hm => One.step rfl (.free rfl) (OpT.pickF rfl (dl rfl rfl) hm.s0 c_316 rfl ⟨(fun _ => undef, 0), rfl⟩)) (fun γ_294 => Ct.met_of rfl rfl) ?_
                  refine DGG.step (c := fun γ_294 => ⟨some 4, .bool false, [(89, .bool false)], [], []⟩) [] (fun _ _ _ => rfl) (fun γ_294 t hm => One.step rfl (.free rfl) (OpT.assign rfl (dl rfl rfl) hm.s0 ⟨(fun _ => undef, 0), rfl⟩)) (fun γ_294 => Ct.met_of rfl rfl) ?_
                  refine DGG.fin (s1 := fun γ_294 => ⟨[(4, .bool false)], [.ro 0 [], .ro 0 [], .arrA w6_0 5 1 (y6_0_3.map (cI .u8)), .arrA w7_0 5 1 (y7_0_4.map (cI .u8))]⟩) (ms := [0, 1, 3, 7, 3, 19, 63, 127, 255, 511, 1023, 511, 2559, 8191, 511, 511, 49663, 131071, 262143, 524287, 1048575, 1048575, 1048575, 7340031, 15728639, 33554431, 67108863, 134217727, 268435455, 536870911, 1073741823, 2147483647, 4294967295, 8589934591, 8589934591, 25769803775, 60129542143, 137438953471, 274877906943, 549755813887, 1099511627775, 2199023255551, 4398046511103, 8796093022207, 17592186044415, 35184372088831, 70368744177663, 4398046511103, 145135534866431, 492581209243647, 1055531162664959, 2251799813685247, 4503599627370495, 9007199254740991]) TryMixed rfl (by kernel_rfl) (by kernel_rfl) (by kernel_rfl) (fun γ_294 => by kernel_rfl) (fun γ_294 => .cons rfl (.nil _)) (fun _ => rfl) (fun γ_294 u hu => (thenS_normal (T.by_turn hu ?_)))
                  refine T.ret ?_
                  exact Fin.done (.cons _ _ _ _ (.tmp 4 _ rfl) .nil) (by cases h; exact ⟨rfl, rfl⟩)
              · refine DGG.off c_313 rfl rfl rfl rfl rfl (fun _ => rfl) ?_
                refine DGG.off c_313 rfl rfl rfl rfl rfl (fun _ => rfl) ?_
                refine DGG.off c_313 rfl rfl rfl rfl rfl (fun _ => rfl) ?_
                refine DGG.off c_313 rfl rfl rfl rfl rfl (fun _ => rfl) ?_
                refine DGG.off c_313 rfl rfl rfl rfl rfl (fun _ => rfl) ?_
                refine DGG.off c_313 rfl rfl rfl rfl rfl (fun _ => rfl) ?_
                refine DGG.off c_313 rfl rfl rfl rfl rfl (fun _ => rfl) ?_
                refine DGG.step (c := fun γ_294 => ⟨some 77, .bool false, [(69, .bool (decide ((y6_0_3.length : Int) ≥ (1 : Int))))], [], []⟩) [] (fun _ _ _ => rfl) (fun γ_294 t hm => One.step rfl (.free rfl) (OpT.pickF rfl (dl rfl rfl) hm.s0 c_313 rfl ⟨(fun _ => undef, 0), rfl⟩)) (fun γ_294 => Ct.met_of rfl rfl) ?_
                refine DGG.step (c := fun γ_294 => ⟨some 78, .bool false, [(77, .bool false)], [], []⟩) [] (fun _ _ _ => rfl) (fun γ_294 t hm => One.step rfl (.free rfl) (OpT.move rfl (dl rfl rfl) hm.s0 ⟨(fun _ => undef, 0), rfl⟩)) (fun γ_294 => Ct.met_of rfl rfl) ?_
                refine DGG.off rfl rfl rfl rfl rfl rfl (fun _ => rfl) ?_
                refine DGG.off rfl rfl rfl rfl rfl rfl (fun _ => rfl) ?_
                refine DGG.off rfl rfl rfl rfl rfl rfl (fun _ => rfl) ?_
                refine DGG.off rfl rfl rfl rfl rfl rfl (fun _ => rfl) ?_
                refine DGG.off rfl rfl rfl rfl rfl rfl (fun _ => rfl) ?_
                refine DGG.off rfl rfl rfl rfl rfl rfl (fun _ => rfl) ?_
                refine DGG.off rfl rfl rfl rfl rfl rfl (fun _ => rfl) ?_
                refine DGG.off rfl rfl rfl rfl rfl rfl (fun _ => rfl) ?_
                refine DGG.off rfl rfl rfl rfl rfl rfl (fun _ => rfl) ?_
                refine DGG.off rfl rfl rfl rfl rfl rfl (fun _ => rfl) ?_
                refine DGG.step (c := fun γ_294 => ⟨some 89, .bool false, [(78, .bool false)], [], []⟩) [] (fun _ _ _ => rfl) (fun γ_294 t hm => One.step rfl (.free rfl) (OpT.pickF rfl (dl rfl rfl) hm.s0 rfl rfl ⟨(fun _ => undef, 0), rfl⟩)) (fun γ_294 => Ct.met_of rfl rfl) ?_
                refine DGG.step (c := fun γ_294 => ⟨some 4, .bool false, [(89, .bool false)], [], []⟩) [] (fun _ _ _ => rfl) (fun γ_294 t hm => One.step rfl (.free rfl) (OpT.assign rfl (dl rfl rfl) hm.s0 ⟨(fun _ => undef, 0), rfl⟩)) (fun γ_294 => Ct.met_of rfl rfl) ?_
                refine DGG.fin (s1 := fun γ_294 => ⟨[(4, .bool false)], [.ro 0 [], .ro 0 [], .arrA w6_0 5 1 (y6_0_3.map (cI .u8)), .arrA w7_0 5 1 (y7_0_4.map (cI .u8))]⟩) (ms := [0, 1, 3, 7, 3, 19, 63, 127, 255, 511, 1023, 511, 2559, 8191, 511, 511, 49663, 131071, 262143, 524287, 1048575, 1048575, 1048575, 7340031, 15728639, 33554431, 67108863, 134217727, 268435455, 536870911, 1073741823, 2147483647, 4294967295, 8589934591, 8589934591, 25769803775, 60129542143, 137438953471, 274877906943, 549755813887, 1099511627775, 2199023255551, 4398046511103, 8796093022207, 17592186044415, 35184372088831, 70368744177663, 4398046511103, 145135534866431, 492581209243647, 1055531162664959, 2251799813685247, 4503599627370495, 9007199254740991]) TryMixed rfl (by kernel_rfl) (by kernel_rfl) (by kernel_rfl) (fun γ_294 => by kernel_rfl) (fun γ_294 => .cons rfl (.nil _)) (fun _ => rfl) (fun γ_294 u hu => (thenS_normal (T.by_turn hu ?_)))
                refine T.ret ?_
                exact Fin.done (.cons _ _ _ _ (.tmp 4 _ rfl) .nil) (by cases h; exact ⟨rfl, rfl⟩)
            · refine DGG.off c_312 rfl rfl rfl rfl rfl (fun _ => rfl) ?_
              refine DGG.off c_312 rfl rfl rfl rfl rfl (fun _ => rfl) ?_
              refine DGG.off c_312 rfl rfl rfl rfl rfl (fun _ => rfl) ?_
              refine DGG.step (c := fun γ_294 => ⟨some 68, .bool false, [(64, .bool (x8_0_5 == (IntKind.i64.wrap (if x1 < x0 then x1 else x0))))], [], []⟩) [] (fun _ _ _ => rfl) (fun γ_294 t hm => One.step rfl (.free rfl) (OpT.pickF rfl (dl rfl rfl) hm.s0 c_312 rfl ⟨(fun _ => undef, 0), rfl⟩)) (fun γ_294 => Ct.met_of rfl rfl) ?_
              refine DGG.step (c := fun γ_294 => ⟨some 69, .bool false, [(68, .bool false)], [], []⟩) [] (fun _ _ _ => rfl) (fun γ_294 t hm => One.step rfl (.free rfl) (OpT.move rfl (dl rfl rfl) hm.s0 ⟨(fun _ => undef, 0), rfl⟩)) (fun γ_294 => Ct.met_of rfl rfl) ?_
              refine DGG.off rfl rfl rfl rfl rfl rfl (fun _ => rfl) ?_
              refine DGG.off rfl rfl rfl rfl rfl rfl (fun _ => rfl) ?_
              refine DGG.off rfl rfl rfl rfl rfl rfl (fun _ => rfl) ?_
              refine DGG.off rfl rfl rfl rfl rfl rfl (fun _ => rfl) ?_
              refine DGG.off rfl rfl rfl rfl rfl rfl (fun _ => rfl) ?_
              refine DGG.off rfl rfl rfl rfl rfl rfl (fun _ => rfl) ?_
              refine DGG.off rfl rfl rfl rfl rfl rfl (fun _ => rfl) ?_
              refine DGG.step (c := fun γ_294 => ⟨some 77, .bool false, [(69, .bool false)], [], []⟩) [] (fun _ _ _ => rfl) (fun γ_294 t hm => One.step rfl (.free rfl) (OpT.pickF rfl (dl rfl rfl) hm.s0 rfl rfl ⟨(fun _ => undef, 0), rfl⟩)) (fun γ_294 => Ct.met_of rfl rfl) ?_
              refine DGG.step (c := fun γ_294 => ⟨some 78, .bool false, [(77, .bool false)], [], []⟩) [] (fun _ _ _ => rfl) (fun γ_294 t hm => One.step rfl (.free rfl) (OpT.move rfl (dl rfl rfl) hm.s0 ⟨(fun _ => undef, 0), rfl⟩)) (fun γ_294 => Ct.met_of rfl rfl) ?_
              refine DGG.off rfl rfl rfl rfl rfl rfl (fun _ => rfl) ?_
              refine DGG.off rfl rfl rfl rfl rfl rfl (fun _ => rfl) ?_
              refine DGG.off rfl rfl rfl rfl rfl rfl (fun _ => rfl) ?_
              refine DGG.off rfl rfl rfl rfl rfl rfl (fun _ => rfl) ?_
              refine DGG.off rfl rfl rfl rfl rfl rfl (fun _ => rfl) ?_
              refine DGG.off rfl rfl rfl rfl rfl rfl (fun _ => rfl) ?_
              refine DGG.off rfl rfl rfl rfl rfl rfl (fun _ => rfl) ?_
              refine DGG.off rfl rfl rfl rfl rfl rfl (fun _ => rfl) ?_
              refine DGG.off rfl rfl rfl rfl rfl rfl (fun _ => rfl) ?_
              refine DGG.off rfl rfl rfl rfl rfl rfl (fun _ => rfl) ?_
              refine DGG.step (c := fun γ_294 => ⟨some 89, .bool false, [(78, .bool false)], [], []⟩) [] (fun _ _ _ => rfl) (fun γ_294 t hm => One.step rfl (.free rfl) (OpT.pickF rfl (dl rfl rfl) hm.s0 rfl rfl ⟨(fun _ => undef, 0), rfl⟩)) (fun γ_294 => Ct.met_of rfl rfl) ?_
              refine DGG.step (c := fun γ_294 => ⟨some 4, .bool false, [(89, .bool false)], [], []⟩) [] (fun _ _ _ => rfl) (fun γ_294 t hm => One.step rfl (.free rfl) (OpT.assign rfl (dl rfl rfl) hm.s0 ⟨(fun _ => undef, 0), rfl⟩)) (fun γ_294 => Ct.met_of rfl rfl) ?_
              refine DGG.fin (s1 := fun γ_294 => ⟨[(4, .bool false)], [.ro 0 [], .ro 0 [], .arrA w6_0 5 1 (y6_0_3.map (cI .u8)), .arrA w7_0 5 1 (y7_0_4.map (cI .u8))]⟩) (ms := [0, 1, 3, 7, 3, 19, 63, 127, 255, 511, 1023, 511, 2559, 8191, 511, 511, 49663, 131071, 262143, 524287, 1048575, 1048575, 1048575, 7340031, 15728639, 33554431, 67108863, 134217727, 268435455, 536870911, 1073741823, 2147483647, 4294967295, 8589934591, 8589934591, 25769803775, 60129542143, 137438953471, 274877906943, 549755813887, 1099511627775, 2199023255551, 4398046511103, 8796093022207, 17592186044415, 35184372088831, 70368744177663, 4398046511103, 145135534866431, 492581209243647, 1055531162664959, 2251799813685247, 4503599627370495, 9007199254740991]) TryMixed rfl (by kernel_rfl) (by kernel_rfl) (by kernel_rfl) (fun γ_294 => by kernel_rfl) (fun γ_294 => .cons rfl (.nil _)) (fun _ => rfl) (fun γ_294 u hu => (thenS_normal (T.by_turn hu ?_)))
              refine T.ret ?_
              exact Fin.done (.cons _ _ _ _ (.tmp 4 _ rfl) .nil) (by cases h; exact ⟨rfl, rfl⟩)
          · refine DGG.off c_311 rfl rfl rfl rfl rfl (fun _ => rfl) ?_
            refine DGG.off c_311 rfl rfl rfl rfl rfl (fun _ => rfl) ?_
            refine DGG.off c_311 rfl rfl rfl rfl rfl (fun _ => rfl) ?_
            refine DGG.off c_311 rfl rfl rfl rfl rfl (fun _ => rfl) ?_
            refine DGG.off c_311 rfl rfl rfl rfl rfl (fun _ => rfl) ?_
            refine DGG.off c_311 rfl rfl rfl rfl rfl (fun _ => rfl) ?_
            refine DGG.step (c := fun γ_294 => ⟨some 63, .bool false, [(56, .bool (((ofBytes y6_0_3).toList == (ofBytes y7_0_4).toList) == (x0 == x1)))], [], []⟩) [] (fun _ _ _ => rfl) (fun γ_294 t hm => One.step rfl (.free rfl) (OpT.pickF rfl (dl rfl rfl) hm.s0 c_311 rfl ⟨(fun _ => undef, 0), rfl⟩)) (fun γ_294 => Ct.met_of rfl rfl) ?_
            refine DGG.step (c := fun γ_294 => ⟨some 64, .bool false, [(63, .bool false)], [], []⟩) [] (fun _ _ _ => rfl) (fun γ_294 t hm => One.step rfl (.free rfl) (OpT.move rfl (dl rfl rfl) hm.s0 ⟨(fun _ => undef, 0), rfl⟩)) (fun γ_294 => Ct.met_of rfl rfl) ?_
            refine DGG.off rfl rfl rfl rfl rfl rfl (fun _ => rfl) ?_
            refine DGG.off rfl rfl rfl rfl rfl rfl (fun _ => rfl) ?_
            refine DGG.off rfl rfl rfl rfl rfl rfl (fun _ => rfl) ?_
            refine DGG.step (c := fun γ_294 => ⟨some 68, .bool false, [(64, .bool false)], [], []⟩) [] (fun _ _ _ => rfl) (fun γ_294 t hm => One.step rfl (.free rfl) (OpT.pickF rfl (dl rfl rfl) hm.s0 rfl rfl ⟨(fun _ => undef, 0), rfl⟩)) (fun γ_294 => Ct.met_of rfl rfl) ?_
            refine DGG.step (c := fun γ_294 => ⟨some 69, .bool false, [(68, .bool false)], [], []⟩) [] (fun _ _ _ => rfl) (fun γ_294 t hm => One.step rfl (.free rfl) (OpT.move rfl (dl rfl rfl) hm.s0 ⟨(fun _ => undef, 0), rfl⟩)) (fun γ_294 => Ct.met_of rfl rfl) ?_
            refine DGG.off rfl rfl rfl rfl rfl rfl (fun _ => rfl) ?_
            refine DGG.off rfl rfl rfl rfl rfl rfl (fun _ => rfl) ?_
            refine DGG.off rfl rfl rfl rfl rfl rfl (fun _ => rfl) ?_
            refine DGG.off rfl rfl rfl rfl rfl rfl (fun _ => rfl) ?_
            refine DGG.off rfl rfl rfl rfl rfl rfl (fun _ => rfl) ?_
            refine DGG.off rfl rfl rfl rfl rfl rfl (fun _ => rfl) ?_
            refine DGG.off rfl rfl rfl rfl rfl rfl (fun _ => rfl) ?_
            refine DGG.step (c := fun γ_294 => ⟨some 77, .bool false, [(69, .bool false)], [], []⟩) [] (fun _ _ _ => rfl) (fun γ_294 t hm => One.step rfl (.free rfl) (OpT.pickF rfl (dl rfl rfl) hm.s0 rfl rfl ⟨(fun _ => undef, 0), rfl⟩)) (fun γ_294 => Ct.met_of rfl rfl) ?_
            refine DGG.step (c := fun γ_294 => ⟨some 78, .bool false, [(77, .bool false)], [], []⟩) [] (fun _ _ _ => rfl) (fun γ_294 t hm => One.step rfl (.free rfl) (OpT.move rfl (dl rfl rfl) hm.s0 ⟨(fun _ => undef, 0), rfl⟩)) (fun γ_294 => Ct.met_of rfl rfl) ?_
            refine DGG.off rfl rfl rfl rfl rfl rfl (fun _ => rfl) ?_
            refine DGG.off rfl rfl rfl rfl rfl rfl (fun _ => rfl) ?_
            refine DGG.off rfl rfl rfl rfl rfl rfl (fun _ => rfl) ?_
            refine DGG.off rfl rfl rfl rfl rfl rfl (fun _ => rfl) ?_
            refine DGG.off rfl rfl rfl rfl rfl rfl (fun _ => rfl) ?_
            refine DGG.off rfl rfl rfl rfl rfl rfl (fun _ => rfl) ?_
            refine DGG.off rfl rfl rfl rfl rfl rfl (fun _ => rfl) ?_
            refine DGG.off rfl rfl rfl rfl rfl rfl (fun _ => rfl) ?_
            refine DGG.off rfl rfl rfl rfl rfl rfl (fun _ => rfl) ?_
            refine DGG.off rfl rfl rfl rfl rfl rfl (fun _ => rfl) ?_
            refine DGG.step (c := fun γ_294 => ⟨some 89, .bool false, [(78, .bool false)], [], []⟩) [] (fun _ _ _ => rfl) (fun γ_294 t hm => One.step rfl (.free rfl) (OpT.pickF rfl (dl rfl rfl) hm.s0 rfl rfl ⟨(fun _ => undef, 0), rfl⟩)) (fun γ_294 => Ct.met_of rfl rfl) ?_
            refine DGG.step (c := fun γ_294 => ⟨some 4, .bool false, [(89, .bool false)], [], []⟩) [] (fun _ _ _ => rfl) (fun γ_294 t hm => One.step rfl (.free rfl) (OpT.assign rfl (dl rfl rfl) hm.s0 ⟨(fun _ => undef, 0), rfl⟩)) (fun γ_294 => Ct.met_of rfl rfl) ?_
            refine DGG.fin (s1 := fun γ_294 => ⟨[(4, .bool false)], [.ro 0 [], .ro 0 [], .arrA w6_0 5 1 (y6_0_3.map (cI .u8)), .arrA w7_0 5 1 (y7_0_4.map (cI .u8))]⟩) (ms := [0, 1, 3, 7, 3, 19, 63, 127, 255, 511, 1023, 511, 2559, 8191, 511, 511, 49663, 131071, 262143, 524287, 1048575, 1048575, 1048575, 7340031, 15728639, 33554431, 67108863, 134217727, 268435455, 536870911, 1073741823, 2147483647, 4294967295, 8589934591, 8589934591, 25769803775, 60129542143, 137438953471, 274877906943, 549755813887, 1099511627775, 2199023255551, 4398046511103, 8796093022207, 17592186044415, 35184372088831, 70368744177663, 4398046511103, 145135534866431, 492581209243647, 1055531162664959, 2251799813685247, 4503599627370495, 9007199254740991]) TryMixed rfl (by kernel_rfl) (by kernel_rfl) (by kernel_rfl) (fun γ_294 => by kernel_rfl) (fun γ_294 => .cons rfl (.nil _)) (fun _ => rfl) (fun γ_294 u hu => (thenS_normal (T.by_turn hu ?_)))
            refine T.ret ?_
            exact Fin.done (.cons _ _ _ _ (.tmp 4 _ rfl) .nil) (by cases h; exact ⟨rfl, rfl⟩)
        · refine DGG.off c_310 rfl rfl rfl rfl rfl (fun _ => rfl) ?_
          refine DGG.off c_310 rfl rfl rfl rfl rfl (fun _ => rfl) ?_
          refine DGG.off c_310 rfl rfl rfl rfl rfl (fun _ => rfl) ?_
          refine DGG.off c_310 rfl rfl rfl rfl rfl (fun _ => rfl) ?_
          refine DGG.off c_310 rfl rfl rfl rfl rfl (fun _ => rfl) ?_
          refine DGG.off c_310 rfl rfl rfl rfl rfl (fun _ => rfl) ?_
          refine DGG.off c_310 rfl rfl rfl rfl rfl (fun _ => rfl) ?_
          refine DGG.off c_310 rfl rfl rfl rfl rfl (fun _ => rfl) ?_
          refine DGG.off c_310 rfl rfl rfl rfl rfl (fun _ => rfl) ?_
          refine DGG.step (c := fun γ_294 => ⟨some 55, .bool false, [(45, .bool (decide ((y6_0_3.length : Int) ≤ (y7_0_4.length : Int))))], [], []⟩) [] (fun _ _ _ => rfl) (fun γ_294 t hm => One.step rfl (.free rfl) (OpT.pickF rfl (dl rfl rfl) hm.s0 c_310 rfl ⟨(fun _ => undef, 0), rfl⟩)) (fun γ_294 => Ct.met_of rfl rfl) ?_
          refine DGG.step (c := fun γ_294 => ⟨some 56, .bool false, [(55, .bool false)], [], []⟩) [] (fun _ _ _ => rfl) (fun γ_294 t hm => One.step rfl (.free rfl) (OpT.move rfl (dl rfl rfl) hm.s0 ⟨(fun _ => undef, 0), rfl⟩)) (fun γ_294 => Ct.met_of rfl rfl) ?_
          refine DGG.off rfl rfl rfl rfl rfl rfl (fun _ => rfl) ?_
          refine DGG.off rfl rfl rfl rfl rfl rfl (fun _ => rfl) ?_
          refine DGG.off rfl rfl rfl rfl rfl rfl (fun _ => rfl) ?_
          refine DGG.off rfl rfl rfl rfl rfl rfl (fun _ => rfl) ?_
          refine DGG.off rfl rfl rfl rfl rfl rfl (fun _ => rfl) ?_
          refine DGG.off rfl rfl rfl rfl rfl rfl (fun _ => rfl) ?_
          refine DGG.step (c := fun γ_294 => ⟨some 63, .bool false, [(56, .bool false)], [], []⟩) [] (fun _ _ _ => rfl) (fun γ_294 t hm => One.step rfl (.free rfl) (OpT.pickF rfl (dl rfl rfl) hm.s0 rfl rfl ⟨(fun _ => undef, 0), rfl⟩)) (fun γ_294 => Ct.met_of rfl rfl) ?_
          refine DGG.step (c := fun γ_294 => ⟨some 64, .bool false, [(63, .bool false)], [], []⟩) [] (fun _ _ _ => rfl) (fun γ_294 t hm => One.step rfl (.free rfl) (OpT.move rfl (dl rfl rfl) hm.s0 ⟨(fun _ => undef, 0), rfl⟩)) (fun γ_294 => Ct.met_of rfl rfl) ?_
          refine DGG.off rfl rfl rfl rfl rfl rfl (fun _ => rfl) ?_
          refine DGG.off rfl rfl rfl rfl rfl rfl (fun _ => rfl) ?_
          refine DGG.off rfl rfl rfl rfl rfl rfl (fun _ => rfl) ?_
          refine DGG.step (c := fun γ_294 => ⟨some 68, .bool false, [(64, .bool false)], [], []⟩) [] (fun _ _ _ => rfl) (fun γ_294 t hm => One.step rfl (.free rfl) (OpT.pickF rfl (dl rfl rfl) hm.s0 rfl rfl ⟨(fun _ => undef, 0), rfl⟩)) (fun γ_294 => Ct.met_of rfl rfl) ?_
          refine DGG.step (c := fun γ_294 => ⟨some 69, .bool false, [(68, .bool false)], [], []⟩) [] (fun _ _ _ => rfl) (fun γ_294 t hm => One.step rfl (.free rfl) (OpT.move rfl (dl rfl rfl) hm.s0 ⟨(fun _ => undef, 0), rfl⟩)) (fun γ_294 => Ct.met_of rfl rfl) ?_
          refine DGG.off rfl rfl rfl rfl rfl rfl (fun _ => rfl) ?_
          refine DGG.off rfl rfl rfl rfl rfl rfl (fun _ => rfl) ?_
          refine DGG.off rfl rfl rfl rfl rfl rfl (fun _ => rfl) ?_
          refine DGG.off rfl rfl rfl rfl rfl rfl (fun _ => rfl) ?_
          refine DGG.off rfl rfl rfl rfl rfl rfl (fun _ => rfl) ?_
          refine DGG.off rfl rfl rfl rfl rfl rfl (fun _ => rfl) ?_
          refine DGG.off rfl rfl rfl rfl rfl rfl (fun _ => rfl) ?_
          refine DGG.step (c := fun γ_294 => ⟨some 77, .bool false, [(69, .bool false)], [], []⟩) [] (fun _ _ _ => rfl) (fun γ_294 t hm => One.step rfl (.free rfl) (OpT.pickF rfl (dl rfl rfl) hm.s0 rfl rfl ⟨(fun _ => undef, 0), rfl⟩)) (fun γ_294 => Ct.met_of rfl rfl) ?_
          refine DGG.step (c := fun γ_294 => ⟨some 78, .bool false, [(77, .bool false)], [], []⟩) [] (fun _ _ _ => rfl) (fun γ_294 t hm => One.step rfl (.free rfl) (OpT.move rfl (dl rfl rfl) hm.s0 ⟨(fun _ => undef, 0), rfl⟩)) (fun γ_294 => Ct.met_of rfl rfl) ?_
          refine DGG.off rfl rfl rfl rfl rfl rfl (fun _ => rfl) ?_
          refine DGG.off rfl rfl rfl rfl rfl rfl (fun _ => rfl) ?_
          refine DGG.off rfl rfl rfl rfl rfl rfl (fun _ => rfl) ?_
          refine DGG.off rfl rfl rfl rfl rfl rfl (fun _ => rfl) ?_
          refine DGG.off rfl rfl rfl rfl rfl rfl (fun _ => rfl) ?_
          refine DGG.off rfl rfl rfl rfl rfl rfl (fun _ => rfl) ?_
          refine DGG.off rfl rfl rfl rfl rfl rfl (fun _ => rfl) ?_
          refine DGG.off rfl rfl rfl rfl rfl rfl (fun _ => rfl) ?_
          refine DGG.off rfl rfl rfl rfl rfl rfl (fun _ => rfl) ?_
          refine DGG.off rfl rfl rfl rfl rfl rfl (fun _ => rfl) ?_
          refine DGG.step (c := fun γ_294 => ⟨some 89, .bool false, [(78, .bool false)], [], []⟩) [] (fun _ _ _ => rfl) (fun γ_294 t hm => One.step rfl (.free rfl) (OpT.pickF rfl (dl rfl rfl) hm.s0 rfl rfl ⟨(fun _ => undef, 0), rfl⟩)) (fun γ_294 => Ct.met_of rfl rfl) ?_
          refine DGG.step (c := fun γ_294 => ⟨some 4, .bool false, [(89, .bool false)], [], []⟩) [] (fun _ _ _ => rfl) (fun γ_294 t hm => One.step rfl (.free rfl) (OpT.assign rfl (dl rfl rfl) hm.s0 ⟨(fun _ => undef, 0), rfl⟩)) (fun γ_294 => Ct.met_of rfl rfl) ?_
          refine DGG.fin (s1 := fun γ_294 => ⟨[(4, .bool false)], [.ro 0 [], .ro 0 [], .arrA w6_0 5 1 (y6_0_3.map (cI .u8)), .arrA w7_0 5 1 (y7_0_4.map (cI .u8))]⟩) (ms := [0, 1, 3, 7, 3, 19, 63, 127, 255, 511, 1023, 511, 2559, 8191, 511, 511, 49663, 131071, 262143, 524287, 1048575, 1048575, 1048575, 7340031, 15728639, 33554431, 67108863, 134217727, 268435455, 536870911, 1073741823, 2147483647, 4294967295, 8589934591, 8589934591, 25769803775, 60129542143, 137438953471, 274877906943, 549755813887, 1099511627775, 2199023255551, 4398046511103, 8796093022207, 17592186044415, 35184372088831, 70368744177663, 4398046511103, 145135534866431, 492581209243647, 1055531162664959, 2251799813685247, 4503599627370495, 9007199254740991]) TryMixed rfl (by kernel_rfl) (by kernel_rfl) (by kernel_rfl) (fun γ_294 => by kernel_rfl) (fun γ_294 => .cons rfl (.nil _)) (fun _ => rfl) (fun γ_294 u hu => (thenS_normal (T.by_turn hu ?_)))
          refine T.ret ?_
          exact Fin.done (.cons _ _ _ _ (.tmp 4 _ rfl) .nil) (by cases h; exact ⟨rfl, rfl⟩)
      · refine DGG.off c_309 rfl rfl rfl rfl rfl (fun _ => rfl) ?_
        refine DGG.off c_309 rfl rfl rfl rfl rfl (fun _ => rfl) ?_
        refine DGG.off c_309 rfl rfl rfl rfl rfl (fun _ => rfl) ?_
        refine DGG.off c_309 rfl rfl rfl rfl rfl (fun _ => rfl) ?_
        refine DGG.off c_309 rfl rfl rfl rfl rfl (fun _ => rfl) ?_
        refine DGG.step (c := fun γ_294 => ⟨some 44, .bool false, [(38, .bool x5_0_2)], [], []⟩) [] (fun _ _ _ => rfl) (fun γ_294 t hm => One.step rfl (.free rfl) (OpT.pickF rfl (dl rfl rfl) hm.s0 c_309 rfl ⟨(fun _ => undef, 0), rfl⟩)) (fun γ_294 => Ct.met_of rfl rfl) ?_
        refine DGG.step (c := fun γ_294 => ⟨some 45, .bool false, [(44, .bool false)], [], []⟩) [] (fun _ _ _ => rfl) (fun γ_294 t hm => One.step rfl (.free rfl) (OpT.move rfl (dl rfl rfl) hm.s0 ⟨(fun _ => undef, 0), rfl⟩)) (fun γ_294 => Ct.met_of rfl rfl) ?_
        refine DGG.off rfl rfl rfl rfl rfl rfl (fun _ => rfl) ?_
        refine DGG.off rfl rfl rfl rfl rfl rfl (fun _ => rfl) ?_
        refine DGG.off rfl rfl rfl rfl rfl rfl (fun _ => rfl) ?_
        refine DGG.off rfl rfl rfl rfl rfl rfl (fun _ => rfl) ?_
        refine DGG.off rfl rfl rfl rfl rfl rfl (fun _ => rfl) ?_
        refine DGG.off rfl rfl rfl rfl rfl rfl (fun _ => rfl) ?_
        refine DGG.off rfl rfl rfl rfl rfl rfl (fun _ => rfl) ?_
        refine DGG.off rfl rfl rfl rfl rfl rfl (fun _ => rfl) ?_
        refine DGG.off rfl rfl rfl rfl rfl rfl (fun _ => rfl) ?_
        refine DGG.step (c := fun γ_294 => ⟨some 55, .bool false, [(45, .bool false)], [], []⟩) [] (fun _ _ _ => rfl) (fun γ_294 t hm => One.step rfl (.free rfl) (OpT.pickF rfl (dl rfl rfl) hm.s0 rfl rfl ⟨(fun _ => undef, 0), rfl⟩)) (fun γ_294 => Ct.met_of rfl rfl) ?_
        refine DGG.step (c := fun γ_294 => ⟨some 56, .bool false, [(55, .bool false)], [], []⟩) [] (fun _ _ _ => rfl) (fun γ_294 t hm => One.step rfl (.free rfl) (OpT.move rfl (dl rfl rfl) hm.s0 ⟨(fun _ => undef, 0), rfl⟩)) (fun γ_294 => Ct.met_of rfl rfl) ?_
        refine DGG.off rfl rfl rfl rfl rfl rfl (fun _ => rfl) ?_
        refine DGG.off rfl rfl rfl rfl rfl rfl (fun _ => rfl) ?_
        refine DGG.off rfl rfl rfl rfl rfl rfl (fun _ => rfl) ?_
        refine DGG.off rfl rfl rfl rfl rfl rfl (fun _ => rfl) ?_
        refine DGG.off rfl rfl rfl rfl rfl rfl (fun _ => rfl) ?_
        refine DGG.off rfl rfl rfl rfl rfl rfl (fun _ => rfl) ?_
        refine DGG.step (c := fun γ_294 => ⟨some 63, .bool false, [(56, .bool false)], [], []⟩) [] (fun _ _ _ => rfl) (fun γ_294 t hm => One.step rfl (.free rfl) (OpT.pickF rfl (dl rfl rfl) hm.s0 rfl rfl ⟨(fun _ => undef, 0), rfl⟩)) (fun γ_294 => Ct.met_of rfl rfl) ?_
        refine DGG.step (c := fun γ_294 => ⟨some 64, .bool false, [(63, .bool false)], [], []⟩) [] (fun _ _ _ => rfl) (fun γ_294 t hm => One.step rfl (.free rfl) (OpT.move rfl (dl rfl rfl) hm.s0 ⟨(fun _ => undef, 0), rfl⟩)) (fun γ_294 => Ct.met_of rfl rfl) ?_
        refine DGG.off rfl rfl rfl rfl rfl rfl (fun _ => rfl) ?_
        refine DGG.off rfl rfl rfl rfl rfl rfl (fun _ => rfl) ?_
        refine DGG.off rfl rfl rfl rfl rfl rfl (fun _ => rfl) ?_
        refine DGG.step (c := fun γ_294 => ⟨some 68, .bool false, [(64, .bool false)], [], []⟩) [] (fun _ _ _ => rfl) (fun γ_294 t hm => One.step rfl (.free rfl) (OpT.pickF rfl (dl rfl rfl) hm.s0 rfl rfl ⟨(fun _ => undef, 0), rfl⟩)) (fun γ_294 => Ct.met_of rfl rfl) ?_
        refine DGG.step (c := fun γ_294 => ⟨some 69, .bool false, [(68, .bool false)], [], []⟩) [] (fun _ _ _ => rfl) (fun γ_294 t hm => One.step rfl (.free rfl) (OpT.move rfl (dl rfl rfl) hm.s0 ⟨(fun _ => undef, 0), rfl⟩)) (fun γ_294 => Ct.met_of rfl rfl) ?_
        refine DGG.off rfl rfl rfl rfl rfl rfl (fun _ => rfl) ?_
        refine DGG.off rfl rfl rfl rfl rfl rfl (fun _ => rfl) ?_
        refine DGG.off rfl rfl rfl rfl rfl rfl (fun _ => rfl) ?_
        refine DGG.off rfl rfl rfl rfl rfl rfl (fun _ => rfl) ?_
        refine DGG.off rfl rfl rfl rfl rfl rfl (fun _ => rfl) ?_
        refine DGG.off rfl rfl rfl rfl rfl rfl (fun _ => rfl) ?_
        refine DGG.off rfl rfl rfl rfl rfl rfl (fun _ => rfl) ?_
        refine DGG.step (c := fun γ_294 => ⟨some 77, .bool false, [(69, .bool false)], [], []⟩) [] (fun _ _ _ => rfl) (fun γ_294 t hm => One.step rfl (.free rfl) (OpT.pickF rfl (dl rfl rfl) hm.s0 rfl rfl ⟨(fun _ => undef, 0), rfl⟩)) (fun γ_294 => Ct.met_of rfl rfl) ?_
        refine DGG.step (c := fun γ_294 => ⟨some 78, .bool false, [(77, .bool false)], [], []⟩) [] (fun _ _ _ => rfl) (fun γ_294 t hm => One.step rfl (.free rfl) (OpT.move rfl (dl rfl rfl) hm.s0 ⟨(fun _ => undef, 0), rfl⟩)) (fun γ_294 => Ct.met_of rfl rfl) ?_
        refine DGG.off rfl rfl rfl rfl rfl rfl (fun _ => rfl) ?_
        refine DGG.off rfl rfl rfl rfl rfl rfl (fun _ => rfl) ?_
        refine DGG.off rfl rfl rfl rfl rfl rfl (fun _ => rfl) ?_
        refine DGG.off rfl rfl rfl rfl rfl rfl (fun _ => rfl) ?_
        refine DGG.off rfl rfl rfl rfl rfl rfl (fun _ => rfl) ?_
        refine DGG.off rfl rfl rfl rfl rfl rfl (fun _ => rfl) ?_
        refine DGG.off rfl rfl rfl rfl rfl rfl (fun _ => rfl) ?_
        refine DGG.off rfl rfl rfl rfl rfl rfl (fun _ => rfl) ?_
        refine DGG.off rfl rfl rfl rfl rfl rfl (fun _ => rfl) ?_
        refine DGG.off rfl rfl rfl rfl rfl rfl (fun _ => rfl) ?_
        refine DGG.step (c := fun γ_294 => ⟨some 89, .bool false, [(78, .bool false)], [], []⟩) [] (fun _ _ _ => rfl) (fun γ_294 t hm => One.step rfl (.free rfl) (OpT.pickF rfl (dl rfl rfl) hm.s0 rfl rfl ⟨(fun _ => undef, 0), rfl⟩)) (fun γ_294 => Ct.met_of rfl rfl) ?_
        refine DGG.step (c := fun γ_294 => ⟨some 4, .bool false, [(89, .bool false)], [], []⟩) [] (fun _ _ _ => rfl) (fun γ_294 t hm => One.step rfl (.free rfl) (OpT.assign rfl (dl rfl rfl) hm.s0 ⟨(fun _ => undef, 0), rfl⟩)) (fun γ_294 => Ct.met_of rfl rfl) ?_
        refine DGG.fin (s1 := fun γ_294 => ⟨[(4, .bool false)], [.ro 0 [], .ro 0 [], .arrA w6_0 5 1 (y6_0_3.map (cI .u8)), .arrA w7_0 5 1 (y7_0_4.map (cI .u8))]⟩) (ms := [0, 1, 3, 7, 3, 19, 63, 127, 255, 511, 1023, 511, 2559, 8191, 511, 511, 49663, 131071, 262143, 524287, 1048575, 1048575, 1048575, 7340031, 15728639, 33554431, 67108863, 134217727, 268435455, 536870911, 1073741823, 2147483647, 4294967295, 8589934591, 8589934591, 25769803775, 60129542143, 137438953471, 274877906943, 549755813887, 1099511627775, 2199023255551, 4398046511103, 8796093022207, 17592186044415, 35184372088831, 70368744177663, 4398046511103, 145135534866431, 492581209243647, 1055531162664959, 2251799813685247, 4503599627370495, 9007199254740991]) TryMixed rfl (by kernel_rfl) (by kernel_rfl) (by kernel_rfl) (fun γ_294 => by kernel_rfl) (fun γ_294 => .cons rfl (.nil _)) (fun _ => rfl) (fun γ_294 u hu => (thenS_normal (T.by_turn hu ?_)))
        refine T.ret ?_
        exact Fin.done (.cons _ _ _ _ (.tmp 4 _ rfl) .nil) (by cases h; exact ⟨rfl, rfl⟩)

theorem raddlelaw14_TableOrder_T (K : Nat) {x0 : Int} {x1 : Int} {r : Bool} (h : raddlelaw14_TableOrder K x0 x1 = some r) : CallR Try.prog 4 [.int .u32 x0, .int .u32 x1] [] (.bool r) := by
  refine CallT.intro Try.func4 rfl (Nat.le_of_ble_eq_true rfl) ?_
  show T Try.prog 90 (Code.at [] (codeOf Try.f4)) ⟨paramSlots 0 [.int .u32 x0, .int .u32 x1], []⟩ (raddlelaw14_TableOrder_q r)
  unfold raddlelaw14_TableOrder at h
  refine T.seq ?_
  refine T.regionL ?_
  refine asg rfl rfl rfl rfl rfl ?_
  refine TL'.nil (thenS_normal ?_)
  refine T.seq ?_
  refine T.regionL ?_
  obtain ⟨v_281, e_282, h⟩ := bind_some h
  refine sp rfl (OpT.callPA rfl (dl rfl rfl) Try.func13 rfl rfl Args.nil (CallR.nil (raddlelaw14_shown_T K e_282)) ?_)
  refine asg rfl rfl rfl rfl rfl ?_
  refine TL'.nil (thenS_normal ?_)
  refine T.seq ?_
  refine T.regionL ?_
  refine mv rfl rfl rfl rfl rfl ?_
  refine mv rfl rfl rfl rfl rfl ?_
  refine sp rfl (OpT.min2 rfl (dl rfl rfl) rfl rfl ?_)
  refine sp rfl (OpT.convInt rfl (dl rfl rfl) Try.underlying37 Try.underlying3 rfl ?_)
  refine TL'.turn Turn.keepPlace ?_
  obtain ⟨v_284, e_285, h⟩ := bind_some h
  refine sp rfl (OpT.callG (is := [0]) (ph := [.ro 0 []]) rfl (dl rfl rfl) Try.func14 rfl rfl (Args.nilSl rfl (Args.cons rfl Args.nil)) (table_Number_T K (flx0 := false) e_285) (.cons rfl rfl (.nil)) (fun _ => rfl) (fun γ_286 => ?_))
  refine nm (.c (.n)) ?_
  refine mv rfl rfl rfl rfl rfl ?_
  refine mv rfl rfl rfl rfl rfl ?_
  refine sp rfl (OpT.max2 rfl (dl rfl rfl) rfl rfl ?_)
  refine sp rfl (OpT.convInt rfl (dl rfl rfl) Try.underlying37 Try.underlying3 rfl ?_)
  refine TL'.turn Turn.keepPlace ?_
  obtain ⟨v_288, e_289, h⟩ := bind_some h
  refine sp rfl (OpT.callG (is := [0]) (ph := [.ro 0 []]) rfl (dl rfl rfl) Try.func14 rfl rfl (Args.nilSl rfl (Args.cons rfl Args.nil)) (table_Number_T K (flx0 := false) e_289) (.cons rfl rfl (.nil)) (fun _ => rfl) (fun γ_290 => ?_))
  refine nm (.c (.c (.n))) ?_
  refine asg rfl rfl rfl rfl rfl ?_
  refine asg rfl rfl rfl rfl rfl ?_
  refine TL'.nil (thenS_normal ?_)
  refine T.seq ?_
  refine T.regionL ?_
  refine asg rfl rfl rfl rfl rfl ?_
  refine TL'.nil (thenS_normal ?_)
  refine T.seq ?_
  refine T.seq ?_
  refine T.regionL ?_
  refine mv rfl rfl rfl rfl rfl ?_
  refine sp rfl (OpT.lenAM (i := 1) (xs := v_284) (f := (cI .u8)) rfl (dl rfl rfl) Try.underlying29 rfl rfl ?_)
  refine sp rfl (OpT.int2 rfl rfl (dl rfl rfl) rfl rfl ?_)
  refine asg rfl rfl rfl rfl rfl ?_
  refine TL'.nil (thenS_normal ?_)
  refine T.block ?_
  refine T.loop ?_
  refine TL.by_turn ?_ (raddlelaw14_TableOrder_l0_T K K x0 x1 v_281 (0 : Int) (IntKind.i64.wrap ((v_284.length : Int) - (1 : Int))) v_284 v_288 (γ_286 0) (γ_290 0) h)
  exact Turn.rp (.cons rfl (.cons rfl (.cons rfl (.cons rfl (.cons rfl (.cons rfl (.cons rfl (.nil _)))))))) (.c (.s .z) (.c .z (.n _)))

end Go.Rv

/- Each function computes what its plain text says: printed by a program of ours. -/
import Derived.Test.YtjgldamcldbbfaaDoorRgW1
namespace Go.Rv
open Go.Proofs
set_option maxRecDepth 100000
set_option maxHeartbeats 4000000
set_option linter.unusedVariables false

abbrev raddlelaw01_BsetBytes_q (r : Bool) : Exit → St → Prop := retS Tryd.prog Tryd.f9 (fun y t => y = (.bool r) ∧ t = [.ro 0 deBruijnD])

abbrev raddlelaw01_BsetBytes_qs111111 (r : Bool) : Exit → St → Prop := thenS (fun s' => T Tryd.prog 75 (Code.at [1, 1, 1, 1, 1, 1] (codeOf Tryd.f9)) s' ((raddlelaw01_BsetBytes_q r))) ((raddlelaw01_BsetBytes_q r))

abbrev raddlelaw01_BsetBytes_qb0x111111 (r : Bool) : Exit → St → Prop := inBlockS 0 ((raddlelaw01_BsetBytes_qs111111 r))

abbrev raddlelaw01_BsetBytes_ql11111010 (r : Bool) : Exit → St → Prop := thenS (fun s' => TL Tryd.prog 75 (Code.at [1, 1, 1, 1, 1, 0, 1, 0, 0] (codeOf Tryd.f9)) s' ((raddlelaw01_BsetBytes_qb0x111111 r))) ((raddlelaw01_BsetBytes_qb0x111111 r))

abbrev raddlelaw01_BsetBytes_qs111110100111 (r : Bool) : Exit → St → Prop := thenS (fun s' => T Tryd.prog 75 (Code.at [1, 1, 1, 1, 1, 0, 1, 0, 0, 1, 1, 1] (codeOf Tryd.f9)) s' ((raddlelaw01_BsetBytes_ql11111010 r))) ((raddlelaw01_BsetBytes_ql11111010 r))

abbrev raddlelaw01_BsetBytes_qb1_0x111110100111 (r : Bool) : Exit → St → Prop := inBlockS 1 ((raddlelaw01_BsetBytes_qs111110100111 r))

abbrev raddlelaw01_BsetBytes_l0_H (r : Bool) (go : Int → Bool → (List Int) → Bool → Int → Int → (List Int) → Option Bool) : Prop := ∀ (x1 : Int) (x5_0_1 : Bool) (x6_0_2 : List Int) (x7_0_3 : Bool) (x18_0_5 : Int) (x19_0_6 : Int) (y8_0_4 : List Int) (w8_0 : Value), go x1 x5_0_1 x6_0_2 x7_0_3 x18_0_5 x19_0_6 y8_0_4 = some r → TL Tryd.prog 75 (Code.at [1, 1, 1, 1, 1, 0, 1, 0, 0] (codeOf Tryd.f9)) ⟨[(1, .int .u8 x1), (5, .bool x5_0_1), (6, .sl false 1 (x6_0_2.map (cI .u8))), (7, .bool x7_0_3), (8, .c (.ex w8_0)), (18, .int .i64 x18_0_5), (19, .int .i64 x19_0_6)], [.arrX w8_0 5 1 0 (y8_0_4.map (cI .u8)), .ro 0 deBruijnD]⟩ (raddlelaw01_BsetBytes_qb0x111111 r)

theorem raddlelaw01_BsetBytes_j1_T {r : Bool} (K : Nat) (go0 : Int → Bool → (List Int) → Bool → Int → Int → (List Int) → Option Bool) (hgo0 : raddlelaw01_BsetBytes_l0_H r go0) (x1 : Int) (x5_0_1 : Bool) (x6_0_2 : List Int) (x7_1_3 : Bool) (x9_1_5 : Int) (x18_1_6 : Int) (x19_1_7 : Int) (y8_1_4 : List Int) (w8_1 : Value) (h : raddlelaw01_BsetBytes_j1 K go0 x1 x5_0_1 x6_0_2 x7_1_3 x9_1_5 x18_1_6 x19_1_7 y8_1_4 = some r) : T Tryd.prog 75 (Code.at [1, 1, 1, 1, 1, 0, 1, 0, 0, 1, 1, 0, 0, 1, 1] (codeOf Tryd.f9)) ⟨[(1, .int .u8 x1), (5, .bool x5_0_1), (6, .sl false 1 (x6_0_2.map (cI .u8))), (7, .bool x7_1_3), (8, .c (.ex w8_1)), (9, .int .i64 x9_1_5), (18, .int .i64 x18_1_6), (19, .int .i64 x19_1_7)], [.arrX w8_1 5 1 0 (y8_1_4.map (cI .u8)), .ro 0 deBruijnD]⟩ (raddlelaw01_BsetBytes_qb1_0x111110100111 r) := by
  unfold raddlelaw01_BsetBytes_j1 at h
  refine T.regionL ?_
  refine mv rfl rfl rfl rfl rfl ?_
  refine mv rfl rfl rfl rfl rfl ?_
  refine mv rfl rfl rfl rfl rfl ?_
  refine sp rfl (OpT.lenSlM (xs := x6_0_2) (f := (cI .u8)) rfl (dl rfl rfl) Tryd.underlying26 rfl ?_)
  refine sp rfl (OpT.int2 rfl rfl (dl rfl rfl) rfl rfl ?_)
  refine mv rfl rfl rfl rfl rfl ?_
  refine sp rfl (OpT.int2 rfl rfl (dl rfl rfl) rfl rfl ?_)
  obtain ⟨v_452, e_453, h⟩ := bind_some h
  refine sp rfl (OpT.indexSlM (xs := x6_0_2) (f := (cI .u8)) (v := v_452) rfl (dl rfl rfl) Tryd.underlying26 i5 rfl rfl e_453 ?_)
  refine sp rfl (OpT.loadRef rfl (dl rfl rfl) Tryd.underlying5 rfl rfl rfl ?_)
  refine sp rfl (OpT.buildSlice (elems := ([v_452] : List Int).map (cI .u8)) rfl (dl rfl rfl) Tryd.underlying26 i5 (by decide) rfl (all1 rfl) rfl rfl rfl (lenAll rfl) (by decide) ?_)
  obtain ⟨g_455, h⟩ := ck_some h
  refine sp rfl (OpT.appendXM (i := 0) (xs := y8_1_4) (ys := [v_452]) (f := (cI .u8)) rfl (dl rfl rfl) Tryd.underlying26 i5 rfl rfl rfl rfl g_455 (fun w_454 => ?_))
  refine asg rfl rfl rfl rfl rfl ?_
  refine TL'.nil (inBlock_normal (thenS_normal ?_))
  refine T.regionL ?_
  refine sp rfl (OpT.int2 rfl rfl (dl rfl rfl) rfl rfl ?_)
  refine mv rfl rfl rfl rfl rfl ?_
  refine TL'.nil (thenS_normal ?_)
  refine TL.by_turn ?_ (hgo0 x1 x5_0_1 x6_0_2 x7_1_3 x18_1_6 (IntKind.i64.wrap (x19_1_7 + (1 : Int))) (y8_1_4 ++ [v_452]) w_454 h)
  exact Turn.rp (.cons rfl (.cons rfl (.cons rfl (.cons rfl (.cons rfl (.cons rfl (.cons rfl (.nil _)))))))) (.c .z (.c .z (.n _)))

theorem raddlelaw01_BsetBytes_l0_T {r : Bool} (K : Nat) : ∀ (k : Nat), ∀ (x1 : Int) (x5_0_1 : Bool) (x6_0_2 : List Int) (x7_0_3 : Bool) (x18_0_5 : Int) (x19_0_6 : Int) (y8_0_4 : List Int) (w8_0 : Value), raddlelaw01_BsetBytes_l0 K k x1 x5_0_1 x6_0_2 x7_0_3 x18_0_5 x19_0_6 y8_0_4 = some r → TL Tryd.prog 75 (Code.at [1, 1, 1, 1, 1, 0, 1, 0, 0] (codeOf Tryd.f9)) ⟨[(1, .int .u8 x1), (5, .bool x5_0_1), (6, .sl false 1 (x6_0_2.map (cI .u8))), (7, .bool x7_0_3), (8, .c (.ex w8_0)), (18, .int .i64 x18_0_5), (19, .int .i64 x19_0_6)], [.arrX w8_0 5 1 0 (y8_0_4.map (cI .u8)), .ro 0 deBruijnD]⟩ (raddlelaw01_BsetBytes_qb0x111111 r) := by
  intro k
  induction k with
  | zero =>
    intro x1 x5_0_1 x6_0_2 x7_0_3 x18_0_5 x19_0_6 y8_0_4 w8_0 h
    cases (show (none : Option Bool) = some r from h)
  | succ k ih =>
    intro x1 x5_0_1 x6_0_2 x7_0_3 x18_0_5 x19_0_6 y8_0_4 w8_0 h
    rw [raddlelaw01_BsetBytes_l0] at h
    refine TL.round ?_
    refine T.seq ?_
    refine T.regionL ?_
    refine sp rfl (OpT.int2 rfl rfl (dl rfl rfl) rfl rfl ?_)
    refine TL'.nil (thenS_normal ?_)
    refine T.seq ?_
    rcases bif_some h with ⟨c_450, h⟩ | ⟨c_450, h⟩
    · refine T.condT rfl c_450 ?_
      refine T.skip (thenS_normal ?_)
      refine T.seq ?_
      refine T.block ?_
      refine T.seq ?_
      refine T.regionL ?_
      refine mv rfl rfl rfl rfl rfl ?_
      refine asg rfl rfl rfl rfl rfl ?_
      refine TL'.nil (thenS_normal ?_)
      refine T.seq ?_
      refine T.regionL ?_
      refine mv rfl rfl rfl rfl rfl ?_
      refine mv rfl rfl rfl rfl rfl ?_
      rcases bif_some h with ⟨c_451, h⟩ | ⟨c_451, h⟩
      · refine TL'.passU (.off _ _ _ _ rfl rfl rfl c_451) (dl rfl rfl) ?_
        refine TL'.passU (.off _ _ _ _ rfl rfl rfl c_451) (dl rfl rfl) ?_
        refine TL'.passU (.off _ _ _ _ rfl rfl rfl c_451) (dl rfl rfl) ?_
        refine TL'.passU (.off _ _ _ _ rfl rfl rfl c_451) (dl rfl rfl) ?_
        refine TL'.passU (.off _ _ _ _ rfl rfl rfl c_451) (dl rfl rfl) ?_
        refine TL'.passU (.off _ _ _ _ rfl rfl rfl c_451) (dl rfl rfl) ?_
        refine sp rfl (OpT.pickT rfl (dl rfl rfl) rfl c_451 rfl ?_)
        refine asg rfl rfl rfl rfl rfl ?_
        refine TL'.nil (thenS_normal ?_)
        refine T.by_turn ?_ (raddlelaw01_BsetBytes_j1_T K (raddlelaw01_BsetBytes_l0 K k) ih x1 x5_0_1 x6_0_2 true x19_0_6 x18_0_5 x19_0_6 y8_0_4 w8_0 h)
        exact Turn.rp (.cons rfl (.cons rfl (.cons rfl (.cons rfl (.cons rfl (.cons rfl (.cons rfl (.cons rfl (.nil _))))))))) (.c .z (.c .z (.n _)))
      · refine TL'.step (.on rfl rfl rfl c_451) (OpT.move rfl (dl rfl rfl) rfl ?_)
        refine TL'.step (.on rfl rfl rfl c_451) (OpT.move rfl (dl rfl rfl) rfl ?_)
        obtain ⟨v_456, e_457, h⟩ := bind_some h
        refine TL'.step (.on rfl rfl rfl c_451) (OpT.indexSlM (xs := x6_0_2) (f := (cI .u8)) (v := v_456) rfl (dl rfl rfl) Tryd.underlying26 i5 rfl rfl e_457 ?_)
        refine TL'.step (.on rfl rfl rfl c_451) (OpT.loadRef rfl (dl rfl rfl) Tryd.underlying5 rfl rfl rfl ?_)
        refine TL'.step (.on rfl rfl rfl c_451) (OpT.move rfl (dl rfl rfl) rfl ?_)
        refine TL'.step (.on rfl rfl rfl c_451) (OpT.int2 rfl rfl (dl rfl rfl) rfl rfl ?_)
        refine sp rfl (OpT.pickF rfl (dl rfl rfl) rfl c_451 rfl ?_)
        refine asg rfl rfl rfl rfl rfl ?_
        refine TL'.nil (thenS_normal ?_)
        refine T.by_turn ?_ (raddlelaw01_BsetBytes_j1_T K (raddlelaw01_BsetBytes_l0 K k) ih x1 x5_0_1 x6_0_2 (v_456 == x1) x19_0_6 x18_0_5 x19_0_6 y8_0_4 w8_0 h)
        exact Turn.rp (.cons rfl (.cons rfl (.cons rfl (.cons rfl (.cons rfl (.cons rfl (.cons rfl (.cons rfl (.nil _))))))))) (.c .z (.c .z (.n _)))
    · refine T.condF rfl c_450 ?_
      refine T.exit (thenS_exit (thenS_exit (inBlock_exit (thenS_normal ?_))))
      refine T.seq ?_
      refine T.regionL ?_
      refine mv rfl rfl rfl rfl rfl ?_
      obtain ⟨v_458, e_459, h⟩ := bind_some h
      refine sp rfl (OpT.callPA rfl (dl rfl rfl) Tryd.func20 rfl rfl (Args.cons rfl Args.nil) (CallR.nil (bset_Of_T K (flx0 := false) e_459)) ?_)
      refine sp rfl (OpT.alloc' rfl (dl rfl rfl) i24 rfl (fun b_460 => ?_))
      refine sp rfl (OpT.storeAggTo (i := 0) (cells' := (Arr4.oc .u64 v_458)) rfl rfl i24 rfl rfl rfl rfl (Nat.le_of_ble_eq_true rfl) rfl ?_)
      refine TL'.nil (thenS_normal ?_)
      refine T.seq ?_
      refine DGG.start ?_
      refine DGG.step (c := fun γ_461 => ⟨some 45, .bool x5_0_1, [(5, .bool x5_0_1)], [], []⟩) [] (fun _ _ _ => rfl) (fun γ_461 t hm => One.step rfl (.free rfl) (OpT.move rfl (dl rfl rfl) hm.s0 ⟨(fun _ => undef, 0), rfl⟩)) (fun γ_461 => Ct.met_of rfl rfl) ?_
      refine DGG.step (c := fun γ_461 => ⟨some 46, .bool x5_0_1, [(45, .bool x5_0_1)], [], []⟩) [] (fun _ _ _ => rfl) (fun γ_461 t hm => One.step rfl (.free rfl) (OpT.move rfl (dl rfl rfl) hm.s0 ⟨(fun _ => undef, 0), rfl⟩)) (fun γ_461 => Ct.met_of rfl rfl) ?_
      rcases bif_some h with ⟨c_477, h⟩ | ⟨c_477, h⟩
      · refine DGG.step (c := fun γ_461 => ⟨some 47, .agg (Arr4.dc .u64 v_458), [(10, .ptr b_460 0), (46, .bool x5_0_1)], [(0, .box b_460 24 (Arr4.oc .u64 v_458))], []⟩) [] (fun _ _ _ => rfl) (fun γ_461 t hm => One.step rfl (.on rfl rfl hm.s1 c_477) (OpT.loadBoxAgg (i := 0) (l := (Arr4.dc .u64 v_458)) rfl (dl rfl rfl) Tryd.underlying24 rfl i24 hm.s0 hm.o0 rfl rfl ⟨(fun _ => undef, 0), rfl⟩)) (fun γ_461 => Ct.met_of rfl rfl) ?_
        refine DGG.step (c := fun γ_461 => ⟨some 48, .int .u8 x1, [(1, .int .u8 x1), (46, .bool x5_0_1)], [], []⟩) [] (fun _ _ _ => rfl) (fun γ_461 t hm => One.step rfl (.on rfl rfl hm.s1 c_477) (OpT.move rfl (dl rfl rfl) hm.s0 ⟨(fun _ => undef, 0), rfl⟩)) (fun γ_461 => Ct.met_of rfl rfl) ?_
        obtain ⟨v_478, e_479, h⟩ := bind_some h
        refine DGG.step (c := fun γ_461 => ⟨some 49, .bool v_478, [(47, .agg (Arr4.dc .u64 v_458)), (48, .int .u8 x1), (46, .bool x5_0_1)], [], []⟩) [] (fun _ _ _ => rfl) (fun γ_461 t hm => One.step rfl (.on rfl rfl hm.s2 c_477) (OpT.callPA rfl (dl rfl rfl) Tryd.func30 rfl rfl (Args.cons hm.s0 (Args.cons hm.s1 Args.nil)) (CallR.nil (bset_Has_T K e_479)) ⟨(fun _ => undef, 0), rfl⟩)) (fun γ_461 => Ct.met_of rfl rfl) ?_
        refine DGG.step (c := fun γ_461 => ⟨some 50, .bool x7_0_3, [(7, .bool x7_0_3), (46, .bool x5_0_1)], [], []⟩) [] (fun _ _ _ => rfl) (fun γ_461 t hm => One.step rfl (.on rfl rfl hm.s1 c_477) (OpT.move rfl (dl rfl rfl) hm.s0 ⟨(fun _ => undef, 0), rfl⟩)) (fun γ_461 => Ct.met_of rfl rfl) ?_
        refine DGG.step (c := fun γ_461 => ⟨some 51, .bool (v_478 == x7_0_3), [(49, .bool v_478), (50, .bool x7_0_3), (46, .bool x5_0_1)], [], []⟩) [] (fun _ _ _ => rfl) (fun γ_461 t hm => One.step rfl (.on rfl rfl hm.s2 c_477) (OpT.bool_eql rfl (dl rfl rfl) Tryd.underlying4 hm.s0 hm.s1 ⟨(fun _ => undef, 0), rfl⟩)) (fun γ_461 => Ct.met_of rfl rfl) ?_
        refine DGG.step (c := fun γ_461 => ⟨some 52, .bool (v_478 == x7_0_3), [(46, .bool x5_0_1), (51, .bool (v_478 == x7_0_3))], [], []⟩) [] (fun _ _ _ => rfl) (fun γ_461 t hm => One.step rfl (.free rfl) (OpT.pickT rfl (dl rfl rfl) hm.s0 c_477 hm.s1 ⟨(fun _ => undef, 0), rfl⟩)) (fun γ_461 => Ct.met_of rfl rfl) ?_
        refine DGG.step (c := fun γ_461 => ⟨some 53, .bool (v_478 == x7_0_3), [(52, .bool (v_478 == x7_0_3))], [], []⟩) [] (fun _ _ _ => rfl) (fun γ_461 t hm => One.step rfl (.free rfl) (OpT.move rfl (dl rfl rfl) hm.s0 ⟨(fun _ => undef, 0), rfl⟩)) (fun γ_461 => Ct.met_of rfl rfl) ?_
        rcases bif_some h with ⟨c_480, h⟩ | ⟨c_480, h⟩
        · refine DGG.step (c := fun γ_461 => ⟨some 54, .c (.ex w8_0), [(8, .c (.ex w8_0)), (53, .bool (v_478 == x7_0_3))], [], []⟩) [] (fun _ _ _ => rfl) (fun γ_461 t hm => One.step rfl (.on rfl rfl hm.s1 c_480) (OpT.move rfl (dl rfl rfl) hm.s0 ⟨(fun _ => undef, 0), rfl⟩)) (fun γ_461 => Ct.met_of rfl rfl) ?_
          refine DGG.step (c := fun γ_461 => ⟨some 55, .sl false 1 (x6_0_2.map (cI .u8)), [(6, .sl false 1 (x6_0_2.map (cI .u8))), (53, .bool (v_478 == x7_0_3))], [], []⟩) [] (fun _ _ _ => rfl) (fun γ_461 t hm => One.step rfl (.on rfl rfl hm.s1 c_480) (OpT.move rfl (dl rfl rfl) hm.s0 ⟨(fun _ => undef, 0), rfl⟩)) (fun γ_461 => Ct.met_of rfl rfl) ?_
          obtain ⟨g_481, h⟩ := ck_some h
          refine DGG.step (c := fun γ_461 => ⟨some 56, .c (.ex ((γ_461 11).1 0)), [(55, .sl false 1 (x6_0_2.map (cI .u8))), (54, .c (.ex w8_0)), (53, .bool (v_478 == x7_0_3))], [(1, .arrX w8_0 5 1 0 (y8_0_4.map (cI .u8)))], [(1, .fork w8_0 ((γ_461 11).1 0) 5 1 (y8_0_4.map (cI .u8)) (x6_0_2.map (cI .u8)))]⟩) [11] (fun γ_461 γ' h => by simp only [h 11 (by decide)]) (fun γ_461 t hm => One.step rfl (.on rfl rfl hm.s2 c_480) (OpT.appendForkM (i := 1) (xs := y8_0_4) (ys := x6_0_2) (f := (cI .u8)) rfl (dl rfl rfl) Tryd.underlying26 i5 rfl hm.s1 hm.o0 hm.s0 g_481 (fun w => ⟨(fun _ => w, 0), rfl⟩))) (fun γ_461 => Ct.met_of rfl rfl) ?_
          obtain ⟨v_482, e_483, h⟩ := bind_some h
          refine DGG.step (c := fun γ_461 => ⟨some 57, .agg (Arr4.dc .u64 v_482), [(56, .c (.ex ((γ_461 11).1 0))), (53, .bool (v_478 == x7_0_3))], [(1, .fork w8_0 ((γ_461 11).1 0) 5 1 (y8_0_4.map (cI .u8)) (x6_0_2.map (cI .u8)))], []⟩) [11] (fun γ_461 γ' h => by simp only [h 11 (by decide)]) (fun γ_461 t hm => One.step rfl (.on rfl rfl hm.s1 c_480) (OpT.callLent (i := 1) rfl (dl rfl rfl) Tryd.func20 rfl rfl hm.o0 (ArgsB.lentFM hm.s0 ArgsB.nil) (CallR.nil (bset_Of_T K (flx0 := false) e_483)) (.agg [.int .u64 v_482.a0, .int .u64 v_482.a1, .int .u64 v_482.a2, .int .u64 v_482.a3] rfl) ⟨(fun _ => undef, 0), rfl⟩)) (fun γ_461 => Ct.met_of rfl rfl) ?_
          refine DGG.step (c := fun γ_461 => ⟨some 58, .agg (Arr4.dc .u64 v_458), [(10, .ptr b_460 0), (53, .bool (v_478 == x7_0_3))], [(0, .box b_460 24 (Arr4.oc .u64 v_458))], []⟩) [] (fun _ _ _ => rfl) (fun γ_461 t hm => One.step rfl (.on rfl rfl hm.s1 c_480) (OpT.loadBoxAgg (i := 0) (l := (Arr4.dc .u64 v_458)) rfl (dl rfl rfl) Tryd.underlying24 rfl i24 hm.s0 hm.o0 rfl rfl ⟨(fun _ => undef, 0), rfl⟩)) (fun γ_461 => Ct.met_of rfl rfl) ?_
          refine DGG.step (c := fun γ_461 => ⟨some 59, .bool (Arr4.same v_482 v_458), [(57, .agg (Arr4.dc .u64 v_482)), (58, .agg (Arr4.dc .u64 v_458)), (53, .bool (v_478 == x7_0_3))], [], []⟩) [] (fun _ _ _ => rfl) (fun γ_461 t hm => One.step rfl (.on rfl rfl hm.s2 c_480) (OpT.intsEql (k := .u64) (xs := [v_482.a0, v_482.a1, v_482.a2, v_482.a3]) (ys := [v_458.a0, v_458.a1, v_458.a2, v_458.a3]) rfl (dl rfl rfl) Tryd.underlying24 Tryd.underlying22 i22 Tryd.eqGuardType24 hm.s0 hm.s1 rfl rfl rfl rfl (Arr4.same_eq v_482 v_458) ⟨(fun _ => undef, 0), rfl⟩)) (fun γ_461 => Ct.met_of rfl rfl) ?_
          refine DGG.step (c := fun γ_461 => ⟨some 60, .bool (Arr4.same v_482 v_458), [(53, .bool (v_478 == x7_0_3)), (59, .bool (Arr4.same v_482 v_458))], [], []⟩) [] (fun _ _ _ => rfl) (fun γ_461 t hm => One.step rfl (.free rfl) (OpT.pickT rfl (dl rfl rfl) hm.s0 c_480 hm.s1 ⟨(fun _ => undef, 0), rfl⟩)) (fun γ_461 => Ct.met_of rfl rfl) ?_
          refine DGG.step (c := fun γ_461 => ⟨some 61, .bool (Arr4.same v_482 v_458), [(60, .bool (Arr4.same v_482 v_458))], [], []⟩) [] (fun _ _ _ => rfl) (fun γ_461 t hm => One.step rfl (.free rfl) (OpT.move rfl (dl rfl rfl) hm.s0 ⟨(fun _ => undef, 0), rfl⟩)) (fun γ_461 => Ct.met_of rfl rfl) ?_
          rcases bif_some h with ⟨c_484, h⟩ | ⟨c_484, h⟩
          · refine DGG.step (c := fun γ_461 => ⟨some 62, .agg (Arr4.dc .u64 v_458), [(10, .ptr b_460 0), (61, .bool (Arr4.same v_482 v_458))], [(0, .box b_460 24 (Arr4.oc .u64 v_458))], []⟩) [] (fun _ _ _ => rfl) (fun γ_461 t hm => One.step rfl (.on rfl rfl hm.s1 c_484) (OpT.loadBoxAgg (i := 0) (l := (Arr4.dc .u64 v_458)) rfl (dl rfl rfl) Tryd.underlying24 rfl i24 hm.s0 hm.o0 rfl rfl ⟨(fun _ => undef, 0), rfl⟩)) (fun γ_461 => Ct.met_of rfl rfl) ?_
            refine DGG.step (c := fun γ_461 => ⟨some 63, .int .u8 x1, [(1, .int .u8 x1), (61, .bool (Arr4.same v_482 v_458))], [], []⟩) [] (fun _ _ _ => rfl) (fun γ_461 t hm => One.step rfl (.on rfl rfl hm.s1 c_484) (OpT.move rfl (dl rfl rfl) hm.s0 ⟨(fun _ => undef, 0), rfl⟩)) (fun γ_461 => Ct.met_of rfl rfl) ?_
            refine DGG.step (c := fun γ_461 => ⟨some 64, .sl true 1 ([x1].map (cI .u8)), [(63, .int .u8 x1), (61, .bool (Arr4.same v_482 v_458))], [], []⟩) [] (fun _ _ _ => rfl) (fun γ_461 t hm => One.step rfl (.on rfl rfl hm.s1 c_484) (OpT.buildSlice (elems := ([x1] : List Int).map (cI .u8)) rfl (dl rfl rfl) Tryd.underlying26 i5 (by decide) rfl (all1 rfl) (parts_cons hm.s0 rfl parts_nil) rfl rfl (lenAll rfl) (by decide) ⟨(fun _ => undef, 0), rfl⟩)) (fun γ_461 => Ct.met_of rfl rfl) ?_
            obtain ⟨v_485, e_486, h⟩ := bind_some h
            refine DGG.step (c := fun γ_461 => ⟨some 65, .agg (Arr4.dc .u64 v_485), [(64, .sl true 1 ([x1].map (cI .u8))), (61, .bool (Arr4.same v_482 v_458))], [], []⟩) [] (fun _ _ _ => rfl) (fun γ_461 t hm => One.step rfl (.on rfl rfl hm.s1 c_484) (OpT.callPA rfl (dl rfl rfl) Tryd.func20 rfl rfl (Args.cons hm.s0 Args.nil) (CallR.nil (bset_Of_T K (flx0 := true) e_486)) ⟨(fun _ => undef, 0), rfl⟩)) (fun γ_461 => Ct.met_of rfl rfl) ?_
            refine DGG.step (c := fun γ_461 => ⟨some 66, .sl true 4 ([v_458, v_485].map (Arr4.dc .u64)), [(62, .agg (Arr4.dc .u64 v_458)), (65, .agg (Arr4.dc .u64 v_485)), (61, .bool (Arr4.same v_482 v_458))], [], []⟩) [] (fun _ _ _ => rfl) (fun γ_461 t hm => One.step rfl (.on rfl rfl hm.s2 c_484) (OpT.buildSlice (elems := ([v_458, v_485] : List Arr4).map (Arr4.dc .u64)) rfl (dl rfl rfl) Tryd.underlying33 i24 (by decide) rfl (all1 rfl) (parts_cons hm.s0 rfl (parts_cons hm.s1 rfl parts_nil)) rfl rfl (lenAll rfl) (by decide) ⟨(fun _ => undef, 0), rfl⟩)) (fun γ_461 => Ct.met_of rfl rfl) ?_
            obtain ⟨v_487, e_488, h⟩ := bind_some h
            refine DGG.step (c := fun γ_461 => ⟨some 67, .agg (Arr4.dc .u64 v_487), [(66, .sl true 4 ([v_458, v_485].map (Arr4.dc .u64))), (61, .bool (Arr4.same v_482 v_458))], [], []⟩) [] (fun _ _ _ => rfl) (fun γ_461 t hm => One.step rfl (.on rfl rfl hm.s1 c_484) (OpT.callPA rfl (dl rfl rfl) Tryd.func19 rfl rfl (Args.cons hm.s0 Args.nil) (CallR.nil (bset_Or_T K (flx0 := true) e_488)) ⟨(fun _ => undef, 0), rfl⟩)) (fun γ_461 => Ct.met_of rfl rfl) ?_
            refine DGG.step (c := fun γ_461 => ⟨some 68, .c (.ex w8_0), [(8, .c (.ex w8_0)), (61, .bool (Arr4.same v_482 v_458))], [], []⟩) [] (fun _ _ _ => rfl) (fun γ_461 t hm => One.step rfl (.on rfl rfl hm.s1 c_484) (OpT.move rfl (dl rfl rfl) hm.s0 ⟨(fun _ => undef, 0), rfl⟩)) (fun γ_461 => Ct.met_of rfl rfl) ?_
            refine DGG.step (c := fun γ_461 => ⟨some 69, .int .u8 x1, [(1, .int .u8 x1), (61, .bool (Arr4.same v_482 v_458))], [], []⟩) [] (fun _ _ _ => rfl) (fun γ_461 t hm => One.step rfl (.on rfl rfl hm.s1 c_484) (OpT.move rfl (dl rfl rfl) hm.s0 ⟨(fun _ => undef, 0), rfl⟩)) (fun γ_461 => Ct.met_of rfl rfl) ?_
            refine DGG.step (c := fun γ_461 => ⟨some 70, .sl true 1 ([x1].map (cI .u8)), [(69, .int .u8 x1), (61, .bool (Arr4.same v_482 v_458))], [], []⟩) [] (fun _ _ _ => rfl) (fun γ_461 t hm => One.step rfl (.on rfl rfl hm.s1 c_484) (OpT.buildSlice (elems := ([x1] : List Int).map (cI .u8)) rfl (dl rfl rfl) Tryd.underlying26 i5 (by decide) rfl (all1 rfl) (parts_cons hm.s0 rfl parts_nil) rfl rfl (lenAll rfl) (by decide) ⟨(fun _ => undef, 0), rfl⟩)) (fun γ_461 => Ct.met_of rfl rfl) ?_
            obtain ⟨g_489, h⟩ := ck_some h
            refine DGG.step (c := fun γ_461 => ⟨some 71, .c (.ex ((γ_461 26).1 0)), [(70, .sl true 1 ([x1].map (cI .u8))), (68, .c (.ex w8_0)), (61, .bool (Arr4.same v_482 v_458))], [(1, .fork w8_0 ((γ_461 11).1 0) 5 1 (y8_0_4.map (cI .u8)) (x6_0_2.map (cI .u8)))], [(1, .arrX ((γ_461 26).1 0) 5 1 0 ((y8_0_4 ++ [x1]).map (cI .u8)))]⟩) [11, 26] (fun γ_461 γ' h => by simp only [h 11 (by decide), h 26 (by decide)]) (fun γ_461 t hm => One.step rfl (.on rfl rfl hm.s2 c_484) (OpT.appendUnforkM (i := 1) (xs := y8_0_4) (ys := [x1]) (f := (cI .u8)) rfl (dl rfl rfl) Tryd.underlying26 i5 rfl hm.s1 hm.o0 hm.s0 g_489 (fun w => ⟨(fun _ => w, 0), rfl⟩))) (fun γ_461 => Ct.met_of rfl rfl) ?_
            obtain ⟨v_490, e_491, h⟩ := bind_some h
            refine DGG.step (c := fun γ_461 => ⟨some 72, .agg (Arr4.dc .u64 v_490), [(71, .c (.ex ((γ_461 26).1 0))), (61, .bool (Arr4.same v_482 v_458))], [(1, .arrX ((γ_461 26).1 0) 5 1 0 ((y8_0_4 ++ [x1]).map (cI .u8)))], [(1, .arrX ((γ_461 27).1 0) 5 1 0 ((y8_0_4 ++ [x1]).map (cI .u8)))]⟩) [26, 27] (fun γ_461 γ' h => by simp only [h 26 (by decide), h 27 (by decide)]) (fun γ_461 t hm => One.step rfl (.on rfl rfl hm.s1 c_484) (OpT.callG (is := [1]) (ph := []) rfl (dl rfl rfl) Tryd.func20 rfl rfl (Args.cons hm.s0 Args.nil) (bset_Of_i1_T K (wx0 := ((γ_461 26).1 0)) e_491) (.cons hm.o0 rfl (.nil)) (fun _ => rfl) (fun g => ⟨(g, 0), rfl⟩))) (fun γ_461 => Ct.met_of rfl rfl) ?_
            refine DGG.step (c := fun γ_461 => ⟨some 73, .bool (Arr4.same v_487 v_490), [(67, .agg (Arr4.dc .u64 v_487)), (72, .agg (Arr4.dc .u64 v_490)), (61, .bool (Arr4.same v_482 v_458))], [], []⟩) [] (fun _ _ _ => rfl) (fun γ_461 t hm => One.step rfl (.on rfl rfl hm.s2 c_484) (OpT.intsEql (k := .u64) (xs := [v_487.a0, v_487.a1, v_487.a2, v_487.a3]) (ys := [v_490.a0, v_490.a1, v_490.a2, v_490.a3]) rfl (dl rfl rfl) Tryd.underlying24 Tryd.underlying22 i22 Tryd.eqGuardType24 hm.s0 hm.s1 rfl rfl rfl rfl (Arr4.same_eq v_487 v_490) ⟨(fun _ => undef, 0), rfl⟩)) (fun γ_461 => Ct.met_of rfl rfl) ?_
            refine DGG.step (c := fun γ_461 => ⟨some 74, .bool (Arr4.same v_487 v_490), [(61, .bool (Arr4.same v_482 v_458)), (73, .bool (Arr4.same v_487 v_490))], [], []⟩) [] (fun _ _ _ => rfl) (fun γ_461 t hm => One.step rfl (.free rfl) (OpT.pickT rfl (dl rfl rfl) hm.s0 c_484 hm.s1 ⟨(fun _ => undef, 0), rfl⟩)) (fun γ_461 => Ct.met_of rfl rfl) ?_
            refine DGG.step (c := fun γ_461 => ⟨some 4, .bool (Arr4.same v_487 v_490), [(74, .bool (Arr4.same v_487 v_490))], [], []⟩) [] (fun _ _ _ => rfl) (fun γ_461 t hm => One.step rfl (.free rfl) (OpT.assign rfl (dl rfl rfl) hm.s0 ⟨(fun _ => undef, 0), rfl⟩)) (fun γ_461 => Ct.met_of rfl rfl) ?_
            refine DGG.fin (s1 := fun γ_461 => ⟨[(4, .bool (Arr4.same v_487 v_490))], [.box b_460 24 (Arr4.oc .u64 v_458), .arrX ((γ_461 27).1 0) 5 1 0 ((y8_0_4 ++ [x1]).map (cI .u8)), .ro 0 deBruijnD]⟩) (ms := [0, 1, 3, 3, 15, 3, 63, 127, 255, 511, 511, 2047, 4095, 511, 16383, 32767, 65535, 131071, 131071, 393215, 917503, 2097151, 4194303, 131071, 131071, 16908287, 67108863, 134217727, 268435455, 536870911, 1073741823]) TrydMixed rfl (by kernel_rfl) (by kernel_rfl) (by kernel_rfl) (fun γ_461 => by kernel_rfl) (fun γ_461 => .cons rfl (.nil _)) (fun _ => rfl) (fun γ_461 u hu => (thenS_normal (T.by_turn hu ?_)))
            refine T.ret ?_
            exact Fin.doneK (.cons _ _ _ _ (.tmp 4 _ rfl) .nil) (.cons 2 rfl (.nil _)) (by cases h; exact ⟨rfl, rfl⟩)
          · refine DGG.off c_484 rfl rfl rfl rfl rfl (fun _ => rfl) ?_
            refine DGG.off c_484 rfl rfl rfl rfl rfl (fun _ => rfl) ?_
            refine DGG.off c_484 rfl rfl rfl rfl rfl (fun _ => rfl) ?_
            refine DGG.off c_484 rfl rfl rfl rfl rfl (fun _ => rfl) ?_
            refine DGG.off c_484 rfl rfl rfl rfl rfl (fun _ => rfl) ?_
            refine DGG.off c_484 rfl rfl rfl rfl rfl (fun _ => rfl) ?_
            refine DGG.off c_484 rfl rfl rfl rfl rfl (fun _ => rfl) ?_
            refine DGG.off c_484 rfl rfl rfl rfl rfl (fun _ => rfl) ?_
            refine DGG.off c_484 rfl rfl rfl rfl rfl (fun _ => rfl) ?_
            refine DGG.off c_484 rfl rfl rfl rfl rfl (fun _ => rfl) ?_
            refine DGG.off c_484 rfl rfl rfl rfl rfl (fun _ => rfl) ?_
            refine DGG.off c_484 rfl rfl rfl rfl rfl (fun _ => rfl) ?_
            refine DGG.step (c := fun γ_461 => ⟨some 74, .bool false, [(61, .bool (Arr4.same v_482 v_458))], [], []⟩) [] (fun _ _ _ => rfl) (fun γ_461 t hm => One.step rfl (.free rfl) (OpT.pickF rfl (dl rfl rfl) hm.s0 c_484 rfl ⟨(fun _ => undef, 0), rfl⟩)) (fun γ_461 => Ct.met_of rfl rfl) ?_
            refine DGG.step (c := fun γ_461 => ⟨some 4, .bool false, [(74, .bool false)], [], []⟩) [] (fun _ _ _ => rfl) (fun γ_461 t hm => One.step rfl (.free rfl) (OpT.assign rfl (dl rfl rfl) hm.s0 ⟨(fun _ => undef, 0), rfl⟩)) (fun γ_461 => Ct.met_of rfl rfl) ?_
            refine DGG.fin (s1 := fun γ_461 => ⟨[(4, .bool false)], [.box b_460 24 (Arr4.oc .u64 v_458), .fork w8_0 ((γ_461 11).1 0) 5 1 (y8_0_4.map (cI .u8)) (x6_0_2.map (cI .u8)), .ro 0 deBruijnD]⟩) (ms := [0, 1, 3, 3, 15, 3, 63, 127, 255, 511, 511, 2047, 4095, 511, 16383, 32767, 65535, 131071, 131071, 393215, 917503, 2097151, 4194303, 131071, 131071, 16908287, 67108863, 134217727, 268435455, 536870911, 1073741823]) TrydMixed rfl (by kernel_rfl) (by kernel_rfl) (by kernel_rfl) (fun γ_461 => by kernel_rfl) (fun γ_461 => .cons rfl (.nil _)) (fun _ => rfl) (fun γ_461 u hu => (thenS_normal (T.by_turn hu ?_)))
            refine T.ret ?_
            exact Fin.doneK (.cons _ _ _ _ (.tmp 4 _ rfl) .nil) (.cons 2 rfl (.nil _)) (by cases h; exact ⟨rfl, rfl⟩)
        · refine DGG.off c_480 rfl rfl rfl rfl rfl (fun _ => rfl) ?_
          refine DGG.off c_480 rfl rfl rfl rfl rfl (fun _ => rfl) ?_
          refine DGG.off c_480 rfl rfl rfl rfl rfl (fun _ => rfl) ?_
          refine DGG.off c_480 rfl rfl rfl rfl rfl (fun _ => rfl) ?_
          refine DGG.off c_480 rfl rfl rfl rfl rfl (fun _ => rfl) ?_
          refine DGG.off c_480 rfl rfl rfl rfl rfl (fun _ => rfl) ?_
          refine DGG.step (c := fun γ_461 => ⟨some 60, .bool false, [(53, .bool (v_478 == x7_0_3))], [], []⟩) [] (fun _ _ _ => rfl) (fun γ_461 t hm => One.step rfl (.free rfl) (OpT.pickF rfl (dl rfl rfl) hm.s0 c_480 rfl ⟨(fun _ => undef, 0), rfl⟩)) (fun γ_461 => Ct.met_of rfl rfl) ?_
          refine DGG.step (c := fun γ_461 => ⟨some 61, .bool false, [(60, .bool false)], [], []⟩) [] (fun _ _ _ => rfl) (fun γ_461 t hm => One.step rfl (.free rfl) (OpT.move rfl (dl rfl rfl) hm.s0 ⟨(fun _ => undef, 0), rfl⟩)) (fun γ_461 => Ct.met_of rfl rfl) ?_
          refine DGG.off rfl rfl rfl rfl rfl rfl (fun _ => rfl) ?_
          refine DGG.off rfl rfl rfl rfl rfl rfl (fun _ => rfl) ?_
          refine DGG.off rfl rfl rfl rfl rfl rfl (fun _ => rfl) ?_
          refine DGG.off rfl rfl rfl rfl rfl rfl (fun _ => rfl) ?_
          refine DGG.off rfl rfl rfl rfl rfl rfl (fun _ => rfl) ?_
          refine DGG.off rfl rfl rfl rfl rfl rfl (fun _ => rfl) ?_
          refine DGG.off rfl rfl rfl rfl rfl rfl (fun _ => rfl) ?_
          refine DGG.off rfl rfl rfl rfl rfl rfl (fun _ => rfl) ?_
          refine DGG.off rfl rfl rfl rfl rfl rfl (fun _ => rfl) ?_
          refine DGG.off rfl rfl rfl rfl rfl rfl (fun _ => rfl) ?_
          refine DGG.off rfl rfl rfl rfl rfl rfl (fun _ => rfl) ?_
          refine DGG.off rfl rfl rfl rfl rfl rfl (fun _ => rfl) ?_
          refine DGG.step (c := fun γ_461 => ⟨some 74, .bool false, [(61, .bool false)], [], []⟩) [] (fun _ _ _ => rfl) (fun γ_461 t hm => One.step rfl (.free rfl) (OpT.pickF rfl (dl rfl rfl) hm.s0 rfl rfl ⟨(fun _ => undef, 0), rfl⟩)) (fun γ_461 => Ct.met_of rfl rfl) ?_
          refine DGG.step (c := fun γ_461 => ⟨some 4, .bool false, [(74, .bool false)], [], []⟩) [] (fun _ _ _ => rfl) (fun γ_461 t hm => One.step rfl (.free rfl) (OpT.assign rfl (dl rfl rfl) hm.s0 ⟨(fun _ => undef, 0), rfl⟩)) (fun γ_461 => Ct.met_of rfl rfl) ?_
          refine DGG.fin (s1 := fun γ_461 => ⟨[(4, .bool false)], [.box b_460 24 (Arr4.oc .u64 v_458), .arrX w8_0 5 1 0 (y8_0_4.map (cI .u8)), .ro 0 deBruijnD]⟩) (ms := [0, 1, 3, 3, 15, 3, 63, 127, 255, 511, 511, 2047, 4095, 511, 16383, 32767, 65535, 131071, 131071, 393215, 917503, 2097151, 4194303, 131071, 131071, 16908287, 67108863, 134217727, 268435455, 536870911, 1073741823]) TrydMixed rfl (by kernel_rfl) (by kernel_rfl) (by kernel_rfl) (fun γ_461 => by kernel_rfl) (fun γ_461 => .cons rfl (.nil _)) (fun _ => rfl) (fun γ_461 u hu => (thenS_normal (T.by_turn hu ?_)))
          refine T.ret ?_
          exact Fin.doneK (.cons _ _ _ _ (.tmp 4 _ rfl) .nil) (.cons 2 rfl (.nil _)) (by cases h; exact ⟨rfl, rfl⟩)
      · refine DGG.off c_477 rfl rfl rfl rfl rfl (fun _ => rfl) ?_
        refine DGG.off c_477 rfl rfl rfl rfl rfl (fun _ => rfl) ?_
        refine DGG.off c_477 rfl rfl rfl rfl rfl (fun _ => rfl) ?_
        refine DGG.off c_477 rfl rfl rfl rfl rfl (fun _ => rfl) ?_
        refine DGG.off c_477 rfl rfl rfl rfl rfl (fun _ => rfl) ?_
        refine DGG.step (c := fun γ_461 => ⟨some 52, .bool false, [(46, .bool x5_0_1)], [], []⟩) [] (fun _ _ _ => rfl) (fun γ_461 t hm => One.step rfl (.free rfl) (OpT.pickF rfl (dl rfl rfl) hm.s0 c_477 rfl ⟨(fun _ => undef, 0), rfl⟩)) (fun γ_461 => Ct.met_of rfl rfl) ?_
        refine DGG.step (c := fun γ_461 => ⟨some 53, .bool false, [(52, .bool false)], [], []⟩) [] (fun _ _ _ => rfl) (fun γ_461 t hm => One.step rfl (.free rfl) (OpT.move rfl (dl rfl rfl) hm.s0 ⟨(fun _ => undef, 0), rfl⟩)) (fun γ_461 => Ct.met_of rfl rfl) ?_
        refine DGG.off rfl rfl rfl rfl rfl rfl (fun _ => rfl) ?_
        refine DGG.off rfl rfl rfl rfl rfl rfl (fun _ => rfl) ?_
        refine DGG.off rfl rfl rfl rfl rfl rfl (fun _ => rfl) ?_
        refine DGG.off rfl rfl rfl rfl rfl rfl (fun _ => rfl) ?_
        refine DGG.off rfl rfl rfl rfl rfl rfl (fun _ => rfl) ?_
        refine DGG.off rfl rfl rfl rfl rfl rfl (fun _ => rfl) ?_
        refine DGG.step (c := fun γ_461 => ⟨some 60, .bool false, [(53, .bool false)], [], []⟩) [] (fun _ _ _ => rfl) (fun γ_461 t hm => One.step rfl (.free rfl) (OpT.pickF rfl (dl rfl rfl) hm.s0 rfl rfl ⟨(fun _ => undef, 0), rfl⟩)) (fun γ_461 => Ct.met_of rfl rfl) ?_
        refine DGG.step (c := fun γ_461 => ⟨some 61, .bool false, [(60, .bool false)], [], []⟩) [] (fun _ _ _ => rfl) (fun γ_461 t hm => One.step rfl (.free rfl) (OpT.move rfl (dl rfl rfl) hm.s0 ⟨(fun _ => undef, 0), rfl⟩)) (fun γ_461 => Ct.met_of rfl rfl) ?_
        refine DGG.off rfl rfl rfl rfl rfl rfl (fun _ => rfl) ?_
        refine DGG.off rfl rfl rfl rfl rfl rfl (fun _ => rfl) ?_
        refine DGG.off rfl rfl rfl rfl rfl rfl (fun _ => rfl) ?_
        refine DGG.off rfl rfl rfl rfl rfl rfl (fun _ => rfl) ?_
        refine DGG.off rfl rfl rfl rfl rfl rfl (fun _ => rfl) ?_
        refine DGG.off rfl rfl rfl rfl rfl rfl (fun _ => rfl) ?_
        refine DGG.off rfl rfl rfl rfl rfl rfl (fun _ => rfl) ?_
        refine DGG.off rfl rfl rfl rfl rfl rfl (fun _ => rfl) ?_
        refine DGG.off rfl rfl rfl rfl rfl rfl (fun _ => rfl) ?_
        refine DGG.off rfl rfl rfl rfl rfl rfl (fun _ => rfl) ?_
        refine DGG.off rfl rfl rfl rfl rfl rfl (fun _ => rfl) ?_
        refine DGG.off rfl rfl rfl rfl rfl rfl (fun _ => rfl) ?_
        refine DGG.step (c := fun γ_461 => ⟨some 74, .bool false, [(61, .bool false)], [], []⟩) [] (fun _ _ _ => rfl) (fun γ_461 t hm => One.step rfl (.free rfl) (OpT.pickF rfl (dl rfl rfl) hm.s0 rfl rfl ⟨(fun _ => undef, 0), rfl⟩)) (fun γ_461 => Ct.met_of rfl rfl) ?_
        refine DGG.step (c := fun γ_461 => ⟨some 4, .bool false, [(74, .bool false)], [], []⟩) [] (fun _ _ _ => rfl) (fun γ_461 t hm => One.step rfl (.free rfl) (OpT.assign rfl (dl rfl rfl) hm.s0 ⟨(fun _ => undef, 0), rfl⟩)) (fun γ_461 => Ct.met_of rfl rfl) ?_
        refine DGG.fin (s1 := fun γ_461 => ⟨[(4, .bool false)], [.box b_460 24 (Arr4.oc .u64 v_458), .arrX w8_0 5 1 0 (y8_0_4.map (cI .u8)), .ro 0 deBruijnD]⟩) (ms := [0, 1, 3, 3, 15, 3, 63, 127, 255, 511, 511, 2047, 4095, 511, 16383, 32767, 65535, 131071, 131071, 393215, 917503, 2097151, 4194303, 131071, 131071, 16908287, 67108863, 134217727, 268435455, 536870911, 1073741823]) TrydMixed rfl (by kernel_rfl) (by kernel_rfl) (by kernel_rfl) (fun γ_461 => by kernel_rfl) (fun γ_461 => .cons rfl (.nil _)) (fun _ => rfl) (fun γ_461 u hu => (thenS_normal (T.by_turn hu ?_)))
        refine T.ret ?_
        exact Fin.doneK (.cons _ _ _ _ (.tmp 4 _ rfl) .nil) (.cons 2 rfl (.nil _)) (by cases h; exact ⟨rfl, rfl⟩)

theorem raddlelaw01_BsetBytes_T (K : Nat) {x0 : List Int} {x1 : Int} {flx0 : Bool} {r : Bool} (h : raddlelaw01_BsetBytes K x0 x1 = some r) : CallR Tryd.prog 9 [.sl flx0 1 (x0.map (cI .u8)), .int .u8 x1] [.ro 0 deBruijnD] (.bool r) := by
  refine CallT.intro Tryd.func9 rfl (Nat.le_of_ble_eq_true rfl) ?_
  show T Tryd.prog 75 (Code.at [] (codeOf Tryd.f9)) ⟨paramSlots 0 [.sl flx0 1 (x0.map (cI .u8)), .int .u8 x1], [.ro 0 deBruijnD]⟩ (raddlelaw01_BsetBytes_q r)
  unfold raddlelaw01_BsetBytes at h
  refine T.seq ?_
  refine T.regionL ?_
  refine asg rfl rfl rfl rfl rfl ?_
  refine TL'.nil (thenS_normal ?_)
  refine T.seq ?_
  refine T.regionL ?_
  obtain ⟨v_447, e_448, h⟩ := bind_some h
  refine sp rfl (OpT.callRoA rfl (dl rfl rfl) Tryd.func10 rfl rfl Args.nil (.cons 0 rfl (.nil)) (raddlelaw01_shown_T K e_448) ?_)
  refine asg rfl rfl rfl rfl rfl ?_
  refine TL'.nil (thenS_normal ?_)
  refine T.seq ?_
  refine T.regionL ?_
  refine mv rfl rfl rfl rfl rfl ?_
  refine mv rfl rfl rfl rfl rfl ?_
  refine sp rfl (OpT.lenSlM (xs := x0) (f := (cI .u8)) rfl (dl rfl rfl) Tryd.underlying26 rfl ?_)
  refine sp rfl (OpT.min2 rfl (dl rfl rfl) rfl rfl ?_)
  obtain ⟨g_449, h⟩ := ck_some h
  refine sp rfl (OpT.sliceM (xs := x0) (f := (cI .u8)) (l := 0) (h := (Int.toNat (if (300 : Int) < (x0.length : Int) then (300 : Int) else (x0.length : Int)))) rfl (dl rfl rfl) Tryd.underlying26 i5 rfl (.none _) (.some _ _ _ _ rfl g_449.1) g_449.2.1 g_449.2.2 ?_)
  refine asg rfl rfl rfl rfl rfl ?_
  refine TL'.nil (thenS_normal ?_)
  refine T.seq ?_
  refine T.regionL ?_
  refine asg rfl rfl rfl rfl rfl ?_
  refine TL'.nil (thenS_normal ?_)
  refine T.seq ?_
  refine T.regionL ?_
  refine asg rfl rfl rfl rfl rfl ?_
  refine TL'.nil (thenS_normal ?_)
  refine T.seq ?_
  refine T.seq ?_
  refine T.regionL ?_
  refine mv rfl rfl rfl rfl rfl ?_
  refine sp rfl (OpT.lenSlM (xs := ((x0.take (Int.toNat (if (300 : Int) < (x0.length : Int) then (300 : Int) else (x0.length : Int)))).drop 0)) (f := (cI .u8)) rfl (dl rfl rfl) Tryd.underlying26 rfl ?_)
  refine mv rfl rfl rfl rfl rfl ?_
  refine TL'.nil (thenS_normal ?_)
  refine T.block ?_
  refine T.loop ?_
  refine TL.by_turn (Turn.nilX 5 1) ?_
  refine TL.by_turn ?_ (raddlelaw01_BsetBytes_l0_T K K x1 v_447 ((x0.take (Int.toNat (if (300 : Int) < (x0.length : Int) then (300 : Int) else (x0.length : Int)))).drop 0) false (((x0.take (Int.toNat (if (300 : Int) < (x0.length : Int) then (300 : Int) else (x0.length : Int)))).drop 0).length : Int) (0 : Int) [] (nilv 6) h)
  exact Turn.rp (.cons rfl (.cons rfl (.cons rfl (.cons rfl (.cons rfl (.cons rfl (.cons rfl (.nil _)))))))) (.c .z (.c .z (.n _)))

end Go.Rv

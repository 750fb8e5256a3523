/- Each function computes what its plain text says: printed by a program of ours. -/
import Derived.Test.YtaipjabggdifoaaRgW5
namespace Go.Rv
open Go.Proofs
set_option maxRecDepth 100000
set_option maxHeartbeats 4000000
set_option linter.unusedVariables false

abbrev raddlelaw14_TableEncodes_q (r : Bool) : Exit → St → Prop := retS Try.prog Try.f3 (fun y t => y = (.bool r) ∧ t = [])

theorem raddlelaw14_TableEncodes_T (K : Nat) {x0 : api_Auto} {x1 : List Int} {x2 : Int} {flx1 : Bool} {r : Bool} (h : raddlelaw14_TableEncodes K x0 x1 x2 = some r) : CallR Try.prog 3 [.agg ((ArrN.dc 256 .u8 x0.Split.Of) ++ (([.int .i64 x0.Split.Many, .sl false 2 (x0.Counts.map (Arr2.dc .i64)), .sl false 4 (x0.States.map c_api_State)] : List DC))), .sl flx1 1 (x1.map (cI .u8)), .int .i64 x2] [] (.bool r) := by
  refine CallT.intro Try.func3 rfl (Nat.le_of_ble_eq_true rfl) ?_
  show T Try.prog 53 (Code.at [] (codeOf Try.f3)) ⟨paramSlots 0 [.agg ((ArrN.dc 256 .u8 x0.Split.Of) ++ (([.int .i64 x0.Split.Many, .sl false 2 (x0.Counts.map (Arr2.dc .i64)), .sl false 4 (x0.States.map c_api_State)] : List DC))), .sl flx1 1 (x1.map (cI .u8)), .int .i64 x2], []⟩ (raddlelaw14_TableEncodes_q r)
  unfold raddlelaw14_TableEncodes at h
  refine T.seq ?_
  refine T.regionL ?_
  refine sp rfl (OpT.boxAgg rfl (dl rfl rfl) rfl (fun b_117 => ?_))
  refine asg rfl rfl rfl rfl rfl ?_
  refine TL'.nil (thenS_normal ?_)
  refine T.seq ?_
  refine T.regionL ?_
  refine sp rfl (OpT.loadBoxAgg (i := 0) (l := ((ArrN.dc 256 .u8 x0.Split.Of) ++ (([.int .i64 x0.Split.Many, .sl false 2 (x0.Counts.map (Arr2.dc .i64)), .sl false 4 (x0.States.map c_api_State)] : List DC)))) rfl (dl rfl rfl) Try.underlying28 rfl i28 rfl rfl rfl rfl ?_)
  obtain ⟨v_118, e_119, h⟩ := bind_some h
  refine sp rfl (OpT.callPA rfl (dl rfl rfl) Try.func11 rfl rfl (Args.cons rfl Args.nil) (CallR.nil (raddlelaw14_few_T K e_119)) ?_)
  obtain ⟨v_120, e_121, h⟩ := bind_some h
  refine sp rfl (OpT.callPA rfl (dl rfl rfl) Try.func10 rfl rfl (Args.cons rfl Args.nil) (CallR.nil (table_Encode_T K e_121)) ?_)
  refine mv rfl rfl rfl rfl rfl ?_
  refine sp rfl (OpT.extract rfl (dl rfl rfl) rfl rfl ?_)
  refine sp rfl (OpT.extract rfl (dl rfl rfl) rfl rfl ?_)
  refine asg rfl rfl rfl rfl rfl ?_
  refine asg rfl rfl rfl rfl rfl ?_
  refine TL'.nil (thenS_normal ?_)
  refine T.seq ?_
  refine T.regionL ?_
  refine sp rfl (OpT.loadBoxAgg (i := 0) (l := ((ArrN.dc 256 .u8 x0.Split.Of) ++ (([.int .i64 x0.Split.Many, .sl false 2 (x0.Counts.map (Arr2.dc .i64)), .sl false 4 (x0.States.map c_api_State)] : List DC)))) rfl (dl rfl rfl) Try.underlying28 rfl i28 rfl rfl rfl rfl ?_)
  refine sp rfl (OpT.callPA rfl (dl rfl rfl) Try.func11 rfl rfl (Args.cons rfl Args.nil) (CallR.nil (raddlelaw14_few_T K e_119)) ?_)
  obtain ⟨v_122, e_123, h⟩ := bind_some h
  refine sp rfl (OpT.callPA rfl (dl rfl rfl) Try.func12 rfl rfl (Args.cons rfl Args.nil) (CallR.nil (raddleref14_Encode_T K e_123)) ?_)
  refine mv rfl rfl rfl rfl rfl ?_
  refine sp rfl (OpT.extract rfl (dl rfl rfl) rfl rfl ?_)
  refine sp rfl (OpT.extract rfl (dl rfl rfl) rfl rfl ?_)
  refine asg rfl rfl rfl rfl rfl ?_
  refine asg rfl rfl rfl rfl rfl ?_
  refine TL'.nil (thenS_normal ?_)
  refine T.seq ?_
  refine T.regionL ?_
  refine mv rfl rfl rfl rfl rfl ?_
  refine mv rfl rfl rfl rfl rfl ?_
  refine sp rfl (OpT.lenSlM (xs := x1) (f := (cI .u8)) rfl (dl rfl rfl) Try.underlying29 rfl ?_)
  refine sp rfl (OpT.min2 rfl (dl rfl rfl) rfl rfl ?_)
  obtain ⟨g_124, h⟩ := ck_some h
  refine sp rfl (OpT.sliceM (xs := x1) (f := (cI .u8)) (l := 0) (h := (Int.toNat (if (20 : Int) < (x1.length : Int) then (20 : Int) else (x1.length : Int)))) rfl (dl rfl rfl) Try.underlying29 i5 rfl (.none _) (.some _ _ _ _ rfl g_124.1) g_124.2.1 g_124.2.2 ?_)
  refine asg rfl rfl rfl rfl rfl ?_
  refine TL'.nil (thenS_normal ?_)
  refine T.seq ?_
  refine T.by_turn Turn.keepPlace ?_
  refine T.by_turn Turn.keepPlace ?_
  refine DGG.start ?_
  obtain ⟨v_137, e_138, h⟩ := bind_some h
  refine DGG.step (c := fun γ_125 => ⟨some 29, .bool v_137, [], [], []⟩) [] (fun _ _ _ => rfl) (fun γ_125 t hm => One.step rfl (.free rfl) (OpT.callPA rfl (dl rfl rfl) Try.func13 rfl rfl Args.nil (CallR.nil (raddlelaw14_shown_T K e_138)) ⟨(fun _ => undef, 0), rfl⟩)) (fun γ_125 => Ct.met_of rfl rfl) ?_
  refine DGG.step (c := fun γ_125 => ⟨some 30, .bool v_137, [(29, .bool v_137)], [], []⟩) [] (fun _ _ _ => rfl) (fun γ_125 t hm => One.step rfl (.free rfl) (OpT.move rfl (dl rfl rfl) hm.s0 ⟨(fun _ => undef, 0), rfl⟩)) (fun γ_125 => Ct.met_of rfl rfl) ?_
  rcases bif_some h with ⟨c_139, h⟩ | ⟨c_139, h⟩
  · refine DGG.step (c := fun γ_125 => ⟨some 31, .sl false 1 (v_120.1.map (cI .u8)), [(7, .sl false 1 (v_120.1.map (cI .u8))), (30, .bool v_137)], [], []⟩) [] (fun _ _ _ => rfl) (fun γ_125 t hm => One.step rfl (.on rfl rfl hm.s1 c_139) (OpT.move rfl (dl rfl rfl) hm.s0 ⟨(fun _ => undef, 0), rfl⟩)) (fun γ_125 => Ct.met_of rfl rfl) ?_
    refine DGG.step (c := fun γ_125 => ⟨some 32, .str (ofBytes v_120.1), [(31, .sl false 1 (v_120.1.map (cI .u8))), (30, .bool v_137)], [], []⟩) [] (fun _ _ _ => rfl) (fun γ_125 t hm => One.step rfl (.on rfl rfl hm.s1 c_139) (OpT.convBytes (xs := v_120.1) rfl (dl rfl rfl) Try.underlying29 Try.underlying5 Try.underlying9 hm.s0 ⟨(fun _ => undef, 0), rfl⟩)) (fun γ_125 => Ct.met_of rfl rfl) ?_
    refine DGG.step (c := fun γ_125 => ⟨some 33, .sl false 1 (v_122.1.map (cI .u8)), [(9, .sl false 1 (v_122.1.map (cI .u8))), (30, .bool v_137)], [], []⟩) [] (fun _ _ _ => rfl) (fun γ_125 t hm => One.step rfl (.on rfl rfl hm.s1 c_139) (OpT.move rfl (dl rfl rfl) hm.s0 ⟨(fun _ => undef, 0), rfl⟩)) (fun γ_125 => Ct.met_of rfl rfl) ?_
    refine DGG.step (c := fun γ_125 => ⟨some 34, .str (ofBytes v_122.1), [(33, .sl false 1 (v_122.1.map (cI .u8))), (30, .bool v_137)], [], []⟩) [] (fun _ _ _ => rfl) (fun γ_125 t hm => One.step rfl (.on rfl rfl hm.s1 c_139) (OpT.convBytes (xs := v_122.1) rfl (dl rfl rfl) Try.underlying29 Try.underlying5 Try.underlying9 hm.s0 ⟨(fun _ => undef, 0), rfl⟩)) (fun γ_125 => Ct.met_of rfl rfl) ?_
    refine DGG.step (c := fun γ_125 => ⟨some 35, .bool ((ofBytes v_120.1).toList == (ofBytes v_122.1).toList), [(32, .str (ofBytes v_120.1)), (34, .str (ofBytes v_122.1)), (30, .bool v_137)], [], []⟩) [] (fun _ _ _ => rfl) (fun γ_125 t hm => One.step rfl (.on rfl rfl hm.s2 c_139) (OpT.str_eql rfl (dl rfl rfl) hm.s0 hm.s1 ⟨(fun _ => undef, 0), rfl⟩)) (fun γ_125 => Ct.met_of rfl rfl) ?_
    refine DGG.step (c := fun γ_125 => ⟨some 36, .bool ((ofBytes v_120.1).toList == (ofBytes v_122.1).toList), [(30, .bool v_137), (35, .bool ((ofBytes v_120.1).toList == (ofBytes v_122.1).toList))], [], []⟩) [] (fun _ _ _ => rfl) (fun γ_125 t hm => One.step rfl (.free rfl) (OpT.pickT rfl (dl rfl rfl) hm.s0 c_139 hm.s1 ⟨(fun _ => undef, 0), rfl⟩)) (fun γ_125 => Ct.met_of rfl rfl) ?_
    refine DGG.step (c := fun γ_125 => ⟨some 37, .bool ((ofBytes v_120.1).toList == (ofBytes v_122.1).toList), [(36, .bool ((ofBytes v_120.1).toList == (ofBytes v_122.1).toList))], [], []⟩) [] (fun _ _ _ => rfl) (fun γ_125 t hm => One.step rfl (.free rfl) (OpT.move rfl (dl rfl rfl) hm.s0 ⟨(fun _ => undef, 0), rfl⟩)) (fun γ_125 => Ct.met_of rfl rfl) ?_
    rcases bif_some h with ⟨c_140, h⟩ | ⟨c_140, h⟩
    · refine DGG.step (c := fun γ_125 => ⟨some 38, .int .i64 v_120.2, [(8, .int .i64 v_120.2), (37, .bool ((ofBytes v_120.1).toList == (ofBytes v_122.1).toList))], [], []⟩) [] (fun _ _ _ => rfl) (fun γ_125 t hm => One.step rfl (.on rfl rfl hm.s1 c_140) (OpT.move rfl (dl rfl rfl) hm.s0 ⟨(fun _ => undef, 0), rfl⟩)) (fun γ_125 => Ct.met_of rfl rfl) ?_
      refine DGG.step (c := fun γ_125 => ⟨some 39, .int .i64 v_122.2, [(10, .int .i64 v_122.2), (37, .bool ((ofBytes v_120.1).toList == (ofBytes v_122.1).toList))], [], []⟩) [] (fun _ _ _ => rfl) (fun γ_125 t hm => One.step rfl (.on rfl rfl hm.s1 c_140) (OpT.move rfl (dl rfl rfl) hm.s0 ⟨(fun _ => undef, 0), rfl⟩)) (fun γ_125 => Ct.met_of rfl rfl) ?_
      refine DGG.step (c := fun γ_125 => ⟨some 40, .bool (v_120.2 == v_122.2), [(38, .int .i64 v_120.2), (39, .int .i64 v_122.2), (37, .bool ((ofBytes v_120.1).toList == (ofBytes v_122.1).toList))], [], []⟩) [] (fun _ _ _ => rfl) (fun γ_125 t hm => One.step rfl (.on rfl rfl hm.s2 c_140) (OpT.int2 rfl rfl (dl rfl rfl) hm.s0 hm.s1 ⟨(fun _ => undef, 0), rfl⟩)) (fun γ_125 => Ct.met_of rfl rfl) ?_
      refine DGG.step (c := fun γ_125 => ⟨some 41, .bool (v_120.2 == v_122.2), [(37, .bool ((ofBytes v_120.1).toList == (ofBytes v_122.1).toList)), (40, .bool (v_120.2 == v_122.2))], [], []⟩) [] (fun _ _ _ => rfl) (fun γ_125 t hm => One.step rfl (.free rfl) (OpT.pickT rfl (dl rfl rfl) hm.s0 c_140 hm.s1 ⟨(fun _ => undef, 0), rfl⟩)) (fun γ_125 => Ct.met_of rfl rfl) ?_
      refine DGG.step (c := fun γ_125 => ⟨some 42, .bool (v_120.2 == v_122.2), [(41, .bool (v_120.2 == v_122.2))], [], []⟩) [] (fun _ _ _ => rfl) (fun γ_125 t hm => One.step rfl (.free rfl) (OpT.move rfl (dl rfl rfl) hm.s0 ⟨(fun _ => undef, 0), rfl⟩)) (fun γ_125 => Ct.met_of rfl rfl) ?_
      rcases bif_some h with ⟨c_141, h⟩ | ⟨c_141, h⟩
      · refine DGG.step (c := fun γ_125 => ⟨some 43, .sl false 1 (((x1.take (Int.toNat (if (20 : Int) < (x1.length : Int) then (20 : Int) else (x1.length : Int)))).drop 0).map (cI .u8)), [(11, .sl false 1 (((x1.take (Int.toNat (if (20 : Int) < (x1.length : Int) then (20 : Int) else (x1.length : Int)))).drop 0).map (cI .u8))), (42, .bool (v_120.2 == v_122.2))], [], []⟩) [] (fun _ _ _ => rfl) (fun γ_125 t hm => One.step rfl (.on rfl rfl hm.s1 c_141) (OpT.move rfl (dl rfl rfl) hm.s0 ⟨(fun _ => undef, 0), rfl⟩)) (fun γ_125 => Ct.met_of rfl rfl) ?_
        refine DGG.step (c := fun γ_125 => ⟨some 44, .int .i64 x2, [(2, .int .i64 x2), (42, .bool (v_120.2 == v_122.2))], [], []⟩) [] (fun _ _ _ => rfl) (fun γ_125 t hm => One.step rfl (.on rfl rfl hm.s1 c_141) (OpT.move rfl (dl rfl rfl) hm.s0 ⟨(fun _ => undef, 0), rfl⟩)) (fun γ_125 => Ct.met_of rfl rfl) ?_
        obtain ⟨v_142, e_143, h⟩ := bind_some h
        refine DGG.step (c := fun γ_125 => ⟨some 45, .sl false 1 (v_142.map (cI .u8)), [(43, .sl false 1 (((x1.take (Int.toNat (if (20 : Int) < (x1.length : Int) then (20 : Int) else (x1.length : Int)))).drop 0).map (cI .u8))), (44, .int .i64 x2), (42, .bool (v_120.2 == v_122.2))], [(0, .ro 0 [])], [(0, .arrA ((γ_125 16).1 0) 5 1 (v_142.map (cI .u8)))]⟩) [16] (fun γ_125 γ' h => by simp only [h 16 (by decide)]) (fun γ_125 t hm => One.step rfl (.on rfl rfl hm.s2 c_141) (OpT.thenTurnG (OpT.callG (is := [0]) (ph := [.ro 0 []]) rfl (dl rfl rfl) Try.func14 rfl rfl (Args.cons hm.s0 (Args.cons hm.s1 Args.nil)) (table_Number_T K (flx0 := false) e_143) (.cons hm.o0 rfl (.nil)) (fun _ => rfl) (fun g => ⟨g, rfl⟩)) (fun g => Turn.viewP 45 0 (AtO.get (AtO.setAll (.cons hm.o0 rfl (.nil)) (by exact rfl)) (k := 0) rfl rfl)) (fun g => ⟨(g, 0), rfl⟩))) (fun γ_125 => Ct.met_of rfl rfl) ?_
        refine DGG.step (c := fun γ_125 => ⟨some 46, .str (ofBytes v_142), [(45, .sl false 1 (v_142.map (cI .u8))), (42, .bool (v_120.2 == v_122.2))], [], []⟩) [] (fun _ _ _ => rfl) (fun γ_125 t hm => One.step rfl (.on rfl rfl hm.s1 c_141) (OpT.convBytes (xs := v_142) rfl (dl rfl rfl) Try.underlying29 Try.underlying5 Try.underlying9 hm.s0 ⟨(fun _ => undef, 0), rfl⟩)) (fun γ_125 => Ct.met_of rfl rfl) ?_
        refine DGG.step (c := fun γ_125 => ⟨some 47, .sl false 1 (((x1.take (Int.toNat (if (20 : Int) < (x1.length : Int) then (20 : Int) else (x1.length : Int)))).drop 0).map (cI .u8)), [(11, .sl false 1 (((x1.take (Int.toNat (if (20 : Int) < (x1.length : Int) then (20 : Int) else (x1.length : Int)))).drop 0).map (cI .u8))), (42, .bool (v_120.2 == v_122.2))], [], []⟩) [] (fun _ _ _ => rfl) (fun γ_125 t hm => One.step rfl (.on rfl rfl hm.s1 c_141) (OpT.move rfl (dl rfl rfl) hm.s0 ⟨(fun _ => undef, 0), rfl⟩)) (fun γ_125 => Ct.met_of rfl rfl) ?_
        refine DGG.step (c := fun γ_125 => ⟨some 48, .int .i64 x2, [(2, .int .i64 x2), (42, .bool (v_120.2 == v_122.2))], [], []⟩) [] (fun _ _ _ => rfl) (fun γ_125 t hm => One.step rfl (.on rfl rfl hm.s1 c_141) (OpT.move rfl (dl rfl rfl) hm.s0 ⟨(fun _ => undef, 0), rfl⟩)) (fun γ_125 => Ct.met_of rfl rfl) ?_
        obtain ⟨v_144, e_145, h⟩ := bind_some h
        refine DGG.step (c := fun γ_125 => ⟨some 49, .sl false 1 (v_144.map (cI .u8)), [(47, .sl false 1 (((x1.take (Int.toNat (if (20 : Int) < (x1.length : Int) then (20 : Int) else (x1.length : Int)))).drop 0).map (cI .u8))), (48, .int .i64 x2), (42, .bool (v_120.2 == v_122.2))], [(1, .ro 0 [])], [(1, .arrA ((γ_125 20).1 0) 5 1 (v_144.map (cI .u8)))]⟩) [20] (fun γ_125 γ' h => by simp only [h 20 (by decide)]) (fun γ_125 t hm => One.step rfl (.on rfl rfl hm.s2 c_141) (OpT.thenTurnG (OpT.callG (is := [1]) (ph := [.ro 0 []]) rfl (dl rfl rfl) Try.func15 rfl rfl (Args.cons hm.s0 (Args.cons hm.s1 Args.nil)) (raddleref14_Number_T K (flx0 := false) e_145) (.cons hm.o0 rfl (.nil)) (fun _ => rfl) (fun g => ⟨g, rfl⟩)) (fun g => Turn.viewP 49 1 (AtO.get (AtO.setAll (.cons hm.o0 rfl (.nil)) (by exact rfl)) (k := 0) rfl rfl)) (fun g => ⟨(g, 0), rfl⟩))) (fun γ_125 => Ct.met_of rfl rfl) ?_
        refine DGG.step (c := fun γ_125 => ⟨some 50, .str (ofBytes v_144), [(49, .sl false 1 (v_144.map (cI .u8))), (42, .bool (v_120.2 == v_122.2))], [], []⟩) [] (fun _ _ _ => rfl) (fun γ_125 t hm => One.step rfl (.on rfl rfl hm.s1 c_141) (OpT.convBytes (xs := v_144) rfl (dl rfl rfl) Try.underlying29 Try.underlying5 Try.underlying9 hm.s0 ⟨(fun _ => undef, 0), rfl⟩)) (fun γ_125 => Ct.met_of rfl rfl) ?_
        refine DGG.step (c := fun γ_125 => ⟨some 51, .bool ((ofBytes v_142).toList == (ofBytes v_144).toList), [(46, .str (ofBytes v_142)), (50, .str (ofBytes v_144)), (42, .bool (v_120.2 == v_122.2))], [], []⟩) [] (fun _ _ _ => rfl) (fun γ_125 t hm => One.step rfl (.on rfl rfl hm.s2 c_141) (OpT.str_eql rfl (dl rfl rfl) hm.s0 hm.s1 ⟨(fun _ => undef, 0), rfl⟩)) (fun γ_125 => Ct.met_of rfl rfl) ?_
        refine DGG.step (c := fun γ_125 => ⟨some 52, .bool ((ofBytes v_142).toList == (ofBytes v_144).toList), [(42, .bool (v_120.2 == v_122.2)), (51, .bool ((ofBytes v_142).toList == (ofBytes v_144).toList))], [], []⟩) [] (fun _ _ _ => rfl) (fun γ_125 t hm => One.step rfl (.free rfl) (OpT.pickT rfl (dl rfl rfl) hm.s0 c_141 hm.s1 ⟨(fun _ => undef, 0), rfl⟩)) (fun γ_125 => Ct.met_of rfl rfl) ?_
        refine DGG.step (c := fun γ_125 => ⟨some 6, .bool ((ofBytes v_142).toList == (ofBytes v_144).toList), [(52, .bool ((ofBytes v_142).toList == (ofBytes v_144).toList))], [], []⟩) [] (fun _ _ _ => rfl) (fun γ_125 t hm => One.step rfl (.free rfl) (OpT.assign rfl (dl rfl rfl) hm.s0 ⟨(fun _ => undef, 0), rfl⟩)) (fun γ_125 => Ct.met_of rfl rfl) ?_
        refine DGG.fin (s1 := fun γ_125 => ⟨[(6, .bool ((ofBytes v_142).toList == (ofBytes v_144).toList))], [.arrA ((γ_125 16).1 0) 5 1 (v_142.map (cI .u8)), .arrA ((γ_125 20).1 0) 5 1 (v_144.map (cI .u8)), .box b_117 28 ((ArrN.oc 256 .u8 x0.Split.Of) ++ (([.d (.int .i64 x0.Split.Many), .d (.sl false 2 (x0.Counts.map (Arr2.dc .i64))), .d (.sl false 4 (x0.States.map c_api_State))] : List OC)))]⟩) (ms := [0, 1, 3, 7, 3, 19, 63, 127, 255, 511, 511, 2047, 4095, 8191, 16383, 16383, 65535, 131071, 16383, 16383, 917503, 1966079, 4194303, 8388607, 16777215]) TryMixed rfl (by kernel_rfl) (by kernel_rfl) (by kernel_rfl) (fun γ_125 => by kernel_rfl) (fun γ_125 => .cons rfl (.nil _)) (fun _ => rfl) (fun γ_125 u hu => (thenS_normal (T.by_turn hu ?_)))
        refine T.ret ?_
        exact Fin.done (.cons _ _ _ _ (.tmp 6 _ rfl) .nil) (by cases h; exact ⟨rfl, rfl⟩)
      · refine DGG.off c_141 rfl rfl rfl rfl rfl (fun _ => rfl) ?_
        refine DGG.off c_141 rfl rfl rfl rfl rfl (fun _ => rfl) ?_
        refine DGG.off c_141 rfl rfl rfl rfl rfl (fun _ => rfl) ?_
        refine DGG.off c_141 rfl rfl rfl rfl rfl (fun _ => rfl) ?_
        refine DGG.off c_141 rfl rfl rfl rfl rfl (fun _ => rfl) ?_
        refine DGG.off c_141 rfl rfl rfl rfl rfl (fun _ => rfl) ?_
        refine DGG.off c_141 rfl rfl rfl rfl rfl (fun _ => rfl) ?_
        refine DGG.off c_141 rfl rfl rfl rfl rfl (fun _ => rfl) ?_
        refine DGG.off c_141 rfl rfl rfl rfl rfl (fun _ => rfl) ?_
        refine DGG.step (c := fun γ_125 => ⟨some 52, .bool false, [(42, .bool (v_120.2 == v_122.2))], [], []⟩) [] (fun _ _ _ => rfl) (fun γ_125 t hm => One.step rfl (.free rfl) (OpT.pickF rfl (dl rfl rfl) hm.s0 c_141 rfl ⟨(fun _ => undef, 0), rfl⟩)) (fun γ_125 => Ct.met_of rfl rfl) ?_
        refine DGG.step (c := fun γ_125 => ⟨some 6, .bool false, [(52, .bool false)], [], []⟩) [] (fun _ _ _ => rfl) (fun γ_125 t hm => One.step rfl (.free rfl) (OpT.assign rfl (dl rfl rfl) hm.s0 ⟨(fun _ => undef, 0), rfl⟩)) (fun γ_125 => Ct.met_of rfl rfl) ?_
        refine DGG.fin (s1 := fun γ_125 => ⟨[(6, .bool false)], [.ro 0 [], .ro 0 [], .box b_117 28 ((ArrN.oc 256 .u8 x0.Split.Of) ++ (([.d (.int .i64 x0.Split.Many), .d (.sl false 2 (x0.Counts.map (Arr2.dc .i64))), .d (.sl false 4 (x0.States.map c_api_State))] : List OC)))]⟩) (ms := [0, 1, 3, 7, 3, 19, 63, 127, 255, 511, 511, 2047, 4095, 8191, 16383, 16383, 65535, 131071, 16383, 16383, 917503, 1966079, 4194303, 8388607, 16777215]) TryMixed rfl (by kernel_rfl) (by kernel_rfl) (by kernel_rfl) (fun γ_125 => by kernel_rfl) (fun γ_125 => .cons rfl (.nil _)) (fun _ => rfl) (fun γ_125 u hu => (thenS_normal (T.by_turn hu ?_)))
        refine T.ret ?_
        exact Fin.done (.cons _ _ _ _ (.tmp 6 _ rfl) .nil) (by cases h; exact ⟨rfl, rfl⟩)
    · refine DGG.off c_140 rfl rfl rfl rfl rfl (fun _ => rfl) ?_
      refine DGG.off c_140 rfl rfl rfl rfl rfl (fun _ => rfl) ?_
      refine DGG.off c_140 rfl rfl rfl rfl rfl (fun _ => rfl) ?_
      refine DGG.step (c := fun γ_125 => ⟨some 41, .bool false, [(37, .bool ((ofBytes v_120.1).toList == (ofBytes v_122.1).toList))], [], []⟩) [] (fun _ _ _ => rfl) (fun γ_125 t hm => One.step rfl (.free rfl) (OpT.pickF rfl (dl rfl rfl) hm.s0 c_140 rfl ⟨(fun _ => undef, 0), rfl⟩)) (fun γ_125 => Ct.met_of rfl rfl) ?_
      refine DGG.step (c := fun γ_125 => ⟨some 42, .bool false, [(41, .bool false)], [], []⟩) [] (fun _ _ _ => rfl) (fun γ_125 t hm => One.step rfl (.free rfl) (OpT.move rfl (dl rfl rfl) hm.s0 ⟨(fun _ => undef, 0), rfl⟩)) (fun γ_125 => Ct.met_of rfl rfl) ?_
      refine DGG.off rfl rfl rfl rfl rfl rfl (fun _ => rfl) ?_
      refine DGG.off rfl rfl rfl rfl rfl rfl (fun _ => rfl) ?_
      refine DGG.off rfl rfl rfl rfl rfl rfl (fun _ => rfl) ?_
      refine DGG.off rfl rfl rfl rfl rfl rfl (fun _ => rfl) ?_
      refine DGG.off rfl rfl rfl rfl rfl rfl (fun _ => rfl) ?_
      refine DGG.off rfl rfl rfl rfl rfl rfl (fun _ => rfl) ?_
      refine DGG.off rfl rfl rfl rfl rfl rfl (fun _ => rfl) ?_
      refine DGG.off rfl rfl rfl rfl rfl rfl (fun _ => rfl) ?_
      refine DGG.off rfl rfl rfl rfl rfl rfl (fun _ => rfl) ?_
      refine DGG.step (c := fun γ_125 => ⟨some 52, .bool false, [(42, .bool false)], [], []⟩) [] (fun _ _ _ => rfl) (fun γ_125 t hm => One.step rfl (.free rfl) (OpT.pickF rfl (dl rfl rfl) hm.s0 rfl rfl ⟨(fun _ => undef, 0), rfl⟩)) (fun γ_125 => Ct.met_of rfl rfl) ?_
      refine DGG.step (c := fun γ_125 => ⟨some 6, .bool false, [(52, .bool false)], [], []⟩) [] (fun _ _ _ => rfl) (fun γ_125 t hm => One.step rfl (.free rfl) (OpT.assign rfl (dl rfl rfl) hm.s0 ⟨(fun _ => undef, 0), rfl⟩)) (fun γ_125 => Ct.met_of rfl rfl) ?_
      refine DGG.fin (s1 := fun γ_125 => ⟨[(6, .bool false)], [.ro 0 [], .ro 0 [], .box b_117 28 ((ArrN.oc 256 .u8 x0.Split.Of) ++ (([.d (.int .i64 x0.Split.Many), .d (.sl false 2 (x0.Counts.map (Arr2.dc .i64))), .d (.sl false 4 (x0.States.map c_api_State))] : List OC)))]⟩) (ms := [0, 1, 3, 7, 3, 19, 63, 127, 255, 511, 511, 2047, 4095, 8191, 16383, 16383, 65535, 131071, 16383, 16383, 917503, 1966079, 4194303, 8388607, 16777215]) TryMixed rfl (by kernel_rfl) (by kernel_rfl) (by kernel_rfl) (fun γ_125 => by kernel_rfl) (fun γ_125 => .cons rfl (.nil _)) (fun _ => rfl) (fun γ_125 u hu => (thenS_normal (T.by_turn hu ?_)))
      refine T.ret ?_
      exact Fin.done (.cons _ _ _ _ (.tmp 6 _ rfl) .nil) (by cases h; exact ⟨rfl, rfl⟩)
  · refine DGG.off c_139 rfl rfl rfl rfl rfl (fun _ => rfl) ?_
    refine DGG.off c_139 rfl rfl rfl rfl rfl (fun _ => rfl) ?_
    refine DGG.off c_139 rfl rfl rfl rfl rfl (fun _ => rfl) ?_
    refine DGG.off c_139 rfl rfl rfl rfl rfl (fun _ => rfl) ?_
    refine DGG.off c_139 rfl rfl rfl rfl rfl (fun _ => rfl) ?_
    refine DGG.step (c := fun γ_125 => ⟨some 36, .bool false, [(30, .bool v_137)], [], []⟩) [] (fun _ _ _ => rfl) (fun γ_125 t hm => One.step rfl (.free rfl) (OpT.pickF rfl (dl rfl rfl) hm.s0 c_139 rfl ⟨(fun _ => undef, 0), rfl⟩)) (fun γ_125 => Ct.met_of rfl rfl) ?_
    refine DGG.step (c := fun γ_125 => ⟨some 37, .bool false, [(36, .bool false)], [], []⟩) [] (fun _ _ _ => rfl) (fun γ_125 t hm => One.step rfl (.free rfl) (OpT.move rfl (dl rfl rfl) hm.s0 ⟨(fun _ => undef, 0), rfl⟩)) (fun γ_125 => Ct.met_of rfl rfl) ?_
    refine DGG.off rfl rfl rfl rfl rfl rfl (fun _ => rfl) ?_
    refine DGG.off rfl rfl rfl rfl rfl rfl (fun _ => rfl) ?_
    refine DGG.off rfl rfl rfl rfl rfl rfl (fun _ => rfl) ?_
    refine DGG.step (c := fun γ_125 => ⟨some 41, .bool false, [(37, .bool false)], [], []⟩) [] (fun _ _ _ => rfl) (fun γ_125 t hm => One.step rfl (.free rfl) (OpT.pickF rfl (dl rfl rfl) hm.s0 rfl rfl ⟨(fun _ => undef, 0), rfl⟩)) (fun γ_125 => Ct.met_of rfl rfl) ?_
    refine DGG.step (c := fun γ_125 => ⟨some 42, .bool false, [(41, .bool false)], [], []⟩) [] (fun _ _ _ => rfl) (fun γ_125 t hm => One.step rfl (.free rfl) (OpT.move rfl (dl rfl rfl) hm.s0 ⟨(fun _ => undef, 0), rfl⟩)) (fun γ_125 => Ct.met_of rfl rfl) ?_
    refine DGG.off rfl rfl rfl rfl rfl rfl (fun _ => rfl) ?_
    refine DGG.off rfl rfl rfl rfl rfl rfl (fun _ => rfl) ?_
    refine DGG.off rfl rfl rfl rfl rfl rfl (fun _ => rfl) ?_
    refine DGG.off rfl rfl rfl rfl rfl rfl (fun _ => rfl) ?_
    refine DGG.off rfl rfl rfl rfl rfl rfl (fun _ => rfl) ?_
    refine DGG.off rfl rfl rfl rfl rfl rfl (fun _ => rfl) ?_
    refine DGG.off rfl rfl rfl rfl rfl rfl (fun _ => rfl) ?_
    refine DGG.off rfl rfl rfl rfl rfl rfl (fun _ => rfl) ?_
    refine DGG.off rfl rfl rfl rfl rfl rfl (fun _ => rfl) ?_
    refine DGG.step (c := fun γ_125 => ⟨some 52, .bool false, [(42, .bool false)], [], []⟩) [] (fun _ _ _ => rfl) (fun γ_125 t hm => One.step rfl (.free rfl) (OpT.pickF rfl (dl rfl rfl) hm.s0 rfl rfl ⟨(fun _ => undef, 0), rfl⟩)) (fun γ_125 => Ct.met_of rfl rfl) ?_
    refine DGG.step (c := fun γ_125 => ⟨some 6, .bool false, [(52, .bool false)], [], []⟩) [] (fun _ _ _ => rfl) (fun γ_125 t hm => One.step rfl (.free rfl) (OpT.assign rfl (dl rfl rfl) hm.s0 ⟨(fun _ => undef, 0), rfl⟩)) (fun γ_125 => Ct.met_of rfl rfl) ?_
    refine DGG.fin (s1 := fun γ_125 => ⟨[(6, .bool false)], [.ro 0 [], .ro 0 [], .box b_117 28 ((ArrN.oc 256 .u8 x0.Split.Of) ++ (([.d (.int .i64 x0.Split.Many), .d (.sl false 2 (x0.Counts.map (Arr2.dc .i64))), .d (.sl false 4 (x0.States.map c_api_State))] : List OC)))]⟩) (ms := [0, 1, 3, 7, 3, 19, 63, 127, 255, 511, 511, 2047, 4095, 8191, 16383, 16383, 65535, 131071, 16383, 16383, 917503, 1966079, 4194303, 8388607, 16777215]) TryMixed rfl (by kernel_rfl) (by kernel_rfl) (by kernel_rfl) (fun γ_125 => by kernel_rfl) (fun γ_125 => .cons rfl (.nil _)) (fun _ => rfl) (fun γ_125 u hu => (thenS_normal (T.by_turn hu ?_)))
    refine T.ret ?_
    exact Fin.done (.cons _ _ _ _ (.tmp 6 _ rfl) .nil) (by cases h; exact ⟨rfl, rfl⟩)

end Go.Rv

/- Each function computes what its plain text says: printed by a program of ours. -/
import Derived.Test.YtaipjabggdifoaaRgW5
namespace Go.Rv
open Go.Proofs
set_option maxRecDepth 100000
set_option maxHeartbeats 4000000
set_option linter.unusedVariables false

abbrev raddlelaw14_TableSame_q (r : Bool) : Exit → St → Prop := retS Try.prog Try.f5 (fun y t => y = (.bool r) ∧ t = [])

abbrev raddlelaw14_TableSame_qs111111 (r : Bool) : Exit → St → Prop := thenS (fun s' => T Try.prog 46 (Code.at [1, 1, 1, 1, 1, 1] (codeOf Try.f5)) s' ((raddlelaw14_TableSame_q r))) ((raddlelaw14_TableSame_q r))

theorem raddlelaw14_TableSame_j0_T {r : Bool} (K : Nat) (x5_0_0 : Bool) (h : raddlelaw14_TableSame_j0 K x5_0_0 = some r) : T Try.prog 46 (Code.at [1, 1, 1, 1, 1, 0, 1, 0] (codeOf Try.f5)) ⟨[(5, .bool x5_0_0)], []⟩ (raddlelaw14_TableSame_qs111111 r) := by
  unfold raddlelaw14_TableSame_j0 at h
  refine T.seq ?_
  refine T.regionL ?_
  refine mv rfl rfl rfl rfl rfl ?_
  refine asg rfl rfl rfl rfl rfl ?_
  refine TL'.nil (thenS_normal ?_)
  refine T.ret (thenS_ret ?_)
  exact Fin.done (.cons _ _ _ _ (.tmp 4 _ rfl) .nil) (by cases h; exact ⟨rfl, rfl⟩)

theorem raddlelaw14_TableSame_T (K : Nat) {x0 : api_Auto} {x1 : api_Auto} {r : Bool} (h : raddlelaw14_TableSame K x0 x1 = some r) : CallR Try.prog 5 [.agg ((ArrN.dc 256 .u8 x0.Split.Of) ++ (([.int .i64 x0.Split.Many, .sl false 2 (x0.Counts.map (Arr2.dc .i64)), .sl false 4 (x0.States.map c_api_State)] : List DC))), .agg ((ArrN.dc 256 .u8 x1.Split.Of) ++ (([.int .i64 x1.Split.Many, .sl false 2 (x1.Counts.map (Arr2.dc .i64)), .sl false 4 (x1.States.map c_api_State)] : List DC)))] [] (.bool r) := by
  refine CallT.intro Try.func5 rfl (Nat.le_of_ble_eq_true rfl) ?_
  show T Try.prog 46 (Code.at [] (codeOf Try.f5)) ⟨paramSlots 0 [.agg ((ArrN.dc 256 .u8 x0.Split.Of) ++ (([.int .i64 x0.Split.Many, .sl false 2 (x0.Counts.map (Arr2.dc .i64)), .sl false 4 (x0.States.map c_api_State)] : List DC))), .agg ((ArrN.dc 256 .u8 x1.Split.Of) ++ (([.int .i64 x1.Split.Many, .sl false 2 (x1.Counts.map (Arr2.dc .i64)), .sl false 4 (x1.States.map c_api_State)] : List DC)))], []⟩ (raddlelaw14_TableSame_q r)
  unfold raddlelaw14_TableSame at h
  refine T.seq ?_
  refine T.regionL ?_
  refine sp rfl (OpT.boxAgg rfl (dl rfl rfl) rfl (fun b_141 => ?_))
  refine sp rfl (OpT.boxAgg rfl (dl rfl rfl) rfl (fun b_142 => ?_))
  refine asg rfl rfl rfl rfl rfl ?_
  refine TL'.nil (thenS_normal ?_)
  refine T.seq ?_
  refine T.regionL ?_
  obtain ⟨v_143, e_144, h⟩ := bind_some h
  refine sp rfl (OpT.callPA rfl (dl rfl rfl) Try.func13 rfl rfl Args.nil (CallR.nil (raddlelaw14_shown_T K e_144)) ?_)
  refine asg rfl rfl rfl rfl rfl ?_
  refine TL'.nil (thenS_normal ?_)
  refine T.seq ?_
  refine T.by_turn Turn.keepPlace ?_
  refine T.by_turn Turn.keepPlace ?_
  refine DGG.start ?_
  refine DGG.step (c := fun γ_145 => ⟨some 13, .agg ((ArrN.dc 256 .u8 x0.Split.Of) ++ (([.int .i64 x0.Split.Many, .sl false 2 (x0.Counts.map (Arr2.dc .i64)), .sl false 4 (x0.States.map c_api_State)] : List DC))), [(2, .ptr b_141 0)], [(3, .box b_141 28 ((ArrN.oc 256 .u8 x0.Split.Of) ++ (([.d (.int .i64 x0.Split.Many), .d (.sl false 2 (x0.Counts.map (Arr2.dc .i64))), .d (.sl false 4 (x0.States.map c_api_State))] : List OC))))], []⟩) [] (fun _ _ _ => rfl) (fun γ_145 t hm => One.step rfl (.free rfl) (OpT.loadBoxAgg (i := 3) (l := ((ArrN.dc 256 .u8 x0.Split.Of) ++ (([.int .i64 x0.Split.Many, .sl false 2 (x0.Counts.map (Arr2.dc .i64)), .sl false 4 (x0.States.map c_api_State)] : List DC)))) rfl (dl rfl rfl) Try.underlying28 rfl i28 hm.s0 hm.o0 rfl rfl ⟨(fun _ => undef, 0), rfl⟩)) (fun γ_145 => Ct.met_of rfl rfl) ?_
  obtain ⟨v_152, e_153, h⟩ := bind_some h
  refine DGG.step (c := fun γ_145 => ⟨some 14, .agg ((ArrN.dc 256 .u8 v_152.Split.Of) ++ (([.int .i64 v_152.Split.Many, .sl false 2 (v_152.Counts.map (Arr2.dc .i64)), .sl false 4 (v_152.States.map c_api_State)] : List DC))), [(13, .agg ((ArrN.dc 256 .u8 x0.Split.Of) ++ (([.int .i64 x0.Split.Many, .sl false 2 (x0.Counts.map (Arr2.dc .i64)), .sl false 4 (x0.States.map c_api_State)] : List DC))))], [], []⟩) [] (fun _ _ _ => rfl) (fun γ_145 t hm => One.step rfl (.free rfl) (OpT.callPA rfl (dl rfl rfl) Try.func11 rfl rfl (Args.cons hm.s0 Args.nil) (CallR.nil (raddlelaw14_few_T K e_153)) ⟨(fun _ => undef, 0), rfl⟩)) (fun γ_145 => Ct.met_of rfl rfl) ?_
  refine DGG.step (c := fun γ_145 => ⟨some 15, .agg ((ArrN.dc 256 .u8 x1.Split.Of) ++ (([.int .i64 x1.Split.Many, .sl false 2 (x1.Counts.map (Arr2.dc .i64)), .sl false 4 (x1.States.map c_api_State)] : List DC))), [(3, .ptr b_142 0)], [(2, .box b_142 28 ((ArrN.oc 256 .u8 x1.Split.Of) ++ (([.d (.int .i64 x1.Split.Many), .d (.sl false 2 (x1.Counts.map (Arr2.dc .i64))), .d (.sl false 4 (x1.States.map c_api_State))] : List OC))))], []⟩) [] (fun _ _ _ => rfl) (fun γ_145 t hm => One.step rfl (.free rfl) (OpT.loadBoxAgg (i := 2) (l := ((ArrN.dc 256 .u8 x1.Split.Of) ++ (([.int .i64 x1.Split.Many, .sl false 2 (x1.Counts.map (Arr2.dc .i64)), .sl false 4 (x1.States.map c_api_State)] : List DC)))) rfl (dl rfl rfl) Try.underlying28 rfl i28 hm.s0 hm.o0 rfl rfl ⟨(fun _ => undef, 0), rfl⟩)) (fun γ_145 => Ct.met_of rfl rfl) ?_
  obtain ⟨v_154, e_155, h⟩ := bind_some h
  refine DGG.step (c := fun γ_145 => ⟨some 16, .agg ((ArrN.dc 256 .u8 v_154.Split.Of) ++ (([.int .i64 v_154.Split.Many, .sl false 2 (v_154.Counts.map (Arr2.dc .i64)), .sl false 4 (v_154.States.map c_api_State)] : List DC))), [(15, .agg ((ArrN.dc 256 .u8 x1.Split.Of) ++ (([.int .i64 x1.Split.Many, .sl false 2 (x1.Counts.map (Arr2.dc .i64)), .sl false 4 (x1.States.map c_api_State)] : List DC))))], [], []⟩) [] (fun _ _ _ => rfl) (fun γ_145 t hm => One.step rfl (.free rfl) (OpT.callPA rfl (dl rfl rfl) Try.func11 rfl rfl (Args.cons hm.s0 Args.nil) (CallR.nil (raddlelaw14_few_T K e_155)) ⟨(fun _ => undef, 0), rfl⟩)) (fun γ_145 => Ct.met_of rfl rfl) ?_
  refine DGG.step (c := fun γ_145 => ⟨some 6, .ptr ((γ_145 4).2) 0, [], [(0, .ro 0 [])], [(0, .box ((γ_145 4).2) 28 ((ArrN.oc 256 .u8 (ArrN.mk fun _ => 0)) ++ (([.d (.int .i64 (0 : Int)), .d (.ex (.slice none 0 0)), .d (.ex (.slice none 0 0))] : List OC))))]⟩) [4] (fun γ_145 γ' h => by simp only [h 4 (by decide)]) (fun γ_145 t hm => One.step rfl (.free rfl) (OpT.allocAt 0 rfl (dl rfl rfl) i28 rfl hm.o0 (fun b => ⟨(fun _ => undef, b), rfl⟩))) (fun γ_145 => Ct.met_of rfl rfl) ?_
  refine DGG.step (c := fun γ_145 => ⟨some 7, .ptr ((γ_145 5).2) 0, [], [(1, .ro 0 [])], [(1, .box ((γ_145 5).2) 28 ((ArrN.oc 256 .u8 (ArrN.mk fun _ => 0)) ++ (([.d (.int .i64 (0 : Int)), .d (.ex (.slice none 0 0)), .d (.ex (.slice none 0 0))] : List OC))))]⟩) [5] (fun γ_145 γ' h => by simp only [h 5 (by decide)]) (fun γ_145 t hm => One.step rfl (.free rfl) (OpT.allocAt 1 rfl (dl rfl rfl) i28 rfl hm.o0 (fun b => ⟨(fun _ => undef, b), rfl⟩))) (fun γ_145 => Ct.met_of rfl rfl) ?_
  refine DGG.step (c := fun γ_145 => ⟨none, .any, [(6, .ptr ((γ_145 4).2) 0), (14, .agg ((ArrN.dc 256 .u8 v_152.Split.Of) ++ (([.int .i64 v_152.Split.Many, .sl false 2 (v_152.Counts.map (Arr2.dc .i64)), .sl false 4 (v_152.States.map c_api_State)] : List DC))))], [(0, .box ((γ_145 4).2) 28 ((ArrN.oc 256 .u8 (ArrN.mk fun _ => 0)) ++ (([.d (.int .i64 (0 : Int)), .d (.ex (.slice none 0 0)), .d (.ex (.slice none 0 0))] : List OC))))], [(0, .box ((γ_145 4).2) 28 ((ArrN.oc 256 .u8 v_152.Split.Of) ++ (([.d (.int .i64 v_152.Split.Many), .d (.sl false 2 (v_152.Counts.map (Arr2.dc .i64))), .d (.sl false 4 (v_152.States.map c_api_State))] : List OC))))]⟩) [4] (fun γ_145 γ' h => by simp only [h 4 (by decide)]) (fun γ_145 t hm => One.step rfl (.free rfl) (OpT.storeAggTo (i := 0) (cells' := ((ArrN.oc 256 .u8 v_152.Split.Of) ++ (([.d (.int .i64 v_152.Split.Many), .d (.sl false 2 (v_152.Counts.map (Arr2.dc .i64))), .d (.sl false 4 (v_152.States.map c_api_State))] : List OC)))) rfl rfl i28 hm.s0 hm.s1 rfl hm.o0 (Nat.le_of_ble_eq_true rfl) rfl ⟨(fun _ => undef, 0), rfl⟩)) (fun γ_145 => Ct.met_of rfl rfl) ?_
  refine DGG.step (c := fun γ_145 => ⟨none, .any, [(7, .ptr ((γ_145 5).2) 0), (16, .agg ((ArrN.dc 256 .u8 v_154.Split.Of) ++ (([.int .i64 v_154.Split.Many, .sl false 2 (v_154.Counts.map (Arr2.dc .i64)), .sl false 4 (v_154.States.map c_api_State)] : List DC))))], [(1, .box ((γ_145 5).2) 28 ((ArrN.oc 256 .u8 (ArrN.mk fun _ => 0)) ++ (([.d (.int .i64 (0 : Int)), .d (.ex (.slice none 0 0)), .d (.ex (.slice none 0 0))] : List OC))))], [(1, .box ((γ_145 5).2) 28 ((ArrN.oc 256 .u8 v_154.Split.Of) ++ (([.d (.int .i64 v_154.Split.Many), .d (.sl false 2 (v_154.Counts.map (Arr2.dc .i64))), .d (.sl false 4 (v_154.States.map c_api_State))] : List OC))))]⟩) [5] (fun γ_145 γ' h => by simp only [h 5 (by decide)]) (fun γ_145 t hm => One.step rfl (.free rfl) (OpT.storeAggTo (i := 1) (cells' := ((ArrN.oc 256 .u8 v_154.Split.Of) ++ (([.d (.int .i64 v_154.Split.Many), .d (.sl false 2 (v_154.Counts.map (Arr2.dc .i64))), .d (.sl false 4 (v_154.States.map c_api_State))] : List OC)))) rfl rfl i28 hm.s0 hm.s1 rfl hm.o0 (Nat.le_of_ble_eq_true rfl) rfl ⟨(fun _ => undef, 0), rfl⟩)) (fun γ_145 => Ct.met_of rfl rfl) ?_
  refine DGG.fin (s1 := fun γ_145 => ⟨[(5, .bool v_143), (6, .ptr ((γ_145 4).2) 0), (7, .ptr ((γ_145 5).2) 0)], [.box ((γ_145 4).2) 28 ((ArrN.oc 256 .u8 v_152.Split.Of) ++ (([.d (.int .i64 v_152.Split.Many), .d (.sl false 2 (v_152.Counts.map (Arr2.dc .i64))), .d (.sl false 4 (v_152.States.map c_api_State))] : List OC))), .box ((γ_145 5).2) 28 ((ArrN.oc 256 .u8 v_154.Split.Of) ++ (([.d (.int .i64 v_154.Split.Many), .d (.sl false 2 (v_154.Counts.map (Arr2.dc .i64))), .d (.sl false 4 (v_154.States.map c_api_State))] : List OC))), .box b_142 28 ((ArrN.oc 256 .u8 x1.Split.Of) ++ (([.d (.int .i64 x1.Split.Many), .d (.sl false 2 (x1.Counts.map (Arr2.dc .i64))), .d (.sl false 4 (x1.States.map c_api_State))] : List OC))), .box b_141 28 ((ArrN.oc 256 .u8 x0.Split.Of) ++ (([.d (.int .i64 x0.Split.Many), .d (.sl false 2 (x0.Counts.map (Arr2.dc .i64))), .d (.sl false 4 (x0.States.map c_api_State))] : List OC)))]⟩) (ms := [0, 1, 0, 7, 0, 0, 63, 127]) TryMixed rfl (by kernel_rfl) (by kernel_rfl) (by kernel_rfl) (fun γ_145 => by kernel_rfl) (fun γ_145 => .cons rfl (.cons rfl (.cons rfl (.nil _)))) (fun _ => rfl) (fun γ_145 u hu => (thenS_normal (T.by_turn hu ?_)))
  refine T.seq ?_
  refine T.regionL ?_
  refine sp rfl (OpT.loadBoxAgg (i := 0) (l := ((ArrN.dc 256 .u8 v_152.Split.Of) ++ (([.int .i64 v_152.Split.Many, .sl false 2 (v_152.Counts.map (Arr2.dc .i64)), .sl false 4 (v_152.States.map c_api_State)] : List DC)))) rfl (dl rfl rfl) Try.underlying28 rfl i28 rfl rfl rfl rfl ?_)
  obtain ⟨v_156, e_157, h⟩ := bind_some h
  refine sp rfl (OpT.callPA rfl (dl rfl rfl) Try.func10 rfl rfl (Args.cons rfl Args.nil) (CallR.nil (table_Encode_T K e_157)) ?_)
  refine mv rfl rfl rfl rfl rfl ?_
  refine sp rfl (OpT.extract rfl (dl rfl rfl) rfl rfl ?_)
  refine sp rfl (OpT.extract rfl (dl rfl rfl) rfl rfl ?_)
  refine asg rfl rfl rfl rfl rfl ?_
  refine asg rfl rfl rfl rfl rfl ?_
  refine TL'.nil (thenS_normal ?_)
  refine T.seq ?_
  refine T.regionL ?_
  refine sp rfl (OpT.loadBoxAgg (i := 1) (l := ((ArrN.dc 256 .u8 v_154.Split.Of) ++ (([.int .i64 v_154.Split.Many, .sl false 2 (v_154.Counts.map (Arr2.dc .i64)), .sl false 4 (v_154.States.map c_api_State)] : List DC)))) rfl (dl rfl rfl) Try.underlying28 rfl i28 rfl rfl rfl rfl ?_)
  obtain ⟨v_158, e_159, h⟩ := bind_some h
  refine sp rfl (OpT.callPA rfl (dl rfl rfl) Try.func10 rfl rfl (Args.cons rfl Args.nil) (CallR.nil (table_Encode_T K e_159)) ?_)
  refine mv rfl rfl rfl rfl rfl ?_
  refine sp rfl (OpT.extract rfl (dl rfl rfl) rfl rfl ?_)
  refine sp rfl (OpT.extract rfl (dl rfl rfl) rfl rfl ?_)
  refine asg rfl rfl rfl rfl rfl ?_
  refine asg rfl rfl rfl rfl rfl ?_
  refine TL'.nil (thenS_normal ?_)
  refine T.seq ?_
  refine T.seq ?_
  refine T.regionL ?_
  refine mv rfl rfl rfl rfl rfl ?_
  refine sp rfl (OpT.int2 rfl rfl (dl rfl rfl) rfl rfl ?_)
  refine mv rfl rfl rfl rfl rfl ?_
  rcases bif_some h with ⟨c_160, h⟩ | ⟨c_160, h⟩
  · refine TL'.passU (.off _ _ _ _ rfl rfl rfl c_160) (dl rfl rfl) ?_
    refine TL'.passU (.off _ _ _ _ rfl rfl rfl c_160) (dl rfl rfl) ?_
    refine sp rfl (OpT.pickT rfl (dl rfl rfl) rfl c_160 rfl ?_)
    refine TL'.nil (thenS_normal ?_)
    refine T.condT rfl rfl ?_
    refine T.by_turn ?_ (raddlelaw14_TableSame_j0_T K v_143 h)
    exact Turn.rp (.cons rfl (.nil _)) (.n _)
  · refine TL'.step (.on rfl rfl rfl c_160) (OpT.move rfl (dl rfl rfl) rfl ?_)
    refine TL'.step (.on rfl rfl rfl c_160) (OpT.int2 rfl rfl (dl rfl rfl) rfl rfl ?_)
    refine sp rfl (OpT.pickF rfl (dl rfl rfl) rfl c_160 rfl ?_)
    refine TL'.nil (thenS_normal ?_)
    rcases bif_some h with ⟨c_161, h⟩ | ⟨c_161, h⟩
    · refine T.condT rfl c_161 ?_
      refine T.by_turn ?_ (raddlelaw14_TableSame_j0_T K v_143 h)
      exact Turn.rp (.cons rfl (.nil _)) (.n _)
    · refine T.condF rfl c_161 ?_
      refine T.skip (thenS_normal ?_)
      refine T.seq ?_
      refine DG.start ?_
      refine DG.mv rfl rfl rfl rfl rfl rfl ?_
      refine DG.mv rfl rfl rfl rfl rfl rfl ?_
      rcases bif_some h with ⟨c_166, h⟩ | ⟨c_166, h⟩
      · refine DG.step (c := ⟨some 36, .sl false 1 (v_156.1.map (cI .u8)), [(8, .sl false 1 (v_156.1.map (cI .u8))), (35, .bool v_143)], [], []⟩) (fun t hm => One.step rfl (.on rfl rfl hm.s1 c_166) (OpT.move rfl (dl rfl rfl) hm.s0 rfl)) (Ct.met_of rfl rfl) ?_
        refine DG.step (c := ⟨some 37, .str (ofBytes v_156.1), [(36, .sl false 1 (v_156.1.map (cI .u8))), (35, .bool v_143)], [], []⟩) (fun t hm => One.step rfl (.on rfl rfl hm.s1 c_166) (OpT.convBytes (xs := v_156.1) rfl (dl rfl rfl) Try.underlying29 Try.underlying5 Try.underlying9 hm.s0 rfl)) (Ct.met_of rfl rfl) ?_
        refine DG.step (c := ⟨some 38, .sl false 1 (v_158.1.map (cI .u8)), [(10, .sl false 1 (v_158.1.map (cI .u8))), (35, .bool v_143)], [], []⟩) (fun t hm => One.step rfl (.on rfl rfl hm.s1 c_166) (OpT.move rfl (dl rfl rfl) hm.s0 rfl)) (Ct.met_of rfl rfl) ?_
        refine DG.step (c := ⟨some 39, .str (ofBytes v_158.1), [(38, .sl false 1 (v_158.1.map (cI .u8))), (35, .bool v_143)], [], []⟩) (fun t hm => One.step rfl (.on rfl rfl hm.s1 c_166) (OpT.convBytes (xs := v_158.1) rfl (dl rfl rfl) Try.underlying29 Try.underlying5 Try.underlying9 hm.s0 rfl)) (Ct.met_of rfl rfl) ?_
        refine DG.step (c := ⟨some 40, .bool ((ofBytes v_156.1).toList == (ofBytes v_158.1).toList), [(37, .str (ofBytes v_156.1)), (39, .str (ofBytes v_158.1)), (35, .bool v_143)], [], []⟩) (fun t hm => One.step rfl (.on rfl rfl hm.s2 c_166) (OpT.str_eql rfl (dl rfl rfl) hm.s0 hm.s1 rfl)) (Ct.met_of rfl rfl) ?_
        refine DG.step (c := ⟨some 41, .agg ((ArrN.dc 256 .u8 v_152.Split.Of) ++ (([.int .i64 v_152.Split.Many, .sl false 2 (v_152.Counts.map (Arr2.dc .i64)), .sl false 4 (v_152.States.map c_api_State)] : List DC))), [(6, .ptr ((γ_145 4).2) 0), (35, .bool v_143)], [(0, .box ((γ_145 4).2) 28 ((ArrN.oc 256 .u8 v_152.Split.Of) ++ (([.d (.int .i64 v_152.Split.Many), .d (.sl false 2 (v_152.Counts.map (Arr2.dc .i64))), .d (.sl false 4 (v_152.States.map c_api_State))] : List OC))))], []⟩) (fun t hm => One.step rfl (.on rfl rfl hm.s1 c_166) (OpT.loadBoxAgg (i := 0) (l := ((ArrN.dc 256 .u8 v_152.Split.Of) ++ (([.int .i64 v_152.Split.Many, .sl false 2 (v_152.Counts.map (Arr2.dc .i64)), .sl false 4 (v_152.States.map c_api_State)] : List DC)))) rfl (dl rfl rfl) Try.underlying28 rfl i28 hm.s0 hm.o0 rfl rfl rfl)) (Ct.met_of rfl rfl) ?_
        refine DG.step (c := ⟨some 42, .agg ((ArrN.dc 256 .u8 v_154.Split.Of) ++ (([.int .i64 v_154.Split.Many, .sl false 2 (v_154.Counts.map (Arr2.dc .i64)), .sl false 4 (v_154.States.map c_api_State)] : List DC))), [(7, .ptr ((γ_145 5).2) 0), (35, .bool v_143)], [(1, .box ((γ_145 5).2) 28 ((ArrN.oc 256 .u8 v_154.Split.Of) ++ (([.d (.int .i64 v_154.Split.Many), .d (.sl false 2 (v_154.Counts.map (Arr2.dc .i64))), .d (.sl false 4 (v_154.States.map c_api_State))] : List OC))))], []⟩) (fun t hm => One.step rfl (.on rfl rfl hm.s1 c_166) (OpT.loadBoxAgg (i := 1) (l := ((ArrN.dc 256 .u8 v_154.Split.Of) ++ (([.int .i64 v_154.Split.Many, .sl false 2 (v_154.Counts.map (Arr2.dc .i64)), .sl false 4 (v_154.States.map c_api_State)] : List DC)))) rfl (dl rfl rfl) Try.underlying28 rfl i28 hm.s0 hm.o0 rfl rfl rfl)) (Ct.met_of rfl rfl) ?_
        obtain ⟨v_167, e_168, h⟩ := bind_some h
        refine DG.step (c := ⟨some 43, .bool v_167, [(41, .agg ((ArrN.dc 256 .u8 v_152.Split.Of) ++ (([.int .i64 v_152.Split.Many, .sl false 2 (v_152.Counts.map (Arr2.dc .i64)), .sl false 4 (v_152.States.map c_api_State)] : List DC)))), (42, .agg ((ArrN.dc 256 .u8 v_154.Split.Of) ++ (([.int .i64 v_154.Split.Many, .sl false 2 (v_154.Counts.map (Arr2.dc .i64)), .sl false 4 (v_154.States.map c_api_State)] : List DC)))), (35, .bool v_143)], [], []⟩) (fun t hm => One.step rfl (.on rfl rfl hm.s2 c_166) (OpT.callPA rfl (dl rfl rfl) Try.func16 rfl rfl (Args.cons hm.s0 (Args.cons hm.s1 Args.nil)) (CallR.nil (raddleref11_Same_T K e_168)) rfl)) (Ct.met_of rfl rfl) ?_
        refine DG.step (c := ⟨some 44, .bool (((ofBytes v_156.1).toList == (ofBytes v_158.1).toList) == v_167), [(40, .bool ((ofBytes v_156.1).toList == (ofBytes v_158.1).toList)), (43, .bool v_167), (35, .bool v_143)], [], []⟩) (fun t hm => One.step rfl (.on rfl rfl hm.s2 c_166) (OpT.bool_eql rfl (dl rfl rfl) Try.underlying4 hm.s0 hm.s1 rfl)) (Ct.met_of rfl rfl) ?_
        refine DG.step (c := ⟨some 45, .bool (((ofBytes v_156.1).toList == (ofBytes v_158.1).toList) == v_167), [(35, .bool v_143), (44, .bool (((ofBytes v_156.1).toList == (ofBytes v_158.1).toList) == v_167))], [], []⟩) (fun t hm => One.step rfl (.free rfl) (OpT.pickT rfl (dl rfl rfl) hm.s0 c_166 hm.s1 rfl)) (Ct.met_of rfl rfl) ?_
        refine DG.step (c := ⟨some 4, .bool (((ofBytes v_156.1).toList == (ofBytes v_158.1).toList) == v_167), [(45, .bool (((ofBytes v_156.1).toList == (ofBytes v_158.1).toList) == v_167))], [], []⟩) (fun t hm => One.step rfl (.free rfl) (OpT.assign rfl (dl rfl rfl) hm.s0 rfl)) (Ct.met_of rfl rfl) ?_
        refine DG.fin (s1 := ⟨[(4, .bool (((ofBytes v_156.1).toList == (ofBytes v_158.1).toList) == v_167))], [.box ((γ_145 4).2) 28 ((ArrN.oc 256 .u8 v_152.Split.Of) ++ (([.d (.int .i64 v_152.Split.Many), .d (.sl false 2 (v_152.Counts.map (Arr2.dc .i64))), .d (.sl false 4 (v_152.States.map c_api_State))] : List OC))), .box ((γ_145 5).2) 28 ((ArrN.oc 256 .u8 v_154.Split.Of) ++ (([.d (.int .i64 v_154.Split.Many), .d (.sl false 2 (v_154.Counts.map (Arr2.dc .i64))), .d (.sl false 4 (v_154.States.map c_api_State))] : List OC))), .box b_142 28 ((ArrN.oc 256 .u8 x1.Split.Of) ++ (([.d (.int .i64 x1.Split.Many), .d (.sl false 2 (x1.Counts.map (Arr2.dc .i64))), .d (.sl false 4 (x1.States.map c_api_State))] : List OC))), .box b_141 28 ((ArrN.oc 256 .u8 x0.Split.Of) ++ (([.d (.int .i64 x0.Split.Many), .d (.sl false 2 (x0.Counts.map (Arr2.dc .i64))), .d (.sl false 4 (x0.States.map c_api_State))] : List OC)))]⟩) (ms := [0, 1, 3, 7, 3, 19, 63, 3, 3, 387, 1023, 2047, 4095]) TryMixed rfl (by kernel_rfl) (by kernel_rfl) (by kernel_rfl) (.cons rfl (.nil _)) rfl (fun u hu => (thenS_normal (T.by_turn hu ?_)))
        refine T.ret ?_
        exact Fin.done (.cons _ _ _ _ (.tmp 4 _ rfl) .nil) (by cases h; exact ⟨rfl, rfl⟩)
      · refine DG.off c_166 rfl rfl rfl rfl rfl rfl ?_
        refine DG.off c_166 rfl rfl rfl rfl rfl rfl ?_
        refine DG.off c_166 rfl rfl rfl rfl rfl rfl ?_
        refine DG.off c_166 rfl rfl rfl rfl rfl rfl ?_
        refine DG.off c_166 rfl rfl rfl rfl rfl rfl ?_
        refine DG.off c_166 rfl rfl rfl rfl rfl rfl ?_
        refine DG.off c_166 rfl rfl rfl rfl rfl rfl ?_
        refine DG.off c_166 rfl rfl rfl rfl rfl rfl ?_
        refine DG.off c_166 rfl rfl rfl rfl rfl rfl ?_
        refine DG.step (c := ⟨some 45, .bool false, [(35, .bool v_143)], [], []⟩) (fun t hm => One.step rfl (.free rfl) (OpT.pickF rfl (dl rfl rfl) hm.s0 c_166 rfl rfl)) (Ct.met_of rfl rfl) ?_
        refine DG.step (c := ⟨some 4, .bool false, [(45, .bool false)], [], []⟩) (fun t hm => One.step rfl (.free rfl) (OpT.assign rfl (dl rfl rfl) hm.s0 rfl)) (Ct.met_of rfl rfl) ?_
        refine DG.fin (s1 := ⟨[(4, .bool false)], [.box ((γ_145 4).2) 28 ((ArrN.oc 256 .u8 v_152.Split.Of) ++ (([.d (.int .i64 v_152.Split.Many), .d (.sl false 2 (v_152.Counts.map (Arr2.dc .i64))), .d (.sl false 4 (v_152.States.map c_api_State))] : List OC))), .box ((γ_145 5).2) 28 ((ArrN.oc 256 .u8 v_154.Split.Of) ++ (([.d (.int .i64 v_154.Split.Many), .d (.sl false 2 (v_154.Counts.map (Arr2.dc .i64))), .d (.sl false 4 (v_154.States.map c_api_State))] : List OC))), .box b_142 28 ((ArrN.oc 256 .u8 x1.Split.Of) ++ (([.d (.int .i64 x1.Split.Many), .d (.sl false 2 (x1.Counts.map (Arr2.dc .i64))), .d (.sl false 4 (x1.States.map c_api_State))] : List OC))), .box b_141 28 ((ArrN.oc 256 .u8 x0.Split.Of) ++ (([.d (.int .i64 x0.Split.Many), .d (.sl false 2 (x0.Counts.map (Arr2.dc .i64))), .d (.sl false 4 (x0.States.map c_api_State))] : List OC)))]⟩) (ms := [0, 1, 3, 7, 3, 19, 63, 3, 3, 387, 1023, 2047, 4095]) TryMixed rfl (by kernel_rfl) (by kernel_rfl) (by kernel_rfl) (.cons rfl (.nil _)) rfl (fun u hu => (thenS_normal (T.by_turn hu ?_)))
        refine T.ret ?_
        exact Fin.done (.cons _ _ _ _ (.tmp 4 _ rfl) .nil) (by cases h; exact ⟨rfl, rfl⟩)

end Go.Rv

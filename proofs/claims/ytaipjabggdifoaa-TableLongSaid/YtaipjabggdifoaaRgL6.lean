/- Each function computes what its plain text says: printed by a program of ours. -/
import Derived.Test.YtaipjabggdifoaaRgW5
namespace Go.Rv
open Go.Proofs
set_option maxRecDepth 100000
set_option maxHeartbeats 4000000
set_option linter.unusedVariables false

abbrev raddlelaw14_TableLong_q (r : Bool) : Exit → St → Prop := retS Try.prog Try.f6 (fun y t => y = (.bool r) ∧ t = [])

abbrev raddlelaw14_TableLong_qs1111111 (r : Bool) : Exit → St → Prop := thenS (fun s' => T Try.prog 101 (Code.at [1, 1, 1, 1, 1, 1, 1] (codeOf Try.f6)) s' ((raddlelaw14_TableLong_q r))) ((raddlelaw14_TableLong_q r))

abbrev raddlelaw14_TableLong_qb0x1111111 (r : Bool) : Exit → St → Prop := inBlockS 0 ((raddlelaw14_TableLong_qs1111111 r))

abbrev raddlelaw14_TableLong_ql111111010 (r : Bool) : Exit → St → Prop := thenS (fun s' => TL Try.prog 101 (Code.at [1, 1, 1, 1, 1, 1, 0, 1, 0, 0] (codeOf Try.f6)) s' ((raddlelaw14_TableLong_qb0x1111111 r))) ((raddlelaw14_TableLong_qb0x1111111 r))

abbrev raddlelaw14_TableLong_qs1111110100111 (r : Bool) : Exit → St → Prop := thenS (fun s' => T Try.prog 101 (Code.at [1, 1, 1, 1, 1, 1, 0, 1, 0, 0, 1, 1, 1] (codeOf Try.f6)) s' ((raddlelaw14_TableLong_ql111111010 r))) ((raddlelaw14_TableLong_ql111111010 r))

abbrev raddlelaw14_TableLong_qb1_0x1111110100111 (r : Bool) : Exit → St → Prop := inBlockS 1 ((raddlelaw14_TableLong_qs1111110100111 r))

abbrev raddlelaw14_TableLong_qs1111110100110011 (r : Bool) : Exit → St → Prop := thenS (fun s' => T Try.prog 101 (Code.at [1, 1, 1, 1, 1, 1, 0, 1, 0, 0, 1, 1, 0, 0, 1, 1] (codeOf Try.f6)) s' ((raddlelaw14_TableLong_qb1_0x1111110100111 r))) ((raddlelaw14_TableLong_qb1_0x1111110100111 r))

abbrev raddlelaw14_TableLong_qs1111111111 (r : Bool) : Exit → St → Prop := thenS (fun s' => T Try.prog 101 (Code.at [1, 1, 1, 1, 1, 1, 1, 1, 1, 1] (codeOf Try.f6)) s' ((raddlelaw14_TableLong_q r))) ((raddlelaw14_TableLong_q r))

abbrev raddlelaw14_TableLong_l0_H (r : Bool) (go : (List Bool) → Bool → Int → (List Arr2) → Int → Int → ArrN → Int → (List Arr2) → (List api_State) → ArrN → Int → (List api_State) → (List Arr2) → Option Bool) : Prop := ∀ (x1 : List Bool) (x5_0_1 : Bool) (x8_0_10 : Int) (x21_0_11 : List Arr2) (x22_0_12 : Int) (x23_0_13 : Int) (y6_0_2 : ArrN) (y6_0_3 : Int) (y6_0_4 : List Arr2) (y6_0_5 : List api_State) (y7_0_6 : ArrN) (y7_0_7 : Int) (y7_0_9 : List api_State) (y7_0_8 : List Arr2) (flx1 : Bool) (b6_0 : Nat) (b7_0 : Nat) (w7_0 : Value), go x1 x5_0_1 x8_0_10 x21_0_11 x22_0_12 x23_0_13 y6_0_2 y6_0_3 y6_0_4 y6_0_5 y7_0_6 y7_0_7 y7_0_9 y7_0_8 = some r → TL Try.prog 101 (Code.at [1, 1, 1, 1, 1, 1, 0, 1, 0, 0] (codeOf Try.f6)) ⟨[(1, .sl flx1 1 (x1.map cB)), (5, .bool x5_0_1), (6, .ptr b6_0 0), (7, .ptr b7_0 0), (8, .int .i64 x8_0_10), (21, .sl false 2 (x21_0_11.map (Arr2.dc .i64))), (22, .int .i64 x22_0_12), (23, .int .i64 x23_0_13)], [.box b6_0 28 ((ArrN.oc 256 .u8 y6_0_2) ++ (([.d (.int .i64 y6_0_3), .d (.sl false 2 (y6_0_4.map (Arr2.dc .i64))), .d (.sl false 4 (y6_0_5.map c_api_State))] : List OC))), .box b7_0 28 ((ArrN.oc 256 .u8 y7_0_6) ++ (([.d (.int .i64 y7_0_7), .d (.ex w7_0), .d (.sl false 4 (y7_0_9.map c_api_State))] : List OC))), .arrA w7_0 42 2 (y7_0_8.map (Arr2.dc .i64))]⟩ (raddlelaw14_TableLong_qb0x1111111 r)

theorem raddlelaw14_TableLong_j1_T {r : Bool} (K : Nat) (go0 : (List Bool) → Bool → Int → (List Arr2) → Int → Int → ArrN → Int → (List Arr2) → (List api_State) → ArrN → Int → (List api_State) → (List Arr2) → Option Bool) (hgo0 : raddlelaw14_TableLong_l0_H r go0) (x1 : List Bool) (x5_0_1 : Bool) (x8_1_10 : Int) (x21_1_12 : List Arr2) (x22_1_13 : Int) (x23_1_14 : Int) (y6_0_2 : ArrN) (y6_0_3 : Int) (y6_0_4 : List Arr2) (y6_0_5 : List api_State) (y7_0_6 : ArrN) (y7_0_7 : Int) (y7_1_9 : List api_State) (y7_1_8 : List Arr2) (y10_1_11 : Arr2) (flx1 : Bool) (b6_1 : Nat) (b7_1 : Nat) (w7_1 : Value) (b10_1 : Nat) (h : raddlelaw14_TableLong_j1 K go0 x1 x5_0_1 x8_1_10 x21_1_12 x22_1_13 x23_1_14 y6_0_2 y6_0_3 y6_0_4 y6_0_5 y7_0_6 y7_0_7 y7_1_9 y7_1_8 y10_1_11 = some r) : T Try.prog 101 (Code.at [1, 1, 1, 1, 1, 1, 0, 1, 0, 0, 1, 1, 0, 0, 1, 1] (codeOf Try.f6)) ⟨[(1, .sl flx1 1 (x1.map cB)), (5, .bool x5_0_1), (6, .ptr b6_1 0), (7, .ptr b7_1 0), (8, .int .i64 x8_1_10), (10, .ptr b10_1 0), (21, .sl false 2 (x21_1_12.map (Arr2.dc .i64))), (22, .int .i64 x22_1_13), (23, .int .i64 x23_1_14)], [.box b6_1 28 ((ArrN.oc 256 .u8 y6_0_2) ++ (([.d (.int .i64 y6_0_3), .d (.sl false 2 (y6_0_4.map (Arr2.dc .i64))), .d (.sl false 4 (y6_0_5.map c_api_State))] : List OC))), .box b7_1 28 ((ArrN.oc 256 .u8 y7_0_6) ++ (([.d (.int .i64 y7_0_7), .d (.ex w7_1), .d (.sl false 4 (y7_1_9.map c_api_State))] : List OC))), .arrA w7_1 42 2 (y7_1_8.map (Arr2.dc .i64)), .box b10_1 42 (Arr2.oc .i64 y10_1_11)]⟩ (raddlelaw14_TableLong_qb1_0x1111110100111 r) := by
  unfold raddlelaw14_TableLong_j1 at h
  refine T.regionL ?_
  refine sp rfl (OpT.fieldPtr rfl (dl rfl rfl) Try.underlying28 rfl i25 (by decide) rfl ?_)
  refine sp rfl (OpT.loadBox (i := 1) rfl (dl rfl rfl) Try.underlying25 rfl rfl rfl rfl ?_)
  refine sp rfl (OpT.loadBoxAgg (i := 3) (l := (Arr2.dc .i64 y10_1_11)) rfl (dl rfl rfl) Try.underlying42 rfl i42 rfl rfl rfl rfl ?_)
  refine sp rfl (OpT.buildSlice (elems := ([y10_1_11] : List Arr2).map (Arr2.dc .i64)) rfl (dl rfl rfl) Try.underlying25 i42 (by decide) rfl (all1 rfl) rfl rfl rfl (lenAll rfl) (by decide) ?_)
  obtain ⟨g_347, h⟩ := ck_some h
  refine sp rfl (OpT.appendAM (i := 2) (xs := y7_1_8) (ys := [y10_1_11]) (f := (Arr2.dc .i64)) rfl (dl rfl rfl) Try.underlying25 i42 rfl rfl rfl rfl g_347 (fun w_346 => ?_))
  refine sp rfl (OpT.fieldPtr rfl (dl rfl rfl) Try.underlying28 rfl i25 (by decide) rfl ?_)
  refine sp rfl (OpT.storeTo (i := 1) (cells' := ((ArrN.oc 256 .u8 y7_0_6) ++ (([.d (.int .i64 y7_0_7), .d (.ex w_346), .d (.sl false 4 (y7_1_9.map c_api_State))] : List OC)))) rfl rfl i25 rfl rfl rfl (Nat.le_of_ble_eq_true rfl) rfl ?_)
  refine TL'.nil (inBlock_normal (thenS_normal ?_))
  refine T.regionL ?_
  refine sp rfl (OpT.int2 rfl rfl (dl rfl rfl) rfl rfl ?_)
  refine mv rfl rfl rfl rfl rfl ?_
  refine TL'.nil (thenS_normal ?_)
  refine TL.by_turn ?_ (hgo0 x1 x5_0_1 x8_1_10 x21_1_12 x22_1_13 (IntKind.i64.wrap (x23_1_14 + (1 : Int))) y6_0_2 y6_0_3 y6_0_4 y6_0_5 y7_0_6 y7_0_7 y7_1_9 (y7_1_8 ++ [y10_1_11]) flx1 b6_1 b7_1 w_346 h)
  exact Turn.rp (.cons rfl (.cons rfl (.cons rfl (.cons rfl (.cons rfl (.cons rfl (.cons rfl (.cons rfl (.nil _))))))))) (.c .z (.c .z (.c .z (.n _))))

theorem raddlelaw14_TableLong_j2_T {r : Bool} (K : Nat) (go0 : (List Bool) → Bool → Int → (List Arr2) → Int → Int → ArrN → Int → (List Arr2) → (List api_State) → ArrN → Int → (List api_State) → (List Arr2) → Option Bool) (hgo0 : raddlelaw14_TableLong_l0_H r go0) (x1 : List Bool) (x5_0_1 : Bool) (x8_2_10 : Int) (x21_2_12 : List Arr2) (x22_2_13 : Int) (x23_2_14 : Int) (y6_0_2 : ArrN) (y6_0_3 : Int) (y6_0_4 : List Arr2) (y6_0_5 : List api_State) (y7_0_6 : ArrN) (y7_0_7 : Int) (y7_2_9 : List api_State) (y7_2_8 : List Arr2) (y10_2_11 : Arr2) (flx1 : Bool) (b6_2 : Nat) (b7_2 : Nat) (w7_2 : Value) (b10_2 : Nat) (h : raddlelaw14_TableLong_j2 K go0 x1 x5_0_1 x8_2_10 x21_2_12 x22_2_13 x23_2_14 y6_0_2 y6_0_3 y6_0_4 y6_0_5 y7_0_6 y7_0_7 y7_2_9 y7_2_8 y10_2_11 = some r) : T Try.prog 101 (Code.at [1, 1, 1, 1, 1, 1, 0, 1, 0, 0, 1, 1, 0, 0, 1, 0, 1, 1] (codeOf Try.f6)) ⟨[(1, .sl flx1 1 (x1.map cB)), (5, .bool x5_0_1), (6, .ptr b6_2 0), (7, .ptr b7_2 0), (8, .int .i64 x8_2_10), (10, .ptr b10_2 0), (21, .sl false 2 (x21_2_12.map (Arr2.dc .i64))), (22, .int .i64 x22_2_13), (23, .int .i64 x23_2_14)], [.box b6_2 28 ((ArrN.oc 256 .u8 y6_0_2) ++ (([.d (.int .i64 y6_0_3), .d (.sl false 2 (y6_0_4.map (Arr2.dc .i64))), .d (.sl false 4 (y6_0_5.map c_api_State))] : List OC))), .box b7_2 28 ((ArrN.oc 256 .u8 y7_0_6) ++ (([.d (.int .i64 y7_0_7), .d (.ex w7_2), .d (.sl false 4 (y7_2_9.map c_api_State))] : List OC))), .arrA w7_2 42 2 (y7_2_8.map (Arr2.dc .i64)), .box b10_2 42 (Arr2.oc .i64 y10_2_11)]⟩ (raddlelaw14_TableLong_qs1111110100110011 r) := by
  unfold raddlelaw14_TableLong_j2 at h
  refine T.skip (thenS_normal ?_)
  refine T.by_turn ?_ (raddlelaw14_TableLong_j1_T K go0 hgo0 x1 x5_0_1 x8_2_10 x21_2_12 x22_2_13 x23_2_14 y6_0_2 y6_0_3 y6_0_4 y6_0_5 y7_0_6 y7_0_7 y7_2_9 y7_2_8 y10_2_11 flx1 b6_2 b7_2 w7_2 b10_2 h)
  exact Turn.rp (.cons rfl (.cons rfl (.cons rfl (.cons rfl (.cons rfl (.cons rfl (.cons rfl (.cons rfl (.cons rfl (.nil _)))))))))) (.c .z (.c .z (.c .z (.c .z (.n _)))))

theorem raddlelaw14_TableLong_j4_T {r : Bool} (K : Nat) (x4_4_0 : Bool) (h : raddlelaw14_TableLong_j4 K x4_4_0 = some r) : T Try.prog 101 (Code.at [1, 1, 1, 1, 1, 1, 1, 1, 1, 0, 1, 0, 1] (codeOf Try.f6)) ⟨[(4, .bool x4_4_0)], []⟩ (raddlelaw14_TableLong_qs1111111111 r) := by
  unfold raddlelaw14_TableLong_j4 at h
  refine T.ret (thenS_ret ?_)
  exact Fin.done (.cons _ _ _ _ (.tmp 4 _ rfl) .nil) (by cases h; exact ⟨rfl, rfl⟩)

theorem raddlelaw14_TableLong_j3_T {r : Bool} (K : Nat) (x5_0_1 : Bool) (x11_3_1 : List Int) (x12_3_2 : Int) (x13_3_3 : List Int) (x14_3_4 : Int) (h : raddlelaw14_TableLong_j3 K x5_0_1 x11_3_1 x12_3_2 x13_3_3 x14_3_4 = some r) : T Try.prog 101 (Code.at [1, 1, 1, 1, 1, 1, 1, 1, 1, 0, 1, 0] (codeOf Try.f6)) ⟨[(5, .bool x5_0_1), (11, .sl false 1 (x11_3_1.map (cI .u8))), (12, .int .i64 x12_3_2), (13, .sl false 1 (x13_3_3.map (cI .u8))), (14, .int .i64 x14_3_4)], []⟩ (raddlelaw14_TableLong_qs1111111111 r) := by
  unfold raddlelaw14_TableLong_j3 at h
  refine T.seq ?_
  refine T.regionL ?_
  refine mv rfl rfl rfl rfl rfl ?_
  refine mv rfl rfl rfl rfl rfl ?_
  rcases bif_some h with ⟨c_353, h⟩ | ⟨c_353, h⟩
  · refine TL'.step (.on rfl rfl rfl c_353) (OpT.move rfl (dl rfl rfl) rfl ?_)
    refine TL'.step (.on rfl rfl rfl c_353) (OpT.int2 rfl rfl (dl rfl rfl) rfl rfl ?_)
    refine TL'.step (.on rfl rfl rfl c_353) (OpT.move rfl (dl rfl rfl) rfl ?_)
    rcases bif_some h with ⟨c_354, h⟩ | ⟨c_354, h⟩
    · refine TL'.passU (.off _ _ _ _ rfl rfl rfl c_354) (dl rfl rfl) ?_
      refine TL'.passU (.off _ _ _ _ rfl rfl rfl c_354) (dl rfl rfl) ?_
      refine TL'.passU (.off _ _ _ _ rfl rfl rfl c_354) (dl rfl rfl) ?_
      refine TL'.step (.on rfl rfl rfl c_353) (OpT.pickT rfl (dl rfl rfl) rfl c_354 rfl ?_)
      refine sp rfl (OpT.pickT rfl (dl rfl rfl) rfl c_353 rfl ?_)
      refine mv rfl rfl rfl rfl rfl ?_
      refine TL'.step (.on rfl rfl rfl rfl) (OpT.move rfl (dl rfl rfl) rfl ?_)
      refine TL'.step (.on rfl rfl rfl rfl) (OpT.int2 rfl rfl (dl rfl rfl) rfl rfl ?_)
      refine TL'.step (.on rfl rfl rfl rfl) (OpT.move rfl (dl rfl rfl) rfl ?_)
      rcases bif_some h with ⟨c_355, h⟩ | ⟨c_355, h⟩
      · refine TL'.passU (.off _ _ _ _ rfl rfl rfl c_355) (dl rfl rfl) ?_
        refine TL'.passU (.off _ _ _ _ rfl rfl rfl c_355) (dl rfl rfl) ?_
        refine TL'.passU (.off _ _ _ _ rfl rfl rfl c_355) (dl rfl rfl) ?_
        refine TL'.step (.on rfl rfl rfl rfl) (OpT.pickT rfl (dl rfl rfl) rfl c_355 rfl ?_)
        refine sp rfl (OpT.pickT rfl (dl rfl rfl) rfl rfl rfl ?_)
        refine asg rfl rfl rfl rfl rfl ?_
        refine TL'.nil (thenS_normal ?_)
        refine T.by_turn ?_ (raddlelaw14_TableLong_j4_T K true h)
        exact Turn.rp (.cons rfl (.nil _)) (.n _)
      · refine TL'.step (.on rfl rfl rfl c_355) (OpT.move rfl (dl rfl rfl) rfl ?_)
        refine TL'.step (.on rfl rfl rfl c_355) (OpT.lenSlM (xs := x13_3_3) (f := (cI .u8)) rfl (dl rfl rfl) Try.underlying29 rfl ?_)
        refine TL'.step (.on rfl rfl rfl c_355) (OpT.int2 rfl rfl (dl rfl rfl) rfl rfl ?_)
        refine TL'.step (.on rfl rfl rfl rfl) (OpT.pickF rfl (dl rfl rfl) rfl c_355 rfl ?_)
        refine sp rfl (OpT.pickT rfl (dl rfl rfl) rfl rfl rfl ?_)
        refine asg rfl rfl rfl rfl rfl ?_
        refine TL'.nil (thenS_normal ?_)
        refine T.by_turn ?_ (raddlelaw14_TableLong_j4_T K ((x13_3_3.length : Int) == (0 : Int)) h)
        exact Turn.rp (.cons rfl (.nil _)) (.n _)
    · refine TL'.step (.on rfl rfl rfl c_354) (OpT.move rfl (dl rfl rfl) rfl ?_)
      refine TL'.step (.on rfl rfl rfl c_354) (OpT.lenSlM (xs := x11_3_1) (f := (cI .u8)) rfl (dl rfl rfl) Try.underlying29 rfl ?_)
      refine TL'.step (.on rfl rfl rfl c_354) (OpT.int2 rfl rfl (dl rfl rfl) rfl rfl ?_)
      refine TL'.step (.on rfl rfl rfl c_353) (OpT.pickF rfl (dl rfl rfl) rfl c_354 rfl ?_)
      refine sp rfl (OpT.pickT rfl (dl rfl rfl) rfl c_353 rfl ?_)
      refine mv rfl rfl rfl rfl rfl ?_
      rcases bif_some h with ⟨c_356, h⟩ | ⟨c_356, h⟩
      · refine TL'.step (.on rfl rfl rfl c_356) (OpT.move rfl (dl rfl rfl) rfl ?_)
        refine TL'.step (.on rfl rfl rfl c_356) (OpT.int2 rfl rfl (dl rfl rfl) rfl rfl ?_)
        refine TL'.step (.on rfl rfl rfl c_356) (OpT.move rfl (dl rfl rfl) rfl ?_)
        rcases bif_some h with ⟨c_357, h⟩ | ⟨c_357, h⟩
        · refine TL'.passU (.off _ _ _ _ rfl rfl rfl c_357) (dl rfl rfl) ?_
          refine TL'.passU (.off _ _ _ _ rfl rfl rfl c_357) (dl rfl rfl) ?_
          refine TL'.passU (.off _ _ _ _ rfl rfl rfl c_357) (dl rfl rfl) ?_
          refine TL'.step (.on rfl rfl rfl c_356) (OpT.pickT rfl (dl rfl rfl) rfl c_357 rfl ?_)
          refine sp rfl (OpT.pickT rfl (dl rfl rfl) rfl c_356 rfl ?_)
          refine asg rfl rfl rfl rfl rfl ?_
          refine TL'.nil (thenS_normal ?_)
          refine T.by_turn ?_ (raddlelaw14_TableLong_j4_T K true h)
          exact Turn.rp (.cons rfl (.nil _)) (.n _)
        · refine TL'.step (.on rfl rfl rfl c_357) (OpT.move rfl (dl rfl rfl) rfl ?_)
          refine TL'.step (.on rfl rfl rfl c_357) (OpT.lenSlM (xs := x13_3_3) (f := (cI .u8)) rfl (dl rfl rfl) Try.underlying29 rfl ?_)
          refine TL'.step (.on rfl rfl rfl c_357) (OpT.int2 rfl rfl (dl rfl rfl) rfl rfl ?_)
          refine TL'.step (.on rfl rfl rfl c_356) (OpT.pickF rfl (dl rfl rfl) rfl c_357 rfl ?_)
          refine sp rfl (OpT.pickT rfl (dl rfl rfl) rfl c_356 rfl ?_)
          refine asg rfl rfl rfl rfl rfl ?_
          refine TL'.nil (thenS_normal ?_)
          refine T.by_turn ?_ (raddlelaw14_TableLong_j4_T K ((x13_3_3.length : Int) == (0 : Int)) h)
          exact Turn.rp (.cons rfl (.nil _)) (.n _)
      · refine TL'.passU (.off _ _ _ _ rfl rfl rfl c_356) (dl rfl rfl) ?_
        refine TL'.passU (.off _ _ _ _ rfl rfl rfl c_356) (dl rfl rfl) ?_
        refine TL'.passU (.off _ _ _ _ rfl rfl rfl c_356) (dl rfl rfl) ?_
        refine TL'.passU (.gone _ _ _ rfl rfl rfl) (dl rfl rfl) ?_
        refine TL'.passU (.gone _ _ _ rfl rfl rfl) (dl rfl rfl) ?_
        refine TL'.passU (.gone _ _ _ rfl rfl rfl) (dl rfl rfl) ?_
        refine TL'.passU (.off _ _ _ _ rfl rfl rfl c_356) (dl rfl rfl) ?_
        refine sp rfl (OpT.pickF rfl (dl rfl rfl) rfl c_356 rfl ?_)
        refine asg rfl rfl rfl rfl rfl ?_
        refine TL'.nil (thenS_normal ?_)
        refine T.by_turn ?_ (raddlelaw14_TableLong_j4_T K false h)
        exact Turn.rp (.cons rfl (.nil _)) (.n _)
  · refine TL'.passU (.off _ _ _ _ rfl rfl rfl c_353) (dl rfl rfl) ?_
    refine TL'.passU (.off _ _ _ _ rfl rfl rfl c_353) (dl rfl rfl) ?_
    refine TL'.passU (.off _ _ _ _ rfl rfl rfl c_353) (dl rfl rfl) ?_
    refine TL'.passU (.gone _ _ _ rfl rfl rfl) (dl rfl rfl) ?_
    refine TL'.passU (.gone _ _ _ rfl rfl rfl) (dl rfl rfl) ?_
    refine TL'.passU (.gone _ _ _ rfl rfl rfl) (dl rfl rfl) ?_
    refine TL'.passU (.off _ _ _ _ rfl rfl rfl c_353) (dl rfl rfl) ?_
    refine sp rfl (OpT.pickF rfl (dl rfl rfl) rfl c_353 rfl ?_)
    refine mv rfl rfl rfl rfl rfl ?_
    refine TL'.passU (.off _ _ _ _ rfl rfl rfl rfl) (dl rfl rfl) ?_
    refine TL'.passU (.off _ _ _ _ rfl rfl rfl rfl) (dl rfl rfl) ?_
    refine TL'.passU (.off _ _ _ _ rfl rfl rfl rfl) (dl rfl rfl) ?_
    refine TL'.passU (.gone _ _ _ rfl rfl rfl) (dl rfl rfl) ?_
    refine TL'.passU (.gone _ _ _ rfl rfl rfl) (dl rfl rfl) ?_
    refine TL'.passU (.gone _ _ _ rfl rfl rfl) (dl rfl rfl) ?_
    refine TL'.passU (.off _ _ _ _ rfl rfl rfl rfl) (dl rfl rfl) ?_
    refine sp rfl (OpT.pickF rfl (dl rfl rfl) rfl rfl rfl ?_)
    refine asg rfl rfl rfl rfl rfl ?_
    refine TL'.nil (thenS_normal ?_)
    refine T.by_turn ?_ (raddlelaw14_TableLong_j4_T K false h)
    exact Turn.rp (.cons rfl (.nil _)) (.n _)

theorem raddlelaw14_TableLong_l0_T {r : Bool} (K : Nat) : ∀ (k : Nat), ∀ (x1 : List Bool) (x5_0_1 : Bool) (x8_0_10 : Int) (x21_0_11 : List Arr2) (x22_0_12 : Int) (x23_0_13 : Int) (y6_0_2 : ArrN) (y6_0_3 : Int) (y6_0_4 : List Arr2) (y6_0_5 : List api_State) (y7_0_6 : ArrN) (y7_0_7 : Int) (y7_0_9 : List api_State) (y7_0_8 : List Arr2) (flx1 : Bool) (b6_0 : Nat) (b7_0 : Nat) (w7_0 : Value), raddlelaw14_TableLong_l0 K k x1 x5_0_1 x8_0_10 x21_0_11 x22_0_12 x23_0_13 y6_0_2 y6_0_3 y6_0_4 y6_0_5 y7_0_6 y7_0_7 y7_0_9 y7_0_8 = some r → TL Try.prog 101 (Code.at [1, 1, 1, 1, 1, 1, 0, 1, 0, 0] (codeOf Try.f6)) ⟨[(1, .sl flx1 1 (x1.map cB)), (5, .bool x5_0_1), (6, .ptr b6_0 0), (7, .ptr b7_0 0), (8, .int .i64 x8_0_10), (21, .sl false 2 (x21_0_11.map (Arr2.dc .i64))), (22, .int .i64 x22_0_12), (23, .int .i64 x23_0_13)], [.box b6_0 28 ((ArrN.oc 256 .u8 y6_0_2) ++ (([.d (.int .i64 y6_0_3), .d (.sl false 2 (y6_0_4.map (Arr2.dc .i64))), .d (.sl false 4 (y6_0_5.map c_api_State))] : List OC))), .box b7_0 28 ((ArrN.oc 256 .u8 y7_0_6) ++ (([.d (.int .i64 y7_0_7), .d (.ex w7_0), .d (.sl false 4 (y7_0_9.map c_api_State))] : List OC))), .arrA w7_0 42 2 (y7_0_8.map (Arr2.dc .i64))]⟩ (raddlelaw14_TableLong_qb0x1111111 r) := by
  intro k
  induction k with
  | zero =>
    intro x1 x5_0_1 x8_0_10 x21_0_11 x22_0_12 x23_0_13 y6_0_2 y6_0_3 y6_0_4 y6_0_5 y7_0_6 y7_0_7 y7_0_9 y7_0_8 flx1 b6_0 b7_0 w7_0 h
    cases (show (none : Option Bool) = some r from h)
  | succ k ih =>
    intro x1 x5_0_1 x8_0_10 x21_0_11 x22_0_12 x23_0_13 y6_0_2 y6_0_3 y6_0_4 y6_0_5 y7_0_6 y7_0_7 y7_0_9 y7_0_8 flx1 b6_0 b7_0 w7_0 h
    rw [raddlelaw14_TableLong_l0] at h
    refine TL.round ?_
    refine T.seq ?_
    refine T.regionL ?_
    refine sp rfl (OpT.int2 rfl rfl (dl rfl rfl) rfl rfl ?_)
    refine TL'.nil (thenS_normal ?_)
    refine T.seq ?_
    rcases bif_some h with ⟨c_338, h⟩ | ⟨c_338, h⟩
    · refine T.condT rfl c_338 ?_
      refine T.skip (thenS_normal ?_)
      refine T.seq ?_
      refine T.block ?_
      refine T.seq ?_
      refine T.regionL ?_
      refine mv rfl rfl rfl rfl rfl ?_
      obtain ⟨v_339, e_340, h⟩ := bind_some h
      refine sp rfl (OpT.indexSlM (xs := x21_0_11) (f := (Arr2.dc .i64)) (v := v_339) rfl (dl rfl rfl) Try.underlying25 i42 rfl rfl e_340 ?_)
      refine sp rfl (OpT.loadRefAgg rfl (dl rfl rfl) Try.underlying42 rfl i42 rfl (Nat.le_of_ble_eq_true rfl) ?_)
      refine sp rfl (OpT.alloc' rfl (dl rfl rfl) i42 rfl (fun b_341 => ?_))
      refine asg rfl rfl rfl rfl rfl ?_
      refine sp rfl (OpT.storeAggTo (i := 0) (cells' := (Arr2.oc .i64 v_339)) rfl rfl i42 rfl rfl rfl rfl (Nat.le_of_ble_eq_true rfl) rfl ?_)
      refine TL'.nil (thenS_normal ?_)
      refine T.seq ?_
      refine T.seq ?_
      refine T.regionL ?_
      refine mv rfl rfl rfl rfl rfl ?_
      refine mv rfl rfl rfl rfl rfl ?_
      refine sp rfl (OpT.lenSlM (xs := x1) (f := cB) rfl (dl rfl rfl) Try.underlying41 rfl ?_)
      refine sp rfl (OpT.int2 rfl rfl (dl rfl rfl) rfl rfl ?_)
      refine mv rfl rfl rfl rfl rfl ?_
      rcases bif_some h with ⟨c_342, h⟩ | ⟨c_342, h⟩
      · refine TL'.step (.on rfl rfl rfl c_342) (OpT.move rfl (dl rfl rfl) rfl ?_)
        refine TL'.step (.on rfl rfl rfl c_342) (OpT.move rfl (dl rfl rfl) rfl ?_)
        obtain ⟨v_343, e_344, h⟩ := bind_some h
        refine TL'.step (.on rfl rfl rfl c_342) (OpT.indexSlM (xs := x1) (f := cB) (v := v_343) rfl (dl rfl rfl) Try.underlying41 i4 rfl rfl e_344 ?_)
        refine TL'.step (.on rfl rfl rfl c_342) (OpT.loadRef rfl (dl rfl rfl) Try.underlying4 rfl rfl rfl ?_)
        refine sp rfl (OpT.pickT rfl (dl rfl rfl) rfl c_342 rfl ?_)
        refine TL'.nil (thenS_normal ?_)
        rcases bif_some h with ⟨c_345, h⟩ | ⟨c_345, h⟩
        · refine T.condT rfl c_345 ?_
          refine T.seq ?_
          refine T.regionL ?_
          refine sp rfl (OpT.indexPtr rfl (dl rfl rfl) Try.underlying42 i3 rfl rfl (by decide) (by decide) ?_)
          refine sp rfl (OpT.storeTo (i := 0) (cells' := (Arr2.oc .i64 (Arr2.set v_339 (1 : Int) (4096 : Int)))) rfl rfl i3 rfl rfl rfl (Arr2.oc_lt (k := .i64) (a := v_339) (pre := []) (post := []) (by decide) (by decide)) (Arr2.oc_set (k := .i64) (a := v_339) (pre := []) (post := []) (by decide) (by decide)) ?_)
          refine TL'.nil (thenS_normal ?_)
          refine T.regionL ?_
          refine mv rfl rfl rfl rfl rfl ?_
          refine sp rfl (OpT.int2 rfl rfl (dl rfl rfl) rfl rfl ?_)
          refine asg rfl rfl rfl rfl rfl ?_
          refine TL'.nil (thenS_normal ?_)
          refine T.by_turn ?_ (raddlelaw14_TableLong_j1_T K (raddlelaw14_TableLong_l0 K k) ih x1 x5_0_1 (IntKind.i64.wrap (x8_0_10 + (1 : Int))) x21_0_11 x22_0_12 x23_0_13 y6_0_2 y6_0_3 y6_0_4 y6_0_5 y7_0_6 y7_0_7 y7_0_9 y7_0_8 (Arr2.set v_339 (1 : Int) (4096 : Int)) flx1 b6_0 b7_0 w7_0 b_341 h)
          exact Turn.rp (.cons rfl (.cons rfl (.cons rfl (.cons rfl (.cons rfl (.cons rfl (.cons rfl (.cons rfl (.cons rfl (.nil _)))))))))) (.c (.s .z) (.c (.s .z) (.c (.s .z) (.c .z (.n _)))))
        · refine T.condF rfl c_345 ?_
          refine T.by_turn ?_ (raddlelaw14_TableLong_j2_T K (raddlelaw14_TableLong_l0 K k) ih x1 x5_0_1 x8_0_10 x21_0_11 x22_0_12 x23_0_13 y6_0_2 y6_0_3 y6_0_4 y6_0_5 y7_0_6 y7_0_7 y7_0_9 y7_0_8 v_339 flx1 b6_0 b7_0 w7_0 b_341 h)
          exact Turn.rp (.cons rfl (.cons rfl (.cons rfl (.cons rfl (.cons rfl (.cons rfl (.cons rfl (.cons rfl (.cons rfl (.nil _)))))))))) (.c (.s .z) (.c (.s .z) (.c (.s .z) (.c .z (.n _)))))
      · refine TL'.passU (.off _ _ _ _ rfl rfl rfl c_342) (dl rfl rfl) ?_
        refine TL'.passU (.off _ _ _ _ rfl rfl rfl c_342) (dl rfl rfl) ?_
        refine TL'.passU (.off _ _ _ _ rfl rfl rfl c_342) (dl rfl rfl) ?_
        refine TL'.passU (.off _ _ _ _ rfl rfl rfl c_342) (dl rfl rfl) ?_
        refine sp rfl (OpT.pickF rfl (dl rfl rfl) rfl c_342 rfl ?_)
        refine TL'.nil (thenS_normal ?_)
        refine T.condF rfl rfl ?_
        refine T.by_turn ?_ (raddlelaw14_TableLong_j2_T K (raddlelaw14_TableLong_l0 K k) ih x1 x5_0_1 x8_0_10 x21_0_11 x22_0_12 x23_0_13 y6_0_2 y6_0_3 y6_0_4 y6_0_5 y7_0_6 y7_0_7 y7_0_9 y7_0_8 v_339 flx1 b6_0 b7_0 w7_0 b_341 h)
        exact Turn.rp (.cons rfl (.cons rfl (.cons rfl (.cons rfl (.cons rfl (.cons rfl (.cons rfl (.cons rfl (.cons rfl (.nil _)))))))))) (.c (.s .z) (.c (.s .z) (.c (.s .z) (.c .z (.n _)))))
    · refine T.condF rfl c_338 ?_
      refine T.exit (thenS_exit (thenS_exit (inBlock_exit (thenS_normal ?_))))
      refine T.seq ?_
      refine T.regionL ?_
      refine sp rfl (OpT.loadBoxAgg (i := 0) (l := ((ArrN.dc 256 .u8 y6_0_2) ++ (([.int .i64 y6_0_3, .sl false 2 (y6_0_4.map (Arr2.dc .i64)), .sl false 4 (y6_0_5.map c_api_State)] : List DC)))) rfl (dl rfl rfl) Try.underlying28 rfl i28 rfl rfl rfl rfl ?_)
      obtain ⟨v_348, e_349, h⟩ := bind_some h
      refine sp rfl (OpT.callPA rfl (dl rfl rfl) Try.func10 rfl rfl (Args.cons rfl Args.nil) (CallR.nil (table_Encode_T K e_349)) ?_)
      refine mv rfl rfl rfl rfl rfl ?_
      refine sp rfl (OpT.extract rfl (dl rfl rfl) rfl rfl ?_)
      refine sp rfl (OpT.extract rfl (dl rfl rfl) rfl rfl ?_)
      refine asg rfl rfl rfl rfl rfl ?_
      refine asg rfl rfl rfl rfl rfl ?_
      refine TL'.nil (thenS_normal ?_)
      refine T.seq ?_
      refine T.regionL ?_
      refine sp rfl (OpT.thenTurn (OpT.loadBoxAgg (i := 1) (l := ((ArrN.dc 256 .u8 y7_0_6) ++ (([.int .i64 y7_0_7, .ex w7_0, .sl false 4 (y7_0_9.map c_api_State)] : List DC)))) rfl (dl rfl rfl) Try.underlying28 rfl i28 rfl rfl rfl rfl rfl) (Turn.weakSlotP 54 (l := ((ArrN.dc 256 .u8 y7_0_6) ++ (([.int .i64 y7_0_7, .ex w7_0, .sl false 4 (y7_0_9.map c_api_State)] : List DC)))) (l' := ((ArrN.dc 256 .u8 y7_0_6) ++ (([.int .i64 y7_0_7, .sl false 2 (y7_0_8.map (Arr2.dc .i64)), .sl false 4 (y7_0_9.map c_api_State)] : List DC)))) (.app _ (.cons (.same _) (.cons (.view 2 rfl) (.cons (.same _) (.refl _)))))) ?_)
      obtain ⟨v_350, e_351, h⟩ := bind_some h
      refine sp rfl (OpT.callPA rfl (dl rfl rfl) Try.func10 rfl rfl (Args.cons rfl Args.nil) (CallR.nil (table_Encode_T K e_351)) ?_)
      refine mv rfl rfl rfl rfl rfl ?_
      refine sp rfl (OpT.extract rfl (dl rfl rfl) rfl rfl ?_)
      refine sp rfl (OpT.extract rfl (dl rfl rfl) rfl rfl ?_)
      refine asg rfl rfl rfl rfl rfl ?_
      refine asg rfl rfl rfl rfl rfl ?_
      refine TL'.nil (thenS_normal ?_)
      refine T.seq ?_
      refine T.seq ?_
      refine T.regionL ?_
      refine mv rfl rfl rfl rfl rfl ?_
      refine sp rfl (OpT.int2 rfl rfl (dl rfl rfl) rfl rfl ?_)
      refine mv rfl rfl rfl rfl rfl ?_
      rcases bif_some h with ⟨c_352, h⟩ | ⟨c_352, h⟩
      · refine TL'.passU (.off _ _ _ _ rfl rfl rfl c_352) (dl rfl rfl) ?_
        refine TL'.passU (.off _ _ _ _ rfl rfl rfl c_352) (dl rfl rfl) ?_
        refine sp rfl (OpT.pickT rfl (dl rfl rfl) rfl c_352 rfl ?_)
        refine TL'.nil (thenS_normal ?_)
        refine T.condT rfl rfl ?_
        refine T.by_turn ?_ (raddlelaw14_TableLong_j3_T K x5_0_1 v_348.1 v_348.2 v_350.1 v_350.2 h)
        exact Turn.rp (.cons rfl (.cons rfl (.cons rfl (.cons rfl (.cons rfl (.nil _)))))) (.n _)
      · refine TL'.step (.on rfl rfl rfl c_352) (OpT.move rfl (dl rfl rfl) rfl ?_)
        refine TL'.step (.on rfl rfl rfl c_352) (OpT.int2 rfl rfl (dl rfl rfl) rfl rfl ?_)
        refine sp rfl (OpT.pickF rfl (dl rfl rfl) rfl c_352 rfl ?_)
        refine TL'.nil (thenS_normal ?_)
        rcases bif_some h with ⟨c_358, h⟩ | ⟨c_358, h⟩
        · refine T.condT rfl c_358 ?_
          refine T.by_turn ?_ (raddlelaw14_TableLong_j3_T K x5_0_1 v_348.1 v_348.2 v_350.1 v_350.2 h)
          exact Turn.rp (.cons rfl (.cons rfl (.cons rfl (.cons rfl (.cons rfl (.nil _)))))) (.n _)
        · refine T.condF rfl c_358 ?_
          refine T.skip (thenS_normal ?_)
          refine T.seq ?_
          refine T.regionL ?_
          refine mv rfl rfl rfl rfl rfl ?_
          refine mv rfl rfl rfl rfl rfl ?_
          rcases bif_some h with ⟨c_359, h⟩ | ⟨c_359, h⟩
          · refine TL'.step (.on rfl rfl rfl c_359) (OpT.move rfl (dl rfl rfl) rfl ?_)
            refine TL'.step (.on rfl rfl rfl c_359) (OpT.lenSlM (xs := v_350.1) (f := (cI .u8)) rfl (dl rfl rfl) Try.underlying29 rfl ?_)
            refine TL'.step (.on rfl rfl rfl c_359) (OpT.move rfl (dl rfl rfl) rfl ?_)
            refine TL'.step (.on rfl rfl rfl c_359) (OpT.lenSlM (xs := v_348.1) (f := (cI .u8)) rfl (dl rfl rfl) Try.underlying29 rfl ?_)
            refine TL'.step (.on rfl rfl rfl c_359) (OpT.int2 rfl rfl (dl rfl rfl) rfl rfl ?_)
            refine sp rfl (OpT.pickT rfl (dl rfl rfl) rfl c_359 rfl ?_)
            refine mv rfl rfl rfl rfl rfl ?_
            rcases bif_some h with ⟨c_360, h⟩ | ⟨c_360, h⟩
            · refine TL'.step (.on rfl rfl rfl c_360) (OpT.move rfl (dl rfl rfl) rfl ?_)
              refine TL'.step (.on rfl rfl rfl c_360) (OpT.lenSlM (xs := v_350.1) (f := (cI .u8)) rfl (dl rfl rfl) Try.underlying29 rfl ?_)
              refine TL'.step (.on rfl rfl rfl c_360) (OpT.move rfl (dl rfl rfl) rfl ?_)
              refine TL'.step (.on rfl rfl rfl c_360) (OpT.lenSlM (xs := v_348.1) (f := (cI .u8)) rfl (dl rfl rfl) Try.underlying29 rfl ?_)
              refine TL'.step (.on rfl rfl rfl c_360) (OpT.move rfl (dl rfl rfl) rfl ?_)
              refine TL'.step (.on rfl rfl rfl c_360) (OpT.int2 rfl rfl (dl rfl rfl) rfl rfl ?_)
              refine TL'.step (.on rfl rfl rfl c_360) (OpT.int2 rfl rfl (dl rfl rfl) rfl rfl ?_)
              refine TL'.step (.on rfl rfl rfl c_360) (OpT.int2 rfl rfl (dl rfl rfl) rfl rfl ?_)
              refine sp rfl (OpT.pickT rfl (dl rfl rfl) rfl c_360 rfl ?_)
              refine asg rfl rfl rfl rfl rfl ?_
              refine TL'.nil (thenS_normal ?_)
              refine T.ret ?_
              exact Fin.done (.cons _ _ _ _ (.tmp 4 _ rfl) .nil) (by cases h; exact ⟨rfl, rfl⟩)
            · refine TL'.passU (.off _ _ _ _ rfl rfl rfl c_360) (dl rfl rfl) ?_
              refine TL'.passU (.off _ _ _ _ rfl rfl rfl c_360) (dl rfl rfl) ?_
              refine TL'.passU (.off _ _ _ _ rfl rfl rfl c_360) (dl rfl rfl) ?_
              refine TL'.passU (.off _ _ _ _ rfl rfl rfl c_360) (dl rfl rfl) ?_
              refine TL'.passU (.off _ _ _ _ rfl rfl rfl c_360) (dl rfl rfl) ?_
              refine TL'.passU (.off _ _ _ _ rfl rfl rfl c_360) (dl rfl rfl) ?_
              refine TL'.passU (.off _ _ _ _ rfl rfl rfl c_360) (dl rfl rfl) ?_
              refine TL'.passU (.off _ _ _ _ rfl rfl rfl c_360) (dl rfl rfl) ?_
              refine sp rfl (OpT.pickF rfl (dl rfl rfl) rfl c_360 rfl ?_)
              refine asg rfl rfl rfl rfl rfl ?_
              refine TL'.nil (thenS_normal ?_)
              refine T.ret ?_
              exact Fin.done (.cons _ _ _ _ (.tmp 4 _ rfl) .nil) (by cases h; exact ⟨rfl, rfl⟩)
          · refine TL'.passU (.off _ _ _ _ rfl rfl rfl c_359) (dl rfl rfl) ?_
            refine TL'.passU (.off _ _ _ _ rfl rfl rfl c_359) (dl rfl rfl) ?_
            refine TL'.passU (.off _ _ _ _ rfl rfl rfl c_359) (dl rfl rfl) ?_
            refine TL'.passU (.off _ _ _ _ rfl rfl rfl c_359) (dl rfl rfl) ?_
            refine TL'.passU (.off _ _ _ _ rfl rfl rfl c_359) (dl rfl rfl) ?_
            refine sp rfl (OpT.pickF rfl (dl rfl rfl) rfl c_359 rfl ?_)
            refine mv rfl rfl rfl rfl rfl ?_
            refine TL'.passU (.off _ _ _ _ rfl rfl rfl rfl) (dl rfl rfl) ?_
            refine TL'.passU (.off _ _ _ _ rfl rfl rfl rfl) (dl rfl rfl) ?_
            refine TL'.passU (.off _ _ _ _ rfl rfl rfl rfl) (dl rfl rfl) ?_
            refine TL'.passU (.off _ _ _ _ rfl rfl rfl rfl) (dl rfl rfl) ?_
            refine TL'.passU (.off _ _ _ _ rfl rfl rfl rfl) (dl rfl rfl) ?_
            refine TL'.passU (.off _ _ _ _ rfl rfl rfl rfl) (dl rfl rfl) ?_
            refine TL'.passU (.off _ _ _ _ rfl rfl rfl rfl) (dl rfl rfl) ?_
            refine TL'.passU (.off _ _ _ _ rfl rfl rfl rfl) (dl rfl rfl) ?_
            refine sp rfl (OpT.pickF rfl (dl rfl rfl) rfl rfl rfl ?_)
            refine asg rfl rfl rfl rfl rfl ?_
            refine TL'.nil (thenS_normal ?_)
            refine T.ret ?_
            exact Fin.done (.cons _ _ _ _ (.tmp 4 _ rfl) .nil) (by cases h; exact ⟨rfl, rfl⟩)

theorem raddlelaw14_TableLong_T (K : Nat) {x0 : api_Auto} {x1 : List Bool} {flx1 : Bool} {r : Bool} (h : raddlelaw14_TableLong K x0 x1 = some r) : CallR Try.prog 6 [.agg ((ArrN.dc 256 .u8 x0.Split.Of) ++ (([.int .i64 x0.Split.Many, .sl false 2 (x0.Counts.map (Arr2.dc .i64)), .sl false 4 (x0.States.map c_api_State)] : List DC))), .sl flx1 1 (x1.map cB)] [] (.bool r) := by
  refine CallT.intro Try.func6 rfl (Nat.le_of_ble_eq_true rfl) ?_
  show T Try.prog 101 (Code.at [] (codeOf Try.f6)) ⟨paramSlots 0 [.agg ((ArrN.dc 256 .u8 x0.Split.Of) ++ (([.int .i64 x0.Split.Many, .sl false 2 (x0.Counts.map (Arr2.dc .i64)), .sl false 4 (x0.States.map c_api_State)] : List DC))), .sl flx1 1 (x1.map cB)], []⟩ (raddlelaw14_TableLong_q r)
  unfold raddlelaw14_TableLong at h
  refine T.seq ?_
  refine T.regionL ?_
  refine sp rfl (OpT.boxAgg rfl (dl rfl rfl) rfl (fun b_331 => ?_))
  refine asg rfl rfl rfl rfl rfl ?_
  refine TL'.nil (thenS_normal ?_)
  refine T.seq ?_
  refine T.regionL ?_
  obtain ⟨v_332, e_333, h⟩ := bind_some h
  refine sp rfl (OpT.callPA rfl (dl rfl rfl) Try.func13 rfl rfl Args.nil (CallR.nil (raddlelaw14_shown_T K e_333)) ?_)
  refine asg rfl rfl rfl rfl rfl ?_
  refine TL'.nil (thenS_normal ?_)
  refine T.seq ?_
  refine T.regionL ?_
  refine sp rfl (OpT.loadBoxAgg (i := 0) (l := ((ArrN.dc 256 .u8 x0.Split.Of) ++ (([.int .i64 x0.Split.Many, .sl false 2 (x0.Counts.map (Arr2.dc .i64)), .sl false 4 (x0.States.map c_api_State)] : List DC)))) rfl (dl rfl rfl) Try.underlying28 rfl i28 rfl rfl rfl rfl ?_)
  obtain ⟨v_334, e_335, h⟩ := bind_some h
  refine sp rfl (OpT.callPA rfl (dl rfl rfl) Try.func11 rfl rfl (Args.cons rfl Args.nil) (CallR.nil (raddlelaw14_few_T K e_335)) ?_)
  refine sp rfl (OpT.alloc' rfl (dl rfl rfl) i28 rfl (fun b_336 => ?_))
  refine sp rfl (OpT.storeAggTo (i := 0) (cells' := ((ArrN.oc 256 .u8 v_334.Split.Of) ++ (([.d (.int .i64 v_334.Split.Many), .d (.sl false 2 (v_334.Counts.map (Arr2.dc .i64))), .d (.sl false 4 (v_334.States.map c_api_State))] : List OC)))) rfl rfl i28 rfl rfl rfl rfl (Nat.le_of_ble_eq_true rfl) rfl ?_)
  refine TL'.nil (thenS_normal ?_)
  refine T.seq ?_
  refine T.regionL ?_
  refine sp rfl (OpT.loadBoxAgg (i := 0) (l := ((ArrN.dc 256 .u8 v_334.Split.Of) ++ (([.int .i64 v_334.Split.Many, .sl false 2 (v_334.Counts.map (Arr2.dc .i64)), .sl false 4 (v_334.States.map c_api_State)] : List DC)))) rfl (dl rfl rfl) Try.underlying28 rfl i28 rfl rfl rfl rfl ?_)
  refine sp rfl (OpT.alloc' rfl (dl rfl rfl) i28 rfl (fun b_337 => ?_))
  refine sp rfl (OpT.storeAggTo (i := 0) (cells' := ((ArrN.oc 256 .u8 v_334.Split.Of) ++ (([.d (.int .i64 v_334.Split.Many), .d (.sl false 2 (v_334.Counts.map (Arr2.dc .i64))), .d (.sl false 4 (v_334.States.map c_api_State))] : List OC)))) rfl rfl i28 rfl rfl rfl rfl (Nat.le_of_ble_eq_true rfl) rfl ?_)
  refine TL'.nil (thenS_normal ?_)
  refine T.seq ?_
  refine T.regionL ?_
  refine sp rfl (OpT.fieldPtr rfl (dl rfl rfl) Try.underlying28 rfl i25 (by decide) rfl ?_)
  refine sp rfl (OpT.storeTo (i := 0) (cells' := ((ArrN.oc 256 .u8 v_334.Split.Of) ++ (([.d (.int .i64 v_334.Split.Many), .d (.ex (.slice none 0 0)), .d (.sl false 4 (v_334.States.map c_api_State))] : List OC)))) rfl rfl i25 rfl rfl rfl (Nat.le_of_ble_eq_true rfl) rfl ?_)
  refine TL'.nil (thenS_normal ?_)
  refine T.seq ?_
  refine T.regionL ?_
  refine asg rfl rfl rfl rfl rfl ?_
  refine TL'.nil (thenS_normal ?_)
  refine T.seq ?_
  refine T.seq ?_
  refine T.regionL ?_
  refine sp rfl (OpT.fieldPtr rfl (dl rfl rfl) Try.underlying28 rfl i25 (by decide) rfl ?_)
  refine sp rfl (OpT.loadBox (i := 1) rfl (dl rfl rfl) Try.underlying25 rfl rfl rfl rfl ?_)
  refine sp rfl (OpT.lenSlM (xs := v_334.Counts) (f := (Arr2.dc .i64)) rfl (dl rfl rfl) Try.underlying25 rfl ?_)
  refine mv rfl rfl rfl rfl rfl ?_
  refine TL'.nil (thenS_normal ?_)
  refine T.block ?_
  refine T.loop ?_
  refine TL.by_turn (Turn.nilA 42 2) ?_
  refine TL.by_turn ?_ (raddlelaw14_TableLong_l0_T K K x1 v_332 (0 : Int) v_334.Counts (v_334.Counts.length : Int) (0 : Int) v_334.Split.Of v_334.Split.Many v_334.Counts v_334.States v_334.Split.Of v_334.Split.Many v_334.States [] flx1 b_336 b_337 (nilv 2) h)
  exact Turn.rp (.cons rfl (.cons rfl (.cons rfl (.cons rfl (.cons rfl (.cons rfl (.cons rfl (.cons rfl (.nil _))))))))) (.c (.s (.s .z)) (.c (.s .z) (.c .z (.n _))))

end Go.Rv

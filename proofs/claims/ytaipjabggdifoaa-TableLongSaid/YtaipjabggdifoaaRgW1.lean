/- Each function computes what its plain text says: printed by a program of ours. -/
import Derived.Test.YtaipjabggdifoaaRgW0
namespace Go.Rv
open Go.Proofs
set_option maxRecDepth 100000
set_option maxHeartbeats 4000000
set_option linter.unusedVariables false

abbrev raddlelaw14_few_q (r : api_Auto) : Exit → St → Prop := retS Try.prog Try.f11 (fun y t => y = (.agg ((ArrN.dc 256 .u8 r.Split.Of) ++ (([.int .i64 r.Split.Many, .sl false 2 (r.Counts.map (Arr2.dc .i64)), .sl false 4 (r.States.map c_api_State)] : List DC)))) ∧ t = [])

theorem raddlelaw14_few_T (K : Nat) {x0 : api_Auto} {r : api_Auto} (h : raddlelaw14_few K x0 = some r) : CallR Try.prog 11 [.agg ((ArrN.dc 256 .u8 x0.Split.Of) ++ (([.int .i64 x0.Split.Many, .sl false 2 (x0.Counts.map (Arr2.dc .i64)), .sl false 4 (x0.States.map c_api_State)] : List DC)))] [] (.agg ((ArrN.dc 256 .u8 r.Split.Of) ++ (([.int .i64 r.Split.Many, .sl false 2 (r.Counts.map (Arr2.dc .i64)), .sl false 4 (r.States.map c_api_State)] : List DC)))) := by
  refine CallT.intro Try.func11 rfl (Nat.le_of_ble_eq_true rfl) ?_
  show T Try.prog 9 (Code.at [] (codeOf Try.f11)) ⟨paramSlots 0 [.agg ((ArrN.dc 256 .u8 x0.Split.Of) ++ (([.int .i64 x0.Split.Many, .sl false 2 (x0.Counts.map (Arr2.dc .i64)), .sl false 4 (x0.States.map c_api_State)] : List DC)))], []⟩ (raddlelaw14_few_q r)
  unfold raddlelaw14_few at h
  refine T.seq ?_
  refine T.regionL ?_
  refine sp rfl (OpT.boxAgg rfl (dl rfl rfl) rfl (fun b_13 => ?_))
  refine sp rfl (OpT.alloc' rfl (dl rfl rfl) i28 rfl (fun b_14 => ?_))
  refine TL'.nil (thenS_normal ?_)
  refine T.seq ?_
  refine T.seq ?_
  refine T.regionL ?_
  refine sp rfl (OpT.fieldPtr rfl (dl rfl rfl) Try.underlying28 rfl i26 (by decide) rfl ?_)
  refine sp rfl (OpT.loadBox (i := 1) rfl (dl rfl rfl) Try.underlying26 rfl rfl rfl rfl ?_)
  refine sp rfl (OpT.lenSlM (xs := x0.States) (f := c_api_State) rfl (dl rfl rfl) Try.underlying26 rfl ?_)
  refine sp rfl (OpT.int2 rfl rfl (dl rfl rfl) rfl rfl ?_)
  refine TL'.nil (thenS_normal ?_)
  rcases bif_some h with ⟨c_15, h⟩ | ⟨c_15, h⟩
  · refine T.condT rfl c_15 ?_
    refine T.seq ?_
    refine T.regionL ?_
    refine sp rfl (OpT.build (l := ((ArrN.dc 256 .u8 (ArrN.mk fun _ => 0)) ++ (([.int .i64 (0 : Int), .ex (.slice none 0 0), .ex (.slice none 0 0)] : List DC)))) rfl (dl rfl rfl) (built_struct (pl := [(0, 257), (257, 1), (258, 1)]) Try.underlying28 i28 rfl) (all1 rfl) rfl rfl ?_)
    refine sp rfl (OpT.storeAggTo (i := 0) (cells' := ((ArrN.oc 256 .u8 (ArrN.mk fun _ => 0)) ++ (([.d (.int .i64 (0 : Int)), .d (.ex (.slice none 0 0)), .d (.ex (.slice none 0 0))] : List OC)))) rfl rfl i28 rfl rfl rfl rfl (Nat.le_of_ble_eq_true rfl) rfl ?_)
    refine TL'.nil (thenS_normal ?_)
    refine T.ret (thenS_ret ?_)
    refine Fin.turn (Turn.weakBox 0 (l := ((ArrN.dc 256 .u8 (ArrN.mk fun _ => 0)) ++ (([.int .i64 (0 : Int), .ex (.slice none 0 0), .ex (.slice none 0 0)] : List DC)))) (l' := ((ArrN.dc 256 .u8 (ArrN.mk fun _ => 0)) ++ (([.int .i64 (0 : Int), .sl false 2 (([] : List Arr2).map (Arr2.dc .i64)), .sl false 4 (([] : List api_State).map c_api_State)] : List DC)))) rfl (.app _ (.cons (.same _) (.cons (.nil _ _) (.cons (.nil _ _) (.refl _)))))) ?_
    exact Fin.done (.cons _ _ _ _ (.cellAgg 2 28 _ 0 0 28 _ ((ArrN.dc 256 .u8 (ArrN.mk fun _ => 0)) ++ (([.int .i64 (0 : Int), .sl false 2 (([] : List Arr2).map (Arr2.dc .i64)), .sl false 4 (([] : List api_State).map c_api_State)] : List DC))) _ _ 259 _ rfl rfl rfl rfl Try.underlying28 rfl i28) .nil) (by cases h; exact ⟨rfl, rfl⟩)
  · refine T.condF rfl c_15 ?_
    refine T.skip (thenS_normal ?_)
    refine T.seq ?_
    refine T.regionL ?_
    refine sp rfl (OpT.loadBoxAgg (i := 1) (l := ((ArrN.dc 256 .u8 x0.Split.Of) ++ (([.int .i64 x0.Split.Many, .sl false 2 (x0.Counts.map (Arr2.dc .i64)), .sl false 4 (x0.States.map c_api_State)] : List DC)))) rfl (dl rfl rfl) Try.underlying28 rfl i28 rfl rfl rfl rfl ?_)
    refine sp rfl (OpT.storeAggTo (i := 0) (cells' := ((ArrN.oc 256 .u8 x0.Split.Of) ++ (([.d (.int .i64 x0.Split.Many), .d (.sl false 2 (x0.Counts.map (Arr2.dc .i64))), .d (.sl false 4 (x0.States.map c_api_State))] : List OC)))) rfl rfl i28 rfl rfl rfl rfl (Nat.le_of_ble_eq_true rfl) rfl ?_)
    refine TL'.nil (thenS_normal ?_)
    refine T.ret ?_
    exact Fin.done (.cons _ _ _ _ (.cellAgg 2 28 _ 0 0 28 _ ((ArrN.dc 256 .u8 x0.Split.Of) ++ (([.int .i64 x0.Split.Many, .sl false 2 (x0.Counts.map (Arr2.dc .i64)), .sl false 4 (x0.States.map c_api_State)] : List DC))) _ _ 259 _ rfl rfl rfl rfl Try.underlying28 rfl i28) .nil) (by cases h; exact ⟨rfl, rfl⟩)

abbrev split_Right_q (r : Bool) : Exit → St → Prop := retS Try.prog Try.f43 (fun y t => y = (.bool r) ∧ t = [])

abbrev split_Right_qs111 (r : Bool) : Exit → St → Prop := thenS (fun s' => T Try.prog 28 (Code.at [1, 1, 1] (codeOf Try.f43)) s' ((split_Right_q r))) ((split_Right_q r))

abbrev split_Right_qb0x111 (r : Bool) : Exit → St → Prop := inBlockS 0 ((split_Right_qs111 r))

theorem split_Right_l0_T {r : Bool} (K : Nat) : ∀ (k : Nat), ∀ (x3_0_2 : Int) (x0 : api_Split) (x8_0_4 : Int) (b1_0 : Nat), split_Right_l0 K k x3_0_2 x0 x8_0_4 = some r → TL Try.prog 28 (Code.at [1, 1, 0, 1, 0, 0] (codeOf Try.f43)) ⟨[(1, .ptr b1_0 0), (3, .int .i64 x3_0_2), (7, .agg (ArrN.dc 256 .u8 x0.Of)), (8, .int .i64 x8_0_4)], [.box b1_0 24 ((ArrN.oc 256 .u8 x0.Of) ++ (([.d (.int .i64 x0.Many)] : List OC)))]⟩ (split_Right_qb0x111 r) := by
  intro k
  induction k with
  | zero =>
    intro x3_0_2 x0 x8_0_4 b1_0 h
    cases (show (none : Option Bool) = some r from h)
  | succ k ih =>
    intro x3_0_2 x0 x8_0_4 b1_0 h
    rw [split_Right_l0] at h
    refine TL.round ?_
    refine T.seq ?_
    refine T.regionL ?_
    refine sp rfl (OpT.int2 rfl rfl (dl rfl rfl) rfl rfl ?_)
    refine TL'.nil (thenS_normal ?_)
    refine T.seq ?_
    rcases bif_some h with ⟨c_46, h⟩ | ⟨c_46, h⟩
    · refine T.condT rfl c_46 ?_
      refine T.skip (thenS_normal ?_)
      refine T.seq ?_
      refine T.block ?_
      refine T.seq ?_
      refine T.regionL ?_
      obtain ⟨g_47, h⟩ := ck_some h
      refine sp rfl (OpT.indexArr rfl (dl rfl rfl) Try.underlying22 Try.underlying5 rfl i5 rfl rfl g_47.1 g_47.2 (ArrN.dc_get (n := 256) (a := x0.Of) (k := .u8) g_47.1 g_47.2) ?_)
      refine asg rfl rfl rfl rfl rfl ?_
      refine TL'.nil (thenS_normal ?_)
      refine T.block ?_
      refine T.seq ?_
      refine T.regionL ?_
      refine mv rfl rfl rfl rfl rfl ?_
      refine sp rfl (OpT.convInt rfl (dl rfl rfl) Try.underlying5 Try.underlying3 rfl ?_)
      refine mv rfl rfl rfl rfl rfl ?_
      refine sp rfl (OpT.int2 rfl rfl (dl rfl rfl) rfl rfl ?_)
      refine asg rfl rfl rfl rfl rfl ?_
      refine TL'.nil (thenS_normal ?_)
      rcases bif_some h with ⟨c_48, h⟩ | ⟨c_48, h⟩
      · refine T.condT rfl c_48 ?_
        refine T.seq ?_
        refine T.regionL ?_
        refine asg rfl rfl rfl rfl rfl ?_
        refine TL'.nil (thenS_normal ?_)
        refine T.ret (inBlock_ret (inBlock_ret (thenS_ret (thenS_ret (inBlock_ret (thenS_ret ?_))))))
        exact Fin.done (.cons _ _ _ _ (.tmp 2 _ rfl) .nil) (by cases h; exact ⟨rfl, rfl⟩)
      · refine T.condF rfl c_48 ?_
        refine T.seq ?_
        refine T.regionL ?_
        refine mv rfl rfl rfl rfl rfl ?_
        refine sp rfl (OpT.convInt rfl (dl rfl rfl) Try.underlying5 Try.underlying3 rfl ?_)
        refine mv rfl rfl rfl rfl rfl ?_
        refine sp rfl (OpT.int2 rfl rfl (dl rfl rfl) rfl rfl ?_)
        refine asg rfl rfl rfl rfl rfl ?_
        refine TL'.nil (thenS_normal ?_)
        rcases bif_some h with ⟨c_49, h⟩ | ⟨c_49, h⟩
        · refine T.condT rfl c_49 ?_
          refine T.regionL ?_
          refine mv rfl rfl rfl rfl rfl ?_
          refine sp rfl (OpT.int2 rfl rfl (dl rfl rfl) rfl rfl ?_)
          refine asg rfl rfl rfl rfl rfl ?_
          refine TL'.nil (inBlock_normal (inBlock_normal (thenS_normal ?_)))
          refine T.regionL ?_
          refine sp rfl (OpT.int2 rfl rfl (dl rfl rfl) rfl rfl ?_)
          refine mv rfl rfl rfl rfl rfl ?_
          refine TL'.nil (thenS_normal ?_)
          refine TL.by_turn ?_ (ih (IntKind.i64.wrap (x3_0_2 + (1 : Int))) x0 (IntKind.i64.wrap (x8_0_4 + (1 : Int))) b1_0 h)
          exact Turn.rp (.cons rfl (.cons rfl (.cons rfl (.cons rfl (.nil _))))) (.c .z (.n _))
        · refine T.condF rfl c_49 ?_
          refine T.skip (inBlock_normal (inBlock_normal (thenS_normal ?_)))
          refine T.regionL ?_
          refine sp rfl (OpT.int2 rfl rfl (dl rfl rfl) rfl rfl ?_)
          refine mv rfl rfl rfl rfl rfl ?_
          refine TL'.nil (thenS_normal ?_)
          refine TL.by_turn ?_ (ih x3_0_2 x0 (IntKind.i64.wrap (x8_0_4 + (1 : Int))) b1_0 h)
          exact Turn.rp (.cons rfl (.cons rfl (.cons rfl (.cons rfl (.nil _))))) (.c .z (.n _))
    · refine T.condF rfl c_46 ?_
      refine T.exit (thenS_exit (thenS_exit (inBlock_exit (thenS_normal ?_))))
      refine T.seq ?_
      refine T.regionL ?_
      refine mv rfl rfl rfl rfl rfl ?_
      refine sp rfl (OpT.fieldPtr rfl (dl rfl rfl) Try.underlying24 rfl i3 (by decide) rfl ?_)
      refine sp rfl (OpT.loadBox (i := 0) rfl (dl rfl rfl) Try.underlying3 rfl rfl rfl rfl ?_)
      refine sp rfl (OpT.int2 rfl rfl (dl rfl rfl) rfl rfl ?_)
      refine asg rfl rfl rfl rfl rfl ?_
      refine TL'.nil (thenS_normal ?_)
      refine T.ret ?_
      exact Fin.done (.cons _ _ _ _ (.tmp 2 _ rfl) .nil) (by cases h; exact ⟨rfl, rfl⟩)

theorem split_Right_T (K : Nat) {x0 : api_Split} {r : Bool} (h : split_Right K x0 = some r) : CallR Try.prog 43 [.agg ((ArrN.dc 256 .u8 x0.Of) ++ (([.int .i64 x0.Many] : List DC)))] [] (.bool r) := by
  refine CallT.intro Try.func43 rfl (Nat.le_of_ble_eq_true rfl) ?_
  show T Try.prog 28 (Code.at [] (codeOf Try.f43)) ⟨paramSlots 0 [.agg ((ArrN.dc 256 .u8 x0.Of) ++ (([.int .i64 x0.Many] : List DC)))], []⟩ (split_Right_q r)
  unfold split_Right at h
  refine T.seq ?_
  refine T.regionL ?_
  refine sp rfl (OpT.boxAgg rfl (dl rfl rfl) rfl (fun b_45 => ?_))
  refine asg rfl rfl rfl rfl rfl ?_
  refine TL'.nil (thenS_normal ?_)
  refine T.seq ?_
  refine T.regionL ?_
  refine asg rfl rfl rfl rfl rfl ?_
  refine TL'.nil (thenS_normal ?_)
  refine T.seq ?_
  refine T.seq ?_
  refine T.regionL ?_
  refine sp rfl (OpT.fieldPtr rfl (dl rfl rfl) Try.underlying24 rfl i22 (by decide) rfl ?_)
  refine sp rfl (OpT.loadBoxAgg (i := 0) (l := (ArrN.dc 256 .u8 x0.Of)) rfl (dl rfl rfl) Try.underlying22 rfl i22 rfl rfl rfl rfl ?_)
  refine mv rfl rfl rfl rfl rfl ?_
  refine TL'.nil (thenS_normal ?_)
  refine T.block ?_
  refine T.loop ?_
  refine TL.by_turn ?_ (split_Right_l0_T K K (0 : Int) x0 (0 : Int) b_45 h)
  exact Turn.rp (.cons rfl (.cons rfl (.cons rfl (.cons rfl (.nil _))))) (.c .z (.n _))

abbrev auto_Codes_q (r : Int) : Exit → St → Prop := retS Try.prog Try.f36 (fun y t => y = (.int .i64 r) ∧ t = [])

abbrev auto_Codes_qs11 (r : Int) : Exit → St → Prop := thenS (fun s' => T Try.prog 17 (Code.at [1, 1] (codeOf Try.f36)) s' ((auto_Codes_q r))) ((auto_Codes_q r))

abbrev auto_Codes_qs1111 (r : Int) : Exit → St → Prop := thenS (fun s' => T Try.prog 17 (Code.at [1, 1, 1, 1] (codeOf Try.f36)) s' ((auto_Codes_q r))) ((auto_Codes_q r))

abbrev auto_Codes_qb0x1111 (r : Int) : Exit → St → Prop := inBlockS 0 ((auto_Codes_qs1111 r))

theorem auto_Codes_j0_T {r : Int} (K : Nat) (h : auto_Codes_j0 K = some r) : T Try.prog 17 (Code.at [1, 0, 1, 0] (codeOf Try.f36)) ⟨[], []⟩ (auto_Codes_qs11 r) := by
  unfold auto_Codes_j0 at h
  refine T.seq ?_
  refine T.regionL ?_
  refine asg rfl rfl rfl rfl rfl ?_
  refine TL'.nil (thenS_normal ?_)
  refine T.ret (thenS_ret ?_)
  exact Fin.done (.cons _ _ _ _ (.tmp 2 _ rfl) .nil) (by cases h; exact ⟨rfl, rfl⟩)

theorem auto_Codes_l1_T {r : Int} (K : Nat) : ∀ (k : Nat), ∀ (x3_1_0 : Int) (x0 : Int) (x11_1_2 : Int), auto_Codes_l1 K k x3_1_0 x0 x11_1_2 = some r → TL Try.prog 17 (Code.at [1, 1, 1, 0, 1, 0, 0] (codeOf Try.f36)) ⟨[(3, .int .i64 x3_1_0), (10, .int .i64 x0), (11, .int .i64 x11_1_2)], []⟩ (auto_Codes_qb0x1111 r) := by
  intro k
  induction k with
  | zero =>
    intro x3_1_0 x0 x11_1_2 h
    cases (show (none : Option Int) = some r from h)
  | succ k ih =>
    intro x3_1_0 x0 x11_1_2 h
    rw [auto_Codes_l1] at h
    refine TL.round ?_
    refine T.seq ?_
    refine T.regionL ?_
    refine sp rfl (OpT.int2 rfl rfl (dl rfl rfl) rfl rfl ?_)
    refine TL'.nil (thenS_normal ?_)
    refine T.seq ?_
    rcases bif_some h with ⟨c_27, h⟩ | ⟨c_27, h⟩
    · refine T.condT rfl c_27 ?_
      refine T.skip (thenS_normal ?_)
      refine T.seq ?_
      refine T.block ?_
      refine T.regionL ?_
      refine mv rfl rfl rfl rfl rfl ?_
      refine sp rfl (OpT.int2 rfl rfl (dl rfl rfl) rfl rfl ?_)
      refine asg rfl rfl rfl rfl rfl ?_
      refine TL'.nil (inBlock_normal (thenS_normal ?_))
      refine T.regionL ?_
      refine sp rfl (OpT.int2 rfl rfl (dl rfl rfl) rfl rfl ?_)
      refine mv rfl rfl rfl rfl rfl ?_
      refine TL'.nil (thenS_normal ?_)
      refine TL.by_turn ?_ (ih (IntKind.i64.wrap (x3_1_0 * (3 : Int))) x0 (IntKind.i64.wrap (x11_1_2 + (1 : Int))) h)
      exact Turn.rp (.cons rfl (.cons rfl (.cons rfl (.nil _)))) (.n _)
    · refine T.condF rfl c_27 ?_
      refine T.exit (thenS_exit (thenS_exit (inBlock_exit (thenS_normal ?_))))
      refine T.seq ?_
      refine T.regionL ?_
      refine mv rfl rfl rfl rfl rfl ?_
      refine asg rfl rfl rfl rfl rfl ?_
      refine TL'.nil (thenS_normal ?_)
      refine T.ret ?_
      exact Fin.done (.cons _ _ _ _ (.tmp 2 _ rfl) .nil) (by cases h; exact ⟨rfl, rfl⟩)

theorem auto_Codes_T (K : Nat) {x0 : Int} {r : Int} (h : auto_Codes K x0 = some r) : CallR Try.prog 36 [.int .i64 x0] [] (.int .i64 r) := by
  refine CallT.intro Try.func36 rfl (Nat.le_of_ble_eq_true rfl) ?_
  show T Try.prog 17 (Code.at [] (codeOf Try.f36)) ⟨paramSlots 0 [.int .i64 x0], []⟩ (auto_Codes_q r)
  unfold auto_Codes at h
  refine T.seq ?_
  refine T.regionL ?_
  refine asg rfl rfl rfl rfl rfl ?_
  refine TL'.nil (thenS_normal ?_)
  refine T.seq ?_
  refine T.seq ?_
  refine T.regionL ?_
  refine mv rfl rfl rfl rfl rfl ?_
  refine sp rfl (OpT.int2 rfl rfl (dl rfl rfl) rfl rfl ?_)
  refine mv rfl rfl rfl rfl rfl ?_
  rcases bif_some h with ⟨c_25, h⟩ | ⟨c_25, h⟩
  · refine TL'.passU (.off _ _ _ _ rfl rfl rfl c_25) (dl rfl rfl) ?_
    refine TL'.passU (.off _ _ _ _ rfl rfl rfl c_25) (dl rfl rfl) ?_
    refine sp rfl (OpT.pickT rfl (dl rfl rfl) rfl c_25 rfl ?_)
    refine TL'.nil (thenS_normal ?_)
    refine T.condT rfl rfl ?_
    refine T.by_turn ?_ (auto_Codes_j0_T K h)
    exact Turn.rp (.nil _) (.n _)
  · refine TL'.step (.on rfl rfl rfl c_25) (OpT.move rfl (dl rfl rfl) rfl ?_)
    refine TL'.step (.on rfl rfl rfl c_25) (OpT.int2 rfl rfl (dl rfl rfl) rfl rfl ?_)
    refine sp rfl (OpT.pickF rfl (dl rfl rfl) rfl c_25 rfl ?_)
    refine TL'.nil (thenS_normal ?_)
    rcases bif_some h with ⟨c_26, h⟩ | ⟨c_26, h⟩
    · refine T.condT rfl c_26 ?_
      refine T.by_turn ?_ (auto_Codes_j0_T K h)
      exact Turn.rp (.nil _) (.n _)
    · refine T.condF rfl c_26 ?_
      refine T.skip (thenS_normal ?_)
      refine T.seq ?_
      refine T.regionL ?_
      refine asg rfl rfl rfl rfl rfl ?_
      refine TL'.nil (thenS_normal ?_)
      refine T.seq ?_
      refine T.seq ?_
      refine T.regionL ?_
      refine mv rfl rfl rfl rfl rfl ?_
      refine mv rfl rfl rfl rfl rfl ?_
      refine TL'.nil (thenS_normal ?_)
      refine T.block ?_
      refine T.loop ?_
      refine TL.by_turn ?_ (auto_Codes_l1_T K K (1 : Int) x0 (0 : Int) h)
      exact Turn.rp (.cons rfl (.cons rfl (.cons rfl (.nil _)))) (.n _)

abbrev auto_rises_q (r : Bool) : Exit → St → Prop := retS Try.prog Try.f64 (fun y t => y = (.bool r) ∧ t = [])

abbrev auto_rises_qs111 (r : Bool) : Exit → St → Prop := thenS (fun s' => T Try.prog 24 (Code.at [1, 1, 1] (codeOf Try.f64)) s' ((auto_rises_q r))) ((auto_rises_q r))

abbrev auto_rises_qb0x111 (r : Bool) : Exit → St → Prop := inBlockS 0 ((auto_rises_qs111 r))

abbrev auto_rises_ql11010 (r : Bool) : Exit → St → Prop := thenS (fun s' => TL Try.prog 24 (Code.at [1, 1, 0, 1, 0, 0] (codeOf Try.f64)) s' ((auto_rises_qb0x111 r))) ((auto_rises_qb0x111 r))

abbrev auto_rises_qs110100111 (r : Bool) : Exit → St → Prop := thenS (fun s' => T Try.prog 24 (Code.at [1, 1, 0, 1, 0, 0, 1, 1, 1] (codeOf Try.f64)) s' ((auto_rises_ql11010 r))) ((auto_rises_ql11010 r))

abbrev auto_rises_qb1_0x110100111 (r : Bool) : Exit → St → Prop := inBlockS 1 ((auto_rises_qs110100111 r))

abbrev auto_rises_qs110100110011 (r : Bool) : Exit → St → Prop := thenS (fun s' => T Try.prog 24 (Code.at [1, 1, 0, 1, 0, 0, 1, 1, 0, 0, 1, 1] (codeOf Try.f64)) s' ((auto_rises_qb1_0x110100111 r))) ((auto_rises_qb1_0x110100111 r))

theorem auto_rises_j1_T {r : Bool} (K : Nat) (h : auto_rises_j1 K = some r) : T Try.prog 24 (Code.at [1, 1, 0, 1, 0, 0, 1, 1, 0, 0, 1, 0, 1, 0] (codeOf Try.f64)) ⟨[], []⟩ (auto_rises_qs110100110011 r) := by
  unfold auto_rises_j1 at h
  refine T.seq ?_
  refine T.regionL ?_
  refine asg rfl rfl rfl rfl rfl ?_
  refine TL'.nil (thenS_normal ?_)
  refine T.ret (thenS_ret (inBlock_ret (thenS_ret (thenS_ret (inBlock_ret (thenS_ret ?_))))))
  exact Fin.done (.cons _ _ _ _ (.tmp 4 _ rfl) .nil) (by cases h; exact ⟨rfl, rfl⟩)

theorem auto_rises_l0_T {r : Bool} (K : Nat) : ∀ (k : Nat), ∀ (x1 : Int) (x5_0_1 : Int) (x0 : List Int) (x9_0_3 : Int) (x10_0_4 : Int) (flx0 : Bool), auto_rises_l0 K k x1 x5_0_1 x0 x9_0_3 x10_0_4 = some r → TL Try.prog 24 (Code.at [1, 1, 0, 1, 0, 0] (codeOf Try.f64)) ⟨[(1, .int .i64 x1), (5, .int .i64 x5_0_1), (8, .sl flx0 1 (x0.map (cI .i64))), (9, .int .i64 x9_0_3), (10, .int .i64 x10_0_4)], []⟩ (auto_rises_qb0x111 r) := by
  intro k
  induction k with
  | zero =>
    intro x1 x5_0_1 x0 x9_0_3 x10_0_4 flx0 h
    cases (show (none : Option Bool) = some r from h)
  | succ k ih =>
    intro x1 x5_0_1 x0 x9_0_3 x10_0_4 flx0 h
    rw [auto_rises_l0] at h
    refine TL.round ?_
    refine T.seq ?_
    refine T.regionL ?_
    refine sp rfl (OpT.int2 rfl rfl (dl rfl rfl) rfl rfl ?_)
    refine TL'.nil (thenS_normal ?_)
    refine T.seq ?_
    rcases bif_some h with ⟨c_51, h⟩ | ⟨c_51, h⟩
    · refine T.condT rfl c_51 ?_
      refine T.skip (thenS_normal ?_)
      refine T.seq ?_
      refine T.block ?_
      refine T.seq ?_
      refine T.regionL ?_
      obtain ⟨v_52, e_53, h⟩ := bind_some h
      refine sp rfl (OpT.indexSlM (xs := x0) (f := (cI .i64)) (v := v_52) rfl (dl rfl rfl) Try.underlying56 i3 rfl rfl e_53 ?_)
      refine sp rfl (OpT.loadRef rfl (dl rfl rfl) Try.underlying3 rfl rfl rfl ?_)
      refine asg rfl rfl rfl rfl rfl ?_
      refine TL'.nil (thenS_normal ?_)
      refine T.seq ?_
      refine T.seq ?_
      refine T.regionL ?_
      refine mv rfl rfl rfl rfl rfl ?_
      refine mv rfl rfl rfl rfl rfl ?_
      refine sp rfl (OpT.int2 rfl rfl (dl rfl rfl) rfl rfl ?_)
      refine mv rfl rfl rfl rfl rfl ?_
      rcases bif_some h with ⟨c_54, h⟩ | ⟨c_54, h⟩
      · refine TL'.passU (.off _ _ _ _ rfl rfl rfl c_54) (dl rfl rfl) ?_
        refine TL'.passU (.off _ _ _ _ rfl rfl rfl c_54) (dl rfl rfl) ?_
        refine TL'.passU (.off _ _ _ _ rfl rfl rfl c_54) (dl rfl rfl) ?_
        refine sp rfl (OpT.pickT rfl (dl rfl rfl) rfl c_54 rfl ?_)
        refine TL'.nil (thenS_normal ?_)
        refine T.condT rfl rfl ?_
        refine T.by_turn ?_ (auto_rises_j1_T K h)
        exact Turn.rp (.nil _) (.n _)
      · refine TL'.step (.on rfl rfl rfl c_54) (OpT.move rfl (dl rfl rfl) rfl ?_)
        refine TL'.step (.on rfl rfl rfl c_54) (OpT.move rfl (dl rfl rfl) rfl ?_)
        refine TL'.step (.on rfl rfl rfl c_54) (OpT.int2 rfl rfl (dl rfl rfl) rfl rfl ?_)
        refine sp rfl (OpT.pickF rfl (dl rfl rfl) rfl c_54 rfl ?_)
        refine TL'.nil (thenS_normal ?_)
        rcases bif_some h with ⟨c_55, h⟩ | ⟨c_55, h⟩
        · refine T.condT rfl c_55 ?_
          refine T.by_turn ?_ (auto_rises_j1_T K h)
          exact Turn.rp (.nil _) (.n _)
        · refine T.condF rfl c_55 ?_
          refine T.skip (thenS_normal ?_)
          refine T.regionL ?_
          refine mv rfl rfl rfl rfl rfl ?_
          refine asg rfl rfl rfl rfl rfl ?_
          refine TL'.nil (inBlock_normal (thenS_normal ?_))
          refine T.regionL ?_
          refine sp rfl (OpT.int2 rfl rfl (dl rfl rfl) rfl rfl ?_)
          refine mv rfl rfl rfl rfl rfl ?_
          refine TL'.nil (thenS_normal ?_)
          refine TL.by_turn ?_ (ih x1 v_52 x0 x9_0_3 (IntKind.i64.wrap (x10_0_4 + (1 : Int))) flx0 h)
          exact Turn.rp (.cons rfl (.cons rfl (.cons rfl (.cons rfl (.cons rfl (.nil _)))))) (.n _)
    · refine T.condF rfl c_51 ?_
      refine T.exit (thenS_exit (thenS_exit (inBlock_exit (thenS_normal ?_))))
      refine T.seq ?_
      refine T.regionL ?_
      refine asg rfl rfl rfl rfl rfl ?_
      refine TL'.nil (thenS_normal ?_)
      refine T.ret ?_
      exact Fin.done (.cons _ _ _ _ (.tmp 4 _ rfl) .nil) (by cases h; exact ⟨rfl, rfl⟩)

theorem auto_rises_T (K : Nat) {x0 : List Int} {x1 : Int} {flx0 : Bool} {r : Bool} (h : auto_rises K x0 x1 = some r) : CallR Try.prog 64 [.sl flx0 1 (x0.map (cI .i64)), .int .i64 x1] [] (.bool r) := by
  refine CallT.intro Try.func64 rfl (Nat.le_of_ble_eq_true rfl) ?_
  show T Try.prog 24 (Code.at [] (codeOf Try.f64)) ⟨paramSlots 0 [.sl flx0 1 (x0.map (cI .i64)), .int .i64 x1], []⟩ (auto_rises_q r)
  unfold auto_rises at h
  refine T.seq ?_
  refine T.regionL ?_
  refine asg rfl rfl rfl rfl rfl ?_
  refine TL'.nil (thenS_normal ?_)
  refine T.seq ?_
  refine T.regionL ?_
  refine asg rfl rfl rfl rfl rfl ?_
  refine TL'.nil (thenS_normal ?_)
  refine T.seq ?_
  refine T.seq ?_
  refine T.regionL ?_
  refine mv rfl rfl rfl rfl rfl ?_
  refine sp rfl (OpT.lenSlM (xs := x0) (f := (cI .i64)) rfl (dl rfl rfl) Try.underlying56 rfl ?_)
  refine mv rfl rfl rfl rfl rfl ?_
  refine TL'.nil (thenS_normal ?_)
  refine T.block ?_
  refine T.loop ?_
  refine TL.by_turn ?_ (auto_rises_l0_T K K x1 (-1 : Int) x0 (x0.length : Int) (0 : Int) flx0 h)
  exact Turn.rp (.cons rfl (.cons rfl (.cons rfl (.cons rfl (.cons rfl (.nil _)))))) (.n _)

abbrev slices_Index_int_q (r : Int) : Exit → St → Prop := retS Try.prog Try.f95 (fun y t => y = (.int .i64 r) ∧ t = [])

abbrev slices_Index_int_qs11 (r : Int) : Exit → St → Prop := thenS (fun s' => T Try.prog 19 (Code.at [1, 1] (codeOf Try.f95)) s' ((slices_Index_int_q r))) ((slices_Index_int_q r))

abbrev slices_Index_int_qb0x11 (r : Int) : Exit → St → Prop := inBlockS 0 ((slices_Index_int_qs11 r))

theorem slices_Index_int_l0_T {r : Int} (K : Nat) : ∀ (k : Nat), ∀ (x0 : List Int) (x1 : Int) (x7_0_2 : Int) (x8_0_3 : Int) (flx0 : Bool), slices_Index_int_l0 K k x0 x1 x7_0_2 x8_0_3 = some r → TL Try.prog 19 (Code.at [1, 0, 1, 0, 0] (codeOf Try.f95)) ⟨[(0, .sl flx0 1 (x0.map (cI .i64))), (1, .int .i64 x1), (7, .int .i64 x7_0_2), (8, .int .i64 x8_0_3)], []⟩ (slices_Index_int_qb0x11 r) := by
  intro k
  induction k with
  | zero =>
    intro x0 x1 x7_0_2 x8_0_3 flx0 h
    cases (show (none : Option Int) = some r from h)
  | succ k ih =>
    intro x0 x1 x7_0_2 x8_0_3 flx0 h
    rw [slices_Index_int_l0] at h
    refine TL.round ?_
    refine T.seq ?_
    refine T.regionL ?_
    refine sp rfl (OpT.int2 rfl rfl (dl rfl rfl) rfl rfl ?_)
    refine TL'.nil (thenS_normal ?_)
    refine T.seq ?_
    rcases bif_some h with ⟨c_37, h⟩ | ⟨c_37, h⟩
    · refine T.condT rfl c_37 ?_
      refine T.skip (thenS_normal ?_)
      refine T.seq ?_
      refine T.block ?_
      refine T.seq ?_
      refine T.regionL ?_
      refine mv rfl rfl rfl rfl rfl ?_
      refine asg rfl rfl rfl rfl rfl ?_
      refine TL'.nil (thenS_normal ?_)
      refine T.seq ?_
      refine T.regionL ?_
      refine mv rfl rfl rfl rfl rfl ?_
      refine mv rfl rfl rfl rfl rfl ?_
      refine mv rfl rfl rfl rfl rfl ?_
      obtain ⟨v_38, e_39, h⟩ := bind_some h
      refine sp rfl (OpT.indexSlM (xs := x0) (f := (cI .i64)) (v := v_38) rfl (dl rfl rfl) Try.underlying56 i3 rfl rfl e_39 ?_)
      refine sp rfl (OpT.loadRef rfl (dl rfl rfl) Try.underlying3 rfl rfl rfl ?_)
      refine sp rfl (OpT.int2 rfl rfl (dl rfl rfl) rfl rfl ?_)
      refine TL'.nil (thenS_normal ?_)
      rcases bif_some h with ⟨c_40, h⟩ | ⟨c_40, h⟩
      · refine T.condT rfl c_40 ?_
        refine T.seq ?_
        refine T.regionL ?_
        refine mv rfl rfl rfl rfl rfl ?_
        refine asg rfl rfl rfl rfl rfl ?_
        refine TL'.nil (thenS_normal ?_)
        refine T.ret (inBlock_ret (thenS_ret (thenS_ret (inBlock_ret (thenS_ret ?_)))))
        exact Fin.done (.cons _ _ _ _ (.tmp 4 _ rfl) .nil) (by cases h; exact ⟨rfl, rfl⟩)
      · refine T.condF rfl c_40 ?_
        refine T.skip (inBlock_normal (thenS_normal ?_))
        refine T.regionL ?_
        refine sp rfl (OpT.int2 rfl rfl (dl rfl rfl) rfl rfl ?_)
        refine mv rfl rfl rfl rfl rfl ?_
        refine TL'.nil (thenS_normal ?_)
        refine TL.by_turn ?_ (ih x0 x1 x7_0_2 (IntKind.i64.wrap (x8_0_3 + (1 : Int))) flx0 h)
        exact Turn.rp (.cons rfl (.cons rfl (.cons rfl (.cons rfl (.nil _))))) (.n _)
    · refine T.condF rfl c_37 ?_
      refine T.exit (thenS_exit (thenS_exit (inBlock_exit (thenS_normal ?_))))
      refine T.seq ?_
      refine T.regionL ?_
      refine asg rfl rfl rfl rfl rfl ?_
      refine TL'.nil (thenS_normal ?_)
      refine T.ret ?_
      exact Fin.done (.cons _ _ _ _ (.tmp 4 _ rfl) .nil) (by cases h; exact ⟨rfl, rfl⟩)

theorem slices_Index_int_T (K : Nat) {x0 : List Int} {x1 : Int} {flx0 : Bool} {r : Int} (h : slices_Index_int K x0 x1 = some r) : CallR Try.prog 95 [.sl flx0 1 (x0.map (cI .i64)), .int .i64 x1] [] (.int .i64 r) := by
  refine CallT.intro Try.func95 rfl (Nat.le_of_ble_eq_true rfl) ?_
  show T Try.prog 19 (Code.at [] (codeOf Try.f95)) ⟨paramSlots 0 [.sl flx0 1 (x0.map (cI .i64)), .int .i64 x1], []⟩ (slices_Index_int_q r)
  unfold slices_Index_int at h
  refine T.seq ?_
  refine T.regionL ?_
  refine asg rfl rfl rfl rfl rfl ?_
  refine TL'.nil (thenS_normal ?_)
  refine T.seq ?_
  refine T.seq ?_
  refine T.regionL ?_
  refine mv rfl rfl rfl rfl rfl ?_
  refine sp rfl (OpT.lenSlM (xs := x0) (f := (cI .i64)) rfl (dl rfl rfl) Try.underlying56 rfl ?_)
  refine mv rfl rfl rfl rfl rfl ?_
  refine TL'.nil (thenS_normal ?_)
  refine T.block ?_
  refine T.loop ?_
  refine TL.by_turn ?_ (slices_Index_int_l0_T K K x0 x1 (x0.length : Int) (0 : Int) flx0 h)
  exact Turn.rp (.cons rfl (.cons rfl (.cons rfl (.cons rfl (.nil _))))) (.n _)

abbrev slices_Contains_int_q (r : Bool) : Exit → St → Prop := retS Try.prog Try.f86 (fun y t => y = (.bool r) ∧ t = [])

theorem slices_Contains_int_T (K : Nat) {x0 : List Int} {x1 : Int} {flx0 : Bool} {r : Bool} (h : slices_Contains_int K x0 x1 = some r) : CallR Try.prog 86 [.sl flx0 1 (x0.map (cI .i64)), .int .i64 x1] [] (.bool r) := by
  refine CallT.intro Try.func86 rfl (Nat.le_of_ble_eq_true rfl) ?_
  show T Try.prog 9 (Code.at [] (codeOf Try.f86)) ⟨paramSlots 0 [.sl flx0 1 (x0.map (cI .i64)), .int .i64 x1], []⟩ (slices_Contains_int_q r)
  unfold slices_Contains_int at h
  refine T.seq ?_
  refine T.regionL ?_
  refine asg rfl rfl rfl rfl rfl ?_
  refine TL'.nil (thenS_normal ?_)
  refine T.seq ?_
  refine T.regionL ?_
  refine mv rfl rfl rfl rfl rfl ?_
  refine mv rfl rfl rfl rfl rfl ?_
  obtain ⟨v_7, e_8, h⟩ := bind_some h
  refine sp rfl (OpT.callPA rfl (dl rfl rfl) Try.func95 rfl rfl (Args.cons rfl (Args.cons rfl Args.nil)) (CallR.nil (slices_Index_int_T K (flx0 := flx0) e_8)) ?_)
  refine sp rfl (OpT.int2 rfl rfl (dl rfl rfl) rfl rfl ?_)
  refine asg rfl rfl rfl rfl rfl ?_
  refine TL'.nil (thenS_normal ?_)
  refine T.ret ?_
  exact Fin.done (.cons _ _ _ _ (.tmp 4 _ rfl) .nil) (by cases h; exact ⟨rfl, rfl⟩)

abbrev auto_checker_move_q (r : Bool) : Exit → St → Prop := retS Try.prog Try.f67 (fun y t => y = (.bool r) ∧ t = [])

abbrev auto_checker_move_qs111 (r : Bool) : Exit → St → Prop := thenS (fun s' => T Try.prog 79 (Code.at [1, 1, 1] (codeOf Try.f67)) s' ((auto_checker_move_q r))) ((auto_checker_move_q r))

abbrev auto_checker_move_qs1111 (r : Bool) : Exit → St → Prop := thenS (fun s' => T Try.prog 79 (Code.at [1, 1, 1, 1] (codeOf Try.f67)) s' ((auto_checker_move_q r))) ((auto_checker_move_q r))

abbrev auto_checker_move_qb0x1111 (r : Bool) : Exit → St → Prop := inBlockS 0 ((auto_checker_move_qs1111 r))

abbrev auto_checker_move_ql111010 (r : Bool) : Exit → St → Prop := thenS (fun s' => TL Try.prog 79 (Code.at [1, 1, 1, 0, 1, 0, 0] (codeOf Try.f67)) s' ((auto_checker_move_qb0x1111 r))) ((auto_checker_move_qb0x1111 r))

abbrev auto_checker_move_qs1110100111 (r : Bool) : Exit → St → Prop := thenS (fun s' => T Try.prog 79 (Code.at [1, 1, 1, 0, 1, 0, 0, 1, 1, 1] (codeOf Try.f67)) s' ((auto_checker_move_ql111010 r))) ((auto_checker_move_ql111010 r))

abbrev auto_checker_move_qb1_0x1110100111 (r : Bool) : Exit → St → Prop := inBlockS 1 ((auto_checker_move_qs1110100111 r))

theorem auto_checker_move_j0_T {r : Bool} (K : Nat) (h : auto_checker_move_j0 K = some r) : T Try.prog 79 (Code.at [1, 1, 0, 1, 0] (codeOf Try.f67)) ⟨[], []⟩ (auto_checker_move_qs111 r) := by
  unfold auto_checker_move_j0 at h
  refine T.seq ?_
  refine T.regionL ?_
  refine asg rfl rfl rfl rfl rfl ?_
  refine TL'.nil (thenS_normal ?_)
  refine T.ret (thenS_ret ?_)
  exact Fin.done (.cons _ _ _ _ (.tmp 6 _ rfl) .nil) (by cases h; exact ⟨rfl, rfl⟩)

theorem auto_checker_move_j2_T {r : Bool} (K : Nat) (h : auto_checker_move_j2 K = some r) : T Try.prog 79 (Code.at [1, 1, 1, 0, 1, 0, 0, 1, 1, 0, 0, 1, 1, 0] (codeOf Try.f67)) ⟨[], []⟩ (auto_checker_move_qb1_0x1110100111 r) := by
  unfold auto_checker_move_j2 at h
  refine T.seq ?_
  refine T.regionL ?_
  refine asg rfl rfl rfl rfl rfl ?_
  refine TL'.nil (thenS_normal ?_)
  refine T.ret (inBlock_ret (thenS_ret (thenS_ret (inBlock_ret (thenS_ret ?_)))))
  exact Fin.done (.cons _ _ _ _ (.tmp 6 _ rfl) .nil) (by cases h; exact ⟨rfl, rfl⟩)

theorem auto_checker_move_l1_T {r : Bool} (K : Nat) : ∀ (k : Nat), ∀ (x2 : api_Move) (x45_1_11 : Int) (x46_1_12 : Int) (x0 : auto_checker) (x1 : api_State) (b3_1 : Nat) (b4_1 : Nat) (b5_1 : Nat), auto_checker_move_l1 K k x2 x45_1_11 x46_1_12 x0 x1 = some r → TL Try.prog 79 (Code.at [1, 1, 1, 0, 1, 0, 0] (codeOf Try.f67)) ⟨[(3, .ptr b3_1 0), (4, .ptr b4_1 0), (5, .ptr b5_1 0), (44, .sl false 1 (x2.Ops.map (cI .u8))), (45, .int .i64 x45_1_11), (46, .int .i64 x46_1_12)], [.box b3_1 91 ((ArrN.oc 256 .u8 x0.Auto.Split.Of) ++ (([.d (.int .i64 x0.Auto.Split.Many), .d (.sl false 2 (x0.Auto.Counts.map (Arr2.dc .i64))), .d (.sl false 4 (x0.Auto.States.map c_api_State))] : List OC))), .box b4_1 59 [.d (.sl false 1 (x1.L.map (cI .i64))), .d (.sl false 1 (x1.R.map (cI .i64))), .d (.sl false 1 (x1.Rule.map (cI .i64))), .d (.sl false 1 (x1.Next.map (cL 2 c_api_Move)))], .box b5_1 63 [.d (.int .i64 x2.To), .d (.sl false 1 (x2.Ops.map (cI .u8)))]]⟩ (auto_checker_move_qb0x1111 r) := by
  intro k
  induction k with
  | zero =>
    intro x2 x45_1_11 x46_1_12 x0 x1 b3_1 b4_1 b5_1 h
    cases (show (none : Option Bool) = some r from h)
  | succ k ih =>
    intro x2 x45_1_11 x46_1_12 x0 x1 b3_1 b4_1 b5_1 h
    rw [auto_checker_move_l1] at h
    refine TL.round ?_
    refine T.seq ?_
    refine T.regionL ?_
    refine sp rfl (OpT.int2 rfl rfl (dl rfl rfl) rfl rfl ?_)
    refine TL'.nil (thenS_normal ?_)
    refine T.seq ?_
    rcases bif_some h with ⟨c_348, h⟩ | ⟨c_348, h⟩
    · refine T.condT rfl c_348 ?_
      refine T.skip (thenS_normal ?_)
      refine T.seq ?_
      refine T.block ?_
      refine T.seq ?_
      refine T.regionL ?_
      refine mv rfl rfl rfl rfl rfl ?_
      obtain ⟨v_349, e_350, h⟩ := bind_some h
      refine sp rfl (OpT.indexSlM (xs := x2.Ops) (f := (cI .u8)) (v := v_349) rfl (dl rfl rfl) Try.underlying29 i5 rfl rfl e_350 ?_)
      refine sp rfl (OpT.loadRef rfl (dl rfl rfl) Try.underlying5 rfl rfl rfl ?_)
      refine asg rfl rfl rfl rfl rfl ?_
      refine asg rfl rfl rfl rfl rfl ?_
      refine TL'.nil (thenS_normal ?_)
      refine T.seq ?_
      refine DG.start ?_
      refine DG.mv rfl rfl rfl rfl rfl rfl ?_
      refine DG.step (c := ⟨some 52, .bool (decide (v_349 < (1 : Int))), [(51, .int .u8 v_349)], [], []⟩) (fun t hm => One.step rfl (.free rfl) (OpT.int2 rfl rfl (dl rfl rfl) hm.s0 rfl rfl)) (Ct.met_of rfl rfl) ?_
      refine DG.mv rfl rfl rfl rfl rfl rfl ?_
      rcases bif_some h with ⟨c_361, h⟩ | ⟨c_361, h⟩
      · refine DG.off c_361 rfl rfl rfl rfl rfl rfl ?_
        refine DG.off c_361 rfl rfl rfl rfl rfl rfl ?_
        refine DG.step (c := ⟨some 56, .bool true, [(53, .bool (decide (v_349 < (1 : Int))))], [], []⟩) (fun t hm => One.step rfl (.free rfl) (OpT.pickT rfl (dl rfl rfl) hm.s0 c_361 rfl rfl)) (Ct.met_of rfl rfl) ?_
        refine DG.mv rfl rfl rfl rfl rfl rfl ?_
        refine DG.off rfl rfl rfl rfl rfl rfl rfl ?_
        refine DG.off rfl rfl rfl rfl rfl rfl rfl ?_
        refine DG.off rfl rfl rfl rfl rfl rfl rfl ?_
        refine DG.gone rfl rfl rfl rfl rfl rfl ?_
        refine DG.gone rfl rfl rfl rfl rfl rfl ?_
        refine DG.gone rfl rfl rfl rfl rfl rfl ?_
        refine DG.gone rfl rfl rfl rfl rfl rfl ?_
        refine DG.gone rfl rfl rfl rfl rfl rfl ?_
        refine DG.gone rfl rfl rfl rfl rfl rfl ?_
        refine DG.gone rfl rfl rfl rfl rfl rfl ?_
        refine DG.gone rfl rfl rfl rfl rfl rfl ?_
        refine DG.gone rfl rfl rfl rfl rfl rfl ?_
        refine DG.gone rfl rfl rfl rfl rfl rfl ?_
        refine DG.gone rfl rfl rfl rfl rfl rfl ?_
        refine DG.gone rfl rfl rfl rfl rfl rfl ?_
        refine DG.gone rfl rfl rfl rfl rfl rfl ?_
        refine DG.gone rfl rfl rfl rfl rfl rfl ?_
        refine DG.gone rfl rfl rfl rfl rfl rfl ?_
        refine DG.off rfl rfl rfl rfl rfl rfl rfl ?_
        refine DG.step (c := ⟨some 77, .bool true, [(57, .bool true)], [], []⟩) (fun t hm => One.step rfl (.free rfl) (OpT.pickT rfl (dl rfl rfl) hm.s0 rfl rfl rfl)) (Ct.met_of rfl rfl) ?_
        refine DG.fin (s1 := ⟨[(3, .ptr b3_1 0), (4, .ptr b4_1 0), (5, .ptr b5_1 0), (44, .sl false 1 (x2.Ops.map (cI .u8))), (45, .int .i64 x45_1_11), (46, .int .i64 x46_1_12), (54, .tup []), (55, .tup []), (58, .tup []), (59, .tup []), (60, .tup []), (61, .tup []), (62, .tup []), (63, .tup []), (64, .tup []), (65, .tup []), (66, .tup []), (67, .tup []), (68, .tup []), (69, .tup []), (70, .tup []), (71, .tup []), (72, .tup []), (73, .tup []), (74, .tup []), (75, .tup []), (76, .tup []), (77, .bool true)], [.box b3_1 91 ((ArrN.oc 256 .u8 x0.Auto.Split.Of) ++ (([.d (.int .i64 x0.Auto.Split.Many), .d (.sl false 2 (x0.Auto.Counts.map (Arr2.dc .i64))), .d (.sl false 4 (x0.Auto.States.map c_api_State))] : List OC))), .box b4_1 59 [.d (.sl false 1 (x1.L.map (cI .i64))), .d (.sl false 1 (x1.R.map (cI .i64))), .d (.sl false 1 (x1.Rule.map (cI .i64))), .d (.sl false 1 (x1.Next.map (cL 2 c_api_Move)))], .box b5_1 63 [.d (.int .i64 x2.To), .d (.sl false 1 (x2.Ops.map (cI .u8)))]]⟩) (ms := [0, 1, 3, 7, 15, 31, 63, 127, 255, 511, 1023, 2047, 1023, 5119, 13311, 1023, 33791, 127999, 259071, 521215, 1023, 2094079, 4191231, 8388607, 16777215, 33554431, 67108863]) TryMixed rfl (by kernel_rfl) (by kernel_rfl) (by kernel_rfl) (.cons rfl (.cons rfl (.cons rfl (.cons rfl (.cons rfl (.cons rfl (.cons rfl (.cons rfl (.cons rfl (.cons rfl (.cons rfl (.cons rfl (.cons rfl (.cons rfl (.cons rfl (.cons rfl (.cons rfl (.cons rfl (.cons rfl (.cons rfl (.cons rfl (.cons rfl (.cons rfl (.cons rfl (.cons rfl (.cons rfl (.cons rfl (.cons rfl (.nil _))))))))))))))))))))))))))))) rfl (fun u hu => (thenS_normal (T.by_turn hu ?_)))
        refine T.condT rfl rfl ?_
        refine T.by_turn ?_ (auto_checker_move_j2_T K h)
        exact Turn.rp (.nil _) (.n _)
      · refine DG.step (c := ⟨some 54, .int .u8 v_349, [(8, .int .u8 v_349), (53, .bool (decide (v_349 < (1 : Int))))], [], []⟩) (fun t hm => One.step rfl (.on rfl rfl hm.s1 c_361) (OpT.move rfl (dl rfl rfl) hm.s0 rfl)) (Ct.met_of rfl rfl) ?_
        refine DG.step (c := ⟨some 55, .bool (decide (v_349 > (3 : Int))), [(54, .int .u8 v_349), (53, .bool (decide (v_349 < (1 : Int))))], [], []⟩) (fun t hm => One.step rfl (.on rfl rfl hm.s1 c_361) (OpT.int2 rfl rfl (dl rfl rfl) hm.s0 rfl rfl)) (Ct.met_of rfl rfl) ?_
        refine DG.step (c := ⟨some 56, .bool (decide (v_349 > (3 : Int))), [(53, .bool (decide (v_349 < (1 : Int)))), (55, .bool (decide (v_349 > (3 : Int))))], [], []⟩) (fun t hm => One.step rfl (.free rfl) (OpT.pickF rfl (dl rfl rfl) hm.s0 c_361 hm.s1 rfl)) (Ct.met_of rfl rfl) ?_
        refine DG.mv rfl rfl rfl rfl rfl rfl ?_
        rcases bif_some h with ⟨c_362, h⟩ | ⟨c_362, h⟩
        · refine DG.off c_362 rfl rfl rfl rfl rfl rfl ?_
          refine DG.off c_362 rfl rfl rfl rfl rfl rfl ?_
          refine DG.off c_362 rfl rfl rfl rfl rfl rfl ?_
          refine DG.gone rfl rfl rfl rfl rfl rfl ?_
          refine DG.gone rfl rfl rfl rfl rfl rfl ?_
          refine DG.gone rfl rfl rfl rfl rfl rfl ?_
          refine DG.gone rfl rfl rfl rfl rfl rfl ?_
          refine DG.gone rfl rfl rfl rfl rfl rfl ?_
          refine DG.gone rfl rfl rfl rfl rfl rfl ?_
          refine DG.gone rfl rfl rfl rfl rfl rfl ?_
          refine DG.gone rfl rfl rfl rfl rfl rfl ?_
          refine DG.gone rfl rfl rfl rfl rfl rfl ?_
          refine DG.gone rfl rfl rfl rfl rfl rfl ?_
          refine DG.gone rfl rfl rfl rfl rfl rfl ?_
          refine DG.gone rfl rfl rfl rfl rfl rfl ?_
          refine DG.gone rfl rfl rfl rfl rfl rfl ?_
          refine DG.gone rfl rfl rfl rfl rfl rfl ?_
          refine DG.gone rfl rfl rfl rfl rfl rfl ?_
          refine DG.off c_362 rfl rfl rfl rfl rfl rfl ?_
          refine DG.step (c := ⟨some 77, .bool true, [(57, .bool (decide (v_349 > (3 : Int))))], [], []⟩) (fun t hm => One.step rfl (.free rfl) (OpT.pickT rfl (dl rfl rfl) hm.s0 c_362 rfl rfl)) (Ct.met_of rfl rfl) ?_
          refine DG.fin (s1 := ⟨[(3, .ptr b3_1 0), (4, .ptr b4_1 0), (5, .ptr b5_1 0), (44, .sl false 1 (x2.Ops.map (cI .u8))), (45, .int .i64 x45_1_11), (46, .int .i64 x46_1_12), (54, .int .u8 v_349), (55, .bool (decide (v_349 > (3 : Int)))), (58, .tup []), (59, .tup []), (60, .tup []), (61, .tup []), (62, .tup []), (63, .tup []), (64, .tup []), (65, .tup []), (66, .tup []), (67, .tup []), (68, .tup []), (69, .tup []), (70, .tup []), (71, .tup []), (72, .tup []), (73, .tup []), (74, .tup []), (75, .tup []), (76, .tup []), (77, .bool true)], [.box b3_1 91 ((ArrN.oc 256 .u8 x0.Auto.Split.Of) ++ (([.d (.int .i64 x0.Auto.Split.Many), .d (.sl false 2 (x0.Auto.Counts.map (Arr2.dc .i64))), .d (.sl false 4 (x0.Auto.States.map c_api_State))] : List OC))), .box b4_1 59 [.d (.sl false 1 (x1.L.map (cI .i64))), .d (.sl false 1 (x1.R.map (cI .i64))), .d (.sl false 1 (x1.Rule.map (cI .i64))), .d (.sl false 1 (x1.Next.map (cL 2 c_api_Move)))], .box b5_1 63 [.d (.int .i64 x2.To), .d (.sl false 1 (x2.Ops.map (cI .u8)))]]⟩) (ms := [0, 1, 3, 7, 15, 31, 63, 127, 255, 511, 1023, 2047, 1023, 5119, 13311, 1023, 33791, 127999, 259071, 521215, 1023, 2094079, 4191231, 8388607, 16777215, 33554431, 67108863]) TryMixed rfl (by kernel_rfl) (by kernel_rfl) (by kernel_rfl) (.cons rfl (.cons rfl (.cons rfl (.cons rfl (.cons rfl (.cons rfl (.cons rfl (.cons rfl (.cons rfl (.cons rfl (.cons rfl (.cons rfl (.cons rfl (.cons rfl (.cons rfl (.cons rfl (.cons rfl (.cons rfl (.cons rfl (.cons rfl (.cons rfl (.cons rfl (.cons rfl (.cons rfl (.cons rfl (.cons rfl (.cons rfl (.cons rfl (.nil _))))))))))))))))))))))))))))) rfl (fun u hu => (thenS_normal (T.by_turn hu ?_)))
          refine T.condT rfl rfl ?_
          refine T.by_turn ?_ (auto_checker_move_j2_T K h)
          exact Turn.rp (.nil _) (.n _)
        · refine DG.step (c := ⟨some 58, .int .u8 v_349, [(8, .int .u8 v_349), (57, .bool (decide (v_349 > (3 : Int))))], [], []⟩) (fun t hm => One.step rfl (.on rfl rfl hm.s1 c_362) (OpT.move rfl (dl rfl rfl) hm.s0 rfl)) (Ct.met_of rfl rfl) ?_
          refine DG.step (c := ⟨some 59, .bool (v_349 != (3 : Int)), [(58, .int .u8 v_349), (57, .bool (decide (v_349 > (3 : Int))))], [], []⟩) (fun t hm => One.step rfl (.on rfl rfl hm.s1 c_362) (OpT.int2 rfl rfl (dl rfl rfl) hm.s0 rfl rfl)) (Ct.met_of rfl rfl) ?_
          refine DG.step (c := ⟨some 60, .bool (v_349 != (3 : Int)), [(59, .bool (v_349 != (3 : Int))), (57, .bool (decide (v_349 > (3 : Int))))], [], []⟩) (fun t hm => One.step rfl (.on rfl rfl hm.s1 c_362) (OpT.move rfl (dl rfl rfl) hm.s0 rfl)) (Ct.met_of rfl rfl) ?_
          rcases bif_some h with ⟨c_363, h⟩ | ⟨c_363, h⟩
          · refine DG.step (c := ⟨some 61, .ptr b4_1 (0 + 1), [(4, .ptr b4_1 0), (60, .bool (v_349 != (3 : Int)))], [], []⟩) (fun t hm => One.step rfl (.on rfl rfl hm.s1 c_363) (OpT.fieldPtr rfl (dl rfl rfl) Try.underlying59 rfl i56 (by decide) hm.s0 rfl)) (Ct.met_of rfl rfl) ?_
            refine DG.step (c := ⟨some 62, .sl false 1 (x1.R.map (cI .i64)), [(61, .ptr b4_1 (0 + 1)), (60, .bool (v_349 != (3 : Int)))], [(1, .box b4_1 59 [.d (.sl false 1 (x1.L.map (cI .i64))), .d (.sl false 1 (x1.R.map (cI .i64))), .d (.sl false 1 (x1.Rule.map (cI .i64))), .d (.sl false 1 (x1.Next.map (cL 2 c_api_Move)))])], []⟩) (fun t hm => One.step rfl (.on rfl rfl hm.s1 c_363) (OpT.loadBox (i := 1) rfl (dl rfl rfl) Try.underlying56 rfl hm.s0 hm.o0 rfl rfl)) (Ct.met_of rfl rfl) ?_
            refine DG.step (c := ⟨some 63, .ptr b3_1 (0 + 0), [(3, .ptr b3_1 0), (60, .bool (v_349 != (3 : Int)))], [], []⟩) (fun t hm => One.step rfl (.on rfl rfl hm.s1 c_363) (OpT.fieldPtr rfl (dl rfl rfl) Try.underlying91 rfl i28 (by decide) hm.s0 rfl)) (Ct.met_of rfl rfl) ?_
            refine DG.step (c := ⟨some 64, .ptr b3_1 (0 + 0 + 258), [(63, .ptr b3_1 (0 + 0)), (60, .bool (v_349 != (3 : Int)))], [], []⟩) (fun t hm => One.step rfl (.on rfl rfl hm.s1 c_363) (OpT.fieldPtr rfl (dl rfl rfl) Try.underlying28 rfl i26 (by decide) hm.s0 rfl)) (Ct.met_of rfl rfl) ?_
            refine DG.step (c := ⟨some 65, .sl false 4 (x0.Auto.States.map c_api_State), [(64, .ptr b3_1 (0 + 0 + 258)), (60, .bool (v_349 != (3 : Int)))], [(0, .box b3_1 91 ((ArrN.oc 256 .u8 x0.Auto.Split.Of) ++ (([.d (.int .i64 x0.Auto.Split.Many), .d (.sl false 2 (x0.Auto.Counts.map (Arr2.dc .i64))), .d (.sl false 4 (x0.Auto.States.map c_api_State))] : List OC))))], []⟩) (fun t hm => One.step rfl (.on rfl rfl hm.s1 c_363) (OpT.loadBox (i := 0) rfl (dl rfl rfl) Try.underlying26 rfl hm.s0 hm.o0 rfl rfl)) (Ct.met_of rfl rfl) ?_
            refine DG.step (c := ⟨some 66, .ptr b5_1 (0 + 0), [(5, .ptr b5_1 0), (60, .bool (v_349 != (3 : Int)))], [], []⟩) (fun t hm => One.step rfl (.on rfl rfl hm.s1 c_363) (OpT.fieldPtr rfl (dl rfl rfl) Try.underlying63 rfl i3 (by decide) hm.s0 rfl)) (Ct.met_of rfl rfl) ?_
            refine DG.step (c := ⟨some 67, .int .i64 x2.To, [(66, .ptr b5_1 (0 + 0)), (60, .bool (v_349 != (3 : Int)))], [(2, .box b5_1 63 [.d (.int .i64 x2.To), .d (.sl false 1 (x2.Ops.map (cI .u8)))])], []⟩) (fun t hm => One.step rfl (.on rfl rfl hm.s1 c_363) (OpT.loadBox (i := 2) rfl (dl rfl rfl) Try.underlying3 rfl hm.s0 hm.o0 rfl rfl)) (Ct.met_of rfl rfl) ?_
            obtain ⟨v_364, e_365, h⟩ := bind_some h
            refine DG.step (c := ⟨some 68, .ref [.sl false 1 (v_364.L.map (cI .i64)), .sl false 1 (v_364.R.map (cI .i64)), .sl false 1 (v_364.Rule.map (cI .i64)), .sl false 1 (v_364.Next.map (cL 2 c_api_Move))], [(65, .sl false 4 (x0.Auto.States.map c_api_State)), (67, .int .i64 x2.To), (60, .bool (v_349 != (3 : Int)))], [], []⟩) (fun t hm => One.step rfl (.on rfl rfl hm.s2 c_363) (OpT.indexSlM (xs := x0.Auto.States) (f := c_api_State) (v := v_364) rfl (dl rfl rfl) Try.underlying26 i59 hm.s0 hm.s1 e_365 rfl)) (Ct.met_of rfl rfl) ?_
            refine DG.step (c := ⟨some 69, .ref [.sl false 1 (v_364.R.map (cI .i64)), .sl false 1 (v_364.Rule.map (cI .i64)), .sl false 1 (v_364.Next.map (cL 2 c_api_Move))], [(68, .ref [.sl false 1 (v_364.L.map (cI .i64)), .sl false 1 (v_364.R.map (cI .i64)), .sl false 1 (v_364.Rule.map (cI .i64)), .sl false 1 (v_364.Next.map (cL 2 c_api_Move))]), (60, .bool (v_349 != (3 : Int)))], [], []⟩) (fun t hm => One.step rfl (.on rfl rfl hm.s1 c_363) (OpT.fieldRef rfl (dl rfl rfl) Try.underlying59 rfl i56 (by decide) hm.s0 rfl)) (Ct.met_of rfl rfl) ?_
            refine DG.step (c := ⟨some 70, .sl false 1 (v_364.R.map (cI .i64)), [(69, .ref [.sl false 1 (v_364.R.map (cI .i64)), .sl false 1 (v_364.Rule.map (cI .i64)), .sl false 1 (v_364.Next.map (cL 2 c_api_Move))]), (60, .bool (v_349 != (3 : Int)))], [], []⟩) (fun t hm => One.step rfl (.on rfl rfl hm.s1 c_363) (OpT.loadRef rfl (dl rfl rfl) Try.underlying56 rfl hm.s0 rfl rfl)) (Ct.met_of rfl rfl) ?_
            refine DG.step (c := ⟨some 71, .int .i64 x46_1_12, [(7, .int .i64 x46_1_12), (60, .bool (v_349 != (3 : Int)))], [], []⟩) (fun t hm => One.step rfl (.on rfl rfl hm.s1 c_363) (OpT.move rfl (dl rfl rfl) hm.s0 rfl)) (Ct.met_of rfl rfl) ?_
            obtain ⟨v_366, e_367, h⟩ := bind_some h
            refine DG.step (c := ⟨some 72, .ref [.int .i64 v_366], [(70, .sl false 1 (v_364.R.map (cI .i64))), (71, .int .i64 x46_1_12), (60, .bool (v_349 != (3 : Int)))], [], []⟩) (fun t hm => One.step rfl (.on rfl rfl hm.s2 c_363) (OpT.indexSlM (xs := v_364.R) (f := (cI .i64)) (v := v_366) rfl (dl rfl rfl) Try.underlying56 i3 hm.s0 hm.s1 e_367 rfl)) (Ct.met_of rfl rfl) ?_
            refine DG.step (c := ⟨some 73, .int .i64 v_366, [(72, .ref [.int .i64 v_366]), (60, .bool (v_349 != (3 : Int)))], [], []⟩) (fun t hm => One.step rfl (.on rfl rfl hm.s1 c_363) (OpT.loadRef rfl (dl rfl rfl) Try.underlying3 rfl hm.s0 rfl rfl)) (Ct.met_of rfl rfl) ?_
            obtain ⟨v_368, e_369, h⟩ := bind_some h
            refine DG.step (c := ⟨some 74, .bool v_368, [(62, .sl false 1 (x1.R.map (cI .i64))), (73, .int .i64 v_366), (60, .bool (v_349 != (3 : Int)))], [], []⟩) (fun t hm => One.step rfl (.on rfl rfl hm.s2 c_363) (OpT.callPA rfl (dl rfl rfl) Try.func86 rfl rfl (Args.cons hm.s0 (Args.cons hm.s1 Args.nil)) (CallR.nil (slices_Contains_int_T K (flx0 := false) e_369)) rfl)) (Ct.met_of rfl rfl) ?_
            refine DG.step (c := ⟨some 75, .bool (!v_368), [(74, .bool v_368), (60, .bool (v_349 != (3 : Int)))], [], []⟩) (fun t hm => One.step rfl (.on rfl rfl hm.s1 c_363) (OpT.not rfl (dl rfl rfl) hm.s0 rfl)) (Ct.met_of rfl rfl) ?_
            refine DG.step (c := ⟨some 76, .bool (!v_368), [(60, .bool (v_349 != (3 : Int))), (75, .bool (!v_368)), (57, .bool (decide (v_349 > (3 : Int))))], [], []⟩) (fun t hm => One.step rfl (.on rfl rfl hm.s2 c_362) (OpT.pickT rfl (dl rfl rfl) hm.s0 c_363 hm.s1 rfl)) (Ct.met_of rfl rfl) ?_
            refine DG.step (c := ⟨some 77, .bool (!v_368), [(57, .bool (decide (v_349 > (3 : Int)))), (76, .bool (!v_368))], [], []⟩) (fun t hm => One.step rfl (.free rfl) (OpT.pickF rfl (dl rfl rfl) hm.s0 c_362 hm.s1 rfl)) (Ct.met_of rfl rfl) ?_
            refine DG.fin (s1 := ⟨[(3, .ptr b3_1 0), (4, .ptr b4_1 0), (5, .ptr b5_1 0), (44, .sl false 1 (x2.Ops.map (cI .u8))), (45, .int .i64 x45_1_11), (46, .int .i64 x46_1_12), (54, .int .u8 v_349), (55, .bool (decide (v_349 > (3 : Int)))), (58, .int .u8 v_349), (59, .bool (v_349 != (3 : Int))), (60, .bool (v_349 != (3 : Int))), (61, .ptr b4_1 (0 + 1)), (62, .sl false 1 (x1.R.map (cI .i64))), (63, .ptr b3_1 (0 + 0)), (64, .ptr b3_1 (0 + 0 + 258)), (65, .sl false 4 (x0.Auto.States.map c_api_State)), (66, .ptr b5_1 (0 + 0)), (67, .int .i64 x2.To), (68, .ref [.sl false 1 (v_364.L.map (cI .i64)), .sl false 1 (v_364.R.map (cI .i64)), .sl false 1 (v_364.Rule.map (cI .i64)), .sl false 1 (v_364.Next.map (cL 2 c_api_Move))]), (69, .ref [.sl false 1 (v_364.R.map (cI .i64)), .sl false 1 (v_364.Rule.map (cI .i64)), .sl false 1 (v_364.Next.map (cL 2 c_api_Move))]), (70, .sl false 1 (v_364.R.map (cI .i64))), (71, .int .i64 x46_1_12), (72, .ref [.int .i64 v_366]), (73, .int .i64 v_366), (74, .bool v_368), (75, .bool (!v_368)), (76, .bool (!v_368)), (77, .bool (!v_368))], [.box b3_1 91 ((ArrN.oc 256 .u8 x0.Auto.Split.Of) ++ (([.d (.int .i64 x0.Auto.Split.Many), .d (.sl false 2 (x0.Auto.Counts.map (Arr2.dc .i64))), .d (.sl false 4 (x0.Auto.States.map c_api_State))] : List OC))), .box b4_1 59 [.d (.sl false 1 (x1.L.map (cI .i64))), .d (.sl false 1 (x1.R.map (cI .i64))), .d (.sl false 1 (x1.Rule.map (cI .i64))), .d (.sl false 1 (x1.Next.map (cL 2 c_api_Move)))], .box b5_1 63 [.d (.int .i64 x2.To), .d (.sl false 1 (x2.Ops.map (cI .u8)))]]⟩) (ms := [0, 1, 3, 7, 15, 31, 63, 127, 255, 511, 1023, 2047, 1023, 5119, 13311, 1023, 33791, 127999, 259071, 521215, 1023, 2094079, 4191231, 8388607, 16777215, 33554431, 67108863]) TryMixed rfl (by kernel_rfl) (by kernel_rfl) (by kernel_rfl) (.cons rfl (.cons rfl (.cons rfl (.cons rfl (.cons rfl (.cons rfl (.cons rfl (.cons rfl (.cons rfl (.cons rfl (.cons rfl (.cons rfl (.cons rfl (.cons rfl (.cons rfl (.cons rfl (.cons rfl (.cons rfl (.cons rfl (.cons rfl (.cons rfl (.cons rfl (.cons rfl (.cons rfl (.cons rfl (.cons rfl (.cons rfl (.cons rfl (.nil _))))))))))))))))))))))))))))) rfl (fun u hu => (thenS_normal (T.by_turn hu ?_)))
            rcases bif_some h with ⟨c_370, h⟩ | ⟨c_370, h⟩
            · refine T.condT rfl c_370 ?_
              refine T.by_turn ?_ (auto_checker_move_j2_T K h)
              exact Turn.rp (.nil _) (.n _)
            · refine T.condF rfl c_370 ?_
              refine T.skip (inBlock_normal (thenS_normal ?_))
              refine T.regionL ?_
              refine sp rfl (OpT.int2 rfl rfl (dl rfl rfl) rfl rfl ?_)
              refine mv rfl rfl rfl rfl rfl ?_
              refine TL'.nil (thenS_normal ?_)
              refine TL.by_turn ?_ (ih x2 x45_1_11 (IntKind.i64.wrap (x46_1_12 + (1 : Int))) x0 x1 b3_1 b4_1 b5_1 h)
              exact Turn.rp (.cons rfl (.cons rfl (.cons rfl (.cons rfl (.cons rfl (.cons rfl (.nil _))))))) (.c .z (.c .z (.c .z (.n _))))
          · refine DG.off c_363 rfl rfl rfl rfl rfl rfl ?_
            refine DG.off c_363 rfl rfl rfl rfl rfl rfl ?_
            refine DG.off c_363 rfl rfl rfl rfl rfl rfl ?_
            refine DG.off c_363 rfl rfl rfl rfl rfl rfl ?_
            refine DG.off c_363 rfl rfl rfl rfl rfl rfl ?_
            refine DG.off c_363 rfl rfl rfl rfl rfl rfl ?_
            refine DG.off c_363 rfl rfl rfl rfl rfl rfl ?_
            refine DG.off c_363 rfl rfl rfl rfl rfl rfl ?_
            refine DG.off c_363 rfl rfl rfl rfl rfl rfl ?_
            refine DG.off c_363 rfl rfl rfl rfl rfl rfl ?_
            refine DG.off c_363 rfl rfl rfl rfl rfl rfl ?_
            refine DG.off c_363 rfl rfl rfl rfl rfl rfl ?_
            refine DG.off c_363 rfl rfl rfl rfl rfl rfl ?_
            refine DG.off c_363 rfl rfl rfl rfl rfl rfl ?_
            refine DG.off c_363 rfl rfl rfl rfl rfl rfl ?_
            refine DG.step (c := ⟨some 76, .bool false, [(60, .bool (v_349 != (3 : Int))), (57, .bool (decide (v_349 > (3 : Int))))], [], []⟩) (fun t hm => One.step rfl (.on rfl rfl hm.s1 c_362) (OpT.pickF rfl (dl rfl rfl) hm.s0 c_363 rfl rfl)) (Ct.met_of rfl rfl) ?_
            refine DG.step (c := ⟨some 77, .bool false, [(57, .bool (decide (v_349 > (3 : Int)))), (76, .bool false)], [], []⟩) (fun t hm => One.step rfl (.free rfl) (OpT.pickF rfl (dl rfl rfl) hm.s0 c_362 hm.s1 rfl)) (Ct.met_of rfl rfl) ?_
            refine DG.fin (s1 := ⟨[(3, .ptr b3_1 0), (4, .ptr b4_1 0), (5, .ptr b5_1 0), (44, .sl false 1 (x2.Ops.map (cI .u8))), (45, .int .i64 x45_1_11), (46, .int .i64 x46_1_12), (54, .int .u8 v_349), (55, .bool (decide (v_349 > (3 : Int)))), (58, .int .u8 v_349), (59, .bool (v_349 != (3 : Int))), (60, .bool (v_349 != (3 : Int))), (61, .tup []), (62, .tup []), (63, .tup []), (64, .tup []), (65, .tup []), (66, .tup []), (67, .tup []), (68, .tup []), (69, .tup []), (70, .tup []), (71, .tup []), (72, .tup []), (73, .tup []), (74, .tup []), (75, .tup []), (76, .bool false), (77, .bool false)], [.box b3_1 91 ((ArrN.oc 256 .u8 x0.Auto.Split.Of) ++ (([.d (.int .i64 x0.Auto.Split.Many), .d (.sl false 2 (x0.Auto.Counts.map (Arr2.dc .i64))), .d (.sl false 4 (x0.Auto.States.map c_api_State))] : List OC))), .box b4_1 59 [.d (.sl false 1 (x1.L.map (cI .i64))), .d (.sl false 1 (x1.R.map (cI .i64))), .d (.sl false 1 (x1.Rule.map (cI .i64))), .d (.sl false 1 (x1.Next.map (cL 2 c_api_Move)))], .box b5_1 63 [.d (.int .i64 x2.To), .d (.sl false 1 (x2.Ops.map (cI .u8)))]]⟩) (ms := [0, 1, 3, 7, 15, 31, 63, 127, 255, 511, 1023, 2047, 1023, 5119, 13311, 1023, 33791, 127999, 259071, 521215, 1023, 2094079, 4191231, 8388607, 16777215, 33554431, 67108863]) TryMixed rfl (by kernel_rfl) (by kernel_rfl) (by kernel_rfl) (.cons rfl (.cons rfl (.cons rfl (.cons rfl (.cons rfl (.cons rfl (.cons rfl (.cons rfl (.cons rfl (.cons rfl (.cons rfl (.cons rfl (.cons rfl (.cons rfl (.cons rfl (.cons rfl (.cons rfl (.cons rfl (.cons rfl (.cons rfl (.cons rfl (.cons rfl (.cons rfl (.cons rfl (.cons rfl (.cons rfl (.cons rfl (.cons rfl (.nil _))))))))))))))))))))))))))))) rfl (fun u hu => (thenS_normal (T.by_turn hu ?_)))
            refine T.condF rfl rfl ?_
            refine T.skip (inBlock_normal (thenS_normal ?_))
            refine T.regionL ?_
            refine sp rfl (OpT.int2 rfl rfl (dl rfl rfl) rfl rfl ?_)
            refine mv rfl rfl rfl rfl rfl ?_
            refine TL'.nil (thenS_normal ?_)
            refine TL.by_turn ?_ (ih x2 x45_1_11 (IntKind.i64.wrap (x46_1_12 + (1 : Int))) x0 x1 b3_1 b4_1 b5_1 h)
            exact Turn.rp (.cons rfl (.cons rfl (.cons rfl (.cons rfl (.cons rfl (.cons rfl (.nil _))))))) (.c .z (.c .z (.c .z (.n _))))
    · refine T.condF rfl c_348 ?_
      refine T.exit (thenS_exit (thenS_exit (inBlock_exit (thenS_normal ?_))))
      refine T.seq ?_
      refine T.regionL ?_
      refine asg rfl rfl rfl rfl rfl ?_
      refine TL'.nil (thenS_normal ?_)
      refine T.ret ?_
      exact Fin.done (.cons _ _ _ _ (.tmp 6 _ rfl) .nil) (by cases h; exact ⟨rfl, rfl⟩)

theorem auto_checker_move_T (K : Nat) {x0 : auto_checker} {x1 : api_State} {x2 : api_Move} {r : Bool} (h : auto_checker_move K x0 x1 x2 = some r) : CallR Try.prog 67 [.agg ((ArrN.dc 256 .u8 x0.Auto.Split.Of) ++ (([.int .i64 x0.Auto.Split.Many, .sl false 2 (x0.Auto.Counts.map (Arr2.dc .i64)), .sl false 4 (x0.Auto.States.map c_api_State)] : List DC))), .agg [.sl false 1 (x1.L.map (cI .i64)), .sl false 1 (x1.R.map (cI .i64)), .sl false 1 (x1.Rule.map (cI .i64)), .sl false 1 (x1.Next.map (cL 2 c_api_Move))], .agg [.int .i64 x2.To, .sl false 1 (x2.Ops.map (cI .u8))]] [] (.bool r) := by
  refine CallT.intro Try.func67 rfl (Nat.le_of_ble_eq_true rfl) ?_
  show T Try.prog 79 (Code.at [] (codeOf Try.f67)) ⟨paramSlots 0 [.agg ((ArrN.dc 256 .u8 x0.Auto.Split.Of) ++ (([.int .i64 x0.Auto.Split.Many, .sl false 2 (x0.Auto.Counts.map (Arr2.dc .i64)), .sl false 4 (x0.Auto.States.map c_api_State)] : List DC))), .agg [.sl false 1 (x1.L.map (cI .i64)), .sl false 1 (x1.R.map (cI .i64)), .sl false 1 (x1.Rule.map (cI .i64)), .sl false 1 (x1.Next.map (cL 2 c_api_Move))], .agg [.int .i64 x2.To, .sl false 1 (x2.Ops.map (cI .u8))]], []⟩ (auto_checker_move_q r)
  unfold auto_checker_move at h
  refine T.seq ?_
  refine T.regionL ?_
  refine sp rfl (OpT.boxAgg rfl (dl rfl rfl) rfl (fun b_334 => ?_))
  refine sp rfl (OpT.boxAgg rfl (dl rfl rfl) rfl (fun b_335 => ?_))
  refine sp rfl (OpT.boxAgg rfl (dl rfl rfl) rfl (fun b_336 => ?_))
  refine asg rfl rfl rfl rfl rfl ?_
  refine TL'.nil (thenS_normal ?_)
  refine T.seq ?_
  refine T.seq ?_
  refine T.regionL ?_
  refine sp rfl (OpT.fieldPtr rfl (dl rfl rfl) Try.underlying63 rfl i3 (by decide) rfl ?_)
  refine sp rfl (OpT.loadBox (i := 0) rfl (dl rfl rfl) Try.underlying3 rfl rfl rfl rfl ?_)
  refine sp rfl (OpT.int2 rfl rfl (dl rfl rfl) rfl rfl ?_)
  refine TL'.nil (thenS_normal ?_)
  rcases bif_some h with ⟨c_337, h⟩ | ⟨c_337, h⟩
  · refine T.condT rfl c_337 ?_
    refine T.seq ?_
    refine T.regionL ?_
    refine sp rfl (OpT.fieldPtr rfl (dl rfl rfl) Try.underlying63 rfl i29 (by decide) rfl ?_)
    refine sp rfl (OpT.loadBox (i := 0) rfl (dl rfl rfl) Try.underlying29 rfl rfl rfl rfl ?_)
    refine sp rfl (OpT.lenSlM (xs := x2.Ops) (f := (cI .u8)) rfl (dl rfl rfl) Try.underlying29 rfl ?_)
    refine sp rfl (OpT.int2 rfl rfl (dl rfl rfl) rfl rfl ?_)
    refine asg rfl rfl rfl rfl rfl ?_
    refine TL'.nil (thenS_normal ?_)
    refine T.ret (thenS_ret ?_)
    exact Fin.done (.cons _ _ _ _ (.tmp 6 _ rfl) .nil) (by cases h; exact ⟨rfl, rfl⟩)
  · refine T.condF rfl c_337 ?_
    refine T.skip (thenS_normal ?_)
    refine T.seq ?_
    refine T.seq ?_
    refine DG.start ?_
    refine DG.step (c := ⟨some 16, .ptr b_336 (0 + 0), [(5, .ptr b_336 0)], [], []⟩) (fun t hm => One.step rfl (.free rfl) (OpT.fieldPtr rfl (dl rfl rfl) Try.underlying63 rfl i3 (by decide) hm.s0 rfl)) (Ct.met_of rfl rfl) ?_
    refine DG.step (c := ⟨some 17, .int .i64 x2.To, [(16, .ptr b_336 (0 + 0))], [(0, .box b_336 63 [.d (.int .i64 x2.To), .d (.sl false 1 (x2.Ops.map (cI .u8)))])], []⟩) (fun t hm => One.step rfl (.free rfl) (OpT.loadBox (i := 0) rfl (dl rfl rfl) Try.underlying3 rfl hm.s0 hm.o0 rfl rfl)) (Ct.met_of rfl rfl) ?_
    refine DG.step (c := ⟨some 18, .bool (decide (x2.To < (1 : Int))), [(17, .int .i64 x2.To)], [], []⟩) (fun t hm => One.step rfl (.free rfl) (OpT.int2 rfl rfl (dl rfl rfl) hm.s0 rfl rfl)) (Ct.met_of rfl rfl) ?_
    refine DG.mv rfl rfl rfl rfl rfl rfl ?_
    rcases bif_some h with ⟨c_343, h⟩ | ⟨c_343, h⟩
    · refine DG.off c_343 rfl rfl rfl rfl rfl rfl ?_
      refine DG.off c_343 rfl rfl rfl rfl rfl rfl ?_
      refine DG.off c_343 rfl rfl rfl rfl rfl rfl ?_
      refine DG.off c_343 rfl rfl rfl rfl rfl rfl ?_
      refine DG.off c_343 rfl rfl rfl rfl rfl rfl ?_
      refine DG.off c_343 rfl rfl rfl rfl rfl rfl ?_
      refine DG.off c_343 rfl rfl rfl rfl rfl rfl ?_
      refine DG.step (c := ⟨some 27, .bool true, [(19, .bool (decide (x2.To < (1 : Int))))], [], []⟩) (fun t hm => One.step rfl (.free rfl) (OpT.pickT rfl (dl rfl rfl) hm.s0 c_343 rfl rfl)) (Ct.met_of rfl rfl) ?_
      refine DG.mv rfl rfl rfl rfl rfl rfl ?_
      refine DG.off rfl rfl rfl rfl rfl rfl rfl ?_
      refine DG.off rfl rfl rfl rfl rfl rfl rfl ?_
      refine DG.off rfl rfl rfl rfl rfl rfl rfl ?_
      refine DG.off rfl rfl rfl rfl rfl rfl rfl ?_
      refine DG.off rfl rfl rfl rfl rfl rfl rfl ?_
      refine DG.off rfl rfl rfl rfl rfl rfl rfl ?_
      refine DG.off rfl rfl rfl rfl rfl rfl rfl ?_
      refine DG.off rfl rfl rfl rfl rfl rfl rfl ?_
      refine DG.off rfl rfl rfl rfl rfl rfl rfl ?_
      refine DG.off rfl rfl rfl rfl rfl rfl rfl ?_
      refine DG.off rfl rfl rfl rfl rfl rfl rfl ?_
      refine DG.off rfl rfl rfl rfl rfl rfl rfl ?_
      refine DG.off rfl rfl rfl rfl rfl rfl rfl ?_
      refine DG.step (c := ⟨some 42, .bool true, [(28, .bool true)], [], []⟩) (fun t hm => One.step rfl (.free rfl) (OpT.pickT rfl (dl rfl rfl) hm.s0 rfl rfl rfl)) (Ct.met_of rfl rfl) ?_
      refine DG.fin (s1 := ⟨[(3, .ptr b_334 0), (4, .ptr b_335 0), (5, .ptr b_336 0), (42, .bool true)], [.box b_336 63 [.d (.int .i64 x2.To), .d (.sl false 1 (x2.Ops.map (cI .u8)))], .box b_335 59 [.d (.sl false 1 (x1.L.map (cI .i64))), .d (.sl false 1 (x1.R.map (cI .i64))), .d (.sl false 1 (x1.Rule.map (cI .i64))), .d (.sl false 1 (x1.Next.map (cL 2 c_api_Move)))], .box b_334 91 ((ArrN.oc 256 .u8 x0.Auto.Split.Of) ++ (([.d (.int .i64 x0.Auto.Split.Many), .d (.sl false 2 (x0.Auto.Counts.map (Arr2.dc .i64))), .d (.sl false 4 (x0.Auto.States.map c_api_State))] : List OC)))]⟩) (ms := [0, 1, 3, 7, 15, 31, 15, 79, 207, 463, 1023, 2047, 4095, 8191, 16383, 32767, 8191, 73727, 204799, 8191, 532479, 2039807, 4136959, 8331263, 16719871, 33554431, 67108863]) TryMixed rfl (by kernel_rfl) (by kernel_rfl) (by kernel_rfl) (.cons rfl (.cons rfl (.cons rfl (.cons rfl (.nil _))))) rfl (fun u hu => (thenS_normal (T.by_turn hu ?_)))
      refine T.condT rfl rfl ?_
      refine T.by_turn ?_ (auto_checker_move_j0_T K h)
      exact Turn.rp (.nil _) (.n _)
    · refine DG.step (c := ⟨some 20, .ptr b_336 (0 + 0), [(5, .ptr b_336 0), (19, .bool (decide (x2.To < (1 : Int))))], [], []⟩) (fun t hm => One.step rfl (.on rfl rfl hm.s1 c_343) (OpT.fieldPtr rfl (dl rfl rfl) Try.underlying63 rfl i3 (by decide) hm.s0 rfl)) (Ct.met_of rfl rfl) ?_
      refine DG.step (c := ⟨some 21, .int .i64 x2.To, [(20, .ptr b_336 (0 + 0)), (19, .bool (decide (x2.To < (1 : Int))))], [(0, .box b_336 63 [.d (.int .i64 x2.To), .d (.sl false 1 (x2.Ops.map (cI .u8)))])], []⟩) (fun t hm => One.step rfl (.on rfl rfl hm.s1 c_343) (OpT.loadBox (i := 0) rfl (dl rfl rfl) Try.underlying3 rfl hm.s0 hm.o0 rfl rfl)) (Ct.met_of rfl rfl) ?_
      refine DG.step (c := ⟨some 22, .ptr b_334 (0 + 0), [(3, .ptr b_334 0), (19, .bool (decide (x2.To < (1 : Int))))], [], []⟩) (fun t hm => One.step rfl (.on rfl rfl hm.s1 c_343) (OpT.fieldPtr rfl (dl rfl rfl) Try.underlying91 rfl i28 (by decide) hm.s0 rfl)) (Ct.met_of rfl rfl) ?_
      refine DG.step (c := ⟨some 23, .ptr b_334 (0 + 0 + 258), [(22, .ptr b_334 (0 + 0)), (19, .bool (decide (x2.To < (1 : Int))))], [], []⟩) (fun t hm => One.step rfl (.on rfl rfl hm.s1 c_343) (OpT.fieldPtr rfl (dl rfl rfl) Try.underlying28 rfl i26 (by decide) hm.s0 rfl)) (Ct.met_of rfl rfl) ?_
      refine DG.step (c := ⟨some 24, .sl false 4 (x0.Auto.States.map c_api_State), [(23, .ptr b_334 (0 + 0 + 258)), (19, .bool (decide (x2.To < (1 : Int))))], [(2, .box b_334 91 ((ArrN.oc 256 .u8 x0.Auto.Split.Of) ++ (([.d (.int .i64 x0.Auto.Split.Many), .d (.sl false 2 (x0.Auto.Counts.map (Arr2.dc .i64))), .d (.sl false 4 (x0.Auto.States.map c_api_State))] : List OC))))], []⟩) (fun t hm => One.step rfl (.on rfl rfl hm.s1 c_343) (OpT.loadBox (i := 2) rfl (dl rfl rfl) Try.underlying26 rfl hm.s0 hm.o0 rfl rfl)) (Ct.met_of rfl rfl) ?_
      refine DG.step (c := ⟨some 25, .int .i64 (x0.Auto.States.length : Int), [(24, .sl false 4 (x0.Auto.States.map c_api_State)), (19, .bool (decide (x2.To < (1 : Int))))], [], []⟩) (fun t hm => One.step rfl (.on rfl rfl hm.s1 c_343) (OpT.lenSlM (xs := x0.Auto.States) (f := c_api_State) rfl (dl rfl rfl) Try.underlying26 hm.s0 rfl)) (Ct.met_of rfl rfl) ?_
      refine DG.step (c := ⟨some 26, .bool (decide (x2.To ≥ (x0.Auto.States.length : Int))), [(21, .int .i64 x2.To), (25, .int .i64 (x0.Auto.States.length : Int)), (19, .bool (decide (x2.To < (1 : Int))))], [], []⟩) (fun t hm => One.step rfl (.on rfl rfl hm.s2 c_343) (OpT.int2 rfl rfl (dl rfl rfl) hm.s0 hm.s1 rfl)) (Ct.met_of rfl rfl) ?_
      refine DG.step (c := ⟨some 27, .bool (decide (x2.To ≥ (x0.Auto.States.length : Int))), [(19, .bool (decide (x2.To < (1 : Int)))), (26, .bool (decide (x2.To ≥ (x0.Auto.States.length : Int))))], [], []⟩) (fun t hm => One.step rfl (.free rfl) (OpT.pickF rfl (dl rfl rfl) hm.s0 c_343 hm.s1 rfl)) (Ct.met_of rfl rfl) ?_
      refine DG.mv rfl rfl rfl rfl rfl rfl ?_
      rcases bif_some h with ⟨c_344, h⟩ | ⟨c_344, h⟩
      · refine DG.off c_344 rfl rfl rfl rfl rfl rfl ?_
        refine DG.off c_344 rfl rfl rfl rfl rfl rfl ?_
        refine DG.off c_344 rfl rfl rfl rfl rfl rfl ?_
        refine DG.off c_344 rfl rfl rfl rfl rfl rfl ?_
        refine DG.off c_344 rfl rfl rfl rfl rfl rfl ?_
        refine DG.off c_344 rfl rfl rfl rfl rfl rfl ?_
        refine DG.off c_344 rfl rfl rfl rfl rfl rfl ?_
        refine DG.off c_344 rfl rfl rfl rfl rfl rfl ?_
        refine DG.off c_344 rfl rfl rfl rfl rfl rfl ?_
        refine DG.off c_344 rfl rfl rfl rfl rfl rfl ?_
        refine DG.off c_344 rfl rfl rfl rfl rfl rfl ?_
        refine DG.off c_344 rfl rfl rfl rfl rfl rfl ?_
        refine DG.off c_344 rfl rfl rfl rfl rfl rfl ?_
        refine DG.step (c := ⟨some 42, .bool true, [(28, .bool (decide (x2.To ≥ (x0.Auto.States.length : Int))))], [], []⟩) (fun t hm => One.step rfl (.free rfl) (OpT.pickT rfl (dl rfl rfl) hm.s0 c_344 rfl rfl)) (Ct.met_of rfl rfl) ?_
        refine DG.fin (s1 := ⟨[(3, .ptr b_334 0), (4, .ptr b_335 0), (5, .ptr b_336 0), (42, .bool true)], [.box b_336 63 [.d (.int .i64 x2.To), .d (.sl false 1 (x2.Ops.map (cI .u8)))], .box b_335 59 [.d (.sl false 1 (x1.L.map (cI .i64))), .d (.sl false 1 (x1.R.map (cI .i64))), .d (.sl false 1 (x1.Rule.map (cI .i64))), .d (.sl false 1 (x1.Next.map (cL 2 c_api_Move)))], .box b_334 91 ((ArrN.oc 256 .u8 x0.Auto.Split.Of) ++ (([.d (.int .i64 x0.Auto.Split.Many), .d (.sl false 2 (x0.Auto.Counts.map (Arr2.dc .i64))), .d (.sl false 4 (x0.Auto.States.map c_api_State))] : List OC)))]⟩) (ms := [0, 1, 3, 7, 15, 31, 15, 79, 207, 463, 1023, 2047, 4095, 8191, 16383, 32767, 8191, 73727, 204799, 8191, 532479, 2039807, 4136959, 8331263, 16719871, 33554431, 67108863]) TryMixed rfl (by kernel_rfl) (by kernel_rfl) (by kernel_rfl) (.cons rfl (.cons rfl (.cons rfl (.cons rfl (.nil _))))) rfl (fun u hu => (thenS_normal (T.by_turn hu ?_)))
        refine T.condT rfl rfl ?_
        refine T.by_turn ?_ (auto_checker_move_j0_T K h)
        exact Turn.rp (.nil _) (.n _)
      · refine DG.step (c := ⟨some 29, .ptr b_336 (0 + 1), [(5, .ptr b_336 0), (28, .bool (decide (x2.To ≥ (x0.Auto.States.length : Int))))], [], []⟩) (fun t hm => One.step rfl (.on rfl rfl hm.s1 c_344) (OpT.fieldPtr rfl (dl rfl rfl) Try.underlying63 rfl i29 (by decide) hm.s0 rfl)) (Ct.met_of rfl rfl) ?_
        refine DG.step (c := ⟨some 30, .sl false 1 (x2.Ops.map (cI .u8)), [(29, .ptr b_336 (0 + 1)), (28, .bool (decide (x2.To ≥ (x0.Auto.States.length : Int))))], [(0, .box b_336 63 [.d (.int .i64 x2.To), .d (.sl false 1 (x2.Ops.map (cI .u8)))])], []⟩) (fun t hm => One.step rfl (.on rfl rfl hm.s1 c_344) (OpT.loadBox (i := 0) rfl (dl rfl rfl) Try.underlying29 rfl hm.s0 hm.o0 rfl rfl)) (Ct.met_of rfl rfl) ?_
        refine DG.step (c := ⟨some 31, .int .i64 (x2.Ops.length : Int), [(30, .sl false 1 (x2.Ops.map (cI .u8))), (28, .bool (decide (x2.To ≥ (x0.Auto.States.length : Int))))], [], []⟩) (fun t hm => One.step rfl (.on rfl rfl hm.s1 c_344) (OpT.lenSlM (xs := x2.Ops) (f := (cI .u8)) rfl (dl rfl rfl) Try.underlying29 hm.s0 rfl)) (Ct.met_of rfl rfl) ?_
        refine DG.step (c := ⟨some 32, .ptr b_334 (0 + 0), [(3, .ptr b_334 0), (28, .bool (decide (x2.To ≥ (x0.Auto.States.length : Int))))], [], []⟩) (fun t hm => One.step rfl (.on rfl rfl hm.s1 c_344) (OpT.fieldPtr rfl (dl rfl rfl) Try.underlying91 rfl i28 (by decide) hm.s0 rfl)) (Ct.met_of rfl rfl) ?_
        refine DG.step (c := ⟨some 33, .ptr b_334 (0 + 0 + 258), [(32, .ptr b_334 (0 + 0)), (28, .bool (decide (x2.To ≥ (x0.Auto.States.length : Int))))], [], []⟩) (fun t hm => One.step rfl (.on rfl rfl hm.s1 c_344) (OpT.fieldPtr rfl (dl rfl rfl) Try.underlying28 rfl i26 (by decide) hm.s0 rfl)) (Ct.met_of rfl rfl) ?_
        refine DG.step (c := ⟨some 34, .sl false 4 (x0.Auto.States.map c_api_State), [(33, .ptr b_334 (0 + 0 + 258)), (28, .bool (decide (x2.To ≥ (x0.Auto.States.length : Int))))], [(2, .box b_334 91 ((ArrN.oc 256 .u8 x0.Auto.Split.Of) ++ (([.d (.int .i64 x0.Auto.Split.Many), .d (.sl false 2 (x0.Auto.Counts.map (Arr2.dc .i64))), .d (.sl false 4 (x0.Auto.States.map c_api_State))] : List OC))))], []⟩) (fun t hm => One.step rfl (.on rfl rfl hm.s1 c_344) (OpT.loadBox (i := 2) rfl (dl rfl rfl) Try.underlying26 rfl hm.s0 hm.o0 rfl rfl)) (Ct.met_of rfl rfl) ?_
        refine DG.step (c := ⟨some 35, .ptr b_336 (0 + 0), [(5, .ptr b_336 0), (28, .bool (decide (x2.To ≥ (x0.Auto.States.length : Int))))], [], []⟩) (fun t hm => One.step rfl (.on rfl rfl hm.s1 c_344) (OpT.fieldPtr rfl (dl rfl rfl) Try.underlying63 rfl i3 (by decide) hm.s0 rfl)) (Ct.met_of rfl rfl) ?_
        refine DG.step (c := ⟨some 36, .int .i64 x2.To, [(35, .ptr b_336 (0 + 0)), (28, .bool (decide (x2.To ≥ (x0.Auto.States.length : Int))))], [(0, .box b_336 63 [.d (.int .i64 x2.To), .d (.sl false 1 (x2.Ops.map (cI .u8)))])], []⟩) (fun t hm => One.step rfl (.on rfl rfl hm.s1 c_344) (OpT.loadBox (i := 0) rfl (dl rfl rfl) Try.underlying3 rfl hm.s0 hm.o0 rfl rfl)) (Ct.met_of rfl rfl) ?_
        obtain ⟨v_345, e_346, h⟩ := bind_some h
        refine DG.step (c := ⟨some 37, .ref [.sl false 1 (v_345.L.map (cI .i64)), .sl false 1 (v_345.R.map (cI .i64)), .sl false 1 (v_345.Rule.map (cI .i64)), .sl false 1 (v_345.Next.map (cL 2 c_api_Move))], [(34, .sl false 4 (x0.Auto.States.map c_api_State)), (36, .int .i64 x2.To), (28, .bool (decide (x2.To ≥ (x0.Auto.States.length : Int))))], [], []⟩) (fun t hm => One.step rfl (.on rfl rfl hm.s2 c_344) (OpT.indexSlM (xs := x0.Auto.States) (f := c_api_State) (v := v_345) rfl (dl rfl rfl) Try.underlying26 i59 hm.s0 hm.s1 e_346 rfl)) (Ct.met_of rfl rfl) ?_
        refine DG.step (c := ⟨some 38, .ref [.sl false 1 (v_345.R.map (cI .i64)), .sl false 1 (v_345.Rule.map (cI .i64)), .sl false 1 (v_345.Next.map (cL 2 c_api_Move))], [(37, .ref [.sl false 1 (v_345.L.map (cI .i64)), .sl false 1 (v_345.R.map (cI .i64)), .sl false 1 (v_345.Rule.map (cI .i64)), .sl false 1 (v_345.Next.map (cL 2 c_api_Move))]), (28, .bool (decide (x2.To ≥ (x0.Auto.States.length : Int))))], [], []⟩) (fun t hm => One.step rfl (.on rfl rfl hm.s1 c_344) (OpT.fieldRef rfl (dl rfl rfl) Try.underlying59 rfl i56 (by decide) hm.s0 rfl)) (Ct.met_of rfl rfl) ?_
        refine DG.step (c := ⟨some 39, .sl false 1 (v_345.R.map (cI .i64)), [(38, .ref [.sl false 1 (v_345.R.map (cI .i64)), .sl false 1 (v_345.Rule.map (cI .i64)), .sl false 1 (v_345.Next.map (cL 2 c_api_Move))]), (28, .bool (decide (x2.To ≥ (x0.Auto.States.length : Int))))], [], []⟩) (fun t hm => One.step rfl (.on rfl rfl hm.s1 c_344) (OpT.loadRef rfl (dl rfl rfl) Try.underlying56 rfl hm.s0 rfl rfl)) (Ct.met_of rfl rfl) ?_
        refine DG.step (c := ⟨some 40, .int .i64 (v_345.R.length : Int), [(39, .sl false 1 (v_345.R.map (cI .i64))), (28, .bool (decide (x2.To ≥ (x0.Auto.States.length : Int))))], [], []⟩) (fun t hm => One.step rfl (.on rfl rfl hm.s1 c_344) (OpT.lenSlM (xs := v_345.R) (f := (cI .i64)) rfl (dl rfl rfl) Try.underlying56 hm.s0 rfl)) (Ct.met_of rfl rfl) ?_
        refine DG.step (c := ⟨some 41, .bool ((x2.Ops.length : Int) != (v_345.R.length : Int)), [(31, .int .i64 (x2.Ops.length : Int)), (40, .int .i64 (v_345.R.length : Int)), (28, .bool (decide (x2.To ≥ (x0.Auto.States.length : Int))))], [], []⟩) (fun t hm => One.step rfl (.on rfl rfl hm.s2 c_344) (OpT.int2 rfl rfl (dl rfl rfl) hm.s0 hm.s1 rfl)) (Ct.met_of rfl rfl) ?_
        refine DG.step (c := ⟨some 42, .bool ((x2.Ops.length : Int) != (v_345.R.length : Int)), [(28, .bool (decide (x2.To ≥ (x0.Auto.States.length : Int)))), (41, .bool ((x2.Ops.length : Int) != (v_345.R.length : Int)))], [], []⟩) (fun t hm => One.step rfl (.free rfl) (OpT.pickF rfl (dl rfl rfl) hm.s0 c_344 hm.s1 rfl)) (Ct.met_of rfl rfl) ?_
        refine DG.fin (s1 := ⟨[(3, .ptr b_334 0), (4, .ptr b_335 0), (5, .ptr b_336 0), (42, .bool ((x2.Ops.length : Int) != (v_345.R.length : Int)))], [.box b_336 63 [.d (.int .i64 x2.To), .d (.sl false 1 (x2.Ops.map (cI .u8)))], .box b_335 59 [.d (.sl false 1 (x1.L.map (cI .i64))), .d (.sl false 1 (x1.R.map (cI .i64))), .d (.sl false 1 (x1.Rule.map (cI .i64))), .d (.sl false 1 (x1.Next.map (cL 2 c_api_Move)))], .box b_334 91 ((ArrN.oc 256 .u8 x0.Auto.Split.Of) ++ (([.d (.int .i64 x0.Auto.Split.Many), .d (.sl false 2 (x0.Auto.Counts.map (Arr2.dc .i64))), .d (.sl false 4 (x0.Auto.States.map c_api_State))] : List OC)))]⟩) (ms := [0, 1, 3, 7, 15, 31, 15, 79, 207, 463, 1023, 2047, 4095, 8191, 16383, 32767, 8191, 73727, 204799, 8191, 532479, 2039807, 4136959, 8331263, 16719871, 33554431, 67108863]) TryMixed rfl (by kernel_rfl) (by kernel_rfl) (by kernel_rfl) (.cons rfl (.cons rfl (.cons rfl (.cons rfl (.nil _))))) rfl (fun u hu => (thenS_normal (T.by_turn hu ?_)))
        rcases bif_some h with ⟨c_347, h⟩ | ⟨c_347, h⟩
        · refine T.condT rfl c_347 ?_
          refine T.by_turn ?_ (auto_checker_move_j0_T K h)
          exact Turn.rp (.nil _) (.n _)
        · refine T.condF rfl c_347 ?_
          refine T.skip (thenS_normal ?_)
          refine T.seq ?_
          refine T.seq ?_
          refine T.regionL ?_
          refine sp rfl (OpT.fieldPtr rfl (dl rfl rfl) Try.underlying63 rfl i29 (by decide) rfl ?_)
          refine sp rfl (OpT.loadBox (i := 0) rfl (dl rfl rfl) Try.underlying29 rfl rfl rfl rfl ?_)
          refine sp rfl (OpT.lenSlM (xs := x2.Ops) (f := (cI .u8)) rfl (dl rfl rfl) Try.underlying29 rfl ?_)
          refine mv rfl rfl rfl rfl rfl ?_
          refine TL'.nil (thenS_normal ?_)
          refine T.block ?_
          refine T.loop ?_
          refine TL.by_turn ?_ (auto_checker_move_l1_T K K x2 (x2.Ops.length : Int) (0 : Int) x0 x1 b_334 b_335 b_336 h)
          exact Turn.rp (.cons rfl (.cons rfl (.cons rfl (.cons rfl (.cons rfl (.cons rfl (.nil _))))))) (.c (.s (.s .z)) (.c (.s .z) (.c .z (.n _))))

abbrev auto_checker_state_1_q (bx1 : Nat) (bx2 : Nat) (x1 : auto_checker) (x2 : api_State) (r : Bool) : Exit → St → Prop := retS Try.prog Try.f66 (fun y t => ∃ γ : Nat → Value, y = (.bool r) ∧ t = [.box bx1 91 ((ArrN.oc 256 .u8 x1.Auto.Split.Of) ++ (([.d (.int .i64 x1.Auto.Split.Many), .d (.sl false 2 (x1.Auto.Counts.map (Arr2.dc .i64))), .d (.sl false 4 (x1.Auto.States.map c_api_State))] : List OC))), .box bx2 59 [.d (.sl false 1 (x2.L.map (cI .i64))), .d (.sl false 1 (x2.R.map (cI .i64))), .d (.sl false 1 (x2.Rule.map (cI .i64))), .d (.sl false 1 (x2.Next.map (cL 2 c_api_Move)))]])

theorem auto_checker_state_1_T (K : Nat) {x0 : api_Move} {x1 : auto_checker} {x2 : api_State} {bx1 : Nat} {bx2 : Nat} {r : Bool} (h : auto_checker_state_1 K x0 x1 x2 = some r) : CallG Try.prog 66 [.agg [.int .i64 x0.To, .sl false 1 (x0.Ops.map (cI .u8))], .ptr bx1 0, .ptr bx2 0] [.box bx1 91 ((ArrN.oc 256 .u8 x1.Auto.Split.Of) ++ (([.d (.int .i64 x1.Auto.Split.Many), .d (.sl false 2 (x1.Auto.Counts.map (Arr2.dc .i64))), .d (.sl false 4 (x1.Auto.States.map c_api_State))] : List OC))), .box bx2 59 [.d (.sl false 1 (x2.L.map (cI .i64))), .d (.sl false 1 (x2.R.map (cI .i64))), .d (.sl false 1 (x2.Rule.map (cI .i64))), .d (.sl false 1 (x2.Next.map (cL 2 c_api_Move)))]] (fun γ => (.bool r)) (fun γ => [.box bx1 91 ((ArrN.oc 256 .u8 x1.Auto.Split.Of) ++ (([.d (.int .i64 x1.Auto.Split.Many), .d (.sl false 2 (x1.Auto.Counts.map (Arr2.dc .i64))), .d (.sl false 4 (x1.Auto.States.map c_api_State))] : List OC))), .box bx2 59 [.d (.sl false 1 (x2.L.map (cI .i64))), .d (.sl false 1 (x2.R.map (cI .i64))), .d (.sl false 1 (x2.Rule.map (cI .i64))), .d (.sl false 1 (x2.Next.map (cL 2 c_api_Move)))]]) := by
  refine CallT.intro Try.func66 rfl (Nat.le_of_ble_eq_true rfl) ?_
  show T Try.prog 10 (Code.at [] (codeOf Try.f66)) ⟨paramSlots 0 [.agg [.int .i64 x0.To, .sl false 1 (x0.Ops.map (cI .u8))], .ptr bx1 0, .ptr bx2 0], [.box bx1 91 ((ArrN.oc 256 .u8 x1.Auto.Split.Of) ++ (([.d (.int .i64 x1.Auto.Split.Many), .d (.sl false 2 (x1.Auto.Counts.map (Arr2.dc .i64))), .d (.sl false 4 (x1.Auto.States.map c_api_State))] : List OC))), .box bx2 59 [.d (.sl false 1 (x2.L.map (cI .i64))), .d (.sl false 1 (x2.R.map (cI .i64))), .d (.sl false 1 (x2.Rule.map (cI .i64))), .d (.sl false 1 (x2.Next.map (cL 2 c_api_Move)))]]⟩ (auto_checker_state_1_q bx1 bx2 x1 x2 r)
  unfold auto_checker_state_1 at h
  refine T.seq ?_
  refine T.regionL ?_
  refine sp rfl (OpT.boxAgg rfl (dl rfl rfl) rfl (fun b_10 => ?_))
  refine asg rfl rfl rfl rfl rfl ?_
  refine TL'.nil (thenS_normal ?_)
  refine T.seq ?_
  refine T.regionL ?_
  refine sp rfl (OpT.loadBoxAgg (i := 1) (l := ((ArrN.dc 256 .u8 x1.Auto.Split.Of) ++ (([.int .i64 x1.Auto.Split.Many, .sl false 2 (x1.Auto.Counts.map (Arr2.dc .i64)), .sl false 4 (x1.Auto.States.map c_api_State)] : List DC)))) rfl (dl rfl rfl) Try.underlying91 rfl i91 rfl rfl rfl rfl ?_)
  refine sp rfl (OpT.loadBoxAgg (i := 2) (l := [.sl false 1 (x2.L.map (cI .i64)), .sl false 1 (x2.R.map (cI .i64)), .sl false 1 (x2.Rule.map (cI .i64)), .sl false 1 (x2.Next.map (cL 2 c_api_Move))]) rfl (dl rfl rfl) Try.underlying59 rfl i59 rfl rfl rfl rfl ?_)
  refine sp rfl (OpT.loadBoxAgg (i := 0) (l := [.int .i64 x0.To, .sl false 1 (x0.Ops.map (cI .u8))]) rfl (dl rfl rfl) Try.underlying63 rfl i63 rfl rfl rfl rfl ?_)
  obtain ⟨v_11, e_12, h⟩ := bind_some h
  refine sp rfl (OpT.callPA rfl (dl rfl rfl) Try.func67 rfl rfl (Args.cons rfl (Args.cons rfl (Args.cons rfl Args.nil))) (CallR.nil (auto_checker_move_T K e_12)) ?_)
  refine sp rfl (OpT.not rfl (dl rfl rfl) rfl ?_)
  refine asg rfl rfl rfl rfl rfl ?_
  refine TL'.nil (thenS_normal ?_)
  refine T.ret ?_
  exact Fin.doneK (.cons _ _ _ _ (.tmp 4 _ rfl) .nil) (.cons 1 rfl (.cons 1 rfl (.nil _))) (by cases h; exact ⟨gl [], rfl, rfl⟩)

abbrev slices_IndexFunc_Move_q (bx1c0 : Nat) (bx1c1 : Nat) (x1c0 : auto_checker) (x1c1 : api_State) (r : Int) : Exit → St → Prop := retS Try.prog Try.f85 (fun y t => ∃ γ : Nat → Value, y = (.int .i64 r) ∧ t = [.box bx1c0 91 ((ArrN.oc 256 .u8 x1c0.Auto.Split.Of) ++ (([.d (.int .i64 x1c0.Auto.Split.Many), .d (.sl false 2 (x1c0.Auto.Counts.map (Arr2.dc .i64))), .d (.sl false 4 (x1c0.Auto.States.map c_api_State))] : List OC))), .box bx1c1 59 [.d (.sl false 1 (x1c1.L.map (cI .i64))), .d (.sl false 1 (x1c1.R.map (cI .i64))), .d (.sl false 1 (x1c1.Rule.map (cI .i64))), .d (.sl false 1 (x1c1.Next.map (cL 2 c_api_Move)))]])

abbrev slices_IndexFunc_Move_qs11 (bx1c0 : Nat) (bx1c1 : Nat) (x1c0 : auto_checker) (x1c1 : api_State) (r : Int) : Exit → St → Prop := thenS (fun s' => T Try.prog 19 (Code.at [1, 1] (codeOf Try.f85)) s' ((slices_IndexFunc_Move_q bx1c0 bx1c1 x1c0 x1c1 r))) ((slices_IndexFunc_Move_q bx1c0 bx1c1 x1c0 x1c1 r))

abbrev slices_IndexFunc_Move_qb0x11 (bx1c0 : Nat) (bx1c1 : Nat) (x1c0 : auto_checker) (x1c1 : api_State) (r : Int) : Exit → St → Prop := inBlockS 0 ((slices_IndexFunc_Move_qs11 bx1c0 bx1c1 x1c0 x1c1 r))

theorem slices_IndexFunc_Move_l0_T {r : Int} (K : Nat) (bx1c0 : Nat) (bx1c1 : Nat) (x1c0 : auto_checker) (x1c1 : api_State) : ∀ (k : Nat), ∀ (x0 : List api_Move) (x7_0_9 : Int) (x8_0_10 : Int) (x1c0 : auto_checker) (x1c1 : api_State) (flx0 : Bool), slices_IndexFunc_Move_l0 K k x0 x7_0_9 x8_0_10 x1c0 x1c1 = some r → TL Try.prog 19 (Code.at [1, 0, 1, 0, 0] (codeOf Try.f85)) ⟨[(0, .sl flx0 2 (x0.map c_api_Move)), (1, .c (.ex (.func (.func 66) #[] #[.pointer (some ⟨bx1c0, 0, none⟩), .pointer (some ⟨bx1c1, 0, none⟩)]))), (7, .int .i64 x7_0_9), (8, .int .i64 x8_0_10)], [.box bx1c0 91 ((ArrN.oc 256 .u8 x1c0.Auto.Split.Of) ++ (([.d (.int .i64 x1c0.Auto.Split.Many), .d (.sl false 2 (x1c0.Auto.Counts.map (Arr2.dc .i64))), .d (.sl false 4 (x1c0.Auto.States.map c_api_State))] : List OC))), .box bx1c1 59 [.d (.sl false 1 (x1c1.L.map (cI .i64))), .d (.sl false 1 (x1c1.R.map (cI .i64))), .d (.sl false 1 (x1c1.Rule.map (cI .i64))), .d (.sl false 1 (x1c1.Next.map (cL 2 c_api_Move)))]]⟩ (slices_IndexFunc_Move_qb0x11 bx1c0 bx1c1 x1c0 x1c1 r) := by
  intro k
  induction k with
  | zero =>
    intro x0 x7_0_9 x8_0_10 x1c0 x1c1 flx0 h
    cases (show (none : Option Int) = some r from h)
  | succ k ih =>
    intro x0 x7_0_9 x8_0_10 x1c0 x1c1 flx0 h
    rw [slices_IndexFunc_Move_l0] at h
    refine TL.round ?_
    refine T.seq ?_
    refine T.regionL ?_
    refine sp rfl (OpT.int2 rfl rfl (dl rfl rfl) rfl rfl ?_)
    refine TL'.nil (thenS_normal ?_)
    refine T.seq ?_
    rcases bif_some h with ⟨c_64, h⟩ | ⟨c_64, h⟩
    · refine T.condT rfl c_64 ?_
      refine T.skip (thenS_normal ?_)
      refine T.seq ?_
      refine T.block ?_
      refine T.seq ?_
      refine T.regionL ?_
      refine mv rfl rfl rfl rfl rfl ?_
      refine asg rfl rfl rfl rfl rfl ?_
      refine TL'.nil (thenS_normal ?_)
      refine T.seq ?_
      refine T.regionL ?_
      refine mv rfl rfl rfl rfl rfl ?_
      refine mv rfl rfl rfl rfl rfl ?_
      refine mv rfl rfl rfl rfl rfl ?_
      obtain ⟨v_65, e_66, h⟩ := bind_some h
      refine sp rfl (OpT.indexSlM (xs := x0) (f := c_api_Move) (v := v_65) rfl (dl rfl rfl) Try.underlying61 i63 rfl rfl e_66 ?_)
      refine sp rfl (OpT.loadRefAgg rfl (dl rfl rfl) Try.underlying63 rfl i63 rfl (Nat.le_of_ble_eq_true rfl) ?_)
      obtain ⟨v_67, e_68, h⟩ := bind_some h
      refine sp rfl (OpT.viaC (f := 66) (vs := [.pointer (some ⟨bx1c0, 0, none⟩), .pointer (some ⟨bx1c1, 0, none⟩)]) rfl rfl (dl rfl rfl) Try.func66 rfl rfl (OpT.callG (is := [0, 1]) (ph := []) rfl (dl rfl rfl) Try.func66 rfl rfl (Args.cons rfl (Args.cons rfl (Args.cons rfl Args.nil))) (auto_checker_state_1_T K (bx1 := bx1c0) (bx2 := bx1c1) e_68) (.cons rfl rfl (.cons rfl rfl (.nil))) (fun _ => rfl) (fun γ_69 => ?_)))
      refine nm (.c (.c (.n))) ?_
      refine TL'.nil (thenS_normal ?_)
      rcases bif_some h with ⟨c_70, h⟩ | ⟨c_70, h⟩
      · refine T.condT rfl c_70 ?_
        refine T.seq ?_
        refine T.regionL ?_
        refine mv rfl rfl rfl rfl rfl ?_
        refine asg rfl rfl rfl rfl rfl ?_
        refine TL'.nil (thenS_normal ?_)
        refine T.ret (inBlock_ret (thenS_ret (thenS_ret (inBlock_ret (thenS_ret ?_)))))
        exact Fin.doneK (.cons _ _ _ _ (.tmp 4 _ rfl) .nil) (.cons 0 rfl (.cons 0 rfl (.nil _))) (by cases h; exact ⟨gl [], rfl, rfl⟩)
      · refine T.condF rfl c_70 ?_
        refine T.skip (inBlock_normal (thenS_normal ?_))
        refine T.regionL ?_
        refine sp rfl (OpT.int2 rfl rfl (dl rfl rfl) rfl rfl ?_)
        refine mv rfl rfl rfl rfl rfl ?_
        refine TL'.nil (thenS_normal ?_)
        refine TL.by_turn ?_ (ih x0 x7_0_9 (IntKind.i64.wrap (x8_0_10 + (1 : Int))) x1c0 x1c1 flx0 h)
        exact Turn.rp (.cons rfl (.cons rfl (.cons rfl (.cons rfl (.nil _))))) (.c .z (.c .z (.n _)))
    · refine T.condF rfl c_64 ?_
      refine T.exit (thenS_exit (thenS_exit (inBlock_exit (thenS_normal ?_))))
      refine T.seq ?_
      refine T.regionL ?_
      refine asg rfl rfl rfl rfl rfl ?_
      refine TL'.nil (thenS_normal ?_)
      refine T.ret ?_
      exact Fin.doneK (.cons _ _ _ _ (.tmp 4 _ rfl) .nil) (.cons 0 rfl (.cons 0 rfl (.nil _))) (by cases h; exact ⟨gl [], rfl, rfl⟩)

theorem slices_IndexFunc_Move_T (K : Nat) {x0 : List api_Move} {x1c0 : auto_checker} {x1c1 : api_State} {flx0 : Bool} {bx1c0 : Nat} {bx1c1 : Nat} {r : Int} (h : slices_IndexFunc_Move K x0 x1c0 x1c1 = some r) : CallG Try.prog 85 [.sl flx0 2 (x0.map c_api_Move), .c (.ex (.func (.func 66) #[] #[.pointer (some ⟨bx1c0, 0, none⟩), .pointer (some ⟨bx1c1, 0, none⟩)]))] [.box bx1c0 91 ((ArrN.oc 256 .u8 x1c0.Auto.Split.Of) ++ (([.d (.int .i64 x1c0.Auto.Split.Many), .d (.sl false 2 (x1c0.Auto.Counts.map (Arr2.dc .i64))), .d (.sl false 4 (x1c0.Auto.States.map c_api_State))] : List OC))), .box bx1c1 59 [.d (.sl false 1 (x1c1.L.map (cI .i64))), .d (.sl false 1 (x1c1.R.map (cI .i64))), .d (.sl false 1 (x1c1.Rule.map (cI .i64))), .d (.sl false 1 (x1c1.Next.map (cL 2 c_api_Move)))]] (fun γ => (.int .i64 r)) (fun γ => [.box bx1c0 91 ((ArrN.oc 256 .u8 x1c0.Auto.Split.Of) ++ (([.d (.int .i64 x1c0.Auto.Split.Many), .d (.sl false 2 (x1c0.Auto.Counts.map (Arr2.dc .i64))), .d (.sl false 4 (x1c0.Auto.States.map c_api_State))] : List OC))), .box bx1c1 59 [.d (.sl false 1 (x1c1.L.map (cI .i64))), .d (.sl false 1 (x1c1.R.map (cI .i64))), .d (.sl false 1 (x1c1.Rule.map (cI .i64))), .d (.sl false 1 (x1c1.Next.map (cL 2 c_api_Move)))]]) := by
  refine CallT.intro Try.func85 rfl (Nat.le_of_ble_eq_true rfl) ?_
  show T Try.prog 19 (Code.at [] (codeOf Try.f85)) ⟨paramSlots 0 [.sl flx0 2 (x0.map c_api_Move), .c (.ex (.func (.func 66) #[] #[.pointer (some ⟨bx1c0, 0, none⟩), .pointer (some ⟨bx1c1, 0, none⟩)]))], [.box bx1c0 91 ((ArrN.oc 256 .u8 x1c0.Auto.Split.Of) ++ (([.d (.int .i64 x1c0.Auto.Split.Many), .d (.sl false 2 (x1c0.Auto.Counts.map (Arr2.dc .i64))), .d (.sl false 4 (x1c0.Auto.States.map c_api_State))] : List OC))), .box bx1c1 59 [.d (.sl false 1 (x1c1.L.map (cI .i64))), .d (.sl false 1 (x1c1.R.map (cI .i64))), .d (.sl false 1 (x1c1.Rule.map (cI .i64))), .d (.sl false 1 (x1c1.Next.map (cL 2 c_api_Move)))]]⟩ (slices_IndexFunc_Move_q bx1c0 bx1c1 x1c0 x1c1 r)
  unfold slices_IndexFunc_Move at h
  refine T.seq ?_
  refine T.regionL ?_
  refine asg rfl rfl rfl rfl rfl ?_
  refine TL'.nil (thenS_normal ?_)
  refine T.seq ?_
  refine T.seq ?_
  refine T.regionL ?_
  refine mv rfl rfl rfl rfl rfl ?_
  refine sp rfl (OpT.lenSlM (xs := x0) (f := c_api_Move) rfl (dl rfl rfl) Try.underlying61 rfl ?_)
  refine mv rfl rfl rfl rfl rfl ?_
  refine TL'.nil (thenS_normal ?_)
  refine T.block ?_
  refine T.loop ?_
  refine TL.by_turn ?_ (slices_IndexFunc_Move_l0_T K bx1c0 bx1c1 x1c0 x1c1 K x0 (x0.length : Int) (0 : Int) x1c0 x1c1 flx0 h)
  exact Turn.rp (.cons rfl (.cons rfl (.cons rfl (.cons rfl (.nil _))))) (.c .z (.c .z (.n _)))

abbrev slices_ContainsFunc_Move_q (bx1c0 : Nat) (bx1c1 : Nat) (x1c0 : auto_checker) (x1c1 : api_State) (r : Bool) : Exit → St → Prop := retS Try.prog Try.f65 (fun y t => ∃ γ : Nat → Value, y = (.bool r) ∧ t = [.box bx1c0 91 ((ArrN.oc 256 .u8 x1c0.Auto.Split.Of) ++ (([.d (.int .i64 x1c0.Auto.Split.Many), .d (.sl false 2 (x1c0.Auto.Counts.map (Arr2.dc .i64))), .d (.sl false 4 (x1c0.Auto.States.map c_api_State))] : List OC))), .box bx1c1 59 [.d (.sl false 1 (x1c1.L.map (cI .i64))), .d (.sl false 1 (x1c1.R.map (cI .i64))), .d (.sl false 1 (x1c1.Rule.map (cI .i64))), .d (.sl false 1 (x1c1.Next.map (cL 2 c_api_Move)))]])

theorem slices_ContainsFunc_Move_T (K : Nat) {x0 : List api_Move} {x1c0 : auto_checker} {x1c1 : api_State} {flx0 : Bool} {bx1c0 : Nat} {bx1c1 : Nat} {r : Bool} (h : slices_ContainsFunc_Move K x0 x1c0 x1c1 = some r) : CallG Try.prog 65 [.sl flx0 2 (x0.map c_api_Move), .c (.ex (.func (.func 66) #[] #[.pointer (some ⟨bx1c0, 0, none⟩), .pointer (some ⟨bx1c1, 0, none⟩)]))] [.box bx1c0 91 ((ArrN.oc 256 .u8 x1c0.Auto.Split.Of) ++ (([.d (.int .i64 x1c0.Auto.Split.Many), .d (.sl false 2 (x1c0.Auto.Counts.map (Arr2.dc .i64))), .d (.sl false 4 (x1c0.Auto.States.map c_api_State))] : List OC))), .box bx1c1 59 [.d (.sl false 1 (x1c1.L.map (cI .i64))), .d (.sl false 1 (x1c1.R.map (cI .i64))), .d (.sl false 1 (x1c1.Rule.map (cI .i64))), .d (.sl false 1 (x1c1.Next.map (cL 2 c_api_Move)))]] (fun γ => (.bool r)) (fun γ => [.box bx1c0 91 ((ArrN.oc 256 .u8 x1c0.Auto.Split.Of) ++ (([.d (.int .i64 x1c0.Auto.Split.Many), .d (.sl false 2 (x1c0.Auto.Counts.map (Arr2.dc .i64))), .d (.sl false 4 (x1c0.Auto.States.map c_api_State))] : List OC))), .box bx1c1 59 [.d (.sl false 1 (x1c1.L.map (cI .i64))), .d (.sl false 1 (x1c1.R.map (cI .i64))), .d (.sl false 1 (x1c1.Rule.map (cI .i64))), .d (.sl false 1 (x1c1.Next.map (cL 2 c_api_Move)))]]) := by
  refine CallT.intro Try.func65 rfl (Nat.le_of_ble_eq_true rfl) ?_
  show T Try.prog 9 (Code.at [] (codeOf Try.f65)) ⟨paramSlots 0 [.sl flx0 2 (x0.map c_api_Move), .c (.ex (.func (.func 66) #[] #[.pointer (some ⟨bx1c0, 0, none⟩), .pointer (some ⟨bx1c1, 0, none⟩)]))], [.box bx1c0 91 ((ArrN.oc 256 .u8 x1c0.Auto.Split.Of) ++ (([.d (.int .i64 x1c0.Auto.Split.Many), .d (.sl false 2 (x1c0.Auto.Counts.map (Arr2.dc .i64))), .d (.sl false 4 (x1c0.Auto.States.map c_api_State))] : List OC))), .box bx1c1 59 [.d (.sl false 1 (x1c1.L.map (cI .i64))), .d (.sl false 1 (x1c1.R.map (cI .i64))), .d (.sl false 1 (x1c1.Rule.map (cI .i64))), .d (.sl false 1 (x1c1.Next.map (cL 2 c_api_Move)))]]⟩ (slices_ContainsFunc_Move_q bx1c0 bx1c1 x1c0 x1c1 r)
  unfold slices_ContainsFunc_Move at h
  refine T.seq ?_
  refine T.regionL ?_
  refine asg rfl rfl rfl rfl rfl ?_
  refine TL'.nil (thenS_normal ?_)
  refine T.seq ?_
  refine T.regionL ?_
  refine mv rfl rfl rfl rfl rfl ?_
  refine mv rfl rfl rfl rfl rfl ?_
  obtain ⟨v_10, e_11, h⟩ := bind_some h
  refine sp rfl (OpT.callG (is := [0, 1]) (ph := []) rfl (dl rfl rfl) Try.func85 rfl rfl (Args.cons rfl (Args.cons rfl Args.nil)) (slices_IndexFunc_Move_T K (flx0 := flx0) (bx1c0 := bx1c0) (bx1c1 := bx1c1) e_11) (.cons rfl rfl (.cons rfl rfl (.nil))) (fun _ => rfl) (fun γ_12 => ?_))
  refine nm (.c (.c (.n))) ?_
  refine sp rfl (OpT.int2 rfl rfl (dl rfl rfl) rfl rfl ?_)
  refine asg rfl rfl rfl rfl rfl ?_
  refine TL'.nil (thenS_normal ?_)
  refine T.ret ?_
  exact Fin.doneK (.cons _ _ _ _ (.tmp 4 _ rfl) .nil) (.cons 0 rfl (.cons 0 rfl (.nil _))) (by cases h; exact ⟨gl [], rfl, rfl⟩)

abbrev auto_checker_state_q (r : Bool) : Exit → St → Prop := retS Try.prog Try.f46 (fun y t => y = (.bool r) ∧ t = [])

abbrev auto_checker_state_qs111 (r : Bool) : Exit → St → Prop := thenS (fun s' => T Try.prog 79 (Code.at [1, 1, 1] (codeOf Try.f46)) s' ((auto_checker_state_q r))) ((auto_checker_state_q r))

abbrev auto_checker_state_qs1111 (r : Bool) : Exit → St → Prop := thenS (fun s' => T Try.prog 79 (Code.at [1, 1, 1, 1] (codeOf Try.f46)) s' ((auto_checker_state_q r))) ((auto_checker_state_q r))

abbrev auto_checker_state_qb0x1111 (r : Bool) : Exit → St → Prop := inBlockS 0 ((auto_checker_state_qs1111 r))

abbrev auto_checker_state_ql111010 (r : Bool) : Exit → St → Prop := thenS (fun s' => TL Try.prog 79 (Code.at [1, 1, 1, 0, 1, 0, 0] (codeOf Try.f46)) s' ((auto_checker_state_qb0x1111 r))) ((auto_checker_state_qb0x1111 r))

abbrev auto_checker_state_qs1110100111 (r : Bool) : Exit → St → Prop := thenS (fun s' => T Try.prog 79 (Code.at [1, 1, 1, 0, 1, 0, 0, 1, 1, 1] (codeOf Try.f46)) s' ((auto_checker_state_ql111010 r))) ((auto_checker_state_ql111010 r))

abbrev auto_checker_state_qb1_0x1110100111 (r : Bool) : Exit → St → Prop := inBlockS 1 ((auto_checker_state_qs1110100111 r))

abbrev auto_checker_state_qs1110100110011 (r : Bool) : Exit → St → Prop := thenS (fun s' => T Try.prog 79 (Code.at [1, 1, 1, 0, 1, 0, 0, 1, 1, 0, 0, 1, 1] (codeOf Try.f46)) s' ((auto_checker_state_qb1_0x1110100111 r))) ((auto_checker_state_qb1_0x1110100111 r))

theorem auto_checker_state_j0_T {r : Bool} (K : Nat) (h : auto_checker_state_j0 K = some r) : T Try.prog 79 (Code.at [1, 1, 0, 1, 0] (codeOf Try.f46)) ⟨[], []⟩ (auto_checker_state_qs111 r) := by
  unfold auto_checker_state_j0 at h
  refine T.seq ?_
  refine T.regionL ?_
  refine asg rfl rfl rfl rfl rfl ?_
  refine TL'.nil (thenS_normal ?_)
  refine T.ret (thenS_ret ?_)
  exact Fin.done (.cons _ _ _ _ (.tmp 4 _ rfl) .nil) (by cases h; exact ⟨rfl, rfl⟩)

theorem auto_checker_state_j2_T {r : Bool} (K : Nat) (h : auto_checker_state_j2 K = some r) : T Try.prog 79 (Code.at [1, 1, 1, 0, 1, 0, 0, 1, 1, 0, 0, 1, 0, 1, 0] (codeOf Try.f46)) ⟨[], []⟩ (auto_checker_state_qs1110100110011 r) := by
  unfold auto_checker_state_j2 at h
  refine T.seq ?_
  refine T.regionL ?_
  refine asg rfl rfl rfl rfl rfl ?_
  refine TL'.nil (thenS_normal ?_)
  refine T.ret (thenS_ret (inBlock_ret (thenS_ret (thenS_ret (inBlock_ret (thenS_ret ?_))))))
  exact Fin.done (.cons _ _ _ _ (.tmp 4 _ rfl) .nil) (by cases h; exact ⟨rfl, rfl⟩)

theorem auto_checker_state_l1_T {r : Bool} (K : Nat) : ∀ (k : Nat), ∀ (x1 : api_State) (x46_1_9 : Int) (x47_1_10 : Int) (x0 : auto_checker) (b2_1 : Nat) (b3_1 : Nat), auto_checker_state_l1 K k x1 x46_1_9 x47_1_10 x0 = some r → TL Try.prog 79 (Code.at [1, 1, 1, 0, 1, 0, 0] (codeOf Try.f46)) ⟨[(2, .ptr b2_1 0), (3, .ptr b3_1 0), (45, .sl false 1 (x1.Next.map (cL 2 c_api_Move))), (46, .int .i64 x46_1_9), (47, .int .i64 x47_1_10)], [.box b2_1 91 ((ArrN.oc 256 .u8 x0.Auto.Split.Of) ++ (([.d (.int .i64 x0.Auto.Split.Many), .d (.sl false 2 (x0.Auto.Counts.map (Arr2.dc .i64))), .d (.sl false 4 (x0.Auto.States.map c_api_State))] : List OC))), .box b3_1 59 [.d (.sl false 1 (x1.L.map (cI .i64))), .d (.sl false 1 (x1.R.map (cI .i64))), .d (.sl false 1 (x1.Rule.map (cI .i64))), .d (.sl false 1 (x1.Next.map (cL 2 c_api_Move)))]]⟩ (auto_checker_state_qb0x1111 r) := by
  intro k
  induction k with
  | zero =>
    intro x1 x46_1_9 x47_1_10 x0 b2_1 b3_1 h
    cases (show (none : Option Bool) = some r from h)
  | succ k ih =>
    intro x1 x46_1_9 x47_1_10 x0 b2_1 b3_1 h
    rw [auto_checker_state_l1] at h
    refine TL.round ?_
    refine T.seq ?_
    refine T.regionL ?_
    refine sp rfl (OpT.int2 rfl rfl (dl rfl rfl) rfl rfl ?_)
    refine TL'.nil (thenS_normal ?_)
    refine T.seq ?_
    rcases bif_some h with ⟨c_289, h⟩ | ⟨c_289, h⟩
    · refine T.condT rfl c_289 ?_
      refine T.skip (thenS_normal ?_)
      refine T.seq ?_
      refine T.block ?_
      refine T.seq ?_
      refine T.regionL ?_
      refine mv rfl rfl rfl rfl rfl ?_
      obtain ⟨v_290, e_291, h⟩ := bind_some h
      refine sp rfl (OpT.indexSlM (xs := x1.Next) (f := (cL 2 c_api_Move)) (v := v_290) rfl (dl rfl rfl) Try.underlying57 i61 rfl rfl e_291 ?_)
      refine sp rfl (OpT.loadRef rfl (dl rfl rfl) Try.underlying61 rfl rfl rfl ?_)
      refine asg rfl rfl rfl rfl rfl ?_
      refine asg rfl rfl rfl rfl rfl ?_
      refine TL'.nil (thenS_normal ?_)
      refine T.seq ?_
      refine T.seq ?_
      refine T.regionL ?_
      refine sp rfl (OpT.fieldPtr rfl (dl rfl rfl) Try.underlying59 rfl i56 (by decide) rfl ?_)
      refine sp rfl (OpT.loadBox (i := 1) rfl (dl rfl rfl) Try.underlying56 rfl rfl rfl rfl ?_)
      refine mv rfl rfl rfl rfl rfl ?_
      obtain ⟨v_292, e_293, h⟩ := bind_some h
      refine sp rfl (OpT.indexSlM (xs := x1.Rule) (f := (cI .i64)) (v := v_292) rfl (dl rfl rfl) Try.underlying56 i3 rfl rfl e_293 ?_)
      refine sp rfl (OpT.loadRef rfl (dl rfl rfl) Try.underlying3 rfl rfl rfl ?_)
      refine sp rfl (OpT.int2 rfl rfl (dl rfl rfl) rfl rfl ?_)
      refine mv rfl rfl rfl rfl rfl ?_
      rcases bif_some h with ⟨c_294, h⟩ | ⟨c_294, h⟩
      · refine TL'.passU (.off _ _ _ _ rfl rfl rfl c_294) (dl rfl rfl) ?_
        refine TL'.passU (.off _ _ _ _ rfl rfl rfl c_294) (dl rfl rfl) ?_
        refine TL'.passU (.off _ _ _ _ rfl rfl rfl c_294) (dl rfl rfl) ?_
        refine TL'.passU (.off _ _ _ _ rfl rfl rfl c_294) (dl rfl rfl) ?_
        refine TL'.passU (.off _ _ _ _ rfl rfl rfl c_294) (dl rfl rfl) ?_
        refine TL'.passU (.off _ _ _ _ rfl rfl rfl c_294) (dl rfl rfl) ?_
        refine sp rfl (OpT.pickT rfl (dl rfl rfl) rfl c_294 rfl ?_)
        refine mv rfl rfl rfl rfl rfl ?_
        refine TL'.passU (.off _ _ _ _ rfl rfl rfl rfl) (dl rfl rfl) ?_
        refine TL'.passU (.off _ _ _ _ rfl rfl rfl rfl) (dl rfl rfl) ?_
        refine TL'.passU (.off _ _ _ _ rfl rfl rfl rfl) (dl rfl rfl) ?_
        refine TL'.passU (.off _ _ _ _ rfl rfl rfl rfl) (dl rfl rfl) ?_
        refine TL'.passU (.off _ _ _ _ rfl rfl rfl rfl) (dl rfl rfl) ?_
        refine TL'.passU (.off _ _ _ _ rfl rfl rfl rfl) (dl rfl rfl) ?_
        refine TL'.passU (.off _ _ _ _ rfl rfl rfl rfl) (dl rfl rfl) ?_
        refine sp rfl (OpT.pickT rfl (dl rfl rfl) rfl rfl rfl ?_)
        refine TL'.nil (thenS_normal ?_)
        refine T.condT rfl rfl ?_
        refine T.by_turn ?_ (auto_checker_state_j2_T K h)
        exact Turn.rp (.nil _) (.n _)
      · refine TL'.step (.on rfl rfl rfl c_294) (OpT.fieldPtr rfl (dl rfl rfl) Try.underlying59 rfl i56 (by decide) rfl ?_)
        refine TL'.step (.on rfl rfl rfl c_294) (OpT.loadBox (i := 1) rfl (dl rfl rfl) Try.underlying56 rfl rfl rfl rfl ?_)
        refine TL'.step (.on rfl rfl rfl c_294) (OpT.move rfl (dl rfl rfl) rfl ?_)
        refine TL'.step (.on rfl rfl rfl c_294) (OpT.indexSlM (xs := x1.Rule) (f := (cI .i64)) (v := v_292) rfl (dl rfl rfl) Try.underlying56 i3 rfl rfl e_293 ?_)
        refine TL'.step (.on rfl rfl rfl c_294) (OpT.loadRef rfl (dl rfl rfl) Try.underlying3 rfl rfl rfl ?_)
        refine TL'.step (.on rfl rfl rfl c_294) (OpT.int2 rfl rfl (dl rfl rfl) rfl rfl ?_)
        refine sp rfl (OpT.pickF rfl (dl rfl rfl) rfl c_294 rfl ?_)
        refine mv rfl rfl rfl rfl rfl ?_
        rcases bif_some h with ⟨c_295, h⟩ | ⟨c_295, h⟩
        · refine TL'.passU (.off _ _ _ _ rfl rfl rfl c_295) (dl rfl rfl) ?_
          refine TL'.passU (.off _ _ _ _ rfl rfl rfl c_295) (dl rfl rfl) ?_
          refine TL'.passU (.off _ _ _ _ rfl rfl rfl c_295) (dl rfl rfl) ?_
          refine TL'.passU (.off _ _ _ _ rfl rfl rfl c_295) (dl rfl rfl) ?_
          refine TL'.passU (.off _ _ _ _ rfl rfl rfl c_295) (dl rfl rfl) ?_
          refine TL'.passU (.off _ _ _ _ rfl rfl rfl c_295) (dl rfl rfl) ?_
          refine TL'.passU (.off _ _ _ _ rfl rfl rfl c_295) (dl rfl rfl) ?_
          refine sp rfl (OpT.pickT rfl (dl rfl rfl) rfl c_295 rfl ?_)
          refine TL'.nil (thenS_normal ?_)
          refine T.condT rfl rfl ?_
          refine T.by_turn ?_ (auto_checker_state_j2_T K h)
          exact Turn.rp (.nil _) (.n _)
        · refine TL'.step (.on rfl rfl rfl c_295) (OpT.move rfl (dl rfl rfl) rfl ?_)
          refine TL'.step (.on rfl rfl rfl c_295) (OpT.lenSlM (xs := v_290) (f := c_api_Move) rfl (dl rfl rfl) Try.underlying61 rfl ?_)
          refine TL'.step (.on rfl rfl rfl c_295) (OpT.fieldPtr rfl (dl rfl rfl) Try.underlying91 rfl i28 (by decide) rfl ?_)
          refine TL'.step (.on rfl rfl rfl c_295) (OpT.fieldPtr rfl (dl rfl rfl) Try.underlying28 rfl i24 (by decide) rfl ?_)
          refine TL'.step (.on rfl rfl rfl c_295) (OpT.fieldPtr rfl (dl rfl rfl) Try.underlying24 rfl i3 (by decide) rfl ?_)
          refine TL'.step (.on rfl rfl rfl c_295) (OpT.loadBox (i := 0) rfl (dl rfl rfl) Try.underlying3 rfl rfl rfl rfl ?_)
          refine TL'.step (.on rfl rfl rfl c_295) (OpT.int2 rfl rfl (dl rfl rfl) rfl rfl ?_)
          refine sp rfl (OpT.pickF rfl (dl rfl rfl) rfl c_295 rfl ?_)
          refine TL'.nil (thenS_normal ?_)
          rcases bif_some h with ⟨c_296, h⟩ | ⟨c_296, h⟩
          · refine T.condT rfl c_296 ?_
            refine T.by_turn ?_ (auto_checker_state_j2_T K h)
            exact Turn.rp (.nil _) (.n _)
          · refine T.condF rfl c_296 ?_
            refine T.skip (thenS_normal ?_)
            refine T.seq ?_
            refine T.regionL ?_
            refine mv rfl rfl rfl rfl rfl ?_
            refine sp rfl (OpT.makeFunc (vs := [.pointer (some ⟨b2_1, 0, none⟩), .pointer (some ⟨b3_1, 0, none⟩)]) rfl (dl rfl rfl) rfl ?_)
            obtain ⟨v_297, e_298, h⟩ := bind_some h
            refine sp rfl (OpT.callG (is := [0, 1]) (ph := []) rfl (dl rfl rfl) Try.func65 rfl rfl (Args.cons rfl (Args.cons rfl Args.nil)) (slices_ContainsFunc_Move_T K (flx0 := false) (bx1c0 := b2_1) (bx1c1 := b3_1) e_298) (.cons rfl rfl (.cons rfl rfl (.nil))) (fun _ => rfl) (fun γ_299 => ?_))
            refine nm (.c (.c (.n))) ?_
            refine TL'.nil (thenS_normal ?_)
            rcases bif_some h with ⟨c_300, h⟩ | ⟨c_300, h⟩
            · refine T.condT rfl c_300 ?_
              refine T.seq ?_
              refine T.regionL ?_
              refine asg rfl rfl rfl rfl rfl ?_
              refine TL'.nil (thenS_normal ?_)
              refine T.ret (inBlock_ret (thenS_ret (thenS_ret (inBlock_ret (thenS_ret ?_)))))
              exact Fin.done (.cons _ _ _ _ (.tmp 4 _ rfl) .nil) (by cases h; exact ⟨rfl, rfl⟩)
            · refine T.condF rfl c_300 ?_
              refine T.skip (inBlock_normal (thenS_normal ?_))
              refine T.regionL ?_
              refine sp rfl (OpT.int2 rfl rfl (dl rfl rfl) rfl rfl ?_)
              refine mv rfl rfl rfl rfl rfl ?_
              refine TL'.nil (thenS_normal ?_)
              refine TL.by_turn ?_ (ih x1 x46_1_9 (IntKind.i64.wrap (x47_1_10 + (1 : Int))) x0 b2_1 b3_1 h)
              exact Turn.rp (.cons rfl (.cons rfl (.cons rfl (.cons rfl (.cons rfl (.nil _)))))) (.c .z (.c .z (.n _)))
    · refine T.condF rfl c_289 ?_
      refine T.exit (thenS_exit (thenS_exit (inBlock_exit (thenS_normal ?_))))
      refine T.seq ?_
      refine T.regionL ?_
      refine asg rfl rfl rfl rfl rfl ?_
      refine TL'.nil (thenS_normal ?_)
      refine T.ret ?_
      exact Fin.done (.cons _ _ _ _ (.tmp 4 _ rfl) .nil) (by cases h; exact ⟨rfl, rfl⟩)

theorem auto_checker_state_T (K : Nat) {x0 : auto_checker} {x1 : api_State} {r : Bool} (h : auto_checker_state K x0 x1 = some r) : CallR Try.prog 46 [.agg ((ArrN.dc 256 .u8 x0.Auto.Split.Of) ++ (([.int .i64 x0.Auto.Split.Many, .sl false 2 (x0.Auto.Counts.map (Arr2.dc .i64)), .sl false 4 (x0.Auto.States.map c_api_State)] : List DC))), .agg [.sl false 1 (x1.L.map (cI .i64)), .sl false 1 (x1.R.map (cI .i64)), .sl false 1 (x1.Rule.map (cI .i64)), .sl false 1 (x1.Next.map (cL 2 c_api_Move))]] [] (.bool r) := by
  refine CallT.intro Try.func46 rfl (Nat.le_of_ble_eq_true rfl) ?_
  show T Try.prog 79 (Code.at [] (codeOf Try.f46)) ⟨paramSlots 0 [.agg ((ArrN.dc 256 .u8 x0.Auto.Split.Of) ++ (([.int .i64 x0.Auto.Split.Many, .sl false 2 (x0.Auto.Counts.map (Arr2.dc .i64)), .sl false 4 (x0.Auto.States.map c_api_State)] : List DC))), .agg [.sl false 1 (x1.L.map (cI .i64)), .sl false 1 (x1.R.map (cI .i64)), .sl false 1 (x1.Rule.map (cI .i64)), .sl false 1 (x1.Next.map (cL 2 c_api_Move))]], []⟩ (auto_checker_state_q r)
  unfold auto_checker_state at h
  refine T.seq ?_
  refine T.regionL ?_
  refine sp rfl (OpT.boxAgg rfl (dl rfl rfl) rfl (fun b_276 => ?_))
  refine sp rfl (OpT.boxAgg rfl (dl rfl rfl) rfl (fun b_277 => ?_))
  refine asg rfl rfl rfl rfl rfl ?_
  refine TL'.nil (thenS_normal ?_)
  refine T.seq ?_
  refine T.regionL ?_
  refine sp rfl (OpT.fieldPtr rfl (dl rfl rfl) Try.underlying59 rfl i56 (by decide) rfl ?_)
  refine sp rfl (OpT.loadBox (i := 0) rfl (dl rfl rfl) Try.underlying56 rfl rfl rfl rfl ?_)
  refine sp rfl (OpT.lenSlM (xs := x1.R) (f := (cI .i64)) rfl (dl rfl rfl) Try.underlying56 rfl ?_)
  obtain ⟨v_278, e_279, h⟩ := bind_some h
  refine sp rfl (OpT.callPA rfl (dl rfl rfl) Try.func36 rfl rfl (Args.cons rfl Args.nil) (CallR.nil (auto_Codes_T K e_279)) ?_)
  refine asg rfl rfl rfl rfl rfl ?_
  refine TL'.nil (thenS_normal ?_)
  refine T.seq ?_
  refine T.seq ?_
  refine T.regionL ?_
  refine mv rfl rfl rfl rfl rfl ?_
  refine sp rfl (OpT.int2 rfl rfl (dl rfl rfl) rfl rfl ?_)
  refine mv rfl rfl rfl rfl rfl ?_
  rcases bif_some h with ⟨c_280, h⟩ | ⟨c_280, h⟩
  · refine TL'.passU (.off _ _ _ _ rfl rfl rfl c_280) (dl rfl rfl) ?_
    refine TL'.passU (.off _ _ _ _ rfl rfl rfl c_280) (dl rfl rfl) ?_
    refine TL'.passU (.off _ _ _ _ rfl rfl rfl c_280) (dl rfl rfl) ?_
    refine TL'.passU (.off _ _ _ _ rfl rfl rfl c_280) (dl rfl rfl) ?_
    refine TL'.passU (.off _ _ _ _ rfl rfl rfl c_280) (dl rfl rfl) ?_
    refine sp rfl (OpT.pickT rfl (dl rfl rfl) rfl c_280 rfl ?_)
    refine mv rfl rfl rfl rfl rfl ?_
    refine TL'.passU (.off _ _ _ _ rfl rfl rfl rfl) (dl rfl rfl) ?_
    refine TL'.passU (.off _ _ _ _ rfl rfl rfl rfl) (dl rfl rfl) ?_
    refine TL'.passU (.off _ _ _ _ rfl rfl rfl rfl) (dl rfl rfl) ?_
    refine TL'.passU (.off _ _ _ _ rfl rfl rfl rfl) (dl rfl rfl) ?_
    refine TL'.passU (.off _ _ _ _ rfl rfl rfl rfl) (dl rfl rfl) ?_
    refine sp rfl (OpT.pickT rfl (dl rfl rfl) rfl rfl rfl ?_)
    refine mv rfl rfl rfl rfl rfl ?_
    refine TL'.passU (.off _ _ _ _ rfl rfl rfl rfl) (dl rfl rfl) ?_
    refine TL'.passU (.off _ _ _ _ rfl rfl rfl rfl) (dl rfl rfl) ?_
    refine TL'.passU (.off _ _ _ _ rfl rfl rfl rfl) (dl rfl rfl) ?_
    refine TL'.passU (.off _ _ _ _ rfl rfl rfl rfl) (dl rfl rfl) ?_
    refine sp rfl (OpT.pickT rfl (dl rfl rfl) rfl rfl rfl ?_)
    refine mv rfl rfl rfl rfl rfl ?_
    refine TL'.passU (.off _ _ _ _ rfl rfl rfl rfl) (dl rfl rfl) ?_
    refine TL'.passU (.off _ _ _ _ rfl rfl rfl rfl) (dl rfl rfl) ?_
    refine TL'.passU (.off _ _ _ _ rfl rfl rfl rfl) (dl rfl rfl) ?_
    refine TL'.passU (.off _ _ _ _ rfl rfl rfl rfl) (dl rfl rfl) ?_
    refine TL'.passU (.off _ _ _ _ rfl rfl rfl rfl) (dl rfl rfl) ?_
    refine TL'.passU (.off _ _ _ _ rfl rfl rfl rfl) (dl rfl rfl) ?_
    refine TL'.passU (.off _ _ _ _ rfl rfl rfl rfl) (dl rfl rfl) ?_
    refine TL'.passU (.off _ _ _ _ rfl rfl rfl rfl) (dl rfl rfl) ?_
    refine sp rfl (OpT.pickT rfl (dl rfl rfl) rfl rfl rfl ?_)
    refine TL'.nil (thenS_normal ?_)
    refine T.condT rfl rfl ?_
    refine T.by_turn ?_ (auto_checker_state_j0_T K h)
    exact Turn.rp (.nil _) (.n _)
  · refine TL'.step (.on rfl rfl rfl c_280) (OpT.fieldPtr rfl (dl rfl rfl) Try.underlying59 rfl i56 (by decide) rfl ?_)
    refine TL'.step (.on rfl rfl rfl c_280) (OpT.loadBox (i := 0) rfl (dl rfl rfl) Try.underlying56 rfl rfl rfl rfl ?_)
    refine TL'.step (.on rfl rfl rfl c_280) (OpT.lenSlM (xs := x1.Rule) (f := (cI .i64)) rfl (dl rfl rfl) Try.underlying56 rfl ?_)
    refine TL'.step (.on rfl rfl rfl c_280) (OpT.move rfl (dl rfl rfl) rfl ?_)
    refine TL'.step (.on rfl rfl rfl c_280) (OpT.int2 rfl rfl (dl rfl rfl) rfl rfl ?_)
    refine sp rfl (OpT.pickF rfl (dl rfl rfl) rfl c_280 rfl ?_)
    refine mv rfl rfl rfl rfl rfl ?_
    rcases bif_some h with ⟨c_281, h⟩ | ⟨c_281, h⟩
    · refine TL'.passU (.off _ _ _ _ rfl rfl rfl c_281) (dl rfl rfl) ?_
      refine TL'.passU (.off _ _ _ _ rfl rfl rfl c_281) (dl rfl rfl) ?_
      refine TL'.passU (.off _ _ _ _ rfl rfl rfl c_281) (dl rfl rfl) ?_
      refine TL'.passU (.off _ _ _ _ rfl rfl rfl c_281) (dl rfl rfl) ?_
      refine TL'.passU (.off _ _ _ _ rfl rfl rfl c_281) (dl rfl rfl) ?_
      refine sp rfl (OpT.pickT rfl (dl rfl rfl) rfl c_281 rfl ?_)
      refine mv rfl rfl rfl rfl rfl ?_
      refine TL'.passU (.off _ _ _ _ rfl rfl rfl rfl) (dl rfl rfl) ?_
      refine TL'.passU (.off _ _ _ _ rfl rfl rfl rfl) (dl rfl rfl) ?_
      refine TL'.passU (.off _ _ _ _ rfl rfl rfl rfl) (dl rfl rfl) ?_
      refine TL'.passU (.off _ _ _ _ rfl rfl rfl rfl) (dl rfl rfl) ?_
      refine sp rfl (OpT.pickT rfl (dl rfl rfl) rfl rfl rfl ?_)
      refine mv rfl rfl rfl rfl rfl ?_
      refine TL'.passU (.off _ _ _ _ rfl rfl rfl rfl) (dl rfl rfl) ?_
      refine TL'.passU (.off _ _ _ _ rfl rfl rfl rfl) (dl rfl rfl) ?_
      refine TL'.passU (.off _ _ _ _ rfl rfl rfl rfl) (dl rfl rfl) ?_
      refine TL'.passU (.off _ _ _ _ rfl rfl rfl rfl) (dl rfl rfl) ?_
      refine TL'.passU (.off _ _ _ _ rfl rfl rfl rfl) (dl rfl rfl) ?_
      refine TL'.passU (.off _ _ _ _ rfl rfl rfl rfl) (dl rfl rfl) ?_
      refine TL'.passU (.off _ _ _ _ rfl rfl rfl rfl) (dl rfl rfl) ?_
      refine TL'.passU (.off _ _ _ _ rfl rfl rfl rfl) (dl rfl rfl) ?_
      refine sp rfl (OpT.pickT rfl (dl rfl rfl) rfl rfl rfl ?_)
      refine TL'.nil (thenS_normal ?_)
      refine T.condT rfl rfl ?_
      refine T.by_turn ?_ (auto_checker_state_j0_T K h)
      exact Turn.rp (.nil _) (.n _)
    · refine TL'.step (.on rfl rfl rfl c_281) (OpT.fieldPtr rfl (dl rfl rfl) Try.underlying59 rfl i57 (by decide) rfl ?_)
      refine TL'.step (.on rfl rfl rfl c_281) (OpT.loadBox (i := 0) rfl (dl rfl rfl) Try.underlying57 rfl rfl rfl rfl ?_)
      refine TL'.step (.on rfl rfl rfl c_281) (OpT.lenSlM (xs := x1.Next) (f := (cL 2 c_api_Move)) rfl (dl rfl rfl) Try.underlying57 rfl ?_)
      refine TL'.step (.on rfl rfl rfl c_281) (OpT.move rfl (dl rfl rfl) rfl ?_)
      refine TL'.step (.on rfl rfl rfl c_281) (OpT.int2 rfl rfl (dl rfl rfl) rfl rfl ?_)
      refine sp rfl (OpT.pickF rfl (dl rfl rfl) rfl c_281 rfl ?_)
      refine mv rfl rfl rfl rfl rfl ?_
      rcases bif_some h with ⟨c_282, h⟩ | ⟨c_282, h⟩
      · refine TL'.passU (.off _ _ _ _ rfl rfl rfl c_282) (dl rfl rfl) ?_
        refine TL'.passU (.off _ _ _ _ rfl rfl rfl c_282) (dl rfl rfl) ?_
        refine TL'.passU (.off _ _ _ _ rfl rfl rfl c_282) (dl rfl rfl) ?_
        refine TL'.passU (.off _ _ _ _ rfl rfl rfl c_282) (dl rfl rfl) ?_
        refine sp rfl (OpT.pickT rfl (dl rfl rfl) rfl c_282 rfl ?_)
        refine mv rfl rfl rfl rfl rfl ?_
        refine TL'.passU (.off _ _ _ _ rfl rfl rfl rfl) (dl rfl rfl) ?_
        refine TL'.passU (.off _ _ _ _ rfl rfl rfl rfl) (dl rfl rfl) ?_
        refine TL'.passU (.off _ _ _ _ rfl rfl rfl rfl) (dl rfl rfl) ?_
        refine TL'.passU (.off _ _ _ _ rfl rfl rfl rfl) (dl rfl rfl) ?_
        refine TL'.passU (.off _ _ _ _ rfl rfl rfl rfl) (dl rfl rfl) ?_
        refine TL'.passU (.off _ _ _ _ rfl rfl rfl rfl) (dl rfl rfl) ?_
        refine TL'.passU (.off _ _ _ _ rfl rfl rfl rfl) (dl rfl rfl) ?_
        refine TL'.passU (.off _ _ _ _ rfl rfl rfl rfl) (dl rfl rfl) ?_
        refine sp rfl (OpT.pickT rfl (dl rfl rfl) rfl rfl rfl ?_)
        refine TL'.nil (thenS_normal ?_)
        refine T.condT rfl rfl ?_
        refine T.by_turn ?_ (auto_checker_state_j0_T K h)
        exact Turn.rp (.nil _) (.n _)
      · refine TL'.step (.on rfl rfl rfl c_282) (OpT.fieldPtr rfl (dl rfl rfl) Try.underlying59 rfl i56 (by decide) rfl ?_)
        refine TL'.step (.on rfl rfl rfl c_282) (OpT.loadBox (i := 0) rfl (dl rfl rfl) Try.underlying56 rfl rfl rfl rfl ?_)
        obtain ⟨v_283, e_284, h⟩ := bind_some h
        refine TL'.step (.on rfl rfl rfl c_282) (OpT.callPA rfl (dl rfl rfl) Try.func64 rfl rfl (Args.cons rfl (Args.cons rfl Args.nil)) (CallR.nil (auto_rises_T K (flx0 := false) e_284)) ?_)
        refine TL'.step (.on rfl rfl rfl c_282) (OpT.not rfl (dl rfl rfl) rfl ?_)
        refine sp rfl (OpT.pickF rfl (dl rfl rfl) rfl c_282 rfl ?_)
        refine mv rfl rfl rfl rfl rfl ?_
        rcases bif_some h with ⟨c_285, h⟩ | ⟨c_285, h⟩
        · refine TL'.passU (.off _ _ _ _ rfl rfl rfl c_285) (dl rfl rfl) ?_
          refine TL'.passU (.off _ _ _ _ rfl rfl rfl c_285) (dl rfl rfl) ?_
          refine TL'.passU (.off _ _ _ _ rfl rfl rfl c_285) (dl rfl rfl) ?_
          refine TL'.passU (.off _ _ _ _ rfl rfl rfl c_285) (dl rfl rfl) ?_
          refine TL'.passU (.off _ _ _ _ rfl rfl rfl c_285) (dl rfl rfl) ?_
          refine TL'.passU (.off _ _ _ _ rfl rfl rfl c_285) (dl rfl rfl) ?_
          refine TL'.passU (.off _ _ _ _ rfl rfl rfl c_285) (dl rfl rfl) ?_
          refine TL'.passU (.off _ _ _ _ rfl rfl rfl c_285) (dl rfl rfl) ?_
          refine sp rfl (OpT.pickT rfl (dl rfl rfl) rfl c_285 rfl ?_)
          refine TL'.nil (thenS_normal ?_)
          refine T.condT rfl rfl ?_
          refine T.by_turn ?_ (auto_checker_state_j0_T K h)
          exact Turn.rp (.nil _) (.n _)
        · refine TL'.step (.on rfl rfl rfl c_285) (OpT.fieldPtr rfl (dl rfl rfl) Try.underlying59 rfl i56 (by decide) rfl ?_)
          refine TL'.step (.on rfl rfl rfl c_285) (OpT.loadBox (i := 0) rfl (dl rfl rfl) Try.underlying56 rfl rfl rfl rfl ?_)
          refine TL'.step (.on rfl rfl rfl c_285) (OpT.fieldPtr rfl (dl rfl rfl) Try.underlying91 rfl i28 (by decide) rfl ?_)
          refine TL'.step (.on rfl rfl rfl c_285) (OpT.fieldPtr rfl (dl rfl rfl) Try.underlying28 rfl i25 (by decide) rfl ?_)
          refine TL'.step (.on rfl rfl rfl c_285) (OpT.loadBox (i := 1) rfl (dl rfl rfl) Try.underlying25 rfl rfl rfl rfl ?_)
          refine TL'.step (.on rfl rfl rfl c_285) (OpT.lenSlM (xs := x0.Auto.Counts) (f := (Arr2.dc .i64)) rfl (dl rfl rfl) Try.underlying25 rfl ?_)
          obtain ⟨v_286, e_287, h⟩ := bind_some h
          refine TL'.step (.on rfl rfl rfl c_285) (OpT.callPA rfl (dl rfl rfl) Try.func64 rfl rfl (Args.cons rfl (Args.cons rfl Args.nil)) (CallR.nil (auto_rises_T K (flx0 := false) e_287)) ?_)
          refine TL'.step (.on rfl rfl rfl c_285) (OpT.not rfl (dl rfl rfl) rfl ?_)
          refine sp rfl (OpT.pickF rfl (dl rfl rfl) rfl c_285 rfl ?_)
          refine TL'.nil (thenS_normal ?_)
          rcases bif_some h with ⟨c_288, h⟩ | ⟨c_288, h⟩
          · refine T.condT rfl c_288 ?_
            refine T.by_turn ?_ (auto_checker_state_j0_T K h)
            exact Turn.rp (.nil _) (.n _)
          · refine T.condF rfl c_288 ?_
            refine T.skip (thenS_normal ?_)
            refine T.seq ?_
            refine T.seq ?_
            refine T.regionL ?_
            refine sp rfl (OpT.fieldPtr rfl (dl rfl rfl) Try.underlying59 rfl i57 (by decide) rfl ?_)
            refine sp rfl (OpT.loadBox (i := 0) rfl (dl rfl rfl) Try.underlying57 rfl rfl rfl rfl ?_)
            refine sp rfl (OpT.lenSlM (xs := x1.Next) (f := (cL 2 c_api_Move)) rfl (dl rfl rfl) Try.underlying57 rfl ?_)
            refine mv rfl rfl rfl rfl rfl ?_
            refine TL'.nil (thenS_normal ?_)
            refine T.block ?_
            refine T.loop ?_
            refine TL.by_turn ?_ (auto_checker_state_l1_T K K x1 (x1.Next.length : Int) (0 : Int) x0 b_276 b_277 h)
            exact Turn.rp (.cons rfl (.cons rfl (.cons rfl (.cons rfl (.cons rfl (.nil _)))))) (.c (.s .z) (.c .z (.n _)))

abbrev auto_Right_1_q (bx1 : Nat) (x1 : auto_checker) (r : Bool) : Exit → St → Prop := retS Try.prog Try.f45 (fun y t => ∃ γ : Nat → Value, y = (.bool r) ∧ t = [.box bx1 91 ((ArrN.oc 256 .u8 x1.Auto.Split.Of) ++ (([.d (.int .i64 x1.Auto.Split.Many), .d (.sl false 2 (x1.Auto.Counts.map (Arr2.dc .i64))), .d (.sl false 4 (x1.Auto.States.map c_api_State))] : List OC)))])

theorem auto_Right_1_T (K : Nat) {x0 : api_State} {x1 : auto_checker} {bx1 : Nat} {r : Bool} (h : auto_Right_1 K x0 x1 = some r) : CallG Try.prog 45 [.agg [.sl false 1 (x0.L.map (cI .i64)), .sl false 1 (x0.R.map (cI .i64)), .sl false 1 (x0.Rule.map (cI .i64)), .sl false 1 (x0.Next.map (cL 2 c_api_Move))], .ptr bx1 0] [.box bx1 91 ((ArrN.oc 256 .u8 x1.Auto.Split.Of) ++ (([.d (.int .i64 x1.Auto.Split.Many), .d (.sl false 2 (x1.Auto.Counts.map (Arr2.dc .i64))), .d (.sl false 4 (x1.Auto.States.map c_api_State))] : List OC)))] (fun γ => (.bool r)) (fun γ => [.box bx1 91 ((ArrN.oc 256 .u8 x1.Auto.Split.Of) ++ (([.d (.int .i64 x1.Auto.Split.Many), .d (.sl false 2 (x1.Auto.Counts.map (Arr2.dc .i64))), .d (.sl false 4 (x1.Auto.States.map c_api_State))] : List OC)))]) := by
  refine CallT.intro Try.func45 rfl (Nat.le_of_ble_eq_true rfl) ?_
  show T Try.prog 8 (Code.at [] (codeOf Try.f45)) ⟨paramSlots 0 [.agg [.sl false 1 (x0.L.map (cI .i64)), .sl false 1 (x0.R.map (cI .i64)), .sl false 1 (x0.Rule.map (cI .i64)), .sl false 1 (x0.Next.map (cL 2 c_api_Move))], .ptr bx1 0], [.box bx1 91 ((ArrN.oc 256 .u8 x1.Auto.Split.Of) ++ (([.d (.int .i64 x1.Auto.Split.Many), .d (.sl false 2 (x1.Auto.Counts.map (Arr2.dc .i64))), .d (.sl false 4 (x1.Auto.States.map c_api_State))] : List OC)))]⟩ (auto_Right_1_q bx1 x1 r)
  unfold auto_Right_1 at h
  refine T.seq ?_
  refine T.regionL ?_
  refine sp rfl (OpT.boxAgg rfl (dl rfl rfl) rfl (fun b_10 => ?_))
  refine asg rfl rfl rfl rfl rfl ?_
  refine TL'.nil (thenS_normal ?_)
  refine T.seq ?_
  refine T.regionL ?_
  refine sp rfl (OpT.loadBoxAgg (i := 1) (l := ((ArrN.dc 256 .u8 x1.Auto.Split.Of) ++ (([.int .i64 x1.Auto.Split.Many, .sl false 2 (x1.Auto.Counts.map (Arr2.dc .i64)), .sl false 4 (x1.Auto.States.map c_api_State)] : List DC)))) rfl (dl rfl rfl) Try.underlying91 rfl i91 rfl rfl rfl rfl ?_)
  refine sp rfl (OpT.loadBoxAgg (i := 0) (l := [.sl false 1 (x0.L.map (cI .i64)), .sl false 1 (x0.R.map (cI .i64)), .sl false 1 (x0.Rule.map (cI .i64)), .sl false 1 (x0.Next.map (cL 2 c_api_Move))]) rfl (dl rfl rfl) Try.underlying59 rfl i59 rfl rfl rfl rfl ?_)
  obtain ⟨v_11, e_12, h⟩ := bind_some h
  refine sp rfl (OpT.callPA rfl (dl rfl rfl) Try.func46 rfl rfl (Args.cons rfl (Args.cons rfl Args.nil)) (CallR.nil (auto_checker_state_T K e_12)) ?_)
  refine sp rfl (OpT.not rfl (dl rfl rfl) rfl ?_)
  refine asg rfl rfl rfl rfl rfl ?_
  refine TL'.nil (thenS_normal ?_)
  refine T.ret ?_
  exact Fin.doneK (.cons _ _ _ _ (.tmp 3 _ rfl) .nil) (.cons 1 rfl (.nil _)) (by cases h; exact ⟨gl [], rfl, rfl⟩)

abbrev slices_IndexFunc_State_q (bx1c0 : Nat) (x1c0 : auto_checker) (r : Int) : Exit → St → Prop := retS Try.prog Try.f63 (fun y t => ∃ γ : Nat → Value, y = (.int .i64 r) ∧ t = [.box bx1c0 91 ((ArrN.oc 256 .u8 x1c0.Auto.Split.Of) ++ (([.d (.int .i64 x1c0.Auto.Split.Many), .d (.sl false 2 (x1c0.Auto.Counts.map (Arr2.dc .i64))), .d (.sl false 4 (x1c0.Auto.States.map c_api_State))] : List OC)))])

abbrev slices_IndexFunc_State_qs11 (bx1c0 : Nat) (x1c0 : auto_checker) (r : Int) : Exit → St → Prop := thenS (fun s' => T Try.prog 19 (Code.at [1, 1] (codeOf Try.f63)) s' ((slices_IndexFunc_State_q bx1c0 x1c0 r))) ((slices_IndexFunc_State_q bx1c0 x1c0 r))

abbrev slices_IndexFunc_State_qb0x11 (bx1c0 : Nat) (x1c0 : auto_checker) (r : Int) : Exit → St → Prop := inBlockS 0 ((slices_IndexFunc_State_qs11 bx1c0 x1c0 r))

theorem slices_IndexFunc_State_l0_T {r : Int} (K : Nat) (bx1c0 : Nat) (x1c0 : auto_checker) : ∀ (k : Nat), ∀ (x0 : List api_State) (x7_0_5 : Int) (x8_0_6 : Int) (x1c0 : auto_checker) (flx0 : Bool), slices_IndexFunc_State_l0 K k x0 x7_0_5 x8_0_6 x1c0 = some r → TL Try.prog 19 (Code.at [1, 0, 1, 0, 0] (codeOf Try.f63)) ⟨[(0, .sl flx0 4 (x0.map c_api_State)), (1, .c (.ex (.func (.func 45) #[] #[.pointer (some ⟨bx1c0, 0, none⟩)]))), (7, .int .i64 x7_0_5), (8, .int .i64 x8_0_6)], [.box bx1c0 91 ((ArrN.oc 256 .u8 x1c0.Auto.Split.Of) ++ (([.d (.int .i64 x1c0.Auto.Split.Many), .d (.sl false 2 (x1c0.Auto.Counts.map (Arr2.dc .i64))), .d (.sl false 4 (x1c0.Auto.States.map c_api_State))] : List OC)))]⟩ (slices_IndexFunc_State_qb0x11 bx1c0 x1c0 r) := by
  intro k
  induction k with
  | zero =>
    intro x0 x7_0_5 x8_0_6 x1c0 flx0 h
    cases (show (none : Option Int) = some r from h)
  | succ k ih =>
    intro x0 x7_0_5 x8_0_6 x1c0 flx0 h
    rw [slices_IndexFunc_State_l0] at h
    refine TL.round ?_
    refine T.seq ?_
    refine T.regionL ?_
    refine sp rfl (OpT.int2 rfl rfl (dl rfl rfl) rfl rfl ?_)
    refine TL'.nil (thenS_normal ?_)
    refine T.seq ?_
    rcases bif_some h with ⟨c_64, h⟩ | ⟨c_64, h⟩
    · refine T.condT rfl c_64 ?_
      refine T.skip (thenS_normal ?_)
      refine T.seq ?_
      refine T.block ?_
      refine T.seq ?_
      refine T.regionL ?_
      refine mv rfl rfl rfl rfl rfl ?_
      refine asg rfl rfl rfl rfl rfl ?_
      refine TL'.nil (thenS_normal ?_)
      refine T.seq ?_
      refine T.regionL ?_
      refine mv rfl rfl rfl rfl rfl ?_
      refine mv rfl rfl rfl rfl rfl ?_
      refine mv rfl rfl rfl rfl rfl ?_
      obtain ⟨v_65, e_66, h⟩ := bind_some h
      refine sp rfl (OpT.indexSlM (xs := x0) (f := c_api_State) (v := v_65) rfl (dl rfl rfl) Try.underlying26 i59 rfl rfl e_66 ?_)
      refine sp rfl (OpT.loadRefAgg rfl (dl rfl rfl) Try.underlying59 rfl i59 rfl (Nat.le_of_ble_eq_true rfl) ?_)
      obtain ⟨v_67, e_68, h⟩ := bind_some h
      refine sp rfl (OpT.viaC (f := 45) (vs := [.pointer (some ⟨bx1c0, 0, none⟩)]) rfl rfl (dl rfl rfl) Try.func45 rfl rfl (OpT.callG (is := [0]) (ph := []) rfl (dl rfl rfl) Try.func45 rfl rfl (Args.cons rfl (Args.cons rfl Args.nil)) (auto_Right_1_T K (bx1 := bx1c0) e_68) (.cons rfl rfl (.nil)) (fun _ => rfl) (fun γ_69 => ?_)))
      refine nm (.c (.n)) ?_
      refine TL'.nil (thenS_normal ?_)
      rcases bif_some h with ⟨c_70, h⟩ | ⟨c_70, h⟩
      · refine T.condT rfl c_70 ?_
        refine T.seq ?_
        refine T.regionL ?_
        refine mv rfl rfl rfl rfl rfl ?_
        refine asg rfl rfl rfl rfl rfl ?_
        refine TL'.nil (thenS_normal ?_)
        refine T.ret (inBlock_ret (thenS_ret (thenS_ret (inBlock_ret (thenS_ret ?_)))))
        exact Fin.doneK (.cons _ _ _ _ (.tmp 4 _ rfl) .nil) (.cons 0 rfl (.nil _)) (by cases h; exact ⟨gl [], rfl, rfl⟩)
      · refine T.condF rfl c_70 ?_
        refine T.skip (inBlock_normal (thenS_normal ?_))
        refine T.regionL ?_
        refine sp rfl (OpT.int2 rfl rfl (dl rfl rfl) rfl rfl ?_)
        refine mv rfl rfl rfl rfl rfl ?_
        refine TL'.nil (thenS_normal ?_)
        refine TL.by_turn ?_ (ih x0 x7_0_5 (IntKind.i64.wrap (x8_0_6 + (1 : Int))) x1c0 flx0 h)
        exact Turn.rp (.cons rfl (.cons rfl (.cons rfl (.cons rfl (.nil _))))) (.c .z (.n _))
    · refine T.condF rfl c_64 ?_
      refine T.exit (thenS_exit (thenS_exit (inBlock_exit (thenS_normal ?_))))
      refine T.seq ?_
      refine T.regionL ?_
      refine asg rfl rfl rfl rfl rfl ?_
      refine TL'.nil (thenS_normal ?_)
      refine T.ret ?_
      exact Fin.doneK (.cons _ _ _ _ (.tmp 4 _ rfl) .nil) (.cons 0 rfl (.nil _)) (by cases h; exact ⟨gl [], rfl, rfl⟩)

theorem slices_IndexFunc_State_T (K : Nat) {x0 : List api_State} {x1c0 : auto_checker} {flx0 : Bool} {bx1c0 : Nat} {r : Int} (h : slices_IndexFunc_State K x0 x1c0 = some r) : CallG Try.prog 63 [.sl flx0 4 (x0.map c_api_State), .c (.ex (.func (.func 45) #[] #[.pointer (some ⟨bx1c0, 0, none⟩)]))] [.box bx1c0 91 ((ArrN.oc 256 .u8 x1c0.Auto.Split.Of) ++ (([.d (.int .i64 x1c0.Auto.Split.Many), .d (.sl false 2 (x1c0.Auto.Counts.map (Arr2.dc .i64))), .d (.sl false 4 (x1c0.Auto.States.map c_api_State))] : List OC)))] (fun γ => (.int .i64 r)) (fun γ => [.box bx1c0 91 ((ArrN.oc 256 .u8 x1c0.Auto.Split.Of) ++ (([.d (.int .i64 x1c0.Auto.Split.Many), .d (.sl false 2 (x1c0.Auto.Counts.map (Arr2.dc .i64))), .d (.sl false 4 (x1c0.Auto.States.map c_api_State))] : List OC)))]) := by
  refine CallT.intro Try.func63 rfl (Nat.le_of_ble_eq_true rfl) ?_
  show T Try.prog 19 (Code.at [] (codeOf Try.f63)) ⟨paramSlots 0 [.sl flx0 4 (x0.map c_api_State), .c (.ex (.func (.func 45) #[] #[.pointer (some ⟨bx1c0, 0, none⟩)]))], [.box bx1c0 91 ((ArrN.oc 256 .u8 x1c0.Auto.Split.Of) ++ (([.d (.int .i64 x1c0.Auto.Split.Many), .d (.sl false 2 (x1c0.Auto.Counts.map (Arr2.dc .i64))), .d (.sl false 4 (x1c0.Auto.States.map c_api_State))] : List OC)))]⟩ (slices_IndexFunc_State_q bx1c0 x1c0 r)
  unfold slices_IndexFunc_State at h
  refine T.seq ?_
  refine T.regionL ?_
  refine asg rfl rfl rfl rfl rfl ?_
  refine TL'.nil (thenS_normal ?_)
  refine T.seq ?_
  refine T.seq ?_
  refine T.regionL ?_
  refine mv rfl rfl rfl rfl rfl ?_
  refine sp rfl (OpT.lenSlM (xs := x0) (f := c_api_State) rfl (dl rfl rfl) Try.underlying26 rfl ?_)
  refine mv rfl rfl rfl rfl rfl ?_
  refine TL'.nil (thenS_normal ?_)
  refine T.block ?_
  refine T.loop ?_
  refine TL.by_turn ?_ (slices_IndexFunc_State_l0_T K bx1c0 x1c0 K x0 (x0.length : Int) (0 : Int) x1c0 flx0 h)
  exact Turn.rp (.cons rfl (.cons rfl (.cons rfl (.cons rfl (.nil _))))) (.c .z (.n _))

abbrev slices_ContainsFunc_State_q (bx1c0 : Nat) (x1c0 : auto_checker) (r : Bool) : Exit → St → Prop := retS Try.prog Try.f44 (fun y t => ∃ γ : Nat → Value, y = (.bool r) ∧ t = [.box bx1c0 91 ((ArrN.oc 256 .u8 x1c0.Auto.Split.Of) ++ (([.d (.int .i64 x1c0.Auto.Split.Many), .d (.sl false 2 (x1c0.Auto.Counts.map (Arr2.dc .i64))), .d (.sl false 4 (x1c0.Auto.States.map c_api_State))] : List OC)))])

theorem slices_ContainsFunc_State_T (K : Nat) {x0 : List api_State} {x1c0 : auto_checker} {flx0 : Bool} {bx1c0 : Nat} {r : Bool} (h : slices_ContainsFunc_State K x0 x1c0 = some r) : CallG Try.prog 44 [.sl flx0 4 (x0.map c_api_State), .c (.ex (.func (.func 45) #[] #[.pointer (some ⟨bx1c0, 0, none⟩)]))] [.box bx1c0 91 ((ArrN.oc 256 .u8 x1c0.Auto.Split.Of) ++ (([.d (.int .i64 x1c0.Auto.Split.Many), .d (.sl false 2 (x1c0.Auto.Counts.map (Arr2.dc .i64))), .d (.sl false 4 (x1c0.Auto.States.map c_api_State))] : List OC)))] (fun γ => (.bool r)) (fun γ => [.box bx1c0 91 ((ArrN.oc 256 .u8 x1c0.Auto.Split.Of) ++ (([.d (.int .i64 x1c0.Auto.Split.Many), .d (.sl false 2 (x1c0.Auto.Counts.map (Arr2.dc .i64))), .d (.sl false 4 (x1c0.Auto.States.map c_api_State))] : List OC)))]) := by
  refine CallT.intro Try.func44 rfl (Nat.le_of_ble_eq_true rfl) ?_
  show T Try.prog 9 (Code.at [] (codeOf Try.f44)) ⟨paramSlots 0 [.sl flx0 4 (x0.map c_api_State), .c (.ex (.func (.func 45) #[] #[.pointer (some ⟨bx1c0, 0, none⟩)]))], [.box bx1c0 91 ((ArrN.oc 256 .u8 x1c0.Auto.Split.Of) ++ (([.d (.int .i64 x1c0.Auto.Split.Many), .d (.sl false 2 (x1c0.Auto.Counts.map (Arr2.dc .i64))), .d (.sl false 4 (x1c0.Auto.States.map c_api_State))] : List OC)))]⟩ (slices_ContainsFunc_State_q bx1c0 x1c0 r)
  unfold slices_ContainsFunc_State at h
  refine T.seq ?_
  refine T.regionL ?_
  refine asg rfl rfl rfl rfl rfl ?_
  refine TL'.nil (thenS_normal ?_)
  refine T.seq ?_
  refine T.regionL ?_
  refine mv rfl rfl rfl rfl rfl ?_
  refine mv rfl rfl rfl rfl rfl ?_
  obtain ⟨v_10, e_11, h⟩ := bind_some h
  refine sp rfl (OpT.callG (is := [0]) (ph := []) rfl (dl rfl rfl) Try.func63 rfl rfl (Args.cons rfl (Args.cons rfl Args.nil)) (slices_IndexFunc_State_T K (flx0 := flx0) (bx1c0 := bx1c0) e_11) (.cons rfl rfl (.nil)) (fun _ => rfl) (fun γ_12 => ?_))
  refine nm (.c (.n)) ?_
  refine sp rfl (OpT.int2 rfl rfl (dl rfl rfl) rfl rfl ?_)
  refine asg rfl rfl rfl rfl rfl ?_
  refine TL'.nil (thenS_normal ?_)
  refine T.ret ?_
  exact Fin.doneK (.cons _ _ _ _ (.tmp 4 _ rfl) .nil) (.cons 0 rfl (.nil _)) (by cases h; exact ⟨gl [], rfl, rfl⟩)

abbrev auto_Right_q (r : Bool) : Exit → St → Prop := retS Try.prog Try.f20 (fun y t => y = (.bool r) ∧ t = [])

abbrev auto_Right_qs11 (r : Bool) : Exit → St → Prop := thenS (fun s' => T Try.prog 79 (Code.at [1, 1] (codeOf Try.f20)) s' ((auto_Right_q r))) ((auto_Right_q r))

abbrev auto_Right_qs111 (r : Bool) : Exit → St → Prop := thenS (fun s' => T Try.prog 79 (Code.at [1, 1, 1] (codeOf Try.f20)) s' ((auto_Right_q r))) ((auto_Right_q r))

abbrev auto_Right_qb0x111 (r : Bool) : Exit → St → Prop := inBlockS 0 ((auto_Right_qs111 r))

abbrev auto_Right_ql11010 (r : Bool) : Exit → St → Prop := thenS (fun s' => TL Try.prog 79 (Code.at [1, 1, 0, 1, 0, 0] (codeOf Try.f20)) s' ((auto_Right_qb0x111 r))) ((auto_Right_qb0x111 r))

abbrev auto_Right_qs110100111 (r : Bool) : Exit → St → Prop := thenS (fun s' => T Try.prog 79 (Code.at [1, 1, 0, 1, 0, 0, 1, 1, 1] (codeOf Try.f20)) s' ((auto_Right_ql11010 r))) ((auto_Right_ql11010 r))

abbrev auto_Right_qb1_0x110100111 (r : Bool) : Exit → St → Prop := inBlockS 1 ((auto_Right_qs110100111 r))

theorem auto_Right_j0_T {r : Bool} (K : Nat) (h : auto_Right_j0 K = some r) : T Try.prog 79 (Code.at [1, 0, 1, 0] (codeOf Try.f20)) ⟨[], []⟩ (auto_Right_qs11 r) := by
  unfold auto_Right_j0 at h
  refine T.seq ?_
  refine T.regionL ?_
  refine asg rfl rfl rfl rfl rfl ?_
  refine TL'.nil (thenS_normal ?_)
  refine T.ret (thenS_ret ?_)
  exact Fin.done (.cons _ _ _ _ (.tmp 2 _ rfl) .nil) (by cases h; exact ⟨rfl, rfl⟩)

theorem auto_Right_j2_T {r : Bool} (K : Nat) (h : auto_Right_j2 K = some r) : T Try.prog 79 (Code.at [1, 1, 0, 1, 0, 0, 1, 1, 0, 0, 1, 1, 0] (codeOf Try.f20)) ⟨[], []⟩ (auto_Right_qb1_0x110100111 r) := by
  unfold auto_Right_j2 at h
  refine T.seq ?_
  refine T.regionL ?_
  refine asg rfl rfl rfl rfl rfl ?_
  refine TL'.nil (thenS_normal ?_)
  refine T.ret (inBlock_ret (thenS_ret (thenS_ret (inBlock_ret (thenS_ret ?_)))))
  exact Fin.done (.cons _ _ _ _ (.tmp 2 _ rfl) .nil) (by cases h; exact ⟨rfl, rfl⟩)

theorem auto_Right_l1_T {r : Bool} (K : Nat) : ∀ (k : Nat), ∀ (x0 : api_Auto) (x46_1_5 : Int) (x47_1_6 : Int) (b1_1 : Nat), auto_Right_l1 K k x0 x46_1_5 x47_1_6 = some r → TL Try.prog 79 (Code.at [1, 1, 0, 1, 0, 0] (codeOf Try.f20)) ⟨[(1, .ptr b1_1 0), (45, .sl false 2 (x0.Counts.map (Arr2.dc .i64))), (46, .int .i64 x46_1_5), (47, .int .i64 x47_1_6)], [.box b1_1 28 ((ArrN.oc 256 .u8 x0.Split.Of) ++ (([.d (.int .i64 x0.Split.Many), .d (.sl false 2 (x0.Counts.map (Arr2.dc .i64))), .d (.sl false 4 (x0.States.map c_api_State))] : List OC)))]⟩ (auto_Right_qb0x111 r) := by
  intro k
  induction k with
  | zero =>
    intro x0 x46_1_5 x47_1_6 b1_1 h
    cases (show (none : Option Bool) = some r from h)
  | succ k ih =>
    intro x0 x46_1_5 x47_1_6 b1_1 h
    rw [auto_Right_l1] at h
    refine TL.round ?_
    refine T.seq ?_
    refine T.regionL ?_
    refine sp rfl (OpT.int2 rfl rfl (dl rfl rfl) rfl rfl ?_)
    refine TL'.nil (thenS_normal ?_)
    refine T.seq ?_
    rcases bif_some h with ⟨c_299, h⟩ | ⟨c_299, h⟩
    · refine T.condT rfl c_299 ?_
      refine T.skip (thenS_normal ?_)
      refine T.seq ?_
      refine T.block ?_
      refine T.seq ?_
      refine T.regionL ?_
      obtain ⟨v_300, e_301, h⟩ := bind_some h
      refine sp rfl (OpT.indexSlM (xs := x0.Counts) (f := (Arr2.dc .i64)) (v := v_300) rfl (dl rfl rfl) Try.underlying25 i42 rfl rfl e_301 ?_)
      refine sp rfl (OpT.loadRefAgg rfl (dl rfl rfl) Try.underlying42 rfl i42 rfl (Nat.le_of_ble_eq_true rfl) ?_)
      refine sp rfl (OpT.alloc' rfl (dl rfl rfl) i42 rfl (fun b_302 => ?_))
      refine sp rfl (OpT.storeAggTo (i := 0) (cells' := (Arr2.oc .i64 v_300)) rfl rfl i42 rfl rfl rfl rfl (Nat.le_of_ble_eq_true rfl) rfl ?_)
      refine TL'.nil (thenS_normal ?_)
      refine T.seq ?_
      refine T.regionL ?_
      refine sp rfl (OpT.indexPtr rfl (dl rfl rfl) Try.underlying42 i3 rfl rfl (by decide) (by decide) ?_)
      refine sp rfl (OpT.loadBox (i := 0) rfl (dl rfl rfl) Try.underlying3 rfl rfl rfl (Arr2.oc_get (k := .i64) (a := v_300) (pre := []) (post := []) (by decide) (by decide)) ?_)
      refine sp rfl (OpT.int2 rfl rfl (dl rfl rfl) rfl rfl ?_)
      refine mv rfl rfl rfl rfl rfl ?_
      rcases bif_some h with ⟨c_303, h⟩ | ⟨c_303, h⟩
      · refine TL'.passU (.off _ _ _ _ rfl rfl rfl c_303) (dl rfl rfl) ?_
        refine TL'.passU (.off _ _ _ _ rfl rfl rfl c_303) (dl rfl rfl) ?_
        refine TL'.passU (.off _ _ _ _ rfl rfl rfl c_303) (dl rfl rfl) ?_
        refine TL'.passU (.off _ _ _ _ rfl rfl rfl c_303) (dl rfl rfl) ?_
        refine TL'.passU (.off _ _ _ _ rfl rfl rfl c_303) (dl rfl rfl) ?_
        refine sp rfl (OpT.pickT rfl (dl rfl rfl) rfl c_303 rfl ?_)
        refine mv rfl rfl rfl rfl rfl ?_
        refine TL'.passU (.off _ _ _ _ rfl rfl rfl rfl) (dl rfl rfl) ?_
        refine TL'.passU (.off _ _ _ _ rfl rfl rfl rfl) (dl rfl rfl) ?_
        refine TL'.passU (.off _ _ _ _ rfl rfl rfl rfl) (dl rfl rfl) ?_
        refine sp rfl (OpT.pickT rfl (dl rfl rfl) rfl rfl rfl ?_)
        refine mv rfl rfl rfl rfl rfl ?_
        refine TL'.passU (.off _ _ _ _ rfl rfl rfl rfl) (dl rfl rfl) ?_
        refine TL'.passU (.off _ _ _ _ rfl rfl rfl rfl) (dl rfl rfl) ?_
        refine TL'.passU (.off _ _ _ _ rfl rfl rfl rfl) (dl rfl rfl) ?_
        refine sp rfl (OpT.pickT rfl (dl rfl rfl) rfl rfl rfl ?_)
        refine TL'.nil (thenS_normal ?_)
        refine T.condT rfl rfl ?_
        refine T.by_turn ?_ (auto_Right_j2_T K h)
        exact Turn.rp (.nil _) (.n _)
      · refine TL'.step (.on rfl rfl rfl c_303) (OpT.indexPtr rfl (dl rfl rfl) Try.underlying42 i3 rfl rfl (by decide) (by decide) ?_)
        refine TL'.step (.on rfl rfl rfl c_303) (OpT.loadBox (i := 0) rfl (dl rfl rfl) Try.underlying3 rfl rfl rfl (Arr2.oc_get (k := .i64) (a := v_300) (pre := []) (post := []) (by decide) (by decide)) ?_)
        refine TL'.step (.on rfl rfl rfl c_303) (OpT.indexPtr rfl (dl rfl rfl) Try.underlying42 i3 rfl rfl (by decide) (by decide) ?_)
        refine TL'.step (.on rfl rfl rfl c_303) (OpT.loadBox (i := 0) rfl (dl rfl rfl) Try.underlying3 rfl rfl rfl (Arr2.oc_get (k := .i64) (a := v_300) (pre := []) (post := []) (by decide) (by decide)) ?_)
        refine TL'.step (.on rfl rfl rfl c_303) (OpT.int2 rfl rfl (dl rfl rfl) rfl rfl ?_)
        refine sp rfl (OpT.pickF rfl (dl rfl rfl) rfl c_303 rfl ?_)
        refine mv rfl rfl rfl rfl rfl ?_
        rcases bif_some h with ⟨c_304, h⟩ | ⟨c_304, h⟩
        · refine TL'.passU (.off _ _ _ _ rfl rfl rfl c_304) (dl rfl rfl) ?_
          refine TL'.passU (.off _ _ _ _ rfl rfl rfl c_304) (dl rfl rfl) ?_
          refine TL'.passU (.off _ _ _ _ rfl rfl rfl c_304) (dl rfl rfl) ?_
          refine sp rfl (OpT.pickT rfl (dl rfl rfl) rfl c_304 rfl ?_)
          refine mv rfl rfl rfl rfl rfl ?_
          refine TL'.passU (.off _ _ _ _ rfl rfl rfl rfl) (dl rfl rfl) ?_
          refine TL'.passU (.off _ _ _ _ rfl rfl rfl rfl) (dl rfl rfl) ?_
          refine TL'.passU (.off _ _ _ _ rfl rfl rfl rfl) (dl rfl rfl) ?_
          refine sp rfl (OpT.pickT rfl (dl rfl rfl) rfl rfl rfl ?_)
          refine TL'.nil (thenS_normal ?_)
          refine T.condT rfl rfl ?_
          refine T.by_turn ?_ (auto_Right_j2_T K h)
          exact Turn.rp (.nil _) (.n _)
        · refine TL'.step (.on rfl rfl rfl c_304) (OpT.indexPtr rfl (dl rfl rfl) Try.underlying42 i3 rfl rfl (by decide) (by decide) ?_)
          refine TL'.step (.on rfl rfl rfl c_304) (OpT.loadBox (i := 0) rfl (dl rfl rfl) Try.underlying3 rfl rfl rfl (Arr2.oc_get (k := .i64) (a := v_300) (pre := []) (post := []) (by decide) (by decide)) ?_)
          refine TL'.step (.on rfl rfl rfl c_304) (OpT.int2 rfl rfl (dl rfl rfl) rfl rfl ?_)
          refine sp rfl (OpT.pickF rfl (dl rfl rfl) rfl c_304 rfl ?_)
          refine mv rfl rfl rfl rfl rfl ?_
          rcases bif_some h with ⟨c_305, h⟩ | ⟨c_305, h⟩
          · refine TL'.passU (.off _ _ _ _ rfl rfl rfl c_305) (dl rfl rfl) ?_
            refine TL'.passU (.off _ _ _ _ rfl rfl rfl c_305) (dl rfl rfl) ?_
            refine TL'.passU (.off _ _ _ _ rfl rfl rfl c_305) (dl rfl rfl) ?_
            refine sp rfl (OpT.pickT rfl (dl rfl rfl) rfl c_305 rfl ?_)
            refine TL'.nil (thenS_normal ?_)
            refine T.condT rfl rfl ?_
            refine T.by_turn ?_ (auto_Right_j2_T K h)
            exact Turn.rp (.nil _) (.n _)
          · refine TL'.step (.on rfl rfl rfl c_305) (OpT.indexPtr rfl (dl rfl rfl) Try.underlying42 i3 rfl rfl (by decide) (by decide) ?_)
            refine TL'.step (.on rfl rfl rfl c_305) (OpT.loadBox (i := 0) rfl (dl rfl rfl) Try.underlying3 rfl rfl rfl (Arr2.oc_get (k := .i64) (a := v_300) (pre := []) (post := []) (by decide) (by decide)) ?_)
            refine TL'.step (.on rfl rfl rfl c_305) (OpT.int2 rfl rfl (dl rfl rfl) rfl rfl ?_)
            refine sp rfl (OpT.pickF rfl (dl rfl rfl) rfl c_305 rfl ?_)
            refine TL'.nil (thenS_normal ?_)
            rcases bif_some h with ⟨c_306, h⟩ | ⟨c_306, h⟩
            · refine T.condT rfl c_306 ?_
              refine T.by_turn ?_ (auto_Right_j2_T K h)
              exact Turn.rp (.nil _) (.n _)
            · refine T.condF rfl c_306 ?_
              refine T.skip (inBlock_normal (thenS_normal ?_))
              refine T.regionL ?_
              refine sp rfl (OpT.int2 rfl rfl (dl rfl rfl) rfl rfl ?_)
              refine mv rfl rfl rfl rfl rfl ?_
              refine TL'.nil (thenS_normal ?_)
              refine TL.by_turn ?_ (ih x0 x46_1_5 (IntKind.i64.wrap (x47_1_6 + (1 : Int))) b1_1 h)
              exact Turn.rp (.cons rfl (.cons rfl (.cons rfl (.cons rfl (.nil _))))) (.c (.s .z) (.n _))
    · refine T.condF rfl c_299 ?_
      refine T.exit (thenS_exit (thenS_exit (inBlock_exit (thenS_normal ?_))))
      refine T.seq ?_
      refine T.regionL ?_
      refine sp rfl (OpT.loadBoxAgg (i := 0) (l := ((ArrN.dc 256 .u8 x0.Split.Of) ++ (([.int .i64 x0.Split.Many, .sl false 2 (x0.Counts.map (Arr2.dc .i64)), .sl false 4 (x0.States.map c_api_State)] : List DC)))) rfl (dl rfl rfl) Try.underlying28 rfl i28 rfl rfl rfl rfl ?_)
      refine sp rfl (OpT.build (l := ((ArrN.dc 256 .u8 x0.Split.Of) ++ (([.int .i64 x0.Split.Many, .sl false 2 (x0.Counts.map (Arr2.dc .i64)), .sl false 4 (x0.States.map c_api_State)] : List DC)))) rfl (dl rfl rfl) (built_struct (pl := [(0, 259)]) Try.underlying91 i91 rfl) (all1 rfl) rfl rfl ?_)
      refine sp rfl (OpT.alloc' rfl (dl rfl rfl) i91 rfl (fun b_307 => ?_))
      refine sp rfl (OpT.storeAggTo (i := 0) (cells' := ((ArrN.oc 256 .u8 x0.Split.Of) ++ (([.d (.int .i64 x0.Split.Many), .d (.sl false 2 (x0.Counts.map (Arr2.dc .i64))), .d (.sl false 4 (x0.States.map c_api_State))] : List OC)))) rfl rfl i91 rfl rfl rfl rfl (Nat.le_of_ble_eq_true rfl) rfl ?_)
      refine TL'.nil (thenS_normal ?_)
      refine T.seq ?_
      refine T.regionL ?_
      refine sp rfl (OpT.fieldPtr rfl (dl rfl rfl) Try.underlying28 rfl i26 (by decide) rfl ?_)
      refine sp rfl (OpT.loadBox (i := 1) rfl (dl rfl rfl) Try.underlying26 rfl rfl rfl rfl ?_)
      refine sp rfl (OpT.makeFunc (vs := [.pointer (some ⟨b_307, 0, none⟩)]) rfl (dl rfl rfl) rfl ?_)
      obtain ⟨v_308, e_309, h⟩ := bind_some h
      refine sp rfl (OpT.callG (is := [0]) (ph := []) rfl (dl rfl rfl) Try.func44 rfl rfl (Args.cons rfl (Args.cons rfl Args.nil)) (slices_ContainsFunc_State_T K (flx0 := false) (bx1c0 := b_307) e_309) (.cons rfl rfl (.nil)) (fun _ => rfl) (fun γ_310 => ?_))
      refine nm (.c (.c (.n))) ?_
      refine sp rfl (OpT.not rfl (dl rfl rfl) rfl ?_)
      refine asg rfl rfl rfl rfl rfl ?_
      refine TL'.nil (thenS_normal ?_)
      refine T.ret ?_
      exact Fin.done (.cons _ _ _ _ (.tmp 2 _ rfl) .nil) (by cases h; exact ⟨rfl, rfl⟩)

theorem auto_Right_T (K : Nat) {x0 : api_Auto} {r : Bool} (h : auto_Right K x0 = some r) : CallR Try.prog 20 [.agg ((ArrN.dc 256 .u8 x0.Split.Of) ++ (([.int .i64 x0.Split.Many, .sl false 2 (x0.Counts.map (Arr2.dc .i64)), .sl false 4 (x0.States.map c_api_State)] : List DC)))] [] (.bool r) := by
  refine CallT.intro Try.func20 rfl (Nat.le_of_ble_eq_true rfl) ?_
  show T Try.prog 79 (Code.at [] (codeOf Try.f20)) ⟨paramSlots 0 [.agg ((ArrN.dc 256 .u8 x0.Split.Of) ++ (([.int .i64 x0.Split.Many, .sl false 2 (x0.Counts.map (Arr2.dc .i64)), .sl false 4 (x0.States.map c_api_State)] : List DC)))], []⟩ (auto_Right_q r)
  unfold auto_Right at h
  refine T.seq ?_
  refine T.regionL ?_
  refine sp rfl (OpT.boxAgg rfl (dl rfl rfl) rfl (fun b_280 => ?_))
  refine asg rfl rfl rfl rfl rfl ?_
  refine TL'.nil (thenS_normal ?_)
  refine T.seq ?_
  refine T.seq ?_
  refine DG.start ?_
  refine DG.step (c := ⟨some 6, .ptr b_280 (0 + 0), [(1, .ptr b_280 0)], [], []⟩) (fun t hm => One.step rfl (.free rfl) (OpT.fieldPtr rfl (dl rfl rfl) Try.underlying28 rfl i24 (by decide) hm.s0 rfl)) (Ct.met_of rfl rfl) ?_
  refine DG.step (c := ⟨some 7, .agg ((ArrN.dc 256 .u8 x0.Split.Of) ++ (([.int .i64 x0.Split.Many] : List DC))), [(6, .ptr b_280 (0 + 0))], [(0, .box b_280 28 ((ArrN.oc 256 .u8 x0.Split.Of) ++ (([.d (.int .i64 x0.Split.Many), .d (.sl false 2 (x0.Counts.map (Arr2.dc .i64))), .d (.sl false 4 (x0.States.map c_api_State))] : List OC))))], []⟩) (fun t hm => One.step rfl (.free rfl) (OpT.loadBoxAgg (i := 0) (l := ((ArrN.dc 256 .u8 x0.Split.Of) ++ (([.int .i64 x0.Split.Many] : List DC)))) rfl (dl rfl rfl) Try.underlying24 rfl i24 hm.s0 hm.o0 rfl rfl rfl)) (Ct.met_of rfl rfl) ?_
  obtain ⟨v_290, e_291, h⟩ := bind_some h
  refine DG.step (c := ⟨some 8, .bool v_290, [(7, .agg ((ArrN.dc 256 .u8 x0.Split.Of) ++ (([.int .i64 x0.Split.Many] : List DC))))], [], []⟩) (fun t hm => One.step rfl (.free rfl) (OpT.callPA rfl (dl rfl rfl) Try.func43 rfl rfl (Args.cons hm.s0 Args.nil) (CallR.nil (split_Right_T K e_291)) rfl)) (Ct.met_of rfl rfl) ?_
  refine DG.step (c := ⟨some 9, .bool (!v_290), [(8, .bool v_290)], [], []⟩) (fun t hm => One.step rfl (.free rfl) (OpT.not rfl (dl rfl rfl) hm.s0 rfl)) (Ct.met_of rfl rfl) ?_
  refine DG.mv rfl rfl rfl rfl rfl rfl ?_
  rcases bif_some h with ⟨c_292, h⟩ | ⟨c_292, h⟩
  · refine DG.off c_292 rfl rfl rfl rfl rfl rfl ?_
    refine DG.off c_292 rfl rfl rfl rfl rfl rfl ?_
    refine DG.off c_292 rfl rfl rfl rfl rfl rfl ?_
    refine DG.off c_292 rfl rfl rfl rfl rfl rfl ?_
    refine DG.step (c := ⟨some 15, .bool true, [(10, .bool (!v_290))], [], []⟩) (fun t hm => One.step rfl (.free rfl) (OpT.pickT rfl (dl rfl rfl) hm.s0 c_292 rfl rfl)) (Ct.met_of rfl rfl) ?_
    refine DG.mv rfl rfl rfl rfl rfl rfl ?_
    refine DG.off rfl rfl rfl rfl rfl rfl rfl ?_
    refine DG.off rfl rfl rfl rfl rfl rfl rfl ?_
    refine DG.off rfl rfl rfl rfl rfl rfl rfl ?_
    refine DG.off rfl rfl rfl rfl rfl rfl rfl ?_
    refine DG.step (c := ⟨some 21, .bool true, [(16, .bool true)], [], []⟩) (fun t hm => One.step rfl (.free rfl) (OpT.pickT rfl (dl rfl rfl) hm.s0 rfl rfl rfl)) (Ct.met_of rfl rfl) ?_
    refine DG.mv rfl rfl rfl rfl rfl rfl ?_
    refine DG.off rfl rfl rfl rfl rfl rfl rfl ?_
    refine DG.off rfl rfl rfl rfl rfl rfl rfl ?_
    refine DG.off rfl rfl rfl rfl rfl rfl rfl ?_
    refine DG.off rfl rfl rfl rfl rfl rfl rfl ?_
    refine DG.step (c := ⟨some 27, .bool true, [(22, .bool true)], [], []⟩) (fun t hm => One.step rfl (.free rfl) (OpT.pickT rfl (dl rfl rfl) hm.s0 rfl rfl rfl)) (Ct.met_of rfl rfl) ?_
    refine DG.mv rfl rfl rfl rfl rfl rfl ?_
    refine DG.off rfl rfl rfl rfl rfl rfl rfl ?_
    refine DG.off rfl rfl rfl rfl rfl rfl rfl ?_
    refine DG.off rfl rfl rfl rfl rfl rfl rfl ?_
    refine DG.off rfl rfl rfl rfl rfl rfl rfl ?_
    refine DG.off rfl rfl rfl rfl rfl rfl rfl ?_
    refine DG.off rfl rfl rfl rfl rfl rfl rfl ?_
    refine DG.off rfl rfl rfl rfl rfl rfl rfl ?_
    refine DG.off rfl rfl rfl rfl rfl rfl rfl ?_
    refine DG.off rfl rfl rfl rfl rfl rfl rfl ?_
    refine DG.off rfl rfl rfl rfl rfl rfl rfl ?_
    refine DG.off rfl rfl rfl rfl rfl rfl rfl ?_
    refine DG.off rfl rfl rfl rfl rfl rfl rfl ?_
    refine DG.off rfl rfl rfl rfl rfl rfl rfl ?_
    refine DG.off rfl rfl rfl rfl rfl rfl rfl ?_
    refine DG.step (c := ⟨some 43, .bool true, [(28, .bool true)], [], []⟩) (fun t hm => One.step rfl (.free rfl) (OpT.pickT rfl (dl rfl rfl) hm.s0 rfl rfl rfl)) (Ct.met_of rfl rfl) ?_
    refine DG.fin (s1 := ⟨[(1, .ptr b_280 0), (43, .bool true)], [.box b_280 28 ((ArrN.oc 256 .u8 x0.Split.Of) ++ (([.d (.int .i64 x0.Split.Many), .d (.sl false 2 (x0.Counts.map (Arr2.dc .i64))), .d (.sl false 4 (x0.States.map c_api_State))] : List OC)))]⟩) (ms := [0, 1, 3, 7, 15, 31, 63, 127, 255, 511, 1023, 2047, 4095, 8191, 16383, 32767, 65535, 131071, 262143, 524287, 1048575, 2097151, 4194303, 8388607, 16777215, 33554431, 67108863, 134217727, 268435455, 8388607, 545259519, 1619001343, 3766484991, 8061452287, 16651386879, 34359738367, 68719476735, 137438953471]) TryMixed rfl (by kernel_rfl) (by kernel_rfl) (by kernel_rfl) (.cons rfl (.cons rfl (.nil _))) rfl (fun u hu => (thenS_normal (T.by_turn hu ?_)))
    refine T.condT rfl rfl ?_
    refine T.by_turn ?_ (auto_Right_j0_T K h)
    exact Turn.rp (.nil _) (.n _)
  · refine DG.step (c := ⟨some 11, .ptr b_280 (0 + 257), [(1, .ptr b_280 0), (10, .bool (!v_290))], [], []⟩) (fun t hm => One.step rfl (.on rfl rfl hm.s1 c_292) (OpT.fieldPtr rfl (dl rfl rfl) Try.underlying28 rfl i25 (by decide) hm.s0 rfl)) (Ct.met_of rfl rfl) ?_
    refine DG.step (c := ⟨some 12, .sl false 2 (x0.Counts.map (Arr2.dc .i64)), [(11, .ptr b_280 (0 + 257)), (10, .bool (!v_290))], [(0, .box b_280 28 ((ArrN.oc 256 .u8 x0.Split.Of) ++ (([.d (.int .i64 x0.Split.Many), .d (.sl false 2 (x0.Counts.map (Arr2.dc .i64))), .d (.sl false 4 (x0.States.map c_api_State))] : List OC))))], []⟩) (fun t hm => One.step rfl (.on rfl rfl hm.s1 c_292) (OpT.loadBox (i := 0) rfl (dl rfl rfl) Try.underlying25 rfl hm.s0 hm.o0 rfl rfl)) (Ct.met_of rfl rfl) ?_
    refine DG.step (c := ⟨some 13, .int .i64 (x0.Counts.length : Int), [(12, .sl false 2 (x0.Counts.map (Arr2.dc .i64))), (10, .bool (!v_290))], [], []⟩) (fun t hm => One.step rfl (.on rfl rfl hm.s1 c_292) (OpT.lenSlM (xs := x0.Counts) (f := (Arr2.dc .i64)) rfl (dl rfl rfl) Try.underlying25 hm.s0 rfl)) (Ct.met_of rfl rfl) ?_
    refine DG.step (c := ⟨some 14, .bool (decide ((x0.Counts.length : Int) > (512 : Int))), [(13, .int .i64 (x0.Counts.length : Int)), (10, .bool (!v_290))], [], []⟩) (fun t hm => One.step rfl (.on rfl rfl hm.s1 c_292) (OpT.int2 rfl rfl (dl rfl rfl) hm.s0 rfl rfl)) (Ct.met_of rfl rfl) ?_
    refine DG.step (c := ⟨some 15, .bool (decide ((x0.Counts.length : Int) > (512 : Int))), [(10, .bool (!v_290)), (14, .bool (decide ((x0.Counts.length : Int) > (512 : Int))))], [], []⟩) (fun t hm => One.step rfl (.free rfl) (OpT.pickF rfl (dl rfl rfl) hm.s0 c_292 hm.s1 rfl)) (Ct.met_of rfl rfl) ?_
    refine DG.mv rfl rfl rfl rfl rfl rfl ?_
    rcases bif_some h with ⟨c_293, h⟩ | ⟨c_293, h⟩
    · refine DG.off c_293 rfl rfl rfl rfl rfl rfl ?_
      refine DG.off c_293 rfl rfl rfl rfl rfl rfl ?_
      refine DG.off c_293 rfl rfl rfl rfl rfl rfl ?_
      refine DG.off c_293 rfl rfl rfl rfl rfl rfl ?_
      refine DG.step (c := ⟨some 21, .bool true, [(16, .bool (decide ((x0.Counts.length : Int) > (512 : Int))))], [], []⟩) (fun t hm => One.step rfl (.free rfl) (OpT.pickT rfl (dl rfl rfl) hm.s0 c_293 rfl rfl)) (Ct.met_of rfl rfl) ?_
      refine DG.mv rfl rfl rfl rfl rfl rfl ?_
      refine DG.off rfl rfl rfl rfl rfl rfl rfl ?_
      refine DG.off rfl rfl rfl rfl rfl rfl rfl ?_
      refine DG.off rfl rfl rfl rfl rfl rfl rfl ?_
      refine DG.off rfl rfl rfl rfl rfl rfl rfl ?_
      refine DG.step (c := ⟨some 27, .bool true, [(22, .bool true)], [], []⟩) (fun t hm => One.step rfl (.free rfl) (OpT.pickT rfl (dl rfl rfl) hm.s0 rfl rfl rfl)) (Ct.met_of rfl rfl) ?_
      refine DG.mv rfl rfl rfl rfl rfl rfl ?_
      refine DG.off rfl rfl rfl rfl rfl rfl rfl ?_
      refine DG.off rfl rfl rfl rfl rfl rfl rfl ?_
      refine DG.off rfl rfl rfl rfl rfl rfl rfl ?_
      refine DG.off rfl rfl rfl rfl rfl rfl rfl ?_
      refine DG.off rfl rfl rfl rfl rfl rfl rfl ?_
      refine DG.off rfl rfl rfl rfl rfl rfl rfl ?_
      refine DG.off rfl rfl rfl rfl rfl rfl rfl ?_
      refine DG.off rfl rfl rfl rfl rfl rfl rfl ?_
      refine DG.off rfl rfl rfl rfl rfl rfl rfl ?_
      refine DG.off rfl rfl rfl rfl rfl rfl rfl ?_
      refine DG.off rfl rfl rfl rfl rfl rfl rfl ?_
      refine DG.off rfl rfl rfl rfl rfl rfl rfl ?_
      refine DG.off rfl rfl rfl rfl rfl rfl rfl ?_
      refine DG.off rfl rfl rfl rfl rfl rfl rfl ?_
      refine DG.step (c := ⟨some 43, .bool true, [(28, .bool true)], [], []⟩) (fun t hm => One.step rfl (.free rfl) (OpT.pickT rfl (dl rfl rfl) hm.s0 rfl rfl rfl)) (Ct.met_of rfl rfl) ?_
      refine DG.fin (s1 := ⟨[(1, .ptr b_280 0), (43, .bool true)], [.box b_280 28 ((ArrN.oc 256 .u8 x0.Split.Of) ++ (([.d (.int .i64 x0.Split.Many), .d (.sl false 2 (x0.Counts.map (Arr2.dc .i64))), .d (.sl false 4 (x0.States.map c_api_State))] : List OC)))]⟩) (ms := [0, 1, 3, 7, 15, 31, 63, 127, 255, 511, 1023, 2047, 4095, 8191, 16383, 32767, 65535, 131071, 262143, 524287, 1048575, 2097151, 4194303, 8388607, 16777215, 33554431, 67108863, 134217727, 268435455, 8388607, 545259519, 1619001343, 3766484991, 8061452287, 16651386879, 34359738367, 68719476735, 137438953471]) TryMixed rfl (by kernel_rfl) (by kernel_rfl) (by kernel_rfl) (.cons rfl (.cons rfl (.nil _))) rfl (fun u hu => (thenS_normal (T.by_turn hu ?_)))
      refine T.condT rfl rfl ?_
      refine T.by_turn ?_ (auto_Right_j0_T K h)
      exact Turn.rp (.nil _) (.n _)
    · refine DG.step (c := ⟨some 17, .ptr b_280 (0 + 258), [(1, .ptr b_280 0), (16, .bool (decide ((x0.Counts.length : Int) > (512 : Int))))], [], []⟩) (fun t hm => One.step rfl (.on rfl rfl hm.s1 c_293) (OpT.fieldPtr rfl (dl rfl rfl) Try.underlying28 rfl i26 (by decide) hm.s0 rfl)) (Ct.met_of rfl rfl) ?_
      refine DG.step (c := ⟨some 18, .sl false 4 (x0.States.map c_api_State), [(17, .ptr b_280 (0 + 258)), (16, .bool (decide ((x0.Counts.length : Int) > (512 : Int))))], [(0, .box b_280 28 ((ArrN.oc 256 .u8 x0.Split.Of) ++ (([.d (.int .i64 x0.Split.Many), .d (.sl false 2 (x0.Counts.map (Arr2.dc .i64))), .d (.sl false 4 (x0.States.map c_api_State))] : List OC))))], []⟩) (fun t hm => One.step rfl (.on rfl rfl hm.s1 c_293) (OpT.loadBox (i := 0) rfl (dl rfl rfl) Try.underlying26 rfl hm.s0 hm.o0 rfl rfl)) (Ct.met_of rfl rfl) ?_
      refine DG.step (c := ⟨some 19, .int .i64 (x0.States.length : Int), [(18, .sl false 4 (x0.States.map c_api_State)), (16, .bool (decide ((x0.Counts.length : Int) > (512 : Int))))], [], []⟩) (fun t hm => One.step rfl (.on rfl rfl hm.s1 c_293) (OpT.lenSlM (xs := x0.States) (f := c_api_State) rfl (dl rfl rfl) Try.underlying26 hm.s0 rfl)) (Ct.met_of rfl rfl) ?_
      refine DG.step (c := ⟨some 20, .bool (decide ((x0.States.length : Int) < (1 : Int))), [(19, .int .i64 (x0.States.length : Int)), (16, .bool (decide ((x0.Counts.length : Int) > (512 : Int))))], [], []⟩) (fun t hm => One.step rfl (.on rfl rfl hm.s1 c_293) (OpT.int2 rfl rfl (dl rfl rfl) hm.s0 rfl rfl)) (Ct.met_of rfl rfl) ?_
      refine DG.step (c := ⟨some 21, .bool (decide ((x0.States.length : Int) < (1 : Int))), [(16, .bool (decide ((x0.Counts.length : Int) > (512 : Int)))), (20, .bool (decide ((x0.States.length : Int) < (1 : Int))))], [], []⟩) (fun t hm => One.step rfl (.free rfl) (OpT.pickF rfl (dl rfl rfl) hm.s0 c_293 hm.s1 rfl)) (Ct.met_of rfl rfl) ?_
      refine DG.mv rfl rfl rfl rfl rfl rfl ?_
      rcases bif_some h with ⟨c_294, h⟩ | ⟨c_294, h⟩
      · refine DG.off c_294 rfl rfl rfl rfl rfl rfl ?_
        refine DG.off c_294 rfl rfl rfl rfl rfl rfl ?_
        refine DG.off c_294 rfl rfl rfl rfl rfl rfl ?_
        refine DG.off c_294 rfl rfl rfl rfl rfl rfl ?_
        refine DG.step (c := ⟨some 27, .bool true, [(22, .bool (decide ((x0.States.length : Int) < (1 : Int))))], [], []⟩) (fun t hm => One.step rfl (.free rfl) (OpT.pickT rfl (dl rfl rfl) hm.s0 c_294 rfl rfl)) (Ct.met_of rfl rfl) ?_
        refine DG.mv rfl rfl rfl rfl rfl rfl ?_
        refine DG.off rfl rfl rfl rfl rfl rfl rfl ?_
        refine DG.off rfl rfl rfl rfl rfl rfl rfl ?_
        refine DG.off rfl rfl rfl rfl rfl rfl rfl ?_
        refine DG.off rfl rfl rfl rfl rfl rfl rfl ?_
        refine DG.off rfl rfl rfl rfl rfl rfl rfl ?_
        refine DG.off rfl rfl rfl rfl rfl rfl rfl ?_
        refine DG.off rfl rfl rfl rfl rfl rfl rfl ?_
        refine DG.off rfl rfl rfl rfl rfl rfl rfl ?_
        refine DG.off rfl rfl rfl rfl rfl rfl rfl ?_
        refine DG.off rfl rfl rfl rfl rfl rfl rfl ?_
        refine DG.off rfl rfl rfl rfl rfl rfl rfl ?_
        refine DG.off rfl rfl rfl rfl rfl rfl rfl ?_
        refine DG.off rfl rfl rfl rfl rfl rfl rfl ?_
        refine DG.off rfl rfl rfl rfl rfl rfl rfl ?_
        refine DG.step (c := ⟨some 43, .bool true, [(28, .bool true)], [], []⟩) (fun t hm => One.step rfl (.free rfl) (OpT.pickT rfl (dl rfl rfl) hm.s0 rfl rfl rfl)) (Ct.met_of rfl rfl) ?_
        refine DG.fin (s1 := ⟨[(1, .ptr b_280 0), (43, .bool true)], [.box b_280 28 ((ArrN.oc 256 .u8 x0.Split.Of) ++ (([.d (.int .i64 x0.Split.Many), .d (.sl false 2 (x0.Counts.map (Arr2.dc .i64))), .d (.sl false 4 (x0.States.map c_api_State))] : List OC)))]⟩) (ms := [0, 1, 3, 7, 15, 31, 63, 127, 255, 511, 1023, 2047, 4095, 8191, 16383, 32767, 65535, 131071, 262143, 524287, 1048575, 2097151, 4194303, 8388607, 16777215, 33554431, 67108863, 134217727, 268435455, 8388607, 545259519, 1619001343, 3766484991, 8061452287, 16651386879, 34359738367, 68719476735, 137438953471]) TryMixed rfl (by kernel_rfl) (by kernel_rfl) (by kernel_rfl) (.cons rfl (.cons rfl (.nil _))) rfl (fun u hu => (thenS_normal (T.by_turn hu ?_)))
        refine T.condT rfl rfl ?_
        refine T.by_turn ?_ (auto_Right_j0_T K h)
        exact Turn.rp (.nil _) (.n _)
      · refine DG.step (c := ⟨some 23, .ptr b_280 (0 + 258), [(1, .ptr b_280 0), (22, .bool (decide ((x0.States.length : Int) < (1 : Int))))], [], []⟩) (fun t hm => One.step rfl (.on rfl rfl hm.s1 c_294) (OpT.fieldPtr rfl (dl rfl rfl) Try.underlying28 rfl i26 (by decide) hm.s0 rfl)) (Ct.met_of rfl rfl) ?_
        refine DG.step (c := ⟨some 24, .sl false 4 (x0.States.map c_api_State), [(23, .ptr b_280 (0 + 258)), (22, .bool (decide ((x0.States.length : Int) < (1 : Int))))], [(0, .box b_280 28 ((ArrN.oc 256 .u8 x0.Split.Of) ++ (([.d (.int .i64 x0.Split.Many), .d (.sl false 2 (x0.Counts.map (Arr2.dc .i64))), .d (.sl false 4 (x0.States.map c_api_State))] : List OC))))], []⟩) (fun t hm => One.step rfl (.on rfl rfl hm.s1 c_294) (OpT.loadBox (i := 0) rfl (dl rfl rfl) Try.underlying26 rfl hm.s0 hm.o0 rfl rfl)) (Ct.met_of rfl rfl) ?_
        refine DG.step (c := ⟨some 25, .int .i64 (x0.States.length : Int), [(24, .sl false 4 (x0.States.map c_api_State)), (22, .bool (decide ((x0.States.length : Int) < (1 : Int))))], [], []⟩) (fun t hm => One.step rfl (.on rfl rfl hm.s1 c_294) (OpT.lenSlM (xs := x0.States) (f := c_api_State) rfl (dl rfl rfl) Try.underlying26 hm.s0 rfl)) (Ct.met_of rfl rfl) ?_
        refine DG.step (c := ⟨some 26, .bool (decide ((x0.States.length : Int) > (256 : Int))), [(25, .int .i64 (x0.States.length : Int)), (22, .bool (decide ((x0.States.length : Int) < (1 : Int))))], [], []⟩) (fun t hm => One.step rfl (.on rfl rfl hm.s1 c_294) (OpT.int2 rfl rfl (dl rfl rfl) hm.s0 rfl rfl)) (Ct.met_of rfl rfl) ?_
        refine DG.step (c := ⟨some 27, .bool (decide ((x0.States.length : Int) > (256 : Int))), [(22, .bool (decide ((x0.States.length : Int) < (1 : Int)))), (26, .bool (decide ((x0.States.length : Int) > (256 : Int))))], [], []⟩) (fun t hm => One.step rfl (.free rfl) (OpT.pickF rfl (dl rfl rfl) hm.s0 c_294 hm.s1 rfl)) (Ct.met_of rfl rfl) ?_
        refine DG.mv rfl rfl rfl rfl rfl rfl ?_
        rcases bif_some h with ⟨c_295, h⟩ | ⟨c_295, h⟩
        · refine DG.off c_295 rfl rfl rfl rfl rfl rfl ?_
          refine DG.off c_295 rfl rfl rfl rfl rfl rfl ?_
          refine DG.off c_295 rfl rfl rfl rfl rfl rfl ?_
          refine DG.off c_295 rfl rfl rfl rfl rfl rfl ?_
          refine DG.off c_295 rfl rfl rfl rfl rfl rfl ?_
          refine DG.off c_295 rfl rfl rfl rfl rfl rfl ?_
          refine DG.off c_295 rfl rfl rfl rfl rfl rfl ?_
          refine DG.off c_295 rfl rfl rfl rfl rfl rfl ?_
          refine DG.off c_295 rfl rfl rfl rfl rfl rfl ?_
          refine DG.off c_295 rfl rfl rfl rfl rfl rfl ?_
          refine DG.off c_295 rfl rfl rfl rfl rfl rfl ?_
          refine DG.off c_295 rfl rfl rfl rfl rfl rfl ?_
          refine DG.off c_295 rfl rfl rfl rfl rfl rfl ?_
          refine DG.off c_295 rfl rfl rfl rfl rfl rfl ?_
          refine DG.step (c := ⟨some 43, .bool true, [(28, .bool (decide ((x0.States.length : Int) > (256 : Int))))], [], []⟩) (fun t hm => One.step rfl (.free rfl) (OpT.pickT rfl (dl rfl rfl) hm.s0 c_295 rfl rfl)) (Ct.met_of rfl rfl) ?_
          refine DG.fin (s1 := ⟨[(1, .ptr b_280 0), (43, .bool true)], [.box b_280 28 ((ArrN.oc 256 .u8 x0.Split.Of) ++ (([.d (.int .i64 x0.Split.Many), .d (.sl false 2 (x0.Counts.map (Arr2.dc .i64))), .d (.sl false 4 (x0.States.map c_api_State))] : List OC)))]⟩) (ms := [0, 1, 3, 7, 15, 31, 63, 127, 255, 511, 1023, 2047, 4095, 8191, 16383, 32767, 65535, 131071, 262143, 524287, 1048575, 2097151, 4194303, 8388607, 16777215, 33554431, 67108863, 134217727, 268435455, 8388607, 545259519, 1619001343, 3766484991, 8061452287, 16651386879, 34359738367, 68719476735, 137438953471]) TryMixed rfl (by kernel_rfl) (by kernel_rfl) (by kernel_rfl) (.cons rfl (.cons rfl (.nil _))) rfl (fun u hu => (thenS_normal (T.by_turn hu ?_)))
          refine T.condT rfl rfl ?_
          refine T.by_turn ?_ (auto_Right_j0_T K h)
          exact Turn.rp (.nil _) (.n _)
        · refine DG.step (c := ⟨some 29, .ptr b_280 (0 + 258), [(1, .ptr b_280 0), (28, .bool (decide ((x0.States.length : Int) > (256 : Int))))], [], []⟩) (fun t hm => One.step rfl (.on rfl rfl hm.s1 c_295) (OpT.fieldPtr rfl (dl rfl rfl) Try.underlying28 rfl i26 (by decide) hm.s0 rfl)) (Ct.met_of rfl rfl) ?_
          refine DG.step (c := ⟨some 30, .sl false 4 (x0.States.map c_api_State), [(29, .ptr b_280 (0 + 258)), (28, .bool (decide ((x0.States.length : Int) > (256 : Int))))], [(0, .box b_280 28 ((ArrN.oc 256 .u8 x0.Split.Of) ++ (([.d (.int .i64 x0.Split.Many), .d (.sl false 2 (x0.Counts.map (Arr2.dc .i64))), .d (.sl false 4 (x0.States.map c_api_State))] : List OC))))], []⟩) (fun t hm => One.step rfl (.on rfl rfl hm.s1 c_295) (OpT.loadBox (i := 0) rfl (dl rfl rfl) Try.underlying26 rfl hm.s0 hm.o0 rfl rfl)) (Ct.met_of rfl rfl) ?_
          obtain ⟨v_296, e_297, h⟩ := bind_some h
          refine DG.step (c := ⟨some 31, .ref [.sl false 1 (v_296.L.map (cI .i64)), .sl false 1 (v_296.R.map (cI .i64)), .sl false 1 (v_296.Rule.map (cI .i64)), .sl false 1 (v_296.Next.map (cL 2 c_api_Move))], [(30, .sl false 4 (x0.States.map c_api_State)), (28, .bool (decide ((x0.States.length : Int) > (256 : Int))))], [], []⟩) (fun t hm => One.step rfl (.on rfl rfl hm.s1 c_295) (OpT.indexSlM (xs := x0.States) (f := c_api_State) (v := v_296) rfl (dl rfl rfl) Try.underlying26 i59 hm.s0 rfl e_297 rfl)) (Ct.met_of rfl rfl) ?_
          refine DG.step (c := ⟨some 32, .ref [.sl false 1 (v_296.L.map (cI .i64)), .sl false 1 (v_296.R.map (cI .i64)), .sl false 1 (v_296.Rule.map (cI .i64)), .sl false 1 (v_296.Next.map (cL 2 c_api_Move))], [(31, .ref [.sl false 1 (v_296.L.map (cI .i64)), .sl false 1 (v_296.R.map (cI .i64)), .sl false 1 (v_296.Rule.map (cI .i64)), .sl false 1 (v_296.Next.map (cL 2 c_api_Move))]), (28, .bool (decide ((x0.States.length : Int) > (256 : Int))))], [], []⟩) (fun t hm => One.step rfl (.on rfl rfl hm.s1 c_295) (OpT.fieldRef rfl (dl rfl rfl) Try.underlying59 rfl i56 (by decide) hm.s0 rfl)) (Ct.met_of rfl rfl) ?_
          refine DG.step (c := ⟨some 33, .sl false 1 (v_296.L.map (cI .i64)), [(32, .ref [.sl false 1 (v_296.L.map (cI .i64)), .sl false 1 (v_296.R.map (cI .i64)), .sl false 1 (v_296.Rule.map (cI .i64)), .sl false 1 (v_296.Next.map (cL 2 c_api_Move))]), (28, .bool (decide ((x0.States.length : Int) > (256 : Int))))], [], []⟩) (fun t hm => One.step rfl (.on rfl rfl hm.s1 c_295) (OpT.loadRef rfl (dl rfl rfl) Try.underlying56 rfl hm.s0 rfl rfl)) (Ct.met_of rfl rfl) ?_
          refine DG.step (c := ⟨some 34, .int .i64 (v_296.L.length : Int), [(33, .sl false 1 (v_296.L.map (cI .i64))), (28, .bool (decide ((x0.States.length : Int) > (256 : Int))))], [], []⟩) (fun t hm => One.step rfl (.on rfl rfl hm.s1 c_295) (OpT.lenSlM (xs := v_296.L) (f := (cI .i64)) rfl (dl rfl rfl) Try.underlying56 hm.s0 rfl)) (Ct.met_of rfl rfl) ?_
          refine DG.step (c := ⟨some 35, .ptr b_280 (0 + 258), [(1, .ptr b_280 0), (28, .bool (decide ((x0.States.length : Int) > (256 : Int))))], [], []⟩) (fun t hm => One.step rfl (.on rfl rfl hm.s1 c_295) (OpT.fieldPtr rfl (dl rfl rfl) Try.underlying28 rfl i26 (by decide) hm.s0 rfl)) (Ct.met_of rfl rfl) ?_
          refine DG.step (c := ⟨some 36, .sl false 4 (x0.States.map c_api_State), [(35, .ptr b_280 (0 + 258)), (28, .bool (decide ((x0.States.length : Int) > (256 : Int))))], [(0, .box b_280 28 ((ArrN.oc 256 .u8 x0.Split.Of) ++ (([.d (.int .i64 x0.Split.Many), .d (.sl false 2 (x0.Counts.map (Arr2.dc .i64))), .d (.sl false 4 (x0.States.map c_api_State))] : List OC))))], []⟩) (fun t hm => One.step rfl (.on rfl rfl hm.s1 c_295) (OpT.loadBox (i := 0) rfl (dl rfl rfl) Try.underlying26 rfl hm.s0 hm.o0 rfl rfl)) (Ct.met_of rfl rfl) ?_
          refine DG.step (c := ⟨some 37, .ref [.sl false 1 (v_296.L.map (cI .i64)), .sl false 1 (v_296.R.map (cI .i64)), .sl false 1 (v_296.Rule.map (cI .i64)), .sl false 1 (v_296.Next.map (cL 2 c_api_Move))], [(36, .sl false 4 (x0.States.map c_api_State)), (28, .bool (decide ((x0.States.length : Int) > (256 : Int))))], [], []⟩) (fun t hm => One.step rfl (.on rfl rfl hm.s1 c_295) (OpT.indexSlM (xs := x0.States) (f := c_api_State) (v := v_296) rfl (dl rfl rfl) Try.underlying26 i59 hm.s0 rfl e_297 rfl)) (Ct.met_of rfl rfl) ?_
          refine DG.step (c := ⟨some 38, .ref [.sl false 1 (v_296.R.map (cI .i64)), .sl false 1 (v_296.Rule.map (cI .i64)), .sl false 1 (v_296.Next.map (cL 2 c_api_Move))], [(37, .ref [.sl false 1 (v_296.L.map (cI .i64)), .sl false 1 (v_296.R.map (cI .i64)), .sl false 1 (v_296.Rule.map (cI .i64)), .sl false 1 (v_296.Next.map (cL 2 c_api_Move))]), (28, .bool (decide ((x0.States.length : Int) > (256 : Int))))], [], []⟩) (fun t hm => One.step rfl (.on rfl rfl hm.s1 c_295) (OpT.fieldRef rfl (dl rfl rfl) Try.underlying59 rfl i56 (by decide) hm.s0 rfl)) (Ct.met_of rfl rfl) ?_
          refine DG.step (c := ⟨some 39, .sl false 1 (v_296.R.map (cI .i64)), [(38, .ref [.sl false 1 (v_296.R.map (cI .i64)), .sl false 1 (v_296.Rule.map (cI .i64)), .sl false 1 (v_296.Next.map (cL 2 c_api_Move))]), (28, .bool (decide ((x0.States.length : Int) > (256 : Int))))], [], []⟩) (fun t hm => One.step rfl (.on rfl rfl hm.s1 c_295) (OpT.loadRef rfl (dl rfl rfl) Try.underlying56 rfl hm.s0 rfl rfl)) (Ct.met_of rfl rfl) ?_
          refine DG.step (c := ⟨some 40, .int .i64 (v_296.R.length : Int), [(39, .sl false 1 (v_296.R.map (cI .i64))), (28, .bool (decide ((x0.States.length : Int) > (256 : Int))))], [], []⟩) (fun t hm => One.step rfl (.on rfl rfl hm.s1 c_295) (OpT.lenSlM (xs := v_296.R) (f := (cI .i64)) rfl (dl rfl rfl) Try.underlying56 hm.s0 rfl)) (Ct.met_of rfl rfl) ?_
          refine DG.step (c := ⟨some 41, .int .i64 (IntKind.i64.wrap ((v_296.L.length : Int) + (v_296.R.length : Int))), [(34, .int .i64 (v_296.L.length : Int)), (40, .int .i64 (v_296.R.length : Int)), (28, .bool (decide ((x0.States.length : Int) > (256 : Int))))], [], []⟩) (fun t hm => One.step rfl (.on rfl rfl hm.s2 c_295) (OpT.int2 rfl rfl (dl rfl rfl) hm.s0 hm.s1 rfl)) (Ct.met_of rfl rfl) ?_
          refine DG.step (c := ⟨some 42, .bool (decide ((IntKind.i64.wrap ((v_296.L.length : Int) + (v_296.R.length : Int))) > (0 : Int))), [(41, .int .i64 (IntKind.i64.wrap ((v_296.L.length : Int) + (v_296.R.length : Int)))), (28, .bool (decide ((x0.States.length : Int) > (256 : Int))))], [], []⟩) (fun t hm => One.step rfl (.on rfl rfl hm.s1 c_295) (OpT.int2 rfl rfl (dl rfl rfl) hm.s0 rfl rfl)) (Ct.met_of rfl rfl) ?_
          refine DG.step (c := ⟨some 43, .bool (decide ((IntKind.i64.wrap ((v_296.L.length : Int) + (v_296.R.length : Int))) > (0 : Int))), [(28, .bool (decide ((x0.States.length : Int) > (256 : Int)))), (42, .bool (decide ((IntKind.i64.wrap ((v_296.L.length : Int) + (v_296.R.length : Int))) > (0 : Int))))], [], []⟩) (fun t hm => One.step rfl (.free rfl) (OpT.pickF rfl (dl rfl rfl) hm.s0 c_295 hm.s1 rfl)) (Ct.met_of rfl rfl) ?_
          refine DG.fin (s1 := ⟨[(1, .ptr b_280 0), (43, .bool (decide ((IntKind.i64.wrap ((v_296.L.length : Int) + (v_296.R.length : Int))) > (0 : Int))))], [.box b_280 28 ((ArrN.oc 256 .u8 x0.Split.Of) ++ (([.d (.int .i64 x0.Split.Many), .d (.sl false 2 (x0.Counts.map (Arr2.dc .i64))), .d (.sl false 4 (x0.States.map c_api_State))] : List OC)))]⟩) (ms := [0, 1, 3, 7, 15, 31, 63, 127, 255, 511, 1023, 2047, 4095, 8191, 16383, 32767, 65535, 131071, 262143, 524287, 1048575, 2097151, 4194303, 8388607, 16777215, 33554431, 67108863, 134217727, 268435455, 8388607, 545259519, 1619001343, 3766484991, 8061452287, 16651386879, 34359738367, 68719476735, 137438953471]) TryMixed rfl (by kernel_rfl) (by kernel_rfl) (by kernel_rfl) (.cons rfl (.cons rfl (.nil _))) rfl (fun u hu => (thenS_normal (T.by_turn hu ?_)))
          rcases bif_some h with ⟨c_298, h⟩ | ⟨c_298, h⟩
          · refine T.condT rfl c_298 ?_
            refine T.by_turn ?_ (auto_Right_j0_T K h)
            exact Turn.rp (.nil _) (.n _)
          · refine T.condF rfl c_298 ?_
            refine T.skip (thenS_normal ?_)
            refine T.seq ?_
            refine T.seq ?_
            refine T.regionL ?_
            refine sp rfl (OpT.fieldPtr rfl (dl rfl rfl) Try.underlying28 rfl i25 (by decide) rfl ?_)
            refine sp rfl (OpT.loadBox (i := 0) rfl (dl rfl rfl) Try.underlying25 rfl rfl rfl rfl ?_)
            refine sp rfl (OpT.lenSlM (xs := x0.Counts) (f := (Arr2.dc .i64)) rfl (dl rfl rfl) Try.underlying25 rfl ?_)
            refine mv rfl rfl rfl rfl rfl ?_
            refine TL'.nil (thenS_normal ?_)
            refine T.block ?_
            refine T.loop ?_
            refine TL.by_turn ?_ (auto_Right_l1_T K K x0 (x0.Counts.length : Int) (0 : Int) b_280 h)
            exact Turn.rp (.cons rfl (.cons rfl (.cons rfl (.cons rfl (.nil _))))) (.c .z (.n _))

abbrev slices_Grow_byte_q (r : List Int) : Exit → St → Prop := retS Try.prog Try.f47 (fun y t => ∃ γ : Nat → Value, y = (.c (.ex (γ 0))) ∧ t = [.arrA (γ 0) 5 1 (r.map (cI .u8))])

theorem slices_Grow_byte_T (K : Nat) {x1 : Int} {r : List Int} (h : slices_Grow_byte K x1 = some r) : CallG Try.prog 47 [.c (.ex (.slice none 0 0)), .int .i64 x1] [] (fun γ => (.c (.ex (γ 0)))) (fun γ => [.arrA (γ 0) 5 1 (r.map (cI .u8))]) := by
  refine CallT.intro Try.func47 rfl (Nat.le_of_ble_eq_true rfl) ?_
  show T Try.prog 27 (Code.at [] (codeOf Try.f47)) ⟨paramSlots 0 [.c (.ex (.slice none 0 0)), .int .i64 x1], []⟩ (slices_Grow_byte_q r)
  unfold slices_Grow_byte at h
  refine T.seq ?_
  refine T.regionL ?_
  refine asg rfl rfl rfl rfl rfl ?_
  refine TL'.nil (thenS_normal ?_)
  refine T.seq ?_
  refine T.seq ?_
  refine T.regionL ?_
  refine mv rfl rfl rfl rfl rfl ?_
  refine sp rfl (OpT.int2 rfl rfl (dl rfl rfl) rfl rfl ?_)
  refine TL'.nil (thenS_normal ?_)
  rcases bif_some h with ⟨c_29, h⟩ | ⟨c_29, h⟩
  · refine T.condT rfl c_29 ?_
    refine T.regionL ?_
    cases h
  · refine T.condF rfl c_29 ?_
    refine T.skip (thenS_normal ?_)
    refine T.seq ?_
    refine T.seq ?_
    refine T.regionL ?_
    refine mv rfl rfl rfl rfl rfl ?_
    refine mv rfl rfl rfl rfl rfl ?_
    refine sp rfl (OpT.capNil rfl (dl rfl rfl) Try.underlying29 rfl ?_)
    refine mv rfl rfl rfl rfl rfl ?_
    refine sp rfl (OpT.lenEx rfl (dl rfl rfl) Try.underlying29 rfl ?_)
    refine sp rfl (OpT.int2 rfl rfl (dl rfl rfl) rfl rfl ?_)
    refine sp rfl (OpT.int2 rfl rfl (dl rfl rfl) rfl rfl ?_)
    refine asg rfl rfl rfl rfl rfl ?_
    refine TL'.nil (thenS_normal ?_)
    refine T.seq ?_
    refine T.regionL ?_
    refine mv rfl rfl rfl rfl rfl ?_
    refine sp rfl (OpT.int2 rfl rfl (dl rfl rfl) rfl rfl ?_)
    refine TL'.nil (thenS_normal ?_)
    rcases bif_some h with ⟨c_30, h⟩ | ⟨c_30, h⟩
    · refine T.condT rfl c_30 ?_
      refine T.regionL ?_
      refine mv rfl rfl rfl rfl rfl ?_
      refine mv rfl rfl rfl rfl rfl ?_
      refine sp rfl (OpT.capNil rfl (dl rfl rfl) Try.underlying29 rfl ?_)
      refine sp rfl (OpT.sliceNil rfl (dl rfl rfl) Try.underlying29 i5 rfl (.none _) (.some _ _ 0 _ rfl (by decide)) ?_)
      refine mv rfl rfl rfl rfl rfl ?_
      obtain ⟨g_31, h⟩ := ck_some h
      obtain ⟨g_32, h⟩ := ck_some h
      refine sp rfl (OpT.appendZerosX (f := (cI .u8)) (zv := ((0 : Int) : Int)) rfl (dl rfl rfl) Try.underlying29 Try.underlying3 i5 (by decide) rfl rfl rfl rfl rfl g_31 g_32 (fun w_33 => ?_))
      refine mv rfl rfl rfl rfl rfl ?_
      refine sp rfl (OpT.lenEx rfl (dl rfl rfl) Try.underlying29 rfl ?_)
      obtain ⟨g_35, h⟩ := ck_some h
      refine sp rfl (OpT.sliceX (i := 0) (xs := (List.replicate (Int.toNat (IntKind.i64.wrap (x1 - (IntKind.i64.wrap ((0 : Int) - (0 : Int)))))) ((0 : Int) : Int))) (f := (cI .u8)) (h := (Int.toNat (0 : Int))) rfl (dl rfl rfl) Try.underlying29 i5 rfl rfl (.some _ _ _ _ rfl g_35.1) g_35.2 (fun w_34 => ?_))
      refine asg rfl rfl rfl rfl rfl ?_
      refine TL'.nil (thenS_normal ?_)
      refine T.seq ?_
      refine T.regionL ?_
      refine mv rfl rfl rfl rfl rfl ?_
      refine asg rfl rfl rfl rfl rfl ?_
      refine TL'.nil (thenS_normal ?_)
      refine T.ret ?_
      refine Fin.turn (Turn.sealX 0 rfl) ?_
      exact Fin.doneK (.cons _ _ _ _ (.tmp 4 _ rfl) .nil) (.cons 0 rfl (.nil _)) (by cases h; exact ⟨gl [w_34], rfl, rfl⟩)
    · refine T.condF rfl c_30 ?_
      refine T.skip (thenS_normal ?_)
      refine T.seq ?_
      refine T.regionL ?_
      refine mv rfl rfl rfl rfl rfl ?_
      refine asg rfl rfl rfl rfl rfl ?_
      refine TL'.nil (thenS_normal ?_)
      refine T.ret ?_
      refine Fin.turn (Turn.nilA 5 1) ?_
      exact Fin.doneK (.cons _ _ _ _ (.tmp 4 _ rfl) .nil) (.cons 0 rfl (.nil _)) (by cases h; exact ⟨gl [nilv 4], rfl, rfl⟩)

abbrev slices_Concat_byte_q (r : List Int) : Exit → St → Prop := retS Try.prog Try.f21 (fun y t => ∃ γ : Nat → Value, y = (.c (.ex (γ 0))) ∧ t = [.arrA (γ 0) 5 1 (r.map (cI .u8))])

abbrev slices_Concat_byte_qs11111 (r : List Int) : Exit → St → Prop := thenS (fun s' => T Try.prog 36 (Code.at [1, 1, 1, 1, 1] (codeOf Try.f21)) s' ((slices_Concat_byte_q r))) ((slices_Concat_byte_q r))

abbrev slices_Concat_byte_qb2x11111 (r : List Int) : Exit → St → Prop := inBlockS 2 ((slices_Concat_byte_qs11111 r))

abbrev slices_Concat_byte_qs111 (r : List Int) : Exit → St → Prop := thenS (fun s' => T Try.prog 36 (Code.at [1, 1, 1] (codeOf Try.f21)) s' ((slices_Concat_byte_q r))) ((slices_Concat_byte_q r))

abbrev slices_Concat_byte_qb0x111 (r : List Int) : Exit → St → Prop := inBlockS 0 ((slices_Concat_byte_qs111 r))

theorem slices_Concat_byte_l1_T {r : List Int} (K : Nat) : ∀ (k : Nat), ∀ (x0 : List (List Int)) (x26_1_2 : Int) (x27_1_3 : Int) (y6_1_0 : List Int) (flx0 : Bool) (w6_1 : Value), slices_Concat_byte_l1 K k x0 x26_1_2 x27_1_3 y6_1_0 = some r → TL Try.prog 36 (Code.at [1, 1, 1, 1, 0, 1, 0, 0] (codeOf Try.f21)) ⟨[(6, .c (.ex w6_1)), (25, .sl flx0 1 (x0.map (cL 1 (cI .u8)))), (26, .int .i64 x26_1_2), (27, .int .i64 x27_1_3)], [.arrA w6_1 5 1 (y6_1_0.map (cI .u8))]⟩ (slices_Concat_byte_qb2x11111 r) := by
  intro k
  induction k with
  | zero =>
    intro x0 x26_1_2 x27_1_3 y6_1_0 flx0 w6_1 h
    cases (show (none : Option (List Int)) = some r from h)
  | succ k ih =>
    intro x0 x26_1_2 x27_1_3 y6_1_0 flx0 w6_1 h
    rw [slices_Concat_byte_l1] at h
    refine TL.round ?_
    refine T.seq ?_
    refine T.regionL ?_
    refine sp rfl (OpT.int2 rfl rfl (dl rfl rfl) rfl rfl ?_)
    refine TL'.nil (thenS_normal ?_)
    refine T.seq ?_
    rcases bif_some h with ⟨c_126, h⟩ | ⟨c_126, h⟩
    · refine T.condT rfl c_126 ?_
      refine T.skip (thenS_normal ?_)
      refine T.seq ?_
      refine T.block ?_
      refine T.seq ?_
      refine T.regionL ?_
      obtain ⟨v_127, e_128, h⟩ := bind_some h
      refine sp rfl (OpT.indexSlM (xs := x0) (f := (cL 1 (cI .u8))) (v := v_127) rfl (dl rfl rfl) Try.underlying94 i29 rfl rfl e_128 ?_)
      refine sp rfl (OpT.loadRef rfl (dl rfl rfl) Try.underlying29 rfl rfl rfl ?_)
      refine asg rfl rfl rfl rfl rfl ?_
      refine TL'.nil (thenS_normal ?_)
      refine T.regionL ?_
      refine mv rfl rfl rfl rfl rfl ?_
      refine mv rfl rfl rfl rfl rfl ?_
      obtain ⟨g_130, h⟩ := ck_some h
      refine sp rfl (OpT.appendAM (i := 0) (xs := y6_1_0) (ys := v_127) (f := (cI .u8)) rfl (dl rfl rfl) Try.underlying29 i5 rfl rfl rfl rfl g_130 (fun w_129 => ?_))
      refine asg rfl rfl rfl rfl rfl ?_
      refine TL'.nil (inBlock_normal (thenS_normal ?_))
      refine T.regionL ?_
      refine sp rfl (OpT.int2 rfl rfl (dl rfl rfl) rfl rfl ?_)
      refine mv rfl rfl rfl rfl rfl ?_
      refine TL'.nil (thenS_normal ?_)
      refine TL.by_turn ?_ (ih x0 x26_1_2 (IntKind.i64.wrap (x27_1_3 + (1 : Int))) (y6_1_0 ++ v_127) flx0 w_129 h)
      exact Turn.rp (.cons rfl (.cons rfl (.cons rfl (.cons rfl (.nil _))))) (.c .z (.n _))
    · refine T.condF rfl c_126 ?_
      refine T.exit (thenS_exit (thenS_exit (inBlock_exit (thenS_normal ?_))))
      refine T.seq ?_
      refine T.regionL ?_
      refine mv rfl rfl rfl rfl rfl ?_
      refine asg rfl rfl rfl rfl rfl ?_
      refine TL'.nil (thenS_normal ?_)
      refine T.ret ?_
      exact Fin.doneK (.cons _ _ _ _ (.tmp 2 _ rfl) .nil) (.cons 0 rfl (.nil _)) (by cases h; exact ⟨gl [w6_1], rfl, rfl⟩)

theorem slices_Concat_byte_l0_T {r : List Int} (K : Nat) : ∀ (k : Nat), ∀ (x0 : List (List Int)) (x3_0_1 : Int) (x10_0_3 : Int) (x11_0_4 : Int) (flx0 : Bool), slices_Concat_byte_l0 K k x0 x3_0_1 x10_0_3 x11_0_4 = some r → TL Try.prog 36 (Code.at [1, 1, 0, 1, 0, 0] (codeOf Try.f21)) ⟨[(0, .sl flx0 1 (x0.map (cL 1 (cI .u8)))), (3, .int .i64 x3_0_1), (9, .sl flx0 1 (x0.map (cL 1 (cI .u8)))), (10, .int .i64 x10_0_3), (11, .int .i64 x11_0_4)], []⟩ (slices_Concat_byte_qb0x111 r) := by
  intro k
  induction k with
  | zero =>
    intro x0 x3_0_1 x10_0_3 x11_0_4 flx0 h
    cases (show (none : Option (List Int)) = some r from h)
  | succ k ih =>
    intro x0 x3_0_1 x10_0_3 x11_0_4 flx0 h
    rw [slices_Concat_byte_l0] at h
    refine TL.round ?_
    refine T.seq ?_
    refine T.regionL ?_
    refine sp rfl (OpT.int2 rfl rfl (dl rfl rfl) rfl rfl ?_)
    refine TL'.nil (thenS_normal ?_)
    refine T.seq ?_
    rcases bif_some h with ⟨c_118, h⟩ | ⟨c_118, h⟩
    · refine T.condT rfl c_118 ?_
      refine T.skip (thenS_normal ?_)
      refine T.seq ?_
      refine T.block ?_
      refine T.seq ?_
      refine T.regionL ?_
      obtain ⟨v_119, e_120, h⟩ := bind_some h
      refine sp rfl (OpT.indexSlM (xs := x0) (f := (cL 1 (cI .u8))) (v := v_119) rfl (dl rfl rfl) Try.underlying94 i29 rfl rfl e_120 ?_)
      refine sp rfl (OpT.loadRef rfl (dl rfl rfl) Try.underlying29 rfl rfl rfl ?_)
      refine asg rfl rfl rfl rfl rfl ?_
      refine TL'.nil (thenS_normal ?_)
      refine T.seq ?_
      refine T.regionL ?_
      refine mv rfl rfl rfl rfl rfl ?_
      refine mv rfl rfl rfl rfl rfl ?_
      refine sp rfl (OpT.lenSlM (xs := v_119) (f := (cI .u8)) rfl (dl rfl rfl) Try.underlying29 rfl ?_)
      refine sp rfl (OpT.int2 rfl rfl (dl rfl rfl) rfl rfl ?_)
      refine asg rfl rfl rfl rfl rfl ?_
      refine TL'.nil (thenS_normal ?_)
      refine T.seq ?_
      refine T.regionL ?_
      refine mv rfl rfl rfl rfl rfl ?_
      refine sp rfl (OpT.int2 rfl rfl (dl rfl rfl) rfl rfl ?_)
      refine TL'.nil (thenS_normal ?_)
      rcases bif_some h with ⟨c_121, h⟩ | ⟨c_121, h⟩
      · refine T.condT rfl c_121 ?_
        refine T.regionL ?_
        cases h
      · refine T.condF rfl c_121 ?_
        refine T.skip (inBlock_normal (thenS_normal ?_))
        refine T.regionL ?_
        refine sp rfl (OpT.int2 rfl rfl (dl rfl rfl) rfl rfl ?_)
        refine mv rfl rfl rfl rfl rfl ?_
        refine TL'.nil (thenS_normal ?_)
        refine TL.by_turn ?_ (ih x0 (IntKind.i64.wrap (x3_0_1 + (v_119.length : Int))) x10_0_3 (IntKind.i64.wrap (x11_0_4 + (1 : Int))) flx0 h)
        exact Turn.rp (.cons rfl (.cons rfl (.cons rfl (.cons rfl (.cons rfl (.nil _)))))) (.n _)
    · refine T.condF rfl c_118 ?_
      refine T.exit (thenS_exit (thenS_exit (inBlock_exit (thenS_normal ?_))))
      refine T.seq ?_
      refine T.regionL ?_
      refine mv rfl rfl rfl rfl rfl ?_
      refine TL'.turn Turn.keepPlace ?_
      obtain ⟨v_123, e_124, h⟩ := bind_some h
      refine sp rfl (OpT.callG (is := [0]) (ph := [.ro 0 []]) rfl (dl rfl rfl) Try.func47 rfl rfl (Args.cons rfl (Args.cons rfl Args.nil)) (slices_Grow_byte_T K e_124) (.cons rfl rfl (.nil)) (fun _ => rfl) (fun γ_125 => ?_))
      refine nm (.c (.n)) ?_
      refine asg rfl rfl rfl rfl rfl ?_
      refine TL'.nil (thenS_normal ?_)
      refine T.seq ?_
      refine T.seq ?_
      refine T.regionL ?_
      refine mv rfl rfl rfl rfl rfl ?_
      refine sp rfl (OpT.lenSlM (xs := x0) (f := (cL 1 (cI .u8))) rfl (dl rfl rfl) Try.underlying94 rfl ?_)
      refine mv rfl rfl rfl rfl rfl ?_
      refine TL'.nil (thenS_normal ?_)
      refine T.block ?_
      refine T.loop ?_
      refine TL.by_turn ?_ (slices_Concat_byte_l1_T K K x0 (x0.length : Int) (0 : Int) v_123 flx0 (γ_125 0) h)
      exact Turn.rp (.cons rfl (.cons rfl (.cons rfl (.cons rfl (.nil _))))) (.c .z (.n _))

theorem slices_Concat_byte_T (K : Nat) {x0 : List (List Int)} {flx0 : Bool} {r : List Int} (h : slices_Concat_byte K x0 = some r) : CallG Try.prog 21 [.sl flx0 1 (x0.map (cL 1 (cI .u8)))] [] (fun γ => (.c (.ex (γ 0)))) (fun γ => [.arrA (γ 0) 5 1 (r.map (cI .u8))]) := by
  refine CallT.intro Try.func21 rfl (Nat.le_of_ble_eq_true rfl) ?_
  show T Try.prog 36 (Code.at [] (codeOf Try.f21)) ⟨paramSlots 0 [.sl flx0 1 (x0.map (cL 1 (cI .u8)))], []⟩ (slices_Concat_byte_q r)
  unfold slices_Concat_byte at h
  refine T.seq ?_
  refine T.regionL ?_
  refine asg rfl rfl rfl rfl rfl ?_
  refine TL'.nil (thenS_normal ?_)
  refine T.seq ?_
  refine T.regionL ?_
  refine asg rfl rfl rfl rfl rfl ?_
  refine TL'.nil (thenS_normal ?_)
  refine T.seq ?_
  refine T.seq ?_
  refine T.regionL ?_
  refine mv rfl rfl rfl rfl rfl ?_
  refine sp rfl (OpT.lenSlM (xs := x0) (f := (cL 1 (cI .u8))) rfl (dl rfl rfl) Try.underlying94 rfl ?_)
  refine mv rfl rfl rfl rfl rfl ?_
  refine TL'.nil (thenS_normal ?_)
  refine T.block ?_
  refine T.loop ?_
  refine TL.by_turn ?_ (slices_Concat_byte_l0_T K K x0 (0 : Int) (x0.length : Int) (0 : Int) flx0 h)
  exact Turn.rp (.cons rfl (.cons rfl (.cons rfl (.cons rfl (.cons rfl (.nil _)))))) (.n _)

abbrev slices_Clone_byte_q (r : List Int) : Exit → St → Prop := retS Try.prog Try.f27 (fun y t => ∃ γ : Nat → Value, y = (.c (.ex (γ 0))) ∧ t = [.arrA (γ 0) 5 1 (r.map (cI .u8))])

theorem slices_Clone_byte_T (K : Nat) {x0 : List Int} {flx0 : Bool} {r : List Int} (h : slices_Clone_byte K x0 = some r) : CallG Try.prog 27 [.sl flx0 1 (x0.map (cI .u8))] [] (fun γ => (.c (.ex (γ 0)))) (fun γ => [.arrA (γ 0) 5 1 (r.map (cI .u8))]) := by
  refine CallT.intro Try.func27 rfl (Nat.le_of_ble_eq_true rfl) ?_
  show T Try.prog 8 (Code.at [] (codeOf Try.f27)) ⟨paramSlots 0 [.sl flx0 1 (x0.map (cI .u8))], []⟩ (slices_Clone_byte_q r)
  unfold slices_Clone_byte at h
  refine T.seq ?_
  refine T.regionL ?_
  refine asg rfl rfl rfl rfl rfl ?_
  refine TL'.nil (thenS_normal ?_)
  refine T.seq ?_
  refine T.seq ?_
  refine T.regionL ?_
  refine mv rfl rfl rfl rfl rfl ?_
  refine sp rfl (OpT.eqNil (xs := x0) (f := (cI .u8)) rfl (dl rfl rfl) Try.underlying29 rfl rfl (fun n_17 hn_17 => ?_))
  refine TL'.nil (thenS_normal ?_)
  rcases Bool.eq_false_or_eq_true n_17 with c_18 | c_18
  · have hx := hn_17 c_18
    replace h : (some ([] : List Int)) = some r := by first | (rw [hx] at h; exact h) | exact h
    refine T.condT rfl c_18 ?_
    refine T.seq ?_
    refine T.regionL ?_
    refine asg rfl rfl rfl rfl rfl ?_
    refine TL'.nil (thenS_normal ?_)
    refine T.ret (thenS_ret ?_)
    refine Fin.turn (Turn.nilA 5 1) ?_
    exact Fin.doneK (.cons _ _ _ _ (.tmp 2 _ rfl) .nil) (.cons 0 rfl (.nil _)) (by cases h; exact ⟨gl [nilv 5], rfl, rfl⟩)
  · refine T.condF rfl c_18 ?_
    refine T.skip (thenS_normal ?_)
    refine T.seq ?_
    refine T.regionL ?_
    refine sp rfl (OpT.buildSlice (elems := ([] : List Int).map (cI .u8)) rfl (dl rfl rfl) Try.underlying29 i5 (by decide) rfl (all1 rfl) rfl rfl rfl (lenAll rfl) (by decide) ?_)
    refine mv rfl rfl rfl rfl rfl ?_
    obtain ⟨g_20, h⟩ := ck_some h
    refine sp rfl (OpT.appendNewM (xs := ([] : List Int)) (ys := x0) (f := (cI .u8)) rfl (dl rfl rfl) Try.underlying29 i5 rfl rfl rfl (.inr rfl) g_20 (fun w_19 => ?_))
    refine asg rfl rfl rfl rfl rfl ?_
    refine TL'.nil (thenS_normal ?_)
    refine T.ret ?_
    exact Fin.doneK (.cons _ _ _ _ (.tmp 2 _ rfl) .nil) (.cons 0 rfl (.nil _)) (by cases h; exact ⟨gl [w_19], rfl, rfl⟩)

abbrev table_Number_q (r : List Int) : Exit → St → Prop := retS Try.prog Try.f14 (fun y t => ∃ γ : Nat → Value, y = (.c (.ex (γ 0))) ∧ t = [.arrA (γ 0) 5 1 (r.map (cI .u8))])

abbrev table_Number_qs111 (r : List Int) : Exit → St → Prop := thenS (fun s' => T Try.prog 25 (Code.at [1, 1, 1] (codeOf Try.f14)) s' ((table_Number_q r))) ((table_Number_q r))

abbrev table_Number_qb0x111 (r : List Int) : Exit → St → Prop := inBlockS 0 ((table_Number_qs111 r))

theorem table_Number_l0_T {r : List Int} (K : Nat) : ∀ (k : Nat), ∀ (x1_0_0 : Int) (y5_0_1 : List Int) (w5_0 : Value), table_Number_l0 K k x1_0_0 y5_0_1 = some r → TL Try.prog 25 (Code.at [1, 1, 0, 1, 0, 0] (codeOf Try.f14)) ⟨[(1, .int .i64 x1_0_0), (5, .c (.ex w5_0))], [.arrA w5_0 5 1 (y5_0_1.map (cI .u8))]⟩ (table_Number_qb0x111 r) := by
  intro k
  induction k with
  | zero =>
    intro x1_0_0 y5_0_1 w5_0 h
    cases (show (none : Option (List Int)) = some r from h)
  | succ k ih =>
    intro x1_0_0 y5_0_1 w5_0 h
    rw [table_Number_l0] at h
    refine TL.round ?_
    refine T.seq ?_
    refine T.seq ?_
    refine T.regionL ?_
    refine mv rfl rfl rfl rfl rfl ?_
    refine sp rfl (OpT.int2 rfl rfl (dl rfl rfl) rfl rfl ?_)
    refine TL'.nil (thenS_normal ?_)
    rcases bif_some h with ⟨c_50, h⟩ | ⟨c_50, h⟩
    · refine T.condT rfl c_50 ?_
      refine T.skip (thenS_normal ?_)
      refine T.seq ?_
      refine T.block ?_
      refine T.regionL ?_
      refine mv rfl rfl rfl rfl rfl ?_
      refine mv rfl rfl rfl rfl rfl ?_
      refine sp rfl (OpT.convInt rfl (dl rfl rfl) Try.underlying3 Try.underlying5 rfl ?_)
      refine sp rfl (OpT.int2 rfl rfl (dl rfl rfl) rfl rfl ?_)
      refine sp rfl (OpT.buildSlice (elems := ([(bits .or .u8 (IntKind.u8.wrap x1_0_0) (128 : Int))] : List Int).map (cI .u8)) rfl (dl rfl rfl) Try.underlying29 i5 (by decide) rfl (all1 rfl) rfl rfl rfl (lenAll rfl) (by decide) ?_)
      obtain ⟨g_52, h⟩ := ck_some h
      refine sp rfl (OpT.appendAM (i := 0) (xs := y5_0_1) (ys := [(bits .or .u8 (IntKind.u8.wrap x1_0_0) (128 : Int))]) (f := (cI .u8)) rfl (dl rfl rfl) Try.underlying29 i5 rfl rfl rfl rfl g_52 (fun w_51 => ?_))
      refine asg rfl rfl rfl rfl rfl ?_
      refine TL'.nil (inBlock_normal (thenS_normal ?_))
      refine T.regionL ?_
      refine mv rfl rfl rfl rfl rfl ?_
      refine sp rfl (OpT.shr rfl (dl rfl rfl) rfl rfl (by decide) ?_)
      refine asg rfl rfl rfl rfl rfl ?_
      refine TL'.nil (thenS_normal ?_)
      refine TL.by_turn ?_ (ih (Int.fdiv x1_0_0 (2 ^ min (Int.toNat (7 : Int)) IntKind.i64.bits)) (y5_0_1 ++ [(bits .or .u8 (IntKind.u8.wrap x1_0_0) (128 : Int))]) w_51 h)
      exact Turn.rp (.cons rfl (.cons rfl (.nil _))) (.c .z (.n _))
    · refine T.condF rfl c_50 ?_
      refine T.exit (thenS_exit (thenS_exit (inBlock_exit (thenS_normal ?_))))
      refine T.seq ?_
      refine T.regionL ?_
      refine mv rfl rfl rfl rfl rfl ?_
      refine mv rfl rfl rfl rfl rfl ?_
      refine sp rfl (OpT.convInt rfl (dl rfl rfl) Try.underlying3 Try.underlying5 rfl ?_)
      refine sp rfl (OpT.buildSlice (elems := ([(IntKind.u8.wrap x1_0_0)] : List Int).map (cI .u8)) rfl (dl rfl rfl) Try.underlying29 i5 (by decide) rfl (all1 rfl) rfl rfl rfl (lenAll rfl) (by decide) ?_)
      obtain ⟨g_54, h⟩ := ck_some h
      refine sp rfl (OpT.appendAM (i := 0) (xs := y5_0_1) (ys := [(IntKind.u8.wrap x1_0_0)]) (f := (cI .u8)) rfl (dl rfl rfl) Try.underlying29 i5 rfl rfl rfl rfl g_54 (fun w_53 => ?_))
      refine asg rfl rfl rfl rfl rfl ?_
      refine TL'.nil (thenS_normal ?_)
      refine T.ret ?_
      exact Fin.doneK (.cons _ _ _ _ (.tmp 4 _ rfl) .nil) (.cons 0 rfl (.nil _)) (by cases h; exact ⟨gl [w_53], rfl, rfl⟩)

theorem table_Number_T (K : Nat) {x0 : List Int} {x1 : Int} {flx0 : Bool} {r : List Int} (h : table_Number K x0 x1 = some r) : CallG Try.prog 14 [.sl flx0 1 (x0.map (cI .u8)), .int .i64 x1] [] (fun γ => (.c (.ex (γ 0)))) (fun γ => [.arrA (γ 0) 5 1 (r.map (cI .u8))]) := by
  refine CallT.intro Try.func14 rfl (Nat.le_of_ble_eq_true rfl) ?_
  show T Try.prog 25 (Code.at [] (codeOf Try.f14)) ⟨paramSlots 0 [.sl flx0 1 (x0.map (cI .u8)), .int .i64 x1], []⟩ (table_Number_q r)
  unfold table_Number at h
  refine T.seq ?_
  refine T.regionL ?_
  refine asg rfl rfl rfl rfl rfl ?_
  refine TL'.nil (thenS_normal ?_)
  refine T.seq ?_
  refine T.regionL ?_
  refine mv rfl rfl rfl rfl rfl ?_
  refine TL'.turn Turn.keepPlace ?_
  obtain ⟨v_47, e_48, h⟩ := bind_some h
  refine sp rfl (OpT.callG (is := [0]) (ph := [.ro 0 []]) rfl (dl rfl rfl) Try.func27 rfl rfl (Args.cons rfl Args.nil) (slices_Clone_byte_T K (flx0 := flx0) e_48) (.cons rfl rfl (.nil)) (fun _ => rfl) (fun γ_49 => ?_))
  refine nm (.c (.n)) ?_
  refine asg rfl rfl rfl rfl rfl ?_
  refine TL'.nil (thenS_normal ?_)
  refine T.seq ?_
  refine T.seq ?_
  refine T.regionL ?_
  refine mv rfl rfl rfl rfl rfl ?_
  refine sp rfl (OpT.max2 rfl (dl rfl rfl) rfl rfl ?_)
  refine asg rfl rfl rfl rfl rfl ?_
  refine TL'.nil (thenS_normal ?_)
  refine T.block ?_
  refine T.loop ?_
  refine TL.by_turn ?_ (table_Number_l0_T K K (if (0 : Int) > x1 then (0 : Int) else x1) v_47 (γ_49 0) h)
  exact Turn.rp (.cons rfl (.cons rfl (.nil _))) (.c .z (.n _))

abbrev table_writer_num_q (bx0 : Nat) (r : table_writer) : Exit → St → Prop := retS Try.prog Try.f22 (fun y t => ∃ γ : Nat → Value, y = (.tup []) ∧ t = [.box bx0 54 [.d (.ex (γ 0))], .arrA (γ 0) 5 1 (r.b.map (cI .u8))])

abbrev table_writer_num_qb0x (bx0 : Nat) (r : table_writer) : Exit → St → Prop := inBlockS 0 ((table_writer_num_q bx0 r))

theorem table_writer_num_l0_T {r : table_writer} (K : Nat) (bx0 : Nat) : ∀ (k : Nat), ∀ (x1 : List Int) (x7_0_2 : Int) (x8_0_3 : Int) (y0_0_0 : List Int) (flx1 : Bool) (w0_0 : Value), table_writer_num_l0 K k x1 x7_0_2 x8_0_3 y0_0_0 = some r → TL Try.prog 22 (Code.at [1, 0, 0] (codeOf Try.f22)) ⟨[(0, .ptr bx0 0), (6, .sl flx1 1 (x1.map (cI .i64))), (7, .int .i64 x7_0_2), (8, .int .i64 x8_0_3)], [.box bx0 54 [.d (.ex w0_0)], .arrA w0_0 5 1 (y0_0_0.map (cI .u8))]⟩ (table_writer_num_qb0x bx0 r) := by
  intro k
  induction k with
  | zero =>
    intro x1 x7_0_2 x8_0_3 y0_0_0 flx1 w0_0 h
    cases (show (none : Option table_writer) = some r from h)
  | succ k ih =>
    intro x1 x7_0_2 x8_0_3 y0_0_0 flx1 w0_0 h
    rw [table_writer_num_l0] at h
    refine TL.round ?_
    refine T.seq ?_
    refine T.regionL ?_
    refine sp rfl (OpT.int2 rfl rfl (dl rfl rfl) rfl rfl ?_)
    refine TL'.nil (thenS_normal ?_)
    refine T.seq ?_
    rcases bif_some h with ⟨c_57, h⟩ | ⟨c_57, h⟩
    · refine T.condT rfl c_57 ?_
      refine T.skip (thenS_normal ?_)
      refine T.seq ?_
      refine T.block ?_
      refine T.seq ?_
      refine T.regionL ?_
      obtain ⟨v_58, e_59, h⟩ := bind_some h
      refine sp rfl (OpT.indexSlM (xs := x1) (f := (cI .i64)) (v := v_58) rfl (dl rfl rfl) Try.underlying56 i3 rfl rfl e_59 ?_)
      refine sp rfl (OpT.loadRef rfl (dl rfl rfl) Try.underlying3 rfl rfl rfl ?_)
      refine asg rfl rfl rfl rfl rfl ?_
      refine TL'.nil (thenS_normal ?_)
      refine T.regionL ?_
      refine mv rfl rfl rfl rfl rfl ?_
      refine mv rfl rfl rfl rfl rfl ?_
      refine sp rfl (OpT.nilCheck rfl (dl rfl rfl) rfl rfl ?_)
      refine sp rfl (OpT.fieldPtr rfl (dl rfl rfl) Try.underlying54 rfl i29 (by decide) rfl ?_)
      refine sp rfl (OpT.thenTurn (OpT.loadBox (i := 0) rfl (dl rfl rfl) Try.underlying29 rfl rfl rfl rfl rfl) (Turn.viewP 16 1 rfl) ?_)
      refine mv rfl rfl rfl rfl rfl ?_
      refine TL'.turn Turn.keepPlace ?_
      obtain ⟨v_61, e_62, h⟩ := bind_some h
      refine sp rfl (OpT.callG (is := [0]) (ph := [.ro 0 []]) rfl (dl rfl rfl) Try.func14 rfl rfl (Args.cons rfl (Args.cons rfl Args.nil)) (table_Number_T K (flx0 := false) e_62) (.cons rfl rfl (.nil)) (fun _ => rfl) (fun γ_63 => ?_))
      refine nm (.c (.c (.c (.n)))) ?_
      refine sp rfl (OpT.nilCheck rfl (dl rfl rfl) rfl rfl ?_)
      refine sp rfl (OpT.fieldPtr rfl (dl rfl rfl) Try.underlying54 rfl i29 (by decide) rfl ?_)
      refine sp rfl (OpT.storeTo (i := 1) (cells' := [.d (.ex (γ_63 0))]) rfl rfl i29 rfl rfl rfl (Nat.le_of_ble_eq_true rfl) rfl ?_)
      refine TL'.nil (inBlock_normal (thenS_normal ?_))
      refine T.regionL ?_
      refine sp rfl (OpT.int2 rfl rfl (dl rfl rfl) rfl rfl ?_)
      refine mv rfl rfl rfl rfl rfl ?_
      refine TL'.nil (thenS_normal ?_)
      refine TL.by_turn ?_ (ih x1 x7_0_2 (IntKind.i64.wrap (x8_0_3 + (1 : Int))) v_61 flx1 (γ_63 0) h)
      exact Turn.rp (.cons rfl (.cons rfl (.cons rfl (.cons rfl (.nil _))))) (.c (.s .z) (.c .z (.n _)))
    · refine T.condF rfl c_57 ?_
      refine T.exit (thenS_exit (thenS_exit (inBlock_exit ?_)))
      exact Fin.doneK (.nil) (.cons 0 rfl (.cons 0 rfl (.nil _))) (by cases h; exact ⟨gl [w0_0], rfl, rfl⟩)

theorem table_writer_num_T (K : Nat) {x0 : table_writer} {x1 : List Int} {bx0 : Nat} {wx0c0 : Value} {flx1 : Bool} {r : table_writer} (h : table_writer_num K x0 x1 = some r) : CallG Try.prog 22 [.ptr bx0 0, .sl flx1 1 (x1.map (cI .i64))] [.box bx0 54 [.d (.ex wx0c0)], .arrA wx0c0 5 1 (x0.b.map (cI .u8))] (fun γ => (.tup [])) (fun γ => [.box bx0 54 [.d (.ex (γ 0))], .arrA (γ 0) 5 1 (r.b.map (cI .u8))]) := by
  refine CallT.intro Try.func22 rfl (Nat.le_of_ble_eq_true rfl) ?_
  show T Try.prog 22 (Code.at [] (codeOf Try.f22)) ⟨paramSlots 0 [.ptr bx0 0, .sl flx1 1 (x1.map (cI .i64))], [.box bx0 54 [.d (.ex wx0c0)], .arrA wx0c0 5 1 (x0.b.map (cI .u8))]⟩ (table_writer_num_q bx0 r)
  unfold table_writer_num at h
  refine T.seq ?_
  refine T.regionL ?_
  refine mv rfl rfl rfl rfl rfl ?_
  refine sp rfl (OpT.lenSlM (xs := x1) (f := (cI .i64)) rfl (dl rfl rfl) Try.underlying56 rfl ?_)
  refine mv rfl rfl rfl rfl rfl ?_
  refine TL'.nil (thenS_normal ?_)
  refine T.block ?_
  refine T.loop ?_
  refine TL.by_turn ?_ (table_writer_num_l0_T K bx0 K x1 (x1.length : Int) (0 : Int) x0.b flx1 wx0c0 h)
  exact Turn.rp (.cons rfl (.cons rfl (.cons rfl (.cons rfl (.nil _))))) (.c .z (.c .z (.n _)))

abbrev table_writer_list_q (bx0 : Nat) (r : table_writer) : Exit → St → Prop := retS Try.prog Try.f23 (fun y t => ∃ γ : Nat → Value, y = (.tup []) ∧ t = [.box bx0 54 [.d (.ex (γ 0))], .arrA (γ 0) 5 1 (r.b.map (cI .u8))])

theorem table_writer_list_T (K : Nat) {x0 : table_writer} {x1 : List Int} {bx0 : Nat} {wx0c0 : Value} {flx1 : Bool} {r : table_writer} (h : table_writer_list K x0 x1 = some r) : CallG Try.prog 23 [.ptr bx0 0, .sl flx1 1 (x1.map (cI .i64))] [.box bx0 54 [.d (.ex wx0c0)], .arrA wx0c0 5 1 (x0.b.map (cI .u8))] (fun γ => (.tup [])) (fun γ => [.box bx0 54 [.d (.ex (γ 0))], .arrA (γ 0) 5 1 (r.b.map (cI .u8))]) := by
  refine CallT.intro Try.func23 rfl (Nat.le_of_ble_eq_true rfl) ?_
  show T Try.prog 12 (Code.at [] (codeOf Try.f23)) ⟨paramSlots 0 [.ptr bx0 0, .sl flx1 1 (x1.map (cI .i64))], [.box bx0 54 [.d (.ex wx0c0)], .arrA wx0c0 5 1 (x0.b.map (cI .u8))]⟩ (table_writer_list_q bx0 r)
  unfold table_writer_list at h
  refine T.seq ?_
  refine T.regionL ?_
  refine mv rfl rfl rfl rfl rfl ?_
  refine mv rfl rfl rfl rfl rfl ?_
  refine sp rfl (OpT.lenSlM (xs := x1) (f := (cI .i64)) rfl (dl rfl rfl) Try.underlying56 rfl ?_)
  refine sp rfl (OpT.buildSlice (elems := ([(x1.length : Int)] : List Int).map (cI .i64)) rfl (dl rfl rfl) Try.underlying56 i3 (by decide) rfl (all1 rfl) rfl rfl rfl (lenAll rfl) (by decide) ?_)
  obtain ⟨v_19, e_20, h⟩ := bind_some h
  refine sp rfl (OpT.callG (is := [0, 1]) (ph := []) rfl (dl rfl rfl) Try.func22 rfl rfl (Args.cons rfl (Args.cons rfl Args.nil)) (table_writer_num_T K (bx0 := bx0) (wx0c0 := wx0c0) (flx1 := true) e_20) (.cons rfl rfl (.cons rfl rfl (.nil))) (fun _ => rfl) (fun γ_21 => ?_))
  refine nm (.c (.c (.n))) ?_
  refine TL'.nil (thenS_normal ?_)
  refine T.regionL ?_
  refine mv rfl rfl rfl rfl rfl ?_
  refine mv rfl rfl rfl rfl rfl ?_
  obtain ⟨v_22, e_23, h⟩ := bind_some h
  refine sp rfl (OpT.callG (is := [0, 1]) (ph := []) rfl (dl rfl rfl) Try.func22 rfl rfl (Args.cons rfl (Args.cons rfl Args.nil)) (table_writer_num_T K (bx0 := bx0) (wx0c0 := (γ_21 0)) (flx1 := flx1) e_23) (.cons rfl rfl (.cons rfl rfl (.nil))) (fun _ => rfl) (fun γ_24 => ?_))
  refine nm (.c (.c (.n))) ?_
  refine TL'.nil ?_
  exact Fin.doneK (.nil) (.cons 0 rfl (.cons 0 rfl (.nil _))) (by cases h; exact ⟨gl [γ_24 0], rfl, rfl⟩)

end Go.Rv

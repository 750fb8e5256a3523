/- Each function computes what its plain text says: printed by a program of ours. -/
import Derived.Test.YtnedpcjnhkmikaaRgW1
namespace Go.Rv
open Go.Proofs
set_option maxRecDepth 100000
set_option linter.unusedVariables false

abbrev raddlelaw19_PlaceLines_q (r : Bool) : Exit → St → Prop := retS Try.prog Try.f6 (fun y t => y = (.c (.ex (.bool r))) ∧ t = [])

abbrev raddlelaw19_PlaceLines_qs111111 (r : Bool) : Exit → St → Prop := thenS (fun s' => T Try.prog 95 (Code.at [1, 1, 1, 1, 1, 1] (codeOf Try.f6)) s' ((raddlelaw19_PlaceLines_q r))) ((raddlelaw19_PlaceLines_q r))

abbrev raddlelaw19_PlaceLines_qb0x111111 (r : Bool) : Exit → St → Prop := inBlockS 0 ((raddlelaw19_PlaceLines_qs111111 r))

abbrev raddlelaw19_PlaceLines_ql11111010 (r : Bool) : Exit → St → Prop := thenS (fun s' => TL Try.prog 95 (Code.at [1, 1, 1, 1, 1, 0, 1, 0, 0] (codeOf Try.f6)) s' ((raddlelaw19_PlaceLines_qb0x111111 r))) ((raddlelaw19_PlaceLines_qb0x111111 r))

abbrev raddlelaw19_PlaceLines_qs111110100111 (r : Bool) : Exit → St → Prop := thenS (fun s' => T Try.prog 95 (Code.at [1, 1, 1, 1, 1, 0, 1, 0, 0, 1, 1, 1] (codeOf Try.f6)) s' ((raddlelaw19_PlaceLines_ql11111010 r))) ((raddlelaw19_PlaceLines_ql11111010 r))

abbrev raddlelaw19_PlaceLines_qb1_0x111110100111 (r : Bool) : Exit → St → Prop := inBlockS 1 ((raddlelaw19_PlaceLines_qs111110100111 r))

abbrev raddlelaw19_PlaceLines_qb2_1_0x111110100111 (r : Bool) : Exit → St → Prop := inBlockS 2 ((raddlelaw19_PlaceLines_qb1_0x111110100111 r))

theorem raddlelaw19_PlaceLines_l2_T {r : Bool} (K : Nat) (go0 : Bool → Int → (List (List Int)) → (List (List Int)) → Int → Int → (List Int) → Option Bool) (hgo0 : ∀ (x3_0_0 : Bool) (x5_0_2 : Int) (x6_0_3 : List (List Int)) (x21_0_4 : List (List Int)) (x22_0_5 : Int) (x23_0_6 : Int) (y4_0_1 : List Int) (w4_0 : Value), go0 x3_0_0 x5_0_2 x6_0_3 x21_0_4 x22_0_5 x23_0_6 y4_0_1 = some r → TL Try.prog 95 (Code.at [1, 1, 1, 1, 1, 0, 1, 0, 0] (codeOf Try.f6)) ⟨[(3, .c (.ex (.bool x3_0_0))), (4, .c (.ex w4_0)), (5, .c (.ex (.int .i64 x5_0_2))), (6, .c (.sl false 1 (x6_0_3.map (cL 1 (cI .u8))))), (21, .c (.sl false 1 (x21_0_4.map (cL 1 (cI .u8))))), (22, .c (.ex (.int .i64 x22_0_5))), (23, .c (.ex (.int .i64 x23_0_6)))], [.arrA w4_0 5 1 (y4_0_1.map (cI .u8))]⟩ (raddlelaw19_PlaceLines_qb0x111111 r)) : ∀ (k : Nat), ∀ (x3_0_0 : Bool) (x5_2_2 : Int) (x6_2_3 : List (List Int)) (x21_2_4 : List (List Int)) (x22_2_5 : Int) (x23_2_6 : Int) (x33_2_7 : List Int) (x34_2_8 : Int) (x35_2_9 : Int) (y4_2_1 : List Int) (w4_2 : Value), raddlelaw19_PlaceLines_l2 K go0 k x3_0_0 x5_2_2 x6_2_3 x21_2_4 x22_2_5 x23_2_6 x33_2_7 x34_2_8 x35_2_9 y4_2_1 = some r → TL Try.prog 95 (Code.at [1, 1, 1, 1, 1, 0, 1, 0, 0, 1, 1, 0, 0, 1, 1, 1, 1, 0, 0] (codeOf Try.f6)) ⟨[(3, .c (.ex (.bool x3_0_0))), (4, .c (.ex w4_2)), (5, .c (.ex (.int .i64 x5_2_2))), (6, .c (.sl false 1 (x6_2_3.map (cL 1 (cI .u8))))), (21, .c (.sl false 1 (x21_2_4.map (cL 1 (cI .u8))))), (22, .c (.ex (.int .i64 x22_2_5))), (23, .c (.ex (.int .i64 x23_2_6))), (33, .c (.sl false 1 (x33_2_7.map (cI .u8)))), (34, .c (.ex (.int .i64 x34_2_8))), (35, .c (.ex (.int .i64 x35_2_9)))], [.arrA w4_2 5 1 (y4_2_1.map (cI .u8))]⟩ (raddlelaw19_PlaceLines_qb2_1_0x111110100111 r) := by
  intro k
  induction k with
  | zero =>
    intro x3_0_0 x5_2_2 x6_2_3 x21_2_4 x22_2_5 x23_2_6 x33_2_7 x34_2_8 x35_2_9 y4_2_1 w4_2 h
    cases (show (none : Option Bool) = some r from h)
  | succ k ih =>
    intro x3_0_0 x5_2_2 x6_2_3 x21_2_4 x22_2_5 x23_2_6 x33_2_7 x34_2_8 x35_2_9 y4_2_1 w4_2 h
    rw [raddlelaw19_PlaceLines_l2] at h
    refine TL.round ?_
    refine T.seq ?_
    refine T.regionL ?_
    refine TL'.step (.free rfl) (OpT.int2 rfl rfl (dlt rfl (by decide)) rfl rfl ?_)
    refine TL'.nil (thenS_normal ?_)
    refine T.seq ?_
    rcases bif_some h with ⟨c_469, h⟩ | ⟨c_469, h⟩
    · refine T.condT rfl c_469 ?_
      refine T.skip (thenS_normal ?_)
      refine T.seq ?_
      refine T.block ?_
      refine T.seq ?_
      refine T.regionL ?_
      refine TL'.step (.free rfl) (OpT.move rfl (dlt rfl (by decide)) rfl ?_)
      obtain ⟨v_470, e_471, h⟩ := bind_some h
      refine TL'.step (.free rfl) (OpT.indexSlM (xs := x33_2_7) (f := (cI .u8)) (v := v_470) rfl (dlt rfl (by decide)) Try.underlying24 i5 rfl rfl e_471 ?_)
      refine TL'.step (.free rfl) (OpT.loadRef rfl (dlt rfl (by decide)) Try.underlying5 rfl rfl rfl ?_)
      refine TL'.step (.free rfl) (OpT.assign rfl (dlt rfl (by decide)) rfl ?_)
      refine TL'.step (.free rfl) (OpT.assign rfl (dlt rfl (by decide)) rfl ?_)
      refine TL'.nil (thenS_normal ?_)
      refine T.seq ?_
      refine T.regionL ?_
      refine TL'.step (.free rfl) (OpT.move rfl (dlt rfl (by decide)) rfl ?_)
      refine TL'.step (.free rfl) (OpT.int2 rfl rfl (dlt rfl (by decide)) rfl rfl ?_)
      refine TL'.step (.free rfl) (OpT.move rfl (dlt rfl (by decide)) rfl ?_)
      rcases bif_some h with ⟨c_472, h⟩ | ⟨c_472, h⟩
      · refine TL'.step (.on rfl rfl rfl c_472) (OpT.move rfl (dlt rfl (by decide)) rfl ?_)
        refine TL'.step (.on rfl rfl rfl c_472) (OpT.int2 rfl rfl (dlt rfl (by decide)) rfl rfl ?_)
        refine TL'.step (.free rfl) (OpT.pickT rfl (dlt rfl (by decide)) rfl c_472 rfl ?_)
        refine TL'.nil (thenS_normal ?_)
        rcases bif_some h with ⟨c_473, h⟩ | ⟨c_473, h⟩
        · refine T.condT rfl c_473 ?_
          refine T.seq ?_
          refine T.regionL ?_
          refine TL'.step (.free rfl) (OpT.move rfl (dlt rfl (by decide)) rfl ?_)
          refine TL'.step (.free rfl) (OpT.move rfl (dlt rfl (by decide)) rfl ?_)
          refine TL'.step (.free rfl) (OpT.buildSlice (elems := ([v_470] : List Int).map (cI .u8)) rfl (dlt rfl (by decide)) Try.underlying24 i5 (by decide) rfl (all1 rfl) rfl rfl rfl (lenAll rfl) (by decide) ?_)
          obtain ⟨g_475, h⟩ := ck_some h
          refine TL'.step (.free rfl) (OpT.appendAM (i := 0) (xs := y4_2_1) (ys := [v_470]) (f := (cI .u8)) rfl (dlt rfl (by decide)) Try.underlying24 i5 rfl rfl rfl rfl g_475 (fun w_474 => ?_))
          refine TL'.step (.free rfl) (OpT.assign rfl (dlt rfl (by decide)) rfl ?_)
          refine TL'.nil (thenS_normal ?_)
          refine T.regionL ?_
          refine TL'.step (.free rfl) (OpT.move rfl (dlt rfl (by decide)) rfl ?_)
          refine TL'.step (.free rfl) (OpT.int2 rfl rfl (dlt rfl (by decide)) rfl rfl ?_)
          refine TL'.step (.free rfl) (OpT.assign rfl (dlt rfl (by decide)) rfl ?_)
          refine TL'.nil (inBlock_normal (thenS_normal ?_))
          refine T.regionL ?_
          refine TL'.step (.free rfl) (OpT.int2 rfl rfl (dlt rfl (by decide)) rfl rfl ?_)
          refine TL'.step (.free rfl) (OpT.move rfl (dlt rfl (by decide)) rfl ?_)
          refine TL'.nil (thenS_normal ?_)
          refine TL.by_turn ?_ (ih x3_0_0 (IntKind.i64.wrap (x5_2_2 + (1 : Int))) x6_2_3 x21_2_4 x22_2_5 x23_2_6 x33_2_7 x34_2_8 (IntKind.i64.wrap (x35_2_9 + (1 : Int))) (y4_2_1 ++ [v_470]) w_474 h)
          exact Turn.re (.cons rfl (.cons rfl (.cons rfl (.cons rfl (.cons rfl (.cons rfl (.cons rfl (.cons rfl (.cons rfl (.cons rfl (.nil _))))))))))) (.cons 0 rfl (.nil _))
        · refine T.condF rfl c_473 ?_
          refine T.skip (inBlock_normal (thenS_normal ?_))
          refine T.regionL ?_
          refine TL'.step (.free rfl) (OpT.int2 rfl rfl (dlt rfl (by decide)) rfl rfl ?_)
          refine TL'.step (.free rfl) (OpT.move rfl (dlt rfl (by decide)) rfl ?_)
          refine TL'.nil (thenS_normal ?_)
          refine TL.by_turn ?_ (ih x3_0_0 x5_2_2 x6_2_3 x21_2_4 x22_2_5 x23_2_6 x33_2_7 x34_2_8 (IntKind.i64.wrap (x35_2_9 + (1 : Int))) y4_2_1 w4_2 h)
          exact Turn.re (.cons rfl (.cons rfl (.cons rfl (.cons rfl (.cons rfl (.cons rfl (.cons rfl (.cons rfl (.cons rfl (.cons rfl (.nil _))))))))))) (.cons 0 rfl (.nil _))
      · refine TL'.passU (.off _ _ _ _ rfl rfl rfl c_472) (dlt rfl (by decide)) ?_
        refine TL'.passU (.off _ _ _ _ rfl rfl rfl c_472) (dlt rfl (by decide)) ?_
        refine TL'.step (.free rfl) (OpT.pickF rfl (dlt rfl (by decide)) rfl c_472 rfl ?_)
        refine TL'.nil (thenS_normal ?_)
        refine T.condF rfl rfl ?_
        refine T.skip (inBlock_normal (thenS_normal ?_))
        refine T.regionL ?_
        refine TL'.step (.free rfl) (OpT.int2 rfl rfl (dlt rfl (by decide)) rfl rfl ?_)
        refine TL'.step (.free rfl) (OpT.move rfl (dlt rfl (by decide)) rfl ?_)
        refine TL'.nil (thenS_normal ?_)
        refine TL.by_turn ?_ (ih x3_0_0 x5_2_2 x6_2_3 x21_2_4 x22_2_5 x23_2_6 x33_2_7 x34_2_8 (IntKind.i64.wrap (x35_2_9 + (1 : Int))) y4_2_1 w4_2 h)
        exact Turn.re (.cons rfl (.cons rfl (.cons rfl (.cons rfl (.cons rfl (.cons rfl (.cons rfl (.cons rfl (.cons rfl (.cons rfl (.nil _))))))))))) (.cons 0 rfl (.nil _))
    · refine T.condF rfl c_469 ?_
      refine T.exit (thenS_exit (thenS_exit (inBlock_exit (inBlock_normal (thenS_normal ?_)))))
      refine T.regionL ?_
      refine TL'.step (.free rfl) (OpT.int2 rfl rfl (dlt rfl (by decide)) rfl rfl ?_)
      refine TL'.step (.free rfl) (OpT.move rfl (dlt rfl (by decide)) rfl ?_)
      refine TL'.nil (thenS_normal ?_)
      refine TL.by_turn ?_ (hgo0 x3_0_0 x5_2_2 x6_2_3 x21_2_4 x22_2_5 (IntKind.i64.wrap (x23_2_6 + (1 : Int))) y4_2_1 w4_2 h)
      exact Turn.re (.cons rfl (.cons rfl (.cons rfl (.cons rfl (.cons rfl (.cons rfl (.cons rfl (.nil _)))))))) (.cons 0 rfl (.nil _))

theorem raddlelaw19_PlaceLines_j1_T {r : Bool} (K : Nat) (go0 : Bool → Int → (List (List Int)) → (List (List Int)) → Int → Int → (List Int) → Option Bool) (hgo0 : ∀ (x3_0_0 : Bool) (x5_0_2 : Int) (x6_0_3 : List (List Int)) (x21_0_4 : List (List Int)) (x22_0_5 : Int) (x23_0_6 : Int) (y4_0_1 : List Int) (w4_0 : Value), go0 x3_0_0 x5_0_2 x6_0_3 x21_0_4 x22_0_5 x23_0_6 y4_0_1 = some r → TL Try.prog 95 (Code.at [1, 1, 1, 1, 1, 0, 1, 0, 0] (codeOf Try.f6)) ⟨[(3, .c (.ex (.bool x3_0_0))), (4, .c (.ex w4_0)), (5, .c (.ex (.int .i64 x5_0_2))), (6, .c (.sl false 1 (x6_0_3.map (cL 1 (cI .u8))))), (21, .c (.sl false 1 (x21_0_4.map (cL 1 (cI .u8))))), (22, .c (.ex (.int .i64 x22_0_5))), (23, .c (.ex (.int .i64 x23_0_6)))], [.arrA w4_0 5 1 (y4_0_1.map (cI .u8))]⟩ (raddlelaw19_PlaceLines_qb0x111111 r)) (x3_0_0 : Bool) (x6_1_2 : List (List Int)) (x8_1_3 : List Int) (x21_1_4 : List (List Int)) (x22_1_5 : Int) (x23_1_6 : Int) (y4_1_1 : List Int) (w4_1 : Value) (h : raddlelaw19_PlaceLines_j1 K go0 x3_0_0 x6_1_2 x8_1_3 x21_1_4 x22_1_5 x23_1_6 y4_1_1 = some r) : T Try.prog 95 (Code.at [1, 1, 1, 1, 1, 0, 1, 0, 0, 1, 1, 0, 0, 1, 1] (codeOf Try.f6)) ⟨[(3, .c (.ex (.bool x3_0_0))), (4, .c (.ex w4_1)), (6, .c (.sl false 1 (x6_1_2.map (cL 1 (cI .u8))))), (8, .c (.sl false 1 (x8_1_3.map (cI .u8)))), (21, .c (.sl false 1 (x21_1_4.map (cL 1 (cI .u8))))), (22, .c (.ex (.int .i64 x22_1_5))), (23, .c (.ex (.int .i64 x23_1_6)))], [.arrA w4_1 5 1 (y4_1_1.map (cI .u8))]⟩ (raddlelaw19_PlaceLines_qb1_0x111110100111 r) := by
  unfold raddlelaw19_PlaceLines_j1 at h
  refine T.seq ?_
  refine T.regionL ?_
  refine TL'.step (.free rfl) (OpT.assign rfl (dlt rfl (by decide)) rfl ?_)
  refine TL'.nil (thenS_normal ?_)
  refine T.seq ?_
  refine T.regionL ?_
  refine TL'.step (.free rfl) (OpT.move rfl (dlt rfl (by decide)) rfl ?_)
  refine TL'.step (.free rfl) (OpT.lenSlM (xs := x8_1_3) (f := (cI .u8)) rfl (dlt rfl (by decide)) Try.underlying24 rfl ?_)
  refine TL'.step (.free rfl) (OpT.move rfl (dlt rfl (by decide)) rfl ?_)
  refine TL'.nil (thenS_normal ?_)
  refine T.block ?_
  refine T.loop ?_
  refine TL.by_turn ?_ (raddlelaw19_PlaceLines_l2_T K go0 hgo0 K x3_0_0 (0 : Int) x6_1_2 x21_1_4 x22_1_5 x23_1_6 x8_1_3 (x8_1_3.length : Int) (0 : Int) y4_1_1 w4_1 h)
  exact Turn.re (.cons rfl (.cons rfl (.cons rfl (.cons rfl (.cons rfl (.cons rfl (.cons rfl (.cons rfl (.cons rfl (.cons rfl (.nil _))))))))))) (.cons 0 rfl (.nil _))

theorem raddlelaw19_PlaceLines_l0_T {r : Bool} (K : Nat) : ∀ (k : Nat), ∀ (x3_0_0 : Bool) (x5_0_2 : Int) (x6_0_3 : List (List Int)) (x21_0_4 : List (List Int)) (x22_0_5 : Int) (x23_0_6 : Int) (y4_0_1 : List Int) (w4_0 : Value), raddlelaw19_PlaceLines_l0 K k x3_0_0 x5_0_2 x6_0_3 x21_0_4 x22_0_5 x23_0_6 y4_0_1 = some r → TL Try.prog 95 (Code.at [1, 1, 1, 1, 1, 0, 1, 0, 0] (codeOf Try.f6)) ⟨[(3, .c (.ex (.bool x3_0_0))), (4, .c (.ex w4_0)), (5, .c (.ex (.int .i64 x5_0_2))), (6, .c (.sl false 1 (x6_0_3.map (cL 1 (cI .u8))))), (21, .c (.sl false 1 (x21_0_4.map (cL 1 (cI .u8))))), (22, .c (.ex (.int .i64 x22_0_5))), (23, .c (.ex (.int .i64 x23_0_6)))], [.arrA w4_0 5 1 (y4_0_1.map (cI .u8))]⟩ (raddlelaw19_PlaceLines_qb0x111111 r) := by
  intro k
  induction k with
  | zero =>
    intro x3_0_0 x5_0_2 x6_0_3 x21_0_4 x22_0_5 x23_0_6 y4_0_1 w4_0 h
    cases (show (none : Option Bool) = some r from h)
  | succ k ih =>
    intro x3_0_0 x5_0_2 x6_0_3 x21_0_4 x22_0_5 x23_0_6 y4_0_1 w4_0 h
    rw [raddlelaw19_PlaceLines_l0] at h
    refine TL.round ?_
    refine T.seq ?_
    refine T.regionL ?_
    refine TL'.step (.free rfl) (OpT.int2 rfl rfl (dlt rfl (by decide)) rfl rfl ?_)
    refine TL'.nil (thenS_normal ?_)
    refine T.seq ?_
    rcases bif_some h with ⟨c_463, h⟩ | ⟨c_463, h⟩
    · refine T.condT rfl c_463 ?_
      refine T.skip (thenS_normal ?_)
      refine T.seq ?_
      refine T.block ?_
      refine T.seq ?_
      refine T.regionL ?_
      refine TL'.step (.free rfl) (OpT.move rfl (dlt rfl (by decide)) rfl ?_)
      obtain ⟨v_464, e_465, h⟩ := bind_some h
      refine TL'.step (.free rfl) (OpT.indexSlM (xs := x21_0_4) (f := (cL 1 (cI .u8))) (v := v_464) rfl (dlt rfl (by decide)) Try.underlying36 i24 rfl rfl e_465 ?_)
      refine TL'.step (.free rfl) (OpT.loadRef rfl (dlt rfl (by decide)) Try.underlying24 rfl rfl rfl ?_)
      refine TL'.step (.free rfl) (OpT.assign rfl (dlt rfl (by decide)) rfl ?_)
      refine TL'.step (.free rfl) (OpT.assign rfl (dlt rfl (by decide)) rfl ?_)
      refine TL'.nil (thenS_normal ?_)
      refine T.seq ?_
      refine T.seq ?_
      refine T.regionL ?_
      refine TL'.step (.free rfl) (OpT.move rfl (dlt rfl (by decide)) rfl ?_)
      refine TL'.step (.free rfl) (OpT.int2 rfl rfl (dlt rfl (by decide)) rfl rfl ?_)
      refine TL'.nil (thenS_normal ?_)
      rcases bif_some h with ⟨c_466, h⟩ | ⟨c_466, h⟩
      · refine T.condT rfl c_466 ?_
        refine T.regionL ?_
        refine TL'.step (.free rfl) (OpT.move rfl (dlt rfl (by decide)) rfl ?_)
        refine TL'.step (.free rfl) (OpT.buildSlice (elems := ([(10 : Int)] : List Int).map (cI .u8)) rfl (dlt rfl (by decide)) Try.underlying24 i5 (by decide) rfl (all1 rfl) rfl rfl rfl (lenAll rfl) (by decide) ?_)
        obtain ⟨g_468, h⟩ := ck_some h
        refine TL'.step (.free rfl) (OpT.appendAM (i := 0) (xs := y4_0_1) (ys := [(10 : Int)]) (f := (cI .u8)) rfl (dlt rfl (by decide)) Try.underlying24 i5 rfl rfl rfl rfl g_468 (fun w_467 => ?_))
        refine TL'.step (.free rfl) (OpT.assign rfl (dlt rfl (by decide)) rfl ?_)
        refine TL'.nil (thenS_normal ?_)
        refine T.by_turn ?_ (raddlelaw19_PlaceLines_j1_T K (raddlelaw19_PlaceLines_l0 K k) ih x3_0_0 x6_0_3 v_464 x21_0_4 x22_0_5 x23_0_6 (y4_0_1 ++ [(10 : Int)]) w_467 h)
        exact Turn.re (.cons rfl (.cons rfl (.cons rfl (.cons rfl (.cons rfl (.cons rfl (.cons rfl (.nil _)))))))) (.cons 0 rfl (.nil _))
      · refine T.condF rfl c_466 ?_
        refine T.skip (thenS_normal ?_)
        refine T.by_turn ?_ (raddlelaw19_PlaceLines_j1_T K (raddlelaw19_PlaceLines_l0 K k) ih x3_0_0 x6_0_3 v_464 x21_0_4 x22_0_5 x23_0_6 y4_0_1 w4_0 h)
        exact Turn.re (.cons rfl (.cons rfl (.cons rfl (.cons rfl (.cons rfl (.cons rfl (.cons rfl (.nil _)))))))) (.cons 0 rfl (.nil _))
    · refine T.condF rfl c_463 ?_
      refine T.exit (thenS_exit (thenS_exit (inBlock_exit (thenS_normal ?_))))
      refine T.seq ?_
      refine T.regionL ?_
      refine TL'.step (.free rfl) (OpT.move rfl (dlt rfl (by decide)) rfl ?_)
      refine TL'.step (.free rfl) (OpT.move rfl (dlt rfl (by decide)) rfl ?_)
      refine TL'.step (.free rfl) (OpT.lenAM (i := 0) (xs := y4_0_1) (f := (cI .u8)) rfl (dlt rfl (by decide)) Try.underlying24 rfl rfl ?_)
      obtain ⟨v_476, e_477, h⟩ := bind_some h
      refine TL'.step (.free rfl) (OpT.callPA rfl (dlt rfl (by decide)) Try.func11 rfl rfl (Args.view (i := 0) rfl rfl (Args.cons rfl Args.nil)) (CallR.nil (place_Of_T (fl0 := false) e_477)) ?_)
      refine TL'.step (.free rfl) (OpT.move rfl (dlt rfl (by decide)) rfl ?_)
      refine TL'.step (.free rfl) (OpT.extract rfl (dlt rfl (by decide)) rfl rfl ?_)
      refine TL'.step (.free rfl) (OpT.extract rfl (dlt rfl (by decide)) rfl rfl ?_)
      refine TL'.step (.free rfl) (OpT.alloc' rfl (dlt rfl (by decide)) i23 rfl (fun b_478 => ?_))
      refine TL'.step (.free rfl) (OpT.storeAggTo (i := 0) (cells' := [.d (.ex (.int .i64 v_476.1.Line)), .d (.ex (.int .i64 v_476.1.Col))]) rfl rfl i23 rfl rfl rfl rfl (Nat.le_of_ble_eq_true rfl) rfl ?_)
      refine TL'.step (.free rfl) (OpT.assign rfl (dlt rfl (by decide)) rfl ?_)
      refine TL'.nil (thenS_normal ?_)
      refine T.seq ?_
      refine T.regionL ?_
      refine TL'.step (.free rfl) (OpT.move rfl (dlt rfl (by decide)) rfl ?_)
      refine TL'.step (.free rfl) (OpT.move rfl (dlt rfl (by decide)) rfl ?_)
      refine TL'.step (.free rfl) (OpT.lenSlM (xs := x6_0_3) (f := (cL 1 (cI .u8))) rfl (dlt rfl (by decide)) Try.underlying36 rfl ?_)
      refine TL'.step (.free rfl) (OpT.max2 rfl (dlt rfl (by decide)) rfl rfl ?_)
      refine TL'.step (.free rfl) (OpT.build (l := [.ex (.int .i64 (if (1 : Int) > (x6_0_3.length : Int) then (1 : Int) else (x6_0_3.length : Int))), .ex (.int .i64 (1 : Int))]) rfl (dlt rfl (by decide)) (built_struct (pl := [(0, 1), (1, 1)]) Try.underlying23 i23 rfl) (all1 rfl) rfl rfl ?_)
      obtain ⟨v_479, e_480, h⟩ := bind_some h
      refine TL'.step (.free rfl) (OpT.callPA rfl (dlt rfl (by decide)) Try.func13 rfl rfl (Args.view (i := 1) rfl rfl (Args.cons rfl Args.nil)) (CallR.nil (place_At_T (fl0 := false) e_480)) ?_)
      refine TL'.step (.free rfl) (OpT.move rfl (dlt rfl (by decide)) rfl ?_)
      refine TL'.step (.free rfl) (OpT.extract rfl (dlt rfl (by decide)) rfl rfl ?_)
      refine TL'.step (.free rfl) (OpT.extract rfl (dlt rfl (by decide)) rfl rfl ?_)
      refine TL'.step (.free rfl) (OpT.assign rfl (dlt rfl (by decide)) rfl ?_)
      refine TL'.step (.free rfl) (OpT.assign rfl (dlt rfl (by decide)) rfl ?_)
      refine TL'.nil (thenS_normal ?_)
      refine T.seq ?_
      refine T.regionL ?_
      refine TL'.step (.free rfl) (OpT.move rfl (dlt rfl (by decide)) rfl ?_)
      refine TL'.step (.free rfl) (OpT.move rfl (dlt rfl (by decide)) rfl ?_)
      rcases bif_some h with ⟨c_481, h⟩ | ⟨c_481, h⟩
      · refine TL'.step (.on rfl rfl rfl c_481) (OpT.move rfl (dlt rfl (by decide)) rfl ?_)
        refine TL'.step (.free rfl) (OpT.pickT rfl (dlt rfl (by decide)) rfl c_481 rfl ?_)
        refine TL'.step (.free rfl) (OpT.move rfl (dlt rfl (by decide)) rfl ?_)
        rcases bif_some h with ⟨c_482, h⟩ | ⟨c_482, h⟩
        · refine TL'.step (.on rfl rfl rfl c_482) (OpT.loadBoxAgg (i := 0) (l := [.ex (.int .i64 v_476.1.Line), .ex (.int .i64 v_476.1.Col)]) rfl (dlt rfl (by decide)) Try.underlying23 rfl i23 rfl rfl rfl rfl ?_)
          refine TL'.step (.on rfl rfl rfl c_482) (OpT.move rfl (dlt rfl (by decide)) rfl ?_)
          refine TL'.step (.on rfl rfl rfl c_482) (OpT.lenSlM (xs := x6_0_3) (f := (cL 1 (cI .u8))) rfl (dlt rfl (by decide)) Try.underlying36 rfl ?_)
          refine TL'.step (.on rfl rfl rfl c_482) (OpT.max2 rfl (dlt rfl (by decide)) rfl rfl ?_)
          refine TL'.step (.on rfl rfl rfl c_482) (OpT.move rfl (dlt rfl (by decide)) rfl ?_)
          refine TL'.step (.on rfl rfl rfl c_482) (OpT.int2 rfl rfl (dlt rfl (by decide)) rfl rfl ?_)
          refine TL'.step (.on rfl rfl rfl c_482) (OpT.build (l := [.ex (.int .i64 (if (1 : Int) > (x6_0_3.length : Int) then (1 : Int) else (x6_0_3.length : Int))), .ex (.int .i64 (IntKind.i64.wrap (x5_0_2 + (1 : Int))))]) rfl (dlt rfl (by decide)) (built_struct (pl := [(0, 1), (1, 1)]) Try.underlying23 i23 rfl) (all1 rfl) rfl rfl ?_)
          refine TL'.step (.on rfl rfl rfl c_482) (OpT.structEql (ks := [.i64, .i64]) (us := ([v_476.1.Line, v_476.1.Col] : List Int)) (ys := ([(if (1 : Int) > (x6_0_3.length : Int) then (1 : Int) else (x6_0_3.length : Int)), (IntKind.i64.wrap (x5_0_2 + (1 : Int)))] : List Int)) rfl (dlt rfl (by decide)) Try.underlying23 Try.stoodInHeld23 (by kernel_rfl) Try.eqGuardType23 rfl rfl rfl rfl rfl rfl rfl ?_)
          refine TL'.step (.free rfl) (OpT.pickT rfl (dlt rfl (by decide)) rfl c_482 rfl ?_)
          refine TL'.step (.free rfl) (OpT.move rfl (dlt rfl (by decide)) rfl ?_)
          rcases bif_some h with ⟨c_483, h⟩ | ⟨c_483, h⟩
          · refine TL'.step (.on rfl rfl rfl c_483) (OpT.move rfl (dlt rfl (by decide)) rfl ?_)
            refine TL'.step (.free rfl) (OpT.pickT rfl (dlt rfl (by decide)) rfl c_483 rfl ?_)
            refine TL'.step (.free rfl) (OpT.move rfl (dlt rfl (by decide)) rfl ?_)
            rcases bif_some h with ⟨c_484, h⟩ | ⟨c_484, h⟩
            · refine TL'.step (.on rfl rfl rfl c_484) (OpT.move rfl (dlt rfl (by decide)) rfl ?_)
              refine TL'.step (.on rfl rfl rfl c_484) (OpT.move rfl (dlt rfl (by decide)) rfl ?_)
              refine TL'.step (.on rfl rfl rfl c_484) (OpT.lenAM (i := 1) (xs := y4_0_1) (f := (cI .u8)) rfl (dlt rfl (by decide)) Try.underlying24 rfl rfl ?_)
              refine TL'.step (.on rfl rfl rfl c_484) (OpT.move rfl (dlt rfl (by decide)) rfl ?_)
              refine TL'.step (.on rfl rfl rfl c_484) (OpT.int2 rfl rfl (dlt rfl (by decide)) rfl rfl ?_)
              refine TL'.step (.on rfl rfl rfl c_484) (OpT.int2 rfl rfl (dlt rfl (by decide)) rfl rfl ?_)
              refine TL'.step (.free rfl) (OpT.pickT rfl (dlt rfl (by decide)) rfl c_484 rfl ?_)
              refine TL'.step (.free rfl) (OpT.assign rfl (dlt rfl (by decide)) rfl ?_)
              refine TL'.nil (thenS_normal ?_)
              refine T.ret ?_
              exact Fin.done (.cons _ _ _ _ (.tmp 2 _ rfl) .nil) (by cases h; exact ⟨rfl, rfl⟩)
            · refine TL'.passU (.off _ _ _ _ rfl rfl rfl c_484) (dlt rfl (by decide)) ?_
              refine TL'.passU (.off _ _ _ _ rfl rfl rfl c_484) (dlt rfl (by decide)) ?_
              refine TL'.passU (.off _ _ _ _ rfl rfl rfl c_484) (dlt rfl (by decide)) ?_
              refine TL'.passU (.off _ _ _ _ rfl rfl rfl c_484) (dlt rfl (by decide)) ?_
              refine TL'.passU (.off _ _ _ _ rfl rfl rfl c_484) (dlt rfl (by decide)) ?_
              refine TL'.passU (.off _ _ _ _ rfl rfl rfl c_484) (dlt rfl (by decide)) ?_
              refine TL'.step (.free rfl) (OpT.pickF rfl (dlt rfl (by decide)) rfl c_484 rfl ?_)
              refine TL'.step (.free rfl) (OpT.assign rfl (dlt rfl (by decide)) rfl ?_)
              refine TL'.nil (thenS_normal ?_)
              refine T.ret ?_
              exact Fin.done (.cons _ _ _ _ (.tmp 2 _ rfl) .nil) (by cases h; exact ⟨rfl, rfl⟩)
          · refine TL'.passU (.off _ _ _ _ rfl rfl rfl c_483) (dlt rfl (by decide)) ?_
            refine TL'.step (.free rfl) (OpT.pickF rfl (dlt rfl (by decide)) rfl c_483 rfl ?_)
            refine TL'.step (.free rfl) (OpT.move rfl (dlt rfl (by decide)) rfl ?_)
            refine TL'.passU (.off _ _ _ _ rfl rfl rfl rfl) (dlt rfl (by decide)) ?_
            refine TL'.passU (.off _ _ _ _ rfl rfl rfl rfl) (dlt rfl (by decide)) ?_
            refine TL'.passU (.off _ _ _ _ rfl rfl rfl rfl) (dlt rfl (by decide)) ?_
            refine TL'.passU (.off _ _ _ _ rfl rfl rfl rfl) (dlt rfl (by decide)) ?_
            refine TL'.passU (.off _ _ _ _ rfl rfl rfl rfl) (dlt rfl (by decide)) ?_
            refine TL'.passU (.off _ _ _ _ rfl rfl rfl rfl) (dlt rfl (by decide)) ?_
            refine TL'.step (.free rfl) (OpT.pickF rfl (dlt rfl (by decide)) rfl rfl rfl ?_)
            refine TL'.step (.free rfl) (OpT.assign rfl (dlt rfl (by decide)) rfl ?_)
            refine TL'.nil (thenS_normal ?_)
            refine T.ret ?_
            exact Fin.done (.cons _ _ _ _ (.tmp 2 _ rfl) .nil) (by cases h; exact ⟨rfl, rfl⟩)
        · refine TL'.passU (.off _ _ _ _ rfl rfl rfl c_482) (dlt rfl (by decide)) ?_
          refine TL'.passU (.off _ _ _ _ rfl rfl rfl c_482) (dlt rfl (by decide)) ?_
          refine TL'.passU (.off _ _ _ _ rfl rfl rfl c_482) (dlt rfl (by decide)) ?_
          refine TL'.passU (.off _ _ _ _ rfl rfl rfl c_482) (dlt rfl (by decide)) ?_
          refine TL'.passU (.off _ _ _ _ rfl rfl rfl c_482) (dlt rfl (by decide)) ?_
          refine TL'.passU (.off _ _ _ _ rfl rfl rfl c_482) (dlt rfl (by decide)) ?_
          refine TL'.passU (.off _ _ _ _ rfl rfl rfl c_482) (dlt rfl (by decide)) ?_
          refine TL'.passU (.off _ _ _ _ rfl rfl rfl c_482) (dlt rfl (by decide)) ?_
          refine TL'.step (.free rfl) (OpT.pickF rfl (dlt rfl (by decide)) rfl c_482 rfl ?_)
          refine TL'.step (.free rfl) (OpT.move rfl (dlt rfl (by decide)) rfl ?_)
          refine TL'.passU (.off _ _ _ _ rfl rfl rfl rfl) (dlt rfl (by decide)) ?_
          refine TL'.step (.free rfl) (OpT.pickF rfl (dlt rfl (by decide)) rfl rfl rfl ?_)
          refine TL'.step (.free rfl) (OpT.move rfl (dlt rfl (by decide)) rfl ?_)
          refine TL'.passU (.off _ _ _ _ rfl rfl rfl rfl) (dlt rfl (by decide)) ?_
          refine TL'.passU (.off _ _ _ _ rfl rfl rfl rfl) (dlt rfl (by decide)) ?_
          refine TL'.passU (.off _ _ _ _ rfl rfl rfl rfl) (dlt rfl (by decide)) ?_
          refine TL'.passU (.off _ _ _ _ rfl rfl rfl rfl) (dlt rfl (by decide)) ?_
          refine TL'.passU (.off _ _ _ _ rfl rfl rfl rfl) (dlt rfl (by decide)) ?_
          refine TL'.passU (.off _ _ _ _ rfl rfl rfl rfl) (dlt rfl (by decide)) ?_
          refine TL'.step (.free rfl) (OpT.pickF rfl (dlt rfl (by decide)) rfl rfl rfl ?_)
          refine TL'.step (.free rfl) (OpT.assign rfl (dlt rfl (by decide)) rfl ?_)
          refine TL'.nil (thenS_normal ?_)
          refine T.ret ?_
          exact Fin.done (.cons _ _ _ _ (.tmp 2 _ rfl) .nil) (by cases h; exact ⟨rfl, rfl⟩)
      · refine TL'.passU (.off _ _ _ _ rfl rfl rfl c_481) (dlt rfl (by decide)) ?_
        refine TL'.step (.free rfl) (OpT.pickF rfl (dlt rfl (by decide)) rfl c_481 rfl ?_)
        refine TL'.step (.free rfl) (OpT.move rfl (dlt rfl (by decide)) rfl ?_)
        refine TL'.passU (.off _ _ _ _ rfl rfl rfl rfl) (dlt rfl (by decide)) ?_
        refine TL'.passU (.off _ _ _ _ rfl rfl rfl rfl) (dlt rfl (by decide)) ?_
        refine TL'.passU (.off _ _ _ _ rfl rfl rfl rfl) (dlt rfl (by decide)) ?_
        refine TL'.passU (.off _ _ _ _ rfl rfl rfl rfl) (dlt rfl (by decide)) ?_
        refine TL'.passU (.off _ _ _ _ rfl rfl rfl rfl) (dlt rfl (by decide)) ?_
        refine TL'.passU (.off _ _ _ _ rfl rfl rfl rfl) (dlt rfl (by decide)) ?_
        refine TL'.passU (.off _ _ _ _ rfl rfl rfl rfl) (dlt rfl (by decide)) ?_
        refine TL'.passU (.off _ _ _ _ rfl rfl rfl rfl) (dlt rfl (by decide)) ?_
        refine TL'.step (.free rfl) (OpT.pickF rfl (dlt rfl (by decide)) rfl rfl rfl ?_)
        refine TL'.step (.free rfl) (OpT.move rfl (dlt rfl (by decide)) rfl ?_)
        refine TL'.passU (.off _ _ _ _ rfl rfl rfl rfl) (dlt rfl (by decide)) ?_
        refine TL'.step (.free rfl) (OpT.pickF rfl (dlt rfl (by decide)) rfl rfl rfl ?_)
        refine TL'.step (.free rfl) (OpT.move rfl (dlt rfl (by decide)) rfl ?_)
        refine TL'.passU (.off _ _ _ _ rfl rfl rfl rfl) (dlt rfl (by decide)) ?_
        refine TL'.passU (.off _ _ _ _ rfl rfl rfl rfl) (dlt rfl (by decide)) ?_
        refine TL'.passU (.off _ _ _ _ rfl rfl rfl rfl) (dlt rfl (by decide)) ?_
        refine TL'.passU (.off _ _ _ _ rfl rfl rfl rfl) (dlt rfl (by decide)) ?_
        refine TL'.passU (.off _ _ _ _ rfl rfl rfl rfl) (dlt rfl (by decide)) ?_
        refine TL'.passU (.off _ _ _ _ rfl rfl rfl rfl) (dlt rfl (by decide)) ?_
        refine TL'.step (.free rfl) (OpT.pickF rfl (dlt rfl (by decide)) rfl rfl rfl ?_)
        refine TL'.step (.free rfl) (OpT.assign rfl (dlt rfl (by decide)) rfl ?_)
        refine TL'.nil (thenS_normal ?_)
        refine T.ret ?_
        exact Fin.done (.cons _ _ _ _ (.tmp 2 _ rfl) .nil) (by cases h; exact ⟨rfl, rfl⟩)

theorem raddlelaw19_PlaceLines_T {K : Nat} {x0 : List (List Int)} {fl0 : Bool} {r : Bool} (h : raddlelaw19_PlaceLines K x0 = some r) : CallR Try.prog 6 [.c (.sl fl0 1 (x0.map (cL 1 (cI .u8))))] [] (.c (.ex (.bool r))) := by
  refine CallT.intro Try.func6 rfl (Nat.le_of_ble_eq_true rfl) ?_
  show T Try.prog 95 (Code.at [] (codeOf Try.f6)) ⟨paramSlots 0 [.c (.sl fl0 1 (x0.map (cL 1 (cI .u8))))], []⟩ (raddlelaw19_PlaceLines_q r)
  unfold raddlelaw19_PlaceLines at h
  refine T.seq ?_
  refine T.regionL ?_
  refine TL'.step (.free rfl) (OpT.assign rfl (dlt rfl (by decide)) rfl ?_)
  refine TL'.nil (thenS_normal ?_)
  refine T.seq ?_
  refine T.regionL ?_
  obtain ⟨v_460, e_461, h⟩ := bind_some h
  refine TL'.step (.free rfl) (OpT.callP rfl (dlt rfl (by decide)) Try.func7 rfl rfl rfl (CallR.nil (raddlelaw19_shown_T e_461)) ?_)
  refine TL'.step (.free rfl) (OpT.assign rfl (dlt rfl (by decide)) rfl ?_)
  refine TL'.nil (thenS_normal ?_)
  refine T.seq ?_
  refine T.regionL ?_
  refine TL'.step (.free rfl) (OpT.assign rfl (dlt rfl (by decide)) rfl ?_)
  refine TL'.nil (thenS_normal ?_)
  refine T.seq ?_
  refine T.regionL ?_
  refine TL'.step (.free rfl) (OpT.assign rfl (dlt rfl (by decide)) rfl ?_)
  refine TL'.nil (thenS_normal ?_)
  refine T.seq ?_
  refine T.regionL ?_
  refine TL'.step (.free rfl) (OpT.move rfl (dlt rfl (by decide)) rfl ?_)
  refine TL'.step (.free rfl) (OpT.move rfl (dlt rfl (by decide)) rfl ?_)
  refine TL'.step (.free rfl) (OpT.lenSlM (xs := x0) (f := (cL 1 (cI .u8))) rfl (dlt rfl (by decide)) Try.underlying36 rfl ?_)
  refine TL'.step (.free rfl) (OpT.min2 rfl (dlt rfl (by decide)) rfl rfl ?_)
  obtain ⟨g_462, h⟩ := ck_some h
  refine TL'.step (.free rfl) (OpT.sliceM (xs := x0) (f := (cL 1 (cI .u8))) (l := 0) (h := (Int.toNat (if (10 : Int) < (x0.length : Int) then (10 : Int) else (x0.length : Int)))) rfl (dlt rfl (by decide)) Try.underlying36 i24 rfl (.none _) (.some _ _ _ _ rfl g_462.1) g_462.2.1 g_462.2.2 ?_)
  refine TL'.step (.free rfl) (OpT.assign rfl (dlt rfl (by decide)) rfl ?_)
  refine TL'.nil (thenS_normal ?_)
  refine T.seq ?_
  refine T.seq ?_
  refine T.regionL ?_
  refine TL'.step (.free rfl) (OpT.move rfl (dlt rfl (by decide)) rfl ?_)
  refine TL'.step (.free rfl) (OpT.lenSlM (xs := ((x0.take (Int.toNat (if (10 : Int) < (x0.length : Int) then (10 : Int) else (x0.length : Int)))).drop 0)) (f := (cL 1 (cI .u8))) rfl (dlt rfl (by decide)) Try.underlying36 rfl ?_)
  refine TL'.step (.free rfl) (OpT.move rfl (dlt rfl (by decide)) rfl ?_)
  refine TL'.nil (thenS_normal ?_)
  refine T.block ?_
  refine T.loop ?_
  refine TL.by_turn (Turn.nilA 5 1) ?_
  refine TL.by_turn ?_ (raddlelaw19_PlaceLines_l0_T K K v_460 (0 : Int) ((x0.take (Int.toNat (if (10 : Int) < (x0.length : Int) then (10 : Int) else (x0.length : Int)))).drop 0) ((x0.take (Int.toNat (if (10 : Int) < (x0.length : Int) then (10 : Int) else (x0.length : Int)))).drop 0) (((x0.take (Int.toNat (if (10 : Int) < (x0.length : Int) then (10 : Int) else (x0.length : Int)))).drop 0).length : Int) (0 : Int) [] (.slice none 0 0) h)
  exact Turn.re (.cons rfl (.cons rfl (.cons rfl (.cons rfl (.cons rfl (.cons rfl (.cons rfl (.nil _)))))))) (.cons 0 rfl (.nil _))

end Go.Rv

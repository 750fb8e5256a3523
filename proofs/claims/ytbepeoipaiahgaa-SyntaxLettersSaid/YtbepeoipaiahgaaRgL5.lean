/- Each function computes what its plain text says: printed by a program of ours. -/
import Derived.Test.YtbepeoipaiahgaaRgW3
namespace Go.Rv
open Go.Proofs
set_option maxRecDepth 100000
set_option maxHeartbeats 4000000
set_option linter.unusedVariables false

abbrev raddlelaw04_SyntaxLetters_q (r : Bool) : Exit → St → Prop := retS Try.prog Try.f5 (fun y t => y = (.bool r) ∧ t = [])

abbrev raddlelaw04_SyntaxLetters_qs1111111 (r : Bool) : Exit → St → Prop := thenS (fun s' => T Try.prog 129 (Code.at [1, 1, 1, 1, 1, 1, 1] (codeOf Try.f5)) s' ((raddlelaw04_SyntaxLetters_q r))) ((raddlelaw04_SyntaxLetters_q r))

abbrev raddlelaw04_SyntaxLetters_qb0x1111111 (r : Bool) : Exit → St → Prop := inBlockS 0 ((raddlelaw04_SyntaxLetters_qs1111111 r))

abbrev raddlelaw04_SyntaxLetters_ql111111010 (r : Bool) : Exit → St → Prop := thenS (fun s' => TL Try.prog 129 (Code.at [1, 1, 1, 1, 1, 1, 0, 1, 0, 0] (codeOf Try.f5)) s' ((raddlelaw04_SyntaxLetters_qb0x1111111 r))) ((raddlelaw04_SyntaxLetters_qb0x1111111 r))

abbrev raddlelaw04_SyntaxLetters_qs1111110100111 (r : Bool) : Exit → St → Prop := thenS (fun s' => T Try.prog 129 (Code.at [1, 1, 1, 1, 1, 1, 0, 1, 0, 0, 1, 1, 1] (codeOf Try.f5)) s' ((raddlelaw04_SyntaxLetters_ql111111010 r))) ((raddlelaw04_SyntaxLetters_ql111111010 r))

abbrev raddlelaw04_SyntaxLetters_qb1_0x1111110100111 (r : Bool) : Exit → St → Prop := inBlockS 1 ((raddlelaw04_SyntaxLetters_qs1111110100111 r))

abbrev raddlelaw04_SyntaxLetters_qs11111111 (r : Bool) : Exit → St → Prop := thenS (fun s' => T Try.prog 129 (Code.at [1, 1, 1, 1, 1, 1, 1, 1] (codeOf Try.f5)) s' ((raddlelaw04_SyntaxLetters_q r))) ((raddlelaw04_SyntaxLetters_q r))

abbrev raddlelaw04_SyntaxLetters_l0_H (r : Bool) (go : Bool → (List Int) → ByteArray → ByteArray → (List Int) → Int → Int → (List api_Node) → (List Int) → Option Bool) : Prop := ∀ (x3_0_0 : Bool) (x4_0_1 : List Int) (x5_0_2 : ByteArray) (x6_0_3 : ByteArray) (x27_0_6 : List Int) (x28_0_7 : Int) (x29_0_8 : Int) (y7_0_4 : List api_Node) (y8_0_5 : List Int) (w7_0 : Value) (w8_0 : Value), go x3_0_0 x4_0_1 x5_0_2 x6_0_3 x27_0_6 x28_0_7 x29_0_8 y7_0_4 y8_0_5 = some r → TL Try.prog 129 (Code.at [1, 1, 1, 1, 1, 1, 0, 1, 0, 0] (codeOf Try.f5)) ⟨[(3, .bool x3_0_0), (4, .sl false 1 (x4_0_1.map (cI .u8))), (5, .str x5_0_2), (6, .str x6_0_3), (7, .c (.ex w7_0)), (8, .c (.ex w8_0)), (27, .sl false 1 (x27_0_6.map (cI .u8))), (28, .int .i64 x28_0_7), (29, .int .i64 x29_0_8)], [.arrA w7_0 36 9 (y7_0_4.map c_api_Node), .arrA w8_0 3 1 (y8_0_5.map (cI .i64))]⟩ (raddlelaw04_SyntaxLetters_qb0x1111111 r)

theorem raddlelaw04_SyntaxLetters_j1_T {r : Bool} (K : Nat) (go0 : Bool → (List Int) → ByteArray → ByteArray → (List Int) → Int → Int → (List api_Node) → (List Int) → Option Bool) (hgo0 : raddlelaw04_SyntaxLetters_l0_H r go0) (x3_0_0 : Bool) (x4_0_1 : List Int) (x5_1_2 : ByteArray) (x6_1_3 : ByteArray) (x9_1_6 : Int) (x11_1_7 : Int) (x27_1_8 : List Int) (x28_1_9 : Int) (x29_1_10 : Int) (y7_1_4 : List api_Node) (y8_1_5 : List Int) (w7_1 : Value) (w8_1 : Value) (h : raddlelaw04_SyntaxLetters_j1 K go0 x3_0_0 x4_0_1 x5_1_2 x6_1_3 x9_1_6 x11_1_7 x27_1_8 x28_1_9 x29_1_10 y7_1_4 y8_1_5 = some r) : T Try.prog 129 (Code.at [1, 1, 1, 1, 1, 1, 0, 1, 0, 0, 1, 1, 0, 0, 1, 1, 1, 1] (codeOf Try.f5)) ⟨[(3, .bool x3_0_0), (4, .sl false 1 (x4_0_1.map (cI .u8))), (5, .str x5_1_2), (6, .str x6_1_3), (7, .c (.ex w7_1)), (8, .c (.ex w8_1)), (9, .int .i64 x9_1_6), (11, .int .u8 x11_1_7), (27, .sl false 1 (x27_1_8.map (cI .u8))), (28, .int .i64 x28_1_9), (29, .int .i64 x29_1_10)], [.arrA w7_1 36 9 (y7_1_4.map c_api_Node), .arrA w8_1 3 1 (y8_1_5.map (cI .i64))]⟩ (raddlelaw04_SyntaxLetters_qb1_0x1111110100111 r) := by
  unfold raddlelaw04_SyntaxLetters_j1 at h
  refine T.seq ?_
  refine T.regionL ?_
  refine mv rfl rfl rfl rfl rfl ?_
  refine mv rfl rfl rfl rfl rfl ?_
  refine sp rfl (OpT.buildSlice (elems := ([x11_1_7] : List Int).map (cI .u8)) rfl (dl rfl rfl) Try.underlying38 i5 (by decide) rfl (all1 rfl) rfl rfl rfl (lenAll rfl) (by decide) ?_)
  refine sp rfl (OpT.convBytes (xs := [x11_1_7]) rfl (dl rfl rfl) Try.underlying38 Try.underlying5 Try.underlying9 rfl ?_)
  obtain ⟨g_375, h⟩ := ck_some h
  refine sp rfl (OpT.str_add rfl (dl rfl rfl) rfl rfl g_375 ?_)
  refine asg rfl rfl rfl rfl rfl ?_
  refine TL'.nil (thenS_normal ?_)
  refine T.seq ?_
  refine T.regionL ?_
  refine mv rfl rfl rfl rfl rfl ?_
  refine mv rfl rfl rfl rfl rfl ?_
  obtain ⟨v_376, e_377, h⟩ := bind_some h
  refine sp rfl (OpT.callPA rfl (dl rfl rfl) Try.func13 rfl rfl (Args.cons rfl Args.nil) (CallR.nil (raddlelaw04_one_T K e_377)) ?_)
  refine sp rfl (OpT.buildSlice (elems := ([v_376] : List api_Node).map c_api_Node) rfl (dl rfl rfl) Try.underlying23 i36 (by decide) rfl (all1 rfl) rfl rfl rfl (lenAll rfl) (by decide) ?_)
  obtain ⟨g_379, h⟩ := ck_some h
  refine sp rfl (OpT.appendAM (i := 0) (xs := y7_1_4) (ys := [v_376]) (f := c_api_Node) rfl (dl rfl rfl) Try.underlying23 i36 rfl rfl rfl rfl g_379 (fun w_378 => ?_))
  refine asg rfl rfl rfl rfl rfl ?_
  refine TL'.nil (thenS_normal ?_)
  refine T.regionL ?_
  refine mv rfl rfl rfl rfl rfl ?_
  refine mv rfl rfl rfl rfl rfl ?_
  refine sp rfl (OpT.buildSlice (elems := ([x9_1_6] : List Int).map (cI .i64)) rfl (dl rfl rfl) Try.underlying34 i3 (by decide) rfl (all1 rfl) rfl rfl rfl (lenAll rfl) (by decide) ?_)
  obtain ⟨g_381, h⟩ := ck_some h
  refine sp rfl (OpT.appendAM (i := 1) (xs := y8_1_5) (ys := [x9_1_6]) (f := (cI .i64)) rfl (dl rfl rfl) Try.underlying34 i3 rfl rfl rfl rfl g_381 (fun w_380 => ?_))
  refine asg rfl rfl rfl rfl rfl ?_
  refine TL'.nil (inBlock_normal (thenS_normal ?_))
  refine T.regionL ?_
  refine sp rfl (OpT.int2 rfl rfl (dl rfl rfl) rfl rfl ?_)
  refine mv rfl rfl rfl rfl rfl ?_
  refine TL'.nil (thenS_normal ?_)
  refine TL.by_turn ?_ (hgo0 x3_0_0 x4_0_1 x5_1_2 (x6_1_3 ++ (ofBytes [x11_1_7])) x27_1_8 x28_1_9 (IntKind.i64.wrap (x29_1_10 + (1 : Int))) (y7_1_4 ++ [v_376]) (y8_1_5 ++ [x9_1_6]) w_378 w_380 h)
  exact Turn.rp (.cons rfl (.cons rfl (.cons rfl (.cons rfl (.cons rfl (.cons rfl (.cons rfl (.cons rfl (.cons rfl (.nil _)))))))))) (.c .z (.c .z (.n _)))

theorem raddlelaw04_SyntaxLetters_j2_T {r : Bool} (K : Nat) (x2_2_0 : Bool) (h : raddlelaw04_SyntaxLetters_j2 K x2_2_0 = some r) : T Try.prog 129 (Code.at [1, 1, 1, 1, 1, 1, 1, 0, 1, 0, 1, 1] (codeOf Try.f5)) ⟨[(2, .bool x2_2_0)], []⟩ (raddlelaw04_SyntaxLetters_qs11111111 r) := by
  unfold raddlelaw04_SyntaxLetters_j2 at h
  refine T.ret (thenS_ret ?_)
  exact Fin.done (.cons _ _ _ _ (.tmp 2 _ rfl) .nil) (by cases h; exact ⟨rfl, rfl⟩)

theorem raddlelaw04_SyntaxLetters_l0_T {r : Bool} (K : Nat) : ∀ (k : Nat), ∀ (x3_0_0 : Bool) (x4_0_1 : List Int) (x5_0_2 : ByteArray) (x6_0_3 : ByteArray) (x27_0_6 : List Int) (x28_0_7 : Int) (x29_0_8 : Int) (y7_0_4 : List api_Node) (y8_0_5 : List Int) (w7_0 : Value) (w8_0 : Value), raddlelaw04_SyntaxLetters_l0 K k x3_0_0 x4_0_1 x5_0_2 x6_0_3 x27_0_6 x28_0_7 x29_0_8 y7_0_4 y8_0_5 = some r → TL Try.prog 129 (Code.at [1, 1, 1, 1, 1, 1, 0, 1, 0, 0] (codeOf Try.f5)) ⟨[(3, .bool x3_0_0), (4, .sl false 1 (x4_0_1.map (cI .u8))), (5, .str x5_0_2), (6, .str x6_0_3), (7, .c (.ex w7_0)), (8, .c (.ex w8_0)), (27, .sl false 1 (x27_0_6.map (cI .u8))), (28, .int .i64 x28_0_7), (29, .int .i64 x29_0_8)], [.arrA w7_0 36 9 (y7_0_4.map c_api_Node), .arrA w8_0 3 1 (y8_0_5.map (cI .i64))]⟩ (raddlelaw04_SyntaxLetters_qb0x1111111 r) := by
  intro k
  induction k with
  | zero =>
    intro x3_0_0 x4_0_1 x5_0_2 x6_0_3 x27_0_6 x28_0_7 x29_0_8 y7_0_4 y8_0_5 w7_0 w8_0 h
    cases (show (none : Option Bool) = some r from h)
  | succ k ih =>
    intro x3_0_0 x4_0_1 x5_0_2 x6_0_3 x27_0_6 x28_0_7 x29_0_8 y7_0_4 y8_0_5 w7_0 w8_0 h
    rw [raddlelaw04_SyntaxLetters_l0] at h
    refine TL.round ?_
    refine T.seq ?_
    refine T.regionL ?_
    refine sp rfl (OpT.int2 rfl rfl (dl rfl rfl) rfl rfl ?_)
    refine TL'.nil (thenS_normal ?_)
    refine T.seq ?_
    rcases bif_some h with ⟨c_368, h⟩ | ⟨c_368, h⟩
    · refine T.condT rfl c_368 ?_
      refine T.skip (thenS_normal ?_)
      refine T.seq ?_
      refine T.block ?_
      refine T.seq ?_
      refine T.regionL ?_
      refine mv rfl rfl rfl rfl rfl ?_
      obtain ⟨v_369, e_370, h⟩ := bind_some h
      refine sp rfl (OpT.indexSlM (xs := x27_0_6) (f := (cI .u8)) (v := v_369) rfl (dl rfl rfl) Try.underlying38 i5 rfl rfl e_370 ?_)
      refine sp rfl (OpT.loadRef rfl (dl rfl rfl) Try.underlying5 rfl rfl rfl ?_)
      refine asg rfl rfl rfl rfl rfl ?_
      refine asg rfl rfl rfl rfl rfl ?_
      refine TL'.nil (thenS_normal ?_)
      refine T.seq ?_
      refine T.regionL ?_
      refine mv rfl rfl rfl rfl rfl ?_
      refine sp rfl (OpT.rem rfl (dl rfl rfl) rfl rfl (by decide) ?_)
      obtain ⟨g_371, h⟩ := ck_some h
      refine sp rfl (OpT.indexStr rfl (dl rfl rfl) Try.underlying9 rfl rfl g_371.1 g_371.2 ?_)
      refine asg rfl rfl rfl rfl rfl ?_
      refine TL'.nil (thenS_normal ?_)
      refine T.seq ?_
      refine T.regionL ?_
      refine mv rfl rfl rfl rfl rfl ?_
      refine mv rfl rfl rfl rfl rfl ?_
      refine sp rfl (OpT.buildSlice (elems := ([(bt (⟨#[97, 98, 99, 100, 101, 102, 103, 104, 105, 106, 107, 108, 109, 110, 111, 112, 113, 114, 115, 116, 117, 118, 119, 120, 121, 122, 65, 66, 67, 68, 69, 70, 71, 72, 73, 74, 75, 76, 77, 78, 79, 80, 81, 82, 83, 84, 85, 86, 87, 88, 89, 90, 48, 49, 50, 51, 52, 53, 54, 55, 56, 57]⟩ : ByteArray) (Int.tmod v_369 (62 : Int)))] : List Int).map (cI .u8)) rfl (dl rfl rfl) Try.underlying38 i5 (by decide) rfl (all1 rfl) rfl rfl rfl (lenAll rfl) (by decide) ?_)
      refine sp rfl (OpT.convBytes (xs := [(bt (⟨#[97, 98, 99, 100, 101, 102, 103, 104, 105, 106, 107, 108, 109, 110, 111, 112, 113, 114, 115, 116, 117, 118, 119, 120, 121, 122, 65, 66, 67, 68, 69, 70, 71, 72, 73, 74, 75, 76, 77, 78, 79, 80, 81, 82, 83, 84, 85, 86, 87, 88, 89, 90, 48, 49, 50, 51, 52, 53, 54, 55, 56, 57]⟩ : ByteArray) (Int.tmod v_369 (62 : Int)))]) rfl (dl rfl rfl) Try.underlying38 Try.underlying5 Try.underlying9 rfl ?_)
      obtain ⟨g_372, h⟩ := ck_some h
      refine sp rfl (OpT.str_add rfl (dl rfl rfl) rfl rfl g_372 ?_)
      refine asg rfl rfl rfl rfl rfl ?_
      refine TL'.nil (thenS_normal ?_)
      refine T.seq ?_
      refine T.seq ?_
      refine T.regionL ?_
      refine mv rfl rfl rfl rfl rfl ?_
      refine sp rfl (OpT.int2 rfl rfl (dl rfl rfl) rfl rfl ?_)
      refine TL'.nil (thenS_normal ?_)
      rcases bif_some h with ⟨c_373, h⟩ | ⟨c_373, h⟩
      · refine T.condT rfl c_373 ?_
        refine T.regionL ?_
        refine mv rfl rfl rfl rfl rfl ?_
        obtain ⟨g_374, h⟩ := ck_some h
        refine sp rfl (OpT.str_add rfl (dl rfl rfl) rfl rfl g_374 ?_)
        refine asg rfl rfl rfl rfl rfl ?_
        refine TL'.nil (thenS_normal ?_)
        refine T.by_turn ?_ (raddlelaw04_SyntaxLetters_j1_T K (raddlelaw04_SyntaxLetters_l0 K k) ih x3_0_0 x4_0_1 (x5_0_2 ++ (ofBytes [(bt (⟨#[97, 98, 99, 100, 101, 102, 103, 104, 105, 106, 107, 108, 109, 110, 111, 112, 113, 114, 115, 116, 117, 118, 119, 120, 121, 122, 65, 66, 67, 68, 69, 70, 71, 72, 73, 74, 75, 76, 77, 78, 79, 80, 81, 82, 83, 84, 85, 86, 87, 88, 89, 90, 48, 49, 50, 51, 52, 53, 54, 55, 56, 57]⟩ : ByteArray) (Int.tmod v_369 (62 : Int)))])) (x6_0_3 ++ (⟨#[124]⟩ : ByteArray)) x29_0_8 (bt (⟨#[97, 98, 99, 100, 101, 102, 103, 104, 105, 106, 107, 108, 109, 110, 111, 112, 113, 114, 115, 116, 117, 118, 119, 120, 121, 122, 65, 66, 67, 68, 69, 70, 71, 72, 73, 74, 75, 76, 77, 78, 79, 80, 81, 82, 83, 84, 85, 86, 87, 88, 89, 90, 48, 49, 50, 51, 52, 53, 54, 55, 56, 57]⟩ : ByteArray) (Int.tmod v_369 (62 : Int))) x27_0_6 x28_0_7 x29_0_8 y7_0_4 y8_0_5 w7_0 w8_0 h)
        exact Turn.rp (.cons rfl (.cons rfl (.cons rfl (.cons rfl (.cons rfl (.cons rfl (.cons rfl (.cons rfl (.cons rfl (.cons rfl (.cons rfl (.nil _)))))))))))) (.c .z (.c .z (.n _)))
      · refine T.condF rfl c_373 ?_
        refine T.skip (thenS_normal ?_)
        refine T.by_turn ?_ (raddlelaw04_SyntaxLetters_j1_T K (raddlelaw04_SyntaxLetters_l0 K k) ih x3_0_0 x4_0_1 (x5_0_2 ++ (ofBytes [(bt (⟨#[97, 98, 99, 100, 101, 102, 103, 104, 105, 106, 107, 108, 109, 110, 111, 112, 113, 114, 115, 116, 117, 118, 119, 120, 121, 122, 65, 66, 67, 68, 69, 70, 71, 72, 73, 74, 75, 76, 77, 78, 79, 80, 81, 82, 83, 84, 85, 86, 87, 88, 89, 90, 48, 49, 50, 51, 52, 53, 54, 55, 56, 57]⟩ : ByteArray) (Int.tmod v_369 (62 : Int)))])) x6_0_3 x29_0_8 (bt (⟨#[97, 98, 99, 100, 101, 102, 103, 104, 105, 106, 107, 108, 109, 110, 111, 112, 113, 114, 115, 116, 117, 118, 119, 120, 121, 122, 65, 66, 67, 68, 69, 70, 71, 72, 73, 74, 75, 76, 77, 78, 79, 80, 81, 82, 83, 84, 85, 86, 87, 88, 89, 90, 48, 49, 50, 51, 52, 53, 54, 55, 56, 57]⟩ : ByteArray) (Int.tmod v_369 (62 : Int))) x27_0_6 x28_0_7 x29_0_8 y7_0_4 y8_0_5 w7_0 w8_0 h)
        exact Turn.rp (.cons rfl (.cons rfl (.cons rfl (.cons rfl (.cons rfl (.cons rfl (.cons rfl (.cons rfl (.cons rfl (.cons rfl (.cons rfl (.nil _)))))))))))) (.c .z (.c .z (.n _)))
    · refine T.condF rfl c_368 ?_
      refine T.exit (thenS_exit (thenS_exit (inBlock_exit (thenS_normal ?_))))
      refine T.seq ?_
      refine T.seq ?_
      refine T.regionL ?_
      refine mv rfl rfl rfl rfl rfl ?_
      refine sp rfl (OpT.lenSlM (xs := x4_0_1) (f := (cI .u8)) rfl (dl rfl rfl) Try.underlying38 rfl ?_)
      refine sp rfl (OpT.int2 rfl rfl (dl rfl rfl) rfl rfl ?_)
      refine TL'.nil (thenS_normal ?_)
      rcases bif_some h with ⟨c_382, h⟩ | ⟨c_382, h⟩
      · refine T.condT rfl c_382 ?_
        refine T.seq ?_
        refine T.regionL ?_
        refine mv rfl rfl rfl rfl rfl ?_
        obtain ⟨v_383, e_384, h⟩ := bind_some h
        refine sp rfl (OpT.callPA rfl (dl rfl rfl) Try.func10 rfl rfl (Args.cons rfl Args.nil) (CallR.nil (syntax_Parse_T K e_384)) ?_)
        refine mv rfl rfl rfl rfl rfl ?_
        refine sp rfl (OpT.extract rfl (dl rfl rfl) rfl rfl ?_)
        refine sp rfl (OpT.extract rfl (dl rfl rfl) rfl rfl ?_)
        refine sp rfl (OpT.extract rfl (dl rfl rfl) rfl rfl ?_)
        refine asg rfl rfl rfl rfl rfl ?_
        refine asg rfl rfl rfl rfl rfl ?_
        refine asg rfl rfl rfl rfl rfl ?_
        refine TL'.nil (thenS_normal ?_)
        refine T.seq ?_
        refine T.regionL ?_
        refine mv rfl rfl rfl rfl rfl ?_
        refine mv rfl rfl rfl rfl rfl ?_
        rcases bif_some h with ⟨c_385, h⟩ | ⟨c_385, h⟩
        · refine TL'.step (.on rfl rfl rfl c_385) (OpT.move rfl (dl rfl rfl) rfl ?_)
          refine TL'.step (.on rfl rfl rfl c_385) (OpT.int2 rfl rfl (dl rfl rfl) rfl rfl ?_)
          refine sp rfl (OpT.pickT rfl (dl rfl rfl) rfl c_385 rfl ?_)
          refine mv rfl rfl rfl rfl rfl ?_
          rcases bif_some h with ⟨c_386, h⟩ | ⟨c_386, h⟩
          · refine TL'.step (.on rfl rfl rfl c_386) (OpT.move rfl (dl rfl rfl) rfl ?_)
            refine TL'.step (.on rfl rfl rfl c_386) (OpT.lenSlM (xs := v_383.1) (f := c_api_Node) rfl (dl rfl rfl) Try.underlying23 rfl ?_)
            refine TL'.step (.on rfl rfl rfl c_386) (OpT.int2 rfl rfl (dl rfl rfl) rfl rfl ?_)
            refine sp rfl (OpT.pickT rfl (dl rfl rfl) rfl c_386 rfl ?_)
            refine asg rfl rfl rfl rfl rfl ?_
            refine TL'.nil (thenS_normal ?_)
            refine T.by_turn ?_ (raddlelaw04_SyntaxLetters_j2_T K ((v_383.1.length : Int) == (1 : Int)) h)
            exact Turn.rp (.cons rfl (.nil _)) (.n _)
          · refine TL'.passU (.off _ _ _ _ rfl rfl rfl c_386) (dl rfl rfl) ?_
            refine TL'.passU (.off _ _ _ _ rfl rfl rfl c_386) (dl rfl rfl) ?_
            refine TL'.passU (.off _ _ _ _ rfl rfl rfl c_386) (dl rfl rfl) ?_
            refine sp rfl (OpT.pickF rfl (dl rfl rfl) rfl c_386 rfl ?_)
            refine asg rfl rfl rfl rfl rfl ?_
            refine TL'.nil (thenS_normal ?_)
            refine T.by_turn ?_ (raddlelaw04_SyntaxLetters_j2_T K false h)
            exact Turn.rp (.cons rfl (.nil _)) (.n _)
        · refine TL'.passU (.off _ _ _ _ rfl rfl rfl c_385) (dl rfl rfl) ?_
          refine TL'.passU (.off _ _ _ _ rfl rfl rfl c_385) (dl rfl rfl) ?_
          refine sp rfl (OpT.pickF rfl (dl rfl rfl) rfl c_385 rfl ?_)
          refine mv rfl rfl rfl rfl rfl ?_
          refine TL'.passU (.off _ _ _ _ rfl rfl rfl rfl) (dl rfl rfl) ?_
          refine TL'.passU (.off _ _ _ _ rfl rfl rfl rfl) (dl rfl rfl) ?_
          refine TL'.passU (.off _ _ _ _ rfl rfl rfl rfl) (dl rfl rfl) ?_
          refine sp rfl (OpT.pickF rfl (dl rfl rfl) rfl rfl rfl ?_)
          refine asg rfl rfl rfl rfl rfl ?_
          refine TL'.nil (thenS_normal ?_)
          refine T.by_turn ?_ (raddlelaw04_SyntaxLetters_j2_T K false h)
          exact Turn.rp (.cons rfl (.nil _)) (.n _)
      · refine T.condF rfl c_382 ?_
        refine T.skip (thenS_normal ?_)
        refine T.seq ?_
        refine T.regionL ?_
        refine mv rfl rfl rfl rfl rfl ?_
        obtain ⟨v_387, e_388, h⟩ := bind_some h
        refine sp rfl (OpT.callPA rfl (dl rfl rfl) Try.func10 rfl rfl (Args.cons rfl Args.nil) (CallR.nil (syntax_Parse_T K e_388)) ?_)
        refine mv rfl rfl rfl rfl rfl ?_
        refine sp rfl (OpT.extract rfl (dl rfl rfl) rfl rfl ?_)
        refine sp rfl (OpT.extract rfl (dl rfl rfl) rfl rfl ?_)
        refine sp rfl (OpT.extract rfl (dl rfl rfl) rfl rfl ?_)
        refine asg rfl rfl rfl rfl rfl ?_
        refine asg rfl rfl rfl rfl rfl ?_
        refine asg rfl rfl rfl rfl rfl ?_
        refine TL'.nil (thenS_normal ?_)
        refine T.seq ?_
        refine T.regionL ?_
        refine mv rfl rfl rfl rfl rfl ?_
        obtain ⟨v_389, e_390, h⟩ := bind_some h
        refine sp rfl (OpT.callPA rfl (dl rfl rfl) Try.func10 rfl rfl (Args.cons rfl Args.nil) (CallR.nil (syntax_Parse_T K e_390)) ?_)
        refine mv rfl rfl rfl rfl rfl ?_
        refine sp rfl (OpT.extract rfl (dl rfl rfl) rfl rfl ?_)
        refine sp rfl (OpT.extract rfl (dl rfl rfl) rfl rfl ?_)
        refine sp rfl (OpT.extract rfl (dl rfl rfl) rfl rfl ?_)
        refine asg rfl rfl rfl rfl rfl ?_
        refine asg rfl rfl rfl rfl rfl ?_
        refine asg rfl rfl rfl rfl rfl ?_
        refine TL'.nil (thenS_normal ?_)
        refine T.seq ?_
        refine T.regionL ?_
        refine mv rfl rfl rfl rfl rfl ?_
        refine mv rfl rfl rfl rfl rfl ?_
        rcases bif_some h with ⟨c_391, h⟩ | ⟨c_391, h⟩
        · refine TL'.step (.on rfl rfl rfl c_391) (OpT.move rfl (dl rfl rfl) rfl ?_)
          refine TL'.step (.on rfl rfl rfl c_391) (OpT.int2 rfl rfl (dl rfl rfl) rfl rfl ?_)
          refine sp rfl (OpT.pickT rfl (dl rfl rfl) rfl c_391 rfl ?_)
          refine mv rfl rfl rfl rfl rfl ?_
          rcases bif_some h with ⟨c_392, h⟩ | ⟨c_392, h⟩
          · refine TL'.step (.on rfl rfl rfl c_392) (OpT.move rfl (dl rfl rfl) rfl ?_)
            refine TL'.step (.on rfl rfl rfl c_392) (OpT.int2 rfl rfl (dl rfl rfl) rfl rfl ?_)
            refine sp rfl (OpT.pickT rfl (dl rfl rfl) rfl c_392 rfl ?_)
            refine mv rfl rfl rfl rfl rfl ?_
            rcases bif_some h with ⟨c_393, h⟩ | ⟨c_393, h⟩
            · refine TL'.step (.on rfl rfl rfl c_393) (OpT.move rfl (dl rfl rfl) rfl ?_)
              refine TL'.step (.on rfl rfl rfl c_393) (OpT.move rfl (dl rfl rfl) rfl ?_)
              refine TL'.step (.on rfl rfl rfl c_393) (OpT.move rfl (dl rfl rfl) rfl ?_)
              refine TL'.step (.on rfl rfl rfl c_393) (OpT.lenAM (i := 0) (xs := y7_0_4) (f := c_api_Node) rfl (dl rfl rfl) Try.underlying23 rfl rfl ?_)
              refine TL'.step (.on rfl rfl rfl c_393) (OpT.move rfl (dl rfl rfl) rfl ?_)
              refine TL'.step (.on rfl rfl rfl c_393) (OpT.lenAM (i := 0) (xs := y7_0_4) (f := c_api_Node) rfl (dl rfl rfl) Try.underlying23 rfl rfl ?_)
              refine TL'.turn (Turn.view 103 0 rfl rfl) ?_
              obtain ⟨g_394, h⟩ := ck_some h
              refine TL'.step (.on rfl rfl rfl c_393) (OpT.slice3M (xs := y7_0_4) (f := c_api_Node) (h := (Int.toNat (y7_0_4.length : Int))) rfl (dl rfl rfl) Try.underlying23 i36 rfl (.some _ _ _ _ rfl g_394.1) (.some _ _ _ _ rfl g_394.1) g_394.2 ?_)
              refine TL'.step (.on rfl rfl rfl c_393) (OpT.move rfl (dl rfl rfl) rfl ?_)
              refine TL'.step (.on rfl rfl rfl c_393) (OpT.thenTurn (OpT.build (l := [.int .u8 (3 : Int), .int .u64 (Arr4.mk 0 0 0 0).a0, .int .u64 (Arr4.mk 0 0 0 0).a1, .int .u64 (Arr4.mk 0 0 0 0).a2, .int .u64 (Arr4.mk 0 0 0 0).a3, .ex w8_0, .int .i64 (0 : Int), .int .i64 (0 : Int), .str (⟨#[]⟩ : ByteArray)]) rfl (dl rfl rfl) (built_struct (pl := [(0, 1), (1, 4), (5, 1), (6, 1), (7, 1), (8, 1)]) Try.underlying36 i36 rfl) (all1 rfl) rfl rfl rfl) (Turn.weakSlotP 110 (l := [.int .u8 (3 : Int), .int .u64 (Arr4.mk 0 0 0 0).a0, .int .u64 (Arr4.mk 0 0 0 0).a1, .int .u64 (Arr4.mk 0 0 0 0).a2, .int .u64 (Arr4.mk 0 0 0 0).a3, .ex w8_0, .int .i64 (0 : Int), .int .i64 (0 : Int), .str (⟨#[]⟩ : ByteArray)]) (l' := [.int .u8 (3 : Int), .int .u64 (Arr4.mk 0 0 0 0).a0, .int .u64 (Arr4.mk 0 0 0 0).a1, .int .u64 (Arr4.mk 0 0 0 0).a2, .int .u64 (Arr4.mk 0 0 0 0).a3, .sl false 1 (y8_0_5.map (cI .i64)), .int .i64 (0 : Int), .int .i64 (0 : Int), .str (⟨#[]⟩ : ByteArray)]) (.cons (.same _) (.cons (.same _) (.cons (.same _) (.cons (.same _) (.cons (.same _) (.cons (.view 1 rfl) (.cons (.same _) (.cons (.same _) (.cons (.same _) (.refl _))))))))))) ?_)
              refine TL'.step (.on rfl rfl rfl c_393) (OpT.buildSlice (elems := ([(api_Node.mk (3 : Int) (Arr4.mk 0 0 0 0) y8_0_5 (0 : Int) (0 : Int) (⟨#[]⟩ : ByteArray))] : List api_Node).map c_api_Node) rfl (dl rfl rfl) Try.underlying23 i36 (by decide) rfl (all1 rfl) rfl rfl rfl (lenAll rfl) (by decide) ?_)
              obtain ⟨g_396, h⟩ := ck_some h
              refine TL'.step (.on rfl rfl rfl c_393) (OpT.appendNewM (xs := (y7_0_4.take (Int.toNat (y7_0_4.length : Int)))) (ys := [(api_Node.mk (3 : Int) (Arr4.mk 0 0 0 0) y8_0_5 (0 : Int) (0 : Int) (⟨#[]⟩ : ByteArray))]) (f := c_api_Node) rfl (dl rfl rfl) Try.underlying23 i36 rfl rfl rfl (.inl (Nat.zero_lt_succ _)) g_396 (fun w_395 => ?_))
              obtain ⟨v_397, e_398, h⟩ := bind_some h
              refine TL'.step (.on rfl rfl rfl c_393) (OpT.callPA rfl (dl rfl rfl) Try.func11 rfl rfl (Args.cons rfl (Args.view (i := 0) rfl rfl Args.nil)) (CallR.nil (raddleref04_Same_T K (flx0 := false) (flx1 := false) e_398)) ?_)
              refine sp rfl (OpT.pickT rfl (dl rfl rfl) rfl c_393 rfl ?_)
              refine mv rfl rfl rfl rfl rfl ?_
              rcases bif_some h with ⟨c_399, h⟩ | ⟨c_399, h⟩
              · refine TL'.step (.on rfl rfl rfl c_399) (OpT.move rfl (dl rfl rfl) rfl ?_)
                refine TL'.step (.on rfl rfl rfl c_399) (OpT.move rfl (dl rfl rfl) rfl ?_)
                refine TL'.step (.on rfl rfl rfl c_399) (OpT.move rfl (dl rfl rfl) rfl ?_)
                refine TL'.step (.on rfl rfl rfl c_399) (OpT.lenAM (i := 1) (xs := y7_0_4) (f := c_api_Node) rfl (dl rfl rfl) Try.underlying23 rfl rfl ?_)
                refine TL'.step (.on rfl rfl rfl c_399) (OpT.move rfl (dl rfl rfl) rfl ?_)
                refine TL'.step (.on rfl rfl rfl c_399) (OpT.lenAM (i := 1) (xs := y7_0_4) (f := c_api_Node) rfl (dl rfl rfl) Try.underlying23 rfl rfl ?_)
                refine TL'.turn (Turn.view 117 1 rfl rfl) ?_
                refine TL'.step (.on rfl rfl rfl c_399) (OpT.slice3M (xs := y7_0_4) (f := c_api_Node) (h := (Int.toNat (y7_0_4.length : Int))) rfl (dl rfl rfl) Try.underlying23 i36 rfl (.some _ _ _ _ rfl g_394.1) (.some _ _ _ _ rfl g_394.1) g_394.2 ?_)
                refine TL'.step (.on rfl rfl rfl c_399) (OpT.move rfl (dl rfl rfl) rfl ?_)
                refine TL'.step (.on rfl rfl rfl c_399) (OpT.thenTurn (OpT.build (l := [.int .u8 (4 : Int), .int .u64 (Arr4.mk 0 0 0 0).a0, .int .u64 (Arr4.mk 0 0 0 0).a1, .int .u64 (Arr4.mk 0 0 0 0).a2, .int .u64 (Arr4.mk 0 0 0 0).a3, .ex w8_0, .int .i64 (0 : Int), .int .i64 (0 : Int), .str (⟨#[]⟩ : ByteArray)]) rfl (dl rfl rfl) (built_struct (pl := [(0, 1), (1, 4), (5, 1), (6, 1), (7, 1), (8, 1)]) Try.underlying36 i36 rfl) (all1 rfl) rfl rfl rfl) (Turn.weakSlotP 124 (l := [.int .u8 (4 : Int), .int .u64 (Arr4.mk 0 0 0 0).a0, .int .u64 (Arr4.mk 0 0 0 0).a1, .int .u64 (Arr4.mk 0 0 0 0).a2, .int .u64 (Arr4.mk 0 0 0 0).a3, .ex w8_0, .int .i64 (0 : Int), .int .i64 (0 : Int), .str (⟨#[]⟩ : ByteArray)]) (l' := [.int .u8 (4 : Int), .int .u64 (Arr4.mk 0 0 0 0).a0, .int .u64 (Arr4.mk 0 0 0 0).a1, .int .u64 (Arr4.mk 0 0 0 0).a2, .int .u64 (Arr4.mk 0 0 0 0).a3, .sl false 1 (y8_0_5.map (cI .i64)), .int .i64 (0 : Int), .int .i64 (0 : Int), .str (⟨#[]⟩ : ByteArray)]) (.cons (.same _) (.cons (.same _) (.cons (.same _) (.cons (.same _) (.cons (.same _) (.cons (.view 2 rfl) (.cons (.same _) (.cons (.same _) (.cons (.same _) (.refl _))))))))))) ?_)
                refine TL'.step (.on rfl rfl rfl c_399) (OpT.buildSlice (elems := ([(api_Node.mk (4 : Int) (Arr4.mk 0 0 0 0) y8_0_5 (0 : Int) (0 : Int) (⟨#[]⟩ : ByteArray))] : List api_Node).map c_api_Node) rfl (dl rfl rfl) Try.underlying23 i36 (by decide) rfl (all1 rfl) rfl rfl rfl (lenAll rfl) (by decide) ?_)
                obtain ⟨g_401, h⟩ := ck_some h
                refine TL'.step (.on rfl rfl rfl c_399) (OpT.appendNewM (xs := (y7_0_4.take (Int.toNat (y7_0_4.length : Int)))) (ys := [(api_Node.mk (4 : Int) (Arr4.mk 0 0 0 0) y8_0_5 (0 : Int) (0 : Int) (⟨#[]⟩ : ByteArray))]) (f := c_api_Node) rfl (dl rfl rfl) Try.underlying23 i36 rfl rfl rfl (.inl (Nat.zero_lt_succ _)) g_401 (fun w_400 => ?_))
                obtain ⟨v_402, e_403, h⟩ := bind_some h
                refine TL'.step (.on rfl rfl rfl c_399) (OpT.callPA rfl (dl rfl rfl) Try.func11 rfl rfl (Args.cons rfl (Args.view (i := 0) rfl rfl Args.nil)) (CallR.nil (raddleref04_Same_T K (flx0 := false) (flx1 := false) e_403)) ?_)
                refine sp rfl (OpT.pickT rfl (dl rfl rfl) rfl c_399 rfl ?_)
                refine asg rfl rfl rfl rfl rfl ?_
                refine TL'.nil (thenS_normal ?_)
                refine T.ret ?_
                exact Fin.done (.cons _ _ _ _ (.tmp 2 _ rfl) .nil) (by cases h; exact ⟨rfl, rfl⟩)
              · refine TL'.passU (.off _ _ _ _ rfl rfl rfl c_399) (dl rfl rfl) ?_
                refine TL'.passU (.off _ _ _ _ rfl rfl rfl c_399) (dl rfl rfl) ?_
                refine TL'.passU (.off _ _ _ _ rfl rfl rfl c_399) (dl rfl rfl) ?_
                refine TL'.passU (.off _ _ _ _ rfl rfl rfl c_399) (dl rfl rfl) ?_
                refine TL'.passU (.off _ _ _ _ rfl rfl rfl c_399) (dl rfl rfl) ?_
                refine TL'.passU (.off _ _ _ _ rfl rfl rfl c_399) (dl rfl rfl) ?_
                refine TL'.passU (.off _ _ _ _ rfl rfl rfl c_399) (dl rfl rfl) ?_
                refine TL'.passU (.off _ _ _ _ rfl rfl rfl c_399) (dl rfl rfl) ?_
                refine TL'.passU (.off _ _ _ _ rfl rfl rfl c_399) (dl rfl rfl) ?_
                refine TL'.passU (.off _ _ _ _ rfl rfl rfl c_399) (dl rfl rfl) ?_
                refine TL'.passU (.off _ _ _ _ rfl rfl rfl c_399) (dl rfl rfl) ?_
                refine TL'.passU (.off _ _ _ _ rfl rfl rfl c_399) (dl rfl rfl) ?_
                refine sp rfl (OpT.pickF rfl (dl rfl rfl) rfl c_399 rfl ?_)
                refine asg rfl rfl rfl rfl rfl ?_
                refine TL'.nil (thenS_normal ?_)
                refine T.ret ?_
                exact Fin.done (.cons _ _ _ _ (.tmp 2 _ rfl) .nil) (by cases h; exact ⟨rfl, rfl⟩)
            · refine TL'.passU (.off _ _ _ _ rfl rfl rfl c_393) (dl rfl rfl) ?_
              refine TL'.passU (.off _ _ _ _ rfl rfl rfl c_393) (dl rfl rfl) ?_
              refine TL'.passU (.off _ _ _ _ rfl rfl rfl c_393) (dl rfl rfl) ?_
              refine TL'.passU (.off _ _ _ _ rfl rfl rfl c_393) (dl rfl rfl) ?_
              refine TL'.passU (.off _ _ _ _ rfl rfl rfl c_393) (dl rfl rfl) ?_
              refine TL'.passU (.off _ _ _ _ rfl rfl rfl c_393) (dl rfl rfl) ?_
              refine TL'.passU (.off _ _ _ _ rfl rfl rfl c_393) (dl rfl rfl) ?_
              refine TL'.passU (.off _ _ _ _ rfl rfl rfl c_393) (dl rfl rfl) ?_
              refine TL'.passU (.off _ _ _ _ rfl rfl rfl c_393) (dl rfl rfl) ?_
              refine TL'.passU (.off _ _ _ _ rfl rfl rfl c_393) (dl rfl rfl) ?_
              refine TL'.passU (.off _ _ _ _ rfl rfl rfl c_393) (dl rfl rfl) ?_
              refine TL'.passU (.off _ _ _ _ rfl rfl rfl c_393) (dl rfl rfl) ?_
              refine sp rfl (OpT.pickF rfl (dl rfl rfl) rfl c_393 rfl ?_)
              refine mv rfl rfl rfl rfl rfl ?_
              refine TL'.passU (.off _ _ _ _ rfl rfl rfl rfl) (dl rfl rfl) ?_
              refine TL'.passU (.off _ _ _ _ rfl rfl rfl rfl) (dl rfl rfl) ?_
              refine TL'.passU (.off _ _ _ _ rfl rfl rfl rfl) (dl rfl rfl) ?_
              refine TL'.passU (.off _ _ _ _ rfl rfl rfl rfl) (dl rfl rfl) ?_
              refine TL'.passU (.off _ _ _ _ rfl rfl rfl rfl) (dl rfl rfl) ?_
              refine TL'.passU (.off _ _ _ _ rfl rfl rfl rfl) (dl rfl rfl) ?_
              refine TL'.passU (.off _ _ _ _ rfl rfl rfl rfl) (dl rfl rfl) ?_
              refine TL'.passU (.off _ _ _ _ rfl rfl rfl rfl) (dl rfl rfl) ?_
              refine TL'.passU (.off _ _ _ _ rfl rfl rfl rfl) (dl rfl rfl) ?_
              refine TL'.passU (.off _ _ _ _ rfl rfl rfl rfl) (dl rfl rfl) ?_
              refine TL'.passU (.off _ _ _ _ rfl rfl rfl rfl) (dl rfl rfl) ?_
              refine TL'.passU (.off _ _ _ _ rfl rfl rfl rfl) (dl rfl rfl) ?_
              refine sp rfl (OpT.pickF rfl (dl rfl rfl) rfl rfl rfl ?_)
              refine asg rfl rfl rfl rfl rfl ?_
              refine TL'.nil (thenS_normal ?_)
              refine T.ret ?_
              exact Fin.done (.cons _ _ _ _ (.tmp 2 _ rfl) .nil) (by cases h; exact ⟨rfl, rfl⟩)
          · refine TL'.passU (.off _ _ _ _ rfl rfl rfl c_392) (dl rfl rfl) ?_
            refine TL'.passU (.off _ _ _ _ rfl rfl rfl c_392) (dl rfl rfl) ?_
            refine sp rfl (OpT.pickF rfl (dl rfl rfl) rfl c_392 rfl ?_)
            refine mv rfl rfl rfl rfl rfl ?_
            refine TL'.passU (.off _ _ _ _ rfl rfl rfl rfl) (dl rfl rfl) ?_
            refine TL'.passU (.off _ _ _ _ rfl rfl rfl rfl) (dl rfl rfl) ?_
            refine TL'.passU (.off _ _ _ _ rfl rfl rfl rfl) (dl rfl rfl) ?_
            refine TL'.passU (.off _ _ _ _ rfl rfl rfl rfl) (dl rfl rfl) ?_
            refine TL'.passU (.off _ _ _ _ rfl rfl rfl rfl) (dl rfl rfl) ?_
            refine TL'.passU (.off _ _ _ _ rfl rfl rfl rfl) (dl rfl rfl) ?_
            refine TL'.passU (.off _ _ _ _ rfl rfl rfl rfl) (dl rfl rfl) ?_
            refine TL'.passU (.off _ _ _ _ rfl rfl rfl rfl) (dl rfl rfl) ?_
            refine TL'.passU (.off _ _ _ _ rfl rfl rfl rfl) (dl rfl rfl) ?_
            refine TL'.passU (.off _ _ _ _ rfl rfl rfl rfl) (dl rfl rfl) ?_
            refine TL'.passU (.off _ _ _ _ rfl rfl rfl rfl) (dl rfl rfl) ?_
            refine TL'.passU (.off _ _ _ _ rfl rfl rfl rfl) (dl rfl rfl) ?_
            refine sp rfl (OpT.pickF rfl (dl rfl rfl) rfl rfl rfl ?_)
            refine mv rfl rfl rfl rfl rfl ?_
            refine TL'.passU (.off _ _ _ _ rfl rfl rfl rfl) (dl rfl rfl) ?_
            refine TL'.passU (.off _ _ _ _ rfl rfl rfl rfl) (dl rfl rfl) ?_
            refine TL'.passU (.off _ _ _ _ rfl rfl rfl rfl) (dl rfl rfl) ?_
            refine TL'.passU (.off _ _ _ _ rfl rfl rfl rfl) (dl rfl rfl) ?_
            refine TL'.passU (.off _ _ _ _ rfl rfl rfl rfl) (dl rfl rfl) ?_
            refine TL'.passU (.off _ _ _ _ rfl rfl rfl rfl) (dl rfl rfl) ?_
            refine TL'.passU (.off _ _ _ _ rfl rfl rfl rfl) (dl rfl rfl) ?_
            refine TL'.passU (.off _ _ _ _ rfl rfl rfl rfl) (dl rfl rfl) ?_
            refine TL'.passU (.off _ _ _ _ rfl rfl rfl rfl) (dl rfl rfl) ?_
            refine TL'.passU (.off _ _ _ _ rfl rfl rfl rfl) (dl rfl rfl) ?_
            refine TL'.passU (.off _ _ _ _ rfl rfl rfl rfl) (dl rfl rfl) ?_
            refine TL'.passU (.off _ _ _ _ rfl rfl rfl rfl) (dl rfl rfl) ?_
            refine sp rfl (OpT.pickF rfl (dl rfl rfl) rfl rfl rfl ?_)
            refine asg rfl rfl rfl rfl rfl ?_
            refine TL'.nil (thenS_normal ?_)
            refine T.ret ?_
            exact Fin.done (.cons _ _ _ _ (.tmp 2 _ rfl) .nil) (by cases h; exact ⟨rfl, rfl⟩)
        · refine TL'.passU (.off _ _ _ _ rfl rfl rfl c_391) (dl rfl rfl) ?_
          refine TL'.passU (.off _ _ _ _ rfl rfl rfl c_391) (dl rfl rfl) ?_
          refine sp rfl (OpT.pickF rfl (dl rfl rfl) rfl c_391 rfl ?_)
          refine mv rfl rfl rfl rfl rfl ?_
          refine TL'.passU (.off _ _ _ _ rfl rfl rfl rfl) (dl rfl rfl) ?_
          refine TL'.passU (.off _ _ _ _ rfl rfl rfl rfl) (dl rfl rfl) ?_
          refine sp rfl (OpT.pickF rfl (dl rfl rfl) rfl rfl rfl ?_)
          refine mv rfl rfl rfl rfl rfl ?_
          refine TL'.passU (.off _ _ _ _ rfl rfl rfl rfl) (dl rfl rfl) ?_
          refine TL'.passU (.off _ _ _ _ rfl rfl rfl rfl) (dl rfl rfl) ?_
          refine TL'.passU (.off _ _ _ _ rfl rfl rfl rfl) (dl rfl rfl) ?_
          refine TL'.passU (.off _ _ _ _ rfl rfl rfl rfl) (dl rfl rfl) ?_
          refine TL'.passU (.off _ _ _ _ rfl rfl rfl rfl) (dl rfl rfl) ?_
          refine TL'.passU (.off _ _ _ _ rfl rfl rfl rfl) (dl rfl rfl) ?_
          refine TL'.passU (.off _ _ _ _ rfl rfl rfl rfl) (dl rfl rfl) ?_
          refine TL'.passU (.off _ _ _ _ rfl rfl rfl rfl) (dl rfl rfl) ?_
          refine TL'.passU (.off _ _ _ _ rfl rfl rfl rfl) (dl rfl rfl) ?_
          refine TL'.passU (.off _ _ _ _ rfl rfl rfl rfl) (dl rfl rfl) ?_
          refine TL'.passU (.off _ _ _ _ rfl rfl rfl rfl) (dl rfl rfl) ?_
          refine TL'.passU (.off _ _ _ _ rfl rfl rfl rfl) (dl rfl rfl) ?_
          refine sp rfl (OpT.pickF rfl (dl rfl rfl) rfl rfl rfl ?_)
          refine mv rfl rfl rfl rfl rfl ?_
          refine TL'.passU (.off _ _ _ _ rfl rfl rfl rfl) (dl rfl rfl) ?_
          refine TL'.passU (.off _ _ _ _ rfl rfl rfl rfl) (dl rfl rfl) ?_
          refine TL'.passU (.off _ _ _ _ rfl rfl rfl rfl) (dl rfl rfl) ?_
          refine TL'.passU (.off _ _ _ _ rfl rfl rfl rfl) (dl rfl rfl) ?_
          refine TL'.passU (.off _ _ _ _ rfl rfl rfl rfl) (dl rfl rfl) ?_
          refine TL'.passU (.off _ _ _ _ rfl rfl rfl rfl) (dl rfl rfl) ?_
          refine TL'.passU (.off _ _ _ _ rfl rfl rfl rfl) (dl rfl rfl) ?_
          refine TL'.passU (.off _ _ _ _ rfl rfl rfl rfl) (dl rfl rfl) ?_
          refine TL'.passU (.off _ _ _ _ rfl rfl rfl rfl) (dl rfl rfl) ?_
          refine TL'.passU (.off _ _ _ _ rfl rfl rfl rfl) (dl rfl rfl) ?_
          refine TL'.passU (.off _ _ _ _ rfl rfl rfl rfl) (dl rfl rfl) ?_
          refine TL'.passU (.off _ _ _ _ rfl rfl rfl rfl) (dl rfl rfl) ?_
          refine sp rfl (OpT.pickF rfl (dl rfl rfl) rfl rfl rfl ?_)
          refine asg rfl rfl rfl rfl rfl ?_
          refine TL'.nil (thenS_normal ?_)
          refine T.ret ?_
          exact Fin.done (.cons _ _ _ _ (.tmp 2 _ rfl) .nil) (by cases h; exact ⟨rfl, rfl⟩)

theorem raddlelaw04_SyntaxLetters_T (K : Nat) {x0 : List Int} {flx0 : Bool} {r : Bool} (h : raddlelaw04_SyntaxLetters K x0 = some r) : CallR Try.prog 5 [.sl flx0 1 (x0.map (cI .u8))] [] (.bool r) := by
  refine CallT.intro Try.func5 rfl (Nat.le_of_ble_eq_true rfl) ?_
  show T Try.prog 129 (Code.at [] (codeOf Try.f5)) ⟨paramSlots 0 [.sl flx0 1 (x0.map (cI .u8))], []⟩ (raddlelaw04_SyntaxLetters_q r)
  unfold raddlelaw04_SyntaxLetters at h
  refine T.seq ?_
  refine T.regionL ?_
  refine asg rfl rfl rfl rfl rfl ?_
  refine TL'.nil (thenS_normal ?_)
  refine T.seq ?_
  refine T.regionL ?_
  obtain ⟨v_365, e_366, h⟩ := bind_some h
  refine sp rfl (OpT.callPA rfl (dl rfl rfl) Try.func9 rfl rfl Args.nil (CallR.nil (raddlelaw04_shown_T K e_366)) ?_)
  refine asg rfl rfl rfl rfl rfl ?_
  refine TL'.nil (thenS_normal ?_)
  refine T.seq ?_
  refine T.regionL ?_
  refine mv rfl rfl rfl rfl rfl ?_
  refine mv rfl rfl rfl rfl rfl ?_
  refine sp rfl (OpT.lenSlM (xs := x0) (f := (cI .u8)) rfl (dl rfl rfl) Try.underlying38 rfl ?_)
  refine sp rfl (OpT.min2 rfl (dl rfl rfl) rfl rfl ?_)
  obtain ⟨g_367, h⟩ := ck_some h
  refine sp rfl (OpT.sliceM (xs := x0) (f := (cI .u8)) (l := 0) (h := (Int.toNat (if (100 : Int) < (x0.length : Int) then (100 : Int) else (x0.length : Int)))) rfl (dl rfl rfl) Try.underlying38 i5 rfl (.none _) (.some _ _ _ _ rfl g_367.1) g_367.2.1 g_367.2.2 ?_)
  refine asg rfl rfl rfl rfl rfl ?_
  refine TL'.nil (thenS_normal ?_)
  refine T.seq ?_
  refine T.regionL ?_
  refine asg rfl rfl rfl rfl rfl ?_
  refine asg rfl rfl rfl rfl rfl ?_
  refine TL'.nil (thenS_normal ?_)
  refine T.seq ?_
  refine T.regionL ?_
  refine asg rfl rfl rfl rfl rfl ?_
  refine TL'.nil (thenS_normal ?_)
  refine T.seq ?_
  refine T.regionL ?_
  refine asg rfl rfl rfl rfl rfl ?_
  refine TL'.nil (thenS_normal ?_)
  refine T.seq ?_
  refine T.seq ?_
  refine T.regionL ?_
  refine mv rfl rfl rfl rfl rfl ?_
  refine sp rfl (OpT.lenSlM (xs := ((x0.take (Int.toNat (if (100 : Int) < (x0.length : Int) then (100 : Int) else (x0.length : Int)))).drop 0)) (f := (cI .u8)) rfl (dl rfl rfl) Try.underlying38 rfl ?_)
  refine mv rfl rfl rfl rfl rfl ?_
  refine TL'.nil (thenS_normal ?_)
  refine T.block ?_
  refine T.loop ?_
  refine TL.by_turn (Turn.nilA 36 9) ?_
  refine TL.by_turn (Turn.nilA 3 1) ?_
  refine TL.by_turn ?_ (raddlelaw04_SyntaxLetters_l0_T K K v_365 ((x0.take (Int.toNat (if (100 : Int) < (x0.length : Int) then (100 : Int) else (x0.length : Int)))).drop 0) (⟨#[]⟩ : ByteArray) (⟨#[]⟩ : ByteArray) ((x0.take (Int.toNat (if (100 : Int) < (x0.length : Int) then (100 : Int) else (x0.length : Int)))).drop 0) (((x0.take (Int.toNat (if (100 : Int) < (x0.length : Int) then (100 : Int) else (x0.length : Int)))).drop 0).length : Int) (0 : Int) [] [] (nilv 3) (nilv 4) h)
  exact Turn.rp (.cons rfl (.cons rfl (.cons rfl (.cons rfl (.cons rfl (.cons rfl (.cons rfl (.cons rfl (.cons rfl (.nil _)))))))))) (.c (.s .z) (.c .z (.n _)))

end Go.Rv

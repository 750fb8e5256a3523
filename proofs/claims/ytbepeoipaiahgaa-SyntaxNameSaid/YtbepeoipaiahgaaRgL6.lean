/- Each function computes what its plain text says: printed by a program of ours. -/
import Derived.Test.YtbepeoipaiahgaaRgW3
namespace Go.Rv
open Go.Proofs
set_option maxRecDepth 100000
set_option maxHeartbeats 4000000
set_option linter.unusedVariables false

abbrev raddlelaw04_SyntaxName_q (r : Bool) : Exit → St → Prop := retS Try.prog Try.f6 (fun y t => y = (.bool r) ∧ t = [])

abbrev raddlelaw04_SyntaxName_qs1111 (r : Bool) : Exit → St → Prop := thenS (fun s' => T Try.prog 84 (Code.at [1, 1, 1, 1] (codeOf Try.f6)) s' ((raddlelaw04_SyntaxName_q r))) ((raddlelaw04_SyntaxName_q r))

abbrev raddlelaw04_SyntaxName_qb0x1111 (r : Bool) : Exit → St → Prop := inBlockS 0 ((raddlelaw04_SyntaxName_qs1111 r))

abbrev raddlelaw04_SyntaxName_ql111010 (r : Bool) : Exit → St → Prop := thenS (fun s' => TL Try.prog 84 (Code.at [1, 1, 1, 0, 1, 0, 0] (codeOf Try.f6)) s' ((raddlelaw04_SyntaxName_qb0x1111 r))) ((raddlelaw04_SyntaxName_qb0x1111 r))

abbrev raddlelaw04_SyntaxName_qs1110100111 (r : Bool) : Exit → St → Prop := thenS (fun s' => T Try.prog 84 (Code.at [1, 1, 1, 0, 1, 0, 0, 1, 1, 1] (codeOf Try.f6)) s' ((raddlelaw04_SyntaxName_ql111010 r))) ((raddlelaw04_SyntaxName_ql111010 r))

abbrev raddlelaw04_SyntaxName_qb1_0x1110100111 (r : Bool) : Exit → St → Prop := inBlockS 1 ((raddlelaw04_SyntaxName_qs1110100111 r))

abbrev raddlelaw04_SyntaxName_qs111111 (r : Bool) : Exit → St → Prop := thenS (fun s' => T Try.prog 84 (Code.at [1, 1, 1, 1, 1, 1] (codeOf Try.f6)) s' ((raddlelaw04_SyntaxName_q r))) ((raddlelaw04_SyntaxName_q r))

abbrev raddlelaw04_SyntaxName_l0_H (r : Bool) (go : ByteArray → Bool → Int → Int → (List Int) → Option Bool) : Prop := ∀ (x0 : ByteArray) (x3_0_1 : Bool) (x12_0_3 : Int) (x13_0_4 : Int) (y4_0_2 : List Int) (w4_0 : Value), go x0 x3_0_1 x12_0_3 x13_0_4 y4_0_2 = some r → TL Try.prog 84 (Code.at [1, 1, 1, 0, 1, 0, 0] (codeOf Try.f6)) ⟨[(0, .str x0), (3, .bool x3_0_1), (4, .c (.ex w4_0)), (12, .int .i64 x12_0_3), (13, .int .i64 x13_0_4)], [.arrA w4_0 5 1 (y4_0_2.map (cI .u8))]⟩ (raddlelaw04_SyntaxName_qb0x1111 r)

theorem raddlelaw04_SyntaxName_j1_T {r : Bool} (K : Nat) (go0 : ByteArray → Bool → Int → Int → (List Int) → Option Bool) (hgo0 : raddlelaw04_SyntaxName_l0_H r go0) (x0 : ByteArray) (x3_0_1 : Bool) (x5_1_3 : Int) (x12_1_4 : Int) (x13_1_5 : Int) (x22_1_6 : Int) (x23_1_7 : Bool) (x24_1_8 : Bool) (x29_1_9 : Bool) (x30_1_10 : Bool) (x35_1_11 : Bool) (y4_1_2 : List Int) (w4_1 : Value) (h : raddlelaw04_SyntaxName_j1 K go0 x0 x3_0_1 x5_1_3 x12_1_4 x13_1_5 x22_1_6 x23_1_7 x24_1_8 x29_1_9 x30_1_10 x35_1_11 y4_1_2 = some r) : T Try.prog 84 (Code.at [1, 1, 1, 0, 1, 0, 0, 1, 1, 0, 0, 1, 1, 0] (codeOf Try.f6)) ⟨[(0, .str x0), (3, .bool x3_0_1), (4, .c (.ex w4_1)), (5, .int .i64 x5_1_3), (12, .int .i64 x12_1_4), (13, .int .i64 x13_1_5), (21, .c (.ex w4_1)), (22, .int .i64 x22_1_6), (23, .bool x23_1_7), (24, .bool x24_1_8), (29, .bool x29_1_9), (30, .bool x30_1_10), (35, .bool x35_1_11)], [.arrA w4_1 5 1 (y4_1_2.map (cI .u8))]⟩ (raddlelaw04_SyntaxName_qb1_0x1110100111 r) := by
  unfold raddlelaw04_SyntaxName_j1 at h
  refine T.regionL ?_
  refine mv rfl rfl rfl rfl rfl ?_
  refine mv rfl rfl rfl rfl rfl ?_
  refine mv rfl rfl rfl rfl rfl ?_
  obtain ⟨g_278, h⟩ := ck_some h
  refine sp rfl (OpT.indexStr rfl (dl rfl rfl) Try.underlying9 rfl rfl g_278.1 g_278.2 ?_)
  refine sp rfl (OpT.buildSlice (elems := ([(bt x0 x5_1_3)] : List Int).map (cI .u8)) rfl (dl rfl rfl) Try.underlying38 i5 (by decide) rfl (all1 rfl) rfl rfl rfl (lenAll rfl) (by decide) ?_)
  obtain ⟨g_280, h⟩ := ck_some h
  refine sp rfl (OpT.appendAM (i := 0) (xs := y4_1_2) (ys := [(bt x0 x5_1_3)]) (f := (cI .u8)) rfl (dl rfl rfl) Try.underlying38 i5 rfl rfl rfl rfl g_280 (fun w_279 => ?_))
  refine asg rfl rfl rfl rfl rfl ?_
  refine TL'.nil (inBlock_normal (thenS_normal ?_))
  refine T.regionL ?_
  refine sp rfl (OpT.int2 rfl rfl (dl rfl rfl) rfl rfl ?_)
  refine mv rfl rfl rfl rfl rfl ?_
  refine TL'.nil (thenS_normal ?_)
  refine TL.by_turn ?_ (hgo0 x0 x3_0_1 x12_1_4 (IntKind.i64.wrap (x13_1_5 + (1 : Int))) (y4_1_2 ++ [(bt x0 x5_1_3)]) w_279 h)
  exact Turn.rp (.cons rfl (.cons rfl (.cons rfl (.cons rfl (.cons rfl (.nil _)))))) (.c .z (.n _))

theorem raddlelaw04_SyntaxName_j2_T {r : Bool} (K : Nat) (x2_2_0 : Bool) (h : raddlelaw04_SyntaxName_j2 K x2_2_0 = some r) : T Try.prog 84 (Code.at [1, 1, 1, 1, 1, 0, 1, 0, 1] (codeOf Try.f6)) ⟨[(2, .bool x2_2_0)], []⟩ (raddlelaw04_SyntaxName_qs111111 r) := by
  unfold raddlelaw04_SyntaxName_j2 at h
  refine T.ret (thenS_ret ?_)
  exact Fin.done (.cons _ _ _ _ (.tmp 2 _ rfl) .nil) (by cases h; exact ⟨rfl, rfl⟩)

theorem raddlelaw04_SyntaxName_l0_T {r : Bool} (K : Nat) : ∀ (k : Nat), ∀ (x0 : ByteArray) (x3_0_1 : Bool) (x12_0_3 : Int) (x13_0_4 : Int) (y4_0_2 : List Int) (w4_0 : Value), raddlelaw04_SyntaxName_l0 K k x0 x3_0_1 x12_0_3 x13_0_4 y4_0_2 = some r → TL Try.prog 84 (Code.at [1, 1, 1, 0, 1, 0, 0] (codeOf Try.f6)) ⟨[(0, .str x0), (3, .bool x3_0_1), (4, .c (.ex w4_0)), (12, .int .i64 x12_0_3), (13, .int .i64 x13_0_4)], [.arrA w4_0 5 1 (y4_0_2.map (cI .u8))]⟩ (raddlelaw04_SyntaxName_qb0x1111 r) := by
  intro k
  induction k with
  | zero =>
    intro x0 x3_0_1 x12_0_3 x13_0_4 y4_0_2 w4_0 h
    cases (show (none : Option Bool) = some r from h)
  | succ k ih =>
    intro x0 x3_0_1 x12_0_3 x13_0_4 y4_0_2 w4_0 h
    rw [raddlelaw04_SyntaxName_l0] at h
    refine TL.round ?_
    refine T.seq ?_
    refine T.regionL ?_
    refine sp rfl (OpT.int2 rfl rfl (dl rfl rfl) rfl rfl ?_)
    refine TL'.nil (thenS_normal ?_)
    refine T.seq ?_
    rcases bif_some h with ⟨c_274, h⟩ | ⟨c_274, h⟩
    · refine T.condT rfl c_274 ?_
      refine T.skip (thenS_normal ?_)
      refine T.seq ?_
      refine T.block ?_
      refine T.seq ?_
      refine T.regionL ?_
      refine mv rfl rfl rfl rfl rfl ?_
      refine asg rfl rfl rfl rfl rfl ?_
      refine TL'.nil (thenS_normal ?_)
      refine T.seq ?_
      refine T.regionL ?_
      refine mv rfl rfl rfl rfl rfl ?_
      refine mv rfl rfl rfl rfl rfl ?_
      obtain ⟨g_275, h⟩ := ck_some h
      refine sp rfl (OpT.indexStr rfl (dl rfl rfl) Try.underlying9 rfl rfl g_275.1 g_275.2 ?_)
      refine sp rfl (OpT.int2 rfl rfl (dl rfl rfl) rfl rfl ?_)
      refine mv rfl rfl rfl rfl rfl ?_
      rcases bif_some h with ⟨c_276, h⟩ | ⟨c_276, h⟩
      · refine TL'.step (.on rfl rfl rfl c_276) (OpT.move rfl (dl rfl rfl) rfl ?_)
        refine TL'.step (.on rfl rfl rfl c_276) (OpT.lenAM (i := 0) (xs := y4_0_2) (f := (cI .u8)) rfl (dl rfl rfl) Try.underlying38 rfl rfl ?_)
        refine TL'.step (.on rfl rfl rfl c_276) (OpT.int2 rfl rfl (dl rfl rfl) rfl rfl ?_)
        refine TL'.step (.on rfl rfl rfl c_276) (OpT.move rfl (dl rfl rfl) rfl ?_)
        rcases bif_some h with ⟨c_277, h⟩ | ⟨c_277, h⟩
        · refine TL'.passU (.off _ _ _ _ rfl rfl rfl c_277) (dl rfl rfl) ?_
          refine TL'.passU (.off _ _ _ _ rfl rfl rfl c_277) (dl rfl rfl) ?_
          refine TL'.passU (.off _ _ _ _ rfl rfl rfl c_277) (dl rfl rfl) ?_
          refine TL'.passU (.off _ _ _ _ rfl rfl rfl c_277) (dl rfl rfl) ?_
          refine TL'.step (.on rfl rfl rfl c_276) (OpT.pickT rfl (dl rfl rfl) rfl c_277 rfl ?_)
          refine TL'.step (.on rfl rfl rfl c_276) (OpT.move rfl (dl rfl rfl) rfl ?_)
          refine TL'.passU (.off _ _ _ _ rfl rfl rfl rfl) (dl rfl rfl) ?_
          refine TL'.passU (.off _ _ _ _ rfl rfl rfl rfl) (dl rfl rfl) ?_
          refine TL'.passU (.off _ _ _ _ rfl rfl rfl rfl) (dl rfl rfl) ?_
          refine TL'.passU (.off _ _ _ _ rfl rfl rfl rfl) (dl rfl rfl) ?_
          refine TL'.step (.on rfl rfl rfl c_276) (OpT.pickT rfl (dl rfl rfl) rfl rfl rfl ?_)
          refine sp rfl (OpT.pickT rfl (dl rfl rfl) rfl c_276 rfl ?_)
          refine TL'.nil (thenS_normal ?_)
          refine T.condT rfl rfl ?_
          refine T.by_turn ?_ (raddlelaw04_SyntaxName_j1_T K (raddlelaw04_SyntaxName_l0 K k) ih x0 x3_0_1 x13_0_4 x12_0_3 x13_0_4 (y4_0_2.length : Int) (decide ((y4_0_2.length : Int) > (0 : Int))) (decide ((y4_0_2.length : Int) > (0 : Int))) true true true y4_0_2 w4_0 h)
          exact Turn.rp (.cons rfl (.cons rfl (.cons rfl (.cons rfl (.cons rfl (.cons rfl (.cons rfl (.cons rfl (.cons rfl (.cons rfl (.cons rfl (.cons rfl (.cons rfl (.nil _)))))))))))))) (.c .z (.n _))
        · refine TL'.step (.on rfl rfl rfl c_277) (OpT.move rfl (dl rfl rfl) rfl ?_)
          refine TL'.step (.on rfl rfl rfl c_277) (OpT.move rfl (dl rfl rfl) rfl ?_)
          refine TL'.step (.on rfl rfl rfl c_277) (OpT.indexStr rfl (dl rfl rfl) Try.underlying9 rfl rfl g_275.1 g_275.2 ?_)
          refine TL'.step (.on rfl rfl rfl c_277) (OpT.int2 rfl rfl (dl rfl rfl) rfl rfl ?_)
          refine TL'.step (.on rfl rfl rfl c_276) (OpT.pickF rfl (dl rfl rfl) rfl c_277 rfl ?_)
          refine TL'.step (.on rfl rfl rfl c_276) (OpT.move rfl (dl rfl rfl) rfl ?_)
          rcases bif_some h with ⟨c_281, h⟩ | ⟨c_281, h⟩
          · refine TL'.passU (.off _ _ _ _ rfl rfl rfl c_281) (dl rfl rfl) ?_
            refine TL'.passU (.off _ _ _ _ rfl rfl rfl c_281) (dl rfl rfl) ?_
            refine TL'.passU (.off _ _ _ _ rfl rfl rfl c_281) (dl rfl rfl) ?_
            refine TL'.passU (.off _ _ _ _ rfl rfl rfl c_281) (dl rfl rfl) ?_
            refine TL'.step (.on rfl rfl rfl c_276) (OpT.pickT rfl (dl rfl rfl) rfl c_281 rfl ?_)
            refine sp rfl (OpT.pickT rfl (dl rfl rfl) rfl c_276 rfl ?_)
            refine TL'.nil (thenS_normal ?_)
            refine T.condT rfl rfl ?_
            refine T.by_turn ?_ (raddlelaw04_SyntaxName_j1_T K (raddlelaw04_SyntaxName_l0 K k) ih x0 x3_0_1 x13_0_4 x12_0_3 x13_0_4 (y4_0_2.length : Int) (decide ((y4_0_2.length : Int) > (0 : Int))) (decide ((y4_0_2.length : Int) > (0 : Int))) (decide ((bt x0 x13_0_4) < (48 : Int))) (decide ((bt x0 x13_0_4) < (48 : Int))) true y4_0_2 w4_0 h)
            exact Turn.rp (.cons rfl (.cons rfl (.cons rfl (.cons rfl (.cons rfl (.cons rfl (.cons rfl (.cons rfl (.cons rfl (.cons rfl (.cons rfl (.cons rfl (.cons rfl (.nil _)))))))))))))) (.c .z (.n _))
          · refine TL'.step (.on rfl rfl rfl c_281) (OpT.move rfl (dl rfl rfl) rfl ?_)
            refine TL'.step (.on rfl rfl rfl c_281) (OpT.move rfl (dl rfl rfl) rfl ?_)
            refine TL'.step (.on rfl rfl rfl c_281) (OpT.indexStr rfl (dl rfl rfl) Try.underlying9 rfl rfl g_275.1 g_275.2 ?_)
            refine TL'.step (.on rfl rfl rfl c_281) (OpT.int2 rfl rfl (dl rfl rfl) rfl rfl ?_)
            refine TL'.step (.on rfl rfl rfl c_276) (OpT.pickF rfl (dl rfl rfl) rfl c_281 rfl ?_)
            refine sp rfl (OpT.pickT rfl (dl rfl rfl) rfl c_276 rfl ?_)
            refine TL'.nil (thenS_normal ?_)
            rcases bif_some h with ⟨c_282, h⟩ | ⟨c_282, h⟩
            · refine T.condT rfl c_282 ?_
              refine T.by_turn ?_ (raddlelaw04_SyntaxName_j1_T K (raddlelaw04_SyntaxName_l0 K k) ih x0 x3_0_1 x13_0_4 x12_0_3 x13_0_4 (y4_0_2.length : Int) (decide ((y4_0_2.length : Int) > (0 : Int))) (decide ((y4_0_2.length : Int) > (0 : Int))) (decide ((bt x0 x13_0_4) < (48 : Int))) (decide ((bt x0 x13_0_4) < (48 : Int))) (decide ((bt x0 x13_0_4) > (57 : Int))) y4_0_2 w4_0 h)
              exact Turn.rp (.cons rfl (.cons rfl (.cons rfl (.cons rfl (.cons rfl (.cons rfl (.cons rfl (.cons rfl (.cons rfl (.cons rfl (.cons rfl (.cons rfl (.cons rfl (.nil _)))))))))))))) (.c .z (.n _))
            · refine T.condF rfl c_282 ?_
              refine T.skip (inBlock_normal (thenS_normal ?_))
              refine T.regionL ?_
              refine sp rfl (OpT.int2 rfl rfl (dl rfl rfl) rfl rfl ?_)
              refine mv rfl rfl rfl rfl rfl ?_
              refine TL'.nil (thenS_normal ?_)
              refine TL.by_turn ?_ (ih x0 x3_0_1 x12_0_3 (IntKind.i64.wrap (x13_0_4 + (1 : Int))) y4_0_2 w4_0 h)
              exact Turn.rp (.cons rfl (.cons rfl (.cons rfl (.cons rfl (.cons rfl (.nil _)))))) (.c .z (.n _))
      · refine TL'.passU (.off _ _ _ _ rfl rfl rfl c_276) (dl rfl rfl) ?_
        refine TL'.passU (.off _ _ _ _ rfl rfl rfl c_276) (dl rfl rfl) ?_
        refine TL'.passU (.off _ _ _ _ rfl rfl rfl c_276) (dl rfl rfl) ?_
        refine TL'.passU (.off _ _ _ _ rfl rfl rfl c_276) (dl rfl rfl) ?_
        refine TL'.passU (.gone _ _ _ rfl rfl rfl) (dl rfl rfl) ?_
        refine TL'.passU (.gone _ _ _ rfl rfl rfl) (dl rfl rfl) ?_
        refine TL'.passU (.gone _ _ _ rfl rfl rfl) (dl rfl rfl) ?_
        refine TL'.passU (.gone _ _ _ rfl rfl rfl) (dl rfl rfl) ?_
        refine TL'.passU (.off _ _ _ _ rfl rfl rfl c_276) (dl rfl rfl) ?_
        refine TL'.passU (.off _ _ _ _ rfl rfl rfl c_276) (dl rfl rfl) ?_
        refine TL'.passU (.gone _ _ _ rfl rfl rfl) (dl rfl rfl) ?_
        refine TL'.passU (.gone _ _ _ rfl rfl rfl) (dl rfl rfl) ?_
        refine TL'.passU (.gone _ _ _ rfl rfl rfl) (dl rfl rfl) ?_
        refine TL'.passU (.gone _ _ _ rfl rfl rfl) (dl rfl rfl) ?_
        refine TL'.passU (.off _ _ _ _ rfl rfl rfl c_276) (dl rfl rfl) ?_
        refine sp rfl (OpT.pickF rfl (dl rfl rfl) rfl c_276 rfl ?_)
        refine TL'.nil (thenS_normal ?_)
        refine T.condF rfl rfl ?_
        refine T.skip (inBlock_normal (thenS_normal ?_))
        refine T.regionL ?_
        refine sp rfl (OpT.int2 rfl rfl (dl rfl rfl) rfl rfl ?_)
        refine mv rfl rfl rfl rfl rfl ?_
        refine TL'.nil (thenS_normal ?_)
        refine TL.by_turn ?_ (ih x0 x3_0_1 x12_0_3 (IntKind.i64.wrap (x13_0_4 + (1 : Int))) y4_0_2 w4_0 h)
        exact Turn.rp (.cons rfl (.cons rfl (.cons rfl (.cons rfl (.cons rfl (.nil _)))))) (.c .z (.n _))
    · refine T.condF rfl c_274 ?_
      refine T.exit (thenS_exit (thenS_exit (inBlock_exit (thenS_normal ?_))))
      refine T.seq ?_
      refine T.regionL ?_
      refine mv rfl rfl rfl rfl rfl ?_
      refine TL'.turn (Turn.view 45 0 rfl rfl) ?_
      refine sp rfl (OpT.convBytes (xs := y4_0_2) rfl (dl rfl rfl) Try.underlying38 Try.underlying5 Try.underlying9 rfl ?_)
      obtain ⟨g_283, h⟩ := ck_some h
      refine sp rfl (OpT.str_add rfl (dl rfl rfl) rfl rfl g_283 ?_)
      obtain ⟨g_284, h⟩ := ck_some h
      refine sp rfl (OpT.str_add rfl (dl rfl rfl) rfl rfl g_284 ?_)
      obtain ⟨v_285, e_286, h⟩ := bind_some h
      refine sp rfl (OpT.callPA rfl (dl rfl rfl) Try.func10 rfl rfl (Args.cons rfl Args.nil) (CallR.nil (syntax_Parse_T K e_286)) ?_)
      refine mv rfl rfl rfl rfl rfl ?_
      refine sp rfl (OpT.extract rfl (dl rfl rfl) rfl rfl ?_)
      refine sp rfl (OpT.extract rfl (dl rfl rfl) rfl rfl ?_)
      refine sp rfl (OpT.extract rfl (dl rfl rfl) rfl rfl ?_)
      refine asg rfl rfl rfl rfl rfl ?_
      refine asg rfl rfl rfl rfl rfl ?_
      refine asg rfl rfl rfl rfl rfl ?_
      refine TL'.nil (thenS_normal ?_)
      refine T.seq ?_
      refine T.seq ?_
      refine T.regionL ?_
      refine mv rfl rfl rfl rfl rfl ?_
      refine TL'.turn (Turn.view 53 0 rfl rfl) ?_
      refine sp rfl (OpT.convBytes (xs := y4_0_2) rfl (dl rfl rfl) Try.underlying38 Try.underlying5 Try.underlying9 rfl ?_)
      obtain ⟨v_287, e_288, h⟩ := bind_some h
      refine sp rfl (OpT.callPA rfl (dl rfl rfl) Try.func14 rfl rfl (Args.cons rfl Args.nil) (CallR.nil (syntax_Name_T K e_288)) ?_)
      refine sp rfl (OpT.not rfl (dl rfl rfl) rfl ?_)
      refine TL'.nil (thenS_normal ?_)
      rcases bif_some h with ⟨c_289, h⟩ | ⟨c_289, h⟩
      · refine T.condT rfl c_289 ?_
        refine T.seq ?_
        refine T.regionL ?_
        refine mv rfl rfl rfl rfl rfl ?_
        refine mv rfl rfl rfl rfl rfl ?_
        rcases bif_some h with ⟨c_290, h⟩ | ⟨c_290, h⟩
        · refine TL'.step (.on rfl rfl rfl c_290) (OpT.move rfl (dl rfl rfl) rfl ?_)
          refine TL'.step (.on rfl rfl rfl c_290) (OpT.int2 rfl rfl (dl rfl rfl) rfl rfl ?_)
          refine sp rfl (OpT.pickT rfl (dl rfl rfl) rfl c_290 rfl ?_)
          refine mv rfl rfl rfl rfl rfl ?_
          rcases bif_some h with ⟨c_291, h⟩ | ⟨c_291, h⟩
          · refine TL'.step (.on rfl rfl rfl c_291) (OpT.move rfl (dl rfl rfl) rfl ?_)
            refine TL'.step (.on rfl rfl rfl c_291) (OpT.int2 rfl rfl (dl rfl rfl) rfl rfl ?_)
            refine sp rfl (OpT.pickT rfl (dl rfl rfl) rfl c_291 rfl ?_)
            refine mv rfl rfl rfl rfl rfl ?_
            rcases bif_some h with ⟨c_292, h⟩ | ⟨c_292, h⟩
            · refine TL'.step (.on rfl rfl rfl c_292) (OpT.move rfl (dl rfl rfl) rfl ?_)
              refine TL'.step (.on rfl rfl rfl c_292) (OpT.lenSlM (xs := v_285.1) (f := c_api_Node) rfl (dl rfl rfl) Try.underlying23 rfl ?_)
              refine TL'.step (.on rfl rfl rfl c_292) (OpT.int2 rfl rfl (dl rfl rfl) rfl rfl ?_)
              refine sp rfl (OpT.pickT rfl (dl rfl rfl) rfl c_292 rfl ?_)
              refine asg rfl rfl rfl rfl rfl ?_
              refine TL'.nil (thenS_normal ?_)
              refine T.by_turn ?_ (raddlelaw04_SyntaxName_j2_T K ((v_285.1.length : Int) == (0 : Int)) h)
              exact Turn.rp (.cons rfl (.nil _)) (.n _)
            · refine TL'.passU (.off _ _ _ _ rfl rfl rfl c_292) (dl rfl rfl) ?_
              refine TL'.passU (.off _ _ _ _ rfl rfl rfl c_292) (dl rfl rfl) ?_
              refine TL'.passU (.off _ _ _ _ rfl rfl rfl c_292) (dl rfl rfl) ?_
              refine sp rfl (OpT.pickF rfl (dl rfl rfl) rfl c_292 rfl ?_)
              refine asg rfl rfl rfl rfl rfl ?_
              refine TL'.nil (thenS_normal ?_)
              refine T.by_turn ?_ (raddlelaw04_SyntaxName_j2_T K false h)
              exact Turn.rp (.cons rfl (.nil _)) (.n _)
          · refine TL'.passU (.off _ _ _ _ rfl rfl rfl c_291) (dl rfl rfl) ?_
            refine TL'.passU (.off _ _ _ _ rfl rfl rfl c_291) (dl rfl rfl) ?_
            refine sp rfl (OpT.pickF rfl (dl rfl rfl) rfl c_291 rfl ?_)
            refine mv rfl rfl rfl rfl rfl ?_
            refine TL'.passU (.off _ _ _ _ rfl rfl rfl rfl) (dl rfl rfl) ?_
            refine TL'.passU (.off _ _ _ _ rfl rfl rfl rfl) (dl rfl rfl) ?_
            refine TL'.passU (.off _ _ _ _ rfl rfl rfl rfl) (dl rfl rfl) ?_
            refine sp rfl (OpT.pickF rfl (dl rfl rfl) rfl rfl rfl ?_)
            refine asg rfl rfl rfl rfl rfl ?_
            refine TL'.nil (thenS_normal ?_)
            refine T.by_turn ?_ (raddlelaw04_SyntaxName_j2_T K false h)
            exact Turn.rp (.cons rfl (.nil _)) (.n _)
        · refine TL'.passU (.off _ _ _ _ rfl rfl rfl c_290) (dl rfl rfl) ?_
          refine TL'.passU (.off _ _ _ _ rfl rfl rfl c_290) (dl rfl rfl) ?_
          refine sp rfl (OpT.pickF rfl (dl rfl rfl) rfl c_290 rfl ?_)
          refine mv rfl rfl rfl rfl rfl ?_
          refine TL'.passU (.off _ _ _ _ rfl rfl rfl rfl) (dl rfl rfl) ?_
          refine TL'.passU (.off _ _ _ _ rfl rfl rfl rfl) (dl rfl rfl) ?_
          refine sp rfl (OpT.pickF rfl (dl rfl rfl) rfl rfl rfl ?_)
          refine mv rfl rfl rfl rfl rfl ?_
          refine TL'.passU (.off _ _ _ _ rfl rfl rfl rfl) (dl rfl rfl) ?_
          refine TL'.passU (.off _ _ _ _ rfl rfl rfl rfl) (dl rfl rfl) ?_
          refine TL'.passU (.off _ _ _ _ rfl rfl rfl rfl) (dl rfl rfl) ?_
          refine sp rfl (OpT.pickF rfl (dl rfl rfl) rfl rfl rfl ?_)
          refine asg rfl rfl rfl rfl rfl ?_
          refine TL'.nil (thenS_normal ?_)
          refine T.by_turn ?_ (raddlelaw04_SyntaxName_j2_T K false h)
          exact Turn.rp (.cons rfl (.nil _)) (.n _)
      · refine T.condF rfl c_289 ?_
        refine T.skip (thenS_normal ?_)
        refine T.seq ?_
        refine T.regionL ?_
        refine mv rfl rfl rfl rfl rfl ?_
        refine mv rfl rfl rfl rfl rfl ?_
        rcases bif_some h with ⟨c_293, h⟩ | ⟨c_293, h⟩
        · refine TL'.step (.on rfl rfl rfl c_293) (OpT.move rfl (dl rfl rfl) rfl ?_)
          refine TL'.step (.on rfl rfl rfl c_293) (OpT.int2 rfl rfl (dl rfl rfl) rfl rfl ?_)
          refine sp rfl (OpT.pickT rfl (dl rfl rfl) rfl c_293 rfl ?_)
          refine mv rfl rfl rfl rfl rfl ?_
          rcases bif_some h with ⟨c_294, h⟩ | ⟨c_294, h⟩
          · refine TL'.step (.on rfl rfl rfl c_294) (OpT.move rfl (dl rfl rfl) rfl ?_)
            refine TL'.step (.on rfl rfl rfl c_294) (OpT.move rfl (dl rfl rfl) rfl ?_)
            refine TL'.turn (Turn.view 78 0 rfl rfl) ?_
            refine TL'.step (.on rfl rfl rfl c_294) (OpT.convBytes (xs := y4_0_2) rfl (dl rfl rfl) Try.underlying38 Try.underlying5 Try.underlying9 rfl ?_)
            refine TL'.step (.on rfl rfl rfl c_294) (OpT.thenTurn (OpT.build (l := [.int .u8 (6 : Int), .int .u64 (Arr4.mk 0 0 0 0).a0, .int .u64 (Arr4.mk 0 0 0 0).a1, .int .u64 (Arr4.mk 0 0 0 0).a2, .int .u64 (Arr4.mk 0 0 0 0).a3, .ex (.slice none 0 0), .int .i64 (0 : Int), .int .i64 (0 : Int), .str (ofBytes y4_0_2)]) rfl (dl rfl rfl) (built_struct (pl := [(0, 1), (1, 4), (5, 1), (6, 1), (7, 1), (8, 1)]) Try.underlying36 i36 rfl) (all1 rfl) rfl rfl rfl) (Turn.weakSlotP 80 (l := [.int .u8 (6 : Int), .int .u64 (Arr4.mk 0 0 0 0).a0, .int .u64 (Arr4.mk 0 0 0 0).a1, .int .u64 (Arr4.mk 0 0 0 0).a2, .int .u64 (Arr4.mk 0 0 0 0).a3, .ex (.slice none 0 0), .int .i64 (0 : Int), .int .i64 (0 : Int), .str (ofBytes y4_0_2)]) (l' := [.int .u8 (6 : Int), .int .u64 (Arr4.mk 0 0 0 0).a0, .int .u64 (Arr4.mk 0 0 0 0).a1, .int .u64 (Arr4.mk 0 0 0 0).a2, .int .u64 (Arr4.mk 0 0 0 0).a3, .sl false 1 (([] : List Int).map (cI .i64)), .int .i64 (0 : Int), .int .i64 (0 : Int), .str (ofBytes y4_0_2)]) (.cons (.same _) (.cons (.same _) (.cons (.same _) (.cons (.same _) (.cons (.same _) (.cons (.nil _ _) (.cons (.same _) (.cons (.same _) (.cons (.same _) (.refl _))))))))))) ?_)
            refine TL'.step (.on rfl rfl rfl c_294) (OpT.buildSlice (elems := ([(api_Node.mk (6 : Int) (Arr4.mk 0 0 0 0) [] (0 : Int) (0 : Int) (ofBytes y4_0_2))] : List api_Node).map c_api_Node) rfl (dl rfl rfl) Try.underlying23 i36 (by decide) rfl (all1 rfl) rfl rfl rfl (lenAll rfl) (by decide) ?_)
            obtain ⟨v_295, e_296, h⟩ := bind_some h
            refine TL'.step (.on rfl rfl rfl c_294) (OpT.callPA rfl (dl rfl rfl) Try.func11 rfl rfl (Args.cons rfl (Args.cons rfl Args.nil)) (CallR.nil (raddleref04_Same_T K (flx0 := false) (flx1 := true) e_296)) ?_)
            refine sp rfl (OpT.pickT rfl (dl rfl rfl) rfl c_294 rfl ?_)
            refine asg rfl rfl rfl rfl rfl ?_
            refine TL'.nil (thenS_normal ?_)
            refine T.ret ?_
            exact Fin.done (.cons _ _ _ _ (.tmp 2 _ rfl) .nil) (by cases h; exact ⟨rfl, rfl⟩)
          · refine TL'.passU (.off _ _ _ _ rfl rfl rfl c_294) (dl rfl rfl) ?_
            refine TL'.passU (.off _ _ _ _ rfl rfl rfl c_294) (dl rfl rfl) ?_
            refine TL'.passU (.off _ _ _ _ rfl rfl rfl c_294) (dl rfl rfl) ?_
            refine TL'.passU (.off _ _ _ _ rfl rfl rfl c_294) (dl rfl rfl) ?_
            refine TL'.passU (.off _ _ _ _ rfl rfl rfl c_294) (dl rfl rfl) ?_
            refine TL'.passU (.off _ _ _ _ rfl rfl rfl c_294) (dl rfl rfl) ?_
            refine sp rfl (OpT.pickF rfl (dl rfl rfl) rfl c_294 rfl ?_)
            refine asg rfl rfl rfl rfl rfl ?_
            refine TL'.nil (thenS_normal ?_)
            refine T.ret ?_
            exact Fin.done (.cons _ _ _ _ (.tmp 2 _ rfl) .nil) (by cases h; exact ⟨rfl, rfl⟩)
        · refine TL'.passU (.off _ _ _ _ rfl rfl rfl c_293) (dl rfl rfl) ?_
          refine TL'.passU (.off _ _ _ _ rfl rfl rfl c_293) (dl rfl rfl) ?_
          refine sp rfl (OpT.pickF rfl (dl rfl rfl) rfl c_293 rfl ?_)
          refine mv rfl rfl rfl rfl rfl ?_
          refine TL'.passU (.off _ _ _ _ rfl rfl rfl rfl) (dl rfl rfl) ?_
          refine TL'.passU (.off _ _ _ _ rfl rfl rfl rfl) (dl rfl rfl) ?_
          refine TL'.passU (.off _ _ _ _ rfl rfl rfl rfl) (dl rfl rfl) ?_
          refine TL'.passU (.off _ _ _ _ rfl rfl rfl rfl) (dl rfl rfl) ?_
          refine TL'.passU (.off _ _ _ _ rfl rfl rfl rfl) (dl rfl rfl) ?_
          refine TL'.passU (.off _ _ _ _ rfl rfl rfl rfl) (dl rfl rfl) ?_
          refine sp rfl (OpT.pickF rfl (dl rfl rfl) rfl rfl rfl ?_)
          refine asg rfl rfl rfl rfl rfl ?_
          refine TL'.nil (thenS_normal ?_)
          refine T.ret ?_
          exact Fin.done (.cons _ _ _ _ (.tmp 2 _ rfl) .nil) (by cases h; exact ⟨rfl, rfl⟩)

theorem raddlelaw04_SyntaxName_T (K : Nat) {x0 : ByteArray} {r : Bool} (h : raddlelaw04_SyntaxName K x0 = some r) : CallR Try.prog 6 [.str x0] [] (.bool r) := by
  refine CallT.intro Try.func6 rfl (Nat.le_of_ble_eq_true rfl) ?_
  show T Try.prog 84 (Code.at [] (codeOf Try.f6)) ⟨paramSlots 0 [.str x0], []⟩ (raddlelaw04_SyntaxName_q r)
  unfold raddlelaw04_SyntaxName at h
  refine T.seq ?_
  refine T.regionL ?_
  refine asg rfl rfl rfl rfl rfl ?_
  refine TL'.nil (thenS_normal ?_)
  refine T.seq ?_
  refine T.regionL ?_
  obtain ⟨v_272, e_273, h⟩ := bind_some h
  refine sp rfl (OpT.callPA rfl (dl rfl rfl) Try.func9 rfl rfl Args.nil (CallR.nil (raddlelaw04_shown_T K e_273)) ?_)
  refine asg rfl rfl rfl rfl rfl ?_
  refine TL'.nil (thenS_normal ?_)
  refine T.seq ?_
  refine T.regionL ?_
  refine asg rfl rfl rfl rfl rfl ?_
  refine TL'.nil (thenS_normal ?_)
  refine T.seq ?_
  refine T.seq ?_
  refine T.regionL ?_
  refine mv rfl rfl rfl rfl rfl ?_
  refine sp rfl (OpT.lenStr rfl (dl rfl rfl) Try.underlying9 rfl ?_)
  refine sp rfl (OpT.min2 rfl (dl rfl rfl) rfl rfl ?_)
  refine mv rfl rfl rfl rfl rfl ?_
  refine TL'.nil (thenS_normal ?_)
  refine T.block ?_
  refine T.loop ?_
  refine TL.by_turn (Turn.nilA 5 1) ?_
  refine TL.by_turn ?_ (raddlelaw04_SyntaxName_l0_T K K x0 v_272 (if (50 : Int) < (x0.size : Int) then (50 : Int) else (x0.size : Int)) (0 : Int) [] (nilv 2) h)
  exact Turn.rp (.cons rfl (.cons rfl (.cons rfl (.cons rfl (.cons rfl (.nil _)))))) (.c .z (.n _))

end Go.Rv

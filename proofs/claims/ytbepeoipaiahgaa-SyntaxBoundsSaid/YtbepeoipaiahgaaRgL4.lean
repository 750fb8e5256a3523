/- Each function computes what its plain text says: printed by a program of ours. -/
import Derived.Test.YtbepeoipaiahgaaRgW3
namespace Go.Rv
open Go.Proofs
set_option maxRecDepth 100000
set_option maxHeartbeats 4000000
set_option linter.unusedVariables false

abbrev raddlelaw04_SyntaxBounds_q (r : Bool) : Exit → St → Prop := retS Try.prog Try.f4 (fun y t => y = (.bool r) ∧ t = [])

abbrev raddlelaw04_SyntaxBounds_qs1111111 (r : Bool) : Exit → St → Prop := thenS (fun s' => T Try.prog 135 (Code.at [1, 1, 1, 1, 1, 1, 1] (codeOf Try.f4)) s' ((raddlelaw04_SyntaxBounds_q r))) ((raddlelaw04_SyntaxBounds_q r))

theorem raddlelaw04_SyntaxBounds_j2_T {r : Bool} (K : Nat) (x6_2_0 : Bool) (h : raddlelaw04_SyntaxBounds_j2 K x6_2_0 = some r) : T Try.prog 135 (Code.at [1, 1, 1, 1, 1, 1, 0, 1, 0, 1] (codeOf Try.f4)) ⟨[(6, .bool x6_2_0)], []⟩ (raddlelaw04_SyntaxBounds_qs1111111 r) := by
  unfold raddlelaw04_SyntaxBounds_j2 at h
  refine T.ret (thenS_ret ?_)
  exact Fin.done (.cons _ _ _ _ (.tmp 6 _ rfl) .nil) (by cases h; exact ⟨rfl, rfl⟩)

theorem raddlelaw04_SyntaxBounds_j1_T {r : Bool} (K : Nat) (x7_0_0 : Bool) (x12_1_1 : List api_Node) (x13_1_2 : Int) (x14_1_3 : Int) (h : raddlelaw04_SyntaxBounds_j1 K x7_0_0 x12_1_1 x13_1_2 x14_1_3 = some r) : T Try.prog 135 (Code.at [1, 1, 1, 1, 1, 1, 0, 1, 0] (codeOf Try.f4)) ⟨[(7, .bool x7_0_0), (12, .sl false 9 (x12_1_1.map c_api_Node)), (13, .int .i64 x13_1_2), (14, .int .i64 x14_1_3)], []⟩ (raddlelaw04_SyntaxBounds_qs1111111 r) := by
  unfold raddlelaw04_SyntaxBounds_j1 at h
  refine T.seq ?_
  refine T.regionL ?_
  refine mv rfl rfl rfl rfl rfl ?_
  refine mv rfl rfl rfl rfl rfl ?_
  rcases bif_some h with ⟨c_281, h⟩ | ⟨c_281, h⟩
  · refine TL'.step (.on rfl rfl rfl c_281) (OpT.move rfl (dl rfl rfl) rfl ?_)
    refine TL'.step (.on rfl rfl rfl c_281) (OpT.int2 rfl rfl (dl rfl rfl) rfl rfl ?_)
    refine sp rfl (OpT.pickT rfl (dl rfl rfl) rfl c_281 rfl ?_)
    refine mv rfl rfl rfl rfl rfl ?_
    rcases bif_some h with ⟨c_282, h⟩ | ⟨c_282, h⟩
    · refine TL'.step (.on rfl rfl rfl c_282) (OpT.move rfl (dl rfl rfl) rfl ?_)
      refine TL'.step (.on rfl rfl rfl c_282) (OpT.int2 rfl rfl (dl rfl rfl) rfl rfl ?_)
      refine sp rfl (OpT.pickT rfl (dl rfl rfl) rfl c_282 rfl ?_)
      refine mv rfl rfl rfl rfl rfl ?_
      rcases bif_some h with ⟨c_283, h⟩ | ⟨c_283, h⟩
      · refine TL'.step (.on rfl rfl rfl c_283) (OpT.move rfl (dl rfl rfl) rfl ?_)
        refine TL'.step (.on rfl rfl rfl c_283) (OpT.lenSlM (xs := x12_1_1) (f := c_api_Node) rfl (dl rfl rfl) Try.underlying23 rfl ?_)
        refine TL'.step (.on rfl rfl rfl c_283) (OpT.int2 rfl rfl (dl rfl rfl) rfl rfl ?_)
        refine sp rfl (OpT.pickT rfl (dl rfl rfl) rfl c_283 rfl ?_)
        refine asg rfl rfl rfl rfl rfl ?_
        refine TL'.nil (thenS_normal ?_)
        refine T.by_turn ?_ (raddlelaw04_SyntaxBounds_j2_T K ((x12_1_1.length : Int) == (0 : Int)) h)
        exact Turn.rp (.cons rfl (.nil _)) (.n _)
      · refine TL'.passU (.off _ _ _ _ rfl rfl rfl c_283) (dl rfl rfl) ?_
        refine TL'.passU (.off _ _ _ _ rfl rfl rfl c_283) (dl rfl rfl) ?_
        refine TL'.passU (.off _ _ _ _ rfl rfl rfl c_283) (dl rfl rfl) ?_
        refine sp rfl (OpT.pickF rfl (dl rfl rfl) rfl c_283 rfl ?_)
        refine asg rfl rfl rfl rfl rfl ?_
        refine TL'.nil (thenS_normal ?_)
        refine T.by_turn ?_ (raddlelaw04_SyntaxBounds_j2_T K false h)
        exact Turn.rp (.cons rfl (.nil _)) (.n _)
    · refine TL'.passU (.off _ _ _ _ rfl rfl rfl c_282) (dl rfl rfl) ?_
      refine TL'.passU (.off _ _ _ _ rfl rfl rfl c_282) (dl rfl rfl) ?_
      refine sp rfl (OpT.pickF rfl (dl rfl rfl) rfl c_282 rfl ?_)
      refine mv rfl rfl rfl rfl rfl ?_
      refine TL'.passU (.off _ _ _ _ rfl rfl rfl rfl) (dl rfl rfl) ?_
      refine TL'.passU (.off _ _ _ _ rfl rfl rfl rfl) (dl rfl rfl) ?_
      refine TL'.passU (.off _ _ _ _ rfl rfl rfl rfl) (dl rfl rfl) ?_
      refine sp rfl (OpT.pickF rfl (dl rfl rfl) rfl rfl rfl ?_)
      refine asg rfl rfl rfl rfl rfl ?_
      refine TL'.nil (thenS_normal ?_)
      refine T.by_turn ?_ (raddlelaw04_SyntaxBounds_j2_T K false h)
      exact Turn.rp (.cons rfl (.nil _)) (.n _)
  · refine TL'.passU (.off _ _ _ _ rfl rfl rfl c_281) (dl rfl rfl) ?_
    refine TL'.passU (.off _ _ _ _ rfl rfl rfl c_281) (dl rfl rfl) ?_
    refine sp rfl (OpT.pickF rfl (dl rfl rfl) rfl c_281 rfl ?_)
    refine mv rfl rfl rfl rfl rfl ?_
    refine TL'.passU (.off _ _ _ _ rfl rfl rfl rfl) (dl rfl rfl) ?_
    refine TL'.passU (.off _ _ _ _ rfl rfl rfl rfl) (dl rfl rfl) ?_
    refine sp rfl (OpT.pickF rfl (dl rfl rfl) rfl rfl rfl ?_)
    refine mv rfl rfl rfl rfl rfl ?_
    refine TL'.passU (.off _ _ _ _ rfl rfl rfl rfl) (dl rfl rfl) ?_
    refine TL'.passU (.off _ _ _ _ rfl rfl rfl rfl) (dl rfl rfl) ?_
    refine TL'.passU (.off _ _ _ _ rfl rfl rfl rfl) (dl rfl rfl) ?_
    refine sp rfl (OpT.pickF rfl (dl rfl rfl) rfl rfl rfl ?_)
    refine asg rfl rfl rfl rfl rfl ?_
    refine TL'.nil (thenS_normal ?_)
    refine T.by_turn ?_ (raddlelaw04_SyntaxBounds_j2_T K false h)
    exact Turn.rp (.cons rfl (.nil _)) (.n _)

theorem raddlelaw04_SyntaxBounds_j0_T {r : Bool} (K : Nat) (x7_0_0 : Bool) (x8_0_1 : Int) (x10_0_2 : ByteArray) (x11_0_3 : Int) (h : raddlelaw04_SyntaxBounds_j0 K x7_0_0 x8_0_1 x10_0_2 x11_0_3 = some r) : T Try.prog 135 (Code.at [1, 1, 1, 1, 1] (codeOf Try.f4)) ⟨[(7, .bool x7_0_0), (8, .int .i64 x8_0_1), (10, .str x10_0_2), (11, .int .i64 x11_0_3)], []⟩ (raddlelaw04_SyntaxBounds_q r) := by
  unfold raddlelaw04_SyntaxBounds_j0 at h
  refine T.seq ?_
  refine T.regionL ?_
  refine mv rfl rfl rfl rfl rfl ?_
  obtain ⟨g_277, h⟩ := ck_some h
  refine sp rfl (OpT.str_add rfl (dl rfl rfl) rfl rfl g_277 ?_)
  obtain ⟨v_278, e_279, h⟩ := bind_some h
  refine sp rfl (OpT.callPA rfl (dl rfl rfl) Try.func10 rfl rfl (Args.cons rfl Args.nil) (CallR.nil (syntax_Parse_T K e_279)) ?_)
  refine mv rfl rfl rfl rfl rfl ?_
  refine sp rfl (OpT.extract rfl (dl rfl rfl) rfl rfl ?_)
  refine sp rfl (OpT.extract rfl (dl rfl rfl) rfl rfl ?_)
  refine sp rfl (OpT.extract rfl (dl rfl rfl) rfl rfl ?_)
  refine asg rfl rfl rfl rfl rfl ?_
  refine asg rfl rfl rfl rfl rfl ?_
  refine asg rfl rfl rfl rfl rfl ?_
  refine TL'.nil (thenS_normal ?_)
  refine T.seq ?_
  refine T.seq ?_
  refine T.regionL ?_
  refine mv rfl rfl rfl rfl rfl ?_
  refine sp rfl (OpT.int2 rfl rfl (dl rfl rfl) rfl rfl ?_)
  refine mv rfl rfl rfl rfl rfl ?_
  rcases bif_some h with ⟨c_280, h⟩ | ⟨c_280, h⟩
  · refine TL'.passU (.off _ _ _ _ rfl rfl rfl c_280) (dl rfl rfl) ?_
    refine TL'.passU (.off _ _ _ _ rfl rfl rfl c_280) (dl rfl rfl) ?_
    refine sp rfl (OpT.pickT rfl (dl rfl rfl) rfl c_280 rfl ?_)
    refine mv rfl rfl rfl rfl rfl ?_
    refine TL'.passU (.off _ _ _ _ rfl rfl rfl rfl) (dl rfl rfl) ?_
    refine TL'.passU (.off _ _ _ _ rfl rfl rfl rfl) (dl rfl rfl) ?_
    refine TL'.passU (.off _ _ _ _ rfl rfl rfl rfl) (dl rfl rfl) ?_
    refine TL'.passU (.off _ _ _ _ rfl rfl rfl rfl) (dl rfl rfl) ?_
    refine sp rfl (OpT.pickT rfl (dl rfl rfl) rfl rfl rfl ?_)
    refine TL'.nil (thenS_normal ?_)
    refine T.condT rfl rfl ?_
    refine T.by_turn ?_ (raddlelaw04_SyntaxBounds_j1_T K x7_0_0 v_278.1 v_278.2.1 v_278.2.2 h)
    exact Turn.rp (.cons rfl (.cons rfl (.cons rfl (.cons rfl (.nil _))))) (.n _)
  · refine TL'.step (.on rfl rfl rfl c_280) (OpT.move rfl (dl rfl rfl) rfl ?_)
    refine TL'.step (.on rfl rfl rfl c_280) (OpT.int2 rfl rfl (dl rfl rfl) rfl rfl ?_)
    refine sp rfl (OpT.pickF rfl (dl rfl rfl) rfl c_280 rfl ?_)
    refine mv rfl rfl rfl rfl rfl ?_
    rcases bif_some h with ⟨c_284, h⟩ | ⟨c_284, h⟩
    · refine TL'.passU (.off _ _ _ _ rfl rfl rfl c_284) (dl rfl rfl) ?_
      refine TL'.passU (.off _ _ _ _ rfl rfl rfl c_284) (dl rfl rfl) ?_
      refine TL'.passU (.off _ _ _ _ rfl rfl rfl c_284) (dl rfl rfl) ?_
      refine TL'.passU (.off _ _ _ _ rfl rfl rfl c_284) (dl rfl rfl) ?_
      refine sp rfl (OpT.pickT rfl (dl rfl rfl) rfl c_284 rfl ?_)
      refine TL'.nil (thenS_normal ?_)
      refine T.condT rfl rfl ?_
      refine T.by_turn ?_ (raddlelaw04_SyntaxBounds_j1_T K x7_0_0 v_278.1 v_278.2.1 v_278.2.2 h)
      exact Turn.rp (.cons rfl (.cons rfl (.cons rfl (.cons rfl (.nil _))))) (.n _)
    · refine TL'.step (.on rfl rfl rfl c_284) (OpT.move rfl (dl rfl rfl) rfl ?_)
      refine TL'.step (.on rfl rfl rfl c_284) (OpT.move rfl (dl rfl rfl) rfl ?_)
      refine TL'.step (.on rfl rfl rfl c_284) (OpT.max2 rfl (dl rfl rfl) rfl rfl ?_)
      refine TL'.step (.on rfl rfl rfl c_284) (OpT.int2 rfl rfl (dl rfl rfl) rfl rfl ?_)
      refine sp rfl (OpT.pickF rfl (dl rfl rfl) rfl c_284 rfl ?_)
      refine TL'.nil (thenS_normal ?_)
      rcases bif_some h with ⟨c_285, h⟩ | ⟨c_285, h⟩
      · refine T.condT rfl c_285 ?_
        refine T.by_turn ?_ (raddlelaw04_SyntaxBounds_j1_T K x7_0_0 v_278.1 v_278.2.1 v_278.2.2 h)
        exact Turn.rp (.cons rfl (.cons rfl (.cons rfl (.cons rfl (.nil _))))) (.n _)
      · refine T.condF rfl c_285 ?_
        refine T.skip (thenS_normal ?_)
        refine T.seq ?_
        refine T.regionL ?_
        refine mv rfl rfl rfl rfl rfl ?_
        obtain ⟨v_286, e_287, h⟩ := bind_some h
        refine sp rfl (OpT.callPA rfl (dl rfl rfl) Try.func12 rfl rfl (Args.cons rfl Args.nil) (CallR.nil (raddlelaw04_digits_T K e_287)) ?_)
        obtain ⟨g_288, h⟩ := ck_some h
        refine sp rfl (OpT.str_add rfl (dl rfl rfl) rfl rfl g_288 ?_)
        obtain ⟨g_289, h⟩ := ck_some h
        refine sp rfl (OpT.str_add rfl (dl rfl rfl) rfl rfl g_289 ?_)
        obtain ⟨v_290, e_291, h⟩ := bind_some h
        refine sp rfl (OpT.callPA rfl (dl rfl rfl) Try.func10 rfl rfl (Args.cons rfl Args.nil) (CallR.nil (syntax_Parse_T K e_291)) ?_)
        refine mv rfl rfl rfl rfl rfl ?_
        refine sp rfl (OpT.extract rfl (dl rfl rfl) rfl rfl ?_)
        refine sp rfl (OpT.extract rfl (dl rfl rfl) rfl rfl ?_)
        refine sp rfl (OpT.extract rfl (dl rfl rfl) rfl rfl ?_)
        refine asg rfl rfl rfl rfl rfl ?_
        refine asg rfl rfl rfl rfl rfl ?_
        refine asg rfl rfl rfl rfl rfl ?_
        refine TL'.nil (thenS_normal ?_)
        refine T.seq ?_
        refine T.regionL ?_
        refine mv rfl rfl rfl rfl rfl ?_
        refine mv rfl rfl rfl rfl rfl ?_
        rcases bif_some h with ⟨c_292, h⟩ | ⟨c_292, h⟩
        · refine TL'.step (.on rfl rfl rfl c_292) (OpT.move rfl (dl rfl rfl) rfl ?_)
          refine TL'.step (.on rfl rfl rfl c_292) (OpT.int2 rfl rfl (dl rfl rfl) rfl rfl ?_)
          refine sp rfl (OpT.pickT rfl (dl rfl rfl) rfl c_292 rfl ?_)
          refine mv rfl rfl rfl rfl rfl ?_
          rcases bif_some h with ⟨c_293, h⟩ | ⟨c_293, h⟩
          · refine TL'.step (.on rfl rfl rfl c_293) (OpT.move rfl (dl rfl rfl) rfl ?_)
            refine TL'.step (.on rfl rfl rfl c_293) (OpT.lenSlM (xs := v_278.1) (f := c_api_Node) rfl (dl rfl rfl) Try.underlying23 rfl ?_)
            refine TL'.step (.on rfl rfl rfl c_293) (OpT.int2 rfl rfl (dl rfl rfl) rfl rfl ?_)
            refine sp rfl (OpT.pickT rfl (dl rfl rfl) rfl c_293 rfl ?_)
            refine mv rfl rfl rfl rfl rfl ?_
            rcases bif_some h with ⟨c_294, h⟩ | ⟨c_294, h⟩
            · refine TL'.step (.on rfl rfl rfl c_294) (OpT.move rfl (dl rfl rfl) rfl ?_)
              obtain ⟨v_295, e_296, h⟩ := bind_some h
              refine TL'.step (.on rfl rfl rfl c_294) (OpT.indexSlM (xs := v_278.1) (f := c_api_Node) (v := v_295) rfl (dl rfl rfl) Try.underlying23 i36 rfl rfl e_296 ?_)
              refine TL'.step (.on rfl rfl rfl c_294) (OpT.fieldRef rfl (dl rfl rfl) Try.underlying36 rfl i5 (by decide) rfl ?_)
              refine TL'.step (.on rfl rfl rfl c_294) (OpT.loadRef rfl (dl rfl rfl) Try.underlying5 rfl rfl rfl ?_)
              refine TL'.step (.on rfl rfl rfl c_294) (OpT.int2 rfl rfl (dl rfl rfl) rfl rfl ?_)
              refine sp rfl (OpT.pickT rfl (dl rfl rfl) rfl c_294 rfl ?_)
              refine mv rfl rfl rfl rfl rfl ?_
              rcases bif_some h with ⟨c_297, h⟩ | ⟨c_297, h⟩
              · refine TL'.step (.on rfl rfl rfl c_297) (OpT.move rfl (dl rfl rfl) rfl ?_)
                refine TL'.step (.on rfl rfl rfl c_297) (OpT.indexSlM (xs := v_278.1) (f := c_api_Node) (v := v_295) rfl (dl rfl rfl) Try.underlying23 i36 rfl rfl e_296 ?_)
                refine TL'.step (.on rfl rfl rfl c_297) (OpT.fieldRef rfl (dl rfl rfl) Try.underlying36 rfl i3 (by decide) rfl ?_)
                refine TL'.step (.on rfl rfl rfl c_297) (OpT.loadRef rfl (dl rfl rfl) Try.underlying3 rfl rfl rfl ?_)
                refine TL'.step (.on rfl rfl rfl c_297) (OpT.move rfl (dl rfl rfl) rfl ?_)
                refine TL'.step (.on rfl rfl rfl c_297) (OpT.int2 rfl rfl (dl rfl rfl) rfl rfl ?_)
                refine sp rfl (OpT.pickT rfl (dl rfl rfl) rfl c_297 rfl ?_)
                refine mv rfl rfl rfl rfl rfl ?_
                rcases bif_some h with ⟨c_298, h⟩ | ⟨c_298, h⟩
                · refine TL'.step (.on rfl rfl rfl c_298) (OpT.move rfl (dl rfl rfl) rfl ?_)
                  refine TL'.step (.on rfl rfl rfl c_298) (OpT.indexSlM (xs := v_278.1) (f := c_api_Node) (v := v_295) rfl (dl rfl rfl) Try.underlying23 i36 rfl rfl e_296 ?_)
                  refine TL'.step (.on rfl rfl rfl c_298) (OpT.fieldRef rfl (dl rfl rfl) Try.underlying36 rfl i3 (by decide) rfl ?_)
                  refine TL'.step (.on rfl rfl rfl c_298) (OpT.loadRef rfl (dl rfl rfl) Try.underlying3 rfl rfl rfl ?_)
                  refine TL'.step (.on rfl rfl rfl c_298) (OpT.move rfl (dl rfl rfl) rfl ?_)
                  refine TL'.step (.on rfl rfl rfl c_298) (OpT.int2 rfl rfl (dl rfl rfl) rfl rfl ?_)
                  refine sp rfl (OpT.pickT rfl (dl rfl rfl) rfl c_298 rfl ?_)
                  refine mv rfl rfl rfl rfl rfl ?_
                  rcases bif_some h with ⟨c_299, h⟩ | ⟨c_299, h⟩
                  · refine TL'.step (.on rfl rfl rfl c_299) (OpT.move rfl (dl rfl rfl) rfl ?_)
                    refine TL'.step (.on rfl rfl rfl c_299) (OpT.int2 rfl rfl (dl rfl rfl) rfl rfl ?_)
                    refine sp rfl (OpT.pickT rfl (dl rfl rfl) rfl c_299 rfl ?_)
                    refine mv rfl rfl rfl rfl rfl ?_
                    rcases bif_some h with ⟨c_300, h⟩ | ⟨c_300, h⟩
                    · refine TL'.step (.on rfl rfl rfl c_300) (OpT.move rfl (dl rfl rfl) rfl ?_)
                      refine TL'.step (.on rfl rfl rfl c_300) (OpT.lenSlM (xs := v_290.1) (f := c_api_Node) rfl (dl rfl rfl) Try.underlying23 rfl ?_)
                      refine TL'.step (.on rfl rfl rfl c_300) (OpT.int2 rfl rfl (dl rfl rfl) rfl rfl ?_)
                      refine sp rfl (OpT.pickT rfl (dl rfl rfl) rfl c_300 rfl ?_)
                      refine mv rfl rfl rfl rfl rfl ?_
                      rcases bif_some h with ⟨c_301, h⟩ | ⟨c_301, h⟩
                      · refine TL'.step (.on rfl rfl rfl c_301) (OpT.move rfl (dl rfl rfl) rfl ?_)
                        obtain ⟨v_302, e_303, h⟩ := bind_some h
                        refine TL'.step (.on rfl rfl rfl c_301) (OpT.indexSlM (xs := v_290.1) (f := c_api_Node) (v := v_302) rfl (dl rfl rfl) Try.underlying23 i36 rfl rfl e_303 ?_)
                        refine TL'.step (.on rfl rfl rfl c_301) (OpT.fieldRef rfl (dl rfl rfl) Try.underlying36 rfl i3 (by decide) rfl ?_)
                        refine TL'.step (.on rfl rfl rfl c_301) (OpT.loadRef rfl (dl rfl rfl) Try.underlying3 rfl rfl rfl ?_)
                        refine TL'.step (.on rfl rfl rfl c_301) (OpT.move rfl (dl rfl rfl) rfl ?_)
                        refine TL'.step (.on rfl rfl rfl c_301) (OpT.int2 rfl rfl (dl rfl rfl) rfl rfl ?_)
                        refine sp rfl (OpT.pickT rfl (dl rfl rfl) rfl c_301 rfl ?_)
                        refine mv rfl rfl rfl rfl rfl ?_
                        rcases bif_some h with ⟨c_304, h⟩ | ⟨c_304, h⟩
                        · refine TL'.step (.on rfl rfl rfl c_304) (OpT.move rfl (dl rfl rfl) rfl ?_)
                          refine TL'.step (.on rfl rfl rfl c_304) (OpT.indexSlM (xs := v_290.1) (f := c_api_Node) (v := v_302) rfl (dl rfl rfl) Try.underlying23 i36 rfl rfl e_303 ?_)
                          refine TL'.step (.on rfl rfl rfl c_304) (OpT.fieldRef rfl (dl rfl rfl) Try.underlying36 rfl i3 (by decide) rfl ?_)
                          refine TL'.step (.on rfl rfl rfl c_304) (OpT.loadRef rfl (dl rfl rfl) Try.underlying3 rfl rfl rfl ?_)
                          refine TL'.step (.on rfl rfl rfl c_304) (OpT.int2 rfl rfl (dl rfl rfl) rfl rfl ?_)
                          refine sp rfl (OpT.pickT rfl (dl rfl rfl) rfl c_304 rfl ?_)
                          refine asg rfl rfl rfl rfl rfl ?_
                          refine TL'.nil (thenS_normal ?_)
                          refine T.ret ?_
                          exact Fin.done (.cons _ _ _ _ (.tmp 6 _ rfl) .nil) (by cases h; exact ⟨rfl, rfl⟩)
                        · refine TL'.passU (.off _ _ _ _ rfl rfl rfl c_304) (dl rfl rfl) ?_
                          refine TL'.passU (.off _ _ _ _ rfl rfl rfl c_304) (dl rfl rfl) ?_
                          refine TL'.passU (.off _ _ _ _ rfl rfl rfl c_304) (dl rfl rfl) ?_
                          refine TL'.passU (.off _ _ _ _ rfl rfl rfl c_304) (dl rfl rfl) ?_
                          refine TL'.passU (.off _ _ _ _ rfl rfl rfl c_304) (dl rfl rfl) ?_
                          refine sp rfl (OpT.pickF rfl (dl rfl rfl) rfl c_304 rfl ?_)
                          refine asg rfl rfl rfl rfl rfl ?_
                          refine TL'.nil (thenS_normal ?_)
                          refine T.ret ?_
                          exact Fin.done (.cons _ _ _ _ (.tmp 6 _ rfl) .nil) (by cases h; exact ⟨rfl, rfl⟩)
                      · refine TL'.passU (.off _ _ _ _ rfl rfl rfl c_301) (dl rfl rfl) ?_
                        refine TL'.passU (.off _ _ _ _ rfl rfl rfl c_301) (dl rfl rfl) ?_
                        refine TL'.passU (.off _ _ _ _ rfl rfl rfl c_301) (dl rfl rfl) ?_
                        refine TL'.passU (.off _ _ _ _ rfl rfl rfl c_301) (dl rfl rfl) ?_
                        refine TL'.passU (.off _ _ _ _ rfl rfl rfl c_301) (dl rfl rfl) ?_
                        refine TL'.passU (.off _ _ _ _ rfl rfl rfl c_301) (dl rfl rfl) ?_
                        refine sp rfl (OpT.pickF rfl (dl rfl rfl) rfl c_301 rfl ?_)
                        refine mv rfl rfl rfl rfl rfl ?_
                        refine TL'.passU (.off _ _ _ _ rfl rfl rfl rfl) (dl rfl rfl) ?_
                        refine TL'.passU (.off _ _ _ _ rfl rfl rfl rfl) (dl rfl rfl) ?_
                        refine TL'.passU (.off _ _ _ _ rfl rfl rfl rfl) (dl rfl rfl) ?_
                        refine TL'.passU (.off _ _ _ _ rfl rfl rfl rfl) (dl rfl rfl) ?_
                        refine TL'.passU (.off _ _ _ _ rfl rfl rfl rfl) (dl rfl rfl) ?_
                        refine sp rfl (OpT.pickF rfl (dl rfl rfl) rfl rfl rfl ?_)
                        refine asg rfl rfl rfl rfl rfl ?_
                        refine TL'.nil (thenS_normal ?_)
                        refine T.ret ?_
                        exact Fin.done (.cons _ _ _ _ (.tmp 6 _ rfl) .nil) (by cases h; exact ⟨rfl, rfl⟩)
                    · refine TL'.passU (.off _ _ _ _ rfl rfl rfl c_300) (dl rfl rfl) ?_
                      refine TL'.passU (.off _ _ _ _ rfl rfl rfl c_300) (dl rfl rfl) ?_
                      refine TL'.passU (.off _ _ _ _ rfl rfl rfl c_300) (dl rfl rfl) ?_
                      refine sp rfl (OpT.pickF rfl (dl rfl rfl) rfl c_300 rfl ?_)
                      refine mv rfl rfl rfl rfl rfl ?_
                      refine TL'.passU (.off _ _ _ _ rfl rfl rfl rfl) (dl rfl rfl) ?_
                      refine TL'.passU (.off _ _ _ _ rfl rfl rfl rfl) (dl rfl rfl) ?_
                      refine TL'.passU (.off _ _ _ _ rfl rfl rfl rfl) (dl rfl rfl) ?_
                      refine TL'.passU (.off _ _ _ _ rfl rfl rfl rfl) (dl rfl rfl) ?_
                      refine TL'.passU (.off _ _ _ _ rfl rfl rfl rfl) (dl rfl rfl) ?_
                      refine TL'.passU (.off _ _ _ _ rfl rfl rfl rfl) (dl rfl rfl) ?_
                      refine sp rfl (OpT.pickF rfl (dl rfl rfl) rfl rfl rfl ?_)
                      refine mv rfl rfl rfl rfl rfl ?_
                      refine TL'.passU (.off _ _ _ _ rfl rfl rfl rfl) (dl rfl rfl) ?_
                      refine TL'.passU (.off _ _ _ _ rfl rfl rfl rfl) (dl rfl rfl) ?_
                      refine TL'.passU (.off _ _ _ _ rfl rfl rfl rfl) (dl rfl rfl) ?_
                      refine TL'.passU (.off _ _ _ _ rfl rfl rfl rfl) (dl rfl rfl) ?_
                      refine TL'.passU (.off _ _ _ _ rfl rfl rfl rfl) (dl rfl rfl) ?_
                      refine sp rfl (OpT.pickF rfl (dl rfl rfl) rfl rfl rfl ?_)
                      refine asg rfl rfl rfl rfl rfl ?_
                      refine TL'.nil (thenS_normal ?_)
                      refine T.ret ?_
                      exact Fin.done (.cons _ _ _ _ (.tmp 6 _ rfl) .nil) (by cases h; exact ⟨rfl, rfl⟩)
                  · refine TL'.passU (.off _ _ _ _ rfl rfl rfl c_299) (dl rfl rfl) ?_
                    refine TL'.passU (.off _ _ _ _ rfl rfl rfl c_299) (dl rfl rfl) ?_
                    refine sp rfl (OpT.pickF rfl (dl rfl rfl) rfl c_299 rfl ?_)
                    refine mv rfl rfl rfl rfl rfl ?_
                    refine TL'.passU (.off _ _ _ _ rfl rfl rfl rfl) (dl rfl rfl) ?_
                    refine TL'.passU (.off _ _ _ _ rfl rfl rfl rfl) (dl rfl rfl) ?_
                    refine TL'.passU (.off _ _ _ _ rfl rfl rfl rfl) (dl rfl rfl) ?_
                    refine sp rfl (OpT.pickF rfl (dl rfl rfl) rfl rfl rfl ?_)
                    refine mv rfl rfl rfl rfl rfl ?_
                    refine TL'.passU (.off _ _ _ _ rfl rfl rfl rfl) (dl rfl rfl) ?_
                    refine TL'.passU (.off _ _ _ _ rfl rfl rfl rfl) (dl rfl rfl) ?_
                    refine TL'.passU (.off _ _ _ _ rfl rfl rfl rfl) (dl rfl rfl) ?_
                    refine TL'.passU (.off _ _ _ _ rfl rfl rfl rfl) (dl rfl rfl) ?_
                    refine TL'.passU (.off _ _ _ _ rfl rfl rfl rfl) (dl rfl rfl) ?_
                    refine TL'.passU (.off _ _ _ _ rfl rfl rfl rfl) (dl rfl rfl) ?_
                    refine sp rfl (OpT.pickF rfl (dl rfl rfl) rfl rfl rfl ?_)
                    refine mv rfl rfl rfl rfl rfl ?_
                    refine TL'.passU (.off _ _ _ _ rfl rfl rfl rfl) (dl rfl rfl) ?_
                    refine TL'.passU (.off _ _ _ _ rfl rfl rfl rfl) (dl rfl rfl) ?_
                    refine TL'.passU (.off _ _ _ _ rfl rfl rfl rfl) (dl rfl rfl) ?_
                    refine TL'.passU (.off _ _ _ _ rfl rfl rfl rfl) (dl rfl rfl) ?_
                    refine TL'.passU (.off _ _ _ _ rfl rfl rfl rfl) (dl rfl rfl) ?_
                    refine sp rfl (OpT.pickF rfl (dl rfl rfl) rfl rfl rfl ?_)
                    refine asg rfl rfl rfl rfl rfl ?_
                    refine TL'.nil (thenS_normal ?_)
                    refine T.ret ?_
                    exact Fin.done (.cons _ _ _ _ (.tmp 6 _ rfl) .nil) (by cases h; exact ⟨rfl, rfl⟩)
                · refine TL'.passU (.off _ _ _ _ rfl rfl rfl c_298) (dl rfl rfl) ?_
                  refine TL'.passU (.off _ _ _ _ rfl rfl rfl c_298) (dl rfl rfl) ?_
                  refine TL'.passU (.off _ _ _ _ rfl rfl rfl c_298) (dl rfl rfl) ?_
                  refine TL'.passU (.off _ _ _ _ rfl rfl rfl c_298) (dl rfl rfl) ?_
                  refine TL'.passU (.off _ _ _ _ rfl rfl rfl c_298) (dl rfl rfl) ?_
                  refine TL'.passU (.off _ _ _ _ rfl rfl rfl c_298) (dl rfl rfl) ?_
                  refine sp rfl (OpT.pickF rfl (dl rfl rfl) rfl c_298 rfl ?_)
                  refine mv rfl rfl rfl rfl rfl ?_
                  refine TL'.passU (.off _ _ _ _ rfl rfl rfl rfl) (dl rfl rfl) ?_
                  refine TL'.passU (.off _ _ _ _ rfl rfl rfl rfl) (dl rfl rfl) ?_
                  refine sp rfl (OpT.pickF rfl (dl rfl rfl) rfl rfl rfl ?_)
                  refine mv rfl rfl rfl rfl rfl ?_
                  refine TL'.passU (.off _ _ _ _ rfl rfl rfl rfl) (dl rfl rfl) ?_
                  refine TL'.passU (.off _ _ _ _ rfl rfl rfl rfl) (dl rfl rfl) ?_
                  refine TL'.passU (.off _ _ _ _ rfl rfl rfl rfl) (dl rfl rfl) ?_
                  refine sp rfl (OpT.pickF rfl (dl rfl rfl) rfl rfl rfl ?_)
                  refine mv rfl rfl rfl rfl rfl ?_
                  refine TL'.passU (.off _ _ _ _ rfl rfl rfl rfl) (dl rfl rfl) ?_
                  refine TL'.passU (.off _ _ _ _ rfl rfl rfl rfl) (dl rfl rfl) ?_
                  refine TL'.passU (.off _ _ _ _ rfl rfl rfl rfl) (dl rfl rfl) ?_
                  refine TL'.passU (.off _ _ _ _ rfl rfl rfl rfl) (dl rfl rfl) ?_
                  refine TL'.passU (.off _ _ _ _ rfl rfl rfl rfl) (dl rfl rfl) ?_
                  refine TL'.passU (.off _ _ _ _ rfl rfl rfl rfl) (dl rfl rfl) ?_
                  refine sp rfl (OpT.pickF rfl (dl rfl rfl) rfl rfl rfl ?_)
                  refine mv rfl rfl rfl rfl rfl ?_
                  refine TL'.passU (.off _ _ _ _ rfl rfl rfl rfl) (dl rfl rfl) ?_
                  refine TL'.passU (.off _ _ _ _ rfl rfl rfl rfl) (dl rfl rfl) ?_
                  refine TL'.passU (.off _ _ _ _ rfl rfl rfl rfl) (dl rfl rfl) ?_
                  refine TL'.passU (.off _ _ _ _ rfl rfl rfl rfl) (dl rfl rfl) ?_
                  refine TL'.passU (.off _ _ _ _ rfl rfl rfl rfl) (dl rfl rfl) ?_
                  refine sp rfl (OpT.pickF rfl (dl rfl rfl) rfl rfl rfl ?_)
                  refine asg rfl rfl rfl rfl rfl ?_
                  refine TL'.nil (thenS_normal ?_)
                  refine T.ret ?_
                  exact Fin.done (.cons _ _ _ _ (.tmp 6 _ rfl) .nil) (by cases h; exact ⟨rfl, rfl⟩)
              · refine TL'.passU (.off _ _ _ _ rfl rfl rfl c_297) (dl rfl rfl) ?_
                refine TL'.passU (.off _ _ _ _ rfl rfl rfl c_297) (dl rfl rfl) ?_
                refine TL'.passU (.off _ _ _ _ rfl rfl rfl c_297) (dl rfl rfl) ?_
                refine TL'.passU (.off _ _ _ _ rfl rfl rfl c_297) (dl rfl rfl) ?_
                refine TL'.passU (.off _ _ _ _ rfl rfl rfl c_297) (dl rfl rfl) ?_
                refine TL'.passU (.off _ _ _ _ rfl rfl rfl c_297) (dl rfl rfl) ?_
                refine sp rfl (OpT.pickF rfl (dl rfl rfl) rfl c_297 rfl ?_)
                refine mv rfl rfl rfl rfl rfl ?_
                refine TL'.passU (.off _ _ _ _ rfl rfl rfl rfl) (dl rfl rfl) ?_
                refine TL'.passU (.off _ _ _ _ rfl rfl rfl rfl) (dl rfl rfl) ?_
                refine TL'.passU (.off _ _ _ _ rfl rfl rfl rfl) (dl rfl rfl) ?_
                refine TL'.passU (.off _ _ _ _ rfl rfl rfl rfl) (dl rfl rfl) ?_
                refine TL'.passU (.off _ _ _ _ rfl rfl rfl rfl) (dl rfl rfl) ?_
                refine TL'.passU (.off _ _ _ _ rfl rfl rfl rfl) (dl rfl rfl) ?_
                refine sp rfl (OpT.pickF rfl (dl rfl rfl) rfl rfl rfl ?_)
                refine mv rfl rfl rfl rfl rfl ?_
                refine TL'.passU (.off _ _ _ _ rfl rfl rfl rfl) (dl rfl rfl) ?_
                refine TL'.passU (.off _ _ _ _ rfl rfl rfl rfl) (dl rfl rfl) ?_
                refine sp rfl (OpT.pickF rfl (dl rfl rfl) rfl rfl rfl ?_)
                refine mv rfl rfl rfl rfl rfl ?_
                refine TL'.passU (.off _ _ _ _ rfl rfl rfl rfl) (dl rfl rfl) ?_
                refine TL'.passU (.off _ _ _ _ rfl rfl rfl rfl) (dl rfl rfl) ?_
                refine TL'.passU (.off _ _ _ _ rfl rfl rfl rfl) (dl rfl rfl) ?_
                refine sp rfl (OpT.pickF rfl (dl rfl rfl) rfl rfl rfl ?_)
                refine mv rfl rfl rfl rfl rfl ?_
                refine TL'.passU (.off _ _ _ _ rfl rfl rfl rfl) (dl rfl rfl) ?_
                refine TL'.passU (.off _ _ _ _ rfl rfl rfl rfl) (dl rfl rfl) ?_
                refine TL'.passU (.off _ _ _ _ rfl rfl rfl rfl) (dl rfl rfl) ?_
                refine TL'.passU (.off _ _ _ _ rfl rfl rfl rfl) (dl rfl rfl) ?_
                refine TL'.passU (.off _ _ _ _ rfl rfl rfl rfl) (dl rfl rfl) ?_
                refine TL'.passU (.off _ _ _ _ rfl rfl rfl rfl) (dl rfl rfl) ?_
                refine sp rfl (OpT.pickF rfl (dl rfl rfl) rfl rfl rfl ?_)
                refine mv rfl rfl rfl rfl rfl ?_
                refine TL'.passU (.off _ _ _ _ rfl rfl rfl rfl) (dl rfl rfl) ?_
                refine TL'.passU (.off _ _ _ _ rfl rfl rfl rfl) (dl rfl rfl) ?_
                refine TL'.passU (.off _ _ _ _ rfl rfl rfl rfl) (dl rfl rfl) ?_
                refine TL'.passU (.off _ _ _ _ rfl rfl rfl rfl) (dl rfl rfl) ?_
                refine TL'.passU (.off _ _ _ _ rfl rfl rfl rfl) (dl rfl rfl) ?_
                refine sp rfl (OpT.pickF rfl (dl rfl rfl) rfl rfl rfl ?_)
                refine asg rfl rfl rfl rfl rfl ?_
                refine TL'.nil (thenS_normal ?_)
                refine T.ret ?_
                exact Fin.done (.cons _ _ _ _ (.tmp 6 _ rfl) .nil) (by cases h; exact ⟨rfl, rfl⟩)
            · refine TL'.passU (.off _ _ _ _ rfl rfl rfl c_294) (dl rfl rfl) ?_
              refine TL'.passU (.off _ _ _ _ rfl rfl rfl c_294) (dl rfl rfl) ?_
              refine TL'.passU (.off _ _ _ _ rfl rfl rfl c_294) (dl rfl rfl) ?_
              refine TL'.passU (.off _ _ _ _ rfl rfl rfl c_294) (dl rfl rfl) ?_
              refine TL'.passU (.off _ _ _ _ rfl rfl rfl c_294) (dl rfl rfl) ?_
              refine sp rfl (OpT.pickF rfl (dl rfl rfl) rfl c_294 rfl ?_)
              refine mv rfl rfl rfl rfl rfl ?_
              refine TL'.passU (.off _ _ _ _ rfl rfl rfl rfl) (dl rfl rfl) ?_
              refine TL'.passU (.off _ _ _ _ rfl rfl rfl rfl) (dl rfl rfl) ?_
              refine TL'.passU (.off _ _ _ _ rfl rfl rfl rfl) (dl rfl rfl) ?_
              refine TL'.passU (.off _ _ _ _ rfl rfl rfl rfl) (dl rfl rfl) ?_
              refine TL'.passU (.off _ _ _ _ rfl rfl rfl rfl) (dl rfl rfl) ?_
              refine TL'.passU (.off _ _ _ _ rfl rfl rfl rfl) (dl rfl rfl) ?_
              refine sp rfl (OpT.pickF rfl (dl rfl rfl) rfl rfl rfl ?_)
              refine mv rfl rfl rfl rfl rfl ?_
              refine TL'.passU (.off _ _ _ _ rfl rfl rfl rfl) (dl rfl rfl) ?_
              refine TL'.passU (.off _ _ _ _ rfl rfl rfl rfl) (dl rfl rfl) ?_
              refine TL'.passU (.off _ _ _ _ rfl rfl rfl rfl) (dl rfl rfl) ?_
              refine TL'.passU (.off _ _ _ _ rfl rfl rfl rfl) (dl rfl rfl) ?_
              refine TL'.passU (.off _ _ _ _ rfl rfl rfl rfl) (dl rfl rfl) ?_
              refine TL'.passU (.off _ _ _ _ rfl rfl rfl rfl) (dl rfl rfl) ?_
              refine sp rfl (OpT.pickF rfl (dl rfl rfl) rfl rfl rfl ?_)
              refine mv rfl rfl rfl rfl rfl ?_
              refine TL'.passU (.off _ _ _ _ rfl rfl rfl rfl) (dl rfl rfl) ?_
              refine TL'.passU (.off _ _ _ _ rfl rfl rfl rfl) (dl rfl rfl) ?_
              refine sp rfl (OpT.pickF rfl (dl rfl rfl) rfl rfl rfl ?_)
              refine mv rfl rfl rfl rfl rfl ?_
              refine TL'.passU (.off _ _ _ _ rfl rfl rfl rfl) (dl rfl rfl) ?_
              refine TL'.passU (.off _ _ _ _ rfl rfl rfl rfl) (dl rfl rfl) ?_
              refine TL'.passU (.off _ _ _ _ rfl rfl rfl rfl) (dl rfl rfl) ?_
              refine sp rfl (OpT.pickF rfl (dl rfl rfl) rfl rfl rfl ?_)
              refine mv rfl rfl rfl rfl rfl ?_
              refine TL'.passU (.off _ _ _ _ rfl rfl rfl rfl) (dl rfl rfl) ?_
              refine TL'.passU (.off _ _ _ _ rfl rfl rfl rfl) (dl rfl rfl) ?_
              refine TL'.passU (.off _ _ _ _ rfl rfl rfl rfl) (dl rfl rfl) ?_
              refine TL'.passU (.off _ _ _ _ rfl rfl rfl rfl) (dl rfl rfl) ?_
              refine TL'.passU (.off _ _ _ _ rfl rfl rfl rfl) (dl rfl rfl) ?_
              refine TL'.passU (.off _ _ _ _ rfl rfl rfl rfl) (dl rfl rfl) ?_
              refine sp rfl (OpT.pickF rfl (dl rfl rfl) rfl rfl rfl ?_)
              refine mv rfl rfl rfl rfl rfl ?_
              refine TL'.passU (.off _ _ _ _ rfl rfl rfl rfl) (dl rfl rfl) ?_
              refine TL'.passU (.off _ _ _ _ rfl rfl rfl rfl) (dl rfl rfl) ?_
              refine TL'.passU (.off _ _ _ _ rfl rfl rfl rfl) (dl rfl rfl) ?_
              refine TL'.passU (.off _ _ _ _ rfl rfl rfl rfl) (dl rfl rfl) ?_
              refine TL'.passU (.off _ _ _ _ rfl rfl rfl rfl) (dl rfl rfl) ?_
              refine sp rfl (OpT.pickF rfl (dl rfl rfl) rfl rfl rfl ?_)
              refine asg rfl rfl rfl rfl rfl ?_
              refine TL'.nil (thenS_normal ?_)
              refine T.ret ?_
              exact Fin.done (.cons _ _ _ _ (.tmp 6 _ rfl) .nil) (by cases h; exact ⟨rfl, rfl⟩)
          · refine TL'.passU (.off _ _ _ _ rfl rfl rfl c_293) (dl rfl rfl) ?_
            refine TL'.passU (.off _ _ _ _ rfl rfl rfl c_293) (dl rfl rfl) ?_
            refine TL'.passU (.off _ _ _ _ rfl rfl rfl c_293) (dl rfl rfl) ?_
            refine sp rfl (OpT.pickF rfl (dl rfl rfl) rfl c_293 rfl ?_)
            refine mv rfl rfl rfl rfl rfl ?_
            refine TL'.passU (.off _ _ _ _ rfl rfl rfl rfl) (dl rfl rfl) ?_
            refine TL'.passU (.off _ _ _ _ rfl rfl rfl rfl) (dl rfl rfl) ?_
            refine TL'.passU (.off _ _ _ _ rfl rfl rfl rfl) (dl rfl rfl) ?_
            refine TL'.passU (.off _ _ _ _ rfl rfl rfl rfl) (dl rfl rfl) ?_
            refine TL'.passU (.off _ _ _ _ rfl rfl rfl rfl) (dl rfl rfl) ?_
            refine sp rfl (OpT.pickF rfl (dl rfl rfl) rfl rfl rfl ?_)
            refine mv rfl rfl rfl rfl rfl ?_
            refine TL'.passU (.off _ _ _ _ rfl rfl rfl rfl) (dl rfl rfl) ?_
            refine TL'.passU (.off _ _ _ _ rfl rfl rfl rfl) (dl rfl rfl) ?_
            refine TL'.passU (.off _ _ _ _ rfl rfl rfl rfl) (dl rfl rfl) ?_
            refine TL'.passU (.off _ _ _ _ rfl rfl rfl rfl) (dl rfl rfl) ?_
            refine TL'.passU (.off _ _ _ _ rfl rfl rfl rfl) (dl rfl rfl) ?_
            refine TL'.passU (.off _ _ _ _ rfl rfl rfl rfl) (dl rfl rfl) ?_
            refine sp rfl (OpT.pickF rfl (dl rfl rfl) rfl rfl rfl ?_)
            refine mv rfl rfl rfl rfl rfl ?_
            refine TL'.passU (.off _ _ _ _ rfl rfl rfl rfl) (dl rfl rfl) ?_
            refine TL'.passU (.off _ _ _ _ rfl rfl rfl rfl) (dl rfl rfl) ?_
            refine TL'.passU (.off _ _ _ _ rfl rfl rfl rfl) (dl rfl rfl) ?_
            refine TL'.passU (.off _ _ _ _ rfl rfl rfl rfl) (dl rfl rfl) ?_
            refine TL'.passU (.off _ _ _ _ rfl rfl rfl rfl) (dl rfl rfl) ?_
            refine TL'.passU (.off _ _ _ _ rfl rfl rfl rfl) (dl rfl rfl) ?_
            refine sp rfl (OpT.pickF rfl (dl rfl rfl) rfl rfl rfl ?_)
            refine mv rfl rfl rfl rfl rfl ?_
            refine TL'.passU (.off _ _ _ _ rfl rfl rfl rfl) (dl rfl rfl) ?_
            refine TL'.passU (.off _ _ _ _ rfl rfl rfl rfl) (dl rfl rfl) ?_
            refine sp rfl (OpT.pickF rfl (dl rfl rfl) rfl rfl rfl ?_)
            refine mv rfl rfl rfl rfl rfl ?_
            refine TL'.passU (.off _ _ _ _ rfl rfl rfl rfl) (dl rfl rfl) ?_
            refine TL'.passU (.off _ _ _ _ rfl rfl rfl rfl) (dl rfl rfl) ?_
            refine TL'.passU (.off _ _ _ _ rfl rfl rfl rfl) (dl rfl rfl) ?_
            refine sp rfl (OpT.pickF rfl (dl rfl rfl) rfl rfl rfl ?_)
            refine mv rfl rfl rfl rfl rfl ?_
            refine TL'.passU (.off _ _ _ _ rfl rfl rfl rfl) (dl rfl rfl) ?_
            refine TL'.passU (.off _ _ _ _ rfl rfl rfl rfl) (dl rfl rfl) ?_
            refine TL'.passU (.off _ _ _ _ rfl rfl rfl rfl) (dl rfl rfl) ?_
            refine TL'.passU (.off _ _ _ _ rfl rfl rfl rfl) (dl rfl rfl) ?_
            refine TL'.passU (.off _ _ _ _ rfl rfl rfl rfl) (dl rfl rfl) ?_
            refine TL'.passU (.off _ _ _ _ rfl rfl rfl rfl) (dl rfl rfl) ?_
            refine sp rfl (OpT.pickF rfl (dl rfl rfl) rfl rfl rfl ?_)
            refine mv rfl rfl rfl rfl rfl ?_
            refine TL'.passU (.off _ _ _ _ rfl rfl rfl rfl) (dl rfl rfl) ?_
            refine TL'.passU (.off _ _ _ _ rfl rfl rfl rfl) (dl rfl rfl) ?_
            refine TL'.passU (.off _ _ _ _ rfl rfl rfl rfl) (dl rfl rfl) ?_
            refine TL'.passU (.off _ _ _ _ rfl rfl rfl rfl) (dl rfl rfl) ?_
            refine TL'.passU (.off _ _ _ _ rfl rfl rfl rfl) (dl rfl rfl) ?_
            refine sp rfl (OpT.pickF rfl (dl rfl rfl) rfl rfl rfl ?_)
            refine asg rfl rfl rfl rfl rfl ?_
            refine TL'.nil (thenS_normal ?_)
            refine T.ret ?_
            exact Fin.done (.cons _ _ _ _ (.tmp 6 _ rfl) .nil) (by cases h; exact ⟨rfl, rfl⟩)
        · refine TL'.passU (.off _ _ _ _ rfl rfl rfl c_292) (dl rfl rfl) ?_
          refine TL'.passU (.off _ _ _ _ rfl rfl rfl c_292) (dl rfl rfl) ?_
          refine sp rfl (OpT.pickF rfl (dl rfl rfl) rfl c_292 rfl ?_)
          refine mv rfl rfl rfl rfl rfl ?_
          refine TL'.passU (.off _ _ _ _ rfl rfl rfl rfl) (dl rfl rfl) ?_
          refine TL'.passU (.off _ _ _ _ rfl rfl rfl rfl) (dl rfl rfl) ?_
          refine TL'.passU (.off _ _ _ _ rfl rfl rfl rfl) (dl rfl rfl) ?_
          refine sp rfl (OpT.pickF rfl (dl rfl rfl) rfl rfl rfl ?_)
          refine mv rfl rfl rfl rfl rfl ?_
          refine TL'.passU (.off _ _ _ _ rfl rfl rfl rfl) (dl rfl rfl) ?_
          refine TL'.passU (.off _ _ _ _ rfl rfl rfl rfl) (dl rfl rfl) ?_
          refine TL'.passU (.off _ _ _ _ rfl rfl rfl rfl) (dl rfl rfl) ?_
          refine TL'.passU (.off _ _ _ _ rfl rfl rfl rfl) (dl rfl rfl) ?_
          refine TL'.passU (.off _ _ _ _ rfl rfl rfl rfl) (dl rfl rfl) ?_
          refine sp rfl (OpT.pickF rfl (dl rfl rfl) rfl rfl rfl ?_)
          refine mv rfl rfl rfl rfl rfl ?_
          refine TL'.passU (.off _ _ _ _ rfl rfl rfl rfl) (dl rfl rfl) ?_
          refine TL'.passU (.off _ _ _ _ rfl rfl rfl rfl) (dl rfl rfl) ?_
          refine TL'.passU (.off _ _ _ _ rfl rfl rfl rfl) (dl rfl rfl) ?_
          refine TL'.passU (.off _ _ _ _ rfl rfl rfl rfl) (dl rfl rfl) ?_
          refine TL'.passU (.off _ _ _ _ rfl rfl rfl rfl) (dl rfl rfl) ?_
          refine TL'.passU (.off _ _ _ _ rfl rfl rfl rfl) (dl rfl rfl) ?_
          refine sp rfl (OpT.pickF rfl (dl rfl rfl) rfl rfl rfl ?_)
          refine mv rfl rfl rfl rfl rfl ?_
          refine TL'.passU (.off _ _ _ _ rfl rfl rfl rfl) (dl rfl rfl) ?_
          refine TL'.passU (.off _ _ _ _ rfl rfl rfl rfl) (dl rfl rfl) ?_
          refine TL'.passU (.off _ _ _ _ rfl rfl rfl rfl) (dl rfl rfl) ?_
          refine TL'.passU (.off _ _ _ _ rfl rfl rfl rfl) (dl rfl rfl) ?_
          refine TL'.passU (.off _ _ _ _ rfl rfl rfl rfl) (dl rfl rfl) ?_
          refine TL'.passU (.off _ _ _ _ rfl rfl rfl rfl) (dl rfl rfl) ?_
          refine sp rfl (OpT.pickF rfl (dl rfl rfl) rfl rfl rfl ?_)
          refine mv rfl rfl rfl rfl rfl ?_
          refine TL'.passU (.off _ _ _ _ rfl rfl rfl rfl) (dl rfl rfl) ?_
          refine TL'.passU (.off _ _ _ _ rfl rfl rfl rfl) (dl rfl rfl) ?_
          refine sp rfl (OpT.pickF rfl (dl rfl rfl) rfl rfl rfl ?_)
          refine mv rfl rfl rfl rfl rfl ?_
          refine TL'.passU (.off _ _ _ _ rfl rfl rfl rfl) (dl rfl rfl) ?_
          refine TL'.passU (.off _ _ _ _ rfl rfl rfl rfl) (dl rfl rfl) ?_
          refine TL'.passU (.off _ _ _ _ rfl rfl rfl rfl) (dl rfl rfl) ?_
          refine sp rfl (OpT.pickF rfl (dl rfl rfl) rfl rfl rfl ?_)
          refine mv rfl rfl rfl rfl rfl ?_
          refine TL'.passU (.off _ _ _ _ rfl rfl rfl rfl) (dl rfl rfl) ?_
          refine TL'.passU (.off _ _ _ _ rfl rfl rfl rfl) (dl rfl rfl) ?_
          refine TL'.passU (.off _ _ _ _ rfl rfl rfl rfl) (dl rfl rfl) ?_
          refine TL'.passU (.off _ _ _ _ rfl rfl rfl rfl) (dl rfl rfl) ?_
          refine TL'.passU (.off _ _ _ _ rfl rfl rfl rfl) (dl rfl rfl) ?_
          refine TL'.passU (.off _ _ _ _ rfl rfl rfl rfl) (dl rfl rfl) ?_
          refine sp rfl (OpT.pickF rfl (dl rfl rfl) rfl rfl rfl ?_)
          refine mv rfl rfl rfl rfl rfl ?_
          refine TL'.passU (.off _ _ _ _ rfl rfl rfl rfl) (dl rfl rfl) ?_
          refine TL'.passU (.off _ _ _ _ rfl rfl rfl rfl) (dl rfl rfl) ?_
          refine TL'.passU (.off _ _ _ _ rfl rfl rfl rfl) (dl rfl rfl) ?_
          refine TL'.passU (.off _ _ _ _ rfl rfl rfl rfl) (dl rfl rfl) ?_
          refine TL'.passU (.off _ _ _ _ rfl rfl rfl rfl) (dl rfl rfl) ?_
          refine sp rfl (OpT.pickF rfl (dl rfl rfl) rfl rfl rfl ?_)
          refine asg rfl rfl rfl rfl rfl ?_
          refine TL'.nil (thenS_normal ?_)
          refine T.ret ?_
          exact Fin.done (.cons _ _ _ _ (.tmp 6 _ rfl) .nil) (by cases h; exact ⟨rfl, rfl⟩)

theorem raddlelaw04_SyntaxBounds_T (K : Nat) {x0 : Int} {x1 : Int} {x2 : Bool} {r : Bool} (h : raddlelaw04_SyntaxBounds K x0 x1 x2 = some r) : CallR Try.prog 4 [.int .u16 x0, .int .u16 x1, .bool x2] [] (.bool r) := by
  refine CallT.intro Try.func4 rfl (Nat.le_of_ble_eq_true rfl) ?_
  show T Try.prog 135 (Code.at [] (codeOf Try.f4)) ⟨paramSlots 0 [.int .u16 x0, .int .u16 x1, .bool x2], []⟩ (raddlelaw04_SyntaxBounds_q r)
  unfold raddlelaw04_SyntaxBounds at h
  refine T.seq ?_
  refine T.regionL ?_
  refine asg rfl rfl rfl rfl rfl ?_
  refine TL'.nil (thenS_normal ?_)
  refine T.seq ?_
  refine T.regionL ?_
  obtain ⟨v_267, e_268, h⟩ := bind_some h
  refine sp rfl (OpT.callPA rfl (dl rfl rfl) Try.func9 rfl rfl Args.nil (CallR.nil (raddlelaw04_shown_T K e_268)) ?_)
  refine asg rfl rfl rfl rfl rfl ?_
  refine TL'.nil (thenS_normal ?_)
  refine T.seq ?_
  refine T.regionL ?_
  refine mv rfl rfl rfl rfl rfl ?_
  refine sp rfl (OpT.rem rfl (dl rfl rfl) rfl rfl (by decide) ?_)
  refine sp rfl (OpT.convInt rfl (dl rfl rfl) Try.underlying29 Try.underlying3 rfl ?_)
  refine mv rfl rfl rfl rfl rfl ?_
  refine sp rfl (OpT.rem rfl (dl rfl rfl) rfl rfl (by decide) ?_)
  refine sp rfl (OpT.convInt rfl (dl rfl rfl) Try.underlying29 Try.underlying3 rfl ?_)
  refine asg rfl rfl rfl rfl rfl ?_
  refine asg rfl rfl rfl rfl rfl ?_
  refine TL'.nil (thenS_normal ?_)
  refine T.seq ?_
  refine T.regionL ?_
  refine mv rfl rfl rfl rfl rfl ?_
  obtain ⟨v_269, e_270, h⟩ := bind_some h
  refine sp rfl (OpT.callPA rfl (dl rfl rfl) Try.func12 rfl rfl (Args.cons rfl Args.nil) (CallR.nil (raddlelaw04_digits_T K e_270)) ?_)
  obtain ⟨g_271, h⟩ := ck_some h
  refine sp rfl (OpT.str_add rfl (dl rfl rfl) rfl rfl g_271 ?_)
  refine mv rfl rfl rfl rfl rfl ?_
  refine asg rfl rfl rfl rfl rfl ?_
  refine asg rfl rfl rfl rfl rfl ?_
  refine TL'.nil (thenS_normal ?_)
  refine T.seq ?_
  refine T.seq ?_
  refine T.regionL ?_
  refine mv rfl rfl rfl rfl rfl ?_
  refine TL'.nil (thenS_normal ?_)
  rcases bif_some h with ⟨c_272, h⟩ | ⟨c_272, h⟩
  · refine T.condT rfl c_272 ?_
    refine T.regionL ?_
    refine mv rfl rfl rfl rfl rfl ?_
    obtain ⟨g_273, h⟩ := ck_some h
    refine sp rfl (OpT.str_add rfl (dl rfl rfl) rfl rfl g_273 ?_)
    refine mv rfl rfl rfl rfl rfl ?_
    obtain ⟨v_274, e_275, h⟩ := bind_some h
    refine sp rfl (OpT.callPA rfl (dl rfl rfl) Try.func12 rfl rfl (Args.cons rfl Args.nil) (CallR.nil (raddlelaw04_digits_T K e_275)) ?_)
    obtain ⟨g_276, h⟩ := ck_some h
    refine sp rfl (OpT.str_add rfl (dl rfl rfl) rfl rfl g_276 ?_)
    refine mv rfl rfl rfl rfl rfl ?_
    refine asg rfl rfl rfl rfl rfl ?_
    refine asg rfl rfl rfl rfl rfl ?_
    refine TL'.nil (thenS_normal ?_)
    refine T.by_turn ?_ (raddlelaw04_SyntaxBounds_j0_T K v_267 (IntKind.i64.wrap (Int.tmod x0 (5001 : Int))) ((((⟨#[120, 123]⟩ : ByteArray) ++ v_269) ++ (⟨#[44]⟩ : ByteArray)) ++ v_274) (IntKind.i64.wrap (Int.tmod x1 (5001 : Int))) h)
    exact Turn.rp (.cons rfl (.cons rfl (.cons rfl (.cons rfl (.nil _))))) (.n _)
  · refine T.condF rfl c_272 ?_
    refine T.skip (thenS_normal ?_)
    refine T.by_turn ?_ (raddlelaw04_SyntaxBounds_j0_T K v_267 (IntKind.i64.wrap (Int.tmod x0 (5001 : Int))) ((⟨#[120, 123]⟩ : ByteArray) ++ v_269) (IntKind.i64.wrap (Int.tmod x0 (5001 : Int))) h)
    exact Turn.rp (.cons rfl (.cons rfl (.cons rfl (.cons rfl (.nil _))))) (.n _)

end Go.Rv

/- Each function computes what its plain text says: printed by a program of ours. -/
import Derived.Test.YtbepeoipaiahgaaRgW3
namespace Go.Rv
open Go.Proofs
set_option maxRecDepth 100000
set_option maxHeartbeats 4000000
set_option linter.unusedVariables false

abbrev raddlelaw04_SyntaxGroup_q (r : Bool) : Exit → St → Prop := retS Try.prog Try.f3 (fun y t => y = (.bool r) ∧ t = [])

abbrev raddlelaw04_SyntaxGroup_qs111111111 (r : Bool) : Exit → St → Prop := thenS (fun s' => T Try.prog 109 (Code.at [1, 1, 1, 1, 1, 1, 1, 1, 1] (codeOf Try.f3)) s' ((raddlelaw04_SyntaxGroup_q r))) ((raddlelaw04_SyntaxGroup_q r))

abbrev raddlelaw04_SyntaxGroup_qb2x111111111 (r : Bool) : Exit → St → Prop := inBlockS 2 ((raddlelaw04_SyntaxGroup_qs111111111 r))

abbrev raddlelaw04_SyntaxGroup_qs11111 (r : Bool) : Exit → St → Prop := thenS (fun s' => T Try.prog 109 (Code.at [1, 1, 1, 1, 1] (codeOf Try.f3)) s' ((raddlelaw04_SyntaxGroup_q r))) ((raddlelaw04_SyntaxGroup_q r))

abbrev raddlelaw04_SyntaxGroup_qb0x11111 (r : Bool) : Exit → St → Prop := inBlockS 0 ((raddlelaw04_SyntaxGroup_qs11111 r))

theorem raddlelaw04_SyntaxGroup_j1_T {r : Bool} (K : Nat) (x2_1_0 : Bool) (h : raddlelaw04_SyntaxGroup_j1 K x2_1_0 = some r) : T Try.prog 109 (Code.at [1, 1, 1, 1, 1, 1, 1, 1, 0, 1, 0, 1, 0, 1] (codeOf Try.f3)) ⟨[(2, .bool x2_1_0)], []⟩ (raddlelaw04_SyntaxGroup_qb2x111111111 r) := by
  unfold raddlelaw04_SyntaxGroup_j1 at h
  refine T.ret (inBlock_ret (thenS_ret ?_))
  exact Fin.done (.cons _ _ _ _ (.tmp 2 _ rfl) .nil) (by cases h; exact ⟨rfl, rfl⟩)

theorem raddlelaw04_SyntaxGroup_j2_T {r : Bool} (K : Nat) (x2_2_0 : Bool) (h : raddlelaw04_SyntaxGroup_j2 K x2_2_0 = some r) : T Try.prog 109 (Code.at [1, 1, 1, 1, 1, 1, 1, 1, 0, 1, 0, 1, 1, 1, 0, 1] (codeOf Try.f3)) ⟨[(2, .bool x2_2_0)], []⟩ (raddlelaw04_SyntaxGroup_qb2x111111111 r) := by
  unfold raddlelaw04_SyntaxGroup_j2 at h
  refine T.ret (inBlock_ret (thenS_ret ?_))
  exact Fin.done (.cons _ _ _ _ (.tmp 2 _ rfl) .nil) (by cases h; exact ⟨rfl, rfl⟩)

theorem raddlelaw04_SyntaxGroup_j3_T {r : Bool} (K : Nat) (x2_3_0 : Bool) (h : raddlelaw04_SyntaxGroup_j3 K x2_3_0 = some r) : T Try.prog 109 (Code.at [1, 1, 1, 1, 1, 1, 1, 1, 0, 1, 0, 1, 1, 1, 1, 1, 0, 1] (codeOf Try.f3)) ⟨[(2, .bool x2_3_0)], []⟩ (raddlelaw04_SyntaxGroup_qb2x111111111 r) := by
  unfold raddlelaw04_SyntaxGroup_j3 at h
  refine T.ret (inBlock_ret (thenS_ret ?_))
  exact Fin.done (.cons _ _ _ _ (.tmp 2 _ rfl) .nil) (by cases h; exact ⟨rfl, rfl⟩)

theorem raddlelaw04_SyntaxGroup_l0_T {r : Bool} (K : Nat) : ∀ (k : Nat), ∀ (x3_0_0 : Bool) (x4_0_1 : ByteArray) (x5_0_2 : Int) (x20_0_3 : Int) (x21_0_4 : Int), raddlelaw04_SyntaxGroup_l0 K k x3_0_0 x4_0_1 x5_0_2 x20_0_3 x21_0_4 = some r → TL Try.prog 109 (Code.at [1, 1, 1, 1, 0, 1, 0, 0] (codeOf Try.f3)) ⟨[(3, .bool x3_0_0), (4, .str x4_0_1), (5, .int .i64 x5_0_2), (20, .int .i64 x20_0_3), (21, .int .i64 x21_0_4)], []⟩ (raddlelaw04_SyntaxGroup_qb0x11111 r) := by
  intro k
  induction k with
  | zero =>
    intro x3_0_0 x4_0_1 x5_0_2 x20_0_3 x21_0_4 h
    cases (show (none : Option Bool) = some r from h)
  | succ k ih =>
    intro x3_0_0 x4_0_1 x5_0_2 x20_0_3 x21_0_4 h
    rw [raddlelaw04_SyntaxGroup_l0] at h
    refine TL.round ?_
    refine T.seq ?_
    refine T.regionL ?_
    refine sp rfl (OpT.int2 rfl rfl (dl rfl rfl) rfl rfl ?_)
    refine TL'.nil (thenS_normal ?_)
    refine T.seq ?_
    rcases bif_some h with ⟨c_288, h⟩ | ⟨c_288, h⟩
    · refine T.condT rfl c_288 ?_
      refine T.skip (thenS_normal ?_)
      refine T.seq ?_
      refine T.block ?_
      refine T.seq ?_
      refine T.regionL ?_
      refine mv rfl rfl rfl rfl rfl ?_
      refine asg rfl rfl rfl rfl rfl ?_
      refine TL'.nil (thenS_normal ?_)
      refine T.seq ?_
      refine T.regionL ?_
      refine mv rfl rfl rfl rfl rfl ?_
      refine mv rfl rfl rfl rfl rfl ?_
      obtain ⟨g_289, h⟩ := ck_some h
      refine sp rfl (OpT.indexStr rfl (dl rfl rfl) Try.underlying9 rfl rfl g_289.1 g_289.2 ?_)
      refine sp rfl (OpT.int2 rfl rfl (dl rfl rfl) rfl rfl ?_)
      refine TL'.nil (thenS_normal ?_)
      rcases bif_some h with ⟨c_290, h⟩ | ⟨c_290, h⟩
      · refine T.condT rfl c_290 ?_
        refine T.regionL ?_
        refine mv rfl rfl rfl rfl rfl ?_
        refine sp rfl (OpT.int2 rfl rfl (dl rfl rfl) rfl rfl ?_)
        refine asg rfl rfl rfl rfl rfl ?_
        refine TL'.nil (inBlock_normal (thenS_normal ?_))
        refine T.regionL ?_
        refine sp rfl (OpT.int2 rfl rfl (dl rfl rfl) rfl rfl ?_)
        refine mv rfl rfl rfl rfl rfl ?_
        refine TL'.nil (thenS_normal ?_)
        refine TL.by_turn ?_ (ih x3_0_0 x4_0_1 (IntKind.i64.wrap (x5_0_2 + (1 : Int))) x20_0_3 (IntKind.i64.wrap (x21_0_4 + (1 : Int))) h)
        exact Turn.rp (.cons rfl (.cons rfl (.cons rfl (.cons rfl (.cons rfl (.nil _)))))) (.n _)
      · refine T.condF rfl c_290 ?_
        refine T.skip (inBlock_normal (thenS_normal ?_))
        refine T.regionL ?_
        refine sp rfl (OpT.int2 rfl rfl (dl rfl rfl) rfl rfl ?_)
        refine mv rfl rfl rfl rfl rfl ?_
        refine TL'.nil (thenS_normal ?_)
        refine TL.by_turn ?_ (ih x3_0_0 x4_0_1 x5_0_2 x20_0_3 (IntKind.i64.wrap (x21_0_4 + (1 : Int))) h)
        exact Turn.rp (.cons rfl (.cons rfl (.cons rfl (.cons rfl (.cons rfl (.nil _)))))) (.n _)
    · refine T.condF rfl c_288 ?_
      refine T.exit (thenS_exit (thenS_exit (inBlock_exit (thenS_normal ?_))))
      refine T.seq ?_
      refine T.seq ?_
      refine T.regionL ?_
      refine mv rfl rfl rfl rfl rfl ?_
      refine sp rfl (OpT.int2 rfl rfl (dl rfl rfl) rfl rfl ?_)
      refine TL'.nil (thenS_normal ?_)
      rcases bif_some h with ⟨c_291, h⟩ | ⟨c_291, h⟩
      · refine T.condT rfl c_291 ?_
        refine T.seq ?_
        refine T.regionL ?_
        refine mv rfl rfl rfl rfl rfl ?_
        refine asg rfl rfl rfl rfl rfl ?_
        refine TL'.nil (thenS_normal ?_)
        refine T.ret (thenS_ret ?_)
        exact Fin.done (.cons _ _ _ _ (.tmp 2 _ rfl) .nil) (by cases h; exact ⟨rfl, rfl⟩)
      · refine T.condF rfl c_291 ?_
        refine T.skip (thenS_normal ?_)
        refine T.seq ?_
        refine T.regionL ?_
        refine mv rfl rfl rfl rfl rfl ?_
        obtain ⟨v_292, e_293, h⟩ := bind_some h
        refine sp rfl (OpT.callPA rfl (dl rfl rfl) Try.func10 rfl rfl (Args.cons rfl Args.nil) (CallR.nil (syntax_Parse_T K e_293)) ?_)
        refine mv rfl rfl rfl rfl rfl ?_
        refine sp rfl (OpT.extract rfl (dl rfl rfl) rfl rfl ?_)
        refine sp rfl (OpT.extract rfl (dl rfl rfl) rfl rfl ?_)
        refine sp rfl (OpT.extract rfl (dl rfl rfl) rfl rfl ?_)
        refine asg rfl rfl rfl rfl rfl ?_
        refine asg rfl rfl rfl rfl rfl ?_
        refine asg rfl rfl rfl rfl rfl ?_
        refine TL'.nil (thenS_normal ?_)
        refine T.seq ?_
        refine T.regionL ?_
        refine mv rfl rfl rfl rfl rfl ?_
        obtain ⟨g_294, h⟩ := ck_some h
        refine sp rfl (OpT.str_add rfl (dl rfl rfl) rfl rfl g_294 ?_)
        obtain ⟨g_295, h⟩ := ck_some h
        refine sp rfl (OpT.str_add rfl (dl rfl rfl) rfl rfl g_295 ?_)
        obtain ⟨v_296, e_297, h⟩ := bind_some h
        refine sp rfl (OpT.callPA rfl (dl rfl rfl) Try.func10 rfl rfl (Args.cons rfl Args.nil) (CallR.nil (syntax_Parse_T K e_297)) ?_)
        refine mv rfl rfl rfl rfl rfl ?_
        refine sp rfl (OpT.extract rfl (dl rfl rfl) rfl rfl ?_)
        refine sp rfl (OpT.extract rfl (dl rfl rfl) rfl rfl ?_)
        refine sp rfl (OpT.extract rfl (dl rfl rfl) rfl rfl ?_)
        refine asg rfl rfl rfl rfl rfl ?_
        refine asg rfl rfl rfl rfl rfl ?_
        refine asg rfl rfl rfl rfl rfl ?_
        refine TL'.nil (thenS_normal ?_)
        refine T.seq ?_
        refine T.seq ?_
        refine T.regionL ?_
        refine mv rfl rfl rfl rfl rfl ?_
        refine TL'.nil (thenS_normal ?_)
        refine T.block ?_
        refine T.seq ?_
        refine T.regionL ?_
        refine sp rfl (OpT.int2 rfl rfl (dl rfl rfl) rfl rfl ?_)
        refine asg rfl rfl rfl rfl rfl ?_
        refine TL'.nil (thenS_normal ?_)
        rcases bif_some h with ⟨c_298, h⟩ | ⟨c_298, h⟩
        · refine T.condT rfl c_298 ?_
          refine T.seq ?_
          refine T.regionL ?_
          refine mv rfl rfl rfl rfl rfl ?_
          refine mv rfl rfl rfl rfl rfl ?_
          rcases bif_some h with ⟨c_299, h⟩ | ⟨c_299, h⟩
          · refine TL'.step (.on rfl rfl rfl c_299) (OpT.move rfl (dl rfl rfl) rfl ?_)
            refine TL'.step (.on rfl rfl rfl c_299) (OpT.int2 rfl rfl (dl rfl rfl) rfl rfl ?_)
            refine sp rfl (OpT.pickT rfl (dl rfl rfl) rfl c_299 rfl ?_)
            refine mv rfl rfl rfl rfl rfl ?_
            rcases bif_some h with ⟨c_300, h⟩ | ⟨c_300, h⟩
            · refine TL'.step (.on rfl rfl rfl c_300) (OpT.move rfl (dl rfl rfl) rfl ?_)
              refine TL'.step (.on rfl rfl rfl c_300) (OpT.move rfl (dl rfl rfl) rfl ?_)
              obtain ⟨v_301, e_302, h⟩ := bind_some h
              refine TL'.step (.on rfl rfl rfl c_300) (OpT.callPA rfl (dl rfl rfl) Try.func11 rfl rfl (Args.cons rfl (Args.cons rfl Args.nil)) (CallR.nil (raddleref04_Same_T K (flx0 := false) (flx1 := false) e_302)) ?_)
              refine sp rfl (OpT.pickT rfl (dl rfl rfl) rfl c_300 rfl ?_)
              refine asg rfl rfl rfl rfl rfl ?_
              refine TL'.nil (thenS_normal ?_)
              refine T.by_turn ?_ (raddlelaw04_SyntaxGroup_j1_T K v_301 h)
              exact Turn.rp (.cons rfl (.nil _)) (.n _)
            · refine TL'.passU (.off _ _ _ _ rfl rfl rfl c_300) (dl rfl rfl) ?_
              refine TL'.passU (.off _ _ _ _ rfl rfl rfl c_300) (dl rfl rfl) ?_
              refine TL'.passU (.off _ _ _ _ rfl rfl rfl c_300) (dl rfl rfl) ?_
              refine sp rfl (OpT.pickF rfl (dl rfl rfl) rfl c_300 rfl ?_)
              refine asg rfl rfl rfl rfl rfl ?_
              refine TL'.nil (thenS_normal ?_)
              refine T.by_turn ?_ (raddlelaw04_SyntaxGroup_j1_T K false h)
              exact Turn.rp (.cons rfl (.nil _)) (.n _)
          · refine TL'.passU (.off _ _ _ _ rfl rfl rfl c_299) (dl rfl rfl) ?_
            refine TL'.passU (.off _ _ _ _ rfl rfl rfl c_299) (dl rfl rfl) ?_
            refine sp rfl (OpT.pickF rfl (dl rfl rfl) rfl c_299 rfl ?_)
            refine mv rfl rfl rfl rfl rfl ?_
            refine TL'.passU (.off _ _ _ _ rfl rfl rfl rfl) (dl rfl rfl) ?_
            refine TL'.passU (.off _ _ _ _ rfl rfl rfl rfl) (dl rfl rfl) ?_
            refine TL'.passU (.off _ _ _ _ rfl rfl rfl rfl) (dl rfl rfl) ?_
            refine sp rfl (OpT.pickF rfl (dl rfl rfl) rfl rfl rfl ?_)
            refine asg rfl rfl rfl rfl rfl ?_
            refine TL'.nil (thenS_normal ?_)
            refine T.by_turn ?_ (raddlelaw04_SyntaxGroup_j1_T K false h)
            exact Turn.rp (.cons rfl (.nil _)) (.n _)
        · refine T.condF rfl c_298 ?_
          refine T.seq ?_
          refine T.regionL ?_
          refine sp rfl (OpT.int2 rfl rfl (dl rfl rfl) rfl rfl ?_)
          refine asg rfl rfl rfl rfl rfl ?_
          refine TL'.nil (thenS_normal ?_)
          rcases bif_some h with ⟨c_303, h⟩ | ⟨c_303, h⟩
          · refine T.condT rfl c_303 ?_
            refine T.seq ?_
            refine T.regionL ?_
            refine mv rfl rfl rfl rfl rfl ?_
            refine mv rfl rfl rfl rfl rfl ?_
            rcases bif_some h with ⟨c_304, h⟩ | ⟨c_304, h⟩
            · refine TL'.step (.on rfl rfl rfl c_304) (OpT.move rfl (dl rfl rfl) rfl ?_)
              refine TL'.step (.on rfl rfl rfl c_304) (OpT.int2 rfl rfl (dl rfl rfl) rfl rfl ?_)
              refine sp rfl (OpT.pickT rfl (dl rfl rfl) rfl c_304 rfl ?_)
              refine asg rfl rfl rfl rfl rfl ?_
              refine TL'.nil (thenS_normal ?_)
              refine T.by_turn ?_ (raddlelaw04_SyntaxGroup_j2_T K (v_296.2.2 != (0 : Int)) h)
              exact Turn.rp (.cons rfl (.nil _)) (.n _)
            · refine TL'.passU (.off _ _ _ _ rfl rfl rfl c_304) (dl rfl rfl) ?_
              refine TL'.passU (.off _ _ _ _ rfl rfl rfl c_304) (dl rfl rfl) ?_
              refine sp rfl (OpT.pickF rfl (dl rfl rfl) rfl c_304 rfl ?_)
              refine asg rfl rfl rfl rfl rfl ?_
              refine TL'.nil (thenS_normal ?_)
              refine T.by_turn ?_ (raddlelaw04_SyntaxGroup_j2_T K false h)
              exact Turn.rp (.cons rfl (.nil _)) (.n _)
          · refine T.condF rfl c_303 ?_
            refine T.seq ?_
            refine T.regionL ?_
            refine sp rfl (OpT.int2 rfl rfl (dl rfl rfl) rfl rfl ?_)
            refine asg rfl rfl rfl rfl rfl ?_
            refine TL'.nil (thenS_normal ?_)
            rcases bif_some h with ⟨c_305, h⟩ | ⟨c_305, h⟩
            · refine T.condT rfl c_305 ?_
              refine T.seq ?_
              refine T.regionL ?_
              refine mv rfl rfl rfl rfl rfl ?_
              refine mv rfl rfl rfl rfl rfl ?_
              rcases bif_some h with ⟨c_306, h⟩ | ⟨c_306, h⟩
              · refine TL'.step (.on rfl rfl rfl c_306) (OpT.move rfl (dl rfl rfl) rfl ?_)
                refine TL'.step (.on rfl rfl rfl c_306) (OpT.int2 rfl rfl (dl rfl rfl) rfl rfl ?_)
                refine TL'.step (.on rfl rfl rfl c_306) (OpT.move rfl (dl rfl rfl) rfl ?_)
                rcases bif_some h with ⟨c_307, h⟩ | ⟨c_307, h⟩
                · refine TL'.step (.on rfl rfl rfl c_307) (OpT.move rfl (dl rfl rfl) rfl ?_)
                  refine TL'.step (.on rfl rfl rfl c_307) (OpT.move rfl (dl rfl rfl) rfl ?_)
                  refine TL'.step (.on rfl rfl rfl c_307) (OpT.int2 rfl rfl (dl rfl rfl) rfl rfl ?_)
                  refine TL'.step (.on rfl rfl rfl c_307) (OpT.int2 rfl rfl (dl rfl rfl) rfl rfl ?_)
                  refine TL'.step (.on rfl rfl rfl c_306) (OpT.pickT rfl (dl rfl rfl) rfl c_307 rfl ?_)
                  refine TL'.step (.on rfl rfl rfl c_306) (OpT.move rfl (dl rfl rfl) rfl ?_)
                  rcases bif_some h with ⟨c_308, h⟩ | ⟨c_308, h⟩
                  · refine TL'.passU (.off _ _ _ _ rfl rfl rfl c_308) (dl rfl rfl) ?_
                    refine TL'.passU (.off _ _ _ _ rfl rfl rfl c_308) (dl rfl rfl) ?_
                    refine TL'.passU (.off _ _ _ _ rfl rfl rfl c_308) (dl rfl rfl) ?_
                    refine TL'.passU (.gone _ _ _ rfl rfl rfl) (dl rfl rfl) ?_
                    refine TL'.passU (.gone _ _ _ rfl rfl rfl) (dl rfl rfl) ?_
                    refine TL'.passU (.gone _ _ _ rfl rfl rfl) (dl rfl rfl) ?_
                    refine TL'.passU (.gone _ _ _ rfl rfl rfl) (dl rfl rfl) ?_
                    refine TL'.passU (.off _ _ _ _ rfl rfl rfl c_308) (dl rfl rfl) ?_
                    refine TL'.passU (.off _ _ _ _ rfl rfl rfl c_308) (dl rfl rfl) ?_
                    refine TL'.passU (.gone _ _ _ rfl rfl rfl) (dl rfl rfl) ?_
                    refine TL'.passU (.gone _ _ _ rfl rfl rfl) (dl rfl rfl) ?_
                    refine TL'.passU (.gone _ _ _ rfl rfl rfl) (dl rfl rfl) ?_
                    refine TL'.passU (.gone _ _ _ rfl rfl rfl) (dl rfl rfl) ?_
                    refine TL'.passU (.off _ _ _ _ rfl rfl rfl c_308) (dl rfl rfl) ?_
                    refine TL'.step (.on rfl rfl rfl c_306) (OpT.pickT rfl (dl rfl rfl) rfl c_308 rfl ?_)
                    refine sp rfl (OpT.pickT rfl (dl rfl rfl) rfl c_306 rfl ?_)
                    refine asg rfl rfl rfl rfl rfl ?_
                    refine TL'.nil (thenS_normal ?_)
                    refine T.by_turn ?_ (raddlelaw04_SyntaxGroup_j3_T K true h)
                    exact Turn.rp (.cons rfl (.nil _)) (.n _)
                  · refine TL'.step (.on rfl rfl rfl c_308) (OpT.move rfl (dl rfl rfl) rfl ?_)
                    refine TL'.step (.on rfl rfl rfl c_308) (OpT.int2 rfl rfl (dl rfl rfl) rfl rfl ?_)
                    refine TL'.step (.on rfl rfl rfl c_308) (OpT.move rfl (dl rfl rfl) rfl ?_)
                    rcases bif_some h with ⟨c_309, h⟩ | ⟨c_309, h⟩
                    · refine TL'.step (.on rfl rfl rfl c_309) (OpT.move rfl (dl rfl rfl) rfl ?_)
                      refine TL'.step (.on rfl rfl rfl c_309) (OpT.move rfl (dl rfl rfl) rfl ?_)
                      refine TL'.step (.on rfl rfl rfl c_309) (OpT.lenStr rfl (dl rfl rfl) Try.underlying9 rfl ?_)
                      refine TL'.step (.on rfl rfl rfl c_309) (OpT.int2 rfl rfl (dl rfl rfl) rfl rfl ?_)
                      refine TL'.step (.on rfl rfl rfl c_308) (OpT.pickT rfl (dl rfl rfl) rfl c_309 rfl ?_)
                      refine TL'.step (.on rfl rfl rfl c_308) (OpT.move rfl (dl rfl rfl) rfl ?_)
                      rcases bif_some h with ⟨c_310, h⟩ | ⟨c_310, h⟩
                      · refine TL'.step (.on rfl rfl rfl c_310) (OpT.move rfl (dl rfl rfl) rfl ?_)
                        refine TL'.step (.on rfl rfl rfl c_310) (OpT.move rfl (dl rfl rfl) rfl ?_)
                        obtain ⟨g_311, h⟩ := ck_some h
                        refine TL'.step (.on rfl rfl rfl c_310) (OpT.indexStr rfl (dl rfl rfl) Try.underlying9 rfl rfl g_311.1 g_311.2 ?_)
                        refine TL'.step (.on rfl rfl rfl c_310) (OpT.int2 rfl rfl (dl rfl rfl) rfl rfl ?_)
                        refine TL'.step (.on rfl rfl rfl c_308) (OpT.pickT rfl (dl rfl rfl) rfl c_310 rfl ?_)
                        refine TL'.step (.on rfl rfl rfl c_306) (OpT.pickF rfl (dl rfl rfl) rfl c_308 rfl ?_)
                        refine sp rfl (OpT.pickT rfl (dl rfl rfl) rfl c_306 rfl ?_)
                        refine asg rfl rfl rfl rfl rfl ?_
                        refine TL'.nil (thenS_normal ?_)
                        refine T.by_turn ?_ (raddlelaw04_SyntaxGroup_j3_T K ((bt x4_0_1 v_292.2.1) == (41 : Int)) h)
                        exact Turn.rp (.cons rfl (.nil _)) (.n _)
                      · refine TL'.passU (.off _ _ _ _ rfl rfl rfl c_310) (dl rfl rfl) ?_
                        refine TL'.passU (.off _ _ _ _ rfl rfl rfl c_310) (dl rfl rfl) ?_
                        refine TL'.passU (.off _ _ _ _ rfl rfl rfl c_310) (dl rfl rfl) ?_
                        refine TL'.passU (.off _ _ _ _ rfl rfl rfl c_310) (dl rfl rfl) ?_
                        refine TL'.step (.on rfl rfl rfl c_308) (OpT.pickF rfl (dl rfl rfl) rfl c_310 rfl ?_)
                        refine TL'.step (.on rfl rfl rfl c_306) (OpT.pickF rfl (dl rfl rfl) rfl c_308 rfl ?_)
                        refine sp rfl (OpT.pickT rfl (dl rfl rfl) rfl c_306 rfl ?_)
                        refine asg rfl rfl rfl rfl rfl ?_
                        refine TL'.nil (thenS_normal ?_)
                        refine T.by_turn ?_ (raddlelaw04_SyntaxGroup_j3_T K false h)
                        exact Turn.rp (.cons rfl (.nil _)) (.n _)
                    · refine TL'.passU (.off _ _ _ _ rfl rfl rfl c_309) (dl rfl rfl) ?_
                      refine TL'.passU (.off _ _ _ _ rfl rfl rfl c_309) (dl rfl rfl) ?_
                      refine TL'.passU (.off _ _ _ _ rfl rfl rfl c_309) (dl rfl rfl) ?_
                      refine TL'.passU (.off _ _ _ _ rfl rfl rfl c_309) (dl rfl rfl) ?_
                      refine TL'.step (.on rfl rfl rfl c_308) (OpT.pickF rfl (dl rfl rfl) rfl c_309 rfl ?_)
                      refine TL'.step (.on rfl rfl rfl c_308) (OpT.move rfl (dl rfl rfl) rfl ?_)
                      refine TL'.passU (.off _ _ _ _ rfl rfl rfl rfl) (dl rfl rfl) ?_
                      refine TL'.passU (.off _ _ _ _ rfl rfl rfl rfl) (dl rfl rfl) ?_
                      refine TL'.passU (.off _ _ _ _ rfl rfl rfl rfl) (dl rfl rfl) ?_
                      refine TL'.passU (.off _ _ _ _ rfl rfl rfl rfl) (dl rfl rfl) ?_
                      refine TL'.step (.on rfl rfl rfl c_308) (OpT.pickF rfl (dl rfl rfl) rfl rfl rfl ?_)
                      refine TL'.step (.on rfl rfl rfl c_306) (OpT.pickF rfl (dl rfl rfl) rfl c_308 rfl ?_)
                      refine sp rfl (OpT.pickT rfl (dl rfl rfl) rfl c_306 rfl ?_)
                      refine asg rfl rfl rfl rfl rfl ?_
                      refine TL'.nil (thenS_normal ?_)
                      refine T.by_turn ?_ (raddlelaw04_SyntaxGroup_j3_T K false h)
                      exact Turn.rp (.cons rfl (.nil _)) (.n _)
                · refine TL'.passU (.off _ _ _ _ rfl rfl rfl c_307) (dl rfl rfl) ?_
                  refine TL'.passU (.off _ _ _ _ rfl rfl rfl c_307) (dl rfl rfl) ?_
                  refine TL'.passU (.off _ _ _ _ rfl rfl rfl c_307) (dl rfl rfl) ?_
                  refine TL'.passU (.off _ _ _ _ rfl rfl rfl c_307) (dl rfl rfl) ?_
                  refine TL'.step (.on rfl rfl rfl c_306) (OpT.pickF rfl (dl rfl rfl) rfl c_307 rfl ?_)
                  refine TL'.step (.on rfl rfl rfl c_306) (OpT.move rfl (dl rfl rfl) rfl ?_)
                  refine TL'.step (.on rfl rfl rfl rfl) (OpT.move rfl (dl rfl rfl) rfl ?_)
                  refine TL'.step (.on rfl rfl rfl rfl) (OpT.int2 rfl rfl (dl rfl rfl) rfl rfl ?_)
                  refine TL'.step (.on rfl rfl rfl rfl) (OpT.move rfl (dl rfl rfl) rfl ?_)
                  rcases bif_some h with ⟨c_312, h⟩ | ⟨c_312, h⟩
                  · refine TL'.step (.on rfl rfl rfl c_312) (OpT.move rfl (dl rfl rfl) rfl ?_)
                    refine TL'.step (.on rfl rfl rfl c_312) (OpT.move rfl (dl rfl rfl) rfl ?_)
                    refine TL'.step (.on rfl rfl rfl c_312) (OpT.lenStr rfl (dl rfl rfl) Try.underlying9 rfl ?_)
                    refine TL'.step (.on rfl rfl rfl c_312) (OpT.int2 rfl rfl (dl rfl rfl) rfl rfl ?_)
                    refine TL'.step (.on rfl rfl rfl rfl) (OpT.pickT rfl (dl rfl rfl) rfl c_312 rfl ?_)
                    refine TL'.step (.on rfl rfl rfl rfl) (OpT.move rfl (dl rfl rfl) rfl ?_)
                    rcases bif_some h with ⟨c_313, h⟩ | ⟨c_313, h⟩
                    · refine TL'.step (.on rfl rfl rfl c_313) (OpT.move rfl (dl rfl rfl) rfl ?_)
                      refine TL'.step (.on rfl rfl rfl c_313) (OpT.move rfl (dl rfl rfl) rfl ?_)
                      obtain ⟨g_314, h⟩ := ck_some h
                      refine TL'.step (.on rfl rfl rfl c_313) (OpT.indexStr rfl (dl rfl rfl) Try.underlying9 rfl rfl g_314.1 g_314.2 ?_)
                      refine TL'.step (.on rfl rfl rfl c_313) (OpT.int2 rfl rfl (dl rfl rfl) rfl rfl ?_)
                      refine TL'.step (.on rfl rfl rfl rfl) (OpT.pickT rfl (dl rfl rfl) rfl c_313 rfl ?_)
                      refine TL'.step (.on rfl rfl rfl c_306) (OpT.pickF rfl (dl rfl rfl) rfl rfl rfl ?_)
                      refine sp rfl (OpT.pickT rfl (dl rfl rfl) rfl c_306 rfl ?_)
                      refine asg rfl rfl rfl rfl rfl ?_
                      refine TL'.nil (thenS_normal ?_)
                      refine T.by_turn ?_ (raddlelaw04_SyntaxGroup_j3_T K ((bt x4_0_1 v_292.2.1) == (41 : Int)) h)
                      exact Turn.rp (.cons rfl (.nil _)) (.n _)
                    · refine TL'.passU (.off _ _ _ _ rfl rfl rfl c_313) (dl rfl rfl) ?_
                      refine TL'.passU (.off _ _ _ _ rfl rfl rfl c_313) (dl rfl rfl) ?_
                      refine TL'.passU (.off _ _ _ _ rfl rfl rfl c_313) (dl rfl rfl) ?_
                      refine TL'.passU (.off _ _ _ _ rfl rfl rfl c_313) (dl rfl rfl) ?_
                      refine TL'.step (.on rfl rfl rfl rfl) (OpT.pickF rfl (dl rfl rfl) rfl c_313 rfl ?_)
                      refine TL'.step (.on rfl rfl rfl c_306) (OpT.pickF rfl (dl rfl rfl) rfl rfl rfl ?_)
                      refine sp rfl (OpT.pickT rfl (dl rfl rfl) rfl c_306 rfl ?_)
                      refine asg rfl rfl rfl rfl rfl ?_
                      refine TL'.nil (thenS_normal ?_)
                      refine T.by_turn ?_ (raddlelaw04_SyntaxGroup_j3_T K false h)
                      exact Turn.rp (.cons rfl (.nil _)) (.n _)
                  · refine TL'.passU (.off _ _ _ _ rfl rfl rfl c_312) (dl rfl rfl) ?_
                    refine TL'.passU (.off _ _ _ _ rfl rfl rfl c_312) (dl rfl rfl) ?_
                    refine TL'.passU (.off _ _ _ _ rfl rfl rfl c_312) (dl rfl rfl) ?_
                    refine TL'.passU (.off _ _ _ _ rfl rfl rfl c_312) (dl rfl rfl) ?_
                    refine TL'.step (.on rfl rfl rfl rfl) (OpT.pickF rfl (dl rfl rfl) rfl c_312 rfl ?_)
                    refine TL'.step (.on rfl rfl rfl rfl) (OpT.move rfl (dl rfl rfl) rfl ?_)
                    refine TL'.passU (.off _ _ _ _ rfl rfl rfl rfl) (dl rfl rfl) ?_
                    refine TL'.passU (.off _ _ _ _ rfl rfl rfl rfl) (dl rfl rfl) ?_
                    refine TL'.passU (.off _ _ _ _ rfl rfl rfl rfl) (dl rfl rfl) ?_
                    refine TL'.passU (.off _ _ _ _ rfl rfl rfl rfl) (dl rfl rfl) ?_
                    refine TL'.step (.on rfl rfl rfl rfl) (OpT.pickF rfl (dl rfl rfl) rfl rfl rfl ?_)
                    refine TL'.step (.on rfl rfl rfl c_306) (OpT.pickF rfl (dl rfl rfl) rfl rfl rfl ?_)
                    refine sp rfl (OpT.pickT rfl (dl rfl rfl) rfl c_306 rfl ?_)
                    refine asg rfl rfl rfl rfl rfl ?_
                    refine TL'.nil (thenS_normal ?_)
                    refine T.by_turn ?_ (raddlelaw04_SyntaxGroup_j3_T K false h)
                    exact Turn.rp (.cons rfl (.nil _)) (.n _)
              · refine TL'.passU (.off _ _ _ _ rfl rfl rfl c_306) (dl rfl rfl) ?_
                refine TL'.passU (.off _ _ _ _ rfl rfl rfl c_306) (dl rfl rfl) ?_
                refine TL'.passU (.off _ _ _ _ rfl rfl rfl c_306) (dl rfl rfl) ?_
                refine TL'.passU (.gone _ _ _ rfl rfl rfl) (dl rfl rfl) ?_
                refine TL'.passU (.gone _ _ _ rfl rfl rfl) (dl rfl rfl) ?_
                refine TL'.passU (.gone _ _ _ rfl rfl rfl) (dl rfl rfl) ?_
                refine TL'.passU (.gone _ _ _ rfl rfl rfl) (dl rfl rfl) ?_
                refine TL'.passU (.off _ _ _ _ rfl rfl rfl c_306) (dl rfl rfl) ?_
                refine TL'.passU (.off _ _ _ _ rfl rfl rfl c_306) (dl rfl rfl) ?_
                refine TL'.passU (.gone _ _ _ rfl rfl rfl) (dl rfl rfl) ?_
                refine TL'.passU (.gone _ _ _ rfl rfl rfl) (dl rfl rfl) ?_
                refine TL'.passU (.gone _ _ _ rfl rfl rfl) (dl rfl rfl) ?_
                refine TL'.passU (.gone _ _ _ rfl rfl rfl) (dl rfl rfl) ?_
                refine TL'.passU (.gone _ _ _ rfl rfl rfl) (dl rfl rfl) ?_
                refine TL'.passU (.gone _ _ _ rfl rfl rfl) (dl rfl rfl) ?_
                refine TL'.passU (.gone _ _ _ rfl rfl rfl) (dl rfl rfl) ?_
                refine TL'.passU (.gone _ _ _ rfl rfl rfl) (dl rfl rfl) ?_
                refine TL'.passU (.gone _ _ _ rfl rfl rfl) (dl rfl rfl) ?_
                refine TL'.passU (.gone _ _ _ rfl rfl rfl) (dl rfl rfl) ?_
                refine TL'.passU (.gone _ _ _ rfl rfl rfl) (dl rfl rfl) ?_
                refine TL'.passU (.gone _ _ _ rfl rfl rfl) (dl rfl rfl) ?_
                refine TL'.passU (.gone _ _ _ rfl rfl rfl) (dl rfl rfl) ?_
                refine TL'.passU (.gone _ _ _ rfl rfl rfl) (dl rfl rfl) ?_
                refine TL'.passU (.off _ _ _ _ rfl rfl rfl c_306) (dl rfl rfl) ?_
                refine sp rfl (OpT.pickF rfl (dl rfl rfl) rfl c_306 rfl ?_)
                refine asg rfl rfl rfl rfl rfl ?_
                refine TL'.nil (thenS_normal ?_)
                refine T.by_turn ?_ (raddlelaw04_SyntaxGroup_j3_T K false h)
                exact Turn.rp (.cons rfl (.nil _)) (.n _)
            · refine T.condF rfl c_305 ?_
              refine T.skip (inBlock_normal (thenS_normal ?_))
              refine T.seq ?_
              refine T.regionL ?_
              refine mv rfl rfl rfl rfl rfl ?_
              refine mv rfl rfl rfl rfl rfl ?_
              rcases bif_some h with ⟨c_315, h⟩ | ⟨c_315, h⟩
              · refine TL'.step (.on rfl rfl rfl c_315) (OpT.move rfl (dl rfl rfl) rfl ?_)
                refine TL'.step (.on rfl rfl rfl c_315) (OpT.move rfl (dl rfl rfl) rfl ?_)
                refine TL'.step (.on rfl rfl rfl c_315) (OpT.int2 rfl rfl (dl rfl rfl) rfl rfl ?_)
                refine sp rfl (OpT.pickT rfl (dl rfl rfl) rfl c_315 rfl ?_)
                refine mv rfl rfl rfl rfl rfl ?_
                rcases bif_some h with ⟨c_316, h⟩ | ⟨c_316, h⟩
                · refine TL'.step (.on rfl rfl rfl c_316) (OpT.move rfl (dl rfl rfl) rfl ?_)
                  refine TL'.step (.on rfl rfl rfl c_316) (OpT.move rfl (dl rfl rfl) rfl ?_)
                  refine TL'.step (.on rfl rfl rfl c_316) (OpT.int2 rfl rfl (dl rfl rfl) rfl rfl ?_)
                  refine TL'.step (.on rfl rfl rfl c_316) (OpT.int2 rfl rfl (dl rfl rfl) rfl rfl ?_)
                  refine sp rfl (OpT.pickT rfl (dl rfl rfl) rfl c_316 rfl ?_)
                  refine asg rfl rfl rfl rfl rfl ?_
                  refine TL'.nil (thenS_normal ?_)
                  refine T.ret ?_
                  exact Fin.done (.cons _ _ _ _ (.tmp 2 _ rfl) .nil) (by cases h; exact ⟨rfl, rfl⟩)
                · refine TL'.passU (.off _ _ _ _ rfl rfl rfl c_316) (dl rfl rfl) ?_
                  refine TL'.passU (.off _ _ _ _ rfl rfl rfl c_316) (dl rfl rfl) ?_
                  refine TL'.passU (.off _ _ _ _ rfl rfl rfl c_316) (dl rfl rfl) ?_
                  refine TL'.passU (.off _ _ _ _ rfl rfl rfl c_316) (dl rfl rfl) ?_
                  refine sp rfl (OpT.pickF rfl (dl rfl rfl) rfl c_316 rfl ?_)
                  refine asg rfl rfl rfl rfl rfl ?_
                  refine TL'.nil (thenS_normal ?_)
                  refine T.ret ?_
                  exact Fin.done (.cons _ _ _ _ (.tmp 2 _ rfl) .nil) (by cases h; exact ⟨rfl, rfl⟩)
              · refine TL'.passU (.off _ _ _ _ rfl rfl rfl c_315) (dl rfl rfl) ?_
                refine TL'.passU (.off _ _ _ _ rfl rfl rfl c_315) (dl rfl rfl) ?_
                refine TL'.passU (.off _ _ _ _ rfl rfl rfl c_315) (dl rfl rfl) ?_
                refine sp rfl (OpT.pickF rfl (dl rfl rfl) rfl c_315 rfl ?_)
                refine mv rfl rfl rfl rfl rfl ?_
                refine TL'.passU (.off _ _ _ _ rfl rfl rfl rfl) (dl rfl rfl) ?_
                refine TL'.passU (.off _ _ _ _ rfl rfl rfl rfl) (dl rfl rfl) ?_
                refine TL'.passU (.off _ _ _ _ rfl rfl rfl rfl) (dl rfl rfl) ?_
                refine TL'.passU (.off _ _ _ _ rfl rfl rfl rfl) (dl rfl rfl) ?_
                refine sp rfl (OpT.pickF rfl (dl rfl rfl) rfl rfl rfl ?_)
                refine asg rfl rfl rfl rfl rfl ?_
                refine TL'.nil (thenS_normal ?_)
                refine T.ret ?_
                exact Fin.done (.cons _ _ _ _ (.tmp 2 _ rfl) .nil) (by cases h; exact ⟨rfl, rfl⟩)

theorem raddlelaw04_SyntaxGroup_T (K : Nat) {x0 : ByteArray} {r : Bool} (h : raddlelaw04_SyntaxGroup K x0 = some r) : CallR Try.prog 3 [.str x0] [] (.bool r) := by
  refine CallT.intro Try.func3 rfl (Nat.le_of_ble_eq_true rfl) ?_
  show T Try.prog 109 (Code.at [] (codeOf Try.f3)) ⟨paramSlots 0 [.str x0], []⟩ (raddlelaw04_SyntaxGroup_q r)
  unfold raddlelaw04_SyntaxGroup at h
  refine T.seq ?_
  refine T.regionL ?_
  refine asg rfl rfl rfl rfl rfl ?_
  refine TL'.nil (thenS_normal ?_)
  refine T.seq ?_
  refine T.regionL ?_
  obtain ⟨v_285, e_286, h⟩ := bind_some h
  refine sp rfl (OpT.callPA rfl (dl rfl rfl) Try.func9 rfl rfl Args.nil (CallR.nil (raddlelaw04_shown_T K e_286)) ?_)
  refine asg rfl rfl rfl rfl rfl ?_
  refine TL'.nil (thenS_normal ?_)
  refine T.seq ?_
  refine T.regionL ?_
  refine mv rfl rfl rfl rfl rfl ?_
  refine mv rfl rfl rfl rfl rfl ?_
  refine sp rfl (OpT.lenStr rfl (dl rfl rfl) Try.underlying9 rfl ?_)
  refine sp rfl (OpT.min2 rfl (dl rfl rfl) rfl rfl ?_)
  obtain ⟨g_287, h⟩ := ck_some h
  refine sp rfl (OpT.sliceStr (l := 0) (h := (Int.toNat (if (500 : Int) < (x0.size : Int) then (500 : Int) else (x0.size : Int)))) rfl (dl rfl rfl) Try.underlying9 rfl (.none _) (.some _ _ _ _ rfl g_287.1) g_287.2.1 g_287.2.2 ?_)
  refine asg rfl rfl rfl rfl rfl ?_
  refine TL'.nil (thenS_normal ?_)
  refine T.seq ?_
  refine T.regionL ?_
  refine asg rfl rfl rfl rfl rfl ?_
  refine TL'.nil (thenS_normal ?_)
  refine T.seq ?_
  refine T.seq ?_
  refine T.regionL ?_
  refine mv rfl rfl rfl rfl rfl ?_
  refine sp rfl (OpT.lenStr rfl (dl rfl rfl) Try.underlying9 rfl ?_)
  refine mv rfl rfl rfl rfl rfl ?_
  refine TL'.nil (thenS_normal ?_)
  refine T.block ?_
  refine T.loop ?_
  refine TL.by_turn ?_ (raddlelaw04_SyntaxGroup_l0_T K K v_285 (x0.extract 0 (Int.toNat (if (500 : Int) < (x0.size : Int) then (500 : Int) else (x0.size : Int)))) (0 : Int) ((x0.extract 0 (Int.toNat (if (500 : Int) < (x0.size : Int) then (500 : Int) else (x0.size : Int)))).size : Int) (0 : Int) h)
  exact Turn.rp (.cons rfl (.cons rfl (.cons rfl (.cons rfl (.cons rfl (.nil _)))))) (.n _)

end Go.Rv

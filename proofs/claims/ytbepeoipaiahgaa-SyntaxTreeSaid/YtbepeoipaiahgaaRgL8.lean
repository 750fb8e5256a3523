/- Each function computes what its plain text says: printed by a program of ours. -/
import Derived.Test.YtbepeoipaiahgaaRgW3
namespace Go.Rv
open Go.Proofs
set_option maxRecDepth 100000
set_option maxHeartbeats 4000000
set_option linter.unusedVariables false

abbrev raddlelaw04_SyntaxTree_q (r : Bool) : Exit → St → Prop := retS Try.prog Try.f8 (fun y t => y = (.bool r) ∧ t = [])

abbrev raddlelaw04_SyntaxTree_qs1111 (r : Bool) : Exit → St → Prop := thenS (fun s' => T Try.prog 60 (Code.at [1, 1, 1, 1] (codeOf Try.f8)) s' ((raddlelaw04_SyntaxTree_q r))) ((raddlelaw04_SyntaxTree_q r))

theorem raddlelaw04_SyntaxTree_j0_T {r : Bool} (K : Nat) (x2_0_0 : Bool) (h : raddlelaw04_SyntaxTree_j0 K x2_0_0 = some r) : T Try.prog 60 (Code.at [1, 1, 1, 0, 1, 0, 1] (codeOf Try.f8)) ⟨[(2, .bool x2_0_0)], []⟩ (raddlelaw04_SyntaxTree_qs1111 r) := by
  unfold raddlelaw04_SyntaxTree_j0 at h
  refine T.ret (thenS_ret ?_)
  exact Fin.done (.cons _ _ _ _ (.tmp 2 _ rfl) .nil) (by cases h; exact ⟨rfl, rfl⟩)

theorem raddlelaw04_SyntaxTree_T (K : Nat) {x0 : ByteArray} {r : Bool} (h : raddlelaw04_SyntaxTree K x0 = some r) : CallR Try.prog 8 [.str x0] [] (.bool r) := by
  refine CallT.intro Try.func8 rfl (Nat.le_of_ble_eq_true rfl) ?_
  show T Try.prog 60 (Code.at [] (codeOf Try.f8)) ⟨paramSlots 0 [.str x0], []⟩ (raddlelaw04_SyntaxTree_q r)
  unfold raddlelaw04_SyntaxTree at h
  refine T.seq ?_
  refine T.regionL ?_
  refine asg rfl rfl rfl rfl rfl ?_
  refine TL'.nil (thenS_normal ?_)
  refine T.seq ?_
  refine T.regionL ?_
  obtain ⟨v_94, e_95, h⟩ := bind_some h
  refine sp rfl (OpT.callPA rfl (dl rfl rfl) Try.func9 rfl rfl Args.nil (CallR.nil (raddlelaw04_shown_T K e_95)) ?_)
  refine asg rfl rfl rfl rfl rfl ?_
  refine TL'.nil (thenS_normal ?_)
  refine T.seq ?_
  refine T.regionL ?_
  refine mv rfl rfl rfl rfl rfl ?_
  obtain ⟨v_96, e_97, h⟩ := bind_some h
  refine sp rfl (OpT.callPA rfl (dl rfl rfl) Try.func17 rfl rfl (Args.cons rfl Args.nil) (CallR.nil (raddlelaw04_few_T K e_97)) ?_)
  obtain ⟨v_98, e_99, h⟩ := bind_some h
  refine sp rfl (OpT.callPA rfl (dl rfl rfl) Try.func10 rfl rfl (Args.cons rfl Args.nil) (CallR.nil (syntax_Parse_T K e_99)) ?_)
  refine mv rfl rfl rfl rfl rfl ?_
  refine sp rfl (OpT.extract rfl (dl rfl rfl) rfl rfl ?_)
  refine sp rfl (OpT.extract rfl (dl rfl rfl) rfl rfl ?_)
  refine sp rfl (OpT.extract rfl (dl rfl rfl) rfl rfl ?_)
  refine asg rfl rfl rfl rfl rfl ?_
  refine asg rfl rfl rfl rfl rfl ?_
  refine asg rfl rfl rfl rfl rfl ?_
  refine TL'.nil (thenS_normal ?_)
  refine T.seq ?_
  refine T.seq ?_
  refine T.regionL ?_
  refine mv rfl rfl rfl rfl rfl ?_
  refine sp rfl (OpT.int2 rfl rfl (dl rfl rfl) rfl rfl ?_)
  refine TL'.nil (thenS_normal ?_)
  rcases bif_some h with ⟨c_100, h⟩ | ⟨c_100, h⟩
  · refine T.condT rfl c_100 ?_
    refine T.seq ?_
    refine T.regionL ?_
    refine mv rfl rfl rfl rfl rfl ?_
    refine mv rfl rfl rfl rfl rfl ?_
    rcases bif_some h with ⟨c_101, h⟩ | ⟨c_101, h⟩
    · refine TL'.step (.on rfl rfl rfl c_101) (OpT.move rfl (dl rfl rfl) rfl ?_)
      refine TL'.step (.on rfl rfl rfl c_101) (OpT.lenSlM (xs := v_98.1) (f := c_api_Node) rfl (dl rfl rfl) Try.underlying23 rfl ?_)
      refine TL'.step (.on rfl rfl rfl c_101) (OpT.int2 rfl rfl (dl rfl rfl) rfl rfl ?_)
      refine sp rfl (OpT.pickT rfl (dl rfl rfl) rfl c_101 rfl ?_)
      refine mv rfl rfl rfl rfl rfl ?_
      rcases bif_some h with ⟨c_102, h⟩ | ⟨c_102, h⟩
      · refine TL'.step (.on rfl rfl rfl c_102) (OpT.move rfl (dl rfl rfl) rfl ?_)
        refine TL'.step (.on rfl rfl rfl c_102) (OpT.int2 rfl rfl (dl rfl rfl) rfl rfl ?_)
        refine sp rfl (OpT.pickT rfl (dl rfl rfl) rfl c_102 rfl ?_)
        refine mv rfl rfl rfl rfl rfl ?_
        rcases bif_some h with ⟨c_103, h⟩ | ⟨c_103, h⟩
        · refine TL'.step (.on rfl rfl rfl c_103) (OpT.move rfl (dl rfl rfl) rfl ?_)
          refine TL'.step (.on rfl rfl rfl c_103) (OpT.move rfl (dl rfl rfl) rfl ?_)
          refine TL'.step (.on rfl rfl rfl c_103) (OpT.callPA rfl (dl rfl rfl) Try.func17 rfl rfl (Args.cons rfl Args.nil) (CallR.nil (raddlelaw04_few_T K e_97)) ?_)
          refine TL'.step (.on rfl rfl rfl c_103) (OpT.lenStr rfl (dl rfl rfl) Try.underlying9 rfl ?_)
          refine TL'.step (.on rfl rfl rfl c_103) (OpT.int2 rfl rfl (dl rfl rfl) rfl rfl ?_)
          refine sp rfl (OpT.pickT rfl (dl rfl rfl) rfl c_103 rfl ?_)
          refine mv rfl rfl rfl rfl rfl ?_
          rcases bif_some h with ⟨c_104, h⟩ | ⟨c_104, h⟩
          · refine TL'.step (.on rfl rfl rfl c_104) (OpT.move rfl (dl rfl rfl) rfl ?_)
            refine TL'.step (.on rfl rfl rfl c_104) (OpT.int2 rfl rfl (dl rfl rfl) rfl rfl ?_)
            refine TL'.step (.on rfl rfl rfl c_104) (OpT.move rfl (dl rfl rfl) rfl ?_)
            rcases bif_some h with ⟨c_105, h⟩ | ⟨c_105, h⟩
            · refine TL'.passU (.off _ _ _ _ rfl rfl rfl c_105) (dl rfl rfl) ?_
              refine TL'.passU (.off _ _ _ _ rfl rfl rfl c_105) (dl rfl rfl) ?_
              refine TL'.passU (.off _ _ _ _ rfl rfl rfl c_105) (dl rfl rfl) ?_
              refine TL'.passU (.off _ _ _ _ rfl rfl rfl c_105) (dl rfl rfl) ?_
              refine TL'.passU (.off _ _ _ _ rfl rfl rfl c_105) (dl rfl rfl) ?_
              refine TL'.step (.on rfl rfl rfl c_104) (OpT.pickT rfl (dl rfl rfl) rfl c_105 rfl ?_)
              refine sp rfl (OpT.pickT rfl (dl rfl rfl) rfl c_104 rfl ?_)
              refine asg rfl rfl rfl rfl rfl ?_
              refine TL'.nil (thenS_normal ?_)
              refine T.by_turn ?_ (raddlelaw04_SyntaxTree_j0_T K true h)
              exact Turn.rp (.cons rfl (.nil _)) (.n _)
            · refine TL'.step (.on rfl rfl rfl c_105) (OpT.move rfl (dl rfl rfl) rfl ?_)
              refine TL'.step (.on rfl rfl rfl c_105) (OpT.move rfl (dl rfl rfl) rfl ?_)
              refine TL'.step (.on rfl rfl rfl c_105) (OpT.callPA rfl (dl rfl rfl) Try.func17 rfl rfl (Args.cons rfl Args.nil) (CallR.nil (raddlelaw04_few_T K e_97)) ?_)
              refine TL'.step (.on rfl rfl rfl c_105) (OpT.lenStr rfl (dl rfl rfl) Try.underlying9 rfl ?_)
              refine TL'.step (.on rfl rfl rfl c_105) (OpT.int2 rfl rfl (dl rfl rfl) rfl rfl ?_)
              refine TL'.step (.on rfl rfl rfl c_104) (OpT.pickF rfl (dl rfl rfl) rfl c_105 rfl ?_)
              refine sp rfl (OpT.pickT rfl (dl rfl rfl) rfl c_104 rfl ?_)
              refine asg rfl rfl rfl rfl rfl ?_
              refine TL'.nil (thenS_normal ?_)
              refine T.by_turn ?_ (raddlelaw04_SyntaxTree_j0_T K (v_98.2.1 == (v_96.size : Int)) h)
              exact Turn.rp (.cons rfl (.nil _)) (.n _)
          · refine TL'.passU (.off _ _ _ _ rfl rfl rfl c_104) (dl rfl rfl) ?_
            refine TL'.passU (.off _ _ _ _ rfl rfl rfl c_104) (dl rfl rfl) ?_
            refine TL'.passU (.off _ _ _ _ rfl rfl rfl c_104) (dl rfl rfl) ?_
            refine TL'.passU (.gone _ _ _ rfl rfl rfl) (dl rfl rfl) ?_
            refine TL'.passU (.gone _ _ _ rfl rfl rfl) (dl rfl rfl) ?_
            refine TL'.passU (.gone _ _ _ rfl rfl rfl) (dl rfl rfl) ?_
            refine TL'.passU (.gone _ _ _ rfl rfl rfl) (dl rfl rfl) ?_
            refine TL'.passU (.gone _ _ _ rfl rfl rfl) (dl rfl rfl) ?_
            refine TL'.passU (.off _ _ _ _ rfl rfl rfl c_104) (dl rfl rfl) ?_
            refine sp rfl (OpT.pickF rfl (dl rfl rfl) rfl c_104 rfl ?_)
            refine asg rfl rfl rfl rfl rfl ?_
            refine TL'.nil (thenS_normal ?_)
            refine T.by_turn ?_ (raddlelaw04_SyntaxTree_j0_T K false h)
            exact Turn.rp (.cons rfl (.nil _)) (.n _)
        · refine TL'.passU (.off _ _ _ _ rfl rfl rfl c_103) (dl rfl rfl) ?_
          refine TL'.passU (.off _ _ _ _ rfl rfl rfl c_103) (dl rfl rfl) ?_
          refine TL'.passU (.off _ _ _ _ rfl rfl rfl c_103) (dl rfl rfl) ?_
          refine TL'.passU (.off _ _ _ _ rfl rfl rfl c_103) (dl rfl rfl) ?_
          refine TL'.passU (.off _ _ _ _ rfl rfl rfl c_103) (dl rfl rfl) ?_
          refine sp rfl (OpT.pickF rfl (dl rfl rfl) rfl c_103 rfl ?_)
          refine mv rfl rfl rfl rfl rfl ?_
          refine TL'.passU (.off _ _ _ _ rfl rfl rfl rfl) (dl rfl rfl) ?_
          refine TL'.passU (.off _ _ _ _ rfl rfl rfl rfl) (dl rfl rfl) ?_
          refine TL'.passU (.off _ _ _ _ rfl rfl rfl rfl) (dl rfl rfl) ?_
          refine TL'.passU (.gone _ _ _ rfl rfl rfl) (dl rfl rfl) ?_
          refine TL'.passU (.gone _ _ _ rfl rfl rfl) (dl rfl rfl) ?_
          refine TL'.passU (.gone _ _ _ rfl rfl rfl) (dl rfl rfl) ?_
          refine TL'.passU (.gone _ _ _ rfl rfl rfl) (dl rfl rfl) ?_
          refine TL'.passU (.gone _ _ _ rfl rfl rfl) (dl rfl rfl) ?_
          refine TL'.passU (.off _ _ _ _ rfl rfl rfl rfl) (dl rfl rfl) ?_
          refine sp rfl (OpT.pickF rfl (dl rfl rfl) rfl rfl rfl ?_)
          refine asg rfl rfl rfl rfl rfl ?_
          refine TL'.nil (thenS_normal ?_)
          refine T.by_turn ?_ (raddlelaw04_SyntaxTree_j0_T K false h)
          exact Turn.rp (.cons rfl (.nil _)) (.n _)
      · refine TL'.passU (.off _ _ _ _ rfl rfl rfl c_102) (dl rfl rfl) ?_
        refine TL'.passU (.off _ _ _ _ rfl rfl rfl c_102) (dl rfl rfl) ?_
        refine sp rfl (OpT.pickF rfl (dl rfl rfl) rfl c_102 rfl ?_)
        refine mv rfl rfl rfl rfl rfl ?_
        refine TL'.passU (.off _ _ _ _ rfl rfl rfl rfl) (dl rfl rfl) ?_
        refine TL'.passU (.off _ _ _ _ rfl rfl rfl rfl) (dl rfl rfl) ?_
        refine TL'.passU (.off _ _ _ _ rfl rfl rfl rfl) (dl rfl rfl) ?_
        refine TL'.passU (.off _ _ _ _ rfl rfl rfl rfl) (dl rfl rfl) ?_
        refine TL'.passU (.off _ _ _ _ rfl rfl rfl rfl) (dl rfl rfl) ?_
        refine sp rfl (OpT.pickF rfl (dl rfl rfl) rfl rfl rfl ?_)
        refine mv rfl rfl rfl rfl rfl ?_
        refine TL'.passU (.off _ _ _ _ rfl rfl rfl rfl) (dl rfl rfl) ?_
        refine TL'.passU (.off _ _ _ _ rfl rfl rfl rfl) (dl rfl rfl) ?_
        refine TL'.passU (.off _ _ _ _ rfl rfl rfl rfl) (dl rfl rfl) ?_
        refine TL'.passU (.gone _ _ _ rfl rfl rfl) (dl rfl rfl) ?_
        refine TL'.passU (.gone _ _ _ rfl rfl rfl) (dl rfl rfl) ?_
        refine TL'.passU (.gone _ _ _ rfl rfl rfl) (dl rfl rfl) ?_
        refine TL'.passU (.gone _ _ _ rfl rfl rfl) (dl rfl rfl) ?_
        refine TL'.passU (.gone _ _ _ rfl rfl rfl) (dl rfl rfl) ?_
        refine TL'.passU (.off _ _ _ _ rfl rfl rfl rfl) (dl rfl rfl) ?_
        refine sp rfl (OpT.pickF rfl (dl rfl rfl) rfl rfl rfl ?_)
        refine asg rfl rfl rfl rfl rfl ?_
        refine TL'.nil (thenS_normal ?_)
        refine T.by_turn ?_ (raddlelaw04_SyntaxTree_j0_T K false h)
        exact Turn.rp (.cons rfl (.nil _)) (.n _)
    · refine TL'.passU (.off _ _ _ _ rfl rfl rfl c_101) (dl rfl rfl) ?_
      refine TL'.passU (.off _ _ _ _ rfl rfl rfl c_101) (dl rfl rfl) ?_
      refine TL'.passU (.off _ _ _ _ rfl rfl rfl c_101) (dl rfl rfl) ?_
      refine sp rfl (OpT.pickF rfl (dl rfl rfl) rfl c_101 rfl ?_)
      refine mv rfl rfl rfl rfl rfl ?_
      refine TL'.passU (.off _ _ _ _ rfl rfl rfl rfl) (dl rfl rfl) ?_
      refine TL'.passU (.off _ _ _ _ rfl rfl rfl rfl) (dl rfl rfl) ?_
      refine sp rfl (OpT.pickF rfl (dl rfl rfl) rfl rfl rfl ?_)
      refine mv rfl rfl rfl rfl rfl ?_
      refine TL'.passU (.off _ _ _ _ rfl rfl rfl rfl) (dl rfl rfl) ?_
      refine TL'.passU (.off _ _ _ _ rfl rfl rfl rfl) (dl rfl rfl) ?_
      refine TL'.passU (.off _ _ _ _ rfl rfl rfl rfl) (dl rfl rfl) ?_
      refine TL'.passU (.off _ _ _ _ rfl rfl rfl rfl) (dl rfl rfl) ?_
      refine TL'.passU (.off _ _ _ _ rfl rfl rfl rfl) (dl rfl rfl) ?_
      refine sp rfl (OpT.pickF rfl (dl rfl rfl) rfl rfl rfl ?_)
      refine mv rfl rfl rfl rfl rfl ?_
      refine TL'.passU (.off _ _ _ _ rfl rfl rfl rfl) (dl rfl rfl) ?_
      refine TL'.passU (.off _ _ _ _ rfl rfl rfl rfl) (dl rfl rfl) ?_
      refine TL'.passU (.off _ _ _ _ rfl rfl rfl rfl) (dl rfl rfl) ?_
      refine TL'.passU (.gone _ _ _ rfl rfl rfl) (dl rfl rfl) ?_
      refine TL'.passU (.gone _ _ _ rfl rfl rfl) (dl rfl rfl) ?_
      refine TL'.passU (.gone _ _ _ rfl rfl rfl) (dl rfl rfl) ?_
      refine TL'.passU (.gone _ _ _ rfl rfl rfl) (dl rfl rfl) ?_
      refine TL'.passU (.gone _ _ _ rfl rfl rfl) (dl rfl rfl) ?_
      refine TL'.passU (.off _ _ _ _ rfl rfl rfl rfl) (dl rfl rfl) ?_
      refine sp rfl (OpT.pickF rfl (dl rfl rfl) rfl rfl rfl ?_)
      refine asg rfl rfl rfl rfl rfl ?_
      refine TL'.nil (thenS_normal ?_)
      refine T.by_turn ?_ (raddlelaw04_SyntaxTree_j0_T K false h)
      exact Turn.rp (.cons rfl (.nil _)) (.n _)
  · refine T.condF rfl c_100 ?_
    refine T.skip (thenS_normal ?_)
    refine T.seq ?_
    refine T.regionL ?_
    refine mv rfl rfl rfl rfl rfl ?_
    refine mv rfl rfl rfl rfl rfl ?_
    rcases bif_some h with ⟨c_106, h⟩ | ⟨c_106, h⟩
    · refine TL'.step (.on rfl rfl rfl c_106) (OpT.move rfl (dl rfl rfl) rfl ?_)
      refine TL'.step (.on rfl rfl rfl c_106) (OpT.int2 rfl rfl (dl rfl rfl) rfl rfl ?_)
      refine sp rfl (OpT.pickT rfl (dl rfl rfl) rfl c_106 rfl ?_)
      refine mv rfl rfl rfl rfl rfl ?_
      rcases bif_some h with ⟨c_107, h⟩ | ⟨c_107, h⟩
      · refine TL'.step (.on rfl rfl rfl c_107) (OpT.move rfl (dl rfl rfl) rfl ?_)
        obtain ⟨v_108, e_109, h⟩ := bind_some h
        refine TL'.step (.on rfl rfl rfl c_107) (OpT.callPA rfl (dl rfl rfl) Try.func15 rfl rfl (Args.cons rfl Args.nil) (CallR.nil (syntax_Right_T K (flx0 := false) e_109)) ?_)
        refine sp rfl (OpT.pickT rfl (dl rfl rfl) rfl c_107 rfl ?_)
        refine mv rfl rfl rfl rfl rfl ?_
        rcases bif_some h with ⟨c_110, h⟩ | ⟨c_110, h⟩
        · refine TL'.step (.on rfl rfl rfl c_110) (OpT.move rfl (dl rfl rfl) rfl ?_)
          refine TL'.step (.on rfl rfl rfl c_110) (OpT.callPA rfl (dl rfl rfl) Try.func17 rfl rfl (Args.cons rfl Args.nil) (CallR.nil (raddlelaw04_few_T K e_97)) ?_)
          refine TL'.step (.on rfl rfl rfl c_110) (OpT.lenStr rfl (dl rfl rfl) Try.underlying9 rfl ?_)
          refine TL'.step (.on rfl rfl rfl c_110) (OpT.int2 rfl rfl (dl rfl rfl) rfl rfl ?_)
          refine sp rfl (OpT.pickT rfl (dl rfl rfl) rfl c_110 rfl ?_)
          refine asg rfl rfl rfl rfl rfl ?_
          refine TL'.nil (thenS_normal ?_)
          refine T.ret ?_
          exact Fin.done (.cons _ _ _ _ (.tmp 2 _ rfl) .nil) (by cases h; exact ⟨rfl, rfl⟩)
        · refine TL'.passU (.off _ _ _ _ rfl rfl rfl c_110) (dl rfl rfl) ?_
          refine TL'.passU (.off _ _ _ _ rfl rfl rfl c_110) (dl rfl rfl) ?_
          refine TL'.passU (.off _ _ _ _ rfl rfl rfl c_110) (dl rfl rfl) ?_
          refine TL'.passU (.off _ _ _ _ rfl rfl rfl c_110) (dl rfl rfl) ?_
          refine sp rfl (OpT.pickF rfl (dl rfl rfl) rfl c_110 rfl ?_)
          refine asg rfl rfl rfl rfl rfl ?_
          refine TL'.nil (thenS_normal ?_)
          refine T.ret ?_
          exact Fin.done (.cons _ _ _ _ (.tmp 2 _ rfl) .nil) (by cases h; exact ⟨rfl, rfl⟩)
      · refine TL'.passU (.off _ _ _ _ rfl rfl rfl c_107) (dl rfl rfl) ?_
        refine TL'.passU (.off _ _ _ _ rfl rfl rfl c_107) (dl rfl rfl) ?_
        refine sp rfl (OpT.pickF rfl (dl rfl rfl) rfl c_107 rfl ?_)
        refine mv rfl rfl rfl rfl rfl ?_
        refine TL'.passU (.off _ _ _ _ rfl rfl rfl rfl) (dl rfl rfl) ?_
        refine TL'.passU (.off _ _ _ _ rfl rfl rfl rfl) (dl rfl rfl) ?_
        refine TL'.passU (.off _ _ _ _ rfl rfl rfl rfl) (dl rfl rfl) ?_
        refine TL'.passU (.off _ _ _ _ rfl rfl rfl rfl) (dl rfl rfl) ?_
        refine sp rfl (OpT.pickF rfl (dl rfl rfl) rfl rfl rfl ?_)
        refine asg rfl rfl rfl rfl rfl ?_
        refine TL'.nil (thenS_normal ?_)
        refine T.ret ?_
        exact Fin.done (.cons _ _ _ _ (.tmp 2 _ rfl) .nil) (by cases h; exact ⟨rfl, rfl⟩)
    · refine TL'.passU (.off _ _ _ _ rfl rfl rfl c_106) (dl rfl rfl) ?_
      refine TL'.passU (.off _ _ _ _ rfl rfl rfl c_106) (dl rfl rfl) ?_
      refine sp rfl (OpT.pickF rfl (dl rfl rfl) rfl c_106 rfl ?_)
      refine mv rfl rfl rfl rfl rfl ?_
      refine TL'.passU (.off _ _ _ _ rfl rfl rfl rfl) (dl rfl rfl) ?_
      refine TL'.passU (.off _ _ _ _ rfl rfl rfl rfl) (dl rfl rfl) ?_
      refine sp rfl (OpT.pickF rfl (dl rfl rfl) rfl rfl rfl ?_)
      refine mv rfl rfl rfl rfl rfl ?_
      refine TL'.passU (.off _ _ _ _ rfl rfl rfl rfl) (dl rfl rfl) ?_
      refine TL'.passU (.off _ _ _ _ rfl rfl rfl rfl) (dl rfl rfl) ?_
      refine TL'.passU (.off _ _ _ _ rfl rfl rfl rfl) (dl rfl rfl) ?_
      refine TL'.passU (.off _ _ _ _ rfl rfl rfl rfl) (dl rfl rfl) ?_
      refine sp rfl (OpT.pickF rfl (dl rfl rfl) rfl rfl rfl ?_)
      refine asg rfl rfl rfl rfl rfl ?_
      refine TL'.nil (thenS_normal ?_)
      refine T.ret ?_
      exact Fin.done (.cons _ _ _ _ (.tmp 2 _ rfl) .nil) (by cases h; exact ⟨rfl, rfl⟩)

end Go.Rv

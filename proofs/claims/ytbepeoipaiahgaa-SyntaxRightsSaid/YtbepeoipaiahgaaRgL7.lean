/- Each function computes what its plain text says: printed by a program of ours. -/
import Derived.Test.YtbepeoipaiahgaaRgW3
namespace Go.Rv
open Go.Proofs
set_option maxRecDepth 100000
set_option maxHeartbeats 4000000
set_option linter.unusedVariables false

abbrev raddlelaw04_SyntaxRights_q (r : Bool) : Exit → St → Prop := retS Try.prog Try.f7 (fun y t => y = (.bool r) ∧ t = [])

theorem raddlelaw04_SyntaxRights_T (K : Nat) {x0 : List api_Node} {flx0 : Bool} {r : Bool} (h : raddlelaw04_SyntaxRights K x0 = some r) : CallR Try.prog 7 [.sl flx0 9 (x0.map c_api_Node)] [] (.bool r) := by
  refine CallT.intro Try.func7 rfl (Nat.le_of_ble_eq_true rfl) ?_
  show T Try.prog 17 (Code.at [] (codeOf Try.f7)) ⟨paramSlots 0 [.sl flx0 9 (x0.map c_api_Node)], []⟩ (raddlelaw04_SyntaxRights_q r)
  unfold raddlelaw04_SyntaxRights at h
  refine T.seq ?_
  refine T.regionL ?_
  refine asg rfl rfl rfl rfl rfl ?_
  refine TL'.nil (thenS_normal ?_)
  refine T.seq ?_
  refine T.regionL ?_
  refine mv rfl rfl rfl rfl rfl ?_
  refine mv rfl rfl rfl rfl rfl ?_
  refine sp rfl (OpT.lenSlM (xs := x0) (f := c_api_Node) rfl (dl rfl rfl) Try.underlying23 rfl ?_)
  refine sp rfl (OpT.min2 rfl (dl rfl rfl) rfl rfl ?_)
  obtain ⟨g_33, h⟩ := ck_some h
  refine sp rfl (OpT.sliceM (xs := x0) (f := c_api_Node) (l := 0) (h := (Int.toNat (if (1100 : Int) < (x0.length : Int) then (1100 : Int) else (x0.length : Int)))) rfl (dl rfl rfl) Try.underlying23 i36 rfl (.none _) (.some _ _ _ _ rfl g_33.1) g_33.2.1 g_33.2.2 ?_)
  refine asg rfl rfl rfl rfl rfl ?_
  refine TL'.nil (thenS_normal ?_)
  refine T.seq ?_
  refine T.regionL ?_
  obtain ⟨v_34, e_35, h⟩ := bind_some h
  refine sp rfl (OpT.callPA rfl (dl rfl rfl) Try.func9 rfl rfl Args.nil (CallR.nil (raddlelaw04_shown_T K e_35)) ?_)
  refine mv rfl rfl rfl rfl rfl ?_
  rcases bif_some h with ⟨c_36, h⟩ | ⟨c_36, h⟩
  · refine TL'.step (.on rfl rfl rfl c_36) (OpT.move rfl (dl rfl rfl) rfl ?_)
    obtain ⟨v_37, e_38, h⟩ := bind_some h
    refine TL'.step (.on rfl rfl rfl c_36) (OpT.callPA rfl (dl rfl rfl) Try.func15 rfl rfl (Args.cons rfl Args.nil) (CallR.nil (syntax_Right_T K (flx0 := false) e_38)) ?_)
    refine TL'.step (.on rfl rfl rfl c_36) (OpT.move rfl (dl rfl rfl) rfl ?_)
    obtain ⟨v_39, e_40, h⟩ := bind_some h
    refine TL'.step (.on rfl rfl rfl c_36) (OpT.callPA rfl (dl rfl rfl) Try.func16 rfl rfl (Args.cons rfl Args.nil) (CallR.nil (raddleref04_Right_T K (flx0 := false) e_40)) ?_)
    refine TL'.step (.on rfl rfl rfl c_36) (OpT.bool_eql rfl (dl rfl rfl) Try.underlying4 rfl rfl ?_)
    refine sp rfl (OpT.pickT rfl (dl rfl rfl) rfl c_36 rfl ?_)
    refine asg rfl rfl rfl rfl rfl ?_
    refine TL'.nil (thenS_normal ?_)
    refine T.ret ?_
    exact Fin.done (.cons _ _ _ _ (.tmp 2 _ rfl) .nil) (by cases h; exact ⟨rfl, rfl⟩)
  · refine TL'.passU (.off _ _ _ _ rfl rfl rfl c_36) (dl rfl rfl) ?_
    refine TL'.passU (.off _ _ _ _ rfl rfl rfl c_36) (dl rfl rfl) ?_
    refine TL'.passU (.off _ _ _ _ rfl rfl rfl c_36) (dl rfl rfl) ?_
    refine TL'.passU (.off _ _ _ _ rfl rfl rfl c_36) (dl rfl rfl) ?_
    refine TL'.passU (.off _ _ _ _ rfl rfl rfl c_36) (dl rfl rfl) ?_
    refine sp rfl (OpT.pickF rfl (dl rfl rfl) rfl c_36 rfl ?_)
    refine asg rfl rfl rfl rfl rfl ?_
    refine TL'.nil (thenS_normal ?_)
    refine T.ret ?_
    exact Fin.done (.cons _ _ _ _ (.tmp 2 _ rfl) .nil) (by cases h; exact ⟨rfl, rfl⟩)

end Go.Rv

/- Each function computes what its plain text says: printed by a program of ours. -/
import Derived.Test.YtbepeoipaiahgaaRgW2
namespace Go.Rv
open Go.Proofs
set_option maxRecDepth 100000
set_option maxHeartbeats 4000000
set_option linter.unusedVariables false

abbrev raddlelaw04_digits_q (r : ByteArray) : Exit → St → Prop := retS Try.prog Try.f12 (fun y t => y = (.str r) ∧ t = [])

theorem raddlelaw04_digits_b_T (K : Nat) (rec_raddlelaw04_digits : Int → Option ByteArray) (hrec_raddlelaw04_digits : raddlelaw04_digits_S rec_raddlelaw04_digits) {x0 : Int} {r : ByteArray} (h : raddlelaw04_digits_b K rec_raddlelaw04_digits x0 = some r) : CallR Try.prog 12 [.int .i64 x0] [] (.str r) := by
  refine CallT.intro Try.func12 rfl (Nat.le_of_ble_eq_true rfl) ?_
  show T Try.prog 17 (Code.at [] (codeOf Try.f12)) ⟨paramSlots 0 [.int .i64 x0], []⟩ (raddlelaw04_digits_q r)
  unfold raddlelaw04_digits_b at h
  refine T.seq ?_
  refine T.regionL ?_
  refine asg rfl rfl rfl rfl rfl ?_
  refine TL'.nil (thenS_normal ?_)
  refine T.seq ?_
  refine T.seq ?_
  refine T.regionL ?_
  refine mv rfl rfl rfl rfl rfl ?_
  refine sp rfl (OpT.int2 rfl rfl (dl rfl rfl) rfl rfl ?_)
  refine TL'.nil (thenS_normal ?_)
  rcases bif_some h with ⟨c_31, h⟩ | ⟨c_31, h⟩
  · refine T.condT rfl c_31 ?_
    refine T.seq ?_
    refine T.regionL ?_
    refine mv rfl rfl rfl rfl rfl ?_
    refine sp rfl (OpT.quo rfl (dl rfl rfl) rfl rfl (by decide) ?_)
    obtain ⟨v_32, e_33, h⟩ := bind_some h
    refine sp rfl (OpT.callPA rfl (dl rfl rfl) Try.func12 rfl rfl (Args.cons rfl Args.nil) (CallR.nil (hrec_raddlelaw04_digits (IntKind.i64.wrap (Int.tdiv x0 (10 : Int))) _ e_33)) ?_)
    refine mv rfl rfl rfl rfl rfl ?_
    refine sp rfl (OpT.rem rfl (dl rfl rfl) rfl rfl (by decide) ?_)
    obtain ⟨v_34, e_35, h⟩ := bind_some h
    refine sp rfl (OpT.callPA rfl (dl rfl rfl) Try.func12 rfl rfl (Args.cons rfl Args.nil) (CallR.nil (hrec_raddlelaw04_digits (Int.tmod x0 (10 : Int)) _ e_35)) ?_)
    obtain ⟨g_36, h⟩ := ck_some h
    refine sp rfl (OpT.str_add rfl (dl rfl rfl) rfl rfl g_36 ?_)
    refine asg rfl rfl rfl rfl rfl ?_
    refine TL'.nil (thenS_normal ?_)
    refine T.ret (thenS_ret ?_)
    exact Fin.done (.cons _ _ _ _ (.tmp 2 _ rfl) .nil) (by cases h; exact ⟨rfl, rfl⟩)
  · refine T.condF rfl c_31 ?_
    refine T.skip (thenS_normal ?_)
    refine T.seq ?_
    refine T.regionL ?_
    refine mv rfl rfl rfl rfl rfl ?_
    refine sp rfl (OpT.int2 rfl rfl (dl rfl rfl) rfl rfl ?_)
    refine sp rfl (OpT.convInt rfl (dl rfl rfl) Try.underlying3 Try.underlying5 rfl ?_)
    refine sp rfl (OpT.buildSlice (elems := ([(IntKind.u8.wrap (IntKind.i64.wrap ((48 : Int) + x0)))] : List Int).map (cI .u8)) rfl (dl rfl rfl) Try.underlying38 i5 (by decide) rfl (all1 rfl) rfl rfl rfl (lenAll rfl) (by decide) ?_)
    refine sp rfl (OpT.convBytes (xs := [(IntKind.u8.wrap (IntKind.i64.wrap ((48 : Int) + x0)))]) rfl (dl rfl rfl) Try.underlying38 Try.underlying5 Try.underlying9 rfl ?_)
    refine asg rfl rfl rfl rfl rfl ?_
    refine TL'.nil (thenS_normal ?_)
    refine T.ret ?_
    exact Fin.done (.cons _ _ _ _ (.tmp 2 _ rfl) .nil) (by cases h; exact ⟨rfl, rfl⟩)

theorem raddlelaw04_digits_r_T (K : Nat) : ∀ n, raddlelaw04_digits_S (raddlelaw04_digits_r K n) := by
  intro n
  induction n with
  | zero =>
    intro x0 r h
    cases (show (none : Option ByteArray) = some r from h)
  | succ n ih =>
    intro x0 r h
    exact raddlelaw04_digits_b_T K (raddlelaw04_digits_r K n) ih h

theorem raddlelaw04_digits_T (K : Nat) {x0 : Int} {r : ByteArray} (h : raddlelaw04_digits K x0 = some r) : CallR Try.prog 12 [.int .i64 x0] [] (.str r) := raddlelaw04_digits_r_T K K x0 r h

end Go.Rv

/- The rows of a chapter over the plain laws: from what a law's plain text answers to the given statement. -/
import Derived.Test.YtaipjabggdifoaaRows
import Derived.Test.YtaipjabggdifoaaRvW
import Derived.Test.YtaipjabggdifoaaRgL7
import Derived.Test.YtaipjabggdifoaaRvN
namespace Go.Rv
open Go.Proofs Go.Proofs.Ytaipjabggdifoaa Go.ChangeShapes Go.WideShapes Go.RowKit
set_option maxRecDepth 100000
set_option linter.unusedVariables false
theorem seatOwn : ownKnob Try.prog.godebug = none := by kernel_rfl
theorem seatLaidOut : laidOutB Try.prog = true := by kernel_rfl
theorem c5 : Try.prog.cellsOf 5 = 1 := by kernel_rfl
abbrev ok5 (x : Int) : Prop := (Lit.int .u8 x).wf = true
theorem rd5 : Rd Try.prog 5 (cI .u8) ok5 := Rd.int Try.underlying5
abbrev ok29 (x : List Int) : Prop := x.length ≤ maxLen ∧ ∀ a ∈ x, ok5 a
theorem rd29 : Rd Try.prog 29 (cL 1 (cI .u8)) ok29 := Rd.slice Try.underlying29 c5 (by decide) rd5
theorem Ph (hp : ∀ (a0 : List Int), ok29 a0 → ∃ K, Jh K a0 = some true) (os : Os) (started : os.Started) (H : Type) (enc : TypeId × Value → H) :
  ReturnsInHanded {} Try.checked os 7 .any (Rows.tableDecodesSpec.pre6 enc Try.prog Try.f7 Rows.tableDecodesRow.domain false) (Rows.tableDecodesSpec.post enc Try.prog Try.f7 false true false false) := by
 refine returnsInHanded_of_change (C := Try.checked) seatOwn started (by kernel_rfl) Try.func7
  (ChangeSpec.witness6 (enc := enc) (C := Try.checked) false ⟨#[], #[.slice none 0 0], []⟩ 8 (by kernel_rfl) (by kernel_rfl) (by kernel_rfl) (by kernel_rfl)) ?_
 intro W base args ds gs before hval0 hW hcnd _
 have hval : ∀ (j : Nat) t v, Try.f7.params[j]? = some t → args[j]? = some v → Value.okWide Try.prog W .any base t v := hval0
 have hW' := hW
 obtain ⟨p, q, hA, _, _, _, _⟩ := hW
 replace hA : DataW.TrodAll enc Try.prog W 0 (fun _ => true) true Try.f7.params.toList args.toList ds p := hA
 rw [Try.params7] at hA hval
 have hget : ∀ (j : Nat) (v : Value), args.toList[j]? = some v → args[j]? = some v := fun j v h => by rw [← Array.getElem?_toList]; exact h
 obtain ⟨v0, vs0, d0, ds0, p0, q0, e0, rfl, rfl, t0, hA0⟩ := trodAll_cons hA
 obtain ⟨ez, rfl, rfl⟩ := trodAll_nil hA0
 skip
 have hargs : args.toList = [v0] := by simp_all
 obtain ⟨a0, o0, r0⟩ := arg_flat (g := fun (l : List Int) => .sl false 1 (l.map (cI .u8))) Try.underlying29 rfl (fun _ => rfl) rd29 (hval 0 29 v0 rfl (hget 0 v0 (by rw [hargs]; rfl))) t0
 obtain ⟨K, hK⟩ := hp a0 o0
 refine law_call seatLaidOut (of_decide_eq_true (by kernel_rfl)) hW' rfl rfl (tb := 4) (by kernel_rfl) Try.underlying4 (Tg K (flx0 := false) hK) (by rw [hargs]; rfl) ?_ .nil
 intro i v x hv hx
 rw [hargs] at hv
 match i, hv, hx with
 | 0, hv, hx => simp at hv hx; subst hv; subst hx; exact r0
theorem Rg (hp : ∀ (a0 : List Int), ok29 a0 → ∃ K, Jh K a0 = some true) : Rows.TableDecodesSaid :=
 OpenClaim.holds_of_wide 7 Try.f7 rfl rfl rfl rfl rfl rfl rfl ⟨rfl, rfl, rfl, rfl, rfl⟩ rfl rfl rfl rfl rfl (by kernel_rfl) Try.func7 (by kernel_rfl)
  (of_decide_eq_true (by kernel_rfl)) (by unfold Func.isWrapper; first | (rw [if_pos (by decide +kernel)]; kernel_rfl) | (rw [if_neg (by decide +kernel)]; exact ⟨rfl, rfl⟩))
  (fun os started H enc _ => Ph hp os started H enc)
end Go.Rv

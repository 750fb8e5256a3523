/- The rows of a chapter over the plain laws: from what a law's plain text answers to the given statement. -/
import Derived.Test.YtbepeoipaiahgaaRows
import Derived.Test.YtbepeoipaiahgaaRvW
import Derived.Test.YtbepeoipaiahgaaRgL3
import Derived.Test.YtbepeoipaiahgaaRvN
namespace Go.Rv
open Go.Proofs Go.Proofs.Ytbepeoipaiahgaa Go.ChangeShapes Go.WideShapes Go.RowKit
set_option maxRecDepth 100000
set_option linter.unusedVariables false

theorem seatOwn : ownKnob Try.prog.godebug = none := by kernel_rfl
theorem seatLaidOut : laidOutB Try.prog = true := by kernel_rfl
abbrev ok9 (x : ByteArray) : Prop := x.size ≤ maxLen
theorem rd9 : Rd Try.prog 9 cS ok9 := Rd.string Try.underlying9

theorem syntaxGroup_lifted (hp : ∀ (a0 : ByteArray), ok9 a0 → ∃ K, raddlelaw04_SyntaxGroup K a0 = some true) (os : Os) (started : os.Started) (H : Type) (enc : TypeId × Value → H) :
    ReturnsInHanded {} Try.checked os 3 .any (Rows.syntaxGroupSpec.pre6 enc Try.prog Try.f3 Rows.syntaxGroupRow.domain false) (Rows.syntaxGroupSpec.post enc Try.prog Try.f3 false true false false) := by
  refine returnsInHanded_of_change (C := Try.checked) seatOwn started (by kernel_rfl) Try.func3
    (ChangeSpec.witness6 (enc := enc) (C := Try.checked) false ⟨#[], #[.string ⟨#[]⟩], []⟩ 8 (by kernel_rfl) (by kernel_rfl) (by kernel_rfl) (by kernel_rfl)) ?_
  intro W base args ds gs before hval0 hW hcnd _
  have hval : ∀ (j : Nat) t v, Try.f3.params[j]? = some t → args[j]? = some v → Value.okWide Try.prog W .any base t v := hval0
  have hW' := hW
  obtain ⟨p, q, hA, _, _, _, _⟩ := hW
  replace hA : DataW.TrodAll enc Try.prog W 0 (fun _ => true) true Try.f3.params.toList args.toList ds p := hA
  rw [Try.params3] at hA hval
  have hget : ∀ (j : Nat) (v : Value), args.toList[j]? = some v → args[j]? = some v := fun j v h => by rw [← Array.getElem?_toList]; exact h
  obtain ⟨v0, vs0, d0, ds0, p0, q0, e0, rfl, rfl, t0, hA0⟩ := trodAll_cons hA
  obtain ⟨ez, rfl, rfl⟩ := trodAll_nil hA0
  skip
  have hargs : args.toList = [v0] := by simp_all
  obtain ⟨a0, o0, r0⟩ := arg_flat (g := fun s => .ex (.string s)) Try.underlying9 rfl (fun _ => rfl) rd9 (hval 0 9 v0 rfl (hget 0 v0 (by rw [hargs]; rfl))) t0
  obtain ⟨K, hK⟩ := hp a0 o0
  refine law_call seatLaidOut (of_decide_eq_true (by kernel_rfl)) hW' rfl rfl (tb := 4) (by kernel_rfl) Try.underlying4 (raddlelaw04_SyntaxGroup_T K hK) (by rw [hargs]; rfl) ?_ .nil
  intro i v x hv hx
  rw [hargs] at hv
  match i, hv, hx with
  | 0, hv, hx => simp at hv hx; subst hv; subst hx; exact r0
theorem syntaxGroup_holds (hp : ∀ (a0 : ByteArray), ok9 a0 → ∃ K, raddlelaw04_SyntaxGroup K a0 = some true) : Rows.SyntaxGroupSaid :=
  OpenClaim.holds_of_wide 3 Try.f3 rfl rfl rfl rfl rfl rfl rfl ⟨rfl, rfl, rfl, rfl, rfl⟩ rfl rfl rfl rfl rfl (by kernel_rfl) Try.func3 (by kernel_rfl)
    (of_decide_eq_true (by kernel_rfl)) (by unfold Func.isWrapper; first | (rw [if_pos (by decide +kernel)]; kernel_rfl) | (rw [if_neg (by decide +kernel)]; exact ⟨rfl, rfl⟩))
    (fun os started H enc _ => syntaxGroup_lifted hp os started H enc)
end Go.Rv

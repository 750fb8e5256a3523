/- The rows of a chapter over the plain laws: from what a law's plain text answers to the given statement. -/
import Derived.Test.YtbepeoipaiahgaaRows
import Derived.Test.YtbepeoipaiahgaaRvW
import Derived.Test.YtbepeoipaiahgaaRgL4
import Derived.Test.YtbepeoipaiahgaaRvN
namespace Go.Rv
open Go.Proofs Go.Proofs.Ytbepeoipaiahgaa Go.ChangeShapes Go.WideShapes Go.RowKit
set_option maxRecDepth 100000
set_option linter.unusedVariables false

theorem seatOwn : ownKnob Try.prog.godebug = none := by kernel_rfl
theorem seatLaidOut : laidOutB Try.prog = true := by kernel_rfl
abbrev ok29 (x : Int) : Prop := (Lit.int .u16 x).wf = true
theorem rd29 : Rd Try.prog 29 (cI .u16) ok29 := Rd.int Try.underlying29
abbrev ok4 (x : Bool) : Prop := True
theorem rd4 : Rd Try.prog 4 cB ok4 := Rd.bool Try.underlying4

theorem syntaxBounds_lifted (hp : ∀ (a0 : Int) (a1 : Int) (a2 : Bool), ok29 a0 → ok29 a1 → ok4 a2 → ∃ K, raddlelaw04_SyntaxBounds K a0 a1 a2 = some true) (os : Os) (started : os.Started) (H : Type) (enc : TypeId × Value → H) :
    ReturnsInHanded {} Try.checked os 4 .any (Rows.syntaxBoundsSpec.pre6 enc Try.prog Try.f4 Rows.syntaxBoundsRow.domain false) (Rows.syntaxBoundsSpec.post enc Try.prog Try.f4 false true false false) := by
  refine returnsInHanded_of_change (C := Try.checked) seatOwn started (by kernel_rfl) Try.func4
    (ChangeSpec.witness6 (enc := enc) (C := Try.checked) false ⟨#[], #[.int .u16 0, .int .u16 0, .bool false], []⟩ 8 (by kernel_rfl) (by kernel_rfl) (by kernel_rfl) (by kernel_rfl)) ?_
  intro W base args ds gs before hval0 hW hcnd _
  have hval : ∀ (j : Nat) t v, Try.f4.params[j]? = some t → args[j]? = some v → Value.okWide Try.prog W .any base t v := hval0
  have hW' := hW
  obtain ⟨p, q, hA, _, _, _, _⟩ := hW
  replace hA : DataW.TrodAll enc Try.prog W 0 (fun _ => true) true Try.f4.params.toList args.toList ds p := hA
  rw [Try.params4] at hA hval
  have hget : ∀ (j : Nat) (v : Value), args.toList[j]? = some v → args[j]? = some v := fun j v h => by rw [← Array.getElem?_toList]; exact h
  obtain ⟨v0, vs0, d0, ds0, p0, q0, e0, rfl, rfl, t0, hA0⟩ := trodAll_cons hA
  obtain ⟨v1, vs1, d1, ds1, p1, q1, e1, rfl, rfl, t1, hA1⟩ := trodAll_cons hA0
  obtain ⟨v2, vs2, d2, ds2, p2, q2, e2, rfl, rfl, t2, hA2⟩ := trodAll_cons hA1
  obtain ⟨ez, rfl, rfl⟩ := trodAll_nil hA2
  skip; subst e1; subst e2
  have hargs : args.toList = [v0, v1, v2] := by simp_all
  obtain ⟨a0, o0, r0⟩ := arg_flat (g := fun n => .ex (.int .u16 n)) Try.underlying29 rfl (fun _ => rfl) rd29 (hval 0 29 v0 rfl (hget 0 v0 (by rw [hargs]; rfl))) t0
  obtain ⟨a1, o1, r1⟩ := arg_flat (g := fun n => .ex (.int .u16 n)) Try.underlying29 rfl (fun _ => rfl) rd29 (hval 1 29 v1 rfl (hget 1 v1 (by rw [hargs]; rfl))) t1
  obtain ⟨a2, o2, r2⟩ := arg_flat (g := fun b => .ex (.bool b)) Try.underlying4 rfl (fun _ => rfl) rd4 (hval 2 4 v2 rfl (hget 2 v2 (by rw [hargs]; rfl))) t2
  obtain ⟨K, hK⟩ := hp a0 a1 a2 o0 o1 o2
  refine law_call seatLaidOut (of_decide_eq_true (by kernel_rfl)) hW' rfl rfl (tb := 4) (by kernel_rfl) Try.underlying4 (raddlelaw04_SyntaxBounds_T K hK) (by rw [hargs]; rfl) ?_ .nil
  intro i v x hv hx
  rw [hargs] at hv
  match i, hv, hx with
  | 0, hv, hx => simp at hv hx; subst hv; subst hx; exact r0
  | 1, hv, hx => simp at hv hx; subst hv; subst hx; exact r1
  | 2, hv, hx => simp at hv hx; subst hv; subst hx; exact r2
theorem syntaxBounds_holds (hp : ∀ (a0 : Int) (a1 : Int) (a2 : Bool), ok29 a0 → ok29 a1 → ok4 a2 → ∃ K, raddlelaw04_SyntaxBounds K a0 a1 a2 = some true) : Rows.SyntaxBoundsSaid :=
  OpenClaim.holds_of_wide 4 Try.f4 rfl rfl rfl rfl rfl rfl rfl ⟨rfl, rfl, rfl, rfl, rfl⟩ rfl rfl rfl rfl rfl (by kernel_rfl) Try.func4 (by kernel_rfl)
    (of_decide_eq_true (by kernel_rfl)) (by unfold Func.isWrapper; first | (rw [if_pos (by decide +kernel)]; kernel_rfl) | (rw [if_neg (by decide +kernel)]; exact ⟨rfl, rfl⟩))
    (fun os started H enc _ => syntaxBounds_lifted hp os started H enc)
end Go.Rv

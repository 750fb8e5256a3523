/- The rows of a chapter over the plain laws: from what a law's plain text answers to the given statement. -/
import Derived.Test.YtaipjabggdifoaaRows
import Derived.Test.YtaipjabggdifoaaRvW
import Derived.Test.YtaipjabggdifoaaRgL9
import Derived.Test.YtaipjabggdifoaaRvN
namespace Go.Rv
open Go.Proofs Go.Proofs.Ytaipjabggdifoaa Go.ChangeShapes Go.WideShapes Go.RowKit
set_option maxRecDepth 100000
set_option linter.unusedVariables false
theorem seatOwn : ownKnob Try.prog.godebug = none := by kernel_rfl
theorem seatLaidOut : laidOutB Try.prog = true := by kernel_rfl
theorem c5 : Try.prog.cellsOf 5 = 1 := by kernel_rfl
abbrev ok5 (x : Int) : Prop := (Lit.int .u8 x).wf = true
theorem rd5 : Rd Try.prog 5 (cI .u8) ok5 := Rd.int Try.underlying5
abbrev ok29 (x : List Int) : Prop := x.length ≤ maxLen ∧ ∀ a ∈ x, ok5 a
theorem rd29 : Rd Try.prog 29 (cL 1 (cI .u8)) ok29 := Rd.slice Try.underlying29 c5 (by decide) rd5
abbrev ok47 (x : Int) : Prop := (Lit.int .u16 x).wf = true
theorem rd47 : Rd Try.prog 47 (cI .u16) ok47 := Rd.int Try.underlying47
theorem Ps (hp : ∀ (a0 : List Int) (a1 : Int) (a2 : Int), ok29 a0 → ok47 a1 → ok5 a2 → ∃ K, Hf K a0 a1 a2 = some true) (os : Os) (started : os.Started) (H : Type) (enc : TypeId × Value → H) :
  ReturnsInHanded {} Try.checked os 9 .any (Rows.tableOnceSpec.pre6 enc Try.prog Try.f9 Rows.tableOnceRow.domain false) (Rows.tableOnceSpec.post enc Try.prog Try.f9 false true false false) := by
 refine returnsInHanded_of_change (C := Try.checked) seatOwn started (by kernel_rfl) Try.func9
  (ChangeSpec.witness6 (enc := enc) (C := Try.checked) false ⟨#[], #[.slice none 0 0, .int .u16 0, .int .u8 0], []⟩ 8 (by kernel_rfl) (by kernel_rfl) (by kernel_rfl) (by kernel_rfl)) ?_
 intro W base args ds gs before hval0 hW hcnd _
 have hval : ∀ (j : Nat) t v, Try.f9.params[j]? = some t → args[j]? = some v → Value.okWide Try.prog W .any base t v := hval0
 have hW' := hW
 obtain ⟨p, q, hA, _, _, _, _⟩ := hW
 replace hA : DataW.TrodAll enc Try.prog W 0 (fun _ => true) true Try.f9.params.toList args.toList ds p := hA
 rw [Try.params9] at hA hval
 have hget : ∀ (j : Nat) (v : Value), args.toList[j]? = some v → args[j]? = some v := fun j v h => by rw [← Array.getElem?_toList]; exact h
 obtain ⟨v0, vs0, d0, ds0, p0, q0, e0, rfl, rfl, t0, hA0⟩ := trodAll_cons hA
 obtain ⟨v1, vs1, d1, ds1, p1, q1, e1, rfl, rfl, t1, hA1⟩ := trodAll_cons hA0
 obtain ⟨v2, vs2, d2, ds2, p2, q2, e2, rfl, rfl, t2, hA2⟩ := trodAll_cons hA1
 obtain ⟨ez, rfl, rfl⟩ := trodAll_nil hA2
 skip; subst e1; subst e2
 have hargs : args.toList = [v0, v1, v2] := by simp_all
 obtain ⟨a0, o0, r0⟩ := arg_flat (g := fun (l : List Int) => .sl false 1 (l.map (cI .u8))) Try.underlying29 rfl (fun _ => rfl) rd29 (hval 0 29 v0 rfl (hget 0 v0 (by rw [hargs]; rfl))) t0
 obtain ⟨a1, o1, r1⟩ := arg_flat (g := fun n => .ex (.int .u16 n)) Try.underlying47 rfl (fun _ => rfl) rd47 (hval 1 47 v1 rfl (hget 1 v1 (by rw [hargs]; rfl))) t1
 obtain ⟨a2, o2, r2⟩ := arg_flat (g := fun n => .ex (.int .u8 n)) Try.underlying5 rfl (fun _ => rfl) rd5 (hval 2 5 v2 rfl (hget 2 v2 (by rw [hargs]; rfl))) t2
 obtain ⟨K, hK⟩ := hp a0 a1 a2 o0 o1 o2
 refine law_call seatLaidOut (of_decide_eq_true (by kernel_rfl)) hW' rfl rfl (tb := 4) (by kernel_rfl) Try.underlying4 (l4_TableOnce_T K (flx0 := false) hK) (by rw [hargs]; rfl) ?_ .nil
 intro i v x hv hx
 rw [hargs] at hv
 match i, hv, hx with
 | 0, hv, hx => simp at hv hx; subst hv; subst hx; exact r0
 | 1, hv, hx => simp at hv hx; subst hv; subst hx; exact r1
 | 2, hv, hx => simp at hv hx; subst hv; subst hx; exact r2
theorem Rc (hp : ∀ (a0 : List Int) (a1 : Int) (a2 : Int), ok29 a0 → ok47 a1 → ok5 a2 → ∃ K, Hf K a0 a1 a2 = some true) : Rows.TableOnceSaid :=
 OpenClaim.holds_of_wide 9 Try.f9 rfl rfl rfl rfl rfl rfl rfl ⟨rfl, rfl, rfl, rfl, rfl⟩ rfl rfl rfl rfl rfl (by kernel_rfl) Try.func9 (by kernel_rfl)
  (of_decide_eq_true (by kernel_rfl)) (by unfold Func.isWrapper; first | (rw [if_pos (by decide +kernel)]; kernel_rfl) | (rw [if_neg (by decide +kernel)]; exact ⟨rfl, rfl⟩))
  (fun os started H enc _ => Ps hp os started H enc)
end Go.Rv

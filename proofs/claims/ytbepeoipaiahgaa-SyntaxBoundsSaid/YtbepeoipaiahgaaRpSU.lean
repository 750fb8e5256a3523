/- SyntaxLetters, plainly: a row of letters and digits is a Cat of them, with bars an Alt. -/
import Derived.Test.YtbepeoipaiahgaaRpST
namespace Go.Rv
def plainC (c : Nat) : Prop := specN c = false ∧ c < 256
theorem plain_ne {c : Nat} (h : plainC c) : c ≠ 124 ∧ c ≠ 42 ∧ c ≠ 43 ∧ c ≠ 63 ∧ c ≠ 123 ∧ c ≠ 40 ∧ c ≠ 41 ∧ c ≠ 91 ∧ c ≠ 46 ∧ c ≠ 92 ∧ c ≠ 47 ∧ c ≠ 36 := by
  obtain ⟨h, _⟩ := h
  refine ⟨?_, ?_, ?_, ?_, ?_, ?_, ?_, ?_, ?_, ?_, ?_, ?_⟩ <;> (rintro rfl; revert h; decide)
abbrev oneT (c : Nat) : Pt := .set (st fun x => x == c)
theorem plain_leaf {c : Nat} (h : plainC c) (r : List Nat) : pLeaf (c :: r) = .ok (oneT c) r := by
  have := plain_ne h
  simp only [pLeaf, pOne, this, if_false, false_and, or_self, ne_eq, not_false_eq_true, true_and, h.1, Bool.false_eq_true]
theorem stop_plain {c : Nat} (h : plainC c) (r : List Nat) : stopN (c :: r) = false := by
  have := plain_ne h
  simp [stopN, this.1, this.2.2.2.2.2.2.1]
def bars : List Nat → List Nat
  | [] => []
  | c :: r => c :: r.flatMap fun c => [124, c]
abbrev oneNd (c : Nat) : api_Node := ⟨2, st fun x => x == c, [], 0, 0, noB⟩
end Go.Rv

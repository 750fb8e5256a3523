/- The parser, plainly, 5: it answers what the text is read as. -/
import Derived.Test.YtocjhbbldeankaaDoorRpSL
namespace Go.Rv
theorem z4_same (a : Arr4) : Arr4.same a ⟨0, 0, 0, 0⟩ = decide (a = z4) := by
  rw [Bool.eq_iff_iff, same_iff, decide_eq_true_eq]
section
variable (K : Nat) {s : ByteArray} {i : Nat} {w : Int} {ns : List aNd} {d : Int}
end
end Go.Rv

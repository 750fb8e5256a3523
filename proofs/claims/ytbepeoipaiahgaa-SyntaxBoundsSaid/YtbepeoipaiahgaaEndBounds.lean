/- Bounds in digits are those of the repetition, if they may be, and others are refused at their brace: the program's law SyntaxBounds answers true for every two numbers, and leaves them as they read. Conditions: those of the given row. -/
import Derived.Test.YtbepeoipaiahgaaRowBounds
import Derived.Test.YtbepeoipaiahgaaRpSV
namespace Go.Proofs.Ytbepeoipaiahgaa
open Go Go.Rv

theorem wf_u16 {n : Int} (h : (Lit.int .u16 n).wf = true) : 0 ≤ n ∧ n < 65536 := by
  simp [Lit.wf, IntKind.min, IntKind.max, IntKind.signed, IntKind.bits] at h
  omega
theorem syntaxBounds_true : Rows.SyntaxBoundsSaid :=
  syntaxBounds_holds fun m n two hm hn _ => Bounds_plain m n two (wf_u16 hm) (wf_u16 hn)
#print axioms syntaxBounds_true
end Go.Proofs.Ytbepeoipaiahgaa

/- How bounds stand in a pattern: the program's law PrintTimes answers true for all bounds, with an end or without, and leaves its arguments as they read. Conditions: those of the given card (the tables that it lists are tied to the program's text). -/
import Derived.Test.YtocjhbbldeankaaDoorRowTimes
import Derived.Test.YtocjhbbldeankaaDoorRpXJ
namespace Go.Proofs.YtocjhbbldeankaaDoor
open Go Go.Rv
theorem wf_u16 {n : Int} (h : (Lit.int .u16 n).wf = true) : 0 ≤ n ∧ n < 65536 := by
  simp [Lit.wf, IntKind.min, IntKind.max, IntKind.signed, IntKind.bits] at h
  omega
theorem printTimes_true : Rows.PrintTimesCardSaid :=
  printTimes_card fun x y e hx hy _ => ⟨7000, Times_plain x y (wf_u16 hx) (wf_u16 hy) e⟩
#print axioms printTimes_true
end Go.Proofs.YtocjhbbldeankaaDoor

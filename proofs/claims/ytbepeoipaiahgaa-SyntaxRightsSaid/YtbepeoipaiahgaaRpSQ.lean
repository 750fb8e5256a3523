/- SyntaxTree, plainly: what Parse tells is a tree, or an error at a place. -/
import Derived.Test.YtbepeoipaiahgaaRpSP
namespace Go.Rv
theorem shown_200 : raddlelaw04_shown 200 = some true := by decide +kernel
theorem shown_at {K : Nat} (h : 200 ≤ K) : raddlelaw04_shown K = some true := raddlelaw04_shown_le h _ shown_200
theorem minIf (c n : Nat) : (if (c : Int) < (n : Int) then (c : Int) else (n : Int)) = ((min c n : Nat) : Int) := by
  split <;> omega
theorem len_sz : ∀ (f : Pt), f.wf false → f.len ≤ f.sz := by
  intro f
  induction f with
  | cons t g _ ih =>
    intro h
    have h1 := wf_sz h.1
    have h2 := ih h.2
    simp only [Pt.len, Pt.sz]; omega
  | nil => intro _; simp [Pt.len]
  | _ => intro h; exact h.elim
end Go.Rv

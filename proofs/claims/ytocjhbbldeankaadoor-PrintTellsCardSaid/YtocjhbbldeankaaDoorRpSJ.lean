/- The parser, plainly, 2: numbers, bounds, names, classes. -/
import Derived.Test.YtocjhbbldeankaaDoorRpSI
namespace Go.Rv
section
variable (K : Nat) {s : ByteArray} {i : Nat} {w : Int} {ns : List aNd} {d : Int}
def RdB (s : ByteArray) (ns : List aNd) (d w : Int) (l : List Nat) (i : Nat) (f : Option (Int × Int × syp)) : Re (Int × Int) → Prop
  | .ok x r => f = some (x.1, x.2, pst s ((s.size - r.length : Nat) : Int) w 0 ns d) ∧ r <:+ l
  | .err k x => (∃ (lo hi : Int) (i' : Nat), f = some (lo, hi, pst s (i' : Int) ((s.size - x.length : Nat) : Int) k ns d) ∧ i ≤ i' ∧ i' ≤ s.size) ∧ k ≠ 0 ∧ x.length ≤ s.size
end
end Go.Rv

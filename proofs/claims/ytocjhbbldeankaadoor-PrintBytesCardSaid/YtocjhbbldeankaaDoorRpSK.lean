/- The parser, plainly, 3: bounds, names, classes, atoms that are no groups. -/
import Derived.Test.YtocjhbbldeankaaDoorRpSJ
namespace Go.Rv
theorem RdB.mono {s : ByteArray} {ns : List api_Node} {d w : Int} {l l' : List Nat} {i i' : Nat} {f : Option (Int × Int × syntax_parser)} {x : Re (Int × Int)} (h : RdB s ns d w l i f x) (hl : l <:+ l') (hi : i' ≤ i) : RdB s ns d w l' i' f x := by
  cases x with
  | ok x r => exact ⟨h.1, h.2.trans hl⟩
  | err k x =>
    obtain ⟨⟨lo, hi', j, h1, h2, h3⟩, h4⟩ := h
    exact ⟨⟨lo, hi', j, h1, by omega, h3⟩, h4⟩
section
variable (K : Nat) {s : ByteArray} {i : Nat} {w : Int} {ns : List api_Node} {d : Int}
/- Names. -/
end
end Go.Rv

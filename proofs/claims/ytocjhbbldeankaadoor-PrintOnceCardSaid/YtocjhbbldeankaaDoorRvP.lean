/- A LOGIC OF ABSTRACT STATES OVER THE MODEL, part P: texts in order; structs with arrays of numbers in them, held against each other. -/
import Derived.Test.YtocjhbbldeankaaDoorRvY
namespace Go.Rv
section
variable {P : Program} {N : Nat} {s : St} {o : Oper} {K : St → Prop}
/- Structs of numbers and of arrays of numbers: field by field, the numbers of each. -/
def segCells (l : List (IntKind × List Int)) : List Value := l.flatMap fun p => p.2.map (Value.int p.1)
inductive Segs : List DC → List (IntKind × List Int) → Prop
 | nil : Segs [] []
 | one {k : IntKind} {a : Int} {l : List DC} {r : List (IntKind × List Int)} (h : Segs l r) : Segs (.ex (.int k a) :: l) ((k, [a]) :: r)
 | arr {n : Nat} {k : IntKind} {a : ArrN} {l : List DC} {r : List (IntKind × List Int)} (h : Segs l r) : Segs (ArrN.dc n k a ++ l) ((k, a.list n) :: r)
 | arr2 {k : IntKind} {a : Arr2} {l : List DC} {r : List (IntKind × List Int)} (h : Segs l r) : Segs (Arr2.dc k a ++ l) ((k, [a.a0, a.a1]) :: r)
 | arr4 {k : IntKind} {a : Arr4} {l : List DC} {r : List (IntKind × List Int)} (h : Segs l r) : Segs (Arr4.dc k a ++ l) ((k, [a.a0, a.a1, a.a2, a.a3]) :: r)
theorem Segs.eq {l : List DC} {r : List (IntKind × List Int)} (h : Segs l r) : l = (segCells r).map DC.ex := by
 induction h with
 | nil => rfl
 | one h ih => rw [ih]; rfl
 | arr h ih =>
  rw [ih]
  simp [segCells, ArrN.dc, ArrN.list, List.flatMap_cons]
 | arr2 h ih => rw [ih]; rfl
 | arr4 h ih => rw [ih]; rfl
end
end Go.Rv

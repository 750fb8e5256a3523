/- A LOGIC OF ABSTRACT STATES OVER THE MODEL, part U: fields of structs as values; is a slice nil?; pointers held against each other. -/
import Derived.Test.YtocjhbbldeankaaDoorRvT
import Derived.Laws.Cover3
import Derived.Laws.Pointers
namespace Go.Rv
section
variable {P : Program} {N : Nat} {s : St} {o : Oper} {K : St → Prop}
end
end Go.Rv

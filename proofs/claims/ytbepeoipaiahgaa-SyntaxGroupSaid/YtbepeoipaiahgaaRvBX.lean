/- A LOGIC OF ABSTRACT STATES OVER THE MODEL, part BX: an array in an owned box, lent to a call as a slice. -/
import Derived.Test.YtbepeoipaiahgaaRvBW
namespace Go.Rv
section
variable {P : Program} {N : Nat} {s : St} {o : Oper} {K : St → Prop}
end
end Go.Rv

/- A LOGIC OF ABSTRACT STATES OVER THE MODEL, part BZ: slices cut with a bound of their room; a part of an owned array, lent to a call. -/
import Derived.Test.YtbepeoipaiahgaaRvBY
namespace Go.Rv
section
variable {P : Program} {N : Nat} {s : St} {o : Oper} {K : St → Prop}
end
end Go.Rv

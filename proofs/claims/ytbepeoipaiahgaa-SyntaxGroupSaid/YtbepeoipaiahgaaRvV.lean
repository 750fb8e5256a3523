/- A LOGIC OF ABSTRACT STATES OVER THE MODEL, part V: slices that are nil; a slice's array, owned whole, cut; zeros appended. -/
import Derived.Test.YtbepeoipaiahgaaRvU
import Derived.Lib.AppendZeros
namespace Go.Rv
section
variable {P : Program} {N : Nat} {s : St} {o : Oper} {K : St → Prop}
end
end Go.Rv

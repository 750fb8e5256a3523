/- A LOGIC OF ABSTRACT STATES OVER THE MODEL, part O: entries of the model's own (searches in bytes). -/
import Derived.Test.YtaipjabggdifoaaRvM
import Derived.Lib.BytesEntry
namespace Go.Rv
section
variable {P : Program} {N : Nat} {s : St} {o : Oper} {K : St → Prop}
end
end Go.Rv

/- A LOGIC OF ABSTRACT STATES OVER THE MODEL, part P: texts in order; structs with arrays of numbers in them, held against each other. -/
import Derived.Test.YtcmfaclkgdmpbaaGreatDoorRvY
namespace Go.Rv
section
variable {P : Program} {N : Nat} {s : St} {o : Oper} {K : St → Prop}
end
end Go.Rv

/- A LOGIC OF ABSTRACT STATES OVER THE MODEL, part CE: an array of bytes in a variable, filled from a text. -/
import Derived.Test.YtcmfaclkgdmpbaaGreatDoorRvCD
import Derived.Lib.BufferWrite
import Derived.Lib.ConvBytes
namespace Go.Rv
section
variable {P : Program} {N : Nat} {s : St} {o : Oper} {K : St → Prop}
end
end Go.Rv

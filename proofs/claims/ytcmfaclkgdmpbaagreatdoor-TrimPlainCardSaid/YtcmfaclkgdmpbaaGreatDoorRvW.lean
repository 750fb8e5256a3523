/- A LOGIC OF ABSTRACT STATES OVER THE MODEL, part W: structs and arrays of many numbers that read as data are typed data. -/
import Derived.Test.YtcmfaclkgdmpbaaGreatDoorRvN
import Derived.Test.YtcmfaclkgdmpbaaGreatDoorRvT
namespace Go.Rv
section
variable {P : Program} {t e : TypeId}
end
end Go.Rv

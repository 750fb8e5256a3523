/- A LOGIC OF ABSTRACT STATES OVER THE MODEL, part NW: how long a slice in a struct may be: the form's own bound on what is handed. -/
import Derived.Test.YtcmfaclkgdmpbaaGreatDoorRvW
import Derived.SizedLaws
namespace Go.Rv
end Go.Rv

/- Tables are read, plainly: the reference's readers. -/
/- Tables are read, plainly: the reference's readers of what states do. -/
/- Tables are read, plainly: Decode of the reference. -/
import Derived.Test.YtaipjabggdifoaaRpTH
namespace Go.Rv
end Go.Rv
namespace Go.Rv
end Go.Rv
namespace Go.Rv
end Go.Rv

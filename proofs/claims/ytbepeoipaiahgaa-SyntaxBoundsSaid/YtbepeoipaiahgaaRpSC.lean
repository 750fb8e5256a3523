/- Patterns, plainly: are both trees. -/
import Derived.Test.YtbepeoipaiahgaaRpSO
namespace Go.Rv
end Go.Rv

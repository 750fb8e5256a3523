/- Patterns, plainly: every text is read as something. -/
import Derived.Test.YtbepeoipaiahgaaRpSG
namespace Go.Rv
end Go.Rv

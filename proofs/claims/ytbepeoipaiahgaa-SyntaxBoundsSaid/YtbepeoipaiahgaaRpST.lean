/- SyntaxName, plainly: a name in braces is a Ref just if it is a name. -/
import Derived.Test.YtbepeoipaiahgaaRpSC
namespace Go.Rv
end Go.Rv

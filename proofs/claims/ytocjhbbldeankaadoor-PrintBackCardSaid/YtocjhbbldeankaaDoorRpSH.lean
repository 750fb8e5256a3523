/- Patterns, plainly: every text is read as something. -/
import Derived.Test.YtocjhbbldeankaaDoorRpSG
namespace Go.Rv
end Go.Rv

/- Patterns, plainly: are both trees. -/
import Derived.Test.YtocjhbbldeankaaDoorRpSO
namespace Go.Rv
end Go.Rv

/- TableEncodes, plainly. -/
import Derived.Test.YtaipjabggdifoaaRpT5
namespace Go.Rv
theorem shown_300 : raddlelaw14_shown 300 = some true := by kernel_rfl
theorem shown_at {K : Nat} (hK : 300 ≤ K) : raddlelaw14_shown K = some true := raddlelaw14_shown_le hK _ shown_300
end Go.Rv

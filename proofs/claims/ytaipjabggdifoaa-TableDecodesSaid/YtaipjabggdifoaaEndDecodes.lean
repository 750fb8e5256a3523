/- The program and the reference read tables alike: the program's law TableDecodes answers true for all bytes, and leaves them as they read. Conditions: those of the given row. -/
import Derived.Test.YtaipjabggdifoaaRowDecodes
import Derived.Test.YtaipjabggdifoaaRpTL
namespace Go.Proofs.Ytaipjabggdifoaa
open Go Go.Rv
theorem tableDecodes_true : Rows.TableDecodesSaid :=
  Rg fun x hx => Decodes_plain x fun v hv => wf_u8 (hx.2 v hv)
#print axioms tableDecodes_true
end Go.Proofs.Ytaipjabggdifoaa

/- What is read as a table is its one form: the program's law TableOnce answers true for all bytes, every place and every change of the byte there, and leaves them as they read. Conditions: those of the given row. -/
import Derived.Test.YtaipjabggdifoaaRowOnce
import Derived.Test.YtaipjabggdifoaaRpTL
namespace Go.Proofs.Ytaipjabggdifoaa
open Go Go.Rv
theorem tableOnce_true : Rows.TableOnceSaid :=
  Rc fun x c b hx hc hb => Once_plain x c b (fun v hv => wf_u8 (hx.2 v hv)) (by have := wf_u16 hc; omega) (wf_u8 hb)
#print axioms tableOnce_true
end Go.Proofs.Ytaipjabggdifoaa

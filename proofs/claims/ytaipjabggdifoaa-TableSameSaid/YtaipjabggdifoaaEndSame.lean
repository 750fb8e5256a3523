/- Two automata have the same bytes just if they are the same: the program's law TableSame answers true for every two automata, and leaves them as they read. Conditions: those of the given row. -/
import Derived.Test.YtaipjabggdifoaaRowSame
import Derived.Test.YtaipjabggdifoaaRpT9
namespace Go.Proofs.Ytaipjabggdifoaa
open Go Go.Rv

theorem okay_of {a : api_Auto} (h : ok28 a) : Okay a where
  split := fun i hi => wf_u8 (h.1.1 i hi)
  counts := h.2.1.1
  states := h.2.2.1
  st := fun s hs => by
    have hs' := h.2.2.2 s hs
    exact ⟨hs'.1.1, hs'.2.1.1, hs'.2.2.1.1, hs'.2.2.2.1, fun r hr => ⟨(hs'.2.2.2.2 r hr).1, fun m hm => ((hs'.2.2.2.2 r hr).2 m hm).2.1⟩⟩
theorem tableSame_true : Rows.TableSameSaid :=
  tableSame_holds fun a b ha hb => Same_plain a b (okay_of ha) (okay_of hb)
#print axioms tableSame_true
end Go.Proofs.Ytaipjabggdifoaa

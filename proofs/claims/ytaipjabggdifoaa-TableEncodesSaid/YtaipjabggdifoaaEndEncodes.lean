/- An automaton, and a number, as bytes: the program's law TableEncodes answers true for every automaton, all bytes and every number, and leaves them as they read. Conditions: those of the given row. -/
import Derived.Test.YtaipjabggdifoaaRowEncodes
import Derived.Test.YtaipjabggdifoaaRpT6
namespace Go.Proofs.Ytaipjabggdifoaa
open Go Go.Rv

theorem okay_of {a : api_Auto} (h : ok28 a) : Okay a where
  split := fun i hi => wf_u8 (h.1.1 i hi)
  counts := h.2.1.1
  states := h.2.2.1
  st := fun s hs => by
    have hs' := h.2.2.2 s hs
    exact ⟨hs'.1.1, hs'.2.1.1, hs'.2.2.1.1, hs'.2.2.2.1, fun r hr => ⟨(hs'.2.2.2.2 r hr).1, fun m hm => ((hs'.2.2.2.2 r hr).2 m hm).2.1⟩⟩
theorem tableEncodes_true : Rows.TableEncodesSaid :=
  tableEncodes_holds fun a b n ha hb hn => Encodes_plain a b n (okay_of ha) (wf_i64 hn).2
#print axioms tableEncodes_true
end Go.Proofs.Ytaipjabggdifoaa

/- An automaton is read back from its bytes, and neither from fewer nor from more: the program's law TableBack answers true for every automaton, every place and every byte, and leaves them as they read. Conditions: those of the given row. -/
import Derived.Test.YtaipjabggdifoaaRowBack
import Derived.Test.YtaipjabggdifoaaRpTL
namespace Go.Proofs.Ytaipjabggdifoaa
open Go Go.Rv
theorem okay_of {a : aAu} (h : ok28 a) : Okay a where
  split := fun i hi => wf_u8 (h.1.1 i hi)
  counts := h.2.1.1
  states := h.2.2.1
  st := fun s hs => by
    have hs' := h.2.2.2 s hs
    exact ⟨hs'.1.1, hs'.2.1.1, hs'.2.2.1.1, hs'.2.2.2.1, fun r hr => ⟨(hs'.2.2.2.2 r hr).1, fun m hm => ((hs'.2.2.2.2 r hr).2 m hm).2.1⟩⟩
theorem tableBack_true : Rows.TableBackSaid :=
  P8 fun a c b ha hc hb => Back_plain a c b (okay_of ha) (by have := wf_u16 hc; omega) (wf_u8 hb)
#print axioms tableBack_true
end Go.Proofs.Ytaipjabggdifoaa

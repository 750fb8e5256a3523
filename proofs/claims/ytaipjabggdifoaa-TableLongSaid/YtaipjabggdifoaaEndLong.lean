/- Bounds as great as may be make a table no longer than by three bytes each: the program's law TableLong answers true for every automaton and all marks, and leaves them as they read. Conditions: those of the given row. -/
import Derived.Test.YtaipjabggdifoaaRowLong
import Derived.Test.YtaipjabggdifoaaRpTA
namespace Go.Proofs.Ytaipjabggdifoaa
open Go Go.Rv

theorem okay_of {a : api_Auto} (h : ok28 a) : Okay a where
  split := fun i hi => wf_u8 (h.1.1 i hi)
  counts := h.2.1.1
  states := h.2.2.1
  st := fun s hs => by
    have hs' := h.2.2.2 s hs
    exact ⟨hs'.1.1, hs'.2.1.1, hs'.2.2.1.1, hs'.2.2.2.1, fun r hr => ⟨(hs'.2.2.2.2 r hr).1, fun m hm => ((hs'.2.2.2.2 r hr).2 m hm).2.1⟩⟩
theorem tableLong_true : Rows.TableLongSaid :=
  tableLong_holds fun a w ha _ hc => Long_plain a w (okay_of ha) (by simp only [reachBytes] at hc; omega)
#print axioms tableLong_true
end Go.Proofs.Ytaipjabggdifoaa

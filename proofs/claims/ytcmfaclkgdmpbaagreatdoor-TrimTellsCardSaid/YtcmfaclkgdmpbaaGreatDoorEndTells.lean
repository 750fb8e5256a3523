/- Trimming: from which states a rule may end, which are alike, and an automaton without those that nobody needs, are the document's: the program's law TrimTells answers true for every automaton, and leaves it as it reads. Conditions: those of the given card (the tables that it lists are tied to the program's text). -/
import Derived.Test.YtcmfaclkgdmpbaaGreatDoorRowTells
import Derived.Test.YtcmfaclkgdmpbaaGreatDoorRpUT
namespace Go.Proofs.YtcmfaclkgdmpbaaGreatDoor
open Go Go.Rv
theorem okay_of {a : Qc} (h : ok28 a) : Okay a where
  split := fun i hi => wf_u8 (h.1.1 i hi)
  counts := h.2.1.1
  states := h.2.2.1
  st := fun s hs => by
    have hs' := h.2.2.2 s hs
    exact ⟨hs'.1.1, hs'.2.1.1, hs'.2.2.1.1, hs'.2.2.2.1, fun r hr => ⟨(hs'.2.2.2.2 r hr).1, fun m hm => ((hs'.2.2.2.2 r hr).2 m hm).2.1⟩⟩
theorem trimTells_true : Rows.TrimTellsCardSaid :=
  trimTells_card fun a ha => Tells_plain a (okay_of ha)
#print axioms trimTells_true
end Go.Proofs.YtcmfaclkgdmpbaaGreatDoor

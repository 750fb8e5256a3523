/- Trimming: without Counts two states of a trimmed automaton but the first one are told apart by some text: the program's law TrimWays answers true for every automaton and any two of its states, and leaves what it reads. Conditions: those of the given card (the tables that it lists are tied to the program's text). -/
import Derived.Test.YtcmfaclkgdmpbaaGreatDoorRowWays
import Derived.Test.YtcmfaclkgdmpbaaGreatDoorRpUY
namespace Go.Proofs.YtcmfaclkgdmpbaaGreatDoor
open Go Go.Rv
theorem okay_of {a : Qm} (h : ok28 a) : Okay a where
  split := fun i hi => wf_u8 (h.1.1 i hi)
  counts := h.2.1.1
  states := h.2.2.1
  st := fun s hs => by
    have hs' := h.2.2.2 s hs
    exact ⟨hs'.1.1, hs'.2.1.1, hs'.2.2.1.1, hs'.2.2.2.1, fun r hr => ⟨(hs'.2.2.2.2 r hr).1, fun m hm => ((hs'.2.2.2.2 r hr).2 m hm).2.1⟩⟩
theorem trimWays_true : Rows.TrimWaysCardSaid :=
  trimWays_card fun a x y ha hx hy => Ways_plain a x y (okay_of ha) (wf_u8 hx) (wf_u8 hy)
#print axioms trimWays_true
end Go.Proofs.YtcmfaclkgdmpbaaGreatDoor

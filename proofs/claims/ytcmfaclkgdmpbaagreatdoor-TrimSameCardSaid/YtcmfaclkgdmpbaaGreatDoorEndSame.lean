/- Trimming: a trimmed automaton ends as its places do, by the codes of what is held, whatever comes, and where it goes to none no rule ends any more: the program's law TrimSame answers true for all places and every text, and leaves them as they read. Conditions: those of the given card (the tables that it lists are tied to the program's text). -/
import Derived.Test.YtcmfaclkgdmpbaaGreatDoorRowSame
import Derived.Test.YtcmfaclkgdmpbaaGreatDoorRpVO
namespace Go.Proofs.YtcmfaclkgdmpbaaGreatDoor
open Go Go.Rv
theorem okG_of {g : Qj} (h : ok43 g) : OkG g where
  p := h.2.1
  f := h.1.1
  s := fun p hp => by
    obtain ⟨⟨h1, h2⟩, h3, h4⟩ := (h.2.2 p hp).1
    exact st_pr h1 h2 h3 h4
  nx := fun p hp => (h.2.2 p hp).2.2.2.2.2.1
theorem trimSame_true : Rows.TrimSameCardSaid :=
  trimSame_card fun g w hg _ => Same_plain g w (okG_of hg)
#print axioms trimSame_true
end Go.Proofs.YtcmfaclkgdmpbaaGreatDoor

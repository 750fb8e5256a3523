/- Trimming: of the automaton of a word, and of the same word twice, as many states are left as it has bytes, and one: the program's law TrimPlain answers true for all bytes, and leaves them as they read. Conditions: those of the given card (the tables that it lists are tied to the program's text). -/
import Derived.Test.YtcmfaclkgdmpbaaGreatDoorRowPlain
import Derived.Test.YtcmfaclkgdmpbaaGreatDoorRpVR
namespace Go.Proofs.YtcmfaclkgdmpbaaGreatDoor
open Go Go.Rv
theorem trimPlain_true : Rows.TrimPlainCardSaid :=
  trimPlain_card fun b hb => ⟨20000000, Plain_plain b fun x hx => wf_u8 (hb.2 x hx)⟩
#print axioms trimPlain_true
end Go.Proofs.YtcmfaclkgdmpbaaGreatDoor

/- Over two texts one goes from place to place as over both, and each byte 10 is a line more: the program's law PlaceParts answers true for every place and every two texts, and leaves its arguments as they read. Conditions: those of the given row. -/
import Derived.Test.YtnedpcjnhkmikaaRowParts
import Derived.Test.YtnedpcjnhkmikaaRpP2
namespace Go.Proofs.Ytnedpcjnhkmikaa
open Go Go.Rv

theorem placeParts_true : Rows.PlacePartsSaid :=
  placeParts_holds fun p a b hp ha hb => ⟨1000, Parts_plain p (wf_i64 hp.1) (wf_i64 hp.2) a b (fun n hn => wf_u8 (ha.2 n hn)) (fun n hn => wf_u8 (hb.2 n hn))⟩
#print axioms placeParts_true
end Go.Proofs.Ytnedpcjnhkmikaa

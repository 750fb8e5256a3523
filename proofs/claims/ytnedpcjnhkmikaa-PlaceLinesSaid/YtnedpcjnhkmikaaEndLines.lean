/- Lines put one behind the other: the program's law PlaceLines answers true for every list of texts, and leaves it as it reads. Conditions: those of the given row. -/
import Derived.Test.YtnedpcjnhkmikaaRowLines
import Derived.Test.YtnedpcjnhkmikaaRpP8
namespace Go.Proofs.Ytnedpcjnhkmikaa
open Go Go.Rv

theorem placeLines_true : Rows.PlaceLinesSaid :=
  placeLines_holds fun m hm => Lines_plain m fun b hb => ⟨fun n hn => wf_u8 ((hm.2 b hb).2 n hn), (hm.2 b hb).1⟩
#print axioms placeLines_true
end Go.Proofs.Ytnedpcjnhkmikaa

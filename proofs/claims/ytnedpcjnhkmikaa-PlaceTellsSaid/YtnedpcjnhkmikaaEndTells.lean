/- The place behind some bytes, that of a byte, and the byte at a place are the document's: the program's law PlaceTells answers true for every place, text and number, and leaves its arguments as they read. Conditions: those of the given row. -/
import Derived.Test.YtnedpcjnhkmikaaRowTells
import Derived.Test.YtnedpcjnhkmikaaRpP6
namespace Go.Proofs.Ytnedpcjnhkmikaa
open Go Go.Rv

theorem placeTells_true : Rows.PlaceTellsSaid :=
  placeTells_holds fun p w n hp hw hn => ⟨1000, Tells_plain p (wf_i64 hp.1) (wf_i64 hp.2) w (fun b hb => wf_u8 (hw.2 b hb)) n⟩
#print axioms placeTells_true
end Go.Proofs.Ytnedpcjnhkmikaa

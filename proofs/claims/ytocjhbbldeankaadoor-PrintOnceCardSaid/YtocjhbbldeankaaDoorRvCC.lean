/- A LOGIC OF ABSTRACT STATES OVER THE MODEL, part CC: the contracts of the library at the seat of Print. -/
import Derived.Test.YtocjhbbldeankaaDoorRvCB
import Derived.Test.YtocjhbbldeankaaDoorRvNW
import Derived.Test.YtocjhbbldeankaaDoorShelf
namespace Go.Rv
open Go.Proofs
theorem builder_String {b : Nat} {v p : Value} {xs : List Int} (h0 : 0 < xs.length) (hb : okBytes xs = true) :
  CallG Tryd.prog 32 [.ptr b 0] [.box b 61 [.d (.ex p), .d (.ex v)], .arrX v 5 1 0 (xs.map (cI .u8))] (fun _ => .str (ofBytes xs)) (fun _ => [.box b 61 [.d (.ex p), .d (.ex v)], .ro 0 []]) :=
 builderStr_call Tryd.lays169 Tryd.Builder_Extra_169 h0 hb
end Go.Rv

/- The parser, plainly, 4: names, classes. -/
import Derived.Test.YtocjhbbldeankaaDoorRpSK
namespace Go.Rv
section
variable (K : Nat) {s : ByteArray} {i : Nat} {w : Int} {ns : List aNd} {d : Int}
end
end Go.Rv

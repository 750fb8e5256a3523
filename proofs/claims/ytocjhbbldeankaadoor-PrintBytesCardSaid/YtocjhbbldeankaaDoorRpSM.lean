/- The parser, plainly, 5: it answers what the text is read as. -/
import Derived.Test.YtocjhbbldeankaaDoorRpSL
namespace Go.Rv
section
variable (K : Nat) {s : ByteArray} {i : Nat} {w : Int} {ns : List api_Node} {d : Int}
end
end Go.Rv

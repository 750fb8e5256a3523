/- A byte as it stands in a pattern: the program's law PrintBytes answers true for every two bytes, and leaves its arguments as they read. Conditions: those of the given card (the tables that it lists are tied to the program's text). -/
import Derived.Test.YtocjhbbldeankaaDoorRowBytes
import Derived.Test.YtocjhbbldeankaaDoorRpXA
namespace Go.Proofs.YtocjhbbldeankaaDoor
open Go Go.Rv
theorem printBytes_true : Rows.PrintBytesCardSaid :=
  printBytes_card fun x y hx hy => Bytes_plain x y (wf_u8 hx) (wf_u8 hy)
#print axioms printBytes_true
end Go.Proofs.YtocjhbbldeankaaDoor

/- The pattern of what Parse tells of a text is told so again: the program's law PrintOnce answers true for every text, and leaves its arguments as they read. Conditions: those of the given card (the tables that it lists are tied to the program's text). -/
import Derived.Test.YtocjhbbldeankaaDoorRowOnce
import Derived.Test.YtocjhbbldeankaaDoorRpXM
namespace Go.Proofs.YtocjhbbldeankaaDoor
open Go Go.Rv
theorem printOnce_true : Rows.PrintOnceCardSaid :=
  printOnce_card fun s _ => Once_plain s
#print axioms printOnce_true
end Go.Proofs.YtocjhbbldeankaaDoor

/- What Parse tells of a tree's pattern is the tree: the program's law PrintBack answers true for all nodes, and leaves its arguments as they read. Conditions: those of the given card (the tables that it lists are tied to the program's text). -/
import Derived.Test.YtocjhbbldeankaaDoorRowBack
import Derived.Test.YtocjhbbldeankaaDoorRpXM
namespace Go.Proofs.YtocjhbbldeankaaDoor
open Go Go.Rv
theorem printBack_true : Rows.PrintBackCardSaid :=
  printBack_card fun l hl => Back_plain l (fun n hn => ⟨(hl.2 n hn).2.2.2.2.2, (hl.2 n hn).2.2.1.1⟩) (fun n hn => st_pr (hl.2 n hn).2.1.1.1 (hl.2 n hn).2.1.1.2 (hl.2 n hn).2.1.2.1 (hl.2 n hn).2.1.2.2)
#print axioms printBack_true
end Go.Proofs.YtocjhbbldeankaaDoor

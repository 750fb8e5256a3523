/- A tree as a pattern, and a byte and a set as they stand there, are the document's: the program's law PrintTells answers true for all nodes, every byte and every set, and leaves its arguments as they read. Conditions: those of the given card (the tables that it lists are tied to the program's text). -/
import Derived.Test.YtocjhbbldeankaaDoorRowTells
import Derived.Test.YtocjhbbldeankaaDoorRpXI
namespace Go.Proofs.YtocjhbbldeankaaDoor
open Go Go.Rv
theorem printTells_true : Rows.PrintTellsCardSaid :=
  printTells_card fun l x s hl hx hs => by
    obtain ⟨h0, h1⟩ := wf_u8 hx
    rw [st_pr hs.1.1 hs.1.2 hs.2.1 hs.2.2, show x = ((x.toNat : Nat) : Int) by omega]
    exact Tells_plain l (fun n hn => ⟨(hl.2 n hn).2.2.2.2.2, (hl.2 n hn).2.2.1.1⟩) (fun n hn => st_pr (hl.2 n hn).2.1.1.1 (hl.2 n hn).2.1.1.2 (hl.2 n hn).2.1.2.1 (hl.2 n hn).2.1.2.2) _ (by omega) _
#print axioms printTells_true
end Go.Proofs.YtocjhbbldeankaaDoor

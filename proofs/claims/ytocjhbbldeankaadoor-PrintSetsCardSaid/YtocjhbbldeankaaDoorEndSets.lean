/- A set, and a byte, as they stand in a pattern: the program's law PrintSets answers true for every set and every byte, and leaves its arguments as they read. Conditions: those of the given card (the tables that it lists are tied to the program's text). -/
import Derived.Test.YtocjhbbldeankaaDoorRowSets
import Derived.Test.YtocjhbbldeankaaDoorRpXD
namespace Go.Proofs.YtocjhbbldeankaaDoor
open Go Go.Rv
theorem printSets_true : Rows.PrintSetsCardSaid :=
  printSets_card fun s x hs hx => ⟨7000, by
    obtain ⟨h0, h1⟩ := wf_u8 hx
    rw [st_pr hs.1.1 hs.1.2 hs.2.1 hs.2.2, show x = ((x.toNat : Nat) : Int) by omega]
    exact Sets_plain _ _ (by omega)⟩
#print axioms printSets_true
end Go.Proofs.YtocjhbbldeankaaDoor

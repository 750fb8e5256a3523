/- The bytes of a set, its ranges, and those of both cases are the document's: the program's law BsetLists answers true for every set, and leaves its argument as it reads. Conditions: those of the given card (the table that it lists is tied to the program's text). -/
import Derived.Test.YtjgldamcldbbfaaDoorRowLists
import Derived.Test.YtjgldamcldbbfaaDoorRpB7
namespace Go.Proofs.YtjgldamcldbbfaaDoor
open Go Go.Rv

theorem bsetLists_true : Rows.BsetListsCardSaid :=
  bsetLists_card fun a ha => ⟨1000, by
    rw [st_pr ha.1.1 ha.1.2 ha.2.1 ha.2.2]
    exact Lists_plain _⟩
#print axioms bsetLists_true
end Go.Proofs.YtjgldamcldbbfaaDoor

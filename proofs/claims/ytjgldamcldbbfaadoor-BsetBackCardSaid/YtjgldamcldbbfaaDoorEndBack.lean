/- What Spans tells of a set is, by Range and Or, the set, and what List tells, by Of; and spans stand apart: the program's law BsetBack answers true for every set, and leaves its argument as it reads. Conditions: those of the given card (the table that it lists is tied to the program's text). -/
import Derived.Test.YtjgldamcldbbfaaDoorRowBack
import Derived.Test.YtjgldamcldbbfaaDoorRpB8
namespace Go.Proofs.YtjgldamcldbbfaaDoor
open Go Go.Rv

theorem bsetBack_true : Rows.BsetBackCardSaid :=
  bsetBack_card fun a ha => ⟨1000, by
    rw [st_pr ha.1.1 ha.1.2 ha.2.1 ha.2.2]
    exact Back_plain _⟩
#print axioms bsetBack_true
end Go.Proofs.YtjgldamcldbbfaaDoor

/- Folding a set of bytes twice is folding it once, that of two sets together is both folded, and nothing but letters comes: the program's law BsetFolds answers true for every two sets, and leaves its arguments as they read. Conditions: those of the given card (the table that it lists is tied to the program's text). -/
import Derived.Test.YtjgldamcldbbfaaDoorRowFolds
import Derived.Test.YtjgldamcldbbfaaDoorRpB4
namespace Go.Proofs.YtjgldamcldbbfaaDoor
open Go Go.Rv

theorem bsetFolds_true : Rows.BsetFoldsCardSaid :=
  bsetFolds_card fun a b ha hb => ⟨1000, by
    rw [st_pr ha.1.1 ha.1.2 ha.2.1 ha.2.2, st_pr hb.1.1 hb.1.2 hb.2.1 hb.2.2]
    exact Folds_plain _ _⟩
#print axioms bsetFolds_true
end Go.Proofs.YtjgldamcldbbfaaDoor

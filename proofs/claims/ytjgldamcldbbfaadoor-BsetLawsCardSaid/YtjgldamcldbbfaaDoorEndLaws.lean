/- Sets of bytes are an algebra: the program's law BsetLaws answers true for every three sets and every byte, and leaves its arguments as they read. Conditions: those of the given card (the table that it lists is tied to the program's text). -/
import Derived.Test.YtjgldamcldbbfaaDoorRowLaws
import Derived.Test.YtjgldamcldbbfaaDoorRpB5
namespace Go.Proofs.YtjgldamcldbbfaaDoor
open Go Go.Rv

theorem bsetLaws_true : Rows.BsetLawsCardSaid :=
  bsetLaws_card fun a b c x ha hb hc hx => ⟨1000, by
    obtain ⟨l0, l1⟩ := wf_u8 hx
    rw [st_pr ha.1.1 ha.1.2 ha.2.1 ha.2.2, st_pr hb.1.1 hb.1.2 hb.2.1 hb.2.2, st_pr hc.1.1 hc.1.2 hc.2.1 hc.2.2, show x = ((x.toNat : Nat) : Int) by omega]
    exact Laws_plain _ _ _ _ (by omega)⟩
#print axioms bsetLaws_true
end Go.Proofs.YtjgldamcldbbfaaDoor

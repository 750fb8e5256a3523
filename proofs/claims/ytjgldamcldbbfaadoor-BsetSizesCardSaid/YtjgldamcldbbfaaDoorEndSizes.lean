/- Two sets of bytes have together as many bytes as either alone, less those that both have; a set and what it is not have 256; a range has as many as it is long: the program's law BsetSizes answers true for every two sets and two bytes, and leaves its arguments as they read. Conditions: those of the given card (the table that it lists is tied to the program's text). -/
import Derived.Test.YtjgldamcldbbfaaDoorRowSizes
import Derived.Test.YtjgldamcldbbfaaDoorRpB5
namespace Go.Proofs.YtjgldamcldbbfaaDoor
open Go Go.Rv

theorem bsetSizes_true : Rows.BsetSizesCardSaid :=
  bsetSizes_card fun a b lo hi ha hb hl hh => ⟨1000, by
    obtain ⟨l0, l1⟩ := wf_u8 hl
    obtain ⟨h0, h1⟩ := wf_u8 hh
    rw [st_pr ha.1.1 ha.1.2 ha.2.1 ha.2.2, st_pr hb.1.1 hb.1.2 hb.2.1 hb.2.2, show lo = ((lo.toNat : Nat) : Int) by omega, show hi = ((hi.toNat : Nat) : Int) by omega]
    exact Sizes_plain _ _ _ _ (by omega) (by omega)⟩
#print axioms bsetSizes_true
end Go.Proofs.YtjgldamcldbbfaaDoor

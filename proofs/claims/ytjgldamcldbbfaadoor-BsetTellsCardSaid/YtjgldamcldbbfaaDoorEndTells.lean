/- The set of some bytes, of a range, of some sets together, what all have, and what a set is not, are the document's: the program's law BsetTells answers true for every bytes and sets, and leaves its arguments as they read. Conditions: those of the given card (the table that it lists is tied to the program's text). -/
import Derived.Test.YtjgldamcldbbfaaDoorRowTells
import Derived.Test.YtjgldamcldbbfaaDoorRpB8
namespace Go.Proofs.YtjgldamcldbbfaaDoor
open Go Go.Rv

theorem bytes_nn {l : List Int} (h : ∀ n ∈ l, okB n) : l = nn (l.map Int.toNat) ∧ ∀ b ∈ l.map Int.toNat, b < 256 := by
  constructor
  · simp only [nn, List.map_map]
    conv => lhs; rw [← List.map_id l]
    refine List.map_congr_left (fun n hn => ?_)
    obtain ⟨h0, h1⟩ := wf_u8 (h n hn)
    simp
    omega
  · intro b hb
    obtain ⟨n, hn, rfl⟩ := List.mem_map.1 hb
    obtain ⟨h0, h1⟩ := wf_u8 (h n hn)
    omega
theorem sets_st {l : List Arr4} (h : ∀ s ∈ l, okS s) : l = (l.map pr).map st := by
  rw [List.map_map]
  conv => lhs; rw [← List.map_id l]
  refine List.map_congr_left (fun s hs => ?_)
  have ha := h s hs
  exact st_pr ha.1.1 ha.1.2 ha.2.1 ha.2.2
theorem bsetTells_true : Rows.BsetTellsCardSaid :=
  bsetTells_card fun l lo hi x hl hlo hhi hx => ⟨1000, by
    obtain ⟨l0, l1⟩ := wf_u8 hlo
    obtain ⟨h0, h1⟩ := wf_u8 hhi
    obtain ⟨e1, e2⟩ := bytes_nn hl.2
    rw [e1, sets_st hx.2, show lo = ((lo.toNat : Nat) : Int) by omega, show hi = ((hi.toNat : Nat) : Int) by omega]
    exact Tells_plain _ e2 _ _ (by omega) (by omega) _⟩
#print axioms bsetTells_true
end Go.Proofs.YtjgldamcldbbfaaDoor

/- The set of some bytes has just these: the program's law BsetBytes answers true for all bytes and every byte, and leaves its arguments as they read. Conditions: those of the given card (the table that it lists is tied to the program's text). -/
import Derived.Test.YtjgldamcldbbfaaDoorRowBytes
import Derived.Test.YtjgldamcldbbfaaDoorRpBB
namespace Go.Proofs.YtjgldamcldbbfaaDoor
open Go Go.Rv

theorem bytes_nn {l : List Int} (h : ∀ n ∈ l, okB n) : l = nn (l.map Int.toNat) ∧ ∀ b ∈ l.map Int.toNat, b < 256 := by
  constructor
  · simp only [nn, List.map_map]
    conv => lhs; rw [← List.map_id l]
    refine List.map_congr_left (fun n hn => ?_)
    obtain ⟨h0, h1⟩ := wf_u8 (h n hn)
    simp
    omega
  · intro b hb
    obtain ⟨n, hn, rfl⟩ := List.mem_map.1 hb
    obtain ⟨h0, h1⟩ := wf_u8 (h n hn)
    omega
theorem bsetBytes_true : Rows.BsetBytesCardSaid :=
  bsetBytes_card fun l x hl hx => ⟨1000, by
    obtain ⟨h0, h1⟩ := wf_u8 hx
    obtain ⟨e1, e2⟩ := bytes_nn hl.2
    rw [e1, show x = ((x.toNat : Nat) : Int) by omega]
    exact Bytes_plain _ e2 _ (by omega)⟩
#print axioms bsetBytes_true
end Go.Proofs.YtjgldamcldbbfaaDoor

/- SyntaxName, plainly: a name in braces is a Ref just if it is a name. -/
import Derived.Test.YtbepeoipaiahgaaRpSC
namespace Go.Rv
theorem ofBytes_nn (l : List Nat) : ofBytes (nn l) = toB l := by
  apply ByteArray.ext
  apply Array.ext'
  have : ∀ (l : List Nat) (r : ByteArray), ((nn l).foldl (fun r n => r.push (UInt8.ofNat n.toNat)) r).data.toList = r.data.toList ++ l.map UInt8.ofNat := by
    intro l
    induction l with
    | nil => intro r; simp [nn]
    | cons x l ih =>
      intro r
      rw [show nn (x :: l) = (x : Int) :: nn l from rfl, List.foldl_cons, ih]
      simp [ByteArray.push]
  have h := this l ByteArray.empty
  rw [ofBytes]
  rw [h]
  simp [toB]
/-- A pattern of one atom. -/
theorem PR.leaf1 {l : List Nat} {t : Pt} (n : Nat) (h40 : l.head? ≠ some 40) (h91 : l.head? ≠ some 91) (hst : stopN l = false) (h : pLeaf l = .ok t []) : PR (.alt n) l (.ok t []) := by
  have h1 : PR (.atom n) l (.ok t []) := h ▸ PR.atomL h40 h91
  have h2 : PR (.item n) l (.ok t []) := .item1 h1 (.itemR0 rfl)
  have h3 : PR (.row n) l (.ok t []) := .row1 (.rowR1 hst h2 (.rowR0 rfl))
  exact .alt1 h3 (.altR0 (by simp))
end Go.Rv

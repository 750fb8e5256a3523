/- Places, plainly, 6: the laws PlaceTells and PlaceOrder. -/
import Derived.Test.YtnedpcjnhkmikaaRpP5
namespace Go.Rv

theorem Of_both (x : List Int) (hb : isB x) (hl : x.length ≤ 900) (at_ : Int) : ∃ r, place_Of 1000 x at_ = some r ∧ raddleref19_Of 1000 x at_ = some r := by
  by_cases h : at_ < 0 ∨ (x.length : Int) < at_
  · exact ⟨_, Of_out 1000 x at_ h, rOf_out 1000 x at_ h⟩
  · have e : at_ = ((at_.toNat : Nat) : Int) := by omega
    rw [e]
    exact ⟨_, Of_spec 1000 x hb (by omega) (by omega) at_.toNat (by omega), rOf_spec 1000 x (by omega) (by omega) at_.toNat (by omega)⟩
theorem Tells_plain (p : api_Place) (hp : -9223372036854775808 ≤ p.Line ∧ p.Line < 9223372036854775808) (hc : -9223372036854775808 ≤ p.Col ∧ p.Col < 9223372036854775808) (w : List Int) (hw : isB w) (at_ : Int) : raddlelaw19_PlaceTells 1000 p w at_ = some true := by
  obtain ⟨x, f1, l1, e1⟩ := few_spec 1000 w
  have hx : isB x := by rw [e1]; exact isB_take hw _
  obtain ⟨r, o1, o2⟩ := Of_both x hx (by omega) at_
  have a1 := At_spec 1000 x hx (by omega) (by omega) p hp.2 hc.2
  have a2 := rAt_spec 1000 x (by omega) (by omega) p
  have n1 := Next_spec 1000 x hx (by omega) (by omega) p hp hc
  have n2 := rNext_spec 1000 x (by omega) (by omega) p
  rw [raddlelaw19_PlaceTells, f1, Option.bind_some, o1, Option.bind_some, o2, Option.bind_some, a1, Option.bind_some, a2, Option.bind_some, shown_true, Option.bind_some, cond_true, n1, Option.bind_some, n2, Option.bind_some]
  simp only [beq_self_eq_true, cond_true]
end Go.Rv

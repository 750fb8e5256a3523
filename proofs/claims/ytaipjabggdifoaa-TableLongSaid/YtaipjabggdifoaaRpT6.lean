/- TableEncodes, plainly. -/
import Derived.Test.YtaipjabggdifoaaRpT5
namespace Go.Rv
theorem shown_300 : raddlelaw14_shown 300 = some true := by kernel_rfl
theorem shown_at {K : Nat} (hK : 300 ≤ K) : raddlelaw14_shown K = some true := raddlelaw14_shown_le hK _ shown_300
def fewS (a : api_Auto) : api_Auto := if (a.States.length : Int) > 60 then ⟨⟨ArrN.mk fun _ => 0, 0⟩, [], []⟩ else a
theorem few_eq (K : Nat) (a : api_Auto) : raddlelaw14_few K a = some (fewS a) := by
  rw [raddlelaw14_few, fewS]
  by_cases h : (a.States.length : Int) > 60
  · rw [decide_eq_true h, if_pos h, cond_true]
  · rw [decide_eq_false h, if_neg h, cond_false]
theorem few_okay {a : api_Auto} (h : Okay a) : Okay (fewS a) := by
  rw [fewS]
  split
  · exact ⟨fun i _ => ⟨by simp, by simp⟩, by simp, by simp, fun s hs => by cases hs⟩
  · exact h
end Go.Rv

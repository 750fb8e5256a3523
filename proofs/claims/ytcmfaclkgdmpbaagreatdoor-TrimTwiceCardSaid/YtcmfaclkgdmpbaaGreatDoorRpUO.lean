/- TrimLive, plainly. -/
import Derived.Test.YtcmfaclkgdmpbaaGreatDoorRpUN
namespace Go.Rv
def fewS (a : Ql) : Ql := if (a.States.length : Int) > 60 then noA else a
theorem few_eq (K : Nat) (a : Ql) : Mf K a = some (fewS a) := by
 rw [Mf, fewS]
 by_cases h : (a.States.length : Int) > 60
 ·rw [decide_eq_true h, if_pos h, cT]; rfl
 ·rw [decide_eq_false h, if_neg h, cF]
theorem few_okay {a : Ql} (h : Okay a) : Okay (fewS a) := by
 rw [fewS]
 split
 ·exact ⟨fun i _ => ⟨by simp [noA], by simp [noA]⟩, by simp [noA], by simp [noA], fun s hs => by cases hs⟩
 ·exact h
end Go.Rv

/- TrimLive, plainly. -/
import Derived.Test.YtcmfaclkgdmpbaaGreatDoorRpUN
namespace Go.Rv
def fewS (a : Qc) : Qc := if (a.States.length : Int) > 60 then noA else a
theorem few_eq (K : Nat) (a : Qc) : Mv K a = some (fewS a) := by
 rw [Mv, fewS]
 by_cases h : (a.States.length : Int) > 60
 ·rw [Qmk h, if_pos h, cT]; rfl
 ·rw [Qme h, if_neg h, cF]
theorem few_okay {a : Qc} (h : Okay a) : Okay (fewS a) := by
 rw [fewS]
 split
 ·exact ⟨fun i _ => ⟨by simp [noA], by simp [noA]⟩, by simp [noA], by simp [noA], fun s hs => by cases hs⟩
 ·exact h
def Tr (l : List Bool) (m : Qd) : Bool := decide (0 ≤ m.To) && l.getD m.To.toNat false
def restL (l : List Bool) (s : Qa) (j : Nat) : Bool := (s.Rule.drop j).any (fun r => decide (r ≥ 0)) || (s.Next.drop j).flatten.any (Tr l)
end Go.Rv

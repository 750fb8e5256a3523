/- TableEncodes, plainly. -/
import Derived.Test.YtaipjabggdifoaaRpT5
namespace Go.Rv
theorem shown_300 : raddlelaw14_shown 300 = some true := by kernel_rfl
theorem shown_at {K : Nat} (hK : 300 ≤ K) : raddlelaw14_shown K = some true := raddlelaw14_shown_le hK _ shown_300
def fewS (a : api_Auto) : api_Auto := if (a.States.length : Int) > 60 then ⟨⟨ArrN.mk fun _ => 0, 0⟩, [], []⟩ else a
theorem few_eq (K : Nat) (a : api_Auto) : raddlelaw14_few K a = some (fewS a) := by
  rw [raddlelaw14_few, fewS]
  by_cases h : (a.States.length : Int) > 60
  · rw [decide_eq_true h, if_pos h, cond_true]
  · rw [decide_eq_false h, if_neg h, cond_false]
theorem few_okay {a : api_Auto} (h : Okay a) : Okay (fewS a) := by
  rw [fewS]
  split
  · exact ⟨fun i _ => ⟨by simp, by simp⟩, by simp, by simp, fun s hs => by cases hs⟩
  · exact h
theorem Encodes_plain (a : api_Auto) (b : List Int) (n : Int) (ha : Okay a) (hn : fits n) : ∃ K, raddlelaw14_TableEncodes K a b n = some true := by
  refine ⟨needK (fewS a), ?_⟩
  have hK := big_need (fewS a) (Nat.le_refl _)
  obtain ⟨h1, h2⟩ := encode_both _ _ (few_okay ha) hK
  have h300 := hK.1
  generalize needK (fewS a) = K at *
  have hm : ∃ m : Nat, (if (20 : Int) < (b.length : Int) then (20 : Int) else (b.length : Int)) = (m : Int) ∧ m ≤ b.length ∧ m ≤ 20 := by
    split
    · exact ⟨20, rfl, by omega, by omega⟩
    · exact ⟨b.length, rfl, by omega, by omega⟩
  obtain ⟨m, hm, hm1, hm2⟩ := hm
  have hl : ((b.take m).drop 0).length + (numB n).length ≤ LIM := by
    have := numB_len n
    rw [List.drop_zero, List.length_take]
    simp only [LIM]
    omega
  rw [raddlelaw14_TableEncodes, few_eq, Option.bind_some, h1, Option.bind_some, h2, Option.bind_some, hm, Int.toNat_natCast, ck_pos ⟨by omega, by omega, by omega⟩, shown_at h300, Option.bind_some]
  simp only [cond_true, beq_self_eq_true]
  rw [autoNumber K (by omega) _ n hn hl, Option.bind_some, refNumber K (by omega) _ n hn hl, Option.bind_some, beq_self_eq_true]
end Go.Rv

/- The parser, plainly, 6: it answers what the text is read as (the induction). -/
import Derived.Test.YtocjhbbldeankaaDoorRpSM
namespace Go.Rv
theorem roomy8 {n : Nat} (h : n ≤ 100000) : roomy 8 (n + 1) = true := by
  rw [roomy_iff]
  simp only [maxLen]
  omega
theorem rows_shape {g : Goal} {l : List Nat} {res : Re Pt} (h : PR g l res) : ∀ {n f r}, g = .rowR n ∨ g = .altR n → res = .ok f r → f = .nil ∨ ∃ t g, f = .cons t g ∧ (g = .nil ∨ ∃ t' g', g = .cons t' g') := by
  induction h with
  | altR0 => intro _ _ _ _ h; cases h; exact .inl rfl
  | altR1 _ _ _ ih =>
    intro _ _ _ _ h
    cases h
    refine .inr ⟨_, _, rfl, ?_⟩
    rcases ih (.inr rfl) rfl with h | ⟨t, g, h, _⟩
    · exact .inl h
    · exact .inr ⟨t, g, h⟩
  | rowR0 => intro _ _ _ _ h; cases h; exact .inl rfl
  | rowR1 _ _ _ _ ih =>
    intro _ _ _ _ h
    cases h
    refine .inr ⟨_, _, rfl, ?_⟩
    rcases ih (.inl rfl) rfl with h | ⟨t, g, h, _⟩
    · exact .inl h
    · exact .inr ⟨t, g, h⟩
  | altRE => intro _ _ _ _ h; cases h
  | altRE2 => intro _ _ _ _ h; cases h
  | rowRE => intro _ _ _ _ h; cases h
  | rowRE2 => intro _ _ _ _ h; cases h
  | _ => intro _ _ _ h; rcases h with h | h <;> cases h
end Go.Rv

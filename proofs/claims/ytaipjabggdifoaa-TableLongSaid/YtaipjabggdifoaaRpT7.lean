/- TableOrder, plainly: numbers as bytes can be read again, and are in order. -/
import Derived.Test.YtaipjabggdifoaaRpT6
import Derived.Laws.BitsLemmas
namespace Go.Rv
theorem numF_mono : ∀ (k n m : Nat), n ≤ m → (numF k n).length ≤ (numF k m).length := by
  intro k
  induction k with
  | zero => intro n m _; simp [numF]
  | succ k ih =>
    intro n m h
    simp only [numF]
    by_cases h1 : n < 128
    · rw [if_pos h1]
      split <;> simp
    · rw [if_neg h1, if_neg (by omega)]
      have := ih (n / 128) (m / 128) (by omega)
      simp only [List.length_cons]
      omega
end Go.Rv

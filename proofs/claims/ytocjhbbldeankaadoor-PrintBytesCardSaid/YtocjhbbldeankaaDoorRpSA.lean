/- Sets of bytes, plainly: four numbers of 64 bits as a predicate on bytes; Of, Range, Or, Not, and the document's Of. -/
import Derived.Test.YtocjhbbldeankaaDoorRgP
namespace Go.Rv
/-- The number whose low bits are p's. -/
def wd : Nat → (Nat → Bool) → Nat
  | 0, _ => 0
  | n + 1, p => (p 0).toNat + 2 * wd n (fun i => p (i + 1))
theorem wd_bit : ∀ (n : Nat) (p : Nat → Bool) (j : Nat), (wd n p).testBit j = (decide (j < n) && p j)
  | 0, p, j => by simp [wd]
  | n + 1, p, 0 => by
    have : ((p 0).toNat + 2 * wd n (fun i => p (i + 1))) % 2 = (p 0).toNat := by cases p 0 <;> simp <;> omega
    simp only [wd, Nat.testBit_zero, this]
    cases p 0 <;> simp
  | n + 1, p, j + 1 => by
    have h2 : ((p 0).toNat + 2 * wd n (fun i => p (i + 1))) / 2 = wd n (fun i => p (i + 1)) := by cases p 0 <;> simp <;> omega
    rw [wd, Nat.testBit_succ, h2, wd_bit n _ j]
    simp
theorem eq_wd {n : Nat} {x : Nat} {p : Nat → Bool} (hx : x < 2 ^ n) (h : ∀ j, j < n → x.testBit j = p j) : x = wd n p := by
  apply Nat.eq_of_testBit_eq
  intro j
  rw [wd_bit]
  by_cases hj : j < n
  · simp [hj, h j hj]
  · simp only [hj, decide_false, Bool.false_and]
    exact Nat.testBit_lt_two_pow (Nat.lt_of_lt_of_le hx (Nat.pow_le_pow_right (by decide) (by omega)))
/-- A word of a set. -/
def wdi (p : Nat → Bool) (i : Nat) : Nat := wd 64 (fun j => p (64 * i + j))
theorem wdi_bit (p : Nat → Bool) (i j : Nat) (hj : j < 64) : (wdi p i).testBit j = p (64 * i + j) := by simp [wdi, wd_bit, hj]
theorem eq_wdi {x i : Nat} {p : Nat → Bool} (hx : x < 18446744073709551616) (h : ∀ j, j < 64 → x.testBit j = p (64 * i + j)) : x = wdi p i := eq_wd (n := 64) hx h
/-- The set of the bytes of which p holds. -/
def st (p : Nat → Bool) : Arr4 := ⟨(wdi p 0 : Nat), (wdi p 1 : Nat), (wdi p 2 : Nat), (wdi p 3 : Nat)⟩
theorem st_get (p : Nat → Bool) {i : Nat} (hi : i < 4) : (st p).get (i : Int) = (wdi p i : Nat) := by
  match i, hi with
  | 0, _ => rfl
  | 1, _ => rfl
  | 2, _ => rfl
  | 3, _ => rfl
theorem st_inj {p q : Nat → Bool} (h : st p = st q) : ∀ b, b < 256 → p b = q b := by
  intro b hb
  have hg : (st p).get ((b / 64 : Nat) : Int) = (st q).get ((b / 64 : Nat) : Int) := by rw [h]
  rw [st_get p (by omega), st_get q (by omega)] at hg
  have h1 := wdi_bit p (b / 64) (b % 64) (by omega)
  have h2 := wdi_bit q (b / 64) (b % 64) (by omega)
  have hn : wdi p (b / 64) = wdi q (b / 64) := by exact_mod_cast hg
  rw [hn, h2] at h1
  rw [Nat.div_add_mod] at h1
  exact h1.symm
theorem wf_u8 {n : Int} (h : (Lit.int .u8 n).wf = true) : 0 ≤ n ∧ n < 256 := by
  simp [Lit.wf, IntKind.min, IntKind.max, IntKind.signed, IntKind.bits] at h
  omega
theorem st_none : (⟨0, 0, 0, 0⟩ : Arr4) = st (fun _ => false) := by
  have : ∀ i, wdi (fun _ => false) i = 0 := fun i => (eq_wdi (by decide) (fun j _ => by simp)).symm
  simp [st, this]
theorem ck_pos {β : Type} {p : Prop} [Decidable p] {f : Unit → Option β} (h : p) : (ck p).bind f = f () := by simp [ck, h]
end Go.Rv

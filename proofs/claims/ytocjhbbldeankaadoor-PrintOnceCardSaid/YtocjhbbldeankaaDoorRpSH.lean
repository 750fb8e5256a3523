/- Patterns, plainly: every text is read as something. -/
import Derived.Test.YtocjhbbldeankaaDoorRpSG
namespace Go.Rv
theorem spans_shape {g : Goal} {l : List Nat} {res : Re Pt} (h : PR g l res) : ∀ {first p t r}, g = .spans first p → res = .ok t r → ∃ q, t = .set (st q) ∧ r.head? = some 93 := by
 induction h with
 | @spans0 p l h0 => intro _ _ _ _ _ h2; cases h2; exact ⟨p, rfl, h0⟩
 | spansE => intro _ _ _ _ _ h2; cases h2
 | spans1 _ _ _ ih => intro _ _ _ _ _ h2; exact ih rfl h2
 | _ => intro _ _ _ _ h1; cases h1
theorem total_spans : ∀ (m : Nat) (l : List Nat), l.length ≤ m → ∀ first p, ∃ res, PR (.spans first p) l res := by
 intro m
 induction m with
 | zero =>
  intro l hl first p
  have : l = [] := List.eq_nil_of_length_eq_zero (by omega)
  subst this
  exact ⟨_, .spansE (k := 40) (w := []) (by simp) rfl⟩
 | succ m ih =>
  intro l hl first p
  by_cases h0 : first = false ∧ l.head? = some 93
  ·obtain ⟨rfl, h0⟩ := h0
   exact ⟨_, .spans0 h0⟩
  ·have h1 : first = false → l.head? ≠ some 93 := fun hf hh => h0 ⟨hf, hh⟩
   cases hs : pSpan l with
   | err k w => exact ⟨_, .spansE h1 hs⟩
   | ok x r =>
    have := pSpan_ok hs
    obtain ⟨lo, hi⟩ := x
    obtain ⟨res, h2⟩ := ih r (by omega) false (fun c => p c || (decide (lo ≤ c) && decide (c ≤ hi)))
    exact ⟨res, .spans1 h1 hs h2⟩
theorem total_itemR : ∀ (m : Nat) (l : List Nat), l.length ≤ m → ∀ t, ∃ res, PR (.itemR t) l res := by
 intro m
 induction m with
 | zero =>
  intro l hl t
  have : l = [] := List.eq_nil_of_length_eq_zero (by omega)
  subst this
  exact ⟨_, .itemR0 rfl⟩
 | succ m ih =>
  intro l hl t
  cases h : pTimes l with
  | none => exact ⟨_, .itemR0 h⟩
  | some x =>
   cases x with
   | err k w => exact ⟨_, .itemRE h⟩
   | ok x r =>
    have := pTimes_ok h
    obtain ⟨lo, hi⟩ := x
    obtain ⟨res, h2⟩ := ih r (by omega) (.rep t lo hi)
    exact ⟨res, .itemR1 h h2⟩
theorem total_atom (n : Nat) (ha : ∀ n', n = n' + 1 → ∀ l, ∃ res, PR (.alt n') l res) (l : List Nat) : ∃ res, PR (.atom n) l res := by
 by_cases h1 : l.head? = some 40
 ·obtain ⟨r, rfl⟩ : ∃ r, l = 40 :: r := by
   cases l with
   | nil => cases h1
   | cons c r => simp at h1; exact ⟨r, by rw [h1]⟩
  cases n with
  | zero => exact ⟨_, .atomG0⟩
  | succ n =>
   obtain ⟨res, h⟩ := ha n rfl r
   cases res with
   | err k w => exact ⟨_, .atomGE h⟩
   | ok t r =>
    cases r with
    | nil => exact ⟨_, .atomGE2 h⟩
    | cons c r => exact ⟨_, .atomG h⟩
 ·by_cases h2 : l.head? = some 91
  ·obtain ⟨r, rfl⟩ : ∃ r, l = 91 :: r := by
    cases l with
    | nil => cases h2
    | cons c r => simp at h2; exact ⟨r, by rw [h2]⟩
   obtain ⟨res, h⟩ := total_spans _ (clsHead r).2 (Nat.le_refl _) true (fun _ => false)
   cases res with
   | err k w => exact ⟨_, .atomC h⟩
   | ok t r' =>
    obtain ⟨q, rfl, hh⟩ := spans_shape h rfl rfl
    cases r' with
    | nil => cases hh
    | cons c r' =>
     by_cases hz : st (notS (clsHead r).1 q) = z4
     ·exact ⟨_, .atomC0 h hz⟩
     ·exact ⟨_, .atomC1 h hz⟩
  ·exact ⟨_, .atomL h1 h2⟩
theorem total_item (n : Nat) (ha : ∀ n', n = n' + 1 → ∀ l, ∃ res, PR (.alt n') l res) (l : List Nat) : ∃ res, PR (.item n) l res := by
 obtain ⟨res, h⟩ := total_atom n ha l
 cases res with
 | err k w => exact ⟨_, .itemE h⟩
 | ok t r =>
  obtain ⟨res, h2⟩ := total_itemR _ r (Nat.le_refl _) t
  exact ⟨res, .item1 h h2⟩
theorem total_rowR (n : Nat) (ha : ∀ n', n = n' + 1 → ∀ l, ∃ res, PR (.alt n') l res) : ∀ (m : Nat) (l : List Nat), l.length ≤ m → ∃ res, PR (.rowR n) l res := by
 intro m
 induction m with
 | zero =>
  intro l hl
  have : l = [] := List.eq_nil_of_length_eq_zero (by omega)
  subst this
  exact ⟨_, .rowR0 rfl⟩
 | succ m ih =>
  intro l hl
  cases hs : stopN l with
  | true => exact ⟨_, .rowR0 hs⟩
  | false =>
   obtain ⟨res, h⟩ := total_item n ha l
   cases res with
   | err k w => exact ⟨_, .rowRE hs h⟩
   | ok t r =>
    have := short h
    simp only [Short] at this
    obtain ⟨res, h2⟩ := ih r (by omega)
    cases res with
    | err k w => exact ⟨_, .rowRE2 hs h h2⟩
    | ok f r' => exact ⟨_, .rowR1 hs h h2⟩
theorem total_row (n : Nat) (ha : ∀ n', n = n' + 1 → ∀ l, ∃ res, PR (.alt n') l res) (l : List Nat) : ∃ res, PR (.row n) l res := by
 obtain ⟨res, h⟩ := total_rowR n ha _ l (Nat.le_refl _)
 cases res with
 | err k w => exact ⟨_, .rowE h⟩
 | ok f r => exact ⟨_, .row1 h⟩
theorem total_altR (n : Nat) (ha : ∀ n', n = n' + 1 → ∀ l, ∃ res, PR (.alt n') l res) : ∀ (m : Nat) (l : List Nat), l.length ≤ m → ∃ res, PR (.altR n) l res := by
 intro m
 induction m with
 | zero =>
  intro l hl
  have : l = [] := List.eq_nil_of_length_eq_zero (by omega)
  subst this
  exact ⟨_, .altR0 (by simp)⟩
 | succ m ih =>
  intro l hl
  by_cases hs : l.head? = some 124
  ·obtain ⟨l, rfl⟩ : ∃ r, l = 124 :: r := by
    cases l with
    | nil => cases hs
    | cons c r => simp at hs; exact ⟨r, by rw [hs]⟩
   obtain ⟨res, h⟩ := total_row n ha l
   cases res with
   | err k w => exact ⟨_, .altRE h⟩
   | ok t r =>
    have := short h
    simp only [Short] at this
    simp only [List.length_cons] at hl
    obtain ⟨res, h2⟩ := ih r (by omega)
    cases res with
    | err k w => exact ⟨_, .altRE2 h h2⟩
    | ok f r' => exact ⟨_, .altR1 h h2⟩
  ·exact ⟨_, .altR0 hs⟩
theorem total_alt0 (n : Nat) (ha : ∀ n', n = n' + 1 → ∀ l, ∃ res, PR (.alt n') l res) (l : List Nat) : ∃ res, PR (.alt n) l res := by
 obtain ⟨res, h⟩ := total_row n ha l
 cases res with
 | err k w => exact ⟨_, .altE h⟩
 | ok t r =>
  obtain ⟨res, h2⟩ := total_altR n ha _ r (Nat.le_refl _)
  cases res with
  | err k w => exact ⟨_, .altE2 h h2⟩
  | ok f r' => exact ⟨_, .alt1 h h2⟩
theorem total : ∀ (n : Nat) (l : List Nat), ∃ res, PR (.alt n) l res := by
 intro n
 induction n with
 | zero => exact total_alt0 0 (fun n' h => by omega)
 | succ n ih =>
  refine total_alt0 (n + 1) (fun n' h => ?_)
  have : n' = n := by omega
  subst this
  exact ih
end Go.Rv

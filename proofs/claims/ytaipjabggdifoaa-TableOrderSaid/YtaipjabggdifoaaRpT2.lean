/- Automata, plainly: both layers' Right is one. -/
import Derived.Test.YtaipjabggdifoaaRpT1
namespace Go.Rv
def allB (p : Nat → Bool) : Nat → Nat → Bool
  | 0, _ => true
  | m + 1, i => p i && allB p m (i + 1)
theorem allB_iff {p : Nat → Bool} : ∀ {m i : Nat}, allB p m i = true ↔ ∀ j, i ≤ j → j < i + m → p j = true := by
  intro m
  induction m with
  | zero => intro i; simp [allB]; omega
  | succ m ih =>
    intro i
    simp only [allB, Bool.and_eq_true, ih]
    constructor
    · rintro ⟨h0, h1⟩ j h2 h3
      by_cases h : j = i
      · subst h; exact h0
      · exact h1 j (by omega) (by omega)
    · intro h
      exact ⟨h i (by omega) (by omega), fun j h2 h3 => h j (by omega) (by omega)⟩
def stR (a : api_Auto) (m : api_Move) : List Int := ((a.States[m.To.toNat]?).map (·.R)).getD []
def opP (a : api_Auto) (s : api_State) (m : api_Move) (i : Nat) : Bool := decide (1 ≤ m.Ops.getD i 0) && (decide (m.Ops.getD i 0 ≤ 3) && (m.Ops.getD i 0 == 3 || s.R.contains ((stR a m).getD i 0)))
def moveP (a : api_Auto) (s : api_State) (m : api_Move) : Bool :=
  if m.To = -1 then m.Ops.length == 0 else decide (1 ≤ m.To) && (decide (m.To < a.States.length) && (m.Ops.length == (stR a m).length && allB (opP a s m) m.Ops.length 0))
def rowP (a : api_Auto) (s : api_State) (c : Nat) : Bool :=
  decide (-1 ≤ s.Rule.getD c 0) && (decide (s.Rule.getD c 0 < 512) && (((s.Next.getD c []).length : Int) == a.Split.Many && allB (fun k => moveP a s ((s.Next.getD c []).getD k ⟨0, []⟩)) (s.Next.getD c []).length 0))
def stateP (a : api_Auto) (s : api_State) : Bool :=
  !(codesS s.R.length == 0) && (((s.Rule.length : Int) == codesS s.R.length) && (((s.Next.length : Int) == codesS s.R.length) && (risesS s.L 512 && (risesS s.R a.Counts.length && allB (rowP a s) s.Next.length 0))))
def cntP (c : Arr2) : Bool := !(decide (c.a0 < 1)) && (!(decide (c.a0 > c.a1)) && (!(decide (c.a1 < 2)) && !(decide (c.a1 > 4096))))
theorem getD_lt {α : Type} {l : List α} {i : Nat} {d : α} (h : i < l.length) : l.getD i d = l[i] := by simp [List.getD, h]
/-- Lengths that a machine may have. -/
structure Okay (a : api_Auto) : Prop where
  split : ∀ i, i < 256 → 0 ≤ a.Split.Of.f i ∧ a.Split.Of.f i < 256
  counts : a.Counts.length ≤ 9223372036854775807
  states : a.States.length ≤ 9223372036854775807
  st : ∀ s ∈ a.States, s.L.length ≤ 9223372036854775807 ∧ s.R.length ≤ 9223372036854775807 ∧ s.Rule.length ≤ 9223372036854775807 ∧ s.Next.length ≤ 9223372036854775807 ∧ ∀ r ∈ s.Next, r.length ≤ 9223372036854775807 ∧ ∀ m ∈ r, m.Ops.length ≤ 9223372036854775807

/-- How much fuel is enough. -/
def bigOf (a : api_Auto) (K : Nat) : Prop := 300 ≤ K ∧ a.Counts.length < K ∧ a.States.length < K ∧ ∀ s ∈ a.States, s.L.length < K ∧ s.R.length < K ∧ s.Next.length < K ∧ ∀ r ∈ s.Next, r.length < K ∧ ∀ m ∈ r, m.Ops.length < K

end Go.Rv

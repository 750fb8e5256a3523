/- Automata, plainly: both layers' Right is one. -/
import Derived.Test.YtaipjabggdifoaaRpT1
namespace Go.Rv
def allB (p : Nat → Bool) : Nat → Nat → Bool
  | 0, _ => true
  | m + 1, i => p i && allB p m (i + 1)
theorem allB_iff {p : Nat → Bool} : ∀ {m i : Nat}, allB p m i = true ↔ ∀ j, i ≤ j → j < i + m → p j = true := by
  intro m
  induction m with
  | zero => intro i; simp [allB]; omega
  | succ m ih =>
    intro i
    simp only [allB, Bool.and_eq_true, ih]
    constructor
    · rintro ⟨h0, h1⟩ j h2 h3
      by_cases h : j = i
      · subst h; exact h0
      · exact h1 j (by omega) (by omega)
    · intro h
      exact ⟨h i (by omega) (by omega), fun j h2 h3 => h j (by omega) (by omega)⟩
theorem allLoop {β : Type} (F : Nat → Nat → Option β) (n : Nat) (p : Nat → Bool) (fin bad : Option β) (hs : ∀ k i, i < n → F (k + 1) i = if p i = true then F k (i + 1) else bad) (he : ∀ k, F (k + 1) n = fin) :
    ∀ (m k i : Nat), n - i = m → i ≤ n → m < k → F k i = if allB p m i = true then fin else bad := by
  intro m
  induction m with
  | zero =>
    intro k i hm hi hk
    obtain ⟨k, rfl⟩ : ∃ k', k = k' + 1 := ⟨k - 1, by omega⟩
    have : i = n := by omega
    subst this
    rw [he]
    simp [allB]
  | succ m ih =>
    intro k i hm hi hk
    obtain ⟨k, rfl⟩ : ∃ k', k = k' + 1 := ⟨k - 1, by omega⟩
    rw [hs k i (by omega), ih k (i + 1) (by omega) (by omega) (by omega)]
    cases hp : p i with
    | true => simp [allB, hp]
    | false => simp [allB, hp]
def stR (a : api_Auto) (m : api_Move) : List Int := ((a.States[m.To.toNat]?).map (·.R)).getD []
def opP (a : api_Auto) (s : api_State) (m : api_Move) (i : Nat) : Bool := decide (1 ≤ m.Ops.getD i 0) && (decide (m.Ops.getD i 0 ≤ 3) && (m.Ops.getD i 0 == 3 || s.R.contains ((stR a m).getD i 0)))
def moveP (a : api_Auto) (s : api_State) (m : api_Move) : Bool :=
  if m.To = -1 then m.Ops.length == 0 else decide (1 ≤ m.To) && (decide (m.To < a.States.length) && (m.Ops.length == (stR a m).length && allB (opP a s m) m.Ops.length 0))
def rowP (a : api_Auto) (s : api_State) (c : Nat) : Bool :=
  decide (-1 ≤ s.Rule.getD c 0) && (decide (s.Rule.getD c 0 < 512) && (((s.Next.getD c []).length : Int) == a.Split.Many && allB (fun k => moveP a s ((s.Next.getD c []).getD k ⟨0, []⟩)) (s.Next.getD c []).length 0))
def stateP (a : api_Auto) (s : api_State) : Bool :=
  !(codesS s.R.length == 0) && (((s.Rule.length : Int) == codesS s.R.length) && (((s.Next.length : Int) == codesS s.R.length) && (risesS s.L 512 && (risesS s.R a.Counts.length && allB (rowP a s) s.Next.length 0))))
def cntP (c : Arr2) : Bool := !(decide (c.a0 < 1)) && (!(decide (c.a0 > c.a1)) && (!(decide (c.a1 < 2)) && !(decide (c.a1 > 4096))))
def rightP (a : api_Auto) : Bool :=
  splitS a.Split && (!(decide ((a.Counts.length : Int) > 512)) && (!(decide ((a.States.length : Int) < 1)) && (!(decide ((a.States.length : Int) > 256)) && ((((a.States.getD 0 ⟨[], [], [], []⟩).L.length == 0) && ((a.States.getD 0 ⟨[], [], [], []⟩).R.length == 0)) &&
    (allB (fun i => cntP (a.Counts.getD i ⟨0, 0⟩)) a.Counts.length 0 && allB (fun i => stateP a (a.States.getD i ⟨[], [], [], []⟩)) a.States.length 0)))))

theorem getD_lt {α : Type} {l : List α} {i : Nat} {d : α} (h : i < l.length) : l.getD i d = l[i] := by simp [List.getD, h]
/-- Lengths that a machine may have. -/
structure Okay (a : api_Auto) : Prop where
  split : ∀ i, i < 256 → 0 ≤ a.Split.Of.f i ∧ a.Split.Of.f i < 256
  counts : a.Counts.length ≤ 9223372036854775807
  states : a.States.length ≤ 9223372036854775807
  st : ∀ s ∈ a.States, s.L.length ≤ 9223372036854775807 ∧ s.R.length ≤ 9223372036854775807 ∧ s.Rule.length ≤ 9223372036854775807 ∧ s.Next.length ≤ 9223372036854775807 ∧ ∀ r ∈ s.Next, r.length ≤ 9223372036854775807 ∧ ∀ m ∈ r, m.Ops.length ≤ 9223372036854775807

/-- How much fuel is enough. -/
def bigOf (a : api_Auto) (K : Nat) : Prop := 300 ≤ K ∧ a.Counts.length < K ∧ a.States.length < K ∧ ∀ s ∈ a.States, s.L.length < K ∧ s.R.length < K ∧ s.Next.length < K ∧ ∀ r ∈ s.Next, r.length < K ∧ ∀ m ∈ r, m.Ops.length < K

theorem autoMove (K : Nat) (a : api_Auto) (s : api_State) (m : api_Move) (hK : bigOf a K) (hs : s.R.length < K ∧ s.R.length ≤ 9223372036854775807) (hm : m.Ops.length < K ∧ m.Ops.length ≤ 9223372036854775807) : auto_checker_move K ⟨a⟩ s m = some (moveP a s m) := by
  rw [auto_checker_move, moveP]
  by_cases h1 : m.To = -1
  · have e1 : (m.To == -1) = true := by simp [h1]
    simp only [e1, cond_true, if_pos h1]
    refine congrArg some ?_
    by_cases h : m.Ops.length = 0
    · simp [h]
    · have f1 : ((m.Ops.length : Int) == 0) = false := beq_eq_false_iff_ne.2 (by omega)
      have f2 : (m.Ops.length == 0) = false := beq_eq_false_iff_ne.2 h
      rw [f1, f2]
  · have e1 : (m.To == -1) = false := by simp [h1]
    simp only [e1, cond_false, if_neg h1]
    by_cases h2 : m.To < 1
    · have e2 : decide (m.To < 1) = true := by simp [h2]
      have e3 : decide (1 ≤ m.To) = false := by simp; omega
      simp [e2, e3, auto_checker_move_j0]
    · have e2 : decide (m.To < 1) = false := by simp; omega
      have e3 : decide (1 ≤ m.To) = true := by simp; omega
      simp only [e2, cond_false, e3, Bool.true_and]
      by_cases h3 : m.To ≥ (a.States.length : Int)
      · have e4 : decide (m.To ≥ (a.States.length : Int)) = true := by simp [h3]
        have e5 : decide (m.To < (a.States.length : Int)) = false := by simp; omega
        simp [e4, e5, auto_checker_move_j0]
      · have e4 : decide (m.To ≥ (a.States.length : Int)) = false := by simp; omega
        have e5 : decide (m.To < (a.States.length : Int)) = true := by simp; omega
        have hto : m.To.toNat < a.States.length := by omega
        have hg : geti a.States m.To = some a.States[m.To.toNat] := by
          have := geti_nat hto
          rwa [Int.toNat_of_nonneg (by omega)] at this
        have hR : stR a m = a.States[m.To.toNat].R := by simp [stR, hto]
        simp only [e4, cond_false, e5, Bool.true_and, hg, Option.bind_some]
        rw [← hR]
        by_cases h6 : m.Ops.length = (stR a m).length
        · have e6 : ((m.Ops.length : Int) != ((stR a m).length : Int)) = false := by simp [h6]
          have e7 : (m.Ops.length == (stR a m).length) = true := by simp [h6]
          simp only [e6, cond_false, e7, Bool.true_and]
          have := allLoop (fun k i => auto_checker_move_l1 K k m (m.Ops.length : Int) (i : Int) ⟨a⟩ s) m.Ops.length (opP a s m) (some true) (some false) (fun k i hi => by
            have hi2 : i < (stR a m).length := by omega
            have hi3 : i < a.States[m.To.toNat].R.length := by rw [← hR]; exact hi2
            rw [auto_checker_move_l1]
            simp only [dl_true hi, cond_true, geti_nat hi, Option.bind_some, w64s (n := i) (by omega), opP, getD_lt hi, getD_lt hi2, hg, geti_nat hi3]
            by_cases g1 : m.Ops[i] < 1
            · have f1 : decide (m.Ops[i] < 1) = true := by simp [g1]
              have f2 : decide (1 ≤ m.Ops[i]) = false := by simp; omega
              simp [f1, f2, auto_checker_move_j2]
            · have f1 : decide (m.Ops[i] < 1) = false := by simp; omega
              have f2 : decide (1 ≤ m.Ops[i]) = true := by simp; omega
              simp only [f1, cond_false, f2, Bool.true_and]
              by_cases g2 : m.Ops[i] > 3
              · have f3 : decide (m.Ops[i] > 3) = true := by simp [g2]
                have f4 : decide (m.Ops[i] ≤ 3) = false := by simp; omega
                simp [f3, f4, auto_checker_move_j2]
              · have f3 : decide (m.Ops[i] > 3) = false := by simp; omega
                have f4 : decide (m.Ops[i] ≤ 3) = true := by simp; omega
                simp only [f3, cond_false, f4, Bool.true_and]
                by_cases g3 : m.Ops[i] = 3
                · simp [g3]
                · have f5 : (m.Ops[i] != 3) = true := by simp [g3]
                  have f6 : (m.Ops[i] == 3) = false := by simp [g3]
                  have hR2 : a.States[m.To.toNat].R[i] = (stR a m)[i] := by simp only [hR]
                  simp only [f5, cond_true, f6, Bool.false_or, slContains K s.R _ hs.2 hs.1, Option.bind_some, hR2]
                  cases s.R.contains (stR a m)[i] <;> simp [auto_checker_move_j2]) (fun k => by rw [auto_checker_move_l1]; simp only [dl_false (Nat.le_refl _), cond_false]) m.Ops.length K 0 (by omega) (by omega) hm.1
          simp only [Int.natCast_zero] at this
          rw [this]
          cases allB (opP a s m) m.Ops.length 0 <;> simp
        · have e6 : ((m.Ops.length : Int) != ((stR a m).length : Int)) = true := by simp; omega
          have e7 : (m.Ops.length == (stR a m).length) = false := by simp [h6]
          simp [e6, e7, auto_checker_move_j0]
theorem refMove (K : Nat) (a : api_Auto) (s : api_State) (m : api_Move) (hK : bigOf a K) (hs : s.R.length < K ∧ s.R.length ≤ 9223372036854775807) (hm : m.Ops.length < K ∧ m.Ops.length ≤ 9223372036854775807) : raddleref11_move K a s m = some (moveP a s m) := by
  rw [raddleref11_move, moveP]
  by_cases h1 : m.To = -1
  · have e1 : (m.To == -1) = true := by simp [h1]
    simp only [e1, cond_true, if_pos h1]
    refine congrArg some ?_
    by_cases h : m.Ops.length = 0
    · simp [h]
    · have f1 : ((m.Ops.length : Int) == 0) = false := beq_eq_false_iff_ne.2 (by omega)
      have f2 : (m.Ops.length == 0) = false := beq_eq_false_iff_ne.2 h
      rw [f1, f2]
  · have e1 : (m.To == -1) = false := by simp [h1]
    simp only [e1, cond_false, if_neg h1]
    by_cases h2 : m.To < 1
    · have e2 : decide (m.To < 1) = true := by simp [h2]
      have e3 : decide (1 ≤ m.To) = false := by simp; omega
      simp [e2, e3, raddleref11_move_j0]
    · have e2 : decide (m.To < 1) = false := by simp; omega
      have e3 : decide (1 ≤ m.To) = true := by simp; omega
      simp only [e2, cond_false, e3, Bool.true_and]
      by_cases h3 : m.To ≥ (a.States.length : Int)
      · have e4 : decide (m.To ≥ (a.States.length : Int)) = true := by simp [h3]
        have e5 : decide (m.To < (a.States.length : Int)) = false := by simp; omega
        simp [e4, e5, raddleref11_move_j0]
      · have e4 : decide (m.To ≥ (a.States.length : Int)) = false := by simp; omega
        have e5 : decide (m.To < (a.States.length : Int)) = true := by simp; omega
        have hto : m.To.toNat < a.States.length := by omega
        have hg : geti a.States m.To = some a.States[m.To.toNat] := by
          have := geti_nat hto
          rwa [Int.toNat_of_nonneg (by omega)] at this
        have hR : stR a m = a.States[m.To.toNat].R := by simp [stR, hto]
        simp only [e4, cond_false, e5, Bool.true_and, hg, Option.bind_some]
        rw [← hR]
        by_cases h6 : m.Ops.length = (stR a m).length
        · have e6 : ((m.Ops.length : Int) != ((stR a m).length : Int)) = false := by simp [h6]
          have e7 : (m.Ops.length == (stR a m).length) = true := by simp [h6]
          simp only [e6, cond_false, e7, Bool.true_and]
          have := allLoop (fun k i => raddleref11_move_l1 K k (i : Int) a s m) m.Ops.length (opP a s m) (some true) (some false) (fun k i hi => by
            have hi2 : i < (stR a m).length := by omega
            have hi3 : i < a.States[m.To.toNat].R.length := by rw [← hR]; exact hi2
            rw [raddleref11_move_l1]
            simp only [dl_true hi, cond_true, geti_nat hi, Option.bind_some, w64s (n := i) (by omega), opP, getD_lt hi, getD_lt hi2, hg, geti_nat hi3]
            by_cases g1 : m.Ops[i] < 1
            · have f1 : decide (m.Ops[i] < 1) = true := by simp [g1]
              have f2 : decide (1 ≤ m.Ops[i]) = false := by simp; omega
              simp [f1, f2, raddleref11_move_j2]
            · have f1 : decide (m.Ops[i] < 1) = false := by simp; omega
              have f2 : decide (1 ≤ m.Ops[i]) = true := by simp; omega
              simp only [f1, cond_false, f2, Bool.true_and]
              by_cases g2 : m.Ops[i] > 3
              · have f3 : decide (m.Ops[i] > 3) = true := by simp [g2]
                have f4 : decide (m.Ops[i] ≤ 3) = false := by simp; omega
                simp [f3, f4, raddleref11_move_j2]
              · have f3 : decide (m.Ops[i] > 3) = false := by simp; omega
                have f4 : decide (m.Ops[i] ≤ 3) = true := by simp; omega
                simp only [f3, cond_false, f4, Bool.true_and]
                by_cases g3 : m.Ops[i] = 3
                · simp [g3]
                · have f5 : (m.Ops[i] != 3) = true := by simp [g3]
                  have f6 : (m.Ops[i] == 3) = false := by simp [g3]
                  have hR2 : a.States[m.To.toNat].R[i] = (stR a m)[i] := by simp only [hR]
                  simp only [f5, cond_true, f6, Bool.false_or, refIn K s.R _ hs.2 hs.1, Option.bind_some, hR2]
                  cases s.R.contains (stR a m)[i] <;> simp [raddleref11_move_j2]) (fun k => by rw [raddleref11_move_l1]; simp only [dl_false (Nat.le_refl _), cond_false]) m.Ops.length K 0 (by omega) (by omega) hm.1
          simp only [Int.natCast_zero] at this
          rw [this]
          cases allB (opP a s m) m.Ops.length 0 <;> simp
        · have e6 : ((m.Ops.length : Int) != ((stR a m).length : Int)) = true := by simp; omega
          have e7 : (m.Ops.length == (stR a m).length) = false := by simp [h6]
          simp [e6, e7, raddleref11_move_j0]
end Go.Rv

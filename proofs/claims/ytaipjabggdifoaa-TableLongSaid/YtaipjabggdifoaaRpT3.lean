/- Automata, plainly: both layers' Right is one: states, and the whole. -/
import Derived.Test.YtaipjabggdifoaaRpT2
namespace Go.Rv
theorem findLoop (F : Nat → Nat → Option Int) (n : Nat) (p : Nat → Bool) (hs : ∀ k i, i < n → F (k + 1) i = if p i = true then F k (i + 1) else some (i : Int)) (he : ∀ k, F (k + 1) n = some (-1)) :
    ∀ (m k i : Nat), n - i = m → i ≤ n → m < k → ∃ r, F k i = some r ∧ decide (r ≥ 0) = !allB p m i := by
  intro m
  induction m with
  | zero =>
    intro k i hm hi hk
    obtain ⟨k, rfl⟩ : ∃ k', k = k' + 1 := ⟨k - 1, by omega⟩
    have : i = n := by omega
    subst this
    exact ⟨-1, he k, by simp [allB]⟩
  | succ m ih =>
    intro k i hm hi hk
    obtain ⟨k, rfl⟩ : ∃ k', k = k' + 1 := ⟨k - 1, by omega⟩
    rw [hs k i (by omega)]
    cases hp : p i with
    | true =>
      obtain ⟨r, h1, h2⟩ := ih k (i + 1) (by omega) (by omega) (by omega)
      exact ⟨r, by simp [h1], by simpa [allB, hp] using h2⟩
    | false => exact ⟨i, by simp, by simp [allB, hp]⟩
def mvOk (K : Nat) (r : List api_Move) : Prop := r.length < K ∧ r.length ≤ 9223372036854775807 ∧ ∀ m ∈ r, m.Ops.length < K ∧ m.Ops.length ≤ 9223372036854775807
def stOk (K : Nat) (s : api_State) : Prop := (s.L.length < K ∧ s.L.length ≤ 9223372036854775807) ∧ (s.R.length < K ∧ s.R.length ≤ 9223372036854775807) ∧ s.Rule.length ≤ 9223372036854775807 ∧ (s.Next.length < K ∧ s.Next.length ≤ 9223372036854775807) ∧ ∀ r ∈ s.Next, mvOk K r
theorem autoRow (K : Nat) (a : api_Auto) (s : api_State) (row : List api_Move) (hK : bigOf a K) (hs : stOk K s) (hr : mvOk K row) : slices_ContainsFunc_Move K row ⟨a⟩ s = some (!allB (fun k => moveP a s (row.getD k ⟨0, []⟩)) row.length 0) := by
  obtain ⟨r, h1, h2⟩ := findLoop (fun k i => slices_IndexFunc_Move_l0 K k row (row.length : Int) (i : Int) ⟨a⟩ s) row.length (fun k => moveP a s (row.getD k ⟨0, []⟩)) (fun k i hi => by
    have hm := hr.2.2 row[i] (List.getElem_mem hi)
    have hl := hr.2.1
    rw [slices_IndexFunc_Move_l0]
    simp only [dl_true hi, cond_true, geti_nat hi, Option.bind_some, w64s (n := i) (by omega), getD_lt hi, auto_checker_state_1, autoMove K a s row[i] hK hs.2.1 hm]
    cases moveP a s row[i] <;> simp) (fun k => by rw [slices_IndexFunc_Move_l0]; simp only [dl_false (Nat.le_refl _), cond_false]) row.length K 0 (by omega) (by omega) hr.1
  rw [Int.natCast_zero] at h1
  rw [slices_ContainsFunc_Move, slices_IndexFunc_Move, h1, Option.bind_some, h2]
theorem autoState (K : Nat) (a : api_Auto) (s : api_State) (hK : bigOf a K) (hc : a.Counts.length ≤ 9223372036854775807) (hs : stOk K s) : auto_checker_state K ⟨a⟩ s = some (stateP a s) := by
  have hK' := hK.1
  rw [auto_checker_state, autoCodes K (by omega), Option.bind_some, stateP]
  by_cases h1 : codesS s.R.length = 0
  · simp [h1, auto_checker_state_j0]
  · have e1 : (codesS (s.R.length : Int) == 0) = false := beq_eq_false_iff_ne.2 h1
    simp only [e1, cond_false, Bool.not_false, Bool.true_and]
    by_cases h2 : (s.Rule.length : Int) = codesS s.R.length
    · have e2 : ((s.Rule.length : Int) != codesS s.R.length) = false := by simp [h2]
      have e2' : ((s.Rule.length : Int) == codesS s.R.length) = true := by simp [h2]
      simp only [e2, cond_false, e2', Bool.true_and]
      by_cases h3 : (s.Next.length : Int) = codesS s.R.length
      · have e3 : ((s.Next.length : Int) != codesS s.R.length) = false := by simp [h3]
        have e3' : ((s.Next.length : Int) == codesS s.R.length) = true := by simp [h3]
        simp only [e3, cond_false, e3', Bool.true_and, autoRises K s.L 512 hs.1.2 hs.1.1, autoRises K s.R _ hs.2.1.2 hs.2.1.1, Option.bind_some]
        cases h4 : risesS s.L 512 with
        | false => simp [auto_checker_state_j0]
        | true =>
          cases h5 : risesS s.R (a.Counts.length : Int) with
          | false => simp [auto_checker_state_j0]
          | true =>
            simp only [Bool.not_true, cond_false, Bool.true_and]
            have := allLoop (fun k i => auto_checker_state_l1 K k s (s.Next.length : Int) (i : Int) ⟨a⟩) s.Next.length (rowP a s) (some true) (some false) (fun k i hi => by
              have hi2 : i < s.Rule.length := by omega
              have hrow := hs.2.2.2.2 s.Next[i] (List.getElem_mem hi)
              have hl := hs.2.2.2.1.2
              rw [auto_checker_state_l1]
              simp only [dl_true hi, cond_true, geti_nat hi, geti_nat hi2, Option.bind_some, w64s (n := i) (by omega), rowP, getD_lt hi, getD_lt hi2]
              by_cases g1 : s.Rule[i] < -1
              · have f1 : decide (s.Rule[i] < -1) = true := by simp [g1]
                have f2 : decide (-1 ≤ s.Rule[i]) = false := by simp; omega
                simp [f1, f2, auto_checker_state_j2]
              · have f1 : decide (s.Rule[i] < -1) = false := by simp; omega
                have f2 : decide (-1 ≤ s.Rule[i]) = true := by simp; omega
                simp only [f1, cond_false, f2, Bool.true_and]
                by_cases g2 : s.Rule[i] ≥ 512
                · have f3 : decide (s.Rule[i] ≥ 512) = true := by simp [g2]
                  have f4 : decide (s.Rule[i] < 512) = false := by simp; omega
                  simp [f3, f4, auto_checker_state_j2]
                · have f3 : decide (s.Rule[i] ≥ 512) = false := by simp; omega
                  have f4 : decide (s.Rule[i] < 512) = true := by simp; omega
                  simp only [f3, cond_false, f4, Bool.true_and]
                  by_cases g3 : (s.Next[i].length : Int) = a.Split.Many
                  · have f5 : ((s.Next[i].length : Int) != a.Split.Many) = false := by simp [g3]
                    have f6 : ((s.Next[i].length : Int) == a.Split.Many) = true := by simp [g3]
                    simp only [f5, cond_false, f6, Bool.true_and, autoRow K a s s.Next[i] hK hs hrow, Option.bind_some]
                    cases allB (fun k => moveP a s (s.Next[i].getD k ⟨0, []⟩)) s.Next[i].length 0 <;> simp
                  · have f5 : ((s.Next[i].length : Int) != a.Split.Many) = true := by simp [g3]
                    have f6 : ((s.Next[i].length : Int) == a.Split.Many) = false := by simp [g3]
                    simp [f5, f6, auto_checker_state_j2]) (fun k => by rw [auto_checker_state_l1]; simp only [dl_false (Nat.le_refl _), cond_false]) s.Next.length K 0 (by omega) (by omega) hs.2.2.2.1.1
            simp only [Int.natCast_zero] at this
            rw [this]
            cases allB (rowP a s) s.Next.length 0 <;> simp
      · have e3 : ((s.Next.length : Int) != codesS s.R.length) = true := by simp [h3]
        have e3' : ((s.Next.length : Int) == codesS s.R.length) = false := by simp [h3]
        simp [e3, e3', auto_checker_state_j0]
    · have e2 : ((s.Rule.length : Int) != codesS s.R.length) = true := by simp [h2]
      have e2' : ((s.Rule.length : Int) == codesS s.R.length) = false := by simp [h2]
      simp [e2, e2', auto_checker_state_j0]
theorem refState (K : Nat) (a : api_Auto) (s : api_State) (hK : bigOf a K) (hc : a.Counts.length ≤ 9223372036854775807) (hs : stOk K s) : raddleref11_state K a s = some (stateP a s) := by
  have hK' := hK.1
  rw [raddleref11_state, refCodes K (by omega), Option.bind_some, stateP]
  by_cases h1 : codesS s.R.length = 0
  · simp [h1, raddleref11_state_j0]
  · have e1 : (codesS (s.R.length : Int) == 0) = false := beq_eq_false_iff_ne.2 h1
    simp only [e1, cond_false, Bool.not_false, Bool.true_and, refRises K s.L 512 hs.1.2 hs.1.1, refRises K s.R _ hs.2.1.2 hs.2.1.1, Option.bind_some]
    cases h4 : risesS s.L 512 with
    | false => simp [raddleref11_state_j0]
    | true =>
      cases h5 : risesS s.R (a.Counts.length : Int) with
      | false => simp [raddleref11_state_j0]
      | true =>
        simp only [Bool.not_true, cond_false, Bool.true_and]
        by_cases h2 : (s.Rule.length : Int) = codesS s.R.length
        · have e2 : ((s.Rule.length : Int) != codesS s.R.length) = false := by simp [h2]
          have e2' : ((s.Rule.length : Int) == codesS s.R.length) = true := by simp [h2]
          simp only [e2, cond_false, e2', Bool.true_and]
          by_cases h3 : (s.Next.length : Int) = codesS s.R.length
          · have e3 : ((s.Next.length : Int) != codesS s.R.length) = false := by simp [h3]
            have e3' : ((s.Next.length : Int) == codesS s.R.length) = true := by simp [h3]
            simp only [e3, cond_false, e3', Bool.true_and]
            rw [← h3]
            have := allLoop (fun k i => raddleref11_state_l1 K k (s.Next.length : Int) (i : Int) a s) s.Next.length (rowP a s) (some true) (some false) (fun k i hi => by
              have hi2 : i < s.Rule.length := by omega
              have hrow := hs.2.2.2.2 s.Next[i] (List.getElem_mem hi)
              have hl := hs.2.2.2.1.2
              rw [raddleref11_state_l1]
              simp only [dl_true hi, cond_true, geti_nat hi, geti_nat hi2, Option.bind_some, rowP, getD_lt hi, getD_lt hi2]
              by_cases g1 : s.Rule[i] < -1
              · have f1 : decide (s.Rule[i] < -1) = true := by simp [g1]
                have f2 : decide (-1 ≤ s.Rule[i]) = false := by simp; omega
                simp [f1, f2, raddleref11_state_j2]
              · have f1 : decide (s.Rule[i] < -1) = false := by simp; omega
                have f2 : decide (-1 ≤ s.Rule[i]) = true := by simp; omega
                simp only [f1, cond_false, f2, Bool.true_and]
                by_cases g2 : s.Rule[i] ≥ 512
                · have f3 : decide (s.Rule[i] ≥ 512) = true := by simp [g2]
                  have f4 : decide (s.Rule[i] < 512) = false := by simp; omega
                  simp [f3, f4, raddleref11_state_j2]
                · have f3 : decide (s.Rule[i] ≥ 512) = false := by simp; omega
                  have f4 : decide (s.Rule[i] < 512) = true := by simp; omega
                  simp only [f3, cond_false, f4, Bool.true_and]
                  by_cases g3 : (s.Next[i].length : Int) = a.Split.Many
                  · have f5 : ((s.Next[i].length : Int) != a.Split.Many) = false := by simp [g3]
                    have f6 : ((s.Next[i].length : Int) == a.Split.Many) = true := by simp [g3]
                    simp only [f5, cond_false, f6, Bool.true_and]
                    have inner := allLoop (fun k' j => raddleref11_state_l3 K (raddleref11_state_l1 K k) k' (s.Next.length : Int) (i : Int) (j : Int) s (i : Int) s.Rule[i] s.Rule[i] false (i : Int) s.Next[i] s.Next[i] (s.Next[i].length : Int) a false) s.Next[i].length (fun k => moveP a s (s.Next[i].getD k ⟨0, []⟩))
                      (raddleref11_state_l1 K k (s.Next.length : Int) ((i + 1 : Nat) : Int) a s) (some false) (fun k' j hj => by
                        have hm := hrow.2.2 s.Next[i][j] (List.getElem_mem hj)
                        have hl2 := hrow.2.1
                        rw [raddleref11_state_l3]
                        simp only [geti_nat hi, Option.bind_some, dl_true hj, cond_true, geti_nat hj, w64s (n := j) (by omega), getD_lt hj, refMove K a s s.Next[i][j] hK hs.2.1 hm]
                        cases moveP a s s.Next[i][j] <;> simp) (fun k' => by rw [raddleref11_state_l3]; simp only [geti_nat hi, Option.bind_some, dl_false (Nat.le_refl _), cond_false, w64s (n := i) (by omega)]) s.Next[i].length K 0 (by omega) (by omega) hrow.1
                    simp only [Int.natCast_zero] at inner
                    rw [inner]
                  · have f5 : ((s.Next[i].length : Int) != a.Split.Many) = true := by simp [g3]
                    have f6 : ((s.Next[i].length : Int) == a.Split.Many) = false := by simp [g3]
                    simp [f5, f6, raddleref11_state_j2]) (fun k => by rw [raddleref11_state_l1]; simp only [dl_false (Nat.le_refl _), cond_false]) s.Next.length K 0 (by omega) (by omega) hs.2.2.2.1.1
            simp only [Int.natCast_zero] at this
            rw [this]
            cases allB (rowP a s) s.Next.length 0 <;> simp
          · have e3 : ((s.Next.length : Int) != codesS s.R.length) = true := by simp [h3]
            have e3' : ((s.Next.length : Int) == codesS s.R.length) = false := by simp [h3]
            simp [e3, e3', raddleref11_state_j0]
        · have e2 : ((s.Rule.length : Int) != codesS s.R.length) = true := by simp [h2]
          have e2' : ((s.Rule.length : Int) == codesS s.R.length) = false := by simp [h2]
          simp [e2, e2', raddleref11_state_j0]
theorem Okay.stOk {a : api_Auto} (h : Okay a) {K : Nat} (hK : bigOf a K) {s : api_State} (hs : s ∈ a.States) : stOk K s := by
  obtain ⟨h1, h2, h3, h4, h5⟩ := h.st s hs
  obtain ⟨k1, k2, k3, k4⟩ := hK.2.2.2 s hs
  exact ⟨⟨k1, h1⟩, ⟨k2, h2⟩, h3, ⟨k3, h4⟩, fun r hr => ⟨(k4 r hr).1, (h5 r hr).1, fun m hm => ⟨(k4 r hr).2 m hm, (h5 r hr).2 m hm⟩⟩⟩
theorem cnt_loop (c : Arr2) {β : Type} (x y : Option β) : (bif decide ((Arr2.get c (0 : Int)) < (1 : Int)) then y else bif decide ((Arr2.get c (0 : Int)) > (Arr2.get c (1 : Int))) then y else bif decide ((Arr2.get c (1 : Int)) < (2 : Int)) then y else bif decide ((Arr2.get c (1 : Int)) > (4096 : Int)) then y else x) = if cntP c = true then x else y := by
  have g0 : Arr2.get c 0 = c.a0 := rfl
  have g1 : Arr2.get c 1 = c.a1 := rfl
  rw [g0, g1, cntP]
  cases decide (c.a0 < 1) <;> cases decide (c.a0 > c.a1) <;> cases decide (c.a1 < 2) <;> cases decide (c.a1 > 4096) <;> simp
theorem autoTail (K : Nat) (a : api_Auto) (h : Okay a) (hK : bigOf a K) : auto_Right_l1 K K a (a.Counts.length : Int) 0 = some (allB (fun i => cntP (a.Counts.getD i ⟨0, 0⟩)) a.Counts.length 0 && allB (fun i => stateP a (a.States.getD i ⟨[], [], [], []⟩)) a.States.length 0) := by
  have hc := h.counts
  have hs := h.states
  obtain ⟨r, h1, h2⟩ := findLoop (fun k i => slices_IndexFunc_State_l0 K k a.States (a.States.length : Int) (i : Int) ⟨a⟩) a.States.length (fun i => stateP a (a.States.getD i ⟨[], [], [], []⟩)) (fun k i hi => by
    have hm := h.stOk hK (List.getElem_mem hi)
    rw [slices_IndexFunc_State_l0]
    simp only [dl_true hi, cond_true, geti_nat hi, Option.bind_some, w64s (n := i) (by omega), getD_lt hi, auto_Right_1, autoState K a a.States[i] hK hc hm]
    cases stateP a a.States[i] <;> simp) (fun k => by rw [slices_IndexFunc_State_l0]; simp only [dl_false (Nat.le_refl _), cond_false]) a.States.length K 0 (by omega) (by omega) hK.2.2.1
  rw [Int.natCast_zero] at h1
  have e : (slices_ContainsFunc_State K a.States ⟨a⟩) = some (!allB (fun i => stateP a (a.States.getD i ⟨[], [], [], []⟩)) a.States.length 0) := by
    rw [slices_ContainsFunc_State, slices_IndexFunc_State, h1, Option.bind_some, h2]
  have := allLoop (fun k i => auto_Right_l1 K k a (a.Counts.length : Int) (i : Int)) a.Counts.length (fun i => cntP (a.Counts.getD i ⟨0, 0⟩)) (some (allB (fun i => stateP a (a.States.getD i ⟨[], [], [], []⟩)) a.States.length 0)) (some false) (fun k i hi => by
    rw [auto_Right_l1]
    simp only [dl_true hi, cond_true, geti_nat hi, Option.bind_some, w64s (n := i) (by omega), getD_lt hi, auto_Right_j2]
    exact cnt_loop _ _ _) (fun k => by rw [auto_Right_l1]; simp only [dl_false (Nat.le_refl _), cond_false, e, Option.bind_some, Bool.not_not]) a.Counts.length K 0 (by omega) (by omega) hK.2.1
  simp only [Int.natCast_zero] at this
  rw [this]
  cases allB (fun i => cntP (a.Counts.getD i ⟨0, 0⟩)) a.Counts.length 0 <;> simp
theorem refTail (K : Nat) (a : api_Auto) (h : Okay a) (hK : bigOf a K) : raddleref11_Right_l1 K K 0 a = some (allB (fun i => cntP (a.Counts.getD i ⟨0, 0⟩)) a.Counts.length 0 && allB (fun i => stateP a (a.States.getD i ⟨[], [], [], []⟩)) a.States.length 0) := by
  have hc := h.counts
  have hs := h.states
  have e := allLoop (fun k i => raddleref11_Right_l3 K k (i : Int) a) a.States.length (fun i => stateP a (a.States.getD i ⟨[], [], [], []⟩)) (some true) (some false) (fun k i hi => by
    have hm := h.stOk hK (List.getElem_mem hi)
    rw [raddleref11_Right_l3]
    simp only [dl_true hi, cond_true, geti_nat hi, Option.bind_some, w64s (n := i) (by omega), getD_lt hi, refState K a a.States[i] hK hc hm]
    cases stateP a a.States[i] <;> simp) (fun k => by rw [raddleref11_Right_l3]; simp only [dl_false (Nat.le_refl _), cond_false]) a.States.length K 0 (by omega) (by omega) hK.2.2.1
  simp only [Int.natCast_zero] at e
  have := allLoop (fun k i => raddleref11_Right_l1 K k (i : Int) a) a.Counts.length (fun i => cntP (a.Counts.getD i ⟨0, 0⟩)) (some (allB (fun i => stateP a (a.States.getD i ⟨[], [], [], []⟩)) a.States.length 0)) (some false) (fun k i hi => by
    rw [raddleref11_Right_l1]
    simp only [dl_true hi, cond_true, geti_nat hi, Option.bind_some, w64s (n := i) (by omega), getD_lt hi, raddleref11_Right_j2]
    exact cnt_loop _ _ _) (fun k => by
      rw [raddleref11_Right_l1]; simp only [dl_false (Nat.le_refl _), cond_false, e]
      cases allB (fun i => stateP a (a.States.getD i ⟨[], [], [], []⟩)) a.States.length 0 <;> simp) a.Counts.length K 0 (by omega) (by omega) hK.2.1
  simp only [Int.natCast_zero] at this
  rw [this]
  cases allB (fun i => cntP (a.Counts.getD i ⟨0, 0⟩)) a.Counts.length 0 <;> simp
theorem state0_small {a : api_Auto} (hc : (a.Counts.length : Int) ≤ 512) {s : api_State} (hs : stateP a s = true) : s.L.length ≤ 512 ∧ s.R.length ≤ 512 := by
  simp only [stateP, Bool.and_eq_true] at hs
  obtain ⟨_, _, _, h1, h2, _⟩ := hs
  constructor
  · rcases risesF_len s.L (-1) (by omega) h1 with h | h
    · omega
    · simp [h]
  · rcases risesF_len s.R (-1) (by omega) h2 with h | h
    · omega
    · simp [h]
theorem autoRight (K : Nat) (a : api_Auto) (h : Okay a) (hK : bigOf a K) : auto_Right K a = some (rightP a) := by
  have hK' := hK.1
  rw [auto_Right, autoSplit K (by omega) a.Split h.split, Option.bind_some, rightP]
  cases splitS a.Split with
  | false => simp [auto_Right_j0]
  | true =>
    simp only [Bool.not_true, cond_false, Bool.true_and]
    by_cases h0 : (a.Counts.length : Int) > 512
    · simp [h0, auto_Right_j0]
    · have e0 : decide ((a.Counts.length : Int) > 512) = false := decide_eq_false h0
      simp only [e0, cond_false, Bool.not_false, Bool.true_and]
      by_cases h1 : (a.States.length : Int) < 1
      · simp [h1, auto_Right_j0]
      · have e1 : decide ((a.States.length : Int) < 1) = false := decide_eq_false h1
        have hl : 0 < a.States.length := by omega
        simp only [e1, cond_false, Bool.not_false, Bool.true_and]
        by_cases h2 : (a.States.length : Int) > 256
        · simp [h2, auto_Right_j0]
        · have e2 : decide ((a.States.length : Int) > 256) = false := decide_eq_false h2
          have hg : geti a.States 0 = some a.States[0] := geti_nat hl
          have hst := h.st a.States[0] (List.getElem_mem hl)
          simp only [e2, cond_false, Bool.not_false, Bool.true_and, hg, Option.bind_some, getD_lt hl, autoTail K a h hK]
          by_cases hbig : 9223372036854775807 < a.States[0].L.length + a.States[0].R.length
          · -- so long a first state is refused all the same
            have f1 : allB (fun i => stateP a (a.States.getD i ⟨[], [], [], []⟩)) a.States.length 0 = false := by
              cases hh : allB (fun i => stateP a (a.States.getD i ⟨[], [], [], []⟩)) a.States.length 0 with
              | false => rfl
              | true =>
                have := allB_iff.1 hh 0 (by omega) (by omega)
                simp only [getD_lt hl] at this
                have := state0_small (by omega) this
                omega
            rw [f1]
            cases decide (IntKind.i64.wrap ((a.States[0].L.length : Int) + (a.States[0].R.length : Int)) > 0) <;> simp [auto_Right_j0]
          · have hcode : (decide (IntKind.i64.wrap ((a.States[0].L.length : Int) + (a.States[0].R.length : Int)) > 0)) = !((a.States[0].L.length == 0) && (a.States[0].R.length == 0)) := by
              rw [w64 (by omega) (by omega)]
              by_cases g1 : a.States[0].L.length = 0
              · by_cases g2 : a.States[0].R.length = 0
                · simp [g1, g2]
                · have f1 : decide ((a.States[0].L.length : Int) + (a.States[0].R.length : Int) > 0) = true := by simp; omega
                  have f2 : (a.States[0].R.length == 0) = false := beq_eq_false_iff_ne.2 g2
                  rw [f1, f2]; simp
              · have f1 : decide ((a.States[0].L.length : Int) + (a.States[0].R.length : Int) > 0) = true := by simp; omega
                have f2 : (a.States[0].L.length == 0) = false := beq_eq_false_iff_ne.2 g1
                rw [f1, f2]; simp
            rw [hcode]
            cases ((a.States[0].L.length == 0) && (a.States[0].R.length == 0)) <;> simp [auto_Right_j0]
theorem refRight (K : Nat) (a : api_Auto) (h : Okay a) (hK : bigOf a K) : raddleref11_Right K a = some (rightP a) := by
  have hK' := hK.1
  rw [raddleref11_Right, refSplit K (by omega) a.Split h.split, Option.bind_some, rightP]
  cases splitS a.Split with
  | false => simp [raddleref11_Right_j0]
  | true =>
    simp only [Bool.not_true, cond_false, Bool.true_and]
    by_cases h0 : (a.Counts.length : Int) > 512
    · simp [h0, raddleref11_Right_j0]
    · have e0 : decide ((a.Counts.length : Int) > 512) = false := decide_eq_false h0
      simp only [e0, cond_false, Bool.not_false, Bool.true_and]
      by_cases h1 : (a.States.length : Int) < 1
      · simp [h1, raddleref11_Right_j0]
      · have e1 : decide ((a.States.length : Int) < 1) = false := decide_eq_false h1
        have hl : 0 < a.States.length := by omega
        simp only [e1, cond_false, Bool.not_false, Bool.true_and]
        by_cases h2 : (a.States.length : Int) > 256
        · simp [h2, raddleref11_Right_j0]
        · have e2 : decide ((a.States.length : Int) > 256) = false := decide_eq_false h2
          have hg : geti a.States 0 = some a.States[0] := geti_nat hl
          simp only [e2, cond_false, Bool.not_false, Bool.true_and, hg, Option.bind_some, getD_lt hl, refTail K a h hK]
          by_cases g1 : a.States[0].L.length = 0
          · have f1 : decide ((a.States[0].L.length : Int) > 0) = false := decide_eq_false (by omega)
            have f1' : (a.States[0].L.length == 0) = true := by simp [g1]
            simp only [f1, cond_false, f1', Bool.true_and]
            by_cases g2 : a.States[0].R.length = 0
            · have f2 : decide ((a.States[0].R.length : Int) > 0) = false := decide_eq_false (by omega)
              have f2' : (a.States[0].R.length == 0) = true := by simp [g2]
              simp only [f2, cond_false, f2', Bool.true_and]
            · have f2 : decide ((a.States[0].R.length : Int) > 0) = true := decide_eq_true (by omega)
              have f2' : (a.States[0].R.length == 0) = false := beq_eq_false_iff_ne.2 g2
              simp only [f2, cond_true, f2', Bool.false_and, Bool.and_false, raddleref11_Right_j0]
          · have f1 : decide ((a.States[0].L.length : Int) > 0) = true := decide_eq_true (by omega)
            have f1' : (a.States[0].L.length == 0) = false := beq_eq_false_iff_ne.2 g1
            simp only [f1, cond_true, f1', Bool.false_and, Bool.and_false, raddleref11_Right_j0]
end Go.Rv

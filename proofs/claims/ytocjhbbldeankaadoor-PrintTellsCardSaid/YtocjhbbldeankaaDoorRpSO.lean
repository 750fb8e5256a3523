/- Patterns, plainly: Parse; trees, and whether nodes are one. -/
import Derived.Test.YtocjhbbldeankaaDoorRpSN
namespace Go.Rv
theorem shown_200 : l5_shown 200 = some true := by decide +kernel
theorem shown_at {K : Nat} (h : 200 ≤ K) : l5_shown K = some true := l5_shown_le h _ shown_200
theorem minIf (c n : Nat) : (if (c : Int) < (n : Int) then (c : Int) else (n : Int)) = ((min c n : Nat) : Int) := by
  split <;> omega
def Pt.wf : Bool → Pt → Prop
  | true, .empty => True
  | true, .set s => s ≠ z4
  | true, .ref nm => nameOk nm = true ∧ ∀ c ∈ nm, c < 256
  | true, .rep t lo hi => t.wf true ∧ 0 ≤ lo ∧ lo ≤ 4096 ∧ (hi = -1 ∨ (1 ≤ hi ∧ lo ≤ hi ∧ hi ≤ 4096))
  | true, .cat f => 2 ≤ f.len ∧ f.wf false
  | true, .alt f => 2 ≤ f.len ∧ f.wf false
  | false, .nil => True
  | false, .cons t f => t.wf true ∧ f.wf false
  | _, _ => False
theorem pFin_bounds {w l r : List Nat} {lo hi : Int} {bad : Bool} {x : Int × Int} (h : pFin w lo hi bad l = .ok x r) : x = (lo, hi) ∧ bad = false ∧ lo ≤ 4096 ∧ hi ≤ 4096 ∧ hi ≠ 0 ∧ ¬ (0 < hi ∧ hi < lo) := by
  unfold pFin at h
  split at h
  · cases h
  · split at h
    · cases h
    · split at h
      · cases h
      · rename_i hb
        cases h
        simp only [not_or, Bool.not_eq_true] at hb
        exact ⟨rfl, hb.1, by omega, by omega, hb.2.2.2.1, hb.2.2.2.2⟩
theorem pTimes_bounds {l r : List Nat} {lo hi : Int} (h : pTimes l = some (.ok (lo, hi) r)) : 0 ≤ lo ∧ lo ≤ 4096 ∧ (hi = -1 ∨ (1 ≤ hi ∧ lo ≤ hi ∧ hi ≤ 4096)) := by
  unfold pTimes at h
  split at h
  · cases h
  · split at h
    · cases h; decide
    split at h
    · cases h; decide
    split at h
    · cases h; decide
    split at h
    · simp only [Option.some.injEq] at h
      unfold pBounds at h
      split at h
      · rename_i r2 he
        split at h
        · obtain ⟨h1, h2, h3, h4, h5, h6⟩ := pFin_bounds h
          cases h1
          simp only [Bool.or_eq_false_iff, decide_eq_false_iff_not] at h2
          omega
        · obtain ⟨h1, h2, h3, h4, h5, h6⟩ := pFin_bounds h
          cases h1
          simp only [decide_eq_false_iff_not] at h2
          omega
      · obtain ⟨h1, h2, h3, h4, h5, h6⟩ := pFin_bounds h
        cases h1
        simp only [decide_eq_false_iff_not] at h2
        omega
    · cases h
theorem st_ne {p : Nat → Bool} {b : Nat} (hb : b < 256) (h : p b = true) : st p ≠ z4 := fun he => by
  have he' : st p = st (fun _ => false) := he.trans st_none
  have := st_inj he' b hb
  rw [h] at this
  cases this
theorem pOne_lt {l r : List Nat} {b : Nat} (hl : ∀ c ∈ l, c < 256) (h : pOne l = .ok b r) : b < 256 := by
  unfold pOne at h
  split at h
  · cases h
  · rename_i c l
    split at h
    · unfold pEsc at h
      split at h
      · cases h
      · rename_i c2 l
        split at h
        · cases h; decide
        split at h
        · cases h; decide
        split at h
        · cases h; decide
        split at h
        · unfold pPair at h
          split at h
          · split at h
            · rename_i a b ha hb
              have := hexN_lt ha
              have := hexN_lt hb
              cases h; omega
            · cases h
          · cases h
        split at h
        · cases h; exact hl b (by simp)
        · cases h
    · cases h; exact hl b (by simp)
theorem pLeaf_wf {l r : List Nat} {t : Pt} (hl : ∀ c ∈ l, c < 256) (h : pLeaf l = .ok t r) : t.wf true := by
  unfold pLeaf at h
  split at h
  · cases h
  · rename_i c l
    split at h
    · cases h
      exact st_ne (b := 0) (by decide) (by decide)
    split at h
    · unfold pName at h
      split at h
      · cases h
      · split at h
        · rename_i hn
          cases h
          exact ⟨hn, fun c hc => hl c (List.mem_cons_of_mem _ ((List.takeWhile_sublist _).subset hc))⟩
        · cases h
    split at h
    · cases h
    split at h
    · cases h
    split at h
    · rename_i b r' he
      have := pOne_lt hl he
      cases h
      exact st_ne (b := b) this (by simp)
    · cases h
def WfG : Goal → Re Pt → Prop
  | .alt _, .ok t _ => t.wf true
  | .altR _, .ok f _ => f.wf false
  | .row _, .ok t _ => t.wf true
  | .rowR _, .ok f _ => f.wf false
  | .item _, .ok t _ => t.wf true
  | .itemR t0, .ok t _ => t0.wf true → t.wf true
  | .atom _, .ok t _ => t.wf true
  | _, _ => True
theorem PR.mem {g : Goal} {l : List Nat} {t : Pt} {r : List Nat} (h : PR g l (.ok t r)) (hl : ∀ c ∈ l, c < 256) : ∀ c ∈ r, c < 256 := fun c hc => hl c (h.suf.subset hc)
theorem PR.wf {g : Goal} {l : List Nat} {res : Re Pt} (h : PR g l res) : (∀ c ∈ l, c < 256) → WfG g res := by
  induction h with
  | @alt1 n l t r f r' h1 h2 ih1 ih2 =>
    intro hl
    have w1 := ih1 hl
    have w2 := ih2 (h1.mem hl)
    simp only [WfG] at w1 w2 ⊢
    rcases rows_shape h2 (.inr rfl) rfl with rfl | ⟨t', g', rfl, _⟩
    · exact w1
    · exact ⟨by simp [Pt.len], w1, w2⟩
  | altR1 h1 _ ih1 ih2 =>
    intro hl
    have hl' := fun c hc => hl c (List.mem_cons_of_mem _ hc)
    exact ⟨ih1 hl', ih2 (h1.mem hl')⟩
  | @row1 n l f r h1 ih1 =>
    intro hl
    have w1 := ih1 hl
    simp only [WfG] at w1 ⊢
    rcases rows_shape h1 (.inl rfl) rfl with rfl | ⟨t, g, rfl, rfl | ⟨t', g', rfl⟩⟩
    · trivial
    · exact w1.1
    · exact ⟨by simp [Pt.len], w1⟩
  | rowR1 _ h1 _ ih1 ih2 => exact fun hl => ⟨ih1 hl, ih2 (h1.mem hl)⟩
  | @item1 n l t r res h1 h2 ih1 ih2 =>
    intro hl
    have w1 := ih1 hl
    have w2 := ih2 (h1.mem hl)
    cases res with
    | err => trivial
    | ok t' r' => exact w2 w1
  | @itemR1 t l lo hi r res h1 h2 ih =>
    intro hl
    have w2 := ih (fun c hc => hl c ((pTimes_suf h1).subset hc))
    cases res with
    | err => trivial
    | ok t' r' => exact fun ht => w2 ⟨ht, pTimes_bounds h1⟩
  | itemR0 => exact fun _ ht => ht
  | atomG h1 ih => exact fun hl => ih (fun c hc => hl c (List.mem_cons_of_mem _ hc))
  | atomC1 _ hz _ => exact fun _ => hz
  | @atomL n l _ _ =>
    intro hl
    cases hq : pLeaf l with
    | err => trivial
    | ok t r => exact pLeaf_wf hl hq
  | altR0 => exact fun _ => trivial
  | rowR0 => exact fun _ => trivial
  | _ => exact fun _ => trivial
end Go.Rv

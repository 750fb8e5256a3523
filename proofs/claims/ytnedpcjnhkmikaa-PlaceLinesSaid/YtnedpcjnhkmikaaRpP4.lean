/- Places, plainly, 4: the byte at a place, as the document finds it and as the program does. -/
import Derived.Test.YtnedpcjnhkmikaaRpP3
namespace Go.Rv

theorem byteAt_some (x : List Int) (p : api_Place) (i : Nat) (hi : i ≤ x.length) (h : pl x i = p) : byteAt x p = ((i : Int), true) := by
  unfold byteAt
  cases hf : (List.range (x.length + 1)).find? (fun i => pl x i == p) with
  | none =>
    have := List.find?_eq_none.1 hf i (by simp; omega)
    simp [h] at this
  | some j =>
    have h1 := List.find?_some hf
    have h2 := List.mem_of_find?_eq_some hf
    simp only [beq_iff_eq] at h1
    rw [List.mem_range] at h2
    have := pl_inj x i j hi (by omega) (by rw [h, h1])
    rw [this]
theorem byteAt_none (x : List Int) (p : api_Place) (h : ∀ i, i ≤ x.length → pl x i ≠ p) : byteAt x p = (0, false) := by
  unfold byteAt
  have : (List.range (x.length + 1)).find? (fun i => pl x i == p) = none := List.find?_eq_none.2 (fun i hi => by
    rw [List.mem_range] at hi
    simp only [beq_iff_eq]
    exact h i (by omega))
  rw [this]
theorem same_place (a b : api_Place) : (([a.Line, a.Col] : List Int) == [b.Line, b.Col]) = (a == b) := by
  cases a; cases b
  rw [Bool.eq_iff_iff]
  simp
theorem rAt_l0 (K : Nat) (x : List Int) (hl : x.length ≤ 900) (hK : 1000 ≤ K) (p : api_Place) : ∀ (m k i : Nat), x.length + 1 - i = m → i ≤ x.length + 1 → m < k → (∀ j, j < i → pl x j ≠ p) → raddleref19_At_l0 K k x (i : Int) p.Line p.Col = some (byteAt x p) := by
  intro m
  induction m with
  | zero =>
    intro k i hm hi hk hno
    obtain ⟨k, rfl⟩ : ∃ k', k = k' + 1 := ⟨k - 1, by omega⟩
    have hc : (decide ((i : Int) ≤ (x.length : Int))) = false := by simp; omega
    rw [raddleref19_At_l0, byteAt_none x p (fun j hj => hno j (by omega))]
    simp only [hc, cond_false]
  | succ m ih =>
    intro k i hm hi hk hno
    obtain ⟨k, rfl⟩ : ∃ k', k = k' + 1 := ⟨k - 1, by omega⟩
    have hc : (decide ((i : Int) ≤ (x.length : Int))) = true := by simp; omega
    have hst : IntKind.i64.wrap ((i : Int) + 1) = ((i + 1 : Nat) : Int) := by rw [w64 (by omega) (by omega)]; omega
    rw [raddleref19_At_l0]
    simp only [hc, cond_true, rOf_spec K x (by omega) hK i (by omega), Option.bind_some, hst, same_place]
    by_cases h : pl x i = p
    · have hq : (pl x i == p) = true := by simp [h]
      simp only [hq, cond_true]
      rw [byteAt_some x p i (by omega) h]
    · have hq : (pl x i == p) = false := by simp [h]
      simp only [hq, cond_false]
      exact ih k (i + 1) (by omega) (by omega) (by omega) (fun j hj => by
        by_cases hji : j = i
        · subst hji; exact h
        · exact hno j (by omega))
theorem rAt_spec (K : Nat) (x : List Int) (hl : x.length ≤ 900) (hK : 1000 ≤ K) (p : api_Place) : raddleref19_At K x p = some (byteAt x p) := by
  rw [raddleref19_At]
  exact rAt_l0 K x hl hK p (x.length + 1) K 0 (by omega) (by omega) (by omega) (fun j hj => by omega)

def idx10 : List Int → Int
  | [] => -1
  | b :: l => if b = 10 then 0 else if idx10 l = -1 then -1 else idx10 l + 1
theorem idx10_spec (l : List Int) : (idx10 l = -1 ∧ ∀ k (h : k < l.length), l[k] ≠ 10) ∨ ∃ n : Nat, idx10 l = (n : Int) ∧ ∃ h : n < l.length, l[n] = 10 ∧ ∀ k (hk : k < n), l[k] ≠ 10 := by
  induction l with
  | nil => exact .inl ⟨rfl, fun k h => by simp at h⟩
  | cons b l ih =>
    simp only [idx10]
    by_cases hb : b = 10
    · exact .inr ⟨0, by rw [if_pos hb]; rfl, by simp, by simpa using hb, fun k hk => by omega⟩
    · rw [if_neg hb]
      rcases ih with ⟨h1, h2⟩ | ⟨n, h1, h2, h3, h4⟩
      · refine .inl ⟨by rw [if_pos h1], fun k h => ?_⟩
        cases k with
        | zero => simpa using hb
        | succ k => simpa using h2 k (by simpa using h)
      · refine .inr ⟨n + 1, by rw [if_neg (by omega), h1]; omega, by simpa using h2, by simpa using h3, fun k hk => ?_⟩
        cases k with
        | zero => simpa using hb
        | succ k => simpa using h4 k (by omega)
theorem idxB_spec (l : List Int) (h : isB l) : idxB l 10 = idx10 l := by
  simp only [idxB, Lib.bytesOf]
  induction l with
  | nil => rfl
  | cons b l ih =>
    have hb := h b (by simp)
    have ih' := ih (fun x hx => h x (by simp [hx]))
    have : ((UInt8.ofNat b.toNat == (10 : Int).toNat.toUInt8) = decide (b = 10)) := by
      rw [Bool.eq_iff_iff]
      simp only [beq_iff_eq, decide_eq_true_eq]
      constructor
      · intro he
        have := congrArg UInt8.toNat he
        simp at this
        omega
      · rintro rfl; rfl
    simp only [List.map_cons, Lib.indexByte, idx10, this, ih', decide_eq_true_eq, beq_iff_eq]

/-- Along a line. -/
theorem pl_along (x : List Int) (a j : Nat) (h0 : pl x a = ⟨(j : Int) + 1, 1⟩) : ∀ (k : Nat), a + k ≤ x.length → (∀ q (hq : q < k) (hx : a + q < x.length), x[a + q] ≠ 10) → pl x (a + k) = ⟨(j : Int) + 1, (k : Int) + 1⟩ := by
  intro k
  induction k with
  | zero => intro _ _; simpa using h0
  | succ k ih =>
    intro hk hno
    have h1 := ih (by omega) (fun q hq hx => hno q (by omega) hx)
    obtain ⟨h2, h3⟩ := pl_step x (a + k) (by omega)
    have hne := hno k (by omega) (by omega)
    rw [if_neg hne, h1] at h2 h3
    rw [show a + (k + 1) = a + k + 1 by omega]
    generalize pl x (a + k + 1) = q at *
    cases q
    simp only at h2 h3
    simp only [api_Place.mk.injEq]
    omega
end Go.Rv

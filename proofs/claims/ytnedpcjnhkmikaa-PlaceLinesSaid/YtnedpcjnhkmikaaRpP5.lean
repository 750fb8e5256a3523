/- Places, plainly, 5: place.At finds the byte at a place; the laws PlaceTells. -/
import Derived.Test.YtnedpcjnhkmikaaRpP4
namespace Go.Rv

theorem pl_before (x : List Int) (a j i : Nat) (ha : a ≤ x.length) (h0 : pl x a = ⟨(j : Int) + 1, 1⟩) (hi : i < a) : (pl x i).Line < (j : Int) + 1 := by
  have h := pl_less x (a - i - 1) i (by omega)
  rw [show i + (a - i - 1) + 1 = a by omega, h0] at h
  have := pl_col x i (by omega)
  simp only at h
  omega
theorem idx_drop (x : List Int) (hb : isB x) (a : Nat) : idxB ((x.take x.length).drop a) 10 = idx10 (x.drop a) := by
  rw [List.take_length]
  exact idxB_spec _ (fun b hx => hb b (List.mem_of_mem_drop hx))
theorem idx_cases (x : List Int) (a : Nat) (ha : a ≤ x.length) : (idx10 (x.drop a) = -1 ∧ ∀ q (hx : a + q < x.length), x[a + q] ≠ 10) ∨ ∃ n : Nat, idx10 (x.drop a) = (n : Int) ∧ ∃ h : a + n < x.length, x[a + n] = 10 ∧ ∀ q (hq : q < n), x[a + q]'(by omega) ≠ 10 := by
  rcases idx10_spec (x.drop a) with ⟨h1, h2⟩ | ⟨n, h1, h2, h3, h4⟩
  · refine .inl ⟨h1, fun q hx => ?_⟩
    have := h2 q (by simp; omega)
    simpa using this
  · have hn : a + n < x.length := by simp at h2; omega
    refine .inr ⟨n, h1, hn, by simpa using h3, fun q hq => ?_⟩
    have := h4 q hq
    simpa using this
theorem At_l1 (K : Nat) (x : List Int) (hb : isB x) (hl : x.length ≤ 900) (p : api_Place) (hp : 1 ≤ p.Line ∧ p.Line < 9223372036854775808) (hc : 1 ≤ p.Col ∧ p.Col < 9223372036854775808) :
    ∀ (m k a j : Nat), x.length - a = m → a ≤ x.length → m < k → (j : Int) ≤ p.Line - 1 → j ≤ a → pl x a = ⟨(j : Int) + 1, 1⟩ → place_At_l1 K k x (a : Int) (p.Line - 1) (j : Int) p.Line p.Col = some (byteAt x p) := by
  intro m
  induction m using Nat.strongRecOn with
  | _ m ih =>
    intro k a j hm ha hk hj hja h0
    obtain ⟨k, rfl⟩ : ∃ k', k = k' + 1 := ⟨k - 1, by omega⟩
    have hck : 0 ≤ (a : Int) ∧ (Int.toNat (a : Int)) ≤ x.length ∧ x.length ≤ x.length := ⟨by omega, by simpa using ha, Nat.le_refl _⟩
    have hix : bytes_IndexByte K ((x.take x.length).drop a) 10 = some (idx10 (x.drop a)) := by rw [bytes_IndexByte, idx_drop x hb a]
    rw [place_At_l1]
    by_cases hlt : (j : Int) < p.Line - 1
    · have hcnd : (decide ((j : Int) < p.Line - 1)) = true := by simpa using hlt
      simp only [hcnd, cond_true]
      rw [ck_pos hck, Int.toNat_natCast, hix, Option.bind_some]
      rcases idx_cases x a ha with ⟨h1, h2⟩ | ⟨n, h1, hn, h3, h4⟩
      · have hd : (decide (idx10 (x.drop a) < 0)) = true := by simp [h1]
        simp only [hd, cond_true]
        rw [byteAt_none x p (fun i hi he => ?_)]
        rcases Nat.lt_or_ge i a with h | h
        · have := pl_before x a j i ha h0 h
          rw [he] at this
          omega
        · have := pl_along x a j h0 (i - a) (by omega) (fun q _ hx => h2 q hx)
          rw [show a + (i - a) = i by omega, he] at this
          rw [this] at hlt
          simp only at hlt
          omega
      · have hd : (decide (idx10 (x.drop a) < 0)) = false := by simp [h1]
        have hw : IntKind.i64.wrap ((a : Int) + IntKind.i64.wrap (idx10 (x.drop a) + 1)) = ((a + n + 1 : Nat) : Int) := by
          rw [h1, w64 (n := (n : Int) + 1) (by omega) (by omega), w64 (by omega) (by omega)]
          omega
        have hw2 : IntKind.i64.wrap ((j : Int) + 1) = ((j + 1 : Nat) : Int) := by rw [w64 (by omega) (by omega)]; omega
        simp only [hd, cond_false, hw, hw2]
        have hal := pl_along x a j h0 n (by omega) (fun q hq hx => h4 q hq)
        obtain ⟨s1, s2⟩ := pl_step x (a + n) hn
        rw [if_pos h3, hal] at s1
        rw [if_pos h3] at s2
        have hpl : pl x (a + n + 1) = ⟨((j + 1 : Nat) : Int) + 1, 1⟩ := by
          generalize pl x (a + n + 1) = q at *
          cases q
          simp only at s1 s2
          simp only [api_Place.mk.injEq]
          omega
        exact ih (x.length - (a + n + 1)) (by omega) k (a + n + 1) (j + 1) rfl (by omega) (by omega) (by omega) (by omega) hpl
    · have hcnd : (decide ((j : Int) < p.Line - 1)) = false := by simpa using hlt
      have hjl : (j : Int) + 1 = p.Line := by omega
      have hwc : IntKind.i64.wrap (p.Col - 1) = p.Col - 1 := w64 (by omega) (by omega)
      -- the end of the line
      have fin : ∀ (long : Nat) (hal : a + long ≤ x.length), (∀ q (hq : q < long), x[a + q]'(by omega) ≠ 10) → (a + long = x.length ∨ ∃ h : a + long < x.length, x[a + long] = 10) → place_At_j2 K (a : Int) (long : Int) p.Line p.Col = some (byteAt x p) := by
        intro long hal hno hend
        rw [place_At_j2, hwc]
        by_cases hgt : p.Col - 1 > (long : Int)
        · have hd : (decide (p.Col - 1 > (long : Int))) = true := by simpa using hgt
          simp only [hd, cond_true]
          rw [byteAt_none x p (fun i hi he => ?_)]
          rcases Nat.lt_or_ge i a with h | h
          · have := pl_before x a j i ha h0 h
            rw [he] at this
            omega
          · rcases Nat.lt_or_ge (a + long) i with h' | h'
            · rcases hend with hend | ⟨hx, hend⟩
              · omega
              · have hal2 := pl_along x a j h0 long hal (fun q hq _ => hno q hq)
                obtain ⟨s1, s2⟩ := pl_step x (a + long) hx
                rw [if_pos hend, hal2] at s1
                rcases Nat.lt_or_ge (a + long + 1) i with h3 | h3
                · have := pl_less x (i - (a + long + 1) - 1) (a + long + 1) (by omega)
                  rw [show a + long + 1 + (i - (a + long + 1) - 1) + 1 = i by omega, he, s1] at this
                  simp only at this
                  omega
                · have hie : i = a + long + 1 := by omega
                  rw [← hie, he] at s1
                  simp only at s1
                  omega
            · have := pl_along x a j h0 (i - a) (by omega) (fun q hq _ => hno q (by omega))
              rw [show a + (i - a) = i by omega, he] at this
              have h5 := congrArg api_Place.Col this
              simp only at h5
              omega
        · have hd : (decide (p.Col - 1 > (long : Int))) = false := by simpa using hgt
          have hw : IntKind.i64.wrap (IntKind.i64.wrap ((a : Int) + p.Col) - 1) = ((a + (p.Col - 1).toNat : Nat) : Int) := by
            rw [w64 (n := (a : Int) + p.Col) (by omega) (by omega), w64 (by omega) (by omega)]
            omega
          simp only [hd, cond_false, hw]
          rw [byteAt_some x p (a + (p.Col - 1).toNat) (by omega) ?_]
          rw [pl_along x a j h0 (p.Col - 1).toNat (by omega) (fun q hq _ => hno q (by omega)), hjl]
          have e : (((p.Col - 1).toNat : Nat) : Int) + 1 = p.Col := by omega
          rw [e]
      simp only [hcnd, cond_false]
      rw [ck_pos hck, Int.toNat_natCast, hix, Option.bind_some]
      rcases idx_cases x a ha with ⟨h1, h2⟩ | ⟨n, h1, hn, h3, h4⟩
      · have hd : (decide (idx10 (x.drop a) < 0)) = true := by simp [h1]
        have hw : IntKind.i64.wrap ((x.length : Int) - (a : Int)) = ((x.length - a : Nat) : Int) := by rw [w64 (by omega) (by omega)]; omega
        simp only [hd, cond_true, hw]
        exact fin (x.length - a) (by omega) (fun q hq => h2 q (by omega)) (.inl (by omega))
      · have hd : (decide (idx10 (x.drop a) < 0)) = false := by simp [h1]
        simp only [hd, cond_false, h1]
        exact fin n (by omega) (fun q hq => h4 q hq) (.inr ⟨hn, h3⟩)
theorem At_spec (K : Nat) (x : List Int) (hb : isB x) (hl : x.length ≤ 900) (hK : 1000 ≤ K) (p : api_Place) (hp : p.Line < 9223372036854775808) (hc : p.Col < 9223372036854775808) : place_At K x p = some (byteAt x p) := by
  have hno : (p.Line < 1 ∨ p.Col < 1) → byteAt x p = (0, false) := fun h => byteAt_none x p (fun i hi he => by
    have h1 := pl_line x i
    have h2 := pl_col x i hi
    rw [he] at h1 h2
    omega)
  rw [place_At]
  by_cases h1 : p.Line < 1
  · have hd : (decide (p.Line < 1)) = true := by simpa using h1
    simp only [hd, cond_true, place_At_j0, hno (.inl h1)]
  · have hd : (decide (p.Line < 1)) = false := by simpa using h1
    by_cases h2 : p.Col < 1
    · have hd2 : (decide (p.Col < 1)) = true := by simpa using h2
      simp only [hd, hd2, cond_false, cond_true, place_At_j0, hno (.inr h2)]
    · have hd2 : (decide (p.Col < 1)) = false := by simpa using h2
      simp only [hd, hd2, cond_false]
      rw [w64 (n := p.Line - 1) (by omega) (by omega)]
      exact At_l1 K x hb hl p ⟨by omega, hp⟩ ⟨by omega, hc⟩ x.length K 0 0 rfl (by omega) (by omega) (by omega) (Nat.le_refl _) rfl
end Go.Rv

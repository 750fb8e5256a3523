/- Sets of bytes, plainly, 3: the bytes of a set, rising. -/
import Derived.Test.YtjgldamcldbbfaaDoorRpB2
namespace Go.Rv

theorem low : ∀ (x : Nat), 0 < x → ∃ k m, x = 2 ^ k * (2 * m + 1) := by
  intro x
  induction x using Nat.strongRecOn with
  | _ x ih =>
    intro hx
    by_cases h : x % 2 = 1
    · exact ⟨0, x / 2, by omega⟩
    · obtain ⟨k, m, e⟩ := ih (x / 2) (by omega) (by omega)
      exact ⟨k + 1, m, by rw [Nat.pow_succ, Nat.mul_assoc, Nat.mul_comm 2, ← Nat.mul_assoc, ← e]; omega⟩
theorem odd_bit (m j : Nat) : (2 * m + 1).testBit j = (decide (j = 0) || m.testBit (j - 1)  && decide (j ≠ 0)) := by
  cases j with
  | zero => simp
  | succ j => rw [Nat.testBit_succ, show (2 * m + 1) / 2 = m by omega]; simp
theorem low_bit (k m j : Nat) : (2 ^ k * (2 * m + 1)).testBit j = (decide (j = k) || (decide (k < j) && m.testBit (j - k - 1))) := by
  rw [Nat.testBit_two_pow_mul, odd_bit]
  by_cases h : j < k
  · have h1 : decide (j ≥ k) = false := by simp; omega
    have h2 : decide (j = k) = false := by simp; omega
    have h3 : decide (k < j) = false := by simp; omega
    simp [h1, h2, h3]
  · by_cases h2 : j = k
    · subst h2; simp
    · have h3 : k < j := by omega
      have h4 : j ≥ k := by omega
      have h5 : j - k ≠ 0 := by omega
      simp [h2, h3, h4, h5]
theorem low_lt {k m n : Nat} (h : 2 ^ k * (2 * m + 1) < 2 ^ n) : k < n := by
  rcases Nat.lt_or_ge k n with h1 | h1
  · exact h1
  · have h2 := Nat.pow_le_pow_right (n := 2) (by decide) h1
    have h3 : 2 ^ k ≤ 2 ^ k * (2 * m + 1) := Nat.le_mul_of_pos_right _ (by omega)
    omega
/-- The lowest bit alone. -/
theorem low_neg {k m : Nat} (h : 2 ^ k * (2 * m + 1) < 2 ^ 64) : (2 ^ k * (2 * m + 1)) &&& (2 ^ 64 - 2 ^ k * (2 * m + 1)) = 2 ^ k := by
  have hk := low_lt h
  have e : 2 ^ 64 = 2 ^ k * (2 * 2 ^ (63 - k)) := by
    rw [← Nat.pow_succ', ← Nat.pow_add]; congr 1; omega
  have hm : m < 2 ^ (63 - k) := by
    rw [e] at h
    have := Nat.lt_of_mul_lt_mul_left h
    omega
  have e2 : 2 ^ 64 - 2 ^ k * (2 * m + 1) = 2 ^ k * (2 * (2 ^ (63 - k) - (m + 1)) + 1) := by
    rw [e, ← Nat.mul_sub]; congr 1; omega
  rw [e2]
  apply Nat.eq_of_testBit_eq
  intro j
  rw [Nat.testBit_and, low_bit, low_bit, Nat.testBit_two_pow, Nat.testBit_two_pow_sub_succ hm]
  by_cases h1 : j = k
  · subst h1; simp
  · have h2 : decide (k = j) = false := by simp; omega
    rw [h2]
    cases m.testBit (j - k - 1) <;> simp [h1]
/-- The lowest bit taken away. -/
theorem low_pred (k m : Nat) (j : Nat) : ((2 ^ k * (2 * m + 1)) &&& (2 ^ k * (2 * m + 1) - 1)).testBit j = ((2 ^ k * (2 * m + 1)).testBit j && decide (j ≠ k)) := by
  have hp : 0 < 2 ^ k := Nat.pos_of_ne_zero (by simp)
  have e : 2 ^ k * (2 * m + 1) - 1 = 2 ^ (k + 1) * m + (2 ^ k - 1) := by
    rw [Nat.mul_add, Nat.mul_one, Nat.pow_succ, Nat.mul_assoc]; omega
  have hlt : 2 ^ k - 1 < 2 ^ (k + 1) := by rw [Nat.pow_succ]; omega
  rw [Nat.testBit_and, e, Nat.testBit_two_pow_mul_add _ hlt, low_bit, Nat.testBit_two_pow_sub_one]
  by_cases h1 : j = k
  · subst h1; simp
  · by_cases h2 : k < j
    · have h3 : ¬ j < k + 1 := by omega
      simp [h1, h2, h3, Nat.sub_sub]
    · have : decide (k < j) = false := by simp; omega
      simp [h1, h2]

theorem table : ∀ k : _root_.Fin 64, geti deBruijn (Int.fdiv (IntKind.u64.wrap (((2 ^ k.val : Nat) : Int) * 285870213051353865)) (2 ^ min (Int.toNat 58) IntKind.u64.bits)) = some ((k.val : Nat) : Int) ∧ Int.fdiv (IntKind.u64.wrap (((2 ^ k.val : Nat) : Int) * 285870213051353865)) (2 ^ min (Int.toNat 58) IntKind.u64.bits) < 64 := by
  decide +kernel
theorem ctz_spec (K k m : Nat) (h : 2 ^ k * (2 * m + 1) < 18446744073709551616) : bits_TrailingZeros64 K ((2 ^ k * (2 * m + 1) : Nat) : Int) = some (k : Int) := by
  have h' := h
  rw [← two64] at h'
  have hk := low_lt h'
  have hpos : 0 < 2 ^ k * (2 * m + 1) := Nat.mul_pos (Nat.pos_of_ne_zero (by simp)) (by omega)
  have hand := low_neg h'
  obtain ⟨t1, t2⟩ := table ⟨k, hk⟩
  simp only at t1 t2
  generalize hx : 2 ^ k * (2 * m + 1) = x at *
  have hneg : IntKind.u64.wrap (0 - (x : Int)) = ((2 ^ 64 - x : Nat) : Int) := by rw [two64, IntKind.wrap_u64]; omega
  have hb : bits .and .u64 (x : Int) (IntKind.u64.wrap (0 - (x : Int))) = ((2 ^ k : Nat) : Int) := by
    rw [hneg, bits_and_u64_nat _ _ h (by rw [two64]; omega), hand]
  rw [bits_TrailingZeros64]
  have hc : ((x : Int) == 0) = false := by simp; omega
  rw [hc, cond_false, hb, t1, Option.bind_some, ck_pos t2, w64 (by omega) (by omega)]

/-- What stands of a word's bits, from one on. -/
def chunk (p : Nat → Bool) (i a : Nat) : List Nat := ((List.range' a (64 - a)).filter (fun j => p (64 * i + j))).map (64 * i + ·)
theorem chunk_empty (p : Nat → Bool) (i a : Nat) (h : ∀ j, j < 64 → a ≤ j → p (64 * i + j) = false) : chunk p i a = [] := by
  have : (List.range' a (64 - a)).filter (fun j => p (64 * i + j)) = [] := by
    rw [List.filter_eq_nil_iff]
    intro j hj
    rw [List.mem_range'_1] at hj
    rw [h j (by omega) hj.1]
    simp
  simp [chunk, this]
theorem chunk_step (p : Nat → Bool) (i a k : Nat) (hak : a ≤ k) (hk : k < 64) (hp : p (64 * i + k) = true) (hlow : ∀ j, a ≤ j → j < k → p (64 * i + j) = false) : chunk p i a = (64 * i + k) :: chunk p i (k + 1) := by
  have e : List.range' a (64 - a) = List.range' a (k - a) ++ k :: List.range' (k + 1) (64 - (k + 1)) := by
    have e1 : 64 - a = (k - a) + (64 - k) := by omega
    rw [e1, ← List.range'_append_1, show a + (k - a) = k by omega, show 64 - k = (64 - (k + 1)) + 1 by omega, List.range'_succ]
  have h0 : (List.range' a (k - a)).filter (fun j => p (64 * i + j)) = [] := by
    rw [List.filter_eq_nil_iff]
    intro j hj
    rw [List.mem_range'_1] at hj
    rw [hlow j hj.1 (by omega)]
    simp
  simp only [chunk, e, List.filter_append, h0, List.nil_append, List.filter_cons, hp, if_true, List.map_cons]
theorem chunk_congr {p q : Nat → Bool} {i a : Nat} (h : ∀ j, a ≤ j → j < 64 → p (64 * i + j) = q (64 * i + j)) : chunk p i a = chunk q i a := by
  have : (List.range' a (64 - a)).filter (fun j => p (64 * i + j)) = (List.range' a (64 - a)).filter (fun j => q (64 * i + j)) := List.filter_congr (fun j hj => by
    rw [List.mem_range'_1] at hj
    exact h j hj.1 (by omega))
  simp [chunk, this]
theorem chunk_len (p : Nat → Bool) (i a : Nat) : (chunk p i a).length ≤ 64 - a := by
  simp only [chunk, List.length_map]
  exact Nat.le_trans (List.length_filter_le _ _) (by simp)

theorem List_l1_spec (K : Nat) (go : Arr4 → Int → List Int → Option (List Int)) (i : Nat) (hi : i < 4) (x0 : Arr4) (x7 : Int) : ∀ (d k a : Nat) (p : Nat → Bool) (y : List Int), 64 - a = d → a ≤ 64 → (∀ j, j < a → p (64 * i + j) = false) → d < k → y.length + (64 - a) ≤ 1000 →
    bset_List_l1 K go k (i : Int) (wdi p i : Nat) x0 x7 y = go x0 (IntKind.i64.wrap (x7 + 1)) (y ++ nn (chunk p i a)) := by
  intro d
  induction d using Nat.strongRecOn with
  | _ d ih =>
    intro k a p y hd ha hlow hk hy
    obtain ⟨k, rfl⟩ : ∃ k', k = k' + 1 := ⟨k - 1, by omega⟩
    rw [bset_List_l1]
    by_cases h0 : wdi p i = 0
    · have hc : (((wdi p i : Nat) : Int) != 0) = false := by simp [h0]
      have he : chunk p i a = [] := chunk_empty p i a (fun j hj _ => by rw [← wdi_bit p i j hj, h0, Nat.zero_testBit])
      simp only [hc, cond_false, he, nn, List.map_nil, List.append_nil]
    · have hc : (((wdi p i : Nat) : Int) != 0) = true := by simp [h0]
      obtain ⟨z, m, hx⟩ := low (wdi p i) (by omega)
      have hlt := wdi_lt p i
      have hz : z < 64 := by rw [hx, ← two64] at hlt; exact low_lt hlt
      have hbit : ∀ j, j < 64 → p (64 * i + j) = (decide (j = z) || (decide (z < j) && m.testBit (j - z - 1))) := fun j hj => by rw [← wdi_bit p i j hj, hx, low_bit]
      have hpz : p (64 * i + z) = true := by rw [hbit z hz]; simp
      have haz : a ≤ z := by
        rcases Nat.lt_or_ge z a with h | h
        · rw [hlow z h] at hpz; cases hpz
        · exact h
      have hlow2 : ∀ j, a ≤ j → j < z → p (64 * i + j) = false := fun j _ hj => by
        rw [hbit j (by omega)]
        have h1 : decide (j = z) = false := by simp; omega
        have h2 : decide (z < j) = false := by simp; omega
        simp [h1, h2]
      have hctz : bits_TrailingZeros64 K ((wdi p i : Nat) : Int) = some (z : Int) := by
        rw [hx]; exact ctz_spec K z m (by rw [← hx]; exact hlt)
      have hval : IntKind.u8.wrap (IntKind.i64.wrap (IntKind.i64.wrap (64 * (i : Int)) + (z : Int))) = ((64 * i + z : Nat) : Int) := by
        rw [w64 (n := 64 * (i : Int)) (by omega) (by omega), w64 (by omega) (by omega), show 64 * (i : Int) + (z : Int) = ((64 * i + z : Nat) : Int) by omega, w8 (by omega)]
      have hroom : roomy 1 (y.length + [((64 * i + z : Nat) : Int)].length) = true := roomy_iff.2 (by simp only [List.length_singleton, maxLen]; omega)
      have hand : bits .and .u64 ((wdi p i : Nat) : Int) (IntKind.u64.wrap ((wdi p i : Nat) - 1)) = ((wdi (fun c => p c && c != 64 * i + z) i : Nat) : Int) := by
        have e1 : IntKind.u64.wrap (((wdi p i : Nat) : Int) - 1) = ((wdi p i - 1 : Nat) : Int) := by rw [wu64 (by omega) (by omega)]; omega
        rw [e1, bits_and_u64_nat _ _ hlt (by omega)]
        refine congrArg (Nat.cast (R := Int)) (eq_wdi (Nat.lt_of_le_of_lt Nat.and_le_left hlt) (fun j hj => ?_))
        rw [hx, low_pred, ← hx, wdi_bit p i j hj]
        refine congrArg (p (64 * i + j) && ·) ?_
        rw [Bool.eq_iff_iff]
        simp
      simp only [hc, cond_true]
      rw [hctz, Option.bind_some]
      simp only [hval]
      rw [ck_pos hroom, hand, ih (64 - (z + 1)) (by omega) k (z + 1) _ _ rfl (by omega) ?_ (by omega) ?_]
      · refine congrArg (go x0 _) ?_
        rw [chunk_step p i a z haz hz hpz hlow2, List.append_assoc]
        refine congrArg (y ++ ·) ?_
        have : chunk (fun c => p c && c != 64 * i + z) i (z + 1) = chunk p i (z + 1) := chunk_congr (fun j h1 _ => by
          have : (64 * i + j != 64 * i + z) = true := by simp; omega
          simp [this])
        rw [this]
        rfl
      · intro j hj
        by_cases hjz : j = z
        · subst hjz; simp
        · have : p (64 * i + j) = false := by
            rcases Nat.lt_or_ge j a with h | h
            · exact hlow j h
            · exact hlow2 j h (by omega)
          simp [this]
      · simp only [List.length_append, List.length_singleton]; omega
/-- The bytes of a set, rising. -/
def els (p : Nat → Bool) : List Nat := (List.range 256).filter p
theorem els_chunks (p : Nat → Bool) : els p = chunk p 0 0 ++ chunk p 1 0 ++ chunk p 2 0 ++ chunk p 3 0 := by
  have g : ∀ i, chunk p i 0 = (List.range' (64 * i) 64).filter p := by
    intro i
    have : (List.range' (64 * i) 64) = (List.range' 0 64).map (64 * i + ·) := by rw [List.map_add_range']; simp
    rw [this, List.filter_map]
    rfl
  have r : List.range 256 = List.range' (64 * 0) 64 ++ List.range' (64 * 1) 64 ++ List.range' (64 * 2) 64 ++ List.range' (64 * 3) 64 := by
    show _ = List.range' 0 64 ++ List.range' (0 + 64) 64 ++ List.range' (0 + (64 + 64)) 64 ++ List.range' (0 + (64 + 64 + 64)) 64
    rw [List.range'_append_1, List.range'_append_1, List.range'_append_1, List.range_eq_range']
  rw [g 0, g 1, g 2, g 3, ← List.filter_append, ← List.filter_append, ← List.filter_append, els, r]
theorem List_spec (K : Nat) (hK : 65 < K) (p : Nat → Bool) : bset_List K (st p) = some (nn (els p)) := by
  obtain ⟨k, rfl⟩ : ∃ k', K = k' + 5 := ⟨K - 5, by omega⟩
  have e : ∀ a b c d : Int, (Arr4.mk a b c d).get 0 = a ∧ (Arr4.mk a b c d).get 1 = b ∧ (Arr4.mk a b c d).get 2 = c ∧ (Arr4.mk a b c d).get 3 = d := fun a b c d => ⟨rfl, rfl, rfl, rfl⟩
  have l := fun i => chunk_len p i 0
  have l0 := l 0
  have l1 := l 1
  have l2 := l 2
  have l3 := l 3
  have s0 := fun go x0 x7 => List_l1_spec (k + 5) go 0 (by omega) x0 x7 64 (k + 5) 0 p [] (by omega) (by omega) (by omega) (by omega) (by simp)
  have s1 := fun go x0 x7 y (h : y.length ≤ 500) => List_l1_spec (k + 5) go 1 (by omega) x0 x7 64 (k + 5) 0 p y (by omega) (by omega) (by omega) (by omega) (by omega)
  have s2 := fun go x0 x7 y (h : y.length ≤ 500) => List_l1_spec (k + 5) go 2 (by omega) x0 x7 64 (k + 5) 0 p y (by omega) (by omega) (by omega) (by omega) (by omega)
  have s3 := fun go x0 x7 y (h : y.length ≤ 500) => List_l1_spec (k + 5) go 3 (by omega) x0 x7 64 (k + 5) 0 p y (by omega) (by omega) (by omega) (by omega) (by omega)
  have c0 : (decide ((0 : Int) < 4)) = true := by decide
  have c1 : (decide ((1 : Int) < 4)) = true := by decide
  have c2 : (decide ((2 : Int) < 4)) = true := by decide
  have c3 : (decide ((3 : Int) < 4)) = true := by decide
  have c4 : (decide ((4 : Int) < 4)) = false := by decide
  have g0 : (st p).get 0 = ((wdi p 0 : Nat) : Int) := rfl
  have g1 : (st p).get 1 = ((wdi p 1 : Nat) : Int) := rfl
  have g2 : (st p).get 2 = ((wdi p 2 : Nat) : Int) := rfl
  have g3 : (st p).get 3 = ((wdi p 3 : Nat) : Int) := rfl
  rw [bset_List, bset_List_l0]
  simp only [c0, cond_true]
  rw [ck_pos (by decide), g0, show (0 : Int) = ((0 : Nat) : Int) from rfl, s0]
  rw [show IntKind.i64.wrap (((0 : Nat) : Int) + 1) = 1 from q01, bset_List_l0]
  simp only [c1, cond_true]
  rw [ck_pos (by decide), g1, show (1 : Int) = ((1 : Nat) : Int) from rfl, s1 _ _ _ _ (by simp [nn]; omega)]
  rw [show IntKind.i64.wrap (((1 : Nat) : Int) + 1) = 2 from q12, bset_List_l0]
  simp only [c2, cond_true]
  rw [ck_pos (by decide), g2, show (2 : Int) = ((2 : Nat) : Int) from rfl, s2 _ _ _ _ (by simp [nn]; omega)]
  rw [show IntKind.i64.wrap (((2 : Nat) : Int) + 1) = 3 from q23, bset_List_l0]
  simp only [c3, cond_true]
  rw [ck_pos (by decide), g3, show (3 : Int) = ((3 : Nat) : Int) from rfl, s3 _ _ _ _ (by simp [nn]; omega)]
  rw [show IntKind.i64.wrap (((3 : Nat) : Int) + 1) = 4 from q34, bset_List_l0]
  simp only [c4, cond_false]
  rw [els_chunks]
  simp [nn]
end Go.Rv

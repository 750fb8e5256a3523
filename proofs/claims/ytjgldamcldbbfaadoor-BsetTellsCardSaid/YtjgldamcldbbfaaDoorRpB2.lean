/- Sets of bytes, plainly, 2: Range, Or, And, Not, Has. -/
import Derived.Test.YtjgldamcldbbfaaDoorRpB1
namespace Go.Rv

theorem Range_l0_spec (K hi : Nat) (hh : hi < 256) (y : Arr4) : ∀ (m k b : Nat) (p : Nat → Bool), hi + 1 - b = m → b ≤ 256 → m < k →
    bset_Range_l0 K k (hi : Int) (b : Int) y (st p) = some (st (fun c => p c || (decide (b ≤ c) && decide (c ≤ hi)))) := by
  intro m
  induction m with
  | zero =>
    intro k b p hm hb hk
    obtain ⟨k, rfl⟩ : ∃ k', k = k' + 1 := ⟨k - 1, by omega⟩
    rw [bset_Range_l0]
    simp only [w64 (n := (hi : Int)) (by omega) (by omega)]
    have hc : (decide ((b : Int) ≤ (hi : Int))) = false := by simp; omega
    simp only [hc, cond_false]
    refine congrArg some (st_congr (fun c _ => ?_))
    have : (decide (b ≤ c) && decide (c ≤ hi)) = false := by simp; omega
    rw [this, Bool.or_false]
  | succ m ih =>
    intro k b p hm hb hk
    obtain ⟨k, rfl⟩ : ∃ k', k = k' + 1 := ⟨k - 1, by omega⟩
    have hbl : b < 256 := by omega
    rw [bset_Range_l0]
    simp only [w64 (n := (hi : Int)) (by omega) (by omega)]
    have hc : (decide ((b : Int) ≤ (hi : Int))) = true := by simp; omega
    simp only [hc, cond_true]
    rw [div64' _ hbl, mod64, pow64 _ (Nat.mod_lt _ (by decide)), ck_pos ⟨by omega, by omega⟩, ck_pos (by omega), st_add p _ hbl, w64 (n := (b : Int) + 1) (by omega) (by omega)]
    rw [show ((b : Int) + 1) = ((b + 1 : Nat) : Int) by omega, ih k (b + 1) _ (by omega) (by omega) (by omega)]
    refine congrArg some (st_congr (fun c _ => ?_))
    rw [Bool.eq_iff_iff]
    simp only [Bool.or_eq_true, beq_iff_eq, Bool.and_eq_true, decide_eq_true_eq]
    constructor
    · rintro ((h | h) | h)
      · exact .inl h
      · exact .inr (by omega)
      · exact .inr (by omega)
    · rintro (h | h)
      · exact .inl (.inl h)
      · by_cases hcb : c = b
        · exact .inl (.inr hcb)
        · exact .inr (by omega)
theorem Range_spec (K lo hi : Nat) (hl : lo < 256) (hh : hi < 256) (hK : 257 < K) : bset_Range K (lo : Int) (hi : Int) = some (st (fun c => decide (lo ≤ c) && decide (c ≤ hi))) := by
  rw [bset_Range, st_none, w64 (by omega) (by omega), Range_l0_spec K hi hh _ (hi + 1 - lo) K lo _ rfl (by omega) (by omega)]
  simp

theorem orW (p q : Nat → Bool) (i : Nat) : bits .or .u64 (wdi p i : Nat) (wdi q i : Nat) = (wdi (fun c => p c || q c) i : Nat) := by
  have h1 := wdi_lt p i
  have h2 := wdi_lt q i
  rw [bits_or_u64_nat _ _ h1 h2]
  refine congrArg (Nat.cast (R := Int)) (eq_wdi ?_ (fun j hj => ?_))
  · rw [← two64] at h1 h2 ⊢
    exact Nat.or_lt_two_pow h1 h2
  · rw [Nat.testBit_or, wdi_bit p _ j hj, wdi_bit q _ j hj]
theorem andW (p q : Nat → Bool) (i : Nat) : bits .and .u64 (wdi p i : Nat) (wdi q i : Nat) = (wdi (fun c => p c && q c) i : Nat) := by
  have h1 := wdi_lt p i
  have h2 := wdi_lt q i
  rw [bits_and_u64_nat _ _ h1 h2]
  refine congrArg (Nat.cast (R := Int)) (eq_wdi (Nat.lt_of_le_of_lt Nat.and_le_left h1) (fun j hj => ?_))
  rw [Nat.testBit_and, wdi_bit p _ j hj, wdi_bit q _ j hj]
theorem notW (p : Nat → Bool) (i : Nat) : bits .xor .u64 IntKind.u64.max (wdi p i : Nat) = (wdi (fun c => !p c) i : Nat) := by
  have h1 := wdi_lt p i
  have e : IntKind.u64.max = ((2 ^ 64 - 1 : Nat) : Int) := by decide
  have hm : 2 ^ 64 - 1 < 18446744073709551616 := by decide
  rw [e, bits_xor_u64_nat _ _ hm h1]
  refine congrArg (Nat.cast (R := Int)) (eq_wdi ?_ (fun j hj => ?_))
  · rw [← two64] at h1 hm ⊢
    exact Nat.xor_lt_two_pow hm h1
  · rw [Nat.testBit_xor, wdi_bit p _ j hj, Nat.testBit_two_pow_sub_one]
    simp [hj]

theorem q01 : IntKind.i64.wrap (0 + 1) = 1 := by decide
theorem q12 : IntKind.i64.wrap (1 + 1) = 2 := by decide
theorem q23 : IntKind.i64.wrap (2 + 1) = 3 := by decide
theorem q34 : IntKind.i64.wrap (3 + 1) = 4 := by decide
theorem Or_l1_spec (K : Nat) (go : List Arr4 → Int → Int → Arr4 → Arr4 → Option Arr4) (k : Nat) (hk : 5 ≤ k) (xs : List Arr4) (n i : Int) (y : Arr4) (p q : Nat → Bool) :
    bset_Or_l1 K go k xs n i (st q) 0 y (st p) = go xs n (IntKind.i64.wrap (i + 1)) y (st (fun c => p c || q c)) := by
  obtain ⟨k, rfl⟩ : ∃ k', k = k' + 5 := ⟨k - 5, by omega⟩
  have e : ∀ a b c d : Int, (Arr4.mk a b c d).get 0 = a ∧ (Arr4.mk a b c d).get 1 = b ∧ (Arr4.mk a b c d).get 2 = c ∧ (Arr4.mk a b c d).get 3 = d := fun a b c d => ⟨rfl, rfl, rfl, rfl⟩
  have f : ∀ a b c d v : Int, (Arr4.mk a b c d).set 0 v = ⟨v, b, c, d⟩ ∧ (Arr4.mk a b c d).set 1 v = ⟨a, v, c, d⟩ ∧ (Arr4.mk a b c d).set 2 v = ⟨a, b, v, d⟩ ∧ (Arr4.mk a b c d).set 3 v = ⟨a, b, c, v⟩ := fun a b c d v => ⟨rfl, rfl, rfl, rfl⟩
  simp only [bset_Or_l1, st, ck, q01, q12, q23, q34, (e _ _ _ _).1, (e _ _ _ _).2.1, (e _ _ _ _).2.2.1, (e _ _ _ _).2.2.2, (f _ _ _ _ _).1, (f _ _ _ _ _).2.1, (f _ _ _ _ _).2.2.1, (f _ _ _ _ _).2.2.2, orW]
  rfl
theorem Or_l0_spec (K : Nat) (hK : 5 ≤ K) (qs : List (Nat → Bool)) (hl : qs.length < 4611686018427387904) (y : Arr4) : ∀ (m k i : Nat) (p : Nat → Bool), qs.length - i = m → i ≤ qs.length → m < k →
    bset_Or_l0 K k (qs.map st) (qs.length : Int) (i : Int) y (st p) = some (st (fun c => p c || (qs.drop i).any (fun q => q c))) := by
  intro m
  induction m with
  | zero =>
    intro k i p hm hi hk
    obtain ⟨k, rfl⟩ : ∃ k', k = k' + 1 := ⟨k - 1, by omega⟩
    have hi' : i = qs.length := by omega
    rw [bset_Or_l0, hi']
    simp
  | succ m ih =>
    intro k i p hm hi hk
    obtain ⟨k, rfl⟩ : ∃ k', k = k' + 1 := ⟨k - 1, by omega⟩
    have hlt : i < qs.length := by omega
    rw [bset_Or_l0]
    have hc : (decide ((i : Int) < (qs.length : Int))) = true := by simp; exact hlt
    have hg : geti (qs.map st) (i : Int) = some (st qs[i]) := by rw [geti_nat (by simpa using hlt)]; simp
    simp only [hc, cond_true, hg, Option.bind_some]
    rw [Or_l1_spec K _ K hK, w64 (by omega) (by omega), show ((i : Int) + 1) = ((i + 1 : Nat) : Int) by omega, ih k (i + 1) _ (by omega) (by omega) (by omega)]
    refine congrArg some (st_congr (fun c _ => ?_))
    rw [List.drop_eq_getElem_cons hlt, List.any_cons, Bool.or_assoc]
theorem Or_spec (K : Nat) (hK : 5 ≤ K) (qs : List (Nat → Bool)) (hl : qs.length < 4611686018427387904) (hn : qs.length < K) : bset_Or K (qs.map st) = some (st (fun c => qs.any (fun q => q c))) := by
  rw [bset_Or, st_none, List.length_map]
  have := Or_l0_spec K hK qs hl (st fun _ => false) qs.length K 0 (fun _ => false) (by omega) (by omega) hn
  rw [Int.ofNat_zero] at this
  rw [this]
  simp
theorem Or2 (K : Nat) (hK : 5 ≤ K) (p q : Nat → Bool) : bset_Or K [st p, st q] = some (st (fun c => p c || q c)) := by
  have := Or_spec K hK [p, q] (by simp) (by simp; omega)
  simpa using this

theorem Not_spec (K : Nat) (hK : 5 ≤ K) (p : Nat → Bool) : bset_Not K (st p) = some (st (fun c => !p c)) := by
  obtain ⟨k, rfl⟩ : ∃ k', K = k' + 5 := ⟨K - 5, by omega⟩
  have e : ∀ a b c d : Int, (Arr4.mk a b c d).get 0 = a ∧ (Arr4.mk a b c d).get 1 = b ∧ (Arr4.mk a b c d).get 2 = c ∧ (Arr4.mk a b c d).get 3 = d := fun a b c d => ⟨rfl, rfl, rfl, rfl⟩
  have f : ∀ a b c d v : Int, (Arr4.mk a b c d).set 0 v = ⟨v, b, c, d⟩ ∧ (Arr4.mk a b c d).set 1 v = ⟨a, v, c, d⟩ ∧ (Arr4.mk a b c d).set 2 v = ⟨a, b, v, d⟩ ∧ (Arr4.mk a b c d).set 3 v = ⟨a, b, c, v⟩ := fun a b c d v => ⟨rfl, rfl, rfl, rfl⟩
  simp only [bset_Not, bset_Not_l0, st, ck, q01, q12, q23, q34, (e _ _ _ _).1, (e _ _ _ _).2.1, (e _ _ _ _).2.2.1, (e _ _ _ _).2.2.2, (f _ _ _ _ _).1, (f _ _ _ _ _).2.1, (f _ _ _ _ _).2.2.1, (f _ _ _ _ _).2.2.2, notW]
  rfl

theorem And_l1_spec (K : Nat) (go : List Arr4 → Int → Int → Arr4 → Arr4 → Option Arr4) (k : Nat) (hk : 5 ≤ k) (xs : List Arr4) (n i : Int) (y : Arr4) (p q : Nat → Bool) :
    bset_And_l1 K go k xs n i (st q) 0 y (st p) = go xs n (IntKind.i64.wrap (i + 1)) y (st (fun c => p c && q c)) := by
  obtain ⟨k, rfl⟩ : ∃ k', k = k' + 5 := ⟨k - 5, by omega⟩
  have e : ∀ a b c d : Int, (Arr4.mk a b c d).get 0 = a ∧ (Arr4.mk a b c d).get 1 = b ∧ (Arr4.mk a b c d).get 2 = c ∧ (Arr4.mk a b c d).get 3 = d := fun a b c d => ⟨rfl, rfl, rfl, rfl⟩
  have f : ∀ a b c d v : Int, (Arr4.mk a b c d).set 0 v = ⟨v, b, c, d⟩ ∧ (Arr4.mk a b c d).set 1 v = ⟨a, v, c, d⟩ ∧ (Arr4.mk a b c d).set 2 v = ⟨a, b, v, d⟩ ∧ (Arr4.mk a b c d).set 3 v = ⟨a, b, c, v⟩ := fun a b c d v => ⟨rfl, rfl, rfl, rfl⟩
  simp only [bset_And_l1, st, ck, q01, q12, q23, q34, (e _ _ _ _).1, (e _ _ _ _).2.1, (e _ _ _ _).2.2.1, (e _ _ _ _).2.2.2, (f _ _ _ _ _).1, (f _ _ _ _ _).2.1, (f _ _ _ _ _).2.2.1, (f _ _ _ _ _).2.2.2, andW]
  rfl
theorem And_l0_spec (K : Nat) (hK : 5 ≤ K) (qs : List (Nat → Bool)) (hl : qs.length < 4611686018427387904) (y : Arr4) : ∀ (m k i : Nat) (p : Nat → Bool), qs.length - i = m → i ≤ qs.length → m < k →
    bset_And_l0 K k (qs.map st) (qs.length : Int) (i : Int) y (st p) = some (st (fun c => p c && (qs.drop i).all (fun q => q c))) := by
  intro m
  induction m with
  | zero =>
    intro k i p hm hi hk
    obtain ⟨k, rfl⟩ : ∃ k', k = k' + 1 := ⟨k - 1, by omega⟩
    have hi' : i = qs.length := by omega
    rw [bset_And_l0, hi']
    simp
  | succ m ih =>
    intro k i p hm hi hk
    obtain ⟨k, rfl⟩ : ∃ k', k = k' + 1 := ⟨k - 1, by omega⟩
    have hlt : i < qs.length := by omega
    rw [bset_And_l0]
    have hc : (decide ((i : Int) < (qs.length : Int))) = true := by simp; exact hlt
    have hg : geti (qs.map st) (i : Int) = some (st qs[i]) := by rw [geti_nat (by simpa using hlt)]; simp
    simp only [hc, cond_true, hg, Option.bind_some]
    rw [And_l1_spec K _ K hK, w64 (by omega) (by omega), show ((i : Int) + 1) = ((i + 1 : Nat) : Int) by omega, ih k (i + 1) _ (by omega) (by omega) (by omega)]
    refine congrArg some (st_congr (fun c _ => ?_))
    rw [List.drop_eq_getElem_cons hlt, List.all_cons, Bool.and_assoc]
theorem And_spec (K : Nat) (hK : 5 ≤ K) (qs : List (Nat → Bool)) (hl : qs.length < 4611686018427387904) (hn : qs.length < K) : bset_And K (qs.map st) = some (st (fun c => qs.all (fun q => q c))) := by
  rw [bset_And, st_none, Not_spec K hK, Option.bind_some, List.length_map]
  have := And_l0_spec K hK qs hl (st fun _ => false) qs.length K 0 (fun c => !(fun _ => false) c) (by omega) (by omega) hn
  rw [Int.ofNat_zero] at this
  rw [this]
  simp
theorem And2 (K : Nat) (hK : 5 ≤ K) (p q : Nat → Bool) : bset_And K [st p, st q] = some (st (fun c => p c && q c)) := by
  have := And_spec K hK [p, q] (by simp) (by simp; omega)
  simpa using this

theorem fdivN (x n : Nat) : Int.fdiv (x : Int) (2 ^ n) = ((x / 2 ^ n : Nat) : Int) := by
  rw [Int.fdiv_eq_ediv_of_nonneg _ (by exact_mod_cast Nat.zero_le (2 ^ n))]
  exact_mod_cast rfl
theorem shr64 (x b : Nat) (h : b < 64) : Int.fdiv (x : Int) (2 ^ min (Int.toNat (b : Int)) IntKind.u64.bits) = ((x / 2 ^ b : Nat) : Int) := by
  have hb : min (Int.toNat (b : Int)) IntKind.u64.bits = b := by
    simp only [IntKind.bits, Int.toNat_natCast]; omega
  rw [hb, fdivN]
theorem bit_mod (x b : Nat) : x / 2 ^ b % 2 = (x.testBit b).toNat := by
  rw [Nat.testBit_eq_decide_div_mod_eq]
  have : x / 2 ^ b % 2 = 0 ∨ x / 2 ^ b % 2 = 1 := by omega
  rcases this with h | h <;> rw [h] <;> simp
theorem rHas_spec (K : Nat) (p : Nat → Bool) (b : Nat) (hb : b < 256) : raddleref01_Has K (st p) (b : Int) = some (p b) := by
  rw [raddleref01_Has, div64 _ hb, mod64, ck_pos ⟨by omega, by omega⟩, ck_pos (by omega), st_get p (by omega), shr64 _ _ (Nat.mod_lt _ (by decide))]
  have : Int.tmod ((wdi p (b / 64) / 2 ^ (b % 64) : Nat) : Int) 2 = ((wdi p (b / 64) / 2 ^ (b % 64) % 2 : Nat) : Int) := (Int.ofNat_tmod _ 2).symm
  rw [this, bit_mod, wdi_bit p _ _ (Nat.mod_lt _ (by decide)), Nat.div_add_mod]
  cases p b <;> rfl
end Go.Rv

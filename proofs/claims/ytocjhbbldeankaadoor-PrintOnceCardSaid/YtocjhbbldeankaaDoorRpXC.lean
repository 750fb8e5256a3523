/- Print, plainly: a byte as it stands in a pattern; the law PrintBytes. -/
/- Print, plainly: the bytes of a set, rising, and its ranges; the document's too. -/
/- Print, plainly: a set as it stands in a pattern. -/
import Derived.Test.YtocjhbbldeankaaDoorRpSO
import Derived.Test.YtocjhbbldeankaaDoorRpSC
namespace Go.Rv
def hxN (n : Nat) : Nat := if n < 10 then 48 + n else 87 + n
def pbL (c : Nat) : List Nat :=
 if (specN c || c == 45) = true then [92, c] else if c = 10 then [92, 110] else if c = 9 then [92, 116] else if c = 13 then [92, 114]
 else if c < 32 ∨ 126 < c then [92, 120, hxN (c / 16), hxN (c % 16)] else [c]
theorem Byte_all : ∀ c : _root_.Fin 256, print_Byte 70 ((c.val : Nat) : Int) = some (toB (pbL c.val)) := by decide +kernel
theorem Byte_ok {K c : Nat} (h : c < 256) (hK : 70 ≤ K) : print_Byte K (c : Int) = some (toB (pbL c)) := print_Byte_le hK _ _ (Byte_all ⟨c, h⟩)
end Go.Rv
namespace Go.Rv
theorem low : ∀ (x : Nat), 0 < x → ∃ k m, x = 2 ^ k * (2 * m + 1) := by
 intro x
 induction x using Nat.strongRecOn with
 | _ x ih =>
  intro hx
  by_cases h : x % 2 = 1
  ·exact ⟨0, x / 2, by omega⟩
  ·obtain ⟨k, m, e⟩ := ih (x / 2) (by omega) (by omega)
   exact ⟨k + 1, m, by rw [Nat.pow_succ, Nat.mul_assoc, Nat.mul_comm 2, ← Nat.mul_assoc, ← e]; omega⟩
theorem odd_bit (m j : Nat) : (2 * m + 1).testBit j = (decide (j = 0) || m.testBit (j - 1)  && decide (j ≠ 0)) := by
 cases j with
 | zero => simp
 | succ j => rw [Nat.testBit_succ, show (2 * m + 1) / 2 = m by omega]; simp
theorem low_bit (k m j : Nat) : (2 ^ k * (2 * m + 1)).testBit j = (decide (j = k) || (decide (k < j) && m.testBit (j - k - 1))) := by
 rw [Nat.testBit_two_pow_mul, odd_bit]
 by_cases h : j < k
 ·have h1 : decide (j ≥ k) = false := by simp; omega
  have h2 : decide (j = k) = false := by simp; omega
  have h3 : decide (k < j) = false := by simp; omega
  simp [h1, h2, h3]
 ·by_cases h2 : j = k
  ·subst h2; simp
  ·have h3 : k < j := by omega
   have h4 : j ≥ k := by omega
   have h5 : j - k ≠ 0 := by omega
   simp [h2, h3, h4, h5]
theorem low_lt {k m n : Nat} (h : 2 ^ k * (2 * m + 1) < 2 ^ n) : k < n := by
 rcases Nat.lt_or_ge k n with h1 | h1
 ·exact h1
 ·have h2 := Nat.pow_le_pow_right (n := 2) (by decide) h1
  have h3 : 2 ^ k ≤ 2 ^ k * (2 * m + 1) := Nat.le_mul_of_pos_right _ (by omega)
  omega
theorem low_neg {k m : Nat} (h : 2 ^ k * (2 * m + 1) < 2 ^ 64) : (2 ^ k * (2 * m + 1)) &&& (2 ^ 64 - 2 ^ k * (2 * m + 1)) = 2 ^ k := by
 have hk := low_lt h
 have e : 2 ^ 64 = 2 ^ k * (2 * 2 ^ (63 - k)) := by
  rw [← Nat.pow_succ', ← Nat.pow_add]; congr 1; omega
 have hm : m < 2 ^ (63 - k) := by
  rw [e] at h
  have := Nat.lt_of_mul_lt_mul_left h
  omega
 have e2 : 2 ^ 64 - 2 ^ k * (2 * m + 1) = 2 ^ k * (2 * (2 ^ (63 - k) - (m + 1)) + 1) := by
  rw [e, ← Nat.mul_sub]; congr 1; omega
 rw [e2]
 apply Nat.eq_of_testBit_eq
 intro j
 rw [Nat.testBit_and, low_bit, low_bit, Nat.testBit_two_pow, Nat.testBit_two_pow_sub_succ hm]
 by_cases h1 : j = k
 ·subst h1; simp
 ·have h2 : decide (k = j) = false := by simp; omega
  rw [h2]
  cases m.testBit (j - k - 1) <;> simp [h1]
theorem low_pred (k m : Nat) (j : Nat) : ((2 ^ k * (2 * m + 1)) &&& (2 ^ k * (2 * m + 1) - 1)).testBit j = ((2 ^ k * (2 * m + 1)).testBit j && decide (j ≠ k)) := by
 have hp : 0 < 2 ^ k := Nat.pos_of_ne_zero (by simp)
 have e : 2 ^ k * (2 * m + 1) - 1 = 2 ^ (k + 1) * m + (2 ^ k - 1) := by
  rw [Nat.mul_add, Nat.mul_one, Nat.pow_succ, Nat.mul_assoc]; omega
 have hlt : 2 ^ k - 1 < 2 ^ (k + 1) := by rw [Nat.pow_succ]; omega
 rw [Nat.testBit_and, e, Nat.testBit_two_pow_mul_add _ hlt, low_bit, Nat.testBit_two_pow_sub_one]
 by_cases h1 : j = k
 ·subst h1; simp
 ·by_cases h2 : k < j
  ·have h3 : ¬ j < k + 1 := by omega
   simp [h1, h2, h3, Nat.sub_sub]
  ·have : decide (k < j) = false := by simp; omega
   simp [h1, h2]
theorem table : ∀ k : _root_.Fin 64, geti deBruijn (Int.fdiv (IntKind.u64.wrap (((2 ^ k.val : Nat) : Int) * 285870213051353865)) (2 ^ min (Int.toNat 58) IntKind.u64.bits)) = some ((k.val : Nat) : Int) ∧ Int.fdiv (IntKind.u64.wrap (((2 ^ k.val : Nat) : Int) * 285870213051353865)) (2 ^ min (Int.toNat 58) IntKind.u64.bits) < 64 := by
 decide +kernel
theorem ctz_spec (K k m : Nat) (h : 2 ^ k * (2 * m + 1) < 18446744073709551616) : bits_TrailingZeros64 K ((2 ^ k * (2 * m + 1) : Nat) : Int) = some (k : Int) := by
 have h' := h
 rw [← two64] at h'
 have hk := low_lt h'
 have hpos : 0 < 2 ^ k * (2 * m + 1) := Nat.mul_pos (Nat.pos_of_ne_zero (by simp)) (by omega)
 have hand := low_neg h'
 obtain ⟨t1, t2⟩ := table ⟨k, hk⟩
 simp only at t1 t2
 generalize hx : 2 ^ k * (2 * m + 1) = x at *
 have hneg : IntKind.u64.wrap (0 - (x : Int)) = ((2 ^ 64 - x : Nat) : Int) := by rw [two64, IntKind.wrap_u64]; omega
 have hb : bits .and .u64 (x : Int) (IntKind.u64.wrap (0 - (x : Int))) = ((2 ^ k : Nat) : Int) := by
  rw [hneg, bits_and_u64_nat _ _ h (by rw [two64]; omega), hand]
 rw [bits_TrailingZeros64]
 have hc : ((x : Int) == 0) = false := by simp; omega
 rw [hc, cF, hb, t1, bS, ck_pos t2, w64 (by omega) (by omega)]
def chunk (p : Nat → Bool) (i a : Nat) : List Nat := ((List.range' a (64 - a)).filter (fun j => p (64 * i + j))).map (64 * i + ·)
theorem chunk_empty (p : Nat → Bool) (i a : Nat) (h : ∀ j, j < 64 → a ≤ j → p (64 * i + j) = false) : chunk p i a = [] := by
 have : (List.range' a (64 - a)).filter (fun j => p (64 * i + j)) = [] := by
  rw [List.filter_eq_nil_iff]
  intro j hj
  rw [List.mem_range'_1] at hj
  rw [h j (by omega) hj.1]
  simp
 simp [chunk, this]
theorem chunk_step (p : Nat → Bool) (i a k : Nat) (hak : a ≤ k) (hk : k < 64) (hp : p (64 * i + k) = true) (hlow : ∀ j, a ≤ j → j < k → p (64 * i + j) = false) : chunk p i a = (64 * i + k) :: chunk p i (k + 1) := by
 have e : List.range' a (64 - a) = List.range' a (k - a) ++ k :: List.range' (k + 1) (64 - (k + 1)) := by
  have e1 : 64 - a = (k - a) + (64 - k) := by omega
  rw [e1, ← List.range'_append_1, show a + (k - a) = k by omega, show 64 - k = (64 - (k + 1)) + 1 by omega, List.range'_succ]
 have h0 : (List.range' a (k - a)).filter (fun j => p (64 * i + j)) = [] := by
  rw [List.filter_eq_nil_iff]
  intro j hj
  rw [List.mem_range'_1] at hj
  rw [hlow j hj.1 (by omega)]
  simp
 simp only [chunk, e, List.filter_append, h0, List.nil_append, List.filter_cons, hp, if_true, List.map_cons]
theorem chunk_congr {p q : Nat → Bool} {i a : Nat} (h : ∀ j, a ≤ j → j < 64 → p (64 * i + j) = q (64 * i + j)) : chunk p i a = chunk q i a := by
 have : (List.range' a (64 - a)).filter (fun j => p (64 * i + j)) = (List.range' a (64 - a)).filter (fun j => q (64 * i + j)) := List.filter_congr (fun j hj => by
  rw [List.mem_range'_1] at hj
  exact h j hj.1 (by omega))
 simp [chunk, this]
theorem chunk_len (p : Nat → Bool) (i a : Nat) : (chunk p i a).length ≤ 64 - a := by
 simp only [chunk, List.length_map]
 exact Nat.le_trans (List.length_filter_le _ _) (by simp)
theorem List_l1_spec (K : Nat) (go : Arr4 → Int → List Int → Option (List Int)) (i : Nat) (hi : i < 4) (x0 : Arr4) (x7 : Int) : ∀ (d k a : Nat) (p : Nat → Bool) (y : List Int), 64 - a = d → a ≤ 64 → (∀ j, j < a → p (64 * i + j) = false) → d < k → y.length + (64 - a) ≤ 1000 →
  bset_List_l1 K go k (i : Int) (wdi p i : Nat) x0 x7 y = go x0 (IntKind.i64.wrap (x7 + 1)) (y ++ nn (chunk p i a)) := by
 intro d
 induction d using Nat.strongRecOn with
 | _ d ih =>
  intro k a p y hd ha hlow hk hy
  obtain ⟨k, rfl⟩ : ∃ k', k = k' + 1 := ⟨k - 1, by omega⟩
  rw [bset_List_l1]
  by_cases h0 : wdi p i = 0
  ·have hc : (((wdi p i : Nat) : Int) != 0) = false := by simp [h0]
   have he : chunk p i a = [] := chunk_empty p i a (fun j hj _ => by rw [← wdi_bit p i j hj, h0, Nat.zero_testBit])
   simp only [hc, cF, he, nn, List.map_nil, List.append_nil]
  ·have hc : (((wdi p i : Nat) : Int) != 0) = true := by simp [h0]
   obtain ⟨z, m, hx⟩ := low (wdi p i) (by omega)
   have hlt := wdi_lt p i
   have hz : z < 64 := by rw [hx, ← two64] at hlt; exact low_lt hlt
   have hbit : ∀ j, j < 64 → p (64 * i + j) = (decide (j = z) || (decide (z < j) && m.testBit (j - z - 1))) := fun j hj => by rw [← wdi_bit p i j hj, hx, low_bit]
   have hpz : p (64 * i + z) = true := by rw [hbit z hz]; simp
   have haz : a ≤ z := by
    rcases Nat.lt_or_ge z a with h | h
    ·rw [hlow z h] at hpz; cases hpz
    ·exact h
   have hlow2 : ∀ j, a ≤ j → j < z → p (64 * i + j) = false := fun j _ hj => by
    rw [hbit j (by omega)]
    have h1 : decide (j = z) = false := by simp; omega
    have h2 : decide (z < j) = false := by simp; omega
    simp [h1, h2]
   have hctz : bits_TrailingZeros64 K ((wdi p i : Nat) : Int) = some (z : Int) := by
    rw [hx]; exact ctz_spec K z m (by rw [← hx]; exact hlt)
   have hval : IntKind.u8.wrap (IntKind.i64.wrap (IntKind.i64.wrap (64 * (i : Int)) + (z : Int))) = ((64 * i + z : Nat) : Int) := by
    rw [w64 (n := 64 * (i : Int)) (by omega) (by omega), w64 (by omega) (by omega), show 64 * (i : Int) + (z : Int) = ((64 * i + z : Nat) : Int) by omega, w8 (by omega)]
   have hroom : roomy 1 (y.length + [((64 * i + z : Nat) : Int)].length) = true := roomy_iff.2 (by simp only [List.length_singleton, maxLen]; omega)
   have hand : bits .and .u64 ((wdi p i : Nat) : Int) (IntKind.u64.wrap ((wdi p i : Nat) - 1)) = ((wdi (fun c => p c && c != 64 * i + z) i : Nat) : Int) := by
    have e1 : IntKind.u64.wrap (((wdi p i : Nat) : Int) - 1) = ((wdi p i - 1 : Nat) : Int) := by rw [wu64 (by omega) (by omega)]; omega
    rw [e1, bits_and_u64_nat _ _ hlt (by omega)]
    refine congrArg (Nat.cast (R := Int)) (eq_wdi (Nat.lt_of_le_of_lt Nat.and_le_left hlt) (fun j hj => ?_))
    rw [hx, low_pred, ← hx, wdi_bit p i j hj]
    refine congrArg (p (64 * i + j) && ·) ?_
    rw [Bool.eq_iff_iff]
    simp
   simp only [hc, cT]
   rw [hctz, bS]
   simp only [hval]
   rw [ck_pos hroom, hand, ih (64 - (z + 1)) (by omega) k (z + 1) _ _ rfl (by omega) ?_ (by omega) ?_]
   ·refine congrArg (go x0 _) ?_
    rw [chunk_step p i a z haz hz hpz hlow2, List.append_assoc]
    refine congrArg (y ++ ·) ?_
    have : chunk (fun c => p c && c != 64 * i + z) i (z + 1) = chunk p i (z + 1) := chunk_congr (fun j h1 _ => by
     have : (64 * i + j != 64 * i + z) = true := by simp; omega
     simp [this])
    rw [this]
    rfl
   ·intro j hj
    by_cases hjz : j = z
    ·subst hjz; simp
    ·have : p (64 * i + j) = false := by
      rcases Nat.lt_or_ge j a with h | h
      ·exact hlow j h
      ·exact hlow2 j h (by omega)
     simp [this]
   ·simp only [List.length_append, List.length_singleton]; omega
def els (p : Nat → Bool) : List Nat := (List.range 256).filter p
theorem els_chunks (p : Nat → Bool) : els p = chunk p 0 0 ++ chunk p 1 0 ++ chunk p 2 0 ++ chunk p 3 0 := by
 have g : ∀ i, chunk p i 0 = (List.range' (64 * i) 64).filter p := by
  intro i
  have : (List.range' (64 * i) 64) = (List.range' 0 64).map (64 * i + ·) := by rw [List.map_add_range']; simp
  rw [this, List.filter_map]
  rfl
 have r : List.range 256 = List.range' (64 * 0) 64 ++ List.range' (64 * 1) 64 ++ List.range' (64 * 2) 64 ++ List.range' (64 * 3) 64 := by
  show _ = List.range' 0 64 ++ List.range' (0 + 64) 64 ++ List.range' (0 + (64 + 64)) 64 ++ List.range' (0 + (64 + 64 + 64)) 64
  rw [List.range'_append_1, List.range'_append_1, List.range'_append_1, List.range_eq_range']
 rw [g 0, g 1, g 2, g 3, ← List.filter_append, ← List.filter_append, ← List.filter_append, els, r]
theorem List_spec (K : Nat) (hK : 65 < K) (p : Nat → Bool) : bset_List K (st p) = some (nn (els p)) := by
 obtain ⟨k, rfl⟩ : ∃ k', K = k' + 5 := ⟨K - 5, by omega⟩
 have e : ∀ a b c d : Int, (Arr4.mk a b c d).get 0 = a ∧ (Arr4.mk a b c d).get 1 = b ∧ (Arr4.mk a b c d).get 2 = c ∧ (Arr4.mk a b c d).get 3 = d := fun a b c d => ⟨rfl, rfl, rfl, rfl⟩
 have l := fun i => chunk_len p i 0
 have l0 := l 0
 have l1 := l 1
 have l2 := l 2
 have l3 := l 3
 have s0 := fun go x0 x7 => List_l1_spec (k + 5) go 0 (by omega) x0 x7 64 (k + 5) 0 p [] (by omega) (by omega) (by omega) (by omega) (by simp)
 have s1 := fun go x0 x7 y (h : y.length ≤ 500) => List_l1_spec (k + 5) go 1 (by omega) x0 x7 64 (k + 5) 0 p y (by omega) (by omega) (by omega) (by omega) (by omega)
 have s2 := fun go x0 x7 y (h : y.length ≤ 500) => List_l1_spec (k + 5) go 2 (by omega) x0 x7 64 (k + 5) 0 p y (by omega) (by omega) (by omega) (by omega) (by omega)
 have s3 := fun go x0 x7 y (h : y.length ≤ 500) => List_l1_spec (k + 5) go 3 (by omega) x0 x7 64 (k + 5) 0 p y (by omega) (by omega) (by omega) (by omega) (by omega)
 have c0 : (decide ((0 : Int) < 4)) = true := by decide
 have c1 : (decide ((1 : Int) < 4)) = true := by decide
 have c2 : (decide ((2 : Int) < 4)) = true := by decide
 have c3 : (decide ((3 : Int) < 4)) = true := by decide
 have c4 : (decide ((4 : Int) < 4)) = false := by decide
 have g0 : (st p).get 0 = ((wdi p 0 : Nat) : Int) := rfl
 have g1 : (st p).get 1 = ((wdi p 1 : Nat) : Int) := rfl
 have g2 : (st p).get 2 = ((wdi p 2 : Nat) : Int) := rfl
 have g3 : (st p).get 3 = ((wdi p 3 : Nat) : Int) := rfl
 rw [bset_List, bset_List_l0]
 simp only [c0, cT]
 rw [ck_pos (by decide), g0, show (0 : Int) = ((0 : Nat) : Int) from rfl, s0]
 rw [show IntKind.i64.wrap (((0 : Nat) : Int) + 1) = 1 from q01, bset_List_l0]
 simp only [c1, cT]
 rw [ck_pos (by decide), g1, show (1 : Int) = ((1 : Nat) : Int) from rfl, s1 _ _ _ _ (by simp [nn]; omega)]
 rw [show IntKind.i64.wrap (((1 : Nat) : Int) + 1) = 2 from q12, bset_List_l0]
 simp only [c2, cT]
 rw [ck_pos (by decide), g2, show (2 : Int) = ((2 : Nat) : Int) from rfl, s2 _ _ _ _ (by simp [nn]; omega)]
 rw [show IntKind.i64.wrap (((2 : Nat) : Int) + 1) = 3 from q23, bset_List_l0]
 simp only [c3, cT]
 rw [ck_pos (by decide), g3, show (3 : Int) = ((3 : Nat) : Int) from rfl, s3 _ _ _ _ (by simp [nn]; omega)]
 rw [show IntKind.i64.wrap (((3 : Nat) : Int) + 1) = 4 from q34, bset_List_l0]
 simp only [c4, cF]
 rw [els_chunks]
 simp [nn]
theorem mem_els {p : Nat → Bool} {b : Nat} : b ∈ els p ↔ b < 256 ∧ p b = true := by simp [els]
theorem els_len (p : Nat → Bool) : (els p).length ≤ 256 := by
 have := List.length_filter_le p (List.range 256)
 simpa [els] using this
def spn (lo hi : Nat) : List Nat → List (Nat × Nat)
 | [] => [(lo, hi)]
 | b :: r => if b = hi + 1 then spn lo b r else (lo, hi) :: spn b b r
def spans0 : List Nat → List (Nat × Nat)
 | [] => []
 | b :: r => spn b b r
def a2 (l : List (Nat × Nat)) : List Arr2 := l.map fun x => ⟨(x.1 : Int), (x.2 : Int)⟩
theorem a2_len (l : List (Nat × Nat)) : (a2 l).length = l.length := by simp [a2]
theorem sp_len : ∀ (r : List Nat) (lo hi : Nat), (spn lo hi r).length ≤ r.length + 1
 | [], _, _ => by simp [spn]
 | b :: r, lo, hi => by
  simp only [spn]
  split
  ·have := sp_len r lo b; simp; omega
  ·have := sp_len r b b; simp; omega
theorem spans0_len (l : List Nat) : (spans0 l).length ≤ l.length := by
 cases l with
 | nil => simp [spans0]
 | cons b r => have := sp_len r b b; simp [spans0]; omega
theorem set_last {α : Type} (l : List α) (x y : α) : (l ++ [x]).set l.length y = l ++ [y] := by simp
theorem get_last {α : Type} (l : List α) (x : α) : geti (l ++ [x]) ((l.length : Nat) : Int) = some x := by rw [geti_nat (by simp)]; simp
theorem lastIx {α : Type} (l : List α) (x : α) (h : l.length < 1000) : IntKind.i64.wrap (((l ++ [x]).length : Int) - 1) = ((l.length : Nat) : Int) := by
 rw [List.length_append, List.length_singleton, w64 (by omega) (by omega)]
 omega
theorem Spans_l0 (K : Nat) (bs : List Nat) (hb : ∀ b ∈ bs, b < 256) (hl : bs.length ≤ 256) : ∀ (m k i lo hi : Nat) (pre : List (Nat × Nat)), bs.length - i = m → i ≤ bs.length → m < k → hi < 256 → pre.length + (bs.length - i) ≤ 600 →
  bset_Spans_l0 K k (hi : Int) (nn bs) (bs.length : Int) (i : Int) (a2 (pre ++ [(lo, hi)])) = some (a2 (pre ++ spn lo hi (bs.drop i))) := by
 intro m
 induction m with
 | zero =>
  intro k i lo hi pre hm hi2 hk hh hp
  obtain ⟨k, rfl⟩ : ∃ k', k = k' + 1 := ⟨k - 1, by omega⟩
  have hi' : i = bs.length := by omega
  have hc : (decide (((bs.length : Nat) : Int) < (bs.length : Int))) = false := by simp
  rw [bset_Spans_l0, hi']
  simp only [hc, cF, List.drop_length, spn]
 | succ m ih =>
  intro k i lo hi pre hm hi2 hk hh hp
  obtain ⟨k, rfl⟩ : ∃ k', k = k' + 1 := ⟨k - 1, by omega⟩
  have hlt : i < bs.length := by omega
  have hbi : bs[i] < 256 := hb _ (List.getElem_mem hlt)
  have hc : (decide ((i : Int) < (bs.length : Int))) = true := by simp; exact hlt
  have ea : a2 (pre ++ [(lo, hi)]) = a2 pre ++ [⟨(lo : Int), (hi : Int)⟩] := by simp [a2]
  have hplen : (a2 pre).length < 1000 := by rw [a2_len]; omega
  rw [bset_Spans_l0, List.drop_eq_getElem_cons hlt, spn]
  simp only [hc, cT, nn_lt hlt, bS, w64 (n := ((bs[i] : Nat) : Int)) (by omega) (by omega), w64 (n := (hi : Int) + 1) (by omega) (by omega)]
  by_cases h : bs[i] = hi + 1
  ·have hq : (((bs[i] : Nat) : Int) == (hi : Int) + 1) = true := by rw [beq_iff_eq]; omega
   simp only [hq, cT, if_pos h]
   rw [ea, lastIx _ _ hplen, get_last, bS, Int.toNat_natCast, set_last, bset_Spans_j1]
   simp only [w64 (n := ((bs[i] : Nat) : Int)) (by omega) (by omega), w64 (n := (i : Int) + 1) (by omega) (by omega)]
   have := ih k (i + 1) lo bs[i] pre (by omega) (by omega) (by omega) hbi (by omega)
   rw [← this, show ((i : Int) + 1) = ((i + 1 : Nat) : Int) by omega]
   congr 1
   simp [a2, Arr2.set]
  ·have hq : (((bs[i] : Nat) : Int) == (hi : Int) + 1) = false := by
    apply beq_false_of_ne
    omega
   have hroom : roomy 2 ((a2 (pre ++ [(lo, hi)])).length + [(Arr2.mk ((bs[i] : Nat) : Int) ((bs[i] : Nat) : Int))].length) = true := roomy_iff.2 (by rw [a2_len]; simp only [List.length_append, List.length_singleton, maxLen]; omega)
   simp only [hq, cF, if_neg h]
   rw [ck_pos hroom, bset_Spans_j1]
   simp only [w64 (n := ((bs[i] : Nat) : Int)) (by omega) (by omega), w64 (n := (i : Int) + 1) (by omega) (by omega)]
   have := ih k (i + 1) bs[i] bs[i] (pre ++ [(lo, hi)]) (by omega) (by omega) (by omega) hbi (by simp; omega)
   rw [List.append_assoc] at this
   rw [show ((i : Int) + 1) = ((i + 1 : Nat) : Int) by omega]
   have e2 : a2 (pre ++ [(lo, hi)]) ++ [(Arr2.mk ((bs[i] : Nat) : Int) ((bs[i] : Nat) : Int))] = a2 (pre ++ ([(lo, hi)] ++ [(bs[i], bs[i])])) := by simp [a2]
   rw [e2, ← List.append_assoc] at *
   rw [List.append_assoc] at *
   rw [this]
   simp [a2]
theorem Spans_spec (K : Nat) (hK : 300 ≤ K) (p : Nat → Bool) : bset_Spans K (st p) = some (a2 (spans0 (els p))) := by
 rw [bset_Spans, List_spec K (by omega), bS, nn_len]
 have hb : ∀ b ∈ els p, b < 256 := fun b hb => (mem_els.1 hb).1
 have hl := els_len p
 generalize els p = bs at *
 obtain ⟨k, rfl⟩ : ∃ k', K = k' + 1 := ⟨K - 1, by omega⟩
 cases bs with
 | nil => rw [bset_Spans_l0]; rfl
 | cons b r =>
  have hbi : b < 256 := hb b (by simp)
  have hc : (decide ((0 : Int) < (((b :: r).length : Nat) : Int))) = true := by simp
  have hg : geti (nn (b :: r)) (0 : Int) = some (b : Int) := rfl
  have hw : IntKind.i64.wrap (-2 + 1) = -1 := by decide
  have hq : ((b : Int) == (-1 : Int)) = false := by apply beq_false_of_ne; omega
  have hroom : roomy 2 (([] : List Arr2).length + [(Arr2.mk (b : Int) (b : Int))].length) = true := rfl
  rw [bset_Spans_l0]
  simp only [hc, cT, hg, bS, w64 (n := (b : Int)) (by omega) (by omega), hw, hq, cF]
  rw [ck_pos hroom, bset_Spans_j1, w64 (n := (b : Int)) (by omega) (by omega), show IntKind.i64.wrap (0 + 1) = ((1 : Nat) : Int) from q01]
  have := Spans_l0 (k + 1) (b :: r) hb hl r.length k 1 b b [] (by simp) (by simp) (by simp at hl; omega) hbi (by simp at hl ⊢; omega)
  simp only [List.nil_append] at this ⊢
  rw [show [Arr2.mk (b : Int) (b : Int)] = a2 [(b, b)] from rfl, this]
  rfl
theorem els_sorted (p : Nat → Bool) : (els p).Pairwise (· < ·) := List.Pairwise.filter p List.pairwise_lt_range
theorem sp_any (c : Nat) : ∀ (r : List Nat) (lo hi : Nat), lo ≤ hi → (∀ b ∈ r, hi < b) → r.Pairwise (· < ·) → ((∃ x ∈ spn lo hi r, x.1 ≤ c ∧ c ≤ x.2) ↔ ((lo ≤ c ∧ c ≤ hi) ∨ c ∈ r))
 | [], lo, hi, _, _, _ => by simp [spn]
 | b :: r, lo, hi, h1, h2, h3 => by
  have hb := h2 b (by simp)
  obtain ⟨h6, h7⟩ := List.pairwise_cons.1 h3
  simp only [spn]
  split
  ·rename_i he
   rw [sp_any c r lo b (by omega) h6 h7]
   simp only [List.mem_cons]
   constructor
   ·rintro (h | h)
    ·by_cases hcb : c = b
     ·exact .inr (.inl hcb)
     ·exact .inl (by omega)
    ·exact .inr (.inr h)
   ·rintro (h | h | h)
    ·exact .inl (by omega)
    ·exact .inl (by omega)
    ·exact .inr h
  ·have ih := sp_any c r b b (Nat.le_refl _) h6 h7
   simp only [List.mem_cons, exists_eq_or_imp]
   rw [ih]
   constructor
   ·rintro (h | h | h)
    ·exact .inl h
    ·exact .inr (.inl (by omega))
    ·exact .inr (.inr h)
   ·rintro (h | h | h)
    ·exact .inl h
    ·exact .inr (.inl (by omega))
    ·exact .inr (.inr h)
def inR (x : Nat × Nat) (c : Nat) : Bool := decide (x.1 ≤ c) && decide (c ≤ x.2)
theorem spans_any (p : Nat → Bool) (c : Nat) (hc : c < 256) : ((spans0 (els p)).map inR).any (fun q => q c) = p c := by
 have hm : (∃ x ∈ spans0 (els p), x.1 ≤ c ∧ c ≤ x.2) ↔ c ∈ els p := by
  have hs := els_sorted p
  generalize els p = bs at *
  cases bs with
  | nil => simp [spans0]
  | cons b r =>
   obtain ⟨h6, h7⟩ := List.pairwise_cons.1 hs
   rw [spans0, sp_any c r b b (Nat.le_refl _) h6 h7]
   simp only [List.mem_cons]
   constructor
   ·rintro (h | h)
    ·exact .inl (by omega)
    ·exact .inr h
   ·rintro (h | h)
    ·exact .inl (by omega)
    ·exact .inr h
 rw [Bool.eq_iff_iff]
 simp only [List.any_map, List.any_eq_true, Function.comp_apply, inR, Bool.and_eq_true, decide_eq_true_eq]
 rw [hm, mem_els]
 simp [hc]
end Go.Rv
namespace Go.Rv
def spL : List (Nat × Nat) → List Nat
 | [] => []
 | x :: r => pbL x.1 ++ ((if x.1 = x.2 then [] else 45 :: pbL x.2) ++ spL r)
def setB (l : List Nat) (dot : Bool) : List Nat :=
 match l with
 | [c] => pbL c
 | l => if dot = true then [46] else 91 :: (spL (spans0 l) ++ [93])
def setL (p : Nat → Bool) : List Nat := setB (els p) ((st p).same (st fun c => !(c == 10)))
theorem pbL_all : ∀ c : _root_.Fin 256, (pbL c.val).length ≤ 4 ∧ ∀ x ∈ pbL c.val, x < 256 := by decide +kernel
theorem pbL_len {c : Nat} (h : c < 256) : (pbL c).length ≤ 4 := (pbL_all ⟨c, h⟩).1
theorem pbL_lt {c : Nat} (h : c < 256) : ∀ x ∈ pbL c, x < 256 := (pbL_all ⟨c, h⟩).2
theorem bytesI_bs (s : ByteArray) : bytesI s = nn (bs s) := by
 simp only [bytesI, bs, nn, List.map_map]
 rfl
theorem nn_app (a b : List Nat) : nn (a ++ b) = nn a ++ nn b := by simp [nn]
theorem ofBytes_nn {l : List Nat} (h : ∀ c ∈ l, c < 256) : ofBytes (nn l) = toB l := by
 have : nn l = (l.map UInt8.ofNat).map fun u => (u.toNat : Int) := by
  simp only [nn, List.map_map]
  refine List.map_congr_left fun c hc => ?_
  have := h c hc
  simp only [Function.comp, UInt8.toNat_ofNat']
  show (c : Int) = _
  omega
 rw [this, ofBytes_list]
 rfl
theorem okBytes_nn {l : List Nat} (h : ∀ c ∈ l, c < 256) : okBytes (nn l) = true := by
 rw [okBytes, List.all_eq_true]
 intro x hx
 obtain ⟨c, hc, rfl⟩ := List.mem_map.1 hx
 have := h c hc
 have h1 : (0 : Int) ≤ Int.ofNat c := by show (0 : Int) ≤ (c : Int); omega
 have h2 : Int.ofNat c < 256 := by show (c : Int) < 256; omega
 rw [Bool.and_eq_true, decide_eq_true_eq, decide_eq_true_eq]
 exact ⟨h1, h2⟩
theorem write_i1 (K : Nat) (l : List Nat) (s : ByteArray) (h : l.length + s.size ≤ 1000000) : sB_WriteString_i1 K (nn l) s = some ((s.size : Int), (), nn (l ++ bs s)) := by
 rw [sB_WriteString_i1, sB_copyCheck_i1, bS, ck_pos (roomy_iff.2 (by rw [nn_len]; simp only [maxLen]; omega)), bytesI_bs, nn_app]
theorem write_0 (K : Nat) (s : ByteArray) (h : s.size ≤ 1000000) : sB_WriteString K [] s = some ((s.size : Int), (), nn (bs s)) := by
 rw [sB_WriteString, sB_copyCheck, bS, ck_pos (roomy_iff.2 (by simp only [List.length_nil, maxLen]; omega)), bytesI_bs, List.nil_append]
theorem a2_get {xs : List (Nat × Nat)} {i : Nat} (h : i < xs.length) : geti (a2 xs) (i : Int) = some ⟨((xs[i].1 : Nat) : Int), ((xs[i].2 : Nat) : Int)⟩ := by
 rw [geti_nat (by rw [a2_len]; exact h)]
 simp [a2]
theorem Set_loop (K : Nat) (hK : 70 ≤ K) (xs : List (Nat × Nat)) (hx : ∀ x ∈ xs, x.1 < 256 ∧ x.2 < 256) (hl : xs.length ≤ 1000) : ∀ (m k i : Nat) (acc : List Nat), xs.length - i = m → i ≤ xs.length → m < k → acc.length + 9 * m ≤ 100000 → 0 < acc.length → (∀ c ∈ acc, c < 256) →
  print_Set_l1 K k (a2 xs) (xs.length : Int) (i : Int) (nn acc) = some (toB (acc ++ (spL (xs.drop i) ++ [93]))) := by
 intro m
 induction m with
 | zero =>
  intro k i acc hm hi hk ha h0 hc
  obtain ⟨k, rfl⟩ : ∃ k', k = k' + 1 := ⟨k - 1, by omega⟩
  have hi' : i = xs.length := by omega
  subst hi'
  rw [print_Set_l1]
  dsimp only
  rw [decide_eq_false (by omega), cF, write_i1 K acc _ (by show acc.length + 1 ≤ 1000000; omega), bS]
  dsimp only
  have hb : bs (⟨#[93]⟩ : ByteArray) = [93] := rfl
  have hc2 : ∀ c ∈ acc ++ [93], c < 256 := fun c h => by
   rcases List.mem_append.1 h with h | h
   ·exact hc c h
   ·rw [List.mem_singleton.1 h]; decide
  rw [hb, ck_pos (by rw [nn_len, List.length_append]; omega), ck_pos (okBytes_nn hc2), ofBytes_nn hc2, List.drop_length, spL, List.nil_append]
 | succ m ih =>
  intro k i acc hm hi hk ha h0 hc
  obtain ⟨k, rfl⟩ : ∃ k', k = k' + 1 := ⟨k - 1, by omega⟩
  have hlt : i < xs.length := by omega
  have hd : xs.drop i = xs[i] :: xs.drop (i + 1) := List.drop_eq_getElem_cons hlt
  obtain ⟨hx1, hx2⟩ := hx xs[i] (List.getElem_mem hlt)
  have hn1 := pbL_len hx1
  have hn2 := pbL_len hx2
  have e : IntKind.i64.wrap ((i : Int) + 1) = ((i + 1 : Nat) : Int) := by rw [IntKind.wrap_i64]; omega
  rw [print_Set_l1]
  dsimp only
  rw [decide_eq_true (by omega), cT, a2_get hlt, bS]
  simp only [show ∀ a b : Int, Arr2.get ⟨a, b⟩ 0 = a from fun _ _ => rfl, show ∀ a b : Int, Arr2.get ⟨a, b⟩ 1 = b from fun _ _ => rfl]
  rw [Byte_ok hx1 hK, bS, write_i1 K acc _ (by rw [toB_size]; omega), bS]
  dsimp only
  rw [bs_toB (pbL_lt hx1)]
  have hc1 : ∀ c ∈ acc ++ pbL xs[i].1, c < 256 := fun c h => by
   rcases List.mem_append.1 h with h | h
   ·exact hc c h
   ·exact pbL_lt hx1 c h
  by_cases heq : xs[i].1 = xs[i].2
  ·have hne : (((xs[i].1 : Nat) : Int) != ((xs[i].2 : Nat) : Int)) = false := by rw [heq]; simp
   rw [hne, cF, e, ih k (i + 1) _ (by omega) (by omega) (by omega) (by rw [List.length_append]; omega) (by rw [List.length_append]; omega) hc1, hd, spL, if_pos heq, List.nil_append, List.append_assoc, List.append_assoc]
  ·have hne : (((xs[i].1 : Nat) : Int) != ((xs[i].2 : Nat) : Int)) = true := by
    rw [bne_iff_ne]; omega
   have hb : bs ((⟨#[45]⟩ : ByteArray) ++ toB (pbL xs[i].2)) = 45 :: pbL xs[i].2 := by
    rw [bs_append, bs_toB (pbL_lt hx2)]; rfl
   have hs1 : (⟨#[45]⟩ : ByteArray).size = 1 := rfl
   rw [hne, cT, Byte_ok hx2 hK, bS, ck_pos (by rw [hs1, toB_size]; omega), write_i1 K _ _ (by rw [ByteArray.size_append, hs1, toB_size, List.length_append]; omega), bS]
   dsimp only
   rw [hb, e, ih k (i + 1) _ (by omega) (by omega) (by omega) (by simp only [List.length_append, List.length_cons]; omega) (by simp only [List.length_append]; omega) (fun c h => by
    rcases List.mem_append.1 h with h | h
    ·exact hc1 c h
    ·rcases List.mem_cons.1 h with rfl | h
     ·decide
     ·exact pbL_lt hx2 c h), hd, spL, if_neg heq]
   simp only [List.append_assoc, List.cons_append]
theorem sp_ne : ∀ (r : List Nat) (lo hi : Nat), spn lo hi r ≠ []
 | [], _, _ => by simp [spn]
 | b :: r, lo, hi => by
  simp only [spn]
  split
  ·exact sp_ne r lo b
  ·simp
theorem sp_single : ∀ (r : List Nat) (lo hi x y : Nat), spn lo hi r = [(x, y)] → x = lo ∧ y = hi + r.length
 | [], lo, hi, x, y, h => by simp [spn] at h; simp [h.1, h.2]
 | b :: r, lo, hi, x, y, h => by
  simp only [spn] at h
  split at h
  ·next hb =>
   obtain ⟨h1, h2⟩ := sp_single r lo b x y h
   exact ⟨h1, by rw [h2, hb, List.length_cons]; omega⟩
  ·simp only [List.cons.injEq] at h
   exact absurd h.2 (sp_ne r b b)
theorem sp_lt : ∀ (r : List Nat) (lo hi : Nat), lo < 256 → hi < 256 → (∀ b ∈ r, b < 256) → ∀ x ∈ spn lo hi r, x.1 < 256 ∧ x.2 < 256
 | [], lo, hi, h1, h2, _, x, hx => by simp [spn] at hx; subst hx; exact ⟨h1, h2⟩
 | b :: r, lo, hi, h1, h2, h3, x, hx => by
  simp only [spn] at hx
  have hb := h3 b (by simp)
  have hr : ∀ c ∈ r, c < 256 := fun c hc => h3 c (by simp [hc])
  split at hx
  ·exact sp_lt r lo b h1 hb hr x hx
  ·rcases List.mem_cons.1 hx with rfl | hx
   ·exact ⟨h1, h2⟩
   ·exact sp_lt r b b hb hb hr x hx
theorem spans0_lt (p : Nat → Bool) : ∀ x ∈ spans0 (els p), x.1 < 256 ∧ x.2 < 256 := by
 have h : ∀ b ∈ els p, b < 256 := fun b hb => (mem_els.1 hb).1
 cases hq : els p with
 | nil => intro x hx; simp [spans0] at hx
 | cons b r => rw [hq] at h; exact sp_lt r b b (h b (by simp)) (h b (by simp)) (fun c hc => h c (by simp [hc]))
theorem ten : (fun c => !(([10] : List Nat).contains c)) = fun c => !(c == 10) := by
 funext c
 have : ([10] : List Nat).contains c = (c == 10) := by rw [Bool.eq_iff_iff]; simp
 rw [this]
theorem Set_j0_ok (K : Nat) (hK : 1100 ≤ K) (p : Nat → Bool) : print_Set_j0 K (a2 (spans0 (els p))) (st p) = some (toB (if (st p).same (st fun c => !(c == 10)) = true then [46] else 91 :: (spL (spans0 (els p)) ++ [93]))) := by
 have h1 : bset_Of K [(10 : Int)] = some (st fun c => ([10] : List Nat).contains c) := Of_spec K [10] (by decide) (by decide) (by simp; omega)
 rw [print_Set_j0, h1, bS, Not_spec K (by omega), bS, ten]
 by_cases hs : (st p).same (st fun c => !(c == 10)) = true
 ·rw [hs, cT, if_pos rfl]; rfl
 ·rw [Bool.not_eq_true] at hs
  have hlen := spans0_len (els p)
  have hlen2 := els_len p
  rw [hs, cF, if_neg (by decide), write_0 K _ (by decide), bS]
  dsimp only
  have hb : bs (⟨#[91]⟩ : ByteArray) = [91] := rfl
  have := Set_loop K (by omega) (spans0 (els p)) (spans0_lt p) (by omega) (spans0 (els p)).length K 0 [91] rfl (Nat.zero_le _) (by omega) (by simp only [List.length_singleton]; omega) (by simp) (by decide)
  rw [hb, a2_len, show (0 : Int) = ((0 : Nat) : Int) from rfl, this, List.drop_zero]
  rfl
theorem Set_ok (K : Nat) (hK : 1100 ≤ K) (p : Nat → Bool) : print_Set K (st p) = some (toB (setL p)) := by
 rw [print_Set, Spans_spec K (by omega), bS, a2_len]
 have hj := Set_j0_ok K hK p
 rw [setL]
 cases hq : els p with
 | nil =>
  rw [hq] at hj
  simp only [spans0, List.length_nil, show (((0 : Nat) : Int) == 1) = false from rfl, cF, setB]
  exact hj
 | cons c r =>
  have hc : c < 256 := (mem_els.1 (by rw [hq]; simp : c ∈ els p)).1
  cases r with
  | nil =>
   simp only [spans0, spn, List.length_singleton, show (((1 : Nat) : Int) == 1) = true from rfl, cT, setB]
   have := a2_get (xs := [(c, c)]) (i := 0) (by simp)
   rw [show (0 : Int) = ((0 : Nat) : Int) from rfl, this, bS]
   simp only [List.getElem_cons_zero, beq_self_eq_true, cT]
   rw [Byte_ok hc (by omega), bS]
  | cons d r =>
   rw [hq] at hj
   have hset : setB (c :: d :: r) ((st p).same (st fun c => !(c == 10))) = if (st p).same (st fun c => !(c == 10)) = true then [46] else 91 :: (spL (spans0 (c :: d :: r)) ++ [93]) := rfl
   rw [hset]
   by_cases h1 : (spans0 (c :: d :: r)).length = 1
   ·obtain ⟨x, hx⟩ := List.length_eq_one_iff.1 h1
    have hxx := sp_single (d :: r) c c x.1 x.2 (by rw [spans0] at hx; exact hx)
    rw [h1, show (((1 : Nat) : Int) == 1) = true from rfl, cT]
    have := a2_get (xs := spans0 (c :: d :: r)) (i := 0) (by omega)
    rw [show (0 : Int) = ((0 : Nat) : Int) from rfl, this, bS]
    have hne : (((((spans0 (c :: d :: r))[0]'(by omega)).1 : Nat) : Int) == ((((spans0 (c :: d :: r))[0]'(by omega)).2 : Nat) : Int)) = false := by
     rw [beq_eq_false_iff_ne]
     simp only [hx, List.getElem_cons_zero]
     rw [hxx.1, hxx.2, List.length_cons]
     omega
    rw [hne, cF]
    exact hj
   ·have hne : ((((spans0 (c :: d :: r)).length : Nat) : Int) == 1) = false := by
     rw [beq_eq_false_iff_ne]; omega
    rw [hne, cF]
    exact hj
end Go.Rv

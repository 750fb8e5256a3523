/- Sets of bytes, plainly: four numbers of 64 bits as a predicate on bytes; Of, Range, Or, Not, and the document's Of. -/
import Derived.Test.YtocjhbbldeankaaDoorRgP
namespace Go.Rv
theorem bS {α β : Type} (a : α) (f : α → Option β) : (some a).bind f = f a := rfl
theorem cT {α : Type} (a b : α) : (bif true then a else b) = a := rfl
theorem cF {α : Type} (a b : α) : (bif false then a else b) = b := rfl
def wd : Nat → (Nat → Bool) → Nat
 | 0, _ => 0
 | n + 1, p => (p 0).toNat + 2 * wd n (fun i => p (i + 1))
theorem wd_lt : ∀ (n : Nat) (p : Nat → Bool), wd n p < 2 ^ n
 | 0, _ => by simp [wd]
 | n + 1, p => by
  have h1 := wd_lt n (fun i => p (i + 1))
  have h2 : (p 0).toNat ≤ 1 := by cases p 0 <;> simp
  simp only [wd, Nat.pow_succ]
  omega
theorem wd_bit : ∀ (n : Nat) (p : Nat → Bool) (j : Nat), (wd n p).testBit j = (decide (j < n) && p j)
 | 0, p, j => by simp [wd]
 | n + 1, p, 0 => by
  have : ((p 0).toNat + 2 * wd n (fun i => p (i + 1))) % 2 = (p 0).toNat := by cases p 0 <;> simp <;> omega
  simp only [wd, Nat.testBit_zero, this]
  cases p 0 <;> simp
 | n + 1, p, j + 1 => by
  have h2 : ((p 0).toNat + 2 * wd n (fun i => p (i + 1))) / 2 = wd n (fun i => p (i + 1)) := by cases p 0 <;> simp <;> omega
  rw [wd, Nat.testBit_succ, h2, wd_bit n _ j]
  simp
theorem eq_wd {n : Nat} {x : Nat} {p : Nat → Bool} (hx : x < 2 ^ n) (h : ∀ j, j < n → x.testBit j = p j) : x = wd n p := by
 apply Nat.eq_of_testBit_eq
 intro j
 rw [wd_bit]
 by_cases hj : j < n
 ·simp [hj, h j hj]
 ·simp only [hj, decide_false, Bool.false_and]
  exact Nat.testBit_lt_two_pow (Nat.lt_of_lt_of_le hx (Nat.pow_le_pow_right (by decide) (by omega)))
theorem wd_congr {n : Nat} {p q : Nat → Bool} (h : ∀ j, j < n → p j = q j) : wd n p = wd n q := eq_wd (wd_lt n p) (fun j hj => by rw [wd_bit, ← h j hj]; simp [hj])
def wdi (p : Nat → Bool) (i : Nat) : Nat := wd 64 (fun j => p (64 * i + j))
theorem wdi_lt (p : Nat → Bool) (i : Nat) : wdi p i < 18446744073709551616 := wd_lt 64 _
theorem wdi_bit (p : Nat → Bool) (i j : Nat) (hj : j < 64) : (wdi p i).testBit j = p (64 * i + j) := by simp [wdi, wd_bit, hj]
theorem eq_wdi {x i : Nat} {p : Nat → Bool} (hx : x < 18446744073709551616) (h : ∀ j, j < 64 → x.testBit j = p (64 * i + j)) : x = wdi p i := eq_wd (n := 64) hx h
def st (p : Nat → Bool) : Arr4 := ⟨(wdi p 0 : Nat), (wdi p 1 : Nat), (wdi p 2 : Nat), (wdi p 3 : Nat)⟩
theorem st_congr {p q : Nat → Bool} (h : ∀ b, b < 256 → p b = q b) : st p = st q := by
 have g : ∀ i, i < 4 → wdi p i = wdi q i := fun i hi => wd_congr (fun j hj => h _ (by omega))
 simp only [st, g 0 (by omega), g 1 (by omega), g 2 (by omega), g 3 (by omega)]
theorem st_get (p : Nat → Bool) {i : Nat} (hi : i < 4) : (st p).get (i : Int) = (wdi p i : Nat) := by
 match i, hi with
 | 0, _ => rfl
 | 1, _ => rfl
 | 2, _ => rfl
 | 3, _ => rfl
theorem st_inj {p q : Nat → Bool} (h : st p = st q) : ∀ b, b < 256 → p b = q b := by
 intro b hb
 have hg : (st p).get ((b / 64 : Nat) : Int) = (st q).get ((b / 64 : Nat) : Int) := by rw [h]
 rw [st_get p (by omega), st_get q (by omega)] at hg
 have h1 := wdi_bit p (b / 64) (b % 64) (by omega)
 have h2 := wdi_bit q (b / 64) (b % 64) (by omega)
 have hn : wdi p (b / 64) = wdi q (b / 64) := by exact_mod_cast hg
 rw [hn, h2] at h1
 rw [Nat.div_add_mod] at h1
 exact h1.symm
theorem same_iff (a b : Arr4) : a.same b = true ↔ a = b := by
 cases a; cases b
 simp only [Arr4.same, Bool.and_eq_true, beq_iff_eq, Arr4.mk.injEq]
def pr (a : Arr4) (b : Nat) : Bool := (a.get ((b / 64 : Nat) : Int)).toNat.testBit (b % 64)
theorem w8 {n : Nat} (h : n < 256) : IntKind.u8.wrap (n : Int) = n := by rw [IntKind.wrap_u8]; omega
theorem w64 {n : Int} (h0 : -9223372036854775808 ≤ n) (h1 : n < 9223372036854775808) : IntKind.i64.wrap n = n := by rw [IntKind.wrap_i64]; omega
theorem wu64 {n : Int} (h0 : 0 ≤ n) (h1 : n < 18446744073709551616) : IntKind.u64.wrap n = n := by rw [IntKind.wrap_u64]; omega
theorem div64 (b : Nat) (h : b < 256) : IntKind.u8.wrap (Int.tdiv (b : Int) 64) = ((b / 64 : Nat) : Int) := by
 rw [show Int.tdiv (b : Int) 64 = ((b / 64 : Nat) : Int) from (Int.ofNat_tdiv b 64).symm, w8 (by omega)]
theorem div64' (b : Nat) (h : b < 256) : IntKind.i64.wrap (Int.tdiv (b : Int) 64) = ((b / 64 : Nat) : Int) := by
 rw [show Int.tdiv (b : Int) 64 = ((b / 64 : Nat) : Int) from (Int.ofNat_tdiv b 64).symm, w64 (by omega) (by omega)]
theorem mod64 (b : Nat) : Int.tmod (b : Int) 64 = ((b % 64 : Nat) : Int) := (Int.ofNat_tmod b 64).symm
theorem two64 : (2 : Nat) ^ 64 = 18446744073709551616 := by decide
theorem pow_lt (b : Nat) (h : b < 64) : 2 ^ b < 18446744073709551616 := by
 have := Nat.pow_lt_pow_right (a := 2) (by decide) h
 rwa [two64] at this
theorem pow64 (b : Nat) (h : b < 64) : IntKind.u64.wrap (1 * 2 ^ min (Int.toNat (b : Int)) IntKind.u64.bits) = ((2 ^ b : Nat) : Int) := by
 have hb : min (Int.toNat (b : Int)) IntKind.u64.bits = b := by
  simp only [IntKind.bits, Int.toNat_natCast]; omega
 rw [hb, Int.one_mul]
 have h3 : ((2 : Int) ^ b) = ((2 ^ b : Nat) : Int) := by simp
 have h2 := pow_lt b h
 rw [h3]
 generalize 2 ^ b = x at *
 exact wu64 (by omega) (by omega)
theorem orBit (p : Nat → Bool) (b : Nat) (hb : b < 256) : bits .or .u64 (wdi p (b / 64) : Nat) ((2 ^ (b % 64) : Nat) : Int) = (wdi (fun c => p c || c == b) (b / 64) : Nat) := by
 have h2 := pow_lt (b % 64) (Nat.mod_lt _ (by decide))
 have h1 := wdi_lt p (b / 64)
 rw [bits_or_u64_nat _ _ h1 h2]
 refine congrArg (Nat.cast (R := Int)) (eq_wdi ?_ (fun j hj => ?_))
 ·rw [← two64] at h1 h2 ⊢
  exact Nat.or_lt_two_pow h1 h2
 rw [Nat.testBit_or, wdi_bit p _ j hj, Nat.testBit_two_pow]
 congr 1
 rw [Bool.eq_iff_iff]
 simp only [decide_eq_true_eq, beq_iff_eq]
 omega
theorem st_set (p : Nat → Bool) (b : Nat) (hb : b < 256) : (st p).set ((b / 64 : Nat) : Int) (wdi (fun c => p c || c == b) (b / 64) : Nat) = st (fun c => p c || c == b) := by
 have other : ∀ i, i < 4 → i ≠ b / 64 → wdi p i = wdi (fun c => p c || c == b) i := fun i hi hne => wd_congr (fun j hj => by
  have : (64 * i + j == b) = false := by simp; omega
  simp [this])
 have hb4 : b / 64 < 4 := by omega
 generalize hk : b / 64 = k at *
 match k, hb4 with
 | 0, _ => simp only [st, Arr4.set, other 1 (by omega) (by omega), other 2 (by omega) (by omega), other 3 (by omega) (by omega)]; rfl
 | 1, _ => simp only [st, Arr4.set, other 0 (by omega) (by omega), other 2 (by omega) (by omega), other 3 (by omega) (by omega)]; rfl
 | 2, _ => simp only [st, Arr4.set, other 0 (by omega) (by omega), other 1 (by omega) (by omega), other 3 (by omega) (by omega)]; rfl
 | 3, _ => simp only [st, Arr4.set, other 0 (by omega) (by omega), other 1 (by omega) (by omega), other 2 (by omega) (by omega)]; rfl
theorem st_add (p : Nat → Bool) (b : Nat) (hb : b < 256) :
  (st p).set ((b / 64 : Nat) : Int) (bits .or .u64 ((st p).get ((b / 64 : Nat) : Int)) ((2 ^ (b % 64) : Nat) : Int)) = st (fun c => p c || c == b) := by
 rw [st_get p (by omega), orBit p b hb, st_set p b hb]
theorem st_none : (⟨0, 0, 0, 0⟩ : Arr4) = st (fun _ => false) := by
 have : ∀ i, wdi (fun _ => false) i = 0 := fun i => (eq_wdi (by decide) (fun j _ => by simp)).symm
 simp [st, this]
theorem ck_pos {β : Type} {p : Prop} [Decidable p] {f : Unit → Option β} (h : p) : (ck p).bind f = f () := by simp [ck, h]
theorem geti_nat {α : Type} {l : List α} {i : Nat} (h : i < l.length) : geti l (i : Int) = some l[i] := by simp [geti, h]
def nn (bs : List Nat) : List Int := bs.map Int.ofNat
theorem nn_len (bs : List Nat) : (nn bs).length = bs.length := by simp [nn]
theorem Of_l0_spec (K : Nat) (bs : List Nat) (hb : ∀ b ∈ bs, b < 256) (hl : bs.length < 4611686018427387904) (y : Arr4) : ∀ (m k i : Nat) (p : Nat → Bool), bs.length - i = m → i ≤ bs.length → m < k →
  bset_Of_l0 K k (nn bs) (bs.length : Int) (i : Int) y (st p) = some (st (fun c => p c || (bs.drop i).contains c)) := by
 intro m
 induction m with
 | zero =>
  intro k i p hm hi hk
  obtain ⟨k, rfl⟩ : ∃ k', k = k' + 1 := ⟨k - 1, by omega⟩
  have hi' : i = bs.length := by omega
  rw [bset_Of_l0, hi']
  simp
 | succ m ih =>
  intro k i p hm hi hk
  obtain ⟨k, rfl⟩ : ∃ k', k = k' + 1 := ⟨k - 1, by omega⟩
  have hlt : i < bs.length := by omega
  have hlt' : i < (nn bs).length := by rw [nn_len]; exact hlt
  have hbi : bs[i] < 256 := hb _ (List.getElem_mem hlt)
  have hv : (nn bs)[i] = (bs[i] : Int) := by simp [nn]
  rw [bset_Of_l0]
  have hc : (decide ((i : Int) < (bs.length : Int))) = true := by simp; exact hlt
  simp only [hc, cT]
  rw [geti_nat hlt', bS, hv, div64 _ hbi, mod64, pow64 _ (Nat.mod_lt _ (by decide)), ck_pos ⟨by omega, by omega⟩, ck_pos (by omega), st_add p _ hbi, w64 (by omega) (by omega)]
  rw [show ((i : Int) + 1) = ((i + 1 : Nat) : Int) by omega, ih k (i + 1) _ (by omega) (by omega) (by omega)]
  refine congrArg some (st_congr (fun c _ => ?_))
  rw [List.drop_eq_getElem_cons hlt, List.contains_cons, Bool.or_assoc]
theorem Of_spec (K : Nat) (bs : List Nat) (hb : ∀ b ∈ bs, b < 256) (hl : bs.length < 4611686018427387904) (hK : bs.length < K) : bset_Of K (nn bs) = some (st (fun c => bs.contains c)) := by
 rw [bset_Of, nn_len, st_none]
 have := Of_l0_spec K bs hb hl (st fun _ => false) bs.length K 0 (fun _ => false) (by omega) (by omega) hK
 rw [Int.ofNat_zero] at this
 rw [this]
 simp
theorem Range_l0_spec (K hi : Nat) (hh : hi < 256) (y : Arr4) : ∀ (m k b : Nat) (p : Nat → Bool), hi + 1 - b = m → b ≤ 256 → m < k →
  bset_Range_l0 K k (hi : Int) (b : Int) y (st p) = some (st (fun c => p c || (decide (b ≤ c) && decide (c ≤ hi)))) := by
 intro m
 induction m with
 | zero =>
  intro k b p hm hb hk
  obtain ⟨k, rfl⟩ : ∃ k', k = k' + 1 := ⟨k - 1, by omega⟩
  rw [bset_Range_l0]
  simp only [w64 (n := (hi : Int)) (by omega) (by omega)]
  have hc : (decide ((b : Int) ≤ (hi : Int))) = false := by simp; omega
  simp only [hc, cF]
  refine congrArg some (st_congr (fun c _ => ?_))
  have : (decide (b ≤ c) && decide (c ≤ hi)) = false := by simp; omega
  rw [this, Bool.or_false]
 | succ m ih =>
  intro k b p hm hb hk
  obtain ⟨k, rfl⟩ : ∃ k', k = k' + 1 := ⟨k - 1, by omega⟩
  have hbl : b < 256 := by omega
  rw [bset_Range_l0]
  simp only [w64 (n := (hi : Int)) (by omega) (by omega)]
  have hc : (decide ((b : Int) ≤ (hi : Int))) = true := by simp; omega
  simp only [hc, cT]
  rw [div64' _ hbl, mod64, pow64 _ (Nat.mod_lt _ (by decide)), ck_pos ⟨by omega, by omega⟩, ck_pos (by omega), st_add p _ hbl, w64 (n := (b : Int) + 1) (by omega) (by omega)]
  rw [show ((b : Int) + 1) = ((b + 1 : Nat) : Int) by omega, ih k (b + 1) _ (by omega) (by omega) (by omega)]
  refine congrArg some (st_congr (fun c _ => ?_))
  rw [Bool.eq_iff_iff]
  simp only [Bool.or_eq_true, beq_iff_eq, Bool.and_eq_true, decide_eq_true_eq]
  constructor
  ·rintro ((h | h) | h)
   ·exact .inl h
   ·exact .inr (by omega)
   ·exact .inr (by omega)
  ·rintro (h | h)
   ·exact .inl (.inl h)
   ·by_cases hcb : c = b
    ·exact .inl (.inr hcb)
    ·exact .inr (by omega)
theorem Range_spec (K lo hi : Nat) (hl : lo < 256) (hh : hi < 256) (hK : 257 < K) : bset_Range K (lo : Int) (hi : Int) = some (st (fun c => decide (lo ≤ c) && decide (c ≤ hi))) := by
 rw [bset_Range, st_none, w64 (by omega) (by omega), Range_l0_spec K hi hh _ (hi + 1 - lo) K lo _ rfl (by omega) (by omega)]
 simp
theorem orW (p q : Nat → Bool) (i : Nat) : bits .or .u64 (wdi p i : Nat) (wdi q i : Nat) = (wdi (fun c => p c || q c) i : Nat) := by
 have h1 := wdi_lt p i
 have h2 := wdi_lt q i
 rw [bits_or_u64_nat _ _ h1 h2]
 refine congrArg (Nat.cast (R := Int)) (eq_wdi ?_ (fun j hj => ?_))
 ·rw [← two64] at h1 h2 ⊢
  exact Nat.or_lt_two_pow h1 h2
 ·rw [Nat.testBit_or, wdi_bit p _ j hj, wdi_bit q _ j hj]
theorem notW (p : Nat → Bool) (i : Nat) : bits .xor .u64 IntKind.u64.max (wdi p i : Nat) = (wdi (fun c => !p c) i : Nat) := by
 have h1 := wdi_lt p i
 have e : IntKind.u64.max = ((2 ^ 64 - 1 : Nat) : Int) := by decide
 have hm : 2 ^ 64 - 1 < 18446744073709551616 := by decide
 rw [e, bits_xor_u64_nat _ _ hm h1]
 refine congrArg (Nat.cast (R := Int)) (eq_wdi ?_ (fun j hj => ?_))
 ·rw [← two64] at h1 hm ⊢
  exact Nat.xor_lt_two_pow hm h1
 ·rw [Nat.testBit_xor, wdi_bit p _ j hj, Nat.testBit_two_pow_sub_one]
  simp [hj]
theorem q01 : IntKind.i64.wrap (0 + 1) = 1 := by decide
theorem q12 : IntKind.i64.wrap (1 + 1) = 2 := by decide
theorem q23 : IntKind.i64.wrap (2 + 1) = 3 := by decide
theorem q34 : IntKind.i64.wrap (3 + 1) = 4 := by decide
theorem Or_l1_spec (K : Nat) (go : List Arr4 → Int → Int → Arr4 → Arr4 → Option Arr4) (k : Nat) (hk : 5 ≤ k) (xs : List Arr4) (n i : Int) (y : Arr4) (p q : Nat → Bool) :
  bset_Or_l1 K go k xs n i (st q) 0 y (st p) = go xs n (IntKind.i64.wrap (i + 1)) y (st (fun c => p c || q c)) := by
 obtain ⟨k, rfl⟩ : ∃ k', k = k' + 5 := ⟨k - 5, by omega⟩
 have e : ∀ a b c d : Int, (Arr4.mk a b c d).get 0 = a ∧ (Arr4.mk a b c d).get 1 = b ∧ (Arr4.mk a b c d).get 2 = c ∧ (Arr4.mk a b c d).get 3 = d := fun a b c d => ⟨rfl, rfl, rfl, rfl⟩
 have f : ∀ a b c d v : Int, (Arr4.mk a b c d).set 0 v = ⟨v, b, c, d⟩ ∧ (Arr4.mk a b c d).set 1 v = ⟨a, v, c, d⟩ ∧ (Arr4.mk a b c d).set 2 v = ⟨a, b, v, d⟩ ∧ (Arr4.mk a b c d).set 3 v = ⟨a, b, c, v⟩ := fun a b c d v => ⟨rfl, rfl, rfl, rfl⟩
 simp only [bset_Or_l1, st, ck, q01, q12, q23, q34, (e _ _ _ _).1, (e _ _ _ _).2.1, (e _ _ _ _).2.2.1, (e _ _ _ _).2.2.2, (f _ _ _ _ _).1, (f _ _ _ _ _).2.1, (f _ _ _ _ _).2.2.1, (f _ _ _ _ _).2.2.2, orW]
 rfl
theorem Or_l0_spec (K : Nat) (hK : 5 ≤ K) (qs : List (Nat → Bool)) (hl : qs.length < 4611686018427387904) (y : Arr4) : ∀ (m k i : Nat) (p : Nat → Bool), qs.length - i = m → i ≤ qs.length → m < k →
  bset_Or_l0 K k (qs.map st) (qs.length : Int) (i : Int) y (st p) = some (st (fun c => p c || (qs.drop i).any (fun q => q c))) := by
 intro m
 induction m with
 | zero =>
  intro k i p hm hi hk
  obtain ⟨k, rfl⟩ : ∃ k', k = k' + 1 := ⟨k - 1, by omega⟩
  have hi' : i = qs.length := by omega
  rw [bset_Or_l0, hi']
  simp
 | succ m ih =>
  intro k i p hm hi hk
  obtain ⟨k, rfl⟩ : ∃ k', k = k' + 1 := ⟨k - 1, by omega⟩
  have hlt : i < qs.length := by omega
  rw [bset_Or_l0]
  have hc : (decide ((i : Int) < (qs.length : Int))) = true := by simp; exact hlt
  have hg : geti (qs.map st) (i : Int) = some (st qs[i]) := by rw [geti_nat (by simpa using hlt)]; simp
  simp only [hc, cT, hg, bS]
  rw [Or_l1_spec K _ K hK, w64 (by omega) (by omega), show ((i : Int) + 1) = ((i + 1 : Nat) : Int) by omega, ih k (i + 1) _ (by omega) (by omega) (by omega)]
  refine congrArg some (st_congr (fun c _ => ?_))
  rw [List.drop_eq_getElem_cons hlt, List.any_cons, Bool.or_assoc]
theorem Or_spec (K : Nat) (hK : 5 ≤ K) (qs : List (Nat → Bool)) (hl : qs.length < 4611686018427387904) (hn : qs.length < K) : bset_Or K (qs.map st) = some (st (fun c => qs.any (fun q => q c))) := by
 rw [bset_Or, st_none, List.length_map]
 have := Or_l0_spec K hK qs hl (st fun _ => false) qs.length K 0 (fun _ => false) (by omega) (by omega) hn
 rw [Int.ofNat_zero] at this
 rw [this]
 simp
theorem Or2 (K : Nat) (hK : 5 ≤ K) (p q : Nat → Bool) : bset_Or K [st p, st q] = some (st (fun c => p c || q c)) := by
 have := Or_spec K hK [p, q] (by simp) (by simp; omega)
 simpa using this
theorem Not_spec (K : Nat) (hK : 5 ≤ K) (p : Nat → Bool) : bset_Not K (st p) = some (st (fun c => !p c)) := by
 obtain ⟨k, rfl⟩ : ∃ k', K = k' + 5 := ⟨K - 5, by omega⟩
 have e : ∀ a b c d : Int, (Arr4.mk a b c d).get 0 = a ∧ (Arr4.mk a b c d).get 1 = b ∧ (Arr4.mk a b c d).get 2 = c ∧ (Arr4.mk a b c d).get 3 = d := fun a b c d => ⟨rfl, rfl, rfl, rfl⟩
 have f : ∀ a b c d v : Int, (Arr4.mk a b c d).set 0 v = ⟨v, b, c, d⟩ ∧ (Arr4.mk a b c d).set 1 v = ⟨a, v, c, d⟩ ∧ (Arr4.mk a b c d).set 2 v = ⟨a, b, v, d⟩ ∧ (Arr4.mk a b c d).set 3 v = ⟨a, b, c, v⟩ := fun a b c d v => ⟨rfl, rfl, rfl, rfl⟩
 simp only [bset_Not, bset_Not_l0, st, ck, q01, q12, q23, q34, (e _ _ _ _).1, (e _ _ _ _).2.1, (e _ _ _ _).2.2.1, (e _ _ _ _).2.2.2, (f _ _ _ _ _).1, (f _ _ _ _ _).2.1, (f _ _ _ _ _).2.2.1, (f _ _ _ _ _).2.2.2, notW]
 rfl
theorem nn_lt {bs : List Nat} {i : Nat} (h : i < bs.length) : geti (nn bs) (i : Int) = some ((bs[i] : Nat) : Int) := by
 rw [geti_nat (by rw [nn_len]; exact h)]
 simp [nn]
theorem Of1 (K : Nat) (hK : 5 ≤ K) (b : Nat) (hb : b < 256) : bset_Of K [(b : Int)] = some (st (fun c => c == b)) := by
 have := Of_spec K [b] (by simpa using hb) (by simp) (by simp; omega)
 rw [show [(b : Int)] = nn [b] from rfl, this]
 refine congrArg some (st_congr (fun c _ => ?_))
 rw [Bool.eq_iff_iff]
 simp
end Go.Rv

/- Sets of bytes, plainly, 4: Fold, Has; the laws that need no reference: BsetFolds, BsetSizes, BsetLaws. -/
import Derived.Test.YtjgldamcldbbfaaDoorRpB3
namespace Go.Rv

theorem nn_lt {bs : List Nat} {i : Nat} (h : i < bs.length) : geti (nn bs) (i : Int) = some ((bs[i] : Nat) : Int) := by
  rw [geti_nat (by rw [nn_len]; exact h)]
  simp [nn]
theorem Of1 (K : Nat) (hK : 5 ≤ K) (b : Nat) (hb : b < 256) : bset_Of K [(b : Int)] = some (st (fun c => c == b)) := by
  have := Of_spec K [b] (by simpa using hb) (by simp) (by simp; omega)
  rw [show [(b : Int)] = nn [b] from rfl, this]
  refine congrArg some (st_congr (fun c _ => ?_))
  rw [Bool.eq_iff_iff]
  simp
theorem mem_els {p : Nat → Bool} {b : Nat} : b ∈ els p ↔ b < 256 ∧ p b = true := by simp [els]
theorem els_len (p : Nat → Bool) : (els p).length ≤ 256 := by
  have := List.length_filter_le p (List.range 256)
  simpa [els] using this

def isA (c : Nat) : Bool := decide (65 ≤ c) && decide (c ≤ 90)
def isa (c : Nat) : Bool := decide (97 ≤ c) && decide (c ≤ 122)
def fd (p : Nat → Bool) (c : Nat) : Bool := p c || (isA c && p (c + 32)) || (isa c && p (c - 32))

theorem Fold_l1_spec (K : Nat) (hK : 5 ≤ K) (bs : List Nat) (hb : ∀ b ∈ bs, b < 200) (hl : bs.length ≤ 256) (y2 : Arr4) : ∀ (m k i : Nat) (q : Nat → Bool), bs.length - i = m → i ≤ bs.length → m < k →
    bset_Fold_l1 K k (nn bs) (bs.length : Int) (i : Int) y2 (st q) = some (st (fun c => q c || (bs.drop i).any (fun b => c == b + 32))) := by
  intro m
  induction m with
  | zero =>
    intro k i q hm hi hk
    obtain ⟨k, rfl⟩ : ∃ k', k = k' + 1 := ⟨k - 1, by omega⟩
    have hi' : i = bs.length := by omega
    rw [bset_Fold_l1, hi']
    simp
  | succ m ih =>
    intro k i q hm hi hk
    obtain ⟨k, rfl⟩ : ∃ k', k = k' + 1 := ⟨k - 1, by omega⟩
    have hlt : i < bs.length := by omega
    have hbi : bs[i] < 200 := hb _ (List.getElem_mem hlt)
    rw [bset_Fold_l1]
    have hc : (decide ((i : Int) < (bs.length : Int))) = true := by simp; exact hlt
    have hv : IntKind.u8.wrap (((bs[i] : Nat) : Int) + 32) = ((bs[i] + 32 : Nat) : Int) := by rw [show ((bs[i] : Nat) : Int) + 32 = ((bs[i] + 32 : Nat) : Int) by omega, w8 (by omega)]
    simp only [hc, cond_true, nn_lt hlt, Option.bind_some, hv, Of1 K hK (bs[i] + 32) (by omega), Or2 K hK, w64 (n := (i : Int) + 1) (by omega) (by omega)]
    rw [show ((i : Int) + 1) = ((i + 1 : Nat) : Int) by omega, ih k (i + 1) _ (by omega) (by omega) (by omega)]
    refine congrArg some (st_congr (fun c _ => ?_))
    rw [List.drop_eq_getElem_cons hlt, List.any_cons, Bool.or_assoc]
theorem Fold_l0_spec (K : Nat) (hK : 300 ≤ K) (bs : List Nat) (hb : ∀ b ∈ bs, 97 ≤ b ∧ b ≤ 122) (hl : bs.length ≤ 256) (y2 : Arr4) (p : Nat → Bool) : ∀ (m k i : Nat) (q : Nat → Bool), bs.length - i = m → i ≤ bs.length → m < k →
    bset_Fold_l0 K k (nn bs) (bs.length : Int) (i : Int) (st p) y2 (st q) = some (st (fun c => (q c || (bs.drop i).any (fun b => c == b - 32)) || (els (fun c => p c && isA c)).any (fun b => c == b + 32))) := by
  intro m
  induction m with
  | zero =>
    intro k i q hm hi hk
    obtain ⟨k, rfl⟩ : ∃ k', k = k' + 1 := ⟨k - 1, by omega⟩
    have hi' : i = bs.length := by omega
    have hR := Range_spec K 65 90 (by omega) (by omega) (by omega)
    have hA := And2 K (by omega) p (fun c => decide (65 ≤ c) && decide (c ≤ 90))
    have hL := List_spec K (by omega) (fun c => p c && (decide (65 ≤ c) && decide (c ≤ 90)))
    have hF := Fold_l1_spec K (by omega) (els (fun c => p c && (decide (65 ≤ c) && decide (c ≤ 90)))) (fun b hb => by
      obtain ⟨_, h⟩ := mem_els.1 hb
      simp at h
      omega) (els_len _) y2 _ K 0 q rfl (by omega) (by have := els_len (fun c => p c && (decide (65 ≤ c) && decide (c ≤ 90))); omega)
    rw [bset_Fold_l0, hi']
    have hc : (decide (((bs.length : Nat) : Int) < (bs.length : Int))) = false := by simp
    simp only [hc, cond_false]
    rw [show (65 : Int) = ((65 : Nat) : Int) from rfl, show (90 : Int) = ((90 : Nat) : Int) from rfl, hR, Option.bind_some, hA, Option.bind_some, hL, Option.bind_some, nn_len, show (0 : Int) = ((0 : Nat) : Int) from rfl, hF]
    refine congrArg some (st_congr (fun c _ => ?_))
    simp [isA]
  | succ m ih =>
    intro k i q hm hi hk
    obtain ⟨k, rfl⟩ : ∃ k', k = k' + 1 := ⟨k - 1, by omega⟩
    have hlt : i < bs.length := by omega
    have hbi := hb _ (List.getElem_mem hlt)
    rw [bset_Fold_l0]
    have hc : (decide ((i : Int) < (bs.length : Int))) = true := by simp; exact hlt
    have hv : IntKind.u8.wrap (((bs[i] : Nat) : Int) - 32) = ((bs[i] - 32 : Nat) : Int) := by rw [show ((bs[i] : Nat) : Int) - 32 = ((bs[i] - 32 : Nat) : Int) by omega, w8 (by omega)]
    simp only [hc, cond_true, nn_lt hlt, Option.bind_some, hv, Of1 K (by omega) (bs[i] - 32) (by omega), Or2 K (by omega : 5 ≤ K), w64 (n := (i : Int) + 1) (by omega) (by omega)]
    rw [show ((i : Int) + 1) = ((i + 1 : Nat) : Int) by omega, ih k (i + 1) _ (by omega) (by omega) (by omega)]
    refine congrArg some (st_congr (fun c _ => ?_))
    rw [List.drop_eq_getElem_cons hlt, List.any_cons, Bool.or_assoc (q c)]
theorem Fold_spec (K : Nat) (hK : 300 ≤ K) (p : Nat → Bool) : bset_Fold K (st p) = some (st (fd p)) := by
  have hR := Range_spec K 97 122 (by omega) (by omega) (by omega)
  have hA := And2 K (by omega) p (fun c => decide (97 ≤ c) && decide (c ≤ 122))
  have hL := List_spec K (by omega) (fun c => p c && (decide (97 ≤ c) && decide (c ≤ 122)))
  have hF := Fold_l0_spec K hK (els (fun c => p c && (decide (97 ≤ c) && decide (c ≤ 122)))) (fun b hb => by
    obtain ⟨_, h⟩ := mem_els.1 hb
    simp at h
    omega) (els_len _) (Arr4.mk 0 0 0 0) p _ K 0 p rfl (by omega) (by have := els_len (fun c => p c && (decide (97 ≤ c) && decide (c ≤ 122))); omega)
  rw [bset_Fold, show (97 : Int) = ((97 : Nat) : Int) from rfl, show (122 : Int) = ((122 : Nat) : Int) from rfl, hR, Option.bind_some, hA, Option.bind_some, hL, Option.bind_some, nn_len, show (0 : Int) = ((0 : Nat) : Int) from rfl]
  rw [show (Arr4.mk ((0 : Nat) : Int) ((0 : Nat) : Int) ((0 : Nat) : Int) ((0 : Nat) : Int)) = Arr4.mk 0 0 0 0 from rfl, hF]
  refine congrArg some (st_congr (fun c hc => ?_))
  rw [Bool.eq_iff_iff]
  simp only [List.drop_zero, Bool.or_eq_true, List.any_eq_true, mem_els, beq_iff_eq, fd, isA, isa, Bool.and_eq_true, decide_eq_true_eq]
  constructor
  · rintro ((h | ⟨b, ⟨h1, h2, h3⟩, rfl⟩) | ⟨b, ⟨h1, h2, h3⟩, rfl⟩)
    · exact .inl (.inl h)
    · refine .inl (.inr ⟨by omega, ?_⟩)
      rw [show b - 32 + 32 = b by omega]; exact h2
    · refine .inr ⟨by omega, ?_⟩
      rw [show b + 32 - 32 = b by omega]; exact h2
  · rintro ((h | ⟨h1, h2⟩) | ⟨h1, h2⟩)
    · exact .inl (.inl h)
    · exact .inl (.inr ⟨c + 32, ⟨by omega, h2, by omega⟩, by omega⟩)
    · exact .inr ⟨c - 32, ⟨by omega, h2, by omega⟩, by omega⟩

theorem fd_fd (p : Nat → Bool) (c : Nat) : fd (fd p) c = fd p c := by
  by_cases h1 : isA c = true
  · have h2 : isa c = false := by simp only [isA, isa, Bool.and_eq_true, decide_eq_true_eq, Bool.and_eq_false_iff, decide_eq_false_iff_not] at *; omega
    have h3 : isA (c + 32) = false := by simp only [isA, isa, Bool.and_eq_true, decide_eq_true_eq, Bool.and_eq_false_iff, decide_eq_false_iff_not] at *; omega
    have h4 : isa (c + 32) = true := by simp only [isA, isa, Bool.and_eq_true, decide_eq_true_eq] at *; omega
    simp only [fd, h1, h2, h3, h4, Nat.add_sub_cancel, Bool.true_and, Bool.false_and, Bool.or_false]
    cases p c <;> cases p (c + 32) <;> rfl
  · have h1 : isA c = false := by simpa using h1
    by_cases h2 : isa c = true
    · have h3 : isa (c - 32) = false := by simp only [isA, isa, Bool.and_eq_true, decide_eq_true_eq, Bool.and_eq_false_iff, decide_eq_false_iff_not] at *; omega
      have h4 : isA (c - 32) = true := by simp only [isA, isa, Bool.and_eq_true, decide_eq_true_eq] at *; omega
      have h5 : c - 32 + 32 = c := by simp only [isa, Bool.and_eq_true, decide_eq_true_eq] at h2; omega
      simp only [fd, h1, h2, h3, h4, h5, Bool.true_and, Bool.false_and, Bool.or_false]
      cases p c <;> cases p (c - 32) <;> rfl
    · have h2 : isa c = false := by simpa using h2
      simp [fd, h1, h2]
theorem fd_or (p q : Nat → Bool) (c : Nat) : fd (fun c => p c || q c) c = (fd p c || fd q c) := by
  simp only [fd]
  cases isA c <;> cases isa c <;> cases p c <;> cases q c <;> cases p (c + 32) <;> cases q (c + 32) <;> cases p (c - 32) <;> cases q (c - 32) <;> rfl

theorem shown_true : raddlelaw01_shown 1000 = some true := by decide +kernel
theorem Folds_plain (p q : Nat → Bool) : raddlelaw01_BsetFolds 1000 (st p) (st q) = some true := by
  have hR1 := Range_spec 1000 97 122 (by omega) (by omega) (by omega)
  have hR2 := Range_spec 1000 65 90 (by omega) (by omega) (by omega)
  have F := fun p => Fold_spec 1000 (by omega) p
  have O := fun p q => Or2 1000 (by omega) p q
  have A := fun p q => And2 1000 (by omega) p q
  have N := fun p => Not_spec 1000 (by omega) p
  have s1 : (st (fd (fd p))).same (st (fd p)) = true := (same_st _ _).2 (fun b _ => fd_fd p b)
  have s2 : (st (fd (fun c => p c || q c))).same (st (fun c => fd p c || fd q c)) = true := (same_st _ _).2 (fun b _ => fd_or p q b)
  have s3 : (st (fun c => fd p c && p c)).same (st p) = true := (same_st _ _).2 (fun b _ => by simp only [fd]; cases p b <;> simp)
  have s4 : (st (fun c => fd p c && !((decide (97 ≤ c) && decide (c ≤ 122)) || (decide (65 ≤ c) && decide (c ≤ 90))))).same (st (fun c => p c && !((decide (97 ≤ c) && decide (c ≤ 122)) || (decide (65 ≤ c) && decide (c ≤ 90))))) = true := (same_st _ _).2 (fun b _ => by
    simp only [fd, isA, isa]
    cases (decide (97 ≤ b) && decide (b ≤ 122)) <;> cases (decide (65 ≤ b) && decide (b ≤ 90)) <;> simp)
  rw [raddlelaw01_BsetFolds, shown_true, Option.bind_some, F, Option.bind_some, show (97 : Int) = ((97 : Nat) : Int) from rfl, show (122 : Int) = ((122 : Nat) : Int) from rfl, show (65 : Int) = ((65 : Nat) : Int) from rfl, show (90 : Int) = ((90 : Nat) : Int) from rfl,
    hR1, Option.bind_some, hR2, Option.bind_some, O, Option.bind_some, cond_true, F, Option.bind_some, s1, cond_true, O, Option.bind_some, F, Option.bind_some, F, Option.bind_some, O, Option.bind_some, s2, cond_true, A, Option.bind_some, s3, cond_true, N, Option.bind_some, A, Option.bind_some, A, Option.bind_some, s4]

theorem Has_spec (K : Nat) (p : Nat → Bool) (b : Nat) (hb : b < 256) : bset_Has K (st p) (b : Int) = some (p b) := by
  have hlt : wdi p (b / 64) / 2 ^ (b % 64) < 18446744073709551616 := Nat.lt_of_le_of_lt (Nat.div_le_self _ _) (wdi_lt _ _)
  rw [bset_Has, div64 _ hb, mod64, ck_pos ⟨by omega, by omega⟩, ck_pos (by omega), st_get p (by omega), shr64 _ _ (Nat.mod_lt _ (by decide)), show (1 : Int) = ((1 : Nat) : Int) from rfl, bits_and_u64_nat _ _ hlt (by decide)]
  rw [Nat.and_one_is_mod, bit_mod, wdi_bit p _ _ (Nat.mod_lt _ (by decide)), Nat.div_add_mod]
  cases p b <;> rfl
end Go.Rv

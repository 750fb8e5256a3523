/- Sets of bytes, plainly, 6: the document's answers, byte by byte. -/
import Derived.Test.YtjgldamcldbbfaaDoorRpB5
namespace Go.Rv

theorem add_or (x k : Nat) (hx : x < 18446744073709551616) (hk : k < 64) (hb : x.testBit k = false) : IntKind.u64.wrap ((x : Int) + ((2 ^ k : Nat) : Int)) = bits .or .u64 (x : Int) ((2 ^ k : Nat) : Int) := by
  have hp := pow_lt k hk
  rw [bits_or_u64_nat _ _ hx hp]
  have hand : x &&& 2 ^ k = 0 := by
    apply Nat.eq_of_testBit_eq
    intro j
    rw [Nat.testBit_and, Nat.testBit_two_pow, Nat.zero_testBit]
    by_cases hj : k = j
    · subst hj; simp [hb]
    · simp [hj]
  have e1 : x % 2 ^ 64 = x := Nat.mod_eq_of_lt (by rw [two64]; exact hx)
  have e2 : 2 ^ k % 2 ^ 64 = 2 ^ k := Nat.mod_eq_of_lt (by rw [two64]; exact hp)
  have h1 : (BitVec.ofNat 64 x) &&& (BitVec.ofNat 64 (2 ^ k)) = 0#64 := by
    apply BitVec.eq_of_toNat_eq
    rw [BitVec.toNat_and, BitVec.toNat_ofNat, BitVec.toNat_ofNat, e1, e2, hand]
    simp
  have h2 := congrArg BitVec.toNat (BitVec.add_eq_or_of_and_eq_zero _ _ h1)
  rw [BitVec.toNat_add, BitVec.toNat_or, BitVec.toNat_ofNat, BitVec.toNat_ofNat, e1, e2, two64] at h2
  rw [← h2, IntKind.wrap_u64]
  omega
theorem with_spec (K : Nat) (p : Nat → Bool) (b : Nat) (hb : b < 256) : raddleref01_with K (st p) (b : Int) = some (st (fun c => p c || c == b)) := by
  rw [raddleref01_with, rHas_spec K p b hb, Option.bind_some]
  cases h : p b with
  | true =>
    simp only [Bool.not_true, cond_false]
    refine congrArg some (st_congr (fun c _ => ?_))
    by_cases hc : c = b
    · subst hc; simp [h]
    · simp [hc]
  | false =>
    simp only [Bool.not_false, cond_true]
    rw [div64 _ hb, mod64, pow64 _ (Nat.mod_lt _ (by decide)), ck_pos ⟨by omega, by omega⟩, ck_pos (by omega), st_get p (by omega), add_or _ _ (wdi_lt _ _) (Nat.mod_lt _ (by decide)) ?_, orBit p b hb, st_set p b hb]
    rw [wdi_bit p _ _ (Nat.mod_lt _ (by decide)), Nat.div_add_mod]
    exact h

theorem rList_l0 (K : Nat) (p : Nat → Bool) : ∀ (m k i : Nat), 256 - i = m → i ≤ 256 → m < k → raddleref01_List_l0 K k (i : Int) (st p) (nn ((List.range i).filter p)) = some (nn (els p)) := by
  intro m
  induction m with
  | zero =>
    intro k i hm hi hk
    obtain ⟨k, rfl⟩ : ∃ k', k = k' + 1 := ⟨k - 1, by omega⟩
    have hi' : i = 256 := by omega
    subst hi'
    rw [raddleref01_List_l0]
    rfl
  | succ m ih =>
    intro k i hm hi hk
    obtain ⟨k, rfl⟩ : ∃ k', k = k' + 1 := ⟨k - 1, by omega⟩
    have hl : i < 256 := by omega
    have hc : (decide ((i : Int) < 256)) = true := by simp; omega
    have hlen : (nn ((List.range i).filter p)).length ≤ 256 := by
      rw [nn_len]
      have := List.length_filter_le p (List.range i)
      rw [List.length_range] at this
      omega
    have hroom : ∀ v : Int, roomy 1 ((nn ((List.range i).filter p)).length + [v].length) = true := fun v => roomy_iff.2 (by simp only [List.length_singleton, maxLen]; omega)
    have hs : List.range (i + 1) = List.range i ++ [i] := List.range_succ
    have := ih k (i + 1) (by omega) (by omega) (by omega)
    rw [hs, List.filter_append] at this
    rw [raddleref01_List_l0]
    simp only [hc, cond_true, w8 hl, rHas_spec K p i hl, Option.bind_some, w64 (n := (i : Int) + 1) (by omega) (by omega)]
    rw [show ((i : Int) + 1) = ((i + 1 : Nat) : Int) by omega]
    cases h : p i with
    | true =>
      simp only [cond_true]
      rw [ck_pos (hroom _), ← this]
      simp [List.filter_cons, h, nn]
    | false =>
      simp only [cond_false]
      rw [← this]
      simp [List.filter_cons, h]
theorem rList_spec (K : Nat) (hK : 256 < K) (p : Nat → Bool) : raddleref01_List K (st p) = some (nn (els p)) := by
  have := rList_l0 K p 256 K 0 (by omega) (by omega) hK
  rw [raddleref01_List, ← this]
  rfl

theorem rFold_l0 (K : Nat) (p : Nat → Bool) (y2 : Arr4) : ∀ (m k b : Nat) (q : Nat → Bool), 123 - b = m → 97 ≤ b → b ≤ 123 → m < k →
    ∃ r, raddleref01_Fold_l0 K k (b : Int) (st p) y2 (st q) = some (st r) ∧ ∀ c, r c = true ↔ (q c = true ∨ ∃ d, b ≤ d ∧ d ≤ 122 ∧ (p d = true ∨ p (d - 32) = true) ∧ (c = d ∨ c = d - 32)) := by
  intro m
  induction m with
  | zero =>
    intro k b q hm hb hb2 hk
    obtain ⟨k, rfl⟩ : ∃ k', k = k' + 1 := ⟨k - 1, by omega⟩
    have hb' : b = 123 := by omega
    subst hb'
    refine ⟨q, by rw [raddleref01_Fold_l0]; rfl, fun c => ⟨fun h => .inl h, fun h => ?_⟩⟩
    rcases h with h | ⟨d, h1, h2, _⟩
    · exact h
    · omega
  | succ m ih =>
    intro k b q hm hb hb2 hk
    obtain ⟨k, rfl⟩ : ∃ k', k = k' + 1 := ⟨k - 1, by omega⟩
    have hl : b ≤ 122 := by omega
    have hc : (decide ((b : Int) ≤ 122)) = true := by simp; omega
    have hm32 : IntKind.u8.wrap ((b : Int) - 32) = ((b - 32 : Nat) : Int) := by rw [show (b : Int) - 32 = ((b - 32 : Nat) : Int) by omega, w8 (by omega)]
    have hp1 : IntKind.u8.wrap ((b : Int) + 1) = ((b + 1 : Nat) : Int) := by rw [show (b : Int) + 1 = ((b + 1 : Nat) : Int) by omega, w8 (by omega)]
    have step : ∀ q', ∃ r, raddleref01_Fold_l0 K k ((b + 1 : Nat) : Int) (st p) y2 (st q') = some (st r) ∧ ∀ c, r c = true ↔ (q' c = true ∨ ∃ d, b + 1 ≤ d ∧ d ≤ 122 ∧ (p d = true ∨ p (d - 32) = true) ∧ (c = d ∨ c = d - 32)) := fun q' => ih k (b + 1) q' (by omega) (by omega) (by omega) (by omega)
    have j1 : ∀ go, raddleref01_Fold_j1 K go (b : Int) (st p) y2 (st q) = go ((b + 1 : Nat) : Int) (st p) y2 (st (fun c => (q c || c == b) || c == b - 32)) := fun go => by
      rw [raddleref01_Fold_j1, with_spec K q b (by omega), Option.bind_some, hm32, with_spec K _ (b - 32) (by omega), Option.bind_some, hp1]
    have yes : (p b = true ∨ p (b - 32) = true) → ∃ r, raddleref01_Fold_j1 K (raddleref01_Fold_l0 K k) (b : Int) (st p) y2 (st q) = some (st r) ∧ ∀ c, r c = true ↔ (q c = true ∨ ∃ d, b ≤ d ∧ d ≤ 122 ∧ (p d = true ∨ p (d - 32) = true) ∧ (c = d ∨ c = d - 32)) := fun hy => by
      obtain ⟨r, h1, h2⟩ := step (fun c => (q c || c == b) || c == b - 32)
      refine ⟨r, by rw [j1]; exact h1, fun c => ?_⟩
      rw [h2 c]
      simp only [Bool.or_eq_true, beq_iff_eq]
      constructor
      · rintro (((h | h) | h) | ⟨d, h3, h4, h5, h6⟩)
        · exact .inl h
        · exact .inr ⟨b, Nat.le_refl _, hl, hy, .inl h⟩
        · exact .inr ⟨b, Nat.le_refl _, hl, hy, .inr h⟩
        · exact .inr ⟨d, by omega, h4, h5, h6⟩
      · rintro (h | ⟨d, h3, h4, h5, h6⟩)
        · exact .inl (.inl (.inl h))
        · by_cases hd : d = b
          · subst hd
            rcases h6 with h6 | h6
            · exact .inl (.inl (.inr h6))
            · exact .inl (.inr h6)
          · exact .inr ⟨d, by omega, h4, h5, h6⟩
    rw [raddleref01_Fold_l0]
    simp only [hc, cond_true]
    rw [rHas_spec K p b (by omega), Option.bind_some]
    cases h1 : p b with
    | true => simp only [cond_true]; exact yes (.inl h1)
    | false =>
      simp only [cond_false]
      rw [hm32, rHas_spec K p (b - 32) (by omega), Option.bind_some]
      cases h2 : p (b - 32) with
      | true => simp only [cond_true]; exact yes (.inr h2)
      | false =>
        simp only [cond_false]
        obtain ⟨r, h3, h4⟩ := step q
        refine ⟨r, by rw [hp1]; exact h3, fun c => ?_⟩
        rw [h4 c]
        constructor
        · rintro (h | ⟨d, h5, h6, h7, h8⟩)
          · exact .inl h
          · exact .inr ⟨d, by omega, h6, h7, h8⟩
        · rintro (h | ⟨d, h5, h6, h7, h8⟩)
          · exact .inl h
          · by_cases hd : d = b
            · subst hd
              rw [h1, h2] at h7
              rcases h7 with h7 | h7 <;> cases h7
            · exact .inr ⟨d, by omega, h6, h7, h8⟩
theorem rFold_spec (K : Nat) (hK : 300 ≤ K) (p : Nat → Bool) : raddleref01_Fold K (st p) = some (st (fd p)) := by
  obtain ⟨r, h1, h2⟩ := rFold_l0 K p (Arr4.mk 0 0 0 0) 26 K 97 p (by omega) (by omega) (by omega) (by omega)
  rw [raddleref01_Fold, show (97 : Int) = ((97 : Nat) : Int) from rfl, h1]
  refine congrArg some (st_congr (fun c hc => ?_))
  rw [Bool.eq_iff_iff, h2 c]
  simp only [fd, isA, isa, Bool.or_eq_true, Bool.and_eq_true, decide_eq_true_eq]
  constructor
  · rintro (h | ⟨d, h3, h4, h5, h6⟩)
    · exact .inl (.inl h)
    · rcases h5 with h5 | h5 <;> rcases h6 with h6 | h6
      · subst h6; exact .inl (.inl h5)
      · refine .inl (.inr ⟨by omega, ?_⟩)
        rw [show c + 32 = d by omega]; exact h5
      · refine .inr ⟨by omega, ?_⟩
        subst h6; exact h5
      · subst h6; exact .inl (.inl h5)
  · rintro ((h | ⟨h3, h4⟩) | ⟨h3, h4⟩)
    · exact .inl h
    · exact .inr ⟨c + 32, by omega, by omega, .inl h4, .inr (by omega)⟩
    · exact .inr ⟨c, by omega, by omega, .inr h4, .inl rfl⟩

theorem rOf_l0 (K : Nat) (bs : List Nat) (hb : ∀ b ∈ bs, b < 256) (hl : bs.length < 4611686018427387904) (y : Arr4) : ∀ (m k i : Nat) (p : Nat → Bool), bs.length - i = m → i ≤ bs.length → m < k →
    raddleref01_Of_l0 K k (nn bs) (i : Int) y (st p) = some (st (fun c => p c || (bs.drop i).contains c)) := by
  intro m
  induction m with
  | zero =>
    intro k i p hm hi hk
    obtain ⟨k, rfl⟩ : ∃ k', k = k' + 1 := ⟨k - 1, by omega⟩
    have hi' : i = bs.length := by omega
    rw [raddleref01_Of_l0]
    simp only [nn_len, hi']
    simp
  | succ m ih =>
    intro k i p hm hi hk
    obtain ⟨k, rfl⟩ : ∃ k', k = k' + 1 := ⟨k - 1, by omega⟩
    have hlt : i < bs.length := by omega
    have hbi : bs[i] < 256 := hb _ (List.getElem_mem hlt)
    have hc : (decide ((i : Int) < ((nn bs).length : Int))) = true := by rw [nn_len]; simp; exact hlt
    rw [raddleref01_Of_l0]
    simp only [hc, cond_true, nn_lt hlt, Option.bind_some, with_spec K p _ hbi, w64 (n := (i : Int) + 1) (by omega) (by omega)]
    rw [show ((i : Int) + 1) = ((i + 1 : Nat) : Int) by omega, ih k (i + 1) _ (by omega) (by omega) (by omega)]
    refine congrArg some (st_congr (fun c _ => ?_))
    rw [List.drop_eq_getElem_cons hlt, List.contains_cons, Bool.or_assoc]
theorem rOf_spec (K : Nat) (bs : List Nat) (hb : ∀ b ∈ bs, b < 256) (hl : bs.length < 4611686018427387904) (hK : bs.length < K) : raddleref01_Of K (nn bs) = some (st (fun c => bs.contains c)) := by
  have := rOf_l0 K bs hb hl (st fun _ => false) bs.length K 0 (fun _ => false) (by omega) (by omega) hK
  rw [Int.ofNat_zero] at this
  rw [raddleref01_Of, st_none, this]
  simp
theorem rRange_l0 (K hi : Nat) (hh : hi < 256) (y : Arr4) : ∀ (m k b : Nat) (p : Nat → Bool), hi + 1 - b = m → b ≤ 256 → m < k →
    raddleref01_Range_l0 K k (hi : Int) (b : Int) y (st p) = some (st (fun c => p c || (decide (b ≤ c) && decide (c ≤ hi)))) := by
  intro m
  induction m with
  | zero =>
    intro k b p hm hb hk
    obtain ⟨k, rfl⟩ : ∃ k', k = k' + 1 := ⟨k - 1, by omega⟩
    rw [raddleref01_Range_l0]
    simp only [w64 (n := (hi : Int)) (by omega) (by omega)]
    have hc : (decide ((b : Int) ≤ (hi : Int))) = false := by simp; omega
    simp only [hc, cond_false]
    refine congrArg some (st_congr (fun c _ => ?_))
    have : (decide (b ≤ c) && decide (c ≤ hi)) = false := by simp; omega
    rw [this, Bool.or_false]
  | succ m ih =>
    intro k b p hm hb hk
    obtain ⟨k, rfl⟩ : ∃ k', k = k' + 1 := ⟨k - 1, by omega⟩
    have hbl : b < 256 := by omega
    rw [raddleref01_Range_l0]
    simp only [w64 (n := (hi : Int)) (by omega) (by omega)]
    have hc : (decide ((b : Int) ≤ (hi : Int))) = true := by simp; omega
    simp only [hc, cond_true, w8 hbl, with_spec K p b hbl, Option.bind_some, w64 (n := (b : Int) + 1) (by omega) (by omega)]
    rw [show ((b : Int) + 1) = ((b + 1 : Nat) : Int) by omega, ih k (b + 1) _ (by omega) (by omega) (by omega)]
    refine congrArg some (st_congr (fun c _ => ?_))
    rw [Bool.eq_iff_iff]
    simp only [Bool.or_eq_true, beq_iff_eq, Bool.and_eq_true, decide_eq_true_eq]
    constructor
    · rintro ((h | h) | h)
      · exact .inl h
      · exact .inr (by omega)
      · exact .inr (by omega)
    · rintro (h | h)
      · exact .inl (.inl h)
      · by_cases hcb : c = b
        · exact .inl (.inr hcb)
        · exact .inr (by omega)
theorem rRange_spec (K lo hi : Nat) (hl : lo < 256) (hh : hi < 256) (hK : 257 < K) : raddleref01_Range K (lo : Int) (hi : Int) = some (st (fun c => decide (lo ≤ c) && decide (c ≤ hi))) := by
  rw [raddleref01_Range, st_none, w64 (by omega) (by omega), rRange_l0 K hi hh _ (hi + 1 - lo) K lo _ rfl (by omega) (by omega)]
  simp
theorem rNot_l0 (K : Nat) (p : Nat → Bool) (y : Arr4) : ∀ (m k i : Nat) (q : Nat → Bool), 256 - i = m → i ≤ 256 → m < k → raddleref01_Not_l0 K k (i : Int) (st p) y (st q) = some (st (fun c => q c || (decide (i ≤ c) && !p c))) := by
  intro m
  induction m with
  | zero =>
    intro k i q hm hi hk
    obtain ⟨k, rfl⟩ : ∃ k', k = k' + 1 := ⟨k - 1, by omega⟩
    have hi' : i = 256 := by omega
    subst hi'
    have hc : (decide (((256 : Nat) : Int) < 256)) = false := by decide
    rw [raddleref01_Not_l0]
    simp only [hc, cond_false]
    refine congrArg some (st_congr (fun c hc => ?_))
    have : decide (256 ≤ c) = false := by simp; omega
    simp [this]
  | succ m ih =>
    intro k i q hm hi hk
    obtain ⟨k, rfl⟩ : ∃ k', k = k' + 1 := ⟨k - 1, by omega⟩
    have hl : i < 256 := by omega
    have hc : (decide ((i : Int) < 256)) = true := by simp; omega
    have hsplit : ∀ c, (decide (i ≤ c) && !p c) = ((c == i && !p c) || (decide (i + 1 ≤ c) && !p c)) := fun c => by
      rw [Bool.eq_iff_iff]
      simp only [Bool.or_eq_true, Bool.and_eq_true, decide_eq_true_eq, beq_iff_eq]
      constructor
      · rintro ⟨h1, h2⟩
        by_cases h : c = i
        · exact .inl ⟨h, h2⟩
        · exact .inr ⟨by omega, h2⟩
      · rintro (⟨h1, h2⟩ | ⟨h1, h2⟩)
        · exact ⟨by omega, h2⟩
        · exact ⟨by omega, h2⟩
    rw [raddleref01_Not_l0]
    simp only [hc, cond_true, w8 hl, rHas_spec K p i hl, Option.bind_some, w64 (n := (i : Int) + 1) (by omega) (by omega)]
    rw [show ((i : Int) + 1) = ((i + 1 : Nat) : Int) by omega]
    cases h : p i with
    | true =>
      simp only [Bool.not_true, cond_false]
      rw [ih k (i + 1) _ (by omega) (by omega) (by omega)]
      refine congrArg some (st_congr (fun c _ => ?_))
      rw [hsplit c]
      by_cases hci : c = i
      · subst hci; simp [h]
      · have hf : (c == i) = false := beq_false_of_ne hci
        rw [hf]
        simp only [Bool.false_and, Bool.false_or, Bool.or_false]
    | false =>
      simp only [Bool.not_false, cond_true]
      rw [with_spec K q i hl, Option.bind_some, ih k (i + 1) _ (by omega) (by omega) (by omega)]
      refine congrArg some (st_congr (fun c _ => ?_))
      rw [hsplit c, Bool.or_assoc]
      by_cases hci : c = i
      · subst hci; simp [h]
      · have hf : (c == i) = false := beq_false_of_ne hci
        rw [hf]
        simp only [Bool.false_and, Bool.false_or, Bool.or_false]
theorem rNot_spec (K : Nat) (hK : 256 < K) (p : Nat → Bool) : raddleref01_Not K (st p) = some (st (fun c => !p c)) := by
  have := rNot_l0 K p (st fun _ => false) 256 K 0 (fun _ => false) (by omega) (by omega) hK
  rw [Int.ofNat_zero] at this
  rw [raddleref01_Not, st_none, this]
  simp
theorem rOr_l1 (K : Nat) (go : List Arr4 → Int → Arr4 → Arr4 → Option Arr4) (qs : List (Nat → Bool)) (hl : qs.length < 4611686018427387904) (b : Nat) (hb : b < 256) (y : Arr4) : ∀ (m k i : Nat) (p : Nat → Bool), qs.length - i = m → i ≤ qs.length → m < k →
    raddleref01_Or_l1 K go k (qs.map st) (b : Int) (i : Int) y (st p) = go (qs.map st) ((b + 1 : Nat) : Int) y (st (fun c => p c || (c == b && (qs.drop i).any (fun q => q c)))) := by
  intro m
  induction m with
  | zero =>
    intro k i p hm hi hk
    obtain ⟨k, rfl⟩ : ∃ k', k = k' + 1 := ⟨k - 1, by omega⟩
    have hi' : i = qs.length := by omega
    have hc : (decide (((qs.length : Nat) : Int) < ((qs.map st).length : Int))) = false := by simp
    rw [raddleref01_Or_l1, hi']
    simp only [hc, cond_false, w64 (n := (b : Int) + 1) (by omega) (by omega)]
    rw [show ((b : Int) + 1) = ((b + 1 : Nat) : Int) by omega]
    simp
  | succ m ih =>
    intro k i p hm hi hk
    obtain ⟨k, rfl⟩ : ∃ k', k = k' + 1 := ⟨k - 1, by omega⟩
    have hlt : i < qs.length := by omega
    have hc : (decide ((i : Int) < ((qs.map st).length : Int))) = true := by simp; exact hlt
    have hg : geti (qs.map st) (i : Int) = some (st qs[i]) := by rw [geti_nat (by simpa using hlt)]; simp
    rw [raddleref01_Or_l1]
    simp only [hc, cond_true, hg, Option.bind_some, w8 hb, rHas_spec K _ b hb, w64 (n := (i : Int) + 1) (by omega) (by omega)]
    rw [show ((i : Int) + 1) = ((i + 1 : Nat) : Int) by omega]
    cases h : qs[i] b with
    | true =>
      simp only [cond_true]
      rw [with_spec K p b hb, Option.bind_some, ih k (i + 1) _ (by omega) (by omega) (by omega)]
      refine congrArg (go _ _ _) (st_congr (fun c _ => ?_))
      rw [List.drop_eq_getElem_cons hlt, List.any_cons, Bool.or_assoc]
      by_cases hcb : c = b
      · subst hcb; simp [h]
      · have hf : (c == b) = false := beq_false_of_ne hcb
        rw [hf]
        simp only [Bool.false_and, Bool.false_or, Bool.or_false]
    | false =>
      simp only [cond_false]
      rw [ih k (i + 1) _ (by omega) (by omega) (by omega)]
      refine congrArg (go _ _ _) (st_congr (fun c _ => ?_))
      rw [List.drop_eq_getElem_cons hlt, List.any_cons]
      by_cases hcb : c = b
      · subst hcb; simp [h]
      · have hf : (c == b) = false := beq_false_of_ne hcb
        rw [hf]
        simp only [Bool.false_and, Bool.false_or, Bool.or_false]
theorem rOr_l0 (K : Nat) (qs : List (Nat → Bool)) (hl : qs.length < 4611686018427387904) (hK : qs.length < K) (y : Arr4) : ∀ (m k i : Nat) (p : Nat → Bool), 256 - i = m → i ≤ 256 → m < k →
    raddleref01_Or_l0 K k (qs.map st) (i : Int) y (st p) = some (st (fun c => p c || (decide (i ≤ c) && qs.any (fun q => q c)))) := by
  intro m
  induction m with
  | zero =>
    intro k i q hm hi hk
    obtain ⟨k, rfl⟩ : ∃ k', k = k' + 1 := ⟨k - 1, by omega⟩
    have hi' : i = 256 := by omega
    subst hi'
    have hc : (decide (((256 : Nat) : Int) < 256)) = false := by decide
    rw [raddleref01_Or_l0]
    simp only [hc, cond_false]
    refine congrArg some (st_congr (fun c hc => ?_))
    have : decide (256 ≤ c) = false := by simp; omega
    simp [this]
  | succ m ih =>
    intro k i p hm hi hk
    obtain ⟨k, rfl⟩ : ∃ k', k = k' + 1 := ⟨k - 1, by omega⟩
    have hl' : i < 256 := by omega
    have hc : (decide ((i : Int) < 256)) = true := by simp; omega
    rw [raddleref01_Or_l0]
    simp only [hc, cond_true]
    have := rOr_l1 K (raddleref01_Or_l0 K k) qs hl i hl' y qs.length K 0 p (by omega) (by omega) hK
    rw [Int.ofNat_zero] at this
    rw [this, ih k (i + 1) _ (by omega) (by omega) (by omega)]
    refine congrArg some (st_congr (fun c _ => ?_))
    rw [List.drop_zero, Bool.or_assoc]
    refine congrArg (p c || ·) ?_
    rw [Bool.eq_iff_iff]
    simp only [Bool.or_eq_true, Bool.and_eq_true, decide_eq_true_eq, beq_iff_eq]
    constructor
    · rintro (⟨h1, h2⟩ | ⟨h1, h2⟩)
      · exact ⟨by omega, h2⟩
      · exact ⟨by omega, h2⟩
    · rintro ⟨h1, h2⟩
      by_cases h : c = i
      · exact .inl ⟨h, h2⟩
      · exact .inr ⟨by omega, h2⟩
theorem rOr_spec (K : Nat) (hK : 256 < K) (qs : List (Nat → Bool)) (hl : qs.length < 4611686018427387904) (hn : qs.length < K) : raddleref01_Or K (qs.map st) = some (st (fun c => qs.any (fun q => q c))) := by
  have := rOr_l0 K qs hl hn (st fun _ => false) 256 K 0 (fun _ => false) (by omega) (by omega) hK
  rw [Int.ofNat_zero] at this
  rw [raddleref01_Or, st_none, this]
  simp
theorem rAnd_l0 (K : Nat) (hK : 256 < K) (qs : List (Nat → Bool)) (hl : qs.length ≤ 100) (y : Arr4) : ∀ (m k i : Nat), qs.length - i = m → i ≤ qs.length → m < k →
    raddleref01_And_l0 K k (qs.map st) (i : Int) y ((qs.take i).map (fun q => st (fun c => !q c))) = some (st (fun c => qs.all (fun q => q c))) := by
  intro m
  induction m with
  | zero =>
    intro k i hm hi hk
    obtain ⟨k, rfl⟩ : ∃ k', k = k' + 1 := ⟨k - 1, by omega⟩
    have hi' : i = qs.length := by omega
    have hc : (decide (((qs.length : Nat) : Int) < ((qs.map st).length : Int))) = false := by simp
    have e : (qs.take qs.length).map (fun q => st (fun c => !q c)) = (qs.map (fun q c => !q c)).map st := by simp
    have hO := rOr_spec K hK (qs.map (fun q c => !q c)) (by simp; omega) (by simp; omega)
    rw [raddleref01_And_l0, hi']
    simp only [hc, cond_false]
    rw [e, hO, Option.bind_some, rNot_spec K hK, Option.bind_some]
    refine congrArg some (st_congr (fun c _ => ?_))
    simp [List.all_eq_not_any_not, List.any_map, Function.comp_def]
  | succ m ih =>
    intro k i hm hi hk
    obtain ⟨k, rfl⟩ : ∃ k', k = k' + 1 := ⟨k - 1, by omega⟩
    have hlt : i < qs.length := by omega
    have hc : (decide ((i : Int) < ((qs.map st).length : Int))) = true := by simp; exact hlt
    have hg : geti (qs.map st) (i : Int) = some (st qs[i]) := by rw [geti_nat (by simpa using hlt)]; simp
    have hroom : ∀ v : Arr4, roomy 32 (((qs.take i).map (fun q => st (fun c => !q c))).length + [v].length) = true := fun v => roomy_iff.2 (by simp only [List.length_singleton, List.length_map, List.length_take, maxLen]; omega)
    rw [raddleref01_And_l0]
    simp only [hc, cond_true, hg, Option.bind_some, rNot_spec K hK, w64 (n := (i : Int) + 1) (by omega) (by omega)]
    rw [ck_pos (hroom _), show ((i : Int) + 1) = ((i + 1 : Nat) : Int) by omega, ← ih k (i + 1) (by omega) (by omega) (by omega)]
    rw [List.take_succ_eq_append_getElem hlt, List.map_append]
    rfl
theorem rAnd_spec (K : Nat) (hK : 256 < K) (qs : List (Nat → Bool)) (hl : qs.length ≤ 100) : raddleref01_And K (qs.map st) = some (st (fun c => qs.all (fun q => q c))) := by
  have := rAnd_l0 K hK qs hl (Arr4.mk 0 0 0 0) qs.length K 0 (by omega) (by omega) (by omega)
  rw [raddleref01_And, ← this]
  rfl
end Go.Rv

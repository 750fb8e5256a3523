/- Automata, plainly: what both layers' questions 'may it be so?' answer. -/
import Derived.Test.YtaipjabggdifoaaRgM
import Derived.KernelRfl
namespace Go.Rv

theorem ck_pos {β : Type} {p : Prop} [Decidable p] {f : Unit → Option β} (h : p) : (ck p).bind f = f () := by simp [ck, h]
theorem geti_nat {α : Type} {l : List α} {i : Nat} (h : i < l.length) : geti l (i : Int) = some l[i] := by simp [geti, h]
theorem wf_u8 {n : Int} (h : (Lit.int .u8 n).wf = true) : 0 ≤ n ∧ n < 256 := by
  simp [Lit.wf, IntKind.min, IntKind.max, IntKind.signed, IntKind.bits] at h
  omega
theorem w64 {n : Int} (h0 : -9223372036854775808 ≤ n) (h1 : n < 9223372036854775808) : IntKind.i64.wrap n = n := by rw [IntKind.wrap_i64]; omega
theorem w64s {n : Nat} (h : n < 9223372036854775807) : IntKind.i64.wrap ((n : Int) + 1) = ((n + 1 : Nat) : Int) := by rw [w64 (by omega) (by omega)]; omega
theorem dl_true {i n : Nat} (h : i < n) : (decide ((i : Int) < (n : Int))) = true := by simp; exact h
theorem dl_false {i n : Nat} (h : n ≤ i) : (decide ((i : Int) < (n : Int))) = false := by simp; exact h

/- Numbers that rise. -/
def risesF (below : Int) : Int → List Int → Bool
  | _, [] => true
  | last, n :: l => !(decide (n ≤ last)) && (!(decide (n ≥ below)) && risesF below n l)
def risesS (l : List Int) (below : Int) : Bool := risesF below (-1) l
theorem risesF_len {below : Int} : ∀ (l : List Int) (last : Int), -1 ≤ last → risesF below last l = true → (l.length : Int) ≤ below - last - 1 ∨ l = [] := by
  intro l
  induction l with
  | nil => intro last _ _; exact .inr rfl
  | cons n l ih =>
    intro last h0 h
    simp only [risesF, Bool.and_eq_true, Bool.not_eq_true', decide_eq_false_iff_not] at h
    obtain ⟨h1, h2, h3⟩ := h
    refine .inl ?_
    rcases ih n (by omega) h3 with h4 | h4
    · simp only [List.length_cons]; omega
    · subst h4; simp only [List.length_cons, List.length_nil]; omega
theorem autoRises_l0 (K : Nat) (xs : List Int) (b : Int) (hl : xs.length ≤ 9223372036854775807) : ∀ (m k i : Nat) (last : Int), xs.length - i = m → i ≤ xs.length → m < k → auto_rises_l0 K k b last xs (xs.length : Int) (i : Int) = some (risesF b last (xs.drop i)) := by
  intro m
  induction m with
  | zero =>
    intro k i last hm hi hk
    obtain ⟨k, rfl⟩ : ∃ k', k = k' + 1 := ⟨k - 1, by omega⟩
    have hi' : i = xs.length := by omega
    subst hi'
    rw [auto_rises_l0]
    simp only [dl_false (Nat.le_refl _), cond_false, List.drop_length, risesF]
  | succ m ih =>
    intro k i last hm hi hk
    obtain ⟨k, rfl⟩ : ∃ k', k = k' + 1 := ⟨k - 1, by omega⟩
    have hlt : i < xs.length := by omega
    rw [auto_rises_l0, List.drop_eq_getElem_cons hlt]
    simp only [dl_true hlt, cond_true, geti_nat hlt, Option.bind_some, risesF, auto_rises_j1, w64s (n := i) (by omega)]
    cases decide (xs[i] ≤ last) with
    | true => simp
    | false =>
      cases decide (xs[i] ≥ b) with
      | true => simp
      | false => simpa using ih k (i + 1) xs[i] (by omega) (by omega) (by omega)
theorem autoRises (K : Nat) (xs : List Int) (b : Int) (hl : xs.length ≤ 9223372036854775807) (hK : xs.length < K) : auto_rises K xs b = some (risesS xs b) := by
  have := autoRises_l0 K xs b hl xs.length K 0 (-1) (by omega) (by omega) hK
  rw [auto_rises]
  exact this
theorem refRises_l0 (K : Nat) (xs : List Int) (b : Int) (hl : xs.length ≤ 9223372036854775807) : ∀ (m k i : Nat) (last : Int), xs.length - i = m → i ≤ xs.length → m < k → (i = 0 → last = -1) → (∀ h : 0 < i, ∀ h2 : i ≤ xs.length, last = xs[i - 1] ∧ 0 ≤ last) → raddleref11_rises_l0 K k xs b (i : Int) = some (risesF b last (xs.drop i)) := by
  intro m
  induction m with
  | zero =>
    intro k i last hm hi hk h0 h1
    obtain ⟨k, rfl⟩ : ∃ k', k = k' + 1 := ⟨k - 1, by omega⟩
    have hi' : i = xs.length := by omega
    subst hi'
    rw [raddleref11_rises_l0]
    simp only [dl_false (Nat.le_refl _), cond_false, List.drop_length, risesF]
  | succ m ih =>
    intro k i last hm hi hk h0 h1
    obtain ⟨k, rfl⟩ : ∃ k', k = k' + 1 := ⟨k - 1, by omega⟩
    have hlt : i < xs.length := by omega
    rw [raddleref11_rises_l0, List.drop_eq_getElem_cons hlt]
    simp only [dl_true hlt, cond_true, geti_nat hlt, Option.bind_some, risesF, raddleref11_rises_j1, w64s (n := i) (by omega)]
    by_cases hneg : xs[i] < 0
    · have e1 : decide (xs[i] < 0) = true := by simp [hneg]
      have e2 : decide (xs[i] ≤ last) = true := by
        rcases Nat.eq_zero_or_pos i with hz | hz
        · rw [h0 hz]; simp; omega
        · have := (h1 hz hi).2; simp; omega
      simp [e1, e2]
    · have e1 : decide (xs[i] < 0) = false := by simp; omega
      simp only [e1, cond_false]
      by_cases hge : xs[i] ≥ b
      · have e3 : decide (xs[i] ≥ b) = true := by simp [hge]
        simp [e3]
      · have e3 : decide (xs[i] ≥ b) = false := by simp; omega
        simp only [e3, cond_false, Bool.not_false, Bool.true_and]
        rcases Nat.eq_zero_or_pos i with hz | hz
        · have e4 : decide ((i : Int) > 0) = false := by simp [hz]
          have e5 : decide (xs[i] ≤ last) = false := by rw [h0 hz]; simp; omega
          simp only [e4, cond_false, e5, Bool.not_false, Bool.true_and]
          exact ih k (i + 1) xs[i] (by omega) (by omega) (by omega) (by omega) (fun _ _ => ⟨rfl, by omega⟩)
        · have e4 : decide ((i : Int) > 0) = true := by simp; omega
          have e6 : IntKind.i64.wrap ((i : Int) - 1) = ((i - 1 : Nat) : Int) := by rw [w64 (by omega) (by omega)]; omega
          simp only [e4, cond_true, e6, geti_nat (show i - 1 < xs.length by omega), Option.bind_some]
          rw [← (h1 hz hi).1]
          by_cases hle : xs[i] ≤ last
          · have e7 : decide (last ≥ xs[i]) = true := by simp [hle]
            have e8 : decide (xs[i] ≤ last) = true := by simp [hle]
            simp [e7, e8]
          · have e7 : decide (last ≥ xs[i]) = false := by simp; omega
            have e8 : decide (xs[i] ≤ last) = false := by simp; omega
            simp only [e7, cond_false, e8, Bool.not_false, Bool.true_and]
            exact ih k (i + 1) xs[i] (by omega) (by omega) (by omega) (by omega) (fun _ _ => ⟨rfl, by omega⟩)
theorem refRises (K : Nat) (xs : List Int) (b : Int) (hl : xs.length ≤ 9223372036854775807) (hK : xs.length < K) : raddleref11_rises K xs b = some (risesS xs b) := by
  have := refRises_l0 K xs b hl xs.length K 0 (-1) (by omega) (by omega) hK (fun _ => rfl) (fun h => by omega)
  rw [raddleref11_rises]
  exact this

/- Codes. -/
def codesS (n : Int) : Int := if n = 0 then 1 else if n = 1 then 3 else if n = 2 then 9 else if n = 3 then 27 else 0
theorem autoCodes (K : Nat) (hK : 4 ≤ K) (n : Nat) : auto_Codes K (n : Int) = some (codesS n) := by
  obtain ⟨K, rfl⟩ : ∃ k', K = k' + 4 := ⟨K - 4, by omega⟩
  by_cases h : n ≤ 3
  · have : n = 0 ∨ n = 1 ∨ n = 2 ∨ n = 3 := by omega
    rcases this with rfl | rfl | rfl | rfl <;> simp [auto_Codes, auto_Codes_l1, codesS, IntKind.wrap_i64]
  · have e1 : decide ((n : Int) < 0) = false := decide_eq_false (by omega)
    have e2 : decide ((n : Int) > 3) = true := by simp; omega
    have e3 : codesS n = 0 := by simp only [codesS]; (repeat rw [if_neg (by omega)])
    simp only [auto_Codes, e1, e2, cond_false, cond_true, auto_Codes_j0, e3]
theorem refCodes (K : Nat) (hK : 4 ≤ K) (n : Nat) : raddleref11_Codes K (n : Int) = some (codesS n) := by
  obtain ⟨K, rfl⟩ : ∃ k', K = k' + 4 := ⟨K - 4, by omega⟩
  by_cases h : n ≤ 3
  · have : n = 0 ∨ n = 1 ∨ n = 2 ∨ n = 3 := by omega
    rcases this with rfl | rfl | rfl | rfl <;> simp [raddleref11_Codes, raddleref11_Codes_l1, codesS, IntKind.wrap_i64]
  · have e1 : decide ((n : Int) < 0) = false := decide_eq_false (by omega)
    have e2 : decide ((n : Int) > 3) = true := by simp; omega
    have e3 : codesS n = 0 := by simp only [codesS]; (repeat rw [if_neg (by omega)])
    simp only [raddleref11_Codes, e1, e2, cond_false, cond_true, raddleref11_Codes_j0, e3]

/- Is a number in a list? -/
theorem refIn_l0 (K : Nat) (xs : List Int) (v : Int) (hl : xs.length ≤ 9223372036854775807) : ∀ (m k i : Nat), xs.length - i = m → i ≤ xs.length → m < k → raddleref11_in_l0 K k xs v (i : Int) = some ((xs.drop i).contains v) := by
  intro m
  induction m with
  | zero =>
    intro k i hm hi hk
    obtain ⟨k, rfl⟩ : ∃ k', k = k' + 1 := ⟨k - 1, by omega⟩
    have hi' : i = xs.length := by omega
    subst hi'
    rw [raddleref11_in_l0]
    simp only [dl_false (Nat.le_refl _), cond_false, List.drop_length, List.contains_nil]
  | succ m ih =>
    intro k i hm hi hk
    obtain ⟨k, rfl⟩ : ∃ k', k = k' + 1 := ⟨k - 1, by omega⟩
    have hlt : i < xs.length := by omega
    rw [raddleref11_in_l0, List.drop_eq_getElem_cons hlt]
    simp only [dl_true hlt, cond_true, geti_nat hlt, Option.bind_some, w64s (n := i) (by omega), List.contains_cons]
    by_cases h : xs[i] = v
    · simp [h]
    · have e1 : (xs[i] == v) = false := by simp [h]
      have e2 : (v == xs[i]) = false := by simp; exact fun h' => h h'.symm
      simp only [e1, e2, cond_false, Bool.false_or]
      exact ih k (i + 1) (by omega) (by omega) (by omega)
theorem refIn (K : Nat) (xs : List Int) (v : Int) (hl : xs.length ≤ 9223372036854775807) (hK : xs.length < K) : raddleref11_in K xs v = some (xs.contains v) := by
  have := refIn_l0 K xs v hl xs.length K 0 (by omega) (by omega) hK
  rw [raddleref11_in]
  exact this
theorem slIndex_l0 (K : Nat) (xs : List Int) (v : Int) (hl : xs.length ≤ 9223372036854775807) : ∀ (m k i : Nat), xs.length - i = m → i ≤ xs.length → m < k → ∃ r, slices_Index_int_l0 K k xs v (xs.length : Int) (i : Int) = some r ∧ decide (r ≥ 0) = (xs.drop i).contains v := by
  intro m
  induction m with
  | zero =>
    intro k i hm hi hk
    obtain ⟨k, rfl⟩ : ∃ k', k = k' + 1 := ⟨k - 1, by omega⟩
    have hi' : i = xs.length := by omega
    subst hi'
    rw [slices_Index_int_l0]
    exact ⟨-1, by simp only [dl_false (Nat.le_refl _), cond_false], by simp⟩
  | succ m ih =>
    intro k i hm hi hk
    obtain ⟨k, rfl⟩ : ∃ k', k = k' + 1 := ⟨k - 1, by omega⟩
    have hlt : i < xs.length := by omega
    rw [slices_Index_int_l0, List.drop_eq_getElem_cons hlt]
    simp only [dl_true hlt, cond_true, geti_nat hlt, Option.bind_some, w64s (n := i) (by omega), List.contains_cons]
    by_cases h : v = xs[i]
    · refine ⟨i, by simp [h], by simp [h]⟩
    · have e2 : (v == xs[i]) = false := by simp [h]
      obtain ⟨r, h1, h2⟩ := ih k (i + 1) (by omega) (by omega) (by omega)
      exact ⟨r, by simp only [e2, cond_false]; exact h1, by simp only [e2, Bool.false_or]; exact h2⟩
theorem slContains (K : Nat) (xs : List Int) (v : Int) (hl : xs.length ≤ 9223372036854775807) (hK : xs.length < K) : slices_Contains_int K xs v = some (xs.contains v) := by
  obtain ⟨r, h1, h2⟩ := slIndex_l0 K xs v hl xs.length K 0 (by omega) (by omega) hK
  rw [Int.natCast_zero] at h1
  rw [slices_Contains_int, slices_Index_int, h1]
  simpa using h2

/- Splits. -/
def splitF (a : ArrN) : Nat → Nat → Int → Int → Bool
  | 0, _, n, many => n == many
  | m + 1, i, n, many => if a.f i > n then false else if a.f i = n then splitF a m (i + 1) (n + 1) many else splitF a m (i + 1) n many
def splitS (x : api_Split) : Bool := splitF x.Of 256 0 0 x.Many
theorem splitF_many (a : ArrN) : ∀ (m i : Nat) (n many : Int), splitF a m i n many = true → many ≤ n + m := by
  intro m
  induction m with
  | zero => intro i n many h; simp [splitF] at h; omega
  | succ m ih =>
    intro i n many h
    simp only [splitF] at h
    split at h
    · cases h
    · split at h
      · have := ih _ _ _ h; omega
      · have := ih _ _ _ h; omega
theorem autoSplit_l0 (K : Nat) (a : api_Split) (hb : ∀ i, i < 256 → 0 ≤ a.Of.f i ∧ a.Of.f i < 256) : ∀ (m k i : Nat) (n : Int), 256 - i = m → i ≤ 256 → m < k → 0 ≤ n → n ≤ i → split_Right_l0 K k n a (i : Int) = some (splitF a.Of m i n a.Many) := by
  intro m
  induction m with
  | zero =>
    intro k i n hm hi hk h0 h1
    obtain ⟨k, rfl⟩ : ∃ k', k = k' + 1 := ⟨k - 1, by omega⟩
    have hi' : i = 256 := by omega
    subst hi'
    rw [split_Right_l0]
    simp [splitF]
  | succ m ih =>
    intro k i n hm hi hk h0 h1
    obtain ⟨k, rfl⟩ : ∃ k', k = k' + 1 := ⟨k - 1, by omega⟩
    have hlt : i < 256 := by omega
    obtain ⟨b0, b1⟩ := hb i hlt
    have hg : IntKind.i64.wrap (ArrN.get a.Of (i : Int)) = a.Of.f i := by
      simp only [ArrN.get, Int.toNat_natCast]
      exact w64 (by omega) (by omega)
    have e0 : decide ((i : Int) < 256) = true := by simp; omega
    have e9 : IntKind.i64.wrap (n + 1) = n + 1 := w64 (by omega) (by omega)
    rw [split_Right_l0]
    simp only [e0, cond_true, ck_pos (show 0 ≤ (i : Int) ∧ (i : Int) < 256 by omega), hg, splitF, w64s (n := i) (by omega), e9]
    by_cases h2 : a.Of.f i > n
    · simp [h2]
    · have e1 : decide (a.Of.f i > n) = false := by simp; omega
      simp only [e1, cond_false, if_neg h2]
      by_cases h3 : a.Of.f i = n
      · have e2 : (a.Of.f i == n) = true := by simp [h3]
        simp only [e2, cond_true, if_pos h3]
        exact ih k (i + 1) (n + 1) (by omega) (by omega) (by omega) (by omega) (by omega)
      · have e2 : (a.Of.f i == n) = false := by simp [h3]
        simp only [e2, cond_false, if_neg h3]
        exact ih k (i + 1) n (by omega) (by omega) (by omega) (by omega) (by omega)
theorem refSplit_l0 (K : Nat) (a : api_Split) (hb : ∀ i, i < 256 → 0 ≤ a.Of.f i ∧ a.Of.f i < 256) : ∀ (m k i : Nat) (n : Int), 256 - i = m → i ≤ 256 → m < k → 0 ≤ n → n ≤ i → raddleref02_Right_l0 K k n (i : Int) a = some (splitF a.Of m i n a.Many) := by
  intro m
  induction m with
  | zero =>
    intro k i n hm hi hk h0 h1
    obtain ⟨k, rfl⟩ : ∃ k', k = k' + 1 := ⟨k - 1, by omega⟩
    have hi' : i = 256 := by omega
    subst hi'
    rw [raddleref02_Right_l0]
    simp [splitF]
  | succ m ih =>
    intro k i n hm hi hk h0 h1
    obtain ⟨k, rfl⟩ : ∃ k', k = k' + 1 := ⟨k - 1, by omega⟩
    have hlt : i < 256 := by omega
    obtain ⟨b0, b1⟩ := hb i hlt
    have hg : IntKind.i64.wrap (ArrN.get a.Of (i : Int)) = a.Of.f i := by
      simp only [ArrN.get, Int.toNat_natCast]
      exact w64 (by omega) (by omega)
    have e0 : decide ((i : Int) < 256) = true := by simp; omega
    have e9 : IntKind.i64.wrap (n + 1) = n + 1 := w64 (by omega) (by omega)
    rw [raddleref02_Right_l0]
    simp only [e0, cond_true, ck_pos (show 0 ≤ (i : Int) ∧ (i : Int) < 256 by omega), hg, splitF, w64s (n := i) (by omega), e9]
    by_cases h2 : a.Of.f i > n
    · simp [h2]
    · have e1 : decide (a.Of.f i > n) = false := by simp; omega
      simp only [e1, cond_false, if_neg h2]
      by_cases h3 : a.Of.f i = n
      · have e2 : (a.Of.f i == n) = true := by simp [h3]
        simp only [e2, cond_true, if_pos h3]
        exact ih k (i + 1) (n + 1) (by omega) (by omega) (by omega) (by omega) (by omega)
      · have e2 : (a.Of.f i == n) = false := by simp [h3]
        simp only [e2, cond_false, if_neg h3]
        exact ih k (i + 1) n (by omega) (by omega) (by omega) (by omega) (by omega)
theorem autoSplit (K : Nat) (hK : 257 ≤ K) (a : api_Split) (hb : ∀ i, i < 256 → 0 ≤ a.Of.f i ∧ a.Of.f i < 256) : split_Right K a = some (splitS a) := by
  have := autoSplit_l0 K a hb 256 K 0 0 (by omega) (by omega) (by omega) (by omega) (by omega)
  rw [split_Right]; exact this
theorem refSplit (K : Nat) (hK : 257 ≤ K) (a : api_Split) (hb : ∀ i, i < 256 → 0 ≤ a.Of.f i ∧ a.Of.f i < 256) : raddleref02_Right K a = some (splitS a) := by
  have := refSplit_l0 K a hb 256 K 0 0 (by omega) (by omega) (by omega) (by omega) (by omega)
  rw [raddleref02_Right]; exact this
end Go.Rv

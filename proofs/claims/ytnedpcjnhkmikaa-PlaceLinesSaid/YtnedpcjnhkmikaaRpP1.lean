/- Places, plainly: what place.Next and the document's step from byte to byte do. -/
import Derived.Test.YtnedpcjnhkmikaaRgP
namespace Go.Rv

theorem ck_pos {β : Type} {p : Prop} [Decidable p] {f : Unit → Option β} (h : p) : (ck p).bind f = f () := by simp [ck, h]
theorem geti_nat {α : Type} {l : List α} {i : Nat} (h : i < l.length) : geti l (i : Int) = some l[i] := by simp [geti, h]
theorem wf_i64 {n : Int} (h : (Lit.int .i64 n).wf = true) : -9223372036854775808 ≤ n ∧ n < 9223372036854775808 := by
  simp [Lit.wf, IntKind.min, IntKind.max, IntKind.signed, IntKind.bits] at h
  omega
theorem wf_u8 {n : Int} (h : (Lit.int .u8 n).wf = true) : 0 ≤ n ∧ n < 256 := by
  simp [Lit.wf, IntKind.min, IntKind.max, IntKind.signed, IntKind.bits] at h
  omega
theorem w64 {n : Int} (h0 : -9223372036854775808 ≤ n) (h1 : n < 9223372036854775808) : IntKind.i64.wrap n = n := by rw [IntKind.wrap_i64]; omega
theorem ww (a b : Int) : IntKind.i64.wrap (IntKind.i64.wrap a + b) = IntKind.i64.wrap (a + b) := by simp only [IntKind.wrap_i64]; omega
theorem w_range (a : Int) : -9223372036854775808 ≤ IntKind.i64.wrap a ∧ IntKind.i64.wrap a < 9223372036854775808 := by rw [IntKind.wrap_i64]; omega

/-- One byte on. -/
def nx (p : api_Place) (b : Int) : api_Place := if b = 10 then ⟨IntKind.i64.wrap (p.Line + 1), 1⟩ else ⟨p.Line, IntKind.i64.wrap (p.Col + 1)⟩
def nxs (p : api_Place) (l : List Int) : api_Place := l.foldl nx p
theorem rNext_l0 (K : Nat) (xs : List Int) (hl : xs.length < 4611686018427387904) : ∀ (m k i : Nat) (a b : Int), xs.length - i = m → i ≤ xs.length → m < k → raddleref19_Next_l0 K k xs (i : Int) a b = some (nxs ⟨a, b⟩ (xs.drop i)) := by
  intro m
  induction m with
  | zero =>
    intro k i a b hm hi hk
    obtain ⟨k, rfl⟩ : ∃ k', k = k' + 1 := ⟨k - 1, by omega⟩
    have hi' : i = xs.length := by omega
    have hc : (decide (((xs.length : Nat) : Int) < (xs.length : Int))) = false := by simp
    rw [raddleref19_Next_l0, hi']
    simp only [hc, cond_false, List.drop_length, nxs, List.foldl_nil]
  | succ m ih =>
    intro k i a b hm hi hk
    obtain ⟨k, rfl⟩ : ∃ k', k = k' + 1 := ⟨k - 1, by omega⟩
    have hlt : i < xs.length := by omega
    have hc : (decide ((i : Int) < (xs.length : Int))) = true := by simp; exact hlt
    have hst : IntKind.i64.wrap ((i : Int) + 1) = ((i + 1 : Nat) : Int) := by rw [w64 (by omega) (by omega)]; omega
    rw [raddleref19_Next_l0, List.drop_eq_getElem_cons hlt]
    simp only [hc, cond_true, geti_nat hlt, Option.bind_some, hst, nxs, List.foldl_cons, nx]
    by_cases h : xs[i] = 10
    · have hq : (xs[i] == 10) = true := by simp [h]
      simp only [hq, cond_true, if_pos h]
      exact ih k (i + 1) _ _ (by omega) (by omega) (by omega)
    · have hq : (xs[i] == 10) = false := by simp [h]
      simp only [hq, cond_false, if_neg h]
      exact ih k (i + 1) _ _ (by omega) (by omega) (by omega)
theorem rNext_spec (K : Nat) (xs : List Int) (hl : xs.length < 4611686018427387904) (hK : xs.length < K) (p : api_Place) : raddleref19_Next K p xs = some (nxs p xs) := by
  have := rNext_l0 K xs hl xs.length K 0 p.Line p.Col (by omega) (by omega) hK
  rw [raddleref19_Next]
  exact this

/-- Where the last 10 stands. -/
def last10 : List Int → Int
  | [] => -1
  | b :: r => if last10 r ≥ 0 then last10 r + 1 else if b = 10 then 0 else -1
theorem last10_ge (l : List Int) : -1 ≤ last10 l := by
  induction l with
  | nil => simp [last10]
  | cons b r ih => simp only [last10]; split <;> (try split) <;> omega
theorem last10_lt (l : List Int) : last10 l < l.length := by
  induction l with
  | nil => simp [last10]
  | cons b r ih => simp only [last10, List.length_cons]; split <;> (try split) <;> omega
theorem last10_append (l : List Int) (b : Int) : last10 (l ++ [b]) = if b = 10 then (l.length : Int) else last10 l := by
  induction l with
  | nil => simp [last10]
  | cons a l ih =>
    have h1 := last10_ge l
    simp only [List.cons_append, last10, ih, List.length_cons]
    by_cases h : b = 10
    · simp only [if_pos h]
      rw [if_pos (by omega)]
      omega
    · simp only [if_neg h]
theorem Last_l0 (K : Nat) (xs : List Int) (hl : xs.length < 4611686018427387904) : ∀ (n k : Nat), n ≤ xs.length → n < k → bytealg_LastIndexByte_l0 K k xs 10 ((n : Int) - 1) = some (last10 (xs.take n)) := by
  intro n
  induction n with
  | zero =>
    intro k hn hk
    obtain ⟨k, rfl⟩ : ∃ k', k = k' + 1 := ⟨k - 1, by omega⟩
    rw [bytealg_LastIndexByte_l0]
    rfl
  | succ n ih =>
    intro k hn hk
    obtain ⟨k, rfl⟩ : ∃ k', k = k' + 1 := ⟨k - 1, by omega⟩
    have hlt : n < xs.length := by omega
    have e : ((n + 1 : Nat) : Int) - 1 = (n : Int) := by omega
    have hc : (decide ((n : Int) ≥ 0)) = true := by simp
    have hst : IntKind.i64.wrap ((n : Int) - 1) = (n : Int) - 1 := w64 (by omega) (by omega)
    rw [bytealg_LastIndexByte_l0, e, List.take_succ_eq_append_getElem hlt, last10_append, List.length_take, Nat.min_eq_left (by omega)]
    simp only [hc, cond_true, geti_nat hlt, Option.bind_some, hst]
    by_cases h : xs[n] = 10
    · have hq : (xs[n] == 10) = true := by simp [h]
      simp only [hq, cond_true, if_pos h]
    · have hq : (xs[n] == 10) = false := by simp [h]
      simp only [hq, cond_false, if_neg h]
      exact ih k (by omega) (by omega)
theorem Last_spec (K : Nat) (xs : List Int) (hl : xs.length < 4611686018427387904) (hK : xs.length < K) : bytes_LastIndexByte K xs 10 = some (last10 xs) := by
  have := Last_l0 K xs hl xs.length K (Nat.le_refl _) hK
  rw [List.take_length] at this
  rw [bytes_LastIndexByte, bytealg_LastIndexByte, w64 (by omega) (by omega), this]
  rfl

def isB (l : List Int) : Prop := ∀ b ∈ l, 0 ≤ b ∧ b < 256
theorem cnt_spec (l : List Int) (h : isB l) : cntB l 10 = (l.count 10 : Nat) := by
  simp only [cntB, Lib.countByte, Lib.bytesOf]
  congr 1
  induction l with
  | nil => rfl
  | cons b l ih =>
    have hb := h b (by simp)
    rw [List.map_cons, List.count_cons, List.count_cons, ih (fun x hx => h x (by simp [hx]))]
    congr 1
    have : ((UInt8.ofNat b.toNat == (10 : Int).toNat.toUInt8) = (b == 10)) := by
      rw [Bool.eq_iff_iff]
      simp only [beq_iff_eq]
      constructor
      · intro he
        have := congrArg UInt8.toNat he
        simp at this
        omega
      · rintro rfl; rfl
    rw [this]
theorem snoc_ind {α : Type} {P : List α → Prop} (h0 : P []) (h1 : ∀ l b, P l → P (l ++ [b])) : ∀ l, P l := by
  intro l
  rw [← List.reverse_reverse l]
  induction l.reverse with
  | nil => exact h0
  | cons b r ih => rw [List.reverse_cons]; exact h1 _ _ ih
theorem last10_count (l : List Int) : last10 l < 0 ↔ l.count 10 = 0 := by
  refine snoc_ind (P := fun l => last10 l < 0 ↔ l.count 10 = 0) (by simp [last10]) (fun l b ih => ?_) l
  rw [last10_append, List.count_append]
  by_cases h : b = 10
  · subst h
    simp
  · rw [if_neg h, ih]
    have : ([b] : List Int).count 10 = 0 := by simp [List.count_singleton, h]
    rw [this, Nat.add_zero]
/-- What the steps come to. -/
theorem nxs_spec (p : api_Place) (hp : -9223372036854775808 ≤ p.Line ∧ p.Line < 9223372036854775808) (hc : -9223372036854775808 ≤ p.Col ∧ p.Col < 9223372036854775808) (l : List Int) : nxs p l = if last10 l < 0 then ⟨p.Line, IntKind.i64.wrap (p.Col + l.length)⟩ else ⟨IntKind.i64.wrap (p.Line + (l.count 10 : Nat)), IntKind.i64.wrap ((l.length : Int) - last10 l)⟩ := by
  refine snoc_ind (P := fun l => nxs p l = if last10 l < 0 then ⟨p.Line, IntKind.i64.wrap (p.Col + l.length)⟩ else ⟨IntKind.i64.wrap (p.Line + (l.count 10 : Nat)), IntKind.i64.wrap ((l.length : Int) - last10 l)⟩) ?_ (fun l b ih => ?_) l
  · simp [nxs, last10, w64 hc.1 hc.2]
  · have e : nxs p (l ++ [b]) = nx (nxs p l) b := by simp [nxs]
    have hcnt := last10_count l
    rw [e, ih, last10_append, List.length_append, List.length_singleton, List.count_append]
    by_cases h : b = 10
    · subst h
      have h1 : ([10] : List Int).count 10 = 1 := by simp
      have h2 : ¬ ((l.length : Int) < 0) := by omega
      have h3 : IntKind.i64.wrap (((l.length + 1 : Nat) : Int) - (l.length : Int)) = 1 := by rw [show ((l.length + 1 : Nat) : Int) - (l.length : Int) = 1 by omega]; decide
      rw [h1]
      simp only [if_true, if_neg h2, h3]
      by_cases hl : last10 l < 0
      · have h4 := hcnt.1 hl
        simp only [if_pos hl, nx, if_true, h4]
        rfl
      · simp only [if_neg hl, nx, if_true]
        rw [ww, show p.Line + ((List.count 10 l : Nat) : Int) + 1 = p.Line + ((List.count 10 l + 1 : Nat) : Int) by omega]
    · have h1 : ([b] : List Int).count 10 = 0 := by simp [List.count_singleton, h]
      simp only [h1, Nat.add_zero, if_neg h]
      by_cases hl : last10 l < 0
      · simp only [if_pos hl, nx, if_neg h]
        rw [ww, show p.Col + (l.length : Int) + 1 = p.Col + ((l.length + 1 : Nat) : Int) by omega]
      · simp only [if_neg hl, nx, if_neg h]
        rw [ww, show (l.length : Int) - last10 l + 1 = ((l.length + 1 : Nat) : Int) - last10 l by omega]
theorem Next_spec (K : Nat) (xs : List Int) (hb : isB xs) (hl : xs.length < 4611686018427387904) (hK : xs.length < K) (p : api_Place) (hp : -9223372036854775808 ≤ p.Line ∧ p.Line < 9223372036854775808) (hc : -9223372036854775808 ≤ p.Col ∧ p.Col < 9223372036854775808) : place_Next K p xs = some (nxs p xs) := by
  have h1 := Last_spec K xs hl hK
  have hcnt : bytes_Count K xs [10] = some (cntB xs 10) := by rw [bytes_Count]; rfl
  rw [place_Next, h1, Option.bind_some, nxs_spec p hp hc, hcnt, cnt_spec xs hb]
  by_cases h : last10 xs < 0
  · have hd : (decide (last10 xs < 0)) = true := by simp [h]
    simp only [hd, cond_true, if_pos h]
  · have hd : (decide (last10 xs < 0)) = false := by simp [h]
    simp only [hd, cond_false, if_neg h, Option.bind_some]
end Go.Rv

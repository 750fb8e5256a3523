/- TableOrder, plainly: numbers as bytes can be read again, and are in order. -/
import Derived.Test.YtaipjabggdifoaaRpT6
import Derived.Laws.BitsLemmas
namespace Go.Rv
def u8s (l : List Int) : List UInt8 := l.map fun n => UInt8.ofNat n.toNat
theorem ofBytes_list (xs : List Int) : (ofBytes xs).toList = u8s xs := by
  rw [ByteArray.toList_eq, ofBytes]
  have : ∀ (l : List Int) (r : ByteArray), (l.foldl (fun r n => r.push (UInt8.ofNat n.toNat)) r).data.toList = r.data.toList ++ u8s l := by
    intro l
    induction l with
    | nil => intro r; simp [u8s]
    | cons x l ih =>
      intro r
      rw [List.foldl_cons, ih]
      simp [u8s, ByteArray.push]
  simpa using this xs ByteArray.empty
def isBytes (l : List Int) : Prop := ∀ x ∈ l, 0 ≤ x ∧ x < 256
theorem u8_inj {a b : Int} (ha : 0 ≤ a ∧ a < 256) (hb : 0 ≤ b ∧ b < 256) (h : UInt8.ofNat a.toNat = UInt8.ofNat b.toNat) : a = b := by
  have := congrArg UInt8.toNat h
  rw [UInt8.toNat_ofNat_of_lt' (by show a.toNat < 256; omega), UInt8.toNat_ofNat_of_lt' (by show b.toNat < 256; omega)] at this
  omega
theorem u8s_inj : ∀ {l m : List Int}, isBytes l → isBytes m → u8s l = u8s m → l = m := by
  intro l
  induction l with
  | nil =>
    intro m _ _ h
    cases m with
    | nil => rfl
    | cons y m => simp [u8s] at h
  | cons x l ih =>
    intro m hl hm h
    cases m with
    | nil => simp [u8s] at h
    | cons y m =>
      simp only [u8s, List.map_cons, List.cons.injEq] at h
      rw [u8_inj (hl x List.mem_cons_self) (hm y List.mem_cons_self) h.1, ih (fun z hz => hl z (List.mem_cons_of_mem _ hz)) (fun z hz => hm z (List.mem_cons_of_mem _ hz)) h.2]
theorem ofBytes_beq {l m : List Int} (hl : isBytes l) (hm : isBytes m) : ((ofBytes l).toList == (ofBytes m).toList) = (l == m) := by
  rw [ofBytes_list, ofBytes_list, Bool.eq_iff_iff, beq_iff_eq, beq_iff_eq]
  exact ⟨u8s_inj hl hm, fun h => by rw [h]⟩
theorem numF_bytes : ∀ (k n : Nat), isBytes (numF k n) := by
  intro k
  induction k with
  | zero => intro n x hx; simp [numF] at hx
  | succ k ih =>
    intro n x hx
    simp only [numF] at hx
    split at hx
    · rw [List.mem_singleton] at hx; omega
    · rcases List.mem_cons.1 hx with rfl | hx
      · omega
      · exact ih _ x hx
def valF : List Int → Int
  | [] => 0
  | b :: l => b % 128 + 128 * valF l
theorem valF_nonneg : ∀ l : List Int, 0 ≤ valF l := by
  intro l
  induction l with
  | nil => simp [valF]
  | cons b l ih => simp only [valF]; omega
theorem valF_drop : ∀ (l : List Int) (i : Nat), valF (l.drop i) ≤ valF l := by
  intro l
  induction l with
  | nil => intro i; simp [valF]
  | cons b l ih =>
    intro i
    cases i with
    | zero => simp
    | succ i =>
      have h1 := ih i
      have h2 := valF_nonneg l
      simp only [List.drop_succ_cons, valF]
      omega
theorem numF_val : ∀ (k n : Nat), n < 128 ^ k → valF (numF k n) = n := by
  intro k
  induction k with
  | zero => intro n h; simp at h; subst h; rfl
  | succ k ih =>
    intro n h
    simp only [numF]
    split
    · simp only [valF]; omega
    · simp only [valF]
      rw [ih (n / 128) (by rw [Nat.pow_succ] at h; omega)]
      omega
theorem numF_inj {k n m : Nat} (hn : n < 128 ^ k) (hm : m < 128 ^ k) (h : numF k n = numF k m) : n = m := by
  have h1 := numF_val k n hn
  have h2 := numF_val k m hm
  rw [h] at h1
  omega
theorem numF_mono : ∀ (k n m : Nat), n ≤ m → (numF k n).length ≤ (numF k m).length := by
  intro k
  induction k with
  | zero => intro n m _; simp [numF]
  | succ k ih =>
    intro n m h
    simp only [numF]
    by_cases h1 : n < 128
    · rw [if_pos h1]
      split <;> simp
    · rw [if_neg h1, if_neg (by omega)]
      have := ih (n / 128) (m / 128) (by omega)
      simp only [List.length_cons]
      omega
theorem numF_last : ∀ (d n : Nat), n < 128 ^ (d + 1) → ∃ (l : List Int) (c : Int), numF (d + 1) n = l ++ [c] ∧ 0 ≤ c ∧ c < 128 := by
  intro d
  induction d with
  | zero =>
    intro n h
    have h' : n < 128 := by simpa using h
    exact ⟨[], n, by simp only [numF, if_pos h', List.nil_append], by omega, by omega⟩
  | succ d ih =>
    intro n h
    by_cases h' : n < 128
    · exact ⟨[], n, by rw [numF, if_pos h', List.nil_append], by omega, by omega⟩
    · obtain ⟨l, c, h1, h2, h3⟩ := ih (n / 128) (by rw [Nat.pow_succ] at h; omega)
      exact ⟨_ :: l, c, by rw [numF, if_neg h', h1, List.cons_append], h2, h3⟩
theorem order_step {v b : Int} (hv : 0 ≤ v) (hv' : v < 33554432) (hb : 0 ≤ b ∧ b < 256) : bits .or .i64 (IntKind.i64.wrap (v * 2 ^ min (Int.toNat (7 : Int)) IntKind.i64.bits)) (IntKind.i64.wrap (bits .and .u8 b (127 : Int))) = b % 128 + 128 * v := by
  have e1 : (2 : Int) ^ min (Int.toNat (7 : Int)) IntKind.i64.bits = 128 := by decide
  have e2 : bits .and .u8 b 127 = b % 128 := bits_mask .u8 8 (by decide) wraps_u8 7 (by decide) b hb.1 hb.2
  rw [e1, e2, w64 (by omega) (by omega), w64 (by omega) (by omega), bits_join .i64 63 (by decide) (fun n h0 h1 => w64 (by omega) (by omega)) 7 _ _ (by omega) (by omega) (by omega) (by omega) (by omega) (by omega)]
  omega
theorem order_l0 (K : Nat) (a b : Int) (s : Bool) (y z : List Int) (hy : isBytes y) (hv : valF y < 4294967296) (hl : y.length ≤ 100) : ∀ (m k : Nat), m ≤ y.length →
    raddlelaw14_TableOrder_l0 K (k + m) a b s (valF (y.drop m)) ((m : Int) - 1) y z = raddlelaw14_TableOrder_l0 K k a b s (valF y) (-1) y z := by
  intro m
  induction m with
  | zero => intro k _; rfl
  | succ m ih =>
    intro k hm
    have hlt : m < y.length := by omega
    have e1 : decide ((((m + 1 : Nat) : Int) - 1) ≥ 0) = true := decide_eq_true (by omega)
    have e2 : (((m + 1 : Nat) : Int) - 1) = (m : Int) := by omega
    have e3 : IntKind.i64.wrap ((m : Int) - 1) = (m : Int) - 1 := w64 (by omega) (by omega)
    have hd : y.drop m = y[m] :: y.drop (m + 1) := List.drop_eq_getElem_cons hlt
    have h1 := valF_drop y m
    have h2 := valF_nonneg (y.drop (m + 1))
    rw [hd, valF] at h1
    have h3 := hy _ (List.getElem_mem hlt)
    rw [← ih k (by omega), show k + (m + 1) = (k + m) + 1 by omega, raddlelaw14_TableOrder_l0]
    dsimp only
    rw [e1, cond_true, e2, geti_nat hlt, Option.bind_some, e3, order_step h2 (by omega) h3, hd, valF]
theorem zero_first {n : Int} (h0 : 0 ≤ n) (h1 : n < 4294967296) : (Op.bytesLess (ofBytes [0]).toList (ofBytes (numB n)).toList || (ofBytes [0]).toList == (ofBytes (numB n)).toList) = true := by
  rw [ofBytes_list, ofBytes_list]
  have hh : ∃ (c : Int) (l : List Int), numB n = c :: l ∧ 0 ≤ c ∧ c < 256 ∧ (c = 0 → l = []) := by
    simp only [numB, numF]
    split
    · exact ⟨_, _, rfl, by omega, by omega, fun _ => rfl⟩
    · exact ⟨_, _, rfl, by omega, by omega, fun h => by omega⟩
  obtain ⟨c, l, h, hc0, hc1, hc2⟩ := hh
  rw [h]
  by_cases hc : c = 0
  · rw [hc2 hc, hc]
    decide
  · have : (0 : UInt8) < UInt8.ofNat c.toNat := by
      rw [UInt8.lt_iff_toNat_lt, UInt8.toNat_ofNat_of_lt' (by show c.toNat < 256; omega)]
      show 0 < c.toNat
      omega
    have h0 : UInt8.ofNat (Int.toNat 0) = 0 := rfl
    simp [u8s, Op.bytesLess, h0, this]
theorem Order_plain (a b : Int) (ha : 0 ≤ a ∧ a < 4294967296) (hb : 0 ≤ b ∧ b < 4294967296) : ∃ K, raddlelaw14_TableOrder K a b = some true := by
  refine ⟨300, ?_⟩
  have hlo : ∃ lo : Int, (if b < a then b else a) = lo ∧ 0 ≤ lo ∧ lo < 4294967296 ∧ lo ≤ a ∧ lo ≤ b ∧ (lo = a ∨ lo = b) := by
    split
    · exact ⟨b, rfl, by omega, by omega, by omega, by omega, .inr rfl⟩
    · exact ⟨a, rfl, by omega, by omega, by omega, by omega, .inl rfl⟩
  have hhi : ∃ hi : Int, (if b > a then b else a) = hi ∧ 0 ≤ hi ∧ hi < 4294967296 ∧ a ≤ hi ∧ b ≤ hi ∧ (hi = a ∨ hi = b) := by
    split
    · exact ⟨b, rfl, by omega, by omega, by omega, by omega, .inr rfl⟩
    · exact ⟨a, rfl, by omega, by omega, by omega, by omega, .inl rfl⟩
  obtain ⟨lo, elo, l0, l1, l2, l3, l4⟩ := hlo
  obtain ⟨hi, ehi, g0, g1, g2, g3, g4⟩ := hhi
  have hnum : ∀ v : Int, v < 4294967296 → table_Number 300 [] v = some (numB v) := fun v hv => by
    have := numB_len v
    rw [autoNumber 300 (by omega) [] v (by omega) (by simp only [List.length_nil, LIM]; omega), List.nil_append]
  have p9 : (128 : Nat) ^ 9 = 9223372036854775808 := by decide
  have hval : valF (numB lo) = lo := by rw [numB, numF_val 9 _ (by omega)]; omega
  obtain ⟨ini, c, hlast, c0, c1⟩ := numF_last 8 lo.toNat (by omega)
  have hlast' : numB lo = ini ++ [c] := hlast
  have hlen := numB_len lo
  have hlen1 : 1 ≤ (numB lo).length := by rw [hlast']; simp
  rw [raddlelaw14_TableOrder, shown_at (Nat.le_refl _), Option.bind_some, elo, ehi, w64 (by omega) (by omega), w64 (by omega) (by omega), hnum lo l1, Option.bind_some, hnum hi g1, Option.bind_some, w64 (by omega) (by omega)]
  have hk : (300 : Nat) = (299 - (numB lo).length + 1) + (numB lo).length := by omega
  have h0 : valF ((numB lo).drop (numB lo).length) = 0 := by rw [List.drop_length]; rfl
  have hstep := order_l0 300 a b true (numB lo) (numB hi) (numF_bytes _ _) (by rw [hval]; omega) (by omega) (numB lo).length (299 - (numB lo).length + 1) (Nat.le_refl _)
  rw [← hk, h0] at hstep
  rw [hstep, raddlelaw14_TableOrder_l0]
  dsimp only
  have d1 : decide ((-1 : Int) ≥ 0) = false := by decide
  have d2 : decide (((numB lo).length : Int) ≤ ((numB hi).length : Int)) = true := by
    have := numF_mono 9 lo.toNat hi.toNat (by omega)
    simp only [numB]
    exact decide_eq_true (by omega)
  have d3 : (((ofBytes (numB lo)).toList == (ofBytes (numB hi)).toList) == (a == b)) = true := by
    rw [ofBytes_beq (l := numB lo) (m := numB hi) (numF_bytes _ _) (numF_bytes _ _)]
    by_cases hab : a = b
    · have e : lo = hi := by omega
      rw [e, hab]
      simp
    · have e : (numB lo == numB hi) = false := by
        rw [beq_eq_false_iff_ne]
        intro h
        have := numF_inj (k := 9) (n := lo.toNat) (m := hi.toNat) (by omega) (by omega) h
        omega
      rw [e, beq_eq_false_iff_ne.2 hab]
      rfl
  have d4 : (valF (numB lo) == IntKind.i64.wrap lo) = true := by rw [hval, w64 (by omega) (by omega)]; simp
  have d5 : decide (((numB lo).length : Int) ≥ 1) = true := decide_eq_true (by omega)
  have d6 : geti (numB lo) (IntKind.i64.wrap (((numB lo).length : Int) - 1)) = some c := by
    rw [w64 (by omega) (by omega), show ((numB lo).length : Int) - 1 = ((ini.length : Nat) : Int) by rw [hlast', List.length_append, List.length_singleton]; omega, hlast', geti_nat (by simp)]
    simp
  have d7 : decide (c < 128) = true := decide_eq_true c1
  have d8 : table_Number 300 [] (IntKind.i64.wrap (0 - IntKind.i64.wrap a)) = some [0] := by
    rw [w64 (n := a) (by omega) (by omega), w64 (by omega) (by omega), hnum _ (by omega), numB, show (0 - a).toNat = 0 by omega]
    rfl
  rw [elo, d1, cond_false, cond_true, d2, cond_true, d3, cond_true, d4, cond_true, d5, cond_true, d6, Option.bind_some, d7, cond_true, d8, Option.bind_some, w64 (by omega) (by omega), hnum a ha.2, Option.bind_some, zero_first ha.1 ha.2]
end Go.Rv

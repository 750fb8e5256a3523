/- The parser, plainly, 2: numbers, bounds, names, classes. -/
import Derived.Test.YtbepeoipaiahgaaRpSI
namespace Go.Rv
theorem suf_len {l m : List Nat} (h : l <:+ m) : l.length ≤ m.length := h.length_le
section
variable (K : Nat) {s : ByteArray} {i : Nat} {w : Int} {ns : List api_Node} {d : Int}
theorem dl_gt {a b : Nat} : decide ((a : Int) > (b : Int)) = decide (b < a) := by
  rw [Bool.eq_iff_iff, decide_eq_true_eq, decide_eq_true_eq]; omega
theorem number_l0 (x0 : syntax_parser) (i0 : Nat) (hx0 : x0.reader.at_ = (i0 : Int)) : ∀ (l : List Nat) (k i : Nat) (n : Int), At s i l → 0 ≤ n → n ≤ 4097 → i0 ≤ i → l.length < k →
    syntax_reader_number_l0 K k x0 n s (i : Int) w 0 d ns = some (if 6 < i + (l.takeWhile isDig).length - i0 ∨ (1 < i + (l.takeWhile isDig).length - i0 ∧ bt s (i0 : Int) = 48) then -1 else numF n (l.takeWhile isDig), pst s ((i + (l.takeWhile isDig).length : Nat) : Int) w 0 ns d) := by
  intro l
  induction l with
  | nil =>
    intro k i n h h0 h1 hi hk
    obtain ⟨k, rfl⟩ : ∃ k', k = k' + 1 := ⟨k - 1, by omega⟩
    have hn := h.nil
    have hsm := h.small
    rw [syntax_reader_number_l0]
    dsimp only
    rw [dig0 K h]
    simp only [digNext, Option.bind_some, cond_false, List.takeWhile_nil, List.length_nil, Nat.add_zero, hx0, numF]
    have e1 : IntKind.i64.wrap ((i : Int) - (i0 : Int)) = ((i - i0 : Nat) : Int) := by rw [w64 (by omega) (by omega)]; omega
    rw [e1]
    have e6 : decide (((i - i0 : Nat) : Int) > 6) = decide (6 < i - i0) := dl_gt (b := 6)
    have e7 : decide (((i - i0 : Nat) : Int) > 1) = decide (1 < i - i0) := dl_gt (b := 1)
    rw [e6, e7]
    by_cases h6 : 6 < i - i0
    · simp only [h6, decide_true, cond_true, true_or, if_true, syntax_reader_number_j1]
    · simp only [h6, decide_false, cond_false, false_or]
      by_cases h7 : 1 < i - i0
      · simp only [h7, decide_true, cond_true, true_and]
        rw [ck_pos ⟨by omega, by omega⟩]
        by_cases h8 : bt s (i0 : Int) = 48
        · have : (bt s (i0 : Int) == 48) = true := by simpa using h8
          simp only [this, cond_true, syntax_reader_number_j1]; rw [if_pos h8]
        · have : (bt s (i0 : Int) == 48) = false := by simpa using h8
          simp only [this, cond_false, h8, if_false]
      · simp only [h7, decide_false, cond_false, false_and, if_false]
  | cons c l ih =>
    intro k i n h h0 h1 hi hk
    obtain ⟨k, rfl⟩ : ∃ k', k = k' + 1 := ⟨k - 1, by omega⟩
    have hlt := h.lt
    have hsm := h.small
    simp only [List.length_cons] at hk
    rw [syntax_reader_number_l0]
    dsimp only
    rw [dig0 K h]
    simp only [digNext, Option.bind_some]
    cases hd : isDig c with
    | false =>
      simp only [cond_false, List.takeWhile_cons, hd, Bool.false_eq_true, if_false, List.length_nil, Nat.add_zero, hx0, numF]
      have e1 : IntKind.i64.wrap ((i : Int) - (i0 : Int)) = ((i - i0 : Nat) : Int) := by rw [w64 (by omega) (by omega)]; omega
      rw [e1]
      have e6 : decide (((i - i0 : Nat) : Int) > 6) = decide (6 < i - i0) := dl_gt (b := 6)
      have e7 : decide (((i - i0 : Nat) : Int) > 1) = decide (1 < i - i0) := dl_gt (b := 1)
      rw [e6, e7]
      by_cases h6 : 6 < i - i0
      · simp only [h6, decide_true, cond_true, true_or, if_true, syntax_reader_number_j1]; try rfl
      · simp only [h6, decide_false, cond_false, false_or]
        by_cases h7 : 1 < i - i0
        · simp only [h7, decide_true, cond_true, true_and]
          rw [ck_pos ⟨by omega, by omega⟩]
          by_cases h8 : bt s (i0 : Int) = 48
          · have : (bt s (i0 : Int) == 48) = true := by simpa using h8
            simp only [this, cond_true, syntax_reader_number_j1]; rw [if_pos h8]
          · have : (bt s (i0 : Int) == 48) = false := by simpa using h8
            simp only [this, cond_false, h8, if_false]; try rfl
        · simp only [h7, decide_false, cond_false, false_and, if_false]; try rfl
    | true =>
      have hdd : 48 ≤ c ∧ c ≤ 57 := by simpa [isDig] using hd
      simp only [cond_true]
      rw [next_cons K h, Option.bind_some]
      have e1 : IntKind.u8.wrap ((c : Int) - 48) = ((c - 48 : Nat) : Int) := by
        rw [show ((c : Int) - 48) = ((c - 48 : Nat) : Int) by omega, w8 (by omega)]
      simp only [e1]
      rw [w64 (n := ((c - 48 : Nat) : Int)) (by omega) (by omega), w64 (n := 10 * n) (by omega) (by omega), w64 (n := 10 * n + ((c - 48 : Nat) : Int)) (by omega) (by omega), show (((c - 48 : Nat) : Int)) = (c : Int) - 48 by omega]
      rw [ih k (i + 1) _ h.tail (by split <;> omega) (by split <;> omega) (by omega) (by omega)]
      simp only [List.takeWhile_cons, hd, if_true, List.length_cons, numF]
      rw [show i + ((l.takeWhile isDig).length + 1) = i + 1 + (l.takeWhile isDig).length by omega]
theorem take_len {α : Type} (p : α → Bool) (l : List α) : (l.takeWhile p).length + (l.dropWhile p).length = l.length := by
  rw [← List.length_append, List.takeWhile_append_dropWhile]
theorem number_ok {l : List Nat} (h : At s i l) (hK : 1200 ≤ K) : syntax_reader_number K (pst s i w 0 ns d) = some (numV (l.takeWhile isDig), pst s ((s.size - (l.dropWhile isDig).length : Nat) : Int) w 0 ns d) := by
  have hl := h.len
  have hsm := h.small
  have ht := take_len isDig l
  rw [syntax_reader_number]
  simp only
  rw [number_l0 K (pst s i w 0 ns d) i rfl l K i 0 h (by omega) (by omega) (by omega) (by omega), numV]
  have e1 : i + (l.takeWhile isDig).length - i = (l.takeWhile isDig).length := by omega
  have e2 : i + (l.takeWhile isDig).length = s.size - (l.dropWhile isDig).length := by omega
  rw [e1, e2]
  have e3 : (1 < (l.takeWhile isDig).length ∧ bt s (i : Int) = 48) ↔ (1 < (l.takeWhile isDig).length ∧ (l.takeWhile isDig).head? = some 48) := by
    refine and_congr_right fun h1 => ?_
    cases l with
    | nil => simp at h1
    | cons c l =>
      cases hc : isDig c with
      | false => simp [List.takeWhile_cons, hc] at h1
      | true =>
        simp only [List.takeWhile_cons, hc, if_true, List.head?_cons, Option.some.injEq, h.byte]
        omega
  simp only [e3]
/-- What a reader of bounds answers. -/
def RdB (s : ByteArray) (ns : List api_Node) (d w : Int) (l : List Nat) (i : Nat) (f : Option (Int × Int × syntax_parser)) : Re (Int × Int) → Prop
  | .ok x r => f = some (x.1, x.2, pst s ((s.size - r.length : Nat) : Int) w 0 ns d) ∧ r <:+ l
  | .err k x => (∃ (lo hi : Int) (i' : Nat), f = some (lo, hi, pst s (i' : Int) ((s.size - x.length : Nat) : Int) k ns d) ∧ i ≤ i' ∧ i' ≤ s.size) ∧ k ≠ 0 ∧ x.length ≤ s.size
theorem fin_ok {wl l : List Nat} (h : At s i l) (x0 : syntax_parser) (hx0 : x0.reader.at_ = ((s.size - wl.length : Nat) : Int)) (hw : wl.length ≤ s.size) (lo hi : Int) (bad : Bool) :
    RdB s ns d w l i (syntax_reader_bounds_j0 K lo hi x0 bad s i w 0 d ns) (pFin wl lo hi bad l) := by
  have hl := h.len
  cases l with
  | nil =>
    rw [syntax_reader_bounds_j0, next_nil K h]
    simp only [Option.bind_some, show ((40 : Int) != 0) = true from rfl, cond_true, syntax_reader_bounds_j1, pFin, RdB, List.length_nil, Nat.sub_zero]
    exact ⟨⟨lo, hi, i, rfl, Nat.le_refl _, h.1⟩, by decide, by omega⟩
  | cons c r =>
    have ht := h.tail
    have htl := ht.len
    simp only [List.length_cons] at hl
    rw [syntax_reader_bounds_j0, next_cons K h]
    have b125 : ((c : Int) != 125) = !decide (c = 125) := by
      rw [bne, Bool.not_inj_iff, Bool.eq_iff_iff, beq_iff_eq, decide_eq_true_eq]; omega
    simp only [Option.bind_some, bne_self_eq_false, cond_false, b125, pFin]
    by_cases h1 : c = 125
    · have hbad : ∀ (a b : Nat), RdB s ns d w (c :: r) i (syntax_reader_bounds_j2 K lo hi x0 s ((i + 1 : Nat) : Int) w 0 d ns) (.err 45 wl) := fun _ _ => by
        simp only [syntax_reader_bounds_j2, fail_ok, Option.bind_some, syntax_reader_bounds_j1, RdB, hx0]
        exact ⟨⟨lo, hi, i + 1, rfl, by omega, ht.1⟩, by decide, hw⟩
      simp only [h1, decide_true, Bool.not_true, cond_false, ne_eq, not_true_eq_false, if_false]
      subst h1
      cases bad with
      | true => simp only [cond_true, true_or, if_true]; exact hbad 0 0
      | false =>
        simp only [cond_false, Bool.false_eq_true, false_or]
        by_cases h2 : 4096 < lo
        · have : decide (lo > 4096) = true := decide_eq_true h2
          simp only [this, decide_true, decide_false, cond_true, h2, true_or, if_true]; exact hbad 0 0
        · have : decide (lo > 4096) = false := decide_eq_false h2
          simp only [this, decide_true, decide_false, cond_false, h2, false_or]
          by_cases h3 : 4096 < hi
          · have : decide (hi > 4096) = true := decide_eq_true h3
            simp only [this, decide_true, decide_false, cond_true, h3, true_or, if_true]; exact hbad 0 0
          · have : decide (hi > 4096) = false := decide_eq_false h3
            simp only [this, decide_true, decide_false, cond_false, h3, false_or]
            by_cases h4 : hi = 0
            · have : (hi == 0) = true := by simpa using h4
              simp only [this, decide_true, decide_false, cond_true, h4, true_or, if_true]; subst h4; exact hbad 0 0
            · have : (hi == 0) = false := by simpa using h4
              simp only [this, decide_true, decide_false, cond_false, h4, false_or]
              by_cases h5 : 0 < hi
              · have : decide (hi > 0) = true := decide_eq_true h5
                simp only [this, decide_true, decide_false, cond_true, h5, true_and]
                by_cases h6 : hi < lo
                · simp only [h6, decide_true, cond_true, if_true]; exact hbad 0 0
                · simp only [h6, decide_false, cond_false, if_false, syntax_reader_bounds_j3, syntax_reader_bounds_j1, RdB]
                  exact ⟨by rw [show s.size - r.length = i + 1 by omega], ⟨[125], rfl⟩⟩
              · have : decide (hi > 0) = false := decide_eq_false h5
                simp only [this, decide_true, decide_false, cond_false, h5, false_and, if_false, syntax_reader_bounds_j3, syntax_reader_bounds_j1, RdB]
                exact ⟨by rw [show s.size - r.length = i + 1 by omega], ⟨[125], rfl⟩⟩
    · simp only [h1, decide_false, Bool.not_false, cond_true, fail_ok, Option.bind_some, syntax_reader_bounds_j1, ne_eq, not_false_eq_true, if_true, RdB, List.length_cons]
      exact ⟨⟨lo, hi, i + 1, by rw [show s.size - (r.length + 1) = i by omega]; rfl, by omega, ht.1⟩, by decide, by omega⟩
end
end Go.Rv

/- Places, plainly, 8: the law PlaceLines. -/
import Derived.Test.YtnedpcjnhkmikaaRpP7
namespace Go.Rv

theorem shown_any (K : Nat) (hK : 1000 ≤ K) : raddlelaw19_shown K = some true := by
  have hb : isB [(97 : Int), 10, 98] := by intro b hb; simp at hb; omega
  have o1 : place_Of K [(97 : Int), 10, 98] (2 : Int) = some (pl [97, 10, 98] 2, true) := Of_spec K _ hb (by simp) hK 2 (by simp)
  have o2 : place_Of K [(97 : Int), 10, 98] (3 : Int) = some (pl [97, 10, 98] 3, true) := Of_spec K _ hb (by simp) hK 3 (by simp)
  rw [raddlelaw19_shown, o1, o2]
  decide
/-- The bytes of a line from the i-th on that are kept: of the first 20, those that are not 10. -/
def keptL (b : List Int) (i : Nat) : List Int := ((b.drop i).take (20 - i)).filter (fun c => c != 10)
theorem keptL_no (b : List Int) (i : Nat) : ∀ c ∈ keptL b i, c ≠ 10 := by
  intro c hc; simp [keptL] at hc; exact hc.2
theorem keptL_B {b : List Int} (h : isB b) (i : Nat) : isB (keptL b i) := by
  intro c hc
  simp only [keptL, List.mem_filter] at hc
  exact h c (List.mem_of_mem_drop (List.mem_of_mem_take hc.1))
theorem keptL_len (b : List Int) (i : Nat) : (keptL b i).length ≤ 20 - i := by
  have h1 : (keptL b i).length ≤ ((b.drop i).take (20 - i)).length := List.length_filter_le _ _
  have h2 : ((b.drop i).take (20 - i)).length ≤ 20 - i := List.length_take_le _ _
  omega
theorem Lines_l2 (K : Nat) (go : Bool → Int → (List (List Int)) → (List (List Int)) → Int → Int → (List Int) → Option Bool) (s : Bool) (ls ms : List (List Int)) (n pos : Int) (b : List Int) (hb : b.length ≤ maxLen) :
    ∀ (m k i a : Nat) (w : List Int), b.length - i = m → i ≤ b.length → m < k → a + (20 - i) ≤ 20 → w.length ≤ 300 + (i - 20) * 0 - (20 - i) →
    raddlelaw19_PlaceLines_l2 K go k s (a : Int) ls ms n pos b (b.length : Int) (i : Int) w = go s ((a + (keptL b i).length : Nat) : Int) ls ms n (IntKind.i64.wrap (pos + 1)) (w ++ keptL b i) := by
  have hb' : (b.length : Int) ≤ 9223372036854775807 := by simp only [maxLen] at hb; omega
  intro m
  induction m with
  | zero =>
    intro k i a w hm hi hk ha hw
    obtain ⟨k, rfl⟩ : ∃ k', k = k' + 1 := ⟨k - 1, by omega⟩
    have he : i = b.length := by omega
    have hd : (decide ((i : Int) < (b.length : Int))) = false := by simp; omega
    have hk0 : keptL b i = [] := by simp [keptL, he]
    simp only [raddlelaw19_PlaceLines_l2, hd, cond_false, hk0, List.append_nil, List.length_nil, Nat.add_zero]
  | succ m ih =>
    intro k i a w hm hi hk ha hw
    obtain ⟨k, rfl⟩ : ∃ k', k = k' + 1 := ⟨k - 1, by omega⟩
    have hil : i < b.length := by omega
    have hd : (decide ((i : Int) < (b.length : Int))) = true := by simp; omega
    have hwi : IntKind.i64.wrap ((i : Int) + 1) = ((i + 1 : Nat) : Int) := by rw [w64 (by omega) (by omega)]; omega
    simp only [raddlelaw19_PlaceLines_l2, hd, cond_true, geti_nat hil, Option.bind_some, hwi]
    have hdrop : b.drop i = b[i] :: b.drop (i + 1) := List.drop_eq_getElem_cons hil
    by_cases h20 : i < 20
    · have hd2 : (decide ((i : Int) < 20)) = true := by simp; omega
      have hks : keptL b i = if b[i] = 10 then keptL b (i + 1) else b[i] :: keptL b (i + 1) := by
        simp only [keptL, hdrop]
        rw [show 20 - i = (20 - (i + 1)) + 1 by omega, List.take_succ_cons, List.filter_cons]
        by_cases h10 : b[i] = 10
        · simp [h10]
        · simp [h10]
      simp only [hd2, cond_true]
      by_cases h10 : b[i] = 10
      · have hn : (b[i] != 10) = false := by simp [h10]
        simp only [hn, cond_false]
        rw [ih k (i + 1) a w (by omega) (by omega) (by omega) (by omega) (by omega), hks, if_pos h10]
      · have hn : (b[i] != 10) = true := by simp [h10]
        have hr : roomy 1 (w.length + [b[i]].length) = true := roomy_iff.2 (by simp only [List.length_cons, List.length_nil, maxLen]; omega)
        have hwa : IntKind.i64.wrap ((a : Int) + 1) = ((a + 1 : Nat) : Int) := by rw [w64 (by omega) (by omega)]; omega
        simp only [hn, cond_true, ck_pos hr, hwa]
        rw [ih k (i + 1) (a + 1) (w ++ [b[i]]) (by omega) (by omega) (by omega) (by omega) (by simp only [List.length_append, List.length_cons, List.length_nil]; omega), hks, if_neg h10]
        simp only [List.length_cons, List.append_assoc, List.singleton_append]
        rw [show a + 1 + (keptL b (i + 1)).length = a + ((keptL b (i + 1)).length + 1) by omega]
    · have hd2 : (decide ((i : Int) < 20)) = false := by simp; omega
      have hk0 : keptL b (i + 1) = keptL b i := by
        simp only [keptL, show 20 - i = 0 by omega, show 20 - (i + 1) = 0 by omega, List.take_zero]
      simp only [hd2, cond_false]
      rw [ih k (i + 1) a w (by omega) (by omega) (by omega) (by omega) (by omega), hk0]
theorem last10_tail (u t : List Int) (h : ∀ c ∈ t, c ≠ 10) : last10 (u ++ t) = last10 u := by
  induction t using snoc_ind with
  | h0 => simp
  | h1 l b ih =>
    rw [← List.append_assoc, last10_append, if_neg (h b (by simp)), ih (fun c hc => h c (by simp [hc]))]
theorem count_no (t : List Int) (h : ∀ c ∈ t, c ≠ 10) : t.count 10 = 0 := List.count_eq_zero.2 (fun hc => h 10 hc rfl)
theorem Lines_end (K : Nat) (hK : 1000 ≤ K) (u t : List Int) (hu : isB u) (htb : isB t) (ht : ∀ c ∈ t, c ≠ 10) (hl : last10 u = (u.length : Int) - 1) (hlen : u.length + t.length ≤ 900) :
    place_Of K (u ++ t) ((u ++ t).length : Int) = some (⟨(u.count 10 : Nat) + 1, (t.length : Int) + 1⟩, true) ∧ place_At K (u ++ t) ⟨(u.count 10 : Nat) + 1, 1⟩ = some ((u.length : Int), true) := by
  have hw : isB (u ++ t) := isB_append hu htb
  have hwl : (u ++ t).length ≤ 900 := by simp only [List.length_append]; omega
  have hc : (u ++ t).count 10 = u.count 10 := by rw [List.count_append, count_no t ht, Nat.add_zero]
  have hcl : u.count 10 ≤ u.length := List.count_le_length
  constructor
  · rw [Of_spec K (u ++ t) hw (by omega) hK _ (Nat.le_refl _)]
    simp only [pl, List.take_length, hc, last10_tail u t ht, hl]
    simp only [List.length_append]
    rw [show (((u.length + t.length : Nat) : Int) - ((u.length : Int) - 1)) = (t.length : Int) + 1 by omega]
  · rw [At_spec K (u ++ t) hw hwl hK _ (by simp only; omega) (by simp only; omega)]
    rw [byteAt_some (u ++ t) _ u.length (by simp) ?_]
    simp only [pl, List.take_left, hl]
    rw [show ((u.length : Int) - ((u.length : Int) - 1)) = 1 by omega]
theorem Lines_l0 (K : Nat) (hK : 1000 ≤ K) (x : List (List Int)) (hx : x.length ≤ 10) (hb : ∀ b ∈ x, isB b ∧ b.length ≤ maxLen ∧ b.length < K) :
    ∀ (m k j : Nat) (u t : List Int), x.length - j = m → j ≤ x.length → m < k → isB u → isB t → (∀ c ∈ t, c ≠ 10) → last10 u = (u.length : Int) - 1 → u.length + t.length ≤ 21 * j → u.count 10 = j - 1 → (j = 0 → t = []) →
    raddlelaw19_PlaceLines_l0 K k true (t.length : Int) x x (x.length : Int) (j : Int) (u ++ t) = some true := by
  intro m
  induction m with
  | zero =>
    intro k j u t hm hj hk hu htb ht hl hlen hc h0
    obtain ⟨k, rfl⟩ : ∃ k', k = k' + 1 := ⟨k - 1, by omega⟩
    have he : j = x.length := by omega
    have hd : (decide ((j : Int) < (x.length : Int))) = false := by simp; omega
    obtain ⟨e1, e2⟩ := Lines_end K hK u t hu htb ht hl (by omega)
    have hmax : (if (1 : Int) > (x.length : Int) then (1 : Int) else (x.length : Int)) = (u.count 10 : Nat) + 1 := by
      rw [hc]; split <;> omega
    have hw1 : IntKind.i64.wrap ((t.length : Int) + 1) = (t.length : Int) + 1 := w64 (by omega) (by omega)
    have hw2 : IntKind.i64.wrap (((u ++ t).length : Int) - (t.length : Int)) = (u.length : Int) := by
      rw [List.length_append, w64 (by omega) (by omega)]; omega
    simp only [raddlelaw19_PlaceLines_l0, hd, cond_false, hmax, e1, e2, Option.bind_some, hw1, hw2, cond_true, beq_self_eq_true]
  | succ m ih =>
    intro k j u t hm hj hk hu htb ht hl hlen hc h0
    obtain ⟨k, rfl⟩ : ∃ k', k = k' + 1 := ⟨k - 1, by omega⟩
    have hjl : j < x.length := by omega
    have hd : (decide ((j : Int) < (x.length : Int))) = true := by simp; omega
    obtain ⟨b1, b2, b3⟩ := hb x[j] (List.getElem_mem hjl)
    have hwj : IntKind.i64.wrap ((j : Int) + 1) = ((j + 1 : Nat) : Int) := by rw [w64 (by omega) (by omega)]; omega
    have kl := keptL_len x[j] 0
    simp only [raddlelaw19_PlaceLines_l0, hd, cond_true, geti_nat hjl, Option.bind_some]
    have step : ∀ w : List Int, w.length ≤ 280 → raddlelaw19_PlaceLines_j1 K (raddlelaw19_PlaceLines_l0 K k) true x x[j] x (x.length : Int) (j : Int) w = raddlelaw19_PlaceLines_l0 K k true ((keptL x[j] 0).length : Int) x x (x.length : Int) ((j + 1 : Nat) : Int) (w ++ keptL x[j] 0) := by
      intro w hw
      rw [raddlelaw19_PlaceLines_j1]
      have := Lines_l2 K (raddlelaw19_PlaceLines_l0 K k) true x x (x.length : Int) (j : Int) x[j] b2 x[j].length K 0 0 w (by omega) (by omega) b3 (by omega) (by omega)
      rw [hwj, Nat.zero_add] at this
      exact this
    by_cases hj0 : j = 0
    · have hd2 : (decide ((j : Int) > 0)) = false := by simp; omega
      have ht0 := h0 hj0
      subst ht0
      simp only [hd2, cond_false]
      rw [List.append_nil, step u (by simp at hlen; omega)]
      exact ih k (j + 1) u (keptL x[j] 0) (by omega) (by omega) (by omega) hu (keptL_B b1 0) (keptL_no _ _) hl (by simp at hlen; omega) (by omega) (by omega)
    · have hd2 : (decide ((j : Int) > 0)) = true := by simp; omega
      have hr : roomy 1 ((u ++ t).length + [(10 : Int)].length) = true := roomy_iff.2 (by simp only [List.length_append, List.length_cons, List.length_nil, maxLen]; omega)
      simp only [hd2, cond_true, ck_pos hr]
      rw [step (u ++ t ++ [10]) (by simp only [List.length_append, List.length_cons, List.length_nil]; omega)]
      refine ih k (j + 1) (u ++ t ++ [10]) (keptL x[j] 0) (by omega) (by omega) (by omega) (isB_append (isB_append hu htb) (by intro c hc; simp at hc; omega)) (keptL_B b1 0) (keptL_no _ _) ?_ (by simp only [List.length_append, List.length_cons, List.length_nil]; omega) ?_ (by omega)
      · rw [last10_append, if_pos rfl]; simp only [List.length_append, List.length_cons, List.length_nil]; omega
      · rw [List.count_append, List.count_append, count_no t ht, hc]; simp; omega
theorem Lines_plain (m : List (List Int)) (hm : ∀ b ∈ m, isB b ∧ b.length ≤ maxLen) : ∃ K, raddlelaw19_PlaceLines K m = some true := by
  obtain ⟨M, hM⟩ : ∃ M : Nat, ∀ b ∈ m, b.length ≤ M := by
    clear hm
    induction m with
    | nil => exact ⟨0, by simp⟩
    | cons a l ih =>
      obtain ⟨M, h⟩ := ih
      refine ⟨M + a.length, fun b hb => ?_⟩
      rcases List.mem_cons.1 hb with hb | hb
      · subst hb; omega
      · have := h b hb; omega
  refine ⟨M + 1000, ?_⟩
  have h : ∀ n : Nat, 0 ≤ (if (10 : Int) < (n : Int) then (10 : Int) else (n : Int)) ∧ (Int.toNat (if (10 : Int) < (n : Int) then (10 : Int) else (n : Int))) = min 10 n := fun n => by split <;> omega
  obtain ⟨h1, h2⟩ := h m.length
  have ht : m.take (min 10 m.length) = m.take 10 := by
    rcases Nat.le_total 10 m.length with h | h
    · rw [Nat.min_eq_left h]
    · rw [Nat.min_eq_right h, List.take_length, List.take_of_length_le h]
  rw [raddlelaw19_PlaceLines, shown_any _ (by omega), Option.bind_some, ck_pos ⟨h1, Nat.zero_le _, by rw [h2]; omega⟩, h2, List.drop_zero, ht]
  exact Lines_l0 (M + 1000) (by omega) (m.take 10) (List.length_take_le _ _) (fun b hb => ⟨(hm b (List.mem_of_mem_take hb)).1, (hm b (List.mem_of_mem_take hb)).2, by have := hM b (List.mem_of_mem_take hb); omega⟩)
    (m.take 10).length (M + 1000) 0 [] [] (by omega) (by omega) (by have := List.length_take_le 10 m; omega) (by intro c hc; simp at hc) (by intro c hc; simp at hc) (by simp) (by simp [last10]) (by simp) (by simp) (fun _ => rfl)
end Go.Rv

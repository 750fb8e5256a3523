/- Sets of bytes, plainly: the set of some bytes has just these. -/
import Derived.Test.YtjgldamcldbbfaaDoorRpB1
import Derived.KernelRfl
namespace Go.Rv
theorem orW (p q : Nat → Bool) (i : Nat) : bits .or .u64 (wdi p i : Nat) (wdi q i : Nat) = (wdi (fun c => p c || q c) i : Nat) := by
  have h1 := wdi_lt p i
  have h2 := wdi_lt q i
  rw [bits_or_u64_nat _ _ h1 h2]
  refine congrArg (Nat.cast (R := Int)) (eq_wdi ?_ (fun j hj => ?_))
  · rw [← two64] at h1 h2 ⊢
    exact Nat.or_lt_two_pow h1 h2
  · rw [Nat.testBit_or, wdi_bit p _ j hj, wdi_bit q _ j hj]
theorem q01 : IntKind.i64.wrap (0 + 1) = 1 := by decide
theorem q12 : IntKind.i64.wrap (1 + 1) = 2 := by decide
theorem q23 : IntKind.i64.wrap (2 + 1) = 3 := by decide
theorem q34 : IntKind.i64.wrap (3 + 1) = 4 := by decide
theorem Or_l1_spec (K : Nat) (go : List Arr4 → Int → Int → Arr4 → Arr4 → Option Arr4) (k : Nat) (hk : 5 ≤ k) (xs : List Arr4) (n i : Int) (y : Arr4) (p q : Nat → Bool) :
    bset_Or_l1 K go k xs n i (st q) 0 y (st p) = go xs n (IntKind.i64.wrap (i + 1)) y (st (fun c => p c || q c)) := by
  obtain ⟨k, rfl⟩ : ∃ k', k = k' + 5 := ⟨k - 5, by omega⟩
  have e : ∀ a b c d : Int, (Arr4.mk a b c d).get 0 = a ∧ (Arr4.mk a b c d).get 1 = b ∧ (Arr4.mk a b c d).get 2 = c ∧ (Arr4.mk a b c d).get 3 = d := fun a b c d => ⟨rfl, rfl, rfl, rfl⟩
  have f : ∀ a b c d v : Int, (Arr4.mk a b c d).set 0 v = ⟨v, b, c, d⟩ ∧ (Arr4.mk a b c d).set 1 v = ⟨a, v, c, d⟩ ∧ (Arr4.mk a b c d).set 2 v = ⟨a, b, v, d⟩ ∧ (Arr4.mk a b c d).set 3 v = ⟨a, b, c, v⟩ := fun a b c d v => ⟨rfl, rfl, rfl, rfl⟩
  simp only [bset_Or_l1, st, ck, q01, q12, q23, q34, (e _ _ _ _).1, (e _ _ _ _).2.1, (e _ _ _ _).2.2.1, (e _ _ _ _).2.2.2, (f _ _ _ _ _).1, (f _ _ _ _ _).2.1, (f _ _ _ _ _).2.2.1, (f _ _ _ _ _).2.2.2, orW]
  rfl
theorem Or_l0_spec (K : Nat) (hK : 5 ≤ K) (qs : List (Nat → Bool)) (hl : qs.length < 4611686018427387904) (y : Arr4) : ∀ (m k i : Nat) (p : Nat → Bool), qs.length - i = m → i ≤ qs.length → m < k →
    bset_Or_l0 K k (qs.map st) (qs.length : Int) (i : Int) y (st p) = some (st (fun c => p c || (qs.drop i).any (fun q => q c))) := by
  intro m
  induction m with
  | zero =>
    intro k i p hm hi hk
    obtain ⟨k, rfl⟩ : ∃ k', k = k' + 1 := ⟨k - 1, by omega⟩
    have hi' : i = qs.length := by omega
    rw [bset_Or_l0, hi']
    simp
  | succ m ih =>
    intro k i p hm hi hk
    obtain ⟨k, rfl⟩ : ∃ k', k = k' + 1 := ⟨k - 1, by omega⟩
    have hlt : i < qs.length := by omega
    rw [bset_Or_l0]
    have hc : (decide ((i : Int) < (qs.length : Int))) = true := by simp; exact hlt
    have hg : geti (qs.map st) (i : Int) = some (st qs[i]) := by rw [geti_nat (by simpa using hlt)]; simp
    simp only [hc, cond_true, hg, Option.bind_some]
    rw [Or_l1_spec K _ K hK, w64 (by omega) (by omega), show ((i : Int) + 1) = ((i + 1 : Nat) : Int) by omega, ih k (i + 1) _ (by omega) (by omega) (by omega)]
    refine congrArg some (st_congr (fun c _ => ?_))
    rw [List.drop_eq_getElem_cons hlt, List.any_cons, Bool.or_assoc]
theorem Or_spec (K : Nat) (hK : 5 ≤ K) (qs : List (Nat → Bool)) (hl : qs.length < 4611686018427387904) (hn : qs.length < K) : bset_Or K (qs.map st) = some (st (fun c => qs.any (fun q => q c))) := by
  rw [bset_Or, st_none, List.length_map]
  have := Or_l0_spec K hK qs hl (st fun _ => false) qs.length K 0 (fun _ => false) (by omega) (by omega) hn
  rw [Int.ofNat_zero] at this
  rw [this]
  simp
theorem Or2 (K : Nat) (hK : 5 ≤ K) (p q : Nat → Bool) : bset_Or K [st p, st q] = some (st (fun c => p c || q c)) := by
  have := Or_spec K hK [p, q] (by simp) (by simp; omega)
  simpa using this

theorem fdivN (x n : Nat) : Int.fdiv (x : Int) (2 ^ n) = ((x / 2 ^ n : Nat) : Int) := by
  rw [Int.fdiv_eq_ediv_of_nonneg _ (by exact_mod_cast Nat.zero_le (2 ^ n))]
  exact_mod_cast rfl
theorem shr64 (x b : Nat) (h : b < 64) : Int.fdiv (x : Int) (2 ^ min (Int.toNat (b : Int)) IntKind.u64.bits) = ((x / 2 ^ b : Nat) : Int) := by
  have hb : min (Int.toNat (b : Int)) IntKind.u64.bits = b := by
    simp only [IntKind.bits, Int.toNat_natCast]; omega
  rw [hb, fdivN]
theorem bit_mod (x b : Nat) : x / 2 ^ b % 2 = (x.testBit b).toNat := by
  rw [Nat.testBit_eq_decide_div_mod_eq]
  have : x / 2 ^ b % 2 = 0 ∨ x / 2 ^ b % 2 = 1 := by omega
  rcases this with h | h <;> rw [h] <;> simp
theorem Has_spec (K : Nat) (p : Nat → Bool) (b : Nat) (hb : b < 256) : bset_Has K (st p) (b : Int) = some (p b) := by
  have hlt : wdi p (b / 64) / 2 ^ (b % 64) < 18446744073709551616 := Nat.lt_of_le_of_lt (Nat.div_le_self _ _) (wdi_lt _ _)
  rw [bset_Has, div64 _ hb, mod64, ck_pos ⟨by omega, by omega⟩, ck_pos (by omega), st_get p (by omega), shr64 _ _ (Nat.mod_lt _ (by decide)), show (1 : Int) = ((1 : Nat) : Int) from rfl, bits_and_u64_nat _ _ hlt (by decide)]
  rw [Nat.and_one_is_mod, bit_mod, wdi_bit p _ _ (Nat.mod_lt _ (by decide)), Nat.div_add_mod]
  cases p b <;> rfl

theorem i1_eq (K : Nat) : ∀ (k : Nat) (n i : Int) (y z : Arr4) (xs : List Int), bset_Of_i1_l0 K k n i y z xs = bset_Of_l0 K k xs n i y z := by
  intro k
  induction k with
  | zero => intro n i y z xs; rfl
  | succ k ih => intro n i y z xs; simp only [bset_Of_i1_l0, bset_Of_l0, ih]
theorem Of_i1_eq (K : Nat) (xs : List Int) : bset_Of_i1 K xs = bset_Of K xs := by rw [bset_Of_i1, bset_Of, i1_eq]
theorem nn_app (a b : List Nat) : nn (a ++ b) = nn a ++ nn b := by simp [nn]
theorem nn_take (a : List Nat) (n : Nat) : (nn a).take n = nn (a.take n) := by simp [nn]
theorem shown_1000 : raddlelaw01_shown 1000 = some true := by decide +kernel
theorem Bytes_end (cs : List Nat) (hc : ∀ c ∈ cs, c < 256) (hl : cs.length ≤ 300) (b : Nat) (hb : b < 256) :
    ((bset_Of 1000 (nn cs)).bind fun v_458 =>
      bif true then
        (bset_Has 1000 v_458 (b : Int)).bind fun v_478 =>
        bif (v_478 == cs.contains b) then
          (ck (roomy 1 ((nn cs.reverse).length + (nn cs).length) = true)).bind fun _ =>
          (bset_Of 1000 (nn cs.reverse ++ nn cs)).bind fun v_482 =>
          bif (Arr4.same v_482 v_458) then
            (bset_Of 1000 [(b : Int)]).bind fun v_485 =>
            (bset_Or 1000 [v_458, v_485]).bind fun v_487 =>
            (ck (roomy 1 ((nn cs.reverse).length + [(b : Int)].length) = true)).bind fun _ =>
            (bset_Of_i1 1000 (nn cs.reverse ++ [(b : Int)])).bind fun v_490 =>
            some (Arr4.same v_487 v_490)
          else
            some false
        else
          some false
      else
        some false) = some true := by
  have h1 := Of_spec 1000 cs hc (by omega) (by omega)
  have hcr : ∀ c ∈ cs.reverse ++ cs, c < 256 := fun c hm => hc c (by simpa using hm)
  have h2 := Of_spec 1000 (cs.reverse ++ cs) hcr (by simp; omega) (by simp; omega)
  have h3 : bset_Of 1000 [(b : Int)] = some (st (fun c => [b].contains c)) := Of_spec 1000 [b] (fun c hm => by simp at hm; omega) (by simp) (by simp)
  have h4 := Of_spec 1000 (cs.reverse ++ [b]) (fun c hm => by
    rcases List.mem_append.1 hm with hm | hm
    · exact hc c (by simpa using hm)
    · simp at hm; omega) (by simp; omega) (by simp; omega)
  have e4 : nn cs.reverse ++ [(b : Int)] = nn (cs.reverse ++ [b]) := by rw [nn_app]; rfl
  have r1 : roomy 1 ((nn cs.reverse).length + (nn cs).length) = true := roomy_iff.2 (by simp only [nn_len, List.length_reverse, maxLen]; omega)
  have r2 : roomy 1 ((nn cs.reverse).length + [(b : Int)].length) = true := roomy_iff.2 (by simp only [nn_len, List.length_reverse, List.length_singleton, maxLen]; omega)
  have hcont : ∀ c, (cs.reverse ++ cs).contains c = cs.contains c := fun c => by
    rw [Bool.eq_iff_iff, List.contains_iff_mem, List.contains_iff_mem]
    simp
  have s1 : Arr4.same (st fun c => (cs.reverse ++ cs).contains c) (st fun c => cs.contains c) = true := (same_st _ _).2 fun c _ => hcont c
  have s2 : Arr4.same (st fun c => cs.contains c || [b].contains c) (st fun c => (cs.reverse ++ [b]).contains c) = true := (same_st _ _).2 fun c _ => by
    rw [Bool.eq_iff_iff, Bool.or_eq_true, List.contains_iff_mem, List.contains_iff_mem, List.contains_iff_mem]
    simp
  rw [h1, Option.bind_some, cond_true, Has_spec 1000 _ b hb, Option.bind_some, beq_self_eq_true, cond_true, ck_pos r1, ← nn_app, h2, Option.bind_some, s1, cond_true, h3, Option.bind_some, Or2 1000 (by omega), Option.bind_some, ck_pos r2, e4, Of_i1_eq, h4, Option.bind_some, s2]
theorem Bytes_l0 (cs : List Nat) (hc : ∀ c ∈ cs, c < 256) (hl : cs.length ≤ 300) (b : Nat) (hb : b < 256) : ∀ (m k i : Nat), cs.length - i = m → i ≤ cs.length → m < k →
    raddlelaw01_BsetBytes_l0 1000 k (b : Int) true (nn cs) ((cs.take i).contains b) (cs.length : Int) (i : Int) (nn (cs.reverse.take i)) = some true := by
  intro m
  induction m with
  | zero =>
    intro k i hm hi hk
    obtain ⟨k, rfl⟩ : ∃ k', k = k' + 1 := ⟨k - 1, by omega⟩
    have hi' : i = cs.length := by omega
    subst hi'
    rw [raddlelaw01_BsetBytes_l0]
    dsimp only
    have e0 : decide ((cs.length : Int) < (cs.length : Int)) = false := by simp
    have e1 : cs.reverse.take cs.length = cs.reverse := List.take_of_length_le (by simp)
    rw [e0, cond_false, List.take_length, e1]
    exact Bytes_end cs hc hl b hb
  | succ m ih =>
    intro k i hm hi hk
    obtain ⟨k, rfl⟩ : ∃ k', k = k' + 1 := ⟨k - 1, by omega⟩
    have hlt : i < cs.length := by omega
    have hlt' : i < (nn cs).length := by rw [nn_len]; exact hlt
    have hj : cs.length - 1 - i < cs.length := by omega
    have hj' : cs.length - 1 - i < (nn cs).length := by rw [nn_len]; exact hj
    have hd : decide ((i : Int) < (cs.length : Int)) = true := decide_eq_true (by omega)
    have hv : (nn cs)[i] = (cs[i] : Int) := by simp [nn]
    have hvj : (nn cs)[cs.length - 1 - i] = (cs[cs.length - 1 - i] : Int) := by simp [nn]
    have w1 : IntKind.i64.wrap (IntKind.i64.wrap (((nn cs).length : Int) - 1) - (i : Int)) = ((cs.length - 1 - i : Nat) : Int) := by
      rw [nn_len, w64 (n := (cs.length : Int) - 1) (by omega) (by omega), w64 (by omega) (by omega)]; omega
    have w2 : IntKind.i64.wrap ((i : Int) + 1) = ((i + 1 : Nat) : Int) := by rw [w64 (by omega) (by omega)]; omega
    have hback : nn (cs.reverse.take i) ++ [(cs[cs.length - 1 - i] : Int)] = nn (cs.reverse.take (i + 1)) := by
      have hr : i < cs.reverse.length := by simpa using hlt
      rw [List.take_succ_eq_append_getElem hr, nn_app, List.getElem_reverse]
      rfl
    have hroom : roomy 1 ((nn (cs.reverse.take i)).length + [(cs[cs.length - 1 - i] : Int)].length) = true := roomy_iff.2 (by
      simp only [nn_len, List.length_take, List.length_reverse, List.length_singleton, maxLen]; omega)
    have hin : (cs.take (i + 1)).contains b = ((cs.take i).contains b || (cs[i] == b)) := by
      rw [List.take_succ_eq_append_getElem hlt, Bool.eq_iff_iff, Bool.or_eq_true, List.contains_iff_mem, List.contains_iff_mem, List.mem_append, List.mem_singleton, beq_iff_eq]
      constructor
      · rintro (h | h)
        · exact .inl h
        · exact .inr h.symm
      · rintro (h | h)
        · exact .inl h
        · exact .inr h.symm
    rw [raddlelaw01_BsetBytes_l0]
    dsimp only
    rw [hd, cond_true]
    cases hcb : (cs.take i).contains b with
    | true =>
      have := ih k (i + 1) (by omega) (by omega) (by omega)
      rw [hin, hcb, Bool.true_or] at this
      rw [cond_true, raddlelaw01_BsetBytes_j1, w1, geti_nat hj', Option.bind_some, hvj, ck_pos hroom, w2, hback]
      exact this
    | false =>
      have := ih k (i + 1) (by omega) (by omega) (by omega)
      rw [hin, hcb, Bool.false_or] at this
      have hbeq : (((cs[i] : Nat) : Int) == (b : Int)) = (cs[i] == b) := by
        rw [Bool.eq_iff_iff, beq_iff_eq, beq_iff_eq]
        omega
      rw [cond_false, geti_nat hlt', Option.bind_some, hv, hbeq, raddlelaw01_BsetBytes_j1, w1, geti_nat hj', Option.bind_some, hvj, ck_pos hroom, w2, hback]
      exact this
theorem Bytes_plain (bs : List Nat) (hc : ∀ c ∈ bs, c < 256) (b : Nat) (hb : b < 256) : raddlelaw01_BsetBytes 1000 (nn bs) (b : Int) = some true := by
  have hm : ∃ m : Nat, (if (300 : Int) < ((nn bs).length : Int) then (300 : Int) else ((nn bs).length : Int)) = (m : Int) ∧ m ≤ (nn bs).length ∧ m ≤ 300 := by
    split
    · exact ⟨300, rfl, by omega, by omega⟩
    · exact ⟨(nn bs).length, rfl, by omega, by omega⟩
  obtain ⟨m, hm, hm1, hm2⟩ := hm
  rw [nn_len] at hm1
  rw [raddlelaw01_BsetBytes, shown_1000, Option.bind_some, hm, Int.toNat_natCast, ck_pos ⟨by omega, by omega, by rw [nn_len]; omega⟩, List.drop_zero, nn_take, nn_len]
  have hl : (bs.take m).length ≤ 300 := by rw [List.length_take]; omega
  have := Bytes_l0 (bs.take m) (fun c h => hc c (List.mem_of_mem_take h)) hl b hb (bs.take m).length 1000 0 (by omega) (by omega) (by omega)
  simpa [nn] using this
end Go.Rv

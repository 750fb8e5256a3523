/- Sets of bytes, plainly, 7: Spans; the laws BsetTells, BsetLists, BsetBack. -/
import Derived.Test.YtjgldamcldbbfaaDoorRpB6
namespace Go.Rv

/-- Rising numbers as ranges: behind one that goes from lo to hi. -/
def sp (lo hi : Nat) : List Nat → List (Nat × Nat)
  | [] => [(lo, hi)]
  | b :: r => if b = hi + 1 then sp lo b r else (lo, hi) :: sp b b r
def spans0 : List Nat → List (Nat × Nat)
  | [] => []
  | b :: r => sp b b r
def a2 (l : List (Nat × Nat)) : List Arr2 := l.map fun x => ⟨(x.1 : Int), (x.2 : Int)⟩
theorem a2_len (l : List (Nat × Nat)) : (a2 l).length = l.length := by simp [a2]
theorem sp_len : ∀ (r : List Nat) (lo hi : Nat), (sp lo hi r).length ≤ r.length + 1
  | [], _, _ => by simp [sp]
  | b :: r, lo, hi => by
    simp only [sp]
    split
    · have := sp_len r lo b; simp; omega
    · have := sp_len r b b; simp; omega
theorem spans0_len (l : List Nat) : (spans0 l).length ≤ l.length := by
  cases l with
  | nil => simp [spans0]
  | cons b r => have := sp_len r b b; simp [spans0]; omega
theorem set_last {α : Type} (l : List α) (x y : α) : (l ++ [x]).set l.length y = l ++ [y] := by simp
theorem get_last {α : Type} (l : List α) (x : α) : geti (l ++ [x]) ((l.length : Nat) : Int) = some x := by rw [geti_nat (by simp)]; simp
theorem lastIx {α : Type} (l : List α) (x : α) (h : l.length < 1000) : IntKind.i64.wrap (((l ++ [x]).length : Int) - 1) = ((l.length : Nat) : Int) := by
  rw [List.length_append, List.length_singleton, w64 (by omega) (by omega)]
  omega

theorem Spans_l0 (K : Nat) (bs : List Nat) (hb : ∀ b ∈ bs, b < 256) (hl : bs.length ≤ 256) : ∀ (m k i lo hi : Nat) (pre : List (Nat × Nat)), bs.length - i = m → i ≤ bs.length → m < k → hi < 256 → pre.length + (bs.length - i) ≤ 600 →
    bset_Spans_l0 K k (hi : Int) (nn bs) (bs.length : Int) (i : Int) (a2 (pre ++ [(lo, hi)])) = some (a2 (pre ++ sp lo hi (bs.drop i))) := by
  intro m
  induction m with
  | zero =>
    intro k i lo hi pre hm hi2 hk hh hp
    obtain ⟨k, rfl⟩ : ∃ k', k = k' + 1 := ⟨k - 1, by omega⟩
    have hi' : i = bs.length := by omega
    have hc : (decide (((bs.length : Nat) : Int) < (bs.length : Int))) = false := by simp
    rw [bset_Spans_l0, hi']
    simp only [hc, cond_false, List.drop_length, sp]
  | succ m ih =>
    intro k i lo hi pre hm hi2 hk hh hp
    obtain ⟨k, rfl⟩ : ∃ k', k = k' + 1 := ⟨k - 1, by omega⟩
    have hlt : i < bs.length := by omega
    have hbi : bs[i] < 256 := hb _ (List.getElem_mem hlt)
    have hc : (decide ((i : Int) < (bs.length : Int))) = true := by simp; exact hlt
    have ea : a2 (pre ++ [(lo, hi)]) = a2 pre ++ [⟨(lo : Int), (hi : Int)⟩] := by simp [a2]
    have hplen : (a2 pre).length < 1000 := by rw [a2_len]; omega
    rw [bset_Spans_l0, List.drop_eq_getElem_cons hlt, sp]
    simp only [hc, cond_true, nn_lt hlt, Option.bind_some, w64 (n := ((bs[i] : Nat) : Int)) (by omega) (by omega), w64 (n := (hi : Int) + 1) (by omega) (by omega)]
    by_cases h : bs[i] = hi + 1
    · have hq : (((bs[i] : Nat) : Int) == (hi : Int) + 1) = true := by rw [beq_iff_eq]; omega
      simp only [hq, cond_true, if_pos h]
      rw [ea, lastIx _ _ hplen, get_last, Option.bind_some, Int.toNat_natCast, set_last, bset_Spans_j1]
      simp only [w64 (n := ((bs[i] : Nat) : Int)) (by omega) (by omega), w64 (n := (i : Int) + 1) (by omega) (by omega)]
      have := ih k (i + 1) lo bs[i] pre (by omega) (by omega) (by omega) hbi (by omega)
      rw [← this, show ((i : Int) + 1) = ((i + 1 : Nat) : Int) by omega]
      congr 1
      simp [a2, Arr2.set]
    · have hq : (((bs[i] : Nat) : Int) == (hi : Int) + 1) = false := by
        apply beq_false_of_ne
        omega
      have hroom : roomy 2 ((a2 (pre ++ [(lo, hi)])).length + [(Arr2.mk ((bs[i] : Nat) : Int) ((bs[i] : Nat) : Int))].length) = true := roomy_iff.2 (by rw [a2_len]; simp only [List.length_append, List.length_singleton, maxLen]; omega)
      simp only [hq, cond_false, if_neg h]
      rw [ck_pos hroom, bset_Spans_j1]
      simp only [w64 (n := ((bs[i] : Nat) : Int)) (by omega) (by omega), w64 (n := (i : Int) + 1) (by omega) (by omega)]
      have := ih k (i + 1) bs[i] bs[i] (pre ++ [(lo, hi)]) (by omega) (by omega) (by omega) hbi (by simp; omega)
      rw [List.append_assoc] at this
      rw [show ((i : Int) + 1) = ((i + 1 : Nat) : Int) by omega]
      have e2 : a2 (pre ++ [(lo, hi)]) ++ [(Arr2.mk ((bs[i] : Nat) : Int) ((bs[i] : Nat) : Int))] = a2 (pre ++ ([(lo, hi)] ++ [(bs[i], bs[i])])) := by simp [a2]
      rw [e2, ← List.append_assoc] at *
      rw [List.append_assoc] at *
      rw [this]
      simp [a2]
theorem Spans_spec (K : Nat) (hK : 300 ≤ K) (p : Nat → Bool) : bset_Spans K (st p) = some (a2 (spans0 (els p))) := by
  rw [bset_Spans, List_spec K (by omega), Option.bind_some, nn_len]
  have hb : ∀ b ∈ els p, b < 256 := fun b hb => (mem_els.1 hb).1
  have hl := els_len p
  generalize els p = bs at *
  obtain ⟨k, rfl⟩ : ∃ k', K = k' + 1 := ⟨K - 1, by omega⟩
  cases bs with
  | nil => rw [bset_Spans_l0]; rfl
  | cons b r =>
    have hbi : b < 256 := hb b (by simp)
    have hc : (decide ((0 : Int) < (((b :: r).length : Nat) : Int))) = true := by simp
    have hg : geti (nn (b :: r)) (0 : Int) = some (b : Int) := rfl
    have hw : IntKind.i64.wrap (-2 + 1) = -1 := by decide
    have hq : ((b : Int) == (-1 : Int)) = false := by apply beq_false_of_ne; omega
    have hroom : roomy 2 (([] : List Arr2).length + [(Arr2.mk (b : Int) (b : Int))].length) = true := rfl
    rw [bset_Spans_l0]
    simp only [hc, cond_true, hg, Option.bind_some, w64 (n := (b : Int)) (by omega) (by omega), hw, hq, cond_false]
    rw [ck_pos hroom, bset_Spans_j1, w64 (n := (b : Int)) (by omega) (by omega), show IntKind.i64.wrap (0 + 1) = ((1 : Nat) : Int) from q01]
    have := Spans_l0 (k + 1) (b :: r) hb hl r.length k 1 b b [] (by simp) (by simp) (by simp at hl; omega) hbi (by simp at hl ⊢; omega)
    simp only [List.nil_append] at this ⊢
    rw [show [Arr2.mk (b : Int) (b : Int)] = a2 [(b, b)] from rfl, this]
    rfl
theorem rSpans_l0 (K : Nat) (bs : List Nat) (hb : ∀ b ∈ bs, b < 256) (hs : bs.Pairwise (· < ·)) (hl : bs.length ≤ 256) : ∀ (m k i lo : Nat) (pre : List (Nat × Nat)) (hi0 : 0 < i) (hil : i - 1 < bs.length), bs.length - i = m → i ≤ bs.length → m < k → pre.length + (bs.length - i) ≤ 600 →
    raddleref01_Spans_l0 K k (nn bs) (i : Int) (a2 (pre ++ [(lo, bs[i - 1])])) = some (a2 (pre ++ sp lo bs[i - 1] (bs.drop i))) := by
  intro m
  induction m with
  | zero =>
    intro k i lo pre hi0 hil hm hi2 hk hp
    obtain ⟨k, rfl⟩ : ∃ k', k = k' + 1 := ⟨k - 1, by omega⟩
    have hi' : i = bs.length := by omega
    have hc : (decide ((i : Int) < ((nn bs).length : Int))) = false := by rw [nn_len]; simp; omega
    have hd : bs.drop i = [] := List.drop_eq_nil_of_le (by omega)
    rw [raddleref01_Spans_l0]
    simp only [hc, cond_false, hd, sp]
  | succ m ih =>
    intro k i lo pre hi0 hil hm hi2 hk hp
    obtain ⟨k, rfl⟩ : ∃ k', k = k' + 1 := ⟨k - 1, by omega⟩
    have hlt : i < bs.length := by omega
    have hbi : bs[i] < 256 := hb _ (List.getElem_mem hlt)
    have hb1 : bs[i - 1] < 256 := hb _ (List.getElem_mem hil)
    have hord : bs[i - 1] < bs[i] := List.pairwise_iff_getElem.1 hs (i - 1) i hil hlt (by omega)
    have hc : (decide ((i : Int) < ((nn bs).length : Int))) = true := by rw [nn_len]; simp; exact hlt
    have hc2 : (decide ((i : Int) > 0)) = true := by simp; omega
    have hw1 : IntKind.i64.wrap ((i : Int) - 1) = ((i - 1 : Nat) : Int) := by rw [w64 (by omega) (by omega)]; omega
    have hw2 : IntKind.u8.wrap (((bs[i - 1] : Nat) : Int) + 1) = ((bs[i - 1] + 1 : Nat) : Int) := by rw [show ((bs[i - 1] : Nat) : Int) + 1 = ((bs[i - 1] + 1 : Nat) : Int) by omega, w8 (by omega)]
    have ea : a2 (pre ++ [(lo, bs[i - 1])]) = a2 pre ++ [⟨(lo : Int), ((bs[i - 1] : Nat) : Int)⟩] := by simp [a2]
    have hplen : (a2 pre).length < 1000 := by rw [a2_len]; omega
    have hst : IntKind.i64.wrap ((i : Int) + 1) = ((i + 1 : Nat) : Int) := by rw [w64 (by omega) (by omega)]; omega
    rw [raddleref01_Spans_l0, List.drop_eq_getElem_cons hlt, sp]
    simp only [hc, hc2, cond_true, hw1, nn_lt hil, nn_lt hlt, Option.bind_some, hw2, hst]
    by_cases h : bs[i] = bs[i - 1] + 1
    · have hq : (((bs[i - 1] + 1 : Nat) : Int) == ((bs[i] : Nat) : Int)) = true := by rw [beq_iff_eq]; omega
      simp only [hq, cond_true, if_pos h]
      rw [ea, lastIx _ _ hplen, get_last, Option.bind_some, Int.toNat_natCast, set_last]
      have := ih k (i + 1) lo pre (by omega) (by simpa using hlt) (by omega) (by omega) (by omega) (by omega)
      simp only [Nat.add_sub_cancel] at this
      rw [← this]
      congr 1
      simp [a2, Arr2.set]
    · have hq : (((bs[i - 1] + 1 : Nat) : Int) == ((bs[i] : Nat) : Int)) = false := by apply beq_false_of_ne; omega
      have hroom : roomy 2 ((a2 (pre ++ [(lo, bs[i - 1])])).length + [(Arr2.mk ((bs[i] : Nat) : Int) ((bs[i] : Nat) : Int))].length) = true := roomy_iff.2 (by rw [a2_len]; simp only [List.length_append, List.length_singleton, maxLen]; omega)
      simp only [hq, cond_false, if_neg h]
      rw [raddleref01_Spans_j1, nn_lt hlt, Option.bind_some, ck_pos hroom, hst]
      have := ih k (i + 1) bs[i] (pre ++ [(lo, bs[i - 1])]) (by omega) (by simpa using hlt) (by omega) (by omega) (by omega) (by simp; omega)
      simp only [Nat.add_sub_cancel] at this
      have e2 : a2 (pre ++ [(lo, bs[i - 1])]) ++ [(Arr2.mk ((bs[i] : Nat) : Int) ((bs[i] : Nat) : Int))] = a2 (pre ++ [(lo, bs[i - 1])] ++ [(bs[i], bs[i])]) := by simp [a2]
      rw [e2, this]
      simp [a2]
theorem els_sorted (p : Nat → Bool) : (els p).Pairwise (· < ·) := List.Pairwise.filter p List.pairwise_lt_range
theorem rSpans_spec (K : Nat) (hK : 300 ≤ K) (p : Nat → Bool) : raddleref01_Spans K (st p) = some (a2 (spans0 (els p))) := by
  rw [raddleref01_Spans, rList_spec K (by omega), Option.bind_some]
  have hb : ∀ b ∈ els p, b < 256 := fun b hb => (mem_els.1 hb).1
  have hl := els_len p
  have hs := els_sorted p
  generalize els p = bs at *
  obtain ⟨k, rfl⟩ : ∃ k', K = k' + 1 := ⟨K - 1, by omega⟩
  cases bs with
  | nil => rw [raddleref01_Spans_l0]; rfl
  | cons b r =>
    have hc : (decide ((0 : Int) < ((nn (b :: r)).length : Int))) = true := by rw [nn_len]; simp
    have hg : geti (nn (b :: r)) (0 : Int) = some (b : Int) := rfl
    have hc2 : (decide ((0 : Int) > 0)) = false := by decide
    have hroom : roomy 2 (([] : List Arr2).length + [(Arr2.mk (b : Int) (b : Int))].length) = true := rfl
    rw [raddleref01_Spans_l0]
    simp only [hc, hc2, cond_true, cond_false]
    rw [raddleref01_Spans_j1, hg, Option.bind_some, ck_pos hroom, show IntKind.i64.wrap (0 + 1) = ((1 : Nat) : Int) from q01]
    have := rSpans_l0 (k + 1) (b :: r) hb hs hl r.length k 1 b [] (by omega) (by simp) (by simp) (by simp) (by simp at hl; omega) (by simp at hl ⊢; omega)
    simp only [List.nil_append] at this ⊢
    exact this

theorem spans_l0_self (K : Nat) (xs : List Arr2) (hl : xs.length ≤ 600) : ∀ (m k i : Nat), xs.length - i = m → i ≤ xs.length → m < k → raddlelaw01_spans_l0 K k xs xs (xs.length : Int) (i : Int) = some true := by
  intro m
  induction m with
  | zero =>
    intro k i hm hi hk
    obtain ⟨k, rfl⟩ : ∃ k', k = k' + 1 := ⟨k - 1, by omega⟩
    have hi' : i = xs.length := by omega
    have hc : (decide (((xs.length : Nat) : Int) < (xs.length : Int))) = false := by simp
    rw [raddlelaw01_spans_l0, hi']
    simp only [hc, cond_false]
  | succ m ih =>
    intro k i hm hi hk
    obtain ⟨k, rfl⟩ : ∃ k', k = k' + 1 := ⟨k - 1, by omega⟩
    have hlt : i < xs.length := by omega
    have hc : (decide ((i : Int) < (xs.length : Int))) = true := by simp; exact hlt
    have hself : (Arr2.same xs[i] xs[i]) = true := by simp [Arr2.same]
    rw [raddlelaw01_spans_l0]
    simp only [hc, cond_true, geti_nat hlt, Option.bind_some, hself, Bool.not_true, cond_false, w64 (n := (i : Int) + 1) (by omega) (by omega)]
    rw [show ((i : Int) + 1) = ((i + 1 : Nat) : Int) by omega]
    exact ih k (i + 1) (by omega) (by omega) (by omega)
theorem spans_self (K : Nat) (xs : List Arr2) (hl : xs.length ≤ 600) (hK : 601 ≤ K) : raddlelaw01_spans K xs xs = some true := by
  have hc : ((xs.length : Int) != (xs.length : Int)) = false := by simp
  rw [raddlelaw01_spans, hc, cond_false]
  exact spans_l0_self K xs hl xs.length K 0 (by omega) (by omega) (by omega)

theorem Lists_plain (p : Nat → Bool) : raddlelaw01_BsetLists 1000 (st p) = some true := by
  have h1 := spans_self 1000 (a2 (spans0 (els p))) (by rw [a2_len]; have := spans0_len (els p); have := els_len p; omega) (by omega)
  rw [raddlelaw01_BsetLists, shown_true]
  simp only [Option.bind_some, cond_true, List_spec 1000 (by omega), rList_spec 1000 (by omega), beq_self_eq_true, Spans_spec 1000 (by omega), rSpans_spec 1000 (by omega), h1, Fold_spec 1000 (by omega), rFold_spec 1000 (by omega), same_self]
end Go.Rv

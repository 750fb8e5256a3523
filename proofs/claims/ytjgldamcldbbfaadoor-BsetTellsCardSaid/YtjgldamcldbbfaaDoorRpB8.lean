/- Sets of bytes, plainly, 8: the laws BsetTells and BsetBack. -/
import Derived.Test.YtjgldamcldbbfaaDoorRpB7
namespace Go.Rv

theorem nn_take (bs : List Nat) (n : Nat) : (nn bs).take n = nn (bs.take n) := by simp [nn, List.map_take]
theorem minI (n : Nat) (c : Int) (hc : 0 ≤ c) : 0 ≤ (if c < (n : Int) then c else (n : Int)) ∧ (Int.toNat (if c < (n : Int) then c else (n : Int))) ≤ n ∧ (Int.toNat (if c < (n : Int) then c else (n : Int)) : Int) ≤ c := by split <;> omega
theorem Tells_plain (bs : List Nat) (hb : ∀ b ∈ bs, b < 256) (lo hi : Nat) (hl : lo < 256) (hh : hi < 256) (qs : List (Nat → Bool)) : raddlelaw01_BsetTells 1000 (nn bs) (lo : Int) (hi : Int) (qs.map st) = some true := by
  obtain ⟨m1, m2, m3⟩ := minI bs.length 300 (by omega)
  obtain ⟨f1, f2, f3⟩ := minI qs.length 20 (by omega)
  have hfew : raddlelaw01_few 1000 (qs.map st) = some ((qs.take (Int.toNat (if (20 : Int) < (qs.length : Int) then (20 : Int) else (qs.length : Int)))).map st) := by
    rw [raddlelaw01_few, List.length_map, ck_pos ⟨f1, Nat.zero_le _, f2⟩, List.drop_zero, List.map_take]
  rw [raddlelaw01_BsetTells, nn_len, ck_pos ⟨m1, Nat.zero_le _, m2⟩, hfew, Option.bind_some, List.drop_zero, nn_take]
  generalize Int.toNat (if (300 : Int) < (bs.length : Int) then (300 : Int) else (bs.length : Int)) = n at *
  generalize Int.toNat (if (20 : Int) < (qs.length : Int) then (20 : Int) else (qs.length : Int)) = k at *
  have hb' : ∀ b ∈ bs.take n, b < 256 := fun b h => hb b (List.mem_of_mem_take h)
  have hn : (bs.take n).length ≤ 300 := by rw [List.length_take]; omega
  have hk : (qs.take k).length ≤ 20 := by rw [List.length_take]; omega
  generalize bs.take n = cs at *
  generalize qs.take k = rs at *
  have h1 := Of_spec 1000 cs hb' (by omega) (by omega)
  have h2 := rOf_spec 1000 cs hb' (by omega) (by omega)
  have h3 := Range_spec 1000 lo hi hl hh (by omega)
  have h4 := rRange_spec 1000 lo hi hl hh (by omega)
  have h5 := Or_spec 1000 (by omega) rs (by omega) (by omega)
  have h6 := rOr_spec 1000 (by omega) rs (by omega) (by omega)
  have h7 := And_spec 1000 (by omega) rs (by omega) (by omega)
  have h8 := rAnd_spec 1000 (by omega) rs (by omega)
  have h9 := Not_spec 1000 (by omega) (fun c => cs.contains c)
  have h10 := rNot_spec 1000 (by omega) (fun c => cs.contains c)
  have h11 := Has_spec 1000 (fun c => cs.contains c) lo hl
  have h12 := rHas_spec 1000 (fun c => cs.contains c) lo hl
  rw [h2, Option.bind_some, shown_true, Option.bind_some, cond_true, h1, Option.bind_some, same_self, cond_true, h3, Option.bind_some, h4, Option.bind_some, same_self, cond_true, h5, Option.bind_some, h6, Option.bind_some, same_self, cond_true, h7, Option.bind_some, h8, Option.bind_some, same_self, cond_true, h9, Option.bind_some, h10, Option.bind_some, same_self, cond_true, h11, Option.bind_some, h12, Option.bind_some, beq_self_eq_true]

/-- Ranges that rise, and stand apart. -/
def good : Int → List (Nat × Nat) → Prop
  | _, [] => True
  | last, (l, h) :: r => last + 1 < (l : Int) ∧ l ≤ h ∧ h < 256 ∧ good (h : Int) r
theorem sp_good : ∀ (r : List Nat) (lo hi : Nat) (last : Int), last + 1 < (lo : Int) → lo ≤ hi → hi < 256 → r.Pairwise (· < ·) → (∀ b ∈ r, hi < b ∧ b < 256) → good last (sp lo hi r)
  | [], lo, hi, last, h1, h2, h3, _, _ => ⟨h1, h2, h3, trivial⟩
  | b :: r, lo, hi, last, h1, h2, h3, h4, h5 => by
    have hb := h5 b (by simp)
    obtain ⟨h6, h7⟩ := List.pairwise_cons.1 h4
    simp only [sp]
    split
    · exact sp_good r lo b last h1 (by omega) hb.2 h7 (fun c hc => ⟨h6 c hc, (h5 c (by simp [hc])).2⟩)
    · exact ⟨h1, h2, h3, sp_good r b b hi (by omega) (Nat.le_refl _) hb.2 h7 (fun c hc => ⟨h6 c hc, (h5 c (by simp [hc])).2⟩)⟩
theorem sp_any (c : Nat) : ∀ (r : List Nat) (lo hi : Nat), lo ≤ hi → (∀ b ∈ r, hi < b) → r.Pairwise (· < ·) → ((∃ x ∈ sp lo hi r, x.1 ≤ c ∧ c ≤ x.2) ↔ ((lo ≤ c ∧ c ≤ hi) ∨ c ∈ r))
  | [], lo, hi, _, _, _ => by simp [sp]
  | b :: r, lo, hi, h1, h2, h3 => by
    have hb := h2 b (by simp)
    obtain ⟨h6, h7⟩ := List.pairwise_cons.1 h3
    simp only [sp]
    split
    · rename_i he
      rw [sp_any c r lo b (by omega) h6 h7]
      simp only [List.mem_cons]
      constructor
      · rintro (h | h)
        · by_cases hcb : c = b
          · exact .inr (.inl hcb)
          · exact .inl (by omega)
        · exact .inr (.inr h)
      · rintro (h | h | h)
        · exact .inl (by omega)
        · exact .inl (by omega)
        · exact .inr h
    · have ih := sp_any c r b b (Nat.le_refl _) h6 h7
      simp only [List.mem_cons, exists_eq_or_imp]
      rw [ih]
      constructor
      · rintro (h | h | h)
        · exact .inl h
        · exact .inr (.inl (by omega))
        · exact .inr (.inr h)
      · rintro (h | h | h)
        · exact .inl h
        · exact .inr (.inl (by omega))
        · exact .inr (.inr h)
theorem spans_good (p : Nat → Bool) : good (-2) (spans0 (els p)) := by
  have hb : ∀ b ∈ els p, b < 256 := fun b hb => (mem_els.1 hb).1
  have hs := els_sorted p
  generalize els p = bs at *
  cases bs with
  | nil => exact trivial
  | cons b r =>
    obtain ⟨h6, h7⟩ := List.pairwise_cons.1 hs
    exact sp_good r b b (-2) (by omega) (Nat.le_refl _) (hb b (by simp)) h7 (fun c hc => ⟨h6 c hc, hb c (by simp [hc])⟩)
def inR (x : Nat × Nat) (c : Nat) : Bool := decide (x.1 ≤ c) && decide (c ≤ x.2)
theorem spans_any (p : Nat → Bool) (c : Nat) (hc : c < 256) : ((spans0 (els p)).map inR).any (fun q => q c) = p c := by
  have hm : (∃ x ∈ spans0 (els p), x.1 ≤ c ∧ c ≤ x.2) ↔ c ∈ els p := by
    have hs := els_sorted p
    generalize els p = bs at *
    cases bs with
    | nil => simp [spans0]
    | cons b r =>
      obtain ⟨h6, h7⟩ := List.pairwise_cons.1 hs
      rw [spans0, sp_any c r b b (Nat.le_refl _) h6 h7]
      simp only [List.mem_cons]
      constructor
      · rintro (h | h)
        · exact .inl (by omega)
        · exact .inr h
      · rintro (h | h)
        · exact .inl (by omega)
        · exact .inr h
  rw [Bool.eq_iff_iff]
  simp only [List.any_map, List.any_eq_true, Function.comp_apply, inR, Bool.and_eq_true, decide_eq_true_eq]
  rw [hm, mem_els]
  simp [hc]

theorem Back_l0 (K : Nat) (hK : 700 ≤ K) (p : Nat → Bool) (sps : List (Nat × Nat)) (hl : sps.length ≤ 256) (hany : ∀ c, c < 256 → (sps.map inR).any (fun q => q c) = p c) : ∀ (m k i : Nat) (last : Int), sps.length - i = m → i ≤ sps.length → m < k → -3 < last → last < 256 → good last (sps.drop i) →
    raddlelaw01_BsetBack_l0 K k true last (a2 sps) (sps.length : Int) (i : Int) (st p) ((sps.take i).map (fun x => st (inR x))) = some true := by
  intro m
  induction m with
  | zero =>
    intro k i last hm hi hk h3 h4 hg
    obtain ⟨k, rfl⟩ : ∃ k', k = k' + 1 := ⟨k - 1, by omega⟩
    have hi' : i = sps.length := by omega
    have hc : (decide (((sps.length : Nat) : Int) < (sps.length : Int))) = false := by simp
    have hO := Or_spec K (by omega) (sps.map inR) (by simp; omega) (by simp; omega)
    have e : (sps.take sps.length).map (fun x => st (inR x)) = (sps.map inR).map st := by simp
    have hs1 : (st (fun c => (sps.map inR).any (fun q => q c))).same (st p) = true := (same_st _ _).2 hany
    have hOf := Of_spec K (els p) (fun b hb => (mem_els.1 hb).1) (by have := els_len p; omega) (by have := els_len p; omega)
    have hs2 : (st (fun c => (els p).contains c)).same (st p) = true := (same_st _ _).2 (fun b hb => by
      rw [Bool.eq_iff_iff, List.contains_iff_mem, mem_els]
      simp [hb])
    rw [raddlelaw01_BsetBack_l0, hi']
    simp only [hc, cond_false, cond_true]
    rw [e, hO, Option.bind_some, hs1, cond_true, List_spec K (by omega), Option.bind_some, hOf, Option.bind_some, hs2]
  | succ m ih =>
    intro k i last hm hi hk h3 h4 hg
    obtain ⟨k, rfl⟩ : ∃ k', k = k' + 1 := ⟨k - 1, by omega⟩
    have hlt : i < sps.length := by omega
    rw [List.drop_eq_getElem_cons hlt] at hg
    obtain ⟨g1, g2, g3, g4⟩ := hg
    replace g1 : last + 1 < ((sps[i]).1 : Int) := g1
    replace g2 : (sps[i]).1 ≤ (sps[i]).2 := g2
    replace g3 : (sps[i]).2 < 256 := g3
    replace g4 : good ((sps[i]).2 : Int) (sps.drop (i + 1)) := g4
    have hc : (decide ((i : Int) < (sps.length : Int))) = true := by simp; exact hlt
    have hget : geti (a2 sps) (i : Int) = some ⟨((sps[i]).1 : Int), ((sps[i]).2 : Int)⟩ := by rw [geti_nat (by rw [a2_len]; exact hlt)]; simp [a2]
    have hv0 : Arr2.get ⟨((sps[i]).1 : Int), ((sps[i]).2 : Int)⟩ 0 = ((sps[i]).1 : Int) := rfl
    have hv1 : Arr2.get ⟨((sps[i]).1 : Int), ((sps[i]).2 : Int)⟩ 1 = ((sps[i]).2 : Int) := rfl
    have hw0 : IntKind.i64.wrap (((sps[i]).1 : Nat) : Int) = ((sps[i]).1 : Int) := w64 (by omega) (by omega)
    have hw1 : IntKind.i64.wrap (((sps[i]).2 : Nat) : Int) = ((sps[i]).2 : Int) := w64 (by omega) (by omega)
    have hwl : IntKind.i64.wrap (last + 1) = last + 1 := w64 (by omega) (by omega)
    have hd1 : (decide (((sps[i]).1 : Int) ≤ last + 1)) = false := by simp only [decide_eq_false_iff_not]; omega
    have hd2 : (decide (((sps[i]).2 : Int) < ((sps[i]).1 : Int))) = false := by simp only [decide_eq_false_iff_not]; omega
    have hR := Range_spec K (sps[i]).1 (sps[i]).2 (by omega) g3 (by omega)
    have hroom : ∀ v : Arr4, roomy 32 (((sps.take i).map (fun x => st (inR x))).length + [v].length) = true := fun v => roomy_iff.2 (by simp only [List.length_singleton, List.length_map, List.length_take, maxLen]; omega)
    rw [raddlelaw01_BsetBack_l0]
    simp only [hc, cond_true, hget, Option.bind_some, hv0, hv1, hw0, hw1, hwl, hd1, hd2, cond_false]
    rw [hR, Option.bind_some, ck_pos (hroom _), w64 (n := (i : Int) + 1) (by omega) (by omega), show ((i : Int) + 1) = ((i + 1 : Nat) : Int) by omega]
    have := ih k (i + 1) ((sps[i]).2 : Int) (by omega) (by omega) (by omega) (by omega) (by omega) g4
    rw [List.take_succ_eq_append_getElem hlt, List.map_append] at this
    exact this
theorem Back_plain (p : Nat → Bool) : raddlelaw01_BsetBack 1000 (st p) = some true := by
  have hl : (spans0 (els p)).length ≤ 256 := Nat.le_trans (spans0_len _) (els_len p)
  have := Back_l0 1000 (by omega) p (spans0 (els p)) hl (fun c hc => spans_any p c hc) (spans0 (els p)).length 1000 0 (-2) (by omega) (by omega) (by omega) (by omega) (by omega) (spans_good p)
  rw [raddlelaw01_BsetBack, shown_true, Option.bind_some, Spans_spec 1000 (by omega), Option.bind_some, a2_len]
  exact this
end Go.Rv

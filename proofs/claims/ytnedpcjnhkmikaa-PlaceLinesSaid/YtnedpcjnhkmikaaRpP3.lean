/- Places, plainly, 3: the place of each byte of a text, and the byte at a place. -/
import Derived.Test.YtnedpcjnhkmikaaRpP2
namespace Go.Rv

/-- The place of a byte of a text that is not long. -/
def pl (x : List Int) (i : Nat) : api_Place := ⟨((x.take i).count 10 : Nat) + 1, (i : Int) - last10 (x.take i)⟩
theorem pl_nxs (x : List Int) (hl : x.length ≤ 1000) (i : Nat) (hi : i ≤ x.length) : nxs ⟨1, 1⟩ (x.take i) = pl x i := by
  have hlen : (x.take i).length = i := by simp; omega
  have hcl : (x.take i).count 10 ≤ i := by have := List.count_le_length (a := (10 : Int)) (l := x.take i); omega
  have h1 := last10_ge (x.take i)
  have h2 := last10_lt (x.take i)
  rw [nxs_spec _ (by simp) (by simp), hlen, pl]
  by_cases h : last10 (x.take i) < 0
  · have h3 := (last10_count _).1 h
    have h4 : last10 (x.take i) = -1 := by omega
    rw [if_pos h, h3, h4, w64 (by simp only; omega) (by simp only; omega)]
    simp only [api_Place.mk.injEq]
    refine ⟨?_, ?_⟩ <;> (try simp only) <;> omega
  · rw [if_neg h, w64 (by simp only; omega) (by simp only; omega), w64 (by omega) (by omega)]
    simp only [api_Place.mk.injEq]
    refine ⟨?_, ?_⟩ <;> (try simp only) <;> omega
theorem Of_spec (K : Nat) (x : List Int) (hb : isB x) (hl : x.length ≤ 999) (hK : 1000 ≤ K) (i : Nat) (hi : i ≤ x.length) : place_Of K x (i : Int) = some (pl x i, true) := by
  have c1 : (decide ((i : Int) < 0)) = false := by simp
  have c2 : (decide ((i : Int) > (x.length : Int))) = false := by simp; omega
  have hn := Next_spec K (x.take i) (isB_take hb i) (by simp; omega) (by simp; omega) ⟨1, 1⟩ (by simp) (by simp)
  rw [place_Of]
  simp only [c1, c2, cond_false, place_Start, Option.bind_some, Int.toNat_natCast, List.drop_zero]
  rw [ck_pos ⟨by omega, by omega, hi⟩, hn, pl_nxs x (by omega) i hi]
  rfl
theorem rOf_spec (K : Nat) (x : List Int) (hl : x.length ≤ 999) (hK : 1000 ≤ K) (i : Nat) (hi : i ≤ x.length) : raddleref19_Of K x (i : Int) = some (pl x i, true) := by
  have c1 : (decide ((i : Int) < 0)) = false := by simp
  have c2 : (decide ((i : Int) > (x.length : Int))) = false := by simp; omega
  have hn := rNext_spec K (x.take i) (by simp; omega) (by simp; omega) ⟨1, 1⟩
  rw [raddleref19_Of]
  simp only [c1, c2, cond_false, Int.toNat_natCast, List.drop_zero]
  rw [ck_pos ⟨by omega, by omega, hi⟩, hn, pl_nxs x (by omega) i hi]
  rfl
theorem Of_out (K : Nat) (x : List Int) (i : Int) (h : i < 0 ∨ (x.length : Int) < i) : place_Of K x i = some (⟨0, 0⟩, false) := by
  rw [place_Of]
  by_cases h1 : i < 0
  · have c1 : (decide (i < 0)) = true := by simp [h1]
    simp only [c1, cond_true, place_Of_j0]
  · have c1 : (decide (i < 0)) = false := by simp [h1]
    have c2 : (decide (i > (x.length : Int))) = true := by simp; omega
    simp only [c1, c2, cond_false, cond_true, place_Of_j0]
theorem rOf_out (K : Nat) (x : List Int) (i : Int) (h : i < 0 ∨ (x.length : Int) < i) : raddleref19_Of K x i = some (⟨0, 0⟩, false) := by
  rw [raddleref19_Of]
  by_cases h1 : i < 0
  · have c1 : (decide (i < 0)) = true := by simp [h1]
    simp only [c1, cond_true, raddleref19_Of_j0]
  · have c1 : (decide (i < 0)) = false := by simp [h1]
    have c2 : (decide (i > (x.length : Int))) = true := by simp; omega
    simp only [c1, c2, cond_false, cond_true, raddleref19_Of_j0]

/-- Places rise. -/
theorem pl_step (x : List Int) (i : Nat) (hi : i < x.length) : (pl x (i + 1)).Line = (if x[i] = 10 then (pl x i).Line + 1 else (pl x i).Line) ∧ (pl x (i + 1)).Col = (if x[i] = 10 then 1 else (pl x i).Col + 1) := by
  simp only [pl]
  rw [List.take_succ_eq_append_getElem hi, List.count_append, last10_append, List.length_take, Nat.min_eq_left (by omega)]
  by_cases h : x[i] = 10
  · have h1 : ([x[i]] : List Int).count 10 = 1 := by rw [h]; simp
    rw [h1, if_pos h, if_pos h, if_pos h]
    omega
  · have h1 : ([x[i]] : List Int).count 10 = 0 := by simp [List.count_singleton, h]
    rw [h1, if_neg h, if_neg h, if_neg h]
    omega
theorem pl_col (x : List Int) (i : Nat) (hi : i ≤ x.length) : 1 ≤ (pl x i).Col := by
  have := last10_lt (x.take i)
  rw [List.length_take, Nat.min_eq_left hi] at this
  simp only [pl]
  omega
theorem pl_line (x : List Int) (i : Nat) : 1 ≤ (pl x i).Line := by simp only [pl]; omega
/-- Of two bytes the later one stands in a later line, or behind in the same. -/
theorem pl_less (x : List Int) : ∀ (d i : Nat), i + d + 1 ≤ x.length → (pl x i).Line < (pl x (i + d + 1)).Line ∨ ((pl x i).Line = (pl x (i + d + 1)).Line ∧ (pl x i).Col < (pl x (i + d + 1)).Col) := by
  intro d
  induction d with
  | zero =>
    intro i hi
    obtain ⟨h1, h2⟩ := pl_step x i (by omega)
    rw [show i + 0 + 1 = i + 1 by omega, h1, h2]
    split
    · exact .inl (by omega)
    · exact .inr ⟨rfl, by omega⟩
  | succ d ih =>
    intro i hi
    have h := ih i (by omega)
    obtain ⟨h1, h2⟩ := pl_step x (i + d + 1) (by omega)
    rw [show i + (d + 1) + 1 = i + d + 1 + 1 by omega, h1, h2]
    split
    · exact .inl (by omega)
    · rcases h with h | ⟨h3, h4⟩
      · exact .inl h
      · exact .inr ⟨h3, by omega⟩
theorem pl_inj (x : List Int) (i j : Nat) (hi : i ≤ x.length) (hj : j ≤ x.length) (h : pl x i = pl x j) : i = j := by
  rcases Nat.lt_trichotomy i j with hlt | he | hlt
  · have := pl_less x (j - i - 1) i (by omega)
    rw [show i + (j - i - 1) + 1 = j by omega, h] at this
    omega
  · exact he
  · have := pl_less x (i - j - 1) j (by omega)
    rw [show j + (i - j - 1) + 1 = i by omega, h] at this
    omega
/-- The byte at a place. -/
def byteAt (x : List Int) (p : api_Place) : Int × Bool := match (List.range (x.length + 1)).find? (fun i => pl x i == p) with | some i => ((i : Int), true) | none => (0, false)
end Go.Rv

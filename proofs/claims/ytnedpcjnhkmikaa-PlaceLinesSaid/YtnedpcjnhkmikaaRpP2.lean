/- Places, plainly, 2: the law PlaceParts. -/
import Derived.Test.YtnedpcjnhkmikaaRpP1
namespace Go.Rv

theorem shown_true : raddlelaw19_shown 1000 = some true := by decide +kernel
theorem nxs_append (p : api_Place) (x y : List Int) : nxs (nxs p x) y = nxs p (x ++ y) := by simp [nxs, List.foldl_append]
theorem nxs_range (p : api_Place) (hp : -9223372036854775808 ≤ p.Line ∧ p.Line < 9223372036854775808) (hc : -9223372036854775808 ≤ p.Col ∧ p.Col < 9223372036854775808) (l : List Int) :
    (-9223372036854775808 ≤ (nxs p l).Line ∧ (nxs p l).Line < 9223372036854775808) ∧ (-9223372036854775808 ≤ (nxs p l).Col ∧ (nxs p l).Col < 9223372036854775808) := by
  rw [nxs_spec p hp hc]
  split
  · exact ⟨hp, w_range _⟩
  · exact ⟨w_range _, w_range _⟩
theorem nxs_line (p : api_Place) (hp : -9223372036854775808 ≤ p.Line ∧ p.Line < 9223372036854775808) (hc : -9223372036854775808 ≤ p.Col ∧ p.Col < 9223372036854775808) (l : List Int) : (nxs p l).Line = IntKind.i64.wrap (p.Line + (l.count 10 : Nat)) := by
  rw [nxs_spec p hp hc]
  split
  · rename_i h
    have := (last10_count l).1 h
    rw [this]
    simp [w64 hp.1 hp.2]
  · rfl
theorem few_spec (K : Nat) (x : List Int) : ∃ y, raddlelaw19_few K x = some y ∧ y.length ≤ 200 ∧ y = x.take 200 := by
  have h : ∀ n : Nat, 0 ≤ (if (200 : Int) < (n : Int) then (200 : Int) else (n : Int)) ∧ (Int.toNat (if (200 : Int) < (n : Int) then (200 : Int) else (n : Int))) = min 200 n := fun n => by split <;> omega
  obtain ⟨h1, h2⟩ := h x.length
  refine ⟨x.take 200, ?_, by simp; omega, rfl⟩
  rw [raddlelaw19_few, ck_pos ⟨h1, Nat.zero_le _, by rw [h2]; omega⟩, h2, List.drop_zero]
  have : x.take (min 200 x.length) = x.take 200 := by
    rcases Nat.le_total 200 x.length with h | h
    · rw [Nat.min_eq_left h]
    · rw [Nat.min_eq_right h, List.take_length, List.take_of_length_le h]
  rw [this]
theorem isB_take {l : List Int} (h : isB l) (n : Nat) : isB (l.take n) := fun b hb => h b (List.mem_of_mem_take hb)
theorem isB_append {l m : List Int} (h : isB l) (k : isB m) : isB (l ++ m) := fun b hb => by rcases List.mem_append.1 hb with hb | hb; (exact h b hb); exact k b hb

theorem Parts_l0 (K : Nat) (hK : 700 ≤ K) (x y : List Int) (hx : isB x) (hy : isB y) (lx : x.length ≤ 200) (ly : y.length ≤ 200) (p : api_Place) (hp : -9223372036854775808 ≤ p.Line ∧ p.Line < 9223372036854775808) (hc : -9223372036854775808 ≤ p.Col ∧ p.Col < 9223372036854775808) :
    ∀ (m k i : Nat), (x ++ y).length - i = m → i ≤ (x ++ y).length → m < k → raddlelaw19_PlaceParts_l0 K k true x y (((x ++ y).take i).count 10 : Nat) (x ++ y) ((x ++ y).length : Int) (i : Int) p.Line p.Col = some true := by
  have hlen : (x ++ y).length ≤ 400 := by simp; omega
  intro m
  induction m with
  | zero =>
    intro k i hm hi hk
    obtain ⟨k, rfl⟩ : ∃ k', k = k' + 1 := ⟨k - 1, by omega⟩
    have hi' : i = (x ++ y).length := by omega
    have hcnd : (decide ((((x ++ y).length : Nat) : Int) < ((x ++ y).length : Int))) = false := by simp
    obtain ⟨r1, r2⟩ := nxs_range p hp hc x
    have n1 := Next_spec K x hx (by omega) (by omega) p hp hc
    have n2 := Next_spec K y hy (by omega) (by omega) (nxs p x) r1 r2
    have n3 := Next_spec K (x ++ y) (isB_append hx hy) (by omega) (by omega) p hp hc
    have n4 := Next_spec K [] (fun b hb => by cases hb) (by simp) (by simp; omega) p hp hc
    have hr1 : roomy 1 (([] : List Int).length + x.length) = true := roomy_iff.2 (by simp only [List.length_nil, maxLen]; omega)
    have hr2 : roomy 1 (x.length + y.length) = true := roomy_iff.2 (by simp only [maxLen]; omega)
    have hline := nxs_line p hp hc (x ++ y)
    have hline' : ((nxs p (x ++ y)).Line == IntKind.i64.wrap (p.Line + (((x ++ y).count 10 : Nat) : Int))) = true := by rw [hline]; simp
    have e : (⟨p.Line, p.Col⟩ : api_Place) = p := rfl
    rw [raddlelaw19_PlaceParts_l0, hi', List.take_length]
    simp only [hcnd, cond_false, cond_true, e, n1, n2, n3, n4, Option.bind_some, nxs_append, beq_self_eq_true, hline', ck_pos hr1, ck_pos hr2, List.nil_append]
    have : nxs p [] = p := rfl
    rw [this]
    simp [place_Start]
  | succ m ih =>
    intro k i hm hi hk
    obtain ⟨k, rfl⟩ : ∃ k', k = k' + 1 := ⟨k - 1, by omega⟩
    have hlt : i < (x ++ y).length := by omega
    have hcnd : (decide ((i : Int) < ((x ++ y).length : Int))) = true := by simp only [decide_eq_true_eq]; omega
    have hst : IntKind.i64.wrap ((i : Int) + 1) = ((i + 1 : Nat) : Int) := by rw [w64 (by omega) (by omega)]; omega
    have hcl : ((x ++ y).take i).count 10 ≤ 400 := Nat.le_trans List.count_le_length (by simp; omega)
    have := ih k (i + 1) (by omega) (by omega) (by omega)
    rw [List.take_succ_eq_append_getElem hlt, List.count_append] at this
    rw [raddlelaw19_PlaceParts_l0]
    simp only [hcnd, cond_true, geti_nat hlt, Option.bind_some, hst]
    by_cases h : (x ++ y)[i] = 10
    · have hq : ((x ++ y)[i] == 10) = true := by simp [h]
      have h1 : ([(x ++ y)[i]] : List Int).count 10 = 1 := by rw [h]; simp
      have hw : IntKind.i64.wrap ((((x ++ y).take i).count 10 : Nat) + 1) = ((((x ++ y).take i).count 10 + 1 : Nat) : Int) := by rw [w64 (by omega) (by omega)]; omega
      rw [h1] at this
      simp only [hq, cond_true, hw]
      exact this
    · have hq : ((x ++ y)[i] == 10) = false := by simp [h]
      have h1 : ([(x ++ y)[i]] : List Int).count 10 = 0 := by simp [List.count_singleton, h]
      rw [h1] at this
      simp only [hq, cond_false]
      exact this
theorem Parts_plain (p : api_Place) (hp : -9223372036854775808 ≤ p.Line ∧ p.Line < 9223372036854775808) (hc : -9223372036854775808 ≤ p.Col ∧ p.Col < 9223372036854775808) (a b : List Int) (ha : isB a) (hb : isB b) : raddlelaw19_PlaceParts 1000 p a b = some true := by
  obtain ⟨x, f1, l1, e1⟩ := few_spec 1000 a
  obtain ⟨y, f2, l2, e2⟩ := few_spec 1000 b
  have hx : isB x := by rw [e1]; exact isB_take ha _
  have hy : isB y := by rw [e2]; exact isB_take hb _
  have hr1 : roomy 1 (([] : List Int).length + x.length) = true := roomy_iff.2 (by simp only [List.length_nil, maxLen]; omega)
  have hr2 : roomy 1 ((([] : List Int) ++ x).length + y.length) = true := roomy_iff.2 (by simp only [List.nil_append, maxLen]; omega)
  have := Parts_l0 1000 (by omega) x y hx hy l1 l2 p hp hc (x ++ y).length 1000 0 (by omega) (by omega) (by simp; omega)
  rw [raddlelaw19_PlaceParts, shown_true, Option.bind_some, f1, Option.bind_some, f2, Option.bind_some, ck_pos hr1, ck_pos hr2]
  simp only [List.nil_append]
  exact this
end Go.Rv

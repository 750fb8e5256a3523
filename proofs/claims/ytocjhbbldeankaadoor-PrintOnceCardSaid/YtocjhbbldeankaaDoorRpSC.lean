/- Patterns, plainly: are both trees. -/
import Derived.Test.YtocjhbbldeankaaDoorRpSO
namespace Go.Rv
theorem beqBs (a b : ByteArray) : (a.toList == b.toList) = decide (a = b) := by
 rw [Bool.eq_iff_iff, beq_iff_eq, decide_eq_true_eq, ByteArray.toList_eq, ByteArray.toList_eq]
 exact ⟨fun h => ByteArray.ext (Array.toList_inj.1 h), fun h => by rw [h]⟩
theorem Same_l2 (K : Nat) (go : List aNd → List aNd → Int → Option Bool) (a b : List aNd) (x5 : Int) (s1 s2 : Arr4) (b1 : Bool) (i1 i2 : Int) (b2 : Bool) (i3 i4 : Int) (b3 : Bool) (m1 m2 : ByteArray) (b4 : Bool) (l1 : List Int) (i5 : Int) (l2 : List Int) (i6 : Int) (b5 : Bool) (o1 : Int) (t1 : Arr4) (x : List Int) (p1 p2 : Int) (n1 : ByteArray) (o2 : Int) (t2 : Arr4) (y : List Int) (p3 p4 : Int) (n2 : ByteArray)
  (hxy : x.length = y.length) (hx : x.length ≤ 9223372036854775807) : ∀ (m k i : Nat), x.length - i = m → i ≤ x.length → m < k →
  r4_Same_l2 K go k a b x5 (i : Int) s1 s2 b1 i1 i2 b2 i3 i4 b3 m1 m2 b4 l1 i5 l2 i6 b5 o1 t1 x p1 p2 n1 o2 t2 y p3 p4 n2 = if x.drop i = y.drop i then go a b (IntKind.i64.wrap (x5 + 1)) else some false := by
 intro m
 induction m with
 | zero =>
  intro k i hm hi hk
  obtain ⟨k, rfl⟩ : ∃ k', k = k' + 1 := ⟨k - 1, by omega⟩
  rw [r4_Same_l2]
  dsimp only
  rw [show decide ((i : Int) < (x.length : Int)) = false from decide_eq_false (by omega), cF, List.drop_eq_nil_of_le (by omega), List.drop_eq_nil_of_le (by omega), if_pos rfl]
 | succ m ih =>
  intro k i hm hi hk
  obtain ⟨k, rfl⟩ : ∃ k', k = k' + 1 := ⟨k - 1, by omega⟩
  have h1 : i < x.length := by omega
  have h2 : i < y.length := by omega
  rw [r4_Same_l2]
  dsimp only
  rw [show decide ((i : Int) < (x.length : Int)) = true from decide_eq_true (by omega), cT, geti_nat h1, bS, geti_nat h2, bS, w64s (n := i) (by omega), ih k (i + 1) (by omega) (by omega) (by omega), List.drop_eq_getElem_cons h1, List.drop_eq_getElem_cons h2]
  by_cases he : x[i] = y[i]
  ·have : (x[i] != y[i]) = false := by simpa using he
   rw [this, cF]
   simp only [List.cons.injEq, he, true_and]
  ·have : (x[i] != y[i]) = true := by simpa using he
   rw [this, cT]
   simp only [List.cons.injEq, he, false_and, if_false]
theorem Same_l0 (K : Nat) (a b : List aNd) (hab : a.length = b.length) (ha : a.length ≤ 9223372036854775807) (hn : ∀ n ∈ a, n.L.length < K ∧ n.L.length ≤ 9223372036854775807) : ∀ (m k i : Nat), a.length - i = m → i ≤ a.length → m < k →
  r4_Same_l0 K k a b (i : Int) = some (decide (a.drop i = b.drop i)) := by
 intro m
 induction m with
 | zero =>
  intro k i hm hi hk
  obtain ⟨k, rfl⟩ : ∃ k', k = k' + 1 := ⟨k - 1, by omega⟩
  rw [r4_Same_l0]
  dsimp only
  rw [show decide ((i : Int) < (a.length : Int)) = false from decide_eq_false (by omega), cF, List.drop_eq_nil_of_le (by omega), List.drop_eq_nil_of_le (by omega)]
  simp
 | succ m ih =>
  intro k i hm hi hk
  obtain ⟨k, rfl⟩ : ∃ k', k = k' + 1 := ⟨k - 1, by omega⟩
  have h1 : i < a.length := by omega
  have h2 : i < b.length := by omega
  have hr := ih k (i + 1) (by omega) (by omega) (by omega)
  obtain ⟨hn1, hn2⟩ := hn _ (List.getElem_mem h1)
  rw [r4_Same_l0]
  dsimp only
  rw [show decide ((i : Int) < (a.length : Int)) = true from decide_eq_true (by omega), cT, geti_nat h1, bS, geti_nat h2, bS, List.drop_eq_getElem_cons h1, List.drop_eq_getElem_cons h2]
  have hno : a[i] ≠ b[i] → some false = some (decide (a[i] :: a.drop (i + 1) = b[i] :: b.drop (i + 1))) := fun h => by
   rw [decide_eq_false (fun hh => h (by simp only [List.cons.injEq] at hh; exact hh.1))]
  generalize a[i] = x at *
  generalize b[i] = y at *
  have e2 : Arr4.same x.S y.S = decide (x.S = y.S) := by rw [Bool.eq_iff_iff, same_iff, decide_eq_true_eq]
  rw [e2, beqBs]
  by_cases c1 : x.Op = y.Op
  ·rw [show (x.Op != y.Op) = false by simpa using c1, cF]
   by_cases c2 : x.S = y.S
   ·rw [decide_eq_true c2]
    simp only [Bool.not_true, cF]
    by_cases c3 : x.Lo = y.Lo
    ·rw [show (x.Lo != y.Lo) = false by simpa using c3, cF]
     by_cases c4 : x.Hi = y.Hi
     ·rw [show (x.Hi != y.Hi) = false by simpa using c4, cF]
      by_cases c5 : x.Name = y.Name
      ·rw [decide_eq_true c5]
       simp only [Bool.not_true, cF]
       by_cases c6 : x.L.length = y.L.length
       ·rw [show ((x.L.length : Int) != (y.L.length : Int)) = false by simp; omega, cF]
        have hl2 := Same_l2 K (r4_Same_l0 K k) a b (i : Int) x.S y.S false x.Lo y.Lo false x.Hi y.Hi false x.Name y.Name false x.L (x.L.length : Int) y.L (y.L.length : Int) false x.Op x.S x.L x.Lo x.Hi x.Name y.Op y.S y.L y.Lo y.Hi y.Name c6 hn2 x.L.length K 0 (by omega) (by omega) hn1
        rw [show ((0 : Nat) : Int) = 0 from rfl] at hl2
        refine hl2.trans ?_
        rw [List.drop_zero, List.drop_zero, w64s (n := i) (by omega), hr]
        by_cases c7 : x.L = y.L
        ·have : x = y := by
          obtain ⟨q1, q2, q3, q4, q5, q6⟩ := x
          obtain ⟨r1, r2, r3, r4, r5, r6⟩ := y
          simp only at c1 c2 c3 c4 c5 c7
          subst c1 c2 c3 c4 c5 c7
          rfl
         rw [if_pos c7]
         simp only [this, List.cons.injEq, true_and]
        ·rw [if_neg c7]
         exact hno (fun h => c7 (by rw [h]))
       ·rw [show ((x.L.length : Int) != (y.L.length : Int)) = true by simp; omega, cT]
        exact hno (fun h => c6 (by rw [h]))
      ·rw [decide_eq_false c5]
       exact hno (fun h => c5 (by rw [h]))
     ·rw [show (x.Hi != y.Hi) = true by simpa using c4, cT]
      exact hno (fun h => c4 (by rw [h]))
    ·rw [show (x.Lo != y.Lo) = true by simpa using c3, cT]
     exact hno (fun h => c3 (by rw [h]))
   ·rw [decide_eq_false c2]
    exact hno (fun h => c2 (by rw [h]))
  ·rw [show (x.Op != y.Op) = true by simpa using c1, cT]
   exact hno (fun h => c1 (by rw [h]))
theorem Same_ok (K : Nat) (a b : List aNd) (ha : a.length < K ∧ a.length ≤ 9223372036854775807) (hn : ∀ n ∈ a, n.L.length < K ∧ n.L.length ≤ 9223372036854775807) : r4_Same K a b = some (decide (a = b)) := by
 rw [r4_Same]
 by_cases h : a.length = b.length
 ·rw [show ((a.length : Int) != (b.length : Int)) = false by simp; omega, cF]
  have := Same_l0 K a b h ha.2 hn a.length K 0 (by omega) (by omega) ha.1
  simpa using this
 ·rw [show ((a.length : Int) != (b.length : Int)) = true by simp; omega, cT, decide_eq_false (fun he => h (by rw [he]))]
end Go.Rv

/- Places, plainly, 7: the law PlaceOrder. -/
import Derived.Test.YtnedpcjnhkmikaaRpP6
namespace Go.Rv

theorem Order_j0 (x : List Int) (hx : isB x) (hl : x.length ≤ 200) (i k : Nat) (hi : i ≤ x.length) (hk : k ≤ x.length) (less : Bool) (hless : less = decide (i < k)) :
    raddlelaw19_PlaceOrder_j0 1000 true x (i : Int) (k : Int) true true less (pl x i).Line (pl x i).Col (pl x k).Line (pl x k).Col = some true := by
  have hr := nxs_range ⟨1, 1⟩ (by simp) (by simp) (x.take i)
  rw [pl_nxs x (by omega) i hi] at hr
  have a1 := At_spec 1000 x hx (by omega) (by omega) (pl x i) hr.1.2 hr.2.2
  have e : (⟨(pl x i).Line, (pl x i).Col⟩ : api_Place) = pl x i := rfl
  have o1 := Of_out 1000 x (-1) (.inl (by omega))
  have hw : IntKind.i64.wrap ((x.length : Int) + 1) = (x.length : Int) + 1 := w64 (by omega) (by omega)
  have o2 := Of_out 1000 x ((x.length : Int) + 1) (.inr (by omega))
  have hq : ((pl x i == pl x k) == ((i : Int) == (k : Int))) = true := by
    by_cases h : i = k
    · subst h; simp
    · have h1 : (pl x i == pl x k) = false := by
        apply beq_false_of_ne
        intro he
        exact h (pl_inj x i k hi hk he)
      have h2 : ((i : Int) == (k : Int)) = false := by
        apply beq_false_of_ne
        omega
      rw [h1, h2]; rfl
  have hq2 : (less == decide ((i : Int) < (k : Int))) = true := by
    rw [hless, beq_iff_eq, Bool.eq_iff_iff]
    simp
  rw [raddlelaw19_PlaceOrder_j0]
  simp only [e, a1, byteAt_some x (pl x i) i hi rfl, Option.bind_some, o1, hw, o2, cond_true, hq2, same_place, hq, beq_self_eq_true, Bool.not_false]
theorem Order_plain (w : List Int) (hw : isB w) (a b : Nat) (ha : a < 256) (hb : b < 256) : raddlelaw19_PlaceOrder 1000 w (a : Int) (b : Int) = some true := by
  obtain ⟨x, f1, l1, e1⟩ := few_spec 1000 w
  have hx : isB x := by rw [e1]; exact isB_take hw _
  have hwl : IntKind.i64.wrap ((x.length : Int) + 1) = ((x.length + 1 : Nat) : Int) := by rw [w64 (by omega) (by omega)]; omega
  have hm : ∀ c : Nat, c < 256 → Int.tmod (IntKind.i64.wrap (c : Int)) ((x.length + 1 : Nat) : Int) = ((c % (x.length + 1) : Nat) : Int) := fun c hc => by
    rw [w64 (by omega) (by omega)]
    exact (Int.ofNat_tmod c (x.length + 1)).symm
  have hi : a % (x.length + 1) ≤ x.length := by have := Nat.mod_lt a (show 0 < x.length + 1 by omega); omega
  have hk : b % (x.length + 1) ≤ x.length := by have := Nat.mod_lt b (show 0 < x.length + 1 by omega); omega
  have o1 := Of_spec 1000 x hx (by omega) (by omega) _ hi
  have o2 := Of_spec 1000 x hx (by omega) (by omega) _ hk
  have hne : IntKind.i64.wrap ((x.length : Int) + 1) ≠ 0 := by rw [hwl]; omega
  rw [raddlelaw19_PlaceOrder, shown_true, Option.bind_some, f1, Option.bind_some, ck_pos hne, hwl, hm a ha, hm b hb]
  generalize a % (x.length + 1) = i at *
  generalize b % (x.length + 1) = k at *
  rw [o1, Option.bind_some, o2, Option.bind_some]
  have key : ∀ less, less = decide (i < k) → _ := fun less h => Order_j0 x hx l1 i k hi hk less h
  simp only
  have ord : (i < k → ((pl x i).Line < (pl x k).Line ∨ ((pl x i).Line = (pl x k).Line ∧ (pl x i).Col < (pl x k).Col))) ∧ (k < i → ((pl x k).Line < (pl x i).Line ∨ ((pl x k).Line = (pl x i).Line ∧ (pl x k).Col < (pl x i).Col))) := by
    constructor
    · intro h
      have := pl_less x (k - i - 1) i (by omega)
      rwa [show i + (k - i - 1) + 1 = k by omega] at this
    · intro h
      have := pl_less x (i - k - 1) k (by omega)
      rwa [show k + (i - k - 1) + 1 = i by omega] at this
  by_cases h1 : (pl x i).Line < (pl x k).Line
  · have hd : (decide ((pl x i).Line < (pl x k).Line)) = true := by simpa using h1
    simp only [hd, cond_true]
    exact key true (by
      rw [eq_comm, decide_eq_true_eq]
      rcases Nat.lt_trichotomy i k with h | h | h
      · exact h
      · subst h; omega
      · have := ord.2 h; omega)
  · have hd : (decide ((pl x i).Line < (pl x k).Line)) = false := by simpa using h1
    by_cases h2 : (pl x i).Line = (pl x k).Line
    · have hd2 : ((pl x i).Line == (pl x k).Line) = true := by simpa using h2
      simp only [hd, hd2, cond_false, cond_true]
      refine key _ ?_
      rw [Bool.eq_iff_iff, decide_eq_true_eq, decide_eq_true_eq]
      constructor
      · intro h3
        rcases Nat.lt_trichotomy i k with h | h | h
        · exact h
        · subst h; omega
        · have := ord.2 h; omega
      · intro h
        have := ord.1 h
        omega
    · have hd2 : ((pl x i).Line == (pl x k).Line) = false := by simpa using h2
      simp only [hd, hd2, cond_false]
      refine key false ?_
      rw [eq_comm, decide_eq_false_iff_not]
      intro h
      have := ord.1 h
      omega
end Go.Rv

/- Sets of bytes, plainly, 5: the laws BsetLaws and BsetSizes. -/
import Derived.Test.YtjgldamcldbbfaaDoorRpB4
namespace Go.Rv

theorem st_zero : (Arr4.mk 0 0 0 0) = st (fun _ => false) := st_none
theorem Laws_plain (p q r : Nat → Bool) (x : Nat) (hx : x < 256) : raddlelaw01_BsetLaws 1000 (st p) (st q) (st r) (x : Int) = some true := by
  have hR := Range_spec 1000 0 255 (by omega) (by omega) (by omega)
  rw [show ((0 : Nat) : Int) = 0 from rfl, show ((255 : Nat) : Int) = 255 from rfl] at hR
  have O := fun p q => Or2 1000 (by omega) p q
  have O3 : ∀ a b c : Nat → Bool, bset_Or 1000 [st a, st b, st c] = some (st (fun x => [a, b, c].any (fun q => q x))) := fun a b c => Or_spec 1000 (by omega) [a, b, c] (by simp) (by simp)
  have A := fun p q => And2 1000 (by omega) p q
  have N := fun p => Not_spec 1000 (by omega) p
  have H := fun p => Has_spec 1000 p x hx
  have s1 : (st (fun c => !(p c || q c))).same (st (fun c => !p c && !q c)) = true := (same_st _ _).2 (fun b _ => by cases p b <;> cases q b <;> rfl)
  have s2 : (st (fun c => p c || !p c)).same (st (fun c => decide (0 ≤ c) && decide (c ≤ 255))) = true := (same_st _ _).2 (fun b hb => by
    have : decide (b ≤ 255) = true := by simp; omega
    cases p b <;> simp [this])
  have s3 : (st (fun c => p c && !p c)).same (Arr4.mk 0 0 0 0) = true := by
    rw [st_zero]; exact (same_st _ _).2 (fun b hb => by cases p b <;> rfl)
  have s4 : (st (fun c => !!p c)).same (st p) = true := (same_st _ _).2 (fun b hb => by simp)
  have s5 : (st (fun c => p c && (q c || r c))).same (st (fun c => (p c && q c) || (p c && r c))) = true := (same_st _ _).2 (fun b hb => by cases p b <;> cases q b <;> cases r b <;> rfl)
  have s6 : (st (fun x => [p, q, r].any (fun q => q x))).same (st (fun x => [r, p, q].any (fun q => q x))) = true := (same_st _ _).2 (fun b hb => by simp only [List.any_cons, List.any_nil]; cases p b <;> cases q b <;> cases r b <;> rfl)
  rw [raddlelaw01_BsetLaws, shown_true]
  simp only [Option.bind_some, hR, O, O3, A, N, H, s1, s2, s3, s4, s5, s6, Bool.not_true, cond_false, cond_true]
  cases p x <;> cases q x <;> rfl

theorem count_or_and (p q : Nat → Bool) (l : List Nat) : (l.filter (fun c => p c || q c)).length + (l.filter (fun c => p c && q c)).length = (l.filter p).length + (l.filter q).length := by
  induction l with
  | nil => rfl
  | cons a l ih =>
    simp only [List.filter_cons]
    cases p a <;> cases q a <;> simp <;> omega
theorem count_not (p : Nat → Bool) (l : List Nat) : (l.filter p).length + (l.filter (fun c => !p c)).length = l.length := by
  induction l with
  | nil => rfl
  | cons a l ih =>
    simp only [List.filter_cons]
    cases p a <;> simp <;> omega
theorem count_range (lo hi : Nat) : ∀ n, ((List.range n).filter (fun c => decide (lo ≤ c) && decide (c ≤ hi))).length = min n (hi + 1) - lo := by
  intro n
  induction n with
  | zero => simp
  | succ n ih =>
    rw [List.range_succ, List.filter_append, List.length_append, ih]
    by_cases h : lo ≤ n ∧ n ≤ hi
    · have : (decide (lo ≤ n) && decide (n ≤ hi)) = true := by simp [h]
      simp [List.filter_cons, this]; omega
    · have : (decide (lo ≤ n) && decide (n ≤ hi)) = false := by
        simp only [Bool.and_eq_false_iff, decide_eq_false_iff_not]; omega
      simp [List.filter_cons, this]; omega
theorem Sizes1 (p : Nat → Bool) : raddlelaw01_BsetSizes_1 1000 (st p) = some ((els p).length : Int) := by
  rw [raddlelaw01_BsetSizes_1, List_spec 1000 (by omega), Option.bind_some, nn_len]
theorem Sizes_plain (p q : Nat → Bool) (lo hi : Nat) (hl : lo < 256) (hh : hi < 256) : raddlelaw01_BsetSizes 1000 (st p) (st q) (lo : Int) (hi : Int) = some true := by
  have hR := Range_spec 1000 lo hi hl hh (by omega)
  have O := fun p q => Or2 1000 (by omega) p q
  have A := fun p q => And2 1000 (by omega) p q
  have N := fun p => Not_spec 1000 (by omega) p
  have l1 := els_len (fun c => p c || q c)
  have l2 := els_len (fun c => p c && q c)
  have l3 := els_len p
  have l4 := els_len q
  have l5 := els_len (fun c => !p c)
  have e1 := count_or_and p q (List.range 256)
  have e2 := count_not p (List.range 256)
  have e3 := count_range lo hi 256
  rw [List.length_range] at e2
  have w1 : IntKind.i64.wrap (((els (fun c => p c || q c)).length : Int) + ((els (fun c => p c && q c)).length : Int)) = IntKind.i64.wrap (((els p).length : Int) + ((els q).length : Int)) := by
    congr 1
    simp only [els]
    omega
  have w2 : IntKind.i64.wrap (((els p).length : Int) + ((els (fun c => !p c)).length : Int)) = 256 := by
    rw [w64 (by omega) (by omega)]
    simp only [els]
    omega
  have w3 : IntKind.i64.wrap (IntKind.i64.wrap (IntKind.i64.wrap (hi : Int) - IntKind.i64.wrap (lo : Int)) + 1) = (hi : Int) - lo + 1 := by
    rw [w64 (n := (hi : Int)) (by omega) (by omega), w64 (n := (lo : Int)) (by omega) (by omega), w64 (n := (hi : Int) - lo) (by omega) (by omega), w64 (by omega) (by omega)]
  rw [raddlelaw01_BsetSizes, shown_true]
  simp only [Option.bind_some, hR, O, A, N, Sizes1, cond_true, w1, w2, w3, beq_self_eq_true]
  refine congrArg some ?_
  have : (els (fun c => decide (lo ≤ c) && decide (c ≤ hi))).length = min 256 (hi + 1) - lo := e3
  rw [this, beq_iff_eq]
  split <;> omega
end Go.Rv

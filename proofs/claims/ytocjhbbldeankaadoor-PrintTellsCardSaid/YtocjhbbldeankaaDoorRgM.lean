/- With more fuel each plain function answers the same: printed by a program of ours. -/
import Derived.Test.YtocjhbbldeankaaDoorRgP
import Derived.Test.YtocjhbbldeankaaDoorRvZ
namespace Go.Rv
set_option linter.unusedVariables false
theorem r4r_ends_le {K K' : Nat} (hK : K ≤ K') (x0 : r4r) : Le (r4r_ends K x0) (r4r_ends K' x0) := by
  unfold r4r_ends
  repeat (first | with_reducible exact Le.refl _ | refine Le.bif ?_ ?_ | refine Le.bind ?_ (fun _ => ?_))
theorem r4r_put_le {K K' : Nat} (hK : K ≤ K') (x0 : r4r) (x1 : aNd) : Le (r4r_put K x0 x1) (r4r_put K' x0 x1) := by
  unfold r4r_put
  repeat (first | with_reducible exact Le.refl _ | refine Le.bif ?_ ?_ | refine Le.bind ?_ (fun _ => ?_))
theorem r4_digit_le {K K' : Nat} (hK : K ≤ K') (x0 : Int) : Le (r4_digit K x0) (r4_digit K' x0) := by
  unfold r4_digit
  repeat (first | with_reducible exact Le.refl _ | refine Le.bif ?_ ?_ | refine Le.bind ?_ (fun _ => ?_))
theorem r4_special_le {K K' : Nat} (hK : K ≤ K') : Le (r4_special K ) (r4_special K' ) := by
  unfold r4_special
  repeat (first | with_reducible exact Le.refl _ | refine Le.bif ?_ ?_ | refine Le.bind ?_ (fun _ => ?_))
theorem r4_in_l0_le {K K' : Nat} (hK : K ≤ K') : ∀ {k k' : Nat} (hk : k ≤ k') (x0 : Int) (x1 : ByteArray) (x5_0_2 : Int), Le (r4_in_l0 K k x0 x1 x5_0_2) (r4_in_l0 K' k' x0 x1 x5_0_2) := by
  intro k
  induction k with
  | zero => intro k' hk x0 x1 x5_0_2 r h; cases (show (none : Option Bool) = some r from h)
  | succ k ih =>
    intro k' hk x0 x1 x5_0_2
    obtain ⟨k', rfl⟩ : ∃ j, k' = j + 1 := ⟨k' - 1, by omega⟩
    rw [r4_in_l0, r4_in_l0]
    repeat (first | with_reducible exact ih (by omega) _ _ _ | with_reducible exact Le.refl _ | refine Le.bif ?_ ?_ | refine Le.bind ?_ (fun _ => ?_))
theorem r4_in_le {K K' : Nat} (hK : K ≤ K') (x0 : Int) (x1 : ByteArray) : Le (r4_in K x0 x1) (r4_in K' x0 x1) := by
  unfold r4_in
  repeat (first | with_reducible exact r4_in_l0_le hK hK _ _ _ | with_reducible exact Le.refl _ | refine Le.bif ?_ ?_ | refine Le.bind ?_ (fun _ => ?_))
theorem r4r_fail_le {K K' : Nat} (hK : K ≤ K') (x0 : r4r) (x1 : Int) (x2 : Int) : Le (r4r_fail K x0 x1 x2) (r4r_fail K' x0 x1 x2) := by
  unfold r4r_fail
  repeat (first | with_reducible exact Le.refl _ | refine Le.bif ?_ ?_ | refine Le.bind ?_ (fun _ => ?_))
theorem r4r_one_j0_le {K K' : Nat} (hK : K ≤ K') (x5_0_0 : Int) (y9000_0_1 : ByteArray) (y9000_0_2 : Int) (y9000_0_4 : Int) (y9000_0_5 : Int) (y9000_0_6 : Int) (y9000_0_3 : List aNd) : Le (r4r_one_j0 K x5_0_0 y9000_0_1 y9000_0_2 y9000_0_4 y9000_0_5 y9000_0_6 y9000_0_3) (r4r_one_j0 K' x5_0_0 y9000_0_1 y9000_0_2 y9000_0_4 y9000_0_5 y9000_0_6 y9000_0_3) := by
  unfold r4r_one_j0
  repeat (first | with_reducible exact Le.refl _ | refine Le.bif ?_ ?_ | refine Le.bind ?_ (fun _ => ?_))
theorem r4r_one_le {K K' : Nat} (hK : K ≤ K') (x0 : r4r) : Le (r4r_one K x0) (r4r_one K' x0) := by
  unfold r4r_one
  repeat (first | with_reducible exact r4r_ends_le hK _ | with_reducible exact r4r_fail_le hK _ _ _ | with_reducible exact r4_special_le hK | with_reducible exact r4_in_le hK _ _ | with_reducible exact r4r_one_j0_le hK _ _ _ _ _ _ _ | with_reducible exact Le.refl _ | refine Le.bif ?_ ?_ | refine Le.bind ?_ (fun _ => ?_))
theorem r1_Has_le {K K' : Nat} (hK : K ≤ K') (x0 : Arr4) (x1 : Int) : Le (r1_Has K x0 x1) (r1_Has K' x0 x1) := by
  unfold r1_Has
  repeat (first | with_reducible exact Le.refl _ | refine Le.bif ?_ ?_ | refine Le.bind ?_ (fun _ => ?_))
theorem r1_with_le {K K' : Nat} (hK : K ≤ K') (x0 : Arr4) (x1 : Int) : Le (r1_with K x0 x1) (r1_with K' x0 x1) := by
  unfold r1_with
  repeat (first | with_reducible exact r1_Has_le hK _ _ | with_reducible exact Le.refl _ | refine Le.bif ?_ ?_ | refine Le.bind ?_ (fun _ => ?_))
theorem r1_Of_l0_le {K K' : Nat} (hK : K ≤ K') : ∀ {k k' : Nat} (hk : k ≤ k') (x0 : List Int) (x4_0_3 : Int) (y2_0_1 : Arr4) (y3_0_2 : Arr4), Le (r1_Of_l0 K k x0 x4_0_3 y2_0_1 y3_0_2) (r1_Of_l0 K' k' x0 x4_0_3 y2_0_1 y3_0_2) := by
  intro k
  induction k with
  | zero => intro k' hk x0 x4_0_3 y2_0_1 y3_0_2 r h; cases (show (none : Option Arr4) = some r from h)
  | succ k ih =>
    intro k' hk x0 x4_0_3 y2_0_1 y3_0_2
    obtain ⟨k', rfl⟩ : ∃ j, k' = j + 1 := ⟨k' - 1, by omega⟩
    rw [r1_Of_l0, r1_Of_l0]
    repeat (first | with_reducible exact r1_with_le hK _ _ | with_reducible exact ih (by omega) _ _ _ _ | with_reducible exact Le.refl _ | refine Le.bif ?_ ?_ | refine Le.bind ?_ (fun _ => ?_))
theorem r1_Of_le {K K' : Nat} (hK : K ≤ K') (x0 : List Int) : Le (r1_Of K x0) (r1_Of K' x0) := by
  unfold r1_Of
  repeat (first | with_reducible exact r1_Of_l0_le hK hK _ _ _ _ | with_reducible exact Le.refl _ | refine Le.bif ?_ ?_ | refine Le.bind ?_ (fun _ => ?_))
theorem r1_Not_l0_le {K K' : Nat} (hK : K ≤ K') : ∀ {k k' : Nat} (hk : k ≤ k') (x4_0_3 : Int) (x0 : Arr4) (y2_0_1 : Arr4) (y3_0_2 : Arr4), Le (r1_Not_l0 K k x4_0_3 x0 y2_0_1 y3_0_2) (r1_Not_l0 K' k' x4_0_3 x0 y2_0_1 y3_0_2) := by
  intro k
  induction k with
  | zero => intro k' hk x4_0_3 x0 y2_0_1 y3_0_2 r h; cases (show (none : Option Arr4) = some r from h)
  | succ k ih =>
    intro k' hk x4_0_3 x0 y2_0_1 y3_0_2
    obtain ⟨k', rfl⟩ : ∃ j, k' = j + 1 := ⟨k' - 1, by omega⟩
    rw [r1_Not_l0, r1_Not_l0]
    repeat (first | with_reducible exact r1_Has_le hK _ _ | with_reducible exact r1_with_le hK _ _ | with_reducible exact ih (by omega) _ _ _ _ | with_reducible exact Le.refl _ | refine Le.bif ?_ ?_ | refine Le.bind ?_ (fun _ => ?_))
theorem r1_Not_le {K K' : Nat} (hK : K ≤ K') (x0 : Arr4) : Le (r1_Not K x0) (r1_Not K' x0) := by
  unfold r1_Not
  repeat (first | with_reducible exact r1_Not_l0_le hK hK _ _ _ _ | with_reducible exact Le.refl _ | refine Le.bif ?_ ?_ | refine Le.bind ?_ (fun _ => ?_))
theorem r4r_group_le {K K' : Nat} (hK : K ≤ K') {rec_r4r_alternative rec_r4r_alternative' : r4r → Option (Int × r4r)} (hrec_r4r_alternative : ∀ (x0 : r4r), Le (rec_r4r_alternative x0) (rec_r4r_alternative' x0)) (x0 : r4r) : Le (r4r_group K rec_r4r_alternative x0) (r4r_group K' rec_r4r_alternative' x0) := by
  unfold r4r_group
  repeat (first | with_reducible exact r4r_fail_le hK _ _ _ | with_reducible exact hrec_r4r_alternative _ | with_reducible exact r4r_ends_le hK _ | with_reducible exact Le.refl _ | refine Le.bif ?_ ?_ | refine Le.bind ?_ (fun _ => ?_))
theorem r4r_atom_j0_le {K K' : Nat} (hK : K ≤ K') {rec_r4r_alternative rec_r4r_alternative' : r4r → Option (Int × r4r)} (hrec_r4r_alternative : ∀ (x0 : r4r), Le (rec_r4r_alternative x0) (rec_r4r_alternative' x0)) (x0 : r4r) : Le (r4r_atom_j0 K rec_r4r_alternative x0) (r4r_atom_j0 K' rec_r4r_alternative' x0) := by
  unfold r4r_atom_j0
  repeat (first | with_reducible exact Le.refl _ | refine Le.bif ?_ ?_ | refine Le.bind ?_ (fun _ => ?_))
theorem r4r_atom_j2_le {K K' : Nat} (hK : K ≤ K') {rec_r4r_alternative rec_r4r_alternative' : r4r → Option (Int × r4r)} (hrec_r4r_alternative : ∀ (x0 : r4r), Le (rec_r4r_alternative x0) (rec_r4r_alternative' x0)) (x0 : r4r) : Le (r4r_atom_j2 K rec_r4r_alternative x0) (r4r_atom_j2 K' rec_r4r_alternative' x0) := by
  unfold r4r_atom_j2
  repeat (first | with_reducible exact r4r_fail_le hK _ _ _ | with_reducible exact Le.refl _ | refine Le.bif ?_ ?_ | refine Le.bind ?_ (fun _ => ?_))
theorem r4r_atom_j3_le {K K' : Nat} (hK : K ≤ K') {rec_r4r_alternative rec_r4r_alternative' : r4r → Option (Int × r4r)} (hrec_r4r_alternative : ∀ (x0 : r4r), Le (rec_r4r_alternative x0) (rec_r4r_alternative' x0)) (x0 : r4r) : Le (r4r_atom_j3 K rec_r4r_alternative x0) (r4r_atom_j3 K' rec_r4r_alternative' x0) := by
  unfold r4r_atom_j3
  repeat (first | with_reducible exact r4r_one_le hK _ | with_reducible exact r1_Of_le hK _ | with_reducible exact r4r_put_le hK _ _ | with_reducible exact Le.refl _ | refine Le.bif ?_ ?_ | refine Le.bind ?_ (fun _ => ?_))
theorem r4r_atom_j1_le {K K' : Nat} (hK : K ≤ K') {rec_r4r_alternative rec_r4r_alternative' : r4r → Option (Int × r4r)} (hrec_r4r_alternative : ∀ (x0 : r4r), Le (rec_r4r_alternative x0) (rec_r4r_alternative' x0)) (x3_1_6 : Int) (x0 : r4r) : Le (r4r_atom_j1 K rec_r4r_alternative x3_1_6 x0) (r4r_atom_j1 K' rec_r4r_alternative' x3_1_6 x0) := by
  unfold r4r_atom_j1
  repeat (first | with_reducible exact r4r_atom_j2_le hK hrec_r4r_alternative _ | with_reducible exact r4_special_le hK | with_reducible exact r4_in_le hK _ _ | with_reducible exact r4r_fail_le hK _ _ _ | with_reducible exact r4r_atom_j3_le hK hrec_r4r_alternative _ | with_reducible exact Le.refl _ | refine Le.bif ?_ ?_ | refine Le.bind ?_ (fun _ => ?_))
theorem r4r_atom_le {K K' : Nat} (hK : K ≤ K') {rec_r4r_alternative rec_r4r_alternative' : r4r → Option (Int × r4r)} (hrec_r4r_alternative : ∀ (x0 : r4r), Le (rec_r4r_alternative x0) (rec_r4r_alternative' x0)) (x0 : r4r) : Le (r4r_atom K rec_r4r_alternative x0) (r4r_atom K' rec_r4r_alternative' x0) := by
  unfold r4r_atom
  repeat (first | with_reducible exact r4r_group_le hK hrec_r4r_alternative _ | with_reducible exact r1_Of_le hK _ | with_reducible exact r1_Not_le hK _ | with_reducible exact r4r_put_le hK _ _ | with_reducible exact r4r_atom_j0_le hK hrec_r4r_alternative _ | with_reducible exact r4_digit_le hK _ | with_reducible exact r4r_atom_j1_le hK hrec_r4r_alternative _ _ | with_reducible exact Le.refl _ | refine Le.bif ?_ ?_ | refine Le.bind ?_ (fun _ => ?_))
theorem r4r_number_j2_le {K K' : Nat} (hK : K ≤ K') (y9000_2_0 : ByteArray) (y9000_2_1 : Int) (y9000_2_3 : Int) (y9000_2_4 : Int) (y9000_2_5 : Int) (y9000_2_2 : List aNd) : Le (r4r_number_j2 K y9000_2_0 y9000_2_1 y9000_2_3 y9000_2_4 y9000_2_5 y9000_2_2) (r4r_number_j2 K' y9000_2_0 y9000_2_1 y9000_2_3 y9000_2_4 y9000_2_5 y9000_2_2) := by
  unfold r4r_number_j2
  repeat (first | with_reducible exact Le.refl _ | refine Le.bif ?_ ?_ | refine Le.bind ?_ (fun _ => ?_))
theorem r4r_number_j1_le {K K' : Nat} (hK : K ≤ K') (x3_1_6 : Int) (x0 : r4r) (y0_1_0 : ByteArray) (y0_1_1 : Int) (y0_1_3 : Int) (y0_1_4 : Int) (y0_1_5 : Int) (y0_1_2 : List aNd) : Le (r4r_number_j1 K x3_1_6 x0 y0_1_0 y0_1_1 y0_1_3 y0_1_4 y0_1_5 y0_1_2) (r4r_number_j1 K' x3_1_6 x0 y0_1_0 y0_1_1 y0_1_3 y0_1_4 y0_1_5 y0_1_2) := by
  unfold r4r_number_j1
  repeat (first | with_reducible exact r4r_number_j2_le hK _ _ _ _ _ _ | with_reducible exact Le.refl _ | refine Le.bif ?_ ?_ | refine Le.bind ?_ (fun _ => ?_))
theorem r4r_number_l0_le {K K' : Nat} (hK : K ≤ K') : ∀ {k k' : Nat} (hk : k ≤ k') (x3_0_6 : Int) (x0 : r4r) (y0_0_0 : ByteArray) (y0_0_1 : Int) (y0_0_3 : Int) (y0_0_4 : Int) (y0_0_5 : Int) (y0_0_2 : List aNd), Le (r4r_number_l0 K k x3_0_6 x0 y0_0_0 y0_0_1 y0_0_3 y0_0_4 y0_0_5 y0_0_2) (r4r_number_l0 K' k' x3_0_6 x0 y0_0_0 y0_0_1 y0_0_3 y0_0_4 y0_0_5 y0_0_2) := by
  intro k
  induction k with
  | zero => intro k' hk x3_0_6 x0 y0_0_0 y0_0_1 y0_0_3 y0_0_4 y0_0_5 y0_0_2 r h; cases (show (none : Option (Int × r4r)) = some r from h)
  | succ k ih =>
    intro k' hk x3_0_6 x0 y0_0_0 y0_0_1 y0_0_3 y0_0_4 y0_0_5 y0_0_2
    obtain ⟨k', rfl⟩ : ∃ j, k' = j + 1 := ⟨k' - 1, by omega⟩
    rw [r4r_number_l0, r4r_number_l0]
    repeat (first | with_reducible exact r4r_ends_le hK _ | with_reducible exact r4_digit_le hK _ | with_reducible exact ih (by omega) _ _ _ _ _ _ _ _ | with_reducible exact r4r_number_j1_le hK _ _ _ _ _ _ _ _ | with_reducible exact Le.refl _ | refine Le.bif ?_ ?_ | refine Le.bind ?_ (fun _ => ?_))
theorem r4r_number_le {K K' : Nat} (hK : K ≤ K') (x0 : r4r) : Le (r4r_number K x0) (r4r_number K' x0) := by
  unfold r4r_number
  repeat (first | with_reducible exact r4r_number_l0_le hK hK _ _ _ _ _ _ _ _ | with_reducible exact Le.refl _ | refine Le.bif ?_ ?_ | refine Le.bind ?_ (fun _ => ?_))
theorem r4r_bounds_j5_le {K K' : Nat} (hK : K ≤ K') (x5_0_7 : Int) (x6_0_8 : Int) (y9000_5_2 : ByteArray) (y9000_5_3 : Int) (y9000_5_5 : Int) (y9000_5_6 : Int) (y9000_5_7 : Int) (y9000_5_4 : List aNd) : Le (r4r_bounds_j5 K x5_0_7 x6_0_8 y9000_5_2 y9000_5_3 y9000_5_5 y9000_5_6 y9000_5_7 y9000_5_4) (r4r_bounds_j5 K' x5_0_7 x6_0_8 y9000_5_2 y9000_5_3 y9000_5_5 y9000_5_6 y9000_5_7 y9000_5_4) := by
  unfold r4r_bounds_j5
  repeat (first | with_reducible exact Le.refl _ | refine Le.bif ?_ ?_ | refine Le.bind ?_ (fun _ => ?_))
theorem r4r_bounds_j3_le {K K' : Nat} (hK : K ≤ K') (x0 : r4r) (x5_0_7 : Int) (x6_0_8 : Int) (y0_3_0 : ByteArray) (y0_3_1 : Int) (y0_3_3 : Int) (y0_3_4 : Int) (y0_3_5 : Int) (y0_3_2 : List aNd) : Le (r4r_bounds_j3 K x0 x5_0_7 x6_0_8 y0_3_0 y0_3_1 y0_3_3 y0_3_4 y0_3_5 y0_3_2) (r4r_bounds_j3 K' x0 x5_0_7 x6_0_8 y0_3_0 y0_3_1 y0_3_3 y0_3_4 y0_3_5 y0_3_2) := by
  unfold r4r_bounds_j3
  repeat (first | with_reducible exact r4r_fail_le hK _ _ _ | with_reducible exact r4r_bounds_j5_le hK _ _ _ _ _ _ _ _ | with_reducible exact Le.refl _ | refine Le.bif ?_ ?_ | refine Le.bind ?_ (fun _ => ?_))
theorem r4r_bounds_j4_le {K K' : Nat} (hK : K ≤ K') (x5_0_7 : Int) (x6_0_8 : Int) (y9000_4_2 : ByteArray) (y9000_4_3 : Int) (y9000_4_5 : Int) (y9000_4_6 : Int) (y9000_4_7 : Int) (y9000_4_4 : List aNd) : Le (r4r_bounds_j4 K x5_0_7 x6_0_8 y9000_4_2 y9000_4_3 y9000_4_5 y9000_4_6 y9000_4_7 y9000_4_4) (r4r_bounds_j4 K' x5_0_7 x6_0_8 y9000_4_2 y9000_4_3 y9000_4_5 y9000_4_6 y9000_4_7 y9000_4_4) := by
  unfold r4r_bounds_j4
  repeat (first | with_reducible exact r4r_bounds_j5_le hK _ _ _ _ _ _ _ _ | with_reducible exact Le.refl _ | refine Le.bif ?_ ?_ | refine Le.bind ?_ (fun _ => ?_))
theorem r4r_bounds_j0_le {K K' : Nat} (hK : K ≤ K') (x0 : r4r) (x5_0_7 : Int) (x6_0_8 : Int) (y0_0_0 : ByteArray) (y0_0_1 : Int) (y0_0_3 : Int) (y0_0_4 : Int) (y0_0_5 : Int) (y0_0_2 : List aNd) : Le (r4r_bounds_j0 K x0 x5_0_7 x6_0_8 y0_0_0 y0_0_1 y0_0_3 y0_0_4 y0_0_5 y0_0_2) (r4r_bounds_j0 K' x0 x5_0_7 x6_0_8 y0_0_0 y0_0_1 y0_0_3 y0_0_4 y0_0_5 y0_0_2) := by
  unfold r4r_bounds_j0
  repeat (first | with_reducible exact r4r_ends_le hK _ | with_reducible exact r4r_fail_le hK _ _ _ | with_reducible exact r4r_bounds_j3_le hK _ _ _ _ _ _ _ _ _ | with_reducible exact r4r_bounds_j4_le hK _ _ _ _ _ _ _ _ | with_reducible exact Le.refl _ | refine Le.bif ?_ ?_ | refine Le.bind ?_ (fun _ => ?_))
theorem r4r_bounds_j1_le {K K' : Nat} (hK : K ≤ K') (x0 : r4r) (x5_1_7 : Int) (y0_1_0 : ByteArray) (y0_1_1 : Int) (y0_1_3 : Int) (y0_1_4 : Int) (y0_1_5 : Int) (y0_1_2 : List aNd) : Le (r4r_bounds_j1 K x0 x5_1_7 y0_1_0 y0_1_1 y0_1_3 y0_1_4 y0_1_5 y0_1_2) (r4r_bounds_j1 K' x0 x5_1_7 y0_1_0 y0_1_1 y0_1_3 y0_1_4 y0_1_5 y0_1_2) := by
  unfold r4r_bounds_j1
  repeat (first | with_reducible exact r4r_bounds_j0_le hK _ _ _ _ _ _ _ _ _ | with_reducible exact Le.refl _ | refine Le.bif ?_ ?_ | refine Le.bind ?_ (fun _ => ?_))
theorem r4r_bounds_j2_le {K K' : Nat} (hK : K ≤ K') (x0 : r4r) (x5_2_7 : Int) (x6_2_8 : Int) (y0_2_0 : ByteArray) (y0_2_1 : Int) (y0_2_3 : Int) (y0_2_4 : Int) (y0_2_5 : Int) (y0_2_2 : List aNd) : Le (r4r_bounds_j2 K x0 x5_2_7 x6_2_8 y0_2_0 y0_2_1 y0_2_3 y0_2_4 y0_2_5 y0_2_2) (r4r_bounds_j2 K' x0 x5_2_7 x6_2_8 y0_2_0 y0_2_1 y0_2_3 y0_2_4 y0_2_5 y0_2_2) := by
  unfold r4r_bounds_j2
  repeat (first | with_reducible exact r4r_bounds_j0_le hK _ _ _ _ _ _ _ _ _ | with_reducible exact Le.refl _ | refine Le.bif ?_ ?_ | refine Le.bind ?_ (fun _ => ?_))
theorem r4r_bounds_le {K K' : Nat} (hK : K ≤ K') (x0 : r4r) : Le (r4r_bounds K x0) (r4r_bounds K' x0) := by
  unfold r4r_bounds
  repeat (first | with_reducible exact r4r_number_le hK _ | with_reducible exact r4r_ends_le hK _ | with_reducible exact r4_digit_le hK _ | with_reducible exact r4r_bounds_j0_le hK _ _ _ _ _ _ _ _ _ | with_reducible exact r4r_bounds_j1_le hK _ _ _ _ _ _ _ _ | with_reducible exact r4r_bounds_j2_le hK _ _ _ _ _ _ _ _ _ | with_reducible exact Le.refl _ | refine Le.bif ?_ ?_ | refine Le.bind ?_ (fun _ => ?_))
theorem r4r_item_j1_le {K K' : Nat} (hK : K ≤ K') {rec_r4r_alternative rec_r4r_alternative' : r4r → Option (Int × r4r)} (hrec_r4r_alternative : ∀ (x0 : r4r), Le (rec_r4r_alternative x0) (rec_r4r_alternative' x0)) {go0 go0' : Int → ByteArray → Int → Int → Int → Int → (List aNd) → Option (Int × r4r)} (hgo0 : ∀ (x3_0_6 : Int) (y0_0_0 : ByteArray) (y0_0_1 : Int) (y0_0_3 : Int) (y0_0_4 : Int) (y0_0_5 : Int) (y0_0_2 : List aNd), Le (go0 x3_0_6 y0_0_0 y0_0_1 y0_0_3 y0_0_4 y0_0_5 y0_0_2) (go0' x3_0_6 y0_0_0 y0_0_1 y0_0_3 y0_0_4 y0_0_5 y0_0_2)) (x3_0_6 : Int) (x4_1_7 : Int) (x5_1_8 : Int) (y0_1_0 : ByteArray) (y0_1_1 : Int) (y0_1_3 : Int) (y0_1_4 : Int) (y0_1_5 : Int) (y0_1_2 : List aNd) : Le (r4r_item_j1 K rec_r4r_alternative go0 x3_0_6 x4_1_7 x5_1_8 y0_1_0 y0_1_1 y0_1_3 y0_1_4 y0_1_5 y0_1_2) (r4r_item_j1 K' rec_r4r_alternative' go0' x3_0_6 x4_1_7 x5_1_8 y0_1_0 y0_1_1 y0_1_3 y0_1_4 y0_1_5 y0_1_2) := by
  unfold r4r_item_j1
  repeat (first | with_reducible exact r4r_put_le hK _ _ | with_reducible exact hgo0 _ _ _ _ _ _ _ | with_reducible exact Le.refl _ | refine Le.bif ?_ ?_ | refine Le.bind ?_ (fun _ => ?_))
theorem r4r_item_j2_le {K K' : Nat} (hK : K ≤ K') {rec_r4r_alternative rec_r4r_alternative' : r4r → Option (Int × r4r)} (hrec_r4r_alternative : ∀ (x0 : r4r), Le (rec_r4r_alternative x0) (rec_r4r_alternative' x0)) (x3_0_6 : Int) (y9000_2_1 : ByteArray) (y9000_2_2 : Int) (y9000_2_4 : Int) (y9000_2_5 : Int) (y9000_2_6 : Int) (y9000_2_3 : List aNd) : Le (r4r_item_j2 K rec_r4r_alternative x3_0_6 y9000_2_1 y9000_2_2 y9000_2_4 y9000_2_5 y9000_2_6 y9000_2_3) (r4r_item_j2 K' rec_r4r_alternative' x3_0_6 y9000_2_1 y9000_2_2 y9000_2_4 y9000_2_5 y9000_2_6 y9000_2_3) := by
  unfold r4r_item_j2
  repeat (first | with_reducible exact Le.refl _ | refine Le.bif ?_ ?_ | refine Le.bind ?_ (fun _ => ?_))
theorem r4r_item_l0_le {K K' : Nat} (hK : K ≤ K') {rec_r4r_alternative rec_r4r_alternative' : r4r → Option (Int × r4r)} (hrec_r4r_alternative : ∀ (x0 : r4r), Le (rec_r4r_alternative x0) (rec_r4r_alternative' x0)) : ∀ {k k' : Nat} (hk : k ≤ k') (x3_0_6 : Int) (y0_0_0 : ByteArray) (y0_0_1 : Int) (y0_0_3 : Int) (y0_0_4 : Int) (y0_0_5 : Int) (y0_0_2 : List aNd), Le (r4r_item_l0 K rec_r4r_alternative k x3_0_6 y0_0_0 y0_0_1 y0_0_3 y0_0_4 y0_0_5 y0_0_2) (r4r_item_l0 K' rec_r4r_alternative' k' x3_0_6 y0_0_0 y0_0_1 y0_0_3 y0_0_4 y0_0_5 y0_0_2) := by
  intro k
  induction k with
  | zero => intro k' hk x3_0_6 y0_0_0 y0_0_1 y0_0_3 y0_0_4 y0_0_5 y0_0_2 r h; cases (show (none : Option (Int × r4r)) = some r from h)
  | succ k ih =>
    intro k' hk x3_0_6 y0_0_0 y0_0_1 y0_0_3 y0_0_4 y0_0_5 y0_0_2
    obtain ⟨k', rfl⟩ : ∃ j, k' = j + 1 := ⟨k' - 1, by omega⟩
    rw [r4r_item_l0, r4r_item_l0]
    repeat (first | with_reducible exact r4r_ends_le hK _ | with_reducible exact r4r_item_j1_le hK hrec_r4r_alternative (fun a0 a1 a2 a3 a4 a5 a6 => ih (by omega) a0 a1 a2 a3 a4 a5 a6) _ _ _ _ _ _ _ _ _ | with_reducible exact r4_digit_le hK _ | with_reducible exact r4r_bounds_le hK _ | with_reducible exact r4r_item_j2_le hK hrec_r4r_alternative _ _ _ _ _ _ _ | with_reducible exact Le.refl _ | refine Le.bif ?_ ?_ | refine Le.bind ?_ (fun _ => ?_))
theorem r4r_item_le {K K' : Nat} (hK : K ≤ K') {rec_r4r_alternative rec_r4r_alternative' : r4r → Option (Int × r4r)} (hrec_r4r_alternative : ∀ (x0 : r4r), Le (rec_r4r_alternative x0) (rec_r4r_alternative' x0)) (x0 : r4r) : Le (r4r_item K rec_r4r_alternative x0) (r4r_item K' rec_r4r_alternative' x0) := by
  unfold r4r_item
  repeat (first | with_reducible exact r4r_atom_le hK hrec_r4r_alternative _ | with_reducible exact r4r_item_l0_le hK hrec_r4r_alternative hK _ _ _ _ _ _ _ | with_reducible exact Le.refl _ | refine Le.bif ?_ ?_ | refine Le.bind ?_ (fun _ => ?_))
theorem r4r_row_j1_le {K K' : Nat} (hK : K ≤ K') {rec_r4r_alternative rec_r4r_alternative' : r4r → Option (Int × r4r)} (hrec_r4r_alternative : ∀ (x0 : r4r), Le (rec_r4r_alternative x0) (rec_r4r_alternative' x0)) (y0_1_0 : ByteArray) (y0_1_1 : Int) (y0_1_3 : Int) (y0_1_4 : Int) (y0_1_5 : Int) (y0_1_2 : List aNd) (y3_1_6 : List Int) : Le (r4r_row_j1 K rec_r4r_alternative y0_1_0 y0_1_1 y0_1_3 y0_1_4 y0_1_5 y0_1_2 y3_1_6) (r4r_row_j1 K' rec_r4r_alternative' y0_1_0 y0_1_1 y0_1_3 y0_1_4 y0_1_5 y0_1_2 y3_1_6) := by
  unfold r4r_row_j1
  repeat (first | with_reducible exact r4r_put_le hK _ _ | with_reducible exact Le.refl _ | refine Le.bif ?_ ?_ | refine Le.bind ?_ (fun _ => ?_))
theorem r4r_row_l0_le {K K' : Nat} (hK : K ≤ K') {rec_r4r_alternative rec_r4r_alternative' : r4r → Option (Int × r4r)} (hrec_r4r_alternative : ∀ (x0 : r4r), Le (rec_r4r_alternative x0) (rec_r4r_alternative' x0)) : ∀ {k k' : Nat} (hk : k ≤ k') (y0_0_0 : ByteArray) (y0_0_1 : Int) (y0_0_3 : Int) (y0_0_4 : Int) (y0_0_5 : Int) (y0_0_2 : List aNd) (y3_0_6 : List Int), Le (r4r_row_l0 K rec_r4r_alternative k y0_0_0 y0_0_1 y0_0_3 y0_0_4 y0_0_5 y0_0_2 y3_0_6) (r4r_row_l0 K' rec_r4r_alternative' k' y0_0_0 y0_0_1 y0_0_3 y0_0_4 y0_0_5 y0_0_2 y3_0_6) := by
  intro k
  induction k with
  | zero => intro k' hk y0_0_0 y0_0_1 y0_0_3 y0_0_4 y0_0_5 y0_0_2 y3_0_6 r h; cases (show (none : Option (Int × r4r)) = some r from h)
  | succ k ih =>
    intro k' hk y0_0_0 y0_0_1 y0_0_3 y0_0_4 y0_0_5 y0_0_2 y3_0_6
    obtain ⟨k', rfl⟩ : ∃ j, k' = j + 1 := ⟨k' - 1, by omega⟩
    rw [r4r_row_l0, r4r_row_l0]
    repeat (first | with_reducible exact r4r_ends_le hK _ | with_reducible exact r4r_item_le hK hrec_r4r_alternative _ | with_reducible exact ih (by omega) _ _ _ _ _ _ _ | with_reducible exact r4r_row_j1_le hK hrec_r4r_alternative _ _ _ _ _ _ _ | with_reducible exact Le.refl _ | refine Le.bif ?_ ?_ | refine Le.bind ?_ (fun _ => ?_))
theorem r4r_row_le {K K' : Nat} (hK : K ≤ K') {rec_r4r_alternative rec_r4r_alternative' : r4r → Option (Int × r4r)} (hrec_r4r_alternative : ∀ (x0 : r4r), Le (rec_r4r_alternative x0) (rec_r4r_alternative' x0)) (x0 : r4r) : Le (r4r_row K rec_r4r_alternative x0) (r4r_row K' rec_r4r_alternative' x0) := by
  unfold r4r_row
  repeat (first | with_reducible exact r4r_row_l0_le hK hrec_r4r_alternative hK _ _ _ _ _ _ _ | with_reducible exact Le.refl _ | refine Le.bif ?_ ?_ | refine Le.bind ?_ (fun _ => ?_))
theorem r4r_alternative_j2_le {K K' : Nat} (hK : K ≤ K') {rec_r4r_alternative rec_r4r_alternative' : r4r → Option (Int × r4r)} (hrec_r4r_alternative : ∀ (x0 : r4r), Le (rec_r4r_alternative x0) (rec_r4r_alternative' x0)) (y3_2_0 : List Int) (y0_1_0 : ByteArray) (y0_1_1 : Int) (y0_1_3 : Int) (y0_1_4 : Int) (y0_1_5 : Int) (y0_1_2 : List aNd) : Le (r4r_alternative_j2 K rec_r4r_alternative y3_2_0 y0_1_0 y0_1_1 y0_1_3 y0_1_4 y0_1_5 y0_1_2) (r4r_alternative_j2 K' rec_r4r_alternative' y3_2_0 y0_1_0 y0_1_1 y0_1_3 y0_1_4 y0_1_5 y0_1_2) := by
  unfold r4r_alternative_j2
  repeat (first | with_reducible exact Le.refl _ | refine Le.bif ?_ ?_ | refine Le.bind ?_ (fun _ => ?_))
theorem r4r_alternative_j1_le {K K' : Nat} (hK : K ≤ K') {rec_r4r_alternative rec_r4r_alternative' : r4r → Option (Int × r4r)} (hrec_r4r_alternative : ∀ (x0 : r4r), Le (rec_r4r_alternative x0) (rec_r4r_alternative' x0)) (y0_1_0 : ByteArray) (y0_1_1 : Int) (y0_1_3 : Int) (y0_1_4 : Int) (y0_1_5 : Int) (y0_1_2 : List aNd) (y3_1_6 : List Int) : Le (r4r_alternative_j1 K rec_r4r_alternative y0_1_0 y0_1_1 y0_1_3 y0_1_4 y0_1_5 y0_1_2 y3_1_6) (r4r_alternative_j1 K' rec_r4r_alternative' y0_1_0 y0_1_1 y0_1_3 y0_1_4 y0_1_5 y0_1_2 y3_1_6) := by
  unfold r4r_alternative_j1
  repeat (first | with_reducible exact r4r_alternative_j2_le hK hrec_r4r_alternative _ _ _ _ _ _ _ | with_reducible exact r4r_put_le hK _ _ | with_reducible exact Le.refl _ | refine Le.bif ?_ ?_ | refine Le.bind ?_ (fun _ => ?_))
theorem r4r_alternative_l0_le {K K' : Nat} (hK : K ≤ K') {rec_r4r_alternative rec_r4r_alternative' : r4r → Option (Int × r4r)} (hrec_r4r_alternative : ∀ (x0 : r4r), Le (rec_r4r_alternative x0) (rec_r4r_alternative' x0)) : ∀ {k k' : Nat} (hk : k ≤ k') (y0_0_0 : ByteArray) (y0_0_1 : Int) (y0_0_3 : Int) (y0_0_4 : Int) (y0_0_5 : Int) (y0_0_2 : List aNd) (y3_0_6 : List Int), Le (r4r_alternative_l0 K rec_r4r_alternative k y0_0_0 y0_0_1 y0_0_3 y0_0_4 y0_0_5 y0_0_2 y3_0_6) (r4r_alternative_l0 K' rec_r4r_alternative' k' y0_0_0 y0_0_1 y0_0_3 y0_0_4 y0_0_5 y0_0_2 y3_0_6) := by
  intro k
  induction k with
  | zero => intro k' hk y0_0_0 y0_0_1 y0_0_3 y0_0_4 y0_0_5 y0_0_2 y3_0_6 r h; cases (show (none : Option (Int × r4r)) = some r from h)
  | succ k ih =>
    intro k' hk y0_0_0 y0_0_1 y0_0_3 y0_0_4 y0_0_5 y0_0_2 y3_0_6
    obtain ⟨k', rfl⟩ : ∃ j, k' = j + 1 := ⟨k' - 1, by omega⟩
    rw [r4r_alternative_l0, r4r_alternative_l0]
    repeat (first | with_reducible exact r4r_ends_le hK _ | with_reducible exact r4r_row_le hK hrec_r4r_alternative _ | with_reducible exact ih (by omega) _ _ _ _ _ _ _ | with_reducible exact r4r_alternative_j1_le hK hrec_r4r_alternative _ _ _ _ _ _ _ | with_reducible exact Le.refl _ | refine Le.bif ?_ ?_ | refine Le.bind ?_ (fun _ => ?_))
theorem r4r_alternative_b_le {K K' : Nat} (hK : K ≤ K') {rec_r4r_alternative rec_r4r_alternative' : r4r → Option (Int × r4r)} (hrec_r4r_alternative : ∀ (x0 : r4r), Le (rec_r4r_alternative x0) (rec_r4r_alternative' x0)) (x0 : r4r) : Le (r4r_alternative_b K rec_r4r_alternative x0) (r4r_alternative_b K' rec_r4r_alternative' x0) := by
  unfold r4r_alternative_b
  repeat (first | with_reducible exact r4r_row_le hK hrec_r4r_alternative _ | with_reducible exact r4r_alternative_l0_le hK hrec_r4r_alternative hK _ _ _ _ _ _ _ | with_reducible exact Le.refl _ | refine Le.bif ?_ ?_ | refine Le.bind ?_ (fun _ => ?_))
theorem r4r_alternative_r_le {K K' : Nat} (hK : K ≤ K') : ∀ {n n' : Nat} (hn : n ≤ n') (x0 : r4r), Le (r4r_alternative_r K n x0) (r4r_alternative_r K' n' x0) := by
  intro n
  induction n with
  | zero => intro n' hn x0 r h; cases (show (none : Option (Int × r4r)) = some r from h)
  | succ n ih =>
    intro n' hn x0
    obtain ⟨n', rfl⟩ : ∃ j, n' = j + 1 := ⟨n' - 1, by omega⟩
    exact r4r_alternative_b_le hK (fun x0 => ih (by omega) x0) x0
theorem r4r_alternative_le {K K' : Nat} (hK : K ≤ K') (x0 : r4r) : Le (r4r_alternative K x0) (r4r_alternative K' x0) := r4r_alternative_r_le hK hK x0
theorem r4_Parse_j0_le {K K' : Nat} (hK : K ≤ K') (y5_0_0 : ByteArray) (y5_0_1 : Int) (y5_0_3 : Int) (y5_0_4 : Int) (y5_0_5 : Int) (y5_0_2 : List aNd) : Le (r4_Parse_j0 K y5_0_0 y5_0_1 y5_0_3 y5_0_4 y5_0_5 y5_0_2) (r4_Parse_j0 K' y5_0_0 y5_0_1 y5_0_3 y5_0_4 y5_0_5 y5_0_2) := by
  unfold r4_Parse_j0
  repeat (first | with_reducible exact Le.refl _ | refine Le.bif ?_ ?_ | refine Le.bind ?_ (fun _ => ?_))
theorem r4_Parse_le {K K' : Nat} (hK : K ≤ K') (x0 : ByteArray) : Le (r4_Parse K x0) (r4_Parse K' x0) := by
  unfold r4_Parse
  repeat (first | with_reducible exact r4r_alternative_le hK _ | with_reducible exact r4r_ends_le hK _ | with_reducible exact r4r_fail_le hK _ _ _ | with_reducible exact r4_Parse_j0_le hK _ _ _ _ _ _ | with_reducible exact Le.refl _ | refine Le.bif ?_ ?_ | refine Le.bind ?_ (fun _ => ?_))
theorem sy_letter_le {K K' : Nat} (hK : K ≤ K') (x0 : Int) : Le (sy_letter K x0) (sy_letter K' x0) := by
  unfold sy_letter
  repeat (first | with_reducible exact Le.refl _ | refine Le.bif ?_ ?_ | refine Le.bind ?_ (fun _ => ?_))
theorem sy_digit_le {K K' : Nat} (hK : K ≤ K') (x0 : Int) : Le (sy_digit K x0) (sy_digit K' x0) := by
  unfold sy_digit
  repeat (first | with_reducible exact Le.refl _ | refine Le.bif ?_ ?_ | refine Le.bind ?_ (fun _ => ?_))
theorem sy_Name_j1_le {K K' : Nat} (hK : K ≤ K') : Le (sy_Name_j1 K ) (sy_Name_j1 K' ) := by
  unfold sy_Name_j1
  repeat (first | with_reducible exact Le.refl _ | refine Le.bif ?_ ?_ | refine Le.bind ?_ (fun _ => ?_))
theorem sy_Name_l0_le {K K' : Nat} (hK : K ≤ K') : ∀ {k k' : Nat} (hk : k ≤ k') (x0 : ByteArray) (x5_0_1 : Int) (x6_0_2 : Int), Le (sy_Name_l0 K k x0 x5_0_1 x6_0_2) (sy_Name_l0 K' k' x0 x5_0_1 x6_0_2) := by
  intro k
  induction k with
  | zero => intro k' hk x0 x5_0_1 x6_0_2 r h; cases (show (none : Option Bool) = some r from h)
  | succ k ih =>
    intro k' hk x0 x5_0_1 x6_0_2
    obtain ⟨k', rfl⟩ : ∃ j, k' = j + 1 := ⟨k' - 1, by omega⟩
    rw [sy_Name_l0, sy_Name_l0]
    repeat (first | with_reducible exact sy_letter_le hK _ | with_reducible exact sy_Name_j1_le hK | with_reducible exact sy_digit_le hK _ | with_reducible exact ih (by omega) _ _ _ | with_reducible exact Le.refl _ | refine Le.bif ?_ ?_ | refine Le.bind ?_ (fun _ => ?_))
theorem sy_Name_le {K K' : Nat} (hK : K ≤ K') (x0 : ByteArray) : Le (sy_Name K x0) (sy_Name K' x0) := by
  unfold sy_Name
  repeat (first | with_reducible exact sy_Name_l0_le hK hK _ _ _ | with_reducible exact Le.refl _ | refine Le.bif ?_ ?_ | refine Le.bind ?_ (fun _ => ?_))
theorem sy_shaped_j0_le {K K' : Nat} (hK : K ≤ K') (x4_0_12 : Int) (x0 : aNd) (y3_0_7 : Arr4) (y3_0_9 : Int) (y3_0_10 : Int) (y3_0_11 : ByteArray) : Le (sy_shaped_j0 K x4_0_12 x0 y3_0_7 y3_0_9 y3_0_10 y3_0_11) (sy_shaped_j0 K' x4_0_12 x0 y3_0_7 y3_0_9 y3_0_10 y3_0_11) := by
  unfold sy_shaped_j0
  repeat (first | with_reducible exact Le.refl _ | refine Le.bif ?_ ?_ | refine Le.bind ?_ (fun _ => ?_))
theorem sy_shaped_j1_le {K K' : Nat} (hK : K ≤ K') : Le (sy_shaped_j1 K ) (sy_shaped_j1 K' ) := by
  unfold sy_shaped_j1
  repeat (first | with_reducible exact Le.refl _ | refine Le.bif ?_ ?_ | refine Le.bind ?_ (fun _ => ?_))
theorem sy_shaped_j2_le {K K' : Nat} (hK : K ≤ K') (x4_2_12 : Int) (x0 : aNd) (y3_2_7 : Arr4) : Le (sy_shaped_j2 K x4_2_12 x0 y3_2_7) (sy_shaped_j2 K' x4_2_12 x0 y3_2_7) := by
  unfold sy_shaped_j2
  repeat (first | with_reducible exact sy_shaped_j0_le hK _ _ _ _ _ _ | with_reducible exact Le.refl _ | refine Le.bif ?_ ?_ | refine Le.bind ?_ (fun _ => ?_))
theorem sy_shaped_j3_le {K K' : Nat} (hK : K ≤ K') (x4_3_12 : Int) (x0 : aNd) (x58_3_14 : Bool) (y3_3_7 : Arr4) : Le (sy_shaped_j3 K x4_3_12 x0 x58_3_14 y3_3_7) (sy_shaped_j3 K' x4_3_12 x0 x58_3_14 y3_3_7) := by
  unfold sy_shaped_j3
  repeat (first | with_reducible exact sy_shaped_j0_le hK _ _ _ _ _ _ | with_reducible exact sy_Name_le hK _ | with_reducible exact Le.refl _ | refine Le.bif ?_ ?_ | refine Le.bind ?_ (fun _ => ?_))
theorem sy_shaped_le {K K' : Nat} (hK : K ≤ K') (x0 : aNd) : Le (sy_shaped K x0) (sy_shaped K' x0) := by
  unfold sy_shaped
  repeat (first | with_reducible exact sy_shaped_j0_le hK _ _ _ _ _ _ | with_reducible exact sy_shaped_j1_le hK | with_reducible exact sy_shaped_j2_le hK _ _ _ | with_reducible exact sy_shaped_j3_le hK _ _ _ _ | with_reducible exact Le.refl _ | refine Le.bif ?_ ?_ | refine Le.bind ?_ (fun _ => ?_))
theorem slices_Equal_int_l0_le {K K' : Nat} (hK : K ≤ K') : ∀ {k k' : Nat} (hk : k ≤ k') (x0 : List Int) (x1 : List Int) (x12_0_2 : Int) (x13_0_3 : Int), Le (slices_Equal_int_l0 K k x0 x1 x12_0_2 x13_0_3) (slices_Equal_int_l0 K' k' x0 x1 x12_0_2 x13_0_3) := by
  intro k
  induction k with
  | zero => intro k' hk x0 x1 x12_0_2 x13_0_3 r h; cases (show (none : Option Bool) = some r from h)
  | succ k ih =>
    intro k' hk x0 x1 x12_0_2 x13_0_3
    obtain ⟨k', rfl⟩ : ∃ j, k' = j + 1 := ⟨k' - 1, by omega⟩
    rw [slices_Equal_int_l0, slices_Equal_int_l0]
    repeat (first | with_reducible exact ih (by omega) _ _ _ _ | with_reducible exact Le.refl _ | refine Le.bif ?_ ?_ | refine Le.bind ?_ (fun _ => ?_))
theorem slices_Equal_int_le {K K' : Nat} (hK : K ≤ K') (x0 : List Int) (x1 : List Int) : Le (slices_Equal_int K x0 x1) (slices_Equal_int K' x0 x1) := by
  unfold slices_Equal_int
  repeat (first | with_reducible exact slices_Equal_int_l0_le hK hK _ _ _ _ | with_reducible exact Le.refl _ | refine Le.bif ?_ ?_ | refine Le.bind ?_ (fun _ => ?_))
theorem sy_Right_j0_le {K K' : Nat} (hK : K ≤ K') : Le (sy_Right_j0 K ) (sy_Right_j0 K' ) := by
  unfold sy_Right_j0
  repeat (first | with_reducible exact Le.refl _ | refine Le.bif ?_ ?_ | refine Le.bind ?_ (fun _ => ?_))
theorem sy_Right_j2_le {K K' : Nat} (hK : K ≤ K') : Le (sy_Right_j2 K ) (sy_Right_j2 K' ) := by
  unfold sy_Right_j2
  repeat (first | with_reducible exact Le.refl _ | refine Le.bif ?_ ?_ | refine Le.bind ?_ (fun _ => ?_))
theorem sy_Right_l1_le {K K' : Nat} (hK : K ≤ K') : ∀ {k k' : Nat} (hk : k ≤ k') (x0 : List aNd) (x16_1_2 : Int) (x17_1_3 : Int) (y3_1_0 : List Int), Le (sy_Right_l1 K k x0 x16_1_2 x17_1_3 y3_1_0) (sy_Right_l1 K' k' x0 x16_1_2 x17_1_3 y3_1_0) := by
  intro k
  induction k with
  | zero => intro k' hk x0 x16_1_2 x17_1_3 y3_1_0 r h; cases (show (none : Option Bool) = some r from h)
  | succ k ih =>
    intro k' hk x0 x16_1_2 x17_1_3 y3_1_0
    obtain ⟨k', rfl⟩ : ∃ j, k' = j + 1 := ⟨k' - 1, by omega⟩
    rw [sy_Right_l1, sy_Right_l1]
    repeat (first | with_reducible exact sy_shaped_le hK _ | with_reducible exact sy_Right_j2_le hK | with_reducible exact slices_Equal_int_le hK _ _ | with_reducible exact ih (by omega) _ _ _ _ | with_reducible exact Le.refl _ | refine Le.bif ?_ ?_ | refine Le.bind ?_ (fun _ => ?_))
theorem sy_Right_le {K K' : Nat} (hK : K ≤ K') (x0 : List aNd) : Le (sy_Right K x0) (sy_Right K' x0) := by
  unfold sy_Right
  repeat (first | with_reducible exact sy_Right_j0_le hK | with_reducible exact sy_Right_l1_le hK hK _ _ _ _ | with_reducible exact Le.refl _ | refine Le.bif ?_ ?_ | refine Le.bind ?_ (fun _ => ?_))
theorem strings_Join_le {K K' : Nat} (_ : K ≤ K') (x0 : List ByteArray) (x1 : ByteArray) : Le (strings_Join K x0 x1) (strings_Join K' x0 x1) := Le.refl _
theorem bits_TrailingZeros64_le {K K' : Nat} (hK : K ≤ K') (x0 : Int) : Le (bits_TrailingZeros64 K x0) (bits_TrailingZeros64 K' x0) := by
  unfold bits_TrailingZeros64
  repeat (first | with_reducible exact Le.refl _ | refine Le.bif ?_ ?_ | refine Le.bind ?_ (fun _ => ?_))
theorem bset_List_l1_le {K K' : Nat} (hK : K ≤ K') {go0 go0' : Arr4 → Int → (List Int) → Option (List Int)} (hgo0 : ∀ (x0 : Arr4) (x7_0_2 : Int) (y3_0_0 : List Int), Le (go0 x0 x7_0_2 y3_0_0) (go0' x0 x7_0_2 y3_0_0)) : ∀ {k k' : Nat} (hk : k ≤ k') (x4_1_1 : Int) (x5_1_2 : Int) (x0 : Arr4) (x7_1_4 : Int) (y3_1_0 : List Int), Le (bset_List_l1 K go0 k x4_1_1 x5_1_2 x0 x7_1_4 y3_1_0) (bset_List_l1 K' go0' k' x4_1_1 x5_1_2 x0 x7_1_4 y3_1_0) := by
  intro k
  induction k with
  | zero => intro k' hk x4_1_1 x5_1_2 x0 x7_1_4 y3_1_0 r h; cases (show (none : Option (List Int)) = some r from h)
  | succ k ih =>
    intro k' hk x4_1_1 x5_1_2 x0 x7_1_4 y3_1_0
    obtain ⟨k', rfl⟩ : ∃ j, k' = j + 1 := ⟨k' - 1, by omega⟩
    rw [bset_List_l1, bset_List_l1]
    repeat (first | with_reducible exact bits_TrailingZeros64_le hK _ | with_reducible exact ih (by omega) _ _ _ _ _ | with_reducible exact hgo0 _ _ _ | with_reducible exact Le.refl _ | refine Le.bif ?_ ?_ | refine Le.bind ?_ (fun _ => ?_))
theorem bset_List_l0_le {K K' : Nat} (hK : K ≤ K') : ∀ {k k' : Nat} (hk : k ≤ k') (x0 : Arr4) (x7_0_2 : Int) (y3_0_0 : List Int), Le (bset_List_l0 K k x0 x7_0_2 y3_0_0) (bset_List_l0 K' k' x0 x7_0_2 y3_0_0) := by
  intro k
  induction k with
  | zero => intro k' hk x0 x7_0_2 y3_0_0 r h; cases (show (none : Option (List Int)) = some r from h)
  | succ k ih =>
    intro k' hk x0 x7_0_2 y3_0_0
    obtain ⟨k', rfl⟩ : ∃ j, k' = j + 1 := ⟨k' - 1, by omega⟩
    rw [bset_List_l0, bset_List_l0]
    repeat (first | with_reducible exact bset_List_l1_le hK (fun a0 a1 a2 => ih (by omega) a0 a1 a2) hK _ _ _ _ _ | with_reducible exact Le.refl _ | refine Le.bif ?_ ?_ | refine Le.bind ?_ (fun _ => ?_))
theorem bset_List_le {K K' : Nat} (hK : K ≤ K') (x0 : Arr4) : Le (bset_List K x0) (bset_List K' x0) := by
  unfold bset_List
  repeat (first | with_reducible exact bset_List_l0_le hK hK _ _ _ | with_reducible exact Le.refl _ | refine Le.bif ?_ ?_ | refine Le.bind ?_ (fun _ => ?_))
theorem bset_Spans_j1_le {K K' : Nat} (hK : K ≤ K') {go0 go0' : Int → (List Int) → Int → Int → (List Arr2) → Option (List Arr2)} (hgo0 : ∀ (x4_0_1 : Int) (x8_0_2 : List Int) (x9_0_3 : Int) (x10_0_4 : Int) (y3_0_0 : List Arr2), Le (go0 x4_0_1 x8_0_2 x9_0_3 x10_0_4 y3_0_0) (go0' x4_0_1 x8_0_2 x9_0_3 x10_0_4 y3_0_0)) (x6_1_1 : Int) (x8_1_2 : List Int) (x9_1_3 : Int) (x10_1_4 : Int) (y3_1_0 : List Arr2) : Le (bset_Spans_j1 K go0 x6_1_1 x8_1_2 x9_1_3 x10_1_4 y3_1_0) (bset_Spans_j1 K' go0' x6_1_1 x8_1_2 x9_1_3 x10_1_4 y3_1_0) := by
  unfold bset_Spans_j1
  repeat (first | with_reducible exact hgo0 _ _ _ _ _ | with_reducible exact Le.refl _ | refine Le.bif ?_ ?_ | refine Le.bind ?_ (fun _ => ?_))
theorem bset_Spans_l0_le {K K' : Nat} (hK : K ≤ K') : ∀ {k k' : Nat} (hk : k ≤ k') (x4_0_1 : Int) (x8_0_2 : List Int) (x9_0_3 : Int) (x10_0_4 : Int) (y3_0_0 : List Arr2), Le (bset_Spans_l0 K k x4_0_1 x8_0_2 x9_0_3 x10_0_4 y3_0_0) (bset_Spans_l0 K' k' x4_0_1 x8_0_2 x9_0_3 x10_0_4 y3_0_0) := by
  intro k
  induction k with
  | zero => intro k' hk x4_0_1 x8_0_2 x9_0_3 x10_0_4 y3_0_0 r h; cases (show (none : Option (List Arr2)) = some r from h)
  | succ k ih =>
    intro k' hk x4_0_1 x8_0_2 x9_0_3 x10_0_4 y3_0_0
    obtain ⟨k', rfl⟩ : ∃ j, k' = j + 1 := ⟨k' - 1, by omega⟩
    rw [bset_Spans_l0, bset_Spans_l0]
    repeat (first | with_reducible exact bset_Spans_j1_le hK (fun a0 a1 a2 a3 a4 => ih (by omega) a0 a1 a2 a3 a4) _ _ _ _ _ | with_reducible exact Le.refl _ | refine Le.bif ?_ ?_ | refine Le.bind ?_ (fun _ => ?_))
theorem bset_Spans_le {K K' : Nat} (hK : K ≤ K') (x0 : Arr4) : Le (bset_Spans K x0) (bset_Spans K' x0) := by
  unfold bset_Spans
  repeat (first | with_reducible exact bset_List_le hK _ | with_reducible exact bset_Spans_l0_le hK hK _ _ _ _ _ | with_reducible exact Le.refl _ | refine Le.bif ?_ ?_ | refine Le.bind ?_ (fun _ => ?_))
theorem bset_Of_l0_le {K K' : Nat} (hK : K ≤ K') : ∀ {k k' : Nat} (hk : k ≤ k') (x0 : List Int) (x7_0_3 : Int) (x8_0_4 : Int) (y2_0_0 : Arr4) (y3_0_1 : Arr4), Le (bset_Of_l0 K k x0 x7_0_3 x8_0_4 y2_0_0 y3_0_1) (bset_Of_l0 K' k' x0 x7_0_3 x8_0_4 y2_0_0 y3_0_1) := by
  intro k
  induction k with
  | zero => intro k' hk x0 x7_0_3 x8_0_4 y2_0_0 y3_0_1 r h; cases (show (none : Option Arr4) = some r from h)
  | succ k ih =>
    intro k' hk x0 x7_0_3 x8_0_4 y2_0_0 y3_0_1
    obtain ⟨k', rfl⟩ : ∃ j, k' = j + 1 := ⟨k' - 1, by omega⟩
    rw [bset_Of_l0, bset_Of_l0]
    repeat (first | with_reducible exact ih (by omega) _ _ _ _ _ | with_reducible exact Le.refl _ | refine Le.bif ?_ ?_ | refine Le.bind ?_ (fun _ => ?_))
theorem bset_Of_le {K K' : Nat} (hK : K ≤ K') (x0 : List Int) : Le (bset_Of K x0) (bset_Of K' x0) := by
  unfold bset_Of
  repeat (first | with_reducible exact bset_Of_l0_le hK hK _ _ _ _ _ | with_reducible exact Le.refl _ | refine Le.bif ?_ ?_ | refine Le.bind ?_ (fun _ => ?_))
theorem bset_Not_l0_le {K K' : Nat} (hK : K ≤ K') : ∀ {k k' : Nat} (hk : k ≤ k') (x0 : Arr4) (x6_0_3 : Int) (y1_0_0 : Arr4) (y2_0_1 : Arr4), Le (bset_Not_l0 K k x0 x6_0_3 y1_0_0 y2_0_1) (bset_Not_l0 K' k' x0 x6_0_3 y1_0_0 y2_0_1) := by
  intro k
  induction k with
  | zero => intro k' hk x0 x6_0_3 y1_0_0 y2_0_1 r h; cases (show (none : Option Arr4) = some r from h)
  | succ k ih =>
    intro k' hk x0 x6_0_3 y1_0_0 y2_0_1
    obtain ⟨k', rfl⟩ : ∃ j, k' = j + 1 := ⟨k' - 1, by omega⟩
    rw [bset_Not_l0, bset_Not_l0]
    repeat (first | with_reducible exact ih (by omega) _ _ _ _ | with_reducible exact Le.refl _ | refine Le.bif ?_ ?_ | refine Le.bind ?_ (fun _ => ?_))
theorem bset_Not_le {K K' : Nat} (hK : K ≤ K') (x0 : Arr4) : Le (bset_Not K x0) (bset_Not K' x0) := by
  unfold bset_Not
  repeat (first | with_reducible exact bset_Not_l0_le hK hK _ _ _ _ | with_reducible exact Le.refl _ | refine Le.bif ?_ ?_ | refine Le.bind ?_ (fun _ => ?_))
theorem sB_copyCheck_le {K K' : Nat} (hK : K ≤ K') (x0c1 : List Int) : Le (sB_copyCheck K x0c1) (sB_copyCheck K' x0c1) := by
  unfold sB_copyCheck
  repeat (first | with_reducible exact Le.refl _ | refine Le.bif ?_ ?_ | refine Le.bind ?_ (fun _ => ?_))
theorem sB_WriteString_le {K K' : Nat} (hK : K ≤ K') (x0c1 : List Int) (x1 : ByteArray) : Le (sB_WriteString K x0c1 x1) (sB_WriteString K' x0c1 x1) := by
  unfold sB_WriteString
  repeat (first | with_reducible exact sB_copyCheck_le hK _ | with_reducible exact Le.refl _ | refine Le.bif ?_ ?_ | refine Le.bind ?_ (fun _ => ?_))
theorem sB_copyCheck_i1_le {K K' : Nat} (hK : K ≤ K') (x0c1 : List Int) : Le (sB_copyCheck_i1 K x0c1) (sB_copyCheck_i1 K' x0c1) := by
  unfold sB_copyCheck_i1
  repeat (first | with_reducible exact Le.refl _ | refine Le.bif ?_ ?_ | refine Le.bind ?_ (fun _ => ?_))
theorem sB_WriteString_i1_le {K K' : Nat} (hK : K ≤ K') (x0c1 : List Int) (x1 : ByteArray) : Le (sB_WriteString_i1 K x0c1 x1) (sB_WriteString_i1 K' x0c1 x1) := by
  unfold sB_WriteString_i1
  repeat (first | with_reducible exact sB_copyCheck_i1_le hK _ | with_reducible exact Le.refl _ | refine Le.bif ?_ ?_ | refine Le.bind ?_ (fun _ => ?_))
theorem stringslite_IndexByte_le {K K' : Nat} (hK : K ≤ K') (x0 : ByteArray) (x1 : Int) : Le (stringslite_IndexByte K x0 x1) (stringslite_IndexByte K' x0 x1) := by
  unfold stringslite_IndexByte
  repeat (first | with_reducible exact Le.refl _ | refine Le.bif ?_ ?_ | refine Le.bind ?_ (fun _ => ?_))
theorem strings_IndexByte_le {K K' : Nat} (hK : K ≤ K') (x0 : ByteArray) (x1 : Int) : Le (strings_IndexByte K x0 x1) (strings_IndexByte K' x0 x1) := by
  unfold strings_IndexByte
  repeat (first | with_reducible exact stringslite_IndexByte_le hK _ _ | with_reducible exact Le.refl _ | refine Le.bif ?_ ?_ | refine Le.bind ?_ (fun _ => ?_))
theorem strconv_isPowerOfTwo_le {K K' : Nat} (hK : K ≤ K') (x0 : Int) : Le (strconv_isPowerOfTwo K x0) (strconv_isPowerOfTwo K' x0) := by
  unfold strconv_isPowerOfTwo
  repeat (first | with_reducible exact Le.refl _ | refine Le.bif ?_ ?_ | refine Le.bind ?_ (fun _ => ?_))
theorem bits_TrailingZeros_le {K K' : Nat} (hK : K ≤ K') (x0 : Int) : Le (bits_TrailingZeros K x0) (bits_TrailingZeros K' x0) := by
  unfold bits_TrailingZeros
  repeat (first | with_reducible exact bits_TrailingZeros64_le hK _ | with_reducible exact Le.refl _ | refine Le.bif ?_ ?_ | refine Le.bind ?_ (fun _ => ?_))
theorem strconv_formatBits_j0_le {K K' : Nat} (hK : K ≤ K') (x0 : List Int) (x1 : Int) (x2 : Int) (x3 : Bool) (x4 : Bool) : Le (strconv_formatBits_j0 K x0 x1 x2 x3 x4) (strconv_formatBits_j0 K' x0 x1 x2 x3 x4) := by
  unfold strconv_formatBits_j0
  repeat (first | with_reducible exact Le.refl _ | refine Le.bif ?_ ?_ | refine Le.bind ?_ (fun _ => ?_))
theorem strconv_formatBits_j5_le {K K' : Nat} (hK : K ≤ K') (x0 : List Int) (x4 : Bool) (x13_5_4 : Int) (y12_5_3 : ArrN) : Le (strconv_formatBits_j5 K x0 x4 x13_5_4 y12_5_3) (strconv_formatBits_j5 K' x0 x4 x13_5_4 y12_5_3) := by
  unfold strconv_formatBits_j5
  repeat (first | with_reducible exact Le.refl _ | refine Le.bif ?_ ?_ | refine Le.bind ?_ (fun _ => ?_))
theorem strconv_formatBits_j4_le {K K' : Nat} (hK : K ≤ K') (x0 : List Int) (x3 : Bool) (x4 : Bool) (x13_4_5 : Int) (y12_4_4 : ArrN) : Le (strconv_formatBits_j4 K x0 x3 x4 x13_4_5 y12_4_4) (strconv_formatBits_j4 K' x0 x3 x4 x13_4_5 y12_4_4) := by
  unfold strconv_formatBits_j4
  repeat (first | with_reducible exact strconv_formatBits_j5_le hK _ _ _ _ | with_reducible exact Le.refl _ | refine Le.bif ?_ ?_ | refine Le.bind ?_ (fun _ => ?_))
theorem strconv_formatBits_l2_le {K K' : Nat} (hK : K ≤ K') : ∀ {k k' : Nat} (hk : k ≤ k') (x0 : List Int) (x1_2_1 : Int) (x3 : Bool) (x4 : Bool) (x13_2_6 : Int) (x14_2_7 : Int) (x15_2_8 : Int) (x16_2_9 : Int) (y12_2_5 : ArrN), Le (strconv_formatBits_l2 K k x0 x1_2_1 x3 x4 x13_2_6 x14_2_7 x15_2_8 x16_2_9 y12_2_5) (strconv_formatBits_l2 K' k' x0 x1_2_1 x3 x4 x13_2_6 x14_2_7 x15_2_8 x16_2_9 y12_2_5) := by
  intro k
  induction k with
  | zero => intro k' hk x0 x1_2_1 x3 x4 x13_2_6 x14_2_7 x15_2_8 x16_2_9 y12_2_5 r h; cases (show (none : Option ((List Int) × ByteArray)) = some r from h)
  | succ k ih =>
    intro k' hk x0 x1_2_1 x3 x4 x13_2_6 x14_2_7 x15_2_8 x16_2_9 y12_2_5
    obtain ⟨k', rfl⟩ : ∃ j, k' = j + 1 := ⟨k' - 1, by omega⟩
    rw [strconv_formatBits_l2, strconv_formatBits_l2]
    repeat (first | with_reducible exact ih (by omega) _ _ _ _ _ _ _ _ _ | with_reducible exact strconv_formatBits_j4_le hK _ _ _ _ _ | with_reducible exact Le.refl _ | refine Le.bif ?_ ?_ | refine Le.bind ?_ (fun _ => ?_))
theorem strconv_formatBits_l3_le {K K' : Nat} (hK : K ≤ K') : ∀ {k k' : Nat} (hk : k ≤ k') (x0 : List Int) (x1_3_1 : Int) (x3 : Bool) (x4 : Bool) (x13_3_6 : Int) (x17_3_7 : Int) (y12_3_5 : ArrN), Le (strconv_formatBits_l3 K k x0 x1_3_1 x3 x4 x13_3_6 x17_3_7 y12_3_5) (strconv_formatBits_l3 K' k' x0 x1_3_1 x3 x4 x13_3_6 x17_3_7 y12_3_5) := by
  intro k
  induction k with
  | zero => intro k' hk x0 x1_3_1 x3 x4 x13_3_6 x17_3_7 y12_3_5 r h; cases (show (none : Option ((List Int) × ByteArray)) = some r from h)
  | succ k ih =>
    intro k' hk x0 x1_3_1 x3 x4 x13_3_6 x17_3_7 y12_3_5
    obtain ⟨k', rfl⟩ : ∃ j, k' = j + 1 := ⟨k' - 1, by omega⟩
    rw [strconv_formatBits_l3, strconv_formatBits_l3]
    repeat (first | with_reducible exact ih (by omega) _ _ _ _ _ _ _ | with_reducible exact strconv_formatBits_j4_le hK _ _ _ _ _ | with_reducible exact Le.refl _ | refine Le.bif ?_ ?_ | refine Le.bind ?_ (fun _ => ?_))
theorem strconv_formatBits_j1_le {K K' : Nat} (hK : K ≤ K') (x0 : List Int) (x1_1_1 : Int) (x2 : Int) (x3 : Bool) (x4 : Bool) (y12_1_6 : ArrN) : Le (strconv_formatBits_j1 K x0 x1_1_1 x2 x3 x4 y12_1_6) (strconv_formatBits_j1 K' x0 x1_1_1 x2 x3 x4 y12_1_6) := by
  unfold strconv_formatBits_j1
  repeat (first | with_reducible exact strconv_isPowerOfTwo_le hK _ | with_reducible exact bits_TrailingZeros_le hK _ | with_reducible exact strconv_formatBits_l2_le hK hK _ _ _ _ _ _ _ _ _ | with_reducible exact strconv_formatBits_l3_le hK hK _ _ _ _ _ _ _ | with_reducible exact Le.refl _ | refine Le.bif ?_ ?_ | refine Le.bind ?_ (fun _ => ?_))
theorem strconv_formatBits_le {K K' : Nat} (hK : K ≤ K') (x0 : List Int) (x1 : Int) (x2 : Int) (x3 : Bool) (x4 : Bool) : Le (strconv_formatBits K x0 x1 x2 x3 x4) (strconv_formatBits K' x0 x1 x2 x3 x4) := by
  unfold strconv_formatBits
  repeat (first | with_reducible exact strconv_formatBits_j0_le hK _ _ _ _ _ | with_reducible exact strconv_formatBits_j1_le hK _ _ _ _ _ _ | with_reducible exact Le.refl _ | refine Le.bif ?_ ?_ | refine Le.bind ?_ (fun _ => ?_))
theorem strconv_FormatUint_f52_le {K K' : Nat} (hK : K ≤ K') (x0 : Int) (x1 : Int) : Le (strconv_FormatUint_f52 K x0 x1) (strconv_FormatUint_f52 K' x0 x1) := by
  unfold strconv_FormatUint_f52
  repeat (first | with_reducible exact strconv_formatBits_le hK _ _ _ _ _ | with_reducible exact Le.refl _ | refine Le.bif ?_ ?_ | refine Le.bind ?_ (fun _ => ?_))
theorem strconv_FormatUint_le {K K' : Nat} (hK : K ≤ K') (x0 : Int) (x1 : Int) : Le (strconv_FormatUint K x0 x1) (strconv_FormatUint K' x0 x1) := by
  unfold strconv_FormatUint
  repeat (first | with_reducible exact strconv_FormatUint_f52_le hK _ _ | with_reducible exact Le.refl _ | refine Le.bif ?_ ?_ | refine Le.bind ?_ (fun _ => ?_))
theorem print_Byte_j0_le {K K' : Nat} (hK : K ≤ K') (x0 : Int) : Le (print_Byte_j0 K x0) (print_Byte_j0 K' x0) := by
  unfold print_Byte_j0
  repeat (first | with_reducible exact strconv_FormatUint_le hK _ _ | with_reducible exact Le.refl _ | refine Le.bif ?_ ?_ | refine Le.bind ?_ (fun _ => ?_))
theorem print_Byte_le {K K' : Nat} (hK : K ≤ K') (x0 : Int) : Le (print_Byte K x0) (print_Byte K' x0) := by
  unfold print_Byte
  repeat (first | with_reducible exact strings_IndexByte_le hK _ _ | with_reducible exact print_Byte_j0_le hK _ | with_reducible exact Le.refl _ | refine Le.bif ?_ ?_ | refine Le.bind ?_ (fun _ => ?_))
theorem print_Set_l1_le {K K' : Nat} (hK : K ≤ K') : ∀ {k k' : Nat} (hk : k ≤ k') (x3_0_1 : List Arr2) (x37_1_2 : Int) (x38_1_3 : Int) (y4_1_0 : List Int), Le (print_Set_l1 K k x3_0_1 x37_1_2 x38_1_3 y4_1_0) (print_Set_l1 K' k' x3_0_1 x37_1_2 x38_1_3 y4_1_0) := by
  intro k
  induction k with
  | zero => intro k' hk x3_0_1 x37_1_2 x38_1_3 y4_1_0 r h; cases (show (none : Option ByteArray) = some r from h)
  | succ k ih =>
    intro k' hk x3_0_1 x37_1_2 x38_1_3 y4_1_0
    obtain ⟨k', rfl⟩ : ∃ j, k' = j + 1 := ⟨k' - 1, by omega⟩
    rw [print_Set_l1, print_Set_l1]
    repeat (first | with_reducible exact print_Byte_le hK _ | with_reducible exact sB_WriteString_i1_le hK _ _ | with_reducible exact ih (by omega) _ _ _ _ | with_reducible exact Le.refl _ | refine Le.bif ?_ ?_ | refine Le.bind ?_ (fun _ => ?_))
theorem print_Set_j0_le {K K' : Nat} (hK : K ≤ K') (x3_0_1 : List Arr2) (x0 : Arr4) : Le (print_Set_j0 K x3_0_1 x0) (print_Set_j0 K' x3_0_1 x0) := by
  unfold print_Set_j0
  repeat (first | with_reducible exact bset_Of_le hK _ | with_reducible exact bset_Not_le hK _ | with_reducible exact sB_WriteString_le hK _ _ | with_reducible exact print_Set_l1_le hK hK _ _ _ _ | with_reducible exact Le.refl _ | refine Le.bif ?_ ?_ | refine Le.bind ?_ (fun _ => ?_))
theorem print_Set_le {K K' : Nat} (hK : K ≤ K') (x0 : Arr4) : Le (print_Set K x0) (print_Set K' x0) := by
  unfold print_Set
  repeat (first | with_reducible exact bset_Spans_le hK _ | with_reducible exact print_Byte_le hK _ | with_reducible exact print_Set_j0_le hK _ _ | with_reducible exact Le.refl _ | refine Le.bif ?_ ?_ | refine Le.bind ?_ (fun _ => ?_))
theorem pW_j0_le {K K' : Nat} (hK : K ≤ K') (x0 : Int) (x8_0_1 : Bool) : Le (pW_j0 K x0 x8_0_1) (pW_j0 K' x0 x8_0_1) := by
  unfold pW_j0
  repeat (first | with_reducible exact Le.refl _ | refine Le.bif ?_ ?_ | refine Le.bind ?_ (fun _ => ?_))
theorem pW_le {K K' : Nat} (hK : K ≤ K') (x0 : Int) (x1 : Int) : Le (pW K x0 x1) (pW K' x0 x1) := by
  unfold pW
  repeat (first | with_reducible exact pW_j0_le hK _ _ | with_reducible exact Le.refl _ | refine Le.bif ?_ ?_ | refine Le.bind ?_ (fun _ => ?_))
theorem strconv_Itoa_le {K K' : Nat} (_ : K ≤ K') (x0 : Int) : Le (strconv_Itoa K x0) (strconv_Itoa K' x0) := Le.refl _
theorem print_times_le {K K' : Nat} (hK : K ≤ K') (x0 : Int) (x1 : Int) : Le (print_times K x0 x1) (print_times K' x0 x1) := by
  unfold print_times
  repeat (first | with_reducible exact strconv_Itoa_le hK _ | with_reducible exact Le.refl _ | refine Le.bif ?_ ?_ | refine Le.bind ?_ (fun _ => ?_))
theorem pT_j2_le {K K' : Nat} (hK : K ≤ K') {go1 go1' : (List aNd) → Int → Int → Int → (List Int) → Int → Int → (List ByteArray) → Int → Arr4 → (List Int) → Int → Int → ByteArray → (List ByteArray) → Option (ByteArray × Bool)} (hgo1 : ∀ (x0 : List aNd) (x5_1_2 : Int) (x18_0_3 : Int) (x19_1_12 : Int) (x25_1_13 : List Int) (x26_1_14 : Int) (x27_1_15 : Int) (y4_0_1 : List ByteArray) (y6_1_3 : Int) (y6_1_4 : Arr4) (y6_1_5 : List Int) (y6_1_6 : Int) (y6_1_7 : Int) (y6_1_8 : ByteArray) (y7_1_9 : List ByteArray), Le (go1 x0 x5_1_2 x18_0_3 x19_1_12 x25_1_13 x26_1_14 x27_1_15 y4_0_1 y6_1_3 y6_1_4 y6_1_5 y6_1_6 y6_1_7 y6_1_8 y7_1_9) (go1' x0 x5_1_2 x18_0_3 x19_1_12 x25_1_13 x26_1_14 x27_1_15 y4_0_1 y6_1_3 y6_1_4 y6_1_5 y6_1_6 y6_1_7 y6_1_8 y7_1_9)) (x0 : List aNd) (x5_2_2 : Int) (x10_2_10 : ByteArray) (x18_0_3 : Int) (x19_2_13 : Int) (x25_2_14 : List Int) (x26_2_15 : Int) (x27_2_16 : Int) (y4_0_1 : List ByteArray) (y6_1_3 : Int) (y6_1_4 : Arr4) (y6_1_5 : List Int) (y6_1_6 : Int) (y6_1_7 : Int) (y6_1_8 : ByteArray) (y7_2_9 : List ByteArray) : Le (pT_j2 K go1 x0 x5_2_2 x10_2_10 x18_0_3 x19_2_13 x25_2_14 x26_2_15 x27_2_16 y4_0_1 y6_1_3 y6_1_4 y6_1_5 y6_1_6 y6_1_7 y6_1_8 y7_2_9) (pT_j2 K' go1' x0 x5_2_2 x10_2_10 x18_0_3 x19_2_13 x25_2_14 x26_2_15 x27_2_16 y4_0_1 y6_1_3 y6_1_4 y6_1_5 y6_1_6 y6_1_7 y6_1_8 y7_2_9) := by
  unfold pT_j2
  repeat (first | with_reducible exact hgo1 _ _ _ _ _ _ _ _ _ _ _ _ _ _ _ | with_reducible exact Le.refl _ | refine Le.bif ?_ ?_ | refine Le.bind ?_ (fun _ => ?_))
theorem pT_l1_le {K K' : Nat} (hK : K ≤ K') {go0 go0' : (List aNd) → Int → Int → (List ByteArray) → Option (ByteArray × Bool)} (hgo0 : ∀ (x0 : List aNd) (x18_0_3 : Int) (x19_0_4 : Int) (y4_0_1 : List ByteArray), Le (go0 x0 x18_0_3 x19_0_4 y4_0_1) (go0' x0 x18_0_3 x19_0_4 y4_0_1)) : ∀ {k k' : Nat} (hk : k ≤ k') (x0 : List aNd) (x5_1_2 : Int) (x18_0_3 : Int) (x19_1_12 : Int) (x25_1_13 : List Int) (x26_1_14 : Int) (x27_1_15 : Int) (y4_0_1 : List ByteArray) (y6_1_3 : Int) (y6_1_4 : Arr4) (y6_1_5 : List Int) (y6_1_6 : Int) (y6_1_7 : Int) (y6_1_8 : ByteArray) (y7_1_9 : List ByteArray), Le (pT_l1 K go0 k x0 x5_1_2 x18_0_3 x19_1_12 x25_1_13 x26_1_14 x27_1_15 y4_0_1 y6_1_3 y6_1_4 y6_1_5 y6_1_6 y6_1_7 y6_1_8 y7_1_9) (pT_l1 K' go0' k' x0 x5_1_2 x18_0_3 x19_1_12 x25_1_13 x26_1_14 x27_1_15 y4_0_1 y6_1_3 y6_1_4 y6_1_5 y6_1_6 y6_1_7 y6_1_8 y7_1_9) := by
  intro k
  induction k with
  | zero => intro k' hk x0 x5_1_2 x18_0_3 x19_1_12 x25_1_13 x26_1_14 x27_1_15 y4_0_1 y6_1_3 y6_1_4 y6_1_5 y6_1_6 y6_1_7 y6_1_8 y7_1_9 r h; cases (show (none : Option (ByteArray × Bool)) = some r from h)
  | succ k ih =>
    intro k' hk x0 x5_1_2 x18_0_3 x19_1_12 x25_1_13 x26_1_14 x27_1_15 y4_0_1 y6_1_3 y6_1_4 y6_1_5 y6_1_6 y6_1_7 y6_1_8 y7_1_9
    obtain ⟨k', rfl⟩ : ∃ j, k' = j + 1 := ⟨k' - 1, by omega⟩
    rw [pT_l1, pT_l1]
    repeat (first | with_reducible exact pW_le hK _ _ | with_reducible exact pT_j2_le hK (fun a0 a1 a2 a3 a4 a5 a6 a7 a8 a9 a10 a11 a12 a13 a14 => ih (by omega) a0 a1 a2 a3 a4 a5 a6 a7 a8 a9 a10 a11 a12 a13 a14) _ _ _ _ _ _ _ _ _ _ _ _ _ _ _ _ | with_reducible exact print_Set_le hK _ | with_reducible exact hgo0 _ _ _ _ | with_reducible exact print_times_le hK _ _ | with_reducible exact strings_Join_le hK _ _ | with_reducible exact Le.refl _ | refine Le.bif ?_ ?_ | refine Le.bind ?_ (fun _ => ?_))
theorem pT_l0_le {K K' : Nat} (hK : K ≤ K') : ∀ {k k' : Nat} (hk : k ≤ k') (x0 : List aNd) (x18_0_3 : Int) (x19_0_4 : Int) (y4_0_1 : List ByteArray), Le (pT_l0 K k x0 x18_0_3 x19_0_4 y4_0_1) (pT_l0 K' k' x0 x18_0_3 x19_0_4 y4_0_1) := by
  intro k
  induction k with
  | zero => intro k' hk x0 x18_0_3 x19_0_4 y4_0_1 r h; cases (show (none : Option (ByteArray × Bool)) = some r from h)
  | succ k ih =>
    intro k' hk x0 x18_0_3 x19_0_4 y4_0_1
    obtain ⟨k', rfl⟩ : ∃ j, k' = j + 1 := ⟨k' - 1, by omega⟩
    rw [pT_l0, pT_l0]
    repeat (first | with_reducible exact pT_l1_le hK (fun a0 a1 a2 a3 => ih (by omega) a0 a1 a2 a3) hK _ _ _ _ _ _ _ _ _ _ _ _ _ _ _ | with_reducible exact Le.refl _ | refine Le.bif ?_ ?_ | refine Le.bind ?_ (fun _ => ?_))
theorem pT_le {K K' : Nat} (hK : K ≤ K') (x0 : List aNd) : Le (pT K x0) (pT K' x0) := by
  unfold pT
  repeat (first | with_reducible exact sy_Right_le hK _ | with_reducible exact pT_l0_le hK hK _ _ _ _ | with_reducible exact Le.refl _ | refine Le.bif ?_ ?_ | refine Le.bind ?_ (fun _ => ?_))
theorem l5_shown_le {K K' : Nat} (hK : K ≤ K') : Le (l5_shown K ) (l5_shown K' ) := by
  unfold l5_shown
  repeat (first | with_reducible exact r4_Parse_le hK _ | with_reducible exact pT_le hK _ | with_reducible exact Le.refl _ | refine Le.bif ?_ ?_ | refine Le.bind ?_ (fun _ => ?_))
theorem r5_Byte_j1_le {K K' : Nat} (hK : K ≤ K') (x0 : Int) : Le (r5_Byte_j1 K x0) (r5_Byte_j1 K' x0) := by
  unfold r5_Byte_j1
  repeat (first | with_reducible exact Le.refl _ | refine Le.bif ?_ ?_ | refine Le.bind ?_ (fun _ => ?_))
theorem r5_Byte_l0_le {K K' : Nat} (hK : K ≤ K') : ∀ {k k' : Nat} (hk : k ≤ k') (x0 : Int) (x3_0_1 : ByteArray) (x4_0_2 : Int), Le (r5_Byte_l0 K k x0 x3_0_1 x4_0_2) (r5_Byte_l0 K' k' x0 x3_0_1 x4_0_2) := by
  intro k
  induction k with
  | zero => intro k' hk x0 x3_0_1 x4_0_2 r h; cases (show (none : Option ByteArray) = some r from h)
  | succ k ih =>
    intro k' hk x0 x3_0_1 x4_0_2
    obtain ⟨k', rfl⟩ : ∃ j, k' = j + 1 := ⟨k' - 1, by omega⟩
    rw [r5_Byte_l0, r5_Byte_l0]
    repeat (first | with_reducible exact ih (by omega) _ _ _ | with_reducible exact r5_Byte_j1_le hK _ | with_reducible exact Le.refl _ | refine Le.bif ?_ ?_ | refine Le.bind ?_ (fun _ => ?_))
theorem r5_Byte_le {K K' : Nat} (hK : K ≤ K') (x0 : Int) : Le (r5_Byte K x0) (r5_Byte K' x0) := by
  unfold r5_Byte
  repeat (first | with_reducible exact r5_Byte_l0_le hK hK _ _ _ | with_reducible exact Le.refl _ | refine Le.bif ?_ ?_ | refine Le.bind ?_ (fun _ => ?_))
end Go.Rv

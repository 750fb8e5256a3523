/- With more fuel each plain function answers the same: printed by a program of ours. -/
import Derived.Test.YtaipjabggdifoaaRgP
import Derived.Test.YtaipjabggdifoaaRvZ
namespace Go.Rv
set_option linter.unusedVariables false

theorem split_Right_l0_le {K K' : Nat} (hK : K ≤ K') : ∀ {k k' : Nat} (hk : k ≤ k') (x3_0_2 : Int) (x0 : api_Split) (x8_0_4 : Int), Le (split_Right_l0 K k x3_0_2 x0 x8_0_4) (split_Right_l0 K' k' x3_0_2 x0 x8_0_4) := by
  intro k
  induction k with
  | zero => intro k' hk x3_0_2 x0 x8_0_4 r h; cases (show (none : Option Bool) = some r from h)
  | succ k ih =>
    intro k' hk x3_0_2 x0 x8_0_4
    obtain ⟨k', rfl⟩ : ∃ j, k' = j + 1 := ⟨k' - 1, by omega⟩
    rw [split_Right_l0, split_Right_l0]
    repeat (first | with_reducible exact ih (by omega) _ _ _ | with_reducible exact Le.refl _ | refine Le.bif ?_ ?_ | refine Le.bind ?_ (fun _ => ?_))
  
theorem split_Right_le {K K' : Nat} (hK : K ≤ K') (x0 : api_Split) : Le (split_Right K x0) (split_Right K' x0) := by
  unfold split_Right
  repeat (first | with_reducible exact split_Right_l0_le hK hK _ _ _ | with_reducible exact Le.refl _ | refine Le.bif ?_ ?_ | refine Le.bind ?_ (fun _ => ?_))

theorem auto_Codes_j0_le {K K' : Nat} (hK : K ≤ K') : Le (auto_Codes_j0 K ) (auto_Codes_j0 K' ) := by
  unfold auto_Codes_j0
  repeat (first | with_reducible exact Le.refl _ | refine Le.bif ?_ ?_ | refine Le.bind ?_ (fun _ => ?_))

theorem auto_Codes_l1_le {K K' : Nat} (hK : K ≤ K') : ∀ {k k' : Nat} (hk : k ≤ k') (x3_1_0 : Int) (x0 : Int) (x11_1_2 : Int), Le (auto_Codes_l1 K k x3_1_0 x0 x11_1_2) (auto_Codes_l1 K' k' x3_1_0 x0 x11_1_2) := by
  intro k
  induction k with
  | zero => intro k' hk x3_1_0 x0 x11_1_2 r h; cases (show (none : Option Int) = some r from h)
  | succ k ih =>
    intro k' hk x3_1_0 x0 x11_1_2
    obtain ⟨k', rfl⟩ : ∃ j, k' = j + 1 := ⟨k' - 1, by omega⟩
    rw [auto_Codes_l1, auto_Codes_l1]
    repeat (first | with_reducible exact ih (by omega) _ _ _ | with_reducible exact Le.refl _ | refine Le.bif ?_ ?_ | refine Le.bind ?_ (fun _ => ?_))
  
theorem auto_Codes_le {K K' : Nat} (hK : K ≤ K') (x0 : Int) : Le (auto_Codes K x0) (auto_Codes K' x0) := by
  unfold auto_Codes
  repeat (first | with_reducible exact auto_Codes_j0_le hK | with_reducible exact auto_Codes_l1_le hK hK _ _ _ | with_reducible exact Le.refl _ | refine Le.bif ?_ ?_ | refine Le.bind ?_ (fun _ => ?_))

theorem auto_rises_j1_le {K K' : Nat} (hK : K ≤ K') : Le (auto_rises_j1 K ) (auto_rises_j1 K' ) := by
  unfold auto_rises_j1
  repeat (first | with_reducible exact Le.refl _ | refine Le.bif ?_ ?_ | refine Le.bind ?_ (fun _ => ?_))

theorem auto_rises_l0_le {K K' : Nat} (hK : K ≤ K') : ∀ {k k' : Nat} (hk : k ≤ k') (x1 : Int) (x5_0_1 : Int) (x0 : List Int) (x9_0_3 : Int) (x10_0_4 : Int), Le (auto_rises_l0 K k x1 x5_0_1 x0 x9_0_3 x10_0_4) (auto_rises_l0 K' k' x1 x5_0_1 x0 x9_0_3 x10_0_4) := by
  intro k
  induction k with
  | zero => intro k' hk x1 x5_0_1 x0 x9_0_3 x10_0_4 r h; cases (show (none : Option Bool) = some r from h)
  | succ k ih =>
    intro k' hk x1 x5_0_1 x0 x9_0_3 x10_0_4
    obtain ⟨k', rfl⟩ : ∃ j, k' = j + 1 := ⟨k' - 1, by omega⟩
    rw [auto_rises_l0, auto_rises_l0]
    repeat (first | with_reducible exact auto_rises_j1_le hK | with_reducible exact ih (by omega) _ _ _ _ _ | with_reducible exact Le.refl _ | refine Le.bif ?_ ?_ | refine Le.bind ?_ (fun _ => ?_))
  
theorem auto_rises_le {K K' : Nat} (hK : K ≤ K') (x0 : List Int) (x1 : Int) : Le (auto_rises K x0 x1) (auto_rises K' x0 x1) := by
  unfold auto_rises
  repeat (first | with_reducible exact auto_rises_l0_le hK hK _ _ _ _ _ | with_reducible exact Le.refl _ | refine Le.bif ?_ ?_ | refine Le.bind ?_ (fun _ => ?_))

theorem slices_Index_int_l0_le {K K' : Nat} (hK : K ≤ K') : ∀ {k k' : Nat} (hk : k ≤ k') (x0 : List Int) (x1 : Int) (x7_0_2 : Int) (x8_0_3 : Int), Le (slices_Index_int_l0 K k x0 x1 x7_0_2 x8_0_3) (slices_Index_int_l0 K' k' x0 x1 x7_0_2 x8_0_3) := by
  intro k
  induction k with
  | zero => intro k' hk x0 x1 x7_0_2 x8_0_3 r h; cases (show (none : Option Int) = some r from h)
  | succ k ih =>
    intro k' hk x0 x1 x7_0_2 x8_0_3
    obtain ⟨k', rfl⟩ : ∃ j, k' = j + 1 := ⟨k' - 1, by omega⟩
    rw [slices_Index_int_l0, slices_Index_int_l0]
    repeat (first | with_reducible exact ih (by omega) _ _ _ _ | with_reducible exact Le.refl _ | refine Le.bif ?_ ?_ | refine Le.bind ?_ (fun _ => ?_))
  
theorem slices_Index_int_le {K K' : Nat} (hK : K ≤ K') (x0 : List Int) (x1 : Int) : Le (slices_Index_int K x0 x1) (slices_Index_int K' x0 x1) := by
  unfold slices_Index_int
  repeat (first | with_reducible exact slices_Index_int_l0_le hK hK _ _ _ _ | with_reducible exact Le.refl _ | refine Le.bif ?_ ?_ | refine Le.bind ?_ (fun _ => ?_))

theorem slices_Contains_int_le {K K' : Nat} (hK : K ≤ K') (x0 : List Int) (x1 : Int) : Le (slices_Contains_int K x0 x1) (slices_Contains_int K' x0 x1) := by
  unfold slices_Contains_int
  repeat (first | with_reducible exact slices_Index_int_le hK _ _ | with_reducible exact Le.refl _ | refine Le.bif ?_ ?_ | refine Le.bind ?_ (fun _ => ?_))

theorem auto_checker_move_j0_le {K K' : Nat} (hK : K ≤ K') : Le (auto_checker_move_j0 K ) (auto_checker_move_j0 K' ) := by
  unfold auto_checker_move_j0
  repeat (first | with_reducible exact Le.refl _ | refine Le.bif ?_ ?_ | refine Le.bind ?_ (fun _ => ?_))

theorem auto_checker_move_j2_le {K K' : Nat} (hK : K ≤ K') : Le (auto_checker_move_j2 K ) (auto_checker_move_j2 K' ) := by
  unfold auto_checker_move_j2
  repeat (first | with_reducible exact Le.refl _ | refine Le.bif ?_ ?_ | refine Le.bind ?_ (fun _ => ?_))

theorem auto_checker_move_l1_le {K K' : Nat} (hK : K ≤ K') : ∀ {k k' : Nat} (hk : k ≤ k') (x2 : api_Move) (x45_1_11 : Int) (x46_1_12 : Int) (x0 : auto_checker) (x1 : api_State), Le (auto_checker_move_l1 K k x2 x45_1_11 x46_1_12 x0 x1) (auto_checker_move_l1 K' k' x2 x45_1_11 x46_1_12 x0 x1) := by
  intro k
  induction k with
  | zero => intro k' hk x2 x45_1_11 x46_1_12 x0 x1 r h; cases (show (none : Option Bool) = some r from h)
  | succ k ih =>
    intro k' hk x2 x45_1_11 x46_1_12 x0 x1
    obtain ⟨k', rfl⟩ : ∃ j, k' = j + 1 := ⟨k' - 1, by omega⟩
    rw [auto_checker_move_l1, auto_checker_move_l1]
    repeat (first | with_reducible exact auto_checker_move_j2_le hK | with_reducible exact slices_Contains_int_le hK _ _ | with_reducible exact ih (by omega) _ _ _ _ _ | with_reducible exact Le.refl _ | refine Le.bif ?_ ?_ | refine Le.bind ?_ (fun _ => ?_))
  
theorem auto_checker_move_le {K K' : Nat} (hK : K ≤ K') (x0 : auto_checker) (x1 : api_State) (x2 : api_Move) : Le (auto_checker_move K x0 x1 x2) (auto_checker_move K' x0 x1 x2) := by
  unfold auto_checker_move
  repeat (first | with_reducible exact auto_checker_move_j0_le hK | with_reducible exact auto_checker_move_l1_le hK hK _ _ _ _ _ | with_reducible exact Le.refl _ | refine Le.bif ?_ ?_ | refine Le.bind ?_ (fun _ => ?_))

theorem auto_checker_state_1_le {K K' : Nat} (hK : K ≤ K') (x0 : api_Move) (x1 : auto_checker) (x2 : api_State) : Le (auto_checker_state_1 K x0 x1 x2) (auto_checker_state_1 K' x0 x1 x2) := by
  unfold auto_checker_state_1
  repeat (first | with_reducible exact auto_checker_move_le hK _ _ _ | with_reducible exact Le.refl _ | refine Le.bif ?_ ?_ | refine Le.bind ?_ (fun _ => ?_))

theorem slices_IndexFunc_Move_l0_le {K K' : Nat} (hK : K ≤ K') : ∀ {k k' : Nat} (hk : k ≤ k') (x0 : List api_Move) (x7_0_9 : Int) (x8_0_10 : Int) (x1c0 : auto_checker) (x1c1 : api_State), Le (slices_IndexFunc_Move_l0 K k x0 x7_0_9 x8_0_10 x1c0 x1c1) (slices_IndexFunc_Move_l0 K' k' x0 x7_0_9 x8_0_10 x1c0 x1c1) := by
  intro k
  induction k with
  | zero => intro k' hk x0 x7_0_9 x8_0_10 x1c0 x1c1 r h; cases (show (none : Option Int) = some r from h)
  | succ k ih =>
    intro k' hk x0 x7_0_9 x8_0_10 x1c0 x1c1
    obtain ⟨k', rfl⟩ : ∃ j, k' = j + 1 := ⟨k' - 1, by omega⟩
    rw [slices_IndexFunc_Move_l0, slices_IndexFunc_Move_l0]
    repeat (first | with_reducible exact auto_checker_state_1_le hK _ _ _ | with_reducible exact ih (by omega) _ _ _ _ _ | with_reducible exact Le.refl _ | refine Le.bif ?_ ?_ | refine Le.bind ?_ (fun _ => ?_))
  
theorem slices_IndexFunc_Move_le {K K' : Nat} (hK : K ≤ K') (x0 : List api_Move) (x1c0 : auto_checker) (x1c1 : api_State) : Le (slices_IndexFunc_Move K x0 x1c0 x1c1) (slices_IndexFunc_Move K' x0 x1c0 x1c1) := by
  unfold slices_IndexFunc_Move
  repeat (first | with_reducible exact slices_IndexFunc_Move_l0_le hK hK _ _ _ _ _ | with_reducible exact Le.refl _ | refine Le.bif ?_ ?_ | refine Le.bind ?_ (fun _ => ?_))

theorem slices_ContainsFunc_Move_le {K K' : Nat} (hK : K ≤ K') (x0 : List api_Move) (x1c0 : auto_checker) (x1c1 : api_State) : Le (slices_ContainsFunc_Move K x0 x1c0 x1c1) (slices_ContainsFunc_Move K' x0 x1c0 x1c1) := by
  unfold slices_ContainsFunc_Move
  repeat (first | with_reducible exact slices_IndexFunc_Move_le hK _ _ _ | with_reducible exact Le.refl _ | refine Le.bif ?_ ?_ | refine Le.bind ?_ (fun _ => ?_))

theorem auto_checker_state_j0_le {K K' : Nat} (hK : K ≤ K') : Le (auto_checker_state_j0 K ) (auto_checker_state_j0 K' ) := by
  unfold auto_checker_state_j0
  repeat (first | with_reducible exact Le.refl _ | refine Le.bif ?_ ?_ | refine Le.bind ?_ (fun _ => ?_))

theorem auto_checker_state_j2_le {K K' : Nat} (hK : K ≤ K') : Le (auto_checker_state_j2 K ) (auto_checker_state_j2 K' ) := by
  unfold auto_checker_state_j2
  repeat (first | with_reducible exact Le.refl _ | refine Le.bif ?_ ?_ | refine Le.bind ?_ (fun _ => ?_))

theorem auto_checker_state_l1_le {K K' : Nat} (hK : K ≤ K') : ∀ {k k' : Nat} (hk : k ≤ k') (x1 : api_State) (x46_1_9 : Int) (x47_1_10 : Int) (x0 : auto_checker), Le (auto_checker_state_l1 K k x1 x46_1_9 x47_1_10 x0) (auto_checker_state_l1 K' k' x1 x46_1_9 x47_1_10 x0) := by
  intro k
  induction k with
  | zero => intro k' hk x1 x46_1_9 x47_1_10 x0 r h; cases (show (none : Option Bool) = some r from h)
  | succ k ih =>
    intro k' hk x1 x46_1_9 x47_1_10 x0
    obtain ⟨k', rfl⟩ : ∃ j, k' = j + 1 := ⟨k' - 1, by omega⟩
    rw [auto_checker_state_l1, auto_checker_state_l1]
    repeat (first | with_reducible exact auto_checker_state_j2_le hK | with_reducible exact slices_ContainsFunc_Move_le hK _ _ _ | with_reducible exact ih (by omega) _ _ _ _ | with_reducible exact Le.refl _ | refine Le.bif ?_ ?_ | refine Le.bind ?_ (fun _ => ?_))
  
theorem auto_checker_state_le {K K' : Nat} (hK : K ≤ K') (x0 : auto_checker) (x1 : api_State) : Le (auto_checker_state K x0 x1) (auto_checker_state K' x0 x1) := by
  unfold auto_checker_state
  repeat (first | with_reducible exact auto_Codes_le hK _ | with_reducible exact auto_checker_state_j0_le hK | with_reducible exact auto_rises_le hK _ _ | with_reducible exact auto_checker_state_l1_le hK hK _ _ _ _ | with_reducible exact Le.refl _ | refine Le.bif ?_ ?_ | refine Le.bind ?_ (fun _ => ?_))

theorem auto_Right_1_le {K K' : Nat} (hK : K ≤ K') (x0 : api_State) (x1 : auto_checker) : Le (auto_Right_1 K x0 x1) (auto_Right_1 K' x0 x1) := by
  unfold auto_Right_1
  repeat (first | with_reducible exact auto_checker_state_le hK _ _ | with_reducible exact Le.refl _ | refine Le.bif ?_ ?_ | refine Le.bind ?_ (fun _ => ?_))

theorem slices_IndexFunc_State_l0_le {K K' : Nat} (hK : K ≤ K') : ∀ {k k' : Nat} (hk : k ≤ k') (x0 : List api_State) (x7_0_5 : Int) (x8_0_6 : Int) (x1c0 : auto_checker), Le (slices_IndexFunc_State_l0 K k x0 x7_0_5 x8_0_6 x1c0) (slices_IndexFunc_State_l0 K' k' x0 x7_0_5 x8_0_6 x1c0) := by
  intro k
  induction k with
  | zero => intro k' hk x0 x7_0_5 x8_0_6 x1c0 r h; cases (show (none : Option Int) = some r from h)
  | succ k ih =>
    intro k' hk x0 x7_0_5 x8_0_6 x1c0
    obtain ⟨k', rfl⟩ : ∃ j, k' = j + 1 := ⟨k' - 1, by omega⟩
    rw [slices_IndexFunc_State_l0, slices_IndexFunc_State_l0]
    repeat (first | with_reducible exact auto_Right_1_le hK _ _ | with_reducible exact ih (by omega) _ _ _ _ | with_reducible exact Le.refl _ | refine Le.bif ?_ ?_ | refine Le.bind ?_ (fun _ => ?_))
  
theorem slices_IndexFunc_State_le {K K' : Nat} (hK : K ≤ K') (x0 : List api_State) (x1c0 : auto_checker) : Le (slices_IndexFunc_State K x0 x1c0) (slices_IndexFunc_State K' x0 x1c0) := by
  unfold slices_IndexFunc_State
  repeat (first | with_reducible exact slices_IndexFunc_State_l0_le hK hK _ _ _ _ | with_reducible exact Le.refl _ | refine Le.bif ?_ ?_ | refine Le.bind ?_ (fun _ => ?_))

theorem slices_ContainsFunc_State_le {K K' : Nat} (hK : K ≤ K') (x0 : List api_State) (x1c0 : auto_checker) : Le (slices_ContainsFunc_State K x0 x1c0) (slices_ContainsFunc_State K' x0 x1c0) := by
  unfold slices_ContainsFunc_State
  repeat (first | with_reducible exact slices_IndexFunc_State_le hK _ _ | with_reducible exact Le.refl _ | refine Le.bif ?_ ?_ | refine Le.bind ?_ (fun _ => ?_))

theorem auto_Right_j0_le {K K' : Nat} (hK : K ≤ K') : Le (auto_Right_j0 K ) (auto_Right_j0 K' ) := by
  unfold auto_Right_j0
  repeat (first | with_reducible exact Le.refl _ | refine Le.bif ?_ ?_ | refine Le.bind ?_ (fun _ => ?_))

theorem auto_Right_j2_le {K K' : Nat} (hK : K ≤ K') : Le (auto_Right_j2 K ) (auto_Right_j2 K' ) := by
  unfold auto_Right_j2
  repeat (first | with_reducible exact Le.refl _ | refine Le.bif ?_ ?_ | refine Le.bind ?_ (fun _ => ?_))

theorem auto_Right_l1_le {K K' : Nat} (hK : K ≤ K') : ∀ {k k' : Nat} (hk : k ≤ k') (x0 : api_Auto) (x46_1_5 : Int) (x47_1_6 : Int), Le (auto_Right_l1 K k x0 x46_1_5 x47_1_6) (auto_Right_l1 K' k' x0 x46_1_5 x47_1_6) := by
  intro k
  induction k with
  | zero => intro k' hk x0 x46_1_5 x47_1_6 r h; cases (show (none : Option Bool) = some r from h)
  | succ k ih =>
    intro k' hk x0 x46_1_5 x47_1_6
    obtain ⟨k', rfl⟩ : ∃ j, k' = j + 1 := ⟨k' - 1, by omega⟩
    rw [auto_Right_l1, auto_Right_l1]
    repeat (first | with_reducible exact auto_Right_j2_le hK | with_reducible exact ih (by omega) _ _ _ | with_reducible exact slices_ContainsFunc_State_le hK _ _ | with_reducible exact Le.refl _ | refine Le.bif ?_ ?_ | refine Le.bind ?_ (fun _ => ?_))
  
theorem auto_Right_le {K K' : Nat} (hK : K ≤ K') (x0 : api_Auto) : Le (auto_Right K x0) (auto_Right K' x0) := by
  unfold auto_Right
  repeat (first | with_reducible exact split_Right_le hK _ | with_reducible exact auto_Right_j0_le hK | with_reducible exact auto_Right_l1_le hK hK _ _ _ | with_reducible exact Le.refl _ | refine Le.bif ?_ ?_ | refine Le.bind ?_ (fun _ => ?_))

theorem slices_Grow_byte_le {K K' : Nat} (hK : K ≤ K') (x1 : Int) : Le (slices_Grow_byte K x1) (slices_Grow_byte K' x1) := by
  unfold slices_Grow_byte
  repeat (first | with_reducible exact Le.refl _ | refine Le.bif ?_ ?_ | refine Le.bind ?_ (fun _ => ?_))

theorem slices_Concat_byte_l1_le {K K' : Nat} (hK : K ≤ K') : ∀ {k k' : Nat} (hk : k ≤ k') (x0 : List (List Int)) (x26_1_2 : Int) (x27_1_3 : Int) (y6_1_0 : List Int), Le (slices_Concat_byte_l1 K k x0 x26_1_2 x27_1_3 y6_1_0) (slices_Concat_byte_l1 K' k' x0 x26_1_2 x27_1_3 y6_1_0) := by
  intro k
  induction k with
  | zero => intro k' hk x0 x26_1_2 x27_1_3 y6_1_0 r h; cases (show (none : Option (List Int)) = some r from h)
  | succ k ih =>
    intro k' hk x0 x26_1_2 x27_1_3 y6_1_0
    obtain ⟨k', rfl⟩ : ∃ j, k' = j + 1 := ⟨k' - 1, by omega⟩
    rw [slices_Concat_byte_l1, slices_Concat_byte_l1]
    repeat (first | with_reducible exact ih (by omega) _ _ _ _ | with_reducible exact Le.refl _ | refine Le.bif ?_ ?_ | refine Le.bind ?_ (fun _ => ?_))
  
theorem slices_Concat_byte_l0_le {K K' : Nat} (hK : K ≤ K') : ∀ {k k' : Nat} (hk : k ≤ k') (x0 : List (List Int)) (x3_0_1 : Int) (x10_0_3 : Int) (x11_0_4 : Int), Le (slices_Concat_byte_l0 K k x0 x3_0_1 x10_0_3 x11_0_4) (slices_Concat_byte_l0 K' k' x0 x3_0_1 x10_0_3 x11_0_4) := by
  intro k
  induction k with
  | zero => intro k' hk x0 x3_0_1 x10_0_3 x11_0_4 r h; cases (show (none : Option (List Int)) = some r from h)
  | succ k ih =>
    intro k' hk x0 x3_0_1 x10_0_3 x11_0_4
    obtain ⟨k', rfl⟩ : ∃ j, k' = j + 1 := ⟨k' - 1, by omega⟩
    rw [slices_Concat_byte_l0, slices_Concat_byte_l0]
    repeat (first | with_reducible exact ih (by omega) _ _ _ _ | with_reducible exact slices_Grow_byte_le hK _ | with_reducible exact slices_Concat_byte_l1_le hK hK _ _ _ _ | with_reducible exact Le.refl _ | refine Le.bif ?_ ?_ | refine Le.bind ?_ (fun _ => ?_))
  
theorem slices_Concat_byte_le {K K' : Nat} (hK : K ≤ K') (x0 : List (List Int)) : Le (slices_Concat_byte K x0) (slices_Concat_byte K' x0) := by
  unfold slices_Concat_byte
  repeat (first | with_reducible exact slices_Concat_byte_l0_le hK hK _ _ _ _ | with_reducible exact Le.refl _ | refine Le.bif ?_ ?_ | refine Le.bind ?_ (fun _ => ?_))

theorem slices_Clone_byte_le {K K' : Nat} (hK : K ≤ K') (x0 : List Int) : Le (slices_Clone_byte K x0) (slices_Clone_byte K' x0) := by
  unfold slices_Clone_byte
  repeat (first | with_reducible exact Le.refl _ | refine Le.bif ?_ ?_ | refine Le.bind ?_ (fun _ => ?_))

theorem table_Number_l0_le {K K' : Nat} (hK : K ≤ K') : ∀ {k k' : Nat} (hk : k ≤ k') (x1_0_0 : Int) (y5_0_1 : List Int), Le (table_Number_l0 K k x1_0_0 y5_0_1) (table_Number_l0 K' k' x1_0_0 y5_0_1) := by
  intro k
  induction k with
  | zero => intro k' hk x1_0_0 y5_0_1 r h; cases (show (none : Option (List Int)) = some r from h)
  | succ k ih =>
    intro k' hk x1_0_0 y5_0_1
    obtain ⟨k', rfl⟩ : ∃ j, k' = j + 1 := ⟨k' - 1, by omega⟩
    rw [table_Number_l0, table_Number_l0]
    repeat (first | with_reducible exact ih (by omega) _ _ | with_reducible exact Le.refl _ | refine Le.bif ?_ ?_ | refine Le.bind ?_ (fun _ => ?_))
  
theorem table_Number_le {K K' : Nat} (hK : K ≤ K') (x0 : List Int) (x1 : Int) : Le (table_Number K x0 x1) (table_Number K' x0 x1) := by
  unfold table_Number
  repeat (first | with_reducible exact slices_Clone_byte_le hK _ | with_reducible exact table_Number_l0_le hK hK _ _ | with_reducible exact Le.refl _ | refine Le.bif ?_ ?_ | refine Le.bind ?_ (fun _ => ?_))

theorem table_writer_num_l0_le {K K' : Nat} (hK : K ≤ K') : ∀ {k k' : Nat} (hk : k ≤ k') (x1 : List Int) (x7_0_2 : Int) (x8_0_3 : Int) (y0_0_0 : List Int), Le (table_writer_num_l0 K k x1 x7_0_2 x8_0_3 y0_0_0) (table_writer_num_l0 K' k' x1 x7_0_2 x8_0_3 y0_0_0) := by
  intro k
  induction k with
  | zero => intro k' hk x1 x7_0_2 x8_0_3 y0_0_0 r h; cases (show (none : Option table_writer) = some r from h)
  | succ k ih =>
    intro k' hk x1 x7_0_2 x8_0_3 y0_0_0
    obtain ⟨k', rfl⟩ : ∃ j, k' = j + 1 := ⟨k' - 1, by omega⟩
    rw [table_writer_num_l0, table_writer_num_l0]
    repeat (first | with_reducible exact table_Number_le hK _ _ | with_reducible exact ih (by omega) _ _ _ _ | with_reducible exact Le.refl _ | refine Le.bif ?_ ?_ | refine Le.bind ?_ (fun _ => ?_))
  
theorem table_writer_num_le {K K' : Nat} (hK : K ≤ K') (x0 : table_writer) (x1 : List Int) : Le (table_writer_num K x0 x1) (table_writer_num K' x0 x1) := by
  unfold table_writer_num
  repeat (first | with_reducible exact table_writer_num_l0_le hK hK _ _ _ _ | with_reducible exact Le.refl _ | refine Le.bif ?_ ?_ | refine Le.bind ?_ (fun _ => ?_))

theorem table_writer_list_le {K K' : Nat} (hK : K ≤ K') (x0 : table_writer) (x1 : List Int) : Le (table_writer_list K x0 x1) (table_writer_list K' x0 x1) := by
  unfold table_writer_list
  repeat (first | with_reducible exact table_writer_num_le hK _ _ | with_reducible exact Le.refl _ | refine Le.bif ?_ ?_ | refine Le.bind ?_ (fun _ => ?_))

theorem table_Encode_l4_le {K K' : Nat} (hK : K ≤ K') {go3 go3' : api_Auto → Int → Int → (List (List api_Move)) → Int → Int → (List Int) → (List Int) → (List Int) → (List Int) → (List (List api_Move)) → Option ((List Int) × Int)} (hgo3 : ∀ (x0 : api_Auto) (x68_2_2 : Int) (x69_3_7 : Int) (x74_3_8 : List (List api_Move)) (x75_3_9 : Int) (x76_3_10 : Int) (y4_3_0 : List Int) (y10_3_1 : List Int) (y10_3_2 : List Int) (y10_3_3 : List Int) (y10_3_4 : List (List api_Move)), Le (go3 x0 x68_2_2 x69_3_7 x74_3_8 x75_3_9 x76_3_10 y4_3_0 y10_3_1 y10_3_2 y10_3_3 y10_3_4) (go3' x0 x68_2_2 x69_3_7 x74_3_8 x75_3_9 x76_3_10 y4_3_0 y10_3_1 y10_3_2 y10_3_3 y10_3_4)) : ∀ {k k' : Nat} (hk : k ≤ k') (x0 : api_Auto) (x68_2_2 : Int) (x69_4_7 : Int) (x74_3_8 : List (List api_Move)) (x75_3_9 : Int) (x76_4_10 : Int) (x90_4_11 : List api_Move) (x91_4_12 : Int) (x92_4_13 : Int) (y4_4_0 : List Int) (y10_3_1 : List Int) (y10_3_2 : List Int) (y10_3_3 : List Int) (y10_3_4 : List (List api_Move)), Le (table_Encode_l4 K go3 k x0 x68_2_2 x69_4_7 x74_3_8 x75_3_9 x76_4_10 x90_4_11 x91_4_12 x92_4_13 y4_4_0 y10_3_1 y10_3_2 y10_3_3 y10_3_4) (table_Encode_l4 K' go3' k' x0 x68_2_2 x69_4_7 x74_3_8 x75_3_9 x76_4_10 x90_4_11 x91_4_12 x92_4_13 y4_4_0 y10_3_1 y10_3_2 y10_3_3 y10_3_4) := by
  intro k
  induction k with
  | zero => intro k' hk x0 x68_2_2 x69_4_7 x74_3_8 x75_3_9 x76_4_10 x90_4_11 x91_4_12 x92_4_13 y4_4_0 y10_3_1 y10_3_2 y10_3_3 y10_3_4 r h; cases (show (none : Option ((List Int) × Int)) = some r from h)
  | succ k ih =>
    intro k' hk x0 x68_2_2 x69_4_7 x74_3_8 x75_3_9 x76_4_10 x90_4_11 x91_4_12 x92_4_13 y4_4_0 y10_3_1 y10_3_2 y10_3_3 y10_3_4
    obtain ⟨k', rfl⟩ : ∃ j, k' = j + 1 := ⟨k' - 1, by omega⟩
    rw [table_Encode_l4, table_Encode_l4]
    repeat (first | with_reducible exact table_writer_num_le hK _ _ | with_reducible exact ih (by omega) _ _ _ _ _ _ _ _ _ _ _ _ _ _ | with_reducible exact hgo3 _ _ _ _ _ _ _ _ _ _ _ | with_reducible exact Le.refl _ | refine Le.bif ?_ ?_ | refine Le.bind ?_ (fun _ => ?_))
  
theorem table_Encode_l3_le {K K' : Nat} (hK : K ≤ K') {go2 go2' : api_Auto → Int → Int → (List Int) → Option ((List Int) × Int)} (hgo2 : ∀ (x0 : api_Auto) (x68_2_2 : Int) (x69_2_3 : Int) (y4_2_0 : List Int), Le (go2 x0 x68_2_2 x69_2_3 y4_2_0) (go2' x0 x68_2_2 x69_2_3 y4_2_0)) : ∀ {k k' : Nat} (hk : k ≤ k') (x0 : api_Auto) (x68_2_2 : Int) (x69_3_7 : Int) (x74_3_8 : List (List api_Move)) (x75_3_9 : Int) (x76_3_10 : Int) (y4_3_0 : List Int) (y10_3_1 : List Int) (y10_3_2 : List Int) (y10_3_3 : List Int) (y10_3_4 : List (List api_Move)), Le (table_Encode_l3 K go2 k x0 x68_2_2 x69_3_7 x74_3_8 x75_3_9 x76_3_10 y4_3_0 y10_3_1 y10_3_2 y10_3_3 y10_3_4) (table_Encode_l3 K' go2' k' x0 x68_2_2 x69_3_7 x74_3_8 x75_3_9 x76_3_10 y4_3_0 y10_3_1 y10_3_2 y10_3_3 y10_3_4) := by
  intro k
  induction k with
  | zero => intro k' hk x0 x68_2_2 x69_3_7 x74_3_8 x75_3_9 x76_3_10 y4_3_0 y10_3_1 y10_3_2 y10_3_3 y10_3_4 r h; cases (show (none : Option ((List Int) × Int)) = some r from h)
  | succ k ih =>
    intro k' hk x0 x68_2_2 x69_3_7 x74_3_8 x75_3_9 x76_3_10 y4_3_0 y10_3_1 y10_3_2 y10_3_3 y10_3_4
    obtain ⟨k', rfl⟩ : ∃ j, k' = j + 1 := ⟨k' - 1, by omega⟩
    rw [table_Encode_l3, table_Encode_l3]
    repeat (first | with_reducible exact table_writer_num_le hK _ _ | with_reducible exact table_Encode_l4_le hK (fun a0 a1 a2 a3 a4 a5 a6 a7 a8 a9 a10 => ih (by omega) a0 a1 a2 a3 a4 a5 a6 a7 a8 a9 a10) hK _ _ _ _ _ _ _ _ _ _ _ _ _ _ | with_reducible exact hgo2 _ _ _ _ | with_reducible exact Le.refl _ | refine Le.bif ?_ ?_ | refine Le.bind ?_ (fun _ => ?_))
  
theorem table_Encode_l2_le {K K' : Nat} (hK : K ≤ K') : ∀ {k k' : Nat} (hk : k ≤ k') (x0 : api_Auto) (x68_2_2 : Int) (x69_2_3 : Int) (y4_2_0 : List Int), Le (table_Encode_l2 K k x0 x68_2_2 x69_2_3 y4_2_0) (table_Encode_l2 K' k' x0 x68_2_2 x69_2_3 y4_2_0) := by
  intro k
  induction k with
  | zero => intro k' hk x0 x68_2_2 x69_2_3 y4_2_0 r h; cases (show (none : Option ((List Int) × Int)) = some r from h)
  | succ k ih =>
    intro k' hk x0 x68_2_2 x69_2_3 y4_2_0
    obtain ⟨k', rfl⟩ : ∃ j, k' = j + 1 := ⟨k' - 1, by omega⟩
    rw [table_Encode_l2, table_Encode_l2]
    repeat (first | with_reducible exact table_Encode_l3_le hK (fun a0 a1 a2 a3 => ih (by omega) a0 a1 a2 a3) hK _ _ _ _ _ _ _ _ _ _ _ | with_reducible exact Le.refl _ | refine Le.bif ?_ ?_ | refine Le.bind ?_ (fun _ => ?_))
  
theorem table_Encode_l1_le {K K' : Nat} (hK : K ≤ K') : ∀ {k k' : Nat} (hk : k ≤ k') (x0 : api_Auto) (x52_1_6 : Int) (x53_1_7 : Int) (y4_1_4 : List Int), Le (table_Encode_l1 K k x0 x52_1_6 x53_1_7 y4_1_4) (table_Encode_l1 K' k' x0 x52_1_6 x53_1_7 y4_1_4) := by
  intro k
  induction k with
  | zero => intro k' hk x0 x52_1_6 x53_1_7 y4_1_4 r h; cases (show (none : Option ((List Int) × Int)) = some r from h)
  | succ k ih =>
    intro k' hk x0 x52_1_6 x53_1_7 y4_1_4
    obtain ⟨k', rfl⟩ : ∃ j, k' = j + 1 := ⟨k' - 1, by omega⟩
    rw [table_Encode_l1, table_Encode_l1]
    repeat (first | with_reducible exact table_writer_list_le hK _ _ | with_reducible exact ih (by omega) _ _ _ _ | with_reducible exact table_Encode_l2_le hK hK _ _ _ _ | with_reducible exact Le.refl _ | refine Le.bif ?_ ?_ | refine Le.bind ?_ (fun _ => ?_))
  
theorem table_Encode_l0_le {K K' : Nat} (hK : K ≤ K') : ∀ {k k' : Nat} (hk : k ≤ k') (x0 : api_Auto) (x35_0_6 : Int) (x36_0_7 : Int) (y4_0_4 : List Int), Le (table_Encode_l0 K k x0 x35_0_6 x36_0_7 y4_0_4) (table_Encode_l0 K' k' x0 x35_0_6 x36_0_7 y4_0_4) := by
  intro k
  induction k with
  | zero => intro k' hk x0 x35_0_6 x36_0_7 y4_0_4 r h; cases (show (none : Option ((List Int) × Int)) = some r from h)
  | succ k ih =>
    intro k' hk x0 x35_0_6 x36_0_7 y4_0_4
    obtain ⟨k', rfl⟩ : ∃ j, k' = j + 1 := ⟨k' - 1, by omega⟩
    rw [table_Encode_l0, table_Encode_l0]
    repeat (first | with_reducible exact table_writer_num_le hK _ _ | with_reducible exact ih (by omega) _ _ _ _ | with_reducible exact table_Encode_l1_le hK hK _ _ _ _ | with_reducible exact Le.refl _ | refine Le.bif ?_ ?_ | refine Le.bind ?_ (fun _ => ?_))
  
theorem table_Encode_le {K K' : Nat} (hK : K ≤ K') (x0 : api_Auto) : Le (table_Encode K x0) (table_Encode K' x0) := by
  unfold table_Encode
  repeat (first | with_reducible exact auto_Right_le hK _ | with_reducible exact slices_Concat_byte_le hK _ | with_reducible exact table_writer_num_le hK _ _ | with_reducible exact table_Encode_l0_le hK hK _ _ _ _ | with_reducible exact Le.refl _ | refine Le.bif ?_ ?_ | refine Le.bind ?_ (fun _ => ?_))

theorem raddleref11_Codes_j0_le {K K' : Nat} (hK : K ≤ K') : Le (raddleref11_Codes_j0 K ) (raddleref11_Codes_j0 K' ) := by
  unfold raddleref11_Codes_j0
  repeat (first | with_reducible exact Le.refl _ | refine Le.bif ?_ ?_ | refine Le.bind ?_ (fun _ => ?_))

theorem raddleref11_Codes_l1_le {K K' : Nat} (hK : K ≤ K') : ∀ {k k' : Nat} (hk : k ≤ k') (x0 : Int) (x3_1_1 : Int) (x4_1_2 : Int), Le (raddleref11_Codes_l1 K k x0 x3_1_1 x4_1_2) (raddleref11_Codes_l1 K' k' x0 x3_1_1 x4_1_2) := by
  intro k
  induction k with
  | zero => intro k' hk x0 x3_1_1 x4_1_2 r h; cases (show (none : Option Int) = some r from h)
  | succ k ih =>
    intro k' hk x0 x3_1_1 x4_1_2
    obtain ⟨k', rfl⟩ : ∃ j, k' = j + 1 := ⟨k' - 1, by omega⟩
    rw [raddleref11_Codes_l1, raddleref11_Codes_l1]
    repeat (first | with_reducible exact ih (by omega) _ _ _ | with_reducible exact Le.refl _ | refine Le.bif ?_ ?_ | refine Le.bind ?_ (fun _ => ?_))
  
theorem raddleref11_Codes_le {K K' : Nat} (hK : K ≤ K') (x0 : Int) : Le (raddleref11_Codes K x0) (raddleref11_Codes K' x0) := by
  unfold raddleref11_Codes
  repeat (first | with_reducible exact raddleref11_Codes_j0_le hK | with_reducible exact raddleref11_Codes_l1_le hK hK _ _ _ | with_reducible exact Le.refl _ | refine Le.bif ?_ ?_ | refine Le.bind ?_ (fun _ => ?_))

theorem raddleref11_in_l0_le {K K' : Nat} (hK : K ≤ K') : ∀ {k k' : Nat} (hk : k ≤ k') (x0 : List Int) (x1 : Int) (x5_0_2 : Int), Le (raddleref11_in_l0 K k x0 x1 x5_0_2) (raddleref11_in_l0 K' k' x0 x1 x5_0_2) := by
  intro k
  induction k with
  | zero => intro k' hk x0 x1 x5_0_2 r h; cases (show (none : Option Bool) = some r from h)
  | succ k ih =>
    intro k' hk x0 x1 x5_0_2
    obtain ⟨k', rfl⟩ : ∃ j, k' = j + 1 := ⟨k' - 1, by omega⟩
    rw [raddleref11_in_l0, raddleref11_in_l0]
    repeat (first | with_reducible exact ih (by omega) _ _ _ | with_reducible exact Le.refl _ | refine Le.bif ?_ ?_ | refine Le.bind ?_ (fun _ => ?_))
  
theorem raddleref11_in_le {K K' : Nat} (hK : K ≤ K') (x0 : List Int) (x1 : Int) : Le (raddleref11_in K x0 x1) (raddleref11_in K' x0 x1) := by
  unfold raddleref11_in
  repeat (first | with_reducible exact raddleref11_in_l0_le hK hK _ _ _ | with_reducible exact Le.refl _ | refine Le.bif ?_ ?_ | refine Le.bind ?_ (fun _ => ?_))

theorem raddleref09_rises_j1_le {K K' : Nat} (hK : K ≤ K') : Le (raddleref09_rises_j1 K ) (raddleref09_rises_j1 K' ) := by
  unfold raddleref09_rises_j1
  repeat (first | with_reducible exact Le.refl _ | refine Le.bif ?_ ?_ | refine Le.bind ?_ (fun _ => ?_))

theorem raddleref09_rises_l0_le {K K' : Nat} (hK : K ≤ K') : ∀ {k k' : Nat} (hk : k ≤ k') (x0 : List Int) (x1 : Int) (x5_0_2 : Int), Le (raddleref09_rises_l0 K k x0 x1 x5_0_2) (raddleref09_rises_l0 K' k' x0 x1 x5_0_2) := by
  intro k
  induction k with
  | zero => intro k' hk x0 x1 x5_0_2 r h; cases (show (none : Option Bool) = some r from h)
  | succ k ih =>
    intro k' hk x0 x1 x5_0_2
    obtain ⟨k', rfl⟩ : ∃ j, k' = j + 1 := ⟨k' - 1, by omega⟩
    rw [raddleref09_rises_l0, raddleref09_rises_l0]
    repeat (first | with_reducible exact raddleref09_rises_j1_le hK | with_reducible exact ih (by omega) _ _ _ | with_reducible exact Le.refl _ | refine Le.bif ?_ ?_ | refine Le.bind ?_ (fun _ => ?_))
  
theorem raddleref09_rises_le {K K' : Nat} (hK : K ≤ K') (x0 : List Int) (x1 : Int) : Le (raddleref09_rises K x0 x1) (raddleref09_rises K' x0 x1) := by
  unfold raddleref09_rises
  repeat (first | with_reducible exact raddleref09_rises_l0_le hK hK _ _ _ | with_reducible exact Le.refl _ | refine Le.bif ?_ ?_ | refine Le.bind ?_ (fun _ => ?_))

theorem raddleref09_Right_j0_le {K K' : Nat} (hK : K ≤ K') : Le (raddleref09_Right_j0 K ) (raddleref09_Right_j0 K' ) := by
  unfold raddleref09_Right_j0
  repeat (first | with_reducible exact Le.refl _ | refine Le.bif ?_ ?_ | refine Le.bind ?_ (fun _ => ?_))

theorem raddleref09_Right_j2_le {K K' : Nat} (hK : K ≤ K') : Le (raddleref09_Right_j2 K ) (raddleref09_Right_j2 K' ) := by
  unfold raddleref09_Right_j2
  repeat (first | with_reducible exact Le.refl _ | refine Le.bif ?_ ?_ | refine Le.bind ?_ (fun _ => ?_))

theorem raddleref09_Right_l1_le {K K' : Nat} (hK : K ≤ K') : ∀ {k k' : Nat} (hk : k ≤ k') (x3_1_2 : Int) (x0 : api_Glush), Le (raddleref09_Right_l1 K k x3_1_2 x0) (raddleref09_Right_l1 K' k' x3_1_2 x0) := by
  intro k
  induction k with
  | zero => intro k' hk x3_1_2 x0 r h; cases (show (none : Option Bool) = some r from h)
  | succ k ih =>
    intro k' hk x3_1_2 x0
    obtain ⟨k', rfl⟩ : ∃ j, k' = j + 1 := ⟨k' - 1, by omega⟩
    rw [raddleref09_Right_l1, raddleref09_Right_l1]
    repeat (first | with_reducible exact raddleref09_Right_j2_le hK | with_reducible exact raddleref09_rises_le hK _ _ | with_reducible exact ih (by omega) _ _ | with_reducible exact Le.refl _ | refine Le.bif ?_ ?_ | refine Le.bind ?_ (fun _ => ?_))
  
theorem raddleref09_Right_le {K K' : Nat} (hK : K ≤ K') (x0 : api_Glush) : Le (raddleref09_Right K x0) (raddleref09_Right K' x0) := by
  unfold raddleref09_Right
  repeat (first | with_reducible exact raddleref09_Right_j0_le hK | with_reducible exact raddleref09_rises_le hK _ _ | with_reducible exact raddleref09_Right_l1_le hK hK _ _ | with_reducible exact Le.refl _ | refine Le.bif ?_ ?_ | refine Le.bind ?_ (fun _ => ?_))

theorem raddleref01_Has_le {K K' : Nat} (hK : K ≤ K') (x0 : Arr4) (x1 : Int) : Le (raddleref01_Has K x0 x1) (raddleref01_Has K' x0 x1) := by
  unfold raddleref01_Has
  repeat (first | with_reducible exact Le.refl _ | refine Le.bif ?_ ?_ | refine Le.bind ?_ (fun _ => ?_))

theorem raddleref02_alike_l0_le {K K' : Nat} (hK : K ≤ K') : ∀ {k k' : Nat} (hk : k ≤ k') (x0 : List Arr4) (x1 : Int) (x2 : Int) (x7_0_3 : Int), Le (raddleref02_alike_l0 K k x0 x1 x2 x7_0_3) (raddleref02_alike_l0 K' k' x0 x1 x2 x7_0_3) := by
  intro k
  induction k with
  | zero => intro k' hk x0 x1 x2 x7_0_3 r h; cases (show (none : Option Bool) = some r from h)
  | succ k ih =>
    intro k' hk x0 x1 x2 x7_0_3
    obtain ⟨k', rfl⟩ : ∃ j, k' = j + 1 := ⟨k' - 1, by omega⟩
    rw [raddleref02_alike_l0, raddleref02_alike_l0]
    repeat (first | with_reducible exact raddleref01_Has_le hK _ _ | with_reducible exact ih (by omega) _ _ _ _ | with_reducible exact Le.refl _ | refine Le.bif ?_ ?_ | refine Le.bind ?_ (fun _ => ?_))
  
theorem raddleref02_alike_le {K K' : Nat} (hK : K ≤ K') (x0 : List Arr4) (x1 : Int) (x2 : Int) : Le (raddleref02_alike K x0 x1 x2) (raddleref02_alike K' x0 x1 x2) := by
  unfold raddleref02_alike
  repeat (first | with_reducible exact raddleref02_alike_l0_le hK hK _ _ _ _ | with_reducible exact Le.refl _ | refine Le.bif ?_ ?_ | refine Le.bind ?_ (fun _ => ?_))

theorem raddleref02_Of_j2_le {K K' : Nat} (hK : K ≤ K') {go0 go0' : (List Arr4) → Int → ArrN → ArrN → (List Int) → Option api_Split} (hgo0 : ∀ (x0 : List Arr4) (x5_0_6 : Int) (y2_0_1 : ArrN) (y3_0_3 : ArrN) (y4_0_5 : List Int), Le (go0 x0 x5_0_6 y2_0_1 y3_0_3 y4_0_5) (go0' x0 x5_0_6 y2_0_1 y3_0_3 y4_0_5)) (x0 : List Arr4) (x5_2_6 : Int) (x6_2_7 : Int) (y2_0_1 : ArrN) (y3_0_3 : ArrN) (y4_2_5 : List Int) : Le (raddleref02_Of_j2 K go0 x0 x5_2_6 x6_2_7 y2_0_1 y3_0_3 y4_2_5) (raddleref02_Of_j2 K' go0' x0 x5_2_6 x6_2_7 y2_0_1 y3_0_3 y4_2_5) := by
  unfold raddleref02_Of_j2
  repeat (first | with_reducible exact hgo0 _ _ _ _ _ | with_reducible exact Le.refl _ | refine Le.bif ?_ ?_ | refine Le.bind ?_ (fun _ => ?_))

theorem raddleref02_Of_l1_le {K K' : Nat} (hK : K ≤ K') {go0 go0' : (List Arr4) → Int → ArrN → ArrN → (List Int) → Option api_Split} (hgo0 : ∀ (x0 : List Arr4) (x5_0_6 : Int) (y2_0_1 : ArrN) (y3_0_3 : ArrN) (y4_0_5 : List Int), Le (go0 x0 x5_0_6 y2_0_1 y3_0_3 y4_0_5) (go0' x0 x5_0_6 y2_0_1 y3_0_3 y4_0_5)) : ∀ {k k' : Nat} (hk : k ≤ k') (x0 : List Arr4) (x5_1_6 : Int) (x6_1_7 : Int) (y2_0_1 : ArrN) (y3_0_3 : ArrN) (y4_1_5 : List Int), Le (raddleref02_Of_l1 K go0 k x0 x5_1_6 x6_1_7 y2_0_1 y3_0_3 y4_1_5) (raddleref02_Of_l1 K' go0' k' x0 x5_1_6 x6_1_7 y2_0_1 y3_0_3 y4_1_5) := by
  intro k
  induction k with
  | zero => intro k' hk x0 x5_1_6 x6_1_7 y2_0_1 y3_0_3 y4_1_5 r h; cases (show (none : Option api_Split) = some r from h)
  | succ k ih =>
    intro k' hk x0 x5_1_6 x6_1_7 y2_0_1 y3_0_3 y4_1_5
    obtain ⟨k', rfl⟩ : ∃ j, k' = j + 1 := ⟨k' - 1, by omega⟩
    rw [raddleref02_Of_l1, raddleref02_Of_l1]
    repeat (first | with_reducible exact raddleref02_alike_le hK _ _ _ | with_reducible exact ih (by omega) _ _ _ _ _ _ | with_reducible exact raddleref02_Of_j2_le hK hgo0 _ _ _ _ _ _ | with_reducible exact Le.refl _ | refine Le.bif ?_ ?_ | refine Le.bind ?_ (fun _ => ?_))
  
theorem raddleref02_Of_l0_le {K K' : Nat} (hK : K ≤ K') : ∀ {k k' : Nat} (hk : k ≤ k') (x0 : List Arr4) (x5_0_6 : Int) (y2_0_1 : ArrN) (y3_0_3 : ArrN) (y4_0_5 : List Int), Le (raddleref02_Of_l0 K k x0 x5_0_6 y2_0_1 y3_0_3 y4_0_5) (raddleref02_Of_l0 K' k' x0 x5_0_6 y2_0_1 y3_0_3 y4_0_5) := by
  intro k
  induction k with
  | zero => intro k' hk x0 x5_0_6 y2_0_1 y3_0_3 y4_0_5 r h; cases (show (none : Option api_Split) = some r from h)
  | succ k ih =>
    intro k' hk x0 x5_0_6 y2_0_1 y3_0_3 y4_0_5
    obtain ⟨k', rfl⟩ : ∃ j, k' = j + 1 := ⟨k' - 1, by omega⟩
    rw [raddleref02_Of_l0, raddleref02_Of_l0]
    repeat (first | with_reducible exact raddleref02_Of_l1_le hK (fun a0 a1 a2 a3 a4 => ih (by omega) a0 a1 a2 a3 a4) hK _ _ _ _ _ _ | with_reducible exact Le.refl _ | refine Le.bif ?_ ?_ | refine Le.bind ?_ (fun _ => ?_))
  
theorem raddleref02_Of_le {K K' : Nat} (hK : K ≤ K') (x0 : List Arr4) : Le (raddleref02_Of K x0) (raddleref02_Of K' x0) := by
  unfold raddleref02_Of
  repeat (first | with_reducible exact raddleref02_Of_l0_le hK hK _ _ _ _ _ | with_reducible exact Le.refl _ | refine Le.bif ?_ ?_ | refine Le.bind ?_ (fun _ => ?_))

theorem raddleref11_builder_digit_l0_le {K K' : Nat} (hK : K ≤ K') : ∀ {k k' : Nat} (hk : k ≤ k') (x2_0_8 : Int) (x3 : Int) (x9_0_14 : Int) (x0 : raddleref11_builder) (x1 : api_State), Le (raddleref11_builder_digit_l0 K k x2_0_8 x3 x9_0_14 x0 x1) (raddleref11_builder_digit_l0 K' k' x2_0_8 x3 x9_0_14 x0 x1) := by
  intro k
  induction k with
  | zero => intro k' hk x2_0_8 x3 x9_0_14 x0 x1 r h; cases (show (none : Option Int) = some r from h)
  | succ k ih =>
    intro k' hk x2_0_8 x3 x9_0_14 x0 x1
    obtain ⟨k', rfl⟩ : ∃ j, k' = j + 1 := ⟨k' - 1, by omega⟩
    rw [raddleref11_builder_digit_l0, raddleref11_builder_digit_l0]
    repeat (first | with_reducible exact ih (by omega) _ _ _ _ _ | with_reducible exact Le.refl _ | refine Le.bif ?_ ?_ | refine Le.bind ?_ (fun _ => ?_))
  
theorem raddleref11_builder_digit_le {K K' : Nat} (hK : K ≤ K') (x0 : raddleref11_builder) (x1 : api_State) (x2 : Int) (x3 : Int) : Le (raddleref11_builder_digit K x0 x1 x2 x3) (raddleref11_builder_digit K' x0 x1 x2 x3) := by
  unfold raddleref11_builder_digit
  repeat (first | with_reducible exact raddleref11_builder_digit_l0_le hK hK _ _ _ _ _ | with_reducible exact Le.refl _ | refine Le.bif ?_ ?_ | refine Le.bind ?_ (fun _ => ?_))

theorem raddleref11_builder_ripe_le {K K' : Nat} (hK : K ≤ K') (x0 : raddleref11_builder) (x1 : api_State) (x2 : Int) (x3 : Int) : Le (raddleref11_builder_ripe K x0 x1 x2 x3) (raddleref11_builder_ripe K' x0 x1 x2 x3) := by
  unfold raddleref11_builder_ripe
  repeat (first | with_reducible exact raddleref11_builder_digit_le hK _ _ _ _ | with_reducible exact Le.refl _ | refine Le.bif ?_ ?_ | refine Le.bind ?_ (fun _ => ?_))

theorem raddleref11_builder_rule_j1_le {K K' : Nat} (hK : K ≤ K') {go0 go0' : Int → Int → Int → raddleref11_builder → api_State → Option Int} (hgo0 : ∀ (x2 : Int) (x7_0_13 : Int) (x8_0_14 : Int) (x0 : raddleref11_builder) (x1 : api_State), Le (go0 x2 x7_0_13 x8_0_14 x0 x1) (go0' x2 x7_0_13 x8_0_14 x0 x1)) (x2 : Int) (x8_1_13 : Int) (x1 : api_State) (x37_1_26 : Int) (x38_1_27 : Int) (x39_1_28 : Int) (x40_1_29 : Bool) (x43_1_30 : Int) (x44_1_31 : Bool) (x45_1_32 : Bool) (x50_1_33 : Bool) (x0 : raddleref11_builder) (y9_1_14 : Arr4) (y9_1_15 : Int) (y9_1_16 : Int) (y9_1_17 : Int) (y9_1_18 : Bool) (y9_1_19 : List Int) : Le (raddleref11_builder_rule_j1 K go0 x2 x8_1_13 x1 x37_1_26 x38_1_27 x39_1_28 x40_1_29 x43_1_30 x44_1_31 x45_1_32 x50_1_33 x0 y9_1_14 y9_1_15 y9_1_16 y9_1_17 y9_1_18 y9_1_19) (raddleref11_builder_rule_j1 K' go0' x2 x8_1_13 x1 x37_1_26 x38_1_27 x39_1_28 x40_1_29 x43_1_30 x44_1_31 x45_1_32 x50_1_33 x0 y9_1_14 y9_1_15 y9_1_16 y9_1_17 y9_1_18 y9_1_19) := by
  unfold raddleref11_builder_rule_j1
  repeat (first | with_reducible exact hgo0 _ _ _ _ _ | with_reducible exact Le.refl _ | refine Le.bif ?_ ?_ | refine Le.bind ?_ (fun _ => ?_))

theorem raddleref11_builder_rule_l0_le {K K' : Nat} (hK : K ≤ K') : ∀ {k k' : Nat} (hk : k ≤ k') (x2 : Int) (x7_0_13 : Int) (x8_0_14 : Int) (x0 : raddleref11_builder) (x1 : api_State), Le (raddleref11_builder_rule_l0 K k x2 x7_0_13 x8_0_14 x0 x1) (raddleref11_builder_rule_l0 K' k' x2 x7_0_13 x8_0_14 x0 x1) := by
  intro k
  induction k with
  | zero => intro k' hk x2 x7_0_13 x8_0_14 x0 x1 r h; cases (show (none : Option Int) = some r from h)
  | succ k ih =>
    intro k' hk x2 x7_0_13 x8_0_14 x0 x1
    obtain ⟨k', rfl⟩ : ∃ j, k' = j + 1 := ⟨k' - 1, by omega⟩
    rw [raddleref11_builder_rule_l0, raddleref11_builder_rule_l0]
    repeat (first | with_reducible exact raddleref11_builder_ripe_le hK _ _ _ _ | with_reducible exact raddleref11_builder_rule_j1_le hK (fun a0 a1 a2 a3 a4 => ih (by omega) a0 a1 a2 a3 a4) _ _ _ _ _ _ _ _ _ _ _ _ _ _ _ _ _ _ | with_reducible exact ih (by omega) _ _ _ _ _ | with_reducible exact Le.refl _ | refine Le.bif ?_ ?_ | refine Le.bind ?_ (fun _ => ?_))
  
theorem raddleref11_builder_rule_le {K K' : Nat} (hK : K ≤ K') (x0 : raddleref11_builder) (x1 : api_State) (x2 : Int) : Le (raddleref11_builder_rule K x0 x1 x2) (raddleref11_builder_rule K' x0 x1 x2) := by
  unfold raddleref11_builder_rule
  repeat (first | with_reducible exact raddleref11_builder_rule_l0_le hK hK _ _ _ _ _ | with_reducible exact Le.refl _ | refine Le.bif ?_ ?_ | refine Le.bind ?_ (fun _ => ?_))

theorem raddleref01_with_le {K K' : Nat} (hK : K ≤ K') (x0 : Arr4) (x1 : Int) : Le (raddleref01_with K x0 x1) (raddleref01_with K' x0 x1) := by
  unfold raddleref01_with
  repeat (first | with_reducible exact raddleref01_Has_le hK _ _ | with_reducible exact Le.refl _ | refine Le.bif ?_ ?_ | refine Le.bind ?_ (fun _ => ?_))

theorem raddleref01_Of_l0_le {K K' : Nat} (hK : K ≤ K') : ∀ {k k' : Nat} (hk : k ≤ k') (x0 : List Int) (x4_0_3 : Int) (y2_0_1 : Arr4) (y3_0_2 : Arr4), Le (raddleref01_Of_l0 K k x0 x4_0_3 y2_0_1 y3_0_2) (raddleref01_Of_l0 K' k' x0 x4_0_3 y2_0_1 y3_0_2) := by
  intro k
  induction k with
  | zero => intro k' hk x0 x4_0_3 y2_0_1 y3_0_2 r h; cases (show (none : Option Arr4) = some r from h)
  | succ k ih =>
    intro k' hk x0 x4_0_3 y2_0_1 y3_0_2
    obtain ⟨k', rfl⟩ : ∃ j, k' = j + 1 := ⟨k' - 1, by omega⟩
    rw [raddleref01_Of_l0, raddleref01_Of_l0]
    repeat (first | with_reducible exact raddleref01_with_le hK _ _ | with_reducible exact ih (by omega) _ _ _ _ | with_reducible exact Le.refl _ | refine Le.bif ?_ ?_ | refine Le.bind ?_ (fun _ => ?_))
  
theorem raddleref01_Of_le {K K' : Nat} (hK : K ≤ K') (x0 : List Int) : Le (raddleref01_Of K x0) (raddleref01_Of K' x0) := by
  unfold raddleref01_Of
  repeat (first | with_reducible exact raddleref01_Of_l0_le hK hK _ _ _ _ | with_reducible exact Le.refl _ | refine Le.bif ?_ ?_ | refine Le.bind ?_ (fun _ => ?_))

theorem raddleref02_Set_l0_le {K K' : Nat} (hK : K ≤ K') : ∀ {k k' : Nat} (hk : k ≤ k') (x1 : Int) (x6_0_5 : Int) (x0 : api_Split) (y4_0_3 : Arr4) (y5_0_4 : List Int), Le (raddleref02_Set_l0 K k x1 x6_0_5 x0 y4_0_3 y5_0_4) (raddleref02_Set_l0 K' k' x1 x6_0_5 x0 y4_0_3 y5_0_4) := by
  intro k
  induction k with
  | zero => intro k' hk x1 x6_0_5 x0 y4_0_3 y5_0_4 r h; cases (show (none : Option Arr4) = some r from h)
  | succ k ih =>
    intro k' hk x1 x6_0_5 x0 y4_0_3 y5_0_4
    obtain ⟨k', rfl⟩ : ∃ j, k' = j + 1 := ⟨k' - 1, by omega⟩
    rw [raddleref02_Set_l0, raddleref02_Set_l0]
    repeat (first | with_reducible exact ih (by omega) _ _ _ _ _ | with_reducible exact raddleref01_Of_le hK _ | with_reducible exact Le.refl _ | refine Le.bif ?_ ?_ | refine Le.bind ?_ (fun _ => ?_))
  
theorem raddleref02_Set_le {K K' : Nat} (hK : K ≤ K') (x0 : api_Split) (x1 : Int) : Le (raddleref02_Set K x0 x1) (raddleref02_Set K' x0 x1) := by
  unfold raddleref02_Set
  repeat (first | with_reducible exact raddleref02_Set_l0_le hK hK _ _ _ _ _ | with_reducible exact Le.refl _ | refine Le.bif ?_ ?_ | refine Le.bind ?_ (fun _ => ?_))

theorem raddleref01_List_l0_le {K K' : Nat} (hK : K ≤ K') : ∀ {k k' : Nat} (hk : k ≤ k') (x4_0_2 : Int) (x0 : Arr4) (y3_0_1 : List Int), Le (raddleref01_List_l0 K k x4_0_2 x0 y3_0_1) (raddleref01_List_l0 K' k' x4_0_2 x0 y3_0_1) := by
  intro k
  induction k with
  | zero => intro k' hk x4_0_2 x0 y3_0_1 r h; cases (show (none : Option (List Int)) = some r from h)
  | succ k ih =>
    intro k' hk x4_0_2 x0 y3_0_1
    obtain ⟨k', rfl⟩ : ∃ j, k' = j + 1 := ⟨k' - 1, by omega⟩
    rw [raddleref01_List_l0, raddleref01_List_l0]
    repeat (first | with_reducible exact raddleref01_Has_le hK _ _ | with_reducible exact ih (by omega) _ _ _ | with_reducible exact Le.refl _ | refine Le.bif ?_ ?_ | refine Le.bind ?_ (fun _ => ?_))
  
theorem raddleref01_List_le {K K' : Nat} (hK : K ≤ K') (x0 : Arr4) : Le (raddleref01_List K x0) (raddleref01_List K' x0) := by
  unfold raddleref01_List
  repeat (first | with_reducible exact raddleref01_List_l0_le hK hK _ _ _ | with_reducible exact Le.refl _ | refine Le.bif ?_ ?_ | refine Le.bind ?_ (fun _ => ?_))

theorem raddleref02_First_j0_le {K K' : Nat} (hK : K ≤ K') : Le (raddleref02_First_j0 K ) (raddleref02_First_j0 K' ) := by
  unfold raddleref02_First_j0
  repeat (first | with_reducible exact Le.refl _ | refine Le.bif ?_ ?_ | refine Le.bind ?_ (fun _ => ?_))

theorem raddleref02_First_l1_le {K K' : Nat} (hK : K ≤ K') : ∀ {k k' : Nat} (hk : k ≤ k') (x4_1_3 : Int) (x0 : api_Split) (y3_1_2 : List Int), Le (raddleref02_First_l1 K k x4_1_3 x0 y3_1_2) (raddleref02_First_l1 K' k' x4_1_3 x0 y3_1_2) := by
  intro k
  induction k with
  | zero => intro k' hk x4_1_3 x0 y3_1_2 r h; cases (show (none : Option (List Int)) = some r from h)
  | succ k ih =>
    intro k' hk x4_1_3 x0 y3_1_2
    obtain ⟨k', rfl⟩ : ∃ j, k' = j + 1 := ⟨k' - 1, by omega⟩
    rw [raddleref02_First_l1, raddleref02_First_l1]
    repeat (first | with_reducible exact raddleref02_Set_le hK _ _ | with_reducible exact raddleref01_List_le hK _ | with_reducible exact ih (by omega) _ _ _ | with_reducible exact Le.refl _ | refine Le.bif ?_ ?_ | refine Le.bind ?_ (fun _ => ?_))
  
theorem raddleref02_First_le {K K' : Nat} (hK : K ≤ K') (x0 : api_Split) : Le (raddleref02_First K x0) (raddleref02_First K' x0) := by
  unfold raddleref02_First
  repeat (first | with_reducible exact raddleref02_First_j0_le hK | with_reducible exact raddleref02_First_l1_le hK hK _ _ _ | with_reducible exact Le.refl _ | refine Le.bif ?_ ?_ | refine Le.bind ?_ (fun _ => ?_))

theorem raddleref11_builder_enters_l0_le {K K' : Nat} (hK : K ≤ K') : ∀ {k k' : Nat} (hk : k ≤ k') (x3 : Int) (x4 : Int) (x11_0_14 : Int) (x0 : raddleref11_builder) (x2 : api_State), Le (raddleref11_builder_enters_l0 K k x3 x4 x11_0_14 x0 x2) (raddleref11_builder_enters_l0 K' k' x3 x4 x11_0_14 x0 x2) := by
  intro k
  induction k with
  | zero => intro k' hk x3 x4 x11_0_14 x0 x2 r h; cases (show (none : Option Bool) = some r from h)
  | succ k ih =>
    intro k' hk x3 x4 x11_0_14 x0 x2
    obtain ⟨k', rfl⟩ : ∃ j, k' = j + 1 := ⟨k' - 1, by omega⟩
    rw [raddleref11_builder_enters_l0, raddleref11_builder_enters_l0]
    repeat (first | with_reducible exact raddleref11_builder_ripe_le hK _ _ _ _ | with_reducible exact raddleref11_in_le hK _ _ | with_reducible exact ih (by omega) _ _ _ _ _ | with_reducible exact Le.refl _ | refine Le.bif ?_ ?_ | refine Le.bind ?_ (fun _ => ?_))
  
theorem raddleref11_builder_enters_le {K K' : Nat} (hK : K ≤ K') (x0 : raddleref11_builder) (x1 : Int) (x2 : api_State) (x3 : Int) (x4 : Int) : Le (raddleref11_builder_enters K x0 x1 x2 x3 x4) (raddleref11_builder_enters K' x0 x1 x2 x3 x4) := by
  unfold raddleref11_builder_enters
  repeat (first | with_reducible exact raddleref11_in_le hK _ _ | with_reducible exact raddleref11_builder_enters_l0_le hK hK _ _ _ _ _ | with_reducible exact Le.refl _ | refine Le.bif ?_ ?_ | refine Le.bind ?_ (fun _ => ?_))

theorem raddleref11_builder_stays_le {K K' : Nat} (hK : K ≤ K') (x0 : raddleref11_builder) (x1 : api_State) (x2 : Int) (x3 : Int) : Le (raddleref11_builder_stays K x0 x1 x2 x3) (raddleref11_builder_stays K' x0 x1 x2 x3) := by
  unfold raddleref11_builder_stays
  repeat (first | with_reducible exact raddleref11_builder_digit_le hK _ _ _ _ | with_reducible exact raddleref11_in_le hK _ _ | with_reducible exact Le.refl _ | refine Le.bif ?_ ?_ | refine Le.bind ?_ (fun _ => ?_))

theorem raddleref11_builder_find_l1_le {K K' : Nat} (hK : K ≤ K') {go0 go0' : (List Int) → Int → raddleref11_builder → Option (Int × raddleref11_builder)} (hgo0 : ∀ (x1 : List Int) (x5_0_9 : Int) (x0 : raddleref11_builder), Le (go0 x1 x5_0_9 x0) (go0' x1 x5_0_9 x0)) : ∀ {k k' : Nat} (hk : k ≤ k') (x1 : List Int) (x5_1_9 : Int) (x6_1_10 : List Int) (x7_1_11 : Bool) (x8_1_12 : Int) (x0 : raddleref11_builder), Le (raddleref11_builder_find_l1 K go0 k x1 x5_1_9 x6_1_10 x7_1_11 x8_1_12 x0) (raddleref11_builder_find_l1 K' go0' k' x1 x5_1_9 x6_1_10 x7_1_11 x8_1_12 x0) := by
  intro k
  induction k with
  | zero => intro k' hk x1 x5_1_9 x6_1_10 x7_1_11 x8_1_12 x0 r h; cases (show (none : Option (Int × raddleref11_builder)) = some r from h)
  | succ k ih =>
    intro k' hk x1 x5_1_9 x6_1_10 x7_1_11 x8_1_12 x0
    obtain ⟨k', rfl⟩ : ∃ j, k' = j + 1 := ⟨k' - 1, by omega⟩
    rw [raddleref11_builder_find_l1, raddleref11_builder_find_l1]
    repeat (first | with_reducible exact ih (by omega) _ _ _ _ _ _ | with_reducible exact hgo0 _ _ _ | with_reducible exact Le.refl _ | refine Le.bif ?_ ?_ | refine Le.bind ?_ (fun _ => ?_))
  
theorem raddleref11_builder_find_l2_le {K K' : Nat} (hK : K ≤ K') : ∀ {k k' : Nat} (hk : k ≤ k') (x1 : List Int) (x10_2_10 : Int) (x0 : raddleref11_builder) (y9_2_9 : List Int), Le (raddleref11_builder_find_l2 K k x1 x10_2_10 x0 y9_2_9) (raddleref11_builder_find_l2 K' k' x1 x10_2_10 x0 y9_2_9) := by
  intro k
  induction k with
  | zero => intro k' hk x1 x10_2_10 x0 y9_2_9 r h; cases (show (none : Option (Int × raddleref11_builder)) = some r from h)
  | succ k ih =>
    intro k' hk x1 x10_2_10 x0 y9_2_9
    obtain ⟨k', rfl⟩ : ∃ j, k' = j + 1 := ⟨k' - 1, by omega⟩
    rw [raddleref11_builder_find_l2, raddleref11_builder_find_l2]
    repeat (first | with_reducible exact ih (by omega) _ _ _ _ | with_reducible exact Le.refl _ | refine Le.bif ?_ ?_ | refine Le.bind ?_ (fun _ => ?_))
  
theorem raddleref11_builder_find_l0_le {K K' : Nat} (hK : K ≤ K') : ∀ {k k' : Nat} (hk : k ≤ k') (x1 : List Int) (x5_0_9 : Int) (x0 : raddleref11_builder), Le (raddleref11_builder_find_l0 K k x1 x5_0_9 x0) (raddleref11_builder_find_l0 K' k' x1 x5_0_9 x0) := by
  intro k
  induction k with
  | zero => intro k' hk x1 x5_0_9 x0 r h; cases (show (none : Option (Int × raddleref11_builder)) = some r from h)
  | succ k ih =>
    intro k' hk x1 x5_0_9 x0
    obtain ⟨k', rfl⟩ : ∃ j, k' = j + 1 := ⟨k' - 1, by omega⟩
    rw [raddleref11_builder_find_l0, raddleref11_builder_find_l0]
    repeat (first | with_reducible exact raddleref11_builder_find_l1_le hK (fun a0 a1 a2 => ih (by omega) a0 a1 a2) hK _ _ _ _ _ _ | with_reducible exact ih (by omega) _ _ _ | with_reducible exact raddleref11_builder_find_l2_le hK hK _ _ _ _ | with_reducible exact Le.refl _ | refine Le.bif ?_ ?_ | refine Le.bind ?_ (fun _ => ?_))
  
theorem raddleref11_builder_find_le {K K' : Nat} (hK : K ≤ K') (x0 : raddleref11_builder) (x1 : List Int) : Le (raddleref11_builder_find K x0 x1) (raddleref11_builder_find K' x0 x1) := by
  unfold raddleref11_builder_find
  repeat (first | with_reducible exact raddleref11_builder_find_l0_le hK hK _ _ _ | with_reducible exact Le.refl _ | refine Le.bif ?_ ?_ | refine Le.bind ?_ (fun _ => ?_))

theorem raddleref11_builder_goes_j2_le {K K' : Nat} (hK : K ≤ K') {go0 go0' : Int → Int → Int → Int → raddleref11_builder → (List Int) → (List Int) → (List Int) → (List (List api_Move)) → (List Int) → (List Int) → Option (api_Move × raddleref11_builder)} (hgo0 : ∀ (x1 : Int) (x2 : Int) (x10_0_15 : Int) (x13_0_18 : Int) (x0 : raddleref11_builder) (y9_0_11 : List Int) (y9_0_12 : List Int) (y9_0_13 : List Int) (y9_0_14 : List (List api_Move)) (y11_0_16 : List Int) (y12_0_17 : List Int), Le (go0 x1 x2 x10_0_15 x13_0_18 x0 y9_0_11 y9_0_12 y9_0_13 y9_0_14 y11_0_16 y12_0_17) (go0' x1 x2 x10_0_15 x13_0_18 x0 y9_0_11 y9_0_12 y9_0_13 y9_0_14 y11_0_16 y12_0_17)) (x1 : Int) (x2 : Int) (x10_0_15 : Int) (x13_2_18 : Int) (x15_2_19 : Bool) (x0 : raddleref11_builder) (y9_0_11 : List Int) (y9_0_12 : List Int) (y9_0_13 : List Int) (y9_0_14 : List (List api_Move)) (y11_2_16 : List Int) (y12_2_17 : List Int) : Le (raddleref11_builder_goes_j2 K go0 x1 x2 x10_0_15 x13_2_18 x15_2_19 x0 y9_0_11 y9_0_12 y9_0_13 y9_0_14 y11_2_16 y12_2_17) (raddleref11_builder_goes_j2 K' go0' x1 x2 x10_0_15 x13_2_18 x15_2_19 x0 y9_0_11 y9_0_12 y9_0_13 y9_0_14 y11_2_16 y12_2_17) := by
  unfold raddleref11_builder_goes_j2
  repeat (first | with_reducible exact hgo0 _ _ _ _ _ _ _ _ _ _ _ | with_reducible exact Le.refl _ | refine Le.bif ?_ ?_ | refine Le.bind ?_ (fun _ => ?_))

theorem raddleref11_builder_goes_j1_le {K K' : Nat} (hK : K ≤ K') {go0 go0' : Int → Int → Int → Int → raddleref11_builder → (List Int) → (List Int) → (List Int) → (List (List api_Move)) → (List Int) → (List Int) → Option (api_Move × raddleref11_builder)} (hgo0 : ∀ (x1 : Int) (x2 : Int) (x10_0_15 : Int) (x13_0_18 : Int) (x0 : raddleref11_builder) (y9_0_11 : List Int) (y9_0_12 : List Int) (y9_0_13 : List Int) (y9_0_14 : List (List api_Move)) (y11_0_16 : List Int) (y12_0_17 : List Int), Le (go0 x1 x2 x10_0_15 x13_0_18 x0 y9_0_11 y9_0_12 y9_0_13 y9_0_14 y11_0_16 y12_0_17) (go0' x1 x2 x10_0_15 x13_0_18 x0 y9_0_11 y9_0_12 y9_0_13 y9_0_14 y11_0_16 y12_0_17)) (x1 : Int) (x2 : Int) (x10_0_15 : Int) (x13_1_18 : Int) (x14_1_19 : Bool) (x15_1_20 : Bool) (x0 : raddleref11_builder) (y9_0_11 : List Int) (y9_0_12 : List Int) (y9_0_13 : List Int) (y9_0_14 : List (List api_Move)) (y11_1_16 : List Int) (y12_1_17 : List Int) : Le (raddleref11_builder_goes_j1 K go0 x1 x2 x10_0_15 x13_1_18 x14_1_19 x15_1_20 x0 y9_0_11 y9_0_12 y9_0_13 y9_0_14 y11_1_16 y12_1_17) (raddleref11_builder_goes_j1 K' go0' x1 x2 x10_0_15 x13_1_18 x14_1_19 x15_1_20 x0 y9_0_11 y9_0_12 y9_0_13 y9_0_14 y11_1_16 y12_1_17) := by
  unfold raddleref11_builder_goes_j1
  repeat (first | with_reducible exact hgo0 _ _ _ _ _ _ _ _ _ _ _ | with_reducible exact raddleref11_builder_goes_j2_le hK hgo0 _ _ _ _ _ _ _ _ _ _ _ _ | with_reducible exact Le.refl _ | refine Le.bif ?_ ?_ | refine Le.bind ?_ (fun _ => ?_))

theorem raddleref11_builder_goes_l0_le {K K' : Nat} (hK : K ≤ K') : ∀ {k k' : Nat} (hk : k ≤ k') (x1 : Int) (x2 : Int) (x10_0_15 : Int) (x13_0_18 : Int) (x0 : raddleref11_builder) (y9_0_11 : List Int) (y9_0_12 : List Int) (y9_0_13 : List Int) (y9_0_14 : List (List api_Move)) (y11_0_16 : List Int) (y12_0_17 : List Int), Le (raddleref11_builder_goes_l0 K k x1 x2 x10_0_15 x13_0_18 x0 y9_0_11 y9_0_12 y9_0_13 y9_0_14 y11_0_16 y12_0_17) (raddleref11_builder_goes_l0 K' k' x1 x2 x10_0_15 x13_0_18 x0 y9_0_11 y9_0_12 y9_0_13 y9_0_14 y11_0_16 y12_0_17) := by
  intro k
  induction k with
  | zero => intro k' hk x1 x2 x10_0_15 x13_0_18 x0 y9_0_11 y9_0_12 y9_0_13 y9_0_14 y11_0_16 y12_0_17 r h; cases (show (none : Option (api_Move × raddleref11_builder)) = some r from h)
  | succ k ih =>
    intro k' hk x1 x2 x10_0_15 x13_0_18 x0 y9_0_11 y9_0_12 y9_0_13 y9_0_14 y11_0_16 y12_0_17
    obtain ⟨k', rfl⟩ : ∃ j, k' = j + 1 := ⟨k' - 1, by omega⟩
    rw [raddleref11_builder_goes_l0, raddleref11_builder_goes_l0]
    repeat (first | with_reducible exact raddleref01_Has_le hK _ _ | with_reducible exact ih (by omega) _ _ _ _ _ _ _ _ _ _ _ | with_reducible exact raddleref11_builder_enters_le hK _ _ _ _ _ | with_reducible exact raddleref11_builder_stays_le hK _ _ _ _ | with_reducible exact raddleref11_builder_goes_j1_le hK (fun a0 a1 a2 a3 a4 a5 a6 a7 a8 a9 a10 => ih (by omega) a0 a1 a2 a3 a4 a5 a6 a7 a8 a9 a10) _ _ _ _ _ _ _ _ _ _ _ _ _ | with_reducible exact raddleref11_builder_find_le hK _ _ | with_reducible exact Le.refl _ | refine Le.bif ?_ ?_ | refine Le.bind ?_ (fun _ => ?_))
  
theorem raddleref11_builder_goes_le {K K' : Nat} (hK : K ≤ K') (x0 : raddleref11_builder) (x1 : Int) (x2 : Int) (x3 : Int) : Le (raddleref11_builder_goes K x0 x1 x2 x3) (raddleref11_builder_goes K' x0 x1 x2 x3) := by
  unfold raddleref11_builder_goes
  repeat (first | with_reducible exact raddleref02_First_le hK _ | with_reducible exact raddleref11_builder_goes_l0_le hK hK _ _ _ _ _ _ _ _ _ _ _ | with_reducible exact Le.refl _ | refine Le.bif ?_ ?_ | refine Le.bind ?_ (fun _ => ?_))

theorem raddleref11_Of_l3_le {K K' : Nat} (hK : K ≤ K') {go2 go2' : Int → Int → Int → ArrN → (List Arr2) → (List api_State) → (List Int) → (List api_Pos) → ArrN → Int → Int → (List Int) → (List Arr2) → (List api_State) → (List Int) → (List (List api_Move)) → Option (api_Auto × Int)} (hgo2 : ∀ (x7_2_12 : Int) (x8_2_13 : Int) (x11_2_16 : Int) (y2_0_2 : ArrN) (y2_2_2 : List Arr2) (y2_2_3 : List api_State) (y4_2_4 : List Int) (y4_2_5 : List api_Pos) (y4_2_7 : ArrN) (y4_2_8 : Int) (y4_2_11 : Int) (y4_2_6 : List Int) (y4_2_9 : List Arr2) (y4_2_10 : List api_State) (y9_2_14 : List Int) (y10_2_15 : List (List api_Move)), Le (go2 x7_2_12 x8_2_13 x11_2_16 y2_0_2 y2_2_2 y2_2_3 y4_2_4 y4_2_5 y4_2_7 y4_2_8 y4_2_11 y4_2_6 y4_2_9 y4_2_10 y9_2_14 y10_2_15) (go2' x7_2_12 x8_2_13 x11_2_16 y2_0_2 y2_2_2 y2_2_3 y4_2_4 y4_2_5 y4_2_7 y4_2_8 y4_2_11 y4_2_6 y4_2_9 y4_2_10 y9_2_14 y10_2_15)) : ∀ {k k' : Nat} (hk : k ≤ k') (x7_3_12 : Int) (x8_3_13 : Int) (x11_3_16 : Int) (x13_3_18 : Int) (y2_0_2 : ArrN) (y2_3_2 : List Arr2) (y2_3_3 : List api_State) (y4_3_4 : List Int) (y4_3_5 : List api_Pos) (y4_3_7 : ArrN) (y4_3_8 : Int) (y4_3_11 : Int) (y4_3_6 : List Int) (y4_3_9 : List Arr2) (y4_3_10 : List api_State) (y9_3_14 : List Int) (y10_3_15 : List (List api_Move)) (y12_3_17 : List api_Move), Le (raddleref11_Of_l3 K go2 k x7_3_12 x8_3_13 x11_3_16 x13_3_18 y2_0_2 y2_3_2 y2_3_3 y4_3_4 y4_3_5 y4_3_7 y4_3_8 y4_3_11 y4_3_6 y4_3_9 y4_3_10 y9_3_14 y10_3_15 y12_3_17) (raddleref11_Of_l3 K' go2' k' x7_3_12 x8_3_13 x11_3_16 x13_3_18 y2_0_2 y2_3_2 y2_3_3 y4_3_4 y4_3_5 y4_3_7 y4_3_8 y4_3_11 y4_3_6 y4_3_9 y4_3_10 y9_3_14 y10_3_15 y12_3_17) := by
  intro k
  induction k with
  | zero => intro k' hk x7_3_12 x8_3_13 x11_3_16 x13_3_18 y2_0_2 y2_3_2 y2_3_3 y4_3_4 y4_3_5 y4_3_7 y4_3_8 y4_3_11 y4_3_6 y4_3_9 y4_3_10 y9_3_14 y10_3_15 y12_3_17 r h; cases (show (none : Option (api_Auto × Int)) = some r from h)
  | succ k ih =>
    intro k' hk x7_3_12 x8_3_13 x11_3_16 x13_3_18 y2_0_2 y2_3_2 y2_3_3 y4_3_4 y4_3_5 y4_3_7 y4_3_8 y4_3_11 y4_3_6 y4_3_9 y4_3_10 y9_3_14 y10_3_15 y12_3_17
    obtain ⟨k', rfl⟩ : ∃ j, k' = j + 1 := ⟨k' - 1, by omega⟩
    rw [raddleref11_Of_l3, raddleref11_Of_l3]
    repeat (first | with_reducible exact raddleref11_builder_goes_le hK _ _ _ _ | with_reducible exact ih (by omega) _ _ _ _ _ _ _ _ _ _ _ _ _ _ _ _ _ _ | with_reducible exact hgo2 _ _ _ _ _ _ _ _ _ _ _ _ _ _ _ _ | with_reducible exact Le.refl _ | refine Le.bif ?_ ?_ | refine Le.bind ?_ (fun _ => ?_))
  
theorem raddleref11_Of_l2_le {K K' : Nat} (hK : K ≤ K') {go1 go1' : Int → ArrN → (List Arr2) → (List api_State) → (List Int) → (List api_Pos) → ArrN → Int → Int → (List Int) → (List Arr2) → (List api_State) → Option (api_Auto × Int)} (hgo1 : ∀ (x7_1_12 : Int) (y2_0_2 : ArrN) (y2_1_2 : List Arr2) (y2_1_3 : List api_State) (y4_1_4 : List Int) (y4_1_5 : List api_Pos) (y4_1_7 : ArrN) (y4_1_8 : Int) (y4_1_11 : Int) (y4_1_6 : List Int) (y4_1_9 : List Arr2) (y4_1_10 : List api_State), Le (go1 x7_1_12 y2_0_2 y2_1_2 y2_1_3 y4_1_4 y4_1_5 y4_1_7 y4_1_8 y4_1_11 y4_1_6 y4_1_9 y4_1_10) (go1' x7_1_12 y2_0_2 y2_1_2 y2_1_3 y4_1_4 y4_1_5 y4_1_7 y4_1_8 y4_1_11 y4_1_6 y4_1_9 y4_1_10)) : ∀ {k k' : Nat} (hk : k ≤ k') (x7_2_12 : Int) (x8_2_13 : Int) (x11_2_16 : Int) (y2_0_2 : ArrN) (y2_2_2 : List Arr2) (y2_2_3 : List api_State) (y4_2_4 : List Int) (y4_2_5 : List api_Pos) (y4_2_7 : ArrN) (y4_2_8 : Int) (y4_2_11 : Int) (y4_2_6 : List Int) (y4_2_9 : List Arr2) (y4_2_10 : List api_State) (y9_2_14 : List Int) (y10_2_15 : List (List api_Move)), Le (raddleref11_Of_l2 K go1 k x7_2_12 x8_2_13 x11_2_16 y2_0_2 y2_2_2 y2_2_3 y4_2_4 y4_2_5 y4_2_7 y4_2_8 y4_2_11 y4_2_6 y4_2_9 y4_2_10 y9_2_14 y10_2_15) (raddleref11_Of_l2 K' go1' k' x7_2_12 x8_2_13 x11_2_16 y2_0_2 y2_2_2 y2_2_3 y4_2_4 y4_2_5 y4_2_7 y4_2_8 y4_2_11 y4_2_6 y4_2_9 y4_2_10 y9_2_14 y10_2_15) := by
  intro k
  induction k with
  | zero => intro k' hk x7_2_12 x8_2_13 x11_2_16 y2_0_2 y2_2_2 y2_2_3 y4_2_4 y4_2_5 y4_2_7 y4_2_8 y4_2_11 y4_2_6 y4_2_9 y4_2_10 y9_2_14 y10_2_15 r h; cases (show (none : Option (api_Auto × Int)) = some r from h)
  | succ k ih =>
    intro k' hk x7_2_12 x8_2_13 x11_2_16 y2_0_2 y2_2_2 y2_2_3 y4_2_4 y4_2_5 y4_2_7 y4_2_8 y4_2_11 y4_2_6 y4_2_9 y4_2_10 y9_2_14 y10_2_15
    obtain ⟨k', rfl⟩ : ∃ j, k' = j + 1 := ⟨k' - 1, by omega⟩
    rw [raddleref11_Of_l2, raddleref11_Of_l2]
    repeat (first | with_reducible exact raddleref11_builder_rule_le hK _ _ _ | with_reducible exact raddleref11_Of_l3_le hK (fun a0 a1 a2 a3 a4 a5 a6 a7 a8 a9 a10 a11 a12 a13 a14 a15 => ih (by omega) a0 a1 a2 a3 a4 a5 a6 a7 a8 a9 a10 a11 a12 a13 a14 a15) hK _ _ _ _ _ _ _ _ _ _ _ _ _ _ _ _ _ _ | with_reducible exact hgo1 _ _ _ _ _ _ _ _ _ _ _ _ | with_reducible exact Le.refl _ | refine Le.bif ?_ ?_ | refine Le.bind ?_ (fun _ => ?_))
  
theorem raddleref11_Of_l1_le {K K' : Nat} (hK : K ≤ K') : ∀ {k k' : Nat} (hk : k ≤ k') (x7_1_12 : Int) (y2_0_2 : ArrN) (y2_1_2 : List Arr2) (y2_1_3 : List api_State) (y4_1_4 : List Int) (y4_1_5 : List api_Pos) (y4_1_7 : ArrN) (y4_1_8 : Int) (y4_1_11 : Int) (y4_1_6 : List Int) (y4_1_9 : List Arr2) (y4_1_10 : List api_State), Le (raddleref11_Of_l1 K k x7_1_12 y2_0_2 y2_1_2 y2_1_3 y4_1_4 y4_1_5 y4_1_7 y4_1_8 y4_1_11 y4_1_6 y4_1_9 y4_1_10) (raddleref11_Of_l1 K' k' x7_1_12 y2_0_2 y2_1_2 y2_1_3 y4_1_4 y4_1_5 y4_1_7 y4_1_8 y4_1_11 y4_1_6 y4_1_9 y4_1_10) := by
  intro k
  induction k with
  | zero => intro k' hk x7_1_12 y2_0_2 y2_1_2 y2_1_3 y4_1_4 y4_1_5 y4_1_7 y4_1_8 y4_1_11 y4_1_6 y4_1_9 y4_1_10 r h; cases (show (none : Option (api_Auto × Int)) = some r from h)
  | succ k ih =>
    intro k' hk x7_1_12 y2_0_2 y2_1_2 y2_1_3 y4_1_4 y4_1_5 y4_1_7 y4_1_8 y4_1_11 y4_1_6 y4_1_9 y4_1_10
    obtain ⟨k', rfl⟩ : ∃ j, k' = j + 1 := ⟨k' - 1, by omega⟩
    rw [raddleref11_Of_l1, raddleref11_Of_l1]
    repeat (first | with_reducible exact raddleref11_Codes_le hK _ | with_reducible exact raddleref11_Of_l2_le hK (fun a0 a1 a2 a3 a4 a5 a6 a7 a8 a9 a10 a11 => ih (by omega) a0 a1 a2 a3 a4 a5 a6 a7 a8 a9 a10 a11) hK _ _ _ _ _ _ _ _ _ _ _ _ _ _ _ _ | with_reducible exact Le.refl _ | refine Le.bif ?_ ?_ | refine Le.bind ?_ (fun _ => ?_))
  
theorem raddleref11_Of_l0_le {K K' : Nat} (hK : K ≤ K') : ∀ {k k' : Nat} (hk : k ≤ k') (x6_0_15 : Int) (x0 : api_Glush) (y2_0_2 : ArrN) (y2_0_4 : List Arr2) (y2_0_5 : List api_State) (y4_0_9 : ArrN) (y4_0_8 : List Int) (y4_0_11 : List Arr2) (y4_0_12 : List api_State) (y5_0_14 : List Arr4), Le (raddleref11_Of_l0 K k x6_0_15 x0 y2_0_2 y2_0_4 y2_0_5 y4_0_9 y4_0_8 y4_0_11 y4_0_12 y5_0_14) (raddleref11_Of_l0 K' k' x6_0_15 x0 y2_0_2 y2_0_4 y2_0_5 y4_0_9 y4_0_8 y4_0_11 y4_0_12 y5_0_14) := by
  intro k
  induction k with
  | zero => intro k' hk x6_0_15 x0 y2_0_2 y2_0_4 y2_0_5 y4_0_9 y4_0_8 y4_0_11 y4_0_12 y5_0_14 r h; cases (show (none : Option (api_Auto × Int)) = some r from h)
  | succ k ih =>
    intro k' hk x6_0_15 x0 y2_0_2 y2_0_4 y2_0_5 y4_0_9 y4_0_8 y4_0_11 y4_0_12 y5_0_14
    obtain ⟨k', rfl⟩ : ∃ j, k' = j + 1 := ⟨k' - 1, by omega⟩
    rw [raddleref11_Of_l0, raddleref11_Of_l0]
    repeat (first | with_reducible exact ih (by omega) _ _ _ _ _ _ _ _ _ _ | with_reducible exact raddleref02_Of_le hK _ | with_reducible exact raddleref11_Of_l1_le hK hK _ _ _ _ _ _ _ _ _ _ _ _ | with_reducible exact Le.refl _ | refine Le.bif ?_ ?_ | refine Le.bind ?_ (fun _ => ?_))
  
theorem raddleref11_Of_le {K K' : Nat} (hK : K ≤ K') (x0 : api_Glush) : Le (raddleref11_Of K x0) (raddleref11_Of K' x0) := by
  unfold raddleref11_Of
  repeat (first | with_reducible exact raddleref09_Right_le hK _ | with_reducible exact raddleref11_Of_l0_le hK hK _ _ _ _ _ _ _ _ _ _ | with_reducible exact Le.refl _ | refine Le.bif ?_ ?_ | refine Le.bind ?_ (fun _ => ?_))

theorem raddlelaw14_shown_le {K K' : Nat} (hK : K ≤ K') : Le (raddlelaw14_shown K ) (raddlelaw14_shown K' ) := by
  unfold raddlelaw14_shown
  repeat (first | with_reducible exact raddleref11_Of_le hK _ | with_reducible exact table_Encode_le hK _ | with_reducible exact table_Number_le hK _ _ | with_reducible exact Le.refl _ | refine Le.bif ?_ ?_ | refine Le.bind ?_ (fun _ => ?_))

end Go.Rv

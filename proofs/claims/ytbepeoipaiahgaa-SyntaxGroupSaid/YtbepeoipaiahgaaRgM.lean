/- With more fuel each plain function answers the same: printed by a program of ours. -/
import Derived.Test.YtbepeoipaiahgaaRgP
import Derived.Test.YtbepeoipaiahgaaRvZ
namespace Go.Rv
set_option linter.unusedVariables false

theorem syntax_reader_peek_j0_le {K K' : Nat} (hK : K ≤ K') (x0 : syntax_parser) : Le (syntax_reader_peek_j0 K x0) (syntax_reader_peek_j0 K' x0) := by
  unfold syntax_reader_peek_j0
  repeat (first | with_reducible exact Le.refl _ | refine Le.bif ?_ ?_ | refine Le.bind ?_ (fun _ => ?_))

theorem syntax_reader_peek_le {K K' : Nat} (hK : K ≤ K') (x0 : syntax_parser) : Le (syntax_reader_peek K x0) (syntax_reader_peek K' x0) := by
  unfold syntax_reader_peek
  repeat (first | with_reducible exact syntax_reader_peek_j0_le hK _ | with_reducible exact Le.refl _ | refine Le.bif ?_ ?_ | refine Le.bind ?_ (fun _ => ?_))

theorem syntax_digit_le {K K' : Nat} (hK : K ≤ K') (x0 : Int) : Le (syntax_digit K x0) (syntax_digit K' x0) := by
  unfold syntax_digit
  repeat (first | with_reducible exact Le.refl _ | refine Le.bif ?_ ?_ | refine Le.bind ?_ (fun _ => ?_))

theorem syntax_reader_digit_le {K K' : Nat} (hK : K ≤ K') (x0 : syntax_parser) (x1 : Int) : Le (syntax_reader_digit K x0 x1) (syntax_reader_digit K' x0 x1) := by
  unfold syntax_reader_digit
  repeat (first | with_reducible exact syntax_digit_le hK _ | with_reducible exact Le.refl _ | refine Le.bif ?_ ?_ | refine Le.bind ?_ (fun _ => ?_))

theorem stringslite_IndexByte_le {K K' : Nat} (hK : K ≤ K') (x0 : ByteArray) (x1 : Int) : Le (stringslite_IndexByte K x0 x1) (stringslite_IndexByte K' x0 x1) := by
  unfold stringslite_IndexByte
  repeat (first | with_reducible exact Le.refl _ | refine Le.bif ?_ ?_ | refine Le.bind ?_ (fun _ => ?_))

theorem strings_IndexByte_le {K K' : Nat} (hK : K ≤ K') (x0 : ByteArray) (x1 : Int) : Le (strings_IndexByte K x0 x1) (strings_IndexByte K' x0 x1) := by
  unfold strings_IndexByte
  repeat (first | with_reducible exact stringslite_IndexByte_le hK _ _ | with_reducible exact Le.refl _ | refine Le.bif ?_ ?_ | refine Le.bind ?_ (fun _ => ?_))

theorem syntax_reader_fail_le {K K' : Nat} (hK : K ≤ K') (x0 : syntax_parser) (x1 : Int) (x2 : Int) : Le (syntax_reader_fail K x0 x1 x2) (syntax_reader_fail K' x0 x1 x2) := by
  unfold syntax_reader_fail
  repeat (first | with_reducible exact Le.refl _ | refine Le.bif ?_ ?_ | refine Le.bind ?_ (fun _ => ?_))

theorem syntax_reader_next_le {K K' : Nat} (hK : K ≤ K') (x0 : syntax_parser) : Le (syntax_reader_next K x0) (syntax_reader_next K' x0) := by
  unfold syntax_reader_next
  repeat (first | with_reducible exact syntax_reader_peek_le hK _ | with_reducible exact syntax_reader_fail_le hK _ _ _ | with_reducible exact Le.refl _ | refine Le.bif ?_ ?_ | refine Le.bind ?_ (fun _ => ?_))

theorem syntax_nibble_le {K K' : Nat} (hK : K ≤ K') (x0 : Int) : Le (syntax_nibble K x0) (syntax_nibble K' x0) := by
  unfold syntax_nibble
  repeat (first | with_reducible exact strings_IndexByte_le hK _ _ | with_reducible exact Le.refl _ | refine Le.bif ?_ ?_ | refine Le.bind ?_ (fun _ => ?_))

theorem syntax_reader_pair_le {K K' : Nat} (hK : K ≤ K') (x0 : syntax_parser) : Le (syntax_reader_pair K x0) (syntax_reader_pair K' x0) := by
  unfold syntax_reader_pair
  repeat (first | with_reducible exact syntax_reader_fail_le hK _ _ _ | with_reducible exact syntax_reader_next_le hK _ | with_reducible exact syntax_nibble_le hK _ | with_reducible exact Le.refl _ | refine Le.bif ?_ ?_ | refine Le.bind ?_ (fun _ => ?_))

theorem syntax_reader_escape_le {K K' : Nat} (hK : K ≤ K') (x0 : syntax_parser) : Le (syntax_reader_escape K x0) (syntax_reader_escape K' x0) := by
  unfold syntax_reader_escape
  repeat (first | with_reducible exact syntax_reader_next_le hK _ | with_reducible exact syntax_reader_pair_le hK _ | with_reducible exact strings_IndexByte_le hK _ _ | with_reducible exact Le.refl _ | refine Le.bif ?_ ?_ | refine Le.bind ?_ (fun _ => ?_))

theorem syntax_reader_one_le {K K' : Nat} (hK : K ≤ K') (x0 : syntax_parser) : Le (syntax_reader_one K x0) (syntax_reader_one K' x0) := by
  unfold syntax_reader_one
  repeat (first | with_reducible exact syntax_reader_next_le hK _ | with_reducible exact syntax_reader_escape_le hK _ | with_reducible exact syntax_reader_fail_le hK _ _ _ | with_reducible exact Le.refl _ | refine Le.bif ?_ ?_ | refine Le.bind ?_ (fun _ => ?_))

theorem bset_Of_l0_le {K K' : Nat} (hK : K ≤ K') : ∀ {k k' : Nat} (hk : k ≤ k') (x0 : List Int) (x7_0_3 : Int) (x8_0_4 : Int) (y2_0_0 : Arr4) (y3_0_1 : Arr4), Le (bset_Of_l0 K k x0 x7_0_3 x8_0_4 y2_0_0 y3_0_1) (bset_Of_l0 K' k' x0 x7_0_3 x8_0_4 y2_0_0 y3_0_1) := by
  intro k
  induction k with
  | zero => intro k' hk x0 x7_0_3 x8_0_4 y2_0_0 y3_0_1 r h; cases (show (none : Option Arr4) = some r from h)
  | succ k ih =>
    intro k' hk x0 x7_0_3 x8_0_4 y2_0_0 y3_0_1
    obtain ⟨k', rfl⟩ : ∃ j, k' = j + 1 := ⟨k' - 1, by omega⟩
    rw [bset_Of_l0, bset_Of_l0]
    repeat (first | with_reducible exact ih (by omega) _ _ _ _ _ | with_reducible exact Le.refl _ | refine Le.bif ?_ ?_ | refine Le.bind ?_ (fun _ => ?_))
  
theorem bset_Of_le {K K' : Nat} (hK : K ≤ K') (x0 : List Int) : Le (bset_Of K x0) (bset_Of K' x0) := by
  unfold bset_Of
  repeat (first | with_reducible exact bset_Of_l0_le hK hK _ _ _ _ _ | with_reducible exact Le.refl _ | refine Le.bif ?_ ?_ | refine Le.bind ?_ (fun _ => ?_))

theorem syntax_parser_put_le {K K' : Nat} (hK : K ≤ K') (x0 : syntax_parser) (x1 : api_Node) : Le (syntax_parser_put K x0 x1) (syntax_parser_put K' x0 x1) := by
  unfold syntax_parser_put
  repeat (first | with_reducible exact Le.refl _ | refine Le.bif ?_ ?_ | refine Le.bind ?_ (fun _ => ?_))

theorem syntax_parser_bytes_le {K K' : Nat} (hK : K ≤ K') (x0 : syntax_parser) (x1 : Arr4) : Le (syntax_parser_bytes K x0 x1) (syntax_parser_bytes K' x0 x1) := by
  unfold syntax_parser_bytes
  repeat (first | with_reducible exact syntax_parser_put_le hK _ _ | with_reducible exact Le.refl _ | refine Le.bif ?_ ?_ | refine Le.bind ?_ (fun _ => ?_))

theorem syntax_letter_le {K K' : Nat} (hK : K ≤ K') (x0 : Int) : Le (syntax_letter K x0) (syntax_letter K' x0) := by
  unfold syntax_letter
  repeat (first | with_reducible exact Le.refl _ | refine Le.bif ?_ ?_ | refine Le.bind ?_ (fun _ => ?_))

theorem syntax_Name_j1_le {K K' : Nat} (hK : K ≤ K') : Le (syntax_Name_j1 K ) (syntax_Name_j1 K' ) := by
  unfold syntax_Name_j1
  repeat (first | with_reducible exact Le.refl _ | refine Le.bif ?_ ?_ | refine Le.bind ?_ (fun _ => ?_))

theorem syntax_Name_l0_le {K K' : Nat} (hK : K ≤ K') : ∀ {k k' : Nat} (hk : k ≤ k') (x0 : ByteArray) (x5_0_1 : Int) (x6_0_2 : Int), Le (syntax_Name_l0 K k x0 x5_0_1 x6_0_2) (syntax_Name_l0 K' k' x0 x5_0_1 x6_0_2) := by
  intro k
  induction k with
  | zero => intro k' hk x0 x5_0_1 x6_0_2 r h; cases (show (none : Option Bool) = some r from h)
  | succ k ih =>
    intro k' hk x0 x5_0_1 x6_0_2
    obtain ⟨k', rfl⟩ : ∃ j, k' = j + 1 := ⟨k' - 1, by omega⟩
    rw [syntax_Name_l0, syntax_Name_l0]
    repeat (first | with_reducible exact syntax_letter_le hK _ | with_reducible exact syntax_Name_j1_le hK | with_reducible exact syntax_digit_le hK _ | with_reducible exact ih (by omega) _ _ _ | with_reducible exact Le.refl _ | refine Le.bif ?_ ?_ | refine Le.bind ?_ (fun _ => ?_))
  
theorem syntax_Name_le {K K' : Nat} (hK : K ≤ K') (x0 : ByteArray) : Le (syntax_Name K x0) (syntax_Name K' x0) := by
  unfold syntax_Name
  repeat (first | with_reducible exact syntax_Name_l0_le hK hK _ _ _ | with_reducible exact Le.refl _ | refine Le.bif ?_ ?_ | refine Le.bind ?_ (fun _ => ?_))

theorem syntax_reader_name_j0_le {K K' : Nat} (hK : K ≤ K') (x4_0_6 : Int) (x5_0_7 : ByteArray) (y0_0_0 : ByteArray) (y0_0_1 : Int) (y0_0_2 : Int) (y0_0_3 : Int) (y0_0_5 : Int) (y0_0_4 : List api_Node) : Le (syntax_reader_name_j0 K x4_0_6 x5_0_7 y0_0_0 y0_0_1 y0_0_2 y0_0_3 y0_0_5 y0_0_4) (syntax_reader_name_j0 K' x4_0_6 x5_0_7 y0_0_0 y0_0_1 y0_0_2 y0_0_3 y0_0_5 y0_0_4) := by
  unfold syntax_reader_name_j0
  repeat (first | with_reducible exact Le.refl _ | refine Le.bif ?_ ?_ | refine Le.bind ?_ (fun _ => ?_))

theorem syntax_reader_name_le {K K' : Nat} (hK : K ≤ K') (x0 : syntax_parser) : Le (syntax_reader_name K x0) (syntax_reader_name K' x0) := by
  unfold syntax_reader_name
  repeat (first | with_reducible exact syntax_reader_next_le hK _ | with_reducible exact strings_IndexByte_le hK _ _ | with_reducible exact syntax_reader_fail_le hK _ _ _ | with_reducible exact syntax_Name_le hK _ | with_reducible exact syntax_reader_name_j0_le hK _ _ _ _ _ _ _ _ | with_reducible exact Le.refl _ | refine Le.bif ?_ ?_ | refine Le.bind ?_ (fun _ => ?_))

theorem bset_Not_l0_le {K K' : Nat} (hK : K ≤ K') : ∀ {k k' : Nat} (hk : k ≤ k') (x0 : Arr4) (x6_0_3 : Int) (y1_0_0 : Arr4) (y2_0_1 : Arr4), Le (bset_Not_l0 K k x0 x6_0_3 y1_0_0 y2_0_1) (bset_Not_l0 K' k' x0 x6_0_3 y1_0_0 y2_0_1) := by
  intro k
  induction k with
  | zero => intro k' hk x0 x6_0_3 y1_0_0 y2_0_1 r h; cases (show (none : Option Arr4) = some r from h)
  | succ k ih =>
    intro k' hk x0 x6_0_3 y1_0_0 y2_0_1
    obtain ⟨k', rfl⟩ : ∃ j, k' = j + 1 := ⟨k' - 1, by omega⟩
    rw [bset_Not_l0, bset_Not_l0]
    repeat (first | with_reducible exact ih (by omega) _ _ _ _ | with_reducible exact Le.refl _ | refine Le.bif ?_ ?_ | refine Le.bind ?_ (fun _ => ?_))
  
theorem bset_Not_le {K K' : Nat} (hK : K ≤ K') (x0 : Arr4) : Le (bset_Not K x0) (bset_Not K' x0) := by
  unfold bset_Not
  repeat (first | with_reducible exact bset_Not_l0_le hK hK _ _ _ _ | with_reducible exact Le.refl _ | refine Le.bif ?_ ?_ | refine Le.bind ?_ (fun _ => ?_))

theorem syntax_reader_is_le {K K' : Nat} (hK : K ≤ K') (x0 : syntax_parser) (x1 : Int) : Le (syntax_reader_is K x0 x1) (syntax_reader_is K' x0 x1) := by
  unfold syntax_reader_is
  repeat (first | with_reducible exact syntax_reader_peek_le hK _ | with_reducible exact Le.refl _ | refine Le.bif ?_ ?_ | refine Le.bind ?_ (fun _ => ?_))

theorem syntax_reader_skip_le {K K' : Nat} (hK : K ≤ K') (x0 : syntax_parser) (x1 : Int) : Le (syntax_reader_skip K x0 x1) (syntax_reader_skip K' x0 x1) := by
  unfold syntax_reader_skip
  repeat (first | with_reducible exact syntax_reader_is_le hK _ _ | with_reducible exact Le.refl _ | refine Le.bif ?_ ?_ | refine Le.bind ?_ (fun _ => ?_))

theorem syntax_reader_member_j0_le {K K' : Nat} (hK : K ≤ K') (y0_0_0 : ByteArray) (y0_0_1 : Int) (y0_0_2 : Int) (y0_0_3 : Int) (y0_0_5 : Int) (y0_0_4 : List api_Node) : Le (syntax_reader_member_j0 K y0_0_0 y0_0_1 y0_0_2 y0_0_3 y0_0_5 y0_0_4) (syntax_reader_member_j0 K' y0_0_0 y0_0_1 y0_0_2 y0_0_3 y0_0_5 y0_0_4) := by
  unfold syntax_reader_member_j0
  repeat (first | with_reducible exact syntax_reader_one_le hK _ | with_reducible exact Le.refl _ | refine Le.bif ?_ ?_ | refine Le.bind ?_ (fun _ => ?_))

theorem syntax_reader_member_j1_le {K K' : Nat} (hK : K ≤ K') (x0 : syntax_parser) : Le (syntax_reader_member_j1 K x0) (syntax_reader_member_j1 K' x0) := by
  unfold syntax_reader_member_j1
  repeat (first | with_reducible exact syntax_reader_member_j0_le hK _ _ _ _ _ _ | with_reducible exact Le.refl _ | refine Le.bif ?_ ?_ | refine Le.bind ?_ (fun _ => ?_))

theorem syntax_reader_member_le {K K' : Nat} (hK : K ≤ K') (x0 : syntax_parser) : Le (syntax_reader_member K x0) (syntax_reader_member K' x0) := by
  unfold syntax_reader_member
  repeat (first | with_reducible exact syntax_reader_peek_le hK _ | with_reducible exact strings_IndexByte_le hK _ _ | with_reducible exact syntax_reader_fail_le hK _ _ _ | with_reducible exact syntax_reader_member_j0_le hK _ _ _ _ _ _ | with_reducible exact syntax_reader_member_j1_le hK _ | with_reducible exact Le.refl _ | refine Le.bif ?_ ?_ | refine Le.bind ?_ (fun _ => ?_))

theorem bset_Range_l0_le {K K' : Nat} (hK : K ≤ K') : ∀ {k k' : Nat} (hk : k ≤ k') (x1 : Int) (x6_0_3 : Int) (y4_0_1 : Arr4) (y5_0_2 : Arr4), Le (bset_Range_l0 K k x1 x6_0_3 y4_0_1 y5_0_2) (bset_Range_l0 K' k' x1 x6_0_3 y4_0_1 y5_0_2) := by
  intro k
  induction k with
  | zero => intro k' hk x1 x6_0_3 y4_0_1 y5_0_2 r h; cases (show (none : Option Arr4) = some r from h)
  | succ k ih =>
    intro k' hk x1 x6_0_3 y4_0_1 y5_0_2
    obtain ⟨k', rfl⟩ : ∃ j, k' = j + 1 := ⟨k' - 1, by omega⟩
    rw [bset_Range_l0, bset_Range_l0]
    repeat (first | with_reducible exact ih (by omega) _ _ _ _ | with_reducible exact Le.refl _ | refine Le.bif ?_ ?_ | refine Le.bind ?_ (fun _ => ?_))
  
theorem bset_Range_le {K K' : Nat} (hK : K ≤ K') (x0 : Int) (x1 : Int) : Le (bset_Range K x0 x1) (bset_Range K' x0 x1) := by
  unfold bset_Range
  repeat (first | with_reducible exact bset_Range_l0_le hK hK _ _ _ _ | with_reducible exact Le.refl _ | refine Le.bif ?_ ?_ | refine Le.bind ?_ (fun _ => ?_))

theorem bset_Or_l1_le {K K' : Nat} (hK : K ≤ K') {go0 go0' : (List Arr4) → Int → Int → Arr4 → Arr4 → Option Arr4} (hgo0 : ∀ (x0 : List Arr4) (x9_0_3 : Int) (x10_0_4 : Int) (y2_0_0 : Arr4) (y3_0_1 : Arr4), Le (go0 x0 x9_0_3 x10_0_4 y2_0_0 y3_0_1) (go0' x0 x9_0_3 x10_0_4 y2_0_0 y3_0_1)) : ∀ {k k' : Nat} (hk : k ≤ k') (x0 : List Arr4) (x9_0_3 : Int) (x10_1_4 : Int) (x14_1_5 : Arr4) (x15_1_6 : Int) (y2_0_0 : Arr4) (y3_1_1 : Arr4), Le (bset_Or_l1 K go0 k x0 x9_0_3 x10_1_4 x14_1_5 x15_1_6 y2_0_0 y3_1_1) (bset_Or_l1 K' go0' k' x0 x9_0_3 x10_1_4 x14_1_5 x15_1_6 y2_0_0 y3_1_1) := by
  intro k
  induction k with
  | zero => intro k' hk x0 x9_0_3 x10_1_4 x14_1_5 x15_1_6 y2_0_0 y3_1_1 r h; cases (show (none : Option Arr4) = some r from h)
  | succ k ih =>
    intro k' hk x0 x9_0_3 x10_1_4 x14_1_5 x15_1_6 y2_0_0 y3_1_1
    obtain ⟨k', rfl⟩ : ∃ j, k' = j + 1 := ⟨k' - 1, by omega⟩
    rw [bset_Or_l1, bset_Or_l1]
    repeat (first | with_reducible exact ih (by omega) _ _ _ _ _ _ _ | with_reducible exact hgo0 _ _ _ _ _ | with_reducible exact Le.refl _ | refine Le.bif ?_ ?_ | refine Le.bind ?_ (fun _ => ?_))
  
theorem bset_Or_l0_le {K K' : Nat} (hK : K ≤ K') : ∀ {k k' : Nat} (hk : k ≤ k') (x0 : List Arr4) (x9_0_3 : Int) (x10_0_4 : Int) (y2_0_0 : Arr4) (y3_0_1 : Arr4), Le (bset_Or_l0 K k x0 x9_0_3 x10_0_4 y2_0_0 y3_0_1) (bset_Or_l0 K' k' x0 x9_0_3 x10_0_4 y2_0_0 y3_0_1) := by
  intro k
  induction k with
  | zero => intro k' hk x0 x9_0_3 x10_0_4 y2_0_0 y3_0_1 r h; cases (show (none : Option Arr4) = some r from h)
  | succ k ih =>
    intro k' hk x0 x9_0_3 x10_0_4 y2_0_0 y3_0_1
    obtain ⟨k', rfl⟩ : ∃ j, k' = j + 1 := ⟨k' - 1, by omega⟩
    rw [bset_Or_l0, bset_Or_l0]
    repeat (first | with_reducible exact bset_Or_l1_le hK (fun a0 a1 a2 a3 a4 => ih (by omega) a0 a1 a2 a3 a4) hK _ _ _ _ _ _ _ | with_reducible exact Le.refl _ | refine Le.bif ?_ ?_ | refine Le.bind ?_ (fun _ => ?_))
  
theorem bset_Or_le {K K' : Nat} (hK : K ≤ K') (x0 : List Arr4) : Le (bset_Or K x0) (bset_Or K' x0) := by
  unfold bset_Or
  repeat (first | with_reducible exact bset_Or_l0_le hK hK _ _ _ _ _ | with_reducible exact Le.refl _ | refine Le.bif ?_ ?_ | refine Le.bind ?_ (fun _ => ?_))

theorem syntax_reader_class_j5_le {K K' : Nat} (hK : K ≤ K') {go0 go0' : Bool → Bool → ByteArray → Int → Int → Int → Int → (List api_Node) → Arr4 → Arr4 → Option (Arr4 × syntax_parser)} (hgo0 : ∀ (x3_0_7 : Bool) (x5_0_9 : Bool) (y0_0_0 : ByteArray) (y0_0_1 : Int) (y0_0_2 : Int) (y0_0_3 : Int) (y0_0_5 : Int) (y0_0_4 : List api_Node) (y2_0_6 : Arr4) (y4_0_8 : Arr4), Le (go0 x3_0_7 x5_0_9 y0_0_0 y0_0_1 y0_0_2 y0_0_3 y0_0_5 y0_0_4 y2_0_6 y4_0_8) (go0' x3_0_7 x5_0_9 y0_0_0 y0_0_1 y0_0_2 y0_0_3 y0_0_5 y0_0_4 y2_0_6 y4_0_8)) (x3_0_7 : Bool) (x6_5_9 : Int) (x7_5_10 : Int) (x19_5_11 : Bool) (x20_5_12 : Bool) (x24_5_13 : Bool) (y0_5_0 : ByteArray) (y0_5_1 : Int) (y0_5_2 : Int) (y0_5_3 : Int) (y0_5_5 : Int) (y0_5_4 : List api_Node) (y2_0_6 : Arr4) (y4_0_8 : Arr4) : Le (syntax_reader_class_j5 K go0 x3_0_7 x6_5_9 x7_5_10 x19_5_11 x20_5_12 x24_5_13 y0_5_0 y0_5_1 y0_5_2 y0_5_3 y0_5_5 y0_5_4 y2_0_6 y4_0_8) (syntax_reader_class_j5 K' go0' x3_0_7 x6_5_9 x7_5_10 x19_5_11 x20_5_12 x24_5_13 y0_5_0 y0_5_1 y0_5_2 y0_5_3 y0_5_5 y0_5_4 y2_0_6 y4_0_8) := by
  unfold syntax_reader_class_j5
  repeat (first | with_reducible exact bset_Range_le hK _ _ | with_reducible exact bset_Or_le hK _ | with_reducible exact hgo0 _ _ _ _ _ _ _ _ _ _ | with_reducible exact Le.refl _ | refine Le.bif ?_ ?_ | refine Le.bind ?_ (fun _ => ?_))

theorem syntax_reader_class_j1_le {K K' : Nat} (hK : K ≤ K') {go0 go0' : Bool → Bool → ByteArray → Int → Int → Int → Int → (List api_Node) → Arr4 → Arr4 → Option (Arr4 × syntax_parser)} (hgo0 : ∀ (x3_0_7 : Bool) (x5_0_9 : Bool) (y0_0_0 : ByteArray) (y0_0_1 : Int) (y0_0_2 : Int) (y0_0_3 : Int) (y0_0_5 : Int) (y0_0_4 : List api_Node) (y2_0_6 : Arr4) (y4_0_8 : Arr4), Le (go0 x3_0_7 x5_0_9 y0_0_0 y0_0_1 y0_0_2 y0_0_3 y0_0_5 y0_0_4 y2_0_6 y4_0_8) (go0' x3_0_7 x5_0_9 y0_0_0 y0_0_1 y0_0_2 y0_0_3 y0_0_5 y0_0_4 y2_0_6 y4_0_8)) (x3_0_7 : Bool) (x19_1_9 : Bool) (x20_1_10 : Bool) (x24_1_11 : Bool) (y0_1_0 : ByteArray) (y0_1_1 : Int) (y0_1_2 : Int) (y0_1_3 : Int) (y0_1_5 : Int) (y0_1_4 : List api_Node) (y2_0_6 : Arr4) (y4_0_8 : Arr4) : Le (syntax_reader_class_j1 K go0 x3_0_7 x19_1_9 x20_1_10 x24_1_11 y0_1_0 y0_1_1 y0_1_2 y0_1_3 y0_1_5 y0_1_4 y2_0_6 y4_0_8) (syntax_reader_class_j1 K' go0' x3_0_7 x19_1_9 x20_1_10 x24_1_11 y0_1_0 y0_1_1 y0_1_2 y0_1_3 y0_1_5 y0_1_4 y2_0_6 y4_0_8) := by
  unfold syntax_reader_class_j1
  repeat (first | with_reducible exact syntax_reader_member_le hK _ | with_reducible exact syntax_reader_skip_le hK _ _ | with_reducible exact syntax_reader_fail_le hK _ _ _ | with_reducible exact syntax_reader_class_j5_le hK hgo0 _ _ _ _ _ _ _ _ _ _ _ _ _ _ | with_reducible exact Le.refl _ | refine Le.bif ?_ ?_ | refine Le.bind ?_ (fun _ => ?_))

theorem syntax_reader_class_j4_le {K K' : Nat} (hK : K ≤ K') (y0_4_0 : ByteArray) (y0_4_1 : Int) (y0_4_2 : Int) (y0_4_3 : Int) (y0_4_5 : Int) (y0_4_4 : List api_Node) (y2_0_6 : Arr4) (y4_3_7 : Arr4) : Le (syntax_reader_class_j4 K y0_4_0 y0_4_1 y0_4_2 y0_4_3 y0_4_5 y0_4_4 y2_0_6 y4_3_7) (syntax_reader_class_j4 K' y0_4_0 y0_4_1 y0_4_2 y0_4_3 y0_4_5 y0_4_4 y2_0_6 y4_3_7) := by
  unfold syntax_reader_class_j4
  repeat (first | with_reducible exact syntax_reader_next_le hK _ | with_reducible exact Le.refl _ | refine Le.bif ?_ ?_ | refine Le.bind ?_ (fun _ => ?_))

theorem syntax_reader_class_j3_le {K K' : Nat} (hK : K ≤ K') (y0_3_0 : ByteArray) (y0_3_1 : Int) (y0_3_2 : Int) (y0_3_3 : Int) (y0_3_5 : Int) (y0_3_4 : List api_Node) (y2_0_6 : Arr4) (y4_3_7 : Arr4) : Le (syntax_reader_class_j3 K y0_3_0 y0_3_1 y0_3_2 y0_3_3 y0_3_5 y0_3_4 y2_0_6 y4_3_7) (syntax_reader_class_j3 K' y0_3_0 y0_3_1 y0_3_2 y0_3_3 y0_3_5 y0_3_4 y2_0_6 y4_3_7) := by
  unfold syntax_reader_class_j3
  repeat (first | with_reducible exact syntax_reader_fail_le hK _ _ _ | with_reducible exact syntax_reader_class_j4_le hK _ _ _ _ _ _ _ _ | with_reducible exact Le.refl _ | refine Le.bif ?_ ?_ | refine Le.bind ?_ (fun _ => ?_))

theorem syntax_reader_class_j2_le {K K' : Nat} (hK : K ≤ K') (x3_0_7 : Bool) (y0_2_0 : ByteArray) (y0_2_1 : Int) (y0_2_2 : Int) (y0_2_3 : Int) (y0_2_5 : Int) (y0_2_4 : List api_Node) (y2_0_6 : Arr4) (y4_0_8 : Arr4) : Le (syntax_reader_class_j2 K x3_0_7 y0_2_0 y0_2_1 y0_2_2 y0_2_3 y0_2_5 y0_2_4 y2_0_6 y4_0_8) (syntax_reader_class_j2 K' x3_0_7 y0_2_0 y0_2_1 y0_2_2 y0_2_3 y0_2_5 y0_2_4 y2_0_6 y4_0_8) := by
  unfold syntax_reader_class_j2
  repeat (first | with_reducible exact bset_Not_le hK _ | with_reducible exact syntax_reader_class_j3_le hK _ _ _ _ _ _ _ _ | with_reducible exact Le.refl _ | refine Le.bif ?_ ?_ | refine Le.bind ?_ (fun _ => ?_))

theorem syntax_reader_class_l0_le {K K' : Nat} (hK : K ≤ K') : ∀ {k k' : Nat} (hk : k ≤ k') (x3_0_7 : Bool) (x5_0_9 : Bool) (y0_0_0 : ByteArray) (y0_0_1 : Int) (y0_0_2 : Int) (y0_0_3 : Int) (y0_0_5 : Int) (y0_0_4 : List api_Node) (y2_0_6 : Arr4) (y4_0_8 : Arr4), Le (syntax_reader_class_l0 K k x3_0_7 x5_0_9 y0_0_0 y0_0_1 y0_0_2 y0_0_3 y0_0_5 y0_0_4 y2_0_6 y4_0_8) (syntax_reader_class_l0 K' k' x3_0_7 x5_0_9 y0_0_0 y0_0_1 y0_0_2 y0_0_3 y0_0_5 y0_0_4 y2_0_6 y4_0_8) := by
  intro k
  induction k with
  | zero => intro k' hk x3_0_7 x5_0_9 y0_0_0 y0_0_1 y0_0_2 y0_0_3 y0_0_5 y0_0_4 y2_0_6 y4_0_8 r h; cases (show (none : Option (Arr4 × syntax_parser)) = some r from h)
  | succ k ih =>
    intro k' hk x3_0_7 x5_0_9 y0_0_0 y0_0_1 y0_0_2 y0_0_3 y0_0_5 y0_0_4 y2_0_6 y4_0_8
    obtain ⟨k', rfl⟩ : ∃ j, k' = j + 1 := ⟨k' - 1, by omega⟩
    rw [syntax_reader_class_l0, syntax_reader_class_l0]
    repeat (first | with_reducible exact syntax_reader_class_j1_le hK (fun a0 a1 a2 a3 a4 a5 a6 a7 a8 a9 => ih (by omega) a0 a1 a2 a3 a4 a5 a6 a7 a8 a9) _ _ _ _ _ _ _ _ _ _ _ _ | with_reducible exact syntax_reader_is_le hK _ _ | with_reducible exact syntax_reader_class_j2_le hK _ _ _ _ _ _ _ _ _ | with_reducible exact Le.refl _ | refine Le.bif ?_ ?_ | refine Le.bind ?_ (fun _ => ?_))
  
theorem syntax_reader_class_le {K K' : Nat} (hK : K ≤ K') (x0 : syntax_parser) : Le (syntax_reader_class K x0) (syntax_reader_class K' x0) := by
  unfold syntax_reader_class
  repeat (first | with_reducible exact syntax_reader_next_le hK _ | with_reducible exact syntax_reader_skip_le hK _ _ | with_reducible exact syntax_reader_class_l0_le hK hK _ _ _ _ _ _ _ _ _ _ | with_reducible exact Le.refl _ | refine Le.bif ?_ ?_ | refine Le.bind ?_ (fun _ => ?_))

theorem syntax_parser_group_le {K K' : Nat} (hK : K ≤ K') {rec_syntax_parser_alternative rec_syntax_parser_alternative' : syntax_parser → Option (Int × syntax_parser)} (hrec_syntax_parser_alternative : ∀ (x0 : syntax_parser), Le (rec_syntax_parser_alternative x0) (rec_syntax_parser_alternative' x0)) (x0 : syntax_parser) : Le (syntax_parser_group K rec_syntax_parser_alternative x0) (syntax_parser_group K' rec_syntax_parser_alternative' x0) := by
  unfold syntax_parser_group
  repeat (first | with_reducible exact syntax_reader_fail_le hK _ _ _ | with_reducible exact syntax_reader_next_le hK _ | with_reducible exact hrec_syntax_parser_alternative _ | with_reducible exact Le.refl _ | refine Le.bif ?_ ?_ | refine Le.bind ?_ (fun _ => ?_))

theorem syntax_parser_atom_j1_le {K K' : Nat} (hK : K ≤ K') {rec_syntax_parser_alternative rec_syntax_parser_alternative' : syntax_parser → Option (Int × syntax_parser)} (hrec_syntax_parser_alternative : ∀ (x0 : syntax_parser), Le (rec_syntax_parser_alternative x0) (rec_syntax_parser_alternative' x0)) (x0 : syntax_parser) : Le (syntax_parser_atom_j1 K rec_syntax_parser_alternative x0) (syntax_parser_atom_j1 K' rec_syntax_parser_alternative' x0) := by
  unfold syntax_parser_atom_j1
  repeat (first | with_reducible exact syntax_reader_fail_le hK _ _ _ | with_reducible exact Le.refl _ | refine Le.bif ?_ ?_ | refine Le.bind ?_ (fun _ => ?_))

theorem syntax_parser_atom_j2_le {K K' : Nat} (hK : K ≤ K') {rec_syntax_parser_alternative rec_syntax_parser_alternative' : syntax_parser → Option (Int × syntax_parser)} (hrec_syntax_parser_alternative : ∀ (x0 : syntax_parser), Le (rec_syntax_parser_alternative x0) (rec_syntax_parser_alternative' x0)) (x0 : syntax_parser) : Le (syntax_parser_atom_j2 K rec_syntax_parser_alternative x0) (syntax_parser_atom_j2 K' rec_syntax_parser_alternative' x0) := by
  unfold syntax_parser_atom_j2
  repeat (first | with_reducible exact syntax_reader_one_le hK _ | with_reducible exact bset_Of_le hK _ | with_reducible exact syntax_parser_bytes_le hK _ _ | with_reducible exact Le.refl _ | refine Le.bif ?_ ?_ | refine Le.bind ?_ (fun _ => ?_))

theorem syntax_parser_atom_j0_le {K K' : Nat} (hK : K ≤ K') {rec_syntax_parser_alternative rec_syntax_parser_alternative' : syntax_parser → Option (Int × syntax_parser)} (hrec_syntax_parser_alternative : ∀ (x0 : syntax_parser), Le (rec_syntax_parser_alternative x0) (rec_syntax_parser_alternative' x0)) (x3_0_6 : Int) (x0 : syntax_parser) : Le (syntax_parser_atom_j0 K rec_syntax_parser_alternative x3_0_6 x0) (syntax_parser_atom_j0 K' rec_syntax_parser_alternative' x3_0_6 x0) := by
  unfold syntax_parser_atom_j0
  repeat (first | with_reducible exact syntax_parser_atom_j1_le hK hrec_syntax_parser_alternative _ | with_reducible exact strings_IndexByte_le hK _ _ | with_reducible exact syntax_reader_fail_le hK _ _ _ | with_reducible exact syntax_parser_atom_j2_le hK hrec_syntax_parser_alternative _ | with_reducible exact Le.refl _ | refine Le.bif ?_ ?_ | refine Le.bind ?_ (fun _ => ?_))

theorem syntax_parser_atom_le {K K' : Nat} (hK : K ≤ K') {rec_syntax_parser_alternative rec_syntax_parser_alternative' : syntax_parser → Option (Int × syntax_parser)} (hrec_syntax_parser_alternative : ∀ (x0 : syntax_parser), Le (rec_syntax_parser_alternative x0) (rec_syntax_parser_alternative' x0)) (x0 : syntax_parser) : Le (syntax_parser_atom K rec_syntax_parser_alternative x0) (syntax_parser_atom K' rec_syntax_parser_alternative' x0) := by
  unfold syntax_parser_atom
  repeat (first | with_reducible exact syntax_reader_peek_le hK _ | with_reducible exact syntax_parser_group_le hK hrec_syntax_parser_alternative _ | with_reducible exact syntax_reader_class_le hK _ | with_reducible exact syntax_parser_bytes_le hK _ _ | with_reducible exact syntax_reader_next_le hK _ | with_reducible exact bset_Of_le hK _ | with_reducible exact bset_Not_le hK _ | with_reducible exact syntax_reader_digit_le hK _ _ | with_reducible exact syntax_reader_name_le hK _ | with_reducible exact syntax_parser_put_le hK _ _ | with_reducible exact syntax_parser_atom_j0_le hK hrec_syntax_parser_alternative _ _ | with_reducible exact Le.refl _ | refine Le.bif ?_ ?_ | refine Le.bind ?_ (fun _ => ?_))

theorem syntax_reader_number_j1_le {K K' : Nat} (hK : K ≤ K') (y9000_1_0 : ByteArray) (y9000_1_1 : Int) (y9000_1_2 : Int) (y9000_1_3 : Int) (y9000_1_5 : Int) (y9000_1_4 : List api_Node) : Le (syntax_reader_number_j1 K y9000_1_0 y9000_1_1 y9000_1_2 y9000_1_3 y9000_1_5 y9000_1_4) (syntax_reader_number_j1 K' y9000_1_0 y9000_1_1 y9000_1_2 y9000_1_3 y9000_1_5 y9000_1_4) := by
  unfold syntax_reader_number_j1
  repeat (first | with_reducible exact Le.refl _ | refine Le.bif ?_ ?_ | refine Le.bind ?_ (fun _ => ?_))

theorem syntax_reader_number_l0_le {K K' : Nat} (hK : K ≤ K') : ∀ {k k' : Nat} (hk : k ≤ k') (x0 : syntax_parser) (x4_0_7 : Int) (y0_0_0 : ByteArray) (y0_0_1 : Int) (y0_0_2 : Int) (y0_0_3 : Int) (y0_0_5 : Int) (y0_0_4 : List api_Node), Le (syntax_reader_number_l0 K k x0 x4_0_7 y0_0_0 y0_0_1 y0_0_2 y0_0_3 y0_0_5 y0_0_4) (syntax_reader_number_l0 K' k' x0 x4_0_7 y0_0_0 y0_0_1 y0_0_2 y0_0_3 y0_0_5 y0_0_4) := by
  intro k
  induction k with
  | zero => intro k' hk x0 x4_0_7 y0_0_0 y0_0_1 y0_0_2 y0_0_3 y0_0_5 y0_0_4 r h; cases (show (none : Option (Int × syntax_parser)) = some r from h)
  | succ k ih =>
    intro k' hk x0 x4_0_7 y0_0_0 y0_0_1 y0_0_2 y0_0_3 y0_0_5 y0_0_4
    obtain ⟨k', rfl⟩ : ∃ j, k' = j + 1 := ⟨k' - 1, by omega⟩
    rw [syntax_reader_number_l0, syntax_reader_number_l0]
    repeat (first | with_reducible exact syntax_reader_digit_le hK _ _ | with_reducible exact syntax_reader_next_le hK _ | with_reducible exact ih (by omega) _ _ _ _ _ _ _ _ | with_reducible exact syntax_reader_number_j1_le hK _ _ _ _ _ _ | with_reducible exact Le.refl _ | refine Le.bif ?_ ?_ | refine Le.bind ?_ (fun _ => ?_))
  
theorem syntax_reader_number_le {K K' : Nat} (hK : K ≤ K') (x0 : syntax_parser) : Le (syntax_reader_number K x0) (syntax_reader_number K' x0) := by
  unfold syntax_reader_number
  repeat (first | with_reducible exact syntax_reader_number_l0_le hK hK _ _ _ _ _ _ _ _ | with_reducible exact Le.refl _ | refine Le.bif ?_ ?_ | refine Le.bind ?_ (fun _ => ?_))

theorem syntax_reader_bounds_j1_le {K K' : Nat} (hK : K ≤ K') (x2_0_6 : Int) (x3_0_7 : Int) (y9000_1_2 : ByteArray) (y9000_1_3 : Int) (y9000_1_4 : Int) (y9000_1_5 : Int) (y9000_1_7 : Int) (y9000_1_6 : List api_Node) : Le (syntax_reader_bounds_j1 K x2_0_6 x3_0_7 y9000_1_2 y9000_1_3 y9000_1_4 y9000_1_5 y9000_1_7 y9000_1_6) (syntax_reader_bounds_j1 K' x2_0_6 x3_0_7 y9000_1_2 y9000_1_3 y9000_1_4 y9000_1_5 y9000_1_7 y9000_1_6) := by
  unfold syntax_reader_bounds_j1
  repeat (first | with_reducible exact Le.refl _ | refine Le.bif ?_ ?_ | refine Le.bind ?_ (fun _ => ?_))

theorem syntax_reader_bounds_j2_le {K K' : Nat} (hK : K ≤ K') (x2_0_6 : Int) (x3_0_7 : Int) (x0 : syntax_parser) (y0_2_0 : ByteArray) (y0_2_1 : Int) (y0_2_2 : Int) (y0_2_3 : Int) (y0_2_5 : Int) (y0_2_4 : List api_Node) : Le (syntax_reader_bounds_j2 K x2_0_6 x3_0_7 x0 y0_2_0 y0_2_1 y0_2_2 y0_2_3 y0_2_5 y0_2_4) (syntax_reader_bounds_j2 K' x2_0_6 x3_0_7 x0 y0_2_0 y0_2_1 y0_2_2 y0_2_3 y0_2_5 y0_2_4) := by
  unfold syntax_reader_bounds_j2
  repeat (first | with_reducible exact syntax_reader_fail_le hK _ _ _ | with_reducible exact syntax_reader_bounds_j1_le hK _ _ _ _ _ _ _ _ | with_reducible exact Le.refl _ | refine Le.bif ?_ ?_ | refine Le.bind ?_ (fun _ => ?_))

theorem syntax_reader_bounds_j3_le {K K' : Nat} (hK : K ≤ K') (x2_0_6 : Int) (x3_0_7 : Int) (y9000_3_2 : ByteArray) (y9000_3_3 : Int) (y9000_3_4 : Int) (y9000_3_5 : Int) (y9000_3_7 : Int) (y9000_3_6 : List api_Node) : Le (syntax_reader_bounds_j3 K x2_0_6 x3_0_7 y9000_3_2 y9000_3_3 y9000_3_4 y9000_3_5 y9000_3_7 y9000_3_6) (syntax_reader_bounds_j3 K' x2_0_6 x3_0_7 y9000_3_2 y9000_3_3 y9000_3_4 y9000_3_5 y9000_3_7 y9000_3_6) := by
  unfold syntax_reader_bounds_j3
  repeat (first | with_reducible exact syntax_reader_bounds_j1_le hK _ _ _ _ _ _ _ _ | with_reducible exact Le.refl _ | refine Le.bif ?_ ?_ | refine Le.bind ?_ (fun _ => ?_))

theorem syntax_reader_bounds_j0_le {K K' : Nat} (hK : K ≤ K') (x2_0_6 : Int) (x3_0_7 : Int) (x0 : syntax_parser) (x5_0_9 : Bool) (y0_0_0 : ByteArray) (y0_0_1 : Int) (y0_0_2 : Int) (y0_0_3 : Int) (y0_0_5 : Int) (y0_0_4 : List api_Node) : Le (syntax_reader_bounds_j0 K x2_0_6 x3_0_7 x0 x5_0_9 y0_0_0 y0_0_1 y0_0_2 y0_0_3 y0_0_5 y0_0_4) (syntax_reader_bounds_j0 K' x2_0_6 x3_0_7 x0 x5_0_9 y0_0_0 y0_0_1 y0_0_2 y0_0_3 y0_0_5 y0_0_4) := by
  unfold syntax_reader_bounds_j0
  repeat (first | with_reducible exact syntax_reader_next_le hK _ | with_reducible exact syntax_reader_bounds_j1_le hK _ _ _ _ _ _ _ _ | with_reducible exact syntax_reader_fail_le hK _ _ _ | with_reducible exact syntax_reader_bounds_j2_le hK _ _ _ _ _ _ _ _ _ | with_reducible exact syntax_reader_bounds_j3_le hK _ _ _ _ _ _ _ _ | with_reducible exact Le.refl _ | refine Le.bif ?_ ?_ | refine Le.bind ?_ (fun _ => ?_))

theorem syntax_reader_bounds_le {K K' : Nat} (hK : K ≤ K') (x0 : syntax_parser) : Le (syntax_reader_bounds K x0) (syntax_reader_bounds K' x0) := by
  unfold syntax_reader_bounds
  repeat (first | with_reducible exact syntax_reader_next_le hK _ | with_reducible exact syntax_reader_number_le hK _ | with_reducible exact syntax_reader_skip_le hK _ _ | with_reducible exact syntax_reader_digit_le hK _ _ | with_reducible exact syntax_reader_bounds_j0_le hK _ _ _ _ _ _ _ _ _ _ | with_reducible exact Le.refl _ | refine Le.bif ?_ ?_ | refine Le.bind ?_ (fun _ => ?_))

theorem syntax_parser_times_j0_le {K K' : Nat} (hK : K ≤ K') (y9000_0_0 : ByteArray) (y9000_0_1 : Int) (y9000_0_2 : Int) (y9000_0_3 : Int) (y9000_0_5 : Int) (y9000_0_4 : List api_Node) : Le (syntax_parser_times_j0 K y9000_0_0 y9000_0_1 y9000_0_2 y9000_0_3 y9000_0_5 y9000_0_4) (syntax_parser_times_j0 K' y9000_0_0 y9000_0_1 y9000_0_2 y9000_0_3 y9000_0_5 y9000_0_4) := by
  unfold syntax_parser_times_j0
  repeat (first | with_reducible exact Le.refl _ | refine Le.bif ?_ ?_ | refine Le.bind ?_ (fun _ => ?_))

theorem syntax_parser_times_le {K K' : Nat} (hK : K ≤ K') (x0 : syntax_parser) : Le (syntax_parser_times K x0) (syntax_parser_times K' x0) := by
  unfold syntax_parser_times
  repeat (first | with_reducible exact syntax_reader_skip_le hK _ _ | with_reducible exact syntax_reader_is_le hK _ _ | with_reducible exact syntax_reader_digit_le hK _ _ | with_reducible exact syntax_reader_bounds_le hK _ | with_reducible exact syntax_parser_times_j0_le hK _ _ _ _ _ _ | with_reducible exact Le.refl _ | refine Le.bif ?_ ?_ | refine Le.bind ?_ (fun _ => ?_))

theorem syntax_parser_item_l0_le {K K' : Nat} (hK : K ≤ K') {rec_syntax_parser_alternative rec_syntax_parser_alternative' : syntax_parser → Option (Int × syntax_parser)} (hrec_syntax_parser_alternative : ∀ (x0 : syntax_parser), Le (rec_syntax_parser_alternative x0) (rec_syntax_parser_alternative' x0)) : ∀ {k k' : Nat} (hk : k ≤ k') (x3_0_6 : Int) (y0_0_0 : ByteArray) (y0_0_1 : Int) (y0_0_2 : Int) (y0_0_3 : Int) (y0_0_5 : Int) (y0_0_4 : List api_Node), Le (syntax_parser_item_l0 K rec_syntax_parser_alternative k x3_0_6 y0_0_0 y0_0_1 y0_0_2 y0_0_3 y0_0_5 y0_0_4) (syntax_parser_item_l0 K' rec_syntax_parser_alternative' k' x3_0_6 y0_0_0 y0_0_1 y0_0_2 y0_0_3 y0_0_5 y0_0_4) := by
  intro k
  induction k with
  | zero => intro k' hk x3_0_6 y0_0_0 y0_0_1 y0_0_2 y0_0_3 y0_0_5 y0_0_4 r h; cases (show (none : Option (Int × syntax_parser)) = some r from h)
  | succ k ih =>
    intro k' hk x3_0_6 y0_0_0 y0_0_1 y0_0_2 y0_0_3 y0_0_5 y0_0_4
    obtain ⟨k', rfl⟩ : ∃ j, k' = j + 1 := ⟨k' - 1, by omega⟩
    rw [syntax_parser_item_l0, syntax_parser_item_l0]
    repeat (first | with_reducible exact syntax_parser_times_le hK _ | with_reducible exact syntax_parser_put_le hK _ _ | with_reducible exact ih (by omega) _ _ _ _ _ _ _ | with_reducible exact Le.refl _ | refine Le.bif ?_ ?_ | refine Le.bind ?_ (fun _ => ?_))
  
theorem syntax_parser_item_le {K K' : Nat} (hK : K ≤ K') {rec_syntax_parser_alternative rec_syntax_parser_alternative' : syntax_parser → Option (Int × syntax_parser)} (hrec_syntax_parser_alternative : ∀ (x0 : syntax_parser), Le (rec_syntax_parser_alternative x0) (rec_syntax_parser_alternative' x0)) (x0 : syntax_parser) : Le (syntax_parser_item K rec_syntax_parser_alternative x0) (syntax_parser_item K' rec_syntax_parser_alternative' x0) := by
  unfold syntax_parser_item
  repeat (first | with_reducible exact syntax_parser_atom_le hK hrec_syntax_parser_alternative _ | with_reducible exact syntax_parser_item_l0_le hK hrec_syntax_parser_alternative hK _ _ _ _ _ _ _ | with_reducible exact Le.refl _ | refine Le.bif ?_ ?_ | refine Le.bind ?_ (fun _ => ?_))

theorem syntax_parser_join_le {K K' : Nat} (hK : K ≤ K') (x0 : syntax_parser) (x1 : Int) (x2 : List Int) : Le (syntax_parser_join K x0 x1 x2) (syntax_parser_join K' x0 x1 x2) := by
  unfold syntax_parser_join
  repeat (first | with_reducible exact syntax_parser_put_le hK _ _ | with_reducible exact Le.refl _ | refine Le.bif ?_ ?_ | refine Le.bind ?_ (fun _ => ?_))

theorem syntax_parser_row_j1_le {K K' : Nat} (hK : K ≤ K') {rec_syntax_parser_alternative rec_syntax_parser_alternative' : syntax_parser → Option (Int × syntax_parser)} (hrec_syntax_parser_alternative : ∀ (x0 : syntax_parser), Le (rec_syntax_parser_alternative x0) (rec_syntax_parser_alternative' x0)) (y0_1_0 : ByteArray) (y0_1_1 : Int) (y0_1_2 : Int) (y0_1_3 : Int) (y0_1_5 : Int) (y0_1_4 : List api_Node) (y3_1_6 : List Int) : Le (syntax_parser_row_j1 K rec_syntax_parser_alternative y0_1_0 y0_1_1 y0_1_2 y0_1_3 y0_1_5 y0_1_4 y3_1_6) (syntax_parser_row_j1 K' rec_syntax_parser_alternative' y0_1_0 y0_1_1 y0_1_2 y0_1_3 y0_1_5 y0_1_4 y3_1_6) := by
  unfold syntax_parser_row_j1
  repeat (first | with_reducible exact syntax_parser_put_le hK _ _ | with_reducible exact syntax_parser_join_le hK _ _ _ | with_reducible exact Le.refl _ | refine Le.bif ?_ ?_ | refine Le.bind ?_ (fun _ => ?_))

theorem syntax_parser_row_l0_le {K K' : Nat} (hK : K ≤ K') {rec_syntax_parser_alternative rec_syntax_parser_alternative' : syntax_parser → Option (Int × syntax_parser)} (hrec_syntax_parser_alternative : ∀ (x0 : syntax_parser), Le (rec_syntax_parser_alternative x0) (rec_syntax_parser_alternative' x0)) : ∀ {k k' : Nat} (hk : k ≤ k') (y0_0_0 : ByteArray) (y0_0_1 : Int) (y0_0_2 : Int) (y0_0_3 : Int) (y0_0_5 : Int) (y0_0_4 : List api_Node) (y3_0_6 : List Int), Le (syntax_parser_row_l0 K rec_syntax_parser_alternative k y0_0_0 y0_0_1 y0_0_2 y0_0_3 y0_0_5 y0_0_4 y3_0_6) (syntax_parser_row_l0 K' rec_syntax_parser_alternative' k' y0_0_0 y0_0_1 y0_0_2 y0_0_3 y0_0_5 y0_0_4 y3_0_6) := by
  intro k
  induction k with
  | zero => intro k' hk y0_0_0 y0_0_1 y0_0_2 y0_0_3 y0_0_5 y0_0_4 y3_0_6 r h; cases (show (none : Option (Int × syntax_parser)) = some r from h)
  | succ k ih =>
    intro k' hk y0_0_0 y0_0_1 y0_0_2 y0_0_3 y0_0_5 y0_0_4 y3_0_6
    obtain ⟨k', rfl⟩ : ∃ j, k' = j + 1 := ⟨k' - 1, by omega⟩
    rw [syntax_parser_row_l0, syntax_parser_row_l0]
    repeat (first | with_reducible exact syntax_reader_peek_le hK _ | with_reducible exact syntax_parser_row_j1_le hK hrec_syntax_parser_alternative _ _ _ _ _ _ _ | with_reducible exact syntax_parser_item_le hK hrec_syntax_parser_alternative _ | with_reducible exact ih (by omega) _ _ _ _ _ _ _ | with_reducible exact Le.refl _ | refine Le.bif ?_ ?_ | refine Le.bind ?_ (fun _ => ?_))
  
theorem syntax_parser_row_le {K K' : Nat} (hK : K ≤ K') {rec_syntax_parser_alternative rec_syntax_parser_alternative' : syntax_parser → Option (Int × syntax_parser)} (hrec_syntax_parser_alternative : ∀ (x0 : syntax_parser), Le (rec_syntax_parser_alternative x0) (rec_syntax_parser_alternative' x0)) (x0 : syntax_parser) : Le (syntax_parser_row K rec_syntax_parser_alternative x0) (syntax_parser_row K' rec_syntax_parser_alternative' x0) := by
  unfold syntax_parser_row
  repeat (first | with_reducible exact syntax_parser_row_l0_le hK hrec_syntax_parser_alternative hK _ _ _ _ _ _ _ | with_reducible exact Le.refl _ | refine Le.bif ?_ ?_ | refine Le.bind ?_ (fun _ => ?_))

theorem syntax_parser_alternative_l0_le {K K' : Nat} (hK : K ≤ K') {rec_syntax_parser_alternative rec_syntax_parser_alternative' : syntax_parser → Option (Int × syntax_parser)} (hrec_syntax_parser_alternative : ∀ (x0 : syntax_parser), Le (rec_syntax_parser_alternative x0) (rec_syntax_parser_alternative' x0)) : ∀ {k k' : Nat} (hk : k ≤ k') (y0_0_0 : ByteArray) (y0_0_1 : Int) (y0_0_2 : Int) (y0_0_3 : Int) (y0_0_5 : Int) (y0_0_4 : List api_Node) (y3_0_6 : List Int), Le (syntax_parser_alternative_l0 K rec_syntax_parser_alternative k y0_0_0 y0_0_1 y0_0_2 y0_0_3 y0_0_5 y0_0_4 y3_0_6) (syntax_parser_alternative_l0 K' rec_syntax_parser_alternative' k' y0_0_0 y0_0_1 y0_0_2 y0_0_3 y0_0_5 y0_0_4 y3_0_6) := by
  intro k
  induction k with
  | zero => intro k' hk y0_0_0 y0_0_1 y0_0_2 y0_0_3 y0_0_5 y0_0_4 y3_0_6 r h; cases (show (none : Option (Int × syntax_parser)) = some r from h)
  | succ k ih =>
    intro k' hk y0_0_0 y0_0_1 y0_0_2 y0_0_3 y0_0_5 y0_0_4 y3_0_6
    obtain ⟨k', rfl⟩ : ∃ j, k' = j + 1 := ⟨k' - 1, by omega⟩
    rw [syntax_parser_alternative_l0, syntax_parser_alternative_l0]
    repeat (first | with_reducible exact syntax_reader_skip_le hK _ _ | with_reducible exact syntax_parser_row_le hK hrec_syntax_parser_alternative _ | with_reducible exact ih (by omega) _ _ _ _ _ _ _ | with_reducible exact syntax_parser_join_le hK _ _ _ | with_reducible exact Le.refl _ | refine Le.bif ?_ ?_ | refine Le.bind ?_ (fun _ => ?_))
  
theorem syntax_parser_alternative_b_le {K K' : Nat} (hK : K ≤ K') {rec_syntax_parser_alternative rec_syntax_parser_alternative' : syntax_parser → Option (Int × syntax_parser)} (hrec_syntax_parser_alternative : ∀ (x0 : syntax_parser), Le (rec_syntax_parser_alternative x0) (rec_syntax_parser_alternative' x0)) (x0 : syntax_parser) : Le (syntax_parser_alternative_b K rec_syntax_parser_alternative x0) (syntax_parser_alternative_b K' rec_syntax_parser_alternative' x0) := by
  unfold syntax_parser_alternative_b
  repeat (first | with_reducible exact syntax_parser_row_le hK hrec_syntax_parser_alternative _ | with_reducible exact syntax_parser_alternative_l0_le hK hrec_syntax_parser_alternative hK _ _ _ _ _ _ _ | with_reducible exact Le.refl _ | refine Le.bif ?_ ?_ | refine Le.bind ?_ (fun _ => ?_))

theorem syntax_parser_alternative_r_le {K K' : Nat} (hK : K ≤ K') : ∀ {n n' : Nat} (hn : n ≤ n') (x0 : syntax_parser), Le (syntax_parser_alternative_r K n x0) (syntax_parser_alternative_r K' n' x0) := by
  intro n
  induction n with
  | zero => intro n' hn x0 r h; cases (show (none : Option (Int × syntax_parser)) = some r from h)
  | succ n ih =>
    intro n' hn x0
    obtain ⟨n', rfl⟩ : ∃ j, n' = j + 1 := ⟨n' - 1, by omega⟩
    exact syntax_parser_alternative_b_le hK (fun x0 => ih (by omega) x0) x0

theorem syntax_parser_alternative_le {K K' : Nat} (hK : K ≤ K') (x0 : syntax_parser) : Le (syntax_parser_alternative K x0) (syntax_parser_alternative K' x0) := syntax_parser_alternative_r_le hK hK x0

theorem syntax_Parse_j0_le {K K' : Nat} (hK : K ≤ K') (y5_0_0 : ByteArray) (y5_0_1 : Int) (y5_0_2 : Int) (y5_0_3 : Int) (y5_0_5 : Int) (y5_0_4 : List api_Node) : Le (syntax_Parse_j0 K y5_0_0 y5_0_1 y5_0_2 y5_0_3 y5_0_5 y5_0_4) (syntax_Parse_j0 K' y5_0_0 y5_0_1 y5_0_2 y5_0_3 y5_0_5 y5_0_4) := by
  unfold syntax_Parse_j0
  repeat (first | with_reducible exact Le.refl _ | refine Le.bif ?_ ?_ | refine Le.bind ?_ (fun _ => ?_))

theorem syntax_Parse_le {K K' : Nat} (hK : K ≤ K') (x0 : ByteArray) : Le (syntax_Parse K x0) (syntax_Parse K' x0) := by
  unfold syntax_Parse
  repeat (first | with_reducible exact syntax_parser_alternative_le hK _ | with_reducible exact syntax_reader_peek_le hK _ | with_reducible exact syntax_reader_fail_le hK _ _ _ | with_reducible exact syntax_Parse_j0_le hK _ _ _ _ _ _ | with_reducible exact Le.refl _ | refine Le.bif ?_ ?_ | refine Le.bind ?_ (fun _ => ?_))

theorem raddleref01_Has_le {K K' : Nat} (hK : K ≤ K') (x0 : Arr4) (x1 : Int) : Le (raddleref01_Has K x0 x1) (raddleref01_Has K' x0 x1) := by
  unfold raddleref01_Has
  repeat (first | with_reducible exact Le.refl _ | refine Le.bif ?_ ?_ | refine Le.bind ?_ (fun _ => ?_))

theorem raddleref01_with_le {K K' : Nat} (hK : K ≤ K') (x0 : Arr4) (x1 : Int) : Le (raddleref01_with K x0 x1) (raddleref01_with K' x0 x1) := by
  unfold raddleref01_with
  repeat (first | with_reducible exact raddleref01_Has_le hK _ _ | with_reducible exact Le.refl _ | refine Le.bif ?_ ?_ | refine Le.bind ?_ (fun _ => ?_))

theorem raddleref01_Of_l0_le {K K' : Nat} (hK : K ≤ K') : ∀ {k k' : Nat} (hk : k ≤ k') (x0 : List Int) (x4_0_3 : Int) (y2_0_1 : Arr4) (y3_0_2 : Arr4), Le (raddleref01_Of_l0 K k x0 x4_0_3 y2_0_1 y3_0_2) (raddleref01_Of_l0 K' k' x0 x4_0_3 y2_0_1 y3_0_2) := by
  intro k
  induction k with
  | zero => intro k' hk x0 x4_0_3 y2_0_1 y3_0_2 r h; cases (show (none : Option Arr4) = some r from h)
  | succ k ih =>
    intro k' hk x0 x4_0_3 y2_0_1 y3_0_2
    obtain ⟨k', rfl⟩ : ∃ j, k' = j + 1 := ⟨k' - 1, by omega⟩
    rw [raddleref01_Of_l0, raddleref01_Of_l0]
    repeat (first | with_reducible exact raddleref01_with_le hK _ _ | with_reducible exact ih (by omega) _ _ _ _ | with_reducible exact Le.refl _ | refine Le.bif ?_ ?_ | refine Le.bind ?_ (fun _ => ?_))
  
theorem raddleref01_Of_le {K K' : Nat} (hK : K ≤ K') (x0 : List Int) : Le (raddleref01_Of K x0) (raddleref01_Of K' x0) := by
  unfold raddleref01_Of
  repeat (first | with_reducible exact raddleref01_Of_l0_le hK hK _ _ _ _ | with_reducible exact Le.refl _ | refine Le.bif ?_ ?_ | refine Le.bind ?_ (fun _ => ?_))

theorem raddlelaw04_one_le {K K' : Nat} (hK : K ≤ K') (x0 : Int) : Le (raddlelaw04_one K x0) (raddlelaw04_one K' x0) := by
  unfold raddlelaw04_one
  repeat (first | with_reducible exact raddleref01_Of_le hK _ | with_reducible exact Le.refl _ | refine Le.bif ?_ ?_ | refine Le.bind ?_ (fun _ => ?_))

theorem raddleref04_Same_j1_le {K K' : Nat} (hK : K ≤ K') : Le (raddleref04_Same_j1 K ) (raddleref04_Same_j1 K' ) := by
  unfold raddleref04_Same_j1
  repeat (first | with_reducible exact Le.refl _ | refine Le.bif ?_ ?_ | refine Le.bind ?_ (fun _ => ?_))

theorem raddleref04_Same_l2_le {K K' : Nat} (hK : K ≤ K') {go0 go0' : (List api_Node) → (List api_Node) → Int → Option Bool} (hgo0 : ∀ (x0 : List api_Node) (x1 : List api_Node) (x5_0_2 : Int), Le (go0 x0 x1 x5_0_2) (go0' x0 x1 x5_0_2)) : ∀ {k k' : Nat} (hk : k ≤ k') (x0 : List api_Node) (x1 : List api_Node) (x5_2_2 : Int) (x8_2_15 : Int) (x35_2_16 : Arr4) (x37_2_17 : Arr4) (x38_2_18 : Bool) (x42_2_19 : Int) (x44_2_20 : Int) (x45_2_21 : Bool) (x49_2_22 : Int) (x51_2_23 : Int) (x52_2_24 : Bool) (x56_2_25 : ByteArray) (x58_2_26 : ByteArray) (x59_2_27 : Bool) (x63_2_28 : List Int) (x64_2_29 : Int) (x66_2_30 : List Int) (x67_2_31 : Int) (x68_2_32 : Bool) (y6_2_3 : Int) (y6_2_4 : Arr4) (y6_2_5 : List Int) (y6_2_6 : Int) (y6_2_7 : Int) (y6_2_8 : ByteArray) (y7_2_9 : Int) (y7_2_10 : Arr4) (y7_2_11 : List Int) (y7_2_12 : Int) (y7_2_13 : Int) (y7_2_14 : ByteArray), Le (raddleref04_Same_l2 K go0 k x0 x1 x5_2_2 x8_2_15 x35_2_16 x37_2_17 x38_2_18 x42_2_19 x44_2_20 x45_2_21 x49_2_22 x51_2_23 x52_2_24 x56_2_25 x58_2_26 x59_2_27 x63_2_28 x64_2_29 x66_2_30 x67_2_31 x68_2_32 y6_2_3 y6_2_4 y6_2_5 y6_2_6 y6_2_7 y6_2_8 y7_2_9 y7_2_10 y7_2_11 y7_2_12 y7_2_13 y7_2_14) (raddleref04_Same_l2 K' go0' k' x0 x1 x5_2_2 x8_2_15 x35_2_16 x37_2_17 x38_2_18 x42_2_19 x44_2_20 x45_2_21 x49_2_22 x51_2_23 x52_2_24 x56_2_25 x58_2_26 x59_2_27 x63_2_28 x64_2_29 x66_2_30 x67_2_31 x68_2_32 y6_2_3 y6_2_4 y6_2_5 y6_2_6 y6_2_7 y6_2_8 y7_2_9 y7_2_10 y7_2_11 y7_2_12 y7_2_13 y7_2_14) := by
  intro k
  induction k with
  | zero => intro k' hk x0 x1 x5_2_2 x8_2_15 x35_2_16 x37_2_17 x38_2_18 x42_2_19 x44_2_20 x45_2_21 x49_2_22 x51_2_23 x52_2_24 x56_2_25 x58_2_26 x59_2_27 x63_2_28 x64_2_29 x66_2_30 x67_2_31 x68_2_32 y6_2_3 y6_2_4 y6_2_5 y6_2_6 y6_2_7 y6_2_8 y7_2_9 y7_2_10 y7_2_11 y7_2_12 y7_2_13 y7_2_14 r h; cases (show (none : Option Bool) = some r from h)
  | succ k ih =>
    intro k' hk x0 x1 x5_2_2 x8_2_15 x35_2_16 x37_2_17 x38_2_18 x42_2_19 x44_2_20 x45_2_21 x49_2_22 x51_2_23 x52_2_24 x56_2_25 x58_2_26 x59_2_27 x63_2_28 x64_2_29 x66_2_30 x67_2_31 x68_2_32 y6_2_3 y6_2_4 y6_2_5 y6_2_6 y6_2_7 y6_2_8 y7_2_9 y7_2_10 y7_2_11 y7_2_12 y7_2_13 y7_2_14
    obtain ⟨k', rfl⟩ : ∃ j, k' = j + 1 := ⟨k' - 1, by omega⟩
    rw [raddleref04_Same_l2, raddleref04_Same_l2]
    repeat (first | with_reducible exact ih (by omega) _ _ _ _ _ _ _ _ _ _ _ _ _ _ _ _ _ _ _ _ _ _ _ _ _ _ _ _ _ _ _ _ _ | with_reducible exact hgo0 _ _ _ | with_reducible exact Le.refl _ | refine Le.bif ?_ ?_ | refine Le.bind ?_ (fun _ => ?_))
  
theorem raddleref04_Same_l0_le {K K' : Nat} (hK : K ≤ K') : ∀ {k k' : Nat} (hk : k ≤ k') (x0 : List api_Node) (x1 : List api_Node) (x5_0_2 : Int), Le (raddleref04_Same_l0 K k x0 x1 x5_0_2) (raddleref04_Same_l0 K' k' x0 x1 x5_0_2) := by
  intro k
  induction k with
  | zero => intro k' hk x0 x1 x5_0_2 r h; cases (show (none : Option Bool) = some r from h)
  | succ k ih =>
    intro k' hk x0 x1 x5_0_2
    obtain ⟨k', rfl⟩ : ∃ j, k' = j + 1 := ⟨k' - 1, by omega⟩
    rw [raddleref04_Same_l0, raddleref04_Same_l0]
    repeat (first | with_reducible exact raddleref04_Same_j1_le hK | with_reducible exact raddleref04_Same_l2_le hK (fun a0 a1 a2 => ih (by omega) a0 a1 a2) hK _ _ _ _ _ _ _ _ _ _ _ _ _ _ _ _ _ _ _ _ _ _ _ _ _ _ _ _ _ _ _ _ _ | with_reducible exact Le.refl _ | refine Le.bif ?_ ?_ | refine Le.bind ?_ (fun _ => ?_))
  
theorem raddleref04_Same_le {K K' : Nat} (hK : K ≤ K') (x0 : List api_Node) (x1 : List api_Node) : Le (raddleref04_Same K x0 x1) (raddleref04_Same K' x0 x1) := by
  unfold raddleref04_Same
  repeat (first | with_reducible exact raddleref04_Same_l0_le hK hK _ _ _ | with_reducible exact Le.refl _ | refine Le.bif ?_ ?_ | refine Le.bind ?_ (fun _ => ?_))

theorem raddlelaw04_shown_le {K K' : Nat} (hK : K ≤ K') : Le (raddlelaw04_shown K ) (raddlelaw04_shown K' ) := by
  unfold raddlelaw04_shown
  repeat (first | with_reducible exact syntax_Parse_le hK _ | with_reducible exact raddlelaw04_one_le hK _ | with_reducible exact raddleref04_Same_le hK _ _ | with_reducible exact Le.refl _ | refine Le.bif ?_ ?_ | refine Le.bind ?_ (fun _ => ?_))

end Go.Rv

/- With more fuel each plain function answers the same: printed by a program of ours. -/
import Derived.Test.YtocjhbbldeankaaDoorRgP
import Derived.Test.YtocjhbbldeankaaDoorRvZ
namespace Go.Rv
set_option linter.unusedVariables false
theorem bits_TrailingZeros64_le {K K' : Nat} (hK : K ≤ K') (x0 : Int) : Le (bits_TrailingZeros64 K x0) (bits_TrailingZeros64 K' x0) := by
  unfold bits_TrailingZeros64
  repeat (first | with_reducible exact Le.refl _ | refine Le.bif ?_ ?_ | refine Le.bind ?_ (fun _ => ?_))
theorem stringslite_IndexByte_le {K K' : Nat} (hK : K ≤ K') (x0 : ByteArray) (x1 : Int) : Le (stringslite_IndexByte K x0 x1) (stringslite_IndexByte K' x0 x1) := by
  unfold stringslite_IndexByte
  repeat (first | with_reducible exact Le.refl _ | refine Le.bif ?_ ?_ | refine Le.bind ?_ (fun _ => ?_))
theorem strings_IndexByte_le {K K' : Nat} (hK : K ≤ K') (x0 : ByteArray) (x1 : Int) : Le (strings_IndexByte K x0 x1) (strings_IndexByte K' x0 x1) := by
  unfold strings_IndexByte
  repeat (first | with_reducible exact stringslite_IndexByte_le hK _ _ | with_reducible exact Le.refl _ | refine Le.bif ?_ ?_ | refine Le.bind ?_ (fun _ => ?_))
theorem strconv_isPowerOfTwo_le {K K' : Nat} (hK : K ≤ K') (x0 : Int) : Le (strconv_isPowerOfTwo K x0) (strconv_isPowerOfTwo K' x0) := by
  unfold strconv_isPowerOfTwo
  repeat (first | with_reducible exact Le.refl _ | refine Le.bif ?_ ?_ | refine Le.bind ?_ (fun _ => ?_))
theorem bits_TrailingZeros_le {K K' : Nat} (hK : K ≤ K') (x0 : Int) : Le (bits_TrailingZeros K x0) (bits_TrailingZeros K' x0) := by
  unfold bits_TrailingZeros
  repeat (first | with_reducible exact bits_TrailingZeros64_le hK _ | with_reducible exact Le.refl _ | refine Le.bif ?_ ?_ | refine Le.bind ?_ (fun _ => ?_))
theorem strconv_formatBits_j0_le {K K' : Nat} (hK : K ≤ K') (x0 : List Int) (x1 : Int) (x2 : Int) (x3 : Bool) (x4 : Bool) : Le (strconv_formatBits_j0 K x0 x1 x2 x3 x4) (strconv_formatBits_j0 K' x0 x1 x2 x3 x4) := by
  unfold strconv_formatBits_j0
  repeat (first | with_reducible exact Le.refl _ | refine Le.bif ?_ ?_ | refine Le.bind ?_ (fun _ => ?_))
theorem strconv_formatBits_j5_le {K K' : Nat} (hK : K ≤ K') (x0 : List Int) (x4 : Bool) (x13_5_4 : Int) (y12_5_3 : ArrN) : Le (strconv_formatBits_j5 K x0 x4 x13_5_4 y12_5_3) (strconv_formatBits_j5 K' x0 x4 x13_5_4 y12_5_3) := by
  unfold strconv_formatBits_j5
  repeat (first | with_reducible exact Le.refl _ | refine Le.bif ?_ ?_ | refine Le.bind ?_ (fun _ => ?_))
theorem strconv_formatBits_j4_le {K K' : Nat} (hK : K ≤ K') (x0 : List Int) (x3 : Bool) (x4 : Bool) (x13_4_5 : Int) (y12_4_4 : ArrN) : Le (strconv_formatBits_j4 K x0 x3 x4 x13_4_5 y12_4_4) (strconv_formatBits_j4 K' x0 x3 x4 x13_4_5 y12_4_4) := by
  unfold strconv_formatBits_j4
  repeat (first | with_reducible exact strconv_formatBits_j5_le hK _ _ _ _ | with_reducible exact Le.refl _ | refine Le.bif ?_ ?_ | refine Le.bind ?_ (fun _ => ?_))
theorem strconv_formatBits_l2_le {K K' : Nat} (hK : K ≤ K') : ∀ {k k' : Nat} (hk : k ≤ k') (x0 : List Int) (x1_2_1 : Int) (x3 : Bool) (x4 : Bool) (x13_2_6 : Int) (x14_2_7 : Int) (x15_2_8 : Int) (x16_2_9 : Int) (y12_2_5 : ArrN), Le (strconv_formatBits_l2 K k x0 x1_2_1 x3 x4 x13_2_6 x14_2_7 x15_2_8 x16_2_9 y12_2_5) (strconv_formatBits_l2 K' k' x0 x1_2_1 x3 x4 x13_2_6 x14_2_7 x15_2_8 x16_2_9 y12_2_5) := by
  intro k
  induction k with
  | zero => intro k' hk x0 x1_2_1 x3 x4 x13_2_6 x14_2_7 x15_2_8 x16_2_9 y12_2_5 r h; cases (show (none : Option ((List Int) × ByteArray)) = some r from h)
  | succ k ih =>
    intro k' hk x0 x1_2_1 x3 x4 x13_2_6 x14_2_7 x15_2_8 x16_2_9 y12_2_5
    obtain ⟨k', rfl⟩ : ∃ j, k' = j + 1 := ⟨k' - 1, by omega⟩
    rw [strconv_formatBits_l2, strconv_formatBits_l2]
    repeat (first | with_reducible exact ih (by omega) _ _ _ _ _ _ _ _ _ | with_reducible exact strconv_formatBits_j4_le hK _ _ _ _ _ | with_reducible exact Le.refl _ | refine Le.bif ?_ ?_ | refine Le.bind ?_ (fun _ => ?_))
theorem strconv_formatBits_l3_le {K K' : Nat} (hK : K ≤ K') : ∀ {k k' : Nat} (hk : k ≤ k') (x0 : List Int) (x1_3_1 : Int) (x3 : Bool) (x4 : Bool) (x13_3_6 : Int) (x17_3_7 : Int) (y12_3_5 : ArrN), Le (strconv_formatBits_l3 K k x0 x1_3_1 x3 x4 x13_3_6 x17_3_7 y12_3_5) (strconv_formatBits_l3 K' k' x0 x1_3_1 x3 x4 x13_3_6 x17_3_7 y12_3_5) := by
  intro k
  induction k with
  | zero => intro k' hk x0 x1_3_1 x3 x4 x13_3_6 x17_3_7 y12_3_5 r h; cases (show (none : Option ((List Int) × ByteArray)) = some r from h)
  | succ k ih =>
    intro k' hk x0 x1_3_1 x3 x4 x13_3_6 x17_3_7 y12_3_5
    obtain ⟨k', rfl⟩ : ∃ j, k' = j + 1 := ⟨k' - 1, by omega⟩
    rw [strconv_formatBits_l3, strconv_formatBits_l3]
    repeat (first | with_reducible exact ih (by omega) _ _ _ _ _ _ _ | with_reducible exact strconv_formatBits_j4_le hK _ _ _ _ _ | with_reducible exact Le.refl _ | refine Le.bif ?_ ?_ | refine Le.bind ?_ (fun _ => ?_))
theorem strconv_formatBits_j1_le {K K' : Nat} (hK : K ≤ K') (x0 : List Int) (x1_1_1 : Int) (x2 : Int) (x3 : Bool) (x4 : Bool) (y12_1_6 : ArrN) : Le (strconv_formatBits_j1 K x0 x1_1_1 x2 x3 x4 y12_1_6) (strconv_formatBits_j1 K' x0 x1_1_1 x2 x3 x4 y12_1_6) := by
  unfold strconv_formatBits_j1
  repeat (first | with_reducible exact strconv_isPowerOfTwo_le hK _ | with_reducible exact bits_TrailingZeros_le hK _ | with_reducible exact strconv_formatBits_l2_le hK hK _ _ _ _ _ _ _ _ _ | with_reducible exact strconv_formatBits_l3_le hK hK _ _ _ _ _ _ _ | with_reducible exact Le.refl _ | refine Le.bif ?_ ?_ | refine Le.bind ?_ (fun _ => ?_))
theorem strconv_formatBits_le {K K' : Nat} (hK : K ≤ K') (x0 : List Int) (x1 : Int) (x2 : Int) (x3 : Bool) (x4 : Bool) : Le (strconv_formatBits K x0 x1 x2 x3 x4) (strconv_formatBits K' x0 x1 x2 x3 x4) := by
  unfold strconv_formatBits
  repeat (first | with_reducible exact strconv_formatBits_j0_le hK _ _ _ _ _ | with_reducible exact strconv_formatBits_j1_le hK _ _ _ _ _ _ | with_reducible exact Le.refl _ | refine Le.bif ?_ ?_ | refine Le.bind ?_ (fun _ => ?_))
theorem strconv_FormatUint_f52_le {K K' : Nat} (hK : K ≤ K') (x0 : Int) (x1 : Int) : Le (strconv_FormatUint_f52 K x0 x1) (strconv_FormatUint_f52 K' x0 x1) := by
  unfold strconv_FormatUint_f52
  repeat (first | with_reducible exact strconv_formatBits_le hK _ _ _ _ _ | with_reducible exact Le.refl _ | refine Le.bif ?_ ?_ | refine Le.bind ?_ (fun _ => ?_))
theorem strconv_FormatUint_le {K K' : Nat} (hK : K ≤ K') (x0 : Int) (x1 : Int) : Le (strconv_FormatUint K x0 x1) (strconv_FormatUint K' x0 x1) := by
  unfold strconv_FormatUint
  repeat (first | with_reducible exact strconv_FormatUint_f52_le hK _ _ | with_reducible exact Le.refl _ | refine Le.bif ?_ ?_ | refine Le.bind ?_ (fun _ => ?_))
theorem print_Byte_j0_le {K K' : Nat} (hK : K ≤ K') (x0 : Int) : Le (print_Byte_j0 K x0) (print_Byte_j0 K' x0) := by
  unfold print_Byte_j0
  repeat (first | with_reducible exact strconv_FormatUint_le hK _ _ | with_reducible exact Le.refl _ | refine Le.bif ?_ ?_ | refine Le.bind ?_ (fun _ => ?_))
theorem print_Byte_le {K K' : Nat} (hK : K ≤ K') (x0 : Int) : Le (print_Byte K x0) (print_Byte K' x0) := by
  unfold print_Byte
  repeat (first | with_reducible exact strings_IndexByte_le hK _ _ | with_reducible exact print_Byte_j0_le hK _ | with_reducible exact Le.refl _ | refine Le.bif ?_ ?_ | refine Le.bind ?_ (fun _ => ?_))
end Go.Rv

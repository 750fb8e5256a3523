/- With more fuel each plain function answers the same: printed by a program of ours. -/
import Derived.Test.YtocjhbbldeankaaDoorRgP
import Derived.Test.YtocjhbbldeankaaDoorRvZ
namespace Go.Rv
set_option linter.unusedVariables false
theorem bits_TrailingZeros64_le {K K' : Nat} (hK : K ≤ K') (x0 : Int) : Le (bits_TrailingZeros64 K x0) (bits_TrailingZeros64 K' x0) := by
 unfold bits_TrailingZeros64
 repeat (first | with_reducible exact Le.refl _ | refine Le.bif ?_ ?_ | refine Le.bind ?_ (fun _ => ?_))
theorem stringslite_IndexByte_le {K K' : Nat} (hK : K ≤ K') (x0 : ByteArray) (x1 : Int) : Le (stringslite_IndexByte K x0 x1) (stringslite_IndexByte K' x0 x1) := by
 unfold stringslite_IndexByte
 repeat (first | with_reducible exact Le.refl _ | refine Le.bif ?_ ?_ | refine Le.bind ?_ (fun _ => ?_))
theorem strings_IndexByte_le {K K' : Nat} (hK : K ≤ K') (x0 : ByteArray) (x1 : Int) : Le (strings_IndexByte K x0 x1) (strings_IndexByte K' x0 x1) := by
 unfold strings_IndexByte
 repeat (first | with_reducible exact stringslite_IndexByte_le hK _ _ | with_reducible exact Le.refl _ | refine Le.bif ?_ ?_ | refine Le.bind ?_ (fun _ => ?_))
theorem strconv_isPowerOfTwo_le {K K' : Nat} (hK : K ≤ K') (x0 : Int) : Le (strconv_isPowerOfTwo K x0) (strconv_isPowerOfTwo K' x0) := by
 unfold strconv_isPowerOfTwo
 repeat (first | with_reducible exact Le.refl _ | refine Le.bif ?_ ?_ | refine Le.bind ?_ (fun _ => ?_))
theorem bits_TrailingZeros_le {K K' : Nat} (hK : K ≤ K') (x0 : Int) : Le (bits_TrailingZeros K x0) (bits_TrailingZeros K' x0) := by
 unfold bits_TrailingZeros
 repeat (first | with_reducible exact bits_TrailingZeros64_le hK _ | with_reducible exact Le.refl _ | refine Le.bif ?_ ?_ | refine Le.bind ?_ (fun _ => ?_))
theorem strconv_formatBits_j0_le {K K' : Nat} (hK : K ≤ K') (x0 : List Int) (x1 : Int) (x2 : Int) (x3 : Bool) (x4 : Bool) : Le (strconv_formatBits_j0 K x0 x1 x2 x3 x4) (strconv_formatBits_j0 K' x0 x1 x2 x3 x4) := by
 unfold strconv_formatBits_j0
 repeat (first | with_reducible exact Le.refl _ | refine Le.bif ?_ ?_ | refine Le.bind ?_ (fun _ => ?_))
theorem strconv_formatBits_l1_le {K K' : Nat} (hK : K ≤ K') : ∀ {k k' : Nat} (hk : k ≤ k') (x0 : List Int) (x1 : Int) (x3 : Bool) (x4 : Bool) (x14_1_7 : Int) (x15_1_8 : Int) (x16_1_9 : Int) (y12_1_5 : ArrN), Le (strconv_formatBits_l1 K k x0 x1 x3 x4 x14_1_7 x15_1_8 x16_1_9 y12_1_5) (strconv_formatBits_l1 K' k' x0 x1 x3 x4 x14_1_7 x15_1_8 x16_1_9 y12_1_5) := by
 intro k
 induction k with
 | zero => intro k' hk x0 x1 x3 x4 x14_1_7 x15_1_8 x16_1_9 y12_1_5 r h; cases (show (none : Option ((List Int) × ByteArray)) = some r from h)
 | succ k ih =>
  intro k' hk x0 x1 x3 x4 x14_1_7 x15_1_8 x16_1_9 y12_1_5
  obtain ⟨k', rfl⟩ : ∃ j, k' = j + 1 := ⟨k' - 1, by omega⟩
  rw [strconv_formatBits_l1, strconv_formatBits_l1]
  repeat (first | with_reducible exact Le.refl _ | refine Le.bif ?_ ?_ | refine Le.bind ?_ (fun _ => ?_))
theorem strconv_formatBits_le {K K' : Nat} (hK : K ≤ K') (x0 : List Int) (x1 : Int) (x2 : Int) (x3 : Bool) (x4 : Bool) : Le (strconv_formatBits K x0 x1 x2 x3 x4) (strconv_formatBits K' x0 x1 x2 x3 x4) := by
 unfold strconv_formatBits
 repeat (first | with_reducible exact strconv_formatBits_j0_le hK _ _ _ _ _ | with_reducible exact strconv_isPowerOfTwo_le hK _ | with_reducible exact bits_TrailingZeros_le hK _ | with_reducible exact strconv_formatBits_l1_le hK hK _ _ _ _ _ _ _ _ | with_reducible exact Le.refl _ | refine Le.bif ?_ ?_ | refine Le.bind ?_ (fun _ => ?_))
theorem strconv_FormatUint_f52_le {K K' : Nat} (hK : K ≤ K') (x0 : Int) (x1 : Int) : Le (strconv_FormatUint_f52 K x0 x1) (strconv_FormatUint_f52 K' x0 x1) := by
 unfold strconv_FormatUint_f52
 repeat (first | with_reducible exact strconv_formatBits_le hK _ _ _ _ _ | with_reducible exact Le.refl _ | refine Le.bif ?_ ?_ | refine Le.bind ?_ (fun _ => ?_))
theorem strconv_FormatUint_le {K K' : Nat} (hK : K ≤ K') (x0 : Int) (x1 : Int) : Le (strconv_FormatUint K x0 x1) (strconv_FormatUint K' x0 x1) := by
 unfold strconv_FormatUint
 repeat (first | with_reducible exact strconv_FormatUint_f52_le hK _ _ | with_reducible exact Le.refl _ | refine Le.bif ?_ ?_ | refine Le.bind ?_ (fun _ => ?_))
theorem print_Byte_j0_le {K K' : Nat} (hK : K ≤ K') (x0 : Int) : Le (print_Byte_j0 K x0) (print_Byte_j0 K' x0) := by
 unfold print_Byte_j0
 repeat (first | with_reducible exact strconv_FormatUint_le hK _ _ | with_reducible exact Le.refl _ | refine Le.bif ?_ ?_ | refine Le.bind ?_ (fun _ => ?_))
theorem print_Byte_le {K K' : Nat} (hK : K ≤ K') (x0 : Int) : Le (print_Byte K x0) (print_Byte K' x0) := by
 unfold print_Byte
 repeat (first | with_reducible exact strings_IndexByte_le hK _ _ | with_reducible exact print_Byte_j0_le hK _ | with_reducible exact Le.refl _ | refine Le.bif ?_ ?_ | refine Le.bind ?_ (fun _ => ?_))
end Go.Rv

/- What each function of the program computes, as plain Lean: printed by a program of ours from the translation. -/
import Derived.Test.YtjgldamcldbbfaaDoorRvBW
namespace Go.Rv
set_option linter.unusedVariables false

def deBruijn : List Int := [0, 1, 56, 2, 57, 49, 28, 3, 61, 58, 42, 50, 38, 29, 17, 4, 62, 47, 59, 36, 45, 43, 51, 22, 53, 39, 33, 30, 24, 18, 12, 5, 63, 55, 48, 27, 60, 41, 37, 16, 46, 35, 44, 21, 52, 32, 23, 11, 54, 26, 40, 15, 34, 20, 31, 10, 25, 14, 19, 9, 13, 8, 7, 6]
abbrev deBruijnD : List DC := deBruijn.map fun x => DC.ex (.int .u8 x)

def bset_Range_l0 (K : Nat) : Nat → Int → Int → Arr4 → Arr4 → Option Arr4
  | 0 => fun _ _ _ _ => none
  | k + 1 => fun x1 x6_0_3 y4_0_1 y5_0_2 =>
    bif (decide (x6_0_3 ≤ (IntKind.i64.wrap x1))) then
      (ck (0 ≤ (IntKind.i64.wrap (Int.tdiv x6_0_3 (64 : Int))) ∧ (IntKind.i64.wrap (Int.tdiv x6_0_3 (64 : Int))) < 4)).bind fun _ =>
      (ck (0 ≤ (Int.tmod x6_0_3 (64 : Int)))).bind fun _ =>
      bset_Range_l0 K k x1 (IntKind.i64.wrap (x6_0_3 + (1 : Int))) y4_0_1 (Arr4.set y5_0_2 (IntKind.i64.wrap (Int.tdiv x6_0_3 (64 : Int))) (bits .or .u64 (Arr4.get y5_0_2 (IntKind.i64.wrap (Int.tdiv x6_0_3 (64 : Int)))) (IntKind.u64.wrap ((1 : Int) * 2 ^ min (Int.toNat (Int.tmod x6_0_3 (64 : Int))) IntKind.u64.bits))))
    else
      some y5_0_2

def bset_Range (K : Nat) (x0 : Int) (x1 : Int) : Option Arr4 :=
  bset_Range_l0 K K x1 (IntKind.i64.wrap x0) (Arr4.mk 0 0 0 0) (Arr4.mk 0 0 0 0)

def bset_Of_l0 (K : Nat) : Nat → (List Int) → Int → Int → Arr4 → Arr4 → Option Arr4
  | 0 => fun _ _ _ _ _ => none
  | k + 1 => fun x0 x7_0_3 x8_0_4 y2_0_0 y3_0_1 =>
    bif (decide (x8_0_4 < x7_0_3)) then
      (geti x0 x8_0_4).bind fun v_60 =>
      (ck (0 ≤ (IntKind.u8.wrap (Int.tdiv v_60 (64 : Int))) ∧ (IntKind.u8.wrap (Int.tdiv v_60 (64 : Int))) < 4)).bind fun _ =>
      (ck (0 ≤ (Int.tmod v_60 (64 : Int)))).bind fun _ =>
      bset_Of_l0 K k x0 x7_0_3 (IntKind.i64.wrap (x8_0_4 + (1 : Int))) y2_0_0 (Arr4.set y3_0_1 (IntKind.u8.wrap (Int.tdiv v_60 (64 : Int))) (bits .or .u64 (Arr4.get y3_0_1 (IntKind.u8.wrap (Int.tdiv v_60 (64 : Int)))) (IntKind.u64.wrap ((1 : Int) * 2 ^ min (Int.toNat (Int.tmod v_60 (64 : Int))) IntKind.u64.bits))))
    else
      some y3_0_1

def bset_Of (K : Nat) (x0 : List Int) : Option Arr4 :=
  bset_Of_l0 K K x0 (x0.length : Int) (0 : Int) (Arr4.mk 0 0 0 0) (Arr4.mk 0 0 0 0)

def bset_Or_l1 (K : Nat) (go0 : (List Arr4) → Int → Int → Arr4 → Arr4 → Option Arr4) : Nat → (List Arr4) → Int → Int → Arr4 → Int → Arr4 → Arr4 → Option Arr4
  | 0 => fun _ _ _ _ _ _ _ => none
  | k + 1 => fun x0 x9_0_3 x10_1_4 x14_1_5 x15_1_6 y2_0_0 y3_1_1 =>
    bif (decide (x15_1_6 < (4 : Int))) then
      (ck (0 ≤ x15_1_6 ∧ x15_1_6 < 4)).bind fun _ =>
      bset_Or_l1 K go0 k x0 x9_0_3 x10_1_4 x14_1_5 (IntKind.i64.wrap (x15_1_6 + (1 : Int))) y2_0_0 (Arr4.set y3_1_1 x15_1_6 (bits .or .u64 (Arr4.get y3_1_1 x15_1_6) (Arr4.get x14_1_5 x15_1_6)))
    else
      go0 x0 x9_0_3 (IntKind.i64.wrap (x10_1_4 + (1 : Int))) y2_0_0 y3_1_1

def bset_Or_l0 (K : Nat) : Nat → (List Arr4) → Int → Int → Arr4 → Arr4 → Option Arr4
  | 0 => fun _ _ _ _ _ => none
  | k + 1 => fun x0 x9_0_3 x10_0_4 y2_0_0 y3_0_1 =>
    bif (decide (x10_0_4 < x9_0_3)) then
      (geti x0 x10_0_4).bind fun v_94 =>
      bset_Or_l1 K (bset_Or_l0 K k) K x0 x9_0_3 x10_0_4 v_94 (0 : Int) y2_0_0 y3_0_1
    else
      some y3_0_1

def bset_Or (K : Nat) (x0 : List Arr4) : Option Arr4 :=
  bset_Or_l0 K K x0 (x0.length : Int) (0 : Int) (Arr4.mk 0 0 0 0) (Arr4.mk 0 0 0 0)

def bits_TrailingZeros64 (K : Nat) (x0 : Int) : Option Int :=
  bif (x0 == (0 : Int)) then
    some (64 : Int)
  else
    (geti deBruijn (Int.fdiv (IntKind.u64.wrap ((bits .and .u64 x0 (IntKind.u64.wrap (0 - x0))) * (285870213051353865 : Int))) (2 ^ min (Int.toNat (58 : Int)) IntKind.u64.bits))).bind fun v_18 =>
    (ck ((Int.fdiv (IntKind.u64.wrap ((bits .and .u64 x0 (IntKind.u64.wrap (0 - x0))) * (285870213051353865 : Int))) (2 ^ min (Int.toNat (58 : Int)) IntKind.u64.bits)) < 64)).bind fun _ =>
    some (IntKind.i64.wrap v_18)

def bset_List_l1 (K : Nat) (go0 : Arr4 → Int → (List Int) → Option (List Int)) : Nat → Int → Int → Arr4 → Int → (List Int) → Option (List Int)
  | 0 => fun _ _ _ _ _ => none
  | k + 1 => fun x4_1_1 x5_1_2 x0 x7_1_4 y3_1_0 =>
    bif (x5_1_2 != (0 : Int)) then
      (bits_TrailingZeros64 K x5_1_2).bind fun v_95 =>
      (ck (roomy 1 (y3_1_0.length + [(IntKind.u8.wrap (IntKind.i64.wrap ((IntKind.i64.wrap ((64 : Int) * x4_1_1)) + v_95)))].length) = true)).bind fun _ =>
      bset_List_l1 K go0 k x4_1_1 (bits .and .u64 x5_1_2 (IntKind.u64.wrap (x5_1_2 - (1 : Int)))) x0 x7_1_4 (y3_1_0 ++ [(IntKind.u8.wrap (IntKind.i64.wrap ((IntKind.i64.wrap ((64 : Int) * x4_1_1)) + v_95)))])
    else
      go0 x0 (IntKind.i64.wrap (x7_1_4 + (1 : Int))) y3_1_0

def bset_List_l0 (K : Nat) : Nat → Arr4 → Int → (List Int) → Option (List Int)
  | 0 => fun _ _ _ => none
  | k + 1 => fun x0 x7_0_2 y3_0_0 =>
    bif (decide (x7_0_2 < (4 : Int))) then
      (ck (0 ≤ x7_0_2 ∧ x7_0_2 < 4)).bind fun _ =>
      bset_List_l1 K (bset_List_l0 K k) K x7_0_2 (Arr4.get x0 x7_0_2) x0 x7_0_2 y3_0_0
    else
      some y3_0_0

def bset_List (K : Nat) (x0 : Arr4) : Option (List Int) :=
  bset_List_l0 K K x0 (0 : Int) []

def bset_Spans_j1 (K : Nat) (go0 : Int → (List Int) → Int → Int → (List Arr2) → Option (List Arr2)) (x6_1_1 : Int) (x8_1_2 : List Int) (x9_1_3 : Int) (x10_1_4 : Int) (y3_1_0 : List Arr2) : Option (List Arr2) :=
    go0 (IntKind.i64.wrap x6_1_1) x8_1_2 x9_1_3 (IntKind.i64.wrap (x10_1_4 + (1 : Int))) y3_1_0

def bset_Spans_l0 (K : Nat) : Nat → Int → (List Int) → Int → Int → (List Arr2) → Option (List Arr2)
  | 0 => fun _ _ _ _ _ => none
  | k + 1 => fun x4_0_1 x8_0_2 x9_0_3 x10_0_4 y3_0_0 =>
    bif (decide (x10_0_4 < x9_0_3)) then
      (geti x8_0_2 x10_0_4).bind fun v_127 =>
      bif ((IntKind.i64.wrap v_127) == (IntKind.i64.wrap (x4_0_1 + (1 : Int)))) then
        (geti y3_0_0 (IntKind.i64.wrap ((y3_0_0.length : Int) - (1 : Int)))).bind fun v_130 =>
        bset_Spans_j1 K (bset_Spans_l0 K k) v_127 x8_0_2 x9_0_3 x10_0_4 (List.set y3_0_0 (Int.toNat (IntKind.i64.wrap ((y3_0_0.length : Int) - (1 : Int)))) (Arr2.set v_130 1 v_127))
      else
        (ck (roomy 2 (y3_0_0.length + [(Arr2.mk v_127 v_127)].length) = true)).bind fun _ =>
        bset_Spans_j1 K (bset_Spans_l0 K k) v_127 x8_0_2 x9_0_3 x10_0_4 (y3_0_0 ++ [(Arr2.mk v_127 v_127)])
    else
      some y3_0_0

def bset_Spans (K : Nat) (x0 : Arr4) : Option (List Arr2) :=
  (bset_List K x0).bind fun v_124 =>
  bset_Spans_l0 K K (-2 : Int) v_124 (v_124.length : Int) (0 : Int) []

def raddlelaw01_spans_l0 (K : Nat) : Nat → (List Arr2) → (List Arr2) → Int → Int → Option Bool
  | 0 => fun _ _ _ _ => none
  | k + 1 => fun x0 x1 x12_0_2 x13_0_3 =>
    bif (decide (x13_0_3 < x12_0_2)) then
      (geti x0 x13_0_3).bind fun v_116 =>
      (geti x1 x13_0_3).bind fun v_118 =>
      bif (!(Arr2.same v_116 v_118)) then
        some false
      else
        raddlelaw01_spans_l0 K k x0 x1 x12_0_2 (IntKind.i64.wrap (x13_0_3 + (1 : Int)))
    else
      some true

def raddlelaw01_spans (K : Nat) (x0 : List Arr2) (x1 : List Arr2) : Option Bool :=
  bif ((x0.length : Int) != (x1.length : Int)) then
    some false
  else
    raddlelaw01_spans_l0 K K x0 x1 (x0.length : Int) (0 : Int)

def bset_Not_l0 (K : Nat) : Nat → Arr4 → Int → Arr4 → Arr4 → Option Arr4
  | 0 => fun _ _ _ _ => none
  | k + 1 => fun x0 x6_0_3 y1_0_0 y2_0_1 =>
    bif (decide (x6_0_3 < (4 : Int))) then
      (ck (0 ≤ x6_0_3 ∧ x6_0_3 < 4)).bind fun _ =>
      bset_Not_l0 K k x0 (IntKind.i64.wrap (x6_0_3 + (1 : Int))) (Arr4.set y1_0_0 x6_0_3 (bits .xor .u64 IntKind.u64.max (Arr4.get x0 x6_0_3))) y2_0_1
    else
      some y1_0_0

def bset_Not (K : Nat) (x0 : Arr4) : Option Arr4 :=
  bset_Not_l0 K K x0 (0 : Int) x0 (Arr4.mk 0 0 0 0)

def bset_And_l1 (K : Nat) (go0 : (List Arr4) → Int → Int → Arr4 → Arr4 → Option Arr4) : Nat → (List Arr4) → Int → Int → Arr4 → Int → Arr4 → Arr4 → Option Arr4
  | 0 => fun _ _ _ _ _ _ _ => none
  | k + 1 => fun x0 x11_0_3 x12_1_4 x16_1_5 x17_1_6 y2_0_0 y3_1_1 =>
    bif (decide (x17_1_6 < (4 : Int))) then
      (ck (0 ≤ x17_1_6 ∧ x17_1_6 < 4)).bind fun _ =>
      bset_And_l1 K go0 k x0 x11_0_3 x12_1_4 x16_1_5 (IntKind.i64.wrap (x17_1_6 + (1 : Int))) y2_0_0 (Arr4.set y3_1_1 x17_1_6 (bits .and .u64 (Arr4.get y3_1_1 x17_1_6) (Arr4.get x16_1_5 x17_1_6)))
    else
      go0 x0 x11_0_3 (IntKind.i64.wrap (x12_1_4 + (1 : Int))) y2_0_0 y3_1_1

def bset_And_l0 (K : Nat) : Nat → (List Arr4) → Int → Int → Arr4 → Arr4 → Option Arr4
  | 0 => fun _ _ _ _ _ => none
  | k + 1 => fun x0 x11_0_3 x12_0_4 y2_0_0 y3_0_1 =>
    bif (decide (x12_0_4 < x11_0_3)) then
      (geti x0 x12_0_4).bind fun v_120 =>
      bset_And_l1 K (bset_And_l0 K k) K x0 x11_0_3 x12_0_4 v_120 (0 : Int) y2_0_0 y3_0_1
    else
      some y3_0_1

def bset_And (K : Nat) (x0 : List Arr4) : Option Arr4 :=
  (bset_Not K (Arr4.mk 0 0 0 0)).bind fun v_116 =>
  bset_And_l0 K K x0 (x0.length : Int) (0 : Int) (Arr4.mk 0 0 0 0) v_116

def bset_Fold_l1 (K : Nat) : Nat → (List Int) → Int → Int → Arr4 → Arr4 → Option Arr4
  | 0 => fun _ _ _ _ _ => none
  | k + 1 => fun x31_1_2 x32_1_3 x33_1_4 y2_0_1 y3_1_1 =>
    bif (decide (x33_1_4 < x32_1_3)) then
      (geti x31_1_2 x33_1_4).bind fun v_467 =>
      (bset_Of K [(IntKind.u8.wrap (v_467 + (32 : Int)))]).bind fun v_474 =>
      (bset_Or K [y3_1_1, v_474]).bind fun v_476 =>
      bset_Fold_l1 K k x31_1_2 x32_1_3 (IntKind.i64.wrap (x33_1_4 + (1 : Int))) y2_0_1 v_476
    else
      some y3_1_1

def bset_Fold_l0 (K : Nat) : Nat → (List Int) → Int → Int → Arr4 → Arr4 → Arr4 → Option Arr4
  | 0 => fun _ _ _ _ _ _ => none
  | k + 1 => fun x13_0_3 x14_0_4 x15_0_5 x0 y2_0_1 y3_0_2 =>
    bif (decide (x15_0_5 < x14_0_4)) then
      (geti x13_0_3 x15_0_5).bind fun v_442 =>
      (bset_Of K [(IntKind.u8.wrap (v_442 - (32 : Int)))]).bind fun v_449 =>
      (bset_Or K [y3_0_2, v_449]).bind fun v_451 =>
      bset_Fold_l0 K k x13_0_3 x14_0_4 (IntKind.i64.wrap (x15_0_5 + (1 : Int))) x0 y2_0_1 v_451
    else
      (bset_Range K (65 : Int) (90 : Int)).bind fun v_460 =>
      (bset_And K [x0, v_460]).bind fun v_462 =>
      (bset_List K v_462).bind fun v_464 =>
      bset_Fold_l1 K K v_464 (v_464.length : Int) (0 : Int) y2_0_1 y3_0_2

def bset_Fold (K : Nat) (x0 : Arr4) : Option Arr4 :=
  (bset_Range K (97 : Int) (122 : Int)).bind fun v_435 =>
  (bset_And K [x0, v_435]).bind fun v_437 =>
  (bset_List K v_437).bind fun v_439 =>
  bset_Fold_l0 K K v_439 (v_439.length : Int) (0 : Int) x0 (Arr4.mk 0 0 0 0) x0

def raddlelaw01_shown (K : Nat) : Option Bool :=
  (bset_Range K (97 : Int) (99 : Int)).bind fun v_85 =>
  (bset_Of K [(122 : Int)]).bind fun v_87 =>
  (bset_Or K [v_85, v_87]).bind fun v_89 =>
  (bset_List K v_89).bind fun v_92 =>
  bif ((ofBytes v_92).toList == (⟨#[97, 98, 99, 122]⟩ : ByteArray).toList) then
    (bset_Spans K v_89).bind fun v_95 =>
    (raddlelaw01_spans K v_95 [(Arr2.mk (97 : Int) (99 : Int)), (Arr2.mk (122 : Int) (122 : Int))]).bind fun v_97 =>
    bif v_97 then
      (bset_Of K [(97 : Int)]).bind fun v_100 =>
      (bset_Fold K v_100).bind fun v_102 =>
      (bset_Of K [(65 : Int), (97 : Int)]).bind fun v_104 =>
      some (Arr4.same v_102 v_104)
    else
      some false
  else
    some false

def bset_Has (K : Nat) (x0 : Arr4) (x1 : Int) : Option Bool :=
  (ck (0 ≤ (IntKind.u8.wrap (Int.tdiv x1 (64 : Int))) ∧ (IntKind.u8.wrap (Int.tdiv x1 (64 : Int))) < 4)).bind fun _ =>
  (ck (0 ≤ (Int.tmod x1 (64 : Int)))).bind fun _ =>
  some ((bits .and .u64 (Int.fdiv (Arr4.get x0 (IntKind.u8.wrap (Int.tdiv x1 (64 : Int)))) (2 ^ min (Int.toNat (Int.tmod x1 (64 : Int))) IntKind.u64.bits)) (1 : Int)) == (1 : Int))

def bset_Of_i1_l0 (K : Nat) : Nat → Int → Int → Arr4 → Arr4 → (List Int) → Option Arr4
  | 0 => fun _ _ _ _ _ => none
  | k + 1 => fun x7_0_3 x8_0_4 y2_0_0 y3_0_1 x0 =>
    bif (decide (x8_0_4 < x7_0_3)) then
      (geti x0 x8_0_4).bind fun v_60 =>
      (ck (0 ≤ (IntKind.u8.wrap (Int.tdiv v_60 (64 : Int))) ∧ (IntKind.u8.wrap (Int.tdiv v_60 (64 : Int))) < 4)).bind fun _ =>
      (ck (0 ≤ (Int.tmod v_60 (64 : Int)))).bind fun _ =>
      bset_Of_i1_l0 K k x7_0_3 (IntKind.i64.wrap (x8_0_4 + (1 : Int))) y2_0_0 (Arr4.set y3_0_1 (IntKind.u8.wrap (Int.tdiv v_60 (64 : Int))) (bits .or .u64 (Arr4.get y3_0_1 (IntKind.u8.wrap (Int.tdiv v_60 (64 : Int)))) (IntKind.u64.wrap ((1 : Int) * 2 ^ min (Int.toNat (Int.tmod v_60 (64 : Int))) IntKind.u64.bits)))) x0
    else
      some y3_0_1

def bset_Of_i1 (K : Nat) (x0 : List Int) : Option Arr4 :=
  bset_Of_i1_l0 K K (x0.length : Int) (0 : Int) (Arr4.mk 0 0 0 0) (Arr4.mk 0 0 0 0) x0

def raddlelaw01_BsetBytes_j1 (K : Nat) (go0 : Int → Bool → (List Int) → Bool → Int → Int → (List Int) → Option Bool) (x1 : Int) (x5_0_1 : Bool) (x6_0_2 : List Int) (x7_1_3 : Bool) (x9_1_5 : Int) (x18_1_6 : Int) (x19_1_7 : Int) (y8_1_4 : List Int) : Option Bool :=
    (geti x6_0_2 (IntKind.i64.wrap ((IntKind.i64.wrap ((x6_0_2.length : Int) - (1 : Int))) - x9_1_5))).bind fun v_452 =>
    (ck (roomy 1 (y8_1_4.length + [v_452].length) = true)).bind fun _ =>
    go0 x1 x5_0_1 x6_0_2 x7_1_3 x18_1_6 (IntKind.i64.wrap (x19_1_7 + (1 : Int))) (y8_1_4 ++ [v_452])

def raddlelaw01_BsetBytes_l0 (K : Nat) : Nat → Int → Bool → (List Int) → Bool → Int → Int → (List Int) → Option Bool
  | 0 => fun _ _ _ _ _ _ _ => none
  | k + 1 => fun x1 x5_0_1 x6_0_2 x7_0_3 x18_0_5 x19_0_6 y8_0_4 =>
    bif (decide (x19_0_6 < x18_0_5)) then
      bif x7_0_3 then
        raddlelaw01_BsetBytes_j1 K (raddlelaw01_BsetBytes_l0 K k) x1 x5_0_1 x6_0_2 true x19_0_6 x18_0_5 x19_0_6 y8_0_4
      else
        (geti x6_0_2 x19_0_6).bind fun v_456 =>
        raddlelaw01_BsetBytes_j1 K (raddlelaw01_BsetBytes_l0 K k) x1 x5_0_1 x6_0_2 (v_456 == x1) x19_0_6 x18_0_5 x19_0_6 y8_0_4
    else
      (bset_Of K x6_0_2).bind fun v_458 =>
      bif x5_0_1 then
        (bset_Has K v_458 x1).bind fun v_478 =>
        bif (v_478 == x7_0_3) then
          (ck (roomy 1 (y8_0_4.length + x6_0_2.length) = true)).bind fun _ =>
          (bset_Of K (y8_0_4 ++ x6_0_2)).bind fun v_482 =>
          bif (Arr4.same v_482 v_458) then
            (bset_Of K [x1]).bind fun v_485 =>
            (bset_Or K [v_458, v_485]).bind fun v_487 =>
            (ck (roomy 1 (y8_0_4.length + [x1].length) = true)).bind fun _ =>
            (bset_Of_i1 K (y8_0_4 ++ [x1])).bind fun v_490 =>
            some (Arr4.same v_487 v_490)
          else
            some false
        else
          some false
      else
        some false

def raddlelaw01_BsetBytes (K : Nat) (x0 : List Int) (x1 : Int) : Option Bool :=
  (raddlelaw01_shown K).bind fun v_447 =>
  (ck (0 ≤ (if (300 : Int) < (x0.length : Int) then (300 : Int) else (x0.length : Int)) ∧ 0 ≤ (Int.toNat (if (300 : Int) < (x0.length : Int) then (300 : Int) else (x0.length : Int))) ∧ (Int.toNat (if (300 : Int) < (x0.length : Int) then (300 : Int) else (x0.length : Int))) ≤ x0.length)).bind fun _ =>
  raddlelaw01_BsetBytes_l0 K K x1 v_447 ((x0.take (Int.toNat (if (300 : Int) < (x0.length : Int) then (300 : Int) else (x0.length : Int)))).drop 0) false (((x0.take (Int.toNat (if (300 : Int) < (x0.length : Int) then (300 : Int) else (x0.length : Int)))).drop 0).length : Int) (0 : Int) []

end Go.Rv

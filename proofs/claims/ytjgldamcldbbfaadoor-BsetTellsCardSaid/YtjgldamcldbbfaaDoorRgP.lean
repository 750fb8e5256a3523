/- What each function of the program computes, as plain Lean: printed by a program of ours from the translation. -/
import Derived.Test.YtjgldamcldbbfaaDoorRvM
namespace Go.Rv
set_option linter.unusedVariables false

def deBruijn : List Int := [0, 1, 56, 2, 57, 49, 28, 3, 61, 58, 42, 50, 38, 29, 17, 4, 62, 47, 59, 36, 45, 43, 51, 22, 53, 39, 33, 30, 24, 18, 12, 5, 63, 55, 48, 27, 60, 41, 37, 16, 46, 35, 44, 21, 52, 32, 23, 11, 54, 26, 40, 15, 34, 20, 31, 10, 25, 14, 19, 9, 13, 8, 7, 6]
abbrev deBruijnD : List DC := deBruijn.map fun x => DC.ex (.int .u8 x)


def bits_TrailingZeros64 (K : Nat) (x0 : Int) : Option Int :=
  bif (x0 == (0 : Int)) then
    some (64 : Int)
  else
    (geti deBruijn (Int.fdiv (IntKind.u64.wrap ((bits .and .u64 x0 (IntKind.u64.wrap (0 - x0))) * (285870213051353865 : Int))) (2 ^ min (Int.toNat (58 : Int)) IntKind.u64.bits))).bind fun v_18 =>
    (ck ((Int.fdiv (IntKind.u64.wrap ((bits .and .u64 x0 (IntKind.u64.wrap (0 - x0))) * (285870213051353865 : Int))) (2 ^ min (Int.toNat (58 : Int)) IntKind.u64.bits)) < 64)).bind fun _ =>
    some (IntKind.i64.wrap v_18)

def bset_List_l1 (K : Nat) (go0 : Arr4 → Int → (List Int) → Option (List Int)) : Nat → Int → Int → Arr4 → Int → (List Int) → Option (List Int)
  | 0 => fun _ _ _ _ _ => none
  | k + 1 => fun x4_1_1 x5_1_2 x0 x7_1_4 y3_1_0 =>
    bif (x5_1_2 != (0 : Int)) then
      (bits_TrailingZeros64 K x5_1_2).bind fun v_95 =>
      (ck (roomy 1 (y3_1_0.length + [(IntKind.u8.wrap (IntKind.i64.wrap ((IntKind.i64.wrap ((64 : Int) * x4_1_1)) + v_95)))].length) = true)).bind fun _ =>
      bset_List_l1 K go0 k x4_1_1 (bits .and .u64 x5_1_2 (IntKind.u64.wrap (x5_1_2 - (1 : Int)))) x0 x7_1_4 (y3_1_0 ++ [(IntKind.u8.wrap (IntKind.i64.wrap ((IntKind.i64.wrap ((64 : Int) * x4_1_1)) + v_95)))])
    else
      go0 x0 (IntKind.i64.wrap (x7_1_4 + (1 : Int))) y3_1_0

def bset_List_l0 (K : Nat) : Nat → Arr4 → Int → (List Int) → Option (List Int)
  | 0 => fun _ _ _ => none
  | k + 1 => fun x0 x7_0_2 y3_0_0 =>
    bif (decide (x7_0_2 < (4 : Int))) then
      (ck (0 ≤ x7_0_2 ∧ x7_0_2 < 4)).bind fun _ =>
      bset_List_l1 K (bset_List_l0 K k) K x7_0_2 (Arr4.get x0 x7_0_2) x0 x7_0_2 y3_0_0
    else
      some y3_0_0

def bset_List (K : Nat) (x0 : Arr4) : Option (List Int) :=
  bset_List_l0 K K x0 (0 : Int) []

def raddlelaw01_spans_l0 (K : Nat) : Nat → (List Arr2) → (List Arr2) → Int → Int → Option Bool
  | 0 => fun _ _ _ _ => none
  | k + 1 => fun x0 x1 x12_0_2 x13_0_3 =>
    bif (decide (x13_0_3 < x12_0_2)) then
      (geti x0 x13_0_3).bind fun v_76 =>
      (geti x1 x13_0_3).bind fun v_78 =>
      bif (!(Arr2.same v_76 v_78)) then
        some false
      else
        raddlelaw01_spans_l0 K k x0 x1 x12_0_2 (IntKind.i64.wrap (x13_0_3 + (1 : Int)))
    else
      some true

def raddlelaw01_spans (K : Nat) (x0 : List Arr2) (x1 : List Arr2) : Option Bool :=
  bif ((x0.length : Int) != (x1.length : Int)) then
    some false
  else
    raddlelaw01_spans_l0 K K x0 x1 (x0.length : Int) (0 : Int)

def bset_Spans_j1 (K : Nat) (go0 : Int → (List Int) → Int → Int → (List Arr2) → Option (List Arr2)) (x6_1_1 : Int) (x8_1_2 : List Int) (x9_1_3 : Int) (x10_1_4 : Int) (y3_1_0 : List Arr2) : Option (List Arr2) :=
    go0 (IntKind.i64.wrap x6_1_1) x8_1_2 x9_1_3 (IntKind.i64.wrap (x10_1_4 + (1 : Int))) y3_1_0

def bset_Spans_l0 (K : Nat) : Nat → Int → (List Int) → Int → Int → (List Arr2) → Option (List Arr2)
  | 0 => fun _ _ _ _ _ => none
  | k + 1 => fun x4_0_1 x8_0_2 x9_0_3 x10_0_4 y3_0_0 =>
    bif (decide (x10_0_4 < x9_0_3)) then
      (geti x8_0_2 x10_0_4).bind fun v_116 =>
      bif ((IntKind.i64.wrap v_116) == (IntKind.i64.wrap (x4_0_1 + (1 : Int)))) then
        (geti y3_0_0 (IntKind.i64.wrap ((y3_0_0.length : Int) - (1 : Int)))).bind fun v_119 =>
        bset_Spans_j1 K (bset_Spans_l0 K k) v_116 x8_0_2 x9_0_3 x10_0_4 (List.set y3_0_0 (Int.toNat (IntKind.i64.wrap ((y3_0_0.length : Int) - (1 : Int)))) (Arr2.set v_119 1 v_116))
      else
        (ck (roomy 2 (y3_0_0.length + [(Arr2.mk v_116 v_116)].length) = true)).bind fun _ =>
        bset_Spans_j1 K (bset_Spans_l0 K k) v_116 x8_0_2 x9_0_3 x10_0_4 (y3_0_0 ++ [(Arr2.mk v_116 v_116)])
    else
      some y3_0_0

def bset_Spans (K : Nat) (x0 : Arr4) : Option (List Arr2) :=
  (bset_List K x0).bind fun v_113 =>
  bset_Spans_l0 K K (-2 : Int) v_113 (v_113.length : Int) (0 : Int) []

def bset_Range_l0 (K : Nat) : Nat → Int → Int → Arr4 → Arr4 → Option Arr4
  | 0 => fun _ _ _ _ => none
  | k + 1 => fun x1 x6_0_3 y4_0_1 y5_0_2 =>
    bif (decide (x6_0_3 ≤ (IntKind.i64.wrap x1))) then
      (ck (0 ≤ (IntKind.i64.wrap (Int.tdiv x6_0_3 (64 : Int))) ∧ (IntKind.i64.wrap (Int.tdiv x6_0_3 (64 : Int))) < 4)).bind fun _ =>
      (ck (0 ≤ (Int.tmod x6_0_3 (64 : Int)))).bind fun _ =>
      bset_Range_l0 K k x1 (IntKind.i64.wrap (x6_0_3 + (1 : Int))) y4_0_1 (Arr4.set y5_0_2 (IntKind.i64.wrap (Int.tdiv x6_0_3 (64 : Int))) (bits .or .u64 (Arr4.get y5_0_2 (IntKind.i64.wrap (Int.tdiv x6_0_3 (64 : Int)))) (IntKind.u64.wrap ((1 : Int) * 2 ^ min (Int.toNat (Int.tmod x6_0_3 (64 : Int))) IntKind.u64.bits))))
    else
      some y5_0_2

def bset_Range (K : Nat) (x0 : Int) (x1 : Int) : Option Arr4 :=
  bset_Range_l0 K K x1 (IntKind.i64.wrap x0) (Arr4.mk 0 0 0 0) (Arr4.mk 0 0 0 0)

def bset_Or_l1 (K : Nat) (go0 : (List Arr4) → Int → Int → Arr4 → Arr4 → Option Arr4) : Nat → (List Arr4) → Int → Int → Arr4 → Int → Arr4 → Arr4 → Option Arr4
  | 0 => fun _ _ _ _ _ _ _ => none
  | k + 1 => fun x0 x9_0_3 x10_1_4 x14_1_5 x15_1_6 y2_0_0 y3_1_1 =>
    bif (decide (x15_1_6 < (4 : Int))) then
      (ck (0 ≤ x15_1_6 ∧ x15_1_6 < 4)).bind fun _ =>
      bset_Or_l1 K go0 k x0 x9_0_3 x10_1_4 x14_1_5 (IntKind.i64.wrap (x15_1_6 + (1 : Int))) y2_0_0 (Arr4.set y3_1_1 x15_1_6 (bits .or .u64 (Arr4.get y3_1_1 x15_1_6) (Arr4.get x14_1_5 x15_1_6)))
    else
      go0 x0 x9_0_3 (IntKind.i64.wrap (x10_1_4 + (1 : Int))) y2_0_0 y3_1_1

def bset_Or_l0 (K : Nat) : Nat → (List Arr4) → Int → Int → Arr4 → Arr4 → Option Arr4
  | 0 => fun _ _ _ _ _ => none
  | k + 1 => fun x0 x9_0_3 x10_0_4 y2_0_0 y3_0_1 =>
    bif (decide (x10_0_4 < x9_0_3)) then
      (geti x0 x10_0_4).bind fun v_94 =>
      bset_Or_l1 K (bset_Or_l0 K k) K x0 x9_0_3 x10_0_4 v_94 (0 : Int) y2_0_0 y3_0_1
    else
      some y3_0_1

def bset_Or (K : Nat) (x0 : List Arr4) : Option Arr4 :=
  bset_Or_l0 K K x0 (x0.length : Int) (0 : Int) (Arr4.mk 0 0 0 0) (Arr4.mk 0 0 0 0)

def bset_Of_l0 (K : Nat) : Nat → (List Int) → Int → Int → Arr4 → Arr4 → Option Arr4
  | 0 => fun _ _ _ _ _ => none
  | k + 1 => fun x0 x7_0_3 x8_0_4 y2_0_0 y3_0_1 =>
    bif (decide (x8_0_4 < x7_0_3)) then
      (geti x0 x8_0_4).bind fun v_60 =>
      (ck (0 ≤ (IntKind.u8.wrap (Int.tdiv v_60 (64 : Int))) ∧ (IntKind.u8.wrap (Int.tdiv v_60 (64 : Int))) < 4)).bind fun _ =>
      (ck (0 ≤ (Int.tmod v_60 (64 : Int)))).bind fun _ =>
      bset_Of_l0 K k x0 x7_0_3 (IntKind.i64.wrap (x8_0_4 + (1 : Int))) y2_0_0 (Arr4.set y3_0_1 (IntKind.u8.wrap (Int.tdiv v_60 (64 : Int))) (bits .or .u64 (Arr4.get y3_0_1 (IntKind.u8.wrap (Int.tdiv v_60 (64 : Int)))) (IntKind.u64.wrap ((1 : Int) * 2 ^ min (Int.toNat (Int.tmod v_60 (64 : Int))) IntKind.u64.bits))))
    else
      some y3_0_1

def bset_Of (K : Nat) (x0 : List Int) : Option Arr4 :=
  bset_Of_l0 K K x0 (x0.length : Int) (0 : Int) (Arr4.mk 0 0 0 0) (Arr4.mk 0 0 0 0)

def bset_Not_l0 (K : Nat) : Nat → Arr4 → Int → Arr4 → Arr4 → Option Arr4
  | 0 => fun _ _ _ _ => none
  | k + 1 => fun x0 x6_0_3 y1_0_0 y2_0_1 =>
    bif (decide (x6_0_3 < (4 : Int))) then
      (ck (0 ≤ x6_0_3 ∧ x6_0_3 < 4)).bind fun _ =>
      bset_Not_l0 K k x0 (IntKind.i64.wrap (x6_0_3 + (1 : Int))) (Arr4.set y1_0_0 x6_0_3 (bits .xor .u64 IntKind.u64.max (Arr4.get x0 x6_0_3))) y2_0_1
    else
      some y1_0_0

def bset_Not (K : Nat) (x0 : Arr4) : Option Arr4 :=
  bset_Not_l0 K K x0 (0 : Int) x0 (Arr4.mk 0 0 0 0)

def bset_And_l1 (K : Nat) (go0 : (List Arr4) → Int → Int → Arr4 → Arr4 → Option Arr4) : Nat → (List Arr4) → Int → Int → Arr4 → Int → Arr4 → Arr4 → Option Arr4
  | 0 => fun _ _ _ _ _ _ _ => none
  | k + 1 => fun x0 x11_0_3 x12_1_4 x16_1_5 x17_1_6 y2_0_0 y3_1_1 =>
    bif (decide (x17_1_6 < (4 : Int))) then
      (ck (0 ≤ x17_1_6 ∧ x17_1_6 < 4)).bind fun _ =>
      bset_And_l1 K go0 k x0 x11_0_3 x12_1_4 x16_1_5 (IntKind.i64.wrap (x17_1_6 + (1 : Int))) y2_0_0 (Arr4.set y3_1_1 x17_1_6 (bits .and .u64 (Arr4.get y3_1_1 x17_1_6) (Arr4.get x16_1_5 x17_1_6)))
    else
      go0 x0 x11_0_3 (IntKind.i64.wrap (x12_1_4 + (1 : Int))) y2_0_0 y3_1_1

def bset_And_l0 (K : Nat) : Nat → (List Arr4) → Int → Int → Arr4 → Arr4 → Option Arr4
  | 0 => fun _ _ _ _ _ => none
  | k + 1 => fun x0 x11_0_3 x12_0_4 y2_0_0 y3_0_1 =>
    bif (decide (x12_0_4 < x11_0_3)) then
      (geti x0 x12_0_4).bind fun v_120 =>
      bset_And_l1 K (bset_And_l0 K k) K x0 x11_0_3 x12_0_4 v_120 (0 : Int) y2_0_0 y3_0_1
    else
      some y3_0_1

def bset_And (K : Nat) (x0 : List Arr4) : Option Arr4 :=
  (bset_Not K (Arr4.mk 0 0 0 0)).bind fun v_116 =>
  bset_And_l0 K K x0 (x0.length : Int) (0 : Int) (Arr4.mk 0 0 0 0) v_116

def bset_Fold_l1 (K : Nat) : Nat → (List Int) → Int → Int → Arr4 → Arr4 → Option Arr4
  | 0 => fun _ _ _ _ _ => none
  | k + 1 => fun x31_1_2 x32_1_3 x33_1_4 y2_0_1 y3_1_1 =>
    bif (decide (x33_1_4 < x32_1_3)) then
      (geti x31_1_2 x33_1_4).bind fun v_291 =>
      (bset_Of K [(IntKind.u8.wrap (v_291 + (32 : Int)))]).bind fun v_294 =>
      (bset_Or K [y3_1_1, v_294]).bind fun v_296 =>
      bset_Fold_l1 K k x31_1_2 x32_1_3 (IntKind.i64.wrap (x33_1_4 + (1 : Int))) y2_0_1 v_296
    else
      some y3_1_1

def bset_Fold_l0 (K : Nat) : Nat → (List Int) → Int → Int → Arr4 → Arr4 → Arr4 → Option Arr4
  | 0 => fun _ _ _ _ _ _ => none
  | k + 1 => fun x13_0_3 x14_0_4 x15_0_5 x0 y2_0_1 y3_0_2 =>
    bif (decide (x15_0_5 < x14_0_4)) then
      (geti x13_0_3 x15_0_5).bind fun v_276 =>
      (bset_Of K [(IntKind.u8.wrap (v_276 - (32 : Int)))]).bind fun v_279 =>
      (bset_Or K [y3_0_2, v_279]).bind fun v_281 =>
      bset_Fold_l0 K k x13_0_3 x14_0_4 (IntKind.i64.wrap (x15_0_5 + (1 : Int))) x0 y2_0_1 v_281
    else
      (bset_Range K (65 : Int) (90 : Int)).bind fun v_284 =>
      (bset_And K [x0, v_284]).bind fun v_286 =>
      (bset_List K v_286).bind fun v_288 =>
      bset_Fold_l1 K K v_288 (v_288.length : Int) (0 : Int) y2_0_1 y3_0_2

def bset_Fold (K : Nat) (x0 : Arr4) : Option Arr4 :=
  (bset_Range K (97 : Int) (122 : Int)).bind fun v_269 =>
  (bset_And K [x0, v_269]).bind fun v_271 =>
  (bset_List K v_271).bind fun v_273 =>
  bset_Fold_l0 K K v_273 (v_273.length : Int) (0 : Int) x0 (Arr4.mk 0 0 0 0) x0

def raddlelaw01_shown (K : Nat) : Option Bool :=
  (bset_Range K (97 : Int) (99 : Int)).bind fun v_85 =>
  (bset_Of K [(122 : Int)]).bind fun v_87 =>
  (bset_Or K [v_85, v_87]).bind fun v_89 =>
  (bset_List K v_89).bind fun v_92 =>
  bif ((ofBytes v_92).toList == (⟨#[97, 98, 99, 122]⟩ : ByteArray).toList) then
    (bset_Spans K v_89).bind fun v_95 =>
    (raddlelaw01_spans K v_95 [(Arr2.mk (97 : Int) (99 : Int)), (Arr2.mk (122 : Int) (122 : Int))]).bind fun v_97 =>
    bif v_97 then
      (bset_Of K [(97 : Int)]).bind fun v_100 =>
      (bset_Fold K v_100).bind fun v_102 =>
      (bset_Of K [(65 : Int), (97 : Int)]).bind fun v_104 =>
      some (Arr4.same v_102 v_104)
    else
      some false
  else
    some false

def raddleref01_Has (K : Nat) (x0 : Arr4) (x1 : Int) : Option Bool :=
  (ck (0 ≤ (IntKind.u8.wrap (Int.tdiv x1 (64 : Int))) ∧ (IntKind.u8.wrap (Int.tdiv x1 (64 : Int))) < 4)).bind fun _ =>
  (ck (0 ≤ (Int.tmod x1 (64 : Int)))).bind fun _ =>
  some ((Int.tmod (Int.fdiv (Arr4.get x0 (IntKind.u8.wrap (Int.tdiv x1 (64 : Int)))) (2 ^ min (Int.toNat (Int.tmod x1 (64 : Int))) IntKind.u64.bits)) (2 : Int)) == (1 : Int))

def raddleref01_List_l0 (K : Nat) : Nat → Int → Arr4 → (List Int) → Option (List Int)
  | 0 => fun _ _ _ => none
  | k + 1 => fun x4_0_2 x0 y3_0_1 =>
    bif (decide (x4_0_2 < (256 : Int))) then
      (raddleref01_Has K x0 (IntKind.u8.wrap x4_0_2)).bind fun v_64 =>
      bif v_64 then
        (ck (roomy 1 (y3_0_1.length + [(IntKind.u8.wrap x4_0_2)].length) = true)).bind fun _ =>
        raddleref01_List_l0 K k (IntKind.i64.wrap (x4_0_2 + (1 : Int))) x0 (y3_0_1 ++ [(IntKind.u8.wrap x4_0_2)])
      else
        raddleref01_List_l0 K k (IntKind.i64.wrap (x4_0_2 + (1 : Int))) x0 y3_0_1
    else
      some y3_0_1

def raddleref01_List (K : Nat) (x0 : Arr4) : Option (List Int) :=
  raddleref01_List_l0 K K (0 : Int) x0 []

def raddleref01_Spans_j1 (K : Nat) (go0 : (List Int) → Int → (List Arr2) → Option (List Arr2)) (x4_1_1 : List Int) (x5_1_2 : Int) (y3_1_0 : List Arr2) : Option (List Arr2) :=
    (geti x4_1_1 x5_1_2).bind fun v_146 =>
    (ck (roomy 2 (y3_1_0.length + [(Arr2.mk v_146 v_146)].length) = true)).bind fun _ =>
    go0 x4_1_1 (IntKind.i64.wrap (x5_1_2 + (1 : Int))) (y3_1_0 ++ [(Arr2.mk v_146 v_146)])

def raddleref01_Spans_l0 (K : Nat) : Nat → (List Int) → Int → (List Arr2) → Option (List Arr2)
  | 0 => fun _ _ _ => none
  | k + 1 => fun x4_0_1 x5_0_2 y3_0_0 =>
    bif (decide (x5_0_2 < (x4_0_1.length : Int))) then
      bif (decide (x5_0_2 > (0 : Int))) then
        (geti x4_0_1 (IntKind.i64.wrap (x5_0_2 - (1 : Int)))).bind fun v_137 =>
        (geti x4_0_1 x5_0_2).bind fun v_139 =>
        bif ((IntKind.u8.wrap (v_137 + (1 : Int))) == v_139) then
          (geti y3_0_0 (IntKind.i64.wrap ((y3_0_0.length : Int) - (1 : Int)))).bind fun v_143 =>
          raddleref01_Spans_l0 K k x4_0_1 (IntKind.i64.wrap (x5_0_2 + (1 : Int))) (List.set y3_0_0 (Int.toNat (IntKind.i64.wrap ((y3_0_0.length : Int) - (1 : Int)))) (Arr2.set v_143 1 v_139))
        else
          raddleref01_Spans_j1 K (raddleref01_Spans_l0 K k) x4_0_1 x5_0_2 y3_0_0
      else
        raddleref01_Spans_j1 K (raddleref01_Spans_l0 K k) x4_0_1 x5_0_2 y3_0_0
    else
      some y3_0_0

def raddleref01_Spans (K : Nat) (x0 : Arr4) : Option (List Arr2) :=
  (raddleref01_List K x0).bind fun v_132 =>
  raddleref01_Spans_l0 K K v_132 (0 : Int) []

def raddleref01_with (K : Nat) (x0 : Arr4) (x1 : Int) : Option Arr4 :=
  (raddleref01_Has K x0 x1).bind fun v_31 =>
  bif (!v_31) then
    (ck (0 ≤ (IntKind.u8.wrap (Int.tdiv x1 (64 : Int))) ∧ (IntKind.u8.wrap (Int.tdiv x1 (64 : Int))) < 4)).bind fun _ =>
    (ck (0 ≤ (Int.tmod x1 (64 : Int)))).bind fun _ =>
    some (Arr4.set x0 (IntKind.u8.wrap (Int.tdiv x1 (64 : Int))) (IntKind.u64.wrap ((Arr4.get x0 (IntKind.u8.wrap (Int.tdiv x1 (64 : Int)))) + (IntKind.u64.wrap ((1 : Int) * 2 ^ min (Int.toNat (Int.tmod x1 (64 : Int))) IntKind.u64.bits)))))
  else
    some x0

def raddleref01_Fold_j1 (K : Nat) (go0 : Int → Arr4 → Arr4 → Arr4 → Option Arr4) (x4_1_3 : Int) (x0 : Arr4) (y2_0_1 : Arr4) (y3_1_2 : Arr4) : Option Arr4 :=
    (raddleref01_with K y3_1_2 x4_1_3).bind fun v_146 =>
    (raddleref01_with K v_146 (IntKind.u8.wrap (x4_1_3 - (32 : Int)))).bind fun v_148 =>
    go0 (IntKind.u8.wrap (x4_1_3 + (1 : Int))) x0 y2_0_1 v_148

def raddleref01_Fold_l0 (K : Nat) : Nat → Int → Arr4 → Arr4 → Arr4 → Option Arr4
  | 0 => fun _ _ _ _ => none
  | k + 1 => fun x4_0_3 x0 y2_0_1 y3_0_2 =>
    bif (decide (x4_0_3 ≤ (122 : Int))) then
      (raddleref01_Has K x0 x4_0_3).bind fun v_143 =>
      bif v_143 then
        raddleref01_Fold_j1 K (raddleref01_Fold_l0 K k) x4_0_3 x0 y2_0_1 y3_0_2
      else
        (raddleref01_Has K x0 (IntKind.u8.wrap (x4_0_3 - (32 : Int)))).bind fun v_150 =>
        bif v_150 then
          raddleref01_Fold_j1 K (raddleref01_Fold_l0 K k) x4_0_3 x0 y2_0_1 y3_0_2
        else
          raddleref01_Fold_l0 K k (IntKind.u8.wrap (x4_0_3 + (1 : Int))) x0 y2_0_1 y3_0_2
    else
      some y3_0_2

def raddleref01_Fold (K : Nat) (x0 : Arr4) : Option Arr4 :=
  raddleref01_Fold_l0 K K (97 : Int) x0 (Arr4.mk 0 0 0 0) x0

def raddlelaw01_BsetLists (K : Nat) (x0 : Arr4) : Option Bool :=
  (raddlelaw01_shown K).bind fun v_87 =>
  bif v_87 then
    (bset_List K x0).bind fun v_90 =>
    (raddleref01_List K x0).bind fun v_92 =>
    bif ((ofBytes v_90).toList == (ofBytes v_92).toList) then
      (bset_Spans K x0).bind fun v_95 =>
      (raddleref01_Spans K x0).bind fun v_97 =>
      (raddlelaw01_spans K v_95 v_97).bind fun v_99 =>
      bif v_99 then
        (bset_Fold K x0).bind fun v_102 =>
        (raddleref01_Fold K x0).bind fun v_104 =>
        some (Arr4.same v_102 v_104)
      else
        some false
    else
      some false
  else
    some false

def raddlelaw01_BsetBack_j1 (K : Nat) : Option Bool :=
    some false

def raddlelaw01_BsetBack_l0 (K : Nat) : Nat → Bool → Int → (List Arr2) → Int → Int → Arr4 → (List Arr4) → Option Bool
  | 0 => fun _ _ _ _ _ _ _ => none
  | k + 1 => fun x3_0_1 x5_0_3 x10_0_4 x11_0_5 x12_0_6 x0 y4_0_2 =>
    bif (decide (x12_0_6 < x11_0_5)) then
      (geti x10_0_4 x12_0_6).bind fun v_271 =>
      bif (decide ((IntKind.i64.wrap (Arr2.get v_271 (0 : Int))) ≤ (IntKind.i64.wrap (x5_0_3 + (1 : Int))))) then
        raddlelaw01_BsetBack_j1 K
      else
        bif (decide ((Arr2.get v_271 (1 : Int)) < (Arr2.get v_271 (0 : Int)))) then
          raddlelaw01_BsetBack_j1 K
        else
          (bset_Range K (Arr2.get v_271 (0 : Int)) (Arr2.get v_271 (1 : Int))).bind fun v_276 =>
          (ck (roomy 32 (y4_0_2.length + [v_276].length) = true)).bind fun _ =>
          raddlelaw01_BsetBack_l0 K k x3_0_1 (IntKind.i64.wrap (Arr2.get v_271 (1 : Int))) x10_0_4 x11_0_5 (IntKind.i64.wrap (x12_0_6 + (1 : Int))) x0 (y4_0_2 ++ [v_276])
    else
      bif x3_0_1 then
        (bset_Or K y4_0_2).bind fun v_282 =>
        bif (Arr4.same v_282 x0) then
          (bset_List K x0).bind fun v_285 =>
          (bset_Of K v_285).bind fun v_287 =>
          some (Arr4.same v_287 x0)
        else
          some false
      else
        some false

def raddlelaw01_BsetBack (K : Nat) (x0 : Arr4) : Option Bool :=
  (raddlelaw01_shown K).bind fun v_266 =>
  (bset_Spans K x0).bind fun v_268 =>
  raddlelaw01_BsetBack_l0 K K v_266 (-2 : Int) v_268 (v_268.length : Int) (0 : Int) x0 []

def raddlelaw01_BsetFolds (K : Nat) (x0 : Arr4) (x1 : Arr4) : Option Bool :=
  (raddlelaw01_shown K).bind fun v_151 =>
  (bset_Fold K x0).bind fun v_153 =>
  (bset_Range K (97 : Int) (122 : Int)).bind fun v_156 =>
  (bset_Range K (65 : Int) (90 : Int)).bind fun v_158 =>
  (bset_Or K [v_156, v_158]).bind fun v_160 =>
  bif v_151 then
    (bset_Fold K v_153).bind fun v_165 =>
    bif (Arr4.same v_165 v_153) then
      (bset_Or K [x0, x1]).bind fun v_168 =>
      (bset_Fold K v_168).bind fun v_170 =>
      (bset_Fold K x1).bind fun v_172 =>
      (bset_Or K [v_153, v_172]).bind fun v_174 =>
      bif (Arr4.same v_170 v_174) then
        (bset_And K [v_153, x0]).bind fun v_177 =>
        bif (Arr4.same v_177 x0) then
          (bset_Not K v_160).bind fun v_180 =>
          (bset_And K [v_153, v_180]).bind fun v_182 =>
          (bset_And K [x0, v_180]).bind fun v_184 =>
          some (Arr4.same v_182 v_184)
        else
          some false
      else
        some false
    else
      some false
  else
    some false

def raddlelaw01_BsetSizes_1 (K : Nat) (x0 : Arr4) : Option Int :=
  (bset_List K x0).bind fun v_11 =>
  some (v_11.length : Int)

def raddlelaw01_BsetSizes (K : Nat) (x0 : Arr4) (x1 : Arr4) (x2 : Int) (x3 : Int) : Option Bool :=
  (raddlelaw01_shown K).bind fun v_115 =>
  bif v_115 then
    (bset_Or K [x0, x1]).bind fun v_119 =>
    (raddlelaw01_BsetSizes_1 K v_119).bind fun v_121 =>
    (bset_And K [x0, x1]).bind fun v_123 =>
    (raddlelaw01_BsetSizes_1 K v_123).bind fun v_125 =>
    (raddlelaw01_BsetSizes_1 K x0).bind fun v_127 =>
    (raddlelaw01_BsetSizes_1 K x1).bind fun v_129 =>
    bif ((IntKind.i64.wrap (v_121 + v_125)) == (IntKind.i64.wrap (v_127 + v_129))) then
      (bset_Not K x0).bind fun v_132 =>
      (raddlelaw01_BsetSizes_1 K v_132).bind fun v_134 =>
      bif ((IntKind.i64.wrap (v_127 + v_134)) == (256 : Int)) then
        (bset_Range K x2 x3).bind fun v_137 =>
        (raddlelaw01_BsetSizes_1 K v_137).bind fun v_139 =>
        some (v_139 == (if (0 : Int) > (IntKind.i64.wrap ((IntKind.i64.wrap ((IntKind.i64.wrap x3) - (IntKind.i64.wrap x2))) + (1 : Int))) then (0 : Int) else (IntKind.i64.wrap ((IntKind.i64.wrap ((IntKind.i64.wrap x3) - (IntKind.i64.wrap x2))) + (1 : Int)))))
      else
        some false
    else
      some false
  else
    some false

def raddlelaw01_few (K : Nat) (x0 : List Arr4) : Option (List Arr4) :=
  (ck (0 ≤ (if (20 : Int) < (x0.length : Int) then (20 : Int) else (x0.length : Int)) ∧ 0 ≤ (Int.toNat (if (20 : Int) < (x0.length : Int) then (20 : Int) else (x0.length : Int))) ∧ (Int.toNat (if (20 : Int) < (x0.length : Int) then (20 : Int) else (x0.length : Int))) ≤ x0.length)).bind fun _ =>
  some ((x0.take (Int.toNat (if (20 : Int) < (x0.length : Int) then (20 : Int) else (x0.length : Int)))).drop 0)

def raddleref01_Of_l0 (K : Nat) : Nat → (List Int) → Int → Arr4 → Arr4 → Option Arr4
  | 0 => fun _ _ _ _ => none
  | k + 1 => fun x0 x4_0_3 y2_0_1 y3_0_2 =>
    bif (decide (x4_0_3 < (x0.length : Int))) then
      (geti x0 x4_0_3).bind fun v_69 =>
      (raddleref01_with K y3_0_2 v_69).bind fun v_71 =>
      raddleref01_Of_l0 K k x0 (IntKind.i64.wrap (x4_0_3 + (1 : Int))) y2_0_1 v_71
    else
      some y3_0_2

def raddleref01_Of (K : Nat) (x0 : List Int) : Option Arr4 :=
  raddleref01_Of_l0 K K x0 (0 : Int) (Arr4.mk 0 0 0 0) (Arr4.mk 0 0 0 0)

def raddleref01_Range_l0 (K : Nat) : Nat → Int → Int → Arr4 → Arr4 → Option Arr4
  | 0 => fun _ _ _ _ => none
  | k + 1 => fun x1 x6_0_3 y4_0_1 y5_0_2 =>
    bif (decide (x6_0_3 ≤ (IntKind.i64.wrap x1))) then
      (raddleref01_with K y5_0_2 (IntKind.u8.wrap x6_0_3)).bind fun v_29 =>
      raddleref01_Range_l0 K k x1 (IntKind.i64.wrap (x6_0_3 + (1 : Int))) y4_0_1 v_29
    else
      some y5_0_2

def raddleref01_Range (K : Nat) (x0 : Int) (x1 : Int) : Option Arr4 :=
  raddleref01_Range_l0 K K x1 (IntKind.i64.wrap x0) (Arr4.mk 0 0 0 0) (Arr4.mk 0 0 0 0)

def raddleref01_Or_l1 (K : Nat) (go0 : (List Arr4) → Int → Arr4 → Arr4 → Option Arr4) : Nat → (List Arr4) → Int → Int → Arr4 → Arr4 → Option Arr4
  | 0 => fun _ _ _ _ _ => none
  | k + 1 => fun x0 x4_1_3 x5_1_4 y2_0_1 y3_1_2 =>
    bif (decide (x5_1_4 < (x0.length : Int))) then
      (geti x0 x5_1_4).bind fun v_146 =>
      (raddleref01_Has K v_146 (IntKind.u8.wrap x4_1_3)).bind fun v_148 =>
      bif v_148 then
        (raddleref01_with K y3_1_2 (IntKind.u8.wrap x4_1_3)).bind fun v_151 =>
        raddleref01_Or_l1 K go0 k x0 x4_1_3 (IntKind.i64.wrap (x5_1_4 + (1 : Int))) y2_0_1 v_151
      else
        raddleref01_Or_l1 K go0 k x0 x4_1_3 (IntKind.i64.wrap (x5_1_4 + (1 : Int))) y2_0_1 y3_1_2
    else
      go0 x0 (IntKind.i64.wrap (x4_1_3 + (1 : Int))) y2_0_1 y3_1_2

def raddleref01_Or_l0 (K : Nat) : Nat → (List Arr4) → Int → Arr4 → Arr4 → Option Arr4
  | 0 => fun _ _ _ _ => none
  | k + 1 => fun x0 x4_0_3 y2_0_1 y3_0_2 =>
    bif (decide (x4_0_3 < (256 : Int))) then
      raddleref01_Or_l1 K (raddleref01_Or_l0 K k) K x0 x4_0_3 (0 : Int) y2_0_1 y3_0_2
    else
      some y3_0_2

def raddleref01_Or (K : Nat) (x0 : List Arr4) : Option Arr4 :=
  raddleref01_Or_l0 K K x0 (0 : Int) (Arr4.mk 0 0 0 0) (Arr4.mk 0 0 0 0)

def raddleref01_Not_l0 (K : Nat) : Nat → Int → Arr4 → Arr4 → Arr4 → Option Arr4
  | 0 => fun _ _ _ _ => none
  | k + 1 => fun x4_0_3 x0 y2_0_1 y3_0_2 =>
    bif (decide (x4_0_3 < (256 : Int))) then
      (raddleref01_Has K x0 (IntKind.u8.wrap x4_0_3)).bind fun v_84 =>
      bif (!v_84) then
        (raddleref01_with K y3_0_2 (IntKind.u8.wrap x4_0_3)).bind fun v_87 =>
        raddleref01_Not_l0 K k (IntKind.i64.wrap (x4_0_3 + (1 : Int))) x0 y2_0_1 v_87
      else
        raddleref01_Not_l0 K k (IntKind.i64.wrap (x4_0_3 + (1 : Int))) x0 y2_0_1 y3_0_2
    else
      some y3_0_2

def raddleref01_Not (K : Nat) (x0 : Arr4) : Option Arr4 :=
  raddleref01_Not_l0 K K (0 : Int) x0 (Arr4.mk 0 0 0 0) (Arr4.mk 0 0 0 0)

def raddleref01_And_l0 (K : Nat) : Nat → (List Arr4) → Int → Arr4 → (List Arr4) → Option Arr4
  | 0 => fun _ _ _ _ => none
  | k + 1 => fun x0 x4_0_3 y2_0_1 y3_0_2 =>
    bif (decide (x4_0_3 < (x0.length : Int))) then
      (geti x0 x4_0_3).bind fun v_99 =>
      (raddleref01_Not K v_99).bind fun v_101 =>
      (ck (roomy 32 (y3_0_2.length + [v_101].length) = true)).bind fun _ =>
      raddleref01_And_l0 K k x0 (IntKind.i64.wrap (x4_0_3 + (1 : Int))) y2_0_1 (y3_0_2 ++ [v_101])
    else
      (raddleref01_Or K y3_0_2).bind fun v_105 =>
      (raddleref01_Not K v_105).bind fun v_107 =>
      some v_107

def raddleref01_And (K : Nat) (x0 : List Arr4) : Option Arr4 :=
  raddleref01_And_l0 K K x0 (0 : Int) (Arr4.mk 0 0 0 0) []

def bset_Has (K : Nat) (x0 : Arr4) (x1 : Int) : Option Bool :=
  (ck (0 ≤ (IntKind.u8.wrap (Int.tdiv x1 (64 : Int))) ∧ (IntKind.u8.wrap (Int.tdiv x1 (64 : Int))) < 4)).bind fun _ =>
  (ck (0 ≤ (Int.tmod x1 (64 : Int)))).bind fun _ =>
  some ((bits .and .u64 (Int.fdiv (Arr4.get x0 (IntKind.u8.wrap (Int.tdiv x1 (64 : Int)))) (2 ^ min (Int.toNat (Int.tmod x1 (64 : Int))) IntKind.u64.bits)) (1 : Int)) == (1 : Int))

def raddlelaw01_BsetTells (K : Nat) (x0 : List Int) (x1 : Int) (x2 : Int) (x3 : List Arr4) : Option Bool :=
  (ck (0 ≤ (if (300 : Int) < (x0.length : Int) then (300 : Int) else (x0.length : Int)) ∧ 0 ≤ (Int.toNat (if (300 : Int) < (x0.length : Int) then (300 : Int) else (x0.length : Int))) ∧ (Int.toNat (if (300 : Int) < (x0.length : Int) then (300 : Int) else (x0.length : Int))) ≤ x0.length)).bind fun _ =>
  (raddlelaw01_few K x3).bind fun v_155 =>
  (raddleref01_Of K ((x0.take (Int.toNat (if (300 : Int) < (x0.length : Int) then (300 : Int) else (x0.length : Int)))).drop 0)).bind fun v_157 =>
  (raddlelaw01_shown K).bind fun v_161 =>
  bif v_161 then
    (bset_Of K ((x0.take (Int.toNat (if (300 : Int) < (x0.length : Int) then (300 : Int) else (x0.length : Int)))).drop 0)).bind fun v_164 =>
    bif (Arr4.same v_164 v_157) then
      (bset_Range K x1 x2).bind fun v_167 =>
      (raddleref01_Range K x1 x2).bind fun v_169 =>
      bif (Arr4.same v_167 v_169) then
        (bset_Or K v_155).bind fun v_172 =>
        (raddleref01_Or K v_155).bind fun v_174 =>
        bif (Arr4.same v_172 v_174) then
          (bset_And K v_155).bind fun v_177 =>
          (raddleref01_And K v_155).bind fun v_179 =>
          bif (Arr4.same v_177 v_179) then
            (bset_Not K v_157).bind fun v_182 =>
            (raddleref01_Not K v_157).bind fun v_184 =>
            bif (Arr4.same v_182 v_184) then
              (bset_Has K v_157 x1).bind fun v_187 =>
              (raddleref01_Has K v_157 x1).bind fun v_189 =>
              some (v_187 == v_189)
            else
              some false
          else
            some false
        else
          some false
      else
        some false
    else
      some false
  else
    some false

def raddlelaw01_BsetLaws_j0 (K : Nat) : Option Bool :=
    some false

def raddlelaw01_BsetLaws_j1 (K : Nat) : Option Bool :=
    some false

def raddlelaw01_BsetLaws (K : Nat) (x0 : Arr4) (x1 : Arr4) (x2 : Arr4) (x3 : Int) : Option Bool :=
  (raddlelaw01_shown K).bind fun v_359 =>
  (bset_Range K (0 : Int) (255 : Int)).bind fun v_361 =>
  (bset_Or K [x0, x1]).bind fun v_365 =>
  (bset_Not K v_365).bind fun v_367 =>
  (bset_Not K x0).bind fun v_369 =>
  (bset_Not K x1).bind fun v_371 =>
  (bset_And K [v_369, v_371]).bind fun v_373 =>
  bif (!(Arr4.same v_367 v_373)) then
    raddlelaw01_BsetLaws_j0 K
  else
    (bset_Or K [x0, v_369]).bind fun v_376 =>
    bif (!(Arr4.same v_376 v_361)) then
      raddlelaw01_BsetLaws_j0 K
    else
      (bset_And K [x0, v_369]).bind fun v_379 =>
      bif (!(Arr4.same v_379 (Arr4.mk 0 0 0 0))) then
        raddlelaw01_BsetLaws_j0 K
      else
        (bset_Not K v_369).bind fun v_382 =>
        bif (!(Arr4.same v_382 x0)) then
          raddlelaw01_BsetLaws_j0 K
        else
          (bset_Or K [x1, x2]).bind fun v_386 =>
          (bset_And K [x0, v_386]).bind fun v_388 =>
          (bset_And K [x0, x1]).bind fun v_390 =>
          (bset_And K [x0, x2]).bind fun v_392 =>
          (bset_Or K [v_390, v_392]).bind fun v_394 =>
          bif (!(Arr4.same v_388 v_394)) then
            raddlelaw01_BsetLaws_j1 K
          else
            (bset_Or K [x0, x1, x2]).bind fun v_397 =>
            (bset_Or K [x2, x0, x1]).bind fun v_399 =>
            bif (!(Arr4.same v_397 v_399)) then
              raddlelaw01_BsetLaws_j1 K
            else
              (bset_Has K x0 x3).bind fun v_403 =>
              (bset_Has K x1 x3).bind fun v_405 =>
              bif v_359 then
                (bset_Has K v_365 x3).bind fun v_408 =>
                bif v_403 then
                  bif (v_408 == true) then
                    (bset_Has K v_390 x3).bind fun v_412 =>
                    bif (v_412 == v_405) then
                      (bset_Has K v_369 x3).bind fun v_415 =>
                      some (v_415 == (!v_403))
                    else
                      some false
                  else
                    some false
                else
                  bif (v_408 == v_405) then
                    (bset_Has K v_390 x3).bind fun v_418 =>
                    bif (v_418 == false) then
                      (bset_Has K v_369 x3).bind fun v_421 =>
                      some (v_421 == (!v_403))
                    else
                      some false
                  else
                    some false
              else
                some false

end Go.Rv

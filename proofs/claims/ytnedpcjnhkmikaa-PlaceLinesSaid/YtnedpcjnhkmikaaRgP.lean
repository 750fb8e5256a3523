/- What each function of the program computes, as plain Lean: printed by a program of ours from the translation. -/
import Derived.Test.YtnedpcjnhkmikaaRvR
namespace Go.Rv
set_option linter.unusedVariables false


structure api_Place where
  Line : Int
  Col : Int
  deriving DecidableEq

abbrev c_api_Place (x : api_Place) : List DC := [.ex (.int .i64 x.Line), .ex (.int .i64 x.Col)]

def bytealg_LastIndexByte_l0 (K : Nat) : Nat → (List Int) → Int → Int → Option Int
  | 0 => fun _ _ _ => none
  | k + 1 => fun x0 x1 x5_0_2 =>
    bif (decide (x5_0_2 ≥ (0 : Int))) then
      (geti x0 x5_0_2).bind fun v_22 =>
      bif (v_22 == x1) then
        some x5_0_2
      else
        bytealg_LastIndexByte_l0 K k x0 x1 (IntKind.i64.wrap (x5_0_2 - (1 : Int)))
    else
      some (-1 : Int)

def bytealg_LastIndexByte (K : Nat) (x0 : List Int) (x1 : Int) : Option Int :=
  bytealg_LastIndexByte_l0 K K x0 x1 (IntKind.i64.wrap ((x0.length : Int) - (1 : Int)))

def bytes_LastIndexByte (K : Nat) (x0 : List Int) (x1 : Int) : Option Int :=
  (bytealg_LastIndexByte K x0 x1).bind fun v_7 =>
  some v_7

def bytes_Count_l0 (K : Nat) : Nat → (List Int) → (List Int) → Option Int
  | 0 => fun _ _ => none
  | k + 1 => fun x0 x1 =>
    none

def bytes_Count (K : Nat) (x0 : List Int) (x1 : List Int) : Option Int :=
  bif ((x1.length : Int) == (0 : Int)) then
    none
  else
    bif ((x1.length : Int) == (1 : Int)) then
      (geti x1 (0 : Int)).bind fun v_23 =>
      some (cntB x0 v_23)
    else
      bytes_Count_l0 K K x0 x1

def place_Next (K : Nat) (x0 : api_Place) (x1 : List Int) : Option api_Place :=
  (bytes_LastIndexByte K x1 (10 : Int)).bind fun v_35 =>
  bif (decide (v_35 < (0 : Int))) then
    some (api_Place.mk x0.Line (IntKind.i64.wrap (x0.Col + (x1.length : Int))))
  else
    (bytes_Count K x1 [(10 : Int)]).bind fun v_39 =>
    some (api_Place.mk (IntKind.i64.wrap (x0.Line + v_39)) (IntKind.i64.wrap ((x1.length : Int) - v_35)))

def place_Start (K : Nat) : Option api_Place :=
  some (api_Place.mk (1 : Int) (1 : Int))

def place_Of_j0 (K : Nat) : Option (api_Place × Bool) :=
    some ((api_Place.mk (0 : Int) (0 : Int)), false)

def place_Of (K : Nat) (x0 : List Int) (x1 : Int) : Option (api_Place × Bool) :=
  bif (decide (x1 < (0 : Int))) then
    place_Of_j0 K
  else
    bif (decide (x1 > (x0.length : Int))) then
      place_Of_j0 K
    else
      (place_Start K).bind fun v_50 =>
      (ck (0 ≤ x1 ∧ 0 ≤ (Int.toNat x1) ∧ (Int.toNat x1) ≤ x0.length)).bind fun _ =>
      (place_Next K v_50 ((x0.take (Int.toNat x1)).drop 0)).bind fun v_53 =>
      some (v_53, true)

def raddlelaw19_shown (K : Nat) : Option Bool :=
  (place_Of K [(97 : Int), (10 : Int), (98 : Int)] (2 : Int)).bind fun v_55 =>
  (place_Of K [(97 : Int), (10 : Int), (98 : Int)] (3 : Int)).bind fun v_60 =>
  bif v_55.2 then
    bif v_60.2 then
      bif (([v_55.1.Line, v_55.1.Col] : List Int) == [(2 : Int), (1 : Int)]) then
        some (([v_60.1.Line, v_60.1.Col] : List Int) == [(2 : Int), (2 : Int)])
      else
        some false
    else
      some false
  else
    some false

def raddlelaw19_few (K : Nat) (x0 : List Int) : Option (List Int) :=
  (ck (0 ≤ (if (200 : Int) < (x0.length : Int) then (200 : Int) else (x0.length : Int)) ∧ 0 ≤ (Int.toNat (if (200 : Int) < (x0.length : Int) then (200 : Int) else (x0.length : Int))) ∧ (Int.toNat (if (200 : Int) < (x0.length : Int) then (200 : Int) else (x0.length : Int))) ≤ x0.length)).bind fun _ =>
  some ((x0.take (Int.toNat (if (200 : Int) < (x0.length : Int) then (200 : Int) else (x0.length : Int)))).drop 0)

def raddlelaw19_PlaceParts_l0 (K : Nat) : Nat → Bool → (List Int) → (List Int) → Int → (List Int) → Int → Int → Int → Int → Option Bool
  | 0 => fun _ _ _ _ _ _ _ _ _ => none
  | k + 1 => fun x7_0_2 x8_0_3 x9_0_4 x10_0_5 x23_0_6 x24_0_7 x25_0_8 y3_0_0 y3_0_1 =>
    bif (decide (x25_0_8 < x24_0_7)) then
      (geti x23_0_6 x25_0_8).bind fun v_328 =>
      bif (v_328 == (10 : Int)) then
        raddlelaw19_PlaceParts_l0 K k x7_0_2 x8_0_3 x9_0_4 (IntKind.i64.wrap (x10_0_5 + (1 : Int))) x23_0_6 x24_0_7 (IntKind.i64.wrap (x25_0_8 + (1 : Int))) y3_0_0 y3_0_1
      else
        raddlelaw19_PlaceParts_l0 K k x7_0_2 x8_0_3 x9_0_4 x10_0_5 x23_0_6 x24_0_7 (IntKind.i64.wrap (x25_0_8 + (1 : Int))) y3_0_0 y3_0_1
    else
      (place_Next K (api_Place.mk y3_0_0 y3_0_1) x8_0_3).bind fun v_331 =>
      (place_Next K v_331 x9_0_4).bind fun v_333 =>
      bif x7_0_2 then
        (ck (roomy 1 (([] : List Int).length + x8_0_3.length) = true)).bind fun _ =>
        (ck (roomy 1 ((([] : List Int) ++ x8_0_3).length + x9_0_4.length) = true)).bind fun _ =>
        (place_Next K (api_Place.mk y3_0_0 y3_0_1) ((([] : List Int) ++ x8_0_3) ++ x9_0_4)).bind fun v_342 =>
        bif (([v_333.Line, v_333.Col] : List Int) == [v_342.Line, v_342.Col]) then
          bif (v_333.Line == (IntKind.i64.wrap (y3_0_0 + x10_0_5))) then
            (place_Next K (api_Place.mk y3_0_0 y3_0_1) []).bind fun v_346 =>
            bif (([v_346.Line, v_346.Col] : List Int) == [y3_0_0, y3_0_1]) then
              (place_Start K).bind fun v_349 =>
              some (([v_349.Line, v_349.Col] : List Int) == [(1 : Int), (1 : Int)])
            else
              some false
          else
            some false
        else
          some false
      else
        some false

def raddlelaw19_PlaceParts (K : Nat) (x0 : api_Place) (x1 : List Int) (x2 : List Int) : Option Bool :=
  (raddlelaw19_shown K).bind fun v_317 =>
  (raddlelaw19_few K x1).bind fun v_319 =>
  (raddlelaw19_few K x2).bind fun v_321 =>
  (ck (roomy 1 (([] : List Int).length + v_319.length) = true)).bind fun _ =>
  (ck (roomy 1 ((([] : List Int) ++ v_319).length + v_321.length) = true)).bind fun _ =>
  raddlelaw19_PlaceParts_l0 K K v_317 v_319 v_321 (0 : Int) ((([] : List Int) ++ v_319) ++ v_321) (((([] : List Int) ++ v_319) ++ v_321).length : Int) (0 : Int) x0.Line x0.Col

def raddleref19_Next_l0 (K : Nat) : Nat → (List Int) → Int → Int → Int → Option api_Place
  | 0 => fun _ _ _ _ => none
  | k + 1 => fun x1 x5_0_5 y2_0_1 y2_0_2 =>
    bif (decide (x5_0_5 < (x1.length : Int))) then
      (geti x1 x5_0_5).bind fun v_58 =>
      bif (v_58 == (10 : Int)) then
        raddleref19_Next_l0 K k x1 (IntKind.i64.wrap (x5_0_5 + (1 : Int))) (IntKind.i64.wrap (y2_0_1 + (1 : Int))) (1 : Int)
      else
        raddleref19_Next_l0 K k x1 (IntKind.i64.wrap (x5_0_5 + (1 : Int))) y2_0_1 (IntKind.i64.wrap (y2_0_2 + (1 : Int)))
    else
      some (api_Place.mk y2_0_1 y2_0_2)

def raddleref19_Next (K : Nat) (x0 : api_Place) (x1 : List Int) : Option api_Place :=
  raddleref19_Next_l0 K K x1 (0 : Int) x0.Line x0.Col

def raddleref19_Of_j0 (K : Nat) : Option (api_Place × Bool) :=
    some ((api_Place.mk (0 : Int) (0 : Int)), false)

def raddleref19_Of (K : Nat) (x0 : List Int) (x1 : Int) : Option (api_Place × Bool) :=
  bif (decide (x1 < (0 : Int))) then
    raddleref19_Of_j0 K
  else
    bif (decide (x1 > (x0.length : Int))) then
      raddleref19_Of_j0 K
    else
      (ck (0 ≤ x1 ∧ 0 ≤ (Int.toNat x1) ∧ (Int.toNat x1) ≤ x0.length)).bind fun _ =>
      (raddleref19_Next K (api_Place.mk (1 : Int) (1 : Int)) ((x0.take (Int.toNat x1)).drop 0)).bind fun v_35 =>
      some (v_35, true)

def bytes_IndexByte (K : Nat) (x0 : List Int) (x1 : Int) : Option Int :=
  some (idxB x0 x1)

def place_At_j0 (K : Nat) : Option (Int × Bool) :=
    some ((0 : Int), false)

def place_At_j2 (K : Nat) (x6_2_2 : Int) (x8_2_3 : Int) (y3_1_1 : Int) (y3_1_2 : Int) : Option (Int × Bool) :=
    bif (decide ((IntKind.i64.wrap (y3_1_2 - (1 : Int))) > x8_2_3)) then
      some ((0 : Int), false)
    else
      some ((IntKind.i64.wrap ((IntKind.i64.wrap (x6_2_2 + y3_1_2)) - (1 : Int))), true)

def place_At_l1 (K : Nat) : Nat → (List Int) → Int → Int → Int → Int → Int → Option (Int × Bool)
  | 0 => fun _ _ _ _ _ _ => none
  | k + 1 => fun x0 x6_1_3 x19_1_4 x20_1_5 y3_1_1 y3_1_2 =>
    bif (decide (x20_1_5 < x19_1_4)) then
      (ck (0 ≤ x6_1_3 ∧ (Int.toNat x6_1_3) ≤ x0.length ∧ x0.length ≤ x0.length)).bind fun _ =>
      (bytes_IndexByte K ((x0.take x0.length).drop (Int.toNat x6_1_3)) (10 : Int)).bind fun v_162 =>
      bif (decide (v_162 < (0 : Int))) then
        some ((0 : Int), false)
      else
        place_At_l1 K k x0 (IntKind.i64.wrap (x6_1_3 + (IntKind.i64.wrap (v_162 + (1 : Int))))) x19_1_4 (IntKind.i64.wrap (x20_1_5 + (1 : Int))) y3_1_1 y3_1_2
    else
      (ck (0 ≤ x6_1_3 ∧ (Int.toNat x6_1_3) ≤ x0.length ∧ x0.length ≤ x0.length)).bind fun _ =>
      (bytes_IndexByte K ((x0.take x0.length).drop (Int.toNat x6_1_3)) (10 : Int)).bind fun v_166 =>
      bif (decide (v_166 < (0 : Int))) then
        place_At_j2 K x6_1_3 (IntKind.i64.wrap ((x0.length : Int) - x6_1_3)) y3_1_1 y3_1_2
      else
        place_At_j2 K x6_1_3 v_166 y3_1_1 y3_1_2

def place_At (K : Nat) (x0 : List Int) (x1 : api_Place) : Option (Int × Bool) :=
  bif (decide (x1.Line < (1 : Int))) then
    place_At_j0 K
  else
    bif (decide (x1.Col < (1 : Int))) then
      place_At_j0 K
    else
      place_At_l1 K K x0 (0 : Int) (IntKind.i64.wrap (x1.Line - (1 : Int))) (0 : Int) x1.Line x1.Col

def raddleref19_At_l0 (K : Nat) : Nat → (List Int) → Int → Int → Int → Option (Int × Bool)
  | 0 => fun _ _ _ _ => none
  | k + 1 => fun x0 x6_0_3 y3_0_1 y3_0_2 =>
    bif (decide (x6_0_3 ≤ (x0.length : Int))) then
      (raddleref19_Of K x0 x6_0_3).bind fun v_57 =>
      bif (([v_57.1.Line, v_57.1.Col] : List Int) == [y3_0_1, y3_0_2]) then
        some (x6_0_3, true)
      else
        raddleref19_At_l0 K k x0 (IntKind.i64.wrap (x6_0_3 + (1 : Int))) y3_0_1 y3_0_2
    else
      some ((0 : Int), false)

def raddleref19_At (K : Nat) (x0 : List Int) (x1 : api_Place) : Option (Int × Bool) :=
  raddleref19_At_l0 K K x0 (0 : Int) x1.Line x1.Col

def raddlelaw19_PlaceTells (K : Nat) (x0 : api_Place) (x1 : List Int) (x2 : Int) : Option Bool :=
  (raddlelaw19_few K x1).bind fun v_102 =>
  (place_Of K v_102 x2).bind fun v_104 =>
  (raddleref19_Of K v_102 x2).bind fun v_107 =>
  (place_At K v_102 x0).bind fun v_110 =>
  (raddleref19_At K v_102 x0).bind fun v_112 =>
  (raddlelaw19_shown K).bind fun v_115 =>
  bif v_115 then
    (place_Next K x0 v_102).bind fun v_118 =>
    (raddleref19_Next K x0 v_102).bind fun v_120 =>
    bif (([v_118.Line, v_118.Col] : List Int) == [v_120.Line, v_120.Col]) then
      bif (([v_104.1.Line, v_104.1.Col] : List Int) == [v_107.1.Line, v_107.1.Col]) then
        bif (v_104.2 == v_107.2) then
          bif (v_110.1 == v_112.1) then
            some (v_110.2 == v_112.2)
          else
            some false
        else
          some false
      else
        some false
    else
      some false
  else
    some false

def raddlelaw19_PlaceOrder_j0 (K : Nat) (x7_0_0 : Bool) (x8_0_1 : List Int) (x9_0_2 : Int) (x10_0_3 : Int) (x12_0_6 : Bool) (x14_0_9 : Bool) (x15_0_10 : Bool) (y11_0_4 : Int) (y11_0_5 : Int) (y13_0_7 : Int) (y13_0_8 : Int) : Option Bool :=
    (place_At K x8_0_1 (api_Place.mk y11_0_4 y11_0_5)).bind fun v_164 =>
    (place_Of K x8_0_1 (-1 : Int)).bind fun v_166 =>
    (place_Of K x8_0_1 (IntKind.i64.wrap ((x8_0_1.length : Int) + (1 : Int)))).bind fun v_169 =>
    bif x7_0_0 then
      bif x12_0_6 then
        bif x14_0_9 then
          bif (x15_0_10 == (decide (x9_0_2 < x10_0_3))) then
            bif ((([y11_0_4, y11_0_5] : List Int) == [y13_0_7, y13_0_8]) == (x9_0_2 == x10_0_3)) then
              bif v_164.2 then
                bif (v_164.1 == x9_0_2) then
                  bif (!v_166.2) then
                    some (!v_169.2)
                  else
                    some false
                else
                  some false
              else
                some false
            else
              some false
          else
            some false
        else
          some false
      else
        some false
    else
      some false

def raddlelaw19_PlaceOrder (K : Nat) (x0 : List Int) (x1 : Int) (x2 : Int) : Option Bool :=
  (raddlelaw19_shown K).bind fun v_151 =>
  (raddlelaw19_few K x0).bind fun v_153 =>
  (ck ((IntKind.i64.wrap ((v_153.length : Int) + (1 : Int))) ≠ 0)).bind fun _ =>
  (place_Of K v_153 (Int.tmod (IntKind.i64.wrap x1) (IntKind.i64.wrap ((v_153.length : Int) + (1 : Int))))).bind fun v_157 =>
  (place_Of K v_153 (Int.tmod (IntKind.i64.wrap x2) (IntKind.i64.wrap ((v_153.length : Int) + (1 : Int))))).bind fun v_160 =>
  bif (decide (v_157.1.Line < v_160.1.Line)) then
    raddlelaw19_PlaceOrder_j0 K v_151 v_153 (Int.tmod (IntKind.i64.wrap x1) (IntKind.i64.wrap ((v_153.length : Int) + (1 : Int)))) (Int.tmod (IntKind.i64.wrap x2) (IntKind.i64.wrap ((v_153.length : Int) + (1 : Int)))) v_157.2 v_160.2 true v_157.1.Line v_157.1.Col v_160.1.Line v_160.1.Col
  else
    bif (v_157.1.Line == v_160.1.Line) then
      raddlelaw19_PlaceOrder_j0 K v_151 v_153 (Int.tmod (IntKind.i64.wrap x1) (IntKind.i64.wrap ((v_153.length : Int) + (1 : Int)))) (Int.tmod (IntKind.i64.wrap x2) (IntKind.i64.wrap ((v_153.length : Int) + (1 : Int)))) v_157.2 v_160.2 (decide (v_157.1.Col < v_160.1.Col)) v_157.1.Line v_157.1.Col v_160.1.Line v_160.1.Col
    else
      raddlelaw19_PlaceOrder_j0 K v_151 v_153 (Int.tmod (IntKind.i64.wrap x1) (IntKind.i64.wrap ((v_153.length : Int) + (1 : Int)))) (Int.tmod (IntKind.i64.wrap x2) (IntKind.i64.wrap ((v_153.length : Int) + (1 : Int)))) v_157.2 v_160.2 false v_157.1.Line v_157.1.Col v_160.1.Line v_160.1.Col

def raddlelaw19_PlaceLines_l2 (K : Nat) (go0 : Bool → Int → (List (List Int)) → (List (List Int)) → Int → Int → (List Int) → Option Bool) : Nat → Bool → Int → (List (List Int)) → (List (List Int)) → Int → Int → (List Int) → Int → Int → (List Int) → Option Bool
  | 0 => fun _ _ _ _ _ _ _ _ _ _ => none
  | k + 1 => fun x3_0_0 x5_2_2 x6_2_3 x21_2_4 x22_2_5 x23_2_6 x33_2_7 x34_2_8 x35_2_9 y4_2_1 =>
    bif (decide (x35_2_9 < x34_2_8)) then
      (geti x33_2_7 x35_2_9).bind fun v_470 =>
      bif (decide (x35_2_9 < (20 : Int))) then
        bif (v_470 != (10 : Int)) then
          (ck (roomy 1 (y4_2_1.length + [v_470].length) = true)).bind fun _ =>
          raddlelaw19_PlaceLines_l2 K go0 k x3_0_0 (IntKind.i64.wrap (x5_2_2 + (1 : Int))) x6_2_3 x21_2_4 x22_2_5 x23_2_6 x33_2_7 x34_2_8 (IntKind.i64.wrap (x35_2_9 + (1 : Int))) (y4_2_1 ++ [v_470])
        else
          raddlelaw19_PlaceLines_l2 K go0 k x3_0_0 x5_2_2 x6_2_3 x21_2_4 x22_2_5 x23_2_6 x33_2_7 x34_2_8 (IntKind.i64.wrap (x35_2_9 + (1 : Int))) y4_2_1
      else
        raddlelaw19_PlaceLines_l2 K go0 k x3_0_0 x5_2_2 x6_2_3 x21_2_4 x22_2_5 x23_2_6 x33_2_7 x34_2_8 (IntKind.i64.wrap (x35_2_9 + (1 : Int))) y4_2_1
    else
      go0 x3_0_0 x5_2_2 x6_2_3 x21_2_4 x22_2_5 (IntKind.i64.wrap (x23_2_6 + (1 : Int))) y4_2_1

def raddlelaw19_PlaceLines_j1 (K : Nat) (go0 : Bool → Int → (List (List Int)) → (List (List Int)) → Int → Int → (List Int) → Option Bool) (x3_0_0 : Bool) (x6_1_2 : List (List Int)) (x8_1_3 : List Int) (x21_1_4 : List (List Int)) (x22_1_5 : Int) (x23_1_6 : Int) (y4_1_1 : List Int) : Option Bool :=
    raddlelaw19_PlaceLines_l2 K go0 K x3_0_0 (0 : Int) x6_1_2 x21_1_4 x22_1_5 x23_1_6 x8_1_3 (x8_1_3.length : Int) (0 : Int) y4_1_1

def raddlelaw19_PlaceLines_l0 (K : Nat) : Nat → Bool → Int → (List (List Int)) → (List (List Int)) → Int → Int → (List Int) → Option Bool
  | 0 => fun _ _ _ _ _ _ _ => none
  | k + 1 => fun x3_0_0 x5_0_2 x6_0_3 x21_0_4 x22_0_5 x23_0_6 y4_0_1 =>
    bif (decide (x23_0_6 < x22_0_5)) then
      (geti x21_0_4 x23_0_6).bind fun v_464 =>
      bif (decide (x23_0_6 > (0 : Int))) then
        (ck (roomy 1 (y4_0_1.length + [(10 : Int)].length) = true)).bind fun _ =>
        raddlelaw19_PlaceLines_j1 K (raddlelaw19_PlaceLines_l0 K k) x3_0_0 x6_0_3 v_464 x21_0_4 x22_0_5 x23_0_6 (y4_0_1 ++ [(10 : Int)])
      else
        raddlelaw19_PlaceLines_j1 K (raddlelaw19_PlaceLines_l0 K k) x3_0_0 x6_0_3 v_464 x21_0_4 x22_0_5 x23_0_6 y4_0_1
    else
      (place_Of K y4_0_1 (y4_0_1.length : Int)).bind fun v_476 =>
      (place_At K y4_0_1 (api_Place.mk (if (1 : Int) > (x6_0_3.length : Int) then (1 : Int) else (x6_0_3.length : Int)) (1 : Int))).bind fun v_479 =>
      bif x3_0_0 then
        bif v_476.2 then
          bif (([v_476.1.Line, v_476.1.Col] : List Int) == [(if (1 : Int) > (x6_0_3.length : Int) then (1 : Int) else (x6_0_3.length : Int)), (IntKind.i64.wrap (x5_0_2 + (1 : Int)))]) then
            bif v_479.2 then
              some (v_479.1 == (IntKind.i64.wrap ((y4_0_1.length : Int) - x5_0_2)))
            else
              some false
          else
            some false
        else
          some false
      else
        some false

def raddlelaw19_PlaceLines (K : Nat) (x0 : List (List Int)) : Option Bool :=
  (raddlelaw19_shown K).bind fun v_460 =>
  (ck (0 ≤ (if (10 : Int) < (x0.length : Int) then (10 : Int) else (x0.length : Int)) ∧ 0 ≤ (Int.toNat (if (10 : Int) < (x0.length : Int) then (10 : Int) else (x0.length : Int))) ∧ (Int.toNat (if (10 : Int) < (x0.length : Int) then (10 : Int) else (x0.length : Int))) ≤ x0.length)).bind fun _ =>
  raddlelaw19_PlaceLines_l0 K K v_460 (0 : Int) ((x0.take (Int.toNat (if (10 : Int) < (x0.length : Int) then (10 : Int) else (x0.length : Int)))).drop 0) ((x0.take (Int.toNat (if (10 : Int) < (x0.length : Int) then (10 : Int) else (x0.length : Int)))).drop 0) (((x0.take (Int.toNat (if (10 : Int) < (x0.length : Int) then (10 : Int) else (x0.length : Int)))).drop 0).length : Int) (0 : Int) []

end Go.Rv

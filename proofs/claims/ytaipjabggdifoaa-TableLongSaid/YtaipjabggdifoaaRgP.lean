/- What each function of the program computes, as plain Lean: printed by a program of ours from the translation. -/
import Derived.Test.YtaipjabggdifoaaRvP
namespace Go.Rv
set_option linter.unusedVariables false

structure api_Split where
  Of : ArrN
  Many : Int

abbrev c_api_Split (x : api_Split) : List DC := ((ArrN.dc 256 .u8 x.Of) ++ (([.int .i64 x.Many] : List DC)))

structure api_Move where
  To : Int
  Ops : List Int
  deriving DecidableEq

abbrev c_api_Move (x : api_Move) : List DC := [.int .i64 x.To, .sl false 1 (x.Ops.map (cI .u8))]

structure api_State where
  L : List Int
  R : List Int
  Rule : List Int
  Next : List (List api_Move)
  deriving DecidableEq

abbrev c_api_State (x : api_State) : List DC := [.sl false 1 (x.L.map (cI .i64)), .sl false 1 (x.R.map (cI .i64)), .sl false 1 (x.Rule.map (cI .i64)), .sl false 1 (x.Next.map (cL 2 c_api_Move))]

structure api_Auto where
  Split : api_Split
  Counts : List Arr2
  States : List api_State

abbrev c_api_Auto (x : api_Auto) : List DC := ((ArrN.dc 256 .u8 x.Split.Of) ++ (([.int .i64 x.Split.Many, .sl false 2 (x.Counts.map (Arr2.dc .i64)), .sl false 4 (x.States.map c_api_State)] : List DC)))

structure auto_checker where
  Auto : api_Auto

structure table_writer where
  b : List Int
  deriving DecidableEq

structure raddleref14_writer where
  b : List Int
  deriving DecidableEq

structure api_Pos where
  S : Arr4
  Lo : Int
  Hi : Int
  Rule : Int
  Last : Bool
  Next : List Int
  deriving DecidableEq

abbrev c_api_Pos (x : api_Pos) : List DC := [.int .u64 x.S.a0, .int .u64 x.S.a1, .int .u64 x.S.a2, .int .u64 x.S.a3, .int .i64 x.Lo, .int .i64 x.Hi, .int .i64 x.Rule, .bool x.Last, .sl false 1 (x.Next.map (cI .i64))]

structure api_Glush where
  First : List Int
  P : List api_Pos
  deriving DecidableEq

structure raddleref11_builder where
  g : api_Glush
  number : List Int
  a : api_Auto
  e : Int

def raddlelaw14_few (K : Nat) (x0 : api_Auto) : Option api_Auto :=
  bif (decide ((x0.States.length : Int) > (60 : Int))) then
    some (api_Auto.mk (api_Split.mk (ArrN.mk fun _ => 0) (0 : Int)) [] [])
  else
    some x0

def split_Right_l0 (K : Nat) : Nat → Int → api_Split → Int → Option Bool
  | 0 => fun _ _ _ => none
  | k + 1 => fun x3_0_2 x0 x8_0_4 =>
    bif (decide (x8_0_4 < (256 : Int))) then
      (ck (0 ≤ x8_0_4 ∧ x8_0_4 < 256)).bind fun _ =>
      bif (decide ((IntKind.i64.wrap (ArrN.get x0.Of x8_0_4)) > x3_0_2)) then
        some false
      else
        bif ((IntKind.i64.wrap (ArrN.get x0.Of x8_0_4)) == x3_0_2) then
          split_Right_l0 K k (IntKind.i64.wrap (x3_0_2 + (1 : Int))) x0 (IntKind.i64.wrap (x8_0_4 + (1 : Int)))
        else
          split_Right_l0 K k x3_0_2 x0 (IntKind.i64.wrap (x8_0_4 + (1 : Int)))
    else
      some (x3_0_2 == x0.Many)

def split_Right (K : Nat) (x0 : api_Split) : Option Bool :=
  split_Right_l0 K K (0 : Int) x0 (0 : Int)

def auto_Codes_j0 (K : Nat) : Option Int :=
    some (0 : Int)

def auto_Codes_l1 (K : Nat) : Nat → Int → Int → Int → Option Int
  | 0 => fun _ _ _ => none
  | k + 1 => fun x3_1_0 x0 x11_1_2 =>
    bif (decide (x11_1_2 < x0)) then
      auto_Codes_l1 K k (IntKind.i64.wrap (x3_1_0 * (3 : Int))) x0 (IntKind.i64.wrap (x11_1_2 + (1 : Int)))
    else
      some x3_1_0

def auto_Codes (K : Nat) (x0 : Int) : Option Int :=
  bif (decide (x0 < (0 : Int))) then
    auto_Codes_j0 K
  else
    bif (decide (x0 > (3 : Int))) then
      auto_Codes_j0 K
    else
      auto_Codes_l1 K K (1 : Int) x0 (0 : Int)

def auto_rises_j1 (K : Nat) : Option Bool :=
    some false

def auto_rises_l0 (K : Nat) : Nat → Int → Int → (List Int) → Int → Int → Option Bool
  | 0 => fun _ _ _ _ _ => none
  | k + 1 => fun x1 x5_0_1 x0 x9_0_3 x10_0_4 =>
    bif (decide (x10_0_4 < x9_0_3)) then
      (geti x0 x10_0_4).bind fun v_52 =>
      bif (decide (v_52 ≤ x5_0_1)) then
        auto_rises_j1 K
      else
        bif (decide (v_52 ≥ x1)) then
          auto_rises_j1 K
        else
          auto_rises_l0 K k x1 v_52 x0 x9_0_3 (IntKind.i64.wrap (x10_0_4 + (1 : Int)))
    else
      some true

def auto_rises (K : Nat) (x0 : List Int) (x1 : Int) : Option Bool :=
  auto_rises_l0 K K x1 (-1 : Int) x0 (x0.length : Int) (0 : Int)

def slices_Index_int_l0 (K : Nat) : Nat → (List Int) → Int → Int → Int → Option Int
  | 0 => fun _ _ _ _ => none
  | k + 1 => fun x0 x1 x7_0_2 x8_0_3 =>
    bif (decide (x8_0_3 < x7_0_2)) then
      (geti x0 x8_0_3).bind fun v_38 =>
      bif (x1 == v_38) then
        some x8_0_3
      else
        slices_Index_int_l0 K k x0 x1 x7_0_2 (IntKind.i64.wrap (x8_0_3 + (1 : Int)))
    else
      some (-1 : Int)

def slices_Index_int (K : Nat) (x0 : List Int) (x1 : Int) : Option Int :=
  slices_Index_int_l0 K K x0 x1 (x0.length : Int) (0 : Int)

def slices_Contains_int (K : Nat) (x0 : List Int) (x1 : Int) : Option Bool :=
  (slices_Index_int K x0 x1).bind fun v_7 =>
  some (decide (v_7 ≥ (0 : Int)))

def auto_checker_move_j0 (K : Nat) : Option Bool :=
    some false

def auto_checker_move_j2 (K : Nat) : Option Bool :=
    some false

def auto_checker_move_l1 (K : Nat) : Nat → api_Move → Int → Int → auto_checker → api_State → Option Bool
  | 0 => fun _ _ _ _ _ => none
  | k + 1 => fun x2 x45_1_11 x46_1_12 x0 x1 =>
    bif (decide (x46_1_12 < x45_1_11)) then
      (geti x2.Ops x46_1_12).bind fun v_349 =>
      bif (decide (v_349 < (1 : Int))) then
        auto_checker_move_j2 K
      else
        bif (decide (v_349 > (3 : Int))) then
          auto_checker_move_j2 K
        else
          bif (v_349 != (3 : Int)) then
            (geti x0.Auto.States x2.To).bind fun v_364 =>
            (geti v_364.R x46_1_12).bind fun v_366 =>
            (slices_Contains_int K x1.R v_366).bind fun v_368 =>
            bif (!v_368) then
              auto_checker_move_j2 K
            else
              auto_checker_move_l1 K k x2 x45_1_11 (IntKind.i64.wrap (x46_1_12 + (1 : Int))) x0 x1
          else
            auto_checker_move_l1 K k x2 x45_1_11 (IntKind.i64.wrap (x46_1_12 + (1 : Int))) x0 x1
    else
      some true

def auto_checker_move (K : Nat) (x0 : auto_checker) (x1 : api_State) (x2 : api_Move) : Option Bool :=
  bif (x2.To == (-1 : Int)) then
    some ((x2.Ops.length : Int) == (0 : Int))
  else
    bif (decide (x2.To < (1 : Int))) then
      auto_checker_move_j0 K
    else
      bif (decide (x2.To ≥ (x0.Auto.States.length : Int))) then
        auto_checker_move_j0 K
      else
        (geti x0.Auto.States x2.To).bind fun v_345 =>
        bif ((x2.Ops.length : Int) != (v_345.R.length : Int)) then
          auto_checker_move_j0 K
        else
          auto_checker_move_l1 K K x2 (x2.Ops.length : Int) (0 : Int) x0 x1

def auto_checker_state_1 (K : Nat) (x0 : api_Move) (x1 : auto_checker) (x2 : api_State) : Option Bool :=
  (auto_checker_move K x1 x2 x0).bind fun v_11 =>
  some (!v_11)

def slices_IndexFunc_Move_l0 (K : Nat) : Nat → (List api_Move) → Int → Int → auto_checker → api_State → Option Int
  | 0 => fun _ _ _ _ _ => none
  | k + 1 => fun x0 x7_0_9 x8_0_10 x1c0 x1c1 =>
    bif (decide (x8_0_10 < x7_0_9)) then
      (geti x0 x8_0_10).bind fun v_65 =>
      (auto_checker_state_1 K v_65 x1c0 x1c1).bind fun v_67 =>
      bif v_67 then
        some x8_0_10
      else
        slices_IndexFunc_Move_l0 K k x0 x7_0_9 (IntKind.i64.wrap (x8_0_10 + (1 : Int))) x1c0 x1c1
    else
      some (-1 : Int)

def slices_IndexFunc_Move (K : Nat) (x0 : List api_Move) (x1c0 : auto_checker) (x1c1 : api_State) : Option Int :=
  slices_IndexFunc_Move_l0 K K x0 (x0.length : Int) (0 : Int) x1c0 x1c1

def slices_ContainsFunc_Move (K : Nat) (x0 : List api_Move) (x1c0 : auto_checker) (x1c1 : api_State) : Option Bool :=
  (slices_IndexFunc_Move K x0 x1c0 x1c1).bind fun v_10 =>
  some (decide (v_10 ≥ (0 : Int)))

def auto_checker_state_j0 (K : Nat) : Option Bool :=
    some false

def auto_checker_state_j2 (K : Nat) : Option Bool :=
    some false

def auto_checker_state_l1 (K : Nat) : Nat → api_State → Int → Int → auto_checker → Option Bool
  | 0 => fun _ _ _ _ => none
  | k + 1 => fun x1 x46_1_9 x47_1_10 x0 =>
    bif (decide (x47_1_10 < x46_1_9)) then
      (geti x1.Next x47_1_10).bind fun v_290 =>
      (geti x1.Rule x47_1_10).bind fun v_292 =>
      bif (decide (v_292 < (-1 : Int))) then
        auto_checker_state_j2 K
      else
        bif (decide (v_292 ≥ (512 : Int))) then
          auto_checker_state_j2 K
        else
          bif ((v_290.length : Int) != x0.Auto.Split.Many) then
            auto_checker_state_j2 K
          else
            (slices_ContainsFunc_Move K v_290 x0 x1).bind fun v_297 =>
            bif v_297 then
              some false
            else
              auto_checker_state_l1 K k x1 x46_1_9 (IntKind.i64.wrap (x47_1_10 + (1 : Int))) x0
    else
      some true

def auto_checker_state (K : Nat) (x0 : auto_checker) (x1 : api_State) : Option Bool :=
  (auto_Codes K (x1.R.length : Int)).bind fun v_278 =>
  bif (v_278 == (0 : Int)) then
    auto_checker_state_j0 K
  else
    bif ((x1.Rule.length : Int) != v_278) then
      auto_checker_state_j0 K
    else
      bif ((x1.Next.length : Int) != v_278) then
        auto_checker_state_j0 K
      else
        (auto_rises K x1.L (512 : Int)).bind fun v_283 =>
        bif (!v_283) then
          auto_checker_state_j0 K
        else
          (auto_rises K x1.R (x0.Auto.Counts.length : Int)).bind fun v_286 =>
          bif (!v_286) then
            auto_checker_state_j0 K
          else
            auto_checker_state_l1 K K x1 (x1.Next.length : Int) (0 : Int) x0

def auto_Right_1 (K : Nat) (x0 : api_State) (x1 : auto_checker) : Option Bool :=
  (auto_checker_state K x1 x0).bind fun v_11 =>
  some (!v_11)

def slices_IndexFunc_State_l0 (K : Nat) : Nat → (List api_State) → Int → Int → auto_checker → Option Int
  | 0 => fun _ _ _ _ => none
  | k + 1 => fun x0 x7_0_5 x8_0_6 x1c0 =>
    bif (decide (x8_0_6 < x7_0_5)) then
      (geti x0 x8_0_6).bind fun v_65 =>
      (auto_Right_1 K v_65 x1c0).bind fun v_67 =>
      bif v_67 then
        some x8_0_6
      else
        slices_IndexFunc_State_l0 K k x0 x7_0_5 (IntKind.i64.wrap (x8_0_6 + (1 : Int))) x1c0
    else
      some (-1 : Int)

def slices_IndexFunc_State (K : Nat) (x0 : List api_State) (x1c0 : auto_checker) : Option Int :=
  slices_IndexFunc_State_l0 K K x0 (x0.length : Int) (0 : Int) x1c0

def slices_ContainsFunc_State (K : Nat) (x0 : List api_State) (x1c0 : auto_checker) : Option Bool :=
  (slices_IndexFunc_State K x0 x1c0).bind fun v_10 =>
  some (decide (v_10 ≥ (0 : Int)))

def auto_Right_j0 (K : Nat) : Option Bool :=
    some false

def auto_Right_j2 (K : Nat) : Option Bool :=
    some false

def auto_Right_l1 (K : Nat) : Nat → api_Auto → Int → Int → Option Bool
  | 0 => fun _ _ _ => none
  | k + 1 => fun x0 x46_1_5 x47_1_6 =>
    bif (decide (x47_1_6 < x46_1_5)) then
      (geti x0.Counts x47_1_6).bind fun v_300 =>
      bif (decide ((Arr2.get v_300 (0 : Int)) < (1 : Int))) then
        auto_Right_j2 K
      else
        bif (decide ((Arr2.get v_300 (0 : Int)) > (Arr2.get v_300 (1 : Int)))) then
          auto_Right_j2 K
        else
          bif (decide ((Arr2.get v_300 (1 : Int)) < (2 : Int))) then
            auto_Right_j2 K
          else
            bif (decide ((Arr2.get v_300 (1 : Int)) > (4096 : Int))) then
              auto_Right_j2 K
            else
              auto_Right_l1 K k x0 x46_1_5 (IntKind.i64.wrap (x47_1_6 + (1 : Int)))
    else
      (slices_ContainsFunc_State K x0.States (auto_checker.mk x0)).bind fun v_308 =>
      some (!v_308)

def auto_Right (K : Nat) (x0 : api_Auto) : Option Bool :=
  (split_Right K x0.Split).bind fun v_290 =>
  bif (!v_290) then
    auto_Right_j0 K
  else
    bif (decide ((x0.Counts.length : Int) > (512 : Int))) then
      auto_Right_j0 K
    else
      bif (decide ((x0.States.length : Int) < (1 : Int))) then
        auto_Right_j0 K
      else
        bif (decide ((x0.States.length : Int) > (256 : Int))) then
          auto_Right_j0 K
        else
          (geti x0.States (0 : Int)).bind fun v_296 =>
          bif (decide ((IntKind.i64.wrap ((v_296.L.length : Int) + (v_296.R.length : Int))) > (0 : Int))) then
            auto_Right_j0 K
          else
            auto_Right_l1 K K x0 (x0.Counts.length : Int) (0 : Int)

def slices_Grow_byte (K : Nat) (x1 : Int) : Option (List Int) :=
  bif (decide (x1 < (0 : Int))) then
    none
  else
    bif (decide ((IntKind.i64.wrap (x1 - (IntKind.i64.wrap ((0 : Int) - (0 : Int))))) > (0 : Int))) then
      (ck (0 < (IntKind.i64.wrap (x1 - (IntKind.i64.wrap ((0 : Int) - (0 : Int))))))).bind fun _ =>
      (ck (roomy 1 (Int.toNat (IntKind.i64.wrap (x1 - (IntKind.i64.wrap ((0 : Int) - (0 : Int)))))) = true)).bind fun _ =>
      (ck (0 ≤ (0 : Int) ∧ (Int.toNat (0 : Int)) ≤ (List.replicate (Int.toNat (IntKind.i64.wrap (x1 - (IntKind.i64.wrap ((0 : Int) - (0 : Int)))))) ((0 : Int) : Int)).length)).bind fun _ =>
      some ((List.replicate (Int.toNat (IntKind.i64.wrap (x1 - (IntKind.i64.wrap ((0 : Int) - (0 : Int)))))) ((0 : Int) : Int)).take (Int.toNat (0 : Int)))
    else
      some ([] : List Int)

def slices_Concat_byte_l1 (K : Nat) : Nat → (List (List Int)) → Int → Int → (List Int) → Option (List Int)
  | 0 => fun _ _ _ _ => none
  | k + 1 => fun x0 x26_1_2 x27_1_3 y6_1_0 =>
    bif (decide (x27_1_3 < x26_1_2)) then
      (geti x0 x27_1_3).bind fun v_127 =>
      (ck (roomy 1 (y6_1_0.length + v_127.length) = true)).bind fun _ =>
      slices_Concat_byte_l1 K k x0 x26_1_2 (IntKind.i64.wrap (x27_1_3 + (1 : Int))) (y6_1_0 ++ v_127)
    else
      some y6_1_0

def slices_Concat_byte_l0 (K : Nat) : Nat → (List (List Int)) → Int → Int → Int → Option (List Int)
  | 0 => fun _ _ _ _ => none
  | k + 1 => fun x0 x3_0_1 x10_0_3 x11_0_4 =>
    bif (decide (x11_0_4 < x10_0_3)) then
      (geti x0 x11_0_4).bind fun v_119 =>
      bif (decide ((IntKind.i64.wrap (x3_0_1 + (v_119.length : Int))) < (0 : Int))) then
        none
      else
        slices_Concat_byte_l0 K k x0 (IntKind.i64.wrap (x3_0_1 + (v_119.length : Int))) x10_0_3 (IntKind.i64.wrap (x11_0_4 + (1 : Int)))
    else
      (slices_Grow_byte K x3_0_1).bind fun v_123 =>
      slices_Concat_byte_l1 K K x0 (x0.length : Int) (0 : Int) v_123

def slices_Concat_byte (K : Nat) (x0 : List (List Int)) : Option (List Int) :=
  slices_Concat_byte_l0 K K x0 (0 : Int) (x0.length : Int) (0 : Int)

def slices_Clone_byte (K : Nat) (x0 : List Int) : Option (List Int) :=
  (ck (roomy 1 (([] : List Int).length + x0.length) = true)).bind fun _ =>
  some (([] : List Int) ++ x0)

def table_Number_l0 (K : Nat) : Nat → Int → (List Int) → Option (List Int)
  | 0 => fun _ _ => none
  | k + 1 => fun x1_0_0 y5_0_1 =>
    bif (decide (x1_0_0 ≥ (128 : Int))) then
      (ck (roomy 1 (y5_0_1.length + [(bits .or .u8 (IntKind.u8.wrap x1_0_0) (128 : Int))].length) = true)).bind fun _ =>
      table_Number_l0 K k (Int.fdiv x1_0_0 (2 ^ min (Int.toNat (7 : Int)) IntKind.i64.bits)) (y5_0_1 ++ [(bits .or .u8 (IntKind.u8.wrap x1_0_0) (128 : Int))])
    else
      (ck (roomy 1 (y5_0_1.length + [(IntKind.u8.wrap x1_0_0)].length) = true)).bind fun _ =>
      some (y5_0_1 ++ [(IntKind.u8.wrap x1_0_0)])

def table_Number (K : Nat) (x0 : List Int) (x1 : Int) : Option (List Int) :=
  (slices_Clone_byte K x0).bind fun v_47 =>
  table_Number_l0 K K (if (0 : Int) > x1 then (0 : Int) else x1) v_47

def table_writer_num_l0 (K : Nat) : Nat → (List Int) → Int → Int → (List Int) → Option table_writer
  | 0 => fun _ _ _ _ => none
  | k + 1 => fun x1 x7_0_2 x8_0_3 y0_0_0 =>
    bif (decide (x8_0_3 < x7_0_2)) then
      (geti x1 x8_0_3).bind fun v_58 =>
      (table_Number K y0_0_0 v_58).bind fun v_61 =>
      table_writer_num_l0 K k x1 x7_0_2 (IntKind.i64.wrap (x8_0_3 + (1 : Int))) v_61
    else
      some (table_writer.mk y0_0_0)

def table_writer_num (K : Nat) (x0 : table_writer) (x1 : List Int) : Option table_writer :=
  table_writer_num_l0 K K x1 (x1.length : Int) (0 : Int) x0.b

def table_writer_list (K : Nat) (x0 : table_writer) (x1 : List Int) : Option table_writer :=
  (table_writer_num K x0 [(x1.length : Int)]).bind fun v_19 =>
  (table_writer_num K v_19 x1).bind fun v_22 =>
  some v_22

def table_Encode_l4 (K : Nat) (go3 : api_Auto → Int → Int → (List (List api_Move)) → Int → Int → (List Int) → (List Int) → (List Int) → (List Int) → (List (List api_Move)) → Option ((List Int) × Int)) : Nat → api_Auto → Int → Int → (List (List api_Move)) → Int → Int → (List api_Move) → Int → Int → (List Int) → (List Int) → (List Int) → (List Int) → (List (List api_Move)) → Option ((List Int) × Int)
  | 0 => fun _ _ _ _ _ _ _ _ _ _ _ _ _ _ => none
  | k + 1 => fun x0 x68_2_2 x69_4_7 x74_3_8 x75_3_9 x76_4_10 x90_4_11 x91_4_12 x92_4_13 y4_4_0 y10_3_1 y10_3_2 y10_3_3 y10_3_4 =>
    bif (decide (x92_4_13 < x91_4_12)) then
      (geti x90_4_11 x92_4_13).bind fun v_960 =>
      (table_writer_num K (table_writer.mk y4_4_0) [(IntKind.i64.wrap (v_960.To + (1 : Int)))]).bind fun v_963 =>
      (ck (roomy 1 (v_963.b.length + v_960.Ops.length) = true)).bind fun _ =>
      table_Encode_l4 K go3 k x0 x68_2_2 x69_4_7 x74_3_8 x75_3_9 x76_4_10 x90_4_11 x91_4_12 (IntKind.i64.wrap (x92_4_13 + (1 : Int))) (v_963.b ++ v_960.Ops) y10_3_1 y10_3_2 y10_3_3 y10_3_4
    else
      go3 x0 x68_2_2 x69_4_7 x74_3_8 x75_3_9 (IntKind.i64.wrap (x76_4_10 + (1 : Int))) y4_4_0 y10_3_1 y10_3_2 y10_3_3 y10_3_4

def table_Encode_l3 (K : Nat) (go2 : api_Auto → Int → Int → (List Int) → Option ((List Int) × Int)) : Nat → api_Auto → Int → Int → (List (List api_Move)) → Int → Int → (List Int) → (List Int) → (List Int) → (List Int) → (List (List api_Move)) → Option ((List Int) × Int)
  | 0 => fun _ _ _ _ _ _ _ _ _ _ _ => none
  | k + 1 => fun x0 x68_2_2 x69_3_7 x74_3_8 x75_3_9 x76_3_10 y4_3_0 y10_3_1 y10_3_2 y10_3_3 y10_3_4 =>
    bif (decide (x76_3_10 < x75_3_9)) then
      (geti x74_3_8 x76_3_10).bind fun v_952 =>
      (geti y10_3_3 x76_3_10).bind fun v_954 =>
      (table_writer_num K (table_writer.mk y4_3_0) [(IntKind.i64.wrap (v_954 + (1 : Int)))]).bind fun v_956 =>
      table_Encode_l4 K (table_Encode_l3 K go2 k) K x0 x68_2_2 x69_3_7 x74_3_8 x75_3_9 x76_3_10 v_952 (v_952.length : Int) (0 : Int) v_956.b y10_3_1 y10_3_2 y10_3_3 y10_3_4
    else
      go2 x0 x68_2_2 (IntKind.i64.wrap (x69_3_7 + (1 : Int))) y4_3_0

def table_Encode_l2 (K : Nat) : Nat → api_Auto → Int → Int → (List Int) → Option ((List Int) × Int)
  | 0 => fun _ _ _ _ => none
  | k + 1 => fun x0 x68_2_2 x69_2_3 y4_2_0 =>
    bif (decide (x69_2_3 < x68_2_2)) then
      (geti x0.States x69_2_3).bind fun v_948 =>
      table_Encode_l3 K (table_Encode_l2 K k) K x0 x68_2_2 x69_2_3 v_948.Next (v_948.Next.length : Int) (0 : Int) y4_2_0 v_948.L v_948.R v_948.Rule v_948.Next
    else
      some (y4_2_0, (0 : Int))

def table_Encode_l1 (K : Nat) : Nat → api_Auto → Int → Int → (List Int) → Option ((List Int) × Int)
  | 0 => fun _ _ _ _ => none
  | k + 1 => fun x0 x52_1_6 x53_1_7 y4_1_4 =>
    bif (decide (x53_1_7 < x52_1_6)) then
      (geti x0.States x53_1_7).bind fun v_938 =>
      (table_writer_list K (table_writer.mk y4_1_4) v_938.L).bind fun v_941 =>
      (table_writer_list K v_941 v_938.R).bind fun v_944 =>
      table_Encode_l1 K k x0 x52_1_6 (IntKind.i64.wrap (x53_1_7 + (1 : Int))) v_944.b
    else
      table_Encode_l2 K K x0 (x0.States.length : Int) (0 : Int) y4_1_4

def table_Encode_l0 (K : Nat) : Nat → api_Auto → Int → Int → (List Int) → Option ((List Int) × Int)
  | 0 => fun _ _ _ _ => none
  | k + 1 => fun x0 x35_0_6 x36_0_7 y4_0_4 =>
    bif (decide (x36_0_7 < x35_0_6)) then
      (geti x0.Counts x36_0_7).bind fun v_928 =>
      (table_writer_num K (table_writer.mk y4_0_4) ([v_928.a0, v_928.a1] : List Int)).bind fun v_931 =>
      table_Encode_l0 K k x0 x35_0_6 (IntKind.i64.wrap (x36_0_7 + (1 : Int))) v_931.b
    else
      (table_writer_num K (table_writer.mk y4_0_4) [(x0.States.length : Int)]).bind fun v_934 =>
      table_Encode_l1 K K x0 (x0.States.length : Int) (0 : Int) v_934.b

def table_Encode (K : Nat) (x0 : api_Auto) : Option ((List Int) × Int) :=
  (auto_Right K x0).bind fun v_914 =>
  bif (!v_914) then
    some ([], (1 : Int))
  else
    (slices_Concat_byte K [[(114 : Int), (100 : Int), (100 : Int), (108 : Int)], (ArrN.list 256 x0.Split.Of)]).bind fun v_920 =>
    (table_writer_num K (table_writer.mk v_920) [(x0.Counts.length : Int)]).bind fun v_924 =>
    table_Encode_l0 K K x0 (x0.Counts.length : Int) (0 : Int) v_924.b

def raddleref02_Right_l0 (K : Nat) : Nat → Int → Int → api_Split → Option Bool
  | 0 => fun _ _ _ => none
  | k + 1 => fun x3_0_2 x4_0_3 x0 =>
    bif (decide (x4_0_3 < (256 : Int))) then
      (ck (0 ≤ x4_0_3 ∧ x4_0_3 < 256)).bind fun _ =>
      bif (decide ((IntKind.i64.wrap (ArrN.get x0.Of x4_0_3)) > x3_0_2)) then
        some false
      else
        bif ((IntKind.i64.wrap (ArrN.get x0.Of x4_0_3)) == x3_0_2) then
          raddleref02_Right_l0 K k (IntKind.i64.wrap (x3_0_2 + (1 : Int))) (IntKind.i64.wrap (x4_0_3 + (1 : Int))) x0
        else
          raddleref02_Right_l0 K k x3_0_2 (IntKind.i64.wrap (x4_0_3 + (1 : Int))) x0
    else
      some (x3_0_2 == x0.Many)

def raddleref02_Right (K : Nat) (x0 : api_Split) : Option Bool :=
  raddleref02_Right_l0 K K (0 : Int) (0 : Int) x0

def raddleref11_Codes_j0 (K : Nat) : Option Int :=
    some (0 : Int)

def raddleref11_Codes_l1 (K : Nat) : Nat → Int → Int → Int → Option Int
  | 0 => fun _ _ _ => none
  | k + 1 => fun x0 x3_1_1 x4_1_2 =>
    bif (decide (x4_1_2 < x0)) then
      raddleref11_Codes_l1 K k x0 (IntKind.i64.wrap (x3_1_1 * (3 : Int))) (IntKind.i64.wrap (x4_1_2 + (1 : Int)))
    else
      some x3_1_1

def raddleref11_Codes (K : Nat) (x0 : Int) : Option Int :=
  bif (decide (x0 < (0 : Int))) then
    raddleref11_Codes_j0 K
  else
    bif (decide (x0 > (3 : Int))) then
      raddleref11_Codes_j0 K
    else
      raddleref11_Codes_l1 K K x0 (1 : Int) (0 : Int)

def raddleref11_rises_j1 (K : Nat) : Option Bool :=
    some false

def raddleref11_rises_l0 (K : Nat) : Nat → (List Int) → Int → Int → Option Bool
  | 0 => fun _ _ _ => none
  | k + 1 => fun x0 x1 x5_0_2 =>
    bif (decide (x5_0_2 < (x0.length : Int))) then
      (geti x0 x5_0_2).bind fun v_135 =>
      bif (decide (v_135 < (0 : Int))) then
        raddleref11_rises_j1 K
      else
        bif (decide (v_135 ≥ x1)) then
          raddleref11_rises_j1 K
        else
          bif (decide (x5_0_2 > (0 : Int))) then
            (geti x0 (IntKind.i64.wrap (x5_0_2 - (1 : Int)))).bind fun v_140 =>
            bif (decide (v_140 ≥ v_135)) then
              raddleref11_rises_j1 K
            else
              raddleref11_rises_l0 K k x0 x1 (IntKind.i64.wrap (x5_0_2 + (1 : Int)))
          else
            raddleref11_rises_l0 K k x0 x1 (IntKind.i64.wrap (x5_0_2 + (1 : Int)))
    else
      some true

def raddleref11_rises (K : Nat) (x0 : List Int) (x1 : Int) : Option Bool :=
  raddleref11_rises_l0 K K x0 x1 (0 : Int)

def raddleref11_in_l0 (K : Nat) : Nat → (List Int) → Int → Int → Option Bool
  | 0 => fun _ _ _ => none
  | k + 1 => fun x0 x1 x5_0_2 =>
    bif (decide (x5_0_2 < (x0.length : Int))) then
      (geti x0 x5_0_2).bind fun v_38 =>
      bif (v_38 == x1) then
        some true
      else
        raddleref11_in_l0 K k x0 x1 (IntKind.i64.wrap (x5_0_2 + (1 : Int)))
    else
      some false

def raddleref11_in (K : Nat) (x0 : List Int) (x1 : Int) : Option Bool :=
  raddleref11_in_l0 K K x0 x1 (0 : Int)

def raddleref11_move_j0 (K : Nat) : Option Bool :=
    some false

def raddleref11_move_j2 (K : Nat) : Option Bool :=
    some false

def raddleref11_move_l1 (K : Nat) : Nat → Int → api_Auto → api_State → api_Move → Option Bool
  | 0 => fun _ _ _ _ => none
  | k + 1 => fun x7_1_10 x0 x1 x2 =>
    bif (decide (x7_1_10 < (x2.Ops.length : Int))) then
      (geti x2.Ops x7_1_10).bind fun v_379 =>
      bif (decide (v_379 < (1 : Int))) then
        raddleref11_move_j2 K
      else
        bif (decide (v_379 > (3 : Int))) then
          raddleref11_move_j2 K
        else
          bif (v_379 != (3 : Int)) then
            (geti x0.States x2.To).bind fun v_384 =>
            (geti v_384.R x7_1_10).bind fun v_386 =>
            (raddleref11_in K x1.R v_386).bind fun v_388 =>
            bif (!v_388) then
              raddleref11_move_j2 K
            else
              raddleref11_move_l1 K k (IntKind.i64.wrap (x7_1_10 + (1 : Int))) x0 x1 x2
          else
            raddleref11_move_l1 K k (IntKind.i64.wrap (x7_1_10 + (1 : Int))) x0 x1 x2
    else
      some true

def raddleref11_move (K : Nat) (x0 : api_Auto) (x1 : api_State) (x2 : api_Move) : Option Bool :=
  bif (x2.To == (-1 : Int)) then
    some ((x2.Ops.length : Int) == (0 : Int))
  else
    bif (decide (x2.To < (1 : Int))) then
      raddleref11_move_j0 K
    else
      bif (decide (x2.To ≥ (x0.States.length : Int))) then
        raddleref11_move_j0 K
      else
        (geti x0.States x2.To).bind fun v_363 =>
        bif ((x2.Ops.length : Int) != (v_363.R.length : Int)) then
          raddleref11_move_j0 K
        else
          raddleref11_move_l1 K K (0 : Int) x0 x1 x2

def raddleref11_state_j0 (K : Nat) : Option Bool :=
    some false

def raddleref11_state_j2 (K : Nat) : Option Bool :=
    some false

def raddleref11_state_l3 (K : Nat) (go1 : Int → Int → api_Auto → api_State → Option Bool) : Nat → Int → Int → Int → api_State → Int → Int → Int → Bool → Int → (List api_Move) → (List api_Move) → Int → api_Auto → Bool → Option Bool
  | 0 => fun _ _ _ _ _ _ _ _ _ _ _ _ _ _ => none
  | k + 1 => fun x5_1_8 x6_3_9 x7_3_10 x1 x57_3_12 x58_3_13 x59_3_14 x60_3_15 x65_3_17 x66_3_18 x67_3_19 x68_3_20 x0 x72_3_22 =>
    (geti x1.Next x6_3_9).bind fun v_688 =>
    bif (decide (x7_3_10 < (v_688.length : Int))) then
      (geti v_688 x7_3_10).bind fun v_696 =>
      (raddleref11_move K x0 x1 v_696).bind fun v_698 =>
      bif (!v_698) then
        some false
      else
        raddleref11_state_l3 K go1 k x5_1_8 x6_3_9 (IntKind.i64.wrap (x7_3_10 + (1 : Int))) x1 x57_3_12 x58_3_13 x59_3_14 x60_3_15 x65_3_17 x66_3_18 x67_3_19 x68_3_20 x0 x72_3_22
    else
      go1 x5_1_8 (IntKind.i64.wrap (x6_3_9 + (1 : Int))) x0 x1

def raddleref11_state_l1 (K : Nat) : Nat → Int → Int → api_Auto → api_State → Option Bool
  | 0 => fun _ _ _ _ => none
  | k + 1 => fun x5_1_8 x6_1_9 x0 x1 =>
    bif (decide (x6_1_9 < x5_1_8)) then
      (geti x1.Rule x6_1_9).bind fun v_681 =>
      bif (decide (v_681 < (-1 : Int))) then
        raddleref11_state_j2 K
      else
        bif (decide (v_681 ≥ (512 : Int))) then
          raddleref11_state_j2 K
        else
          (geti x1.Next x6_1_9).bind fun v_685 =>
          bif ((v_685.length : Int) != x0.Split.Many) then
            raddleref11_state_j2 K
          else
            raddleref11_state_l3 K (raddleref11_state_l1 K k) K x5_1_8 x6_1_9 (0 : Int) x1 x6_1_9 v_681 v_681 (decide (v_681 ≥ (512 : Int))) x6_1_9 v_685 v_685 (v_685.length : Int) x0 ((v_685.length : Int) != x0.Split.Many)
    else
      some true

def raddleref11_state (K : Nat) (x0 : api_Auto) (x1 : api_State) : Option Bool :=
  (raddleref11_Codes K (x1.R.length : Int)).bind fun v_662 =>
  bif (v_662 == (0 : Int)) then
    raddleref11_state_j0 K
  else
    (raddleref11_rises K x1.L (512 : Int)).bind fun v_665 =>
    bif (!v_665) then
      raddleref11_state_j0 K
    else
      (raddleref11_rises K x1.R (x0.Counts.length : Int)).bind fun v_668 =>
      bif (!v_668) then
        raddleref11_state_j0 K
      else
        bif ((x1.Rule.length : Int) != v_662) then
          raddleref11_state_j0 K
        else
          bif ((x1.Next.length : Int) != v_662) then
            raddleref11_state_j0 K
          else
            raddleref11_state_l1 K K v_662 (0 : Int) x0 x1

def raddleref11_Right_j0 (K : Nat) : Option Bool :=
    some false

def raddleref11_Right_j2 (K : Nat) : Option Bool :=
    some false

def raddleref11_Right_l3 (K : Nat) : Nat → Int → api_Auto → Option Bool
  | 0 => fun _ _ => none
  | k + 1 => fun x5_3_4 x0 =>
    bif (decide (x5_3_4 < (x0.States.length : Int))) then
      (geti x0.States x5_3_4).bind fun v_296 =>
      (raddleref11_state K x0 v_296).bind fun v_298 =>
      bif (!v_298) then
        some false
      else
        raddleref11_Right_l3 K k (IntKind.i64.wrap (x5_3_4 + (1 : Int))) x0
    else
      some true

def raddleref11_Right_l1 (K : Nat) : Nat → Int → api_Auto → Option Bool
  | 0 => fun _ _ => none
  | k + 1 => fun x3_1_4 x0 =>
    bif (decide (x3_1_4 < (x0.Counts.length : Int))) then
      (geti x0.Counts x3_1_4).bind fun v_283 =>
      bif (decide ((Arr2.get v_283 (0 : Int)) < (1 : Int))) then
        raddleref11_Right_j2 K
      else
        bif (decide ((Arr2.get v_283 (0 : Int)) > (Arr2.get v_283 (1 : Int)))) then
          raddleref11_Right_j2 K
        else
          bif (decide ((Arr2.get v_283 (1 : Int)) < (2 : Int))) then
            raddleref11_Right_j2 K
          else
            bif (decide ((Arr2.get v_283 (1 : Int)) > (4096 : Int))) then
              raddleref11_Right_j2 K
            else
              raddleref11_Right_l1 K k (IntKind.i64.wrap (x3_1_4 + (1 : Int))) x0
    else
      raddleref11_Right_l3 K K (0 : Int) x0

def raddleref11_Right (K : Nat) (x0 : api_Auto) : Option Bool :=
  (raddleref02_Right K x0.Split).bind fun v_272 =>
  bif (!v_272) then
    raddleref11_Right_j0 K
  else
    bif (decide ((x0.Counts.length : Int) > (512 : Int))) then
      raddleref11_Right_j0 K
    else
      bif (decide ((x0.States.length : Int) < (1 : Int))) then
        raddleref11_Right_j0 K
      else
        bif (decide ((x0.States.length : Int) > (256 : Int))) then
          raddleref11_Right_j0 K
        else
          (geti x0.States (0 : Int)).bind fun v_278 =>
          bif (decide ((v_278.L.length : Int) > (0 : Int))) then
            raddleref11_Right_j0 K
          else
            bif (decide ((v_278.R.length : Int) > (0 : Int))) then
              raddleref11_Right_j0 K
            else
              raddleref11_Right_l1 K K (0 : Int) x0

def raddleref14_Number_l0 (K : Nat) : Nat → Int → (List Int) → Option (List Int)
  | 0 => fun _ _ => none
  | k + 1 => fun x1_0_0 y5_0_1 =>
    bif (decide (x1_0_0 > (127 : Int))) then
      (ck (roomy 1 (y5_0_1.length + [(IntKind.u8.wrap ((IntKind.u8.wrap (Int.tmod x1_0_0 (128 : Int))) + (128 : Int)))].length) = true)).bind fun _ =>
      raddleref14_Number_l0 K k (IntKind.i64.wrap (Int.tdiv x1_0_0 (128 : Int))) (y5_0_1 ++ [(IntKind.u8.wrap ((IntKind.u8.wrap (Int.tmod x1_0_0 (128 : Int))) + (128 : Int)))])
    else
      (ck (roomy 1 (y5_0_1.length + [(IntKind.u8.wrap x1_0_0)].length) = true)).bind fun _ =>
      some (y5_0_1 ++ [(IntKind.u8.wrap x1_0_0)])

def raddleref14_Number (K : Nat) (x0 : List Int) (x1 : Int) : Option (List Int) :=
  (ck (roomy 1 (([] : List Int).length + x0.length) = true)).bind fun _ =>
  raddleref14_Number_l0 K K (if (0 : Int) > x1 then (0 : Int) else x1) (([] : List Int) ++ x0)

def raddleref14_writer_num (K : Nat) (x0 : raddleref14_writer) (x1 : Int) : Option raddleref14_writer :=
  (raddleref14_Number K ([] : List Int) x1).bind fun v_20 =>
  (ck (roomy 1 (x0.b.length + v_20.length) = true)).bind fun _ =>
  some (raddleref14_writer.mk (x0.b ++ v_20))

def raddleref14_writer_list_l0 (K : Nat) : Nat → (List Int) → Int → (List Int) → Option raddleref14_writer
  | 0 => fun _ _ _ => none
  | k + 1 => fun x1 x4_0_2 y0_0_0 =>
    bif (decide (x4_0_2 < (x1.length : Int))) then
      (geti x1 x4_0_2).bind fun v_77 =>
      (raddleref14_writer_num K (raddleref14_writer.mk y0_0_0) v_77).bind fun v_79 =>
      raddleref14_writer_list_l0 K k x1 (IntKind.i64.wrap (x4_0_2 + (1 : Int))) v_79.b
    else
      some (raddleref14_writer.mk y0_0_0)

def raddleref14_writer_list (K : Nat) (x0 : raddleref14_writer) (x1 : List Int) : Option raddleref14_writer :=
  (raddleref14_writer_num K x0 (x1.length : Int)).bind fun v_73 =>
  raddleref14_writer_list_l0 K K x1 (0 : Int) v_73.b

def raddleref14_Encode_l5 (K : Nat) (go4 : Int → Int → api_Auto → (List Int) → (List Int) → (List Int) → (List Int) → (List (List api_Move)) → Option ((List Int) × Int)) : Nat → Int → Int → Int → api_Auto → (List Int) → (List Int) → (List Int) → (List Int) → (List (List api_Move)) → Option ((List Int) × Int)
  | 0 => fun _ _ _ _ _ _ _ _ _ => none
  | k + 1 => fun x8_5_5 x10_5_10 x11_5_11 x0 y4_5_4 y9_4_6 y9_4_7 y9_4_8 y9_4_9 =>
    (geti y9_4_9 x10_5_10).bind fun v_1068 =>
    bif (decide (x11_5_11 < (v_1068.length : Int))) then
      (geti v_1068 x11_5_11).bind fun v_1071 =>
      (raddleref14_writer_num K (raddleref14_writer.mk y4_5_4) (IntKind.i64.wrap (v_1071.To + (1 : Int)))).bind fun v_1073 =>
      (ck (roomy 1 (v_1073.b.length + v_1071.Ops.length) = true)).bind fun _ =>
      raddleref14_Encode_l5 K go4 k x8_5_5 x10_5_10 (IntKind.i64.wrap (x11_5_11 + (1 : Int))) x0 (v_1073.b ++ v_1071.Ops) y9_4_6 y9_4_7 y9_4_8 y9_4_9
    else
      go4 x8_5_5 (IntKind.i64.wrap (x10_5_10 + (1 : Int))) x0 y4_5_4 y9_4_6 y9_4_7 y9_4_8 y9_4_9

def raddleref14_Encode_l4 (K : Nat) (go3 : Int → api_Auto → (List Int) → Option ((List Int) × Int)) : Nat → Int → Int → api_Auto → (List Int) → (List Int) → (List Int) → (List Int) → (List (List api_Move)) → Option ((List Int) × Int)
  | 0 => fun _ _ _ _ _ _ _ _ => none
  | k + 1 => fun x8_4_5 x10_4_10 x0 y4_4_4 y9_4_6 y9_4_7 y9_4_8 y9_4_9 =>
    bif (decide (x10_4_10 < (y9_4_8.length : Int))) then
      (geti y9_4_8 x10_4_10).bind fun v_1063 =>
      (raddleref14_writer_num K (raddleref14_writer.mk y4_4_4) (IntKind.i64.wrap (v_1063 + (1 : Int)))).bind fun v_1065 =>
      raddleref14_Encode_l5 K (raddleref14_Encode_l4 K go3 k) K x8_4_5 x10_4_10 (0 : Int) x0 v_1065.b y9_4_6 y9_4_7 y9_4_8 y9_4_9
    else
      go3 (IntKind.i64.wrap (x8_4_5 + (1 : Int))) x0 y4_4_4

def raddleref14_Encode_l3 (K : Nat) : Nat → Int → api_Auto → (List Int) → Option ((List Int) × Int)
  | 0 => fun _ _ _ => none
  | k + 1 => fun x8_3_5 x0 y4_3_4 =>
    bif (decide (x8_3_5 < (x0.States.length : Int))) then
      (geti x0.States x8_3_5).bind fun v_1059 =>
      raddleref14_Encode_l4 K (raddleref14_Encode_l3 K k) K x8_3_5 (0 : Int) x0 y4_3_4 v_1059.L v_1059.R v_1059.Rule v_1059.Next
    else
      some (y4_3_4, (0 : Int))

def raddleref14_Encode_l2 (K : Nat) : Nat → Int → api_Auto → (List Int) → Option ((List Int) × Int)
  | 0 => fun _ _ _ => none
  | k + 1 => fun x7_2_5 x0 y4_2_4 =>
    bif (decide (x7_2_5 < (x0.States.length : Int))) then
      (geti x0.States x7_2_5).bind fun v_1050 =>
      (raddleref14_writer_list K (raddleref14_writer.mk y4_2_4) v_1050.L).bind fun v_1052 =>
      (raddleref14_writer_list K v_1052 v_1050.R).bind fun v_1055 =>
      raddleref14_Encode_l2 K k (IntKind.i64.wrap (x7_2_5 + (1 : Int))) x0 v_1055.b
    else
      raddleref14_Encode_l3 K K (0 : Int) x0 y4_2_4

def raddleref14_Encode_l1 (K : Nat) : Nat → Int → api_Auto → (List Int) → Option ((List Int) × Int)
  | 0 => fun _ _ _ => none
  | k + 1 => fun x6_1_5 x0 y4_1_4 =>
    bif (decide (x6_1_5 < (x0.Counts.length : Int))) then
      (geti x0.Counts x6_1_5).bind fun v_1038 =>
      (raddleref14_writer_num K (raddleref14_writer.mk y4_1_4) v_1038.a0).bind fun v_1040 =>
      (raddleref14_writer_num K v_1040 v_1038.a1).bind fun v_1043 =>
      raddleref14_Encode_l1 K k (IntKind.i64.wrap (x6_1_5 + (1 : Int))) x0 v_1043.b
    else
      (raddleref14_writer_num K (raddleref14_writer.mk y4_1_4) (x0.States.length : Int)).bind fun v_1046 =>
      raddleref14_Encode_l2 K K (0 : Int) x0 v_1046.b

def raddleref14_Encode_l0 (K : Nat) : Nat → Int → api_Auto → (List Int) → Option ((List Int) × Int)
  | 0 => fun _ _ _ => none
  | k + 1 => fun x5_0_5 x0 y4_0_4 =>
    bif (decide (x5_0_5 < (256 : Int))) then
      (ck (0 ≤ x5_0_5 ∧ x5_0_5 < 256)).bind fun _ =>
      (ck (roomy 1 (y4_0_4.length + [(ArrN.get x0.Split.Of x5_0_5)].length) = true)).bind fun _ =>
      raddleref14_Encode_l0 K k (IntKind.i64.wrap (x5_0_5 + (1 : Int))) x0 (y4_0_4 ++ [(ArrN.get x0.Split.Of x5_0_5)])
    else
      (raddleref14_writer_num K (raddleref14_writer.mk y4_0_4) (x0.Counts.length : Int)).bind fun v_1034 =>
      raddleref14_Encode_l1 K K (0 : Int) x0 v_1034.b

def raddleref14_Encode (K : Nat) (x0 : api_Auto) : Option ((List Int) × Int) :=
  (raddleref11_Right K x0).bind fun v_1020 =>
  bif (!v_1020) then
    some ([], (1 : Int))
  else
    raddleref14_Encode_l0 K K (0 : Int) x0 [(114 : Int), (100 : Int), (100 : Int), (108 : Int)]

def raddleref09_rises_j1 (K : Nat) : Option Bool :=
    some false

def raddleref09_rises_l0 (K : Nat) : Nat → (List Int) → Int → Int → Option Bool
  | 0 => fun _ _ _ => none
  | k + 1 => fun x0 x1 x5_0_2 =>
    bif (decide (x5_0_2 < (x0.length : Int))) then
      (geti x0 x5_0_2).bind fun v_135 =>
      bif (decide (v_135 < (0 : Int))) then
        raddleref09_rises_j1 K
      else
        bif (decide (v_135 ≥ x1)) then
          raddleref09_rises_j1 K
        else
          bif (decide (x5_0_2 > (0 : Int))) then
            (geti x0 (IntKind.i64.wrap (x5_0_2 - (1 : Int)))).bind fun v_140 =>
            bif (decide (v_140 ≥ v_135)) then
              raddleref09_rises_j1 K
            else
              raddleref09_rises_l0 K k x0 x1 (IntKind.i64.wrap (x5_0_2 + (1 : Int)))
          else
            raddleref09_rises_l0 K k x0 x1 (IntKind.i64.wrap (x5_0_2 + (1 : Int)))
    else
      some true

def raddleref09_rises (K : Nat) (x0 : List Int) (x1 : Int) : Option Bool :=
  raddleref09_rises_l0 K K x0 x1 (0 : Int)

def raddleref09_Right_j0 (K : Nat) : Option Bool :=
    some false

def raddleref09_Right_j2 (K : Nat) : Option Bool :=
    some false

def raddleref09_Right_l1 (K : Nat) : Nat → Int → api_Glush → Option Bool
  | 0 => fun _ _ => none
  | k + 1 => fun x3_1_2 x0 =>
    bif (decide (x3_1_2 < (x0.P.length : Int))) then
      (geti x0.P x3_1_2).bind fun v_169 =>
      bif (Arr4.same v_169.S (Arr4.mk 0 0 0 0)) then
        raddleref09_Right_j2 K
      else
        bif (decide (v_169.Lo < (1 : Int))) then
          raddleref09_Right_j2 K
        else
          bif (decide (v_169.Lo > v_169.Hi)) then
            raddleref09_Right_j2 K
          else
            bif (decide (v_169.Hi > (4096 : Int))) then
              raddleref09_Right_j2 K
            else
              bif (decide (v_169.Rule < (0 : Int))) then
                raddleref09_Right_j2 K
              else
                bif (decide (v_169.Rule ≥ (512 : Int))) then
                  raddleref09_Right_j2 K
                else
                  (raddleref09_rises K v_169.Next (x0.P.length : Int)).bind fun v_178 =>
                  bif (!v_178) then
                    raddleref09_Right_j2 K
                  else
                    raddleref09_Right_l1 K k (IntKind.i64.wrap (x3_1_2 + (1 : Int))) x0
    else
      some true

def raddleref09_Right (K : Nat) (x0 : api_Glush) : Option Bool :=
  bif (decide ((x0.P.length : Int) > (512 : Int))) then
    raddleref09_Right_j0 K
  else
    (raddleref09_rises K x0.First (x0.P.length : Int)).bind fun v_165 =>
    bif (!v_165) then
      raddleref09_Right_j0 K
    else
      raddleref09_Right_l1 K K (0 : Int) x0

def raddleref01_Has (K : Nat) (x0 : Arr4) (x1 : Int) : Option Bool :=
  (ck (0 ≤ (IntKind.u8.wrap (Int.tdiv x1 (64 : Int))) ∧ (IntKind.u8.wrap (Int.tdiv x1 (64 : Int))) < 4)).bind fun _ =>
  (ck (0 ≤ (Int.tmod x1 (64 : Int)))).bind fun _ =>
  some ((Int.tmod (Int.fdiv (Arr4.get x0 (IntKind.u8.wrap (Int.tdiv x1 (64 : Int)))) (2 ^ min (Int.toNat (Int.tmod x1 (64 : Int))) IntKind.u64.bits)) (2 : Int)) == (1 : Int))

def raddleref02_alike_l0 (K : Nat) : Nat → (List Arr4) → Int → Int → Int → Option Bool
  | 0 => fun _ _ _ _ => none
  | k + 1 => fun x0 x1 x2 x7_0_3 =>
    bif (decide (x7_0_3 < (x0.length : Int))) then
      (geti x0 x7_0_3).bind fun v_144 =>
      (raddleref01_Has K v_144 x1).bind fun v_146 =>
      (raddleref01_Has K v_144 x2).bind fun v_148 =>
      bif (!(v_146 == v_148)) then
        some false
      else
        raddleref02_alike_l0 K k x0 x1 x2 (IntKind.i64.wrap (x7_0_3 + (1 : Int)))
    else
      some true

def raddleref02_alike (K : Nat) (x0 : List Arr4) (x1 : Int) (x2 : Int) : Option Bool :=
  raddleref02_alike_l0 K K x0 x1 x2 (0 : Int)

def raddleref02_Of_j2 (K : Nat) (go0 : (List Arr4) → Int → ArrN → ArrN → (List Int) → Option api_Split) (x0 : List Arr4) (x5_2_6 : Int) (x6_2_7 : Int) (y2_0_1 : ArrN) (y3_0_3 : ArrN) (y4_2_5 : List Int) : Option api_Split :=
    (ck (0 ≤ x5_2_6 ∧ x5_2_6 < 256)).bind fun _ =>
    go0 x0 (IntKind.i64.wrap (x5_2_6 + (1 : Int))) y2_0_1 (ArrN.set y3_0_3 x5_2_6 (IntKind.u8.wrap x6_2_7)) y4_2_5

def raddleref02_Of_l1 (K : Nat) (go0 : (List Arr4) → Int → ArrN → ArrN → (List Int) → Option api_Split) : Nat → (List Arr4) → Int → Int → ArrN → ArrN → (List Int) → Option api_Split
  | 0 => fun _ _ _ _ _ _ => none
  | k + 1 => fun x0 x5_1_6 x6_1_7 y2_0_1 y3_0_3 y4_1_5 =>
    bif (decide (x6_1_7 < (y4_1_5.length : Int))) then
      (geti y4_1_5 x6_1_7).bind fun v_169 =>
      (raddleref02_alike K x0 v_169 (IntKind.u8.wrap x5_1_6)).bind fun v_171 =>
      bif (!v_171) then
        raddleref02_Of_l1 K go0 k x0 x5_1_6 (IntKind.i64.wrap (x6_1_7 + (1 : Int))) y2_0_1 y3_0_3 y4_1_5
      else
        bif (x6_1_7 == (y4_1_5.length : Int)) then
          (ck (roomy 1 (y4_1_5.length + [(IntKind.u8.wrap x5_1_6)].length) = true)).bind fun _ =>
          raddleref02_Of_j2 K go0 x0 x5_1_6 x6_1_7 y2_0_1 y3_0_3 (y4_1_5 ++ [(IntKind.u8.wrap x5_1_6)])
        else
          raddleref02_Of_j2 K go0 x0 x5_1_6 x6_1_7 y2_0_1 y3_0_3 y4_1_5
    else
      bif (x6_1_7 == (y4_1_5.length : Int)) then
        (ck (roomy 1 (y4_1_5.length + [(IntKind.u8.wrap x5_1_6)].length) = true)).bind fun _ =>
        raddleref02_Of_j2 K go0 x0 x5_1_6 x6_1_7 y2_0_1 y3_0_3 (y4_1_5 ++ [(IntKind.u8.wrap x5_1_6)])
      else
        raddleref02_Of_j2 K go0 x0 x5_1_6 x6_1_7 y2_0_1 y3_0_3 y4_1_5

def raddleref02_Of_l0 (K : Nat) : Nat → (List Arr4) → Int → ArrN → ArrN → (List Int) → Option api_Split
  | 0 => fun _ _ _ _ _ => none
  | k + 1 => fun x0 x5_0_6 y2_0_1 y3_0_3 y4_0_5 =>
    bif (decide (x5_0_6 < (256 : Int))) then
      raddleref02_Of_l1 K (raddleref02_Of_l0 K k) K x0 x5_0_6 (0 : Int) y2_0_1 y3_0_3 y4_0_5
    else
      some (api_Split.mk y3_0_3 (y4_0_5.length : Int))

def raddleref02_Of (K : Nat) (x0 : List Arr4) : Option api_Split :=
  raddleref02_Of_l0 K K x0 (0 : Int) (ArrN.mk fun _ => 0) (ArrN.mk fun _ => 0) []

def raddleref11_builder_digit_l0 (K : Nat) : Nat → Int → Int → Int → raddleref11_builder → api_State → Option Int
  | 0 => fun _ _ _ _ _ => none
  | k + 1 => fun x2_0_8 x3 x9_0_14 x0 x1 =>
    bif (decide (x9_0_14 < (x1.R.length : Int))) then
      (geti x1.R x9_0_14).bind fun v_128 =>
      (geti x0.number x3).bind fun v_130 =>
      bif (v_128 == v_130) then
        some (Int.tmod x2_0_8 (3 : Int))
      else
        raddleref11_builder_digit_l0 K k (IntKind.i64.wrap (Int.tdiv x2_0_8 (3 : Int))) x3 (IntKind.i64.wrap (x9_0_14 + (1 : Int))) x0 x1
    else
      some (-1 : Int)

def raddleref11_builder_digit (K : Nat) (x0 : raddleref11_builder) (x1 : api_State) (x2 : Int) (x3 : Int) : Option Int :=
  raddleref11_builder_digit_l0 K K x2 x3 (0 : Int) x0 x1

def raddleref11_builder_ripe (K : Nat) (x0 : raddleref11_builder) (x1 : api_State) (x2 : Int) (x3 : Int) : Option Bool :=
  (raddleref11_builder_digit K x0 x1 x2 x3).bind fun v_14 =>
  some (v_14 != (0 : Int))

def raddleref11_builder_rule_j1 (K : Nat) (go0 : Int → Int → Int → raddleref11_builder → api_State → Option Int) (x2 : Int) (x8_1_13 : Int) (x1 : api_State) (x37_1_26 : Int) (x38_1_27 : Int) (x39_1_28 : Int) (x40_1_29 : Bool) (x43_1_30 : Int) (x44_1_31 : Bool) (x45_1_32 : Bool) (x50_1_33 : Bool) (x0 : raddleref11_builder) (y9_1_14 : Arr4) (y9_1_15 : Int) (y9_1_16 : Int) (y9_1_17 : Int) (y9_1_18 : Bool) (y9_1_19 : List Int) : Option Int :=
    go0 x2 y9_1_17 (IntKind.i64.wrap (x8_1_13 + (1 : Int))) x0 x1

def raddleref11_builder_rule_l0 (K : Nat) : Nat → Int → Int → Int → raddleref11_builder → api_State → Option Int
  | 0 => fun _ _ _ _ _ => none
  | k + 1 => fun x2 x7_0_13 x8_0_14 x0 x1 =>
    bif (decide (x8_0_14 < (x1.L.length : Int))) then
      (geti x1.L x8_0_14).bind fun v_237 =>
      (geti x0.g.P v_237).bind fun v_239 =>
      bif v_239.Last then
        (raddleref11_builder_ripe K x0 x1 x2 v_237).bind fun v_248 =>
        bif v_248 then
          bif (decide (x7_0_13 < (0 : Int))) then
            raddleref11_builder_rule_j1 K (raddleref11_builder_rule_l0 K k) x2 x8_0_14 x1 x8_0_14 v_237 v_237 v_248 x7_0_13 (decide (x7_0_13 < (0 : Int))) (decide (x7_0_13 < (0 : Int))) true x0 v_239.S v_239.Lo v_239.Hi v_239.Rule v_239.Last v_239.Next
          else
            bif (decide (v_239.Rule < x7_0_13)) then
              raddleref11_builder_rule_j1 K (raddleref11_builder_rule_l0 K k) x2 x8_0_14 x1 x8_0_14 v_237 v_237 v_248 x7_0_13 (decide (x7_0_13 < (0 : Int))) (decide (x7_0_13 < (0 : Int))) (decide (v_239.Rule < x7_0_13)) x0 v_239.S v_239.Lo v_239.Hi v_239.Rule v_239.Last v_239.Next
            else
              raddleref11_builder_rule_l0 K k x2 x7_0_13 (IntKind.i64.wrap (x8_0_14 + (1 : Int))) x0 x1
        else
          raddleref11_builder_rule_l0 K k x2 x7_0_13 (IntKind.i64.wrap (x8_0_14 + (1 : Int))) x0 x1
      else
        raddleref11_builder_rule_l0 K k x2 x7_0_13 (IntKind.i64.wrap (x8_0_14 + (1 : Int))) x0 x1
    else
      some x7_0_13

def raddleref11_builder_rule (K : Nat) (x0 : raddleref11_builder) (x1 : api_State) (x2 : Int) : Option Int :=
  raddleref11_builder_rule_l0 K K x2 (-1 : Int) (0 : Int) x0 x1

def raddleref01_with (K : Nat) (x0 : Arr4) (x1 : Int) : Option Arr4 :=
  (raddleref01_Has K x0 x1).bind fun v_31 =>
  bif (!v_31) then
    (ck (0 ≤ (IntKind.u8.wrap (Int.tdiv x1 (64 : Int))) ∧ (IntKind.u8.wrap (Int.tdiv x1 (64 : Int))) < 4)).bind fun _ =>
    (ck (0 ≤ (Int.tmod x1 (64 : Int)))).bind fun _ =>
    some (Arr4.set x0 (IntKind.u8.wrap (Int.tdiv x1 (64 : Int))) (IntKind.u64.wrap ((Arr4.get x0 (IntKind.u8.wrap (Int.tdiv x1 (64 : Int)))) + (IntKind.u64.wrap ((1 : Int) * 2 ^ min (Int.toNat (Int.tmod x1 (64 : Int))) IntKind.u64.bits)))))
  else
    some x0

def raddleref01_Of_l0 (K : Nat) : Nat → (List Int) → Int → Arr4 → Arr4 → Option Arr4
  | 0 => fun _ _ _ _ => none
  | k + 1 => fun x0 x4_0_3 y2_0_1 y3_0_2 =>
    bif (decide (x4_0_3 < (x0.length : Int))) then
      (geti x0 x4_0_3).bind fun v_105 =>
      (raddleref01_with K y3_0_2 v_105).bind fun v_107 =>
      raddleref01_Of_l0 K k x0 (IntKind.i64.wrap (x4_0_3 + (1 : Int))) y2_0_1 v_107
    else
      some y3_0_2

def raddleref01_Of (K : Nat) (x0 : List Int) : Option Arr4 :=
  raddleref01_Of_l0 K K x0 (0 : Int) (Arr4.mk 0 0 0 0) (Arr4.mk 0 0 0 0)

def raddleref02_Set_l0 (K : Nat) : Nat → Int → Int → api_Split → Arr4 → (List Int) → Option Arr4
  | 0 => fun _ _ _ _ _ => none
  | k + 1 => fun x1 x6_0_5 x0 y4_0_3 y5_0_4 =>
    bif (decide (x6_0_5 < (256 : Int))) then
      (ck (0 ≤ x6_0_5 ∧ x6_0_5 < 256)).bind fun _ =>
      bif ((IntKind.i64.wrap (ArrN.get x0.Of x6_0_5)) == x1) then
        (ck (roomy 1 (y5_0_4.length + [(IntKind.u8.wrap x6_0_5)].length) = true)).bind fun _ =>
        raddleref02_Set_l0 K k x1 (IntKind.i64.wrap (x6_0_5 + (1 : Int))) x0 y4_0_3 (y5_0_4 ++ [(IntKind.u8.wrap x6_0_5)])
      else
        raddleref02_Set_l0 K k x1 (IntKind.i64.wrap (x6_0_5 + (1 : Int))) x0 y4_0_3 y5_0_4
    else
      (raddleref01_Of K y5_0_4).bind fun v_79 =>
      some v_79

def raddleref02_Set (K : Nat) (x0 : api_Split) (x1 : Int) : Option Arr4 :=
  raddleref02_Set_l0 K K x1 (0 : Int) x0 (Arr4.mk 0 0 0 0) []

def raddleref01_List_l0 (K : Nat) : Nat → Int → Arr4 → (List Int) → Option (List Int)
  | 0 => fun _ _ _ => none
  | k + 1 => fun x4_0_2 x0 y3_0_1 =>
    bif (decide (x4_0_2 < (256 : Int))) then
      (raddleref01_Has K x0 (IntKind.u8.wrap x4_0_2)).bind fun v_64 =>
      bif v_64 then
        (ck (roomy 1 (y3_0_1.length + [(IntKind.u8.wrap x4_0_2)].length) = true)).bind fun _ =>
        raddleref01_List_l0 K k (IntKind.i64.wrap (x4_0_2 + (1 : Int))) x0 (y3_0_1 ++ [(IntKind.u8.wrap x4_0_2)])
      else
        raddleref01_List_l0 K k (IntKind.i64.wrap (x4_0_2 + (1 : Int))) x0 y3_0_1
    else
      some y3_0_1

def raddleref01_List (K : Nat) (x0 : Arr4) : Option (List Int) :=
  raddleref01_List_l0 K K (0 : Int) x0 []

def raddleref02_First_j0 (K : Nat) : Option (List Int) :=
    some []

def raddleref02_First_l1 (K : Nat) : Nat → Int → api_Split → (List Int) → Option (List Int)
  | 0 => fun _ _ _ => none
  | k + 1 => fun x4_1_3 x0 y3_1_2 =>
    bif (decide (x4_1_3 < x0.Many)) then
      (raddleref02_Set K x0 x4_1_3).bind fun v_140 =>
      (raddleref01_List K v_140).bind fun v_142 =>
      bif ((v_142.length : Int) == (0 : Int)) then
        (ck (roomy 1 (y3_1_2.length + [(0 : Int)].length) = true)).bind fun _ =>
        raddleref02_First_l1 K k (IntKind.i64.wrap (x4_1_3 + (1 : Int))) x0 (y3_1_2 ++ [(0 : Int)])
      else
        (geti v_142 (0 : Int)).bind fun v_147 =>
        (ck (roomy 1 (y3_1_2.length + [v_147].length) = true)).bind fun _ =>
        raddleref02_First_l1 K k (IntKind.i64.wrap (x4_1_3 + (1 : Int))) x0 (y3_1_2 ++ [v_147])
    else
      some y3_1_2

def raddleref02_First (K : Nat) (x0 : api_Split) : Option (List Int) :=
  bif (decide (x0.Many < (1 : Int))) then
    raddleref02_First_j0 K
  else
    bif (decide (x0.Many > (256 : Int))) then
      raddleref02_First_j0 K
    else
      raddleref02_First_l1 K K (0 : Int) x0 []

def raddleref11_builder_enters_l0 (K : Nat) : Nat → Int → Int → Int → raddleref11_builder → api_State → Option Bool
  | 0 => fun _ _ _ _ _ => none
  | k + 1 => fun x3 x4 x11_0_14 x0 x2 =>
    bif (decide (x11_0_14 < (x2.L.length : Int))) then
      (geti x2.L x11_0_14).bind fun v_241 =>
      (raddleref11_builder_ripe K x0 x2 x3 v_241).bind fun v_243 =>
      bif v_243 then
        (geti x0.g.P v_241).bind fun v_246 =>
        (raddleref11_in K v_246.Next x4).bind fun v_248 =>
        bif v_248 then
          some true
        else
          raddleref11_builder_enters_l0 K k x3 x4 (IntKind.i64.wrap (x11_0_14 + (1 : Int))) x0 x2
      else
        raddleref11_builder_enters_l0 K k x3 x4 (IntKind.i64.wrap (x11_0_14 + (1 : Int))) x0 x2
    else
      some false

def raddleref11_builder_enters (K : Nat) (x0 : raddleref11_builder) (x1 : Int) (x2 : api_State) (x3 : Int) (x4 : Int) : Option Bool :=
  bif (x1 == (0 : Int)) then
    (raddleref11_in K x0.g.First x4).bind fun v_228 =>
    some v_228
  else
    raddleref11_builder_enters_l0 K K x3 x4 (0 : Int) x0 x2

def raddleref11_builder_stays (K : Nat) (x0 : raddleref11_builder) (x1 : api_State) (x2 : Int) (x3 : Int) : Option Bool :=
  (raddleref11_builder_digit K x0 x1 x2 x3).bind fun v_34 =>
  (raddleref11_in K x1.L x3).bind fun v_37 =>
  bif v_37 then
    bif (v_34 == (0 : Int)) then
      some true
    else
      some (v_34 == (2 : Int))
  else
    some false

def raddleref11_builder_find_l1 (K : Nat) (go0 : (List Int) → Int → raddleref11_builder → Option (Int × raddleref11_builder)) : Nat → (List Int) → Int → (List Int) → Bool → Int → raddleref11_builder → Option (Int × raddleref11_builder)
  | 0 => fun _ _ _ _ _ _ => none
  | k + 1 => fun x1 x5_1_9 x6_1_10 x7_1_11 x8_1_12 x0 =>
    bif (decide (x8_1_12 < (x1.length : Int))) then
      bif x7_1_11 then
        (geti x6_1_10 x8_1_12).bind fun v_524 =>
        (geti x1 x8_1_12).bind fun v_526 =>
        raddleref11_builder_find_l1 K go0 k x1 x5_1_9 x6_1_10 (v_524 == v_526) (IntKind.i64.wrap (x8_1_12 + (1 : Int))) x0
      else
        raddleref11_builder_find_l1 K go0 k x1 x5_1_9 x6_1_10 false (IntKind.i64.wrap (x8_1_12 + (1 : Int))) x0
    else
      bif x7_1_11 then
        some (x5_1_9, x0)
      else
        go0 x1 (IntKind.i64.wrap (x5_1_9 + (1 : Int))) x0

def raddleref11_builder_find_l2 (K : Nat) : Nat → (List Int) → Int → raddleref11_builder → (List Int) → Option (Int × raddleref11_builder)
  | 0 => fun _ _ _ _ => none
  | k + 1 => fun x1 x10_2_10 x0 y9_2_9 =>
    bif (decide (x10_2_10 < (x1.length : Int))) then
      (geti x1 x10_2_10).bind fun v_535 =>
      (geti x0.number v_535).bind fun v_537 =>
      bif (decide (v_537 ≥ (0 : Int))) then
        (ck (roomy 8 (y9_2_9.length + [v_537].length) = true)).bind fun _ =>
        raddleref11_builder_find_l2 K k x1 (IntKind.i64.wrap (x10_2_10 + (1 : Int))) x0 (y9_2_9 ++ [v_537])
      else
        raddleref11_builder_find_l2 K k x1 (IntKind.i64.wrap (x10_2_10 + (1 : Int))) x0 y9_2_9
    else
      bif (decide ((y9_2_9.length : Int) > (3 : Int))) then
        some ((0 : Int), (raddleref11_builder.mk x0.g x0.number x0.a (110 : Int)))
      else
        bif (decide ((x0.a.States.length : Int) ≥ (256 : Int))) then
          some ((0 : Int), (raddleref11_builder.mk x0.g x0.number x0.a (3 : Int)))
        else
          (ck (roomy 96 (x0.a.States.length + [(api_State.mk x1 y9_2_9 [] [])].length) = true)).bind fun _ =>
          some ((IntKind.i64.wrap (((x0.a.States ++ [(api_State.mk x1 y9_2_9 [] [])]).length : Int) - (1 : Int))), (raddleref11_builder.mk x0.g x0.number (api_Auto.mk x0.a.Split x0.a.Counts (x0.a.States ++ [(api_State.mk x1 y9_2_9 [] [])])) x0.e))

def raddleref11_builder_find_l0 (K : Nat) : Nat → (List Int) → Int → raddleref11_builder → Option (Int × raddleref11_builder)
  | 0 => fun _ _ _ => none
  | k + 1 => fun x1 x5_0_9 x0 =>
    bif (decide (x5_0_9 < (x0.a.States.length : Int))) then
      (geti x0.a.States x5_0_9).bind fun v_513 =>
      bif ((v_513.L.length : Int) == (x1.length : Int)) then
        raddleref11_builder_find_l1 K (raddleref11_builder_find_l0 K k) K x1 x5_0_9 v_513.L true (0 : Int) x0
      else
        raddleref11_builder_find_l0 K k x1 (IntKind.i64.wrap (x5_0_9 + (1 : Int))) x0
    else
      raddleref11_builder_find_l2 K K x1 (0 : Int) x0 []

def raddleref11_builder_find (K : Nat) (x0 : raddleref11_builder) (x1 : List Int) : Option (Int × raddleref11_builder) :=
  raddleref11_builder_find_l0 K K x1 (1 : Int) x0

def raddleref11_builder_goes_j2 (K : Nat) (go0 : Int → Int → Int → Int → raddleref11_builder → (List Int) → (List Int) → (List Int) → (List (List api_Move)) → (List Int) → (List Int) → Option (api_Move × raddleref11_builder)) (x1 : Int) (x2 : Int) (x10_0_15 : Int) (x13_2_18 : Int) (x15_2_19 : Bool) (x0 : raddleref11_builder) (y9_0_11 : List Int) (y9_0_12 : List Int) (y9_0_13 : List Int) (y9_0_14 : List (List api_Move)) (y11_2_16 : List Int) (y12_2_17 : List Int) : Option (api_Move × raddleref11_builder) :=
    bif x15_2_19 then
      (ck (roomy 1 (y12_2_17.length + [(1 : Int)].length) = true)).bind fun _ =>
      go0 x1 x2 x10_0_15 (IntKind.i64.wrap (x13_2_18 + (1 : Int))) x0 y9_0_11 y9_0_12 y9_0_13 y9_0_14 y11_2_16 (y12_2_17 ++ [(1 : Int)])
    else
      (ck (roomy 1 (y12_2_17.length + [(3 : Int)].length) = true)).bind fun _ =>
      go0 x1 x2 x10_0_15 (IntKind.i64.wrap (x13_2_18 + (1 : Int))) x0 y9_0_11 y9_0_12 y9_0_13 y9_0_14 y11_2_16 (y12_2_17 ++ [(3 : Int)])

def raddleref11_builder_goes_j1 (K : Nat) (go0 : Int → Int → Int → Int → raddleref11_builder → (List Int) → (List Int) → (List Int) → (List (List api_Move)) → (List Int) → (List Int) → Option (api_Move × raddleref11_builder)) (x1 : Int) (x2 : Int) (x10_0_15 : Int) (x13_1_18 : Int) (x14_1_19 : Bool) (x15_1_20 : Bool) (x0 : raddleref11_builder) (y9_0_11 : List Int) (y9_0_12 : List Int) (y9_0_13 : List Int) (y9_0_14 : List (List api_Move)) (y11_1_16 : List Int) (y12_1_17 : List Int) : Option (api_Move × raddleref11_builder) :=
    (ck (roomy 8 (y11_1_16.length + [x13_1_18].length) = true)).bind fun _ =>
    (geti x0.number x13_1_18).bind fun v_689 =>
    bif (decide (v_689 < (0 : Int))) then
      go0 x1 x2 x10_0_15 (IntKind.i64.wrap (x13_1_18 + (1 : Int))) x0 y9_0_11 y9_0_12 y9_0_13 y9_0_14 (y11_1_16 ++ [x13_1_18]) y12_1_17
    else
      bif x14_1_19 then
        bif x15_1_20 then
          (ck (roomy 1 (y12_1_17.length + [(2 : Int)].length) = true)).bind fun _ =>
          go0 x1 x2 x10_0_15 (IntKind.i64.wrap (x13_1_18 + (1 : Int))) x0 y9_0_11 y9_0_12 y9_0_13 y9_0_14 (y11_1_16 ++ [x13_1_18]) (y12_1_17 ++ [(2 : Int)])
        else
          raddleref11_builder_goes_j2 K go0 x1 x2 x10_0_15 x13_1_18 x15_1_20 x0 y9_0_11 y9_0_12 y9_0_13 y9_0_14 (y11_1_16 ++ [x13_1_18]) y12_1_17
      else
        raddleref11_builder_goes_j2 K go0 x1 x2 x10_0_15 x13_1_18 x15_1_20 x0 y9_0_11 y9_0_12 y9_0_13 y9_0_14 (y11_1_16 ++ [x13_1_18]) y12_1_17

def raddleref11_builder_goes_l0 (K : Nat) : Nat → Int → Int → Int → Int → raddleref11_builder → (List Int) → (List Int) → (List Int) → (List (List api_Move)) → (List Int) → (List Int) → Option (api_Move × raddleref11_builder)
  | 0 => fun _ _ _ _ _ _ _ _ _ _ _ => none
  | k + 1 => fun x1 x2 x10_0_15 x13_0_18 x0 y9_0_11 y9_0_12 y9_0_13 y9_0_14 y11_0_16 y12_0_17 =>
    bif (decide (x13_0_18 < (x0.g.P.length : Int))) then
      (geti x0.g.P x13_0_18).bind fun v_674 =>
      (raddleref01_Has K v_674.S x10_0_15).bind fun v_676 =>
      bif (!v_676) then
        raddleref11_builder_goes_l0 K k x1 x2 x10_0_15 (IntKind.i64.wrap (x13_0_18 + (1 : Int))) x0 y9_0_11 y9_0_12 y9_0_13 y9_0_14 y11_0_16 y12_0_17
      else
        (raddleref11_builder_enters K x0 x1 (api_State.mk y9_0_11 y9_0_12 y9_0_13 y9_0_14) x2 x13_0_18).bind fun v_679 =>
        (raddleref11_builder_stays K x0 (api_State.mk y9_0_11 y9_0_12 y9_0_13 y9_0_14) x2 x13_0_18).bind fun v_682 =>
        bif (!v_679) then
          bif (!v_682) then
            raddleref11_builder_goes_l0 K k x1 x2 x10_0_15 (IntKind.i64.wrap (x13_0_18 + (1 : Int))) x0 y9_0_11 y9_0_12 y9_0_13 y9_0_14 y11_0_16 y12_0_17
          else
            raddleref11_builder_goes_j1 K (raddleref11_builder_goes_l0 K k) x1 x2 x10_0_15 x13_0_18 v_679 v_682 x0 y9_0_11 y9_0_12 y9_0_13 y9_0_14 y11_0_16 y12_0_17
        else
          raddleref11_builder_goes_j1 K (raddleref11_builder_goes_l0 K k) x1 x2 x10_0_15 x13_0_18 v_679 v_682 x0 y9_0_11 y9_0_12 y9_0_13 y9_0_14 y11_0_16 y12_0_17
    else
      bif ((y11_0_16.length : Int) == (0 : Int)) then
        some ((api_Move.mk (-1 : Int) []), x0)
      else
        (raddleref11_builder_find K x0 y11_0_16).bind fun v_702 =>
        some ((api_Move.mk v_702.1 y12_0_17), v_702.2)

def raddleref11_builder_goes (K : Nat) (x0 : raddleref11_builder) (x1 : Int) (x2 : Int) (x3 : Int) : Option (api_Move × raddleref11_builder) :=
  (geti x0.a.States x1).bind fun v_666 =>
  (raddleref02_First K x0.a.Split).bind fun v_669 =>
  (geti v_669 x3).bind fun v_671 =>
  raddleref11_builder_goes_l0 K K x1 x2 v_671 (0 : Int) x0 v_666.L v_666.R v_666.Rule v_666.Next [] []

def raddleref11_Of_l3 (K : Nat) (go2 : Int → Int → Int → ArrN → (List Arr2) → (List api_State) → (List Int) → (List api_Pos) → ArrN → Int → Int → (List Int) → (List Arr2) → (List api_State) → (List Int) → (List (List api_Move)) → Option (api_Auto × Int)) : Nat → Int → Int → Int → Int → ArrN → (List Arr2) → (List api_State) → (List Int) → (List api_Pos) → ArrN → Int → Int → (List Int) → (List Arr2) → (List api_State) → (List Int) → (List (List api_Move)) → (List api_Move) → Option (api_Auto × Int)
  | 0 => fun _ _ _ _ _ _ _ _ _ _ _ _ _ _ _ _ _ _ => none
  | k + 1 => fun x7_3_12 x8_3_13 x11_3_16 x13_3_18 y2_0_2 y2_3_2 y2_3_3 y4_3_4 y4_3_5 y4_3_7 y4_3_8 y4_3_11 y4_3_6 y4_3_9 y4_3_10 y9_3_14 y10_3_15 y12_3_17 =>
    bif (decide (x13_3_18 < y4_3_8)) then
      (raddleref11_builder_goes K (raddleref11_builder.mk (api_Glush.mk y4_3_4 y4_3_5) y4_3_6 (api_Auto.mk (api_Split.mk y4_3_7 y4_3_8) y4_3_9 y4_3_10) y4_3_11) x7_3_12 x11_3_16 x13_3_18).bind fun v_1192 =>
      (ck (roomy 32 (y12_3_17.length + [v_1192.1].length) = true)).bind fun _ =>
      bif (v_1192.2.e != (0 : Int)) then
        some ((api_Auto.mk (api_Split.mk (ArrN.mk fun _ => 0) (0 : Int)) [] []), v_1192.2.e)
      else
        raddleref11_Of_l3 K go2 k x7_3_12 x8_3_13 x11_3_16 (IntKind.i64.wrap (x13_3_18 + (1 : Int))) y2_0_2 y2_3_2 y2_3_3 v_1192.2.g.First v_1192.2.g.P v_1192.2.a.Split.Of v_1192.2.a.Split.Many v_1192.2.e v_1192.2.number v_1192.2.a.Counts v_1192.2.a.States y9_3_14 y10_3_15 (y12_3_17 ++ [v_1192.1])
    else
      (ck (roomy 24 (y10_3_15.length + [y12_3_17].length) = true)).bind fun _ =>
      go2 x7_3_12 x8_3_13 (IntKind.i64.wrap (x11_3_16 + (1 : Int))) y2_0_2 y2_3_2 y2_3_3 y4_3_4 y4_3_5 y4_3_7 y4_3_8 y4_3_11 y4_3_6 y4_3_9 y4_3_10 y9_3_14 (y10_3_15 ++ [y12_3_17])

def raddleref11_Of_l2 (K : Nat) (go1 : Int → ArrN → (List Arr2) → (List api_State) → (List Int) → (List api_Pos) → ArrN → Int → Int → (List Int) → (List Arr2) → (List api_State) → Option (api_Auto × Int)) : Nat → Int → Int → Int → ArrN → (List Arr2) → (List api_State) → (List Int) → (List api_Pos) → ArrN → Int → Int → (List Int) → (List Arr2) → (List api_State) → (List Int) → (List (List api_Move)) → Option (api_Auto × Int)
  | 0 => fun _ _ _ _ _ _ _ _ _ _ _ _ _ _ _ _ => none
  | k + 1 => fun x7_2_12 x8_2_13 x11_2_16 y2_0_2 y2_2_2 y2_2_3 y4_2_4 y4_2_5 y4_2_7 y4_2_8 y4_2_11 y4_2_6 y4_2_9 y4_2_10 y9_2_14 y10_2_15 =>
    bif (decide (x11_2_16 < x8_2_13)) then
      (geti y4_2_10 x7_2_12).bind fun v_1184 =>
      (raddleref11_builder_rule K (raddleref11_builder.mk (api_Glush.mk y4_2_4 y4_2_5) y4_2_6 (api_Auto.mk (api_Split.mk y4_2_7 y4_2_8) y4_2_9 y4_2_10) y4_2_11) v_1184 x11_2_16).bind fun v_1186 =>
      (ck (roomy 8 (y9_2_14.length + [v_1186].length) = true)).bind fun _ =>
      raddleref11_Of_l3 K (raddleref11_Of_l2 K go1 k) K x7_2_12 x8_2_13 x11_2_16 (0 : Int) y2_0_2 y2_2_2 y2_2_3 ((raddleref11_builder.mk (api_Glush.mk y4_2_4 y4_2_5) y4_2_6 (api_Auto.mk (api_Split.mk y4_2_7 y4_2_8) y4_2_9 y4_2_10) y4_2_11).g.First) ((raddleref11_builder.mk (api_Glush.mk y4_2_4 y4_2_5) y4_2_6 (api_Auto.mk (api_Split.mk y4_2_7 y4_2_8) y4_2_9 y4_2_10) y4_2_11).g.P) ((raddleref11_builder.mk (api_Glush.mk y4_2_4 y4_2_5) y4_2_6 (api_Auto.mk (api_Split.mk y4_2_7 y4_2_8) y4_2_9 y4_2_10) y4_2_11).a.Split.Of) ((raddleref11_builder.mk (api_Glush.mk y4_2_4 y4_2_5) y4_2_6 (api_Auto.mk (api_Split.mk y4_2_7 y4_2_8) y4_2_9 y4_2_10) y4_2_11).a.Split.Many) ((raddleref11_builder.mk (api_Glush.mk y4_2_4 y4_2_5) y4_2_6 (api_Auto.mk (api_Split.mk y4_2_7 y4_2_8) y4_2_9 y4_2_10) y4_2_11).e) ((raddleref11_builder.mk (api_Glush.mk y4_2_4 y4_2_5) y4_2_6 (api_Auto.mk (api_Split.mk y4_2_7 y4_2_8) y4_2_9 y4_2_10) y4_2_11).number) ((raddleref11_builder.mk (api_Glush.mk y4_2_4 y4_2_5) y4_2_6 (api_Auto.mk (api_Split.mk y4_2_7 y4_2_8) y4_2_9 y4_2_10) y4_2_11).a.Counts) ((raddleref11_builder.mk (api_Glush.mk y4_2_4 y4_2_5) y4_2_6 (api_Auto.mk (api_Split.mk y4_2_7 y4_2_8) y4_2_9 y4_2_10) y4_2_11).a.States) (y9_2_14 ++ [v_1186]) y10_2_15 []
    else
      (geti y4_2_10 x7_2_12).bind fun v_1201 =>
      (geti (List.set y4_2_10 (Int.toNat x7_2_12) (api_State.mk v_1201.L v_1201.R y9_2_14 v_1201.Next)) x7_2_12).bind fun v_1203 =>
      go1 (IntKind.i64.wrap (x7_2_12 + (1 : Int))) y2_0_2 y2_2_2 y2_2_3 y4_2_4 y4_2_5 y4_2_7 y4_2_8 y4_2_11 y4_2_6 y4_2_9 (List.set (List.set y4_2_10 (Int.toNat x7_2_12) (api_State.mk v_1201.L v_1201.R y9_2_14 v_1201.Next)) (Int.toNat x7_2_12) (api_State.mk v_1203.L v_1203.R v_1203.Rule y10_2_15))

def raddleref11_Of_l1 (K : Nat) : Nat → Int → ArrN → (List Arr2) → (List api_State) → (List Int) → (List api_Pos) → ArrN → Int → Int → (List Int) → (List Arr2) → (List api_State) → Option (api_Auto × Int)
  | 0 => fun _ _ _ _ _ _ _ _ _ _ _ _ => none
  | k + 1 => fun x7_1_12 y2_0_2 y2_1_2 y2_1_3 y4_1_4 y4_1_5 y4_1_7 y4_1_8 y4_1_11 y4_1_6 y4_1_9 y4_1_10 =>
    bif (decide (x7_1_12 < (y4_1_10.length : Int))) then
      (geti y4_1_10 x7_1_12).bind fun v_1179 =>
      (raddleref11_Codes K (v_1179.R.length : Int)).bind fun v_1181 =>
      raddleref11_Of_l2 K (raddleref11_Of_l1 K k) K x7_1_12 v_1181 (0 : Int) y2_0_2 y2_1_2 y2_1_3 y4_1_4 y4_1_5 y4_1_7 y4_1_8 y4_1_11 y4_1_6 y4_1_9 y4_1_10 [] []
    else
      some ((api_Auto.mk (api_Split.mk y4_1_7 y4_1_8) y4_1_9 y4_1_10), (0 : Int))

def raddleref11_Of_l0 (K : Nat) : Nat → Int → api_Glush → ArrN → (List Arr2) → (List api_State) → ArrN → (List Int) → (List Arr2) → (List api_State) → (List Arr4) → Option (api_Auto × Int)
  | 0 => fun _ _ _ _ _ _ _ _ _ _ => none
  | k + 1 => fun x6_0_15 x0 y2_0_2 y2_0_4 y2_0_5 y4_0_9 y4_0_8 y4_0_11 y4_0_12 y5_0_14 =>
    bif (decide (x6_0_15 < (x0.P.length : Int))) then
      (geti x0.P x6_0_15).bind fun v_1160 =>
      (ck (roomy 32 (y5_0_14.length + [v_1160.S].length) = true)).bind fun _ =>
      bif (decide (v_1160.Hi > (1 : Int))) then
        (ck (roomy 8 (y4_0_8.length + [(y4_0_11.length : Int)].length) = true)).bind fun _ =>
        (ck (roomy 16 (y4_0_11.length + [(Arr2.mk v_1160.Lo v_1160.Hi)].length) = true)).bind fun _ =>
        raddleref11_Of_l0 K k (IntKind.i64.wrap (x6_0_15 + (1 : Int))) x0 y2_0_2 y2_0_4 y2_0_5 y4_0_9 (y4_0_8 ++ [(y4_0_11.length : Int)]) (y4_0_11 ++ [(Arr2.mk v_1160.Lo v_1160.Hi)]) y4_0_12 (y5_0_14 ++ [v_1160.S])
      else
        (ck (roomy 8 (y4_0_8.length + [(-1 : Int)].length) = true)).bind fun _ =>
        raddleref11_Of_l0 K k (IntKind.i64.wrap (x6_0_15 + (1 : Int))) x0 y2_0_2 y2_0_4 y2_0_5 y4_0_9 (y4_0_8 ++ [(-1 : Int)]) y4_0_11 y4_0_12 (y5_0_14 ++ [v_1160.S])
    else
      (raddleref02_Of K y5_0_14).bind fun v_1175 =>
      raddleref11_Of_l1 K K (0 : Int) y2_0_2 y2_0_4 y2_0_5 x0.First x0.P v_1175.Of v_1175.Many (0 : Int) y4_0_8 y4_0_11 [(api_State.mk [] [] [] [])]

def raddleref11_Of (K : Nat) (x0 : api_Glush) : Option (api_Auto × Int) :=
  (raddleref09_Right K x0).bind fun v_1155 =>
  bif (!v_1155) then
    some ((api_Auto.mk (api_Split.mk (ArrN.mk fun _ => 0) (0 : Int)) [] []), (1 : Int))
  else
    raddleref11_Of_l0 K K (0 : Int) x0 (ArrN.mk fun _ => 0) [] [] (ArrN.mk fun _ => 0) [] [] [] []

def raddlelaw14_shown (K : Nat) : Option Bool :=
  (raddleref11_Of K (api_Glush.mk [] [])).bind fun v_61 =>
  (table_Encode K v_61.1).bind fun v_64 =>
  bif (v_64.2 == (0 : Int)) then
    bif ((v_64.1.length : Int) == (266 : Int)) then
      (ck (0 ≤ (4 : Int) ∧ 0 ≤ (Int.toNat (4 : Int)) ∧ (Int.toNat (4 : Int)) ≤ v_64.1.length)).bind fun _ =>
      bif ((ofBytes ((v_64.1.take (Int.toNat (4 : Int))).drop 0)).toList == (⟨#[114, 100, 100, 108]⟩ : ByteArray).toList) then
        (ck (0 ≤ (260 : Int) ∧ (Int.toNat (260 : Int)) ≤ v_64.1.length ∧ v_64.1.length ≤ v_64.1.length)).bind fun _ =>
        bif ((ofBytes ((v_64.1.take v_64.1.length).drop (Int.toNat (260 : Int)))).toList == (⟨#[0, 1, 0, 0, 0, 0]⟩ : ByteArray).toList) then
          (table_Number K ([] : List Int) (300 : Int)).bind fun v_73 =>
          some ((ofBytes v_73).toList == (⟨#[172, 2]⟩ : ByteArray).toList)
        else
          some false
      else
        some false
    else
      some false
  else
    some false

def raddlelaw14_TableLong_j1 (K : Nat) (go0 : (List Bool) → Bool → Int → (List Arr2) → Int → Int → ArrN → Int → (List Arr2) → (List api_State) → ArrN → Int → (List api_State) → (List Arr2) → Option Bool) (x1 : List Bool) (x5_0_1 : Bool) (x8_1_10 : Int) (x21_1_12 : List Arr2) (x22_1_13 : Int) (x23_1_14 : Int) (y6_0_2 : ArrN) (y6_0_3 : Int) (y6_0_4 : List Arr2) (y6_0_5 : List api_State) (y7_0_6 : ArrN) (y7_0_7 : Int) (y7_1_9 : List api_State) (y7_1_8 : List Arr2) (y10_1_11 : Arr2) : Option Bool :=
    (ck (roomy 16 (y7_1_8.length + [y10_1_11].length) = true)).bind fun _ =>
    go0 x1 x5_0_1 x8_1_10 x21_1_12 x22_1_13 (IntKind.i64.wrap (x23_1_14 + (1 : Int))) y6_0_2 y6_0_3 y6_0_4 y6_0_5 y7_0_6 y7_0_7 y7_1_9 (y7_1_8 ++ [y10_1_11])

def raddlelaw14_TableLong_j2 (K : Nat) (go0 : (List Bool) → Bool → Int → (List Arr2) → Int → Int → ArrN → Int → (List Arr2) → (List api_State) → ArrN → Int → (List api_State) → (List Arr2) → Option Bool) (x1 : List Bool) (x5_0_1 : Bool) (x8_2_10 : Int) (x21_2_12 : List Arr2) (x22_2_13 : Int) (x23_2_14 : Int) (y6_0_2 : ArrN) (y6_0_3 : Int) (y6_0_4 : List Arr2) (y6_0_5 : List api_State) (y7_0_6 : ArrN) (y7_0_7 : Int) (y7_2_9 : List api_State) (y7_2_8 : List Arr2) (y10_2_11 : Arr2) : Option Bool :=
    raddlelaw14_TableLong_j1 K go0 x1 x5_0_1 x8_2_10 x21_2_12 x22_2_13 x23_2_14 y6_0_2 y6_0_3 y6_0_4 y6_0_5 y7_0_6 y7_0_7 y7_2_9 y7_2_8 y10_2_11

def raddlelaw14_TableLong_j4 (K : Nat) (x4_4_0 : Bool) : Option Bool :=
    some x4_4_0

def raddlelaw14_TableLong_j3 (K : Nat) (x5_0_1 : Bool) (x11_3_1 : List Int) (x12_3_2 : Int) (x13_3_3 : List Int) (x14_3_4 : Int) : Option Bool :=
    bif x5_0_1 then
      bif (x12_3_2 == (0 : Int)) then
        bif (x14_3_4 == (0 : Int)) then
          raddlelaw14_TableLong_j4 K true
        else
          raddlelaw14_TableLong_j4 K ((x13_3_3.length : Int) == (0 : Int))
      else
        bif ((x11_3_1.length : Int) == (0 : Int)) then
          bif (x14_3_4 == (0 : Int)) then
            raddlelaw14_TableLong_j4 K true
          else
            raddlelaw14_TableLong_j4 K ((x13_3_3.length : Int) == (0 : Int))
        else
          raddlelaw14_TableLong_j4 K false
    else
      raddlelaw14_TableLong_j4 K false

def raddlelaw14_TableLong_l0 (K : Nat) : Nat → (List Bool) → Bool → Int → (List Arr2) → Int → Int → ArrN → Int → (List Arr2) → (List api_State) → ArrN → Int → (List api_State) → (List Arr2) → Option Bool
  | 0 => fun _ _ _ _ _ _ _ _ _ _ _ _ _ _ => none
  | k + 1 => fun x1 x5_0_1 x8_0_10 x21_0_11 x22_0_12 x23_0_13 y6_0_2 y6_0_3 y6_0_4 y6_0_5 y7_0_6 y7_0_7 y7_0_9 y7_0_8 =>
    bif (decide (x23_0_13 < x22_0_12)) then
      (geti x21_0_11 x23_0_13).bind fun v_339 =>
      bif (decide (x23_0_13 < (x1.length : Int))) then
        (geti x1 x23_0_13).bind fun v_343 =>
        bif v_343 then
          raddlelaw14_TableLong_j1 K (raddlelaw14_TableLong_l0 K k) x1 x5_0_1 (IntKind.i64.wrap (x8_0_10 + (1 : Int))) x21_0_11 x22_0_12 x23_0_13 y6_0_2 y6_0_3 y6_0_4 y6_0_5 y7_0_6 y7_0_7 y7_0_9 y7_0_8 (Arr2.set v_339 (1 : Int) (4096 : Int))
        else
          raddlelaw14_TableLong_j2 K (raddlelaw14_TableLong_l0 K k) x1 x5_0_1 x8_0_10 x21_0_11 x22_0_12 x23_0_13 y6_0_2 y6_0_3 y6_0_4 y6_0_5 y7_0_6 y7_0_7 y7_0_9 y7_0_8 v_339
      else
        raddlelaw14_TableLong_j2 K (raddlelaw14_TableLong_l0 K k) x1 x5_0_1 x8_0_10 x21_0_11 x22_0_12 x23_0_13 y6_0_2 y6_0_3 y6_0_4 y6_0_5 y7_0_6 y7_0_7 y7_0_9 y7_0_8 v_339
    else
      (table_Encode K (api_Auto.mk (api_Split.mk y6_0_2 y6_0_3) y6_0_4 y6_0_5)).bind fun v_348 =>
      (table_Encode K (api_Auto.mk (api_Split.mk y7_0_6 y7_0_7) y7_0_8 y7_0_9)).bind fun v_350 =>
      bif (v_348.2 != (0 : Int)) then
        raddlelaw14_TableLong_j3 K x5_0_1 v_348.1 v_348.2 v_350.1 v_350.2
      else
        bif (v_350.2 != (0 : Int)) then
          raddlelaw14_TableLong_j3 K x5_0_1 v_348.1 v_348.2 v_350.1 v_350.2
        else
          bif x5_0_1 then
            bif (decide ((v_350.1.length : Int) ≥ (v_348.1.length : Int))) then
              some (decide ((v_350.1.length : Int) ≤ (IntKind.i64.wrap ((v_348.1.length : Int) + (IntKind.i64.wrap ((3 : Int) * x8_0_10))))))
            else
              some false
          else
            some false

def raddlelaw14_TableLong (K : Nat) (x0 : api_Auto) (x1 : List Bool) : Option Bool :=
  (raddlelaw14_shown K).bind fun v_332 =>
  (raddlelaw14_few K x0).bind fun v_334 =>
  raddlelaw14_TableLong_l0 K K x1 v_332 (0 : Int) v_334.Counts (v_334.Counts.length : Int) (0 : Int) v_334.Split.Of v_334.Split.Many v_334.Counts v_334.States v_334.Split.Of v_334.Split.Many v_334.States []

end Go.Rv

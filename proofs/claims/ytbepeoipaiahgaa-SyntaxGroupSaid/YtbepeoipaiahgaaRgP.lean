/- What each function of the program computes, as plain Lean: printed by a program of ours from the translation. -/
import Derived.Test.YtbepeoipaiahgaaRvBZ
namespace Go.Rv
set_option linter.unusedVariables false

structure api_Node where
  Op : Int
  S : Arr4
  L : List Int
  Lo : Int
  Hi : Int
  Name : ByteArray
  deriving DecidableEq

abbrev c_api_Node (x : api_Node) : List DC := [.int .u8 x.Op, .int .u64 x.S.a0, .int .u64 x.S.a1, .int .u64 x.S.a2, .int .u64 x.S.a3, .sl false 1 (x.L.map (cI .i64)), .int .i64 x.Lo, .int .i64 x.Hi, .str x.Name]

structure syntax_reader where
  s : ByteArray
  at_ : Int
  where_ : Int
  e : Int
  deriving DecidableEq

structure syntax_parser where
  reader : syntax_reader
  nodes : List api_Node
  deep : Int
  deriving DecidableEq

def syntax_reader_peek_j0 (K : Nat) (x0 : syntax_parser) : Option (Int × Bool) :=
    some ((0 : Int), false)

def syntax_reader_peek (K : Nat) (x0 : syntax_parser) : Option (Int × Bool) :=
  bif (x0.reader.e != (0 : Int)) then
    syntax_reader_peek_j0 K x0
  else
    bif (decide (x0.reader.at_ ≥ (x0.reader.s.size : Int))) then
      syntax_reader_peek_j0 K x0
    else
      (ck (0 ≤ x0.reader.at_ ∧ x0.reader.at_ < x0.reader.s.size)).bind fun _ =>
      some ((bt x0.reader.s x0.reader.at_), true)

def syntax_digit (K : Nat) (x0 : Int) : Option Bool :=
  bif (decide (x0 ≥ (48 : Int))) then
    some (decide (x0 ≤ (57 : Int)))
  else
    some false

def syntax_reader_digit (K : Nat) (x0 : syntax_parser) (x1 : Int) : Option Bool :=
  bif (x0.reader.e == (0 : Int)) then
    bif (decide ((IntKind.i64.wrap (x0.reader.at_ + x1)) < (x0.reader.s.size : Int))) then
      (ck (0 ≤ (IntKind.i64.wrap (x0.reader.at_ + x1)) ∧ (IntKind.i64.wrap (x0.reader.at_ + x1)) < x0.reader.s.size)).bind fun _ =>
      (syntax_digit K (bt x0.reader.s (IntKind.i64.wrap (x0.reader.at_ + x1)))).bind fun v_54 =>
      some v_54
    else
      some false
  else
    some false

def stringslite_IndexByte (K : Nat) (x0 : ByteArray) (x1 : Int) : Option Int :=
  some (idxS x0 x1)

def strings_IndexByte (K : Nat) (x0 : ByteArray) (x1 : Int) : Option Int :=
  (stringslite_IndexByte K x0 x1).bind fun v_7 =>
  some v_7

def syntax_reader_fail (K : Nat) (x0 : syntax_parser) (x1 : Int) (x2 : Int) : Option syntax_parser :=
  bif (x0.reader.e == (0 : Int)) then
    some (syntax_parser.mk (syntax_reader.mk x0.reader.s x0.reader.at_ x2 x1) x0.nodes x0.deep)
  else
    some x0

def syntax_reader_next (K : Nat) (x0 : syntax_parser) : Option (Int × syntax_parser) :=
  (syntax_reader_peek K x0).bind fun v_29 =>
  bif (!v_29.2) then
    (syntax_reader_fail K x0 (40 : Int) (x0.reader.s.size : Int)).bind fun v_33 =>
    some ((0 : Int), v_33)
  else
    some (v_29.1, (syntax_parser.mk (syntax_reader.mk x0.reader.s (IntKind.i64.wrap (x0.reader.at_ + (1 : Int))) x0.reader.where_ x0.reader.e) x0.nodes x0.deep))

def syntax_nibble (K : Nat) (x0 : Int) : Option (Int × Bool) :=
  (strings_IndexByte K (⟨#[48, 49, 50, 51, 52, 53, 54, 55, 56, 57, 97, 98, 99, 100, 101, 102]⟩ : ByteArray) x0).bind fun v_7 =>
  some ((IntKind.u8.wrap (if (0 : Int) > v_7 then (0 : Int) else v_7)), (decide (v_7 ≥ (0 : Int))))

def syntax_reader_pair (K : Nat) (x0 : syntax_parser) : Option (Int × Bool × syntax_parser) :=
  bif (decide ((IntKind.i64.wrap (x0.reader.at_ + (2 : Int))) > (x0.reader.s.size : Int))) then
    (syntax_reader_fail K x0 (40 : Int) (x0.reader.s.size : Int)).bind fun v_67 =>
    some ((0 : Int), true, v_67)
  else
    (syntax_reader_next K x0).bind fun v_70 =>
    (syntax_nibble K v_70.1).bind fun v_73 =>
    (syntax_reader_next K v_70.2).bind fun v_75 =>
    (syntax_nibble K v_75.1).bind fun v_78 =>
    bif v_73.2 then
      some ((bits .or .u8 (IntKind.u8.wrap (v_73.1 * 2 ^ min (Int.toNat (4 : Int)) IntKind.u8.bits)) v_78.1), v_78.2, v_75.2)
    else
      some ((bits .or .u8 (IntKind.u8.wrap (v_73.1 * 2 ^ min (Int.toNat (4 : Int)) IntKind.u8.bits)) v_78.1), false, v_75.2)

def syntax_reader_escape (K : Nat) (x0 : syntax_parser) : Option (Int × Bool × syntax_parser) :=
  (syntax_reader_next K x0).bind fun v_57 =>
  bif (v_57.2.reader.e != (0 : Int)) then
    some ((0 : Int), true, v_57.2)
  else
    bif (v_57.1 == (110 : Int)) then
      some ((10 : Int), true, v_57.2)
    else
      bif (v_57.1 == (116 : Int)) then
        some ((9 : Int), true, v_57.2)
      else
        bif (v_57.1 == (114 : Int)) then
          some ((13 : Int), true, v_57.2)
        else
          bif (v_57.1 == (120 : Int)) then
            (syntax_reader_pair K v_57.2).bind fun v_65 =>
            some (v_65.1, v_65.2.1, v_65.2.2)
          else
            bif (v_57.1 == (45 : Int)) then
              some (v_57.1, true, v_57.2)
            else
              (strings_IndexByte K (⟨#[124, 42, 43, 63, 123, 125, 40, 41, 91, 93, 46, 92, 47, 36, 94, 34]⟩ : ByteArray) v_57.1).bind fun v_69 =>
              some (v_57.1, (decide (v_69 ≥ (0 : Int))), v_57.2)

def syntax_reader_one (K : Nat) (x0 : syntax_parser) : Option (Int × syntax_parser) :=
  (syntax_reader_next K x0).bind fun v_45 =>
  bif (v_45.1 != (92 : Int)) then
    some (v_45.1, v_45.2)
  else
    (syntax_reader_escape K v_45.2).bind fun v_49 =>
    bif (!v_49.2.1) then
      (syntax_reader_fail K v_49.2.2 (43 : Int) x0.reader.at_).bind fun v_53 =>
      some (v_49.1, v_53)
    else
      some (v_49.1, v_49.2.2)

def bset_Of_l0 (K : Nat) : Nat → (List Int) → Int → Int → Arr4 → Arr4 → Option Arr4
  | 0 => fun _ _ _ _ _ => none
  | k + 1 => fun x0 x7_0_3 x8_0_4 y2_0_0 y3_0_1 =>
    bif (decide (x8_0_4 < x7_0_3)) then
      (geti x0 x8_0_4).bind fun v_60 =>
      (ck (0 ≤ (IntKind.u8.wrap (Int.tdiv v_60 (64 : Int))) ∧ (IntKind.u8.wrap (Int.tdiv v_60 (64 : Int))) < 4)).bind fun _ =>
      (ck (0 ≤ (Int.tmod v_60 (64 : Int)))).bind fun _ =>
      bset_Of_l0 K k x0 x7_0_3 (IntKind.i64.wrap (x8_0_4 + (1 : Int))) y2_0_0 (Arr4.set y3_0_1 (IntKind.u8.wrap (Int.tdiv v_60 (64 : Int))) (bits .or .u64 (Arr4.get y3_0_1 (IntKind.u8.wrap (Int.tdiv v_60 (64 : Int)))) (IntKind.u64.wrap ((1 : Int) * 2 ^ min (Int.toNat (Int.tmod v_60 (64 : Int))) IntKind.u64.bits))))
    else
      some y3_0_1

def bset_Of (K : Nat) (x0 : List Int) : Option Arr4 :=
  bset_Of_l0 K K x0 (x0.length : Int) (0 : Int) (Arr4.mk 0 0 0 0) (Arr4.mk 0 0 0 0)

def syntax_parser_put (K : Nat) (x0 : syntax_parser) (x1 : api_Node) : Option (Int × syntax_parser) :=
  (ck (roomy 96 (x0.nodes.length + [x1].length) = true)).bind fun _ =>
  some ((IntKind.i64.wrap (((x0.nodes ++ [x1]).length : Int) - (1 : Int))), (syntax_parser.mk x0.reader (x0.nodes ++ [x1]) x0.deep))

def syntax_parser_bytes (K : Nat) (x0 : syntax_parser) (x1 : Arr4) : Option (Int × syntax_parser) :=
  (syntax_parser_put K x0 (api_Node.mk (2 : Int) x1 [] (0 : Int) (0 : Int) (⟨#[]⟩ : ByteArray))).bind fun v_14 =>
  some (v_14.1, v_14.2)

def syntax_letter (K : Nat) (x0 : Int) : Option Bool :=
  bif (decide (x0 ≥ (97 : Int))) then
    bif (decide (x0 ≤ (122 : Int))) then
      some true
    else
      bif (decide (x0 ≥ (65 : Int))) then
        bif (decide (x0 ≤ (90 : Int))) then
          some true
        else
          some (x0 == (95 : Int))
      else
        some (x0 == (95 : Int))
  else
    bif (decide (x0 ≥ (65 : Int))) then
      bif (decide (x0 ≤ (90 : Int))) then
        some true
      else
        some (x0 == (95 : Int))
    else
      some (x0 == (95 : Int))

def syntax_Name_j1 (K : Nat) : Option Bool :=
    some false

def syntax_Name_l0 (K : Nat) : Nat → ByteArray → Int → Int → Option Bool
  | 0 => fun _ _ _ => none
  | k + 1 => fun x0 x5_0_1 x6_0_2 =>
    bif (decide (x6_0_2 < x5_0_1)) then
      (ck (0 ≤ x6_0_2 ∧ x6_0_2 < x0.size)).bind fun _ =>
      (syntax_letter K (bt x0 x6_0_2)).bind fun v_77 =>
      bif (!v_77) then
        bif (x6_0_2 == (0 : Int)) then
          syntax_Name_j1 K
        else
          (syntax_digit K (bt x0 x6_0_2)).bind fun v_81 =>
          bif (!v_81) then
            syntax_Name_j1 K
          else
            syntax_Name_l0 K k x0 x5_0_1 (IntKind.i64.wrap (x6_0_2 + (1 : Int)))
      else
        syntax_Name_l0 K k x0 x5_0_1 (IntKind.i64.wrap (x6_0_2 + (1 : Int)))
    else
      bif (decide ((x0.size : Int) ≥ (1 : Int))) then
        some (decide ((x0.size : Int) ≤ (32 : Int)))
      else
        some false

def syntax_Name (K : Nat) (x0 : ByteArray) : Option Bool :=
  syntax_Name_l0 K K x0 (x0.size : Int) (0 : Int)

def syntax_reader_name_j0 (K : Nat) (x4_0_6 : Int) (x5_0_7 : ByteArray) (y0_0_0 : ByteArray) (y0_0_1 : Int) (y0_0_2 : Int) (y0_0_3 : Int) (y0_0_5 : Int) (y0_0_4 : List api_Node) : Option (ByteArray × syntax_parser) :=
    some (x5_0_7, (syntax_parser.mk (syntax_reader.mk y0_0_0 (IntKind.i64.wrap (y0_0_1 + (IntKind.i64.wrap (x4_0_6 + (1 : Int))))) y0_0_2 y0_0_3) y0_0_4 y0_0_5))

def syntax_reader_name (K : Nat) (x0 : syntax_parser) : Option (ByteArray × syntax_parser) :=
  (syntax_reader_next K x0).bind fun v_86 =>
  (ck (0 ≤ v_86.2.reader.at_ ∧ (Int.toNat v_86.2.reader.at_) ≤ v_86.2.reader.s.size ∧ v_86.2.reader.s.size ≤ v_86.2.reader.s.size)).bind fun _ =>
  (strings_IndexByte K (v_86.2.reader.s.extract (Int.toNat v_86.2.reader.at_) v_86.2.reader.s.size) (125 : Int)).bind fun v_90 =>
  bif (decide (v_90 < (0 : Int))) then
    (syntax_reader_fail K v_86.2 (40 : Int) (v_86.2.reader.s.size : Int)).bind fun v_93 =>
    some ((⟨#[]⟩ : ByteArray), v_93)
  else
    (ck (0 ≤ v_86.2.reader.at_ ∧ 0 ≤ (IntKind.i64.wrap (v_86.2.reader.at_ + v_90)) ∧ (Int.toNat v_86.2.reader.at_) ≤ (Int.toNat (IntKind.i64.wrap (v_86.2.reader.at_ + v_90))) ∧ (Int.toNat (IntKind.i64.wrap (v_86.2.reader.at_ + v_90))) ≤ v_86.2.reader.s.size)).bind fun _ =>
    (syntax_Name K (v_86.2.reader.s.extract (Int.toNat v_86.2.reader.at_) (Int.toNat (IntKind.i64.wrap (v_86.2.reader.at_ + v_90))))).bind fun v_97 =>
    bif (!v_97) then
      (syntax_reader_fail K v_86.2 (41 : Int) v_86.2.reader.at_).bind fun v_100 =>
      syntax_reader_name_j0 K v_90 (v_86.2.reader.s.extract (Int.toNat v_86.2.reader.at_) (Int.toNat (IntKind.i64.wrap (v_86.2.reader.at_ + v_90)))) v_100.reader.s v_100.reader.at_ v_100.reader.where_ v_100.reader.e v_100.deep v_100.nodes
    else
      syntax_reader_name_j0 K v_90 (v_86.2.reader.s.extract (Int.toNat v_86.2.reader.at_) (Int.toNat (IntKind.i64.wrap (v_86.2.reader.at_ + v_90)))) v_86.2.reader.s v_86.2.reader.at_ v_86.2.reader.where_ v_86.2.reader.e v_86.2.deep v_86.2.nodes

def bset_Not_l0 (K : Nat) : Nat → Arr4 → Int → Arr4 → Arr4 → Option Arr4
  | 0 => fun _ _ _ _ => none
  | k + 1 => fun x0 x6_0_3 y1_0_0 y2_0_1 =>
    bif (decide (x6_0_3 < (4 : Int))) then
      (ck (0 ≤ x6_0_3 ∧ x6_0_3 < 4)).bind fun _ =>
      bset_Not_l0 K k x0 (IntKind.i64.wrap (x6_0_3 + (1 : Int))) (Arr4.set y1_0_0 x6_0_3 (bits .xor .u64 IntKind.u64.max (Arr4.get x0 x6_0_3))) y2_0_1
    else
      some y1_0_0

def bset_Not (K : Nat) (x0 : Arr4) : Option Arr4 :=
  bset_Not_l0 K K x0 (0 : Int) x0 (Arr4.mk 0 0 0 0)

def syntax_reader_is (K : Nat) (x0 : syntax_parser) (x1 : Int) : Option Bool :=
  (syntax_reader_peek K x0).bind fun v_17 =>
  bif v_17.2 then
    some (v_17.1 == x1)
  else
    some false

def syntax_reader_skip (K : Nat) (x0 : syntax_parser) (x1 : Int) : Option (Bool × syntax_parser) :=
  (syntax_reader_is K x0 x1).bind fun v_17 =>
  bif (!v_17) then
    some (false, x0)
  else
    some (true, (syntax_parser.mk (syntax_reader.mk x0.reader.s (IntKind.i64.wrap (x0.reader.at_ + (1 : Int))) x0.reader.where_ x0.reader.e) x0.nodes x0.deep))

def syntax_reader_member_j0 (K : Nat) (y0_0_0 : ByteArray) (y0_0_1 : Int) (y0_0_2 : Int) (y0_0_3 : Int) (y0_0_5 : Int) (y0_0_4 : List api_Node) : Option (Int × syntax_parser) :=
    bif (y0_0_3 != (0 : Int)) then
      some ((0 : Int), (syntax_parser.mk (syntax_reader.mk y0_0_0 y0_0_1 y0_0_2 y0_0_3) y0_0_4 y0_0_5))
    else
      (syntax_reader_one K (syntax_parser.mk (syntax_reader.mk y0_0_0 y0_0_1 y0_0_2 y0_0_3) y0_0_4 y0_0_5)).bind fun v_110 =>
      some (v_110.1, v_110.2)

def syntax_reader_member_j1 (K : Nat) (x0 : syntax_parser) : Option (Int × syntax_parser) :=
    syntax_reader_member_j0 K x0.reader.s x0.reader.at_ x0.reader.where_ x0.reader.e x0.deep x0.nodes

def syntax_reader_member (K : Nat) (x0 : syntax_parser) : Option (Int × syntax_parser) :=
  (syntax_reader_peek K x0).bind fun v_99 =>
  bif v_99.2 then
    (strings_IndexByte K (⟨#[93, 45, 94]⟩ : ByteArray) v_99.1).bind fun v_103 =>
    bif (decide (v_103 ≥ (0 : Int))) then
      (syntax_reader_fail K x0 (44 : Int) x0.reader.at_).bind fun v_106 =>
      syntax_reader_member_j0 K v_106.reader.s v_106.reader.at_ v_106.reader.where_ v_106.reader.e v_106.deep v_106.nodes
    else
      syntax_reader_member_j1 K x0
  else
    syntax_reader_member_j1 K x0

def bset_Range_l0 (K : Nat) : Nat → Int → Int → Arr4 → Arr4 → Option Arr4
  | 0 => fun _ _ _ _ => none
  | k + 1 => fun x1 x6_0_3 y4_0_1 y5_0_2 =>
    bif (decide (x6_0_3 ≤ (IntKind.i64.wrap x1))) then
      (ck (0 ≤ (IntKind.i64.wrap (Int.tdiv x6_0_3 (64 : Int))) ∧ (IntKind.i64.wrap (Int.tdiv x6_0_3 (64 : Int))) < 4)).bind fun _ =>
      (ck (0 ≤ (Int.tmod x6_0_3 (64 : Int)))).bind fun _ =>
      bset_Range_l0 K k x1 (IntKind.i64.wrap (x6_0_3 + (1 : Int))) y4_0_1 (Arr4.set y5_0_2 (IntKind.i64.wrap (Int.tdiv x6_0_3 (64 : Int))) (bits .or .u64 (Arr4.get y5_0_2 (IntKind.i64.wrap (Int.tdiv x6_0_3 (64 : Int)))) (IntKind.u64.wrap ((1 : Int) * 2 ^ min (Int.toNat (Int.tmod x6_0_3 (64 : Int))) IntKind.u64.bits))))
    else
      some y5_0_2

def bset_Range (K : Nat) (x0 : Int) (x1 : Int) : Option Arr4 :=
  bset_Range_l0 K K x1 (IntKind.i64.wrap x0) (Arr4.mk 0 0 0 0) (Arr4.mk 0 0 0 0)

def bset_Or_l1 (K : Nat) (go0 : (List Arr4) → Int → Int → Arr4 → Arr4 → Option Arr4) : Nat → (List Arr4) → Int → Int → Arr4 → Int → Arr4 → Arr4 → Option Arr4
  | 0 => fun _ _ _ _ _ _ _ => none
  | k + 1 => fun x0 x9_0_3 x10_1_4 x14_1_5 x15_1_6 y2_0_0 y3_1_1 =>
    bif (decide (x15_1_6 < (4 : Int))) then
      (ck (0 ≤ x15_1_6 ∧ x15_1_6 < 4)).bind fun _ =>
      bset_Or_l1 K go0 k x0 x9_0_3 x10_1_4 x14_1_5 (IntKind.i64.wrap (x15_1_6 + (1 : Int))) y2_0_0 (Arr4.set y3_1_1 x15_1_6 (bits .or .u64 (Arr4.get y3_1_1 x15_1_6) (Arr4.get x14_1_5 x15_1_6)))
    else
      go0 x0 x9_0_3 (IntKind.i64.wrap (x10_1_4 + (1 : Int))) y2_0_0 y3_1_1

def bset_Or_l0 (K : Nat) : Nat → (List Arr4) → Int → Int → Arr4 → Arr4 → Option Arr4
  | 0 => fun _ _ _ _ _ => none
  | k + 1 => fun x0 x9_0_3 x10_0_4 y2_0_0 y3_0_1 =>
    bif (decide (x10_0_4 < x9_0_3)) then
      (geti x0 x10_0_4).bind fun v_94 =>
      bset_Or_l1 K (bset_Or_l0 K k) K x0 x9_0_3 x10_0_4 v_94 (0 : Int) y2_0_0 y3_0_1
    else
      some y3_0_1

def bset_Or (K : Nat) (x0 : List Arr4) : Option Arr4 :=
  bset_Or_l0 K K x0 (x0.length : Int) (0 : Int) (Arr4.mk 0 0 0 0) (Arr4.mk 0 0 0 0)

def syntax_reader_class_j5 (K : Nat) (go0 : Bool → Bool → ByteArray → Int → Int → Int → Int → (List api_Node) → Arr4 → Arr4 → Option (Arr4 × syntax_parser)) (x3_0_7 : Bool) (x6_5_9 : Int) (x7_5_10 : Int) (x19_5_11 : Bool) (x20_5_12 : Bool) (x24_5_13 : Bool) (y0_5_0 : ByteArray) (y0_5_1 : Int) (y0_5_2 : Int) (y0_5_3 : Int) (y0_5_5 : Int) (y0_5_4 : List api_Node) (y2_0_6 : Arr4) (y4_0_8 : Arr4) : Option (Arr4 × syntax_parser) :=
    (bset_Range K x6_5_9 x7_5_10).bind fun v_584 =>
    (bset_Or K [y4_0_8, v_584]).bind fun v_586 =>
    go0 x3_0_7 false y0_5_0 y0_5_1 y0_5_2 y0_5_3 y0_5_5 y0_5_4 y2_0_6 v_586

def syntax_reader_class_j1 (K : Nat) (go0 : Bool → Bool → ByteArray → Int → Int → Int → Int → (List api_Node) → Arr4 → Arr4 → Option (Arr4 × syntax_parser)) (x3_0_7 : Bool) (x19_1_9 : Bool) (x20_1_10 : Bool) (x24_1_11 : Bool) (y0_1_0 : ByteArray) (y0_1_1 : Int) (y0_1_2 : Int) (y0_1_3 : Int) (y0_1_5 : Int) (y0_1_4 : List api_Node) (y2_0_6 : Arr4) (y4_0_8 : Arr4) : Option (Arr4 × syntax_parser) :=
    (syntax_reader_member K (syntax_parser.mk (syntax_reader.mk y0_1_0 y0_1_1 y0_1_2 y0_1_3) y0_1_4 y0_1_5)).bind fun v_565 =>
    (syntax_reader_skip K v_565.2 (45 : Int)).bind fun v_568 =>
    bif v_568.1 then
      (syntax_reader_member K v_568.2).bind fun v_572 =>
      bif (decide (v_572.1 < v_565.1)) then
        (syntax_reader_fail K v_572.2 (44 : Int) v_568.2.reader.at_).bind fun v_576 =>
        syntax_reader_class_j5 K go0 x3_0_7 v_565.1 v_572.1 x19_1_9 x20_1_10 x24_1_11 v_576.reader.s v_576.reader.at_ v_576.reader.where_ v_576.reader.e v_576.deep v_576.nodes y2_0_6 y4_0_8
      else
        syntax_reader_class_j5 K go0 x3_0_7 v_565.1 v_572.1 x19_1_9 x20_1_10 x24_1_11 v_572.2.reader.s v_572.2.reader.at_ v_572.2.reader.where_ v_572.2.reader.e v_572.2.deep v_572.2.nodes y2_0_6 y4_0_8
    else
      syntax_reader_class_j5 K go0 x3_0_7 v_565.1 v_565.1 x19_1_9 x20_1_10 x24_1_11 v_568.2.reader.s v_568.2.reader.at_ v_568.2.reader.where_ v_568.2.reader.e v_568.2.deep v_568.2.nodes y2_0_6 y4_0_8

def syntax_reader_class_j4 (K : Nat) (y0_4_0 : ByteArray) (y0_4_1 : Int) (y0_4_2 : Int) (y0_4_3 : Int) (y0_4_5 : Int) (y0_4_4 : List api_Node) (y2_0_6 : Arr4) (y4_3_7 : Arr4) : Option (Arr4 × syntax_parser) :=
    (syntax_reader_next K (syntax_parser.mk (syntax_reader.mk y0_4_0 y0_4_1 y0_4_2 y0_4_3) y0_4_4 y0_4_5)).bind fun v_599 =>
    some (y4_3_7, v_599.2)

def syntax_reader_class_j3 (K : Nat) (y0_3_0 : ByteArray) (y0_3_1 : Int) (y0_3_2 : Int) (y0_3_3 : Int) (y0_3_5 : Int) (y0_3_4 : List api_Node) (y2_0_6 : Arr4) (y4_3_7 : Arr4) : Option (Arr4 × syntax_parser) :=
    bif (Arr4.same y4_3_7 (Arr4.mk 0 0 0 0)) then
      (syntax_reader_fail K (syntax_parser.mk (syntax_reader.mk y0_3_0 y0_3_1 y0_3_2 y0_3_3) y0_3_4 y0_3_5) (44 : Int) y0_3_1).bind fun v_596 =>
      syntax_reader_class_j4 K v_596.reader.s v_596.reader.at_ v_596.reader.where_ v_596.reader.e v_596.deep v_596.nodes y2_0_6 y4_3_7
    else
      syntax_reader_class_j4 K y0_3_0 y0_3_1 y0_3_2 y0_3_3 y0_3_5 y0_3_4 y2_0_6 y4_3_7

def syntax_reader_class_j2 (K : Nat) (x3_0_7 : Bool) (y0_2_0 : ByteArray) (y0_2_1 : Int) (y0_2_2 : Int) (y0_2_3 : Int) (y0_2_5 : Int) (y0_2_4 : List api_Node) (y2_0_6 : Arr4) (y4_0_8 : Arr4) : Option (Arr4 × syntax_parser) :=
    bif x3_0_7 then
      (bset_Not K y4_0_8).bind fun v_593 =>
      syntax_reader_class_j3 K y0_2_0 y0_2_1 y0_2_2 y0_2_3 y0_2_5 y0_2_4 y2_0_6 v_593
    else
      syntax_reader_class_j3 K y0_2_0 y0_2_1 y0_2_2 y0_2_3 y0_2_5 y0_2_4 y2_0_6 y4_0_8

def syntax_reader_class_l0 (K : Nat) : Nat → Bool → Bool → ByteArray → Int → Int → Int → Int → (List api_Node) → Arr4 → Arr4 → Option (Arr4 × syntax_parser)
  | 0 => fun _ _ _ _ _ _ _ _ _ _ => none
  | k + 1 => fun x3_0_7 x5_0_9 y0_0_0 y0_0_1 y0_0_2 y0_0_3 y0_0_5 y0_0_4 y2_0_6 y4_0_8 =>
    bif (y0_0_3 == (0 : Int)) then
      bif x5_0_9 then
        syntax_reader_class_j1 K (syntax_reader_class_l0 K k) x3_0_7 x5_0_9 x5_0_9 true y0_0_0 y0_0_1 y0_0_2 y0_0_3 y0_0_5 y0_0_4 y2_0_6 y4_0_8
      else
        (syntax_reader_is K (syntax_parser.mk (syntax_reader.mk y0_0_0 y0_0_1 y0_0_2 y0_0_3) y0_0_4 y0_0_5) (93 : Int)).bind fun v_588 =>
        bif (!v_588) then
          syntax_reader_class_j1 K (syntax_reader_class_l0 K k) x3_0_7 x5_0_9 x5_0_9 (!v_588) ((syntax_parser.mk (syntax_reader.mk y0_0_0 y0_0_1 y0_0_2 y0_0_3) y0_0_4 y0_0_5).reader.s) ((syntax_parser.mk (syntax_reader.mk y0_0_0 y0_0_1 y0_0_2 y0_0_3) y0_0_4 y0_0_5).reader.at_) ((syntax_parser.mk (syntax_reader.mk y0_0_0 y0_0_1 y0_0_2 y0_0_3) y0_0_4 y0_0_5).reader.where_) ((syntax_parser.mk (syntax_reader.mk y0_0_0 y0_0_1 y0_0_2 y0_0_3) y0_0_4 y0_0_5).reader.e) ((syntax_parser.mk (syntax_reader.mk y0_0_0 y0_0_1 y0_0_2 y0_0_3) y0_0_4 y0_0_5).deep) ((syntax_parser.mk (syntax_reader.mk y0_0_0 y0_0_1 y0_0_2 y0_0_3) y0_0_4 y0_0_5).nodes) y2_0_6 y4_0_8
        else
          syntax_reader_class_j2 K x3_0_7 ((syntax_parser.mk (syntax_reader.mk y0_0_0 y0_0_1 y0_0_2 y0_0_3) y0_0_4 y0_0_5).reader.s) ((syntax_parser.mk (syntax_reader.mk y0_0_0 y0_0_1 y0_0_2 y0_0_3) y0_0_4 y0_0_5).reader.at_) ((syntax_parser.mk (syntax_reader.mk y0_0_0 y0_0_1 y0_0_2 y0_0_3) y0_0_4 y0_0_5).reader.where_) ((syntax_parser.mk (syntax_reader.mk y0_0_0 y0_0_1 y0_0_2 y0_0_3) y0_0_4 y0_0_5).reader.e) ((syntax_parser.mk (syntax_reader.mk y0_0_0 y0_0_1 y0_0_2 y0_0_3) y0_0_4 y0_0_5).deep) ((syntax_parser.mk (syntax_reader.mk y0_0_0 y0_0_1 y0_0_2 y0_0_3) y0_0_4 y0_0_5).nodes) y2_0_6 y4_0_8
    else
      syntax_reader_class_j2 K x3_0_7 y0_0_0 y0_0_1 y0_0_2 y0_0_3 y0_0_5 y0_0_4 y2_0_6 y4_0_8

def syntax_reader_class (K : Nat) (x0 : syntax_parser) : Option (Arr4 × syntax_parser) :=
  (syntax_reader_next K x0).bind fun v_556 =>
  (syntax_reader_skip K v_556.2 (94 : Int)).bind fun v_559 =>
  syntax_reader_class_l0 K K v_559.1 true v_559.2.reader.s v_559.2.reader.at_ v_559.2.reader.where_ v_559.2.reader.e v_559.2.deep v_559.2.nodes (Arr4.mk 0 0 0 0) (Arr4.mk 0 0 0 0)

def syntax_parser_group (K : Nat) (rec_syntax_parser_alternative : syntax_parser → Option (Int × syntax_parser)) (x0 : syntax_parser) : Option (Int × syntax_parser) :=
  bif (decide (x0.deep ≥ (64 : Int))) then
    (syntax_reader_fail K x0 (46 : Int) x0.reader.at_).bind fun v_65 =>
    some ((0 : Int), v_65)
  else
    (syntax_reader_next K x0).bind fun v_67 =>
    (rec_syntax_parser_alternative (syntax_parser.mk v_67.2.reader v_67.2.nodes (IntKind.i64.wrap (v_67.2.deep + (1 : Int))))).bind fun v_70 =>
    (syntax_reader_next K (syntax_parser.mk v_70.2.reader v_70.2.nodes (IntKind.i64.wrap (v_70.2.deep - (1 : Int))))).bind fun v_73 =>
    some (v_70.1, v_73.2)

def syntax_parser_atom_j1 (K : Nat) (rec_syntax_parser_alternative : syntax_parser → Option (Int × syntax_parser)) (x0 : syntax_parser) : Option (Int × syntax_parser) :=
    (syntax_reader_fail K x0 (42 : Int) x0.reader.at_).bind fun v_341 =>
    some ((0 : Int), v_341)

def syntax_parser_atom_j2 (K : Nat) (rec_syntax_parser_alternative : syntax_parser → Option (Int × syntax_parser)) (x0 : syntax_parser) : Option (Int × syntax_parser) :=
    (syntax_reader_one K x0).bind fun v_353 =>
    (bset_Of K [v_353.1]).bind fun v_356 =>
    (syntax_parser_bytes K v_353.2 v_356).bind fun v_358 =>
    some (v_358.1, v_358.2)

def syntax_parser_atom_j0 (K : Nat) (rec_syntax_parser_alternative : syntax_parser → Option (Int × syntax_parser)) (x3_0_6 : Int) (x0 : syntax_parser) : Option (Int × syntax_parser) :=
    bif (x3_0_6 == (47 : Int)) then
      syntax_parser_atom_j1 K rec_syntax_parser_alternative x0
    else
      bif (x3_0_6 == (36 : Int)) then
        syntax_parser_atom_j1 K rec_syntax_parser_alternative x0
      else
        bif (x3_0_6 != (92 : Int)) then
          (strings_IndexByte K (⟨#[124, 42, 43, 63, 123, 125, 40, 41, 91, 93, 46, 92, 47, 36, 94, 34]⟩ : ByteArray) x3_0_6).bind fun v_345 =>
          bif (decide (v_345 ≥ (0 : Int))) then
            (syntax_reader_fail K x0 (41 : Int) x0.reader.at_).bind fun v_351 =>
            some ((0 : Int), v_351)
          else
            syntax_parser_atom_j2 K rec_syntax_parser_alternative x0
        else
          syntax_parser_atom_j2 K rec_syntax_parser_alternative x0

def syntax_parser_atom (K : Nat) (rec_syntax_parser_alternative : syntax_parser → Option (Int × syntax_parser)) (x0 : syntax_parser) : Option (Int × syntax_parser) :=
  (syntax_reader_peek K x0).bind fun v_301 =>
  bif (v_301.1 == (40 : Int)) then
    (syntax_parser_group K rec_syntax_parser_alternative x0).bind fun v_305 =>
    some (v_305.1, v_305.2)
  else
    bif (v_301.1 == (91 : Int)) then
      (syntax_reader_class K x0).bind fun v_309 =>
      (syntax_parser_bytes K v_309.2 v_309.1).bind fun v_312 =>
      some (v_312.1, v_312.2)
    else
      bif (v_301.1 == (46 : Int)) then
        (syntax_reader_next K x0).bind fun v_316 =>
        (bset_Of K [(10 : Int)]).bind fun v_319 =>
        (bset_Not K v_319).bind fun v_321 =>
        (syntax_parser_bytes K v_316.2 v_321).bind fun v_323 =>
        some (v_323.1, v_323.2)
      else
        bif (v_301.1 == (123 : Int)) then
          (syntax_reader_digit K x0 (1 : Int)).bind fun v_327 =>
          bif (!v_327) then
            (syntax_reader_name K x0).bind fun v_331 =>
            (syntax_parser_put K v_331.2 (api_Node.mk (6 : Int) (Arr4.mk 0 0 0 0) [] (0 : Int) (0 : Int) v_331.1)).bind fun v_334 =>
            some (v_334.1, v_334.2)
          else
            syntax_parser_atom_j0 K rec_syntax_parser_alternative v_301.1 x0
        else
          syntax_parser_atom_j0 K rec_syntax_parser_alternative v_301.1 x0

def syntax_reader_number_j1 (K : Nat) (y9000_1_0 : ByteArray) (y9000_1_1 : Int) (y9000_1_2 : Int) (y9000_1_3 : Int) (y9000_1_5 : Int) (y9000_1_4 : List api_Node) : Option (Int × syntax_parser) :=
    some ((-1 : Int), (syntax_parser.mk (syntax_reader.mk y9000_1_0 y9000_1_1 y9000_1_2 y9000_1_3) y9000_1_4 y9000_1_5))

def syntax_reader_number_l0 (K : Nat) : Nat → syntax_parser → Int → ByteArray → Int → Int → Int → Int → (List api_Node) → Option (Int × syntax_parser)
  | 0 => fun _ _ _ _ _ _ _ _ => none
  | k + 1 => fun x0 x4_0_7 y0_0_0 y0_0_1 y0_0_2 y0_0_3 y0_0_5 y0_0_4 =>
    (syntax_reader_digit K (syntax_parser.mk (syntax_reader.mk y0_0_0 y0_0_1 y0_0_2 y0_0_3) y0_0_4 y0_0_5) (0 : Int)).bind fun v_111 =>
    bif v_111 then
      (syntax_reader_next K (syntax_parser.mk (syntax_reader.mk y0_0_0 y0_0_1 y0_0_2 y0_0_3) y0_0_4 y0_0_5)).bind fun v_115 =>
      syntax_reader_number_l0 K k x0 (if (4097 : Int) < (IntKind.i64.wrap ((IntKind.i64.wrap ((10 : Int) * x4_0_7)) + (IntKind.i64.wrap (IntKind.u8.wrap (v_115.1 - (48 : Int)))))) then (4097 : Int) else (IntKind.i64.wrap ((IntKind.i64.wrap ((10 : Int) * x4_0_7)) + (IntKind.i64.wrap (IntKind.u8.wrap (v_115.1 - (48 : Int))))))) v_115.2.reader.s v_115.2.reader.at_ v_115.2.reader.where_ v_115.2.reader.e v_115.2.deep v_115.2.nodes
    else
      bif (decide ((IntKind.i64.wrap ((syntax_parser.mk (syntax_reader.mk y0_0_0 y0_0_1 y0_0_2 y0_0_3) y0_0_4 y0_0_5).reader.at_ - x0.reader.at_)) > (6 : Int))) then
        syntax_reader_number_j1 K ((syntax_parser.mk (syntax_reader.mk y0_0_0 y0_0_1 y0_0_2 y0_0_3) y0_0_4 y0_0_5).reader.s) ((syntax_parser.mk (syntax_reader.mk y0_0_0 y0_0_1 y0_0_2 y0_0_3) y0_0_4 y0_0_5).reader.at_) ((syntax_parser.mk (syntax_reader.mk y0_0_0 y0_0_1 y0_0_2 y0_0_3) y0_0_4 y0_0_5).reader.where_) ((syntax_parser.mk (syntax_reader.mk y0_0_0 y0_0_1 y0_0_2 y0_0_3) y0_0_4 y0_0_5).reader.e) ((syntax_parser.mk (syntax_reader.mk y0_0_0 y0_0_1 y0_0_2 y0_0_3) y0_0_4 y0_0_5).deep) ((syntax_parser.mk (syntax_reader.mk y0_0_0 y0_0_1 y0_0_2 y0_0_3) y0_0_4 y0_0_5).nodes)
      else
        bif (decide ((IntKind.i64.wrap ((syntax_parser.mk (syntax_reader.mk y0_0_0 y0_0_1 y0_0_2 y0_0_3) y0_0_4 y0_0_5).reader.at_ - x0.reader.at_)) > (1 : Int))) then
          (ck (0 ≤ x0.reader.at_ ∧ x0.reader.at_ < ((syntax_parser.mk (syntax_reader.mk y0_0_0 y0_0_1 y0_0_2 y0_0_3) y0_0_4 y0_0_5).reader.s).size)).bind fun _ =>
          bif ((bt ((syntax_parser.mk (syntax_reader.mk y0_0_0 y0_0_1 y0_0_2 y0_0_3) y0_0_4 y0_0_5).reader.s) x0.reader.at_) == (48 : Int)) then
            syntax_reader_number_j1 K ((syntax_parser.mk (syntax_reader.mk y0_0_0 y0_0_1 y0_0_2 y0_0_3) y0_0_4 y0_0_5).reader.s) ((syntax_parser.mk (syntax_reader.mk y0_0_0 y0_0_1 y0_0_2 y0_0_3) y0_0_4 y0_0_5).reader.at_) ((syntax_parser.mk (syntax_reader.mk y0_0_0 y0_0_1 y0_0_2 y0_0_3) y0_0_4 y0_0_5).reader.where_) ((syntax_parser.mk (syntax_reader.mk y0_0_0 y0_0_1 y0_0_2 y0_0_3) y0_0_4 y0_0_5).reader.e) ((syntax_parser.mk (syntax_reader.mk y0_0_0 y0_0_1 y0_0_2 y0_0_3) y0_0_4 y0_0_5).deep) ((syntax_parser.mk (syntax_reader.mk y0_0_0 y0_0_1 y0_0_2 y0_0_3) y0_0_4 y0_0_5).nodes)
          else
            some (x4_0_7, (syntax_parser.mk (syntax_reader.mk y0_0_0 y0_0_1 y0_0_2 y0_0_3) y0_0_4 y0_0_5))
        else
          some (x4_0_7, (syntax_parser.mk (syntax_reader.mk y0_0_0 y0_0_1 y0_0_2 y0_0_3) y0_0_4 y0_0_5))

def syntax_reader_number (K : Nat) (x0 : syntax_parser) : Option (Int × syntax_parser) :=
  syntax_reader_number_l0 K K x0 (0 : Int) x0.reader.s x0.reader.at_ x0.reader.where_ x0.reader.e x0.deep x0.nodes

def syntax_reader_bounds_j1 (K : Nat) (x2_0_6 : Int) (x3_0_7 : Int) (y9000_1_2 : ByteArray) (y9000_1_3 : Int) (y9000_1_4 : Int) (y9000_1_5 : Int) (y9000_1_7 : Int) (y9000_1_6 : List api_Node) : Option (Int × Int × syntax_parser) :=
    some (x2_0_6, x3_0_7, (syntax_parser.mk (syntax_reader.mk y9000_1_2 y9000_1_3 y9000_1_4 y9000_1_5) y9000_1_6 y9000_1_7))

def syntax_reader_bounds_j2 (K : Nat) (x2_0_6 : Int) (x3_0_7 : Int) (x0 : syntax_parser) (y0_2_0 : ByteArray) (y0_2_1 : Int) (y0_2_2 : Int) (y0_2_3 : Int) (y0_2_5 : Int) (y0_2_4 : List api_Node) : Option (Int × Int × syntax_parser) :=
    (syntax_reader_fail K (syntax_parser.mk (syntax_reader.mk y0_2_0 y0_2_1 y0_2_2 y0_2_3) y0_2_4 y0_2_5) (45 : Int) x0.reader.at_).bind fun v_308 =>
    syntax_reader_bounds_j1 K x2_0_6 x3_0_7 v_308.reader.s v_308.reader.at_ v_308.reader.where_ v_308.reader.e v_308.deep v_308.nodes

def syntax_reader_bounds_j3 (K : Nat) (x2_0_6 : Int) (x3_0_7 : Int) (y9000_3_2 : ByteArray) (y9000_3_3 : Int) (y9000_3_4 : Int) (y9000_3_5 : Int) (y9000_3_7 : Int) (y9000_3_6 : List api_Node) : Option (Int × Int × syntax_parser) :=
    syntax_reader_bounds_j1 K x2_0_6 x3_0_7 y9000_3_2 y9000_3_3 y9000_3_4 y9000_3_5 y9000_3_7 y9000_3_6

def syntax_reader_bounds_j0 (K : Nat) (x2_0_6 : Int) (x3_0_7 : Int) (x0 : syntax_parser) (x5_0_9 : Bool) (y0_0_0 : ByteArray) (y0_0_1 : Int) (y0_0_2 : Int) (y0_0_3 : Int) (y0_0_5 : Int) (y0_0_4 : List api_Node) : Option (Int × Int × syntax_parser) :=
    (syntax_reader_next K (syntax_parser.mk (syntax_reader.mk y0_0_0 y0_0_1 y0_0_2 y0_0_3) y0_0_4 y0_0_5)).bind fun v_299 =>
    bif (v_299.2.reader.e != (0 : Int)) then
      syntax_reader_bounds_j1 K x2_0_6 x3_0_7 v_299.2.reader.s v_299.2.reader.at_ v_299.2.reader.where_ v_299.2.reader.e v_299.2.deep v_299.2.nodes
    else
      bif (v_299.1 != (125 : Int)) then
        (syntax_reader_fail K v_299.2 (41 : Int) y0_0_1).bind fun v_304 =>
        syntax_reader_bounds_j1 K x2_0_6 x3_0_7 v_304.reader.s v_304.reader.at_ v_304.reader.where_ v_304.reader.e v_304.deep v_304.nodes
      else
        bif x5_0_9 then
          syntax_reader_bounds_j2 K x2_0_6 x3_0_7 x0 v_299.2.reader.s v_299.2.reader.at_ v_299.2.reader.where_ v_299.2.reader.e v_299.2.deep v_299.2.nodes
        else
          bif (decide (x2_0_6 > (4096 : Int))) then
            syntax_reader_bounds_j2 K x2_0_6 x3_0_7 x0 v_299.2.reader.s v_299.2.reader.at_ v_299.2.reader.where_ v_299.2.reader.e v_299.2.deep v_299.2.nodes
          else
            bif (decide (x3_0_7 > (4096 : Int))) then
              syntax_reader_bounds_j2 K x2_0_6 x3_0_7 x0 v_299.2.reader.s v_299.2.reader.at_ v_299.2.reader.where_ v_299.2.reader.e v_299.2.deep v_299.2.nodes
            else
              bif (x3_0_7 == (0 : Int)) then
                syntax_reader_bounds_j2 K x2_0_6 x3_0_7 x0 v_299.2.reader.s v_299.2.reader.at_ v_299.2.reader.where_ v_299.2.reader.e v_299.2.deep v_299.2.nodes
              else
                bif (decide (x3_0_7 > (0 : Int))) then
                  bif (decide (x3_0_7 < x2_0_6)) then
                    syntax_reader_bounds_j2 K x2_0_6 x3_0_7 x0 v_299.2.reader.s v_299.2.reader.at_ v_299.2.reader.where_ v_299.2.reader.e v_299.2.deep v_299.2.nodes
                  else
                    syntax_reader_bounds_j3 K x2_0_6 x3_0_7 v_299.2.reader.s v_299.2.reader.at_ v_299.2.reader.where_ v_299.2.reader.e v_299.2.deep v_299.2.nodes
                else
                  syntax_reader_bounds_j3 K x2_0_6 x3_0_7 v_299.2.reader.s v_299.2.reader.at_ v_299.2.reader.where_ v_299.2.reader.e v_299.2.deep v_299.2.nodes

def syntax_reader_bounds (K : Nat) (x0 : syntax_parser) : Option (Int × Int × syntax_parser) :=
  (syntax_reader_next K x0).bind fun v_281 =>
  (syntax_reader_number K v_281.2).bind fun v_284 =>
  (syntax_reader_skip K v_284.2 (44 : Int)).bind fun v_287 =>
  bif v_287.1 then
    (syntax_reader_digit K v_287.2 (0 : Int)).bind fun v_291 =>
    bif v_291 then
      (syntax_reader_number K v_287.2).bind fun v_295 =>
      bif (decide (v_284.1 < (0 : Int))) then
        syntax_reader_bounds_j0 K v_284.1 v_295.1 x0 true v_295.2.reader.s v_295.2.reader.at_ v_295.2.reader.where_ v_295.2.reader.e v_295.2.deep v_295.2.nodes
      else
        syntax_reader_bounds_j0 K v_284.1 v_295.1 x0 (decide (v_295.1 < (0 : Int))) v_295.2.reader.s v_295.2.reader.at_ v_295.2.reader.where_ v_295.2.reader.e v_295.2.deep v_295.2.nodes
    else
      syntax_reader_bounds_j0 K v_284.1 (-1 : Int) x0 (decide (v_284.1 < (0 : Int))) v_287.2.reader.s v_287.2.reader.at_ v_287.2.reader.where_ v_287.2.reader.e v_287.2.deep v_287.2.nodes
  else
    syntax_reader_bounds_j0 K v_284.1 v_284.1 x0 (decide (v_284.1 < (0 : Int))) v_287.2.reader.s v_287.2.reader.at_ v_287.2.reader.where_ v_287.2.reader.e v_287.2.deep v_287.2.nodes

def syntax_parser_times_j0 (K : Nat) (y9000_0_0 : ByteArray) (y9000_0_1 : Int) (y9000_0_2 : Int) (y9000_0_3 : Int) (y9000_0_5 : Int) (y9000_0_4 : List api_Node) : Option (Int × Int × Bool × syntax_parser) :=
    some ((0 : Int), (0 : Int), false, (syntax_parser.mk (syntax_reader.mk y9000_0_0 y9000_0_1 y9000_0_2 y9000_0_3) y9000_0_4 y9000_0_5))

def syntax_parser_times (K : Nat) (x0 : syntax_parser) : Option (Int × Int × Bool × syntax_parser) :=
  (syntax_reader_skip K x0 (42 : Int)).bind fun v_116 =>
  bif v_116.1 then
    some ((0 : Int), (-1 : Int), true, v_116.2)
  else
    (syntax_reader_skip K v_116.2 (43 : Int)).bind fun v_120 =>
    bif v_120.1 then
      some ((1 : Int), (-1 : Int), true, v_120.2)
    else
      (syntax_reader_skip K v_120.2 (63 : Int)).bind fun v_124 =>
      bif v_124.1 then
        some ((0 : Int), (1 : Int), true, v_124.2)
      else
        (syntax_reader_is K v_124.2 (123 : Int)).bind fun v_128 =>
        bif v_128 then
          (syntax_reader_digit K v_124.2 (1 : Int)).bind fun v_132 =>
          bif v_132 then
            (syntax_reader_bounds K v_124.2).bind fun v_136 =>
            some (v_136.1, v_136.2.1, true, v_136.2.2)
          else
            syntax_parser_times_j0 K v_124.2.reader.s v_124.2.reader.at_ v_124.2.reader.where_ v_124.2.reader.e v_124.2.deep v_124.2.nodes
        else
          syntax_parser_times_j0 K v_124.2.reader.s v_124.2.reader.at_ v_124.2.reader.where_ v_124.2.reader.e v_124.2.deep v_124.2.nodes

def syntax_parser_item_l0 (K : Nat) (rec_syntax_parser_alternative : syntax_parser → Option (Int × syntax_parser)) : Nat → Int → ByteArray → Int → Int → Int → Int → (List api_Node) → Option (Int × syntax_parser)
  | 0 => fun _ _ _ _ _ _ _ => none
  | k + 1 => fun x3_0_6 y0_0_0 y0_0_1 y0_0_2 y0_0_3 y0_0_5 y0_0_4 =>
    (syntax_parser_times K (syntax_parser.mk (syntax_reader.mk y0_0_0 y0_0_1 y0_0_2 y0_0_3) y0_0_4 y0_0_5)).bind fun v_54 =>
    bif (!v_54.2.2.1) then
      some (x3_0_6, v_54.2.2.2)
    else
      (syntax_parser_put K v_54.2.2.2 (api_Node.mk (5 : Int) (Arr4.mk 0 0 0 0) [x3_0_6] v_54.1 v_54.2.1 (⟨#[]⟩ : ByteArray))).bind fun v_58 =>
      syntax_parser_item_l0 K rec_syntax_parser_alternative k v_58.1 v_58.2.reader.s v_58.2.reader.at_ v_58.2.reader.where_ v_58.2.reader.e v_58.2.deep v_58.2.nodes

def syntax_parser_item (K : Nat) (rec_syntax_parser_alternative : syntax_parser → Option (Int × syntax_parser)) (x0 : syntax_parser) : Option (Int × syntax_parser) :=
  (syntax_parser_atom K rec_syntax_parser_alternative x0).bind fun v_51 =>
  syntax_parser_item_l0 K rec_syntax_parser_alternative K v_51.1 v_51.2.reader.s v_51.2.reader.at_ v_51.2.reader.where_ v_51.2.reader.e v_51.2.deep v_51.2.nodes

def syntax_parser_join (K : Nat) (x0 : syntax_parser) (x1 : Int) (x2 : List Int) : Option (Int × syntax_parser) :=
  bif ((x2.length : Int) == (1 : Int)) then
    (geti x2 (0 : Int)).bind fun v_26 =>
    some (v_26, x0)
  else
    (syntax_parser_put K x0 (api_Node.mk x1 (Arr4.mk 0 0 0 0) x2 (0 : Int) (0 : Int) (⟨#[]⟩ : ByteArray))).bind fun v_28 =>
    some (v_28.1, v_28.2)

def syntax_parser_row_j1 (K : Nat) (rec_syntax_parser_alternative : syntax_parser → Option (Int × syntax_parser)) (y0_1_0 : ByteArray) (y0_1_1 : Int) (y0_1_2 : Int) (y0_1_3 : Int) (y0_1_5 : Int) (y0_1_4 : List api_Node) (y3_1_6 : List Int) : Option (Int × syntax_parser) :=
    bif ((y3_1_6.length : Int) == (0 : Int)) then
      (syntax_parser_put K (syntax_parser.mk (syntax_reader.mk y0_1_0 y0_1_1 y0_1_2 y0_1_3) y0_1_4 y0_1_5) (api_Node.mk (1 : Int) (Arr4.mk 0 0 0 0) [] (0 : Int) (0 : Int) (⟨#[]⟩ : ByteArray))).bind fun v_148 =>
      some (v_148.1, v_148.2)
    else
      (syntax_parser_join K (syntax_parser.mk (syntax_reader.mk y0_1_0 y0_1_1 y0_1_2 y0_1_3) y0_1_4 y0_1_5) (3 : Int) y3_1_6).bind fun v_151 =>
      some (v_151.1, v_151.2)

def syntax_parser_row_l0 (K : Nat) (rec_syntax_parser_alternative : syntax_parser → Option (Int × syntax_parser)) : Nat → ByteArray → Int → Int → Int → Int → (List api_Node) → (List Int) → Option (Int × syntax_parser)
  | 0 => fun _ _ _ _ _ _ _ => none
  | k + 1 => fun y0_0_0 y0_0_1 y0_0_2 y0_0_3 y0_0_5 y0_0_4 y3_0_6 =>
    (syntax_reader_peek K (syntax_parser.mk (syntax_reader.mk y0_0_0 y0_0_1 y0_0_2 y0_0_3) y0_0_4 y0_0_5)).bind fun v_143 =>
    bif (!v_143.2) then
      syntax_parser_row_j1 K rec_syntax_parser_alternative ((syntax_parser.mk (syntax_reader.mk y0_0_0 y0_0_1 y0_0_2 y0_0_3) y0_0_4 y0_0_5).reader.s) ((syntax_parser.mk (syntax_reader.mk y0_0_0 y0_0_1 y0_0_2 y0_0_3) y0_0_4 y0_0_5).reader.at_) ((syntax_parser.mk (syntax_reader.mk y0_0_0 y0_0_1 y0_0_2 y0_0_3) y0_0_4 y0_0_5).reader.where_) ((syntax_parser.mk (syntax_reader.mk y0_0_0 y0_0_1 y0_0_2 y0_0_3) y0_0_4 y0_0_5).reader.e) ((syntax_parser.mk (syntax_reader.mk y0_0_0 y0_0_1 y0_0_2 y0_0_3) y0_0_4 y0_0_5).deep) ((syntax_parser.mk (syntax_reader.mk y0_0_0 y0_0_1 y0_0_2 y0_0_3) y0_0_4 y0_0_5).nodes) y3_0_6
    else
      bif (v_143.1 == (124 : Int)) then
        syntax_parser_row_j1 K rec_syntax_parser_alternative ((syntax_parser.mk (syntax_reader.mk y0_0_0 y0_0_1 y0_0_2 y0_0_3) y0_0_4 y0_0_5).reader.s) ((syntax_parser.mk (syntax_reader.mk y0_0_0 y0_0_1 y0_0_2 y0_0_3) y0_0_4 y0_0_5).reader.at_) ((syntax_parser.mk (syntax_reader.mk y0_0_0 y0_0_1 y0_0_2 y0_0_3) y0_0_4 y0_0_5).reader.where_) ((syntax_parser.mk (syntax_reader.mk y0_0_0 y0_0_1 y0_0_2 y0_0_3) y0_0_4 y0_0_5).reader.e) ((syntax_parser.mk (syntax_reader.mk y0_0_0 y0_0_1 y0_0_2 y0_0_3) y0_0_4 y0_0_5).deep) ((syntax_parser.mk (syntax_reader.mk y0_0_0 y0_0_1 y0_0_2 y0_0_3) y0_0_4 y0_0_5).nodes) y3_0_6
      else
        bif (v_143.1 == (41 : Int)) then
          syntax_parser_row_j1 K rec_syntax_parser_alternative ((syntax_parser.mk (syntax_reader.mk y0_0_0 y0_0_1 y0_0_2 y0_0_3) y0_0_4 y0_0_5).reader.s) ((syntax_parser.mk (syntax_reader.mk y0_0_0 y0_0_1 y0_0_2 y0_0_3) y0_0_4 y0_0_5).reader.at_) ((syntax_parser.mk (syntax_reader.mk y0_0_0 y0_0_1 y0_0_2 y0_0_3) y0_0_4 y0_0_5).reader.where_) ((syntax_parser.mk (syntax_reader.mk y0_0_0 y0_0_1 y0_0_2 y0_0_3) y0_0_4 y0_0_5).reader.e) ((syntax_parser.mk (syntax_reader.mk y0_0_0 y0_0_1 y0_0_2 y0_0_3) y0_0_4 y0_0_5).deep) ((syntax_parser.mk (syntax_reader.mk y0_0_0 y0_0_1 y0_0_2 y0_0_3) y0_0_4 y0_0_5).nodes) y3_0_6
        else
          (syntax_parser_item K rec_syntax_parser_alternative (syntax_parser.mk (syntax_reader.mk y0_0_0 y0_0_1 y0_0_2 y0_0_3) y0_0_4 y0_0_5)).bind fun v_156 =>
          (ck (roomy 8 (y3_0_6.length + [v_156.1].length) = true)).bind fun _ =>
          syntax_parser_row_l0 K rec_syntax_parser_alternative k v_156.2.reader.s v_156.2.reader.at_ v_156.2.reader.where_ v_156.2.reader.e v_156.2.deep v_156.2.nodes (y3_0_6 ++ [v_156.1])

def syntax_parser_row (K : Nat) (rec_syntax_parser_alternative : syntax_parser → Option (Int × syntax_parser)) (x0 : syntax_parser) : Option (Int × syntax_parser) :=
  syntax_parser_row_l0 K rec_syntax_parser_alternative K x0.reader.s x0.reader.at_ x0.reader.where_ x0.reader.e x0.deep x0.nodes []

def syntax_parser_alternative_l0 (K : Nat) (rec_syntax_parser_alternative : syntax_parser → Option (Int × syntax_parser)) : Nat → ByteArray → Int → Int → Int → Int → (List api_Node) → (List Int) → Option (Int × syntax_parser)
  | 0 => fun _ _ _ _ _ _ _ => none
  | k + 1 => fun y0_0_0 y0_0_1 y0_0_2 y0_0_3 y0_0_5 y0_0_4 y3_0_6 =>
    (syntax_reader_skip K (syntax_parser.mk (syntax_reader.mk y0_0_0 y0_0_1 y0_0_2 y0_0_3) y0_0_4 y0_0_5) (124 : Int)).bind fun v_111 =>
    bif v_111.1 then
      (syntax_parser_row K rec_syntax_parser_alternative v_111.2).bind fun v_115 =>
      (ck (roomy 8 (y3_0_6.length + [v_115.1].length) = true)).bind fun _ =>
      syntax_parser_alternative_l0 K rec_syntax_parser_alternative k v_115.2.reader.s v_115.2.reader.at_ v_115.2.reader.where_ v_115.2.reader.e v_115.2.deep v_115.2.nodes (y3_0_6 ++ [v_115.1])
    else
      (syntax_parser_join K v_111.2 (4 : Int) y3_0_6).bind fun v_120 =>
      some (v_120.1, v_120.2)

def syntax_parser_alternative_b (K : Nat) (rec_syntax_parser_alternative : syntax_parser → Option (Int × syntax_parser)) (x0 : syntax_parser) : Option (Int × syntax_parser) :=
  (syntax_parser_row K rec_syntax_parser_alternative x0).bind fun v_107 =>
  syntax_parser_alternative_l0 K rec_syntax_parser_alternative K v_107.2.reader.s v_107.2.reader.at_ v_107.2.reader.where_ v_107.2.reader.e v_107.2.deep v_107.2.nodes [v_107.1]

def syntax_parser_alternative_r (K : Nat) : Nat → syntax_parser → Option (Int × syntax_parser)
  | 0 => fun _ => none
  | n + 1 => syntax_parser_alternative_b K (syntax_parser_alternative_r K n)

def syntax_parser_alternative (K : Nat) (x0 : syntax_parser) : Option (Int × syntax_parser) := syntax_parser_alternative_r K K x0

def syntax_Parse_j0 (K : Nat) (y5_0_0 : ByteArray) (y5_0_1 : Int) (y5_0_2 : Int) (y5_0_3 : Int) (y5_0_5 : Int) (y5_0_4 : List api_Node) : Option ((List api_Node) × Int × Int) :=
    bif (y5_0_3 != (0 : Int)) then
      some ([], y5_0_2, y5_0_3)
    else
      bif (decide ((y5_0_4.length : Int) > (1024 : Int))) then
        some ([], (0 : Int), (3 : Int))
      else
        some (y5_0_4, (0 : Int), (0 : Int))

def syntax_Parse (K : Nat) (x0 : ByteArray) : Option ((List api_Node) × Int × Int) :=
  bif (decide ((x0.size : Int) > (1024 : Int))) then
    some ([], (0 : Int), (3 : Int))
  else
    (syntax_parser_alternative K (syntax_parser.mk (syntax_reader.mk x0 (0 : Int) (0 : Int) (0 : Int)) [] (0 : Int))).bind fun v_139 =>
    (syntax_reader_peek K v_139.2).bind fun v_142 =>
    bif v_142.2 then
      (syntax_reader_fail K v_139.2 (41 : Int) v_139.2.reader.at_).bind fun v_149 =>
      syntax_Parse_j0 K v_149.reader.s v_149.reader.at_ v_149.reader.where_ v_149.reader.e v_149.deep v_149.nodes
    else
      syntax_Parse_j0 K v_139.2.reader.s v_139.2.reader.at_ v_139.2.reader.where_ v_139.2.reader.e v_139.2.deep v_139.2.nodes

def raddleref01_Has (K : Nat) (x0 : Arr4) (x1 : Int) : Option Bool :=
  (ck (0 ≤ (IntKind.u8.wrap (Int.tdiv x1 (64 : Int))) ∧ (IntKind.u8.wrap (Int.tdiv x1 (64 : Int))) < 4)).bind fun _ =>
  (ck (0 ≤ (Int.tmod x1 (64 : Int)))).bind fun _ =>
  some ((Int.tmod (Int.fdiv (Arr4.get x0 (IntKind.u8.wrap (Int.tdiv x1 (64 : Int)))) (2 ^ min (Int.toNat (Int.tmod x1 (64 : Int))) IntKind.u64.bits)) (2 : Int)) == (1 : Int))

def raddleref01_with (K : Nat) (x0 : Arr4) (x1 : Int) : Option Arr4 :=
  (raddleref01_Has K x0 x1).bind fun v_31 =>
  bif (!v_31) then
    (ck (0 ≤ (IntKind.u8.wrap (Int.tdiv x1 (64 : Int))) ∧ (IntKind.u8.wrap (Int.tdiv x1 (64 : Int))) < 4)).bind fun _ =>
    (ck (0 ≤ (Int.tmod x1 (64 : Int)))).bind fun _ =>
    some (Arr4.set x0 (IntKind.u8.wrap (Int.tdiv x1 (64 : Int))) (IntKind.u64.wrap ((Arr4.get x0 (IntKind.u8.wrap (Int.tdiv x1 (64 : Int)))) + (IntKind.u64.wrap ((1 : Int) * 2 ^ min (Int.toNat (Int.tmod x1 (64 : Int))) IntKind.u64.bits)))))
  else
    some x0

def raddleref01_Of_l0 (K : Nat) : Nat → (List Int) → Int → Arr4 → Arr4 → Option Arr4
  | 0 => fun _ _ _ _ => none
  | k + 1 => fun x0 x4_0_3 y2_0_1 y3_0_2 =>
    bif (decide (x4_0_3 < (x0.length : Int))) then
      (geti x0 x4_0_3).bind fun v_105 =>
      (raddleref01_with K y3_0_2 v_105).bind fun v_107 =>
      raddleref01_Of_l0 K k x0 (IntKind.i64.wrap (x4_0_3 + (1 : Int))) y2_0_1 v_107
    else
      some y3_0_2

def raddleref01_Of (K : Nat) (x0 : List Int) : Option Arr4 :=
  raddleref01_Of_l0 K K x0 (0 : Int) (Arr4.mk 0 0 0 0) (Arr4.mk 0 0 0 0)

def raddlelaw04_one (K : Nat) (x0 : Int) : Option api_Node :=
  (raddleref01_Of K [x0]).bind fun v_11 =>
  some (api_Node.mk (2 : Int) v_11 [] (0 : Int) (0 : Int) (⟨#[]⟩ : ByteArray))

def raddleref04_Same_j1 (K : Nat) : Option Bool :=
    some false

def raddleref04_Same_l2 (K : Nat) (go0 : (List api_Node) → (List api_Node) → Int → Option Bool) : Nat → (List api_Node) → (List api_Node) → Int → Int → Arr4 → Arr4 → Bool → Int → Int → Bool → Int → Int → Bool → ByteArray → ByteArray → Bool → (List Int) → Int → (List Int) → Int → Bool → Int → Arr4 → (List Int) → Int → Int → ByteArray → Int → Arr4 → (List Int) → Int → Int → ByteArray → Option Bool
  | 0 => fun _ _ _ _ _ _ _ _ _ _ _ _ _ _ _ _ _ _ _ _ _ _ _ _ _ _ _ _ _ _ _ _ _ => none
  | k + 1 => fun x0 x1 x5_2_2 x8_2_15 x35_2_16 x37_2_17 x38_2_18 x42_2_19 x44_2_20 x45_2_21 x49_2_22 x51_2_23 x52_2_24 x56_2_25 x58_2_26 x59_2_27 x63_2_28 x64_2_29 x66_2_30 x67_2_31 x68_2_32 y6_2_3 y6_2_4 y6_2_5 y6_2_6 y6_2_7 y6_2_8 y7_2_9 y7_2_10 y7_2_11 y7_2_12 y7_2_13 y7_2_14 =>
    bif (decide (x8_2_15 < (y6_2_5.length : Int))) then
      (geti y6_2_5 x8_2_15).bind fun v_396 =>
      (geti y7_2_11 x8_2_15).bind fun v_398 =>
      bif (v_396 != v_398) then
        some false
      else
        raddleref04_Same_l2 K go0 k x0 x1 x5_2_2 (IntKind.i64.wrap (x8_2_15 + (1 : Int))) x35_2_16 x37_2_17 x38_2_18 x42_2_19 x44_2_20 x45_2_21 x49_2_22 x51_2_23 x52_2_24 x56_2_25 x58_2_26 x59_2_27 x63_2_28 x64_2_29 x66_2_30 x67_2_31 x68_2_32 y6_2_3 y6_2_4 y6_2_5 y6_2_6 y6_2_7 y6_2_8 y7_2_9 y7_2_10 y7_2_11 y7_2_12 y7_2_13 y7_2_14
    else
      go0 x0 x1 (IntKind.i64.wrap (x5_2_2 + (1 : Int)))

def raddleref04_Same_l0 (K : Nat) : Nat → (List api_Node) → (List api_Node) → Int → Option Bool
  | 0 => fun _ _ _ => none
  | k + 1 => fun x0 x1 x5_0_2 =>
    bif (decide (x5_0_2 < (x0.length : Int))) then
      (geti x0 x5_0_2).bind fun v_378 =>
      (geti x1 x5_0_2).bind fun v_381 =>
      bif (v_378.Op != v_381.Op) then
        raddleref04_Same_j1 K
      else
        bif (!(Arr4.same v_378.S v_381.S)) then
          raddleref04_Same_j1 K
        else
          bif (v_378.Lo != v_381.Lo) then
            raddleref04_Same_j1 K
          else
            bif (v_378.Hi != v_381.Hi) then
              raddleref04_Same_j1 K
            else
              bif (!(v_378.Name.toList == v_381.Name.toList)) then
                raddleref04_Same_j1 K
              else
                bif ((v_378.L.length : Int) != (v_381.L.length : Int)) then
                  raddleref04_Same_j1 K
                else
                  raddleref04_Same_l2 K (raddleref04_Same_l0 K k) K x0 x1 x5_0_2 (0 : Int) v_378.S v_381.S (!(Arr4.same v_378.S v_381.S)) v_378.Lo v_381.Lo (v_378.Lo != v_381.Lo) v_378.Hi v_381.Hi (v_378.Hi != v_381.Hi) v_378.Name v_381.Name (!(v_378.Name.toList == v_381.Name.toList)) v_378.L (v_378.L.length : Int) v_381.L (v_381.L.length : Int) ((v_378.L.length : Int) != (v_381.L.length : Int)) v_378.Op v_378.S v_378.L v_378.Lo v_378.Hi v_378.Name v_381.Op v_381.S v_381.L v_381.Lo v_381.Hi v_381.Name
    else
      some true

def raddleref04_Same (K : Nat) (x0 : List api_Node) (x1 : List api_Node) : Option Bool :=
  bif ((x0.length : Int) != (x1.length : Int)) then
    some false
  else
    raddleref04_Same_l0 K K x0 x1 (0 : Int)

def raddlelaw04_shown (K : Nat) : Option Bool :=
  (syntax_Parse K (⟨#[97, 98, 124, 99, 42]⟩ : ByteArray)).bind fun v_77 =>
  (syntax_Parse K (⟨#[97, 123, 50, 44, 49, 125]⟩ : ByteArray)).bind fun v_79 =>
  (syntax_Parse K (⟨#[97, 47, 98]⟩ : ByteArray)).bind fun v_81 =>
  bif (v_77.2.2 == (0 : Int)) then
    bif (v_79.2.2 == (45 : Int)) then
      bif (v_79.2.1 == (1 : Int)) then
        bif (v_81.2.2 == (42 : Int)) then
          bif (v_81.2.1 == (1 : Int)) then
            (raddlelaw04_one K (97 : Int)).bind fun v_88 =>
            (raddlelaw04_one K (98 : Int)).bind fun v_90 =>
            (raddlelaw04_one K (99 : Int)).bind fun v_92 =>
            (raddleref04_Same K v_77.1 [v_88, v_90, (api_Node.mk (3 : Int) (Arr4.mk 0 0 0 0) [(0 : Int), (1 : Int)] (0 : Int) (0 : Int) (⟨#[]⟩ : ByteArray)), v_92, (api_Node.mk (5 : Int) (Arr4.mk 0 0 0 0) [(3 : Int)] (0 : Int) (-1 : Int) (⟨#[]⟩ : ByteArray)), (api_Node.mk (4 : Int) (Arr4.mk 0 0 0 0) [(2 : Int), (4 : Int)] (0 : Int) (0 : Int) (⟨#[]⟩ : ByteArray))]).bind fun v_94 =>
            some v_94
          else
            some false
        else
          some false
      else
        some false
    else
      some false
  else
    some false

def raddlelaw04_SyntaxGroup_j1 (K : Nat) (x2_1_0 : Bool) : Option Bool :=
    some x2_1_0

def raddlelaw04_SyntaxGroup_j2 (K : Nat) (x2_2_0 : Bool) : Option Bool :=
    some x2_2_0

def raddlelaw04_SyntaxGroup_j3 (K : Nat) (x2_3_0 : Bool) : Option Bool :=
    some x2_3_0

def raddlelaw04_SyntaxGroup_l0 (K : Nat) : Nat → Bool → ByteArray → Int → Int → Int → Option Bool
  | 0 => fun _ _ _ _ _ => none
  | k + 1 => fun x3_0_0 x4_0_1 x5_0_2 x20_0_3 x21_0_4 =>
    bif (decide (x21_0_4 < x20_0_3)) then
      (ck (0 ≤ x21_0_4 ∧ x21_0_4 < x4_0_1.size)).bind fun _ =>
      bif ((bt x4_0_1 x21_0_4) == (40 : Int)) then
        raddlelaw04_SyntaxGroup_l0 K k x3_0_0 x4_0_1 (IntKind.i64.wrap (x5_0_2 + (1 : Int))) x20_0_3 (IntKind.i64.wrap (x21_0_4 + (1 : Int)))
      else
        raddlelaw04_SyntaxGroup_l0 K k x3_0_0 x4_0_1 x5_0_2 x20_0_3 (IntKind.i64.wrap (x21_0_4 + (1 : Int)))
    else
      bif (decide (x5_0_2 ≥ (64 : Int))) then
        some x3_0_0
      else
        (syntax_Parse K x4_0_1).bind fun v_292 =>
        (ck ((⟨#[40]⟩ : ByteArray).size + x4_0_1.size ≤ 9223372036854775807)).bind fun _ =>
        (ck (((⟨#[40]⟩ : ByteArray) ++ x4_0_1).size + (⟨#[41]⟩ : ByteArray).size ≤ 9223372036854775807)).bind fun _ =>
        (syntax_Parse K (((⟨#[40]⟩ : ByteArray) ++ x4_0_1) ++ (⟨#[41]⟩ : ByteArray))).bind fun v_296 =>
        bif (v_292.2.2 == (0 : Int)) then
          bif x3_0_0 then
            bif (v_296.2.2 == (0 : Int)) then
              (raddleref04_Same K v_292.1 v_296.1).bind fun v_301 =>
              raddlelaw04_SyntaxGroup_j1 K v_301
            else
              raddlelaw04_SyntaxGroup_j1 K false
          else
            raddlelaw04_SyntaxGroup_j1 K false
        else
          bif (v_292.2.2 == (40 : Int)) then
            bif x3_0_0 then
              raddlelaw04_SyntaxGroup_j2 K (v_296.2.2 != (0 : Int))
            else
              raddlelaw04_SyntaxGroup_j2 K false
          else
            bif (v_292.2.2 == (41 : Int)) then
              bif x3_0_0 then
                bif (v_296.2.2 != (0 : Int)) then
                  bif (v_296.2.1 == (IntKind.i64.wrap (v_292.2.1 + (1 : Int)))) then
                    raddlelaw04_SyntaxGroup_j3 K true
                  else
                    bif (decide (v_292.2.1 ≥ (0 : Int))) then
                      bif (decide (v_292.2.1 < (x4_0_1.size : Int))) then
                        (ck (0 ≤ v_292.2.1 ∧ v_292.2.1 < x4_0_1.size)).bind fun _ =>
                        raddlelaw04_SyntaxGroup_j3 K ((bt x4_0_1 v_292.2.1) == (41 : Int))
                      else
                        raddlelaw04_SyntaxGroup_j3 K false
                    else
                      raddlelaw04_SyntaxGroup_j3 K false
                else
                  bif (decide (v_292.2.1 ≥ (0 : Int))) then
                    bif (decide (v_292.2.1 < (x4_0_1.size : Int))) then
                      (ck (0 ≤ v_292.2.1 ∧ v_292.2.1 < x4_0_1.size)).bind fun _ =>
                      raddlelaw04_SyntaxGroup_j3 K ((bt x4_0_1 v_292.2.1) == (41 : Int))
                    else
                      raddlelaw04_SyntaxGroup_j3 K false
                  else
                    raddlelaw04_SyntaxGroup_j3 K false
              else
                raddlelaw04_SyntaxGroup_j3 K false
            else
              bif x3_0_0 then
                bif (v_296.2.2 == v_292.2.2) then
                  some (v_296.2.1 == (IntKind.i64.wrap (v_292.2.1 + (1 : Int))))
                else
                  some false
              else
                some false

def raddlelaw04_SyntaxGroup (K : Nat) (x0 : ByteArray) : Option Bool :=
  (raddlelaw04_shown K).bind fun v_285 =>
  (ck (0 ≤ (if (500 : Int) < (x0.size : Int) then (500 : Int) else (x0.size : Int)) ∧ 0 ≤ (Int.toNat (if (500 : Int) < (x0.size : Int) then (500 : Int) else (x0.size : Int))) ∧ (Int.toNat (if (500 : Int) < (x0.size : Int) then (500 : Int) else (x0.size : Int))) ≤ x0.size)).bind fun _ =>
  raddlelaw04_SyntaxGroup_l0 K K v_285 (x0.extract 0 (Int.toNat (if (500 : Int) < (x0.size : Int) then (500 : Int) else (x0.size : Int)))) (0 : Int) ((x0.extract 0 (Int.toNat (if (500 : Int) < (x0.size : Int) then (500 : Int) else (x0.size : Int)))).size : Int) (0 : Int)

end Go.Rv

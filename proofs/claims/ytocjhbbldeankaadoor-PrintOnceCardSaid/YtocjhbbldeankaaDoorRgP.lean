/- What each function of the program computes, as plain Lean: printed by a program of ours from the translation. -/
import Derived.Test.YtocjhbbldeankaaDoorRvCC
namespace Go.Rv
set_option linter.unusedVariables false
def deBruijn : List Int := [0, 1, 56, 2, 57, 49, 28, 3, 61, 58, 42, 50, 38, 29, 17, 4, 62, 47, 59, 36, 45, 43, 51, 22, 53, 39, 33, 30, 24, 18, 12, 5, 63, 55, 48, 27, 60, 41, 37, 16, 46, 35, 44, 21, 52, 32, 23, 11, 54, 26, 40, 15, 34, 20, 31, 10, 25, 14, 19, 9, 13, 8, 7, 6]
abbrev deBruijnD : List DC := deBruijn.map fun x => DC.ex (.int .u8 x)
def deBruijn32 : List Int := [0, 1, 28, 2, 29, 14, 24, 3, 30, 22, 20, 15, 25, 17, 4, 8, 31, 27, 13, 23, 21, 19, 16, 7, 26, 12, 18, 6, 11, 5, 10, 9]
abbrev deBruijn32D : List DC := deBruijn32.map fun x => DC.ex (.int .u8 x)
structure aNd where
 Op : Int
 S : Arr4
 L : List Int
 Lo : Int
 Hi : Int
 Name : ByteArray
 deriving DecidableEq
abbrev c_aNd (x : aNd) : List DC := [.int .u8 x.Op, .int .u64 x.S.a0, .int .u64 x.S.a1, .int .u64 x.S.a2, .int .u64 x.S.a3, .sl false 1 (x.L.map (cI .i64)), .int .i64 x.Lo, .int .i64 x.Hi, .str x.Name]
structure r4r where
 s : ByteArray
 at_ : Int
 nodes : List aNd
 deep : Int
 e : Int
 where_ : Int
 deriving DecidableEq
structure syr where
 s : ByteArray
 at_ : Int
 where_ : Int
 e : Int
 deriving DecidableEq
structure syp where
 reader : syr
 nodes : List aNd
 deep : Int
 deriving DecidableEq
def r4r_ends (K : Nat) (x0 : r4r) : Option Bool :=
 bif (decide (x0.at_ ≥ (x0.s.size : Int))) then
 some true
 else
 some (x0.e != (0 : Int))
def r4r_put (K : Nat) (x0 : r4r) (x1 : aNd) : Option (Int × r4r) :=
 (ck (roomy 96 (x0.nodes.length + [x1].length) = true)).bind fun _ =>
 some ((IntKind.i64.wrap (((x0.nodes ++ [x1]).length : Int) - (1 : Int))), (r4r.mk x0.s x0.at_ (x0.nodes ++ [x1]) x0.deep x0.e x0.where_))
def r4_digit (K : Nat) (x0 : Int) : Option Bool :=
 bif (decide (x0 ≥ (48 : Int))) then
 some (decide (x0 ≤ (57 : Int)))
 else
 some false
def r4_special (K : Nat) : Option ByteArray :=
 some (⟨#[124, 42, 43, 63, 123, 125, 40, 41, 91, 93, 46, 92, 47, 36, 94, 34]⟩ : ByteArray)
def r4_in_l0 (K : Nat) : Nat → Int → ByteArray → Int → Option Bool
 | 0 => fun _ _ _ => none
 | k + 1 => fun x0 x1 x5_0_2 =>
 bif (decide (x5_0_2 < (x1.size : Int))) then
 (ck (0 ≤ x5_0_2 ∧ x5_0_2 < x1.size)).bind fun _ =>
 bif ((bt x1 x5_0_2) == x0) then
 some true
 else
 r4_in_l0 K k x0 x1 (IntKind.i64.wrap (x5_0_2 + (1 : Int)))
 else
 some false
def r4_in (K : Nat) (x0 : Int) (x1 : ByteArray) : Option Bool :=
 r4_in_l0 K K x0 x1 (0 : Int)
def r4r_one (K : Nat) (x0 : r4r) : Option (Int × r4r) :=
 (ck (0 ≤ x0.at_ ∧ x0.at_ < x0.s.size)).bind fun _ =>
 bif ((bt x0.s x0.at_) != (92 : Int)) then
 some ((bt x0.s x0.at_), (r4r.mk x0.s (IntKind.i64.wrap (x0.at_ + (1 : Int))) x0.nodes x0.deep x0.e x0.where_))
 else
 none
def r1_Has (K : Nat) (x0 : Arr4) (x1 : Int) : Option Bool :=
 (ck (0 ≤ (IntKind.u8.wrap (Int.tdiv x1 (64 : Int))) ∧ (IntKind.u8.wrap (Int.tdiv x1 (64 : Int))) < 4)).bind fun _ =>
 (ck (0 ≤ (Int.tmod x1 (64 : Int)))).bind fun _ =>
 some ((Int.tmod (Int.fdiv (Arr4.get x0 (IntKind.u8.wrap (Int.tdiv x1 (64 : Int)))) (2 ^ min (Int.toNat (Int.tmod x1 (64 : Int))) IntKind.u64.bits)) (2 : Int)) == (1 : Int))
def r1_with (K : Nat) (x0 : Arr4) (x1 : Int) : Option Arr4 :=
 (r1_Has K x0 x1).bind fun v_31 =>
 bif (!v_31) then
 (ck (0 ≤ (IntKind.u8.wrap (Int.tdiv x1 (64 : Int))) ∧ (IntKind.u8.wrap (Int.tdiv x1 (64 : Int))) < 4)).bind fun _ =>
 (ck (0 ≤ (Int.tmod x1 (64 : Int)))).bind fun _ =>
 some (Arr4.set x0 (IntKind.u8.wrap (Int.tdiv x1 (64 : Int))) (IntKind.u64.wrap ((Arr4.get x0 (IntKind.u8.wrap (Int.tdiv x1 (64 : Int)))) + (IntKind.u64.wrap ((1 : Int) * 2 ^ min (Int.toNat (Int.tmod x1 (64 : Int))) IntKind.u64.bits)))))
 else
 some x0
def r1_Of_l0 (K : Nat) : Nat → (List Int) → Int → Arr4 → Arr4 → Option Arr4
 | 0 => fun _ _ _ _ => none
 | k + 1 => fun x0 x4_0_3 y2_0_1 y3_0_2 =>
 bif (decide (x4_0_3 < (x0.length : Int))) then
 (geti x0 x4_0_3).bind fun v_105 =>
 (r1_with K y3_0_2 v_105).bind fun v_107 =>
 r1_Of_l0 K k x0 (IntKind.i64.wrap (x4_0_3 + (1 : Int))) y2_0_1 v_107
 else
 some y3_0_2
def r1_Of (K : Nat) (x0 : List Int) : Option Arr4 :=
 r1_Of_l0 K K x0 (0 : Int) (Arr4.mk 0 0 0 0) (Arr4.mk 0 0 0 0)
def r4r_group (K : Nat) (rec_r4r_alternative : r4r → Option (Int × r4r)) (x0 : r4r) : Option (Int × r4r) :=
 bif (decide (x0.deep ≥ (64 : Int))) then
 none
 else
 (rec_r4r_alternative (r4r.mk x0.s (IntKind.i64.wrap (x0.at_ + (1 : Int))) x0.nodes (IntKind.i64.wrap (x0.deep + (1 : Int))) x0.e x0.where_)).bind fun v_34 =>
 (r4r_ends K (r4r.mk v_34.2.s v_34.2.at_ v_34.2.nodes (IntKind.i64.wrap (v_34.2.deep - (1 : Int))) v_34.2.e v_34.2.where_)).bind fun v_37 =>
 bif v_37 then
 none
 else
 some (v_34.1, (r4r.mk ((r4r.mk v_34.2.s v_34.2.at_ v_34.2.nodes (IntKind.i64.wrap (v_34.2.deep - (1 : Int))) v_34.2.e v_34.2.where_).s) (IntKind.i64.wrap ((r4r.mk v_34.2.s v_34.2.at_ v_34.2.nodes (IntKind.i64.wrap (v_34.2.deep - (1 : Int))) v_34.2.e v_34.2.where_).at_ + (1 : Int))) ((r4r.mk v_34.2.s v_34.2.at_ v_34.2.nodes (IntKind.i64.wrap (v_34.2.deep - (1 : Int))) v_34.2.e v_34.2.where_).nodes) ((r4r.mk v_34.2.s v_34.2.at_ v_34.2.nodes (IntKind.i64.wrap (v_34.2.deep - (1 : Int))) v_34.2.e v_34.2.where_).deep) ((r4r.mk v_34.2.s v_34.2.at_ v_34.2.nodes (IntKind.i64.wrap (v_34.2.deep - (1 : Int))) v_34.2.e v_34.2.where_).e) ((r4r.mk v_34.2.s v_34.2.at_ v_34.2.nodes (IntKind.i64.wrap (v_34.2.deep - (1 : Int))) v_34.2.e v_34.2.where_).where_)))
def r4r_atom_j0 (K : Nat) (rec_r4r_alternative : r4r → Option (Int × r4r)) (x0 : r4r) : Option (Int × r4r) :=
 none
def r4r_atom_j2 (K : Nat) (rec_r4r_alternative : r4r → Option (Int × r4r)) (x0 : r4r) : Option (Int × r4r) :=
 none
def r4r_atom_j3 (K : Nat) (rec_r4r_alternative : r4r → Option (Int × r4r)) (x0 : r4r) : Option (Int × r4r) :=
 (r4r_one K x0).bind fun v_220 =>
 bif (v_220.2.e != (0 : Int)) then
 none
 else
 (r1_Of K [v_220.1]).bind fun v_224 =>
 (r4r_put K v_220.2 (aNd.mk (2 : Int) v_224 [] (0 : Int) (0 : Int) (⟨#[]⟩ : ByteArray))).bind fun v_226 =>
 some (v_226.1, v_226.2)
def r4r_atom_j1 (K : Nat) (rec_r4r_alternative : r4r → Option (Int × r4r)) (x3_1_6 : Int) (x0 : r4r) : Option (Int × r4r) :=
 bif (x3_1_6 == (47 : Int)) then
 r4r_atom_j2 K rec_r4r_alternative x0
 else
 bif (x3_1_6 == (36 : Int)) then
 r4r_atom_j2 K rec_r4r_alternative x0
 else
 bif (x3_1_6 != (92 : Int)) then
 (r4_special K).bind fun v_215 =>
 (r4_in K x3_1_6 v_215).bind fun v_217 =>
 bif v_217 then
 none
 else
 r4r_atom_j3 K rec_r4r_alternative x0
 else
 r4r_atom_j3 K rec_r4r_alternative x0
def r4r_atom (K : Nat) (rec_r4r_alternative : r4r → Option (Int × r4r)) (x0 : r4r) : Option (Int × r4r) :=
 (ck (0 ≤ x0.at_ ∧ x0.at_ < x0.s.size)).bind fun _ =>
 bif ((bt x0.s x0.at_) == (40 : Int)) then
 (r4r_group K rec_r4r_alternative x0).bind fun v_195 =>
 some (v_195.1, v_195.2)
 else
 bif ((bt x0.s x0.at_) == (91 : Int)) then
 none
 else
 bif ((bt x0.s x0.at_) == (46 : Int)) then
 none
 else
 bif ((bt x0.s x0.at_) == (123 : Int)) then
 bif (decide ((IntKind.i64.wrap (x0.at_ + (1 : Int))) ≥ (x0.s.size : Int))) then
 r4r_atom_j0 K rec_r4r_alternative x0
 else
 (ck (0 ≤ (IntKind.i64.wrap (x0.at_ + (1 : Int))) ∧ (IntKind.i64.wrap (x0.at_ + (1 : Int))) < x0.s.size)).bind fun _ =>
 (r4_digit K (bt x0.s (IntKind.i64.wrap (x0.at_ + (1 : Int))))).bind fun v_209 =>
 bif (!v_209) then
 r4r_atom_j0 K rec_r4r_alternative x0
 else
 r4r_atom_j1 K rec_r4r_alternative (bt x0.s x0.at_) x0
 else
 r4r_atom_j1 K rec_r4r_alternative (bt x0.s x0.at_) x0
def r4r_number_j2 (K : Nat) (y9000_2_0 : ByteArray) (y9000_2_1 : Int) (y9000_2_3 : Int) (y9000_2_4 : Int) (y9000_2_5 : Int) (y9000_2_2 : List aNd) : Option (Int × r4r) :=
 none
def r4r_number_j1 (K : Nat) (x3_1_6 : Int) (x0 : r4r) (y0_1_0 : ByteArray) (y0_1_1 : Int) (y0_1_3 : Int) (y0_1_4 : Int) (y0_1_5 : Int) (y0_1_2 : List aNd) : Option (Int × r4r) :=
 bif (decide ((IntKind.i64.wrap (y0_1_1 - x0.at_)) > (6 : Int))) then
 r4r_number_j2 K y0_1_0 y0_1_1 y0_1_3 y0_1_4 y0_1_5 y0_1_2
 else
 (ck (0 ≤ x0.at_ ∧ x0.at_ < y0_1_0.size)).bind fun _ =>
 bif ((bt y0_1_0 x0.at_) == (48 : Int)) then
 bif (decide ((IntKind.i64.wrap (y0_1_1 - x0.at_)) > (1 : Int))) then
 r4r_number_j2 K y0_1_0 y0_1_1 y0_1_3 y0_1_4 y0_1_5 y0_1_2
 else
 some (x3_1_6, (r4r.mk y0_1_0 y0_1_1 y0_1_2 y0_1_3 y0_1_4 y0_1_5))
 else
 some (x3_1_6, (r4r.mk y0_1_0 y0_1_1 y0_1_2 y0_1_3 y0_1_4 y0_1_5))
def r4r_number_l0 (K : Nat) : Nat → Int → r4r → ByteArray → Int → Int → Int → Int → (List aNd) → Option (Int × r4r)
 | 0 => fun _ _ _ _ _ _ _ _ => none
 | k + 1 => fun x3_0_6 x0 y0_0_0 y0_0_1 y0_0_3 y0_0_4 y0_0_5 y0_0_2 =>
 (r4r_ends K (r4r.mk y0_0_0 y0_0_1 y0_0_2 y0_0_3 y0_0_4 y0_0_5)).bind fun v_229 =>
 bif (!v_229) then
 (ck (0 ≤ (r4r.mk y0_0_0 y0_0_1 y0_0_2 y0_0_3 y0_0_4 y0_0_5).at_ ∧ (r4r.mk y0_0_0 y0_0_1 y0_0_2 y0_0_3 y0_0_4 y0_0_5).at_ < ((r4r.mk y0_0_0 y0_0_1 y0_0_2 y0_0_3 y0_0_4 y0_0_5).s).size)).bind fun _ =>
 (r4_digit K (bt ((r4r.mk y0_0_0 y0_0_1 y0_0_2 y0_0_3 y0_0_4 y0_0_5).s) ((r4r.mk y0_0_0 y0_0_1 y0_0_2 y0_0_3 y0_0_4 y0_0_5).at_))).bind fun v_233 =>
 bif v_233 then
 r4r_number_l0 K k (if (1000000 : Int) < (IntKind.i64.wrap ((IntKind.i64.wrap (x3_0_6 * (10 : Int))) + (IntKind.i64.wrap (IntKind.u8.wrap ((bt ((r4r.mk y0_0_0 y0_0_1 y0_0_2 y0_0_3 y0_0_4 y0_0_5).s) ((r4r.mk y0_0_0 y0_0_1 y0_0_2 y0_0_3 y0_0_4 y0_0_5).at_)) - (48 : Int)))))) then (1000000 : Int) else (IntKind.i64.wrap ((IntKind.i64.wrap (x3_0_6 * (10 : Int))) + (IntKind.i64.wrap (IntKind.u8.wrap ((bt ((r4r.mk y0_0_0 y0_0_1 y0_0_2 y0_0_3 y0_0_4 y0_0_5).s) ((r4r.mk y0_0_0 y0_0_1 y0_0_2 y0_0_3 y0_0_4 y0_0_5).at_)) - (48 : Int))))))) x0 ((r4r.mk y0_0_0 y0_0_1 y0_0_2 y0_0_3 y0_0_4 y0_0_5).s) (IntKind.i64.wrap ((r4r.mk y0_0_0 y0_0_1 y0_0_2 y0_0_3 y0_0_4 y0_0_5).at_ + (1 : Int))) ((r4r.mk y0_0_0 y0_0_1 y0_0_2 y0_0_3 y0_0_4 y0_0_5).deep) ((r4r.mk y0_0_0 y0_0_1 y0_0_2 y0_0_3 y0_0_4 y0_0_5).e) ((r4r.mk y0_0_0 y0_0_1 y0_0_2 y0_0_3 y0_0_4 y0_0_5).where_) ((r4r.mk y0_0_0 y0_0_1 y0_0_2 y0_0_3 y0_0_4 y0_0_5).nodes)
 else
 r4r_number_j1 K x3_0_6 x0 ((r4r.mk y0_0_0 y0_0_1 y0_0_2 y0_0_3 y0_0_4 y0_0_5).s) ((r4r.mk y0_0_0 y0_0_1 y0_0_2 y0_0_3 y0_0_4 y0_0_5).at_) ((r4r.mk y0_0_0 y0_0_1 y0_0_2 y0_0_3 y0_0_4 y0_0_5).deep) ((r4r.mk y0_0_0 y0_0_1 y0_0_2 y0_0_3 y0_0_4 y0_0_5).e) ((r4r.mk y0_0_0 y0_0_1 y0_0_2 y0_0_3 y0_0_4 y0_0_5).where_) ((r4r.mk y0_0_0 y0_0_1 y0_0_2 y0_0_3 y0_0_4 y0_0_5).nodes)
 else
 r4r_number_j1 K x3_0_6 x0 ((r4r.mk y0_0_0 y0_0_1 y0_0_2 y0_0_3 y0_0_4 y0_0_5).s) ((r4r.mk y0_0_0 y0_0_1 y0_0_2 y0_0_3 y0_0_4 y0_0_5).at_) ((r4r.mk y0_0_0 y0_0_1 y0_0_2 y0_0_3 y0_0_4 y0_0_5).deep) ((r4r.mk y0_0_0 y0_0_1 y0_0_2 y0_0_3 y0_0_4 y0_0_5).e) ((r4r.mk y0_0_0 y0_0_1 y0_0_2 y0_0_3 y0_0_4 y0_0_5).where_) ((r4r.mk y0_0_0 y0_0_1 y0_0_2 y0_0_3 y0_0_4 y0_0_5).nodes)
def r4r_number (K : Nat) (x0 : r4r) : Option (Int × r4r) :=
 r4r_number_l0 K K (0 : Int) x0 x0.s x0.at_ x0.deep x0.e x0.where_ x0.nodes
def r4r_bounds_j3 (K : Nat) (x0 : r4r) (x5_0_7 : Int) (x6_0_8 : Int) (y0_3_0 : ByteArray) (y0_3_1 : Int) (y0_3_3 : Int) (y0_3_4 : Int) (y0_3_5 : Int) (y0_3_2 : List aNd) : Option (Int × Int × r4r) :=
 none
def r4r_bounds_j4 (K : Nat) (x5_0_7 : Int) (x6_0_8 : Int) (y9000_4_2 : ByteArray) (y9000_4_3 : Int) (y9000_4_5 : Int) (y9000_4_6 : Int) (y9000_4_7 : Int) (y9000_4_4 : List aNd) : Option (Int × Int × r4r) :=
 some (x5_0_7, x6_0_8, (r4r.mk y9000_4_2 y9000_4_3 y9000_4_4 y9000_4_5 y9000_4_6 y9000_4_7))
def r4r_bounds_j0 (K : Nat) (x0 : r4r) (x5_0_7 : Int) (x6_0_8 : Int) (y0_0_0 : ByteArray) (y0_0_1 : Int) (y0_0_3 : Int) (y0_0_4 : Int) (y0_0_5 : Int) (y0_0_2 : List aNd) : Option (Int × Int × r4r) :=
 (r4r_ends K (r4r.mk y0_0_0 y0_0_1 y0_0_2 y0_0_3 y0_0_4 y0_0_5)).bind fun v_527 =>
 bif v_527 then
 none
 else
 (ck (0 ≤ (r4r.mk y0_0_0 y0_0_1 y0_0_2 y0_0_3 y0_0_4 y0_0_5).at_ ∧ (r4r.mk y0_0_0 y0_0_1 y0_0_2 y0_0_3 y0_0_4 y0_0_5).at_ < ((r4r.mk y0_0_0 y0_0_1 y0_0_2 y0_0_3 y0_0_4 y0_0_5).s).size)).bind fun _ =>
 bif ((bt ((r4r.mk y0_0_0 y0_0_1 y0_0_2 y0_0_3 y0_0_4 y0_0_5).s) ((r4r.mk y0_0_0 y0_0_1 y0_0_2 y0_0_3 y0_0_4 y0_0_5).at_)) != (125 : Int)) then
 none
 else
 bif (decide (x5_0_7 < (0 : Int))) then
 r4r_bounds_j3 K x0 x5_0_7 x6_0_8 ((r4r.mk y0_0_0 y0_0_1 y0_0_2 y0_0_3 y0_0_4 y0_0_5).s) (IntKind.i64.wrap ((r4r.mk y0_0_0 y0_0_1 y0_0_2 y0_0_3 y0_0_4 y0_0_5).at_ + (1 : Int))) ((r4r.mk y0_0_0 y0_0_1 y0_0_2 y0_0_3 y0_0_4 y0_0_5).deep) ((r4r.mk y0_0_0 y0_0_1 y0_0_2 y0_0_3 y0_0_4 y0_0_5).e) ((r4r.mk y0_0_0 y0_0_1 y0_0_2 y0_0_3 y0_0_4 y0_0_5).where_) ((r4r.mk y0_0_0 y0_0_1 y0_0_2 y0_0_3 y0_0_4 y0_0_5).nodes)
 else
 bif (decide (x5_0_7 > (4096 : Int))) then
 r4r_bounds_j3 K x0 x5_0_7 x6_0_8 ((r4r.mk y0_0_0 y0_0_1 y0_0_2 y0_0_3 y0_0_4 y0_0_5).s) (IntKind.i64.wrap ((r4r.mk y0_0_0 y0_0_1 y0_0_2 y0_0_3 y0_0_4 y0_0_5).at_ + (1 : Int))) ((r4r.mk y0_0_0 y0_0_1 y0_0_2 y0_0_3 y0_0_4 y0_0_5).deep) ((r4r.mk y0_0_0 y0_0_1 y0_0_2 y0_0_3 y0_0_4 y0_0_5).e) ((r4r.mk y0_0_0 y0_0_1 y0_0_2 y0_0_3 y0_0_4 y0_0_5).where_) ((r4r.mk y0_0_0 y0_0_1 y0_0_2 y0_0_3 y0_0_4 y0_0_5).nodes)
 else
 bif (decide (x6_0_8 > (4096 : Int))) then
 r4r_bounds_j3 K x0 x5_0_7 x6_0_8 ((r4r.mk y0_0_0 y0_0_1 y0_0_2 y0_0_3 y0_0_4 y0_0_5).s) (IntKind.i64.wrap ((r4r.mk y0_0_0 y0_0_1 y0_0_2 y0_0_3 y0_0_4 y0_0_5).at_ + (1 : Int))) ((r4r.mk y0_0_0 y0_0_1 y0_0_2 y0_0_3 y0_0_4 y0_0_5).deep) ((r4r.mk y0_0_0 y0_0_1 y0_0_2 y0_0_3 y0_0_4 y0_0_5).e) ((r4r.mk y0_0_0 y0_0_1 y0_0_2 y0_0_3 y0_0_4 y0_0_5).where_) ((r4r.mk y0_0_0 y0_0_1 y0_0_2 y0_0_3 y0_0_4 y0_0_5).nodes)
 else
 bif (x6_0_8 == (0 : Int)) then
 r4r_bounds_j3 K x0 x5_0_7 x6_0_8 ((r4r.mk y0_0_0 y0_0_1 y0_0_2 y0_0_3 y0_0_4 y0_0_5).s) (IntKind.i64.wrap ((r4r.mk y0_0_0 y0_0_1 y0_0_2 y0_0_3 y0_0_4 y0_0_5).at_ + (1 : Int))) ((r4r.mk y0_0_0 y0_0_1 y0_0_2 y0_0_3 y0_0_4 y0_0_5).deep) ((r4r.mk y0_0_0 y0_0_1 y0_0_2 y0_0_3 y0_0_4 y0_0_5).e) ((r4r.mk y0_0_0 y0_0_1 y0_0_2 y0_0_3 y0_0_4 y0_0_5).where_) ((r4r.mk y0_0_0 y0_0_1 y0_0_2 y0_0_3 y0_0_4 y0_0_5).nodes)
 else
 bif (decide (x6_0_8 > (0 : Int))) then
 bif (decide (x6_0_8 < x5_0_7)) then
 r4r_bounds_j3 K x0 x5_0_7 x6_0_8 ((r4r.mk y0_0_0 y0_0_1 y0_0_2 y0_0_3 y0_0_4 y0_0_5).s) (IntKind.i64.wrap ((r4r.mk y0_0_0 y0_0_1 y0_0_2 y0_0_3 y0_0_4 y0_0_5).at_ + (1 : Int))) ((r4r.mk y0_0_0 y0_0_1 y0_0_2 y0_0_3 y0_0_4 y0_0_5).deep) ((r4r.mk y0_0_0 y0_0_1 y0_0_2 y0_0_3 y0_0_4 y0_0_5).e) ((r4r.mk y0_0_0 y0_0_1 y0_0_2 y0_0_3 y0_0_4 y0_0_5).where_) ((r4r.mk y0_0_0 y0_0_1 y0_0_2 y0_0_3 y0_0_4 y0_0_5).nodes)
 else
 r4r_bounds_j4 K x5_0_7 x6_0_8 ((r4r.mk y0_0_0 y0_0_1 y0_0_2 y0_0_3 y0_0_4 y0_0_5).s) (IntKind.i64.wrap ((r4r.mk y0_0_0 y0_0_1 y0_0_2 y0_0_3 y0_0_4 y0_0_5).at_ + (1 : Int))) ((r4r.mk y0_0_0 y0_0_1 y0_0_2 y0_0_3 y0_0_4 y0_0_5).deep) ((r4r.mk y0_0_0 y0_0_1 y0_0_2 y0_0_3 y0_0_4 y0_0_5).e) ((r4r.mk y0_0_0 y0_0_1 y0_0_2 y0_0_3 y0_0_4 y0_0_5).where_) ((r4r.mk y0_0_0 y0_0_1 y0_0_2 y0_0_3 y0_0_4 y0_0_5).nodes)
 else
 r4r_bounds_j4 K x5_0_7 x6_0_8 ((r4r.mk y0_0_0 y0_0_1 y0_0_2 y0_0_3 y0_0_4 y0_0_5).s) (IntKind.i64.wrap ((r4r.mk y0_0_0 y0_0_1 y0_0_2 y0_0_3 y0_0_4 y0_0_5).at_ + (1 : Int))) ((r4r.mk y0_0_0 y0_0_1 y0_0_2 y0_0_3 y0_0_4 y0_0_5).deep) ((r4r.mk y0_0_0 y0_0_1 y0_0_2 y0_0_3 y0_0_4 y0_0_5).e) ((r4r.mk y0_0_0 y0_0_1 y0_0_2 y0_0_3 y0_0_4 y0_0_5).where_) ((r4r.mk y0_0_0 y0_0_1 y0_0_2 y0_0_3 y0_0_4 y0_0_5).nodes)
def r4r_bounds_j1 (K : Nat) (x0 : r4r) (x5_1_7 : Int) (y0_1_0 : ByteArray) (y0_1_1 : Int) (y0_1_3 : Int) (y0_1_4 : Int) (y0_1_5 : Int) (y0_1_2 : List aNd) : Option (Int × Int × r4r) :=
 r4r_bounds_j0 K x0 x5_1_7 (-1 : Int) y0_1_0 y0_1_1 y0_1_3 y0_1_4 y0_1_5 y0_1_2
def r4r_bounds_j2 (K : Nat) (x0 : r4r) (x5_2_7 : Int) (x6_2_8 : Int) (y0_2_0 : ByteArray) (y0_2_1 : Int) (y0_2_3 : Int) (y0_2_4 : Int) (y0_2_5 : Int) (y0_2_2 : List aNd) : Option (Int × Int × r4r) :=
 r4r_bounds_j0 K x0 x5_2_7 x6_2_8 y0_2_0 y0_2_1 y0_2_3 y0_2_4 y0_2_5 y0_2_2
def r4r_bounds (K : Nat) (x0 : r4r) : Option (Int × Int × r4r) :=
 (r4r_number K (r4r.mk x0.s (IntKind.i64.wrap (x0.at_ + (1 : Int))) x0.nodes x0.deep x0.e x0.where_)).bind fun v_496 =>
 (r4r_ends K v_496.2).bind fun v_504 =>
 bif (!v_504) then
 (ck (0 ≤ v_496.2.at_ ∧ v_496.2.at_ < v_496.2.s.size)).bind fun _ =>
 bif ((bt v_496.2.s v_496.2.at_) == (44 : Int)) then
 (r4r_ends K (r4r.mk v_496.2.s (IntKind.i64.wrap (v_496.2.at_ + (1 : Int))) v_496.2.nodes v_496.2.deep v_496.2.e v_496.2.where_)).bind fun v_516 =>
 bif (!v_516) then
 (ck (0 ≤ (r4r.mk v_496.2.s (IntKind.i64.wrap (v_496.2.at_ + (1 : Int))) v_496.2.nodes v_496.2.deep v_496.2.e v_496.2.where_).at_ ∧ (r4r.mk v_496.2.s (IntKind.i64.wrap (v_496.2.at_ + (1 : Int))) v_496.2.nodes v_496.2.deep v_496.2.e v_496.2.where_).at_ < ((r4r.mk v_496.2.s (IntKind.i64.wrap (v_496.2.at_ + (1 : Int))) v_496.2.nodes v_496.2.deep v_496.2.e v_496.2.where_).s).size)).bind fun _ =>
 (r4_digit K (bt ((r4r.mk v_496.2.s (IntKind.i64.wrap (v_496.2.at_ + (1 : Int))) v_496.2.nodes v_496.2.deep v_496.2.e v_496.2.where_).s) ((r4r.mk v_496.2.s (IntKind.i64.wrap (v_496.2.at_ + (1 : Int))) v_496.2.nodes v_496.2.deep v_496.2.e v_496.2.where_).at_))).bind fun v_520 =>
 bif v_520 then
 (r4r_number K (r4r.mk v_496.2.s (IntKind.i64.wrap (v_496.2.at_ + (1 : Int))) v_496.2.nodes v_496.2.deep v_496.2.e v_496.2.where_)).bind fun v_523 =>
 bif (decide (v_523.1 < (0 : Int))) then
 r4r_bounds_j0 K x0 (-1 : Int) v_523.1 v_523.2.s v_523.2.at_ v_523.2.deep v_523.2.e v_523.2.where_ v_523.2.nodes
 else
 r4r_bounds_j0 K x0 v_496.1 v_523.1 v_523.2.s v_523.2.at_ v_523.2.deep v_523.2.e v_523.2.where_ v_523.2.nodes
 else
 r4r_bounds_j1 K x0 v_496.1 ((r4r.mk v_496.2.s (IntKind.i64.wrap (v_496.2.at_ + (1 : Int))) v_496.2.nodes v_496.2.deep v_496.2.e v_496.2.where_).s) ((r4r.mk v_496.2.s (IntKind.i64.wrap (v_496.2.at_ + (1 : Int))) v_496.2.nodes v_496.2.deep v_496.2.e v_496.2.where_).at_) ((r4r.mk v_496.2.s (IntKind.i64.wrap (v_496.2.at_ + (1 : Int))) v_496.2.nodes v_496.2.deep v_496.2.e v_496.2.where_).deep) ((r4r.mk v_496.2.s (IntKind.i64.wrap (v_496.2.at_ + (1 : Int))) v_496.2.nodes v_496.2.deep v_496.2.e v_496.2.where_).e) ((r4r.mk v_496.2.s (IntKind.i64.wrap (v_496.2.at_ + (1 : Int))) v_496.2.nodes v_496.2.deep v_496.2.e v_496.2.where_).where_) ((r4r.mk v_496.2.s (IntKind.i64.wrap (v_496.2.at_ + (1 : Int))) v_496.2.nodes v_496.2.deep v_496.2.e v_496.2.where_).nodes)
 else
 r4r_bounds_j1 K x0 v_496.1 ((r4r.mk v_496.2.s (IntKind.i64.wrap (v_496.2.at_ + (1 : Int))) v_496.2.nodes v_496.2.deep v_496.2.e v_496.2.where_).s) ((r4r.mk v_496.2.s (IntKind.i64.wrap (v_496.2.at_ + (1 : Int))) v_496.2.nodes v_496.2.deep v_496.2.e v_496.2.where_).at_) ((r4r.mk v_496.2.s (IntKind.i64.wrap (v_496.2.at_ + (1 : Int))) v_496.2.nodes v_496.2.deep v_496.2.e v_496.2.where_).deep) ((r4r.mk v_496.2.s (IntKind.i64.wrap (v_496.2.at_ + (1 : Int))) v_496.2.nodes v_496.2.deep v_496.2.e v_496.2.where_).e) ((r4r.mk v_496.2.s (IntKind.i64.wrap (v_496.2.at_ + (1 : Int))) v_496.2.nodes v_496.2.deep v_496.2.e v_496.2.where_).where_) ((r4r.mk v_496.2.s (IntKind.i64.wrap (v_496.2.at_ + (1 : Int))) v_496.2.nodes v_496.2.deep v_496.2.e v_496.2.where_).nodes)
 else
 r4r_bounds_j2 K x0 v_496.1 v_496.1 v_496.2.s v_496.2.at_ v_496.2.deep v_496.2.e v_496.2.where_ v_496.2.nodes
 else
 r4r_bounds_j2 K x0 v_496.1 v_496.1 v_496.2.s v_496.2.at_ v_496.2.deep v_496.2.e v_496.2.where_ v_496.2.nodes
def r4r_item_j1 (K : Nat) (rec_r4r_alternative : r4r → Option (Int × r4r)) (x3_0_6 : Int) (y9000_1_1 : ByteArray) (y9000_1_2 : Int) (y9000_1_4 : Int) (y9000_1_5 : Int) (y9000_1_6 : Int) (y9000_1_3 : List aNd) : Option (Int × r4r) :=
 some (x3_0_6, (r4r.mk y9000_1_1 y9000_1_2 y9000_1_3 y9000_1_4 y9000_1_5 y9000_1_6))
def r4r_item_l0 (K : Nat) (rec_r4r_alternative : r4r → Option (Int × r4r)) : Nat → Int → ByteArray → Int → Int → Int → Int → (List aNd) → Option (Int × r4r)
 | 0 => fun _ _ _ _ _ _ _ => none
 | k + 1 => fun x3_0_6 y0_0_0 y0_0_1 y0_0_3 y0_0_4 y0_0_5 y0_0_2 =>
 (r4r_ends K (r4r.mk y0_0_0 y0_0_1 y0_0_2 y0_0_3 y0_0_4 y0_0_5)).bind fun v_164 =>
 bif (!v_164) then
 (ck (0 ≤ (r4r.mk y0_0_0 y0_0_1 y0_0_2 y0_0_3 y0_0_4 y0_0_5).at_ ∧ (r4r.mk y0_0_0 y0_0_1 y0_0_2 y0_0_3 y0_0_4 y0_0_5).at_ < ((r4r.mk y0_0_0 y0_0_1 y0_0_2 y0_0_3 y0_0_4 y0_0_5).s).size)).bind fun _ =>
 bif ((bt ((r4r.mk y0_0_0 y0_0_1 y0_0_2 y0_0_3 y0_0_4 y0_0_5).s) ((r4r.mk y0_0_0 y0_0_1 y0_0_2 y0_0_3 y0_0_4 y0_0_5).at_)) == (42 : Int)) then
 none
 else
 bif ((bt ((r4r.mk y0_0_0 y0_0_1 y0_0_2 y0_0_3 y0_0_4 y0_0_5).s) ((r4r.mk y0_0_0 y0_0_1 y0_0_2 y0_0_3 y0_0_4 y0_0_5).at_)) == (43 : Int)) then
 none
 else
 bif ((bt ((r4r.mk y0_0_0 y0_0_1 y0_0_2 y0_0_3 y0_0_4 y0_0_5).s) ((r4r.mk y0_0_0 y0_0_1 y0_0_2 y0_0_3 y0_0_4 y0_0_5).at_)) == (63 : Int)) then
 none
 else
 bif ((bt ((r4r.mk y0_0_0 y0_0_1 y0_0_2 y0_0_3 y0_0_4 y0_0_5).s) ((r4r.mk y0_0_0 y0_0_1 y0_0_2 y0_0_3 y0_0_4 y0_0_5).at_)) == (123 : Int)) then
 bif (decide ((IntKind.i64.wrap ((r4r.mk y0_0_0 y0_0_1 y0_0_2 y0_0_3 y0_0_4 y0_0_5).at_ + (1 : Int))) < (((r4r.mk y0_0_0 y0_0_1 y0_0_2 y0_0_3 y0_0_4 y0_0_5).s).size : Int))) then
 (ck (0 ≤ (IntKind.i64.wrap ((r4r.mk y0_0_0 y0_0_1 y0_0_2 y0_0_3 y0_0_4 y0_0_5).at_ + (1 : Int))) ∧ (IntKind.i64.wrap ((r4r.mk y0_0_0 y0_0_1 y0_0_2 y0_0_3 y0_0_4 y0_0_5).at_ + (1 : Int))) < ((r4r.mk y0_0_0 y0_0_1 y0_0_2 y0_0_3 y0_0_4 y0_0_5).s).size)).bind fun _ =>
 (r4_digit K (bt ((r4r.mk y0_0_0 y0_0_1 y0_0_2 y0_0_3 y0_0_4 y0_0_5).s) (IntKind.i64.wrap ((r4r.mk y0_0_0 y0_0_1 y0_0_2 y0_0_3 y0_0_4 y0_0_5).at_ + (1 : Int))))).bind fun v_183 =>
 bif v_183 then
 (r4r_bounds K (r4r.mk y0_0_0 y0_0_1 y0_0_2 y0_0_3 y0_0_4 y0_0_5)).bind fun v_186 =>
 bif (v_186.2.2.e == (0 : Int)) then
 (r4r_put K v_186.2.2 (aNd.mk (5 : Int) (Arr4.mk 0 0 0 0) [x3_0_6] v_186.1 v_186.2.1 (⟨#[]⟩ : ByteArray))).bind fun v_190 =>
 r4r_item_l0 K rec_r4r_alternative k v_190.1 v_190.2.s v_190.2.at_ v_190.2.deep v_190.2.e v_190.2.where_ v_190.2.nodes
 else
 r4r_item_l0 K rec_r4r_alternative k x3_0_6 v_186.2.2.s v_186.2.2.at_ v_186.2.2.deep v_186.2.2.e v_186.2.2.where_ v_186.2.2.nodes
 else
 r4r_item_j1 K rec_r4r_alternative x3_0_6 ((r4r.mk y0_0_0 y0_0_1 y0_0_2 y0_0_3 y0_0_4 y0_0_5).s) ((r4r.mk y0_0_0 y0_0_1 y0_0_2 y0_0_3 y0_0_4 y0_0_5).at_) ((r4r.mk y0_0_0 y0_0_1 y0_0_2 y0_0_3 y0_0_4 y0_0_5).deep) ((r4r.mk y0_0_0 y0_0_1 y0_0_2 y0_0_3 y0_0_4 y0_0_5).e) ((r4r.mk y0_0_0 y0_0_1 y0_0_2 y0_0_3 y0_0_4 y0_0_5).where_) ((r4r.mk y0_0_0 y0_0_1 y0_0_2 y0_0_3 y0_0_4 y0_0_5).nodes)
 else
 r4r_item_j1 K rec_r4r_alternative x3_0_6 ((r4r.mk y0_0_0 y0_0_1 y0_0_2 y0_0_3 y0_0_4 y0_0_5).s) ((r4r.mk y0_0_0 y0_0_1 y0_0_2 y0_0_3 y0_0_4 y0_0_5).at_) ((r4r.mk y0_0_0 y0_0_1 y0_0_2 y0_0_3 y0_0_4 y0_0_5).deep) ((r4r.mk y0_0_0 y0_0_1 y0_0_2 y0_0_3 y0_0_4 y0_0_5).e) ((r4r.mk y0_0_0 y0_0_1 y0_0_2 y0_0_3 y0_0_4 y0_0_5).where_) ((r4r.mk y0_0_0 y0_0_1 y0_0_2 y0_0_3 y0_0_4 y0_0_5).nodes)
 else
 r4r_item_j1 K rec_r4r_alternative x3_0_6 ((r4r.mk y0_0_0 y0_0_1 y0_0_2 y0_0_3 y0_0_4 y0_0_5).s) ((r4r.mk y0_0_0 y0_0_1 y0_0_2 y0_0_3 y0_0_4 y0_0_5).at_) ((r4r.mk y0_0_0 y0_0_1 y0_0_2 y0_0_3 y0_0_4 y0_0_5).deep) ((r4r.mk y0_0_0 y0_0_1 y0_0_2 y0_0_3 y0_0_4 y0_0_5).e) ((r4r.mk y0_0_0 y0_0_1 y0_0_2 y0_0_3 y0_0_4 y0_0_5).where_) ((r4r.mk y0_0_0 y0_0_1 y0_0_2 y0_0_3 y0_0_4 y0_0_5).nodes)
 else
 some (x3_0_6, (r4r.mk y0_0_0 y0_0_1 y0_0_2 y0_0_3 y0_0_4 y0_0_5))
def r4r_item (K : Nat) (rec_r4r_alternative : r4r → Option (Int × r4r)) (x0 : r4r) : Option (Int × r4r) :=
 (r4r_atom K rec_r4r_alternative x0).bind fun v_161 =>
 r4r_item_l0 K rec_r4r_alternative K v_161.1 v_161.2.s v_161.2.at_ v_161.2.deep v_161.2.e v_161.2.where_ v_161.2.nodes
def r4r_row_j1 (K : Nat) (rec_r4r_alternative : r4r → Option (Int × r4r)) (y0_1_0 : ByteArray) (y0_1_1 : Int) (y0_1_3 : Int) (y0_1_4 : Int) (y0_1_5 : Int) (y0_1_2 : List aNd) (y3_1_6 : List Int) : Option (Int × r4r) :=
 bif (y0_1_4 != (0 : Int)) then
 none
 else
 bif ((y3_1_6.length : Int) == (0 : Int)) then
 (r4r_put K (r4r.mk y0_1_0 y0_1_1 y0_1_2 y0_1_3 y0_1_4 y0_1_5) (aNd.mk (1 : Int) (Arr4.mk 0 0 0 0) [] (0 : Int) (0 : Int) (⟨#[]⟩ : ByteArray))).bind fun v_279 =>
 some (v_279.1, v_279.2)
 else
 bif ((y3_1_6.length : Int) == (1 : Int)) then
 (geti y3_1_6 (0 : Int)).bind fun v_283 =>
 some (v_283, (r4r.mk y0_1_0 y0_1_1 y0_1_2 y0_1_3 y0_1_4 y0_1_5))
 else
 (r4r_put K (r4r.mk y0_1_0 y0_1_1 y0_1_2 y0_1_3 y0_1_4 y0_1_5) (aNd.mk (3 : Int) (Arr4.mk 0 0 0 0) y3_1_6 (0 : Int) (0 : Int) (⟨#[]⟩ : ByteArray))).bind fun v_285 =>
 some (v_285.1, v_285.2)
def r4r_row_l0 (K : Nat) (rec_r4r_alternative : r4r → Option (Int × r4r)) : Nat → ByteArray → Int → Int → Int → Int → (List aNd) → (List Int) → Option (Int × r4r)
 | 0 => fun _ _ _ _ _ _ _ => none
 | k + 1 => fun y0_0_0 y0_0_1 y0_0_3 y0_0_4 y0_0_5 y0_0_2 y3_0_6 =>
 (r4r_ends K (r4r.mk y0_0_0 y0_0_1 y0_0_2 y0_0_3 y0_0_4 y0_0_5)).bind fun v_266 =>
 bif (!v_266) then
 (ck (0 ≤ (r4r.mk y0_0_0 y0_0_1 y0_0_2 y0_0_3 y0_0_4 y0_0_5).at_ ∧ (r4r.mk y0_0_0 y0_0_1 y0_0_2 y0_0_3 y0_0_4 y0_0_5).at_ < ((r4r.mk y0_0_0 y0_0_1 y0_0_2 y0_0_3 y0_0_4 y0_0_5).s).size)).bind fun _ =>
 bif ((bt ((r4r.mk y0_0_0 y0_0_1 y0_0_2 y0_0_3 y0_0_4 y0_0_5).s) ((r4r.mk y0_0_0 y0_0_1 y0_0_2 y0_0_3 y0_0_4 y0_0_5).at_)) != (124 : Int)) then
 bif ((bt ((r4r.mk y0_0_0 y0_0_1 y0_0_2 y0_0_3 y0_0_4 y0_0_5).s) ((r4r.mk y0_0_0 y0_0_1 y0_0_2 y0_0_3 y0_0_4 y0_0_5).at_)) != (41 : Int)) then
 (r4r_item K rec_r4r_alternative (r4r.mk y0_0_0 y0_0_1 y0_0_2 y0_0_3 y0_0_4 y0_0_5)).bind fun v_272 =>
 (ck (roomy 8 (y3_0_6.length + [v_272.1].length) = true)).bind fun _ =>
 r4r_row_l0 K rec_r4r_alternative k v_272.2.s v_272.2.at_ v_272.2.deep v_272.2.e v_272.2.where_ v_272.2.nodes (y3_0_6 ++ [v_272.1])
 else
 r4r_row_j1 K rec_r4r_alternative ((r4r.mk y0_0_0 y0_0_1 y0_0_2 y0_0_3 y0_0_4 y0_0_5).s) ((r4r.mk y0_0_0 y0_0_1 y0_0_2 y0_0_3 y0_0_4 y0_0_5).at_) ((r4r.mk y0_0_0 y0_0_1 y0_0_2 y0_0_3 y0_0_4 y0_0_5).deep) ((r4r.mk y0_0_0 y0_0_1 y0_0_2 y0_0_3 y0_0_4 y0_0_5).e) ((r4r.mk y0_0_0 y0_0_1 y0_0_2 y0_0_3 y0_0_4 y0_0_5).where_) ((r4r.mk y0_0_0 y0_0_1 y0_0_2 y0_0_3 y0_0_4 y0_0_5).nodes) y3_0_6
 else
 r4r_row_j1 K rec_r4r_alternative ((r4r.mk y0_0_0 y0_0_1 y0_0_2 y0_0_3 y0_0_4 y0_0_5).s) ((r4r.mk y0_0_0 y0_0_1 y0_0_2 y0_0_3 y0_0_4 y0_0_5).at_) ((r4r.mk y0_0_0 y0_0_1 y0_0_2 y0_0_3 y0_0_4 y0_0_5).deep) ((r4r.mk y0_0_0 y0_0_1 y0_0_2 y0_0_3 y0_0_4 y0_0_5).e) ((r4r.mk y0_0_0 y0_0_1 y0_0_2 y0_0_3 y0_0_4 y0_0_5).where_) ((r4r.mk y0_0_0 y0_0_1 y0_0_2 y0_0_3 y0_0_4 y0_0_5).nodes) y3_0_6
 else
 r4r_row_j1 K rec_r4r_alternative ((r4r.mk y0_0_0 y0_0_1 y0_0_2 y0_0_3 y0_0_4 y0_0_5).s) ((r4r.mk y0_0_0 y0_0_1 y0_0_2 y0_0_3 y0_0_4 y0_0_5).at_) ((r4r.mk y0_0_0 y0_0_1 y0_0_2 y0_0_3 y0_0_4 y0_0_5).deep) ((r4r.mk y0_0_0 y0_0_1 y0_0_2 y0_0_3 y0_0_4 y0_0_5).e) ((r4r.mk y0_0_0 y0_0_1 y0_0_2 y0_0_3 y0_0_4 y0_0_5).where_) ((r4r.mk y0_0_0 y0_0_1 y0_0_2 y0_0_3 y0_0_4 y0_0_5).nodes) y3_0_6
def r4r_row (K : Nat) (rec_r4r_alternative : r4r → Option (Int × r4r)) (x0 : r4r) : Option (Int × r4r) :=
 r4r_row_l0 K rec_r4r_alternative K x0.s x0.at_ x0.deep x0.e x0.where_ x0.nodes []
def r4r_alternative_j2 (K : Nat) (rec_r4r_alternative : r4r → Option (Int × r4r)) (y3_2_0 : List Int) (y0_1_0 : ByteArray) (y0_1_1 : Int) (y0_1_3 : Int) (y0_1_4 : Int) (y0_1_5 : Int) (y0_1_2 : List aNd) : Option (Int × r4r) :=
 (geti y3_2_0 (0 : Int)).bind fun v_297 =>
 some (v_297, (r4r.mk y0_1_0 y0_1_1 y0_1_2 y0_1_3 y0_1_4 y0_1_5))
def r4r_alternative_j1 (K : Nat) (rec_r4r_alternative : r4r → Option (Int × r4r)) (y0_1_0 : ByteArray) (y0_1_1 : Int) (y0_1_3 : Int) (y0_1_4 : Int) (y0_1_5 : Int) (y0_1_2 : List aNd) (y3_1_6 : List Int) : Option (Int × r4r) :=
 bif ((y3_1_6.length : Int) == (1 : Int)) then
 r4r_alternative_j2 K rec_r4r_alternative y3_1_6 y0_1_0 y0_1_1 y0_1_3 y0_1_4 y0_1_5 y0_1_2
 else
 bif (y0_1_4 != (0 : Int)) then
 r4r_alternative_j2 K rec_r4r_alternative y3_1_6 y0_1_0 y0_1_1 y0_1_3 y0_1_4 y0_1_5 y0_1_2
 else
 (r4r_put K (r4r.mk y0_1_0 y0_1_1 y0_1_2 y0_1_3 y0_1_4 y0_1_5) (aNd.mk (4 : Int) (Arr4.mk 0 0 0 0) y3_1_6 (0 : Int) (0 : Int) (⟨#[]⟩ : ByteArray))).bind fun v_300 =>
 some (v_300.1, v_300.2)
def r4r_alternative_l0 (K : Nat) (rec_r4r_alternative : r4r → Option (Int × r4r)) : Nat → ByteArray → Int → Int → Int → Int → (List aNd) → (List Int) → Option (Int × r4r)
 | 0 => fun _ _ _ _ _ _ _ => none
 | k + 1 => fun y0_0_0 y0_0_1 y0_0_3 y0_0_4 y0_0_5 y0_0_2 y3_0_6 =>
 (r4r_ends K (r4r.mk y0_0_0 y0_0_1 y0_0_2 y0_0_3 y0_0_4 y0_0_5)).bind fun v_286 =>
 bif (!v_286) then
 (ck (0 ≤ (r4r.mk y0_0_0 y0_0_1 y0_0_2 y0_0_3 y0_0_4 y0_0_5).at_ ∧ (r4r.mk y0_0_0 y0_0_1 y0_0_2 y0_0_3 y0_0_4 y0_0_5).at_ < ((r4r.mk y0_0_0 y0_0_1 y0_0_2 y0_0_3 y0_0_4 y0_0_5).s).size)).bind fun _ =>
 bif ((bt ((r4r.mk y0_0_0 y0_0_1 y0_0_2 y0_0_3 y0_0_4 y0_0_5).s) ((r4r.mk y0_0_0 y0_0_1 y0_0_2 y0_0_3 y0_0_4 y0_0_5).at_)) == (124 : Int)) then
 (r4r_row K rec_r4r_alternative (r4r.mk ((r4r.mk y0_0_0 y0_0_1 y0_0_2 y0_0_3 y0_0_4 y0_0_5).s) (IntKind.i64.wrap ((r4r.mk y0_0_0 y0_0_1 y0_0_2 y0_0_3 y0_0_4 y0_0_5).at_ + (1 : Int))) ((r4r.mk y0_0_0 y0_0_1 y0_0_2 y0_0_3 y0_0_4 y0_0_5).nodes) ((r4r.mk y0_0_0 y0_0_1 y0_0_2 y0_0_3 y0_0_4 y0_0_5).deep) ((r4r.mk y0_0_0 y0_0_1 y0_0_2 y0_0_3 y0_0_4 y0_0_5).e) ((r4r.mk y0_0_0 y0_0_1 y0_0_2 y0_0_3 y0_0_4 y0_0_5).where_))).bind fun v_291 =>
 (ck (roomy 8 (y3_0_6.length + [v_291.1].length) = true)).bind fun _ =>
 r4r_alternative_l0 K rec_r4r_alternative k v_291.2.s v_291.2.at_ v_291.2.deep v_291.2.e v_291.2.where_ v_291.2.nodes (y3_0_6 ++ [v_291.1])
 else
 r4r_alternative_j1 K rec_r4r_alternative ((r4r.mk y0_0_0 y0_0_1 y0_0_2 y0_0_3 y0_0_4 y0_0_5).s) ((r4r.mk y0_0_0 y0_0_1 y0_0_2 y0_0_3 y0_0_4 y0_0_5).at_) ((r4r.mk y0_0_0 y0_0_1 y0_0_2 y0_0_3 y0_0_4 y0_0_5).deep) ((r4r.mk y0_0_0 y0_0_1 y0_0_2 y0_0_3 y0_0_4 y0_0_5).e) ((r4r.mk y0_0_0 y0_0_1 y0_0_2 y0_0_3 y0_0_4 y0_0_5).where_) ((r4r.mk y0_0_0 y0_0_1 y0_0_2 y0_0_3 y0_0_4 y0_0_5).nodes) y3_0_6
 else
 r4r_alternative_j1 K rec_r4r_alternative ((r4r.mk y0_0_0 y0_0_1 y0_0_2 y0_0_3 y0_0_4 y0_0_5).s) ((r4r.mk y0_0_0 y0_0_1 y0_0_2 y0_0_3 y0_0_4 y0_0_5).at_) ((r4r.mk y0_0_0 y0_0_1 y0_0_2 y0_0_3 y0_0_4 y0_0_5).deep) ((r4r.mk y0_0_0 y0_0_1 y0_0_2 y0_0_3 y0_0_4 y0_0_5).e) ((r4r.mk y0_0_0 y0_0_1 y0_0_2 y0_0_3 y0_0_4 y0_0_5).where_) ((r4r.mk y0_0_0 y0_0_1 y0_0_2 y0_0_3 y0_0_4 y0_0_5).nodes) y3_0_6
def r4r_alternative_b (K : Nat) (rec_r4r_alternative : r4r → Option (Int × r4r)) (x0 : r4r) : Option (Int × r4r) :=
 (r4r_row K rec_r4r_alternative x0).bind fun v_277 =>
 r4r_alternative_l0 K rec_r4r_alternative K v_277.2.s v_277.2.at_ v_277.2.deep v_277.2.e v_277.2.where_ v_277.2.nodes [v_277.1]
def r4r_alternative_r (K : Nat) : Nat → r4r → Option (Int × r4r)
 | 0 => fun _ => none
 | n + 1 => r4r_alternative_b K (r4r_alternative_r K n)
def r4r_alternative (K : Nat) (x0 : r4r) : Option (Int × r4r) := r4r_alternative_r K K x0
def r4_Parse (K : Nat) (x0 : ByteArray) : Option ((List aNd) × Int × Int) :=
 bif (decide ((x0.size : Int) > (1024 : Int))) then
 some ([], (0 : Int), (3 : Int))
 else
 (r4r_alternative K (r4r.mk x0 (0 : Int) [] (0 : Int) (0 : Int) (0 : Int))).bind fun v_51 =>
 (r4r_ends K v_51.2).bind fun v_54 =>
 bif (!v_54) then
 none
 else
 bif (v_51.2.e != (0 : Int)) then
 some ([], v_51.2.where_, v_51.2.e)
 else
 bif (decide ((v_51.2.nodes.length : Int) > (1024 : Int))) then
 some ([], (0 : Int), (3 : Int))
 else
 some (v_51.2.nodes, (0 : Int), (0 : Int))
def sy_letter (K : Nat) (x0 : Int) : Option Bool :=
 bif (decide (x0 ≥ (97 : Int))) then
 bif (decide (x0 ≤ (122 : Int))) then
 some true
 else
 bif (decide (x0 ≥ (65 : Int))) then
 bif (decide (x0 ≤ (90 : Int))) then
 some true
 else
 some (x0 == (95 : Int))
 else
 some (x0 == (95 : Int))
 else
 bif (decide (x0 ≥ (65 : Int))) then
 bif (decide (x0 ≤ (90 : Int))) then
 some true
 else
 some (x0 == (95 : Int))
 else
 some (x0 == (95 : Int))
def sy_digit (K : Nat) (x0 : Int) : Option Bool :=
 bif (decide (x0 ≥ (48 : Int))) then
 some (decide (x0 ≤ (57 : Int)))
 else
 some false
def sy_Name_j1 (K : Nat) : Option Bool :=
 some false
def sy_Name_l0 (K : Nat) : Nat → ByteArray → Int → Int → Option Bool
 | 0 => fun _ _ _ => none
 | k + 1 => fun x0 x5_0_1 x6_0_2 =>
 bif (decide (x6_0_2 < x5_0_1)) then
 (ck (0 ≤ x6_0_2 ∧ x6_0_2 < x0.size)).bind fun _ =>
 (sy_letter K (bt x0 x6_0_2)).bind fun v_77 =>
 bif (!v_77) then
 bif (x6_0_2 == (0 : Int)) then
 sy_Name_j1 K
 else
 (sy_digit K (bt x0 x6_0_2)).bind fun v_81 =>
 bif (!v_81) then
 sy_Name_j1 K
 else
 sy_Name_l0 K k x0 x5_0_1 (IntKind.i64.wrap (x6_0_2 + (1 : Int)))
 else
 sy_Name_l0 K k x0 x5_0_1 (IntKind.i64.wrap (x6_0_2 + (1 : Int)))
 else
 bif (decide ((x0.size : Int) ≥ (1 : Int))) then
 some (decide ((x0.size : Int) ≤ (32 : Int)))
 else
 some false
def sy_Name (K : Nat) (x0 : ByteArray) : Option Bool :=
 sy_Name_l0 K K x0 (x0.size : Int) (0 : Int)
def sy_shaped_j0 (K : Nat) (x4_0_12 : Int) (x0 : aNd) (y3_0_7 : Arr4) (y3_0_9 : Int) (y3_0_10 : Int) (y3_0_11 : ByteArray) : Option Bool :=
 bif (x4_0_12 == (0 : Int)) then
 bif (Arr4.same x0.S y3_0_7) then
 bif (x0.Lo == y3_0_9) then
 bif (x0.Hi == y3_0_10) then
 some (x0.Name.toList == y3_0_11.toList)
 else
 some false
 else
 some false
 else
 some false
 else
 some false
def sy_shaped_j1 (K : Nat) : Option Bool :=
 some false
def sy_shaped_j2 (K : Nat) (x4_2_12 : Int) (x0 : aNd) (y3_2_7 : Arr4) : Option Bool :=
 sy_shaped_j0 K (IntKind.i64.wrap (x4_2_12 - (1 : Int))) x0 y3_2_7 x0.Lo x0.Hi (⟨#[]⟩ : ByteArray)
def sy_shaped_j3 (K : Nat) (x4_3_12 : Int) (x0 : aNd) (x58_3_14 : Bool) (y3_3_7 : Arr4) : Option Bool :=
 bif x58_3_14 then
 bif (decide (x4_3_12 < (2 : Int))) then
 some false
 else
 sy_shaped_j0 K (0 : Int) x0 y3_3_7 (0 : Int) (0 : Int) (⟨#[]⟩ : ByteArray)
 else
 bif (x0.Op == (6 : Int)) then
 (sy_Name K x0.Name).bind fun v_135 =>
 bif (!v_135) then
 some false
 else
 sy_shaped_j0 K x4_3_12 x0 y3_3_7 (0 : Int) (0 : Int) x0.Name
 else
 bif (x0.Op == (1 : Int)) then
 sy_shaped_j0 K x4_3_12 x0 y3_3_7 (0 : Int) (0 : Int) (⟨#[]⟩ : ByteArray)
 else
 some false
def sy_shaped (K : Nat) (x0 : aNd) : Option Bool :=
 bif (x0.Op == (2 : Int)) then
 bif (Arr4.same x0.S (Arr4.mk 0 0 0 0)) then
 some false
 else
 sy_shaped_j0 K (x0.L.length : Int) x0 x0.S (0 : Int) (0 : Int) (⟨#[]⟩ : ByteArray)
 else
 bif (x0.Op == (5 : Int)) then
 bif (decide (x0.Lo < (0 : Int))) then
 sy_shaped_j1 K
 else
 bif (decide (x0.Lo > (4096 : Int))) then
 sy_shaped_j1 K
 else
 bif (x0.Hi != (-1 : Int)) then
 bif (decide (x0.Hi < (if (1 : Int) > x0.Lo then (1 : Int) else x0.Lo))) then
 sy_shaped_j1 K
 else
 bif (decide (x0.Hi > (4096 : Int))) then
 sy_shaped_j1 K
 else
 sy_shaped_j2 K (x0.L.length : Int) x0 (Arr4.mk 0 0 0 0)
 else
 sy_shaped_j2 K (x0.L.length : Int) x0 (Arr4.mk 0 0 0 0)
 else
 bif (x0.Op == (3 : Int)) then
 sy_shaped_j3 K (x0.L.length : Int) x0 (x0.Op == (3 : Int)) (Arr4.mk 0 0 0 0)
 else
 sy_shaped_j3 K (x0.L.length : Int) x0 (x0.Op == (4 : Int)) (Arr4.mk 0 0 0 0)
def slices_Equal_int_l0 (K : Nat) : Nat → (List Int) → (List Int) → Int → Int → Option Bool
 | 0 => fun _ _ _ _ => none
 | k + 1 => fun x0 x1 x12_0_2 x13_0_3 =>
 bif (decide (x13_0_3 < x12_0_2)) then
 (geti x0 x13_0_3).bind fun v_116 =>
 (geti x1 x13_0_3).bind fun v_118 =>
 bif (v_116 != v_118) then
 some false
 else
 slices_Equal_int_l0 K k x0 x1 x12_0_2 (IntKind.i64.wrap (x13_0_3 + (1 : Int)))
 else
 some true
def slices_Equal_int (K : Nat) (x0 : List Int) (x1 : List Int) : Option Bool :=
 bif ((x0.length : Int) != (x1.length : Int)) then
 some false
 else
 slices_Equal_int_l0 K K x0 x1 (x0.length : Int) (0 : Int)
def sy_Right_j0 (K : Nat) : Option Bool :=
 some false
def sy_Right_j2 (K : Nat) : Option Bool :=
 some false
def sy_Right_l1 (K : Nat) : Nat → (List aNd) → Int → Int → (List Int) → Option Bool
 | 0 => fun _ _ _ _ => none
 | k + 1 => fun x0 x16_1_2 x17_1_3 y3_1_0 =>
 bif (decide (x17_1_3 < x16_1_2)) then
 (geti x0 x17_1_3).bind fun v_281 =>
 (sy_shaped K v_281).bind fun v_284 =>
 bif (!v_284) then
 sy_Right_j2 K
 else
 bif (decide ((y3_1_0.length : Int) < (v_281.L.length : Int))) then
 sy_Right_j2 K
 else
 (ck (0 ≤ (IntKind.i64.wrap ((y3_1_0.length : Int) - (v_281.L.length : Int))) ∧ (Int.toNat (IntKind.i64.wrap ((y3_1_0.length : Int) - (v_281.L.length : Int)))) ≤ y3_1_0.length)).bind fun _ =>
 (slices_Equal_int K (y3_1_0.drop (Int.toNat (IntKind.i64.wrap ((y3_1_0.length : Int) - (v_281.L.length : Int))))) v_281.L).bind fun v_293 =>
 bif (!v_293) then
 some false
 else
 (ck (roomy 8 ((y3_1_0.take (Int.toNat (IntKind.i64.wrap ((y3_1_0.length : Int) - (v_281.L.length : Int))))).length + [x17_1_3].length) = true)).bind fun _ =>
 sy_Right_l1 K k x0 x16_1_2 (IntKind.i64.wrap (x17_1_3 + (1 : Int))) ((y3_1_0.take (Int.toNat (IntKind.i64.wrap ((y3_1_0.length : Int) - (v_281.L.length : Int))))) ++ [x17_1_3])
 else
 some ((y3_1_0.length : Int) == (1 : Int))
def sy_Right (K : Nat) (x0 : List aNd) : Option Bool :=
 bif (decide ((x0.length : Int) < (1 : Int))) then
 sy_Right_j0 K
 else
 bif (decide ((x0.length : Int) > (1024 : Int))) then
 sy_Right_j0 K
 else
 sy_Right_l1 K K x0 (x0.length : Int) (0 : Int) []
def strings_Join (K : Nat) (x0 : List ByteArray) (x1 : ByteArray) : Option ByteArray :=
 if x0.length ≤ 140737488355328 ∧ (joinS x0 x1).size ≤ 140737488355328 then some (joinS x0 x1) else none
def bits_TrailingZeros64 (K : Nat) (x0 : Int) : Option Int :=
 bif (x0 == (0 : Int)) then
 some (64 : Int)
 else
 (geti deBruijn (Int.fdiv (IntKind.u64.wrap ((bits .and .u64 x0 (IntKind.u64.wrap (0 - x0))) * (285870213051353865 : Int))) (2 ^ min (Int.toNat (58 : Int)) IntKind.u64.bits))).bind fun v_18 =>
 (ck ((Int.fdiv (IntKind.u64.wrap ((bits .and .u64 x0 (IntKind.u64.wrap (0 - x0))) * (285870213051353865 : Int))) (2 ^ min (Int.toNat (58 : Int)) IntKind.u64.bits)) < 64)).bind fun _ =>
 some (IntKind.i64.wrap v_18)
def bset_List_l1 (K : Nat) (go0 : Arr4 → Int → (List Int) → Option (List Int)) : Nat → Int → Int → Arr4 → Int → (List Int) → Option (List Int)
 | 0 => fun _ _ _ _ _ => none
 | k + 1 => fun x4_1_1 x5_1_2 x0 x7_1_4 y3_1_0 =>
 bif (x5_1_2 != (0 : Int)) then
 (bits_TrailingZeros64 K x5_1_2).bind fun v_95 =>
 (ck (roomy 1 (y3_1_0.length + [(IntKind.u8.wrap (IntKind.i64.wrap ((IntKind.i64.wrap ((64 : Int) * x4_1_1)) + v_95)))].length) = true)).bind fun _ =>
 bset_List_l1 K go0 k x4_1_1 (bits .and .u64 x5_1_2 (IntKind.u64.wrap (x5_1_2 - (1 : Int)))) x0 x7_1_4 (y3_1_0 ++ [(IntKind.u8.wrap (IntKind.i64.wrap ((IntKind.i64.wrap ((64 : Int) * x4_1_1)) + v_95)))])
 else
 go0 x0 (IntKind.i64.wrap (x7_1_4 + (1 : Int))) y3_1_0
def bset_List_l0 (K : Nat) : Nat → Arr4 → Int → (List Int) → Option (List Int)
 | 0 => fun _ _ _ => none
 | k + 1 => fun x0 x7_0_2 y3_0_0 =>
 bif (decide (x7_0_2 < (4 : Int))) then
 (ck (0 ≤ x7_0_2 ∧ x7_0_2 < 4)).bind fun _ =>
 bset_List_l1 K (bset_List_l0 K k) K x7_0_2 (Arr4.get x0 x7_0_2) x0 x7_0_2 y3_0_0
 else
 some y3_0_0
def bset_List (K : Nat) (x0 : Arr4) : Option (List Int) :=
 bset_List_l0 K K x0 (0 : Int) []
def bset_Spans_j1 (K : Nat) (go0 : Int → (List Int) → Int → Int → (List Arr2) → Option (List Arr2)) (x6_1_1 : Int) (x8_1_2 : List Int) (x9_1_3 : Int) (x10_1_4 : Int) (y3_1_0 : List Arr2) : Option (List Arr2) :=
 go0 (IntKind.i64.wrap x6_1_1) x8_1_2 x9_1_3 (IntKind.i64.wrap (x10_1_4 + (1 : Int))) y3_1_0
def bset_Spans_l0 (K : Nat) : Nat → Int → (List Int) → Int → Int → (List Arr2) → Option (List Arr2)
 | 0 => fun _ _ _ _ _ => none
 | k + 1 => fun x4_0_1 x8_0_2 x9_0_3 x10_0_4 y3_0_0 =>
 bif (decide (x10_0_4 < x9_0_3)) then
 (geti x8_0_2 x10_0_4).bind fun v_127 =>
 bif ((IntKind.i64.wrap v_127) == (IntKind.i64.wrap (x4_0_1 + (1 : Int)))) then
 (geti y3_0_0 (IntKind.i64.wrap ((y3_0_0.length : Int) - (1 : Int)))).bind fun v_130 =>
 bset_Spans_j1 K (bset_Spans_l0 K k) v_127 x8_0_2 x9_0_3 x10_0_4 (List.set y3_0_0 (Int.toNat (IntKind.i64.wrap ((y3_0_0.length : Int) - (1 : Int)))) (Arr2.set v_130 1 v_127))
 else
 (ck (roomy 2 (y3_0_0.length + [(Arr2.mk v_127 v_127)].length) = true)).bind fun _ =>
 bset_Spans_j1 K (bset_Spans_l0 K k) v_127 x8_0_2 x9_0_3 x10_0_4 (y3_0_0 ++ [(Arr2.mk v_127 v_127)])
 else
 some y3_0_0
def bset_Spans (K : Nat) (x0 : Arr4) : Option (List Arr2) :=
 (bset_List K x0).bind fun v_124 =>
 bset_Spans_l0 K K (-2 : Int) v_124 (v_124.length : Int) (0 : Int) []
def bset_Of_l0 (K : Nat) : Nat → (List Int) → Int → Int → Arr4 → Arr4 → Option Arr4
 | 0 => fun _ _ _ _ _ => none
 | k + 1 => fun x0 x7_0_3 x8_0_4 y2_0_0 y3_0_1 =>
 bif (decide (x8_0_4 < x7_0_3)) then
 (geti x0 x8_0_4).bind fun v_60 =>
 (ck (0 ≤ (IntKind.u8.wrap (Int.tdiv v_60 (64 : Int))) ∧ (IntKind.u8.wrap (Int.tdiv v_60 (64 : Int))) < 4)).bind fun _ =>
 (ck (0 ≤ (Int.tmod v_60 (64 : Int)))).bind fun _ =>
 bset_Of_l0 K k x0 x7_0_3 (IntKind.i64.wrap (x8_0_4 + (1 : Int))) y2_0_0 (Arr4.set y3_0_1 (IntKind.u8.wrap (Int.tdiv v_60 (64 : Int))) (bits .or .u64 (Arr4.get y3_0_1 (IntKind.u8.wrap (Int.tdiv v_60 (64 : Int)))) (IntKind.u64.wrap ((1 : Int) * 2 ^ min (Int.toNat (Int.tmod v_60 (64 : Int))) IntKind.u64.bits))))
 else
 some y3_0_1
def bset_Of (K : Nat) (x0 : List Int) : Option Arr4 :=
 bset_Of_l0 K K x0 (x0.length : Int) (0 : Int) (Arr4.mk 0 0 0 0) (Arr4.mk 0 0 0 0)
def bset_Not_l0 (K : Nat) : Nat → Arr4 → Int → Arr4 → Arr4 → Option Arr4
 | 0 => fun _ _ _ _ => none
 | k + 1 => fun x0 x6_0_3 y1_0_0 y2_0_1 =>
 bif (decide (x6_0_3 < (4 : Int))) then
 (ck (0 ≤ x6_0_3 ∧ x6_0_3 < 4)).bind fun _ =>
 bset_Not_l0 K k x0 (IntKind.i64.wrap (x6_0_3 + (1 : Int))) (Arr4.set y1_0_0 x6_0_3 (bits .xor .u64 IntKind.u64.max (Arr4.get x0 x6_0_3))) y2_0_1
 else
 some y1_0_0
def bset_Not (K : Nat) (x0 : Arr4) : Option Arr4 :=
 bset_Not_l0 K K x0 (0 : Int) x0 (Arr4.mk 0 0 0 0)
def sB_copyCheck (K : Nat) (x0c1 : List Int) : Option Unit :=
 some ()
def sB_WriteString (K : Nat) (x0c1 : List Int) (x1 : ByteArray) : Option (Int × Unit × (List Int)) :=
 (sB_copyCheck K x0c1).bind fun v_16 =>
 (ck (roomy 1 (x0c1.length + x1.size) = true)).bind fun _ =>
 some ((x1.size : Int), (), (x0c1 ++ bytesI x1))
def sB_copyCheck_i1 (K : Nat) (x0c1 : List Int) : Option Unit :=
 some ()
def sB_WriteString_i1 (K : Nat) (x0c1 : List Int) (x1 : ByteArray) : Option (Int × Unit × (List Int)) :=
 (sB_copyCheck_i1 K x0c1).bind fun v_16 =>
 (ck (roomy 1 (x0c1.length + x1.size) = true)).bind fun _ =>
 some ((x1.size : Int), (), (x0c1 ++ bytesI x1))
def stringslite_IndexByte (K : Nat) (x0 : ByteArray) (x1 : Int) : Option Int :=
 some (idxS x0 x1)
def strings_IndexByte (K : Nat) (x0 : ByteArray) (x1 : Int) : Option Int :=
 (stringslite_IndexByte K x0 x1).bind fun v_7 =>
 some v_7
def strconv_isPowerOfTwo (K : Nat) (x0 : Int) : Option Bool :=
 some ((bits .and .i64 x0 (IntKind.i64.wrap (x0 - (1 : Int)))) == (0 : Int))
def bits_TrailingZeros (K : Nat) (x0 : Int) : Option Int :=
 (bits_TrailingZeros64 K x0).bind fun v_9 =>
 some v_9
def strconv_formatBits_j0 (K : Nat) (x0 : List Int) (x1 : Int) (x2 : Int) (x3 : Bool) (x4 : Bool) : Option ((List Int) × ByteArray) :=
 none
def strconv_formatBits_l1 (K : Nat) : Nat → (List Int) → Int → Bool → Bool → Int → Int → Int → ArrN → Option ((List Int) × ByteArray)
 | 0 => fun _ _ _ _ _ _ _ _ => none
 | k + 1 => fun x0 x1 x3 x4 x14_1_7 x15_1_8 x16_1_9 y12_1_5 =>
 bif (decide (x1 ≥ x15_1_8)) then
 none
 else
 (ck (0 ≤ x1 ∧ x1 < (⟨#[48, 49, 50, 51, 52, 53, 54, 55, 56, 57, 97, 98, 99, 100, 101, 102, 103, 104, 105, 106, 107, 108, 109, 110, 111, 112, 113, 114, 115, 116, 117, 118, 119, 120, 121, 122]⟩ : ByteArray).size)).bind fun _ =>
 (ck (0 ≤ (IntKind.i64.wrap ((65 : Int) - (1 : Int))) ∧ (IntKind.i64.wrap ((65 : Int) - (1 : Int))) < 65)).bind fun _ =>
 bif x3 then
 none
 else
 bif x4 then
 none
 else
 some ([], (ofBytes ((ArrN.list 65 (ArrN.set y12_1_5 (IntKind.i64.wrap ((65 : Int) - (1 : Int))) (bt (⟨#[48, 49, 50, 51, 52, 53, 54, 55, 56, 57, 97, 98, 99, 100, 101, 102, 103, 104, 105, 106, 107, 108, 109, 110, 111, 112, 113, 114, 115, 116, 117, 118, 119, 120, 121, 122]⟩ : ByteArray) x1))).drop (Int.toNat (IntKind.i64.wrap ((65 : Int) - (1 : Int)))))))
def strconv_formatBits (K : Nat) (x0 : List Int) (x1 : Int) (x2 : Int) (x3 : Bool) (x4 : Bool) : Option ((List Int) × ByteArray) :=
 bif (decide (x2 < (2 : Int))) then
 strconv_formatBits_j0 K x0 x1 x2 x3 x4
 else
 bif (x2 == (10 : Int)) then
 strconv_formatBits_j0 K x0 x1 x2 x3 x4
 else
 bif (decide (x2 > (36 : Int))) then
 strconv_formatBits_j0 K x0 x1 x2 x3 x4
 else
 bif x3 then
 none
 else
 (strconv_isPowerOfTwo K x2).bind fun v_85 =>
 bif v_85 then
 (bits_TrailingZeros K (IntKind.u64.wrap x2)).bind fun v_88 =>
 strconv_formatBits_l1 K K x0 x1 x3 x4 (IntKind.u64.wrap v_88) (IntKind.u64.wrap x2) (IntKind.u64.wrap ((IntKind.u64.wrap x2) - (1 : Int))) (ArrN.mk fun _ => 0)
 else
 none
def strconv_FormatUint_f52 (K : Nat) (x0 : Int) (x1 : Int) : Option ByteArray :=
 bif (x1 == (10 : Int)) then
 bif (decide (x0 < (100 : Int))) then
 none
 else
 none
 else
 (strconv_formatBits K ([] : List Int) x0 x1 false false).bind fun v_24 =>
 some v_24.2
def strconv_FormatUint (K : Nat) (x0 : Int) (x1 : Int) : Option ByteArray :=
 (strconv_FormatUint_f52 K x0 x1).bind fun v_7 =>
 some v_7
def print_Byte_j0 (K : Nat) (x0 : Int) : Option ByteArray :=
 (strconv_FormatUint K (IntKind.u64.wrap (Int.fdiv x0 (2 ^ min (Int.toNat (4 : Int)) IntKind.u8.bits))) (16 : Int)).bind fun v_84 =>
 (ck ((⟨#[92, 120]⟩ : ByteArray).size + v_84.size ≤ 9223372036854775807)).bind fun _ =>
 (strconv_FormatUint K (IntKind.u64.wrap (bits .and .u8 x0 (15 : Int))) (16 : Int)).bind fun v_87 =>
 (ck (((⟨#[92, 120]⟩ : ByteArray) ++ v_84).size + v_87.size ≤ 9223372036854775807)).bind fun _ =>
 some (((⟨#[92, 120]⟩ : ByteArray) ++ v_84) ++ v_87)
def print_Byte (K : Nat) (x0 : Int) : Option ByteArray :=
 (strings_IndexByte K (⟨#[124, 42, 43, 63, 123, 125, 40, 41, 91, 93, 46, 92, 47, 36, 94, 34, 45]⟩ : ByteArray) x0).bind fun v_76 =>
 bif (decide (v_76 ≥ (0 : Int))) then
 (ck ((⟨#[92]⟩ : ByteArray).size + (runeS (IntKind.i32.wrap x0)).size ≤ 9223372036854775807)).bind fun _ =>
 some ((⟨#[92]⟩ : ByteArray) ++ (runeS (IntKind.i32.wrap x0)))
 else
 bif (x0 == (10 : Int)) then
 some (⟨#[92, 110]⟩ : ByteArray)
 else
 bif (x0 == (9 : Int)) then
 some (⟨#[92, 116]⟩ : ByteArray)
 else
 bif (x0 == (13 : Int)) then
 some (⟨#[92, 114]⟩ : ByteArray)
 else
 bif (decide (x0 < (32 : Int))) then
 print_Byte_j0 K x0
 else
 bif (decide (x0 > (126 : Int))) then
 print_Byte_j0 K x0
 else
 some (runeS (IntKind.i32.wrap x0))
def print_Set_l1 (K : Nat) : Nat → (List Arr2) → Int → Int → (List Int) → Option ByteArray
 | 0 => fun _ _ _ _ => none
 | k + 1 => fun x3_0_1 x37_1_2 x38_1_3 y4_1_0 =>
 bif (decide (x38_1_3 < x37_1_2)) then
 (geti x3_0_1 x38_1_3).bind fun v_491 =>
 (print_Byte K (Arr2.get v_491 (0 : Int))).bind fun v_494 =>
 (sB_WriteString_i1 K y4_1_0 v_494).bind fun v_496 =>
 bif ((Arr2.get v_491 (0 : Int)) != (Arr2.get v_491 (1 : Int))) then
 (print_Byte K (Arr2.get v_491 (1 : Int))).bind fun v_500 =>
 (ck ((⟨#[45]⟩ : ByteArray).size + v_500.size ≤ 9223372036854775807)).bind fun _ =>
 (sB_WriteString_i1 K v_496.2.2 ((⟨#[45]⟩ : ByteArray) ++ v_500)).bind fun v_503 =>
 print_Set_l1 K k x3_0_1 x37_1_2 (IntKind.i64.wrap (x38_1_3 + (1 : Int))) v_503.2.2
 else
 print_Set_l1 K k x3_0_1 x37_1_2 (IntKind.i64.wrap (x38_1_3 + (1 : Int))) v_496.2.2
 else
 (sB_WriteString_i1 K y4_1_0 (⟨#[93]⟩ : ByteArray)).bind fun v_506 =>
 (ck (0 < v_506.2.2.length)).bind fun _ =>
 (ck (okBytes v_506.2.2 = true)).bind fun _ =>
 some (ofBytes v_506.2.2)
def print_Set_j0 (K : Nat) (x3_0_1 : List Arr2) (x0 : Arr4) : Option ByteArray :=
 (bset_Of K [(10 : Int)]).bind fun v_481 =>
 (bset_Not K v_481).bind fun v_483 =>
 bif (Arr4.same x0 v_483) then
 some (⟨#[46]⟩ : ByteArray)
 else
 (sB_WriteString K [] (⟨#[91]⟩ : ByteArray)).bind fun v_487 =>
 print_Set_l1 K K x3_0_1 (x3_0_1.length : Int) (0 : Int) v_487.2.2
def print_Set (K : Nat) (x0 : Arr4) : Option ByteArray :=
 (bset_Spans K x0).bind fun v_464 =>
 bif ((v_464.length : Int) == (1 : Int)) then
 (geti v_464 (0 : Int)).bind fun v_471 =>
 bif (v_471.a0 == v_471.a1) then
 (print_Byte K v_471.a0).bind fun v_474 =>
 some v_474
 else
 print_Set_j0 K v_464 x0
 else
 print_Set_j0 K v_464 x0
def pW_j0 (K : Nat) (x0 : Int) (x8_0_1 : Bool) : Option Bool :=
 bif x8_0_1 then
 some (x0 != (4 : Int))
 else
 some false
def pW (K : Nat) (x0 : Int) (x1 : Int) : Option Bool :=
 bif (x1 == (4 : Int)) then
 some true
 else
 bif (x1 == (1 : Int)) then
 pW_j0 K x0 (x1 == (1 : Int))
 else
 pW_j0 K x0 (x1 == (3 : Int))
def strconv_Itoa (K : Nat) (x0 : Int) : Option ByteArray :=
 if -9223372036854775808 ≤ x0 ∧ x0 ≤ 9223372036854775807 then some (itoaS x0) else none
def print_times (K : Nat) (x0 : Int) (x1 : Int) : Option ByteArray :=
 bif (Arr2.same (Arr2.mk x0 x1) (Arr2.mk (0 : Int) (-1 : Int))) then
 some (⟨#[42]⟩ : ByteArray)
 else
 bif (Arr2.same (Arr2.mk x0 x1) (Arr2.mk (1 : Int) (-1 : Int))) then
 some (⟨#[43]⟩ : ByteArray)
 else
 bif (Arr2.same (Arr2.mk x0 x1) (Arr2.mk (0 : Int) (1 : Int))) then
 some (⟨#[63]⟩ : ByteArray)
 else
 bif (Arr2.same (Arr2.mk x0 x1) (Arr2.mk x0 x0)) then
 (strconv_Itoa K x0).bind fun v_89 =>
 (ck ((⟨#[123]⟩ : ByteArray).size + v_89.size ≤ 9223372036854775807)).bind fun _ =>
 (ck (((⟨#[123]⟩ : ByteArray) ++ v_89).size + (⟨#[125]⟩ : ByteArray).size ≤ 9223372036854775807)).bind fun _ =>
 some (((⟨#[123]⟩ : ByteArray) ++ v_89) ++ (⟨#[125]⟩ : ByteArray))
 else
 bif (Arr2.same (Arr2.mk x0 x1) (Arr2.mk x0 (-1 : Int))) then
 (strconv_Itoa K x0).bind fun v_94 =>
 (ck ((⟨#[123]⟩ : ByteArray).size + v_94.size ≤ 9223372036854775807)).bind fun _ =>
 (ck (((⟨#[123]⟩ : ByteArray) ++ v_94).size + (⟨#[44, 125]⟩ : ByteArray).size ≤ 9223372036854775807)).bind fun _ =>
 some (((⟨#[123]⟩ : ByteArray) ++ v_94) ++ (⟨#[44, 125]⟩ : ByteArray))
 else
 (strconv_Itoa K x0).bind fun v_98 =>
 (ck ((⟨#[123]⟩ : ByteArray).size + v_98.size ≤ 9223372036854775807)).bind fun _ =>
 (ck (((⟨#[123]⟩ : ByteArray) ++ v_98).size + (⟨#[44]⟩ : ByteArray).size ≤ 9223372036854775807)).bind fun _ =>
 (strconv_Itoa K x1).bind fun v_102 =>
 (ck ((((⟨#[123]⟩ : ByteArray) ++ v_98) ++ (⟨#[44]⟩ : ByteArray)).size + v_102.size ≤ 9223372036854775807)).bind fun _ =>
 (ck (((((⟨#[123]⟩ : ByteArray) ++ v_98) ++ (⟨#[44]⟩ : ByteArray)) ++ v_102).size + (⟨#[125]⟩ : ByteArray).size ≤ 9223372036854775807)).bind fun _ =>
 some (((((⟨#[123]⟩ : ByteArray) ++ v_98) ++ (⟨#[44]⟩ : ByteArray)) ++ v_102) ++ (⟨#[125]⟩ : ByteArray))
def pT_j2 (K : Nat) (go1 : (List aNd) → Int → Int → Int → (List Int) → Int → Int → (List ByteArray) → Int → Arr4 → (List Int) → Int → Int → ByteArray → (List ByteArray) → Option (ByteArray × Bool)) (x0 : List aNd) (x5_2_2 : Int) (x10_2_10 : ByteArray) (x18_0_3 : Int) (x19_2_13 : Int) (x25_2_14 : List Int) (x26_2_15 : Int) (x27_2_16 : Int) (y4_0_1 : List ByteArray) (y6_1_3 : Int) (y6_1_4 : Arr4) (y6_1_5 : List Int) (y6_1_6 : Int) (y6_1_7 : Int) (y6_1_8 : ByteArray) (y7_2_9 : List ByteArray) : Option (ByteArray × Bool) :=
 (ck (roomy 16 (y7_2_9.length + [x10_2_10].length) = true)).bind fun _ =>
 go1 x0 x5_2_2 x18_0_3 x19_2_13 x25_2_14 x26_2_15 (IntKind.i64.wrap (x27_2_16 + (1 : Int))) y4_0_1 y6_1_3 y6_1_4 y6_1_5 y6_1_6 y6_1_7 y6_1_8 (y7_2_9 ++ [x10_2_10])
def pT_l1 (K : Nat) (go0 : (List aNd) → Int → Int → (List ByteArray) → Option (ByteArray × Bool)) : Nat → (List aNd) → Int → Int → Int → (List Int) → Int → Int → (List ByteArray) → Int → Arr4 → (List Int) → Int → Int → ByteArray → (List ByteArray) → Option (ByteArray × Bool)
 | 0 => fun _ _ _ _ _ _ _ _ _ _ _ _ _ _ _ => none
 | k + 1 => fun x0 x5_1_2 x18_0_3 x19_1_12 x25_1_13 x26_1_14 x27_1_15 y4_0_1 y6_1_3 y6_1_4 y6_1_5 y6_1_6 y6_1_7 y6_1_8 y7_1_9 =>
 bif (decide (x27_1_15 < x26_1_14)) then
 (geti x25_1_13 x27_1_15).bind fun v_1070 =>
 (geti y4_0_1 v_1070).bind fun v_1072 =>
 (geti x0 v_1070).bind fun v_1079 =>
 (pW K y6_1_3 v_1079.Op).bind fun v_1081 =>
 bif v_1081 then
 (ck ((⟨#[40]⟩ : ByteArray).size + v_1072.size ≤ 9223372036854775807)).bind fun _ =>
 (ck (((⟨#[40]⟩ : ByteArray) ++ v_1072).size + (⟨#[41]⟩ : ByteArray).size ≤ 9223372036854775807)).bind fun _ =>
 pT_j2 K (pT_l1 K go0 k) x0 x5_1_2 (((⟨#[40]⟩ : ByteArray) ++ v_1072) ++ (⟨#[41]⟩ : ByteArray)) x18_0_3 x19_1_12 x25_1_13 x26_1_14 x27_1_15 y4_0_1 y6_1_3 y6_1_4 y6_1_5 y6_1_6 y6_1_7 y6_1_8 y7_1_9
 else
 pT_j2 K (pT_l1 K go0 k) x0 x5_1_2 v_1072 x18_0_3 x19_1_12 x25_1_13 x26_1_14 x27_1_15 y4_0_1 y6_1_3 y6_1_4 y6_1_5 y6_1_6 y6_1_7 y6_1_8 y7_1_9
 else
 bif (y6_1_3 == (2 : Int)) then
 (print_Set K y6_1_4).bind fun v_1090 =>
 (geti y4_0_1 x5_1_2).bind fun v_1092 =>
 go0 x0 x18_0_3 (IntKind.i64.wrap (x19_1_12 + (1 : Int))) (List.set y4_0_1 (Int.toNat x5_1_2) v_1090)
 else
 bif (y6_1_3 == (6 : Int)) then
 (ck ((⟨#[123]⟩ : ByteArray).size + y6_1_8.size ≤ 9223372036854775807)).bind fun _ =>
 (ck (((⟨#[123]⟩ : ByteArray) ++ y6_1_8).size + (⟨#[125]⟩ : ByteArray).size ≤ 9223372036854775807)).bind fun _ =>
 (geti y4_0_1 x5_1_2).bind fun v_1097 =>
 go0 x0 x18_0_3 (IntKind.i64.wrap (x19_1_12 + (1 : Int))) (List.set y4_0_1 (Int.toNat x5_1_2) (((⟨#[123]⟩ : ByteArray) ++ y6_1_8) ++ (⟨#[125]⟩ : ByteArray)))
 else
 bif (y6_1_3 == (5 : Int)) then
 (geti y7_1_9 (0 : Int)).bind fun v_1108 =>
 (print_times K y6_1_6 y6_1_7).bind fun v_1110 =>
 (ck (v_1108.size + v_1110.size ≤ 9223372036854775807)).bind fun _ =>
 (geti y4_0_1 x5_1_2).bind fun v_1113 =>
 go0 x0 x18_0_3 (IntKind.i64.wrap (x19_1_12 + (1 : Int))) (List.set y4_0_1 (Int.toNat x5_1_2) (v_1108 ++ v_1110))
 else
 bif (y6_1_3 == (3 : Int)) then
 (strings_Join K y7_1_9 (⟨#[]⟩ : ByteArray)).bind fun v_1116 =>
 (geti y4_0_1 x5_1_2).bind fun v_1118 =>
 go0 x0 x18_0_3 (IntKind.i64.wrap (x19_1_12 + (1 : Int))) (List.set y4_0_1 (Int.toNat x5_1_2) v_1116)
 else
 bif (y6_1_3 == (4 : Int)) then
 (strings_Join K y7_1_9 (⟨#[124]⟩ : ByteArray)).bind fun v_1121 =>
 (geti y4_0_1 x5_1_2).bind fun v_1123 =>
 go0 x0 x18_0_3 (IntKind.i64.wrap (x19_1_12 + (1 : Int))) (List.set y4_0_1 (Int.toNat x5_1_2) v_1121)
 else
 go0 x0 x18_0_3 (IntKind.i64.wrap (x19_1_12 + (1 : Int))) y4_0_1
def pT_l0 (K : Nat) : Nat → (List aNd) → Int → Int → (List ByteArray) → Option (ByteArray × Bool)
 | 0 => fun _ _ _ _ => none
 | k + 1 => fun x0 x18_0_3 x19_0_4 y4_0_1 =>
 bif (decide (x19_0_4 < x18_0_3)) then
 (geti x0 x19_0_4).bind fun v_1066 =>
 pT_l1 K (pT_l0 K k) K x0 x19_0_4 x18_0_3 x19_0_4 v_1066.L (v_1066.L.length : Int) (0 : Int) y4_0_1 v_1066.Op v_1066.S v_1066.L v_1066.Lo v_1066.Hi v_1066.Name []
 else
 (geti y4_0_1 (IntKind.i64.wrap ((x0.length : Int) - (1 : Int)))).bind fun v_1125 =>
 some (v_1125, true)
def pT (K : Nat) (x0 : List aNd) : Option (ByteArray × Bool) :=
 (sy_Right K x0).bind fun v_1059 =>
 bif (!v_1059) then
 some ((⟨#[]⟩ : ByteArray), false)
 else
 (ck (0 ≤ (x0.length : Int))).bind fun _ =>
 (ck (roomy 16 (Int.toNat (x0.length : Int)) = true)).bind fun _ =>
 pT_l0 K K x0 (x0.length : Int) (0 : Int) (List.replicate (Int.toNat (x0.length : Int)) ((⟨#[]⟩ : ByteArray) : ByteArray))
def l5_shown (K : Nat) : Option Bool :=
 (r4_Parse K (⟨#[40, 97, 124, 41, 98, 123, 50, 44, 50, 125]⟩ : ByteArray)).bind fun v_21 =>
 (pT K v_21.1).bind fun v_23 =>
 bif (v_23.1.toList == (⟨#[40, 97, 124, 41, 98, 123, 50, 125]⟩ : ByteArray).toList) then
 some v_23.2
 else
 some false
def syr_peek_j0 (K : Nat) (x0 : syp) : Option (Int × Bool) :=
 some ((0 : Int), false)
def syr_peek (K : Nat) (x0 : syp) : Option (Int × Bool) :=
 bif (x0.reader.e != (0 : Int)) then
 syr_peek_j0 K x0
 else
 bif (decide (x0.reader.at_ ≥ (x0.reader.s.size : Int))) then
 syr_peek_j0 K x0
 else
 (ck (0 ≤ x0.reader.at_ ∧ x0.reader.at_ < x0.reader.s.size)).bind fun _ =>
 some ((bt x0.reader.s x0.reader.at_), true)
def syr_digit (K : Nat) (x0 : syp) (x1 : Int) : Option Bool :=
 bif (x0.reader.e == (0 : Int)) then
 bif (decide ((IntKind.i64.wrap (x0.reader.at_ + x1)) < (x0.reader.s.size : Int))) then
 (ck (0 ≤ (IntKind.i64.wrap (x0.reader.at_ + x1)) ∧ (IntKind.i64.wrap (x0.reader.at_ + x1)) < x0.reader.s.size)).bind fun _ =>
 (sy_digit K (bt x0.reader.s (IntKind.i64.wrap (x0.reader.at_ + x1)))).bind fun v_54 =>
 some v_54
 else
 some false
 else
 some false
def syr_fail (K : Nat) (x0 : syp) (x1 : Int) (x2 : Int) : Option syp :=
 bif (x0.reader.e == (0 : Int)) then
 some (syp.mk (syr.mk x0.reader.s x0.reader.at_ x2 x1) x0.nodes x0.deep)
 else
 some x0
def syr_next (K : Nat) (x0 : syp) : Option (Int × syp) :=
 (syr_peek K x0).bind fun v_29 =>
 bif (!v_29.2) then
 (syr_fail K x0 (40 : Int) (x0.reader.s.size : Int)).bind fun v_33 =>
 some ((0 : Int), v_33)
 else
 some (v_29.1, (syp.mk (syr.mk x0.reader.s (IntKind.i64.wrap (x0.reader.at_ + (1 : Int))) x0.reader.where_ x0.reader.e) x0.nodes x0.deep))
def sy_nibble (K : Nat) (x0 : Int) : Option (Int × Bool) :=
 (strings_IndexByte K (⟨#[48, 49, 50, 51, 52, 53, 54, 55, 56, 57, 97, 98, 99, 100, 101, 102]⟩ : ByteArray) x0).bind fun v_7 =>
 some ((IntKind.u8.wrap (if (0 : Int) > v_7 then (0 : Int) else v_7)), (decide (v_7 ≥ (0 : Int))))
def syr_pair (K : Nat) (x0 : syp) : Option (Int × Bool × syp) :=
 bif (decide ((IntKind.i64.wrap (x0.reader.at_ + (2 : Int))) > (x0.reader.s.size : Int))) then
 (syr_fail K x0 (40 : Int) (x0.reader.s.size : Int)).bind fun v_67 =>
 some ((0 : Int), true, v_67)
 else
 (syr_next K x0).bind fun v_70 =>
 (sy_nibble K v_70.1).bind fun v_73 =>
 (syr_next K v_70.2).bind fun v_75 =>
 (sy_nibble K v_75.1).bind fun v_78 =>
 bif v_73.2 then
 some ((bits .or .u8 (IntKind.u8.wrap (v_73.1 * 2 ^ min (Int.toNat (4 : Int)) IntKind.u8.bits)) v_78.1), v_78.2, v_75.2)
 else
 some ((bits .or .u8 (IntKind.u8.wrap (v_73.1 * 2 ^ min (Int.toNat (4 : Int)) IntKind.u8.bits)) v_78.1), false, v_75.2)
def syr_escape (K : Nat) (x0 : syp) : Option (Int × Bool × syp) :=
 (syr_next K x0).bind fun v_57 =>
 bif (v_57.2.reader.e != (0 : Int)) then
 some ((0 : Int), true, v_57.2)
 else
 bif (v_57.1 == (110 : Int)) then
 some ((10 : Int), true, v_57.2)
 else
 bif (v_57.1 == (116 : Int)) then
 some ((9 : Int), true, v_57.2)
 else
 bif (v_57.1 == (114 : Int)) then
 some ((13 : Int), true, v_57.2)
 else
 bif (v_57.1 == (120 : Int)) then
 (syr_pair K v_57.2).bind fun v_65 =>
 some (v_65.1, v_65.2.1, v_65.2.2)
 else
 bif (v_57.1 == (45 : Int)) then
 some (v_57.1, true, v_57.2)
 else
 (strings_IndexByte K (⟨#[124, 42, 43, 63, 123, 125, 40, 41, 91, 93, 46, 92, 47, 36, 94, 34]⟩ : ByteArray) v_57.1).bind fun v_69 =>
 some (v_57.1, (decide (v_69 ≥ (0 : Int))), v_57.2)
def syr_one (K : Nat) (x0 : syp) : Option (Int × syp) :=
 (syr_next K x0).bind fun v_45 =>
 bif (v_45.1 != (92 : Int)) then
 some (v_45.1, v_45.2)
 else
 (syr_escape K v_45.2).bind fun v_49 =>
 bif (!v_49.2.1) then
 (syr_fail K v_49.2.2 (43 : Int) x0.reader.at_).bind fun v_53 =>
 some (v_49.1, v_53)
 else
 some (v_49.1, v_49.2.2)
def syp_put (K : Nat) (x0 : syp) (x1 : aNd) : Option (Int × syp) :=
 (ck (roomy 96 (x0.nodes.length + [x1].length) = true)).bind fun _ =>
 some ((IntKind.i64.wrap (((x0.nodes ++ [x1]).length : Int) - (1 : Int))), (syp.mk x0.reader (x0.nodes ++ [x1]) x0.deep))
def syp_bytes (K : Nat) (x0 : syp) (x1 : Arr4) : Option (Int × syp) :=
 (syp_put K x0 (aNd.mk (2 : Int) x1 [] (0 : Int) (0 : Int) (⟨#[]⟩ : ByteArray))).bind fun v_14 =>
 some (v_14.1, v_14.2)
def syr_name_j0 (K : Nat) (x4_0_6 : Int) (x5_0_7 : ByteArray) (y0_0_0 : ByteArray) (y0_0_1 : Int) (y0_0_2 : Int) (y0_0_3 : Int) (y0_0_5 : Int) (y0_0_4 : List aNd) : Option (ByteArray × syp) :=
 some (x5_0_7, (syp.mk (syr.mk y0_0_0 (IntKind.i64.wrap (y0_0_1 + (IntKind.i64.wrap (x4_0_6 + (1 : Int))))) y0_0_2 y0_0_3) y0_0_4 y0_0_5))
def syr_name (K : Nat) (x0 : syp) : Option (ByteArray × syp) :=
 (syr_next K x0).bind fun v_86 =>
 (ck (0 ≤ v_86.2.reader.at_ ∧ (Int.toNat v_86.2.reader.at_) ≤ v_86.2.reader.s.size ∧ v_86.2.reader.s.size ≤ v_86.2.reader.s.size)).bind fun _ =>
 (strings_IndexByte K (v_86.2.reader.s.extract (Int.toNat v_86.2.reader.at_) v_86.2.reader.s.size) (125 : Int)).bind fun v_90 =>
 bif (decide (v_90 < (0 : Int))) then
 (syr_fail K v_86.2 (40 : Int) (v_86.2.reader.s.size : Int)).bind fun v_93 =>
 some ((⟨#[]⟩ : ByteArray), v_93)
 else
 (ck (0 ≤ v_86.2.reader.at_ ∧ 0 ≤ (IntKind.i64.wrap (v_86.2.reader.at_ + v_90)) ∧ (Int.toNat v_86.2.reader.at_) ≤ (Int.toNat (IntKind.i64.wrap (v_86.2.reader.at_ + v_90))) ∧ (Int.toNat (IntKind.i64.wrap (v_86.2.reader.at_ + v_90))) ≤ v_86.2.reader.s.size)).bind fun _ =>
 (sy_Name K (v_86.2.reader.s.extract (Int.toNat v_86.2.reader.at_) (Int.toNat (IntKind.i64.wrap (v_86.2.reader.at_ + v_90))))).bind fun v_97 =>
 bif (!v_97) then
 (syr_fail K v_86.2 (41 : Int) v_86.2.reader.at_).bind fun v_100 =>
 syr_name_j0 K v_90 (v_86.2.reader.s.extract (Int.toNat v_86.2.reader.at_) (Int.toNat (IntKind.i64.wrap (v_86.2.reader.at_ + v_90)))) v_100.reader.s v_100.reader.at_ v_100.reader.where_ v_100.reader.e v_100.deep v_100.nodes
 else
 syr_name_j0 K v_90 (v_86.2.reader.s.extract (Int.toNat v_86.2.reader.at_) (Int.toNat (IntKind.i64.wrap (v_86.2.reader.at_ + v_90)))) v_86.2.reader.s v_86.2.reader.at_ v_86.2.reader.where_ v_86.2.reader.e v_86.2.deep v_86.2.nodes
def syr_is (K : Nat) (x0 : syp) (x1 : Int) : Option Bool :=
 (syr_peek K x0).bind fun v_17 =>
 bif v_17.2 then
 some (v_17.1 == x1)
 else
 some false
def syr_skip (K : Nat) (x0 : syp) (x1 : Int) : Option (Bool × syp) :=
 (syr_is K x0 x1).bind fun v_17 =>
 bif (!v_17) then
 some (false, x0)
 else
 some (true, (syp.mk (syr.mk x0.reader.s (IntKind.i64.wrap (x0.reader.at_ + (1 : Int))) x0.reader.where_ x0.reader.e) x0.nodes x0.deep))
def syr_member_j0 (K : Nat) (y0_0_0 : ByteArray) (y0_0_1 : Int) (y0_0_2 : Int) (y0_0_3 : Int) (y0_0_5 : Int) (y0_0_4 : List aNd) : Option (Int × syp) :=
 bif (y0_0_3 != (0 : Int)) then
 some ((0 : Int), (syp.mk (syr.mk y0_0_0 y0_0_1 y0_0_2 y0_0_3) y0_0_4 y0_0_5))
 else
 (syr_one K (syp.mk (syr.mk y0_0_0 y0_0_1 y0_0_2 y0_0_3) y0_0_4 y0_0_5)).bind fun v_110 =>
 some (v_110.1, v_110.2)
def syr_member_j1 (K : Nat) (x0 : syp) : Option (Int × syp) :=
 syr_member_j0 K x0.reader.s x0.reader.at_ x0.reader.where_ x0.reader.e x0.deep x0.nodes
def syr_member (K : Nat) (x0 : syp) : Option (Int × syp) :=
 (syr_peek K x0).bind fun v_99 =>
 bif v_99.2 then
 (strings_IndexByte K (⟨#[93, 45, 94]⟩ : ByteArray) v_99.1).bind fun v_103 =>
 bif (decide (v_103 ≥ (0 : Int))) then
 (syr_fail K x0 (44 : Int) x0.reader.at_).bind fun v_106 =>
 syr_member_j0 K v_106.reader.s v_106.reader.at_ v_106.reader.where_ v_106.reader.e v_106.deep v_106.nodes
 else
 syr_member_j1 K x0
 else
 syr_member_j1 K x0
def bset_Range_l0 (K : Nat) : Nat → Int → Int → Arr4 → Arr4 → Option Arr4
 | 0 => fun _ _ _ _ => none
 | k + 1 => fun x1 x6_0_3 y4_0_1 y5_0_2 =>
 bif (decide (x6_0_3 ≤ (IntKind.i64.wrap x1))) then
 (ck (0 ≤ (IntKind.i64.wrap (Int.tdiv x6_0_3 (64 : Int))) ∧ (IntKind.i64.wrap (Int.tdiv x6_0_3 (64 : Int))) < 4)).bind fun _ =>
 (ck (0 ≤ (Int.tmod x6_0_3 (64 : Int)))).bind fun _ =>
 bset_Range_l0 K k x1 (IntKind.i64.wrap (x6_0_3 + (1 : Int))) y4_0_1 (Arr4.set y5_0_2 (IntKind.i64.wrap (Int.tdiv x6_0_3 (64 : Int))) (bits .or .u64 (Arr4.get y5_0_2 (IntKind.i64.wrap (Int.tdiv x6_0_3 (64 : Int)))) (IntKind.u64.wrap ((1 : Int) * 2 ^ min (Int.toNat (Int.tmod x6_0_3 (64 : Int))) IntKind.u64.bits))))
 else
 some y5_0_2
def bset_Range (K : Nat) (x0 : Int) (x1 : Int) : Option Arr4 :=
 bset_Range_l0 K K x1 (IntKind.i64.wrap x0) (Arr4.mk 0 0 0 0) (Arr4.mk 0 0 0 0)
def bset_Or_l1 (K : Nat) (go0 : (List Arr4) → Int → Int → Arr4 → Arr4 → Option Arr4) : Nat → (List Arr4) → Int → Int → Arr4 → Int → Arr4 → Arr4 → Option Arr4
 | 0 => fun _ _ _ _ _ _ _ => none
 | k + 1 => fun x0 x9_0_3 x10_1_4 x14_1_5 x15_1_6 y2_0_0 y3_1_1 =>
 bif (decide (x15_1_6 < (4 : Int))) then
 (ck (0 ≤ x15_1_6 ∧ x15_1_6 < 4)).bind fun _ =>
 bset_Or_l1 K go0 k x0 x9_0_3 x10_1_4 x14_1_5 (IntKind.i64.wrap (x15_1_6 + (1 : Int))) y2_0_0 (Arr4.set y3_1_1 x15_1_6 (bits .or .u64 (Arr4.get y3_1_1 x15_1_6) (Arr4.get x14_1_5 x15_1_6)))
 else
 go0 x0 x9_0_3 (IntKind.i64.wrap (x10_1_4 + (1 : Int))) y2_0_0 y3_1_1
def bset_Or_l0 (K : Nat) : Nat → (List Arr4) → Int → Int → Arr4 → Arr4 → Option Arr4
 | 0 => fun _ _ _ _ _ => none
 | k + 1 => fun x0 x9_0_3 x10_0_4 y2_0_0 y3_0_1 =>
 bif (decide (x10_0_4 < x9_0_3)) then
 (geti x0 x10_0_4).bind fun v_94 =>
 bset_Or_l1 K (bset_Or_l0 K k) K x0 x9_0_3 x10_0_4 v_94 (0 : Int) y2_0_0 y3_0_1
 else
 some y3_0_1
def bset_Or (K : Nat) (x0 : List Arr4) : Option Arr4 :=
 bset_Or_l0 K K x0 (x0.length : Int) (0 : Int) (Arr4.mk 0 0 0 0) (Arr4.mk 0 0 0 0)
def syr_class_j5 (K : Nat) (go0 : Bool → Bool → ByteArray → Int → Int → Int → Int → (List aNd) → Arr4 → Arr4 → Option (Arr4 × syp)) (x3_0_7 : Bool) (x6_5_9 : Int) (x7_5_10 : Int) (x19_5_11 : Bool) (x20_5_12 : Bool) (x24_5_13 : Bool) (y0_5_0 : ByteArray) (y0_5_1 : Int) (y0_5_2 : Int) (y0_5_3 : Int) (y0_5_5 : Int) (y0_5_4 : List aNd) (y2_0_6 : Arr4) (y4_0_8 : Arr4) : Option (Arr4 × syp) :=
 (bset_Range K x6_5_9 x7_5_10).bind fun v_584 =>
 (bset_Or K [y4_0_8, v_584]).bind fun v_586 =>
 go0 x3_0_7 false y0_5_0 y0_5_1 y0_5_2 y0_5_3 y0_5_5 y0_5_4 y2_0_6 v_586
def syr_class_j1 (K : Nat) (go0 : Bool → Bool → ByteArray → Int → Int → Int → Int → (List aNd) → Arr4 → Arr4 → Option (Arr4 × syp)) (x3_0_7 : Bool) (x19_1_9 : Bool) (x20_1_10 : Bool) (x24_1_11 : Bool) (y0_1_0 : ByteArray) (y0_1_1 : Int) (y0_1_2 : Int) (y0_1_3 : Int) (y0_1_5 : Int) (y0_1_4 : List aNd) (y2_0_6 : Arr4) (y4_0_8 : Arr4) : Option (Arr4 × syp) :=
 (syr_member K (syp.mk (syr.mk y0_1_0 y0_1_1 y0_1_2 y0_1_3) y0_1_4 y0_1_5)).bind fun v_565 =>
 (syr_skip K v_565.2 (45 : Int)).bind fun v_568 =>
 bif v_568.1 then
 (syr_member K v_568.2).bind fun v_572 =>
 bif (decide (v_572.1 < v_565.1)) then
 (syr_fail K v_572.2 (44 : Int) v_568.2.reader.at_).bind fun v_576 =>
 syr_class_j5 K go0 x3_0_7 v_565.1 v_572.1 x19_1_9 x20_1_10 x24_1_11 v_576.reader.s v_576.reader.at_ v_576.reader.where_ v_576.reader.e v_576.deep v_576.nodes y2_0_6 y4_0_8
 else
 syr_class_j5 K go0 x3_0_7 v_565.1 v_572.1 x19_1_9 x20_1_10 x24_1_11 v_572.2.reader.s v_572.2.reader.at_ v_572.2.reader.where_ v_572.2.reader.e v_572.2.deep v_572.2.nodes y2_0_6 y4_0_8
 else
 syr_class_j5 K go0 x3_0_7 v_565.1 v_565.1 x19_1_9 x20_1_10 x24_1_11 v_568.2.reader.s v_568.2.reader.at_ v_568.2.reader.where_ v_568.2.reader.e v_568.2.deep v_568.2.nodes y2_0_6 y4_0_8
def syr_class_j4 (K : Nat) (y0_4_0 : ByteArray) (y0_4_1 : Int) (y0_4_2 : Int) (y0_4_3 : Int) (y0_4_5 : Int) (y0_4_4 : List aNd) (y2_0_6 : Arr4) (y4_3_7 : Arr4) : Option (Arr4 × syp) :=
 (syr_next K (syp.mk (syr.mk y0_4_0 y0_4_1 y0_4_2 y0_4_3) y0_4_4 y0_4_5)).bind fun v_599 =>
 some (y4_3_7, v_599.2)
def syr_class_j3 (K : Nat) (y0_3_0 : ByteArray) (y0_3_1 : Int) (y0_3_2 : Int) (y0_3_3 : Int) (y0_3_5 : Int) (y0_3_4 : List aNd) (y2_0_6 : Arr4) (y4_3_7 : Arr4) : Option (Arr4 × syp) :=
 bif (Arr4.same y4_3_7 (Arr4.mk 0 0 0 0)) then
 (syr_fail K (syp.mk (syr.mk y0_3_0 y0_3_1 y0_3_2 y0_3_3) y0_3_4 y0_3_5) (44 : Int) y0_3_1).bind fun v_596 =>
 syr_class_j4 K v_596.reader.s v_596.reader.at_ v_596.reader.where_ v_596.reader.e v_596.deep v_596.nodes y2_0_6 y4_3_7
 else
 syr_class_j4 K y0_3_0 y0_3_1 y0_3_2 y0_3_3 y0_3_5 y0_3_4 y2_0_6 y4_3_7
def syr_class_j2 (K : Nat) (x3_0_7 : Bool) (y0_2_0 : ByteArray) (y0_2_1 : Int) (y0_2_2 : Int) (y0_2_3 : Int) (y0_2_5 : Int) (y0_2_4 : List aNd) (y2_0_6 : Arr4) (y4_0_8 : Arr4) : Option (Arr4 × syp) :=
 bif x3_0_7 then
 (bset_Not K y4_0_8).bind fun v_593 =>
 syr_class_j3 K y0_2_0 y0_2_1 y0_2_2 y0_2_3 y0_2_5 y0_2_4 y2_0_6 v_593
 else
 syr_class_j3 K y0_2_0 y0_2_1 y0_2_2 y0_2_3 y0_2_5 y0_2_4 y2_0_6 y4_0_8
def syr_class_l0 (K : Nat) : Nat → Bool → Bool → ByteArray → Int → Int → Int → Int → (List aNd) → Arr4 → Arr4 → Option (Arr4 × syp)
 | 0 => fun _ _ _ _ _ _ _ _ _ _ => none
 | k + 1 => fun x3_0_7 x5_0_9 y0_0_0 y0_0_1 y0_0_2 y0_0_3 y0_0_5 y0_0_4 y2_0_6 y4_0_8 =>
 bif (y0_0_3 == (0 : Int)) then
 bif x5_0_9 then
 syr_class_j1 K (syr_class_l0 K k) x3_0_7 x5_0_9 x5_0_9 true y0_0_0 y0_0_1 y0_0_2 y0_0_3 y0_0_5 y0_0_4 y2_0_6 y4_0_8
 else
 (syr_is K (syp.mk (syr.mk y0_0_0 y0_0_1 y0_0_2 y0_0_3) y0_0_4 y0_0_5) (93 : Int)).bind fun v_588 =>
 bif (!v_588) then
 syr_class_j1 K (syr_class_l0 K k) x3_0_7 x5_0_9 x5_0_9 (!v_588) ((syp.mk (syr.mk y0_0_0 y0_0_1 y0_0_2 y0_0_3) y0_0_4 y0_0_5).reader.s) ((syp.mk (syr.mk y0_0_0 y0_0_1 y0_0_2 y0_0_3) y0_0_4 y0_0_5).reader.at_) ((syp.mk (syr.mk y0_0_0 y0_0_1 y0_0_2 y0_0_3) y0_0_4 y0_0_5).reader.where_) ((syp.mk (syr.mk y0_0_0 y0_0_1 y0_0_2 y0_0_3) y0_0_4 y0_0_5).reader.e) ((syp.mk (syr.mk y0_0_0 y0_0_1 y0_0_2 y0_0_3) y0_0_4 y0_0_5).deep) ((syp.mk (syr.mk y0_0_0 y0_0_1 y0_0_2 y0_0_3) y0_0_4 y0_0_5).nodes) y2_0_6 y4_0_8
 else
 syr_class_j2 K x3_0_7 ((syp.mk (syr.mk y0_0_0 y0_0_1 y0_0_2 y0_0_3) y0_0_4 y0_0_5).reader.s) ((syp.mk (syr.mk y0_0_0 y0_0_1 y0_0_2 y0_0_3) y0_0_4 y0_0_5).reader.at_) ((syp.mk (syr.mk y0_0_0 y0_0_1 y0_0_2 y0_0_3) y0_0_4 y0_0_5).reader.where_) ((syp.mk (syr.mk y0_0_0 y0_0_1 y0_0_2 y0_0_3) y0_0_4 y0_0_5).reader.e) ((syp.mk (syr.mk y0_0_0 y0_0_1 y0_0_2 y0_0_3) y0_0_4 y0_0_5).deep) ((syp.mk (syr.mk y0_0_0 y0_0_1 y0_0_2 y0_0_3) y0_0_4 y0_0_5).nodes) y2_0_6 y4_0_8
 else
 syr_class_j2 K x3_0_7 y0_0_0 y0_0_1 y0_0_2 y0_0_3 y0_0_5 y0_0_4 y2_0_6 y4_0_8
def syr_class (K : Nat) (x0 : syp) : Option (Arr4 × syp) :=
 (syr_next K x0).bind fun v_556 =>
 (syr_skip K v_556.2 (94 : Int)).bind fun v_559 =>
 syr_class_l0 K K v_559.1 true v_559.2.reader.s v_559.2.reader.at_ v_559.2.reader.where_ v_559.2.reader.e v_559.2.deep v_559.2.nodes (Arr4.mk 0 0 0 0) (Arr4.mk 0 0 0 0)
def syp_group (K : Nat) (rec_syp_alternative : syp → Option (Int × syp)) (x0 : syp) : Option (Int × syp) :=
 bif (decide (x0.deep ≥ (64 : Int))) then
 (syr_fail K x0 (46 : Int) x0.reader.at_).bind fun v_65 =>
 some ((0 : Int), v_65)
 else
 (syr_next K x0).bind fun v_67 =>
 (rec_syp_alternative (syp.mk v_67.2.reader v_67.2.nodes (IntKind.i64.wrap (v_67.2.deep + (1 : Int))))).bind fun v_70 =>
 (syr_next K (syp.mk v_70.2.reader v_70.2.nodes (IntKind.i64.wrap (v_70.2.deep - (1 : Int))))).bind fun v_73 =>
 some (v_70.1, v_73.2)
def syp_atom_j1 (K : Nat) (rec_syp_alternative : syp → Option (Int × syp)) (x0 : syp) : Option (Int × syp) :=
 (syr_fail K x0 (42 : Int) x0.reader.at_).bind fun v_341 =>
 some ((0 : Int), v_341)
def syp_atom_j2 (K : Nat) (rec_syp_alternative : syp → Option (Int × syp)) (x0 : syp) : Option (Int × syp) :=
 (syr_one K x0).bind fun v_353 =>
 (bset_Of K [v_353.1]).bind fun v_356 =>
 (syp_bytes K v_353.2 v_356).bind fun v_358 =>
 some (v_358.1, v_358.2)
def syp_atom_j0 (K : Nat) (rec_syp_alternative : syp → Option (Int × syp)) (x3_0_6 : Int) (x0 : syp) : Option (Int × syp) :=
 bif (x3_0_6 == (47 : Int)) then
 syp_atom_j1 K rec_syp_alternative x0
 else
 bif (x3_0_6 == (36 : Int)) then
 syp_atom_j1 K rec_syp_alternative x0
 else
 bif (x3_0_6 != (92 : Int)) then
 (strings_IndexByte K (⟨#[124, 42, 43, 63, 123, 125, 40, 41, 91, 93, 46, 92, 47, 36, 94, 34]⟩ : ByteArray) x3_0_6).bind fun v_345 =>
 bif (decide (v_345 ≥ (0 : Int))) then
 (syr_fail K x0 (41 : Int) x0.reader.at_).bind fun v_351 =>
 some ((0 : Int), v_351)
 else
 syp_atom_j2 K rec_syp_alternative x0
 else
 syp_atom_j2 K rec_syp_alternative x0
def syp_atom (K : Nat) (rec_syp_alternative : syp → Option (Int × syp)) (x0 : syp) : Option (Int × syp) :=
 (syr_peek K x0).bind fun v_301 =>
 bif (v_301.1 == (40 : Int)) then
 (syp_group K rec_syp_alternative x0).bind fun v_305 =>
 some (v_305.1, v_305.2)
 else
 bif (v_301.1 == (91 : Int)) then
 (syr_class K x0).bind fun v_309 =>
 (syp_bytes K v_309.2 v_309.1).bind fun v_312 =>
 some (v_312.1, v_312.2)
 else
 bif (v_301.1 == (46 : Int)) then
 (syr_next K x0).bind fun v_316 =>
 (bset_Of K [(10 : Int)]).bind fun v_319 =>
 (bset_Not K v_319).bind fun v_321 =>
 (syp_bytes K v_316.2 v_321).bind fun v_323 =>
 some (v_323.1, v_323.2)
 else
 bif (v_301.1 == (123 : Int)) then
 (syr_digit K x0 (1 : Int)).bind fun v_327 =>
 bif (!v_327) then
 (syr_name K x0).bind fun v_331 =>
 (syp_put K v_331.2 (aNd.mk (6 : Int) (Arr4.mk 0 0 0 0) [] (0 : Int) (0 : Int) v_331.1)).bind fun v_334 =>
 some (v_334.1, v_334.2)
 else
 syp_atom_j0 K rec_syp_alternative v_301.1 x0
 else
 syp_atom_j0 K rec_syp_alternative v_301.1 x0
def syr_number_j1 (K : Nat) (y9000_1_0 : ByteArray) (y9000_1_1 : Int) (y9000_1_2 : Int) (y9000_1_3 : Int) (y9000_1_5 : Int) (y9000_1_4 : List aNd) : Option (Int × syp) :=
 some ((-1 : Int), (syp.mk (syr.mk y9000_1_0 y9000_1_1 y9000_1_2 y9000_1_3) y9000_1_4 y9000_1_5))
def syr_number_l0 (K : Nat) : Nat → syp → Int → ByteArray → Int → Int → Int → Int → (List aNd) → Option (Int × syp)
 | 0 => fun _ _ _ _ _ _ _ _ => none
 | k + 1 => fun x0 x4_0_7 y0_0_0 y0_0_1 y0_0_2 y0_0_3 y0_0_5 y0_0_4 =>
 (syr_digit K (syp.mk (syr.mk y0_0_0 y0_0_1 y0_0_2 y0_0_3) y0_0_4 y0_0_5) (0 : Int)).bind fun v_111 =>
 bif v_111 then
 (syr_next K (syp.mk (syr.mk y0_0_0 y0_0_1 y0_0_2 y0_0_3) y0_0_4 y0_0_5)).bind fun v_115 =>
 syr_number_l0 K k x0 (if (4097 : Int) < (IntKind.i64.wrap ((IntKind.i64.wrap ((10 : Int) * x4_0_7)) + (IntKind.i64.wrap (IntKind.u8.wrap (v_115.1 - (48 : Int)))))) then (4097 : Int) else (IntKind.i64.wrap ((IntKind.i64.wrap ((10 : Int) * x4_0_7)) + (IntKind.i64.wrap (IntKind.u8.wrap (v_115.1 - (48 : Int))))))) v_115.2.reader.s v_115.2.reader.at_ v_115.2.reader.where_ v_115.2.reader.e v_115.2.deep v_115.2.nodes
 else
 bif (decide ((IntKind.i64.wrap ((syp.mk (syr.mk y0_0_0 y0_0_1 y0_0_2 y0_0_3) y0_0_4 y0_0_5).reader.at_ - x0.reader.at_)) > (6 : Int))) then
 syr_number_j1 K ((syp.mk (syr.mk y0_0_0 y0_0_1 y0_0_2 y0_0_3) y0_0_4 y0_0_5).reader.s) ((syp.mk (syr.mk y0_0_0 y0_0_1 y0_0_2 y0_0_3) y0_0_4 y0_0_5).reader.at_) ((syp.mk (syr.mk y0_0_0 y0_0_1 y0_0_2 y0_0_3) y0_0_4 y0_0_5).reader.where_) ((syp.mk (syr.mk y0_0_0 y0_0_1 y0_0_2 y0_0_3) y0_0_4 y0_0_5).reader.e) ((syp.mk (syr.mk y0_0_0 y0_0_1 y0_0_2 y0_0_3) y0_0_4 y0_0_5).deep) ((syp.mk (syr.mk y0_0_0 y0_0_1 y0_0_2 y0_0_3) y0_0_4 y0_0_5).nodes)
 else
 bif (decide ((IntKind.i64.wrap ((syp.mk (syr.mk y0_0_0 y0_0_1 y0_0_2 y0_0_3) y0_0_4 y0_0_5).reader.at_ - x0.reader.at_)) > (1 : Int))) then
 (ck (0 ≤ x0.reader.at_ ∧ x0.reader.at_ < ((syp.mk (syr.mk y0_0_0 y0_0_1 y0_0_2 y0_0_3) y0_0_4 y0_0_5).reader.s).size)).bind fun _ =>
 bif ((bt ((syp.mk (syr.mk y0_0_0 y0_0_1 y0_0_2 y0_0_3) y0_0_4 y0_0_5).reader.s) x0.reader.at_) == (48 : Int)) then
 syr_number_j1 K ((syp.mk (syr.mk y0_0_0 y0_0_1 y0_0_2 y0_0_3) y0_0_4 y0_0_5).reader.s) ((syp.mk (syr.mk y0_0_0 y0_0_1 y0_0_2 y0_0_3) y0_0_4 y0_0_5).reader.at_) ((syp.mk (syr.mk y0_0_0 y0_0_1 y0_0_2 y0_0_3) y0_0_4 y0_0_5).reader.where_) ((syp.mk (syr.mk y0_0_0 y0_0_1 y0_0_2 y0_0_3) y0_0_4 y0_0_5).reader.e) ((syp.mk (syr.mk y0_0_0 y0_0_1 y0_0_2 y0_0_3) y0_0_4 y0_0_5).deep) ((syp.mk (syr.mk y0_0_0 y0_0_1 y0_0_2 y0_0_3) y0_0_4 y0_0_5).nodes)
 else
 some (x4_0_7, (syp.mk (syr.mk y0_0_0 y0_0_1 y0_0_2 y0_0_3) y0_0_4 y0_0_5))
 else
 some (x4_0_7, (syp.mk (syr.mk y0_0_0 y0_0_1 y0_0_2 y0_0_3) y0_0_4 y0_0_5))
def syr_number (K : Nat) (x0 : syp) : Option (Int × syp) :=
 syr_number_l0 K K x0 (0 : Int) x0.reader.s x0.reader.at_ x0.reader.where_ x0.reader.e x0.deep x0.nodes
def syr_bounds_j1 (K : Nat) (x2_0_6 : Int) (x3_0_7 : Int) (y9000_1_2 : ByteArray) (y9000_1_3 : Int) (y9000_1_4 : Int) (y9000_1_5 : Int) (y9000_1_7 : Int) (y9000_1_6 : List aNd) : Option (Int × Int × syp) :=
 some (x2_0_6, x3_0_7, (syp.mk (syr.mk y9000_1_2 y9000_1_3 y9000_1_4 y9000_1_5) y9000_1_6 y9000_1_7))
def syr_bounds_j2 (K : Nat) (x2_0_6 : Int) (x3_0_7 : Int) (x0 : syp) (y0_2_0 : ByteArray) (y0_2_1 : Int) (y0_2_2 : Int) (y0_2_3 : Int) (y0_2_5 : Int) (y0_2_4 : List aNd) : Option (Int × Int × syp) :=
 (syr_fail K (syp.mk (syr.mk y0_2_0 y0_2_1 y0_2_2 y0_2_3) y0_2_4 y0_2_5) (45 : Int) x0.reader.at_).bind fun v_308 =>
 syr_bounds_j1 K x2_0_6 x3_0_7 v_308.reader.s v_308.reader.at_ v_308.reader.where_ v_308.reader.e v_308.deep v_308.nodes
def syr_bounds_j3 (K : Nat) (x2_0_6 : Int) (x3_0_7 : Int) (y9000_3_2 : ByteArray) (y9000_3_3 : Int) (y9000_3_4 : Int) (y9000_3_5 : Int) (y9000_3_7 : Int) (y9000_3_6 : List aNd) : Option (Int × Int × syp) :=
 syr_bounds_j1 K x2_0_6 x3_0_7 y9000_3_2 y9000_3_3 y9000_3_4 y9000_3_5 y9000_3_7 y9000_3_6
def syr_bounds_j0 (K : Nat) (x2_0_6 : Int) (x3_0_7 : Int) (x0 : syp) (x5_0_9 : Bool) (y0_0_0 : ByteArray) (y0_0_1 : Int) (y0_0_2 : Int) (y0_0_3 : Int) (y0_0_5 : Int) (y0_0_4 : List aNd) : Option (Int × Int × syp) :=
 (syr_next K (syp.mk (syr.mk y0_0_0 y0_0_1 y0_0_2 y0_0_3) y0_0_4 y0_0_5)).bind fun v_299 =>
 bif (v_299.2.reader.e != (0 : Int)) then
 syr_bounds_j1 K x2_0_6 x3_0_7 v_299.2.reader.s v_299.2.reader.at_ v_299.2.reader.where_ v_299.2.reader.e v_299.2.deep v_299.2.nodes
 else
 bif (v_299.1 != (125 : Int)) then
 (syr_fail K v_299.2 (41 : Int) y0_0_1).bind fun v_304 =>
 syr_bounds_j1 K x2_0_6 x3_0_7 v_304.reader.s v_304.reader.at_ v_304.reader.where_ v_304.reader.e v_304.deep v_304.nodes
 else
 bif x5_0_9 then
 syr_bounds_j2 K x2_0_6 x3_0_7 x0 v_299.2.reader.s v_299.2.reader.at_ v_299.2.reader.where_ v_299.2.reader.e v_299.2.deep v_299.2.nodes
 else
 bif (decide (x2_0_6 > (4096 : Int))) then
 syr_bounds_j2 K x2_0_6 x3_0_7 x0 v_299.2.reader.s v_299.2.reader.at_ v_299.2.reader.where_ v_299.2.reader.e v_299.2.deep v_299.2.nodes
 else
 bif (decide (x3_0_7 > (4096 : Int))) then
 syr_bounds_j2 K x2_0_6 x3_0_7 x0 v_299.2.reader.s v_299.2.reader.at_ v_299.2.reader.where_ v_299.2.reader.e v_299.2.deep v_299.2.nodes
 else
 bif (x3_0_7 == (0 : Int)) then
 syr_bounds_j2 K x2_0_6 x3_0_7 x0 v_299.2.reader.s v_299.2.reader.at_ v_299.2.reader.where_ v_299.2.reader.e v_299.2.deep v_299.2.nodes
 else
 bif (decide (x3_0_7 > (0 : Int))) then
 bif (decide (x3_0_7 < x2_0_6)) then
 syr_bounds_j2 K x2_0_6 x3_0_7 x0 v_299.2.reader.s v_299.2.reader.at_ v_299.2.reader.where_ v_299.2.reader.e v_299.2.deep v_299.2.nodes
 else
 syr_bounds_j3 K x2_0_6 x3_0_7 v_299.2.reader.s v_299.2.reader.at_ v_299.2.reader.where_ v_299.2.reader.e v_299.2.deep v_299.2.nodes
 else
 syr_bounds_j3 K x2_0_6 x3_0_7 v_299.2.reader.s v_299.2.reader.at_ v_299.2.reader.where_ v_299.2.reader.e v_299.2.deep v_299.2.nodes
def syr_bounds (K : Nat) (x0 : syp) : Option (Int × Int × syp) :=
 (syr_next K x0).bind fun v_281 =>
 (syr_number K v_281.2).bind fun v_284 =>
 (syr_skip K v_284.2 (44 : Int)).bind fun v_287 =>
 bif v_287.1 then
 (syr_digit K v_287.2 (0 : Int)).bind fun v_291 =>
 bif v_291 then
 (syr_number K v_287.2).bind fun v_295 =>
 bif (decide (v_284.1 < (0 : Int))) then
 syr_bounds_j0 K v_284.1 v_295.1 x0 true v_295.2.reader.s v_295.2.reader.at_ v_295.2.reader.where_ v_295.2.reader.e v_295.2.deep v_295.2.nodes
 else
 syr_bounds_j0 K v_284.1 v_295.1 x0 (decide (v_295.1 < (0 : Int))) v_295.2.reader.s v_295.2.reader.at_ v_295.2.reader.where_ v_295.2.reader.e v_295.2.deep v_295.2.nodes
 else
 syr_bounds_j0 K v_284.1 (-1 : Int) x0 (decide (v_284.1 < (0 : Int))) v_287.2.reader.s v_287.2.reader.at_ v_287.2.reader.where_ v_287.2.reader.e v_287.2.deep v_287.2.nodes
 else
 syr_bounds_j0 K v_284.1 v_284.1 x0 (decide (v_284.1 < (0 : Int))) v_287.2.reader.s v_287.2.reader.at_ v_287.2.reader.where_ v_287.2.reader.e v_287.2.deep v_287.2.nodes
def syp_times_j0 (K : Nat) (y9000_0_0 : ByteArray) (y9000_0_1 : Int) (y9000_0_2 : Int) (y9000_0_3 : Int) (y9000_0_5 : Int) (y9000_0_4 : List aNd) : Option (Int × Int × Bool × syp) :=
 some ((0 : Int), (0 : Int), false, (syp.mk (syr.mk y9000_0_0 y9000_0_1 y9000_0_2 y9000_0_3) y9000_0_4 y9000_0_5))
def syp_times (K : Nat) (x0 : syp) : Option (Int × Int × Bool × syp) :=
 (syr_skip K x0 (42 : Int)).bind fun v_116 =>
 bif v_116.1 then
 some ((0 : Int), (-1 : Int), true, v_116.2)
 else
 (syr_skip K v_116.2 (43 : Int)).bind fun v_120 =>
 bif v_120.1 then
 some ((1 : Int), (-1 : Int), true, v_120.2)
 else
 (syr_skip K v_120.2 (63 : Int)).bind fun v_124 =>
 bif v_124.1 then
 some ((0 : Int), (1 : Int), true, v_124.2)
 else
 (syr_is K v_124.2 (123 : Int)).bind fun v_128 =>
 bif v_128 then
 (syr_digit K v_124.2 (1 : Int)).bind fun v_132 =>
 bif v_132 then
 (syr_bounds K v_124.2).bind fun v_136 =>
 some (v_136.1, v_136.2.1, true, v_136.2.2)
 else
 syp_times_j0 K v_124.2.reader.s v_124.2.reader.at_ v_124.2.reader.where_ v_124.2.reader.e v_124.2.deep v_124.2.nodes
 else
 syp_times_j0 K v_124.2.reader.s v_124.2.reader.at_ v_124.2.reader.where_ v_124.2.reader.e v_124.2.deep v_124.2.nodes
def syp_item_l0 (K : Nat) (rec_syp_alternative : syp → Option (Int × syp)) : Nat → Int → ByteArray → Int → Int → Int → Int → (List aNd) → Option (Int × syp)
 | 0 => fun _ _ _ _ _ _ _ => none
 | k + 1 => fun x3_0_6 y0_0_0 y0_0_1 y0_0_2 y0_0_3 y0_0_5 y0_0_4 =>
 (syp_times K (syp.mk (syr.mk y0_0_0 y0_0_1 y0_0_2 y0_0_3) y0_0_4 y0_0_5)).bind fun v_54 =>
 bif (!v_54.2.2.1) then
 some (x3_0_6, v_54.2.2.2)
 else
 (syp_put K v_54.2.2.2 (aNd.mk (5 : Int) (Arr4.mk 0 0 0 0) [x3_0_6] v_54.1 v_54.2.1 (⟨#[]⟩ : ByteArray))).bind fun v_58 =>
 syp_item_l0 K rec_syp_alternative k v_58.1 v_58.2.reader.s v_58.2.reader.at_ v_58.2.reader.where_ v_58.2.reader.e v_58.2.deep v_58.2.nodes
def syp_item (K : Nat) (rec_syp_alternative : syp → Option (Int × syp)) (x0 : syp) : Option (Int × syp) :=
 (syp_atom K rec_syp_alternative x0).bind fun v_51 =>
 syp_item_l0 K rec_syp_alternative K v_51.1 v_51.2.reader.s v_51.2.reader.at_ v_51.2.reader.where_ v_51.2.reader.e v_51.2.deep v_51.2.nodes
def syp_join (K : Nat) (x0 : syp) (x1 : Int) (x2 : List Int) : Option (Int × syp) :=
 bif ((x2.length : Int) == (1 : Int)) then
 (geti x2 (0 : Int)).bind fun v_26 =>
 some (v_26, x0)
 else
 (syp_put K x0 (aNd.mk x1 (Arr4.mk 0 0 0 0) x2 (0 : Int) (0 : Int) (⟨#[]⟩ : ByteArray))).bind fun v_28 =>
 some (v_28.1, v_28.2)
def syp_row_j1 (K : Nat) (rec_syp_alternative : syp → Option (Int × syp)) (y0_1_0 : ByteArray) (y0_1_1 : Int) (y0_1_2 : Int) (y0_1_3 : Int) (y0_1_5 : Int) (y0_1_4 : List aNd) (y3_1_6 : List Int) : Option (Int × syp) :=
 bif ((y3_1_6.length : Int) == (0 : Int)) then
 (syp_put K (syp.mk (syr.mk y0_1_0 y0_1_1 y0_1_2 y0_1_3) y0_1_4 y0_1_5) (aNd.mk (1 : Int) (Arr4.mk 0 0 0 0) [] (0 : Int) (0 : Int) (⟨#[]⟩ : ByteArray))).bind fun v_148 =>
 some (v_148.1, v_148.2)
 else
 (syp_join K (syp.mk (syr.mk y0_1_0 y0_1_1 y0_1_2 y0_1_3) y0_1_4 y0_1_5) (3 : Int) y3_1_6).bind fun v_151 =>
 some (v_151.1, v_151.2)
def syp_row_l0 (K : Nat) (rec_syp_alternative : syp → Option (Int × syp)) : Nat → ByteArray → Int → Int → Int → Int → (List aNd) → (List Int) → Option (Int × syp)
 | 0 => fun _ _ _ _ _ _ _ => none
 | k + 1 => fun y0_0_0 y0_0_1 y0_0_2 y0_0_3 y0_0_5 y0_0_4 y3_0_6 =>
 (syr_peek K (syp.mk (syr.mk y0_0_0 y0_0_1 y0_0_2 y0_0_3) y0_0_4 y0_0_5)).bind fun v_143 =>
 bif (!v_143.2) then
 syp_row_j1 K rec_syp_alternative ((syp.mk (syr.mk y0_0_0 y0_0_1 y0_0_2 y0_0_3) y0_0_4 y0_0_5).reader.s) ((syp.mk (syr.mk y0_0_0 y0_0_1 y0_0_2 y0_0_3) y0_0_4 y0_0_5).reader.at_) ((syp.mk (syr.mk y0_0_0 y0_0_1 y0_0_2 y0_0_3) y0_0_4 y0_0_5).reader.where_) ((syp.mk (syr.mk y0_0_0 y0_0_1 y0_0_2 y0_0_3) y0_0_4 y0_0_5).reader.e) ((syp.mk (syr.mk y0_0_0 y0_0_1 y0_0_2 y0_0_3) y0_0_4 y0_0_5).deep) ((syp.mk (syr.mk y0_0_0 y0_0_1 y0_0_2 y0_0_3) y0_0_4 y0_0_5).nodes) y3_0_6
 else
 bif (v_143.1 == (124 : Int)) then
 syp_row_j1 K rec_syp_alternative ((syp.mk (syr.mk y0_0_0 y0_0_1 y0_0_2 y0_0_3) y0_0_4 y0_0_5).reader.s) ((syp.mk (syr.mk y0_0_0 y0_0_1 y0_0_2 y0_0_3) y0_0_4 y0_0_5).reader.at_) ((syp.mk (syr.mk y0_0_0 y0_0_1 y0_0_2 y0_0_3) y0_0_4 y0_0_5).reader.where_) ((syp.mk (syr.mk y0_0_0 y0_0_1 y0_0_2 y0_0_3) y0_0_4 y0_0_5).reader.e) ((syp.mk (syr.mk y0_0_0 y0_0_1 y0_0_2 y0_0_3) y0_0_4 y0_0_5).deep) ((syp.mk (syr.mk y0_0_0 y0_0_1 y0_0_2 y0_0_3) y0_0_4 y0_0_5).nodes) y3_0_6
 else
 bif (v_143.1 == (41 : Int)) then
 syp_row_j1 K rec_syp_alternative ((syp.mk (syr.mk y0_0_0 y0_0_1 y0_0_2 y0_0_3) y0_0_4 y0_0_5).reader.s) ((syp.mk (syr.mk y0_0_0 y0_0_1 y0_0_2 y0_0_3) y0_0_4 y0_0_5).reader.at_) ((syp.mk (syr.mk y0_0_0 y0_0_1 y0_0_2 y0_0_3) y0_0_4 y0_0_5).reader.where_) ((syp.mk (syr.mk y0_0_0 y0_0_1 y0_0_2 y0_0_3) y0_0_4 y0_0_5).reader.e) ((syp.mk (syr.mk y0_0_0 y0_0_1 y0_0_2 y0_0_3) y0_0_4 y0_0_5).deep) ((syp.mk (syr.mk y0_0_0 y0_0_1 y0_0_2 y0_0_3) y0_0_4 y0_0_5).nodes) y3_0_6
 else
 (syp_item K rec_syp_alternative (syp.mk (syr.mk y0_0_0 y0_0_1 y0_0_2 y0_0_3) y0_0_4 y0_0_5)).bind fun v_156 =>
 (ck (roomy 8 (y3_0_6.length + [v_156.1].length) = true)).bind fun _ =>
 syp_row_l0 K rec_syp_alternative k v_156.2.reader.s v_156.2.reader.at_ v_156.2.reader.where_ v_156.2.reader.e v_156.2.deep v_156.2.nodes (y3_0_6 ++ [v_156.1])
def syp_row (K : Nat) (rec_syp_alternative : syp → Option (Int × syp)) (x0 : syp) : Option (Int × syp) :=
 syp_row_l0 K rec_syp_alternative K x0.reader.s x0.reader.at_ x0.reader.where_ x0.reader.e x0.deep x0.nodes []
def syp_alternative_l0 (K : Nat) (rec_syp_alternative : syp → Option (Int × syp)) : Nat → ByteArray → Int → Int → Int → Int → (List aNd) → (List Int) → Option (Int × syp)
 | 0 => fun _ _ _ _ _ _ _ => none
 | k + 1 => fun y0_0_0 y0_0_1 y0_0_2 y0_0_3 y0_0_5 y0_0_4 y3_0_6 =>
 (syr_skip K (syp.mk (syr.mk y0_0_0 y0_0_1 y0_0_2 y0_0_3) y0_0_4 y0_0_5) (124 : Int)).bind fun v_111 =>
 bif v_111.1 then
 (syp_row K rec_syp_alternative v_111.2).bind fun v_115 =>
 (ck (roomy 8 (y3_0_6.length + [v_115.1].length) = true)).bind fun _ =>
 syp_alternative_l0 K rec_syp_alternative k v_115.2.reader.s v_115.2.reader.at_ v_115.2.reader.where_ v_115.2.reader.e v_115.2.deep v_115.2.nodes (y3_0_6 ++ [v_115.1])
 else
 (syp_join K v_111.2 (4 : Int) y3_0_6).bind fun v_120 =>
 some (v_120.1, v_120.2)
def syp_alternative_b (K : Nat) (rec_syp_alternative : syp → Option (Int × syp)) (x0 : syp) : Option (Int × syp) :=
 (syp_row K rec_syp_alternative x0).bind fun v_107 =>
 syp_alternative_l0 K rec_syp_alternative K v_107.2.reader.s v_107.2.reader.at_ v_107.2.reader.where_ v_107.2.reader.e v_107.2.deep v_107.2.nodes [v_107.1]
def syp_alternative_r (K : Nat) : Nat → syp → Option (Int × syp)
 | 0 => fun _ => none
 | n + 1 => syp_alternative_b K (syp_alternative_r K n)
def syp_alternative (K : Nat) (x0 : syp) : Option (Int × syp) := syp_alternative_r K K x0
def sy_Parse_j0 (K : Nat) (y5_0_0 : ByteArray) (y5_0_1 : Int) (y5_0_2 : Int) (y5_0_3 : Int) (y5_0_5 : Int) (y5_0_4 : List aNd) : Option ((List aNd) × Int × Int) :=
 bif (y5_0_3 != (0 : Int)) then
 some ([], y5_0_2, y5_0_3)
 else
 bif (decide ((y5_0_4.length : Int) > (1024 : Int))) then
 some ([], (0 : Int), (3 : Int))
 else
 some (y5_0_4, (0 : Int), (0 : Int))
def sy_Parse (K : Nat) (x0 : ByteArray) : Option ((List aNd) × Int × Int) :=
 bif (decide ((x0.size : Int) > (1024 : Int))) then
 some ([], (0 : Int), (3 : Int))
 else
 (syp_alternative K (syp.mk (syr.mk x0 (0 : Int) (0 : Int) (0 : Int)) [] (0 : Int))).bind fun v_139 =>
 (syr_peek K v_139.2).bind fun v_142 =>
 bif v_142.2 then
 (syr_fail K v_139.2 (41 : Int) v_139.2.reader.at_).bind fun v_149 =>
 sy_Parse_j0 K v_149.reader.s v_149.reader.at_ v_149.reader.where_ v_149.reader.e v_149.deep v_149.nodes
 else
 sy_Parse_j0 K v_139.2.reader.s v_139.2.reader.at_ v_139.2.reader.where_ v_139.2.reader.e v_139.2.deep v_139.2.nodes
def r4_Same_j1 (K : Nat) : Option Bool :=
 some false
def r4_Same_l2 (K : Nat) (go0 : (List aNd) → (List aNd) → Int → Option Bool) : Nat → (List aNd) → (List aNd) → Int → Int → Arr4 → Arr4 → Bool → Int → Int → Bool → Int → Int → Bool → ByteArray → ByteArray → Bool → (List Int) → Int → (List Int) → Int → Bool → Int → Arr4 → (List Int) → Int → Int → ByteArray → Int → Arr4 → (List Int) → Int → Int → ByteArray → Option Bool
 | 0 => fun _ _ _ _ _ _ _ _ _ _ _ _ _ _ _ _ _ _ _ _ _ _ _ _ _ _ _ _ _ _ _ _ _ => none
 | k + 1 => fun x0 x1 x5_2_2 x8_2_15 x35_2_16 x37_2_17 x38_2_18 x42_2_19 x44_2_20 x45_2_21 x49_2_22 x51_2_23 x52_2_24 x56_2_25 x58_2_26 x59_2_27 x63_2_28 x64_2_29 x66_2_30 x67_2_31 x68_2_32 y6_2_3 y6_2_4 y6_2_5 y6_2_6 y6_2_7 y6_2_8 y7_2_9 y7_2_10 y7_2_11 y7_2_12 y7_2_13 y7_2_14 =>
 bif (decide (x8_2_15 < (y6_2_5.length : Int))) then
 (geti y6_2_5 x8_2_15).bind fun v_396 =>
 (geti y7_2_11 x8_2_15).bind fun v_398 =>
 bif (v_396 != v_398) then
 some false
 else
 r4_Same_l2 K go0 k x0 x1 x5_2_2 (IntKind.i64.wrap (x8_2_15 + (1 : Int))) x35_2_16 x37_2_17 x38_2_18 x42_2_19 x44_2_20 x45_2_21 x49_2_22 x51_2_23 x52_2_24 x56_2_25 x58_2_26 x59_2_27 x63_2_28 x64_2_29 x66_2_30 x67_2_31 x68_2_32 y6_2_3 y6_2_4 y6_2_5 y6_2_6 y6_2_7 y6_2_8 y7_2_9 y7_2_10 y7_2_11 y7_2_12 y7_2_13 y7_2_14
 else
 go0 x0 x1 (IntKind.i64.wrap (x5_2_2 + (1 : Int)))
def r4_Same_l0 (K : Nat) : Nat → (List aNd) → (List aNd) → Int → Option Bool
 | 0 => fun _ _ _ => none
 | k + 1 => fun x0 x1 x5_0_2 =>
 bif (decide (x5_0_2 < (x0.length : Int))) then
 (geti x0 x5_0_2).bind fun v_378 =>
 (geti x1 x5_0_2).bind fun v_381 =>
 bif (v_378.Op != v_381.Op) then
 r4_Same_j1 K
 else
 bif (!(Arr4.same v_378.S v_381.S)) then
 r4_Same_j1 K
 else
 bif (v_378.Lo != v_381.Lo) then
 r4_Same_j1 K
 else
 bif (v_378.Hi != v_381.Hi) then
 r4_Same_j1 K
 else
 bif (!(v_378.Name.toList == v_381.Name.toList)) then
 r4_Same_j1 K
 else
 bif ((v_378.L.length : Int) != (v_381.L.length : Int)) then
 r4_Same_j1 K
 else
 r4_Same_l2 K (r4_Same_l0 K k) K x0 x1 x5_0_2 (0 : Int) v_378.S v_381.S (!(Arr4.same v_378.S v_381.S)) v_378.Lo v_381.Lo (v_378.Lo != v_381.Lo) v_378.Hi v_381.Hi (v_378.Hi != v_381.Hi) v_378.Name v_381.Name (!(v_378.Name.toList == v_381.Name.toList)) v_378.L (v_378.L.length : Int) v_381.L (v_381.L.length : Int) ((v_378.L.length : Int) != (v_381.L.length : Int)) v_378.Op v_378.S v_378.L v_378.Lo v_378.Hi v_378.Name v_381.Op v_381.S v_381.L v_381.Lo v_381.Hi v_381.Name
 else
 some true
def r4_Same (K : Nat) (x0 : List aNd) (x1 : List aNd) : Option Bool :=
 bif ((x0.length : Int) != (x1.length : Int)) then
 some false
 else
 r4_Same_l0 K K x0 x1 (0 : Int)
def l5_PrintOnce (K : Nat) (x0 : ByteArray) : Option Bool :=
 (l5_shown K).bind fun v_105 =>
 (ck (0 ≤ (if (300 : Int) < (x0.size : Int) then (300 : Int) else (x0.size : Int)) ∧ 0 ≤ (Int.toNat (if (300 : Int) < (x0.size : Int) then (300 : Int) else (x0.size : Int))) ∧ (Int.toNat (if (300 : Int) < (x0.size : Int) then (300 : Int) else (x0.size : Int))) ≤ x0.size)).bind fun _ =>
 (sy_Parse K (x0.extract 0 (Int.toNat (if (300 : Int) < (x0.size : Int) then (300 : Int) else (x0.size : Int))))).bind fun v_108 =>
 bif (v_108.2.2 != (0 : Int)) then
 some v_105
 else
 (pT K v_108.1).bind fun v_111 =>
 (sy_Parse K v_111.1).bind fun v_113 =>
 (pT K v_113.1).bind fun v_115 =>
 bif v_105 then
 bif v_111.2 then
 bif (decide ((v_111.1.size : Int) > (1024 : Int))) then
 bif (v_113.2.2 == (3 : Int)) then
 some true
 else
 bif (v_113.2.2 == (0 : Int)) then
 bif v_115.2 then
 bif (v_111.1.toList == v_115.1.toList) then
 (r4_Same K v_108.1 v_113.1).bind fun v_124 =>
 some v_124
 else
 some false
 else
 some false
 else
 some false
 else
 bif (v_113.2.2 == (0 : Int)) then
 bif v_115.2 then
 bif (v_111.1.toList == v_115.1.toList) then
 (r4_Same K v_108.1 v_113.1).bind fun v_129 =>
 some v_129
 else
 some false
 else
 some false
 else
 some false
 else
 some false
 else
 some false
end Go.Rv

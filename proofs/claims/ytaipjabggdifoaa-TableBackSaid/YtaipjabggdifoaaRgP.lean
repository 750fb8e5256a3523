/- What each function of the program computes, as plain Lean: printed by a program of ours from the translation. -/
import Derived.Test.YtaipjabggdifoaaRvCG
namespace Go.Rv
set_option linter.unusedVariables false
structure aSp where
 Of : Qy
 Many : Int
abbrev c_aSp (x : aSp) : List DC := ((Qy.dc 256 .u8 x.Of) ++ (([.int .i64 x.Many] : List DC)))
structure aMv where
 To : Int
 Ops : List Int
 deriving DecidableEq
abbrev Qw (x : aMv) : List DC := [.int .i64 x.To, .sl false 1 (x.Ops.map (cI .u8))]
structure aSt where
 L : List Int
 R : List Int
 Rule : List Int
 Next : List (List aMv)
 deriving DecidableEq
abbrev Qx (x : aSt) : List DC := [.sl false 1 (x.L.map (cI .i64)), .sl false 1 (x.R.map (cI .i64)), .sl false 1 (x.Rule.map (cI .i64)), .sl false 1 (x.Next.map (cL 2 Qw))]
structure aAu where
 Split : aSp
 Counts : List Ze
 States : List aSt
abbrev c_aAu (x : aAu) : List DC := ((Qy.dc 256 .u8 x.Split.Of) ++ (([.int .i64 x.Split.Many, .sl false 2 (x.Counts.map (Ze.dc .i64)), .sl false 4 (x.States.map Qx)] : List DC)))
structure Q4 where
 Auto : aAu
structure tbw where
 b : List Int
 deriving DecidableEq
structure X6 where
 b : List Int
 deriving DecidableEq
structure U9 where
 S : Zr
 Lo : Int
 Hi : Int
 Rule : Int
 Last : Bool
 Next : List Int
 deriving DecidableEq
abbrev Zh (x : U9) : List DC := [.int .u64 x.S.a0, .int .u64 x.S.a1, .int .u64 x.S.a2, .int .u64 x.S.a3, .int .i64 x.Lo, .int .i64 x.Hi, .int .i64 x.Rule, .bool x.Last, .sl false 1 (x.Next.map (cI .i64))]
structure Y6 where
 First : List Int
 P : List U9
 deriving DecidableEq
structure Qg where
 g : Y6
 number : List Int
 a : aAu
 e : Int
structure tbr where
 b : ByteArray
 bad : Bool
 deriving DecidableEq
abbrev Q1 (x : Bool × aSt) : List DC := [.sl false 1 (x.2.L.map (cI .i64)), .sl false 1 (x.2.R.map (cI .i64)), .sl (!x.1) 1 (x.2.Rule.map (cI .i64)), .sl (!x.1) 1 (x.2.Next.map (cL 2 Qw))]
def l4_few (K : Nat) (x0 : aAu) : Option aAu :=
 bif (decide ((x0.States.length : Int) > (60:Int))) then
 some (aAu.mk (aSp.mk (Qy.mk fun _ => 0) (0:Int)) [] [])
 else
 some x0
def Vf (K : Nat) : Nat → Int → aSp → Int → Option Bool
 | 0 => fun _ _ _ => none
 | k + 1 => fun b x0 a =>
 bif (decide (a < (256:Int))) then
 (ck (0 ≤ a ∧ a < 256)).bind fun _ =>
 bif (decide ((IntKind.i64.wrap (Qy.get x0.Of a)) > b)) then
 some false
 else
 bif ((IntKind.i64.wrap (Qy.get x0.Of a)) == b) then
 Vf K k (IntKind.i64.wrap (b + (1:Int))) x0 (IntKind.i64.wrap (a + (1:Int)))
 else
 Vf K k b x0 (IntKind.i64.wrap (a + (1:Int)))
 else
 some (b == x0.Many)
def Kq (K : Nat) (x0 : aSp) : Option Bool :=
 Vf K K (0:Int) x0 (0:Int)
def H9 (K : Nat) : Option Int :=
 some (0:Int)
def H8 (K : Nat) : Nat → Int → Int → Int → Option Int
 | 0 => fun _ _ _ => none
 | k + 1 => fun a x0 b =>
 bif (decide (b < x0)) then
 H8 K k (IntKind.i64.wrap (a * (3:Int))) x0 (IntKind.i64.wrap (b + (1:Int)))
 else
 some a
def Hj (K : Nat) (x0 : Int) : Option Int :=
 bif (decide (x0 < (0:Int))) then
 H9 K
 else
 bif (decide (x0 > (3:Int))) then
 H9 K
 else
 H8 K K (1:Int) x0 (0:Int)
def H5 (K : Nat) : Option Bool :=
 some false
def U6 (K : Nat) : Nat → Int → Int → (List Int) → Int → Int → Option Bool
 | 0 => fun _ _ _ _ _ => none
 | k + 1 => fun x1 d x0 c a =>
 bif (decide (a < c)) then
 (X0 x0 a).bind fun b =>
 bif (decide (b ≤ d)) then
 H5 K
 else
 bif (decide (b ≥ x1)) then
 H5 K
 else
 U6 K k x1 b x0 c (IntKind.i64.wrap (a + (1:Int)))
 else
 some true
def Ki (K : Nat) (x0 : List Int) (x1 : Int) : Option Bool :=
 U6 K K x1 (-1:Int) x0 (x0.length : Int) (0:Int)
def Y2 (K : Nat) : Nat → (List Int) → Int → Int → Int → Option Int
 | 0 => fun _ _ _ _ => none
 | k + 1 => fun x0 x1 b a =>
 bif (decide (a < b)) then
 (X0 x0 a).bind fun c =>
 bif (x1 == c) then
 some a
 else
 Y2 K k x0 x1 b (IntKind.i64.wrap (a + (1:Int)))
 else
 some (-1:Int)
def Wo (K : Nat) (x0 : List Int) (x1 : Int) : Option Int :=
 Y2 K K x0 x1 (x0.length : Int) (0:Int)
def Vl (K : Nat) (x0 : List Int) (x1 : Int) : Option Bool :=
 (Wo K x0 x1).bind fun a =>
 some (decide (a ≥ (0:Int)))
def Yc (K : Nat) : Option Bool :=
 some false
def Yb (K : Nat) : Option Bool :=
 some false
def Ya (K : Nat) : Nat → aMv → Int → Int → Q4 → aSt → Option Bool
 | 0 => fun _ _ _ _ _ => none
 | k + 1 => fun x2 b a x0 x1 =>
 bif (decide (a < b)) then
 (X0 x2.Ops a).bind fun c =>
 bif (decide (c < (1:Int))) then
 Yb K
 else
 bif (decide (c > (3:Int))) then
 Yb K
 else
 bif (c != (3:Int)) then
 (X0 x0.Auto.States x2.To).bind fun d =>
 (X0 d.R a).bind fun e =>
 (Vl K x1.R e).bind fun f =>
 bif (!f) then
 Yb K
 else
 Ya K k x2 b (IntKind.i64.wrap (a + (1:Int))) x0 x1
 else
 Ya K k x2 b (IntKind.i64.wrap (a + (1:Int))) x0 x1
 else
 some true
def Uz (K : Nat) (x0 : Q4) (x1 : aSt) (x2 : aMv) : Option Bool :=
 bif (x2.To == (-1:Int)) then
 some ((x2.Ops.length : Int) == (0:Int))
 else
 bif (decide (x2.To < (1:Int))) then
 Yc K
 else
 bif (decide (x2.To ≥ (x0.Auto.States.length : Int))) then
 Yc K
 else
 (X0 x0.Auto.States x2.To).bind fun a =>
 bif ((x2.Ops.length : Int) != (a.R.length : Int)) then
 Yc K
 else
 Ya K K x2 (x2.Ops.length : Int) (0:Int) x0 x1
def Un (K : Nat) (x0 : aMv) (x1 : Q4) (x2 : aSt) : Option Bool :=
 (Uz K x1 x2 x0).bind fun a =>
 some (!a)
def Z0 (K : Nat) : Nat → (List aMv) → Int → Int → Q4 → aSt → Option Int
 | 0 => fun _ _ _ _ _ => none
 | k + 1 => fun x0 b a x1c0 x1c1 =>
 bif (decide (a < b)) then
 (X0 x0 a).bind fun c =>
 (Un K c x1c0 x1c1).bind fun d =>
 bif d then
 some a
 else
 Z0 K k x0 b (IntKind.i64.wrap (a + (1:Int))) x1c0 x1c1
 else
 some (-1:Int)
def V2 (K : Nat) (x0 : List aMv) (x1c0 : Q4) (x1c1 : aSt) : Option Int :=
 Z0 K K x0 (x0.length : Int) (0:Int) x1c0 x1c1
def Y4 (K : Nat) (x0 : List aMv) (x1c0 : Q4) (x1c1 : aSt) : Option Bool :=
 (V2 K x0 x1c0 x1c1).bind fun a =>
 some (decide (a ≥ (0:Int)))
def Zk (K : Nat) : Option Bool :=
 some false
def Z2 (K : Nat) : Option Bool :=
 some false
def Ym (K : Nat) : Nat → aSt → Int → Int → Q4 → Option Bool
 | 0 => fun _ _ _ _ => none
 | k + 1 => fun x1 b a x0 =>
 bif (decide (a < b)) then
 (X0 x1.Next a).bind fun c =>
 (X0 x1.Rule a).bind fun d =>
 bif (decide (d < (-1:Int))) then
 Z2 K
 else
 bif (decide (d ≥ (512:Int))) then
 Z2 K
 else
 bif ((c.length : Int) != x0.Auto.Split.Many) then
 Z2 K
 else
 (Y4 K c x0 x1).bind fun e =>
 bif e then
 some false
 else
 Ym K k x1 b (IntKind.i64.wrap (a + (1:Int))) x0
 else
 some true
def Ua (K : Nat) (x0 : Q4) (x1 : aSt) : Option Bool :=
 (Hj K (x1.R.length : Int)).bind fun a =>
 bif (a == (0:Int)) then
 Zk K
 else
 bif ((x1.Rule.length : Int) != a) then
 Zk K
 else
 bif ((x1.Next.length : Int) != a) then
 Zk K
 else
 (Ki K x1.L (512:Int)).bind fun b =>
 bif (!b) then
 Zk K
 else
 (Ki K x1.R (x0.Auto.Counts.length : Int)).bind fun c =>
 bif (!c) then
 Zk K
 else
 Ym K K x1 (x1.Next.length : Int) (0:Int) x0
def M5 (K : Nat) (x0 : aSt) (x1 : Q4) : Option Bool :=
 (Ua K x1 x0).bind fun a =>
 some (!a)
def Zs (K : Nat) : Nat → (List aSt) → Int → Int → Q4 → Option Int
 | 0 => fun _ _ _ _ => none
 | k + 1 => fun x0 b a x1c0 =>
 bif (decide (a < b)) then
 (X0 x0 a).bind fun c =>
 (M5 K c x1c0).bind fun d =>
 bif d then
 some a
 else
 Zs K k x0 b (IntKind.i64.wrap (a + (1:Int))) x1c0
 else
 some (-1:Int)
def Vv (K : Nat) (x0 : List aSt) (x1c0 : Q4) : Option Int :=
 Zs K K x0 (x0.length : Int) (0:Int) x1c0
def Yw (K : Nat) (x0 : List aSt) (x1c0 : Q4) : Option Bool :=
 (Vv K x0 x1c0).bind fun a =>
 some (decide (a ≥ (0:Int)))
def Yq (K : Nat) : Option Bool :=
 some false
def U8 (K : Nat) : Option Bool :=
 some false
def Ub (K : Nat) : Nat → aAu → Int → Int → Option Bool
 | 0 => fun _ _ _ => none
 | k + 1 => fun x0 c b =>
 bif (decide (b < c)) then
 (X0 x0.Counts b).bind fun a =>
 bif (decide ((Ze.get a (0:Int)) < (1:Int))) then
 U8 K
 else
 bif (decide ((Ze.get a (0:Int)) > (Ze.get a (1:Int)))) then
 U8 K
 else
 bif (decide ((Ze.get a (1:Int)) < (2:Int))) then
 U8 K
 else
 bif (decide ((Ze.get a (1:Int)) > (4096:Int))) then
 U8 K
 else
 Ub K k x0 c (IntKind.i64.wrap (b + (1:Int)))
 else
 (Yw K x0.States (Q4.mk x0)).bind fun d =>
 some (!d)
def Hh (K : Nat) (x0 : aAu) : Option Bool :=
 (Kq K x0.Split).bind fun b =>
 bif (!b) then
 Yq K
 else
 bif (decide ((x0.Counts.length : Int) > (512:Int))) then
 Yq K
 else
 bif (decide ((x0.States.length : Int) < (1:Int))) then
 Yq K
 else
 bif (decide ((x0.States.length : Int) > (256:Int))) then
 Yq K
 else
 (X0 x0.States (0:Int)).bind fun a =>
 bif (decide ((IntKind.i64.wrap ((a.L.length : Int) + (a.R.length : Int))) > (0:Int))) then
 Yq K
 else
 Ub K K x0 (x0.Counts.length : Int) (0:Int)
def Jc (K : Nat) (x1 : Int) : Option (List Int) :=
 bif (decide (x1 < (0:Int))) then
 none
 else
 bif (decide ((IntKind.i64.wrap (x1 - (IntKind.i64.wrap ((0:Int) - (0:Int))))) > (0:Int))) then
 (ck (0 < (IntKind.i64.wrap (x1 - (IntKind.i64.wrap ((0:Int) - (0:Int))))))).bind fun _ =>
 (ck (roomy 1 (Int.toNat (IntKind.i64.wrap (x1 - (IntKind.i64.wrap ((0:Int) - (0:Int)))))) = true)).bind fun _ =>
 (ck (0 ≤ (0:Int) ∧ (Int.toNat (0:Int)) ≤ (List.replicate (Int.toNat (IntKind.i64.wrap (x1 - (IntKind.i64.wrap ((0:Int) - (0:Int)))))) ((0:Int) : Int)).length)).bind fun _ =>
 some ((List.replicate (Int.toNat (IntKind.i64.wrap (x1 - (IntKind.i64.wrap ((0:Int) - (0:Int)))))) ((0:Int) : Int)).take (Int.toNat (0:Int)))
 else
 some ([] : List Int)
def Xp (K : Nat) : Nat → (List (List Int)) → Int → Int → (List Int) → Option (List Int)
 | 0 => fun _ _ _ _ => none
 | k + 1 => fun x0 c a b =>
 bif (decide (a < c)) then
 (X0 x0 a).bind fun d =>
 (ck (roomy 1 (b.length + d.length) = true)).bind fun _ =>
 Xp K k x0 c (IntKind.i64.wrap (a + (1:Int))) (b ++ d)
 else
 some b
def Xq (K : Nat) : Nat → (List (List Int)) → Int → Int → Int → Option (List Int)
 | 0 => fun _ _ _ _ => none
 | k + 1 => fun x0 a c b =>
 bif (decide (b < c)) then
 (X0 x0 b).bind fun d =>
 bif (decide ((IntKind.i64.wrap (a + (d.length : Int))) < (0:Int))) then
 none
 else
 Xq K k x0 (IntKind.i64.wrap (a + (d.length : Int))) c (IntKind.i64.wrap (b + (1:Int)))
 else
 (Jc K a).bind fun e =>
 Xp K K x0 (x0.length : Int) (0:Int) e
def V3 (K : Nat) (x0 : List (List Int)) : Option (List Int) :=
 Xq K K x0 (0:Int) (x0.length : Int) (0:Int)
def J3 (K : Nat) (x0 : List Int) : Option (List Int) :=
 (ck (roomy 1 (([] : List Int).length + x0.length) = true)).bind fun _ =>
 some (([] : List Int) ++ x0)
def U1 (K : Nat) : Nat → Int → (List Int) → Option (List Int)
 | 0 => fun _ _ => none
 | k + 1 => fun a b =>
 bif (decide (a ≥ (128:Int))) then
 (ck (roomy 1 (b.length + [(bits .or .u8 (IntKind.u8.wrap a) (128:Int))].length) = true)).bind fun _ =>
 U1 K k (Int.fdiv a (2 ^ min (Int.toNat (7:Int)) IntKind.i64.bits)) (b ++ [(bits .or .u8 (IntKind.u8.wrap a) (128:Int))])
 else
 (ck (roomy 1 (b.length + [(IntKind.u8.wrap a)].length) = true)).bind fun _ =>
 some (b ++ [(IntKind.u8.wrap a)])
def Bv (K : Nat) (x0 : List Int) (x1 : Int) : Option (List Int) :=
 (J3 K x0).bind fun a =>
 U1 K K (if (0:Int) > x1 then (0:Int) else x1) a
def Jh (K : Nat) : Nat → (List Int) → Int → Int → (List Int) → Option tbw
 | 0 => fun _ _ _ _ => none
 | k + 1 => fun x1 b a c =>
 bif (decide (a < b)) then
 (X0 x1 a).bind fun d =>
 (Bv K c d).bind fun e =>
 Jh K k x1 b (IntKind.i64.wrap (a + (1:Int))) e
 else
 some (tbw.mk c)
def Gg (K : Nat) (x0 : tbw) (x1 : List Int) : Option tbw :=
 Jh K K x1 (x1.length : Int) (0:Int) x0.b
def E6 (K : Nat) (x0 : tbw) (x1 : List Int) : Option tbw :=
 (Gg K x0 [(x1.length : Int)]).bind fun a =>
 (Gg K a x1).bind fun b =>
 some b
def Xm (K : Nat) (d : aAu → Int → Int → (List (List aMv)) → Int → Int → (List Int) → (List Int) → (List Int) → (List Int) → (List (List aMv)) → Option ((List Int) × Int)) : Nat → aAu → Int → Int → (List (List aMv)) → Int → Int → (List aMv) → Int → Int → (List Int) → (List Int) → (List Int) → (List Int) → (List (List aMv)) → Option ((List Int) × Int)
 | 0 => fun _ _ _ _ _ _ _ _ _ _ _ _ _ _ => none
 | k + 1 => fun x0 e f g i j l m a n o p q r =>
 bif (decide (a < m)) then
 (X0 l a).bind fun c =>
 (Gg K (tbw.mk n) [(IntKind.i64.wrap (c.To + (1:Int)))]).bind fun s =>
 (ck (roomy 1 (s.b.length + c.Ops.length) = true)).bind fun _ =>
 Xm K d k x0 e f g i j l m (IntKind.i64.wrap (a + (1:Int))) (s.b ++ c.Ops) o p q r
 else
 d x0 e f g i (IntKind.i64.wrap (j + (1:Int))) n o p q r
def Xe (K : Nat) (c : aAu → Int → Int → (List Int) → Option ((List Int) × Int)) : Nat → aAu → Int → Int → (List (List aMv)) → Int → Int → (List Int) → (List Int) → (List Int) → (List Int) → (List (List aMv)) → Option ((List Int) × Int)
 | 0 => fun _ _ _ _ _ _ _ _ _ _ _ => none
 | k + 1 => fun x0 d e f g a i m n j o =>
 bif (decide (a < g)) then
 (X0 f a).bind fun l =>
 (X0 j a).bind fun p =>
 (Gg K (tbw.mk i) [(IntKind.i64.wrap (p + (1:Int)))]).bind fun q =>
 Xm K (Xe K c k) K x0 d e f g a l (l.length : Int) (0:Int) q.b m n j o
 else
 c x0 d (IntKind.i64.wrap (e + (1:Int))) i
def Y3 (K : Nat) : Nat → aAu → Int → Int → (List Int) → Option ((List Int) × Int)
 | 0 => fun _ _ _ _ => none
 | k + 1 => fun x0 c b d =>
 bif (decide (b < c)) then
 (X0 x0.States b).bind fun a =>
 Xe K (Y3 K k) K x0 c b a.Next (a.Next.length : Int) (0:Int) d a.L a.R a.Rule a.Next
 else
 some (d, (0:Int))
def Xf (K : Nat) : Nat → aAu → Int → Int → (List Int) → Option ((List Int) × Int)
 | 0 => fun _ _ _ _ => none
 | k + 1 => fun x0 c a d =>
 bif (decide (a < c)) then
 (X0 x0.States a).bind fun e =>
 (E6 K (tbw.mk d) e.L).bind fun f =>
 (E6 K f e.R).bind fun g =>
 Xf K k x0 c (IntKind.i64.wrap (a + (1:Int))) g.b
 else
 Y3 K K x0 (x0.States.length : Int) (0:Int) d
def Xn (K : Nat) : Nat → aAu → Int → Int → (List Int) → Option ((List Int) × Int)
 | 0 => fun _ _ _ _ => none
 | k + 1 => fun x0 c a d =>
 bif (decide (a < c)) then
 (X0 x0.Counts a).bind fun e =>
 (Gg K (tbw.mk d) ([e.a0, e.a1] : List Int)).bind fun f =>
 Xn K k x0 c (IntKind.i64.wrap (a + (1:Int))) f.b
 else
 (Gg K (tbw.mk d) [(x0.States.length : Int)]).bind fun g =>
 Xf K K x0 (x0.States.length : Int) (0:Int) g.b
def Lc (K : Nat) (x0 : aAu) : Option ((List Int) × Int) :=
 (Hh K x0).bind fun a =>
 bif (!a) then
 some ([], (1:Int))
 else
 (V3 K [[(114:Int), (100:Int), (100:Int), (108:Int)], (Qy.list 256 x0.Split.Of)]).bind fun c =>
 (Gg K (tbw.mk c) [(x0.Counts.length : Int)]).bind fun d =>
 Xn K K x0 (x0.Counts.length : Int) (0:Int) d.b
def Z9 (K : Nat) : Nat → Int → Int → aSp → Option Bool
 | 0 => fun _ _ _ => none
 | k + 1 => fun b a x0 =>
 bif (decide (a < (256:Int))) then
 (ck (0 ≤ a ∧ a < 256)).bind fun _ =>
 bif (decide ((IntKind.i64.wrap (Qy.get x0.Of a)) > b)) then
 some false
 else
 bif ((IntKind.i64.wrap (Qy.get x0.Of a)) == b) then
 Z9 K k (IntKind.i64.wrap (b + (1:Int))) (IntKind.i64.wrap (a + (1:Int))) x0
 else
 Z9 K k b (IntKind.i64.wrap (a + (1:Int))) x0
 else
 some (b == x0.Many)
def Uq (K : Nat) (x0 : aSp) : Option Bool :=
 Z9 K K (0:Int) (0:Int) x0
def K9 (K : Nat) : Option Int :=
 some (0:Int)
def K8 (K : Nat) : Nat → Int → Int → Int → Option Int
 | 0 => fun _ _ _ => none
 | k + 1 => fun x0 a b =>
 bif (decide (b < x0)) then
 K8 K k x0 (IntKind.i64.wrap (a * (3:Int))) (IntKind.i64.wrap (b + (1:Int)))
 else
 some a
def Cz (K : Nat) (x0 : Int) : Option Int :=
 bif (decide (x0 < (0:Int))) then
 K9 K
 else
 bif (decide (x0 > (3:Int))) then
 K9 K
 else
 K8 K K x0 (1:Int) (0:Int)
def Gt (K : Nat) : Option Bool :=
 some false
def Jw (K : Nat) : Nat → (List Int) → Int → Int → Option Bool
 | 0 => fun _ _ _ => none
 | k + 1 => fun x0 x1 a =>
 bif (decide (a < (x0.length : Int))) then
 (X0 x0 a).bind fun b =>
 bif (decide (b < (0:Int))) then
 Gt K
 else
 bif (decide (b ≥ x1)) then
 Gt K
 else
 bif (decide (a > (0:Int))) then
 (X0 x0 (IntKind.i64.wrap (a - (1:Int)))).bind fun c =>
 bif (decide (c ≥ b)) then
 Gt K
 else
 Jw K k x0 x1 (IntKind.i64.wrap (a + (1:Int)))
 else
 Jw K k x0 x1 (IntKind.i64.wrap (a + (1:Int)))
 else
 some true
def Fb (K : Nat) (x0 : List Int) (x1 : Int) : Option Bool :=
 Jw K K x0 x1 (0:Int)
def Cv (K : Nat) : Nat → (List Int) → Int → Int → Option Bool
 | 0 => fun _ _ _ => none
 | k + 1 => fun x0 x1 a =>
 bif (decide (a < (x0.length : Int))) then
 (X0 x0 a).bind fun b =>
 bif (b == x1) then
 some true
 else
 Cv K k x0 x1 (IntKind.i64.wrap (a + (1:Int)))
 else
 some false
def r1_in (K : Nat) (x0 : List Int) (x1 : Int) : Option Bool :=
 Cv K K x0 x1 (0:Int)
def Hd (K : Nat) : Option Bool :=
 some false
def Hc (K : Nat) : Option Bool :=
 some false
def Hb (K : Nat) : Nat → Int → aAu → aSt → aMv → Option Bool
 | 0 => fun _ _ _ _ => none
 | k + 1 => fun a x0 x1 x2 =>
 bif (decide (a < (x2.Ops.length : Int))) then
 (X0 x2.Ops a).bind fun b =>
 bif (decide (b < (1:Int))) then
 Hc K
 else
 bif (decide (b > (3:Int))) then
 Hc K
 else
 bif (b != (3:Int)) then
 (X0 x0.States x2.To).bind fun c =>
 (X0 c.R a).bind fun d =>
 (r1_in K x1.R d).bind fun e =>
 bif (!e) then
 Hc K
 else
 Hb K k (IntKind.i64.wrap (a + (1:Int))) x0 x1 x2
 else
 Hb K k (IntKind.i64.wrap (a + (1:Int))) x0 x1 x2
 else
 some true
def Re (K : Nat) (x0 : aAu) (x1 : aSt) (x2 : aMv) : Option Bool :=
 bif (x2.To == (-1:Int)) then
 some ((x2.Ops.length : Int) == (0:Int))
 else
 bif (decide (x2.To < (1:Int))) then
 Hd K
 else
 bif (decide (x2.To ≥ (x0.States.length : Int))) then
 Hd K
 else
 (X0 x0.States x2.To).bind fun a =>
 bif ((x2.Ops.length : Int) != (a.R.length : Int)) then
 Hd K
 else
 Hb K K (0:Int) x0 x1 x2
def Xz (K : Nat) : Option Bool :=
 some false
def Jv (K : Nat) : Option Bool :=
 some false
def Wy (K : Nat) (c : Int → Int → aAu → aSt → Option Bool) : Nat → Int → Int → Int → aSt → Int → Int → Int → Bool → Int → (List aMv) → (List aMv) → Int → aAu → Bool → Option Bool
 | 0 => fun _ _ _ _ _ _ _ _ _ _ _ _ _ _ => none
 | k + 1 => fun d a b x1 f g i j l m n o x0 p =>
 (X0 x1.Next a).bind fun e =>
 bif (decide (b < (e.length : Int))) then
 (X0 e b).bind fun q =>
 (Re K x0 x1 q).bind fun r =>
 bif (!r) then
 some false
 else
 Wy K c k d a (IntKind.i64.wrap (b + (1:Int))) x1 f g i j l m n o x0 p
 else
 c d (IntKind.i64.wrap (a + (1:Int))) x0 x1
def Ud (K : Nat) : Nat → Int → Int → aAu → aSt → Option Bool
 | 0 => fun _ _ _ _ => none
 | k + 1 => fun d a x0 x1 =>
 bif (decide (a < d)) then
 (X0 x1.Rule a).bind fun b =>
 bif (decide (b < (-1:Int))) then
 Jv K
 else
 bif (decide (b ≥ (512:Int))) then
 Jv K
 else
 (X0 x1.Next a).bind fun c =>
 bif ((c.length : Int) != x0.Split.Many) then
 Jv K
 else
 Wy K (Ud K k) K d a (0:Int) x1 a b b (decide (b ≥ (512:Int))) a c c (c.length : Int) x0 ((c.length : Int) != x0.Split.Many)
 else
 some true
def Nn (K : Nat) (x0 : aAu) (x1 : aSt) : Option Bool :=
 (Cz K (x1.R.length : Int)).bind fun a =>
 bif (a == (0:Int)) then
 Xz K
 else
 (Fb K x1.L (512:Int)).bind fun b =>
 bif (!b) then
 Xz K
 else
 (Fb K x1.R (x0.Counts.length : Int)).bind fun c =>
 bif (!c) then
 Xz K
 else
 bif ((x1.Rule.length : Int) != a) then
 Xz K
 else
 bif ((x1.Next.length : Int) != a) then
 Xz K
 else
 Ud K K a (0:Int) x0 x1
def Xb (K : Nat) : Option Bool :=
 some false
def W2 (K : Nat) : Option Bool :=
 some false
def W1 (K : Nat) : Nat → Int → aAu → Option Bool
 | 0 => fun _ _ => none
 | k + 1 => fun a x0 =>
 bif (decide (a < (x0.States.length : Int))) then
 (X0 x0.States a).bind fun b =>
 (Nn K x0 b).bind fun c =>
 bif (!c) then
 some false
 else
 W1 K k (IntKind.i64.wrap (a + (1:Int))) x0
 else
 some true
def Jy (K : Nat) : Nat → Int → aAu → Option Bool
 | 0 => fun _ _ => none
 | k + 1 => fun b x0 =>
 bif (decide (b < (x0.Counts.length : Int))) then
 (X0 x0.Counts b).bind fun a =>
 bif (decide ((Ze.get a (0:Int)) < (1:Int))) then
 W2 K
 else
 bif (decide ((Ze.get a (0:Int)) > (Ze.get a (1:Int)))) then
 W2 K
 else
 bif (decide ((Ze.get a (1:Int)) < (2:Int))) then
 W2 K
 else
 bif (decide ((Ze.get a (1:Int)) > (4096:Int))) then
 W2 K
 else
 Jy K k (IntKind.i64.wrap (b + (1:Int))) x0
 else
 W1 K K (0:Int) x0
def Mx (K : Nat) (x0 : aAu) : Option Bool :=
 (Uq K x0.Split).bind fun b =>
 bif (!b) then
 Xb K
 else
 bif (decide ((x0.Counts.length : Int) > (512:Int))) then
 Xb K
 else
 bif (decide ((x0.States.length : Int) < (1:Int))) then
 Xb K
 else
 bif (decide ((x0.States.length : Int) > (256:Int))) then
 Xb K
 else
 (X0 x0.States (0:Int)).bind fun a =>
 bif (decide ((a.L.length : Int) > (0:Int))) then
 Xb K
 else
 bif (decide ((a.R.length : Int) > (0:Int))) then
 Xb K
 else
 Jy K K (0:Int) x0
def Ha (K : Nat) : Nat → Int → (List Int) → Option (List Int)
 | 0 => fun _ _ => none
 | k + 1 => fun a b =>
 bif (decide (a > (127:Int))) then
 (ck (roomy 1 (b.length + [(IntKind.u8.wrap ((IntKind.u8.wrap (Int.tmod a (128:Int))) + (128:Int)))].length) = true)).bind fun _ =>
 Ha K k (IntKind.i64.wrap (Int.tdiv a (128:Int))) (b ++ [(IntKind.u8.wrap ((IntKind.u8.wrap (Int.tmod a (128:Int))) + (128:Int)))])
 else
 (ck (roomy 1 (b.length + [(IntKind.u8.wrap a)].length) = true)).bind fun _ =>
 some (b ++ [(IntKind.u8.wrap a)])
def Rb (K : Nat) (x0 : List Int) (x1 : Int) : Option (List Int) :=
 (ck (roomy 1 (([] : List Int).length + x0.length) = true)).bind fun _ =>
 Ha K K (if (0:Int) > x1 then (0:Int) else x1) (([] : List Int) ++ x0)
def Yz (K : Nat) (x0 : X6) (x1 : Int) : Option X6 :=
 (Rb K ([] : List Int) x1).bind fun a =>
 (ck (roomy 1 (x0.b.length + a.length) = true)).bind fun _ =>
 some (X6.mk (x0.b ++ a))
def Y5 (K : Nat) : Nat → (List Int) → Int → (List Int) → Option X6
 | 0 => fun _ _ _ => none
 | k + 1 => fun x1 a c =>
 bif (decide (a < (x1.length : Int))) then
 (X0 x1 a).bind fun d =>
 (Yz K (X6.mk c) d).bind fun e =>
 Y5 K k x1 (IntKind.i64.wrap (a + (1:Int))) e.b
 else
 some (X6.mk c)
def G6 (K : Nat) (x0 : X6) (x1 : List Int) : Option X6 :=
 (Yz K x0 (x1.length : Int)).bind fun a =>
 Y5 K K x1 (0:Int) a.b
def V5 (K : Nat) (f : Int → Int → aAu → (List Int) → (List Int) → (List Int) → (List Int) → (List (List aMv)) → Option ((List Int) × Int)) : Nat → Int → Int → Int → aAu → (List Int) → (List Int) → (List Int) → (List Int) → (List (List aMv)) → Option ((List Int) × Int)
 | 0 => fun _ _ _ _ _ _ _ _ _ => none
 | k + 1 => fun g a c x0 i j l m d =>
 (X0 d a).bind fun n =>
 bif (decide (c < (n.length : Int))) then
 (X0 n c).bind fun e =>
 (Yz K (X6.mk i) (IntKind.i64.wrap (e.To + (1:Int)))).bind fun o =>
 (ck (roomy 1 (o.b.length + e.Ops.length) = true)).bind fun _ =>
 V5 K f k g a (IntKind.i64.wrap (c + (1:Int))) x0 (o.b ++ e.Ops) j l m d
 else
 f g (IntKind.i64.wrap (a + (1:Int))) x0 i j l m d
def V6 (K : Nat) (d : Int → aAu → (List Int) → Option ((List Int) × Int)) : Nat → Int → Int → aAu → (List Int) → (List Int) → (List Int) → (List Int) → (List (List aMv)) → Option ((List Int) × Int)
 | 0 => fun _ _ _ _ _ _ _ _ => none
 | k + 1 => fun e a x0 f g i c j =>
 bif (decide (a < (c.length : Int))) then
 (X0 c a).bind fun l =>
 (Yz K (X6.mk f) (IntKind.i64.wrap (l + (1:Int)))).bind fun m =>
 V5 K (V6 K d k) K e a (0:Int) x0 m.b g i c j
 else
 d (IntKind.i64.wrap (e + (1:Int))) x0 f
def Vg (K : Nat) : Nat → Int → aAu → (List Int) → Option ((List Int) × Int)
 | 0 => fun _ _ _ => none
 | k + 1 => fun b x0 c =>
 bif (decide (b < (x0.States.length : Int))) then
 (X0 x0.States b).bind fun a =>
 V6 K (Vg K k) K b (0:Int) x0 c a.L a.R a.Rule a.Next
 else
 some (c, (0:Int))
def Vh (K : Nat) : Nat → Int → aAu → (List Int) → Option ((List Int) × Int)
 | 0 => fun _ _ _ => none
 | k + 1 => fun a x0 c =>
 bif (decide (a < (x0.States.length : Int))) then
 (X0 x0.States a).bind fun d =>
 (G6 K (X6.mk c) d.L).bind fun e =>
 (G6 K e d.R).bind fun f =>
 Vh K k (IntKind.i64.wrap (a + (1:Int))) x0 f.b
 else
 Vg K K (0:Int) x0 c
def Vi (K : Nat) : Nat → Int → aAu → (List Int) → Option ((List Int) × Int)
 | 0 => fun _ _ _ => none
 | k + 1 => fun a x0 c =>
 bif (decide (a < (x0.Counts.length : Int))) then
 (X0 x0.Counts a).bind fun d =>
 (Yz K (X6.mk c) d.a0).bind fun e =>
 (Yz K e d.a1).bind fun f =>
 Vi K k (IntKind.i64.wrap (a + (1:Int))) x0 f.b
 else
 (Yz K (X6.mk c) (x0.States.length : Int)).bind fun g =>
 Vh K K (0:Int) x0 g.b
def V7 (K : Nat) : Nat → Int → aAu → (List Int) → Option ((List Int) × Int)
 | 0 => fun _ _ _ => none
 | k + 1 => fun a x0 c =>
 bif (decide (a < (256:Int))) then
 (ck (0 ≤ a ∧ a < 256)).bind fun _ =>
 (ck (roomy 1 (c.length + [(Qy.get x0.Split.Of a)].length) = true)).bind fun _ =>
 V7 K k (IntKind.i64.wrap (a + (1:Int))) x0 (c ++ [(Qy.get x0.Split.Of a)])
 else
 (Yz K (X6.mk c) (x0.Counts.length : Int)).bind fun d =>
 Vi K K (0:Int) x0 d.b
def Nl (K : Nat) (x0 : aAu) : Option ((List Int) × Int) :=
 (Mx K x0).bind fun a =>
 bif (!a) then
 some ([], (1:Int))
 else
 V7 K K (0:Int) x0 [(114:Int), (100:Int), (100:Int), (108:Int)]
def X4 (K : Nat) : Option Bool :=
 some false
def X3 (K : Nat) : Nat → (List Int) → Int → Int → Option Bool
 | 0 => fun _ _ _ => none
 | k + 1 => fun x0 x1 a =>
 bif (decide (a < (x0.length : Int))) then
 (X0 x0 a).bind fun b =>
 bif (decide (b < (0:Int))) then
 X4 K
 else
 bif (decide (b ≥ x1)) then
 X4 K
 else
 bif (decide (a > (0:Int))) then
 (X0 x0 (IntKind.i64.wrap (a - (1:Int)))).bind fun c =>
 bif (decide (c ≥ b)) then
 X4 K
 else
 X3 K k x0 x1 (IntKind.i64.wrap (a + (1:Int)))
 else
 X3 K k x0 x1 (IntKind.i64.wrap (a + (1:Int)))
 else
 some true
def J4 (K : Nat) (x0 : List Int) (x1 : Int) : Option Bool :=
 X3 K K x0 x1 (0:Int)
def Uj (K : Nat) : Option Bool :=
 some false
def Zy (K : Nat) : Option Bool :=
 some false
def Ui (K : Nat) : Nat → Int → Y6 → Option Bool
 | 0 => fun _ _ => none
 | k + 1 => fun b x0 =>
 bif (decide (b < (x0.P.length : Int))) then
 (X0 x0.P b).bind fun a =>
 bif (Zr.same a.S (Zr.mk 0 0 0 0)) then
 Zy K
 else
 bif (decide (a.Lo < (1:Int))) then
 Zy K
 else
 bif (decide (a.Lo > a.Hi)) then
 Zy K
 else
 bif (decide (a.Hi > (4096:Int))) then
 Zy K
 else
 bif (decide (a.Rule < (0:Int))) then
 Zy K
 else
 bif (decide (a.Rule ≥ (512:Int))) then
 Zy K
 else
 (J4 K a.Next (x0.P.length : Int)).bind fun c =>
 bif (!c) then
 Zy K
 else
 Ui K k (IntKind.i64.wrap (b + (1:Int))) x0
 else
 some true
def Gp (K : Nat) (x0 : Y6) : Option Bool :=
 bif (decide ((x0.P.length : Int) > (512:Int))) then
 Uj K
 else
 (J4 K x0.First (x0.P.length : Int)).bind fun a =>
 bif (!a) then
 Uj K
 else
 Ui K K (0:Int) x0
def Vp (K : Nat) (x0 : Zr) (x1 : Int) : Option Bool :=
 (ck (0 ≤ (IntKind.u8.wrap (Int.tdiv x1 (64:Int))) ∧ (IntKind.u8.wrap (Int.tdiv x1 (64:Int))) < 4)).bind fun _ =>
 (ck (0 ≤ (Int.tmod x1 (64:Int)))).bind fun _ =>
 some ((Int.tmod (Int.fdiv (Zr.get x0 (IntKind.u8.wrap (Int.tdiv x1 (64:Int)))) (2 ^ min (Int.toNat (Int.tmod x1 (64:Int))) IntKind.u64.bits)) (2:Int)) == (1:Int))
def Uk (K : Nat) : Nat → (List Zr) → Int → Int → Int → Option Bool
 | 0 => fun _ _ _ _ => none
 | k + 1 => fun x0 x1 x2 a =>
 bif (decide (a < (x0.length : Int))) then
 (X0 x0 a).bind fun b =>
 (Vp K b x1).bind fun c =>
 (Vp K b x2).bind fun d =>
 bif (!(c == d)) then
 some false
 else
 Uk K k x0 x1 x2 (IntKind.i64.wrap (a + (1:Int)))
 else
 some true
def Gq (K : Nat) (x0 : List Zr) (x1 : Int) (x2 : Int) : Option Bool :=
 Uk K K x0 x1 x2 (0:Int)
def Vk (K : Nat) (b : (List Zr) → Int → Qy → Qy → (List Int) → Option aSp) (x0 : List Zr) (a : Int) (c : Int) (d : Qy) (e : Qy) (f : List Int) : Option aSp :=
 (ck (0 ≤ a ∧ a < 256)).bind fun _ =>
 b x0 (IntKind.i64.wrap (a + (1:Int))) d (Qy.set e a (IntKind.u8.wrap c)) f
def J5 (K : Nat) (d : (List Zr) → Int → Qy → Qy → (List Int) → Option aSp) : Nat → (List Zr) → Int → Int → Qy → Qy → (List Int) → Option aSp
 | 0 => fun _ _ _ _ _ _ => none
 | k + 1 => fun x0 b c e f a =>
 bif (decide (c < (a.length : Int))) then
 (X0 a c).bind fun g =>
 (Gq K x0 g (IntKind.u8.wrap b)).bind fun i =>
 bif (!i) then
 J5 K d k x0 b (IntKind.i64.wrap (c + (1:Int))) e f a
 else
 bif (c == (a.length : Int)) then
 (ck (roomy 1 (a.length + [(IntKind.u8.wrap b)].length) = true)).bind fun _ =>
 Vk K d x0 b c e f (a ++ [(IntKind.u8.wrap b)])
 else
 Vk K d x0 b c e f a
 else
 bif (c == (a.length : Int)) then
 (ck (roomy 1 (a.length + [(IntKind.u8.wrap b)].length) = true)).bind fun _ =>
 Vk K d x0 b c e f (a ++ [(IntKind.u8.wrap b)])
 else
 Vk K d x0 b c e f a
def Ur (K : Nat) : Nat → (List Zr) → Int → Qy → Qy → (List Int) → Option aSp
 | 0 => fun _ _ _ _ _ => none
 | k + 1 => fun x0 a d b c =>
 bif (decide (a < (256:Int))) then
 J5 K (Ur K k) K x0 a (0:Int) d b c
 else
 some (aSp.mk b (c.length : Int))
def Bc (K : Nat) (x0 : List Zr) : Option aSp :=
 Ur K K x0 (0:Int) (Qy.mk fun _ => 0) (Qy.mk fun _ => 0) []
def U5 (K : Nat) : Nat → Int → Int → Int → Qg → aSt → Option Int
 | 0 => fun _ _ _ _ _ => none
 | k + 1 => fun b x3 a x0 x1 =>
 bif (decide (a < (x1.R.length : Int))) then
 (X0 x1.R a).bind fun c =>
 (X0 x0.number x3).bind fun d =>
 bif (c == d) then
 some (Int.tmod b (3:Int))
 else
 U5 K k (IntKind.i64.wrap (Int.tdiv b (3:Int))) x3 (IntKind.i64.wrap (a + (1:Int))) x0 x1
 else
 some (-1:Int)
def Wp (K : Nat) (x0 : Qg) (x1 : aSt) (x2 : Int) (x3 : Int) : Option Int :=
 U5 K K x2 x3 (0:Int) x0 x1
def Hz (K : Nat) (x0 : Qg) (x1 : aSt) (x2 : Int) (x3 : Int) : Option Bool :=
 (Wp K x0 x1 x2 x3).bind fun a =>
 some (a != (0:Int))
def Jo (K : Nat) (a : Int → Int → Int → Qg → aSt → Option Int) (x2 : Int) (b : Int) (x1 : aSt) (d : Int) (e : Int) (f : Int) (g : Bool) (i : Int) (j : Bool) (l : Bool) (m : Bool) (x0 : Qg) (n : Zr) (o : Int) (p : Int) (c : Int) (q : Bool) (r : List Int) : Option Int :=
 a x2 c (IntKind.i64.wrap (b + (1:Int))) x0 x1
def Z1 (K : Nat) : Nat → Int → Int → Int → Qg → aSt → Option Int
 | 0 => fun _ _ _ _ _ => none
 | k + 1 => fun x2 b c x0 x1 =>
 bif (decide (c < (x1.L.length : Int))) then
 (X0 x1.L c).bind fun d =>
 (X0 x0.g.P d).bind fun a =>
 bif a.Last then
 (Hz K x0 x1 x2 d).bind fun e =>
 bif e then
 bif (decide (b < (0:Int))) then
 Jo K (Z1 K k) x2 c x1 c d d e b (decide (b < (0:Int))) (decide (b < (0:Int))) true x0 a.S a.Lo a.Hi a.Rule a.Last a.Next
 else
 bif (decide (a.Rule < b)) then
 Jo K (Z1 K k) x2 c x1 c d d e b (decide (b < (0:Int))) (decide (b < (0:Int))) (decide (a.Rule < b)) x0 a.S a.Lo a.Hi a.Rule a.Last a.Next
 else
 Z1 K k x2 b (IntKind.i64.wrap (c + (1:Int))) x0 x1
 else
 Z1 K k x2 b (IntKind.i64.wrap (c + (1:Int))) x0 x1
 else
 Z1 K k x2 b (IntKind.i64.wrap (c + (1:Int))) x0 x1
 else
 some b
def K5 (K : Nat) (x0 : Qg) (x1 : aSt) (x2 : Int) : Option Int :=
 Z1 K K x2 (-1:Int) (0:Int) x0 x1
def Lt (K : Nat) (x0 : Zr) (x1 : Int) : Option Zr :=
 (Vp K x0 x1).bind fun a =>
 bif (!a) then
 (ck (0 ≤ (IntKind.u8.wrap (Int.tdiv x1 (64:Int))) ∧ (IntKind.u8.wrap (Int.tdiv x1 (64:Int))) < 4)).bind fun _ =>
 (ck (0 ≤ (Int.tmod x1 (64:Int)))).bind fun _ =>
 some (Zr.set x0 (IntKind.u8.wrap (Int.tdiv x1 (64:Int))) (IntKind.u64.wrap ((Zr.get x0 (IntKind.u8.wrap (Int.tdiv x1 (64:Int)))) + (IntKind.u64.wrap ((1:Int) * 2 ^ min (Int.toNat (Int.tmod x1 (64:Int))) IntKind.u64.bits)))))
 else
 some x0
def J6 (K : Nat) : Nat → (List Int) → Int → Zr → Zr → Option Zr
 | 0 => fun _ _ _ _ => none
 | k + 1 => fun x0 a c b =>
 bif (decide (a < (x0.length : Int))) then
 (X0 x0 a).bind fun d =>
 (Lt K b d).bind fun e =>
 J6 K k x0 (IntKind.i64.wrap (a + (1:Int))) c e
 else
 some b
def Be (K : Nat) (x0 : List Int) : Option Zr :=
 J6 K K x0 (0:Int) (Zr.mk 0 0 0 0) (Zr.mk 0 0 0 0)
def V4 (K : Nat) : Nat → Int → Int → aSp → Zr → (List Int) → Option Zr
 | 0 => fun _ _ _ _ _ => none
 | k + 1 => fun x1 a x0 c b =>
 bif (decide (a < (256:Int))) then
 (ck (0 ≤ a ∧ a < 256)).bind fun _ =>
 bif ((IntKind.i64.wrap (Qy.get x0.Of a)) == x1) then
 (ck (roomy 1 (b.length + [(IntKind.u8.wrap a)].length) = true)).bind fun _ =>
 V4 K k x1 (IntKind.i64.wrap (a + (1:Int))) x0 c (b ++ [(IntKind.u8.wrap a)])
 else
 V4 K k x1 (IntKind.i64.wrap (a + (1:Int))) x0 c b
 else
 (Be K b).bind fun d =>
 some d
def K0 (K : Nat) (x0 : aSp) (x1 : Int) : Option Zr :=
 V4 K K x1 (0:Int) x0 (Zr.mk 0 0 0 0) []
def Vo (K : Nat) : Nat → Int → Zr → (List Int) → Option (List Int)
 | 0 => fun _ _ _ => none
 | k + 1 => fun a x0 b =>
 bif (decide (a < (256:Int))) then
 (Vp K x0 (IntKind.u8.wrap a)).bind fun c =>
 bif c then
 (ck (roomy 1 (b.length + [(IntKind.u8.wrap a)].length) = true)).bind fun _ =>
 Vo K k (IntKind.i64.wrap (a + (1:Int))) x0 (b ++ [(IntKind.u8.wrap a)])
 else
 Vo K k (IntKind.i64.wrap (a + (1:Int))) x0 b
 else
 some b
def Lv (K : Nat) (x0 : Zr) : Option (List Int) :=
 Vo K K (0:Int) x0 []
def Ul (K : Nat) : Option (List Int) :=
 some []
def X5 (K : Nat) : Nat → Int → aSp → (List Int) → Option (List Int)
 | 0 => fun _ _ _ => none
 | k + 1 => fun b x0 a =>
 bif (decide (b < x0.Many)) then
 (K0 K x0 b).bind fun e =>
 (Lv K e).bind fun c =>
 bif ((c.length : Int) == (0:Int)) then
 (ck (roomy 1 (a.length + [(0:Int)].length) = true)).bind fun _ =>
 X5 K k (IntKind.i64.wrap (b + (1:Int))) x0 (a ++ [(0:Int)])
 else
 (X0 c (0:Int)).bind fun d =>
 (ck (roomy 1 (a.length + [d].length) = true)).bind fun _ =>
 X5 K k (IntKind.i64.wrap (b + (1:Int))) x0 (a ++ [d])
 else
 some a
def Gs (K : Nat) (x0 : aSp) : Option (List Int) :=
 bif (decide (x0.Many < (1:Int))) then
 Ul K
 else
 bif (decide (x0.Many > (256:Int))) then
 Ul K
 else
 X5 K K (0:Int) x0 []
def X7 (K : Nat) : Nat → Int → Int → Int → Qg → aSt → Option Bool
 | 0 => fun _ _ _ _ _ => none
 | k + 1 => fun x3 x4 a x0 x2 =>
 bif (decide (a < (x2.L.length : Int))) then
 (X0 x2.L a).bind fun b =>
 (Hz K x0 x2 x3 b).bind fun c =>
 bif c then
 (X0 x0.g.P b).bind fun d =>
 (r1_in K d.Next x4).bind fun e =>
 bif e then
 some true
 else
 X7 K k x3 x4 (IntKind.i64.wrap (a + (1:Int))) x0 x2
 else
 X7 K k x3 x4 (IntKind.i64.wrap (a + (1:Int))) x0 x2
 else
 some false
def Gx (K : Nat) (x0 : Qg) (x1 : Int) (x2 : aSt) (x3 : Int) (x4 : Int) : Option Bool :=
 bif (x1 == (0:Int)) then
 (r1_in K x0.g.First x4).bind fun a =>
 some a
 else
 X7 K K x3 x4 (0:Int) x0 x2
def Ly (K : Nat) (x0 : Qg) (x1 : aSt) (x2 : Int) (x3 : Int) : Option Bool :=
 (Wp K x0 x1 x2 x3).bind fun a =>
 (r1_in K x1.L x3).bind fun b =>
 bif b then
 bif (a == (0:Int)) then
 some true
 else
 some (a == (2:Int))
 else
 some false
def V9 (K : Nat) (c : (List Int) → Int → Qg → Option (Int × Qg)) : Nat → (List Int) → Int → (List Int) → Bool → Int → Qg → Option (Int × Qg)
 | 0 => fun _ _ _ _ _ _ => none
 | k + 1 => fun x1 b d e a x0 =>
 bif (decide (a < (x1.length : Int))) then
 bif e then
 (X0 d a).bind fun f =>
 (X0 x1 a).bind fun g =>
 V9 K c k x1 b d (f == g) (IntKind.i64.wrap (a + (1:Int))) x0
 else
 V9 K c k x1 b d false (IntKind.i64.wrap (a + (1:Int))) x0
 else
 bif e then
 some (b, x0)
 else
 c x1 (IntKind.i64.wrap (b + (1:Int))) x0
def V8 (K : Nat) : Nat → (List Int) → Int → Qg → (List Int) → Option (Int × Qg)
 | 0 => fun _ _ _ _ => none
 | k + 1 => fun x1 c x0 b =>
 bif (decide (c < (x1.length : Int))) then
 (X0 x1 c).bind fun f =>
 (X0 x0.number f).bind fun d =>
 bif (decide (d ≥ (0:Int))) then
 (ck (roomy 8 (b.length + [d].length) = true)).bind fun _ =>
 V8 K k x1 (IntKind.i64.wrap (c + (1:Int))) x0 (b ++ [d])
 else
 V8 K k x1 (IntKind.i64.wrap (c + (1:Int))) x0 b
 else
 bif (decide ((b.length : Int) > (3:Int))) then
 some ((0:Int), (Qg.mk x0.g x0.number x0.a (110:Int)))
 else
 bif (decide ((x0.a.States.length : Int) ≥ (256:Int))) then
 some ((0:Int), (Qg.mk x0.g x0.number x0.a (3:Int)))
 else
 (ck (roomy 96 (x0.a.States.length + [(aSt.mk x1 b [] [])].length) = true)).bind fun _ =>
 some ((IntKind.i64.wrap (((x0.a.States ++ [(aSt.mk x1 b [] [])]).length : Int) - (1:Int))), (Qg.mk x0.g x0.number (aAu.mk x0.a.Split x0.a.Counts (x0.a.States ++ [(aSt.mk x1 b [] [])])) x0.e))
def Xx (K : Nat) : Nat → (List Int) → Int → Qg → Option (Int × Qg)
 | 0 => fun _ _ _ => none
 | k + 1 => fun x1 b x0 =>
 bif (decide (b < (x0.a.States.length : Int))) then
 (X0 x0.a.States b).bind fun c =>
 bif ((c.L.length : Int) == (x1.length : Int)) then
 V9 K (Xx K k) K x1 b c.L true (0:Int) x0
 else
 Xx K k x1 (IntKind.i64.wrap (b + (1:Int))) x0
 else
 V8 K K x1 (0:Int) x0 []
def K7 (K : Nat) (x0 : Qg) (x1 : List Int) : Option (Int × Qg) :=
 Xx K K x1 (1:Int) x0
def Jp (K : Nat) (b : Int → Int → Int → Int → Qg → (List Int) → (List Int) → (List Int) → (List (List aMv)) → (List Int) → (List Int) → Option (aMv × Qg)) (x1 : Int) (x2 : Int) (c : Int) (d : Int) (l : Bool) (x0 : Qg) (e : List Int) (f : List Int) (g : List Int) (i : List (List aMv)) (j : List Int) (a : List Int) : Option (aMv × Qg) :=
 bif l then
 (ck (roomy 1 (a.length + [(1:Int)].length) = true)).bind fun _ =>
 b x1 x2 c (IntKind.i64.wrap (d + (1:Int))) x0 e f g i j (a ++ [(1:Int)])
 else
 (ck (roomy 1 (a.length + [(3:Int)].length) = true)).bind fun _ =>
 b x1 x2 c (IntKind.i64.wrap (d + (1:Int))) x0 e f g i j (a ++ [(3:Int)])
def Jq (K : Nat) (d : Int → Int → Int → Int → Qg → (List Int) → (List Int) → (List Int) → (List (List aMv)) → (List Int) → (List Int) → Option (aMv × Qg)) (x1 : Int) (x2 : Int) (e : Int) (a : Int) (m : Bool) (l : Bool) (x0 : Qg) (f : List Int) (g : List Int) (i : List Int) (j : List (List aMv)) (b : List Int) (c : List Int) : Option (aMv × Qg) :=
 (ck (roomy 8 (b.length + [a].length) = true)).bind fun _ =>
 (X0 x0.number a).bind fun n =>
 bif (decide (n < (0:Int))) then
 d x1 x2 e (IntKind.i64.wrap (a + (1:Int))) x0 f g i j (b ++ [a]) c
 else
 bif m then
 bif l then
 (ck (roomy 1 (c.length + [(2:Int)].length) = true)).bind fun _ =>
 d x1 x2 e (IntKind.i64.wrap (a + (1:Int))) x0 f g i j (b ++ [a]) (c ++ [(2:Int)])
 else
 Jp K d x1 x2 e a l x0 f g i j (b ++ [a]) c
 else
 Jp K d x1 x2 e a l x0 f g i j (b ++ [a]) c
def Ye (K : Nat) : Nat → Int → Int → Int → Int → Qg → (List Int) → (List Int) → (List Int) → (List (List aMv)) → (List Int) → (List Int) → Option (aMv × Qg)
 | 0 => fun _ _ _ _ _ _ _ _ _ _ _ => none
 | k + 1 => fun x1 x2 i a x0 b c d e f j =>
 bif (decide (a < (x0.g.P.length : Int))) then
 (X0 x0.g.P a).bind fun o =>
 (Vp K o.S i).bind fun p =>
 bif (!p) then
 Ye K k x1 x2 i (IntKind.i64.wrap (a + (1:Int))) x0 b c d e f j
 else
 (Gx K x0 x1 (aSt.mk b c d e) x2 a).bind fun l =>
 (Ly K x0 (aSt.mk b c d e) x2 a).bind fun m =>
 bif (!l) then
 bif (!m) then
 Ye K k x1 x2 i (IntKind.i64.wrap (a + (1:Int))) x0 b c d e f j
 else
 Jq K (Ye K k) x1 x2 i a l m x0 b c d e f j
 else
 Jq K (Ye K k) x1 x2 i a l m x0 b c d e f j
 else
 bif ((f.length : Int) == (0:Int)) then
 some ((aMv.mk (-1:Int) []), x0)
 else
 (K7 K x0 f).bind fun n =>
 some ((aMv.mk n.1 j), n.2)
def K6 (K : Nat) (x0 : Qg) (x1 : Int) (x2 : Int) (x3 : Int) : Option (aMv × Qg) :=
 (X0 x0.a.States x1).bind fun b =>
 (Gs K x0.a.Split).bind fun c =>
 (X0 c x3).bind fun d =>
 Ye K K x1 x2 d (0:Int) x0 b.L b.R b.Rule b.Next [] []
def P0 (K : Nat) (m : Int → Int → Int → Qy → (List Ze) → (List aSt) → (List Int) → (List U9) → Qy → Int → Int → (List Int) → (List Ze) → (List aSt) → (List Int) → (List (List aMv)) → Option (aAu × Int)) : Nat → Int → Int → Int → Int → Qy → (List Ze) → (List aSt) → (List Int) → (List U9) → Qy → Int → Int → (List Int) → (List Ze) → (List aSt) → (List Int) → (List (List aMv)) → (List aMv) → Option (aAu × Int)
 | 0 => fun _ _ _ _ _ _ _ _ _ _ _ _ _ _ _ _ _ _ => none
 | k + 1 => fun d n f i o p q r s t j u v w y z l c =>
 bif (decide (i < j)) then
 (K6 K (Qg.mk (Y6.mk r s) v (aAu.mk (aSp.mk t j) w y) u) d f i).bind fun b =>
 (ck (roomy 32 (c.length + [b.1].length) = true)).bind fun _ =>
 bif (b.2.e != (0:Int)) then
 some ((aAu.mk (aSp.mk (Qy.mk fun _ => 0) (0:Int)) [] []), b.2.e)
 else
 P0 K m k d n f (IntKind.i64.wrap (i + (1:Int))) o p q b.2.g.First b.2.g.P b.2.a.Split.Of b.2.a.Split.Many b.2.e b.2.number b.2.a.Counts b.2.a.States z l (c ++ [b.1])
 else
 (ck (roomy 24 (l.length + [c].length) = true)).bind fun _ =>
 m d n (IntKind.i64.wrap (f + (1:Int))) o p q r s t j u v w y z (l ++ [c])
def Nu (K : Nat) (s : Int → Qy → (List Ze) → (List aSt) → (List Int) → (List U9) → Qy → Int → Int → (List Int) → (List Ze) → (List aSt) → Option (aAu × Int)) : Nat → Int → Int → Int → Qy → (List Ze) → (List aSt) → (List Int) → (List U9) → Qy → Int → Int → (List Int) → (List Ze) → (List aSt) → (List Int) → (List (List aMv)) → Option (aAu × Int)
 | 0 => fun _ _ _ _ _ _ _ _ _ _ _ _ _ _ _ _ => none
 | k + 1 => fun n t q u v w c d f i j l m b p y =>
 bif (decide (q < t)) then
 (X0 b n).bind fun aa =>
 (K5 K (Qg.mk (Y6.mk c d) l (aAu.mk (aSp.mk f i) m b) j) aa q).bind fun z =>
 (ck (roomy 8 (p.length + [z].length) = true)).bind fun _ =>
 P0 K (Nu K s k) K n t q (0:Int) u v w ((Qg.mk (Y6.mk c d) l (aAu.mk (aSp.mk f i) m b) j).g.First) ((Qg.mk (Y6.mk c d) l (aAu.mk (aSp.mk f i) m b) j).g.P) ((Qg.mk (Y6.mk c d) l (aAu.mk (aSp.mk f i) m b) j).a.Split.Of) ((Qg.mk (Y6.mk c d) l (aAu.mk (aSp.mk f i) m b) j).a.Split.Many) ((Qg.mk (Y6.mk c d) l (aAu.mk (aSp.mk f i) m b) j).e) ((Qg.mk (Y6.mk c d) l (aAu.mk (aSp.mk f i) m b) j).number) ((Qg.mk (Y6.mk c d) l (aAu.mk (aSp.mk f i) m b) j).a.Counts) ((Qg.mk (Y6.mk c d) l (aAu.mk (aSp.mk f i) m b) j).a.States) (p ++ [z]) y []
 else
 (X0 b n).bind fun o =>
 (X0 (List.set b (Int.toNat n) (aSt.mk o.L o.R p o.Next)) n).bind fun r =>
 s (IntKind.i64.wrap (n + (1:Int))) u v w c d f i j l m (List.set (List.set b (Int.toNat n) (aSt.mk o.L o.R p o.Next)) (Int.toNat n) (aSt.mk r.L r.R r.Rule y))
def Nv (K : Nat) : Nat → Int → Qy → (List Ze) → (List aSt) → (List Int) → (List U9) → Qy → Int → Int → (List Int) → (List Ze) → (List aSt) → Option (aAu × Int)
 | 0 => fun _ _ _ _ _ _ _ _ _ _ _ _ => none
 | k + 1 => fun b f g i j l c d m n e a =>
 bif (decide (b < (a.length : Int))) then
 (X0 a b).bind fun o =>
 (Cz K (o.R.length : Int)).bind fun p =>
 Nu K (Nv K k) K b p (0:Int) f g i j l c d m n e a [] []
 else
 some ((aAu.mk (aSp.mk c d) e a), (0:Int))
def Nw (K : Nat) : Nat → Int → Y6 → Qy → (List Ze) → (List aSt) → Qy → (List Int) → (List Ze) → (List aSt) → (List Zr) → Option (aAu × Int)
 | 0 => fun _ _ _ _ _ _ _ _ _ _ => none
 | k + 1 => fun d x0 f g i j c b l e =>
 bif (decide (d < (x0.P.length : Int))) then
 (X0 x0.P d).bind fun a =>
 (ck (roomy 32 (e.length + [a.S].length) = true)).bind fun _ =>
 bif (decide (a.Hi > (1:Int))) then
 (ck (roomy 8 (c.length + [(b.length : Int)].length) = true)).bind fun _ =>
 (ck (roomy 16 (b.length + [(Ze.mk a.Lo a.Hi)].length) = true)).bind fun _ =>
 Nw K k (IntKind.i64.wrap (d + (1:Int))) x0 f g i j (c ++ [(b.length : Int)]) (b ++ [(Ze.mk a.Lo a.Hi)]) l (e ++ [a.S])
 else
 (ck (roomy 8 (c.length + [(-1:Int)].length) = true)).bind fun _ =>
 Nw K k (IntKind.i64.wrap (d + (1:Int))) x0 f g i j (c ++ [(-1:Int)]) b l (e ++ [a.S])
 else
 (Bc K e).bind fun m =>
 Nv K K (0:Int) f g i x0.First x0.P m.Of m.Many (0:Int) c b [(aSt.mk [] [] [] [])]
def r1_Of (K : Nat) (x0 : Y6) : Option (aAu × Int) :=
 (Gp K x0).bind fun a =>
 bif (!a) then
 some ((aAu.mk (aSp.mk (Qy.mk fun _ => 0) (0:Int)) [] []), (1:Int))
 else
 Nw K K (0:Int) x0 (Qy.mk fun _ => 0) [] [] (Qy.mk fun _ => 0) [] [] [] []
def Ny (K : Nat) : Option Bool :=
 (r1_Of K (Y6.mk [] [])).bind fun b =>
 (Lc K b.1).bind fun a =>
 bif (a.2 == (0:Int)) then
 bif ((a.1.length : Int) == (266:Int)) then
 (ck (0 ≤ (4:Int) ∧ 0 ≤ (Int.toNat (4:Int)) ∧ (Int.toNat (4:Int)) ≤ a.1.length)).bind fun _ =>
 bif ((ofBytes ((a.1.take (Int.toNat (4:Int))).drop 0)).toList == (⟨#[114, 100, 100, 108]⟩ : ByteArray).toList) then
 (ck (0 ≤ (260:Int) ∧ (Int.toNat (260:Int)) ≤ a.1.length ∧ a.1.length ≤ a.1.length)).bind fun _ =>
 bif ((ofBytes ((a.1.take a.1.length).drop (Int.toNat (260:Int)))).toList == (⟨#[0, 1, 0, 0, 0, 0]⟩ : ByteArray).toList) then
 (Bv K ([] : List Int) (300:Int)).bind fun c =>
 some ((ofBytes c).toList == (⟨#[172, 2]⟩ : ByteArray).toList)
 else
 some false
 else
 some false
 else
 some false
 else
 some false
def Ji (K : Nat) : Nat → (List Int) → (List Int) → Int → Option Bool
 | 0 => fun _ _ _ => none
 | k + 1 => fun x0 x1 a =>
 bif (decide (a < (x0.length : Int))) then
 (X0 x0 a).bind fun b =>
 (X0 x1 a).bind fun c =>
 bif (b != c) then
 some false
 else
 Ji K k x0 x1 (IntKind.i64.wrap (a + (1:Int)))
 else
 some true
def Ix (K : Nat) (x0 : List Int) (x1 : List Int) : Option Bool :=
 bif ((x0.length : Int) != (x1.length : Int)) then
 some false
 else
 Ji K K x0 x1 (0:Int)
def K3 (K : Nat) (x0 : aMv) (x1 : aMv) : Option Bool :=
 bif (x0.To == x1.To) then
 some ((ofBytes x0.Ops).toList == (ofBytes x1.Ops).toList)
 else
 some false
def Uu (K : Nat) : Option Bool :=
 some false
def Yk (K : Nat) (c : Int → aSt → aSt → Option Bool) : Nat → Int → Int → aSt → aSt → Option Bool
 | 0 => fun _ _ _ _ => none
 | k + 1 => fun a b x0 x1 =>
 (X0 x0.Next a).bind fun d =>
 bif (decide (b < (d.length : Int))) then
 (X0 d b).bind fun e =>
 (X0 x1.Next a).bind fun f =>
 (X0 f b).bind fun g =>
 (K3 K e g).bind fun i =>
 bif (!i) then
 some false
 else
 Yk K c k a (IntKind.i64.wrap (b + (1:Int))) x0 x1
 else
 c (IntKind.i64.wrap (a + (1:Int))) x0 x1
def Yl (K : Nat) : Nat → Int → aSt → aSt → Option Bool
 | 0 => fun _ _ _ => none
 | k + 1 => fun a x0 x1 =>
 bif (decide (a < (x0.Next.length : Int))) then
 (X0 x0.Next a).bind fun b =>
 (X0 x1.Next a).bind fun c =>
 bif ((b.length : Int) != (c.length : Int)) then
 some false
 else
 Yk K (Yl K k) K a (0:Int) x0 x1
 else
 some true
def Le (K : Nat) (x0 : aSt) (x1 : aSt) : Option Bool :=
 (Ix K x0.L x1.L).bind fun a =>
 bif (!a) then
 Uu K
 else
 (Ix K x0.R x1.R).bind fun b =>
 bif (!b) then
 Uu K
 else
 (Ix K x0.Rule x1.Rule).bind fun c =>
 bif (!c) then
 Uu K
 else
 bif ((x0.Next.length : Int) != (x1.Next.length : Int)) then
 Uu K
 else
 Yl K K (0:Int) x0 x1
def Jf (K : Nat) : Option Bool :=
 some false
def Yp (K : Nat) : Nat → Int → aAu → aAu → Option Bool
 | 0 => fun _ _ _ => none
 | k + 1 => fun a x0 x1 =>
 bif (decide (a < (x0.States.length : Int))) then
 (X0 x0.States a).bind fun b =>
 (X0 x1.States a).bind fun c =>
 (Le K b c).bind fun d =>
 bif (!d) then
 some false
 else
 Yp K k (IntKind.i64.wrap (a + (1:Int))) x0 x1
 else
 some true
def H2 (K : Nat) (x0 : aAu) (x1 : aAu) : Option Bool :=
 bif (!(([Qy.list 256 x0.Split.Of, [x0.Split.Many]] : List (List Int)) == [Qy.list 256 x1.Split.Of, [x1.Split.Many]])) then
 Jf K
 else
 bif ((x0.States.length : Int) != (x1.States.length : Int)) then
 Jf K
 else
 bif ((x0.Counts.length : Int) != (x1.Counts.length : Int)) then
 Jf K
 else
 Yp K K (0:Int) x0 x1
def Jj (K : Nat) : Nat → Int → aAu → aAu → Option Bool
 | 0 => fun _ _ _ => none
 | k + 1 => fun a x0 x1 =>
 bif (decide (a < (x0.Counts.length : Int))) then
 (X0 x0.Counts a).bind fun b =>
 (X0 x1.Counts a).bind fun c =>
 bif (!(Ze.same b c)) then
 some false
 else
 Jj K k (IntKind.i64.wrap (a + (1:Int))) x0 x1
 else
 some true
def O1 (K : Nat) (x0 : aAu) (x1 : aAu) : Option Bool :=
 (H2 K x0 x1).bind fun a =>
 bif (!a) then
 some false
 else
 Jj K K (0:Int) x0 x1
def strings_Repeat (K : Nat) (x0 : ByteArray) (x1 : Int) : Option ByteArray :=
 if 0 ≤ x1 ∧ x1 ≤ 9223372036854775807 ∧ x0.size * Int.toNat x1 ≤ 140737488355328 then some (repS x0 x1) else none
def Jn (K : Nat) (x0 : tbr) (x1 : Int) : Option (ByteArray × tbr) :=
 bif (decide (x1 > (x0.b.size : Int))) then
 (strings_Repeat K (⟨#[0]⟩ : ByteArray) x1).bind fun a =>
 some (a, (tbr.mk (⟨#[]⟩ : ByteArray) true))
 else
 (ck (0 ≤ x1 ∧ 0 ≤ (Int.toNat x1) ∧ (Int.toNat x1) ≤ x0.b.size)).bind fun _ =>
 (ck (0 ≤ x1 ∧ (Int.toNat x1) ≤ x0.b.size ∧ x0.b.size ≤ x0.b.size)).bind fun _ =>
 some ((x0.b.extract 0 (Int.toNat x1)), (tbr.mk (x0.b.extract (Int.toNat x1) x0.b.size) x0.bad))
def Y1 (K : Nat) : Nat → (List Int) → Int → Int → Option Int
 | 0 => fun _ _ _ => none
 | k + 1 => fun x0 a b =>
 bif (decide (b < (x0.length : Int))) then
 (X0 x0 b).bind fun c =>
 Y1 K k x0 (if c > a then c else a) (IntKind.i64.wrap (b + (1:Int)))
 else
 some a
def Jb (K : Nat) (x0 : List Int) : Option Int :=
 bif (decide ((x0.length : Int) < (1:Int))) then
 none
 else
 (X0 x0 (0:Int)).bind fun a =>
 Y1 K K x0 a (1:Int)
def Bu (K : Nat) (x0 : tbr) : Option (aSp × tbr) :=
 (Jn K x0 (256:Int)).bind fun a =>
 (ck (a.1.size ≤ 256)).bind fun _ =>
 (Jb K (Qy.list 256 (Qy.copyS (Qy.mk fun _ => 0) a.1))).bind fun b =>
 some ((aSp.mk (Qy.copyS (Qy.mk fun _ => 0) a.1) (IntKind.i64.wrap ((IntKind.i64.wrap b) + (1:Int)))), a.2)
def W8 (K : Nat) (a : Int) (b : ByteArray) (c : Bool) : Option (Int × tbr) :=
 some (a, (tbr.mk b c))
def W7 (K : Nat) : Nat → Int → Int → ByteArray → Bool → Option (Int × tbr)
 | 0 => fun _ _ _ _ => none
 | k + 1 => fun d c e f =>
 bif (decide (c < (3:Int))) then
 (Jn K (tbr.mk e f) (1:Int)).bind fun a =>
 (ck (0 ≤ (0:Int) ∧ (0:Int) < a.1.size)).bind fun _ =>
 (ck (0 ≤ (IntKind.i64.wrap ((7:Int) * c)))).bind fun _ =>
 bif (decide ((bt a.1 (0:Int)) < (128:Int))) then
 bif a.2.bad then
 W8 K (bits .or .i64 d (IntKind.i64.wrap ((IntKind.i64.wrap (bits .andNot .u8 (bt a.1 (0:Int)) (128:Int))) * 2 ^ min (Int.toNat (IntKind.i64.wrap ((7:Int) * c))) IntKind.i64.bits))) a.2.b true
 else
 bif ((bt a.1 (0:Int)) == (0:Int)) then
 W8 K (bits .or .i64 d (IntKind.i64.wrap ((IntKind.i64.wrap (bits .andNot .u8 (bt a.1 (0:Int)) (128:Int))) * 2 ^ min (Int.toNat (IntKind.i64.wrap ((7:Int) * c))) IntKind.i64.bits))) a.2.b (decide (c > (0:Int)))
 else
 W8 K (bits .or .i64 d (IntKind.i64.wrap ((IntKind.i64.wrap (bits .andNot .u8 (bt a.1 (0:Int)) (128:Int))) * 2 ^ min (Int.toNat (IntKind.i64.wrap ((7:Int) * c))) IntKind.i64.bits))) a.2.b false
 else
 W7 K k (bits .or .i64 d (IntKind.i64.wrap ((IntKind.i64.wrap (bits .andNot .u8 (bt a.1 (0:Int)) (128:Int))) * 2 ^ min (Int.toNat (IntKind.i64.wrap ((7:Int) * c))) IntKind.i64.bits))) (IntKind.i64.wrap (c + (1:Int))) a.2.b a.2.bad
 else
 some ((0:Int), (tbr.mk e true))
def Lp (K : Nat) (x0 : tbr) : Option (Int × tbr) :=
 W7 K K (0:Int) (0:Int) x0.b x0.bad
def Ko (K : Nat) (x0c0 : aSp) (x0c1 : List Ze) (x0c2 : List (Bool × aSt)) (x1_p : tbr) : Option ((List Ze) × tbr) :=
 (Lp K x1_p).bind fun a =>
 (Lp K a.2).bind fun b =>
 (ck (roomy 16 (x0c1.length + [(Ze.mk a.1 b.1)].length) = true)).bind fun _ =>
 some ((x0c1 ++ [(Ze.mk a.1 b.1)]), b.2)
def Mt (K : Nat) (a : ByteArray) (b : Bool) (x2c0c0 : aSp) (c : List Ze) (x2c0c2 : List (Bool × aSt)) : Option (tbr × (List Ze)) :=
 some ((tbr.mk a b), c)
def Ve (K : Nat) : Nat → Int → Int → ByteArray → Bool → aSp → (List Ze) → (List (Bool × aSt)) → Option (tbr × (List Ze))
 | 0 => fun _ _ _ _ _ _ _ => none
 | k + 1 => fun x1 f c a x2c0c0 d x2c0c2 =>
 bif (decide (f < x1)) then
 bif (!a) then
 (Ko K x2c0c0 d x2c0c2 (tbr.mk c a)).bind fun e =>
 Ve K k x1 (IntKind.i64.wrap (f + (1:Int))) e.2.b e.2.bad x2c0c0 e.1 x2c0c2
 else
 Mt K c a x2c0c0 d x2c0c2
 else
 Mt K c a x2c0c0 d x2c0c2
def D8 (K : Nat) (x0 : tbr) (x1 : Int) (x2c0c0 : aSp) (x2c0c1 : List Ze) (x2c0c2 : List (Bool × aSt)) : Option (tbr × (List Ze)) :=
 Ve K K x1 (0:Int) x0.b x0.bad x2c0c0 x2c0c1 x2c0c2
def E8 (K : Nat) (x0 : List Int) (x1_p : tbr) : Option ((List Int) × tbr) :=
 (Lp K x1_p).bind fun a =>
 (ck (roomy 8 (x0.length + [a.1].length) = true)).bind fun _ =>
 some ((x0 ++ [a.1]), a.2)
def Hr (K : Nat) (a : ByteArray) (b : Bool) (c : List Int) : Option (tbr × (List Int)) :=
 some ((tbr.mk a b), c)
def Yj (K : Nat) : Nat → Int → Int → ByteArray → Bool → (List Int) → Option (tbr × (List Int))
 | 0 => fun _ _ _ _ _ => none
 | k + 1 => fun x1 f c a d =>
 bif (decide (f < x1)) then
 bif (!a) then
 (E8 K d (tbr.mk c a)).bind fun e =>
 Yj K k x1 (IntKind.i64.wrap (f + (1:Int))) e.2.b e.2.bad e.1
 else
 Hr K c a d
 else
 Hr K c a d
def Mu (K : Nat) (x0 : tbr) (x1 : Int) (x2c0 : List Int) : Option (tbr × (List Int)) :=
 Yj K K x1 (0:Int) x0.b x0.bad x2c0
def E9 (K : Nat) (x0 : tbr) : Option ((List Int) × tbr) :=
 (Lp K x0).bind fun a =>
 (Mu K a.2 a.1 []).bind fun b =>
 some (b.2, b.1)
def Kn (K : Nat) (x0c0 : aSp) (x0c1 : List Ze) (x0c2 : List (Bool × aSt)) (x1_p : tbr) : Option ((List (Bool × aSt)) × tbr) :=
 (E9 K x1_p).bind fun a =>
 (E9 K a.2).bind fun b =>
 (ck (roomy 96 (x0c2.length + [(false, (aSt.mk a.1 b.1 [] []))].length) = true)).bind fun _ =>
 some ((x0c2 ++ [(false, (aSt.mk a.1 b.1 [] []))]), b.2)
def Hs (K : Nat) (a : ByteArray) (b : Bool) (x2c0c0 : aSp) (x2c0c1 : List Ze) (c : List (Bool × aSt)) : Option (tbr × (List (Bool × aSt))) :=
 some ((tbr.mk a b), c)
def Yv (K : Nat) : Nat → Int → Int → ByteArray → Bool → aSp → (List Ze) → (List (Bool × aSt)) → Option (tbr × (List (Bool × aSt)))
 | 0 => fun _ _ _ _ _ _ _ => none
 | k + 1 => fun x1 f c a x2c0c0 x2c0c1 d =>
 bif (decide (f < x1)) then
 bif (!a) then
 (Kn K x2c0c0 x2c0c1 d (tbr.mk c a)).bind fun e =>
 Yv K k x1 (IntKind.i64.wrap (f + (1:Int))) e.2.b e.2.bad x2c0c0 x2c0c1 e.1
 else
 Hs K c a x2c0c0 x2c0c1 d
 else
 Hs K c a x2c0c0 x2c0c1 d
def G9 (K : Nat) (x0 : tbr) (x1 : Int) (x2c0c0 : aSp) (x2c0c1 : List Ze) (x2c0c2 : List (Bool × aSt)) : Option (tbr × (List (Bool × aSt))) :=
 Yv K K x1 (0:Int) x0.b x0.bad x2c0c0 x2c0c1 x2c0c2
def I9 (K : Nat) (x0 : tbr) (x1 : List (Bool × aSt)) (x1c9 : Int) (x1c7 : List Int) (x1c8 : List (List aMv)) : Option (aMv × tbr) :=
 (Lp K x0).bind fun a =>
 bif (decide ((IntKind.i64.wrap (a.1 - (1:Int))) ≥ (x1.length : Int))) then
 some ((aMv.mk (IntKind.i64.wrap (a.1 - (1:Int))) []), (tbr.mk a.2.b true))
 else
 bif (decide ((IntKind.i64.wrap (a.1 - (1:Int))) ≥ (0:Int))) then
 (X0 x1 (IntKind.i64.wrap (a.1 - (1:Int)))).bind fun d =>
 (Jn K a.2 (d.2.R.length : Int)).bind fun c =>
 (ck (c.1.size ≤ 140737488355328)).bind fun _ =>
 some ((aMv.mk (IntKind.i64.wrap (a.1 - (1:Int))) (Zw c.1)), c.2)
 else
 some ((aMv.mk (IntKind.i64.wrap (a.1 - (1:Int))) []), a.2)
def Kc (K : Nat) (x0 : List aMv) (x1_p : tbr) (x2c0 : aSp) (x2c1 : List Ze) (x2c2 : List (Bool × aSt)) (x2c2c9 : Int) (x2c2c7 : List Int) (x2c2c8 : List (List aMv)) : Option ((List aMv) × tbr) :=
 (I9 K x1_p x2c2 x2c2c9 x2c2c7 x2c2c8).bind fun a =>
 (ck (roomy 32 (x0.length + [a.1].length) = true)).bind fun _ =>
 some ((x0 ++ [a.1]), a.2)
def Hp (K : Nat) (a : ByteArray) (b : Bool) (c : List aMv) (x2c2c0 : aSp) (x2c2c1 : List Ze) (x2c2c2 : List (Bool × aSt)) (x2c2c2c9 : Int) (x2c2c2c7 : List Int) (x2c2c2c8 : List (List aMv)) : Option (tbr × (List aMv)) :=
 some ((tbr.mk a b), c)
def Yt (K : Nat) : Nat → Int → Int → ByteArray → Bool → (List aMv) → aSp → (List Ze) → (List (Bool × aSt)) → Int → (List Int) → (List (List aMv)) → Option (tbr × (List aMv))
 | 0 => fun _ _ _ _ _ _ _ _ _ _ _ => none
 | k + 1 => fun x1 f c a d x2c2c0 x2c2c1 x2c2c2 x2c2c2c9 x2c2c2c7 x2c2c2c8 =>
 bif (decide (f < x1)) then
 bif (!a) then
 (Kc K d (tbr.mk c a) x2c2c0 x2c2c1 x2c2c2 x2c2c2c9 x2c2c2c7 x2c2c2c8).bind fun e =>
 Yt K k x1 (IntKind.i64.wrap (f + (1:Int))) e.2.b e.2.bad e.1 x2c2c0 x2c2c1 x2c2c2 x2c2c2c9 x2c2c2c7 x2c2c2c8
 else
 Hp K c a d x2c2c0 x2c2c1 x2c2c2 x2c2c2c9 x2c2c2c7 x2c2c2c8
 else
 Hp K c a d x2c2c0 x2c2c1 x2c2c2 x2c2c2c9 x2c2c2c7 x2c2c2c8
def G8 (K : Nat) (x0 : tbr) (x1 : Int) (x2c0 : List aMv) (x2c2c0 : aSp) (x2c2c1 : List Ze) (x2c2c2 : List (Bool × aSt)) (x2c2c2c9 : Int) (x2c2c2c7 : List Int) (x2c2c2c8 : List (List aMv)) : Option (tbr × (List aMv)) :=
 Yt K K x1 (0:Int) x0.b x0.bad x2c0 x2c2c0 x2c2c1 x2c2c2 x2c2c2c9 x2c2c2c7 x2c2c2c8
def Km (K : Nat) (x0_p : List (Bool × aSt)) (x0_pc9 : Int) (x0_pc7 : List Int) (x0_pc8 : List (List aMv)) (x1_p : tbr) (x2c0 : aSp) (x2c1 : List Ze) : Option ((List Int) × (List (List aMv)) × tbr) :=
 (X0 x0_p x0_pc9).bind fun c =>
 (Lp K x1_p).bind fun a =>
 (ck (roomy 8 (x0_pc7.length + [(IntKind.i64.wrap (a.1 - (1:Int)))].length) = true)).bind fun _ =>
 (G8 K a.2 x2c0.Many [] x2c0 x2c1 x0_p x0_pc9 (x0_pc7 ++ [(IntKind.i64.wrap (a.1 - (1:Int)))]) x0_pc8).bind fun b =>
 (ck (roomy 24 (x0_pc8.length + [b.2].length) = true)).bind fun _ =>
 some ((x0_pc7 ++ [(IntKind.i64.wrap (a.1 - (1:Int)))]), (x0_pc8 ++ [b.2]), b.1)
def Hq (K : Nat) (a : ByteArray) (b : Bool) (x2c0_pc9 : Int) (x2c0_p : List (Bool × aSt)) (c : List Int) (d : List (List aMv)) (x2c2c0 : aSp) (x2c2c1 : List Ze) : Option (tbr × (List Int) × (List (List aMv))) :=
 some ((tbr.mk a b), c, d)
def Yu (K : Nat) : Nat → Int → Int → ByteArray → Bool → Int → (List (Bool × aSt)) → (List Int) → (List (List aMv)) → aSp → (List Ze) → Option (tbr × (List Int) × (List (List aMv)))
 | 0 => fun _ _ _ _ _ _ _ _ _ _ => none
 | k + 1 => fun x1 g d a x2c0_pc9 x2c0_p e f x2c2c0 x2c2c1 =>
 bif (decide (g < x1)) then
 bif (!a) then
 (Km K x2c0_p x2c0_pc9 e f (tbr.mk d a) x2c2c0 x2c2c1).bind fun c =>
 Yu K k x1 (IntKind.i64.wrap (g + (1:Int))) c.2.2.b c.2.2.bad x2c0_pc9 x2c0_p c.1 c.2.1 x2c2c0 x2c2c1
 else
 Hq K d a x2c0_pc9 x2c0_p e f x2c2c0 x2c2c1
 else
 Hq K d a x2c0_pc9 x2c0_p e f x2c2c0 x2c2c1
def W6 (K : Nat) (x0 : tbr) (x1 : Int) (x2c0_p : List (Bool × aSt)) (x2c0_pc9 : Int) (x2c0_pc7 : List Int) (x2c0_pc8 : List (List aMv)) (x2c2c0 : aSp) (x2c2c1 : List Ze) : Option (tbr × (List Int) × (List (List aMv))) :=
 Yu K K x1 (0:Int) x0.b x0.bad x2c0_pc9 x2c0_p x2c0_pc7 x2c0_pc8 x2c2c0 x2c2c1
def Ld (K : Nat) (a : Qy) (b : List aSt) : Option (aAu × Int) :=
 some ((aAu.mk (aSp.mk (Qy.mk fun _ => 0) (0:Int)) [] []), (6:Int))
def Xo (K : Nat) : Nat → Int → Int → Qy → ByteArray → Bool → Qy → Int → (List Ze) → (List (Bool × aSt)) → Option (aAu × Int)
 | 0 => fun _ _ _ _ _ _ _ _ _ => none
 | k + 1 => fun l c g m n d e i f =>
 bif (decide (c < l)) then
 (X0 f c).bind fun a =>
 (ck (a.1 = false)).bind fun _ =>
 (Hj K (a.2.R.length : Int)).bind fun o =>
 (W6 K (tbr.mk m n) o f c a.2.Rule a.2.Next (aSp.mk d e) i).bind fun j =>
 Xo K k l (IntKind.i64.wrap (c + (1:Int))) g j.1.b j.1.bad ((aSp.mk d e).Of) ((aSp.mk d e).Many) i (List.set f (Int.toNat c) (true, (aSt.mk a.2.L a.2.R j.2.1 j.2.2)))
 else
 bif n then
 Ld K g (([] : List (Bool × aSt)).map Prod.snd)
 else
 bif (decide ((m.size : Int) > (0:Int))) then
 Ld K g (([] : List (Bool × aSt)).map Prod.snd)
 else
 (Hh K (aAu.mk (aSp.mk d e) i (f.map Prod.snd))).bind fun p =>
 bif (!p) then
 Ld K g (([] : List (Bool × aSt)).map Prod.snd)
 else
 some ((aAu.mk (aSp.mk d e) i (f.map Prod.snd)), (0:Int))
def Kp (K : Nat) (x0 : List Int) : Option (aAu × Int) :=
 (Jn K (tbr.mk (ofBytes x0) false) (4:Int)).bind fun e =>
 bif (!(e.1.toList == (⟨#[114, 100, 100, 108]⟩ : ByteArray).toList)) then
 some ((aAu.mk (aSp.mk (Qy.mk fun _ => 0) (0:Int)) [] []), (6:Int))
 else
 (Bu K e.2).bind fun a =>
 (Lp K a.2).bind fun f =>
 (D8 K f.2 f.1 a.1 [] ([] : List (Bool × aSt))).bind fun d =>
 (Lp K d.1).bind fun g =>
 (G9 K g.2 g.1 a.1 d.2 ([] : List (Bool × aSt))).bind fun c =>
 Xo K K (c.2.length : Int) (0:Int) (Qy.mk fun _ => 0) c.1.b c.1.bad a.1.Of a.1.Many d.2 c.2
def Uy (K : Nat) (a : Bool) : Option Bool :=
 some a
def He (K : Nat) (x0 : aAu) (x1 : Int) (x2 : Int) : Option Bool :=
 (Ny K).bind fun c =>
 (l4_few K x0).bind fun b =>
 (Lc K b).bind fun a =>
 bif (a.2 != (0:Int)) then
 bif c then
 bif (a.2 == (1:Int)) then
 bif ((a.1.length : Int) == (0:Int)) then
 (Mx K b).bind fun g =>
 Uy K (!g)
 else
 Uy K false
 else
 Uy K false
 else
 Uy K false
 else
 bif (decide ((a.1.length : Int) < (266:Int))) then
 some false
 else
 (Kp K a.1).bind fun d =>
 (ck ((a.1.length : Int) ≠ 0)).bind fun _ =>
 (ck (0 ≤ (Int.tmod (IntKind.i64.wrap x1) (a.1.length : Int)) ∧ 0 ≤ (Int.toNat (Int.tmod (IntKind.i64.wrap x1) (a.1.length : Int))) ∧ (Int.toNat (Int.tmod (IntKind.i64.wrap x1) (a.1.length : Int))) ≤ a.1.length)).bind fun _ =>
 (Kp K ((a.1.take (Int.toNat (Int.tmod (IntKind.i64.wrap x1) (a.1.length : Int)))).drop 0)).bind fun e =>
 (ck (roomy 1 (([] : List Int).length + a.1.length) = true)).bind fun _ =>
 (ck (roomy 1 ((([] : List Int) ++ a.1).length + [x2].length) = true)).bind fun _ =>
 (Kp K ((([] : List Int) ++ a.1) ++ [x2])).bind fun f =>
 bif c then
 bif (d.2 == (0:Int)) then
 (O1 K b d.1).bind fun i =>
 bif i then
 bif (e.2 == (6:Int)) then
 bif ((e.1.States.length : Int) == (0:Int)) then
 bif (f.2 == (6:Int)) then
 some ((f.1.States.length : Int) == (0:Int))
 else
 some false
 else
 some false
 else
 some false
 else
 some false
 else
 some false
 else
 some false
end Go.Rv

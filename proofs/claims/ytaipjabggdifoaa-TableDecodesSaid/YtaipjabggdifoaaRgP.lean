/- What each function of the program computes, as plain Lean: printed by a program of ours from the translation. -/
import Derived.Test.YtaipjabggdifoaaRvCG
namespace Go.Rv
set_option linter.unusedVariables false
structure aSp where
 Of : Qx
 Many : Int
structure aMv where
 To : Int
 Ops : List Int
 deriving DecidableEq
abbrev Qu (x : aMv) : List DC := [.int .i64 x.To, .sl false 1 (x.Ops.map (cI .u8))]
structure aSt where
 L : List Int
 R : List Int
 Rule : List Int
 Next : List (List aMv)
 deriving DecidableEq
abbrev Q0 (x : aSt) : List DC := [.sl false 1 (x.L.map (cI .i64)), .sl false 1 (x.R.map (cI .i64)), .sl false 1 (x.Rule.map (cI .i64)), .sl false 1 (x.Next.map (cL 2 Qu))]
structure aAu where
 Split : aSp
 Counts : List Zb
 States : List aSt
structure Q9 where
 Auto : aAu
structure tbw where
 b : List Int
 deriving DecidableEq
structure Yg where
 b : List Int
 deriving DecidableEq
structure Jy where
 S : Zu
 Lo : Int
 Hi : Int
 Rule : Int
 Last : Bool
 Next : List Int
 deriving DecidableEq
abbrev Zk (x : Jy) : List DC := [.int .u64 x.S.a0, .int .u64 x.S.a1, .int .u64 x.S.a2, .int .u64 x.S.a3, .int .i64 x.Lo, .int .i64 x.Hi, .int .i64 x.Rule, .bool x.Last, .sl false 1 (x.Next.map (cI .i64))]
structure Xn where
 First : List Int
 P : List Jy
 deriving DecidableEq
structure Qj where
 g : Xn
 number : List Int
 a : aAu
 e : Int
structure tbr where
 b : ByteArray
 bad : Bool
 deriving DecidableEq
abbrev Qw (x : Bool × aSt) : List DC := [.sl false 1 (x.2.L.map (cI .i64)), .sl false 1 (x.2.R.map (cI .i64)), .sl (!x.1) 1 (x.2.Rule.map (cI .i64)), .sl (!x.1) 1 (x.2.Next.map (cL 2 Qu))]
structure r4r where
 b : List Int
 bad : Bool
 deriving DecidableEq
def Vz (K : Nat) : Nat → Int → aSp → Int → Option Bool
 | 0 => fun _ _ _ => none
 | k + 1 => fun b x0 a =>
 bif (decide (a < (256:Int))) then
 (ck (0 ≤ a ∧ a < 256)).bind fun _ =>
 bif (decide ((IntKind.i64.wrap (Qx.get x0.Of a)) > b)) then
 some false
 else
 bif ((IntKind.i64.wrap (Qx.get x0.Of a)) == b) then
 Vz K k (IntKind.i64.wrap (b + (1:Int))) x0 (IntKind.i64.wrap (a + (1:Int)))
 else
 Vz K k b x0 (IntKind.i64.wrap (a + (1:Int)))
 else
 some (b == x0.Many)
def M9 (K : Nat) (x0 : aSp) : Option Bool :=
 Vz K K (0:Int) x0 (0:Int)
def La (K : Nat) : Option Int :=
 some (0:Int)
def G9 (K : Nat) : Nat → Int → Int → Int → Option Int
 | 0 => fun _ _ _ => none
 | k + 1 => fun a x0 b =>
 bif (decide (b < x0)) then
 G9 K k (IntKind.i64.wrap (a * (3:Int))) x0 (IntKind.i64.wrap (b + (1:Int)))
 else
 some a
def Gg (K : Nat) (x0 : Int) : Option Int :=
 bif (decide (x0 < (0:Int))) then
 La K
 else
 bif (decide (x0 > (3:Int))) then
 La K
 else
 G9 K K (1:Int) x0 (0:Int)
def G6 (K : Nat) : Option Bool :=
 some false
def Jv (K : Nat) : Nat → Int → Int → (List Int) → Int → Int → Option Bool
 | 0 => fun _ _ _ _ _ => none
 | k + 1 => fun x1 d x0 c a =>
 bif (decide (a < c)) then
 (X4 x0 a).bind fun b =>
 bif (decide (b ≤ d)) then
 G6 K
 else
 bif (decide (b ≥ x1)) then
 G6 K
 else
 Jv K k x1 b x0 c (IntKind.i64.wrap (a + (1:Int)))
 else
 some true
def Mz (K : Nat) (x0 : List Int) (x1 : Int) : Option Bool :=
 Jv K K x1 (-1:Int) x0 (x0.length : Int) (0:Int)
def Xi (K : Nat) : Nat → (List Int) → Int → Int → Int → Option Int
 | 0 => fun _ _ _ _ => none
 | k + 1 => fun x0 x1 b a =>
 bif (decide (a < b)) then
 (X4 x0 a).bind fun c =>
 bif (x1 == c) then
 some a
 else
 Xi K k x0 x1 b (IntKind.i64.wrap (a + (1:Int)))
 else
 some (-1:Int)
def Ho (K : Nat) (x0 : List Int) (x1 : Int) : Option Int :=
 Xi K K x0 x1 (x0.length : Int) (0:Int)
def V1 (K : Nat) (x0 : List Int) (x1 : Int) : Option Bool :=
 (Ho K x0 x1).bind fun a =>
 some (decide (a ≥ (0:Int)))
def Yl (K : Nat) : Option Bool :=
 some false
def Yk (K : Nat) : Option Bool :=
 some false
def Yj (K : Nat) : Nat → aMv → Int → Int → Q9 → aSt → Option Bool
 | 0 => fun _ _ _ _ _ => none
 | k + 1 => fun x2 b a x0 x1 =>
 bif (decide (a < b)) then
 (X4 x2.Ops a).bind fun c =>
 bif (decide (c < (1:Int))) then
 Yk K
 else
 bif (decide (c > (3:Int))) then
 Yk K
 else
 bif (c != (3:Int)) then
 (X4 x0.Auto.States x2.To).bind fun d =>
 (X4 d.R a).bind fun e =>
 (V1 K x1.R e).bind fun f =>
 bif (!f) then
 Yk K
 else
 Yj K k x2 b (IntKind.i64.wrap (a + (1:Int))) x0 x1
 else
 Yj K k x2 b (IntKind.i64.wrap (a + (1:Int))) x0 x1
 else
 some true
def Ji (K : Nat) (x0 : Q9) (x1 : aSt) (x2 : aMv) : Option Bool :=
 bif (x2.To == (-1:Int)) then
 some ((x2.Ops.length : Int) == (0:Int))
 else
 bif (decide (x2.To < (1:Int))) then
 Yl K
 else
 bif (decide (x2.To ≥ (x0.Auto.States.length : Int))) then
 Yl K
 else
 (X4 x0.Auto.States x2.To).bind fun a =>
 bif ((x2.Ops.length : Int) != (a.R.length : Int)) then
 Yl K
 else
 Yj K K x2 (x2.Ops.length : Int) (0:Int) x0 x1
def U7 (K : Nat) (x0 : aMv) (x1 : Q9) (x2 : aSt) : Option Bool :=
 (Ji K x1 x2 x0).bind fun a =>
 some (!a)
def Z8 (K : Nat) : Nat → (List aMv) → Int → Int → Q9 → aSt → Option Int
 | 0 => fun _ _ _ _ _ => none
 | k + 1 => fun x0 b a x1c0 x1c1 =>
 bif (decide (a < b)) then
 (X4 x0 a).bind fun c =>
 (U7 K c x1c0 x1c1).bind fun d =>
 bif d then
 some a
 else
 Z8 K k x0 b (IntKind.i64.wrap (a + (1:Int))) x1c0 x1c1
 else
 some (-1:Int)
def Ui (K : Nat) (x0 : List aMv) (x1c0 : Q9) (x1c1 : aSt) : Option Int :=
 Z8 K K x0 (x0.length : Int) (0:Int) x1c0 x1c1
def Xk (K : Nat) (x0 : List aMv) (x1c0 : Q9) (x1c1 : aSt) : Option Bool :=
 (Ui K x0 x1c0 x1c1).bind fun a =>
 some (decide (a ≥ (0:Int)))
def Zp (K : Nat) : Option Bool :=
 some false
def Yb (K : Nat) : Option Bool :=
 some false
def Y0 (K : Nat) : Nat → aSt → Int → Int → Q9 → Option Bool
 | 0 => fun _ _ _ _ => none
 | k + 1 => fun x1 b a x0 =>
 bif (decide (a < b)) then
 (X4 x1.Next a).bind fun c =>
 (X4 x1.Rule a).bind fun d =>
 bif (decide (d < (-1:Int))) then
 Yb K
 else
 bif (decide (d ≥ (512:Int))) then
 Yb K
 else
 bif ((c.length : Int) != x0.Auto.Split.Many) then
 Yb K
 else
 (Xk K c x0 x1).bind fun e =>
 bif e then
 some false
 else
 Y0 K k x1 b (IntKind.i64.wrap (a + (1:Int))) x0
 else
 some true
def Up (K : Nat) (x0 : Q9) (x1 : aSt) : Option Bool :=
 (Gg K (x1.R.length : Int)).bind fun a =>
 bif (a == (0:Int)) then
 Zp K
 else
 bif ((x1.Rule.length : Int) != a) then
 Zp K
 else
 bif ((x1.Next.length : Int) != a) then
 Zp K
 else
 (Mz K x1.L (512:Int)).bind fun b =>
 bif (!b) then
 Zp K
 else
 (Mz K x1.R (x0.Auto.Counts.length : Int)).bind fun c =>
 bif (!c) then
 Zp K
 else
 Y0 K K x1 (x1.Next.length : Int) (0:Int) x0
def Cu (K : Nat) (x0 : aSt) (x1 : Q9) : Option Bool :=
 (Up K x1 x0).bind fun a =>
 some (!a)
def Zy (K : Nat) : Nat → (List aSt) → Int → Int → Q9 → Option Int
 | 0 => fun _ _ _ _ => none
 | k + 1 => fun x0 b a x1c0 =>
 bif (decide (a < b)) then
 (X4 x0 a).bind fun c =>
 (Cu K c x1c0).bind fun d =>
 bif d then
 some a
 else
 Zy K k x0 b (IntKind.i64.wrap (a + (1:Int))) x1c0
 else
 some (-1:Int)
def Ud (K : Nat) (x0 : List aSt) (x1c0 : Q9) : Option Int :=
 Zy K K x0 (x0.length : Int) (0:Int) x1c0
def Xb (K : Nat) (x0 : List aSt) (x1c0 : Q9) : Option Bool :=
 (Ud K x0 x1c0).bind fun a =>
 some (decide (a ≥ (0:Int)))
def Y2 (K : Nat) : Option Bool :=
 some false
def Jx (K : Nat) : Option Bool :=
 some false
def Uq (K : Nat) : Nat → aAu → Int → Int → Option Bool
 | 0 => fun _ _ _ => none
 | k + 1 => fun x0 c b =>
 bif (decide (b < c)) then
 (X4 x0.Counts b).bind fun a =>
 bif (decide ((Zb.get a (0:Int)) < (1:Int))) then
 Jx K
 else
 bif (decide ((Zb.get a (0:Int)) > (Zb.get a (1:Int)))) then
 Jx K
 else
 bif (decide ((Zb.get a (1:Int)) < (2:Int))) then
 Jx K
 else
 bif (decide ((Zb.get a (1:Int)) > (4096:Int))) then
 Jx K
 else
 Uq K k x0 c (IntKind.i64.wrap (b + (1:Int)))
 else
 (Xb K x0.States (Q9.mk x0)).bind fun d =>
 some (!d)
def Gf (K : Nat) (x0 : aAu) : Option Bool :=
 (M9 K x0.Split).bind fun b =>
 bif (!b) then
 Y2 K
 else
 bif (decide ((x0.Counts.length : Int) > (512:Int))) then
 Y2 K
 else
 bif (decide ((x0.States.length : Int) < (1:Int))) then
 Y2 K
 else
 bif (decide ((x0.States.length : Int) > (256:Int))) then
 Y2 K
 else
 (X4 x0.States (0:Int)).bind fun a =>
 bif (decide ((IntKind.i64.wrap ((a.L.length : Int) + (a.R.length : Int))) > (0:Int))) then
 Y2 K
 else
 Uq K K x0 (x0.Counts.length : Int) (0:Int)
def J1 (K : Nat) (x1 : Int) : Option (List Int) :=
 bif (decide (x1 < (0:Int))) then
 none
 else
 bif (decide ((IntKind.i64.wrap (x1 - (IntKind.i64.wrap ((0:Int) - (0:Int))))) > (0:Int))) then
 (ck (0 < (IntKind.i64.wrap (x1 - (IntKind.i64.wrap ((0:Int) - (0:Int))))))).bind fun _ =>
 (ck (roomy 1 (Int.toNat (IntKind.i64.wrap (x1 - (IntKind.i64.wrap ((0:Int) - (0:Int)))))) = true)).bind fun _ =>
 (ck (0 ≤ (0:Int) ∧ (Int.toNat (0:Int)) ≤ (List.replicate (Int.toNat (IntKind.i64.wrap (x1 - (IntKind.i64.wrap ((0:Int) - (0:Int)))))) ((0:Int) : Int)).length)).bind fun _ =>
 some ((List.replicate (Int.toNat (IntKind.i64.wrap (x1 - (IntKind.i64.wrap ((0:Int) - (0:Int)))))) ((0:Int) : Int)).take (Int.toNat (0:Int)))
 else
 some ([] : List Int)
def Va (K : Nat) : Nat → (List (List Int)) → Int → Int → (List Int) → Option (List Int)
 | 0 => fun _ _ _ _ => none
 | k + 1 => fun x0 c a b =>
 bif (decide (a < c)) then
 (X4 x0 a).bind fun d =>
 (ck (roomy 1 (b.length + d.length) = true)).bind fun _ =>
 Va K k x0 c (IntKind.i64.wrap (a + (1:Int))) (b ++ d)
 else
 some b
def Vb (K : Nat) : Nat → (List (List Int)) → Int → Int → Int → Option (List Int)
 | 0 => fun _ _ _ _ => none
 | k + 1 => fun x0 a c b =>
 bif (decide (b < c)) then
 (X4 x0 b).bind fun d =>
 bif (decide ((IntKind.i64.wrap (a + (d.length : Int))) < (0:Int))) then
 none
 else
 Vb K k x0 (IntKind.i64.wrap (a + (d.length : Int))) c (IntKind.i64.wrap (b + (1:Int)))
 else
 (J1 K a).bind fun e =>
 Va K K x0 (x0.length : Int) (0:Int) e
def Uj (K : Nat) (x0 : List (List Int)) : Option (List Int) :=
 Vb K K x0 (0:Int) (x0.length : Int) (0:Int)
def Wz (K : Nat) (x0 : List Int) : Option (List Int) :=
 (ck (roomy 1 (([] : List Int).length + x0.length) = true)).bind fun _ =>
 some (([] : List Int) ++ x0)
def Jm (K : Nat) : Nat → Int → (List Int) → Option (List Int)
 | 0 => fun _ _ => none
 | k + 1 => fun a b =>
 bif (decide (a ≥ (128:Int))) then
 (ck (roomy 1 (b.length + [(bits .or .u8 (IntKind.u8.wrap a) (128:Int))].length) = true)).bind fun _ =>
 Jm K k (Int.fdiv a (2 ^ min (Int.toNat (7:Int)) IntKind.i64.bits)) (b ++ [(bits .or .u8 (IntKind.u8.wrap a) (128:Int))])
 else
 (ck (roomy 1 (b.length + [(IntKind.u8.wrap a)].length) = true)).bind fun _ =>
 some (b ++ [(IntKind.u8.wrap a)])
def Dk (K : Nat) (x0 : List Int) (x1 : Int) : Option (List Int) :=
 (Wz K x0).bind fun a =>
 Jm K K (if (0:Int) > x1 then (0:Int) else x1) a
def J7 (K : Nat) : Nat → (List Int) → Int → Int → (List Int) → Option tbw
 | 0 => fun _ _ _ _ => none
 | k + 1 => fun x1 b a c =>
 bif (decide (a < b)) then
 (X4 x1 a).bind fun d =>
 (Dk K c d).bind fun e =>
 J7 K k x1 b (IntKind.i64.wrap (a + (1:Int))) e
 else
 some (tbw.mk c)
def Lj (K : Nat) (x0 : tbw) (x1 : List Int) : Option tbw :=
 J7 K K x1 (x1.length : Int) (0:Int) x0.b
def Nq (K : Nat) (x0 : tbw) (x1 : List Int) : Option tbw :=
 (Lj K x0 [(x1.length : Int)]).bind fun a =>
 (Lj K a x1).bind fun b =>
 some b
def X7 (K : Nat) (d : aAu → Int → Int → (List (List aMv)) → Int → Int → (List Int) → (List Int) → (List Int) → (List Int) → (List (List aMv)) → Option ((List Int) × Int)) : Nat → aAu → Int → Int → (List (List aMv)) → Int → Int → (List aMv) → Int → Int → (List Int) → (List Int) → (List Int) → (List Int) → (List (List aMv)) → Option ((List Int) × Int)
 | 0 => fun _ _ _ _ _ _ _ _ _ _ _ _ _ _ => none
 | k + 1 => fun x0 e f g i j l m a n o p q r =>
 bif (decide (a < m)) then
 (X4 l a).bind fun c =>
 (Lj K (tbw.mk n) [(IntKind.i64.wrap (c.To + (1:Int)))]).bind fun s =>
 (ck (roomy 1 (s.b.length + c.Ops.length) = true)).bind fun _ =>
 X7 K d k x0 e f g i j l m (IntKind.i64.wrap (a + (1:Int))) (s.b ++ c.Ops) o p q r
 else
 d x0 e f g i (IntKind.i64.wrap (j + (1:Int))) n o p q r
def Xt (K : Nat) (c : aAu → Int → Int → (List Int) → Option ((List Int) × Int)) : Nat → aAu → Int → Int → (List (List aMv)) → Int → Int → (List Int) → (List Int) → (List Int) → (List Int) → (List (List aMv)) → Option ((List Int) × Int)
 | 0 => fun _ _ _ _ _ _ _ _ _ _ _ => none
 | k + 1 => fun x0 d e f g a i m n j o =>
 bif (decide (a < g)) then
 (X4 f a).bind fun l =>
 (X4 j a).bind fun p =>
 (Lj K (tbw.mk i) [(IntKind.i64.wrap (p + (1:Int)))]).bind fun q =>
 X7 K (Xt K c k) K x0 d e f g a l (l.length : Int) (0:Int) q.b m n j o
 else
 c x0 d (IntKind.i64.wrap (e + (1:Int))) i
def Xj (K : Nat) : Nat → aAu → Int → Int → (List Int) → Option ((List Int) × Int)
 | 0 => fun _ _ _ _ => none
 | k + 1 => fun x0 c b d =>
 bif (decide (b < c)) then
 (X4 x0.States b).bind fun a =>
 Xt K (Xj K k) K x0 c b a.Next (a.Next.length : Int) (0:Int) d a.L a.R a.Rule a.Next
 else
 some (d, (0:Int))
def Xu (K : Nat) : Nat → aAu → Int → Int → (List Int) → Option ((List Int) × Int)
 | 0 => fun _ _ _ _ => none
 | k + 1 => fun x0 c a d =>
 bif (decide (a < c)) then
 (X4 x0.States a).bind fun e =>
 (Nq K (tbw.mk d) e.L).bind fun f =>
 (Nq K f e.R).bind fun g =>
 Xu K k x0 c (IntKind.i64.wrap (a + (1:Int))) g.b
 else
 Xj K K x0 (x0.States.length : Int) (0:Int) d
def X8 (K : Nat) : Nat → aAu → Int → Int → (List Int) → Option ((List Int) × Int)
 | 0 => fun _ _ _ _ => none
 | k + 1 => fun x0 c a d =>
 bif (decide (a < c)) then
 (X4 x0.Counts a).bind fun e =>
 (Lj K (tbw.mk d) ([e.a0, e.a1] : List Int)).bind fun f =>
 X8 K k x0 c (IntKind.i64.wrap (a + (1:Int))) f.b
 else
 (Lj K (tbw.mk d) [(x0.States.length : Int)]).bind fun g =>
 Xu K K x0 (x0.States.length : Int) (0:Int) g.b
def M3 (K : Nat) (x0 : aAu) : Option ((List Int) × Int) :=
 (Gf K x0).bind fun a =>
 bif (!a) then
 some ([], (1:Int))
 else
 (Uj K [[(114:Int), (100:Int), (100:Int), (108:Int)], (Qx.list 256 x0.Split.Of)]).bind fun c =>
 (Lj K (tbw.mk c) [(x0.Counts.length : Int)]).bind fun d =>
 X8 K K x0 (x0.Counts.length : Int) (0:Int) d.b
def Yi (K : Nat) : Nat → Int → Int → aSp → Option Bool
 | 0 => fun _ _ _ => none
 | k + 1 => fun b a x0 =>
 bif (decide (a < (256:Int))) then
 (ck (0 ≤ a ∧ a < 256)).bind fun _ =>
 bif (decide ((IntKind.i64.wrap (Qx.get x0.Of a)) > b)) then
 some false
 else
 bif ((IntKind.i64.wrap (Qx.get x0.Of a)) == b) then
 Yi K k (IntKind.i64.wrap (b + (1:Int))) (IntKind.i64.wrap (a + (1:Int))) x0
 else
 Yi K k b (IntKind.i64.wrap (a + (1:Int))) x0
 else
 some (b == x0.Many)
def Ja (K : Nat) (x0 : aSp) : Option Bool :=
 Yi K K (0:Int) (0:Int) x0
def Bu (K : Nat) : Option Int :=
 some (0:Int)
def Bt (K : Nat) : Nat → Int → Int → Int → Option Int
 | 0 => fun _ _ _ => none
 | k + 1 => fun x0 a b =>
 bif (decide (b < x0)) then
 Bt K k x0 (IntKind.i64.wrap (a * (3:Int))) (IntKind.i64.wrap (b + (1:Int)))
 else
 some a
def Mx (K : Nat) (x0 : Int) : Option Int :=
 bif (decide (x0 < (0:Int))) then
 Bu K
 else
 bif (decide (x0 > (3:Int))) then
 Bu K
 else
 Bt K K x0 (1:Int) (0:Int)
def Lz (K : Nat) : Option Bool :=
 some false
def Wq (K : Nat) : Nat → (List Int) → Int → Int → Option Bool
 | 0 => fun _ _ _ => none
 | k + 1 => fun x0 x1 a =>
 bif (decide (a < (x0.length : Int))) then
 (X4 x0 a).bind fun b =>
 bif (decide (b < (0:Int))) then
 Lz K
 else
 bif (decide (b ≥ x1)) then
 Lz K
 else
 bif (decide (a > (0:Int))) then
 (X4 x0 (IntKind.i64.wrap (a - (1:Int)))).bind fun c =>
 bif (decide (c ≥ b)) then
 Lz K
 else
 Wq K k x0 x1 (IntKind.i64.wrap (a + (1:Int)))
 else
 Wq K k x0 x1 (IntKind.i64.wrap (a + (1:Int)))
 else
 some true
def Ny (K : Nat) (x0 : List Int) (x1 : Int) : Option Bool :=
 Wq K K x0 x1 (0:Int)
def Ex (K : Nat) : Nat → (List Int) → Int → Int → Option Bool
 | 0 => fun _ _ _ => none
 | k + 1 => fun x0 x1 a =>
 bif (decide (a < (x0.length : Int))) then
 (X4 x0 a).bind fun b =>
 bif (b == x1) then
 some true
 else
 Ex K k x0 x1 (IntKind.i64.wrap (a + (1:Int)))
 else
 some false
def r1_in (K : Nat) (x0 : List Int) (x1 : Int) : Option Bool :=
 Ex K K x0 x1 (0:Int)
def Gc (K : Nat) : Option Bool :=
 some false
def Gb (K : Nat) : Option Bool :=
 some false
def Ga (K : Nat) : Nat → Int → aAu → aSt → aMv → Option Bool
 | 0 => fun _ _ _ _ => none
 | k + 1 => fun a x0 x1 x2 =>
 bif (decide (a < (x2.Ops.length : Int))) then
 (X4 x2.Ops a).bind fun b =>
 bif (decide (b < (1:Int))) then
 Gb K
 else
 bif (decide (b > (3:Int))) then
 Gb K
 else
 bif (b != (3:Int)) then
 (X4 x0.States x2.To).bind fun c =>
 (X4 c.R a).bind fun d =>
 (r1_in K x1.R d).bind fun e =>
 bif (!e) then
 Gb K
 else
 Ga K k (IntKind.i64.wrap (a + (1:Int))) x0 x1 x2
 else
 Ga K k (IntKind.i64.wrap (a + (1:Int))) x0 x1 x2
 else
 some true
def Qaw (K : Nat) (x0 : aAu) (x1 : aSt) (x2 : aMv) : Option Bool :=
 bif (x2.To == (-1:Int)) then
 some ((x2.Ops.length : Int) == (0:Int))
 else
 bif (decide (x2.To < (1:Int))) then
 Gc K
 else
 bif (decide (x2.To ≥ (x0.States.length : Int))) then
 Gc K
 else
 (X4 x0.States x2.To).bind fun a =>
 bif ((x2.Ops.length : Int) != (a.R.length : Int)) then
 Gc K
 else
 Ga K K (0:Int) x0 x1 x2
def Vn (K : Nat) : Option Bool :=
 some false
def Wp (K : Nat) : Option Bool :=
 some false
def Hy (K : Nat) (c : Int → Int → aAu → aSt → Option Bool) : Nat → Int → Int → Int → aSt → Int → Int → Int → Bool → Int → (List aMv) → (List aMv) → Int → aAu → Bool → Option Bool
 | 0 => fun _ _ _ _ _ _ _ _ _ _ _ _ _ _ => none
 | k + 1 => fun d a b x1 f g i j l m n o x0 p =>
 (X4 x1.Next a).bind fun e =>
 bif (decide (b < (e.length : Int))) then
 (X4 e b).bind fun q =>
 (Qaw K x0 x1 q).bind fun r =>
 bif (!r) then
 some false
 else
 Hy K c k d a (IntKind.i64.wrap (b + (1:Int))) x1 f g i j l m n o x0 p
 else
 c d (IntKind.i64.wrap (a + (1:Int))) x0 x1
def Ux (K : Nat) : Nat → Int → Int → aAu → aSt → Option Bool
 | 0 => fun _ _ _ _ => none
 | k + 1 => fun d a x0 x1 =>
 bif (decide (a < d)) then
 (X4 x1.Rule a).bind fun b =>
 bif (decide (b < (-1:Int))) then
 Wp K
 else
 bif (decide (b ≥ (512:Int))) then
 Wp K
 else
 (X4 x1.Next a).bind fun c =>
 bif ((c.length : Int) != x0.Split.Many) then
 Wp K
 else
 Hy K (Ux K k) K d a (0:Int) x1 a b b (decide (b ≥ (512:Int))) a c c (c.length : Int) x0 ((c.length : Int) != x0.Split.Many)
 else
 some true
def R2 (K : Nat) (x0 : aAu) (x1 : aSt) : Option Bool :=
 (Mx K (x1.R.length : Int)).bind fun a =>
 bif (a == (0:Int)) then
 Vn K
 else
 (Ny K x1.L (512:Int)).bind fun b =>
 bif (!b) then
 Vn K
 else
 (Ny K x1.R (x0.Counts.length : Int)).bind fun c =>
 bif (!c) then
 Vn K
 else
 bif ((x1.Rule.length : Int) != a) then
 Vn K
 else
 bif ((x1.Next.length : Int) != a) then
 Vn K
 else
 Ux K K a (0:Int) x0 x1
def Xr (K : Nat) : Option Bool :=
 some false
def H2 (K : Nat) : Option Bool :=
 some false
def H1 (K : Nat) : Nat → Int → aAu → Option Bool
 | 0 => fun _ _ => none
 | k + 1 => fun a x0 =>
 bif (decide (a < (x0.States.length : Int))) then
 (X4 x0.States a).bind fun b =>
 (R2 K x0 b).bind fun c =>
 bif (!c) then
 some false
 else
 H1 K k (IntKind.i64.wrap (a + (1:Int))) x0
 else
 some true
def Wt (K : Nat) : Nat → Int → aAu → Option Bool
 | 0 => fun _ _ => none
 | k + 1 => fun b x0 =>
 bif (decide (b < (x0.Counts.length : Int))) then
 (X4 x0.Counts b).bind fun a =>
 bif (decide ((Zb.get a (0:Int)) < (1:Int))) then
 H2 K
 else
 bif (decide ((Zb.get a (0:Int)) > (Zb.get a (1:Int)))) then
 H2 K
 else
 bif (decide ((Zb.get a (1:Int)) < (2:Int))) then
 H2 K
 else
 bif (decide ((Zb.get a (1:Int)) > (4096:Int))) then
 H2 K
 else
 Wt K k (IntKind.i64.wrap (b + (1:Int))) x0
 else
 H1 K K (0:Int) x0
def Nz (K : Nat) (x0 : aAu) : Option Bool :=
 (Ja K x0.Split).bind fun b =>
 bif (!b) then
 Xr K
 else
 bif (decide ((x0.Counts.length : Int) > (512:Int))) then
 Xr K
 else
 bif (decide ((x0.States.length : Int) < (1:Int))) then
 Xr K
 else
 bif (decide ((x0.States.length : Int) > (256:Int))) then
 Xr K
 else
 (X4 x0.States (0:Int)).bind fun a =>
 bif (decide ((a.L.length : Int) > (0:Int))) then
 Xr K
 else
 bif (decide ((a.R.length : Int) > (0:Int))) then
 Xr K
 else
 Wt K K (0:Int) x0
def Jo (K : Nat) : Nat → Int → (List Int) → Option (List Int)
 | 0 => fun _ _ => none
 | k + 1 => fun a b =>
 bif (decide (a > (127:Int))) then
 (ck (roomy 1 (b.length + [(IntKind.u8.wrap ((IntKind.u8.wrap (Int.tmod a (128:Int))) + (128:Int)))].length) = true)).bind fun _ =>
 Jo K k (IntKind.i64.wrap (Int.tdiv a (128:Int))) (b ++ [(IntKind.u8.wrap ((IntKind.u8.wrap (Int.tmod a (128:Int))) + (128:Int)))])
 else
 (ck (roomy 1 (b.length + [(IntKind.u8.wrap a)].length) = true)).bind fun _ =>
 some (b ++ [(IntKind.u8.wrap a)])
def I4 (K : Nat) (x0 : List Int) (x1 : Int) : Option (List Int) :=
 (ck (roomy 1 (([] : List Int).length + x0.length) = true)).bind fun _ =>
 Jo K K (if (0:Int) > x1 then (0:Int) else x1) (([] : List Int) ++ x0)
def Yn (K : Nat) (x0 : Yg) (x1 : Int) : Option Yg :=
 (I4 K ([] : List Int) x1).bind fun a =>
 (ck (roomy 1 (x0.b.length + a.length) = true)).bind fun _ =>
 some (Yg.mk (x0.b ++ a))
def Yh (K : Nat) : Nat → (List Int) → Int → (List Int) → Option Yg
 | 0 => fun _ _ _ => none
 | k + 1 => fun x1 a c =>
 bif (decide (a < (x1.length : Int))) then
 (X4 x1 a).bind fun d =>
 (Yn K (Yg.mk c) d).bind fun e =>
 Yh K k x1 (IntKind.i64.wrap (a + (1:Int))) e.b
 else
 some (Yg.mk c)
def J8 (K : Nat) (x0 : Yg) (x1 : List Int) : Option Yg :=
 (Yn K x0 (x1.length : Int)).bind fun a =>
 Yh K K x1 (0:Int) a.b
def Vf (K : Nat) (f : Int → Int → aAu → (List Int) → (List Int) → (List Int) → (List Int) → (List (List aMv)) → Option ((List Int) × Int)) : Nat → Int → Int → Int → aAu → (List Int) → (List Int) → (List Int) → (List Int) → (List (List aMv)) → Option ((List Int) × Int)
 | 0 => fun _ _ _ _ _ _ _ _ _ => none
 | k + 1 => fun g a c x0 i j l m d =>
 (X4 d a).bind fun n =>
 bif (decide (c < (n.length : Int))) then
 (X4 n c).bind fun e =>
 (Yn K (Yg.mk i) (IntKind.i64.wrap (e.To + (1:Int)))).bind fun o =>
 (ck (roomy 1 (o.b.length + e.Ops.length) = true)).bind fun _ =>
 Vf K f k g a (IntKind.i64.wrap (c + (1:Int))) x0 (o.b ++ e.Ops) j l m d
 else
 f g (IntKind.i64.wrap (a + (1:Int))) x0 i j l m d
def Xw (K : Nat) (d : Int → aAu → (List Int) → Option ((List Int) × Int)) : Nat → Int → Int → aAu → (List Int) → (List Int) → (List Int) → (List Int) → (List (List aMv)) → Option ((List Int) × Int)
 | 0 => fun _ _ _ _ _ _ _ _ => none
 | k + 1 => fun e a x0 f g i c j =>
 bif (decide (a < (c.length : Int))) then
 (X4 c a).bind fun l =>
 (Yn K (Yg.mk f) (IntKind.i64.wrap (l + (1:Int)))).bind fun m =>
 Vf K (Xw K d k) K e a (0:Int) x0 m.b g i c j
 else
 d (IntKind.i64.wrap (e + (1:Int))) x0 f
def Xl (K : Nat) : Nat → Int → aAu → (List Int) → Option ((List Int) × Int)
 | 0 => fun _ _ _ => none
 | k + 1 => fun b x0 c =>
 bif (decide (b < (x0.States.length : Int))) then
 (X4 x0.States b).bind fun a =>
 Xw K (Xl K k) K b (0:Int) x0 c a.L a.R a.Rule a.Next
 else
 some (c, (0:Int))
def Xx (K : Nat) : Nat → Int → aAu → (List Int) → Option ((List Int) × Int)
 | 0 => fun _ _ _ => none
 | k + 1 => fun a x0 c =>
 bif (decide (a < (x0.States.length : Int))) then
 (X4 x0.States a).bind fun d =>
 (J8 K (Yg.mk c) d.L).bind fun e =>
 (J8 K e d.R).bind fun f =>
 Xx K k (IntKind.i64.wrap (a + (1:Int))) x0 f.b
 else
 Xl K K (0:Int) x0 c
def Xy (K : Nat) : Nat → Int → aAu → (List Int) → Option ((List Int) × Int)
 | 0 => fun _ _ _ => none
 | k + 1 => fun a x0 c =>
 bif (decide (a < (x0.Counts.length : Int))) then
 (X4 x0.Counts a).bind fun d =>
 (Yn K (Yg.mk c) d.a0).bind fun e =>
 (Yn K e d.a1).bind fun f =>
 Xy K k (IntKind.i64.wrap (a + (1:Int))) x0 f.b
 else
 (Yn K (Yg.mk c) (x0.States.length : Int)).bind fun g =>
 Xx K K (0:Int) x0 g.b
def Vg (K : Nat) : Nat → Int → aAu → (List Int) → Option ((List Int) × Int)
 | 0 => fun _ _ _ => none
 | k + 1 => fun a x0 c =>
 bif (decide (a < (256:Int))) then
 (ck (0 ≤ a ∧ a < 256)).bind fun _ =>
 (ck (roomy 1 (c.length + [(Qx.get x0.Split.Of a)].length) = true)).bind fun _ =>
 Vg K k (IntKind.i64.wrap (a + (1:Int))) x0 (c ++ [(Qx.get x0.Split.Of a)])
 else
 (Yn K (Yg.mk c) (x0.Counts.length : Int)).bind fun d =>
 Xy K K (0:Int) x0 d.b
def Bm (K : Nat) (x0 : aAu) : Option ((List Int) × Int) :=
 (Nz K x0).bind fun a =>
 bif (!a) then
 some ([], (1:Int))
 else
 Vg K K (0:Int) x0 [(114:Int), (100:Int), (100:Int), (108:Int)]
def Vr (K : Nat) : Option Bool :=
 some false
def Vq (K : Nat) : Nat → (List Int) → Int → Int → Option Bool
 | 0 => fun _ _ _ => none
 | k + 1 => fun x0 x1 a =>
 bif (decide (a < (x0.length : Int))) then
 (X4 x0 a).bind fun b =>
 bif (decide (b < (0:Int))) then
 Vr K
 else
 bif (decide (b ≥ x1)) then
 Vr K
 else
 bif (decide (a > (0:Int))) then
 (X4 x0 (IntKind.i64.wrap (a - (1:Int)))).bind fun c =>
 bif (decide (c ≥ b)) then
 Vr K
 else
 Vq K k x0 x1 (IntKind.i64.wrap (a + (1:Int)))
 else
 Vq K k x0 x1 (IntKind.i64.wrap (a + (1:Int)))
 else
 some true
def W0 (K : Nat) (x0 : List Int) (x1 : Int) : Option Bool :=
 Vq K K x0 x1 (0:Int)
def U3 (K : Nat) : Option Bool :=
 some false
def Z5 (K : Nat) : Option Bool :=
 some false
def U2 (K : Nat) : Nat → Int → Xn → Option Bool
 | 0 => fun _ _ => none
 | k + 1 => fun b x0 =>
 bif (decide (b < (x0.P.length : Int))) then
 (X4 x0.P b).bind fun a =>
 bif (Zu.same a.S (Zu.mk 0 0 0 0)) then
 Z5 K
 else
 bif (decide (a.Lo < (1:Int))) then
 Z5 K
 else
 bif (decide (a.Lo > a.Hi)) then
 Z5 K
 else
 bif (decide (a.Hi > (4096:Int))) then
 Z5 K
 else
 bif (decide (a.Rule < (0:Int))) then
 Z5 K
 else
 bif (decide (a.Rule ≥ (512:Int))) then
 Z5 K
 else
 (W0 K a.Next (x0.P.length : Int)).bind fun c =>
 bif (!c) then
 Z5 K
 else
 U2 K k (IntKind.i64.wrap (b + (1:Int))) x0
 else
 some true
def Lr (K : Nat) (x0 : Xn) : Option Bool :=
 bif (decide ((x0.P.length : Int) > (512:Int))) then
 U3 K
 else
 (W0 K x0.First (x0.P.length : Int)).bind fun a =>
 bif (!a) then
 U3 K
 else
 U2 K K (0:Int) x0
def V5 (K : Nat) (x0 : Zu) (x1 : Int) : Option Bool :=
 (ck (0 ≤ (IntKind.u8.wrap (Int.tdiv x1 (64:Int))) ∧ (IntKind.u8.wrap (Int.tdiv x1 (64:Int))) < 4)).bind fun _ =>
 (ck (0 ≤ (Int.tmod x1 (64:Int)))).bind fun _ =>
 some ((Int.tmod (Int.fdiv (Zu.get x0 (IntKind.u8.wrap (Int.tdiv x1 (64:Int)))) (2 ^ min (Int.toNat (Int.tmod x1 (64:Int))) IntKind.u64.bits)) (2:Int)) == (1:Int))
def U4 (K : Nat) : Nat → (List Zu) → Int → Int → Int → Option Bool
 | 0 => fun _ _ _ _ => none
 | k + 1 => fun x0 x1 x2 a =>
 bif (decide (a < (x0.length : Int))) then
 (X4 x0 a).bind fun b =>
 (V5 K b x1).bind fun c =>
 (V5 K b x2).bind fun d =>
 bif (!(c == d)) then
 some false
 else
 U4 K k x0 x1 x2 (IntKind.i64.wrap (a + (1:Int)))
 else
 some true
def Ls (K : Nat) (x0 : List Zu) (x1 : Int) (x2 : Int) : Option Bool :=
 U4 K K x0 x1 x2 (0:Int)
def V0 (K : Nat) (b : (List Zu) → Int → Qx → Qx → (List Int) → Option aSp) (x0 : List Zu) (a : Int) (c : Int) (d : Qx) (e : Qx) (f : List Int) : Option aSp :=
 (ck (0 ≤ a ∧ a < 256)).bind fun _ =>
 b x0 (IntKind.i64.wrap (a + (1:Int))) d (Qx.set e a (IntKind.u8.wrap c)) f
def W1 (K : Nat) (d : (List Zu) → Int → Qx → Qx → (List Int) → Option aSp) : Nat → (List Zu) → Int → Int → Qx → Qx → (List Int) → Option aSp
 | 0 => fun _ _ _ _ _ _ => none
 | k + 1 => fun x0 b c e f a =>
 bif (decide (c < (a.length : Int))) then
 (X4 a c).bind fun g =>
 (Ls K x0 g (IntKind.u8.wrap b)).bind fun i =>
 bif (!i) then
 W1 K d k x0 b (IntKind.i64.wrap (c + (1:Int))) e f a
 else
 bif (c == (a.length : Int)) then
 (ck (roomy 1 (a.length + [(IntKind.u8.wrap b)].length) = true)).bind fun _ =>
 V0 K d x0 b c e f (a ++ [(IntKind.u8.wrap b)])
 else
 V0 K d x0 b c e f a
 else
 bif (c == (a.length : Int)) then
 (ck (roomy 1 (a.length + [(IntKind.u8.wrap b)].length) = true)).bind fun _ =>
 V0 K d x0 b c e f (a ++ [(IntKind.u8.wrap b)])
 else
 V0 K d x0 b c e f a
def Jb (K : Nat) : Nat → (List Zu) → Int → Qx → Qx → (List Int) → Option aSp
 | 0 => fun _ _ _ _ _ => none
 | k + 1 => fun x0 a d b c =>
 bif (decide (a < (256:Int))) then
 W1 K (Jb K k) K x0 a (0:Int) d b c
 else
 some (aSp.mk b (c.length : Int))
def C1 (K : Nat) (x0 : List Zu) : Option aSp :=
 Jb K K x0 (0:Int) (Qx.mk fun _ => 0) (Qx.mk fun _ => 0) []
def Ju (K : Nat) : Nat → Int → Int → Int → Qj → aSt → Option Int
 | 0 => fun _ _ _ _ _ => none
 | k + 1 => fun b x3 a x0 x1 =>
 bif (decide (a < (x1.R.length : Int))) then
 (X4 x1.R a).bind fun c =>
 (X4 x0.number x3).bind fun d =>
 bif (c == d) then
 some (Int.tmod b (3:Int))
 else
 Ju K k (IntKind.i64.wrap (Int.tdiv b (3:Int))) x3 (IntKind.i64.wrap (a + (1:Int))) x0 x1
 else
 some (-1:Int)
def Hp (K : Nat) (x0 : Qj) (x1 : aSt) (x2 : Int) (x3 : Int) : Option Int :=
 Ju K K x2 x3 (0:Int) x0 x1
def G0 (K : Nat) (x0 : Qj) (x1 : aSt) (x2 : Int) (x3 : Int) : Option Bool :=
 (Hp K x0 x1 x2 x3).bind fun a =>
 some (a != (0:Int))
def Wh (K : Nat) (a : Int → Int → Int → Qj → aSt → Option Int) (x2 : Int) (b : Int) (x1 : aSt) (d : Int) (e : Int) (f : Int) (g : Bool) (i : Int) (j : Bool) (l : Bool) (m : Bool) (x0 : Qj) (n : Zu) (o : Int) (p : Int) (c : Int) (q : Bool) (r : List Int) : Option Int :=
 a x2 c (IntKind.i64.wrap (b + (1:Int))) x0 x1
def Ya (K : Nat) : Nat → Int → Int → Int → Qj → aSt → Option Int
 | 0 => fun _ _ _ _ _ => none
 | k + 1 => fun x2 b c x0 x1 =>
 bif (decide (c < (x1.L.length : Int))) then
 (X4 x1.L c).bind fun d =>
 (X4 x0.g.P d).bind fun a =>
 bif a.Last then
 (G0 K x0 x1 x2 d).bind fun e =>
 bif e then
 bif (decide (b < (0:Int))) then
 Wh K (Ya K k) x2 c x1 c d d e b (decide (b < (0:Int))) (decide (b < (0:Int))) true x0 a.S a.Lo a.Hi a.Rule a.Last a.Next
 else
 bif (decide (a.Rule < b)) then
 Wh K (Ya K k) x2 c x1 c d d e b (decide (b < (0:Int))) (decide (b < (0:Int))) (decide (a.Rule < b)) x0 a.S a.Lo a.Hi a.Rule a.Last a.Next
 else
 Ya K k x2 b (IntKind.i64.wrap (c + (1:Int))) x0 x1
 else
 Ya K k x2 b (IntKind.i64.wrap (c + (1:Int))) x0 x1
 else
 Ya K k x2 b (IntKind.i64.wrap (c + (1:Int))) x0 x1
 else
 some b
def Bq (K : Nat) (x0 : Qj) (x1 : aSt) (x2 : Int) : Option Int :=
 Ya K K x2 (-1:Int) (0:Int) x0 x1
def K5 (K : Nat) (x0 : Zu) (x1 : Int) : Option Zu :=
 (V5 K x0 x1).bind fun a =>
 bif (!a) then
 (ck (0 ≤ (IntKind.u8.wrap (Int.tdiv x1 (64:Int))) ∧ (IntKind.u8.wrap (Int.tdiv x1 (64:Int))) < 4)).bind fun _ =>
 (ck (0 ≤ (Int.tmod x1 (64:Int)))).bind fun _ =>
 some (Zu.set x0 (IntKind.u8.wrap (Int.tdiv x1 (64:Int))) (IntKind.u64.wrap ((Zu.get x0 (IntKind.u8.wrap (Int.tdiv x1 (64:Int)))) + (IntKind.u64.wrap ((1:Int) * 2 ^ min (Int.toNat (Int.tmod x1 (64:Int))) IntKind.u64.bits)))))
 else
 some x0
def W2 (K : Nat) : Nat → (List Int) → Int → Zu → Zu → Option Zu
 | 0 => fun _ _ _ _ => none
 | k + 1 => fun x0 a c b =>
 bif (decide (a < (x0.length : Int))) then
 (X4 x0 a).bind fun d =>
 (K5 K b d).bind fun e =>
 W2 K k x0 (IntKind.i64.wrap (a + (1:Int))) c e
 else
 some b
def C2 (K : Nat) (x0 : List Int) : Option Zu :=
 W2 K K x0 (0:Int) (Zu.mk 0 0 0 0) (Zu.mk 0 0 0 0)
def Uk (K : Nat) : Nat → Int → Int → aSp → Zu → (List Int) → Option Zu
 | 0 => fun _ _ _ _ _ => none
 | k + 1 => fun x1 a x0 c b =>
 bif (decide (a < (256:Int))) then
 (ck (0 ≤ a ∧ a < 256)).bind fun _ =>
 bif ((IntKind.i64.wrap (Qx.get x0.Of a)) == x1) then
 (ck (roomy 1 (b.length + [(IntKind.u8.wrap a)].length) = true)).bind fun _ =>
 Uk K k x1 (IntKind.i64.wrap (a + (1:Int))) x0 c (b ++ [(IntKind.u8.wrap a)])
 else
 Uk K k x1 (IntKind.i64.wrap (a + (1:Int))) x0 c b
 else
 (C2 K b).bind fun d =>
 some d
def Bj (K : Nat) (x0 : aSp) (x1 : Int) : Option Zu :=
 Uk K K x1 (0:Int) x0 (Zu.mk 0 0 0 0) []
def V4 (K : Nat) : Nat → Int → Zu → (List Int) → Option (List Int)
 | 0 => fun _ _ _ => none
 | k + 1 => fun a x0 b =>
 bif (decide (a < (256:Int))) then
 (V5 K x0 (IntKind.u8.wrap a)).bind fun c =>
 bif c then
 (ck (roomy 1 (b.length + [(IntKind.u8.wrap a)].length) = true)).bind fun _ =>
 V4 K k (IntKind.i64.wrap (a + (1:Int))) x0 (b ++ [(IntKind.u8.wrap a)])
 else
 V4 K k (IntKind.i64.wrap (a + (1:Int))) x0 b
 else
 some b
def K7 (K : Nat) (x0 : Zu) : Option (List Int) :=
 V4 K K (0:Int) x0 []
def U5 (K : Nat) : Option (List Int) :=
 some []
def Vs (K : Nat) : Nat → Int → aSp → (List Int) → Option (List Int)
 | 0 => fun _ _ _ => none
 | k + 1 => fun b x0 a =>
 bif (decide (b < x0.Many)) then
 (Bj K x0 b).bind fun e =>
 (K7 K e).bind fun c =>
 bif ((c.length : Int) == (0:Int)) then
 (ck (roomy 1 (a.length + [(0:Int)].length) = true)).bind fun _ =>
 Vs K k (IntKind.i64.wrap (b + (1:Int))) x0 (a ++ [(0:Int)])
 else
 (X4 c (0:Int)).bind fun d =>
 (ck (roomy 1 (a.length + [d].length) = true)).bind fun _ =>
 Vs K k (IntKind.i64.wrap (b + (1:Int))) x0 (a ++ [d])
 else
 some a
def Lu (K : Nat) (x0 : aSp) : Option (List Int) :=
 bif (decide (x0.Many < (1:Int))) then
 U5 K
 else
 bif (decide (x0.Many > (256:Int))) then
 U5 K
 else
 Vs K K (0:Int) x0 []
def Vt (K : Nat) : Nat → Int → Int → Int → Qj → aSt → Option Bool
 | 0 => fun _ _ _ _ _ => none
 | k + 1 => fun x3 x4 a x0 x2 =>
 bif (decide (a < (x2.L.length : Int))) then
 (X4 x2.L a).bind fun b =>
 (G0 K x0 x2 x3 b).bind fun c =>
 bif c then
 (X4 x0.g.P b).bind fun d =>
 (r1_in K d.Next x4).bind fun e =>
 bif e then
 some true
 else
 Vt K k x3 x4 (IntKind.i64.wrap (a + (1:Int))) x0 x2
 else
 Vt K k x3 x4 (IntKind.i64.wrap (a + (1:Int))) x0 x2
 else
 some false
def L6 (K : Nat) (x0 : Qj) (x1 : Int) (x2 : aSt) (x3 : Int) (x4 : Int) : Option Bool :=
 bif (x1 == (0:Int)) then
 (r1_in K x0.g.First x4).bind fun a =>
 some a
 else
 Vt K K x3 x4 (0:Int) x0 x2
def Md (K : Nat) (x0 : Qj) (x1 : aSt) (x2 : Int) (x3 : Int) : Option Bool :=
 (Hp K x0 x1 x2 x3).bind fun a =>
 (r1_in K x1.L x3).bind fun b =>
 bif b then
 bif (a == (0:Int)) then
 some true
 else
 some (a == (2:Int))
 else
 some false
def Uo (K : Nat) (c : (List Int) → Int → Qj → Option (Int × Qj)) : Nat → (List Int) → Int → (List Int) → Bool → Int → Qj → Option (Int × Qj)
 | 0 => fun _ _ _ _ _ _ => none
 | k + 1 => fun x1 b d e a x0 =>
 bif (decide (a < (x1.length : Int))) then
 bif e then
 (X4 d a).bind fun f =>
 (X4 x1 a).bind fun g =>
 Uo K c k x1 b d (f == g) (IntKind.i64.wrap (a + (1:Int))) x0
 else
 Uo K c k x1 b d false (IntKind.i64.wrap (a + (1:Int))) x0
 else
 bif e then
 some (b, x0)
 else
 c x1 (IntKind.i64.wrap (b + (1:Int))) x0
def Un (K : Nat) : Nat → (List Int) → Int → Qj → (List Int) → Option (Int × Qj)
 | 0 => fun _ _ _ _ => none
 | k + 1 => fun x1 c x0 b =>
 bif (decide (c < (x1.length : Int))) then
 (X4 x1 c).bind fun f =>
 (X4 x0.number f).bind fun d =>
 bif (decide (d ≥ (0:Int))) then
 (ck (roomy 8 (b.length + [d].length) = true)).bind fun _ =>
 Un K k x1 (IntKind.i64.wrap (c + (1:Int))) x0 (b ++ [d])
 else
 Un K k x1 (IntKind.i64.wrap (c + (1:Int))) x0 b
 else
 bif (decide ((b.length : Int) > (3:Int))) then
 some ((0:Int), (Qj.mk x0.g x0.number x0.a (110:Int)))
 else
 bif (decide ((x0.a.States.length : Int) ≥ (256:Int))) then
 some ((0:Int), (Qj.mk x0.g x0.number x0.a (3:Int)))
 else
 (ck (roomy 96 (x0.a.States.length + [(aSt.mk x1 b [] [])].length) = true)).bind fun _ =>
 some ((IntKind.i64.wrap (((x0.a.States ++ [(aSt.mk x1 b [] [])]).length : Int) - (1:Int))), (Qj.mk x0.g x0.number (aAu.mk x0.a.Split x0.a.Counts (x0.a.States ++ [(aSt.mk x1 b [] [])])) x0.e))
def Vl (K : Nat) : Nat → (List Int) → Int → Qj → Option (Int × Qj)
 | 0 => fun _ _ _ => none
 | k + 1 => fun x1 b x0 =>
 bif (decide (b < (x0.a.States.length : Int))) then
 (X4 x0.a.States b).bind fun c =>
 bif ((c.L.length : Int) == (x1.length : Int)) then
 Uo K (Vl K k) K x1 b c.L true (0:Int) x0
 else
 Vl K k x1 (IntKind.i64.wrap (b + (1:Int))) x0
 else
 Un K K x1 (0:Int) x0 []
def Bs (K : Nat) (x0 : Qj) (x1 : List Int) : Option (Int × Qj) :=
 Vl K K x1 (1:Int) x0
def Wi (K : Nat) (b : Int → Int → Int → Int → Qj → (List Int) → (List Int) → (List Int) → (List (List aMv)) → (List Int) → (List Int) → Option (aMv × Qj)) (x1 : Int) (x2 : Int) (c : Int) (d : Int) (l : Bool) (x0 : Qj) (e : List Int) (f : List Int) (g : List Int) (i : List (List aMv)) (j : List Int) (a : List Int) : Option (aMv × Qj) :=
 bif l then
 (ck (roomy 1 (a.length + [(1:Int)].length) = true)).bind fun _ =>
 b x1 x2 c (IntKind.i64.wrap (d + (1:Int))) x0 e f g i j (a ++ [(1:Int)])
 else
 (ck (roomy 1 (a.length + [(3:Int)].length) = true)).bind fun _ =>
 b x1 x2 c (IntKind.i64.wrap (d + (1:Int))) x0 e f g i j (a ++ [(3:Int)])
def Wj (K : Nat) (d : Int → Int → Int → Int → Qj → (List Int) → (List Int) → (List Int) → (List (List aMv)) → (List Int) → (List Int) → Option (aMv × Qj)) (x1 : Int) (x2 : Int) (e : Int) (a : Int) (m : Bool) (l : Bool) (x0 : Qj) (f : List Int) (g : List Int) (i : List Int) (j : List (List aMv)) (b : List Int) (c : List Int) : Option (aMv × Qj) :=
 (ck (roomy 8 (b.length + [a].length) = true)).bind fun _ =>
 (X4 x0.number a).bind fun n =>
 bif (decide (n < (0:Int))) then
 d x1 x2 e (IntKind.i64.wrap (a + (1:Int))) x0 f g i j (b ++ [a]) c
 else
 bif m then
 bif l then
 (ck (roomy 1 (c.length + [(2:Int)].length) = true)).bind fun _ =>
 d x1 x2 e (IntKind.i64.wrap (a + (1:Int))) x0 f g i j (b ++ [a]) (c ++ [(2:Int)])
 else
 Wi K d x1 x2 e a l x0 f g i j (b ++ [a]) c
 else
 Wi K d x1 x2 e a l x0 f g i j (b ++ [a]) c
def Yo (K : Nat) : Nat → Int → Int → Int → Int → Qj → (List Int) → (List Int) → (List Int) → (List (List aMv)) → (List Int) → (List Int) → Option (aMv × Qj)
 | 0 => fun _ _ _ _ _ _ _ _ _ _ _ => none
 | k + 1 => fun x1 x2 i a x0 b c d e f j =>
 bif (decide (a < (x0.g.P.length : Int))) then
 (X4 x0.g.P a).bind fun o =>
 (V5 K o.S i).bind fun p =>
 bif (!p) then
 Yo K k x1 x2 i (IntKind.i64.wrap (a + (1:Int))) x0 b c d e f j
 else
 (L6 K x0 x1 (aSt.mk b c d e) x2 a).bind fun l =>
 (Md K x0 (aSt.mk b c d e) x2 a).bind fun m =>
 bif (!l) then
 bif (!m) then
 Yo K k x1 x2 i (IntKind.i64.wrap (a + (1:Int))) x0 b c d e f j
 else
 Wj K (Yo K k) x1 x2 i a l m x0 b c d e f j
 else
 Wj K (Yo K k) x1 x2 i a l m x0 b c d e f j
 else
 bif ((f.length : Int) == (0:Int)) then
 some ((aMv.mk (-1:Int) []), x0)
 else
 (Bs K x0 f).bind fun n =>
 some ((aMv.mk n.1 j), n.2)
def Br (K : Nat) (x0 : Qj) (x1 : Int) (x2 : Int) (x3 : Int) : Option (aMv × Qj) :=
 (X4 x0.a.States x1).bind fun b =>
 (Lu K x0.a.Split).bind fun c =>
 (X4 c x3).bind fun d =>
 Yo K K x1 x2 d (0:Int) x0 b.L b.R b.Rule b.Next [] []
def Qaf (K : Nat) (m : Int → Int → Int → Qx → (List Zb) → (List aSt) → (List Int) → (List Jy) → Qx → Int → Int → (List Int) → (List Zb) → (List aSt) → (List Int) → (List (List aMv)) → Option (aAu × Int)) : Nat → Int → Int → Int → Int → Qx → (List Zb) → (List aSt) → (List Int) → (List Jy) → Qx → Int → Int → (List Int) → (List Zb) → (List aSt) → (List Int) → (List (List aMv)) → (List aMv) → Option (aAu × Int)
 | 0 => fun _ _ _ _ _ _ _ _ _ _ _ _ _ _ _ _ _ _ => none
 | k + 1 => fun d n f i o p q r s t j u v w y z l c =>
 bif (decide (i < j)) then
 (Br K (Qj.mk (Xn.mk r s) v (aAu.mk (aSp.mk t j) w y) u) d f i).bind fun b =>
 (ck (roomy 32 (c.length + [b.1].length) = true)).bind fun _ =>
 bif (b.2.e != (0:Int)) then
 some ((aAu.mk (aSp.mk (Qx.mk fun _ => 0) (0:Int)) [] []), b.2.e)
 else
 Qaf K m k d n f (IntKind.i64.wrap (i + (1:Int))) o p q b.2.g.First b.2.g.P b.2.a.Split.Of b.2.a.Split.Many b.2.e b.2.number b.2.a.Counts b.2.a.States z l (c ++ [b.1])
 else
 (ck (roomy 24 (l.length + [c].length) = true)).bind fun _ =>
 m d n (IntKind.i64.wrap (f + (1:Int))) o p q r s t j u v w y z (l ++ [c])
def R9 (K : Nat) (s : Int → Qx → (List Zb) → (List aSt) → (List Int) → (List Jy) → Qx → Int → Int → (List Int) → (List Zb) → (List aSt) → Option (aAu × Int)) : Nat → Int → Int → Int → Qx → (List Zb) → (List aSt) → (List Int) → (List Jy) → Qx → Int → Int → (List Int) → (List Zb) → (List aSt) → (List Int) → (List (List aMv)) → Option (aAu × Int)
 | 0 => fun _ _ _ _ _ _ _ _ _ _ _ _ _ _ _ _ => none
 | k + 1 => fun n t q u v w c d f i j l m b p y =>
 bif (decide (q < t)) then
 (X4 b n).bind fun aa =>
 (Bq K (Qj.mk (Xn.mk c d) l (aAu.mk (aSp.mk f i) m b) j) aa q).bind fun z =>
 (ck (roomy 8 (p.length + [z].length) = true)).bind fun _ =>
 Qaf K (R9 K s k) K n t q (0:Int) u v w ((Qj.mk (Xn.mk c d) l (aAu.mk (aSp.mk f i) m b) j).g.First) ((Qj.mk (Xn.mk c d) l (aAu.mk (aSp.mk f i) m b) j).g.P) ((Qj.mk (Xn.mk c d) l (aAu.mk (aSp.mk f i) m b) j).a.Split.Of) ((Qj.mk (Xn.mk c d) l (aAu.mk (aSp.mk f i) m b) j).a.Split.Many) ((Qj.mk (Xn.mk c d) l (aAu.mk (aSp.mk f i) m b) j).e) ((Qj.mk (Xn.mk c d) l (aAu.mk (aSp.mk f i) m b) j).number) ((Qj.mk (Xn.mk c d) l (aAu.mk (aSp.mk f i) m b) j).a.Counts) ((Qj.mk (Xn.mk c d) l (aAu.mk (aSp.mk f i) m b) j).a.States) (p ++ [z]) y []
 else
 (X4 b n).bind fun o =>
 (X4 (List.set b (Int.toNat n) (aSt.mk o.L o.R p o.Next)) n).bind fun r =>
 s (IntKind.i64.wrap (n + (1:Int))) u v w c d f i j l m (List.set (List.set b (Int.toNat n) (aSt.mk o.L o.R p o.Next)) (Int.toNat n) (aSt.mk r.L r.R r.Rule y))
def Sa (K : Nat) : Nat → Int → Qx → (List Zb) → (List aSt) → (List Int) → (List Jy) → Qx → Int → Int → (List Int) → (List Zb) → (List aSt) → Option (aAu × Int)
 | 0 => fun _ _ _ _ _ _ _ _ _ _ _ _ => none
 | k + 1 => fun b f g i j l c d m n e a =>
 bif (decide (b < (a.length : Int))) then
 (X4 a b).bind fun o =>
 (Mx K (o.R.length : Int)).bind fun p =>
 R9 K (Sa K k) K b p (0:Int) f g i j l c d m n e a [] []
 else
 some ((aAu.mk (aSp.mk c d) e a), (0:Int))
def Sb (K : Nat) : Nat → Int → Xn → Qx → (List Zb) → (List aSt) → Qx → (List Int) → (List Zb) → (List aSt) → (List Zu) → Option (aAu × Int)
 | 0 => fun _ _ _ _ _ _ _ _ _ _ => none
 | k + 1 => fun d x0 f g i j c b l e =>
 bif (decide (d < (x0.P.length : Int))) then
 (X4 x0.P d).bind fun a =>
 (ck (roomy 32 (e.length + [a.S].length) = true)).bind fun _ =>
 bif (decide (a.Hi > (1:Int))) then
 (ck (roomy 8 (c.length + [(b.length : Int)].length) = true)).bind fun _ =>
 (ck (roomy 16 (b.length + [(Zb.mk a.Lo a.Hi)].length) = true)).bind fun _ =>
 Sb K k (IntKind.i64.wrap (d + (1:Int))) x0 f g i j (c ++ [(b.length : Int)]) (b ++ [(Zb.mk a.Lo a.Hi)]) l (e ++ [a.S])
 else
 (ck (roomy 8 (c.length + [(-1:Int)].length) = true)).bind fun _ =>
 Sb K k (IntKind.i64.wrap (d + (1:Int))) x0 f g i j (c ++ [(-1:Int)]) b l (e ++ [a.S])
 else
 (C1 K e).bind fun m =>
 Sa K K (0:Int) f g i x0.First x0.P m.Of m.Many (0:Int) c b [(aSt.mk [] [] [] [])]
def r1_Of (K : Nat) (x0 : Xn) : Option (aAu × Int) :=
 (Lr K x0).bind fun a =>
 bif (!a) then
 some ((aAu.mk (aSp.mk (Qx.mk fun _ => 0) (0:Int)) [] []), (1:Int))
 else
 Sb K K (0:Int) x0 (Qx.mk fun _ => 0) [] [] (Qx.mk fun _ => 0) [] [] [] []
def Sd (K : Nat) : Option Bool :=
 (r1_Of K (Xn.mk [] [])).bind fun b =>
 (M3 K b.1).bind fun a =>
 bif (a.2 == (0:Int)) then
 bif ((a.1.length : Int) == (266:Int)) then
 (ck (0 ≤ (4:Int) ∧ 0 ≤ (Int.toNat (4:Int)) ∧ (Int.toNat (4:Int)) ≤ a.1.length)).bind fun _ =>
 bif ((ofBytes ((a.1.take (Int.toNat (4:Int))).drop 0)).toList == (⟨#[114, 100, 100, 108]⟩ : ByteArray).toList) then
 (ck (0 ≤ (260:Int) ∧ (Int.toNat (260:Int)) ≤ a.1.length ∧ a.1.length ≤ a.1.length)).bind fun _ =>
 bif ((ofBytes ((a.1.take a.1.length).drop (Int.toNat (260:Int)))).toList == (⟨#[0, 1, 0, 0, 0, 0]⟩ : ByteArray).toList) then
 (Dk K ([] : List Int) (300:Int)).bind fun c =>
 some ((ofBytes c).toList == (⟨#[172, 2]⟩ : ByteArray).toList)
 else
 some false
 else
 some false
 else
 some false
 else
 some false
def J9 (K : Nat) : Nat → (List Int) → (List Int) → Int → Option Bool
 | 0 => fun _ _ _ => none
 | k + 1 => fun x0 x1 a =>
 bif (decide (a < (x0.length : Int))) then
 (X4 x0 a).bind fun b =>
 (X4 x1 a).bind fun c =>
 bif (b != c) then
 some false
 else
 J9 K k x0 x1 (IntKind.i64.wrap (a + (1:Int)))
 else
 some true
def P3 (K : Nat) (x0 : List Int) (x1 : List Int) : Option Bool :=
 bif ((x0.length : Int) != (x1.length : Int)) then
 some false
 else
 J9 K K x0 x1 (0:Int)
def Bo (K : Nat) (x0 : aMv) (x1 : aMv) : Option Bool :=
 bif (x0.To == x1.To) then
 some ((ofBytes x0.Ops).toList == (ofBytes x1.Ops).toList)
 else
 some false
def Je (K : Nat) : Option Bool :=
 some false
def Yy (K : Nat) (c : Int → aSt → aSt → Option Bool) : Nat → Int → Int → aSt → aSt → Option Bool
 | 0 => fun _ _ _ _ => none
 | k + 1 => fun a b x0 x1 =>
 (X4 x0.Next a).bind fun d =>
 bif (decide (b < (d.length : Int))) then
 (X4 d b).bind fun e =>
 (X4 x1.Next a).bind fun f =>
 (X4 f b).bind fun g =>
 (Bo K e g).bind fun i =>
 bif (!i) then
 some false
 else
 Yy K c k a (IntKind.i64.wrap (b + (1:Int))) x0 x1
 else
 c (IntKind.i64.wrap (a + (1:Int))) x0 x1
def Yz (K : Nat) : Nat → Int → aSt → aSt → Option Bool
 | 0 => fun _ _ _ => none
 | k + 1 => fun a x0 x1 =>
 bif (decide (a < (x0.Next.length : Int))) then
 (X4 x0.Next a).bind fun b =>
 (X4 x1.Next a).bind fun c =>
 bif ((b.length : Int) != (c.length : Int)) then
 some false
 else
 Yy K (Yz K k) K a (0:Int) x0 x1
 else
 some true
def Kr (K : Nat) (x0 : aSt) (x1 : aSt) : Option Bool :=
 (P3 K x0.L x1.L).bind fun a =>
 bif (!a) then
 Je K
 else
 (P3 K x0.R x1.R).bind fun b =>
 bif (!b) then
 Je K
 else
 (P3 K x0.Rule x1.Rule).bind fun c =>
 bif (!c) then
 Je K
 else
 bif ((x0.Next.length : Int) != (x1.Next.length : Int)) then
 Je K
 else
 Yz K K (0:Int) x0 x1
def J4 (K : Nat) : Option Bool :=
 some false
def Y1 (K : Nat) : Nat → Int → aAu → aAu → Option Bool
 | 0 => fun _ _ _ => none
 | k + 1 => fun a x0 x1 =>
 bif (decide (a < (x0.States.length : Int))) then
 (X4 x0.States a).bind fun b =>
 (X4 x1.States a).bind fun c =>
 (Kr K b c).bind fun d =>
 bif (!d) then
 some false
 else
 Y1 K k (IntKind.i64.wrap (a + (1:Int))) x0 x1
 else
 some true
def G3 (K : Nat) (x0 : aAu) (x1 : aAu) : Option Bool :=
 bif (!(([Qx.list 256 x0.Split.Of, [x0.Split.Many]] : List (List Int)) == [Qx.list 256 x1.Split.Of, [x1.Split.Many]])) then
 J4 K
 else
 bif ((x0.States.length : Int) != (x1.States.length : Int)) then
 J4 K
 else
 bif ((x0.Counts.length : Int) != (x1.Counts.length : Int)) then
 J4 K
 else
 Y1 K K (0:Int) x0 x1
def Wa (K : Nat) : Nat → Int → aAu → aAu → Option Bool
 | 0 => fun _ _ _ => none
 | k + 1 => fun a x0 x1 =>
 bif (decide (a < (x0.Counts.length : Int))) then
 (X4 x0.Counts a).bind fun b =>
 (X4 x1.Counts a).bind fun c =>
 bif (!(Zb.same b c)) then
 some false
 else
 Wa K k (IntKind.i64.wrap (a + (1:Int))) x0 x1
 else
 some true
def P6 (K : Nat) (x0 : aAu) (x1 : aAu) : Option Bool :=
 (G3 K x0 x1).bind fun a =>
 bif (!a) then
 some false
 else
 Wa K K (0:Int) x0 x1
def strings_Repeat (K : Nat) (x0 : ByteArray) (x1 : Int) : Option ByteArray :=
 if 0 ≤ x1 ∧ x1 ≤ 9223372036854775807 ∧ x0.size * Int.toNat x1 ≤ 140737488355328 then some (repS x0 x1) else none
def Wg (K : Nat) (x0 : tbr) (x1 : Int) : Option (ByteArray × tbr) :=
 bif (decide (x1 > (x0.b.size : Int))) then
 (strings_Repeat K (⟨#[0]⟩ : ByteArray) x1).bind fun a =>
 some (a, (tbr.mk (⟨#[]⟩ : ByteArray) true))
 else
 (ck (0 ≤ x1 ∧ 0 ≤ (Int.toNat x1) ∧ (Int.toNat x1) ≤ x0.b.size)).bind fun _ =>
 (ck (0 ≤ x1 ∧ (Int.toNat x1) ≤ x0.b.size ∧ x0.b.size ≤ x0.b.size)).bind fun _ =>
 some ((x0.b.extract 0 (Int.toNat x1)), (tbr.mk (x0.b.extract (Int.toNat x1) x0.b.size) x0.bad))
def Xh (K : Nat) : Nat → (List Int) → Int → Int → Option Int
 | 0 => fun _ _ _ => none
 | k + 1 => fun x0 a b =>
 bif (decide (b < (x0.length : Int))) then
 (X4 x0 b).bind fun c =>
 Xh K k x0 (if c > a then c else a) (IntKind.i64.wrap (b + (1:Int)))
 else
 some a
def J0 (K : Nat) (x0 : List Int) : Option Int :=
 bif (decide ((x0.length : Int) < (1:Int))) then
 none
 else
 (X4 x0 (0:Int)).bind fun a =>
 Xh K K x0 a (1:Int)
def Dj (K : Nat) (x0 : tbr) : Option (aSp × tbr) :=
 (Wg K x0 (256:Int)).bind fun a =>
 (ck (a.1.size ≤ 256)).bind fun _ =>
 (J0 K (Qx.list 256 (Qx.copyS (Qx.mk fun _ => 0) a.1))).bind fun b =>
 some ((aSp.mk (Qx.copyS (Qx.mk fun _ => 0) a.1) (IntKind.i64.wrap ((IntKind.i64.wrap b) + (1:Int)))), a.2)
def H6 (K : Nat) (a : Int) (b : ByteArray) (c : Bool) : Option (Int × tbr) :=
 some (a, (tbr.mk b c))
def H5 (K : Nat) : Nat → Int → Int → ByteArray → Bool → Option (Int × tbr)
 | 0 => fun _ _ _ _ => none
 | k + 1 => fun d c e f =>
 bif (decide (c < (3:Int))) then
 (Wg K (tbr.mk e f) (1:Int)).bind fun a =>
 (ck (0 ≤ (0:Int) ∧ (0:Int) < a.1.size)).bind fun _ =>
 (ck (0 ≤ (IntKind.i64.wrap ((7:Int) * c)))).bind fun _ =>
 bif (decide ((bt a.1 (0:Int)) < (128:Int))) then
 bif a.2.bad then
 H6 K (bits .or .i64 d (IntKind.i64.wrap ((IntKind.i64.wrap (bits .andNot .u8 (bt a.1 (0:Int)) (128:Int))) * 2 ^ min (Int.toNat (IntKind.i64.wrap ((7:Int) * c))) IntKind.i64.bits))) a.2.b true
 else
 bif ((bt a.1 (0:Int)) == (0:Int)) then
 H6 K (bits .or .i64 d (IntKind.i64.wrap ((IntKind.i64.wrap (bits .andNot .u8 (bt a.1 (0:Int)) (128:Int))) * 2 ^ min (Int.toNat (IntKind.i64.wrap ((7:Int) * c))) IntKind.i64.bits))) a.2.b (decide (c > (0:Int)))
 else
 H6 K (bits .or .i64 d (IntKind.i64.wrap ((IntKind.i64.wrap (bits .andNot .u8 (bt a.1 (0:Int)) (128:Int))) * 2 ^ min (Int.toNat (IntKind.i64.wrap ((7:Int) * c))) IntKind.i64.bits))) a.2.b false
 else
 H5 K k (bits .or .i64 d (IntKind.i64.wrap ((IntKind.i64.wrap (bits .andNot .u8 (bt a.1 (0:Int)) (128:Int))) * 2 ^ min (Int.toNat (IntKind.i64.wrap ((7:Int) * c))) IntKind.i64.bits))) (IntKind.i64.wrap (c + (1:Int))) a.2.b a.2.bad
 else
 some ((0:Int), (tbr.mk e true))
def K0 (K : Nat) (x0 : tbr) : Option (Int × tbr) :=
 H5 K K (0:Int) (0:Int) x0.b x0.bad
def M7 (K : Nat) (x0c0 : aSp) (x0c1 : List Zb) (x0c2 : List (Bool × aSt)) (x1_p : tbr) : Option ((List Zb) × tbr) :=
 (K0 K x1_p).bind fun a =>
 (K0 K a.2).bind fun b =>
 (ck (roomy 16 (x0c1.length + [(Zb.mk a.1 b.1)].length) = true)).bind fun _ =>
 some ((x0c1 ++ [(Zb.mk a.1 b.1)]), b.2)
def Cf (K : Nat) (a : ByteArray) (b : Bool) (x2c0c0 : aSp) (c : List Zb) (x2c0c2 : List (Bool × aSt)) : Option (tbr × (List Zb)) :=
 some ((tbr.mk a b), c)
def Vy (K : Nat) : Nat → Int → Int → ByteArray → Bool → aSp → (List Zb) → (List (Bool × aSt)) → Option (tbr × (List Zb))
 | 0 => fun _ _ _ _ _ _ _ => none
 | k + 1 => fun x1 f c a x2c0c0 d x2c0c2 =>
 bif (decide (f < x1)) then
 bif (!a) then
 (M7 K x2c0c0 d x2c0c2 (tbr.mk c a)).bind fun e =>
 Vy K k x1 (IntKind.i64.wrap (f + (1:Int))) e.2.b e.2.bad x2c0c0 e.1 x2c0c2
 else
 Cf K c a x2c0c0 d x2c0c2
 else
 Cf K c a x2c0c0 d x2c0c2
def Ij (K : Nat) (x0 : tbr) (x1 : Int) (x2c0c0 : aSp) (x2c0c1 : List Zb) (x2c0c2 : List (Bool × aSt)) : Option (tbr × (List Zb)) :=
 Vy K K x1 (0:Int) x0.b x0.bad x2c0c0 x2c0c1 x2c0c2
def Ns (K : Nat) (x0 : List Int) (x1_p : tbr) : Option ((List Int) × tbr) :=
 (K0 K x1_p).bind fun a =>
 (ck (roomy 8 (x0.length + [a.1].length) = true)).bind fun _ =>
 some ((x0 ++ [a.1]), a.2)
def Gp (K : Nat) (a : ByteArray) (b : Bool) (c : List Int) : Option (tbr × (List Int)) :=
 some ((tbr.mk a b), c)
def Yx (K : Nat) : Nat → Int → Int → ByteArray → Bool → (List Int) → Option (tbr × (List Int))
 | 0 => fun _ _ _ _ _ => none
 | k + 1 => fun x1 f c a d =>
 bif (decide (f < x1)) then
 bif (!a) then
 (Ns K d (tbr.mk c a)).bind fun e =>
 Yx K k x1 (IntKind.i64.wrap (f + (1:Int))) e.2.b e.2.bad e.1
 else
 Gp K c a d
 else
 Gp K c a d
def Cg (K : Nat) (x0 : tbr) (x1 : Int) (x2c0 : List Int) : Option (tbr × (List Int)) :=
 Yx K K x1 (0:Int) x0.b x0.bad x2c0
def Nt (K : Nat) (x0 : tbr) : Option ((List Int) × tbr) :=
 (K0 K x0).bind fun a =>
 (Cg K a.2 a.1 []).bind fun b =>
 some (b.2, b.1)
def M6 (K : Nat) (x0c0 : aSp) (x0c1 : List Zb) (x0c2 : List (Bool × aSt)) (x1_p : tbr) : Option ((List (Bool × aSt)) × tbr) :=
 (Nt K x1_p).bind fun a =>
 (Nt K a.2).bind fun b =>
 (ck (roomy 96 (x0c2.length + [(false, (aSt.mk a.1 b.1 [] []))].length) = true)).bind fun _ =>
 some ((x0c2 ++ [(false, (aSt.mk a.1 b.1 [] []))]), b.2)
def Gq (K : Nat) (a : ByteArray) (b : Bool) (x2c0c0 : aSp) (x2c0c1 : List Zb) (c : List (Bool × aSt)) : Option (tbr × (List (Bool × aSt))) :=
 some ((tbr.mk a b), c)
def Xa (K : Nat) : Nat → Int → Int → ByteArray → Bool → aSp → (List Zb) → (List (Bool × aSt)) → Option (tbr × (List (Bool × aSt)))
 | 0 => fun _ _ _ _ _ _ _ => none
 | k + 1 => fun x1 f c a x2c0c0 x2c0c1 d =>
 bif (decide (f < x1)) then
 bif (!a) then
 (M6 K x2c0c0 x2c0c1 d (tbr.mk c a)).bind fun e =>
 Xa K k x1 (IntKind.i64.wrap (f + (1:Int))) e.2.b e.2.bad x2c0c0 x2c0c1 e.1
 else
 Gq K c a x2c0c0 x2c0c1 d
 else
 Gq K c a x2c0c0 x2c0c1 d
def Kk (K : Nat) (x0 : tbr) (x1 : Int) (x2c0c0 : aSp) (x2c0c1 : List Zb) (x2c0c2 : List (Bool × aSt)) : Option (tbr × (List (Bool × aSt))) :=
 Xa K K x1 (0:Int) x0.b x0.bad x2c0c0 x2c0c1 x2c0c2
def Rf (K : Nat) (x0 : tbr) (x1 : List (Bool × aSt)) (x1c9 : Int) (x1c7 : List Int) (x1c8 : List (List aMv)) : Option (aMv × tbr) :=
 (K0 K x0).bind fun a =>
 bif (decide ((IntKind.i64.wrap (a.1 - (1:Int))) ≥ (x1.length : Int))) then
 some ((aMv.mk (IntKind.i64.wrap (a.1 - (1:Int))) []), (tbr.mk a.2.b true))
 else
 bif (decide ((IntKind.i64.wrap (a.1 - (1:Int))) ≥ (0:Int))) then
 (X4 x1 (IntKind.i64.wrap (a.1 - (1:Int)))).bind fun d =>
 (Wg K a.2 (d.2.R.length : Int)).bind fun c =>
 (ck (c.1.size ≤ 140737488355328)).bind fun _ =>
 some ((aMv.mk (IntKind.i64.wrap (a.1 - (1:Int))) (Z3 c.1)), c.2)
 else
 some ((aMv.mk (IntKind.i64.wrap (a.1 - (1:Int))) []), a.2)
def Mr (K : Nat) (x0 : List aMv) (x1_p : tbr) (x2c0 : aSp) (x2c1 : List Zb) (x2c2 : List (Bool × aSt)) (x2c2c9 : Int) (x2c2c7 : List Int) (x2c2c8 : List (List aMv)) : Option ((List aMv) × tbr) :=
 (Rf K x1_p x2c2 x2c2c9 x2c2c7 x2c2c8).bind fun a =>
 (ck (roomy 32 (x0.length + [a.1].length) = true)).bind fun _ =>
 some ((x0 ++ [a.1]), a.2)
def Gm (K : Nat) (a : ByteArray) (b : Bool) (c : List aMv) (x2c2c0 : aSp) (x2c2c1 : List Zb) (x2c2c2 : List (Bool × aSt)) (x2c2c2c9 : Int) (x2c2c2c7 : List Int) (x2c2c2c8 : List (List aMv)) : Option (tbr × (List aMv)) :=
 some ((tbr.mk a b), c)
def Y8 (K : Nat) : Nat → Int → Int → ByteArray → Bool → (List aMv) → aSp → (List Zb) → (List (Bool × aSt)) → Int → (List Int) → (List (List aMv)) → Option (tbr × (List aMv))
 | 0 => fun _ _ _ _ _ _ _ _ _ _ _ => none
 | k + 1 => fun x1 f c a d x2c2c0 x2c2c1 x2c2c2 x2c2c2c9 x2c2c2c7 x2c2c2c8 =>
 bif (decide (f < x1)) then
 bif (!a) then
 (Mr K d (tbr.mk c a) x2c2c0 x2c2c1 x2c2c2 x2c2c2c9 x2c2c2c7 x2c2c2c8).bind fun e =>
 Y8 K k x1 (IntKind.i64.wrap (f + (1:Int))) e.2.b e.2.bad e.1 x2c2c0 x2c2c1 x2c2c2 x2c2c2c9 x2c2c2c7 x2c2c2c8
 else
 Gm K c a d x2c2c0 x2c2c1 x2c2c2 x2c2c2c9 x2c2c2c7 x2c2c2c8
 else
 Gm K c a d x2c2c0 x2c2c1 x2c2c2 x2c2c2c9 x2c2c2c7 x2c2c2c8
def Kj (K : Nat) (x0 : tbr) (x1 : Int) (x2c0 : List aMv) (x2c2c0 : aSp) (x2c2c1 : List Zb) (x2c2c2 : List (Bool × aSt)) (x2c2c2c9 : Int) (x2c2c2c7 : List Int) (x2c2c2c8 : List (List aMv)) : Option (tbr × (List aMv)) :=
 Y8 K K x1 (0:Int) x0.b x0.bad x2c0 x2c2c0 x2c2c1 x2c2c2 x2c2c2c9 x2c2c2c7 x2c2c2c8
def M5 (K : Nat) (x0_p : List (Bool × aSt)) (x0_pc9 : Int) (x0_pc7 : List Int) (x0_pc8 : List (List aMv)) (x1_p : tbr) (x2c0 : aSp) (x2c1 : List Zb) : Option ((List Int) × (List (List aMv)) × tbr) :=
 (X4 x0_p x0_pc9).bind fun c =>
 (K0 K x1_p).bind fun a =>
 (ck (roomy 8 (x0_pc7.length + [(IntKind.i64.wrap (a.1 - (1:Int)))].length) = true)).bind fun _ =>
 (Kj K a.2 x2c0.Many [] x2c0 x2c1 x0_p x0_pc9 (x0_pc7 ++ [(IntKind.i64.wrap (a.1 - (1:Int)))]) x0_pc8).bind fun b =>
 (ck (roomy 24 (x0_pc8.length + [b.2].length) = true)).bind fun _ =>
 some ((x0_pc7 ++ [(IntKind.i64.wrap (a.1 - (1:Int)))]), (x0_pc8 ++ [b.2]), b.1)
def Gn (K : Nat) (a : ByteArray) (b : Bool) (x2c0_pc9 : Int) (x2c0_p : List (Bool × aSt)) (c : List Int) (d : List (List aMv)) (x2c2c0 : aSp) (x2c2c1 : List Zb) : Option (tbr × (List Int) × (List (List aMv))) :=
 some ((tbr.mk a b), c, d)
def Y9 (K : Nat) : Nat → Int → Int → ByteArray → Bool → Int → (List (Bool × aSt)) → (List Int) → (List (List aMv)) → aSp → (List Zb) → Option (tbr × (List Int) × (List (List aMv)))
 | 0 => fun _ _ _ _ _ _ _ _ _ _ => none
 | k + 1 => fun x1 g d a x2c0_pc9 x2c0_p e f x2c2c0 x2c2c1 =>
 bif (decide (g < x1)) then
 bif (!a) then
 (M5 K x2c0_p x2c0_pc9 e f (tbr.mk d a) x2c2c0 x2c2c1).bind fun c =>
 Y9 K k x1 (IntKind.i64.wrap (g + (1:Int))) c.2.2.b c.2.2.bad x2c0_pc9 x2c0_p c.1 c.2.1 x2c2c0 x2c2c1
 else
 Gn K d a x2c0_pc9 x2c0_p e f x2c2c0 x2c2c1
 else
 Gn K d a x2c0_pc9 x2c0_p e f x2c2c0 x2c2c1
def H4 (K : Nat) (x0 : tbr) (x1 : Int) (x2c0_p : List (Bool × aSt)) (x2c0_pc9 : Int) (x2c0_pc7 : List Int) (x2c0_pc8 : List (List aMv)) (x2c2c0 : aSp) (x2c2c1 : List Zb) : Option (tbr × (List Int) × (List (List aMv))) :=
 Y9 K K x1 (0:Int) x0.b x0.bad x2c0_pc9 x2c0_p x2c0_pc7 x2c0_pc8 x2c2c0 x2c2c1
def Kn (K : Nat) (a : Qx) (b : List aSt) : Option (aAu × Int) :=
 some ((aAu.mk (aSp.mk (Qx.mk fun _ => 0) (0:Int)) [] []), (6:Int))
def X9 (K : Nat) : Nat → Int → Int → Qx → ByteArray → Bool → Qx → Int → (List Zb) → (List (Bool × aSt)) → Option (aAu × Int)
 | 0 => fun _ _ _ _ _ _ _ _ _ => none
 | k + 1 => fun l c g m n d e i f =>
 bif (decide (c < l)) then
 (X4 f c).bind fun a =>
 (ck (a.1 = false)).bind fun _ =>
 (Gg K (a.2.R.length : Int)).bind fun o =>
 (H4 K (tbr.mk m n) o f c a.2.Rule a.2.Next (aSp.mk d e) i).bind fun j =>
 X9 K k l (IntKind.i64.wrap (c + (1:Int))) g j.1.b j.1.bad ((aSp.mk d e).Of) ((aSp.mk d e).Many) i (List.set f (Int.toNat c) (true, (aSt.mk a.2.L a.2.R j.2.1 j.2.2)))
 else
 bif n then
 Kn K g (([] : List (Bool × aSt)).map Prod.snd)
 else
 bif (decide ((m.size : Int) > (0:Int))) then
 Kn K g (([] : List (Bool × aSt)).map Prod.snd)
 else
 (Gf K (aAu.mk (aSp.mk d e) i (f.map Prod.snd))).bind fun p =>
 bif (!p) then
 Kn K g (([] : List (Bool × aSt)).map Prod.snd)
 else
 some ((aAu.mk (aSp.mk d e) i (f.map Prod.snd)), (0:Int))
def Ip (K : Nat) (x0 : List Int) : Option (aAu × Int) :=
 (Wg K (tbr.mk (ofBytes x0) false) (4:Int)).bind fun e =>
 bif (!(e.1.toList == (⟨#[114, 100, 100, 108]⟩ : ByteArray).toList)) then
 some ((aAu.mk (aSp.mk (Qx.mk fun _ => 0) (0:Int)) [] []), (6:Int))
 else
 (Dj K e.2).bind fun a =>
 (K0 K a.2).bind fun f =>
 (Ij K f.2 f.1 a.1 [] ([] : List (Bool × aSt))).bind fun d =>
 (K0 K d.1).bind fun g =>
 (Kk K g.2 g.1 a.1 d.2 ([] : List (Bool × aSt))).bind fun c =>
 X9 K K (c.2.length : Int) (0:Int) (Qx.mk fun _ => 0) c.1.b c.1.bad a.1.Of a.1.Many d.2 c.2
def Kh (K : Nat) (x0 : r4r) (x1 : Int) : Option ((List Int) × r4r) :=
 bif (decide (x1 > (x0.b.length : Int))) then
 some ([], (r4r.mk x0.b true))
 else
 (ck (0 ≤ x1 ∧ 0 ≤ (Int.toNat x1) ∧ (Int.toNat x1) ≤ x0.b.length)).bind fun _ =>
 (ck (roomy 1 (([] : List Int).length + ((x0.b.take (Int.toNat x1)).drop 0).length) = true)).bind fun _ =>
 (ck (0 ≤ x1 ∧ (Int.toNat x1) ≤ x0.b.length ∧ x0.b.length ≤ x0.b.length)).bind fun _ =>
 some ((([] : List Int) ++ ((x0.b.take (Int.toNat x1)).drop 0)), (r4r.mk ((x0.b.take x0.b.length).drop (Int.toNat x1)) x0.bad))
def Nw (K : Nat) (x0 : r4r) : Option (Int × r4r) :=
 some ((0:Int), (r4r.mk x0.b true))
def H9 (K : Nat) : Nat → Int → Int → Int → r4r → Option (Int × r4r)
 | 0 => fun _ _ _ _ => none
 | k + 1 => fun e c a x0 =>
 bif (decide (a < (3:Int))) then
 bif (decide (a < (x0.b.length : Int))) then
 (X4 x0.b a).bind fun d =>
 bif (decide (d < (128:Int))) then
 (ck (0 ≤ (IntKind.i64.wrap (a + (1:Int))) ∧ (Int.toNat (IntKind.i64.wrap (a + (1:Int)))) ≤ x0.b.length ∧ x0.b.length ≤ x0.b.length)).bind fun _ =>
 some ((IntKind.i64.wrap (e + (IntKind.i64.wrap ((IntKind.i64.wrap (Int.tmod d (128:Int))) * c)))), (r4r.mk ((x0.b.take x0.b.length).drop (Int.toNat (IntKind.i64.wrap (a + (1:Int))))) x0.bad))
 else
 H9 K k (IntKind.i64.wrap (e + (IntKind.i64.wrap ((IntKind.i64.wrap (Int.tmod d (128:Int))) * c)))) (IntKind.i64.wrap (c * (128:Int))) (IntKind.i64.wrap (a + (1:Int))) x0
 else
 Nw K x0
 else
 Nw K x0
def Ma (K : Nat) (x0 : r4r) : Option (Int × r4r) :=
 H9 K K (0:Int) (1:Int) (0:Int) x0
def Es (K : Nat) (a : List Int) (b : List Int) (c : Bool) : Option ((List Int) × r4r) :=
 some (a, (r4r.mk b c))
def Uw (K : Nat) : Nat → Int → Int → (List Int) → Bool → (List Int) → Option ((List Int) × r4r)
 | 0 => fun _ _ _ _ _ => none
 | k + 1 => fun f g e a c =>
 bif (decide (g < f)) then
 bif (!a) then
 (Ma K (r4r.mk e a)).bind fun d =>
 (ck (roomy 8 (c.length + [d.1].length) = true)).bind fun _ =>
 Uw K k f (IntKind.i64.wrap (g + (1:Int))) d.2.b d.2.bad (c ++ [d.1])
 else
 Es K c e a
 else
 Es K c e a
def Nx (K : Nat) (x0 : r4r) : Option ((List Int) × r4r) :=
 (Ma K x0).bind fun a =>
 Uw K K a.1 (0:Int) a.2.b a.2.bad []
def Ul (K : Nat) (d : Int → Int → Int → Bool → Bool → (List Int) → Bool → (List (Bool × aSt)) → (List Int) → (List Int) → (List Int) → (List (List aMv)) → (List Int) → (List Int) → (List Int) → (List (List aMv)) → (List aMv) → Option (aSt × r4r)) (x3 : Int) (e : Int) (f : Int) (g : Bool) (i : Bool) (u : Bool) (v : Bool) (j : List Int) (l : Bool) (x1 : List (Bool × aSt)) (m : List Int) (n : List Int) (o : List Int) (p : List (List aMv)) (q : List Int) (r : List Int) (s : List Int) (t : List (List aMv)) (a : List aMv) (b : Int) (c : List Int) : Option (aSt × r4r) :=
 (ck (roomy 32 (a.length + [(aMv.mk b c)].length) = true)).bind fun _ =>
 d x3 e (IntKind.i64.wrap (f + (1:Int))) g i j l x1 m n o p q r s t (a ++ [(aMv.mk b c)])
def Wm (K : Nat) (a : Int → Int → Int → Bool → Bool → (List Int) → Bool → (List (Bool × aSt)) → (List Int) → (List Int) → (List Int) → (List (List aMv)) → (List Int) → (List Int) → (List Int) → (List (List aMv)) → (List aMv) → Option (aSt × r4r)) (x3 : Int) (b : Int) (c : Int) (d : Bool) (e : Bool) (f : Bool) (g : Bool) (i : List Int) (j : Bool) (x1 : List (Bool × aSt)) (l : List Int) (m : List Int) (n : List Int) (o : List (List aMv)) (p : List Int) (q : List Int) (r : List Int) (s : List (List aMv)) (t : List aMv) (u : Int) : Option (aSt × r4r) :=
 Ul K a x3 b c d e f g i j x1 l m n o p q r s t u []
def Um (K : Nat) (d : Int → Int → Int → Bool → Bool → (List Int) → Bool → (List (Bool × aSt)) → (List Int) → (List Int) → (List Int) → (List (List aMv)) → (List Int) → (List Int) → (List Int) → (List (List aMv)) → (List aMv) → Option (aSt × r4r)) (x3 : Int) (e : Int) (f : Int) (g : Bool) (i : Bool) (j : Bool) (l : Bool) (m : List Int) (c : Bool) (x1 : List (Bool × aSt)) (n : List Int) (o : List Int) (p : List Int) (q : List (List aMv)) (r : List Int) (s : List Int) (t : List Int) (u : List (List aMv)) (v : List aMv) (a : Int) : Option (aSt × r4r) :=
 bif (decide (a ≥ (0:Int))) then
 bif (!c) then
 (X4 x1 a).bind fun y =>
 (Kh K (r4r.mk m c) (y.2.R.length : Int)).bind fun w =>
 Ul K d x3 e f g i j l w.2.b w.2.bad x1 n o p q r s t u v a w.1
 else
 Wm K d x3 e f g i j l m c x1 n o p q r s t u v a
 else
 Wm K d x3 e f g i j l m c x1 n o p q r s t u v a
def Ci (K : Nat) (c : Int → Int → (List Int) → Bool → (List (Bool × aSt)) → (List Int) → (List Int) → (List Int) → (List (List aMv)) → (List Int) → (List Int) → (List Int) → (List (List aMv)) → Option (aSt × r4r)) (x3 : Int) (d : Int) (p : Bool) (q : Bool) (e : List Int) (f : Bool) (x1 : List (Bool × aSt)) (g : List Int) (i : List Int) (j : List Int) (l : List (List aMv)) (m : List Int) (n : List Int) (o : List Int) (a : List (List aMv)) (b : List aMv) : Option (aSt × r4r) :=
 (ck (roomy 24 (a.length + [b].length) = true)).bind fun _ =>
 c x3 (IntKind.i64.wrap (d + (1:Int))) e f x1 g i j l m n o (a ++ [b])
def Y6 (K : Nat) (d : Int → Int → (List Int) → Bool → (List (Bool × aSt)) → (List Int) → (List Int) → (List Int) → (List (List aMv)) → (List Int) → (List Int) → (List Int) → (List (List aMv)) → Option (aSt × r4r)) : Nat → Int → Int → Int → Bool → Bool → (List Int) → Bool → (List (Bool × aSt)) → (List Int) → (List Int) → (List Int) → (List (List aMv)) → (List Int) → (List Int) → (List Int) → (List (List aMv)) → (List aMv) → Option (aSt × r4r)
 | 0 => fun _ _ _ _ _ _ _ _ _ _ _ _ _ _ _ _ _ => none
 | k + 1 => fun x3 e s f g t a x1 i j l m n o p q r =>
 bif (decide (s < x3)) then
 bif (!a) then
 (Ma K (r4r.mk t a)).bind fun c =>
 bif (decide ((IntKind.i64.wrap (c.1 - (1:Int))) ≥ (x1.length : Int))) then
 Um K (Y6 K d k) x3 e s f g a (!a) c.2.b true x1 i j l m n o p q r (IntKind.i64.wrap (c.1 - (1:Int)))
 else
 Um K (Y6 K d k) x3 e s f g a (!a) c.2.b c.2.bad x1 i j l m n o p q r (IntKind.i64.wrap (c.1 - (1:Int)))
 else
 Ci K d x3 e f g t a x1 i j l m n o p q r
 else
 Ci K d x3 e f g t a x1 i j l m n o p q r
def Cj (K : Nat) (g : List Int) (i : List Int) (j : List Int) (l : List (List aMv)) (a : List Int) (b : List Int) (c : List Int) (d : List (List aMv)) (e : List Int) (f : Bool) (x1 : List (Bool × aSt)) : Option (aSt × r4r) :=
 some ((aSt.mk a b c d), (r4r.mk e f))
def Xv (K : Nat) : Nat → Int → Int → (List Int) → Bool → (List (Bool × aSt)) → (List Int) → (List Int) → (List Int) → (List (List aMv)) → (List Int) → (List Int) → (List Int) → (List (List aMv)) → Option (aSt × r4r)
 | 0 => fun _ _ _ _ _ _ _ _ _ _ _ _ _ => none
 | k + 1 => fun x3 o f a x1 g i j l m c d n =>
 (Mx K (c.length : Int)).bind fun p =>
 bif (decide (o < p)) then
 bif (!a) then
 (Ma K (r4r.mk f a)).bind fun e =>
 (ck (roomy 8 (d.length + [(IntKind.i64.wrap (e.1 - (1:Int)))].length) = true)).bind fun _ =>
 Y6 K (Xv K k) K x3 o (0:Int) a (!a) e.2.b e.2.bad x1 g i j l m c (d ++ [(IntKind.i64.wrap (e.1 - (1:Int)))]) n []
 else
 Cj K g i j l m c d n f a x1
 else
 Cj K g i j l m c d n f a x1
def I2 (K : Nat) (x0 : r4r) (x1 : List (Bool × aSt)) (x2 : Int) (x3 : Int) : Option (aSt × r4r) :=
 (X4 x1 x2).bind fun a =>
 (ck (a.1 = false)).bind fun _ =>
 Xv K K x3 (0:Int) x0.b x0.bad x1 [] [] [] [] a.2.L a.2.R a.2.Rule a.2.Next
def Er (K : Nat) (g : Qx) (i : List Zb) (j : List (Bool × aSt)) (a : Qx) (b : Int) (c : List Zb) (d : List (Bool × aSt)) (e : List Int) (f : Bool) : Option (aAu × r4r) :=
 some ((aAu.mk (aSp.mk a b) c (d.map Prod.snd)), (r4r.mk e f))
def Ut (K : Nat) : Nat → Int → (List Int) → Bool → Qx → (List Zb) → (List (Bool × aSt)) → Qx → Int → (List Zb) → (List (Bool × aSt)) → Option (aAu × r4r)
 | 0 => fun _ _ _ _ _ _ _ _ _ _ => none
 | k + 1 => fun c f d g i j l e m a =>
 bif (decide (c < (a.length : Int))) then
 bif (!d) then
 (I2 K (r4r.mk f d) a c e).bind fun n =>
 (X4 a c).bind fun o =>
 Ut K k (IntKind.i64.wrap (c + (1:Int))) n.2.b n.2.bad g i j l e m (List.set a (Int.toNat c) (true, n.1))
 else
 Er K g i j l e m a f d
 else
 Er K g i j l e m a f d
def Lw (K : Nat) (a : List Int) (b : Bool) (c : Qx) (d : List Zb) (e : List (Bool × aSt)) (f : Qx) (g : Int) (i : List Zb) (j : List (Bool × aSt)) : Option (aAu × r4r) :=
 Ut K K (0:Int) a b c d e f g i j
def Uu (K : Nat) : Nat → Int → Int → (List Int) → Bool → Qx → (List Zb) → (List (Bool × aSt)) → Qx → Int → (List Zb) → (List (Bool × aSt)) → Option (aAu × r4r)
 | 0 => fun _ _ _ _ _ _ _ _ _ _ _ => none
 | k + 1 => fun o p e a f g i j l m c =>
 bif (decide (p < o)) then
 bif (!a) then
 (Nx K (r4r.mk e a)).bind fun n =>
 (Nx K n.2).bind fun d =>
 (ck (roomy 96 (c.length + [(false, (aSt.mk n.1 d.1 [] []))].length) = true)).bind fun _ =>
 Uu K k o (IntKind.i64.wrap (p + (1:Int))) d.2.b d.2.bad f g i j l m (c ++ [(false, (aSt.mk n.1 d.1 [] []))])
 else
 Lw K e a f g i j l m c
 else
 Lw K e a f g i j l m c
def Lx (K : Nat) (c : List Int) (d : Bool) (e : Qx) (f : List Zb) (g : List (Bool × aSt)) (i : Qx) (j : Int) (l : List Zb) (m : List (Bool × aSt)) : Option (aAu × r4r) :=
 (Ma K (r4r.mk c d)).bind fun a =>
 Uu K K a.1 (0:Int) a.2.b a.2.bad e f g i j l m
def Uv (K : Nat) : Nat → Int → Int → (List Int) → Bool → Qx → (List Zb) → (List (Bool × aSt)) → Qx → Int → (List Zb) → (List (Bool × aSt)) → Option (aAu × r4r)
 | 0 => fun _ _ _ _ _ _ _ _ _ _ _ => none
 | k + 1 => fun o p e a f g i j l c m =>
 bif (decide (p < o)) then
 bif (!a) then
 (Ma K (r4r.mk e a)).bind fun n =>
 (Ma K n.2).bind fun d =>
 (ck (roomy 16 (c.length + [(Zb.mk n.1 d.1)].length) = true)).bind fun _ =>
 Uv K k o (IntKind.i64.wrap (p + (1:Int))) d.2.b d.2.bad f g i j l (c ++ [(Zb.mk n.1 d.1)]) m
 else
 Lx K e a f g i j l c m
 else
 Lx K e a f g i j l c m
def Wo (K : Nat) (c : List Int) (d : Bool) (e : Qx) (f : List Zb) (g : List (Bool × aSt)) (i : Qx) (j : Int) (l : List Zb) (m : List (Bool × aSt)) : Option (aAu × r4r) :=
 (Ma K (r4r.mk c d)).bind fun a =>
 Uv K K a.1 (0:Int) a.2.b a.2.bad e f g i j l m
def Js (K : Nat) : Nat → (List Int) → Int → (List Int) → Bool → Qx → (List Zb) → (List (Bool × aSt)) → Qx → Int → (List Zb) → (List (Bool × aSt)) → Option (aAu × r4r)
 | 0 => fun _ _ _ _ _ _ _ _ _ _ _ => none
 | k + 1 => fun n a d b e f g i c j l =>
 bif (decide (a < (256:Int))) then
 bif (!b) then
 (X4 n (IntKind.i64.wrap (a + (4:Int)))).bind fun m =>
 (ck (0 ≤ a ∧ a < 256)).bind fun _ =>
 Js K k n (IntKind.i64.wrap (a + (1:Int))) d b e f g (Qx.set i a m) (if (IntKind.i64.wrap ((IntKind.i64.wrap m) + (1:Int))) > c then (IntKind.i64.wrap ((IntKind.i64.wrap m) + (1:Int))) else c) j l
 else
 Wo K d b e f g i c j l
 else
 Wo K d b e f g i c j l
def Nv (K : Nat) (x0 : r4r) : Option (aAu × r4r) :=
 (Kh K x0 (260:Int)).bind fun a =>
 Js K K a.1 (0:Int) a.2.b a.2.bad (Qx.mk fun _ => 0) [] [] (Qx.mk fun _ => 0) (0:Int) [] []
def Ck (K : Nat) (a : Qx) : Option (aAu × Int) :=
 some ((aAu.mk (aSp.mk (Qx.mk fun _ => 0) (0:Int)) [] []), (6:Int))
def Dw (K : Nat) (x0 : List Int) : Option (aAu × Int) :=
 (Nv K (r4r.mk x0 false)).bind fun a =>
 bif a.2.bad then
 some ((aAu.mk (aSp.mk (Qx.mk fun _ => 0) (0:Int)) [] []), (6:Int))
 else
 (Bm K a.1).bind fun b =>
 bif (b.2 != (0:Int)) then
 Ck K (Qx.mk fun _ => 0)
 else
 bif (!((ofBytes b.1).toList == (ofBytes x0).toList)) then
 Ck K (Qx.mk fun _ => 0)
 else
 some (a.1, (0:Int))
def Jh (K : Nat) (x0 : List Int) : Option Bool :=
 (ck (0 ≤ (if (20000:Int) < (x0.length : Int) then (20000:Int) else (x0.length : Int)) ∧ 0 ≤ (Int.toNat (if (20000:Int) < (x0.length : Int) then (20000:Int) else (x0.length : Int))) ∧ (Int.toNat (if (20000:Int) < (x0.length : Int) then (20000:Int) else (x0.length : Int))) ≤ x0.length)).bind fun _ =>
 (Ip K ((x0.take (Int.toNat (if (20000:Int) < (x0.length : Int) then (20000:Int) else (x0.length : Int)))).drop 0)).bind fun a =>
 (Dw K ((x0.take (Int.toNat (if (20000:Int) < (x0.length : Int) then (20000:Int) else (x0.length : Int)))).drop 0)).bind fun b =>
 (Sd K).bind fun c =>
 bif c then
 (P6 K a.1 b.1).bind fun d =>
 bif d then
 some (a.2 == b.2)
 else
 some false
 else
 some false
end Go.Rv

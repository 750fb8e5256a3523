/- What each function of the program computes, as plain Lean: printed by a program of ours from the translation. -/
import Derived.Test.YtcmfaclkgdmpbaaGreatDoorRvDD
namespace Go.Rv
set_option linter.unusedVariables false
structure Q4 where
 Of : Q5
 Many : Int
abbrev Qh2 (x : Q4) : List DC := ((Q5.dc 256 .u8 x.Of) ++ (([.int .i64 x.Many] : List DC)))
structure Qd where
 To : Int
 Ops : List Int
 deriving DecidableEq
abbrev Qh (x : Qd) : List DC := [.int .i64 x.To, .sl false 1 (x.Ops.map (cI .u8))]
structure Qa where
 L : List Int
 R : List Int
 Rule : List Int
 Next : List (List Qd)
 deriving DecidableEq
abbrev Qb (x : Qa) : List DC := [.sl false 1 (x.L.map (cI .i64)), .sl false 1 (x.R.map (cI .i64)), .sl false 1 (x.Rule.map (cI .i64)), .sl false 1 (x.Next.map (cL 2 Qh))]
structure Qc where
 Split : Q4
 Counts : List Ye
 States : List Qa
abbrev c_api_Auto (x : Qc) : List DC := ((Q5.dc 256 .u8 x.Split.Of) ++ (([.int .i64 x.Split.Many, .sl false 2 (x.Counts.map (Ye.dc .i64)), .sl false 4 (x.States.map Qb)] : List DC)))
structure Zf where
 Auto : Qc
structure Qe where
 Auto : Qc
structure Yf where
 l : List Int
 deriving DecidableEq
structure Q3 where
 Op : Int
 S : Z6
 L : List Int
 Lo : Int
 Hi : Int
 Name : ByteArray
 deriving DecidableEq
abbrev Qw (x : Q3) : List DC := [.int .u8 x.Op, .int .u64 x.S.a0, .int .u64 x.S.a1, .int .u64 x.S.a2, .int .u64 x.S.a3, .sl false 1 (x.L.map (cI .i64)), .int .i64 x.Lo, .int .i64 x.Hi, .str x.Name]
structure Qi where
 s : ByteArray
 at_ : Int
 nodes : List Q3
 deep : Int
 e : Int
 where_ : Int
 deriving DecidableEq
structure Qz where
 l : List Q3
 most : Int
 out : List Q3
 long : Bool
 deriving DecidableEq
structure Zz where
 S : Z6
 Lo : Int
 Hi : Int
 Rule : Int
 Last : Bool
 Next : List Int
 deriving DecidableEq
abbrev Q1 (x : Zz) : List DC := [.int .u64 x.S.a0, .int .u64 x.S.a1, .int .u64 x.S.a2, .int .u64 x.S.a3, .int .i64 x.Lo, .int .i64 x.Hi, .int .i64 x.Rule, .bool x.Last, .sl false 1 (x.Next.map (cI .i64))]
structure Zv where
 First : List Int
 P : List Zz
 deriving DecidableEq
structure Qn where
 p : List Zz
 deriving DecidableEq
structure Qu where
 null : Bool
 first : List Int
 last : List Int
 deriving DecidableEq
abbrev Zq (x : Qu) : List DC := [.bool x.null, .sl false 1 (x.first.map (cI .i64)), .sl false 1 (x.last.map (cI .i64))]
structure Qm where
 g : Zv
 number : List Int
 a : Qc
 e : Int
def Mv (K : Nat) (x0 : Qc) : Option Qc :=
 bif (decide ((x0.States.length : Int) > (60:Int))) then
 some (Qc.mk (Q4.mk (Q5.mk fun _ => 0) (0:Int)) [] [])
 else
 some x0
def Wk (K : Nat) : Nat → Int → Q4 → Int → Option Bool
 | 0 => fun _ _ _ => none
 | k + 1 => fun b x0 a =>
 bif (decide (a < (256:Int))) then
 (ck (0 ≤ a ∧ a < 256)).bind fun _ =>
 bif (decide ((IntKind.i64.wrap (Q5.get x0.Of a)) > b)) then
 some false
 else
 bif ((IntKind.i64.wrap (Q5.get x0.Of a)) == b) then
 Wk K k (IntKind.i64.wrap (b + (1:Int))) x0 (IntKind.i64.wrap (a + (1:Int)))
 else
 Wk K k b x0 (IntKind.i64.wrap (a + (1:Int)))
 else
 some (b == x0.Many)
def O8 (K : Nat) (x0 : Q4) : Option Bool :=
 Wk K K (0:Int) x0 (0:Int)
def Ef (K : Nat) : Option Int :=
 some (0:Int)
def Ee (K : Nat) : Nat → Int → Int → Int → Option Int
 | 0 => fun _ _ _ => none
 | k + 1 => fun a x0 b =>
 bif (decide (b < x0)) then
 Ee K k (IntKind.i64.wrap (a * (3:Int))) x0 (IntKind.i64.wrap (b + (1:Int)))
 else
 some a
def O1 (K : Nat) (x0 : Int) : Option Int :=
 bif (decide (x0 < (0:Int))) then
 Ef K
 else
 bif (decide (x0 > (3:Int))) then
 Ef K
 else
 Ee K K (1:Int) x0 (0:Int)
def Ec (K : Nat) : Option Bool :=
 some false
def L9 (K : Nat) : Nat → Int → Int → (List Int) → Int → Int → Option Bool
 | 0 => fun _ _ _ _ _ => none
 | k + 1 => fun x1 d x0 c a =>
 bif (decide (a < c)) then
 (Yb x0 a).bind fun b =>
 bif (decide (b ≤ d)) then
 Ec K
 else
 bif (decide (b ≥ x1)) then
 Ec K
 else
 L9 K k x1 b x0 c (IntKind.i64.wrap (a + (1:Int)))
 else
 some true
def O0 (K : Nat) (x0 : List Int) (x1 : Int) : Option Bool :=
 L9 K K x1 (-1:Int) x0 (x0.length : Int) (0:Int)
def V3 (K : Nat) : Nat → (List Int) → Int → Int → Int → Option Int
 | 0 => fun _ _ _ _ => none
 | k + 1 => fun x0 x1 b a =>
 bif (decide (a < b)) then
 (Yb x0 a).bind fun c =>
 bif (x1 == c) then
 some a
 else
 V3 K k x0 x1 b (IntKind.i64.wrap (a + (1:Int)))
 else
 some (-1:Int)
def Cr (K : Nat) (x0 : List Int) (x1 : Int) : Option Int :=
 V3 K K x0 x1 (x0.length : Int) (0:Int)
def Ws (K : Nat) (x0 : List Int) (x1 : Int) : Option Bool :=
 (Cr K x0 x1).bind fun a =>
 some (decide (a ≥ (0:Int)))
def Xv (K : Nat) : Option Bool :=
 some false
def Xu (K : Nat) : Option Bool :=
 some false
def Xt (K : Nat) : Nat → Qd → Int → Int → Zf → Qa → Option Bool
 | 0 => fun _ _ _ _ _ => none
 | k + 1 => fun x2 b a x0 x1 =>
 bif (decide (a < b)) then
 (Yb x2.Ops a).bind fun c =>
 bif (decide (c < (1:Int))) then
 Xu K
 else
 bif (decide (c > (3:Int))) then
 Xu K
 else
 bif (c != (3:Int)) then
 (Yb x0.Auto.States x2.To).bind fun d =>
 (Yb d.R a).bind fun e =>
 (Ws K x1.R e).bind fun f =>
 bif (!f) then
 Xu K
 else
 Xt K k x2 b (IntKind.i64.wrap (a + (1:Int))) x0 x1
 else
 Xt K k x2 b (IntKind.i64.wrap (a + (1:Int))) x0 x1
 else
 some true
def Le (K : Nat) (x0 : Zf) (x1 : Qa) (x2 : Qd) : Option Bool :=
 bif (x2.To == (-1:Int)) then
 some ((x2.Ops.length : Int) == (0:Int))
 else
 bif (decide (x2.To < (1:Int))) then
 Xv K
 else
 bif (decide (x2.To ≥ (x0.Auto.States.length : Int))) then
 Xv K
 else
 (Yb x0.Auto.States x2.To).bind fun a =>
 bif ((x2.Ops.length : Int) != (a.R.length : Int)) then
 Xv K
 else
 Xt K K x2 (x2.Ops.length : Int) (0:Int) x0 x1
def Gk (K : Nat) (x0 : Qd) (x1 : Zf) (x2 : Qa) : Option Bool :=
 (Le K x1 x2 x0).bind fun a =>
 some (!a)
def Y9 (K : Nat) : Nat → (List Qd) → Int → Int → Zf → Qa → Option Int
 | 0 => fun _ _ _ _ _ => none
 | k + 1 => fun x0 b a x1c0 x1c1 =>
 bif (decide (a < b)) then
 (Yb x0 a).bind fun c =>
 (Gk K c x1c0 x1c1).bind fun d =>
 bif d then
 some a
 else
 Y9 K k x0 b (IntKind.i64.wrap (a + (1:Int))) x1c0 x1c1
 else
 some (-1:Int)
def Hl (K : Nat) (x0 : List Qd) (x1c0 : Zf) (x1c1 : Qa) : Option Int :=
 Y9 K K x0 (x0.length : Int) (0:Int) x1c0 x1c1
def Ua (K : Nat) (x0 : List Qd) (x1c0 : Zf) (x1c1 : Qa) : Option Bool :=
 (Hl K x0 x1c0 x1c1).bind fun a =>
 some (decide (a ≥ (0:Int)))
def Z2 (K : Nat) : Option Bool :=
 some false
def Xi (K : Nat) : Option Bool :=
 some false
def Va (K : Nat) : Nat → Qa → Int → Int → Zf → Option Bool
 | 0 => fun _ _ _ _ => none
 | k + 1 => fun x1 b a x0 =>
 bif (decide (a < b)) then
 (Yb x1.Next a).bind fun c =>
 (Yb x1.Rule a).bind fun d =>
 bif (decide (d < (-1:Int))) then
 Xi K
 else
 bif (decide (d ≥ (512:Int))) then
 Xi K
 else
 bif ((c.length : Int) != x0.Auto.Split.Many) then
 Xi K
 else
 (Ua K c x0 x1).bind fun e =>
 bif e then
 some false
 else
 Va K k x1 b (IntKind.i64.wrap (a + (1:Int))) x0
 else
 some true
def Hq (K : Nat) (x0 : Zf) (x1 : Qa) : Option Bool :=
 (O1 K (x1.R.length : Int)).bind fun a =>
 bif (a == (0:Int)) then
 Z2 K
 else
 bif ((x1.Rule.length : Int) != a) then
 Z2 K
 else
 bif ((x1.Next.length : Int) != a) then
 Z2 K
 else
 (O0 K x1.L (512:Int)).bind fun b =>
 bif (!b) then
 Z2 K
 else
 (O0 K x1.R (x0.Auto.Counts.length : Int)).bind fun c =>
 bif (!c) then
 Z2 K
 else
 Va K K x1 (x1.Next.length : Int) (0:Int) x0
def Sm (K : Nat) (x0 : Qa) (x1 : Zf) : Option Bool :=
 (Hq K x1 x0).bind fun a =>
 some (!a)
def Yx (K : Nat) : Nat → (List Qa) → Int → Int → Zf → Option Int
 | 0 => fun _ _ _ _ => none
 | k + 1 => fun x0 b a x1c0 =>
 bif (decide (a < b)) then
 (Yb x0 a).bind fun c =>
 (Sm K c x1c0).bind fun d =>
 bif d then
 some a
 else
 Yx K k x0 b (IntKind.i64.wrap (a + (1:Int))) x1c0
 else
 some (-1:Int)
def W2 (K : Nat) (x0 : List Qa) (x1c0 : Zf) : Option Int :=
 Yx K K x0 (x0.length : Int) (0:Int) x1c0
def Vv (K : Nat) (x0 : List Qa) (x1c0 : Zf) : Option Bool :=
 (W2 K x0 x1c0).bind fun a =>
 some (decide (a ≥ (0:Int)))
def Vi (K : Nat) : Option Bool :=
 some false
def Kb (K : Nat) : Option Bool :=
 some false
def Hr (K : Nat) : Nat → Qc → Int → Int → Option Bool
 | 0 => fun _ _ _ => none
 | k + 1 => fun x0 c b =>
 bif (decide (b < c)) then
 (Yb x0.Counts b).bind fun a =>
 bif (decide ((Ye.get a (0:Int)) < (1:Int))) then
 Kb K
 else
 bif (decide ((Ye.get a (0:Int)) > (Ye.get a (1:Int)))) then
 Kb K
 else
 bif (decide ((Ye.get a (1:Int)) < (2:Int))) then
 Kb K
 else
 bif (decide ((Ye.get a (1:Int)) > (4096:Int))) then
 Kb K
 else
 Hr K k x0 c (IntKind.i64.wrap (b + (1:Int)))
 else
 (Vv K x0.States (Zf.mk x0)).bind fun d =>
 some (!d)
def Wo (K : Nat) (x0 : Qc) : Option Bool :=
 (O8 K x0.Split).bind fun b =>
 bif (!b) then
 Vi K
 else
 bif (decide ((x0.Counts.length : Int) > (512:Int))) then
 Vi K
 else
 bif (decide ((x0.States.length : Int) < (1:Int))) then
 Vi K
 else
 bif (decide ((x0.States.length : Int) > (256:Int))) then
 Vi K
 else
 (Yb x0.States (0:Int)).bind fun a =>
 bif (decide ((IntKind.i64.wrap ((a.L.length : Int) + (a.R.length : Int))) > (0:Int))) then
 Vi K
 else
 Hr K K x0 (x0.Counts.length : Int) (0:Int)
def Lu (K : Nat) (x0 : List Ye) : Option (List Ye) :=
 (ck (roomy 16 (([] : List Ye).length + x0.length) = true)).bind fun _ =>
 some (([] : List Ye) ++ x0)
def Xf (K : Nat) (x0 : Yf) : Option (Int × Bool × Yf) :=
 bif ((x0.l.length : Int) == (0:Int)) then
 some ((0:Int), false, x0)
 else
 (Yb x0.l (IntKind.i64.wrap ((x0.l.length : Int) - (1:Int)))).bind fun a =>
 (ck (0 ≤ (IntKind.i64.wrap ((x0.l.length : Int) - (1:Int))) ∧ (Int.toNat (IntKind.i64.wrap ((x0.l.length : Int) - (1:Int)))) ≤ x0.l.length)).bind fun _ =>
 some (a, true, (Yf.mk (x0.l.take (Int.toNat (IntKind.i64.wrap ((x0.l.length : Int) - (1:Int)))))))
def Je (K : Nat) (x0 : Yf) (x1 : List Int) : Option Yf :=
 (ck (roomy 8 (x0.l.length + x1.length) = true)).bind fun _ =>
 some (Yf.mk (x0.l ++ x1))
def Jf (K : Nat) : Nat → (List Int) → Int → Int → Option Int
 | 0 => fun _ _ _ => none
 | k + 1 => fun x0 a b =>
 bif (decide (b < (x0.length : Int))) then
 (Yb x0 b).bind fun c =>
 Jf K k x0 (if c > a then c else a) (IntKind.i64.wrap (b + (1:Int)))
 else
 some a
def B9 (K : Nat) (x0 : List Int) : Option Int :=
 bif (decide ((x0.length : Int) < (1:Int))) then
 none
 else
 (Yb x0 (0:Int)).bind fun a =>
 Jf K K x0 a (1:Int)
def Kf (K : Nat) (x1 : Int) : Option (List Qd) :=
 bif (decide (x1 < (0:Int))) then
 none
 else
 bif (decide ((IntKind.i64.wrap (x1 - (IntKind.i64.wrap ((0:Int) - (0:Int))))) > (0:Int))) then
 (ck (0 < (IntKind.i64.wrap (x1 - (IntKind.i64.wrap ((0:Int) - (0:Int))))))).bind fun _ =>
 (ck (roomy 32 (Int.toNat (IntKind.i64.wrap (x1 - (IntKind.i64.wrap ((0:Int) - (0:Int)))))) = true)).bind fun _ =>
 (ck (0 ≤ (0:Int) ∧ (Int.toNat (0:Int)) ≤ (List.replicate (Int.toNat (IntKind.i64.wrap (x1 - (IntKind.i64.wrap ((0:Int) - (0:Int)))))) ((Qd.mk (0:Int) []) : Qd)).length)).bind fun _ =>
 some ((List.replicate (Int.toNat (IntKind.i64.wrap (x1 - (IntKind.i64.wrap ((0:Int) - (0:Int)))))) ((Qd.mk (0:Int) []) : Qd)).take (Int.toNat (0:Int)))
 else
 some ([] : List Qd)
def X3 (K : Nat) : Nat → (List (List Qd)) → Int → Int → (List Qd) → Option (List Qd)
 | 0 => fun _ _ _ _ => none
 | k + 1 => fun x0 c a b =>
 bif (decide (a < c)) then
 (Yb x0 a).bind fun d =>
 (ck (roomy 32 (b.length + d.length) = true)).bind fun _ =>
 X3 K k x0 c (IntKind.i64.wrap (a + (1:Int))) (b ++ d)
 else
 some b
def Xg (K : Nat) : Nat → (List (List Qd)) → Int → Int → Int → Option (List Qd)
 | 0 => fun _ _ _ _ => none
 | k + 1 => fun x0 a c b =>
 bif (decide (b < c)) then
 (Yb x0 b).bind fun d =>
 bif (decide ((IntKind.i64.wrap (a + (d.length : Int))) < (0:Int))) then
 none
 else
 Xg K k x0 (IntKind.i64.wrap (a + (d.length : Int))) c (IntKind.i64.wrap (b + (1:Int)))
 else
 (Kf K a).bind fun e =>
 X3 K K x0 (x0.length : Int) (0:Int) e
def K4 (K : Nat) (x0 : List (List Qd)) : Option (List Qd) :=
 Xg K K x0 (0:Int) (x0.length : Int) (0:Int)
def Ff (K : Nat) (x0 : Qa) : Option (List Qd) :=
 (K4 K x0.Next).bind fun a =>
 some a
def Lm (K : Nat) (d : Qc → Int → Int → (List Bool) → (List (List Int)) → (List Int) → Option (List Bool)) : Nat → Int → Qc → Int → Int → (List Qd) → Int → Int → (List Bool) → (List (List Int)) → (List Int) → Option (List Bool)
 | 0 => fun _ _ _ _ _ _ _ _ _ _ => none
 | k + 1 => fun a x0 e f g i b j c l =>
 bif (decide (b < i)) then
 (Yb g b).bind fun m =>
 bif (decide (m.To ≥ (0:Int))) then
 (Yb c m.To).bind fun n =>
 (ck (roomy 8 (n.length + [a].length) = true)).bind fun _ =>
 Lm K d k a x0 e f g i (IntKind.i64.wrap (b + (1:Int))) j (List.set c (Int.toNat m.To) (n ++ [a])) l
 else
 Lm K d k a x0 e f g i (IntKind.i64.wrap (b + (1:Int))) j c l
 else
 d x0 e (IntKind.i64.wrap (f + (1:Int))) j c l
def Dc (K : Nat) (b : Qc → Int → Int → (List Bool) → (List (List Int)) → (List Int) → Option (List Bool)) (c : Int) (x0 : Qc) (d : Int) (e : Int) (f : List Bool) (g : List (List Int)) (i : List Int) (j : List Int) (l : List Int) (m : List Int) (n : List (List Qd)) : Option (List Bool) :=
 (Ff K (Qa.mk j l m n)).bind fun a =>
 Lm K b K c x0 d e a (a.length : Int) (0:Int) f g i
def Sh (K : Nat) (b : Int → Bool → (List Bool) → (List (List Int)) → (List Int) → Option (List Bool)) (c : List Bool) (d : List (List Int)) (e : List Int) : Option (List Bool) :=
 (Xf K (Yf.mk e)).bind fun a =>
 b a.1 a.2.1 c d a.2.2.l
def Uz (K : Nat) : Nat → Int → Bool → (List Bool) → (List (List Int)) → (List Int) → Option (List Bool)
 | 0 => fun _ _ _ _ _ => none
 | k + 1 => fun b e a c d =>
 bif e then
 (Yb a b).bind fun f =>
 bif (!f) then
 (Yb c b).bind fun g =>
 (Je K (Yf.mk d) g).bind fun i =>
 Sh K (Uz K k) (List.set a (Int.toNat b) true) c i.l
 else
 Sh K (Uz K k) a c d
 else
 some a
def U0 (K : Nat) : Nat → Qc → Int → Int → (List Bool) → (List (List Int)) → (List Int) → Option (List Bool)
 | 0 => fun _ _ _ _ _ _ => none
 | k + 1 => fun x0 c b d e f =>
 bif (decide (b < c)) then
 (Yb x0.States b).bind fun a =>
 (B9 K a.Rule).bind fun i =>
 bif (decide (i ≥ (0:Int))) then
 (Je K (Yf.mk f) [b]).bind fun j =>
 Dc K (U0 K k) b x0 c b d e j.l a.L a.R a.Rule a.Next
 else
 Dc K (U0 K k) b x0 c b d e f a.L a.R a.Rule a.Next
 else
 (Xf K (Yf.mk f)).bind fun g =>
 Uz K K g.1 g.2.1 d e g.2.2.l
def If (K : Nat) (x0 : Qc) : Option (List Bool) :=
 (Wo K x0).bind fun a =>
 bif (!a) then
 some []
 else
 (ck (0 ≤ (x0.States.length : Int))).bind fun _ =>
 (ck (roomy 1 (Int.toNat (x0.States.length : Int)) = true)).bind fun _ =>
 (ck (roomy 24 (Int.toNat (x0.States.length : Int)) = true)).bind fun _ =>
 U0 K K x0 (x0.States.length : Int) (0:Int) (List.replicate (Int.toNat (x0.States.length : Int)) (false : Bool)) (List.replicate (Int.toNat (x0.States.length : Int)) ([] : List Int)) []
def Vb (K : Nat) (x0 : List Int) : Option (List Int) :=
 (ck (roomy 8 (([] : List Int).length + x0.length) = true)).bind fun _ =>
 some (([] : List Int) ++ x0)
def Jy (K : Nat) (x0 : List Int) : Option (List Int) :=
 (ck (roomy 1 (([] : List Int).length + x0.length) = true)).bind fun _ =>
 some (([] : List Int) ++ x0)
def Ut (K : Nat) (f : Int → Int → Qe → Int → Int → (List (List Qd)) → Int → Int → (List Qd) → Int → Int → (List Int) → (List Qa) → (List Int) → (List Int) → (List Int) → (List (List Qd)) → (List (List Qd)) → Option Qe) (g : Int) (a : Int) (x0 : Qe) (i : Int) (j : Int) (l : List (List Qd)) (m : Int) (n : Int) (o : List Qd) (p : Int) (q : Int) (x1 : List Int) (r : List Qa) (s : List Int) (t : List Int) (u : List Int) (v : List (List Qd)) (b : List (List Qd)) (c : Int) (d : List Int) : Option Qe :=
 (Yb b a).bind fun e =>
 (ck (roomy 32 (e.length + [(Qd.mk c d)].length) = true)).bind fun _ =>
 f g a x0 i j l m n o p (IntKind.i64.wrap (q + (1:Int))) x1 r s t u v (List.set b (Int.toNat a) (e ++ [(Qd.mk c d)]))
def Us (K : Nat) (a : Int → Int → Qe → Int → Int → (List (List Qd)) → Int → Int → (List Qd) → Int → Int → (List Int) → (List Qa) → (List Int) → (List Int) → (List Int) → (List (List Qd)) → (List (List Qd)) → Option Qe) (b : Int) (c : Int) (x0 : Qe) (d : Int) (e : Int) (f : List (List Qd)) (g : Int) (i : Int) (j : List Qd) (l : Int) (m : Int) (x1 : List Int) (n : List Qa) (o : List Int) (p : List Int) (q : List Int) (r : List (List Qd)) (s : List (List Qd)) : Option Qe :=
 Ut K a b c x0 d e f g i j l m x1 n o p q r s (-1:Int) []
def Z1 (K : Nat) (b : Int → Qe → Int → Int → (List (List Qd)) → Int → Int → (List Int) → (List Qa) → (List Int) → (List Int) → (List Int) → (List (List Qd)) → (List (List Qd)) → Option Qe) : Nat → Int → Int → Qe → Int → Int → (List (List Qd)) → Int → Int → (List Qd) → Int → Int → (List Int) → (List Qa) → (List Int) → (List Int) → (List Int) → (List (List Qd)) → (List (List Qd)) → Option Qe
 | 0 => fun _ _ _ _ _ _ _ _ _ _ _ _ _ _ _ _ _ _ => none
 | k + 1 => fun c s x0 d e f g i j l a x1 m n o p q r =>
 bif (decide (a < l)) then
 (Yb j a).bind fun t =>
 bif (decide (t.To ≥ (0:Int))) then
 (Yb x1 t.To).bind fun u =>
 bif (decide (u ≥ (0:Int))) then
 (Jy K t.Ops).bind fun v =>
 Ut K (Z1 K b k) c s x0 d e f g i j l a x1 m n o p q r u v
 else
 Us K (Z1 K b k) c s x0 d e f g i j l a x1 m n o p q r
 else
 Us K (Z1 K b k) c s x0 d e f g i j l a x1 m n o p q r
 else
 b c x0 d e f g (IntKind.i64.wrap (i + (1:Int))) x1 m n o p q r
def Y4 (K : Nat) (d : Qe → Int → Int → (List Int) → (List Qa) → Option Qe) : Nat → Int → Qe → Int → Int → (List (List Qd)) → Int → Int → (List Int) → (List Qa) → (List Int) → (List Int) → (List Int) → (List (List Qd)) → (List (List Qd)) → Option Qe
 | 0 => fun _ _ _ _ _ _ _ _ _ _ _ _ _ _ => none
 | k + 1 => fun b x0 e f g i a x1 c j l m p n =>
 bif (decide (a < i)) then
 (Yb g a).bind fun o =>
 Z1 K (Y4 K d k) K b a x0 e f g i a o (o.length : Int) (0:Int) x1 c j l m p n
 else
 (Vb K j).bind fun q =>
 (Vb K l).bind fun r =>
 (Vb K m).bind fun s =>
 (Yb c b).bind fun t =>
 d x0 e (IntKind.i64.wrap (f + (1:Int))) x1 (List.set c (Int.toNat b) (Qa.mk q r s n))
def Y5 (K : Nat) : Nat → Qe → Int → Int → (List Int) → (List Qa) → Option Qe
 | 0 => fun _ _ _ _ _ => none
 | k + 1 => fun x0 c b x1 d =>
 bif (decide (b < c)) then
 (Yb x0.Auto.States b).bind fun a =>
 (ck (0 ≤ (a.Next.length : Int))).bind fun _ =>
 (ck (roomy 24 (Int.toNat (a.Next.length : Int)) = true)).bind fun _ =>
 Y4 K (Y5 K k) K b x0 c b a.Next (a.Next.length : Int) (0:Int) x1 d a.L a.R a.Rule a.Next (List.replicate (Int.toNat (a.Next.length : Int)) ([] : List Qd))
 else
 some (Qe.mk (Qc.mk x0.Auto.Split x0.Auto.Counts d))
def V9 (K : Nat) (x0 : Qe) (x1 : List Int) : Option Qe :=
 (ck (0 ≤ (x0.Auto.States.length : Int))).bind fun _ =>
 (ck (roomy 96 (Int.toNat (x0.Auto.States.length : Int)) = true)).bind fun _ =>
 Y5 K K x0 (x0.Auto.States.length : Int) (0:Int) x1 (List.replicate (Int.toNat (x0.Auto.States.length : Int)) ((Qa.mk [] [] [] []) : Qa))
def Xo (K : Nat) : Nat → (List Bool) → Int → Int → Qe → (List Int) → Option Qe
 | 0 => fun _ _ _ _ _ => none
 | k + 1 => fun c d a x0 b =>
 bif (decide (a < d)) then
 (Yb c a).bind fun e =>
 (Yb b a).bind fun g =>
 bif (!e) then
 (Yb (List.set b (Int.toNat a) a) a).bind fun i =>
 Xo K k c d (IntKind.i64.wrap (a + (1:Int))) x0 (List.set (List.set b (Int.toNat a) a) (Int.toNat a) (-1:Int))
 else
 Xo K k c d (IntKind.i64.wrap (a + (1:Int))) x0 (List.set b (Int.toNat a) a)
 else
 (V9 K x0 b).bind fun f =>
 some f
def Gp (K : Nat) (x0 : Qe) : Option Qe :=
 (ck (0 ≤ (x0.Auto.States.length : Int))).bind fun _ =>
 (ck (roomy 8 (Int.toNat (x0.Auto.States.length : Int)) = true)).bind fun _ =>
 (If K x0.Auto).bind fun a =>
 Xo K K a (a.length : Int) (0:Int) x0 (List.replicate (Int.toNat (x0.Auto.States.length : Int)) ((0:Int) : Int))
def Qjv (K : Nat) (x0 : Int) (x1 : Int) : Option (Int × Int) :=
 some ((IntKind.u64.wrap ((IntKind.u64.wrap ((IntKind.u64.wrap ((Int.fdiv x0 (2 ^ min (Int.toNat (32:Int)) IntKind.u64.bits)) * (Int.fdiv x1 (2 ^ min (Int.toNat (32:Int)) IntKind.u64.bits)))) + (Int.fdiv (IntKind.u64.wrap ((IntKind.u64.wrap ((Int.fdiv x0 (2 ^ min (Int.toNat (32:Int)) IntKind.u64.bits)) * (bits .and .u64 x1 (4294967295:Int)))) + (Int.fdiv (IntKind.u64.wrap ((bits .and .u64 x0 (4294967295:Int)) * (bits .and .u64 x1 (4294967295:Int)))) (2 ^ min (Int.toNat (32:Int)) IntKind.u64.bits)))) (2 ^ min (Int.toNat (32:Int)) IntKind.u64.bits)))) + (Int.fdiv (IntKind.u64.wrap ((bits .and .u64 (IntKind.u64.wrap ((IntKind.u64.wrap ((Int.fdiv x0 (2 ^ min (Int.toNat (32:Int)) IntKind.u64.bits)) * (bits .and .u64 x1 (4294967295:Int)))) + (Int.fdiv (IntKind.u64.wrap ((bits .and .u64 x0 (4294967295:Int)) * (bits .and .u64 x1 (4294967295:Int)))) (2 ^ min (Int.toNat (32:Int)) IntKind.u64.bits)))) (4294967295:Int)) + (IntKind.u64.wrap ((bits .and .u64 x0 (4294967295:Int)) * (Int.fdiv x1 (2 ^ min (Int.toNat (32:Int)) IntKind.u64.bits)))))) (2 ^ min (Int.toNat (32:Int)) IntKind.u64.bits)))), (IntKind.u64.wrap (x0 * x1)))
def Qi4 (K : Nat) (x0 : Int) (x1 : Int) : Option (Int × Int) :=
 (Qjv K x0 x1).bind fun a =>
 some (a.1, a.2)
def H8 (K : Nat) (x0 : List Int) (a : Int) : Option (List Int) :=
 none
def Uv (K : Nat) : Nat → Int → (List Int) → Option (List Int)
 | 0 => fun _ _ => none
 | k + 1 => fun a b =>
 bif (decide (a < (b.length : Int))) then
 (ck (0 ≤ a ∧ (Int.toNat a) ≤ b.length)).bind fun _ =>
 (ck (0 < (Int.toNat a) ∧ (Int.toNat a) < b.length)).bind fun _ =>
 Uv K k (IntKind.i64.wrap (a + (((min (Int.toNat a) (b.length - (Int.toNat a))) : Nat) : Int))) (b.take (Int.toNat a) ++ b.take (min (Int.toNat a) (b.length - (Int.toNat a))) ++ b.drop ((Int.toNat a) + (min (Int.toNat a) (b.length - (Int.toNat a)))))
 else
 some b
def Gq (K : Nat) (x0 : List Int) (x1 : Int) : Option (List Int) :=
 bif (decide (x1 < (0:Int))) then
 none
 else
 (Qi4 K (IntKind.u64.wrap (x0.length : Int)) (IntKind.u64.wrap x1)).bind fun a =>
 bif (decide (a.1 > (0:Int))) then
 H8 K x0 a.2
 else
 bif (decide (a.2 > (9223372036854775807:Int))) then
 H8 K x0 a.2
 else
 (ck (0 ≤ (IntKind.i64.wrap a.2))).bind fun _ =>
 (ck (roomy 8 (Int.toNat (IntKind.i64.wrap a.2)) = true)).bind fun _ =>
 (ck (0 < x0.length ∧ x0.length ≤ (List.replicate (Int.toNat (IntKind.i64.wrap a.2)) ((0:Int) : Int)).length)).bind fun _ =>
 Uv K K (x0.length : Int) (x0 ++ (List.replicate (Int.toNat (IntKind.i64.wrap a.2)) ((0:Int) : Int)).drop x0.length)
def Y6 (K : Nat) (e : Int → Qe → (List Int) → (List Int) → Option Qe) : Nat → Int → (List Qd) → Int → Int → Qe → (List Int) → (List Int) → Option Qe
 | 0 => fun _ _ _ _ _ _ _ => none
 | k + 1 => fun f g i b x0 c a =>
 bif (decide (b < i)) then
 (Yb g b).bind fun d =>
 bif (decide (d.To ≥ (0:Int))) then
 (Yb c d.To).bind fun j =>
 bif (decide (j < (0:Int))) then
 (ck (roomy 8 (a.length + [d.To].length) = true)).bind fun _ =>
 Y6 K e k f g i (IntKind.i64.wrap (b + (1:Int))) x0 (List.set c (Int.toNat d.To) (a.length : Int)) (a ++ [d.To])
 else
 Y6 K e k f g i (IntKind.i64.wrap (b + (1:Int))) x0 c a
 else
 Y6 K e k f g i (IntKind.i64.wrap (b + (1:Int))) x0 c a
 else
 e (IntKind.i64.wrap (f + (1:Int))) x0 c a
def Vm (K : Nat) : Nat → Int → Int → Q5 → Int → (List Ye) → (List Qa) → (List Qa) → (List Int) → Option Qe
 | 0 => fun _ _ _ _ _ _ _ _ => none
 | k + 1 => fun c a d e f g b i =>
 bif (decide (a < c)) then
 (Yb i a).bind fun l =>
 (Yb g l).bind fun j =>
 (ck (roomy 96 (b.length + [j].length) = true)).bind fun _ =>
 Vm K k c (IntKind.i64.wrap (a + (1:Int))) d e f g (b ++ [j]) i
 else
 some (Qe.mk (Qc.mk (Q4.mk d e) f b))
def Xn (K : Nat) : Nat → Int → Qe → (List Int) → (List Int) → Option Qe
 | 0 => fun _ _ _ _ => none
 | k + 1 => fun c x0 d a =>
 bif (decide (c < (a.length : Int))) then
 (Yb a c).bind fun f =>
 (Yb x0.Auto.States f).bind fun g =>
 (Ff K g).bind fun e =>
 Y6 K (Xn K k) K c e (e.length : Int) (0:Int) x0 d a
 else
 (V9 K x0 d).bind fun b =>
 Vm K K (a.length : Int) (0:Int) b.Auto.Split.Of b.Auto.Split.Many b.Auto.Counts b.Auto.States [] a
def Gm (K : Nat) (x0 : Qe) : Option Qe :=
 (Gq K [(-1:Int)] (x0.Auto.States.length : Int)).bind fun a =>
 (Yb a (0:Int)).bind fun b =>
 Xn K K (0:Int) x0 (List.set a (Int.toNat (0:Int)) (0:Int)) [(0:Int)]
def strconv_Itoa (K : Nat) (x0 : Int) : Option ByteArray :=
 if -9223372036854775808 ≤ x0 ∧ x0 ≤ 9223372036854775807 then some (itoaS x0) else none
def Hx (K : Nat) (x0c1 : List Int) : Option Unit :=
 some ()
def Wp (K : Nat) (x0c1 : List Int) (x1 : ByteArray) : Option (Int × Unit × (List Int)) :=
 (Hx K x0c1).bind fun a =>
 (ck (roomy 1 (x0c1.length + x1.size) = true)).bind fun _ =>
 some ((x1.size : Int), (), (x0c1 ++ Dk x1))
def Qa7 (K : Nat) (x0 : Int) (x1c1 : List Int) : Option (List Int) :=
 (strconv_Itoa K x0).bind fun a =>
 (ck (a.size + (⟨#[32]⟩ : ByteArray).size ≤ 9223372036854775807)).bind fun _ =>
 (Wp K x1c1 (a ++ (⟨#[32]⟩ : ByteArray))).bind fun b =>
 some b.2.2
def Yz (K : Nat) (x0c1 : List Int) : Option Unit :=
 some ()
def Vr (K : Nat) (x0c1 : List Int) (x1 : ByteArray) : Option (Int × Unit × (List Int)) :=
 (Yz K x0c1).bind fun a =>
 (ck (roomy 1 (x0c1.length + x1.size) = true)).bind fun _ =>
 some ((x1.size : Int), (), (x0c1 ++ Dk x1))
def Jl (K : Nat) (x0 : Int) (x1c1 : List Int) : Option (List Int) :=
 (strconv_Itoa K x0).bind fun a =>
 (ck (a.size + (⟨#[32]⟩ : ByteArray).size ≤ 9223372036854775807)).bind fun _ =>
 (Vr K x1c1 (a ++ (⟨#[32]⟩ : ByteArray))).bind fun b =>
 some b.2.2
def Hk (K : Nat) (x0c1 : List Int) (x1 : List Int) : Option (Int × Unit × (List Int)) :=
 (Yz K x0c1).bind fun a =>
 (ck (roomy 1 (x0c1.length + x1.length) = true)).bind fun _ =>
 some ((x1.length : Int), (), (x0c1 ++ x1))
def Ll (K : Nat) : Nat → (List Qd) → Int → Int → (List Int) → (List Int) → Option ByteArray
 | 0 => fun _ _ _ _ _ => none
 | k + 1 => fun d e b x1 a =>
 bif (decide (b < e)) then
 (Yb d b).bind fun c =>
 bif (decide (c.To < (0:Int))) then
 (Jl K (-1:Int) a).bind fun f =>
 Ll K k d e (IntKind.i64.wrap (b + (1:Int))) x1 f
 else
 (Yb x1 c.To).bind fun g =>
 (Jl K g a).bind fun i =>
 (Hk K i c.Ops).bind fun j =>
 (Jl K (c.Ops.length : Int) j.2.2).bind fun l =>
 Ll K k d e (IntKind.i64.wrap (b + (1:Int))) x1 l
 else
 (ck (0 < a.length)).bind fun _ =>
 (ck (La a = true)).bind fun _ =>
 some (ofBytes a)
def Mi (K : Nat) : Nat → Qa → Int → Int → (List Int) → (List Int) → Option ByteArray
 | 0 => fun _ _ _ _ _ => none
 | k + 1 => fun x0 b a x1 c =>
 bif (decide (a < b)) then
 (Yb x0.Rule a).bind fun e =>
 (Jl K e c).bind fun f =>
 Mi K k x0 b (IntKind.i64.wrap (a + (1:Int))) x1 f
 else
 (Ff K x0).bind fun d =>
 Ll K K d (d.length : Int) (0:Int) x1 c
def Mj (K : Nat) : Nat → Qa → Int → Int → (List Int) → (List Int) → Option ByteArray
 | 0 => fun _ _ _ _ _ => none
 | k + 1 => fun x0 b a x1 c =>
 bif (decide (a < b)) then
 (Yb x0.R a).bind fun d =>
 (Jl K d c).bind fun e =>
 Mj K k x0 b (IntKind.i64.wrap (a + (1:Int))) x1 e
 else
 Mi K K x0 (x0.Rule.length : Int) (0:Int) x1 c
def Qed (K : Nat) (x0 : Qa) (x1 : List Int) : Option ByteArray :=
 (Qa7 K (x0.R.length : Int) []).bind fun a =>
 Mj K K x0 (x0.R.length : Int) (0:Int) x1 a
def Kq (K : Nat) (d : Int → Qc → Int → Int → (List Int) → (List (ByteArray × Int)) → (List Int) → Option (List Int)) (e : Int) (a : Int) (f : ByteArray) (x0 : Qc) (g : Int) (i : Int) (j : List Int) (b : List (ByteArray × Int)) (c : List Int) : Option (List Int) :=
 (Yb c a).bind fun l =>
 d e x0 g (IntKind.i64.wrap (i + (1:Int))) j b (List.set c (Int.toNat a) ((b.lookup f).getD 0))
def Kr (K : Nat) (c : Int → Qc → Int → Int → (List Int) → (List (ByteArray × Int)) → (List Int) → Option (List Int)) (d : Int) (e : Int) (a : ByteArray) (x0 : Qc) (f : Int) (g : Int) (i : List Int) (b : List (ByteArray × Int)) (j : List Int) : Option (List Int) :=
 bif (!(b.lookup a).isSome) then
 (ck (b.lookup a = none)).bind fun _ =>
 Kq K c d e a x0 f g i (b ++ [(a, (b.length : Int))]) j
 else
 Kq K c d e a x0 f g i b j
def Vu (K : Nat) (e : Int → Qc → (List Int) → Option (List Int)) : Nat → Int → Qc → Int → Int → (List Int) → (List (ByteArray × Int)) → (List Int) → Option (List Int)
 | 0 => fun _ _ _ _ _ _ _ => none
 | k + 1 => fun f x0 g a b c d =>
 bif (decide (a < g)) then
 (Yb x0.States a).bind fun l =>
 bif (decide (a > (0:Int))) then
 (Yb b a).bind fun m =>
 (strconv_Itoa K m).bind fun i =>
 (ck (i.size + (⟨#[58]⟩ : ByteArray).size ≤ 9223372036854775807)).bind fun _ =>
 (Qed K l b).bind fun j =>
 (ck ((i ++ (⟨#[58]⟩ : ByteArray)).size + j.size ≤ 9223372036854775807)).bind fun _ =>
 Kr K (Vu K e k) f a ((i ++ (⟨#[58]⟩ : ByteArray)) ++ j) x0 g a b c d
 else
 Kr K (Vu K e k) f a (⟨#[102, 105, 114, 115, 116]⟩ : ByteArray) x0 g a b c d
 else
 bif ((c.length : Int) == f) then
 some d
 else
 e (c.length : Int) x0 d
def Wj (K : Nat) : Nat → Int → Qc → (List Int) → Option (List Int)
 | 0 => fun _ _ _ => none
 | k + 1 => fun b x0 a =>
 (ck (0 ≤ (a.length : Int))).bind fun _ =>
 (ck (roomy 8 (Int.toNat (a.length : Int)) = true)).bind fun _ =>
 Vu K (Wj K k) K b x0 (x0.States.length : Int) (0:Int) a [] (List.replicate (Int.toNat (a.length : Int)) ((0:Int) : Int))
def Lt (K : Nat) (x0 : Qc) : Option (List Int) :=
 (Wo K x0).bind fun a =>
 bif (!a) then
 some []
 else
 (ck (0 ≤ (x0.States.length : Int))).bind fun _ =>
 (ck (roomy 8 (Int.toNat (x0.States.length : Int)) = true)).bind fun _ =>
 Wj K K (0:Int) x0 (List.replicate (Int.toNat (x0.States.length : Int)) ((0:Int) : Int))
def Ve (K : Nat) (f : (List Int) → Int → Int → Qe → Int → Int → (List (List Qd)) → Int → Int → (List Qd) → Int → Int → (List Qa) → (List Int) → (List Int) → (List Int) → (List (List Qd)) → (List (List Qd)) → Option Qe) (x1 : List Int) (g : Int) (a : Int) (x0 : Qe) (i : Int) (j : Int) (l : List (List Qd)) (m : Int) (n : Int) (o : List Qd) (p : Int) (q : Int) (r : List Qa) (s : List Int) (t : List Int) (u : List Int) (v : List (List Qd)) (b : List (List Qd)) (c : Int) (d : List Int) : Option Qe :=
 (Yb b a).bind fun e =>
 (ck (roomy 32 (e.length + [(Qd.mk c d)].length) = true)).bind fun _ =>
 f x1 g a x0 i j l m n o p (IntKind.i64.wrap (q + (1:Int))) r s t u v (List.set b (Int.toNat a) (e ++ [(Qd.mk c d)]))
def Vd (K : Nat) (a : (List Int) → Int → Int → Qe → Int → Int → (List (List Qd)) → Int → Int → (List Qd) → Int → Int → (List Qa) → (List Int) → (List Int) → (List Int) → (List (List Qd)) → (List (List Qd)) → Option Qe) (x1 : List Int) (b : Int) (c : Int) (x0 : Qe) (d : Int) (e : Int) (f : List (List Qd)) (g : Int) (i : Int) (j : List Qd) (l : Int) (m : Int) (n : List Qa) (o : List Int) (p : List Int) (q : List Int) (r : List (List Qd)) (s : List (List Qd)) : Option Qe :=
 Ve K a x1 b c x0 d e f g i j l m n o p q r s (-1:Int) []
def Zo (K : Nat) (b : (List Int) → Int → Qe → Int → Int → (List (List Qd)) → Int → Int → (List Qa) → (List Int) → (List Int) → (List Int) → (List (List Qd)) → (List (List Qd)) → Option Qe) : Nat → (List Int) → Int → Int → Qe → Int → Int → (List (List Qd)) → Int → Int → (List Qd) → Int → Int → (List Qa) → (List Int) → (List Int) → (List Int) → (List (List Qd)) → (List (List Qd)) → Option Qe
 | 0 => fun _ _ _ _ _ _ _ _ _ _ _ _ _ _ _ _ _ _ => none
 | k + 1 => fun x1 c s x0 d e f g i j l a m n o p q r =>
 bif (decide (a < l)) then
 (Yb j a).bind fun t =>
 bif (decide (t.To ≥ (0:Int))) then
 (Yb x1 t.To).bind fun u =>
 bif (decide (u ≥ (0:Int))) then
 (Jy K t.Ops).bind fun v =>
 Ve K (Zo K b k) x1 c s x0 d e f g i j l a m n o p q r u v
 else
 Vd K (Zo K b k) x1 c s x0 d e f g i j l a m n o p q r
 else
 Vd K (Zo K b k) x1 c s x0 d e f g i j l a m n o p q r
 else
 b x1 c x0 d e f g (IntKind.i64.wrap (i + (1:Int))) m n o p q r
def Yg (K : Nat) (d : (List Int) → Qe → Int → Int → (List Qa) → Option Qe) : Nat → (List Int) → Int → Qe → Int → Int → (List (List Qd)) → Int → Int → (List Qa) → (List Int) → (List Int) → (List Int) → (List (List Qd)) → (List (List Qd)) → Option Qe
 | 0 => fun _ _ _ _ _ _ _ _ _ _ _ _ _ _ => none
 | k + 1 => fun x1 b x0 e f g i a c j l m p n =>
 bif (decide (a < i)) then
 (Yb g a).bind fun o =>
 Zo K (Yg K d k) K x1 b a x0 e f g i a o (o.length : Int) (0:Int) c j l m p n
 else
 (Vb K j).bind fun q =>
 (Vb K l).bind fun r =>
 (Vb K m).bind fun s =>
 (Yb c b).bind fun t =>
 d x1 x0 e (IntKind.i64.wrap (f + (1:Int))) (List.set c (Int.toNat b) (Qa.mk q r s n))
def Yh (K : Nat) : Nat → (List Int) → Qe → Int → Int → (List Qa) → Option Qe
 | 0 => fun _ _ _ _ _ => none
 | k + 1 => fun x1 x0 c b d =>
 bif (decide (b < c)) then
 (Yb x0.Auto.States b).bind fun a =>
 (ck (0 ≤ (a.Next.length : Int))).bind fun _ =>
 (ck (roomy 24 (Int.toNat (a.Next.length : Int)) = true)).bind fun _ =>
 Yg K (Yh K k) K x1 b x0 c b a.Next (a.Next.length : Int) (0:Int) d a.L a.R a.Rule a.Next (List.replicate (Int.toNat (a.Next.length : Int)) ([] : List Qd))
 else
 some (Qe.mk (Qc.mk x0.Auto.Split x0.Auto.Counts d))
def Vl (K : Nat) (x0 : Qe) (x1 : List Int) : Option Qe :=
 (ck (0 ≤ (x0.Auto.States.length : Int))).bind fun _ =>
 (ck (roomy 96 (Int.toNat (x0.Auto.States.length : Int)) = true)).bind fun _ =>
 Yh K K x1 x0 (x0.Auto.States.length : Int) (0:Int) (List.replicate (Int.toNat (x0.Auto.States.length : Int)) ((Qa.mk [] [] [] []) : Qa))
def Uu (K : Nat) (d : (List Int) → Int → Int → Qe → (List (Int × Int)) → (List Int) → Option Qe) (b : Int) (e : List Int) (f : Int) (g : Int) (x0 : Qe) (a : List (Int × Int)) (c : List Int) : Option Qe :=
 (ck (roomy 8 (c.length + [((a.lookup b).getD 0)].length) = true)).bind fun _ =>
 d e f (IntKind.i64.wrap (g + (1:Int))) x0 a (c ++ [((a.lookup b).getD 0)])
def Yo (K : Nat) : Nat → (List Int) → Int → Int → Qe → (List (Int × Int)) → (List Int) → Option Qe
 | 0 => fun _ _ _ _ _ _ => none
 | k + 1 => fun d e a x0 c f =>
 bif (decide (a < e)) then
 (Yb d a).bind fun b =>
 bif (!(c.lookup b).isSome) then
 (ck (c.lookup b = none)).bind fun _ =>
 Uu K (Yo K k) b d e a x0 (c ++ [(b, a)]) f
 else
 Uu K (Yo K k) b d e a x0 c f
 else
 (Vl K x0 f).bind fun g =>
 some g
def Gn (K : Nat) (x0 : Qe) : Option Qe :=
 (Lt K x0.Auto).bind fun a =>
 Yo K K a (a.length : Int) (0:Int) x0 [] []
def Oz (K : Nat) (f : Q5) (a : Q5) (b : Int) (c : List Ye) (d : List Qa) : Option (Qc × Int) :=
 (Gm K (Qe.mk (Qc.mk (Q4.mk a b) c d))).bind fun e =>
 some (e.Auto, (0:Int))
def Qef (K : Nat) (x0 : Qc) : Option (Qc × Int) :=
 (Wo K x0).bind fun c =>
 bif (!c) then
 some ((Qc.mk (Q4.mk (Q5.mk fun _ => 0) (0:Int)) [] []), (1:Int))
 else
 (Lu K x0.Counts).bind fun d =>
 (Gp K (Qe.mk (Qc.mk x0.Split d x0.States))).bind fun a =>
 bif ((a.Auto.Counts.length : Int) == (0:Int)) then
 (Gn K a).bind fun b =>
 Oz K (Q5.mk fun _ => 0) b.Auto.Split.Of b.Auto.Split.Many b.Auto.Counts b.Auto.States
 else
 Oz K (Q5.mk fun _ => 0) a.Auto.Split.Of a.Auto.Split.Many a.Auto.Counts a.Auto.States
def Xs (K : Nat) : Nat → Int → Int → Q4 → Option Bool
 | 0 => fun _ _ _ => none
 | k + 1 => fun b a x0 =>
 bif (decide (a < (256:Int))) then
 (ck (0 ≤ a ∧ a < 256)).bind fun _ =>
 bif (decide ((IntKind.i64.wrap (Q5.get x0.Of a)) > b)) then
 some false
 else
 bif ((IntKind.i64.wrap (Q5.get x0.Of a)) == b) then
 Xs K k (IntKind.i64.wrap (b + (1:Int))) (IntKind.i64.wrap (a + (1:Int))) x0
 else
 Xs K k b (IntKind.i64.wrap (a + (1:Int))) x0
 else
 some (b == x0.Many)
def G6 (K : Nat) (x0 : Q4) : Option Bool :=
 Xs K K (0:Int) (0:Int) x0
def Wd (K : Nat) : Option Int :=
 some (0:Int)
def Wc (K : Nat) : Nat → Int → Int → Int → Option Int
 | 0 => fun _ _ _ => none
 | k + 1 => fun x0 a b =>
 bif (decide (b < x0)) then
 Wc K k x0 (IntKind.i64.wrap (a * (3:Int))) (IntKind.i64.wrap (b + (1:Int)))
 else
 some a
def Jk (K : Nat) (x0 : Int) : Option Int :=
 bif (decide (x0 < (0:Int))) then
 Wd K
 else
 bif (decide (x0 > (3:Int))) then
 Wd K
 else
 Wc K K x0 (1:Int) (0:Int)
def Ux (K : Nat) : Option Bool :=
 some false
def Xq (K : Nat) : Nat → (List Int) → Int → Int → Option Bool
 | 0 => fun _ _ _ => none
 | k + 1 => fun x0 x1 a =>
 bif (decide (a < (x0.length : Int))) then
 (Yb x0 a).bind fun b =>
 bif (decide (b < (0:Int))) then
 Ux K
 else
 bif (decide (b ≥ x1)) then
 Ux K
 else
 bif (decide (a > (0:Int))) then
 (Yb x0 (IntKind.i64.wrap (a - (1:Int)))).bind fun c =>
 bif (decide (c ≥ b)) then
 Ux K
 else
 Xq K k x0 x1 (IntKind.i64.wrap (a + (1:Int)))
 else
 Xq K k x0 x1 (IntKind.i64.wrap (a + (1:Int)))
 else
 some true
def Wm (K : Nat) (x0 : List Int) (x1 : Int) : Option Bool :=
 Xq K K x0 x1 (0:Int)
def Jj (K : Nat) : Nat → (List Int) → Int → Int → Option Bool
 | 0 => fun _ _ _ => none
 | k + 1 => fun x0 x1 a =>
 bif (decide (a < (x0.length : Int))) then
 (Yb x0 a).bind fun b =>
 bif (b == x1) then
 some true
 else
 Jj K k x0 x1 (IntKind.i64.wrap (a + (1:Int)))
 else
 some false
def Wl (K : Nat) (x0 : List Int) (x1 : Int) : Option Bool :=
 Jj K K x0 x1 (0:Int)
def X6 (K : Nat) : Option Bool :=
 some false
def X5 (K : Nat) : Option Bool :=
 some false
def X4 (K : Nat) : Nat → Int → Qc → Qa → Qd → Option Bool
 | 0 => fun _ _ _ _ => none
 | k + 1 => fun a x0 x1 x2 =>
 bif (decide (a < (x2.Ops.length : Int))) then
 (Yb x2.Ops a).bind fun b =>
 bif (decide (b < (1:Int))) then
 X5 K
 else
 bif (decide (b > (3:Int))) then
 X5 K
 else
 bif (b != (3:Int)) then
 (Yb x0.States x2.To).bind fun c =>
 (Yb c.R a).bind fun d =>
 (Wl K x1.R d).bind fun e =>
 bif (!e) then
 X5 K
 else
 X4 K k (IntKind.i64.wrap (a + (1:Int))) x0 x1 x2
 else
 X4 K k (IntKind.i64.wrap (a + (1:Int))) x0 x1 x2
 else
 some true
def Km (K : Nat) (x0 : Qc) (x1 : Qa) (x2 : Qd) : Option Bool :=
 bif (x2.To == (-1:Int)) then
 some ((x2.Ops.length : Int) == (0:Int))
 else
 bif (decide (x2.To < (1:Int))) then
 X6 K
 else
 bif (decide (x2.To ≥ (x0.States.length : Int))) then
 X6 K
 else
 (Yb x0.States x2.To).bind fun a =>
 bif ((x2.Ops.length : Int) != (a.R.length : Int)) then
 X6 K
 else
 X4 K K (0:Int) x0 x1 x2
def Z4 (K : Nat) : Option Bool :=
 some false
def Xp (K : Nat) : Option Bool :=
 some false
def Vn (K : Nat) (c : Int → Int → Qc → Qa → Option Bool) : Nat → Int → Int → Int → Qa → Int → Int → Int → Bool → Int → (List Qd) → (List Qd) → Int → Qc → Bool → Option Bool
 | 0 => fun _ _ _ _ _ _ _ _ _ _ _ _ _ _ => none
 | k + 1 => fun d a b x1 f g i j l m n o x0 p =>
 (Yb x1.Next a).bind fun e =>
 bif (decide (b < (e.length : Int))) then
 (Yb e b).bind fun q =>
 (Km K x0 x1 q).bind fun r =>
 bif (!r) then
 some false
 else
 Vn K c k d a (IntKind.i64.wrap (b + (1:Int))) x1 f g i j l m n o x0 p
 else
 c d (IntKind.i64.wrap (a + (1:Int))) x0 x1
def Yp (K : Nat) : Nat → Int → Int → Qc → Qa → Option Bool
 | 0 => fun _ _ _ _ => none
 | k + 1 => fun d a x0 x1 =>
 bif (decide (a < d)) then
 (Yb x1.Rule a).bind fun b =>
 bif (decide (b < (-1:Int))) then
 Xp K
 else
 bif (decide (b ≥ (512:Int))) then
 Xp K
 else
 (Yb x1.Next a).bind fun c =>
 bif ((c.length : Int) != x0.Split.Many) then
 Xp K
 else
 Vn K (Yp K k) K d a (0:Int) x1 a b b (decide (b ≥ (512:Int))) a c c (c.length : Int) x0 ((c.length : Int) != x0.Split.Many)
 else
 some true
def Gv (K : Nat) (x0 : Qc) (x1 : Qa) : Option Bool :=
 (Jk K (x1.R.length : Int)).bind fun a =>
 bif (a == (0:Int)) then
 Z4 K
 else
 (Wm K x1.L (512:Int)).bind fun b =>
 bif (!b) then
 Z4 K
 else
 (Wm K x1.R (x0.Counts.length : Int)).bind fun c =>
 bif (!c) then
 Z4 K
 else
 bif ((x1.Rule.length : Int) != a) then
 Z4 K
 else
 bif ((x1.Next.length : Int) != a) then
 Z4 K
 else
 Yp K K a (0:Int) x0 x1
def Zw (K : Nat) : Option Bool :=
 some false
def Vp (K : Nat) : Option Bool :=
 some false
def Vo (K : Nat) : Nat → Int → Qc → Option Bool
 | 0 => fun _ _ => none
 | k + 1 => fun a x0 =>
 bif (decide (a < (x0.States.length : Int))) then
 (Yb x0.States a).bind fun b =>
 (Gv K x0 b).bind fun c =>
 bif (!c) then
 some false
 else
 Vo K k (IntKind.i64.wrap (a + (1:Int))) x0
 else
 some true
def Xr (K : Nat) : Nat → Int → Qc → Option Bool
 | 0 => fun _ _ => none
 | k + 1 => fun b x0 =>
 bif (decide (b < (x0.Counts.length : Int))) then
 (Yb x0.Counts b).bind fun a =>
 bif (decide ((Ye.get a (0:Int)) < (1:Int))) then
 Vp K
 else
 bif (decide ((Ye.get a (0:Int)) > (Ye.get a (1:Int)))) then
 Vp K
 else
 bif (decide ((Ye.get a (1:Int)) < (2:Int))) then
 Vp K
 else
 bif (decide ((Ye.get a (1:Int)) > (4096:Int))) then
 Vp K
 else
 Xr K k (IntKind.i64.wrap (b + (1:Int))) x0
 else
 Vo K K (0:Int) x0
def Yj (K : Nat) (x0 : Qc) : Option Bool :=
 (G6 K x0.Split).bind fun b =>
 bif (!b) then
 Zw K
 else
 bif (decide ((x0.Counts.length : Int) > (512:Int))) then
 Zw K
 else
 bif (decide ((x0.States.length : Int) < (1:Int))) then
 Zw K
 else
 bif (decide ((x0.States.length : Int) > (256:Int))) then
 Zw K
 else
 (Yb x0.States (0:Int)).bind fun a =>
 bif (decide ((a.L.length : Int) > (0:Int))) then
 Zw K
 else
 bif (decide ((a.R.length : Int) > (0:Int))) then
 Zw K
 else
 Xr K K (0:Int) x0
def Xl (K : Nat) (e : Bool → Int → Int → Qc → (List Bool) → (List Int) → (List Int) → (List Int) → (List (List Qd)) → Option (List Bool)) : Nat → Bool → Int → Int → Int → Int → Bool → Bool → Qc → (List Bool) → (List Int) → (List Int) → (List Int) → (List (List Qd)) → Option (List Bool)
 | 0 => fun _ _ _ _ _ _ _ _ _ _ _ _ _ => none
 | k + 1 => fun l a c f m n o x0 b g i j d =>
 (Yb d c).bind fun p =>
 bif (decide (f < (p.length : Int))) then
 (Yb p f).bind fun q =>
 (Yb b a).bind fun r =>
 bif r then
 Xl K e k l a c (IntKind.i64.wrap (f + (1:Int))) m n o x0 (List.set b (Int.toNat a) true) g i j d
 else
 bif (decide (q.To ≥ (0:Int))) then
 (Yb b q.To).bind fun s =>
 Xl K e k l a c (IntKind.i64.wrap (f + (1:Int))) m n o x0 (List.set b (Int.toNat a) s) g i j d
 else
 Xl K e k l a c (IntKind.i64.wrap (f + (1:Int))) m n o x0 (List.set b (Int.toNat a) false) g i j d
 else
 bif l then
 e true a (IntKind.i64.wrap (c + (1:Int))) x0 b g i j d
 else
 (Yb b a).bind fun t =>
 e t a (IntKind.i64.wrap (c + (1:Int))) x0 b g i j d
def Ji (K : Nat) (a : Bool → Int → Qc → (List Bool) → Option (List Bool)) (b : Bool) (c : Int) (x0 : Qc) (d : List Bool) : Option (List Bool) :=
 a b (IntKind.i64.wrap (c + (1:Int))) x0 d
def Yc (K : Nat) (c : Bool → Int → Qc → (List Bool) → Option (List Bool)) : Nat → Bool → Int → Int → Qc → (List Bool) → (List Int) → (List Int) → (List Int) → (List (List Qd)) → Option (List Bool)
 | 0 => fun _ _ _ _ _ _ _ _ _ => none
 | k + 1 => fun d a e x0 b j l g i =>
 bif (decide (e < (i.length : Int))) then
 (Yb b a).bind fun f =>
 bif (!f) then
 (Yb g e).bind fun m =>
 Xl K (Yc K c k) K d a e (0:Int) a f (!f) x0 (List.set b (Int.toNat a) (decide (m ≥ (0:Int)))) j l g i
 else
 Ji K c d a x0 b
 else
 Ji K c d a x0 b
def Yk (K : Nat) (d : Bool → Qc → (List Bool) → Option (List Bool)) : Nat → Bool → Int → Qc → (List Bool) → Option (List Bool)
 | 0 => fun _ _ _ _ => none
 | k + 1 => fun e b x0 c =>
 bif (decide (b < (c.length : Int))) then
 (Yb x0.States b).bind fun a =>
 Yc K (Yk K d k) K e b (0:Int) x0 c a.L a.R a.Rule a.Next
 else
 d e x0 c
def Yd (K : Nat) : Nat → Bool → Qc → (List Bool) → Option (List Bool)
 | 0 => fun _ _ _ => none
 | k + 1 => fun b x0 a =>
 bif b then
 Yk K (Yd K k) K false (0:Int) x0 a
 else
 some a
def U1 (K : Nat) (x0 : Qc) : Option (List Bool) :=
 (Yj K x0).bind fun a =>
 bif (!a) then
 some []
 else
 (ck (0 ≤ (x0.States.length : Int))).bind fun _ =>
 (ck (roomy 1 (Int.toNat (x0.States.length : Int)) = true)).bind fun _ =>
 Yd K K true x0 (List.replicate (Int.toNat (x0.States.length : Int)) (false : Bool))
def Uw (K : Nat) (b : Int → Int → Int → (List Int) → Qc → Q5 → (List Ye) → (List Qa) → (List Int) → (List Int) → (List Int) → (List (List Qd)) → (List (List Qd)) → (List Qd) → Option Qc) (c : Int) (d : Int) (e : Int) (x1 : List Int) (x0 : Qc) (f : Q5) (g : List Ye) (i : List Qa) (j : List Int) (l : List Int) (m : List Int) (n : List (List Qd)) (o : List (List Qd)) (a : List Qd) : Option Qc :=
 (ck (roomy 32 (a.length + [(Qd.mk (-1:Int) [])].length) = true)).bind fun _ =>
 b c d (IntKind.i64.wrap (e + (1:Int))) x1 x0 f g i j l m n o (a ++ [(Qd.mk (-1:Int) [])])
def Z3 (K : Nat) (g : Int → Int → (List Int) → Qc → Q5 → (List Ye) → (List Qa) → (List Int) → (List Int) → (List Int) → (List (List Qd)) → (List (List Qd)) → Option Qc) : Nat → Int → Int → Int → (List Int) → Qc → Q5 → (List Ye) → (List Qa) → (List Int) → (List Int) → (List Int) → (List (List Qd)) → (List (List Qd)) → (List Qd) → Option Qc
 | 0 => fun _ _ _ _ _ _ _ _ _ _ _ _ _ _ => none
 | k + 1 => fun i b c x1 x0 j l m n o p d e a =>
 (Yb d b).bind fun r =>
 bif (decide (c < (r.length : Int))) then
 (Yb r c).bind fun f =>
 bif (decide (f.To < (0:Int))) then
 Uw K (Z3 K g k) i b c x1 x0 j l m n o p d e a
 else
 (Yb x1 f.To).bind fun q =>
 bif (decide (q < (0:Int))) then
 Uw K (Z3 K g k) i b c x1 x0 j l m n o p d e a
 else
 (ck (roomy 1 (([] : List Int).length + f.Ops.length) = true)).bind fun _ =>
 (ck (roomy 32 (a.length + [(Qd.mk q (([] : List Int) ++ f.Ops))].length) = true)).bind fun _ =>
 Z3 K g k i b (IntKind.i64.wrap (c + (1:Int))) x1 x0 j l m n o p d e (a ++ [(Qd.mk q (([] : List Int) ++ f.Ops))])
 else
 (ck (roomy 24 (e.length + [a].length) = true)).bind fun _ =>
 g i (IntKind.i64.wrap (b + (1:Int))) x1 x0 j l m n o p d (e ++ [a])
def Y7 (K : Nat) (f : Int → (List Int) → Qc → Q5 → (List Ye) → (List Qa) → Option Qc) : Nat → Int → Int → (List Int) → Qc → Q5 → (List Ye) → (List Qa) → (List Int) → (List Int) → (List Int) → (List (List Qd)) → (List (List Qd)) → Option Qc
 | 0 => fun _ _ _ _ _ _ _ _ _ _ _ _ => none
 | k + 1 => fun g i x1 x0 j l d a b c m e =>
 bif (decide (i < (m.length : Int))) then
 Z3 K (Y7 K f k) K g i (0:Int) x1 x0 j l d a b c m e []
 else
 (ck (roomy 8 (([] : List Int).length + a.length) = true)).bind fun _ =>
 (ck (roomy 8 (([] : List Int).length + b.length) = true)).bind fun _ =>
 (ck (roomy 8 (([] : List Int).length + c.length) = true)).bind fun _ =>
 (ck (roomy 96 (d.length + [(Qa.mk (([] : List Int) ++ a) (([] : List Int) ++ b) (([] : List Int) ++ c) e)].length) = true)).bind fun _ =>
 f (IntKind.i64.wrap (g + (1:Int))) x1 x0 j l (d ++ [(Qa.mk (([] : List Int) ++ a) (([] : List Int) ++ b) (([] : List Int) ++ c) e)])
def Y8 (K : Nat) : Nat → Int → (List Int) → Qc → Q5 → (List Ye) → (List Qa) → Option Qc
 | 0 => fun _ _ _ _ _ _ => none
 | k + 1 => fun b x1 x0 e c d =>
 bif (decide (b < (x0.States.length : Int))) then
 (Yb x0.States b).bind fun a =>
 Y7 K (Y8 K k) K b (0:Int) x1 x0 e c d a.L a.R a.Rule a.Next []
 else
 some (Qc.mk x0.Split c d)
def Vf (K : Nat) (x0 : Qc) (x1 : List Int) : Option Qc :=
 (ck (roomy 16 (([] : List Ye).length + x0.Counts.length) = true)).bind fun _ =>
 Y8 K K (0:Int) x1 x0 (Q5.mk fun _ => 0) (([] : List Ye) ++ x0.Counts) []
def Yl (K : Nat) (g : Int → Int → Qc → (List Int) → (List Bool) → (List Int) → (List Int) → (List Int) → (List (List Qd)) → Option (List Int)) : Nat → Int → Int → Int → Qc → (List Int) → (List Bool) → (List Int) → (List Int) → (List Int) → (List (List Qd)) → Option (List Int)
 | 0 => fun _ _ _ _ _ _ _ _ _ _ => none
 | k + 1 => fun i a b x0 c d j l m e =>
 (Yb e a).bind fun n =>
 bif (decide (b < (n.length : Int))) then
 (Yb n b).bind fun f =>
 bif (decide (f.To ≥ (0:Int))) then
 (Yb d f.To).bind fun o =>
 bif (!o) then
 (ck (roomy 8 (c.length + [f.To].length) = true)).bind fun _ =>
 Yl K g k i a (IntKind.i64.wrap (b + (1:Int))) x0 (c ++ [f.To]) (List.set d (Int.toNat f.To) true) j l m e
 else
 Yl K g k i a (IntKind.i64.wrap (b + (1:Int))) x0 c d j l m e
 else
 Yl K g k i a (IntKind.i64.wrap (b + (1:Int))) x0 c d j l m e
 else
 g i (IntKind.i64.wrap (a + (1:Int))) x0 c d j l m e
def Ym (K : Nat) (a : Int → Qc → (List Int) → (List Bool) → Option (List Int)) : Nat → Int → Int → Qc → (List Int) → (List Bool) → (List Int) → (List Int) → (List Int) → (List (List Qd)) → Option (List Int)
 | 0 => fun _ _ _ _ _ _ _ _ _ => none
 | k + 1 => fun b c x0 d e g i j f =>
 bif (decide (c < (f.length : Int))) then
 Yl K (Ym K a k) K b c (0:Int) x0 d e g i j f
 else
 a (IntKind.i64.wrap (b + (1:Int))) x0 d e
def Y2 (K : Nat) : Nat → Int → Qc → (List Int) → (List Bool) → Option (List Int)
 | 0 => fun _ _ _ _ => none
 | k + 1 => fun c x0 a d =>
 bif (decide (c < (a.length : Int))) then
 (Yb a c).bind fun e =>
 (Yb x0.States e).bind fun b =>
 Ym K (Y2 K k) K c (0:Int) x0 a d b.L b.R b.Rule b.Next
 else
 some a
def Wt (K : Nat) (x0 : Qc) : Option (List Int) :=
 (ck (0 ≤ (x0.States.length : Int))).bind fun _ =>
 (ck (roomy 1 (Int.toNat (x0.States.length : Int)) = true)).bind fun _ =>
 (Yb (List.replicate (Int.toNat (x0.States.length : Int)) (false : Bool)) (0:Int)).bind fun a =>
 Y2 K K (0:Int) x0 [(0:Int)] (List.set (List.replicate (Int.toNat (x0.States.length : Int)) (false : Bool)) (Int.toNat (0:Int)) true)
def Yu (K : Nat) (x2 : Int) (x3 : Int) : Option Bool :=
 some (x2 == x3)
def Yt (K : Nat) : Option Bool :=
 some false
def Ys (K : Nat) (f : (List Int) → Int → (List Int) → (List Int) → (List Int) → (List (List Qd)) → (List Int) → (List Int) → (List Int) → (List (List Qd)) → Option Bool) : Nat → (List Int) → Int → Int → (List Int) → (List Int) → (List Int) → (List (List Qd)) → (List Int) → (List Int) → (List Int) → (List (List Qd)) → Option Bool
 | 0 => fun _ _ _ _ _ _ _ _ _ _ _ => none
 | k + 1 => fun x1 a b g i j c l m n d =>
 (Yb c a).bind fun p =>
 bif (decide (b < (p.length : Int))) then
 (Yb p b).bind fun e =>
 (Yb d a).bind fun q =>
 (Yb q b).bind fun o =>
 bif (!((ofBytes e.Ops).toList == (ofBytes o.Ops).toList)) then
 Yt K
 else
 bif (!((decide (e.To < (0:Int))) == (decide (o.To < (0:Int))))) then
 Yt K
 else
 bif (decide (e.To ≥ (0:Int))) then
 (Yb x1 e.To).bind fun r =>
 (Yb x1 o.To).bind fun s =>
 bif (r != s) then
 Yt K
 else
 Ys K f k x1 a (IntKind.i64.wrap (b + (1:Int))) g i j c l m n d
 else
 Ys K f k x1 a (IntKind.i64.wrap (b + (1:Int))) g i j c l m n d
 else
 f x1 (IntKind.i64.wrap (a + (1:Int))) g i j c l m n d
def Yi (K : Nat) : Nat → (List Int) → Int → (List Int) → (List Int) → (List Int) → (List (List Qd)) → (List Int) → (List Int) → (List Int) → (List (List Qd)) → Option Bool
 | 0 => fun _ _ _ _ _ _ _ _ _ _ => none
 | k + 1 => fun x1 a e f b c g i d j =>
 bif (decide (a < (c.length : Int))) then
 (Yb b a).bind fun l =>
 (Yb d a).bind fun m =>
 bif (l != m) then
 some false
 else
 Ys K (Yi K k) K x1 a (0:Int) e f b c g i d j
 else
 some true
def Xk (K : Nat) : Nat → (List Int) → Int → (List Int) → (List Int) → (List Int) → (List (List Qd)) → (List Int) → (List Int) → (List Int) → (List (List Qd)) → Option Bool
 | 0 => fun _ _ _ _ _ _ _ _ _ _ => none
 | k + 1 => fun x1 a d b e f g c i j =>
 bif (decide (a < (b.length : Int))) then
 (Yb b a).bind fun l =>
 (Yb c a).bind fun m =>
 bif (l != m) then
 some false
 else
 Xk K k x1 (IntKind.i64.wrap (a + (1:Int))) d b e f g c i j
 else
 Yi K K x1 (0:Int) d b e f g c i j
def Wa (K : Nat) (x0 : Qc) (x1 : List Int) (x2 : Int) (x3 : Int) : Option Bool :=
 bif (x2 == (0:Int)) then
 Yu K x2 x3
 else
 bif (x3 == (0:Int)) then
 Yu K x2 x3
 else
 (Yb x1 x2).bind fun c =>
 (Yb x1 x3).bind fun d =>
 bif (c != d) then
 Yu K x2 x3
 else
 (Yb x0.States x2).bind fun a =>
 (Yb x0.States x3).bind fun b =>
 bif ((a.R.length : Int) != (b.R.length : Int)) then
 some false
 else
 Xk K K x1 (0:Int) a.L a.R a.Rule a.Next b.L b.R b.Rule b.Next
def Y3 (K : Nat) (c : (List Int) → Int → Qc → (List Int) → (List Int) → Option ((List Int) × Int)) (x1 : List Int) (a : Int) (d : Int) (x0 : Qc) (e : List Int) (b : List Int) : Option ((List Int) × Int) :=
 (Yb b a).bind fun f =>
 c x1 (IntKind.i64.wrap (a + (1:Int))) x0 e (List.set b (Int.toNat a) d)
def Xx (K : Nat) (d : (List Int) → Int → Qc → (List Int) → (List Int) → Option ((List Int) × Int)) : Nat → (List Int) → Int → Int → Qc → (List Int) → (List Int) → Option ((List Int) × Int)
 | 0 => fun _ _ _ _ _ _ => none
 | k + 1 => fun x1 b c x0 a e =>
 bif (decide (c < (a.length : Int))) then
 (Yb a c).bind fun f =>
 (Wa K x0 x1 f b).bind fun g =>
 bif (!g) then
 Xx K d k x1 b (IntKind.i64.wrap (c + (1:Int))) x0 a e
 else
 bif (c == (a.length : Int)) then
 (ck (roomy 8 (a.length + [b].length) = true)).bind fun _ =>
 Y3 K d x1 b c x0 (a ++ [b]) e
 else
 Y3 K d x1 b c x0 a e
 else
 bif (c == (a.length : Int)) then
 (ck (roomy 8 (a.length + [b].length) = true)).bind fun _ =>
 Y3 K d x1 b c x0 (a ++ [b]) e
 else
 Y3 K d x1 b c x0 a e
def Yn (K : Nat) : Nat → (List Int) → Int → Qc → (List Int) → (List Int) → Option ((List Int) × Int)
 | 0 => fun _ _ _ _ _ => none
 | k + 1 => fun x1 a x0 b c =>
 bif (decide (a < (x1.length : Int))) then
 Xx K (Yn K k) K x1 a (0:Int) x0 b c
 else
 some (c, (b.length : Int))
def Wv (K : Nat) (x0 : Qc) (x1 : List Int) : Option ((List Int) × Int) :=
 (ck (0 ≤ (x1.length : Int))).bind fun _ =>
 (ck (roomy 8 (Int.toNat (x1.length : Int)) = true)).bind fun _ =>
 Yn K K x1 (0:Int) x0 [] (List.replicate (Int.toNat (x1.length : Int)) ((0:Int) : Int))
def Ue (K : Nat) : Nat → (List Int) → Int → Qc → Option (List Int)
 | 0 => fun _ _ _ => none
 | k + 1 => fun b c x0 =>
 (Wv K x0 b).bind fun a =>
 bif (a.2 == c) then
 some a.1
 else
 Ue K k a.1 a.2 x0
def Yv (K : Nat) (x0 : Qc) : Option (List Int) :=
 (Yj K x0).bind fun a =>
 bif (!a) then
 some []
 else
 (ck (0 ≤ (x0.States.length : Int))).bind fun _ =>
 (ck (roomy 8 (Int.toNat (x0.States.length : Int)) = true)).bind fun _ =>
 Ue K K (List.replicate (Int.toNat (x0.States.length : Int)) ((0:Int) : Int)) (0:Int) x0
def Vg (K : Nat) (e : (List Int) → Int → Q5 → Int → (List Ye) → (List Qa) → Q5 → (List Int) → Option (Qc × Int)) : Nat → (List Int) → Int → Int → Q5 → Int → (List Ye) → (List Qa) → Q5 → (List Int) → Option (Qc × Int)
 | 0 => fun _ _ _ _ _ _ _ _ _ => none
 | k + 1 => fun a c b f g i j l d =>
 bif (decide (b < (a.length : Int))) then
 (Yb a b).bind fun m =>
 (Yb a c).bind fun n =>
 bif (m == n) then
 (Yb d b).bind fun o =>
 Vg K e k a c (IntKind.i64.wrap (b + (1:Int))) f g i j l (List.set d (Int.toNat b) c)
 else
 Vg K e k a c (IntKind.i64.wrap (b + (1:Int))) f g i j l d
 else
 e a (IntKind.i64.wrap (c - (1:Int))) f g i j l d
def Jg (K : Nat) : Nat → (List Int) → Int → Q5 → Int → (List Ye) → (List Qa) → Q5 → (List Ye) → (List Qa) → Q5 → Int → (List Ye) → (List Qa) → Option (Qc × Int)
 | 0 => fun _ _ _ _ _ _ _ _ _ _ _ _ _ => none
 | k + 1 => fun a b j l m d n o p e f g c =>
 bif (decide (b < (a.length : Int))) then
 (Yb a b).bind fun q =>
 (Yb d q).bind fun i =>
 (ck (roomy 96 (c.length + [i].length) = true)).bind fun _ =>
 Jg K k a (IntKind.i64.wrap (b + (1:Int))) j l m d n o p e f g (c ++ [i])
 else
 some ((Qc.mk (Q4.mk e f) g c), (0:Int))
def Ub (K : Nat) : Nat → (List Int) → Int → Q5 → Int → (List Ye) → (List Qa) → Q5 → (List Int) → Option (Qc × Int)
 | 0 => fun _ _ _ _ _ _ _ _ => none
 | k + 1 => fun b c e f g i j d =>
 bif (decide (c < (b.length : Int))) then
 (Yb b c).bind fun l =>
 (Yb d l).bind fun m =>
 Ub K k b (IntKind.i64.wrap (c + (1:Int))) e f g i j (List.set d (Int.toNat l) c)
 else
 (Vf K (Qc.mk (Q4.mk e f) g i) d).bind fun a =>
 Jg K K b (0:Int) a.Split.Of a.Split.Many a.Counts a.States j [] [] a.Split.Of a.Split.Many a.Counts []
def Jh (K : Nat) : Nat → (List Int) → Int → Q5 → Int → (List Ye) → (List Qa) → Q5 → (List Int) → Option (Qc × Int)
 | 0 => fun _ _ _ _ _ _ _ _ => none
 | k + 1 => fun c a d e f g i b =>
 bif (decide (a < (b.length : Int))) then
 (Yb b a).bind fun j =>
 Jh K k c (IntKind.i64.wrap (a + (1:Int))) d e f g i (List.set b (Int.toNat a) (-1:Int))
 else
 Ub K K c (0:Int) d e f g i b
def Ud (K : Nat) (a : Q5) (b : Int) (c : List Ye) (d : List Qa) (e : Q5) (f : List Int) : Option (Qc × Int) :=
 (Wt K (Qc.mk (Q4.mk a b) c d)).bind fun g =>
 Jh K K g (0:Int) a b c d e f
def Xm (K : Nat) : Nat → (List Int) → Int → Q5 → Int → (List Ye) → (List Qa) → Q5 → (List Int) → Option (Qc × Int)
 | 0 => fun _ _ _ _ _ _ _ _ => none
 | k + 1 => fun j c d e f g i b =>
 bif (decide (c ≥ (0:Int))) then
 Vg K (Xm K k) K j c (0:Int) d e f g i b
 else
 (Vf K (Qc.mk (Q4.mk d e) f g) b).bind fun a =>
 Ud K a.Split.Of a.Split.Many a.Counts a.States i b
def Uc (K : Nat) : Nat → (List Bool) → Int → Qc → Q5 → (List Int) → Option (Qc × Int)
 | 0 => fun _ _ _ _ _ => none
 | k + 1 => fun e a x0 d c =>
 bif (decide (a < (c.length : Int))) then
 (Yb c a).bind fun i =>
 (Yb e a).bind fun g =>
 bif (!g) then
 (Yb (List.set c (Int.toNat a) a) a).bind fun j =>
 Uc K k e (IntKind.i64.wrap (a + (1:Int))) x0 d (List.set (List.set c (Int.toNat a) a) (Int.toNat a) (-1:Int))
 else
 Uc K k e (IntKind.i64.wrap (a + (1:Int))) x0 d (List.set c (Int.toNat a) a)
 else
 (Vf K x0 c).bind fun b =>
 bif ((b.Counts.length : Int) == (0:Int)) then
 (Yv K b).bind fun f =>
 Xm K K f (IntKind.i64.wrap ((f.length : Int) - (1:Int))) b.Split.Of b.Split.Many b.Counts b.States d c
 else
 Ud K b.Split.Of b.Split.Many b.Counts b.States d c
def H1 (K : Nat) (x0 : Qc) : Option (Qc × Int) :=
 (Yj K x0).bind fun a =>
 bif (!a) then
 some ((Qc.mk (Q4.mk (Q5.mk fun _ => 0) (0:Int)) [] []), (1:Int))
 else
 (U1 K x0).bind fun b =>
 (ck (0 ≤ (x0.States.length : Int))).bind fun _ =>
 (ck (roomy 8 (Int.toNat (x0.States.length : Int)) = true)).bind fun _ =>
 Uc K K b (0:Int) x0 (Q5.mk fun _ => 0) (List.replicate (Int.toNat (x0.States.length : Int)) ((0:Int) : Int))
def Vh (K : Nat) (x0 : Qi) : Option Bool :=
 bif (decide (x0.at_ ≥ (x0.s.size : Int))) then
 some true
 else
 some (x0.e != (0:Int))
def Jd (K : Nat) (x0 : Qi) (x1 : Q3) : Option (Int × Qi) :=
 (ck (roomy 96 (x0.nodes.length + [x1].length) = true)).bind fun _ =>
 some ((IntKind.i64.wrap (((x0.nodes ++ [x1]).length : Int) - (1:Int))), (Qi.mk x0.s x0.at_ (x0.nodes ++ [x1]) x0.deep x0.e x0.where_))
def C5 (K : Nat) : Option ByteArray :=
 some (⟨#[124, 42, 43, 63, 123, 125, 40, 41, 91, 93, 46, 92, 47, 36, 94, 34]⟩ : ByteArray)
def Bi (K : Nat) : Nat → Int → ByteArray → Int → Option Bool
 | 0 => fun _ _ _ => none
 | k + 1 => fun x0 x1 a =>
 bif (decide (a < (x1.size : Int))) then
 (ck (0 ≤ a ∧ a < x1.size)).bind fun _ =>
 bif ((bt x1 a) == x0) then
 none
 else
 Bi K k x0 x1 (IntKind.i64.wrap (a + (1:Int)))
 else
 some false
def Tl (K : Nat) (x0 : Int) (x1 : ByteArray) : Option Bool :=
 Bi K K x0 x1 (0:Int)
def K0 (K : Nat) (x0 : Qi) : Option (Int × Qi) :=
 (ck (0 ≤ x0.at_ ∧ x0.at_ < x0.s.size)).bind fun _ =>
 bif ((bt x0.s x0.at_) != (92:Int)) then
 some ((bt x0.s x0.at_), (Qi.mk x0.s (IntKind.i64.wrap (x0.at_ + (1:Int))) x0.nodes x0.deep x0.e x0.where_))
 else
 none
def Wy (K : Nat) (x0 : Z6) (x1 : Int) : Option Bool :=
 (ck (0 ≤ (IntKind.u8.wrap (Int.tdiv x1 (64:Int))) ∧ (IntKind.u8.wrap (Int.tdiv x1 (64:Int))) < 4)).bind fun _ =>
 (ck (0 ≤ (Int.tmod x1 (64:Int)))).bind fun _ =>
 some ((Int.tmod (Int.fdiv (Z6.get x0 (IntKind.u8.wrap (Int.tdiv x1 (64:Int)))) (2 ^ min (Int.toNat (Int.tmod x1 (64:Int))) IntKind.u64.bits)) (2:Int)) == (1:Int))
def Nv (K : Nat) (x0 : Z6) (x1 : Int) : Option Z6 :=
 (Wy K x0 x1).bind fun a =>
 bif (!a) then
 (ck (0 ≤ (IntKind.u8.wrap (Int.tdiv x1 (64:Int))) ∧ (IntKind.u8.wrap (Int.tdiv x1 (64:Int))) < 4)).bind fun _ =>
 (ck (0 ≤ (Int.tmod x1 (64:Int)))).bind fun _ =>
 some (Z6.set x0 (IntKind.u8.wrap (Int.tdiv x1 (64:Int))) (IntKind.u64.wrap ((Z6.get x0 (IntKind.u8.wrap (Int.tdiv x1 (64:Int)))) + (IntKind.u64.wrap ((1:Int) * 2 ^ min (Int.toNat (Int.tmod x1 (64:Int))) IntKind.u64.bits)))))
 else
 none
def Bl (K : Nat) : Nat → (List Int) → Int → Z6 → Z6 → Option Z6
 | 0 => fun _ _ _ _ => none
 | k + 1 => fun x0 a c b =>
 bif (decide (a < (x0.length : Int))) then
 (Yb x0 a).bind fun d =>
 (Nv K b d).bind fun e =>
 Bl K k x0 (IntKind.i64.wrap (a + (1:Int))) c e
 else
 some b
def F5 (K : Nat) (x0 : List Int) : Option Z6 :=
 Bl K K x0 (0:Int) (Z6.mk 0 0 0 0) (Z6.mk 0 0 0 0)
def L5 (K : Nat) (x0 : Qi) : Option (Int × Qi) :=
 (ck (0 ≤ x0.at_ ∧ x0.at_ < x0.s.size)).bind fun _ =>
 bif ((bt x0.s x0.at_) == (40:Int)) then
 none
 else
 bif ((bt x0.s x0.at_) == (91:Int)) then
 none
 else
 bif ((bt x0.s x0.at_) == (46:Int)) then
 none
 else
 bif ((bt x0.s x0.at_) == (123:Int)) then
 none
 else
 bif ((bt x0.s x0.at_) == (47:Int)) then
 none
 else
 bif ((bt x0.s x0.at_) == (36:Int)) then
 none
 else
 bif ((bt x0.s x0.at_) != (92:Int)) then
 (C5 K).bind fun c =>
 (Tl K (bt x0.s x0.at_) c).bind fun d =>
 bif d then
 none
 else
 (K0 K x0).bind fun a =>
 bif (a.2.e != (0:Int)) then
 none
 else
 (F5 K [a.1]).bind fun f =>
 (Jd K a.2 (Q3.mk (2:Int) f [] (0:Int) (0:Int) (⟨#[]⟩ : ByteArray))).bind fun b =>
 some (b.1, b.2)
 else
 none
def Hg (K : Nat) : Nat → Int → ByteArray → Int → Int → Int → Int → (List Q3) → Option (Int × Qi)
 | 0 => fun _ _ _ _ _ _ _ => none
 | k + 1 => fun g a b c d e f =>
 (Vh K (Qi.mk a b f c d e)).bind fun i =>
 bif (!i) then
 (ck (0 ≤ (Qi.mk a b f c d e).at_ ∧ (Qi.mk a b f c d e).at_ < ((Qi.mk a b f c d e).s).size)).bind fun _ =>
 bif ((bt ((Qi.mk a b f c d e).s) ((Qi.mk a b f c d e).at_)) == (42:Int)) then
 none
 else
 bif ((bt ((Qi.mk a b f c d e).s) ((Qi.mk a b f c d e).at_)) == (43:Int)) then
 none
 else
 bif ((bt ((Qi.mk a b f c d e).s) ((Qi.mk a b f c d e).at_)) == (63:Int)) then
 none
 else
 bif ((bt ((Qi.mk a b f c d e).s) ((Qi.mk a b f c d e).at_)) == (123:Int)) then
 none
 else
 some (g, (Qi.mk a b f c d e))
 else
 some (g, (Qi.mk a b f c d e))
def L4 (K : Nat) (x0 : Qi) : Option (Int × Qi) :=
 (L5 K x0).bind fun a =>
 Hg K K a.1 a.2.s a.2.at_ a.2.deep a.2.e a.2.where_ a.2.nodes
def Jq (K : Nat) (d : ByteArray) (e : Int) (f : Int) (b : Int) (g : Int) (i : List Q3) (a : List Int) : Option (Int × Qi) :=
 bif (b != (0:Int)) then
 none
 else
 bif ((a.length : Int) == (0:Int)) then
 none
 else
 bif ((a.length : Int) == (1:Int)) then
 none
 else
 (Jd K (Qi.mk d e i f b g) (Q3.mk (3:Int) (Z6.mk 0 0 0 0) a (0:Int) (0:Int) (⟨#[]⟩ : ByteArray))).bind fun c =>
 some (c.1, c.2)
def Jp (K : Nat) : Nat → ByteArray → Int → Int → Int → Int → (List Q3) → (List Int) → Option (Int × Qi)
 | 0 => fun _ _ _ _ _ _ _ => none
 | k + 1 => fun a b c d f g j =>
 (Vh K (Qi.mk a b g c d f)).bind fun l =>
 bif (!l) then
 (ck (0 ≤ (Qi.mk a b g c d f).at_ ∧ (Qi.mk a b g c d f).at_ < ((Qi.mk a b g c d f).s).size)).bind fun _ =>
 bif ((bt ((Qi.mk a b g c d f).s) ((Qi.mk a b g c d f).at_)) != (124:Int)) then
 bif ((bt ((Qi.mk a b g c d f).s) ((Qi.mk a b g c d f).at_)) != (41:Int)) then
 (L4 K (Qi.mk a b g c d f)).bind fun i =>
 (ck (roomy 8 (j.length + [i.1].length) = true)).bind fun _ =>
 Jp K k i.2.s i.2.at_ i.2.deep i.2.e i.2.where_ i.2.nodes (j ++ [i.1])
 else
 none
 else
 Jq K ((Qi.mk a b g c d f).s) ((Qi.mk a b g c d f).at_) ((Qi.mk a b g c d f).deep) ((Qi.mk a b g c d f).e) ((Qi.mk a b g c d f).where_) ((Qi.mk a b g c d f).nodes) j
 else
 Jq K ((Qi.mk a b g c d f).s) ((Qi.mk a b g c d f).at_) ((Qi.mk a b g c d f).deep) ((Qi.mk a b g c d f).e) ((Qi.mk a b g c d f).where_) ((Qi.mk a b g c d f).nodes) j
def W5 (K : Nat) (x0 : Qi) : Option (Int × Qi) :=
 Jp K K x0.s x0.at_ x0.deep x0.e x0.where_ x0.nodes []
def Xy (K : Nat) : Nat → ByteArray → Int → Int → Int → Int → (List Q3) → (List Int) → Option (Int × Qi)
 | 0 => fun _ _ _ _ _ _ _ => none
 | k + 1 => fun a b c d f g j =>
 (Vh K (Qi.mk a b g c d f)).bind fun m =>
 bif (!m) then
 (ck (0 ≤ (Qi.mk a b g c d f).at_ ∧ (Qi.mk a b g c d f).at_ < ((Qi.mk a b g c d f).s).size)).bind fun _ =>
 bif ((bt ((Qi.mk a b g c d f).s) ((Qi.mk a b g c d f).at_)) == (124:Int)) then
 (W5 K (Qi.mk ((Qi.mk a b g c d f).s) (IntKind.i64.wrap ((Qi.mk a b g c d f).at_ + (1:Int))) ((Qi.mk a b g c d f).nodes) ((Qi.mk a b g c d f).deep) ((Qi.mk a b g c d f).e) ((Qi.mk a b g c d f).where_))).bind fun i =>
 (ck (roomy 8 (j.length + [i.1].length) = true)).bind fun _ =>
 Xy K k i.2.s i.2.at_ i.2.deep i.2.e i.2.where_ i.2.nodes (j ++ [i.1])
 else
 none
 else
 bif ((j.length : Int) == (1:Int)) then
 none
 else
 bif ((Qi.mk a b g c d f).e != (0:Int)) then
 none
 else
 (Jd K (Qi.mk a b g c d f) (Q3.mk (4:Int) (Z6.mk 0 0 0 0) j (0:Int) (0:Int) (⟨#[]⟩ : ByteArray))).bind fun l =>
 some (l.1, l.2)
def Jv (K : Nat) (x0 : Qi) : Option (Int × Qi) :=
 (W5 K x0).bind fun a =>
 Xy K K a.2.s a.2.at_ a.2.deep a.2.e a.2.where_ a.2.nodes [a.1]
def Fx (K : Nat) (x0 : ByteArray) : Option ((List Q3) × Int × Int) :=
 bif (decide ((x0.size : Int) > (1024:Int))) then
 none
 else
 (Jv K (Qi.mk x0 (0:Int) [] (0:Int) (0:Int) (0:Int))).bind fun a =>
 (Vh K a.2).bind fun b =>
 bif (!b) then
 none
 else
 bif (a.2.e != (0:Int)) then
 none
 else
 bif (decide ((a.2.nodes.length : Int) > (1024:Int))) then
 none
 else
 some (a.2.nodes, (0:Int), (0:Int))
def Lz (K : Nat) (rec_raddleref04_walk : (List Q3) → Int → (List Int) → Option ((List Int) × Bool)) : Nat → (List Q3) → Int → Int → (List Int) → Option ((List Int) × Bool)
 | 0 => fun _ _ _ _ => none
 | k + 1 => fun x0 x1 a b =>
 (Yb x0 x1).bind fun d =>
 bif (decide (a < (d.L.length : Int))) then
 (Yb d.L a).bind fun c =>
 bif (decide (c < (0:Int))) then
 none
 else
 bif (decide (c ≥ x1)) then
 none
 else
 (rec_raddleref04_walk x0 c b).bind fun e =>
 bif (!e.2) then
 none
 else
 Lz K rec_raddleref04_walk k x0 x1 (IntKind.i64.wrap (a + (1:Int))) e.1
 else
 (ck (roomy 8 (b.length + [x1].length) = true)).bind fun _ =>
 some ((b ++ [x1]), true)
def D7 (K : Nat) (rec_raddleref04_walk : (List Q3) → Int → (List Int) → Option ((List Int) × Bool)) (x0 : List Q3) (x1 : Int) (x2 : List Int) : Option ((List Int) × Bool) :=
 bif (decide ((x2.length : Int) ≥ (x0.length : Int))) then
 none
 else
 Lz K rec_raddleref04_walk K x0 x1 (0:Int) x2
def K8 (K : Nat) : Nat → (List Q3) → Int → (List Int) → Option ((List Int) × Bool)
 | 0 => fun _ _ _ => none
 | n + 1 => D7 K (K8 K n)
def Qcq (K : Nat) (x0 : List Q3) (x1 : Int) (x2 : List Int) : Option ((List Int) × Bool) := K8 K K x0 x1 x2
def Ge (K : Nat) (a : Bool) (b : Bool) (c : Bool) (x0 : Q3) (d : Bool) : Option Bool :=
 bif d then
 bif (!a) then
 bif (!b) then
 bif (!c) then
 some (decide ((x0.L.length : Int) ≥ (2:Int)))
 else
 none
 else
 none
 else
 none
 else
 none
def Fu (K : Nat) (x0 : Q3) : Option Bool :=
 bif (x0.Lo != (0:Int)) then
 none
 else
 bif (x0.Op == (1:Int)) then
 none
 else
 bif (x0.Op == (2:Int)) then
 bif (!(Z6.same x0.S (Z6.mk 0 0 0 0))) then
 bif (!(x0.Hi != (0:Int))) then
 bif (!(!(x0.Name.toList == (⟨#[]⟩ : ByteArray).toList))) then
 some ((x0.L.length : Int) == (0:Int))
 else
 none
 else
 none
 else
 none
 else
 bif (x0.Op == (3:Int)) then
 Ge K (!(Z6.same x0.S (Z6.mk 0 0 0 0))) (x0.Hi != (0:Int)) (!(x0.Name.toList == (⟨#[]⟩ : ByteArray).toList)) x0 (x0.Op == (3:Int))
 else
 Ge K (!(Z6.same x0.S (Z6.mk 0 0 0 0))) (x0.Hi != (0:Int)) (!(x0.Name.toList == (⟨#[]⟩ : ByteArray).toList)) x0 (x0.Op == (4:Int))
def Gf (K : Nat) : Nat → Int → (List Int) → Option Bool
 | 0 => fun _ _ => none
 | k + 1 => fun a b =>
 bif (decide (a < (b.length : Int))) then
 (Yb b a).bind fun c =>
 bif (c != a) then
 none
 else
 Gf K k (IntKind.i64.wrap (a + (1:Int))) b
 else
 some true
def Gg (K : Nat) : Nat → (List Q3) → Int → Option Bool
 | 0 => fun _ _ => none
 | k + 1 => fun x0 a =>
 bif (decide (a < (x0.length : Int))) then
 (Yb x0 a).bind fun c =>
 (Fu K c).bind fun d =>
 bif (!d) then
 none
 else
 Gg K k x0 (IntKind.i64.wrap (a + (1:Int)))
 else
 (Qcq K x0 (IntKind.i64.wrap ((x0.length : Int) - (1:Int))) ([] : List Int)).bind fun b =>
 bif (!b.2) then
 none
 else
 bif ((b.1.length : Int) != (x0.length : Int)) then
 none
 else
 Gf K K (0:Int) b.1
def Bj (K : Nat) (x0 : List Q3) : Option Bool :=
 bif (decide ((x0.length : Int) < (1:Int))) then
 none
 else
 bif (decide ((x0.length : Int) > (1024:Int))) then
 none
 else
 Gg K K x0 (0:Int)
def Gc (K : Nat) : Nat → (List Q3) → Int → Option Bool
 | 0 => fun _ _ => none
 | k + 1 => fun x0 a =>
 bif (decide (a < (x0.length : Int))) then
 (Yb x0 a).bind fun b =>
 bif (b.Op == (6:Int)) then
 some false
 else
 Gc K k x0 (IntKind.i64.wrap (a + (1:Int)))
 else
 (Bj K x0).bind fun c =>
 some c
def Bg (K : Nat) (x0 : List Q3) : Option Bool :=
 Gc K K x0 (0:Int)
def Ly (K : Nat) (x0 : Qz) (x1 : Q3) : Option (Int × Qz) :=
 bif (decide ((x0.out.length : Int) ≥ (1024:Int))) then
 none
 else
 (ck (roomy 96 (x0.out.length + [x1].length) = true)).bind fun _ =>
 some ((IntKind.i64.wrap (((x0.out ++ [x1]).length : Int) - (1:Int))), (Qz.mk x0.l x0.most (x0.out ++ [x1]) x0.long))
def Up (K : Nat) (rec_raddleref08_planner_plan : Qz → Int → Option (Int × Qz)) : Nat → Int → (List Q3) → Int → Bool → (List Q3) → Int → Z6 → (List Int) → Int → Int → ByteArray → (List Int) → Option (Int × Qz)
 | 0 => fun _ _ _ _ _ _ _ _ _ _ _ _ => none
 | k + 1 => fun b e f g i j m c n o p d =>
 bif (decide (b < (c.length : Int))) then
 (Yb c b).bind fun r =>
 (rec_raddleref08_planner_plan (Qz.mk e f i g) r).bind fun a =>
 (ck (roomy 8 (d.length + [a.1].length) = true)).bind fun _ =>
 Up K rec_raddleref08_planner_plan k (IntKind.i64.wrap (b + (1:Int))) a.2.l a.2.most a.2.long a.2.out j m c n o p (d ++ [a.1])
 else
 (Ly K (Qz.mk e f i g) (Q3.mk j m d n o p)).bind fun q =>
 some (q.1, q.2)
def He (K : Nat) (rec_raddleref08_planner_plan : Qz → Int → Option (Int × Qz)) (x0 : Qz) (x1 : Int) : Option (Int × Qz) :=
 (Yb x0.l x1).bind fun a =>
 bif x0.long then
 none
 else
 bif (a.Op == (5:Int)) then
 none
 else
 Up K rec_raddleref08_planner_plan K (0:Int) x0.l x0.most x0.long x0.out a.Op a.S a.L a.Lo a.Hi a.Name []
def U8 (K : Nat) : Nat → Qz → Int → Option (Int × Qz)
 | 0 => fun _ _ => none
 | n + 1 => He K (U8 K n)
def Di (K : Nat) (x0 : Qz) (x1 : Int) : Option (Int × Qz) := U8 K K x0 x1
def Nr (K : Nat) (x0 : List Q3) (x1 : Int) : Option ((List Q3) × Int) :=
 (Bg K x0).bind fun b =>
 bif (!b) then
 none
 else
 bif (decide (x1 < (1:Int))) then
 none
 else
 bif (decide (x1 > (4096:Int))) then
 none
 else
 (Di K (Qz.mk x0 x1 [] false) (IntKind.i64.wrap ((x0.length : Int) - (1:Int)))).bind fun a =>
 bif a.2.long then
 none
 else
 (Bj K a.2.out).bind fun c =>
 bif (!c) then
 none
 else
 some (a.2.out, (0:Int))
def Lx (K : Nat) (e : (List Int) → (List Int) → Int → Int → (List Int) → Option (List Int)) (x0 : List Int) (x1 : List Int) (b : Int) (a : Int) (c : List Int) : Option (List Int) :=
 bif (a == (x1.length : Int)) then
 none
 else
 bif (decide (b < (x0.length : Int))) then
 (Yb x0 b).bind fun d =>
 (Yb x1 a).bind fun g =>
 bif (decide (d < g)) then
 (ck (roomy 8 (c.length + [d].length) = true)).bind fun _ =>
 e x0 x1 (IntKind.i64.wrap (b + (1:Int))) a (c ++ [d])
 else
 none
 else
 (Yb x1 a).bind fun f =>
 (ck (roomy 8 (c.length + [f].length) = true)).bind fun _ =>
 e x0 x1 b (IntKind.i64.wrap (a + (1:Int))) (c ++ [f])
def V6 (K : Nat) : Nat → (List Int) → (List Int) → Int → Int → (List Int) → Option (List Int)
 | 0 => fun _ _ _ _ _ => none
 | k + 1 => fun x0 x1 a b c =>
 bif (decide (a < (x0.length : Int))) then
 Lx K (V6 K k) x0 x1 a b c
 else
 bif (decide (b < (x1.length : Int))) then
 Lx K (V6 K k) x0 x1 a b c
 else
 some c
def J8 (K : Nat) (x0 : List Int) (x1 : List Int) : Option (List Int) :=
 V6 K K x0 x1 (0:Int) (0:Int) []
def Uo (K : Nat) : Nat → (List Int) → (List Int) → Int → (List Zz) → Option Qn
 | 0 => fun _ _ _ _ => none
 | k + 1 => fun x1 x2 b c =>
 bif (decide (b < (x1.length : Int))) then
 (Yb x1 b).bind fun d =>
 (Yb c d).bind fun a =>
 (J8 K a.Next x2).bind fun e =>
 Uo K k x1 x2 (IntKind.i64.wrap (b + (1:Int))) (List.set c (Int.toNat d) (Zz.mk a.S a.Lo a.Hi a.Rule a.Last e))
 else
 some (Qn.mk c)
def G2 (K : Nat) (x0 : Qn) (x1 : List Int) (x2 : List Int) : Option Qn :=
 Uo K K x1 x2 (0:Int) x0.p
def U7 (K : Nat) (a : (List Qu) → Int → (List Zz) → Bool → (List Int) → (List Int) → Option (Qu × Qn)) (x1 : List Qu) (b : Int) (c : List Zz) (g : Bool) (d : List Int) (i : List Int) (e : Bool) (j : List Int) (f : List Int) : Option (Qu × Qn) :=
 bif e then
 none
 else
 bif g then
 a x1 (IntKind.i64.wrap (b + (1:Int))) c e d f
 else
 a x1 (IntKind.i64.wrap (b + (1:Int))) c false d f
def Yq (K : Nat) : Nat → (List Qu) → Int → (List Zz) → Bool → (List Int) → (List Int) → Option (Qu × Qn)
 | 0 => fun _ _ _ _ _ _ => none
 | k + 1 => fun x1 b f c e d =>
 bif (decide (b < (x1.length : Int))) then
 (Yb x1 b).bind fun a =>
 (G2 K (Qn.mk f) d a.first).bind fun g =>
 bif c then
 (J8 K e a.first).bind fun i =>
 U7 K (Yq K k) x1 b g.p c i d a.null a.first a.last
 else
 U7 K (Yq K k) x1 b g.p c e d a.null a.first a.last
 else
 some ((Qu.mk c e d), (Qn.mk f))
def Lw (K : Nat) (x0 : Qn) (x1 : List Qu) : Option (Qu × Qn) :=
 Yq K K x1 (0:Int) x0.p true [] []
def Lv (K : Nat) (x0 : Qn) (x1 : Zz) : Option (Qu × Qn) :=
 (ck (roomy 88 (x0.p.length + [x1].length) = true)).bind fun _ =>
 some ((Qu.mk false [(IntKind.i64.wrap (((x0.p ++ [x1]).length : Int) - (1:Int)))] [(IntKind.i64.wrap (((x0.p ++ [x1]).length : Int) - (1:Int)))]), (Qn.mk (x0.p ++ [x1])))
def Um (K : Nat) (rec_raddleref09_builder_node : Qn → (List Q3) → Int → Int → Option (Qu × Qn)) : Nat → Int → (List Zz) → (List Int) → (List Int) → Int → Z6 → (List Int) → Int → Int → ByteArray → (List Qu) → Bool → (List Int) → (List Int) → Option (Qu × Qn)
 | 0 => fun _ _ _ _ _ _ _ _ _ _ _ _ _ _ => none
 | k + 1 => fun a d j l e m n o p q b f g i =>
 bif (decide (a < (b.length : Int))) then
 bif f then
 none
 else
 (Yb b a).bind fun c =>
 (J8 K g c.first).bind fun r =>
 (J8 K i c.last).bind fun s =>
 Um K rec_raddleref09_builder_node k (IntKind.i64.wrap (a + (1:Int))) d j l e m n o p q b c.null r s
 else
 bif (e == (5:Int)) then
 none
 else
 some ((Qu.mk f g i), (Qn.mk d))
def Un (K : Nat) (rec_raddleref09_builder_node : Qn → (List Q3) → Int → Int → Option (Qu × Qn)) : Nat → (List Q3) → Int → Int → (List Zz) → Int → Z6 → (List Int) → Int → Int → ByteArray → (List Qu) → Option (Qu × Qn)
 | 0 => fun _ _ _ _ _ _ _ _ _ _ _ => none
 | k + 1 => fun x1 x3 d e a g b i j l c =>
 bif (decide (d < (b.length : Int))) then
 (Yb b d).bind fun n =>
 (rec_raddleref09_builder_node (Qn.mk e) x1 n x3).bind fun f =>
 (ck (roomy 56 (c.length + [f.1].length) = true)).bind fun _ =>
 Un K rec_raddleref09_builder_node k x1 x3 (IntKind.i64.wrap (d + (1:Int))) f.2.p a g b i j l (c ++ [f.1])
 else
 bif (a == (3:Int)) then
 (Lw K (Qn.mk e) c).bind fun m =>
 some (m.1, m.2)
 else
 Um K rec_raddleref09_builder_node K (0:Int) e [] [] a g b i j l c (a == (5:Int)) [] []
def Hd (K : Nat) (rec_raddleref09_builder_node : Qn → (List Q3) → Int → Int → Option (Qu × Qn)) (x0 : Qn) (x1 : List Q3) (x2 : Int) (x3 : Int) : Option (Qu × Qn) :=
 (Yb x1 x2).bind fun a =>
 bif (a.Op == (1:Int)) then
 none
 else
 bif (a.Op == (2:Int)) then
 (Lv K x0 (Zz.mk a.S (1:Int) (1:Int) x3 false [])).bind fun b =>
 some (b.1, b.2)
 else
 bif (a.Op == (5:Int)) then
 none
 else
 Un K rec_raddleref09_builder_node K x1 x3 (0:Int) x0.p a.Op a.S a.L a.Lo a.Hi a.Name []
def U5 (K : Nat) : Nat → Qn → (List Q3) → Int → Int → Option (Qu × Qn)
 | 0 => fun _ _ _ _ => none
 | n + 1 => Hd K (U5 K n)
def Dh (K : Nat) (x0 : Qn) (x1 : List Q3) (x2 : Int) (x3 : Int) : Option (Qu × Qn) := U5 K K x0 x1 x2 x3
def Gb (K : Nat) : Nat → (List Q3) → Int → Option Bool
 | 0 => fun _ _ => none
 | k + 1 => fun x0 a =>
 bif (decide (a < (x0.length : Int))) then
 (Yb x0 a).bind fun b =>
 bif (b.Op == (5:Int)) then
 none
 else
 Gb K k x0 (IntKind.i64.wrap (a + (1:Int)))
 else
 some true
def Ft (K : Nat) (x0 : List Q3) : Option Bool :=
 (Bg K x0).bind fun a =>
 bif (!a) then
 none
 else
 Gb K K x0 (0:Int)
def Be (K : Nat) (e : (List (List Q3)) → Int → (List Int) → (List Zz) → (List Zz) → (List Int) → (List Zz) → Option (Zv × Int)) : Nat → (List (List Q3)) → Int → Int → (List Int) → (List Zz) → (List Zz) → (List Int) → (List Zz) → Bool → (List Int) → (List Int) → Option (Zv × Int)
 | 0 => fun _ _ _ _ _ _ _ _ _ _ _ => none
 | k + 1 => fun x0 f c g i b j l n o d =>
 bif (decide (c < (d.length : Int))) then
 (Yb d c).bind fun m =>
 (Yb b m).bind fun a =>
 Be K e k x0 f (IntKind.i64.wrap (c + (1:Int))) g i (List.set b (Int.toNat m) (Zz.mk a.S a.Lo a.Hi a.Rule true a.Next)) j l n o d
 else
 bif (decide ((b.length : Int) > (512:Int))) then
 none
 else
 e x0 (IntKind.i64.wrap (f + (1:Int))) g i b j l
def G4 (K : Nat) : Nat → (List (List Q3)) → Int → (List Int) → (List Zz) → (List Zz) → (List Int) → (List Zz) → Option (Zv × Int)
 | 0 => fun _ _ _ _ _ _ _ => none
 | k + 1 => fun x0 b f g c d i =>
 bif (decide (b < (x0.length : Int))) then
 (Yb x0 b).bind fun e =>
 (Dh K (Qn.mk c) e (IntKind.i64.wrap ((e.length : Int) - (1:Int))) b).bind fun a =>
 (J8 K d a.1.first).bind fun j =>
 Be K (G4 K k) K x0 b (0:Int) f g a.2.p j i a.1.null a.1.first a.1.last
 else
 some ((Zv.mk d c), (0:Int))
def Bf (K : Nat) : Nat → (List (List Q3)) → Int → Option (Zv × Int)
 | 0 => fun _ _ => none
 | k + 1 => fun x0 a =>
 bif (decide (a < (x0.length : Int))) then
 (Yb x0 a).bind fun b =>
 (Ft K b).bind fun c =>
 bif (!c) then
 none
 else
 Bf K k x0 (IntKind.i64.wrap (a + (1:Int)))
 else
 G4 K K x0 (0:Int) [] [] [] [] []
def Td (K : Nat) (x0 : List (List Q3)) : Option (Zv × Int) :=
 bif (decide ((x0.length : Int) > (512:Int))) then
 none
 else
 Bf K K x0 (0:Int)
def We (K : Nat) : Nat → (List Int) → Int → Int → Option Bool
 | 0 => fun _ _ _ => none
 | k + 1 => fun x0 x1 a =>
 bif (decide (a < (x0.length : Int))) then
 (Yb x0 a).bind fun b =>
 bif (decide (b < (0:Int))) then
 none
 else
 bif (decide (b ≥ x1)) then
 none
 else
 bif (decide (a > (0:Int))) then
 (Yb x0 (IntKind.i64.wrap (a - (1:Int)))).bind fun c =>
 bif (decide (c ≥ b)) then
 none
 else
 We K k x0 x1 (IntKind.i64.wrap (a + (1:Int)))
 else
 We K k x0 x1 (IntKind.i64.wrap (a + (1:Int)))
 else
 some true
def Ba (K : Nat) (x0 : List Int) (x1 : Int) : Option Bool :=
 We K K x0 x1 (0:Int)
def Ga (K : Nat) : Nat → Int → Zv → Option Bool
 | 0 => fun _ _ => none
 | k + 1 => fun b x0 =>
 bif (decide (b < (x0.P.length : Int))) then
 (Yb x0.P b).bind fun a =>
 bif (Z6.same a.S (Z6.mk 0 0 0 0)) then
 none
 else
 bif (decide (a.Lo < (1:Int))) then
 none
 else
 bif (decide (a.Lo > a.Hi)) then
 none
 else
 bif (decide (a.Hi > (4096:Int))) then
 none
 else
 bif (decide (a.Rule < (0:Int))) then
 none
 else
 bif (decide (a.Rule ≥ (512:Int))) then
 none
 else
 (Ba K a.Next (x0.P.length : Int)).bind fun c =>
 bif (!c) then
 none
 else
 Ga K k (IntKind.i64.wrap (b + (1:Int))) x0
 else
 some true
def Fs (K : Nat) (x0 : Zv) : Option Bool :=
 bif (decide ((x0.P.length : Int) > (512:Int))) then
 none
 else
 (Ba K x0.First (x0.P.length : Int)).bind fun a =>
 bif (!a) then
 none
 else
 Ga K K (0:Int) x0
def Gi (K : Nat) : Nat → (List Z6) → Int → Int → Int → Option Bool
 | 0 => fun _ _ _ _ => none
 | k + 1 => fun x0 x1 x2 a =>
 bif (decide (a < (x0.length : Int))) then
 (Yb x0 a).bind fun b =>
 (Wy K b x1).bind fun c =>
 (Wy K b x2).bind fun d =>
 bif (!(c == d)) then
 some false
 else
 Gi K k x0 x1 x2 (IntKind.i64.wrap (a + (1:Int)))
 else
 some true
def Fy (K : Nat) (x0 : List Z6) (x1 : Int) (x2 : Int) : Option Bool :=
 Gi K K x0 x1 x2 (0:Int)
def Wn (K : Nat) (b : (List Z6) → Int → Q5 → Q5 → (List Int) → Option Q4) (x0 : List Z6) (a : Int) (c : Int) (d : Q5) (e : Q5) (f : List Int) : Option Q4 :=
 (ck (0 ≤ a ∧ a < 256)).bind fun _ =>
 b x0 (IntKind.i64.wrap (a + (1:Int))) d (Q5.set e a (IntKind.u8.wrap c)) f
def Bk (K : Nat) (d : (List Z6) → Int → Q5 → Q5 → (List Int) → Option Q4) : Nat → (List Z6) → Int → Int → Q5 → Q5 → (List Int) → Option Q4
 | 0 => fun _ _ _ _ _ _ => none
 | k + 1 => fun x0 b c e f a =>
 bif (decide (c < (a.length : Int))) then
 (Yb a c).bind fun g =>
 (Fy K x0 g (IntKind.u8.wrap b)).bind fun i =>
 bif (!i) then
 Bk K d k x0 b (IntKind.i64.wrap (c + (1:Int))) e f a
 else
 bif (c == (a.length : Int)) then
 (ck (roomy 1 (a.length + [(IntKind.u8.wrap b)].length) = true)).bind fun _ =>
 Wn K d x0 b c e f (a ++ [(IntKind.u8.wrap b)])
 else
 Wn K d x0 b c e f a
 else
 bif (c == (a.length : Int)) then
 (ck (roomy 1 (a.length + [(IntKind.u8.wrap b)].length) = true)).bind fun _ =>
 Wn K d x0 b c e f (a ++ [(IntKind.u8.wrap b)])
 else
 Wn K d x0 b c e f a
def G7 (K : Nat) : Nat → (List Z6) → Int → Q5 → Q5 → (List Int) → Option Q4
 | 0 => fun _ _ _ _ _ => none
 | k + 1 => fun x0 a d b c =>
 bif (decide (a < (256:Int))) then
 Bk K (G7 K k) K x0 a (0:Int) d b c
 else
 some (Q4.mk b (c.length : Int))
def Tp (K : Nat) (x0 : List Z6) : Option Q4 :=
 G7 K K x0 (0:Int) (Q5.mk fun _ => 0) (Q5.mk fun _ => 0) []
def Wi (K : Nat) : Nat → Int → Int → Qm → Qa → Option Int
 | 0 => fun _ _ _ _ => none
 | k + 1 => fun x2 x3 x0 x1 =>
 bif (decide ((0:Int) < (x1.R.length : Int))) then
 none
 else
 some (-1:Int)
def Jo (K : Nat) (x0 : Qm) (x1 : Qa) (x2 : Int) (x3 : Int) : Option Int :=
 Wi K K x2 x3 x0 x1
def J5 (K : Nat) (x0 : Qm) (x1 : Qa) (x2 : Int) (x3 : Int) : Option Bool :=
 (Jo K x0 x1 x2 x3).bind fun a =>
 some (a != (0:Int))
def X7 (K : Nat) : Nat → Int → Int → Int → Qm → Qa → Option Int
 | 0 => fun _ _ _ _ _ => none
 | k + 1 => fun x2 b a x0 x1 =>
 bif (decide (a < (x1.L.length : Int))) then
 (Yb x1.L a).bind fun c =>
 (Yb x0.g.P c).bind fun d =>
 bif d.Last then
 (J5 K x0 x1 x2 c).bind fun e =>
 bif e then
 bif (decide (b < (0:Int))) then
 X7 K k x2 d.Rule (IntKind.i64.wrap (a + (1:Int))) x0 x1
 else
 none
 else
 none
 else
 X7 K k x2 b (IntKind.i64.wrap (a + (1:Int))) x0 x1
 else
 some b
def Gw (K : Nat) (x0 : Qm) (x1 : Qa) (x2 : Int) : Option Int :=
 X7 K K x2 (-1:Int) (0:Int) x0 x1
def Hp (K : Nat) : Nat → Int → Int → Q4 → Z6 → (List Int) → Option Z6
 | 0 => fun _ _ _ _ _ => none
 | k + 1 => fun x1 a x0 c b =>
 bif (decide (a < (256:Int))) then
 (ck (0 ≤ a ∧ a < 256)).bind fun _ =>
 bif ((IntKind.i64.wrap (Q5.get x0.Of a)) == x1) then
 (ck (roomy 1 (b.length + [(IntKind.u8.wrap a)].length) = true)).bind fun _ =>
 Hp K k x1 (IntKind.i64.wrap (a + (1:Int))) x0 c (b ++ [(IntKind.u8.wrap a)])
 else
 Hp K k x1 (IntKind.i64.wrap (a + (1:Int))) x0 c b
 else
 (F5 K b).bind fun d =>
 some d
def P6 (K : Nat) (x0 : Q4) (x1 : Int) : Option Z6 :=
 Hp K K x1 (0:Int) x0 (Z6.mk 0 0 0 0) []
def Wx (K : Nat) : Nat → Int → Z6 → (List Int) → Option (List Int)
 | 0 => fun _ _ _ => none
 | k + 1 => fun a x0 b =>
 bif (decide (a < (256:Int))) then
 (Wy K x0 (IntKind.u8.wrap a)).bind fun c =>
 bif c then
 (ck (roomy 1 (b.length + [(IntKind.u8.wrap a)].length) = true)).bind fun _ =>
 Wx K k (IntKind.i64.wrap (a + (1:Int))) x0 (b ++ [(IntKind.u8.wrap a)])
 else
 Wx K k (IntKind.i64.wrap (a + (1:Int))) x0 b
 else
 some b
def Nw (K : Nat) (x0 : Z6) : Option (List Int) :=
 Wx K K (0:Int) x0 []
def Gj (K : Nat) : Nat → Int → Q4 → (List Int) → Option (List Int)
 | 0 => fun _ _ _ => none
 | k + 1 => fun a x0 b =>
 bif (decide (a < x0.Many)) then
 (P6 K x0 a).bind fun e =>
 (Nw K e).bind fun c =>
 bif ((c.length : Int) == (0:Int)) then
 none
 else
 (Yb c (0:Int)).bind fun d =>
 (ck (roomy 1 (b.length + [d].length) = true)).bind fun _ =>
 Gj K k (IntKind.i64.wrap (a + (1:Int))) x0 (b ++ [d])
 else
 some b
def Fz (K : Nat) (x0 : Q4) : Option (List Int) :=
 bif (decide (x0.Many < (1:Int))) then
 none
 else
 bif (decide (x0.Many > (256:Int))) then
 none
 else
 Gj K K (0:Int) x0 []
def V0 (K : Nat) : Nat → Int → Int → Int → Qm → Qa → Option Bool
 | 0 => fun _ _ _ _ _ => none
 | k + 1 => fun x3 x4 a x0 x2 =>
 bif (decide (a < (x2.L.length : Int))) then
 (Yb x2.L a).bind fun b =>
 (J5 K x0 x2 x3 b).bind fun c =>
 bif c then
 (Yb x0.g.P b).bind fun d =>
 (Wl K d.Next x4).bind fun e =>
 bif e then
 some true
 else
 V0 K k x3 x4 (IntKind.i64.wrap (a + (1:Int))) x0 x2
 else
 none
 else
 some false
def Hc (K : Nat) (x0 : Qm) (x1 : Int) (x2 : Qa) (x3 : Int) (x4 : Int) : Option Bool :=
 bif (x1 == (0:Int)) then
 (Wl K x0.g.First x4).bind fun a =>
 some a
 else
 V0 K K x3 x4 (0:Int) x0 x2
def H2 (K : Nat) (x0 : Qm) (x1 : Qa) (x2 : Int) (x3 : Int) : Option Bool :=
 (Jo K x0 x1 x2 x3).bind fun a =>
 (Wl K x1.L x3).bind fun b =>
 bif b then
 bif (a == (0:Int)) then
 none
 else
 some (a == (2:Int))
 else
 some false
def Ul (K : Nat) (b : (List Int) → Int → Qm → Option (Int × Qm)) : Nat → (List Int) → Int → (List Int) → Bool → Int → Qm → Option (Int × Qm)
 | 0 => fun _ _ _ _ _ _ => none
 | k + 1 => fun x1 c d e a x0 =>
 bif (decide (a < (x1.length : Int))) then
 bif e then
 (Yb d a).bind fun f =>
 (Yb x1 a).bind fun g =>
 Ul K b k x1 c d (f == g) (IntKind.i64.wrap (a + (1:Int))) x0
 else
 none
 else
 bif e then
 none
 else
 b x1 (IntKind.i64.wrap (c + (1:Int))) x0
def Uk (K : Nat) : Nat → (List Int) → Int → Qm → Option (Int × Qm)
 | 0 => fun _ _ _ => none
 | k + 1 => fun x1 b x0 =>
 bif (decide (b < (x1.length : Int))) then
 (Yb x1 b).bind fun c =>
 (Yb x0.number c).bind fun d =>
 bif (decide (d ≥ (0:Int))) then
 none
 else
 Uk K k x1 (IntKind.i64.wrap (b + (1:Int))) x0
 else
 bif (decide ((x0.a.States.length : Int) ≥ (256:Int))) then
 none
 else
 (ck (roomy 96 (x0.a.States.length + [(Qa.mk x1 [] [] [])].length) = true)).bind fun _ =>
 some ((IntKind.i64.wrap (((x0.a.States ++ [(Qa.mk x1 [] [] [])]).length : Int) - (1:Int))), (Qm.mk x0.g x0.number (Qc.mk x0.a.Split x0.a.Counts (x0.a.States ++ [(Qa.mk x1 [] [] [])])) x0.e))
def X8 (K : Nat) : Nat → (List Int) → Int → Qm → Option (Int × Qm)
 | 0 => fun _ _ _ => none
 | k + 1 => fun x1 b x0 =>
 bif (decide (b < (x0.a.States.length : Int))) then
 (Yb x0.a.States b).bind fun c =>
 bif ((c.L.length : Int) == (x1.length : Int)) then
 Ul K (X8 K k) K x1 b c.L true (0:Int) x0
 else
 none
 else
 Uk K K x1 (0:Int) x0
def Gz (K : Nat) (x0 : Qm) (x1 : List Int) : Option (Int × Qm) :=
 X8 K K x1 (1:Int) x0
def Xb (K : Nat) : Nat → Int → Int → Int → Int → Qm → (List Int) → (List Int) → (List Int) → (List (List Qd)) → (List Int) → Option (Qd × Qm)
 | 0 => fun _ _ _ _ _ _ _ _ _ _ => none
 | k + 1 => fun x1 x2 i a x0 c d e f b =>
 bif (decide (a < (x0.g.P.length : Int))) then
 (Yb x0.g.P a).bind fun l =>
 (Wy K l.S i).bind fun m =>
 bif (!m) then
 Xb K k x1 x2 i (IntKind.i64.wrap (a + (1:Int))) x0 c d e f b
 else
 (Hc K x0 x1 (Qa.mk c d e f) x2 a).bind fun n =>
 (H2 K x0 (Qa.mk c d e f) x2 a).bind fun o =>
 bif (!n) then
 bif (!o) then
 Xb K k x1 x2 i (IntKind.i64.wrap (a + (1:Int))) x0 c d e f b
 else
 none
 else
 (ck (roomy 8 (b.length + [a].length) = true)).bind fun _ =>
 (Yb x0.number a).bind fun p =>
 bif (decide (p < (0:Int))) then
 Xb K k x1 x2 i (IntKind.i64.wrap (a + (1:Int))) x0 c d e f (b ++ [a])
 else
 none
 else
 bif ((b.length : Int) == (0:Int)) then
 some ((Qd.mk (-1:Int) []), x0)
 else
 (Gz K x0 b).bind fun j =>
 some ((Qd.mk j.1 []), j.2)
def Gx (K : Nat) (x0 : Qm) (x1 : Int) (x2 : Int) (x3 : Int) : Option (Qd × Qm) :=
 (Yb x0.a.States x1).bind fun b =>
 (Fz K x0.a.Split).bind fun c =>
 (Yb c x3).bind fun d =>
 Xb K K x1 x2 d (0:Int) x0 b.L b.R b.Rule b.Next []
def M8 (K : Nat) (m : Int → Int → Int → Q5 → (List Int) → (List Zz) → Q5 → Int → Int → (List Int) → (List Ye) → (List Qa) → (List Int) → (List (List Qd)) → Option (Qc × Int)) : Nat → Int → Int → Int → Int → Q5 → (List Int) → (List Zz) → Q5 → Int → Int → (List Int) → (List Ye) → (List Qa) → (List Int) → (List (List Qd)) → (List Qd) → Option (Qc × Int)
 | 0 => fun _ _ _ _ _ _ _ _ _ _ _ _ _ _ _ _ => none
 | k + 1 => fun d n f i o p q r j s t u v w l c =>
 bif (decide (i < j)) then
 (Gx K (Qm.mk (Zv.mk p q) t (Qc.mk (Q4.mk r j) u v) s) d f i).bind fun b =>
 (ck (roomy 32 (c.length + [b.1].length) = true)).bind fun _ =>
 bif (b.2.e != (0:Int)) then
 none
 else
 M8 K m k d n f (IntKind.i64.wrap (i + (1:Int))) o b.2.g.First b.2.g.P b.2.a.Split.Of b.2.a.Split.Many b.2.e b.2.number b.2.a.Counts b.2.a.States w l (c ++ [b.1])
 else
 (ck (roomy 24 (l.length + [c].length) = true)).bind fun _ =>
 m d n (IntKind.i64.wrap (f + (1:Int))) o p q r j s t u v w (l ++ [c])
def G0 (K : Nat) (s : Int → Q5 → (List Int) → (List Zz) → Q5 → Int → Int → (List Int) → (List Ye) → (List Qa) → Option (Qc × Int)) : Nat → Int → Int → Int → Q5 → (List Int) → (List Zz) → Q5 → Int → Int → (List Int) → (List Ye) → (List Qa) → (List Int) → (List (List Qd)) → Option (Qc × Int)
 | 0 => fun _ _ _ _ _ _ _ _ _ _ _ _ _ _ => none
 | k + 1 => fun n t q u c d f i j l m b p v =>
 bif (decide (q < t)) then
 (Yb b n).bind fun y =>
 (Gw K (Qm.mk (Zv.mk c d) l (Qc.mk (Q4.mk f i) m b) j) y q).bind fun w =>
 (ck (roomy 8 (p.length + [w].length) = true)).bind fun _ =>
 M8 K (G0 K s k) K n t q (0:Int) u ((Qm.mk (Zv.mk c d) l (Qc.mk (Q4.mk f i) m b) j).g.First) ((Qm.mk (Zv.mk c d) l (Qc.mk (Q4.mk f i) m b) j).g.P) ((Qm.mk (Zv.mk c d) l (Qc.mk (Q4.mk f i) m b) j).a.Split.Of) ((Qm.mk (Zv.mk c d) l (Qc.mk (Q4.mk f i) m b) j).a.Split.Many) ((Qm.mk (Zv.mk c d) l (Qc.mk (Q4.mk f i) m b) j).e) ((Qm.mk (Zv.mk c d) l (Qc.mk (Q4.mk f i) m b) j).number) ((Qm.mk (Zv.mk c d) l (Qc.mk (Q4.mk f i) m b) j).a.Counts) ((Qm.mk (Zv.mk c d) l (Qc.mk (Q4.mk f i) m b) j).a.States) (p ++ [w]) v []
 else
 (Yb b n).bind fun o =>
 (Yb (List.set b (Int.toNat n) (Qa.mk o.L o.R p o.Next)) n).bind fun r =>
 s (IntKind.i64.wrap (n + (1:Int))) u c d f i j l m (List.set (List.set b (Int.toNat n) (Qa.mk o.L o.R p o.Next)) (Int.toNat n) (Qa.mk r.L r.R r.Rule v))
def G1 (K : Nat) : Nat → Int → Q5 → (List Int) → (List Zz) → Q5 → Int → Int → (List Int) → (List Ye) → (List Qa) → Option (Qc × Int)
 | 0 => fun _ _ _ _ _ _ _ _ _ _ => none
 | k + 1 => fun b f g i c d j l e a =>
 bif (decide (b < (a.length : Int))) then
 (Yb a b).bind fun m =>
 (Jk K (m.R.length : Int)).bind fun n =>
 G0 K (G1 K k) K b n (0:Int) f g i c d j l e a [] []
 else
 some ((Qc.mk (Q4.mk c d) e a), (0:Int))
def M9 (K : Nat) : Nat → Int → Zv → Q5 → Q5 → (List Int) → (List Z6) → Option (Qc × Int)
 | 0 => fun _ _ _ _ _ _ => none
 | k + 1 => fun a x0 e g b c =>
 bif (decide (a < (x0.P.length : Int))) then
 (Yb x0.P a).bind fun d =>
 (ck (roomy 32 (c.length + [d.S].length) = true)).bind fun _ =>
 bif (decide (d.Hi > (1:Int))) then
 none
 else
 (ck (roomy 8 (b.length + [(-1:Int)].length) = true)).bind fun _ =>
 M9 K k (IntKind.i64.wrap (a + (1:Int))) x0 e g (b ++ [(-1:Int)]) (c ++ [d.S])
 else
 (Tp K c).bind fun f =>
 G1 K K (0:Int) e x0.First x0.P f.Of f.Many (0:Int) b [] [(Qa.mk [] [] [] [])]
def S6 (K : Nat) (x0 : Zv) : Option (Qc × Int) :=
 (Fs K x0).bind fun a =>
 bif (!a) then
 none
 else
 M9 K K (0:Int) x0 (Q5.mk fun _ => 0) (Q5.mk fun _ => 0) [] []
def G9 (K : Nat) : Option Bool :=
 (Fx K (⟨#[97, 98, 124, 99, 98]⟩ : ByteArray)).bind fun b =>
 (Nr K b.1 (1:Int)).bind fun c =>
 (Td K [c.1]).bind fun d =>
 (S6 K d.1).bind fun e =>
 (Qef K e.1).bind fun a =>
 bif (a.2 == (0:Int)) then
 some ((a.1.States.length : Int) == (3:Int))
 else
 some false
def V4 (K : Nat) : Nat → (List Int) → (List Int) → Int → Option Bool
 | 0 => fun _ _ _ => none
 | k + 1 => fun x0 x1 a =>
 bif (decide (a < (x0.length : Int))) then
 (Yb x0 a).bind fun b =>
 (Yb x1 a).bind fun c =>
 bif (b != c) then
 some false
 else
 V4 K k x0 x1 (IntKind.i64.wrap (a + (1:Int)))
 else
 some true
def J6 (K : Nat) (x0 : List Int) (x1 : List Int) : Option Bool :=
 bif ((x0.length : Int) != (x1.length : Int)) then
 some false
 else
 V4 K K x0 x1 (0:Int)
def H9 (K : Nat) (x0 : Qd) (x1 : Qd) : Option Bool :=
 bif (x0.To == x1.To) then
 some ((ofBytes x0.Ops).toList == (ofBytes x1.Ops).toList)
 else
 some false
def X0 (K : Nat) : Option Bool :=
 some false
def Xa (K : Nat) (c : Int → Qa → Qa → Option Bool) : Nat → Int → Int → Qa → Qa → Option Bool
 | 0 => fun _ _ _ _ => none
 | k + 1 => fun a b x0 x1 =>
 (Yb x0.Next a).bind fun d =>
 bif (decide (b < (d.length : Int))) then
 (Yb d b).bind fun e =>
 (Yb x1.Next a).bind fun f =>
 (Yb f b).bind fun g =>
 (H9 K e g).bind fun i =>
 bif (!i) then
 some false
 else
 Xa K c k a (IntKind.i64.wrap (b + (1:Int))) x0 x1
 else
 c (IntKind.i64.wrap (a + (1:Int))) x0 x1
def Z7 (K : Nat) : Nat → Int → Qa → Qa → Option Bool
 | 0 => fun _ _ _ => none
 | k + 1 => fun a x0 x1 =>
 bif (decide (a < (x0.Next.length : Int))) then
 (Yb x0.Next a).bind fun b =>
 (Yb x1.Next a).bind fun c =>
 bif ((b.length : Int) != (c.length : Int)) then
 some false
 else
 Xa K (Z7 K k) K a (0:Int) x0 x1
 else
 some true
def Ju (K : Nat) (x0 : Qa) (x1 : Qa) : Option Bool :=
 (J6 K x0.L x1.L).bind fun a =>
 bif (!a) then
 X0 K
 else
 (J6 K x0.R x1.R).bind fun b =>
 bif (!b) then
 X0 K
 else
 (J6 K x0.Rule x1.Rule).bind fun c =>
 bif (!c) then
 X0 K
 else
 bif ((x0.Next.length : Int) != (x1.Next.length : Int)) then
 X0 K
 else
 Z7 K K (0:Int) x0 x1
def Vw (K : Nat) : Option Bool :=
 some false
def Yy (K : Nat) : Nat → Int → Qc → Qc → Option Bool
 | 0 => fun _ _ _ => none
 | k + 1 => fun a x0 x1 =>
 bif (decide (a < (x0.States.length : Int))) then
 (Yb x0.States a).bind fun b =>
 (Yb x1.States a).bind fun c =>
 (Ju K b c).bind fun d =>
 bif (!d) then
 some false
 else
 Yy K k (IntKind.i64.wrap (a + (1:Int))) x0 x1
 else
 some true
def W3 (K : Nat) (x0 : Qc) (x1 : Qc) : Option Bool :=
 bif (!(([Q5.list 256 x0.Split.Of, [x0.Split.Many]] : List (List Int)) == [Q5.list 256 x1.Split.Of, [x1.Split.Many]])) then
 Vw K
 else
 bif ((x0.States.length : Int) != (x1.States.length : Int)) then
 Vw K
 else
 bif ((x0.Counts.length : Int) != (x1.Counts.length : Int)) then
 Vw K
 else
 Yy K K (0:Int) x0 x1
def V5 (K : Nat) : Nat → Int → Qc → Qc → Option Bool
 | 0 => fun _ _ _ => none
 | k + 1 => fun a x0 x1 =>
 bif (decide (a < (x0.Counts.length : Int))) then
 (Yb x0.Counts a).bind fun b =>
 (Yb x1.Counts a).bind fun c =>
 bif (!(Ye.same b c)) then
 some false
 else
 V5 K k (IntKind.i64.wrap (a + (1:Int))) x0 x1
 else
 some true
def J7 (K : Nat) (x0 : Qc) (x1 : Qc) : Option Bool :=
 (W3 K x0 x1).bind fun a =>
 bif (!a) then
 some false
 else
 V5 K K (0:Int) x0 x1
def V7 (K : Nat) : Nat → (List Int) → (List Int) → Int → Int → Option Bool
 | 0 => fun _ _ _ _ => none
 | k + 1 => fun x0 x1 b a =>
 bif (decide (a < b)) then
 (Yb x0 a).bind fun c =>
 (Yb x1 a).bind fun d =>
 bif (c != d) then
 some false
 else
 V7 K k x0 x1 b (IntKind.i64.wrap (a + (1:Int)))
 else
 some true
def Ko (K : Nat) (x0 : List Int) (x1 : List Int) : Option Bool :=
 bif ((x0.length : Int) != (x1.length : Int)) then
 some false
 else
 V7 K K x0 x1 (x0.length : Int) (0:Int)
def Xc (K : Nat) : Nat → Int → Int → (List Bool) → (List Bool) → Int → Int → Q5 → Int → (List Ye) → (List Qa) → Q5 → Int → (List Ye) → (List Qa) → Q5 → Int → (List Ye) → (List Qa) → Option Bool
 | 0 => fun _ _ _ _ _ _ _ _ _ _ _ _ _ _ _ _ _ _ => none
 | k + 1 => fun f g i j l a b c d e m n o p q r s t =>
 bif (decide (a < l)) then
 (Yb i a).bind fun u =>
 (Yb j a).bind fun v =>
 bif (!(u == v)) then
 some false
 else
 Xc K k f g i j l (IntKind.i64.wrap (a + (1:Int))) b c d e m n o p q r s t
 else
 (G9 K).bind fun w =>
 bif w then
 (J7 K (Qc.mk (Q4.mk m n) o p) (Qc.mk (Q4.mk q r) s t)).bind fun y =>
 bif y then
 bif (f == g) then
 (Lt K (Qc.mk (Q4.mk b c) d e)).bind fun z =>
 (Yv K (Qc.mk (Q4.mk b c) d e)).bind fun aa =>
 (Ko K z aa).bind fun ab =>
 some ab
 else
 some false
 else
 some false
 else
 some false
def X9 (K : Nat) (x0 : Qc) : Option Bool :=
 (Mv K x0).bind fun a =>
 (Qef K a).bind fun b =>
 (H1 K a).bind fun c =>
 (If K a).bind fun e =>
 (U1 K a).bind fun d =>
 bif ((e.length : Int) != (d.length : Int)) then
 some false
 else
 Xc K K b.2 c.2 e d (d.length : Int) (0:Int) a.Split.Of a.Split.Many a.Counts a.States b.1.Split.Of b.1.Split.Many b.1.Counts b.1.States c.1.Split.Of c.1.Split.Many c.1.Counts c.1.States
end Go.Rv

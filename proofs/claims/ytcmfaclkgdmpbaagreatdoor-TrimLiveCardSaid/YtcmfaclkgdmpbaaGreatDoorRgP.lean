/- What each function of the program computes, as plain Lean: printed by a program of ours from the translation. -/
import Derived.Test.YtcmfaclkgdmpbaaGreatDoorRvDD
namespace Go.Rv
set_option linter.unusedVariables false
structure Q9 where
 Of : Zg
 Many : Int
abbrev Qc4 (x : Q9) : List DC := ((Zg.dc 256 .u8 x.Of) ++ (([.int .i64 x.Many] : List DC)))
structure Qd where
 To : Int
 Ops : List Int
 deriving DecidableEq
abbrev Qg (x : Qd) : List DC := [.int .i64 x.To, .sl false 1 (x.Ops.map (cI .u8))]
structure Qa where
 L : List Int
 R : List Int
 Rule : List Int
 Next : List (List Qd)
 deriving DecidableEq
abbrev Qc (x : Qa) : List DC := [.sl false 1 (x.L.map (cI .i64)), .sl false 1 (x.R.map (cI .i64)), .sl false 1 (x.Rule.map (cI .i64)), .sl false 1 (x.Next.map (cL 2 Qg))]
structure Qn where
 Split : Q9
 Counts : List Vg
 States : List Qa
abbrev c_api_Auto (x : Qn) : List DC := ((Zg.dc 256 .u8 x.Split.Of) ++ (([.int .i64 x.Split.Many, .sl false 2 (x.Counts.map (Vg.dc .i64)), .sl false 4 (x.States.map Qc)] : List DC)))
structure Za where
 Auto : Qn
structure Qb where
 Auto : Qn
structure Ye where
 l : List Int
 deriving DecidableEq
structure Q2 where
 Op : Int
 S : Z4
 L : List Int
 Lo : Int
 Hi : Int
 Name : ByteArray
 deriving DecidableEq
abbrev Qo (x : Q2) : List DC := [.int .u8 x.Op, .int .u64 x.S.a0, .int .u64 x.S.a1, .int .u64 x.S.a2, .int .u64 x.S.a3, .sl false 1 (x.L.map (cI .i64)), .int .i64 x.Lo, .int .i64 x.Hi, .str x.Name]
structure Qf where
 s : ByteArray
 at_ : Int
 nodes : List Q2
 deep : Int
 e : Int
 where_ : Int
 deriving DecidableEq
structure Qy where
 l : List Q2
 most : Int
 out : List Q2
 long : Bool
 deriving DecidableEq
structure Zp where
 S : Z4
 Lo : Int
 Hi : Int
 Rule : Int
 Last : Bool
 Next : List Int
 deriving DecidableEq
abbrev Q0 (x : Zp) : List DC := [.int .u64 x.S.a0, .int .u64 x.S.a1, .int .u64 x.S.a2, .int .u64 x.S.a3, .int .i64 x.Lo, .int .i64 x.Hi, .int .i64 x.Rule, .bool x.Last, .sl false 1 (x.Next.map (cI .i64))]
structure Zr where
 First : List Int
 P : List Zp
 deriving DecidableEq
structure Qj where
 p : List Zp
 deriving DecidableEq
structure Qs where
 null : Bool
 first : List Int
 last : List Int
 deriving DecidableEq
abbrev Zk (x : Qs) : List DC := [.bool x.null, .sl false 1 (x.first.map (cI .i64)), .sl false 1 (x.last.map (cI .i64))]
structure Qi where
 g : Zr
 number : List Int
 a : Qn
 e : Int
def Kv (K : Nat) (x0 : Qn) : Option Qn :=
 bif (decide ((x0.States.length : Int) > (60:Int))) then
 some (Qn.mk (Q9.mk (Zg.mk fun _ => 0) (0:Int)) [] [])
 else
 some x0
def J1 (K : Nat) : Nat → Int → Q9 → Int → Option Bool
 | 0 => fun _ _ _ => none
 | k + 1 => fun b x0 a =>
 bif (decide (a < (256:Int))) then
 (ck (0 ≤ a ∧ a < 256)).bind fun _ =>
 bif (decide ((IntKind.i64.wrap (Zg.get x0.Of a)) > b)) then
 some false
 else
 bif ((IntKind.i64.wrap (Zg.get x0.Of a)) == b) then
 J1 K k (IntKind.i64.wrap (b + (1:Int))) x0 (IntKind.i64.wrap (a + (1:Int)))
 else
 J1 K k b x0 (IntKind.i64.wrap (a + (1:Int)))
 else
 some (b == x0.Many)
def Iw (K : Nat) (x0 : Q9) : Option Bool :=
 J1 K K (0:Int) x0 (0:Int)
def C7 (K : Nat) : Option Int :=
 some (0:Int)
def C6 (K : Nat) : Nat → Int → Int → Int → Option Int
 | 0 => fun _ _ _ => none
 | k + 1 => fun a x0 b =>
 bif (decide (b < x0)) then
 C6 K k (IntKind.i64.wrap (a * (3:Int))) x0 (IntKind.i64.wrap (b + (1:Int)))
 else
 some a
def Im (K : Nat) (x0 : Int) : Option Int :=
 bif (decide (x0 < (0:Int))) then
 C7 K
 else
 bif (decide (x0 > (3:Int))) then
 C7 K
 else
 C6 K K (1:Int) x0 (0:Int)
def C3 (K : Nat) : Option Bool :=
 some false
def Ll (K : Nat) : Nat → Int → Int → (List Int) → Int → Int → Option Bool
 | 0 => fun _ _ _ _ _ => none
 | k + 1 => fun x1 d x0 c a =>
 bif (decide (a < c)) then
 (Xm x0 a).bind fun b =>
 bif (decide (b ≤ d)) then
 C3 K
 else
 bif (decide (b ≥ x1)) then
 C3 K
 else
 Ll K k x1 b x0 c (IntKind.i64.wrap (a + (1:Int)))
 else
 some true
def Il (K : Nat) (x0 : List Int) (x1 : Int) : Option Bool :=
 Ll K K x1 (-1:Int) x0 (x0.length : Int) (0:Int)
def Vn (K : Nat) : Nat → (List Int) → Int → Int → Int → Option Int
 | 0 => fun _ _ _ _ => none
 | k + 1 => fun x0 x1 b a =>
 bif (decide (a < b)) then
 (Xm x0 a).bind fun c =>
 bif (x1 == c) then
 some a
 else
 Vn K k x0 x1 b (IntKind.i64.wrap (a + (1:Int)))
 else
 some (-1:Int)
def Bg (K : Nat) (x0 : List Int) (x1 : Int) : Option Int :=
 Vn K K x0 x1 (x0.length : Int) (0:Int)
def Wa (K : Nat) (x0 : List Int) (x1 : Int) : Option Bool :=
 (Bg K x0 x1).bind fun a =>
 some (decide (a ≥ (0:Int)))
def Xg (K : Nat) : Option Bool :=
 some false
def Xf (K : Nat) : Option Bool :=
 some false
def Xe (K : Nat) : Nat → Qd → Int → Int → Za → Qa → Option Bool
 | 0 => fun _ _ _ _ _ => none
 | k + 1 => fun x2 b a x0 x1 =>
 bif (decide (a < b)) then
 (Xm x2.Ops a).bind fun c =>
 bif (decide (c < (1:Int))) then
 Xf K
 else
 bif (decide (c > (3:Int))) then
 Xf K
 else
 bif (c != (3:Int)) then
 (Xm x0.Auto.States x2.To).bind fun d =>
 (Xm d.R a).bind fun e =>
 (Wa K x1.R e).bind fun f =>
 bif (!f) then
 Xf K
 else
 Xe K k x2 b (IntKind.i64.wrap (a + (1:Int))) x0 x1
 else
 Xe K k x2 b (IntKind.i64.wrap (a + (1:Int))) x0 x1
 else
 some true
def G4 (K : Nat) (x0 : Za) (x1 : Qa) (x2 : Qd) : Option Bool :=
 bif (x2.To == (-1:Int)) then
 some ((x2.Ops.length : Int) == (0:Int))
 else
 bif (decide (x2.To < (1:Int))) then
 Xg K
 else
 bif (decide (x2.To ≥ (x0.Auto.States.length : Int))) then
 Xg K
 else
 (Xm x0.Auto.States x2.To).bind fun a =>
 bif ((x2.Ops.length : Int) != (a.R.length : Int)) then
 Xg K
 else
 Xe K K x2 (x2.Ops.length : Int) (0:Int) x0 x1
def Gc (K : Nat) (x0 : Qd) (x1 : Za) (x2 : Qa) : Option Bool :=
 (G4 K x1 x2 x0).bind fun a =>
 some (!a)
def Yy (K : Nat) : Nat → (List Qd) → Int → Int → Za → Qa → Option Int
 | 0 => fun _ _ _ _ _ => none
 | k + 1 => fun x0 b a x1c0 x1c1 =>
 bif (decide (a < b)) then
 (Xm x0 a).bind fun c =>
 (Gc K c x1c0 x1c1).bind fun d =>
 bif d then
 some a
 else
 Yy K k x0 b (IntKind.i64.wrap (a + (1:Int))) x1c0 x1c1
 else
 some (-1:Int)
def Hb (K : Nat) (x0 : List Qd) (x1c0 : Za) (x1c1 : Qa) : Option Int :=
 Yy K K x0 (x0.length : Int) (0:Int) x1c0 x1c1
def Vt (K : Nat) (x0 : List Qd) (x1c0 : Za) (x1c1 : Qa) : Option Bool :=
 (Hb K x0 x1c0 x1c1).bind fun a =>
 some (decide (a ≥ (0:Int)))
def Z1 (K : Nat) : Option Bool :=
 some false
def Y4 (K : Nat) : Option Bool :=
 some false
def Xt (K : Nat) : Nat → Qa → Int → Int → Za → Option Bool
 | 0 => fun _ _ _ _ => none
 | k + 1 => fun x1 b a x0 =>
 bif (decide (a < b)) then
 (Xm x1.Next a).bind fun c =>
 (Xm x1.Rule a).bind fun d =>
 bif (decide (d < (-1:Int))) then
 Y4 K
 else
 bif (decide (d ≥ (512:Int))) then
 Y4 K
 else
 bif ((c.length : Int) != x0.Auto.Split.Many) then
 Y4 K
 else
 (Vt K c x0 x1).bind fun e =>
 bif e then
 some false
 else
 Xt K k x1 b (IntKind.i64.wrap (a + (1:Int))) x0
 else
 some true
def Hg (K : Nat) (x0 : Za) (x1 : Qa) : Option Bool :=
 (Im K (x1.R.length : Int)).bind fun a =>
 bif (a == (0:Int)) then
 Z1 K
 else
 bif ((x1.Rule.length : Int) != a) then
 Z1 K
 else
 bif ((x1.Next.length : Int) != a) then
 Z1 K
 else
 (Il K x1.L (512:Int)).bind fun b =>
 bif (!b) then
 Z1 K
 else
 (Il K x1.R (x0.Auto.Counts.length : Int)).bind fun c =>
 bif (!c) then
 Z1 K
 else
 Xt K K x1 (x1.Next.length : Int) (0:Int) x0
def Og (K : Nat) (x0 : Qa) (x1 : Za) : Option Bool :=
 (Hg K x1 x0).bind fun a =>
 some (!a)
def Yr (K : Nat) : Nat → (List Qa) → Int → Int → Za → Option Int
 | 0 => fun _ _ _ _ => none
 | k + 1 => fun x0 b a x1c0 =>
 bif (decide (a < b)) then
 (Xm x0 a).bind fun c =>
 (Og K c x1c0).bind fun d =>
 bif d then
 some a
 else
 Yr K k x0 b (IntKind.i64.wrap (a + (1:Int))) x1c0
 else
 some (-1:Int)
def Wn (K : Nat) (x0 : List Qa) (x1c0 : Za) : Option Int :=
 Yr K K x0 (x0.length : Int) (0:Int) x1c0
def Vk (K : Nat) (x0 : List Qa) (x1c0 : Za) : Option Bool :=
 (Wn K x0 x1c0).bind fun a =>
 some (decide (a ≥ (0:Int)))
def X2 (K : Nat) : Option Bool :=
 some false
def Ln (K : Nat) : Option Bool :=
 some false
def Hh (K : Nat) : Nat → Qn → Int → Int → Option Bool
 | 0 => fun _ _ _ => none
 | k + 1 => fun x0 c b =>
 bif (decide (b < c)) then
 (Xm x0.Counts b).bind fun a =>
 bif (decide ((Vg.get a (0:Int)) < (1:Int))) then
 Ln K
 else
 bif (decide ((Vg.get a (0:Int)) > (Vg.get a (1:Int)))) then
 Ln K
 else
 bif (decide ((Vg.get a (1:Int)) < (2:Int))) then
 Ln K
 else
 bif (decide ((Vg.get a (1:Int)) > (4096:Int))) then
 Ln K
 else
 Hh K k x0 c (IntKind.i64.wrap (b + (1:Int)))
 else
 (Vk K x0.States (Za.mk x0)).bind fun d =>
 some (!d)
def G5 (K : Nat) (x0 : Qn) : Option Bool :=
 (Iw K x0.Split).bind fun b =>
 bif (!b) then
 X2 K
 else
 bif (decide ((x0.Counts.length : Int) > (512:Int))) then
 X2 K
 else
 bif (decide ((x0.States.length : Int) < (1:Int))) then
 X2 K
 else
 bif (decide ((x0.States.length : Int) > (256:Int))) then
 X2 K
 else
 (Xm x0.States (0:Int)).bind fun a =>
 bif (decide ((IntKind.i64.wrap ((a.L.length : Int) + (a.R.length : Int))) > (0:Int))) then
 X2 K
 else
 Hh K K x0 (x0.Counts.length : Int) (0:Int)
def Lc (K : Nat) (x0 : List Vg) : Option (List Vg) :=
 (ck (roomy 16 (([] : List Vg).length + x0.length) = true)).bind fun _ =>
 some (([] : List Vg) ++ x0)
def Y1 (K : Nat) (x0 : Ye) : Option (Int × Bool × Ye) :=
 bif ((x0.l.length : Int) == (0:Int)) then
 some ((0:Int), false, x0)
 else
 (Xm x0.l (IntKind.i64.wrap ((x0.l.length : Int) - (1:Int)))).bind fun a =>
 (ck (0 ≤ (IntKind.i64.wrap ((x0.l.length : Int) - (1:Int))) ∧ (Int.toNat (IntKind.i64.wrap ((x0.l.length : Int) - (1:Int)))) ≤ x0.l.length)).bind fun _ =>
 some (a, true, (Ye.mk (x0.l.take (Int.toNat (IntKind.i64.wrap ((x0.l.length : Int) - (1:Int)))))))
def Ut (K : Nat) (x0 : Ye) (x1 : List Int) : Option Ye :=
 (ck (roomy 8 (x0.l.length + x1.length) = true)).bind fun _ =>
 some (Ye.mk (x0.l ++ x1))
def Uu (K : Nat) : Nat → (List Int) → Int → Int → Option Int
 | 0 => fun _ _ _ => none
 | k + 1 => fun x0 a b =>
 bif (decide (b < (x0.length : Int))) then
 (Xm x0 b).bind fun c =>
 Uu K k x0 (if c > a then c else a) (IntKind.i64.wrap (b + (1:Int)))
 else
 some a
def M0 (K : Nat) (x0 : List Int) : Option Int :=
 bif (decide ((x0.length : Int) < (1:Int))) then
 none
 else
 (Xm x0 (0:Int)).bind fun a =>
 Uu K K x0 a (1:Int)
def Lq (K : Nat) (x1 : Int) : Option (List Qd) :=
 bif (decide (x1 < (0:Int))) then
 none
 else
 bif (decide ((IntKind.i64.wrap (x1 - (IntKind.i64.wrap ((0:Int) - (0:Int))))) > (0:Int))) then
 (ck (0 < (IntKind.i64.wrap (x1 - (IntKind.i64.wrap ((0:Int) - (0:Int))))))).bind fun _ =>
 (ck (roomy 32 (Int.toNat (IntKind.i64.wrap (x1 - (IntKind.i64.wrap ((0:Int) - (0:Int)))))) = true)).bind fun _ =>
 (ck (0 ≤ (0:Int) ∧ (Int.toNat (0:Int)) ≤ (List.replicate (Int.toNat (IntKind.i64.wrap (x1 - (IntKind.i64.wrap ((0:Int) - (0:Int)))))) ((Qd.mk (0:Int) []) : Qd)).length)).bind fun _ =>
 some ((List.replicate (Int.toNat (IntKind.i64.wrap (x1 - (IntKind.i64.wrap ((0:Int) - (0:Int)))))) ((Qd.mk (0:Int) []) : Qd)).take (Int.toNat (0:Int)))
 else
 some ([] : List Qd)
def Xn (K : Nat) : Nat → (List (List Qd)) → Int → Int → (List Qd) → Option (List Qd)
 | 0 => fun _ _ _ _ => none
 | k + 1 => fun x0 c a b =>
 bif (decide (a < c)) then
 (Xm x0 a).bind fun d =>
 (ck (roomy 32 (b.length + d.length) = true)).bind fun _ =>
 Xn K k x0 c (IntKind.i64.wrap (a + (1:Int))) (b ++ d)
 else
 some b
def Y3 (K : Nat) : Nat → (List (List Qd)) → Int → Int → Int → Option (List Qd)
 | 0 => fun _ _ _ _ => none
 | k + 1 => fun x0 a c b =>
 bif (decide (b < c)) then
 (Xm x0 b).bind fun d =>
 bif (decide ((IntKind.i64.wrap (a + (d.length : Int))) < (0:Int))) then
 none
 else
 Y3 K k x0 (IntKind.i64.wrap (a + (d.length : Int))) c (IntKind.i64.wrap (b + (1:Int)))
 else
 (Lq K a).bind fun e =>
 Xn K K x0 (x0.length : Int) (0:Int) e
def Kf (K : Nat) (x0 : List (List Qd)) : Option (List Qd) :=
 Y3 K K x0 (0:Int) (x0.length : Int) (0:Int)
def Dr (K : Nat) (x0 : Qa) : Option (List Qd) :=
 (Kf K x0.Next).bind fun a =>
 some a
def G8 (K : Nat) (d : Qn → Int → Int → (List Bool) → (List (List Int)) → (List Int) → Option (List Bool)) : Nat → Int → Qn → Int → Int → (List Qd) → Int → Int → (List Bool) → (List (List Int)) → (List Int) → Option (List Bool)
 | 0 => fun _ _ _ _ _ _ _ _ _ _ => none
 | k + 1 => fun a x0 e f g i b j c l =>
 bif (decide (b < i)) then
 (Xm g b).bind fun m =>
 bif (decide (m.To ≥ (0:Int))) then
 (Xm c m.To).bind fun n =>
 (ck (roomy 8 (n.length + [a].length) = true)).bind fun _ =>
 G8 K d k a x0 e f g i (IntKind.i64.wrap (b + (1:Int))) j (List.set c (Int.toNat m.To) (n ++ [a])) l
 else
 G8 K d k a x0 e f g i (IntKind.i64.wrap (b + (1:Int))) j c l
 else
 d x0 e (IntKind.i64.wrap (f + (1:Int))) j c l
def B8 (K : Nat) (b : Qn → Int → Int → (List Bool) → (List (List Int)) → (List Int) → Option (List Bool)) (c : Int) (x0 : Qn) (d : Int) (e : Int) (f : List Bool) (g : List (List Int)) (i : List Int) (j : List Int) (l : List Int) (m : List Int) (n : List (List Qd)) : Option (List Bool) :=
 (Dr K (Qa.mk j l m n)).bind fun a =>
 G8 K b K c x0 d e a (a.length : Int) (0:Int) f g i
def Oc (K : Nat) (b : Int → Bool → (List Bool) → (List (List Int)) → (List Int) → Option (List Bool)) (c : List Bool) (d : List (List Int)) (e : List Int) : Option (List Bool) :=
 (Y1 K (Ye.mk e)).bind fun a =>
 b a.1 a.2.1 c d a.2.2.l
def Uc (K : Nat) : Nat → Int → Bool → (List Bool) → (List (List Int)) → (List Int) → Option (List Bool)
 | 0 => fun _ _ _ _ _ => none
 | k + 1 => fun b e a c d =>
 bif e then
 (Xm a b).bind fun f =>
 bif (!f) then
 (Xm c b).bind fun g =>
 (Ut K (Ye.mk d) g).bind fun i =>
 Oc K (Uc K k) (List.set a (Int.toNat b) true) c i.l
 else
 Oc K (Uc K k) a c d
 else
 some a
def Ud (K : Nat) : Nat → Qn → Int → Int → (List Bool) → (List (List Int)) → (List Int) → Option (List Bool)
 | 0 => fun _ _ _ _ _ _ => none
 | k + 1 => fun x0 c b d e f =>
 bif (decide (b < c)) then
 (Xm x0.States b).bind fun a =>
 (M0 K a.Rule).bind fun i =>
 bif (decide (i ≥ (0:Int))) then
 (Ut K (Ye.mk f) [b]).bind fun j =>
 B8 K (Ud K k) b x0 c b d e j.l a.L a.R a.Rule a.Next
 else
 B8 K (Ud K k) b x0 c b d e f a.L a.R a.Rule a.Next
 else
 (Y1 K (Ye.mk f)).bind fun g =>
 Uc K K g.1 g.2.1 d e g.2.2.l
def Ef (K : Nat) (x0 : Qn) : Option (List Bool) :=
 (G5 K x0).bind fun a =>
 bif (!a) then
 some []
 else
 (ck (0 ≤ (x0.States.length : Int))).bind fun _ =>
 (ck (roomy 1 (Int.toNat (x0.States.length : Int)) = true)).bind fun _ =>
 (ck (roomy 24 (Int.toNat (x0.States.length : Int)) = true)).bind fun _ =>
 Ud K K x0 (x0.States.length : Int) (0:Int) (List.replicate (Int.toNat (x0.States.length : Int)) (false : Bool)) (List.replicate (Int.toNat (x0.States.length : Int)) ([] : List Int)) []
def Xv (K : Nat) (x0 : List Int) : Option (List Int) :=
 (ck (roomy 8 (([] : List Int).length + x0.length) = true)).bind fun _ =>
 some (([] : List Int) ++ x0)
def Jd (K : Nat) (x0 : List Int) : Option (List Int) :=
 (ck (roomy 1 (([] : List Int).length + x0.length) = true)).bind fun _ =>
 some (([] : List Int) ++ x0)
def V7 (K : Nat) (f : Int → Int → Qb → Int → Int → (List (List Qd)) → Int → Int → (List Qd) → Int → Int → (List Int) → (List Qa) → (List Int) → (List Int) → (List Int) → (List (List Qd)) → (List (List Qd)) → Option Qb) (g : Int) (a : Int) (x0 : Qb) (i : Int) (j : Int) (l : List (List Qd)) (m : Int) (n : Int) (o : List Qd) (p : Int) (q : Int) (x1 : List Int) (r : List Qa) (s : List Int) (t : List Int) (u : List Int) (v : List (List Qd)) (b : List (List Qd)) (c : Int) (d : List Int) : Option Qb :=
 (Xm b a).bind fun e =>
 (ck (roomy 32 (e.length + [(Qd.mk c d)].length) = true)).bind fun _ =>
 f g a x0 i j l m n o p (IntKind.i64.wrap (q + (1:Int))) x1 r s t u v (List.set b (Int.toNat a) (e ++ [(Qd.mk c d)]))
def V6 (K : Nat) (a : Int → Int → Qb → Int → Int → (List (List Qd)) → Int → Int → (List Qd) → Int → Int → (List Int) → (List Qa) → (List Int) → (List Int) → (List Int) → (List (List Qd)) → (List (List Qd)) → Option Qb) (b : Int) (c : Int) (x0 : Qb) (d : Int) (e : Int) (f : List (List Qd)) (g : Int) (i : Int) (j : List Qd) (l : Int) (m : Int) (x1 : List Int) (n : List Qa) (o : List Int) (p : List Int) (q : List Int) (r : List (List Qd)) (s : List (List Qd)) : Option Qb :=
 V7 K a b c x0 d e f g i j l m x1 n o p q r s (-1:Int) []
def Zz (K : Nat) (b : Int → Qb → Int → Int → (List (List Qd)) → Int → Int → (List Int) → (List Qa) → (List Int) → (List Int) → (List Int) → (List (List Qd)) → (List (List Qd)) → Option Qb) : Nat → Int → Int → Qb → Int → Int → (List (List Qd)) → Int → Int → (List Qd) → Int → Int → (List Int) → (List Qa) → (List Int) → (List Int) → (List Int) → (List (List Qd)) → (List (List Qd)) → Option Qb
 | 0 => fun _ _ _ _ _ _ _ _ _ _ _ _ _ _ _ _ _ _ => none
 | k + 1 => fun c s x0 d e f g i j l a x1 m n o p q r =>
 bif (decide (a < l)) then
 (Xm j a).bind fun t =>
 bif (decide (t.To ≥ (0:Int))) then
 (Xm x1 t.To).bind fun u =>
 bif (decide (u ≥ (0:Int))) then
 (Jd K t.Ops).bind fun v =>
 V7 K (Zz K b k) c s x0 d e f g i j l a x1 m n o p q r u v
 else
 V6 K (Zz K b k) c s x0 d e f g i j l a x1 m n o p q r
 else
 V6 K (Zz K b k) c s x0 d e f g i j l a x1 m n o p q r
 else
 b c x0 d e f g (IntKind.i64.wrap (i + (1:Int))) x1 m n o p q r
def Yu (K : Nat) (d : Qb → Int → Int → (List Int) → (List Qa) → Option Qb) : Nat → Int → Qb → Int → Int → (List (List Qd)) → Int → Int → (List Int) → (List Qa) → (List Int) → (List Int) → (List Int) → (List (List Qd)) → (List (List Qd)) → Option Qb
 | 0 => fun _ _ _ _ _ _ _ _ _ _ _ _ _ _ => none
 | k + 1 => fun b x0 e f g i a x1 c j l m p n =>
 bif (decide (a < i)) then
 (Xm g a).bind fun o =>
 Zz K (Yu K d k) K b a x0 e f g i a o (o.length : Int) (0:Int) x1 c j l m p n
 else
 (Xv K j).bind fun q =>
 (Xv K l).bind fun r =>
 (Xv K m).bind fun s =>
 (Xm c b).bind fun t =>
 d x0 e (IntKind.i64.wrap (f + (1:Int))) x1 (List.set c (Int.toNat b) (Qa.mk q r s n))
def Yv (K : Nat) : Nat → Qb → Int → Int → (List Int) → (List Qa) → Option Qb
 | 0 => fun _ _ _ _ _ => none
 | k + 1 => fun x0 c b x1 d =>
 bif (decide (b < c)) then
 (Xm x0.Auto.States b).bind fun a =>
 (ck (0 ≤ (a.Next.length : Int))).bind fun _ =>
 (ck (roomy 24 (Int.toNat (a.Next.length : Int)) = true)).bind fun _ =>
 Yu K (Yv K k) K b x0 c b a.Next (a.Next.length : Int) (0:Int) x1 d a.L a.R a.Rule a.Next (List.replicate (Int.toNat (a.Next.length : Int)) ([] : List Qd))
 else
 some (Qb.mk (Qn.mk x0.Auto.Split x0.Auto.Counts d))
def Vs (K : Nat) (x0 : Qb) (x1 : List Int) : Option Qb :=
 (ck (0 ≤ (x0.Auto.States.length : Int))).bind fun _ =>
 (ck (roomy 96 (Int.toNat (x0.Auto.States.length : Int)) = true)).bind fun _ =>
 Yv K K x0 (x0.Auto.States.length : Int) (0:Int) x1 (List.replicate (Int.toNat (x0.Auto.States.length : Int)) ((Qa.mk [] [] [] []) : Qa))
def Y8 (K : Nat) : Nat → (List Bool) → Int → Int → Qb → (List Int) → Option Qb
 | 0 => fun _ _ _ _ _ => none
 | k + 1 => fun c d a x0 b =>
 bif (decide (a < d)) then
 (Xm c a).bind fun e =>
 (Xm b a).bind fun g =>
 bif (!e) then
 (Xm (List.set b (Int.toNat a) a) a).bind fun i =>
 Y8 K k c d (IntKind.i64.wrap (a + (1:Int))) x0 (List.set (List.set b (Int.toNat a) a) (Int.toNat a) (-1:Int))
 else
 Y8 K k c d (IntKind.i64.wrap (a + (1:Int))) x0 (List.set b (Int.toNat a) a)
 else
 (Vs K x0 b).bind fun f =>
 some f
def Gi (K : Nat) (x0 : Qb) : Option Qb :=
 (ck (0 ≤ (x0.Auto.States.length : Int))).bind fun _ =>
 (ck (roomy 8 (Int.toNat (x0.Auto.States.length : Int)) = true)).bind fun _ =>
 (Ef K x0.Auto).bind fun a =>
 Y8 K K a (a.length : Int) (0:Int) x0 (List.replicate (Int.toNat (x0.Auto.States.length : Int)) ((0:Int) : Int))
def Qet (K : Nat) (x0 : Int) (x1 : Int) : Option (Int × Int) :=
 some ((IntKind.u64.wrap ((IntKind.u64.wrap ((IntKind.u64.wrap ((Int.fdiv x0 (2 ^ min (Int.toNat (32:Int)) IntKind.u64.bits)) * (Int.fdiv x1 (2 ^ min (Int.toNat (32:Int)) IntKind.u64.bits)))) + (Int.fdiv (IntKind.u64.wrap ((IntKind.u64.wrap ((Int.fdiv x0 (2 ^ min (Int.toNat (32:Int)) IntKind.u64.bits)) * (bits .and .u64 x1 (4294967295:Int)))) + (Int.fdiv (IntKind.u64.wrap ((bits .and .u64 x0 (4294967295:Int)) * (bits .and .u64 x1 (4294967295:Int)))) (2 ^ min (Int.toNat (32:Int)) IntKind.u64.bits)))) (2 ^ min (Int.toNat (32:Int)) IntKind.u64.bits)))) + (Int.fdiv (IntKind.u64.wrap ((bits .and .u64 (IntKind.u64.wrap ((IntKind.u64.wrap ((Int.fdiv x0 (2 ^ min (Int.toNat (32:Int)) IntKind.u64.bits)) * (bits .and .u64 x1 (4294967295:Int)))) + (Int.fdiv (IntKind.u64.wrap ((bits .and .u64 x0 (4294967295:Int)) * (bits .and .u64 x1 (4294967295:Int)))) (2 ^ min (Int.toNat (32:Int)) IntKind.u64.bits)))) (4294967295:Int)) + (IntKind.u64.wrap ((bits .and .u64 x0 (4294967295:Int)) * (Int.fdiv x1 (2 ^ min (Int.toNat (32:Int)) IntKind.u64.bits)))))) (2 ^ min (Int.toNat (32:Int)) IntKind.u64.bits)))), (IntKind.u64.wrap (x0 * x1)))
def Qd2 (K : Nat) (x0 : Int) (x1 : Int) : Option (Int × Int) :=
 (Qet K x0 x1).bind fun a =>
 some (a.1, a.2)
def H3 (K : Nat) (x0 : List Int) (a : Int) : Option (List Int) :=
 none
def V9 (K : Nat) : Nat → Int → (List Int) → Option (List Int)
 | 0 => fun _ _ => none
 | k + 1 => fun a b =>
 bif (decide (a < (b.length : Int))) then
 (ck (0 ≤ a ∧ (Int.toNat a) ≤ b.length)).bind fun _ =>
 (ck (0 < (Int.toNat a) ∧ (Int.toNat a) < b.length)).bind fun _ =>
 V9 K k (IntKind.i64.wrap (a + (((min (Int.toNat a) (b.length - (Int.toNat a))) : Nat) : Int))) (b.take (Int.toNat a) ++ b.take (min (Int.toNat a) (b.length - (Int.toNat a))) ++ b.drop ((Int.toNat a) + (min (Int.toNat a) (b.length - (Int.toNat a)))))
 else
 some b
def Gj (K : Nat) (x0 : List Int) (x1 : Int) : Option (List Int) :=
 bif (decide (x1 < (0:Int))) then
 none
 else
 (Qd2 K (IntKind.u64.wrap (x0.length : Int)) (IntKind.u64.wrap x1)).bind fun a =>
 bif (decide (a.1 > (0:Int))) then
 H3 K x0 a.2
 else
 bif (decide (a.2 > (9223372036854775807:Int))) then
 H3 K x0 a.2
 else
 (ck (0 ≤ (IntKind.i64.wrap a.2))).bind fun _ =>
 (ck (roomy 8 (Int.toNat (IntKind.i64.wrap a.2)) = true)).bind fun _ =>
 (ck (0 < x0.length ∧ x0.length ≤ (List.replicate (Int.toNat (IntKind.i64.wrap a.2)) ((0:Int) : Int)).length)).bind fun _ =>
 V9 K K (x0.length : Int) (x0 ++ (List.replicate (Int.toNat (IntKind.i64.wrap a.2)) ((0:Int) : Int)).drop x0.length)
def Yw (K : Nat) (e : Int → Qb → (List Int) → (List Int) → Option Qb) : Nat → Int → (List Qd) → Int → Int → Qb → (List Int) → (List Int) → Option Qb
 | 0 => fun _ _ _ _ _ _ _ => none
 | k + 1 => fun f g i b x0 c a =>
 bif (decide (b < i)) then
 (Xm g b).bind fun d =>
 bif (decide (d.To ≥ (0:Int))) then
 (Xm c d.To).bind fun j =>
 bif (decide (j < (0:Int))) then
 (ck (roomy 8 (a.length + [d.To].length) = true)).bind fun _ =>
 Yw K e k f g i (IntKind.i64.wrap (b + (1:Int))) x0 (List.set c (Int.toNat d.To) (a.length : Int)) (a ++ [d.To])
 else
 Yw K e k f g i (IntKind.i64.wrap (b + (1:Int))) x0 c a
 else
 Yw K e k f g i (IntKind.i64.wrap (b + (1:Int))) x0 c a
 else
 e (IntKind.i64.wrap (f + (1:Int))) x0 c a
def X8 (K : Nat) : Nat → Int → Int → Zg → Int → (List Vg) → (List Qa) → (List Qa) → (List Int) → Option Qb
 | 0 => fun _ _ _ _ _ _ _ _ => none
 | k + 1 => fun c a d e f g b i =>
 bif (decide (a < c)) then
 (Xm i a).bind fun l =>
 (Xm g l).bind fun j =>
 (ck (roomy 96 (b.length + [j].length) = true)).bind fun _ =>
 X8 K k c (IntKind.i64.wrap (a + (1:Int))) d e f g (b ++ [j]) i
 else
 some (Qb.mk (Qn.mk (Q9.mk d e) f b))
def Y7 (K : Nat) : Nat → Int → Qb → (List Int) → (List Int) → Option Qb
 | 0 => fun _ _ _ _ => none
 | k + 1 => fun c x0 d a =>
 bif (decide (c < (a.length : Int))) then
 (Xm a c).bind fun f =>
 (Xm x0.Auto.States f).bind fun g =>
 (Dr K g).bind fun e =>
 Yw K (Y7 K k) K c e (e.length : Int) (0:Int) x0 d a
 else
 (Vs K x0 d).bind fun b =>
 X8 K K (a.length : Int) (0:Int) b.Auto.Split.Of b.Auto.Split.Many b.Auto.Counts b.Auto.States [] a
def Gf (K : Nat) (x0 : Qb) : Option Qb :=
 (Gj K [(-1:Int)] (x0.Auto.States.length : Int)).bind fun a =>
 (Xm a (0:Int)).bind fun b =>
 Y7 K K (0:Int) x0 (List.set a (Int.toNat (0:Int)) (0:Int)) [(0:Int)]
def strconv_Itoa (K : Nat) (x0 : Int) : Option ByteArray :=
 if -9223372036854775808 ≤ x0 ∧ x0 ≤ 9223372036854775807 then some (itoaS x0) else none
def Hm (K : Nat) (x0c1 : List Int) : Option Unit :=
 some ()
def J8 (K : Nat) (x0c1 : List Int) (x1 : ByteArray) : Option (Int × Unit × (List Int)) :=
 (Hm K x0c1).bind fun a =>
 (ck (roomy 1 (x0c1.length + x1.size) = true)).bind fun _ =>
 some ((x1.size : Int), (), (x0c1 ++ Cd x1))
def Ri (K : Nat) (x0 : Int) (x1c1 : List Int) : Option (List Int) :=
 (strconv_Itoa K x0).bind fun a =>
 (ck (a.size + (⟨#[32]⟩ : ByteArray).size ≤ 9223372036854775807)).bind fun _ =>
 (J8 K x1c1 (a ++ (⟨#[32]⟩ : ByteArray))).bind fun b =>
 some b.2.2
def Yt (K : Nat) (x0c1 : List Int) : Option Unit :=
 some ()
def Ve (K : Nat) (x0c1 : List Int) (x1 : ByteArray) : Option (Int × Unit × (List Int)) :=
 (Yt K x0c1).bind fun a =>
 (ck (roomy 1 (x0c1.length + x1.size) = true)).bind fun _ =>
 some ((x1.size : Int), (), (x0c1 ++ Cd x1))
def Uz (K : Nat) (x0 : Int) (x1c1 : List Int) : Option (List Int) :=
 (strconv_Itoa K x0).bind fun a =>
 (ck (a.size + (⟨#[32]⟩ : ByteArray).size ≤ 9223372036854775807)).bind fun _ =>
 (Ve K x1c1 (a ++ (⟨#[32]⟩ : ByteArray))).bind fun b =>
 some b.2.2
def Ha (K : Nat) (x0c1 : List Int) (x1 : List Int) : Option (Int × Unit × (List Int)) :=
 (Yt K x0c1).bind fun a =>
 (ck (roomy 1 (x0c1.length + x1.length) = true)).bind fun _ =>
 some ((x1.length : Int), (), (x0c1 ++ x1))
def G7 (K : Nat) : Nat → (List Qd) → Int → Int → (List Int) → (List Int) → Option ByteArray
 | 0 => fun _ _ _ _ _ => none
 | k + 1 => fun d e b x1 a =>
 bif (decide (b < e)) then
 (Xm d b).bind fun c =>
 bif (decide (c.To < (0:Int))) then
 (Uz K (-1:Int) a).bind fun f =>
 G7 K k d e (IntKind.i64.wrap (b + (1:Int))) x1 f
 else
 (Xm x1 c.To).bind fun g =>
 (Uz K g a).bind fun i =>
 (Ha K i c.Ops).bind fun j =>
 (Uz K (c.Ops.length : Int) j.2.2).bind fun l =>
 G7 K k d e (IntKind.i64.wrap (b + (1:Int))) x1 l
 else
 (ck (0 < a.length)).bind fun _ =>
 (ck (G3 a = true)).bind fun _ =>
 some (ofBytes a)
def Kn (K : Nat) : Nat → Qa → Int → Int → (List Int) → (List Int) → Option ByteArray
 | 0 => fun _ _ _ _ _ => none
 | k + 1 => fun x0 b a x1 c =>
 bif (decide (a < b)) then
 (Xm x0.Rule a).bind fun e =>
 (Uz K e c).bind fun f =>
 Kn K k x0 b (IntKind.i64.wrap (a + (1:Int))) x1 f
 else
 (Dr K x0).bind fun d =>
 G7 K K d (d.length : Int) (0:Int) x1 c
def Ko (K : Nat) : Nat → Qa → Int → Int → (List Int) → (List Int) → Option ByteArray
 | 0 => fun _ _ _ _ _ => none
 | k + 1 => fun x0 b a x1 c =>
 bif (decide (a < b)) then
 (Xm x0.R a).bind fun d =>
 (Uz K d c).bind fun e =>
 Ko K k x0 b (IntKind.i64.wrap (a + (1:Int))) x1 e
 else
 Kn K K x0 (x0.Rule.length : Int) (0:Int) x1 c
def Qaa (K : Nat) (x0 : Qa) (x1 : List Int) : Option ByteArray :=
 (Ri K (x0.R.length : Int) []).bind fun a =>
 Ko K K x0 (x0.R.length : Int) (0:Int) x1 a
def Ly (K : Nat) (d : Int → Qn → Int → Int → (List Int) → (List (ByteArray × Int)) → (List Int) → Option (List Int)) (e : Int) (a : Int) (f : ByteArray) (x0 : Qn) (g : Int) (i : Int) (j : List Int) (b : List (ByteArray × Int)) (c : List Int) : Option (List Int) :=
 (Xm c a).bind fun l =>
 d e x0 g (IntKind.i64.wrap (i + (1:Int))) j b (List.set c (Int.toNat a) ((b.lookup f).getD 0))
def Lz (K : Nat) (c : Int → Qn → Int → Int → (List Int) → (List (ByteArray × Int)) → (List Int) → Option (List Int)) (d : Int) (e : Int) (a : ByteArray) (x0 : Qn) (f : Int) (g : Int) (i : List Int) (b : List (ByteArray × Int)) (j : List Int) : Option (List Int) :=
 bif (!(b.lookup a).isSome) then
 (ck (b.lookup a = none)).bind fun _ =>
 Ly K c d e a x0 f g i (b ++ [(a, (b.length : Int))]) j
 else
 Ly K c d e a x0 f g i b j
def Vj (K : Nat) (e : Int → Qn → (List Int) → Option (List Int)) : Nat → Int → Qn → Int → Int → (List Int) → (List (ByteArray × Int)) → (List Int) → Option (List Int)
 | 0 => fun _ _ _ _ _ _ _ => none
 | k + 1 => fun f x0 g a b c d =>
 bif (decide (a < g)) then
 (Xm x0.States a).bind fun l =>
 bif (decide (a > (0:Int))) then
 (Xm b a).bind fun m =>
 (strconv_Itoa K m).bind fun i =>
 (ck (i.size + (⟨#[58]⟩ : ByteArray).size ≤ 9223372036854775807)).bind fun _ =>
 (Qaa K l b).bind fun j =>
 (ck ((i ++ (⟨#[58]⟩ : ByteArray)).size + j.size ≤ 9223372036854775807)).bind fun _ =>
 Lz K (Vj K e k) f a ((i ++ (⟨#[58]⟩ : ByteArray)) ++ j) x0 g a b c d
 else
 Lz K (Vj K e k) f a (⟨#[102, 105, 114, 115, 116]⟩ : ByteArray) x0 g a b c d
 else
 bif ((c.length : Int) == f) then
 some d
 else
 e (c.length : Int) x0 d
def J0 (K : Nat) : Nat → Int → Qn → (List Int) → Option (List Int)
 | 0 => fun _ _ _ => none
 | k + 1 => fun b x0 a =>
 (ck (0 ≤ (a.length : Int))).bind fun _ =>
 (ck (roomy 8 (Int.toNat (a.length : Int)) = true)).bind fun _ =>
 Vj K (J0 K k) K b x0 (x0.States.length : Int) (0:Int) a [] (List.replicate (Int.toNat (a.length : Int)) ((0:Int) : Int))
def It (K : Nat) (x0 : Qn) : Option (List Int) :=
 (G5 K x0).bind fun a =>
 bif (!a) then
 some []
 else
 (ck (0 ≤ (x0.States.length : Int))).bind fun _ =>
 (ck (roomy 8 (Int.toNat (x0.States.length : Int)) = true)).bind fun _ =>
 J0 K K (0:Int) x0 (List.replicate (Int.toNat (x0.States.length : Int)) ((0:Int) : Int))
def Xx (K : Nat) (f : (List Int) → Int → Int → Qb → Int → Int → (List (List Qd)) → Int → Int → (List Qd) → Int → Int → (List Qa) → (List Int) → (List Int) → (List Int) → (List (List Qd)) → (List (List Qd)) → Option Qb) (x1 : List Int) (g : Int) (a : Int) (x0 : Qb) (i : Int) (j : Int) (l : List (List Qd)) (m : Int) (n : Int) (o : List Qd) (p : Int) (q : Int) (r : List Qa) (s : List Int) (t : List Int) (u : List Int) (v : List (List Qd)) (b : List (List Qd)) (c : Int) (d : List Int) : Option Qb :=
 (Xm b a).bind fun e =>
 (ck (roomy 32 (e.length + [(Qd.mk c d)].length) = true)).bind fun _ =>
 f x1 g a x0 i j l m n o p (IntKind.i64.wrap (q + (1:Int))) r s t u v (List.set b (Int.toNat a) (e ++ [(Qd.mk c d)]))
def Xw (K : Nat) (a : (List Int) → Int → Int → Qb → Int → Int → (List (List Qd)) → Int → Int → (List Qd) → Int → Int → (List Qa) → (List Int) → (List Int) → (List Int) → (List (List Qd)) → (List (List Qd)) → Option Qb) (x1 : List Int) (b : Int) (c : Int) (x0 : Qb) (d : Int) (e : Int) (f : List (List Qd)) (g : Int) (i : Int) (j : List Qd) (l : Int) (m : Int) (n : List Qa) (o : List Int) (p : List Int) (q : List Int) (r : List (List Qd)) (s : List (List Qd)) : Option Qb :=
 Xx K a x1 b c x0 d e f g i j l m n o p q r s (-1:Int) []
def Zm (K : Nat) (b : (List Int) → Int → Qb → Int → Int → (List (List Qd)) → Int → Int → (List Qa) → (List Int) → (List Int) → (List Int) → (List (List Qd)) → (List (List Qd)) → Option Qb) : Nat → (List Int) → Int → Int → Qb → Int → Int → (List (List Qd)) → Int → Int → (List Qd) → Int → Int → (List Qa) → (List Int) → (List Int) → (List Int) → (List (List Qd)) → (List (List Qd)) → Option Qb
 | 0 => fun _ _ _ _ _ _ _ _ _ _ _ _ _ _ _ _ _ _ => none
 | k + 1 => fun x1 c s x0 d e f g i j l a m n o p q r =>
 bif (decide (a < l)) then
 (Xm j a).bind fun t =>
 bif (decide (t.To ≥ (0:Int))) then
 (Xm x1 t.To).bind fun u =>
 bif (decide (u ≥ (0:Int))) then
 (Jd K t.Ops).bind fun v =>
 Xx K (Zm K b k) x1 c s x0 d e f g i j l a m n o p q r u v
 else
 Xw K (Zm K b k) x1 c s x0 d e f g i j l a m n o p q r
 else
 Xw K (Zm K b k) x1 c s x0 d e f g i j l a m n o p q r
 else
 b x1 c x0 d e f g (IntKind.i64.wrap (i + (1:Int))) m n o p q r
def Yh (K : Nat) (d : (List Int) → Qb → Int → Int → (List Qa) → Option Qb) : Nat → (List Int) → Int → Qb → Int → Int → (List (List Qd)) → Int → Int → (List Qa) → (List Int) → (List Int) → (List Int) → (List (List Qd)) → (List (List Qd)) → Option Qb
 | 0 => fun _ _ _ _ _ _ _ _ _ _ _ _ _ _ => none
 | k + 1 => fun x1 b x0 e f g i a c j l m p n =>
 bif (decide (a < i)) then
 (Xm g a).bind fun o =>
 Zm K (Yh K d k) K x1 b a x0 e f g i a o (o.length : Int) (0:Int) c j l m p n
 else
 (Xv K j).bind fun q =>
 (Xv K l).bind fun r =>
 (Xv K m).bind fun s =>
 (Xm c b).bind fun t =>
 d x1 x0 e (IntKind.i64.wrap (f + (1:Int))) (List.set c (Int.toNat b) (Qa.mk q r s n))
def Yi (K : Nat) : Nat → (List Int) → Qb → Int → Int → (List Qa) → Option Qb
 | 0 => fun _ _ _ _ _ => none
 | k + 1 => fun x1 x0 c b d =>
 bif (decide (b < c)) then
 (Xm x0.Auto.States b).bind fun a =>
 (ck (0 ≤ (a.Next.length : Int))).bind fun _ =>
 (ck (roomy 24 (Int.toNat (a.Next.length : Int)) = true)).bind fun _ =>
 Yh K (Yi K k) K x1 b x0 c b a.Next (a.Next.length : Int) (0:Int) d a.L a.R a.Rule a.Next (List.replicate (Int.toNat (a.Next.length : Int)) ([] : List Qd))
 else
 some (Qb.mk (Qn.mk x0.Auto.Split x0.Auto.Counts d))
def X7 (K : Nat) (x0 : Qb) (x1 : List Int) : Option Qb :=
 (ck (0 ≤ (x0.Auto.States.length : Int))).bind fun _ =>
 (ck (roomy 96 (Int.toNat (x0.Auto.States.length : Int)) = true)).bind fun _ =>
 Yi K K x1 x0 (x0.Auto.States.length : Int) (0:Int) (List.replicate (Int.toNat (x0.Auto.States.length : Int)) ((Qa.mk [] [] [] []) : Qa))
def V8 (K : Nat) (d : (List Int) → Int → Int → Qb → (List (Int × Int)) → (List Int) → Option Qb) (b : Int) (e : List Int) (f : Int) (g : Int) (x0 : Qb) (a : List (Int × Int)) (c : List Int) : Option Qb :=
 (ck (roomy 8 (c.length + [((a.lookup b).getD 0)].length) = true)).bind fun _ =>
 d e f (IntKind.i64.wrap (g + (1:Int))) x0 a (c ++ [((a.lookup b).getD 0)])
def Yn (K : Nat) : Nat → (List Int) → Int → Int → Qb → (List (Int × Int)) → (List Int) → Option Qb
 | 0 => fun _ _ _ _ _ _ => none
 | k + 1 => fun d e a x0 c f =>
 bif (decide (a < e)) then
 (Xm d a).bind fun b =>
 bif (!(c.lookup b).isSome) then
 (ck (c.lookup b = none)).bind fun _ =>
 V8 K (Yn K k) b d e a x0 (c ++ [(b, a)]) f
 else
 V8 K (Yn K k) b d e a x0 c f
 else
 (X7 K x0 f).bind fun g =>
 some g
def Gg (K : Nat) (x0 : Qb) : Option Qb :=
 (It K x0.Auto).bind fun a =>
 Yn K K a (a.length : Int) (0:Int) x0 [] []
def Ik (K : Nat) (f : Zg) (a : Zg) (b : Int) (c : List Vg) (d : List Qa) : Option (Qn × Int) :=
 (Gf K (Qb.mk (Qn.mk (Q9.mk a b) c d))).bind fun e =>
 some (e.Auto, (0:Int))
def Qed (K : Nat) (x0 : Qn) : Option (Qn × Int) :=
 (G5 K x0).bind fun c =>
 bif (!c) then
 some ((Qn.mk (Q9.mk (Zg.mk fun _ => 0) (0:Int)) [] []), (1:Int))
 else
 (Lc K x0.Counts).bind fun d =>
 (Gi K (Qb.mk (Qn.mk x0.Split d x0.States))).bind fun a =>
 bif ((a.Auto.Counts.length : Int) == (0:Int)) then
 (Gg K a).bind fun b =>
 Ik K (Zg.mk fun _ => 0) b.Auto.Split.Of b.Auto.Split.Many b.Auto.Counts b.Auto.States
 else
 Ik K (Zg.mk fun _ => 0) a.Auto.Split.Of a.Auto.Split.Many a.Auto.Counts a.Auto.States
def Xc (K : Nat) : Nat → Int → Int → Q9 → Option Bool
 | 0 => fun _ _ _ => none
 | k + 1 => fun b a x0 =>
 bif (decide (a < (256:Int))) then
 (ck (0 ≤ a ∧ a < 256)).bind fun _ =>
 bif (decide ((IntKind.i64.wrap (Zg.get x0.Of a)) > b)) then
 some false
 else
 bif ((IntKind.i64.wrap (Zg.get x0.Of a)) == b) then
 Xc K k (IntKind.i64.wrap (b + (1:Int))) (IntKind.i64.wrap (a + (1:Int))) x0
 else
 Xc K k b (IntKind.i64.wrap (a + (1:Int))) x0
 else
 some (b == x0.Many)
def Gz (K : Nat) (x0 : Q9) : Option Bool :=
 Xc K K (0:Int) (0:Int) x0
def Jq (K : Nat) : Option Int :=
 some (0:Int)
def Jp (K : Nat) : Nat → Int → Int → Int → Option Int
 | 0 => fun _ _ _ => none
 | k + 1 => fun x0 a b =>
 bif (decide (b < x0)) then
 Jp K k x0 (IntKind.i64.wrap (a * (3:Int))) (IntKind.i64.wrap (b + (1:Int)))
 else
 some a
def Ux (K : Nat) (x0 : Int) : Option Int :=
 bif (decide (x0 < (0:Int))) then
 Jq K
 else
 bif (decide (x0 > (3:Int))) then
 Jq K
 else
 Jp K K x0 (1:Int) (0:Int)
def Ua (K : Nat) : Option Bool :=
 some false
def Xa (K : Nat) : Nat → (List Int) → Int → Int → Option Bool
 | 0 => fun _ _ _ => none
 | k + 1 => fun x0 x1 a =>
 bif (decide (a < (x0.length : Int))) then
 (Xm x0 a).bind fun b =>
 bif (decide (b < (0:Int))) then
 Ua K
 else
 bif (decide (b ≥ x1)) then
 Ua K
 else
 bif (decide (a > (0:Int))) then
 (Xm x0 (IntKind.i64.wrap (a - (1:Int)))).bind fun c =>
 bif (decide (c ≥ b)) then
 Ua K
 else
 Xa K k x0 x1 (IntKind.i64.wrap (a + (1:Int)))
 else
 Xa K k x0 x1 (IntKind.i64.wrap (a + (1:Int)))
 else
 some true
def J3 (K : Nat) (x0 : List Int) (x1 : Int) : Option Bool :=
 Xa K K x0 x1 (0:Int)
def Uv (K : Nat) : Nat → (List Int) → Int → Int → Option Bool
 | 0 => fun _ _ _ => none
 | k + 1 => fun x0 x1 a =>
 bif (decide (a < (x0.length : Int))) then
 (Xm x0 a).bind fun b =>
 bif (b == x1) then
 some true
 else
 Uv K k x0 x1 (IntKind.i64.wrap (a + (1:Int)))
 else
 some false
def J2 (K : Nat) (x0 : List Int) (x1 : Int) : Option Bool :=
 Uv K K x0 x1 (0:Int)
def Xq (K : Nat) : Option Bool :=
 some false
def Xp (K : Nat) : Option Bool :=
 some false
def Xo (K : Nat) : Nat → Int → Qn → Qa → Qd → Option Bool
 | 0 => fun _ _ _ _ => none
 | k + 1 => fun a x0 x1 x2 =>
 bif (decide (a < (x2.Ops.length : Int))) then
 (Xm x2.Ops a).bind fun b =>
 bif (decide (b < (1:Int))) then
 Xp K
 else
 bif (decide (b > (3:Int))) then
 Xp K
 else
 bif (b != (3:Int)) then
 (Xm x0.States x2.To).bind fun c =>
 (Xm c.R a).bind fun d =>
 (J2 K x1.R d).bind fun e =>
 bif (!e) then
 Xp K
 else
 Xo K k (IntKind.i64.wrap (a + (1:Int))) x0 x1 x2
 else
 Xo K k (IntKind.i64.wrap (a + (1:Int))) x0 x1 x2
 else
 some true
def Lr (K : Nat) (x0 : Qn) (x1 : Qa) (x2 : Qd) : Option Bool :=
 bif (x2.To == (-1:Int)) then
 some ((x2.Ops.length : Int) == (0:Int))
 else
 bif (decide (x2.To < (1:Int))) then
 Xq K
 else
 bif (decide (x2.To ≥ (x0.States.length : Int))) then
 Xq K
 else
 (Xm x0.States x2.To).bind fun a =>
 bif ((x2.Ops.length : Int) != (a.R.length : Int)) then
 Xq K
 else
 Xo K K (0:Int) x0 x1 x2
def Z7 (K : Nat) : Option Bool :=
 some false
def Y9 (K : Nat) : Option Bool :=
 some false
def X9 (K : Nat) (c : Int → Int → Qn → Qa → Option Bool) : Nat → Int → Int → Int → Qa → Int → Int → Int → Bool → Int → (List Qd) → (List Qd) → Int → Qn → Bool → Option Bool
 | 0 => fun _ _ _ _ _ _ _ _ _ _ _ _ _ _ => none
 | k + 1 => fun d a b x1 f g i j l m n o x0 p =>
 (Xm x1.Next a).bind fun e =>
 bif (decide (b < (e.length : Int))) then
 (Xm e b).bind fun q =>
 (Lr K x0 x1 q).bind fun r =>
 bif (!r) then
 some false
 else
 X9 K c k d a (IntKind.i64.wrap (b + (1:Int))) x1 f g i j l m n o x0 p
 else
 c d (IntKind.i64.wrap (a + (1:Int))) x0 x1
def Yo (K : Nat) : Nat → Int → Int → Qn → Qa → Option Bool
 | 0 => fun _ _ _ _ => none
 | k + 1 => fun d a x0 x1 =>
 bif (decide (a < d)) then
 (Xm x1.Rule a).bind fun b =>
 bif (decide (b < (-1:Int))) then
 Y9 K
 else
 bif (decide (b ≥ (512:Int))) then
 Y9 K
 else
 (Xm x1.Next a).bind fun c =>
 bif ((c.length : Int) != x0.Split.Many) then
 Y9 K
 else
 X9 K (Yo K k) K d a (0:Int) x1 a b b (decide (b ≥ (512:Int))) a c c (c.length : Int) x0 ((c.length : Int) != x0.Split.Many)
 else
 some true
def Gl (K : Nat) (x0 : Qn) (x1 : Qa) : Option Bool :=
 (Ux K (x1.R.length : Int)).bind fun a =>
 bif (a == (0:Int)) then
 Z7 K
 else
 (J3 K x1.L (512:Int)).bind fun b =>
 bif (!b) then
 Z7 K
 else
 (J3 K x1.R (x0.Counts.length : Int)).bind fun c =>
 bif (!c) then
 Z7 K
 else
 bif ((x1.Rule.length : Int) != a) then
 Z7 K
 else
 bif ((x1.Next.length : Int) != a) then
 Z7 K
 else
 Yo K K a (0:Int) x0 x1
def Zs (K : Nat) : Option Bool :=
 some false
def Vb (K : Nat) : Option Bool :=
 some false
def Va (K : Nat) : Nat → Int → Qn → Option Bool
 | 0 => fun _ _ => none
 | k + 1 => fun a x0 =>
 bif (decide (a < (x0.States.length : Int))) then
 (Xm x0.States a).bind fun b =>
 (Gl K x0 b).bind fun c =>
 bif (!c) then
 some false
 else
 Va K k (IntKind.i64.wrap (a + (1:Int))) x0
 else
 some true
def Xb (K : Nat) : Nat → Int → Qn → Option Bool
 | 0 => fun _ _ => none
 | k + 1 => fun b x0 =>
 bif (decide (b < (x0.Counts.length : Int))) then
 (Xm x0.Counts b).bind fun a =>
 bif (decide ((Vg.get a (0:Int)) < (1:Int))) then
 Vb K
 else
 bif (decide ((Vg.get a (0:Int)) > (Vg.get a (1:Int)))) then
 Vb K
 else
 bif (decide ((Vg.get a (1:Int)) < (2:Int))) then
 Vb K
 else
 bif (decide ((Vg.get a (1:Int)) > (4096:Int))) then
 Vb K
 else
 Xb K k (IntKind.i64.wrap (b + (1:Int))) x0
 else
 Va K K (0:Int) x0
def Uw (K : Nat) (x0 : Qn) : Option Bool :=
 (Gz K x0.Split).bind fun b =>
 bif (!b) then
 Zs K
 else
 bif (decide ((x0.Counts.length : Int) > (512:Int))) then
 Zs K
 else
 bif (decide ((x0.States.length : Int) < (1:Int))) then
 Zs K
 else
 bif (decide ((x0.States.length : Int) > (256:Int))) then
 Zs K
 else
 (Xm x0.States (0:Int)).bind fun a =>
 bif (decide ((a.L.length : Int) > (0:Int))) then
 Zs K
 else
 bif (decide ((a.R.length : Int) > (0:Int))) then
 Zs K
 else
 Xb K K (0:Int) x0
def X0 (K : Nat) (x0 : Qf) : Option Bool :=
 bif (decide (x0.at_ ≥ (x0.s.size : Int))) then
 some true
 else
 some (x0.e != (0:Int))
def Up (K : Nat) (x0 : Qf) (x1 : Q2) : Option (Int × Qf) :=
 (ck (roomy 96 (x0.nodes.length + [x1].length) = true)).bind fun _ =>
 some ((IntKind.i64.wrap (((x0.nodes ++ [x1]).length : Int) - (1:Int))), (Qf.mk x0.s x0.at_ (x0.nodes ++ [x1]) x0.deep x0.e x0.where_))
def By (K : Nat) : Option ByteArray :=
 some (⟨#[124, 42, 43, 63, 123, 125, 40, 41, 91, 93, 46, 92, 47, 36, 94, 34]⟩ : ByteArray)
def Me (K : Nat) : Nat → Int → ByteArray → Int → Option Bool
 | 0 => fun _ _ _ => none
 | k + 1 => fun x0 x1 a =>
 bif (decide (a < (x1.size : Int))) then
 (ck (0 ≤ a ∧ a < x1.size)).bind fun _ =>
 bif ((bt x1 a) == x0) then
 none
 else
 Me K k x0 x1 (IntKind.i64.wrap (a + (1:Int)))
 else
 some false
def O7 (K : Nat) (x0 : Int) (x1 : ByteArray) : Option Bool :=
 Me K K x0 x1 (0:Int)
def Ka (K : Nat) (x0 : Qf) : Option (Int × Qf) :=
 (ck (0 ≤ x0.at_ ∧ x0.at_ < x0.s.size)).bind fun _ =>
 bif ((bt x0.s x0.at_) != (92:Int)) then
 some ((bt x0.s x0.at_), (Qf.mk x0.s (IntKind.i64.wrap (x0.at_ + (1:Int))) x0.nodes x0.deep x0.e x0.where_))
 else
 none
def Wh (K : Nat) (x0 : Z4) (x1 : Int) : Option Bool :=
 (ck (0 ≤ (IntKind.u8.wrap (Int.tdiv x1 (64:Int))) ∧ (IntKind.u8.wrap (Int.tdiv x1 (64:Int))) < 4)).bind fun _ =>
 (ck (0 ≤ (Int.tmod x1 (64:Int)))).bind fun _ =>
 some ((Int.tmod (Int.fdiv (Z4.get x0 (IntKind.u8.wrap (Int.tdiv x1 (64:Int)))) (2 ^ min (Int.toNat (Int.tmod x1 (64:Int))) IntKind.u64.bits)) (2:Int)) == (1:Int))
def Fp (K : Nat) (x0 : Z4) (x1 : Int) : Option Z4 :=
 (Wh K x0 x1).bind fun a =>
 bif (!a) then
 (ck (0 ≤ (IntKind.u8.wrap (Int.tdiv x1 (64:Int))) ∧ (IntKind.u8.wrap (Int.tdiv x1 (64:Int))) < 4)).bind fun _ =>
 (ck (0 ≤ (Int.tmod x1 (64:Int)))).bind fun _ =>
 some (Z4.set x0 (IntKind.u8.wrap (Int.tdiv x1 (64:Int))) (IntKind.u64.wrap ((Z4.get x0 (IntKind.u8.wrap (Int.tdiv x1 (64:Int)))) + (IntKind.u64.wrap ((1:Int) * 2 ^ min (Int.toNat (Int.tmod x1 (64:Int))) IntKind.u64.bits)))))
 else
 none
def Mh (K : Nat) : Nat → (List Int) → Int → Z4 → Z4 → Option Z4
 | 0 => fun _ _ _ _ => none
 | k + 1 => fun x0 a c b =>
 bif (decide (a < (x0.length : Int))) then
 (Xm x0 a).bind fun d =>
 (Fp K b d).bind fun e =>
 Mh K k x0 (IntKind.i64.wrap (a + (1:Int))) c e
 else
 some b
def D9 (K : Nat) (x0 : List Int) : Option Z4 :=
 Mh K K x0 (0:Int) (Z4.mk 0 0 0 0) (Z4.mk 0 0 0 0)
def Lj (K : Nat) (x0 : Qf) : Option (Int × Qf) :=
 (ck (0 ≤ x0.at_ ∧ x0.at_ < x0.s.size)).bind fun _ =>
 bif ((bt x0.s x0.at_) == (40:Int)) then
 none
 else
 bif ((bt x0.s x0.at_) == (91:Int)) then
 none
 else
 bif ((bt x0.s x0.at_) == (46:Int)) then
 none
 else
 bif ((bt x0.s x0.at_) == (123:Int)) then
 none
 else
 bif ((bt x0.s x0.at_) == (47:Int)) then
 none
 else
 bif ((bt x0.s x0.at_) == (36:Int)) then
 none
 else
 bif ((bt x0.s x0.at_) != (92:Int)) then
 (By K).bind fun c =>
 (O7 K (bt x0.s x0.at_) c).bind fun d =>
 bif d then
 none
 else
 (Ka K x0).bind fun a =>
 bif (a.2.e != (0:Int)) then
 none
 else
 (D9 K [a.1]).bind fun f =>
 (Up K a.2 (Q2.mk (2:Int) f [] (0:Int) (0:Int) (⟨#[]⟩ : ByteArray))).bind fun b =>
 some (b.1, b.2)
 else
 none
def W4 (K : Nat) : Nat → Int → ByteArray → Int → Int → Int → Int → (List Q2) → Option (Int × Qf)
 | 0 => fun _ _ _ _ _ _ _ => none
 | k + 1 => fun g a b c d e f =>
 (X0 K (Qf.mk a b f c d e)).bind fun i =>
 bif (!i) then
 (ck (0 ≤ (Qf.mk a b f c d e).at_ ∧ (Qf.mk a b f c d e).at_ < ((Qf.mk a b f c d e).s).size)).bind fun _ =>
 bif ((bt ((Qf.mk a b f c d e).s) ((Qf.mk a b f c d e).at_)) == (42:Int)) then
 none
 else
 bif ((bt ((Qf.mk a b f c d e).s) ((Qf.mk a b f c d e).at_)) == (43:Int)) then
 none
 else
 bif ((bt ((Qf.mk a b f c d e).s) ((Qf.mk a b f c d e).at_)) == (63:Int)) then
 none
 else
 bif ((bt ((Qf.mk a b f c d e).s) ((Qf.mk a b f c d e).at_)) == (123:Int)) then
 none
 else
 some (g, (Qf.mk a b f c d e))
 else
 some (g, (Qf.mk a b f c d e))
def Li (K : Nat) (x0 : Qf) : Option (Int × Qf) :=
 (Lj K x0).bind fun a =>
 W4 K K a.1 a.2.s a.2.at_ a.2.deep a.2.e a.2.where_ a.2.nodes
def U3 (K : Nat) (d : ByteArray) (e : Int) (f : Int) (b : Int) (g : Int) (i : List Q2) (a : List Int) : Option (Int × Qf) :=
 bif (b != (0:Int)) then
 none
 else
 bif ((a.length : Int) == (0:Int)) then
 none
 else
 bif ((a.length : Int) == (1:Int)) then
 none
 else
 (Up K (Qf.mk d e i f b g) (Q2.mk (3:Int) (Z4.mk 0 0 0 0) a (0:Int) (0:Int) (⟨#[]⟩ : ByteArray))).bind fun c =>
 some (c.1, c.2)
def U2 (K : Nat) : Nat → ByteArray → Int → Int → Int → Int → (List Q2) → (List Int) → Option (Int × Qf)
 | 0 => fun _ _ _ _ _ _ _ => none
 | k + 1 => fun a b c d f g j =>
 (X0 K (Qf.mk a b g c d f)).bind fun l =>
 bif (!l) then
 (ck (0 ≤ (Qf.mk a b g c d f).at_ ∧ (Qf.mk a b g c d f).at_ < ((Qf.mk a b g c d f).s).size)).bind fun _ =>
 bif ((bt ((Qf.mk a b g c d f).s) ((Qf.mk a b g c d f).at_)) != (124:Int)) then
 bif ((bt ((Qf.mk a b g c d f).s) ((Qf.mk a b g c d f).at_)) != (41:Int)) then
 (Li K (Qf.mk a b g c d f)).bind fun i =>
 (ck (roomy 8 (j.length + [i.1].length) = true)).bind fun _ =>
 U2 K k i.2.s i.2.at_ i.2.deep i.2.e i.2.where_ i.2.nodes (j ++ [i.1])
 else
 none
 else
 U3 K ((Qf.mk a b g c d f).s) ((Qf.mk a b g c d f).at_) ((Qf.mk a b g c d f).deep) ((Qf.mk a b g c d f).e) ((Qf.mk a b g c d f).where_) ((Qf.mk a b g c d f).nodes) j
 else
 U3 K ((Qf.mk a b g c d f).s) ((Qf.mk a b g c d f).at_) ((Qf.mk a b g c d f).deep) ((Qf.mk a b g c d f).e) ((Qf.mk a b g c d f).where_) ((Qf.mk a b g c d f).nodes) j
def Wp (K : Nat) (x0 : Qf) : Option (Int × Qf) :=
 U2 K K x0.s x0.at_ x0.deep x0.e x0.where_ x0.nodes []
def Xj (K : Nat) : Nat → ByteArray → Int → Int → Int → Int → (List Q2) → (List Int) → Option (Int × Qf)
 | 0 => fun _ _ _ _ _ _ _ => none
 | k + 1 => fun a b c d f g j =>
 (X0 K (Qf.mk a b g c d f)).bind fun m =>
 bif (!m) then
 (ck (0 ≤ (Qf.mk a b g c d f).at_ ∧ (Qf.mk a b g c d f).at_ < ((Qf.mk a b g c d f).s).size)).bind fun _ =>
 bif ((bt ((Qf.mk a b g c d f).s) ((Qf.mk a b g c d f).at_)) == (124:Int)) then
 (Wp K (Qf.mk ((Qf.mk a b g c d f).s) (IntKind.i64.wrap ((Qf.mk a b g c d f).at_ + (1:Int))) ((Qf.mk a b g c d f).nodes) ((Qf.mk a b g c d f).deep) ((Qf.mk a b g c d f).e) ((Qf.mk a b g c d f).where_))).bind fun i =>
 (ck (roomy 8 (j.length + [i.1].length) = true)).bind fun _ =>
 Xj K k i.2.s i.2.at_ i.2.deep i.2.e i.2.where_ i.2.nodes (j ++ [i.1])
 else
 none
 else
 bif ((j.length : Int) == (1:Int)) then
 none
 else
 bif ((Qf.mk a b g c d f).e != (0:Int)) then
 none
 else
 (Up K (Qf.mk a b g c d f) (Q2.mk (4:Int) (Z4.mk 0 0 0 0) j (0:Int) (0:Int) (⟨#[]⟩ : ByteArray))).bind fun l =>
 some (l.1, l.2)
def U7 (K : Nat) (x0 : Qf) : Option (Int × Qf) :=
 (Wp K x0).bind fun a =>
 Xj K K a.2.s a.2.at_ a.2.deep a.2.e a.2.where_ a.2.nodes [a.1]
def D3 (K : Nat) (x0 : ByteArray) : Option ((List Q2) × Int × Int) :=
 bif (decide ((x0.size : Int) > (1024:Int))) then
 none
 else
 (U7 K (Qf.mk x0 (0:Int) [] (0:Int) (0:Int) (0:Int))).bind fun a =>
 (X0 K a.2).bind fun b =>
 bif (!b) then
 none
 else
 bif (a.2.e != (0:Int)) then
 none
 else
 bif (decide ((a.2.nodes.length : Int) > (1024:Int))) then
 none
 else
 some (a.2.nodes, (0:Int), (0:Int))
def Lh (K : Nat) (rec_raddleref04_walk : (List Q2) → Int → (List Int) → Option ((List Int) × Bool)) : Nat → (List Q2) → Int → Int → (List Int) → Option ((List Int) × Bool)
 | 0 => fun _ _ _ _ => none
 | k + 1 => fun x0 x1 a b =>
 (Xm x0 x1).bind fun d =>
 bif (decide (a < (d.L.length : Int))) then
 (Xm d.L a).bind fun c =>
 bif (decide (c < (0:Int))) then
 none
 else
 bif (decide (c ≥ x1)) then
 none
 else
 (rec_raddleref04_walk x0 c b).bind fun e =>
 bif (!e.2) then
 none
 else
 Lh K rec_raddleref04_walk k x0 x1 (IntKind.i64.wrap (a + (1:Int))) e.1
 else
 (ck (roomy 8 (b.length + [x1].length) = true)).bind fun _ =>
 some ((b ++ [x1]), true)
def Cw (K : Nat) (rec_raddleref04_walk : (List Q2) → Int → (List Int) → Option ((List Int) × Bool)) (x0 : List Q2) (x1 : Int) (x2 : List Int) : Option ((List Int) × Bool) :=
 bif (decide ((x2.length : Int) ≥ (x0.length : Int))) then
 none
 else
 Lh K rec_raddleref04_walk K x0 x1 (0:Int) x2
def Kh (K : Nat) : Nat → (List Q2) → Int → (List Int) → Option ((List Int) × Bool)
 | 0 => fun _ _ _ => none
 | n + 1 => Cw K (Kh K n)
def Sn (K : Nat) (x0 : List Q2) (x1 : Int) (x2 : List Int) : Option ((List Int) × Bool) := Kh K K x0 x1 x2
def H7 (K : Nat) (a : Bool) (b : Bool) (c : Bool) (x0 : Q2) (d : Bool) : Option Bool :=
 bif d then
 bif (!a) then
 bif (!b) then
 bif (!c) then
 some (decide ((x0.L.length : Int) ≥ (2:Int)))
 else
 none
 else
 none
 else
 none
 else
 none
def D0 (K : Nat) (x0 : Q2) : Option Bool :=
 bif (x0.Lo != (0:Int)) then
 none
 else
 bif (x0.Op == (1:Int)) then
 none
 else
 bif (x0.Op == (2:Int)) then
 bif (!(Z4.same x0.S (Z4.mk 0 0 0 0))) then
 bif (!(x0.Hi != (0:Int))) then
 bif (!(!(x0.Name.toList == (⟨#[]⟩ : ByteArray).toList))) then
 some ((x0.L.length : Int) == (0:Int))
 else
 none
 else
 none
 else
 none
 else
 bif (x0.Op == (3:Int)) then
 H7 K (!(Z4.same x0.S (Z4.mk 0 0 0 0))) (x0.Hi != (0:Int)) (!(x0.Name.toList == (⟨#[]⟩ : ByteArray).toList)) x0 (x0.Op == (3:Int))
 else
 H7 K (!(Z4.same x0.S (Z4.mk 0 0 0 0))) (x0.Hi != (0:Int)) (!(x0.Name.toList == (⟨#[]⟩ : ByteArray).toList)) x0 (x0.Op == (4:Int))
def H8 (K : Nat) : Nat → Int → (List Int) → Option Bool
 | 0 => fun _ _ => none
 | k + 1 => fun a b =>
 bif (decide (a < (b.length : Int))) then
 (Xm b a).bind fun c =>
 bif (c != a) then
 none
 else
 H8 K k (IntKind.i64.wrap (a + (1:Int))) b
 else
 some true
def H9 (K : Nat) : Nat → (List Q2) → Int → Option Bool
 | 0 => fun _ _ => none
 | k + 1 => fun x0 a =>
 bif (decide (a < (x0.length : Int))) then
 (Xm x0 a).bind fun c =>
 (D0 K c).bind fun d =>
 bif (!d) then
 none
 else
 H9 K k x0 (IntKind.i64.wrap (a + (1:Int)))
 else
 (Sn K x0 (IntKind.i64.wrap ((x0.length : Int) - (1:Int))) ([] : List Int)).bind fun b =>
 bif (!b.2) then
 none
 else
 bif ((b.1.length : Int) != (x0.length : Int)) then
 none
 else
 H8 K K (0:Int) b.1
def Mf (K : Nat) (x0 : List Q2) : Option Bool :=
 bif (decide ((x0.length : Int) < (1:Int))) then
 none
 else
 bif (decide ((x0.length : Int) > (1024:Int))) then
 none
 else
 H9 K K x0 (0:Int)
def H6 (K : Nat) : Nat → (List Q2) → Int → Option Bool
 | 0 => fun _ _ => none
 | k + 1 => fun x0 a =>
 bif (decide (a < (x0.length : Int))) then
 (Xm x0 a).bind fun b =>
 bif (b.Op == (6:Int)) then
 some false
 else
 H6 K k x0 (IntKind.i64.wrap (a + (1:Int)))
 else
 (Mf K x0).bind fun c =>
 some c
def Mc (K : Nat) (x0 : List Q2) : Option Bool :=
 H6 K K x0 (0:Int)
def Lg (K : Nat) (x0 : Qy) (x1 : Q2) : Option (Int × Qy) :=
 bif (decide ((x0.out.length : Int) ≥ (1024:Int))) then
 none
 else
 (ck (roomy 96 (x0.out.length + [x1].length) = true)).bind fun _ =>
 some ((IntKind.i64.wrap (((x0.out ++ [x1]).length : Int) - (1:Int))), (Qy.mk x0.l x0.most (x0.out ++ [x1]) x0.long))
def V2 (K : Nat) (rec_raddleref08_planner_plan : Qy → Int → Option (Int × Qy)) : Nat → Int → (List Q2) → Int → Bool → (List Q2) → Int → Z4 → (List Int) → Int → Int → ByteArray → (List Int) → Option (Int × Qy)
 | 0 => fun _ _ _ _ _ _ _ _ _ _ _ _ => none
 | k + 1 => fun b e f g i j m c n o p d =>
 bif (decide (b < (c.length : Int))) then
 (Xm c b).bind fun r =>
 (rec_raddleref08_planner_plan (Qy.mk e f i g) r).bind fun a =>
 (ck (roomy 8 (d.length + [a.1].length) = true)).bind fun _ =>
 V2 K rec_raddleref08_planner_plan k (IntKind.i64.wrap (b + (1:Int))) a.2.l a.2.most a.2.long a.2.out j m c n o p (d ++ [a.1])
 else
 (Lg K (Qy.mk e f i g) (Q2.mk j m d n o p)).bind fun q =>
 some (q.1, q.2)
def W2 (K : Nat) (rec_raddleref08_planner_plan : Qy → Int → Option (Int × Qy)) (x0 : Qy) (x1 : Int) : Option (Int × Qy) :=
 (Xm x0.l x1).bind fun a =>
 bif x0.long then
 none
 else
 bif (a.Op == (5:Int)) then
 none
 else
 V2 K rec_raddleref08_planner_plan K (0:Int) x0.l x0.most x0.long x0.out a.Op a.S a.L a.Lo a.Hi a.Name []
def Un (K : Nat) : Nat → Qy → Int → Option (Int × Qy)
 | 0 => fun _ _ => none
 | n + 1 => W2 K (Un K n)
def Cb (K : Nat) (x0 : Qy) (x1 : Int) : Option (Int × Qy) := Un K K x0 x1
def Fj (K : Nat) (x0 : List Q2) (x1 : Int) : Option ((List Q2) × Int) :=
 (Mc K x0).bind fun b =>
 bif (!b) then
 none
 else
 bif (decide (x1 < (1:Int))) then
 none
 else
 bif (decide (x1 > (4096:Int))) then
 none
 else
 (Cb K (Qy.mk x0 x1 [] false) (IntKind.i64.wrap ((x0.length : Int) - (1:Int)))).bind fun a =>
 bif a.2.long then
 none
 else
 (Mf K a.2.out).bind fun c =>
 bif (!c) then
 none
 else
 some (a.2.out, (0:Int))
def Lf (K : Nat) (e : (List Int) → (List Int) → Int → Int → (List Int) → Option (List Int)) (x0 : List Int) (x1 : List Int) (b : Int) (a : Int) (c : List Int) : Option (List Int) :=
 bif (a == (x1.length : Int)) then
 none
 else
 bif (decide (b < (x0.length : Int))) then
 (Xm x0 b).bind fun d =>
 (Xm x1 a).bind fun g =>
 bif (decide (d < g)) then
 (ck (roomy 8 (c.length + [d].length) = true)).bind fun _ =>
 e x0 x1 (IntKind.i64.wrap (b + (1:Int))) a (c ++ [d])
 else
 none
 else
 (Xm x1 a).bind fun f =>
 (ck (roomy 8 (c.length + [f].length) = true)).bind fun _ =>
 e x0 x1 b (IntKind.i64.wrap (a + (1:Int))) (c ++ [f])
def Vp (K : Nat) : Nat → (List Int) → (List Int) → Int → Int → (List Int) → Option (List Int)
 | 0 => fun _ _ _ _ _ => none
 | k + 1 => fun x0 x1 a b c =>
 bif (decide (a < (x0.length : Int))) then
 Lf K (Vp K k) x0 x1 a b c
 else
 bif (decide (b < (x1.length : Int))) then
 Lf K (Vp K k) x0 x1 a b c
 else
 some c
def Jj (K : Nat) (x0 : List Int) (x1 : List Int) : Option (List Int) :=
 Vp K K x0 x1 (0:Int) (0:Int) []
def V1 (K : Nat) : Nat → (List Int) → (List Int) → Int → (List Zp) → Option Qj
 | 0 => fun _ _ _ _ => none
 | k + 1 => fun x1 x2 b c =>
 bif (decide (b < (x1.length : Int))) then
 (Xm x1 b).bind fun d =>
 (Xm c d).bind fun a =>
 (Jj K a.Next x2).bind fun e =>
 V1 K k x1 x2 (IntKind.i64.wrap (b + (1:Int))) (List.set c (Int.toNat d) (Zp.mk a.S a.Lo a.Hi a.Rule a.Last e))
 else
 some (Qj.mk c)
def Gu (K : Nat) (x0 : Qj) (x1 : List Int) (x2 : List Int) : Option Qj :=
 V1 K K x1 x2 (0:Int) x0.p
def Ul (K : Nat) (a : (List Qs) → Int → (List Zp) → Bool → (List Int) → (List Int) → Option (Qs × Qj)) (x1 : List Qs) (b : Int) (c : List Zp) (g : Bool) (d : List Int) (i : List Int) (e : Bool) (j : List Int) (f : List Int) : Option (Qs × Qj) :=
 bif e then
 none
 else
 bif g then
 a x1 (IntKind.i64.wrap (b + (1:Int))) c e d f
 else
 a x1 (IntKind.i64.wrap (b + (1:Int))) c false d f
def Yp (K : Nat) : Nat → (List Qs) → Int → (List Zp) → Bool → (List Int) → (List Int) → Option (Qs × Qj)
 | 0 => fun _ _ _ _ _ _ => none
 | k + 1 => fun x1 b f c e d =>
 bif (decide (b < (x1.length : Int))) then
 (Xm x1 b).bind fun a =>
 (Gu K (Qj.mk f) d a.first).bind fun g =>
 bif c then
 (Jj K e a.first).bind fun i =>
 Ul K (Yp K k) x1 b g.p c i d a.null a.first a.last
 else
 Ul K (Yp K k) x1 b g.p c e d a.null a.first a.last
 else
 some ((Qs.mk c e d), (Qj.mk f))
def Le (K : Nat) (x0 : Qj) (x1 : List Qs) : Option (Qs × Qj) :=
 Yp K K x1 (0:Int) x0.p true [] []
def Ld (K : Nat) (x0 : Qj) (x1 : Zp) : Option (Qs × Qj) :=
 (ck (roomy 88 (x0.p.length + [x1].length) = true)).bind fun _ =>
 some ((Qs.mk false [(IntKind.i64.wrap (((x0.p ++ [x1]).length : Int) - (1:Int)))] [(IntKind.i64.wrap (((x0.p ++ [x1]).length : Int) - (1:Int)))]), (Qj.mk (x0.p ++ [x1])))
def Vz (K : Nat) (rec_raddleref09_builder_node : Qj → (List Q2) → Int → Int → Option (Qs × Qj)) : Nat → Int → (List Zp) → (List Int) → (List Int) → Int → Z4 → (List Int) → Int → Int → ByteArray → (List Qs) → Bool → (List Int) → (List Int) → Option (Qs × Qj)
 | 0 => fun _ _ _ _ _ _ _ _ _ _ _ _ _ _ => none
 | k + 1 => fun a d j l e m n o p q b f g i =>
 bif (decide (a < (b.length : Int))) then
 bif f then
 none
 else
 (Xm b a).bind fun c =>
 (Jj K g c.first).bind fun r =>
 (Jj K i c.last).bind fun s =>
 Vz K rec_raddleref09_builder_node k (IntKind.i64.wrap (a + (1:Int))) d j l e m n o p q b c.null r s
 else
 bif (e == (5:Int)) then
 none
 else
 some ((Qs.mk f g i), (Qj.mk d))
def V0 (K : Nat) (rec_raddleref09_builder_node : Qj → (List Q2) → Int → Int → Option (Qs × Qj)) : Nat → (List Q2) → Int → Int → (List Zp) → Int → Z4 → (List Int) → Int → Int → ByteArray → (List Qs) → Option (Qs × Qj)
 | 0 => fun _ _ _ _ _ _ _ _ _ _ _ => none
 | k + 1 => fun x1 x3 d e a g b i j l c =>
 bif (decide (d < (b.length : Int))) then
 (Xm b d).bind fun n =>
 (rec_raddleref09_builder_node (Qj.mk e) x1 n x3).bind fun f =>
 (ck (roomy 56 (c.length + [f.1].length) = true)).bind fun _ =>
 V0 K rec_raddleref09_builder_node k x1 x3 (IntKind.i64.wrap (d + (1:Int))) f.2.p a g b i j l (c ++ [f.1])
 else
 bif (a == (3:Int)) then
 (Le K (Qj.mk e) c).bind fun m =>
 some (m.1, m.2)
 else
 Vz K rec_raddleref09_builder_node K (0:Int) e [] [] a g b i j l c (a == (5:Int)) [] []
def W0 (K : Nat) (rec_raddleref09_builder_node : Qj → (List Q2) → Int → Int → Option (Qs × Qj)) (x0 : Qj) (x1 : List Q2) (x2 : Int) (x3 : Int) : Option (Qs × Qj) :=
 (Xm x1 x2).bind fun a =>
 bif (a.Op == (1:Int)) then
 none
 else
 bif (a.Op == (2:Int)) then
 (Ld K x0 (Zp.mk a.S (1:Int) (1:Int) x3 false [])).bind fun b =>
 some (b.1, b.2)
 else
 bif (a.Op == (5:Int)) then
 none
 else
 V0 K rec_raddleref09_builder_node K x1 x3 (0:Int) x0.p a.Op a.S a.L a.Lo a.Hi a.Name []
def Uj (K : Nat) : Nat → Qj → (List Q2) → Int → Int → Option (Qs × Qj)
 | 0 => fun _ _ _ _ => none
 | n + 1 => W0 K (Uj K n)
def Ca (K : Nat) (x0 : Qj) (x1 : List Q2) (x2 : Int) (x3 : Int) : Option (Qs × Qj) := Uj K K x0 x1 x2 x3
def H5 (K : Nat) : Nat → (List Q2) → Int → Option Bool
 | 0 => fun _ _ => none
 | k + 1 => fun x0 a =>
 bif (decide (a < (x0.length : Int))) then
 (Xm x0 a).bind fun b =>
 bif (b.Op == (5:Int)) then
 none
 else
 H5 K k x0 (IntKind.i64.wrap (a + (1:Int)))
 else
 some true
def Dz (K : Nat) (x0 : List Q2) : Option Bool :=
 (Mc K x0).bind fun a =>
 bif (!a) then
 none
 else
 H5 K K x0 (0:Int)
def Ma (K : Nat) (e : (List (List Q2)) → Int → (List Int) → (List Zp) → (List Zp) → (List Int) → (List Zp) → Option (Zr × Int)) : Nat → (List (List Q2)) → Int → Int → (List Int) → (List Zp) → (List Zp) → (List Int) → (List Zp) → Bool → (List Int) → (List Int) → Option (Zr × Int)
 | 0 => fun _ _ _ _ _ _ _ _ _ _ _ => none
 | k + 1 => fun x0 f c g i b j l n o d =>
 bif (decide (c < (d.length : Int))) then
 (Xm d c).bind fun m =>
 (Xm b m).bind fun a =>
 Ma K e k x0 f (IntKind.i64.wrap (c + (1:Int))) g i (List.set b (Int.toNat m) (Zp.mk a.S a.Lo a.Hi a.Rule true a.Next)) j l n o d
 else
 bif (decide ((b.length : Int) > (512:Int))) then
 none
 else
 e x0 (IntKind.i64.wrap (f + (1:Int))) g i b j l
def Gw (K : Nat) : Nat → (List (List Q2)) → Int → (List Int) → (List Zp) → (List Zp) → (List Int) → (List Zp) → Option (Zr × Int)
 | 0 => fun _ _ _ _ _ _ _ => none
 | k + 1 => fun x0 b f g c d i =>
 bif (decide (b < (x0.length : Int))) then
 (Xm x0 b).bind fun e =>
 (Ca K (Qj.mk c) e (IntKind.i64.wrap ((e.length : Int) - (1:Int))) b).bind fun a =>
 (Jj K d a.1.first).bind fun j =>
 Ma K (Gw K k) K x0 b (0:Int) f g a.2.p j i a.1.null a.1.first a.1.last
 else
 some ((Zr.mk d c), (0:Int))
def Mb (K : Nat) : Nat → (List (List Q2)) → Int → Option (Zr × Int)
 | 0 => fun _ _ => none
 | k + 1 => fun x0 a =>
 bif (decide (a < (x0.length : Int))) then
 (Xm x0 a).bind fun b =>
 (Dz K b).bind fun c =>
 bif (!c) then
 none
 else
 Mb K k x0 (IntKind.i64.wrap (a + (1:Int)))
 else
 Gw K K x0 (0:Int) [] [] [] [] []
def Oy (K : Nat) (x0 : List (List Q2)) : Option (Zr × Int) :=
 bif (decide ((x0.length : Int) > (512:Int))) then
 none
 else
 Mb K K x0 (0:Int)
def Jr (K : Nat) : Nat → (List Int) → Int → Int → Option Bool
 | 0 => fun _ _ _ => none
 | k + 1 => fun x0 x1 a =>
 bif (decide (a < (x0.length : Int))) then
 (Xm x0 a).bind fun b =>
 bif (decide (b < (0:Int))) then
 none
 else
 bif (decide (b ≥ x1)) then
 none
 else
 bif (decide (a > (0:Int))) then
 (Xm x0 (IntKind.i64.wrap (a - (1:Int)))).bind fun c =>
 bif (decide (c ≥ b)) then
 none
 else
 Jr K k x0 x1 (IntKind.i64.wrap (a + (1:Int)))
 else
 Jr K k x0 x1 (IntKind.i64.wrap (a + (1:Int)))
 else
 some true
def K7 (K : Nat) (x0 : List Int) (x1 : Int) : Option Bool :=
 Jr K K x0 x1 (0:Int)
def H4 (K : Nat) : Nat → Int → Zr → Option Bool
 | 0 => fun _ _ => none
 | k + 1 => fun b x0 =>
 bif (decide (b < (x0.P.length : Int))) then
 (Xm x0.P b).bind fun a =>
 bif (Z4.same a.S (Z4.mk 0 0 0 0)) then
 none
 else
 bif (decide (a.Lo < (1:Int))) then
 none
 else
 bif (decide (a.Lo > a.Hi)) then
 none
 else
 bif (decide (a.Hi > (4096:Int))) then
 none
 else
 bif (decide (a.Rule < (0:Int))) then
 none
 else
 bif (decide (a.Rule ≥ (512:Int))) then
 none
 else
 (K7 K a.Next (x0.P.length : Int)).bind fun c =>
 bif (!c) then
 none
 else
 H4 K k (IntKind.i64.wrap (b + (1:Int))) x0
 else
 some true
def Dy (K : Nat) (x0 : Zr) : Option Bool :=
 bif (decide ((x0.P.length : Int) > (512:Int))) then
 none
 else
 (K7 K x0.First (x0.P.length : Int)).bind fun a =>
 bif (!a) then
 none
 else
 H4 K K (0:Int) x0
def Ga (K : Nat) : Nat → (List Z4) → Int → Int → Int → Option Bool
 | 0 => fun _ _ _ _ => none
 | k + 1 => fun x0 x1 x2 a =>
 bif (decide (a < (x0.length : Int))) then
 (Xm x0 a).bind fun b =>
 (Wh K b x1).bind fun c =>
 (Wh K b x2).bind fun d =>
 bif (!(c == d)) then
 some false
 else
 Ga K k x0 x1 x2 (IntKind.i64.wrap (a + (1:Int)))
 else
 some true
def D4 (K : Nat) (x0 : List Z4) (x1 : Int) (x2 : Int) : Option Bool :=
 Ga K K x0 x1 x2 (0:Int)
def J4 (K : Nat) (b : (List Z4) → Int → Zg → Zg → (List Int) → Option Q9) (x0 : List Z4) (a : Int) (c : Int) (d : Zg) (e : Zg) (f : List Int) : Option Q9 :=
 (ck (0 ≤ a ∧ a < 256)).bind fun _ =>
 b x0 (IntKind.i64.wrap (a + (1:Int))) d (Zg.set e a (IntKind.u8.wrap c)) f
def Mg (K : Nat) (d : (List Z4) → Int → Zg → Zg → (List Int) → Option Q9) : Nat → (List Z4) → Int → Int → Zg → Zg → (List Int) → Option Q9
 | 0 => fun _ _ _ _ _ _ => none
 | k + 1 => fun x0 b c e f a =>
 bif (decide (c < (a.length : Int))) then
 (Xm a c).bind fun g =>
 (D4 K x0 g (IntKind.u8.wrap b)).bind fun i =>
 bif (!i) then
 Mg K d k x0 b (IntKind.i64.wrap (c + (1:Int))) e f a
 else
 bif (c == (a.length : Int)) then
 (ck (roomy 1 (a.length + [(IntKind.u8.wrap b)].length) = true)).bind fun _ =>
 J4 K d x0 b c e f (a ++ [(IntKind.u8.wrap b)])
 else
 J4 K d x0 b c e f a
 else
 bif (c == (a.length : Int)) then
 (ck (roomy 1 (a.length + [(IntKind.u8.wrap b)].length) = true)).bind fun _ =>
 J4 K d x0 b c e f (a ++ [(IntKind.u8.wrap b)])
 else
 J4 K d x0 b c e f a
def G0 (K : Nat) : Nat → (List Z4) → Int → Zg → Zg → (List Int) → Option Q9
 | 0 => fun _ _ _ _ _ => none
 | k + 1 => fun x0 a d b c =>
 bif (decide (a < (256:Int))) then
 Mg K (G0 K k) K x0 a (0:Int) d b c
 else
 some (Q9.mk b (c.length : Int))
def Pa (K : Nat) (x0 : List Z4) : Option Q9 :=
 G0 K K x0 (0:Int) (Zg.mk fun _ => 0) (Zg.mk fun _ => 0) []
def Jw (K : Nat) : Nat → Int → Int → Qi → Qa → Option Int
 | 0 => fun _ _ _ _ => none
 | k + 1 => fun x2 x3 x0 x1 =>
 bif (decide ((0:Int) < (x1.R.length : Int))) then
 none
 else
 some (-1:Int)
def U0 (K : Nat) (x0 : Qi) (x1 : Qa) (x2 : Int) (x3 : Int) : Option Int :=
 Jw K K x2 x3 x0 x1
def Jg (K : Nat) (x0 : Qi) (x1 : Qa) (x2 : Int) (x3 : Int) : Option Bool :=
 (U0 K x0 x1 x2 x3).bind fun a =>
 some (a != (0:Int))
def Xr (K : Nat) : Nat → Int → Int → Int → Qi → Qa → Option Int
 | 0 => fun _ _ _ _ _ => none
 | k + 1 => fun x2 b a x0 x1 =>
 bif (decide (a < (x1.L.length : Int))) then
 (Xm x1.L a).bind fun c =>
 (Xm x0.g.P c).bind fun d =>
 bif d.Last then
 (Jg K x0 x1 x2 c).bind fun e =>
 bif e then
 bif (decide (b < (0:Int))) then
 Xr K k x2 d.Rule (IntKind.i64.wrap (a + (1:Int))) x0 x1
 else
 none
 else
 none
 else
 Xr K k x2 b (IntKind.i64.wrap (a + (1:Int))) x0 x1
 else
 some b
def Gn (K : Nat) (x0 : Qi) (x1 : Qa) (x2 : Int) : Option Int :=
 Xr K K x2 (-1:Int) (0:Int) x0 x1
def He (K : Nat) : Nat → Int → Int → Q9 → Z4 → (List Int) → Option Z4
 | 0 => fun _ _ _ _ _ => none
 | k + 1 => fun x1 a x0 c b =>
 bif (decide (a < (256:Int))) then
 (ck (0 ≤ a ∧ a < 256)).bind fun _ =>
 bif ((IntKind.i64.wrap (Zg.get x0.Of a)) == x1) then
 (ck (roomy 1 (b.length + [(IntKind.u8.wrap a)].length) = true)).bind fun _ =>
 He K k x1 (IntKind.i64.wrap (a + (1:Int))) x0 c (b ++ [(IntKind.u8.wrap a)])
 else
 He K k x1 (IntKind.i64.wrap (a + (1:Int))) x0 c b
 else
 (D9 K b).bind fun d =>
 some d
def Ng (K : Nat) (x0 : Q9) (x1 : Int) : Option Z4 :=
 He K K x1 (0:Int) x0 (Z4.mk 0 0 0 0) []
def Wg (K : Nat) : Nat → Int → Z4 → (List Int) → Option (List Int)
 | 0 => fun _ _ _ => none
 | k + 1 => fun a x0 b =>
 bif (decide (a < (256:Int))) then
 (Wh K x0 (IntKind.u8.wrap a)).bind fun c =>
 bif c then
 (ck (roomy 1 (b.length + [(IntKind.u8.wrap a)].length) = true)).bind fun _ =>
 Wg K k (IntKind.i64.wrap (a + (1:Int))) x0 (b ++ [(IntKind.u8.wrap a)])
 else
 Wg K k (IntKind.i64.wrap (a + (1:Int))) x0 b
 else
 some b
def Fs (K : Nat) (x0 : Z4) : Option (List Int) :=
 Wg K K (0:Int) x0 []
def Gb (K : Nat) : Nat → Int → Q9 → (List Int) → Option (List Int)
 | 0 => fun _ _ _ => none
 | k + 1 => fun a x0 b =>
 bif (decide (a < x0.Many)) then
 (Ng K x0 a).bind fun e =>
 (Fs K e).bind fun c =>
 bif ((c.length : Int) == (0:Int)) then
 none
 else
 (Xm c (0:Int)).bind fun d =>
 (ck (roomy 1 (b.length + [d].length) = true)).bind fun _ =>
 Gb K k (IntKind.i64.wrap (a + (1:Int))) x0 (b ++ [d])
 else
 some b
def D6 (K : Nat) (x0 : Q9) : Option (List Int) :=
 bif (decide (x0.Many < (1:Int))) then
 none
 else
 bif (decide (x0.Many > (256:Int))) then
 none
 else
 Gb K K (0:Int) x0 []
def Vl (K : Nat) : Nat → Int → Int → Int → Qi → Qa → Option Bool
 | 0 => fun _ _ _ _ _ => none
 | k + 1 => fun x3 x4 a x0 x2 =>
 bif (decide (a < (x2.L.length : Int))) then
 (Xm x2.L a).bind fun b =>
 (Jg K x0 x2 x3 b).bind fun c =>
 bif c then
 (Xm x0.g.P b).bind fun d =>
 (J2 K d.Next x4).bind fun e =>
 bif e then
 some true
 else
 Vl K k x3 x4 (IntKind.i64.wrap (a + (1:Int))) x0 x2
 else
 none
 else
 some false
def Wz (K : Nat) (x0 : Qi) (x1 : Int) (x2 : Qa) (x3 : Int) (x4 : Int) : Option Bool :=
 bif (x1 == (0:Int)) then
 (J2 K x0.g.First x4).bind fun a =>
 some a
 else
 Vl K K x3 x4 (0:Int) x0 x2
def Ho (K : Nat) (x0 : Qi) (x1 : Qa) (x2 : Int) (x3 : Int) : Option Bool :=
 (U0 K x0 x1 x2 x3).bind fun a =>
 (J2 K x1.L x3).bind fun b =>
 bif b then
 bif (a == (0:Int)) then
 none
 else
 some (a == (2:Int))
 else
 some false
def Vx (K : Nat) (b : (List Int) → Int → Qi → Option (Int × Qi)) : Nat → (List Int) → Int → (List Int) → Bool → Int → Qi → Option (Int × Qi)
 | 0 => fun _ _ _ _ _ _ => none
 | k + 1 => fun x1 c d e a x0 =>
 bif (decide (a < (x1.length : Int))) then
 bif e then
 (Xm d a).bind fun f =>
 (Xm x1 a).bind fun g =>
 Vx K b k x1 c d (f == g) (IntKind.i64.wrap (a + (1:Int))) x0
 else
 none
 else
 bif e then
 none
 else
 b x1 (IntKind.i64.wrap (c + (1:Int))) x0
def Vw (K : Nat) : Nat → (List Int) → Int → Qi → Option (Int × Qi)
 | 0 => fun _ _ _ => none
 | k + 1 => fun x1 b x0 =>
 bif (decide (b < (x1.length : Int))) then
 (Xm x1 b).bind fun c =>
 (Xm x0.number c).bind fun d =>
 bif (decide (d ≥ (0:Int))) then
 none
 else
 Vw K k x1 (IntKind.i64.wrap (b + (1:Int))) x0
 else
 bif (decide ((x0.a.States.length : Int) ≥ (256:Int))) then
 none
 else
 (ck (roomy 96 (x0.a.States.length + [(Qa.mk x1 [] [] [])].length) = true)).bind fun _ =>
 some ((IntKind.i64.wrap (((x0.a.States ++ [(Qa.mk x1 [] [] [])]).length : Int) - (1:Int))), (Qi.mk x0.g x0.number (Qn.mk x0.a.Split x0.a.Counts (x0.a.States ++ [(Qa.mk x1 [] [] [])])) x0.e))
def Xs (K : Nat) : Nat → (List Int) → Int → Qi → Option (Int × Qi)
 | 0 => fun _ _ _ => none
 | k + 1 => fun x1 b x0 =>
 bif (decide (b < (x0.a.States.length : Int))) then
 (Xm x0.a.States b).bind fun c =>
 bif ((c.L.length : Int) == (x1.length : Int)) then
 Vx K (Xs K k) K x1 b c.L true (0:Int) x0
 else
 none
 else
 Vw K K x1 (0:Int) x0
def Gr (K : Nat) (x0 : Qi) (x1 : List Int) : Option (Int × Qi) :=
 Xs K K x1 (1:Int) x0
def Yz (K : Nat) : Nat → Int → Int → Int → Int → Qi → (List Int) → (List Int) → (List Int) → (List (List Qd)) → (List Int) → Option (Qd × Qi)
 | 0 => fun _ _ _ _ _ _ _ _ _ _ => none
 | k + 1 => fun x1 x2 i a x0 c d e f b =>
 bif (decide (a < (x0.g.P.length : Int))) then
 (Xm x0.g.P a).bind fun l =>
 (Wh K l.S i).bind fun m =>
 bif (!m) then
 Yz K k x1 x2 i (IntKind.i64.wrap (a + (1:Int))) x0 c d e f b
 else
 (Wz K x0 x1 (Qa.mk c d e f) x2 a).bind fun n =>
 (Ho K x0 (Qa.mk c d e f) x2 a).bind fun o =>
 bif (!n) then
 bif (!o) then
 Yz K k x1 x2 i (IntKind.i64.wrap (a + (1:Int))) x0 c d e f b
 else
 none
 else
 (ck (roomy 8 (b.length + [a].length) = true)).bind fun _ =>
 (Xm x0.number a).bind fun p =>
 bif (decide (p < (0:Int))) then
 Yz K k x1 x2 i (IntKind.i64.wrap (a + (1:Int))) x0 c d e f (b ++ [a])
 else
 none
 else
 bif ((b.length : Int) == (0:Int)) then
 some ((Qd.mk (-1:Int) []), x0)
 else
 (Gr K x0 b).bind fun j =>
 some ((Qd.mk j.1 []), j.2)
def Gp (K : Nat) (x0 : Qi) (x1 : Int) (x2 : Int) (x3 : Int) : Option (Qd × Qi) :=
 (Xm x0.a.States x1).bind fun b =>
 (D6 K x0.a.Split).bind fun c =>
 (Xm c x3).bind fun d =>
 Yz K K x1 x2 d (0:Int) x0 b.L b.R b.Rule b.Next []
def K5 (K : Nat) (m : Int → Int → Int → Zg → (List Int) → (List Zp) → Zg → Int → Int → (List Int) → (List Vg) → (List Qa) → (List Int) → (List (List Qd)) → Option (Qn × Int)) : Nat → Int → Int → Int → Int → Zg → (List Int) → (List Zp) → Zg → Int → Int → (List Int) → (List Vg) → (List Qa) → (List Int) → (List (List Qd)) → (List Qd) → Option (Qn × Int)
 | 0 => fun _ _ _ _ _ _ _ _ _ _ _ _ _ _ _ _ => none
 | k + 1 => fun d n f i o p q r j s t u v w l c =>
 bif (decide (i < j)) then
 (Gp K (Qi.mk (Zr.mk p q) t (Qn.mk (Q9.mk r j) u v) s) d f i).bind fun b =>
 (ck (roomy 32 (c.length + [b.1].length) = true)).bind fun _ =>
 bif (b.2.e != (0:Int)) then
 none
 else
 K5 K m k d n f (IntKind.i64.wrap (i + (1:Int))) o b.2.g.First b.2.g.P b.2.a.Split.Of b.2.a.Split.Many b.2.e b.2.number b.2.a.Counts b.2.a.States w l (c ++ [b.1])
 else
 (ck (roomy 24 (l.length + [c].length) = true)).bind fun _ =>
 m d n (IntKind.i64.wrap (f + (1:Int))) o p q r j s t u v w (l ++ [c])
def Gs (K : Nat) (s : Int → Zg → (List Int) → (List Zp) → Zg → Int → Int → (List Int) → (List Vg) → (List Qa) → Option (Qn × Int)) : Nat → Int → Int → Int → Zg → (List Int) → (List Zp) → Zg → Int → Int → (List Int) → (List Vg) → (List Qa) → (List Int) → (List (List Qd)) → Option (Qn × Int)
 | 0 => fun _ _ _ _ _ _ _ _ _ _ _ _ _ _ => none
 | k + 1 => fun n t q u c d f i j l m b p v =>
 bif (decide (q < t)) then
 (Xm b n).bind fun y =>
 (Gn K (Qi.mk (Zr.mk c d) l (Qn.mk (Q9.mk f i) m b) j) y q).bind fun w =>
 (ck (roomy 8 (p.length + [w].length) = true)).bind fun _ =>
 K5 K (Gs K s k) K n t q (0:Int) u ((Qi.mk (Zr.mk c d) l (Qn.mk (Q9.mk f i) m b) j).g.First) ((Qi.mk (Zr.mk c d) l (Qn.mk (Q9.mk f i) m b) j).g.P) ((Qi.mk (Zr.mk c d) l (Qn.mk (Q9.mk f i) m b) j).a.Split.Of) ((Qi.mk (Zr.mk c d) l (Qn.mk (Q9.mk f i) m b) j).a.Split.Many) ((Qi.mk (Zr.mk c d) l (Qn.mk (Q9.mk f i) m b) j).e) ((Qi.mk (Zr.mk c d) l (Qn.mk (Q9.mk f i) m b) j).number) ((Qi.mk (Zr.mk c d) l (Qn.mk (Q9.mk f i) m b) j).a.Counts) ((Qi.mk (Zr.mk c d) l (Qn.mk (Q9.mk f i) m b) j).a.States) (p ++ [w]) v []
 else
 (Xm b n).bind fun o =>
 (Xm (List.set b (Int.toNat n) (Qa.mk o.L o.R p o.Next)) n).bind fun r =>
 s (IntKind.i64.wrap (n + (1:Int))) u c d f i j l m (List.set (List.set b (Int.toNat n) (Qa.mk o.L o.R p o.Next)) (Int.toNat n) (Qa.mk r.L r.R r.Rule v))
def Gt (K : Nat) : Nat → Int → Zg → (List Int) → (List Zp) → Zg → Int → Int → (List Int) → (List Vg) → (List Qa) → Option (Qn × Int)
 | 0 => fun _ _ _ _ _ _ _ _ _ _ => none
 | k + 1 => fun b f g i c d j l e a =>
 bif (decide (b < (a.length : Int))) then
 (Xm a b).bind fun m =>
 (Ux K (m.R.length : Int)).bind fun n =>
 Gs K (Gt K k) K b n (0:Int) f g i c d j l e a [] []
 else
 some ((Qn.mk (Q9.mk c d) e a), (0:Int))
def K6 (K : Nat) : Nat → Int → Zr → Zg → Zg → (List Int) → (List Z4) → Option (Qn × Int)
 | 0 => fun _ _ _ _ _ _ => none
 | k + 1 => fun a x0 e g b c =>
 bif (decide (a < (x0.P.length : Int))) then
 (Xm x0.P a).bind fun d =>
 (ck (roomy 32 (c.length + [d.S].length) = true)).bind fun _ =>
 bif (decide (d.Hi > (1:Int))) then
 none
 else
 (ck (roomy 8 (b.length + [(-1:Int)].length) = true)).bind fun _ =>
 K6 K k (IntKind.i64.wrap (a + (1:Int))) x0 e g (b ++ [(-1:Int)]) (c ++ [d.S])
 else
 (Pa K c).bind fun f =>
 Gt K K (0:Int) e x0.First x0.P f.Of f.Many (0:Int) b [] [(Qa.mk [] [] [] [])]
def Ot (K : Nat) (x0 : Zr) : Option (Qn × Int) :=
 (Dy K x0).bind fun a =>
 bif (!a) then
 none
 else
 K6 K K (0:Int) x0 (Zg.mk fun _ => 0) (Zg.mk fun _ => 0) [] []
def G2 (K : Nat) : Option Bool :=
 (D3 K (⟨#[97, 98, 124, 99, 98]⟩ : ByteArray)).bind fun b =>
 (Fj K b.1 (1:Int)).bind fun c =>
 (Oy K [c.1]).bind fun d =>
 (Ot K d.1).bind fun e =>
 (Qed K e.1).bind fun a =>
 bif (a.2 == (0:Int)) then
 some ((a.1.States.length : Int) == (3:Int))
 else
 some false
def Jy (K : Nat) (a : Bool) : Option Bool :=
 some a
def Yj (K : Nat) (c : Bool → (List Bool) → Int → Int → Bool → (List Qa) → Int → Int → (List (List Qd)) → Int → Int → Zg → Int → (List Vg) → (List Qa) → (List Int) → (List Int) → (List Int) → (List (List Qd)) → Option Bool) : Nat → Bool → (List Bool) → Int → Int → Bool → (List Qa) → Int → Int → (List (List Qd)) → Int → Int → (List Qd) → Int → Int → Zg → Int → (List Vg) → (List Qa) → (List Int) → (List Int) → (List Int) → (List (List Qd)) → Option Bool
 | 0 => fun _ _ _ _ _ _ _ _ _ _ _ _ _ _ _ _ _ _ _ _ _ _ => none
 | k + 1 => fun d a e f z g i j l m n o p b q r s t u v w y =>
 bif (decide (b < p)) then
 (Xm o b).bind fun aa =>
 bif z then
 Yj K c k d a e f true g i j l m n o p (IntKind.i64.wrap (b + (1:Int))) q r s t u v w y
 else
 bif (decide (aa.To ≥ (0:Int))) then
 (Xm a aa.To).bind fun ab =>
 Yj K c k d a e f ab g i j l m n o p (IntKind.i64.wrap (b + (1:Int))) q r s t u v w y
 else
 Yj K c k d a e f false g i j l m n o p (IntKind.i64.wrap (b + (1:Int))) q r s t u v w y
 else
 c d a e f z g i j l m (IntKind.i64.wrap (n + (1:Int))) q r s t u v w y
def X1 (K : Nat) (b : Bool → (List Bool) → Int → Int → Bool → (List Qa) → Int → Int → (List (List Qd)) → Int → Int → Zg → Int → (List Vg) → (List Qa) → (List Int) → (List Int) → (List Int) → (List (List Qd)) → Option Bool) (c : Bool) (d : List Bool) (e : Int) (f : Int) (g : Bool) (a : List Qd) (i : List Qa) (j : Int) (l : Int) (m : List (List Qd)) (n : Int) (o : Int) (p : Zg) (q : Int) (r : List Vg) (s : List Qa) (t : List Int) (u : List Int) (v : List Int) (w : List (List Qd)) : Option Bool :=
 Yj K b K c d e f g i j l m n o a (a.length : Int) (0:Int) p q r s t u v w
def Zx (K : Nat) (b : Bool → (List Bool) → Int → (List Qa) → Int → Int → Zg → Int → (List Vg) → (List Qa) → Option Bool) : Nat → Bool → (List Bool) → Int → Int → Bool → (List Qa) → Int → Int → (List (List Qd)) → Int → Int → Zg → Int → (List Vg) → (List Qa) → (List Int) → (List Int) → (List Int) → (List (List Qd)) → Option Bool
 | 0 => fun _ _ _ _ _ _ _ _ _ _ _ _ _ _ _ _ _ _ _ => none
 | k + 1 => fun c a d o p e f g q r i j l m n t u s v =>
 bif (decide (i < r)) then
 (Xm q i).bind fun w =>
 bif p then
 X1 K (Zx K b k) c a d o true w e f g q r i j l m n t u s v
 else
 (Xm s i).bind fun y =>
 X1 K (Zx K b k) c a d o (decide (y ≥ (0:Int))) w e f g q r i j l m n t u s v
 else
 (Xm a o).bind fun z =>
 bif (!(p == z)) then
 some false
 else
 bif p then
 bif (decide (o > (0:Int))) then
 b c a (IntKind.i64.wrap (d + (1:Int))) e f (IntKind.i64.wrap (g + (1:Int))) j l m n
 else
 b c a d e f (IntKind.i64.wrap (g + (1:Int))) j l m n
 else
 b c a d e f (IntKind.i64.wrap (g + (1:Int))) j l m n
def Yk (K : Nat) : Nat → Bool → (List Bool) → Int → (List Qa) → Int → Int → Zg → Int → (List Vg) → (List Qa) → Option Bool
 | 0 => fun _ _ _ _ _ _ _ _ _ _ => none
 | k + 1 => fun g n i j l c d e f m =>
 bif (decide (c < l)) then
 (Xm j c).bind fun a =>
 Zx K (Yk K k) K g n i c false j l c a.Next (a.Next.length : Int) (0:Int) d e f m a.L a.R a.Rule a.Next
 else
 (Qed K (Qn.mk (Q9.mk d e) f m)).bind fun b =>
 bif g then
 bif (b.2 == (0:Int)) then
 bif (decide ((b.1.States.length : Int) ≤ i)) then
 bif ((b.1.Counts.length : Int) == (f.length : Int)) then
 some (([Zg.list 256 b.1.Split.Of, [b.1.Split.Many]] : List (List Int)) == [Zg.list 256 d, [e]])
 else
 some false
 else
 some false
 else
 some false
 else
 some false
def Vc (K : Nat) (x0 : Qn) : Option Bool :=
 (G2 K).bind fun c =>
 (Kv K x0).bind fun a =>
 (Ef K a).bind fun b =>
 (Uw K a).bind fun d =>
 bif (!d) then
 bif c then
 Jy K ((b.length : Int) == (0:Int))
 else
 Jy K false
 else
 bif ((b.length : Int) != (a.States.length : Int)) then
 some false
 else
 Yk K K c b (1:Int) a.States (a.States.length : Int) (0:Int) a.Split.Of a.Split.Many a.Counts a.States
end Go.Rv

/- What each function of the program computes, as plain Lean: printed by a program of ours from the translation. -/
import Derived.Test.YtcmfaclkgdmpbaaGreatDoorRvDD
namespace Go.Rv
set_option linter.unusedVariables false
structure Q9 where
 Of : Zi
 Many : Int
abbrev Qen (x : Q9) : List DC := ((Zi.dc 256 .u8 x.Of) ++ (([.int .i64 x.Many] : List DC)))
structure Qe where
 To : Int
 Ops : List Int
 deriving DecidableEq
abbrev Qf (x : Qe) : List DC := [.int .i64 x.To, .sl false 1 (x.Ops.map (cI .u8))]
structure Qa where
 L : List Int
 R : List Int
 Rule : List Int
 Next : List (List Qe)
 deriving DecidableEq
abbrev Qb (x : Qa) : List DC := [.sl false 1 (x.L.map (cI .i64)), .sl false 1 (x.R.map (cI .i64)), .sl false 1 (x.Rule.map (cI .i64)), .sl false 1 (x.Next.map (cL 2 Qf))]
structure Ql where
 Split : Q9
 Counts : List Vr
 States : List Qa
abbrev c_api_Auto (x : Ql) : List DC := ((Zi.dc 256 .u8 x.Split.Of) ++ (([.int .i64 x.Split.Many, .sl false 2 (x.Counts.map (Vr.dc .i64)), .sl false 4 (x.States.map Qb)] : List DC)))
structure Ze where
 Auto : Ql
structure Qc where
 Auto : Ql
structure Yf where
 l : List Int
 deriving DecidableEq
structure Q4 where
 Op : Int
 S : Z5
 L : List Int
 Lo : Int
 Hi : Int
 Name : ByteArray
 deriving DecidableEq
abbrev Qo (x : Q4) : List DC := [.int .u8 x.Op, .int .u64 x.S.a0, .int .u64 x.S.a1, .int .u64 x.S.a2, .int .u64 x.S.a3, .sl false 1 (x.L.map (cI .i64)), .int .i64 x.Lo, .int .i64 x.Hi, .str x.Name]
structure Qg where
 s : ByteArray
 at_ : Int
 nodes : List Q4
 deep : Int
 e : Int
 where_ : Int
 deriving DecidableEq
structure Qx where
 l : List Q4
 most : Int
 out : List Q4
 long : Bool
 deriving DecidableEq
structure Zp where
 S : Z5
 Lo : Int
 Hi : Int
 Rule : Int
 Last : Bool
 Next : List Int
 deriving DecidableEq
abbrev Q1 (x : Zp) : List DC := [.int .u64 x.S.a0, .int .u64 x.S.a1, .int .u64 x.S.a2, .int .u64 x.S.a3, .int .i64 x.Lo, .int .i64 x.Hi, .int .i64 x.Rule, .bool x.Last, .sl false 1 (x.Next.map (cI .i64))]
structure Zr where
 First : List Int
 P : List Zp
 deriving DecidableEq
structure Qk where
 p : List Zp
 deriving DecidableEq
structure Qu where
 null : Bool
 first : List Int
 last : List Int
 deriving DecidableEq
abbrev Zk (x : Qu) : List DC := [.bool x.null, .sl false 1 (x.first.map (cI .i64)), .sl false 1 (x.last.map (cI .i64))]
structure Qi where
 g : Zr
 number : List Int
 a : Ql
 e : Int
def Mf (K : Nat) (x0 : Ql) : Option Ql :=
 bif (decide ((x0.States.length : Int) > (60:Int))) then
 some (Ql.mk (Q9.mk (Zi.mk fun _ => 0) (0:Int)) [] [])
 else
 some x0
def Wg (K : Nat) : Nat → Int → Q9 → Int → Option Bool
 | 0 => fun _ _ _ => none
 | k + 1 => fun b x0 a =>
 bif (decide (a < (256:Int))) then
 (ck (0 ≤ a ∧ a < 256)).bind fun _ =>
 bif (decide ((IntKind.i64.wrap (Zi.get x0.Of a)) > b)) then
 some false
 else
 bif ((IntKind.i64.wrap (Zi.get x0.Of a)) == b) then
 Wg K k (IntKind.i64.wrap (b + (1:Int))) x0 (IntKind.i64.wrap (a + (1:Int)))
 else
 Wg K k b x0 (IntKind.i64.wrap (a + (1:Int)))
 else
 some (b == x0.Many)
def Nu (K : Nat) (x0 : Q9) : Option Bool :=
 Wg K K (0:Int) x0 (0:Int)
def D0 (K : Nat) : Option Int :=
 some (0:Int)
def Dz (K : Nat) : Nat → Int → Int → Int → Option Int
 | 0 => fun _ _ _ => none
 | k + 1 => fun a x0 b =>
 bif (decide (b < x0)) then
 Dz K k (IntKind.i64.wrap (a * (3:Int))) x0 (IntKind.i64.wrap (b + (1:Int)))
 else
 some a
def Nn (K : Nat) (x0 : Int) : Option Int :=
 bif (decide (x0 < (0:Int))) then
 D0 K
 else
 bif (decide (x0 > (3:Int))) then
 D0 K
 else
 Dz K K (1:Int) x0 (0:Int)
def Dw (K : Nat) : Option Bool :=
 some false
def L7 (K : Nat) : Nat → Int → Int → (List Int) → Int → Int → Option Bool
 | 0 => fun _ _ _ _ _ => none
 | k + 1 => fun x1 d x0 c a =>
 bif (decide (a < c)) then
 (Xa x0 a).bind fun b =>
 bif (decide (b ≤ d)) then
 Dw K
 else
 bif (decide (b ≥ x1)) then
 Dw K
 else
 L7 K k x1 b x0 c (IntKind.i64.wrap (a + (1:Int)))
 else
 some true
def Nl (K : Nat) (x0 : List Int) (x1 : Int) : Option Bool :=
 L7 K K x1 (-1:Int) x0 (x0.length : Int) (0:Int)
def Vv (K : Nat) : Nat → (List Int) → Int → Int → Int → Option Int
 | 0 => fun _ _ _ _ => none
 | k + 1 => fun x0 x1 b a =>
 bif (decide (a < b)) then
 (Xa x0 a).bind fun c =>
 bif (x1 == c) then
 some a
 else
 Vv K k x0 x1 b (IntKind.i64.wrap (a + (1:Int)))
 else
 some (-1:Int)
def Bz (K : Nat) (x0 : List Int) (x1 : Int) : Option Int :=
 Vv K K x0 x1 (x0.length : Int) (0:Int)
def Wq (K : Nat) (x0 : List Int) (x1 : Int) : Option Bool :=
 (Bz K x0 x1).bind fun a =>
 some (decide (a ≥ (0:Int)))
def Xk (K : Nat) : Option Bool :=
 some false
def Xj (K : Nat) : Option Bool :=
 some false
def Xi (K : Nat) : Nat → Qe → Int → Int → Ze → Qa → Option Bool
 | 0 => fun _ _ _ _ _ => none
 | k + 1 => fun x2 b a x0 x1 =>
 bif (decide (a < b)) then
 (Xa x2.Ops a).bind fun c =>
 bif (decide (c < (1:Int))) then
 Xj K
 else
 bif (decide (c > (3:Int))) then
 Xj K
 else
 bif (c != (3:Int)) then
 (Xa x0.Auto.States x2.To).bind fun d =>
 (Xa d.R a).bind fun e =>
 (Wq K x1.R e).bind fun f =>
 bif (!f) then
 Xj K
 else
 Xi K k x2 b (IntKind.i64.wrap (a + (1:Int))) x0 x1
 else
 Xi K k x2 b (IntKind.i64.wrap (a + (1:Int))) x0 x1
 else
 some true
def Lk (K : Nat) (x0 : Ze) (x1 : Qa) (x2 : Qe) : Option Bool :=
 bif (x2.To == (-1:Int)) then
 some ((x2.Ops.length : Int) == (0:Int))
 else
 bif (decide (x2.To < (1:Int))) then
 Xk K
 else
 bif (decide (x2.To ≥ (x0.Auto.States.length : Int))) then
 Xk K
 else
 (Xa x0.Auto.States x2.To).bind fun a =>
 bif ((x2.Ops.length : Int) != (a.R.length : Int)) then
 Xk K
 else
 Xi K K x2 (x2.Ops.length : Int) (0:Int) x0 x1
def Gv (K : Nat) (x0 : Qe) (x1 : Ze) (x2 : Qa) : Option Bool :=
 (Lk K x1 x2 x0).bind fun a =>
 some (!a)
def Yy (K : Nat) : Nat → (List Qe) → Int → Int → Ze → Qa → Option Int
 | 0 => fun _ _ _ _ _ => none
 | k + 1 => fun x0 b a x1c0 x1c1 =>
 bif (decide (a < b)) then
 (Xa x0 a).bind fun c =>
 (Gv K c x1c0 x1c1).bind fun d =>
 bif d then
 some a
 else
 Yy K k x0 b (IntKind.i64.wrap (a + (1:Int))) x1c0 x1c1
 else
 some (-1:Int)
def Ht (K : Nat) (x0 : List Qe) (x1c0 : Ze) (x1c1 : Qa) : Option Int :=
 Yy K K x0 (x0.length : Int) (0:Int) x1c0 x1c1
def V3 (K : Nat) (x0 : List Qe) (x1c0 : Ze) (x1c1 : Qa) : Option Bool :=
 (Ht K x0 x1c0 x1c1).bind fun a =>
 some (decide (a ≥ (0:Int)))
def Z2 (K : Nat) : Option Bool :=
 some false
def Y6 (K : Nat) : Option Bool :=
 some false
def Xx (K : Nat) : Nat → Qa → Int → Int → Ze → Option Bool
 | 0 => fun _ _ _ _ => none
 | k + 1 => fun x1 b a x0 =>
 bif (decide (a < b)) then
 (Xa x1.Next a).bind fun c =>
 (Xa x1.Rule a).bind fun d =>
 bif (decide (d < (-1:Int))) then
 Y6 K
 else
 bif (decide (d ≥ (512:Int))) then
 Y6 K
 else
 bif ((c.length : Int) != x0.Auto.Split.Many) then
 Y6 K
 else
 (V3 K c x0 x1).bind fun e =>
 bif e then
 some false
 else
 Xx K k x1 b (IntKind.i64.wrap (a + (1:Int))) x0
 else
 some true
def Hx (K : Nat) (x0 : Ze) (x1 : Qa) : Option Bool :=
 (Nn K (x1.R.length : Int)).bind fun a =>
 bif (a == (0:Int)) then
 Z2 K
 else
 bif ((x1.Rule.length : Int) != a) then
 Z2 K
 else
 bif ((x1.Next.length : Int) != a) then
 Z2 K
 else
 (Nl K x1.L (512:Int)).bind fun b =>
 bif (!b) then
 Z2 K
 else
 (Nl K x1.R (x0.Auto.Counts.length : Int)).bind fun c =>
 bif (!c) then
 Z2 K
 else
 Xx K K x1 (x1.Next.length : Int) (0:Int) x0
def Pu (K : Nat) (x0 : Qa) (x1 : Ze) : Option Bool :=
 (Hx K x1 x0).bind fun a =>
 some (!a)
def Yr (K : Nat) : Nat → (List Qa) → Int → Int → Ze → Option Int
 | 0 => fun _ _ _ _ => none
 | k + 1 => fun x0 b a x1c0 =>
 bif (decide (a < b)) then
 (Xa x0 a).bind fun c =>
 (Pu K c x1c0).bind fun d =>
 bif d then
 some a
 else
 Yr K k x0 b (IntKind.i64.wrap (a + (1:Int))) x1c0
 else
 some (-1:Int)
def W4 (K : Nat) (x0 : List Qa) (x1c0 : Ze) : Option Int :=
 Yr K K x0 (x0.length : Int) (0:Int) x1c0
def Vp (K : Nat) (x0 : List Qa) (x1c0 : Ze) : Option Bool :=
 (W4 K x0 x1c0).bind fun a =>
 some (decide (a ≥ (0:Int)))
def X6 (K : Nat) : Option Bool :=
 some false
def L9 (K : Nat) : Option Bool :=
 some false
def Hy (K : Nat) : Nat → Ql → Int → Int → Option Bool
 | 0 => fun _ _ _ => none
 | k + 1 => fun x0 c b =>
 bif (decide (b < c)) then
 (Xa x0.Counts b).bind fun a =>
 bif (decide ((Vr.get a (0:Int)) < (1:Int))) then
 L9 K
 else
 bif (decide ((Vr.get a (0:Int)) > (Vr.get a (1:Int)))) then
 L9 K
 else
 bif (decide ((Vr.get a (1:Int)) < (2:Int))) then
 L9 K
 else
 bif (decide ((Vr.get a (1:Int)) > (4096:Int))) then
 L9 K
 else
 Hy K k x0 c (IntKind.i64.wrap (b + (1:Int)))
 else
 (Vp K x0.States (Ze.mk x0)).bind fun d =>
 some (!d)
def Wl (K : Nat) (x0 : Ql) : Option Bool :=
 (Nu K x0.Split).bind fun b =>
 bif (!b) then
 X6 K
 else
 bif (decide ((x0.Counts.length : Int) > (512:Int))) then
 X6 K
 else
 bif (decide ((x0.States.length : Int) < (1:Int))) then
 X6 K
 else
 bif (decide ((x0.States.length : Int) > (256:Int))) then
 X6 K
 else
 (Xa x0.States (0:Int)).bind fun a =>
 bif (decide ((IntKind.i64.wrap ((a.L.length : Int) + (a.R.length : Int))) > (0:Int))) then
 X6 K
 else
 Hy K K x0 (x0.Counts.length : Int) (0:Int)
def Lt (K : Nat) (x0 : List Vr) : Option (List Vr) :=
 (ck (roomy 16 (([] : List Vr).length + x0.length) = true)).bind fun _ =>
 some (([] : List Vr) ++ x0)
def Y3 (K : Nat) (x0 : Yf) : Option (Int × Bool × Yf) :=
 bif ((x0.l.length : Int) == (0:Int)) then
 some ((0:Int), false, x0)
 else
 (Xa x0.l (IntKind.i64.wrap ((x0.l.length : Int) - (1:Int)))).bind fun a =>
 (ck (0 ≤ (IntKind.i64.wrap ((x0.l.length : Int) - (1:Int))) ∧ (Int.toNat (IntKind.i64.wrap ((x0.l.length : Int) - (1:Int)))) ≤ x0.l.length)).bind fun _ =>
 some (a, true, (Yf.mk (x0.l.take (Int.toNat (IntKind.i64.wrap ((x0.l.length : Int) - (1:Int)))))))
def U8 (K : Nat) (x0 : Yf) (x1 : List Int) : Option Yf :=
 (ck (roomy 8 (x0.l.length + x1.length) = true)).bind fun _ =>
 some (Yf.mk (x0.l ++ x1))
def U9 (K : Nat) : Nat → (List Int) → Int → Int → Option Int
 | 0 => fun _ _ _ => none
 | k + 1 => fun x0 a b =>
 bif (decide (b < (x0.length : Int))) then
 (Xa x0 b).bind fun c =>
 U9 K k x0 (if c > a then c else a) (IntKind.i64.wrap (b + (1:Int)))
 else
 some a
def Bj (K : Nat) (x0 : List Int) : Option Int :=
 bif (decide ((x0.length : Int) < (1:Int))) then
 none
 else
 (Xa x0 (0:Int)).bind fun a =>
 U9 K K x0 a (1:Int)
def Kb (K : Nat) (x1 : Int) : Option (List Qe) :=
 bif (decide (x1 < (0:Int))) then
 none
 else
 bif (decide ((IntKind.i64.wrap (x1 - (IntKind.i64.wrap ((0:Int) - (0:Int))))) > (0:Int))) then
 (ck (0 < (IntKind.i64.wrap (x1 - (IntKind.i64.wrap ((0:Int) - (0:Int))))))).bind fun _ =>
 (ck (roomy 32 (Int.toNat (IntKind.i64.wrap (x1 - (IntKind.i64.wrap ((0:Int) - (0:Int)))))) = true)).bind fun _ =>
 (ck (0 ≤ (0:Int) ∧ (Int.toNat (0:Int)) ≤ (List.replicate (Int.toNat (IntKind.i64.wrap (x1 - (IntKind.i64.wrap ((0:Int) - (0:Int)))))) ((Qe.mk (0:Int) []) : Qe)).length)).bind fun _ =>
 some ((List.replicate (Int.toNat (IntKind.i64.wrap (x1 - (IntKind.i64.wrap ((0:Int) - (0:Int)))))) ((Qe.mk (0:Int) []) : Qe)).take (Int.toNat (0:Int)))
 else
 some ([] : List Qe)
def Xq (K : Nat) : Nat → (List (List Qe)) → Int → Int → (List Qe) → Option (List Qe)
 | 0 => fun _ _ _ _ => none
 | k + 1 => fun x0 c a b =>
 bif (decide (a < c)) then
 (Xa x0 a).bind fun d =>
 (ck (roomy 32 (b.length + d.length) = true)).bind fun _ =>
 Xq K k x0 c (IntKind.i64.wrap (a + (1:Int))) (b ++ d)
 else
 some b
def Y5 (K : Nat) : Nat → (List (List Qe)) → Int → Int → Int → Option (List Qe)
 | 0 => fun _ _ _ _ => none
 | k + 1 => fun x0 a c b =>
 bif (decide (b < c)) then
 (Xa x0 b).bind fun d =>
 bif (decide ((IntKind.i64.wrap (a + (d.length : Int))) < (0:Int))) then
 none
 else
 Y5 K k x0 (IntKind.i64.wrap (a + (d.length : Int))) c (IntKind.i64.wrap (b + (1:Int)))
 else
 (Kb K a).bind fun e =>
 Xq K K x0 (x0.length : Int) (0:Int) e
def Ky (K : Nat) (x0 : List (List Qe)) : Option (List Qe) :=
 Y5 K K x0 (0:Int) (x0.length : Int) (0:Int)
def El (K : Nat) (x0 : Qa) : Option (List Qe) :=
 (Ky K x0.Next).bind fun a =>
 some a
def Ln (K : Nat) (d : Ql → Int → Int → (List Bool) → (List (List Int)) → (List Int) → Option (List Bool)) : Nat → Int → Ql → Int → Int → (List Qe) → Int → Int → (List Bool) → (List (List Int)) → (List Int) → Option (List Bool)
 | 0 => fun _ _ _ _ _ _ _ _ _ _ => none
 | k + 1 => fun a x0 e f g i b j c l =>
 bif (decide (b < i)) then
 (Xa g b).bind fun m =>
 bif (decide (m.To ≥ (0:Int))) then
 (Xa c m.To).bind fun n =>
 (ck (roomy 8 (n.length + [a].length) = true)).bind fun _ =>
 Ln K d k a x0 e f g i (IntKind.i64.wrap (b + (1:Int))) j (List.set c (Int.toNat m.To) (n ++ [a])) l
 else
 Ln K d k a x0 e f g i (IntKind.i64.wrap (b + (1:Int))) j c l
 else
 d x0 e (IntKind.i64.wrap (f + (1:Int))) j c l
def Cr (K : Nat) (b : Ql → Int → Int → (List Bool) → (List (List Int)) → (List Int) → Option (List Bool)) (c : Int) (x0 : Ql) (d : Int) (e : Int) (f : List Bool) (g : List (List Int)) (i : List Int) (j : List Int) (l : List Int) (m : List Int) (n : List (List Qe)) : Option (List Bool) :=
 (El K (Qa.mk j l m n)).bind fun a =>
 Ln K b K c x0 d e a (a.length : Int) (0:Int) f g i
def Pq (K : Nat) (b : Int → Bool → (List Bool) → (List (List Int)) → (List Int) → Option (List Bool)) (c : List Bool) (d : List (List Int)) (e : List Int) : Option (List Bool) :=
 (Y3 K (Yf.mk e)).bind fun a =>
 b a.1 a.2.1 c d a.2.2.l
def Up (K : Nat) : Nat → Int → Bool → (List Bool) → (List (List Int)) → (List Int) → Option (List Bool)
 | 0 => fun _ _ _ _ _ => none
 | k + 1 => fun b e a c d =>
 bif e then
 (Xa a b).bind fun f =>
 bif (!f) then
 (Xa c b).bind fun g =>
 (U8 K (Yf.mk d) g).bind fun i =>
 Pq K (Up K k) (List.set a (Int.toNat b) true) c i.l
 else
 Pq K (Up K k) a c d
 else
 some a
def Uq (K : Nat) : Nat → Ql → Int → Int → (List Bool) → (List (List Int)) → (List Int) → Option (List Bool)
 | 0 => fun _ _ _ _ _ _ => none
 | k + 1 => fun x0 c b d e f =>
 bif (decide (b < c)) then
 (Xa x0.States b).bind fun a =>
 (Bj K a.Rule).bind fun i =>
 bif (decide (i ≥ (0:Int))) then
 (U8 K (Yf.mk f) [b]).bind fun j =>
 Cr K (Uq K k) b x0 c b d e j.l a.L a.R a.Rule a.Next
 else
 Cr K (Uq K k) b x0 c b d e f a.L a.R a.Rule a.Next
 else
 (Y3 K (Yf.mk f)).bind fun g =>
 Up K K g.1 g.2.1 d e g.2.2.l
def Db (K : Nat) (x0 : Ql) : Option (List Bool) :=
 (Wl K x0).bind fun a =>
 bif (!a) then
 some []
 else
 (ck (0 ≤ (x0.States.length : Int))).bind fun _ =>
 (ck (roomy 1 (Int.toNat (x0.States.length : Int)) = true)).bind fun _ =>
 (ck (roomy 24 (Int.toNat (x0.States.length : Int)) = true)).bind fun _ =>
 Uq K K x0 (x0.States.length : Int) (0:Int) (List.replicate (Int.toNat (x0.States.length : Int)) (false : Bool)) (List.replicate (Int.toNat (x0.States.length : Int)) ([] : List Int)) []
def Xz (K : Nat) (x0 : List Int) : Option (List Int) :=
 (ck (roomy 8 (([] : List Int).length + x0.length) = true)).bind fun _ =>
 some (([] : List Int) ++ x0)
def Jq (K : Nat) (x0 : List Int) : Option (List Int) :=
 (ck (roomy 1 (([] : List Int).length + x0.length) = true)).bind fun _ =>
 some (([] : List Int) ++ x0)
def Uj (K : Nat) (f : Int → Int → Qc → Int → Int → (List (List Qe)) → Int → Int → (List Qe) → Int → Int → (List Int) → (List Qa) → (List Int) → (List Int) → (List Int) → (List (List Qe)) → (List (List Qe)) → Option Qc) (g : Int) (a : Int) (x0 : Qc) (i : Int) (j : Int) (l : List (List Qe)) (m : Int) (n : Int) (o : List Qe) (p : Int) (q : Int) (x1 : List Int) (r : List Qa) (s : List Int) (t : List Int) (u : List Int) (v : List (List Qe)) (b : List (List Qe)) (c : Int) (d : List Int) : Option Qc :=
 (Xa b a).bind fun e =>
 (ck (roomy 32 (e.length + [(Qe.mk c d)].length) = true)).bind fun _ =>
 f g a x0 i j l m n o p (IntKind.i64.wrap (q + (1:Int))) x1 r s t u v (List.set b (Int.toNat a) (e ++ [(Qe.mk c d)]))
def Ui (K : Nat) (a : Int → Int → Qc → Int → Int → (List (List Qe)) → Int → Int → (List Qe) → Int → Int → (List Int) → (List Qa) → (List Int) → (List Int) → (List Int) → (List (List Qe)) → (List (List Qe)) → Option Qc) (b : Int) (c : Int) (x0 : Qc) (d : Int) (e : Int) (f : List (List Qe)) (g : Int) (i : Int) (j : List Qe) (l : Int) (m : Int) (x1 : List Int) (n : List Qa) (o : List Int) (p : List Int) (q : List Int) (r : List (List Qe)) (s : List (List Qe)) : Option Qc :=
 Uj K a b c x0 d e f g i j l m x1 n o p q r s (-1:Int) []
def Z0 (K : Nat) (b : Int → Qc → Int → Int → (List (List Qe)) → Int → Int → (List Int) → (List Qa) → (List Int) → (List Int) → (List Int) → (List (List Qe)) → (List (List Qe)) → Option Qc) : Nat → Int → Int → Qc → Int → Int → (List (List Qe)) → Int → Int → (List Qe) → Int → Int → (List Int) → (List Qa) → (List Int) → (List Int) → (List Int) → (List (List Qe)) → (List (List Qe)) → Option Qc
 | 0 => fun _ _ _ _ _ _ _ _ _ _ _ _ _ _ _ _ _ _ => none
 | k + 1 => fun c s x0 d e f g i j l a x1 m n o p q r =>
 bif (decide (a < l)) then
 (Xa j a).bind fun t =>
 bif (decide (t.To ≥ (0:Int))) then
 (Xa x1 t.To).bind fun u =>
 bif (decide (u ≥ (0:Int))) then
 (Jq K t.Ops).bind fun v =>
 Uj K (Z0 K b k) c s x0 d e f g i j l a x1 m n o p q r u v
 else
 Ui K (Z0 K b k) c s x0 d e f g i j l a x1 m n o p q r
 else
 Ui K (Z0 K b k) c s x0 d e f g i j l a x1 m n o p q r
 else
 b c x0 d e f g (IntKind.i64.wrap (i + (1:Int))) x1 m n o p q r
def Yv (K : Nat) (d : Qc → Int → Int → (List Int) → (List Qa) → Option Qc) : Nat → Int → Qc → Int → Int → (List (List Qe)) → Int → Int → (List Int) → (List Qa) → (List Int) → (List Int) → (List Int) → (List (List Qe)) → (List (List Qe)) → Option Qc
 | 0 => fun _ _ _ _ _ _ _ _ _ _ _ _ _ _ => none
 | k + 1 => fun b x0 e f g i a x1 c j l m p n =>
 bif (decide (a < i)) then
 (Xa g a).bind fun o =>
 Z0 K (Yv K d k) K b a x0 e f g i a o (o.length : Int) (0:Int) x1 c j l m p n
 else
 (Xz K j).bind fun q =>
 (Xz K l).bind fun r =>
 (Xz K m).bind fun s =>
 (Xa c b).bind fun t =>
 d x0 e (IntKind.i64.wrap (f + (1:Int))) x1 (List.set c (Int.toNat b) (Qa.mk q r s n))
def Yw (K : Nat) : Nat → Qc → Int → Int → (List Int) → (List Qa) → Option Qc
 | 0 => fun _ _ _ _ _ => none
 | k + 1 => fun x0 c b x1 d =>
 bif (decide (b < c)) then
 (Xa x0.Auto.States b).bind fun a =>
 (ck (0 ≤ (a.Next.length : Int))).bind fun _ =>
 (ck (roomy 24 (Int.toNat (a.Next.length : Int)) = true)).bind fun _ =>
 Yv K (Yw K k) K b x0 c b a.Next (a.Next.length : Int) (0:Int) x1 d a.L a.R a.Rule a.Next (List.replicate (Int.toNat (a.Next.length : Int)) ([] : List Qe))
 else
 some (Qc.mk (Ql.mk x0.Auto.Split x0.Auto.Counts d))
def V2 (K : Nat) (x0 : Qc) (x1 : List Int) : Option Qc :=
 (ck (0 ≤ (x0.Auto.States.length : Int))).bind fun _ =>
 (ck (roomy 96 (Int.toNat (x0.Auto.States.length : Int)) = true)).bind fun _ =>
 Yw K K x0 (x0.Auto.States.length : Int) (0:Int) x1 (List.replicate (Int.toNat (x0.Auto.States.length : Int)) ((Qa.mk [] [] [] []) : Qa))
def Xc (K : Nat) : Nat → (List Bool) → Int → Int → Qc → (List Int) → Option Qc
 | 0 => fun _ _ _ _ _ => none
 | k + 1 => fun c d a x0 b =>
 bif (decide (a < d)) then
 (Xa c a).bind fun e =>
 (Xa b a).bind fun g =>
 bif (!e) then
 (Xa (List.set b (Int.toNat a) a) a).bind fun i =>
 Xc K k c d (IntKind.i64.wrap (a + (1:Int))) x0 (List.set (List.set b (Int.toNat a) a) (Int.toNat a) (-1:Int))
 else
 Xc K k c d (IntKind.i64.wrap (a + (1:Int))) x0 (List.set b (Int.toNat a) a)
 else
 (V2 K x0 b).bind fun f =>
 some f
def Gz (K : Nat) (x0 : Qc) : Option Qc :=
 (ck (0 ≤ (x0.Auto.States.length : Int))).bind fun _ =>
 (ck (roomy 8 (Int.toNat (x0.Auto.States.length : Int)) = true)).bind fun _ =>
 (Db K x0.Auto).bind fun a =>
 Xc K K a (a.length : Int) (0:Int) x0 (List.replicate (Int.toNat (x0.Auto.States.length : Int)) ((0:Int) : Int))
def Qgk (K : Nat) (x0 : Int) (x1 : Int) : Option (Int × Int) :=
 some ((IntKind.u64.wrap ((IntKind.u64.wrap ((IntKind.u64.wrap ((Int.fdiv x0 (2 ^ min (Int.toNat (32:Int)) IntKind.u64.bits)) * (Int.fdiv x1 (2 ^ min (Int.toNat (32:Int)) IntKind.u64.bits)))) + (Int.fdiv (IntKind.u64.wrap ((IntKind.u64.wrap ((Int.fdiv x0 (2 ^ min (Int.toNat (32:Int)) IntKind.u64.bits)) * (bits .and .u64 x1 (4294967295:Int)))) + (Int.fdiv (IntKind.u64.wrap ((bits .and .u64 x0 (4294967295:Int)) * (bits .and .u64 x1 (4294967295:Int)))) (2 ^ min (Int.toNat (32:Int)) IntKind.u64.bits)))) (2 ^ min (Int.toNat (32:Int)) IntKind.u64.bits)))) + (Int.fdiv (IntKind.u64.wrap ((bits .and .u64 (IntKind.u64.wrap ((IntKind.u64.wrap ((Int.fdiv x0 (2 ^ min (Int.toNat (32:Int)) IntKind.u64.bits)) * (bits .and .u64 x1 (4294967295:Int)))) + (Int.fdiv (IntKind.u64.wrap ((bits .and .u64 x0 (4294967295:Int)) * (bits .and .u64 x1 (4294967295:Int)))) (2 ^ min (Int.toNat (32:Int)) IntKind.u64.bits)))) (4294967295:Int)) + (IntKind.u64.wrap ((bits .and .u64 x0 (4294967295:Int)) * (Int.fdiv x1 (2 ^ min (Int.toNat (32:Int)) IntKind.u64.bits)))))) (2 ^ min (Int.toNat (32:Int)) IntKind.u64.bits)))), (IntKind.u64.wrap (x0 * x1)))
def Qfs (K : Nat) (x0 : Int) (x1 : Int) : Option (Int × Int) :=
 (Qgk K x0 x1).bind fun a =>
 some (a.1, a.2)
def Gk (K : Nat) (x0 : List Int) (a : Int) : Option (List Int) :=
 none
def Ul (K : Nat) : Nat → Int → (List Int) → Option (List Int)
 | 0 => fun _ _ => none
 | k + 1 => fun a b =>
 bif (decide (a < (b.length : Int))) then
 (ck (0 ≤ a ∧ (Int.toNat a) ≤ b.length)).bind fun _ =>
 (ck (0 < (Int.toNat a) ∧ (Int.toNat a) < b.length)).bind fun _ =>
 Ul K k (IntKind.i64.wrap (a + (((min (Int.toNat a) (b.length - (Int.toNat a))) : Nat) : Int))) (b.take (Int.toNat a) ++ b.take (min (Int.toNat a) (b.length - (Int.toNat a))) ++ b.drop ((Int.toNat a) + (min (Int.toNat a) (b.length - (Int.toNat a)))))
 else
 some b
def G0 (K : Nat) (x0 : List Int) (x1 : Int) : Option (List Int) :=
 bif (decide (x1 < (0:Int))) then
 none
 else
 (Qfs K (IntKind.u64.wrap (x0.length : Int)) (IntKind.u64.wrap x1)).bind fun a =>
 bif (decide (a.1 > (0:Int))) then
 Gk K x0 a.2
 else
 bif (decide (a.2 > (9223372036854775807:Int))) then
 Gk K x0 a.2
 else
 (ck (0 ≤ (IntKind.i64.wrap a.2))).bind fun _ =>
 (ck (roomy 8 (Int.toNat (IntKind.i64.wrap a.2)) = true)).bind fun _ =>
 (ck (0 < x0.length ∧ x0.length ≤ (List.replicate (Int.toNat (IntKind.i64.wrap a.2)) ((0:Int) : Int)).length)).bind fun _ =>
 Ul K K (x0.length : Int) (x0 ++ (List.replicate (Int.toNat (IntKind.i64.wrap a.2)) ((0:Int) : Int)).drop x0.length)
def Yx (K : Nat) (e : Int → Qc → (List Int) → (List Int) → Option Qc) : Nat → Int → (List Qe) → Int → Int → Qc → (List Int) → (List Int) → Option Qc
 | 0 => fun _ _ _ _ _ _ _ => none
 | k + 1 => fun f g i b x0 c a =>
 bif (decide (b < i)) then
 (Xa g b).bind fun d =>
 bif (decide (d.To ≥ (0:Int))) then
 (Xa c d.To).bind fun j =>
 bif (decide (j < (0:Int))) then
 (ck (roomy 8 (a.length + [d.To].length) = true)).bind fun _ =>
 Yx K e k f g i (IntKind.i64.wrap (b + (1:Int))) x0 (List.set c (Int.toNat d.To) (a.length : Int)) (a ++ [d.To])
 else
 Yx K e k f g i (IntKind.i64.wrap (b + (1:Int))) x0 c a
 else
 Yx K e k f g i (IntKind.i64.wrap (b + (1:Int))) x0 c a
 else
 e (IntKind.i64.wrap (f + (1:Int))) x0 c a
def Vd (K : Nat) : Nat → Int → Int → Zi → Int → (List Vr) → (List Qa) → (List Qa) → (List Int) → Option Qc
 | 0 => fun _ _ _ _ _ _ _ _ => none
 | k + 1 => fun c a d e f g b i =>
 bif (decide (a < c)) then
 (Xa i a).bind fun l =>
 (Xa g l).bind fun j =>
 (ck (roomy 96 (b.length + [j].length) = true)).bind fun _ =>
 Vd K k c (IntKind.i64.wrap (a + (1:Int))) d e f g (b ++ [j]) i
 else
 some (Qc.mk (Ql.mk (Q9.mk d e) f b))
def Xb (K : Nat) : Nat → Int → Qc → (List Int) → (List Int) → Option Qc
 | 0 => fun _ _ _ _ => none
 | k + 1 => fun c x0 d a =>
 bif (decide (c < (a.length : Int))) then
 (Xa a c).bind fun f =>
 (Xa x0.Auto.States f).bind fun g =>
 (El K g).bind fun e =>
 Yx K (Xb K k) K c e (e.length : Int) (0:Int) x0 d a
 else
 (V2 K x0 d).bind fun b =>
 Vd K K (a.length : Int) (0:Int) b.Auto.Split.Of b.Auto.Split.Many b.Auto.Counts b.Auto.States [] a
def Gx (K : Nat) (x0 : Qc) : Option Qc :=
 (G0 K [(-1:Int)] (x0.Auto.States.length : Int)).bind fun a =>
 (Xa a (0:Int)).bind fun b =>
 Xb K K (0:Int) x0 (List.set a (Int.toNat (0:Int)) (0:Int)) [(0:Int)]
def strconv_Itoa (K : Nat) (x0 : Int) : Option ByteArray :=
 if -9223372036854775808 ≤ x0 ∧ x0 ≤ 9223372036854775807 then some (itoaS x0) else none
def H2 (K : Nat) (x0c1 : List Int) : Option Unit :=
 some ()
def Wo (K : Nat) (x0c1 : List Int) (x1 : ByteArray) : Option (Int × Unit × (List Int)) :=
 (H2 K x0c1).bind fun a =>
 (ck (roomy 1 (x0c1.length + x1.size) = true)).bind fun _ =>
 some ((x1.size : Int), (), (x0c1 ++ Cx x1))
def Ss (K : Nat) (x0 : Int) (x1c1 : List Int) : Option (List Int) :=
 (strconv_Itoa K x0).bind fun a =>
 (ck (a.size + (⟨#[32]⟩ : ByteArray).size ≤ 9223372036854775807)).bind fun _ =>
 (Wo K x1c1 (a ++ (⟨#[32]⟩ : ByteArray))).bind fun b =>
 some b.2.2
def Yu (K : Nat) (x0c1 : List Int) : Option Unit :=
 some ()
def Vk (K : Nat) (x0c1 : List Int) (x1 : ByteArray) : Option (Int × Unit × (List Int)) :=
 (Yu K x0c1).bind fun a =>
 (ck (roomy 1 (x0c1.length + x1.size) = true)).bind fun _ =>
 some ((x1.size : Int), (), (x0c1 ++ Cx x1))
def Jd (K : Nat) (x0 : Int) (x1c1 : List Int) : Option (List Int) :=
 (strconv_Itoa K x0).bind fun a =>
 (ck (a.size + (⟨#[32]⟩ : ByteArray).size ≤ 9223372036854775807)).bind fun _ =>
 (Vk K x1c1 (a ++ (⟨#[32]⟩ : ByteArray))).bind fun b =>
 some b.2.2
def Hs (K : Nat) (x0c1 : List Int) (x1 : List Int) : Option (Int × Unit × (List Int)) :=
 (Yu K x0c1).bind fun a =>
 (ck (roomy 1 (x0c1.length + x1.length) = true)).bind fun _ =>
 some ((x1.length : Int), (), (x0c1 ++ x1))
def Lm (K : Nat) : Nat → (List Qe) → Int → Int → (List Int) → (List Int) → Option ByteArray
 | 0 => fun _ _ _ _ _ => none
 | k + 1 => fun d e b x1 a =>
 bif (decide (b < e)) then
 (Xa d b).bind fun c =>
 bif (decide (c.To < (0:Int))) then
 (Jd K (-1:Int) a).bind fun f =>
 Lm K k d e (IntKind.i64.wrap (b + (1:Int))) x1 f
 else
 (Xa x1 c.To).bind fun g =>
 (Jd K g a).bind fun i =>
 (Hs K i c.Ops).bind fun j =>
 (Jd K (c.Ops.length : Int) j.2.2).bind fun l =>
 Lm K k d e (IntKind.i64.wrap (b + (1:Int))) x1 l
 else
 (ck (0 < a.length)).bind fun _ =>
 (ck (Lj a = true)).bind fun _ =>
 some (ofBytes a)
def K6 (K : Nat) : Nat → Qa → Int → Int → (List Int) → (List Int) → Option ByteArray
 | 0 => fun _ _ _ _ _ => none
 | k + 1 => fun x0 b a x1 c =>
 bif (decide (a < b)) then
 (Xa x0.Rule a).bind fun e =>
 (Jd K e c).bind fun f =>
 K6 K k x0 b (IntKind.i64.wrap (a + (1:Int))) x1 f
 else
 (El K x0).bind fun d =>
 Lm K K d (d.length : Int) (0:Int) x1 c
def K7 (K : Nat) : Nat → Qa → Int → Int → (List Int) → (List Int) → Option ByteArray
 | 0 => fun _ _ _ _ _ => none
 | k + 1 => fun x0 b a x1 c =>
 bif (decide (a < b)) then
 (Xa x0.R a).bind fun d =>
 (Jd K d c).bind fun e =>
 K7 K k x0 b (IntKind.i64.wrap (a + (1:Int))) x1 e
 else
 K6 K K x0 (x0.Rule.length : Int) (0:Int) x1 c
def Qbp (K : Nat) (x0 : Qa) (x1 : List Int) : Option ByteArray :=
 (Ss K (x0.R.length : Int) []).bind fun a =>
 K7 K K x0 (x0.R.length : Int) (0:Int) x1 a
def Kl (K : Nat) (d : Int → Ql → Int → Int → (List Int) → (List (ByteArray × Int)) → (List Int) → Option (List Int)) (e : Int) (a : Int) (f : ByteArray) (x0 : Ql) (g : Int) (i : Int) (j : List Int) (b : List (ByteArray × Int)) (c : List Int) : Option (List Int) :=
 (Xa c a).bind fun l =>
 d e x0 g (IntKind.i64.wrap (i + (1:Int))) j b (List.set c (Int.toNat a) ((b.lookup f).getD 0))
def Km (K : Nat) (c : Int → Ql → Int → Int → (List Int) → (List (ByteArray × Int)) → (List Int) → Option (List Int)) (d : Int) (e : Int) (a : ByteArray) (x0 : Ql) (f : Int) (g : Int) (i : List Int) (b : List (ByteArray × Int)) (j : List Int) : Option (List Int) :=
 bif (!(b.lookup a).isSome) then
 (ck (b.lookup a = none)).bind fun _ =>
 Kl K c d e a x0 f g i (b ++ [(a, (b.length : Int))]) j
 else
 Kl K c d e a x0 f g i b j
def Vo (K : Nat) (e : Int → Ql → (List Int) → Option (List Int)) : Nat → Int → Ql → Int → Int → (List Int) → (List (ByteArray × Int)) → (List Int) → Option (List Int)
 | 0 => fun _ _ _ _ _ _ _ => none
 | k + 1 => fun f x0 g a b c d =>
 bif (decide (a < g)) then
 (Xa x0.States a).bind fun l =>
 bif (decide (a > (0:Int))) then
 (Xa b a).bind fun m =>
 (strconv_Itoa K m).bind fun i =>
 (ck (i.size + (⟨#[58]⟩ : ByteArray).size ≤ 9223372036854775807)).bind fun _ =>
 (Qbp K l b).bind fun j =>
 (ck ((i ++ (⟨#[58]⟩ : ByteArray)).size + j.size ≤ 9223372036854775807)).bind fun _ =>
 Km K (Vo K e k) f a ((i ++ (⟨#[58]⟩ : ByteArray)) ++ j) x0 g a b c d
 else
 Km K (Vo K e k) f a (⟨#[102, 105, 114, 115, 116]⟩ : ByteArray) x0 g a b c d
 else
 bif ((c.length : Int) == f) then
 some d
 else
 e (c.length : Int) x0 d
def Wf (K : Nat) : Nat → Int → Ql → (List Int) → Option (List Int)
 | 0 => fun _ _ _ => none
 | k + 1 => fun b x0 a =>
 (ck (0 ≤ (a.length : Int))).bind fun _ =>
 (ck (roomy 8 (Int.toNat (a.length : Int)) = true)).bind fun _ =>
 Vo K (Wf K k) K b x0 (x0.States.length : Int) (0:Int) a [] (List.replicate (Int.toNat (a.length : Int)) ((0:Int) : Int))
def Lr (K : Nat) (x0 : Ql) : Option (List Int) :=
 (Wl K x0).bind fun a =>
 bif (!a) then
 some []
 else
 (ck (0 ≤ (x0.States.length : Int))).bind fun _ =>
 (ck (roomy 8 (Int.toNat (x0.States.length : Int)) = true)).bind fun _ =>
 Wf K K (0:Int) x0 (List.replicate (Int.toNat (x0.States.length : Int)) ((0:Int) : Int))
def X1 (K : Nat) (f : (List Int) → Int → Int → Qc → Int → Int → (List (List Qe)) → Int → Int → (List Qe) → Int → Int → (List Qa) → (List Int) → (List Int) → (List Int) → (List (List Qe)) → (List (List Qe)) → Option Qc) (x1 : List Int) (g : Int) (a : Int) (x0 : Qc) (i : Int) (j : Int) (l : List (List Qe)) (m : Int) (n : Int) (o : List Qe) (p : Int) (q : Int) (r : List Qa) (s : List Int) (t : List Int) (u : List Int) (v : List (List Qe)) (b : List (List Qe)) (c : Int) (d : List Int) : Option Qc :=
 (Xa b a).bind fun e =>
 (ck (roomy 32 (e.length + [(Qe.mk c d)].length) = true)).bind fun _ =>
 f x1 g a x0 i j l m n o p (IntKind.i64.wrap (q + (1:Int))) r s t u v (List.set b (Int.toNat a) (e ++ [(Qe.mk c d)]))
def X0 (K : Nat) (a : (List Int) → Int → Int → Qc → Int → Int → (List (List Qe)) → Int → Int → (List Qe) → Int → Int → (List Qa) → (List Int) → (List Int) → (List Int) → (List (List Qe)) → (List (List Qe)) → Option Qc) (x1 : List Int) (b : Int) (c : Int) (x0 : Qc) (d : Int) (e : Int) (f : List (List Qe)) (g : Int) (i : Int) (j : List Qe) (l : Int) (m : Int) (n : List Qa) (o : List Int) (p : List Int) (q : List Int) (r : List (List Qe)) (s : List (List Qe)) : Option Qc :=
 X1 K a x1 b c x0 d e f g i j l m n o p q r s (-1:Int) []
def Zo (K : Nat) (b : (List Int) → Int → Qc → Int → Int → (List (List Qe)) → Int → Int → (List Qa) → (List Int) → (List Int) → (List Int) → (List (List Qe)) → (List (List Qe)) → Option Qc) : Nat → (List Int) → Int → Int → Qc → Int → Int → (List (List Qe)) → Int → Int → (List Qe) → Int → Int → (List Qa) → (List Int) → (List Int) → (List Int) → (List (List Qe)) → (List (List Qe)) → Option Qc
 | 0 => fun _ _ _ _ _ _ _ _ _ _ _ _ _ _ _ _ _ _ => none
 | k + 1 => fun x1 c s x0 d e f g i j l a m n o p q r =>
 bif (decide (a < l)) then
 (Xa j a).bind fun t =>
 bif (decide (t.To ≥ (0:Int))) then
 (Xa x1 t.To).bind fun u =>
 bif (decide (u ≥ (0:Int))) then
 (Jq K t.Ops).bind fun v =>
 X1 K (Zo K b k) x1 c s x0 d e f g i j l a m n o p q r u v
 else
 X0 K (Zo K b k) x1 c s x0 d e f g i j l a m n o p q r
 else
 X0 K (Zo K b k) x1 c s x0 d e f g i j l a m n o p q r
 else
 b x1 c x0 d e f g (IntKind.i64.wrap (i + (1:Int))) m n o p q r
def Yh (K : Nat) (d : (List Int) → Qc → Int → Int → (List Qa) → Option Qc) : Nat → (List Int) → Int → Qc → Int → Int → (List (List Qe)) → Int → Int → (List Qa) → (List Int) → (List Int) → (List Int) → (List (List Qe)) → (List (List Qe)) → Option Qc
 | 0 => fun _ _ _ _ _ _ _ _ _ _ _ _ _ _ => none
 | k + 1 => fun x1 b x0 e f g i a c j l m p n =>
 bif (decide (a < i)) then
 (Xa g a).bind fun o =>
 Zo K (Yh K d k) K x1 b a x0 e f g i a o (o.length : Int) (0:Int) c j l m p n
 else
 (Xz K j).bind fun q =>
 (Xz K l).bind fun r =>
 (Xz K m).bind fun s =>
 (Xa c b).bind fun t =>
 d x1 x0 e (IntKind.i64.wrap (f + (1:Int))) (List.set c (Int.toNat b) (Qa.mk q r s n))
def Yi (K : Nat) : Nat → (List Int) → Qc → Int → Int → (List Qa) → Option Qc
 | 0 => fun _ _ _ _ _ => none
 | k + 1 => fun x1 x0 c b d =>
 bif (decide (b < c)) then
 (Xa x0.Auto.States b).bind fun a =>
 (ck (0 ≤ (a.Next.length : Int))).bind fun _ =>
 (ck (roomy 24 (Int.toNat (a.Next.length : Int)) = true)).bind fun _ =>
 Yh K (Yi K k) K x1 b x0 c b a.Next (a.Next.length : Int) (0:Int) d a.L a.R a.Rule a.Next (List.replicate (Int.toNat (a.Next.length : Int)) ([] : List Qe))
 else
 some (Qc.mk (Ql.mk x0.Auto.Split x0.Auto.Counts d))
def Vc (K : Nat) (x0 : Qc) (x1 : List Int) : Option Qc :=
 (ck (0 ≤ (x0.Auto.States.length : Int))).bind fun _ =>
 (ck (roomy 96 (Int.toNat (x0.Auto.States.length : Int)) = true)).bind fun _ =>
 Yi K K x1 x0 (x0.Auto.States.length : Int) (0:Int) (List.replicate (Int.toNat (x0.Auto.States.length : Int)) ((Qa.mk [] [] [] []) : Qa))
def Uk (K : Nat) (d : (List Int) → Int → Int → Qc → (List (Int × Int)) → (List Int) → Option Qc) (b : Int) (e : List Int) (f : Int) (g : Int) (x0 : Qc) (a : List (Int × Int)) (c : List Int) : Option Qc :=
 (ck (roomy 8 (c.length + [((a.lookup b).getD 0)].length) = true)).bind fun _ =>
 d e f (IntKind.i64.wrap (g + (1:Int))) x0 a (c ++ [((a.lookup b).getD 0)])
def Yo (K : Nat) : Nat → (List Int) → Int → Int → Qc → (List (Int × Int)) → (List Int) → Option Qc
 | 0 => fun _ _ _ _ _ _ => none
 | k + 1 => fun d e a x0 c f =>
 bif (decide (a < e)) then
 (Xa d a).bind fun b =>
 bif (!(c.lookup b).isSome) then
 (ck (c.lookup b = none)).bind fun _ =>
 Uk K (Yo K k) b d e a x0 (c ++ [(b, a)]) f
 else
 Uk K (Yo K k) b d e a x0 c f
 else
 (Vc K x0 f).bind fun g =>
 some g
def Gy (K : Nat) (x0 : Qc) : Option Qc :=
 (Lr K x0.Auto).bind fun a =>
 Yo K K a (a.length : Int) (0:Int) x0 [] []
def Nk (K : Nat) (f : Zi) (a : Zi) (b : Int) (c : List Vr) (d : List Qa) : Option (Ql × Int) :=
 (Gx K (Qc.mk (Ql.mk (Q9.mk a b) c d))).bind fun e =>
 some (e.Auto, (0:Int))
def Su (K : Nat) (x0 : Ql) : Option (Ql × Int) :=
 (Wl K x0).bind fun c =>
 bif (!c) then
 some ((Ql.mk (Q9.mk (Zi.mk fun _ => 0) (0:Int)) [] []), (1:Int))
 else
 (Lt K x0.Counts).bind fun d =>
 (Gz K (Qc.mk (Ql.mk x0.Split d x0.States))).bind fun a =>
 bif ((a.Auto.Counts.length : Int) == (0:Int)) then
 (Gy K a).bind fun b =>
 Nk K (Zi.mk fun _ => 0) b.Auto.Split.Of b.Auto.Split.Many b.Auto.Counts b.Auto.States
 else
 Nk K (Zi.mk fun _ => 0) a.Auto.Split.Of a.Auto.Split.Many a.Auto.Counts a.Auto.States
def Xg (K : Nat) : Nat → Int → Int → Q9 → Option Bool
 | 0 => fun _ _ _ => none
 | k + 1 => fun b a x0 =>
 bif (decide (a < (256:Int))) then
 (ck (0 ≤ a ∧ a < 256)).bind fun _ =>
 bif (decide ((IntKind.i64.wrap (Zi.get x0.Of a)) > b)) then
 some false
 else
 bif ((IntKind.i64.wrap (Zi.get x0.Of a)) == b) then
 Xg K k (IntKind.i64.wrap (b + (1:Int))) (IntKind.i64.wrap (a + (1:Int))) x0
 else
 Xg K k b (IntKind.i64.wrap (a + (1:Int))) x0
 else
 some (b == x0.Many)
def Lf (K : Nat) (x0 : Q9) : Option Bool :=
 Xg K K (0:Int) (0:Int) x0
def J6 (K : Nat) : Option Int :=
 some (0:Int)
def J5 (K : Nat) : Nat → Int → Int → Int → Option Int
 | 0 => fun _ _ _ => none
 | k + 1 => fun x0 a b =>
 bif (decide (b < x0)) then
 J5 K k x0 (IntKind.i64.wrap (a * (3:Int))) (IntKind.i64.wrap (b + (1:Int)))
 else
 some a
def Jb (K : Nat) (x0 : Int) : Option Int :=
 bif (decide (x0 < (0:Int))) then
 J6 K
 else
 bif (decide (x0 > (3:Int))) then
 J6 K
 else
 J5 K K x0 (1:Int) (0:Int)
def Um (K : Nat) : Option Bool :=
 some false
def Xe (K : Nat) : Nat → (List Int) → Int → Int → Option Bool
 | 0 => fun _ _ _ => none
 | k + 1 => fun x0 x1 a =>
 bif (decide (a < (x0.length : Int))) then
 (Xa x0 a).bind fun b =>
 bif (decide (b < (0:Int))) then
 Um K
 else
 bif (decide (b ≥ x1)) then
 Um K
 else
 bif (decide (a > (0:Int))) then
 (Xa x0 (IntKind.i64.wrap (a - (1:Int)))).bind fun c =>
 bif (decide (c ≥ b)) then
 Um K
 else
 Xe K k x0 x1 (IntKind.i64.wrap (a + (1:Int)))
 else
 Xe K k x0 x1 (IntKind.i64.wrap (a + (1:Int)))
 else
 some true
def Wj (K : Nat) (x0 : List Int) (x1 : Int) : Option Bool :=
 Xe K K x0 x1 (0:Int)
def Ja (K : Nat) : Nat → (List Int) → Int → Int → Option Bool
 | 0 => fun _ _ _ => none
 | k + 1 => fun x0 x1 a =>
 bif (decide (a < (x0.length : Int))) then
 (Xa x0 a).bind fun b =>
 bif (b == x1) then
 some true
 else
 Ja K k x0 x1 (IntKind.i64.wrap (a + (1:Int)))
 else
 some false
def Wh (K : Nat) (x0 : List Int) (x1 : Int) : Option Bool :=
 Ja K K x0 x1 (0:Int)
def Xt (K : Nat) : Option Bool :=
 some false
def Xs (K : Nat) : Option Bool :=
 some false
def Xr (K : Nat) : Nat → Int → Ql → Qa → Qe → Option Bool
 | 0 => fun _ _ _ _ => none
 | k + 1 => fun a x0 x1 x2 =>
 bif (decide (a < (x2.Ops.length : Int))) then
 (Xa x2.Ops a).bind fun b =>
 bif (decide (b < (1:Int))) then
 Xs K
 else
 bif (decide (b > (3:Int))) then
 Xs K
 else
 bif (b != (3:Int)) then
 (Xa x0.States x2.To).bind fun c =>
 (Xa c.R a).bind fun d =>
 (Wh K x1.R d).bind fun e =>
 bif (!e) then
 Xs K
 else
 Xr K k (IntKind.i64.wrap (a + (1:Int))) x0 x1 x2
 else
 Xr K k (IntKind.i64.wrap (a + (1:Int))) x0 x1 x2
 else
 some true
def Ke (K : Nat) (x0 : Ql) (x1 : Qa) (x2 : Qe) : Option Bool :=
 bif (x2.To == (-1:Int)) then
 some ((x2.Ops.length : Int) == (0:Int))
 else
 bif (decide (x2.To < (1:Int))) then
 Xt K
 else
 bif (decide (x2.To ≥ (x0.States.length : Int))) then
 Xt K
 else
 (Xa x0.States x2.To).bind fun a =>
 bif ((x2.Ops.length : Int) != (a.R.length : Int)) then
 Xt K
 else
 Xr K K (0:Int) x0 x1 x2
def Z8 (K : Nat) : Option Bool :=
 some false
def Xd (K : Nat) : Option Bool :=
 some false
def Ve (K : Nat) (c : Int → Int → Ql → Qa → Option Bool) : Nat → Int → Int → Int → Qa → Int → Int → Int → Bool → Int → (List Qe) → (List Qe) → Int → Ql → Bool → Option Bool
 | 0 => fun _ _ _ _ _ _ _ _ _ _ _ _ _ _ => none
 | k + 1 => fun d a b x1 f g i j l m n o x0 p =>
 (Xa x1.Next a).bind fun e =>
 bif (decide (b < (e.length : Int))) then
 (Xa e b).bind fun q =>
 (Ke K x0 x1 q).bind fun r =>
 bif (!r) then
 some false
 else
 Ve K c k d a (IntKind.i64.wrap (b + (1:Int))) x1 f g i j l m n o x0 p
 else
 c d (IntKind.i64.wrap (a + (1:Int))) x0 x1
def Yp (K : Nat) : Nat → Int → Int → Ql → Qa → Option Bool
 | 0 => fun _ _ _ _ => none
 | k + 1 => fun d a x0 x1 =>
 bif (decide (a < d)) then
 (Xa x1.Rule a).bind fun b =>
 bif (decide (b < (-1:Int))) then
 Xd K
 else
 bif (decide (b ≥ (512:Int))) then
 Xd K
 else
 (Xa x1.Next a).bind fun c =>
 bif ((c.length : Int) != x0.Split.Many) then
 Xd K
 else
 Ve K (Yp K k) K d a (0:Int) x1 a b b (decide (b ≥ (512:Int))) a c c (c.length : Int) x0 ((c.length : Int) != x0.Split.Many)
 else
 some true
def G2 (K : Nat) (x0 : Ql) (x1 : Qa) : Option Bool :=
 (Jb K (x1.R.length : Int)).bind fun a =>
 bif (a == (0:Int)) then
 Z8 K
 else
 (Wj K x1.L (512:Int)).bind fun b =>
 bif (!b) then
 Z8 K
 else
 (Wj K x1.R (x0.Counts.length : Int)).bind fun c =>
 bif (!c) then
 Z8 K
 else
 bif ((x1.Rule.length : Int) != a) then
 Z8 K
 else
 bif ((x1.Next.length : Int) != a) then
 Z8 K
 else
 Yp K K a (0:Int) x0 x1
def Zt (K : Nat) : Option Bool :=
 some false
def Vg (K : Nat) : Option Bool :=
 some false
def Vf (K : Nat) : Nat → Int → Ql → Option Bool
 | 0 => fun _ _ => none
 | k + 1 => fun a x0 =>
 bif (decide (a < (x0.States.length : Int))) then
 (Xa x0.States a).bind fun b =>
 (G2 K x0 b).bind fun c =>
 bif (!c) then
 some false
 else
 Vf K k (IntKind.i64.wrap (a + (1:Int))) x0
 else
 some true
def Xf (K : Nat) : Nat → Int → Ql → Option Bool
 | 0 => fun _ _ => none
 | k + 1 => fun b x0 =>
 bif (decide (b < (x0.Counts.length : Int))) then
 (Xa x0.Counts b).bind fun a =>
 bif (decide ((Vr.get a (0:Int)) < (1:Int))) then
 Vg K
 else
 bif (decide ((Vr.get a (0:Int)) > (Vr.get a (1:Int)))) then
 Vg K
 else
 bif (decide ((Vr.get a (1:Int)) < (2:Int))) then
 Vg K
 else
 bif (decide ((Vr.get a (1:Int)) > (4096:Int))) then
 Vg K
 else
 Xf K k (IntKind.i64.wrap (b + (1:Int))) x0
 else
 Vf K K (0:Int) x0
def X3 (K : Nat) (x0 : Ql) : Option Bool :=
 (Lf K x0.Split).bind fun b =>
 bif (!b) then
 Zt K
 else
 bif (decide ((x0.Counts.length : Int) > (512:Int))) then
 Zt K
 else
 bif (decide ((x0.States.length : Int) < (1:Int))) then
 Zt K
 else
 bif (decide ((x0.States.length : Int) > (256:Int))) then
 Zt K
 else
 (Xa x0.States (0:Int)).bind fun a =>
 bif (decide ((a.L.length : Int) > (0:Int))) then
 Zt K
 else
 bif (decide ((a.R.length : Int) > (0:Int))) then
 Zt K
 else
 Xf K K (0:Int) x0
def X5 (K : Nat) (x0 : Qg) : Option Bool :=
 bif (decide (x0.at_ ≥ (x0.s.size : Int))) then
 some true
 else
 some (x0.e != (0:Int))
def U6 (K : Nat) (x0 : Qg) (x1 : Q4) : Option (Int × Qg) :=
 (ck (roomy 96 (x0.nodes.length + [x1].length) = true)).bind fun _ =>
 some ((IntKind.i64.wrap (((x0.nodes ++ [x1]).length : Int) - (1:Int))), (Qg.mk x0.s x0.at_ (x0.nodes ++ [x1]) x0.deep x0.e x0.where_))
def Ch (K : Nat) : Option ByteArray :=
 some (⟨#[124, 42, 43, 63, 123, 125, 40, 41, 91, 93, 46, 92, 47, 36, 94, 34]⟩ : ByteArray)
def Mx (K : Nat) : Nat → Int → ByteArray → Int → Option Bool
 | 0 => fun _ _ _ => none
 | k + 1 => fun x0 x1 a =>
 bif (decide (a < (x1.size : Int))) then
 (ck (0 ≤ a ∧ a < x1.size)).bind fun _ =>
 bif ((bt x1 a) == x0) then
 none
 else
 Mx K k x0 x1 (IntKind.i64.wrap (a + (1:Int)))
 else
 some false
def Rj (K : Nat) (x0 : Int) (x1 : ByteArray) : Option Bool :=
 Mx K K x0 x1 (0:Int)
def Ku (K : Nat) (x0 : Qg) : Option (Int × Qg) :=
 (ck (0 ≤ x0.at_ ∧ x0.at_ < x0.s.size)).bind fun _ =>
 bif ((bt x0.s x0.at_) != (92:Int)) then
 some ((bt x0.s x0.at_), (Qg.mk x0.s (IntKind.i64.wrap (x0.at_ + (1:Int))) x0.nodes x0.deep x0.e x0.where_))
 else
 none
def Wy (K : Nat) (x0 : Z5) (x1 : Int) : Option Bool :=
 (ck (0 ≤ (IntKind.u8.wrap (Int.tdiv x1 (64:Int))) ∧ (IntKind.u8.wrap (Int.tdiv x1 (64:Int))) < 4)).bind fun _ =>
 (ck (0 ≤ (Int.tmod x1 (64:Int)))).bind fun _ =>
 some ((Int.tmod (Int.fdiv (Z5.get x0 (IntKind.u8.wrap (Int.tdiv x1 (64:Int)))) (2 ^ min (Int.toNat (Int.tmod x1 (64:Int))) IntKind.u64.bits)) (2:Int)) == (1:Int))
def Io (K : Nat) (x0 : Z5) (x1 : Int) : Option Z5 :=
 (Wy K x0 x1).bind fun a =>
 bif (!a) then
 (ck (0 ≤ (IntKind.u8.wrap (Int.tdiv x1 (64:Int))) ∧ (IntKind.u8.wrap (Int.tdiv x1 (64:Int))) < 4)).bind fun _ =>
 (ck (0 ≤ (Int.tmod x1 (64:Int)))).bind fun _ =>
 some (Z5.set x0 (IntKind.u8.wrap (Int.tdiv x1 (64:Int))) (IntKind.u64.wrap ((Z5.get x0 (IntKind.u8.wrap (Int.tdiv x1 (64:Int)))) + (IntKind.u64.wrap ((1:Int) * 2 ^ min (Int.toNat (Int.tmod x1 (64:Int))) IntKind.u64.bits)))))
 else
 none
def M0 (K : Nat) : Nat → (List Int) → Int → Z5 → Z5 → Option Z5
 | 0 => fun _ _ _ _ => none
 | k + 1 => fun x0 a c b =>
 bif (decide (a < (x0.length : Int))) then
 (Xa x0 a).bind fun d =>
 (Io K b d).bind fun e =>
 M0 K k x0 (IntKind.i64.wrap (a + (1:Int))) c e
 else
 some b
def E3 (K : Nat) (x0 : List Int) : Option Z5 :=
 M0 K K x0 (0:Int) (Z5.mk 0 0 0 0) (Z5.mk 0 0 0 0)
def L5 (K : Nat) (x0 : Qg) : Option (Int × Qg) :=
 (ck (0 ≤ x0.at_ ∧ x0.at_ < x0.s.size)).bind fun _ =>
 bif ((bt x0.s x0.at_) == (40:Int)) then
 none
 else
 bif ((bt x0.s x0.at_) == (91:Int)) then
 none
 else
 bif ((bt x0.s x0.at_) == (46:Int)) then
 none
 else
 bif ((bt x0.s x0.at_) == (123:Int)) then
 none
 else
 bif ((bt x0.s x0.at_) == (47:Int)) then
 none
 else
 bif ((bt x0.s x0.at_) == (36:Int)) then
 none
 else
 bif ((bt x0.s x0.at_) != (92:Int)) then
 (Ch K).bind fun c =>
 (Rj K (bt x0.s x0.at_) c).bind fun d =>
 bif d then
 none
 else
 (Ku K x0).bind fun a =>
 bif (a.2.e != (0:Int)) then
 none
 else
 (E3 K [a.1]).bind fun f =>
 (U6 K a.2 (Q4.mk (2:Int) f [] (0:Int) (0:Int) (⟨#[]⟩ : ByteArray))).bind fun b =>
 some (b.1, b.2)
 else
 none
def Hl (K : Nat) : Nat → Int → ByteArray → Int → Int → Int → Int → (List Q4) → Option (Int × Qg)
 | 0 => fun _ _ _ _ _ _ _ => none
 | k + 1 => fun g a b c d e f =>
 (X5 K (Qg.mk a b f c d e)).bind fun i =>
 bif (!i) then
 (ck (0 ≤ (Qg.mk a b f c d e).at_ ∧ (Qg.mk a b f c d e).at_ < ((Qg.mk a b f c d e).s).size)).bind fun _ =>
 bif ((bt ((Qg.mk a b f c d e).s) ((Qg.mk a b f c d e).at_)) == (42:Int)) then
 none
 else
 bif ((bt ((Qg.mk a b f c d e).s) ((Qg.mk a b f c d e).at_)) == (43:Int)) then
 none
 else
 bif ((bt ((Qg.mk a b f c d e).s) ((Qg.mk a b f c d e).at_)) == (63:Int)) then
 none
 else
 bif ((bt ((Qg.mk a b f c d e).s) ((Qg.mk a b f c d e).at_)) == (123:Int)) then
 none
 else
 some (g, (Qg.mk a b f c d e))
 else
 some (g, (Qg.mk a b f c d e))
def L4 (K : Nat) (x0 : Qg) : Option (Int × Qg) :=
 (L5 K x0).bind fun a =>
 Hl K K a.1 a.2.s a.2.at_ a.2.deep a.2.e a.2.where_ a.2.nodes
def Jh (K : Nat) (d : ByteArray) (e : Int) (f : Int) (b : Int) (g : Int) (i : List Q4) (a : List Int) : Option (Int × Qg) :=
 bif (b != (0:Int)) then
 none
 else
 bif ((a.length : Int) == (0:Int)) then
 none
 else
 bif ((a.length : Int) == (1:Int)) then
 none
 else
 (U6 K (Qg.mk d e i f b g) (Q4.mk (3:Int) (Z5.mk 0 0 0 0) a (0:Int) (0:Int) (⟨#[]⟩ : ByteArray))).bind fun c =>
 some (c.1, c.2)
def Jg (K : Nat) : Nat → ByteArray → Int → Int → Int → Int → (List Q4) → (List Int) → Option (Int × Qg)
 | 0 => fun _ _ _ _ _ _ _ => none
 | k + 1 => fun a b c d f g j =>
 (X5 K (Qg.mk a b g c d f)).bind fun l =>
 bif (!l) then
 (ck (0 ≤ (Qg.mk a b g c d f).at_ ∧ (Qg.mk a b g c d f).at_ < ((Qg.mk a b g c d f).s).size)).bind fun _ =>
 bif ((bt ((Qg.mk a b g c d f).s) ((Qg.mk a b g c d f).at_)) != (124:Int)) then
 bif ((bt ((Qg.mk a b g c d f).s) ((Qg.mk a b g c d f).at_)) != (41:Int)) then
 (L4 K (Qg.mk a b g c d f)).bind fun i =>
 (ck (roomy 8 (j.length + [i.1].length) = true)).bind fun _ =>
 Jg K k i.2.s i.2.at_ i.2.deep i.2.e i.2.where_ i.2.nodes (j ++ [i.1])
 else
 none
 else
 Jh K ((Qg.mk a b g c d f).s) ((Qg.mk a b g c d f).at_) ((Qg.mk a b g c d f).deep) ((Qg.mk a b g c d f).e) ((Qg.mk a b g c d f).where_) ((Qg.mk a b g c d f).nodes) j
 else
 Jh K ((Qg.mk a b g c d f).s) ((Qg.mk a b g c d f).at_) ((Qg.mk a b g c d f).deep) ((Qg.mk a b g c d f).e) ((Qg.mk a b g c d f).where_) ((Qg.mk a b g c d f).nodes) j
def W7 (K : Nat) (x0 : Qg) : Option (Int × Qg) :=
 Jg K K x0.s x0.at_ x0.deep x0.e x0.where_ x0.nodes []
def Xm (K : Nat) : Nat → ByteArray → Int → Int → Int → Int → (List Q4) → (List Int) → Option (Int × Qg)
 | 0 => fun _ _ _ _ _ _ _ => none
 | k + 1 => fun a b c d f g j =>
 (X5 K (Qg.mk a b g c d f)).bind fun m =>
 bif (!m) then
 (ck (0 ≤ (Qg.mk a b g c d f).at_ ∧ (Qg.mk a b g c d f).at_ < ((Qg.mk a b g c d f).s).size)).bind fun _ =>
 bif ((bt ((Qg.mk a b g c d f).s) ((Qg.mk a b g c d f).at_)) == (124:Int)) then
 (W7 K (Qg.mk ((Qg.mk a b g c d f).s) (IntKind.i64.wrap ((Qg.mk a b g c d f).at_ + (1:Int))) ((Qg.mk a b g c d f).nodes) ((Qg.mk a b g c d f).deep) ((Qg.mk a b g c d f).e) ((Qg.mk a b g c d f).where_))).bind fun i =>
 (ck (roomy 8 (j.length + [i.1].length) = true)).bind fun _ =>
 Xm K k i.2.s i.2.at_ i.2.deep i.2.e i.2.where_ i.2.nodes (j ++ [i.1])
 else
 none
 else
 bif ((j.length : Int) == (1:Int)) then
 none
 else
 bif ((Qg.mk a b g c d f).e != (0:Int)) then
 none
 else
 (U6 K (Qg.mk a b g c d f) (Q4.mk (4:Int) (Z5.mk 0 0 0 0) j (0:Int) (0:Int) (⟨#[]⟩ : ByteArray))).bind fun l =>
 some (l.1, l.2)
def Jm (K : Nat) (x0 : Qg) : Option (Int × Qg) :=
 (W7 K x0).bind fun a =>
 Xm K K a.2.s a.2.at_ a.2.deep a.2.e a.2.where_ a.2.nodes [a.1]
def Ex (K : Nat) (x0 : ByteArray) : Option ((List Q4) × Int × Int) :=
 bif (decide ((x0.size : Int) > (1024:Int))) then
 none
 else
 (Jm K (Qg.mk x0 (0:Int) [] (0:Int) (0:Int) (0:Int))).bind fun a =>
 (X5 K a.2).bind fun b =>
 bif (!b) then
 none
 else
 bif (a.2.e != (0:Int)) then
 none
 else
 bif (decide ((a.2.nodes.length : Int) > (1024:Int))) then
 none
 else
 some (a.2.nodes, (0:Int), (0:Int))
def Lz (K : Nat) (rec_raddleref04_walk : (List Q4) → Int → (List Int) → Option ((List Int) × Bool)) : Nat → (List Q4) → Int → Int → (List Int) → Option ((List Int) × Bool)
 | 0 => fun _ _ _ _ => none
 | k + 1 => fun x0 x1 a b =>
 (Xa x0 x1).bind fun d =>
 bif (decide (a < (d.L.length : Int))) then
 (Xa d.L a).bind fun c =>
 bif (decide (c < (0:Int))) then
 none
 else
 bif (decide (c ≥ x1)) then
 none
 else
 (rec_raddleref04_walk x0 c b).bind fun e =>
 bif (!e.2) then
 none
 else
 Lz K rec_raddleref04_walk k x0 x1 (IntKind.i64.wrap (a + (1:Int))) e.1
 else
 (ck (roomy 8 (b.length + [x1].length) = true)).bind fun _ =>
 some ((b ++ [x1]), true)
def Do (K : Nat) (rec_raddleref04_walk : (List Q4) → Int → (List Int) → Option ((List Int) × Bool)) (x0 : List Q4) (x1 : Int) (x2 : List Int) : Option ((List Int) × Bool) :=
 bif (decide ((x2.length : Int) ≥ (x0.length : Int))) then
 none
 else
 Lz K rec_raddleref04_walk K x0 x1 (0:Int) x2
def K0 (K : Nat) : Nat → (List Q4) → Int → (List Int) → Option ((List Int) × Bool)
 | 0 => fun _ _ _ => none
 | n + 1 => Do K (K0 K n)
def T1 (K : Nat) (x0 : List Q4) (x1 : Int) (x2 : List Int) : Option ((List Int) × Bool) := K0 K K x0 x1 x2
def Gq (K : Nat) (a : Bool) (b : Bool) (c : Bool) (x0 : Q4) (d : Bool) : Option Bool :=
 bif d then
 bif (!a) then
 bif (!b) then
 bif (!c) then
 some (decide ((x0.L.length : Int) ≥ (2:Int)))
 else
 none
 else
 none
 else
 none
 else
 none
def Eu (K : Nat) (x0 : Q4) : Option Bool :=
 bif (x0.Lo != (0:Int)) then
 none
 else
 bif (x0.Op == (1:Int)) then
 none
 else
 bif (x0.Op == (2:Int)) then
 bif (!(Z5.same x0.S (Z5.mk 0 0 0 0))) then
 bif (!(x0.Hi != (0:Int))) then
 bif (!(!(x0.Name.toList == (⟨#[]⟩ : ByteArray).toList))) then
 some ((x0.L.length : Int) == (0:Int))
 else
 none
 else
 none
 else
 none
 else
 bif (x0.Op == (3:Int)) then
 Gq K (!(Z5.same x0.S (Z5.mk 0 0 0 0))) (x0.Hi != (0:Int)) (!(x0.Name.toList == (⟨#[]⟩ : ByteArray).toList)) x0 (x0.Op == (3:Int))
 else
 Gq K (!(Z5.same x0.S (Z5.mk 0 0 0 0))) (x0.Hi != (0:Int)) (!(x0.Name.toList == (⟨#[]⟩ : ByteArray).toList)) x0 (x0.Op == (4:Int))
def Gr (K : Nat) : Nat → Int → (List Int) → Option Bool
 | 0 => fun _ _ => none
 | k + 1 => fun a b =>
 bif (decide (a < (b.length : Int))) then
 (Xa b a).bind fun c =>
 bif (c != a) then
 none
 else
 Gr K k (IntKind.i64.wrap (a + (1:Int))) b
 else
 some true
def Gs (K : Nat) : Nat → (List Q4) → Int → Option Bool
 | 0 => fun _ _ => none
 | k + 1 => fun x0 a =>
 bif (decide (a < (x0.length : Int))) then
 (Xa x0 a).bind fun c =>
 (Eu K c).bind fun d =>
 bif (!d) then
 none
 else
 Gs K k x0 (IntKind.i64.wrap (a + (1:Int)))
 else
 (T1 K x0 (IntKind.i64.wrap ((x0.length : Int) - (1:Int))) ([] : List Int)).bind fun b =>
 bif (!b.2) then
 none
 else
 bif ((b.1.length : Int) != (x0.length : Int)) then
 none
 else
 Gr K K (0:Int) b.1
def My (K : Nat) (x0 : List Q4) : Option Bool :=
 bif (decide ((x0.length : Int) < (1:Int))) then
 none
 else
 bif (decide ((x0.length : Int) > (1024:Int))) then
 none
 else
 Gs K K x0 (0:Int)
def Gp (K : Nat) : Nat → (List Q4) → Int → Option Bool
 | 0 => fun _ _ => none
 | k + 1 => fun x0 a =>
 bif (decide (a < (x0.length : Int))) then
 (Xa x0 a).bind fun b =>
 bif (b.Op == (6:Int)) then
 some false
 else
 Gp K k x0 (IntKind.i64.wrap (a + (1:Int)))
 else
 (My K x0).bind fun c =>
 some c
def Mv (K : Nat) (x0 : List Q4) : Option Bool :=
 Gp K K x0 (0:Int)
def Ly (K : Nat) (x0 : Qx) (x1 : Q4) : Option (Int × Qx) :=
 bif (decide ((x0.out.length : Int) ≥ (1024:Int))) then
 none
 else
 (ck (roomy 96 (x0.out.length + [x1].length) = true)).bind fun _ =>
 some ((IntKind.i64.wrap (((x0.out ++ [x1]).length : Int) - (1:Int))), (Qx.mk x0.l x0.most (x0.out ++ [x1]) x0.long))
def Ue (K : Nat) (rec_raddleref08_planner_plan : Qx → Int → Option (Int × Qx)) : Nat → Int → (List Q4) → Int → Bool → (List Q4) → Int → Z5 → (List Int) → Int → Int → ByteArray → (List Int) → Option (Int × Qx)
 | 0 => fun _ _ _ _ _ _ _ _ _ _ _ _ => none
 | k + 1 => fun b e f g i j m c n o p d =>
 bif (decide (b < (c.length : Int))) then
 (Xa c b).bind fun r =>
 (rec_raddleref08_planner_plan (Qx.mk e f i g) r).bind fun a =>
 (ck (roomy 8 (d.length + [a.1].length) = true)).bind fun _ =>
 Ue K rec_raddleref08_planner_plan k (IntKind.i64.wrap (b + (1:Int))) a.2.l a.2.most a.2.long a.2.out j m c n o p (d ++ [a.1])
 else
 (Ly K (Qx.mk e f i g) (Q4.mk j m d n o p)).bind fun q =>
 some (q.1, q.2)
def Hj (K : Nat) (rec_raddleref08_planner_plan : Qx → Int → Option (Int × Qx)) (x0 : Qx) (x1 : Int) : Option (Int × Qx) :=
 (Xa x0.l x1).bind fun a =>
 bif x0.long then
 none
 else
 bif (a.Op == (5:Int)) then
 none
 else
 Ue K rec_raddleref08_planner_plan K (0:Int) x0.l x0.most x0.long x0.out a.Op a.S a.L a.Lo a.Hi a.Name []
def U3 (K : Nat) : Nat → Qx → Int → Option (Int × Qx)
 | 0 => fun _ _ => none
 | n + 1 => Hj K (U3 K n)
def Cv (K : Nat) (x0 : Qx) (x1 : Int) : Option (Int × Qx) := U3 K K x0 x1
def Ii (K : Nat) (x0 : List Q4) (x1 : Int) : Option ((List Q4) × Int) :=
 (Mv K x0).bind fun b =>
 bif (!b) then
 none
 else
 bif (decide (x1 < (1:Int))) then
 none
 else
 bif (decide (x1 > (4096:Int))) then
 none
 else
 (Cv K (Qx.mk x0 x1 [] false) (IntKind.i64.wrap ((x0.length : Int) - (1:Int)))).bind fun a =>
 bif a.2.long then
 none
 else
 (My K a.2.out).bind fun c =>
 bif (!c) then
 none
 else
 some (a.2.out, (0:Int))
def Lx (K : Nat) (e : (List Int) → (List Int) → Int → Int → (List Int) → Option (List Int)) (x0 : List Int) (x1 : List Int) (b : Int) (a : Int) (c : List Int) : Option (List Int) :=
 bif (a == (x1.length : Int)) then
 none
 else
 bif (decide (b < (x0.length : Int))) then
 (Xa x0 b).bind fun d =>
 (Xa x1 a).bind fun g =>
 bif (decide (d < g)) then
 (ck (roomy 8 (c.length + [d].length) = true)).bind fun _ =>
 e x0 x1 (IntKind.i64.wrap (b + (1:Int))) a (c ++ [d])
 else
 none
 else
 (Xa x1 a).bind fun f =>
 (ck (roomy 8 (c.length + [f].length) = true)).bind fun _ =>
 e x0 x1 b (IntKind.i64.wrap (a + (1:Int))) (c ++ [f])
def Vz (K : Nat) : Nat → (List Int) → (List Int) → Int → Int → (List Int) → Option (List Int)
 | 0 => fun _ _ _ _ _ => none
 | k + 1 => fun x0 x1 a b c =>
 bif (decide (a < (x0.length : Int))) then
 Lx K (Vz K k) x0 x1 a b c
 else
 bif (decide (b < (x1.length : Int))) then
 Lx K (Vz K k) x0 x1 a b c
 else
 some c
def Jx (K : Nat) (x0 : List Int) (x1 : List Int) : Option (List Int) :=
 Vz K K x0 x1 (0:Int) (0:Int) []
def Ud (K : Nat) : Nat → (List Int) → (List Int) → Int → (List Zp) → Option Qk
 | 0 => fun _ _ _ _ => none
 | k + 1 => fun x1 x2 b c =>
 bif (decide (b < (x1.length : Int))) then
 (Xa x1 b).bind fun d =>
 (Xa c d).bind fun a =>
 (Jx K a.Next x2).bind fun e =>
 Ud K k x1 x2 (IntKind.i64.wrap (b + (1:Int))) (List.set c (Int.toNat d) (Zp.mk a.S a.Lo a.Hi a.Rule a.Last e))
 else
 some (Qk.mk c)
def La (K : Nat) (x0 : Qk) (x1 : List Int) (x2 : List Int) : Option Qk :=
 Ud K K x1 x2 (0:Int) x0.p
def U1 (K : Nat) (a : (List Qu) → Int → (List Zp) → Bool → (List Int) → (List Int) → Option (Qu × Qk)) (x1 : List Qu) (b : Int) (c : List Zp) (g : Bool) (d : List Int) (i : List Int) (e : Bool) (j : List Int) (f : List Int) : Option (Qu × Qk) :=
 bif e then
 none
 else
 bif g then
 a x1 (IntKind.i64.wrap (b + (1:Int))) c e d f
 else
 a x1 (IntKind.i64.wrap (b + (1:Int))) c false d f
def Yq (K : Nat) : Nat → (List Qu) → Int → (List Zp) → Bool → (List Int) → (List Int) → Option (Qu × Qk)
 | 0 => fun _ _ _ _ _ _ => none
 | k + 1 => fun x1 b f c e d =>
 bif (decide (b < (x1.length : Int))) then
 (Xa x1 b).bind fun a =>
 (La K (Qk.mk f) d a.first).bind fun g =>
 bif c then
 (Jx K e a.first).bind fun i =>
 U1 K (Yq K k) x1 b g.p c i d a.null a.first a.last
 else
 U1 K (Yq K k) x1 b g.p c e d a.null a.first a.last
 else
 some ((Qu.mk c e d), (Qk.mk f))
def Lw (K : Nat) (x0 : Qk) (x1 : List Qu) : Option (Qu × Qk) :=
 Yq K K x1 (0:Int) x0.p true [] []
def Lv (K : Nat) (x0 : Qk) (x1 : Zp) : Option (Qu × Qk) :=
 (ck (roomy 88 (x0.p.length + [x1].length) = true)).bind fun _ =>
 some ((Qu.mk false [(IntKind.i64.wrap (((x0.p ++ [x1]).length : Int) - (1:Int)))] [(IntKind.i64.wrap (((x0.p ++ [x1]).length : Int) - (1:Int)))]), (Qk.mk (x0.p ++ [x1])))
def Ub (K : Nat) (rec_raddleref09_builder_node : Qk → (List Q4) → Int → Int → Option (Qu × Qk)) : Nat → Int → (List Zp) → (List Int) → (List Int) → Int → Z5 → (List Int) → Int → Int → ByteArray → (List Qu) → Bool → (List Int) → (List Int) → Option (Qu × Qk)
 | 0 => fun _ _ _ _ _ _ _ _ _ _ _ _ _ _ => none
 | k + 1 => fun a d j l e m n o p q b f g i =>
 bif (decide (a < (b.length : Int))) then
 bif f then
 none
 else
 (Xa b a).bind fun c =>
 (Jx K g c.first).bind fun r =>
 (Jx K i c.last).bind fun s =>
 Ub K rec_raddleref09_builder_node k (IntKind.i64.wrap (a + (1:Int))) d j l e m n o p q b c.null r s
 else
 bif (e == (5:Int)) then
 none
 else
 some ((Qu.mk f g i), (Qk.mk d))
def Uc (K : Nat) (rec_raddleref09_builder_node : Qk → (List Q4) → Int → Int → Option (Qu × Qk)) : Nat → (List Q4) → Int → Int → (List Zp) → Int → Z5 → (List Int) → Int → Int → ByteArray → (List Qu) → Option (Qu × Qk)
 | 0 => fun _ _ _ _ _ _ _ _ _ _ _ => none
 | k + 1 => fun x1 x3 d e a g b i j l c =>
 bif (decide (d < (b.length : Int))) then
 (Xa b d).bind fun n =>
 (rec_raddleref09_builder_node (Qk.mk e) x1 n x3).bind fun f =>
 (ck (roomy 56 (c.length + [f.1].length) = true)).bind fun _ =>
 Uc K rec_raddleref09_builder_node k x1 x3 (IntKind.i64.wrap (d + (1:Int))) f.2.p a g b i j l (c ++ [f.1])
 else
 bif (a == (3:Int)) then
 (Lw K (Qk.mk e) c).bind fun m =>
 some (m.1, m.2)
 else
 Ub K rec_raddleref09_builder_node K (0:Int) e [] [] a g b i j l c (a == (5:Int)) [] []
def Hg (K : Nat) (rec_raddleref09_builder_node : Qk → (List Q4) → Int → Int → Option (Qu × Qk)) (x0 : Qk) (x1 : List Q4) (x2 : Int) (x3 : Int) : Option (Qu × Qk) :=
 (Xa x1 x2).bind fun a =>
 bif (a.Op == (1:Int)) then
 none
 else
 bif (a.Op == (2:Int)) then
 (Lv K x0 (Zp.mk a.S (1:Int) (1:Int) x3 false [])).bind fun b =>
 some (b.1, b.2)
 else
 bif (a.Op == (5:Int)) then
 none
 else
 Uc K rec_raddleref09_builder_node K x1 x3 (0:Int) x0.p a.Op a.S a.L a.Lo a.Hi a.Name []
def Uz (K : Nat) : Nat → Qk → (List Q4) → Int → Int → Option (Qu × Qk)
 | 0 => fun _ _ _ _ => none
 | n + 1 => Hg K (Uz K n)
def Cu (K : Nat) (x0 : Qk) (x1 : List Q4) (x2 : Int) (x3 : Int) : Option (Qu × Qk) := Uz K K x0 x1 x2 x3
def Gn (K : Nat) : Nat → (List Q4) → Int → Option Bool
 | 0 => fun _ _ => none
 | k + 1 => fun x0 a =>
 bif (decide (a < (x0.length : Int))) then
 (Xa x0 a).bind fun b =>
 bif (b.Op == (5:Int)) then
 none
 else
 Gn K k x0 (IntKind.i64.wrap (a + (1:Int)))
 else
 some true
def Et (K : Nat) (x0 : List Q4) : Option Bool :=
 (Mv K x0).bind fun a =>
 bif (!a) then
 none
 else
 Gn K K x0 (0:Int)
def Mt (K : Nat) (e : (List (List Q4)) → Int → (List Int) → (List Zp) → (List Zp) → (List Int) → (List Zp) → Option (Zr × Int)) : Nat → (List (List Q4)) → Int → Int → (List Int) → (List Zp) → (List Zp) → (List Int) → (List Zp) → Bool → (List Int) → (List Int) → Option (Zr × Int)
 | 0 => fun _ _ _ _ _ _ _ _ _ _ _ => none
 | k + 1 => fun x0 f c g i b j l n o d =>
 bif (decide (c < (d.length : Int))) then
 (Xa d c).bind fun m =>
 (Xa b m).bind fun a =>
 Mt K e k x0 f (IntKind.i64.wrap (c + (1:Int))) g i (List.set b (Int.toNat m) (Zp.mk a.S a.Lo a.Hi a.Rule true a.Next)) j l n o d
 else
 bif (decide ((b.length : Int) > (512:Int))) then
 none
 else
 e x0 (IntKind.i64.wrap (f + (1:Int))) g i b j l
def Lc (K : Nat) : Nat → (List (List Q4)) → Int → (List Int) → (List Zp) → (List Zp) → (List Int) → (List Zp) → Option (Zr × Int)
 | 0 => fun _ _ _ _ _ _ _ => none
 | k + 1 => fun x0 b f g c d i =>
 bif (decide (b < (x0.length : Int))) then
 (Xa x0 b).bind fun e =>
 (Cu K (Qk.mk c) e (IntKind.i64.wrap ((e.length : Int) - (1:Int))) b).bind fun a =>
 (Jx K d a.1.first).bind fun j =>
 Mt K (Lc K k) K x0 b (0:Int) f g a.2.p j i a.1.null a.1.first a.1.last
 else
 some ((Zr.mk d c), (0:Int))
def Mu (K : Nat) : Nat → (List (List Q4)) → Int → Option (Zr × Int)
 | 0 => fun _ _ => none
 | k + 1 => fun x0 a =>
 bif (decide (a < (x0.length : Int))) then
 (Xa x0 a).bind fun b =>
 (Et K b).bind fun c =>
 bif (!c) then
 none
 else
 Mu K k x0 (IntKind.i64.wrap (a + (1:Int)))
 else
 Lc K K x0 (0:Int) [] [] [] [] []
def P9 (K : Nat) (x0 : List (List Q4)) : Option (Zr × Int) :=
 bif (decide ((x0.length : Int) > (512:Int))) then
 none
 else
 Mu K K x0 (0:Int)
def J7 (K : Nat) : Nat → (List Int) → Int → Int → Option Bool
 | 0 => fun _ _ _ => none
 | k + 1 => fun x0 x1 a =>
 bif (decide (a < (x0.length : Int))) then
 (Xa x0 a).bind fun b =>
 bif (decide (b < (0:Int))) then
 none
 else
 bif (decide (b ≥ x1)) then
 none
 else
 bif (decide (a > (0:Int))) then
 (Xa x0 (IntKind.i64.wrap (a - (1:Int)))).bind fun c =>
 bif (decide (c ≥ b)) then
 none
 else
 J7 K k x0 x1 (IntKind.i64.wrap (a + (1:Int)))
 else
 J7 K k x0 x1 (IntKind.i64.wrap (a + (1:Int)))
 else
 some true
def Mq (K : Nat) (x0 : List Int) (x1 : Int) : Option Bool :=
 J7 K K x0 x1 (0:Int)
def Gm (K : Nat) : Nat → Int → Zr → Option Bool
 | 0 => fun _ _ => none
 | k + 1 => fun b x0 =>
 bif (decide (b < (x0.P.length : Int))) then
 (Xa x0.P b).bind fun a =>
 bif (Z5.same a.S (Z5.mk 0 0 0 0)) then
 none
 else
 bif (decide (a.Lo < (1:Int))) then
 none
 else
 bif (decide (a.Lo > a.Hi)) then
 none
 else
 bif (decide (a.Hi > (4096:Int))) then
 none
 else
 bif (decide (a.Rule < (0:Int))) then
 none
 else
 bif (decide (a.Rule ≥ (512:Int))) then
 none
 else
 (Mq K a.Next (x0.P.length : Int)).bind fun c =>
 bif (!c) then
 none
 else
 Gm K k (IntKind.i64.wrap (b + (1:Int))) x0
 else
 some true
def Es (K : Nat) (x0 : Zr) : Option Bool :=
 bif (decide ((x0.P.length : Int) > (512:Int))) then
 none
 else
 (Mq K x0.First (x0.P.length : Int)).bind fun a =>
 bif (!a) then
 none
 else
 Gm K K (0:Int) x0
def Gt (K : Nat) : Nat → (List Z5) → Int → Int → Int → Option Bool
 | 0 => fun _ _ _ _ => none
 | k + 1 => fun x0 x1 x2 a =>
 bif (decide (a < (x0.length : Int))) then
 (Xa x0 a).bind fun b =>
 (Wy K b x1).bind fun c =>
 (Wy K b x2).bind fun d =>
 bif (!(c == d)) then
 some false
 else
 Gt K k x0 x1 x2 (IntKind.i64.wrap (a + (1:Int)))
 else
 some true
def Ey (K : Nat) (x0 : List Z5) (x1 : Int) (x2 : Int) : Option Bool :=
 Gt K K x0 x1 x2 (0:Int)
def Wk (K : Nat) (b : (List Z5) → Int → Zi → Zi → (List Int) → Option Q9) (x0 : List Z5) (a : Int) (c : Int) (d : Zi) (e : Zi) (f : List Int) : Option Q9 :=
 (ck (0 ≤ a ∧ a < 256)).bind fun _ =>
 b x0 (IntKind.i64.wrap (a + (1:Int))) d (Zi.set e a (IntKind.u8.wrap c)) f
def Mz (K : Nat) (d : (List Z5) → Int → Zi → Zi → (List Int) → Option Q9) : Nat → (List Z5) → Int → Int → Zi → Zi → (List Int) → Option Q9
 | 0 => fun _ _ _ _ _ _ => none
 | k + 1 => fun x0 b c e f a =>
 bif (decide (c < (a.length : Int))) then
 (Xa a c).bind fun g =>
 (Ey K x0 g (IntKind.u8.wrap b)).bind fun i =>
 bif (!i) then
 Mz K d k x0 b (IntKind.i64.wrap (c + (1:Int))) e f a
 else
 bif (c == (a.length : Int)) then
 (ck (roomy 1 (a.length + [(IntKind.u8.wrap b)].length) = true)).bind fun _ =>
 Wk K d x0 b c e f (a ++ [(IntKind.u8.wrap b)])
 else
 Wk K d x0 b c e f a
 else
 bif (c == (a.length : Int)) then
 (ck (roomy 1 (a.length + [(IntKind.u8.wrap b)].length) = true)).bind fun _ =>
 Wk K d x0 b c e f (a ++ [(IntKind.u8.wrap b)])
 else
 Wk K d x0 b c e f a
def Lg (K : Nat) : Nat → (List Z5) → Int → Zi → Zi → (List Int) → Option Q9
 | 0 => fun _ _ _ _ _ => none
 | k + 1 => fun x0 a d b c =>
 bif (decide (a < (256:Int))) then
 Mz K (Lg K k) K x0 a (0:Int) d b c
 else
 some (Q9.mk b (c.length : Int))
def Rm (K : Nat) (x0 : List Z5) : Option Q9 :=
 Lg K K x0 (0:Int) (Zi.mk fun _ => 0) (Zi.mk fun _ => 0) []
def Wc (K : Nat) : Nat → Int → Int → Qi → Qa → Option Int
 | 0 => fun _ _ _ _ => none
 | k + 1 => fun x2 x3 x0 x1 =>
 bif (decide ((0:Int) < (x1.R.length : Int))) then
 none
 else
 some (-1:Int)
def Je (K : Nat) (x0 : Qi) (x1 : Qa) (x2 : Int) (x3 : Int) : Option Int :=
 Wc K K x2 x3 x0 x1
def Jt (K : Nat) (x0 : Qi) (x1 : Qa) (x2 : Int) (x3 : Int) : Option Bool :=
 (Je K x0 x1 x2 x3).bind fun a =>
 some (a != (0:Int))
def Xu (K : Nat) : Nat → Int → Int → Int → Qi → Qa → Option Int
 | 0 => fun _ _ _ _ _ => none
 | k + 1 => fun x2 b a x0 x1 =>
 bif (decide (a < (x1.L.length : Int))) then
 (Xa x1.L a).bind fun c =>
 (Xa x0.g.P c).bind fun d =>
 bif d.Last then
 (Jt K x0 x1 x2 c).bind fun e =>
 bif e then
 bif (decide (b < (0:Int))) then
 Xu K k x2 d.Rule (IntKind.i64.wrap (a + (1:Int))) x0 x1
 else
 none
 else
 none
 else
 Xu K k x2 b (IntKind.i64.wrap (a + (1:Int))) x0 x1
 else
 some b
def G4 (K : Nat) (x0 : Qi) (x1 : Qa) (x2 : Int) : Option Int :=
 Xu K K x2 (-1:Int) (0:Int) x0 x1
def Hw (K : Nat) : Nat → Int → Int → Q9 → Z5 → (List Int) → Option Z5
 | 0 => fun _ _ _ _ _ => none
 | k + 1 => fun x1 a x0 c b =>
 bif (decide (a < (256:Int))) then
 (ck (0 ≤ a ∧ a < 256)).bind fun _ =>
 bif ((IntKind.i64.wrap (Zi.get x0.Of a)) == x1) then
 (ck (roomy 1 (b.length + [(IntKind.u8.wrap a)].length) = true)).bind fun _ =>
 Hw K k x1 (IntKind.i64.wrap (a + (1:Int))) x0 c (b ++ [(IntKind.u8.wrap a)])
 else
 Hw K k x1 (IntKind.i64.wrap (a + (1:Int))) x0 c b
 else
 (E3 K b).bind fun d =>
 some d
def Oj (K : Nat) (x0 : Q9) (x1 : Int) : Option Z5 :=
 Hw K K x1 (0:Int) x0 (Z5.mk 0 0 0 0) []
def Wx (K : Nat) : Nat → Int → Z5 → (List Int) → Option (List Int)
 | 0 => fun _ _ _ => none
 | k + 1 => fun a x0 b =>
 bif (decide (a < (256:Int))) then
 (Wy K x0 (IntKind.u8.wrap a)).bind fun c =>
 bif c then
 (ck (roomy 1 (b.length + [(IntKind.u8.wrap a)].length) = true)).bind fun _ =>
 Wx K k (IntKind.i64.wrap (a + (1:Int))) x0 (b ++ [(IntKind.u8.wrap a)])
 else
 Wx K k (IntKind.i64.wrap (a + (1:Int))) x0 b
 else
 some b
def Iq (K : Nat) (x0 : Z5) : Option (List Int) :=
 Wx K K (0:Int) x0 []
def Gu (K : Nat) : Nat → Int → Q9 → (List Int) → Option (List Int)
 | 0 => fun _ _ _ => none
 | k + 1 => fun a x0 b =>
 bif (decide (a < x0.Many)) then
 (Oj K x0 a).bind fun e =>
 (Iq K e).bind fun c =>
 bif ((c.length : Int) == (0:Int)) then
 none
 else
 (Xa c (0:Int)).bind fun d =>
 (ck (roomy 1 (b.length + [d].length) = true)).bind fun _ =>
 Gu K k (IntKind.i64.wrap (a + (1:Int))) x0 (b ++ [d])
 else
 some b
def E0 (K : Nat) (x0 : Q9) : Option (List Int) :=
 bif (decide (x0.Many < (1:Int))) then
 none
 else
 bif (decide (x0.Many > (256:Int))) then
 none
 else
 Gu K K (0:Int) x0 []
def Vt (K : Nat) : Nat → Int → Int → Int → Qi → Qa → Option Bool
 | 0 => fun _ _ _ _ _ => none
 | k + 1 => fun x3 x4 a x0 x2 =>
 bif (decide (a < (x2.L.length : Int))) then
 (Xa x2.L a).bind fun b =>
 (Jt K x0 x2 x3 b).bind fun c =>
 bif c then
 (Xa x0.g.P b).bind fun d =>
 (Wh K d.Next x4).bind fun e =>
 bif e then
 some true
 else
 Vt K k x3 x4 (IntKind.i64.wrap (a + (1:Int))) x0 x2
 else
 none
 else
 some false
def Hf (K : Nat) (x0 : Qi) (x1 : Int) (x2 : Qa) (x3 : Int) (x4 : Int) : Option Bool :=
 bif (x1 == (0:Int)) then
 (Wh K x0.g.First x4).bind fun a =>
 some a
 else
 Vt K K x3 x4 (0:Int) x0 x2
def H4 (K : Nat) (x0 : Qi) (x1 : Qa) (x2 : Int) (x3 : Int) : Option Bool :=
 (Je K x0 x1 x2 x3).bind fun a =>
 (Wh K x1.L x3).bind fun b =>
 bif b then
 bif (a == (0:Int)) then
 none
 else
 some (a == (2:Int))
 else
 some false
def V9 (K : Nat) (b : (List Int) → Int → Qi → Option (Int × Qi)) : Nat → (List Int) → Int → (List Int) → Bool → Int → Qi → Option (Int × Qi)
 | 0 => fun _ _ _ _ _ _ => none
 | k + 1 => fun x1 c d e a x0 =>
 bif (decide (a < (x1.length : Int))) then
 bif e then
 (Xa d a).bind fun f =>
 (Xa x1 a).bind fun g =>
 V9 K b k x1 c d (f == g) (IntKind.i64.wrap (a + (1:Int))) x0
 else
 none
 else
 bif e then
 none
 else
 b x1 (IntKind.i64.wrap (c + (1:Int))) x0
def V8 (K : Nat) : Nat → (List Int) → Int → Qi → Option (Int × Qi)
 | 0 => fun _ _ _ => none
 | k + 1 => fun x1 b x0 =>
 bif (decide (b < (x1.length : Int))) then
 (Xa x1 b).bind fun c =>
 (Xa x0.number c).bind fun d =>
 bif (decide (d ≥ (0:Int))) then
 none
 else
 V8 K k x1 (IntKind.i64.wrap (b + (1:Int))) x0
 else
 bif (decide ((x0.a.States.length : Int) ≥ (256:Int))) then
 none
 else
 (ck (roomy 96 (x0.a.States.length + [(Qa.mk x1 [] [] [])].length) = true)).bind fun _ =>
 some ((IntKind.i64.wrap (((x0.a.States ++ [(Qa.mk x1 [] [] [])]).length : Int) - (1:Int))), (Qi.mk x0.g x0.number (Ql.mk x0.a.Split x0.a.Counts (x0.a.States ++ [(Qa.mk x1 [] [] [])])) x0.e))
def Xv (K : Nat) : Nat → (List Int) → Int → Qi → Option (Int × Qi)
 | 0 => fun _ _ _ => none
 | k + 1 => fun x1 b x0 =>
 bif (decide (b < (x0.a.States.length : Int))) then
 (Xa x0.a.States b).bind fun c =>
 bif ((c.L.length : Int) == (x1.length : Int)) then
 V9 K (Xv K k) K x1 b c.L true (0:Int) x0
 else
 none
 else
 V8 K K x1 (0:Int) x0
def G7 (K : Nat) (x0 : Qi) (x1 : List Int) : Option (Int × Qi) :=
 Xv K K x1 (1:Int) x0
def Y0 (K : Nat) : Nat → Int → Int → Int → Int → Qi → (List Int) → (List Int) → (List Int) → (List (List Qe)) → (List Int) → Option (Qe × Qi)
 | 0 => fun _ _ _ _ _ _ _ _ _ _ => none
 | k + 1 => fun x1 x2 i a x0 c d e f b =>
 bif (decide (a < (x0.g.P.length : Int))) then
 (Xa x0.g.P a).bind fun l =>
 (Wy K l.S i).bind fun m =>
 bif (!m) then
 Y0 K k x1 x2 i (IntKind.i64.wrap (a + (1:Int))) x0 c d e f b
 else
 (Hf K x0 x1 (Qa.mk c d e f) x2 a).bind fun n =>
 (H4 K x0 (Qa.mk c d e f) x2 a).bind fun o =>
 bif (!n) then
 bif (!o) then
 Y0 K k x1 x2 i (IntKind.i64.wrap (a + (1:Int))) x0 c d e f b
 else
 none
 else
 (ck (roomy 8 (b.length + [a].length) = true)).bind fun _ =>
 (Xa x0.number a).bind fun p =>
 bif (decide (p < (0:Int))) then
 Y0 K k x1 x2 i (IntKind.i64.wrap (a + (1:Int))) x0 c d e f (b ++ [a])
 else
 none
 else
 bif ((b.length : Int) == (0:Int)) then
 some ((Qe.mk (-1:Int) []), x0)
 else
 (G7 K x0 b).bind fun j =>
 some ((Qe.mk j.1 []), j.2)
def G5 (K : Nat) (x0 : Qi) (x1 : Int) (x2 : Int) (x3 : Int) : Option (Qe × Qi) :=
 (Xa x0.a.States x1).bind fun b =>
 (E0 K x0.a.Split).bind fun c =>
 (Xa c x3).bind fun d =>
 Y0 K K x1 x2 d (0:Int) x0 b.L b.R b.Rule b.Next []
def Mo (K : Nat) (m : Int → Int → Int → Zi → (List Int) → (List Zp) → Zi → Int → Int → (List Int) → (List Vr) → (List Qa) → (List Int) → (List (List Qe)) → Option (Ql × Int)) : Nat → Int → Int → Int → Int → Zi → (List Int) → (List Zp) → Zi → Int → Int → (List Int) → (List Vr) → (List Qa) → (List Int) → (List (List Qe)) → (List Qe) → Option (Ql × Int)
 | 0 => fun _ _ _ _ _ _ _ _ _ _ _ _ _ _ _ _ => none
 | k + 1 => fun d n f i o p q r j s t u v w l c =>
 bif (decide (i < j)) then
 (G5 K (Qi.mk (Zr.mk p q) t (Ql.mk (Q9.mk r j) u v) s) d f i).bind fun b =>
 (ck (roomy 32 (c.length + [b.1].length) = true)).bind fun _ =>
 bif (b.2.e != (0:Int)) then
 none
 else
 Mo K m k d n f (IntKind.i64.wrap (i + (1:Int))) o b.2.g.First b.2.g.P b.2.a.Split.Of b.2.a.Split.Many b.2.e b.2.number b.2.a.Counts b.2.a.States w l (c ++ [b.1])
 else
 (ck (roomy 24 (l.length + [c].length) = true)).bind fun _ =>
 m d n (IntKind.i64.wrap (f + (1:Int))) o p q r j s t u v w (l ++ [c])
def G8 (K : Nat) (s : Int → Zi → (List Int) → (List Zp) → Zi → Int → Int → (List Int) → (List Vr) → (List Qa) → Option (Ql × Int)) : Nat → Int → Int → Int → Zi → (List Int) → (List Zp) → Zi → Int → Int → (List Int) → (List Vr) → (List Qa) → (List Int) → (List (List Qe)) → Option (Ql × Int)
 | 0 => fun _ _ _ _ _ _ _ _ _ _ _ _ _ _ => none
 | k + 1 => fun n t q u c d f i j l m b p v =>
 bif (decide (q < t)) then
 (Xa b n).bind fun y =>
 (G4 K (Qi.mk (Zr.mk c d) l (Ql.mk (Q9.mk f i) m b) j) y q).bind fun w =>
 (ck (roomy 8 (p.length + [w].length) = true)).bind fun _ =>
 Mo K (G8 K s k) K n t q (0:Int) u ((Qi.mk (Zr.mk c d) l (Ql.mk (Q9.mk f i) m b) j).g.First) ((Qi.mk (Zr.mk c d) l (Ql.mk (Q9.mk f i) m b) j).g.P) ((Qi.mk (Zr.mk c d) l (Ql.mk (Q9.mk f i) m b) j).a.Split.Of) ((Qi.mk (Zr.mk c d) l (Ql.mk (Q9.mk f i) m b) j).a.Split.Many) ((Qi.mk (Zr.mk c d) l (Ql.mk (Q9.mk f i) m b) j).e) ((Qi.mk (Zr.mk c d) l (Ql.mk (Q9.mk f i) m b) j).number) ((Qi.mk (Zr.mk c d) l (Ql.mk (Q9.mk f i) m b) j).a.Counts) ((Qi.mk (Zr.mk c d) l (Ql.mk (Q9.mk f i) m b) j).a.States) (p ++ [w]) v []
 else
 (Xa b n).bind fun o =>
 (Xa (List.set b (Int.toNat n) (Qa.mk o.L o.R p o.Next)) n).bind fun r =>
 s (IntKind.i64.wrap (n + (1:Int))) u c d f i j l m (List.set (List.set b (Int.toNat n) (Qa.mk o.L o.R p o.Next)) (Int.toNat n) (Qa.mk r.L r.R r.Rule v))
def G9 (K : Nat) : Nat → Int → Zi → (List Int) → (List Zp) → Zi → Int → Int → (List Int) → (List Vr) → (List Qa) → Option (Ql × Int)
 | 0 => fun _ _ _ _ _ _ _ _ _ _ => none
 | k + 1 => fun b f g i c d j l e a =>
 bif (decide (b < (a.length : Int))) then
 (Xa a b).bind fun m =>
 (Jb K (m.R.length : Int)).bind fun n =>
 G8 K (G9 K k) K b n (0:Int) f g i c d j l e a [] []
 else
 some ((Ql.mk (Q9.mk c d) e a), (0:Int))
def Mp (K : Nat) : Nat → Int → Zr → Zi → Zi → (List Int) → (List Z5) → Option (Ql × Int)
 | 0 => fun _ _ _ _ _ _ => none
 | k + 1 => fun a x0 e g b c =>
 bif (decide (a < (x0.P.length : Int))) then
 (Xa x0.P a).bind fun d =>
 (ck (roomy 32 (c.length + [d.S].length) = true)).bind fun _ =>
 bif (decide (d.Hi > (1:Int))) then
 none
 else
 (ck (roomy 8 (b.length + [(-1:Int)].length) = true)).bind fun _ =>
 Mp K k (IntKind.i64.wrap (a + (1:Int))) x0 e g (b ++ [(-1:Int)]) (c ++ [d.S])
 else
 (Rm K c).bind fun f =>
 G9 K K (0:Int) e x0.First x0.P f.Of f.Many (0:Int) b [] [(Qa.mk [] [] [] [])]
def P4 (K : Nat) (x0 : Zr) : Option (Ql × Int) :=
 (Es K x0).bind fun a =>
 bif (!a) then
 none
 else
 Mp K K (0:Int) x0 (Zi.mk fun _ => 0) (Zi.mk fun _ => 0) [] []
def Li (K : Nat) : Option Bool :=
 (Ex K (⟨#[97, 98, 124, 99, 98]⟩ : ByteArray)).bind fun b =>
 (Ii K b.1 (1:Int)).bind fun c =>
 (P9 K [c.1]).bind fun d =>
 (P4 K d.1).bind fun e =>
 (Su K e.1).bind fun a =>
 bif (a.2 == (0:Int)) then
 some ((a.1.States.length : Int) == (3:Int))
 else
 some false
def Vw (K : Nat) : Nat → (List Int) → (List Int) → Int → Option Bool
 | 0 => fun _ _ _ => none
 | k + 1 => fun x0 x1 a =>
 bif (decide (a < (x0.length : Int))) then
 (Xa x0 a).bind fun b =>
 (Xa x1 a).bind fun c =>
 bif (b != c) then
 some false
 else
 Vw K k x0 x1 (IntKind.i64.wrap (a + (1:Int)))
 else
 some true
def Jw (K : Nat) (x0 : List Int) (x1 : List Int) : Option Bool :=
 bif ((x0.length : Int) != (x1.length : Int)) then
 some false
 else
 Vw K K x0 x1 (0:Int)
def Gl (K : Nat) (x0 : Qe) (x1 : Qe) : Option Bool :=
 bif (x0.To == x1.To) then
 some ((ofBytes x0.Ops).toList == (ofBytes x1.Ops).toList)
 else
 some false
def Xo (K : Nat) : Option Bool :=
 some false
def Yz (K : Nat) (c : Int → Qa → Qa → Option Bool) : Nat → Int → Int → Qa → Qa → Option Bool
 | 0 => fun _ _ _ _ => none
 | k + 1 => fun a b x0 x1 =>
 (Xa x0.Next a).bind fun d =>
 bif (decide (b < (d.length : Int))) then
 (Xa d b).bind fun e =>
 (Xa x1.Next a).bind fun f =>
 (Xa f b).bind fun g =>
 (Gl K e g).bind fun i =>
 bif (!i) then
 some false
 else
 Yz K c k a (IntKind.i64.wrap (b + (1:Int))) x0 x1
 else
 c (IntKind.i64.wrap (a + (1:Int))) x0 x1
def Yc (K : Nat) : Nat → Int → Qa → Qa → Option Bool
 | 0 => fun _ _ _ => none
 | k + 1 => fun a x0 x1 =>
 bif (decide (a < (x0.Next.length : Int))) then
 (Xa x0.Next a).bind fun b =>
 (Xa x1.Next a).bind fun c =>
 bif ((b.length : Int) != (c.length : Int)) then
 some false
 else
 Yz K (Yc K k) K a (0:Int) x0 x1
 else
 some true
def Jk (K : Nat) (x0 : Qa) (x1 : Qa) : Option Bool :=
 (Jw K x0.L x1.L).bind fun a =>
 bif (!a) then
 Xo K
 else
 (Jw K x0.R x1.R).bind fun b =>
 bif (!b) then
 Xo K
 else
 (Jw K x0.Rule x1.Rule).bind fun c =>
 bif (!c) then
 Xo K
 else
 bif ((x0.Next.length : Int) != (x1.Next.length : Int)) then
 Xo K
 else
 Yc K K (0:Int) x0 x1
def Vq (K : Nat) : Option Bool :=
 some false
def Ys (K : Nat) : Nat → Int → Ql → Ql → Option Bool
 | 0 => fun _ _ _ => none
 | k + 1 => fun a x0 x1 =>
 bif (decide (a < (x0.States.length : Int))) then
 (Xa x0.States a).bind fun b =>
 (Xa x1.States a).bind fun c =>
 (Jk K b c).bind fun d =>
 bif (!d) then
 some false
 else
 Ys K k (IntKind.i64.wrap (a + (1:Int))) x0 x1
 else
 some true
def W5 (K : Nat) (x0 : Ql) (x1 : Ql) : Option Bool :=
 bif (!(([Zi.list 256 x0.Split.Of, [x0.Split.Many]] : List (List Int)) == [Zi.list 256 x1.Split.Of, [x1.Split.Many]])) then
 Vq K
 else
 bif ((x0.States.length : Int) != (x1.States.length : Int)) then
 Vq K
 else
 bif ((x0.Counts.length : Int) != (x1.Counts.length : Int)) then
 Vq K
 else
 Ys K K (0:Int) x0 x1
def Vx (K : Nat) : Nat → Int → Ql → Ql → Option Bool
 | 0 => fun _ _ _ => none
 | k + 1 => fun a x0 x1 =>
 bif (decide (a < (x0.Counts.length : Int))) then
 (Xa x0.Counts a).bind fun b =>
 (Xa x1.Counts a).bind fun c =>
 bif (!(Vr.same b c)) then
 some false
 else
 Vx K k (IntKind.i64.wrap (a + (1:Int))) x0 x1
 else
 some true
def Hp (K : Nat) (x0 : Ql) (x1 : Ql) : Option Bool :=
 (W5 K x0 x1).bind fun a =>
 bif (!a) then
 some false
 else
 Vx K K (0:Int) x0 x1
def Y2 (K : Nat) (a : Bool) : Option Bool :=
 some a
def Xp (K : Nat) : Option Bool :=
 some false
def Y1 (K : Nat) : Nat → Bool → (List Int) → Int → Int → Option Bool
 | 0 => fun _ _ _ _ => none
 | k + 1 => fun b c d a =>
 bif (decide (a < d)) then
 (Xa c a).bind fun e =>
 bif (e != a) then
 some false
 else
 Y1 K k b c d (IntKind.i64.wrap (a + (1:Int)))
 else
 some b
def Yn (K : Nat) : Nat → Bool → (List Bool) → Int → Int → Zi → Int → (List Vr) → (List Qa) → Option Bool
 | 0 => fun _ _ _ _ _ _ _ _ => none
 | k + 1 => fun b d e a f g c i =>
 bif (decide (a < e)) then
 (Xa d a).bind fun l =>
 bif (!l) then
 bif (decide (a > (0:Int))) then
 some false
 else
 Yn K k b d e (IntKind.i64.wrap (a + (1:Int))) f g c i
 else
 Yn K k b d e (IntKind.i64.wrap (a + (1:Int))) f g c i
 else
 bif (decide ((c.length : Int) > (0:Int))) then
 some b
 else
 (Lr K (Ql.mk (Q9.mk f g) c i)).bind fun j =>
 Y1 K K b j (j.length : Int) (0:Int)
def Xw (K : Nat) (x0 : Ql) : Option Bool :=
 (Li K).bind fun c =>
 (Mf K x0).bind fun b =>
 (Su K b).bind fun a =>
 bif (a.2 != (0:Int)) then
 bif c then
 (X3 K b).bind fun f =>
 bif (!f) then
 bif ((a.1.States.length : Int) == (0:Int)) then
 (Db K b).bind fun g =>
 bif ((g.length : Int) == (0:Int)) then
 (Lr K b).bind fun i =>
 Y2 K ((i.length : Int) == (0:Int))
 else
 Y2 K false
 else
 Y2 K false
 else
 Y2 K false
 else
 Y2 K false
 else
 (Su K a.1).bind fun d =>
 (X3 K a.1).bind fun j =>
 bif (!j) then
 Xp K
 else
 bif (d.2 != (0:Int)) then
 Xp K
 else
 (Hp K a.1 d.1).bind fun l =>
 bif (!l) then
 Xp K
 else
 bif (decide ((a.1.States.length : Int) > (b.States.length : Int))) then
 Xp K
 else
 (Db K a.1).bind fun e =>
 Yn K K c e (e.length : Int) (0:Int) a.1.Split.Of a.1.Split.Many a.1.Counts a.1.States
end Go.Rv

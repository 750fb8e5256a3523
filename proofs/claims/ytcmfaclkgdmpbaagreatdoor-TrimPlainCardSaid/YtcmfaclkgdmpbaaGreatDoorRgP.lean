/- What each function of the program computes, as plain Lean: printed by a program of ours from the translation. -/
import Derived.Test.YtcmfaclkgdmpbaaGreatDoorRvDD
namespace Go.Rv
set_option linter.unusedVariables false
structure Q5 where
 S : Zh
 Lo : Int
 Hi : Int
 Rule : Int
 Last : Bool
 Next : List Int
 deriving DecidableEq
abbrev Qx (x : Q5) : List DC := [.int .u64 x.S.a0, .int .u64 x.S.a1, .int .u64 x.S.a2, .int .u64 x.S.a3, .int .i64 x.Lo, .int .i64 x.Hi, .int .i64 x.Rule, .bool x.Last, .sl false 1 (x.Next.map (cI .i64))]
structure Qp where
 First : List Int
 P : List Q5
 deriving DecidableEq
structure Q0 where
 Op : Int
 S : Zh
 L : List Int
 Lo : Int
 Hi : Int
 Name : ByteArray
 deriving DecidableEq
abbrev Qs (x : Q0) : List DC := [.int .u8 x.Op, .int .u64 x.S.a0, .int .u64 x.S.a1, .int .u64 x.S.a2, .int .u64 x.S.a3, .sl false 1 (x.L.map (cI .i64)), .int .i64 x.Lo, .int .i64 x.Hi, .str x.Name]
structure Qe where
 s : ByteArray
 at_ : Int
 nodes : List Q0
 deep : Int
 e : Int
 where_ : Int
 deriving DecidableEq
structure Qw where
 l : List Q0
 most : Int
 out : List Q0
 long : Bool
 deriving DecidableEq
structure Qi where
 p : List Q5
 deriving DecidableEq
structure Qr where
 null : Bool
 first : List Int
 last : List Int
 deriving DecidableEq
abbrev Zq (x : Qr) : List DC := [.bool x.null, .sl false 1 (x.first.map (cI .i64)), .sl false 1 (x.last.map (cI .i64))]
structure Q4 where
 Of : Zn
 Many : Int
structure Qd where
 To : Int
 Ops : List Int
 deriving DecidableEq
abbrev Ql (x : Qd) : List DC := [.int .i64 x.To, .sl false 1 (x.Ops.map (cI .u8))]
structure Qa where
 L : List Int
 R : List Int
 Rule : List Int
 Next : List (List Qd)
 deriving DecidableEq
abbrev Qf (x : Qa) : List DC := [.sl false 1 (x.L.map (cI .i64)), .sl false 1 (x.R.map (cI .i64)), .sl false 1 (x.Rule.map (cI .i64)), .sl false 1 (x.Next.map (cL 2 Ql))]
structure Qn where
 Split : Q4
 Counts : List X2
 States : List Qa
structure Qb where
 g : Qp
 number : List Int
 a : Qn
 e : Int
structure Zc where
 Auto : Qn
structure Qc where
 Auto : Qn
structure Yb where
 l : List Int
 deriving DecidableEq
structure Yl where
 P : Int
 N : List Int
 deriving DecidableEq
structure Yg where
 Begin : Bool
 L : List Yl
 deriving DecidableEq
def Xy (K : Nat) (x0 : Qe) : Option Bool :=
 bif (decide (x0.at_ ≥ (x0.s.size : Int))) then
 some true
 else
 some (x0.e != (0:Int))
def Uc (K : Nat) (x0 : Qe) (x1 : Q0) : Option (Int × Qe) :=
 (ck (roomy 96 (x0.nodes.length + [x1].length) = true)).bind fun _ =>
 some ((IntKind.i64.wrap (((x0.nodes ++ [x1]).length : Int) - (1:Int))), (Qe.mk x0.s x0.at_ (x0.nodes ++ [x1]) x0.deep x0.e x0.where_))
def K2 (K : Nat) : Option ByteArray :=
 some (⟨#[124, 42, 43, 63, 123, 125, 40, 41, 91, 93, 46, 92, 47, 36, 94, 34]⟩ : ByteArray)
def Lv (K : Nat) : Nat → Int → ByteArray → Int → Option Bool
 | 0 => fun _ _ _ => none
 | k + 1 => fun x0 x1 a =>
 bif (decide (a < (x1.size : Int))) then
 (ck (0 ≤ a ∧ a < x1.size)).bind fun _ =>
 bif ((bt x1 a) == x0) then
 none
 else
 Lv K k x0 x1 (IntKind.i64.wrap (a + (1:Int)))
 else
 some false
def Nv (K : Nat) (x0 : Int) (x1 : ByteArray) : Option Bool :=
 Lv K K x0 x1 (0:Int)
def Gr (K : Nat) (x0 : Qe) : Option (Int × Qe) :=
 (ck (0 ≤ x0.at_ ∧ x0.at_ < x0.s.size)).bind fun _ =>
 bif ((bt x0.s x0.at_) != (92:Int)) then
 some ((bt x0.s x0.at_), (Qe.mk x0.s (IntKind.i64.wrap (x0.at_ + (1:Int))) x0.nodes x0.deep x0.e x0.where_))
 else
 none
def Vf (K : Nat) (x0 : Zh) (x1 : Int) : Option Bool :=
 (ck (0 ≤ (IntKind.u8.wrap (Int.tdiv x1 (64:Int))) ∧ (IntKind.u8.wrap (Int.tdiv x1 (64:Int))) < 4)).bind fun _ =>
 (ck (0 ≤ (Int.tmod x1 (64:Int)))).bind fun _ =>
 some ((Int.tmod (Int.fdiv (Zh.get x0 (IntKind.u8.wrap (Int.tdiv x1 (64:Int)))) (2 ^ min (Int.toNat (Int.tmod x1 (64:Int))) IntKind.u64.bits)) (2:Int)) == (1:Int))
def Gf (K : Nat) (x0 : Zh) (x1 : Int) : Option Zh :=
 (Vf K x0 x1).bind fun a =>
 bif (!a) then
 (ck (0 ≤ (IntKind.u8.wrap (Int.tdiv x1 (64:Int))) ∧ (IntKind.u8.wrap (Int.tdiv x1 (64:Int))) < 4)).bind fun _ =>
 (ck (0 ≤ (Int.tmod x1 (64:Int)))).bind fun _ =>
 some (Zh.set x0 (IntKind.u8.wrap (Int.tdiv x1 (64:Int))) (IntKind.u64.wrap ((Zh.get x0 (IntKind.u8.wrap (Int.tdiv x1 (64:Int)))) + (IntKind.u64.wrap ((1:Int) * 2 ^ min (Int.toNat (Int.tmod x1 (64:Int))) IntKind.u64.bits)))))
 else
 some x0
def Ui (K : Nat) : Nat → (List Int) → Int → Zh → Zh → Option Zh
 | 0 => fun _ _ _ _ => none
 | k + 1 => fun x0 a c b =>
 bif (decide (a < (x0.length : Int))) then
 (Xl x0 a).bind fun d =>
 (Gf K b d).bind fun e =>
 Ui K k x0 (IntKind.i64.wrap (a + (1:Int))) c e
 else
 some b
def Gk (K : Nat) (x0 : List Int) : Option Zh :=
 Ui K K x0 (0:Int) (Zh.mk 0 0 0 0) (Zh.mk 0 0 0 0)
def Hx (K : Nat) (x0 : Qe) : Option (Int × Qe) :=
 (ck (0 ≤ x0.at_ ∧ x0.at_ < x0.s.size)).bind fun _ =>
 bif ((bt x0.s x0.at_) == (40:Int)) then
 none
 else
 bif ((bt x0.s x0.at_) == (91:Int)) then
 none
 else
 bif ((bt x0.s x0.at_) == (46:Int)) then
 none
 else
 bif ((bt x0.s x0.at_) == (123:Int)) then
 none
 else
 bif ((bt x0.s x0.at_) == (47:Int)) then
 none
 else
 bif ((bt x0.s x0.at_) == (36:Int)) then
 none
 else
 bif ((bt x0.s x0.at_) != (92:Int)) then
 (K2 K).bind fun c =>
 (Nv K (bt x0.s x0.at_) c).bind fun d =>
 bif d then
 none
 else
 (Gr K x0).bind fun a =>
 bif (a.2.e != (0:Int)) then
 none
 else
 (Gk K [a.1]).bind fun f =>
 (Uc K a.2 (Q0.mk (2:Int) f [] (0:Int) (0:Int) (⟨#[]⟩ : ByteArray))).bind fun b =>
 some (b.1, b.2)
 else
 none
def Jw (K : Nat) : Nat → Int → ByteArray → Int → Int → Int → Int → (List Q0) → Option (Int × Qe)
 | 0 => fun _ _ _ _ _ _ _ => none
 | k + 1 => fun g a b c d e f =>
 (Xy K (Qe.mk a b f c d e)).bind fun i =>
 bif (!i) then
 (ck (0 ≤ (Qe.mk a b f c d e).at_ ∧ (Qe.mk a b f c d e).at_ < ((Qe.mk a b f c d e).s).size)).bind fun _ =>
 bif ((bt ((Qe.mk a b f c d e).s) ((Qe.mk a b f c d e).at_)) == (42:Int)) then
 none
 else
 bif ((bt ((Qe.mk a b f c d e).s) ((Qe.mk a b f c d e).at_)) == (43:Int)) then
 none
 else
 bif ((bt ((Qe.mk a b f c d e).s) ((Qe.mk a b f c d e).at_)) == (63:Int)) then
 none
 else
 bif ((bt ((Qe.mk a b f c d e).s) ((Qe.mk a b f c d e).at_)) == (123:Int)) then
 none
 else
 some (g, (Qe.mk a b f c d e))
 else
 some (g, (Qe.mk a b f c d e))
def Hw (K : Nat) (x0 : Qe) : Option (Int × Qe) :=
 (Hx K x0).bind fun a =>
 Jw K K a.1 a.2.s a.2.at_ a.2.deep a.2.e a.2.where_ a.2.nodes
def Um (K : Nat) (d : ByteArray) (e : Int) (f : Int) (b : Int) (g : Int) (i : List Q0) (a : List Int) : Option (Int × Qe) :=
 bif (b != (0:Int)) then
 none
 else
 bif ((a.length : Int) == (0:Int)) then
 none
 else
 bif ((a.length : Int) == (1:Int)) then
 none
 else
 (Uc K (Qe.mk d e i f b g) (Q0.mk (3:Int) (Zh.mk 0 0 0 0) a (0:Int) (0:Int) (⟨#[]⟩ : ByteArray))).bind fun c =>
 some (c.1, c.2)
def Ul (K : Nat) : Nat → ByteArray → Int → Int → Int → Int → (List Q0) → (List Int) → Option (Int × Qe)
 | 0 => fun _ _ _ _ _ _ _ => none
 | k + 1 => fun a b c d f g j =>
 (Xy K (Qe.mk a b g c d f)).bind fun l =>
 bif (!l) then
 (ck (0 ≤ (Qe.mk a b g c d f).at_ ∧ (Qe.mk a b g c d f).at_ < ((Qe.mk a b g c d f).s).size)).bind fun _ =>
 bif ((bt ((Qe.mk a b g c d f).s) ((Qe.mk a b g c d f).at_)) != (124:Int)) then
 bif ((bt ((Qe.mk a b g c d f).s) ((Qe.mk a b g c d f).at_)) != (41:Int)) then
 (Hw K (Qe.mk a b g c d f)).bind fun i =>
 (ck (roomy 8 (j.length + [i.1].length) = true)).bind fun _ =>
 Ul K k i.2.s i.2.at_ i.2.deep i.2.e i.2.where_ i.2.nodes (j ++ [i.1])
 else
 none
 else
 Um K ((Qe.mk a b g c d f).s) ((Qe.mk a b g c d f).at_) ((Qe.mk a b g c d f).deep) ((Qe.mk a b g c d f).e) ((Qe.mk a b g c d f).where_) ((Qe.mk a b g c d f).nodes) j
 else
 Um K ((Qe.mk a b g c d f).s) ((Qe.mk a b g c d f).at_) ((Qe.mk a b g c d f).deep) ((Qe.mk a b g c d f).e) ((Qe.mk a b g c d f).where_) ((Qe.mk a b g c d f).nodes) j
def Jo (K : Nat) (x0 : Qe) : Option (Int × Qe) :=
 Ul K K x0.s x0.at_ x0.deep x0.e x0.where_ x0.nodes []
def Xg (K : Nat) : Nat → ByteArray → Int → Int → Int → Int → (List Q0) → (List Int) → Option (Int × Qe)
 | 0 => fun _ _ _ _ _ _ _ => none
 | k + 1 => fun a b c d f g j =>
 (Xy K (Qe.mk a b g c d f)).bind fun m =>
 bif (!m) then
 (ck (0 ≤ (Qe.mk a b g c d f).at_ ∧ (Qe.mk a b g c d f).at_ < ((Qe.mk a b g c d f).s).size)).bind fun _ =>
 bif ((bt ((Qe.mk a b g c d f).s) ((Qe.mk a b g c d f).at_)) == (124:Int)) then
 (Jo K (Qe.mk ((Qe.mk a b g c d f).s) (IntKind.i64.wrap ((Qe.mk a b g c d f).at_ + (1:Int))) ((Qe.mk a b g c d f).nodes) ((Qe.mk a b g c d f).deep) ((Qe.mk a b g c d f).e) ((Qe.mk a b g c d f).where_))).bind fun i =>
 (ck (roomy 8 (j.length + [i.1].length) = true)).bind fun _ =>
 Xg K k i.2.s i.2.at_ i.2.deep i.2.e i.2.where_ i.2.nodes (j ++ [i.1])
 else
 none
 else
 bif ((j.length : Int) == (1:Int)) then
 none
 else
 bif ((Qe.mk a b g c d f).e != (0:Int)) then
 none
 else
 (Uc K (Qe.mk a b g c d f) (Q0.mk (4:Int) (Zh.mk 0 0 0 0) j (0:Int) (0:Int) (⟨#[]⟩ : ByteArray))).bind fun l =>
 some (l.1, l.2)
def Up (K : Nat) (x0 : Qe) : Option (Int × Qe) :=
 (Jo K x0).bind fun a =>
 Xg K K a.2.s a.2.at_ a.2.deep a.2.e a.2.where_ a.2.nodes [a.1]
def Ca (K : Nat) (x0 : ByteArray) : Option ((List Q0) × Int × Int) :=
 bif (decide ((x0.size : Int) > (1024:Int))) then
 none
 else
 (Up K (Qe.mk x0 (0:Int) [] (0:Int) (0:Int) (0:Int))).bind fun a =>
 (Xy K a.2).bind fun b =>
 bif (!b) then
 none
 else
 bif (a.2.e != (0:Int)) then
 none
 else
 bif (decide ((a.2.nodes.length : Int) > (1024:Int))) then
 none
 else
 some (a.2.nodes, (0:Int), (0:Int))
def Hv (K : Nat) (rec_raddleref04_walk : (List Q0) → Int → (List Int) → Option ((List Int) × Bool)) : Nat → (List Q0) → Int → Int → (List Int) → Option ((List Int) × Bool)
 | 0 => fun _ _ _ _ => none
 | k + 1 => fun x0 x1 a b =>
 (Xl x0 x1).bind fun d =>
 bif (decide (a < (d.L.length : Int))) then
 (Xl d.L a).bind fun c =>
 bif (decide (c < (0:Int))) then
 none
 else
 bif (decide (c ≥ x1)) then
 none
 else
 (rec_raddleref04_walk x0 c b).bind fun e =>
 bif (!e.2) then
 none
 else
 Hv K rec_raddleref04_walk k x0 x1 (IntKind.i64.wrap (a + (1:Int))) e.1
 else
 (ck (roomy 8 (b.length + [x1].length) = true)).bind fun _ =>
 some ((b ++ [x1]), true)
def Mz (K : Nat) (rec_raddleref04_walk : (List Q0) → Int → (List Int) → Option ((List Int) × Bool)) (x0 : List Q0) (x1 : Int) (x2 : List Int) : Option ((List Int) × Bool) :=
 bif (decide ((x2.length : Int) ≥ (x0.length : Int))) then
 none
 else
 Hv K rec_raddleref04_walk K x0 x1 (0:Int) x2
def Gy (K : Nat) : Nat → (List Q0) → Int → (List Int) → Option ((List Int) × Bool)
 | 0 => fun _ _ _ => none
 | n + 1 => Mz K (Gy K n)
def Ra (K : Nat) (x0 : List Q0) (x1 : Int) (x2 : List Int) : Option ((List Int) × Bool) := Gy K K x0 x1 x2
def Wp (K : Nat) (a : Bool) (b : Bool) (c : Bool) (x0 : Q0) (d : Bool) : Option Bool :=
 bif d then
 bif (!a) then
 bif (!b) then
 bif (!c) then
 some (decide ((x0.L.length : Int) ≥ (2:Int)))
 else
 none
 else
 none
 else
 none
 else
 none
def B7 (K : Nat) (x0 : Q0) : Option Bool :=
 bif (x0.Lo != (0:Int)) then
 none
 else
 bif (x0.Op == (1:Int)) then
 none
 else
 bif (x0.Op == (2:Int)) then
 bif (!(Zh.same x0.S (Zh.mk 0 0 0 0))) then
 bif (!(x0.Hi != (0:Int))) then
 bif (!(!(x0.Name.toList == (⟨#[]⟩ : ByteArray).toList))) then
 some ((x0.L.length : Int) == (0:Int))
 else
 none
 else
 none
 else
 none
 else
 bif (x0.Op == (3:Int)) then
 Wp K (!(Zh.same x0.S (Zh.mk 0 0 0 0))) (x0.Hi != (0:Int)) (!(x0.Name.toList == (⟨#[]⟩ : ByteArray).toList)) x0 (x0.Op == (3:Int))
 else
 Wp K (!(Zh.same x0.S (Zh.mk 0 0 0 0))) (x0.Hi != (0:Int)) (!(x0.Name.toList == (⟨#[]⟩ : ByteArray).toList)) x0 (x0.Op == (4:Int))
def Wq (K : Nat) : Nat → Int → (List Int) → Option Bool
 | 0 => fun _ _ => none
 | k + 1 => fun a b =>
 bif (decide (a < (b.length : Int))) then
 (Xl b a).bind fun c =>
 bif (c != a) then
 none
 else
 Wq K k (IntKind.i64.wrap (a + (1:Int))) b
 else
 some true
def Ws (K : Nat) : Nat → (List Q0) → Int → Option Bool
 | 0 => fun _ _ => none
 | k + 1 => fun x0 a =>
 bif (decide (a < (x0.length : Int))) then
 (Xl x0 a).bind fun c =>
 (B7 K c).bind fun d =>
 bif (!d) then
 none
 else
 Ws K k x0 (IntKind.i64.wrap (a + (1:Int)))
 else
 (Ra K x0 (IntKind.i64.wrap ((x0.length : Int) - (1:Int))) ([] : List Int)).bind fun b =>
 bif (!b.2) then
 none
 else
 bif ((b.1.length : Int) != (x0.length : Int)) then
 none
 else
 Wq K K (0:Int) b.1
def Lw (K : Nat) (x0 : List Q0) : Option Bool :=
 bif (decide ((x0.length : Int) < (1:Int))) then
 none
 else
 bif (decide ((x0.length : Int) > (1024:Int))) then
 none
 else
 Ws K K x0 (0:Int)
def Wo (K : Nat) : Nat → (List Q0) → Int → Option Bool
 | 0 => fun _ _ => none
 | k + 1 => fun x0 a =>
 bif (decide (a < (x0.length : Int))) then
 (Xl x0 a).bind fun b =>
 bif (b.Op == (6:Int)) then
 some false
 else
 Wo K k x0 (IntKind.i64.wrap (a + (1:Int)))
 else
 (Lw K x0).bind fun c =>
 some c
def Lt (K : Nat) (x0 : List Q0) : Option Bool :=
 Wo K K x0 (0:Int)
def Hu (K : Nat) (x0 : Qw) (x1 : Q0) : Option (Int × Qw) :=
 bif (decide ((x0.out.length : Int) ≥ (1024:Int))) then
 none
 else
 (ck (roomy 96 (x0.out.length + [x1].length) = true)).bind fun _ =>
 some ((IntKind.i64.wrap (((x0.out ++ [x1]).length : Int) - (1:Int))), (Qw.mk x0.l x0.most (x0.out ++ [x1]) x0.long))
def Vs (K : Nat) (rec_raddleref08_planner_plan : Qw → Int → Option (Int × Qw)) : Nat → Int → (List Q0) → Int → Bool → (List Q0) → Int → Zh → (List Int) → Int → Int → ByteArray → (List Int) → Option (Int × Qw)
 | 0 => fun _ _ _ _ _ _ _ _ _ _ _ _ => none
 | k + 1 => fun b e f g i j m c n o p d =>
 bif (decide (b < (c.length : Int))) then
 (Xl c b).bind fun r =>
 (rec_raddleref08_planner_plan (Qw.mk e f i g) r).bind fun a =>
 (ck (roomy 8 (d.length + [a.1].length) = true)).bind fun _ =>
 Vs K rec_raddleref08_planner_plan k (IntKind.i64.wrap (b + (1:Int))) a.2.l a.2.most a.2.long a.2.out j m c n o p (d ++ [a.1])
 else
 (Hu K (Qw.mk e f i g) (Q0.mk j m d n o p)).bind fun q =>
 some (q.1, q.2)
def Ju (K : Nat) (rec_raddleref08_planner_plan : Qw → Int → Option (Int × Qw)) (x0 : Qw) (x1 : Int) : Option (Int × Qw) :=
 (Xl x0.l x1).bind fun a =>
 bif x0.long then
 none
 else
 bif (a.Op == (5:Int)) then
 none
 else
 Vs K rec_raddleref08_planner_plan K (0:Int) x0.l x0.most x0.long x0.out a.Op a.S a.L a.Lo a.Hi a.Name []
def V7 (K : Nat) : Nat → Qw → Int → Option (Int × Qw)
 | 0 => fun _ _ => none
 | n + 1 => Ju K (V7 K n)
def Me (K : Nat) (x0 : Qw) (x1 : Int) : Option (Int × Qw) := V7 K K x0 x1
def Dm (K : Nat) (x0 : List Q0) (x1 : Int) : Option ((List Q0) × Int) :=
 (Lt K x0).bind fun b =>
 bif (!b) then
 none
 else
 bif (decide (x1 < (1:Int))) then
 none
 else
 bif (decide (x1 > (4096:Int))) then
 none
 else
 (Me K (Qw.mk x0 x1 [] false) (IntKind.i64.wrap ((x0.length : Int) - (1:Int)))).bind fun a =>
 bif a.2.long then
 none
 else
 (Lw K a.2.out).bind fun c =>
 bif (!c) then
 none
 else
 some (a.2.out, (0:Int))
def Ht (K : Nat) (e : (List Int) → (List Int) → Int → Int → (List Int) → Option (List Int)) (x0 : List Int) (x1 : List Int) (b : Int) (a : Int) (c : List Int) : Option (List Int) :=
 bif (a == (x1.length : Int)) then
 none
 else
 bif (decide (b < (x0.length : Int))) then
 (Xl x0 b).bind fun d =>
 (Xl x1 a).bind fun g =>
 bif (decide (d < g)) then
 (ck (roomy 8 (c.length + [d].length) = true)).bind fun _ =>
 e x0 x1 (IntKind.i64.wrap (b + (1:Int))) a (c ++ [d])
 else
 none
 else
 (Xl x1 a).bind fun f =>
 (ck (roomy 8 (c.length + [f].length) = true)).bind fun _ =>
 e x0 x1 b (IntKind.i64.wrap (a + (1:Int))) (c ++ [f])
def Vh (K : Nat) : Nat → (List Int) → (List Int) → Int → Int → (List Int) → Option (List Int)
 | 0 => fun _ _ _ _ _ => none
 | k + 1 => fun x0 x1 a b c =>
 bif (decide (a < (x0.length : Int))) then
 Ht K (Vh K k) x0 x1 a b c
 else
 bif (decide (b < (x1.length : Int))) then
 Ht K (Vh K k) x0 x1 a b c
 else
 some c
def Uz (K : Nat) (x0 : List Int) (x1 : List Int) : Option (List Int) :=
 Vh K K x0 x1 (0:Int) (0:Int) []
def Vr (K : Nat) : Nat → (List Int) → (List Int) → Int → (List Q5) → Option Qi
 | 0 => fun _ _ _ _ => none
 | k + 1 => fun x1 x2 b c =>
 bif (decide (b < (x1.length : Int))) then
 (Xl x1 b).bind fun d =>
 (Xl c d).bind fun a =>
 (Uz K a.Next x2).bind fun e =>
 Vr K k x1 x2 (IntKind.i64.wrap (b + (1:Int))) (List.set c (Int.toNat d) (Q5.mk a.S a.Lo a.Hi a.Rule a.Last e))
 else
 some (Qi.mk c)
def W2 (K : Nat) (x0 : Qi) (x1 : List Int) (x2 : List Int) : Option Qi :=
 Vr K K x1 x2 (0:Int) x0.p
def V6 (K : Nat) (a : (List Qr) → Int → (List Q5) → Bool → (List Int) → (List Int) → Option (Qr × Qi)) (x1 : List Qr) (b : Int) (c : List Q5) (g : Bool) (d : List Int) (i : List Int) (e : Bool) (j : List Int) (f : List Int) : Option (Qr × Qi) :=
 bif e then
 none
 else
 bif g then
 a x1 (IntKind.i64.wrap (b + (1:Int))) c e d f
 else
 a x1 (IntKind.i64.wrap (b + (1:Int))) c false d f
def Yn (K : Nat) : Nat → (List Qr) → Int → (List Q5) → Bool → (List Int) → (List Int) → Option (Qr × Qi)
 | 0 => fun _ _ _ _ _ _ => none
 | k + 1 => fun x1 b f c e d =>
 bif (decide (b < (x1.length : Int))) then
 (Xl x1 b).bind fun a =>
 (W2 K (Qi.mk f) d a.first).bind fun g =>
 bif c then
 (Uz K e a.first).bind fun i =>
 V6 K (Yn K k) x1 b g.p c i d a.null a.first a.last
 else
 V6 K (Yn K k) x1 b g.p c e d a.null a.first a.last
 else
 some ((Qr.mk c e d), (Qi.mk f))
def Hs (K : Nat) (x0 : Qi) (x1 : List Qr) : Option (Qr × Qi) :=
 Yn K K x1 (0:Int) x0.p true [] []
def Hr (K : Nat) (x0 : Qi) (x1 : Q5) : Option (Qr × Qi) :=
 (ck (roomy 88 (x0.p.length + [x1].length) = true)).bind fun _ =>
 some ((Qr.mk false [(IntKind.i64.wrap (((x0.p ++ [x1]).length : Int) - (1:Int)))] [(IntKind.i64.wrap (((x0.p ++ [x1]).length : Int) - (1:Int)))]), (Qi.mk (x0.p ++ [x1])))
def Vp (K : Nat) (rec_raddleref09_builder_node : Qi → (List Q0) → Int → Int → Option (Qr × Qi)) : Nat → Int → (List Q5) → (List Int) → (List Int) → Int → Zh → (List Int) → Int → Int → ByteArray → (List Qr) → Bool → (List Int) → (List Int) → Option (Qr × Qi)
 | 0 => fun _ _ _ _ _ _ _ _ _ _ _ _ _ _ => none
 | k + 1 => fun a d j l e m n o p q b f g i =>
 bif (decide (a < (b.length : Int))) then
 bif f then
 none
 else
 (Xl b a).bind fun c =>
 (Uz K g c.first).bind fun r =>
 (Uz K i c.last).bind fun s =>
 Vp K rec_raddleref09_builder_node k (IntKind.i64.wrap (a + (1:Int))) d j l e m n o p q b c.null r s
 else
 bif (e == (5:Int)) then
 none
 else
 some ((Qr.mk f g i), (Qi.mk d))
def Vq (K : Nat) (rec_raddleref09_builder_node : Qi → (List Q0) → Int → Int → Option (Qr × Qi)) : Nat → (List Q0) → Int → Int → (List Q5) → Int → Zh → (List Int) → Int → Int → ByteArray → (List Qr) → Option (Qr × Qi)
 | 0 => fun _ _ _ _ _ _ _ _ _ _ _ => none
 | k + 1 => fun x1 x3 d e a g b i j l c =>
 bif (decide (d < (b.length : Int))) then
 (Xl b d).bind fun n =>
 (rec_raddleref09_builder_node (Qi.mk e) x1 n x3).bind fun f =>
 (ck (roomy 56 (c.length + [f.1].length) = true)).bind fun _ =>
 Vq K rec_raddleref09_builder_node k x1 x3 (IntKind.i64.wrap (d + (1:Int))) f.2.p a g b i j l (c ++ [f.1])
 else
 bif (a == (3:Int)) then
 (Hs K (Qi.mk e) c).bind fun m =>
 some (m.1, m.2)
 else
 Vp K rec_raddleref09_builder_node K (0:Int) e [] [] a g b i j l c (a == (5:Int)) [] []
def Jt (K : Nat) (rec_raddleref09_builder_node : Qi → (List Q0) → Int → Int → Option (Qr × Qi)) (x0 : Qi) (x1 : List Q0) (x2 : Int) (x3 : Int) : Option (Qr × Qi) :=
 (Xl x1 x2).bind fun a =>
 bif (a.Op == (1:Int)) then
 none
 else
 bif (a.Op == (2:Int)) then
 (Hr K x0 (Q5.mk a.S (1:Int) (1:Int) x3 false [])).bind fun b =>
 some (b.1, b.2)
 else
 bif (a.Op == (5:Int)) then
 none
 else
 Vq K rec_raddleref09_builder_node K x1 x3 (0:Int) x0.p a.Op a.S a.L a.Lo a.Hi a.Name []
def V4 (K : Nat) : Nat → Qi → (List Q0) → Int → Int → Option (Qr × Qi)
 | 0 => fun _ _ _ _ => none
 | n + 1 => Jt K (V4 K n)
def Md (K : Nat) (x0 : Qi) (x1 : List Q0) (x2 : Int) (x3 : Int) : Option (Qr × Qi) := V4 K K x0 x1 x2 x3
def Wn (K : Nat) : Nat → (List Q0) → Int → Option Bool
 | 0 => fun _ _ => none
 | k + 1 => fun x0 a =>
 bif (decide (a < (x0.length : Int))) then
 (Xl x0 a).bind fun b =>
 bif (b.Op == (5:Int)) then
 none
 else
 Wn K k x0 (IntKind.i64.wrap (a + (1:Int)))
 else
 some true
def B6 (K : Nat) (x0 : List Q0) : Option Bool :=
 (Lt K x0).bind fun a =>
 bif (!a) then
 none
 else
 Wn K K x0 (0:Int)
def Lr (K : Nat) (e : (List (List Q0)) → Int → (List Int) → (List Q5) → (List Q5) → (List Int) → (List Q5) → Option (Qp × Int)) : Nat → (List (List Q0)) → Int → Int → (List Int) → (List Q5) → (List Q5) → (List Int) → (List Q5) → Bool → (List Int) → (List Int) → Option (Qp × Int)
 | 0 => fun _ _ _ _ _ _ _ _ _ _ _ => none
 | k + 1 => fun x0 f c g i b j l n o d =>
 bif (decide (c < (d.length : Int))) then
 (Xl d c).bind fun m =>
 (Xl b m).bind fun a =>
 Lr K e k x0 f (IntKind.i64.wrap (c + (1:Int))) g i (List.set b (Int.toNat m) (Q5.mk a.S a.Lo a.Hi a.Rule true a.Next)) j l n o d
 else
 bif (decide ((b.length : Int) > (512:Int))) then
 none
 else
 e x0 (IntKind.i64.wrap (f + (1:Int))) g i b j l
def W4 (K : Nat) : Nat → (List (List Q0)) → Int → (List Int) → (List Q5) → (List Q5) → (List Int) → (List Q5) → Option (Qp × Int)
 | 0 => fun _ _ _ _ _ _ _ => none
 | k + 1 => fun x0 b f g c d i =>
 bif (decide (b < (x0.length : Int))) then
 (Xl x0 b).bind fun e =>
 (Md K (Qi.mk c) e (IntKind.i64.wrap ((e.length : Int) - (1:Int))) b).bind fun a =>
 (Uz K d a.1.first).bind fun j =>
 Lr K (W4 K k) K x0 b (0:Int) f g a.2.p j i a.1.null a.1.first a.1.last
 else
 some ((Qp.mk d c), (0:Int))
def Ls (K : Nat) : Nat → (List (List Q0)) → Int → Option (Qp × Int)
 | 0 => fun _ _ => none
 | k + 1 => fun x0 a =>
 bif (decide (a < (x0.length : Int))) then
 (Xl x0 a).bind fun b =>
 (B6 K b).bind fun c =>
 bif (!c) then
 none
 else
 Ls K k x0 (IntKind.i64.wrap (a + (1:Int)))
 else
 W4 K K x0 (0:Int) [] [] [] [] []
def No (K : Nat) (x0 : List (List Q0)) : Option (Qp × Int) :=
 bif (decide ((x0.length : Int) > (512:Int))) then
 none
 else
 Ls K K x0 (0:Int)
def Vy (K : Nat) : Option Bool :=
 some false
def X5 (K : Nat) : Nat → (List Int) → Int → Int → Option Bool
 | 0 => fun _ _ _ => none
 | k + 1 => fun x0 x1 a =>
 bif (decide (a < (x0.length : Int))) then
 (Xl x0 a).bind fun b =>
 bif (decide (b < (0:Int))) then
 Vy K
 else
 bif (decide (b ≥ x1)) then
 Vy K
 else
 bif (decide (a > (0:Int))) then
 (Xl x0 (IntKind.i64.wrap (a - (1:Int)))).bind fun c =>
 bif (decide (c ≥ b)) then
 Vy K
 else
 X5 K k x0 x1 (IntKind.i64.wrap (a + (1:Int)))
 else
 X5 K k x0 x1 (IntKind.i64.wrap (a + (1:Int)))
 else
 some true
def Jd (K : Nat) (x0 : List Int) (x1 : Int) : Option Bool :=
 X5 K K x0 x1 (0:Int)
def U4 (K : Nat) : Option Bool :=
 some false
def Yj (K : Nat) : Option Bool :=
 some false
def X6 (K : Nat) : Nat → Int → Qp → Option Bool
 | 0 => fun _ _ => none
 | k + 1 => fun b x0 =>
 bif (decide (b < (x0.P.length : Int))) then
 (Xl x0.P b).bind fun a =>
 bif (Zh.same a.S (Zh.mk 0 0 0 0)) then
 Yj K
 else
 bif (decide (a.Lo < (1:Int))) then
 Yj K
 else
 bif (decide (a.Lo > a.Hi)) then
 Yj K
 else
 bif (decide (a.Hi > (4096:Int))) then
 Yj K
 else
 bif (decide (a.Rule < (0:Int))) then
 Yj K
 else
 bif (decide (a.Rule ≥ (512:Int))) then
 Yj K
 else
 (Jd K a.Next (x0.P.length : Int)).bind fun c =>
 bif (!c) then
 Yj K
 else
 X6 K k (IntKind.i64.wrap (b + (1:Int))) x0
 else
 some true
def Uh (K : Nat) (x0 : Qp) : Option Bool :=
 bif (decide ((x0.P.length : Int) > (512:Int))) then
 U4 K
 else
 (Jd K x0.First (x0.P.length : Int)).bind fun a =>
 bif (!a) then
 U4 K
 else
 X6 K K (0:Int) x0
def X7 (K : Nat) : Nat → (List Zh) → Int → Int → Int → Option Bool
 | 0 => fun _ _ _ _ => none
 | k + 1 => fun x0 x1 x2 a =>
 bif (decide (a < (x0.length : Int))) then
 (Xl x0 a).bind fun b =>
 (Vf K b x1).bind fun c =>
 (Vf K b x2).bind fun d =>
 bif (!(c == d)) then
 some false
 else
 X7 K k x0 x1 x2 (IntKind.i64.wrap (a + (1:Int)))
 else
 some true
def Lx (K : Nat) (x0 : List Zh) (x1 : Int) (x2 : Int) : Option Bool :=
 X7 K K x0 x1 x2 (0:Int)
def Vl (K : Nat) (b : (List Zh) → Int → Zn → Zn → (List Int) → Option Q4) (x0 : List Zh) (a : Int) (c : Int) (d : Zn) (e : Zn) (f : List Int) : Option Q4 :=
 (ck (0 ≤ a ∧ a < 256)).bind fun _ =>
 b x0 (IntKind.i64.wrap (a + (1:Int))) d (Zn.set e a (IntKind.u8.wrap c)) f
def Yz (K : Nat) (d : (List Zh) → Int → Zn → Zn → (List Int) → Option Q4) : Nat → (List Zh) → Int → Int → Zn → Zn → (List Int) → Option Q4
 | 0 => fun _ _ _ _ _ _ => none
 | k + 1 => fun x0 b c e f a =>
 bif (decide (c < (a.length : Int))) then
 (Xl a c).bind fun g =>
 (Lx K x0 g (IntKind.u8.wrap b)).bind fun i =>
 bif (!i) then
 Yz K d k x0 b (IntKind.i64.wrap (c + (1:Int))) e f a
 else
 bif (c == (a.length : Int)) then
 (ck (roomy 1 (a.length + [(IntKind.u8.wrap b)].length) = true)).bind fun _ =>
 Vl K d x0 b c e f (a ++ [(IntKind.u8.wrap b)])
 else
 Vl K d x0 b c e f a
 else
 bif (c == (a.length : Int)) then
 (ck (roomy 1 (a.length + [(IntKind.u8.wrap b)].length) = true)).bind fun _ =>
 Vl K d x0 b c e f (a ++ [(IntKind.u8.wrap b)])
 else
 Vl K d x0 b c e f a
def Y0 (K : Nat) : Nat → (List Zh) → Int → Zn → Zn → (List Int) → Option Q4
 | 0 => fun _ _ _ _ _ => none
 | k + 1 => fun x0 a d b c =>
 bif (decide (a < (256:Int))) then
 Yz K (Y0 K k) K x0 a (0:Int) d b c
 else
 some (Q4.mk b (c.length : Int))
def Kq (K : Nat) (x0 : List Zh) : Option Q4 :=
 Y0 K K x0 (0:Int) (Zn.mk fun _ => 0) (Zn.mk fun _ => 0) []
def U3 (K : Nat) : Option Int :=
 some (0:Int)
def U2 (K : Nat) : Nat → Int → Int → Int → Option Int
 | 0 => fun _ _ _ => none
 | k + 1 => fun x0 a b =>
 bif (decide (b < x0)) then
 U2 K k x0 (IntKind.i64.wrap (a * (3:Int))) (IntKind.i64.wrap (b + (1:Int)))
 else
 some a
def Jc (K : Nat) (x0 : Int) : Option Int :=
 bif (decide (x0 < (0:Int))) then
 U3 K
 else
 bif (decide (x0 > (3:Int))) then
 U3 K
 else
 U2 K K x0 (1:Int) (0:Int)
def Ye (K : Nat) : Nat → Int → Int → Int → Qb → Qa → Option Int
 | 0 => fun _ _ _ _ _ => none
 | k + 1 => fun b x3 a x0 x1 =>
 bif (decide (a < (x1.R.length : Int))) then
 (Xl x1.R a).bind fun c =>
 (Xl x0.number x3).bind fun d =>
 bif (c == d) then
 some (Int.tmod b (3:Int))
 else
 Ye K k (IntKind.i64.wrap (Int.tdiv b (3:Int))) x3 (IntKind.i64.wrap (a + (1:Int))) x0 x1
 else
 some (-1:Int)
def Ve (K : Nat) (x0 : Qb) (x1 : Qa) (x2 : Int) (x3 : Int) : Option Int :=
 Ye K K x2 x3 (0:Int) x0 x1
def Xm (K : Nat) (x0 : Qb) (x1 : Qa) (x2 : Int) (x3 : Int) : Option Bool :=
 (Ve K x0 x1 x2 x3).bind fun a =>
 some (a != (0:Int))
def Xr (K : Nat) (a : Int → Int → Int → Qb → Qa → Option Int) (x2 : Int) (b : Int) (x1 : Qa) (d : Int) (e : Int) (f : Int) (g : Bool) (i : Int) (j : Bool) (l : Bool) (m : Bool) (x0 : Qb) (n : Zh) (o : Int) (p : Int) (c : Int) (q : Bool) (r : List Int) : Option Int :=
 a x2 c (IntKind.i64.wrap (b + (1:Int))) x0 x1
def Zf (K : Nat) : Nat → Int → Int → Int → Qb → Qa → Option Int
 | 0 => fun _ _ _ _ _ => none
 | k + 1 => fun x2 b c x0 x1 =>
 bif (decide (c < (x1.L.length : Int))) then
 (Xl x1.L c).bind fun d =>
 (Xl x0.g.P d).bind fun a =>
 bif a.Last then
 (Xm K x0 x1 x2 d).bind fun e =>
 bif e then
 bif (decide (b < (0:Int))) then
 Xr K (Zf K k) x2 c x1 c d d e b (decide (b < (0:Int))) (decide (b < (0:Int))) true x0 a.S a.Lo a.Hi a.Rule a.Last a.Next
 else
 bif (decide (a.Rule < b)) then
 Xr K (Zf K k) x2 c x1 c d d e b (decide (b < (0:Int))) (decide (b < (0:Int))) (decide (a.Rule < b)) x0 a.S a.Lo a.Hi a.Rule a.Last a.Next
 else
 Zf K k x2 b (IntKind.i64.wrap (c + (1:Int))) x0 x1
 else
 Zf K k x2 b (IntKind.i64.wrap (c + (1:Int))) x0 x1
 else
 Zf K k x2 b (IntKind.i64.wrap (c + (1:Int))) x0 x1
 else
 some b
def Ux (K : Nat) (x0 : Qb) (x1 : Qa) (x2 : Int) : Option Int :=
 Zf K K x2 (-1:Int) (0:Int) x0 x1
def Va (K : Nat) : Nat → Int → Int → Q4 → Zh → (List Int) → Option Zh
 | 0 => fun _ _ _ _ _ => none
 | k + 1 => fun x1 a x0 c b =>
 bif (decide (a < (256:Int))) then
 (ck (0 ≤ a ∧ a < 256)).bind fun _ =>
 bif ((IntKind.i64.wrap (Zn.get x0.Of a)) == x1) then
 (ck (roomy 1 (b.length + [(IntKind.u8.wrap a)].length) = true)).bind fun _ =>
 Va K k x1 (IntKind.i64.wrap (a + (1:Int))) x0 c (b ++ [(IntKind.u8.wrap a)])
 else
 Va K k x1 (IntKind.i64.wrap (a + (1:Int))) x0 c b
 else
 (Gk K b).bind fun d =>
 some d
def Ld (K : Nat) (x0 : Q4) (x1 : Int) : Option Zh :=
 Va K K x1 (0:Int) x0 (Zh.mk 0 0 0 0) []
def Xs (K : Nat) : Nat → Int → Zh → (List Int) → Option (List Int)
 | 0 => fun _ _ _ => none
 | k + 1 => fun a x0 b =>
 bif (decide (a < (256:Int))) then
 (Vf K x0 (IntKind.u8.wrap a)).bind fun c =>
 bif c then
 (ck (roomy 1 (b.length + [(IntKind.u8.wrap a)].length) = true)).bind fun _ =>
 Xs K k (IntKind.i64.wrap (a + (1:Int))) x0 (b ++ [(IntKind.u8.wrap a)])
 else
 Xs K k (IntKind.i64.wrap (a + (1:Int))) x0 b
 else
 some b
def Ku (K : Nat) (x0 : Zh) : Option (List Int) :=
 Xs K K (0:Int) x0 []
def Wt (K : Nat) : Option (List Int) :=
 some []
def Xa (K : Nat) : Nat → Int → Q4 → (List Int) → Option (List Int)
 | 0 => fun _ _ _ => none
 | k + 1 => fun b x0 a =>
 bif (decide (b < x0.Many)) then
 (Ld K x0 b).bind fun e =>
 (Ku K e).bind fun c =>
 bif ((c.length : Int) == (0:Int)) then
 (ck (roomy 1 (a.length + [(0:Int)].length) = true)).bind fun _ =>
 Xa K k (IntKind.i64.wrap (b + (1:Int))) x0 (a ++ [(0:Int)])
 else
 (Xl c (0:Int)).bind fun d =>
 (ck (roomy 1 (a.length + [d].length) = true)).bind fun _ =>
 Xa K k (IntKind.i64.wrap (b + (1:Int))) x0 (a ++ [d])
 else
 some a
def Je (K : Nat) (x0 : Q4) : Option (List Int) :=
 bif (decide (x0.Many < (1:Int))) then
 Wt K
 else
 bif (decide (x0.Many > (256:Int))) then
 Wt K
 else
 Xa K K (0:Int) x0 []
def Ug (K : Nat) : Nat → (List Int) → Int → Int → Option Bool
 | 0 => fun _ _ _ => none
 | k + 1 => fun x0 x1 a =>
 bif (decide (a < (x0.length : Int))) then
 (Xl x0 a).bind fun b =>
 bif (b == x1) then
 some true
 else
 Ug K k x0 x1 (IntKind.i64.wrap (a + (1:Int)))
 else
 some false
def Wd (K : Nat) (x0 : List Int) (x1 : Int) : Option Bool :=
 Ug K K x0 x1 (0:Int)
def Z2 (K : Nat) : Nat → Int → Int → Int → Qb → Qa → Option Bool
 | 0 => fun _ _ _ _ _ => none
 | k + 1 => fun x3 x4 a x0 x2 =>
 bif (decide (a < (x2.L.length : Int))) then
 (Xl x2.L a).bind fun b =>
 (Xm K x0 x2 x3 b).bind fun c =>
 bif c then
 (Xl x0.g.P b).bind fun d =>
 (Wd K d.Next x4).bind fun e =>
 bif e then
 some true
 else
 Z2 K k x3 x4 (IntKind.i64.wrap (a + (1:Int))) x0 x2
 else
 Z2 K k x3 x4 (IntKind.i64.wrap (a + (1:Int))) x0 x2
 else
 some false
def X0 (K : Nat) (x0 : Qb) (x1 : Int) (x2 : Qa) (x3 : Int) (x4 : Int) : Option Bool :=
 bif (x1 == (0:Int)) then
 (Wd K x0.g.First x4).bind fun a =>
 some a
 else
 Z2 K K x3 x4 (0:Int) x0 x2
def Vd (K : Nat) (x0 : Qb) (x1 : Qa) (x2 : Int) (x3 : Int) : Option Bool :=
 (Ve K x0 x1 x2 x3).bind fun a =>
 (Wd K x1.L x3).bind fun b =>
 bif b then
 bif (a == (0:Int)) then
 some true
 else
 some (a == (2:Int))
 else
 some false
def Z7 (K : Nat) (c : (List Int) → Int → Qb → Option (Int × Qb)) : Nat → (List Int) → Int → (List Int) → Bool → Int → Qb → Option (Int × Qb)
 | 0 => fun _ _ _ _ _ _ => none
 | k + 1 => fun x1 b d e a x0 =>
 bif (decide (a < (x1.length : Int))) then
 bif e then
 (Xl d a).bind fun f =>
 (Xl x1 a).bind fun g =>
 Z7 K c k x1 b d (f == g) (IntKind.i64.wrap (a + (1:Int))) x0
 else
 Z7 K c k x1 b d false (IntKind.i64.wrap (a + (1:Int))) x0
 else
 bif e then
 some (b, x0)
 else
 c x1 (IntKind.i64.wrap (b + (1:Int))) x0
def Zz (K : Nat) : Nat → (List Int) → Int → Qb → (List Int) → Option (Int × Qb)
 | 0 => fun _ _ _ _ => none
 | k + 1 => fun x1 c x0 b =>
 bif (decide (c < (x1.length : Int))) then
 (Xl x1 c).bind fun f =>
 (Xl x0.number f).bind fun d =>
 bif (decide (d ≥ (0:Int))) then
 (ck (roomy 8 (b.length + [d].length) = true)).bind fun _ =>
 Zz K k x1 (IntKind.i64.wrap (c + (1:Int))) x0 (b ++ [d])
 else
 Zz K k x1 (IntKind.i64.wrap (c + (1:Int))) x0 b
 else
 bif (decide ((b.length : Int) > (3:Int))) then
 some ((0:Int), (Qb.mk x0.g x0.number x0.a (110:Int)))
 else
 bif (decide ((x0.a.States.length : Int) ≥ (256:Int))) then
 some ((0:Int), (Qb.mk x0.g x0.number x0.a (3:Int)))
 else
 (ck (roomy 96 (x0.a.States.length + [(Qa.mk x1 b [] [])].length) = true)).bind fun _ =>
 some ((IntKind.i64.wrap (((x0.a.States ++ [(Qa.mk x1 b [] [])]).length : Int) - (1:Int))), (Qb.mk x0.g x0.number (Qn.mk x0.a.Split x0.a.Counts (x0.a.States ++ [(Qa.mk x1 b [] [])])) x0.e))
def Q8 (K : Nat) : Nat → (List Int) → Int → Qb → Option (Int × Qb)
 | 0 => fun _ _ _ => none
 | k + 1 => fun x1 b x0 =>
 bif (decide (b < (x0.a.States.length : Int))) then
 (Xl x0.a.States b).bind fun c =>
 bif ((c.L.length : Int) == (x1.length : Int)) then
 Z7 K (Q8 K k) K x1 b c.L true (0:Int) x0
 else
 Q8 K k x1 (IntKind.i64.wrap (b + (1:Int))) x0
 else
 Zz K K x1 (0:Int) x0 []
def Yh (K : Nat) (x0 : Qb) (x1 : List Int) : Option (Int × Qb) :=
 Q8 K K x1 (1:Int) x0
def Yw (K : Nat) (b : Int → Int → Int → Int → Qb → (List Int) → (List Int) → (List Int) → (List (List Qd)) → (List Int) → (List Int) → Option (Qd × Qb)) (x1 : Int) (x2 : Int) (c : Int) (d : Int) (l : Bool) (x0 : Qb) (e : List Int) (f : List Int) (g : List Int) (i : List (List Qd)) (j : List Int) (a : List Int) : Option (Qd × Qb) :=
 bif l then
 (ck (roomy 1 (a.length + [(1:Int)].length) = true)).bind fun _ =>
 b x1 x2 c (IntKind.i64.wrap (d + (1:Int))) x0 e f g i j (a ++ [(1:Int)])
 else
 (ck (roomy 1 (a.length + [(3:Int)].length) = true)).bind fun _ =>
 b x1 x2 c (IntKind.i64.wrap (d + (1:Int))) x0 e f g i j (a ++ [(3:Int)])
def Yx (K : Nat) (d : Int → Int → Int → Int → Qb → (List Int) → (List Int) → (List Int) → (List (List Qd)) → (List Int) → (List Int) → Option (Qd × Qb)) (x1 : Int) (x2 : Int) (e : Int) (a : Int) (m : Bool) (l : Bool) (x0 : Qb) (f : List Int) (g : List Int) (i : List Int) (j : List (List Qd)) (b : List Int) (c : List Int) : Option (Qd × Qb) :=
 (ck (roomy 8 (b.length + [a].length) = true)).bind fun _ =>
 (Xl x0.number a).bind fun n =>
 bif (decide (n < (0:Int))) then
 d x1 x2 e (IntKind.i64.wrap (a + (1:Int))) x0 f g i j (b ++ [a]) c
 else
 bif m then
 bif l then
 (ck (roomy 1 (c.length + [(2:Int)].length) = true)).bind fun _ =>
 d x1 x2 e (IntKind.i64.wrap (a + (1:Int))) x0 f g i j (b ++ [a]) (c ++ [(2:Int)])
 else
 Yw K d x1 x2 e a l x0 f g i j (b ++ [a]) c
 else
 Yw K d x1 x2 e a l x0 f g i j (b ++ [a]) c
def Zb (K : Nat) : Nat → Int → Int → Int → Int → Qb → (List Int) → (List Int) → (List Int) → (List (List Qd)) → (List Int) → (List Int) → Option (Qd × Qb)
 | 0 => fun _ _ _ _ _ _ _ _ _ _ _ => none
 | k + 1 => fun x1 x2 i a x0 b c d e f j =>
 bif (decide (a < (x0.g.P.length : Int))) then
 (Xl x0.g.P a).bind fun o =>
 (Vf K o.S i).bind fun p =>
 bif (!p) then
 Zb K k x1 x2 i (IntKind.i64.wrap (a + (1:Int))) x0 b c d e f j
 else
 (X0 K x0 x1 (Qa.mk b c d e) x2 a).bind fun l =>
 (Vd K x0 (Qa.mk b c d e) x2 a).bind fun m =>
 bif (!l) then
 bif (!m) then
 Zb K k x1 x2 i (IntKind.i64.wrap (a + (1:Int))) x0 b c d e f j
 else
 Yx K (Zb K k) x1 x2 i a l m x0 b c d e f j
 else
 Yx K (Zb K k) x1 x2 i a l m x0 b c d e f j
 else
 bif ((f.length : Int) == (0:Int)) then
 some ((Qd.mk (-1:Int) []), x0)
 else
 (Yh K x0 f).bind fun n =>
 some ((Qd.mk n.1 j), n.2)
def Xn (K : Nat) (x0 : Qb) (x1 : Int) (x2 : Int) (x3 : Int) : Option (Qd × Qb) :=
 (Xl x0.a.States x1).bind fun b =>
 (Je K x0.a.Split).bind fun c =>
 (Xl c x3).bind fun d =>
 Zb K K x1 x2 d (0:Int) x0 b.L b.R b.Rule b.Next [] []
def Yy (K : Nat) (m : Int → Int → Int → Zn → (List X2) → (List Qa) → (List Int) → (List Q5) → Zn → Int → Int → (List Int) → (List X2) → (List Qa) → (List Int) → (List (List Qd)) → Option (Qn × Int)) : Nat → Int → Int → Int → Int → Zn → (List X2) → (List Qa) → (List Int) → (List Q5) → Zn → Int → Int → (List Int) → (List X2) → (List Qa) → (List Int) → (List (List Qd)) → (List Qd) → Option (Qn × Int)
 | 0 => fun _ _ _ _ _ _ _ _ _ _ _ _ _ _ _ _ _ _ => none
 | k + 1 => fun d n f i o p q r s t j u v w y z l c =>
 bif (decide (i < j)) then
 (Xn K (Qb.mk (Qp.mk r s) v (Qn.mk (Q4.mk t j) w y) u) d f i).bind fun b =>
 (ck (roomy 32 (c.length + [b.1].length) = true)).bind fun _ =>
 bif (b.2.e != (0:Int)) then
 some ((Qn.mk (Q4.mk (Zn.mk fun _ => 0) (0:Int)) [] []), b.2.e)
 else
 Yy K m k d n f (IntKind.i64.wrap (i + (1:Int))) o p q b.2.g.First b.2.g.P b.2.a.Split.Of b.2.a.Split.Many b.2.e b.2.number b.2.a.Counts b.2.a.States z l (c ++ [b.1])
 else
 (ck (roomy 24 (l.length + [c].length) = true)).bind fun _ =>
 m d n (IntKind.i64.wrap (f + (1:Int))) o p q r s t j u v w y z (l ++ [c])
def Yf (K : Nat) (s : Int → Zn → (List X2) → (List Qa) → (List Int) → (List Q5) → Zn → Int → Int → (List Int) → (List X2) → (List Qa) → Option (Qn × Int)) : Nat → Int → Int → Int → Zn → (List X2) → (List Qa) → (List Int) → (List Q5) → Zn → Int → Int → (List Int) → (List X2) → (List Qa) → (List Int) → (List (List Qd)) → Option (Qn × Int)
 | 0 => fun _ _ _ _ _ _ _ _ _ _ _ _ _ _ _ _ => none
 | k + 1 => fun n t q u v w c d f i j l m b p y =>
 bif (decide (q < t)) then
 (Xl b n).bind fun aa =>
 (Ux K (Qb.mk (Qp.mk c d) l (Qn.mk (Q4.mk f i) m b) j) aa q).bind fun z =>
 (ck (roomy 8 (p.length + [z].length) = true)).bind fun _ =>
 Yy K (Yf K s k) K n t q (0:Int) u v w ((Qb.mk (Qp.mk c d) l (Qn.mk (Q4.mk f i) m b) j).g.First) ((Qb.mk (Qp.mk c d) l (Qn.mk (Q4.mk f i) m b) j).g.P) ((Qb.mk (Qp.mk c d) l (Qn.mk (Q4.mk f i) m b) j).a.Split.Of) ((Qb.mk (Qp.mk c d) l (Qn.mk (Q4.mk f i) m b) j).a.Split.Many) ((Qb.mk (Qp.mk c d) l (Qn.mk (Q4.mk f i) m b) j).e) ((Qb.mk (Qp.mk c d) l (Qn.mk (Q4.mk f i) m b) j).number) ((Qb.mk (Qp.mk c d) l (Qn.mk (Q4.mk f i) m b) j).a.Counts) ((Qb.mk (Qp.mk c d) l (Qn.mk (Q4.mk f i) m b) j).a.States) (p ++ [z]) y []
 else
 (Xl b n).bind fun o =>
 (Xl (List.set b (Int.toNat n) (Qa.mk o.L o.R p o.Next)) n).bind fun r =>
 s (IntKind.i64.wrap (n + (1:Int))) u v w c d f i j l m (List.set (List.set b (Int.toNat n) (Qa.mk o.L o.R p o.Next)) (Int.toNat n) (Qa.mk r.L r.R r.Rule y))
def Z6 (K : Nat) : Nat → Int → Zn → (List X2) → (List Qa) → (List Int) → (List Q5) → Zn → Int → Int → (List Int) → (List X2) → (List Qa) → Option (Qn × Int)
 | 0 => fun _ _ _ _ _ _ _ _ _ _ _ _ => none
 | k + 1 => fun b f g i j l c d m n e a =>
 bif (decide (b < (a.length : Int))) then
 (Xl a b).bind fun o =>
 (Jc K (o.R.length : Int)).bind fun p =>
 Yf K (Z6 K k) K b p (0:Int) f g i j l c d m n e a [] []
 else
 some ((Qn.mk (Q4.mk c d) e a), (0:Int))
def Vk (K : Nat) : Nat → Int → Qp → Zn → (List X2) → (List Qa) → Zn → (List Int) → (List X2) → (List Qa) → (List Zh) → Option (Qn × Int)
 | 0 => fun _ _ _ _ _ _ _ _ _ _ => none
 | k + 1 => fun d x0 f g i j c b l e =>
 bif (decide (d < (x0.P.length : Int))) then
 (Xl x0.P d).bind fun a =>
 (ck (roomy 32 (e.length + [a.S].length) = true)).bind fun _ =>
 bif (decide (a.Hi > (1:Int))) then
 (ck (roomy 8 (c.length + [(b.length : Int)].length) = true)).bind fun _ =>
 (ck (roomy 16 (b.length + [(X2.mk a.Lo a.Hi)].length) = true)).bind fun _ =>
 Vk K k (IntKind.i64.wrap (d + (1:Int))) x0 f g i j (c ++ [(b.length : Int)]) (b ++ [(X2.mk a.Lo a.Hi)]) l (e ++ [a.S])
 else
 (ck (roomy 8 (c.length + [(-1:Int)].length) = true)).bind fun _ =>
 Vk K k (IntKind.i64.wrap (d + (1:Int))) x0 f g i j (c ++ [(-1:Int)]) b l (e ++ [a.S])
 else
 (Kq K e).bind fun m =>
 Z6 K K (0:Int) f g i x0.First x0.P m.Of m.Many (0:Int) c b [(Qa.mk [] [] [] [])]
def U8 (K : Nat) (x0 : Qp) : Option (Qn × Int) :=
 (Uh K x0).bind fun a =>
 bif (!a) then
 some ((Qn.mk (Q4.mk (Zn.mk fun _ => 0) (0:Int)) [] []), (1:Int))
 else
 Vk K K (0:Int) x0 (Zn.mk fun _ => 0) [] [] (Zn.mk fun _ => 0) [] [] [] []
def U7 (K : Nat) : Nat → Int → Q4 → Int → Option Bool
 | 0 => fun _ _ _ => none
 | k + 1 => fun b x0 a =>
 bif (decide (a < (256:Int))) then
 (ck (0 ≤ a ∧ a < 256)).bind fun _ =>
 bif (decide ((IntKind.i64.wrap (Zn.get x0.Of a)) > b)) then
 some false
 else
 bif ((IntKind.i64.wrap (Zn.get x0.Of a)) == b) then
 U7 K k (IntKind.i64.wrap (b + (1:Int))) x0 (IntKind.i64.wrap (a + (1:Int)))
 else
 U7 K k b x0 (IntKind.i64.wrap (a + (1:Int)))
 else
 some (b == x0.Many)
def Ev (K : Nat) (x0 : Q4) : Option Bool :=
 U7 K K (0:Int) x0 (0:Int)
def M7 (K : Nat) : Option Int :=
 some (0:Int)
def M6 (K : Nat) : Nat → Int → Int → Int → Option Int
 | 0 => fun _ _ _ => none
 | k + 1 => fun a x0 b =>
 bif (decide (b < x0)) then
 M6 K k (IntKind.i64.wrap (a * (3:Int))) x0 (IntKind.i64.wrap (b + (1:Int)))
 else
 some a
def El (K : Nat) (x0 : Int) : Option Int :=
 bif (decide (x0 < (0:Int))) then
 M7 K
 else
 bif (decide (x0 > (3:Int))) then
 M7 K
 else
 M6 K K (1:Int) x0 (0:Int)
def M4 (K : Nat) : Option Bool :=
 some false
def H2 (K : Nat) : Nat → Int → Int → (List Int) → Int → Int → Option Bool
 | 0 => fun _ _ _ _ _ => none
 | k + 1 => fun x1 d x0 c a =>
 bif (decide (a < c)) then
 (Xl x0 a).bind fun b =>
 bif (decide (b ≤ d)) then
 M4 K
 else
 bif (decide (b ≥ x1)) then
 M4 K
 else
 H2 K k x1 b x0 c (IntKind.i64.wrap (a + (1:Int)))
 else
 some true
def Ek (K : Nat) (x0 : List Int) (x1 : Int) : Option Bool :=
 H2 K K x1 (-1:Int) x0 (x0.length : Int) (0:Int)
def Vg (K : Nat) : Nat → (List Int) → Int → Int → Int → Option Int
 | 0 => fun _ _ _ _ => none
 | k + 1 => fun x0 x1 b a =>
 bif (decide (a < b)) then
 (Xl x0 a).bind fun c =>
 bif (x1 == c) then
 some a
 else
 Vg K k x0 x1 b (IntKind.i64.wrap (a + (1:Int)))
 else
 some (-1:Int)
def Ks (K : Nat) (x0 : List Int) (x1 : Int) : Option Int :=
 Vg K K x0 x1 (x0.length : Int) (0:Int)
def Jj (K : Nat) (x0 : List Int) (x1 : Int) : Option Bool :=
 (Ks K x0 x1).bind fun a =>
 some (decide (a ≥ (0:Int)))
def Xd (K : Nat) : Option Bool :=
 some false
def Xc (K : Nat) : Option Bool :=
 some false
def Xb (K : Nat) : Nat → Qd → Int → Int → Zc → Qa → Option Bool
 | 0 => fun _ _ _ _ _ => none
 | k + 1 => fun x2 b a x0 x1 =>
 bif (decide (a < b)) then
 (Xl x2.Ops a).bind fun c =>
 bif (decide (c < (1:Int))) then
 Xc K
 else
 bif (decide (c > (3:Int))) then
 Xc K
 else
 bif (c != (3:Int)) then
 (Xl x0.Auto.States x2.To).bind fun d =>
 (Xl d.R a).bind fun e =>
 (Jj K x1.R e).bind fun f =>
 bif (!f) then
 Xc K
 else
 Xb K k x2 b (IntKind.i64.wrap (a + (1:Int))) x0 x1
 else
 Xb K k x2 b (IntKind.i64.wrap (a + (1:Int))) x0 x1
 else
 some true
def Ha (K : Nat) (x0 : Zc) (x1 : Qa) (x2 : Qd) : Option Bool :=
 bif (x2.To == (-1:Int)) then
 some ((x2.Ops.length : Int) == (0:Int))
 else
 bif (decide (x2.To < (1:Int))) then
 Xd K
 else
 bif (decide (x2.To ≥ (x0.Auto.States.length : Int))) then
 Xd K
 else
 (Xl x0.Auto.States x2.To).bind fun a =>
 bif ((x2.Ops.length : Int) != (a.R.length : Int)) then
 Xd K
 else
 Xb K K x2 (x2.Ops.length : Int) (0:Int) x0 x1
def Wu (K : Nat) (x0 : Qd) (x1 : Zc) (x2 : Qa) : Option Bool :=
 (Ha K x1 x2 x0).bind fun a =>
 some (!a)
def Yv (K : Nat) : Nat → (List Qd) → Int → Int → Zc → Qa → Option Int
 | 0 => fun _ _ _ _ _ => none
 | k + 1 => fun x0 b a x1c0 x1c1 =>
 bif (decide (a < b)) then
 (Xl x0 a).bind fun c =>
 (Wu K c x1c0 x1c1).bind fun d =>
 bif d then
 some a
 else
 Yv K k x0 b (IntKind.i64.wrap (a + (1:Int))) x1c0 x1c1
 else
 some (-1:Int)
def J3 (K : Nat) (x0 : List Qd) (x1c0 : Zc) (x1c1 : Qa) : Option Int :=
 Yv K K x0 (x0.length : Int) (0:Int) x1c0 x1c1
def Vj (K : Nat) (x0 : List Qd) (x1c0 : Zc) (x1c1 : Qa) : Option Bool :=
 (J3 K x0 x1c0 x1c1).bind fun a =>
 some (decide (a ≥ (0:Int)))
def Z4 (K : Nat) : Option Bool :=
 some false
def Y6 (K : Nat) : Option Bool :=
 some false
def Xu (K : Nat) : Nat → Qa → Int → Int → Zc → Option Bool
 | 0 => fun _ _ _ _ => none
 | k + 1 => fun x1 b a x0 =>
 bif (decide (a < b)) then
 (Xl x1.Next a).bind fun c =>
 (Xl x1.Rule a).bind fun d =>
 bif (decide (d < (-1:Int))) then
 Y6 K
 else
 bif (decide (d ≥ (512:Int))) then
 Y6 K
 else
 bif ((c.length : Int) != x0.Auto.Split.Many) then
 Y6 K
 else
 (Vj K c x0 x1).bind fun e =>
 bif e then
 some false
 else
 Xu K k x1 b (IntKind.i64.wrap (a + (1:Int))) x0
 else
 some true
def J6 (K : Nat) (x0 : Zc) (x1 : Qa) : Option Bool :=
 (El K (x1.R.length : Int)).bind fun a =>
 bif (a == (0:Int)) then
 Z4 K
 else
 bif ((x1.Rule.length : Int) != a) then
 Z4 K
 else
 bif ((x1.Next.length : Int) != a) then
 Z4 K
 else
 (Ek K x1.L (512:Int)).bind fun b =>
 bif (!b) then
 Z4 K
 else
 (Ek K x1.R (x0.Auto.Counts.length : Int)).bind fun c =>
 bif (!c) then
 Z4 K
 else
 Xu K K x1 (x1.Next.length : Int) (0:Int) x0
def I3 (K : Nat) (x0 : Qa) (x1 : Zc) : Option Bool :=
 (J6 K x1 x0).bind fun a =>
 some (!a)
def Yo (K : Nat) : Nat → (List Qa) → Int → Int → Zc → Option Int
 | 0 => fun _ _ _ _ => none
 | k + 1 => fun x0 b a x1c0 =>
 bif (decide (a < b)) then
 (Xl x0 a).bind fun c =>
 (I3 K c x1c0).bind fun d =>
 bif d then
 some a
 else
 Yo K k x0 b (IntKind.i64.wrap (a + (1:Int))) x1c0
 else
 some (-1:Int)
def Jn (K : Nat) (x0 : List Qa) (x1c0 : Zc) : Option Int :=
 Yo K K x0 (x0.length : Int) (0:Int) x1c0
def Vc (K : Nat) (x0 : List Qa) (x1c0 : Zc) : Option Bool :=
 (Jn K x0 x1c0).bind fun a =>
 some (decide (a ≥ (0:Int)))
def Xz (K : Nat) : Option Bool :=
 some false
def H4 (K : Nat) : Option Bool :=
 some false
def J7 (K : Nat) : Nat → Qn → Int → Int → Option Bool
 | 0 => fun _ _ _ => none
 | k + 1 => fun x0 c b =>
 bif (decide (b < c)) then
 (Xl x0.Counts b).bind fun a =>
 bif (decide ((X2.get a (0:Int)) < (1:Int))) then
 H4 K
 else
 bif (decide ((X2.get a (0:Int)) > (X2.get a (1:Int)))) then
 H4 K
 else
 bif (decide ((X2.get a (1:Int)) < (2:Int))) then
 H4 K
 else
 bif (decide ((X2.get a (1:Int)) > (4096:Int))) then
 H4 K
 else
 J7 K k x0 c (IntKind.i64.wrap (b + (1:Int)))
 else
 (Vc K x0.States (Zc.mk x0)).bind fun d =>
 some (!d)
def Mh (K : Nat) (x0 : Qn) : Option Bool :=
 (Ev K x0.Split).bind fun b =>
 bif (!b) then
 Xz K
 else
 bif (decide ((x0.Counts.length : Int) > (512:Int))) then
 Xz K
 else
 bif (decide ((x0.States.length : Int) < (1:Int))) then
 Xz K
 else
 bif (decide ((x0.States.length : Int) > (256:Int))) then
 Xz K
 else
 (Xl x0.States (0:Int)).bind fun a =>
 bif (decide ((IntKind.i64.wrap ((a.L.length : Int) + (a.R.length : Int))) > (0:Int))) then
 Xz K
 else
 J7 K K x0 (x0.Counts.length : Int) (0:Int)
def Hp (K : Nat) (x0 : List X2) : Option (List X2) :=
 (ck (roomy 16 (([] : List X2).length + x0.length) = true)).bind fun _ =>
 some (([] : List X2) ++ x0)
def Y4 (K : Nat) (x0 : Yb) : Option (Int × Bool × Yb) :=
 bif ((x0.l.length : Int) == (0:Int)) then
 some ((0:Int), false, x0)
 else
 (Xl x0.l (IntKind.i64.wrap ((x0.l.length : Int) - (1:Int)))).bind fun a =>
 (ck (0 ≤ (IntKind.i64.wrap ((x0.l.length : Int) - (1:Int))) ∧ (Int.toNat (IntKind.i64.wrap ((x0.l.length : Int) - (1:Int)))) ≤ x0.l.length)).bind fun _ =>
 some (a, true, (Yb.mk (x0.l.take (Int.toNat (IntKind.i64.wrap ((x0.l.length : Int) - (1:Int)))))))
def Ue (K : Nat) (x0 : Yb) (x1 : List Int) : Option Yb :=
 (ck (roomy 8 (x0.l.length + x1.length) = true)).bind fun _ =>
 some (Yb.mk (x0.l ++ x1))
def Uf (K : Nat) : Nat → (List Int) → Int → Int → Option Int
 | 0 => fun _ _ _ => none
 | k + 1 => fun x0 a b =>
 bif (decide (b < (x0.length : Int))) then
 (Xl x0 b).bind fun c =>
 Uf K k x0 (if c > a then c else a) (IntKind.i64.wrap (b + (1:Int)))
 else
 some a
def Kk (K : Nat) (x0 : List Int) : Option Int :=
 bif (decide ((x0.length : Int) < (1:Int))) then
 none
 else
 (Xl x0 (0:Int)).bind fun a =>
 Uf K K x0 a (1:Int)
def H7 (K : Nat) (x1 : Int) : Option (List Qd) :=
 bif (decide (x1 < (0:Int))) then
 none
 else
 bif (decide ((IntKind.i64.wrap (x1 - (IntKind.i64.wrap ((0:Int) - (0:Int))))) > (0:Int))) then
 (ck (0 < (IntKind.i64.wrap (x1 - (IntKind.i64.wrap ((0:Int) - (0:Int))))))).bind fun _ =>
 (ck (roomy 32 (Int.toNat (IntKind.i64.wrap (x1 - (IntKind.i64.wrap ((0:Int) - (0:Int)))))) = true)).bind fun _ =>
 (ck (0 ≤ (0:Int) ∧ (Int.toNat (0:Int)) ≤ (List.replicate (Int.toNat (IntKind.i64.wrap (x1 - (IntKind.i64.wrap ((0:Int) - (0:Int)))))) ((Qd.mk (0:Int) []) : Qd)).length)).bind fun _ =>
 some ((List.replicate (Int.toNat (IntKind.i64.wrap (x1 - (IntKind.i64.wrap ((0:Int) - (0:Int)))))) ((Qd.mk (0:Int) []) : Qd)).take (Int.toNat (0:Int)))
 else
 some ([] : List Qd)
def Xq (K : Nat) : Nat → (List (List Qd)) → Int → Int → (List Qd) → Option (List Qd)
 | 0 => fun _ _ _ _ => none
 | k + 1 => fun x0 c a b =>
 bif (decide (a < c)) then
 (Xl x0 a).bind fun d =>
 (ck (roomy 32 (b.length + d.length) = true)).bind fun _ =>
 Xq K k x0 c (IntKind.i64.wrap (a + (1:Int))) (b ++ d)
 else
 some b
def Y5 (K : Nat) : Nat → (List (List Qd)) → Int → Int → Int → Option (List Qd)
 | 0 => fun _ _ _ _ => none
 | k + 1 => fun x0 a c b =>
 bif (decide (b < c)) then
 (Xl x0 b).bind fun d =>
 bif (decide ((IntKind.i64.wrap (a + (d.length : Int))) < (0:Int))) then
 none
 else
 Y5 K k x0 (IntKind.i64.wrap (a + (d.length : Int))) c (IntKind.i64.wrap (b + (1:Int)))
 else
 (H7 K a).bind fun e =>
 Xq K K x0 (x0.length : Int) (0:Int) e
def Gv (K : Nat) (x0 : List (List Qd)) : Option (List Qd) :=
 Y5 K K x0 (0:Int) (x0.length : Int) (0:Int)
def Bz (K : Nat) (x0 : Qa) : Option (List Qd) :=
 (Gv K x0.Next).bind fun a =>
 some a
def Hk (K : Nat) (d : Qn → Int → Int → (List Bool) → (List (List Int)) → (List Int) → Option (List Bool)) : Nat → Int → Qn → Int → Int → (List Qd) → Int → Int → (List Bool) → (List (List Int)) → (List Int) → Option (List Bool)
 | 0 => fun _ _ _ _ _ _ _ _ _ _ => none
 | k + 1 => fun a x0 e f g i b j c l =>
 bif (decide (b < i)) then
 (Xl g b).bind fun m =>
 bif (decide (m.To ≥ (0:Int))) then
 (Xl c m.To).bind fun n =>
 (ck (roomy 8 (n.length + [a].length) = true)).bind fun _ =>
 Hk K d k a x0 e f g i (IntKind.i64.wrap (b + (1:Int))) j (List.set c (Int.toNat m.To) (n ++ [a])) l
 else
 Hk K d k a x0 e f g i (IntKind.i64.wrap (b + (1:Int))) j c l
 else
 d x0 e (IntKind.i64.wrap (f + (1:Int))) j c l
def Mb (K : Nat) (b : Qn → Int → Int → (List Bool) → (List (List Int)) → (List Int) → Option (List Bool)) (c : Int) (x0 : Qn) (d : Int) (e : Int) (f : List Bool) (g : List (List Int)) (i : List Int) (j : List Int) (l : List Int) (m : List Int) (n : List (List Qd)) : Option (List Bool) :=
 (Bz K (Qa.mk j l m n)).bind fun a =>
 Hk K b K c x0 d e a (a.length : Int) (0:Int) f g i
def Ix (K : Nat) (b : Int → Bool → (List Bool) → (List (List Int)) → (List Int) → Option (List Bool)) (c : List Bool) (d : List (List Int)) (e : List Int) : Option (List Bool) :=
 (Y4 K (Yb.mk e)).bind fun a =>
 b a.1 a.2.1 c d a.2.2.l
def Vz (K : Nat) : Nat → Int → Bool → (List Bool) → (List (List Int)) → (List Int) → Option (List Bool)
 | 0 => fun _ _ _ _ _ => none
 | k + 1 => fun b e a c d =>
 bif e then
 (Xl a b).bind fun f =>
 bif (!f) then
 (Xl c b).bind fun g =>
 (Ue K (Yb.mk d) g).bind fun i =>
 Ix K (Vz K k) (List.set a (Int.toNat b) true) c i.l
 else
 Ix K (Vz K k) a c d
 else
 some a
def V0 (K : Nat) : Nat → Qn → Int → Int → (List Bool) → (List (List Int)) → (List Int) → Option (List Bool)
 | 0 => fun _ _ _ _ _ _ => none
 | k + 1 => fun x0 c b d e f =>
 bif (decide (b < c)) then
 (Xl x0.States b).bind fun a =>
 (Kk K a.Rule).bind fun i =>
 bif (decide (i ≥ (0:Int))) then
 (Ue K (Yb.mk f) [b]).bind fun j =>
 Mb K (V0 K k) b x0 c b d e j.l a.L a.R a.Rule a.Next
 else
 Mb K (V0 K k) b x0 c b d e f a.L a.R a.Rule a.Next
 else
 (Y4 K (Yb.mk f)).bind fun g =>
 Vz K K g.1 g.2.1 d e g.2.2.l
def Sl (K : Nat) (x0 : Qn) : Option (List Bool) :=
 (Mh K x0).bind fun a =>
 bif (!a) then
 some []
 else
 (ck (0 ≤ (x0.States.length : Int))).bind fun _ =>
 (ck (roomy 1 (Int.toNat (x0.States.length : Int)) = true)).bind fun _ =>
 (ck (roomy 24 (Int.toNat (x0.States.length : Int)) = true)).bind fun _ =>
 V0 K K x0 (x0.States.length : Int) (0:Int) (List.replicate (Int.toNat (x0.States.length : Int)) (false : Bool)) (List.replicate (Int.toNat (x0.States.length : Int)) ([] : List Int)) []
def Xv (K : Nat) (x0 : List Int) : Option (List Int) :=
 (ck (roomy 8 (([] : List Int).length + x0.length) = true)).bind fun _ =>
 some (([] : List Int) ++ x0)
def Uv (K : Nat) (x0 : List Int) : Option (List Int) :=
 (ck (roomy 1 (([] : List Int).length + x0.length) = true)).bind fun _ =>
 some (([] : List Int) ++ x0)
def Vv (K : Nat) (f : Int → Int → Qc → Int → Int → (List (List Qd)) → Int → Int → (List Qd) → Int → Int → (List Int) → (List Qa) → (List Int) → (List Int) → (List Int) → (List (List Qd)) → (List (List Qd)) → Option Qc) (g : Int) (a : Int) (x0 : Qc) (i : Int) (j : Int) (l : List (List Qd)) (m : Int) (n : Int) (o : List Qd) (p : Int) (q : Int) (x1 : List Int) (r : List Qa) (s : List Int) (t : List Int) (u : List Int) (v : List (List Qd)) (b : List (List Qd)) (c : Int) (d : List Int) : Option Qc :=
 (Xl b a).bind fun e =>
 (ck (roomy 32 (e.length + [(Qd.mk c d)].length) = true)).bind fun _ =>
 f g a x0 i j l m n o p (IntKind.i64.wrap (q + (1:Int))) x1 r s t u v (List.set b (Int.toNat a) (e ++ [(Qd.mk c d)]))
def Vu (K : Nat) (a : Int → Int → Qc → Int → Int → (List (List Qd)) → Int → Int → (List Qd) → Int → Int → (List Int) → (List Qa) → (List Int) → (List Int) → (List Int) → (List (List Qd)) → (List (List Qd)) → Option Qc) (b : Int) (c : Int) (x0 : Qc) (d : Int) (e : Int) (f : List (List Qd)) (g : Int) (i : Int) (j : List Qd) (l : Int) (m : Int) (x1 : List Int) (n : List Qa) (o : List Int) (p : List Int) (q : List Int) (r : List (List Qd)) (s : List (List Qd)) : Option Qc :=
 Vv K a b c x0 d e f g i j l m x1 n o p q r s (-1:Int) []
def Z0 (K : Nat) (b : Int → Qc → Int → Int → (List (List Qd)) → Int → Int → (List Int) → (List Qa) → (List Int) → (List Int) → (List Int) → (List (List Qd)) → (List (List Qd)) → Option Qc) : Nat → Int → Int → Qc → Int → Int → (List (List Qd)) → Int → Int → (List Qd) → Int → Int → (List Int) → (List Qa) → (List Int) → (List Int) → (List Int) → (List (List Qd)) → (List (List Qd)) → Option Qc
 | 0 => fun _ _ _ _ _ _ _ _ _ _ _ _ _ _ _ _ _ _ => none
 | k + 1 => fun c s x0 d e f g i j l a x1 m n o p q r =>
 bif (decide (a < l)) then
 (Xl j a).bind fun t =>
 bif (decide (t.To ≥ (0:Int))) then
 (Xl x1 t.To).bind fun u =>
 bif (decide (u ≥ (0:Int))) then
 (Uv K t.Ops).bind fun v =>
 Vv K (Z0 K b k) c s x0 d e f g i j l a x1 m n o p q r u v
 else
 Vu K (Z0 K b k) c s x0 d e f g i j l a x1 m n o p q r
 else
 Vu K (Z0 K b k) c s x0 d e f g i j l a x1 m n o p q r
 else
 b c x0 d e f g (IntKind.i64.wrap (i + (1:Int))) x1 m n o p q r
def Ys (K : Nat) (d : Qc → Int → Int → (List Int) → (List Qa) → Option Qc) : Nat → Int → Qc → Int → Int → (List (List Qd)) → Int → Int → (List Int) → (List Qa) → (List Int) → (List Int) → (List Int) → (List (List Qd)) → (List (List Qd)) → Option Qc
 | 0 => fun _ _ _ _ _ _ _ _ _ _ _ _ _ _ => none
 | k + 1 => fun b x0 e f g i a x1 c j l m p n =>
 bif (decide (a < i)) then
 (Xl g a).bind fun o =>
 Z0 K (Ys K d k) K b a x0 e f g i a o (o.length : Int) (0:Int) x1 c j l m p n
 else
 (Xv K j).bind fun q =>
 (Xv K l).bind fun r =>
 (Xv K m).bind fun s =>
 (Xl c b).bind fun t =>
 d x0 e (IntKind.i64.wrap (f + (1:Int))) x1 (List.set c (Int.toNat b) (Qa.mk q r s n))
def Yt (K : Nat) : Nat → Qc → Int → Int → (List Int) → (List Qa) → Option Qc
 | 0 => fun _ _ _ _ _ => none
 | k + 1 => fun x0 c b x1 d =>
 bif (decide (b < c)) then
 (Xl x0.Auto.States b).bind fun a =>
 (ck (0 ≤ (a.Next.length : Int))).bind fun _ =>
 (ck (roomy 24 (Int.toNat (a.Next.length : Int)) = true)).bind fun _ =>
 Ys K (Yt K k) K b x0 c b a.Next (a.Next.length : Int) (0:Int) x1 d a.L a.R a.Rule a.Next (List.replicate (Int.toNat (a.Next.length : Int)) ([] : List Qd))
 else
 some (Qc.mk (Qn.mk x0.Auto.Split x0.Auto.Counts d))
def Vi (K : Nat) (x0 : Qc) (x1 : List Int) : Option Qc :=
 (ck (0 ≤ (x0.Auto.States.length : Int))).bind fun _ =>
 (ck (roomy 96 (Int.toNat (x0.Auto.States.length : Int)) = true)).bind fun _ =>
 Yt K K x0 (x0.Auto.States.length : Int) (0:Int) x1 (List.replicate (Int.toNat (x0.Auto.States.length : Int)) ((Qa.mk [] [] [] []) : Qa))
def Y8 (K : Nat) : Nat → (List Bool) → Int → Int → Qc → (List Int) → Option Qc
 | 0 => fun _ _ _ _ _ => none
 | k + 1 => fun c d a x0 b =>
 bif (decide (a < d)) then
 (Xl c a).bind fun e =>
 (Xl b a).bind fun g =>
 bif (!e) then
 (Xl (List.set b (Int.toNat a) a) a).bind fun i =>
 Y8 K k c d (IntKind.i64.wrap (a + (1:Int))) x0 (List.set (List.set b (Int.toNat a) a) (Int.toNat a) (-1:Int))
 else
 Y8 K k c d (IntKind.i64.wrap (a + (1:Int))) x0 (List.set b (Int.toNat a) a)
 else
 (Vi K x0 b).bind fun f =>
 some f
def Wz (K : Nat) (x0 : Qc) : Option Qc :=
 (ck (0 ≤ (x0.Auto.States.length : Int))).bind fun _ =>
 (ck (roomy 8 (Int.toNat (x0.Auto.States.length : Int)) = true)).bind fun _ =>
 (Sl K x0.Auto).bind fun a =>
 Y8 K K a (a.length : Int) (0:Int) x0 (List.replicate (Int.toNat (x0.Auto.States.length : Int)) ((0:Int) : Int))
def Qdh (K : Nat) (x0 : Int) (x1 : Int) : Option (Int × Int) :=
 some ((IntKind.u64.wrap ((IntKind.u64.wrap ((IntKind.u64.wrap ((Int.fdiv x0 (2 ^ min (Int.toNat (32:Int)) IntKind.u64.bits)) * (Int.fdiv x1 (2 ^ min (Int.toNat (32:Int)) IntKind.u64.bits)))) + (Int.fdiv (IntKind.u64.wrap ((IntKind.u64.wrap ((Int.fdiv x0 (2 ^ min (Int.toNat (32:Int)) IntKind.u64.bits)) * (bits .and .u64 x1 (4294967295:Int)))) + (Int.fdiv (IntKind.u64.wrap ((bits .and .u64 x0 (4294967295:Int)) * (bits .and .u64 x1 (4294967295:Int)))) (2 ^ min (Int.toNat (32:Int)) IntKind.u64.bits)))) (2 ^ min (Int.toNat (32:Int)) IntKind.u64.bits)))) + (Int.fdiv (IntKind.u64.wrap ((bits .and .u64 (IntKind.u64.wrap ((IntKind.u64.wrap ((Int.fdiv x0 (2 ^ min (Int.toNat (32:Int)) IntKind.u64.bits)) * (bits .and .u64 x1 (4294967295:Int)))) + (Int.fdiv (IntKind.u64.wrap ((bits .and .u64 x0 (4294967295:Int)) * (bits .and .u64 x1 (4294967295:Int)))) (2 ^ min (Int.toNat (32:Int)) IntKind.u64.bits)))) (4294967295:Int)) + (IntKind.u64.wrap ((bits .and .u64 x0 (4294967295:Int)) * (Int.fdiv x1 (2 ^ min (Int.toNat (32:Int)) IntKind.u64.bits)))))) (2 ^ min (Int.toNat (32:Int)) IntKind.u64.bits)))), (IntKind.u64.wrap (x0 * x1)))
def Qco (K : Nat) (x0 : Int) (x1 : Int) : Option (Int × Int) :=
 (Qdh K x0 x1).bind fun a =>
 some (a.1, a.2)
def Wl (K : Nat) (x0 : List Int) (a : Int) : Option (List Int) :=
 none
def Vx (K : Nat) : Nat → Int → (List Int) → Option (List Int)
 | 0 => fun _ _ => none
 | k + 1 => fun a b =>
 bif (decide (a < (b.length : Int))) then
 (ck (0 ≤ a ∧ (Int.toNat a) ≤ b.length)).bind fun _ =>
 (ck (0 < (Int.toNat a) ∧ (Int.toNat a) < b.length)).bind fun _ =>
 Vx K k (IntKind.i64.wrap (a + (((min (Int.toNat a) (b.length - (Int.toNat a))) : Nat) : Int))) (b.take (Int.toNat a) ++ b.take (min (Int.toNat a) (b.length - (Int.toNat a))) ++ b.drop ((Int.toNat a) + (min (Int.toNat a) (b.length - (Int.toNat a)))))
 else
 some b
def W0 (K : Nat) (x0 : List Int) (x1 : Int) : Option (List Int) :=
 bif (decide (x1 < (0:Int))) then
 none
 else
 (Qco K (IntKind.u64.wrap (x0.length : Int)) (IntKind.u64.wrap x1)).bind fun a =>
 bif (decide (a.1 > (0:Int))) then
 Wl K x0 a.2
 else
 bif (decide (a.2 > (9223372036854775807:Int))) then
 Wl K x0 a.2
 else
 (ck (0 ≤ (IntKind.i64.wrap a.2))).bind fun _ =>
 (ck (roomy 8 (Int.toNat (IntKind.i64.wrap a.2)) = true)).bind fun _ =>
 (ck (0 < x0.length ∧ x0.length ≤ (List.replicate (Int.toNat (IntKind.i64.wrap a.2)) ((0:Int) : Int)).length)).bind fun _ =>
 Vx K K (x0.length : Int) (x0 ++ (List.replicate (Int.toNat (IntKind.i64.wrap a.2)) ((0:Int) : Int)).drop x0.length)
def Yu (K : Nat) (e : Int → Qc → (List Int) → (List Int) → Option Qc) : Nat → Int → (List Qd) → Int → Int → Qc → (List Int) → (List Int) → Option Qc
 | 0 => fun _ _ _ _ _ _ _ => none
 | k + 1 => fun f g i b x0 c a =>
 bif (decide (b < i)) then
 (Xl g b).bind fun d =>
 bif (decide (d.To ≥ (0:Int))) then
 (Xl c d.To).bind fun j =>
 bif (decide (j < (0:Int))) then
 (ck (roomy 8 (a.length + [d.To].length) = true)).bind fun _ =>
 Yu K e k f g i (IntKind.i64.wrap (b + (1:Int))) x0 (List.set c (Int.toNat d.To) (a.length : Int)) (a ++ [d.To])
 else
 Yu K e k f g i (IntKind.i64.wrap (b + (1:Int))) x0 c a
 else
 Yu K e k f g i (IntKind.i64.wrap (b + (1:Int))) x0 c a
 else
 e (IntKind.i64.wrap (f + (1:Int))) x0 c a
def X4 (K : Nat) : Nat → Int → Int → Zn → Int → (List X2) → (List Qa) → (List Qa) → (List Int) → Option Qc
 | 0 => fun _ _ _ _ _ _ _ _ => none
 | k + 1 => fun c a d e f g b i =>
 bif (decide (a < c)) then
 (Xl i a).bind fun l =>
 (Xl g l).bind fun j =>
 (ck (roomy 96 (b.length + [j].length) = true)).bind fun _ =>
 X4 K k c (IntKind.i64.wrap (a + (1:Int))) d e f g (b ++ [j]) i
 else
 some (Qc.mk (Qn.mk (Q4.mk d e) f b))
def Y7 (K : Nat) : Nat → Int → Qc → (List Int) → (List Int) → Option Qc
 | 0 => fun _ _ _ _ => none
 | k + 1 => fun c x0 d a =>
 bif (decide (c < (a.length : Int))) then
 (Xl a c).bind fun f =>
 (Xl x0.Auto.States f).bind fun g =>
 (Bz K g).bind fun e =>
 Yu K (Y7 K k) K c e (e.length : Int) (0:Int) x0 d a
 else
 (Vi K x0 d).bind fun b =>
 X4 K K (a.length : Int) (0:Int) b.Auto.Split.Of b.Auto.Split.Many b.Auto.Counts b.Auto.States [] a
def Wx (K : Nat) (x0 : Qc) : Option Qc :=
 (W0 K [(-1:Int)] (x0.Auto.States.length : Int)).bind fun a =>
 (Xl a (0:Int)).bind fun b =>
 Y7 K K (0:Int) x0 (List.set a (Int.toNat (0:Int)) (0:Int)) [(0:Int)]
def strconv_Itoa (K : Nat) (x0 : Int) : Option ByteArray :=
 if -9223372036854775808 ≤ x0 ∧ x0 ≤ 9223372036854775807 then some (itoaS x0) else none
def Wc (K : Nat) (x0c1 : List Int) : Option Unit :=
 some ()
def Ji (K : Nat) (x0c1 : List Int) (x1 : ByteArray) : Option (Int × Unit × (List Int)) :=
 (Wc K x0c1).bind fun a =>
 (ck (roomy 1 (x0c1.length + x1.size) = true)).bind fun _ =>
 some ((x1.size : Int), (), (x0c1 ++ Mg x1))
def O6 (K : Nat) (x0 : Int) (x1c1 : List Int) : Option (List Int) :=
 (strconv_Itoa K x0).bind fun a =>
 (ck (a.size + (⟨#[32]⟩ : ByteArray).size ≤ 9223372036854775807)).bind fun _ =>
 (Ji K x1c1 (a ++ (⟨#[32]⟩ : ByteArray))).bind fun b =>
 some b.2.2
def Yp (K : Nat) (x0c1 : List Int) : Option Unit :=
 some ()
def X9 (K : Nat) (x0c1 : List Int) (x1 : ByteArray) : Option (Int × Unit × (List Int)) :=
 (Yp K x0c1).bind fun a =>
 (ck (roomy 1 (x0c1.length + x1.size) = true)).bind fun _ =>
 some ((x1.size : Int), (), (x0c1 ++ Mg x1))
def Uk (K : Nat) (x0 : Int) (x1c1 : List Int) : Option (List Int) :=
 (strconv_Itoa K x0).bind fun a =>
 (ck (a.size + (⟨#[32]⟩ : ByteArray).size ≤ 9223372036854775807)).bind fun _ =>
 (X9 K x1c1 (a ++ (⟨#[32]⟩ : ByteArray))).bind fun b =>
 some b.2.2
def J2 (K : Nat) (x0c1 : List Int) (x1 : List Int) : Option (Int × Unit × (List Int)) :=
 (Yp K x0c1).bind fun a =>
 (ck (roomy 1 (x0c1.length + x1.length) = true)).bind fun _ =>
 some ((x1.length : Int), (), (x0c1 ++ x1))
def Hj (K : Nat) : Nat → (List Qd) → Int → Int → (List Int) → (List Int) → Option ByteArray
 | 0 => fun _ _ _ _ _ => none
 | k + 1 => fun d e b x1 a =>
 bif (decide (b < e)) then
 (Xl d b).bind fun c =>
 bif (decide (c.To < (0:Int))) then
 (Uk K (-1:Int) a).bind fun f =>
 Hj K k d e (IntKind.i64.wrap (b + (1:Int))) x1 f
 else
 (Xl x1 c.To).bind fun g =>
 (Uk K g a).bind fun i =>
 (J2 K i c.Ops).bind fun j =>
 (Uk K (c.Ops.length : Int) j.2.2).bind fun l =>
 Hj K k d e (IntKind.i64.wrap (b + (1:Int))) x1 l
 else
 (ck (0 < a.length)).bind fun _ =>
 (ck (W8 a = true)).bind fun _ =>
 some (ofBytes a)
def G6 (K : Nat) : Nat → Qa → Int → Int → (List Int) → (List Int) → Option ByteArray
 | 0 => fun _ _ _ _ _ => none
 | k + 1 => fun x0 b a x1 c =>
 bif (decide (a < b)) then
 (Xl x0.Rule a).bind fun e =>
 (Uk K e c).bind fun f =>
 G6 K k x0 b (IntKind.i64.wrap (a + (1:Int))) x1 f
 else
 (Bz K x0).bind fun d =>
 Hj K K d (d.length : Int) (0:Int) x1 c
def G7 (K : Nat) : Nat → Qa → Int → Int → (List Int) → (List Int) → Option ByteArray
 | 0 => fun _ _ _ _ _ => none
 | k + 1 => fun x0 b a x1 c =>
 bif (decide (a < b)) then
 (Xl x0.R a).bind fun d =>
 (Uk K d c).bind fun e =>
 G7 K k x0 b (IntKind.i64.wrap (a + (1:Int))) x1 e
 else
 G6 K K x0 (x0.Rule.length : Int) (0:Int) x1 c
def Si (K : Nat) (x0 : Qa) (x1 : List Int) : Option ByteArray :=
 (O6 K (x0.R.length : Int) []).bind fun a =>
 G7 K K x0 (x0.R.length : Int) (0:Int) x1 a
def Gi (K : Nat) (d : Int → Qn → Int → Int → (List Int) → (List (ByteArray × Int)) → (List Int) → Option (List Int)) (e : Int) (a : Int) (f : ByteArray) (x0 : Qn) (g : Int) (i : Int) (j : List Int) (b : List (ByteArray × Int)) (c : List Int) : Option (List Int) :=
 (Xl c a).bind fun l =>
 d e x0 g (IntKind.i64.wrap (i + (1:Int))) j b (List.set c (Int.toNat a) ((b.lookup f).getD 0))
def Gj (K : Nat) (c : Int → Qn → Int → Int → (List Int) → (List (ByteArray × Int)) → (List Int) → Option (List Int)) (d : Int) (e : Int) (a : ByteArray) (x0 : Qn) (f : Int) (g : Int) (i : List Int) (b : List (ByteArray × Int)) (j : List Int) : Option (List Int) :=
 bif (!(b.lookup a).isSome) then
 (ck (b.lookup a = none)).bind fun _ =>
 Gi K c d e a x0 f g i (b ++ [(a, (b.length : Int))]) j
 else
 Gi K c d e a x0 f g i b j
def Vb (K : Nat) (e : Int → Qn → (List Int) → Option (List Int)) : Nat → Int → Qn → Int → Int → (List Int) → (List (ByteArray × Int)) → (List Int) → Option (List Int)
 | 0 => fun _ _ _ _ _ _ _ => none
 | k + 1 => fun f x0 g a b c d =>
 bif (decide (a < g)) then
 (Xl x0.States a).bind fun l =>
 bif (decide (a > (0:Int))) then
 (Xl b a).bind fun m =>
 (strconv_Itoa K m).bind fun i =>
 (ck (i.size + (⟨#[58]⟩ : ByteArray).size ≤ 9223372036854775807)).bind fun _ =>
 (Si K l b).bind fun j =>
 (ck ((i ++ (⟨#[58]⟩ : ByteArray)).size + j.size ≤ 9223372036854775807)).bind fun _ =>
 Gj K (Vb K e k) f a ((i ++ (⟨#[58]⟩ : ByteArray)) ++ j) x0 g a b c d
 else
 Gj K (Vb K e k) f a (⟨#[102, 105, 114, 115, 116]⟩ : ByteArray) x0 g a b c d
 else
 bif ((c.length : Int) == f) then
 some d
 else
 e (c.length : Int) x0 d
def U6 (K : Nat) : Nat → Int → Qn → (List Int) → Option (List Int)
 | 0 => fun _ _ _ => none
 | k + 1 => fun b x0 a =>
 (ck (0 ≤ (a.length : Int))).bind fun _ =>
 (ck (roomy 8 (Int.toNat (a.length : Int)) = true)).bind fun _ =>
 Vb K (U6 K k) K b x0 (x0.States.length : Int) (0:Int) a [] (List.replicate (Int.toNat (a.length : Int)) ((0:Int) : Int))
def Et (K : Nat) (x0 : Qn) : Option (List Int) :=
 (Mh K x0).bind fun a =>
 bif (!a) then
 some []
 else
 (ck (0 ≤ (x0.States.length : Int))).bind fun _ =>
 (ck (roomy 8 (Int.toNat (x0.States.length : Int)) = true)).bind fun _ =>
 U6 K K (0:Int) x0 (List.replicate (Int.toNat (x0.States.length : Int)) ((0:Int) : Int))
def Xx (K : Nat) (f : (List Int) → Int → Int → Qc → Int → Int → (List (List Qd)) → Int → Int → (List Qd) → Int → Int → (List Qa) → (List Int) → (List Int) → (List Int) → (List (List Qd)) → (List (List Qd)) → Option Qc) (x1 : List Int) (g : Int) (a : Int) (x0 : Qc) (i : Int) (j : Int) (l : List (List Qd)) (m : Int) (n : Int) (o : List Qd) (p : Int) (q : Int) (r : List Qa) (s : List Int) (t : List Int) (u : List Int) (v : List (List Qd)) (b : List (List Qd)) (c : Int) (d : List Int) : Option Qc :=
 (Xl b a).bind fun e =>
 (ck (roomy 32 (e.length + [(Qd.mk c d)].length) = true)).bind fun _ =>
 f x1 g a x0 i j l m n o p (IntKind.i64.wrap (q + (1:Int))) r s t u v (List.set b (Int.toNat a) (e ++ [(Qd.mk c d)]))
def Xw (K : Nat) (a : (List Int) → Int → Int → Qc → Int → Int → (List (List Qd)) → Int → Int → (List Qd) → Int → Int → (List Qa) → (List Int) → (List Int) → (List Int) → (List (List Qd)) → (List (List Qd)) → Option Qc) (x1 : List Int) (b : Int) (c : Int) (x0 : Qc) (d : Int) (e : Int) (f : List (List Qd)) (g : Int) (i : Int) (j : List Qd) (l : Int) (m : Int) (n : List Qa) (o : List Int) (p : List Int) (q : List Int) (r : List (List Qd)) (s : List (List Qd)) : Option Qc :=
 Xx K a x1 b c x0 d e f g i j l m n o p q r s (-1:Int) []
def Zo (K : Nat) (b : (List Int) → Int → Qc → Int → Int → (List (List Qd)) → Int → Int → (List Qa) → (List Int) → (List Int) → (List Int) → (List (List Qd)) → (List (List Qd)) → Option Qc) : Nat → (List Int) → Int → Int → Qc → Int → Int → (List (List Qd)) → Int → Int → (List Qd) → Int → Int → (List Qa) → (List Int) → (List Int) → (List Int) → (List (List Qd)) → (List (List Qd)) → Option Qc
 | 0 => fun _ _ _ _ _ _ _ _ _ _ _ _ _ _ _ _ _ _ => none
 | k + 1 => fun x1 c s x0 d e f g i j l a m n o p q r =>
 bif (decide (a < l)) then
 (Xl j a).bind fun t =>
 bif (decide (t.To ≥ (0:Int))) then
 (Xl x1 t.To).bind fun u =>
 bif (decide (u ≥ (0:Int))) then
 (Uv K t.Ops).bind fun v =>
 Xx K (Zo K b k) x1 c s x0 d e f g i j l a m n o p q r u v
 else
 Xw K (Zo K b k) x1 c s x0 d e f g i j l a m n o p q r
 else
 Xw K (Zo K b k) x1 c s x0 d e f g i j l a m n o p q r
 else
 b x1 c x0 d e f g (IntKind.i64.wrap (i + (1:Int))) m n o p q r
def Yc (K : Nat) (d : (List Int) → Qc → Int → Int → (List Qa) → Option Qc) : Nat → (List Int) → Int → Qc → Int → Int → (List (List Qd)) → Int → Int → (List Qa) → (List Int) → (List Int) → (List Int) → (List (List Qd)) → (List (List Qd)) → Option Qc
 | 0 => fun _ _ _ _ _ _ _ _ _ _ _ _ _ _ => none
 | k + 1 => fun x1 b x0 e f g i a c j l m p n =>
 bif (decide (a < i)) then
 (Xl g a).bind fun o =>
 Zo K (Yc K d k) K x1 b a x0 e f g i a o (o.length : Int) (0:Int) c j l m p n
 else
 (Xv K j).bind fun q =>
 (Xv K l).bind fun r =>
 (Xv K m).bind fun s =>
 (Xl c b).bind fun t =>
 d x1 x0 e (IntKind.i64.wrap (f + (1:Int))) (List.set c (Int.toNat b) (Qa.mk q r s n))
def Yd (K : Nat) : Nat → (List Int) → Qc → Int → Int → (List Qa) → Option Qc
 | 0 => fun _ _ _ _ _ => none
 | k + 1 => fun x1 x0 c b d =>
 bif (decide (b < c)) then
 (Xl x0.Auto.States b).bind fun a =>
 (ck (0 ≤ (a.Next.length : Int))).bind fun _ =>
 (ck (roomy 24 (Int.toNat (a.Next.length : Int)) = true)).bind fun _ =>
 Yc K (Yd K k) K x1 b x0 c b a.Next (a.Next.length : Int) (0:Int) d a.L a.R a.Rule a.Next (List.replicate (Int.toNat (a.Next.length : Int)) ([] : List Qd))
 else
 some (Qc.mk (Qn.mk x0.Auto.Split x0.Auto.Counts d))
def X3 (K : Nat) (x0 : Qc) (x1 : List Int) : Option Qc :=
 (ck (0 ≤ (x0.Auto.States.length : Int))).bind fun _ =>
 (ck (roomy 96 (Int.toNat (x0.Auto.States.length : Int)) = true)).bind fun _ =>
 Yd K K x1 x0 (x0.Auto.States.length : Int) (0:Int) (List.replicate (Int.toNat (x0.Auto.States.length : Int)) ((Qa.mk [] [] [] []) : Qa))
def Vw (K : Nat) (d : (List Int) → Int → Int → Qc → (List (Int × Int)) → (List Int) → Option Qc) (b : Int) (e : List Int) (f : Int) (g : Int) (x0 : Qc) (a : List (Int × Int)) (c : List Int) : Option Qc :=
 (ck (roomy 8 (c.length + [((a.lookup b).getD 0)].length) = true)).bind fun _ =>
 d e f (IntKind.i64.wrap (g + (1:Int))) x0 a (c ++ [((a.lookup b).getD 0)])
def Yi (K : Nat) : Nat → (List Int) → Int → Int → Qc → (List (Int × Int)) → (List Int) → Option Qc
 | 0 => fun _ _ _ _ _ _ => none
 | k + 1 => fun d e a x0 c f =>
 bif (decide (a < e)) then
 (Xl d a).bind fun b =>
 bif (!(c.lookup b).isSome) then
 (ck (c.lookup b = none)).bind fun _ =>
 Vw K (Yi K k) b d e a x0 (c ++ [(b, a)]) f
 else
 Vw K (Yi K k) b d e a x0 c f
 else
 (X3 K x0 f).bind fun g =>
 some g
def Wy (K : Nat) (x0 : Qc) : Option Qc :=
 (Et K x0.Auto).bind fun a =>
 Yi K K a (a.length : Int) (0:Int) x0 [] []
def Ei (K : Nat) (f : Zn) (a : Zn) (b : Int) (c : List X2) (d : List Qa) : Option (Qn × Int) :=
 (Wx K (Qc.mk (Qn.mk (Q4.mk a b) c d))).bind fun e =>
 some (e.Auto, (0:Int))
def Qao (K : Nat) (x0 : Qn) : Option (Qn × Int) :=
 (Mh K x0).bind fun c =>
 bif (!c) then
 some ((Qn.mk (Q4.mk (Zn.mk fun _ => 0) (0:Int)) [] []), (1:Int))
 else
 (Hp K x0.Counts).bind fun d =>
 (Wz K (Qc.mk (Qn.mk x0.Split d x0.States))).bind fun a =>
 bif ((a.Auto.Counts.length : Int) == (0:Int)) then
 (Wy K a).bind fun b =>
 Ei K (Zn.mk fun _ => 0) b.Auto.Split.Of b.Auto.Split.Many b.Auto.Counts b.Auto.States
 else
 Ei K (Zn.mk fun _ => 0) a.Auto.Split.Of a.Auto.Split.Many a.Auto.Counts a.Auto.States
def W7 (K : Nat) : Option Bool :=
 (Ca K (⟨#[97, 98, 124, 99, 98]⟩ : ByteArray)).bind fun b =>
 (Dm K b.1 (1:Int)).bind fun c =>
 (No K [c.1]).bind fun d =>
 (U8 K d.1).bind fun e =>
 (Qao K e.1).bind fun a =>
 bif (a.2 == (0:Int)) then
 some ((a.1.States.length : Int) == (3:Int))
 else
 some false
def U0 (K : Nat) : Option Bool :=
 some false
def Y9 (K : Nat) : Nat → (List Int) → Int → Int → Option Bool
 | 0 => fun _ _ _ => none
 | k + 1 => fun x0 x1 a =>
 bif (decide (a < (x0.length : Int))) then
 (Xl x0 a).bind fun b =>
 bif (decide (b < (0:Int))) then
 U0 K
 else
 bif (decide (b ≥ x1)) then
 U0 K
 else
 bif (decide (a > (0:Int))) then
 (Xl x0 (IntKind.i64.wrap (a - (1:Int)))).bind fun c =>
 bif (decide (c ≥ b)) then
 U0 K
 else
 Y9 K k x0 x1 (IntKind.i64.wrap (a + (1:Int)))
 else
 Y9 K k x0 x1 (IntKind.i64.wrap (a + (1:Int)))
 else
 some true
def Oi (K : Nat) (x0 : List Int) (x1 : Int) : Option Bool :=
 Y9 K K x0 x1 (0:Int)
def Xo (K : Nat) (e : Bool → (List Int) → Int → Int → Int → Int → (List Int) → (List Q5) → Option Bool) (f : Bool) (g : List Int) (i : Int) (j : Int) (l : Int) (m : Int) (n : List Int) (a : List Q5) (b : Zh) (c : Bool) (d : List Int) : Option Bool :=
 (ck (roomy 88 (a.length + [(Q5.mk b (1:Int) (1:Int) (0:Int) c d)].length) = true)).bind fun _ =>
 e f g i j l (IntKind.i64.wrap (m + (1:Int))) n (a ++ [(Q5.mk b (1:Int) (1:Int) (0:Int) c d)])
def Zt (K : Nat) (d : Bool → (List Int) → Int → (List Int) → (List Q5) → Option Bool) : Nat → Bool → (List Int) → Int → Int → Int → Int → (List Int) → (List Q5) → Option Bool
 | 0 => fun _ _ _ _ _ _ _ _ => none
 | k + 1 => fun e a f g i b j l =>
 bif (decide (b < i)) then
 (Xl a b).bind fun c =>
 (ck (0 ≤ (Int.tmod c (64:Int)))).bind fun _ =>
 (ck (0 ≤ (IntKind.u8.wrap (Int.tdiv c (64:Int))) ∧ (IntKind.u8.wrap (Int.tdiv c (64:Int))) < 4)).bind fun _ =>
 bif (!(b == (IntKind.i64.wrap ((a.length : Int) - (1:Int))))) then
 Xo K (Zt K d k) e a f g i b j l (Zh.set (Zh.mk 0 0 0 0) (IntKind.u8.wrap (Int.tdiv c (64:Int))) (IntKind.u64.wrap ((1:Int) * 2 ^ min (Int.toNat (Int.tmod c (64:Int))) IntKind.u64.bits))) (b == (IntKind.i64.wrap ((a.length : Int) - (1:Int)))) [(IntKind.i64.wrap ((IntKind.i64.wrap ((IntKind.i64.wrap (f * (a.length : Int))) + b)) + (1:Int)))]
 else
 Xo K (Zt K d k) e a f g i b j l (Zh.set (Zh.mk 0 0 0 0) (IntKind.u8.wrap (Int.tdiv c (64:Int))) (IntKind.u64.wrap ((1:Int) * 2 ^ min (Int.toNat (Int.tmod c (64:Int))) IntKind.u64.bits))) (b == (IntKind.i64.wrap ((a.length : Int) - (1:Int)))) []
 else
 d e a (IntKind.i64.wrap (g + (1:Int))) j l
def Zu (K : Nat) : Nat → Bool → (List Int) → Int → (List Int) → (List Q5) → Option Bool
 | 0 => fun _ _ _ _ _ => none
 | k + 1 => fun c a b d e =>
 bif (decide (b < (2:Int))) then
 Zt K (Zu K k) K c a b b (a.length : Int) (0:Int) d e
 else
 (U8 K (Qp.mk d e)).bind fun f =>
 (Qao K f.1).bind fun g =>
 bif c then
 bif (f.2 == (0:Int)) then
 bif (g.2 == (0:Int)) then
 some ((g.1.States.length : Int) == (IntKind.i64.wrap ((a.length : Int) + (1:Int))))
 else
 some false
 else
 some false
 else
 some false
def Xt (K : Nat) (x0 : List Int) : Option Bool :=
 (W7 K).bind fun a =>
 (ck (0 ≤ (if (20:Int) < (x0.length : Int) then (20:Int) else (x0.length : Int)) ∧ 0 ≤ (Int.toNat (if (20:Int) < (x0.length : Int) then (20:Int) else (x0.length : Int))) ∧ (Int.toNat (if (20:Int) < (x0.length : Int) then (20:Int) else (x0.length : Int))) ≤ x0.length)).bind fun _ =>
 bif ((((x0.take (Int.toNat (if (20:Int) < (x0.length : Int) then (20:Int) else (x0.length : Int)))).drop 0).length : Int) == (0:Int)) then
 some a
 else
 Zu K K a ((x0.take (Int.toNat (if (20:Int) < (x0.length : Int) then (20:Int) else (x0.length : Int)))).drop 0) (0:Int) [(0:Int), (((x0.take (Int.toNat (if (20:Int) < (x0.length : Int) then (20:Int) else (x0.length : Int)))).drop 0).length : Int)] []
end Go.Rv

/- What each function of the program computes, as plain Lean: printed by a program of ours from the translation. -/
import Derived.Test.YtcmfaclkgdmpbaaGreatDoorRvDD
namespace Go.Rv
set_option linter.unusedVariables false
structure Zl where
 S : Zy
 Lo : Int
 Hi : Int
 Rule : Int
 Last : Bool
 Next : List Int
 deriving DecidableEq
abbrev Qv (x : Zl) : List DC := [.int .u64 x.S.a0, .int .u64 x.S.a1, .int .u64 x.S.a2, .int .u64 x.S.a3, .int .i64 x.Lo, .int .i64 x.Hi, .int .i64 x.Rule, .bool x.Last, .sl false 1 (x.Next.map (cI .i64))]
structure Qj where
 First : List Int
 P : List Zl
 deriving DecidableEq
abbrev Qkg (x : Qj) : List DC := [.sl false 1 (x.First.map (cI .i64)), .sl false 9 (x.P.map Qv)]
structure Q5 where
 Op : Int
 S : Zy
 L : List Int
 Lo : Int
 Hi : Int
 Name : ByteArray
 deriving DecidableEq
abbrev Qx (x : Q5) : List DC := [.int .u8 x.Op, .int .u64 x.S.a0, .int .u64 x.S.a1, .int .u64 x.S.a2, .int .u64 x.S.a3, .sl false 1 (x.L.map (cI .i64)), .int .i64 x.Lo, .int .i64 x.Hi, .str x.Name]
structure Qi where
 s : ByteArray
 at_ : Int
 nodes : List Q5
 deep : Int
 e : Int
 where_ : Int
 deriving DecidableEq
structure Q2 where
 l : List Q5
 most : Int
 out : List Q5
 long : Bool
 deriving DecidableEq
structure Qm where
 p : List Zl
 deriving DecidableEq
structure Qw where
 null : Bool
 first : List Int
 last : List Int
 deriving DecidableEq
abbrev Zx (x : Qw) : List DC := [.bool x.null, .sl false 1 (x.first.map (cI .i64)), .sl false 1 (x.last.map (cI .i64))]
structure Q8 where
 Of : Zp
 Many : Int
structure Qf where
 To : Int
 Ops : List Int
 deriving DecidableEq
abbrev Qn (x : Qf) : List DC := [.int .i64 x.To, .sl false 1 (x.Ops.map (cI .u8))]
structure Qa where
 L : List Int
 R : List Int
 Rule : List Int
 Next : List (List Qf)
 deriving DecidableEq
abbrev Qh (x : Qa) : List DC := [.sl false 1 (x.L.map (cI .i64)), .sl false 1 (x.R.map (cI .i64)), .sl false 1 (x.Rule.map (cI .i64)), .sl false 1 (x.Next.map (cL 2 Qn))]
structure Qq where
 Split : Q8
 Counts : List Xf
 States : List Qa
structure Qb where
 g : Qj
 number : List Int
 a : Qq
 e : Int
structure Zh where
 Auto : Qq
structure Qc where
 Auto : Qq
structure Yk where
 l : List Int
 deriving DecidableEq
structure Zg where
 P : Int
 N : List Int
 deriving DecidableEq
abbrev Za (x : Zg) : List DC := [.int .i64 x.P, .sl false 1 (x.N.map (cI .i64))]
structure Qt where
 Begin : Bool
 L : List Zg
 deriving DecidableEq
def Vl (K : Nat) (x0 : Qi) : Option Bool :=
 bif (decide (x0.at_ ≥ (x0.s.size : Int))) then
 some true
 else
 some (x0.e != (0:Int))
def U9 (K : Nat) (x0 : Qi) (x1 : Q5) : Option (Int × Qi) :=
 (ck (roomy 96 (x0.nodes.length + [x1].length) = true)).bind fun _ =>
 some ((IntKind.i64.wrap (((x0.nodes ++ [x1]).length : Int) - (1:Int))), (Qi.mk x0.s x0.at_ (x0.nodes ++ [x1]) x0.deep x0.e x0.where_))
def Cb (K : Nat) : Option ByteArray :=
 some (⟨#[124, 42, 43, 63, 123, 125, 40, 41, 91, 93, 46, 92, 47, 36, 94, 34]⟩ : ByteArray)
def Ms (K : Nat) : Nat → Int → ByteArray → Int → Option Bool
 | 0 => fun _ _ _ => none
 | k + 1 => fun x0 x1 a =>
 bif (decide (a < (x1.size : Int))) then
 (ck (0 ≤ a ∧ a < x1.size)).bind fun _ =>
 bif ((bt x1 a) == x0) then
 none
 else
 Ms K k x0 x1 (IntKind.i64.wrap (a + (1:Int)))
 else
 some false
def Sj (K : Nat) (x0 : Int) (x1 : ByteArray) : Option Bool :=
 Ms K K x0 x1 (0:Int)
def Kn (K : Nat) (x0 : Qi) : Option (Int × Qi) :=
 (ck (0 ≤ x0.at_ ∧ x0.at_ < x0.s.size)).bind fun _ =>
 bif ((bt x0.s x0.at_) != (92:Int)) then
 some ((bt x0.s x0.at_), (Qi.mk x0.s (IntKind.i64.wrap (x0.at_ + (1:Int))) x0.nodes x0.deep x0.e x0.where_))
 else
 none
def Vd (K : Nat) (x0 : Zy) (x1 : Int) : Option Bool :=
 (ck (0 ≤ (IntKind.u8.wrap (Int.tdiv x1 (64:Int))) ∧ (IntKind.u8.wrap (Int.tdiv x1 (64:Int))) < 4)).bind fun _ =>
 (ck (0 ≤ (Int.tmod x1 (64:Int)))).bind fun _ =>
 some ((Int.tmod (Int.fdiv (Zy.get x0 (IntKind.u8.wrap (Int.tdiv x1 (64:Int)))) (2 ^ min (Int.toNat (Int.tmod x1 (64:Int))) IntKind.u64.bits)) (2:Int)) == (1:Int))
def L7 (K : Nat) (x0 : Zy) (x1 : Int) : Option Zy :=
 (Vd K x0 x1).bind fun a =>
 bif (!a) then
 (ck (0 ≤ (IntKind.u8.wrap (Int.tdiv x1 (64:Int))) ∧ (IntKind.u8.wrap (Int.tdiv x1 (64:Int))) < 4)).bind fun _ =>
 (ck (0 ≤ (Int.tmod x1 (64:Int)))).bind fun _ =>
 some (Zy.set x0 (IntKind.u8.wrap (Int.tdiv x1 (64:Int))) (IntKind.u64.wrap ((Zy.get x0 (IntKind.u8.wrap (Int.tdiv x1 (64:Int)))) + (IntKind.u64.wrap ((1:Int) * 2 ^ min (Int.toNat (Int.tmod x1 (64:Int))) IntKind.u64.bits)))))
 else
 some x0
def Jf (K : Nat) : Nat → (List Int) → Int → Zy → Zy → Option Zy
 | 0 => fun _ _ _ _ => none
 | k + 1 => fun x0 a c b =>
 bif (decide (a < (x0.length : Int))) then
 (Ys x0 a).bind fun d =>
 (L7 K b d).bind fun e =>
 Jf K k x0 (IntKind.i64.wrap (a + (1:Int))) c e
 else
 some b
def Kd (K : Nat) (x0 : List Int) : Option Zy :=
 Jf K K x0 (0:Int) (Zy.mk 0 0 0 0) (Zy.mk 0 0 0 0)
def Lh (K : Nat) (x0 : Qi) : Option (Int × Qi) :=
 (ck (0 ≤ x0.at_ ∧ x0.at_ < x0.s.size)).bind fun _ =>
 bif ((bt x0.s x0.at_) == (40:Int)) then
 none
 else
 bif ((bt x0.s x0.at_) == (91:Int)) then
 none
 else
 bif ((bt x0.s x0.at_) == (46:Int)) then
 none
 else
 bif ((bt x0.s x0.at_) == (123:Int)) then
 none
 else
 bif ((bt x0.s x0.at_) == (47:Int)) then
 none
 else
 bif ((bt x0.s x0.at_) == (36:Int)) then
 none
 else
 bif ((bt x0.s x0.at_) != (92:Int)) then
 (Cb K).bind fun c =>
 (Sj K (bt x0.s x0.at_) c).bind fun d =>
 bif d then
 none
 else
 (Kn K x0).bind fun a =>
 bif (a.2.e != (0:Int)) then
 none
 else
 (Kd K [a.1]).bind fun f =>
 (U9 K a.2 (Q5.mk (2:Int) f [] (0:Int) (0:Int) (⟨#[]⟩ : ByteArray))).bind fun b =>
 some (b.1, b.2)
 else
 none
def W8 (K : Nat) : Nat → Int → ByteArray → Int → Int → Int → Int → (List Q5) → Option (Int × Qi)
 | 0 => fun _ _ _ _ _ _ _ => none
 | k + 1 => fun g a b c d e f =>
 (Vl K (Qi.mk a b f c d e)).bind fun i =>
 bif (!i) then
 (ck (0 ≤ (Qi.mk a b f c d e).at_ ∧ (Qi.mk a b f c d e).at_ < ((Qi.mk a b f c d e).s).size)).bind fun _ =>
 bif ((bt ((Qi.mk a b f c d e).s) ((Qi.mk a b f c d e).at_)) == (42:Int)) then
 none
 else
 bif ((bt ((Qi.mk a b f c d e).s) ((Qi.mk a b f c d e).at_)) == (43:Int)) then
 none
 else
 bif ((bt ((Qi.mk a b f c d e).s) ((Qi.mk a b f c d e).at_)) == (63:Int)) then
 none
 else
 bif ((bt ((Qi.mk a b f c d e).s) ((Qi.mk a b f c d e).at_)) == (123:Int)) then
 none
 else
 some (g, (Qi.mk a b f c d e))
 else
 some (g, (Qi.mk a b f c d e))
def Lg (K : Nat) (x0 : Qi) : Option (Int × Qi) :=
 (Lh K x0).bind fun a =>
 W8 K K a.1 a.2.s a.2.at_ a.2.deep a.2.e a.2.where_ a.2.nodes
def Jk (K : Nat) (d : ByteArray) (e : Int) (f : Int) (b : Int) (g : Int) (i : List Q5) (a : List Int) : Option (Int × Qi) :=
 bif (b != (0:Int)) then
 none
 else
 bif ((a.length : Int) == (0:Int)) then
 none
 else
 bif ((a.length : Int) == (1:Int)) then
 none
 else
 (U9 K (Qi.mk d e i f b g) (Q5.mk (3:Int) (Zy.mk 0 0 0 0) a (0:Int) (0:Int) (⟨#[]⟩ : ByteArray))).bind fun c =>
 some (c.1, c.2)
def Jj (K : Nat) : Nat → ByteArray → Int → Int → Int → Int → (List Q5) → (List Int) → Option (Int × Qi)
 | 0 => fun _ _ _ _ _ _ _ => none
 | k + 1 => fun a b c d f g j =>
 (Vl K (Qi.mk a b g c d f)).bind fun l =>
 bif (!l) then
 (ck (0 ≤ (Qi.mk a b g c d f).at_ ∧ (Qi.mk a b g c d f).at_ < ((Qi.mk a b g c d f).s).size)).bind fun _ =>
 bif ((bt ((Qi.mk a b g c d f).s) ((Qi.mk a b g c d f).at_)) != (124:Int)) then
 bif ((bt ((Qi.mk a b g c d f).s) ((Qi.mk a b g c d f).at_)) != (41:Int)) then
 (Lg K (Qi.mk a b g c d f)).bind fun i =>
 (ck (roomy 8 (j.length + [i.1].length) = true)).bind fun _ =>
 Jj K k i.2.s i.2.at_ i.2.deep i.2.e i.2.where_ i.2.nodes (j ++ [i.1])
 else
 none
 else
 Jk K ((Qi.mk a b g c d f).s) ((Qi.mk a b g c d f).at_) ((Qi.mk a b g c d f).deep) ((Qi.mk a b g c d f).e) ((Qi.mk a b g c d f).where_) ((Qi.mk a b g c d f).nodes) j
 else
 Jk K ((Qi.mk a b g c d f).s) ((Qi.mk a b g c d f).at_) ((Qi.mk a b g c d f).deep) ((Qi.mk a b g c d f).e) ((Qi.mk a b g c d f).where_) ((Qi.mk a b g c d f).nodes) j
def Wx (K : Nat) (x0 : Qi) : Option (Int × Qi) :=
 Jj K K x0.s x0.at_ x0.deep x0.e x0.where_ x0.nodes []
def X1 (K : Nat) : Nat → ByteArray → Int → Int → Int → Int → (List Q5) → (List Int) → Option (Int × Qi)
 | 0 => fun _ _ _ _ _ _ _ => none
 | k + 1 => fun a b c d f g j =>
 (Vl K (Qi.mk a b g c d f)).bind fun m =>
 bif (!m) then
 (ck (0 ≤ (Qi.mk a b g c d f).at_ ∧ (Qi.mk a b g c d f).at_ < ((Qi.mk a b g c d f).s).size)).bind fun _ =>
 bif ((bt ((Qi.mk a b g c d f).s) ((Qi.mk a b g c d f).at_)) == (124:Int)) then
 (Wx K (Qi.mk ((Qi.mk a b g c d f).s) (IntKind.i64.wrap ((Qi.mk a b g c d f).at_ + (1:Int))) ((Qi.mk a b g c d f).nodes) ((Qi.mk a b g c d f).deep) ((Qi.mk a b g c d f).e) ((Qi.mk a b g c d f).where_))).bind fun i =>
 (ck (roomy 8 (j.length + [i.1].length) = true)).bind fun _ =>
 X1 K k i.2.s i.2.at_ i.2.deep i.2.e i.2.where_ i.2.nodes (j ++ [i.1])
 else
 none
 else
 bif ((j.length : Int) == (1:Int)) then
 none
 else
 bif ((Qi.mk a b g c d f).e != (0:Int)) then
 none
 else
 (U9 K (Qi.mk a b g c d f) (Q5.mk (4:Int) (Zy.mk 0 0 0 0) j (0:Int) (0:Int) (⟨#[]⟩ : ByteArray))).bind fun l =>
 some (l.1, l.2)
def Jo (K : Nat) (x0 : Qi) : Option (Int × Qi) :=
 (Wx K x0).bind fun a =>
 X1 K K a.2.s a.2.at_ a.2.deep a.2.e a.2.where_ a.2.nodes [a.1]
def E8 (K : Nat) (x0 : ByteArray) : Option ((List Q5) × Int × Int) :=
 bif (decide ((x0.size : Int) > (1024:Int))) then
 none
 else
 (Jo K (Qi.mk x0 (0:Int) [] (0:Int) (0:Int) (0:Int))).bind fun a =>
 (Vl K a.2).bind fun b =>
 bif (!b) then
 none
 else
 bif (a.2.e != (0:Int)) then
 none
 else
 bif (decide ((a.2.nodes.length : Int) > (1024:Int))) then
 none
 else
 some (a.2.nodes, (0:Int), (0:Int))
def Lf (K : Nat) (rec_raddleref04_walk : (List Q5) → Int → (List Int) → Option ((List Int) × Bool)) : Nat → (List Q5) → Int → Int → (List Int) → Option ((List Int) × Bool)
 | 0 => fun _ _ _ _ => none
 | k + 1 => fun x0 x1 a b =>
 (Ys x0 x1).bind fun d =>
 bif (decide (a < (d.L.length : Int))) then
 (Ys d.L a).bind fun c =>
 bif (decide (c < (0:Int))) then
 none
 else
 bif (decide (c ≥ x1)) then
 none
 else
 (rec_raddleref04_walk x0 c b).bind fun e =>
 bif (!e.2) then
 none
 else
 Lf K rec_raddleref04_walk k x0 x1 (IntKind.i64.wrap (a + (1:Int))) e.1
 else
 (ck (roomy 8 (b.length + [x1].length) = true)).bind fun _ =>
 some ((b ++ [x1]), true)
def Dg (K : Nat) (rec_raddleref04_walk : (List Q5) → Int → (List Int) → Option ((List Int) × Bool)) (x0 : List Q5) (x1 : Int) (x2 : List Int) : Option ((List Int) × Bool) :=
 bif (decide ((x2.length : Int) ≥ (x0.length : Int))) then
 none
 else
 Lf K rec_raddleref04_walk K x0 x1 (0:Int) x2
def Kv (K : Nat) : Nat → (List Q5) → Int → (List Int) → Option ((List Int) × Bool)
 | 0 => fun _ _ _ => none
 | n + 1 => Dg K (Kv K n)
def Qbd (K : Nat) (x0 : List Q5) (x1 : Int) (x2 : List Int) : Option ((List Int) × Bool) := Kv K K x0 x1 x2
def Ga (K : Nat) (a : Bool) (b : Bool) (c : Bool) (x0 : Q5) (d : Bool) : Option Bool :=
 bif d then
 bif (!a) then
 bif (!b) then
 bif (!c) then
 some (decide ((x0.L.length : Int) ≥ (2:Int)))
 else
 none
 else
 none
 else
 none
 else
 none
def E5 (K : Nat) (x0 : Q5) : Option Bool :=
 bif (x0.Lo != (0:Int)) then
 none
 else
 bif (x0.Op == (1:Int)) then
 none
 else
 bif (x0.Op == (2:Int)) then
 bif (!(Zy.same x0.S (Zy.mk 0 0 0 0))) then
 bif (!(x0.Hi != (0:Int))) then
 bif (!(!(x0.Name.toList == (⟨#[]⟩ : ByteArray).toList))) then
 some ((x0.L.length : Int) == (0:Int))
 else
 none
 else
 none
 else
 none
 else
 bif (x0.Op == (3:Int)) then
 Ga K (!(Zy.same x0.S (Zy.mk 0 0 0 0))) (x0.Hi != (0:Int)) (!(x0.Name.toList == (⟨#[]⟩ : ByteArray).toList)) x0 (x0.Op == (3:Int))
 else
 Ga K (!(Zy.same x0.S (Zy.mk 0 0 0 0))) (x0.Hi != (0:Int)) (!(x0.Name.toList == (⟨#[]⟩ : ByteArray).toList)) x0 (x0.Op == (4:Int))
def Gb (K : Nat) : Nat → Int → (List Int) → Option Bool
 | 0 => fun _ _ => none
 | k + 1 => fun a b =>
 bif (decide (a < (b.length : Int))) then
 (Ys b a).bind fun c =>
 bif (c != a) then
 none
 else
 Gb K k (IntKind.i64.wrap (a + (1:Int))) b
 else
 some true
def Gc (K : Nat) : Nat → (List Q5) → Int → Option Bool
 | 0 => fun _ _ => none
 | k + 1 => fun x0 a =>
 bif (decide (a < (x0.length : Int))) then
 (Ys x0 a).bind fun c =>
 (E5 K c).bind fun d =>
 bif (!d) then
 none
 else
 Gc K k x0 (IntKind.i64.wrap (a + (1:Int)))
 else
 (Qbd K x0 (IntKind.i64.wrap ((x0.length : Int) - (1:Int))) ([] : List Int)).bind fun b =>
 bif (!b.2) then
 none
 else
 bif ((b.1.length : Int) != (x0.length : Int)) then
 none
 else
 Gb K K (0:Int) b.1
def Mt (K : Nat) (x0 : List Q5) : Option Bool :=
 bif (decide ((x0.length : Int) < (1:Int))) then
 none
 else
 bif (decide ((x0.length : Int) > (1024:Int))) then
 none
 else
 Gc K K x0 (0:Int)
def H9 (K : Nat) : Nat → (List Q5) → Int → Option Bool
 | 0 => fun _ _ => none
 | k + 1 => fun x0 a =>
 bif (decide (a < (x0.length : Int))) then
 (Ys x0 a).bind fun b =>
 bif (b.Op == (6:Int)) then
 some false
 else
 H9 K k x0 (IntKind.i64.wrap (a + (1:Int)))
 else
 (Mt K x0).bind fun c =>
 some c
def Mq (K : Nat) (x0 : List Q5) : Option Bool :=
 H9 K K x0 (0:Int)
def Le (K : Nat) (x0 : Q2) (x1 : Q5) : Option (Int × Q2) :=
 bif (decide ((x0.out.length : Int) ≥ (1024:Int))) then
 none
 else
 (ck (roomy 96 (x0.out.length + [x1].length) = true)).bind fun _ =>
 some ((IntKind.i64.wrap (((x0.out ++ [x1]).length : Int) - (1:Int))), (Q2.mk x0.l x0.most (x0.out ++ [x1]) x0.long))
def Uo (K : Nat) (rec_raddleref08_planner_plan : Q2 → Int → Option (Int × Q2)) : Nat → Int → (List Q5) → Int → Bool → (List Q5) → Int → Zy → (List Int) → Int → Int → ByteArray → (List Int) → Option (Int × Q2)
 | 0 => fun _ _ _ _ _ _ _ _ _ _ _ _ => none
 | k + 1 => fun b e f g i j m c n o p d =>
 bif (decide (b < (c.length : Int))) then
 (Ys c b).bind fun r =>
 (rec_raddleref08_planner_plan (Q2.mk e f i g) r).bind fun a =>
 (ck (roomy 8 (d.length + [a.1].length) = true)).bind fun _ =>
 Uo K rec_raddleref08_planner_plan k (IntKind.i64.wrap (b + (1:Int))) a.2.l a.2.most a.2.long a.2.out j m c n o p (d ++ [a.1])
 else
 (Le K (Q2.mk e f i g) (Q5.mk j m d n o p)).bind fun q =>
 some (q.1, q.2)
def W6 (K : Nat) (rec_raddleref08_planner_plan : Q2 → Int → Option (Int × Q2)) (x0 : Q2) (x1 : Int) : Option (Int × Q2) :=
 (Ys x0.l x1).bind fun a =>
 bif x0.long then
 none
 else
 bif (a.Op == (5:Int)) then
 none
 else
 Uo K rec_raddleref08_planner_plan K (0:Int) x0.l x0.most x0.long x0.out a.Op a.S a.L a.Lo a.Hi a.Name []
def U2 (K : Nat) : Nat → Q2 → Int → Option (Int × Q2)
 | 0 => fun _ _ => none
 | n + 1 => W6 K (U2 K n)
def Cr (K : Nat) (x0 : Q2) (x1 : Int) : Option (Int × Q2) := U2 K K x0 x1
def Iz (K : Nat) (x0 : List Q5) (x1 : Int) : Option ((List Q5) × Int) :=
 (Mq K x0).bind fun b =>
 bif (!b) then
 none
 else
 bif (decide (x1 < (1:Int))) then
 none
 else
 bif (decide (x1 > (4096:Int))) then
 none
 else
 (Cr K (Q2.mk x0 x1 [] false) (IntKind.i64.wrap ((x0.length : Int) - (1:Int)))).bind fun a =>
 bif a.2.long then
 none
 else
 (Mt K a.2.out).bind fun c =>
 bif (!c) then
 none
 else
 some (a.2.out, (0:Int))
def Ld (K : Nat) (e : (List Int) → (List Int) → Int → Int → (List Int) → Option (List Int)) (x0 : List Int) (x1 : List Int) (b : Int) (a : Int) (c : List Int) : Option (List Int) :=
 bif (a == (x1.length : Int)) then
 none
 else
 bif (decide (b < (x0.length : Int))) then
 (Ys x0 b).bind fun d =>
 (Ys x1 a).bind fun g =>
 bif (decide (d < g)) then
 (ck (roomy 8 (c.length + [d].length) = true)).bind fun _ =>
 e x0 x1 (IntKind.i64.wrap (b + (1:Int))) a (c ++ [d])
 else
 none
 else
 (Ys x1 a).bind fun f =>
 (ck (roomy 8 (c.length + [f].length) = true)).bind fun _ =>
 e x0 x1 b (IntKind.i64.wrap (a + (1:Int))) (c ++ [f])
def Ue (K : Nat) : Nat → (List Int) → (List Int) → Int → Int → (List Int) → Option (List Int)
 | 0 => fun _ _ _ _ _ => none
 | k + 1 => fun x0 x1 a b c =>
 bif (decide (a < (x0.length : Int))) then
 Ld K (Ue K k) x0 x1 a b c
 else
 bif (decide (b < (x1.length : Int))) then
 Ld K (Ue K k) x0 x1 a b c
 else
 some c
def Jx (K : Nat) (x0 : List Int) (x1 : List Int) : Option (List Int) :=
 Ue K K x0 x1 (0:Int) (0:Int) []
def Un (K : Nat) : Nat → (List Int) → (List Int) → Int → (List Zl) → Option Qm
 | 0 => fun _ _ _ _ => none
 | k + 1 => fun x1 x2 b c =>
 bif (decide (b < (x1.length : Int))) then
 (Ys x1 b).bind fun d =>
 (Ys c d).bind fun a =>
 (Jx K a.Next x2).bind fun e =>
 Un K k x1 x2 (IntKind.i64.wrap (b + (1:Int))) (List.set c (Int.toNat d) (Zl.mk a.S a.Lo a.Hi a.Rule a.Last e))
 else
 some (Qm.mk c)
def Gr (K : Nat) (x0 : Qm) (x1 : List Int) (x2 : List Int) : Option Qm :=
 Un K K x1 x2 (0:Int) x0.p
def U1 (K : Nat) (a : (List Qw) → Int → (List Zl) → Bool → (List Int) → (List Int) → Option (Qw × Qm)) (x1 : List Qw) (b : Int) (c : List Zl) (g : Bool) (d : List Int) (i : List Int) (e : Bool) (j : List Int) (f : List Int) : Option (Qw × Qm) :=
 bif e then
 none
 else
 bif g then
 a x1 (IntKind.i64.wrap (b + (1:Int))) c e d f
 else
 a x1 (IntKind.i64.wrap (b + (1:Int))) c false d f
def Yy (K : Nat) : Nat → (List Qw) → Int → (List Zl) → Bool → (List Int) → (List Int) → Option (Qw × Qm)
 | 0 => fun _ _ _ _ _ _ => none
 | k + 1 => fun x1 b f c e d =>
 bif (decide (b < (x1.length : Int))) then
 (Ys x1 b).bind fun a =>
 (Gr K (Qm.mk f) d a.first).bind fun g =>
 bif c then
 (Jx K e a.first).bind fun i =>
 U1 K (Yy K k) x1 b g.p c i d a.null a.first a.last
 else
 U1 K (Yy K k) x1 b g.p c e d a.null a.first a.last
 else
 some ((Qw.mk c e d), (Qm.mk f))
def Lc (K : Nat) (x0 : Qm) (x1 : List Qw) : Option (Qw × Qm) :=
 Yy K K x1 (0:Int) x0.p true [] []
def Lb (K : Nat) (x0 : Qm) (x1 : Zl) : Option (Qw × Qm) :=
 (ck (roomy 88 (x0.p.length + [x1].length) = true)).bind fun _ =>
 some ((Qw.mk false [(IntKind.i64.wrap (((x0.p ++ [x1]).length : Int) - (1:Int)))] [(IntKind.i64.wrap (((x0.p ++ [x1]).length : Int) - (1:Int)))]), (Qm.mk (x0.p ++ [x1])))
def Ul (K : Nat) (rec_raddleref09_builder_node : Qm → (List Q5) → Int → Int → Option (Qw × Qm)) : Nat → Int → (List Zl) → (List Int) → (List Int) → Int → Zy → (List Int) → Int → Int → ByteArray → (List Qw) → Bool → (List Int) → (List Int) → Option (Qw × Qm)
 | 0 => fun _ _ _ _ _ _ _ _ _ _ _ _ _ _ => none
 | k + 1 => fun a d j l e m n o p q b f g i =>
 bif (decide (a < (b.length : Int))) then
 bif f then
 none
 else
 (Ys b a).bind fun c =>
 (Jx K g c.first).bind fun r =>
 (Jx K i c.last).bind fun s =>
 Ul K rec_raddleref09_builder_node k (IntKind.i64.wrap (a + (1:Int))) d j l e m n o p q b c.null r s
 else
 bif (e == (5:Int)) then
 none
 else
 some ((Qw.mk f g i), (Qm.mk d))
def Um (K : Nat) (rec_raddleref09_builder_node : Qm → (List Q5) → Int → Int → Option (Qw × Qm)) : Nat → (List Q5) → Int → Int → (List Zl) → Int → Zy → (List Int) → Int → Int → ByteArray → (List Qw) → Option (Qw × Qm)
 | 0 => fun _ _ _ _ _ _ _ _ _ _ _ => none
 | k + 1 => fun x1 x3 d e a g b i j l c =>
 bif (decide (d < (b.length : Int))) then
 (Ys b d).bind fun n =>
 (rec_raddleref09_builder_node (Qm.mk e) x1 n x3).bind fun f =>
 (ck (roomy 56 (c.length + [f.1].length) = true)).bind fun _ =>
 Um K rec_raddleref09_builder_node k x1 x3 (IntKind.i64.wrap (d + (1:Int))) f.2.p a g b i j l (c ++ [f.1])
 else
 bif (a == (3:Int)) then
 (Lc K (Qm.mk e) c).bind fun m =>
 some (m.1, m.2)
 else
 Ul K rec_raddleref09_builder_node K (0:Int) e [] [] a g b i j l c (a == (5:Int)) [] []
def W5 (K : Nat) (rec_raddleref09_builder_node : Qm → (List Q5) → Int → Int → Option (Qw × Qm)) (x0 : Qm) (x1 : List Q5) (x2 : Int) (x3 : Int) : Option (Qw × Qm) :=
 (Ys x1 x2).bind fun a =>
 bif (a.Op == (1:Int)) then
 none
 else
 bif (a.Op == (2:Int)) then
 (Lb K x0 (Zl.mk a.S (1:Int) (1:Int) x3 false [])).bind fun b =>
 some (b.1, b.2)
 else
 bif (a.Op == (5:Int)) then
 none
 else
 Um K rec_raddleref09_builder_node K x1 x3 (0:Int) x0.p a.Op a.S a.L a.Lo a.Hi a.Name []
def Uz (K : Nat) : Nat → Qm → (List Q5) → Int → Int → Option (Qw × Qm)
 | 0 => fun _ _ _ _ => none
 | n + 1 => W5 K (Uz K n)
def Cq (K : Nat) (x0 : Qm) (x1 : List Q5) (x2 : Int) (x3 : Int) : Option (Qw × Qm) := Uz K K x0 x1 x2 x3
def H8 (K : Nat) : Nat → (List Q5) → Int → Option Bool
 | 0 => fun _ _ => none
 | k + 1 => fun x0 a =>
 bif (decide (a < (x0.length : Int))) then
 (Ys x0 a).bind fun b =>
 bif (b.Op == (5:Int)) then
 none
 else
 H8 K k x0 (IntKind.i64.wrap (a + (1:Int)))
 else
 some true
def E4 (K : Nat) (x0 : List Q5) : Option Bool :=
 (Mq K x0).bind fun a =>
 bif (!a) then
 none
 else
 H8 K K x0 (0:Int)
def Mo (K : Nat) (e : (List (List Q5)) → Int → (List Int) → (List Zl) → (List Zl) → (List Int) → (List Zl) → Option (Qj × Int)) : Nat → (List (List Q5)) → Int → Int → (List Int) → (List Zl) → (List Zl) → (List Int) → (List Zl) → Bool → (List Int) → (List Int) → Option (Qj × Int)
 | 0 => fun _ _ _ _ _ _ _ _ _ _ _ => none
 | k + 1 => fun x0 f c g i b j l n o d =>
 bif (decide (c < (d.length : Int))) then
 (Ys d c).bind fun m =>
 (Ys b m).bind fun a =>
 Mo K e k x0 f (IntKind.i64.wrap (c + (1:Int))) g i (List.set b (Int.toNat m) (Zl.mk a.S a.Lo a.Hi a.Rule true a.Next)) j l n o d
 else
 bif (decide ((b.length : Int) > (512:Int))) then
 none
 else
 e x0 (IntKind.i64.wrap (f + (1:Int))) g i b j l
def Gt (K : Nat) : Nat → (List (List Q5)) → Int → (List Int) → (List Zl) → (List Zl) → (List Int) → (List Zl) → Option (Qj × Int)
 | 0 => fun _ _ _ _ _ _ _ => none
 | k + 1 => fun x0 b f g c d i =>
 bif (decide (b < (x0.length : Int))) then
 (Ys x0 b).bind fun e =>
 (Cq K (Qm.mk c) e (IntKind.i64.wrap ((e.length : Int) - (1:Int))) b).bind fun a =>
 (Jx K d a.1.first).bind fun j =>
 Mo K (Gt K k) K x0 b (0:Int) f g a.2.p j i a.1.null a.1.first a.1.last
 else
 some ((Qj.mk d c), (0:Int))
def Mp (K : Nat) : Nat → (List (List Q5)) → Int → Option (Qj × Int)
 | 0 => fun _ _ => none
 | k + 1 => fun x0 a =>
 bif (decide (a < (x0.length : Int))) then
 (Ys x0 a).bind fun b =>
 (E4 K b).bind fun c =>
 bif (!c) then
 none
 else
 Mp K k x0 (IntKind.i64.wrap (a + (1:Int)))
 else
 Gt K K x0 (0:Int) [] [] [] [] []
def Sc (K : Nat) (x0 : List (List Q5)) : Option (Qj × Int) :=
 bif (decide ((x0.length : Int) > (512:Int))) then
 none
 else
 Mp K K x0 (0:Int)
def Uu (K : Nat) : Option Bool :=
 some false
def Vy (K : Nat) : Nat → (List Int) → Int → Int → Option Bool
 | 0 => fun _ _ _ => none
 | k + 1 => fun x0 x1 a =>
 bif (decide (a < (x0.length : Int))) then
 (Ys x0 a).bind fun b =>
 bif (decide (b < (0:Int))) then
 Uu K
 else
 bif (decide (b ≥ x1)) then
 Uu K
 else
 bif (decide (a > (0:Int))) then
 (Ys x0 (IntKind.i64.wrap (a - (1:Int)))).bind fun c =>
 bif (decide (c ≥ b)) then
 Uu K
 else
 Vy K k x0 x1 (IntKind.i64.wrap (a + (1:Int)))
 else
 Vy K k x0 x1 (IntKind.i64.wrap (a + (1:Int)))
 else
 some true
def Wj (K : Nat) (x0 : List Int) (x1 : Int) : Option Bool :=
 Vy K K x0 x1 (0:Int)
def J4 (K : Nat) : Option Bool :=
 some false
def Yx (K : Nat) : Option Bool :=
 some false
def Vz (K : Nat) : Nat → Int → Qj → Option Bool
 | 0 => fun _ _ => none
 | k + 1 => fun b x0 =>
 bif (decide (b < (x0.P.length : Int))) then
 (Ys x0.P b).bind fun a =>
 bif (Zy.same a.S (Zy.mk 0 0 0 0)) then
 Yx K
 else
 bif (decide (a.Lo < (1:Int))) then
 Yx K
 else
 bif (decide (a.Lo > a.Hi)) then
 Yx K
 else
 bif (decide (a.Hi > (4096:Int))) then
 Yx K
 else
 bif (decide (a.Rule < (0:Int))) then
 Yx K
 else
 bif (decide (a.Rule ≥ (512:Int))) then
 Yx K
 else
 (Wj K a.Next (x0.P.length : Int)).bind fun c =>
 bif (!c) then
 Yx K
 else
 Vz K k (IntKind.i64.wrap (b + (1:Int))) x0
 else
 some true
def Vk (K : Nat) (x0 : Qj) : Option Bool :=
 bif (decide ((x0.P.length : Int) > (512:Int))) then
 J4 K
 else
 (Wj K x0.First (x0.P.length : Int)).bind fun a =>
 bif (!a) then
 J4 K
 else
 Vz K K (0:Int) x0
def V0 (K : Nat) : Nat → (List Zy) → Int → Int → Int → Option Bool
 | 0 => fun _ _ _ _ => none
 | k + 1 => fun x0 x1 x2 a =>
 bif (decide (a < (x0.length : Int))) then
 (Ys x0 a).bind fun b =>
 (Vd K b x1).bind fun c =>
 (Vd K b x2).bind fun d =>
 bif (!(c == d)) then
 some false
 else
 V0 K k x0 x1 x2 (IntKind.i64.wrap (a + (1:Int)))
 else
 some true
def Mu (K : Nat) (x0 : List Zy) (x1 : Int) (x2 : Int) : Option Bool :=
 V0 K K x0 x1 x2 (0:Int)
def Uj (K : Nat) (b : (List Zy) → Int → Zp → Zp → (List Int) → Option Q8) (x0 : List Zy) (a : Int) (c : Int) (d : Zp) (e : Zp) (f : List Int) : Option Q8 :=
 (ck (0 ≤ a ∧ a < 256)).bind fun _ =>
 b x0 (IntKind.i64.wrap (a + (1:Int))) d (Zp.set e a (IntKind.u8.wrap c)) f
def Xc (K : Nat) (d : (List Zy) → Int → Zp → Zp → (List Int) → Option Q8) : Nat → (List Zy) → Int → Int → Zp → Zp → (List Int) → Option Q8
 | 0 => fun _ _ _ _ _ _ => none
 | k + 1 => fun x0 b c e f a =>
 bif (decide (c < (a.length : Int))) then
 (Ys a c).bind fun g =>
 (Mu K x0 g (IntKind.u8.wrap b)).bind fun i =>
 bif (!i) then
 Xc K d k x0 b (IntKind.i64.wrap (c + (1:Int))) e f a
 else
 bif (c == (a.length : Int)) then
 (ck (roomy 1 (a.length + [(IntKind.u8.wrap b)].length) = true)).bind fun _ =>
 Uj K d x0 b c e f (a ++ [(IntKind.u8.wrap b)])
 else
 Uj K d x0 b c e f a
 else
 bif (c == (a.length : Int)) then
 (ck (roomy 1 (a.length + [(IntKind.u8.wrap b)].length) = true)).bind fun _ =>
 Uj K d x0 b c e f (a ++ [(IntKind.u8.wrap b)])
 else
 Uj K d x0 b c e f a
def Xd (K : Nat) : Nat → (List Zy) → Int → Zp → Zp → (List Int) → Option Q8
 | 0 => fun _ _ _ _ _ => none
 | k + 1 => fun x0 a d b c =>
 bif (decide (a < (256:Int))) then
 Xc K (Xd K k) K x0 a (0:Int) d b c
 else
 some (Q8.mk b (c.length : Int))
def Bp (K : Nat) (x0 : List Zy) : Option Q8 :=
 Xd K K x0 (0:Int) (Zp.mk fun _ => 0) (Zp.mk fun _ => 0) []
def J0 (K : Nat) : Option Int :=
 some (0:Int)
def Jz (K : Nat) : Nat → Int → Int → Int → Option Int
 | 0 => fun _ _ _ => none
 | k + 1 => fun x0 a b =>
 bif (decide (b < x0)) then
 Jz K k x0 (IntKind.i64.wrap (a * (3:Int))) (IntKind.i64.wrap (b + (1:Int)))
 else
 some a
def Je (K : Nat) (x0 : Int) : Option Int :=
 bif (decide (x0 < (0:Int))) then
 J0 K
 else
 bif (decide (x0 > (3:Int))) then
 J0 K
 else
 Jz K K x0 (1:Int) (0:Int)
def Yo (K : Nat) : Nat → Int → Int → Int → Qb → Qa → Option Int
 | 0 => fun _ _ _ _ _ => none
 | k + 1 => fun b x3 a x0 x1 =>
 bif (decide (a < (x1.R.length : Int))) then
 (Ys x1.R a).bind fun c =>
 (Ys x0.number x3).bind fun d =>
 bif (c == d) then
 some (Int.tmod b (3:Int))
 else
 Yo K k (IntKind.i64.wrap (Int.tdiv b (3:Int))) x3 (IntKind.i64.wrap (a + (1:Int))) x0 x1
 else
 some (-1:Int)
def Ua (K : Nat) (x0 : Qb) (x1 : Qa) (x2 : Int) (x3 : Int) : Option Int :=
 Yo K K x2 x3 (0:Int) x0 x1
def X4 (K : Nat) (x0 : Qb) (x1 : Qa) (x2 : Int) (x3 : Int) : Option Bool :=
 (Ua K x0 x1 x2 x3).bind fun a =>
 some (a != (0:Int))
def Vb (K : Nat) (a : Int → Int → Int → Qb → Qa → Option Int) (x2 : Int) (b : Int) (x1 : Qa) (d : Int) (e : Int) (f : Int) (g : Bool) (i : Int) (j : Bool) (l : Bool) (m : Bool) (x0 : Qb) (n : Zy) (o : Int) (p : Int) (c : Int) (q : Bool) (r : List Int) : Option Int :=
 a x2 c (IntKind.i64.wrap (b + (1:Int))) x0 x1
def Zi (K : Nat) : Nat → Int → Int → Int → Qb → Qa → Option Int
 | 0 => fun _ _ _ _ _ => none
 | k + 1 => fun x2 b c x0 x1 =>
 bif (decide (c < (x1.L.length : Int))) then
 (Ys x1.L c).bind fun d =>
 (Ys x0.g.P d).bind fun a =>
 bif a.Last then
 (X4 K x0 x1 x2 d).bind fun e =>
 bif e then
 bif (decide (b < (0:Int))) then
 Vb K (Zi K k) x2 c x1 c d d e b (decide (b < (0:Int))) (decide (b < (0:Int))) true x0 a.S a.Lo a.Hi a.Rule a.Last a.Next
 else
 bif (decide (a.Rule < b)) then
 Vb K (Zi K k) x2 c x1 c d d e b (decide (b < (0:Int))) (decide (b < (0:Int))) (decide (a.Rule < b)) x0 a.S a.Lo a.Hi a.Rule a.Last a.Next
 else
 Zi K k x2 b (IntKind.i64.wrap (c + (1:Int))) x0 x1
 else
 Zi K k x2 b (IntKind.i64.wrap (c + (1:Int))) x0 x1
 else
 Zi K k x2 b (IntKind.i64.wrap (c + (1:Int))) x0 x1
 else
 some b
def Jv (K : Nat) (x0 : Qb) (x1 : Qa) (x2 : Int) : Option Int :=
 Zi K K x2 (-1:Int) (0:Int) x0 x1
def V4 (K : Nat) : Nat → Int → Int → Q8 → Zy → (List Int) → Option Zy
 | 0 => fun _ _ _ _ _ => none
 | k + 1 => fun x1 a x0 c b =>
 bif (decide (a < (256:Int))) then
 (ck (0 ≤ a ∧ a < 256)).bind fun _ =>
 bif ((IntKind.i64.wrap (Zp.get x0.Of a)) == x1) then
 (ck (roomy 1 (b.length + [(IntKind.u8.wrap a)].length) = true)).bind fun _ =>
 V4 K k x1 (IntKind.i64.wrap (a + (1:Int))) x0 c (b ++ [(IntKind.u8.wrap a)])
 else
 V4 K k x1 (IntKind.i64.wrap (a + (1:Int))) x0 c b
 else
 (Kd K b).bind fun d =>
 some d
def Ma (K : Nat) (x0 : Q8) (x1 : Int) : Option Zy :=
 V4 K K x1 (0:Int) x0 (Zy.mk 0 0 0 0) []
def Vc (K : Nat) : Nat → Int → Zy → (List Int) → Option (List Int)
 | 0 => fun _ _ _ => none
 | k + 1 => fun a x0 b =>
 bif (decide (a < (256:Int))) then
 (Vd K x0 (IntKind.u8.wrap a)).bind fun c =>
 bif c then
 (ck (roomy 1 (b.length + [(IntKind.u8.wrap a)].length) = true)).bind fun _ =>
 Vc K k (IntKind.i64.wrap (a + (1:Int))) x0 (b ++ [(IntKind.u8.wrap a)])
 else
 Vc K k (IntKind.i64.wrap (a + (1:Int))) x0 b
 else
 some b
def B0 (K : Nat) (x0 : Zy) : Option (List Int) :=
 Vc K K (0:Int) x0 []
def Ge (K : Nat) : Option (List Int) :=
 some []
def Xu (K : Nat) : Nat → Int → Q8 → (List Int) → Option (List Int)
 | 0 => fun _ _ _ => none
 | k + 1 => fun b x0 a =>
 bif (decide (b < x0.Many)) then
 (Ma K x0 b).bind fun e =>
 (B0 K e).bind fun c =>
 bif ((c.length : Int) == (0:Int)) then
 (ck (roomy 1 (a.length + [(0:Int)].length) = true)).bind fun _ =>
 Xu K k (IntKind.i64.wrap (b + (1:Int))) x0 (a ++ [(0:Int)])
 else
 (Ys c (0:Int)).bind fun d =>
 (ck (roomy 1 (a.length + [d].length) = true)).bind fun _ =>
 Xu K k (IntKind.i64.wrap (b + (1:Int))) x0 (a ++ [d])
 else
 some a
def Wk (K : Nat) (x0 : Q8) : Option (List Int) :=
 bif (decide (x0.Many < (1:Int))) then
 Ge K
 else
 bif (decide (x0.Many > (256:Int))) then
 Ge K
 else
 Xu K K (0:Int) x0 []
def Vj (K : Nat) : Nat → (List Int) → Int → Int → Option Bool
 | 0 => fun _ _ _ => none
 | k + 1 => fun x0 x1 a =>
 bif (decide (a < (x0.length : Int))) then
 (Ys x0 a).bind fun b =>
 bif (b == x1) then
 some true
 else
 Vj K k x0 x1 (IntKind.i64.wrap (a + (1:Int)))
 else
 some false
def Wc (K : Nat) (x0 : List Int) (x1 : Int) : Option Bool :=
 Vj K K x0 x1 (0:Int)
def Z8 (K : Nat) : Nat → Int → Int → Int → Qb → Qa → Option Bool
 | 0 => fun _ _ _ _ _ => none
 | k + 1 => fun x3 x4 a x0 x2 =>
 bif (decide (a < (x2.L.length : Int))) then
 (Ys x2.L a).bind fun b =>
 (X4 K x0 x2 x3 b).bind fun c =>
 bif c then
 (Ys x0.g.P b).bind fun d =>
 (Wc K d.Next x4).bind fun e =>
 bif e then
 some true
 else
 Z8 K k x3 x4 (IntKind.i64.wrap (a + (1:Int))) x0 x2
 else
 Z8 K k x3 x4 (IntKind.i64.wrap (a + (1:Int))) x0 x2
 else
 some false
def Vp (K : Nat) (x0 : Qb) (x1 : Int) (x2 : Qa) (x3 : Int) (x4 : Int) : Option Bool :=
 bif (x1 == (0:Int)) then
 (Wc K x0.g.First x4).bind fun a =>
 some a
 else
 Z8 K K x3 x4 (0:Int) x0 x2
def V9 (K : Nat) (x0 : Qb) (x1 : Qa) (x2 : Int) (x3 : Int) : Option Bool :=
 (Ua K x0 x1 x2 x3).bind fun a =>
 (Wc K x1.L x3).bind fun b =>
 bif b then
 bif (a == (0:Int)) then
 some true
 else
 some (a == (2:Int))
 else
 some false
def Yi (K : Nat) (c : (List Int) → Int → Qb → Option (Int × Qb)) : Nat → (List Int) → Int → (List Int) → Bool → Int → Qb → Option (Int × Qb)
 | 0 => fun _ _ _ _ _ _ => none
 | k + 1 => fun x1 b d e a x0 =>
 bif (decide (a < (x1.length : Int))) then
 bif e then
 (Ys d a).bind fun f =>
 (Ys x1 a).bind fun g =>
 Yi K c k x1 b d (f == g) (IntKind.i64.wrap (a + (1:Int))) x0
 else
 Yi K c k x1 b d false (IntKind.i64.wrap (a + (1:Int))) x0
 else
 bif e then
 some (b, x0)
 else
 c x1 (IntKind.i64.wrap (b + (1:Int))) x0
def Z5 (K : Nat) : Nat → (List Int) → Int → Qb → (List Int) → Option (Int × Qb)
 | 0 => fun _ _ _ _ => none
 | k + 1 => fun x1 c x0 b =>
 bif (decide (c < (x1.length : Int))) then
 (Ys x1 c).bind fun f =>
 (Ys x0.number f).bind fun d =>
 bif (decide (d ≥ (0:Int))) then
 (ck (roomy 8 (b.length + [d].length) = true)).bind fun _ =>
 Z5 K k x1 (IntKind.i64.wrap (c + (1:Int))) x0 (b ++ [d])
 else
 Z5 K k x1 (IntKind.i64.wrap (c + (1:Int))) x0 b
 else
 bif (decide ((b.length : Int) > (3:Int))) then
 some ((0:Int), (Qb.mk x0.g x0.number x0.a (110:Int)))
 else
 bif (decide ((x0.a.States.length : Int) ≥ (256:Int))) then
 some ((0:Int), (Qb.mk x0.g x0.number x0.a (3:Int)))
 else
 (ck (roomy 96 (x0.a.States.length + [(Qa.mk x1 b [] [])].length) = true)).bind fun _ =>
 some ((IntKind.i64.wrap (((x0.a.States ++ [(Qa.mk x1 b [] [])]).length : Int) - (1:Int))), (Qb.mk x0.g x0.number (Qq.mk x0.a.Split x0.a.Counts (x0.a.States ++ [(Qa.mk x1 b [] [])])) x0.e))
def Zd (K : Nat) : Nat → (List Int) → Int → Qb → Option (Int × Qb)
 | 0 => fun _ _ _ => none
 | k + 1 => fun x1 b x0 =>
 bif (decide (b < (x0.a.States.length : Int))) then
 (Ys x0.a.States b).bind fun c =>
 bif ((c.L.length : Int) == (x1.length : Int)) then
 Yi K (Zd K k) K x1 b c.L true (0:Int) x0
 else
 Zd K k x1 (IntKind.i64.wrap (b + (1:Int))) x0
 else
 Z5 K K x1 (0:Int) x0 []
def Yr (K : Nat) (x0 : Qb) (x1 : List Int) : Option (Int × Qb) :=
 Zd K K x1 (1:Int) x0
def Y9 (K : Nat) (b : Int → Int → Int → Int → Qb → (List Int) → (List Int) → (List Int) → (List (List Qf)) → (List Int) → (List Int) → Option (Qf × Qb)) (x1 : Int) (x2 : Int) (c : Int) (d : Int) (l : Bool) (x0 : Qb) (e : List Int) (f : List Int) (g : List Int) (i : List (List Qf)) (j : List Int) (a : List Int) : Option (Qf × Qb) :=
 bif l then
 (ck (roomy 1 (a.length + [(1:Int)].length) = true)).bind fun _ =>
 b x1 x2 c (IntKind.i64.wrap (d + (1:Int))) x0 e f g i j (a ++ [(1:Int)])
 else
 (ck (roomy 1 (a.length + [(3:Int)].length) = true)).bind fun _ =>
 b x1 x2 c (IntKind.i64.wrap (d + (1:Int))) x0 e f g i j (a ++ [(3:Int)])
def Xa (K : Nat) (d : Int → Int → Int → Int → Qb → (List Int) → (List Int) → (List Int) → (List (List Qf)) → (List Int) → (List Int) → Option (Qf × Qb)) (x1 : Int) (x2 : Int) (e : Int) (a : Int) (m : Bool) (l : Bool) (x0 : Qb) (f : List Int) (g : List Int) (i : List Int) (j : List (List Qf)) (b : List Int) (c : List Int) : Option (Qf × Qb) :=
 (ck (roomy 8 (b.length + [a].length) = true)).bind fun _ =>
 (Ys x0.number a).bind fun n =>
 bif (decide (n < (0:Int))) then
 d x1 x2 e (IntKind.i64.wrap (a + (1:Int))) x0 f g i j (b ++ [a]) c
 else
 bif m then
 bif l then
 (ck (roomy 1 (c.length + [(2:Int)].length) = true)).bind fun _ =>
 d x1 x2 e (IntKind.i64.wrap (a + (1:Int))) x0 f g i j (b ++ [a]) (c ++ [(2:Int)])
 else
 Y9 K d x1 x2 e a l x0 f g i j (b ++ [a]) c
 else
 Y9 K d x1 x2 e a l x0 f g i j (b ++ [a]) c
def Zf (K : Nat) : Nat → Int → Int → Int → Int → Qb → (List Int) → (List Int) → (List Int) → (List (List Qf)) → (List Int) → (List Int) → Option (Qf × Qb)
 | 0 => fun _ _ _ _ _ _ _ _ _ _ _ => none
 | k + 1 => fun x1 x2 i a x0 b c d e f j =>
 bif (decide (a < (x0.g.P.length : Int))) then
 (Ys x0.g.P a).bind fun o =>
 (Vd K o.S i).bind fun p =>
 bif (!p) then
 Zf K k x1 x2 i (IntKind.i64.wrap (a + (1:Int))) x0 b c d e f j
 else
 (Vp K x0 x1 (Qa.mk b c d e) x2 a).bind fun l =>
 (V9 K x0 (Qa.mk b c d e) x2 a).bind fun m =>
 bif (!l) then
 bif (!m) then
 Zf K k x1 x2 i (IntKind.i64.wrap (a + (1:Int))) x0 b c d e f j
 else
 Xa K (Zf K k) x1 x2 i a l m x0 b c d e f j
 else
 Xa K (Zf K k) x1 x2 i a l m x0 b c d e f j
 else
 bif ((f.length : Int) == (0:Int)) then
 some ((Qf.mk (-1:Int) []), x0)
 else
 (Yr K x0 f).bind fun n =>
 some ((Qf.mk n.1 j), n.2)
def X5 (K : Nat) (x0 : Qb) (x1 : Int) (x2 : Int) (x3 : Int) : Option (Qf × Qb) :=
 (Ys x0.a.States x1).bind fun b =>
 (Wk K x0.a.Split).bind fun c =>
 (Ys c x3).bind fun d =>
 Zf K K x1 x2 d (0:Int) x0 b.L b.R b.Rule b.Next [] []
def Xb (K : Nat) (m : Int → Int → Int → Zp → (List Xf) → (List Qa) → (List Int) → (List Zl) → Zp → Int → Int → (List Int) → (List Xf) → (List Qa) → (List Int) → (List (List Qf)) → Option (Qq × Int)) : Nat → Int → Int → Int → Int → Zp → (List Xf) → (List Qa) → (List Int) → (List Zl) → Zp → Int → Int → (List Int) → (List Xf) → (List Qa) → (List Int) → (List (List Qf)) → (List Qf) → Option (Qq × Int)
 | 0 => fun _ _ _ _ _ _ _ _ _ _ _ _ _ _ _ _ _ _ => none
 | k + 1 => fun d n f i o p q r s t j u v w y z l c =>
 bif (decide (i < j)) then
 (X5 K (Qb.mk (Qj.mk r s) v (Qq.mk (Q8.mk t j) w y) u) d f i).bind fun b =>
 (ck (roomy 32 (c.length + [b.1].length) = true)).bind fun _ =>
 bif (b.2.e != (0:Int)) then
 some ((Qq.mk (Q8.mk (Zp.mk fun _ => 0) (0:Int)) [] []), b.2.e)
 else
 Xb K m k d n f (IntKind.i64.wrap (i + (1:Int))) o p q b.2.g.First b.2.g.P b.2.a.Split.Of b.2.a.Split.Many b.2.e b.2.number b.2.a.Counts b.2.a.States z l (c ++ [b.1])
 else
 (ck (roomy 24 (l.length + [c].length) = true)).bind fun _ =>
 m d n (IntKind.i64.wrap (f + (1:Int))) o p q r s t j u v w y z (l ++ [c])
def Yq (K : Nat) (s : Int → Zp → (List Xf) → (List Qa) → (List Int) → (List Zl) → Zp → Int → Int → (List Int) → (List Xf) → (List Qa) → Option (Qq × Int)) : Nat → Int → Int → Int → Zp → (List Xf) → (List Qa) → (List Int) → (List Zl) → Zp → Int → Int → (List Int) → (List Xf) → (List Qa) → (List Int) → (List (List Qf)) → Option (Qq × Int)
 | 0 => fun _ _ _ _ _ _ _ _ _ _ _ _ _ _ _ _ => none
 | k + 1 => fun n t q u v w c d f i j l m b p y =>
 bif (decide (q < t)) then
 (Ys b n).bind fun aa =>
 (Jv K (Qb.mk (Qj.mk c d) l (Qq.mk (Q8.mk f i) m b) j) aa q).bind fun z =>
 (ck (roomy 8 (p.length + [z].length) = true)).bind fun _ =>
 Xb K (Yq K s k) K n t q (0:Int) u v w ((Qb.mk (Qj.mk c d) l (Qq.mk (Q8.mk f i) m b) j).g.First) ((Qb.mk (Qj.mk c d) l (Qq.mk (Q8.mk f i) m b) j).g.P) ((Qb.mk (Qj.mk c d) l (Qq.mk (Q8.mk f i) m b) j).a.Split.Of) ((Qb.mk (Qj.mk c d) l (Qq.mk (Q8.mk f i) m b) j).a.Split.Many) ((Qb.mk (Qj.mk c d) l (Qq.mk (Q8.mk f i) m b) j).e) ((Qb.mk (Qj.mk c d) l (Qq.mk (Q8.mk f i) m b) j).number) ((Qb.mk (Qj.mk c d) l (Qq.mk (Q8.mk f i) m b) j).a.Counts) ((Qb.mk (Qj.mk c d) l (Qq.mk (Q8.mk f i) m b) j).a.States) (p ++ [z]) y []
 else
 (Ys b n).bind fun o =>
 (Ys (List.set b (Int.toNat n) (Qa.mk o.L o.R p o.Next)) n).bind fun r =>
 s (IntKind.i64.wrap (n + (1:Int))) u v w c d f i j l m (List.set (List.set b (Int.toNat n) (Qa.mk o.L o.R p o.Next)) (Int.toNat n) (Qa.mk r.L r.R r.Rule y))
def Yd (K : Nat) : Nat → Int → Zp → (List Xf) → (List Qa) → (List Int) → (List Zl) → Zp → Int → Int → (List Int) → (List Xf) → (List Qa) → Option (Qq × Int)
 | 0 => fun _ _ _ _ _ _ _ _ _ _ _ _ => none
 | k + 1 => fun b f g i j l c d m n e a =>
 bif (decide (b < (a.length : Int))) then
 (Ys a b).bind fun o =>
 (Je K (o.R.length : Int)).bind fun p =>
 Yq K (Yd K k) K b p (0:Int) f g i j l c d m n e a [] []
 else
 some ((Qq.mk (Q8.mk c d) e a), (0:Int))
def Ui (K : Nat) : Nat → Int → Qj → Zp → (List Xf) → (List Qa) → Zp → (List Int) → (List Xf) → (List Qa) → (List Zy) → Option (Qq × Int)
 | 0 => fun _ _ _ _ _ _ _ _ _ _ => none
 | k + 1 => fun d x0 f g i j c b l e =>
 bif (decide (d < (x0.P.length : Int))) then
 (Ys x0.P d).bind fun a =>
 (ck (roomy 32 (e.length + [a.S].length) = true)).bind fun _ =>
 bif (decide (a.Hi > (1:Int))) then
 (ck (roomy 8 (c.length + [(b.length : Int)].length) = true)).bind fun _ =>
 (ck (roomy 16 (b.length + [(Xf.mk a.Lo a.Hi)].length) = true)).bind fun _ =>
 Ui K k (IntKind.i64.wrap (d + (1:Int))) x0 f g i j (c ++ [(b.length : Int)]) (b ++ [(Xf.mk a.Lo a.Hi)]) l (e ++ [a.S])
 else
 (ck (roomy 8 (c.length + [(-1:Int)].length) = true)).bind fun _ =>
 Ui K k (IntKind.i64.wrap (d + (1:Int))) x0 f g i j (c ++ [(-1:Int)]) b l (e ++ [a.S])
 else
 (Bp K e).bind fun m =>
 Yd K K (0:Int) f g i x0.First x0.P m.Of m.Many (0:Int) c b [(Qa.mk [] [] [] [])]
def Wd (K : Nat) (x0 : Qj) : Option (Qq × Int) :=
 (Vk K x0).bind fun a =>
 bif (!a) then
 some ((Qq.mk (Q8.mk (Zp.mk fun _ => 0) (0:Int)) [] []), (1:Int))
 else
 Ui K K (0:Int) x0 (Zp.mk fun _ => 0) [] [] (Zp.mk fun _ => 0) [] [] [] []
def Wb (K : Nat) : Nat → Int → Q8 → Int → Option Bool
 | 0 => fun _ _ _ => none
 | k + 1 => fun b x0 a =>
 bif (decide (a < (256:Int))) then
 (ck (0 ≤ a ∧ a < 256)).bind fun _ =>
 bif (decide ((IntKind.i64.wrap (Zp.get x0.Of a)) > b)) then
 some false
 else
 bif ((IntKind.i64.wrap (Zp.get x0.Of a)) == b) then
 Wb K k (IntKind.i64.wrap (b + (1:Int))) x0 (IntKind.i64.wrap (a + (1:Int)))
 else
 Wb K k b x0 (IntKind.i64.wrap (a + (1:Int)))
 else
 some (b == x0.Many)
def Og (K : Nat) (x0 : Q8) : Option Bool :=
 Wb K K (0:Int) x0 (0:Int)
def Dp (K : Nat) : Option Int :=
 some (0:Int)
def Do (K : Nat) : Nat → Int → Int → Int → Option Int
 | 0 => fun _ _ _ => none
 | k + 1 => fun a x0 b =>
 bif (decide (b < x0)) then
 Do K k (IntKind.i64.wrap (a * (3:Int))) x0 (IntKind.i64.wrap (b + (1:Int)))
 else
 some a
def N4 (K : Nat) (x0 : Int) : Option Int :=
 bif (decide (x0 < (0:Int))) then
 Dp K
 else
 bif (decide (x0 > (3:Int))) then
 Dp K
 else
 Do K K (1:Int) x0 (0:Int)
def Dm (K : Nat) : Option Bool :=
 some false
def Lm (K : Nat) : Nat → Int → Int → (List Int) → Int → Int → Option Bool
 | 0 => fun _ _ _ _ _ => none
 | k + 1 => fun x1 d x0 c a =>
 bif (decide (a < c)) then
 (Ys x0 a).bind fun b =>
 bif (decide (b ≤ d)) then
 Dm K
 else
 bif (decide (b ≥ x1)) then
 Dm K
 else
 Lm K k x1 b x0 c (IntKind.i64.wrap (a + (1:Int)))
 else
 some true
def N3 (K : Nat) (x0 : List Int) (x1 : Int) : Option Bool :=
 Lm K K x1 (-1:Int) x0 (x0.length : Int) (0:Int)
def Uc (K : Nat) : Nat → (List Int) → Int → Int → Int → Option Int
 | 0 => fun _ _ _ _ => none
 | k + 1 => fun x0 x1 b a =>
 bif (decide (a < b)) then
 (Ys x0 a).bind fun c =>
 bif (x1 == c) then
 some a
 else
 Uc K k x0 x1 b (IntKind.i64.wrap (a + (1:Int)))
 else
 some (-1:Int)
def Bv (K : Nat) (x0 : List Int) (x1 : Int) : Option Int :=
 Uc K K x0 x1 (x0.length : Int) (0:Int)
def Wp (K : Nat) (x0 : List Int) (x1 : Int) : Option Bool :=
 (Bv K x0 x1).bind fun a =>
 some (decide (a ≥ (0:Int)))
def Xx (K : Nat) : Option Bool :=
 some false
def Xw (K : Nat) : Option Bool :=
 some false
def Xv (K : Nat) : Nat → Qf → Int → Int → Zh → Qa → Option Bool
 | 0 => fun _ _ _ _ _ => none
 | k + 1 => fun x2 b a x0 x1 =>
 bif (decide (a < b)) then
 (Ys x2.Ops a).bind fun c =>
 bif (decide (c < (1:Int))) then
 Xw K
 else
 bif (decide (c > (3:Int))) then
 Xw K
 else
 bif (c != (3:Int)) then
 (Ys x0.Auto.States x2.To).bind fun d =>
 (Ys d.R a).bind fun e =>
 (Wp K x1.R e).bind fun f =>
 bif (!f) then
 Xw K
 else
 Xv K k x2 b (IntKind.i64.wrap (a + (1:Int))) x0 x1
 else
 Xv K k x2 b (IntKind.i64.wrap (a + (1:Int))) x0 x1
 else
 some true
def Gz (K : Nat) (x0 : Zh) (x1 : Qa) (x2 : Qf) : Option Bool :=
 bif (x2.To == (-1:Int)) then
 some ((x2.Ops.length : Int) == (0:Int))
 else
 bif (decide (x2.To < (1:Int))) then
 Xx K
 else
 bif (decide (x2.To ≥ (x0.Auto.States.length : Int))) then
 Xx K
 else
 (Ys x0.Auto.States x2.To).bind fun a =>
 bif ((x2.Ops.length : Int) != (a.R.length : Int)) then
 Xx K
 else
 Xv K K x2 (x2.Ops.length : Int) (0:Int) x0 x1
def Gf (K : Nat) (x0 : Qf) (x1 : Zh) (x2 : Qa) : Option Bool :=
 (Gz K x1 x2 x0).bind fun a =>
 some (!a)
def Y8 (K : Nat) : Nat → (List Qf) → Int → Int → Zh → Qa → Option Int
 | 0 => fun _ _ _ _ _ => none
 | k + 1 => fun x0 b a x1c0 x1c1 =>
 bif (decide (a < b)) then
 (Ys x0 a).bind fun c =>
 (Gf K c x1c0 x1c1).bind fun d =>
 bif d then
 some a
 else
 Y8 K k x0 b (IntKind.i64.wrap (a + (1:Int))) x1c0 x1c1
 else
 some (-1:Int)
def Hf (K : Nat) (x0 : List Qf) (x1c0 : Zh) (x1c1 : Qa) : Option Int :=
 Y8 K K x0 (x0.length : Int) (0:Int) x1c0 x1c1
def Uh (K : Nat) (x0 : List Qf) (x1c0 : Zh) (x1c1 : Qa) : Option Bool :=
 (Hf K x0 x1c0 x1c1).bind fun a =>
 some (decide (a ≥ (0:Int)))
def Z9 (K : Nat) : Option Bool :=
 some false
def Xk (K : Nat) : Option Bool :=
 some false
def Ve (K : Nat) : Nat → Qa → Int → Int → Zh → Option Bool
 | 0 => fun _ _ _ _ => none
 | k + 1 => fun x1 b a x0 =>
 bif (decide (a < b)) then
 (Ys x1.Next a).bind fun c =>
 (Ys x1.Rule a).bind fun d =>
 bif (decide (d < (-1:Int))) then
 Xk K
 else
 bif (decide (d ≥ (512:Int))) then
 Xk K
 else
 bif ((c.length : Int) != x0.Auto.Split.Many) then
 Xk K
 else
 (Uh K c x0 x1).bind fun e =>
 bif e then
 some false
 else
 Ve K k x1 b (IntKind.i64.wrap (a + (1:Int))) x0
 else
 some true
def Hl (K : Nat) (x0 : Zh) (x1 : Qa) : Option Bool :=
 (N4 K (x1.R.length : Int)).bind fun a =>
 bif (a == (0:Int)) then
 Z9 K
 else
 bif ((x1.Rule.length : Int) != a) then
 Z9 K
 else
 bif ((x1.Next.length : Int) != a) then
 Z9 K
 else
 (N3 K x1.L (512:Int)).bind fun b =>
 bif (!b) then
 Z9 K
 else
 (N3 K x1.R (x0.Auto.Counts.length : Int)).bind fun c =>
 bif (!c) then
 Z9 K
 else
 Ve K K x1 (x1.Next.length : Int) (0:Int) x0
def Rq (K : Nat) (x0 : Qa) (x1 : Zh) : Option Bool :=
 (Hl K x1 x0).bind fun a =>
 some (!a)
def Y1 (K : Nat) : Nat → (List Qa) → Int → Int → Zh → Option Int
 | 0 => fun _ _ _ _ => none
 | k + 1 => fun x0 b a x1c0 =>
 bif (decide (a < b)) then
 (Ys x0 a).bind fun c =>
 (Rq K c x1c0).bind fun d =>
 bif d then
 some a
 else
 Y1 K k x0 b (IntKind.i64.wrap (a + (1:Int))) x1c0
 else
 some (-1:Int)
def Wv (K : Nat) (x0 : List Qa) (x1c0 : Zh) : Option Int :=
 Y1 K K x0 (x0.length : Int) (0:Int) x1c0
def V8 (K : Nat) (x0 : List Qa) (x1c0 : Zh) : Option Bool :=
 (Wv K x0 x1c0).bind fun a =>
 some (decide (a ≥ (0:Int)))
def Vo (K : Nat) : Option Bool :=
 some false
def Lp (K : Nat) : Option Bool :=
 some false
def Hm (K : Nat) : Nat → Qq → Int → Int → Option Bool
 | 0 => fun _ _ _ => none
 | k + 1 => fun x0 c b =>
 bif (decide (b < c)) then
 (Ys x0.Counts b).bind fun a =>
 bif (decide ((Xf.get a (0:Int)) < (1:Int))) then
 Lp K
 else
 bif (decide ((Xf.get a (0:Int)) > (Xf.get a (1:Int)))) then
 Lp K
 else
 bif (decide ((Xf.get a (1:Int)) < (2:Int))) then
 Lp K
 else
 bif (decide ((Xf.get a (1:Int)) > (4096:Int))) then
 Lp K
 else
 Hm K k x0 c (IntKind.i64.wrap (b + (1:Int)))
 else
 (V8 K x0.States (Zh.mk x0)).bind fun d =>
 some (!d)
def Cw (K : Nat) (x0 : Qq) : Option Bool :=
 (Og K x0.Split).bind fun b =>
 bif (!b) then
 Vo K
 else
 bif (decide ((x0.Counts.length : Int) > (512:Int))) then
 Vo K
 else
 bif (decide ((x0.States.length : Int) < (1:Int))) then
 Vo K
 else
 bif (decide ((x0.States.length : Int) > (256:Int))) then
 Vo K
 else
 (Ys x0.States (0:Int)).bind fun a =>
 bif (decide ((IntKind.i64.wrap ((a.L.length : Int) + (a.R.length : Int))) > (0:Int))) then
 Vo K
 else
 Hm K K x0 (x0.Counts.length : Int) (0:Int)
def G9 (K : Nat) (x0 : List Xf) : Option (List Xf) :=
 (ck (roomy 16 (([] : List Xf).length + x0.length) = true)).bind fun _ =>
 some (([] : List Xf) ++ x0)
def Xh (K : Nat) (x0 : Yk) : Option (Int × Bool × Yk) :=
 bif ((x0.l.length : Int) == (0:Int)) then
 some ((0:Int), false, x0)
 else
 (Ys x0.l (IntKind.i64.wrap ((x0.l.length : Int) - (1:Int)))).bind fun a =>
 (ck (0 ≤ (IntKind.i64.wrap ((x0.l.length : Int) - (1:Int))) ∧ (Int.toNat (IntKind.i64.wrap ((x0.l.length : Int) - (1:Int)))) ≤ x0.l.length)).bind fun _ =>
 some (a, true, (Yk.mk (x0.l.take (Int.toNat (IntKind.i64.wrap ((x0.l.length : Int) - (1:Int)))))))
def Jc (K : Nat) (x0 : Yk) (x1 : List Int) : Option Yk :=
 (ck (roomy 8 (x0.l.length + x1.length) = true)).bind fun _ =>
 some (Yk.mk (x0.l ++ x1))
def Jd (K : Nat) : Nat → (List Int) → Int → Int → Option Int
 | 0 => fun _ _ _ => none
 | k + 1 => fun x0 a b =>
 bif (decide (b < (x0.length : Int))) then
 (Ys x0 b).bind fun c =>
 Jd K k x0 (if c > a then c else a) (IntKind.i64.wrap (b + (1:Int)))
 else
 some a
def Be (K : Nat) (x0 : List Int) : Option Int :=
 bif (decide ((x0.length : Int) < (1:Int))) then
 none
 else
 (Ys x0 (0:Int)).bind fun a =>
 Jd K K x0 a (1:Int)
def Lt (K : Nat) (x1 : Int) : Option (List Qf) :=
 bif (decide (x1 < (0:Int))) then
 none
 else
 bif (decide ((IntKind.i64.wrap (x1 - (IntKind.i64.wrap ((0:Int) - (0:Int))))) > (0:Int))) then
 (ck (0 < (IntKind.i64.wrap (x1 - (IntKind.i64.wrap ((0:Int) - (0:Int))))))).bind fun _ =>
 (ck (roomy 32 (Int.toNat (IntKind.i64.wrap (x1 - (IntKind.i64.wrap ((0:Int) - (0:Int)))))) = true)).bind fun _ =>
 (ck (0 ≤ (0:Int) ∧ (Int.toNat (0:Int)) ≤ (List.replicate (Int.toNat (IntKind.i64.wrap (x1 - (IntKind.i64.wrap ((0:Int) - (0:Int)))))) ((Qf.mk (0:Int) []) : Qf)).length)).bind fun _ =>
 some ((List.replicate (Int.toNat (IntKind.i64.wrap (x1 - (IntKind.i64.wrap ((0:Int) - (0:Int)))))) ((Qf.mk (0:Int) []) : Qf)).take (Int.toNat (0:Int)))
 else
 some ([] : List Qf)
def X7 (K : Nat) : Nat → (List (List Qf)) → Int → Int → (List Qf) → Option (List Qf)
 | 0 => fun _ _ _ _ => none
 | k + 1 => fun x0 c a b =>
 bif (decide (a < c)) then
 (Ys x0 a).bind fun d =>
 (ck (roomy 32 (b.length + d.length) = true)).bind fun _ =>
 X7 K k x0 c (IntKind.i64.wrap (a + (1:Int))) (b ++ d)
 else
 some b
def Xi (K : Nat) : Nat → (List (List Qf)) → Int → Int → Int → Option (List Qf)
 | 0 => fun _ _ _ _ => none
 | k + 1 => fun x0 a c b =>
 bif (decide (b < c)) then
 (Ys x0 b).bind fun d =>
 bif (decide ((IntKind.i64.wrap (a + (d.length : Int))) < (0:Int))) then
 none
 else
 Xi K k x0 (IntKind.i64.wrap (a + (d.length : Int))) c (IntKind.i64.wrap (b + (1:Int)))
 else
 (Lt K a).bind fun e =>
 X7 K K x0 (x0.length : Int) (0:Int) e
def Ks (K : Nat) (x0 : List (List Qf)) : Option (List Qf) :=
 Xi K K x0 (0:Int) (x0.length : Int) (0:Int)
def Es (K : Nat) (x0 : Qa) : Option (List Qf) :=
 (Ks K x0.Next).bind fun a =>
 some a
def G4 (K : Nat) (d : Qq → Int → Int → (List Bool) → (List (List Int)) → (List Int) → Option (List Bool)) : Nat → Int → Qq → Int → Int → (List Qf) → Int → Int → (List Bool) → (List (List Int)) → (List Int) → Option (List Bool)
 | 0 => fun _ _ _ _ _ _ _ _ _ _ => none
 | k + 1 => fun a x0 e f g i b j c l =>
 bif (decide (b < i)) then
 (Ys g b).bind fun m =>
 bif (decide (m.To ≥ (0:Int))) then
 (Ys c m.To).bind fun n =>
 (ck (roomy 8 (n.length + [a].length) = true)).bind fun _ =>
 G4 K d k a x0 e f g i (IntKind.i64.wrap (b + (1:Int))) j (List.set c (Int.toNat m.To) (n ++ [a])) l
 else
 G4 K d k a x0 e f g i (IntKind.i64.wrap (b + (1:Int))) j c l
 else
 d x0 e (IntKind.i64.wrap (f + (1:Int))) j c l
def Ck (K : Nat) (b : Qq → Int → Int → (List Bool) → (List (List Int)) → (List Int) → Option (List Bool)) (c : Int) (x0 : Qq) (d : Int) (e : Int) (f : List Bool) (g : List (List Int)) (i : List Int) (j : List Int) (l : List Int) (m : List Int) (n : List (List Qf)) : Option (List Bool) :=
 (Es K (Qa.mk j l m n)).bind fun a =>
 G4 K b K c x0 d e a (a.length : Int) (0:Int) f g i
def Rj (K : Nat) (b : Int → Bool → (List Bool) → (List (List Int)) → (List Int) → Option (List Bool)) (c : List Bool) (d : List (List Int)) (e : List Int) : Option (List Bool) :=
 (Xh K (Yk.mk e)).bind fun a =>
 b a.1 a.2.1 c d a.2.2.l
def Uw (K : Nat) : Nat → Int → Bool → (List Bool) → (List (List Int)) → (List Int) → Option (List Bool)
 | 0 => fun _ _ _ _ _ => none
 | k + 1 => fun b e a c d =>
 bif e then
 (Ys a b).bind fun f =>
 bif (!f) then
 (Ys c b).bind fun g =>
 (Jc K (Yk.mk d) g).bind fun i =>
 Rj K (Uw K k) (List.set a (Int.toNat b) true) c i.l
 else
 Rj K (Uw K k) a c d
 else
 some a
def Ux (K : Nat) : Nat → Qq → Int → Int → (List Bool) → (List (List Int)) → (List Int) → Option (List Bool)
 | 0 => fun _ _ _ _ _ _ => none
 | k + 1 => fun x0 c b d e f =>
 bif (decide (b < c)) then
 (Ys x0.States b).bind fun a =>
 (Be K a.Rule).bind fun i =>
 bif (decide (i ≥ (0:Int))) then
 (Jc K (Yk.mk f) [b]).bind fun j =>
 Ck K (Ux K k) b x0 c b d e j.l a.L a.R a.Rule a.Next
 else
 Ck K (Ux K k) b x0 c b d e f a.L a.R a.Rule a.Next
 else
 (Xh K (Yk.mk f)).bind fun g =>
 Uw K K g.1 g.2.1 d e g.2.2.l
def Qc6 (K : Nat) (x0 : Qq) : Option (List Bool) :=
 (Cw K x0).bind fun a =>
 bif (!a) then
 some []
 else
 (ck (0 ≤ (x0.States.length : Int))).bind fun _ =>
 (ck (roomy 1 (Int.toNat (x0.States.length : Int)) = true)).bind fun _ =>
 (ck (roomy 24 (Int.toNat (x0.States.length : Int)) = true)).bind fun _ =>
 Ux K K x0 (x0.States.length : Int) (0:Int) (List.replicate (Int.toNat (x0.States.length : Int)) (false : Bool)) (List.replicate (Int.toNat (x0.States.length : Int)) ([] : List Int)) []
def Vg (K : Nat) (x0 : List Int) : Option (List Int) :=
 (ck (roomy 8 (([] : List Int).length + x0.length) = true)).bind fun _ =>
 some (([] : List Int) ++ x0)
def Jt (K : Nat) (x0 : List Int) : Option (List Int) :=
 (ck (roomy 1 (([] : List Int).length + x0.length) = true)).bind fun _ =>
 some (([] : List Int) ++ x0)
def Ur (K : Nat) (f : Int → Int → Qc → Int → Int → (List (List Qf)) → Int → Int → (List Qf) → Int → Int → (List Int) → (List Qa) → (List Int) → (List Int) → (List Int) → (List (List Qf)) → (List (List Qf)) → Option Qc) (g : Int) (a : Int) (x0 : Qc) (i : Int) (j : Int) (l : List (List Qf)) (m : Int) (n : Int) (o : List Qf) (p : Int) (q : Int) (x1 : List Int) (r : List Qa) (s : List Int) (t : List Int) (u : List Int) (v : List (List Qf)) (b : List (List Qf)) (c : Int) (d : List Int) : Option Qc :=
 (Ys b a).bind fun e =>
 (ck (roomy 32 (e.length + [(Qf.mk c d)].length) = true)).bind fun _ =>
 f g a x0 i j l m n o p (IntKind.i64.wrap (q + (1:Int))) x1 r s t u v (List.set b (Int.toNat a) (e ++ [(Qf.mk c d)]))
def Uq (K : Nat) (a : Int → Int → Qc → Int → Int → (List (List Qf)) → Int → Int → (List Qf) → Int → Int → (List Int) → (List Qa) → (List Int) → (List Int) → (List Int) → (List (List Qf)) → (List (List Qf)) → Option Qc) (b : Int) (c : Int) (x0 : Qc) (d : Int) (e : Int) (f : List (List Qf)) (g : Int) (i : Int) (j : List Qf) (l : Int) (m : Int) (x1 : List Int) (n : List Qa) (o : List Int) (p : List Int) (q : List Int) (r : List (List Qf)) (s : List (List Qf)) : Option Qc :=
 Ur K a b c x0 d e f g i j l m x1 n o p q r s (-1:Int) []
def Z6 (K : Nat) (b : Int → Qc → Int → Int → (List (List Qf)) → Int → Int → (List Int) → (List Qa) → (List Int) → (List Int) → (List Int) → (List (List Qf)) → (List (List Qf)) → Option Qc) : Nat → Int → Int → Qc → Int → Int → (List (List Qf)) → Int → Int → (List Qf) → Int → Int → (List Int) → (List Qa) → (List Int) → (List Int) → (List Int) → (List (List Qf)) → (List (List Qf)) → Option Qc
 | 0 => fun _ _ _ _ _ _ _ _ _ _ _ _ _ _ _ _ _ _ => none
 | k + 1 => fun c s x0 d e f g i j l a x1 m n o p q r =>
 bif (decide (a < l)) then
 (Ys j a).bind fun t =>
 bif (decide (t.To ≥ (0:Int))) then
 (Ys x1 t.To).bind fun u =>
 bif (decide (u ≥ (0:Int))) then
 (Jt K t.Ops).bind fun v =>
 Ur K (Z6 K b k) c s x0 d e f g i j l a x1 m n o p q r u v
 else
 Uq K (Z6 K b k) c s x0 d e f g i j l a x1 m n o p q r
 else
 Uq K (Z6 K b k) c s x0 d e f g i j l a x1 m n o p q r
 else
 b c x0 d e f g (IntKind.i64.wrap (i + (1:Int))) x1 m n o p q r
def Y5 (K : Nat) (d : Qc → Int → Int → (List Int) → (List Qa) → Option Qc) : Nat → Int → Qc → Int → Int → (List (List Qf)) → Int → Int → (List Int) → (List Qa) → (List Int) → (List Int) → (List Int) → (List (List Qf)) → (List (List Qf)) → Option Qc
 | 0 => fun _ _ _ _ _ _ _ _ _ _ _ _ _ _ => none
 | k + 1 => fun b x0 e f g i a x1 c j l m p n =>
 bif (decide (a < i)) then
 (Ys g a).bind fun o =>
 Z6 K (Y5 K d k) K b a x0 e f g i a o (o.length : Int) (0:Int) x1 c j l m p n
 else
 (Vg K j).bind fun q =>
 (Vg K l).bind fun r =>
 (Vg K m).bind fun s =>
 (Ys c b).bind fun t =>
 d x0 e (IntKind.i64.wrap (f + (1:Int))) x1 (List.set c (Int.toNat b) (Qa.mk q r s n))
def Y6 (K : Nat) : Nat → Qc → Int → Int → (List Int) → (List Qa) → Option Qc
 | 0 => fun _ _ _ _ _ => none
 | k + 1 => fun x0 c b x1 d =>
 bif (decide (b < c)) then
 (Ys x0.Auto.States b).bind fun a =>
 (ck (0 ≤ (a.Next.length : Int))).bind fun _ =>
 (ck (roomy 24 (Int.toNat (a.Next.length : Int)) = true)).bind fun _ =>
 Y5 K (Y6 K k) K b x0 c b a.Next (a.Next.length : Int) (0:Int) x1 d a.L a.R a.Rule a.Next (List.replicate (Int.toNat (a.Next.length : Int)) ([] : List Qf))
 else
 some (Qc.mk (Qq.mk x0.Auto.Split x0.Auto.Counts d))
def Ug (K : Nat) (x0 : Qc) (x1 : List Int) : Option Qc :=
 (ck (0 ≤ (x0.Auto.States.length : Int))).bind fun _ =>
 (ck (roomy 96 (Int.toNat (x0.Auto.States.length : Int)) = true)).bind fun _ =>
 Y6 K K x0 (x0.Auto.States.length : Int) (0:Int) x1 (List.replicate (Int.toNat (x0.Auto.States.length : Int)) ((Qa.mk [] [] [] []) : Qa))
def Xo (K : Nat) : Nat → (List Bool) → Int → Int → Qc → (List Int) → Option Qc
 | 0 => fun _ _ _ _ _ => none
 | k + 1 => fun c d a x0 b =>
 bif (decide (a < d)) then
 (Ys c a).bind fun e =>
 (Ys b a).bind fun g =>
 bif (!e) then
 (Ys (List.set b (Int.toNat a) a) a).bind fun i =>
 Xo K k c d (IntKind.i64.wrap (a + (1:Int))) x0 (List.set (List.set b (Int.toNat a) a) (Int.toNat a) (-1:Int))
 else
 Xo K k c d (IntKind.i64.wrap (a + (1:Int))) x0 (List.set b (Int.toNat a) a)
 else
 (Ug K x0 b).bind fun f =>
 some f
def Gl (K : Nat) (x0 : Qc) : Option Qc :=
 (ck (0 ≤ (x0.Auto.States.length : Int))).bind fun _ =>
 (ck (roomy 8 (Int.toNat (x0.Auto.States.length : Int)) = true)).bind fun _ =>
 (Qc6 K x0.Auto).bind fun a =>
 Xo K K a (a.length : Int) (0:Int) x0 (List.replicate (Int.toNat (x0.Auto.States.length : Int)) ((0:Int) : Int))
def Qim (K : Nat) (x0 : Int) (x1 : Int) : Option (Int × Int) :=
 some ((IntKind.u64.wrap ((IntKind.u64.wrap ((IntKind.u64.wrap ((Int.fdiv x0 (2 ^ min (Int.toNat (32:Int)) IntKind.u64.bits)) * (Int.fdiv x1 (2 ^ min (Int.toNat (32:Int)) IntKind.u64.bits)))) + (Int.fdiv (IntKind.u64.wrap ((IntKind.u64.wrap ((Int.fdiv x0 (2 ^ min (Int.toNat (32:Int)) IntKind.u64.bits)) * (bits .and .u64 x1 (4294967295:Int)))) + (Int.fdiv (IntKind.u64.wrap ((bits .and .u64 x0 (4294967295:Int)) * (bits .and .u64 x1 (4294967295:Int)))) (2 ^ min (Int.toNat (32:Int)) IntKind.u64.bits)))) (2 ^ min (Int.toNat (32:Int)) IntKind.u64.bits)))) + (Int.fdiv (IntKind.u64.wrap ((bits .and .u64 (IntKind.u64.wrap ((IntKind.u64.wrap ((Int.fdiv x0 (2 ^ min (Int.toNat (32:Int)) IntKind.u64.bits)) * (bits .and .u64 x1 (4294967295:Int)))) + (Int.fdiv (IntKind.u64.wrap ((bits .and .u64 x0 (4294967295:Int)) * (bits .and .u64 x1 (4294967295:Int)))) (2 ^ min (Int.toNat (32:Int)) IntKind.u64.bits)))) (4294967295:Int)) + (IntKind.u64.wrap ((bits .and .u64 x0 (4294967295:Int)) * (Int.fdiv x1 (2 ^ min (Int.toNat (32:Int)) IntKind.u64.bits)))))) (2 ^ min (Int.toNat (32:Int)) IntKind.u64.bits)))), (IntKind.u64.wrap (x0 * x1)))
def Qhv (K : Nat) (x0 : Int) (x1 : Int) : Option (Int × Int) :=
 (Qim K x0 x1).bind fun a =>
 some (a.1, a.2)
def H5 (K : Nat) (x0 : List Int) (a : Int) : Option (List Int) :=
 none
def Ut (K : Nat) : Nat → Int → (List Int) → Option (List Int)
 | 0 => fun _ _ => none
 | k + 1 => fun a b =>
 bif (decide (a < (b.length : Int))) then
 (ck (0 ≤ a ∧ (Int.toNat a) ≤ b.length)).bind fun _ =>
 (ck (0 < (Int.toNat a) ∧ (Int.toNat a) < b.length)).bind fun _ =>
 Ut K k (IntKind.i64.wrap (a + (((min (Int.toNat a) (b.length - (Int.toNat a))) : Nat) : Int))) (b.take (Int.toNat a) ++ b.take (min (Int.toNat a) (b.length - (Int.toNat a))) ++ b.drop ((Int.toNat a) + (min (Int.toNat a) (b.length - (Int.toNat a)))))
 else
 some b
def Gm (K : Nat) (x0 : List Int) (x1 : Int) : Option (List Int) :=
 bif (decide (x1 < (0:Int))) then
 none
 else
 (Qhv K (IntKind.u64.wrap (x0.length : Int)) (IntKind.u64.wrap x1)).bind fun a =>
 bif (decide (a.1 > (0:Int))) then
 H5 K x0 a.2
 else
 bif (decide (a.2 > (9223372036854775807:Int))) then
 H5 K x0 a.2
 else
 (ck (0 ≤ (IntKind.i64.wrap a.2))).bind fun _ =>
 (ck (roomy 8 (Int.toNat (IntKind.i64.wrap a.2)) = true)).bind fun _ =>
 (ck (0 < x0.length ∧ x0.length ≤ (List.replicate (Int.toNat (IntKind.i64.wrap a.2)) ((0:Int) : Int)).length)).bind fun _ =>
 Ut K K (x0.length : Int) (x0 ++ (List.replicate (Int.toNat (IntKind.i64.wrap a.2)) ((0:Int) : Int)).drop x0.length)
def Y7 (K : Nat) (e : Int → Qc → (List Int) → (List Int) → Option Qc) : Nat → Int → (List Qf) → Int → Int → Qc → (List Int) → (List Int) → Option Qc
 | 0 => fun _ _ _ _ _ _ _ => none
 | k + 1 => fun f g i b x0 c a =>
 bif (decide (b < i)) then
 (Ys g b).bind fun d =>
 bif (decide (d.To ≥ (0:Int))) then
 (Ys c d.To).bind fun j =>
 bif (decide (j < (0:Int))) then
 (ck (roomy 8 (a.length + [d.To].length) = true)).bind fun _ =>
 Y7 K e k f g i (IntKind.i64.wrap (b + (1:Int))) x0 (List.set c (Int.toNat d.To) (a.length : Int)) (a ++ [d.To])
 else
 Y7 K e k f g i (IntKind.i64.wrap (b + (1:Int))) x0 c a
 else
 Y7 K e k f g i (IntKind.i64.wrap (b + (1:Int))) x0 c a
 else
 e (IntKind.i64.wrap (f + (1:Int))) x0 c a
def Vs (K : Nat) : Nat → Int → Int → Zp → Int → (List Xf) → (List Qa) → (List Qa) → (List Int) → Option Qc
 | 0 => fun _ _ _ _ _ _ _ _ => none
 | k + 1 => fun c a d e f g b i =>
 bif (decide (a < c)) then
 (Ys i a).bind fun l =>
 (Ys g l).bind fun j =>
 (ck (roomy 96 (b.length + [j].length) = true)).bind fun _ =>
 Vs K k c (IntKind.i64.wrap (a + (1:Int))) d e f g (b ++ [j]) i
 else
 some (Qc.mk (Qq.mk (Q8.mk d e) f b))
def Xn (K : Nat) : Nat → Int → Qc → (List Int) → (List Int) → Option Qc
 | 0 => fun _ _ _ _ => none
 | k + 1 => fun c x0 d a =>
 bif (decide (c < (a.length : Int))) then
 (Ys a c).bind fun f =>
 (Ys x0.Auto.States f).bind fun g =>
 (Es K g).bind fun e =>
 Y7 K (Xn K k) K c e (e.length : Int) (0:Int) x0 d a
 else
 (Ug K x0 d).bind fun b =>
 Vs K K (a.length : Int) (0:Int) b.Auto.Split.Of b.Auto.Split.Many b.Auto.Counts b.Auto.States [] a
def Gj (K : Nat) (x0 : Qc) : Option Qc :=
 (Gm K [(-1:Int)] (x0.Auto.States.length : Int)).bind fun a =>
 (Ys a (0:Int)).bind fun b =>
 Xn K K (0:Int) x0 (List.set a (Int.toNat (0:Int)) (0:Int)) [(0:Int)]
def strconv_Itoa (K : Nat) (x0 : Int) : Option ByteArray :=
 if -9223372036854775808 ≤ x0 ∧ x0 ≤ 9223372036854775807 then some (itoaS x0) else none
def Hs (K : Nat) (x0c1 : List Int) : Option Unit :=
 some ()
def Wo (K : Nat) (x0c1 : List Int) (x1 : ByteArray) : Option (Int × Unit × (List Int)) :=
 (Hs K x0c1).bind fun a =>
 (ck (roomy 1 (x0c1.length + x1.size) = true)).bind fun _ =>
 some ((x1.size : Int), (), (x0c1 ++ Cv x1))
def T2 (K : Nat) (x0 : Int) (x1c1 : List Int) : Option (List Int) :=
 (strconv_Itoa K x0).bind fun a =>
 (ck (a.size + (⟨#[32]⟩ : ByteArray).size ≤ 9223372036854775807)).bind fun _ =>
 (Wo K x1c1 (a ++ (⟨#[32]⟩ : ByteArray))).bind fun b =>
 some b.2.2
def Y2 (K : Nat) (x0c1 : List Int) : Option Unit :=
 some ()
def V3 (K : Nat) (x0c1 : List Int) (x1 : ByteArray) : Option (Int × Unit × (List Int)) :=
 (Y2 K x0c1).bind fun a =>
 (ck (roomy 1 (x0c1.length + x1.size) = true)).bind fun _ =>
 some ((x1.size : Int), (), (x0c1 ++ Cv x1))
def Ji (K : Nat) (x0 : Int) (x1c1 : List Int) : Option (List Int) :=
 (strconv_Itoa K x0).bind fun a =>
 (ck (a.size + (⟨#[32]⟩ : ByteArray).size ≤ 9223372036854775807)).bind fun _ =>
 (V3 K x1c1 (a ++ (⟨#[32]⟩ : ByteArray))).bind fun b =>
 some b.2.2
def He (K : Nat) (x0c1 : List Int) (x1 : List Int) : Option (Int × Unit × (List Int)) :=
 (Y2 K x0c1).bind fun a =>
 (ck (roomy 1 (x0c1.length + x1.length) = true)).bind fun _ =>
 some ((x1.length : Int), (), (x0c1 ++ x1))
def G3 (K : Nat) : Nat → (List Qf) → Int → Int → (List Int) → (List Int) → Option ByteArray
 | 0 => fun _ _ _ _ _ => none
 | k + 1 => fun d e b x1 a =>
 bif (decide (b < e)) then
 (Ys d b).bind fun c =>
 bif (decide (c.To < (0:Int))) then
 (Ji K (-1:Int) a).bind fun f =>
 G3 K k d e (IntKind.i64.wrap (b + (1:Int))) x1 f
 else
 (Ys x1 c.To).bind fun g =>
 (Ji K g a).bind fun i =>
 (He K i c.Ops).bind fun j =>
 (Ji K (c.Ops.length : Int) j.2.2).bind fun l =>
 G3 K k d e (IntKind.i64.wrap (b + (1:Int))) x1 l
 else
 (ck (0 < a.length)).bind fun _ =>
 (ck (Gx a = true)).bind fun _ =>
 some (ofBytes a)
def K1 (K : Nat) : Nat → Qa → Int → Int → (List Int) → (List Int) → Option ByteArray
 | 0 => fun _ _ _ _ _ => none
 | k + 1 => fun x0 b a x1 c =>
 bif (decide (a < b)) then
 (Ys x0.Rule a).bind fun e =>
 (Ji K e c).bind fun f =>
 K1 K k x0 b (IntKind.i64.wrap (a + (1:Int))) x1 f
 else
 (Es K x0).bind fun d =>
 G3 K K d (d.length : Int) (0:Int) x1 c
def K2 (K : Nat) : Nat → Qa → Int → Int → (List Int) → (List Int) → Option ByteArray
 | 0 => fun _ _ _ _ _ => none
 | k + 1 => fun x0 b a x1 c =>
 bif (decide (a < b)) then
 (Ys x0.R a).bind fun d =>
 (Ji K d c).bind fun e =>
 K2 K k x0 b (IntKind.i64.wrap (a + (1:Int))) x1 e
 else
 K1 K K x0 (x0.Rule.length : Int) (0:Int) x1 c
def Qc3 (K : Nat) (x0 : Qa) (x1 : List Int) : Option ByteArray :=
 (T2 K (x0.R.length : Int) []).bind fun a =>
 K2 K K x0 (x0.R.length : Int) (0:Int) x1 a
def Ka (K : Nat) (d : Int → Qq → Int → Int → (List Int) → (List (ByteArray × Int)) → (List Int) → Option (List Int)) (e : Int) (a : Int) (f : ByteArray) (x0 : Qq) (g : Int) (i : Int) (j : List Int) (b : List (ByteArray × Int)) (c : List Int) : Option (List Int) :=
 (Ys c a).bind fun l =>
 d e x0 g (IntKind.i64.wrap (i + (1:Int))) j b (List.set c (Int.toNat a) ((b.lookup f).getD 0))
def Kb (K : Nat) (c : Int → Qq → Int → Int → (List Int) → (List (ByteArray × Int)) → (List Int) → Option (List Int)) (d : Int) (e : Int) (a : ByteArray) (x0 : Qq) (f : Int) (g : Int) (i : List Int) (b : List (ByteArray × Int)) (j : List Int) : Option (List Int) :=
 bif (!(b.lookup a).isSome) then
 (ck (b.lookup a = none)).bind fun _ =>
 Ka K c d e a x0 f g i (b ++ [(a, (b.length : Int))]) j
 else
 Ka K c d e a x0 f g i b j
def V7 (K : Nat) (e : Int → Qq → (List Int) → Option (List Int)) : Nat → Int → Qq → Int → Int → (List Int) → (List (ByteArray × Int)) → (List Int) → Option (List Int)
 | 0 => fun _ _ _ _ _ _ _ => none
 | k + 1 => fun f x0 g a b c d =>
 bif (decide (a < g)) then
 (Ys x0.States a).bind fun l =>
 bif (decide (a > (0:Int))) then
 (Ys b a).bind fun m =>
 (strconv_Itoa K m).bind fun i =>
 (ck (i.size + (⟨#[58]⟩ : ByteArray).size ≤ 9223372036854775807)).bind fun _ =>
 (Qc3 K l b).bind fun j =>
 (ck ((i ++ (⟨#[58]⟩ : ByteArray)).size + j.size ≤ 9223372036854775807)).bind fun _ =>
 Kb K (V7 K e k) f a ((i ++ (⟨#[58]⟩ : ByteArray)) ++ j) x0 g a b c d
 else
 Kb K (V7 K e k) f a (⟨#[102, 105, 114, 115, 116]⟩ : ByteArray) x0 g a b c d
 else
 bif ((c.length : Int) == f) then
 some d
 else
 e (c.length : Int) x0 d
def Wa (K : Nat) : Nat → Int → Qq → (List Int) → Option (List Int)
 | 0 => fun _ _ _ => none
 | k + 1 => fun b x0 a =>
 (ck (0 ≤ (a.length : Int))).bind fun _ =>
 (ck (roomy 8 (Int.toNat (a.length : Int)) = true)).bind fun _ =>
 V7 K (Wa K k) K b x0 (x0.States.length : Int) (0:Int) a [] (List.replicate (Int.toNat (a.length : Int)) ((0:Int) : Int))
def Oc (K : Nat) (x0 : Qq) : Option (List Int) :=
 (Cw K x0).bind fun a =>
 bif (!a) then
 some []
 else
 (ck (0 ≤ (x0.States.length : Int))).bind fun _ =>
 (ck (roomy 8 (Int.toNat (x0.States.length : Int)) = true)).bind fun _ =>
 Wa K K (0:Int) x0 (List.replicate (Int.toNat (x0.States.length : Int)) ((0:Int) : Int))
def Vi (K : Nat) (f : (List Int) → Int → Int → Qc → Int → Int → (List (List Qf)) → Int → Int → (List Qf) → Int → Int → (List Qa) → (List Int) → (List Int) → (List Int) → (List (List Qf)) → (List (List Qf)) → Option Qc) (x1 : List Int) (g : Int) (a : Int) (x0 : Qc) (i : Int) (j : Int) (l : List (List Qf)) (m : Int) (n : Int) (o : List Qf) (p : Int) (q : Int) (r : List Qa) (s : List Int) (t : List Int) (u : List Int) (v : List (List Qf)) (b : List (List Qf)) (c : Int) (d : List Int) : Option Qc :=
 (Ys b a).bind fun e =>
 (ck (roomy 32 (e.length + [(Qf.mk c d)].length) = true)).bind fun _ =>
 f x1 g a x0 i j l m n o p (IntKind.i64.wrap (q + (1:Int))) r s t u v (List.set b (Int.toNat a) (e ++ [(Qf.mk c d)]))
def Vh (K : Nat) (a : (List Int) → Int → Int → Qc → Int → Int → (List (List Qf)) → Int → Int → (List Qf) → Int → Int → (List Qa) → (List Int) → (List Int) → (List Int) → (List (List Qf)) → (List (List Qf)) → Option Qc) (x1 : List Int) (b : Int) (c : Int) (x0 : Qc) (d : Int) (e : Int) (f : List (List Qf)) (g : Int) (i : Int) (j : List Qf) (l : Int) (m : Int) (n : List Qa) (o : List Int) (p : List Int) (q : List Int) (r : List (List Qf)) (s : List (List Qf)) : Option Qc :=
 Vi K a x1 b c x0 d e f g i j l m n o p q r s (-1:Int) []
def Zu (K : Nat) (b : (List Int) → Int → Qc → Int → Int → (List (List Qf)) → Int → Int → (List Qa) → (List Int) → (List Int) → (List Int) → (List (List Qf)) → (List (List Qf)) → Option Qc) : Nat → (List Int) → Int → Int → Qc → Int → Int → (List (List Qf)) → Int → Int → (List Qf) → Int → Int → (List Qa) → (List Int) → (List Int) → (List Int) → (List (List Qf)) → (List (List Qf)) → Option Qc
 | 0 => fun _ _ _ _ _ _ _ _ _ _ _ _ _ _ _ _ _ _ => none
 | k + 1 => fun x1 c s x0 d e f g i j l a m n o p q r =>
 bif (decide (a < l)) then
 (Ys j a).bind fun t =>
 bif (decide (t.To ≥ (0:Int))) then
 (Ys x1 t.To).bind fun u =>
 bif (decide (u ≥ (0:Int))) then
 (Jt K t.Ops).bind fun v =>
 Vi K (Zu K b k) x1 c s x0 d e f g i j l a m n o p q r u v
 else
 Vh K (Zu K b k) x1 c s x0 d e f g i j l a m n o p q r
 else
 Vh K (Zu K b k) x1 c s x0 d e f g i j l a m n o p q r
 else
 b x1 c x0 d e f g (IntKind.i64.wrap (i + (1:Int))) m n o p q r
def Ym (K : Nat) (d : (List Int) → Qc → Int → Int → (List Qa) → Option Qc) : Nat → (List Int) → Int → Qc → Int → Int → (List (List Qf)) → Int → Int → (List Qa) → (List Int) → (List Int) → (List Int) → (List (List Qf)) → (List (List Qf)) → Option Qc
 | 0 => fun _ _ _ _ _ _ _ _ _ _ _ _ _ _ => none
 | k + 1 => fun x1 b x0 e f g i a c j l m p n =>
 bif (decide (a < i)) then
 (Ys g a).bind fun o =>
 Zu K (Ym K d k) K x1 b a x0 e f g i a o (o.length : Int) (0:Int) c j l m p n
 else
 (Vg K j).bind fun q =>
 (Vg K l).bind fun r =>
 (Vg K m).bind fun s =>
 (Ys c b).bind fun t =>
 d x1 x0 e (IntKind.i64.wrap (f + (1:Int))) (List.set c (Int.toNat b) (Qa.mk q r s n))
def Yn (K : Nat) : Nat → (List Int) → Qc → Int → Int → (List Qa) → Option Qc
 | 0 => fun _ _ _ _ _ => none
 | k + 1 => fun x1 x0 c b d =>
 bif (decide (b < c)) then
 (Ys x0.Auto.States b).bind fun a =>
 (ck (0 ≤ (a.Next.length : Int))).bind fun _ =>
 (ck (roomy 24 (Int.toNat (a.Next.length : Int)) = true)).bind fun _ =>
 Ym K (Yn K k) K x1 b x0 c b a.Next (a.Next.length : Int) (0:Int) d a.L a.R a.Rule a.Next (List.replicate (Int.toNat (a.Next.length : Int)) ([] : List Qf))
 else
 some (Qc.mk (Qq.mk x0.Auto.Split x0.Auto.Counts d))
def Vr (K : Nat) (x0 : Qc) (x1 : List Int) : Option Qc :=
 (ck (0 ≤ (x0.Auto.States.length : Int))).bind fun _ =>
 (ck (roomy 96 (Int.toNat (x0.Auto.States.length : Int)) = true)).bind fun _ =>
 Yn K K x1 x0 (x0.Auto.States.length : Int) (0:Int) (List.replicate (Int.toNat (x0.Auto.States.length : Int)) ((Qa.mk [] [] [] []) : Qa))
def Us (K : Nat) (d : (List Int) → Int → Int → Qc → (List (Int × Int)) → (List Int) → Option Qc) (b : Int) (e : List Int) (f : Int) (g : Int) (x0 : Qc) (a : List (Int × Int)) (c : List Int) : Option Qc :=
 (ck (roomy 8 (c.length + [((a.lookup b).getD 0)].length) = true)).bind fun _ =>
 d e f (IntKind.i64.wrap (g + (1:Int))) x0 a (c ++ [((a.lookup b).getD 0)])
def Yt (K : Nat) : Nat → (List Int) → Int → Int → Qc → (List (Int × Int)) → (List Int) → Option Qc
 | 0 => fun _ _ _ _ _ _ => none
 | k + 1 => fun d e a x0 c f =>
 bif (decide (a < e)) then
 (Ys d a).bind fun b =>
 bif (!(c.lookup b).isSome) then
 (ck (c.lookup b = none)).bind fun _ =>
 Us K (Yt K k) b d e a x0 (c ++ [(b, a)]) f
 else
 Us K (Yt K k) b d e a x0 c f
 else
 (Vr K x0 f).bind fun g =>
 some g
def Gk (K : Nat) (x0 : Qc) : Option Qc :=
 (Oc K x0.Auto).bind fun a =>
 Yt K K a (a.length : Int) (0:Int) x0 [] []
def N1 (K : Nat) (f : Zp) (a : Zp) (b : Int) (c : List Xf) (d : List Qa) : Option (Qq × Int) :=
 (Gj K (Qc.mk (Qq.mk (Q8.mk a b) c d))).bind fun e =>
 some (e.Auto, (0:Int))
def Qh6 (K : Nat) (x0 : Qq) : Option (Qq × Int) :=
 (Cw K x0).bind fun c =>
 bif (!c) then
 some ((Qq.mk (Q8.mk (Zp.mk fun _ => 0) (0:Int)) [] []), (1:Int))
 else
 (G9 K x0.Counts).bind fun d =>
 (Gl K (Qc.mk (Qq.mk x0.Split d x0.States))).bind fun a =>
 bif ((a.Auto.Counts.length : Int) == (0:Int)) then
 (Gk K a).bind fun b =>
 N1 K (Zp.mk fun _ => 0) b.Auto.Split.Of b.Auto.Split.Many b.Auto.Counts b.Auto.States
 else
 N1 K (Zp.mk fun _ => 0) a.Auto.Split.Of a.Auto.Split.Many a.Auto.Counts a.Auto.States
def Gw (K : Nat) : Option Bool :=
 (E8 K (⟨#[97, 98, 124, 99, 98]⟩ : ByteArray)).bind fun b =>
 (Iz K b.1 (1:Int)).bind fun c =>
 (Sc K [c.1]).bind fun d =>
 (Wd K d.1).bind fun e =>
 (Qh6 K e.1).bind fun a =>
 bif (a.2 == (0:Int)) then
 some ((a.1.States.length : Int) == (3:Int))
 else
 some false
def Xt (K : Nat) : Nat → Int → Int → Q8 → Option Bool
 | 0 => fun _ _ _ => none
 | k + 1 => fun b a x0 =>
 bif (decide (a < (256:Int))) then
 (ck (0 ≤ a ∧ a < 256)).bind fun _ =>
 bif (decide ((IntKind.i64.wrap (Zp.get x0.Of a)) > b)) then
 some false
 else
 bif ((IntKind.i64.wrap (Zp.get x0.Of a)) == b) then
 Xt K k (IntKind.i64.wrap (b + (1:Int))) (IntKind.i64.wrap (a + (1:Int))) x0
 else
 Xt K k b (IntKind.i64.wrap (a + (1:Int))) x0
 else
 some (b == x0.Many)
def Gv (K : Nat) (x0 : Q8) : Option Bool :=
 Xt K K (0:Int) (0:Int) x0
def Vu (K : Nat) : Option Bool :=
 some false
def Yv (K : Nat) : Nat → (List Int) → Int → Int → Option Bool
 | 0 => fun _ _ _ => none
 | k + 1 => fun x0 x1 a =>
 bif (decide (a < (x0.length : Int))) then
 (Ys x0 a).bind fun b =>
 bif (decide (b < (0:Int))) then
 Vu K
 else
 bif (decide (b ≥ x1)) then
 Vu K
 else
 bif (decide (a > (0:Int))) then
 (Ys x0 (IntKind.i64.wrap (a - (1:Int)))).bind fun c =>
 bif (decide (c ≥ b)) then
 Vu K
 else
 Yv K k x0 x1 (IntKind.i64.wrap (a + (1:Int)))
 else
 Yv K k x0 x1 (IntKind.i64.wrap (a + (1:Int)))
 else
 some true
def Wf (K : Nat) (x0 : List Int) (x1 : Int) : Option Bool :=
 Yv K K x0 x1 (0:Int)
def Va (K : Nat) : Option Bool :=
 some false
def X9 (K : Nat) : Option Bool :=
 some false
def X8 (K : Nat) : Nat → Int → Qq → Qa → Qf → Option Bool
 | 0 => fun _ _ _ _ => none
 | k + 1 => fun a x0 x1 x2 =>
 bif (decide (a < (x2.Ops.length : Int))) then
 (Ys x2.Ops a).bind fun b =>
 bif (decide (b < (1:Int))) then
 X9 K
 else
 bif (decide (b > (3:Int))) then
 X9 K
 else
 bif (b != (3:Int)) then
 (Ys x0.States x2.To).bind fun c =>
 (Ys c.R a).bind fun d =>
 (Wc K x1.R d).bind fun e =>
 bif (!e) then
 X9 K
 else
 X8 K k (IntKind.i64.wrap (a + (1:Int))) x0 x1 x2
 else
 X8 K k (IntKind.i64.wrap (a + (1:Int))) x0 x1 x2
 else
 some true
def Lv (K : Nat) (x0 : Qq) (x1 : Qa) (x2 : Qf) : Option Bool :=
 bif (x2.To == (-1:Int)) then
 some ((x2.Ops.length : Int) == (0:Int))
 else
 bif (decide (x2.To < (1:Int))) then
 Va K
 else
 bif (decide (x2.To ≥ (x0.States.length : Int))) then
 Va K
 else
 (Ys x0.States x2.To).bind fun a =>
 bif ((x2.Ops.length : Int) != (a.R.length : Int)) then
 Va K
 else
 X8 K K (0:Int) x0 x1 x2
def Yh (K : Nat) : Option Bool :=
 some false
def Xp (K : Nat) : Option Bool :=
 some false
def Vt (K : Nat) (c : Int → Int → Qq → Qa → Option Bool) : Nat → Int → Int → Int → Qa → Int → Int → Int → Bool → Int → (List Qf) → (List Qf) → Int → Qq → Bool → Option Bool
 | 0 => fun _ _ _ _ _ _ _ _ _ _ _ _ _ _ => none
 | k + 1 => fun d a b x1 f g i j l m n o x0 p =>
 (Ys x1.Next a).bind fun e =>
 bif (decide (b < (e.length : Int))) then
 (Ys e b).bind fun q =>
 (Lv K x0 x1 q).bind fun r =>
 bif (!r) then
 some false
 else
 Vt K c k d a (IntKind.i64.wrap (b + (1:Int))) x1 f g i j l m n o x0 p
 else
 c d (IntKind.i64.wrap (a + (1:Int))) x0 x1
def Yu (K : Nat) : Nat → Int → Int → Qq → Qa → Option Bool
 | 0 => fun _ _ _ _ => none
 | k + 1 => fun d a x0 x1 =>
 bif (decide (a < d)) then
 (Ys x1.Rule a).bind fun b =>
 bif (decide (b < (-1:Int))) then
 Xp K
 else
 bif (decide (b ≥ (512:Int))) then
 Xp K
 else
 (Ys x1.Next a).bind fun c =>
 bif ((c.length : Int) != x0.Split.Many) then
 Xp K
 else
 Vt K (Yu K k) K d a (0:Int) x1 a b b (decide (b ≥ (512:Int))) a c c (c.length : Int) x0 ((c.length : Int) != x0.Split.Many)
 else
 some true
def Gn (K : Nat) (x0 : Qq) (x1 : Qa) : Option Bool :=
 (Je K (x1.R.length : Int)).bind fun a =>
 bif (a == (0:Int)) then
 Yh K
 else
 (Wf K x1.L (512:Int)).bind fun b =>
 bif (!b) then
 Yh K
 else
 (Wf K x1.R (x0.Counts.length : Int)).bind fun c =>
 bif (!c) then
 Yh K
 else
 bif ((x1.Rule.length : Int) != a) then
 Yh K
 else
 bif ((x1.Next.length : Int) != a) then
 Yh K
 else
 Yu K K a (0:Int) x0 x1
def Z0 (K : Nat) : Option Bool :=
 some false
def Vw (K : Nat) : Option Bool :=
 some false
def Vv (K : Nat) : Nat → Int → Qq → Option Bool
 | 0 => fun _ _ => none
 | k + 1 => fun a x0 =>
 bif (decide (a < (x0.States.length : Int))) then
 (Ys x0.States a).bind fun b =>
 (Gn K x0 b).bind fun c =>
 bif (!c) then
 some false
 else
 Vv K k (IntKind.i64.wrap (a + (1:Int))) x0
 else
 some true
def Xq (K : Nat) : Nat → Int → Qq → Option Bool
 | 0 => fun _ _ => none
 | k + 1 => fun b x0 =>
 bif (decide (b < (x0.Counts.length : Int))) then
 (Ys x0.Counts b).bind fun a =>
 bif (decide ((Xf.get a (0:Int)) < (1:Int))) then
 Vw K
 else
 bif (decide ((Xf.get a (0:Int)) > (Xf.get a (1:Int)))) then
 Vw K
 else
 bif (decide ((Xf.get a (1:Int)) < (2:Int))) then
 Vw K
 else
 bif (decide ((Xf.get a (1:Int)) > (4096:Int))) then
 Vw K
 else
 Xq K k (IntKind.i64.wrap (b + (1:Int))) x0
 else
 Vv K K (0:Int) x0
def Wg (K : Nat) (x0 : Qq) : Option Bool :=
 (Gv K x0.Split).bind fun b =>
 bif (!b) then
 Z0 K
 else
 bif (decide ((x0.Counts.length : Int) > (512:Int))) then
 Z0 K
 else
 bif (decide ((x0.States.length : Int) < (1:Int))) then
 Z0 K
 else
 bif (decide ((x0.States.length : Int) > (256:Int))) then
 Z0 K
 else
 (Ys x0.States (0:Int)).bind fun a =>
 bif (decide ((a.L.length : Int) > (0:Int))) then
 Z0 K
 else
 bif (decide ((a.R.length : Int) > (0:Int))) then
 Z0 K
 else
 Xq K K (0:Int) x0
def Jg (K : Nat) (a : Int → Int → Qt → Int → Int → Qj → Option Int) (b : Int) (c : Int) (x1 : Qt) (d : Int) (e : Int) (x0 : Qj) : Option Int :=
 a b (IntKind.i64.wrap (c * (3:Int))) x1 d (IntKind.i64.wrap (e + (1:Int))) x0
def Yg (K : Nat) : Nat → Int → Int → Qt → Int → Int → Qj → Option Int
 | 0 => fun _ _ _ _ _ _ => none
 | k + 1 => fun c a x1 d b x0 =>
 bif (decide (b < d)) then
 (Ys x1.L b).bind fun e =>
 (Ys x0.P e.P).bind fun f =>
 bif (decide (f.Hi < (2:Int))) then
 Yg K k c a x1 d (IntKind.i64.wrap (b + (1:Int))) x0
 else
 (Ys e.N (IntKind.i64.wrap ((e.N.length : Int) - (1:Int)))).bind fun g =>
 bif (decide (g < f.Lo)) then
 Jg K (Yg K k) c a x1 d b x0
 else
 (Ys e.N (0:Int)).bind fun i =>
 bif (decide (i < f.Hi)) then
 Jg K (Yg K k) (IntKind.i64.wrap (c + (IntKind.i64.wrap ((2:Int) * a)))) a x1 d b x0
 else
 Jg K (Yg K k) (IntKind.i64.wrap (c + a)) a x1 d b x0
 else
 some c
def L8 (K : Nat) (x0 : Qj) (x1 : Qt) : Option Int :=
 Yg K K (0:Int) (1:Int) x1 (x1.L.length : Int) (0:Int) x0
def H7 (K : Nat) : Option Bool :=
 some false
def Vx (K : Nat) : Option Bool :=
 some false
def J1 (K : Nat) : Option Bool :=
 some false
def Xs (K : Nat) (c : Int → Qj → Qt → Option Bool) : Nat → Int → Int → Int → Qj → Int → Bool → Int → Bool → Bool → Bool → (List Int) → Int → Bool → Qt → Int → (List Int) → Option Bool
 | 0 => fun _ _ _ _ _ _ _ _ _ _ _ _ _ _ _ _ => none
 | k + 1 => fun d a g x0 i j l m n o p q r x1 e b =>
 bif (decide (a < (b.length : Int))) then
 (Ys b a).bind fun f =>
 bif (decide (f < (1:Int))) then
 J1 K
 else
 (Ys x0.P e).bind fun s =>
 bif (decide (f > s.Hi)) then
 J1 K
 else
 bif (decide (a > (0:Int))) then
 (Ys b (IntKind.i64.wrap (a - (1:Int)))).bind fun t =>
 bif (decide (t ≥ f)) then
 J1 K
 else
 Xs K c k d (IntKind.i64.wrap (a + (1:Int))) g x0 i j l m n o p q r x1 e b
 else
 Xs K c k d (IntKind.i64.wrap (a + (1:Int))) g x0 i j l m n o p q r x1 e b
 else
 c (IntKind.i64.wrap (d + (1:Int))) x0 x1
def J2 (K : Nat) (a : Int → Qj → Qt → Option Bool) (b : Int) (c : Int) (x0 : Qj) (d : Int) (e : Bool) (f : Int) (g : Bool) (i : Bool) (j : Bool) (l : List Int) (m : Int) (n : Bool) (x1 : Qt) (o : Int) (p : List Int) : Option Bool :=
 Xs K a K b (0:Int) c x0 d e f g i j l m n x1 o p
def Yl (K : Nat) : Nat → Int → Qj → Qt → Option Bool
 | 0 => fun _ _ _ => none
 | k + 1 => fun b x0 x1 =>
 bif (decide (b < (x1.L.length : Int))) then
 (Ys x1.L b).bind fun a =>
 bif (decide (a.P < (0:Int))) then
 Vx K
 else
 bif (decide (a.P ≥ (x0.P.length : Int))) then
 Vx K
 else
 bif (decide (b > (0:Int))) then
 (Ys x1.L (IntKind.i64.wrap (b - (1:Int)))).bind fun c =>
 bif (decide (c.P ≥ a.P)) then
 Vx K
 else
 bif ((a.N.length : Int) == (0:Int)) then
 Vx K
 else
 J2 K (Yl K k) b a.P x0 (x0.P.length : Int) (decide (a.P ≥ (x0.P.length : Int))) b (decide (b > (0:Int))) (decide (b > (0:Int))) (decide (c.P ≥ a.P)) a.N (a.N.length : Int) ((a.N.length : Int) == (0:Int)) x1 a.P a.N
 else
 bif ((a.N.length : Int) == (0:Int)) then
 Vx K
 else
 J2 K (Yl K k) b a.P x0 (x0.P.length : Int) (decide (a.P ≥ (x0.P.length : Int))) b (decide (b > (0:Int))) (decide (b > (0:Int))) false a.N (a.N.length : Int) ((a.N.length : Int) == (0:Int)) x1 a.P a.N
 else
 some true
def J3 (K : Nat) (x0 : Qj) (x1 : Qt) : Option Bool :=
 Yl K K (0:Int) x0 x1
def Wi (K : Nat) (x0 : Qj) (x1 : Qt) : Option Bool :=
 (Vk K x0).bind fun a =>
 bif (!a) then
 H7 K
 else
 bif x1.Begin then
 bif (decide ((x1.L.length : Int) > (0:Int))) then
 H7 K
 else
 J3 K x0 x1
 else
 J3 K x0 x1
def Hb (K : Nat) (x0 : Qj) (x1 : Zg) : Option Bool :=
 (Ys x1.N (IntKind.i64.wrap ((x1.N.length : Int) - (1:Int)))).bind fun a =>
 (Ys x0.P x1.P).bind fun b =>
 some (decide (a ≥ b.Lo))
def Wh (K : Nat) : Nat → (List Int) → Int → Int → Option Bool
 | 0 => fun _ _ _ => none
 | k + 1 => fun x0 x1 a =>
 bif (decide (a < (x0.length : Int))) then
 (Ys x0 a).bind fun b =>
 bif (b == x1) then
 some true
 else
 Wh K k x0 x1 (IntKind.i64.wrap (a + (1:Int)))
 else
 some false
def Kc (K : Nat) (x0 : List Int) (x1 : Int) : Option Bool :=
 Wh K K x0 x1 (0:Int)
def Xj (K : Nat) : Nat → Int → Int → Qj → Qt → Option Bool
 | 0 => fun _ _ _ _ => none
 | k + 1 => fun x2 a x0 x1 =>
 bif (decide (a < (x1.L.length : Int))) then
 (Ys x1.L a).bind fun b =>
 (Hb K x0 b).bind fun c =>
 bif c then
 (Ys x0.P b.P).bind fun d =>
 (Kc K d.Next x2).bind fun e =>
 bif e then
 some true
 else
 Xj K k x2 (IntKind.i64.wrap (a + (1:Int))) x0 x1
 else
 Xj K k x2 (IntKind.i64.wrap (a + (1:Int))) x0 x1
 else
 some false
def Hj (K : Nat) (x0 : Qj) (x1 : Qt) (x2 : Int) : Option Bool :=
 bif x1.Begin then
 (Kc K x0.First x2).bind fun a =>
 some a
 else
 Xj K K x2 (0:Int) x0 x1
def Xr (K : Nat) (d : Int → Int → Qj → Qt → (List Int) → Option (List Int)) : Nat → Int → Int → Int → Qj → Qt → (List Int) → Option (List Int)
 | 0 => fun _ _ _ _ _ _ => none
 | k + 1 => fun x2 a b x0 x1 c =>
 (Ys x1.L a).bind fun f =>
 bif (decide (b < (f.N.length : Int))) then
 (Ys f.N b).bind fun e =>
 (Ys x0.P x2).bind fun g =>
 bif (decide (e < g.Hi)) then
 (ck (roomy 8 (c.length + [(IntKind.i64.wrap (e + (1:Int)))].length) = true)).bind fun _ =>
 Xr K d k x2 a (IntKind.i64.wrap (b + (1:Int))) x0 x1 (c ++ [(IntKind.i64.wrap (e + (1:Int)))])
 else
 Xr K d k x2 a (IntKind.i64.wrap (b + (1:Int))) x0 x1 c
 else
 d x2 (IntKind.i64.wrap (a + (1:Int))) x0 x1 c
def Yw (K : Nat) : Nat → Int → Int → Qj → Qt → (List Int) → Option (List Int)
 | 0 => fun _ _ _ _ _ => none
 | k + 1 => fun x2 a x0 x1 b =>
 bif (decide (a < (x1.L.length : Int))) then
 (Ys x1.L a).bind fun c =>
 bif (c.P != x2) then
 Yw K k x2 (IntKind.i64.wrap (a + (1:Int))) x0 x1 b
 else
 Xr K (Yw K k) K x2 a (0:Int) x0 x1 b
 else
 some b
def Ml (K : Nat) (x0 : Qj) (x1 : Qt) (x2 : Int) : Option (List Int) :=
 Yw K K x2 (0:Int) x0 x1 []
def Ud (K : Nat) (e : Int → Int → Qj → Qt → (List Zg) → Option Qt) (x2 : Int) (a : Int) (x0 : Qj) (x1 : Qt) (d : List Zg) (b : List Int) : Option Qt :=
 (Ml K x0 x1 a).bind fun c =>
 (ck (roomy 8 (b.length + c.length) = true)).bind fun _ =>
 bif (decide (((b ++ c).length : Int) > (0:Int))) then
 (ck (roomy 32 (d.length + [(Zg.mk a (b ++ c))].length) = true)).bind fun _ =>
 e x2 (IntKind.i64.wrap (a + (1:Int))) x0 x1 (d ++ [(Zg.mk a (b ++ c))])
 else
 e x2 (IntKind.i64.wrap (a + (1:Int))) x0 x1 d
def Ye (K : Nat) : Nat → Int → Int → Qj → Qt → (List Zg) → Option Qt
 | 0 => fun _ _ _ _ _ => none
 | k + 1 => fun x2 a x0 x1 b =>
 bif (decide (a < (x0.P.length : Int))) then
 (Ys x0.P a).bind fun c =>
 (Vd K c.S x2).bind fun d =>
 bif (!d) then
 Ye K k x2 (IntKind.i64.wrap (a + (1:Int))) x0 x1 b
 else
 (Hj K x0 x1 a).bind fun e =>
 bif e then
 (ck (roomy 8 (([] : List Int).length + [(1:Int)].length) = true)).bind fun _ =>
 Ud K (Ye K k) x2 a x0 x1 b (([] : List Int) ++ [(1:Int)])
 else
 Ud K (Ye K k) x2 a x0 x1 b []
 else
 some (Qt.mk false b)
def By (K : Nat) (x0 : Qj) (x1 : Qt) (x2 : Int) : Option Qt :=
 Ye K K x2 (0:Int) x0 x1 []
def L5 (K : Nat) (x0 : Qj) (x1 : Qt) (x2 : Int) : Option Qt :=
 (Wi K x0 x1).bind fun a =>
 bif (!a) then
 some (Qt.mk false [])
 else
 (By K x0 x1 x2).bind fun b =>
 some b
def Ws (K : Nat) (a : Int → Int → Qj → Qt → Option Int) (b : Int) (x0 : Qj) (x1 : Qt) (d : Int) (e : Int) (f : List Int) (g : Int) (i : List Int) (j : Bool) (l : Int) (m : Bool) (n : Bool) (o : Bool) (p : Zy) (q : Int) (r : Int) (c : Int) (s : Bool) (t : List Int) : Option Int :=
 a c (IntKind.i64.wrap (b + (1:Int))) x0 x1
def Yf (K : Nat) : Nat → Int → Int → Qj → Qt → Option Int
 | 0 => fun _ _ _ _ => none
 | k + 1 => fun b d x0 x1 =>
 bif (decide (d < (x1.L.length : Int))) then
 (Ys x1.L d).bind fun c =>
 (Ys x0.P c.P).bind fun a =>
 bif a.Last then
 (Hb K x0 c).bind fun e =>
 bif e then
 bif (decide (b < (0:Int))) then
 Ws K (Yf K k) d x0 x1 d c.P c.N c.P c.N e b (decide (b < (0:Int))) (decide (b < (0:Int))) true a.S a.Lo a.Hi a.Rule a.Last a.Next
 else
 bif (decide (a.Rule < b)) then
 Ws K (Yf K k) d x0 x1 d c.P c.N c.P c.N e b (decide (b < (0:Int))) (decide (b < (0:Int))) (decide (a.Rule < b)) a.S a.Lo a.Hi a.Rule a.Last a.Next
 else
 Yf K k b (IntKind.i64.wrap (d + (1:Int))) x0 x1
 else
 Yf K k b (IntKind.i64.wrap (d + (1:Int))) x0 x1
 else
 Yf K k b (IntKind.i64.wrap (d + (1:Int))) x0 x1
 else
 some b
def Bz (K : Nat) (x0 : Qj) (x1 : Qt) : Option Int :=
 Yf K K (-1:Int) (0:Int) x0 x1
def L6 (K : Nat) (x0 : Qj) (x1 : Qt) : Option Int :=
 (Wi K x0 x1).bind fun a =>
 bif (!a) then
 some (-1:Int)
 else
 (Bz K x0 x1).bind fun b =>
 some b
def J9 (K : Nat) (a : Bool) : Option Bool :=
 some a
def J8 (K : Nat) : Option Bool :=
 some false
def J7 (K : Nat) : Option Bool :=
 some false
def Vm (K : Nat) (e : ByteArray → Bool → Int → Int → Int → Qj → Zp → Int → (List Xf) → (List Qa) → Bool → (List Zg) → Option Bool) (x1 : ByteArray) (f : Bool) (a : Int) (p : Int) (g : Int) (i : Int) (x0 : Qj) (j : Zp) (l : Int) (m : List Xf) (b : List Qa) (c : Bool) (d : List Zg) : Option Bool :=
 bif (decide (a ≥ (0:Int))) then
 (L8 K x0 (Qt.mk c d)).bind fun n =>
 (Ys b a).bind fun o =>
 bif (decide (n ≥ (o.Rule.length : Int))) then
 J7 K
 else
 (Ys o.Rule n).bind fun q =>
 bif (q != p) then
 J7 K
 else
 e x1 f a g (IntKind.i64.wrap (i + (1:Int))) x0 j l m b c d
 else
 e x1 f a g (IntKind.i64.wrap (i + (1:Int))) x0 j l m b c d
def Vn (K : Nat) (e : ByteArray → Bool → Int → Int → Int → Qj → Zp → Int → (List Xf) → (List Qa) → Bool → (List Zg) → Option Bool) (x1 : ByteArray) (f : Bool) (b : Int) (c : Int) (g : Int) (i : Int) (x0 : Qj) (j : Zp) (l : Int) (m : List Xf) (n : List Qa) (o : Bool) (p : List Zg) : Option Bool :=
 (ck (0 ≤ b ∧ b < x1.size)).bind fun _ =>
 (L5 K x0 (Qt.mk o p) (bt x1 b)).bind fun a =>
 (L6 K x0 a).bind fun d =>
 bif (decide (c < (0:Int))) then
 bif (decide (d ≥ (0:Int))) then
 some false
 else
 Vm K e x1 f c d g i x0 j l m n a.Begin a.L
 else
 Vm K e x1 f c d g i x0 j l m n a.Begin a.L
def Zz (K : Nat) : Nat → ByteArray → Bool → Int → Int → Int → Qj → Zp → Int → (List Xf) → (List Qa) → Bool → (List Zg) → Option Bool
 | 0 => fun _ _ _ _ _ _ _ _ _ _ _ _ => none
 | k + 1 => fun x1 b i c a x0 d j l e f g =>
 bif (decide (a < c)) then
 (L8 K x0 (Qt.mk f g)).bind fun m =>
 bif (decide (i ≥ (0:Int))) then
 (Ys e i).bind fun n =>
 bif (decide (m ≥ (n.Next.length : Int))) then
 some false
 else
 (Ys n.Next m).bind fun o =>
 (ck (0 ≤ a ∧ a < x1.size)).bind fun _ =>
 (ck (0 ≤ (bt x1 a) ∧ (bt x1 a) < 256)).bind fun _ =>
 (Ys o (Zp.get d (bt x1 a))).bind fun p =>
 Vn K (Zz K k) x1 b a p.To c a x0 d j l e f g
 else
 Vn K (Zz K k) x1 b a (-1:Int) c a x0 d j l e f g
 else
 some b
def V1 (K : Nat) (x0 : Qj) (x1 : ByteArray) : Option Bool :=
 (Gw K).bind fun b =>
 bif (decide ((x0.P.length : Int) > (40:Int))) then
 some b
 else
 (Wd K x0).bind fun c =>
 bif (c.2 != (0:Int)) then
 J9 K b
 else
 bif (decide ((c.1.States.length : Int) > (60:Int))) then
 J9 K b
 else
 (Qh6 K c.1).bind fun a =>
 bif (a.2 != (0:Int)) then
 J8 K
 else
 (Wg K a.1).bind fun d =>
 bif (!d) then
 J8 K
 else
 Zz K K x1 b (0:Int) (if (60:Int) < (x1.size : Int) then (60:Int) else (x1.size : Int)) (0:Int) x0 a.1.Split.Of a.1.Split.Many a.1.Counts a.1.States true []
end Go.Rv

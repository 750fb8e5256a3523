/- What each function of the program computes, as plain Lean: printed by a program of ours from the translation. -/
import Derived.Test.YtcmfaclkgdmpbaaGreatDoorRvDE
namespace Go.Rv
set_option linter.unusedVariables false
structure Q5 where
 Of : Zg
 Many : Int
abbrev Qcf (x : Q5) : List DC := ((Zg.dc 256 .u8 x.Of) ++ (([.int .i64 x.Many] : List DC)))
structure Qc where
 To : Int
 Ops : List Int
 deriving DecidableEq
abbrev Qi (x : Qc) : List DC := [.int .i64 x.To, .sl false 1 (x.Ops.map (cI .u8))]
structure Qa where
 L : List Int
 R : List Int
 Rule : List Int
 Next : List (List Qc)
 deriving DecidableEq
abbrev Qd (x : Qa) : List DC := [.sl false 1 (x.L.map (cI .i64)), .sl false 1 (x.R.map (cI .i64)), .sl false 1 (x.Rule.map (cI .i64)), .sl false 1 (x.Next.map (cL 2 Qi))]
structure Qm where
 Split : Q5
 Counts : List Zs
 States : List Qa
abbrev c_api_Auto (x : Qm) : List DC := ((Zg.dc 256 .u8 x.Split.Of) ++ (([.int .i64 x.Split.Many, .sl false 2 (x.Counts.map (Zs.dc .i64)), .sl false 4 (x.States.map Qd)] : List DC)))
structure Q0 where
 Op : Int
 S : Z2
 L : List Int
 Lo : Int
 Hi : Int
 Name : ByteArray
 deriving DecidableEq
abbrev Qt (x : Q0) : List DC := [.int .u8 x.Op, .int .u64 x.S.a0, .int .u64 x.S.a1, .int .u64 x.S.a2, .int .u64 x.S.a3, .sl false 1 (x.L.map (cI .i64)), .int .i64 x.Lo, .int .i64 x.Hi, .str x.Name]
structure Qf where
 s : ByteArray
 at_ : Int
 nodes : List Q0
 deep : Int
 e : Int
 where_ : Int
 deriving DecidableEq
structure Qw where
 l : List Q0
 most : Int
 out : List Q0
 long : Bool
 deriving DecidableEq
structure Zt where
 S : Z2
 Lo : Int
 Hi : Int
 Rule : Int
 Last : Bool
 Next : List Int
 deriving DecidableEq
abbrev Qy (x : Zt) : List DC := [.int .u64 x.S.a0, .int .u64 x.S.a1, .int .u64 x.S.a2, .int .u64 x.S.a3, .int .i64 x.Lo, .int .i64 x.Hi, .int .i64 x.Rule, .bool x.Last, .sl false 1 (x.Next.map (cI .i64))]
structure Zn where
 First : List Int
 P : List Zt
 deriving DecidableEq
structure Qj where
 p : List Zt
 deriving DecidableEq
structure Qs where
 null : Bool
 first : List Int
 last : List Int
 deriving DecidableEq
abbrev Zh (x : Qs) : List DC := [.bool x.null, .sl false 1 (x.first.map (cI .i64)), .sl false 1 (x.last.map (cI .i64))]
structure Qh where
 g : Zn
 number : List Int
 a : Qm
 e : Int
structure Q7 where
 Auto : Qm
structure Qb where
 Auto : Qm
structure Z6 where
 l : List Int
 deriving DecidableEq
def Xn (K : Nat) (x0 : Qf) : Option Bool :=
 bif (decide (x0.at_ ≥ (x0.s.size : Int))) then
 some true
 else
 some (x0.e != (0:Int))
def V4 (K : Nat) (x0 : Qf) (x1 : Q0) : Option (Int × Qf) :=
 (ck (roomy 96 (x0.nodes.length + [x1].length) = true)).bind fun _ =>
 some ((IntKind.i64.wrap (((x0.nodes ++ [x1]).length : Int) - (1:Int))), (Qf.mk x0.s x0.at_ (x0.nodes ++ [x1]) x0.deep x0.e x0.where_))
def Mf (K : Nat) : Option ByteArray :=
 some (⟨#[124, 42, 43, 63, 123, 125, 40, 41, 91, 93, 46, 92, 47, 36, 94, 34]⟩ : ByteArray)
def L5 (K : Nat) : Nat → Int → ByteArray → Int → Option Bool
 | 0 => fun _ _ _ => none
 | k + 1 => fun x0 x1 a =>
 bif (decide (a < (x1.size : Int))) then
 (ck (0 ≤ a ∧ a < x1.size)).bind fun _ =>
 bif ((bt x1 a) == x0) then
 none
 else
 L5 K k x0 x1 (IntKind.i64.wrap (a + (1:Int)))
 else
 some false
def N4 (K : Nat) (x0 : Int) (x1 : ByteArray) : Option Bool :=
 L5 K K x0 x1 (0:Int)
def Gu (K : Nat) (x0 : Qf) : Option (Int × Qf) :=
 (ck (0 ≤ x0.at_ ∧ x0.at_ < x0.s.size)).bind fun _ =>
 bif ((bt x0.s x0.at_) != (92:Int)) then
 some ((bt x0.s x0.at_), (Qf.mk x0.s (IntKind.i64.wrap (x0.at_ + (1:Int))) x0.nodes x0.deep x0.e x0.where_))
 else
 none
def Ja (K : Nat) (x0 : Z2) (x1 : Int) : Option Bool :=
 (ck (0 ≤ (IntKind.u8.wrap (Int.tdiv x1 (64:Int))) ∧ (IntKind.u8.wrap (Int.tdiv x1 (64:Int))) < 4)).bind fun _ =>
 (ck (0 ≤ (Int.tmod x1 (64:Int)))).bind fun _ =>
 some ((Int.tmod (Int.fdiv (Z2.get x0 (IntKind.u8.wrap (Int.tdiv x1 (64:Int)))) (2 ^ min (Int.toNat (Int.tmod x1 (64:Int))) IntKind.u64.bits)) (2:Int)) == (1:Int))
def D2 (K : Nat) (x0 : Z2) (x1 : Int) : Option Z2 :=
 (Ja K x0 x1).bind fun a =>
 bif (!a) then
 (ck (0 ≤ (IntKind.u8.wrap (Int.tdiv x1 (64:Int))) ∧ (IntKind.u8.wrap (Int.tdiv x1 (64:Int))) < 4)).bind fun _ =>
 (ck (0 ≤ (Int.tmod x1 (64:Int)))).bind fun _ =>
 some (Z2.set x0 (IntKind.u8.wrap (Int.tdiv x1 (64:Int))) (IntKind.u64.wrap ((Z2.get x0 (IntKind.u8.wrap (Int.tdiv x1 (64:Int)))) + (IntKind.u64.wrap ((1:Int) * 2 ^ min (Int.toNat (Int.tmod x1 (64:Int))) IntKind.u64.bits)))))
 else
 none
def L8 (K : Nat) : Nat → (List Int) → Int → Z2 → Z2 → Option Z2
 | 0 => fun _ _ _ _ => none
 | k + 1 => fun x0 a c b =>
 bif (decide (a < (x0.length : Int))) then
 (Yw x0 a).bind fun d =>
 (D2 K b d).bind fun e =>
 L8 K k x0 (IntKind.i64.wrap (a + (1:Int))) c e
 else
 some b
def Cu (K : Nat) (x0 : List Int) : Option Z2 :=
 L8 K K x0 (0:Int) (Z2.mk 0 0 0 0) (Z2.mk 0 0 0 0)
def H1 (K : Nat) (x0 : Qf) : Option (Int × Qf) :=
 (ck (0 ≤ x0.at_ ∧ x0.at_ < x0.s.size)).bind fun _ =>
 bif ((bt x0.s x0.at_) == (40:Int)) then
 none
 else
 bif ((bt x0.s x0.at_) == (91:Int)) then
 none
 else
 bif ((bt x0.s x0.at_) == (46:Int)) then
 none
 else
 bif ((bt x0.s x0.at_) == (123:Int)) then
 none
 else
 bif ((bt x0.s x0.at_) == (47:Int)) then
 none
 else
 bif ((bt x0.s x0.at_) == (36:Int)) then
 none
 else
 bif ((bt x0.s x0.at_) != (92:Int)) then
 (Mf K).bind fun c =>
 (N4 K (bt x0.s x0.at_) c).bind fun d =>
 bif d then
 none
 else
 (Gu K x0).bind fun a =>
 bif (a.2.e != (0:Int)) then
 none
 else
 (Cu K [a.1]).bind fun f =>
 (V4 K a.2 (Q0.mk (2:Int) f [] (0:Int) (0:Int) (⟨#[]⟩ : ByteArray))).bind fun b =>
 some (b.1, b.2)
 else
 none
def Js (K : Nat) : Nat → Int → ByteArray → Int → Int → Int → Int → (List Q0) → Option (Int × Qf)
 | 0 => fun _ _ _ _ _ _ _ => none
 | k + 1 => fun g a b c d e f =>
 (Xn K (Qf.mk a b f c d e)).bind fun i =>
 bif (!i) then
 (ck (0 ≤ (Qf.mk a b f c d e).at_ ∧ (Qf.mk a b f c d e).at_ < ((Qf.mk a b f c d e).s).size)).bind fun _ =>
 bif ((bt ((Qf.mk a b f c d e).s) ((Qf.mk a b f c d e).at_)) == (42:Int)) then
 none
 else
 bif ((bt ((Qf.mk a b f c d e).s) ((Qf.mk a b f c d e).at_)) == (43:Int)) then
 none
 else
 bif ((bt ((Qf.mk a b f c d e).s) ((Qf.mk a b f c d e).at_)) == (63:Int)) then
 none
 else
 bif ((bt ((Qf.mk a b f c d e).s) ((Qf.mk a b f c d e).at_)) == (123:Int)) then
 none
 else
 some (g, (Qf.mk a b f c d e))
 else
 some (g, (Qf.mk a b f c d e))
def H0 (K : Nat) (x0 : Qf) : Option (Int × Qf) :=
 (H1 K x0).bind fun a =>
 Js K K a.1 a.2.s a.2.at_ a.2.deep a.2.e a.2.where_ a.2.nodes
def Uf (K : Nat) (d : ByteArray) (e : Int) (f : Int) (b : Int) (g : Int) (i : List Q0) (a : List Int) : Option (Int × Qf) :=
 bif (b != (0:Int)) then
 none
 else
 bif ((a.length : Int) == (0:Int)) then
 none
 else
 bif ((a.length : Int) == (1:Int)) then
 none
 else
 (V4 K (Qf.mk d e i f b g) (Q0.mk (3:Int) (Z2.mk 0 0 0 0) a (0:Int) (0:Int) (⟨#[]⟩ : ByteArray))).bind fun c =>
 some (c.1, c.2)
def Ue (K : Nat) : Nat → ByteArray → Int → Int → Int → Int → (List Q0) → (List Int) → Option (Int × Qf)
 | 0 => fun _ _ _ _ _ _ _ => none
 | k + 1 => fun a b c d f g j =>
 (Xn K (Qf.mk a b g c d f)).bind fun l =>
 bif (!l) then
 (ck (0 ≤ (Qf.mk a b g c d f).at_ ∧ (Qf.mk a b g c d f).at_ < ((Qf.mk a b g c d f).s).size)).bind fun _ =>
 bif ((bt ((Qf.mk a b g c d f).s) ((Qf.mk a b g c d f).at_)) != (124:Int)) then
 bif ((bt ((Qf.mk a b g c d f).s) ((Qf.mk a b g c d f).at_)) != (41:Int)) then
 (H0 K (Qf.mk a b g c d f)).bind fun i =>
 (ck (roomy 8 (j.length + [i.1].length) = true)).bind fun _ =>
 Ue K k i.2.s i.2.at_ i.2.deep i.2.e i.2.where_ i.2.nodes (j ++ [i.1])
 else
 none
 else
 Uf K ((Qf.mk a b g c d f).s) ((Qf.mk a b g c d f).at_) ((Qf.mk a b g c d f).deep) ((Qf.mk a b g c d f).e) ((Qf.mk a b g c d f).where_) ((Qf.mk a b g c d f).nodes) j
 else
 Uf K ((Qf.mk a b g c d f).s) ((Qf.mk a b g c d f).at_) ((Qf.mk a b g c d f).deep) ((Qf.mk a b g c d f).e) ((Qf.mk a b g c d f).where_) ((Qf.mk a b g c d f).nodes) j
def Jh (K : Nat) (x0 : Qf) : Option (Int × Qf) :=
 Ue K K x0.s x0.at_ x0.deep x0.e x0.where_ x0.nodes []
def Y8 (K : Nat) : Nat → ByteArray → Int → Int → Int → Int → (List Q0) → (List Int) → Option (Int × Qf)
 | 0 => fun _ _ _ _ _ _ _ => none
 | k + 1 => fun a b c d f g j =>
 (Xn K (Qf.mk a b g c d f)).bind fun m =>
 bif (!m) then
 (ck (0 ≤ (Qf.mk a b g c d f).at_ ∧ (Qf.mk a b g c d f).at_ < ((Qf.mk a b g c d f).s).size)).bind fun _ =>
 bif ((bt ((Qf.mk a b g c d f).s) ((Qf.mk a b g c d f).at_)) == (124:Int)) then
 (Jh K (Qf.mk ((Qf.mk a b g c d f).s) (IntKind.i64.wrap ((Qf.mk a b g c d f).at_ + (1:Int))) ((Qf.mk a b g c d f).nodes) ((Qf.mk a b g c d f).deep) ((Qf.mk a b g c d f).e) ((Qf.mk a b g c d f).where_))).bind fun i =>
 (ck (roomy 8 (j.length + [i.1].length) = true)).bind fun _ =>
 Y8 K k i.2.s i.2.at_ i.2.deep i.2.e i.2.where_ i.2.nodes (j ++ [i.1])
 else
 none
 else
 bif ((j.length : Int) == (1:Int)) then
 none
 else
 bif ((Qf.mk a b g c d f).e != (0:Int)) then
 none
 else
 (V4 K (Qf.mk a b g c d f) (Q0.mk (4:Int) (Z2.mk 0 0 0 0) j (0:Int) (0:Int) (⟨#[]⟩ : ByteArray))).bind fun l =>
 some (l.1, l.2)
def Ui (K : Nat) (x0 : Qf) : Option (Int × Qf) :=
 (Jh K x0).bind fun a =>
 Y8 K K a.2.s a.2.at_ a.2.deep a.2.e a.2.where_ a.2.nodes [a.1]
def Cn (K : Nat) (x0 : ByteArray) : Option ((List Q0) × Int × Int) :=
 bif (decide ((x0.size : Int) > (1024:Int))) then
 none
 else
 (Ui K (Qf.mk x0 (0:Int) [] (0:Int) (0:Int) (0:Int))).bind fun a =>
 (Xn K a.2).bind fun b =>
 bif (!b) then
 none
 else
 bif (a.2.e != (0:Int)) then
 none
 else
 bif (decide ((a.2.nodes.length : Int) > (1024:Int))) then
 none
 else
 some (a.2.nodes, (0:Int), (0:Int))
def Hz (K : Nat) (rec_raddleref04_walk : (List Q0) → Int → (List Int) → Option ((List Int) × Bool)) : Nat → (List Q0) → Int → Int → (List Int) → Option ((List Int) × Bool)
 | 0 => fun _ _ _ _ => none
 | k + 1 => fun x0 x1 a b =>
 (Yw x0 x1).bind fun d =>
 bif (decide (a < (d.L.length : Int))) then
 (Yw d.L a).bind fun c =>
 bif (decide (c < (0:Int))) then
 none
 else
 bif (decide (c ≥ x1)) then
 none
 else
 (rec_raddleref04_walk x0 c b).bind fun e =>
 bif (!e.2) then
 none
 else
 Hz K rec_raddleref04_walk k x0 x1 (IntKind.i64.wrap (a + (1:Int))) e.1
 else
 (ck (roomy 8 (b.length + [x1].length) = true)).bind fun _ =>
 some ((b ++ [x1]), true)
def M8 (K : Nat) (rec_raddleref04_walk : (List Q0) → Int → (List Int) → Option ((List Int) × Bool)) (x0 : List Q0) (x1 : Int) (x2 : List Int) : Option ((List Int) × Bool) :=
 bif (decide ((x2.length : Int) ≥ (x0.length : Int))) then
 none
 else
 Hz K rec_raddleref04_walk K x0 x1 (0:Int) x2
def G4 (K : Nat) : Nat → (List Q0) → Int → (List Int) → Option ((List Int) × Bool)
 | 0 => fun _ _ _ => none
 | n + 1 => M8 K (G4 K n)
def Rt (K : Nat) (x0 : List Q0) (x1 : Int) (x2 : List Int) : Option ((List Int) × Bool) := G4 K K x0 x1 x2
def Wk (K : Nat) (a : Bool) (b : Bool) (c : Bool) (x0 : Q0) (d : Bool) : Option Bool :=
 bif d then
 bif (!a) then
 bif (!b) then
 bif (!c) then
 some (decide ((x0.L.length : Int) ≥ (2:Int)))
 else
 none
 else
 none
 else
 none
 else
 none
def Ck (K : Nat) (x0 : Q0) : Option Bool :=
 bif (x0.Lo != (0:Int)) then
 none
 else
 bif (x0.Op == (1:Int)) then
 none
 else
 bif (x0.Op == (2:Int)) then
 bif (!(Z2.same x0.S (Z2.mk 0 0 0 0))) then
 bif (!(x0.Hi != (0:Int))) then
 bif (!(!(x0.Name.toList == (⟨#[]⟩ : ByteArray).toList))) then
 some ((x0.L.length : Int) == (0:Int))
 else
 none
 else
 none
 else
 none
 else
 bif (x0.Op == (3:Int)) then
 Wk K (!(Z2.same x0.S (Z2.mk 0 0 0 0))) (x0.Hi != (0:Int)) (!(x0.Name.toList == (⟨#[]⟩ : ByteArray).toList)) x0 (x0.Op == (3:Int))
 else
 Wk K (!(Z2.same x0.S (Z2.mk 0 0 0 0))) (x0.Hi != (0:Int)) (!(x0.Name.toList == (⟨#[]⟩ : ByteArray).toList)) x0 (x0.Op == (4:Int))
def Wl (K : Nat) : Nat → Int → (List Int) → Option Bool
 | 0 => fun _ _ => none
 | k + 1 => fun a b =>
 bif (decide (a < (b.length : Int))) then
 (Yw b a).bind fun c =>
 bif (c != a) then
 none
 else
 Wl K k (IntKind.i64.wrap (a + (1:Int))) b
 else
 some true
def Wm (K : Nat) : Nat → (List Q0) → Int → Option Bool
 | 0 => fun _ _ => none
 | k + 1 => fun x0 a =>
 bif (decide (a < (x0.length : Int))) then
 (Yw x0 a).bind fun c =>
 (Ck K c).bind fun d =>
 bif (!d) then
 none
 else
 Wm K k x0 (IntKind.i64.wrap (a + (1:Int)))
 else
 (Rt K x0 (IntKind.i64.wrap ((x0.length : Int) - (1:Int))) ([] : List Int)).bind fun b =>
 bif (!b.2) then
 none
 else
 bif ((b.1.length : Int) != (x0.length : Int)) then
 none
 else
 Wl K K (0:Int) b.1
def L6 (K : Nat) (x0 : List Q0) : Option Bool :=
 bif (decide ((x0.length : Int) < (1:Int))) then
 none
 else
 bif (decide ((x0.length : Int) > (1024:Int))) then
 none
 else
 Wm K K x0 (0:Int)
def Wj (K : Nat) : Nat → (List Q0) → Int → Option Bool
 | 0 => fun _ _ => none
 | k + 1 => fun x0 a =>
 bif (decide (a < (x0.length : Int))) then
 (Yw x0 a).bind fun b =>
 bif (b.Op == (6:Int)) then
 some false
 else
 Wj K k x0 (IntKind.i64.wrap (a + (1:Int)))
 else
 (L6 K x0).bind fun c =>
 some c
def Lz (K : Nat) (x0 : List Q0) : Option Bool :=
 Wj K K x0 (0:Int)
def Hy (K : Nat) (x0 : Qw) (x1 : Q0) : Option (Int × Qw) :=
 bif (decide ((x0.out.length : Int) ≥ (1024:Int))) then
 none
 else
 (ck (roomy 96 (x0.out.length + [x1].length) = true)).bind fun _ =>
 some ((IntKind.i64.wrap (((x0.out ++ [x1]).length : Int) - (1:Int))), (Qw.mk x0.l x0.most (x0.out ++ [x1]) x0.long))
def Vm (K : Nat) (rec_raddleref08_planner_plan : Qw → Int → Option (Int × Qw)) : Nat → Int → (List Q0) → Int → Bool → (List Q0) → Int → Z2 → (List Int) → Int → Int → ByteArray → (List Int) → Option (Int × Qw)
 | 0 => fun _ _ _ _ _ _ _ _ _ _ _ _ => none
 | k + 1 => fun b e f g i j m c n o p d =>
 bif (decide (b < (c.length : Int))) then
 (Yw c b).bind fun r =>
 (rec_raddleref08_planner_plan (Qw.mk e f i g) r).bind fun a =>
 (ck (roomy 8 (d.length + [a.1].length) = true)).bind fun _ =>
 Vm K rec_raddleref08_planner_plan k (IntKind.i64.wrap (b + (1:Int))) a.2.l a.2.most a.2.long a.2.out j m c n o p (d ++ [a.1])
 else
 (Hy K (Qw.mk e f i g) (Q0.mk j m d n o p)).bind fun q =>
 some (q.1, q.2)
def Jq (K : Nat) (rec_raddleref08_planner_plan : Qw → Int → Option (Int × Qw)) (x0 : Qw) (x1 : Int) : Option (Int × Qw) :=
 (Yw x0.l x1).bind fun a =>
 bif x0.long then
 none
 else
 bif (a.Op == (5:Int)) then
 none
 else
 Vm K rec_raddleref08_planner_plan K (0:Int) x0.l x0.most x0.long x0.out a.Op a.S a.L a.Lo a.Hi a.Name []
def V0 (K : Nat) : Nat → Qw → Int → Option (Int × Qw)
 | 0 => fun _ _ => none
 | n + 1 => Jq K (V0 K n)
def Mq (K : Nat) (x0 : Qw) (x1 : Int) : Option (Int × Qw) := V0 K K x0 x1
def Dy (K : Nat) (x0 : List Q0) (x1 : Int) : Option ((List Q0) × Int) :=
 (Lz K x0).bind fun b =>
 bif (!b) then
 none
 else
 bif (decide (x1 < (1:Int))) then
 none
 else
 bif (decide (x1 > (4096:Int))) then
 none
 else
 (Mq K (Qw.mk x0 x1 [] false) (IntKind.i64.wrap ((x0.length : Int) - (1:Int)))).bind fun a =>
 bif a.2.long then
 none
 else
 (L6 K a.2.out).bind fun c =>
 bif (!c) then
 none
 else
 some (a.2.out, (0:Int))
def Hx (K : Nat) (e : (List Int) → (List Int) → Int → Int → (List Int) → Option (List Int)) (x0 : List Int) (x1 : List Int) (b : Int) (a : Int) (c : List Int) : Option (List Int) :=
 bif (a == (x1.length : Int)) then
 none
 else
 bif (decide (b < (x0.length : Int))) then
 (Yw x0 b).bind fun d =>
 (Yw x1 a).bind fun g =>
 bif (decide (d < g)) then
 (ck (roomy 8 (c.length + [d].length) = true)).bind fun _ =>
 e x0 x1 (IntKind.i64.wrap (b + (1:Int))) a (c ++ [d])
 else
 none
 else
 (Yw x1 a).bind fun f =>
 (ck (roomy 8 (c.length + [f].length) = true)).bind fun _ =>
 e x0 x1 b (IntKind.i64.wrap (a + (1:Int))) (c ++ [f])
def Vb (K : Nat) : Nat → (List Int) → (List Int) → Int → Int → (List Int) → Option (List Int)
 | 0 => fun _ _ _ _ _ => none
 | k + 1 => fun x0 x1 a b c =>
 bif (decide (a < (x0.length : Int))) then
 Hx K (Vb K k) x0 x1 a b c
 else
 bif (decide (b < (x1.length : Int))) then
 Hx K (Vb K k) x0 x1 a b c
 else
 some c
def Uq (K : Nat) (x0 : List Int) (x1 : List Int) : Option (List Int) :=
 Vb K K x0 x1 (0:Int) (0:Int) []
def Vl (K : Nat) : Nat → (List Int) → (List Int) → Int → (List Zt) → Option Qj
 | 0 => fun _ _ _ _ => none
 | k + 1 => fun x1 x2 b c =>
 bif (decide (b < (x1.length : Int))) then
 (Yw x1 b).bind fun d =>
 (Yw c d).bind fun a =>
 (Uq K a.Next x2).bind fun e =>
 Vl K k x1 x2 (IntKind.i64.wrap (b + (1:Int))) (List.set c (Int.toNat d) (Zt.mk a.S a.Lo a.Hi a.Rule a.Last e))
 else
 some (Qj.mk c)
def W5 (K : Nat) (x0 : Qj) (x1 : List Int) (x2 : List Int) : Option Qj :=
 Vl K K x1 x2 (0:Int) x0.p
def Vz (K : Nat) (a : (List Qs) → Int → (List Zt) → Bool → (List Int) → (List Int) → Option (Qs × Qj)) (x1 : List Qs) (b : Int) (c : List Zt) (g : Bool) (d : List Int) (i : List Int) (e : Bool) (j : List Int) (f : List Int) : Option (Qs × Qj) :=
 bif e then
 none
 else
 bif g then
 a x1 (IntKind.i64.wrap (b + (1:Int))) c e d f
 else
 a x1 (IntKind.i64.wrap (b + (1:Int))) c false d f
def Yd (K : Nat) : Nat → (List Qs) → Int → (List Zt) → Bool → (List Int) → (List Int) → Option (Qs × Qj)
 | 0 => fun _ _ _ _ _ _ => none
 | k + 1 => fun x1 b f c e d =>
 bif (decide (b < (x1.length : Int))) then
 (Yw x1 b).bind fun a =>
 (W5 K (Qj.mk f) d a.first).bind fun g =>
 bif c then
 (Uq K e a.first).bind fun i =>
 Vz K (Yd K k) x1 b g.p c i d a.null a.first a.last
 else
 Vz K (Yd K k) x1 b g.p c e d a.null a.first a.last
 else
 some ((Qs.mk c e d), (Qj.mk f))
def Hw (K : Nat) (x0 : Qj) (x1 : List Qs) : Option (Qs × Qj) :=
 Yd K K x1 (0:Int) x0.p true [] []
def Hv (K : Nat) (x0 : Qj) (x1 : Zt) : Option (Qs × Qj) :=
 (ck (roomy 88 (x0.p.length + [x1].length) = true)).bind fun _ =>
 some ((Qs.mk false [(IntKind.i64.wrap (((x0.p ++ [x1]).length : Int) - (1:Int)))] [(IntKind.i64.wrap (((x0.p ++ [x1]).length : Int) - (1:Int)))]), (Qj.mk (x0.p ++ [x1])))
def Vj (K : Nat) (rec_raddleref09_builder_node : Qj → (List Q0) → Int → Int → Option (Qs × Qj)) : Nat → Int → (List Zt) → (List Int) → (List Int) → Int → Z2 → (List Int) → Int → Int → ByteArray → (List Qs) → Bool → (List Int) → (List Int) → Option (Qs × Qj)
 | 0 => fun _ _ _ _ _ _ _ _ _ _ _ _ _ _ => none
 | k + 1 => fun a d j l e m n o p q b f g i =>
 bif (decide (a < (b.length : Int))) then
 bif f then
 none
 else
 (Yw b a).bind fun c =>
 (Uq K g c.first).bind fun r =>
 (Uq K i c.last).bind fun s =>
 Vj K rec_raddleref09_builder_node k (IntKind.i64.wrap (a + (1:Int))) d j l e m n o p q b c.null r s
 else
 bif (e == (5:Int)) then
 none
 else
 some ((Qs.mk f g i), (Qj.mk d))
def Vk (K : Nat) (rec_raddleref09_builder_node : Qj → (List Q0) → Int → Int → Option (Qs × Qj)) : Nat → (List Q0) → Int → Int → (List Zt) → Int → Z2 → (List Int) → Int → Int → ByteArray → (List Qs) → Option (Qs × Qj)
 | 0 => fun _ _ _ _ _ _ _ _ _ _ _ => none
 | k + 1 => fun x1 x3 d e a g b i j l c =>
 bif (decide (d < (b.length : Int))) then
 (Yw b d).bind fun n =>
 (rec_raddleref09_builder_node (Qj.mk e) x1 n x3).bind fun f =>
 (ck (roomy 56 (c.length + [f.1].length) = true)).bind fun _ =>
 Vk K rec_raddleref09_builder_node k x1 x3 (IntKind.i64.wrap (d + (1:Int))) f.2.p a g b i j l (c ++ [f.1])
 else
 bif (a == (3:Int)) then
 (Hw K (Qj.mk e) c).bind fun m =>
 some (m.1, m.2)
 else
 Vj K rec_raddleref09_builder_node K (0:Int) e [] [] a g b i j l c (a == (5:Int)) [] []
def Jp (K : Nat) (rec_raddleref09_builder_node : Qj → (List Q0) → Int → Int → Option (Qs × Qj)) (x0 : Qj) (x1 : List Q0) (x2 : Int) (x3 : Int) : Option (Qs × Qj) :=
 (Yw x1 x2).bind fun a =>
 bif (a.Op == (1:Int)) then
 none
 else
 bif (a.Op == (2:Int)) then
 (Hv K x0 (Zt.mk a.S (1:Int) (1:Int) x3 false [])).bind fun b =>
 some (b.1, b.2)
 else
 bif (a.Op == (5:Int)) then
 none
 else
 Vk K rec_raddleref09_builder_node K x1 x3 (0:Int) x0.p a.Op a.S a.L a.Lo a.Hi a.Name []
def Vx (K : Nat) : Nat → Qj → (List Q0) → Int → Int → Option (Qs × Qj)
 | 0 => fun _ _ _ _ => none
 | n + 1 => Jp K (Vx K n)
def Mp (K : Nat) (x0 : Qj) (x1 : List Q0) (x2 : Int) (x3 : Int) : Option (Qs × Qj) := Vx K K x0 x1 x2 x3
def Wi (K : Nat) : Nat → (List Q0) → Int → Option Bool
 | 0 => fun _ _ => none
 | k + 1 => fun x0 a =>
 bif (decide (a < (x0.length : Int))) then
 (Yw x0 a).bind fun b =>
 bif (b.Op == (5:Int)) then
 none
 else
 Wi K k x0 (IntKind.i64.wrap (a + (1:Int)))
 else
 some true
def Cj (K : Nat) (x0 : List Q0) : Option Bool :=
 (Lz K x0).bind fun a =>
 bif (!a) then
 none
 else
 Wi K K x0 (0:Int)
def Lx (K : Nat) (e : (List (List Q0)) → Int → (List Int) → (List Zt) → (List Zt) → (List Int) → (List Zt) → Option (Zn × Int)) : Nat → (List (List Q0)) → Int → Int → (List Int) → (List Zt) → (List Zt) → (List Int) → (List Zt) → Bool → (List Int) → (List Int) → Option (Zn × Int)
 | 0 => fun _ _ _ _ _ _ _ _ _ _ _ => none
 | k + 1 => fun x0 f c g i b j l n o d =>
 bif (decide (c < (d.length : Int))) then
 (Yw d c).bind fun m =>
 (Yw b m).bind fun a =>
 Lx K e k x0 f (IntKind.i64.wrap (c + (1:Int))) g i (List.set b (Int.toNat m) (Zt.mk a.S a.Lo a.Hi a.Rule true a.Next)) j l n o d
 else
 bif (decide ((b.length : Int) > (512:Int))) then
 none
 else
 e x0 (IntKind.i64.wrap (f + (1:Int))) g i b j l
def W7 (K : Nat) : Nat → (List (List Q0)) → Int → (List Int) → (List Zt) → (List Zt) → (List Int) → (List Zt) → Option (Zn × Int)
 | 0 => fun _ _ _ _ _ _ _ => none
 | k + 1 => fun x0 b f g c d i =>
 bif (decide (b < (x0.length : Int))) then
 (Yw x0 b).bind fun e =>
 (Mp K (Qj.mk c) e (IntKind.i64.wrap ((e.length : Int) - (1:Int))) b).bind fun a =>
 (Uq K d a.1.first).bind fun j =>
 Lx K (W7 K k) K x0 b (0:Int) f g a.2.p j i a.1.null a.1.first a.1.last
 else
 some ((Zn.mk d c), (0:Int))
def Ly (K : Nat) : Nat → (List (List Q0)) → Int → Option (Zn × Int)
 | 0 => fun _ _ => none
 | k + 1 => fun x0 a =>
 bif (decide (a < (x0.length : Int))) then
 (Yw x0 a).bind fun b =>
 (Cj K b).bind fun c =>
 bif (!c) then
 none
 else
 Ly K k x0 (IntKind.i64.wrap (a + (1:Int)))
 else
 W7 K K x0 (0:Int) [] [] [] [] []
def Nx (K : Nat) (x0 : List (List Q0)) : Option (Zn × Int) :=
 bif (decide ((x0.length : Int) > (512:Int))) then
 none
 else
 Ly K K x0 (0:Int)
def Uu (K : Nat) : Nat → (List Int) → Int → Int → Option Bool
 | 0 => fun _ _ _ => none
 | k + 1 => fun x0 x1 a =>
 bif (decide (a < (x0.length : Int))) then
 (Yw x0 a).bind fun b =>
 bif (decide (b < (0:Int))) then
 none
 else
 bif (decide (b ≥ x1)) then
 none
 else
 bif (decide (a > (0:Int))) then
 (Yw x0 (IntKind.i64.wrap (a - (1:Int)))).bind fun c =>
 bif (decide (c ≥ b)) then
 none
 else
 Uu K k x0 x1 (IntKind.i64.wrap (a + (1:Int)))
 else
 Uu K k x0 x1 (IntKind.i64.wrap (a + (1:Int)))
 else
 some true
def Lu (K : Nat) (x0 : List Int) (x1 : Int) : Option Bool :=
 Uu K K x0 x1 (0:Int)
def Wh (K : Nat) : Nat → Int → Zn → Option Bool
 | 0 => fun _ _ => none
 | k + 1 => fun b x0 =>
 bif (decide (b < (x0.P.length : Int))) then
 (Yw x0.P b).bind fun a =>
 bif (Z2.same a.S (Z2.mk 0 0 0 0)) then
 none
 else
 bif (decide (a.Lo < (1:Int))) then
 none
 else
 bif (decide (a.Lo > a.Hi)) then
 none
 else
 bif (decide (a.Hi > (4096:Int))) then
 none
 else
 bif (decide (a.Rule < (0:Int))) then
 none
 else
 bif (decide (a.Rule ≥ (512:Int))) then
 none
 else
 (Lu K a.Next (x0.P.length : Int)).bind fun c =>
 bif (!c) then
 none
 else
 Wh K k (IntKind.i64.wrap (b + (1:Int))) x0
 else
 some true
def Ci (K : Nat) (x0 : Zn) : Option Bool :=
 bif (decide ((x0.P.length : Int) > (512:Int))) then
 none
 else
 (Lu K x0.First (x0.P.length : Int)).bind fun a =>
 bif (!a) then
 none
 else
 Wh K K (0:Int) x0
def Wn (K : Nat) : Nat → (List Z2) → Int → Int → Int → Option Bool
 | 0 => fun _ _ _ _ => none
 | k + 1 => fun x0 x1 x2 a =>
 bif (decide (a < (x0.length : Int))) then
 (Yw x0 a).bind fun b =>
 (Ja K b x1).bind fun c =>
 (Ja K b x2).bind fun d =>
 bif (!(c == d)) then
 some false
 else
 Wn K k x0 x1 x2 (IntKind.i64.wrap (a + (1:Int)))
 else
 some true
def Co (K : Nat) (x0 : List Z2) (x1 : Int) (x2 : Int) : Option Bool :=
 Wn K K x0 x1 x2 (0:Int)
def U5 (K : Nat) (b : (List Z2) → Int → Zg → Zg → (List Int) → Option Q5) (x0 : List Z2) (a : Int) (c : Int) (d : Zg) (e : Zg) (f : List Int) : Option Q5 :=
 (ck (0 ≤ a ∧ a < 256)).bind fun _ =>
 b x0 (IntKind.i64.wrap (a + (1:Int))) d (Zg.set e a (IntKind.u8.wrap c)) f
def L7 (K : Nat) (d : (List Z2) → Int → Zg → Zg → (List Int) → Option Q5) : Nat → (List Z2) → Int → Int → Zg → Zg → (List Int) → Option Q5
 | 0 => fun _ _ _ _ _ _ => none
 | k + 1 => fun x0 b c e f a =>
 bif (decide (c < (a.length : Int))) then
 (Yw a c).bind fun g =>
 (Co K x0 g (IntKind.u8.wrap b)).bind fun i =>
 bif (!i) then
 L7 K d k x0 b (IntKind.i64.wrap (c + (1:Int))) e f a
 else
 bif (c == (a.length : Int)) then
 (ck (roomy 1 (a.length + [(IntKind.u8.wrap b)].length) = true)).bind fun _ =>
 U5 K d x0 b c e f (a ++ [(IntKind.u8.wrap b)])
 else
 U5 K d x0 b c e f a
 else
 bif (c == (a.length : Int)) then
 (ck (roomy 1 (a.length + [(IntKind.u8.wrap b)].length) = true)).bind fun _ =>
 U5 K d x0 b c e f (a ++ [(IntKind.u8.wrap b)])
 else
 U5 K d x0 b c e f a
def Ha (K : Nat) : Nat → (List Z2) → Int → Zg → Zg → (List Int) → Option Q5
 | 0 => fun _ _ _ _ _ => none
 | k + 1 => fun x0 a d b c =>
 bif (decide (a < (256:Int))) then
 L7 K (Ha K k) K x0 a (0:Int) d b c
 else
 some (Q5.mk b (c.length : Int))
def N7 (K : Nat) (x0 : List Z2) : Option Q5 :=
 Ha K K x0 (0:Int) (Zg.mk fun _ => 0) (Zg.mk fun _ => 0) []
def Ut (K : Nat) : Option Int :=
 some (0:Int)
def Us (K : Nat) : Nat → Int → Int → Int → Option Int
 | 0 => fun _ _ _ => none
 | k + 1 => fun x0 a b =>
 bif (decide (b < x0)) then
 Us K k x0 (IntKind.i64.wrap (a * (3:Int))) (IntKind.i64.wrap (b + (1:Int)))
 else
 some a
def Ua (K : Nat) (x0 : Int) : Option Int :=
 bif (decide (x0 < (0:Int))) then
 Ut K
 else
 bif (decide (x0 > (3:Int))) then
 Ut K
 else
 Us K K x0 (1:Int) (0:Int)
def Ux (K : Nat) : Nat → Int → Int → Qh → Qa → Option Int
 | 0 => fun _ _ _ _ => none
 | k + 1 => fun x2 x3 x0 x1 =>
 bif (decide ((0:Int) < (x1.R.length : Int))) then
 none
 else
 some (-1:Int)
def Ud (K : Nat) (x0 : Qh) (x1 : Qa) (x2 : Int) (x3 : Int) : Option Int :=
 Ux K K x2 x3 x0 x1
def Uo (K : Nat) (x0 : Qh) (x1 : Qa) (x2 : Int) (x3 : Int) : Option Bool :=
 (Ud K x0 x1 x2 x3).bind fun a =>
 some (a != (0:Int))
def Xe (K : Nat) : Nat → Int → Int → Int → Qh → Qa → Option Int
 | 0 => fun _ _ _ _ _ => none
 | k + 1 => fun x2 b a x0 x1 =>
 bif (decide (a < (x1.L.length : Int))) then
 (Yw x1.L a).bind fun c =>
 (Yw x0.g.P c).bind fun d =>
 bif d.Last then
 (Uo K x0 x1 x2 c).bind fun e =>
 bif e then
 bif (decide (b < (0:Int))) then
 Xe K k x2 d.Rule (IntKind.i64.wrap (a + (1:Int))) x0 x1
 else
 none
 else
 none
 else
 Xe K k x2 b (IntKind.i64.wrap (a + (1:Int))) x0 x1
 else
 some b
def Wz (K : Nat) (x0 : Qh) (x1 : Qa) (x2 : Int) : Option Int :=
 Xe K K x2 (-1:Int) (0:Int) x0 x1
def J1 (K : Nat) : Nat → Int → Int → Q5 → Z2 → (List Int) → Option Z2
 | 0 => fun _ _ _ _ _ => none
 | k + 1 => fun x1 a x0 c b =>
 bif (decide (a < (256:Int))) then
 (ck (0 ≤ a ∧ a < 256)).bind fun _ =>
 bif ((IntKind.i64.wrap (Zg.get x0.Of a)) == x1) then
 (ck (roomy 1 (b.length + [(IntKind.u8.wrap a)].length) = true)).bind fun _ =>
 J1 K k x1 (IntKind.i64.wrap (a + (1:Int))) x0 c (b ++ [(IntKind.u8.wrap a)])
 else
 J1 K k x1 (IntKind.i64.wrap (a + (1:Int))) x0 c b
 else
 (Cu K b).bind fun d =>
 some d
def F3 (K : Nat) (x0 : Q5) (x1 : Int) : Option Z2 :=
 J1 K K x1 (0:Int) x0 (Z2.mk 0 0 0 0) []
def U9 (K : Nat) : Nat → Int → Z2 → (List Int) → Option (List Int)
 | 0 => fun _ _ _ => none
 | k + 1 => fun a x0 b =>
 bif (decide (a < (256:Int))) then
 (Ja K x0 (IntKind.u8.wrap a)).bind fun c =>
 bif c then
 (ck (roomy 1 (b.length + [(IntKind.u8.wrap a)].length) = true)).bind fun _ =>
 U9 K k (IntKind.i64.wrap (a + (1:Int))) x0 (b ++ [(IntKind.u8.wrap a)])
 else
 U9 K k (IntKind.i64.wrap (a + (1:Int))) x0 b
 else
 some b
def D3 (K : Nat) (x0 : Z2) : Option (List Int) :=
 U9 K K (0:Int) x0 []
def Wo (K : Nat) : Nat → Int → Q5 → (List Int) → Option (List Int)
 | 0 => fun _ _ _ => none
 | k + 1 => fun a x0 b =>
 bif (decide (a < x0.Many)) then
 (F3 K x0 a).bind fun e =>
 (D3 K e).bind fun c =>
 bif ((c.length : Int) == (0:Int)) then
 none
 else
 (Yw c (0:Int)).bind fun d =>
 (ck (roomy 1 (b.length + [d].length) = true)).bind fun _ =>
 Wo K k (IntKind.i64.wrap (a + (1:Int))) x0 (b ++ [d])
 else
 some b
def Cp (K : Nat) (x0 : Q5) : Option (List Int) :=
 bif (decide (x0.Many < (1:Int))) then
 none
 else
 bif (decide (x0.Many > (256:Int))) then
 none
 else
 Wo K K (0:Int) x0 []
def V9 (K : Nat) : Nat → (List Int) → Int → Int → Option Bool
 | 0 => fun _ _ _ => none
 | k + 1 => fun x0 x1 a =>
 bif (decide (a < (x0.length : Int))) then
 (Yw x0 a).bind fun b =>
 bif (b == x1) then
 some true
 else
 V9 K k x0 x1 (IntKind.i64.wrap (a + (1:Int)))
 else
 some false
def U1 (K : Nat) (x0 : List Int) (x1 : Int) : Option Bool :=
 V9 K K x0 x1 (0:Int)
def X9 (K : Nat) : Nat → Int → Int → Int → Qh → Qa → Option Bool
 | 0 => fun _ _ _ _ _ => none
 | k + 1 => fun x3 x4 a x0 x2 =>
 bif (decide (a < (x2.L.length : Int))) then
 (Yw x2.L a).bind fun b =>
 (Uo K x0 x2 x3 b).bind fun c =>
 bif c then
 (Yw x0.g.P b).bind fun d =>
 (U1 K d.Next x4).bind fun e =>
 bif e then
 some true
 else
 X9 K k x3 x4 (IntKind.i64.wrap (a + (1:Int))) x0 x2
 else
 none
 else
 some false
def Jo (K : Nat) (x0 : Qh) (x1 : Int) (x2 : Qa) (x3 : Int) (x4 : Int) : Option Bool :=
 bif (x1 == (0:Int)) then
 (U1 K x0.g.First x4).bind fun a =>
 some a
 else
 X9 K K x3 x4 (0:Int) x0 x2
def J8 (K : Nat) (x0 : Qh) (x1 : Qa) (x2 : Int) (x3 : Int) : Option Bool :=
 (Ud K x0 x1 x2 x3).bind fun a =>
 (U1 K x1.L x3).bind fun b =>
 bif b then
 bif (a == (0:Int)) then
 none
 else
 some (a == (2:Int))
 else
 some false
def Vi (K : Nat) (b : (List Int) → Int → Qh → Option (Int × Qh)) : Nat → (List Int) → Int → (List Int) → Bool → Int → Qh → Option (Int × Qh)
 | 0 => fun _ _ _ _ _ _ => none
 | k + 1 => fun x1 c d e a x0 =>
 bif (decide (a < (x1.length : Int))) then
 bif e then
 (Yw d a).bind fun f =>
 (Yw x1 a).bind fun g =>
 Vi K b k x1 c d (f == g) (IntKind.i64.wrap (a + (1:Int))) x0
 else
 none
 else
 bif e then
 none
 else
 b x1 (IntKind.i64.wrap (c + (1:Int))) x0
def Vh (K : Nat) : Nat → (List Int) → Int → Qh → Option (Int × Qh)
 | 0 => fun _ _ _ => none
 | k + 1 => fun x1 b x0 =>
 bif (decide (b < (x1.length : Int))) then
 (Yw x1 b).bind fun c =>
 (Yw x0.number c).bind fun d =>
 bif (decide (d ≥ (0:Int))) then
 none
 else
 Vh K k x1 (IntKind.i64.wrap (b + (1:Int))) x0
 else
 bif (decide ((x0.a.States.length : Int) ≥ (256:Int))) then
 none
 else
 (ck (roomy 96 (x0.a.States.length + [(Qa.mk x1 [] [] [])].length) = true)).bind fun _ =>
 some ((IntKind.i64.wrap (((x0.a.States ++ [(Qa.mk x1 [] [] [])]).length : Int) - (1:Int))), (Qh.mk x0.g x0.number (Qm.mk x0.a.Split x0.a.Counts (x0.a.States ++ [(Qa.mk x1 [] [] [])])) x0.e))
def Xf (K : Nat) : Nat → (List Int) → Int → Qh → Option (Int × Qh)
 | 0 => fun _ _ _ => none
 | k + 1 => fun x1 b x0 =>
 bif (decide (b < (x0.a.States.length : Int))) then
 (Yw x0.a.States b).bind fun c =>
 bif ((c.L.length : Int) == (x1.length : Int)) then
 Vi K (Xf K k) K x1 b c.L true (0:Int) x0
 else
 none
 else
 Vh K K x1 (0:Int) x0
def W2 (K : Nat) (x0 : Qh) (x1 : List Int) : Option (Int × Qh) :=
 Xf K K x1 (1:Int) x0
def Yo (K : Nat) : Nat → Int → Int → Int → Int → Qh → (List Int) → (List Int) → (List Int) → (List (List Qc)) → (List Int) → Option (Qc × Qh)
 | 0 => fun _ _ _ _ _ _ _ _ _ _ => none
 | k + 1 => fun x1 x2 i a x0 c d e f b =>
 bif (decide (a < (x0.g.P.length : Int))) then
 (Yw x0.g.P a).bind fun l =>
 (Ja K l.S i).bind fun m =>
 bif (!m) then
 Yo K k x1 x2 i (IntKind.i64.wrap (a + (1:Int))) x0 c d e f b
 else
 (Jo K x0 x1 (Qa.mk c d e f) x2 a).bind fun n =>
 (J8 K x0 (Qa.mk c d e f) x2 a).bind fun o =>
 bif (!n) then
 bif (!o) then
 Yo K k x1 x2 i (IntKind.i64.wrap (a + (1:Int))) x0 c d e f b
 else
 none
 else
 (ck (roomy 8 (b.length + [a].length) = true)).bind fun _ =>
 (Yw x0.number a).bind fun p =>
 bif (decide (p < (0:Int))) then
 Yo K k x1 x2 i (IntKind.i64.wrap (a + (1:Int))) x0 c d e f (b ++ [a])
 else
 none
 else
 bif ((b.length : Int) == (0:Int)) then
 some ((Qc.mk (-1:Int) []), x0)
 else
 (W2 K x0 b).bind fun j =>
 some ((Qc.mk j.1 []), j.2)
def W0 (K : Nat) (x0 : Qh) (x1 : Int) (x2 : Int) (x3 : Int) : Option (Qc × Qh) :=
 (Yw x0.a.States x1).bind fun b =>
 (Cp K x0.a.Split).bind fun c =>
 (Yw c x3).bind fun d =>
 Yo K K x1 x2 d (0:Int) x0 b.L b.R b.Rule b.Next []
def Ls (K : Nat) (m : Int → Int → Int → Zg → (List Int) → (List Zt) → Zg → Int → Int → (List Int) → (List Zs) → (List Qa) → (List Int) → (List (List Qc)) → Option (Qm × Int)) : Nat → Int → Int → Int → Int → Zg → (List Int) → (List Zt) → Zg → Int → Int → (List Int) → (List Zs) → (List Qa) → (List Int) → (List (List Qc)) → (List Qc) → Option (Qm × Int)
 | 0 => fun _ _ _ _ _ _ _ _ _ _ _ _ _ _ _ _ => none
 | k + 1 => fun d n f i o p q r j s t u v w l c =>
 bif (decide (i < j)) then
 (W0 K (Qh.mk (Zn.mk p q) t (Qm.mk (Q5.mk r j) u v) s) d f i).bind fun b =>
 (ck (roomy 32 (c.length + [b.1].length) = true)).bind fun _ =>
 bif (b.2.e != (0:Int)) then
 none
 else
 Ls K m k d n f (IntKind.i64.wrap (i + (1:Int))) o b.2.g.First b.2.g.P b.2.a.Split.Of b.2.a.Split.Many b.2.e b.2.number b.2.a.Counts b.2.a.States w l (c ++ [b.1])
 else
 (ck (roomy 24 (l.length + [c].length) = true)).bind fun _ =>
 m d n (IntKind.i64.wrap (f + (1:Int))) o p q r j s t u v w (l ++ [c])
def W3 (K : Nat) (s : Int → Zg → (List Int) → (List Zt) → Zg → Int → Int → (List Int) → (List Zs) → (List Qa) → Option (Qm × Int)) : Nat → Int → Int → Int → Zg → (List Int) → (List Zt) → Zg → Int → Int → (List Int) → (List Zs) → (List Qa) → (List Int) → (List (List Qc)) → Option (Qm × Int)
 | 0 => fun _ _ _ _ _ _ _ _ _ _ _ _ _ _ => none
 | k + 1 => fun n t q u c d f i j l m b p v =>
 bif (decide (q < t)) then
 (Yw b n).bind fun y =>
 (Wz K (Qh.mk (Zn.mk c d) l (Qm.mk (Q5.mk f i) m b) j) y q).bind fun w =>
 (ck (roomy 8 (p.length + [w].length) = true)).bind fun _ =>
 Ls K (W3 K s k) K n t q (0:Int) u ((Qh.mk (Zn.mk c d) l (Qm.mk (Q5.mk f i) m b) j).g.First) ((Qh.mk (Zn.mk c d) l (Qm.mk (Q5.mk f i) m b) j).g.P) ((Qh.mk (Zn.mk c d) l (Qm.mk (Q5.mk f i) m b) j).a.Split.Of) ((Qh.mk (Zn.mk c d) l (Qm.mk (Q5.mk f i) m b) j).a.Split.Many) ((Qh.mk (Zn.mk c d) l (Qm.mk (Q5.mk f i) m b) j).e) ((Qh.mk (Zn.mk c d) l (Qm.mk (Q5.mk f i) m b) j).number) ((Qh.mk (Zn.mk c d) l (Qm.mk (Q5.mk f i) m b) j).a.Counts) ((Qh.mk (Zn.mk c d) l (Qm.mk (Q5.mk f i) m b) j).a.States) (p ++ [w]) v []
 else
 (Yw b n).bind fun o =>
 (Yw (List.set b (Int.toNat n) (Qa.mk o.L o.R p o.Next)) n).bind fun r =>
 s (IntKind.i64.wrap (n + (1:Int))) u c d f i j l m (List.set (List.set b (Int.toNat n) (Qa.mk o.L o.R p o.Next)) (Int.toNat n) (Qa.mk r.L r.R r.Rule v))
def W4 (K : Nat) : Nat → Int → Zg → (List Int) → (List Zt) → Zg → Int → Int → (List Int) → (List Zs) → (List Qa) → Option (Qm × Int)
 | 0 => fun _ _ _ _ _ _ _ _ _ _ => none
 | k + 1 => fun b f g i c d j l e a =>
 bif (decide (b < (a.length : Int))) then
 (Yw a b).bind fun m =>
 (Ua K (m.R.length : Int)).bind fun n =>
 W3 K (W4 K k) K b n (0:Int) f g i c d j l e a [] []
 else
 some ((Qm.mk (Q5.mk c d) e a), (0:Int))
def Lt (K : Nat) : Nat → Int → Zn → Zg → Zg → (List Int) → (List Z2) → Option (Qm × Int)
 | 0 => fun _ _ _ _ _ _ => none
 | k + 1 => fun a x0 e g b c =>
 bif (decide (a < (x0.P.length : Int))) then
 (Yw x0.P a).bind fun d =>
 (ck (roomy 32 (c.length + [d.S].length) = true)).bind fun _ =>
 bif (decide (d.Hi > (1:Int))) then
 none
 else
 (ck (roomy 8 (b.length + [(-1:Int)].length) = true)).bind fun _ =>
 Lt K k (IntKind.i64.wrap (a + (1:Int))) x0 e g (b ++ [(-1:Int)]) (c ++ [d.S])
 else
 (N7 K c).bind fun f =>
 W4 K K (0:Int) e x0.First x0.P f.Of f.Many (0:Int) b [] [(Qa.mk [] [] [] [])]
def Nq (K : Nat) (x0 : Zn) : Option (Qm × Int) :=
 (Ci K x0).bind fun a =>
 bif (!a) then
 none
 else
 Lt K K (0:Int) x0 (Zg.mk fun _ => 0) (Zg.mk fun _ => 0) [] []
def U0 (K : Nat) : Nat → Int → Q5 → Int → Option Bool
 | 0 => fun _ _ _ => none
 | k + 1 => fun b x0 a =>
 bif (decide (a < (256:Int))) then
 (ck (0 ≤ a ∧ a < 256)).bind fun _ =>
 bif (decide ((IntKind.i64.wrap (Zg.get x0.Of a)) > b)) then
 some false
 else
 bif ((IntKind.i64.wrap (Zg.get x0.Of a)) == b) then
 U0 K k (IntKind.i64.wrap (b + (1:Int))) x0 (IntKind.i64.wrap (a + (1:Int)))
 else
 U0 K k b x0 (IntKind.i64.wrap (a + (1:Int)))
 else
 some (b == x0.Many)
def E9 (K : Nat) (x0 : Q5) : Option Bool :=
 U0 K K (0:Int) x0 (0:Int)
def Bh (K : Nat) : Option Int :=
 some (0:Int)
def Bg (K : Nat) : Nat → Int → Int → Int → Option Int
 | 0 => fun _ _ _ => none
 | k + 1 => fun a x0 b =>
 bif (decide (b < x0)) then
 Bg K k (IntKind.i64.wrap (a * (3:Int))) x0 (IntKind.i64.wrap (b + (1:Int)))
 else
 some a
def Ez (K : Nat) (x0 : Int) : Option Int :=
 bif (decide (x0 < (0:Int))) then
 Bh K
 else
 bif (decide (x0 > (3:Int))) then
 Bh K
 else
 Bg K K (1:Int) x0 (0:Int)
def Be (K : Nat) : Option Bool :=
 some false
def H6 (K : Nat) : Nat → Int → Int → (List Int) → Int → Int → Option Bool
 | 0 => fun _ _ _ _ _ => none
 | k + 1 => fun x1 d x0 c a =>
 bif (decide (a < c)) then
 (Yw x0 a).bind fun b =>
 bif (decide (b ≤ d)) then
 Be K
 else
 bif (decide (b ≥ x1)) then
 Be K
 else
 H6 K k x1 b x0 c (IntKind.i64.wrap (a + (1:Int)))
 else
 some true
def Ey (K : Nat) (x0 : List Int) (x1 : Int) : Option Bool :=
 H6 K K x1 (-1:Int) x0 (x0.length : Int) (0:Int)
def Va (K : Nat) : Nat → (List Int) → Int → Int → Int → Option Int
 | 0 => fun _ _ _ _ => none
 | k + 1 => fun x0 x1 b a =>
 bif (decide (a < b)) then
 (Yw x0 a).bind fun c =>
 bif (x1 == c) then
 some a
 else
 Va K k x0 x1 b (IntKind.i64.wrap (a + (1:Int)))
 else
 some (-1:Int)
def K4 (K : Nat) (x0 : List Int) (x1 : Int) : Option Int :=
 Va K K x0 x1 (x0.length : Int) (0:Int)
def U8 (K : Nat) (x0 : List Int) (x1 : Int) : Option Bool :=
 (K4 K x0 x1).bind fun a =>
 some (decide (a ≥ (0:Int)))
def Y6 (K : Nat) : Option Bool :=
 some false
def Y5 (K : Nat) : Option Bool :=
 some false
def Y4 (K : Nat) : Nat → Qc → Int → Int → Q7 → Qa → Option Bool
 | 0 => fun _ _ _ _ _ => none
 | k + 1 => fun x2 b a x0 x1 =>
 bif (decide (a < b)) then
 (Yw x2.Ops a).bind fun c =>
 bif (decide (c < (1:Int))) then
 Y5 K
 else
 bif (decide (c > (3:Int))) then
 Y5 K
 else
 bif (c != (3:Int)) then
 (Yw x0.Auto.States x2.To).bind fun d =>
 (Yw d.R a).bind fun e =>
 (U8 K x1.R e).bind fun f =>
 bif (!f) then
 Y5 K
 else
 Y4 K k x2 b (IntKind.i64.wrap (a + (1:Int))) x0 x1
 else
 Y4 K k x2 b (IntKind.i64.wrap (a + (1:Int))) x0 x1
 else
 some true
def Hg (K : Nat) (x0 : Q7) (x1 : Qa) (x2 : Qc) : Option Bool :=
 bif (x2.To == (-1:Int)) then
 some ((x2.Ops.length : Int) == (0:Int))
 else
 bif (decide (x2.To < (1:Int))) then
 Y6 K
 else
 bif (decide (x2.To ≥ (x0.Auto.States.length : Int))) then
 Y6 K
 else
 (Yw x0.Auto.States x2.To).bind fun a =>
 bif ((x2.Ops.length : Int) != (a.R.length : Int)) then
 Y6 K
 else
 Y4 K K x2 (x2.Ops.length : Int) (0:Int) x0 x1
def Wp (K : Nat) (x0 : Qc) (x1 : Q7) (x2 : Qa) : Option Bool :=
 (Hg K x1 x2 x0).bind fun a =>
 some (!a)
def Yn (K : Nat) : Nat → (List Qc) → Int → Int → Q7 → Qa → Option Int
 | 0 => fun _ _ _ _ _ => none
 | k + 1 => fun x0 b a x1c0 x1c1 =>
 bif (decide (a < b)) then
 (Yw x0 a).bind fun c =>
 (Wp K c x1c0 x1c1).bind fun d =>
 bif d then
 some a
 else
 Yn K k x0 b (IntKind.i64.wrap (a + (1:Int))) x1c0 x1c1
 else
 some (-1:Int)
def Jx (K : Nat) (x0 : List Qc) (x1c0 : Q7) (x1c1 : Qa) : Option Int :=
 Yn K K x0 (x0.length : Int) (0:Int) x1c0 x1c1
def Vd (K : Nat) (x0 : List Qc) (x1c0 : Q7) (x1c1 : Qa) : Option Bool :=
 (Jx K x0 x1c0 x1c1).bind fun a =>
 some (decide (a ≥ (0:Int)))
def Zx (K : Nat) : Option Bool :=
 some false
def Yt (K : Nat) : Option Bool :=
 some false
def Xg (K : Nat) : Nat → Qa → Int → Int → Q7 → Option Bool
 | 0 => fun _ _ _ _ => none
 | k + 1 => fun x1 b a x0 =>
 bif (decide (a < b)) then
 (Yw x1.Next a).bind fun c =>
 (Yw x1.Rule a).bind fun d =>
 bif (decide (d < (-1:Int))) then
 Yt K
 else
 bif (decide (d ≥ (512:Int))) then
 Yt K
 else
 bif ((c.length : Int) != x0.Auto.Split.Many) then
 Yt K
 else
 (Vd K c x0 x1).bind fun e =>
 bif e then
 some false
 else
 Xg K k x1 b (IntKind.i64.wrap (a + (1:Int))) x0
 else
 some true
def J2 (K : Nat) (x0 : Q7) (x1 : Qa) : Option Bool :=
 (Ez K (x1.R.length : Int)).bind fun a =>
 bif (a == (0:Int)) then
 Zx K
 else
 bif ((x1.Rule.length : Int) != a) then
 Zx K
 else
 bif ((x1.Next.length : Int) != a) then
 Zx K
 else
 (Ey K x1.L (512:Int)).bind fun b =>
 bif (!b) then
 Zx K
 else
 (Ey K x1.R (x0.Auto.Counts.length : Int)).bind fun c =>
 bif (!c) then
 Zx K
 else
 Xg K K x1 (x1.Next.length : Int) (0:Int) x0
def Nc (K : Nat) (x0 : Qa) (x1 : Q7) : Option Bool :=
 (J2 K x1 x0).bind fun a =>
 some (!a)
def Yh (K : Nat) : Nat → (List Qa) → Int → Int → Q7 → Option Int
 | 0 => fun _ _ _ _ => none
 | k + 1 => fun x0 b a x1c0 =>
 bif (decide (a < b)) then
 (Yw x0 a).bind fun c =>
 (Nc K c x1c0).bind fun d =>
 bif d then
 some a
 else
 Yh K k x0 b (IntKind.i64.wrap (a + (1:Int))) x1c0
 else
 some (-1:Int)
def Jf (K : Nat) (x0 : List Qa) (x1c0 : Q7) : Option Int :=
 Yh K K x0 (x0.length : Int) (0:Int) x1c0
def X7 (K : Nat) (x0 : List Qa) (x1c0 : Q7) : Option Bool :=
 (Jf K x0 x1c0).bind fun a =>
 some (decide (a ≥ (0:Int)))
def Xq (K : Nat) : Option Bool :=
 some false
def H8 (K : Nat) : Option Bool :=
 some false
def J3 (K : Nat) : Nat → Qm → Int → Int → Option Bool
 | 0 => fun _ _ _ => none
 | k + 1 => fun x0 c b =>
 bif (decide (b < c)) then
 (Yw x0.Counts b).bind fun a =>
 bif (decide ((Zs.get a (0:Int)) < (1:Int))) then
 H8 K
 else
 bif (decide ((Zs.get a (0:Int)) > (Zs.get a (1:Int)))) then
 H8 K
 else
 bif (decide ((Zs.get a (1:Int)) < (2:Int))) then
 H8 K
 else
 bif (decide ((Zs.get a (1:Int)) > (4096:Int))) then
 H8 K
 else
 J3 K k x0 c (IntKind.i64.wrap (b + (1:Int)))
 else
 (X7 K x0.States (Q7.mk x0)).bind fun d =>
 some (!d)
def Hh (K : Nat) (x0 : Qm) : Option Bool :=
 (E9 K x0.Split).bind fun b =>
 bif (!b) then
 Xq K
 else
 bif (decide ((x0.Counts.length : Int) > (512:Int))) then
 Xq K
 else
 bif (decide ((x0.States.length : Int) < (1:Int))) then
 Xq K
 else
 bif (decide ((x0.States.length : Int) > (256:Int))) then
 Xq K
 else
 (Yw x0.States (0:Int)).bind fun a =>
 bif (decide ((IntKind.i64.wrap ((a.L.length : Int) + (a.R.length : Int))) > (0:Int))) then
 Xq K
 else
 J3 K K x0 (x0.Counts.length : Int) (0:Int)
def Ht (K : Nat) (x0 : List Zs) : Option (List Zs) :=
 (ck (roomy 16 (([] : List Zs).length + x0.length) = true)).bind fun _ =>
 some (([] : List Zs) ++ x0)
def Yr (K : Nat) (x0 : Z6) : Option (Int × Bool × Z6) :=
 bif ((x0.l.length : Int) == (0:Int)) then
 some ((0:Int), false, x0)
 else
 (Yw x0.l (IntKind.i64.wrap ((x0.l.length : Int) - (1:Int)))).bind fun a =>
 (ck (0 ≤ (IntKind.i64.wrap ((x0.l.length : Int) - (1:Int))) ∧ (Int.toNat (IntKind.i64.wrap ((x0.l.length : Int) - (1:Int)))) ≤ x0.l.length)).bind fun _ =>
 some (a, true, (Z6.mk (x0.l.take (Int.toNat (IntKind.i64.wrap ((x0.l.length : Int) - (1:Int)))))))
def V7 (K : Nat) (x0 : Z6) (x1 : List Int) : Option Z6 :=
 (ck (roomy 8 (x0.l.length + x1.length) = true)).bind fun _ =>
 some (Z6.mk (x0.l ++ x1))
def V8 (K : Nat) : Nat → (List Int) → Int → Int → Option Int
 | 0 => fun _ _ _ => none
 | k + 1 => fun x0 a b =>
 bif (decide (b < (x0.length : Int))) then
 (Yw x0 b).bind fun c =>
 V8 K k x0 (if c > a then c else a) (IntKind.i64.wrap (b + (1:Int)))
 else
 some a
def Kr (K : Nat) (x0 : List Int) : Option Int :=
 bif (decide ((x0.length : Int) < (1:Int))) then
 none
 else
 (Yw x0 (0:Int)).bind fun a =>
 V8 K K x0 a (1:Int)
def Gc (K : Nat) (x1 : Int) : Option (List Qc) :=
 bif (decide (x1 < (0:Int))) then
 none
 else
 bif (decide ((IntKind.i64.wrap (x1 - (IntKind.i64.wrap ((0:Int) - (0:Int))))) > (0:Int))) then
 (ck (0 < (IntKind.i64.wrap (x1 - (IntKind.i64.wrap ((0:Int) - (0:Int))))))).bind fun _ =>
 (ck (roomy 32 (Int.toNat (IntKind.i64.wrap (x1 - (IntKind.i64.wrap ((0:Int) - (0:Int)))))) = true)).bind fun _ =>
 (ck (0 ≤ (0:Int) ∧ (Int.toNat (0:Int)) ≤ (List.replicate (Int.toNat (IntKind.i64.wrap (x1 - (IntKind.i64.wrap ((0:Int) - (0:Int)))))) ((Qc.mk (0:Int) []) : Qc)).length)).bind fun _ =>
 some ((List.replicate (Int.toNat (IntKind.i64.wrap (x1 - (IntKind.i64.wrap ((0:Int) - (0:Int)))))) ((Qc.mk (0:Int) []) : Qc)).take (Int.toNat (0:Int)))
 else
 some ([] : List Qc)
def Xa (K : Nat) : Nat → (List (List Qc)) → Int → Int → (List Qc) → Option (List Qc)
 | 0 => fun _ _ _ _ => none
 | k + 1 => fun x0 c a b =>
 bif (decide (a < c)) then
 (Yw x0 a).bind fun d =>
 (ck (roomy 32 (b.length + d.length) = true)).bind fun _ =>
 Xa K k x0 c (IntKind.i64.wrap (a + (1:Int))) (b ++ d)
 else
 some b
def Ys (K : Nat) : Nat → (List (List Qc)) → Int → Int → Int → Option (List Qc)
 | 0 => fun _ _ _ _ => none
 | k + 1 => fun x0 a c b =>
 bif (decide (b < c)) then
 (Yw x0 b).bind fun d =>
 bif (decide ((IntKind.i64.wrap (a + (d.length : Int))) < (0:Int))) then
 none
 else
 Ys K k x0 (IntKind.i64.wrap (a + (d.length : Int))) c (IntKind.i64.wrap (b + (1:Int)))
 else
 (Gc K a).bind fun e =>
 Xa K K x0 (x0.length : Int) (0:Int) e
def G1 (K : Nat) (x0 : List (List Qc)) : Option (List Qc) :=
 Ys K K x0 (0:Int) (x0.length : Int) (0:Int)
def B8 (K : Nat) (x0 : Qa) : Option (List Qc) :=
 (G1 K x0.Next).bind fun a =>
 some a
def Hn (K : Nat) (d : Qm → Int → Int → (List Bool) → (List (List Int)) → (List Int) → Option (List Bool)) : Nat → Int → Qm → Int → Int → (List Qc) → Int → Int → (List Bool) → (List (List Int)) → (List Int) → Option (List Bool)
 | 0 => fun _ _ _ _ _ _ _ _ _ _ => none
 | k + 1 => fun a x0 e f g i b j c l =>
 bif (decide (b < i)) then
 (Yw g b).bind fun m =>
 bif (decide (m.To ≥ (0:Int))) then
 (Yw c m.To).bind fun n =>
 (ck (roomy 8 (n.length + [a].length) = true)).bind fun _ =>
 Hn K d k a x0 e f g i (IntKind.i64.wrap (b + (1:Int))) j (List.set c (Int.toNat m.To) (n ++ [a])) l
 else
 Hn K d k a x0 e f g i (IntKind.i64.wrap (b + (1:Int))) j c l
 else
 d x0 e (IntKind.i64.wrap (f + (1:Int))) j c l
def Mn (K : Nat) (b : Qm → Int → Int → (List Bool) → (List (List Int)) → (List Int) → Option (List Bool)) (c : Int) (x0 : Qm) (d : Int) (e : Int) (f : List Bool) (g : List (List Int)) (i : List Int) (j : List Int) (l : List Int) (m : List Int) (n : List (List Qc)) : Option (List Bool) :=
 (B8 K (Qa.mk j l m n)).bind fun a =>
 Hn K b K c x0 d e a (a.length : Int) (0:Int) f g i
def I8 (K : Nat) (b : Int → Bool → (List Bool) → (List (List Int)) → (List Int) → Option (List Bool)) (c : List Bool) (d : List (List Int)) (e : List Int) : Option (List Bool) :=
 (Yr K (Z6.mk e)).bind fun a =>
 b a.1 a.2.1 c d a.2.2.l
def Vv (K : Nat) : Nat → Int → Bool → (List Bool) → (List (List Int)) → (List Int) → Option (List Bool)
 | 0 => fun _ _ _ _ _ => none
 | k + 1 => fun b e a c d =>
 bif e then
 (Yw a b).bind fun f =>
 bif (!f) then
 (Yw c b).bind fun g =>
 (V7 K (Z6.mk d) g).bind fun i =>
 I8 K (Vv K k) (List.set a (Int.toNat b) true) c i.l
 else
 I8 K (Vv K k) a c d
 else
 some a
def Vw (K : Nat) : Nat → Qm → Int → Int → (List Bool) → (List (List Int)) → (List Int) → Option (List Bool)
 | 0 => fun _ _ _ _ _ _ => none
 | k + 1 => fun x0 c b d e f =>
 bif (decide (b < c)) then
 (Yw x0.States b).bind fun a =>
 (Kr K a.Rule).bind fun i =>
 bif (decide (i ≥ (0:Int))) then
 (V7 K (Z6.mk f) [b]).bind fun j =>
 Mn K (Vw K k) b x0 c b d e j.l a.L a.R a.Rule a.Next
 else
 Mn K (Vw K k) b x0 c b d e f a.L a.R a.Rule a.Next
 else
 (Yr K (Z6.mk f)).bind fun g =>
 Vv K K g.1 g.2.1 d e g.2.2.l
def Te (K : Nat) (x0 : Qm) : Option (List Bool) :=
 (Hh K x0).bind fun a =>
 bif (!a) then
 some []
 else
 (ck (0 ≤ (x0.States.length : Int))).bind fun _ =>
 (ck (roomy 1 (Int.toNat (x0.States.length : Int)) = true)).bind fun _ =>
 (ck (roomy 24 (Int.toNat (x0.States.length : Int)) = true)).bind fun _ =>
 Vw K K x0 (x0.States.length : Int) (0:Int) (List.replicate (Int.toNat (x0.States.length : Int)) (false : Bool)) (List.replicate (Int.toNat (x0.States.length : Int)) ([] : List Int)) []
def Xk (K : Nat) (x0 : List Int) : Option (List Int) :=
 (ck (roomy 8 (([] : List Int).length + x0.length) = true)).bind fun _ =>
 some (([] : List Int) ++ x0)
def Um (K : Nat) (x0 : List Int) : Option (List Int) :=
 (ck (roomy 1 (([] : List Int).length + x0.length) = true)).bind fun _ =>
 some (([] : List Int) ++ x0)
def Vq (K : Nat) (f : Int → Int → Qb → Int → Int → (List (List Qc)) → Int → Int → (List Qc) → Int → Int → (List Int) → (List Qa) → (List Int) → (List Int) → (List Int) → (List (List Qc)) → (List (List Qc)) → Option Qb) (g : Int) (a : Int) (x0 : Qb) (i : Int) (j : Int) (l : List (List Qc)) (m : Int) (n : Int) (o : List Qc) (p : Int) (q : Int) (x1 : List Int) (r : List Qa) (s : List Int) (t : List Int) (u : List Int) (v : List (List Qc)) (b : List (List Qc)) (c : Int) (d : List Int) : Option Qb :=
 (Yw b a).bind fun e =>
 (ck (roomy 32 (e.length + [(Qc.mk c d)].length) = true)).bind fun _ =>
 f g a x0 i j l m n o p (IntKind.i64.wrap (q + (1:Int))) x1 r s t u v (List.set b (Int.toNat a) (e ++ [(Qc.mk c d)]))
def Vp (K : Nat) (a : Int → Int → Qb → Int → Int → (List (List Qc)) → Int → Int → (List Qc) → Int → Int → (List Int) → (List Qa) → (List Int) → (List Int) → (List Int) → (List (List Qc)) → (List (List Qc)) → Option Qb) (b : Int) (c : Int) (x0 : Qb) (d : Int) (e : Int) (f : List (List Qc)) (g : Int) (i : Int) (j : List Qc) (l : Int) (m : Int) (x1 : List Int) (n : List Qa) (o : List Int) (p : List Int) (q : List Int) (r : List (List Qc)) (s : List (List Qc)) : Option Qb :=
 Vq K a b c x0 d e f g i j l m x1 n o p q r s (-1:Int) []
def Zv (K : Nat) (b : Int → Qb → Int → Int → (List (List Qc)) → Int → Int → (List Int) → (List Qa) → (List Int) → (List Int) → (List Int) → (List (List Qc)) → (List (List Qc)) → Option Qb) : Nat → Int → Int → Qb → Int → Int → (List (List Qc)) → Int → Int → (List Qc) → Int → Int → (List Int) → (List Qa) → (List Int) → (List Int) → (List Int) → (List (List Qc)) → (List (List Qc)) → Option Qb
 | 0 => fun _ _ _ _ _ _ _ _ _ _ _ _ _ _ _ _ _ _ => none
 | k + 1 => fun c s x0 d e f g i j l a x1 m n o p q r =>
 bif (decide (a < l)) then
 (Yw j a).bind fun t =>
 bif (decide (t.To ≥ (0:Int))) then
 (Yw x1 t.To).bind fun u =>
 bif (decide (u ≥ (0:Int))) then
 (Um K t.Ops).bind fun v =>
 Vq K (Zv K b k) c s x0 d e f g i j l a x1 m n o p q r u v
 else
 Vp K (Zv K b k) c s x0 d e f g i j l a x1 m n o p q r
 else
 Vp K (Zv K b k) c s x0 d e f g i j l a x1 m n o p q r
 else
 b c x0 d e f g (IntKind.i64.wrap (i + (1:Int))) x1 m n o p q r
def Yk (K : Nat) (d : Qb → Int → Int → (List Int) → (List Qa) → Option Qb) : Nat → Int → Qb → Int → Int → (List (List Qc)) → Int → Int → (List Int) → (List Qa) → (List Int) → (List Int) → (List Int) → (List (List Qc)) → (List (List Qc)) → Option Qb
 | 0 => fun _ _ _ _ _ _ _ _ _ _ _ _ _ _ => none
 | k + 1 => fun b x0 e f g i a x1 c j l m p n =>
 bif (decide (a < i)) then
 (Yw g a).bind fun o =>
 Zv K (Yk K d k) K b a x0 e f g i a o (o.length : Int) (0:Int) x1 c j l m p n
 else
 (Xk K j).bind fun q =>
 (Xk K l).bind fun r =>
 (Xk K m).bind fun s =>
 (Yw c b).bind fun t =>
 d x0 e (IntKind.i64.wrap (f + (1:Int))) x1 (List.set c (Int.toNat b) (Qa.mk q r s n))
def Yl (K : Nat) : Nat → Qb → Int → Int → (List Int) → (List Qa) → Option Qb
 | 0 => fun _ _ _ _ _ => none
 | k + 1 => fun x0 c b x1 d =>
 bif (decide (b < c)) then
 (Yw x0.Auto.States b).bind fun a =>
 (ck (0 ≤ (a.Next.length : Int))).bind fun _ =>
 (ck (roomy 24 (Int.toNat (a.Next.length : Int)) = true)).bind fun _ =>
 Yk K (Yl K k) K b x0 c b a.Next (a.Next.length : Int) (0:Int) x1 d a.L a.R a.Rule a.Next (List.replicate (Int.toNat (a.Next.length : Int)) ([] : List Qc))
 else
 some (Qb.mk (Qm.mk x0.Auto.Split x0.Auto.Counts d))
def Vc (K : Nat) (x0 : Qb) (x1 : List Int) : Option Qb :=
 (ck (0 ≤ (x0.Auto.States.length : Int))).bind fun _ =>
 (ck (roomy 96 (Int.toNat (x0.Auto.States.length : Int)) = true)).bind fun _ =>
 Yl K K x0 (x0.Auto.States.length : Int) (0:Int) x1 (List.replicate (Int.toNat (x0.Auto.States.length : Int)) ((Qa.mk [] [] [] []) : Qa))
def Yz (K : Nat) : Nat → (List Bool) → Int → Int → Qb → (List Int) → Option Qb
 | 0 => fun _ _ _ _ _ => none
 | k + 1 => fun c d a x0 b =>
 bif (decide (a < d)) then
 (Yw c a).bind fun e =>
 (Yw b a).bind fun g =>
 bif (!e) then
 (Yw (List.set b (Int.toNat a) a) a).bind fun i =>
 Yz K k c d (IntKind.i64.wrap (a + (1:Int))) x0 (List.set (List.set b (Int.toNat a) a) (Int.toNat a) (-1:Int))
 else
 Yz K k c d (IntKind.i64.wrap (a + (1:Int))) x0 (List.set b (Int.toNat a) a)
 else
 (Vc K x0 b).bind fun f =>
 some f
def Wv (K : Nat) (x0 : Qb) : Option Qb :=
 (ck (0 ≤ (x0.Auto.States.length : Int))).bind fun _ =>
 (ck (roomy 8 (Int.toNat (x0.Auto.States.length : Int)) = true)).bind fun _ =>
 (Te K x0.Auto).bind fun a =>
 Yz K K a (a.length : Int) (0:Int) x0 (List.replicate (Int.toNat (x0.Auto.States.length : Int)) ((0:Int) : Int))
def Qea (K : Nat) (x0 : Int) (x1 : Int) : Option (Int × Int) :=
 some ((IntKind.u64.wrap ((IntKind.u64.wrap ((IntKind.u64.wrap ((Int.fdiv x0 (2 ^ min (Int.toNat (32:Int)) IntKind.u64.bits)) * (Int.fdiv x1 (2 ^ min (Int.toNat (32:Int)) IntKind.u64.bits)))) + (Int.fdiv (IntKind.u64.wrap ((IntKind.u64.wrap ((Int.fdiv x0 (2 ^ min (Int.toNat (32:Int)) IntKind.u64.bits)) * (bits .and .u64 x1 (4294967295:Int)))) + (Int.fdiv (IntKind.u64.wrap ((bits .and .u64 x0 (4294967295:Int)) * (bits .and .u64 x1 (4294967295:Int)))) (2 ^ min (Int.toNat (32:Int)) IntKind.u64.bits)))) (2 ^ min (Int.toNat (32:Int)) IntKind.u64.bits)))) + (Int.fdiv (IntKind.u64.wrap ((bits .and .u64 (IntKind.u64.wrap ((IntKind.u64.wrap ((Int.fdiv x0 (2 ^ min (Int.toNat (32:Int)) IntKind.u64.bits)) * (bits .and .u64 x1 (4294967295:Int)))) + (Int.fdiv (IntKind.u64.wrap ((bits .and .u64 x0 (4294967295:Int)) * (bits .and .u64 x1 (4294967295:Int)))) (2 ^ min (Int.toNat (32:Int)) IntKind.u64.bits)))) (4294967295:Int)) + (IntKind.u64.wrap ((bits .and .u64 x0 (4294967295:Int)) * (Int.fdiv x1 (2 ^ min (Int.toNat (32:Int)) IntKind.u64.bits)))))) (2 ^ min (Int.toNat (32:Int)) IntKind.u64.bits)))), (IntKind.u64.wrap (x0 * x1)))
def Qdj (K : Nat) (x0 : Int) (x1 : Int) : Option (Int × Int) :=
 (Qea K x0 x1).bind fun a =>
 some (a.1, a.2)
def Wg (K : Nat) (x0 : List Int) (a : Int) : Option (List Int) :=
 none
def Vs (K : Nat) : Nat → Int → (List Int) → Option (List Int)
 | 0 => fun _ _ => none
 | k + 1 => fun a b =>
 bif (decide (a < (b.length : Int))) then
 (ck (0 ≤ a ∧ (Int.toNat a) ≤ b.length)).bind fun _ =>
 (ck (0 < (Int.toNat a) ∧ (Int.toNat a) < b.length)).bind fun _ =>
 Vs K k (IntKind.i64.wrap (a + (((min (Int.toNat a) (b.length - (Int.toNat a))) : Nat) : Int))) (b.take (Int.toNat a) ++ b.take (min (Int.toNat a) (b.length - (Int.toNat a))) ++ b.drop ((Int.toNat a) + (min (Int.toNat a) (b.length - (Int.toNat a)))))
 else
 some b
def Wx (K : Nat) (x0 : List Int) (x1 : Int) : Option (List Int) :=
 bif (decide (x1 < (0:Int))) then
 none
 else
 (Qdj K (IntKind.u64.wrap (x0.length : Int)) (IntKind.u64.wrap x1)).bind fun a =>
 bif (decide (a.1 > (0:Int))) then
 Wg K x0 a.2
 else
 bif (decide (a.2 > (9223372036854775807:Int))) then
 Wg K x0 a.2
 else
 (ck (0 ≤ (IntKind.i64.wrap a.2))).bind fun _ =>
 (ck (roomy 8 (Int.toNat (IntKind.i64.wrap a.2)) = true)).bind fun _ =>
 (ck (0 < x0.length ∧ x0.length ≤ (List.replicate (Int.toNat (IntKind.i64.wrap a.2)) ((0:Int) : Int)).length)).bind fun _ =>
 Vs K K (x0.length : Int) (x0 ++ (List.replicate (Int.toNat (IntKind.i64.wrap a.2)) ((0:Int) : Int)).drop x0.length)
def Ym (K : Nat) (e : Int → Qb → (List Int) → (List Int) → Option Qb) : Nat → Int → (List Qc) → Int → Int → Qb → (List Int) → (List Int) → Option Qb
 | 0 => fun _ _ _ _ _ _ _ => none
 | k + 1 => fun f g i b x0 c a =>
 bif (decide (b < i)) then
 (Yw g b).bind fun d =>
 bif (decide (d.To ≥ (0:Int))) then
 (Yw c d.To).bind fun j =>
 bif (decide (j < (0:Int))) then
 (ck (roomy 8 (a.length + [d.To].length) = true)).bind fun _ =>
 Ym K e k f g i (IntKind.i64.wrap (b + (1:Int))) x0 (List.set c (Int.toNat d.To) (a.length : Int)) (a ++ [d.To])
 else
 Ym K e k f g i (IntKind.i64.wrap (b + (1:Int))) x0 c a
 else
 Ym K e k f g i (IntKind.i64.wrap (b + (1:Int))) x0 c a
 else
 e (IntKind.i64.wrap (f + (1:Int))) x0 c a
def Xv (K : Nat) : Nat → Int → Int → Zg → Int → (List Zs) → (List Qa) → (List Qa) → (List Int) → Option Qb
 | 0 => fun _ _ _ _ _ _ _ _ => none
 | k + 1 => fun c a d e f g b i =>
 bif (decide (a < c)) then
 (Yw i a).bind fun l =>
 (Yw g l).bind fun j =>
 (ck (roomy 96 (b.length + [j].length) = true)).bind fun _ =>
 Xv K k c (IntKind.i64.wrap (a + (1:Int))) d e f g (b ++ [j]) i
 else
 some (Qb.mk (Qm.mk (Q5.mk d e) f b))
def Yy (K : Nat) : Nat → Int → Qb → (List Int) → (List Int) → Option Qb
 | 0 => fun _ _ _ _ => none
 | k + 1 => fun c x0 d a =>
 bif (decide (c < (a.length : Int))) then
 (Yw a c).bind fun f =>
 (Yw x0.Auto.States f).bind fun g =>
 (B8 K g).bind fun e =>
 Ym K (Yy K k) K c e (e.length : Int) (0:Int) x0 d a
 else
 (Vc K x0 d).bind fun b =>
 Xv K K (a.length : Int) (0:Int) b.Auto.Split.Of b.Auto.Split.Many b.Auto.Counts b.Auto.States [] a
def Wt (K : Nat) (x0 : Qb) : Option Qb :=
 (Wx K [(-1:Int)] (x0.Auto.States.length : Int)).bind fun a =>
 (Yw a (0:Int)).bind fun b =>
 Yy K K (0:Int) x0 (List.set a (Int.toNat (0:Int)) (0:Int)) [(0:Int)]
def strconv_Itoa (K : Nat) (x0 : Int) : Option ByteArray :=
 if -9223372036854775808 ≤ x0 ∧ x0 ≤ 9223372036854775807 then some (itoaS x0) else none
def J7 (K : Nat) (x0c1 : List Int) : Option Unit :=
 some ()
def U7 (K : Nat) (x0c1 : List Int) (x1 : ByteArray) : Option (Int × Unit × (List Int)) :=
 (J7 K x0c1).bind fun a =>
 (ck (roomy 1 (x0c1.length + x1.size) = true)).bind fun _ =>
 some ((x1.size : Int), (), (x0c1 ++ Ms x1))
def Po (K : Nat) (x0 : Int) (x1c1 : List Int) : Option (List Int) :=
 (strconv_Itoa K x0).bind fun a =>
 (ck (a.size + (⟨#[32]⟩ : ByteArray).size ≤ 9223372036854775807)).bind fun _ =>
 (U7 K x1c1 (a ++ (⟨#[32]⟩ : ByteArray))).bind fun b =>
 some b.2.2
def Yi (K : Nat) (x0c1 : List Int) : Option Unit :=
 some ()
def X3 (K : Nat) (x0c1 : List Int) (x1 : ByteArray) : Option (Int × Unit × (List Int)) :=
 (Yi K x0c1).bind fun a =>
 (ck (roomy 1 (x0c1.length + x1.size) = true)).bind fun _ =>
 some ((x1.size : Int), (), (x0c1 ++ Ms x1))
def Uc (K : Nat) (x0 : Int) (x1c1 : List Int) : Option (List Int) :=
 (strconv_Itoa K x0).bind fun a =>
 (ck (a.size + (⟨#[32]⟩ : ByteArray).size ≤ 9223372036854775807)).bind fun _ =>
 (X3 K x1c1 (a ++ (⟨#[32]⟩ : ByteArray))).bind fun b =>
 some b.2.2
def Jw (K : Nat) (x0c1 : List Int) (x1 : List Int) : Option (Int × Unit × (List Int)) :=
 (Yi K x0c1).bind fun a =>
 (ck (roomy 1 (x0c1.length + x1.length) = true)).bind fun _ =>
 some ((x1.length : Int), (), (x0c1 ++ x1))
def Hm (K : Nat) : Nat → (List Qc) → Int → Int → (List Int) → (List Int) → Option ByteArray
 | 0 => fun _ _ _ _ _ => none
 | k + 1 => fun d e b x1 a =>
 bif (decide (b < e)) then
 (Yw d b).bind fun c =>
 bif (decide (c.To < (0:Int))) then
 (Uc K (-1:Int) a).bind fun f =>
 Hm K k d e (IntKind.i64.wrap (b + (1:Int))) x1 f
 else
 (Yw x1 c.To).bind fun g =>
 (Uc K g a).bind fun i =>
 (Jw K i c.Ops).bind fun j =>
 (Uc K (c.Ops.length : Int) j.2.2).bind fun l =>
 Hm K k d e (IntKind.i64.wrap (b + (1:Int))) x1 l
 else
 (ck (0 < a.length)).bind fun _ =>
 (ck (He a = true)).bind fun _ =>
 some (ofBytes a)
def Lb (K : Nat) : Nat → Qa → Int → Int → (List Int) → (List Int) → Option ByteArray
 | 0 => fun _ _ _ _ _ => none
 | k + 1 => fun x0 b a x1 c =>
 bif (decide (a < b)) then
 (Yw x0.Rule a).bind fun e =>
 (Uc K e c).bind fun f =>
 Lb K k x0 b (IntKind.i64.wrap (a + (1:Int))) x1 f
 else
 (B8 K x0).bind fun d =>
 Hm K K d (d.length : Int) (0:Int) x1 c
def Lc (K : Nat) : Nat → Qa → Int → Int → (List Int) → (List Int) → Option ByteArray
 | 0 => fun _ _ _ _ _ => none
 | k + 1 => fun x0 b a x1 c =>
 bif (decide (a < b)) then
 (Yw x0.R a).bind fun d =>
 (Uc K d c).bind fun e =>
 Lc K k x0 b (IntKind.i64.wrap (a + (1:Int))) x1 e
 else
 Lb K K x0 (x0.Rule.length : Int) (0:Int) x1 c
def Ta (K : Nat) (x0 : Qa) (x1 : List Int) : Option ByteArray :=
 (Po K (x0.R.length : Int) []).bind fun a =>
 Lc K K x0 (x0.R.length : Int) (0:Int) x1 a
def Gl (K : Nat) (d : Int → Qm → Int → Int → (List Int) → (List (ByteArray × Int)) → (List Int) → Option (List Int)) (e : Int) (a : Int) (f : ByteArray) (x0 : Qm) (g : Int) (i : Int) (j : List Int) (b : List (ByteArray × Int)) (c : List Int) : Option (List Int) :=
 (Yw c a).bind fun l =>
 d e x0 g (IntKind.i64.wrap (i + (1:Int))) j b (List.set c (Int.toNat a) ((b.lookup f).getD 0))
def Gm (K : Nat) (c : Int → Qm → Int → Int → (List Int) → (List (ByteArray × Int)) → (List Int) → Option (List Int)) (d : Int) (e : Int) (a : ByteArray) (x0 : Qm) (f : Int) (g : Int) (i : List Int) (b : List (ByteArray × Int)) (j : List Int) : Option (List Int) :=
 bif (!(b.lookup a).isSome) then
 (ck (b.lookup a = none)).bind fun _ =>
 Gl K c d e a x0 f g i (b ++ [(a, (b.length : Int))]) j
 else
 Gl K c d e a x0 f g i b j
def X6 (K : Nat) (e : Int → Qm → (List Int) → Option (List Int)) : Nat → Int → Qm → Int → Int → (List Int) → (List (ByteArray × Int)) → (List Int) → Option (List Int)
 | 0 => fun _ _ _ _ _ _ _ => none
 | k + 1 => fun f x0 g a b c d =>
 bif (decide (a < g)) then
 (Yw x0.States a).bind fun l =>
 bif (decide (a > (0:Int))) then
 (Yw b a).bind fun m =>
 (strconv_Itoa K m).bind fun i =>
 (ck (i.size + (⟨#[58]⟩ : ByteArray).size ≤ 9223372036854775807)).bind fun _ =>
 (Ta K l b).bind fun j =>
 (ck ((i ++ (⟨#[58]⟩ : ByteArray)).size + j.size ≤ 9223372036854775807)).bind fun _ =>
 Gm K (X6 K e k) f a ((i ++ (⟨#[58]⟩ : ByteArray)) ++ j) x0 g a b c d
 else
 Gm K (X6 K e k) f a (⟨#[102, 105, 114, 115, 116]⟩ : ByteArray) x0 g a b c d
 else
 bif ((c.length : Int) == f) then
 some d
 else
 e (c.length : Int) x0 d
def Uz (K : Nat) : Nat → Int → Qm → (List Int) → Option (List Int)
 | 0 => fun _ _ _ => none
 | k + 1 => fun b x0 a =>
 (ck (0 ≤ (a.length : Int))).bind fun _ =>
 (ck (roomy 8 (Int.toNat (a.length : Int)) = true)).bind fun _ =>
 X6 K (Uz K k) K b x0 (x0.States.length : Int) (0:Int) a [] (List.replicate (Int.toNat (a.length : Int)) ((0:Int) : Int))
def E7 (K : Nat) (x0 : Qm) : Option (List Int) :=
 (Hh K x0).bind fun a =>
 bif (!a) then
 some []
 else
 (ck (0 ≤ (x0.States.length : Int))).bind fun _ =>
 (ck (roomy 8 (Int.toNat (x0.States.length : Int)) = true)).bind fun _ =>
 Uz K K (0:Int) x0 (List.replicate (Int.toNat (x0.States.length : Int)) ((0:Int) : Int))
def Xm (K : Nat) (f : (List Int) → Int → Int → Qb → Int → Int → (List (List Qc)) → Int → Int → (List Qc) → Int → Int → (List Qa) → (List Int) → (List Int) → (List Int) → (List (List Qc)) → (List (List Qc)) → Option Qb) (x1 : List Int) (g : Int) (a : Int) (x0 : Qb) (i : Int) (j : Int) (l : List (List Qc)) (m : Int) (n : Int) (o : List Qc) (p : Int) (q : Int) (r : List Qa) (s : List Int) (t : List Int) (u : List Int) (v : List (List Qc)) (b : List (List Qc)) (c : Int) (d : List Int) : Option Qb :=
 (Yw b a).bind fun e =>
 (ck (roomy 32 (e.length + [(Qc.mk c d)].length) = true)).bind fun _ =>
 f x1 g a x0 i j l m n o p (IntKind.i64.wrap (q + (1:Int))) r s t u v (List.set b (Int.toNat a) (e ++ [(Qc.mk c d)]))
def Xl (K : Nat) (a : (List Int) → Int → Int → Qb → Int → Int → (List (List Qc)) → Int → Int → (List Qc) → Int → Int → (List Qa) → (List Int) → (List Int) → (List Int) → (List (List Qc)) → (List (List Qc)) → Option Qb) (x1 : List Int) (b : Int) (c : Int) (x0 : Qb) (d : Int) (e : Int) (f : List (List Qc)) (g : Int) (i : Int) (j : List Qc) (l : Int) (m : Int) (n : List Qa) (o : List Int) (p : List Int) (q : List Int) (r : List (List Qc)) (s : List (List Qc)) : Option Qb :=
 Xm K a x1 b c x0 d e f g i j l m n o p q r s (-1:Int) []
def Zf (K : Nat) (b : (List Int) → Int → Qb → Int → Int → (List (List Qc)) → Int → Int → (List Qa) → (List Int) → (List Int) → (List Int) → (List (List Qc)) → (List (List Qc)) → Option Qb) : Nat → (List Int) → Int → Int → Qb → Int → Int → (List (List Qc)) → Int → Int → (List Qc) → Int → Int → (List Qa) → (List Int) → (List Int) → (List Int) → (List (List Qc)) → (List (List Qc)) → Option Qb
 | 0 => fun _ _ _ _ _ _ _ _ _ _ _ _ _ _ _ _ _ _ => none
 | k + 1 => fun x1 c s x0 d e f g i j l a m n o p q r =>
 bif (decide (a < l)) then
 (Yw j a).bind fun t =>
 bif (decide (t.To ≥ (0:Int))) then
 (Yw x1 t.To).bind fun u =>
 bif (decide (u ≥ (0:Int))) then
 (Um K t.Ops).bind fun v =>
 Xm K (Zf K b k) x1 c s x0 d e f g i j l a m n o p q r u v
 else
 Xl K (Zf K b k) x1 c s x0 d e f g i j l a m n o p q r
 else
 Xl K (Zf K b k) x1 c s x0 d e f g i j l a m n o p q r
 else
 b x1 c x0 d e f g (IntKind.i64.wrap (i + (1:Int))) m n o p q r
def Z7 (K : Nat) (d : (List Int) → Qb → Int → Int → (List Qa) → Option Qb) : Nat → (List Int) → Int → Qb → Int → Int → (List (List Qc)) → Int → Int → (List Qa) → (List Int) → (List Int) → (List Int) → (List (List Qc)) → (List (List Qc)) → Option Qb
 | 0 => fun _ _ _ _ _ _ _ _ _ _ _ _ _ _ => none
 | k + 1 => fun x1 b x0 e f g i a c j l m p n =>
 bif (decide (a < i)) then
 (Yw g a).bind fun o =>
 Zf K (Z7 K d k) K x1 b a x0 e f g i a o (o.length : Int) (0:Int) c j l m p n
 else
 (Xk K j).bind fun q =>
 (Xk K l).bind fun r =>
 (Xk K m).bind fun s =>
 (Yw c b).bind fun t =>
 d x1 x0 e (IntKind.i64.wrap (f + (1:Int))) (List.set c (Int.toNat b) (Qa.mk q r s n))
def Z8 (K : Nat) : Nat → (List Int) → Qb → Int → Int → (List Qa) → Option Qb
 | 0 => fun _ _ _ _ _ => none
 | k + 1 => fun x1 x0 c b d =>
 bif (decide (b < c)) then
 (Yw x0.Auto.States b).bind fun a =>
 (ck (0 ≤ (a.Next.length : Int))).bind fun _ =>
 (ck (roomy 24 (Int.toNat (a.Next.length : Int)) = true)).bind fun _ =>
 Z7 K (Z8 K k) K x1 b x0 c b a.Next (a.Next.length : Int) (0:Int) d a.L a.R a.Rule a.Next (List.replicate (Int.toNat (a.Next.length : Int)) ([] : List Qc))
 else
 some (Qb.mk (Qm.mk x0.Auto.Split x0.Auto.Counts d))
def Xu (K : Nat) (x0 : Qb) (x1 : List Int) : Option Qb :=
 (ck (0 ≤ (x0.Auto.States.length : Int))).bind fun _ =>
 (ck (roomy 96 (Int.toNat (x0.Auto.States.length : Int)) = true)).bind fun _ =>
 Z8 K K x1 x0 (x0.Auto.States.length : Int) (0:Int) (List.replicate (Int.toNat (x0.Auto.States.length : Int)) ((Qa.mk [] [] [] []) : Qa))
def Vr (K : Nat) (d : (List Int) → Int → Int → Qb → (List (Int × Int)) → (List Int) → Option Qb) (b : Int) (e : List Int) (f : Int) (g : Int) (x0 : Qb) (a : List (Int × Int)) (c : List Int) : Option Qb :=
 (ck (roomy 8 (c.length + [((a.lookup b).getD 0)].length) = true)).bind fun _ =>
 d e f (IntKind.i64.wrap (g + (1:Int))) x0 a (c ++ [((a.lookup b).getD 0)])
def Ya (K : Nat) : Nat → (List Int) → Int → Int → Qb → (List (Int × Int)) → (List Int) → Option Qb
 | 0 => fun _ _ _ _ _ _ => none
 | k + 1 => fun d e a x0 c f =>
 bif (decide (a < e)) then
 (Yw d a).bind fun b =>
 bif (!(c.lookup b).isSome) then
 (ck (c.lookup b = none)).bind fun _ =>
 Vr K (Ya K k) b d e a x0 (c ++ [(b, a)]) f
 else
 Vr K (Ya K k) b d e a x0 c f
 else
 (Xu K x0 f).bind fun g =>
 some g
def Wu (K : Nat) (x0 : Qb) : Option Qb :=
 (E7 K x0.Auto).bind fun a =>
 Ya K K a (a.length : Int) (0:Int) x0 [] []
def Ew (K : Nat) (f : Zg) (a : Zg) (b : Int) (c : List Zs) (d : List Qa) : Option (Qm × Int) :=
 (Wt K (Qb.mk (Qm.mk (Q5.mk a b) c d))).bind fun e =>
 some (e.Auto, (0:Int))
def Tc (K : Nat) (x0 : Qm) : Option (Qm × Int) :=
 (Hh K x0).bind fun c =>
 bif (!c) then
 some ((Qm.mk (Q5.mk (Zg.mk fun _ => 0) (0:Int)) [] []), (1:Int))
 else
 (Ht K x0.Counts).bind fun d =>
 (Wv K (Qb.mk (Qm.mk x0.Split d x0.States))).bind fun a =>
 bif ((a.Auto.Counts.length : Int) == (0:Int)) then
 (Wu K a).bind fun b =>
 Ew K (Zg.mk fun _ => 0) b.Auto.Split.Of b.Auto.Split.Many b.Auto.Counts b.Auto.States
 else
 Ew K (Zg.mk fun _ => 0) a.Auto.Split.Of a.Auto.Split.Many a.Auto.Counts a.Auto.States
def Hc (K : Nat) : Option Bool :=
 (Cn K (⟨#[97, 98, 124, 99, 98]⟩ : ByteArray)).bind fun b =>
 (Dy K b.1 (1:Int)).bind fun c =>
 (Nx K [c.1]).bind fun d =>
 (Nq K d.1).bind fun e =>
 (Tc K e.1).bind fun a =>
 bif (a.2 == (0:Int)) then
 some ((a.1.States.length : Int) == (3:Int))
 else
 some false
def Lj (K : Nat) (x0 : Qm) : Option Qm :=
 bif (decide ((x0.States.length : Int) > (60:Int))) then
 some (Qm.mk (Q5.mk (Zg.mk fun _ => 0) (0:Int)) [] [])
 else
 some x0
def Y3 (K : Nat) : Nat → Int → Int → Q5 → Option Bool
 | 0 => fun _ _ _ => none
 | k + 1 => fun b a x0 =>
 bif (decide (a < (256:Int))) then
 (ck (0 ≤ a ∧ a < 256)).bind fun _ =>
 bif (decide ((IntKind.i64.wrap (Zg.get x0.Of a)) > b)) then
 some false
 else
 bif ((IntKind.i64.wrap (Zg.get x0.Of a)) == b) then
 Y3 K k (IntKind.i64.wrap (b + (1:Int))) (IntKind.i64.wrap (a + (1:Int))) x0
 else
 Y3 K k b (IntKind.i64.wrap (a + (1:Int))) x0
 else
 some (b == x0.Many)
def W9 (K : Nat) (x0 : Q5) : Option Bool :=
 Y3 K K (0:Int) (0:Int) x0
def Vt (K : Nat) : Option Bool :=
 some false
def Y1 (K : Nat) : Nat → (List Int) → Int → Int → Option Bool
 | 0 => fun _ _ _ => none
 | k + 1 => fun x0 x1 a =>
 bif (decide (a < (x0.length : Int))) then
 (Yw x0 a).bind fun b =>
 bif (decide (b < (0:Int))) then
 Vt K
 else
 bif (decide (b ≥ x1)) then
 Vt K
 else
 bif (decide (a > (0:Int))) then
 (Yw x0 (IntKind.i64.wrap (a - (1:Int)))).bind fun c =>
 bif (decide (c ≥ b)) then
 Vt K
 else
 Y1 K k x0 x1 (IntKind.i64.wrap (a + (1:Int)))
 else
 Y1 K k x0 x1 (IntKind.i64.wrap (a + (1:Int)))
 else
 some true
def U4 (K : Nat) (x0 : List Int) (x1 : Int) : Option Bool :=
 Y1 K K x0 x1 (0:Int)
def Xd (K : Nat) : Option Bool :=
 some false
def Xc (K : Nat) : Option Bool :=
 some false
def Xb (K : Nat) : Nat → Int → Qm → Qa → Qc → Option Bool
 | 0 => fun _ _ _ _ => none
 | k + 1 => fun a x0 x1 x2 =>
 bif (decide (a < (x2.Ops.length : Int))) then
 (Yw x2.Ops a).bind fun b =>
 bif (decide (b < (1:Int))) then
 Xc K
 else
 bif (decide (b > (3:Int))) then
 Xc K
 else
 bif (b != (3:Int)) then
 (Yw x0.States x2.To).bind fun c =>
 (Yw c.R a).bind fun d =>
 (U1 K x1.R d).bind fun e =>
 bif (!e) then
 Xc K
 else
 Xb K k (IntKind.i64.wrap (a + (1:Int))) x0 x1 x2
 else
 Xb K k (IntKind.i64.wrap (a + (1:Int))) x0 x1 x2
 else
 some true
def Gf (K : Nat) (x0 : Qm) (x1 : Qa) (x2 : Qc) : Option Bool :=
 bif (x2.To == (-1:Int)) then
 some ((x2.Ops.length : Int) == (0:Int))
 else
 bif (decide (x2.To < (1:Int))) then
 Xd K
 else
 bif (decide (x2.To ≥ (x0.States.length : Int))) then
 Xd K
 else
 (Yw x0.States x2.To).bind fun a =>
 bif ((x2.Ops.length : Int) != (a.R.length : Int)) then
 Xd K
 else
 Xb K K (0:Int) x0 x1 x2
def Zz (K : Nat) : Option Bool :=
 some false
def Y0 (K : Nat) : Option Bool :=
 some false
def Xw (K : Nat) (c : Int → Int → Qm → Qa → Option Bool) : Nat → Int → Int → Int → Qa → Int → Int → Int → Bool → Int → (List Qc) → (List Qc) → Int → Qm → Bool → Option Bool
 | 0 => fun _ _ _ _ _ _ _ _ _ _ _ _ _ _ => none
 | k + 1 => fun d a b x1 f g i j l m n o x0 p =>
 (Yw x1.Next a).bind fun e =>
 bif (decide (b < (e.length : Int))) then
 (Yw e b).bind fun q =>
 (Gf K x0 x1 q).bind fun r =>
 bif (!r) then
 some false
 else
 Xw K c k d a (IntKind.i64.wrap (b + (1:Int))) x1 f g i j l m n o x0 p
 else
 c d (IntKind.i64.wrap (a + (1:Int))) x0 x1
def Yb (K : Nat) : Nat → Int → Int → Qm → Qa → Option Bool
 | 0 => fun _ _ _ _ => none
 | k + 1 => fun d a x0 x1 =>
 bif (decide (a < d)) then
 (Yw x1.Rule a).bind fun b =>
 bif (decide (b < (-1:Int))) then
 Y0 K
 else
 bif (decide (b ≥ (512:Int))) then
 Y0 K
 else
 (Yw x1.Next a).bind fun c =>
 bif ((c.length : Int) != x0.Split.Many) then
 Y0 K
 else
 Xw K (Yb K k) K d a (0:Int) x1 a b b (decide (b ≥ (512:Int))) a c c (c.length : Int) x0 ((c.length : Int) != x0.Split.Many)
 else
 some true
def Wy (K : Nat) (x0 : Qm) (x1 : Qa) : Option Bool :=
 (Ua K (x1.R.length : Int)).bind fun a =>
 bif (a == (0:Int)) then
 Zz K
 else
 (U4 K x1.L (512:Int)).bind fun b =>
 bif (!b) then
 Zz K
 else
 (U4 K x1.R (x0.Counts.length : Int)).bind fun c =>
 bif (!c) then
 Zz K
 else
 bif ((x1.Rule.length : Int) != a) then
 Zz K
 else
 bif ((x1.Next.length : Int) != a) then
 Zz K
 else
 Yb K K a (0:Int) x0 x1
def Zo (K : Nat) : Option Bool :=
 some false
def Xy (K : Nat) : Option Bool :=
 some false
def Xx (K : Nat) : Nat → Int → Qm → Option Bool
 | 0 => fun _ _ => none
 | k + 1 => fun a x0 =>
 bif (decide (a < (x0.States.length : Int))) then
 (Yw x0.States a).bind fun b =>
 (Wy K x0 b).bind fun c =>
 bif (!c) then
 some false
 else
 Xx K k (IntKind.i64.wrap (a + (1:Int))) x0
 else
 some true
def Y2 (K : Nat) : Nat → Int → Qm → Option Bool
 | 0 => fun _ _ => none
 | k + 1 => fun b x0 =>
 bif (decide (b < (x0.Counts.length : Int))) then
 (Yw x0.Counts b).bind fun a =>
 bif (decide ((Zs.get a (0:Int)) < (1:Int))) then
 Xy K
 else
 bif (decide ((Zs.get a (0:Int)) > (Zs.get a (1:Int)))) then
 Xy K
 else
 bif (decide ((Zs.get a (1:Int)) < (2:Int))) then
 Xy K
 else
 bif (decide ((Zs.get a (1:Int)) > (4096:Int))) then
 Xy K
 else
 Y2 K k (IntKind.i64.wrap (b + (1:Int))) x0
 else
 Xx K K (0:Int) x0
def Vf (K : Nat) (x0 : Qm) : Option Bool :=
 (W9 K x0.Split).bind fun b =>
 bif (!b) then
 Zo K
 else
 bif (decide ((x0.Counts.length : Int) > (512:Int))) then
 Zo K
 else
 bif (decide ((x0.States.length : Int) < (1:Int))) then
 Zo K
 else
 bif (decide ((x0.States.length : Int) > (256:Int))) then
 Zo K
 else
 (Yw x0.States (0:Int)).bind fun a =>
 bif (decide ((a.L.length : Int) > (0:Int))) then
 Zo K
 else
 bif (decide ((a.R.length : Int) > (0:Int))) then
 Zo K
 else
 Y2 K K (0:Int) x0
def Vn (K : Nat) (a : Bool) : Option Bool :=
 some a
def Yv (K : Nat) (a : Bool → Int → Int → Bool → Zg → Int → (List Zs) → (List Qa) → (List (Zs × Bool)) → (List Zs) → Option Bool) (b : Bool) (c : Int) (d : Int) (e : Bool) (n : Bool) (o : Bool) (f : Zg) (g : Int) (i : List Zs) (j : List Qa) (l : List (Zs × Bool)) (m : List Zs) : Option Bool :=
 a b c d e f g i j l m
def Yu (K : Nat) (a : Bool) (b : Int) (c : Int) (d : Bool) : Option Bool :=
 bif a then
 some (d == (b != c))
 else
 some false
def Xp (K : Nat) (a : Bool) (b : Int) (c : Int) : Option Bool :=
 Yu K a b c true
def Uy (K : Nat) : Option Bool :=
 some false
def Yf (K : Nat) (c : Bool → Int → Int → Bool → Zg → Int → (List Zs) → (List Qa) → (List (Zs × Bool)) → (List Zs) → Option Bool) : Nat → Bool → Int → Int → Bool → Bool → Bool → Int → Int → Bool → Int → Bool → (List (List Qc)) → Int → Bool → Int → Int → Zg → Int → (List Zs) → (List Qa) → (List (Zs × Bool)) → (List Zs) → (List Int) → (List Int) → (List Int) → (List (List Qc)) → (List Int) → (List Int) → (List Int) → (List (List Qc)) → Option Bool
 | 0 => fun _ _ _ _ _ _ _ _ _ _ _ _ _ _ _ _ _ _ _ _ _ _ _ _ _ _ _ _ _ _ => none
 | k + 1 => fun d e f g t u v w y z aa ab ac ad i a j l m n o b ae af ag p ai aj al q =>
 bif (decide (a < i)) then
 (Yw p (0:Int)).bind fun am =>
 (Yw am a).bind fun r =>
 (Yw q (0:Int)).bind fun an =>
 (Yw an a).bind fun s =>
 (ck (roomy 16 (b.length + [(Zs.mk r.To s.To)].length) = true)).bind fun _ =>
 Yf K c k d e f g t u v w y z aa ab ac ad i (IntKind.i64.wrap (a + (1:Int))) j l m n o (b ++ [(Zs.mk r.To s.To)]) ae af ag p ai aj al q
 else
 c d e f g j l m n o b
def Xo (K : Nat) (a : Bool) (b : Int) (c : Int) (d : Bool) : Option Bool :=
 Yu K a b c d
def Q9 (K : Nat) : Nat → Bool → Int → Int → Bool → Zg → Int → (List Zs) → (List Qa) → (List (Zs × Bool)) → (List Zs) → Option Bool
 | 0 => fun _ _ _ _ _ _ _ _ _ _ => none
 | k + 1 => fun d e f b m n o j l i =>
 bif (decide ((i.length : Int) > (0:Int))) then
 bif (!b) then
 (Yw i (0:Int)).bind fun a =>
 (ck (1 ≤ i.length)).bind fun _ =>
 bif ((l.lookup a).getD false) then
 Yv K (Q9 K k) d e f b b (!b) m n o j l (i.drop 1)
 else
 bif ((Zs.get a (0:Int)) == (Zs.get a (1:Int))) then
 Yv K (Q9 K k) d e f b b (!b) m n o j l (i.drop 1)
 else
 (ck (l.lookup a = none)).bind fun _ =>
 bif (decide ((Zs.get a (0:Int)) < (0:Int))) then
 Xp K d e f
 else
 bif (decide ((Zs.get a (1:Int)) < (0:Int))) then
 Xp K d e f
 else
 (Yw j (Zs.get a (0:Int))).bind fun g =>
 (Yw j (Zs.get a (1:Int))).bind fun c =>
 bif ((g.Next.length : Int) != (1:Int)) then
 Uy K
 else
 bif ((c.Next.length : Int) != (1:Int)) then
 Uy K
 else
 (Yw g.Rule (0:Int)).bind fun p =>
 (Yw c.Rule (0:Int)).bind fun q =>
 (Yw g.Next (0:Int)).bind fun r =>
 Yf K (Q9 K k) K d e f (p != q) b (!b) (Zs.get a (0:Int)) (Zs.get a (1:Int)) ((Zs.get a (0:Int)) == (Zs.get a (1:Int))) (Zs.get a (1:Int)) (decide ((Zs.get a (1:Int)) < (0:Int))) c.Next (c.Next.length : Int) ((c.Next.length : Int) != (1:Int)) (r.length : Int) (0:Int) m n o j (l ++ [(a, true)]) (i.drop 1) g.L g.R g.Rule g.Next c.L c.R c.Rule c.Next
 else
 Xo K d e f b
 else
 Xo K d e f b
def Xz (K : Nat) (x0 : Qm) (x1 : Int) (x2 : Int) : Option Bool :=
 (Hc K).bind fun b =>
 (Lj K x0).bind fun c =>
 (Tc K c).bind fun a =>
 bif (a.2 != (0:Int)) then
 Vn K b
 else
 bif (decide ((a.1.Counts.length : Int) > (0:Int))) then
 Vn K b
 else
 bif (decide ((a.1.States.length : Int) < (3:Int))) then
 Vn K b
 else
 (Vf K a.1).bind fun d =>
 bif (!d) then
 some false
 else
 (ck ((IntKind.i64.wrap ((a.1.States.length : Int) - (1:Int))) ≠ 0)).bind fun _ =>
 Q9 K K b (IntKind.i64.wrap ((1:Int) + (Int.tmod (IntKind.i64.wrap x1) (IntKind.i64.wrap ((a.1.States.length : Int) - (1:Int)))))) (IntKind.i64.wrap ((1:Int) + (Int.tmod (IntKind.i64.wrap x2) (IntKind.i64.wrap ((a.1.States.length : Int) - (1:Int)))))) false a.1.Split.Of a.1.Split.Many a.1.Counts a.1.States [] [(Zs.mk (IntKind.i64.wrap ((1:Int) + (Int.tmod (IntKind.i64.wrap x1) (IntKind.i64.wrap ((a.1.States.length : Int) - (1:Int)))))) (IntKind.i64.wrap ((1:Int) + (Int.tmod (IntKind.i64.wrap x2) (IntKind.i64.wrap ((a.1.States.length : Int) - (1:Int)))))))]
end Go.Rv

/- Each function computes what its plain text says: printed by a program of ours. -/
import Derived.Test.YtcmfaclkgdmpbaaGreatDoorRgW3
namespace Go.Rv
open Go.Proofs
set_option maxRecDepth 100000
set_option maxHeartbeats 4000000
set_option linter.unusedVariables false
abbrev Wc (r : Bool) : ES := Wb tp Tryz.f43 (fun y t => y = (.bool r) ∧ t = [])
abbrev Ru (r : Bool) : ES := thenS (fun s' => T tp 96 (ca [1,1,1] Tryz.f43) s' ((Wc r))) ((Wc r))
abbrev Pw (r : Bool) : ES := thenS (fun s' => T tp 96 (ca [1,1,1,1] Tryz.f43) s' ((Wc r))) ((Wc r))
abbrev Ui (r : Bool) : ES := Qz 0 ((Pw r))
abbrev Mm (r : Bool) : ES := thenS (fun s' => TL tp 96 (ca [1,1,1,0,1,0,0] Tryz.f43) s' ((Ui r))) ((Ui r))
abbrev E3 (r : Bool) : ES := thenS (fun s' => T tp 96 (ca [1,1,1,0,1,0,0,1,1] Tryz.f43) s' ((Mm r))) ((Mm r))
abbrev Vv (r : Bool) : ES := Qz 1 ((E3 r))
abbrev Du (r : Bool) : ES := thenS (fun s' => T tp 96 (ca [1,1,1,0,1,0,0,1,0,0,1] Tryz.f43) s' ((Vv r))) ((Vv r))
abbrev Bp (r : Bool) : ES := Qz 2 ((Vv r))
theorem Uo {r : Bool} (K : Nat) (h : Z7 K = some r) : T tp 96 (ca [1,1,0,1,0] Tryz.f43) ⟨[], []⟩ (Ru r) := by
 unfold Z7 at h
 refine T.seq (Qq ?_)
 refine aw rfl ?_
 refine TL'.nil (tN ?_)
 refine T.ret (Qw ?_)
 exact fd rfl (by cases h; exact ⟨rfl, rfl⟩)
theorem L8 {r : Bool} (K : Nat) (h : Y9 K = some r) : T tp 96 (ca [1,1,1,0,1,0,0,1,0,0,0,1,0] Tryz.f43) ⟨[], []⟩ (Du r) := by
 unfold Y9 at h
 refine T.seq (Qq ?_)
 refine aw rfl ?_
 refine TL'.nil (tN ?_)
 refine T.ret (Qw (Q5 (Qw (Qw (Q5 (Qw ?_))))))
 exact fd rfl (by cases h; exact ⟨rfl, rfl⟩)
abbrev S9 (r : Bool) (go : Int → Int → Qn → Qa → Option Bool) : Prop := ∀ (a b : Int) (x0 : Qn) (x1 : Qa) (c f : Nat), go a b x0 x1 = some r → TL tp 96 (ca [1,1,1,0,1,0,0] Tryz.f43) ⟨[(2, .ptr c 0), (3, .ptr f 0), (5, .int .i64 a), (6, .int .i64 b)], [(R8 c x0.Split.Of x0.Split.Many x0.Counts x0.States), (Jz f x1.L x1.R x1.Rule x1.Next)]⟩ (Ui r)
theorem S7 {r : Bool} (K : Nat) (go1 : Int → Int → Qn → Qa → Option Bool) (hgo1 : S9 r go1) : ∀ (k : Nat), ∀ (p j q : Int) (x1 : Qa) (s w y : Int) (aa : Bool) (ab : Int) (ac ad : List Qd) (af : Int) (x0 : Qn) (ag : Bool) (b a : Nat), X9 K go1 k p j q x1 s w y aa ab ac ad af x0 ag = some r → TL tp 96 (ca [1,1,1,0,1,0,0,1,0,0,1,1,0,0] Tryz.f43) ⟨[(2, .ptr b 0), (3, .ptr a 0), (5, .int .i64 p), (6, .int .i64 j), (7, .int .i64 q), (55, .ptr a (0 + 2)), (56, .sl false 1 (mI x1.Rule)), (57, .int .i64 s), (58, .ref [.int .i64 w]), (59, .int .i64 y), (60, .bool aa), (63, .ptr a (0 + 3)), (64, .sl false 1 (x1.Next.map (cL 2 Qg))), (65, .int .i64 ab), (66, .ref [.sl false 2 (ac.map Qg)]), (67, .sl false 2 (ad.map Qg)), (68, .int .i64 af), (69, .ptr b (0 + 0)), (70, .ptr b (0 + 0 + 256)), (71, .int .i64 x0.Split.Many), (72, .bool ag)], [(R8 b x0.Split.Of x0.Split.Many x0.Counts x0.States), (Jz a x1.L x1.R x1.Rule x1.Next)]⟩ (Bp r) := by
 intro k
 induction k with
 | zero =>
  intro p j q x1 s w y aa ab ac ad af x0 ag b a h
  exact zn h
 | succ k ih =>
  intro p j q x1 s w y aa ab ac ad af x0 ag b a h
  rw [X9] at h
  refine Q6 ?_
  refine T.seq ?_
  refine T.seq (Qq ?_)
  refine mw rfl ?_
  refine oP H1 i49 rfl ?_
  refine oL 1 Rg rfl ?_
  refine mw rfl ?_
  obtain ⟨m, am, h⟩ := bind_some h
  refine oX x1.Next (cL 2 Qg) Rg i55 am rfl ?_
  refine oR Oa rfl ?_
  refine oU m Qg Oa rfl ?_
  refine oI rfl ?_
  refine TL'.nil (tN ?_)
  rcases Qe h with ⟨aj, h⟩ | ⟨aj, h⟩
  refine Qr rfl aj ?_
  refine T.skip (tN ?_)
  refine T.seq ?_
  refine T.block ?_
  refine T.seq ?_
  refine Yx ?_
  refine dW 0 ((Zg.dc 256 .u8 x0.Split.Of) ++ (([.int .i64 x0.Split.Many, .sl false 2 (mA x0.Counts), .sl false 4 (x0.States.map Qc)] : List DC))) rfl (.f rfl) J5 i28 rfl ?_
  refine dW 1 [.sl false 1 (mI x1.L), .sl false 1 (mI x1.R), .sl false 1 (mI x1.Rule), .sl false 1 (x1.Next.map (cL 2 Qg))] rfl (.f rfl) H1 i51 rfl ?_
  refine dP rfl (.f rfl) H1 i49 rfl ?_
  refine dL 1 rfl (.f rfl) Rg rfl ?_
  refine dV rfl rfl ?_
  refine dX x1.Next (cL 2 Qg) rfl (.f rfl) Rg i55 am rfl ?_
  refine dR rfl (.f rfl) Oa rfl ?_
  refine dV rfl rfl ?_
  obtain ⟨g, an, h⟩ := bind_some h
  refine dX m Qg rfl (.f rfl) Oa i54 an rfl ?_
  refine dS (c := ⟨some 93, .agg [.int .i64 g.To, .sl false 1 (mU g.Ops)], [(92, .ref [.int .i64 g.To, .sl false 1 (mU g.Ops)])], [], []⟩) (fun t hm => oF rfl rfl (Zb rfl (dk rfl) Cl rfl i54 hm.s0 (nb rfl) rfl)) rfl rfl ?_
  obtain ⟨ai, ap, h⟩ := bind_some h
  refine dS (c := ⟨some 94, .bool ai, [(84, .agg ((Zg.dc 256 .u8 x0.Split.Of) ++ (([.int .i64 x0.Split.Many, .sl false 2 (mA x0.Counts), .sl false 4 (x0.States.map Qc)] : List DC)))), (85, .agg [.sl false 1 (mI x1.L), .sl false 1 (mI x1.R), .sl false 1 (mI x1.Rule), .sl false 1 (x1.Next.map (cL 2 Qg))]), (93, .agg [.int .i64 g.To, .sl false 1 (mU g.Ops)])], [], []⟩) (fun t hm => oF rfl rfl (Q1 rfl (dk rfl) Tryz.func76 rfl rfl (Q7.cons hm.s0 (Q7.cons hm.s1 (Q7.cons hm.s2 Q7.nil))) (Zn.nil (Qdp K ap)) rfl)) rfl rfl ?_
  refine dS (c := ⟨some 95, .bool (!ai), [(94, .bool ai)], [], []⟩) (fun t hm => oF rfl rfl (OpT.not rfl (dk rfl) hm.s0 rfl)) rfl rfl ?_
  refine dF [0,0,0,4,0,28,60,0,252,508,1023,2047] Q3 rfl (by kernel_rfl) (fun u hu => (tN (Qm hu ?_)))
  rcases Qe h with ⟨al, h⟩ | ⟨al, h⟩
  refine Qr rfl al ?_
  refine T.seq (Qq ?_)
  refine aw rfl ?_
  refine TL'.nil (tN ?_)
  refine T.ret (Q5 (Qw (Qw (Q5 (Q5 (Qw (Qw (Q5 (Qw ?_)))))))))
  exact fd rfl (by cases h; exact ⟨rfl, rfl⟩)
  refine Qp rfl al ?_
  refine T.skip (Ql (tN ?_))
  refine Qq ?_
  refine mw rfl ?_
  refine oI rfl ?_
  refine aw rfl ?_
  refine TL'.nil (tN ?_)
  refine Qh ?_ (ih p j (wI (q + (1:Int))) x1 s w y aa ab ac ad af x0 ag b a h)
  exact tq rfl rfl
  refine Qp rfl aj ?_
  refine T.exit (Qk (Qk (Qt (Ql (tN ?_)))))
  refine Qq ?_
  refine mw rfl ?_
  refine oI rfl ?_
  refine aw rfl ?_
  refine TL'.nil (tN ?_)
  refine Qh ?_ (hgo1 p (wI (j + (1:Int))) x0 x1 b a h)
  exact tq rfl rfl
theorem S8 {r : Bool} (K : Nat) : ∀ (k : Nat), ∀ (q j : Int) (x0 : Qn) (x1 : Qa) (m b : Nat), Yo K k q j x0 x1 = some r → TL tp 96 (ca [1,1,1,0,1,0,0] Tryz.f43) ⟨[(2, .ptr m 0), (3, .ptr b 0), (5, .int .i64 q), (6, .int .i64 j)], [(R8 m x0.Split.Of x0.Split.Many x0.Counts x0.States), (Jz b x1.L x1.R x1.Rule x1.Next)]⟩ (Ui r) := by
 intro k
 induction k with
 | zero =>
  intro q j x0 x1 m b h
  exact zn h
 | succ k ih =>
  intro q j x0 x1 m b h
  rw [Yo] at h
  refine Q6 ?_
  refine T.seq ?_
  refine T.seq (Qq ?_)
  refine mw rfl ?_
  refine mw rfl ?_
  refine oI rfl ?_
  refine TL'.nil (tN ?_)
  rcases Qe h with ⟨s, h⟩ | ⟨s, h⟩
  refine Qr rfl s ?_
  refine T.skip (tN ?_)
  refine T.seq ?_
  refine T.block ?_
  refine T.seq ?_
  refine T.seq ?_
  refine Yx ?_
  refine dP rfl (.f rfl) H1 i38 rfl ?_
  refine dL 1 rfl (.f rfl) Zy rfl ?_
  refine dV rfl rfl ?_
  obtain ⟨a, y, h⟩ := bind_some h
  refine dX x1.Rule (cI .i64) rfl (.f rfl) Zy i3 y rfl ?_
  refine dR rfl (.f rfl) ul3 rfl ?_
  refine dI rfl (.f rfl) rfl ?_
  refine dV rfl rfl ?_
  rcases Qe h with ⟨p, h⟩ | ⟨p, h⟩
  refine dO p rfl rfl ?_
  refine dO p rfl rfl ?_
  refine dO p rfl rfl ?_
  refine dO p rfl rfl ?_
  refine dO p rfl rfl ?_
  refine dO p rfl rfl ?_
  refine dY rfl (.f rfl) p rfl ?_
  refine dV rfl rfl ?_
  refine dO rfl rfl rfl ?_
  refine dO rfl rfl rfl ?_
  refine dO rfl rfl rfl ?_
  refine dO rfl rfl rfl ?_
  refine dO rfl rfl rfl ?_
  refine dO rfl rfl rfl ?_
  refine dO rfl rfl rfl ?_
  refine dO rfl rfl rfl ?_
  refine dO rfl rfl rfl ?_
  refine dO rfl rfl rfl ?_
  refine dY rfl (.f rfl) rfl rfl ?_
  refine dF [0,1,0,7,15,31,63,127,255,127,1023,2047,4095,8191,16383,32767,65535,32767,262143,524287,1048575,32767,2129919,6324223,16777215,33554431] Q3 rfl (by kernel_rfl) (fun u hu => (tN (Qm hu ?_)))
  refine Qr rfl rfl ?_
  refine Qm ?_ (L8 K h)
  exact tq rfl rfl
  refine dP rfl (.n p rfl) H1 i38 rfl ?_
  refine dL 1 rfl (.n p rfl) Zy rfl ?_
  refine dM rfl (.n p rfl) rfl ?_
  refine dX x1.Rule (cI .i64) rfl (.n p rfl) Zy i3 y rfl ?_
  refine dR rfl (.n p rfl) ul3 rfl ?_
  refine dI rfl (.n p rfl) rfl ?_
  refine dZ rfl (.f rfl) p rfl ?_
  refine dV rfl rfl ?_
  rcases Qe h with ⟨g, h⟩ | ⟨g, h⟩
  refine dO g rfl rfl ?_
  refine dO g rfl rfl ?_
  refine dO g rfl rfl ?_
  refine dO g rfl rfl ?_
  refine dO g rfl rfl ?_
  refine dO g rfl rfl ?_
  refine dO g rfl rfl ?_
  refine dO g rfl rfl ?_
  refine dO g rfl rfl ?_
  refine dO g rfl rfl ?_
  refine dY rfl (.f rfl) g rfl ?_
  refine dF [0,1,0,7,15,31,63,127,255,127,1023,2047,4095,8191,16383,32767,65535,32767,262143,524287,1048575,32767,2129919,6324223,16777215,33554431] Q3 rfl (by kernel_rfl) (fun u hu => (tN (Qm hu ?_)))
  refine Qr rfl rfl ?_
  refine Qm ?_ (L8 K h)
  exact tq rfl rfl
  refine dP rfl (.n g rfl) H1 i49 rfl ?_
  refine dL 1 rfl (.n g rfl) Rg rfl ?_
  refine dM rfl (.n g rfl) rfl ?_
  obtain ⟨l, aa, h⟩ := bind_some h
  refine dX x1.Next (cL 2 Qg) rfl (.n g rfl) Rg i55 aa rfl ?_
  refine dR rfl (.n g rfl) Oa rfl ?_
  refine dN l Qg rfl (.n g rfl) Oa rfl ?_
  refine dP rfl (.n g rfl) J5 i24 rfl ?_
  refine dP rfl (.n g rfl) Qfs i3 rfl ?_
  refine dL 0 rfl (.n g rfl) ul3 rfl ?_
  refine dI rfl (.n g rfl) rfl ?_
  refine dZ rfl (.f rfl) g rfl ?_
  refine dF [0,1,0,7,15,31,63,127,255,127,1023,2047,4095,8191,16383,32767,65535,32767,262143,524287,1048575,32767,2129919,6324223,16777215,33554431] Q3 rfl (by kernel_rfl) (fun u hu => (tN (Qm hu ?_)))
  rcases Qe h with ⟨w, h⟩ | ⟨w, h⟩
  refine Qr rfl w ?_
  refine Qm ?_ (L8 K h)
  exact tq rfl rfl
  refine Qp rfl w ?_
  refine T.skip (tN ?_)
  refine T.seq (Qq ?_)
  refine aw rfl ?_
  refine TL'.nil (tN ?_)
  refine T.block ?_
  refine T.loop ?_
  refine Qh ?_ (S7 K (Yo K k) ih K q j (0:Int) x1 j a a (decide (a ≥ (512:Int))) j l l (l.length : Int) x0 ((l.length : Int) != x0.Split.Many) m b h)
  exact tq rfl rfl
  refine Qp rfl s ?_
  refine T.exit (Qk (Qk (Qt (tN ?_))))
  refine T.seq (Qq ?_)
  refine aw rfl ?_
  refine TL'.nil (tN ?_)
  refine T.ret ?_
  exact fd rfl (by cases h; exact ⟨rfl, rfl⟩)
theorem Qb9 (K : Nat) {x0 : Qn} {x1 : Qa} {r : Bool} (h : Gl K x0 x1 = some r) : Zn tp 43 [.agg ((Zg.dc 256 .u8 x0.Split.Of) ++ (([.int .i64 x0.Split.Many, .sl false 2 (mA x0.Counts), .sl false 4 (x0.States.map Qc)] : List DC))), .agg [.sl false 1 (mI x1.L), .sl false 1 (mI x1.R), .sl false 1 (mI x1.Rule), .sl false 1 (x1.Next.map (cL 2 Qg))]] [] (.bool r) := by
 refine Qu Tryz.func43 rfl (nb rfl) ?_
 show T tp 96 (ca [] Tryz.f43) ⟨Qv 0 [.agg ((Zg.dc 256 .u8 x0.Split.Of) ++ (([.int .i64 x0.Split.Many, .sl false 2 (mA x0.Counts), .sl false 4 (x0.States.map Qc)] : List DC))), .agg [.sl false 1 (mI x1.L), .sl false 1 (mI x1.R), .sl false 1 (mI x1.Rule), .sl false 1 (x1.Next.map (cL 2 Qg))]], []⟩ (Wc r)
 unfold Gl at h
 refine T.seq (Qq ?_)
 refine sp rfl (Zi rfl (dk rfl) rfl (fun l => ?_))
 refine sp rfl (Zi rfl (dk rfl) rfl (fun m => ?_))
 refine aw rfl ?_
 refine TL'.nil (tN (T.seq (Qq ?_)))
 refine oP H1 i38 rfl ?_
 refine oL 0 Zy rfl ?_
 refine oU x1.R (cI .i64) Zy rfl ?_
 obtain ⟨p, q, h⟩ := bind_some h
 refine sp rfl (Q1 rfl (dk rfl) Tryz.func46 rfl rfl (Q7.cons rfl Q7.nil) (Zn.nil (I8 K q)) ?_)
 refine aw rfl ?_
 refine TL'.nil (tN ?_)
 refine T.seq ?_
 refine T.seq (Qq ?_)
 refine mw rfl ?_
 refine oI rfl ?_
 refine mw rfl ?_
 rcases Qe h with ⟨g, h⟩ | ⟨g, h⟩
 refine pf rfl g ?_
 refine pf rfl g ?_
 refine pf rfl g ?_
 refine pf rfl g ?_
 refine oY g rfl ?_
 refine mw rfl ?_
 refine pf rfl rfl ?_
 refine pf rfl rfl ?_
 refine pf rfl rfl ?_
 refine pf rfl rfl ?_
 refine pf rfl rfl ?_
 refine pf rfl rfl ?_
 refine pf rfl rfl ?_
 refine oY rfl rfl ?_
 refine mw rfl ?_
 refine pf rfl rfl ?_
 refine pf rfl rfl ?_
 refine pf rfl rfl ?_
 refine pf rfl rfl ?_
 refine pf rfl rfl ?_
 refine oY rfl rfl ?_
 refine mw rfl ?_
 refine pf rfl rfl ?_
 refine pf rfl rfl ?_
 refine pf rfl rfl ?_
 refine pf rfl rfl ?_
 refine pf rfl rfl ?_
 refine oY rfl rfl ?_
 refine TL'.nil (tN ?_)
 refine Qr rfl rfl ?_
 refine Qm ?_ (Uo K h)
 exact tq rfl rfl
 refine sn rfl g (Z0 rfl (dk rfl) H1 rfl i38 (by decide) rfl ?_)
 refine sn rfl g (Zo (i := 0) rfl (dk rfl) Zy rfl rfl rfl rfl ?_)
 obtain ⟨w, u, h⟩ := bind_some h
 refine sn rfl g (Q1 rfl (dk rfl) Tryz.func75 rfl rfl (Q7.cons rfl (Q7.cons rfl Q7.nil)) (Zn.nil (I5 K (flx0 := false) u)) ?_)
 refine sn rfl g (OpT.not rfl (dk rfl) rfl ?_)
 refine oZ g rfl ?_
 refine mw rfl ?_
 rcases Qe h with ⟨a, h⟩ | ⟨a, h⟩
 refine pf rfl a ?_
 refine pf rfl a ?_
 refine pf rfl a ?_
 refine pf rfl a ?_
 refine pf rfl a ?_
 refine pf rfl a ?_
 refine pf rfl a ?_
 refine oY a rfl ?_
 refine mw rfl ?_
 refine pf rfl rfl ?_
 refine pf rfl rfl ?_
 refine pf rfl rfl ?_
 refine pf rfl rfl ?_
 refine pf rfl rfl ?_
 refine oY rfl rfl ?_
 refine mw rfl ?_
 refine pf rfl rfl ?_
 refine pf rfl rfl ?_
 refine pf rfl rfl ?_
 refine pf rfl rfl ?_
 refine pf rfl rfl ?_
 refine oY rfl rfl ?_
 refine TL'.nil (tN ?_)
 refine Qr rfl rfl ?_
 refine Qm ?_ (Uo K h)
 exact tq rfl rfl
 refine sn rfl a (Z0 rfl (dk rfl) H1 rfl i38 (by decide) rfl ?_)
 refine sn rfl a (Zo (i := 0) rfl (dk rfl) Zy rfl rfl rfl rfl ?_)
 refine sn rfl a (Z0 rfl (dk rfl) J5 rfl i25 (by decide) rfl ?_)
 refine sn rfl a (Zo (i := 1) rfl (dk rfl) Qfa rfl rfl rfl rfl ?_)
 refine sn rfl a (Yg (xs := x0.Counts) (f := (Vg.dc .i64)) rfl (dk rfl) Qfa rfl ?_)
 obtain ⟨y, v, h⟩ := bind_some h
 refine sn rfl a (Q1 rfl (dk rfl) Tryz.func75 rfl rfl (Q7.cons rfl (Q7.cons rfl Q7.nil)) (Zn.nil (I5 K (flx0 := false) v)) ?_)
 refine sn rfl a (OpT.not rfl (dk rfl) rfl ?_)
 refine oZ a rfl ?_
 refine mw rfl ?_
 rcases Qe h with ⟨b, h⟩ | ⟨b, h⟩
 refine pf rfl b ?_
 refine pf rfl b ?_
 refine pf rfl b ?_
 refine pf rfl b ?_
 refine pf rfl b ?_
 refine oY b rfl ?_
 refine mw rfl ?_
 refine pf rfl rfl ?_
 refine pf rfl rfl ?_
 refine pf rfl rfl ?_
 refine pf rfl rfl ?_
 refine pf rfl rfl ?_
 refine oY rfl rfl ?_
 refine TL'.nil (tN ?_)
 refine Qr rfl rfl ?_
 refine Qm ?_ (Uo K h)
 exact tq rfl rfl
 refine sn rfl b (Z0 rfl (dk rfl) H1 rfl i38 (by decide) rfl ?_)
 refine sn rfl b (Zo (i := 0) rfl (dk rfl) Zy rfl rfl rfl rfl ?_)
 refine sn rfl b (Yg (xs := x1.Rule) (f := (cI .i64)) rfl (dk rfl) Zy rfl ?_)
 refine sn rfl b (OpT.move rfl (dk rfl) rfl ?_)
 refine sn rfl b (Zj rfl rfl (dk rfl) rfl rfl ?_)
 refine oZ b rfl ?_
 refine mw rfl ?_
 rcases Qe h with ⟨d, h⟩ | ⟨d, h⟩
 refine pf rfl d ?_
 refine pf rfl d ?_
 refine pf rfl d ?_
 refine pf rfl d ?_
 refine pf rfl d ?_
 refine oY d rfl ?_
 refine TL'.nil (tN ?_)
 refine Qr rfl rfl ?_
 refine Qm ?_ (Uo K h)
 exact tq rfl rfl
 refine sn rfl d (Z0 rfl (dk rfl) H1 rfl i49 (by decide) rfl ?_)
 refine sn rfl d (Zo (i := 0) rfl (dk rfl) Rg rfl rfl rfl rfl ?_)
 refine sn rfl d (Yg (xs := x1.Next) (f := (cL 2 Qg)) rfl (dk rfl) Rg rfl ?_)
 refine sn rfl d (OpT.move rfl (dk rfl) rfl ?_)
 refine sn rfl d (Zj rfl rfl (dk rfl) rfl rfl ?_)
 refine oZ d rfl ?_
 refine TL'.nil (tN ?_)
 rcases Qe h with ⟨j, h⟩ | ⟨j, h⟩
 refine Qr rfl j ?_
 refine Qm ?_ (Uo K h)
 exact tq rfl rfl
 refine Qp rfl j ?_
 refine T.skip (tN ?_)
 refine T.seq ?_
 refine T.seq (Qq ?_)
 refine aw rfl ?_
 refine TL'.nil (tN ?_)
 refine T.block ?_
 refine T.loop ?_
 refine Qh ?_ (S8 K K p (0:Int) x0 x1 l m h)
 exact tr rfl (.c (.s .z) (.c .z (.n _)))
abbrev Vo (r : Bool) : ES := Wb tp Tryz.f19 (fun y t => y = (.bool r) ∧ t = [])
abbrev Td (r : Bool) : ES := thenS (fun s' => T tp 93 (ca [1,1] Tryz.f19) s' ((Vo r))) ((Vo r))
abbrev Rx (r : Bool) : ES := thenS (fun s' => T tp 93 (ca [1,1,1] Tryz.f19) s' ((Vo r))) ((Vo r))
abbrev Hp (r : Bool) : ES := Qz 0 ((Rx r))
abbrev M3 (r : Bool) : ES := thenS (fun s' => TL tp 93 (ca [1,1,0,1,0,0] Tryz.f19) s' ((Hp r))) ((Hp r))
abbrev F5 (r : Bool) : ES := thenS (fun s' => T tp 93 (ca [1,1,0,1,0,0,1,1] Tryz.f19) s' ((M3 r))) ((M3 r))
abbrev Df (r : Bool) : ES := Qz 1 ((F5 r))
abbrev Px (r : Bool) : ES := thenS (fun s' => T tp 93 (ca [1,1,1,1] Tryz.f19) s' ((Vo r))) ((Vo r))
abbrev N0 (r : Bool) : ES := Qz 2 ((Px r))
theorem Vh {r : Bool} (K : Nat) (h : Zs K = some r) : T tp 93 (ca [1,0,1,0] Tryz.f19) ⟨[], []⟩ (Td r) := by
 unfold Zs at h
 refine T.seq (Qq ?_)
 refine aw rfl ?_
 refine TL'.nil (tN ?_)
 refine T.ret (Qw ?_)
 exact fd rfl (by cases h; exact ⟨rfl, rfl⟩)
theorem Wo {r : Bool} (K : Nat) (h : Vb K = some r) : T tp 93 (ca [1,1,0,1,0,0,1,0,0,1,1,0] Tryz.f19) ⟨[], []⟩ (Df r) := by
 unfold Vb at h
 refine T.seq (Qq ?_)
 refine aw rfl ?_
 refine TL'.nil (tN ?_)
 refine T.ret (Q5 (Qw (Qw (Q5 (Qw ?_)))))
 exact fd rfl (by cases h; exact ⟨rfl, rfl⟩)
theorem Te {r : Bool} (K : Nat) : ∀ (k : Nat), ∀ (g : Int) (x0 : Qn) (b : Nat), Va K k g x0 = some r → TL tp 93 (ca [1,1,1,0,1,0,0] Tryz.f19) ⟨[(1, .ptr b 0), (5, .int .i64 g)], [(R8 b x0.Split.Of x0.Split.Many x0.Counts x0.States)]⟩ (N0 r) := by
 intro k
 induction k with
 | zero =>
  intro g x0 b h
  exact zn h
 | succ k ih =>
  intro g x0 b h
  rw [Va] at h
  refine Q6 ?_
  refine T.seq ?_
  refine T.seq (Qq ?_)
  refine mw rfl ?_
  refine oP J5 i26 rfl ?_
  refine oL 0 Ja rfl ?_
  refine oU x0.States Qc Ja rfl ?_
  refine oI rfl ?_
  refine TL'.nil (tN ?_)
  rcases Qe h with ⟨m, h⟩ | ⟨m, h⟩
  refine Qr rfl m ?_
  refine T.skip (tN ?_)
  refine T.seq ?_
  refine T.block ?_
  refine T.seq ?_
  refine Yx ?_
  refine dW 0 ((Zg.dc 256 .u8 x0.Split.Of) ++ (([.int .i64 x0.Split.Many, .sl false 2 (mA x0.Counts), .sl false 4 (x0.States.map Qc)] : List DC))) rfl (.f rfl) J5 i28 rfl ?_
  refine dP rfl (.f rfl) J5 i26 rfl ?_
  refine dL 0 rfl (.f rfl) Ja rfl ?_
  refine dV rfl rfl ?_
  obtain ⟨a, q, h⟩ := bind_some h
  refine dX x0.States Qc rfl (.f rfl) Ja i51 q rfl ?_
  refine dS (c := ⟨some 90, .agg [.sl false 1 (mI a.L), .sl false 1 (mI a.R), .sl false 1 (mI a.Rule), .sl false 1 (a.Next.map (cL 2 Qg))], [(89, .ref [.sl false 1 (mI a.L), .sl false 1 (mI a.R), .sl false 1 (mI a.Rule), .sl false 1 (a.Next.map (cL 2 Qg))])], [], []⟩) (fun t hm => oF rfl rfl (Zb rfl (dk rfl) H1 rfl i51 hm.s0 (nb rfl) rfl)) rfl rfl ?_
  obtain ⟨j, s, h⟩ := bind_some h
  refine dS (c := ⟨some 91, .bool j, [(85, .agg ((Zg.dc 256 .u8 x0.Split.Of) ++ (([.int .i64 x0.Split.Many, .sl false 2 (mA x0.Counts), .sl false 4 (x0.States.map Qc)] : List DC)))), (90, .agg [.sl false 1 (mI a.L), .sl false 1 (mI a.R), .sl false 1 (mI a.Rule), .sl false 1 (a.Next.map (cL 2 Qg))])], [], []⟩) (fun t hm => oF rfl rfl (Q1 rfl (dk rfl) Tryz.func43 rfl rfl (Q7.cons hm.s0 (Q7.cons hm.s1 Q7.nil)) (Zn.nil (Qb9 K s)) rfl)) rfl rfl ?_
  refine dS (c := ⟨some 92, .bool (!j), [(91, .bool j)], [], []⟩) (fun t hm => oF rfl rfl (OpT.not rfl (dk rfl) hm.s0 rfl)) rfl rfl ?_
  refine dF [0,0,2,0,14,30,63,127] Q3 rfl (by kernel_rfl) (fun u hu => (tN (Qm hu ?_)))
  rcases Qe h with ⟨p, h⟩ | ⟨p, h⟩
  refine Qr rfl p ?_
  refine T.seq (Qq ?_)
  refine aw rfl ?_
  refine TL'.nil (tN ?_)
  refine T.ret (Q5 (Qw (Qw (Q5 (Qw ?_)))))
  exact fd rfl (by cases h; exact ⟨rfl, rfl⟩)
  refine Qp rfl p ?_
  refine T.skip (Ql (tN ?_))
  refine Qq ?_
  refine mw rfl ?_
  refine oI rfl ?_
  refine aw rfl ?_
  refine TL'.nil (tN ?_)
  refine Qh ?_ (ih (wI (g + (1:Int))) x0 b h)
  exact tq rfl rfl
  refine Qp rfl m ?_
  refine T.exit (Qk (Qk (Qt (tN ?_))))
  refine T.seq (Qq ?_)
  refine aw rfl ?_
  refine TL'.nil (tN ?_)
  refine T.ret ?_
  exact fd rfl (by cases h; exact ⟨rfl, rfl⟩)
theorem Tf {r : Bool} (K : Nat) : ∀ (k : Nat), ∀ (p : Int) (x0 : Qn) (m : Nat), Xb K k p x0 = some r → TL tp 93 (ca [1,1,0,1,0,0] Tryz.f19) ⟨[(1, .ptr m 0), (3, .int .i64 p)], [(R8 m x0.Split.Of x0.Split.Many x0.Counts x0.States)]⟩ (Hp r) := by
 intro k
 induction k with
 | zero =>
  intro p x0 m h
  exact zn h
 | succ k ih =>
  intro p x0 m h
  rw [Xb] at h
  refine Q6 ?_
  refine T.seq ?_
  refine T.seq (Qq ?_)
  refine mw rfl ?_
  refine oP J5 i25 rfl ?_
  refine oL 0 Qfa rfl ?_
  refine oU x0.Counts (Vg.dc .i64) Qfa rfl ?_
  refine oI rfl ?_
  refine TL'.nil (tN ?_)
  rcases Qe h with ⟨q, h⟩ | ⟨q, h⟩
  refine Qr rfl q ?_
  refine T.skip (tN ?_)
  refine T.seq ?_
  refine T.block ?_
  refine T.seq (Qq ?_)
  refine oP J5 i25 rfl ?_
  refine oL 0 Qfa rfl ?_
  refine mw rfl ?_
  obtain ⟨l, w, h⟩ := bind_some h
  refine oX x0.Counts (Vg.dc .i64) Qfa i59 w rfl ?_
  refine sp rfl (Zb rfl (dk rfl) ul59 rfl i59 rfl (nb rfl) ?_)
  refine sp rfl (Ze rfl (dk rfl) i59 rfl (fun y => ?_))
  refine sp rfl (Qx (i := 0) (cells' := (Vg.oc .i64 l)) rfl rfl i59 rfl rfl rfl rfl (nb rfl) rfl ?_)
  refine TL'.nil (tN (T.seq (Qq ?_)))
  refine sp rfl (Y5 rfl (dk rfl) ul59 i3 rfl rfl (by decide) (by decide) ?_)
  refine sp rfl (Zo (i := 0) rfl (dk rfl) ul3 rfl rfl rfl (Hu (k := .i64) (a := l) (pre := []) (post := []) (by decide) (by decide)) ?_)
  refine oI rfl ?_
  refine mw rfl ?_
  rcases Qe h with ⟨b, h⟩ | ⟨b, h⟩
  refine pf rfl b ?_
  refine pf rfl b ?_
  refine pf rfl b ?_
  refine pf rfl b ?_
  refine pf rfl b ?_
  refine oY b rfl ?_
  refine mw rfl ?_
  refine pf rfl rfl ?_
  refine pf rfl rfl ?_
  refine pf rfl rfl ?_
  refine oY rfl rfl ?_
  refine mw rfl ?_
  refine pf rfl rfl ?_
  refine pf rfl rfl ?_
  refine pf rfl rfl ?_
  refine oY rfl rfl ?_
  refine TL'.nil (tN ?_)
  refine Qr rfl rfl ?_
  refine Qm ?_ (Wo K h)
  exact tq rfl rfl
  refine sn rfl b (Y5 rfl (dk rfl) ul59 i3 rfl rfl (by decide) (by decide) ?_)
  refine sn rfl b (Zo (i := 0) rfl (dk rfl) ul3 rfl rfl rfl (Hu (k := .i64) (a := l) (pre := []) (post := []) (by decide) (by decide)) ?_)
  refine sn rfl b (Y5 rfl (dk rfl) ul59 i3 rfl rfl (by decide) (by decide) ?_)
  refine sn rfl b (Zo (i := 0) rfl (dk rfl) ul3 rfl rfl rfl (Hu (k := .i64) (a := l) (pre := []) (post := []) (by decide) (by decide)) ?_)
  refine sn rfl b (Zj rfl rfl (dk rfl) rfl rfl ?_)
  refine oZ b rfl ?_
  refine mw rfl ?_
  rcases Qe h with ⟨g, h⟩ | ⟨g, h⟩
  refine pf rfl g ?_
  refine pf rfl g ?_
  refine pf rfl g ?_
  refine oY g rfl ?_
  refine mw rfl ?_
  refine pf rfl rfl ?_
  refine pf rfl rfl ?_
  refine pf rfl rfl ?_
  refine oY rfl rfl ?_
  refine TL'.nil (tN ?_)
  refine Qr rfl rfl ?_
  refine Qm ?_ (Wo K h)
  exact tq rfl rfl
  refine sn rfl g (Y5 rfl (dk rfl) ul59 i3 rfl rfl (by decide) (by decide) ?_)
  refine sn rfl g (Zo (i := 0) rfl (dk rfl) ul3 rfl rfl rfl (Hu (k := .i64) (a := l) (pre := []) (post := []) (by decide) (by decide)) ?_)
  refine sn rfl g (Zj rfl rfl (dk rfl) rfl rfl ?_)
  refine oZ g rfl ?_
  refine mw rfl ?_
  rcases Qe h with ⟨j, h⟩ | ⟨j, h⟩
  refine pf rfl j ?_
  refine pf rfl j ?_
  refine pf rfl j ?_
  refine oY j rfl ?_
  refine TL'.nil (tN ?_)
  refine Qr rfl rfl ?_
  refine Qm ?_ (Wo K h)
  exact tq rfl rfl
  refine sn rfl j (Y5 rfl (dk rfl) ul59 i3 rfl rfl (by decide) (by decide) ?_)
  refine sn rfl j (Zo (i := 0) rfl (dk rfl) ul3 rfl rfl rfl (Hu (k := .i64) (a := l) (pre := []) (post := []) (by decide) (by decide)) ?_)
  refine sn rfl j (Zj rfl rfl (dk rfl) rfl rfl ?_)
  refine oZ j rfl ?_
  refine TL'.nil (tN ?_)
  rcases Qe h with ⟨u, h⟩ | ⟨u, h⟩
  refine Qr rfl u ?_
  refine Qm ?_ (Wo K h)
  exact tq rfl rfl
  refine Qp rfl u ?_
  refine T.skip (Ql (tN ?_))
  refine Qq ?_
  refine mw rfl ?_
  refine oI rfl ?_
  refine aw rfl ?_
  refine TL'.nil (tN ?_)
  refine Qh ?_ (ih (wI (p + (1:Int))) x0 m h)
  exact tr rfl (.c (.s .z) (.n _))
  refine Qp rfl q ?_
  refine T.exit (Qk (Qk (Qt (tN ?_))))
  refine T.seq ?_
  refine T.seq (Qq ?_)
  refine aw rfl ?_
  refine TL'.nil (tN ?_)
  refine T.block ?_
  refine T.loop ?_
  refine Qh ?_ (Te K K (0:Int) x0 m h)
  exact tq rfl rfl
theorem Qcc (K : Nat) {x0 : Qn} {r : Bool} (h : Uw K x0 = some r) : Zn tp 19 [.agg ((Zg.dc 256 .u8 x0.Split.Of) ++ (([.int .i64 x0.Split.Many, .sl false 2 (mA x0.Counts), .sl false 4 (x0.States.map Qc)] : List DC)))] [] (.bool r) := by
 refine Qu Tryz.func19 rfl (nb rfl) ?_
 show T tp 93 (ca [] Tryz.f19) ⟨Qv 0 [.agg ((Zg.dc 256 .u8 x0.Split.Of) ++ (([.int .i64 x0.Split.Many, .sl false 2 (mA x0.Counts), .sl false 4 (x0.States.map Qc)] : List DC)))], []⟩ (Vo r)
 unfold Uw at h
 refine T.seq (Qq ?_)
 refine sp rfl (Zi rfl (dk rfl) rfl (fun s => ?_))
 refine aw rfl ?_
 refine TL'.nil (tN ?_)
 refine T.seq ?_
 refine T.seq (Qq ?_)
 refine oP J5 i24 rfl ?_
 refine oA 0 ((Zg.dc 256 .u8 x0.Split.Of) ++ (([.int .i64 x0.Split.Many] : List DC))) Qfs i24 rfl ?_
 obtain ⟨w, u, h⟩ := bind_some h
 refine sp rfl (Q1 rfl (dk rfl) Tryz.func42 rfl rfl (Q7.cons rfl Q7.nil) (Zn.nil (Qcv K u)) ?_)
 refine oT rfl ?_
 refine mw rfl ?_
 rcases Qe h with ⟨d, h⟩ | ⟨d, h⟩
 refine pf rfl d ?_
 refine pf rfl d ?_
 refine pf rfl d ?_
 refine pf rfl d ?_
 refine oY d rfl ?_
 refine mw rfl ?_
 refine pf rfl rfl ?_
 refine pf rfl rfl ?_
 refine pf rfl rfl ?_
 refine pf rfl rfl ?_
 refine oY rfl rfl ?_
 refine mw rfl ?_
 refine pf rfl rfl ?_
 refine pf rfl rfl ?_
 refine pf rfl rfl ?_
 refine pf rfl rfl ?_
 refine oY rfl rfl ?_
 refine mw rfl ?_
 refine pf rfl rfl ?_
 refine pf rfl rfl ?_
 refine pf rfl rfl ?_
 refine pf rfl rfl ?_
 refine pf rfl rfl ?_
 refine pf rfl rfl ?_
 refine pf rfl rfl ?_
 refine oY rfl rfl ?_
 refine mw rfl ?_
 refine pf rfl rfl ?_
 refine pf rfl rfl ?_
 refine pf rfl rfl ?_
 refine pf rfl rfl ?_
 refine pf rfl rfl ?_
 refine pf rfl rfl ?_
 refine pf rfl rfl ?_
 refine oY rfl rfl ?_
 refine TL'.nil (tN ?_)
 refine Qr rfl rfl ?_
 refine Qm ?_ (Vh K h)
 exact tq rfl rfl
 refine sn rfl d (Z0 rfl (dk rfl) J5 rfl i25 (by decide) rfl ?_)
 refine sn rfl d (Zo (i := 0) rfl (dk rfl) Qfa rfl rfl rfl rfl ?_)
 refine sn rfl d (Yg (xs := x0.Counts) (f := (Vg.dc .i64)) rfl (dk rfl) Qfa rfl ?_)
 refine sn rfl d (Zj rfl rfl (dk rfl) rfl rfl ?_)
 refine oZ d rfl ?_
 refine mw rfl ?_
 rcases Qe h with ⟨g, h⟩ | ⟨g, h⟩
 refine pf rfl g ?_
 refine pf rfl g ?_
 refine pf rfl g ?_
 refine pf rfl g ?_
 refine oY g rfl ?_
 refine mw rfl ?_
 refine pf rfl rfl ?_
 refine pf rfl rfl ?_
 refine pf rfl rfl ?_
 refine pf rfl rfl ?_
 refine oY rfl rfl ?_
 refine mw rfl ?_
 refine pf rfl rfl ?_
 refine pf rfl rfl ?_
 refine pf rfl rfl ?_
 refine pf rfl rfl ?_
 refine pf rfl rfl ?_
 refine pf rfl rfl ?_
 refine pf rfl rfl ?_
 refine oY rfl rfl ?_
 refine mw rfl ?_
 refine pf rfl rfl ?_
 refine pf rfl rfl ?_
 refine pf rfl rfl ?_
 refine pf rfl rfl ?_
 refine pf rfl rfl ?_
 refine pf rfl rfl ?_
 refine pf rfl rfl ?_
 refine oY rfl rfl ?_
 refine TL'.nil (tN ?_)
 refine Qr rfl rfl ?_
 refine Qm ?_ (Vh K h)
 exact tq rfl rfl
 refine sn rfl g (Z0 rfl (dk rfl) J5 rfl i26 (by decide) rfl ?_)
 refine sn rfl g (Zo (i := 0) rfl (dk rfl) Ja rfl rfl rfl rfl ?_)
 refine sn rfl g (Yg (xs := x0.States) (f := Qc) rfl (dk rfl) Ja rfl ?_)
 refine sn rfl g (Zj rfl rfl (dk rfl) rfl rfl ?_)
 refine oZ g rfl ?_
 refine mw rfl ?_
 rcases Qe h with ⟨j, h⟩ | ⟨j, h⟩
 refine pf rfl j ?_
 refine pf rfl j ?_
 refine pf rfl j ?_
 refine pf rfl j ?_
 refine oY j rfl ?_
 refine mw rfl ?_
 refine pf rfl rfl ?_
 refine pf rfl rfl ?_
 refine pf rfl rfl ?_
 refine pf rfl rfl ?_
 refine pf rfl rfl ?_
 refine pf rfl rfl ?_
 refine pf rfl rfl ?_
 refine oY rfl rfl ?_
 refine mw rfl ?_
 refine pf rfl rfl ?_
 refine pf rfl rfl ?_
 refine pf rfl rfl ?_
 refine pf rfl rfl ?_
 refine pf rfl rfl ?_
 refine pf rfl rfl ?_
 refine pf rfl rfl ?_
 refine oY rfl rfl ?_
 refine TL'.nil (tN ?_)
 refine Qr rfl rfl ?_
 refine Qm ?_ (Vh K h)
 exact tq rfl rfl
 refine sn rfl j (Z0 rfl (dk rfl) J5 rfl i26 (by decide) rfl ?_)
 refine sn rfl j (Zo (i := 0) rfl (dk rfl) Ja rfl rfl rfl rfl ?_)
 refine sn rfl j (Yg (xs := x0.States) (f := Qc) rfl (dk rfl) Ja rfl ?_)
 refine sn rfl j (Zj rfl rfl (dk rfl) rfl rfl ?_)
 refine oZ j rfl ?_
 refine mw rfl ?_
 rcases Qe h with ⟨a, h⟩ | ⟨a, h⟩
 refine pf rfl a ?_
 refine pf rfl a ?_
 refine pf rfl a ?_
 refine pf rfl a ?_
 refine pf rfl a ?_
 refine pf rfl a ?_
 refine pf rfl a ?_
 refine oY a rfl ?_
 refine mw rfl ?_
 refine pf rfl rfl ?_
 refine pf rfl rfl ?_
 refine pf rfl rfl ?_
 refine pf rfl rfl ?_
 refine pf rfl rfl ?_
 refine pf rfl rfl ?_
 refine pf rfl rfl ?_
 refine oY rfl rfl ?_
 refine TL'.nil (tN ?_)
 refine Qr rfl rfl ?_
 refine Qm ?_ (Vh K h)
 exact tq rfl rfl
 refine sn rfl a (Z0 rfl (dk rfl) J5 rfl i26 (by decide) rfl ?_)
 refine sn rfl a (Zo (i := 0) rfl (dk rfl) Ja rfl rfl rfl rfl ?_)
 obtain ⟨m, q, h⟩ := bind_some h
 refine sn rfl a (Yq (xs := x0.States) (f := Qc) (v := m) rfl (dk rfl) Ja i51 rfl rfl q ?_)
 refine sn rfl a (Uf rfl (dk rfl) H1 rfl i38 (by decide) rfl ?_)
 refine sn rfl a (Xi rfl (dk rfl) Zy rfl rfl rfl ?_)
 refine sn rfl a (Yg (xs := m.L) (f := (cI .i64)) rfl (dk rfl) Zy rfl ?_)
 refine sn rfl a (Zj rfl rfl (dk rfl) rfl rfl ?_)
 refine oZ a rfl ?_
 refine mw rfl ?_
 rcases Qe h with ⟨b, h⟩ | ⟨b, h⟩
 refine pf rfl b ?_
 refine pf rfl b ?_
 refine pf rfl b ?_
 refine pf rfl b ?_
 refine pf rfl b ?_
 refine pf rfl b ?_
 refine pf rfl b ?_
 refine oY b rfl ?_
 refine TL'.nil (tN ?_)
 refine Qr rfl rfl ?_
 refine Qm ?_ (Vh K h)
 exact tq rfl rfl
 refine sn rfl b (Z0 rfl (dk rfl) J5 rfl i26 (by decide) rfl ?_)
 refine sn rfl b (Zo (i := 0) rfl (dk rfl) Ja rfl rfl rfl rfl ?_)
 refine sn rfl b (Yq (xs := x0.States) (f := Qc) (v := m) rfl (dk rfl) Ja i51 rfl rfl q ?_)
 refine sn rfl b (Uf rfl (dk rfl) H1 rfl i38 (by decide) rfl ?_)
 refine sn rfl b (Xi rfl (dk rfl) Zy rfl rfl rfl ?_)
 refine sn rfl b (Yg (xs := m.R) (f := (cI .i64)) rfl (dk rfl) Zy rfl ?_)
 refine sn rfl b (Zj rfl rfl (dk rfl) rfl rfl ?_)
 refine oZ b rfl ?_
 refine TL'.nil (tN ?_)
 rcases Qe h with ⟨p, h⟩ | ⟨p, h⟩
 refine Qr rfl p ?_
 refine Qm ?_ (Vh K h)
 exact tq rfl rfl
 refine Qp rfl p ?_
 refine T.skip (tN ?_)
 refine T.seq ?_
 refine T.seq (Qq ?_)
 refine aw rfl ?_
 refine TL'.nil (tN ?_)
 refine T.block ?_
 refine T.loop ?_
 refine Qh ?_ (Tf K K (0:Int) x0 s h)
 exact tq rfl rfl
end Go.Rv

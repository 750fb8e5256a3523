/- Each function computes what its plain text says: printed by a program of ours. -/
import Derived.Test.YtcmfaclkgdmpbaaGreatDoorRgW3
namespace Go.Rv
open Go.Proofs
set_option maxRecDepth 100000
set_option maxHeartbeats 4000000
set_option linter.unusedVariables false
abbrev Ws (r : Bool) : ES := J9 tp Tryz.f43 (fun y t => y = (.bool r) ∧ t = [])
abbrev S6 (r : Bool) : ES := thenS (fun s' => T tp 96 (ca [1,1,1] Tryz.f43) s' ((Ws r))) ((Ws r))
abbrev R3 (r : Bool) : ES := thenS (fun s' => T tp 96 (ca [1,1,1,1] Tryz.f43) s' ((Ws r))) ((Ws r))
abbrev Ux (r : Bool) : ES := Qz 0 ((R3 r))
abbrev M6 (r : Bool) : ES := thenS (fun s' => TL tp 96 (ca [1,1,1,0,1,0,0] Tryz.f43) s' ((Ux r))) ((Ux r))
abbrev F1 (r : Bool) : ES := thenS (fun s' => T tp 96 (ca [1,1,1,0,1,0,0,1,1] Tryz.f43) s' ((M6 r))) ((M6 r))
abbrev V6 (r : Bool) : ES := Qz 1 ((F1 r))
abbrev En (r : Bool) : ES := thenS (fun s' => T tp 96 (ca [1,1,1,0,1,0,0,1,0,0,1] Tryz.f43) s' ((V6 r))) ((V6 r))
abbrev B8 (r : Bool) : ES := Qz 2 ((V6 r))
theorem U5 {r : Bool} (K : Nat) (h : Z8 K = some r) : T tp 96 (ca [1,1,0,1,0] Tryz.f43) ⟨[], []⟩ (S6 r) := by
 unfold Z8 at h
 refine T.seq (Qr ?_)
 refine aw rfl ?_
 refine TL'.nil (tN ?_)
 refine T.ret (Qv ?_)
 exact fd rfl (by cases h; exact ⟨rfl, rfl⟩)
theorem Ks {r : Bool} (K : Nat) (h : Xd K = some r) : T tp 96 (ca [1,1,1,0,1,0,0,1,0,0,0,1,0] Tryz.f43) ⟨[], []⟩ (En r) := by
 unfold Xd at h
 refine T.seq (Qr ?_)
 refine aw rfl ?_
 refine TL'.nil (tN ?_)
 refine T.ret (Qv (Q2 (Qv (Qv (Q2 (Qv ?_))))))
 exact fd rfl (by cases h; exact ⟨rfl, rfl⟩)
abbrev Qal (r : Bool) (go : Int → Int → Ql → Qa → Option Bool) : Prop := ∀ (a b : Int) (x0 : Ql) (x1 : Qa) (c f : Nat), go a b x0 x1 = some r → TL tp 96 (ca [1,1,1,0,1,0,0] Tryz.f43) ⟨[(2, .ptr c 0), (3, .ptr f 0), (5, .int .i64 a), (6, .int .i64 b)], [(Qbg c x0.Split.Of x0.Split.Many x0.Counts x0.States), (Jz f x1.L x1.R x1.Rule x1.Next)]⟩ (Ux r)
theorem Qaj {r : Bool} (K : Nat) (go1 : Int → Int → Ql → Qa → Option Bool) (hgo1 : Qal r go1) : ∀ (k : Nat), ∀ (p j q : Int) (x1 : Qa) (s w y : Int) (aa : Bool) (ab : Int) (ac ad : List Qe) (af : Int) (x0 : Ql) (ag : Bool) (b a : Nat), Ve K go1 k p j q x1 s w y aa ab ac ad af x0 ag = some r → TL tp 96 (ca [1,1,1,0,1,0,0,1,0,0,1,1,0,0] Tryz.f43) ⟨[(2, .ptr b 0), (3, .ptr a 0), (5, .int .i64 p), (6, .int .i64 j), (7, .int .i64 q), (55, .ptr a (0 + 2)), (56, .sl false 1 (mI x1.Rule)), (57, .int .i64 s), (58, .ref [.int .i64 w]), (59, .int .i64 y), (60, .bool aa), (63, .ptr a (0 + 3)), (64, .sl false 1 (x1.Next.map (cL 2 Qf))), (65, .int .i64 ab), (66, .ref [.sl false 2 (ac.map Qf)]), (67, .sl false 2 (ad.map Qf)), (68, .int .i64 af), (69, .ptr b (0 + 0)), (70, .ptr b (0 + 0 + 256)), (71, .int .i64 x0.Split.Many), (72, .bool ag)], [(Qbg b x0.Split.Of x0.Split.Many x0.Counts x0.States), (Jz a x1.L x1.R x1.Rule x1.Next)]⟩ (B8 r) := by
 intro k
 induction k with
 | zero =>
  intro p j q x1 s w y aa ab ac ad af x0 ag b a h
  exact zn h
 | succ k ih =>
  intro p j q x1 s w y aa ab ac ad af x0 ag b a h
  rw [Ve] at h
  refine Q6 ?_
  refine T.seq ?_
  refine T.seq (Qr ?_)
  refine mw rfl ?_
  refine oP Wi i49 rfl ?_
  refine oL 1 Fp rfl ?_
  refine mw rfl ?_
  obtain ⟨m, am, h⟩ := bind_some h
  refine oX x1.Next (cL 2 Qf) Fp i55 am rfl ?_
  refine oR Fq rfl ?_
  refine oU m Qf Fq rfl ?_
  refine oI rfl ?_
  refine TL'.nil (tN ?_)
  rcases Qd h with ⟨aj, h⟩ | ⟨aj, h⟩
  refine Qq rfl aj ?_
  refine T.skip (tN ?_)
  refine T.seq ?_
  refine T.block ?_
  refine T.seq ?_
  refine Yk ?_
  refine dW 0 ((Zi.dc 256 .u8 x0.Split.Of) ++ (([.int .i64 x0.Split.Many, .sl false 2 (mA x0.Counts), .sl false 4 (x0.States.map Qb)] : List DC))) rfl (.f rfl) Uv i28 rfl ?_
  refine dW 1 [.sl false 1 (mI x1.L), .sl false 1 (mI x1.R), .sl false 1 (mI x1.Rule), .sl false 1 (x1.Next.map (cL 2 Qf))] rfl (.f rfl) Wi i51 rfl ?_
  refine dP rfl (.f rfl) Wi i49 rfl ?_
  refine dL 1 rfl (.f rfl) Fp rfl ?_
  refine dV rfl rfl ?_
  refine dX x1.Next (cL 2 Qf) rfl (.f rfl) Fp i55 am rfl ?_
  refine dR rfl (.f rfl) Fq rfl ?_
  refine dV rfl rfl ?_
  obtain ⟨g, an, h⟩ := bind_some h
  refine dX m Qf rfl (.f rfl) Fq i54 an rfl ?_
  refine dS (c := ⟨some 93, .agg [.int .i64 g.To, .sl false 1 (mU g.Ops)], [(92, .ref [.int .i64 g.To, .sl false 1 (mU g.Ops)])], [], []⟩) (fun t hm => oF rfl rfl (Za rfl (dk rfl) Cp rfl i54 hm.s0 (nb rfl) rfl)) rfl rfl ?_
  obtain ⟨ai, ap, h⟩ := bind_some h
  refine dS (c := ⟨some 94, .bool ai, [(84, .agg ((Zi.dc 256 .u8 x0.Split.Of) ++ (([.int .i64 x0.Split.Many, .sl false 2 (mA x0.Counts), .sl false 4 (x0.States.map Qb)] : List DC)))), (85, .agg [.sl false 1 (mI x1.L), .sl false 1 (mI x1.R), .sl false 1 (mI x1.Rule), .sl false 1 (x1.Next.map (cL 2 Qf))]), (93, .agg [.int .i64 g.To, .sl false 1 (mU g.Ops)])], [], []⟩) (fun t hm => oF rfl rfl (Q0 rfl (dk rfl) Tryz.func76 rfl rfl (Q5.cons hm.s0 (Q5.cons hm.s1 (Q5.cons hm.s2 Q5.nil))) (Zm.nil (Qfb K ap)) rfl)) rfl rfl ?_
  refine dS (c := ⟨some 95, .bool (!ai), [(94, .bool ai)], [], []⟩) (fun t hm => oF rfl rfl (OpT.not rfl (dk rfl) hm.s0 rfl)) rfl rfl ?_
  refine dF [0,0,0,4,0,28,60,0,252,508,1023,2047] Q3 rfl (by kernel_rfl) (fun u hu => (tN (Qm hu ?_)))
  rcases Qd h with ⟨al, h⟩ | ⟨al, h⟩
  refine Qq rfl al ?_
  refine T.seq (Qr ?_)
  refine aw rfl ?_
  refine TL'.nil (tN ?_)
  refine T.ret (Q2 (Qv (Qv (Q2 (Q2 (Qv (Qv (Q2 (Qv ?_)))))))))
  exact fd rfl (by cases h; exact ⟨rfl, rfl⟩)
  refine Qp rfl al ?_
  refine T.skip (Qn (tN ?_))
  refine Qr ?_
  refine mw rfl ?_
  refine oI rfl ?_
  refine aw rfl ?_
  refine TL'.nil (tN ?_)
  refine Qh ?_ (ih p j (wI (q + (1:Int))) x1 s w y aa ab ac ad af x0 ag b a h)
  exact tq rfl rfl
  refine Qp rfl aj ?_
  refine T.exit (Qj (Qj (Qs (Qn (tN ?_)))))
  refine Qr ?_
  refine mw rfl ?_
  refine oI rfl ?_
  refine aw rfl ?_
  refine TL'.nil (tN ?_)
  refine Qh ?_ (hgo1 p (wI (j + (1:Int))) x0 x1 b a h)
  exact tq rfl rfl
theorem Qak {r : Bool} (K : Nat) : ∀ (k : Nat), ∀ (q j : Int) (x0 : Ql) (x1 : Qa) (m b : Nat), Yp K k q j x0 x1 = some r → TL tp 96 (ca [1,1,1,0,1,0,0] Tryz.f43) ⟨[(2, .ptr m 0), (3, .ptr b 0), (5, .int .i64 q), (6, .int .i64 j)], [(Qbg m x0.Split.Of x0.Split.Many x0.Counts x0.States), (Jz b x1.L x1.R x1.Rule x1.Next)]⟩ (Ux r) := by
 intro k
 induction k with
 | zero =>
  intro q j x0 x1 m b h
  exact zn h
 | succ k ih =>
  intro q j x0 x1 m b h
  rw [Yp] at h
  refine Q6 ?_
  refine T.seq ?_
  refine T.seq (Qr ?_)
  refine mw rfl ?_
  refine mw rfl ?_
  refine oI rfl ?_
  refine TL'.nil (tN ?_)
  rcases Qd h with ⟨s, h⟩ | ⟨s, h⟩
  refine Qq rfl s ?_
  refine T.skip (tN ?_)
  refine T.seq ?_
  refine T.block ?_
  refine T.seq ?_
  refine T.seq ?_
  refine Yk ?_
  refine dP rfl (.f rfl) Wi i38 rfl ?_
  refine dL 1 rfl (.f rfl) Zx rfl ?_
  refine dV rfl rfl ?_
  obtain ⟨a, y, h⟩ := bind_some h
  refine dX x1.Rule (cI .i64) rfl (.f rfl) Zx i3 y rfl ?_
  refine dR rfl (.f rfl) ul3 rfl ?_
  refine dI rfl (.f rfl) rfl ?_
  refine dV rfl rfl ?_
  rcases Qd h with ⟨p, h⟩ | ⟨p, h⟩
  refine dO p rfl rfl ?_
  refine dO p rfl rfl ?_
  refine dO p rfl rfl ?_
  refine dO p rfl rfl ?_
  refine dO p rfl rfl ?_
  refine dO p rfl rfl ?_
  refine dY rfl (.f rfl) p rfl ?_
  refine dV rfl rfl ?_
  refine dO rfl rfl rfl ?_
  refine dO rfl rfl rfl ?_
  refine dO rfl rfl rfl ?_
  refine dO rfl rfl rfl ?_
  refine dO rfl rfl rfl ?_
  refine dO rfl rfl rfl ?_
  refine dO rfl rfl rfl ?_
  refine dO rfl rfl rfl ?_
  refine dO rfl rfl rfl ?_
  refine dO rfl rfl rfl ?_
  refine dY rfl (.f rfl) rfl rfl ?_
  refine dF [0,1,0,7,15,31,63,127,255,127,1023,2047,4095,8191,16383,32767,65535,32767,262143,524287,1048575,32767,2129919,6324223,16777215,33554431] Q3 rfl (by kernel_rfl) (fun u hu => (tN (Qm hu ?_)))
  refine Qq rfl rfl ?_
  refine Qm ?_ (Ks K h)
  exact tq rfl rfl
  refine dP rfl (.n p rfl) Wi i38 rfl ?_
  refine dL 1 rfl (.n p rfl) Zx rfl ?_
  refine dM rfl (.n p rfl) rfl ?_
  refine dX x1.Rule (cI .i64) rfl (.n p rfl) Zx i3 y rfl ?_
  refine dR rfl (.n p rfl) ul3 rfl ?_
  refine dI rfl (.n p rfl) rfl ?_
  refine dZ rfl (.f rfl) p rfl ?_
  refine dV rfl rfl ?_
  rcases Qd h with ⟨g, h⟩ | ⟨g, h⟩
  refine dO g rfl rfl ?_
  refine dO g rfl rfl ?_
  refine dO g rfl rfl ?_
  refine dO g rfl rfl ?_
  refine dO g rfl rfl ?_
  refine dO g rfl rfl ?_
  refine dO g rfl rfl ?_
  refine dO g rfl rfl ?_
  refine dO g rfl rfl ?_
  refine dO g rfl rfl ?_
  refine dY rfl (.f rfl) g rfl ?_
  refine dF [0,1,0,7,15,31,63,127,255,127,1023,2047,4095,8191,16383,32767,65535,32767,262143,524287,1048575,32767,2129919,6324223,16777215,33554431] Q3 rfl (by kernel_rfl) (fun u hu => (tN (Qm hu ?_)))
  refine Qq rfl rfl ?_
  refine Qm ?_ (Ks K h)
  exact tq rfl rfl
  refine dP rfl (.n g rfl) Wi i49 rfl ?_
  refine dL 1 rfl (.n g rfl) Fp rfl ?_
  refine dM rfl (.n g rfl) rfl ?_
  obtain ⟨l, aa, h⟩ := bind_some h
  refine dX x1.Next (cL 2 Qf) rfl (.n g rfl) Fp i55 aa rfl ?_
  refine dR rfl (.n g rfl) Fq rfl ?_
  refine dN l Qf rfl (.n g rfl) Fq rfl ?_
  refine dP rfl (.n g rfl) Uv i24 rfl ?_
  refine dP rfl (.n g rfl) Qhi i3 rfl ?_
  refine dL 0 rfl (.n g rfl) ul3 rfl ?_
  refine dI rfl (.n g rfl) rfl ?_
  refine dZ rfl (.f rfl) g rfl ?_
  refine dF [0,1,0,7,15,31,63,127,255,127,1023,2047,4095,8191,16383,32767,65535,32767,262143,524287,1048575,32767,2129919,6324223,16777215,33554431] Q3 rfl (by kernel_rfl) (fun u hu => (tN (Qm hu ?_)))
  rcases Qd h with ⟨w, h⟩ | ⟨w, h⟩
  refine Qq rfl w ?_
  refine Qm ?_ (Ks K h)
  exact tq rfl rfl
  refine Qp rfl w ?_
  refine T.skip (tN ?_)
  refine T.seq (Qr ?_)
  refine aw rfl ?_
  refine TL'.nil (tN ?_)
  refine T.block ?_
  refine T.loop ?_
  refine Qh ?_ (Qaj K (Yp K k) ih K q j (0:Int) x1 j a a (decide (a ≥ (512:Int))) j l l (l.length : Int) x0 ((l.length : Int) != x0.Split.Many) m b h)
  exact tq rfl rfl
  refine Qp rfl s ?_
  refine T.exit (Qj (Qj (Qs (tN ?_))))
  refine T.seq (Qr ?_)
  refine aw rfl ?_
  refine TL'.nil (tN ?_)
  refine T.ret ?_
  exact fd rfl (by cases h; exact ⟨rfl, rfl⟩)
theorem Qdu (K : Nat) {x0 : Ql} {x1 : Qa} {r : Bool} (h : G2 K x0 x1 = some r) : Zm tp 43 [.agg ((Zi.dc 256 .u8 x0.Split.Of) ++ (([.int .i64 x0.Split.Many, .sl false 2 (mA x0.Counts), .sl false 4 (x0.States.map Qb)] : List DC))), .agg [.sl false 1 (mI x1.L), .sl false 1 (mI x1.R), .sl false 1 (mI x1.Rule), .sl false 1 (x1.Next.map (cL 2 Qf))]] [] (.bool r) := by
 refine Qt Tryz.func43 rfl (nb rfl) ?_
 show T tp 96 (ca [] Tryz.f43) ⟨Qw 0 [.agg ((Zi.dc 256 .u8 x0.Split.Of) ++ (([.int .i64 x0.Split.Many, .sl false 2 (mA x0.Counts), .sl false 4 (x0.States.map Qb)] : List DC))), .agg [.sl false 1 (mI x1.L), .sl false 1 (mI x1.R), .sl false 1 (mI x1.Rule), .sl false 1 (x1.Next.map (cL 2 Qf))]], []⟩ (Ws r)
 unfold G2 at h
 refine T.seq (Qr ?_)
 refine sp rfl (Zb rfl (dk rfl) rfl (fun l => ?_))
 refine sp rfl (Zb rfl (dk rfl) rfl (fun m => ?_))
 refine aw rfl ?_
 refine TL'.nil (tN (T.seq (Qr ?_)))
 refine oP Wi i38 rfl ?_
 refine oL 0 Zx rfl ?_
 refine oU x1.R (cI .i64) Zx rfl ?_
 obtain ⟨p, q, h⟩ := bind_some h
 refine sp rfl (Q0 rfl (dk rfl) Tryz.func46 rfl rfl (Q5.cons rfl Q5.nil) (Zm.nil (Oa K q)) ?_)
 refine aw rfl ?_
 refine TL'.nil (tN ?_)
 refine T.seq ?_
 refine T.seq (Qr ?_)
 refine mw rfl ?_
 refine oI rfl ?_
 refine mw rfl ?_
 rcases Qd h with ⟨g, h⟩ | ⟨g, h⟩
 refine pf rfl g ?_
 refine pf rfl g ?_
 refine pf rfl g ?_
 refine pf rfl g ?_
 refine oY g rfl ?_
 refine mw rfl ?_
 refine pf rfl rfl ?_
 refine pf rfl rfl ?_
 refine pf rfl rfl ?_
 refine pf rfl rfl ?_
 refine pf rfl rfl ?_
 refine pf rfl rfl ?_
 refine pf rfl rfl ?_
 refine oY rfl rfl ?_
 refine mw rfl ?_
 refine pf rfl rfl ?_
 refine pf rfl rfl ?_
 refine pf rfl rfl ?_
 refine pf rfl rfl ?_
 refine pf rfl rfl ?_
 refine oY rfl rfl ?_
 refine mw rfl ?_
 refine pf rfl rfl ?_
 refine pf rfl rfl ?_
 refine pf rfl rfl ?_
 refine pf rfl rfl ?_
 refine pf rfl rfl ?_
 refine oY rfl rfl ?_
 refine TL'.nil (tN ?_)
 refine Qq rfl rfl ?_
 refine Qm ?_ (U5 K h)
 exact tq rfl rfl
 refine sn rfl g (Zs rfl (dk rfl) Wi rfl i38 (by decide) rfl ?_)
 refine sn rfl g (Zn (i := 0) rfl (dk rfl) Zx rfl rfl rfl rfl ?_)
 obtain ⟨w, u, h⟩ := bind_some h
 refine sn rfl g (Q0 rfl (dk rfl) Tryz.func75 rfl rfl (Q5.cons rfl (Q5.cons rfl Q5.nil)) (Zm.nil (N4 K (flx0 := false) u)) ?_)
 refine sn rfl g (OpT.not rfl (dk rfl) rfl ?_)
 refine oZ g rfl ?_
 refine mw rfl ?_
 rcases Qd h with ⟨a, h⟩ | ⟨a, h⟩
 refine pf rfl a ?_
 refine pf rfl a ?_
 refine pf rfl a ?_
 refine pf rfl a ?_
 refine pf rfl a ?_
 refine pf rfl a ?_
 refine pf rfl a ?_
 refine oY a rfl ?_
 refine mw rfl ?_
 refine pf rfl rfl ?_
 refine pf rfl rfl ?_
 refine pf rfl rfl ?_
 refine pf rfl rfl ?_
 refine pf rfl rfl ?_
 refine oY rfl rfl ?_
 refine mw rfl ?_
 refine pf rfl rfl ?_
 refine pf rfl rfl ?_
 refine pf rfl rfl ?_
 refine pf rfl rfl ?_
 refine pf rfl rfl ?_
 refine oY rfl rfl ?_
 refine TL'.nil (tN ?_)
 refine Qq rfl rfl ?_
 refine Qm ?_ (U5 K h)
 exact tq rfl rfl
 refine sn rfl a (Zs rfl (dk rfl) Wi rfl i38 (by decide) rfl ?_)
 refine sn rfl a (Zn (i := 0) rfl (dk rfl) Zx rfl rfl rfl rfl ?_)
 refine sn rfl a (Zs rfl (dk rfl) Uv rfl i25 (by decide) rfl ?_)
 refine sn rfl a (Zn (i := 1) rfl (dk rfl) Qcw rfl rfl rfl rfl ?_)
 refine sn rfl a (Zw (xs := x0.Counts) (f := (Vr.dc .i64)) rfl (dk rfl) Qcw rfl ?_)
 obtain ⟨y, v, h⟩ := bind_some h
 refine sn rfl a (Q0 rfl (dk rfl) Tryz.func75 rfl rfl (Q5.cons rfl (Q5.cons rfl Q5.nil)) (Zm.nil (N4 K (flx0 := false) v)) ?_)
 refine sn rfl a (OpT.not rfl (dk rfl) rfl ?_)
 refine oZ a rfl ?_
 refine mw rfl ?_
 rcases Qd h with ⟨b, h⟩ | ⟨b, h⟩
 refine pf rfl b ?_
 refine pf rfl b ?_
 refine pf rfl b ?_
 refine pf rfl b ?_
 refine pf rfl b ?_
 refine oY b rfl ?_
 refine mw rfl ?_
 refine pf rfl rfl ?_
 refine pf rfl rfl ?_
 refine pf rfl rfl ?_
 refine pf rfl rfl ?_
 refine pf rfl rfl ?_
 refine oY rfl rfl ?_
 refine TL'.nil (tN ?_)
 refine Qq rfl rfl ?_
 refine Qm ?_ (U5 K h)
 exact tq rfl rfl
 refine sn rfl b (Zs rfl (dk rfl) Wi rfl i38 (by decide) rfl ?_)
 refine sn rfl b (Zn (i := 0) rfl (dk rfl) Zx rfl rfl rfl rfl ?_)
 refine sn rfl b (Zw (xs := x1.Rule) (f := (cI .i64)) rfl (dk rfl) Zx rfl ?_)
 refine sn rfl b (OpT.move rfl (dk rfl) rfl ?_)
 refine sn rfl b (Zj rfl rfl (dk rfl) rfl rfl ?_)
 refine oZ b rfl ?_
 refine mw rfl ?_
 rcases Qd h with ⟨d, h⟩ | ⟨d, h⟩
 refine pf rfl d ?_
 refine pf rfl d ?_
 refine pf rfl d ?_
 refine pf rfl d ?_
 refine pf rfl d ?_
 refine oY d rfl ?_
 refine TL'.nil (tN ?_)
 refine Qq rfl rfl ?_
 refine Qm ?_ (U5 K h)
 exact tq rfl rfl
 refine sn rfl d (Zs rfl (dk rfl) Wi rfl i49 (by decide) rfl ?_)
 refine sn rfl d (Zn (i := 0) rfl (dk rfl) Fp rfl rfl rfl rfl ?_)
 refine sn rfl d (Zw (xs := x1.Next) (f := (cL 2 Qf)) rfl (dk rfl) Fp rfl ?_)
 refine sn rfl d (OpT.move rfl (dk rfl) rfl ?_)
 refine sn rfl d (Zj rfl rfl (dk rfl) rfl rfl ?_)
 refine oZ d rfl ?_
 refine TL'.nil (tN ?_)
 rcases Qd h with ⟨j, h⟩ | ⟨j, h⟩
 refine Qq rfl j ?_
 refine Qm ?_ (U5 K h)
 exact tq rfl rfl
 refine Qp rfl j ?_
 refine T.skip (tN ?_)
 refine T.seq ?_
 refine T.seq (Qr ?_)
 refine aw rfl ?_
 refine TL'.nil (tN ?_)
 refine T.block ?_
 refine T.loop ?_
 refine Qh ?_ (Qak K K p (0:Int) x0 x1 l m h)
 exact tr rfl (.c (.s .z) (.c .z (.n _)))
abbrev Vy (r : Bool) : ES := J9 tp Tryz.f19 (fun y t => y = (.bool r) ∧ t = [])
abbrev Qat (r : Bool) : ES := thenS (fun s' => T tp 93 (ca [1,1] Tryz.f19) s' ((Vy r))) ((Vy r))
abbrev S9 (r : Bool) : ES := thenS (fun s' => T tp 93 (ca [1,1,1] Tryz.f19) s' ((Vy r))) ((Vy r))
abbrev H5 (r : Bool) : ES := Qz 0 ((S9 r))
abbrev Bn (r : Bool) : ES := thenS (fun s' => TL tp 93 (ca [1,1,0,1,0,0] Tryz.f19) s' ((H5 r))) ((H5 r))
abbrev I7 (r : Bool) : ES := thenS (fun s' => T tp 93 (ca [1,1,0,1,0,0,1,1] Tryz.f19) s' ((Bn r))) ((Bn r))
abbrev D9 (r : Bool) : ES := Qz 1 ((I7 r))
abbrev R7 (r : Bool) : ES := thenS (fun s' => T tp 93 (ca [1,1,1,1] Tryz.f19) s' ((Vy r))) ((Vy r))
abbrev Pc (r : Bool) : ES := Qz 2 ((R7 r))
theorem Vm {r : Bool} (K : Nat) (h : Zt K = some r) : T tp 93 (ca [1,0,1,0] Tryz.f19) ⟨[], []⟩ (Qat r) := by
 unfold Zt at h
 refine T.seq (Qr ?_)
 refine aw rfl ?_
 refine TL'.nil (tN ?_)
 refine T.ret (Qv ?_)
 exact fd rfl (by cases h; exact ⟨rfl, rfl⟩)
theorem W6 {r : Bool} (K : Nat) (h : Vg K = some r) : T tp 93 (ca [1,1,0,1,0,0,1,0,0,1,1,0] Tryz.f19) ⟨[], []⟩ (D9 r) := by
 unfold Vg at h
 refine T.seq (Qr ?_)
 refine aw rfl ?_
 refine TL'.nil (tN ?_)
 refine T.ret (Q2 (Qv (Qv (Q2 (Qv ?_)))))
 exact fd rfl (by cases h; exact ⟨rfl, rfl⟩)
theorem Qau {r : Bool} (K : Nat) : ∀ (k : Nat), ∀ (g : Int) (x0 : Ql) (b : Nat), Vf K k g x0 = some r → TL tp 93 (ca [1,1,1,0,1,0,0] Tryz.f19) ⟨[(1, .ptr b 0), (5, .int .i64 g)], [(Qbg b x0.Split.Of x0.Split.Many x0.Counts x0.States)]⟩ (Pc r) := by
 intro k
 induction k with
 | zero =>
  intro g x0 b h
  exact zn h
 | succ k ih =>
  intro g x0 b h
  rw [Vf] at h
  refine Q6 ?_
  refine T.seq ?_
  refine T.seq (Qr ?_)
  refine mw rfl ?_
  refine oP Uv i26 rfl ?_
  refine oL 0 Us rfl ?_
  refine oU x0.States Qb Us rfl ?_
  refine oI rfl ?_
  refine TL'.nil (tN ?_)
  rcases Qd h with ⟨m, h⟩ | ⟨m, h⟩
  refine Qq rfl m ?_
  refine T.skip (tN ?_)
  refine T.seq ?_
  refine T.block ?_
  refine T.seq ?_
  refine Yk ?_
  refine dW 0 ((Zi.dc 256 .u8 x0.Split.Of) ++ (([.int .i64 x0.Split.Many, .sl false 2 (mA x0.Counts), .sl false 4 (x0.States.map Qb)] : List DC))) rfl (.f rfl) Uv i28 rfl ?_
  refine dP rfl (.f rfl) Uv i26 rfl ?_
  refine dL 0 rfl (.f rfl) Us rfl ?_
  refine dV rfl rfl ?_
  obtain ⟨a, q, h⟩ := bind_some h
  refine dX x0.States Qb rfl (.f rfl) Us i51 q rfl ?_
  refine dS (c := ⟨some 90, .agg [.sl false 1 (mI a.L), .sl false 1 (mI a.R), .sl false 1 (mI a.Rule), .sl false 1 (a.Next.map (cL 2 Qf))], [(89, .ref [.sl false 1 (mI a.L), .sl false 1 (mI a.R), .sl false 1 (mI a.Rule), .sl false 1 (a.Next.map (cL 2 Qf))])], [], []⟩) (fun t hm => oF rfl rfl (Za rfl (dk rfl) Wi rfl i51 hm.s0 (nb rfl) rfl)) rfl rfl ?_
  obtain ⟨j, s, h⟩ := bind_some h
  refine dS (c := ⟨some 91, .bool j, [(85, .agg ((Zi.dc 256 .u8 x0.Split.Of) ++ (([.int .i64 x0.Split.Many, .sl false 2 (mA x0.Counts), .sl false 4 (x0.States.map Qb)] : List DC)))), (90, .agg [.sl false 1 (mI a.L), .sl false 1 (mI a.R), .sl false 1 (mI a.Rule), .sl false 1 (a.Next.map (cL 2 Qf))])], [], []⟩) (fun t hm => oF rfl rfl (Q0 rfl (dk rfl) Tryz.func43 rfl rfl (Q5.cons hm.s0 (Q5.cons hm.s1 Q5.nil)) (Zm.nil (Qdu K s)) rfl)) rfl rfl ?_
  refine dS (c := ⟨some 92, .bool (!j), [(91, .bool j)], [], []⟩) (fun t hm => oF rfl rfl (OpT.not rfl (dk rfl) hm.s0 rfl)) rfl rfl ?_
  refine dF [0,0,2,0,14,30,63,127] Q3 rfl (by kernel_rfl) (fun u hu => (tN (Qm hu ?_)))
  rcases Qd h with ⟨p, h⟩ | ⟨p, h⟩
  refine Qq rfl p ?_
  refine T.seq (Qr ?_)
  refine aw rfl ?_
  refine TL'.nil (tN ?_)
  refine T.ret (Q2 (Qv (Qv (Q2 (Qv ?_)))))
  exact fd rfl (by cases h; exact ⟨rfl, rfl⟩)
  refine Qp rfl p ?_
  refine T.skip (Qn (tN ?_))
  refine Qr ?_
  refine mw rfl ?_
  refine oI rfl ?_
  refine aw rfl ?_
  refine TL'.nil (tN ?_)
  refine Qh ?_ (ih (wI (g + (1:Int))) x0 b h)
  exact tq rfl rfl
  refine Qp rfl m ?_
  refine T.exit (Qj (Qj (Qs (tN ?_))))
  refine T.seq (Qr ?_)
  refine aw rfl ?_
  refine TL'.nil (tN ?_)
  refine T.ret ?_
  exact fd rfl (by cases h; exact ⟨rfl, rfl⟩)
theorem Qav {r : Bool} (K : Nat) : ∀ (k : Nat), ∀ (p : Int) (x0 : Ql) (m : Nat), Xf K k p x0 = some r → TL tp 93 (ca [1,1,0,1,0,0] Tryz.f19) ⟨[(1, .ptr m 0), (3, .int .i64 p)], [(Qbg m x0.Split.Of x0.Split.Many x0.Counts x0.States)]⟩ (H5 r) := by
 intro k
 induction k with
 | zero =>
  intro p x0 m h
  exact zn h
 | succ k ih =>
  intro p x0 m h
  rw [Xf] at h
  refine Q6 ?_
  refine T.seq ?_
  refine T.seq (Qr ?_)
  refine mw rfl ?_
  refine oP Uv i25 rfl ?_
  refine oL 0 Qcw rfl ?_
  refine oU x0.Counts (Vr.dc .i64) Qcw rfl ?_
  refine oI rfl ?_
  refine TL'.nil (tN ?_)
  rcases Qd h with ⟨q, h⟩ | ⟨q, h⟩
  refine Qq rfl q ?_
  refine T.skip (tN ?_)
  refine T.seq ?_
  refine T.block ?_
  refine T.seq (Qr ?_)
  refine oP Uv i25 rfl ?_
  refine oL 0 Qcw rfl ?_
  refine mw rfl ?_
  obtain ⟨l, w, h⟩ := bind_some h
  refine oX x0.Counts (Vr.dc .i64) Qcw i59 w rfl ?_
  refine sp rfl (Za rfl (dk rfl) ul59 rfl i59 rfl (nb rfl) ?_)
  refine sp rfl (Zh rfl (dk rfl) i59 rfl (fun y => ?_))
  refine sp rfl (Qy (i := 0) (cells' := (Vr.oc .i64 l)) rfl rfl i59 rfl rfl rfl rfl (nb rfl) rfl ?_)
  refine TL'.nil (tN (T.seq (Qr ?_)))
  refine sp rfl (Y8 rfl (dk rfl) ul59 i3 rfl rfl (by decide) (by decide) ?_)
  refine sp rfl (Zn (i := 0) rfl (dk rfl) ul3 rfl rfl rfl (Ga (k := .i64) (a := l) (pre := []) (post := []) (by decide) (by decide)) ?_)
  refine oI rfl ?_
  refine mw rfl ?_
  rcases Qd h with ⟨b, h⟩ | ⟨b, h⟩
  refine pf rfl b ?_
  refine pf rfl b ?_
  refine pf rfl b ?_
  refine pf rfl b ?_
  refine pf rfl b ?_
  refine oY b rfl ?_
  refine mw rfl ?_
  refine pf rfl rfl ?_
  refine pf rfl rfl ?_
  refine pf rfl rfl ?_
  refine oY rfl rfl ?_
  refine mw rfl ?_
  refine pf rfl rfl ?_
  refine pf rfl rfl ?_
  refine pf rfl rfl ?_
  refine oY rfl rfl ?_
  refine TL'.nil (tN ?_)
  refine Qq rfl rfl ?_
  refine Qm ?_ (W6 K h)
  exact tq rfl rfl
  refine sn rfl b (Y8 rfl (dk rfl) ul59 i3 rfl rfl (by decide) (by decide) ?_)
  refine sn rfl b (Zn (i := 0) rfl (dk rfl) ul3 rfl rfl rfl (Ga (k := .i64) (a := l) (pre := []) (post := []) (by decide) (by decide)) ?_)
  refine sn rfl b (Y8 rfl (dk rfl) ul59 i3 rfl rfl (by decide) (by decide) ?_)
  refine sn rfl b (Zn (i := 0) rfl (dk rfl) ul3 rfl rfl rfl (Ga (k := .i64) (a := l) (pre := []) (post := []) (by decide) (by decide)) ?_)
  refine sn rfl b (Zj rfl rfl (dk rfl) rfl rfl ?_)
  refine oZ b rfl ?_
  refine mw rfl ?_
  rcases Qd h with ⟨g, h⟩ | ⟨g, h⟩
  refine pf rfl g ?_
  refine pf rfl g ?_
  refine pf rfl g ?_
  refine oY g rfl ?_
  refine mw rfl ?_
  refine pf rfl rfl ?_
  refine pf rfl rfl ?_
  refine pf rfl rfl ?_
  refine oY rfl rfl ?_
  refine TL'.nil (tN ?_)
  refine Qq rfl rfl ?_
  refine Qm ?_ (W6 K h)
  exact tq rfl rfl
  refine sn rfl g (Y8 rfl (dk rfl) ul59 i3 rfl rfl (by decide) (by decide) ?_)
  refine sn rfl g (Zn (i := 0) rfl (dk rfl) ul3 rfl rfl rfl (Ga (k := .i64) (a := l) (pre := []) (post := []) (by decide) (by decide)) ?_)
  refine sn rfl g (Zj rfl rfl (dk rfl) rfl rfl ?_)
  refine oZ g rfl ?_
  refine mw rfl ?_
  rcases Qd h with ⟨j, h⟩ | ⟨j, h⟩
  refine pf rfl j ?_
  refine pf rfl j ?_
  refine pf rfl j ?_
  refine oY j rfl ?_
  refine TL'.nil (tN ?_)
  refine Qq rfl rfl ?_
  refine Qm ?_ (W6 K h)
  exact tq rfl rfl
  refine sn rfl j (Y8 rfl (dk rfl) ul59 i3 rfl rfl (by decide) (by decide) ?_)
  refine sn rfl j (Zn (i := 0) rfl (dk rfl) ul3 rfl rfl rfl (Ga (k := .i64) (a := l) (pre := []) (post := []) (by decide) (by decide)) ?_)
  refine sn rfl j (Zj rfl rfl (dk rfl) rfl rfl ?_)
  refine oZ j rfl ?_
  refine TL'.nil (tN ?_)
  rcases Qd h with ⟨u, h⟩ | ⟨u, h⟩
  refine Qq rfl u ?_
  refine Qm ?_ (W6 K h)
  exact tq rfl rfl
  refine Qp rfl u ?_
  refine T.skip (Qn (tN ?_))
  refine Qr ?_
  refine mw rfl ?_
  refine oI rfl ?_
  refine aw rfl ?_
  refine TL'.nil (tN ?_)
  refine Qh ?_ (ih (wI (p + (1:Int))) x0 m h)
  exact tr rfl (.c (.s .z) (.n _))
  refine Qp rfl q ?_
  refine T.exit (Qj (Qj (Qs (tN ?_))))
  refine T.seq ?_
  refine T.seq (Qr ?_)
  refine aw rfl ?_
  refine TL'.nil (tN ?_)
  refine T.block ?_
  refine T.loop ?_
  refine Qh ?_ (Qau K K (0:Int) x0 m h)
  exact tq rfl rfl
theorem N9 (K : Nat) {x0 : Ql} {r : Bool} (h : X3 K x0 = some r) : Zm tp 19 [.agg ((Zi.dc 256 .u8 x0.Split.Of) ++ (([.int .i64 x0.Split.Many, .sl false 2 (mA x0.Counts), .sl false 4 (x0.States.map Qb)] : List DC)))] [] (.bool r) := by
 refine Qt Tryz.func19 rfl (nb rfl) ?_
 show T tp 93 (ca [] Tryz.f19) ⟨Qw 0 [.agg ((Zi.dc 256 .u8 x0.Split.Of) ++ (([.int .i64 x0.Split.Many, .sl false 2 (mA x0.Counts), .sl false 4 (x0.States.map Qb)] : List DC)))], []⟩ (Vy r)
 unfold X3 at h
 refine T.seq (Qr ?_)
 refine sp rfl (Zb rfl (dk rfl) rfl (fun s => ?_))
 refine aw rfl ?_
 refine TL'.nil (tN ?_)
 refine T.seq ?_
 refine T.seq (Qr ?_)
 refine oP Uv i24 rfl ?_
 refine oA 0 ((Zi.dc 256 .u8 x0.Split.Of) ++ (([.int .i64 x0.Split.Many] : List DC))) Qhi i24 rfl ?_
 obtain ⟨w, u, h⟩ := bind_some h
 refine sp rfl (Q0 rfl (dk rfl) Tryz.func42 rfl rfl (Q5.cons rfl Q5.nil) (Zm.nil (Qef K u)) ?_)
 refine oT rfl ?_
 refine mw rfl ?_
 rcases Qd h with ⟨d, h⟩ | ⟨d, h⟩
 refine pf rfl d ?_
 refine pf rfl d ?_
 refine pf rfl d ?_
 refine pf rfl d ?_
 refine oY d rfl ?_
 refine mw rfl ?_
 refine pf rfl rfl ?_
 refine pf rfl rfl ?_
 refine pf rfl rfl ?_
 refine pf rfl rfl ?_
 refine oY rfl rfl ?_
 refine mw rfl ?_
 refine pf rfl rfl ?_
 refine pf rfl rfl ?_
 refine pf rfl rfl ?_
 refine pf rfl rfl ?_
 refine oY rfl rfl ?_
 refine mw rfl ?_
 refine pf rfl rfl ?_
 refine pf rfl rfl ?_
 refine pf rfl rfl ?_
 refine pf rfl rfl ?_
 refine pf rfl rfl ?_
 refine pf rfl rfl ?_
 refine pf rfl rfl ?_
 refine oY rfl rfl ?_
 refine mw rfl ?_
 refine pf rfl rfl ?_
 refine pf rfl rfl ?_
 refine pf rfl rfl ?_
 refine pf rfl rfl ?_
 refine pf rfl rfl ?_
 refine pf rfl rfl ?_
 refine pf rfl rfl ?_
 refine oY rfl rfl ?_
 refine TL'.nil (tN ?_)
 refine Qq rfl rfl ?_
 refine Qm ?_ (Vm K h)
 exact tq rfl rfl
 refine sn rfl d (Zs rfl (dk rfl) Uv rfl i25 (by decide) rfl ?_)
 refine sn rfl d (Zn (i := 0) rfl (dk rfl) Qcw rfl rfl rfl rfl ?_)
 refine sn rfl d (Zw (xs := x0.Counts) (f := (Vr.dc .i64)) rfl (dk rfl) Qcw rfl ?_)
 refine sn rfl d (Zj rfl rfl (dk rfl) rfl rfl ?_)
 refine oZ d rfl ?_
 refine mw rfl ?_
 rcases Qd h with ⟨g, h⟩ | ⟨g, h⟩
 refine pf rfl g ?_
 refine pf rfl g ?_
 refine pf rfl g ?_
 refine pf rfl g ?_
 refine oY g rfl ?_
 refine mw rfl ?_
 refine pf rfl rfl ?_
 refine pf rfl rfl ?_
 refine pf rfl rfl ?_
 refine pf rfl rfl ?_
 refine oY rfl rfl ?_
 refine mw rfl ?_
 refine pf rfl rfl ?_
 refine pf rfl rfl ?_
 refine pf rfl rfl ?_
 refine pf rfl rfl ?_
 refine pf rfl rfl ?_
 refine pf rfl rfl ?_
 refine pf rfl rfl ?_
 refine oY rfl rfl ?_
 refine mw rfl ?_
 refine pf rfl rfl ?_
 refine pf rfl rfl ?_
 refine pf rfl rfl ?_
 refine pf rfl rfl ?_
 refine pf rfl rfl ?_
 refine pf rfl rfl ?_
 refine pf rfl rfl ?_
 refine oY rfl rfl ?_
 refine TL'.nil (tN ?_)
 refine Qq rfl rfl ?_
 refine Qm ?_ (Vm K h)
 exact tq rfl rfl
 refine sn rfl g (Zs rfl (dk rfl) Uv rfl i26 (by decide) rfl ?_)
 refine sn rfl g (Zn (i := 0) rfl (dk rfl) Us rfl rfl rfl rfl ?_)
 refine sn rfl g (Zw (xs := x0.States) (f := Qb) rfl (dk rfl) Us rfl ?_)
 refine sn rfl g (Zj rfl rfl (dk rfl) rfl rfl ?_)
 refine oZ g rfl ?_
 refine mw rfl ?_
 rcases Qd h with ⟨j, h⟩ | ⟨j, h⟩
 refine pf rfl j ?_
 refine pf rfl j ?_
 refine pf rfl j ?_
 refine pf rfl j ?_
 refine oY j rfl ?_
 refine mw rfl ?_
 refine pf rfl rfl ?_
 refine pf rfl rfl ?_
 refine pf rfl rfl ?_
 refine pf rfl rfl ?_
 refine pf rfl rfl ?_
 refine pf rfl rfl ?_
 refine pf rfl rfl ?_
 refine oY rfl rfl ?_
 refine mw rfl ?_
 refine pf rfl rfl ?_
 refine pf rfl rfl ?_
 refine pf rfl rfl ?_
 refine pf rfl rfl ?_
 refine pf rfl rfl ?_
 refine pf rfl rfl ?_
 refine pf rfl rfl ?_
 refine oY rfl rfl ?_
 refine TL'.nil (tN ?_)
 refine Qq rfl rfl ?_
 refine Qm ?_ (Vm K h)
 exact tq rfl rfl
 refine sn rfl j (Zs rfl (dk rfl) Uv rfl i26 (by decide) rfl ?_)
 refine sn rfl j (Zn (i := 0) rfl (dk rfl) Us rfl rfl rfl rfl ?_)
 refine sn rfl j (Zw (xs := x0.States) (f := Qb) rfl (dk rfl) Us rfl ?_)
 refine sn rfl j (Zj rfl rfl (dk rfl) rfl rfl ?_)
 refine oZ j rfl ?_
 refine mw rfl ?_
 rcases Qd h with ⟨a, h⟩ | ⟨a, h⟩
 refine pf rfl a ?_
 refine pf rfl a ?_
 refine pf rfl a ?_
 refine pf rfl a ?_
 refine pf rfl a ?_
 refine pf rfl a ?_
 refine pf rfl a ?_
 refine oY a rfl ?_
 refine mw rfl ?_
 refine pf rfl rfl ?_
 refine pf rfl rfl ?_
 refine pf rfl rfl ?_
 refine pf rfl rfl ?_
 refine pf rfl rfl ?_
 refine pf rfl rfl ?_
 refine pf rfl rfl ?_
 refine oY rfl rfl ?_
 refine TL'.nil (tN ?_)
 refine Qq rfl rfl ?_
 refine Qm ?_ (Vm K h)
 exact tq rfl rfl
 refine sn rfl a (Zs rfl (dk rfl) Uv rfl i26 (by decide) rfl ?_)
 refine sn rfl a (Zn (i := 0) rfl (dk rfl) Us rfl rfl rfl rfl ?_)
 obtain ⟨m, q, h⟩ := bind_some h
 refine sn rfl a (Y7 (xs := x0.States) (f := Qb) (v := m) rfl (dk rfl) Us i51 rfl rfl q ?_)
 refine sn rfl a (Ur rfl (dk rfl) Wi rfl i38 (by decide) rfl ?_)
 refine sn rfl a (Vi rfl (dk rfl) Zx rfl rfl rfl ?_)
 refine sn rfl a (Zw (xs := m.L) (f := (cI .i64)) rfl (dk rfl) Zx rfl ?_)
 refine sn rfl a (Zj rfl rfl (dk rfl) rfl rfl ?_)
 refine oZ a rfl ?_
 refine mw rfl ?_
 rcases Qd h with ⟨b, h⟩ | ⟨b, h⟩
 refine pf rfl b ?_
 refine pf rfl b ?_
 refine pf rfl b ?_
 refine pf rfl b ?_
 refine pf rfl b ?_
 refine pf rfl b ?_
 refine pf rfl b ?_
 refine oY b rfl ?_
 refine TL'.nil (tN ?_)
 refine Qq rfl rfl ?_
 refine Qm ?_ (Vm K h)
 exact tq rfl rfl
 refine sn rfl b (Zs rfl (dk rfl) Uv rfl i26 (by decide) rfl ?_)
 refine sn rfl b (Zn (i := 0) rfl (dk rfl) Us rfl rfl rfl rfl ?_)
 refine sn rfl b (Y7 (xs := x0.States) (f := Qb) (v := m) rfl (dk rfl) Us i51 rfl rfl q ?_)
 refine sn rfl b (Ur rfl (dk rfl) Wi rfl i38 (by decide) rfl ?_)
 refine sn rfl b (Vi rfl (dk rfl) Zx rfl rfl rfl ?_)
 refine sn rfl b (Zw (xs := m.R) (f := (cI .i64)) rfl (dk rfl) Zx rfl ?_)
 refine sn rfl b (Zj rfl rfl (dk rfl) rfl rfl ?_)
 refine oZ b rfl ?_
 refine TL'.nil (tN ?_)
 rcases Qd h with ⟨p, h⟩ | ⟨p, h⟩
 refine Qq rfl p ?_
 refine Qm ?_ (Vm K h)
 exact tq rfl rfl
 refine Qp rfl p ?_
 refine T.skip (tN ?_)
 refine T.seq ?_
 refine T.seq (Qr ?_)
 refine aw rfl ?_
 refine TL'.nil (tN ?_)
 refine T.block ?_
 refine T.loop ?_
 refine Qh ?_ (Qav K K (0:Int) x0 s h)
 exact tq rfl rfl
end Go.Rv

/- Each function computes what its plain text says: printed by a program of ours. -/
import Derived.Test.YtcmfaclkgdmpbaaGreatDoorRgW3
namespace Go.Rv
open Go.Proofs
set_option maxRecDepth 100000
set_option maxHeartbeats 4000000
set_option linter.unusedVariables false
abbrev Pl (r : Bool) : ES := Jm tp ff43 (fun y t => y = (.bool r) ∧ t = [])
abbrev Qbn (r : Bool) : ES := fT 96 [1,1,1] ff43 (Pl r)
abbrev Qah (r : Bool) : ES := fT 96 [1,1,1,1] ff43 (Pl r)
abbrev Bn (r : Bool) : ES := Qv 0 ((Qah r))
abbrev Rr (r : Bool) : ES := fL 96 [1,1,1,0,1,0,0] ff43 (Bn r)
abbrev Nb (r : Bool) : ES := fT 96 [1,1,1,0,1,0,0,1,1] ff43 (Rr r)
abbrev Hm (r : Bool) : ES := Qv 1 ((Nb r))
abbrev Fk (r : Bool) : ES := fT 96 [1,1,1,0,1,0,0,1,0,0,1] ff43 (Hm r)
abbrev Cz (r : Bool) : ES := Qv 2 ((Hm r))
theorem Jb {r : Bool} (K : Nat) (h : Z4 K = some r) : T tp 96 (ca [1,1,0,1,0] ff43) ⟨[], []⟩ (Qbn r) := by
 unfold Z4 at h
 refine sR (Qr (aw rfl (nL (tN (T.ret (Qs (fd rfl (by cases h; exact ⟨rfl, rfl⟩))))))))
theorem Ky {r : Bool} (K : Nat) (h : Xp K = some r) : T tp 96 (ca [1,1,1,0,1,0,0,1,0,0,0,1,0] ff43) ⟨[], []⟩ (Fk r) := by
 unfold Xp at h
 refine sR (Qr (aw rfl (nL (tN (T.ret (Qs (Qy (Qs (Qs (Qy (Qs (fd rfl (by cases h; exact ⟨rfl, rfl⟩)))))))))))))
abbrev Fa (r : Bool) (go : Int → Int → Qc → Qa → Option Bool) : Prop := ∀ (a b : Int) (x0 : Qc) (x1 : Qa) (c f : Nat), go a b x0 x1 = some r → TL tp 96 (ca [1,1,1,0,1,0,0] ff43) ⟨[(2, .ptr c 0), (3, .ptr f 0), (5, .int .i64 a), (6, .int .i64 b)], [(Li c x0.Split.Of x0.Split.Many x0.Counts x0.States), (W0 f x1.L x1.R x1.Rule x1.Next)]⟩ (Bn r)
theorem Qdb {r : Bool} (K : Nat) (go1 : Int → Int → Qc → Qa → Option Bool) (hgo1 : Fa r go1) : ∀ (k : Nat), ∀ (p j q : Int) (x1 : Qa) (s w y : Int) (aa : Bool) (ab : Int) (ac ad : List Qd) (af : Int) (x0 : Qc) (ag : Bool) (b a : Nat), Vn K go1 k p j q x1 s w y aa ab ac ad af x0 ag = some r → TL tp 96 (ca [1,1,1,0,1,0,0,1,0,0,1,1,0,0] ff43) ⟨[(2, .ptr b 0), (3, .ptr a 0), (5, .int .i64 p), (6, .int .i64 j), (7, .int .i64 q), (55, .ptr a (0 + 2)), (56, .sl false 1 (mI x1.Rule)), (57, .int .i64 s), (58, .ref [.int .i64 w]), (59, .int .i64 y), (60, .bool aa), (63, .ptr a (0 + 3)), (64, .sl false 1 (x1.Next.map (cL 2 Qh))), (65, .int .i64 ab), (66, .ref [.sl false 2 (ac.map Qh)]), (67, .sl false 2 (ad.map Qh)), (68, .int .i64 af), (69, .ptr b (0 + 0)), (70, .ptr b (0 + 0 + 256)), (71, .int .i64 x0.Split.Many), (72, .bool ag)], [(Li b x0.Split.Of x0.Split.Many x0.Counts x0.States), (W0 a x1.L x1.R x1.Rule x1.Next)]⟩ (Cz r) := by
 intro k
 induction k with
 | zero =>
  intro p j q x1 s w y aa ab ac ad af x0 ag b a h
  exact zn h
 | succ k ih =>
  intro p j q x1 s w y aa ab ac ad af x0 ag b a h
  rw [Vn] at h
  refine Q0 (T.seq (sR (Qr (mw rfl (oP V1 i49 rfl (oL 1 Lk rfl (mw rfl ?_)))))))
  obtain ⟨m, am, h⟩ := bind_some h
  refine oX x1.Next (cL 2 Qh) Lk i55 am rfl (oR Ma rfl (oU m Qh Ma rfl (oI rfl (nL (tN ?_)))))
  rcases Qg h with ⟨aj, h⟩ | ⟨aj, h⟩
  refine Qp rfl aj (T.skip (tN (T.seq (T.block (T.seq (Zy (dW 0 ((Q5.dc 256 .u8 x0.Split.Of) ++ (([.int .i64 x0.Split.Many, .sl false 2 (mA x0.Counts), .sl false 4 (x0.States.map Qb)] : List DC))) rfl (.f rfl) Xz i28 rfl ?_)))))))
  refine dW 1 [.sl false 1 (mI x1.L), .sl false 1 (mI x1.R), .sl false 1 (mI x1.Rule), .sl false 1 (x1.Next.map (cL 2 Qh))] rfl (.f rfl) V1 i51 rfl (dP rfl (.f rfl) V1 i49 rfl (dL 1 rfl (.f rfl) Lk rfl (dV rfl rfl (dX x1.Next (cL 2 Qh) rfl (.f rfl) Lk i55 am rfl (dR rfl (.f rfl) Ma rfl (dV rfl rfl ?_))))))
  obtain ⟨g, an, h⟩ := bind_some h
  refine dX m Qh rfl (.f rfl) Ma i54 an rfl (dJ rfl (.f rfl) Lj i54 rfl ?_)
  obtain ⟨ai, ap, h⟩ := bind_some h
  refine dH fu76 (Zh.nil (Qim K ap)) rfl (.f rfl) rfl (dT rfl (.f rfl) rfl (dF [0,0,0,4,0,28,60,0,252,508,1023,2047] Qx rfl (by kernel_rfl) (fun u hu => (tN (Ql hu ?_)))))
  rcases Qg h with ⟨al, h⟩ | ⟨al, h⟩
  refine Qp rfl al (sR (Qr (aw rfl (nL (tN (T.ret (Qy (Qs (Qs (Qy (Qy (Qs (Qs (Qy (Qs (fd rfl (by cases h; exact ⟨rfl, rfl⟩)))))))))))))))))
  refine Qo rfl al (T.skip (Qk (tN (Qr (mw rfl (oI rfl (aw rfl (nL (tN ?_)))))))))
  refine Qf ?_ (ih p j (wI (q + (1:Int))) x1 s w y aa ab ac ad af x0 ag b a h)
  exact tq rfl rfl
  refine Qo rfl aj (T.exit (Qj (Qj (Qq (Qk (tN (Qr (mw rfl (oI rfl (aw rfl (nL (tN ?_))))))))))))
  refine Qf ?_ (hgo1 p (wI (j + (1:Int))) x0 x1 b a h)
  exact tq rfl rfl
theorem Qdc {r : Bool} (K : Nat) : ∀ (k : Nat), Fa r (Yp K k) := by
 intro k
 induction k with
 | zero =>
  intro q l x0 x1 m b h
  exact zn h
 | succ k ih =>
  intro q l x0 x1 m b h
  rw [Yp] at h
  refine Q0 (T.seq (sR (Qr (mw rfl (mw rfl (oI rfl (nL (tN ?_))))))))
  rcases Qg h with ⟨s, h⟩ | ⟨s, h⟩
  refine Qp rfl s (T.skip (tN (T.seq (T.block (T.seq (T.seq (Zy ?_)))))))
  refine dP rfl (.f rfl) V1 i38 rfl (dL 1 rfl (.f rfl) Zi rfl (dV rfl rfl ?_))
  obtain ⟨a, y, h⟩ := bind_some h
  refine dX x1.Rule (cI .i64) rfl (.f rfl) Zi i3 y rfl (dR rfl (.f rfl) ul3 rfl (dI rfl (.f rfl) rfl (dV rfl rfl ?_)))
  rcases Qg h with ⟨p, h⟩ | ⟨p, h⟩
  refine dO p rfl rfl (dO p rfl rfl (dO p rfl rfl (dO p rfl rfl (dO p rfl rfl (dO p rfl rfl (dY rfl (.f rfl) p rfl ?_))))))
  refine dV rfl rfl (dO rfl rfl rfl (dO rfl rfl rfl (dO rfl rfl rfl (dO rfl rfl rfl (dO rfl rfl rfl (dO rfl rfl rfl ?_))))))
  refine dO rfl rfl rfl (dO rfl rfl rfl (dO rfl rfl rfl (dO rfl rfl rfl (dY rfl (.f rfl) rfl rfl (dF [0,1,0,7,15,31,63,127,255,127,1023,2047,4095,8191,16383,32767,65535,32767,262143,524287,1048575,32767,2129919,6324223,16777215,33554431] Qx rfl (by kernel_rfl) (fun u hu => (tN (Ql hu (Qp rfl rfl ?_)))))))))
  refine Ql ?_ (Ky K h)
  exact tq rfl rfl
  refine dP rfl (.n p rfl) V1 i38 rfl (dL 1 rfl (.n p rfl) Zi rfl (dM rfl (.n p rfl) rfl (dX x1.Rule (cI .i64) rfl (.n p rfl) Zi i3 y rfl (dR rfl (.n p rfl) ul3 rfl (dI rfl (.n p rfl) rfl (dZ rfl (.f rfl) p rfl ?_))))))
  refine dV rfl rfl ?_
  rcases Qg h with ⟨g, h⟩ | ⟨g, h⟩
  refine dO g rfl rfl (dO g rfl rfl (dO g rfl rfl (dO g rfl rfl (dO g rfl rfl (dO g rfl rfl (dO g rfl rfl ?_))))))
  refine dO g rfl rfl (dO g rfl rfl (dO g rfl rfl (dY rfl (.f rfl) g rfl (dF [0,1,0,7,15,31,63,127,255,127,1023,2047,4095,8191,16383,32767,65535,32767,262143,524287,1048575,32767,2129919,6324223,16777215,33554431] Qx rfl (by kernel_rfl) (fun u hu => (tN (Ql hu (Qp rfl rfl ?_))))))))
  refine Ql ?_ (Ky K h)
  exact tq rfl rfl
  refine dP rfl (.n g rfl) V1 i49 rfl (dL 1 rfl (.n g rfl) Lk rfl (dM rfl (.n g rfl) rfl ?_))
  obtain ⟨j, aa, h⟩ := bind_some h
  refine dX x1.Next (cL 2 Qh) rfl (.n g rfl) Lk i55 aa rfl (dR rfl (.n g rfl) Ma rfl (dN j Qh rfl (.n g rfl) Ma rfl (dP rfl (.n g rfl) Xz i24 rfl (dP rfl (.n g rfl) Qj2 i3 rfl (dL 0 rfl (.n g rfl) ul3 rfl (dI rfl (.n g rfl) rfl ?_))))))
  refine dZ rfl (.f rfl) g rfl (dF [0,1,0,7,15,31,63,127,255,127,1023,2047,4095,8191,16383,32767,65535,32767,262143,524287,1048575,32767,2129919,6324223,16777215,33554431] Qx rfl (by kernel_rfl) (fun u hu => (tN (Ql hu ?_))))
  rcases Qg h with ⟨w, h⟩ | ⟨w, h⟩
  refine Qp rfl w ?_
  refine Ql ?_ (Ky K h)
  exact tq rfl rfl
  refine Qo rfl w (T.skip (tN (sR (Qr (aw rfl (nL (tN (T.block (T.loop ?_)))))))))
  refine Qf ?_ (Qdb K (Yp K k) ih K q l (0:Int) x1 l a a (decide (a ≥ (512:Int))) l j j (j.length : Int) x0 ((j.length : Int) != x0.Split.Many) m b h)
  exact tq rfl rfl
  refine Qo rfl s (T.exit (Qj (Qj (Qq (tN (sR (Qr (aw rfl (nL (tN (T.ret (fd rfl (by cases h; exact ⟨rfl, rfl⟩)))))))))))))
theorem Qg2 (K : Nat) {x0 : Qc} {x1 : Qa} {r : Bool} (h : Gv K x0 x1 = some r) : Zh tp 43 [.agg ((Q5.dc 256 .u8 x0.Split.Of) ++ (([.int .i64 x0.Split.Many, .sl false 2 (mA x0.Counts), .sl false 4 (x0.States.map Qb)] : List DC))), .agg [.sl false 1 (mI x1.L), .sl false 1 (mI x1.R), .sl false 1 (mI x1.Rule), .sl false 1 (x1.Next.map (cL 2 Qh))]] [] (.bool r) := by
 refine CI 96 fu43 rfl ?_
 unfold Gv at h
 refine sR (Qr (sp rfl (Q8 rfl (dk rfl) rfl (fun l => (sp rfl (Q8 rfl (dk rfl) rfl (fun m => (aw rfl (nL (tN (sR (Qr (oP V1 i38 rfl (oL 0 Zi rfl ?_))))))))))))))
 refine oU x1.R (cI .i64) Zi rfl ?_
 obtain ⟨p, q, h⟩ := bind_some h
 refine oH fu46 (Zh.nil (Px K q)) rfl (aw rfl (nL (tN (T.seq (sR (Qr (mw rfl (oI rfl ?_))))))))
 refine mw rfl ?_
 rcases Qg h with ⟨g, h⟩ | ⟨g, h⟩
 refine pf rfl g (pf rfl g (pf rfl g (pf rfl g (oY g rfl (mw rfl (pf rfl rfl ?_))))))
 refine pf rfl rfl (pf rfl rfl (pf rfl rfl (pf rfl rfl (pf rfl rfl (pf rfl rfl (oY rfl rfl ?_))))))
 refine mw rfl (pf rfl rfl (pf rfl rfl (pf rfl rfl (pf rfl rfl (pf rfl rfl (oY rfl rfl ?_))))))
 refine mw rfl (pf rfl rfl (pf rfl rfl (pf rfl rfl (pf rfl rfl (pf rfl rfl (oY rfl rfl ?_))))))
 refine nL (tN (Qp rfl rfl ?_))
 refine Ql ?_ (Jb K h)
 exact tq rfl rfl
 refine sn rfl g (Y1 rfl (dk rfl) V1 rfl i38 (by decide) rfl (sn rfl g (Zx (i := 0) rfl (dk rfl) Zi rfl rfl rfl rfl ?_)))
 obtain ⟨w, u, h⟩ := bind_some h
 refine sn rfl g (Vt rfl (dk rfl) fu75 rfl rfl (Zm.cons rfl (Zm.cons rfl Zm.nil)) (Zh.nil (Po K (flx0 := false) u)) (sn rfl g (OpT.not rfl (dk rfl) rfl (oZ g rfl (mw rfl ?_)))))
 rcases Qg h with ⟨a, h⟩ | ⟨a, h⟩
 refine pf rfl a (pf rfl a (pf rfl a (pf rfl a (pf rfl a (pf rfl a (pf rfl a ?_))))))
 refine oY a rfl (mw rfl (pf rfl rfl (pf rfl rfl (pf rfl rfl (pf rfl rfl (pf rfl rfl ?_))))))
 refine oY rfl rfl (mw rfl (pf rfl rfl (pf rfl rfl (pf rfl rfl (pf rfl rfl (pf rfl rfl ?_))))))
 refine oY rfl rfl (nL (tN (Qp rfl rfl ?_)))
 refine Ql ?_ (Jb K h)
 exact tq rfl rfl
 refine sn rfl a (Y1 rfl (dk rfl) V1 rfl i38 (by decide) rfl (sn rfl a (Zx (i := 0) rfl (dk rfl) Zi rfl rfl rfl rfl (sn rfl a (Y1 rfl (dk rfl) Xz rfl i25 (by decide) rfl (sn rfl a (Zx (i := 1) rfl (dk rfl) Qcs rfl rfl rfl rfl (sn rfl a (Z9 (xs := x0.Counts) (f := (Ye.dc .i64)) rfl (dk rfl) Qcs rfl ?_)))))))))
 obtain ⟨y, v, h⟩ := bind_some h
 refine sn rfl a (Vt rfl (dk rfl) fu75 rfl rfl (Zm.cons rfl (Zm.cons rfl Zm.nil)) (Zh.nil (Po K (flx0 := false) v)) (sn rfl a (OpT.not rfl (dk rfl) rfl (oZ a rfl (mw rfl ?_)))))
 rcases Qg h with ⟨b, h⟩ | ⟨b, h⟩
 refine pf rfl b (pf rfl b (pf rfl b (pf rfl b (pf rfl b (oY b rfl (mw rfl ?_))))))
 refine pf rfl rfl (pf rfl rfl (pf rfl rfl (pf rfl rfl (pf rfl rfl (oY rfl rfl (nL (tN ?_)))))))
 refine Qp rfl rfl ?_
 refine Ql ?_ (Jb K h)
 exact tq rfl rfl
 refine sn rfl b (Y1 rfl (dk rfl) V1 rfl i38 (by decide) rfl (sn rfl b (Zx (i := 0) rfl (dk rfl) Zi rfl rfl rfl rfl (sn rfl b (Z9 (xs := x1.Rule) (f := (cI .i64)) rfl (dk rfl) Zi rfl (sn rfl b (OpT.move rfl (dk rfl) rfl (sn rfl b (Zs rfl rfl (dk rfl) rfl rfl (oZ b rfl (mw rfl ?_)))))))))))
 rcases Qg h with ⟨d, h⟩ | ⟨d, h⟩
 refine pf rfl d (pf rfl d (pf rfl d (pf rfl d (pf rfl d (oY d rfl (nL (tN ?_)))))))
 refine Qp rfl rfl ?_
 refine Ql ?_ (Jb K h)
 exact tq rfl rfl
 refine sn rfl d (Y1 rfl (dk rfl) V1 rfl i49 (by decide) rfl (sn rfl d (Zx (i := 0) rfl (dk rfl) Lk rfl rfl rfl rfl (sn rfl d (Z9 (xs := x1.Next) (f := (cL 2 Qh)) rfl (dk rfl) Lk rfl (sn rfl d (OpT.move rfl (dk rfl) rfl (sn rfl d (Zs rfl rfl (dk rfl) rfl rfl (oZ d rfl (nL (tN ?_))))))))))))
 rcases Qg h with ⟨j, h⟩ | ⟨j, h⟩
 refine Qp rfl j ?_
 refine Ql ?_ (Jb K h)
 exact tq rfl rfl
 refine Qo rfl j (T.skip (tN (T.seq (sR (Qr (aw rfl (nL (tN (T.block ?_)))))))))
 refine T.loop ?_
 refine Qf ?_ (Qdc K K p (0:Int) x0 x1 l m h)
 exact tr rfl (.c (.s .z) (.c .z (.n _)))
abbrev C1 (r : Bool) : ES := Jm tp ff19 (fun y t => y = (.bool r) ∧ t = [])
abbrev Qdj (r : Bool) : ES := fT 93 [1,1] ff19 (C1 r)
abbrev Qbq (r : Bool) : ES := fT 93 [1,1,1] ff19 (C1 r)
abbrev Ci (r : Bool) : ES := Qv 0 ((Qbq r))
abbrev S4 (r : Bool) : ES := fL 93 [1,1,0,1,0,0] ff19 (Ci r)
abbrev Oj (r : Bool) : ES := fT 93 [1,1,0,1,0,0,1,1] ff19 (S4 r)
abbrev Et (r : Bool) : ES := Qv 1 ((Oj r))
abbrev Qam (r : Bool) : ES := fT 93 [1,1,1,1] ff19 (C1 r)
abbrev R1 (r : Bool) : ES := Qv 2 ((Qam r))
theorem Vs {r : Bool} (K : Nat) (h : Zw K = some r) : T tp 93 (ca [1,0,1,0] ff19) ⟨[], []⟩ (Qdj r) := by
 unfold Zw at h
 refine sR (Qr (aw rfl (nL (tN (T.ret (Qs (fd rfl (by cases h; exact ⟨rfl, rfl⟩))))))))
theorem W4 {r : Bool} (K : Nat) (h : Vp K = some r) : T tp 93 (ca [1,1,0,1,0,0,1,0,0,1,1,0] ff19) ⟨[], []⟩ (Et r) := by
 unfold Vp at h
 refine sR (Qr (aw rfl (nL (tN (T.ret (Qy (Qs (Qs (Qy (Qs (fd rfl (by cases h; exact ⟨rfl, rfl⟩))))))))))))
theorem Qdk {r : Bool} (K : Nat) : ∀ (k : Nat), ∀ (g : Int) (x0 : Qc) (b : Nat), Vo K k g x0 = some r → TL tp 93 (ca [1,1,1,0,1,0,0] ff19) ⟨[(1, .ptr b 0), (5, .int .i64 g)], [(Li b x0.Split.Of x0.Split.Many x0.Counts x0.States)]⟩ (R1 r) := by
 intro k
 induction k with
 | zero =>
  intro g x0 b h
  exact zn h
 | succ k ih =>
  intro g x0 b h
  rw [Vo] at h
  refine Q0 (T.seq (sR (Qr (mw rfl (oP Xz i26 rfl (oL 0 Vj rfl (oU x0.States Qb Vj rfl ?_)))))))
  refine oI rfl (nL (tN ?_))
  rcases Qg h with ⟨m, h⟩ | ⟨m, h⟩
  refine Qp rfl m (T.skip (tN (T.seq (T.block (T.seq (Zy (dW 0 ((Q5.dc 256 .u8 x0.Split.Of) ++ (([.int .i64 x0.Split.Many, .sl false 2 (mA x0.Counts), .sl false 4 (x0.States.map Qb)] : List DC))) rfl (.f rfl) Xz i28 rfl ?_)))))))
  refine dP rfl (.f rfl) Xz i26 rfl (dL 0 rfl (.f rfl) Vj rfl (dV rfl rfl ?_))
  obtain ⟨a, q, h⟩ := bind_some h
  refine dX x0.States Qb rfl (.f rfl) Vj i51 q rfl (dJ rfl (.f rfl) V1 i51 rfl ?_)
  obtain ⟨j, s, h⟩ := bind_some h
  refine dH fu43 (Zh.nil (Qg2 K s)) rfl (.f rfl) rfl (dT rfl (.f rfl) rfl (dF [0,0,2,0,14,30,63,127] Qx rfl (by kernel_rfl) (fun u hu => (tN (Ql hu ?_)))))
  rcases Qg h with ⟨p, h⟩ | ⟨p, h⟩
  refine Qp rfl p (sR (Qr (aw rfl (nL (tN (T.ret (Qy (Qs (Qs (Qy (Qs (fd rfl (by cases h; exact ⟨rfl, rfl⟩)))))))))))))
  refine Qo rfl p (T.skip (Qk (tN (Qr (mw rfl (oI rfl (aw rfl (nL (tN ?_)))))))))
  refine Qf ?_ (ih (wI (g + (1:Int))) x0 b h)
  exact tq rfl rfl
  refine Qo rfl m (T.exit (Qj (Qj (Qq (tN (sR (Qr (aw rfl (nL (tN (T.ret (fd rfl (by cases h; exact ⟨rfl, rfl⟩)))))))))))))
theorem Qdl {r : Bool} (K : Nat) : ∀ (k : Nat), ∀ (p : Int) (x0 : Qc) (m : Nat), Xr K k p x0 = some r → TL tp 93 (ca [1,1,0,1,0,0] ff19) ⟨[(1, .ptr m 0), (3, .int .i64 p)], [(Li m x0.Split.Of x0.Split.Many x0.Counts x0.States)]⟩ (Ci r) := by
 intro k
 induction k with
 | zero =>
  intro p x0 m h
  exact zn h
 | succ k ih =>
  intro p x0 m h
  rw [Xr] at h
  refine Q0 (T.seq (sR (Qr (mw rfl (oP Xz i25 rfl (oL 0 Qcs rfl (oU x0.Counts (Ye.dc .i64) Qcs rfl ?_)))))))
  refine oI rfl (nL (tN ?_))
  rcases Qg h with ⟨q, h⟩ | ⟨q, h⟩
  refine Qp rfl q (T.skip (tN (T.seq (T.block (sR (Qr (oP Xz i25 rfl (oL 0 Qcs rfl ?_))))))))
  refine mw rfl ?_
  obtain ⟨l, w, h⟩ := bind_some h
  refine oX x0.Counts (Ye.dc .i64) Qcs i59 w rfl (oJ ul59 i59 rfl (sp rfl (Za rfl (dk rfl) i59 rfl (fun y => (sp rfl (Qt (i := 0) (cells' := (Ye.oc .i64 l)) rfl rfl i59 rfl rfl rfl rfl (nb rfl) rfl (nL (tN (sR (Qr (sp rfl (Xj rfl (dk rfl) ul59 i3 rfl rfl (by decide) (by decide) (sp rfl (Zx (i := 0) rfl (dk rfl) ul3 rfl rfl rfl (H3 (k := .i64) (a := l) (pre := []) (post := []) (by decide) (by decide)) ?_))))))))))))))
  refine oI rfl (mw rfl ?_)
  rcases Qg h with ⟨b, h⟩ | ⟨b, h⟩
  refine pf rfl b (pf rfl b (pf rfl b (pf rfl b (pf rfl b (oY b rfl (mw rfl ?_))))))
  refine pf rfl rfl (pf rfl rfl (pf rfl rfl (oY rfl rfl (mw rfl (pf rfl rfl (pf rfl rfl ?_))))))
  refine pf rfl rfl (oY rfl rfl (nL (tN (Qp rfl rfl ?_))))
  refine Ql ?_ (W4 K h)
  exact tq rfl rfl
  refine sn rfl b (Xj rfl (dk rfl) ul59 i3 rfl rfl (by decide) (by decide) (sn rfl b (Zx (i := 0) rfl (dk rfl) ul3 rfl rfl rfl (H3 (k := .i64) (a := l) (pre := []) (post := []) (by decide) (by decide)) (sn rfl b (Xj rfl (dk rfl) ul59 i3 rfl rfl (by decide) (by decide) (sn rfl b (Zx (i := 0) rfl (dk rfl) ul3 rfl rfl rfl (H3 (k := .i64) (a := l) (pre := []) (post := []) (by decide) (by decide)) (sn rfl b (Zs rfl rfl (dk rfl) rfl rfl (oZ b rfl (mw rfl ?_)))))))))))
  rcases Qg h with ⟨g, h⟩ | ⟨g, h⟩
  refine pf rfl g (pf rfl g (pf rfl g (oY g rfl (mw rfl (pf rfl rfl (pf rfl rfl ?_))))))
  refine pf rfl rfl (oY rfl rfl (nL (tN (Qp rfl rfl ?_))))
  refine Ql ?_ (W4 K h)
  exact tq rfl rfl
  refine sn rfl g (Xj rfl (dk rfl) ul59 i3 rfl rfl (by decide) (by decide) (sn rfl g (Zx (i := 0) rfl (dk rfl) ul3 rfl rfl rfl (H3 (k := .i64) (a := l) (pre := []) (post := []) (by decide) (by decide)) (sn rfl g (Zs rfl rfl (dk rfl) rfl rfl (oZ g rfl (mw rfl ?_)))))))
  rcases Qg h with ⟨j, h⟩ | ⟨j, h⟩
  refine pf rfl j (pf rfl j (pf rfl j (oY j rfl (nL (tN (Qp rfl rfl ?_))))))
  refine Ql ?_ (W4 K h)
  exact tq rfl rfl
  refine sn rfl j (Xj rfl (dk rfl) ul59 i3 rfl rfl (by decide) (by decide) (sn rfl j (Zx (i := 0) rfl (dk rfl) ul3 rfl rfl rfl (H3 (k := .i64) (a := l) (pre := []) (post := []) (by decide) (by decide)) (sn rfl j (Zs rfl rfl (dk rfl) rfl rfl (oZ j rfl (nL (tN ?_))))))))
  rcases Qg h with ⟨u, h⟩ | ⟨u, h⟩
  refine Qp rfl u ?_
  refine Ql ?_ (W4 K h)
  exact tq rfl rfl
  refine Qo rfl u (T.skip (Qk (tN (Qr (mw rfl (oI rfl (aw rfl (nL (tN ?_)))))))))
  refine Qf ?_ (ih (wI (p + (1:Int))) x0 m h)
  exact tr rfl (.c (.s .z) (.n _))
  refine Qo rfl q (T.exit (Qj (Qj (Qq (tN (T.seq (sR (Qr (aw rfl (nL (tN (T.block ?_))))))))))))
  refine T.loop ?_
  refine Qf ?_ (Qdk K K (0:Int) x0 m h)
  exact tq rfl rfl
theorem C2 (K : Nat) {x0 : Qc} {r : Bool} (h : Yj K x0 = some r) : Zh tp 19 [.agg ((Q5.dc 256 .u8 x0.Split.Of) ++ (([.int .i64 x0.Split.Many, .sl false 2 (mA x0.Counts), .sl false 4 (x0.States.map Qb)] : List DC)))] [] (.bool r) := by
 refine CI 93 fu19 rfl ?_
 unfold Yj at h
 refine sR (Qr (sp rfl (Q8 rfl (dk rfl) rfl (fun s => (aw rfl (nL (tN (T.seq (sR (Qr (oP Xz i24 rfl ?_)))))))))))
 refine oA 0 ((Q5.dc 256 .u8 x0.Split.Of) ++ (([.int .i64 x0.Split.Many] : List DC))) Qj2 i24 rfl ?_
 obtain ⟨w, u, h⟩ := bind_some h
 refine oH fu42 (Zh.nil (Qhr K u)) rfl (oT rfl (mw rfl ?_))
 rcases Qg h with ⟨d, h⟩ | ⟨d, h⟩
 refine pf rfl d (pf rfl d (pf rfl d (pf rfl d (oY d rfl (mw rfl (pf rfl rfl ?_))))))
 refine pf rfl rfl (pf rfl rfl (pf rfl rfl (oY rfl rfl (mw rfl (pf rfl rfl (pf rfl rfl ?_))))))
 refine pf rfl rfl (pf rfl rfl (oY rfl rfl (mw rfl (pf rfl rfl (pf rfl rfl (pf rfl rfl ?_))))))
 refine pf rfl rfl (pf rfl rfl (pf rfl rfl (pf rfl rfl (oY rfl rfl (mw rfl (pf rfl rfl ?_))))))
 refine pf rfl rfl (pf rfl rfl (pf rfl rfl (pf rfl rfl (pf rfl rfl (pf rfl rfl (oY rfl rfl ?_))))))
 refine nL (tN (Qp rfl rfl ?_))
 refine Ql ?_ (Vs K h)
 exact tq rfl rfl
 refine sn rfl d (Y1 rfl (dk rfl) Xz rfl i25 (by decide) rfl (sn rfl d (Zx (i := 0) rfl (dk rfl) Qcs rfl rfl rfl rfl (sn rfl d (Z9 (xs := x0.Counts) (f := (Ye.dc .i64)) rfl (dk rfl) Qcs rfl (sn rfl d (Zs rfl rfl (dk rfl) rfl rfl (oZ d rfl (mw rfl ?_)))))))))
 rcases Qg h with ⟨g, h⟩ | ⟨g, h⟩
 refine pf rfl g (pf rfl g (pf rfl g (pf rfl g (oY g rfl (mw rfl (pf rfl rfl ?_))))))
 refine pf rfl rfl (pf rfl rfl (pf rfl rfl (oY rfl rfl (mw rfl (pf rfl rfl (pf rfl rfl ?_))))))
 refine pf rfl rfl (pf rfl rfl (pf rfl rfl (pf rfl rfl (pf rfl rfl (oY rfl rfl (mw rfl ?_))))))
 refine pf rfl rfl (pf rfl rfl (pf rfl rfl (pf rfl rfl (pf rfl rfl (pf rfl rfl (pf rfl rfl ?_))))))
 refine oY rfl rfl (nL (tN (Qp rfl rfl ?_)))
 refine Ql ?_ (Vs K h)
 exact tq rfl rfl
 refine sn rfl g (Y1 rfl (dk rfl) Xz rfl i26 (by decide) rfl (sn rfl g (Zx (i := 0) rfl (dk rfl) Vj rfl rfl rfl rfl (sn rfl g (Z9 (xs := x0.States) (f := Qb) rfl (dk rfl) Vj rfl (sn rfl g (Zs rfl rfl (dk rfl) rfl rfl (oZ g rfl (mw rfl ?_)))))))))
 rcases Qg h with ⟨j, h⟩ | ⟨j, h⟩
 refine pf rfl j (pf rfl j (pf rfl j (pf rfl j (oY j rfl (mw rfl (pf rfl rfl ?_))))))
 refine pf rfl rfl (pf rfl rfl (pf rfl rfl (pf rfl rfl (pf rfl rfl (pf rfl rfl (oY rfl rfl ?_))))))
 refine mw rfl (pf rfl rfl (pf rfl rfl (pf rfl rfl (pf rfl rfl (pf rfl rfl (pf rfl rfl ?_))))))
 refine pf rfl rfl (oY rfl rfl (nL (tN (Qp rfl rfl ?_))))
 refine Ql ?_ (Vs K h)
 exact tq rfl rfl
 refine sn rfl j (Y1 rfl (dk rfl) Xz rfl i26 (by decide) rfl (sn rfl j (Zx (i := 0) rfl (dk rfl) Vj rfl rfl rfl rfl (sn rfl j (Z9 (xs := x0.States) (f := Qb) rfl (dk rfl) Vj rfl (sn rfl j (Zs rfl rfl (dk rfl) rfl rfl (oZ j rfl (mw rfl ?_)))))))))
 rcases Qg h with ⟨a, h⟩ | ⟨a, h⟩
 refine pf rfl a (pf rfl a (pf rfl a (pf rfl a (pf rfl a (pf rfl a (pf rfl a ?_))))))
 refine oY a rfl (mw rfl (pf rfl rfl (pf rfl rfl (pf rfl rfl (pf rfl rfl (pf rfl rfl ?_))))))
 refine pf rfl rfl (pf rfl rfl (oY rfl rfl (nL (tN (Qp rfl rfl ?_)))))
 refine Ql ?_ (Vs K h)
 exact tq rfl rfl
 refine sn rfl a (Y1 rfl (dk rfl) Xz rfl i26 (by decide) rfl (sn rfl a (Zx (i := 0) rfl (dk rfl) Vj rfl rfl rfl rfl ?_)))
 obtain ⟨m, q, h⟩ := bind_some h
 refine sn rfl a (Hu (xs := x0.States) (f := Qb) (v := m) rfl (dk rfl) Vj i51 rfl rfl q (sn rfl a (Ug rfl (dk rfl) V1 rfl i38 (by decide) rfl (sn rfl a (Kc rfl (dk rfl) Zi rfl rfl rfl (sn rfl a (Z9 (xs := m.L) (f := (cI .i64)) rfl (dk rfl) Zi rfl (sn rfl a (Zs rfl rfl (dk rfl) rfl rfl (oZ a rfl (mw rfl ?_)))))))))))
 rcases Qg h with ⟨b, h⟩ | ⟨b, h⟩
 refine pf rfl b (pf rfl b (pf rfl b (pf rfl b (pf rfl b (pf rfl b (pf rfl b ?_))))))
 refine oY b rfl (nL (tN (Qp rfl rfl ?_)))
 refine Ql ?_ (Vs K h)
 exact tq rfl rfl
 refine sn rfl b (Y1 rfl (dk rfl) Xz rfl i26 (by decide) rfl (sn rfl b (Zx (i := 0) rfl (dk rfl) Vj rfl rfl rfl rfl (sn rfl b (Hu (xs := x0.States) (f := Qb) (v := m) rfl (dk rfl) Vj i51 rfl rfl q (sn rfl b (Ug rfl (dk rfl) V1 rfl i38 (by decide) rfl (sn rfl b (Kc rfl (dk rfl) Zi rfl rfl rfl (sn rfl b (Z9 (xs := m.R) (f := (cI .i64)) rfl (dk rfl) Zi rfl (sn rfl b (Zs rfl rfl (dk rfl) rfl rfl ?_)))))))))))))
 refine oZ b rfl (nL (tN ?_))
 rcases Qg h with ⟨p, h⟩ | ⟨p, h⟩
 refine Qp rfl p ?_
 refine Ql ?_ (Vs K h)
 exact tq rfl rfl
 refine Qo rfl p (T.skip (tN (T.seq (sR (Qr (aw rfl (nL (tN (T.block ?_)))))))))
 refine T.loop ?_
 refine Qf ?_ (Qdl K K (0:Int) x0 s h)
 exact tq rfl rfl
abbrev Qil (r : List Bool) : ES := Jm tp ff13 (fun y t => y = (.sl false 1 (r.map cB)) ∧ t = [])
abbrev Qbk (r : List Bool) : ES := fT 96 [1,1,1,1] ff13 (Qil r)
abbrev Cf (r : List Bool) : ES := Qv 0 ((Qbk r))
abbrev S2 (r : List Bool) : ES := fL 96 [1,1,1,0,1,0,0] ff13 (Cf r)
abbrev Na (r : List Bool) : ES := Qv 1 ((S2 r))
abbrev Gu (r : List Bool) : ES := Qv 2 ((Na r))
abbrev Fj (r : List Bool) : ES := fL 96 [1,1,1,0,1,0,0,1,0,1,1,0,0] ff13 (Gu r)
abbrev Dp (r : List Bool) : ES := fT 96 [1,1,1,0,1,0,0,1,0,1,1,0,0,1,1] ff13 (Fj r)
abbrev Kk (r : List Bool) : ES := Qv 3 ((Dp r))
abbrev Ui (r : List Bool) : ES := Qv 4 ((Kk r))
abbrev J4 (r : List Bool) : ES := fL 96 [1,1,1,0,1,0,0,1,0,1,1,0,0,1,0,0,1,1,0,0] ff13 (Ui r)
abbrev Kx (r : List Bool) : ES := fT 96 [1,1,1,0,1,0,0,1,0,1,1,0,0,1,0,0,1,1,0,0,1,1] ff13 (J4 r)
abbrev Wh (r : List Bool) : ES := Qv 5 ((Kx r))
abbrev Lg (r : List Bool) : ES := fT 96 [1,1,1,0,1,0,0,1,0,1,1,0,0,1,0,0,1,1,0,0,1,0,0,1,1] ff13 (Wh r)
abbrev Jn (r : List Bool) : ES := Qv 6 ((Lg r))
abbrev Me (r : List Bool) : ES := fT 96 [1,1,1,0,1,0,0,1,0,1,1,0,0,1,0,0,1,1,0,0,1] ff13 (J4 r)
abbrev Ik (r : List Bool) (go : Bool → Int → Int → Qc → (List Bool) → (List Int) → (List Int) → (List Int) → (List (List Qd)) → Option (List Bool)) : Prop := ∀ (a : Bool) (b f : Int) (x0 : Qc) (g : List Bool) (i j l : List Int) (m : List (List Qd)) (n : Nat) (p : Value) (q : Nat), go a b f x0 g i j l m = some r → TL tp 96 (ca [1,1,1,0,1,0,0,1,0,1,1,0,0,1,0,0,1,1,0,0] ff13) ⟨[(1, .ptr n 0), (3, .c (.ex p)), (4, .bool a), (5, .int .i64 b), (6, .ptr q 0), (7, .int .i64 f)], [(Li n x0.Split.Of x0.Split.Many x0.Counts x0.States), .arrX p 4 1 0 (g.map cB), (W0 q i j l m)]⟩ (Ui r)
theorem Qes {r : List Bool} (K : Nat) (go2 : Bool → Int → Int → Qc → (List Bool) → (List Int) → (List Int) → (List Int) → (List (List Qd)) → Option (List Bool)) (hgo2 : Ik r go2) : ∀ (k : Nat), ∀ (ad : Bool) (g q : Int) (af ag : Int) (ai aj : Bool) (x0 : Qc) (a : List Bool) (s u w : List Int) (j : List (List Qd)) (y : Nat) (p : Value) (aa : Nat), Xl K go2 k ad g q af ag ai aj x0 a s u w j = some r → TL tp 96 (ca [1,1,1,0,1,0,0,1,0,1,1,0,0,1,0,0,1,1,0,0,1,0,0,1,0,1,0,0] ff13) ⟨[(1, .ptr y 0), (3, .c (.ex p)), (4, .bool ad), (5, .int .i64 g), (6, .ptr aa 0), (7, .int .i64 q), (8, .int .i64 af), (35, .c (.ex p)), (36, .int .i64 ag), (38, .bool ai), (39, .bool aj)], [(Li y x0.Split.Of x0.Split.Many x0.Counts x0.States), .arrX p 4 1 0 (a.map cB), (W0 aa s u w j)]⟩ (Jn r) := by
 intro k
 induction k with
 | zero =>
  intro ad g q af ag ai aj x0 a s u w j y p aa h
  exact zn h
 | succ k ih =>
  intro ad g q af ag ai aj x0 a s u w j y p aa h
  rw [Xl] at h
  refine Q0 (T.seq (sR (Qr (mw rfl (oP V1 i49 rfl (oL 2 Lk rfl (mw rfl ?_)))))))
  obtain ⟨al, aq, h⟩ := bind_some h
  refine oX j (cL 2 Qh) Lk i55 aq rfl (oR Ma rfl (oU al Qh Ma rfl (oI rfl (nL (tN ?_)))))
  rcases Qg h with ⟨an, h⟩ | ⟨an, h⟩
  refine Qp rfl an (T.skip (tN (T.seq (T.block (sR (Qr (oP V1 i49 rfl (oL 2 Lk rfl ?_))))))))
  refine mw rfl (oX j (cL 2 Qh) Lk i55 aq rfl (oR Ma rfl (mw rfl ?_)))
  obtain ⟨ay, az, h⟩ := bind_some h
  refine oX al Qh Ma i54 az rfl (sp rfl (Ug rfl (dk rfl) Lj rfl i3 (by decide) rfl (oR ul3 rfl (aw rfl (nL (tN (Qr ?_)))))))
  iterate 4 refine mw rfl ?_
  obtain ⟨ab, ac, h⟩ := bind_some h
  refine sp rfl (Zc (n := 1) (xs := a) (f := cB) (old := ab) rfl (dk rfl) Qkd i4 rfl rfl rfl ac (sp rfl (X1 (i := 1) (xs := a) (f := cB) (old := ab) rfl (dk rfl) ul4 rfl rfl rfl (Zd ac).2 rfl (mw rfl ?_))))
  rcases Qg h with ⟨b, h⟩ | ⟨b, h⟩
  refine pf rfl b (pf rfl b (pf rfl b (Qgb (.gone _ _ _ rfl rfl rfl) (dk rfl) (Qgb (.gone _ _ _ rfl rfl rfl) (dk rfl) (Qgb (.gone _ _ _ rfl rfl rfl) (dk rfl) (Qgb (.gone _ _ _ rfl rfl rfl) (dk rfl) ?_))))))
  refine pf rfl b (oY b rfl (sp rfl (Zc (n := 1) (xs := a) (f := cB) (old := ab) rfl (dk rfl) Qkd i4 rfl rfl rfl ac (sp rfl (Yr (i := 1) (xs := a) (f := cB) (old := ab) (new := true) rfl rfl i4 rfl rfl rfl (Zd ac).2 (Qmm _) (nb rfl) rfl (nL (Qk (tN (Qr (mw rfl ?_))))))))))
  refine oI rfl (aw rfl (nL (tN ?_)))
  refine Qf ?_ (ih ad g q (wI (af + (1:Int))) ag ai aj x0 (List.set a (Int.toNat g) true) s u w j y p aa h)
  exact tq rfl rfl
  refine sn rfl b (OpT.move rfl (dk rfl) rfl (sn rfl b (Zs rfl rfl (dk rfl) rfl rfl (sn rfl b (OpT.move rfl (dk rfl) rfl ?_)))))
  rcases Qg h with ⟨l, h⟩ | ⟨l, h⟩
  refine sn rfl l (OpT.move rfl (dk rfl) rfl (sn rfl l (OpT.move rfl (dk rfl) rfl ?_)))
  obtain ⟨am, au, h⟩ := bind_some h
  refine sn rfl l (Zc (n := 1) (xs := a) (f := cB) (old := am) rfl (dk rfl) Qkd i4 rfl rfl rfl au (sn rfl l (X1 (i := 1) (xs := a) (f := cB) (old := am) rfl (dk rfl) ul4 rfl rfl rfl (Zd au).2 rfl (sn rfl b (Qja rfl (dk rfl) rfl l rfl (oZ b rfl (sp rfl (Zc (n := 1) (xs := a) (f := cB) (old := ab) rfl (dk rfl) Qkd i4 rfl rfl rfl ac (sp rfl (Yr (i := 1) (xs := a) (f := cB) (old := ab) (new := am) rfl rfl i4 rfl rfl rfl (Zd ac).2 (Qmm _) (nb rfl) rfl (nL (Qk (tN ?_)))))))))))))
  refine Qr (mw rfl (oI rfl (aw rfl (nL (tN ?_)))))
  refine Qf ?_ (ih ad g q (wI (af + (1:Int))) ag ai aj x0 (List.set a (Int.toNat g) am) s u w j y p aa h)
  exact tq rfl rfl
  refine pf rfl l (pf rfl l (pf rfl l (pf rfl l (sn rfl b (Qfh rfl (dk rfl) rfl l rfl (oZ b rfl (sp rfl (Zc (n := 1) (xs := a) (f := cB) (old := ab) rfl (dk rfl) Qkd i4 rfl rfl rfl ac ?_))))))))
  refine sp rfl (Yr (i := 1) (xs := a) (f := cB) (old := ab) (new := false) rfl rfl i4 rfl rfl rfl (Zd ac).2 (Qmm _) (nb rfl) rfl (nL (Qk (tN (Qr (mw rfl (oI rfl (aw rfl (nL (tN ?_))))))))))
  refine Qf ?_ (ih ad g q (wI (af + (1:Int))) ag ai aj x0 (List.set a (Int.toNat g) false) s u w j y p aa h)
  exact tq rfl rfl
  refine Qo rfl an (T.exit (Qj (Qj (Qq (tN (Qr (mw rfl (mw rfl ?_))))))))
  rcases Qg h with ⟨m, h⟩ | ⟨m, h⟩
  refine pf rfl m (pf rfl m (pf rfl m (pf rfl m (oY m rfl (aw rfl (nL (Qk (tN ?_))))))))
  refine Qr (mw rfl (oI rfl (aw rfl (nL (tN ?_)))))
  refine Qf ?_ (hgo2 true g (wI (q + (1:Int))) x0 a s u w j y p aa h)
  exact tq rfl rfl
  refine sn rfl m (OpT.move rfl (dk rfl) rfl (sn rfl m (OpT.move rfl (dk rfl) rfl ?_)))
  obtain ⟨ap, av, h⟩ := bind_some h
  refine sn rfl m (Zc (n := 1) (xs := a) (f := cB) (old := ap) rfl (dk rfl) Qkd i4 rfl rfl rfl av (sn rfl m (X1 (i := 1) (xs := a) (f := cB) (old := ap) rfl (dk rfl) ul4 rfl rfl rfl (Zd av).2 rfl (oZ m rfl (aw rfl (nL (Qk (tN (Qr (mw rfl ?_))))))))))
  refine oI rfl (aw rfl (nL (tN ?_)))
  refine Qf ?_ (hgo2 ap g (wI (q + (1:Int))) x0 a s u w j y p aa h)
  exact tq rfl rfl
abbrev Mo (r : List Bool) (go : Bool → Int → Qc → (List Bool) → Option (List Bool)) : Prop := ∀ (a : Bool) (b : Int) (x0 : Qc) (f : List Bool) (g : Nat) (i : Value), go a b x0 f = some r → TL tp 96 (ca [1,1,1,0,1,0,0,1,0,1,1,0,0] ff13) ⟨[(1, .ptr g 0), (3, .c (.ex i)), (4, .bool a), (5, .int .i64 b)], [(Li g x0.Split.Of x0.Split.Many x0.Counts x0.States), .arrX i 4 1 0 (f.map cB)]⟩ (Gu r)
theorem Im {r : List Bool} (K : Nat) (go1 : Bool → Int → Qc → (List Bool) → Option (List Bool)) (hgo1 : Mo r go1) (a : Bool) (b : Int) (x0 : Qc) (f : List Bool) (g : Nat) (i : Value) (h : Ji K go1 a b x0 f = some r) : T tp 96 (ca [1,1,1,0,1,0,0,1,0,1,1,0,0,1,0,0,1,1,0,0,0,1,1] ff13) ⟨[(1, .ptr g 0), (3, .c (.ex i)), (4, .bool a), (5, .int .i64 b)], [(Li g x0.Split.Of x0.Split.Many x0.Counts x0.States), .arrX i 4 1 0 (f.map cB)]⟩ (Me r) := by
 unfold Ji at h
 refine T.exit (Qj (Qj (Qq (Qk (tN (Qr (mw rfl (oI rfl (aw rfl (nL (tN ?_)))))))))))
 refine Qf ?_ (hgo1 a (wI (b + (1:Int))) x0 f g i h)
 exact tq rfl rfl
theorem Qet {r : List Bool} (K : Nat) (go1 : Bool → Int → Qc → (List Bool) → Option (List Bool)) (hgo1 : Mo r go1) : ∀ (k : Nat), Ik r (Yc K go1 k) := by
 intro k
 induction k with
 | zero =>
  intro j d y x0 b aa ab q s l m ac h
  exact zn h
 | succ k ih =>
  intro j d y x0 b aa ab q s l m ac h
  rw [Yc] at h
  refine Q0 (T.seq (sR (Qr (mw rfl (oP V1 i49 rfl (oL 2 Lk rfl (oU s (cL 2 Qh) Lk rfl ?_)))))))
  refine oI rfl (mw rfl ?_)
  rcases Qg h with ⟨a, h⟩ | ⟨a, h⟩
  refine sn rfl a (OpT.move rfl (dk rfl) rfl (sn rfl a (OpT.move rfl (dk rfl) rfl ?_)))
  obtain ⟨g, p, h⟩ := bind_some h
  refine sn rfl a (Zc (n := 1) (xs := b) (f := cB) (old := g) rfl (dk rfl) Qkd i4 rfl rfl rfl p (sn rfl a (X1 (i := 1) (xs := b) (f := cB) (old := g) rfl (dk rfl) ul4 rfl rfl rfl (Zd p).2 rfl (sn rfl a (OpT.not rfl (dk rfl) rfl (oY a rfl (nL (tN ?_))))))))
  rcases Qg h with ⟨u, h⟩ | ⟨u, h⟩
  refine Qp rfl u (T.skip (tN (T.seq (T.block (sR (Qr (mw rfl (mw rfl ?_))))))))
  refine oP V1 i38 rfl (oL 2 Zi rfl (mw rfl ?_))
  obtain ⟨w, ad, h⟩ := bind_some h
  refine oX q (cI .i64) Zi i3 ad rfl (oR ul3 rfl (oI rfl (sp rfl (Zc (n := 1) (xs := b) (f := cB) (old := g) rfl (dk rfl) Qkd i4 rfl rfl rfl p (sp rfl (Yr (i := 1) (xs := b) (f := cB) (old := g) (new := (decide (w ≥ (0:Int)))) rfl rfl i4 rfl rfl rfl (Zd p).2 (Qmm _) (nb rfl) rfl (nL (tN (T.seq ?_)))))))))
  refine sR (Qr (aw rfl (nL (tN (T.block (T.loop ?_))))))
  refine Qf ?_ (Qes K (Yc K go1 k) ih K j d y (0:Int) d g (!g) x0 (List.set b (Int.toNat d) (decide (w ≥ (0:Int)))) aa ab q s l m ac h)
  exact tq rfl rfl
  refine Qo rfl u ?_
  refine Ql ?_ (Im K go1 hgo1 j d x0 b l m h)
  exact tq rfl rfl
  refine pf rfl a (pf rfl a (pf rfl a (pf rfl a (pf rfl a (oZ a rfl (nL (tN ?_)))))))
  refine Qo rfl rfl ?_
  refine Ql ?_ (Im K go1 hgo1 j d x0 b l m h)
  exact tq rfl rfl
abbrev Il (r : List Bool) (go : Bool → Qc → (List Bool) → Option (List Bool)) : Prop := ∀ (a : Bool) (x0 : Qc) (b : List Bool) (f : Nat) (g : Value), go a x0 b = some r → TL tp 96 (ca [1,1,1,0,1,0,0] ff13) ⟨[(1, .ptr f 0), (3, .c (.ex g)), (4, .bool a)], [(Li f x0.Split.Of x0.Split.Many x0.Counts x0.States), .arrX g 4 1 0 (b.map cB)]⟩ (Cf r)
theorem Qeu {r : List Bool} (K : Nat) (go0 : Bool → Qc → (List Bool) → Option (List Bool)) (hgo0 : Il r go0) : ∀ (k : Nat), Mo r (Yk K go0 k) := by
 intro k
 induction k with
 | zero =>
  intro g p x0 b j l h
  exact zn h
 | succ k ih =>
  intro g p x0 b j l h
  rw [Yk] at h
  refine Q0 (T.seq (sR (Qr (mw rfl (mw rfl (sp rfl (Vz (i := 1) (xs := b) (f := cB) rfl (dk rfl) Qkd rfl rfl (oI rfl ?_))))))))
  refine nL (tN ?_)
  rcases Qg h with ⟨m, h⟩ | ⟨m, h⟩
  refine Qp rfl m (T.skip (tN (T.seq (T.block (sR (Qr (oP Xz i26 rfl (oL 0 Vj rfl ?_))))))))
  refine mw rfl ?_
  obtain ⟨a, q, h⟩ := bind_some h
  refine oX x0.States Qb Vj i51 q rfl (oJ V1 i51 rfl (sp rfl (Za rfl (dk rfl) i51 rfl (fun u => (sp rfl (Qt (i := 0) (cells' := [.d (.sl false 1 (mI a.L)), .d (.sl false 1 (mI a.R)), .d (.sl false 1 (mI a.Rule)), .d (.sl false 1 (a.Next.map (cL 2 Qh)))]) rfl rfl i51 rfl rfl rfl rfl (nb rfl) rfl (nL (tN (sR (Qr (aw rfl (nL (tN ?_)))))))))))))
  refine T.block (T.loop ?_)
  refine Qf ?_ (Qet K (Yk K go0 k) ih K g p (0:Int) x0 b a.L a.R a.Rule a.Next j l u h)
  exact tr rfl (.c (.s .z) (.c (.s .z) (.c .z (.n _))))
  refine Qo rfl m (T.exit (Qj (Qj (Qq (Qk (tN ?_))))))
  refine Qf ?_ (hgo0 g x0 b j l h)
  exact tq rfl rfl
theorem Qev {r : List Bool} (K : Nat) : ∀ (k : Nat), Il r (Yd K k) := by
 intro k
 induction k with
 | zero =>
  intro g x0 b d f h
  exact zn h
 | succ k ih =>
  intro g x0 b d f h
  rw [Yd] at h
  refine Q0 (T.seq (sR (Qr (mw rfl (nL (tN ?_))))))
  rcases Qg h with ⟨a, h⟩ | ⟨a, h⟩
  refine Qp rfl a (T.skip (tN (T.block (sR (Qr (aw rfl (nL (tN (sR (Qr (aw rfl ?_)))))))))))
  refine nL (tN (T.block (T.loop ?_)))
  refine Qf ?_ (Qeu K (Yd K k) ih K false (0:Int) x0 b d f h)
  exact tq rfl rfl
  refine Qo rfl a (T.exit (Qj (Qj (Qq (tN (sR (Qr (mw rfl (aw rfl (nL (tN (T.ret ?_))))))))))))
  refine Yw (Uf 1 rfl) (Yw (Zr.view 2 1 rfl rfl) (fd rfl (by cases h; exact ⟨rfl, rfl⟩)))
theorem Si (K : Nat) {x0 : Qc} {r : List Bool} (h : U1 K x0 = some r) : Zh tp 13 [.agg ((Q5.dc 256 .u8 x0.Split.Of) ++ (([.int .i64 x0.Split.Many, .sl false 2 (mA x0.Counts), .sl false 4 (x0.States.map Qb)] : List DC)))] [] (.sl false 1 (r.map cB)) := by
 refine CI 96 fu13 rfl ?_
 unfold U1 at h
 refine sR (Qr (sp rfl (Q8 rfl (dk rfl) rfl (fun b => (aw rfl (nL (tN (T.seq (sR (Qr (oA 0 ((Q5.dc 256 .u8 x0.Split.Of) ++ (([.int .i64 x0.Split.Many, .sl false 2 (mA x0.Counts), .sl false 4 (x0.States.map Qb)] : List DC))) Xz i28 rfl ?_)))))))))))
 obtain ⟨p, d, h⟩ := bind_some h
 refine oH fu19 (Zh.nil (C2 K d)) rfl (oT rfl (nL (tN ?_)))
 rcases Qg h with ⟨a, h⟩ | ⟨a, h⟩
 refine Qp rfl a (sR (Qr (aw rfl (nL (tN (T.ret (Qs (Yw (F3 2 false 1 rfl) (fd rfl (by cases h; exact ⟨rfl, rfl⟩))))))))))
 refine Qo rfl a (T.skip (tN (sR (Qr (oP Xz i26 rfl (oL 0 Vj rfl (oU x0.States Qb Vj rfl ?_)))))))
 obtain ⟨g, h⟩ := Q6 h
 obtain ⟨j, h⟩ := Q6 h
 refine sp rfl (Vy (f := cB) (zv := (false : Bool)) rfl (dk rfl) Qkd i4 (by decide) rfl rfl rfl rfl rfl g j (fun m => (aw rfl (nL (tN (T.seq (sR (Qr (aw rfl (nL (tN ?_)))))))))))
 refine T.block (T.loop ?_)
 refine Qf ?_ (Qev K K true x0 (List.replicate (Int.toNat (x0.States.length : Int)) (false : Bool)) b m h)
 exact tr rfl (.c (.s .z) (.c .z (.n _)))
abbrev Qgv (wx1 : Value) (x1 : List Int) (r : Qc) : ES := Jm tp ff29 (fun y t => ∃ γ : Nat → Value, y = (.agg ((Q5.dc 256 .u8 r.Split.Of) ++ (([.int .i64 r.Split.Many, .sl false 2 (mA r.Counts), .sl false 4 (r.States.map Qb)] : List DC)))) ∧ t = [.arrX wx1 3 1 0 (mI x1)])
abbrev Qbj (wx1 : Value) (x1 : List Int) (r : Qc) : ES := fT 109 [1,1,1] ff29 (Qgv wx1 x1 r)
abbrev Cd (wx1 : Value) (x1 : List Int) (r : Qc) : ES := Qv 0 ((Qbj wx1 x1 r))
abbrev Sx (wx1 : Value) (x1 : List Int) (r : Qc) : ES := fL 109 [1,1,0,1,0,0] ff29 (Cd wx1 x1 r)
abbrev N9 (wx1 : Value) (x1 : List Int) (r : Qc) : ES := fT 109 [1,1,0,1,0,0,1,1] ff29 (Sx wx1 x1 r)
abbrev El (wx1 : Value) (x1 : List Int) (r : Qc) : ES := Qv 1 ((N9 wx1 x1 r))
abbrev Ek (wx1 : Value) (x1 : List Int) (r : Qc) : ES := fT 109 [1,1,0,1,0,0,1,0,0,1,1,1] ff29 (El wx1 x1 r)
abbrev J2 (wx1 : Value) (x1 : List Int) (r : Qc) : ES := Qv 2 ((Ek wx1 x1 r))
abbrev Dn (wx1 : Value) (x1 : List Int) (r : Qc) : ES := fL 109 [1,1,0,1,0,0,1,0,0,1,1,0,1,0,0] ff29 (J2 wx1 x1 r)
abbrev Bx (wx1 : Value) (x1 : List Int) (r : Qc) : ES := fT 109 [1,1,0,1,0,0,1,0,0,1,1,0,1,0,0,1,1] ff29 (Dn wx1 x1 r)
abbrev Gs (wx1 : Value) (x1 : List Int) (r : Qc) : ES := Qv 3 ((Bx wx1 x1 r))
abbrev Mc (wx1 : Value) (x1 : List Int) (r : Qc) : ES := fT 109 [1,1,0,1,0,0,1,0,0,1,1,0,1,0,0,1,0,0,1,1] ff29 (Gs wx1 x1 r)
abbrev Vc (wx1 : Value) (x1 : List Int) (r : Qc) : ES := Qv 4 ((Mc wx1 x1 r))
abbrev Ki (wx1 : Value) (x1 : List Int) (r : Qc) : ES := fL 109 [1,1,0,1,0,0,1,0,0,1,1,0,1,0,0,1,0,0,1,0,1,0,0] ff29 (Vc wx1 x1 r)
abbrev Gr (wx1 : Value) (x1 : List Int) (r : Qc) : ES := fT 109 [1,1,0,1,0,0,1,0,0,1,1,0,1,0,0,1,0,0,1,0,1,0,0,1,1] ff29 (Ki wx1 x1 r)
abbrev Jt (wx1 : Value) (x1 : List Int) (r : Qc) : ES := Qv 5 ((Gr wx1 x1 r))
abbrev E6 (wx1 : Value) (x1 : List Int) (r : Qc) (go : Int → Int → Int → (List Int) → Qc → Q5 → (List Ye) → (List Qa) → (List Int) → (List Int) → (List Int) → (List (List Qd)) → (List (List Qd)) → (List Qd) → Option Qc) : Prop := ∀ (a b f : Int) (x1 : List Int) (x0 : Qc) (g : Q5) (i : List Ye) (j : List Qa) (l m n : List Int) (p q : List (List Qd)) (s : List Qd) (u v : Nat) (w y : Value) (z : Nat) (aa ab : Value) (ac : Nat) (ad af : Value), go a b f x1 x0 g i j l m n p q s = some r → TL tp 109 (ca [1,1,0,1,0,0,1,0,0,1,1,0,1,0,0,1,0,0,1,0,1,0,0] ff29) ⟨[(1, .c (.ex wx1)), (2, .ptr u 0), (4, .ptr v 0), (5, .ptr z 0), (6, .int .i64 a), (7, .ptr ac 0), (8, .c (.ex ad)), (9, .int .i64 b), (10, .c (.ex af)), (11, .int .i64 f)], [.arrX wx1 3 1 0 (mI x1), (Li u x0.Split.Of x0.Split.Many x0.Counts x0.States), (Bt v g (0:Int) w y), .arrA w 59 2 (([] : List Ye).map (Ye.dc .i64)), .arrX y 51 4 0 (([] : List Qa).map Qb), (Bt z x0.Split.Of x0.Split.Many aa ab), .arrA aa 59 2 (mA i), .arrX ab 51 4 0 (j.map Qb), (W0 ac l m n p), .arrA ad 55 1 (q.map (cL 2 Qh)), .arrA af 54 2 (s.map Qh)]⟩ (Vc wx1 x1 r)
theorem E9 {r : Qc} (K : Nat) (wx1 : Value) (x1 : List Int) (go2 : Int → Int → Int → (List Int) → Qc → Q5 → (List Ye) → (List Qa) → (List Int) → (List Int) → (List Int) → (List (List Qd)) → (List (List Qd)) → (List Qd) → Option Qc) (hgo2 : E6 wx1 x1 r go2) (b g j : Int) (x1 : List Int) (x0 : Qc) (m : Q5) (p : List Ye) (q : List Qa) (s u v : List Int) (w y : List (List Qd)) (a : List Qd) (aa ab : Nat) (ac ad : Value) (af : Nat) (ag ai : Value) (aj : Nat) (al am : Value) (h : Uw K go2 b g j x1 x0 m p q s u v w y a = some r) : T tp 109 (ca [1,1,0,1,0,0,1,0,0,1,1,0,1,0,0,1,0,0,1,0,1,0,0,1,0,0,1,1,0] ff29) ⟨[(1, .c (.ex wx1)), (2, .ptr aa 0), (4, .ptr ab 0), (5, .ptr af 0), (6, .int .i64 b), (7, .ptr aj 0), (8, .c (.ex al)), (9, .int .i64 g), (10, .c (.ex am)), (11, .int .i64 j)], [.arrX wx1 3 1 0 (mI x1), (Li aa x0.Split.Of x0.Split.Many x0.Counts x0.States), (Bt ab m (0:Int) ac ad), .arrA ac 59 2 (([] : List Ye).map (Ye.dc .i64)), .arrX ad 51 4 0 (([] : List Qa).map Qb), (Bt af x0.Split.Of x0.Split.Many ag ai), .arrA ag 59 2 (mA p), .arrX ai 51 4 0 (q.map Qb), (W0 aj s u v w), .arrA al 55 1 (y.map (cL 2 Qh)), .arrA am 54 2 (a.map Qh)]⟩ (Jt wx1 x1 r) := by
 unfold Uw at h
 refine Qr (mw rfl (sp rfl (Zj (OpT.build (l := [.int .i64 (-1:Int), .ex (.slice none 0 0)]) rfl (dk rfl) (Zk (pl := [(0, 1), (1, 1)]) Lj i54 rfl) (Hs rfl) rfl rfl rfl) (Zt 69 (l := [.int .i64 (-1:Int), .ex (.slice none 0 0)]) (l' := [.int .i64 (-1:Int), .sl false 1 (([] : List Int).map (cI .u8))]) (.cons (.same _) (.cons (.nil _ _) (.refl _)))) (sp rfl (OpT.buildSlice (elems := ([(Qd.mk (-1:Int) [])] : List Qd).map Qh) rfl (dk rfl) Ma i54 (by decide) rfl (Hs rfl) rfl rfl rfl (Xh rfl) (by decide) ?_)))))
 obtain ⟨an, h⟩ := Q6 h
 refine sp rfl (Zp (i := 10) (xs := a) (ys := [(Qd.mk (-1:Int) [])]) (f := Qh) rfl (dk rfl) Ma i54 rfl rfl rfl rfl an (fun ap => (aw rfl (nL (Qk (tN (Qr (mw rfl (oI rfl (aw rfl ?_))))))))))
 refine nL (tN ?_)
 refine Qf ?_ (hgo2 b g (wI (j + (1:Int))) x1 x0 m p q s u v w y (a ++ [(Qd.mk (-1:Int) [])]) aa ab ac ad af ag ai aj al ap h)
 exact tq rfl rfl
abbrev E7 (wx1 : Value) (x1 : List Int) (r : Qc) (go : Int → Int → (List Int) → Qc → Q5 → (List Ye) → (List Qa) → (List Int) → (List Int) → (List Int) → (List (List Qd)) → (List (List Qd)) → Option Qc) : Prop := ∀ (a b : Int) (x1 : List Int) (x0 : Qc) (f : Q5) (g : List Ye) (i : List Qa) (j l m : List Int) (n p : List (List Qd)) (q s : Nat) (u v : Value) (w : Nat) (y z : Value) (aa : Nat) (ab : Value), go a b x1 x0 f g i j l m n p = some r → TL tp 109 (ca [1,1,0,1,0,0,1,0,0,1,1,0,1,0,0] ff29) ⟨[(1, .c (.ex wx1)), (2, .ptr q 0), (4, .ptr s 0), (5, .ptr w 0), (6, .int .i64 a), (7, .ptr aa 0), (8, .c (.ex ab)), (9, .int .i64 b)], [.arrX wx1 3 1 0 (mI x1), (Li q x0.Split.Of x0.Split.Many x0.Counts x0.States), (Bt s f (0:Int) u v), .arrA u 59 2 (([] : List Ye).map (Ye.dc .i64)), .arrX v 51 4 0 (([] : List Qa).map Qb), (Bt w x0.Split.Of x0.Split.Many y z), .arrA y 59 2 (mA g), .arrX z 51 4 0 (i.map Qb), (W0 aa j l m n), .arrA ab 55 1 (p.map (cL 2 Qh))]⟩ (J2 wx1 x1 r)
theorem Qc6 {r : Qc} (K : Nat) (wx1 : Value) (x1 : List Int) (go1 : Int → Int → (List Int) → Qc → Q5 → (List Ye) → (List Qa) → (List Int) → (List Int) → (List Int) → (List (List Qd)) → (List (List Qd)) → Option Qc) (hgo1 : E7 wx1 x1 r go1) : ∀ (k : Nat), E6 wx1 x1 r (Z3 K go1 k) := by
 intro k
 induction k with
 | zero =>
  intro am an a1 x1 x0 ap aq au av ay az q y m aa ab ac ad af ag ai aj a0 al h
  exact zn h
 | succ k ih =>
  intro am an a1 x1 x0 ap aq au av ay az q y m aa ab ac ad af ag ai aj a0 al h
  rw [Z3] at h
  refine Q0 (T.seq (sR (Qr (mw rfl (oP V1 i49 rfl (oL 8 Lk rfl (mw rfl ?_)))))))
  obtain ⟨a2, a6, h⟩ := bind_some h
  refine oX q (cL 2 Qh) Lk i55 a6 rfl (oR Ma rfl (oU a2 Qh Ma rfl (oI rfl (nL (tN ?_)))))
  rcases Qg h with ⟨a4, h⟩ | ⟨a4, h⟩
  refine Qp rfl a4 (T.skip (tN (T.seq (T.block (sR (Qr (oP V1 i49 rfl (oL 8 Lk rfl ?_))))))))
  refine mw rfl (oX q (cL 2 Qh) Lk i55 a6 rfl (oR Ma rfl (mw rfl ?_)))
  obtain ⟨b, a7, h⟩ := bind_some h
  refine oX a2 Qh Ma i54 a7 rfl (oJ Lj i54 rfl (sp rfl (Za rfl (dk rfl) i54 rfl (fun p => (sp rfl (Qt (i := 0) (cells' := [.d (.int .i64 b.To), .d (.sl false 1 (mU b.Ops))]) rfl rfl i54 rfl rfl rfl rfl (nb rfl) rfl (nL (tN (sR (Qr (oP Lj i3 rfl (oL 0 ul3 rfl ?_))))))))))))
  refine oI rfl (mw rfl ?_)
  rcases Qg h with ⟨j, h⟩ | ⟨j, h⟩
  refine pf rfl j (pf rfl j (pf rfl j (pf rfl j (pf rfl j (pf rfl j (oY j rfl ?_))))))
  refine nL (tN (Qp rfl rfl ?_))
  refine Ql ?_ (E9 K wx1 x1 (Z3 K go1 k) ih am an a1 x1 x0 ap aq au av ay az q y m aa ab ac ad af ag ai aj a0 al h)
  exact tr rfl (.c (.s .z) (.c (.s .z) (.c (.s .z) (.c (.s .z) (.c (.s .z) (.c (.s .z) (.c (.s .z) (.c (.s .z) (.c (.s .z) (.c (.s .z) (.c (.s .z) (.n _))))))))))))
  refine sn rfl j (OpT.move rfl (dk rfl) rfl (sn rfl j (Y1 rfl (dk rfl) Lj rfl i3 (by decide) rfl (sn rfl j (Zx (i := 0) rfl (dk rfl) ul3 rfl rfl rfl rfl ?_)))))
  obtain ⟨g, a3, h⟩ := bind_some h
  refine sn rfl j (Zc (n := 1) (xs := x1) (f := (cI .i64)) (old := g) rfl (dk rfl) Zi i3 rfl rfl rfl a3 (sn rfl j (X1 (i := 1) (xs := x1) (f := (cI .i64)) (old := g) rfl (dk rfl) ul3 rfl rfl rfl (Zd a3).2 rfl (sn rfl j (Zs rfl rfl (dk rfl) rfl rfl (oZ j rfl (nL (tN ?_))))))))
  rcases Qg h with ⟨a5, h⟩ | ⟨a5, h⟩
  refine Qp rfl a5 ?_
  refine Ql ?_ (E9 K wx1 x1 (Z3 K go1 k) ih am an a1 x1 x0 ap aq au av ay az q y m aa ab ac ad af ag ai aj a0 al h)
  exact tr rfl (.c (.s .z) (.c (.s .z) (.c (.s .z) (.c (.s .z) (.c (.s .z) (.c (.s .z) (.c (.s .z) (.c (.s .z) (.c (.s .z) (.c (.s .z) (.c (.s .z) (.n _))))))))))))
  refine Qo rfl a5 (Ql Zu (Ur (gM rfl (fun _ => .f rfl) (fun _ => rfl) (gM rfl (fun _ => .f rfl) (fun _ => rfl) (gP rfl (fun _ => .f rfl) Lj i3 (fun _ => rfl) (gL 1 rfl (fun _ => .f rfl) ul3 (fun _ => rfl) ?_))))))
  refine dC (c := ⟨some 76, .el wx1 1 (Int.toNat b.To) 0, [(73, .c (.ex wx1)), (75, .int .i64 b.To)], [(2, .arrX wx1 3 1 0 (mI x1))], []⟩) (fun t hm => oF rfl rfl (Zc (n := 2) (xs := x1) (f := (cI .i64)) (old := g) rfl (dk rfl) Zi i3 hm.s0 hm.o0 hm.s1 a3 ⟨u0, rfl⟩)) (fun _ => rfl) (fun _ => rfl) (dC (c := ⟨some 77, .int .i64 g, [(76, .el wx1 1 (Int.toNat b.To) 0)], [(2, .arrX wx1 3 1 0 (mI x1))], []⟩) (fun t hm => oF rfl rfl (X1 (i := 2) (xs := x1) (f := (cI .i64)) (old := g) rfl (dk rfl) ul3 rfl hm.s0 hm.o0 (Zd a3).2 rfl ⟨u0, rfl⟩)) (fun _ => rfl) (fun _ => rfl) (dC (c := ⟨some 78, .sl true 1 (([] : List Int).map (cI .u8)), [], [], []⟩) (fun t hm => oF rfl rfl (OpT.buildSlice (elems := ([] : List Int).map (cI .u8)) rfl (dk rfl) B2 i5 (by decide) rfl (Hs rfl) Vx rfl rfl (Xh rfl) (by decide) ⟨u0, rfl⟩)) (fun _ => rfl) (fun _ => rfl) (gP rfl (fun _ => .f rfl) Lj i52 (fun _ => rfl) (gL 1 rfl (fun _ => .f rfl) B2 (fun _ => rfl) ?_))))
  obtain ⟨a8, h⟩ := Q6 h
  refine DGG.step (c := fun a => ⟨some 81, .c (.ex ((a 9).1 0)), [(80, .sl false 1 (mU b.Ops)), (78, .sl true 1 (([] : List Int).map (cI .u8)))], [(0, .ro 0 [])], [(0, .arrA ((a 9).1 0) 5 1 ((([] : List Int) ++ b.Ops).map (cI .u8)))]⟩) [9] (fun a γ' h => by simp only [h 9 (by decide)]) (fun a t hm => oF rfl rfl (M1 0 (xs := ([] : List Int)) (ys := b.Ops) (f := (cI .u8)) rfl (dk rfl) B2 i5 rfl hm.s1 hm.s0 (.inr rfl) a8 hm.o0 (fun w => ⟨(fun _ => w, 0), rfl⟩))) (fun a => Zg rfl rfl) (DGG.step (c := fun a => ⟨some 82, .agg [.int .i64 g, .sl false 1 ((([] : List Int) ++ b.Ops).map (cI .u8))], [(77, .int .i64 g), (81, .c (.ex ((a 9).1 0)))], [(0, .arrA ((a 9).1 0) 5 1 ((([] : List Int) ++ b.Ops).map (cI .u8)))], []⟩) [9] (fun a γ' h => by simp only [h 9 (by decide)]) (fun a t hm => oF rfl rfl (Zj (OpT.build (l := [.int .i64 g, .ex ((a 9).1 0)]) rfl (dk rfl) (Zk (pl := [(0, 1), (1, 1)]) Lj i54 rfl) (Hs rfl) (Z8 hm.s0 rfl (Z8 hm.s1 rfl Vx)) rfl rfl) (Zt 82 (l := [.int .i64 g, .ex ((a 9).1 0)]) (l' := [.int .i64 g, .sl false 1 ((([] : List Int) ++ b.Ops).map (cI .u8))]) (.cons (.same _) (.cons (.view 0 hm.o0) (.refl _)))) ⟨u0, rfl⟩)) (fun a => Zg rfl rfl) (dC (c := ⟨some 83, .sl true 2 ([(Qd.mk g (([] : List Int) ++ b.Ops))].map Qh), [(82, .agg [.int .i64 g, .sl false 1 ((([] : List Int) ++ b.Ops).map (cI .u8))])], [], []⟩) (fun t hm => oF rfl rfl (OpT.buildSlice (elems := ([(Qd.mk g (([] : List Int) ++ b.Ops))] : List Qd).map Qh) rfl (dk rfl) Ma i54 (by decide) rfl (Hs rfl) (Z8 hm.s0 rfl Vx) rfl rfl (Xh rfl) (by decide) ⟨u0, rfl⟩)) (fun _ => rfl) (fun _ => rfl) ?_))
  obtain ⟨a9, h⟩ := Q6 h
  refine DGG.step (c := fun a => ⟨some 84, .c (.ex ((a 12).1 0)), [(83, .sl true 2 ([(Qd.mk g (([] : List Int) ++ b.Ops))].map Qh)), (72, .c (.ex al))], [(12, .arrA al 54 2 (m.map Qh))], [(12, .arrA ((a 12).1 0) 54 2 ((m ++ [(Qd.mk g (([] : List Int) ++ b.Ops))]).map Qh))]⟩) [12] (fun a γ' h => by simp only [h 12 (by decide)]) (fun a t hm => oF rfl rfl (Zp (i := 12) (xs := m) (ys := [(Qd.mk g (([] : List Int) ++ b.Ops))]) (f := Qh) rfl (dk rfl) Ma i54 rfl hm.s1 hm.o0 hm.s0 a9 (fun w => ⟨(fun _ => w, 0), rfl⟩))) (fun a => Zg rfl rfl) (DGG.step (c := fun a => ⟨some 10, .c (.ex ((a 12).1 0)), [(84, .c (.ex ((a 12).1 0)))], [], []⟩) [12] (fun a γ' h => by simp only [h 12 (by decide)]) (fun a t hm => oF rfl rfl (OpT.assign rfl (dk rfl) hm.s0 ⟨u0, rfl⟩)) (fun a => Zg rfl rfl) (gF [0,0,0,4,14,30,0,0,128,448,1022,2046,4095,8191] Qx rfl (by kernel_rfl) (fun _ => by kernel_rfl) (fun a u hu => (Qk (tN (Ql hu (Qr (mw rfl (oI rfl (aw rfl ?_))))))))))
  refine nL (tN ?_)
  refine Qf ?_ (ih am an (wI (a1 + (1:Int))) x1 x0 ap aq au av ay az q y (m ++ [(Qd.mk g (([] : List Int) ++ b.Ops))]) aa ab ac ad af ag ai aj a0 ((a 12).1 0) h)
  exact tr rfl (.c (.s (.s .z)) (.c (.s (.s .z)) (.c (.s (.s .z)) (.c (.s (.s .z)) (.c (.s (.s .z)) (.c (.s (.s .z)) (.c (.s (.s .z)) (.c (.s (.s .z)) (.c (.s (.s .z)) (.c (.s (.s .z)) (.c (.s (.s .z)) (.n _))))))))))))
  refine Qo rfl a4 (T.exit (Qj (Qj (Qq (tN (Qr (mw rfl (mw rfl (Uh (Zr.view 86 10 rfl rfl) (sp rfl (OpT.buildSlice (elems := ([m] : List (List Qd)).map (cL 2 Qh)) rfl (dk rfl) Lk i55 (by decide) rfl (Hs rfl) rfl rfl rfl (Xh rfl) (by decide) ?_)))))))))))
  obtain ⟨ba, h⟩ := Q6 h
  refine sp rfl (Zp (i := 9) (xs := y) (ys := [m]) (f := (cL 2 Qh)) rfl (dk rfl) Lk i55 rfl rfl rfl rfl ba (fun bb => (aw rfl (nL (Qk (tN (Qr (mw rfl (oI rfl (aw rfl ?_))))))))))
  refine nL (tN ?_)
  refine Qf ?_ (hgo1 am (wI (an + (1:Int))) x1 x0 ap aq au av ay az q (y ++ [m]) aa ab ac ad af ag ai aj bb h)
  exact tq rfl rfl
abbrev E8 (wx1 : Value) (x1 : List Int) (r : Qc) (go : Int → (List Int) → Qc → Q5 → (List Ye) → (List Qa) → Option Qc) : Prop := ∀ (a : Int) (x1 : List Int) (x0 : Qc) (b : Q5) (f : List Ye) (g : List Qa) (i j : Nat) (l m : Value) (n : Nat) (p q : Value), go a x1 x0 b f g = some r → TL tp 109 (ca [1,1,0,1,0,0] ff29) ⟨[(1, .c (.ex wx1)), (2, .ptr i 0), (4, .ptr j 0), (5, .ptr n 0), (6, .int .i64 a)], [.arrX wx1 3 1 0 (mI x1), (Li i x0.Split.Of x0.Split.Many x0.Counts x0.States), (Bt j b (0:Int) l m), .arrA l 59 2 (([] : List Ye).map (Ye.dc .i64)), .arrX m 51 4 0 (([] : List Qa).map Qb), (Bt n x0.Split.Of x0.Split.Many p q), .arrA p 59 2 (mA f), .arrX q 51 4 0 (g.map Qb)]⟩ (Cd wx1 x1 r)
theorem Qc7 {r : Qc} (K : Nat) (wx1 : Value) (x1 : List Int) (go0 : Int → (List Int) → Qc → Q5 → (List Ye) → (List Qa) → Option Qc) (hgo0 : E8 wx1 x1 r go0) : ∀ (k : Nat), E7 wx1 x1 r (Y7 K go0 k) := by
 intro k
 induction k with
 | zero =>
  intro aj ap x1 x0 al am aa b g j ab p ad af ag ai q v ac m y h
  exact zn h
 | succ k ih =>
  intro aj ap x1 x0 al am aa b g j ab p ad af ag ai q v ac m y h
  rw [Y7] at h
  refine Q0 (T.seq (sR (Qr (mw rfl (oP V1 i49 rfl (oL 8 Lk rfl (oU ab (cL 2 Qh) Lk rfl ?_)))))))
  refine oI rfl (nL (tN ?_))
  rcases Qg h with ⟨an, h⟩ | ⟨an, h⟩
  refine Qp rfl an (T.skip (tN (T.seq (T.block (sR (Qr (aw rfl (nL (tN ?_)))))))))
  refine T.seq (sR (Qr (aw rfl (nL (tN (T.block (T.loop (Qf (Xd 54 2) ?_))))))))
  refine Qf ?_ (Qc6 K wx1 x1 (Y7 K go0 k) ih K aj ap (0:Int) x1 x0 al am aa b g j ab p [] ad af ag ai q v ac m y (Qd7 61) h)
  exact tr rfl (.c (.s .z) (.c (.s .z) (.c (.s .z) (.c (.s .z) (.c (.s .z) (.c (.s .z) (.c (.s .z) (.c (.s .z) (.c (.s .z) (.c (.s .z) (.c .z (.n _))))))))))))
  refine Qo rfl an (T.exit (Qj (Qj (Qq (tN (Ql Zu (Ql Zu (Ql Zu (Ql Zu (Ur ?_))))))))))
  refine gP rfl (fun _ => .f rfl) Xz i26 (fun _ => rfl) (gL 9 rfl (fun _ => .f rfl) Vj (fun _ => rfl) (dC (c := ⟨some 91, .sl true 1 (([] : List Int).map (cI .i64)), [], [], []⟩) (fun t hm => oF rfl rfl (OpT.buildSlice (elems := ([] : List Int).map (cI .i64)) rfl (dk rfl) Zi i3 (by decide) rfl (Hs rfl) Vx rfl rfl (Xh rfl) (by decide) ⟨u0, rfl⟩)) (fun _ => rfl) (fun _ => rfl) (gP rfl (fun _ => .f rfl) V1 i38 (fun _ => rfl) (gL 12 rfl (fun _ => .f rfl) Zi (fun _ => rfl) ?_))))
  obtain ⟨aq, h⟩ := Q6 h
  refine DGG.step (c := fun a => ⟨some 94, .c (.ex ((a 5).1 0)), [(93, .sl false 1 (mI b)), (91, .sl true 1 (([] : List Int).map (cI .i64)))], [(0, .ro 0 [])], [(0, .arrA ((a 5).1 0) 3 1 ((([] : List Int) ++ b).map (cI .i64)))]⟩) [5] (fun a γ' h => by simp only [h 5 (by decide)]) (fun a t hm => oF rfl rfl (M1 0 (xs := ([] : List Int)) (ys := b) (f := (cI .i64)) rfl (dk rfl) Zi i3 rfl hm.s1 hm.s0 (.inr rfl) aq hm.o0 (fun w => ⟨(fun _ => w, 0), rfl⟩))) (fun a => Zg rfl rfl) (dC (c := ⟨some 95, .sl true 1 (([] : List Int).map (cI .i64)), [], [], []⟩) (fun t hm => oF rfl rfl (OpT.buildSlice (elems := ([] : List Int).map (cI .i64)) rfl (dk rfl) Zi i3 (by decide) rfl (Hs rfl) Vx rfl rfl (Xh rfl) (by decide) ⟨u0, rfl⟩)) (fun _ => rfl) (fun _ => rfl) (gP rfl (fun _ => .f rfl) V1 i38 (fun _ => rfl) (gL 12 rfl (fun _ => .f rfl) Zi (fun _ => rfl) ?_)))
  obtain ⟨au, h⟩ := Q6 h
  refine DGG.step (c := fun a => ⟨some 98, .c (.ex ((a 9).1 0)), [(97, .sl false 1 (mI g)), (95, .sl true 1 (([] : List Int).map (cI .i64)))], [(1, .ro 0 [])], [(1, .arrA ((a 9).1 0) 3 1 ((([] : List Int) ++ g).map (cI .i64)))]⟩) [9] (fun a γ' h => by simp only [h 9 (by decide)]) (fun a t hm => oF rfl rfl (M1 1 (xs := ([] : List Int)) (ys := g) (f := (cI .i64)) rfl (dk rfl) Zi i3 rfl hm.s1 hm.s0 (.inr rfl) au hm.o0 (fun w => ⟨(fun _ => w, 0), rfl⟩))) (fun a => Zg rfl rfl) (dC (c := ⟨some 99, .sl true 1 (([] : List Int).map (cI .i64)), [], [], []⟩) (fun t hm => oF rfl rfl (OpT.buildSlice (elems := ([] : List Int).map (cI .i64)) rfl (dk rfl) Zi i3 (by decide) rfl (Hs rfl) Vx rfl rfl (Xh rfl) (by decide) ⟨u0, rfl⟩)) (fun _ => rfl) (fun _ => rfl) (gP rfl (fun _ => .f rfl) V1 i38 (fun _ => rfl) (gL 12 rfl (fun _ => .f rfl) Zi (fun _ => rfl) ?_)))
  obtain ⟨av, h⟩ := Q6 h
  refine DGG.step (c := fun a => ⟨some 102, .c (.ex ((a 13).1 0)), [(101, .sl false 1 (mI j)), (99, .sl true 1 (([] : List Int).map (cI .i64)))], [(2, .ro 0 [])], [(2, .arrA ((a 13).1 0) 3 1 ((([] : List Int) ++ j).map (cI .i64)))]⟩) [13] (fun a γ' h => by simp only [h 13 (by decide)]) (fun a t hm => oF rfl rfl (M1 2 (xs := ([] : List Int)) (ys := j) (f := (cI .i64)) rfl (dk rfl) Zi i3 rfl hm.s1 hm.s0 (.inr rfl) av hm.o0 (fun w => ⟨(fun _ => w, 0), rfl⟩))) (fun a => Zg rfl rfl) (gM rfl (fun _ => .f rfl) (fun _ => rfl) (DGG.step (c := fun a => ⟨some 104, .agg [.sl false 1 ((([] : List Int) ++ b).map (cI .i64)), .sl false 1 ((([] : List Int) ++ g).map (cI .i64)), .sl false 1 ((([] : List Int) ++ j).map (cI .i64)), .sl false 1 (p.map (cL 2 Qh))], [(94, .c (.ex ((a 5).1 0))), (98, .c (.ex ((a 9).1 0))), (102, .c (.ex ((a 13).1 0))), (103, .c (.ex y))], [(13, .arrA y 55 1 (p.map (cL 2 Qh))), (2, .arrA ((a 13).1 0) 3 1 ((([] : List Int) ++ j).map (cI .i64))), (1, .arrA ((a 9).1 0) 3 1 ((([] : List Int) ++ g).map (cI .i64))), (0, .arrA ((a 5).1 0) 3 1 ((([] : List Int) ++ b).map (cI .i64)))], []⟩) [5, 9, 13] (fun a γ' h => by simp only [h 5 (by decide), h 9 (by decide), h 13 (by decide)]) (fun a t hm => oF rfl rfl (Zj (OpT.build (l := [.ex ((a 5).1 0), .ex ((a 9).1 0), .ex ((a 13).1 0), .ex y]) rfl (dk rfl) (Zk (pl := [(0, 1), (1, 1), (2, 1), (3, 1)]) V1 i51 rfl) (Hs rfl) (Z8 hm.s0 rfl (Z8 hm.s1 rfl (Z8 hm.s2 rfl (Z8 hm.s3 rfl Vx)))) rfl rfl) (Zt 104 (l := [.ex ((a 5).1 0), .ex ((a 9).1 0), .ex ((a 13).1 0), .ex y]) (l' := [.sl false 1 ((([] : List Int) ++ b).map (cI .i64)), .sl false 1 ((([] : List Int) ++ g).map (cI .i64)), .sl false 1 ((([] : List Int) ++ j).map (cI .i64)), .sl false 1 (p.map (cL 2 Qh))]) (.cons (.view 0 (hm.objs (0, _) (.tail _ (.tail _ (.tail _ (.head _)))))) (.cons (.view 1 hm.o2) (.cons (.view 2 hm.o1) (.cons (.view 13 hm.o0) (.refl _)))))) ⟨u0, rfl⟩)) (fun a => Zg rfl rfl) (dC (c := ⟨some 105, .sl true 4 ([(Qa.mk (([] : List Int) ++ b) (([] : List Int) ++ g) (([] : List Int) ++ j) p)].map Qb), [(104, .agg [.sl false 1 ((([] : List Int) ++ b).map (cI .i64)), .sl false 1 ((([] : List Int) ++ g).map (cI .i64)), .sl false 1 ((([] : List Int) ++ j).map (cI .i64)), .sl false 1 (p.map (cL 2 Qh))])], [], []⟩) (fun t hm => oF rfl rfl (OpT.buildSlice (elems := ([(Qa.mk (([] : List Int) ++ b) (([] : List Int) ++ g) (([] : List Int) ++ j) p)] : List Qa).map Qb) rfl (dk rfl) Vj i51 (by decide) rfl (Hs rfl) (Z8 hm.s0 rfl Vx) rfl rfl (Xh rfl) (by decide) ⟨u0, rfl⟩)) (fun _ => rfl) (fun _ => rfl) ?_)))
  obtain ⟨ay, h⟩ := Q6 h
  refine DGG.step (c := fun a => ⟨some 106, .c (.ex ((a 17).1 0)), [(105, .sl true 4 ([(Qa.mk (([] : List Int) ++ b) (([] : List Int) ++ g) (([] : List Int) ++ j) p)].map Qb)), (90, .c (.ex ac))], [(11, .arrX ac 51 4 0 (aa.map Qb))], [(11, .arrX ((a 17).1 0) 51 4 0 ((aa ++ [(Qa.mk (([] : List Int) ++ b) (([] : List Int) ++ g) (([] : List Int) ++ j) p)]).map Qb))]⟩) [17] (fun a γ' h => by simp only [h 17 (by decide)]) (fun a t hm => oF rfl rfl (Hv (i := 11) (xs := aa) (ys := [(Qa.mk (([] : List Int) ++ b) (([] : List Int) ++ g) (([] : List Int) ++ j) p)]) (f := Qb) rfl (dk rfl) Vj i51 rfl hm.s1 hm.o0 hm.s0 ay (fun w => ⟨(fun _ => w, 0), rfl⟩))) (fun a => Zg rfl rfl) (gP rfl (fun _ => .f rfl) Xz i26 (fun _ => rfl) (DGG.step (c := fun a => ⟨none, .any, [(107, .ptr q (0 + 258)), (106, .c (.ex ((a 17).1 0)))], [(9, (Bt q x0.Split.Of x0.Split.Many v ac))], [(9, (Bt q x0.Split.Of x0.Split.Many v ((a 17).1 0)))]⟩) [17] (fun a γ' h => by simp only [h 17 (by decide)]) (fun a t hm => oF rfl rfl (Wf (i := 9) (cells' := ((Q5.oc 256 .u8 x0.Split.Of) ++ (([.d (.int .i64 x0.Split.Many), .d (.ex v), .d (.ex ((a 17).1 0))]:List OC)))) rfl rfl i26 hm.s0 hm.s1 hm.o0 (nb rfl) rfl ⟨u0, rfl⟩)) (fun a => Zg rfl rfl) (gF [0,1,0,0,8,28,0,0,128,508,0,0,2048,8188,0,32764,65532,131071,262143,524287] Qx rfl (by kernel_rfl) (fun _ => by kernel_rfl) (fun a u hu => (Qk (tN (Ql hu (Qr (mw rfl (oI rfl ?_))))))))))
  refine aw rfl (nL (tN ?_))
  refine Qf ?_ (hgo0 (wI (aj + (1:Int))) x1 x0 al am (aa ++ [(Qa.mk (([] : List Int) ++ b) (([] : List Int) ++ g) (([] : List Int) ++ j) p)]) ad af ag ai q v ((a 17).1 0) h)
  exact tr rfl (.c (.s (.s (.s (.s .z)))) (.c (.s (.s (.s (.s .z)))) (.c (.s (.s (.s (.s .z)))) (.c (.s (.s (.s (.s .z)))) (.c (.s (.s (.s (.s .z)))) (.c (.s (.s (.s (.s .z)))) (.c (.s (.s (.s (.s .z)))) (.c (.s (.s (.s (.s .z)))) (.n _)))))))))
theorem Qc8 {r : Qc} (K : Nat) (wx1 : Value) (x1 : List Int) : ∀ (k : Nat), E8 wx1 x1 r (Y8 K k) := by
 intro k
 induction k with
 | zero =>
  intro q x1 x0 u b g w y aa ab ac j m h
  exact zn h
 | succ k ih =>
  intro q x1 x0 u b g w y aa ab ac j m h
  rw [Y8] at h
  refine Q0 (T.seq (sR (Qr (mw rfl (oP Xz i26 rfl (oL 1 Vj rfl (oU x0.States Qb Vj rfl ?_)))))))
  refine oI rfl (nL (tN ?_))
  rcases Qg h with ⟨p, h⟩ | ⟨p, h⟩
  refine Qp rfl p (T.skip (tN (T.seq (T.block (sR (Qr (oP Xz i26 rfl (oL 1 Vj rfl ?_))))))))
  refine mw rfl ?_
  obtain ⟨a, ad, h⟩ := bind_some h
  refine oX x0.States Qb Vj i51 ad rfl (oJ V1 i51 rfl (sp rfl (Za rfl (dk rfl) i51 rfl (fun af => (sp rfl (Qt (i := 0) (cells' := [.d (.sl false 1 (mI a.L)), .d (.sl false 1 (mI a.R)), .d (.sl false 1 (mI a.Rule)), .d (.sl false 1 (a.Next.map (cL 2 Qh)))]) rfl rfl i51 rfl rfl rfl rfl (nb rfl) rfl (nL (tN (sR (Qr (aw rfl (nL (tN ?_)))))))))))))
  refine T.seq (sR (Qr (aw rfl (nL (tN (T.block (T.loop (Qf (Xd 55 1) ?_))))))))
  refine Qf ?_ (Qc7 K wx1 x1 (Y8 K k) ih K q (0:Int) x1 x0 u b g a.L a.R a.Rule a.Next [] w y aa ab ac j m af (Qd7 60) h)
  exact tr rfl (.c (.s (.s .z)) (.c (.s (.s .z)) (.c (.s (.s .z)) (.c (.s (.s .z)) (.c (.s (.s .z)) (.c (.s (.s .z)) (.c (.s (.s .z)) (.c (.s (.s .z)) (.c (.s .z) (.c .z (.n _)))))))))))
  refine Qo rfl p (T.exit (Qj (Qj (Qq (tN (sR (Qr (Uh (Uf 7 rfl) (sp rfl (Zj (Iz (i := 5) (l := ((Q5.dc 256 .u8 x0.Split.Of) ++ (([.int .i64 x0.Split.Many, .ex j, .ex m] : List DC)))) rfl (dk rfl) Xz rfl i28 rfl rfl rfl rfl rfl) (Zt 108 (l := ((Q5.dc 256 .u8 x0.Split.Of) ++ (([.int .i64 x0.Split.Many, .ex j, .ex m] : List DC)))) (l' := ((Q5.dc 256 .u8 x0.Split.Of) ++ (([.int .i64 x0.Split.Many, .sl false 2 (mA b), .sl false 4 (g.map Qb)] : List DC)))) (.app _ (.cons (.same _) (.cons (.view 6 rfl) (.cons (.view 7 rfl) (.refl _)))))) (sp rfl (Qt (i := 2) (cells' := ((Q5.oc 256 .u8 x0.Split.Of) ++ (([.d (.int .i64 x0.Split.Many), .d (.sl false 2 (mA b)), .d (.sl false 4 (g.map Qb))]:List OC)))) rfl rfl i28 rfl rfl rfl rfl (nb rfl) rfl (nL (tN ?_))))))))))))))
  refine T.ret (Q7 (.cons _ _ _ _ (.cellAgg 4 28 _ 0 2 28 _ ((Q5.dc 256 .u8 x0.Split.Of) ++ (([.int .i64 x0.Split.Many, .sl false 2 (mA b), .sl false 4 (g.map Qb)] : List DC))) _ _ 259 _ rfl rfl rfl rfl Xz rfl i28) .nil) (.cons 0 rfl (.nil _)) (by cases h; exact ⟨gl [], rfl, rfl⟩))
theorem Cx (K : Nat) {x0 : Qc} {x1 : List Int} {wx1 : Value} {r : Qc} (h : Vf K x0 x1 = some r) : U3 tp 29 [.agg ((Q5.dc 256 .u8 x0.Split.Of) ++ (([.int .i64 x0.Split.Many, .sl false 2 (mA x0.Counts), .sl false 4 (x0.States.map Qb)] : List DC))), .c (.ex wx1)] [.arrX wx1 3 1 0 (mI x1)] (fun γ => (.agg ((Q5.dc 256 .u8 r.Split.Of) ++ (([.int .i64 r.Split.Many, .sl false 2 (mA r.Counts), .sl false 4 (r.States.map Qb)] : List DC))))) (fun γ => [.arrX wx1 3 1 0 (mI x1)]) := by
 refine CI 109 fu29 rfl ?_
 unfold Vf at h
 refine sR (Qr (sp rfl (Q8 rfl (dk rfl) rfl (fun g => (sp rfl (Za rfl (dk rfl) i28 rfl (fun j => (nL (tN (T.seq (Ql (Xd 59 2) (Ql (Iy 51 4) ?_))))))))))))
 refine Ql Zu (Ql Zu (Ur (gP rfl (fun _ => .f rfl) Xz i24 (fun _ => rfl) (gW 5 ((Q5.dc 256 .u8 x0.Split.Of) ++ (([.int .i64 x0.Split.Many] : List DC))) rfl (fun _ => .f rfl) Qj2 i24 (fun _ => rfl) (dC (c := ⟨some 15, .sl true 2 (([] : List Ye).map (Ye.dc .i64)), [], [], []⟩) (fun t hm => oF rfl rfl (OpT.buildSlice (elems := ([] : List Ye).map (Ye.dc .i64)) rfl (dk rfl) Qcs i59 (by decide) rfl (Hs rfl) Vx rfl rfl (Xh rfl) (by decide) ⟨u0, rfl⟩)) (fun _ => rfl) (fun _ => rfl) (gP rfl (fun _ => .f rfl) Xz i25 (fun _ => rfl) ?_))))))
 refine gL 5 rfl (fun _ => .f rfl) Qcs (fun _ => rfl) ?_
 obtain ⟨m, h⟩ := Q6 h
 refine DGG.step (c := fun a => ⟨some 18, .c (.ex ((a 5).1 0)), [(17, .sl false 2 (mA x0.Counts)), (15, .sl true 2 (([] : List Ye).map (Ye.dc .i64)))], [(0, .ro 0 [])], [(0, .arrA ((a 5).1 0) 59 2 ((([] : List Ye) ++ x0.Counts).map (Ye.dc .i64)))]⟩) [5] (fun a γ' h => by simp only [h 5 (by decide)]) (fun a t hm => oF rfl rfl (M1 0 (xs := ([] : List Ye)) (ys := x0.Counts) (f := (Ye.dc .i64)) rfl (dk rfl) Qcs i59 rfl hm.s1 hm.s0 (.inr rfl) m hm.o0 (fun w => ⟨(fun _ => w, 0), rfl⟩))) (fun a => Zg rfl rfl) (DGG.step (c := fun a => ⟨some 19, .agg ((Q5.dc 256 .u8 x0.Split.Of) ++ (([.int .i64 x0.Split.Many, .ex ((a 5).1 0), .ex (.slice none 0 0)] : List DC))), [(14, .agg ((Q5.dc 256 .u8 x0.Split.Of) ++ (([.int .i64 x0.Split.Many] : List DC)))), (18, .c (.ex ((a 5).1 0)))], [], []⟩) [5] (fun a γ' h => by simp only [h 5 (by decide)]) (fun a t hm => oF rfl rfl (OpT.build (l := ((Q5.dc 256 .u8 x0.Split.Of) ++ (([.int .i64 x0.Split.Many, .ex ((a 5).1 0), .ex (.slice none 0 0)] : List DC)))) rfl (dk rfl) (Zk (pl := [(0, 257), (257, 1), (258, 1)]) Xz i28 rfl) (Hs rfl) (Z8 hm.s0 rfl (Z8 hm.s1 rfl Vx)) rfl ⟨u0, rfl⟩)) (fun a => Zg rfl rfl) (DGG.step (c := fun a => ⟨some 5, .ptr ((a 7).2) 0, [], [(1, .ro 0 [])], [(1, .box ((a 7).2) 28 ((Q5.oc 256 .u8 (Q5.mk fun _ => 0)) ++ (([.d (.int .i64 (0:Int)), .d (.ex (.slice none 0 0)), .d (.ex (.slice none 0 0))]:List OC))))]⟩) [7] (fun a γ' h => by simp only [h 7 (by decide)]) (fun a t hm => oF rfl rfl (Qcd 1 rfl (dk rfl) i28 rfl hm.o0 (fun b => ⟨(fun _ => undef, b), rfl⟩))) (fun a => Zg rfl rfl) (DGG.step (c := fun a => ⟨none, .any, [(5, .ptr ((a 7).2) 0), (19, .agg ((Q5.dc 256 .u8 x0.Split.Of) ++ (([.int .i64 x0.Split.Many, .ex ((a 5).1 0), .ex (.slice none 0 0)] : List DC))))], [(1, .box ((a 7).2) 28 ((Q5.oc 256 .u8 (Q5.mk fun _ => 0)) ++ (([.d (.int .i64 (0:Int)), .d (.ex (.slice none 0 0)), .d (.ex (.slice none 0 0))]:List OC))))], [(1, .box ((a 7).2) 28 ((Q5.oc 256 .u8 x0.Split.Of) ++ (([.d (.int .i64 x0.Split.Many), .d (.ex ((a 5).1 0)), .d (.ex (.slice none 0 0))]:List OC))))]⟩) [5, 7] (fun a γ' h => by simp only [h 5 (by decide), h 7 (by decide)]) (fun a t hm => oF rfl rfl (Qt (i := 1) (cells' := ((Q5.oc 256 .u8 x0.Split.Of) ++ (([.d (.int .i64 x0.Split.Many), .d (.ex ((a 5).1 0)), .d (.ex (.slice none 0 0))]:List OC)))) rfl rfl i28 hm.s0 hm.s1 rfl hm.o0 (nb rfl) rfl ⟨u0, rfl⟩)) (fun a => Zg rfl rfl) (gF [0,1,0,0,8,28,63,0,255] Qx rfl (by kernel_rfl) (fun _ => by kernel_rfl) (fun a u hu => (tN (Ql hu (T.seq (sR (Qr ?_))))))))))
 refine aw rfl (nL (tN (T.block (T.loop (Qf (Iy 51 4) ?_)))))
 refine Qf ?_ (Qc8 K wx1 x1 K (0:Int) x1 x0 (Q5.mk fun _ => 0) (([] : List Ye) ++ x0.Counts) [] g j (Qd7 57) (Qd7 58) ((a 7).2) ((a 5).1 0) (Qd7 59) h)
 exact tr rfl (.c (.s (.s (.s (.s (.s (.s (.s .z))))))) (.c (.s (.s (.s (.s (.s (.s .z)))))) (.c (.s (.s (.s (.s (.s .z))))) (.c (.s (.s (.s (.s .z)))) (.c (.s (.s (.s .z))) (.c (.s (.s .z)) (.c (.s .z) (.c .z (.n _)))))))))
abbrev Qeo (r : List Int) : ES := Jm tp ff30 (fun y t => y = (.sl false 1 (mI r)) ∧ t = [])
abbrev Pg (r : List Int) : ES := fT 74 [1,1,1,1,1] ff30 (Qeo r)
abbrev Kh (r : List Int) : ES := Qv 0 ((Pg r))
abbrev I7 (r : List Int) : ES := fL 74 [1,1,1,1,0,1,0,0] ff30 (Kh r)
abbrev Ej (r : List Int) : ES := fT 74 [1,1,1,1,0,1,0,0,1,1] ff30 (I7 r)
abbrev Cc (r : List Int) : ES := Qv 1 ((Ej r))
abbrev J1 (r : List Int) : ES := Qv 2 ((Cc r))
abbrev Cb (r : List Int) : ES := fL 74 [1,1,1,1,0,1,0,0,1,0,0,1,1,0,0] ff30 (J1 r)
abbrev Mk (r : List Int) : ES := fT 74 [1,1,1,1,0,1,0,0,1,0,0,1,1,0,0,1,1] ff30 (Cb r)
abbrev Hy (r : List Int) : ES := Qv 3 ((Mk r))
abbrev Hb (r : List Int) : ES := Qv 4 ((Hy r))
abbrev Dd (r : List Int) (go : Int → Int → Qc → (List Int) → (List Bool) → (List Int) → (List Int) → (List Int) → (List (List Qd)) → Option (List Int)) : Prop := ∀ (a b : Int) (x0 : Qc) (f : List Int) (g : List Bool) (i j l : List Int) (m : List (List Qd)) (n : Nat) (p q : Value) (s : Nat), go a b x0 f g i j l m = some r → TL tp 74 (ca [1,1,1,1,0,1,0,0,1,0,0,1,1,0,0] ff30) ⟨[(1, .ptr n 0), (3, .c (.ex p)), (4, .c (.ex q)), (5, .int .i64 a), (6, .ptr s 0), (7, .int .i64 b)], [(Li n x0.Split.Of x0.Split.Many x0.Counts x0.States), .arrA p 3 1 (mI f), .arrX q 4 1 0 (g.map cB), (W0 s i j l m)]⟩ (J1 r)
theorem Qaa {r : List Int} (K : Nat) (go1 : Int → Int → Qc → (List Int) → (List Bool) → (List Int) → (List Int) → (List Int) → (List (List Qd)) → Option (List Int)) (hgo1 : Dd r go1) : ∀ (k : Nat), ∀ (l m aa : Int) (x0 : Qc) (j : List Int) (b : List Bool) (p q s : List Int) (g : List (List Qd)) (u : Nat) (ab w : Value) (y : Nat), Yl K go1 k l m aa x0 j b p q s g = some r → TL tp 74 (ca [1,1,1,1,0,1,0,0,1,0,0,1,1,0,0,1,0,0,1,0,0] ff30) ⟨[(1, .ptr u 0), (3, .c (.ex ab)), (4, .c (.ex w)), (5, .int .i64 l), (6, .ptr y 0), (7, .int .i64 m), (8, .int .i64 aa)], [(Li u x0.Split.Of x0.Split.Many x0.Counts x0.States), .arrA ab 3 1 (mI j), .arrX w 4 1 0 (b.map cB), (W0 y p q s g)]⟩ (Hb r) := by
 intro k
 induction k with
 | zero =>
  intro l m aa x0 j b p q s g u ab w y h
  exact zn h
 | succ k ih =>
  intro l m aa x0 j b p q s g u ab w y h
  rw [Yl] at h
  refine Q0 (T.seq (sR (Qr (mw rfl (oP V1 i49 rfl (oL 3 Lk rfl (mw rfl ?_)))))))
  obtain ⟨ad, al, h⟩ := bind_some h
  refine oX g (cL 2 Qh) Lk i55 al rfl (oR Ma rfl (oU ad Qh Ma rfl (oI rfl (nL (tN ?_)))))
  rcases Qg h with ⟨ai, h⟩ | ⟨ai, h⟩
  refine Qp rfl ai (T.skip (tN (T.seq (T.block (sR (Qr (oP V1 i49 rfl (oL 3 Lk rfl ?_))))))))
  refine mw rfl (oX g (cL 2 Qh) Lk i55 al rfl (oR Ma rfl (mw rfl ?_)))
  obtain ⟨ac, am, h⟩ := bind_some h
  refine oX ad Qh Ma i54 am rfl (sp rfl (Ug rfl (dk rfl) Lj rfl i3 (by decide) rfl (oR ul3 rfl (aw rfl (nL (tN (sR (Qr (mw rfl (oI rfl ?_))))))))))
  refine mw rfl ?_
  rcases Qg h with ⟨a, h⟩ | ⟨a, h⟩
  refine sn rfl a (OpT.move rfl (dk rfl) rfl (sn rfl a (OpT.move rfl (dk rfl) rfl ?_)))
  obtain ⟨af, ag, h⟩ := bind_some h
  refine sn rfl a (Zc (n := 2) (xs := b) (f := cB) (old := af) rfl (dk rfl) Qkd i4 rfl rfl rfl ag (sn rfl a (X1 (i := 2) (xs := b) (f := cB) (old := af) rfl (dk rfl) ul4 rfl rfl rfl (Zd ag).2 rfl (sn rfl a (OpT.not rfl (dk rfl) rfl (oY a rfl (nL (tN ?_))))))))
  rcases Qg h with ⟨aj, h⟩ | ⟨aj, h⟩
  refine Qp rfl aj (sR (Qr (mw rfl (mw rfl (sp rfl (Zc (n := 2) (xs := b) (f := cB) (old := af) rfl (dk rfl) Qkd i4 rfl rfl rfl ag (sp rfl (Yr (i := 2) (xs := b) (f := cB) (old := af) (new := true) rfl rfl i4 rfl rfl rfl (Zd ag).2 (Qmm _) (nb rfl) rfl (nL (tN ?_))))))))))
  refine Qr (mw rfl (mw rfl (sp rfl (OpT.buildSlice (elems := ([ac.To] : List Int).map (cI .i64)) rfl (dk rfl) Zi i3 (by decide) rfl (Hs rfl) rfl rfl rfl (Xh rfl) (by decide) ?_))))
  obtain ⟨an, h⟩ := Q6 h
  refine sp rfl (Zp (i := 1) (xs := j) (ys := [ac.To]) (f := (cI .i64)) rfl (dk rfl) Zi i3 rfl rfl rfl rfl an (fun ap => (aw rfl (nL (Qk (tN (Qr (mw rfl (oI rfl (aw rfl ?_))))))))))
  refine nL (tN ?_)
  refine Qf ?_ (ih l m (wI (aa + (1:Int))) x0 (j ++ [ac.To]) (List.set b (Int.toNat ac.To) true) p q s g u ap w y h)
  exact tq rfl rfl
  refine Qo rfl aj (T.skip (Qk (tN (Qr (mw rfl (oI rfl (aw rfl (nL (tN ?_)))))))))
  refine Qf ?_ (ih l m (wI (aa + (1:Int))) x0 j b p q s g u ab w y h)
  exact tq rfl rfl
  refine pf rfl a (pf rfl a (pf rfl a (pf rfl a (pf rfl a (oZ a rfl (nL (tN ?_)))))))
  refine Qo rfl rfl (T.skip (Qk (tN (Qr (mw rfl (oI rfl (aw rfl (nL (tN ?_)))))))))
  refine Qf ?_ (ih l m (wI (aa + (1:Int))) x0 j b p q s g u ab w y h)
  exact tq rfl rfl
  refine Qo rfl ai (T.exit (Qj (Qj (Qq (Qk (tN (Qr (mw rfl (oI rfl (aw rfl (nL (tN ?_))))))))))))
  refine Qf ?_ (hgo1 l (wI (m + (1:Int))) x0 j b p q s g u ab w y h)
  exact tq rfl rfl
abbrev De (r : List Int) (go : Int → Qc → (List Int) → (List Bool) → Option (List Int)) : Prop := ∀ (a : Int) (x0 : Qc) (b : List Int) (f : List Bool) (g : Nat) (i j : Value), go a x0 b f = some r → TL tp 74 (ca [1,1,1,1,0,1,0,0] ff30) ⟨[(1, .ptr g 0), (3, .c (.ex i)), (4, .c (.ex j)), (5, .int .i64 a)], [(Li g x0.Split.Of x0.Split.Many x0.Counts x0.States), .arrA i 3 1 (mI b), .arrX j 4 1 0 (f.map cB)]⟩ (Kh r)
theorem Qab {r : List Int} (K : Nat) (go0 : Int → Qc → (List Int) → (List Bool) → Option (List Int)) (hgo0 : De r go0) : ∀ (k : Nat), Dd r (Ym K go0 k) := by
 intro k
 induction k with
 | zero =>
  intro a q x0 b d s u v g j l m w h
  exact zn h
 | succ k ih =>
  intro a q x0 b d s u v g j l m w h
  rw [Ym] at h
  refine Q0 (T.seq (sR (Qr (mw rfl (oP V1 i49 rfl (oL 3 Lk rfl (oU g (cL 2 Qh) Lk rfl ?_)))))))
  refine oI rfl (nL (tN ?_))
  rcases Qg h with ⟨p, h⟩ | ⟨p, h⟩
  refine Qp rfl p (T.skip (tN (T.seq (T.block (sR (Qr (aw rfl (nL (tN ?_)))))))))
  refine T.block (T.loop ?_)
  refine Qf ?_ (Qaa K (Ym K go0 k) ih K a q (0:Int) x0 b d s u v g j l m w h)
  exact tq rfl rfl
  refine Qo rfl p (T.exit (Qj (Qj (Qq (Qk (tN (Qr (mw rfl (oI rfl (aw rfl (nL (tN ?_))))))))))))
  refine Qf ?_ (hgo0 (wI (a + (1:Int))) x0 b d j l m h)
  exact tq rfl rfl
theorem Qac {r : List Int} (K : Nat) : ∀ (k : Nat), De r (Y2 K k) := by
 intro k
 induction k with
 | zero =>
  intro m x0 j y l p w h
  exact zn h
 | succ k ih =>
  intro m x0 j y l p w h
  rw [Y2] at h
  refine Q0 (T.seq (sR (Qr (mw rfl (mw rfl (sp rfl (Lf (i := 1) (xs := j) (f := (cI .i64)) rfl (dk rfl) Zi rfl rfl (oI rfl ?_))))))))
  refine nL (tN ?_)
  rcases Qg h with ⟨aa, h⟩ | ⟨aa, h⟩
  refine Qp rfl aa (T.skip (tN (T.seq (T.block (T.seq (Ql Zu (Ur ?_)))))))
  refine gP rfl (fun _ => .f rfl) Xz i26 (fun _ => rfl) (gL 1 rfl (fun _ => .f rfl) Vj (fun _ => rfl) (dC (c := ⟨some 25, .sl false 1 (mI j), [(3, .c (.ex p))], [(2, .arrA p 3 1 (mI j))], []⟩) (fun t hm => oF rfl rfl (Zj (OpT.move rfl (dk rfl) hm.s0 rfl) (Ks 25 2 hm.o0) ⟨u0, rfl⟩)) (fun _ => rfl) (fun _ => rfl) (gM rfl (fun _ => .f rfl) (fun _ => rfl) ?_)))
  obtain ⟨q, ab, h⟩ := bind_some h
  refine gX j (cI .i64) rfl (fun _ => .f rfl) Zi i3 ab (fun _ => rfl) (gR rfl (fun _ => .f rfl) ul3 (fun _ => rfl) ?_)
  obtain ⟨g, ac, h⟩ := bind_some h
  refine gX x0.States Qb rfl (fun _ => .f rfl) Vj i51 ac (fun _ => rfl) (gJ rfl (fun _ => .f rfl) V1 i51 (fun _ => rfl) (DGG.step (c := fun a => ⟨some 6, .ptr ((a 8).2) 0, [], [(0, .ro 0 [])], [(0, .box ((a 8).2) 51 [.d (.ex (.slice none 0 0)), .d (.ex (.slice none 0 0)), .d (.ex (.slice none 0 0)), .d (.ex (.slice none 0 0))])]⟩) [8] (fun a γ' h => by simp only [h 8 (by decide)]) (fun a t hm => oF rfl rfl (Qcd 0 rfl (dk rfl) i51 rfl hm.o0 (fun b => ⟨(fun _ => undef, b), rfl⟩))) (fun a => Zg rfl rfl) (DGG.step (c := fun a => ⟨none, .any, [(6, .ptr ((a 8).2) 0), (30, .agg [.sl false 1 (mI g.L), .sl false 1 (mI g.R), .sl false 1 (mI g.Rule), .sl false 1 (g.Next.map (cL 2 Qh))])], [(0, .box ((a 8).2) 51 [.d (.ex (.slice none 0 0)), .d (.ex (.slice none 0 0)), .d (.ex (.slice none 0 0)), .d (.ex (.slice none 0 0))])], [(0, .box ((a 8).2) 51 [.d (.sl false 1 (mI g.L)), .d (.sl false 1 (mI g.R)), .d (.sl false 1 (mI g.Rule)), .d (.sl false 1 (g.Next.map (cL 2 Qh)))])]⟩) [8] (fun a γ' h => by simp only [h 8 (by decide)]) (fun a t hm => oF rfl rfl (Qt (i := 0) (cells' := [.d (.sl false 1 (mI g.L)), .d (.sl false 1 (mI g.R)), .d (.sl false 1 (mI g.Rule)), .d (.sl false 1 (g.Next.map (cL 2 Qh)))]) rfl rfl i51 hm.s0 hm.s1 rfl hm.o0 (nb rfl) rfl ⟨u0, rfl⟩)) (fun a => Zg rfl rfl) (gF [0,1,0,0,12,28,63,127,0,511] Qx rfl (by kernel_rfl) (fun _ => by kernel_rfl) (fun a u hu => (tN (Ql hu (sR (Qr (aw rfl ?_))))))))))
  refine nL (tN (T.block (T.loop ?_)))
  refine Qf ?_ (Qab K (Y2 K k) ih K m (0:Int) x0 j y g.L g.R g.Rule g.Next l p w ((a 8).2) h)
  exact tr rfl (.c (.s .z) (.c (.s .z) (.c (.s .z) (.c .z (.n _)))))
  refine Qo rfl aa (T.exit (Qj (Qj (Qq (tN (sR (Qr (mw rfl (aw rfl (nL (tN (T.ret ?_))))))))))))
  refine Yw (Zr.view 2 1 rfl rfl) (fd rfl (by cases h; exact ⟨rfl, rfl⟩))
theorem Qep (K : Nat) {x0 : Qc} {r : List Int} (h : Wt K x0 = some r) : Zh tp 30 [.agg ((Q5.dc 256 .u8 x0.Split.Of) ++ (([.int .i64 x0.Split.Many, .sl false 2 (mA x0.Counts), .sl false 4 (x0.States.map Qb)] : List DC)))] [] (.sl false 1 (mI r)) := by
 refine CI 74 fu30 rfl ?_
 unfold Wt at h
 refine sR (Qr (sp rfl (Q8 rfl (dk rfl) rfl (fun d => (aw rfl (nL (tN (sR (Qr (sp rfl (OpT.buildSlice (elems := ([(0:Int)] : List Int).map (cI .i64)) rfl (dk rfl) Zi i3 (by decide) rfl (Hs rfl) rfl rfl rfl (Xh rfl) (by decide) (aw rfl (nL (tN (sR (Qr ?_))))))))))))))))
 refine oP Xz i26 rfl (oL 0 Vj rfl (oU x0.States Qb Vj rfl ?_))
 obtain ⟨g, h⟩ := Q6 h
 obtain ⟨j, h⟩ := Q6 h
 refine sp rfl (Vy (f := cB) (zv := (false : Bool)) rfl (dk rfl) Qkd i4 (by decide) rfl rfl rfl rfl rfl g j (fun l => (aw rfl (nL (tN (sR (Qr (mw rfl ?_))))))))
 obtain ⟨a, b, h⟩ := bind_some h
 refine sp rfl (Zc (n := 0) (xs := (List.replicate (Int.toNat (x0.States.length : Int)) (false : Bool))) (f := cB) (old := a) rfl (dk rfl) Qkd i4 rfl rfl rfl b (sp rfl (Yr (i := 0) (xs := (List.replicate (Int.toNat (x0.States.length : Int)) (false : Bool))) (f := cB) (old := a) (new := true) rfl rfl i4 rfl rfl rfl (Zd b).2 (Qmm _) (nb rfl) rfl (nL (tN (T.seq (sR (Qr (aw rfl (nL (tN ?_)))))))))))
 refine T.block (T.loop (Ql3 (Qi9 3 3 rfl) (fun m => ?_)))
 refine Qf ?_ (Qac K K (0:Int) x0 [(0:Int)] (List.set (List.replicate (Int.toNat (x0.States.length : Int)) (false : Bool)) (Int.toNat (0:Int)) true) d m l h)
 exact tr rfl (.c (.s (.s .z)) (.c .z (.c .z (.n _))))
end Go.Rv

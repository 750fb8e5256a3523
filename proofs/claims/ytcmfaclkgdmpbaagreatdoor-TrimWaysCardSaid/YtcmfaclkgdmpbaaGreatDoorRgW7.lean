/- Each function computes what its plain text says: printed by a program of ours. -/
import Derived.Test.YtcmfaclkgdmpbaaGreatDoorRgW6
namespace Go.Rv
open Go.Proofs
set_option maxRecDepth 100000
set_option maxHeartbeats 4000000
set_option linter.unusedVariables false
abbrev Fj (r : Bool) : ES := U6 tp ff43 (fun y t => y = (.bool r) ∧ t = [])
abbrev Py (r : Bool) : ES := fT 96 [1,1,1] ff43 (Fj r)
abbrev Ox (r : Bool) : ES := fT 96 [1,1,1,1] ff43 (Fj r)
abbrev Kb (r : Bool) : ES := Qx 0 ((Ox r))
abbrev Io (r : Bool) : ES := fL 96 [1,1,1,0,1,0,0] ff43 (Kb r)
abbrev Dk (r : Bool) : ES := fT 96 [1,1,1,0,1,0,0,1,1] ff43 (Io r)
abbrev Jy (r : Bool) : ES := Qx 1 ((Dk r))
abbrev Cc (r : Bool) : ES := fT 96 [1,1,1,0,1,0,0,1,0,0,1] ff43 (Jy r)
abbrev Ma (r : Bool) : ES := Qx 2 ((Jy r))
theorem V2 {r : Bool} (K : Nat) (h : Zz K = some r) : T tp 96 (ca [1,1,0,1,0] ff43) ⟨[], []⟩ (Py r) := by
 unfold Zz at h
 refine sR (Qq (aw rfl (nL (tN (T.ret (Qv (fd rfl (by cases h; exact ⟨rfl, rfl⟩))))))))
theorem Gs {r : Bool} (K : Nat) (h : Y0 K = some r) : T tp 96 (ca [1,1,1,0,1,0,0,1,0,0,0,1,0] ff43) ⟨[], []⟩ (Cc r) := by
 unfold Y0 at h
 refine sR (Qq (aw rfl (nL (tN (T.ret (Qv (Q1 (Qv (Qv (Q1 (Qv (fd rfl (by cases h; exact ⟨rfl, rfl⟩)))))))))))))
abbrev B3 (r : Bool) (go : Int → Int → Qm → Qa → Option Bool) : Prop := ∀ (a b : Int) (x0 : Qm) (x1 : Qa) (c f : Nat), go a b x0 x1 = some r → TL tp 96 (ca [1,1,1,0,1,0,0] ff43) ⟨[(2, .ptr c 0), (3, .ptr f 0), (5, .int .i64 a), (6, .int .i64 b)], [(Qec c x0.Split.Of x0.Split.Many x0.Counts x0.States), (K3 f x1.L x1.R x1.Rule x1.Next)]⟩ (Kb r)
theorem Sa {r : Bool} (K : Nat) (go1 : Int → Int → Qm → Qa → Option Bool) (hgo1 : B3 r go1) : ∀ (k : Nat), ∀ (p j q : Int) (x1 : Qa) (s w y : Int) (aa : Bool) (ab : Int) (ac ad : List Qc) (af : Int) (x0 : Qm) (ag : Bool) (b a : Nat), Xw K go1 k p j q x1 s w y aa ab ac ad af x0 ag = some r → TL tp 96 (ca [1,1,1,0,1,0,0,1,0,0,1,1,0,0] ff43) ⟨[(2, .ptr b 0), (3, .ptr a 0), (5, .int .i64 p), (6, .int .i64 j), (7, .int .i64 q), (55, .ptr a (0 + 2)), (56, .sl false 1 (mI x1.Rule)), (57, .int .i64 s), (58, .ref [.int .i64 w]), (59, .int .i64 y), (60, .bool aa), (63, .ptr a (0 + 3)), (64, .sl false 1 (x1.Next.map (cL 2 Qi))), (65, .int .i64 ab), (66, .ref [.sl false 2 (ac.map Qi)]), (67, .sl false 2 (ad.map Qi)), (68, .int .i64 af), (69, .ptr b (0 + 0)), (70, .ptr b (0 + 0 + 256)), (71, .int .i64 x0.Split.Many), (72, .bool ag)], [(Qec b x0.Split.Of x0.Split.Many x0.Counts x0.States), (K3 a x1.L x1.R x1.Rule x1.Next)]⟩ (Ma r) := by
 intro k
 induction k with
 | zero =>
  intro p j q x1 s w y aa ab ac ad af x0 ag b a h
  exact zn h
 | succ k ih =>
  intro p j q x1 s w y aa ab ac ad af x0 ag b a h
  rw [Xw] at h
  refine Q3 (T.seq (sR (Qq (mw rfl (oP Ju i49 rfl (oL 1 If rfl (mw rfl ?_)))))))
  obtain ⟨m, am, h⟩ := bind_some h
  refine oX x1.Next (cL 2 Qi) If i55 am rfl (oR E2 rfl (oU m Qi E2 rfl (oI rfl (nL (tN ?_)))))
  rcases Qe h with ⟨aj, h⟩ | ⟨aj, h⟩
  refine Qp rfl aj (T.skip (tN (T.seq (T.block (T.seq (Yg (dW 0 ((Zg.dc 256 .u8 x0.Split.Of) ++ (([.int .i64 x0.Split.Many, .sl false 2 (mA x0.Counts), .sl false 4 (x0.States.map Qd)] : List DC))) rfl (.f rfl) Jl i28 rfl ?_)))))))
  refine dW 1 [.sl false 1 (mI x1.L), .sl false 1 (mI x1.R), .sl false 1 (mI x1.Rule), .sl false 1 (x1.Next.map (cL 2 Qi))] rfl (.f rfl) Ju i51 rfl (dP rfl (.f rfl) Ju i49 rfl (dL 1 rfl (.f rfl) If rfl (dV rfl rfl (dX x1.Next (cL 2 Qi) rfl (.f rfl) If i55 am rfl (dR rfl (.f rfl) E2 rfl (dV rfl rfl ?_))))))
  obtain ⟨g, an, h⟩ := bind_some h
  refine dX m Qi rfl (.f rfl) E2 i54 an rfl (dJ rfl (.f rfl) Bi i54 rfl ?_)
  obtain ⟨ai, ap, h⟩ := bind_some h
  refine dH fu76 (Zl.nil (Qc3 K ap)) rfl (.f rfl) rfl (dT rfl (.f rfl) rfl (dF [0,0,0,4,0,28,60,0,252,508,1023,2047] Qz rfl (by kernel_rfl) (fun u hu => (tN (Qk hu ?_)))))
  rcases Qe h with ⟨al, h⟩ | ⟨al, h⟩
  refine Qp rfl al (sR (Qq (aw rfl (nL (tN (T.ret (Q1 (Qv (Qv (Q1 (Q1 (Qv (Qv (Q1 (Qv (fd rfl (by cases h; exact ⟨rfl, rfl⟩)))))))))))))))))
  refine Qo rfl al (T.skip (Qn (tN (Qq (mw rfl (oI rfl (aw rfl (nL (tN ?_)))))))))
  refine Qg ?_ (ih p j (wI (q + (1:Int))) x1 s w y aa ab ac ad af x0 ag b a h)
  exact tq rfl rfl
  refine Qo rfl aj (T.exit (Ql (Ql (Qr (Qn (tN (Qq (mw rfl (oI rfl (aw rfl (nL (tN ?_))))))))))))
  refine Qg ?_ (hgo1 p (wI (j + (1:Int))) x0 x1 b a h)
  exact tq rfl rfl
theorem Sb {r : Bool} (K : Nat) : ∀ (k : Nat), B3 r (Yb K k) := by
 intro k
 induction k with
 | zero =>
  intro q l x0 x1 m b h
  exact zn h
 | succ k ih =>
  intro q l x0 x1 m b h
  rw [Yb] at h
  refine Q3 (T.seq (sR (Qq (mw rfl (mw rfl (oI rfl (nL (tN ?_))))))))
  rcases Qe h with ⟨s, h⟩ | ⟨s, h⟩
  refine Qp rfl s (T.skip (tN (T.seq (T.block (T.seq (T.seq (Yg ?_)))))))
  refine dP rfl (.f rfl) Ju i38 rfl (dL 1 rfl (.f rfl) Zu rfl (dV rfl rfl ?_))
  obtain ⟨a, y, h⟩ := bind_some h
  refine dX x1.Rule (cI .i64) rfl (.f rfl) Zu i3 y rfl (dR rfl (.f rfl) ul3 rfl (dI rfl (.f rfl) rfl (dV rfl rfl ?_)))
  rcases Qe h with ⟨p, h⟩ | ⟨p, h⟩
  refine dO p rfl rfl (dO p rfl rfl (dO p rfl rfl (dO p rfl rfl (dO p rfl rfl (dO p rfl rfl (dY rfl (.f rfl) p rfl ?_))))))
  refine dV rfl rfl (dO rfl rfl rfl (dO rfl rfl rfl (dO rfl rfl rfl (dO rfl rfl rfl (dO rfl rfl rfl (dO rfl rfl rfl ?_))))))
  refine dO rfl rfl rfl (dO rfl rfl rfl (dO rfl rfl rfl (dO rfl rfl rfl (dY rfl (.f rfl) rfl rfl (dF [0,1,0,7,15,31,63,127,255,127,1023,2047,4095,8191,16383,32767,65535,32767,262143,524287,1048575,32767,2129919,6324223,16777215,33554431] Qz rfl (by kernel_rfl) (fun u hu => (tN (Qk hu (Qp rfl rfl ?_)))))))))
  refine Qk ?_ (Gs K h)
  exact tq rfl rfl
  refine dP rfl (.n p rfl) Ju i38 rfl (dL 1 rfl (.n p rfl) Zu rfl (dM rfl (.n p rfl) rfl (dX x1.Rule (cI .i64) rfl (.n p rfl) Zu i3 y rfl (dR rfl (.n p rfl) ul3 rfl (dI rfl (.n p rfl) rfl (dZ rfl (.f rfl) p rfl ?_))))))
  refine dV rfl rfl ?_
  rcases Qe h with ⟨g, h⟩ | ⟨g, h⟩
  refine dO g rfl rfl (dO g rfl rfl (dO g rfl rfl (dO g rfl rfl (dO g rfl rfl (dO g rfl rfl (dO g rfl rfl ?_))))))
  refine dO g rfl rfl (dO g rfl rfl (dO g rfl rfl (dY rfl (.f rfl) g rfl (dF [0,1,0,7,15,31,63,127,255,127,1023,2047,4095,8191,16383,32767,65535,32767,262143,524287,1048575,32767,2129919,6324223,16777215,33554431] Qz rfl (by kernel_rfl) (fun u hu => (tN (Qk hu (Qp rfl rfl ?_))))))))
  refine Qk ?_ (Gs K h)
  exact tq rfl rfl
  refine dP rfl (.n g rfl) Ju i49 rfl (dL 1 rfl (.n g rfl) If rfl (dM rfl (.n g rfl) rfl ?_))
  obtain ⟨j, aa, h⟩ := bind_some h
  refine dX x1.Next (cL 2 Qi) rfl (.n g rfl) If i55 aa rfl (dR rfl (.n g rfl) E2 rfl (dN j Qi rfl (.n g rfl) E2 rfl (dP rfl (.n g rfl) Jl i24 rfl (dP rfl (.n g rfl) ul24 i3 rfl (dL 0 rfl (.n g rfl) ul3 rfl (dI rfl (.n g rfl) rfl ?_))))))
  refine dZ rfl (.f rfl) g rfl (dF [0,1,0,7,15,31,63,127,255,127,1023,2047,4095,8191,16383,32767,65535,32767,262143,524287,1048575,32767,2129919,6324223,16777215,33554431] Qz rfl (by kernel_rfl) (fun u hu => (tN (Qk hu ?_))))
  rcases Qe h with ⟨w, h⟩ | ⟨w, h⟩
  refine Qp rfl w ?_
  refine Qk ?_ (Gs K h)
  exact tq rfl rfl
  refine Qo rfl w (T.skip (tN (sR (Qq (aw rfl (nL (tN (T.block (T.loop ?_)))))))))
  refine Qg ?_ (Sa K (Yb K k) ih K q l (0:Int) x1 l a a (decide (a ≥ (512:Int))) l j j (j.length : Int) x0 ((j.length : Int) != x0.Split.Many) m b h)
  exact tq rfl rfl
  refine Qo rfl s (T.exit (Ql (Ql (Qr (tN (sR (Qq (aw rfl (nL (tN (T.ret (fd rfl (by cases h; exact ⟨rfl, rfl⟩)))))))))))))
theorem Qbh (K : Nat) {x0 : Qm} {x1 : Qa} {r : Bool} (h : Wy K x0 x1 = some r) : Zl tp 43 [.agg ((Zg.dc 256 .u8 x0.Split.Of) ++ (([.int .i64 x0.Split.Many, .sl false 2 (mA x0.Counts), .sl false 4 (x0.States.map Qd)] : List DC))), .agg [.sl false 1 (mI x1.L), .sl false 1 (mI x1.R), .sl false 1 (mI x1.Rule), .sl false 1 (x1.Next.map (cL 2 Qi))]] [] (.bool r) := by
 refine CI 96 fu43 rfl ?_
 unfold Wy at h
 refine sR (Qq (sp rfl (Zc rfl (dk rfl) rfl (fun l => (sp rfl (Zc rfl (dk rfl) rfl (fun m => (aw rfl (nL (tN (sR (Qq (oP Ju i38 rfl (oL 0 Zu rfl ?_))))))))))))))
 refine oU x1.R (cI .i64) Zu rfl ?_
 obtain ⟨p, q, h⟩ := bind_some h
 refine oH fu46 (Zl.nil (Fu K q)) rfl (aw rfl (nL (tN (T.seq (sR (Qq (mw rfl (oI rfl ?_))))))))
 refine mw rfl ?_
 rcases Qe h with ⟨g, h⟩ | ⟨g, h⟩
 refine pf rfl g (pf rfl g (pf rfl g (pf rfl g (oY g rfl (mw rfl (pf rfl rfl ?_))))))
 refine pf rfl rfl (pf rfl rfl (pf rfl rfl (pf rfl rfl (pf rfl rfl (pf rfl rfl (oY rfl rfl ?_))))))
 refine mw rfl (pf rfl rfl (pf rfl rfl (pf rfl rfl (pf rfl rfl (pf rfl rfl (oY rfl rfl ?_))))))
 refine mw rfl (pf rfl rfl (pf rfl rfl (pf rfl rfl (pf rfl rfl (pf rfl rfl (oY rfl rfl ?_))))))
 refine nL (tN (Qp rfl rfl ?_))
 refine Qk ?_ (V2 K h)
 exact tq rfl rfl
 refine sn rfl g (Xi rfl (dk rfl) Ju rfl i38 (by decide) rfl (sn rfl g (Zw (i := 0) rfl (dk rfl) Zu rfl rfl rfl rfl ?_)))
 obtain ⟨w, u, h⟩ := bind_some h
 refine sn rfl g (Ub rfl (dk rfl) fu75 rfl rfl (Zk.cons rfl (Zk.cons rfl Zk.nil)) (Zl.nil (Fl K (flx0 := false) u)) (sn rfl g (OpT.not rfl (dk rfl) rfl (oZ g rfl (mw rfl ?_)))))
 rcases Qe h with ⟨a, h⟩ | ⟨a, h⟩
 refine pf rfl a (pf rfl a (pf rfl a (pf rfl a (pf rfl a (pf rfl a (pf rfl a ?_))))))
 refine oY a rfl (mw rfl (pf rfl rfl (pf rfl rfl (pf rfl rfl (pf rfl rfl (pf rfl rfl ?_))))))
 refine oY rfl rfl (mw rfl (pf rfl rfl (pf rfl rfl (pf rfl rfl (pf rfl rfl (pf rfl rfl ?_))))))
 refine oY rfl rfl (nL (tN (Qp rfl rfl ?_)))
 refine Qk ?_ (V2 K h)
 exact tq rfl rfl
 refine sn rfl a (Xi rfl (dk rfl) Ju rfl i38 (by decide) rfl (sn rfl a (Zw (i := 0) rfl (dk rfl) Zu rfl rfl rfl rfl (sn rfl a (Xi rfl (dk rfl) Jl rfl i25 (by decide) rfl (sn rfl a (Zw (i := 1) rfl (dk rfl) Qcp rfl rfl rfl rfl (sn rfl a (Z9 (xs := x0.Counts) (f := (Zs.dc .i64)) rfl (dk rfl) Qcp rfl ?_)))))))))
 obtain ⟨y, v, h⟩ := bind_some h
 refine sn rfl a (Ub rfl (dk rfl) fu75 rfl rfl (Zk.cons rfl (Zk.cons rfl Zk.nil)) (Zl.nil (Fl K (flx0 := false) v)) (sn rfl a (OpT.not rfl (dk rfl) rfl (oZ a rfl (mw rfl ?_)))))
 rcases Qe h with ⟨b, h⟩ | ⟨b, h⟩
 refine pf rfl b (pf rfl b (pf rfl b (pf rfl b (pf rfl b (oY b rfl (mw rfl ?_))))))
 refine pf rfl rfl (pf rfl rfl (pf rfl rfl (pf rfl rfl (pf rfl rfl (oY rfl rfl (nL (tN ?_)))))))
 refine Qp rfl rfl ?_
 refine Qk ?_ (V2 K h)
 exact tq rfl rfl
 refine sn rfl b (Xi rfl (dk rfl) Ju rfl i38 (by decide) rfl (sn rfl b (Zw (i := 0) rfl (dk rfl) Zu rfl rfl rfl rfl (sn rfl b (Z9 (xs := x1.Rule) (f := (cI .i64)) rfl (dk rfl) Zu rfl (sn rfl b (OpT.move rfl (dk rfl) rfl (sn rfl b (Zi rfl rfl (dk rfl) rfl rfl (oZ b rfl (mw rfl ?_)))))))))))
 rcases Qe h with ⟨d, h⟩ | ⟨d, h⟩
 refine pf rfl d (pf rfl d (pf rfl d (pf rfl d (pf rfl d (oY d rfl (nL (tN ?_)))))))
 refine Qp rfl rfl ?_
 refine Qk ?_ (V2 K h)
 exact tq rfl rfl
 refine sn rfl d (Xi rfl (dk rfl) Ju rfl i49 (by decide) rfl (sn rfl d (Zw (i := 0) rfl (dk rfl) If rfl rfl rfl rfl (sn rfl d (Z9 (xs := x1.Next) (f := (cL 2 Qi)) rfl (dk rfl) If rfl (sn rfl d (OpT.move rfl (dk rfl) rfl (sn rfl d (Zi rfl rfl (dk rfl) rfl rfl (oZ d rfl (nL (tN ?_))))))))))))
 rcases Qe h with ⟨j, h⟩ | ⟨j, h⟩
 refine Qp rfl j ?_
 refine Qk ?_ (V2 K h)
 exact tq rfl rfl
 refine Qo rfl j (T.skip (tN (T.seq (sR (Qq (aw rfl (nL (tN (T.block ?_)))))))))
 refine T.loop ?_
 refine Qg ?_ (Sb K K p (0:Int) x0 x1 l m h)
 exact tr rfl (.c (.s .z) (.c .z (.n _)))
abbrev Mc (r : Bool) : ES := U6 tp ff19 (fun y t => y = (.bool r) ∧ t = [])
abbrev Sf (r : Bool) : ES := fT 93 [1,1] ff19 (Mc r)
abbrev P0 (r : Bool) : ES := fT 93 [1,1,1] ff19 (Mc r)
abbrev Ku (r : Bool) : ES := Qx 0 ((P0 r))
abbrev No (r : Bool) : ES := fL 93 [1,1,0,1,0,0] ff19 (Ku r)
abbrev Ej (r : Bool) : ES := fT 93 [1,1,0,1,0,0,1,1] ff19 (No r)
abbrev Bq (r : Bool) : ES := Qx 1 ((Ej r))
abbrev Oz (r : Bool) : ES := fT 93 [1,1,1,1] ff19 (Mc r)
abbrev Iv (r : Bool) : ES := Qx 2 ((Oz r))
theorem X5 {r : Bool} (K : Nat) (h : Zo K = some r) : T tp 93 (ca [1,0,1,0] ff19) ⟨[], []⟩ (Sf r) := by
 unfold Zo at h
 refine sR (Qq (aw rfl (nL (tN (T.ret (Qv (fd rfl (by cases h; exact ⟨rfl, rfl⟩))))))))
theorem Jg {r : Bool} (K : Nat) (h : Xy K = some r) : T tp 93 (ca [1,1,0,1,0,0,1,0,0,1,1,0] ff19) ⟨[], []⟩ (Bq r) := by
 unfold Xy at h
 refine sR (Qq (aw rfl (nL (tN (T.ret (Q1 (Qv (Qv (Q1 (Qv (fd rfl (by cases h; exact ⟨rfl, rfl⟩))))))))))))
theorem Sg {r : Bool} (K : Nat) : ∀ (k : Nat), ∀ (g : Int) (x0 : Qm) (b : Nat), Xx K k g x0 = some r → TL tp 93 (ca [1,1,1,0,1,0,0] ff19) ⟨[(1, .ptr b 0), (5, .int .i64 g)], [(Qec b x0.Split.Of x0.Split.Many x0.Counts x0.States)]⟩ (Iv r) := by
 intro k
 induction k with
 | zero =>
  intro g x0 b h
  exact zn h
 | succ k ih =>
  intro g x0 b h
  rw [Xx] at h
  refine Q3 (T.seq (sR (Qq (mw rfl (oP Jl i26 rfl (oL 0 Uh rfl (oU x0.States Qd Uh rfl ?_)))))))
  refine oI rfl (nL (tN ?_))
  rcases Qe h with ⟨m, h⟩ | ⟨m, h⟩
  refine Qp rfl m (T.skip (tN (T.seq (T.block (T.seq (Yg (dW 0 ((Zg.dc 256 .u8 x0.Split.Of) ++ (([.int .i64 x0.Split.Many, .sl false 2 (mA x0.Counts), .sl false 4 (x0.States.map Qd)] : List DC))) rfl (.f rfl) Jl i28 rfl ?_)))))))
  refine dP rfl (.f rfl) Jl i26 rfl (dL 0 rfl (.f rfl) Uh rfl (dV rfl rfl ?_))
  obtain ⟨a, q, h⟩ := bind_some h
  refine dX x0.States Qd rfl (.f rfl) Uh i51 q rfl (dJ rfl (.f rfl) Ju i51 rfl ?_)
  obtain ⟨j, s, h⟩ := bind_some h
  refine dH fu43 (Zl.nil (Qbh K s)) rfl (.f rfl) rfl (dT rfl (.f rfl) rfl (dF [0,0,2,0,14,30,63,127] Qz rfl (by kernel_rfl) (fun u hu => (tN (Qk hu ?_)))))
  rcases Qe h with ⟨p, h⟩ | ⟨p, h⟩
  refine Qp rfl p (sR (Qq (aw rfl (nL (tN (T.ret (Q1 (Qv (Qv (Q1 (Qv (fd rfl (by cases h; exact ⟨rfl, rfl⟩)))))))))))))
  refine Qo rfl p (T.skip (Qn (tN (Qq (mw rfl (oI rfl (aw rfl (nL (tN ?_)))))))))
  refine Qg ?_ (ih (wI (g + (1:Int))) x0 b h)
  exact tq rfl rfl
  refine Qo rfl m (T.exit (Ql (Ql (Qr (tN (sR (Qq (aw rfl (nL (tN (T.ret (fd rfl (by cases h; exact ⟨rfl, rfl⟩)))))))))))))
theorem Sh {r : Bool} (K : Nat) : ∀ (k : Nat), ∀ (p : Int) (x0 : Qm) (m : Nat), Y2 K k p x0 = some r → TL tp 93 (ca [1,1,0,1,0,0] ff19) ⟨[(1, .ptr m 0), (3, .int .i64 p)], [(Qec m x0.Split.Of x0.Split.Many x0.Counts x0.States)]⟩ (Ku r) := by
 intro k
 induction k with
 | zero =>
  intro p x0 m h
  exact zn h
 | succ k ih =>
  intro p x0 m h
  rw [Y2] at h
  refine Q3 (T.seq (sR (Qq (mw rfl (oP Jl i25 rfl (oL 0 Qcp rfl (oU x0.Counts (Zs.dc .i64) Qcp rfl ?_)))))))
  refine oI rfl (nL (tN ?_))
  rcases Qe h with ⟨q, h⟩ | ⟨q, h⟩
  refine Qp rfl q (T.skip (tN (T.seq (T.block (sR (Qq (oP Jl i25 rfl (oL 0 Qcp rfl ?_))))))))
  refine mw rfl ?_
  obtain ⟨l, w, h⟩ := bind_some h
  refine oX x0.Counts (Zs.dc .i64) Qcp i59 w rfl (oJ Qeu i59 rfl (sp rfl (Zb rfl (dk rfl) i59 rfl (fun y => (sp rfl (Qu (i := 0) (cells' := (Zs.oc .i64 l)) rfl rfl i59 rfl rfl rfl rfl (nb rfl) rfl (nL (tN (sR (Qq (sp rfl (Z1 rfl (dk rfl) Qeu i3 rfl rfl (by decide) (by decide) (sp rfl (Zw (i := 0) rfl (dk rfl) ul3 rfl rfl rfl (X1 (k := .i64) (a := l) (pre := []) (post := []) (by decide) (by decide)) ?_))))))))))))))
  refine oI rfl (mw rfl ?_)
  rcases Qe h with ⟨b, h⟩ | ⟨b, h⟩
  refine pf rfl b (pf rfl b (pf rfl b (pf rfl b (pf rfl b (oY b rfl (mw rfl ?_))))))
  refine pf rfl rfl (pf rfl rfl (pf rfl rfl (oY rfl rfl (mw rfl (pf rfl rfl (pf rfl rfl ?_))))))
  refine pf rfl rfl (oY rfl rfl (nL (tN (Qp rfl rfl ?_))))
  refine Qk ?_ (Jg K h)
  exact tq rfl rfl
  refine sn rfl b (Z1 rfl (dk rfl) Qeu i3 rfl rfl (by decide) (by decide) (sn rfl b (Zw (i := 0) rfl (dk rfl) ul3 rfl rfl rfl (X1 (k := .i64) (a := l) (pre := []) (post := []) (by decide) (by decide)) (sn rfl b (Z1 rfl (dk rfl) Qeu i3 rfl rfl (by decide) (by decide) (sn rfl b (Zw (i := 0) rfl (dk rfl) ul3 rfl rfl rfl (X1 (k := .i64) (a := l) (pre := []) (post := []) (by decide) (by decide)) (sn rfl b (Zi rfl rfl (dk rfl) rfl rfl (oZ b rfl (mw rfl ?_)))))))))))
  rcases Qe h with ⟨g, h⟩ | ⟨g, h⟩
  refine pf rfl g (pf rfl g (pf rfl g (oY g rfl (mw rfl (pf rfl rfl (pf rfl rfl ?_))))))
  refine pf rfl rfl (oY rfl rfl (nL (tN (Qp rfl rfl ?_))))
  refine Qk ?_ (Jg K h)
  exact tq rfl rfl
  refine sn rfl g (Z1 rfl (dk rfl) Qeu i3 rfl rfl (by decide) (by decide) (sn rfl g (Zw (i := 0) rfl (dk rfl) ul3 rfl rfl rfl (X1 (k := .i64) (a := l) (pre := []) (post := []) (by decide) (by decide)) (sn rfl g (Zi rfl rfl (dk rfl) rfl rfl (oZ g rfl (mw rfl ?_)))))))
  rcases Qe h with ⟨j, h⟩ | ⟨j, h⟩
  refine pf rfl j (pf rfl j (pf rfl j (oY j rfl (nL (tN (Qp rfl rfl ?_))))))
  refine Qk ?_ (Jg K h)
  exact tq rfl rfl
  refine sn rfl j (Z1 rfl (dk rfl) Qeu i3 rfl rfl (by decide) (by decide) (sn rfl j (Zw (i := 0) rfl (dk rfl) ul3 rfl rfl rfl (X1 (k := .i64) (a := l) (pre := []) (post := []) (by decide) (by decide)) (sn rfl j (Zi rfl rfl (dk rfl) rfl rfl (oZ j rfl (nL (tN ?_))))))))
  rcases Qe h with ⟨u, h⟩ | ⟨u, h⟩
  refine Qp rfl u ?_
  refine Qk ?_ (Jg K h)
  exact tq rfl rfl
  refine Qo rfl u (T.skip (Qn (tN (Qq (mw rfl (oI rfl (aw rfl (nL (tN ?_)))))))))
  refine Qg ?_ (ih (wI (p + (1:Int))) x0 m h)
  exact tr rfl (.c (.s .z) (.n _))
  refine Qo rfl q (T.exit (Ql (Ql (Qr (tN (T.seq (sR (Qq (aw rfl (nL (tN (T.block ?_))))))))))))
  refine T.loop ?_
  refine Qg ?_ (Sg K K (0:Int) x0 m h)
  exact tq rfl rfl
theorem Qbl (K : Nat) {x0 : Qm} {r : Bool} (h : Vf K x0 = some r) : Zl tp 19 [.agg ((Zg.dc 256 .u8 x0.Split.Of) ++ (([.int .i64 x0.Split.Many, .sl false 2 (mA x0.Counts), .sl false 4 (x0.States.map Qd)] : List DC)))] [] (.bool r) := by
 refine CI 93 fu19 rfl ?_
 unfold Vf at h
 refine sR (Qq (sp rfl (Zc rfl (dk rfl) rfl (fun s => (aw rfl (nL (tN (T.seq (sR (Qq (oP Jl i24 rfl ?_)))))))))))
 refine oA 0 ((Zg.dc 256 .u8 x0.Split.Of) ++ (([.int .i64 x0.Split.Many] : List DC))) ul24 i24 rfl ?_
 obtain ⟨w, u, h⟩ := bind_some h
 refine oH fu42 (Zl.nil (Qb7 K u)) rfl (oT rfl (mw rfl ?_))
 rcases Qe h with ⟨d, h⟩ | ⟨d, h⟩
 refine pf rfl d (pf rfl d (pf rfl d (pf rfl d (oY d rfl (mw rfl (pf rfl rfl ?_))))))
 refine pf rfl rfl (pf rfl rfl (pf rfl rfl (oY rfl rfl (mw rfl (pf rfl rfl (pf rfl rfl ?_))))))
 refine pf rfl rfl (pf rfl rfl (oY rfl rfl (mw rfl (pf rfl rfl (pf rfl rfl (pf rfl rfl ?_))))))
 refine pf rfl rfl (pf rfl rfl (pf rfl rfl (pf rfl rfl (oY rfl rfl (mw rfl (pf rfl rfl ?_))))))
 refine pf rfl rfl (pf rfl rfl (pf rfl rfl (pf rfl rfl (pf rfl rfl (pf rfl rfl (oY rfl rfl ?_))))))
 refine nL (tN (Qp rfl rfl ?_))
 refine Qk ?_ (X5 K h)
 exact tq rfl rfl
 refine sn rfl d (Xi rfl (dk rfl) Jl rfl i25 (by decide) rfl (sn rfl d (Zw (i := 0) rfl (dk rfl) Qcp rfl rfl rfl rfl (sn rfl d (Z9 (xs := x0.Counts) (f := (Zs.dc .i64)) rfl (dk rfl) Qcp rfl (sn rfl d (Zi rfl rfl (dk rfl) rfl rfl (oZ d rfl (mw rfl ?_)))))))))
 rcases Qe h with ⟨g, h⟩ | ⟨g, h⟩
 refine pf rfl g (pf rfl g (pf rfl g (pf rfl g (oY g rfl (mw rfl (pf rfl rfl ?_))))))
 refine pf rfl rfl (pf rfl rfl (pf rfl rfl (oY rfl rfl (mw rfl (pf rfl rfl (pf rfl rfl ?_))))))
 refine pf rfl rfl (pf rfl rfl (pf rfl rfl (pf rfl rfl (pf rfl rfl (oY rfl rfl (mw rfl ?_))))))
 refine pf rfl rfl (pf rfl rfl (pf rfl rfl (pf rfl rfl (pf rfl rfl (pf rfl rfl (pf rfl rfl ?_))))))
 refine oY rfl rfl (nL (tN (Qp rfl rfl ?_)))
 refine Qk ?_ (X5 K h)
 exact tq rfl rfl
 refine sn rfl g (Xi rfl (dk rfl) Jl rfl i26 (by decide) rfl (sn rfl g (Zw (i := 0) rfl (dk rfl) Uh rfl rfl rfl rfl (sn rfl g (Z9 (xs := x0.States) (f := Qd) rfl (dk rfl) Uh rfl (sn rfl g (Zi rfl rfl (dk rfl) rfl rfl (oZ g rfl (mw rfl ?_)))))))))
 rcases Qe h with ⟨j, h⟩ | ⟨j, h⟩
 refine pf rfl j (pf rfl j (pf rfl j (pf rfl j (oY j rfl (mw rfl (pf rfl rfl ?_))))))
 refine pf rfl rfl (pf rfl rfl (pf rfl rfl (pf rfl rfl (pf rfl rfl (pf rfl rfl (oY rfl rfl ?_))))))
 refine mw rfl (pf rfl rfl (pf rfl rfl (pf rfl rfl (pf rfl rfl (pf rfl rfl (pf rfl rfl ?_))))))
 refine pf rfl rfl (oY rfl rfl (nL (tN (Qp rfl rfl ?_))))
 refine Qk ?_ (X5 K h)
 exact tq rfl rfl
 refine sn rfl j (Xi rfl (dk rfl) Jl rfl i26 (by decide) rfl (sn rfl j (Zw (i := 0) rfl (dk rfl) Uh rfl rfl rfl rfl (sn rfl j (Z9 (xs := x0.States) (f := Qd) rfl (dk rfl) Uh rfl (sn rfl j (Zi rfl rfl (dk rfl) rfl rfl (oZ j rfl (mw rfl ?_)))))))))
 rcases Qe h with ⟨a, h⟩ | ⟨a, h⟩
 refine pf rfl a (pf rfl a (pf rfl a (pf rfl a (pf rfl a (pf rfl a (pf rfl a ?_))))))
 refine oY a rfl (mw rfl (pf rfl rfl (pf rfl rfl (pf rfl rfl (pf rfl rfl (pf rfl rfl ?_))))))
 refine pf rfl rfl (pf rfl rfl (oY rfl rfl (nL (tN (Qp rfl rfl ?_)))))
 refine Qk ?_ (X5 K h)
 exact tq rfl rfl
 refine sn rfl a (Xi rfl (dk rfl) Jl rfl i26 (by decide) rfl (sn rfl a (Zw (i := 0) rfl (dk rfl) Uh rfl rfl rfl rfl ?_)))
 obtain ⟨m, q, h⟩ := bind_some h
 refine sn rfl a (J5 (xs := x0.States) (f := Qd) (v := m) rfl (dk rfl) Uh i51 rfl rfl q (sn rfl a (Uj rfl (dk rfl) Ju rfl i38 (by decide) rfl (sn rfl a (H9 rfl (dk rfl) Zu rfl rfl rfl (sn rfl a (Z9 (xs := m.L) (f := (cI .i64)) rfl (dk rfl) Zu rfl (sn rfl a (Zi rfl rfl (dk rfl) rfl rfl (oZ a rfl (mw rfl ?_)))))))))))
 rcases Qe h with ⟨b, h⟩ | ⟨b, h⟩
 refine pf rfl b (pf rfl b (pf rfl b (pf rfl b (pf rfl b (pf rfl b (pf rfl b ?_))))))
 refine oY b rfl (nL (tN (Qp rfl rfl ?_)))
 refine Qk ?_ (X5 K h)
 exact tq rfl rfl
 refine sn rfl b (Xi rfl (dk rfl) Jl rfl i26 (by decide) rfl (sn rfl b (Zw (i := 0) rfl (dk rfl) Uh rfl rfl rfl rfl (sn rfl b (J5 (xs := x0.States) (f := Qd) (v := m) rfl (dk rfl) Uh i51 rfl rfl q (sn rfl b (Uj rfl (dk rfl) Ju rfl i38 (by decide) rfl (sn rfl b (H9 rfl (dk rfl) Zu rfl rfl rfl (sn rfl b (Z9 (xs := m.R) (f := (cI .i64)) rfl (dk rfl) Zu rfl (sn rfl b (Zi rfl rfl (dk rfl) rfl rfl ?_)))))))))))))
 refine oZ b rfl (nL (tN ?_))
 rcases Qe h with ⟨p, h⟩ | ⟨p, h⟩
 refine Qp rfl p ?_
 refine Qk ?_ (X5 K h)
 exact tq rfl rfl
 refine Qo rfl p (T.skip (tN (T.seq (sR (Qq (aw rfl (nL (tN (T.block ?_)))))))))
 refine T.loop ?_
 refine Qg ?_ (Sh K K (0:Int) x0 s h)
 exact tq rfl rfl
end Go.Rv

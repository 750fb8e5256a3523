/- Each function computes what its plain text says: printed by a program of ours. -/
import Derived.Test.YtcmfaclkgdmpbaaGreatDoorRgW2
namespace Go.Rv
open Go.Proofs
set_option maxRecDepth 100000
set_option maxHeartbeats 4000000
set_option linter.unusedVariables false
abbrev O0 (r : Int) : ES := Jq tp ff46 (fun y t => y = (.int .i64 r) ∧ t = [])
abbrev Qb2 (r : Int) : ES := fT 19 [1,1] ff46 (O0 r)
abbrev Tc (r : Int) : ES := fT 19 [1,1,1,1] ff46 (O0 r)
abbrev P5 (r : Int) : ES := Qz 0 ((Tc r))
theorem Eh {r : Int} (K : Nat) (h : J0 K = some r) : T tp 19 (ca [1,0,1,0] ff46) ⟨[], []⟩ (Qb2 r) := by
 unfold J0 at h
 refine sR (Qs (aw rfl (nL (tN (T.ret (Qr (fd rfl (by cases h; exact ⟨rfl, rfl⟩))))))))
theorem Qb3 {r : Int} (K : Nat) : ∀ (k : Nat), ∀ (x0 a b : Int), Jz K k x0 a b = some r → TL tp 19 (ca [1,1,1,0,1,0,0] ff46) ⟨[(0, .int .i64 x0), (3, .int .i64 a), (4, .int .i64 b)], []⟩ (P5 r) := by
 intro k
 induction k with
 | zero =>
  intro x0 a b h
  exact zn h
 | succ k ih =>
  intro x0 a b h
  rw [Jz] at h
  refine Q7 (T.seq (sR (Qs (mw rfl (mw rfl (oI rfl (nL (tN ?_))))))))
  rcases Qd h with ⟨c, h⟩ | ⟨c, h⟩
  refine Qp rfl c (T.skip (tN (T.seq (T.block (Qs (mw rfl (oI rfl ?_)))))))
  refine aw rfl (nL (Qk (tN (Qs (mw rfl (oI rfl (aw rfl (nL (tN ?_)))))))))
  refine Qe ?_ (ih x0 (wI (a * (3:Int))) (wI (b + (1:Int))) h)
  exact tq rfl rfl
  refine Qo rfl c (T.exit (Ql (Ql (Qu (tN (sR (Qs (mw rfl (aw rfl (nL (tN (T.ret ?_))))))))))))
  exact fd rfl (by cases h; exact ⟨rfl, rfl⟩)
theorem O1 (K : Nat) {x0 r : Int} (h : Je K x0 = some r) : Zm tp 46 [.int .i64 x0] [] (.int .i64 r) := by
 refine CI 19 fu46 rfl ?_
 unfold Je at h
 refine sR (Qs (aw rfl (nL (tN (T.seq (sR (Qs (mw rfl (oI rfl ?_)))))))))
 refine mw rfl ?_
 rcases Qd h with ⟨a, h⟩ | ⟨a, h⟩
 refine pf rfl a (pf rfl a (oY a rfl (nL (tN (Qp rfl rfl ?_)))))
 refine Qg ?_ (Eh K h)
 exact tq rfl rfl
 refine sn rfl a (OpT.move rfl (dk rfl) rfl (sn rfl a (Z1 rfl rfl (dk rfl) rfl rfl (oZ a rfl (nL (tN ?_))))))
 rcases Qd h with ⟨b, h⟩ | ⟨b, h⟩
 refine Qp rfl b ?_
 refine Qg ?_ (Eh K h)
 exact tq rfl rfl
 refine Qo rfl b (T.skip (tN (sR (Qs (aw rfl (nL (tN (T.seq (sR (Qs ?_))))))))))
 refine aw rfl (nL (tN (T.block (T.loop ?_))))
 refine Qe ?_ (Qb3 K K x0 (1:Int) (0:Int) h)
 exact tq rfl rfl
abbrev Ow (bx0 : Nat) (x0 : Qb) (r : Int) : ES := Jq tp ff113 (fun y t => ∃ γ : Nat → Value, y = (.int .i64 r) ∧ t = [(Wm bx0 x0.g.First x0.g.P (γ 0) x0.a.Split.Of x0.a.Split.Many (γ 1) (γ 2) x0.e), .arrA (γ 0) 3 1 (mI x0.number), .arrA (γ 1) 59 2 (mA x0.a.Counts), .arrX (γ 2) 51 4 0 (x0.a.States.map Qh)])
abbrev Fp (bx0 : Nat) (x0 : Qb) (r : Int) : ES := fT 34 [1,1] ff113 (Ow bx0 x0 r)
abbrev Dy (bx0 : Nat) (x0 : Qb) (r : Int) : ES := Qz 0 ((Fp bx0 x0 r))
theorem Fq {r : Int} (K bx0 : Nat) (x0 : Qb) : ∀ (k : Nat), ∀ (s x3 m : Int) (x0 : Qb) (x1 : Qa) (b l w0_0aa : Value) (j : Nat), Yo K k s x3 m x0 x1 = some r → TL tp 34 (ca [1,0,1,0,0] ff113) ⟨[(0, .ptr bx0 0), (2, .int .i64 s), (3, .int .i64 x3), (5, .ptr j 0), (9, .int .i64 m)], [(Wm bx0 x0.g.First x0.g.P b x0.a.Split.Of x0.a.Split.Many l w0_0aa x0.e), .arrA b 3 1 (mI x0.number), .arrA l 59 2 (mA x0.a.Counts), .arrX w0_0aa 51 4 0 (x0.a.States.map Qh), (J5 j x1.L x1.R x1.Rule x1.Next)]⟩ (Dy bx0 x0 r) := by
 intro k
 induction k with
 | zero =>
  intro s x3 m x0 x1 b l w0_0aa j h
  exact zn h
 | succ k ih =>
  intro s x3 m x0 x1 b l w0_0aa j h
  rw [Yo] at h
  refine Q7 (T.seq (sR (Qs (mw rfl (oP Hx i38 rfl (oL 4 Zs rfl (oU x1.R (cI .i64) Zs rfl ?_)))))))
  refine oI rfl (nL (tN ?_))
  rcases Qd h with ⟨w, h⟩ | ⟨w, h⟩
  refine Qp rfl w (T.skip (tN (T.seq (T.block (T.seq (T.seq (Z7 ?_)))))))
  refine dP rfl (.f rfl) Hx i38 rfl (dL 4 rfl (.f rfl) Zs rfl (dV rfl rfl ?_))
  obtain ⟨p, aa, h⟩ := bind_some h
  refine dX x1.R (cI .i64) rfl (.f rfl) Zs i3 aa rfl (dR rfl (.f rfl) ul3 rfl (dV rfl rfl (dK rfl (.f rfl) rfl (dP rfl (.f rfl) Qa2 i38 rfl (dS (c := ⟨some 25, .sl false 1 (mI x0.number), [(24, .ptr bx0 (0 + 2))], [(0, (Wm bx0 x0.g.First x0.g.P b x0.a.Split.Of x0.a.Split.Many l w0_0aa x0.e)), (1, .arrA b 3 1 (mI x0.number))], []⟩) (fun t hm => oF rfl rfl (Zq (Yb (i := 0) rfl (dk rfl) Zs rfl hm.s0 hm.o0 rfl rfl) (Hc 25 1 hm.o1) rfl)) rfl rfl (dV rfl rfl ?_))))))
  obtain ⟨q, ab, h⟩ := bind_some h
  refine dX x0.number (cI .i64) rfl (.f rfl) Zs i3 ab rfl (dR rfl (.f rfl) ul3 rfl (dI rfl (.f rfl) rfl (dF [0,1,0,7,15,0,32,96,224,0,992,2016,4095] Q0 rfl (by kernel_rfl) (fun u hu => (tN (Qg hu ?_))))))
  rcases Qd h with ⟨y, h⟩ | ⟨y, h⟩
  refine Qp rfl y (sR (Qs (mw rfl (sp rfl (OpT.rem rfl (dk rfl) rfl rfl (by decide) (aw rfl (nL (tN (T.ret (Qr (Q1 (Qr (Qr (Q1 (Qr ?_)))))))))))))))
  exact Q6 (.cons _ _ _ _ (.tmp 8 _ rfl) .nil) (.cons 0 rfl (.cons 0 rfl (.cons 0 rfl (.cons 0 rfl (.nil _))))) (by cases h; exact ⟨gl [b, l, w0_0aa], rfl, rfl⟩)
  refine Qo rfl y (T.skip (tN (Qs (mw rfl (sp rfl (OpT.quo rfl (dk rfl) rfl rfl (by decide) (aw rfl (nL (Qk (tN ?_))))))))))
  refine Qs (mw rfl (oI rfl (aw rfl (nL (tN ?_)))))
  refine Qe ?_ (ih (wI (Int.tdiv s (3:Int))) x3 (wI (m + (1:Int))) x0 x1 b l w0_0aa j h)
  exact tq rfl rfl
  refine Qo rfl w (T.exit (Ql (Ql (Qu (tN (sR (Qs (aw rfl (nL (tN (T.ret (Q6 (.cons _ _ _ _ (.tmp 8 _ rfl) .nil) (.cons 0 rfl (.cons 0 rfl (.cons 0 rfl (.cons 0 rfl (.nil _))))) (by cases h; exact ⟨gl [b, l, w0_0aa], rfl, rfl⟩)))))))))))))
theorem K6 (K : Nat) {x0 : Qb} {x1 : Qa} {x2 x3 : Int} {bx0 : Nat} {wx0c1 wx0c2c1 wx0c2c2 : Value} {r : Int} (h : Ua K x0 x1 x2 x3 = some r) : Jb tp 113 [.ptr bx0 0, .agg [.sl false 1 (mI x1.L), .sl false 1 (mI x1.R), .sl false 1 (mI x1.Rule), .sl false 1 (x1.Next.map (cL 2 Qn))], .int .i64 x2, .int .i64 x3] [(Wm bx0 x0.g.First x0.g.P wx0c1 x0.a.Split.Of x0.a.Split.Many wx0c2c1 wx0c2c2 x0.e), .arrA wx0c1 3 1 (mI x0.number), .arrA wx0c2c1 59 2 (mA x0.a.Counts), .arrX wx0c2c2 51 4 0 (x0.a.States.map Qh)] (fun γ => (.int .i64 r)) (fun γ => [(Wm bx0 x0.g.First x0.g.P (γ 0) x0.a.Split.Of x0.a.Split.Many (γ 1) (γ 2) x0.e), .arrA (γ 0) 3 1 (mI x0.number), .arrA (γ 1) 59 2 (mA x0.a.Counts), .arrX (γ 2) 51 4 0 (x0.a.States.map Qh)]) := by
 refine CI 34 fu113 rfl ?_
 unfold Ua at h
 refine sR (Qs (sp rfl (Q9 rfl (dk rfl) rfl (fun b => (aw rfl (nL (tN (T.seq (sR (Qs (aw rfl ?_)))))))))))
 refine nL (tN (T.block (T.loop ?_)))
 refine Qe ?_ (Fq K bx0 x0 K x2 x3 (0:Int) x0 x1 wx0c1 wx0c2c1 wx0c2c2 b h)
 exact tr rfl (.c (.s .z) (.c (.s .z) (.c (.s .z) (.c (.s .z) (.c .z (.n _))))))
abbrev raddleref11_builder_ripe_q (bx0 : Nat) (x0 : Qb) (r : Bool) : ES := Jq tp ff79 (fun y t => ∃ γ : Nat → Value, y = (.bool r) ∧ t = [(Wm bx0 x0.g.First x0.g.P (γ 0) x0.a.Split.Of x0.a.Split.Many (γ 1) (γ 2) x0.e), .arrA (γ 0) 3 1 (mI x0.number), .arrA (γ 1) 59 2 (mA x0.a.Counts), .arrX (γ 2) 51 4 0 (x0.a.States.map Qh)])
theorem My (K : Nat) {x0 : Qb} {x1 : Qa} {x2 x3 : Int} {bx0 : Nat} {wx0c1 wx0c2c1 wx0c2c2 : Value} {r : Bool} (h : X4 K x0 x1 x2 x3 = some r) : Jb tp 79 [.ptr bx0 0, .agg [.sl false 1 (mI x1.L), .sl false 1 (mI x1.R), .sl false 1 (mI x1.Rule), .sl false 1 (x1.Next.map (cL 2 Qn))], .int .i64 x2, .int .i64 x3] [(Wm bx0 x0.g.First x0.g.P wx0c1 x0.a.Split.Of x0.a.Split.Many wx0c2c1 wx0c2c2 x0.e), .arrA wx0c1 3 1 (mI x0.number), .arrA wx0c2c1 59 2 (mA x0.a.Counts), .arrX wx0c2c2 51 4 0 (x0.a.States.map Qh)] (fun γ => (.bool r)) (fun γ => [(Wm bx0 x0.g.First x0.g.P (γ 0) x0.a.Split.Of x0.a.Split.Many (γ 1) (γ 2) x0.e), .arrA (γ 0) 3 1 (mI x0.number), .arrA (γ 1) 59 2 (mA x0.a.Counts), .arrX (γ 2) 51 4 0 (x0.a.States.map Qh)]) := by
 refine CI 15 fu79 rfl ?_
 unfold X4 at h
 refine sR (Qs (sp rfl (Q9 rfl (dk rfl) rfl (fun j => (aw rfl (nL (tN (sR (Qs (mw rfl (oA 0 [.sl false 1 (mI x1.L), .sl false 1 (mI x1.R), .sl false 1 (mI x1.Rule), .sl false 1 (x1.Next.map (cL 2 Qn))] Hx i51 rfl (mw rfl ?_))))))))))))
 refine mw rfl ?_
 obtain ⟨m, f, h⟩ := bind_some h
 refine sp rfl (Zc (is := [1, 2, 3, 4]) (ph := []) rfl (dk rfl) fu113 rfl rfl (Zw.cons rfl (Zw.cons rfl (Zw.cons rfl (Zw.cons rfl Zw.nil)))) (K6 K (bx0 := bx0) (wx0c1 := wx0c1) (wx0c2c1 := wx0c2c1) (wx0c2c2 := wx0c2c2) f) (.cons rfl rfl (.cons rfl rfl (.cons rfl rfl (.cons rfl rfl (.nil))))) (fun _ => rfl) (fun b => (nm (.c (.c (.c (.c (.c (.n)))))) (oI rfl (aw rfl (nL (tN (T.ret (Q6 (.cons _ _ _ _ (.tmp 8 _ rfl) .nil) (.cons 1 rfl (.cons 1 rfl (.cons 1 rfl (.cons 1 rfl (.nil _))))) (by cases h; exact ⟨gl [b 0, b 1, b 2], rfl, rfl⟩))))))))))
abbrev Pz (bx0 : Nat) (x0 : Qb) (r : Int) : ES := Jq tp ff47 (fun y t => ∃ γ : Nat → Value, y = (.int .i64 r) ∧ t = [(Wm bx0 x0.g.First x0.g.P (γ 0) x0.a.Split.Of x0.a.Split.Many (γ 1) (γ 2) x0.e), .arrA (γ 0) 3 1 (mI x0.number), .arrA (γ 1) 59 2 (mA x0.a.Counts), .arrX (γ 2) 51 4 0 (x0.a.States.map Qh)])
abbrev Fo (bx0 : Nat) (x0 : Qb) (r : Int) : ES := fT 55 [1,1,1] ff47 (Pz bx0 x0 r)
abbrev Hy (bx0 : Nat) (x0 : Qb) (r : Int) : ES := Qz 0 ((Fo bx0 x0 r))
abbrev Dw (bx0 : Nat) (x0 : Qb) (r : Int) : ES := fL 55 [1,1,0,1,0,0] ff47 (Hy bx0 x0 r)
abbrev B6 (bx0 : Nat) (x0 : Qb) (r : Int) : ES := fT 55 [1,1,0,1,0,0,1,1] ff47 (Dw bx0 x0 r)
abbrev K5 (bx0 : Nat) (x0 : Qb) (r : Int) : ES := Qz 1 ((B6 bx0 x0 r))
abbrev Lw (bx0 : Nat) (x0 : Qb) (r : Int) (go : Int → Int → Int → Qb → Qa → Option Int) : Prop := ∀ (x2 b c : Int) (x0 : Qb) (x1 : Qa) (f i w0_0aa : Value) (j : Nat), go x2 b c x0 x1 = some r → TL tp 55 (ca [1,1,0,1,0,0] ff47) ⟨[(0, .ptr bx0 0), (2, .int .i64 x2), (4, .ptr j 0), (7, .int .i64 b), (8, .int .i64 c)], [(Wm bx0 x0.g.First x0.g.P f x0.a.Split.Of x0.a.Split.Many i w0_0aa x0.e), .arrA f 3 1 (mI x0.number), .arrA i 59 2 (mA x0.a.Counts), .arrX w0_0aa 51 4 0 (x0.a.States.map Qh), (J5 j x1.L x1.R x1.Rule x1.Next)]⟩ (Hy bx0 x0 r)
theorem Lx {r : Int} (K bx0 : Nat) (x0 : Qb) (go0 : Int → Int → Int → Qb → Qa → Option Int) (hgo0 : Lw bx0 x0 r go0) (x2 j : Int) (x1 : Qa) (q s u : Int) (v : Bool) (w : Int) (y aa ab : Bool) (x0 : Qb) (b : Zy) (ac ad l : Int) (af : Bool) (ag : List Int) (m p w0_1aa : Value) (f ai : Nat) (h : Vb K go0 x2 j x1 q s u v w y aa ab x0 b ac ad l af ag = some r) : T tp 55 (ca [1,1,0,1,0,0,1,0,0,1,1,0] ff47) ⟨[(0, .ptr bx0 0), (2, .int .i64 x2), (4, .ptr f 0), (8, .int .i64 j), (9, .ptr ai 0), (32, .ptr bx0 0), (33, .agg [.sl false 1 (mI x1.L), .sl false 1 (mI x1.R), .sl false 1 (mI x1.Rule), .sl false 1 (x1.Next.map (cL 2 Qn))]), (34, .int .i64 x2), (35, .ptr f (0 + 0)), (36, .sl false 1 (mI x1.L)), (37, .int .i64 q), (38, .ref [.int .i64 s]), (39, .int .i64 u), (40, .bool v), (43, .int .i64 w), (44, .bool y), (45, .bool aa), (50, .bool ab)], [(Wm bx0 x0.g.First x0.g.P m x0.a.Split.Of x0.a.Split.Many p w0_1aa x0.e), .arrA m 3 1 (mI x0.number), .arrA p 59 2 (mA x0.a.Counts), .arrX w0_1aa 51 4 0 (x0.a.States.map Qh), (J5 f x1.L x1.R x1.Rule x1.Next), .box ai 65 [.d (.int .u64 b.a0), .d (.int .u64 b.a1), .d (.int .u64 b.a2), .d (.int .u64 b.a3), .d (.int .i64 ac), .d (.int .i64 ad), .d (.int .i64 l), .d (.bool af), .d (.sl false 1 (mI ag))]]⟩ (K5 bx0 x0 r) := by
 unfold Vb at h
 refine Qs (oP Qbf i3 rfl (oL 5 ul3 rfl (aw rfl (nL (Qk (tN (Qs (mw rfl ?_))))))))
 refine oI rfl (aw rfl (nL (tN ?_)))
 refine Qe ?_ (hgo0 x2 l (wI (j + (1:Int))) x0 x1 m p w0_1aa f h)
 exact tq rfl rfl
theorem Ik {r : Int} (K bx0 : Nat) (x0 : Qb) : ∀ (k : Nat), Lw bx0 x0 r (Zi K k) := by
 intro k
 induction k with
 | zero =>
  intro x2 q y x0 x1 af ag w0_0aa w h
  exact zn h
 | succ k ih =>
  intro x2 q y x0 x1 af ag w0_0aa w h
  rw [Zi] at h
  refine Q7 (T.seq (sR (Qs (mw rfl (oP Hx i38 rfl (oL 4 Zs rfl (oU x1.L (cI .i64) Zs rfl ?_)))))))
  refine oI rfl (nL (tN ?_))
  rcases Qd h with ⟨aj, h⟩ | ⟨aj, h⟩
  refine Qp rfl aj (T.skip (tN (T.seq (T.block (T.seq (Qg Yp (Ja ?_)))))))
  refine gM rfl (fun _ => .f rfl) (fun _ => rfl) (gK rfl (fun _ => .f rfl) (fun _ => rfl) (gP rfl (fun _ => .f rfl) Qa2 i43 (fun _ => rfl) (gP rfl (fun _ => .f rfl) F7 i41 (fun _ => rfl) (gL 1 rfl (fun _ => .f rfl) Ci (fun _ => rfl) (gP rfl (fun _ => .f rfl) Hx i38 (fun _ => rfl) (gL 5 rfl (fun _ => .f rfl) Zs (fun _ => rfl) ?_))))))
  refine gM rfl (fun _ => .f rfl) (fun _ => rfl) ?_
  obtain ⟨ab, am, h⟩ := bind_some h
  refine gX x1.L (cI .i64) rfl (fun _ => .f rfl) Zs i3 am (fun _ => rfl) (gR rfl (fun _ => .f rfl) ul3 (fun _ => rfl) ?_)
  obtain ⟨j, an, h⟩ := bind_some h
  refine gX x0.g.P Qv rfl (fun _ => .f rfl) Ci i65 an (fun _ => rfl) (gJ rfl (fun _ => .f rfl) Qbf i65 (fun _ => rfl) (DGG.step (c := fun p => ⟨some 9, .ptr ((p 12).2) 0, [], [(0, .ro 0 [])], [(0, .box ((p 12).2) 65 [.d (.int .u64 (Zy.mk 0 0 0 0).a0), .d (.int .u64 (Zy.mk 0 0 0 0).a1), .d (.int .u64 (Zy.mk 0 0 0 0).a2), .d (.int .u64 (Zy.mk 0 0 0 0).a3), .d (.int .i64 (0:Int)), .d (.int .i64 (0:Int)), .d (.int .i64 (0:Int)), .d (.bool false), .d (.ex (.slice none 0 0))])]⟩) [12] (fun p γ' h => by simp only [h 12 (by decide)]) (fun p t hm => oF rfl rfl (Qgp 0 rfl (dk rfl) i65 rfl hm.o0 (fun b => ⟨(fun _ => undef, b), rfl⟩))) (fun p => Zt rfl rfl) (DGG.step (c := fun p => ⟨none, .any, [(9, .ptr ((p 12).2) 0), (28, .agg [.int .u64 j.S.a0, .int .u64 j.S.a1, .int .u64 j.S.a2, .int .u64 j.S.a3, .int .i64 j.Lo, .int .i64 j.Hi, .int .i64 j.Rule, .bool j.Last, .sl false 1 (mI j.Next)])], [(0, .box ((p 12).2) 65 [.d (.int .u64 (Zy.mk 0 0 0 0).a0), .d (.int .u64 (Zy.mk 0 0 0 0).a1), .d (.int .u64 (Zy.mk 0 0 0 0).a2), .d (.int .u64 (Zy.mk 0 0 0 0).a3), .d (.int .i64 (0:Int)), .d (.int .i64 (0:Int)), .d (.int .i64 (0:Int)), .d (.bool false), .d (.ex (.slice none 0 0))])], [(0, .box ((p 12).2) 65 [.d (.int .u64 j.S.a0), .d (.int .u64 j.S.a1), .d (.int .u64 j.S.a2), .d (.int .u64 j.S.a3), .d (.int .i64 j.Lo), .d (.int .i64 j.Hi), .d (.int .i64 j.Rule), .d (.bool j.Last), .d (.sl false 1 (mI j.Next))])]⟩) [12] (fun p γ' h => by simp only [h 12 (by decide)]) (fun p t hm => oF rfl rfl (Qy (i := 0) (cells' := [.d (.int .u64 j.S.a0), .d (.int .u64 j.S.a1), .d (.int .u64 j.S.a2), .d (.int .u64 j.S.a3), .d (.int .i64 j.Lo), .d (.int .i64 j.Hi), .d (.int .i64 j.Rule), .d (.bool j.Last), .d (.sl false 1 (mI j.Next))]) rfl rfl i65 hm.s0 hm.s1 rfl hm.o0 (nb rfl) rfl ⟨u0, rfl⟩)) (fun p => Zt rfl rfl) (gF [0,1,3,7,15,0,32,0,224,480,1023,2047,0,8191] Q0 rfl (by kernel_rfl) (fun _ => by kernel_rfl) (fun p u hu => (tN (Qg hu (T.seq (Ja ?_)))))))))
  refine gP rfl (fun _ => .f rfl) Qbf i4 (fun _ => rfl) (gL 0 rfl (fun _ => .f rfl) ul4 (fun _ => rfl) (gM rfl (fun _ => .f rfl) (fun _ => rfl) ?_))
  rcases Qd h with ⟨aa, h⟩ | ⟨aa, h⟩
  refine gM rfl (fun _ => .n aa rfl) (fun _ => rfl) (gW 5 [.sl false 1 (mI x1.L), .sl false 1 (mI x1.R), .sl false 1 (mI x1.Rule), .sl false 1 (x1.Next.map (cL 2 Qn))] rfl (fun _ => .n aa rfl) Hx i51 (fun _ => rfl) (gM rfl (fun _ => .n aa rfl) (fun _ => rfl) (gP rfl (fun _ => .n aa rfl) Hx i38 (fun _ => rfl) (gL 5 rfl (fun _ => .n aa rfl) Zs (fun _ => rfl) (gM rfl (fun _ => .n aa rfl) (fun _ => rfl) (gX x1.L (cI .i64) rfl (fun _ => .n aa rfl) Zs i3 am (fun _ => rfl) ?_))))))
  refine gR rfl (fun _ => .n aa rfl) ul3 (fun _ => rfl) ?_
  obtain ⟨ac, ap, h⟩ := bind_some h
  refine DGG.step (c := fun m => ⟨some 40, .bool ac, [(32, .ptr bx0 0), (33, .agg [.sl false 1 (mI x1.L), .sl false 1 (mI x1.R), .sl false 1 (mI x1.Rule), .sl false 1 (x1.Next.map (cL 2 Qn))]), (34, .int .i64 x2), (39, .int .i64 ab), (31, .bool j.Last)], [(4, .arrX w0_0aa 51 4 0 (x0.a.States.map Qh)), (3, .arrA ag 59 2 (mA x0.a.Counts)), (2, .arrA af 3 1 (mI x0.number)), (1, (Wm bx0 x0.g.First x0.g.P af x0.a.Split.Of x0.a.Split.Many ag w0_0aa x0.e))], [(1, (Wm bx0 x0.g.First x0.g.P ((m 11).1 0) x0.a.Split.Of x0.a.Split.Many ((m 11).1 1) ((m 11).1 2) x0.e)), (2, .arrA ((m 11).1 0) 3 1 (mI x0.number)), (3, .arrA ((m 11).1 1) 59 2 (mA x0.a.Counts)), (4, .arrX ((m 11).1 2) 51 4 0 (x0.a.States.map Qh))]⟩) [11] (fun m γ' h => by simp only [h 11 (by decide)]) (fun m t hm => One.step rfl (.on rfl rfl (hm.slots (31, _) (.tail _ (.tail _ (.tail _ (.tail _ (.head _)))))) aa) (Zc (is := [1, 2, 3, 4]) (ph := []) rfl (dk rfl) fu79 rfl rfl (Zw.cons hm.s0 (Zw.cons hm.s1 (Zw.cons hm.s2 (Zw.cons hm.s3 Zw.nil)))) (My K (bx0 := bx0) (wx0c1 := af) (wx0c2c1 := ag) (wx0c2c2 := w0_0aa) ap) (.cons (hm.objs (1, _) (.tail _ (.tail _ (.tail _ (.head _))))) rfl (.cons hm.o2 rfl (.cons hm.o1 rfl (.cons hm.o0 rfl (.nil))))) (fun _ => rfl) (fun g => ⟨(g, 0), rfl⟩))) (fun m => Zt rfl rfl) (gY rfl (fun _ => .f rfl) aa (fun _ => rfl) (gM rfl (fun _ => .f rfl) (fun _ => rfl) ?_))
  rcases Qd h with ⟨ad, h⟩ | ⟨ad, h⟩
  refine gM rfl (fun _ => .n ad rfl) (fun _ => rfl) (gI rfl (fun _ => .n ad rfl) (fun _ => rfl) (gM rfl (fun _ => .n ad rfl) (fun _ => rfl) ?_))
  rcases Qd h with ⟨ai, h⟩ | ⟨ai, h⟩
  refine DGG.off ai rfl rfl rfl rfl rfl (fun _ => rfl) (DGG.off ai rfl rfl rfl rfl rfl (fun _ => rfl) (DGG.off ai rfl rfl rfl rfl rfl (fun _ => rfl) (DGG.off ai rfl rfl rfl rfl rfl (fun _ => rfl) (gY rfl (fun _ => .n ad rfl) ai (fun _ => rfl) (gY rfl (fun _ => .f rfl) ad (fun _ => rfl) (gF [0,1,3,7,7,7,7,71,7,455,967,2047,4095,8191,16383,32767,65535,131071,262143,131071,1048575,2097151,4194303] Q0 rfl (by kernel_rfl) (fun _ => by kernel_rfl) (fun m u hu => (tN (Qg hu ?_)))))))))
  refine Qp rfl rfl ?_
  refine Qg ?_ (Lx K bx0 x0 (Zi K k) ih x2 y x1 y ab ab ac q (decide (q < (0:Int))) (decide (q < (0:Int))) true x0 j.S j.Lo j.Hi j.Rule j.Last j.Next ((m 11).1 0) ((m 11).1 1) ((m 11).1 2) w ((p 12).2) h)
  exact tr rfl (.c (.s .z) (.c (.s .z) (.c (.s .z) (.c (.s .z) (.c (.s .z) (.c .z (.n _)))))))
  refine gP rfl (fun _ => .n ai rfl) Qbf i3 (fun _ => rfl) (gL 0 rfl (fun _ => .n ai rfl) ul3 (fun _ => rfl) (gM rfl (fun _ => .n ai rfl) (fun _ => rfl) (gI rfl (fun _ => .n ai rfl) (fun _ => rfl) (gZ rfl (fun _ => .n ad rfl) ai (fun _ => rfl) (gY rfl (fun _ => .f rfl) ad (fun _ => rfl) (gF [0,1,3,7,7,7,7,71,7,455,967,2047,4095,8191,16383,32767,65535,131071,262143,131071,1048575,2097151,4194303] Q0 rfl (by kernel_rfl) (fun _ => by kernel_rfl) (fun m u hu => (tN (Qg hu ?_)))))))))
  rcases Qd h with ⟨al, h⟩ | ⟨al, h⟩
  refine Qp rfl al ?_
  refine Qg ?_ (Lx K bx0 x0 (Zi K k) ih x2 y x1 y ab ab ac q (decide (q < (0:Int))) (decide (q < (0:Int))) (decide (j.Rule < q)) x0 j.S j.Lo j.Hi j.Rule j.Last j.Next ((m 11).1 0) ((m 11).1 1) ((m 11).1 2) w ((p 12).2) h)
  exact tr rfl (.c (.s .z) (.c (.s .z) (.c (.s .z) (.c (.s .z) (.c (.s .z) (.c .z (.n _)))))))
  refine Qo rfl al (T.skip (Qk (tN (Qs (mw rfl (oI rfl (aw rfl (nL (tN ?_)))))))))
  refine Qe ?_ (ih x2 q (wI (y + (1:Int))) x0 x1 ((m 11).1 0) ((m 11).1 1) ((m 11).1 2) w h)
  exact tr rfl (.c (.s .z) (.c (.s .z) (.c (.s .z) (.c (.s .z) (.c (.s .z) (.n _))))))
  refine DGG.off ad rfl rfl rfl rfl rfl (fun _ => rfl) (DGG.off ad rfl rfl rfl rfl rfl (fun _ => rfl) (DGG.off ad rfl rfl rfl rfl rfl (fun _ => rfl) (DGG.gone rfl rfl rfl rfl rfl (fun _ => rfl) (DGG.gone rfl rfl rfl rfl rfl (fun _ => rfl) (DGG.gone rfl rfl rfl rfl rfl (fun _ => rfl) (DGG.gone rfl rfl rfl rfl rfl (fun _ => rfl) ?_))))))
  refine DGG.off ad rfl rfl rfl rfl rfl (fun _ => rfl) (gZ rfl (fun _ => .f rfl) ad (fun _ => rfl) (gF [0,1,3,7,7,7,7,71,7,455,967,2047,4095,8191,16383,32767,65535,131071,262143,131071,1048575,2097151,4194303] Q0 rfl (by kernel_rfl) (fun _ => by kernel_rfl) (fun m u hu => (tN (Qg hu (Qo rfl rfl (T.skip (Qk (tN (Qs (mw rfl ?_)))))))))))
  refine oI rfl (aw rfl (nL (tN ?_)))
  refine Qe ?_ (ih x2 q (wI (y + (1:Int))) x0 x1 ((m 11).1 0) ((m 11).1 1) ((m 11).1 2) w h)
  exact tr rfl (.c (.s .z) (.c (.s .z) (.c (.s .z) (.c (.s .z) (.c (.s .z) (.n _))))))
  refine DGG.off aa rfl rfl rfl rfl rfl (fun _ => rfl) (DGG.off aa rfl rfl rfl rfl rfl (fun _ => rfl) (DGG.off aa rfl rfl rfl rfl rfl (fun _ => rfl) (DGG.off aa rfl rfl rfl rfl rfl (fun _ => rfl) (DGG.off aa rfl rfl rfl rfl rfl (fun _ => rfl) (DGG.off aa rfl rfl rfl rfl rfl (fun _ => rfl) (DGG.off aa rfl rfl rfl rfl rfl (fun _ => rfl) ?_))))))
  refine DGG.off aa rfl rfl rfl rfl rfl (fun _ => rfl) (DGG.off aa rfl rfl rfl rfl rfl (fun _ => rfl) (gZ rfl (fun _ => .f rfl) aa (fun _ => rfl) (gM rfl (fun _ => .f rfl) (fun _ => rfl) (DGG.off rfl rfl rfl rfl rfl rfl (fun _ => rfl) (DGG.off rfl rfl rfl rfl rfl rfl (fun _ => rfl) (DGG.off rfl rfl rfl rfl rfl rfl (fun _ => rfl) ?_))))))
  refine DGG.gone rfl rfl rfl rfl rfl (fun _ => rfl) (DGG.gone rfl rfl rfl rfl rfl (fun _ => rfl) (DGG.gone rfl rfl rfl rfl rfl (fun _ => rfl) (DGG.gone rfl rfl rfl rfl rfl (fun _ => rfl) (DGG.off rfl rfl rfl rfl rfl rfl (fun _ => rfl) (gZ rfl (fun _ => .f rfl) rfl (fun _ => rfl) (gF [0,1,3,7,7,7,7,71,7,455,967,2047,4095,8191,16383,32767,65535,131071,262143,131071,1048575,2097151,4194303] Q0 rfl (by kernel_rfl) (fun _ => by kernel_rfl) (fun m u hu => (tN (Qg hu ?_)))))))))
  refine Qo rfl rfl (T.skip (Qk (tN (Qs (mw rfl (oI rfl (aw rfl (nL (tN ?_)))))))))
  refine Qe ?_ (ih x2 q (wI (y + (1:Int))) x0 x1 af ag w0_0aa w h)
  exact tr rfl (.c (.s .z) (.c (.s .z) (.c (.s .z) (.c (.s .z) (.c (.s .z) (.n _))))))
  refine Qo rfl aj (T.exit (Ql (Ql (Qu (tN (sR (Qs (mw rfl (aw rfl (nL (tN (T.ret ?_))))))))))))
  exact Q6 (.cons _ _ _ _ (.tmp 6 _ rfl) .nil) (.cons 0 rfl (.cons 0 rfl (.cons 0 rfl (.cons 0 rfl (.nil _))))) (by cases h; exact ⟨gl [af, ag, w0_0aa], rfl, rfl⟩)
theorem P0 (K : Nat) {x0 : Qb} {x1 : Qa} {x2 : Int} {bx0 : Nat} {wx0c1 wx0c2c1 wx0c2c2 : Value} {r : Int} (h : Jv K x0 x1 x2 = some r) : Jb tp 47 [.ptr bx0 0, .agg [.sl false 1 (mI x1.L), .sl false 1 (mI x1.R), .sl false 1 (mI x1.Rule), .sl false 1 (x1.Next.map (cL 2 Qn))], .int .i64 x2] [(Wm bx0 x0.g.First x0.g.P wx0c1 x0.a.Split.Of x0.a.Split.Many wx0c2c1 wx0c2c2 x0.e), .arrA wx0c1 3 1 (mI x0.number), .arrA wx0c2c1 59 2 (mA x0.a.Counts), .arrX wx0c2c2 51 4 0 (x0.a.States.map Qh)] (fun γ => (.int .i64 r)) (fun γ => [(Wm bx0 x0.g.First x0.g.P (γ 0) x0.a.Split.Of x0.a.Split.Many (γ 1) (γ 2) x0.e), .arrA (γ 0) 3 1 (mI x0.number), .arrA (γ 1) 59 2 (mA x0.a.Counts), .arrX (γ 2) 51 4 0 (x0.a.States.map Qh)]) := by
 refine CI 55 fu47 rfl ?_
 unfold Jv at h
 refine sR (Qs (sp rfl (Q9 rfl (dk rfl) rfl (fun b => (aw rfl (nL (tN (sR (Qs (aw rfl (nL (tN (T.seq ?_)))))))))))))
 refine sR (Qs (aw rfl (nL (tN (T.block (T.loop ?_))))))
 refine Qe ?_ (Ik K bx0 x0 K x2 (-1:Int) (0:Int) x0 x1 wx0c1 wx0c2c1 wx0c2c2 b h)
 exact tr rfl (.c (.s .z) (.c (.s .z) (.c (.s .z) (.c (.s .z) (.c .z (.n _))))))
abbrev Qia (r : Zy) : ES := Jq tp ff115 (fun y t => y = (.agg (Zy.dc .u64 r)) ∧ t = [])
abbrev Qdr (r : Zy) : ES := fT 25 [1,1,1] ff115 (Qia r)
abbrev Qao (r : Zy) : ES := Qz 0 ((Qdr r))
theorem Qer {r : Zy} (K : Nat) : ∀ (k : Nat), ∀ (x1 b : Int) (x0 : Q8) (j : Zy) (g : List Int) (l m : Nat) (p : Value), V4 K k x1 b x0 j g = some r → TL tp 25 (ca [1,1,0,1,0,0] ff115) ⟨[(1, .int .i64 x1), (2, .ptr l 0), (4, .ptr m 0), (5, .c (.ex p)), (6, .int .i64 b)], [(b24x8 l x0.Of x0.Many), .box m 63 (Zy.oc .u64 j), .arrA p 5 1 (mU g)]⟩ (Qao r) := by
 intro k
 induction k with
 | zero =>
  intro x1 b x0 j g l m p h
  exact zn h
 | succ k ih =>
  intro x1 b x0 j g l m p h
  rw [V4] at h
  refine Q7 (T.seq (sR (Qs (mw rfl (oI rfl (nL (tN ?_)))))))
  rcases Qd h with ⟨s, h⟩ | ⟨s, h⟩
  refine Qp rfl s (T.skip (tN (T.seq (T.block (sR (Qs (mw rfl (oP ul24 i22 rfl ?_))))))))
  obtain ⟨q, h⟩ := Zb h
  refine sp rfl (Y4 rfl (dk rfl) ul22 i5 rfl rfl q.1 q.2 (sp rfl (Yb (i := 0) rfl (dk rfl) ul5 rfl rfl rfl (Qa1 (n := 256) (k := .u8) (a := x0.Of) (pre := []) (post := [.d (.int .i64 x0.Many)]) q.1 q.2) (sp rfl (Uf rfl (dk rfl) ul5 ul3 rfl (mw rfl (oI rfl (nL (tN ?_)))))))))
  rcases Qd h with ⟨u, h⟩ | ⟨u, h⟩
  refine Qp rfl u (Qs (mw rfl (mw rfl (sp rfl (Uf rfl (dk rfl) ul3 ul5 rfl (sp rfl (OpT.buildSlice (elems := ([(IntKind.u8.wrap b)] : List Int).map (cI .u8)) rfl (dk rfl) B1 i5 (by decide) rfl (H4 rfl) rfl rfl rfl (X2 rfl) (by decide) ?_)))))))
  obtain ⟨w, h⟩ := Zb h
  refine sp rfl (Zk (i := 2) (xs := g) (ys := [(IntKind.u8.wrap b)]) (f := (cI .u8)) rfl (dk rfl) B1 i5 rfl rfl rfl rfl w (fun y => (aw rfl (nL (Qk (tN (Qs (mw rfl (oI rfl (aw rfl ?_))))))))))
  refine nL (tN ?_)
  refine Qe ?_ (ih x1 (wI (b + (1:Int))) x0 j (g ++ [(IntKind.u8.wrap b)]) l m y h)
  exact tq rfl rfl
  refine Qo rfl u (T.skip (Qk (tN (Qs (mw rfl (oI rfl (aw rfl (nL (tN ?_)))))))))
  refine Qe ?_ (ih x1 (wI (b + (1:Int))) x0 j g l m p h)
  exact tq rfl rfl
  refine Qo rfl s (T.exit (Ql (Ql (Qu (tN (sR (Qs (mw rfl ?_))))))))
  obtain ⟨v, aa, h⟩ := bind_some h
  refine sp rfl (Uv rfl (dk rfl) fu131 rfl rfl (Zw.view (i := 2) rfl rfl Zw.nil) (Zm.nil (Qbe K (flx0 := false) aa)) (sp rfl (Qy (i := 1) (cells' := (Zy.oc .u64 v)) rfl rfl i63 rfl rfl rfl rfl (nb rfl) rfl (nL (tN (T.ret (Fin.done (.cons _ _ _ _ (.cellAgg 4 63 _ 0 1 63 _ (Zy.dc .u64 v) _ _ 4 _ rfl rfl rfl rfl Qit rfl i63) .nil) (by cases h; exact ⟨rfl, rfl⟩))))))))
theorem Qib (K : Nat) {x0 : Q8} {x1 : Int} {r : Zy} (h : Ma K x0 x1 = some r) : Zm tp 115 [.agg ((Zp.dc 256 .u8 x0.Of) ++ (([.int .i64 x0.Many] : List DC))), .int .i64 x1] [] (.agg (Zy.dc .u64 r)) := by
 refine CI 25 fu115 rfl ?_
 unfold Ma at h
 refine sR (Qs (sp rfl (Q9 rfl (dk rfl) rfl (fun a => (sp rfl (Ze rfl (dk rfl) i63 rfl (fun b => (nL (tN (sR (Qs (aw rfl (nL (tN (T.seq ?_)))))))))))))))
 refine sR (Qs (aw rfl (nL (tN (T.block (T.loop (Qe (Y0 5 1) ?_)))))))
 refine Qe ?_ (Qer K K x1 (0:Int) x0 (Zy.mk 0 0 0 0) [] a b (Qc1 2) h)
 exact tr rfl (.c (.s (.s .z)) (.c (.s .z) (.c .z (.n _))))
abbrev Qhd (r : List Int) : ES := Jq tp ff114 (fun y t => y = (.sl false 1 (mU r)) ∧ t = [])
abbrev Qcr (r : List Int) : ES := fT 19 [1,1,1] ff114 (Qhd r)
abbrev Tq (r : List Int) : ES := Qz 0 ((Qcr r))
theorem Qdt {r : List Int} (K : Nat) : ∀ (k : Nat), ∀ (a : Int) (x0 : Zy) (b : List Int) (d : Nat) (g : Value), Vc K k a x0 b = some r → TL tp 19 (ca [1,1,0,1,0,0] ff114) ⟨[(1, .ptr d 0), (3, .c (.ex g)), (4, .int .i64 a)], [.box d 63 (Zy.oc .u64 x0), .arrA g 5 1 (mU b)]⟩ (Tq r) := by
 intro k
 induction k with
 | zero =>
  intro a x0 b d g h
  exact zn h
 | succ k ih =>
  intro a x0 b d g h
  rw [Vc] at h
  refine Q7 (T.seq (sR (Qs (mw rfl (oI rfl (nL (tN ?_)))))))
  rcases Qd h with ⟨j, h⟩ | ⟨j, h⟩
  refine Qp rfl j (T.skip (tN (T.seq (T.block (sR (Qs (oA 0 (Zy.dc .u64 x0) Qit i63 rfl (mw rfl ?_))))))))
  refine sp rfl (Uf rfl (dk rfl) ul3 ul5 rfl ?_)
  obtain ⟨u, p, h⟩ := bind_some h
  refine oH fu81 (Zm.nil (Wl K p)) rfl (nL (tN ?_))
  rcases Qd h with ⟨m, h⟩ | ⟨m, h⟩
  refine Qp rfl m (Qs (mw rfl (mw rfl (sp rfl (Uf rfl (dk rfl) ul3 ul5 rfl (sp rfl (OpT.buildSlice (elems := ([(IntKind.u8.wrap a)] : List Int).map (cI .u8)) rfl (dk rfl) B1 i5 (by decide) rfl (H4 rfl) rfl rfl rfl (X2 rfl) (by decide) ?_)))))))
  obtain ⟨q, h⟩ := Zb h
  refine sp rfl (Zk (i := 1) (xs := b) (ys := [(IntKind.u8.wrap a)]) (f := (cI .u8)) rfl (dk rfl) B1 i5 rfl rfl rfl rfl q (fun s => (aw rfl (nL (Qk (tN (Qs (mw rfl (oI rfl (aw rfl ?_))))))))))
  refine nL (tN ?_)
  refine Qe ?_ (ih (wI (a + (1:Int))) x0 (b ++ [(IntKind.u8.wrap a)]) d s h)
  exact tq rfl rfl
  refine Qo rfl m (T.skip (Qk (tN (Qs (mw rfl (oI rfl (aw rfl (nL (tN ?_)))))))))
  refine Qe ?_ (ih (wI (a + (1:Int))) x0 b d g h)
  exact tq rfl rfl
  refine Qo rfl j (T.exit (Ql (Ql (Qu (tN (sR (Qs (mw rfl (aw rfl (nL (tN (T.ret ?_))))))))))))
  refine Xl (Z3.view 2 1 rfl rfl) (fd rfl (by cases h; exact ⟨rfl, rfl⟩))
theorem Qhe (K : Nat) {x0 : Zy} {r : List Int} (h : B0 K x0 = some r) : Zm tp 114 [.agg (Zy.dc .u64 x0)] [] (.sl false 1 (mU r)) := by
 refine CI 19 fu114 rfl ?_
 unfold B0 at h
 refine sR (Qs (sp rfl (Q9 rfl (dk rfl) rfl (fun a => (aw rfl (nL (tN (sR (Qs (aw rfl (nL (tN (T.seq ?_)))))))))))))
 refine sR (Qs (aw rfl (nL (tN (T.block (T.loop (Qe (Y0 5 1) ?_)))))))
 refine Qe ?_ (Qdt K K (0:Int) x0 [] a (Qc1 2) h)
 exact tr rfl (.c (.s .z) (.c .z (.n _)))
abbrev Ph (r : List Int) : ES := Jq tp ff80 (fun y t => y = (.sl false 1 (mU r)) ∧ t = [])
abbrev Qco (r : List Int) : ES := fT 37 [1,1] ff80 (Ph r)
abbrev Tp (r : List Int) : ES := fT 37 [1,1,1,1] ff80 (Ph r)
abbrev Rf (r : List Int) : ES := Qz 0 ((Tp r))
theorem Ep {r : List Int} (K : Nat) (h : Ge K = some r) : T tp 37 (ca [1,0,1,0] ff80) ⟨[], []⟩ (Qco r) := by
 unfold Ge at h
 refine sR (Qs (aw rfl (nL (tN (T.ret (Qr (Xl (Fc 2 false 1 rfl) (fd rfl (by cases h; exact ⟨rfl, rfl⟩)))))))))
theorem Qcp {r : List Int} (K : Nat) : ∀ (k : Nat), ∀ (b : Int) (x0 : Q8) (a : List Int) (g : Nat) (j : Value), Xu K k b x0 a = some r → TL tp 37 (ca [1,1,1,0,1,0,0] ff80) ⟨[(1, .ptr g 0), (3, .c (.ex j)), (4, .int .i64 b)], [(b24x8 g x0.Of x0.Many), .arrA j 5 1 (mU a)]⟩ (Rf r) := by
 intro k
 induction k with
 | zero =>
  intro b x0 a g j h
  exact zn h
 | succ k ih =>
  intro b x0 a g j h
  rw [Xu] at h
  refine Q7 (T.seq (sR (Qs (mw rfl (oP ul24 i3 rfl (oL 0 ul3 rfl (oI rfl ?_)))))))
  refine nL (tN ?_)
  rcases Qd h with ⟨p, h⟩ | ⟨p, h⟩
  refine Qp rfl p (T.skip (tN (T.seq (T.block (sR (Qs (oA 0 ((Zp.dc 256 .u8 x0.Of) ++ (([.int .i64 x0.Many] : List DC))) ul24 i24 rfl (mw rfl ?_))))))))
  obtain ⟨af, u, h⟩ := bind_some h
  refine oH fu115 (Zm.nil (Qib K u)) rfl ?_
  obtain ⟨s, w, h⟩ := bind_some h
  refine oH fu114 (Zm.nil (Qhe K w)) rfl (aw rfl (nL (tN (sR (Qs (mw rfl (oU s (cI .u8) B1 rfl (oI rfl (nL (tN ?_))))))))))
  rcases Qd h with ⟨q, h⟩ | ⟨q, h⟩
  refine Qp rfl q (Qs (mw rfl (sp rfl (OpT.buildSlice (elems := ([(0:Int)] : List Int).map (cI .u8)) rfl (dk rfl) B1 i5 (by decide) rfl (H4 rfl) rfl rfl rfl (X2 rfl) (by decide) ?_))))
  obtain ⟨y, h⟩ := Zb h
  refine sp rfl (Zk (i := 1) (xs := a) (ys := [(0:Int)]) (f := (cI .u8)) rfl (dk rfl) B1 i5 rfl rfl rfl rfl y (fun aa => (aw rfl (nL (Qk (tN (Qs (mw rfl (oI rfl (aw rfl ?_))))))))))
  refine nL (tN ?_)
  refine Qe ?_ (ih (wI (b + (1:Int))) x0 (a ++ [(0:Int)]) g aa h)
  exact tq rfl rfl
  refine Qo rfl q (Qs (mw rfl (mw rfl ?_)))
  obtain ⟨m, ab, h⟩ := bind_some h
  refine oX s (cI .u8) B1 i5 ab rfl (oR ul5 rfl (sp rfl (OpT.buildSlice (elems := ([m] : List Int).map (cI .u8)) rfl (dk rfl) B1 i5 (by decide) rfl (H4 rfl) rfl rfl rfl (X2 rfl) (by decide) ?_)))
  obtain ⟨ac, h⟩ := Zb h
  refine sp rfl (Zk (i := 1) (xs := a) (ys := [m]) (f := (cI .u8)) rfl (dk rfl) B1 i5 rfl rfl rfl rfl ac (fun ad => (aw rfl (nL (Qk (tN (Qs (mw rfl (oI rfl (aw rfl ?_))))))))))
  refine nL (tN ?_)
  refine Qe ?_ (ih (wI (b + (1:Int))) x0 (a ++ [m]) g ad h)
  exact tq rfl rfl
  refine Qo rfl p (T.exit (Ql (Ql (Qu (tN (sR (Qs (mw rfl (aw rfl (nL (tN (T.ret ?_))))))))))))
  refine Xl (Z3.view 2 1 rfl rfl) (fd rfl (by cases h; exact ⟨rfl, rfl⟩))
theorem Qgg (K : Nat) {x0 : Q8} {r : List Int} (h : Wk K x0 = some r) : Zm tp 80 [.agg ((Zp.dc 256 .u8 x0.Of) ++ (([.int .i64 x0.Many] : List DC)))] [] (.sl false 1 (mU r)) := by
 refine CI 37 fu80 rfl ?_
 unfold Wk at h
 refine sR (Qs (sp rfl (Q9 rfl (dk rfl) rfl (fun d => (aw rfl (nL (tN (T.seq (sR (Qs (oP ul24 i3 rfl ?_)))))))))))
 refine oL 0 ul3 rfl (oI rfl (mw rfl ?_))
 rcases Qd h with ⟨a, h⟩ | ⟨a, h⟩
 refine pf rfl a (pf rfl a (pf rfl a (oY a rfl (nL (tN (Qp rfl rfl ?_))))))
 refine Qg ?_ (Ep K h)
 exact tq rfl rfl
 refine sn rfl a (Vf rfl (dk rfl) ul24 rfl i3 (by decide) rfl (sn rfl a (Yb (i := 0) rfl (dk rfl) ul3 rfl rfl rfl rfl (sn rfl a (Z1 rfl rfl (dk rfl) rfl rfl (oZ a rfl (nL (tN ?_))))))))
 rcases Qd h with ⟨b, h⟩ | ⟨b, h⟩
 refine Qp rfl b ?_
 refine Qg ?_ (Ep K h)
 exact tq rfl rfl
 refine Qo rfl b (T.skip (tN (sR (Qs (aw rfl (nL (tN (T.seq (sR (Qs ?_))))))))))
 refine aw rfl (nL (tN (T.block (T.loop (Qe (Y0 5 1) ?_)))))
 refine Qe ?_ (Qcp K K (0:Int) x0 [] d (Qc1 2) h)
 exact tr rfl (.c (.s .z) (.c .z (.n _)))
abbrev Qjd (r : Bool) : ES := Jq tp ff112 (fun y t => y = (.bool r) ∧ t = [])
abbrev Qfn (r : Bool) : ES := fT 18 [1,1] ff112 (Qjd r)
abbrev Qdj (r : Bool) : ES := Qz 0 ((Qfn r))
theorem Qfo {r : Bool} (K : Nat) : ∀ (k : Nat), ∀ (x0 : List Int) (x1 a : Int) (flx0 : Bool), Vj K k x0 x1 a = some r → TL tp 18 (ca [1,0,1,0,0] ff112) ⟨[(0, .sl flx0 1 (mI x0)), (1, .int .i64 x1), (5, .int .i64 a)], []⟩ (Qdj r) := by
 intro k
 induction k with
 | zero =>
  intro x0 x1 a flx0 h
  exact zn h
 | succ k ih =>
  intro x0 x1 a flx0 h
  rw [Vj] at h
  refine Q7 (T.seq (sR (Qs (mw rfl (mw rfl (oU x0 (cI .i64) Zs rfl (oI rfl ?_)))))))
  refine nL (tN ?_)
  rcases Qd h with ⟨b, h⟩ | ⟨b, h⟩
  refine Qp rfl b (T.skip (tN (T.seq (T.block (sR (Qs (mw rfl (mw rfl ?_))))))))
  obtain ⟨d, g, h⟩ := bind_some h
  refine oX x0 (cI .i64) Zs i3 g rfl (oR ul3 rfl (mw rfl (oI rfl (nL (tN ?_)))))
  rcases Qd h with ⟨c, h⟩ | ⟨c, h⟩
  refine Qp rfl c (sR (Qs (aw rfl (nL (tN (T.ret (Q1 (Qr (Qr (Q1 (Qr (fd rfl (by cases h; exact ⟨rfl, rfl⟩)))))))))))))
  refine Qo rfl c (T.skip (Qk (tN (Qs (mw rfl (oI rfl (aw rfl (nL (tN ?_)))))))))
  refine Qe ?_ (ih x0 x1 (wI (a + (1:Int))) flx0 h)
  exact tq rfl rfl
  refine Qo rfl b (T.exit (Ql (Ql (Qu (tN (sR (Qs (aw rfl (nL (tN (T.ret (fd rfl (by cases h; exact ⟨rfl, rfl⟩)))))))))))))
theorem Bx (K : Nat) {x0 : List Int} {x1 : Int} {flx0 r : Bool} (h : Wc K x0 x1 = some r) : Zm tp 112 [.sl flx0 1 (mI x0), .int .i64 x1] [] (.bool r) := by
 refine CI 18 fu112 rfl ?_
 unfold Wc at h
 refine sR (Qs (aw rfl (nL (tN (T.seq (sR (Qs (aw rfl (nL (tN ?_))))))))))
 refine T.block (T.loop ?_)
 refine Qe ?_ (Qfo K K x0 x1 (0:Int) flx0 h)
 exact tq rfl rfl
abbrev Nh (bx0 : Nat) (x0 : Qb) (r : Bool) : ES := Jq tp ff82 (fun y t => ∃ γ : Nat → Value, y = (.bool r) ∧ t = [(Wm bx0 x0.g.First x0.g.P (γ 0) x0.a.Split.Of x0.a.Split.Many (γ 1) (γ 2) x0.e), .arrA (γ 0) 3 1 (mI x0.number), .arrA (γ 1) 59 2 (mA x0.a.Counts), .arrX (γ 2) 51 4 0 (x0.a.States.map Qh)])
abbrev Dx (bx0 : Nat) (x0 : Qb) (r : Bool) : ES := fT 54 [1,1,1] ff82 (Nh bx0 x0 r)
abbrev C2 (bx0 : Nat) (x0 : Qb) (r : Bool) : ES := Qz 0 ((Dx bx0 x0 r))
theorem Ez {r : Bool} (K bx0 : Nat) (x0 : Qb) : ∀ (k : Nat), ∀ (x3 x4 s : Int) (x0 : Qb) (x2 : Qa) (y aa w0_0aa : Value) (p : Nat), Z8 K k x3 x4 s x0 x2 = some r → TL tp 54 (ca [1,1,0,1,0,0] ff82) ⟨[(0, .ptr bx0 0), (3, .int .i64 x3), (4, .int .i64 x4), (7, .ptr p 0), (11, .int .i64 s)], [(Wm bx0 x0.g.First x0.g.P y x0.a.Split.Of x0.a.Split.Many aa w0_0aa x0.e), .arrA y 3 1 (mI x0.number), .arrA aa 59 2 (mA x0.a.Counts), .arrX w0_0aa 51 4 0 (x0.a.States.map Qh), (J5 p x2.L x2.R x2.Rule x2.Next)]⟩ (C2 bx0 x0 r) := by
 intro k
 induction k with
 | zero =>
  intro x3 x4 s x0 x2 y aa w0_0aa p h
  exact zn h
 | succ k ih =>
  intro x3 x4 s x0 x2 y aa w0_0aa p h
  rw [Z8] at h
  refine Q7 (T.seq (sR (Qs (mw rfl (oP Hx i38 rfl (oL 4 Zs rfl (oU x2.L (cI .i64) Zs rfl ?_)))))))
  refine oI rfl (nL (tN ?_))
  rcases Qd h with ⟨ac, h⟩ | ⟨ac, h⟩
  refine Qp rfl ac (T.skip (tN (T.seq (T.block (T.seq (Ja (gM rfl (fun _ => .f rfl) (fun _ => rfl) ?_)))))))
  refine gW 4 [.sl false 1 (mI x2.L), .sl false 1 (mI x2.R), .sl false 1 (mI x2.Rule), .sl false 1 (x2.Next.map (cL 2 Qn))] rfl (fun _ => .f rfl) Hx i51 (fun _ => rfl) (gM rfl (fun _ => .f rfl) (fun _ => rfl) (gP rfl (fun _ => .f rfl) Hx i38 (fun _ => rfl) (gL 4 rfl (fun _ => .f rfl) Zs (fun _ => rfl) (gM rfl (fun _ => .f rfl) (fun _ => rfl) ?_))))
  obtain ⟨w, af, h⟩ := bind_some h
  refine gX x2.L (cI .i64) rfl (fun _ => .f rfl) Zs i3 af (fun _ => rfl) (gR rfl (fun _ => .f rfl) ul3 (fun _ => rfl) ?_)
  obtain ⟨q, ag, h⟩ := bind_some h
  refine DGG.step (c := fun b => ⟨some 36, .bool q, [(28, .ptr bx0 0), (29, .agg [.sl false 1 (mI x2.L), .sl false 1 (mI x2.R), .sl false 1 (mI x2.Rule), .sl false 1 (x2.Next.map (cL 2 Qn))]), (30, .int .i64 x3), (35, .int .i64 w)], [(3, .arrX w0_0aa 51 4 0 (x0.a.States.map Qh)), (2, .arrA aa 59 2 (mA x0.a.Counts)), (1, .arrA y 3 1 (mI x0.number)), (0, (Wm bx0 x0.g.First x0.g.P y x0.a.Split.Of x0.a.Split.Many aa w0_0aa x0.e))], [(0, (Wm bx0 x0.g.First x0.g.P ((b 8).1 0) x0.a.Split.Of x0.a.Split.Many ((b 8).1 1) ((b 8).1 2) x0.e)), (1, .arrA ((b 8).1 0) 3 1 (mI x0.number)), (2, .arrA ((b 8).1 1) 59 2 (mA x0.a.Counts)), (3, .arrX ((b 8).1 2) 51 4 0 (x0.a.States.map Qh))]⟩) [8] (fun b γ' h => by simp only [h 8 (by decide)]) (fun b t hm => oF rfl rfl (Zc (is := [0, 1, 2, 3]) (ph := []) rfl (dk rfl) fu79 rfl rfl (Zw.cons hm.s0 (Zw.cons hm.s1 (Zw.cons hm.s2 (Zw.cons hm.s3 Zw.nil)))) (My K (bx0 := bx0) (wx0c1 := y) (wx0c2c1 := aa) (wx0c2c2 := w0_0aa) ag) (.cons (hm.objs (0, _) (.tail _ (.tail _ (.tail _ (.head _))))) rfl (.cons hm.o2 rfl (.cons hm.o1 rfl (.cons hm.o0 rfl (.nil))))) (fun _ => rfl) (fun g => ⟨(g, 0), rfl⟩))) (fun b => Zt rfl rfl) (gM rfl (fun _ => .f rfl) (fun _ => rfl) ?_)
  rcases Qd h with ⟨m, h⟩ | ⟨m, h⟩
  refine gM rfl (fun _ => .n m rfl) (fun _ => rfl) (gK rfl (fun _ => .n m rfl) (fun _ => rfl) (gP rfl (fun _ => .n m rfl) Qa2 i43 (fun _ => rfl) (gP rfl (fun _ => .n m rfl) F7 i41 (fun _ => rfl) (DGG.step (c := fun b => ⟨some 42, .sl false 9 (x0.g.P.map Qv), [(41, .ptr bx0 (0 + 0 + 1)), (37, .bool q)], [(0, (Wm bx0 x0.g.First x0.g.P ((b 8).1 0) x0.a.Split.Of x0.a.Split.Many ((b 8).1 1) ((b 8).1 2) x0.e))], []⟩) [8] (fun b γ' h => by simp only [h 8 (by decide)]) (fun b t hm => oN rfl rfl rfl hm.s1 m (Yb (i := 0) rfl (dk rfl) Ci rfl hm.s0 hm.o0 rfl ⟨u0, rfl⟩)) (fun b => Zt rfl rfl) (gP rfl (fun _ => .n m rfl) Hx i38 (fun _ => rfl) (gL 4 rfl (fun _ => .n m rfl) Zs (fun _ => rfl) ?_))))))
  refine gM rfl (fun _ => .n m rfl) (fun _ => rfl) (gX x2.L (cI .i64) rfl (fun _ => .n m rfl) Zs i3 af (fun _ => rfl) (gR rfl (fun _ => .n m rfl) ul3 (fun _ => rfl) ?_))
  obtain ⟨j, ai, h⟩ := bind_some h
  refine gX x0.g.P Qv rfl (fun _ => .n m rfl) Ci i65 ai (fun _ => rfl) (gQ rfl (fun _ => .n m rfl) Qbf i38 (fun _ => rfl) (gR rfl (fun _ => .n m rfl) Zs (fun _ => rfl) (gM rfl (fun _ => .n m rfl) (fun _ => rfl) ?_)))
  obtain ⟨ab, aj, h⟩ := bind_some h
  refine dC (c := ⟨some 52, .bool ab, [(50, .sl false 1 (mI j.Next)), (51, .int .i64 x4), (37, .bool q)], [], []⟩) (fun t hm => oN rfl rfl rfl hm.s2 m (Uv rfl (dk rfl) fu112 rfl rfl (Zw.cons hm.s0 (Zw.cons hm.s1 Zw.nil)) (Zm.nil (Bx K (flx0 := false) aj)) ⟨u0, rfl⟩)) (fun _ => rfl) (fun _ => rfl) (gY rfl (fun _ => .f rfl) m (fun _ => rfl) (gF [0,0,0,0,8,0,56,120,255,511,1023,2047,4095,8191,16383,1023,33791,1023,230399,492543,1048575,2097151,4194303,1023,16777215,33554431] Q0 rfl (by kernel_rfl) (fun _ => by kernel_rfl) (fun b u hu => (tN (Qg hu ?_)))))
  rcases Qd h with ⟨ad, h⟩ | ⟨ad, h⟩
  refine Qp rfl ad (sR (Qs (aw rfl (nL (tN (T.ret (Q1 (Qr (Qr (Q1 (Qr (Q6 (.cons _ _ _ _ (.tmp 10 _ rfl) .nil) (.cons 0 rfl (.cons 0 rfl (.cons 0 rfl (.cons 0 rfl (.nil _))))) (by cases h; exact ⟨gl [(b 8).1 0, (b 8).1 1, (b 8).1 2], rfl, rfl⟩)))))))))))))
  refine Qo rfl ad (T.skip (Qk (tN (Qs (mw rfl (oI rfl (aw rfl (nL (tN ?_)))))))))
  refine Qe ?_ (ih x3 x4 (wI (s + (1:Int))) x0 x2 ((b 8).1 0) ((b 8).1 1) ((b 8).1 2) p h)
  exact tq rfl rfl
  refine DGG.off m rfl rfl rfl rfl rfl (fun _ => rfl) (DGG.off m rfl rfl rfl rfl rfl (fun _ => rfl) (DGG.off m rfl rfl rfl rfl rfl (fun _ => rfl) (DGG.off m rfl rfl rfl rfl rfl (fun _ => rfl) (DGG.off m rfl rfl rfl rfl rfl (fun _ => rfl) (DGG.off m rfl rfl rfl rfl rfl (fun _ => rfl) (DGG.off m rfl rfl rfl rfl rfl (fun _ => rfl) ?_))))))
  refine DGG.off m rfl rfl rfl rfl rfl (fun _ => rfl) (DGG.off m rfl rfl rfl rfl rfl (fun _ => rfl) (DGG.off m rfl rfl rfl rfl rfl (fun _ => rfl) (DGG.off m rfl rfl rfl rfl rfl (fun _ => rfl) (DGG.off m rfl rfl rfl rfl rfl (fun _ => rfl) (DGG.off m rfl rfl rfl rfl rfl (fun _ => rfl) (DGG.off m rfl rfl rfl rfl rfl (fun _ => rfl) ?_))))))
  refine DGG.off m rfl rfl rfl rfl rfl (fun _ => rfl) (gZ rfl (fun _ => .f rfl) m (fun _ => rfl) (gF [0,0,0,0,8,0,56,120,255,511,1023,2047,4095,8191,16383,1023,33791,1023,230399,492543,1048575,2097151,4194303,1023,16777215,33554431] Q0 rfl (by kernel_rfl) (fun _ => by kernel_rfl) (fun b u hu => (tN (Qg hu (Qo rfl rfl (T.skip (Qk (tN (Qs (mw rfl ?_)))))))))))
  refine oI rfl (aw rfl (nL (tN ?_)))
  refine Qe ?_ (ih x3 x4 (wI (s + (1:Int))) x0 x2 ((b 8).1 0) ((b 8).1 1) ((b 8).1 2) p h)
  exact tq rfl rfl
  refine Qo rfl ac (T.exit (Ql (Ql (Qu (tN (sR (Qs (aw rfl (nL (tN (T.ret (Q6 (.cons _ _ _ _ (.tmp 10 _ rfl) .nil) (.cons 0 rfl (.cons 0 rfl (.cons 0 rfl (.cons 0 rfl (.nil _))))) (by cases h; exact ⟨gl [y, aa, w0_0aa], rfl, rfl⟩)))))))))))))
theorem Ni (K : Nat) {x0 : Qb} {x1 : Int} {x2 : Qa} {x3 x4 : Int} {bx0 : Nat} {wx0c1 wx0c2c1 wx0c2c2 : Value} {r : Bool} (h : Vp K x0 x1 x2 x3 x4 = some r) : Jb tp 82 [.ptr bx0 0, .int .i64 x1, .agg [.sl false 1 (mI x2.L), .sl false 1 (mI x2.R), .sl false 1 (mI x2.Rule), .sl false 1 (x2.Next.map (cL 2 Qn))], .int .i64 x3, .int .i64 x4] [(Wm bx0 x0.g.First x0.g.P wx0c1 x0.a.Split.Of x0.a.Split.Many wx0c2c1 wx0c2c2 x0.e), .arrA wx0c1 3 1 (mI x0.number), .arrA wx0c2c1 59 2 (mA x0.a.Counts), .arrX wx0c2c2 51 4 0 (x0.a.States.map Qh)] (fun γ => (.bool r)) (fun γ => [(Wm bx0 x0.g.First x0.g.P (γ 0) x0.a.Split.Of x0.a.Split.Many (γ 1) (γ 2) x0.e), .arrA (γ 0) 3 1 (mI x0.number), .arrA (γ 1) 59 2 (mA x0.a.Counts), .arrX (γ 2) 51 4 0 (x0.a.States.map Qh)]) := by
 refine CI 54 fu82 rfl ?_
 unfold Vp at h
 refine sR (Qs (sp rfl (Q9 rfl (dk rfl) rfl (fun f => (aw rfl (nL (tN (T.seq (sR (Qs (mw rfl ?_)))))))))))
 refine oI rfl (nL (tN ?_))
 rcases Qd h with ⟨b, h⟩ | ⟨b, h⟩
 refine Qp rfl b (sR (Qs (mw rfl (oK rfl (oP Qa2 i43 rfl (oP F7 i38 rfl (oL 1 Zs rfl ?_)))))))
 refine mw rfl ?_
 obtain ⟨l, j, h⟩ := bind_some h
 refine oH fu112 (Zm.nil (Bx K (flx0 := false) j)) rfl (aw rfl (nL (tN (T.ret (Qr (Q6 (.cons _ _ _ _ (.tmp 10 _ rfl) .nil) (.cons 1 rfl (.cons 1 rfl (.cons 1 rfl (.cons 1 rfl (.nil _))))) (by cases h; exact ⟨gl [wx0c1, wx0c2c1, wx0c2c2], rfl, rfl⟩)))))))
 refine Qo rfl b (T.skip (tN (T.seq (sR (Qs (aw rfl (nL (tN (T.block ?_)))))))))
 refine T.loop ?_
 refine Qe ?_ (Ez K bx0 x0 K x3 x4 (0:Int) x0 x2 wx0c1 wx0c2c1 wx0c2c2 f h)
 exact tr rfl (.c (.s .z) (.c (.s .z) (.c (.s .z) (.c (.s .z) (.c .z (.n _))))))
abbrev Qj7 (bx0 : Nat) (x0 : Qb) (r : Bool) : ES := Jq tp ff83 (fun y t => ∃ γ : Nat → Value, y = (.bool r) ∧ t = [(Wm bx0 x0.g.First x0.g.P (γ 0) x0.a.Split.Of x0.a.Split.Many (γ 1) (γ 2) x0.e), .arrA (γ 0) 3 1 (mI x0.number), .arrA (γ 1) 59 2 (mA x0.a.Counts), .arrX (γ 2) 51 4 0 (x0.a.States.map Qh)])
theorem Ov (K : Nat) {x0 : Qb} {x1 : Qa} {x2 x3 : Int} {bx0 : Nat} {wx0c1 wx0c2c1 wx0c2c2 : Value} {r : Bool} (h : V9 K x0 x1 x2 x3 = some r) : Jb tp 83 [.ptr bx0 0, .agg [.sl false 1 (mI x1.L), .sl false 1 (mI x1.R), .sl false 1 (mI x1.Rule), .sl false 1 (x1.Next.map (cL 2 Qn))], .int .i64 x2, .int .i64 x3] [(Wm bx0 x0.g.First x0.g.P wx0c1 x0.a.Split.Of x0.a.Split.Many wx0c2c1 wx0c2c2 x0.e), .arrA wx0c1 3 1 (mI x0.number), .arrA wx0c2c1 59 2 (mA x0.a.Counts), .arrX wx0c2c2 51 4 0 (x0.a.States.map Qh)] (fun γ => (.bool r)) (fun γ => [(Wm bx0 x0.g.First x0.g.P (γ 0) x0.a.Split.Of x0.a.Split.Many (γ 1) (γ 2) x0.e), .arrA (γ 0) 3 1 (mI x0.number), .arrA (γ 1) 59 2 (mA x0.a.Counts), .arrX (γ 2) 51 4 0 (x0.a.States.map Qh)]) := by
 refine CI 27 fu83 rfl ?_
 unfold V9 at h
 refine sR (Qs (sp rfl (Q9 rfl (dk rfl) rfl (fun q => (aw rfl (nL (tN (sR (Qs (mw rfl (oA 0 [.sl false 1 (mI x1.L), .sl false 1 (mI x1.R), .sl false 1 (mI x1.Rule), .sl false 1 (x1.Next.map (cL 2 Qn))] Hx i51 rfl (mw rfl ?_))))))))))))
 refine mw rfl ?_
 obtain ⟨s, m, h⟩ := bind_some h
 refine sp rfl (Zc (is := [1, 2, 3, 4]) (ph := []) rfl (dk rfl) fu113 rfl rfl (Zw.cons rfl (Zw.cons rfl (Zw.cons rfl (Zw.cons rfl Zw.nil)))) (K6 K (bx0 := bx0) (wx0c1 := wx0c1) (wx0c2c1 := wx0c2c1) (wx0c2c2 := wx0c2c2) m) (.cons rfl rfl (.cons rfl rfl (.cons rfl rfl (.cons rfl rfl (.nil))))) (fun _ => rfl) (fun f => (nm (.c (.c (.c (.c (.c (.n)))))) (aw rfl (nL (tN (sR (Qs (oP Hx i38 rfl (oL 0 Zs rfl (mw rfl ?_)))))))))))
 obtain ⟨u, p, h⟩ := bind_some h
 refine oH fu112 (Zm.nil (Bx K (flx0 := false) p)) rfl (mw rfl ?_)
 rcases Qd h with ⟨b, h⟩ | ⟨b, h⟩
 refine sn rfl b (OpT.move rfl (dk rfl) rfl (sn rfl b (Z1 rfl rfl (dk rfl) rfl rfl (sn rfl b (OpT.move rfl (dk rfl) rfl ?_)))))
 rcases Qd h with ⟨j, h⟩ | ⟨j, h⟩
 refine pf rfl j (pf rfl j (sn rfl b (Qd6 rfl (dk rfl) rfl j rfl (oY b rfl (aw rfl (nL (tN (T.ret ?_))))))))
 exact Q6 (.cons _ _ _ _ (.tmp 8 _ rfl) .nil) (.cons 1 rfl (.cons 1 rfl (.cons 1 rfl (.cons 1 rfl (.nil _))))) (by cases h; exact ⟨gl [f 0, f 1, f 2], rfl, rfl⟩)
 refine sn rfl j (OpT.move rfl (dk rfl) rfl (sn rfl j (Z1 rfl rfl (dk rfl) rfl rfl (sn rfl b (Qd7 rfl (dk rfl) rfl j rfl (oY b rfl (aw rfl (nL (tN (T.ret ?_))))))))))
 exact Q6 (.cons _ _ _ _ (.tmp 8 _ rfl) .nil) (.cons 1 rfl (.cons 1 rfl (.cons 1 rfl (.cons 1 rfl (.nil _))))) (by cases h; exact ⟨gl [f 0, f 1, f 2], rfl, rfl⟩)
 refine pf rfl b (pf rfl b (pf rfl b (Qe2 (.gone _ _ _ rfl rfl rfl) (dk rfl) (Qe2 (.gone _ _ _ rfl rfl rfl) (dk rfl) (pf rfl b (oZ b rfl ?_))))))
 refine aw rfl (nL (tN (T.ret (Q6 (.cons _ _ _ _ (.tmp 8 _ rfl) .nil) (.cons 1 rfl (.cons 1 rfl (.cons 1 rfl (.cons 1 rfl (.nil _))))) (by cases h; exact ⟨gl [f 0, f 1, f 2], rfl, rfl⟩)))))
abbrev Mz (bx0 : Nat) (r : Int × Qb) : ES := Jq tp ff84 (fun y t => ∃ γ : Nat → Value, y = (.int .i64 r.1) ∧ t = [(Wm bx0 r.2.g.First r.2.g.P (γ 0) r.2.a.Split.Of r.2.a.Split.Many (γ 1) (γ 2) r.2.e), .arrA (γ 0) 3 1 (mI r.2.number), .arrA (γ 1) 59 2 (mA r.2.a.Counts), .arrX (γ 2) 51 4 0 (r.2.a.States.map Qh)])
abbrev Im (bx0 : Nat) (r : Int × Qb) : ES := fT 122 [1,1] ff84 (Mz bx0 r)
abbrev Gp (bx0 : Nat) (r : Int × Qb) : ES := Qz 0 ((Im bx0 r))
abbrev Ey (bx0 : Nat) (r : Int × Qb) : ES := fL 122 [1,0,1,0,0] ff84 (Gp bx0 r)
abbrev C1 (bx0 : Nat) (r : Int × Qb) : ES := fT 122 [1,0,1,0,0,1,1] ff84 (Ey bx0 r)
abbrev Mk (bx0 : Nat) (r : Int × Qb) : ES := Qz 1 ((C1 bx0 r))
abbrev Ky (bx0 : Nat) (r : Int × Qb) : ES := fT 122 [1,0,1,0,0,1,0,0,1,1,0,1,1] ff84 (Mk bx0 r)
abbrev H2 (bx0 : Nat) (r : Int × Qb) : ES := Qz 2 ((Ky bx0 r))
abbrev Ex (bx0 : Nat) (r : Int × Qb) : ES := fT 122 [1,1,1,1] ff84 (Mz bx0 r)
abbrev Dd (bx0 : Nat) (r : Int × Qb) : ES := Qz 4 ((Ex bx0 r))
abbrev L4 (bx0 : Nat) (r : Int × Qb) (go : (List Int) → Int → Qb → Option (Int × Qb)) : Prop := ∀ (x1 : List Int) (b : Int) (x0 : Qb) (flx1 : Bool) (c f w0_0aa : Value), go x1 b x0 = some r → TL tp 122 (ca [1,0,1,0,0] ff84) ⟨[(0, .ptr bx0 0), (1, .sl flx1 1 (mI x1)), (5, .int .i64 b)], [(Wm bx0 x0.g.First x0.g.P c x0.a.Split.Of x0.a.Split.Many f w0_0aa x0.e), .arrA c 3 1 (mI x0.number), .arrA f 59 2 (mA x0.a.Counts), .arrX w0_0aa 51 4 0 (x0.a.States.map Qh)]⟩ (Gp bx0 r)
theorem Ip {r : Int × Qb} (K bx0 : Nat) (go0 : (List Int) → Int → Qb → Option (Int × Qb)) (hgo0 : L4 bx0 r go0) : ∀ (k : Nat), ∀ (x1 : List Int) (w : Int) (p : List Int) (j : Bool) (i : Int) (x0 : Qb) (flx1 : Bool) (q s w0_1aa : Value), Yi K go0 k x1 w p j i x0 = some r → TL tp 122 (ca [1,0,1,0,0,1,0,0,1,1,0,1,0,1,0,0] ff84) ⟨[(0, .ptr bx0 0), (1, .sl flx1 1 (mI x1)), (5, .int .i64 w), (6, .sl false 1 (mI p)), (7, .bool j), (8, .int .i64 i)], [(Wm bx0 x0.g.First x0.g.P q x0.a.Split.Of x0.a.Split.Many s w0_1aa x0.e), .arrA q 3 1 (mI x0.number), .arrA s 59 2 (mA x0.a.Counts), .arrX w0_1aa 51 4 0 (x0.a.States.map Qh)]⟩ (H2 bx0 r) := by
 intro k
 induction k with
 | zero =>
  intro x1 w p j i x0 flx1 q s w0_1aa h
  exact zn h
 | succ k ih =>
  intro x1 w p j i x0 flx1 q s w0_1aa h
  rw [Yi] at h
  refine Q7 (T.seq (sR (Qs (mw rfl (mw rfl (oU x1 (cI .i64) Zs rfl (oI rfl ?_)))))))
  refine nL (tN ?_)
  rcases Qd h with ⟨y, h⟩ | ⟨y, h⟩
  refine Qp rfl y (T.skip (tN (T.seq (T.block (Z7 (dV rfl rfl (dV rfl rfl ?_)))))))
  rcases Qd h with ⟨b, h⟩ | ⟨b, h⟩
  refine dM rfl (.n b rfl) rfl (dM rfl (.n b rfl) rfl ?_)
  obtain ⟨l, ab, h⟩ := bind_some h
  refine dX p (cI .i64) rfl (.n b rfl) Zs i3 ab rfl (dR rfl (.n b rfl) ul3 rfl (dM rfl (.n b rfl) rfl (dM rfl (.n b rfl) rfl ?_)))
  obtain ⟨m, ac, h⟩ := bind_some h
  refine dX x1 (cI .i64) rfl (.n b rfl) Zs i3 ac rfl (dR rfl (.n b rfl) ul3 rfl (dI rfl (.n b rfl) rfl (dY rfl (.f rfl) b rfl (dA rfl (.f rfl) rfl (dF [0,1,3,3,15,31,3,3,195,451,1023,2047,4095] Q0 rfl (by kernel_rfl) (fun u hu => (Qk (tN (Qg hu (Qs ?_))))))))))
  refine mw rfl (oI rfl (aw rfl (nL (tN ?_))))
  refine Qe ?_ (ih x1 w p (l == m) (wI (i + (1:Int))) x0 flx1 q s w0_1aa h)
  exact tq rfl rfl
  refine dO b rfl rfl (dO b rfl rfl (dO b rfl rfl (dO b rfl rfl (dO b rfl rfl (dO b rfl rfl (dO b rfl rfl ?_))))))
  refine dO b rfl rfl (dO b rfl rfl (dZ rfl (.f rfl) b rfl (dA rfl (.f rfl) rfl (dF [0,1,3,3,15,31,3,3,195,451,1023,2047,4095] Q0 rfl (by kernel_rfl) (fun u hu => (Qk (tN (Qg hu (Qs (mw rfl ?_))))))))))
  refine oI rfl (aw rfl (nL (tN ?_)))
  refine Qe ?_ (ih x1 w p false (wI (i + (1:Int))) x0 flx1 q s w0_1aa h)
  exact tq rfl rfl
  refine Qo rfl y (T.exit (Ql (Ql (Qu (tN (sR (Qs (mw rfl (nL (tN ?_))))))))))
  rcases Qd h with ⟨aa, h⟩ | ⟨aa, h⟩
  refine Qp rfl aa (sR (Qs (mw rfl (aw rfl (nL (tN (T.ret (Q1 (Qr (Qr (Q1 (Qr (Q6 (.cons _ _ _ _ (.tmp 4 _ rfl) .nil) (.cons 0 rfl (.cons 0 rfl (.cons 0 rfl (.cons 0 rfl (.nil _))))) (by cases h; exact ⟨gl [q, s, w0_1aa], rfl, rfl⟩))))))))))))))
  refine Qo rfl aa (T.skip (Qk (tN (Qs (mw rfl (oI rfl (aw rfl (nL (tN ?_)))))))))
  refine Qe ?_ (hgo0 x1 (wI (w + (1:Int))) x0 flx1 q s w0_1aa h)
  exact tq rfl rfl
theorem Io {r : Int × Qb} (K bx0 : Nat) : ∀ (k : Nat), ∀ (x1 : List Int) (y : Int) (x0 : Qb) (q : List Int) (flx1 : Bool) (j p : Value) (w0_2aa s : Value), Z5 K k x1 y x0 q = some r → TL tp 122 (ca [1,1,1,0,1,0,0] ff84) ⟨[(0, .ptr bx0 0), (1, .sl flx1 1 (mI x1)), (9, .c (.ex s)), (10, .int .i64 y)], [(Wm bx0 x0.g.First x0.g.P j x0.a.Split.Of x0.a.Split.Many p w0_2aa x0.e), .arrA j 3 1 (mI x0.number), .arrA p 59 2 (mA x0.a.Counts), .arrX w0_2aa 51 4 0 (x0.a.States.map Qh), .arrA s 3 1 (mI q)]⟩ (Dd bx0 r) := by
 intro k
 induction k with
 | zero =>
  intro x1 y x0 q flx1 j p w0_2aa s h
  exact zn h
 | succ k ih =>
  intro x1 y x0 q flx1 j p w0_2aa s h
  rw [Z5] at h
  refine Q7 (T.seq (sR (Qs (mw rfl (mw rfl (oU x1 (cI .i64) Zs rfl (oI rfl ?_)))))))
  refine nL (tN ?_)
  rcases Qd h with ⟨ab, h⟩ | ⟨ab, h⟩
  refine Qp rfl ab (T.skip (tN (T.seq (T.block (T.seq (Z7 (dV rfl rfl ?_)))))))
  refine dK rfl (.f rfl) rfl (dP rfl (.f rfl) Qa2 i38 rfl (dS (c := ⟨some 64, .sl false 1 (mI x0.number), [(63, .ptr bx0 (0 + 2))], [(0, (Wm bx0 x0.g.First x0.g.P j x0.a.Split.Of x0.a.Split.Many p w0_2aa x0.e)), (1, .arrA j 3 1 (mI x0.number))], []⟩) (fun t hm => oF rfl rfl (Zq (Yb (i := 0) rfl (dk rfl) Zs rfl hm.s0 hm.o0 rfl rfl) (Hc 64 1 hm.o1) rfl)) rfl rfl (dV rfl rfl (dV rfl rfl ?_))))
  obtain ⟨aa, ag, h⟩ := bind_some h
  refine dX x1 (cI .i64) rfl (.f rfl) Zs i3 ag rfl (dR rfl (.f rfl) ul3 rfl ?_)
  obtain ⟨m, ai, h⟩ := bind_some h
  refine dX x0.number (cI .i64) rfl (.f rfl) Zs i3 ai rfl (dR rfl (.f rfl) ul3 rfl (dI rfl (.f rfl) rfl (dF [0,1,3,7,0,0,48,112,255,511,1023] Q0 rfl (by kernel_rfl) (fun u hu => (tN (Qg hu ?_))))))
  rcases Qd h with ⟨ac, h⟩ | ⟨ac, h⟩
  refine Qp rfl ac (Ja (gM rfl (fun _ => .f rfl) (fun _ => rfl) (gM rfl (fun _ => .f rfl) (fun _ => rfl) (gK rfl (fun _ => .f rfl) (fun _ => rfl) (gP rfl (fun _ => .f rfl) Qa2 i38 (fun _ => rfl) (dC (c := ⟨some 76, .sl false 1 (mI x0.number), [(75, .ptr bx0 (0 + 2))], [(0, (Wm bx0 x0.g.First x0.g.P j x0.a.Split.Of x0.a.Split.Many p w0_2aa x0.e)), (1, .arrA j 3 1 (mI x0.number))], []⟩) (fun t hm => oF rfl rfl (Zq (Yb (i := 0) rfl (dk rfl) Zs rfl hm.s0 hm.o0 rfl rfl) (Hc 76 1 hm.o1) ⟨u0, rfl⟩)) (fun _ => rfl) (fun _ => rfl) ?_))))))
  refine gM rfl (fun _ => .f rfl) (fun _ => rfl) (gM rfl (fun _ => .f rfl) (fun _ => rfl) (gX x1 (cI .i64) rfl (fun _ => .f rfl) Zs i3 ag (fun _ => rfl) (gR rfl (fun _ => .f rfl) ul3 (fun _ => rfl) (gX x0.number (cI .i64) rfl (fun _ => .f rfl) Zs i3 ai (fun _ => rfl) (gR rfl (fun _ => .f rfl) ul3 (fun _ => rfl) (dC (c := ⟨some 83, .sl true 1 ([m].map (cI .i64)), [(82, .int .i64 m)], [], []⟩) (fun t hm => oF rfl rfl (OpT.buildSlice (elems := ([m] : List Int).map (cI .i64)) rfl (dk rfl) Zs i3 (by decide) rfl (H4 rfl) (Xe hm.s0 rfl Wt) rfl rfl (X2 rfl) (by decide) ⟨u0, rfl⟩)) (fun _ => rfl) (fun _ => rfl) ?_))))))
  obtain ⟨al, h⟩ := Zb h
  refine DGG.step (c := fun b => ⟨some 84, .c (.ex ((b 12).1 0)), [(83, .sl true 1 ([m].map (cI .i64))), (72, .c (.ex s))], [(4, .arrA s 3 1 (mI q))], [(4, .arrA ((b 12).1 0) 3 1 ((q ++ [m]).map (cI .i64)))]⟩) [12] (fun b γ' h => by simp only [h 12 (by decide)]) (fun b t hm => oF rfl rfl (Zk (i := 4) (xs := q) (ys := [m]) (f := (cI .i64)) rfl (dk rfl) Zs i3 rfl hm.s1 hm.o0 hm.s0 al (fun w => ⟨(fun _ => w, 0), rfl⟩))) (fun b => Zt rfl rfl) (DGG.step (c := fun b => ⟨some 9, .c (.ex ((b 12).1 0)), [(84, .c (.ex ((b 12).1 0)))], [], []⟩) [12] (fun b γ' h => by simp only [h 12 (by decide)]) (fun b t hm => oF rfl rfl (OpT.assign rfl (dk rfl) hm.s0 ⟨u0, rfl⟩)) (fun b => Zt rfl rfl) (gF [0,0,2,6,14,0,0,96,224,510,1022,2046,4095,8191] Q0 rfl (by kernel_rfl) (fun _ => by kernel_rfl) (fun b u hu => (Qk (tN (Qg hu (Qs (mw rfl (oI rfl (aw rfl ?_))))))))))
  refine nL (tN ?_)
  refine Qe ?_ (ih x1 (wI (y + (1:Int))) x0 (q ++ [m]) flx1 j p w0_2aa ((b 12).1 0) h)
  exact tq rfl rfl
  refine Qo rfl ac (T.skip (Qk (tN (Qs (mw rfl (oI rfl (aw rfl (nL (tN ?_)))))))))
  refine Qe ?_ (ih x1 (wI (y + (1:Int))) x0 q flx1 j p w0_2aa s h)
  exact tq rfl rfl
  refine Qo rfl ab (T.exit (Ql (Ql (Qu (tN (T.seq (sR (Qs (mw rfl (sp rfl (Ho (i := 4) (xs := q) (f := (cI .i64)) rfl (dk rfl) Zs rfl rfl (oI rfl ?_))))))))))))
  refine nL (tN ?_)
  rcases Qd h with ⟨ad, h⟩ | ⟨ad, h⟩
  refine Qp rfl ad (sR (Qs (mw rfl (oK rfl (oP Qa2 i30 rfl (sp rfl (Jh (i := 0) (cells' := (([.d (.sl false 1 (mI x0.g.First)), .d (.sl false 9 (x0.g.P.map Qv)), .d (.ex j)]:List OC) ++ ((Zp.oc 256 .u8 x0.a.Split.Of) ++ (([.d (.int .i64 x0.a.Split.Many), .d (.ex p), .d (.ex w0_2aa), .d (.int .i64 (110:Int))]:List OC))))) rfl rfl i30 rfl rfl rfl (nb rfl) rfl (nL (tN (sR (Qs ?_)))))))))))
  refine aw rfl (nL (tN (T.ret (Qr (Q6 (.cons _ _ _ _ (.tmp 4 _ rfl) .nil) (.cons 0 rfl (.cons 0 rfl (.cons 0 rfl (.cons 0 rfl (.nil _))))) (by cases h; exact ⟨gl [j, p, w0_2aa], rfl, rfl⟩))))))
  refine Qo rfl ad (T.skip (tN (T.seq (sR (Qs (mw rfl (oK rfl (oP Qa2 i28 rfl ?_))))))))
  refine oP Wn i26 rfl (oL 0 Jm rfl (sp rfl (Hn (i := 3) (xs := x0.a.States) (f := Qh) rfl (dk rfl) Jm rfl rfl (oI rfl (nL (tN ?_))))))
  rcases Qd h with ⟨af, h⟩ | ⟨af, h⟩
  refine Qp rfl af (sR (Qs (mw rfl (oK rfl (oP Qa2 i30 rfl (sp rfl (Jh (i := 0) (cells' := (([.d (.sl false 1 (mI x0.g.First)), .d (.sl false 9 (x0.g.P.map Qv)), .d (.ex j)]:List OC) ++ ((Zp.oc 256 .u8 x0.a.Split.Of) ++ (([.d (.int .i64 x0.a.Split.Many), .d (.ex p), .d (.ex w0_2aa), .d (.int .i64 (3:Int))]:List OC))))) rfl rfl i30 rfl rfl rfl (nb rfl) rfl (nL (tN (sR (Qs ?_)))))))))))
  refine aw rfl (nL (tN (T.ret (Qr (Q6 (.cons _ _ _ _ (.tmp 4 _ rfl) .nil) (.cons 0 rfl (.cons 0 rfl (.cons 0 rfl (.cons 0 rfl (.nil _))))) (by cases h; exact ⟨gl [j, p, w0_2aa], rfl, rfl⟩))))))
  refine Qo rfl af (T.skip (tN (sR (Qs (mw rfl (mw rfl (oK rfl (oP Qa2 i28 rfl ?_))))))))
  refine oP Wn i26 rfl (oL 0 Jm rfl (mw rfl (mw rfl (sp rfl (Zq (OpT.build (l := [.sl flx1 1 (mI x1), .ex s, .ex (.slice none 0 0), .ex (.slice none 0 0)]) rfl (dk rfl) (Zr (pl := [(0, 1), (1, 1), (2, 1), (3, 1)]) Hx i51 rfl) (H4 rfl) rfl rfl rfl) (Ya 109 (l := [.sl flx1 1 (mI x1), .ex s, .ex (.slice none 0 0), .ex (.slice none 0 0)]) (l' := [.sl false 1 (mI x1), .sl false 1 (mI q), .sl false 1 (([] : List Int).map (cI .i64)), .sl false 1 (([] : List (List Qf)).map (cL 2 Qn))]) (.cons (.full _ _ _) (.cons (.view 4 rfl) (.cons (.nil _ _) (.cons (.nil _ _) (.refl _)))))) (sp rfl (OpT.buildSlice (elems := ([(Qa.mk x1 q [] [])] : List Qa).map Qh) rfl (dk rfl) Jm i51 (by decide) rfl (H4 rfl) rfl rfl rfl (X2 rfl) (by decide) ?_)))))))
  obtain ⟨am, h⟩ := Zb h
  refine sp rfl (F6 (i := 3) (xs := x0.a.States) (ys := [(Qa.mk x1 q [] [])]) (f := Qh) rfl (dk rfl) Jm i51 rfl rfl rfl rfl am (fun aj => (oK rfl (oP Qa2 i28 rfl (oP Wn i26 rfl (sp rfl (Jh (i := 0) (cells' := (([.d (.sl false 1 (mI x0.g.First)), .d (.sl false 9 (x0.g.P.map Qv)), .d (.ex j)]:List OC) ++ ((Zp.oc 256 .u8 x0.a.Split.Of) ++ (([.d (.int .i64 x0.a.Split.Many), .d (.ex p), .d (.ex aj), .d (.int .i64 x0.e)]:List OC))))) rfl rfl i26 rfl rfl rfl (nb rfl) rfl (nL (tN (sR (Qs (mw rfl ?_))))))))))))
  refine oK rfl (oP Qa2 i28 rfl (oP Wn i26 rfl (oL 0 Jm rfl (sp rfl (Hn (i := 3) (xs := (x0.a.States ++ [(Qa.mk x1 q [] [])])) (f := Qh) rfl (dk rfl) Jm rfl rfl (oI rfl (aw rfl ?_)))))))
  refine nL (tN (T.ret (Q6 (.cons _ _ _ _ (.tmp 4 _ rfl) .nil) (.cons 0 rfl (.cons 0 rfl (.cons 0 rfl (.cons 0 rfl (.nil _))))) (by cases h; exact ⟨gl [j, p, aj], rfl, rfl⟩))))
theorem Iq {r : Int × Qb} (K bx0 : Nat) : ∀ (k : Nat), L4 bx0 r (Zd K k) := by
 intro k
 induction k with
 | zero =>
  intro x1 j x0 flx1 b d w0_0aa h
  exact zn h
 | succ k ih =>
  intro x1 j x0 flx1 b d w0_0aa h
  rw [Zd] at h
  refine Q7 (T.seq (sR (Qs (mw rfl (mw rfl (oK rfl (oP Qa2 i28 rfl ?_)))))))
  refine oP Wn i26 rfl (oL 0 Jm rfl (sp rfl (Hn (i := 3) (xs := x0.a.States) (f := Qh) rfl (dk rfl) Jm rfl rfl (oI rfl (nL (tN ?_))))))
  rcases Qd h with ⟨l, h⟩ | ⟨l, h⟩
  refine Qp rfl l (T.skip (tN (T.seq (T.block (sR (Qs (mw rfl (oK rfl ?_))))))))
  refine oP Qa2 i28 rfl (oP Wn i26 rfl (oL 0 Jm rfl (mw rfl ?_)))
  obtain ⟨g, p, h⟩ := bind_some h
  refine sp rfl (Yj (n := 3) (xs := x0.a.States) (f := Qh) (old := g) rfl (dk rfl) Jm i51 rfl rfl rfl p (sp rfl (Cg rfl (dk rfl) Hx rfl i38 (by decide) rfl (sp rfl (Hd (i := 3) (xs := x0.a.States) (f := Qh) (old := g) rfl (dk rfl) Zs rfl rfl rfl (Z2 p).2 rfl (aw rfl (nL (tN (sR (Qs (mw rfl (oU g.L (cI .i64) Zs rfl ?_))))))))))))
  refine mw rfl (oU x1 (cI .i64) Zs rfl (oI rfl (nL (tN ?_))))
  rcases Qd h with ⟨m, h⟩ | ⟨m, h⟩
  refine Qp rfl m (sR (Qs (aw rfl (nL (tN (T.seq (sR (Qs (aw rfl ?_)))))))))
  refine nL (tN (T.block (T.loop ?_)))
  refine Qe ?_ (Ip K bx0 (Zd K k) ih K x1 j g.L true (0:Int) x0 flx1 b d w0_0aa h)
  exact tq rfl rfl
  refine Qo rfl m (T.skip (Qk (tN (Qs (mw rfl (oI rfl (aw rfl (nL (tN ?_)))))))))
  refine Qe ?_ (ih x1 (wI (j + (1:Int))) x0 flx1 b d w0_0aa h)
  exact tq rfl rfl
  refine Qo rfl l (T.exit (Ql (Ql (Qu (tN (sR (Qs (aw rfl (nL (tN (T.seq (sR (Qs ?_)))))))))))))
  refine aw rfl (nL (tN (T.block (T.loop (Qe (Y0 3 1) ?_)))))
  refine Qe ?_ (Io K bx0 K x1 (0:Int) x0 [] flx1 b d w0_0aa (Qc1 7) h)
  exact tr rfl (.c (.s .z) (.c (.s .z) (.c (.s .z) (.c (.s .z) (.c .z (.n _))))))
theorem P3 (K : Nat) {x0 : Qb} {x1 : List Int} {bx0 : Nat} {wx0c1 wx0c2c1 wx0c2c2 : Value} {flx1 : Bool} {r : Int × Qb} (h : Yr K x0 x1 = some r) : Jb tp 84 [.ptr bx0 0, .sl flx1 1 (mI x1)] [(Wm bx0 x0.g.First x0.g.P wx0c1 x0.a.Split.Of x0.a.Split.Many wx0c2c1 wx0c2c2 x0.e), .arrA wx0c1 3 1 (mI x0.number), .arrA wx0c2c1 59 2 (mA x0.a.Counts), .arrX wx0c2c2 51 4 0 (x0.a.States.map Qh)] (fun γ => (.int .i64 r.1)) (fun γ => [(Wm bx0 r.2.g.First r.2.g.P (γ 0) r.2.a.Split.Of r.2.a.Split.Many (γ 1) (γ 2) r.2.e), .arrA (γ 0) 3 1 (mI r.2.number), .arrA (γ 1) 59 2 (mA r.2.a.Counts), .arrX (γ 2) 51 4 0 (r.2.a.States.map Qh)]) := by
 refine CI 122 fu84 rfl ?_
 unfold Yr at h
 refine sR (Qs (aw rfl (nL (tN (T.seq (sR (Qs (aw rfl (nL (tN ?_))))))))))
 refine T.block (T.loop ?_)
 refine Qe ?_ (Iq K bx0 K x1 (1:Int) x0 flx1 wx0c1 wx0c2c1 wx0c2c2 h)
 exact tq rfl rfl
abbrev P1 (bx0 : Nat) (r : Qf × Qb) : ES := Jq tp ff48 (fun y t => ∃ γ : Nat → Value, y = (.agg [.int .i64 r.1.To, .sl false 1 (mU r.1.Ops)]) ∧ t = [(Wm bx0 r.2.g.First r.2.g.P (γ 0) r.2.a.Split.Of r.2.a.Split.Many (γ 1) (γ 2) r.2.e), .arrA (γ 0) 3 1 (mI r.2.number), .arrA (γ 1) 59 2 (mA r.2.a.Counts), .arrX (γ 2) 51 4 0 (r.2.a.States.map Qh)])
abbrev Dc (bx0 : Nat) (r : Qf × Qb) : ES := fT 109 [1,1,1,1,1,1] ff48 (P1 bx0 r)
abbrev Wq (bx0 : Nat) (r : Qf × Qb) : ES := Qz 0 ((Dc bx0 r))
abbrev B7 (bx0 : Nat) (r : Qf × Qb) : ES := fL 109 [1,1,1,1,1,0,1,0,0] ff48 (Wq bx0 r)
abbrev Mj (bx0 : Nat) (r : Qf × Qb) : ES := fT 109 [1,1,1,1,1,0,1,0,0,1,1] ff48 (B7 bx0 r)
abbrev Uy (bx0 : Nat) (r : Qf × Qb) : ES := Qz 1 ((Mj bx0 r))
abbrev G0 (bx0 : Nat) (r : Qf × Qb) : ES := Qz 2 ((Uy bx0 r))
abbrev La (bx0 : Nat) (r : Qf × Qb) : ES := fT 109 [1,1,1,1,1,0,1,0,0,1,0,0,1,1,1,1] ff48 (Uy bx0 r)
abbrev Jw (bx0 : Nat) (r : Qf × Qb) (go : Int → Int → Int → Int → Qb → (List Int) → (List Int) → (List Int) → (List (List Qf)) → (List Int) → (List Int) → Option (Qf × Qb)) : Prop := ∀ (x1 x2 : Int) (b f : Int) (x0 : Qb) (i j l : List Int) (m : List (List Qf)) (n p : List Int) (q s w0_0aa : Value) (u v : Nat) (w y : Value), go x1 x2 b f x0 i j l m n p = some r → TL tp 109 (ca [1,1,1,1,1,0,1,0,0] ff48) ⟨[(0, .ptr bx0 0), (1, .int .i64 x1), (2, .int .i64 x2), (8, .ptr u 0), (9, .ptr v 0), (10, .int .u8 b), (11, .c (.ex w)), (12, .c (.ex y)), (13, .int .i64 f)], [(Wm bx0 x0.g.First x0.g.P q x0.a.Split.Of x0.a.Split.Many s w0_0aa x0.e), .arrA q 3 1 (mI x0.number), .arrA s 59 2 (mA x0.a.Counts), .arrX w0_0aa 51 4 0 (x0.a.States.map Qh), (b54x11 u (0:Int) (.slice none 0 0)), (J5 v i j l m), .arrA w 3 1 (mI n), .arrA y 5 1 (mU p)]⟩ (Wq bx0 r)
theorem Ly {r : Qf × Qb} (K bx0 : Nat) (go0 : Int → Int → Int → Int → Qb → (List Int) → (List Int) → (List Int) → (List (List Qf)) → (List Int) → (List Int) → Option (Qf × Qb)) (hgo0 : Jw bx0 r go0) (x1 x2 : Int) (j l : Int) (ad : Bool) (x0 : Qb) (m p q : List Int) (s : List (List Qf)) (u b : List Int) (v w w0_2aa : Value) (y aa : Nat) (ab af : Value) (h : Y9 K go0 x1 x2 j l ad x0 m p q s u b = some r) : T tp 109 (ca [1,1,1,1,1,0,1,0,0,1,0,0,1,1,1,1,1,1,0,1,1] ff48) ⟨[(0, .ptr bx0 0), (1, .int .i64 x1), (2, .int .i64 x2), (8, .ptr y 0), (9, .ptr aa 0), (10, .int .u8 j), (11, .c (.ex ab)), (12, .c (.ex af)), (13, .int .i64 l), (15, .bool ad)], [(Wm bx0 x0.g.First x0.g.P v x0.a.Split.Of x0.a.Split.Many w w0_2aa x0.e), .arrA v 3 1 (mI x0.number), .arrA w 59 2 (mA x0.a.Counts), .arrX w0_2aa 51 4 0 (x0.a.States.map Qh), (b54x11 y (0:Int) (.slice none 0 0)), (J5 aa m p q s), .arrA ab 3 1 (mI u), .arrA af 5 1 (mU b)]⟩ (G0 bx0 r) := by
 unfold Y9 at h
 refine sR (Qs (mw rfl (aw rfl (nL (tN ?_)))))
 rcases Qd h with ⟨ac, h⟩ | ⟨ac, h⟩
 refine Qp rfl ac (Qs (mw rfl (sp rfl (OpT.buildSlice (elems := ([(1:Int)] : List Int).map (cI .u8)) rfl (dk rfl) B1 i5 (by decide) rfl (H4 rfl) rfl rfl rfl (X2 rfl) (by decide) ?_))))
 obtain ⟨ag, h⟩ := Zb h
 refine sp rfl (Zk (i := 7) (xs := b) (ys := [(1:Int)]) (f := (cI .u8)) rfl (dk rfl) B1 i5 rfl rfl rfl rfl ag (fun ai => (aw rfl (nL (Qk (Qk (tN (Qs (mw rfl (oI rfl (aw rfl ?_)))))))))))
 refine nL (tN ?_)
 refine Qe ?_ (hgo0 x1 x2 j (wI (l + (1:Int))) x0 m p q s u (b ++ [(1:Int)]) v w w0_2aa y aa ab ai h)
 exact tq rfl rfl
 refine Qo rfl ac (Qs (mw rfl (sp rfl (OpT.buildSlice (elems := ([(3:Int)] : List Int).map (cI .u8)) rfl (dk rfl) B1 i5 (by decide) rfl (H4 rfl) rfl rfl rfl (X2 rfl) (by decide) ?_))))
 obtain ⟨aj, h⟩ := Zb h
 refine sp rfl (Zk (i := 7) (xs := b) (ys := [(3:Int)]) (f := (cI .u8)) rfl (dk rfl) B1 i5 rfl rfl rfl rfl aj (fun al => (aw rfl (nL (Qk (Qk (tN (Qs (mw rfl (oI rfl (aw rfl ?_)))))))))))
 refine nL (tN ?_)
 refine Qe ?_ (hgo0 x1 x2 j (wI (l + (1:Int))) x0 m p q s u (b ++ [(3:Int)]) v w w0_2aa y aa ab al h)
 exact tq rfl rfl
theorem Lz {r : Qf × Qb} (K bx0 : Nat) (go0 : Int → Int → Int → Int → Qb → (List Int) → (List Int) → (List Int) → (List (List Qf)) → (List Int) → (List Int) → Option (Qf × Qb)) (hgo0 : Jw bx0 r go0) (x1 x2 : Int) (m b : Int) (al af : Bool) (x0 : Qb) (p q s : List Int) (u : List (List Qf)) (j l : List Int) (w y w0_1aa : Value) (aa ab : Nat) (am ac : Value) (h : Xa K go0 x1 x2 m b al af x0 p q s u j l = some r) : T tp 109 (ca [1,1,1,1,1,0,1,0,0,1,0,0,1,1,1,0,1,1] ff48) ⟨[(0, .ptr bx0 0), (1, .int .i64 x1), (2, .int .i64 x2), (8, .ptr aa 0), (9, .ptr ab 0), (10, .int .u8 m), (11, .c (.ex am)), (12, .c (.ex ac)), (13, .int .i64 b), (14, .bool al), (15, .bool af)], [(Wm bx0 x0.g.First x0.g.P w x0.a.Split.Of x0.a.Split.Many y w0_1aa x0.e), .arrA w 3 1 (mI x0.number), .arrA y 59 2 (mA x0.a.Counts), .arrX w0_1aa 51 4 0 (x0.a.States.map Qh), (b54x11 aa (0:Int) (.slice none 0 0)), (J5 ab p q s u), .arrA am 3 1 (mI j), .arrA ac 5 1 (mU l)]⟩ (La bx0 r) := by
 unfold Xa at h
 refine T.skip (tN (sR (Qs (mw rfl (mw rfl (sp rfl (OpT.buildSlice (elems := ([b] : List Int).map (cI .i64)) rfl (dk rfl) Zs i3 (by decide) rfl (H4 rfl) rfl rfl rfl (X2 rfl) (by decide) ?_)))))))
 obtain ⟨an, h⟩ := Zb h
 refine sp rfl (Zk (i := 6) (xs := j) (ys := [b]) (f := (cI .i64)) rfl (dk rfl) Zs i3 rfl rfl rfl rfl an (fun ag => (aw rfl (nL (tN (T.seq (sR (Qs (mw rfl (oK rfl ?_))))))))))
 refine oP Qa2 i38 rfl (sp rfl (Zq (Yb (i := 0) rfl (dk rfl) Zs rfl rfl rfl rfl rfl) (Hc 79 1 rfl) (mw rfl ?_)))
 obtain ⟨ap, aq, h⟩ := bind_some h
 refine oX x0.number (cI .i64) Zs i3 aq rfl (oR ul3 rfl (oI rfl (nL (tN ?_))))
 rcases Qd h with ⟨ai, h⟩ | ⟨ai, h⟩
 refine Qp rfl ai (T.exit (Ql (Qu (tN (Qs (mw rfl (oI rfl (aw rfl (nL (tN ?_))))))))))
 refine Qe ?_ (hgo0 x1 x2 m (wI (b + (1:Int))) x0 p q s u (j ++ [b]) l w y w0_1aa aa ab ag ac h)
 exact tq rfl rfl
 refine Qo rfl ai (T.skip (tN (T.block (sR (Qs (mw rfl (mw rfl ?_)))))))
 rcases Qd h with ⟨ad, h⟩ | ⟨ad, h⟩
 refine sn rfl ad (OpT.move rfl (dk rfl) rfl (oY ad rfl (aw rfl (nL (tN ?_)))))
 rcases Qd h with ⟨aj, h⟩ | ⟨aj, h⟩
 refine Qp rfl aj (Qs (mw rfl (sp rfl (OpT.buildSlice (elems := ([(2:Int)] : List Int).map (cI .u8)) rfl (dk rfl) B1 i5 (by decide) rfl (H4 rfl) rfl rfl rfl (X2 rfl) (by decide) ?_))))
 obtain ⟨au, h⟩ := Zb h
 refine sp rfl (Zk (i := 7) (xs := l) (ys := [(2:Int)]) (f := (cI .u8)) rfl (dk rfl) B1 i5 rfl rfl rfl rfl au (fun av => (aw rfl (nL (Qk (Qk (tN (Qs (mw rfl (oI rfl (aw rfl ?_)))))))))))
 refine nL (tN ?_)
 refine Qe ?_ (hgo0 x1 x2 m (wI (b + (1:Int))) x0 p q s u (j ++ [b]) (l ++ [(2:Int)]) w y w0_1aa aa ab ag av h)
 exact tq rfl rfl
 refine Qo rfl aj ?_
 refine Qg ?_ (Ly K bx0 go0 hgo0 x1 x2 m b af x0 p q s u (j ++ [b]) l w y w0_1aa aa ab ag ac h)
 exact tq rfl rfl
 refine pf rfl ad (oZ ad rfl (aw rfl (nL (tN (Qo rfl rfl ?_)))))
 refine Qg ?_ (Ly K bx0 go0 hgo0 x1 x2 m b af x0 p q s u (j ++ [b]) l w y w0_1aa aa ab ag ac h)
 exact tq rfl rfl
theorem Il {r : Qf × Qb} (K bx0 : Nat) : ∀ (k : Nat), Jw bx0 r (Zf K k) := by
 intro k
 induction k with
 | zero =>
  intro x1 x2 y aa x0 j m p q w b ab ac w0_0aa ad af ag s h
  exact zn h
 | succ k ih =>
  intro x1 x2 y aa x0 j m p q w b ab ac w0_0aa ad af ag s h
  rw [Zf] at h
  refine Q7 (T.seq (sR (Qs (mw rfl (mw rfl (oK rfl (oP Qa2 i43 rfl ?_)))))))
  refine oP F7 i41 rfl (oL 0 Ci rfl (oU x0.g.P Qv Ci rfl (oI rfl (nL (tN ?_)))))
  rcases Qd h with ⟨aj, h⟩ | ⟨aj, h⟩
  refine Qp rfl aj (T.skip (tN (T.seq (T.block (T.seq (sR (Qs (mw rfl ?_))))))))
  refine oK rfl (oP Qa2 i43 rfl (oP F7 i41 rfl (oL 0 Ci rfl (mw rfl ?_))))
  obtain ⟨ay, az, h⟩ := bind_some h
  refine oX x0.g.P Qv Ci i65 az rfl (sp rfl (Xy rfl (dk rfl) Qbf rfl i63 (by decide) rfl (oJ Qit i63 rfl (mw rfl ?_))))
  obtain ⟨a4, a0, h⟩ := bind_some h
  refine oH fu81 (Zm.nil (Wl K a0)) rfl (oT rfl (nL (tN ?_)))
  rcases Qd h with ⟨al, h⟩ | ⟨al, h⟩
  refine Qp rfl al (T.exit (Ql (Qu (tN (Qs (mw rfl (oI rfl (aw rfl (nL (tN ?_))))))))))
  refine Qe ?_ (ih x1 x2 y (wI (aa + (1:Int))) x0 j m p q w b ab ac w0_0aa ad af ag s h)
  exact tq rfl rfl
  refine Qo rfl al (T.skip (tN (sR (Qs (mw rfl (mw rfl (oA 5 [.sl false 1 (mI j), .sl false 1 (mI m), .sl false 1 (mI p), .sl false 1 (q.map (cL 2 Qn))] Hx i51 rfl (mw rfl ?_))))))))
  refine mw rfl ?_
  obtain ⟨au, a1, h⟩ := bind_some h
  refine sp rfl (Zc (is := [0, 1, 2, 3]) (ph := []) rfl (dk rfl) fu82 rfl rfl (Zw.cons rfl (Zw.cons rfl (Zw.cons rfl (Zw.cons rfl (Zw.cons rfl Zw.nil))))) (Ni K (bx0 := bx0) (wx0c1 := ab) (wx0c2c1 := ac) (wx0c2c2 := w0_0aa) a1) (.cons rfl rfl (.cons rfl rfl (.cons rfl rfl (.cons rfl rfl (.nil))))) (fun _ => rfl) (fun am => (nm (.c (.c (.c (.c (.c (.c (.c (.c (.n))))))))) (aw rfl (nL (tN (sR (Qs (mw rfl (oA 5 [.sl false 1 (mI j), .sl false 1 (mI m), .sl false 1 (mI p), .sl false 1 (q.map (cL 2 Qn))] Hx i51 rfl (mw rfl ?_)))))))))))
  refine mw rfl ?_
  obtain ⟨av, a2, h⟩ := bind_some h
  refine sp rfl (Zc (is := [0, 1, 2, 3]) (ph := []) rfl (dk rfl) fu83 rfl rfl (Zw.cons rfl (Zw.cons rfl (Zw.cons rfl (Zw.cons rfl Zw.nil)))) (Ov K (bx0 := bx0) (wx0c1 := (am 0)) (wx0c2c1 := (am 1)) (wx0c2c2 := (am 2)) a2) (.cons rfl rfl (.cons rfl rfl (.cons rfl rfl (.cons rfl rfl (.nil))))) (fun _ => rfl) (fun a => (nm (.c (.c (.c (.c (.c (.c (.c (.c (.n))))))))) (aw rfl (nL (tN (T.seq (sR (Qs (mw rfl ?_))))))))))
  refine oT rfl (mw rfl ?_)
  rcases Qd h with ⟨u, h⟩ | ⟨u, h⟩
  refine sn rfl u (OpT.move rfl (dk rfl) rfl (sn rfl u (OpT.not rfl (dk rfl) rfl (oY u rfl (nL (tN ?_))))))
  rcases Qd h with ⟨an, h⟩ | ⟨an, h⟩
  refine Qp rfl an (T.exit (Ql (Qu (tN (Qs (mw rfl (oI rfl (aw rfl (nL (tN ?_))))))))))
  refine Qe ?_ (ih x1 x2 y (wI (aa + (1:Int))) x0 j m p q w b (a 0) (a 1) (a 2) ad af ag s h)
  exact tq rfl rfl
  refine Qo rfl an ?_
  refine Qg ?_ (Lz K bx0 (Zf K k) ih x1 x2 y aa au av x0 j m p q w b (a 0) (a 1) (a 2) ad af ag s h)
  exact tq rfl rfl
  refine pf rfl u (pf rfl u (oZ u rfl (nL (tN (Qo rfl rfl ?_)))))
  refine Qg ?_ (Lz K bx0 (Zf K k) ih x1 x2 y aa au av x0 j m p q w b (a 0) (a 1) (a 2) ad af ag s h)
  exact tq rfl rfl
  refine Qo rfl aj (T.exit (Ql (Ql (Qu (tN (T.seq (sR (Qs (mw rfl (sp rfl (Ho (i := 6) (xs := w) (f := (cI .i64)) rfl (dk rfl) Zs rfl rfl (oI rfl ?_))))))))))))
  refine nL (tN ?_)
  rcases Qd h with ⟨ap, h⟩ | ⟨ap, h⟩
  refine Qp rfl ap (sR (Qs (sp rfl (Zq (OpT.build (l := [.int .i64 (-1:Int), .ex (.slice none 0 0)]) rfl (dk rfl) (Zr (pl := [(0, 1), (1, 1)]) Dq i54 rfl) (H4 rfl) rfl rfl rfl) (Ya 103 (l := [.int .i64 (-1:Int), .ex (.slice none 0 0)]) (l' := [.int .i64 (-1:Int), .sl false 1 (([] : List Int).map (cI .u8))]) (.cons (.same _) (.cons (.nil _ _) (.refl _)))) (sp rfl (Qy (i := 4) (cells' := [.d (.int .i64 (-1:Int)), .d (.sl false 1 (([] : List Int).map (cI .u8)))]) rfl rfl i54 rfl rfl rfl rfl (nb rfl) rfl (nL (tN (T.ret (Qr (Q6 (.cons _ _ _ _ (.cellAgg 8 54 _ 0 4 54 _ [.int .i64 (-1:Int), .sl false 1 (([] : List Int).map (cI .u8))] _ _ 2 _ rfl rfl rfl rfl Dq rfl i54) .nil) (.cons 0 rfl (.cons 0 rfl (.cons 0 rfl (.cons 0 rfl (.nil _))))) (by cases h; exact ⟨gl [ab, ac, w0_0aa], rfl, rfl⟩))))))))))))
  refine Qo rfl ap (T.skip (tN (sR (Qs (mw rfl (mw rfl ?_))))))
  obtain ⟨ai, a3, h⟩ := bind_some h
  refine sp rfl (Zc (is := [0, 1, 2, 3]) (ph := []) rfl (dk rfl) fu84 rfl rfl (Zw.cons rfl (Zw.view (i := 6) rfl rfl Zw.nil)) (P3 K (bx0 := bx0) (wx0c1 := ab) (wx0c2c1 := ac) (wx0c2c2 := w0_0aa) (flx1 := false) a3) (.cons rfl rfl (.cons rfl rfl (.cons rfl rfl (.cons rfl rfl (.nil))))) (fun _ => rfl) (fun aq => (nm (.c (.c (.c (.c (.c (.c (.c (.c (.n))))))))) (mw rfl (sp rfl (Zq (OpT.build (l := [.int .i64 ai.1, .ex s]) rfl (dk rfl) (Zr (pl := [(0, 1), (1, 1)]) Dq i54 rfl) (H4 rfl) rfl rfl rfl) (Ya 108 (l := [.int .i64 ai.1, .ex s]) (l' := [.int .i64 ai.1, .sl false 1 (mU b)]) (.cons (.same _) (.cons (.view 7 rfl) (.refl _)))) (sp rfl (Qy (i := 4) (cells' := [.d (.int .i64 ai.1), .d (.sl false 1 (mU b))]) rfl rfl i54 rfl rfl rfl rfl (nb rfl) rfl (nL (tN (T.ret ?_)))))))))))
  exact Q6 (.cons _ _ _ _ (.cellAgg 8 54 _ 0 4 54 _ [.int .i64 ai.1, .sl false 1 (mU b)] _ _ 2 _ rfl rfl rfl rfl Dq rfl i54) .nil) (.cons 0 rfl (.cons 0 rfl (.cons 0 rfl (.cons 0 rfl (.nil _))))) (by cases h; exact ⟨gl [aq 0, aq 1, aq 2], rfl, rfl⟩)
theorem P2 (K : Nat) {x0 : Qb} {x1 x2 x3 : Int} {bx0 : Nat} {wx0c1 wx0c2c1 wx0c2c2 : Value} {r : Qf × Qb} (h : X5 K x0 x1 x2 x3 = some r) : Jb tp 48 [.ptr bx0 0, .int .i64 x1, .int .i64 x2, .int .i64 x3] [(Wm bx0 x0.g.First x0.g.P wx0c1 x0.a.Split.Of x0.a.Split.Many wx0c2c1 wx0c2c2 x0.e), .arrA wx0c1 3 1 (mI x0.number), .arrA wx0c2c1 59 2 (mA x0.a.Counts), .arrX wx0c2c2 51 4 0 (x0.a.States.map Qh)] (fun γ => (.agg [.int .i64 r.1.To, .sl false 1 (mU r.1.Ops)])) (fun γ => [(Wm bx0 r.2.g.First r.2.g.P (γ 0) r.2.a.Split.Of r.2.a.Split.Many (γ 1) (γ 2) r.2.e), .arrA (γ 0) 3 1 (mI r.2.number), .arrA (γ 1) 59 2 (mA r.2.a.Counts), .arrX (γ 2) 51 4 0 (r.2.a.States.map Qh)]) := by
 refine CI 109 fu48 rfl ?_
 unfold X5 at h
 refine sR (Qs (sp rfl (Ze rfl (dk rfl) i54 rfl (fun p => (nL (tN (sR (Qs (mw rfl (oK rfl (oP Qa2 i28 rfl (oP Wn i26 rfl ?_))))))))))))
 refine oL 1 Jm rfl (mw rfl ?_)
 obtain ⟨b, j, h⟩ := bind_some h
 refine sp rfl (Yj (n := 4) (xs := x0.a.States) (f := Qh) (old := b) rfl (dk rfl) Jm i51 rfl rfl rfl j (sp rfl (Qh2 (i := 4) (xs := x0.a.States) (f := Qh) (old := b) (l := [.sl false 1 (mI b.L), .sl false 1 (mI b.R), .sl false 1 (mI b.Rule), .sl false 1 (b.Next.map (cL 2 Qn))]) rfl (dk rfl) Hx rfl i51 rfl rfl (Z2 j).2 rfl rfl (sp rfl (Ze rfl (dk rfl) i51 rfl (fun q => (sp rfl (Qy (i := 0) (cells' := [.d (.sl false 1 (mI b.L)), .d (.sl false 1 (mI b.R)), .d (.sl false 1 (mI b.Rule)), .d (.sl false 1 (b.Next.map (cL 2 Qn)))]) rfl rfl i51 rfl rfl rfl rfl (nb rfl) rfl (nL (tN (sR (Qs (mw rfl (oK rfl ?_))))))))))))))
 refine oP Qa2 i28 rfl (oP Wn i24 rfl (oA 2 ((Zp.dc 256 .u8 x0.a.Split.Of) ++ (([.int .i64 x0.a.Split.Many] : List DC))) ul24 i24 rfl ?_))
 obtain ⟨u, w, h⟩ := bind_some h
 refine oH fu80 (Zm.nil (Qgg K w)) rfl (mw rfl ?_)
 obtain ⟨m, y, h⟩ := bind_some h
 refine oX u (cI .u8) B1 i5 y rfl (oR ul5 rfl (aw rfl (nL (tN (sR (Qs (aw rfl (nL (tN (sR (Qs (aw rfl ?_))))))))))))
 refine nL (tN (T.seq (sR (Qs (aw rfl (nL (tN (T.block (T.loop ?_)))))))))
 refine Qe (Y0 3 1) (Qe (Y0 5 1) ?_)
 refine Qe ?_ (Il K bx0 K x1 x2 m (0:Int) x0 b.L b.R b.Rule b.Next [] [] wx0c1 wx0c2c1 wx0c2c2 p q (Qc1 3) (Qc1 4) h)
 exact tr rfl (.c (.s (.s (.s (.s .z)))) (.c (.s (.s (.s (.s .z)))) (.c (.s (.s (.s (.s .z)))) (.c (.s (.s (.s (.s .z)))) (.c (.s (.s (.s .z))) (.c (.s (.s .z)) (.c (.s .z) (.c .z (.n _)))))))))
end Go.Rv

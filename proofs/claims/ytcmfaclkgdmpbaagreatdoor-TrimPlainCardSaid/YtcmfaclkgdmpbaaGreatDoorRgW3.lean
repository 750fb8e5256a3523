/- Each function computes what its plain text says: printed by a program of ours. -/
import Derived.Test.YtcmfaclkgdmpbaaGreatDoorRgW2
namespace Go.Rv
open Go.Proofs
set_option maxRecDepth 100000
set_option maxHeartbeats 4000000
set_option linter.unusedVariables false
abbrev E9 (r : Int) : ES := Jz tp ff46 (fun y t => y = (.int .i64 r) ∧ t = [])
abbrev Rr (r : Int) : ES := fT 19 [1,1] ff46 (E9 r)
abbrev Ok (r : Int) : ES := fT 19 [1,1,1,1] ff46 (E9 r)
abbrev If (r : Int) : ES := Qz 0 ((Ok r))
theorem Bt {r : Int} (K : Nat) (h : U3 K = some r) : T tp 19 (ca [1,0,1,0] ff46) ⟨[], []⟩ (Rr r) := by
 unfold U3 at h
 refine sR (Qq (aw rfl (nL (tN (T.ret (Qy (fd rfl (by cases h; exact ⟨rfl, rfl⟩))))))))
theorem Rs {r : Int} (K : Nat) : ∀ (k : Nat), ∀ (x0 a b : Int), U2 K k x0 a b = some r → TL tp 19 (ca [1,1,1,0,1,0,0] ff46) ⟨[(0, .int .i64 x0), (3, .int .i64 a), (4, .int .i64 b)], []⟩ (If r) := by
 intro k
 induction k with
 | zero =>
  intro x0 a b h
  exact zn h
 | succ k ih =>
  intro x0 a b h
  rw [U2] at h
  refine Za (T.seq (sR (Qq (mw rfl (mw rfl (oI rfl (nL (tN ?_))))))))
  rcases Qh h with ⟨c, h⟩ | ⟨c, h⟩
  refine Qt rfl c (T.skip (tN (T.seq (T.block (Qq (mw rfl (oI rfl ?_)))))))
  refine aw rfl (nL (Qj (tN (Qq (mw rfl (oI rfl (aw rfl (nL (tN ?_)))))))))
  refine Qg ?_ (ih x0 (wI (a * (3:Int))) (wI (b + (1:Int))) h)
  exact tq rfl rfl
  refine Qo rfl c (T.exit (Qk (Qk (Qu (tN (sR (Qq (mw rfl (aw rfl (nL (tN (T.ret ?_))))))))))))
  exact fd rfl (by cases h; exact ⟨rfl, rfl⟩)
theorem Qa2 (K : Nat) {x0 r : Int} (h : Jc K x0 = some r) : Z1 tp 46 [.int .i64 x0] [] (.int .i64 r) := by
 refine CI 19 fu46 rfl ?_
 unfold Jc at h
 refine sR (Qq (aw rfl (nL (tN (T.seq (sR (Qq (mw rfl (oI rfl ?_)))))))))
 refine mw rfl ?_
 rcases Qh h with ⟨a, h⟩ | ⟨a, h⟩
 refine pf rfl a (pf rfl a (oY a rfl (nL (tN (Qt rfl rfl ?_)))))
 refine Qm ?_ (Bt K h)
 exact tq rfl rfl
 refine sn rfl a (OpT.move rfl (dk rfl) rfl (sn rfl a (Z9 rfl rfl (dk rfl) rfl rfl (oZ a rfl (nL (tN ?_))))))
 rcases Qh h with ⟨b, h⟩ | ⟨b, h⟩
 refine Qt rfl b ?_
 refine Qm ?_ (Bt K h)
 exact tq rfl rfl
 refine Qo rfl b (T.skip (tN (sR (Qq (aw rfl (nL (tN (T.seq (sR (Qq ?_))))))))))
 refine aw rfl (nL (tN (T.block (T.loop ?_))))
 refine Qg ?_ (Rs K K x0 (1:Int) (0:Int) h)
 exact tq rfl rfl
abbrev E5 (bx0 : Nat) (x0 : Qb) (r : Int) : ES := Jz tp ff113 (fun y t => ∃ γ : Nat → Value, y = (.int .i64 r) ∧ t = [(Jg bx0 x0.g.First x0.g.P (γ 0) x0.a.Split.Of x0.a.Split.Many (γ 1) (γ 2) x0.e), .arrA (γ 0) 3 1 (mI x0.number), .arrA (γ 1) 59 2 (mA x0.a.Counts), .arrX (γ 2) 51 4 0 (x0.a.States.map Qf)])
abbrev Cp (bx0 : Nat) (x0 : Qb) (r : Int) : ES := fT 34 [1,1] ff113 (E5 bx0 x0 r)
abbrev Be (bx0 : Nat) (x0 : Qb) (r : Int) : ES := Qz 0 ((Cp bx0 x0 r))
theorem Cq {r : Int} (K bx0 : Nat) (x0 : Qb) : ∀ (k : Nat), ∀ (s x3 m : Int) (x0 : Qb) (x1 : Qa) (b l w0_0aa : Value) (j : Nat), Ye K k s x3 m x0 x1 = some r → TL tp 34 (ca [1,0,1,0,0] ff113) ⟨[(0, .ptr bx0 0), (2, .int .i64 s), (3, .int .i64 x3), (5, .ptr j 0), (9, .int .i64 m)], [(Jg bx0 x0.g.First x0.g.P b x0.a.Split.Of x0.a.Split.Many l w0_0aa x0.e), .arrA b 3 1 (mI x0.number), .arrA l 59 2 (mA x0.a.Counts), .arrX w0_0aa 51 4 0 (x0.a.States.map Qf), (Mq j x1.L x1.R x1.Rule x1.Next)]⟩ (Be bx0 x0 r) := by
 intro k
 induction k with
 | zero =>
  intro s x3 m x0 x1 b l w0_0aa j h
  exact zn h
 | succ k ih =>
  intro s x3 m x0 x1 b l w0_0aa j h
  rw [Ye] at h
  refine Za (T.seq (sR (Qq (mw rfl (oP Ke i38 rfl (oL 4 Z5 rfl (oU x1.R (cI .i64) Z5 rfl ?_)))))))
  refine oI rfl (nL (tN ?_))
  rcases Qh h with ⟨w, h⟩ | ⟨w, h⟩
  refine Qt rfl w (T.skip (tN (T.seq (T.block (T.seq (T.seq (Xk ?_)))))))
  refine dP rfl (.f rfl) Ke i38 rfl (dL 4 rfl (.f rfl) Z5 rfl (dV rfl rfl ?_))
  obtain ⟨p, aa, h⟩ := bind_some h
  refine dX x1.R (cI .i64) rfl (.f rfl) Z5 i3 aa rfl (dR rfl (.f rfl) ul3 rfl (dV rfl rfl (dK rfl (.f rfl) rfl (dP rfl (.f rfl) P0 i38 rfl (dS (c := ⟨some 25, .sl false 1 (mI x0.number), [(24, .ptr bx0 (0 + 2))], [(0, (Jg bx0 x0.g.First x0.g.P b x0.a.Split.Of x0.a.Split.Many l w0_0aa x0.e)), (1, .arrA b 3 1 (mI x0.number))], []⟩) (fun t hm => oF rfl rfl (Zi (Yr (i := 0) rfl (dk rfl) Z5 rfl hm.s0 hm.o0 rfl rfl) (J0 25 1 hm.o1) rfl)) rfl rfl (dV rfl rfl ?_))))))
  obtain ⟨q, ab, h⟩ := bind_some h
  refine dX x0.number (cI .i64) rfl (.f rfl) Z5 i3 ab rfl (dR rfl (.f rfl) ul3 rfl (dI rfl (.f rfl) rfl (dF [0,1,0,7,15,0,32,96,224,0,992,2016,4095] Q3 rfl (by kernel_rfl) (fun u hu => (tN (Qm hu ?_))))))
  rcases Qh h with ⟨y, h⟩ | ⟨y, h⟩
  refine Qt rfl y (sR (Qq (mw rfl (sp rfl (OpT.rem rfl (dk rfl) rfl rfl (by decide) (aw rfl (nL (tN (T.ret (Qy (Q7 (Qy (Qy (Q7 (Qy ?_)))))))))))))))
  exact Q1 (.cons _ _ _ _ (.tmp 8 _ rfl) .nil) (.cons 0 rfl (.cons 0 rfl (.cons 0 rfl (.cons 0 rfl (.nil _))))) (by cases h; exact ⟨gl [b, l, w0_0aa], rfl, rfl⟩)
  refine Qo rfl y (T.skip (tN (Qq (mw rfl (sp rfl (OpT.quo rfl (dk rfl) rfl rfl (by decide) (aw rfl (nL (Qj (tN ?_))))))))))
  refine Qq (mw rfl (oI rfl (aw rfl (nL (tN ?_)))))
  refine Qg ?_ (ih (wI (Int.tdiv s (3:Int))) x3 (wI (m + (1:Int))) x0 x1 b l w0_0aa j h)
  exact tq rfl rfl
  refine Qo rfl w (T.exit (Qk (Qk (Qu (tN (sR (Qq (aw rfl (nL (tN (T.ret (Q1 (.cons _ _ _ _ (.tmp 8 _ rfl) .nil) (.cons 0 rfl (.cons 0 rfl (.cons 0 rfl (.cons 0 rfl (.nil _))))) (by cases h; exact ⟨gl [b, l, w0_0aa], rfl, rfl⟩)))))))))))))
theorem G9 (K : Nat) {x0 : Qb} {x1 : Qa} {x2 x3 : Int} {bx0 : Nat} {wx0c1 wx0c2c1 wx0c2c2 : Value} {r : Int} (h : Ve K x0 x1 x2 x3 = some r) : Ud tp 113 [.ptr bx0 0, .agg [.sl false 1 (mI x1.L), .sl false 1 (mI x1.R), .sl false 1 (mI x1.Rule), .sl false 1 (x1.Next.map (cL 2 Ql))], .int .i64 x2, .int .i64 x3] [(Jg bx0 x0.g.First x0.g.P wx0c1 x0.a.Split.Of x0.a.Split.Many wx0c2c1 wx0c2c2 x0.e), .arrA wx0c1 3 1 (mI x0.number), .arrA wx0c2c1 59 2 (mA x0.a.Counts), .arrX wx0c2c2 51 4 0 (x0.a.States.map Qf)] (fun γ => (.int .i64 r)) (fun γ => [(Jg bx0 x0.g.First x0.g.P (γ 0) x0.a.Split.Of x0.a.Split.Many (γ 1) (γ 2) x0.e), .arrA (γ 0) 3 1 (mI x0.number), .arrA (γ 1) 59 2 (mA x0.a.Counts), .arrX (γ 2) 51 4 0 (x0.a.States.map Qf)]) := by
 refine CI 34 fu113 rfl ?_
 unfold Ve at h
 refine sR (Qq (sp rfl (Zw rfl (dk rfl) rfl (fun b => (aw rfl (nL (tN (T.seq (sR (Qq (aw rfl ?_)))))))))))
 refine nL (tN (T.block (T.loop ?_)))
 refine Qg ?_ (Cq K bx0 x0 K x2 x3 (0:Int) x0 x1 wx0c1 wx0c2c1 wx0c2c2 b h)
 exact tr rfl (.c (.s .z) (.c (.s .z) (.c (.s .z) (.c (.s .z) (.c .z (.n _))))))
abbrev raddleref11_builder_ripe_q (bx0 : Nat) (x0 : Qb) (r : Bool) : ES := Jz tp ff79 (fun y t => ∃ γ : Nat → Value, y = (.bool r) ∧ t = [(Jg bx0 x0.g.First x0.g.P (γ 0) x0.a.Split.Of x0.a.Split.Many (γ 1) (γ 2) x0.e), .arrA (γ 0) 3 1 (mI x0.number), .arrA (γ 1) 59 2 (mA x0.a.Counts), .arrX (γ 2) 51 4 0 (x0.a.States.map Qf)])
theorem Lz (K : Nat) {x0 : Qb} {x1 : Qa} {x2 x3 : Int} {bx0 : Nat} {wx0c1 wx0c2c1 wx0c2c2 : Value} {r : Bool} (h : Xm K x0 x1 x2 x3 = some r) : Ud tp 79 [.ptr bx0 0, .agg [.sl false 1 (mI x1.L), .sl false 1 (mI x1.R), .sl false 1 (mI x1.Rule), .sl false 1 (x1.Next.map (cL 2 Ql))], .int .i64 x2, .int .i64 x3] [(Jg bx0 x0.g.First x0.g.P wx0c1 x0.a.Split.Of x0.a.Split.Many wx0c2c1 wx0c2c2 x0.e), .arrA wx0c1 3 1 (mI x0.number), .arrA wx0c2c1 59 2 (mA x0.a.Counts), .arrX wx0c2c2 51 4 0 (x0.a.States.map Qf)] (fun γ => (.bool r)) (fun γ => [(Jg bx0 x0.g.First x0.g.P (γ 0) x0.a.Split.Of x0.a.Split.Many (γ 1) (γ 2) x0.e), .arrA (γ 0) 3 1 (mI x0.number), .arrA (γ 1) 59 2 (mA x0.a.Counts), .arrX (γ 2) 51 4 0 (x0.a.States.map Qf)]) := by
 refine CI 15 fu79 rfl ?_
 unfold Xm at h
 refine sR (Qq (sp rfl (Zw rfl (dk rfl) rfl (fun j => (aw rfl (nL (tN (sR (Qq (mw rfl (oA 0 [.sl false 1 (mI x1.L), .sl false 1 (mI x1.R), .sl false 1 (mI x1.Rule), .sl false 1 (x1.Next.map (cL 2 Ql))] Ke i51 rfl (mw rfl ?_))))))))))))
 refine mw rfl ?_
 obtain ⟨m, f, h⟩ := bind_some h
 refine sp rfl (Q6 (is := [1, 2, 3, 4]) (ph := []) rfl (dk rfl) fu113 rfl rfl (Zs.cons rfl (Zs.cons rfl (Zs.cons rfl (Zs.cons rfl Zs.nil)))) (G9 K (bx0 := bx0) (wx0c1 := wx0c1) (wx0c2c1 := wx0c2c1) (wx0c2c2 := wx0c2c2) f) (.cons rfl rfl (.cons rfl rfl (.cons rfl rfl (.cons rfl rfl (.nil))))) (fun _ => rfl) (fun b => (nm (.c (.c (.c (.c (.c (.n)))))) (oI rfl (aw rfl (nL (tN (T.ret (Q1 (.cons _ _ _ _ (.tmp 8 _ rfl) .nil) (.cons 1 rfl (.cons 1 rfl (.cons 1 rfl (.cons 1 rfl (.nil _))))) (by cases h; exact ⟨gl [b 0, b 1, b 2], rfl, rfl⟩))))))))))
abbrev F9 (bx0 : Nat) (x0 : Qb) (r : Int) : ES := Jz tp ff47 (fun y t => ∃ γ : Nat → Value, y = (.int .i64 r) ∧ t = [(Jg bx0 x0.g.First x0.g.P (γ 0) x0.a.Split.Of x0.a.Split.Many (γ 1) (γ 2) x0.e), .arrA (γ 0) 3 1 (mI x0.number), .arrA (γ 1) 59 2 (mA x0.a.Counts), .arrX (γ 2) 51 4 0 (x0.a.States.map Qf)])
abbrev Co (bx0 : Nat) (x0 : Qb) (r : Int) : ES := fT 55 [1,1,1] ff47 (F9 bx0 x0 r)
abbrev Wg (bx0 : Nat) (x0 : Qb) (r : Int) : ES := Qz 0 ((Co bx0 x0 r))
abbrev Bb (bx0 : Nat) (x0 : Qb) (r : Int) : ES := fL 55 [1,1,0,1,0,0] ff47 (Wg bx0 x0 r)
abbrev Ky (bx0 : Nat) (x0 : Qb) (r : Int) : ES := fT 55 [1,1,0,1,0,0,1,1] ff47 (Bb bx0 x0 r)
abbrev G8 (bx0 : Nat) (x0 : Qb) (r : Int) : ES := Qz 1 ((Ky bx0 x0 r))
abbrev H9 (bx0 : Nat) (x0 : Qb) (r : Int) (go : Int → Int → Int → Qb → Qa → Option Int) : Prop := ∀ (x2 b c : Int) (x0 : Qb) (x1 : Qa) (f i w0_0aa : Value) (j : Nat), go x2 b c x0 x1 = some r → TL tp 55 (ca [1,1,0,1,0,0] ff47) ⟨[(0, .ptr bx0 0), (2, .int .i64 x2), (4, .ptr j 0), (7, .int .i64 b), (8, .int .i64 c)], [(Jg bx0 x0.g.First x0.g.P f x0.a.Split.Of x0.a.Split.Many i w0_0aa x0.e), .arrA f 3 1 (mI x0.number), .arrA i 59 2 (mA x0.a.Counts), .arrX w0_0aa 51 4 0 (x0.a.States.map Qf), (Mq j x1.L x1.R x1.Rule x1.Next)]⟩ (Wg bx0 x0 r)
theorem Ga {r : Int} (K bx0 : Nat) (x0 : Qb) (go0 : Int → Int → Int → Qb → Qa → Option Int) (hgo0 : H9 bx0 x0 r go0) (x2 j : Int) (x1 : Qa) (q s u : Int) (v : Bool) (w : Int) (y aa ab : Bool) (x0 : Qb) (b : Zh) (ac ad l : Int) (af : Bool) (ag : List Int) (m p w0_1aa : Value) (f ai : Nat) (h : Xr K go0 x2 j x1 q s u v w y aa ab x0 b ac ad l af ag = some r) : T tp 55 (ca [1,1,0,1,0,0,1,0,0,1,1,0] ff47) ⟨[(0, .ptr bx0 0), (2, .int .i64 x2), (4, .ptr f 0), (8, .int .i64 j), (9, .ptr ai 0), (32, .ptr bx0 0), (33, .agg [.sl false 1 (mI x1.L), .sl false 1 (mI x1.R), .sl false 1 (mI x1.Rule), .sl false 1 (x1.Next.map (cL 2 Ql))]), (34, .int .i64 x2), (35, .ptr f (0 + 0)), (36, .sl false 1 (mI x1.L)), (37, .int .i64 q), (38, .ref [.int .i64 s]), (39, .int .i64 u), (40, .bool v), (43, .int .i64 w), (44, .bool y), (45, .bool aa), (50, .bool ab)], [(Jg bx0 x0.g.First x0.g.P m x0.a.Split.Of x0.a.Split.Many p w0_1aa x0.e), .arrA m 3 1 (mI x0.number), .arrA p 59 2 (mA x0.a.Counts), .arrX w0_1aa 51 4 0 (x0.a.States.map Qf), (Mq f x1.L x1.R x1.Rule x1.Next), .box ai 65 [.d (.int .u64 b.a0), .d (.int .u64 b.a1), .d (.int .u64 b.a2), .d (.int .u64 b.a3), .d (.int .i64 ac), .d (.int .i64 ad), .d (.int .i64 l), .d (.bool af), .d (.sl false 1 (mI ag))]]⟩ (G8 bx0 x0 r) := by
 unfold Xr at h
 refine Qq (oP Qbv i3 rfl (oL 5 ul3 rfl (aw rfl (nL (Qj (tN (Qq (mw rfl ?_))))))))
 refine oI rfl (aw rfl (nL (tN ?_)))
 refine Qg ?_ (hgo0 x2 l (wI (j + (1:Int))) x0 x1 m p w0_1aa f h)
 exact tq rfl rfl
theorem Da {r : Int} (K bx0 : Nat) (x0 : Qb) : ∀ (k : Nat), H9 bx0 x0 r (Zf K k) := by
 intro k
 induction k with
 | zero =>
  intro x2 q y x0 x1 af ag w0_0aa w h
  exact zn h
 | succ k ih =>
  intro x2 q y x0 x1 af ag w0_0aa w h
  rw [Zf] at h
  refine Za (T.seq (sR (Qq (mw rfl (oP Ke i38 rfl (oL 4 Z5 rfl (oU x1.L (cI .i64) Z5 rfl ?_)))))))
  refine oI rfl (nL (tN ?_))
  rcases Qh h with ⟨aj, h⟩ | ⟨aj, h⟩
  refine Qt rfl aj (T.skip (tN (T.seq (T.block (T.seq (Qm Yk (Us ?_)))))))
  refine gM rfl (fun _ => .f rfl) (fun _ => rfl) (gK rfl (fun _ => .f rfl) (fun _ => rfl) (gP rfl (fun _ => .f rfl) P0 i43 (fun _ => rfl) (gP rfl (fun _ => .f rfl) Qbw i41 (fun _ => rfl) (gL 1 rfl (fun _ => .f rfl) F1 (fun _ => rfl) (gP rfl (fun _ => .f rfl) Ke i38 (fun _ => rfl) (gL 5 rfl (fun _ => .f rfl) Z5 (fun _ => rfl) ?_))))))
  refine gM rfl (fun _ => .f rfl) (fun _ => rfl) ?_
  obtain ⟨ab, am, h⟩ := bind_some h
  refine gX x1.L (cI .i64) rfl (fun _ => .f rfl) Z5 i3 am (fun _ => rfl) (gR rfl (fun _ => .f rfl) ul3 (fun _ => rfl) ?_)
  obtain ⟨j, an, h⟩ := bind_some h
  refine gX x0.g.P Qx rfl (fun _ => .f rfl) F1 i65 an (fun _ => rfl) (gJ rfl (fun _ => .f rfl) Qbv i65 (fun _ => rfl) (DGG.step (c := fun p => ⟨some 9, .ptr ((p 12).2) 0, [], [(0, .ro 0 [])], [(0, .box ((p 12).2) 65 [.d (.int .u64 (Zh.mk 0 0 0 0).a0), .d (.int .u64 (Zh.mk 0 0 0 0).a1), .d (.int .u64 (Zh.mk 0 0 0 0).a2), .d (.int .u64 (Zh.mk 0 0 0 0).a3), .d (.int .i64 (0:Int)), .d (.int .i64 (0:Int)), .d (.int .i64 (0:Int)), .d (.bool false), .d (.ex (.slice none 0 0))])]⟩) [12] (fun p γ' h => by simp only [h 12 (by decide)]) (fun p t hm => oF rfl rfl (Qfo 0 rfl (dk rfl) i65 rfl hm.o0 (fun b => ⟨(fun _ => undef, b), rfl⟩))) (fun p => Zr rfl rfl) (DGG.step (c := fun p => ⟨none, .any, [(9, .ptr ((p 12).2) 0), (28, .agg [.int .u64 j.S.a0, .int .u64 j.S.a1, .int .u64 j.S.a2, .int .u64 j.S.a3, .int .i64 j.Lo, .int .i64 j.Hi, .int .i64 j.Rule, .bool j.Last, .sl false 1 (mI j.Next)])], [(0, .box ((p 12).2) 65 [.d (.int .u64 (Zh.mk 0 0 0 0).a0), .d (.int .u64 (Zh.mk 0 0 0 0).a1), .d (.int .u64 (Zh.mk 0 0 0 0).a2), .d (.int .u64 (Zh.mk 0 0 0 0).a3), .d (.int .i64 (0:Int)), .d (.int .i64 (0:Int)), .d (.int .i64 (0:Int)), .d (.bool false), .d (.ex (.slice none 0 0))])], [(0, .box ((p 12).2) 65 [.d (.int .u64 j.S.a0), .d (.int .u64 j.S.a1), .d (.int .u64 j.S.a2), .d (.int .u64 j.S.a3), .d (.int .i64 j.Lo), .d (.int .i64 j.Hi), .d (.int .i64 j.Rule), .d (.bool j.Last), .d (.sl false 1 (mI j.Next))])]⟩) [12] (fun p γ' h => by simp only [h 12 (by decide)]) (fun p t hm => oF rfl rfl (Qv (i := 0) (cells' := [.d (.int .u64 j.S.a0), .d (.int .u64 j.S.a1), .d (.int .u64 j.S.a2), .d (.int .u64 j.S.a3), .d (.int .i64 j.Lo), .d (.int .i64 j.Hi), .d (.int .i64 j.Rule), .d (.bool j.Last), .d (.sl false 1 (mI j.Next))]) rfl rfl i65 hm.s0 hm.s1 rfl hm.o0 (nb rfl) rfl ⟨u0, rfl⟩)) (fun p => Zr rfl rfl) (gF [0,1,3,7,15,0,32,0,224,480,1023,2047,0,8191] Q3 rfl (by kernel_rfl) (fun _ => by kernel_rfl) (fun p u hu => (tN (Qm hu (T.seq (Us ?_)))))))))
  refine gP rfl (fun _ => .f rfl) Qbv i4 (fun _ => rfl) (gL 0 rfl (fun _ => .f rfl) ul4 (fun _ => rfl) (gM rfl (fun _ => .f rfl) (fun _ => rfl) ?_))
  rcases Qh h with ⟨aa, h⟩ | ⟨aa, h⟩
  refine gM rfl (fun _ => .n aa rfl) (fun _ => rfl) (gW 5 [.sl false 1 (mI x1.L), .sl false 1 (mI x1.R), .sl false 1 (mI x1.Rule), .sl false 1 (x1.Next.map (cL 2 Ql))] rfl (fun _ => .n aa rfl) Ke i51 (fun _ => rfl) (gM rfl (fun _ => .n aa rfl) (fun _ => rfl) (gP rfl (fun _ => .n aa rfl) Ke i38 (fun _ => rfl) (gL 5 rfl (fun _ => .n aa rfl) Z5 (fun _ => rfl) (gM rfl (fun _ => .n aa rfl) (fun _ => rfl) (gX x1.L (cI .i64) rfl (fun _ => .n aa rfl) Z5 i3 am (fun _ => rfl) ?_))))))
  refine gR rfl (fun _ => .n aa rfl) ul3 (fun _ => rfl) ?_
  obtain ⟨ac, ap, h⟩ := bind_some h
  refine DGG.step (c := fun m => ⟨some 40, .bool ac, [(32, .ptr bx0 0), (33, .agg [.sl false 1 (mI x1.L), .sl false 1 (mI x1.R), .sl false 1 (mI x1.Rule), .sl false 1 (x1.Next.map (cL 2 Ql))]), (34, .int .i64 x2), (39, .int .i64 ab), (31, .bool j.Last)], [(4, .arrX w0_0aa 51 4 0 (x0.a.States.map Qf)), (3, .arrA ag 59 2 (mA x0.a.Counts)), (2, .arrA af 3 1 (mI x0.number)), (1, (Jg bx0 x0.g.First x0.g.P af x0.a.Split.Of x0.a.Split.Many ag w0_0aa x0.e))], [(1, (Jg bx0 x0.g.First x0.g.P ((m 11).1 0) x0.a.Split.Of x0.a.Split.Many ((m 11).1 1) ((m 11).1 2) x0.e)), (2, .arrA ((m 11).1 0) 3 1 (mI x0.number)), (3, .arrA ((m 11).1 1) 59 2 (mA x0.a.Counts)), (4, .arrX ((m 11).1 2) 51 4 0 (x0.a.States.map Qf))]⟩) [11] (fun m γ' h => by simp only [h 11 (by decide)]) (fun m t hm => One.step rfl (.on rfl rfl (hm.slots (31, _) (.tail _ (.tail _ (.tail _ (.tail _ (.head _)))))) aa) (Q6 (is := [1, 2, 3, 4]) (ph := []) rfl (dk rfl) fu79 rfl rfl (Zs.cons hm.s0 (Zs.cons hm.s1 (Zs.cons hm.s2 (Zs.cons hm.s3 Zs.nil)))) (Lz K (bx0 := bx0) (wx0c1 := af) (wx0c2c1 := ag) (wx0c2c2 := w0_0aa) ap) (.cons (hm.objs (1, _) (.tail _ (.tail _ (.tail _ (.head _))))) rfl (.cons hm.o2 rfl (.cons hm.o1 rfl (.cons hm.o0 rfl (.nil))))) (fun _ => rfl) (fun g => ⟨(g, 0), rfl⟩))) (fun m => Zr rfl rfl) (gY rfl (fun _ => .f rfl) aa (fun _ => rfl) (gM rfl (fun _ => .f rfl) (fun _ => rfl) ?_))
  rcases Qh h with ⟨ad, h⟩ | ⟨ad, h⟩
  refine gM rfl (fun _ => .n ad rfl) (fun _ => rfl) (gI rfl (fun _ => .n ad rfl) (fun _ => rfl) (gM rfl (fun _ => .n ad rfl) (fun _ => rfl) ?_))
  rcases Qh h with ⟨ai, h⟩ | ⟨ai, h⟩
  refine DGG.off ai rfl rfl rfl rfl rfl (fun _ => rfl) (DGG.off ai rfl rfl rfl rfl rfl (fun _ => rfl) (DGG.off ai rfl rfl rfl rfl rfl (fun _ => rfl) (DGG.off ai rfl rfl rfl rfl rfl (fun _ => rfl) (gY rfl (fun _ => .n ad rfl) ai (fun _ => rfl) (gY rfl (fun _ => .f rfl) ad (fun _ => rfl) (gF [0,1,3,7,7,7,7,71,7,455,967,2047,4095,8191,16383,32767,65535,131071,262143,131071,1048575,2097151,4194303] Q3 rfl (by kernel_rfl) (fun _ => by kernel_rfl) (fun m u hu => (tN (Qm hu ?_)))))))))
  refine Qt rfl rfl ?_
  refine Qm ?_ (Ga K bx0 x0 (Zf K k) ih x2 y x1 y ab ab ac q (decide (q < (0:Int))) (decide (q < (0:Int))) true x0 j.S j.Lo j.Hi j.Rule j.Last j.Next ((m 11).1 0) ((m 11).1 1) ((m 11).1 2) w ((p 12).2) h)
  exact tr rfl (.c (.s .z) (.c (.s .z) (.c (.s .z) (.c (.s .z) (.c (.s .z) (.c .z (.n _)))))))
  refine gP rfl (fun _ => .n ai rfl) Qbv i3 (fun _ => rfl) (gL 0 rfl (fun _ => .n ai rfl) ul3 (fun _ => rfl) (gM rfl (fun _ => .n ai rfl) (fun _ => rfl) (gI rfl (fun _ => .n ai rfl) (fun _ => rfl) (gZ rfl (fun _ => .n ad rfl) ai (fun _ => rfl) (gY rfl (fun _ => .f rfl) ad (fun _ => rfl) (gF [0,1,3,7,7,7,7,71,7,455,967,2047,4095,8191,16383,32767,65535,131071,262143,131071,1048575,2097151,4194303] Q3 rfl (by kernel_rfl) (fun _ => by kernel_rfl) (fun m u hu => (tN (Qm hu ?_)))))))))
  rcases Qh h with ⟨al, h⟩ | ⟨al, h⟩
  refine Qt rfl al ?_
  refine Qm ?_ (Ga K bx0 x0 (Zf K k) ih x2 y x1 y ab ab ac q (decide (q < (0:Int))) (decide (q < (0:Int))) (decide (j.Rule < q)) x0 j.S j.Lo j.Hi j.Rule j.Last j.Next ((m 11).1 0) ((m 11).1 1) ((m 11).1 2) w ((p 12).2) h)
  exact tr rfl (.c (.s .z) (.c (.s .z) (.c (.s .z) (.c (.s .z) (.c (.s .z) (.c .z (.n _)))))))
  refine Qo rfl al (T.skip (Qj (tN (Qq (mw rfl (oI rfl (aw rfl (nL (tN ?_)))))))))
  refine Qg ?_ (ih x2 q (wI (y + (1:Int))) x0 x1 ((m 11).1 0) ((m 11).1 1) ((m 11).1 2) w h)
  exact tr rfl (.c (.s .z) (.c (.s .z) (.c (.s .z) (.c (.s .z) (.c (.s .z) (.n _))))))
  refine DGG.off ad rfl rfl rfl rfl rfl (fun _ => rfl) (DGG.off ad rfl rfl rfl rfl rfl (fun _ => rfl) (DGG.off ad rfl rfl rfl rfl rfl (fun _ => rfl) (DGG.gone rfl rfl rfl rfl rfl (fun _ => rfl) (DGG.gone rfl rfl rfl rfl rfl (fun _ => rfl) (DGG.gone rfl rfl rfl rfl rfl (fun _ => rfl) (DGG.gone rfl rfl rfl rfl rfl (fun _ => rfl) ?_))))))
  refine DGG.off ad rfl rfl rfl rfl rfl (fun _ => rfl) (gZ rfl (fun _ => .f rfl) ad (fun _ => rfl) (gF [0,1,3,7,7,7,7,71,7,455,967,2047,4095,8191,16383,32767,65535,131071,262143,131071,1048575,2097151,4194303] Q3 rfl (by kernel_rfl) (fun _ => by kernel_rfl) (fun m u hu => (tN (Qm hu (Qo rfl rfl (T.skip (Qj (tN (Qq (mw rfl ?_)))))))))))
  refine oI rfl (aw rfl (nL (tN ?_)))
  refine Qg ?_ (ih x2 q (wI (y + (1:Int))) x0 x1 ((m 11).1 0) ((m 11).1 1) ((m 11).1 2) w h)
  exact tr rfl (.c (.s .z) (.c (.s .z) (.c (.s .z) (.c (.s .z) (.c (.s .z) (.n _))))))
  refine DGG.off aa rfl rfl rfl rfl rfl (fun _ => rfl) (DGG.off aa rfl rfl rfl rfl rfl (fun _ => rfl) (DGG.off aa rfl rfl rfl rfl rfl (fun _ => rfl) (DGG.off aa rfl rfl rfl rfl rfl (fun _ => rfl) (DGG.off aa rfl rfl rfl rfl rfl (fun _ => rfl) (DGG.off aa rfl rfl rfl rfl rfl (fun _ => rfl) (DGG.off aa rfl rfl rfl rfl rfl (fun _ => rfl) ?_))))))
  refine DGG.off aa rfl rfl rfl rfl rfl (fun _ => rfl) (DGG.off aa rfl rfl rfl rfl rfl (fun _ => rfl) (gZ rfl (fun _ => .f rfl) aa (fun _ => rfl) (gM rfl (fun _ => .f rfl) (fun _ => rfl) (DGG.off rfl rfl rfl rfl rfl rfl (fun _ => rfl) (DGG.off rfl rfl rfl rfl rfl rfl (fun _ => rfl) (DGG.off rfl rfl rfl rfl rfl rfl (fun _ => rfl) ?_))))))
  refine DGG.gone rfl rfl rfl rfl rfl (fun _ => rfl) (DGG.gone rfl rfl rfl rfl rfl (fun _ => rfl) (DGG.gone rfl rfl rfl rfl rfl (fun _ => rfl) (DGG.gone rfl rfl rfl rfl rfl (fun _ => rfl) (DGG.off rfl rfl rfl rfl rfl rfl (fun _ => rfl) (gZ rfl (fun _ => .f rfl) rfl (fun _ => rfl) (gF [0,1,3,7,7,7,7,71,7,455,967,2047,4095,8191,16383,32767,65535,131071,262143,131071,1048575,2097151,4194303] Q3 rfl (by kernel_rfl) (fun _ => by kernel_rfl) (fun m u hu => (tN (Qm hu ?_)))))))))
  refine Qo rfl rfl (T.skip (Qj (tN (Qq (mw rfl (oI rfl (aw rfl (nL (tN ?_)))))))))
  refine Qg ?_ (ih x2 q (wI (y + (1:Int))) x0 x1 af ag w0_0aa w h)
  exact tr rfl (.c (.s .z) (.c (.s .z) (.c (.s .z) (.c (.s .z) (.c (.s .z) (.n _))))))
  refine Qo rfl aj (T.exit (Qk (Qk (Qu (tN (sR (Qq (mw rfl (aw rfl (nL (tN (T.ret ?_))))))))))))
  exact Q1 (.cons _ _ _ _ (.tmp 6 _ rfl) .nil) (.cons 0 rfl (.cons 0 rfl (.cons 0 rfl (.cons 0 rfl (.nil _))))) (by cases h; exact ⟨gl [af, ag, w0_0aa], rfl, rfl⟩)
theorem Ia (K : Nat) {x0 : Qb} {x1 : Qa} {x2 : Int} {bx0 : Nat} {wx0c1 wx0c2c1 wx0c2c2 : Value} {r : Int} (h : Ux K x0 x1 x2 = some r) : Ud tp 47 [.ptr bx0 0, .agg [.sl false 1 (mI x1.L), .sl false 1 (mI x1.R), .sl false 1 (mI x1.Rule), .sl false 1 (x1.Next.map (cL 2 Ql))], .int .i64 x2] [(Jg bx0 x0.g.First x0.g.P wx0c1 x0.a.Split.Of x0.a.Split.Many wx0c2c1 wx0c2c2 x0.e), .arrA wx0c1 3 1 (mI x0.number), .arrA wx0c2c1 59 2 (mA x0.a.Counts), .arrX wx0c2c2 51 4 0 (x0.a.States.map Qf)] (fun γ => (.int .i64 r)) (fun γ => [(Jg bx0 x0.g.First x0.g.P (γ 0) x0.a.Split.Of x0.a.Split.Many (γ 1) (γ 2) x0.e), .arrA (γ 0) 3 1 (mI x0.number), .arrA (γ 1) 59 2 (mA x0.a.Counts), .arrX (γ 2) 51 4 0 (x0.a.States.map Qf)]) := by
 refine CI 55 fu47 rfl ?_
 unfold Ux at h
 refine sR (Qq (sp rfl (Zw rfl (dk rfl) rfl (fun b => (aw rfl (nL (tN (sR (Qq (aw rfl (nL (tN (T.seq ?_)))))))))))))
 refine sR (Qq (aw rfl (nL (tN (T.block (T.loop ?_))))))
 refine Qg ?_ (Da K bx0 x0 K x2 (-1:Int) (0:Int) x0 x1 wx0c1 wx0c2c1 wx0c2c2 b h)
 exact tr rfl (.c (.s .z) (.c (.s .z) (.c (.s .z) (.c (.s .z) (.c .z (.n _))))))
abbrev Qc6 (r : Zh) : ES := Jz tp ff115 (fun y t => y = (.agg (Zh.dc .u64 r)) ∧ t = [])
abbrev S4 (r : Zh) : ES := fT 25 [1,1,1] ff115 (Qc6 r)
abbrev Pm (r : Zh) : ES := Qz 0 ((S4 r))
theorem T2 {r : Zh} (K : Nat) : ∀ (k : Nat), ∀ (x1 b : Int) (x0 : Q4) (j : Zh) (g : List Int) (l m : Nat) (p : Value), Va K k x1 b x0 j g = some r → TL tp 25 (ca [1,1,0,1,0,0] ff115) ⟨[(1, .int .i64 x1), (2, .ptr l 0), (4, .ptr m 0), (5, .c (.ex p)), (6, .int .i64 b)], [(b24x5 l x0.Of x0.Many), .box m 63 (Zh.oc .u64 j), .arrA p 5 1 (mU g)]⟩ (Pm r) := by
 intro k
 induction k with
 | zero =>
  intro x1 b x0 j g l m p h
  exact zn h
 | succ k ih =>
  intro x1 b x0 j g l m p h
  rw [Va] at h
  refine Za (T.seq (sR (Qq (mw rfl (oI rfl (nL (tN ?_)))))))
  rcases Qh h with ⟨s, h⟩ | ⟨s, h⟩
  refine Qt rfl s (T.skip (tN (T.seq (T.block (sR (Qq (mw rfl (oP ul24 i22 rfl ?_))))))))
  obtain ⟨q, h⟩ := Q9 h
  refine sp rfl (Uq rfl (dk rfl) ul22 i5 rfl rfl q.1 q.2 (sp rfl (Yr (i := 0) rfl (dk rfl) ul5 rfl rfl rfl (Zn.oc_get (n := 256) (k := .u8) (a := x0.Of) (pre := []) (post := [.d (.int .i64 x0.Many)]) q.1 q.2) (sp rfl (Uj rfl (dk rfl) ul5 ul3 rfl (mw rfl (oI rfl (nL (tN ?_)))))))))
  rcases Qh h with ⟨u, h⟩ | ⟨u, h⟩
  refine Qt rfl u (Qq (mw rfl (mw rfl (sp rfl (Uj rfl (dk rfl) ul3 ul5 rfl (sp rfl (OpT.buildSlice (elems := ([(IntKind.u8.wrap b)] : List Int).map (cI .u8)) rfl (dk rfl) Mt i5 (by decide) rfl (Hb rfl) rfl rfl rfl (Xh rfl) (by decide) ?_)))))))
  obtain ⟨w, h⟩ := Q9 h
  refine sp rfl (Zj (i := 2) (xs := g) (ys := [(IntKind.u8.wrap b)]) (f := (cI .u8)) rfl (dk rfl) Mt i5 rfl rfl rfl rfl w (fun y => (aw rfl (nL (Qj (tN (Qq (mw rfl (oI rfl (aw rfl ?_))))))))))
  refine nL (tN ?_)
  refine Qg ?_ (ih x1 (wI (b + (1:Int))) x0 j (g ++ [(IntKind.u8.wrap b)]) l m y h)
  exact tq rfl rfl
  refine Qo rfl u (T.skip (Qj (tN (Qq (mw rfl (oI rfl (aw rfl (nL (tN ?_)))))))))
  refine Qg ?_ (ih x1 (wI (b + (1:Int))) x0 j g l m p h)
  exact tq rfl rfl
  refine Qo rfl s (T.exit (Qk (Qk (Qu (tN (sR (Qq (mw rfl ?_))))))))
  obtain ⟨v, aa, h⟩ := bind_some h
  refine sp rfl (Jh rfl (dk rfl) fu131 rfl rfl (Zs.view (i := 2) rfl rfl Zs.nil) (Z1.nil (Rb K (flx0 := false) aa)) (sp rfl (Qv (i := 1) (cells' := (Zh.oc .u64 v)) rfl rfl i63 rfl rfl rfl rfl (nb rfl) rfl (nL (tN (T.ret (Fin.done (.cons _ _ _ _ (.cellAgg 4 63 _ 0 1 63 _ (Zh.dc .u64 v) _ _ 4 _ rfl rfl rfl rfl Qdo rfl i63) .nil) (by cases h; exact ⟨rfl, rfl⟩))))))))
theorem Qc7 (K : Nat) {x0 : Q4} {x1 : Int} {r : Zh} (h : Ld K x0 x1 = some r) : Z1 tp 115 [.agg ((Zn.dc 256 .u8 x0.Of) ++ (([.int .i64 x0.Many] : List DC))), .int .i64 x1] [] (.agg (Zh.dc .u64 r)) := by
 refine CI 25 fu115 rfl ?_
 unfold Ld at h
 refine sR (Qq (sp rfl (Zw rfl (dk rfl) rfl (fun a => (sp rfl (Zg rfl (dk rfl) i63 rfl (fun b => (nL (tN (sR (Qq (aw rfl (nL (tN (T.seq ?_)))))))))))))))
 refine sR (Qq (aw rfl (nL (tN (T.block (T.loop (Qg (Y2 5 1) ?_)))))))
 refine Qg ?_ (T2 K K x1 (0:Int) x0 (Zh.mk 0 0 0 0) [] a b (Tp 2) h)
 exact tr rfl (.c (.s (.s .z)) (.c (.s .z) (.c .z (.n _))))
abbrev Qb9 (r : List Int) : ES := Jz tp ff114 (fun y t => y = (.sl false 1 (mU r)) ∧ t = [])
abbrev Sa (r : List Int) : ES := fT 19 [1,1,1] ff114 (Qb9 r)
abbrev Ow (r : List Int) : ES := Qz 0 ((Sa r))
theorem S6 {r : List Int} (K : Nat) : ∀ (k : Nat), ∀ (a : Int) (x0 : Zh) (b : List Int) (d : Nat) (g : Value), Xs K k a x0 b = some r → TL tp 19 (ca [1,1,0,1,0,0] ff114) ⟨[(1, .ptr d 0), (3, .c (.ex g)), (4, .int .i64 a)], [.box d 63 (Zh.oc .u64 x0), .arrA g 5 1 (mU b)]⟩ (Ow r) := by
 intro k
 induction k with
 | zero =>
  intro a x0 b d g h
  exact zn h
 | succ k ih =>
  intro a x0 b d g h
  rw [Xs] at h
  refine Za (T.seq (sR (Qq (mw rfl (oI rfl (nL (tN ?_)))))))
  rcases Qh h with ⟨j, h⟩ | ⟨j, h⟩
  refine Qt rfl j (T.skip (tN (T.seq (T.block (sR (Qq (oA 0 (Zh.dc .u64 x0) Qdo i63 rfl (mw rfl ?_))))))))
  refine sp rfl (Uj rfl (dk rfl) ul3 ul5 rfl ?_)
  obtain ⟨u, p, h⟩ := bind_some h
  refine oH fu81 (Z1.nil (W6 K p)) rfl (nL (tN ?_))
  rcases Qh h with ⟨m, h⟩ | ⟨m, h⟩
  refine Qt rfl m (Qq (mw rfl (mw rfl (sp rfl (Uj rfl (dk rfl) ul3 ul5 rfl (sp rfl (OpT.buildSlice (elems := ([(IntKind.u8.wrap a)] : List Int).map (cI .u8)) rfl (dk rfl) Mt i5 (by decide) rfl (Hb rfl) rfl rfl rfl (Xh rfl) (by decide) ?_)))))))
  obtain ⟨q, h⟩ := Q9 h
  refine sp rfl (Zj (i := 1) (xs := b) (ys := [(IntKind.u8.wrap a)]) (f := (cI .u8)) rfl (dk rfl) Mt i5 rfl rfl rfl rfl q (fun s => (aw rfl (nL (Qj (tN (Qq (mw rfl (oI rfl (aw rfl ?_))))))))))
  refine nL (tN ?_)
  refine Qg ?_ (ih (wI (a + (1:Int))) x0 (b ++ [(IntKind.u8.wrap a)]) d s h)
  exact tq rfl rfl
  refine Qo rfl m (T.skip (Qj (tN (Qq (mw rfl (oI rfl (aw rfl (nL (tN ?_)))))))))
  refine Qg ?_ (ih (wI (a + (1:Int))) x0 b d g h)
  exact tq rfl rfl
  refine Qo rfl j (T.exit (Qk (Qk (Qu (tN (sR (Qq (mw rfl (aw rfl (nL (tN (T.ret ?_))))))))))))
  refine Xj (Zx.view 2 1 rfl rfl) (fd rfl (by cases h; exact ⟨rfl, rfl⟩))
theorem Qca (K : Nat) {x0 : Zh} {r : List Int} (h : Ku K x0 = some r) : Z1 tp 114 [.agg (Zh.dc .u64 x0)] [] (.sl false 1 (mU r)) := by
 refine CI 19 fu114 rfl ?_
 unfold Ku at h
 refine sR (Qq (sp rfl (Zw rfl (dk rfl) rfl (fun a => (aw rfl (nL (tN (sR (Qq (aw rfl (nL (tN (T.seq ?_)))))))))))))
 refine sR (Qq (aw rfl (nL (tN (T.block (T.loop (Qg (Y2 5 1) ?_)))))))
 refine Qg ?_ (S6 K K (0:Int) x0 [] a (Tp 2) h)
 exact tr rfl (.c (.s .z) (.c .z (.n _)))
abbrev Fl (r : List Int) : ES := Jz tp ff80 (fun y t => y = (.sl false 1 (mU r)) ∧ t = [])
abbrev R7 (r : List Int) : ES := fT 37 [1,1] ff80 (Fl r)
abbrev Ov (r : List Int) : ES := fT 37 [1,1,1,1] ff80 (Fl r)
abbrev Io (r : List Int) : ES := Qz 0 ((Ov r))
theorem Bw {r : List Int} (K : Nat) (h : Wt K = some r) : T tp 37 (ca [1,0,1,0] ff80) ⟨[], []⟩ (R7 r) := by
 unfold Wt at h
 refine sR (Qq (aw rfl (nL (tN (T.ret (Qy (Xj (Em 2 false 1 rfl) (fd rfl (by cases h; exact ⟨rfl, rfl⟩)))))))))
theorem R8 {r : List Int} (K : Nat) : ∀ (k : Nat), ∀ (b : Int) (x0 : Q4) (a : List Int) (g : Nat) (j : Value), Xa K k b x0 a = some r → TL tp 37 (ca [1,1,1,0,1,0,0] ff80) ⟨[(1, .ptr g 0), (3, .c (.ex j)), (4, .int .i64 b)], [(b24x5 g x0.Of x0.Many), .arrA j 5 1 (mU a)]⟩ (Io r) := by
 intro k
 induction k with
 | zero =>
  intro b x0 a g j h
  exact zn h
 | succ k ih =>
  intro b x0 a g j h
  rw [Xa] at h
  refine Za (T.seq (sR (Qq (mw rfl (oP ul24 i3 rfl (oL 0 ul3 rfl (oI rfl ?_)))))))
  refine nL (tN ?_)
  rcases Qh h with ⟨p, h⟩ | ⟨p, h⟩
  refine Qt rfl p (T.skip (tN (T.seq (T.block (sR (Qq (oA 0 ((Zn.dc 256 .u8 x0.Of) ++ (([.int .i64 x0.Many] : List DC))) ul24 i24 rfl (mw rfl ?_))))))))
  obtain ⟨af, u, h⟩ := bind_some h
  refine oH fu115 (Z1.nil (Qc7 K u)) rfl ?_
  obtain ⟨s, w, h⟩ := bind_some h
  refine oH fu114 (Z1.nil (Qca K w)) rfl (aw rfl (nL (tN (sR (Qq (mw rfl (oU s (cI .u8) Mt rfl (oI rfl (nL (tN ?_))))))))))
  rcases Qh h with ⟨q, h⟩ | ⟨q, h⟩
  refine Qt rfl q (Qq (mw rfl (sp rfl (OpT.buildSlice (elems := ([(0:Int)] : List Int).map (cI .u8)) rfl (dk rfl) Mt i5 (by decide) rfl (Hb rfl) rfl rfl rfl (Xh rfl) (by decide) ?_))))
  obtain ⟨y, h⟩ := Q9 h
  refine sp rfl (Zj (i := 1) (xs := a) (ys := [(0:Int)]) (f := (cI .u8)) rfl (dk rfl) Mt i5 rfl rfl rfl rfl y (fun aa => (aw rfl (nL (Qj (tN (Qq (mw rfl (oI rfl (aw rfl ?_))))))))))
  refine nL (tN ?_)
  refine Qg ?_ (ih (wI (b + (1:Int))) x0 (a ++ [(0:Int)]) g aa h)
  exact tq rfl rfl
  refine Qo rfl q (Qq (mw rfl (mw rfl ?_)))
  obtain ⟨m, ab, h⟩ := bind_some h
  refine oX s (cI .u8) Mt i5 ab rfl (oR ul5 rfl (sp rfl (OpT.buildSlice (elems := ([m] : List Int).map (cI .u8)) rfl (dk rfl) Mt i5 (by decide) rfl (Hb rfl) rfl rfl rfl (Xh rfl) (by decide) ?_)))
  obtain ⟨ac, h⟩ := Q9 h
  refine sp rfl (Zj (i := 1) (xs := a) (ys := [m]) (f := (cI .u8)) rfl (dk rfl) Mt i5 rfl rfl rfl rfl ac (fun ad => (aw rfl (nL (Qj (tN (Qq (mw rfl (oI rfl (aw rfl ?_))))))))))
  refine nL (tN ?_)
  refine Qg ?_ (ih (wI (b + (1:Int))) x0 (a ++ [m]) g ad h)
  exact tq rfl rfl
  refine Qo rfl p (T.exit (Qk (Qk (Qu (tN (sR (Qq (mw rfl (aw rfl (nL (tN (T.ret ?_))))))))))))
  refine Xj (Zx.view 2 1 rfl rfl) (fd rfl (by cases h; exact ⟨rfl, rfl⟩))
theorem Qbk (K : Nat) {x0 : Q4} {r : List Int} (h : Je K x0 = some r) : Z1 tp 80 [.agg ((Zn.dc 256 .u8 x0.Of) ++ (([.int .i64 x0.Many] : List DC)))] [] (.sl false 1 (mU r)) := by
 refine CI 37 fu80 rfl ?_
 unfold Je at h
 refine sR (Qq (sp rfl (Zw rfl (dk rfl) rfl (fun d => (aw rfl (nL (tN (T.seq (sR (Qq (oP ul24 i3 rfl ?_)))))))))))
 refine oL 0 ul3 rfl (oI rfl (mw rfl ?_))
 rcases Qh h with ⟨a, h⟩ | ⟨a, h⟩
 refine pf rfl a (pf rfl a (pf rfl a (oY a rfl (nL (tN (Qt rfl rfl ?_))))))
 refine Qm ?_ (Bw K h)
 exact tq rfl rfl
 refine sn rfl a (Ur rfl (dk rfl) ul24 rfl i3 (by decide) rfl (sn rfl a (Yr (i := 0) rfl (dk rfl) ul3 rfl rfl rfl rfl (sn rfl a (Z9 rfl rfl (dk rfl) rfl rfl (oZ a rfl (nL (tN ?_))))))))
 rcases Qh h with ⟨b, h⟩ | ⟨b, h⟩
 refine Qt rfl b ?_
 refine Qm ?_ (Bw K h)
 exact tq rfl rfl
 refine Qo rfl b (T.skip (tN (sR (Qq (aw rfl (nL (tN (T.seq (sR (Qq ?_))))))))))
 refine aw rfl (nL (tN (T.block (T.loop (Qg (Y2 5 1) ?_)))))
 refine Qg ?_ (R8 K K (0:Int) x0 [] d (Tp 2) h)
 exact tr rfl (.c (.s .z) (.c .z (.n _)))
abbrev Qd8 (r : Bool) : ES := Jz tp ff112 (fun y t => y = (.bool r) ∧ t = [])
abbrev Qaw (r : Bool) : ES := fT 18 [1,1] ff112 (Qd8 r)
abbrev Sy (r : Bool) : ES := Qz 0 ((Qaw r))
theorem Qax {r : Bool} (K : Nat) : ∀ (k : Nat), ∀ (x0 : List Int) (x1 a : Int) (flx0 : Bool), Ug K k x0 x1 a = some r → TL tp 18 (ca [1,0,1,0,0] ff112) ⟨[(0, .sl flx0 1 (mI x0)), (1, .int .i64 x1), (5, .int .i64 a)], []⟩ (Sy r) := by
 intro k
 induction k with
 | zero =>
  intro x0 x1 a flx0 h
  exact zn h
 | succ k ih =>
  intro x0 x1 a flx0 h
  rw [Ug] at h
  refine Za (T.seq (sR (Qq (mw rfl (mw rfl (oU x0 (cI .i64) Z5 rfl (oI rfl ?_)))))))
  refine nL (tN ?_)
  rcases Qh h with ⟨b, h⟩ | ⟨b, h⟩
  refine Qt rfl b (T.skip (tN (T.seq (T.block (sR (Qq (mw rfl (mw rfl ?_))))))))
  obtain ⟨d, g, h⟩ := bind_some h
  refine oX x0 (cI .i64) Z5 i3 g rfl (oR ul3 rfl (mw rfl (oI rfl (nL (tN ?_)))))
  rcases Qh h with ⟨c, h⟩ | ⟨c, h⟩
  refine Qt rfl c (sR (Qq (aw rfl (nL (tN (T.ret (Q7 (Qy (Qy (Q7 (Qy (fd rfl (by cases h; exact ⟨rfl, rfl⟩)))))))))))))
  refine Qo rfl c (T.skip (Qj (tN (Qq (mw rfl (oI rfl (aw rfl (nL (tN ?_)))))))))
  refine Qg ?_ (ih x0 x1 (wI (a + (1:Int))) flx0 h)
  exact tq rfl rfl
  refine Qo rfl b (T.exit (Qk (Qk (Qu (tN (sR (Qq (aw rfl (nL (tN (T.ret (fd rfl (by cases h; exact ⟨rfl, rfl⟩)))))))))))))
theorem C9 (K : Nat) {x0 : List Int} {x1 : Int} {flx0 r : Bool} (h : Wd K x0 x1 = some r) : Z1 tp 112 [.sl flx0 1 (mI x0), .int .i64 x1] [] (.bool r) := by
 refine CI 18 fu112 rfl ?_
 unfold Wd at h
 refine sR (Qq (aw rfl (nL (tN (T.seq (sR (Qq (aw rfl (nL (tN ?_))))))))))
 refine T.block (T.loop ?_)
 refine Qg ?_ (Qax K K x0 x1 (0:Int) flx0 h)
 exact tq rfl rfl
abbrev D3 (bx0 : Nat) (x0 : Qb) (r : Bool) : ES := Jz tp ff82 (fun y t => ∃ γ : Nat → Value, y = (.bool r) ∧ t = [(Jg bx0 x0.g.First x0.g.P (γ 0) x0.a.Split.Of x0.a.Split.Many (γ 1) (γ 2) x0.e), .arrA (γ 0) 3 1 (mI x0.number), .arrA (γ 1) 59 2 (mA x0.a.Counts), .arrX (γ 2) 51 4 0 (x0.a.States.map Qf)])
abbrev Bc (bx0 : Nat) (x0 : Qb) (r : Bool) : ES := fT 54 [1,1,1] ff82 (D3 bx0 x0 r)
abbrev Mm (bx0 : Nat) (x0 : Qb) (r : Bool) : ES := Qz 0 ((Bc bx0 x0 r))
theorem B3 {r : Bool} (K bx0 : Nat) (x0 : Qb) : ∀ (k : Nat), ∀ (x3 x4 s : Int) (x0 : Qb) (x2 : Qa) (y aa w0_0aa : Value) (p : Nat), Z2 K k x3 x4 s x0 x2 = some r → TL tp 54 (ca [1,1,0,1,0,0] ff82) ⟨[(0, .ptr bx0 0), (3, .int .i64 x3), (4, .int .i64 x4), (7, .ptr p 0), (11, .int .i64 s)], [(Jg bx0 x0.g.First x0.g.P y x0.a.Split.Of x0.a.Split.Many aa w0_0aa x0.e), .arrA y 3 1 (mI x0.number), .arrA aa 59 2 (mA x0.a.Counts), .arrX w0_0aa 51 4 0 (x0.a.States.map Qf), (Mq p x2.L x2.R x2.Rule x2.Next)]⟩ (Mm bx0 x0 r) := by
 intro k
 induction k with
 | zero =>
  intro x3 x4 s x0 x2 y aa w0_0aa p h
  exact zn h
 | succ k ih =>
  intro x3 x4 s x0 x2 y aa w0_0aa p h
  rw [Z2] at h
  refine Za (T.seq (sR (Qq (mw rfl (oP Ke i38 rfl (oL 4 Z5 rfl (oU x2.L (cI .i64) Z5 rfl ?_)))))))
  refine oI rfl (nL (tN ?_))
  rcases Qh h with ⟨ac, h⟩ | ⟨ac, h⟩
  refine Qt rfl ac (T.skip (tN (T.seq (T.block (T.seq (Us (gM rfl (fun _ => .f rfl) (fun _ => rfl) ?_)))))))
  refine gW 4 [.sl false 1 (mI x2.L), .sl false 1 (mI x2.R), .sl false 1 (mI x2.Rule), .sl false 1 (x2.Next.map (cL 2 Ql))] rfl (fun _ => .f rfl) Ke i51 (fun _ => rfl) (gM rfl (fun _ => .f rfl) (fun _ => rfl) (gP rfl (fun _ => .f rfl) Ke i38 (fun _ => rfl) (gL 4 rfl (fun _ => .f rfl) Z5 (fun _ => rfl) (gM rfl (fun _ => .f rfl) (fun _ => rfl) ?_))))
  obtain ⟨w, af, h⟩ := bind_some h
  refine gX x2.L (cI .i64) rfl (fun _ => .f rfl) Z5 i3 af (fun _ => rfl) (gR rfl (fun _ => .f rfl) ul3 (fun _ => rfl) ?_)
  obtain ⟨q, ag, h⟩ := bind_some h
  refine DGG.step (c := fun b => ⟨some 36, .bool q, [(28, .ptr bx0 0), (29, .agg [.sl false 1 (mI x2.L), .sl false 1 (mI x2.R), .sl false 1 (mI x2.Rule), .sl false 1 (x2.Next.map (cL 2 Ql))]), (30, .int .i64 x3), (35, .int .i64 w)], [(3, .arrX w0_0aa 51 4 0 (x0.a.States.map Qf)), (2, .arrA aa 59 2 (mA x0.a.Counts)), (1, .arrA y 3 1 (mI x0.number)), (0, (Jg bx0 x0.g.First x0.g.P y x0.a.Split.Of x0.a.Split.Many aa w0_0aa x0.e))], [(0, (Jg bx0 x0.g.First x0.g.P ((b 8).1 0) x0.a.Split.Of x0.a.Split.Many ((b 8).1 1) ((b 8).1 2) x0.e)), (1, .arrA ((b 8).1 0) 3 1 (mI x0.number)), (2, .arrA ((b 8).1 1) 59 2 (mA x0.a.Counts)), (3, .arrX ((b 8).1 2) 51 4 0 (x0.a.States.map Qf))]⟩) [8] (fun b γ' h => by simp only [h 8 (by decide)]) (fun b t hm => oF rfl rfl (Q6 (is := [0, 1, 2, 3]) (ph := []) rfl (dk rfl) fu79 rfl rfl (Zs.cons hm.s0 (Zs.cons hm.s1 (Zs.cons hm.s2 (Zs.cons hm.s3 Zs.nil)))) (Lz K (bx0 := bx0) (wx0c1 := y) (wx0c2c1 := aa) (wx0c2c2 := w0_0aa) ag) (.cons (hm.objs (0, _) (.tail _ (.tail _ (.tail _ (.head _))))) rfl (.cons hm.o2 rfl (.cons hm.o1 rfl (.cons hm.o0 rfl (.nil))))) (fun _ => rfl) (fun g => ⟨(g, 0), rfl⟩))) (fun b => Zr rfl rfl) (gM rfl (fun _ => .f rfl) (fun _ => rfl) ?_)
  rcases Qh h with ⟨m, h⟩ | ⟨m, h⟩
  refine gM rfl (fun _ => .n m rfl) (fun _ => rfl) (gK rfl (fun _ => .n m rfl) (fun _ => rfl) (gP rfl (fun _ => .n m rfl) P0 i43 (fun _ => rfl) (gP rfl (fun _ => .n m rfl) Qbw i41 (fun _ => rfl) (DGG.step (c := fun b => ⟨some 42, .sl false 9 (x0.g.P.map Qx), [(41, .ptr bx0 (0 + 0 + 1)), (37, .bool q)], [(0, (Jg bx0 x0.g.First x0.g.P ((b 8).1 0) x0.a.Split.Of x0.a.Split.Many ((b 8).1 1) ((b 8).1 2) x0.e))], []⟩) [8] (fun b γ' h => by simp only [h 8 (by decide)]) (fun b t hm => oN rfl rfl rfl hm.s1 m (Yr (i := 0) rfl (dk rfl) F1 rfl hm.s0 hm.o0 rfl ⟨u0, rfl⟩)) (fun b => Zr rfl rfl) (gP rfl (fun _ => .n m rfl) Ke i38 (fun _ => rfl) (gL 4 rfl (fun _ => .n m rfl) Z5 (fun _ => rfl) ?_))))))
  refine gM rfl (fun _ => .n m rfl) (fun _ => rfl) (gX x2.L (cI .i64) rfl (fun _ => .n m rfl) Z5 i3 af (fun _ => rfl) (gR rfl (fun _ => .n m rfl) ul3 (fun _ => rfl) ?_))
  obtain ⟨j, ai, h⟩ := bind_some h
  refine gX x0.g.P Qx rfl (fun _ => .n m rfl) F1 i65 ai (fun _ => rfl) (gQ rfl (fun _ => .n m rfl) Qbv i38 (fun _ => rfl) (gR rfl (fun _ => .n m rfl) Z5 (fun _ => rfl) (gM rfl (fun _ => .n m rfl) (fun _ => rfl) ?_)))
  obtain ⟨ab, aj, h⟩ := bind_some h
  refine dC (c := ⟨some 52, .bool ab, [(50, .sl false 1 (mI j.Next)), (51, .int .i64 x4), (37, .bool q)], [], []⟩) (fun t hm => oN rfl rfl rfl hm.s2 m (Jh rfl (dk rfl) fu112 rfl rfl (Zs.cons hm.s0 (Zs.cons hm.s1 Zs.nil)) (Z1.nil (C9 K (flx0 := false) aj)) ⟨u0, rfl⟩)) (fun _ => rfl) (fun _ => rfl) (gY rfl (fun _ => .f rfl) m (fun _ => rfl) (gF [0,0,0,0,8,0,56,120,255,511,1023,2047,4095,8191,16383,1023,33791,1023,230399,492543,1048575,2097151,4194303,1023,16777215,33554431] Q3 rfl (by kernel_rfl) (fun _ => by kernel_rfl) (fun b u hu => (tN (Qm hu ?_)))))
  rcases Qh h with ⟨ad, h⟩ | ⟨ad, h⟩
  refine Qt rfl ad (sR (Qq (aw rfl (nL (tN (T.ret (Q7 (Qy (Qy (Q7 (Qy (Q1 (.cons _ _ _ _ (.tmp 10 _ rfl) .nil) (.cons 0 rfl (.cons 0 rfl (.cons 0 rfl (.cons 0 rfl (.nil _))))) (by cases h; exact ⟨gl [(b 8).1 0, (b 8).1 1, (b 8).1 2], rfl, rfl⟩)))))))))))))
  refine Qo rfl ad (T.skip (Qj (tN (Qq (mw rfl (oI rfl (aw rfl (nL (tN ?_)))))))))
  refine Qg ?_ (ih x3 x4 (wI (s + (1:Int))) x0 x2 ((b 8).1 0) ((b 8).1 1) ((b 8).1 2) p h)
  exact tq rfl rfl
  refine DGG.off m rfl rfl rfl rfl rfl (fun _ => rfl) (DGG.off m rfl rfl rfl rfl rfl (fun _ => rfl) (DGG.off m rfl rfl rfl rfl rfl (fun _ => rfl) (DGG.off m rfl rfl rfl rfl rfl (fun _ => rfl) (DGG.off m rfl rfl rfl rfl rfl (fun _ => rfl) (DGG.off m rfl rfl rfl rfl rfl (fun _ => rfl) (DGG.off m rfl rfl rfl rfl rfl (fun _ => rfl) ?_))))))
  refine DGG.off m rfl rfl rfl rfl rfl (fun _ => rfl) (DGG.off m rfl rfl rfl rfl rfl (fun _ => rfl) (DGG.off m rfl rfl rfl rfl rfl (fun _ => rfl) (DGG.off m rfl rfl rfl rfl rfl (fun _ => rfl) (DGG.off m rfl rfl rfl rfl rfl (fun _ => rfl) (DGG.off m rfl rfl rfl rfl rfl (fun _ => rfl) (DGG.off m rfl rfl rfl rfl rfl (fun _ => rfl) ?_))))))
  refine DGG.off m rfl rfl rfl rfl rfl (fun _ => rfl) (gZ rfl (fun _ => .f rfl) m (fun _ => rfl) (gF [0,0,0,0,8,0,56,120,255,511,1023,2047,4095,8191,16383,1023,33791,1023,230399,492543,1048575,2097151,4194303,1023,16777215,33554431] Q3 rfl (by kernel_rfl) (fun _ => by kernel_rfl) (fun b u hu => (tN (Qm hu (Qo rfl rfl (T.skip (Qj (tN (Qq (mw rfl ?_)))))))))))
  refine oI rfl (aw rfl (nL (tN ?_)))
  refine Qg ?_ (ih x3 x4 (wI (s + (1:Int))) x0 x2 ((b 8).1 0) ((b 8).1 1) ((b 8).1 2) p h)
  exact tq rfl rfl
  refine Qo rfl ac (T.exit (Qk (Qk (Qu (tN (sR (Qq (aw rfl (nL (tN (T.ret (Q1 (.cons _ _ _ _ (.tmp 10 _ rfl) .nil) (.cons 0 rfl (.cons 0 rfl (.cons 0 rfl (.cons 0 rfl (.nil _))))) (by cases h; exact ⟨gl [y, aa, w0_0aa], rfl, rfl⟩)))))))))))))
theorem D4 (K : Nat) {x0 : Qb} {x1 : Int} {x2 : Qa} {x3 x4 : Int} {bx0 : Nat} {wx0c1 wx0c2c1 wx0c2c2 : Value} {r : Bool} (h : X0 K x0 x1 x2 x3 x4 = some r) : Ud tp 82 [.ptr bx0 0, .int .i64 x1, .agg [.sl false 1 (mI x2.L), .sl false 1 (mI x2.R), .sl false 1 (mI x2.Rule), .sl false 1 (x2.Next.map (cL 2 Ql))], .int .i64 x3, .int .i64 x4] [(Jg bx0 x0.g.First x0.g.P wx0c1 x0.a.Split.Of x0.a.Split.Many wx0c2c1 wx0c2c2 x0.e), .arrA wx0c1 3 1 (mI x0.number), .arrA wx0c2c1 59 2 (mA x0.a.Counts), .arrX wx0c2c2 51 4 0 (x0.a.States.map Qf)] (fun γ => (.bool r)) (fun γ => [(Jg bx0 x0.g.First x0.g.P (γ 0) x0.a.Split.Of x0.a.Split.Many (γ 1) (γ 2) x0.e), .arrA (γ 0) 3 1 (mI x0.number), .arrA (γ 1) 59 2 (mA x0.a.Counts), .arrX (γ 2) 51 4 0 (x0.a.States.map Qf)]) := by
 refine CI 54 fu82 rfl ?_
 unfold X0 at h
 refine sR (Qq (sp rfl (Zw rfl (dk rfl) rfl (fun f => (aw rfl (nL (tN (T.seq (sR (Qq (mw rfl ?_)))))))))))
 refine oI rfl (nL (tN ?_))
 rcases Qh h with ⟨b, h⟩ | ⟨b, h⟩
 refine Qt rfl b (sR (Qq (mw rfl (oK rfl (oP P0 i43 rfl (oP Qbw i38 rfl (oL 1 Z5 rfl ?_)))))))
 refine mw rfl ?_
 obtain ⟨l, j, h⟩ := bind_some h
 refine oH fu112 (Z1.nil (C9 K (flx0 := false) j)) rfl (aw rfl (nL (tN (T.ret (Qy (Q1 (.cons _ _ _ _ (.tmp 10 _ rfl) .nil) (.cons 1 rfl (.cons 1 rfl (.cons 1 rfl (.cons 1 rfl (.nil _))))) (by cases h; exact ⟨gl [wx0c1, wx0c2c1, wx0c2c2], rfl, rfl⟩)))))))
 refine Qo rfl b (T.skip (tN (T.seq (sR (Qq (aw rfl (nL (tN (T.block ?_)))))))))
 refine T.loop ?_
 refine Qg ?_ (B3 K bx0 x0 K x3 x4 (0:Int) x0 x2 wx0c1 wx0c2c1 wx0c2c2 f h)
 exact tr rfl (.c (.s .z) (.c (.s .z) (.c (.s .z) (.c (.s .z) (.c .z (.n _))))))
abbrev Qe4 (bx0 : Nat) (x0 : Qb) (r : Bool) : ES := Jz tp ff83 (fun y t => ∃ γ : Nat → Value, y = (.bool r) ∧ t = [(Jg bx0 x0.g.First x0.g.P (γ 0) x0.a.Split.Of x0.a.Split.Many (γ 1) (γ 2) x0.e), .arrA (γ 0) 3 1 (mI x0.number), .arrA (γ 1) 59 2 (mA x0.a.Counts), .arrX (γ 2) 51 4 0 (x0.a.States.map Qf)])
theorem E4 (K : Nat) {x0 : Qb} {x1 : Qa} {x2 x3 : Int} {bx0 : Nat} {wx0c1 wx0c2c1 wx0c2c2 : Value} {r : Bool} (h : Vd K x0 x1 x2 x3 = some r) : Ud tp 83 [.ptr bx0 0, .agg [.sl false 1 (mI x1.L), .sl false 1 (mI x1.R), .sl false 1 (mI x1.Rule), .sl false 1 (x1.Next.map (cL 2 Ql))], .int .i64 x2, .int .i64 x3] [(Jg bx0 x0.g.First x0.g.P wx0c1 x0.a.Split.Of x0.a.Split.Many wx0c2c1 wx0c2c2 x0.e), .arrA wx0c1 3 1 (mI x0.number), .arrA wx0c2c1 59 2 (mA x0.a.Counts), .arrX wx0c2c2 51 4 0 (x0.a.States.map Qf)] (fun γ => (.bool r)) (fun γ => [(Jg bx0 x0.g.First x0.g.P (γ 0) x0.a.Split.Of x0.a.Split.Many (γ 1) (γ 2) x0.e), .arrA (γ 0) 3 1 (mI x0.number), .arrA (γ 1) 59 2 (mA x0.a.Counts), .arrX (γ 2) 51 4 0 (x0.a.States.map Qf)]) := by
 refine CI 27 fu83 rfl ?_
 unfold Vd at h
 refine sR (Qq (sp rfl (Zw rfl (dk rfl) rfl (fun q => (aw rfl (nL (tN (sR (Qq (mw rfl (oA 0 [.sl false 1 (mI x1.L), .sl false 1 (mI x1.R), .sl false 1 (mI x1.Rule), .sl false 1 (x1.Next.map (cL 2 Ql))] Ke i51 rfl (mw rfl ?_))))))))))))
 refine mw rfl ?_
 obtain ⟨s, m, h⟩ := bind_some h
 refine sp rfl (Q6 (is := [1, 2, 3, 4]) (ph := []) rfl (dk rfl) fu113 rfl rfl (Zs.cons rfl (Zs.cons rfl (Zs.cons rfl (Zs.cons rfl Zs.nil)))) (G9 K (bx0 := bx0) (wx0c1 := wx0c1) (wx0c2c1 := wx0c2c1) (wx0c2c2 := wx0c2c2) m) (.cons rfl rfl (.cons rfl rfl (.cons rfl rfl (.cons rfl rfl (.nil))))) (fun _ => rfl) (fun f => (nm (.c (.c (.c (.c (.c (.n)))))) (aw rfl (nL (tN (sR (Qq (oP Ke i38 rfl (oL 0 Z5 rfl (mw rfl ?_)))))))))))
 obtain ⟨u, p, h⟩ := bind_some h
 refine oH fu112 (Z1.nil (C9 K (flx0 := false) p)) rfl (mw rfl ?_)
 rcases Qh h with ⟨b, h⟩ | ⟨b, h⟩
 refine sn rfl b (OpT.move rfl (dk rfl) rfl (sn rfl b (Z9 rfl rfl (dk rfl) rfl rfl (sn rfl b (OpT.move rfl (dk rfl) rfl ?_)))))
 rcases Qh h with ⟨j, h⟩ | ⟨j, h⟩
 refine pf rfl j (pf rfl j (sn rfl b (Qcv rfl (dk rfl) rfl j rfl (oY b rfl (aw rfl (nL (tN (T.ret ?_))))))))
 exact Q1 (.cons _ _ _ _ (.tmp 8 _ rfl) .nil) (.cons 1 rfl (.cons 1 rfl (.cons 1 rfl (.cons 1 rfl (.nil _))))) (by cases h; exact ⟨gl [f 0, f 1, f 2], rfl, rfl⟩)
 refine sn rfl j (OpT.move rfl (dk rfl) rfl (sn rfl j (Z9 rfl rfl (dk rfl) rfl rfl (sn rfl b (Qcw rfl (dk rfl) rfl j rfl (oY b rfl (aw rfl (nL (tN (T.ret ?_))))))))))
 exact Q1 (.cons _ _ _ _ (.tmp 8 _ rfl) .nil) (.cons 1 rfl (.cons 1 rfl (.cons 1 rfl (.cons 1 rfl (.nil _))))) (by cases h; exact ⟨gl [f 0, f 1, f 2], rfl, rfl⟩)
 refine pf rfl b (pf rfl b (pf rfl b (TL'.pU (.gone _ _ _ rfl rfl rfl) (dk rfl) (TL'.pU (.gone _ _ _ rfl rfl rfl) (dk rfl) (pf rfl b (oZ b rfl ?_))))))
 refine aw rfl (nL (tN (T.ret (Q1 (.cons _ _ _ _ (.tmp 8 _ rfl) .nil) (.cons 1 rfl (.cons 1 rfl (.cons 1 rfl (.cons 1 rfl (.nil _))))) (by cases h; exact ⟨gl [f 0, f 1, f 2], rfl, rfl⟩)))))
abbrev L4 (bx0 : Nat) (r : Int × Qb) : ES := Jz tp ff84 (fun y t => ∃ γ : Nat → Value, y = (.int .i64 r.1) ∧ t = [(Jg bx0 r.2.g.First r.2.g.P (γ 0) r.2.a.Split.Of r.2.a.Split.Many (γ 1) (γ 2) r.2.e), .arrA (γ 0) 3 1 (mI r.2.number), .arrA (γ 1) 59 2 (mA r.2.a.Counts), .arrX (γ 2) 51 4 0 (r.2.a.States.map Qf)])
abbrev Dc (bx0 : Nat) (r : Int × Qb) : ES := fT 122 [1,1] ff84 (L4 bx0 r)
abbrev W1 (bx0 : Nat) (r : Int × Qb) : ES := Qz 0 ((Dc bx0 r))
abbrev B2 (bx0 : Nat) (r : Int × Qb) : ES := fL 122 [1,0,1,0,0] ff84 (W1 bx0 r)
abbrev Ml (bx0 : Nat) (r : Int × Qb) : ES := fT 122 [1,0,1,0,0,1,1] ff84 (B2 bx0 r)
abbrev Ln (bx0 : Nat) (r : Int × Qb) : ES := Qz 1 ((Ml bx0 r))
abbrev G0 (bx0 : Nat) (r : Int × Qb) : ES := fT 122 [1,0,1,0,0,1,0,0,1,1,0,1,1] ff84 (Ln bx0 r)
abbrev Wk (bx0 : Nat) (r : Int × Qb) : ES := Qz 2 ((G0 bx0 r))
abbrev B1 (bx0 : Nat) (r : Int × Qb) : ES := fT 122 [1,1,1,1] ff84 (L4 bx0 r)
abbrev Mx (bx0 : Nat) (r : Int × Qb) : ES := Qz 4 ((B1 bx0 r))
abbrev Ge (bx0 : Nat) (r : Int × Qb) (go : (List Int) → Int → Qb → Option (Int × Qb)) : Prop := ∀ (x1 : List Int) (b : Int) (x0 : Qb) (flx1 : Bool) (c f w0_0aa : Value), go x1 b x0 = some r → TL tp 122 (ca [1,0,1,0,0] ff84) ⟨[(0, .ptr bx0 0), (1, .sl flx1 1 (mI x1)), (5, .int .i64 b)], [(Jg bx0 x0.g.First x0.g.P c x0.a.Split.Of x0.a.Split.Many f w0_0aa x0.e), .arrA c 3 1 (mI x0.number), .arrA f 59 2 (mA x0.a.Counts), .arrX w0_0aa 51 4 0 (x0.a.States.map Qf)]⟩ (W1 bx0 r)
theorem De {r : Int × Qb} (K bx0 : Nat) (go0 : (List Int) → Int → Qb → Option (Int × Qb)) (hgo0 : Ge bx0 r go0) : ∀ (k : Nat), ∀ (x1 : List Int) (w : Int) (p : List Int) (j : Bool) (i : Int) (x0 : Qb) (flx1 : Bool) (q s w0_1aa : Value), Z7 K go0 k x1 w p j i x0 = some r → TL tp 122 (ca [1,0,1,0,0,1,0,0,1,1,0,1,0,1,0,0] ff84) ⟨[(0, .ptr bx0 0), (1, .sl flx1 1 (mI x1)), (5, .int .i64 w), (6, .sl false 1 (mI p)), (7, .bool j), (8, .int .i64 i)], [(Jg bx0 x0.g.First x0.g.P q x0.a.Split.Of x0.a.Split.Many s w0_1aa x0.e), .arrA q 3 1 (mI x0.number), .arrA s 59 2 (mA x0.a.Counts), .arrX w0_1aa 51 4 0 (x0.a.States.map Qf)]⟩ (Wk bx0 r) := by
 intro k
 induction k with
 | zero =>
  intro x1 w p j i x0 flx1 q s w0_1aa h
  exact zn h
 | succ k ih =>
  intro x1 w p j i x0 flx1 q s w0_1aa h
  rw [Z7] at h
  refine Za (T.seq (sR (Qq (mw rfl (mw rfl (oU x1 (cI .i64) Z5 rfl (oI rfl ?_)))))))
  refine nL (tN ?_)
  rcases Qh h with ⟨y, h⟩ | ⟨y, h⟩
  refine Qt rfl y (T.skip (tN (T.seq (T.block (Xk (dV rfl rfl (dV rfl rfl ?_)))))))
  rcases Qh h with ⟨b, h⟩ | ⟨b, h⟩
  refine dM rfl (.n b rfl) rfl (dM rfl (.n b rfl) rfl ?_)
  obtain ⟨l, ab, h⟩ := bind_some h
  refine dX p (cI .i64) rfl (.n b rfl) Z5 i3 ab rfl (dR rfl (.n b rfl) ul3 rfl (dM rfl (.n b rfl) rfl (dM rfl (.n b rfl) rfl ?_)))
  obtain ⟨m, ac, h⟩ := bind_some h
  refine dX x1 (cI .i64) rfl (.n b rfl) Z5 i3 ac rfl (dR rfl (.n b rfl) ul3 rfl (dI rfl (.n b rfl) rfl (dY rfl (.f rfl) b rfl (dA rfl (.f rfl) rfl (dF [0,1,3,3,15,31,3,3,195,451,1023,2047,4095] Q3 rfl (by kernel_rfl) (fun u hu => (Qj (tN (Qm hu (Qq ?_))))))))))
  refine mw rfl (oI rfl (aw rfl (nL (tN ?_))))
  refine Qg ?_ (ih x1 w p (l == m) (wI (i + (1:Int))) x0 flx1 q s w0_1aa h)
  exact tq rfl rfl
  refine dO b rfl rfl (dO b rfl rfl (dO b rfl rfl (dO b rfl rfl (dO b rfl rfl (dO b rfl rfl (dO b rfl rfl ?_))))))
  refine dO b rfl rfl (dO b rfl rfl (dZ rfl (.f rfl) b rfl (dA rfl (.f rfl) rfl (dF [0,1,3,3,15,31,3,3,195,451,1023,2047,4095] Q3 rfl (by kernel_rfl) (fun u hu => (Qj (tN (Qm hu (Qq (mw rfl ?_))))))))))
  refine oI rfl (aw rfl (nL (tN ?_)))
  refine Qg ?_ (ih x1 w p false (wI (i + (1:Int))) x0 flx1 q s w0_1aa h)
  exact tq rfl rfl
  refine Qo rfl y (T.exit (Qk (Qk (Qu (tN (sR (Qq (mw rfl (nL (tN ?_))))))))))
  rcases Qh h with ⟨aa, h⟩ | ⟨aa, h⟩
  refine Qt rfl aa (sR (Qq (mw rfl (aw rfl (nL (tN (T.ret (Q7 (Qy (Qy (Q7 (Qy (Q1 (.cons _ _ _ _ (.tmp 4 _ rfl) .nil) (.cons 0 rfl (.cons 0 rfl (.cons 0 rfl (.cons 0 rfl (.nil _))))) (by cases h; exact ⟨gl [q, s, w0_1aa], rfl, rfl⟩))))))))))))))
  refine Qo rfl aa (T.skip (Qj (tN (Qq (mw rfl (oI rfl (aw rfl (nL (tN ?_)))))))))
  refine Qg ?_ (hgo0 x1 (wI (w + (1:Int))) x0 flx1 q s w0_1aa h)
  exact tq rfl rfl
theorem Dd {r : Int × Qb} (K bx0 : Nat) : ∀ (k : Nat), ∀ (x1 : List Int) (y : Int) (x0 : Qb) (q : List Int) (flx1 : Bool) (j p : Value) (w0_2aa s : Value), Zz K k x1 y x0 q = some r → TL tp 122 (ca [1,1,1,0,1,0,0] ff84) ⟨[(0, .ptr bx0 0), (1, .sl flx1 1 (mI x1)), (9, .c (.ex s)), (10, .int .i64 y)], [(Jg bx0 x0.g.First x0.g.P j x0.a.Split.Of x0.a.Split.Many p w0_2aa x0.e), .arrA j 3 1 (mI x0.number), .arrA p 59 2 (mA x0.a.Counts), .arrX w0_2aa 51 4 0 (x0.a.States.map Qf), .arrA s 3 1 (mI q)]⟩ (Mx bx0 r) := by
 intro k
 induction k with
 | zero =>
  intro x1 y x0 q flx1 j p w0_2aa s h
  exact zn h
 | succ k ih =>
  intro x1 y x0 q flx1 j p w0_2aa s h
  rw [Zz] at h
  refine Za (T.seq (sR (Qq (mw rfl (mw rfl (oU x1 (cI .i64) Z5 rfl (oI rfl ?_)))))))
  refine nL (tN ?_)
  rcases Qh h with ⟨ab, h⟩ | ⟨ab, h⟩
  refine Qt rfl ab (T.skip (tN (T.seq (T.block (T.seq (Xk (dV rfl rfl ?_)))))))
  refine dK rfl (.f rfl) rfl (dP rfl (.f rfl) P0 i38 rfl (dS (c := ⟨some 64, .sl false 1 (mI x0.number), [(63, .ptr bx0 (0 + 2))], [(0, (Jg bx0 x0.g.First x0.g.P j x0.a.Split.Of x0.a.Split.Many p w0_2aa x0.e)), (1, .arrA j 3 1 (mI x0.number))], []⟩) (fun t hm => oF rfl rfl (Zi (Yr (i := 0) rfl (dk rfl) Z5 rfl hm.s0 hm.o0 rfl rfl) (J0 64 1 hm.o1) rfl)) rfl rfl (dV rfl rfl (dV rfl rfl ?_))))
  obtain ⟨aa, ag, h⟩ := bind_some h
  refine dX x1 (cI .i64) rfl (.f rfl) Z5 i3 ag rfl (dR rfl (.f rfl) ul3 rfl ?_)
  obtain ⟨m, ai, h⟩ := bind_some h
  refine dX x0.number (cI .i64) rfl (.f rfl) Z5 i3 ai rfl (dR rfl (.f rfl) ul3 rfl (dI rfl (.f rfl) rfl (dF [0,1,3,7,0,0,48,112,255,511,1023] Q3 rfl (by kernel_rfl) (fun u hu => (tN (Qm hu ?_))))))
  rcases Qh h with ⟨ac, h⟩ | ⟨ac, h⟩
  refine Qt rfl ac (Us (gM rfl (fun _ => .f rfl) (fun _ => rfl) (gM rfl (fun _ => .f rfl) (fun _ => rfl) (gK rfl (fun _ => .f rfl) (fun _ => rfl) (gP rfl (fun _ => .f rfl) P0 i38 (fun _ => rfl) (dC (c := ⟨some 76, .sl false 1 (mI x0.number), [(75, .ptr bx0 (0 + 2))], [(0, (Jg bx0 x0.g.First x0.g.P j x0.a.Split.Of x0.a.Split.Many p w0_2aa x0.e)), (1, .arrA j 3 1 (mI x0.number))], []⟩) (fun t hm => oF rfl rfl (Zi (Yr (i := 0) rfl (dk rfl) Z5 rfl hm.s0 hm.o0 rfl rfl) (J0 76 1 hm.o1) ⟨u0, rfl⟩)) (fun _ => rfl) (fun _ => rfl) ?_))))))
  refine gM rfl (fun _ => .f rfl) (fun _ => rfl) (gM rfl (fun _ => .f rfl) (fun _ => rfl) (gX x1 (cI .i64) rfl (fun _ => .f rfl) Z5 i3 ag (fun _ => rfl) (gR rfl (fun _ => .f rfl) ul3 (fun _ => rfl) (gX x0.number (cI .i64) rfl (fun _ => .f rfl) Z5 i3 ai (fun _ => rfl) (gR rfl (fun _ => .f rfl) ul3 (fun _ => rfl) (dC (c := ⟨some 83, .sl true 1 ([m].map (cI .i64)), [(82, .int .i64 m)], [], []⟩) (fun t hm => oF rfl rfl (OpT.buildSlice (elems := ([m] : List Int).map (cI .i64)) rfl (dk rfl) Z5 i3 (by decide) rfl (Hb rfl) (Y1 hm.s0 rfl Jl) rfl rfl (Xh rfl) (by decide) ⟨u0, rfl⟩)) (fun _ => rfl) (fun _ => rfl) ?_))))))
  obtain ⟨al, h⟩ := Q9 h
  refine DGG.step (c := fun b => ⟨some 84, .c (.ex ((b 12).1 0)), [(83, .sl true 1 ([m].map (cI .i64))), (72, .c (.ex s))], [(4, .arrA s 3 1 (mI q))], [(4, .arrA ((b 12).1 0) 3 1 ((q ++ [m]).map (cI .i64)))]⟩) [12] (fun b γ' h => by simp only [h 12 (by decide)]) (fun b t hm => oF rfl rfl (Zj (i := 4) (xs := q) (ys := [m]) (f := (cI .i64)) rfl (dk rfl) Z5 i3 rfl hm.s1 hm.o0 hm.s0 al (fun w => ⟨(fun _ => w, 0), rfl⟩))) (fun b => Zr rfl rfl) (DGG.step (c := fun b => ⟨some 9, .c (.ex ((b 12).1 0)), [(84, .c (.ex ((b 12).1 0)))], [], []⟩) [12] (fun b γ' h => by simp only [h 12 (by decide)]) (fun b t hm => oF rfl rfl (OpT.assign rfl (dk rfl) hm.s0 ⟨u0, rfl⟩)) (fun b => Zr rfl rfl) (gF [0,0,2,6,14,0,0,96,224,510,1022,2046,4095,8191] Q3 rfl (by kernel_rfl) (fun _ => by kernel_rfl) (fun b u hu => (Qj (tN (Qm hu (Qq (mw rfl (oI rfl (aw rfl ?_))))))))))
  refine nL (tN ?_)
  refine Qg ?_ (ih x1 (wI (y + (1:Int))) x0 (q ++ [m]) flx1 j p w0_2aa ((b 12).1 0) h)
  exact tq rfl rfl
  refine Qo rfl ac (T.skip (Qj (tN (Qq (mw rfl (oI rfl (aw rfl (nL (tN ?_)))))))))
  refine Qg ?_ (ih x1 (wI (y + (1:Int))) x0 q flx1 j p w0_2aa s h)
  exact tq rfl rfl
  refine Qo rfl ab (T.exit (Qk (Qk (Qu (tN (T.seq (sR (Qq (mw rfl (sp rfl (Hc (i := 4) (xs := q) (f := (cI .i64)) rfl (dk rfl) Z5 rfl rfl (oI rfl ?_))))))))))))
  refine nL (tN ?_)
  rcases Qh h with ⟨ad, h⟩ | ⟨ad, h⟩
  refine Qt rfl ad (sR (Qq (mw rfl (oK rfl (oP P0 i30 rfl (sp rfl (V3 (i := 0) (cells' := (([.d (.sl false 1 (mI x0.g.First)), .d (.sl false 9 (x0.g.P.map Qx)), .d (.ex j)]:List OC) ++ ((Zn.oc 256 .u8 x0.a.Split.Of) ++ (([.d (.int .i64 x0.a.Split.Many), .d (.ex p), .d (.ex w0_2aa), .d (.int .i64 (110:Int))]:List OC))))) rfl rfl i30 rfl rfl rfl (nb rfl) rfl (nL (tN (sR (Qq ?_)))))))))))
  refine aw rfl (nL (tN (T.ret (Qy (Q1 (.cons _ _ _ _ (.tmp 4 _ rfl) .nil) (.cons 0 rfl (.cons 0 rfl (.cons 0 rfl (.cons 0 rfl (.nil _))))) (by cases h; exact ⟨gl [j, p, w0_2aa], rfl, rfl⟩))))))
  refine Qo rfl ad (T.skip (tN (T.seq (sR (Qq (mw rfl (oK rfl (oP P0 i28 rfl ?_))))))))
  refine oP G4 i26 rfl (oL 0 He rfl (sp rfl (J9 (i := 3) (xs := x0.a.States) (f := Qf) rfl (dk rfl) He rfl rfl (oI rfl (nL (tN ?_))))))
  rcases Qh h with ⟨af, h⟩ | ⟨af, h⟩
  refine Qt rfl af (sR (Qq (mw rfl (oK rfl (oP P0 i30 rfl (sp rfl (V3 (i := 0) (cells' := (([.d (.sl false 1 (mI x0.g.First)), .d (.sl false 9 (x0.g.P.map Qx)), .d (.ex j)]:List OC) ++ ((Zn.oc 256 .u8 x0.a.Split.Of) ++ (([.d (.int .i64 x0.a.Split.Many), .d (.ex p), .d (.ex w0_2aa), .d (.int .i64 (3:Int))]:List OC))))) rfl rfl i30 rfl rfl rfl (nb rfl) rfl (nL (tN (sR (Qq ?_)))))))))))
  refine aw rfl (nL (tN (T.ret (Qy (Q1 (.cons _ _ _ _ (.tmp 4 _ rfl) .nil) (.cons 0 rfl (.cons 0 rfl (.cons 0 rfl (.cons 0 rfl (.nil _))))) (by cases h; exact ⟨gl [j, p, w0_2aa], rfl, rfl⟩))))))
  refine Qo rfl af (T.skip (tN (sR (Qq (mw rfl (mw rfl (oK rfl (oP P0 i28 rfl ?_))))))))
  refine oP G4 i26 rfl (oL 0 He rfl (mw rfl (mw rfl (sp rfl (Zi (OpT.build (l := [.sl flx1 1 (mI x1), .ex s, .ex (.slice none 0 0), .ex (.slice none 0 0)]) rfl (dk rfl) (Zp (pl := [(0, 1), (1, 1), (2, 1), (3, 1)]) Ke i51 rfl) (Hb rfl) rfl rfl rfl) (Zy 109 (l := [.sl flx1 1 (mI x1), .ex s, .ex (.slice none 0 0), .ex (.slice none 0 0)]) (l' := [.sl false 1 (mI x1), .sl false 1 (mI q), .sl false 1 (([] : List Int).map (cI .i64)), .sl false 1 (([] : List (List Qd)).map (cL 2 Ql))]) (.cons (.full _ _ _) (.cons (.view 4 rfl) (.cons (.nil _ _) (.cons (.nil _ _) (.refl _)))))) (sp rfl (OpT.buildSlice (elems := ([(Qa.mk x1 q [] [])] : List Qa).map Qf) rfl (dk rfl) He i51 (by decide) rfl (Hb rfl) rfl rfl rfl (Xh rfl) (by decide) ?_)))))))
  obtain ⟨am, h⟩ := Q9 h
  refine sp rfl (Cz (i := 3) (xs := x0.a.States) (ys := [(Qa.mk x1 q [] [])]) (f := Qf) rfl (dk rfl) He i51 rfl rfl rfl rfl am (fun aj => (oK rfl (oP P0 i28 rfl (oP G4 i26 rfl (sp rfl (V3 (i := 0) (cells' := (([.d (.sl false 1 (mI x0.g.First)), .d (.sl false 9 (x0.g.P.map Qx)), .d (.ex j)]:List OC) ++ ((Zn.oc 256 .u8 x0.a.Split.Of) ++ (([.d (.int .i64 x0.a.Split.Many), .d (.ex p), .d (.ex aj), .d (.int .i64 x0.e)]:List OC))))) rfl rfl i26 rfl rfl rfl (nb rfl) rfl (nL (tN (sR (Qq (mw rfl ?_))))))))))))
  refine oK rfl (oP P0 i28 rfl (oP G4 i26 rfl (oL 0 He rfl (sp rfl (J9 (i := 3) (xs := (x0.a.States ++ [(Qa.mk x1 q [] [])])) (f := Qf) rfl (dk rfl) He rfl rfl (oI rfl (aw rfl ?_)))))))
  refine nL (tN (T.ret (Q1 (.cons _ _ _ _ (.tmp 4 _ rfl) .nil) (.cons 0 rfl (.cons 0 rfl (.cons 0 rfl (.cons 0 rfl (.nil _))))) (by cases h; exact ⟨gl [j, p, aj], rfl, rfl⟩))))
theorem Df {r : Int × Qb} (K bx0 : Nat) : ∀ (k : Nat), Ge bx0 r (Q8 K k) := by
 intro k
 induction k with
 | zero =>
  intro x1 j x0 flx1 b d w0_0aa h
  exact zn h
 | succ k ih =>
  intro x1 j x0 flx1 b d w0_0aa h
  rw [Q8] at h
  refine Za (T.seq (sR (Qq (mw rfl (mw rfl (oK rfl (oP P0 i28 rfl ?_)))))))
  refine oP G4 i26 rfl (oL 0 He rfl (sp rfl (J9 (i := 3) (xs := x0.a.States) (f := Qf) rfl (dk rfl) He rfl rfl (oI rfl (nL (tN ?_))))))
  rcases Qh h with ⟨l, h⟩ | ⟨l, h⟩
  refine Qt rfl l (T.skip (tN (T.seq (T.block (sR (Qq (mw rfl (oK rfl ?_))))))))
  refine oP P0 i28 rfl (oP G4 i26 rfl (oL 0 He rfl (mw rfl ?_)))
  obtain ⟨g, p, h⟩ := bind_some h
  refine sp rfl (Z8 (n := 3) (xs := x0.a.States) (f := Qf) (old := g) rfl (dk rfl) He i51 rfl rfl rfl p (sp rfl (K8 rfl (dk rfl) Ke rfl i38 (by decide) rfl (sp rfl (J1 (i := 3) (xs := x0.a.States) (f := Qf) (old := g) rfl (dk rfl) Z5 rfl rfl rfl (Zv p).2 rfl (aw rfl (nL (tN (sR (Qq (mw rfl (oU g.L (cI .i64) Z5 rfl ?_))))))))))))
  refine mw rfl (oU x1 (cI .i64) Z5 rfl (oI rfl (nL (tN ?_))))
  rcases Qh h with ⟨m, h⟩ | ⟨m, h⟩
  refine Qt rfl m (sR (Qq (aw rfl (nL (tN (T.seq (sR (Qq (aw rfl ?_)))))))))
  refine nL (tN (T.block (T.loop ?_)))
  refine Qg ?_ (De K bx0 (Q8 K k) ih K x1 j g.L true (0:Int) x0 flx1 b d w0_0aa h)
  exact tq rfl rfl
  refine Qo rfl m (T.skip (Qj (tN (Qq (mw rfl (oI rfl (aw rfl (nL (tN ?_)))))))))
  refine Qg ?_ (ih x1 (wI (j + (1:Int))) x0 flx1 b d w0_0aa h)
  exact tq rfl rfl
  refine Qo rfl l (T.exit (Qk (Qk (Qu (tN (sR (Qq (aw rfl (nL (tN (T.seq (sR (Qq ?_)))))))))))))
  refine aw rfl (nL (tN (T.block (T.loop (Qg (Y2 3 1) ?_)))))
  refine Qg ?_ (Dd K bx0 K x1 (0:Int) x0 [] flx1 b d w0_0aa (Tp 7) h)
  exact tr rfl (.c (.s .z) (.c (.s .z) (.c (.s .z) (.c (.s .z) (.c .z (.n _))))))
theorem Ie (K : Nat) {x0 : Qb} {x1 : List Int} {bx0 : Nat} {wx0c1 wx0c2c1 wx0c2c2 : Value} {flx1 : Bool} {r : Int × Qb} (h : Yh K x0 x1 = some r) : Ud tp 84 [.ptr bx0 0, .sl flx1 1 (mI x1)] [(Jg bx0 x0.g.First x0.g.P wx0c1 x0.a.Split.Of x0.a.Split.Many wx0c2c1 wx0c2c2 x0.e), .arrA wx0c1 3 1 (mI x0.number), .arrA wx0c2c1 59 2 (mA x0.a.Counts), .arrX wx0c2c2 51 4 0 (x0.a.States.map Qf)] (fun γ => (.int .i64 r.1)) (fun γ => [(Jg bx0 r.2.g.First r.2.g.P (γ 0) r.2.a.Split.Of r.2.a.Split.Many (γ 1) (γ 2) r.2.e), .arrA (γ 0) 3 1 (mI r.2.number), .arrA (γ 1) 59 2 (mA r.2.a.Counts), .arrX (γ 2) 51 4 0 (r.2.a.States.map Qf)]) := by
 refine CI 122 fu84 rfl ?_
 unfold Yh at h
 refine sR (Qq (aw rfl (nL (tN (T.seq (sR (Qq (aw rfl (nL (tN ?_))))))))))
 refine T.block (T.loop ?_)
 refine Qg ?_ (Df K bx0 K x1 (1:Int) x0 flx1 wx0c1 wx0c2c1 wx0c2c2 h)
 exact tq rfl rfl
abbrev Ib (bx0 : Nat) (r : Qd × Qb) : ES := Jz tp ff48 (fun y t => ∃ γ : Nat → Value, y = (.agg [.int .i64 r.1.To, .sl false 1 (mU r.1.Ops)]) ∧ t = [(Jg bx0 r.2.g.First r.2.g.P (γ 0) r.2.a.Split.Of r.2.a.Split.Many (γ 1) (γ 2) r.2.e), .arrA (γ 0) 3 1 (mI r.2.number), .arrA (γ 1) 59 2 (mA r.2.a.Counts), .arrX (γ 2) 51 4 0 (r.2.a.States.map Qf)])
abbrev Mw (bx0 : Nat) (r : Qd × Qb) : ES := fT 109 [1,1,1,1,1,1] ff48 (Ib bx0 r)
abbrev Jk (bx0 : Nat) (r : Qd × Qb) : ES := Qz 0 ((Mw bx0 r))
abbrev Kz (bx0 : Nat) (r : Qd × Qb) : ES := fL 109 [1,1,1,1,1,0,1,0,0] ff48 (Jk bx0 r)
abbrev Lm (bx0 : Nat) (r : Qd × Qb) : ES := fT 109 [1,1,1,1,1,0,1,0,0,1,1] ff48 (Kz bx0 r)
abbrev V1 (bx0 : Nat) (r : Qd × Qb) : ES := Qz 1 ((Lm bx0 r))
abbrev Hf (bx0 : Nat) (r : Qd × Qb) : ES := Qz 2 ((V1 bx0 r))
abbrev Hq (bx0 : Nat) (r : Qd × Qb) : ES := fT 109 [1,1,1,1,1,0,1,0,0,1,0,0,1,1,1,1] ff48 (V1 bx0 r)
abbrev Uy (bx0 : Nat) (r : Qd × Qb) (go : Int → Int → Int → Int → Qb → (List Int) → (List Int) → (List Int) → (List (List Qd)) → (List Int) → (List Int) → Option (Qd × Qb)) : Prop := ∀ (x1 x2 : Int) (b f : Int) (x0 : Qb) (i j l : List Int) (m : List (List Qd)) (n p : List Int) (q s w0_0aa : Value) (u v : Nat) (w y : Value), go x1 x2 b f x0 i j l m n p = some r → TL tp 109 (ca [1,1,1,1,1,0,1,0,0] ff48) ⟨[(0, .ptr bx0 0), (1, .int .i64 x1), (2, .int .i64 x2), (8, .ptr u 0), (9, .ptr v 0), (10, .int .u8 b), (11, .c (.ex w)), (12, .c (.ex y)), (13, .int .i64 f)], [(Jg bx0 x0.g.First x0.g.P q x0.a.Split.Of x0.a.Split.Many s w0_0aa x0.e), .arrA q 3 1 (mI x0.number), .arrA s 59 2 (mA x0.a.Counts), .arrX w0_0aa 51 4 0 (x0.a.States.map Qf), (b54x8 u (0:Int) (.slice none 0 0)), (Mq v i j l m), .arrA w 3 1 (mI n), .arrA y 5 1 (mU p)]⟩ (Jk bx0 r)
theorem Gb {r : Qd × Qb} (K bx0 : Nat) (go0 : Int → Int → Int → Int → Qb → (List Int) → (List Int) → (List Int) → (List (List Qd)) → (List Int) → (List Int) → Option (Qd × Qb)) (hgo0 : Uy bx0 r go0) (x1 x2 : Int) (j l : Int) (ad : Bool) (x0 : Qb) (m p q : List Int) (s : List (List Qd)) (u b : List Int) (v w w0_2aa : Value) (y aa : Nat) (ab af : Value) (h : Yw K go0 x1 x2 j l ad x0 m p q s u b = some r) : T tp 109 (ca [1,1,1,1,1,0,1,0,0,1,0,0,1,1,1,1,1,1,0,1,1] ff48) ⟨[(0, .ptr bx0 0), (1, .int .i64 x1), (2, .int .i64 x2), (8, .ptr y 0), (9, .ptr aa 0), (10, .int .u8 j), (11, .c (.ex ab)), (12, .c (.ex af)), (13, .int .i64 l), (15, .bool ad)], [(Jg bx0 x0.g.First x0.g.P v x0.a.Split.Of x0.a.Split.Many w w0_2aa x0.e), .arrA v 3 1 (mI x0.number), .arrA w 59 2 (mA x0.a.Counts), .arrX w0_2aa 51 4 0 (x0.a.States.map Qf), (b54x8 y (0:Int) (.slice none 0 0)), (Mq aa m p q s), .arrA ab 3 1 (mI u), .arrA af 5 1 (mU b)]⟩ (Hf bx0 r) := by
 unfold Yw at h
 refine sR (Qq (mw rfl (aw rfl (nL (tN ?_)))))
 rcases Qh h with ⟨ac, h⟩ | ⟨ac, h⟩
 refine Qt rfl ac (Qq (mw rfl (sp rfl (OpT.buildSlice (elems := ([(1:Int)] : List Int).map (cI .u8)) rfl (dk rfl) Mt i5 (by decide) rfl (Hb rfl) rfl rfl rfl (Xh rfl) (by decide) ?_))))
 obtain ⟨ag, h⟩ := Q9 h
 refine sp rfl (Zj (i := 7) (xs := b) (ys := [(1:Int)]) (f := (cI .u8)) rfl (dk rfl) Mt i5 rfl rfl rfl rfl ag (fun ai => (aw rfl (nL (Qj (Qj (tN (Qq (mw rfl (oI rfl (aw rfl ?_)))))))))))
 refine nL (tN ?_)
 refine Qg ?_ (hgo0 x1 x2 j (wI (l + (1:Int))) x0 m p q s u (b ++ [(1:Int)]) v w w0_2aa y aa ab ai h)
 exact tq rfl rfl
 refine Qo rfl ac (Qq (mw rfl (sp rfl (OpT.buildSlice (elems := ([(3:Int)] : List Int).map (cI .u8)) rfl (dk rfl) Mt i5 (by decide) rfl (Hb rfl) rfl rfl rfl (Xh rfl) (by decide) ?_))))
 obtain ⟨aj, h⟩ := Q9 h
 refine sp rfl (Zj (i := 7) (xs := b) (ys := [(3:Int)]) (f := (cI .u8)) rfl (dk rfl) Mt i5 rfl rfl rfl rfl aj (fun al => (aw rfl (nL (Qj (Qj (tN (Qq (mw rfl (oI rfl (aw rfl ?_)))))))))))
 refine nL (tN ?_)
 refine Qg ?_ (hgo0 x1 x2 j (wI (l + (1:Int))) x0 m p q s u (b ++ [(3:Int)]) v w w0_2aa y aa ab al h)
 exact tq rfl rfl
theorem Gc {r : Qd × Qb} (K bx0 : Nat) (go0 : Int → Int → Int → Int → Qb → (List Int) → (List Int) → (List Int) → (List (List Qd)) → (List Int) → (List Int) → Option (Qd × Qb)) (hgo0 : Uy bx0 r go0) (x1 x2 : Int) (m b : Int) (al af : Bool) (x0 : Qb) (p q s : List Int) (u : List (List Qd)) (j l : List Int) (w y w0_1aa : Value) (aa ab : Nat) (am ac : Value) (h : Yx K go0 x1 x2 m b al af x0 p q s u j l = some r) : T tp 109 (ca [1,1,1,1,1,0,1,0,0,1,0,0,1,1,1,0,1,1] ff48) ⟨[(0, .ptr bx0 0), (1, .int .i64 x1), (2, .int .i64 x2), (8, .ptr aa 0), (9, .ptr ab 0), (10, .int .u8 m), (11, .c (.ex am)), (12, .c (.ex ac)), (13, .int .i64 b), (14, .bool al), (15, .bool af)], [(Jg bx0 x0.g.First x0.g.P w x0.a.Split.Of x0.a.Split.Many y w0_1aa x0.e), .arrA w 3 1 (mI x0.number), .arrA y 59 2 (mA x0.a.Counts), .arrX w0_1aa 51 4 0 (x0.a.States.map Qf), (b54x8 aa (0:Int) (.slice none 0 0)), (Mq ab p q s u), .arrA am 3 1 (mI j), .arrA ac 5 1 (mU l)]⟩ (Hq bx0 r) := by
 unfold Yx at h
 refine T.skip (tN (sR (Qq (mw rfl (mw rfl (sp rfl (OpT.buildSlice (elems := ([b] : List Int).map (cI .i64)) rfl (dk rfl) Z5 i3 (by decide) rfl (Hb rfl) rfl rfl rfl (Xh rfl) (by decide) ?_)))))))
 obtain ⟨an, h⟩ := Q9 h
 refine sp rfl (Zj (i := 6) (xs := j) (ys := [b]) (f := (cI .i64)) rfl (dk rfl) Z5 i3 rfl rfl rfl rfl an (fun ag => (aw rfl (nL (tN (T.seq (sR (Qq (mw rfl (oK rfl ?_))))))))))
 refine oP P0 i38 rfl (sp rfl (Zi (Yr (i := 0) rfl (dk rfl) Z5 rfl rfl rfl rfl rfl) (J0 79 1 rfl) (mw rfl ?_)))
 obtain ⟨ap, aq, h⟩ := bind_some h
 refine oX x0.number (cI .i64) Z5 i3 aq rfl (oR ul3 rfl (oI rfl (nL (tN ?_))))
 rcases Qh h with ⟨ai, h⟩ | ⟨ai, h⟩
 refine Qt rfl ai (T.exit (Qk (Qu (tN (Qq (mw rfl (oI rfl (aw rfl (nL (tN ?_))))))))))
 refine Qg ?_ (hgo0 x1 x2 m (wI (b + (1:Int))) x0 p q s u (j ++ [b]) l w y w0_1aa aa ab ag ac h)
 exact tq rfl rfl
 refine Qo rfl ai (T.skip (tN (T.block (sR (Qq (mw rfl (mw rfl ?_)))))))
 rcases Qh h with ⟨ad, h⟩ | ⟨ad, h⟩
 refine sn rfl ad (OpT.move rfl (dk rfl) rfl (oY ad rfl (aw rfl (nL (tN ?_)))))
 rcases Qh h with ⟨aj, h⟩ | ⟨aj, h⟩
 refine Qt rfl aj (Qq (mw rfl (sp rfl (OpT.buildSlice (elems := ([(2:Int)] : List Int).map (cI .u8)) rfl (dk rfl) Mt i5 (by decide) rfl (Hb rfl) rfl rfl rfl (Xh rfl) (by decide) ?_))))
 obtain ⟨au, h⟩ := Q9 h
 refine sp rfl (Zj (i := 7) (xs := l) (ys := [(2:Int)]) (f := (cI .u8)) rfl (dk rfl) Mt i5 rfl rfl rfl rfl au (fun av => (aw rfl (nL (Qj (Qj (tN (Qq (mw rfl (oI rfl (aw rfl ?_)))))))))))
 refine nL (tN ?_)
 refine Qg ?_ (hgo0 x1 x2 m (wI (b + (1:Int))) x0 p q s u (j ++ [b]) (l ++ [(2:Int)]) w y w0_1aa aa ab ag av h)
 exact tq rfl rfl
 refine Qo rfl aj ?_
 refine Qm ?_ (Gb K bx0 go0 hgo0 x1 x2 m b af x0 p q s u (j ++ [b]) l w y w0_1aa aa ab ag ac h)
 exact tq rfl rfl
 refine pf rfl ad (oZ ad rfl (aw rfl (nL (tN (Qo rfl rfl ?_)))))
 refine Qm ?_ (Gb K bx0 go0 hgo0 x1 x2 m b af x0 p q s u (j ++ [b]) l w y w0_1aa aa ab ag ac h)
 exact tq rfl rfl
theorem Db {r : Qd × Qb} (K bx0 : Nat) : ∀ (k : Nat), Uy bx0 r (Zb K k) := by
 intro k
 induction k with
 | zero =>
  intro x1 x2 y aa x0 j m p q w b ab ac w0_0aa ad af ag s h
  exact zn h
 | succ k ih =>
  intro x1 x2 y aa x0 j m p q w b ab ac w0_0aa ad af ag s h
  rw [Zb] at h
  refine Za (T.seq (sR (Qq (mw rfl (mw rfl (oK rfl (oP P0 i43 rfl ?_)))))))
  refine oP Qbw i41 rfl (oL 0 F1 rfl (oU x0.g.P Qx F1 rfl (oI rfl (nL (tN ?_)))))
  rcases Qh h with ⟨aj, h⟩ | ⟨aj, h⟩
  refine Qt rfl aj (T.skip (tN (T.seq (T.block (T.seq (sR (Qq (mw rfl ?_))))))))
  refine oK rfl (oP P0 i43 rfl (oP Qbw i41 rfl (oL 0 F1 rfl (mw rfl ?_))))
  obtain ⟨ay, az, h⟩ := bind_some h
  refine oX x0.g.P Qx F1 i65 az rfl (sp rfl (Wa rfl (dk rfl) Qbv rfl i63 (by decide) rfl (oJ Qdo i63 rfl (mw rfl ?_))))
  obtain ⟨a4, a0, h⟩ := bind_some h
  refine oH fu81 (Z1.nil (W6 K a0)) rfl (oT rfl (nL (tN ?_)))
  rcases Qh h with ⟨al, h⟩ | ⟨al, h⟩
  refine Qt rfl al (T.exit (Qk (Qu (tN (Qq (mw rfl (oI rfl (aw rfl (nL (tN ?_))))))))))
  refine Qg ?_ (ih x1 x2 y (wI (aa + (1:Int))) x0 j m p q w b ab ac w0_0aa ad af ag s h)
  exact tq rfl rfl
  refine Qo rfl al (T.skip (tN (sR (Qq (mw rfl (mw rfl (oA 5 [.sl false 1 (mI j), .sl false 1 (mI m), .sl false 1 (mI p), .sl false 1 (q.map (cL 2 Ql))] Ke i51 rfl (mw rfl ?_))))))))
  refine mw rfl ?_
  obtain ⟨au, a1, h⟩ := bind_some h
  refine sp rfl (Q6 (is := [0, 1, 2, 3]) (ph := []) rfl (dk rfl) fu82 rfl rfl (Zs.cons rfl (Zs.cons rfl (Zs.cons rfl (Zs.cons rfl (Zs.cons rfl Zs.nil))))) (D4 K (bx0 := bx0) (wx0c1 := ab) (wx0c2c1 := ac) (wx0c2c2 := w0_0aa) a1) (.cons rfl rfl (.cons rfl rfl (.cons rfl rfl (.cons rfl rfl (.nil))))) (fun _ => rfl) (fun am => (nm (.c (.c (.c (.c (.c (.c (.c (.c (.n))))))))) (aw rfl (nL (tN (sR (Qq (mw rfl (oA 5 [.sl false 1 (mI j), .sl false 1 (mI m), .sl false 1 (mI p), .sl false 1 (q.map (cL 2 Ql))] Ke i51 rfl (mw rfl ?_)))))))))))
  refine mw rfl ?_
  obtain ⟨av, a2, h⟩ := bind_some h
  refine sp rfl (Q6 (is := [0, 1, 2, 3]) (ph := []) rfl (dk rfl) fu83 rfl rfl (Zs.cons rfl (Zs.cons rfl (Zs.cons rfl (Zs.cons rfl Zs.nil)))) (E4 K (bx0 := bx0) (wx0c1 := (am 0)) (wx0c2c1 := (am 1)) (wx0c2c2 := (am 2)) a2) (.cons rfl rfl (.cons rfl rfl (.cons rfl rfl (.cons rfl rfl (.nil))))) (fun _ => rfl) (fun a => (nm (.c (.c (.c (.c (.c (.c (.c (.c (.n))))))))) (aw rfl (nL (tN (T.seq (sR (Qq (mw rfl ?_))))))))))
  refine oT rfl (mw rfl ?_)
  rcases Qh h with ⟨u, h⟩ | ⟨u, h⟩
  refine sn rfl u (OpT.move rfl (dk rfl) rfl (sn rfl u (OpT.not rfl (dk rfl) rfl (oY u rfl (nL (tN ?_))))))
  rcases Qh h with ⟨an, h⟩ | ⟨an, h⟩
  refine Qt rfl an (T.exit (Qk (Qu (tN (Qq (mw rfl (oI rfl (aw rfl (nL (tN ?_))))))))))
  refine Qg ?_ (ih x1 x2 y (wI (aa + (1:Int))) x0 j m p q w b (a 0) (a 1) (a 2) ad af ag s h)
  exact tq rfl rfl
  refine Qo rfl an ?_
  refine Qm ?_ (Gc K bx0 (Zb K k) ih x1 x2 y aa au av x0 j m p q w b (a 0) (a 1) (a 2) ad af ag s h)
  exact tq rfl rfl
  refine pf rfl u (pf rfl u (oZ u rfl (nL (tN (Qo rfl rfl ?_)))))
  refine Qm ?_ (Gc K bx0 (Zb K k) ih x1 x2 y aa au av x0 j m p q w b (a 0) (a 1) (a 2) ad af ag s h)
  exact tq rfl rfl
  refine Qo rfl aj (T.exit (Qk (Qk (Qu (tN (T.seq (sR (Qq (mw rfl (sp rfl (Hc (i := 6) (xs := w) (f := (cI .i64)) rfl (dk rfl) Z5 rfl rfl (oI rfl ?_))))))))))))
  refine nL (tN ?_)
  rcases Qh h with ⟨ap, h⟩ | ⟨ap, h⟩
  refine Qt rfl ap (sR (Qq (sp rfl (Zi (OpT.build (l := [.int .i64 (-1:Int), .ex (.slice none 0 0)]) rfl (dk rfl) (Zp (pl := [(0, 1), (1, 1)]) Iw i54 rfl) (Hb rfl) rfl rfl rfl) (Zy 103 (l := [.int .i64 (-1:Int), .ex (.slice none 0 0)]) (l' := [.int .i64 (-1:Int), .sl false 1 (([] : List Int).map (cI .u8))]) (.cons (.same _) (.cons (.nil _ _) (.refl _)))) (sp rfl (Qv (i := 4) (cells' := [.d (.int .i64 (-1:Int)), .d (.sl false 1 (([] : List Int).map (cI .u8)))]) rfl rfl i54 rfl rfl rfl rfl (nb rfl) rfl (nL (tN (T.ret (Qy (Q1 (.cons _ _ _ _ (.cellAgg 8 54 _ 0 4 54 _ [.int .i64 (-1:Int), .sl false 1 (([] : List Int).map (cI .u8))] _ _ 2 _ rfl rfl rfl rfl Iw rfl i54) .nil) (.cons 0 rfl (.cons 0 rfl (.cons 0 rfl (.cons 0 rfl (.nil _))))) (by cases h; exact ⟨gl [ab, ac, w0_0aa], rfl, rfl⟩))))))))))))
  refine Qo rfl ap (T.skip (tN (sR (Qq (mw rfl (mw rfl ?_))))))
  obtain ⟨ai, a3, h⟩ := bind_some h
  refine sp rfl (Q6 (is := [0, 1, 2, 3]) (ph := []) rfl (dk rfl) fu84 rfl rfl (Zs.cons rfl (Zs.view (i := 6) rfl rfl Zs.nil)) (Ie K (bx0 := bx0) (wx0c1 := ab) (wx0c2c1 := ac) (wx0c2c2 := w0_0aa) (flx1 := false) a3) (.cons rfl rfl (.cons rfl rfl (.cons rfl rfl (.cons rfl rfl (.nil))))) (fun _ => rfl) (fun aq => (nm (.c (.c (.c (.c (.c (.c (.c (.c (.n))))))))) (mw rfl (sp rfl (Zi (OpT.build (l := [.int .i64 ai.1, .ex s]) rfl (dk rfl) (Zp (pl := [(0, 1), (1, 1)]) Iw i54 rfl) (Hb rfl) rfl rfl rfl) (Zy 108 (l := [.int .i64 ai.1, .ex s]) (l' := [.int .i64 ai.1, .sl false 1 (mU b)]) (.cons (.same _) (.cons (.view 7 rfl) (.refl _)))) (sp rfl (Qv (i := 4) (cells' := [.d (.int .i64 ai.1), .d (.sl false 1 (mU b))]) rfl rfl i54 rfl rfl rfl rfl (nb rfl) rfl (nL (tN (T.ret ?_)))))))))))
  exact Q1 (.cons _ _ _ _ (.cellAgg 8 54 _ 0 4 54 _ [.int .i64 ai.1, .sl false 1 (mU b)] _ _ 2 _ rfl rfl rfl rfl Iw rfl i54) .nil) (.cons 0 rfl (.cons 0 rfl (.cons 0 rfl (.cons 0 rfl (.nil _))))) (by cases h; exact ⟨gl [aq 0, aq 1, aq 2], rfl, rfl⟩)
theorem Ic (K : Nat) {x0 : Qb} {x1 x2 x3 : Int} {bx0 : Nat} {wx0c1 wx0c2c1 wx0c2c2 : Value} {r : Qd × Qb} (h : Xn K x0 x1 x2 x3 = some r) : Ud tp 48 [.ptr bx0 0, .int .i64 x1, .int .i64 x2, .int .i64 x3] [(Jg bx0 x0.g.First x0.g.P wx0c1 x0.a.Split.Of x0.a.Split.Many wx0c2c1 wx0c2c2 x0.e), .arrA wx0c1 3 1 (mI x0.number), .arrA wx0c2c1 59 2 (mA x0.a.Counts), .arrX wx0c2c2 51 4 0 (x0.a.States.map Qf)] (fun γ => (.agg [.int .i64 r.1.To, .sl false 1 (mU r.1.Ops)])) (fun γ => [(Jg bx0 r.2.g.First r.2.g.P (γ 0) r.2.a.Split.Of r.2.a.Split.Many (γ 1) (γ 2) r.2.e), .arrA (γ 0) 3 1 (mI r.2.number), .arrA (γ 1) 59 2 (mA r.2.a.Counts), .arrX (γ 2) 51 4 0 (r.2.a.States.map Qf)]) := by
 refine CI 109 fu48 rfl ?_
 unfold Xn at h
 refine sR (Qq (sp rfl (Zg rfl (dk rfl) i54 rfl (fun p => (nL (tN (sR (Qq (mw rfl (oK rfl (oP P0 i28 rfl (oP G4 i26 rfl ?_))))))))))))
 refine oL 1 He rfl (mw rfl ?_)
 obtain ⟨b, j, h⟩ := bind_some h
 refine sp rfl (Z8 (n := 4) (xs := x0.a.States) (f := Qf) (old := b) rfl (dk rfl) He i51 rfl rfl rfl j (sp rfl (Qcx (i := 4) (xs := x0.a.States) (f := Qf) (old := b) (l := [.sl false 1 (mI b.L), .sl false 1 (mI b.R), .sl false 1 (mI b.Rule), .sl false 1 (b.Next.map (cL 2 Ql))]) rfl (dk rfl) Ke rfl i51 rfl rfl (Zv j).2 rfl rfl (sp rfl (Zg rfl (dk rfl) i51 rfl (fun q => (sp rfl (Qv (i := 0) (cells' := [.d (.sl false 1 (mI b.L)), .d (.sl false 1 (mI b.R)), .d (.sl false 1 (mI b.Rule)), .d (.sl false 1 (b.Next.map (cL 2 Ql)))]) rfl rfl i51 rfl rfl rfl rfl (nb rfl) rfl (nL (tN (sR (Qq (mw rfl (oK rfl ?_))))))))))))))
 refine oP P0 i28 rfl (oP G4 i24 rfl (oA 2 ((Zn.dc 256 .u8 x0.a.Split.Of) ++ (([.int .i64 x0.a.Split.Many] : List DC))) ul24 i24 rfl ?_))
 obtain ⟨u, w, h⟩ := bind_some h
 refine oH fu80 (Z1.nil (Qbk K w)) rfl (mw rfl ?_)
 obtain ⟨m, y, h⟩ := bind_some h
 refine oX u (cI .u8) Mt i5 y rfl (oR ul5 rfl (aw rfl (nL (tN (sR (Qq (aw rfl (nL (tN (sR (Qq (aw rfl ?_))))))))))))
 refine nL (tN (T.seq (sR (Qq (aw rfl (nL (tN (T.block (T.loop ?_)))))))))
 refine Qg (Y2 3 1) (Qg (Y2 5 1) ?_)
 refine Qg ?_ (Db K bx0 K x1 x2 m (0:Int) x0 b.L b.R b.Rule b.Next [] [] wx0c1 wx0c2c1 wx0c2c2 p q (Tp 3) (Tp 4) h)
 exact tr rfl (.c (.s (.s (.s (.s .z)))) (.c (.s (.s (.s (.s .z)))) (.c (.s (.s (.s (.s .z)))) (.c (.s (.s (.s (.s .z)))) (.c (.s (.s (.s .z))) (.c (.s (.s .z)) (.c (.s .z) (.c .z (.n _)))))))))
end Go.Rv

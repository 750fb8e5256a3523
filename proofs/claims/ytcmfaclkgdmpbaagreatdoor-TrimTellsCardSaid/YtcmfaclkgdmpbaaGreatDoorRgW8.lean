/- Each function computes what its plain text says: printed by a program of ours. -/
import Derived.Test.YtcmfaclkgdmpbaaGreatDoorRgW7
namespace Go.Rv
open Go.Proofs
set_option maxRecDepth 100000
set_option maxHeartbeats 4000000
set_option linter.unusedVariables false
abbrev Og (bx0 : Nat) (x0 : Qm) (r : Bool) : ES := Jm tp ff82 (fun y t => ∃ γ : Nat → Value, y = (.bool r) ∧ t = [(U2 bx0 x0.g.First x0.g.P (γ 0) x0.a.Split.Of x0.a.Split.Many (γ 1) (γ 2) x0.e), .arrA (γ 0) 3 1 (mI x0.number), .arrA (γ 1) 59 2 (mA x0.a.Counts), .arrX (γ 2) 51 4 0 (x0.a.States.map Qb)])
abbrev Er (bx0 : Nat) (x0 : Qm) (r : Bool) : ES := fT 54 [1,1,1] ff82 (Og bx0 x0 r)
abbrev Dr (bx0 : Nat) (x0 : Qm) (r : Bool) : ES := Qv 0 ((Er bx0 x0 r))
theorem Fp {r : Bool} (K bx0 : Nat) (x0 : Qm) : ∀ (k : Nat), ∀ (x3 x4 s : Int) (x0 : Qm) (x2 : Qa) (y aa w0_0aa : Value) (p : Nat), V0 K k x3 x4 s x0 x2 = some r → TL tp 54 (ca [1,1,0,1,0,0] ff82) ⟨[(0, .ptr bx0 0), (3, .int .i64 x3), (4, .int .i64 x4), (7, .ptr p 0), (11, .int .i64 s)], [(U2 bx0 x0.g.First x0.g.P y x0.a.Split.Of x0.a.Split.Many aa w0_0aa x0.e), .arrA y 3 1 (mI x0.number), .arrA aa 59 2 (mA x0.a.Counts), .arrX w0_0aa 51 4 0 (x0.a.States.map Qb), (W0 p x2.L x2.R x2.Rule x2.Next)]⟩ (Dr bx0 x0 r) := by
 intro k
 induction k with
 | zero =>
  intro x3 x4 s x0 x2 y aa w0_0aa p h
  exact zn h
 | succ k ih =>
  intro x3 x4 s x0 x2 y aa w0_0aa p h
  rw [V0] at h
  refine Q0 (T.seq (sR (Qr (mw rfl (oP V1 i38 rfl (oL 4 Zi rfl (oU x2.L (cI .i64) Zi rfl ?_)))))))
  refine oI rfl (nL (tN ?_))
  rcases Qg h with ⟨ac, h⟩ | ⟨ac, h⟩
  refine Qp rfl ac (T.skip (tN (T.seq (T.block (T.seq (Ur (gM rfl (fun _ => .f rfl) (fun _ => rfl) ?_)))))))
  refine gW 4 [.sl false 1 (mI x2.L), .sl false 1 (mI x2.R), .sl false 1 (mI x2.Rule), .sl false 1 (x2.Next.map (cL 2 Qh))] rfl (fun _ => .f rfl) V1 i51 (fun _ => rfl) (gM rfl (fun _ => .f rfl) (fun _ => rfl) (gP rfl (fun _ => .f rfl) V1 i38 (fun _ => rfl) (gL 4 rfl (fun _ => .f rfl) Zi (fun _ => rfl) (gM rfl (fun _ => .f rfl) (fun _ => rfl) ?_))))
  obtain ⟨w, af, h⟩ := bind_some h
  refine gX x2.L (cI .i64) rfl (fun _ => .f rfl) Zi i3 af (fun _ => rfl) (gR rfl (fun _ => .f rfl) ul3 (fun _ => rfl) ?_)
  obtain ⟨m, ag, h⟩ := bind_some h
  refine DGG.step (c := fun b => ⟨some 36, .bool m, [(28, .ptr bx0 0), (29, .agg [.sl false 1 (mI x2.L), .sl false 1 (mI x2.R), .sl false 1 (mI x2.Rule), .sl false 1 (x2.Next.map (cL 2 Qh))]), (30, .int .i64 x3), (35, .int .i64 w)], [(3, .arrX w0_0aa 51 4 0 (x0.a.States.map Qb)), (2, .arrA aa 59 2 (mA x0.a.Counts)), (1, .arrA y 3 1 (mI x0.number)), (0, (U2 bx0 x0.g.First x0.g.P y x0.a.Split.Of x0.a.Split.Many aa w0_0aa x0.e))], [(0, (U2 bx0 x0.g.First x0.g.P ((b 8).1 0) x0.a.Split.Of x0.a.Split.Many ((b 8).1 1) ((b 8).1 2) x0.e)), (1, .arrA ((b 8).1 0) 3 1 (mI x0.number)), (2, .arrA ((b 8).1 1) 59 2 (mA x0.a.Counts)), (3, .arrX ((b 8).1 2) 51 4 0 (x0.a.States.map Qb))]⟩) [8] (fun b γ' h => by simp only [h 8 (by decide)]) (fun b t hm => oF rfl rfl (Q9 (is := [0, 1, 2, 3]) (ph := []) rfl (dk rfl) fu79 rfl rfl (Zm.cons hm.s0 (Zm.cons hm.s1 (Zm.cons hm.s2 (Zm.cons hm.s3 Zm.nil)))) (Bp K (bx0 := bx0) (wx0c1 := y) (wx0c2c1 := aa) (wx0c2c2 := w0_0aa) ag) (.cons (hm.objs (0, _) (.tail _ (.tail _ (.tail _ (.head _))))) rfl (.cons hm.o2 rfl (.cons hm.o1 rfl (.cons hm.o0 rfl (.nil))))) (fun _ => rfl) (fun g => ⟨(g, 0), rfl⟩))) (fun b => Zg rfl rfl) (gM rfl (fun _ => .f rfl) (fun _ => rfl) ?_)
  rcases Qg h with ⟨q, h⟩ | ⟨q, h⟩
  refine gM rfl (fun _ => .n q rfl) (fun _ => rfl) (gK rfl (fun _ => .n q rfl) (fun _ => rfl) (gP rfl (fun _ => .n q rfl) Qjd i43 (fun _ => rfl) (gP rfl (fun _ => .n q rfl) Qk9 i41 (fun _ => rfl) (DGG.step (c := fun b => ⟨some 42, .sl false 9 (x0.g.P.map Q1), [(41, .ptr bx0 (0 + 0 + 1)), (37, .bool m)], [(0, (U2 bx0 x0.g.First x0.g.P ((b 8).1 0) x0.a.Split.Of x0.a.Split.Many ((b 8).1 1) ((b 8).1 2) x0.e))], []⟩) [8] (fun b γ' h => by simp only [h 8 (by decide)]) (fun b t hm => oN rfl rfl rfl hm.s1 q (Zx (i := 0) rfl (dk rfl) Qcg rfl hm.s0 hm.o0 rfl ⟨u0, rfl⟩)) (fun b => Zg rfl rfl) (gP rfl (fun _ => .n q rfl) V1 i38 (fun _ => rfl) (gL 4 rfl (fun _ => .n q rfl) Zi (fun _ => rfl) ?_))))))
  refine gM rfl (fun _ => .n q rfl) (fun _ => rfl) (gX x2.L (cI .i64) rfl (fun _ => .n q rfl) Zi i3 af (fun _ => rfl) (gR rfl (fun _ => .n q rfl) ul3 (fun _ => rfl) ?_))
  obtain ⟨j, ai, h⟩ := bind_some h
  refine gX x0.g.P Q1 rfl (fun _ => .n q rfl) Qcg i65 ai (fun _ => rfl) (gQ rfl (fun _ => .n q rfl) ul65 i38 (fun _ => rfl) (gR rfl (fun _ => .n q rfl) Zi (fun _ => rfl) (gM rfl (fun _ => .n q rfl) (fun _ => rfl) ?_)))
  obtain ⟨ab, aj, h⟩ := bind_some h
  refine dC (c := ⟨some 52, .bool ab, [(50, .sl false 1 (mI j.Next)), (51, .int .i64 x4), (37, .bool m)], [], []⟩) (fun t hm => oN rfl rfl rfl hm.s2 q (Vt rfl (dk rfl) fu112 rfl rfl (Zm.cons hm.s0 (Zm.cons hm.s1 Zm.nil)) (Zh.nil (Cs K (flx0 := false) aj)) ⟨u0, rfl⟩)) (fun _ => rfl) (fun _ => rfl) (gY rfl (fun _ => .f rfl) q (fun _ => rfl) (gF [0,0,0,0,8,0,56,120,255,511,1023,2047,4095,8191,16383,1023,33791,1023,230399,492543,1048575,2097151,4194303,1023,16777215,33554431] Qx rfl (by kernel_rfl) (fun _ => by kernel_rfl) (fun b u hu => (tN (Ql hu ?_)))))
  rcases Qg h with ⟨ad, h⟩ | ⟨ad, h⟩
  refine Qp rfl ad (sR (Qr (aw rfl (nL (tN (T.ret (Qy (Qs (Qs (Qy (Qs (Q7 (.cons _ _ _ _ (.tmp 10 _ rfl) .nil) (.cons 0 rfl (.cons 0 rfl (.cons 0 rfl (.cons 0 rfl (.nil _))))) (by cases h; exact ⟨gl [(b 8).1 0, (b 8).1 1, (b 8).1 2], rfl, rfl⟩)))))))))))))
  refine Qo rfl ad (T.skip (Qk (tN (Qr (mw rfl (oI rfl (aw rfl (nL (tN ?_)))))))))
  refine Qf ?_ (ih x3 x4 (wI (s + (1:Int))) x0 x2 ((b 8).1 0) ((b 8).1 1) ((b 8).1 2) p h)
  exact tq rfl rfl
  cases h
  refine Qo rfl ac (T.exit (Qj (Qj (Qq (tN (sR (Qr (aw rfl (nL (tN (T.ret (Q7 (.cons _ _ _ _ (.tmp 10 _ rfl) .nil) (.cons 0 rfl (.cons 0 rfl (.cons 0 rfl (.cons 0 rfl (.nil _))))) (by cases h; exact ⟨gl [y, aa, w0_0aa], rfl, rfl⟩)))))))))))))
theorem Oh (K : Nat) {x0 : Qm} {x1 : Int} {x2 : Qa} {x3 x4 : Int} {bx0 : Nat} {wx0c1 wx0c2c1 wx0c2c2 : Value} {r : Bool} (h : Hc K x0 x1 x2 x3 x4 = some r) : U3 tp 82 [.ptr bx0 0, .int .i64 x1, .agg [.sl false 1 (mI x2.L), .sl false 1 (mI x2.R), .sl false 1 (mI x2.Rule), .sl false 1 (x2.Next.map (cL 2 Qh))], .int .i64 x3, .int .i64 x4] [(U2 bx0 x0.g.First x0.g.P wx0c1 x0.a.Split.Of x0.a.Split.Many wx0c2c1 wx0c2c2 x0.e), .arrA wx0c1 3 1 (mI x0.number), .arrA wx0c2c1 59 2 (mA x0.a.Counts), .arrX wx0c2c2 51 4 0 (x0.a.States.map Qb)] (fun γ => (.bool r)) (fun γ => [(U2 bx0 x0.g.First x0.g.P (γ 0) x0.a.Split.Of x0.a.Split.Many (γ 1) (γ 2) x0.e), .arrA (γ 0) 3 1 (mI x0.number), .arrA (γ 1) 59 2 (mA x0.a.Counts), .arrX (γ 2) 51 4 0 (x0.a.States.map Qb)]) := by
 refine CI 54 fu82 rfl ?_
 unfold Hc at h
 refine sR (Qr (sp rfl (Q8 rfl (dk rfl) rfl (fun f => (aw rfl (nL (tN (T.seq (sR (Qr (mw rfl ?_)))))))))))
 refine oI rfl (nL (tN ?_))
 rcases Qg h with ⟨b, h⟩ | ⟨b, h⟩
 refine Qp rfl b (sR (Qr (mw rfl (oK rfl (oP Qjd i43 rfl (oP Qk9 i38 rfl (oL 1 Zi rfl ?_)))))))
 refine mw rfl ?_
 obtain ⟨l, j, h⟩ := bind_some h
 refine oH fu112 (Zh.nil (Cs K (flx0 := false) j)) rfl (aw rfl (nL (tN (T.ret (Qs (Q7 (.cons _ _ _ _ (.tmp 10 _ rfl) .nil) (.cons 1 rfl (.cons 1 rfl (.cons 1 rfl (.cons 1 rfl (.nil _))))) (by cases h; exact ⟨gl [wx0c1, wx0c2c1, wx0c2c2], rfl, rfl⟩)))))))
 refine Qo rfl b (T.skip (tN (T.seq (sR (Qr (aw rfl (nL (tN (T.block ?_)))))))))
 refine T.loop ?_
 refine Qf ?_ (Fp K bx0 x0 K x3 x4 (0:Int) x0 x2 wx0c1 wx0c2c1 wx0c2c2 f h)
 exact tr rfl (.c (.s .z) (.c (.s .z) (.c (.s .z) (.c (.s .z) (.c .z (.n _))))))
abbrev Qli (bx0 : Nat) (x0 : Qm) (r : Bool) : ES := Jm tp ff83 (fun y t => ∃ γ : Nat → Value, y = (.bool r) ∧ t = [(U2 bx0 x0.g.First x0.g.P (γ 0) x0.a.Split.Of x0.a.Split.Many (γ 1) (γ 2) x0.e), .arrA (γ 0) 3 1 (mI x0.number), .arrA (γ 1) 59 2 (mA x0.a.Counts), .arrX (γ 2) 51 4 0 (x0.a.States.map Qb)])
theorem Pp (K : Nat) {x0 : Qm} {x1 : Qa} {x2 x3 : Int} {bx0 : Nat} {wx0c1 wx0c2c1 wx0c2c2 : Value} {r : Bool} (h : H2 K x0 x1 x2 x3 = some r) : U3 tp 83 [.ptr bx0 0, .agg [.sl false 1 (mI x1.L), .sl false 1 (mI x1.R), .sl false 1 (mI x1.Rule), .sl false 1 (x1.Next.map (cL 2 Qh))], .int .i64 x2, .int .i64 x3] [(U2 bx0 x0.g.First x0.g.P wx0c1 x0.a.Split.Of x0.a.Split.Many wx0c2c1 wx0c2c2 x0.e), .arrA wx0c1 3 1 (mI x0.number), .arrA wx0c2c1 59 2 (mA x0.a.Counts), .arrX wx0c2c2 51 4 0 (x0.a.States.map Qb)] (fun γ => (.bool r)) (fun γ => [(U2 bx0 x0.g.First x0.g.P (γ 0) x0.a.Split.Of x0.a.Split.Many (γ 1) (γ 2) x0.e), .arrA (γ 0) 3 1 (mI x0.number), .arrA (γ 1) 59 2 (mA x0.a.Counts), .arrX (γ 2) 51 4 0 (x0.a.States.map Qb)]) := by
 refine CI 27 fu83 rfl ?_
 unfold H2 at h
 refine sR (Qr (sp rfl (Q8 rfl (dk rfl) rfl (fun q => (aw rfl (nL (tN (sR (Qr (mw rfl (oA 0 [.sl false 1 (mI x1.L), .sl false 1 (mI x1.R), .sl false 1 (mI x1.Rule), .sl false 1 (x1.Next.map (cL 2 Qh))] V1 i51 rfl (mw rfl ?_))))))))))))
 refine mw rfl ?_
 obtain ⟨s, m, h⟩ := bind_some h
 refine sp rfl (Q9 (is := [1, 2, 3, 4]) (ph := []) rfl (dk rfl) fu113 rfl rfl (Zm.cons rfl (Zm.cons rfl (Zm.cons rfl (Zm.cons rfl Zm.nil)))) (Mr K (bx0 := bx0) (wx0c1 := wx0c1) (wx0c2c1 := wx0c2c1) (wx0c2c2 := wx0c2c2) m) (.cons rfl rfl (.cons rfl rfl (.cons rfl rfl (.cons rfl rfl (.nil))))) (fun _ => rfl) (fun f => (nm (.c (.c (.c (.c (.c (.n)))))) (aw rfl (nL (tN (sR (Qr (oP V1 i38 rfl (oL 0 Zi rfl (mw rfl ?_)))))))))))
 obtain ⟨u, p, h⟩ := bind_some h
 refine oH fu112 (Zh.nil (Cs K (flx0 := false) p)) rfl (mw rfl ?_)
 rcases Qg h with ⟨b, h⟩ | ⟨b, h⟩
 refine sn rfl b (OpT.move rfl (dk rfl) rfl (sn rfl b (Zs rfl rfl (dk rfl) rfl rfl (sn rfl b (OpT.move rfl (dk rfl) rfl ?_)))))
 rcases Qg h with ⟨j, h⟩ | ⟨j, h⟩
 cases h
 refine sn rfl j (OpT.move rfl (dk rfl) rfl (sn rfl j (Zs rfl rfl (dk rfl) rfl rfl (sn rfl b (Qfh rfl (dk rfl) rfl j rfl (oY b rfl (aw rfl (nL (tN (T.ret ?_))))))))))
 exact Q7 (.cons _ _ _ _ (.tmp 8 _ rfl) .nil) (.cons 1 rfl (.cons 1 rfl (.cons 1 rfl (.cons 1 rfl (.nil _))))) (by cases h; exact ⟨gl [f 0, f 1, f 2], rfl, rfl⟩)
 refine pf rfl b (pf rfl b (pf rfl b (Qgb (.gone _ _ _ rfl rfl rfl) (dk rfl) (Qgb (.gone _ _ _ rfl rfl rfl) (dk rfl) (pf rfl b (oZ b rfl ?_))))))
 refine aw rfl (nL (tN (T.ret (Q7 (.cons _ _ _ _ (.tmp 8 _ rfl) .nil) (.cons 1 rfl (.cons 1 rfl (.cons 1 rfl (.cons 1 rfl (.nil _))))) (by cases h; exact ⟨gl [f 0, f 1, f 2], rfl, rfl⟩)))))
abbrev Bq (bx0 : Nat) (r : Int × Qm) : ES := Jm tp ff84 (fun y t => ∃ γ : Nat → Value, y = (.int .i64 r.1) ∧ t = [(U2 bx0 r.2.g.First r.2.g.P (γ 0) r.2.a.Split.Of r.2.a.Split.Many (γ 1) (γ 2) r.2.e), .arrA (γ 0) 3 1 (mI r.2.number), .arrA (γ 1) 59 2 (mA r.2.a.Counts), .arrX (γ 2) 51 4 0 (r.2.a.States.map Qb)])
abbrev Ng (bx0 : Nat) (r : Int × Qm) : ES := fT 122 [1,1] ff84 (Bq bx0 r)
abbrev Gy (bx0 : Nat) (r : Int × Qm) : ES := Qv 0 ((Ng bx0 r))
abbrev Fo (bx0 : Nat) (r : Int × Qm) : ES := fL 122 [1,0,1,0,0] ff84 (Gy bx0 r)
abbrev Dq (bx0 : Nat) (r : Int × Qm) : ES := fT 122 [1,0,1,0,0,1,1] ff84 (Fo bx0 r)
abbrev M7 (bx0 : Nat) (r : Int × Qm) : ES := Qv 1 ((Dq bx0 r))
abbrev Mf (bx0 : Nat) (r : Int × Qm) : ES := fT 122 [1,0,1,0,0,1,0,0,1,1,0,1,1] ff84 (M7 bx0 r)
abbrev H7 (bx0 : Nat) (r : Int × Qm) : ES := Qv 2 ((Mf bx0 r))
abbrev Fm (bx0 : Nat) (r : Int × Qm) : ES := fT 122 [1,1,1,1] ff84 (Bq bx0 r)
abbrev D5 (bx0 : Nat) (r : Int × Qm) : ES := Qv 4 ((Fm bx0 r))
abbrev Kn (bx0 : Nat) (r : Int × Qm) (go : (List Int) → Int → Qm → Option (Int × Qm)) : Prop := ∀ (x1 : List Int) (b : Int) (x0 : Qm) (flx1 : Bool) (c f w0_0aa : Value), go x1 b x0 = some r → TL tp 122 (ca [1,0,1,0,0] ff84) ⟨[(0, .ptr bx0 0), (1, .sl flx1 1 (mI x1)), (5, .int .i64 b)], [(U2 bx0 x0.g.First x0.g.P c x0.a.Split.Of x0.a.Split.Many f w0_0aa x0.e), .arrA c 3 1 (mI x0.number), .arrA f 59 2 (mA x0.a.Counts), .arrX w0_0aa 51 4 0 (x0.a.States.map Qb)]⟩ (Gy bx0 r)
theorem Ni {r : Int × Qm} (K bx0 : Nat) (go0 : (List Int) → Int → Qm → Option (Int × Qm)) (hgo0 : Kn bx0 r go0) : ∀ (k : Nat), ∀ (x1 : List Int) (w : Int) (m : List Int) (j : Bool) (l : Int) (x0 : Qm) (flx1 : Bool) (q s w0_1aa : Value), Ul K go0 k x1 w m j l x0 = some r → TL tp 122 (ca [1,0,1,0,0,1,0,0,1,1,0,1,0,1,0,0] ff84) ⟨[(0, .ptr bx0 0), (1, .sl flx1 1 (mI x1)), (5, .int .i64 w), (6, .sl false 1 (mI m)), (7, .bool j), (8, .int .i64 l)], [(U2 bx0 x0.g.First x0.g.P q x0.a.Split.Of x0.a.Split.Many s w0_1aa x0.e), .arrA q 3 1 (mI x0.number), .arrA s 59 2 (mA x0.a.Counts), .arrX w0_1aa 51 4 0 (x0.a.States.map Qb)]⟩ (H7 bx0 r) := by
 intro k
 induction k with
 | zero =>
  intro x1 w m j l x0 flx1 q s w0_1aa h
  exact zn h
 | succ k ih =>
  intro x1 w m j l x0 flx1 q s w0_1aa h
  rw [Ul] at h
  refine Q0 (T.seq (sR (Qr (mw rfl (mw rfl (oU x1 (cI .i64) Zi rfl (oI rfl ?_)))))))
  refine nL (tN ?_)
  rcases Qg h with ⟨y, h⟩ | ⟨y, h⟩
  refine Qp rfl y (T.skip (tN (T.seq (T.block (Zy (dV rfl rfl (dV rfl rfl ?_)))))))
  rcases Qg h with ⟨p, h⟩ | ⟨p, h⟩
  refine dM rfl (.n p rfl) rfl (dM rfl (.n p rfl) rfl ?_)
  obtain ⟨b, ab, h⟩ := bind_some h
  refine dX m (cI .i64) rfl (.n p rfl) Zi i3 ab rfl (dR rfl (.n p rfl) ul3 rfl (dM rfl (.n p rfl) rfl (dM rfl (.n p rfl) rfl ?_)))
  obtain ⟨i, ac, h⟩ := bind_some h
  refine dX x1 (cI .i64) rfl (.n p rfl) Zi i3 ac rfl (dR rfl (.n p rfl) ul3 rfl (dI rfl (.n p rfl) rfl (dY rfl (.f rfl) p rfl (dA rfl (.f rfl) rfl (dF [0,1,3,3,15,31,3,3,195,451,1023,2047,4095] Qx rfl (by kernel_rfl) (fun u hu => (Qk (tN (Ql hu (Qr ?_))))))))))
  refine mw rfl (oI rfl (aw rfl (nL (tN ?_))))
  refine Qf ?_ (ih x1 w m (b == i) (wI (l + (1:Int))) x0 flx1 q s w0_1aa h)
  exact tq rfl rfl
  cases h
  refine Qo rfl y (T.exit (Qj (Qj (Qq (tN (sR (Qr (mw rfl (nL (tN ?_))))))))))
  rcases Qg h with ⟨aa, h⟩ | ⟨aa, h⟩
  cases h
  refine Qo rfl aa (T.skip (Qk (tN (Qr (mw rfl (oI rfl (aw rfl (nL (tN ?_)))))))))
  refine Qf ?_ (hgo0 x1 (wI (w + (1:Int))) x0 flx1 q s w0_1aa h)
  exact tq rfl rfl
theorem Nh {r : Int × Qm} (K bx0 : Nat) : ∀ (k : Nat), ∀ (x1 : List Int) (m : Int) (x0 : Qm) (flx1 : Bool) (b j w0_2aa : Value), Uk K k x1 m x0 = some r → TL tp 122 (ca [1,1,1,0,1,0,0] ff84) ⟨[(0, .ptr bx0 0), (1, .sl flx1 1 (mI x1)), (9, .c (.ex (.slice none 0 0))), (10, .int .i64 m)], [(U2 bx0 x0.g.First x0.g.P b x0.a.Split.Of x0.a.Split.Many j w0_2aa x0.e), .arrA b 3 1 (mI x0.number), .arrA j 59 2 (mA x0.a.Counts), .arrX w0_2aa 51 4 0 (x0.a.States.map Qb)]⟩ (D5 bx0 r) := by
 intro k
 induction k with
 | zero =>
  intro x1 m x0 flx1 b j w0_2aa h
  exact zn h
 | succ k ih =>
  intro x1 m x0 flx1 b j w0_2aa h
  rw [Uk] at h
  refine Q0 (T.seq (sR (Qr (mw rfl (mw rfl (oU x1 (cI .i64) Zi rfl (oI rfl ?_)))))))
  refine nL (tN ?_)
  rcases Qg h with ⟨s, h⟩ | ⟨s, h⟩
  refine Qp rfl s (T.skip (tN (T.seq (T.block (T.seq (Zy (dV rfl rfl ?_)))))))
  refine dK rfl (.f rfl) rfl (dP rfl (.f rfl) Qjd i38 rfl (dS (c := ⟨some 64, .sl false 1 (mI x0.number), [(63, .ptr bx0 (0 + 2))], [(0, (U2 bx0 x0.g.First x0.g.P b x0.a.Split.Of x0.a.Split.Many j w0_2aa x0.e)), (1, .arrA b 3 1 (mI x0.number))], []⟩) (fun t hm => oF rfl rfl (Zj (Zx (i := 0) rfl (dk rfl) Zi rfl hm.s0 hm.o0 rfl rfl) (Ks 64 1 hm.o1) rfl)) rfl rfl (dV rfl rfl (dV rfl rfl ?_))))
  obtain ⟨q, ab, h⟩ := bind_some h
  refine dX x1 (cI .i64) rfl (.f rfl) Zi i3 ab rfl (dR rfl (.f rfl) ul3 rfl ?_)
  obtain ⟨p, ac, h⟩ := bind_some h
  refine dX x0.number (cI .i64) rfl (.f rfl) Zi i3 ac rfl (dR rfl (.f rfl) ul3 rfl (dI rfl (.f rfl) rfl (dF [0,1,3,7,0,0,48,112,255,511,1023] Qx rfl (by kernel_rfl) (fun u hu => (tN (Ql hu ?_))))))
  rcases Qg h with ⟨w, h⟩ | ⟨w, h⟩
  cases h
  refine Qo rfl w (T.skip (Qk (tN (Qr (mw rfl (oI rfl (aw rfl (nL (tN ?_)))))))))
  refine Qf ?_ (ih x1 (wI (m + (1:Int))) x0 flx1 b j w0_2aa h)
  exact tq rfl rfl
  refine Qo rfl s (T.exit (Qj (Qj (Qq (tN (T.seq (sR (Qr (mw rfl (sp rfl (Ql6 rfl (dk rfl) Zi rfl (oI rfl ?_))))))))))))
  refine nL (tN (Qo rfl rfl (T.skip (tN (T.seq (sR (Qr (mw rfl (oK rfl ?_)))))))))
  refine oP Qjd i28 rfl (oP Xz i26 rfl (oL 0 Vj rfl (sp rfl (Vz (i := 3) (xs := x0.a.States) (f := Qb) rfl (dk rfl) Vj rfl rfl (oI rfl (nL (tN ?_)))))))
  rcases Qg h with ⟨y, h⟩ | ⟨y, h⟩
  cases h
  refine Qo rfl y (T.skip (tN (sR (Qr (mw rfl (mw rfl (oK rfl (oP Qjd i28 rfl ?_))))))))
  refine oP Xz i26 rfl (oL 0 Vj rfl (mw rfl (mw rfl (sp rfl (Zj (OpT.build (l := [.sl flx1 1 (mI x1), .ex (.slice none 0 0), .ex (.slice none 0 0), .ex (.slice none 0 0)]) rfl (dk rfl) (Zk (pl := [(0, 1), (1, 1), (2, 1), (3, 1)]) V1 i51 rfl) (Hs rfl) rfl rfl rfl) (Zt 109 (l := [.sl flx1 1 (mI x1), .ex (.slice none 0 0), .ex (.slice none 0 0), .ex (.slice none 0 0)]) (l' := [.sl false 1 (mI x1), .sl false 1 (([] : List Int).map (cI .i64)), .sl false 1 (([] : List Int).map (cI .i64)), .sl false 1 (([] : List (List Qd)).map (cL 2 Qh))]) (.cons (.full _ _ _) (.cons (.nil _ _) (.cons (.nil _ _) (.cons (.nil _ _) (.refl _)))))) (sp rfl (OpT.buildSlice (elems := ([(Qa.mk x1 [] [] [])] : List Qa).map Qb) rfl (dk rfl) Vj i51 (by decide) rfl (Hs rfl) rfl rfl rfl (Xh rfl) (by decide) ?_)))))))
  obtain ⟨ad, h⟩ := Q6 h
  refine sp rfl (Hv (i := 3) (xs := x0.a.States) (ys := [(Qa.mk x1 [] [] [])]) (f := Qb) rfl (dk rfl) Vj i51 rfl rfl rfl rfl ad (fun aa => (oK rfl (oP Qjd i28 rfl (oP Xz i26 rfl (sp rfl (Wf (i := 0) (cells' := (([.d (.sl false 1 (mI x0.g.First)), .d (.sl false 9 (x0.g.P.map Q1)), .d (.ex b)]:List OC) ++ ((Q5.oc 256 .u8 x0.a.Split.Of) ++ (([.d (.int .i64 x0.a.Split.Many), .d (.ex j), .d (.ex aa), .d (.int .i64 x0.e)]:List OC))))) rfl rfl i26 rfl rfl rfl (nb rfl) rfl (nL (tN (sR (Qr (mw rfl ?_))))))))))))
  refine oK rfl (oP Qjd i28 rfl (oP Xz i26 rfl (oL 0 Vj rfl (sp rfl (Vz (i := 3) (xs := (x0.a.States ++ [(Qa.mk x1 [] [] [])])) (f := Qb) rfl (dk rfl) Vj rfl rfl (oI rfl (aw rfl ?_)))))))
  refine nL (tN (T.ret (Q7 (.cons _ _ _ _ (.tmp 4 _ rfl) .nil) (.cons 0 rfl (.cons 0 rfl (.cons 0 rfl (.cons 0 rfl (.nil _))))) (by cases h; exact ⟨gl [b, j, aa], rfl, rfl⟩))))
theorem Nj {r : Int × Qm} (K bx0 : Nat) : ∀ (k : Nat), Kn bx0 r (X8 K k) := by
 intro k
 induction k with
 | zero =>
  intro x1 l x0 flx1 d g w0_0aa h
  exact zn h
 | succ k ih =>
  intro x1 l x0 flx1 d g w0_0aa h
  rw [X8] at h
  refine Q0 (T.seq (sR (Qr (mw rfl (mw rfl (oK rfl (oP Qjd i28 rfl ?_)))))))
  refine oP Xz i26 rfl (oL 0 Vj rfl (sp rfl (Vz (i := 3) (xs := x0.a.States) (f := Qb) rfl (dk rfl) Vj rfl rfl (oI rfl (nL (tN ?_))))))
  rcases Qg h with ⟨j, h⟩ | ⟨j, h⟩
  refine Qp rfl j (T.skip (tN (T.seq (T.block (sR (Qr (mw rfl (oK rfl ?_))))))))
  refine oP Qjd i28 rfl (oP Xz i26 rfl (oL 0 Vj rfl (mw rfl ?_)))
  obtain ⟨b, m, h⟩ := bind_some h
  refine sp rfl (Zc (n := 3) (xs := x0.a.States) (f := Qb) (old := b) rfl (dk rfl) Vj i51 rfl rfl rfl m (sp rfl (Da rfl (dk rfl) V1 rfl i38 (by decide) rfl (sp rfl (X1 (i := 3) (xs := x0.a.States) (f := Qb) (old := b) rfl (dk rfl) Zi rfl rfl rfl (Zd m).2 rfl (aw rfl (nL (tN (sR (Qr (mw rfl (oU b.L (cI .i64) Zi rfl ?_))))))))))))
  refine mw rfl (oU x1 (cI .i64) Zi rfl (oI rfl (nL (tN ?_))))
  rcases Qg h with ⟨p, h⟩ | ⟨p, h⟩
  refine Qp rfl p (sR (Qr (aw rfl (nL (tN (T.seq (sR (Qr (aw rfl ?_)))))))))
  refine nL (tN (T.block (T.loop ?_)))
  refine Qf ?_ (Ni K bx0 (X8 K k) ih K x1 l b.L true (0:Int) x0 flx1 d g w0_0aa h)
  exact tq rfl rfl
  cases h
  refine Qo rfl j (T.exit (Qj (Qj (Qq (tN (sR (Qr (aw rfl (nL (tN (T.seq (sR (Qr ?_)))))))))))))
  refine aw rfl (nL (tN (T.block (T.loop ?_))))
  refine Qf ?_ (Nh K bx0 K x1 (0:Int) x0 flx1 d g w0_0aa h)
  exact tq rfl rfl
theorem R0 (K : Nat) {x0 : Qm} {x1 : List Int} {bx0 : Nat} {wx0c1 wx0c2c1 wx0c2c2 : Value} {flx1 : Bool} {r : Int × Qm} (h : Gz K x0 x1 = some r) : U3 tp 84 [.ptr bx0 0, .sl flx1 1 (mI x1)] [(U2 bx0 x0.g.First x0.g.P wx0c1 x0.a.Split.Of x0.a.Split.Many wx0c2c1 wx0c2c2 x0.e), .arrA wx0c1 3 1 (mI x0.number), .arrA wx0c2c1 59 2 (mA x0.a.Counts), .arrX wx0c2c2 51 4 0 (x0.a.States.map Qb)] (fun γ => (.int .i64 r.1)) (fun γ => [(U2 bx0 r.2.g.First r.2.g.P (γ 0) r.2.a.Split.Of r.2.a.Split.Many (γ 1) (γ 2) r.2.e), .arrA (γ 0) 3 1 (mI r.2.number), .arrA (γ 1) 59 2 (mA r.2.a.Counts), .arrX (γ 2) 51 4 0 (r.2.a.States.map Qb)]) := by
 refine CI 122 fu84 rfl ?_
 unfold Gz at h
 refine sR (Qr (aw rfl (nL (tN (T.seq (sR (Qr (aw rfl (nL (tN ?_))))))))))
 refine T.block (T.loop ?_)
 refine Qf ?_ (Nj K bx0 K x1 (1:Int) x0 flx1 wx0c1 wx0c2c1 wx0c2c2 h)
 exact tq rfl rfl
abbrev Ry (bx0 : Nat) (r : Qd × Qm) : ES := Jm tp ff48 (fun y t => ∃ γ : Nat → Value, y = (.agg [.int .i64 r.1.To, .sl false 1 (mU r.1.Ops)]) ∧ t = [(U2 bx0 r.2.g.First r.2.g.P (γ 0) r.2.a.Split.Of r.2.a.Split.Many (γ 1) (γ 2) r.2.e), .arrA (γ 0) 3 1 (mI r.2.number), .arrA (γ 1) 59 2 (mA r.2.a.Counts), .arrX (γ 2) 51 4 0 (r.2.a.States.map Qb)])
abbrev D4 (bx0 : Nat) (r : Qd × Qm) : ES := fT 109 [1,1,1,1,1,1] ff48 (Ry bx0 r)
abbrev C0 (bx0 : Nat) (r : Qd × Qm) : ES := Qv 0 ((D4 bx0 r))
theorem Nf {r : Qd × Qm} (K bx0 : Nat) : ∀ (k : Nat), ∀ (x1 x2 : Int) (y b : Int) (x0 : Qm) (j m p : List Int) (q : List (List Qd)) (s : List Int) (u w w0_0aa : Value) (aa ab : Nat) (ad : Value), Xb K k x1 x2 y b x0 j m p q s = some r → TL tp 109 (ca [1,1,1,1,1,0,1,0,0] ff48) ⟨[(0, .ptr bx0 0), (1, .int .i64 x1), (2, .int .i64 x2), (8, .ptr aa 0), (9, .ptr ab 0), (10, .int .u8 y), (11, .c (.ex ad)), (12, .c (.ex (.slice none 0 0))), (13, .int .i64 b)], [(U2 bx0 x0.g.First x0.g.P u x0.a.Split.Of x0.a.Split.Many w w0_0aa x0.e), .arrA u 3 1 (mI x0.number), .arrA w 59 2 (mA x0.a.Counts), .arrX w0_0aa 51 4 0 (x0.a.States.map Qb), .box aa 54 [.d (.int .i64 (0:Int)), .d (.ex (.slice none 0 0))], (W0 ab j m p q), .arrA ad 3 1 (mI s)]⟩ (C0 bx0 r) := by
 intro k
 induction k with
 | zero =>
  intro x1 x2 y b x0 j m p q s u w w0_0aa aa ab ad h
  exact zn h
 | succ k ih =>
  intro x1 x2 y b x0 j m p q s u w w0_0aa aa ab ad h
  rw [Xb] at h
  refine Q0 (T.seq (sR (Qr (mw rfl (mw rfl (oK rfl (oP Qjd i43 rfl ?_)))))))
  refine oP Qk9 i41 rfl (oL 0 Qcg rfl (oU x0.g.P Q1 Qcg rfl (oI rfl (nL (tN ?_)))))
  rcases Qg h with ⟨ai, h⟩ | ⟨ai, h⟩
  refine Qp rfl ai (T.skip (tN (T.seq (T.block (T.seq (sR (Qr (mw rfl ?_))))))))
  refine oK rfl (oP Qjd i43 rfl (oP Qk9 i41 rfl (oL 0 Qcg rfl (mw rfl ?_))))
  obtain ⟨au, av, h⟩ := bind_some h
  refine oX x0.g.P Q1 Qcg i65 av rfl (sp rfl (Ug rfl (dk rfl) ul65 rfl i63 (by decide) rfl (oJ Qk8 i63 rfl (mw rfl ?_))))
  obtain ⟨a6, ay, h⟩ := bind_some h
  refine oH fu81 (Zh.nil (G8 K ay)) rfl (oT rfl (nL (tN ?_)))
  rcases Qg h with ⟨aj, h⟩ | ⟨aj, h⟩
  refine Qp rfl aj (T.exit (Qj (Qq (tN (Qr (mw rfl (oI rfl (aw rfl (nL (tN ?_))))))))))
  refine Qf ?_ (ih x1 x2 y (wI (b + (1:Int))) x0 j m p q s u w w0_0aa aa ab ad h)
  exact tq rfl rfl
  refine Qo rfl aj (T.skip (tN (sR (Qr (mw rfl (mw rfl (oA 5 [.sl false 1 (mI j), .sl false 1 (mI m), .sl false 1 (mI p), .sl false 1 (q.map (cL 2 Qh))] V1 i51 rfl (mw rfl ?_))))))))
  refine mw rfl ?_
  obtain ⟨a7, az, h⟩ := bind_some h
  refine sp rfl (Q9 (is := [0, 1, 2, 3]) (ph := []) rfl (dk rfl) fu82 rfl rfl (Zm.cons rfl (Zm.cons rfl (Zm.cons rfl (Zm.cons rfl (Zm.cons rfl Zm.nil))))) (Oh K (bx0 := bx0) (wx0c1 := u) (wx0c2c1 := w) (wx0c2c2 := w0_0aa) az) (.cons rfl rfl (.cons rfl rfl (.cons rfl rfl (.cons rfl rfl (.nil))))) (fun _ => rfl) (fun al => (nm (.c (.c (.c (.c (.c (.c (.c (.n)))))))) (aw rfl (nL (tN (sR (Qr (mw rfl (oA 5 [.sl false 1 (mI j), .sl false 1 (mI m), .sl false 1 (mI p), .sl false 1 (q.map (cL 2 Qh))] V1 i51 rfl (mw rfl ?_)))))))))))
  refine mw rfl ?_
  obtain ⟨a8, a0, h⟩ := bind_some h
  refine sp rfl (Q9 (is := [0, 1, 2, 3]) (ph := []) rfl (dk rfl) fu83 rfl rfl (Zm.cons rfl (Zm.cons rfl (Zm.cons rfl (Zm.cons rfl Zm.nil)))) (Pp K (bx0 := bx0) (wx0c1 := (al 0)) (wx0c2c1 := (al 1)) (wx0c2c2 := (al 2)) a0) (.cons rfl rfl (.cons rfl rfl (.cons rfl rfl (.cons rfl rfl (.nil))))) (fun _ => rfl) (fun af => (nm (.c (.c (.c (.c (.c (.c (.c (.n)))))))) (aw rfl (nL (tN (T.seq (sR (Qr (mw rfl ?_))))))))))
  refine oT rfl (mw rfl ?_)
  rcases Qg h with ⟨ac, h⟩ | ⟨ac, h⟩
  refine sn rfl ac (OpT.move rfl (dk rfl) rfl (sn rfl ac (OpT.not rfl (dk rfl) rfl (oY ac rfl (nL (tN ?_))))))
  rcases Qg h with ⟨ap, h⟩ | ⟨ap, h⟩
  refine Qp rfl ap (T.exit (Qj (Qq (tN (Qr (mw rfl (oI rfl (aw rfl (nL (tN ?_))))))))))
  refine Qf ?_ (ih x1 x2 y (wI (b + (1:Int))) x0 j m p q s (af 0) (af 1) (af 2) aa ab ad h)
  exact tq rfl rfl
  cases h
  refine pf rfl ac (pf rfl ac (oZ ac rfl (nL (tN (Qo rfl rfl (T.skip (tN (sR (Qr ?_)))))))))
  refine mw rfl (mw rfl (sp rfl (OpT.buildSlice (elems := ([b] : List Int).map (cI .i64)) rfl (dk rfl) Zi i3 (by decide) rfl (Hs rfl) rfl rfl rfl (Xh rfl) (by decide) ?_)))
  obtain ⟨a1, h⟩ := Q6 h
  refine sp rfl (Zp (i := 6) (xs := s) (ys := [b]) (f := (cI .i64)) rfl (dk rfl) Zi i3 rfl rfl rfl rfl a1 (fun a2 => (aw rfl (nL (tN (T.seq (sR (Qr (mw rfl (oK rfl ?_))))))))))
  refine oP Qjd i38 rfl (sp rfl (Zj (Zx (i := 0) rfl (dk rfl) Zi rfl rfl rfl rfl rfl) (Ks 79 1 rfl) (mw rfl ?_)))
  obtain ⟨a3, a4, h⟩ := bind_some h
  refine oX x0.number (cI .i64) Zi i3 a4 rfl (oR ul3 rfl (oI rfl (nL (tN ?_))))
  rcases Qg h with ⟨aq, h⟩ | ⟨aq, h⟩
  refine Qp rfl aq (T.exit (Qj (Qq (tN (Qr (mw rfl (oI rfl (aw rfl (nL (tN ?_))))))))))
  refine Qf ?_ (ih x1 x2 y (wI (b + (1:Int))) x0 j m p q (s ++ [b]) (af 0) (af 1) (af 2) aa ab a2 h)
  exact tq rfl rfl
  cases h
  refine Qo rfl ai (T.exit (Qj (Qj (Qq (tN (T.seq (sR (Qr (mw rfl (sp rfl (Lf (i := 6) (xs := s) (f := (cI .i64)) rfl (dk rfl) Zi rfl rfl (oI rfl ?_))))))))))))
  refine nL (tN ?_)
  rcases Qg h with ⟨am, h⟩ | ⟨am, h⟩
  refine Qp rfl am (sR (Qr (sp rfl (Zj (OpT.build (l := [.int .i64 (-1:Int), .ex (.slice none 0 0)]) rfl (dk rfl) (Zk (pl := [(0, 1), (1, 1)]) Lj i54 rfl) (Hs rfl) rfl rfl rfl) (Zt 103 (l := [.int .i64 (-1:Int), .ex (.slice none 0 0)]) (l' := [.int .i64 (-1:Int), .sl false 1 (([] : List Int).map (cI .u8))]) (.cons (.same _) (.cons (.nil _ _) (.refl _)))) (sp rfl (Qt (i := 4) (cells' := [.d (.int .i64 (-1:Int)), .d (.sl false 1 (([] : List Int).map (cI .u8)))]) rfl rfl i54 rfl rfl rfl rfl (nb rfl) rfl (nL (tN (T.ret (Qs (Q7 (.cons _ _ _ _ (.cellAgg 8 54 _ 0 4 54 _ [.int .i64 (-1:Int), .sl false 1 (([] : List Int).map (cI .u8))] _ _ 2 _ rfl rfl rfl rfl Lj rfl i54) .nil) (.cons 0 rfl (.cons 0 rfl (.cons 0 rfl (.cons 0 rfl (.nil _))))) (by cases h; exact ⟨gl [u, w, w0_0aa], rfl, rfl⟩))))))))))))
  refine Qo rfl am (T.skip (tN (sR (Qr (mw rfl (mw rfl ?_))))))
  obtain ⟨ag, a5, h⟩ := bind_some h
  refine sp rfl (Q9 (is := [0, 1, 2, 3]) (ph := []) rfl (dk rfl) fu84 rfl rfl (Zm.cons rfl (Zm.view (i := 6) rfl rfl Zm.nil)) (R0 K (bx0 := bx0) (wx0c1 := u) (wx0c2c1 := w) (wx0c2c2 := w0_0aa) (flx1 := false) a5) (.cons rfl rfl (.cons rfl rfl (.cons rfl rfl (.cons rfl rfl (.nil))))) (fun _ => rfl) (fun an => (nm (.c (.c (.c (.c (.c (.c (.c (.n)))))))) (mw rfl (sp rfl (Zj (OpT.build (l := [.int .i64 ag.1, .ex (.slice none 0 0)]) rfl (dk rfl) (Zk (pl := [(0, 1), (1, 1)]) Lj i54 rfl) (Hs rfl) rfl rfl rfl) (Zt 108 (l := [.int .i64 ag.1, .ex (.slice none 0 0)]) (l' := [.int .i64 ag.1, .sl false 1 (([] : List Int).map (cI .u8))]) (.cons (.same _) (.cons (.nil _ _) (.refl _)))) (sp rfl (Qt (i := 4) (cells' := [.d (.int .i64 ag.1), .d (.sl false 1 (([] : List Int).map (cI .u8)))]) rfl rfl i54 rfl rfl rfl rfl (nb rfl) rfl (nL (tN (T.ret ?_)))))))))))
  exact Q7 (.cons _ _ _ _ (.cellAgg 8 54 _ 0 4 54 _ [.int .i64 ag.1, .sl false 1 (([] : List Int).map (cI .u8))] _ _ 2 _ rfl rfl rfl rfl Lj rfl i54) .nil) (.cons 0 rfl (.cons 0 rfl (.cons 0 rfl (.cons 0 rfl (.nil _))))) (by cases h; exact ⟨gl [an 0, an 1, an 2], rfl, rfl⟩)
theorem Rz (K : Nat) {x0 : Qm} {x1 x2 x3 : Int} {bx0 : Nat} {wx0c1 wx0c2c1 wx0c2c2 : Value} {r : Qd × Qm} (h : Gx K x0 x1 x2 x3 = some r) : U3 tp 48 [.ptr bx0 0, .int .i64 x1, .int .i64 x2, .int .i64 x3] [(U2 bx0 x0.g.First x0.g.P wx0c1 x0.a.Split.Of x0.a.Split.Many wx0c2c1 wx0c2c2 x0.e), .arrA wx0c1 3 1 (mI x0.number), .arrA wx0c2c1 59 2 (mA x0.a.Counts), .arrX wx0c2c2 51 4 0 (x0.a.States.map Qb)] (fun γ => (.agg [.int .i64 r.1.To, .sl false 1 (mU r.1.Ops)])) (fun γ => [(U2 bx0 r.2.g.First r.2.g.P (γ 0) r.2.a.Split.Of r.2.a.Split.Many (γ 1) (γ 2) r.2.e), .arrA (γ 0) 3 1 (mI r.2.number), .arrA (γ 1) 59 2 (mA r.2.a.Counts), .arrX (γ 2) 51 4 0 (r.2.a.States.map Qb)]) := by
 refine CI 109 fu48 rfl ?_
 unfold Gx at h
 refine sR (Qr (sp rfl (Za rfl (dk rfl) i54 rfl (fun p => (nL (tN (sR (Qr (mw rfl (oK rfl (oP Qjd i28 rfl (oP Xz i26 rfl ?_))))))))))))
 refine oL 1 Vj rfl (mw rfl ?_)
 obtain ⟨b, j, h⟩ := bind_some h
 refine sp rfl (Zc (n := 4) (xs := x0.a.States) (f := Qb) (old := b) rfl (dk rfl) Vj i51 rfl rfl rfl j (sp rfl (Qjb (i := 4) (xs := x0.a.States) (f := Qb) (old := b) (l := [.sl false 1 (mI b.L), .sl false 1 (mI b.R), .sl false 1 (mI b.Rule), .sl false 1 (b.Next.map (cL 2 Qh))]) rfl (dk rfl) V1 rfl i51 rfl rfl (Zd j).2 rfl rfl (sp rfl (Za rfl (dk rfl) i51 rfl (fun q => (sp rfl (Qt (i := 0) (cells' := [.d (.sl false 1 (mI b.L)), .d (.sl false 1 (mI b.R)), .d (.sl false 1 (mI b.Rule)), .d (.sl false 1 (b.Next.map (cL 2 Qh)))]) rfl rfl i51 rfl rfl rfl rfl (nb rfl) rfl (nL (tN (sR (Qr (mw rfl (oK rfl ?_))))))))))))))
 refine oP Qjd i28 rfl (oP Xz i24 rfl (oA 2 ((Q5.dc 256 .u8 x0.a.Split.Of) ++ (([.int .i64 x0.a.Split.Many] : List DC))) Qj2 i24 rfl ?_))
 obtain ⟨u, w, h⟩ := bind_some h
 refine oH fu80 (Zh.nil (Qhv K w)) rfl (mw rfl ?_)
 obtain ⟨m, y, h⟩ := bind_some h
 refine oX u (cI .u8) B2 i5 y rfl (oR ul5 rfl (aw rfl (nL (tN (sR (Qr (aw rfl (nL (tN (sR (Qr (aw rfl ?_))))))))))))
 refine nL (tN (T.seq (sR (Qr (aw rfl (nL (tN (T.block (T.loop ?_)))))))))
 refine Qf (Xd 3 1) ?_
 refine Qf ?_ (Nf K bx0 K x1 x2 m (0:Int) x0 b.L b.R b.Rule b.Next [] wx0c1 wx0c2c1 wx0c2c2 p q (Qd7 2) h)
 exact tr rfl (.c (.s (.s (.s .z))) (.c (.s (.s (.s .z))) (.c (.s (.s (.s .z))) (.c (.s (.s (.s .z))) (.c (.s (.s .z)) (.c (.s .z) (.c .z (.n _))))))))
abbrev Qco (r : Qc × Int) : ES := Jm tp ff20 (fun y t => y = (.tup [.agg ((Q5.dc 256 .u8 r.1.Split.Of) ++ (([.int .i64 r.1.Split.Many, .sl false 2 (mA r.1.Counts), .sl false 4 (r.1.States.map Qb)] : List DC))), .int .i64 r.2]) ∧ t = [])
abbrev S5 (r : Qc × Int) : ES := fT 198 [1,1,1,1,1,1,1,1] ff20 (Qco r)
abbrev Ms (r : Qc × Int) : ES := Qv 2 ((S5 r))
abbrev Pt (r : Qc × Int) : ES := fL 198 [1,1,1,1,1,1,1,0,1,0,0] ff20 (Ms r)
abbrev It (r : Qc × Int) : ES := fT 198 [1,1,1,1,1,1,1,0,1,0,0,1,1] ff20 (Pt r)
abbrev Dt (r : Qc × Int) : ES := Qv 3 ((It r))
abbrev C3 (r : Qc × Int) : ES := fT 198 [1,1,1,1,1,1,1,0,1,0,0,1,0,0,1,1,1,1] ff20 (Dt r)
abbrev Jc (r : Qc × Int) : ES := Qv 4 ((C3 r))
abbrev Bz (r : Qc × Int) : ES := fL 198 [1,1,1,1,1,1,1,0,1,0,0,1,0,0,1,1,1,0,1,0,0] ff20 (Jc r)
abbrev Mg (r : Qc × Int) : ES := fT 198 [1,1,1,1,1,1,1,0,1,0,0,1,0,0,1,1,1,0,1,0,0,1,1] ff20 (Bz r)
abbrev Hn (r : Qc × Int) : ES := Qv 5 ((Mg r))
abbrev Lh (r : Qc × Int) : ES := fT 198 [1,1,1,1,1,1,1,0,1,0,0,1,0,0,1,1,1,0,1,0,0,1,0,0,1,1,1] ff20 (Hn r)
abbrev Wb (r : Qc × Int) : ES := Qv 6 ((Lh r))
abbrev Qdm (r : Qc × Int) : ES := fT 198 [1,1,1,1,1] ff20 (Qco r)
abbrev Qan (r : Qc × Int) : ES := Qv 0 ((Qdm r))
abbrev Pu (r : Qc × Int) (go : Int → Int → Int → Q5 → (List Int) → (List Zz) → Q5 → Int → Int → (List Int) → (List Ye) → (List Qa) → (List Int) → (List (List Qd)) → Option (Qc × Int)) : Prop := ∀ (a b f : Int) (g : Q5) (i : List Int) (j : List Zz) (l : Q5) (m n : Int) (p : List Int) (q : List Ye) (s : List Qa) (u : List Int) (v : List (List Qd)) (w y : Nat) (z aa : Value) (w4_2aa ab ac : Value), go a b f g i j l m n p q s u v = some r → TL tp 198 (ca [1,1,1,1,1,1,1,0,1,0,0,1,0,0,1,1,1,0,1,0,0] ff20) ⟨[(2, .ptr w 0), (4, .ptr y 0), (7, .int .i64 a), (8, .int .i64 b), (9, .c (.ex ab)), (10, .c (.ex ac)), (11, .int .i64 f)], [(Bt w g (0:Int) (.slice none 0 0) (.slice none 0 0)), (U2 y i j z l m aa w4_2aa n), .arrA z 3 1 (mI p), .arrA aa 59 2 (mA q), .arrX w4_2aa 51 4 0 (s.map Qb), .arrA ab 3 1 (mI u), .arrA ac 55 1 (v.map (cL 2 Qh))]⟩ (Jc r)
theorem Qg6 {r : Qc × Int} (K : Nat) (go2 : Int → Int → Int → Q5 → (List Int) → (List Zz) → Q5 → Int → Int → (List Int) → (List Ye) → (List Qa) → (List Int) → (List (List Qd)) → Option (Qc × Int)) (hgo2 : Pu r go2) : ∀ (k : Nat), ∀ (p q : Int) (s ac : Int) (u : Q5) (ad : List Int) (af : List Zz) (ag : Q5) (ai aj : Int) (al : List Int) (am : List Ye) (an : List Qa) (v : List Int) (l : List (List Qd)) (j : List Qd) (w m : Nat) (y aa : Value) (w4_3aa ab : Value) (ap aq : Value), M8 K go2 k p q s ac u ad af ag ai aj al am an v l j = some r → TL tp 198 (ca [1,1,1,1,1,1,1,0,1,0,0,1,0,0,1,1,1,0,1,0,0,1,0,0,1,1,0,1,0,0] ff20) ⟨[(2, .ptr w 0), (4, .ptr m 0), (7, .int .i64 p), (8, .int .i64 q), (9, .c (.ex ab)), (10, .c (.ex ap)), (11, .int .i64 s), (12, .c (.ex aq)), (13, .int .i64 ac)], [(Bt w u (0:Int) (.slice none 0 0) (.slice none 0 0)), (U2 m ad af y ag ai aa w4_3aa aj), .arrA y 3 1 (mI al), .arrA aa 59 2 (mA am), .arrX w4_3aa 51 4 0 (an.map Qb), .arrA ab 3 1 (mI v), .arrA ap 55 1 (l.map (cL 2 Qh)), .arrA aq 54 2 (j.map Qh)]⟩ (Wb r) := by
 intro k
 induction k with
 | zero =>
  intro p q s ac u ad af ag ai aj al am an v l j w m y aa w4_3aa ab ap aq h
  exact zn h
 | succ k ih =>
  intro p q s ac u ad af ag ai aj al am an v l j w m y aa w4_3aa ab ap aq h
  rw [M8] at h
  refine Q0 (T.seq (sR (Qr (mw rfl (mw rfl (oK rfl (oP Qjd i28 rfl ?_)))))))
  refine oP Xz i24 rfl (oP Qj2 i3 rfl (oL 1 ul3 rfl (oI rfl (nL (tN ?_)))))
  rcases Qg h with ⟨au, h⟩ | ⟨au, h⟩
  refine Qp rfl au (T.skip (tN (T.seq (T.block (sR (Qr ?_))))))
  iterate 5 refine mw rfl ?_
  obtain ⟨b, az, h⟩ := bind_some h
  refine sp rfl (Q9 (is := [1, 2, 3, 4]) (ph := []) rfl (dk rfl) fu48 rfl rfl (Zm.cons rfl (Zm.cons rfl (Zm.cons rfl (Zm.cons rfl Zm.nil)))) (Rz K (bx0 := m) (wx0c1 := y) (wx0c2c1 := aa) (wx0c2c2 := w4_3aa) az) (.cons rfl rfl (.cons rfl rfl (.cons rfl rfl (.cons rfl rfl (.nil))))) (fun _ => rfl) (fun av => (nm (.c (.c (.c (.c (.c (.c (.c (.c (.n))))))))) (sp rfl (OpT.buildSlice (elems := ([b.1] : List Qd).map Qh) rfl (dk rfl) Ma i54 (by decide) rfl (Hs rfl) rfl rfl rfl (Xh rfl) (by decide) ?_)))))
  obtain ⟨a0, h⟩ := Q6 h
  refine sp rfl (Zp (i := 7) (xs := j) (ys := [b.1]) (f := Qh) rfl (dk rfl) Ma i54 rfl rfl rfl rfl a0 (fun a1 => (aw rfl (nL (tN (sR (Qr (mw rfl (oK rfl (oP Qjd i30 rfl (oL 1 ul30 rfl ?_)))))))))))
  refine oI rfl (nL (tN ?_))
  rcases Qg h with ⟨ay, h⟩ | ⟨ay, h⟩
  cases h
  refine Qo rfl ay (T.skip (Qk (tN (Qr (mw rfl (oI rfl (aw rfl (nL (tN ?_)))))))))
  refine Qf ?_ (ih p q s (wI (ac + (1:Int))) u b.2.g.First b.2.g.P b.2.a.Split.Of b.2.a.Split.Many b.2.e b.2.number b.2.a.Counts b.2.a.States v l (j ++ [b.1]) w m (av 0) (av 1) (av 2) ab ap a1 h)
  exact tq rfl rfl
  refine Qo rfl au (T.exit (Qj (Qj (Qq (tN (Qr (mw rfl (mw rfl (Uh (Zr.view 173 7 rfl rfl) (sp rfl (OpT.buildSlice (elems := ([j] : List (List Qd)).map (cL 2 Qh)) rfl (dk rfl) Lk i55 (by decide) rfl (Hs rfl) rfl rfl rfl (Xh rfl) (by decide) ?_)))))))))))
  obtain ⟨a2, h⟩ := Q6 h
  refine sp rfl (Zp (i := 6) (xs := l) (ys := [j]) (f := (cL 2 Qh)) rfl (dk rfl) Lk i55 rfl rfl rfl rfl a2 (fun a3 => (aw rfl (nL (Qk (tN (Qr (mw rfl (oI rfl (aw rfl ?_))))))))))
  refine nL (tN ?_)
  refine Qf ?_ (hgo2 p q (wI (s + (1:Int))) u ad af ag ai aj al am an v (l ++ [j]) w m y aa w4_3aa ab a3 h)
  exact tq rfl rfl
abbrev Pv (r : Qc × Int) (go : Int → Q5 → (List Int) → (List Zz) → Q5 → Int → Int → (List Int) → (List Ye) → (List Qa) → Option (Qc × Int)) : Prop := ∀ (a : Int) (b : Q5) (c : List Int) (f : List Zz) (g : Q5) (i j : Int) (l : List Int) (m : List Ye) (n : List Qa) (p q : Nat) (s u w4_1aa : Value), go a b c f g i j l m n = some r → TL tp 198 (ca [1,1,1,1,1,1,1,0,1,0,0] ff20) ⟨[(2, .ptr p 0), (4, .ptr q 0), (7, .int .i64 a)], [(Bt p b (0:Int) (.slice none 0 0) (.slice none 0 0)), (U2 q c f s g i u w4_1aa j), .arrA s 3 1 (mI l), .arrA u 59 2 (mA m), .arrX w4_1aa 51 4 0 (n.map Qb)]⟩ (Ms r)
theorem Qg7 {r : Qc × Int} (K : Nat) (go1 : Int → Q5 → (List Int) → (List Zz) → Q5 → Int → Int → (List Int) → (List Ye) → (List Qa) → Option (Qc × Int)) (hgo1 : Pv r go1) : ∀ (k : Nat), Pu r (G0 K go1 k) := by
 intro k
 induction k with
 | zero =>
  intro g an ap u v w y aa ab ac ad b j p af q ag ai w4_2aa az aq h
  exact zn h
 | succ k ih =>
  intro g an ap u v w y aa ab ac ad b j p af q ag ai w4_2aa az aq h
  rw [G0] at h
  refine Q0 (T.seq (sR (Qr (mw rfl (mw rfl (oI rfl (nL (tN ?_))))))))
  rcases Qg h with ⟨aj, h⟩ | ⟨aj, h⟩
  refine Qp rfl aj (T.skip (tN (T.seq (T.block (sR (Qr ?_))))))
  iterate 3 refine mw rfl ?_
  refine oK rfl (oP Qjd i28 rfl (oP Xz i26 rfl (oL 1 Vj rfl (mw rfl ?_))))
  obtain ⟨m, au, h⟩ := bind_some h
  refine sp rfl (Zc (n := 4) (xs := b) (f := Qb) (old := m) rfl (dk rfl) Vj i51 rfl rfl rfl au (sp rfl (Qjb (i := 4) (xs := b) (f := Qb) (old := m) (l := [.sl false 1 (mI m.L), .sl false 1 (mI m.R), .sl false 1 (mI m.Rule), .sl false 1 (m.Next.map (cL 2 Qh))]) rfl (dk rfl) V1 rfl i51 rfl rfl (Zd au).2 rfl rfl (mw rfl ?_))))
  obtain ⟨al, a0, h⟩ := bind_some h
  refine sp rfl (Q9 (is := [1, 2, 3, 4]) (ph := []) rfl (dk rfl) fu47 rfl rfl (Zm.cons rfl (Zm.cons rfl (Zm.cons rfl Zm.nil))) (Rx K (bx0 := q) (wx0c1 := ag) (wx0c2c1 := ai) (wx0c2c2 := w4_2aa) a0) (.cons rfl rfl (.cons rfl rfl (.cons rfl rfl (.cons rfl rfl (.nil))))) (fun _ => rfl) (fun am => (nm (.c (.c (.c (.c (.c (.c (.c (.n)))))))) (sp rfl (OpT.buildSlice (elems := ([al] : List Int).map (cI .i64)) rfl (dk rfl) Zi i3 (by decide) rfl (Hs rfl) rfl rfl rfl (Xh rfl) (by decide) ?_)))))
  obtain ⟨a1, h⟩ := Q6 h
  refine sp rfl (Zp (i := 5) (xs := j) (ys := [al]) (f := (cI .i64)) rfl (dk rfl) Zi i3 rfl rfl rfl rfl a1 (fun a2 => (aw rfl (nL (tN (sR (Qr (aw rfl (nL (tN (T.seq (sR (Qr ?_)))))))))))))
  refine aw rfl (nL (tN (T.block (T.loop (Qf (Xd 54 2) ?_)))))
  refine Qf ?_ (Qg6 K (G0 K go1 k) ih K g an ap (0:Int) u v w y aa ab ac ad b (j ++ [al]) p [] af q (am 0) (am 1) (am 2) a2 aq (Qd7 20) h)
  exact tr rfl (.c (.s .z) (.c (.s .z) (.c (.s .z) (.c (.s .z) (.c (.s .z) (.c (.s .z) (.c (.s .z) (.c .z (.n _)))))))))
  refine Qo rfl aj (T.exit (Qj (Qj (Qq (tN (sR (Qr (mw rfl (oK rfl (oP Qjd i28 rfl (oP Xz i26 rfl ?_)))))))))))
  refine oL 1 Vj rfl (mw rfl (mw rfl ?_))
  obtain ⟨a, av, h⟩ := bind_some h
  refine sp rfl (Zc (n := 4) (xs := b) (f := Qb) (old := a) rfl (dk rfl) Vj i51 rfl rfl rfl av (sp rfl (Da rfl (dk rfl) V1 rfl i38 (by decide) rfl (Uh (Zr.view 182 5 rfl rfl) (sp rfl (Yr (i := 4) (xs := b) (f := Qb) (old := a) (new := (Qa.mk a.L a.R j a.Next)) rfl rfl i38 rfl rfl rfl (Zd av).2 (Qmm _) (nb rfl) rfl (nL (tN (Qr (mw rfl ?_))))))))))
  refine oK rfl (oP Qjd i28 rfl (oP Xz i26 rfl (oL 1 Vj rfl (mw rfl (mw rfl ?_)))))
  obtain ⟨d, ay, h⟩ := bind_some h
  refine sp rfl (Zc (n := 4) (xs := (List.set b (Int.toNat g) (Qa.mk a.L a.R j a.Next))) (f := Qb) (old := d) rfl (dk rfl) Vj i51 rfl rfl rfl ay (sp rfl (Da rfl (dk rfl) V1 rfl i49 (by decide) rfl (Uh (Zr.view 191 6 rfl rfl) (sp rfl (Yr (i := 4) (xs := (List.set b (Int.toNat g) (Qa.mk a.L a.R j a.Next))) (f := Qb) (old := d) (new := (Qa.mk d.L d.R d.Rule p)) rfl rfl i49 rfl rfl rfl (Zd ay).2 (Qmm _) (nb rfl) rfl (nL (Qk (tN (Qr (mw rfl ?_)))))))))))
  refine oI rfl (aw rfl (nL (tN ?_)))
  refine Qf ?_ (hgo1 (wI (g + (1:Int))) u v w y aa ab ac ad (List.set (List.set b (Int.toNat g) (Qa.mk a.L a.R j a.Next)) (Int.toNat g) (Qa.mk d.L d.R d.Rule p)) af q ag ai w4_2aa h)
  exact tq rfl rfl
theorem Qg8 {r : Qc × Int} (K : Nat) : ∀ (k : Nat), Pv r (G1 K k) := by
 intro k
 induction k with
 | zero =>
  intro u v w y b g aa ab j a ac ad af m w4_1aa h
  exact zn h
 | succ k ih =>
  intro u v w y b g aa ab j a ac ad af m w4_1aa h
  rw [G1] at h
  refine Q0 (T.seq (sR (Qr (mw rfl (mw rfl (oK rfl (oP Qjd i28 rfl ?_)))))))
  refine oP Xz i26 rfl (oL 1 Vj rfl (sp rfl (Vz (i := 4) (xs := a) (f := Qb) rfl (dk rfl) Vj rfl rfl (oI rfl (nL (tN ?_))))))
  rcases Qg h with ⟨p, h⟩ | ⟨p, h⟩
  refine Qp rfl p (T.skip (tN (T.seq (T.block (sR (Qr (mw rfl (oK rfl ?_))))))))
  refine oP Qjd i28 rfl (oP Xz i26 rfl (oL 1 Vj rfl (mw rfl ?_)))
  obtain ⟨q, ag, h⟩ := bind_some h
  refine sp rfl (Zc (n := 4) (xs := a) (f := Qb) (old := q) rfl (dk rfl) Vj i51 rfl rfl rfl ag (sp rfl (Da rfl (dk rfl) V1 rfl i38 (by decide) rfl (sp rfl (X1 (i := 4) (xs := a) (f := Qb) (old := q) rfl (dk rfl) Zi rfl rfl rfl (Zd ag).2 rfl (oU q.R (cI .i64) Zi rfl ?_))))))
  obtain ⟨ai, aj, h⟩ := bind_some h
  refine oH fu46 (Zh.nil (Px K aj)) rfl (aw rfl (nL (tN (sR (Qr (aw rfl (nL (tN (sR (Qr (aw rfl (nL (tN ?_)))))))))))))
  refine T.seq (sR (Qr (aw rfl (nL (tN (T.block (T.loop (Qf (Xd 3 1) ?_))))))))
  refine Qf (Xd 55 1) ?_
  refine Qf ?_ (Qg7 K (G1 K k) ih K u ai (0:Int) v w y b g aa ab j a [] [] ac ad af m w4_1aa (Qd7 18) (Qd7 19) h)
  exact tr rfl (.c (.s (.s .z)) (.c (.s (.s .z)) (.c (.s (.s .z)) (.c (.s (.s .z)) (.c (.s (.s .z)) (.c (.s .z) (.c .z (.n _))))))))
  refine Qo rfl p (T.exit (Qj (Qj (Qq (tN (sR (Qr (mw rfl (oK rfl (oP Qjd i28 rfl (Uh (Uf 4 rfl) ?_)))))))))))
  refine sp rfl (Zj (Iz (i := 1) (l := ((Q5.dc 256 .u8 b) ++ (([.int .i64 g, .ex m, .ex w4_1aa] : List DC)))) rfl (dk rfl) Xz rfl i28 rfl rfl rfl rfl rfl) (Zt 197 (l := ((Q5.dc 256 .u8 b) ++ (([.int .i64 g, .ex m, .ex w4_1aa] : List DC)))) (l' := ((Q5.dc 256 .u8 b) ++ (([.int .i64 g, .sl false 2 (mA j), .sl false 4 (a.map Qb)] : List DC)))) (.app _ (.cons (.same _) (.cons (.view 3 rfl) (.cons (.view 4 rfl) (.refl _)))))) (sp rfl (Qt (i := 0) (cells' := ((Q5.oc 256 .u8 b) ++ (([.d (.int .i64 g), .d (.sl false 2 (mA j)), .d (.sl false 4 (a.map Qb))]:List OC)))) rfl rfl i28 rfl rfl rfl rfl (nb rfl) rfl (aw rfl (nL (tN (T.ret (Fin.done (.cons _ _ _ _ (.cellAgg 2 28 _ 0 0 28 _ ((Q5.dc 256 .u8 b) ++ (([.int .i64 g, .sl false 2 (mA j), .sl false 4 (a.map Qb)] : List DC))) _ _ 259 _ rfl rfl rfl rfl Xz rfl i28) (.cons _ _ _ _ (.tmp 3 _ rfl) .nil)) (by cases h; exact ⟨rfl, rfl⟩)))))))))
theorem Qg9 {r : Qc × Int} (K : Nat) : ∀ (k : Nat), ∀ (w : Int) (x0 : Zv) (g j : Q5) (a : List Int) (m : List Z6) (y p q : Nat) (b ab : Value), M9 K k w x0 g j a m = some r → TL tp 198 (ca [1,1,1,1,0,1,0,0] ff20) ⟨[(1, .ptr y 0), (2, .ptr p 0), (4, .ptr q 0), (5, .c (.ex ab)), (6, .int .i64 w)], [.box y 43 [.d (.sl false 1 (mI x0.First)), .d (.sl false 9 (x0.P.map Q1))], (Bt p g (0:Int) (.slice none 0 0) (.slice none 0 0)), (U2 q x0.First x0.P b j (0:Int) (.slice none 0 0) (.slice none 0 0) (0:Int)), .arrA b 3 1 (mI a), .arrA ab 63 4 (m.map (Z6.dc .u64))]⟩ (Qan r) := by
 intro k
 induction k with
 | zero =>
  intro w x0 g j a m y p q b ab h
  exact zn h
 | succ k ih =>
  intro w x0 g j a m y p q b ab h
  rw [M9] at h
  refine Q0 (T.seq (sR (Qr (mw rfl (oP Qk9 i41 rfl (oL 0 Qcg rfl (oU x0.P Q1 Qcg rfl ?_)))))))
  refine oI rfl (nL (tN ?_))
  rcases Qg h with ⟨ac, h⟩ | ⟨ac, h⟩
  refine Qp rfl ac (T.skip (tN (T.seq (T.block (sR (Qr (mw rfl (oP Qk9 i41 rfl ?_))))))))
  refine oL 0 Qcg rfl (mw rfl ?_)
  obtain ⟨aa, ad, h⟩ := bind_some h
  refine oX x0.P Q1 Qcg i65 ad rfl (sp rfl (Ug rfl (dk rfl) ul65 rfl i63 (by decide) rfl (oJ Qk8 i63 rfl (sp rfl (OpT.buildSlice (elems := ([aa.S] : List Z6).map (Z6.dc .u64)) rfl (dk rfl) ul99 i63 (by decide) rfl (Hs rfl) rfl rfl rfl (Xh rfl) (by decide) ?_)))))
  obtain ⟨aj, h⟩ := Q6 h
  refine sp rfl (Zp (i := 4) (xs := m) (ys := [aa.S]) (f := (Z6.dc .u64)) rfl (dk rfl) ul99 i63 rfl rfl rfl rfl aj (fun al => (aw rfl (nL (tN (sR (Qr (oP Qk9 i41 rfl (oL 0 Qcg rfl (mw rfl (oX x0.P Q1 Qcg i65 ad rfl ?_)))))))))))
  refine sp rfl (Ug rfl (dk rfl) ul65 rfl i3 (by decide) rfl (oR ul3 rfl (oI rfl (nL (tN ?_)))))
  rcases Qg h with ⟨af, h⟩ | ⟨af, h⟩
  cases h
  refine Qo rfl af (Qr (mw rfl (mw rfl (oK rfl (oP Qjd i38 rfl (oL 2 Zi rfl ?_))))))
  refine sp rfl (OpT.buildSlice (elems := ([(-1:Int)] : List Int).map (cI .i64)) rfl (dk rfl) Zi i3 (by decide) rfl (Hs rfl) rfl rfl rfl (Xh rfl) (by decide) ?_)
  obtain ⟨am, h⟩ := Q6 h
  refine sp rfl (Zp (i := 3) (xs := a) (ys := [(-1:Int)]) (f := (cI .i64)) rfl (dk rfl) Zi i3 rfl rfl rfl rfl am (fun ag => (oK rfl (oP Qjd i38 rfl (sp rfl (Wf (i := 2) (cells' := (([.d (.sl false 1 (mI x0.First)), .d (.sl false 9 (x0.P.map Q1)), .d (.ex ag)]:List OC) ++ ((Q5.oc 256 .u8 j) ++ (([.d (.int .i64 (0:Int)), .d (.ex (.slice none 0 0)), .d (.ex (.slice none 0 0)), .d (.int .i64 (0:Int))]:List OC))))) rfl rfl i38 rfl rfl rfl (nb rfl) rfl (nL (Qk (tN (Qr (mw rfl ?_)))))))))))
  refine oI rfl (aw rfl (nL (tN ?_)))
  refine Qf ?_ (ih (wI (w + (1:Int))) x0 g j (a ++ [(-1:Int)]) (m ++ [aa.S]) y p q ag al h)
  exact tq rfl rfl
  refine Qo rfl ac (T.exit (Qj (Qj (Qq (tN (sR (Qr (mw rfl (mw rfl ?_)))))))))
  obtain ⟨u, an, h⟩ := bind_some h
  refine sp rfl (Vt rfl (dk rfl) fu45 rfl rfl (Zm.view (i := 4) rfl rfl Zm.nil) (Zh.nil (Qks K (flx0 := false) an)) (oK rfl (oP Qjd i28 rfl (oP Xz i24 rfl (sp rfl (Qt (i := 2) (cells' := (([.d (.sl false 1 (mI x0.First)), .d (.sl false 9 (x0.P.map Q1)), .d (.ex b)]:List OC) ++ ((Q5.oc 256 .u8 u.Of) ++ (([.d (.int .i64 u.Many), .d (.ex (.slice none 0 0)), .d (.ex (.slice none 0 0)), .d (.int .i64 (0:Int))]:List OC))))) rfl rfl i24 rfl rfl rfl rfl (nb rfl) rfl (nL (tN (sR (Qr (mw rfl ?_)))))))))))
  refine sp rfl (Zj (OpT.build (l := [.ex (.slice none 0 0), .ex (.slice none 0 0), .ex (.slice none 0 0), .ex (.slice none 0 0)]) rfl (dk rfl) (Zk (pl := [(0, 1), (1, 1), (2, 1), (3, 1)]) V1 i51 rfl) (Hs rfl) rfl rfl rfl) (Zt 99 (l := [.ex (.slice none 0 0), .ex (.slice none 0 0), .ex (.slice none 0 0), .ex (.slice none 0 0)]) (l' := [.sl false 1 (([] : List Int).map (cI .i64)), .sl false 1 (([] : List Int).map (cI .i64)), .sl false 1 (([] : List Int).map (cI .i64)), .sl false 1 (([] : List (List Qd)).map (cL 2 Qh))]) (.cons (.nil _ _) (.cons (.nil _ _) (.cons (.nil _ _) (.cons (.nil _ _) (.refl _)))))) (sp rfl (M0 (elems := ([(Qa.mk [] [] [] [])] : List Qa).map Qb) rfl (dk rfl) Vj i51 (by decide) rfl (Hs rfl) rfl rfl rfl (Xh rfl) (by decide) (fun ai => (oK rfl (oP Qjd i28 rfl (oP Xz i26 rfl (sp rfl (Wf (i := 3) (cells' := (([.d (.sl false 1 (mI x0.First)), .d (.sl false 9 (x0.P.map Q1)), .d (.ex b)]:List OC) ++ ((Q5.oc 256 .u8 u.Of) ++ (([.d (.int .i64 u.Many), .d (.ex (.slice none 0 0)), .d (.ex (.slice (some ⟨ai, 0, none⟩) 1 1)), .d (.int .i64 (0:Int))]:List OC))))) rfl rfl i26 rfl rfl rfl (nb rfl) rfl (nL (tN ?_)))))))))))
  refine T.seq (sR (Qr (aw rfl (nL (tN (T.block (T.loop (Qf (Xd 59 2) ?_))))))))
  refine Qf ?_ (Qg8 K K (0:Int) g x0.First x0.P u.Of u.Many (0:Int) a [] [(Qa.mk [] [] [] [])] p q b (Qd7 17) (.slice (some ⟨ai, 0, none⟩) 1 1) h)
  exact tr rfl (.c (.s (.s (.s .z))) (.c (.s (.s (.s .z))) (.c (.s (.s (.s .z))) (.c .z (.c .z (.n _))))))
theorem Qkn (K : Nat) {x0 : Zv} {r : Qc × Int} (h : S6 K x0 = some r) : Zh tp 20 [.agg [.sl false 1 (mI x0.First), .sl false 9 (x0.P.map Q1)]] [] (.tup [.agg ((Q5.dc 256 .u8 r.1.Split.Of) ++ (([.int .i64 r.1.Split.Many, .sl false 2 (mA r.1.Counts), .sl false 4 (r.1.States.map Qb)] : List DC))), .int .i64 r.2]) := by
 refine CI 198 fu20 rfl ?_
 unfold S6 at h
 refine sR (Qr (sp rfl (Q8 rfl (dk rfl) rfl (fun b => (sp rfl (Za rfl (dk rfl) i28 rfl (fun d => (aw rfl (nL (tN (T.seq (sR (Qr ?_)))))))))))))
 refine oA 1 [.sl false 1 (mI x0.First), .sl false 9 (x0.P.map Q1)] Qk9 i43 rfl ?_
 obtain ⟨j, f, h⟩ := bind_some h
 refine oH fu44 (Zh.nil (Qhc K f)) rfl (oT rfl (nL (tN ?_)))
 rcases Qg h with ⟨a, h⟩ | ⟨a, h⟩
 cases h
 refine Qo rfl a (T.skip (tN (sR (Qr (oA 1 [.sl false 1 (mI x0.First), .sl false 9 (x0.P.map Q1)] Qk9 i43 rfl (sp rfl (OpT.build (l := (([.sl false 1 (mI x0.First), .sl false 9 (x0.P.map Q1), .ex (.slice none 0 0)] : List DC) ++ ((Q5.dc 256 .u8 (Q5.mk fun _ => 0)) ++ (([.int .i64 (0:Int), .ex (.slice none 0 0), .ex (.slice none 0 0), .int .i64 (0:Int)] : List DC))))) rfl (dk rfl) (Zk (pl := [(0, 2), (2, 1), (3, 259), (262, 1)]) Qjd i98 rfl) (Hs rfl) rfl rfl (sp rfl (Q8 rfl (dk rfl) rfl (fun g => (aw rfl ?_)))))))))))
 refine nL (tN (sR (Qr (aw rfl (nL (tN (T.seq (sR (Qr (aw rfl (nL (tN ?_))))))))))))
 refine T.block (T.loop (Qf (Xd 63 4) (Qf (Xd 3 1) ?_)))
 refine Qf ?_ (Qg9 K K (0:Int) x0 (Q5.mk fun _ => 0) (Q5.mk fun _ => 0) [] [] b d g (Qd7 16) (Qd7 15) h)
 exact tr rfl (.c (.s (.s (.s (.s .z)))) (.c (.s (.s (.s .z))) (.c (.s (.s .z)) (.c .z (.c .z (.n _))))))
abbrev raddlelaw12_shown_q (r : Bool) : ES := Jm tp ff14 (fun y t => y = (.bool r) ∧ t = [.tab 0 Uj])
theorem Qhx (K : Nat) {r : Bool} (h : G9 K = some r) : Zh tp 14 [] [.tab 0 Uj] (.bool r) := by
 refine CI 46 fu14 rfl ?_
 unfold G9 at h
 refine sR (Qr (aw rfl (nL (tN (sR (Qr ?_))))))
 obtain ⟨u, j, h⟩ := bind_some h
 refine oH fu35 (Zh.nil (Qhn K j)) rfl (mw rfl (oE rfl (oE rfl (oE rfl (aw rfl (aw rfl ?_))))))
 refine aw rfl (nL (tN (sR (Qr (mw rfl ?_)))))
 obtain ⟨m, n, h⟩ := bind_some h
 refine oH fu36 (Zh.nil (Qir K (flx0 := false) n)) rfl (mw rfl (oE rfl (oE rfl (aw rfl (aw rfl (nL (tN (sR (Qr ?_)))))))))
 refine mw rfl (sp rfl (OpT.buildSlice (elems := ([m.1] : List (List Q3)).map (cL 9 Qw)) rfl (dk rfl) ul87 i80 (by decide) rfl (Hs rfl) rfl rfl rfl (Xh rfl) (by decide) ?_))
 obtain ⟨g, p, h⟩ := bind_some h
 refine oH fu37 (Zh.nil (Qko K (flx0 := true) p)) rfl (mw rfl (oE rfl (oE rfl (sp rfl (Za rfl (dk rfl) i43 rfl (fun v => (sp rfl (Qt (i := 0) (cells' := [.d (.sl false 1 (mI g.1.First)), .d (.sl false 9 (g.1.P.map Q1))]) rfl rfl i43 rfl rfl rfl rfl (nb rfl) rfl (aw rfl ?_)))))))))
 refine nL (tN (sR (Qr (oA 0 [.sl false 1 (mI g.1.First), .sl false 9 (g.1.P.map Q1)] Qk9 i43 rfl ?_))))
 obtain ⟨b, q, h⟩ := bind_some h
 refine oH fu20 (Zh.nil (Qkn K q)) rfl (mw rfl (oE rfl (oE rfl (sp rfl (Za rfl (dk rfl) i28 rfl (fun w => (sp rfl (Qt (i := 0) (cells' := ((Q5.oc 256 .u8 b.1.Split.Of) ++ (([.d (.int .i64 b.1.Split.Many), .d (.sl false 2 (mA b.1.Counts)), .d (.sl false 4 (b.1.States.map Qb))]:List OC)))) rfl rfl i28 rfl rfl rfl rfl (nb rfl) rfl (aw rfl ?_)))))))))
 refine nL (tN (sR (Qr (oA 0 ((Q5.dc 256 .u8 b.1.Split.Of) ++ (([.int .i64 b.1.Split.Many, .sl false 2 (mA b.1.Counts), .sl false 4 (b.1.States.map Qb)] : List DC))) Xz i28 rfl ?_))))
 obtain ⟨c, s, h⟩ := bind_some h
 refine sp rfl (Mz rfl (dk rfl) fu10 rfl rfl (Zm.cons rfl Zm.nil) (.tab 2 rfl (.nil)) (trim_Of_T K s) (mw rfl (oE rfl (oE rfl (sp rfl (Za rfl (dk rfl) i28 rfl (fun y => (sp rfl (Qt (i := 0) (cells' := ((Q5.oc 256 .u8 c.1.Split.Of) ++ (([.d (.int .i64 c.1.Split.Many), .d (.sl false 2 (mA c.1.Counts)), .d (.sl false 4 (c.1.States.map Qb))]:List OC)))) rfl rfl i28 rfl rfl rfl rfl (nb rfl) rfl (aw rfl ?_))))))))))
 refine nL (tN (sR (Qr (mw rfl (oI rfl (mw rfl ?_))))))
 rcases Qg h with ⟨a, h⟩ | ⟨a, h⟩
 refine sn rfl a (Y1 rfl (dk rfl) Xz rfl i26 (by decide) rfl (sn rfl a (Zx (i := 0) rfl (dk rfl) Vj rfl rfl rfl rfl (sn rfl a (Z9 (xs := c.1.States) (f := Qb) rfl (dk rfl) Vj rfl (sn rfl a (Zs rfl rfl (dk rfl) rfl rfl (oY a rfl (aw rfl (nL (tN ?_)))))))))))
 refine T.ret (Q7 (.cons _ _ _ _ (.tmp 0 _ rfl) .nil) (.cons 3 rfl (.nil _)) (by cases h; exact ⟨rfl, rfl⟩))
 refine pf rfl a (pf rfl a (pf rfl a (pf rfl a (oZ a rfl (aw rfl (nL (tN ?_)))))))
 refine T.ret (Q7 (.cons _ _ _ _ (.tmp 0 _ rfl) .nil) (.cons 3 rfl (.nil _)) (by cases h; exact ⟨rfl, rfl⟩))
abbrev Qin (r : Bool) : ES := Jm tp ff108 (fun y t => y = (.bool r) ∧ t = [])
abbrev Qdh (r : Bool) : ES := fT 26 [1,1,1] ff108 (Qin r)
abbrev Qaj (r : Bool) : ES := Qv 0 ((Qdh r))
theorem Qex {r : Bool} (K : Nat) : ∀ (k : Nat), ∀ (x0 x1 : List Int) (a : Int) (flx0 flx1 : Bool), V4 K k x0 x1 a = some r → TL tp 26 (ca [1,1,0,1,0,0] ff108) ⟨[(0, .sl flx0 1 (mI x0)), (1, .sl flx1 1 (mI x1)), (5, .int .i64 a)], []⟩ (Qaj r) := by
 intro k
 induction k with
 | zero =>
  intro x0 x1 a flx0 flx1 h
  exact zn h
 | succ k ih =>
  intro x0 x1 a flx0 flx1 h
  rw [V4] at h
  refine Q0 (T.seq (sR (Qr (mw rfl (mw rfl (oU x0 (cI .i64) Zi rfl (oI rfl ?_)))))))
  refine nL (tN ?_)
  rcases Qg h with ⟨g, h⟩ | ⟨g, h⟩
  refine Qp rfl g (T.skip (tN (T.seq (T.block (T.seq (Zy (dV rfl rfl ?_)))))))
  refine dV rfl rfl ?_
  obtain ⟨b, j, h⟩ := bind_some h
  refine dX x0 (cI .i64) rfl (.f rfl) Zi i3 j rfl (dR rfl (.f rfl) ul3 rfl (dV rfl rfl (dV rfl rfl ?_)))
  obtain ⟨d, l, h⟩ := bind_some h
  refine dX x1 (cI .i64) rfl (.f rfl) Zi i3 l rfl (dR rfl (.f rfl) ul3 rfl (dI rfl (.f rfl) rfl (dF [0,0,3,7,0,0,48,112,255] Qx rfl (by kernel_rfl) (fun u hu => (tN (Ql hu ?_))))))
  rcases Qg h with ⟨i, h⟩ | ⟨i, h⟩
  refine Qp rfl i (sR (Qr (aw rfl (nL (tN (T.ret (Qy (Qs (Qs (Qy (Qs (fd rfl (by cases h; exact ⟨rfl, rfl⟩)))))))))))))
  refine Qo rfl i (T.skip (Qk (tN (Qr (mw rfl (oI rfl (aw rfl (nL (tN ?_)))))))))
  refine Qf ?_ (ih x0 x1 (wI (a + (1:Int))) flx0 flx1 h)
  exact tq rfl rfl
  refine Qo rfl g (T.exit (Qj (Qj (Qq (tN (sR (Qr (aw rfl (nL (tN (T.ret (fd rfl (by cases h; exact ⟨rfl, rfl⟩)))))))))))))
theorem D3 (K : Nat) {x0 x1 : List Int} {flx0 flx1 r : Bool} (h : J6 K x0 x1 = some r) : Zh tp 108 [.sl flx0 1 (mI x0), .sl flx1 1 (mI x1)] [] (.bool r) := by
 refine CI 26 fu108 rfl ?_
 unfold J6 at h
 refine sR (Qr (aw rfl (nL (tN (T.seq (sR (Qr (mw rfl (oU x0 (cI .i64) Zi rfl ?_)))))))))
 refine mw rfl (oU x1 (cI .i64) Zi rfl (oI rfl (nL (tN ?_))))
 rcases Qg h with ⟨a, h⟩ | ⟨a, h⟩
 refine Qp rfl a (sR (Qr (aw rfl (nL (tN (T.ret (Qs (fd rfl (by cases h; exact ⟨rfl, rfl⟩)))))))))
 refine Qo rfl a (T.skip (tN (T.seq (sR (Qr (aw rfl (nL (tN (T.block ?_)))))))))
 refine T.loop ?_
 refine Qf ?_ (Qex K K x0 x1 (0:Int) flx0 flx1 h)
 exact tq rfl rfl
abbrev raddleref11_sameMove_q (r : Bool) : ES := Jm tp ff109 (fun y t => y = (.bool r) ∧ t = [])
theorem Qdd (K : Nat) {x0 x1 : Qd} {r : Bool} (h : H9 K x0 x1 = some r) : Zh tp 109 [.agg [.int .i64 x0.To, .sl false 1 (mU x0.Ops)], .agg [.int .i64 x1.To, .sl false 1 (mU x1.Ops)]] [] (.bool r) := by
 refine CI 19 fu109 rfl ?_
 unfold H9 at h
 refine sR (Qr (sp rfl (Q8 rfl (dk rfl) rfl (fun b => (sp rfl (Q8 rfl (dk rfl) rfl (fun c => (aw rfl (nL (tN (sR (Qr (oP Lj i3 rfl (oL 1 ul3 rfl ?_))))))))))))))
 refine oP Lj i3 rfl (oL 0 ul3 rfl (oI rfl (mw rfl ?_)))
 rcases Qg h with ⟨a, h⟩ | ⟨a, h⟩
 refine sn rfl a (Y1 rfl (dk rfl) Lj rfl i52 (by decide) rfl (sn rfl a (Zx (i := 1) rfl (dk rfl) B2 rfl rfl rfl rfl (sn rfl a (Oy (xs := x0.Ops) rfl (dk rfl) B2 ul5 ul9 rfl (sn rfl a (Y1 rfl (dk rfl) Lj rfl i52 (by decide) rfl (sn rfl a (Zx (i := 0) rfl (dk rfl) B2 rfl rfl rfl rfl (sn rfl a (Oy (xs := x1.Ops) rfl (dk rfl) B2 ul5 ul9 rfl (sn rfl a (OpT.str_eql rfl (dk rfl) rfl rfl ?_)))))))))))))
 refine oY a rfl (aw rfl (nL (tN (T.ret (fd rfl (by cases h; exact ⟨rfl, rfl⟩))))))
 refine pf rfl a (pf rfl a (pf rfl a (pf rfl a (pf rfl a (pf rfl a (pf rfl a ?_))))))
 refine oZ a rfl (aw rfl (nL (tN (T.ret (fd rfl (by cases h; exact ⟨rfl, rfl⟩))))))
abbrev D2 (r : Bool) : ES := Jm tp ff68 (fun y t => y = (.bool r) ∧ t = [])
abbrev Rs (r : Bool) : ES := fT 86 [1,1] ff68 (D2 r)
abbrev Pm (r : Bool) : ES := fT 86 [1,1,1] ff68 (D2 r)
abbrev Kl (r : Bool) : ES := Qv 0 ((Pm r))
abbrev Nc (r : Bool) : ES := fL 86 [1,1,0,1,0,0] ff68 (Kl r)
abbrev En (r : Bool) : ES := fT 86 [1,1,0,1,0,0,1,1] ff68 (Nc r)
abbrev Cg (r : Bool) : ES := Qv 1 ((En r))
abbrev M6 (r : Bool) : ES := Qv 2 ((Cg r))
theorem U4 {r : Bool} (K : Nat) (h : X0 K = some r) : T tp 86 (ca [1,0,1,0] ff68) ⟨[], []⟩ (Rs r) := by
 unfold X0 at h
 refine sR (Qr (aw rfl (nL (tN (T.ret (Qs (fd rfl (by cases h; exact ⟨rfl, rfl⟩))))))))
abbrev Bo (r : Bool) (go : Int → Qa → Qa → Option Bool) : Prop := ∀ (a : Int) (x0 x1 : Qa) (b c : Nat), go a x0 x1 = some r → TL tp 86 (ca [1,1,0,1,0,0] ff68) ⟨[(2, .ptr b 0), (3, .ptr c 0), (5, .int .i64 a)], [(W0 b x0.L x0.R x0.Rule x0.Next), (W0 c x1.L x1.R x1.Rule x1.Next)]⟩ (Kl r)
theorem Rt {r : Bool} (K : Nat) (go1 : Int → Qa → Qa → Option Bool) (hgo1 : Bo r go1) : ∀ (k : Nat), ∀ (g m : Int) (x0 x1 : Qa) (a b : Nat), Xa K go1 k g m x0 x1 = some r → TL tp 86 (ca [1,1,0,1,0,0,1,0,0,1,1,0,0] ff68) ⟨[(2, .ptr a 0), (3, .ptr b 0), (5, .int .i64 g), (6, .int .i64 m)], [(W0 a x0.L x0.R x0.Rule x0.Next), (W0 b x1.L x1.R x1.Rule x1.Next)]⟩ (M6 r) := by
 intro k
 induction k with
 | zero =>
  intro g m x0 x1 a b h
  exact zn h
 | succ k ih =>
  intro g m x0 x1 a b h
  rw [Xa] at h
  refine Q0 (T.seq (sR (Qr (mw rfl (oP V1 i49 rfl (oL 0 Lk rfl (mw rfl ?_)))))))
  obtain ⟨p, aa, h⟩ := bind_some h
  refine oX x0.Next (cL 2 Qh) Lk i55 aa rfl (oR Ma rfl (oU p Qh Ma rfl (oI rfl (nL (tN ?_)))))
  rcases Qg h with ⟨w, h⟩ | ⟨w, h⟩
  refine Qp rfl w (T.skip (tN (T.seq (T.block (T.seq (Zy (dP rfl (.f rfl) V1 i49 rfl ?_)))))))
  refine dL 0 rfl (.f rfl) Lk rfl (dV rfl rfl (dX x0.Next (cL 2 Qh) rfl (.f rfl) Lk i55 aa rfl (dR rfl (.f rfl) Ma rfl (dV rfl rfl ?_))))
  obtain ⟨j, ab, h⟩ := bind_some h
  refine dX p Qh rfl (.f rfl) Ma i54 ab rfl (dJ rfl (.f rfl) Lj i54 rfl (dP rfl (.f rfl) V1 i49 rfl (dL 1 rfl (.f rfl) Lk rfl (dV rfl rfl ?_))))
  obtain ⟨q, ac, h⟩ := bind_some h
  refine dX x1.Next (cL 2 Qh) rfl (.f rfl) Lk i55 ac rfl (dR rfl (.f rfl) Ma rfl (dV rfl rfl ?_))
  obtain ⟨l, ad, h⟩ := bind_some h
  refine dX q Qh rfl (.f rfl) Ma i54 ad rfl (dJ rfl (.f rfl) Lj i54 rfl ?_)
  obtain ⟨s, af, h⟩ := bind_some h
  refine dH fu109 (Zh.nil (Qdd K af)) rfl (.f rfl) rfl (dT rfl (.f rfl) rfl (dF [0,1,0,7,15,0,63,127,0,256,0,1792,3840,0,16128,32512,65535,131071] Qx rfl (by kernel_rfl) (fun u hu => (tN (Ql hu ?_)))))
  rcases Qg h with ⟨y, h⟩ | ⟨y, h⟩
  refine Qp rfl y (sR (Qr (aw rfl (nL (tN (T.ret (Qy (Qs (Qs (Qy (Qy (Qs (Qs (Qy (Qs (fd rfl (by cases h; exact ⟨rfl, rfl⟩)))))))))))))))))
  refine Qo rfl y (T.skip (Qk (tN (Qr (mw rfl (oI rfl (aw rfl (nL (tN ?_)))))))))
  refine Qf ?_ (ih g (wI (m + (1:Int))) x0 x1 a b h)
  exact tq rfl rfl
  refine Qo rfl w (T.exit (Qj (Qj (Qq (Qk (tN (Qr (mw rfl (oI rfl (aw rfl (nL (tN ?_))))))))))))
  refine Qf ?_ (hgo1 (wI (g + (1:Int))) x0 x1 a b h)
  exact tq rfl rfl
theorem Ru {r : Bool} (K : Nat) : ∀ (k : Nat), Bo r (Z7 K k) := by
 intro k
 induction k with
 | zero =>
  intro l x0 x1 g j h
  exact zn h
 | succ k ih =>
  intro l x0 x1 g j h
  rw [Z7] at h
  refine Q0 (T.seq (sR (Qr (mw rfl (oP V1 i49 rfl (oL 0 Lk rfl (oU x0.Next (cL 2 Qh) Lk rfl ?_)))))))
  refine oI rfl (nL (tN ?_))
  rcases Qg h with ⟨m, h⟩ | ⟨m, h⟩
  refine Qp rfl m (T.skip (tN (T.seq (T.block (T.seq (T.seq (Zy ?_)))))))
  refine dP rfl (.f rfl) V1 i49 rfl (dL 0 rfl (.f rfl) Lk rfl (dV rfl rfl ?_))
  obtain ⟨a, q, h⟩ := bind_some h
  refine dX x0.Next (cL 2 Qh) rfl (.f rfl) Lk i55 q rfl (dR rfl (.f rfl) Ma rfl (dN a Qh rfl (.f rfl) Ma rfl (dP rfl (.f rfl) V1 i49 rfl (dL 1 rfl (.f rfl) Lk rfl (dV rfl rfl ?_)))))
  obtain ⟨b, s, h⟩ := bind_some h
  refine dX x1.Next (cL 2 Qh) rfl (.f rfl) Lk i55 s rfl (dR rfl (.f rfl) Ma rfl (dN b Qh rfl (.f rfl) Ma rfl (dI rfl (.f rfl) rfl (dF [0,1,0,7,15,31,0,64,0,448,960,1984,4095] Qx rfl (by kernel_rfl) (fun u hu => (tN (Ql hu ?_)))))))
  rcases Qg h with ⟨p, h⟩ | ⟨p, h⟩
  refine Qp rfl p (sR (Qr (aw rfl (nL (tN (T.ret (Qs (Qy (Qs (Qs (Qy (Qs (fd rfl (by cases h; exact ⟨rfl, rfl⟩))))))))))))))
  refine Qo rfl p (T.skip (tN (sR (Qr (aw rfl (nL (tN (T.block (T.loop ?_)))))))))
  refine Qf ?_ (Rt K (Z7 K k) ih K l (0:Int) x0 x1 g j h)
  exact tq rfl rfl
  refine Qo rfl m (T.exit (Qj (Qj (Qq (tN (sR (Qr (aw rfl (nL (tN (T.ret (fd rfl (by cases h; exact ⟨rfl, rfl⟩)))))))))))))
theorem Qbo (K : Nat) {x0 x1 : Qa} {r : Bool} (h : Ju K x0 x1 = some r) : Zh tp 68 [.agg [.sl false 1 (mI x0.L), .sl false 1 (mI x0.R), .sl false 1 (mI x0.Rule), .sl false 1 (x0.Next.map (cL 2 Qh))], .agg [.sl false 1 (mI x1.L), .sl false 1 (mI x1.R), .sl false 1 (mI x1.Rule), .sl false 1 (x1.Next.map (cL 2 Qh))]] [] (.bool r) := by
 refine CI 86 fu68 rfl ?_
 unfold Ju at h
 refine sR (Qr (sp rfl (Q8 rfl (dk rfl) rfl (fun j => (sp rfl (Q8 rfl (dk rfl) rfl (fun l => (aw rfl (nL (tN (T.seq (sR (Qr ?_)))))))))))))
 refine oP V1 i38 rfl (oL 1 Zi rfl (oP V1 i38 rfl (oL 0 Zi rfl ?_)))
 obtain ⟨u, m, h⟩ := bind_some h
 refine oH fu108 (Zh.nil (D3 K (flx0 := false) (flx1 := false) m)) rfl (oT rfl (mw rfl ?_))
 rcases Qg h with ⟨b, h⟩ | ⟨b, h⟩
 refine pf rfl b (pf rfl b (pf rfl b (pf rfl b (pf rfl b (pf rfl b (oY b rfl ?_))))))
 refine mw rfl (pf rfl rfl (pf rfl rfl (pf rfl rfl (pf rfl rfl (pf rfl rfl (pf rfl rfl ?_))))))
 refine oY rfl rfl (mw rfl (pf rfl rfl (pf rfl rfl (pf rfl rfl (pf rfl rfl (pf rfl rfl ?_))))))
 refine pf rfl rfl (pf rfl rfl (oY rfl rfl (nL (tN (Qp rfl rfl ?_)))))
 refine Ql ?_ (U4 K h)
 exact tq rfl rfl
 refine sn rfl b (Y1 rfl (dk rfl) V1 rfl i38 (by decide) rfl (sn rfl b (Zx (i := 1) rfl (dk rfl) Zi rfl rfl rfl rfl (sn rfl b (Y1 rfl (dk rfl) V1 rfl i38 (by decide) rfl (sn rfl b (Zx (i := 0) rfl (dk rfl) Zi rfl rfl rfl rfl ?_)))))))
 obtain ⟨v, p, h⟩ := bind_some h
 refine sn rfl b (Vt rfl (dk rfl) fu108 rfl rfl (Zm.cons rfl (Zm.cons rfl Zm.nil)) (Zh.nil (D3 K (flx0 := false) (flx1 := false) p)) (sn rfl b (OpT.not rfl (dk rfl) rfl (oZ b rfl (mw rfl ?_)))))
 rcases Qg h with ⟨d, h⟩ | ⟨d, h⟩
 refine pf rfl d (pf rfl d (pf rfl d (pf rfl d (pf rfl d (pf rfl d (oY d rfl ?_))))))
 refine mw rfl (pf rfl rfl (pf rfl rfl (pf rfl rfl (pf rfl rfl (pf rfl rfl (pf rfl rfl ?_))))))
 refine pf rfl rfl (oY rfl rfl (nL (tN (Qp rfl rfl ?_))))
 refine Ql ?_ (U4 K h)
 exact tq rfl rfl
 refine sn rfl d (Y1 rfl (dk rfl) V1 rfl i38 (by decide) rfl (sn rfl d (Zx (i := 1) rfl (dk rfl) Zi rfl rfl rfl rfl (sn rfl d (Y1 rfl (dk rfl) V1 rfl i38 (by decide) rfl (sn rfl d (Zx (i := 0) rfl (dk rfl) Zi rfl rfl rfl rfl ?_)))))))
 obtain ⟨w, q, h⟩ := bind_some h
 refine sn rfl d (Vt rfl (dk rfl) fu108 rfl rfl (Zm.cons rfl (Zm.cons rfl Zm.nil)) (Zh.nil (D3 K (flx0 := false) (flx1 := false) q)) (sn rfl d (OpT.not rfl (dk rfl) rfl (oZ d rfl (mw rfl ?_)))))
 rcases Qg h with ⟨a, h⟩ | ⟨a, h⟩
 refine pf rfl a (pf rfl a (pf rfl a (pf rfl a (pf rfl a (pf rfl a (pf rfl a ?_))))))
 refine oY a rfl (nL (tN (Qp rfl rfl ?_)))
 refine Ql ?_ (U4 K h)
 exact tq rfl rfl
 refine sn rfl a (Y1 rfl (dk rfl) V1 rfl i49 (by decide) rfl (sn rfl a (Zx (i := 1) rfl (dk rfl) Lk rfl rfl rfl rfl (sn rfl a (Z9 (xs := x0.Next) (f := (cL 2 Qh)) rfl (dk rfl) Lk rfl (sn rfl a (Y1 rfl (dk rfl) V1 rfl i49 (by decide) rfl (sn rfl a (Zx (i := 0) rfl (dk rfl) Lk rfl rfl rfl rfl (sn rfl a (Z9 (xs := x1.Next) (f := (cL 2 Qh)) rfl (dk rfl) Lk rfl (sn rfl a (Zs rfl rfl (dk rfl) rfl rfl ?_)))))))))))))
 refine oZ a rfl (nL (tN ?_))
 rcases Qg h with ⟨g, h⟩ | ⟨g, h⟩
 refine Qp rfl g ?_
 refine Ql ?_ (U4 K h)
 exact tq rfl rfl
 refine Qo rfl g (T.skip (tN (T.seq (sR (Qr (aw rfl (nL (tN (T.block ?_)))))))))
 refine T.loop ?_
 refine Qf ?_ (Ru K K (0:Int) x0 x1 j l h)
 exact tr rfl (.c (.s .z) (.c .z (.n _)))
abbrev Dg (r : Bool) : ES := Jm tp ff38 (fun y t => y = (.bool r) ∧ t = [])
abbrev Pr (r : Bool) : ES := fT 48 [1,1] ff38 (Dg r)
abbrev Oi (r : Bool) : ES := fT 48 [1,1,1] ff38 (Dg r)
abbrev Ir (r : Bool) : ES := Qv 0 ((Oi r))
theorem Ww {r : Bool} (K : Nat) (h : Vw K = some r) : T tp 48 (ca [1,0,1,0] ff38) ⟨[], []⟩ (Pr r) := by
 unfold Vw at h
 refine sR (Qr (aw rfl (nL (tN (T.ret (Qs (fd rfl (by cases h; exact ⟨rfl, rfl⟩))))))))
theorem Ps {r : Bool} (K : Nat) : ∀ (k : Nat), ∀ (l : Int) (x0 x1 : Qc) (g j : Nat), Yy K k l x0 x1 = some r → TL tp 48 (ca [1,1,0,1,0,0] ff38) ⟨[(2, .ptr g 0), (3, .ptr j 0), (5, .int .i64 l)], [(Li g x0.Split.Of x0.Split.Many x0.Counts x0.States), (Li j x1.Split.Of x1.Split.Many x1.Counts x1.States)]⟩ (Ir r) := by
 intro k
 induction k with
 | zero =>
  intro l x0 x1 g j h
  exact zn h
 | succ k ih =>
  intro l x0 x1 g j h
  rw [Yy] at h
  refine Q0 (T.seq (sR (Qr (mw rfl (oP Xz i26 rfl (oL 0 Vj rfl (oU x0.States Qb Vj rfl ?_)))))))
  refine oI rfl (nL (tN ?_))
  rcases Qg h with ⟨p, h⟩ | ⟨p, h⟩
  refine Qp rfl p (T.skip (tN (T.seq (T.block (T.seq (Zy (dP rfl (.f rfl) Xz i26 rfl ?_)))))))
  refine dL 0 rfl (.f rfl) Vj rfl (dV rfl rfl ?_)
  obtain ⟨a, s, h⟩ := bind_some h
  refine dX x0.States Qb rfl (.f rfl) Vj i51 s rfl (dJ rfl (.f rfl) V1 i51 rfl (dP rfl (.f rfl) Xz i26 rfl (dL 1 rfl (.f rfl) Vj rfl (dV rfl rfl ?_))))
  obtain ⟨b, w, h⟩ := bind_some h
  refine dX x1.States Qb rfl (.f rfl) Vj i51 w rfl (dJ rfl (.f rfl) V1 i51 rfl ?_)
  obtain ⟨m, y, h⟩ := bind_some h
  refine dH fu68 (Zh.nil (Qbo K y)) rfl (.f rfl) rfl (dT rfl (.f rfl) rfl (dF [0,1,0,7,15,0,32,0,224,480,1023,2047] Qx rfl (by kernel_rfl) (fun u hu => (tN (Ql hu ?_)))))
  rcases Qg h with ⟨q, h⟩ | ⟨q, h⟩
  refine Qp rfl q (sR (Qr (aw rfl (nL (tN (T.ret (Qy (Qs (Qs (Qy (Qs (fd rfl (by cases h; exact ⟨rfl, rfl⟩)))))))))))))
  refine Qo rfl q (T.skip (Qk (tN (Qr (mw rfl (oI rfl (aw rfl (nL (tN ?_)))))))))
  refine Qf ?_ (ih (wI (l + (1:Int))) x0 x1 g j h)
  exact tq rfl rfl
  refine Qo rfl p (T.exit (Qj (Qj (Qq (tN (sR (Qr (aw rfl (nL (tN (T.ret (fd rfl (by cases h; exact ⟨rfl, rfl⟩)))))))))))))
theorem Qal (K : Nat) {x0 x1 : Qc} {r : Bool} (h : W3 K x0 x1 = some r) : Zh tp 38 [.agg ((Q5.dc 256 .u8 x0.Split.Of) ++ (([.int .i64 x0.Split.Many, .sl false 2 (mA x0.Counts), .sl false 4 (x0.States.map Qb)] : List DC))), .agg ((Q5.dc 256 .u8 x1.Split.Of) ++ (([.int .i64 x1.Split.Many, .sl false 2 (mA x1.Counts), .sl false 4 (x1.States.map Qb)] : List DC)))] [] (.bool r) := by
 refine CI 48 fu38 rfl ?_
 unfold W3 at h
 refine sR (Qr (sp rfl (Q8 rfl (dk rfl) rfl (fun g => (sp rfl (Q8 rfl (dk rfl) rfl (fun j => (aw rfl (nL (tN (T.seq (sR (Qr ?_)))))))))))))
 refine oP Xz i24 rfl (oA 1 ((Q5.dc 256 .u8 x0.Split.Of) ++ (([.int .i64 x0.Split.Many] : List DC))) Qj2 i24 rfl (oP Xz i24 rfl (oA 0 ((Q5.dc 256 .u8 x1.Split.Of) ++ (([.int .i64 x1.Split.Many] : List DC))) Qj2 i24 rfl (sp rfl (OpT.segsNeq (ms := [256, 1]) (us := [(.u8, Q5.list 256 x0.Split.Of), (.i64, [x0.Split.Many])]) (ys := [(.u8, Q5.list 256 x1.Split.Of), (.i64, [x1.Split.Many])]) rfl (dk rfl) Qj2 Tryz.stoodInHeld24 (by kernel_rfl) Tryz.eqGuardType24 rfl rfl (.arr (.one (.nil))) (.arr (.one (.nil))) (by simp [Q5.list]) (by simp [Q5.list]) rfl rfl (mw rfl ?_))))))
 rcases Qg h with ⟨a, h⟩ | ⟨a, h⟩
 refine pf rfl a (pf rfl a (pf rfl a (pf rfl a (pf rfl a (pf rfl a (pf rfl a ?_))))))
 refine oY a rfl (mw rfl (pf rfl rfl (pf rfl rfl (pf rfl rfl (pf rfl rfl (pf rfl rfl ?_))))))
 refine pf rfl rfl (pf rfl rfl (oY rfl rfl (nL (tN (Qp rfl rfl ?_)))))
 refine Ql ?_ (Ww K h)
 exact tq rfl rfl
 refine sn rfl a (Y1 rfl (dk rfl) Xz rfl i26 (by decide) rfl (sn rfl a (Zx (i := 1) rfl (dk rfl) Vj rfl rfl rfl rfl (sn rfl a (Z9 (xs := x0.States) (f := Qb) rfl (dk rfl) Vj rfl (sn rfl a (Y1 rfl (dk rfl) Xz rfl i26 (by decide) rfl (sn rfl a (Zx (i := 0) rfl (dk rfl) Vj rfl rfl rfl rfl (sn rfl a (Z9 (xs := x1.States) (f := Qb) rfl (dk rfl) Vj rfl (sn rfl a (Zs rfl rfl (dk rfl) rfl rfl ?_)))))))))))))
 refine oZ a rfl (mw rfl ?_)
 rcases Qg h with ⟨b, h⟩ | ⟨b, h⟩
 refine pf rfl b (pf rfl b (pf rfl b (pf rfl b (pf rfl b (pf rfl b (pf rfl b ?_))))))
 refine oY b rfl (nL (tN (Qp rfl rfl ?_)))
 refine Ql ?_ (Ww K h)
 exact tq rfl rfl
 refine sn rfl b (Y1 rfl (dk rfl) Xz rfl i25 (by decide) rfl (sn rfl b (Zx (i := 1) rfl (dk rfl) Qcs rfl rfl rfl rfl (sn rfl b (Z9 (xs := x0.Counts) (f := (Ye.dc .i64)) rfl (dk rfl) Qcs rfl (sn rfl b (Y1 rfl (dk rfl) Xz rfl i25 (by decide) rfl (sn rfl b (Zx (i := 0) rfl (dk rfl) Qcs rfl rfl rfl rfl (sn rfl b (Z9 (xs := x1.Counts) (f := (Ye.dc .i64)) rfl (dk rfl) Qcs rfl (sn rfl b (Zs rfl rfl (dk rfl) rfl rfl ?_)))))))))))))
 refine oZ b rfl (nL (tN ?_))
 rcases Qg h with ⟨d, h⟩ | ⟨d, h⟩
 refine Qp rfl d ?_
 refine Ql ?_ (Ww K h)
 exact tq rfl rfl
 refine Qo rfl d (T.skip (tN (T.seq (sR (Qr (aw rfl (nL (tN (T.block ?_)))))))))
 refine T.loop ?_
 refine Qf ?_ (Ps K K (0:Int) x0 x1 g j h)
 exact tr rfl (.c (.s .z) (.c .z (.n _)))
abbrev Qio (r : Bool) : ES := Jm tp ff15 (fun y t => y = (.bool r) ∧ t = [])
abbrev Qdi (r : Bool) : ES := fT 28 [1,1,1] ff15 (Qio r)
abbrev Qak (r : Bool) : ES := Qv 0 ((Qdi r))
theorem Qez {r : Bool} (K : Nat) : ∀ (k : Nat), ∀ (l : Int) (x0 x1 : Qc) (g j : Nat), V5 K k l x0 x1 = some r → TL tp 28 (ca [1,1,0,1,0,0] ff15) ⟨[(2, .ptr g 0), (3, .ptr j 0), (5, .int .i64 l)], [(Li g x0.Split.Of x0.Split.Many x0.Counts x0.States), (Li j x1.Split.Of x1.Split.Many x1.Counts x1.States)]⟩ (Qak r) := by
 intro k
 induction k with
 | zero =>
  intro l x0 x1 g j h
  exact zn h
 | succ k ih =>
  intro l x0 x1 g j h
  rw [V5] at h
  refine Q0 (T.seq (sR (Qr (mw rfl (oP Xz i25 rfl (oL 0 Qcs rfl (oU x0.Counts (Ye.dc .i64) Qcs rfl ?_)))))))
  refine oI rfl (nL (tN ?_))
  rcases Qg h with ⟨m, h⟩ | ⟨m, h⟩
  refine Qp rfl m (T.skip (tN (T.seq (T.block (T.seq (Zy (dP rfl (.f rfl) Xz i25 rfl ?_)))))))
  refine dL 0 rfl (.f rfl) Qcs rfl (dV rfl rfl ?_)
  obtain ⟨a, q, h⟩ := bind_some h
  refine dX x0.Counts (Ye.dc .i64) rfl (.f rfl) Qcs i59 q rfl (dJ rfl (.f rfl) ul59 i59 rfl (dP rfl (.f rfl) Xz i25 rfl (dL 1 rfl (.f rfl) Qcs rfl (dV rfl rfl ?_))))
  obtain ⟨b, s, h⟩ := bind_some h
  refine dX x1.Counts (Ye.dc .i64) rfl (.f rfl) Qcs i59 s rfl (dJ rfl (.f rfl) ul59 i59 rfl (dS (c := ⟨some 27, .bool (!(Ye.same a b)), [(21, .agg (Ye.dc .i64 a)), (26, .agg (Ye.dc .i64 b))], [], []⟩) (fun t hm => oF rfl rfl (Ql7 (k := .i64) (xs := [a.a0, a.a1]) (ys := [b.a0, b.a1]) rfl (dk rfl) ul59 ul3 i3 Tryz.eqGuardType59 hm.s0 hm.s1 rfl rfl rfl rfl (Ye.same_eq a b) rfl)) rfl rfl (dF [0,1,0,7,15,0,32,0,224,480,1023] Qx rfl (by kernel_rfl) (fun u hu => (tN (Ql hu ?_))))))
  rcases Qg h with ⟨p, h⟩ | ⟨p, h⟩
  refine Qp rfl p (sR (Qr (aw rfl (nL (tN (T.ret (Qy (Qs (Qs (Qy (Qs (fd rfl (by cases h; exact ⟨rfl, rfl⟩)))))))))))))
  refine Qo rfl p (T.skip (Qk (tN (Qr (mw rfl (oI rfl (aw rfl (nL (tN ?_)))))))))
  refine Qf ?_ (ih (wI (l + (1:Int))) x0 x1 g j h)
  exact tq rfl rfl
  refine Qo rfl m (T.exit (Qj (Qj (Qq (tN (sR (Qr (aw rfl (nL (tN (T.ret (fd rfl (by cases h; exact ⟨rfl, rfl⟩)))))))))))))
theorem Qip (K : Nat) {x0 x1 : Qc} {r : Bool} (h : J7 K x0 x1 = some r) : Zh tp 15 [.agg ((Q5.dc 256 .u8 x0.Split.Of) ++ (([.int .i64 x0.Split.Many, .sl false 2 (mA x0.Counts), .sl false 4 (x0.States.map Qb)] : List DC))), .agg ((Q5.dc 256 .u8 x1.Split.Of) ++ (([.int .i64 x1.Split.Many, .sl false 2 (mA x1.Counts), .sl false 4 (x1.States.map Qb)] : List DC)))] [] (.bool r) := by
 refine CI 28 fu15 rfl ?_
 unfold J7 at h
 refine sR (Qr (sp rfl (Q8 rfl (dk rfl) rfl (fun b => (sp rfl (Q8 rfl (dk rfl) rfl (fun d => (aw rfl (nL (tN (T.seq (sR (Qr ?_)))))))))))))
 refine oA 1 ((Q5.dc 256 .u8 x0.Split.Of) ++ (([.int .i64 x0.Split.Many, .sl false 2 (mA x0.Counts), .sl false 4 (x0.States.map Qb)] : List DC))) Xz i28 rfl (oA 0 ((Q5.dc 256 .u8 x1.Split.Of) ++ (([.int .i64 x1.Split.Many, .sl false 2 (mA x1.Counts), .sl false 4 (x1.States.map Qb)] : List DC))) Xz i28 rfl ?_)
 obtain ⟨g, f, h⟩ := bind_some h
 refine oH fu38 (Zh.nil (Qal K f)) rfl (oT rfl (nL (tN ?_)))
 rcases Qg h with ⟨a, h⟩ | ⟨a, h⟩
 refine Qp rfl a (sR (Qr (aw rfl (nL (tN (T.ret (Qs (fd rfl (by cases h; exact ⟨rfl, rfl⟩)))))))))
 refine Qo rfl a (T.skip (tN (T.seq (sR (Qr (aw rfl (nL (tN (T.block ?_)))))))))
 refine T.loop ?_
 refine Qf ?_ (Qez K K (0:Int) x0 x1 b d h)
 exact tr rfl (.c (.s .z) (.c .z (.n _)))
abbrev Qix (r : Bool) : ES := Jm tp ff16 (fun y t => y = (.bool r) ∧ t = [])
abbrev Qd5 (r : Bool) : ES := fT 26 [1,1,1] ff16 (Qix r)
abbrev Qay (r : Bool) : ES := Qv 0 ((Qd5 r))
theorem Qe7 {r : Bool} (K : Nat) : ∀ (k : Nat), ∀ (x0 x1 : List Int) (g a : Int) (flx0 flx1 : Bool), V7 K k x0 x1 g a = some r → TL tp 26 (ca [1,1,0,1,0,0] ff16) ⟨[(0, .sl flx0 1 (mI x0)), (1, .sl flx1 1 (mI x1)), (12, .int .i64 g), (13, .int .i64 a)], []⟩ (Qay r) := by
 intro k
 induction k with
 | zero =>
  intro x0 x1 g a flx0 flx1 h
  exact zn h
 | succ k ih =>
  intro x0 x1 g a flx0 flx1 h
  rw [V7] at h
  refine Q0 (sR (Qr (oI rfl (nL (tN (T.seq ?_))))))
  rcases Qg h with ⟨i, h⟩ | ⟨i, h⟩
  refine Qp rfl i (T.skip (tN (T.seq (T.block (sR (Qr (mw rfl (aw rfl ?_))))))))
  refine nL (tN (T.seq (Zy (dV rfl rfl (dV rfl rfl ?_)))))
  obtain ⟨b, l, h⟩ := bind_some h
  refine dX x0 (cI .i64) rfl (.f rfl) Zi i3 l rfl (dR rfl (.f rfl) ul3 rfl (dV rfl rfl (dV rfl rfl ?_)))
  obtain ⟨d, m, h⟩ := bind_some h
  refine dX x1 (cI .i64) rfl (.f rfl) Zi i3 m rfl (dR rfl (.f rfl) ul3 rfl (dI rfl (.f rfl) rfl (dF [0,0,3,7,0,0,48,112,255] Qx rfl (by kernel_rfl) (fun u hu => (tN (Ql hu ?_))))))
  rcases Qg h with ⟨j, h⟩ | ⟨j, h⟩
  refine Qp rfl j (sR (Qr (aw rfl (nL (tN (T.ret (Qy (Qs (Qs (Qy (Qs (fd rfl (by cases h; exact ⟨rfl, rfl⟩)))))))))))))
  refine Qo rfl j (T.skip (Qk (tN (Qr (oI rfl (mw rfl (nL (tN ?_))))))))
  refine Qf ?_ (ih x0 x1 g (wI (a + (1:Int))) flx0 flx1 h)
  exact tq rfl rfl
  refine Qo rfl i (T.exit (Qj (Qj (Qq (tN (sR (Qr (aw rfl (nL (tN (T.ret (fd rfl (by cases h; exact ⟨rfl, rfl⟩)))))))))))))
theorem Qiy (K : Nat) {x0 x1 : List Int} {flx0 flx1 r : Bool} (h : Ko K x0 x1 = some r) : Zh tp 16 [.sl flx0 1 (mI x0), .sl flx1 1 (mI x1)] [] (.bool r) := by
 refine CI 26 fu16 rfl ?_
 unfold Ko at h
 refine sR (Qr (aw rfl (nL (tN (T.seq (sR (Qr (mw rfl (oU x0 (cI .i64) Zi rfl ?_)))))))))
 refine mw rfl (oU x1 (cI .i64) Zi rfl (oI rfl (nL (tN ?_))))
 rcases Qg h with ⟨a, h⟩ | ⟨a, h⟩
 refine Qp rfl a (sR (Qr (aw rfl (nL (tN (T.ret (Qs (fd rfl (by cases h; exact ⟨rfl, rfl⟩)))))))))
 refine Qo rfl a (T.skip (tN (T.seq (sR (Qr (mw rfl (oU x0 (cI .i64) Zi rfl (mw rfl ?_))))))))
 refine nL (tN (T.block (T.loop ?_)))
 refine Qf ?_ (Qe7 K K x0 x1 (x0.length : Int) (0:Int) flx0 flx1 h)
 exact tq rfl rfl
end Go.Rv

/- Each function computes what its plain text says: printed by a program of ours. -/
import Derived.Test.YtcmfaclkgdmpbaaGreatDoorRgW2
namespace Go.Rv
open Go.Proofs
set_option maxRecDepth 100000
set_option maxHeartbeats 4000000
set_option linter.unusedVariables false
abbrev Ip (bx0 : Nat) (x0 : Qh) (r : Int) : ES := U6 tp ff47 (fun y t => ∃ γ : Nat → Value, y = (.int .i64 r) ∧ t = [(Gk bx0 x0.g.First x0.g.P (γ 0) x0.a.Split.Of x0.a.Split.Many (γ 1) (γ 2) x0.e), .arrA (γ 0) 3 1 (mI x0.number), .arrA (γ 1) 59 2 (mA x0.a.Counts), .arrX (γ 2) 51 4 0 (x0.a.States.map Qd)])
abbrev C2 (bx0 : Nat) (x0 : Qh) (r : Int) : ES := fT 55 [1,1,1] ff47 (Ip bx0 x0 r)
abbrev Bn (bx0 : Nat) (x0 : Qh) (r : Int) : ES := Qx 0 ((C2 bx0 x0 r))
theorem Dl {r : Int} (K bx0 : Nat) (x0 : Qh) : ∀ (k : Nat), ∀ (x2 y aa : Int) (x0 : Qh) (x1 : Qa) (ab ac w0_0aa : Value) (q : Nat), Xe K k x2 y aa x0 x1 = some r → TL tp 55 (ca [1,1,0,1,0,0] ff47) ⟨[(0, .ptr bx0 0), (2, .int .i64 x2), (4, .ptr q 0), (7, .int .i64 y), (8, .int .i64 aa)], [(Gk bx0 x0.g.First x0.g.P ab x0.a.Split.Of x0.a.Split.Many ac w0_0aa x0.e), .arrA ab 3 1 (mI x0.number), .arrA ac 59 2 (mA x0.a.Counts), .arrX w0_0aa 51 4 0 (x0.a.States.map Qd), (K3 q x1.L x1.R x1.Rule x1.Next)]⟩ (Bn bx0 x0 r) := by
 intro k
 induction k with
 | zero =>
  intro x2 y aa x0 x1 ab ac w0_0aa q h
  exact zn h
 | succ k ih =>
  intro x2 y aa x0 x1 ab ac w0_0aa q h
  rw [Xe] at h
  refine Q3 (T.seq (sR (Qq (mw rfl (oP Ju i38 rfl (oL 4 Zu rfl (oU x1.L (cI .i64) Zu rfl ?_)))))))
  refine oI rfl (nL (tN ?_))
  rcases Qe h with ⟨aj, h⟩ | ⟨aj, h⟩
  refine Qp rfl aj (T.skip (tN (T.seq (T.block (T.seq (Qk Yc (Uv ?_)))))))
  refine gM rfl (fun _ => .f rfl) (fun _ => rfl) (gK rfl (fun _ => .f rfl) (fun _ => rfl) (gP rfl (fun _ => .f rfl) Qdt i43 (fun _ => rfl) (gP rfl (fun _ => .f rfl) Qfm i41 (fun _ => rfl) (gL 1 rfl (fun _ => .f rfl) Rl (fun _ => rfl) (gP rfl (fun _ => .f rfl) Ju i38 (fun _ => rfl) (gL 5 rfl (fun _ => .f rfl) Zu (fun _ => rfl) ?_))))))
  refine gM rfl (fun _ => .f rfl) (fun _ => rfl) ?_
  obtain ⟨ad, al, h⟩ := bind_some h
  refine gX x1.L (cI .i64) rfl (fun _ => .f rfl) Zu i3 al (fun _ => rfl) (gR rfl (fun _ => .f rfl) ul3 (fun _ => rfl) ?_)
  obtain ⟨j, am, h⟩ := bind_some h
  refine gX x0.g.P Qy rfl (fun _ => .f rfl) Rl i65 am (fun _ => rfl) (gJ rfl (fun _ => .f rfl) ul65 i65 (fun _ => rfl) (DGG.step (c := fun p => ⟨some 9, .ptr ((p 12).2) 0, [], [(0, .ro 0 [])], [(0, .box ((p 12).2) 65 [.d (.int .u64 (Z2.mk 0 0 0 0).a0), .d (.int .u64 (Z2.mk 0 0 0 0).a1), .d (.int .u64 (Z2.mk 0 0 0 0).a2), .d (.int .u64 (Z2.mk 0 0 0 0).a3), .d (.int .i64 (0:Int)), .d (.int .i64 (0:Int)), .d (.int .i64 (0:Int)), .d (.bool false), .d (.ex (.slice none 0 0))])]⟩) [12] (fun p γ' h => by simp only [h 12 (by decide)]) (fun p t hm => oF rfl rfl (Rj 0 rfl (dk rfl) i65 rfl hm.o0 (fun b => ⟨(fun _ => undef, b), rfl⟩))) (fun p => Zj rfl rfl) (DGG.step (c := fun p => ⟨none, .any, [(9, .ptr ((p 12).2) 0), (28, .agg [.int .u64 j.S.a0, .int .u64 j.S.a1, .int .u64 j.S.a2, .int .u64 j.S.a3, .int .i64 j.Lo, .int .i64 j.Hi, .int .i64 j.Rule, .bool j.Last, .sl false 1 (mI j.Next)])], [(0, .box ((p 12).2) 65 [.d (.int .u64 (Z2.mk 0 0 0 0).a0), .d (.int .u64 (Z2.mk 0 0 0 0).a1), .d (.int .u64 (Z2.mk 0 0 0 0).a2), .d (.int .u64 (Z2.mk 0 0 0 0).a3), .d (.int .i64 (0:Int)), .d (.int .i64 (0:Int)), .d (.int .i64 (0:Int)), .d (.bool false), .d (.ex (.slice none 0 0))])], [(0, .box ((p 12).2) 65 [.d (.int .u64 j.S.a0), .d (.int .u64 j.S.a1), .d (.int .u64 j.S.a2), .d (.int .u64 j.S.a3), .d (.int .i64 j.Lo), .d (.int .i64 j.Hi), .d (.int .i64 j.Rule), .d (.bool j.Last), .d (.sl false 1 (mI j.Next))])]⟩) [12] (fun p γ' h => by simp only [h 12 (by decide)]) (fun p t hm => oF rfl rfl (Qu (i := 0) (cells' := [.d (.int .u64 j.S.a0), .d (.int .u64 j.S.a1), .d (.int .u64 j.S.a2), .d (.int .u64 j.S.a3), .d (.int .i64 j.Lo), .d (.int .i64 j.Hi), .d (.int .i64 j.Rule), .d (.bool j.Last), .d (.sl false 1 (mI j.Next))]) rfl rfl i65 hm.s0 hm.s1 rfl hm.o0 (nb rfl) rfl ⟨u0, rfl⟩)) (fun p => Zj rfl rfl) (gF [0,1,3,7,15,0,32,0,224,480,1023,2047,0,8191] Qz rfl (by kernel_rfl) (fun _ => by kernel_rfl) (fun p u hu => (tN (Qk hu (T.seq (Uv ?_)))))))))
  refine gP rfl (fun _ => .f rfl) ul65 i4 (fun _ => rfl) (gL 0 rfl (fun _ => .f rfl) ul4 (fun _ => rfl) (gM rfl (fun _ => .f rfl) (fun _ => rfl) ?_))
  rcases Qe h with ⟨w, h⟩ | ⟨w, h⟩
  refine gM rfl (fun _ => .n w rfl) (fun _ => rfl) (gW 5 [.sl false 1 (mI x1.L), .sl false 1 (mI x1.R), .sl false 1 (mI x1.Rule), .sl false 1 (x1.Next.map (cL 2 Qi))] rfl (fun _ => .n w rfl) Ju i51 (fun _ => rfl) (gM rfl (fun _ => .n w rfl) (fun _ => rfl) (gP rfl (fun _ => .n w rfl) Ju i38 (fun _ => rfl) (gL 5 rfl (fun _ => .n w rfl) Zu (fun _ => rfl) (gM rfl (fun _ => .n w rfl) (fun _ => rfl) (gX x1.L (cI .i64) rfl (fun _ => .n w rfl) Zu i3 al (fun _ => rfl) ?_))))))
  refine gR rfl (fun _ => .n w rfl) ul3 (fun _ => rfl) ?_
  obtain ⟨af, an, h⟩ := bind_some h
  refine DGG.step (c := fun m => ⟨some 40, .bool af, [(32, .ptr bx0 0), (33, .agg [.sl false 1 (mI x1.L), .sl false 1 (mI x1.R), .sl false 1 (mI x1.Rule), .sl false 1 (x1.Next.map (cL 2 Qi))]), (34, .int .i64 x2), (39, .int .i64 ad), (31, .bool j.Last)], [(4, .arrX w0_0aa 51 4 0 (x0.a.States.map Qd)), (3, .arrA ac 59 2 (mA x0.a.Counts)), (2, .arrA ab 3 1 (mI x0.number)), (1, (Gk bx0 x0.g.First x0.g.P ab x0.a.Split.Of x0.a.Split.Many ac w0_0aa x0.e))], [(1, (Gk bx0 x0.g.First x0.g.P ((m 11).1 0) x0.a.Split.Of x0.a.Split.Many ((m 11).1 1) ((m 11).1 2) x0.e)), (2, .arrA ((m 11).1 0) 3 1 (mI x0.number)), (3, .arrA ((m 11).1 1) 59 2 (mA x0.a.Counts)), (4, .arrX ((m 11).1 2) 51 4 0 (x0.a.States.map Qd))]⟩) [11] (fun m γ' h => by simp only [h 11 (by decide)]) (fun m t hm => One.step rfl (.on rfl rfl (hm.slots (31, _) (.tail _ (.tail _ (.tail _ (.tail _ (.head _)))))) w) (Q4 (is := [1, 2, 3, 4]) (ph := []) rfl (dk rfl) fu79 rfl rfl (Zk.cons hm.s0 (Zk.cons hm.s1 (Zk.cons hm.s2 (Zk.cons hm.s3 Zk.nil)))) (Kc K (bx0 := bx0) (wx0c1 := ab) (wx0c2c1 := ac) (wx0c2c2 := w0_0aa) an) (.cons (hm.objs (1, _) (.tail _ (.tail _ (.tail _ (.head _))))) rfl (.cons hm.o2 rfl (.cons hm.o1 rfl (.cons hm.o0 rfl (.nil))))) (fun _ => rfl) (fun g => ⟨(g, 0), rfl⟩))) (fun m => Zj rfl rfl) (gY rfl (fun _ => .f rfl) w (fun _ => rfl) (gM rfl (fun _ => .f rfl) (fun _ => rfl) ?_))
  rcases Qe h with ⟨ag, h⟩ | ⟨ag, h⟩
  refine gM rfl (fun _ => .n ag rfl) (fun _ => rfl) (gI rfl (fun _ => .n ag rfl) (fun _ => rfl) (gM rfl (fun _ => .n ag rfl) (fun _ => rfl) ?_))
  rcases Qe h with ⟨ai, h⟩ | ⟨ai, h⟩
  refine DGG.off ai rfl rfl rfl rfl rfl (fun _ => rfl) (DGG.off ai rfl rfl rfl rfl rfl (fun _ => rfl) (DGG.off ai rfl rfl rfl rfl rfl (fun _ => rfl) (DGG.off ai rfl rfl rfl rfl rfl (fun _ => rfl) (gY rfl (fun _ => .n ag rfl) ai (fun _ => rfl) (gY rfl (fun _ => .f rfl) ag (fun _ => rfl) (gF [0,1,3,7,7,7,7,71,7,455,967,2047,4095,8191,16383,32767,65535,131071,262143,131071,1048575,2097151,4194303] Qz rfl (by kernel_rfl) (fun _ => by kernel_rfl) (fun m u hu => (tN (Qk hu ?_)))))))))
  refine Qp rfl rfl (Qq (oP ul65 i3 rfl (oL 0 ul3 rfl (aw rfl (nL (Qn (tN (Qq ?_))))))))
  refine mw rfl (oI rfl (aw rfl (nL (tN ?_))))
  refine Qg ?_ (ih x2 j.Rule (wI (aa + (1:Int))) x0 x1 ((m 11).1 0) ((m 11).1 1) ((m 11).1 2) q h)
  exact tr rfl (.c (.s .z) (.c (.s .z) (.c (.s .z) (.c (.s .z) (.c (.s .z) (.n _))))))
  cases h
  cases h
  refine DGG.off w rfl rfl rfl rfl rfl (fun _ => rfl) (DGG.off w rfl rfl rfl rfl rfl (fun _ => rfl) (DGG.off w rfl rfl rfl rfl rfl (fun _ => rfl) (DGG.off w rfl rfl rfl rfl rfl (fun _ => rfl) (DGG.off w rfl rfl rfl rfl rfl (fun _ => rfl) (DGG.off w rfl rfl rfl rfl rfl (fun _ => rfl) (DGG.off w rfl rfl rfl rfl rfl (fun _ => rfl) ?_))))))
  refine DGG.off w rfl rfl rfl rfl rfl (fun _ => rfl) (DGG.off w rfl rfl rfl rfl rfl (fun _ => rfl) (gZ rfl (fun _ => .f rfl) w (fun _ => rfl) (gM rfl (fun _ => .f rfl) (fun _ => rfl) (DGG.off rfl rfl rfl rfl rfl rfl (fun _ => rfl) (DGG.off rfl rfl rfl rfl rfl rfl (fun _ => rfl) (DGG.off rfl rfl rfl rfl rfl rfl (fun _ => rfl) ?_))))))
  refine DGG.gone rfl rfl rfl rfl rfl (fun _ => rfl) (DGG.gone rfl rfl rfl rfl rfl (fun _ => rfl) (DGG.gone rfl rfl rfl rfl rfl (fun _ => rfl) (DGG.gone rfl rfl rfl rfl rfl (fun _ => rfl) (DGG.off rfl rfl rfl rfl rfl rfl (fun _ => rfl) (gZ rfl (fun _ => .f rfl) rfl (fun _ => rfl) (gF [0,1,3,7,7,7,7,71,7,455,967,2047,4095,8191,16383,32767,65535,131071,262143,131071,1048575,2097151,4194303] Qz rfl (by kernel_rfl) (fun _ => by kernel_rfl) (fun m u hu => (tN (Qk hu ?_)))))))))
  refine Qo rfl rfl (T.skip (Qn (tN (Qq (mw rfl (oI rfl (aw rfl (nL (tN ?_)))))))))
  refine Qg ?_ (ih x2 y (wI (aa + (1:Int))) x0 x1 ab ac w0_0aa q h)
  exact tr rfl (.c (.s .z) (.c (.s .z) (.c (.s .z) (.c (.s .z) (.c (.s .z) (.n _))))))
  refine Qo rfl aj (T.exit (Ql (Ql (Qr (tN (sR (Qq (mw rfl (aw rfl (nL (tN (T.ret ?_))))))))))))
  exact Q2 (.cons _ _ _ _ (.tmp 6 _ rfl) .nil) (.cons 0 rfl (.cons 0 rfl (.cons 0 rfl (.cons 0 rfl (.nil _))))) (by cases h; exact ⟨gl [ab, ac, w0_0aa], rfl, rfl⟩)
theorem Iq (K : Nat) {x0 : Qh} {x1 : Qa} {x2 : Int} {bx0 : Nat} {wx0c1 wx0c2c1 wx0c2c2 : Value} {r : Int} (h : Wz K x0 x1 x2 = some r) : V6 tp 47 [.ptr bx0 0, .agg [.sl false 1 (mI x1.L), .sl false 1 (mI x1.R), .sl false 1 (mI x1.Rule), .sl false 1 (x1.Next.map (cL 2 Qi))], .int .i64 x2] [(Gk bx0 x0.g.First x0.g.P wx0c1 x0.a.Split.Of x0.a.Split.Many wx0c2c1 wx0c2c2 x0.e), .arrA wx0c1 3 1 (mI x0.number), .arrA wx0c2c1 59 2 (mA x0.a.Counts), .arrX wx0c2c2 51 4 0 (x0.a.States.map Qd)] (fun γ => (.int .i64 r)) (fun γ => [(Gk bx0 x0.g.First x0.g.P (γ 0) x0.a.Split.Of x0.a.Split.Many (γ 1) (γ 2) x0.e), .arrA (γ 0) 3 1 (mI x0.number), .arrA (γ 1) 59 2 (mA x0.a.Counts), .arrX (γ 2) 51 4 0 (x0.a.States.map Qd)]) := by
 refine CI 55 fu47 rfl ?_
 unfold Wz at h
 refine sR (Qq (sp rfl (Zc rfl (dk rfl) rfl (fun b => (aw rfl (nL (tN (sR (Qq (aw rfl (nL (tN (T.seq ?_)))))))))))))
 refine sR (Qq (aw rfl (nL (tN (T.block (T.loop ?_))))))
 refine Qg ?_ (Dl K bx0 x0 K x2 (-1:Int) (0:Int) x0 x1 wx0c1 wx0c2c1 wx0c2c2 b h)
 exact tr rfl (.c (.s .z) (.c (.s .z) (.c (.s .z) (.c (.s .z) (.c .z (.n _))))))
abbrev Qd0 (r : Z2) : ES := U6 tp ff115 (fun y t => y = (.agg (Z2.dc .u64 r)) ∧ t = [])
abbrev Tw (r : Z2) : ES := fT 25 [1,1,1] ff115 (Qd0 r)
abbrev P5 (r : Z2) : ES := Qx 0 ((Tw r))
theorem Qao {r : Z2} (K : Nat) : ∀ (k : Nat), ∀ (x1 b : Int) (x0 : Q5) (j : Z2) (g : List Int) (l m : Nat) (p : Value), J1 K k x1 b x0 j g = some r → TL tp 25 (ca [1,1,0,1,0,0] ff115) ⟨[(1, .int .i64 x1), (2, .ptr l 0), (4, .ptr m 0), (5, .c (.ex p)), (6, .int .i64 b)], [(b24x7 l x0.Of x0.Many), .box m 63 (Z2.oc .u64 j), .arrA p 5 1 (mU g)]⟩ (P5 r) := by
 intro k
 induction k with
 | zero =>
  intro x1 b x0 j g l m p h
  exact zn h
 | succ k ih =>
  intro x1 b x0 j g l m p h
  rw [J1] at h
  refine Q3 (T.seq (sR (Qq (mw rfl (oI rfl (nL (tN ?_)))))))
  rcases Qe h with ⟨s, h⟩ | ⟨s, h⟩
  refine Qp rfl s (T.skip (tN (T.seq (T.block (sR (Qq (mw rfl (oP ul24 i22 rfl ?_))))))))
  obtain ⟨q, h⟩ := Q6 h
  refine sp rfl (Z1 rfl (dk rfl) ul22 i5 rfl rfl q.1 q.2 (sp rfl (Zw (i := 0) rfl (dk rfl) ul5 rfl rfl rfl (Qcl (n := 256) (k := .u8) (a := x0.Of) (pre := []) (post := [.d (.int .i64 x0.Many)]) q.1 q.2) (sp rfl (Xj rfl (dk rfl) ul5 ul3 rfl (mw rfl (oI rfl (nL (tN ?_)))))))))
  rcases Qe h with ⟨u, h⟩ | ⟨u, h⟩
  refine Qp rfl u (Qq (mw rfl (mw rfl (sp rfl (Xj rfl (dk rfl) ul3 ul5 rfl (sp rfl (OpT.buildSlice (elems := ([(IntKind.u8.wrap b)] : List Int).map (cI .u8)) rfl (dk rfl) B6 i5 (by decide) rfl (G9 rfl) rfl rfl rfl (Vg rfl) (by decide) ?_)))))))
  obtain ⟨w, h⟩ := Q6 h
  refine sp rfl (Zr (i := 2) (xs := g) (ys := [(IntKind.u8.wrap b)]) (f := (cI .u8)) rfl (dk rfl) B6 i5 rfl rfl rfl rfl w (fun y => (aw rfl (nL (Qn (tN (Qq (mw rfl (oI rfl (aw rfl ?_))))))))))
  refine nL (tN ?_)
  refine Qg ?_ (ih x1 (wI (b + (1:Int))) x0 j (g ++ [(IntKind.u8.wrap b)]) l m y h)
  exact tq rfl rfl
  refine Qo rfl u (T.skip (Qn (tN (Qq (mw rfl (oI rfl (aw rfl (nL (tN ?_)))))))))
  refine Qg ?_ (ih x1 (wI (b + (1:Int))) x0 j g l m p h)
  exact tq rfl rfl
  refine Qo rfl s (T.exit (Ql (Ql (Qr (tN (sR (Qq (mw rfl ?_))))))))
  obtain ⟨v, aa, h⟩ := bind_some h
  refine sp rfl (Ub rfl (dk rfl) fu131 rfl rfl (Zk.view (i := 2) rfl rfl Zk.nil) (Zl.nil (Ru K (flx0 := false) aa)) (sp rfl (Qu (i := 1) (cells' := (Z2.oc .u64 v)) rfl rfl i63 rfl rfl rfl rfl (nb rfl) rfl (nL (tN (T.ret (Fin.done (.cons _ _ _ _ (.cellAgg 4 63 _ 0 1 63 _ (Z2.dc .u64 v) _ _ 4 _ rfl rfl rfl rfl Qfl rfl i63) .nil) (by cases h; exact ⟨rfl, rfl⟩))))))))
theorem Qd1 (K : Nat) {x0 : Q5} {x1 : Int} {r : Z2} (h : F3 K x0 x1 = some r) : Zl tp 115 [.agg ((Zg.dc 256 .u8 x0.Of) ++ (([.int .i64 x0.Many] : List DC))), .int .i64 x1] [] (.agg (Z2.dc .u64 r)) := by
 refine CI 25 fu115 rfl ?_
 unfold F3 at h
 refine sR (Qq (sp rfl (Zc rfl (dk rfl) rfl (fun a => (sp rfl (Zb rfl (dk rfl) i63 rfl (fun b => (nL (tN (sR (Qq (aw rfl (nL (tN (T.seq ?_)))))))))))))))
 refine sR (Qq (aw rfl (nL (tN (T.block (T.loop (Qg (Xh 5 1) ?_)))))))
 refine Qg ?_ (Qao K K x1 (0:Int) x0 (Z2.mk 0 0 0 0) [] a b (Qdv 2) h)
 exact tr rfl (.c (.s (.s .z)) (.c (.s .z) (.c .z (.n _))))
abbrev Qc9 (r : List Int) : ES := U6 tp ff114 (fun y t => y = (.sl false 1 (mU r)) ∧ t = [])
abbrev S1 (r : List Int) : ES := fT 19 [1,1,1] ff114 (Qc9 r)
abbrev Pa (r : List Int) : ES := Qx 0 ((S1 r))
theorem Ty {r : List Int} (K : Nat) : ∀ (k : Nat), ∀ (a : Int) (x0 : Z2) (b : List Int) (d : Nat) (g : Value), U9 K k a x0 b = some r → TL tp 19 (ca [1,1,0,1,0,0] ff114) ⟨[(1, .ptr d 0), (3, .c (.ex g)), (4, .int .i64 a)], [.box d 63 (Z2.oc .u64 x0), .arrA g 5 1 (mU b)]⟩ (Pa r) := by
 intro k
 induction k with
 | zero =>
  intro a x0 b d g h
  exact zn h
 | succ k ih =>
  intro a x0 b d g h
  rw [U9] at h
  refine Q3 (T.seq (sR (Qq (mw rfl (oI rfl (nL (tN ?_)))))))
  rcases Qe h with ⟨j, h⟩ | ⟨j, h⟩
  refine Qp rfl j (T.skip (tN (T.seq (T.block (sR (Qq (oA 0 (Z2.dc .u64 x0) Qfl i63 rfl (mw rfl ?_))))))))
  refine sp rfl (Xj rfl (dk rfl) ul3 ul5 rfl ?_)
  obtain ⟨u, p, h⟩ := bind_some h
  refine oH fu81 (Zl.nil (Hb K p)) rfl (nL (tN ?_))
  rcases Qe h with ⟨m, h⟩ | ⟨m, h⟩
  refine Qp rfl m (Qq (mw rfl (mw rfl (sp rfl (Xj rfl (dk rfl) ul3 ul5 rfl (sp rfl (OpT.buildSlice (elems := ([(IntKind.u8.wrap a)] : List Int).map (cI .u8)) rfl (dk rfl) B6 i5 (by decide) rfl (G9 rfl) rfl rfl rfl (Vg rfl) (by decide) ?_)))))))
  obtain ⟨q, h⟩ := Q6 h
  refine sp rfl (Zr (i := 1) (xs := b) (ys := [(IntKind.u8.wrap a)]) (f := (cI .u8)) rfl (dk rfl) B6 i5 rfl rfl rfl rfl q (fun s => (aw rfl (nL (Qn (tN (Qq (mw rfl (oI rfl (aw rfl ?_))))))))))
  refine nL (tN ?_)
  refine Qg ?_ (ih (wI (a + (1:Int))) x0 (b ++ [(IntKind.u8.wrap a)]) d s h)
  exact tq rfl rfl
  refine Qo rfl m (T.skip (Qn (tN (Qq (mw rfl (oI rfl (aw rfl (nL (tN ?_)))))))))
  refine Qg ?_ (ih (wI (a + (1:Int))) x0 b d g h)
  exact tq rfl rfl
  refine Qo rfl j (T.exit (Ql (Ql (Qr (tN (sR (Qq (mw rfl (aw rfl (nL (tN (T.ret ?_))))))))))))
  refine Xr (Zy.view 2 1 rfl rfl) (fd rfl (by cases h; exact ⟨rfl, rfl⟩))
theorem Qda (K : Nat) {x0 : Z2} {r : List Int} (h : D3 K x0 = some r) : Zl tp 114 [.agg (Z2.dc .u64 x0)] [] (.sl false 1 (mU r)) := by
 refine CI 19 fu114 rfl ?_
 unfold D3 at h
 refine sR (Qq (sp rfl (Zc rfl (dk rfl) rfl (fun a => (aw rfl (nL (tN (sR (Qq (aw rfl (nL (tN (T.seq ?_)))))))))))))
 refine sR (Qq (aw rfl (nL (tN (T.block (T.loop (Qg (Xh 5 1) ?_)))))))
 refine Qg ?_ (Ty K K (0:Int) x0 [] a (Qdv 2) h)
 exact tr rfl (.c (.s .z) (.c .z (.n _)))
abbrev Qca (r : List Int) : ES := U6 tp ff80 (fun y t => y = (.sl false 1 (mU r)) ∧ t = [])
abbrev O9 (r : List Int) : ES := fT 37 [1,1,1,1] ff80 (Qca r)
abbrev I4 (r : List Int) : ES := Qx 0 ((O9 r))
theorem Sz {r : List Int} (K : Nat) : ∀ (k : Nat), ∀ (b : Int) (x0 : Q5) (a : List Int) (g : Nat) (j : Value), Wo K k b x0 a = some r → TL tp 37 (ca [1,1,1,0,1,0,0] ff80) ⟨[(1, .ptr g 0), (3, .c (.ex j)), (4, .int .i64 b)], [(b24x7 g x0.Of x0.Many), .arrA j 5 1 (mU a)]⟩ (I4 r) := by
 intro k
 induction k with
 | zero =>
  intro b x0 a g j h
  exact zn h
 | succ k ih =>
  intro b x0 a g j h
  rw [Wo] at h
  refine Q3 (T.seq (sR (Qq (mw rfl (oP ul24 i3 rfl (oL 0 ul3 rfl (oI rfl ?_)))))))
  refine nL (tN ?_)
  rcases Qe h with ⟨p, h⟩ | ⟨p, h⟩
  refine Qp rfl p (T.skip (tN (T.seq (T.block (sR (Qq (oA 0 ((Zg.dc 256 .u8 x0.Of) ++ (([.int .i64 x0.Many] : List DC))) ul24 i24 rfl (mw rfl ?_))))))))
  obtain ⟨ac, u, h⟩ := bind_some h
  refine oH fu115 (Zl.nil (Qd1 K u)) rfl ?_
  obtain ⟨q, w, h⟩ := bind_some h
  refine oH fu114 (Zl.nil (Qda K w)) rfl (aw rfl (nL (tN (sR (Qq (mw rfl (oU q (cI .u8) B6 rfl (oI rfl (nL (tN ?_))))))))))
  rcases Qe h with ⟨s, h⟩ | ⟨s, h⟩
  cases h
  refine Qo rfl s (Qq (mw rfl (mw rfl ?_)))
  obtain ⟨m, y, h⟩ := bind_some h
  refine oX q (cI .u8) B6 i5 y rfl (oR ul5 rfl (sp rfl (OpT.buildSlice (elems := ([m] : List Int).map (cI .u8)) rfl (dk rfl) B6 i5 (by decide) rfl (G9 rfl) rfl rfl rfl (Vg rfl) (by decide) ?_)))
  obtain ⟨aa, h⟩ := Q6 h
  refine sp rfl (Zr (i := 1) (xs := a) (ys := [m]) (f := (cI .u8)) rfl (dk rfl) B6 i5 rfl rfl rfl rfl aa (fun ab => (aw rfl (nL (Qn (tN (Qq (mw rfl (oI rfl (aw rfl ?_))))))))))
  refine nL (tN ?_)
  refine Qg ?_ (ih (wI (b + (1:Int))) x0 (a ++ [m]) g ab h)
  exact tq rfl rfl
  refine Qo rfl p (T.exit (Ql (Ql (Qr (tN (sR (Qq (mw rfl (aw rfl (nL (tN (T.ret ?_))))))))))))
  refine Xr (Zy.view 2 1 rfl rfl) (fd rfl (by cases h; exact ⟨rfl, rfl⟩))
theorem Qcb (K : Nat) {x0 : Q5} {r : List Int} (h : Cp K x0 = some r) : Zl tp 80 [.agg ((Zg.dc 256 .u8 x0.Of) ++ (([.int .i64 x0.Many] : List DC)))] [] (.sl false 1 (mU r)) := by
 refine CI 37 fu80 rfl ?_
 unfold Cp at h
 refine sR (Qq (sp rfl (Zc rfl (dk rfl) rfl (fun d => (aw rfl (nL (tN (T.seq (sR (Qq (oP ul24 i3 rfl ?_)))))))))))
 refine oL 0 ul3 rfl (oI rfl (mw rfl ?_))
 rcases Qe h with ⟨a, h⟩ | ⟨a, h⟩
 cases h
 refine sn rfl a (Xi rfl (dk rfl) ul24 rfl i3 (by decide) rfl (sn rfl a (Zw (i := 0) rfl (dk rfl) ul3 rfl rfl rfl rfl (sn rfl a (Zi rfl rfl (dk rfl) rfl rfl (oZ a rfl (nL (tN ?_))))))))
 rcases Qe h with ⟨b, h⟩ | ⟨b, h⟩
 cases h
 refine Qo rfl b (T.skip (tN (sR (Qq (aw rfl (nL (tN (T.seq (sR (Qq ?_))))))))))
 refine aw rfl (nL (tN (T.block (T.loop (Qg (Xh 5 1) ?_)))))
 refine Qg ?_ (Sz K K (0:Int) x0 [] d (Qdv 2) h)
 exact tr rfl (.c (.s .z) (.c .z (.n _)))
abbrev Qe2 (r : Bool) : ES := U6 tp ff112 (fun y t => y = (.bool r) ∧ t = [])
abbrev Qbj (r : Bool) : ES := fT 18 [1,1] ff112 (Qe2 r)
abbrev Tr (r : Bool) : ES := Qx 0 ((Qbj r))
theorem Qbk {r : Bool} (K : Nat) : ∀ (k : Nat), ∀ (x0 : List Int) (x1 a : Int) (flx0 : Bool), V9 K k x0 x1 a = some r → TL tp 18 (ca [1,0,1,0,0] ff112) ⟨[(0, .sl flx0 1 (mI x0)), (1, .int .i64 x1), (5, .int .i64 a)], []⟩ (Tr r) := by
 intro k
 induction k with
 | zero =>
  intro x0 x1 a flx0 h
  exact zn h
 | succ k ih =>
  intro x0 x1 a flx0 h
  rw [V9] at h
  refine Q3 (T.seq (sR (Qq (mw rfl (mw rfl (oU x0 (cI .i64) Zu rfl (oI rfl ?_)))))))
  refine nL (tN ?_)
  rcases Qe h with ⟨b, h⟩ | ⟨b, h⟩
  refine Qp rfl b (T.skip (tN (T.seq (T.block (sR (Qq (mw rfl (mw rfl ?_))))))))
  obtain ⟨d, g, h⟩ := bind_some h
  refine oX x0 (cI .i64) Zu i3 g rfl (oR ul3 rfl (mw rfl (oI rfl (nL (tN ?_)))))
  rcases Qe h with ⟨c, h⟩ | ⟨c, h⟩
  refine Qp rfl c (sR (Qq (aw rfl (nL (tN (T.ret (Q1 (Qv (Qv (Q1 (Qv (fd rfl (by cases h; exact ⟨rfl, rfl⟩)))))))))))))
  refine Qo rfl c (T.skip (Qn (tN (Qq (mw rfl (oI rfl (aw rfl (nL (tN ?_)))))))))
  refine Qg ?_ (ih x0 x1 (wI (a + (1:Int))) flx0 h)
  exact tq rfl rfl
  refine Qo rfl b (T.exit (Ql (Ql (Qr (tN (sR (Qq (aw rfl (nL (tN (T.ret (fd rfl (by cases h; exact ⟨rfl, rfl⟩)))))))))))))
theorem K6 (K : Nat) {x0 : List Int} {x1 : Int} {flx0 r : Bool} (h : U1 K x0 x1 = some r) : Zl tp 112 [.sl flx0 1 (mI x0), .int .i64 x1] [] (.bool r) := by
 refine CI 18 fu112 rfl ?_
 unfold U1 at h
 refine sR (Qq (aw rfl (nL (tN (T.seq (sR (Qq (aw rfl (nL (tN ?_))))))))))
 refine T.block (T.loop ?_)
 refine Qg ?_ (Qbk K K x0 x1 (0:Int) flx0 h)
 exact tq rfl rfl
abbrev Eh (bx0 : Nat) (x0 : Qh) (r : Bool) : ES := U6 tp ff82 (fun y t => ∃ γ : Nat → Value, y = (.bool r) ∧ t = [(Gk bx0 x0.g.First x0.g.P (γ 0) x0.a.Split.Of x0.a.Split.Many (γ 1) (γ 2) x0.e), .arrA (γ 0) 3 1 (mI x0.number), .arrA (γ 1) 59 2 (mA x0.a.Counts), .arrX (γ 2) 51 4 0 (x0.a.States.map Qd)])
abbrev Bo (bx0 : Nat) (x0 : Qh) (r : Bool) : ES := fT 54 [1,1,1] ff82 (Eh bx0 x0 r)
abbrev Mw (bx0 : Nat) (x0 : Qh) (r : Bool) : ES := Qx 0 ((Bo bx0 x0 r))
theorem Cg {r : Bool} (K bx0 : Nat) (x0 : Qh) : ∀ (k : Nat), ∀ (x3 x4 s : Int) (x0 : Qh) (x2 : Qa) (y aa w0_0aa : Value) (p : Nat), X9 K k x3 x4 s x0 x2 = some r → TL tp 54 (ca [1,1,0,1,0,0] ff82) ⟨[(0, .ptr bx0 0), (3, .int .i64 x3), (4, .int .i64 x4), (7, .ptr p 0), (11, .int .i64 s)], [(Gk bx0 x0.g.First x0.g.P y x0.a.Split.Of x0.a.Split.Many aa w0_0aa x0.e), .arrA y 3 1 (mI x0.number), .arrA aa 59 2 (mA x0.a.Counts), .arrX w0_0aa 51 4 0 (x0.a.States.map Qd), (K3 p x2.L x2.R x2.Rule x2.Next)]⟩ (Mw bx0 x0 r) := by
 intro k
 induction k with
 | zero =>
  intro x3 x4 s x0 x2 y aa w0_0aa p h
  exact zn h
 | succ k ih =>
  intro x3 x4 s x0 x2 y aa w0_0aa p h
  rw [X9] at h
  refine Q3 (T.seq (sR (Qq (mw rfl (oP Ju i38 rfl (oL 4 Zu rfl (oU x2.L (cI .i64) Zu rfl ?_)))))))
  refine oI rfl (nL (tN ?_))
  rcases Qe h with ⟨ac, h⟩ | ⟨ac, h⟩
  refine Qp rfl ac (T.skip (tN (T.seq (T.block (T.seq (Uv (gM rfl (fun _ => .f rfl) (fun _ => rfl) ?_)))))))
  refine gW 4 [.sl false 1 (mI x2.L), .sl false 1 (mI x2.R), .sl false 1 (mI x2.Rule), .sl false 1 (x2.Next.map (cL 2 Qi))] rfl (fun _ => .f rfl) Ju i51 (fun _ => rfl) (gM rfl (fun _ => .f rfl) (fun _ => rfl) (gP rfl (fun _ => .f rfl) Ju i38 (fun _ => rfl) (gL 4 rfl (fun _ => .f rfl) Zu (fun _ => rfl) (gM rfl (fun _ => .f rfl) (fun _ => rfl) ?_))))
  obtain ⟨w, af, h⟩ := bind_some h
  refine gX x2.L (cI .i64) rfl (fun _ => .f rfl) Zu i3 af (fun _ => rfl) (gR rfl (fun _ => .f rfl) ul3 (fun _ => rfl) ?_)
  obtain ⟨m, ag, h⟩ := bind_some h
  refine DGG.step (c := fun b => ⟨some 36, .bool m, [(28, .ptr bx0 0), (29, .agg [.sl false 1 (mI x2.L), .sl false 1 (mI x2.R), .sl false 1 (mI x2.Rule), .sl false 1 (x2.Next.map (cL 2 Qi))]), (30, .int .i64 x3), (35, .int .i64 w)], [(3, .arrX w0_0aa 51 4 0 (x0.a.States.map Qd)), (2, .arrA aa 59 2 (mA x0.a.Counts)), (1, .arrA y 3 1 (mI x0.number)), (0, (Gk bx0 x0.g.First x0.g.P y x0.a.Split.Of x0.a.Split.Many aa w0_0aa x0.e))], [(0, (Gk bx0 x0.g.First x0.g.P ((b 8).1 0) x0.a.Split.Of x0.a.Split.Many ((b 8).1 1) ((b 8).1 2) x0.e)), (1, .arrA ((b 8).1 0) 3 1 (mI x0.number)), (2, .arrA ((b 8).1 1) 59 2 (mA x0.a.Counts)), (3, .arrX ((b 8).1 2) 51 4 0 (x0.a.States.map Qd))]⟩) [8] (fun b γ' h => by simp only [h 8 (by decide)]) (fun b t hm => oF rfl rfl (Q4 (is := [0, 1, 2, 3]) (ph := []) rfl (dk rfl) fu79 rfl rfl (Zk.cons hm.s0 (Zk.cons hm.s1 (Zk.cons hm.s2 (Zk.cons hm.s3 Zk.nil)))) (Kc K (bx0 := bx0) (wx0c1 := y) (wx0c2c1 := aa) (wx0c2c2 := w0_0aa) ag) (.cons (hm.objs (0, _) (.tail _ (.tail _ (.tail _ (.head _))))) rfl (.cons hm.o2 rfl (.cons hm.o1 rfl (.cons hm.o0 rfl (.nil))))) (fun _ => rfl) (fun g => ⟨(g, 0), rfl⟩))) (fun b => Zj rfl rfl) (gM rfl (fun _ => .f rfl) (fun _ => rfl) ?_)
  rcases Qe h with ⟨q, h⟩ | ⟨q, h⟩
  refine gM rfl (fun _ => .n q rfl) (fun _ => rfl) (gK rfl (fun _ => .n q rfl) (fun _ => rfl) (gP rfl (fun _ => .n q rfl) Qdt i43 (fun _ => rfl) (gP rfl (fun _ => .n q rfl) Qfm i41 (fun _ => rfl) (DGG.step (c := fun b => ⟨some 42, .sl false 9 (x0.g.P.map Qy), [(41, .ptr bx0 (0 + 0 + 1)), (37, .bool m)], [(0, (Gk bx0 x0.g.First x0.g.P ((b 8).1 0) x0.a.Split.Of x0.a.Split.Many ((b 8).1 1) ((b 8).1 2) x0.e))], []⟩) [8] (fun b γ' h => by simp only [h 8 (by decide)]) (fun b t hm => oN rfl rfl rfl hm.s1 q (Zw (i := 0) rfl (dk rfl) Rl rfl hm.s0 hm.o0 rfl ⟨u0, rfl⟩)) (fun b => Zj rfl rfl) (gP rfl (fun _ => .n q rfl) Ju i38 (fun _ => rfl) (gL 4 rfl (fun _ => .n q rfl) Zu (fun _ => rfl) ?_))))))
  refine gM rfl (fun _ => .n q rfl) (fun _ => rfl) (gX x2.L (cI .i64) rfl (fun _ => .n q rfl) Zu i3 af (fun _ => rfl) (gR rfl (fun _ => .n q rfl) ul3 (fun _ => rfl) ?_))
  obtain ⟨j, ai, h⟩ := bind_some h
  refine gX x0.g.P Qy rfl (fun _ => .n q rfl) Rl i65 ai (fun _ => rfl) (gQ rfl (fun _ => .n q rfl) ul65 i38 (fun _ => rfl) (gR rfl (fun _ => .n q rfl) Zu (fun _ => rfl) (gM rfl (fun _ => .n q rfl) (fun _ => rfl) ?_)))
  obtain ⟨ab, aj, h⟩ := bind_some h
  refine dC (c := ⟨some 52, .bool ab, [(50, .sl false 1 (mI j.Next)), (51, .int .i64 x4), (37, .bool m)], [], []⟩) (fun t hm => oN rfl rfl rfl hm.s2 q (Ub rfl (dk rfl) fu112 rfl rfl (Zk.cons hm.s0 (Zk.cons hm.s1 Zk.nil)) (Zl.nil (K6 K (flx0 := false) aj)) ⟨u0, rfl⟩)) (fun _ => rfl) (fun _ => rfl) (gY rfl (fun _ => .f rfl) q (fun _ => rfl) (gF [0,0,0,0,8,0,56,120,255,511,1023,2047,4095,8191,16383,1023,33791,1023,230399,492543,1048575,2097151,4194303,1023,16777215,33554431] Qz rfl (by kernel_rfl) (fun _ => by kernel_rfl) (fun b u hu => (tN (Qk hu ?_)))))
  rcases Qe h with ⟨ad, h⟩ | ⟨ad, h⟩
  refine Qp rfl ad (sR (Qq (aw rfl (nL (tN (T.ret (Q1 (Qv (Qv (Q1 (Qv (Q2 (.cons _ _ _ _ (.tmp 10 _ rfl) .nil) (.cons 0 rfl (.cons 0 rfl (.cons 0 rfl (.cons 0 rfl (.nil _))))) (by cases h; exact ⟨gl [(b 8).1 0, (b 8).1 1, (b 8).1 2], rfl, rfl⟩)))))))))))))
  refine Qo rfl ad (T.skip (Qn (tN (Qq (mw rfl (oI rfl (aw rfl (nL (tN ?_)))))))))
  refine Qg ?_ (ih x3 x4 (wI (s + (1:Int))) x0 x2 ((b 8).1 0) ((b 8).1 1) ((b 8).1 2) p h)
  exact tq rfl rfl
  cases h
  refine Qo rfl ac (T.exit (Ql (Ql (Qr (tN (sR (Qq (aw rfl (nL (tN (T.ret (Q2 (.cons _ _ _ _ (.tmp 10 _ rfl) .nil) (.cons 0 rfl (.cons 0 rfl (.cons 0 rfl (.cons 0 rfl (.nil _))))) (by cases h; exact ⟨gl [y, aa, w0_0aa], rfl, rfl⟩)))))))))))))
theorem Ei (K : Nat) {x0 : Qh} {x1 : Int} {x2 : Qa} {x3 x4 : Int} {bx0 : Nat} {wx0c1 wx0c2c1 wx0c2c2 : Value} {r : Bool} (h : Jo K x0 x1 x2 x3 x4 = some r) : V6 tp 82 [.ptr bx0 0, .int .i64 x1, .agg [.sl false 1 (mI x2.L), .sl false 1 (mI x2.R), .sl false 1 (mI x2.Rule), .sl false 1 (x2.Next.map (cL 2 Qi))], .int .i64 x3, .int .i64 x4] [(Gk bx0 x0.g.First x0.g.P wx0c1 x0.a.Split.Of x0.a.Split.Many wx0c2c1 wx0c2c2 x0.e), .arrA wx0c1 3 1 (mI x0.number), .arrA wx0c2c1 59 2 (mA x0.a.Counts), .arrX wx0c2c2 51 4 0 (x0.a.States.map Qd)] (fun γ => (.bool r)) (fun γ => [(Gk bx0 x0.g.First x0.g.P (γ 0) x0.a.Split.Of x0.a.Split.Many (γ 1) (γ 2) x0.e), .arrA (γ 0) 3 1 (mI x0.number), .arrA (γ 1) 59 2 (mA x0.a.Counts), .arrX (γ 2) 51 4 0 (x0.a.States.map Qd)]) := by
 refine CI 54 fu82 rfl ?_
 unfold Jo at h
 refine sR (Qq (sp rfl (Zc rfl (dk rfl) rfl (fun f => (aw rfl (nL (tN (T.seq (sR (Qq (mw rfl ?_)))))))))))
 refine oI rfl (nL (tN ?_))
 rcases Qe h with ⟨b, h⟩ | ⟨b, h⟩
 refine Qp rfl b (sR (Qq (mw rfl (oK rfl (oP Qdt i43 rfl (oP Qfm i38 rfl (oL 1 Zu rfl ?_)))))))
 refine mw rfl ?_
 obtain ⟨l, j, h⟩ := bind_some h
 refine oH fu112 (Zl.nil (K6 K (flx0 := false) j)) rfl (aw rfl (nL (tN (T.ret (Qv (Q2 (.cons _ _ _ _ (.tmp 10 _ rfl) .nil) (.cons 1 rfl (.cons 1 rfl (.cons 1 rfl (.cons 1 rfl (.nil _))))) (by cases h; exact ⟨gl [wx0c1, wx0c2c1, wx0c2c2], rfl, rfl⟩)))))))
 refine Qo rfl b (T.skip (tN (T.seq (sR (Qq (aw rfl (nL (tN (T.block ?_)))))))))
 refine T.loop ?_
 refine Qg ?_ (Cg K bx0 x0 K x3 x4 (0:Int) x0 x2 wx0c1 wx0c2c1 wx0c2c2 f h)
 exact tr rfl (.c (.s .z) (.c (.s .z) (.c (.s .z) (.c (.s .z) (.c .z (.n _))))))
abbrev Qfu (bx0 : Nat) (x0 : Qh) (r : Bool) : ES := U6 tp ff83 (fun y t => ∃ γ : Nat → Value, y = (.bool r) ∧ t = [(Gk bx0 x0.g.First x0.g.P (γ 0) x0.a.Split.Of x0.a.Split.Many (γ 1) (γ 2) x0.e), .arrA (γ 0) 3 1 (mI x0.number), .arrA (γ 1) 59 2 (mA x0.a.Counts), .arrX (γ 2) 51 4 0 (x0.a.States.map Qd)])
theorem Fm (K : Nat) {x0 : Qh} {x1 : Qa} {x2 x3 : Int} {bx0 : Nat} {wx0c1 wx0c2c1 wx0c2c2 : Value} {r : Bool} (h : J8 K x0 x1 x2 x3 = some r) : V6 tp 83 [.ptr bx0 0, .agg [.sl false 1 (mI x1.L), .sl false 1 (mI x1.R), .sl false 1 (mI x1.Rule), .sl false 1 (x1.Next.map (cL 2 Qi))], .int .i64 x2, .int .i64 x3] [(Gk bx0 x0.g.First x0.g.P wx0c1 x0.a.Split.Of x0.a.Split.Many wx0c2c1 wx0c2c2 x0.e), .arrA wx0c1 3 1 (mI x0.number), .arrA wx0c2c1 59 2 (mA x0.a.Counts), .arrX wx0c2c2 51 4 0 (x0.a.States.map Qd)] (fun γ => (.bool r)) (fun γ => [(Gk bx0 x0.g.First x0.g.P (γ 0) x0.a.Split.Of x0.a.Split.Many (γ 1) (γ 2) x0.e), .arrA (γ 0) 3 1 (mI x0.number), .arrA (γ 1) 59 2 (mA x0.a.Counts), .arrX (γ 2) 51 4 0 (x0.a.States.map Qd)]) := by
 refine CI 27 fu83 rfl ?_
 unfold J8 at h
 refine sR (Qq (sp rfl (Zc rfl (dk rfl) rfl (fun q => (aw rfl (nL (tN (sR (Qq (mw rfl (oA 0 [.sl false 1 (mI x1.L), .sl false 1 (mI x1.R), .sl false 1 (mI x1.Rule), .sl false 1 (x1.Next.map (cL 2 Qi))] Ju i51 rfl (mw rfl ?_))))))))))))
 refine mw rfl ?_
 obtain ⟨s, m, h⟩ := bind_some h
 refine sp rfl (Q4 (is := [1, 2, 3, 4]) (ph := []) rfl (dk rfl) fu113 rfl rfl (Zk.cons rfl (Zk.cons rfl (Zk.cons rfl (Zk.cons rfl Zk.nil)))) (Lf K (bx0 := bx0) (wx0c1 := wx0c1) (wx0c2c1 := wx0c2c1) (wx0c2c2 := wx0c2c2) m) (.cons rfl rfl (.cons rfl rfl (.cons rfl rfl (.cons rfl rfl (.nil))))) (fun _ => rfl) (fun f => (nm (.c (.c (.c (.c (.c (.n)))))) (aw rfl (nL (tN (sR (Qq (oP Ju i38 rfl (oL 0 Zu rfl (mw rfl ?_)))))))))))
 obtain ⟨u, p, h⟩ := bind_some h
 refine oH fu112 (Zl.nil (K6 K (flx0 := false) p)) rfl (mw rfl ?_)
 rcases Qe h with ⟨b, h⟩ | ⟨b, h⟩
 refine sn rfl b (OpT.move rfl (dk rfl) rfl (sn rfl b (Zi rfl rfl (dk rfl) rfl rfl (sn rfl b (OpT.move rfl (dk rfl) rfl ?_)))))
 rcases Qe h with ⟨j, h⟩ | ⟨j, h⟩
 cases h
 refine sn rfl j (OpT.move rfl (dk rfl) rfl (sn rfl j (Zi rfl rfl (dk rfl) rfl rfl (sn rfl b (Qdq rfl (dk rfl) rfl j rfl (oY b rfl (aw rfl (nL (tN (T.ret ?_))))))))))
 exact Q2 (.cons _ _ _ _ (.tmp 8 _ rfl) .nil) (.cons 1 rfl (.cons 1 rfl (.cons 1 rfl (.cons 1 rfl (.nil _))))) (by cases h; exact ⟨gl [f 0, f 1, f 2], rfl, rfl⟩)
 refine pf rfl b (pf rfl b (pf rfl b (TL'.pU (.gone _ _ _ rfl rfl rfl) (dk rfl) (TL'.pU (.gone _ _ _ rfl rfl rfl) (dk rfl) (pf rfl b (oZ b rfl ?_))))))
 refine aw rfl (nL (tN (T.ret (Q2 (.cons _ _ _ _ (.tmp 8 _ rfl) .nil) (.cons 1 rfl (.cons 1 rfl (.cons 1 rfl (.cons 1 rfl (.nil _))))) (by cases h; exact ⟨gl [f 0, f 1, f 2], rfl, rfl⟩)))))
abbrev Kd (bx0 : Nat) (r : Int × Qh) : ES := U6 tp ff84 (fun y t => ∃ γ : Nat → Value, y = (.int .i64 r.1) ∧ t = [(Gk bx0 r.2.g.First r.2.g.P (γ 0) r.2.a.Split.Of r.2.a.Split.Many (γ 1) (γ 2) r.2.e), .arrA (γ 0) 3 1 (mI r.2.number), .arrA (γ 1) 59 2 (mA r.2.a.Counts), .arrX (γ 2) 51 4 0 (r.2.a.States.map Qd)])
abbrev Dn (bx0 : Nat) (r : Int × Qh) : ES := fT 122 [1,1] ff84 (Kd bx0 r)
abbrev W1 (bx0 : Nat) (r : Int × Qh) : ES := Qx 0 ((Dn bx0 r))
abbrev Cf (bx0 : Nat) (r : Int × Qh) : ES := fL 122 [1,0,1,0,0] ff84 (W1 bx0 r)
abbrev Mv (bx0 : Nat) (r : Int × Qh) : ES := fT 122 [1,0,1,0,0,1,1] ff84 (Cf bx0 r)
abbrev Lr (bx0 : Nat) (r : Int × Qh) : ES := Qx 1 ((Mv bx0 r))
abbrev G7 (bx0 : Nat) (r : Int × Qh) : ES := fT 122 [1,0,1,0,0,1,0,0,1,1,0,1,1] ff84 (Lr bx0 r)
abbrev Wf (bx0 : Nat) (r : Int × Qh) : ES := Qx 2 ((G7 bx0 r))
abbrev Ce (bx0 : Nat) (r : Int × Qh) : ES := fT 122 [1,1,1,1] ff84 (Kd bx0 r)
abbrev M6 (bx0 : Nat) (r : Int × Qh) : ES := Qx 4 ((Ce bx0 r))
abbrev Gg (bx0 : Nat) (r : Int × Qh) (go : (List Int) → Int → Qh → Option (Int × Qh)) : Prop := ∀ (x1 : List Int) (b : Int) (x0 : Qh) (flx1 : Bool) (c f w0_0aa : Value), go x1 b x0 = some r → TL tp 122 (ca [1,0,1,0,0] ff84) ⟨[(0, .ptr bx0 0), (1, .sl flx1 1 (mI x1)), (5, .int .i64 b)], [(Gk bx0 x0.g.First x0.g.P c x0.a.Split.Of x0.a.Split.Many f w0_0aa x0.e), .arrA c 3 1 (mI x0.number), .arrA f 59 2 (mA x0.a.Counts), .arrX w0_0aa 51 4 0 (x0.a.States.map Qd)]⟩ (W1 bx0 r)
theorem Dp {r : Int × Qh} (K bx0 : Nat) (go0 : (List Int) → Int → Qh → Option (Int × Qh)) (hgo0 : Gg bx0 r go0) : ∀ (k : Nat), ∀ (x1 : List Int) (w : Int) (m : List Int) (j : Bool) (l : Int) (x0 : Qh) (flx1 : Bool) (q s w0_1aa : Value), Vi K go0 k x1 w m j l x0 = some r → TL tp 122 (ca [1,0,1,0,0,1,0,0,1,1,0,1,0,1,0,0] ff84) ⟨[(0, .ptr bx0 0), (1, .sl flx1 1 (mI x1)), (5, .int .i64 w), (6, .sl false 1 (mI m)), (7, .bool j), (8, .int .i64 l)], [(Gk bx0 x0.g.First x0.g.P q x0.a.Split.Of x0.a.Split.Many s w0_1aa x0.e), .arrA q 3 1 (mI x0.number), .arrA s 59 2 (mA x0.a.Counts), .arrX w0_1aa 51 4 0 (x0.a.States.map Qd)]⟩ (Wf bx0 r) := by
 intro k
 induction k with
 | zero =>
  intro x1 w m j l x0 flx1 q s w0_1aa h
  exact zn h
 | succ k ih =>
  intro x1 w m j l x0 flx1 q s w0_1aa h
  rw [Vi] at h
  refine Q3 (T.seq (sR (Qq (mw rfl (mw rfl (oU x1 (cI .i64) Zu rfl (oI rfl ?_)))))))
  refine nL (tN ?_)
  rcases Qe h with ⟨y, h⟩ | ⟨y, h⟩
  refine Qp rfl y (T.skip (tN (T.seq (T.block (Yg (dV rfl rfl (dV rfl rfl ?_)))))))
  rcases Qe h with ⟨p, h⟩ | ⟨p, h⟩
  refine dM rfl (.n p rfl) rfl (dM rfl (.n p rfl) rfl ?_)
  obtain ⟨b, ab, h⟩ := bind_some h
  refine dX m (cI .i64) rfl (.n p rfl) Zu i3 ab rfl (dR rfl (.n p rfl) ul3 rfl (dM rfl (.n p rfl) rfl (dM rfl (.n p rfl) rfl ?_)))
  obtain ⟨i, ac, h⟩ := bind_some h
  refine dX x1 (cI .i64) rfl (.n p rfl) Zu i3 ac rfl (dR rfl (.n p rfl) ul3 rfl (dI rfl (.n p rfl) rfl (dY rfl (.f rfl) p rfl (dA rfl (.f rfl) rfl (dF [0,1,3,3,15,31,3,3,195,451,1023,2047,4095] Qz rfl (by kernel_rfl) (fun u hu => (Qn (tN (Qk hu (Qq ?_))))))))))
  refine mw rfl (oI rfl (aw rfl (nL (tN ?_))))
  refine Qg ?_ (ih x1 w m (b == i) (wI (l + (1:Int))) x0 flx1 q s w0_1aa h)
  exact tq rfl rfl
  cases h
  refine Qo rfl y (T.exit (Ql (Ql (Qr (tN (sR (Qq (mw rfl (nL (tN ?_))))))))))
  rcases Qe h with ⟨aa, h⟩ | ⟨aa, h⟩
  cases h
  refine Qo rfl aa (T.skip (Qn (tN (Qq (mw rfl (oI rfl (aw rfl (nL (tN ?_)))))))))
  refine Qg ?_ (hgo0 x1 (wI (w + (1:Int))) x0 flx1 q s w0_1aa h)
  exact tq rfl rfl
theorem Do {r : Int × Qh} (K bx0 : Nat) : ∀ (k : Nat), ∀ (x1 : List Int) (m : Int) (x0 : Qh) (flx1 : Bool) (b j w0_2aa : Value), Vh K k x1 m x0 = some r → TL tp 122 (ca [1,1,1,0,1,0,0] ff84) ⟨[(0, .ptr bx0 0), (1, .sl flx1 1 (mI x1)), (9, .c (.ex (.slice none 0 0))), (10, .int .i64 m)], [(Gk bx0 x0.g.First x0.g.P b x0.a.Split.Of x0.a.Split.Many j w0_2aa x0.e), .arrA b 3 1 (mI x0.number), .arrA j 59 2 (mA x0.a.Counts), .arrX w0_2aa 51 4 0 (x0.a.States.map Qd)]⟩ (M6 bx0 r) := by
 intro k
 induction k with
 | zero =>
  intro x1 m x0 flx1 b j w0_2aa h
  exact zn h
 | succ k ih =>
  intro x1 m x0 flx1 b j w0_2aa h
  rw [Vh] at h
  refine Q3 (T.seq (sR (Qq (mw rfl (mw rfl (oU x1 (cI .i64) Zu rfl (oI rfl ?_)))))))
  refine nL (tN ?_)
  rcases Qe h with ⟨s, h⟩ | ⟨s, h⟩
  refine Qp rfl s (T.skip (tN (T.seq (T.block (T.seq (Yg (dV rfl rfl ?_)))))))
  refine dK rfl (.f rfl) rfl (dP rfl (.f rfl) Qdt i38 rfl (dS (c := ⟨some 64, .sl false 1 (mI x0.number), [(63, .ptr bx0 (0 + 2))], [(0, (Gk bx0 x0.g.First x0.g.P b x0.a.Split.Of x0.a.Split.Many j w0_2aa x0.e)), (1, .arrA b 3 1 (mI x0.number))], []⟩) (fun t hm => oF rfl rfl (Zm (Zw (i := 0) rfl (dk rfl) Zu rfl hm.s0 hm.o0 rfl rfl) (L9 64 1 hm.o1) rfl)) rfl rfl (dV rfl rfl (dV rfl rfl ?_))))
  obtain ⟨q, ab, h⟩ := bind_some h
  refine dX x1 (cI .i64) rfl (.f rfl) Zu i3 ab rfl (dR rfl (.f rfl) ul3 rfl ?_)
  obtain ⟨p, ac, h⟩ := bind_some h
  refine dX x0.number (cI .i64) rfl (.f rfl) Zu i3 ac rfl (dR rfl (.f rfl) ul3 rfl (dI rfl (.f rfl) rfl (dF [0,1,3,7,0,0,48,112,255,511,1023] Qz rfl (by kernel_rfl) (fun u hu => (tN (Qk hu ?_))))))
  rcases Qe h with ⟨w, h⟩ | ⟨w, h⟩
  cases h
  refine Qo rfl w (T.skip (Qn (tN (Qq (mw rfl (oI rfl (aw rfl (nL (tN ?_)))))))))
  refine Qg ?_ (ih x1 (wI (m + (1:Int))) x0 flx1 b j w0_2aa h)
  exact tq rfl rfl
  refine Qo rfl s (T.exit (Ql (Ql (Qr (tN (T.seq (sR (Qq (mw rfl (sp rfl (Qge rfl (dk rfl) Zu rfl (oI rfl ?_))))))))))))
  refine nL (tN (Qo rfl rfl (T.skip (tN (T.seq (sR (Qq (mw rfl (oK rfl ?_)))))))))
  refine oP Qdt i28 rfl (oP Jl i26 rfl (oL 0 Uh rfl (sp rfl (J4 (i := 3) (xs := x0.a.States) (f := Qd) rfl (dk rfl) Uh rfl rfl (oI rfl (nL (tN ?_)))))))
  rcases Qe h with ⟨y, h⟩ | ⟨y, h⟩
  cases h
  refine Qo rfl y (T.skip (tN (sR (Qq (mw rfl (mw rfl (oK rfl (oP Qdt i28 rfl ?_))))))))
  refine oP Jl i26 rfl (oL 0 Uh rfl (mw rfl (mw rfl (sp rfl (Zm (OpT.build (l := [.sl flx1 1 (mI x1), .ex (.slice none 0 0), .ex (.slice none 0 0), .ex (.slice none 0 0)]) rfl (dk rfl) (Zq (pl := [(0, 1), (1, 1), (2, 1), (3, 1)]) Ju i51 rfl) (G9 rfl) rfl rfl rfl) (Z5 109 (l := [.sl flx1 1 (mI x1), .ex (.slice none 0 0), .ex (.slice none 0 0), .ex (.slice none 0 0)]) (l' := [.sl false 1 (mI x1), .sl false 1 (([] : List Int).map (cI .i64)), .sl false 1 (([] : List Int).map (cI .i64)), .sl false 1 (([] : List (List Qc)).map (cL 2 Qi))]) (.cons (.full _ _ _) (.cons (.nil _ _) (.cons (.nil _ _) (.cons (.nil _ _) (.refl _)))))) (sp rfl (OpT.buildSlice (elems := ([(Qa.mk x1 [] [] [])] : List Qa).map Qd) rfl (dk rfl) Uh i51 (by decide) rfl (G9 rfl) rfl rfl rfl (Vg rfl) (by decide) ?_)))))))
  obtain ⟨ad, h⟩ := Q6 h
  refine sp rfl (Db (i := 3) (xs := x0.a.States) (ys := [(Qa.mk x1 [] [] [])]) (f := Qd) rfl (dk rfl) Uh i51 rfl rfl rfl rfl ad (fun aa => (oK rfl (oP Qdt i28 rfl (oP Jl i26 rfl (sp rfl (Jd (i := 0) (cells' := (([.d (.sl false 1 (mI x0.g.First)), .d (.sl false 9 (x0.g.P.map Qy)), .d (.ex b)]:List OC) ++ ((Zg.oc 256 .u8 x0.a.Split.Of) ++ (([.d (.int .i64 x0.a.Split.Many), .d (.ex j), .d (.ex aa), .d (.int .i64 x0.e)]:List OC))))) rfl rfl i26 rfl rfl rfl (nb rfl) rfl (nL (tN (sR (Qq (mw rfl ?_))))))))))))
  refine oK rfl (oP Qdt i28 rfl (oP Jl i26 rfl (oL 0 Uh rfl (sp rfl (J4 (i := 3) (xs := (x0.a.States ++ [(Qa.mk x1 [] [] [])])) (f := Qd) rfl (dk rfl) Uh rfl rfl (oI rfl (aw rfl ?_)))))))
  refine nL (tN (T.ret (Q2 (.cons _ _ _ _ (.tmp 4 _ rfl) .nil) (.cons 0 rfl (.cons 0 rfl (.cons 0 rfl (.cons 0 rfl (.nil _))))) (by cases h; exact ⟨gl [b, j, aa], rfl, rfl⟩))))
theorem Dq {r : Int × Qh} (K bx0 : Nat) : ∀ (k : Nat), Gg bx0 r (Xf K k) := by
 intro k
 induction k with
 | zero =>
  intro x1 l x0 flx1 d g w0_0aa h
  exact zn h
 | succ k ih =>
  intro x1 l x0 flx1 d g w0_0aa h
  rw [Xf] at h
  refine Q3 (T.seq (sR (Qq (mw rfl (mw rfl (oK rfl (oP Qdt i28 rfl ?_)))))))
  refine oP Jl i26 rfl (oL 0 Uh rfl (sp rfl (J4 (i := 3) (xs := x0.a.States) (f := Qd) rfl (dk rfl) Uh rfl rfl (oI rfl (nL (tN ?_))))))
  rcases Qe h with ⟨j, h⟩ | ⟨j, h⟩
  refine Qp rfl j (T.skip (tN (T.seq (T.block (sR (Qq (mw rfl (oK rfl ?_))))))))
  refine oP Qdt i28 rfl (oP Jl i26 rfl (oL 0 Uh rfl (mw rfl ?_)))
  obtain ⟨b, m, h⟩ := bind_some h
  refine sp rfl (Z0 (n := 3) (xs := x0.a.States) (f := Qd) (old := b) rfl (dk rfl) Uh i51 rfl rfl rfl m (sp rfl (Mk rfl (dk rfl) Ju rfl i38 (by decide) rfl (sp rfl (Jv (i := 3) (xs := x0.a.States) (f := Qd) (old := b) rfl (dk rfl) Zu rfl rfl rfl (Zp m).2 rfl (aw rfl (nL (tN (sR (Qq (mw rfl (oU b.L (cI .i64) Zu rfl ?_))))))))))))
  refine mw rfl (oU x1 (cI .i64) Zu rfl (oI rfl (nL (tN ?_))))
  rcases Qe h with ⟨p, h⟩ | ⟨p, h⟩
  refine Qp rfl p (sR (Qq (aw rfl (nL (tN (T.seq (sR (Qq (aw rfl ?_)))))))))
  refine nL (tN (T.block (T.loop ?_)))
  refine Qg ?_ (Dp K bx0 (Xf K k) ih K x1 l b.L true (0:Int) x0 flx1 d g w0_0aa h)
  exact tq rfl rfl
  cases h
  refine Qo rfl j (T.exit (Ql (Ql (Qr (tN (sR (Qq (aw rfl (nL (tN (T.seq (sR (Qq ?_)))))))))))))
  refine aw rfl (nL (tN (T.block (T.loop ?_))))
  refine Qg ?_ (Do K bx0 K x1 (0:Int) x0 flx1 d g w0_0aa h)
  exact tq rfl rfl
theorem Iu (K : Nat) {x0 : Qh} {x1 : List Int} {bx0 : Nat} {wx0c1 wx0c2c1 wx0c2c2 : Value} {flx1 : Bool} {r : Int × Qh} (h : W2 K x0 x1 = some r) : V6 tp 84 [.ptr bx0 0, .sl flx1 1 (mI x1)] [(Gk bx0 x0.g.First x0.g.P wx0c1 x0.a.Split.Of x0.a.Split.Many wx0c2c1 wx0c2c2 x0.e), .arrA wx0c1 3 1 (mI x0.number), .arrA wx0c2c1 59 2 (mA x0.a.Counts), .arrX wx0c2c2 51 4 0 (x0.a.States.map Qd)] (fun γ => (.int .i64 r.1)) (fun γ => [(Gk bx0 r.2.g.First r.2.g.P (γ 0) r.2.a.Split.Of r.2.a.Split.Many (γ 1) (γ 2) r.2.e), .arrA (γ 0) 3 1 (mI r.2.number), .arrA (γ 1) 59 2 (mA r.2.a.Counts), .arrX (γ 2) 51 4 0 (r.2.a.States.map Qd)]) := by
 refine CI 122 fu84 rfl ?_
 unfold W2 at h
 refine sR (Qq (aw rfl (nL (tN (T.seq (sR (Qq (aw rfl (nL (tN ?_))))))))))
 refine T.block (T.loop ?_)
 refine Qg ?_ (Dq K bx0 K x1 (1:Int) x0 flx1 wx0c1 wx0c2c1 wx0c2c2 h)
 exact tq rfl rfl
abbrev Ir (bx0 : Nat) (r : Qc × Qh) : ES := U6 tp ff48 (fun y t => ∃ γ : Nat → Value, y = (.agg [.int .i64 r.1.To, .sl false 1 (mU r.1.Ops)]) ∧ t = [(Gk bx0 r.2.g.First r.2.g.P (γ 0) r.2.a.Split.Of r.2.a.Split.Many (γ 1) (γ 2) r.2.e), .arrA (γ 0) 3 1 (mI r.2.number), .arrA (γ 1) 59 2 (mA r.2.a.Counts), .arrX (γ 2) 51 4 0 (r.2.a.States.map Qd)])
abbrev M5 (bx0 : Nat) (r : Qc × Qh) : ES := fT 109 [1,1,1,1,1,1] ff48 (Ir bx0 r)
abbrev Mb (bx0 : Nat) (r : Qc × Qh) : ES := Qx 0 ((M5 bx0 r))
theorem Dm {r : Qc × Qh} (K bx0 : Nat) : ∀ (k : Nat), ∀ (x1 x2 : Int) (y b : Int) (x0 : Qh) (j m p : List Int) (q : List (List Qc)) (s : List Int) (u w w0_0aa : Value) (aa ab : Nat) (ad : Value), Yo K k x1 x2 y b x0 j m p q s = some r → TL tp 109 (ca [1,1,1,1,1,0,1,0,0] ff48) ⟨[(0, .ptr bx0 0), (1, .int .i64 x1), (2, .int .i64 x2), (8, .ptr aa 0), (9, .ptr ab 0), (10, .int .u8 y), (11, .c (.ex ad)), (12, .c (.ex (.slice none 0 0))), (13, .int .i64 b)], [(Gk bx0 x0.g.First x0.g.P u x0.a.Split.Of x0.a.Split.Many w w0_0aa x0.e), .arrA u 3 1 (mI x0.number), .arrA w 59 2 (mA x0.a.Counts), .arrX w0_0aa 51 4 0 (x0.a.States.map Qd), .box aa 54 [.d (.int .i64 (0:Int)), .d (.ex (.slice none 0 0))], (K3 ab j m p q), .arrA ad 3 1 (mI s)]⟩ (Mb bx0 r) := by
 intro k
 induction k with
 | zero =>
  intro x1 x2 y b x0 j m p q s u w w0_0aa aa ab ad h
  exact zn h
 | succ k ih =>
  intro x1 x2 y b x0 j m p q s u w w0_0aa aa ab ad h
  rw [Yo] at h
  refine Q3 (T.seq (sR (Qq (mw rfl (mw rfl (oK rfl (oP Qdt i43 rfl ?_)))))))
  refine oP Qfm i41 rfl (oL 0 Rl rfl (oU x0.g.P Qy Rl rfl (oI rfl (nL (tN ?_)))))
  rcases Qe h with ⟨ai, h⟩ | ⟨ai, h⟩
  refine Qp rfl ai (T.skip (tN (T.seq (T.block (T.seq (sR (Qq (mw rfl ?_))))))))
  refine oK rfl (oP Qdt i43 rfl (oP Qfm i41 rfl (oL 0 Rl rfl (mw rfl ?_))))
  obtain ⟨au, av, h⟩ := bind_some h
  refine oX x0.g.P Qy Rl i65 av rfl (sp rfl (Uj rfl (dk rfl) ul65 rfl i63 (by decide) rfl (oJ Qfl i63 rfl (mw rfl ?_))))
  obtain ⟨a6, ay, h⟩ := bind_some h
  refine oH fu81 (Zl.nil (Hb K ay)) rfl (oT rfl (nL (tN ?_)))
  rcases Qe h with ⟨aj, h⟩ | ⟨aj, h⟩
  refine Qp rfl aj (T.exit (Ql (Qr (tN (Qq (mw rfl (oI rfl (aw rfl (nL (tN ?_))))))))))
  refine Qg ?_ (ih x1 x2 y (wI (b + (1:Int))) x0 j m p q s u w w0_0aa aa ab ad h)
  exact tq rfl rfl
  refine Qo rfl aj (T.skip (tN (sR (Qq (mw rfl (mw rfl (oA 5 [.sl false 1 (mI j), .sl false 1 (mI m), .sl false 1 (mI p), .sl false 1 (q.map (cL 2 Qi))] Ju i51 rfl (mw rfl ?_))))))))
  refine mw rfl ?_
  obtain ⟨a7, az, h⟩ := bind_some h
  refine sp rfl (Q4 (is := [0, 1, 2, 3]) (ph := []) rfl (dk rfl) fu82 rfl rfl (Zk.cons rfl (Zk.cons rfl (Zk.cons rfl (Zk.cons rfl (Zk.cons rfl Zk.nil))))) (Ei K (bx0 := bx0) (wx0c1 := u) (wx0c2c1 := w) (wx0c2c2 := w0_0aa) az) (.cons rfl rfl (.cons rfl rfl (.cons rfl rfl (.cons rfl rfl (.nil))))) (fun _ => rfl) (fun al => (nm (.c (.c (.c (.c (.c (.c (.c (.n)))))))) (aw rfl (nL (tN (sR (Qq (mw rfl (oA 5 [.sl false 1 (mI j), .sl false 1 (mI m), .sl false 1 (mI p), .sl false 1 (q.map (cL 2 Qi))] Ju i51 rfl (mw rfl ?_)))))))))))
  refine mw rfl ?_
  obtain ⟨a8, a0, h⟩ := bind_some h
  refine sp rfl (Q4 (is := [0, 1, 2, 3]) (ph := []) rfl (dk rfl) fu83 rfl rfl (Zk.cons rfl (Zk.cons rfl (Zk.cons rfl (Zk.cons rfl Zk.nil)))) (Fm K (bx0 := bx0) (wx0c1 := (al 0)) (wx0c2c1 := (al 1)) (wx0c2c2 := (al 2)) a0) (.cons rfl rfl (.cons rfl rfl (.cons rfl rfl (.cons rfl rfl (.nil))))) (fun _ => rfl) (fun af => (nm (.c (.c (.c (.c (.c (.c (.c (.n)))))))) (aw rfl (nL (tN (T.seq (sR (Qq (mw rfl ?_))))))))))
  refine oT rfl (mw rfl ?_)
  rcases Qe h with ⟨ac, h⟩ | ⟨ac, h⟩
  refine sn rfl ac (OpT.move rfl (dk rfl) rfl (sn rfl ac (OpT.not rfl (dk rfl) rfl (oY ac rfl (nL (tN ?_))))))
  rcases Qe h with ⟨ap, h⟩ | ⟨ap, h⟩
  refine Qp rfl ap (T.exit (Ql (Qr (tN (Qq (mw rfl (oI rfl (aw rfl (nL (tN ?_))))))))))
  refine Qg ?_ (ih x1 x2 y (wI (b + (1:Int))) x0 j m p q s (af 0) (af 1) (af 2) aa ab ad h)
  exact tq rfl rfl
  cases h
  refine pf rfl ac (pf rfl ac (oZ ac rfl (nL (tN (Qo rfl rfl (T.skip (tN (sR (Qq ?_)))))))))
  refine mw rfl (mw rfl (sp rfl (OpT.buildSlice (elems := ([b] : List Int).map (cI .i64)) rfl (dk rfl) Zu i3 (by decide) rfl (G9 rfl) rfl rfl rfl (Vg rfl) (by decide) ?_)))
  obtain ⟨a1, h⟩ := Q6 h
  refine sp rfl (Zr (i := 6) (xs := s) (ys := [b]) (f := (cI .i64)) rfl (dk rfl) Zu i3 rfl rfl rfl rfl a1 (fun a2 => (aw rfl (nL (tN (T.seq (sR (Qq (mw rfl (oK rfl ?_))))))))))
  refine oP Qdt i38 rfl (sp rfl (Zm (Zw (i := 0) rfl (dk rfl) Zu rfl rfl rfl rfl rfl) (L9 79 1 rfl) (mw rfl ?_)))
  obtain ⟨a3, a4, h⟩ := bind_some h
  refine oX x0.number (cI .i64) Zu i3 a4 rfl (oR ul3 rfl (oI rfl (nL (tN ?_))))
  rcases Qe h with ⟨aq, h⟩ | ⟨aq, h⟩
  refine Qp rfl aq (T.exit (Ql (Qr (tN (Qq (mw rfl (oI rfl (aw rfl (nL (tN ?_))))))))))
  refine Qg ?_ (ih x1 x2 y (wI (b + (1:Int))) x0 j m p q (s ++ [b]) (af 0) (af 1) (af 2) aa ab a2 h)
  exact tq rfl rfl
  cases h
  refine Qo rfl ai (T.exit (Ql (Ql (Qr (tN (T.seq (sR (Qq (mw rfl (sp rfl (Hj (i := 6) (xs := s) (f := (cI .i64)) rfl (dk rfl) Zu rfl rfl (oI rfl ?_))))))))))))
  refine nL (tN ?_)
  rcases Qe h with ⟨am, h⟩ | ⟨am, h⟩
  refine Qp rfl am (sR (Qq (sp rfl (Zm (OpT.build (l := [.int .i64 (-1:Int), .ex (.slice none 0 0)]) rfl (dk rfl) (Zq (pl := [(0, 1), (1, 1)]) Bi i54 rfl) (G9 rfl) rfl rfl rfl) (Z5 103 (l := [.int .i64 (-1:Int), .ex (.slice none 0 0)]) (l' := [.int .i64 (-1:Int), .sl false 1 (([] : List Int).map (cI .u8))]) (.cons (.same _) (.cons (.nil _ _) (.refl _)))) (sp rfl (Qu (i := 4) (cells' := [.d (.int .i64 (-1:Int)), .d (.sl false 1 (([] : List Int).map (cI .u8)))]) rfl rfl i54 rfl rfl rfl rfl (nb rfl) rfl (nL (tN (T.ret (Qv (Q2 (.cons _ _ _ _ (.cellAgg 8 54 _ 0 4 54 _ [.int .i64 (-1:Int), .sl false 1 (([] : List Int).map (cI .u8))] _ _ 2 _ rfl rfl rfl rfl Bi rfl i54) .nil) (.cons 0 rfl (.cons 0 rfl (.cons 0 rfl (.cons 0 rfl (.nil _))))) (by cases h; exact ⟨gl [u, w, w0_0aa], rfl, rfl⟩))))))))))))
  refine Qo rfl am (T.skip (tN (sR (Qq (mw rfl (mw rfl ?_))))))
  obtain ⟨ag, a5, h⟩ := bind_some h
  refine sp rfl (Q4 (is := [0, 1, 2, 3]) (ph := []) rfl (dk rfl) fu84 rfl rfl (Zk.cons rfl (Zk.view (i := 6) rfl rfl Zk.nil)) (Iu K (bx0 := bx0) (wx0c1 := u) (wx0c2c1 := w) (wx0c2c2 := w0_0aa) (flx1 := false) a5) (.cons rfl rfl (.cons rfl rfl (.cons rfl rfl (.cons rfl rfl (.nil))))) (fun _ => rfl) (fun an => (nm (.c (.c (.c (.c (.c (.c (.c (.n)))))))) (mw rfl (sp rfl (Zm (OpT.build (l := [.int .i64 ag.1, .ex (.slice none 0 0)]) rfl (dk rfl) (Zq (pl := [(0, 1), (1, 1)]) Bi i54 rfl) (G9 rfl) rfl rfl rfl) (Z5 108 (l := [.int .i64 ag.1, .ex (.slice none 0 0)]) (l' := [.int .i64 ag.1, .sl false 1 (([] : List Int).map (cI .u8))]) (.cons (.same _) (.cons (.nil _ _) (.refl _)))) (sp rfl (Qu (i := 4) (cells' := [.d (.int .i64 ag.1), .d (.sl false 1 (([] : List Int).map (cI .u8)))]) rfl rfl i54 rfl rfl rfl rfl (nb rfl) rfl (nL (tN (T.ret ?_)))))))))))
  exact Q2 (.cons _ _ _ _ (.cellAgg 8 54 _ 0 4 54 _ [.int .i64 ag.1, .sl false 1 (([] : List Int).map (cI .u8))] _ _ 2 _ rfl rfl rfl rfl Bi rfl i54) .nil) (.cons 0 rfl (.cons 0 rfl (.cons 0 rfl (.cons 0 rfl (.nil _))))) (by cases h; exact ⟨gl [an 0, an 1, an 2], rfl, rfl⟩)
theorem It (K : Nat) {x0 : Qh} {x1 x2 x3 : Int} {bx0 : Nat} {wx0c1 wx0c2c1 wx0c2c2 : Value} {r : Qc × Qh} (h : W0 K x0 x1 x2 x3 = some r) : V6 tp 48 [.ptr bx0 0, .int .i64 x1, .int .i64 x2, .int .i64 x3] [(Gk bx0 x0.g.First x0.g.P wx0c1 x0.a.Split.Of x0.a.Split.Many wx0c2c1 wx0c2c2 x0.e), .arrA wx0c1 3 1 (mI x0.number), .arrA wx0c2c1 59 2 (mA x0.a.Counts), .arrX wx0c2c2 51 4 0 (x0.a.States.map Qd)] (fun γ => (.agg [.int .i64 r.1.To, .sl false 1 (mU r.1.Ops)])) (fun γ => [(Gk bx0 r.2.g.First r.2.g.P (γ 0) r.2.a.Split.Of r.2.a.Split.Many (γ 1) (γ 2) r.2.e), .arrA (γ 0) 3 1 (mI r.2.number), .arrA (γ 1) 59 2 (mA r.2.a.Counts), .arrX (γ 2) 51 4 0 (r.2.a.States.map Qd)]) := by
 refine CI 109 fu48 rfl ?_
 unfold W0 at h
 refine sR (Qq (sp rfl (Zb rfl (dk rfl) i54 rfl (fun p => (nL (tN (sR (Qq (mw rfl (oK rfl (oP Qdt i28 rfl (oP Jl i26 rfl ?_))))))))))))
 refine oL 1 Uh rfl (mw rfl ?_)
 obtain ⟨b, j, h⟩ := bind_some h
 refine sp rfl (Z0 (n := 4) (xs := x0.a.States) (f := Qd) (old := b) rfl (dk rfl) Uh i51 rfl rfl rfl j (sp rfl (Qdr (i := 4) (xs := x0.a.States) (f := Qd) (old := b) (l := [.sl false 1 (mI b.L), .sl false 1 (mI b.R), .sl false 1 (mI b.Rule), .sl false 1 (b.Next.map (cL 2 Qi))]) rfl (dk rfl) Ju rfl i51 rfl rfl (Zp j).2 rfl rfl (sp rfl (Zb rfl (dk rfl) i51 rfl (fun q => (sp rfl (Qu (i := 0) (cells' := [.d (.sl false 1 (mI b.L)), .d (.sl false 1 (mI b.R)), .d (.sl false 1 (mI b.Rule)), .d (.sl false 1 (b.Next.map (cL 2 Qi)))]) rfl rfl i51 rfl rfl rfl rfl (nb rfl) rfl (nL (tN (sR (Qq (mw rfl (oK rfl ?_))))))))))))))
 refine oP Qdt i28 rfl (oP Jl i24 rfl (oA 2 ((Zg.dc 256 .u8 x0.a.Split.Of) ++ (([.int .i64 x0.a.Split.Many] : List DC))) ul24 i24 rfl ?_))
 obtain ⟨u, w, h⟩ := bind_some h
 refine oH fu80 (Zl.nil (Qcb K w)) rfl (mw rfl ?_)
 obtain ⟨m, y, h⟩ := bind_some h
 refine oX u (cI .u8) B6 i5 y rfl (oR ul5 rfl (aw rfl (nL (tN (sR (Qq (aw rfl (nL (tN (sR (Qq (aw rfl ?_))))))))))))
 refine nL (tN (T.seq (sR (Qq (aw rfl (nL (tN (T.block (T.loop ?_)))))))))
 refine Qg (Xh 3 1) ?_
 refine Qg ?_ (Dm K bx0 K x1 x2 m (0:Int) x0 b.L b.R b.Rule b.Next [] wx0c1 wx0c2c1 wx0c2c2 p q (Qdv 2) h)
 exact tr rfl (.c (.s (.s (.s .z))) (.c (.s (.s (.s .z))) (.c (.s (.s (.s .z))) (.c (.s (.s (.s .z))) (.c (.s (.s .z)) (.c (.s .z) (.c .z (.n _))))))))
abbrev Rr (r : Qm × Int) : ES := U6 tp ff20 (fun y t => y = (.tup [.agg ((Zg.dc 256 .u8 r.1.Split.Of) ++ (([.int .i64 r.1.Split.Many, .sl false 2 (mA r.1.Counts), .sl false 4 (r.1.States.map Qd)] : List DC))), .int .i64 r.2]) ∧ t = [])
abbrev Np (r : Qm × Int) : ES := fT 198 [1,1,1,1,1,1,1,1] ff20 (Rr r)
abbrev Lg (r : Qm × Int) : ES := Qx 2 ((Np r))
abbrev Fp (r : Qm × Int) : ES := fL 198 [1,1,1,1,1,1,1,0,1,0,0] ff20 (Lg r)
abbrev C5 (r : Qm × Int) : ES := fT 198 [1,1,1,1,1,1,1,0,1,0,0,1,1] ff20 (Fp r)
abbrev Mx (r : Qm × Int) : ES := Qx 3 ((C5 r))
abbrev Md (r : Qm × Int) : ES := fT 198 [1,1,1,1,1,1,1,0,1,0,0,1,0,0,1,1,1,1] ff20 (Mx r)
abbrev V3 (r : Qm × Int) : ES := Qx 4 ((Md r))
abbrev Ki (r : Qm × Int) : ES := fL 198 [1,1,1,1,1,1,1,0,1,0,0,1,0,0,1,1,1,0,1,0,0] ff20 (V3 r)
abbrev G8 (r : Qm × Int) : ES := fT 198 [1,1,1,1,1,1,1,0,1,0,0,1,0,0,1,1,1,0,1,0,0,1,1] ff20 (Ki r)
abbrev Jz (r : Qm × Int) : ES := Qx 5 ((G8 r))
abbrev Hl (r : Qm × Int) : ES := fT 198 [1,1,1,1,1,1,1,0,1,0,0,1,0,0,1,1,1,0,1,0,0,1,0,0,1,1,1] ff20 (Jz r)
abbrev Ur (r : Qm × Int) : ES := Qx 6 ((Hl r))
abbrev Si (r : Qm × Int) : ES := fT 198 [1,1,1,1,1] ff20 (Rr r)
abbrev O0 (r : Qm × Int) : ES := Qx 0 ((Si r))
abbrev Fq (r : Qm × Int) (go : Int → Int → Int → Zg → (List Int) → (List Zt) → Zg → Int → Int → (List Int) → (List Zs) → (List Qa) → (List Int) → (List (List Qc)) → Option (Qm × Int)) : Prop := ∀ (a b f : Int) (g : Zg) (i : List Int) (j : List Zt) (l : Zg) (m n : Int) (p : List Int) (q : List Zs) (s : List Qa) (u : List Int) (v : List (List Qc)) (w y : Nat) (z aa : Value) (w4_2aa ab ac : Value), go a b f g i j l m n p q s u v = some r → TL tp 198 (ca [1,1,1,1,1,1,1,0,1,0,0,1,0,0,1,1,1,0,1,0,0] ff20) ⟨[(2, .ptr w 0), (4, .ptr y 0), (7, .int .i64 a), (8, .int .i64 b), (9, .c (.ex ab)), (10, .c (.ex ac)), (11, .int .i64 f)], [(b28x9 w g (0:Int) (.slice none 0 0) (.slice none 0 0)), (Gk y i j z l m aa w4_2aa n), .arrA z 3 1 (mI p), .arrA aa 59 2 (mA q), .arrX w4_2aa 51 4 0 (s.map Qd), .arrA ab 3 1 (mI u), .arrA ac 55 1 (v.map (cL 2 Qi))]⟩ (V3 r)
theorem Qbm {r : Qm × Int} (K : Nat) (go2 : Int → Int → Int → Zg → (List Int) → (List Zt) → Zg → Int → Int → (List Int) → (List Zs) → (List Qa) → (List Int) → (List (List Qc)) → Option (Qm × Int)) (hgo2 : Fq r go2) : ∀ (k : Nat), ∀ (p q : Int) (s ac : Int) (u : Zg) (ad : List Int) (af : List Zt) (ag : Zg) (ai aj : Int) (al : List Int) (am : List Zs) (an : List Qa) (v : List Int) (l : List (List Qc)) (j : List Qc) (w m : Nat) (y aa : Value) (w4_3aa ab : Value) (ap aq : Value), Ls K go2 k p q s ac u ad af ag ai aj al am an v l j = some r → TL tp 198 (ca [1,1,1,1,1,1,1,0,1,0,0,1,0,0,1,1,1,0,1,0,0,1,0,0,1,1,0,1,0,0] ff20) ⟨[(2, .ptr w 0), (4, .ptr m 0), (7, .int .i64 p), (8, .int .i64 q), (9, .c (.ex ab)), (10, .c (.ex ap)), (11, .int .i64 s), (12, .c (.ex aq)), (13, .int .i64 ac)], [(b28x9 w u (0:Int) (.slice none 0 0) (.slice none 0 0)), (Gk m ad af y ag ai aa w4_3aa aj), .arrA y 3 1 (mI al), .arrA aa 59 2 (mA am), .arrX w4_3aa 51 4 0 (an.map Qd), .arrA ab 3 1 (mI v), .arrA ap 55 1 (l.map (cL 2 Qi)), .arrA aq 54 2 (j.map Qi)]⟩ (Ur r) := by
 intro k
 induction k with
 | zero =>
  intro p q s ac u ad af ag ai aj al am an v l j w m y aa w4_3aa ab ap aq h
  exact zn h
 | succ k ih =>
  intro p q s ac u ad af ag ai aj al am an v l j w m y aa w4_3aa ab ap aq h
  rw [Ls] at h
  refine Q3 (T.seq (sR (Qq (mw rfl (mw rfl (oK rfl (oP Qdt i28 rfl ?_)))))))
  refine oP Jl i24 rfl (oP ul24 i3 rfl (oL 1 ul3 rfl (oI rfl (nL (tN ?_)))))
  rcases Qe h with ⟨au, h⟩ | ⟨au, h⟩
  refine Qp rfl au (T.skip (tN (T.seq (T.block (sR (Qq ?_))))))
  iterate 5 refine mw rfl ?_
  obtain ⟨b, az, h⟩ := bind_some h
  refine sp rfl (Q4 (is := [1, 2, 3, 4]) (ph := []) rfl (dk rfl) fu48 rfl rfl (Zk.cons rfl (Zk.cons rfl (Zk.cons rfl (Zk.cons rfl Zk.nil)))) (It K (bx0 := m) (wx0c1 := y) (wx0c2c1 := aa) (wx0c2c2 := w4_3aa) az) (.cons rfl rfl (.cons rfl rfl (.cons rfl rfl (.cons rfl rfl (.nil))))) (fun _ => rfl) (fun av => (nm (.c (.c (.c (.c (.c (.c (.c (.c (.n))))))))) (sp rfl (OpT.buildSlice (elems := ([b.1] : List Qc).map Qi) rfl (dk rfl) E2 i54 (by decide) rfl (G9 rfl) rfl rfl rfl (Vg rfl) (by decide) ?_)))))
  obtain ⟨a0, h⟩ := Q6 h
  refine sp rfl (Zr (i := 7) (xs := j) (ys := [b.1]) (f := Qi) rfl (dk rfl) E2 i54 rfl rfl rfl rfl a0 (fun a1 => (aw rfl (nL (tN (sR (Qq (mw rfl (oK rfl (oP Qdt i30 rfl (oL 1 ul30 rfl ?_)))))))))))
  refine oI rfl (nL (tN ?_))
  rcases Qe h with ⟨ay, h⟩ | ⟨ay, h⟩
  cases h
  refine Qo rfl ay (T.skip (Qn (tN (Qq (mw rfl (oI rfl (aw rfl (nL (tN ?_)))))))))
  refine Qg ?_ (ih p q s (wI (ac + (1:Int))) u b.2.g.First b.2.g.P b.2.a.Split.Of b.2.a.Split.Many b.2.e b.2.number b.2.a.Counts b.2.a.States v l (j ++ [b.1]) w m (av 0) (av 1) (av 2) ab ap a1 h)
  exact tq rfl rfl
  refine Qo rfl au (T.exit (Ql (Ql (Qr (tN (Qq (mw rfl (mw rfl (Ji (Zy.view 173 7 rfl rfl) (sp rfl (OpT.buildSlice (elems := ([j] : List (List Qc)).map (cL 2 Qi)) rfl (dk rfl) If i55 (by decide) rfl (G9 rfl) rfl rfl rfl (Vg rfl) (by decide) ?_)))))))))))
  obtain ⟨a2, h⟩ := Q6 h
  refine sp rfl (Zr (i := 6) (xs := l) (ys := [j]) (f := (cL 2 Qi)) rfl (dk rfl) If i55 rfl rfl rfl rfl a2 (fun a3 => (aw rfl (nL (Qn (tN (Qq (mw rfl (oI rfl (aw rfl ?_))))))))))
  refine nL (tN ?_)
  refine Qg ?_ (hgo2 p q (wI (s + (1:Int))) u ad af ag ai aj al am an v (l ++ [j]) w m y aa w4_3aa ab a3 h)
  exact tq rfl rfl
abbrev Fs (r : Qm × Int) (go : Int → Zg → (List Int) → (List Zt) → Zg → Int → Int → (List Int) → (List Zs) → (List Qa) → Option (Qm × Int)) : Prop := ∀ (a : Int) (b : Zg) (c : List Int) (f : List Zt) (g : Zg) (i j : Int) (l : List Int) (m : List Zs) (n : List Qa) (p q : Nat) (s u w4_1aa : Value), go a b c f g i j l m n = some r → TL tp 198 (ca [1,1,1,1,1,1,1,0,1,0,0] ff20) ⟨[(2, .ptr p 0), (4, .ptr q 0), (7, .int .i64 a)], [(b28x9 p b (0:Int) (.slice none 0 0) (.slice none 0 0)), (Gk q c f s g i u w4_1aa j), .arrA s 3 1 (mI l), .arrA u 59 2 (mA m), .arrX w4_1aa 51 4 0 (n.map Qd)]⟩ (Lg r)
theorem Qbn {r : Qm × Int} (K : Nat) (go1 : Int → Zg → (List Int) → (List Zt) → Zg → Int → Int → (List Int) → (List Zs) → (List Qa) → Option (Qm × Int)) (hgo1 : Fs r go1) : ∀ (k : Nat), Fq r (W3 K go1 k) := by
 intro k
 induction k with
 | zero =>
  intro g an ap u v w y aa ab ac ad b j p af q ag ai w4_2aa az aq h
  exact zn h
 | succ k ih =>
  intro g an ap u v w y aa ab ac ad b j p af q ag ai w4_2aa az aq h
  rw [W3] at h
  refine Q3 (T.seq (sR (Qq (mw rfl (mw rfl (oI rfl (nL (tN ?_))))))))
  rcases Qe h with ⟨aj, h⟩ | ⟨aj, h⟩
  refine Qp rfl aj (T.skip (tN (T.seq (T.block (sR (Qq ?_))))))
  iterate 3 refine mw rfl ?_
  refine oK rfl (oP Qdt i28 rfl (oP Jl i26 rfl (oL 1 Uh rfl (mw rfl ?_))))
  obtain ⟨m, au, h⟩ := bind_some h
  refine sp rfl (Z0 (n := 4) (xs := b) (f := Qd) (old := m) rfl (dk rfl) Uh i51 rfl rfl rfl au (sp rfl (Qdr (i := 4) (xs := b) (f := Qd) (old := m) (l := [.sl false 1 (mI m.L), .sl false 1 (mI m.R), .sl false 1 (mI m.Rule), .sl false 1 (m.Next.map (cL 2 Qi))]) rfl (dk rfl) Ju rfl i51 rfl rfl (Zp au).2 rfl rfl (mw rfl ?_))))
  obtain ⟨al, a0, h⟩ := bind_some h
  refine sp rfl (Q4 (is := [1, 2, 3, 4]) (ph := []) rfl (dk rfl) fu47 rfl rfl (Zk.cons rfl (Zk.cons rfl (Zk.cons rfl Zk.nil))) (Iq K (bx0 := q) (wx0c1 := ag) (wx0c2c1 := ai) (wx0c2c2 := w4_2aa) a0) (.cons rfl rfl (.cons rfl rfl (.cons rfl rfl (.cons rfl rfl (.nil))))) (fun _ => rfl) (fun am => (nm (.c (.c (.c (.c (.c (.c (.c (.n)))))))) (sp rfl (OpT.buildSlice (elems := ([al] : List Int).map (cI .i64)) rfl (dk rfl) Zu i3 (by decide) rfl (G9 rfl) rfl rfl rfl (Vg rfl) (by decide) ?_)))))
  obtain ⟨a1, h⟩ := Q6 h
  refine sp rfl (Zr (i := 5) (xs := j) (ys := [al]) (f := (cI .i64)) rfl (dk rfl) Zu i3 rfl rfl rfl rfl a1 (fun a2 => (aw rfl (nL (tN (sR (Qq (aw rfl (nL (tN (T.seq (sR (Qq ?_)))))))))))))
  refine aw rfl (nL (tN (T.block (T.loop (Qg (Xh 54 2) ?_)))))
  refine Qg ?_ (Qbm K (W3 K go1 k) ih K g an ap (0:Int) u v w y aa ab ac ad b (j ++ [al]) p [] af q (am 0) (am 1) (am 2) a2 aq (Qdv 20) h)
  exact tr rfl (.c (.s .z) (.c (.s .z) (.c (.s .z) (.c (.s .z) (.c (.s .z) (.c (.s .z) (.c (.s .z) (.c .z (.n _)))))))))
  refine Qo rfl aj (T.exit (Ql (Ql (Qr (tN (sR (Qq (mw rfl (oK rfl (oP Qdt i28 rfl (oP Jl i26 rfl ?_)))))))))))
  refine oL 1 Uh rfl (mw rfl (mw rfl ?_))
  obtain ⟨a, av, h⟩ := bind_some h
  refine sp rfl (Z0 (n := 4) (xs := b) (f := Qd) (old := a) rfl (dk rfl) Uh i51 rfl rfl rfl av (sp rfl (Mk rfl (dk rfl) Ju rfl i38 (by decide) rfl (Ji (Zy.view 182 5 rfl rfl) (sp rfl (Wc (i := 4) (xs := b) (f := Qd) (old := a) (new := (Qa.mk a.L a.R j a.Next)) rfl rfl i38 rfl rfl rfl (Zp av).2 (Qgx _) (nb rfl) rfl (nL (tN (Qq (mw rfl ?_))))))))))
  refine oK rfl (oP Qdt i28 rfl (oP Jl i26 rfl (oL 1 Uh rfl (mw rfl (mw rfl ?_)))))
  obtain ⟨d, ay, h⟩ := bind_some h
  refine sp rfl (Z0 (n := 4) (xs := (List.set b (Int.toNat g) (Qa.mk a.L a.R j a.Next))) (f := Qd) (old := d) rfl (dk rfl) Uh i51 rfl rfl rfl ay (sp rfl (Mk rfl (dk rfl) Ju rfl i49 (by decide) rfl (Ji (Zy.view 191 6 rfl rfl) (sp rfl (Wc (i := 4) (xs := (List.set b (Int.toNat g) (Qa.mk a.L a.R j a.Next))) (f := Qd) (old := d) (new := (Qa.mk d.L d.R d.Rule p)) rfl rfl i49 rfl rfl rfl (Zp ay).2 (Qgx _) (nb rfl) rfl (nL (Qn (tN (Qq (mw rfl ?_)))))))))))
  refine oI rfl (aw rfl (nL (tN ?_)))
  refine Qg ?_ (hgo1 (wI (g + (1:Int))) u v w y aa ab ac ad (List.set (List.set b (Int.toNat g) (Qa.mk a.L a.R j a.Next)) (Int.toNat g) (Qa.mk d.L d.R d.Rule p)) af q ag ai w4_2aa h)
  exact tq rfl rfl
theorem Qbo {r : Qm × Int} (K : Nat) : ∀ (k : Nat), Fs r (W4 K k) := by
 intro k
 induction k with
 | zero =>
  intro u v w y b g aa ab j a ac ad af m w4_1aa h
  exact zn h
 | succ k ih =>
  intro u v w y b g aa ab j a ac ad af m w4_1aa h
  rw [W4] at h
  refine Q3 (T.seq (sR (Qq (mw rfl (mw rfl (oK rfl (oP Qdt i28 rfl ?_)))))))
  refine oP Jl i26 rfl (oL 1 Uh rfl (sp rfl (J4 (i := 4) (xs := a) (f := Qd) rfl (dk rfl) Uh rfl rfl (oI rfl (nL (tN ?_))))))
  rcases Qe h with ⟨p, h⟩ | ⟨p, h⟩
  refine Qp rfl p (T.skip (tN (T.seq (T.block (sR (Qq (mw rfl (oK rfl ?_))))))))
  refine oP Qdt i28 rfl (oP Jl i26 rfl (oL 1 Uh rfl (mw rfl ?_)))
  obtain ⟨q, ag, h⟩ := bind_some h
  refine sp rfl (Z0 (n := 4) (xs := a) (f := Qd) (old := q) rfl (dk rfl) Uh i51 rfl rfl rfl ag (sp rfl (Mk rfl (dk rfl) Ju rfl i38 (by decide) rfl (sp rfl (Jv (i := 4) (xs := a) (f := Qd) (old := q) rfl (dk rfl) Zu rfl rfl rfl (Zp ag).2 rfl (oU q.R (cI .i64) Zu rfl ?_))))))
  obtain ⟨ai, aj, h⟩ := bind_some h
  refine oH fu46 (Zl.nil (Fu K aj)) rfl (aw rfl (nL (tN (sR (Qq (aw rfl (nL (tN (sR (Qq (aw rfl (nL (tN ?_)))))))))))))
  refine T.seq (sR (Qq (aw rfl (nL (tN (T.block (T.loop (Qg (Xh 3 1) ?_))))))))
  refine Qg (Xh 55 1) ?_
  refine Qg ?_ (Qbn K (W4 K k) ih K u ai (0:Int) v w y b g aa ab j a [] [] ac ad af m w4_1aa (Qdv 18) (Qdv 19) h)
  exact tr rfl (.c (.s (.s .z)) (.c (.s (.s .z)) (.c (.s (.s .z)) (.c (.s (.s .z)) (.c (.s (.s .z)) (.c (.s .z) (.c .z (.n _))))))))
  refine Qo rfl p (T.exit (Ql (Ql (Qr (tN (sR (Qq (mw rfl (oK rfl (oP Qdt i28 rfl (Ji (Gn 4 rfl) ?_)))))))))))
  refine sp rfl (Zm (Pj (i := 1) (l := ((Zg.dc 256 .u8 b) ++ (([.int .i64 g, .ex m, .ex w4_1aa] : List DC)))) rfl (dk rfl) Jl rfl i28 rfl rfl rfl rfl rfl) (Z5 197 (l := ((Zg.dc 256 .u8 b) ++ (([.int .i64 g, .ex m, .ex w4_1aa] : List DC)))) (l' := ((Zg.dc 256 .u8 b) ++ (([.int .i64 g, .sl false 2 (mA j), .sl false 4 (a.map Qd)] : List DC)))) (.app _ (.cons (.same _) (.cons (.view 3 rfl) (.cons (.view 4 rfl) (.refl _)))))) (sp rfl (Qu (i := 0) (cells' := ((Zg.oc 256 .u8 b) ++ (([.d (.int .i64 g), .d (.sl false 2 (mA j)), .d (.sl false 4 (a.map Qd))]:List OC)))) rfl rfl i28 rfl rfl rfl rfl (nb rfl) rfl (aw rfl (nL (tN (T.ret (Fin.done (.cons _ _ _ _ (.cellAgg 2 28 _ 0 0 28 _ ((Zg.dc 256 .u8 b) ++ (([.int .i64 g, .sl false 2 (mA j), .sl false 4 (a.map Qd)] : List DC))) _ _ 259 _ rfl rfl rfl rfl Jl rfl i28) (.cons _ _ _ _ (.tmp 3 _ rfl) .nil)) (by cases h; exact ⟨rfl, rfl⟩)))))))))
theorem Qbp {r : Qm × Int} (K : Nat) : ∀ (k : Nat), ∀ (w : Int) (x0 : Zn) (g j : Zg) (a : List Int) (m : List Z2) (y p q : Nat) (b ab : Value), Lt K k w x0 g j a m = some r → TL tp 198 (ca [1,1,1,1,0,1,0,0] ff20) ⟨[(1, .ptr y 0), (2, .ptr p 0), (4, .ptr q 0), (5, .c (.ex ab)), (6, .int .i64 w)], [.box y 43 [.d (.sl false 1 (mI x0.First)), .d (.sl false 9 (x0.P.map Qy))], (b28x9 p g (0:Int) (.slice none 0 0) (.slice none 0 0)), (Gk q x0.First x0.P b j (0:Int) (.slice none 0 0) (.slice none 0 0) (0:Int)), .arrA b 3 1 (mI a), .arrA ab 63 4 (m.map (Z2.dc .u64))]⟩ (O0 r) := by
 intro k
 induction k with
 | zero =>
  intro w x0 g j a m y p q b ab h
  exact zn h
 | succ k ih =>
  intro w x0 g j a m y p q b ab h
  rw [Lt] at h
  refine Q3 (T.seq (sR (Qq (mw rfl (oP Qfm i41 rfl (oL 0 Rl rfl (oU x0.P Qy Rl rfl ?_)))))))
  refine oI rfl (nL (tN ?_))
  rcases Qe h with ⟨ac, h⟩ | ⟨ac, h⟩
  refine Qp rfl ac (T.skip (tN (T.seq (T.block (sR (Qq (mw rfl (oP Qfm i41 rfl ?_))))))))
  refine oL 0 Rl rfl (mw rfl ?_)
  obtain ⟨aa, ad, h⟩ := bind_some h
  refine oX x0.P Qy Rl i65 ad rfl (sp rfl (Uj rfl (dk rfl) ul65 rfl i63 (by decide) rfl (oJ Qfl i63 rfl (sp rfl (OpT.buildSlice (elems := ([aa.S] : List Z2).map (Z2.dc .u64)) rfl (dk rfl) ul99 i63 (by decide) rfl (G9 rfl) rfl rfl rfl (Vg rfl) (by decide) ?_)))))
  obtain ⟨aj, h⟩ := Q6 h
  refine sp rfl (Zr (i := 4) (xs := m) (ys := [aa.S]) (f := (Z2.dc .u64)) rfl (dk rfl) ul99 i63 rfl rfl rfl rfl aj (fun al => (aw rfl (nL (tN (sR (Qq (oP Qfm i41 rfl (oL 0 Rl rfl (mw rfl (oX x0.P Qy Rl i65 ad rfl ?_)))))))))))
  refine sp rfl (Uj rfl (dk rfl) ul65 rfl i3 (by decide) rfl (oR ul3 rfl (oI rfl (nL (tN ?_)))))
  rcases Qe h with ⟨af, h⟩ | ⟨af, h⟩
  cases h
  refine Qo rfl af (Qq (mw rfl (mw rfl (oK rfl (oP Qdt i38 rfl (oL 2 Zu rfl ?_))))))
  refine sp rfl (OpT.buildSlice (elems := ([(-1:Int)] : List Int).map (cI .i64)) rfl (dk rfl) Zu i3 (by decide) rfl (G9 rfl) rfl rfl rfl (Vg rfl) (by decide) ?_)
  obtain ⟨am, h⟩ := Q6 h
  refine sp rfl (Zr (i := 3) (xs := a) (ys := [(-1:Int)]) (f := (cI .i64)) rfl (dk rfl) Zu i3 rfl rfl rfl rfl am (fun ag => (oK rfl (oP Qdt i38 rfl (sp rfl (Jd (i := 2) (cells' := (([.d (.sl false 1 (mI x0.First)), .d (.sl false 9 (x0.P.map Qy)), .d (.ex ag)]:List OC) ++ ((Zg.oc 256 .u8 j) ++ (([.d (.int .i64 (0:Int)), .d (.ex (.slice none 0 0)), .d (.ex (.slice none 0 0)), .d (.int .i64 (0:Int))]:List OC))))) rfl rfl i38 rfl rfl rfl (nb rfl) rfl (nL (Qn (tN (Qq (mw rfl ?_)))))))))))
  refine oI rfl (aw rfl (nL (tN ?_)))
  refine Qg ?_ (ih (wI (w + (1:Int))) x0 g j (a ++ [(-1:Int)]) (m ++ [aa.S]) y p q ag al h)
  exact tq rfl rfl
  refine Qo rfl ac (T.exit (Ql (Ql (Qr (tN (sR (Qq (mw rfl (mw rfl ?_)))))))))
  obtain ⟨u, an, h⟩ := bind_some h
  refine sp rfl (Ub rfl (dk rfl) fu45 rfl rfl (Zk.view (i := 4) rfl rfl Zk.nil) (Zl.nil (Qe8 K (flx0 := false) an)) (oK rfl (oP Qdt i28 rfl (oP Jl i24 rfl (sp rfl (Qu (i := 2) (cells' := (([.d (.sl false 1 (mI x0.First)), .d (.sl false 9 (x0.P.map Qy)), .d (.ex b)]:List OC) ++ ((Zg.oc 256 .u8 u.Of) ++ (([.d (.int .i64 u.Many), .d (.ex (.slice none 0 0)), .d (.ex (.slice none 0 0)), .d (.int .i64 (0:Int))]:List OC))))) rfl rfl i24 rfl rfl rfl rfl (nb rfl) rfl (nL (tN (sR (Qq (mw rfl ?_)))))))))))
  refine sp rfl (Zm (OpT.build (l := [.ex (.slice none 0 0), .ex (.slice none 0 0), .ex (.slice none 0 0), .ex (.slice none 0 0)]) rfl (dk rfl) (Zq (pl := [(0, 1), (1, 1), (2, 1), (3, 1)]) Ju i51 rfl) (G9 rfl) rfl rfl rfl) (Z5 99 (l := [.ex (.slice none 0 0), .ex (.slice none 0 0), .ex (.slice none 0 0), .ex (.slice none 0 0)]) (l' := [.sl false 1 (([] : List Int).map (cI .i64)), .sl false 1 (([] : List Int).map (cI .i64)), .sl false 1 (([] : List Int).map (cI .i64)), .sl false 1 (([] : List (List Qc)).map (cL 2 Qi))]) (.cons (.nil _ _) (.cons (.nil _ _) (.cons (.nil _ _) (.cons (.nil _ _) (.refl _)))))) (sp rfl (Ie (elems := ([(Qa.mk [] [] [] [])] : List Qa).map Qd) rfl (dk rfl) Uh i51 (by decide) rfl (G9 rfl) rfl rfl rfl (Vg rfl) (by decide) (fun ai => (oK rfl (oP Qdt i28 rfl (oP Jl i26 rfl (sp rfl (Jd (i := 3) (cells' := (([.d (.sl false 1 (mI x0.First)), .d (.sl false 9 (x0.P.map Qy)), .d (.ex b)]:List OC) ++ ((Zg.oc 256 .u8 u.Of) ++ (([.d (.int .i64 u.Many), .d (.ex (.slice none 0 0)), .d (.ex (.slice (some ⟨ai, 0, none⟩) 1 1)), .d (.int .i64 (0:Int))]:List OC))))) rfl rfl i26 rfl rfl rfl (nb rfl) rfl (nL (tN ?_)))))))))))
  refine T.seq (sR (Qq (aw rfl (nL (tN (T.block (T.loop (Qg (Xh 59 2) ?_))))))))
  refine Qg ?_ (Qbo K K (0:Int) g x0.First x0.P u.Of u.Many (0:Int) a [] [(Qa.mk [] [] [] [])] p q b (Qdv 17) (.slice (some ⟨ai, 0, none⟩) 1 1) h)
  exact tr rfl (.c (.s (.s (.s .z))) (.c (.s (.s (.s .z))) (.c (.s (.s (.s .z))) (.c .z (.c .z (.n _))))))
theorem Qe3 (K : Nat) {x0 : Zn} {r : Qm × Int} (h : Nq K x0 = some r) : Zl tp 20 [.agg [.sl false 1 (mI x0.First), .sl false 9 (x0.P.map Qy)]] [] (.tup [.agg ((Zg.dc 256 .u8 r.1.Split.Of) ++ (([.int .i64 r.1.Split.Many, .sl false 2 (mA r.1.Counts), .sl false 4 (r.1.States.map Qd)] : List DC))), .int .i64 r.2]) := by
 refine CI 198 fu20 rfl ?_
 unfold Nq at h
 refine sR (Qq (sp rfl (Zc rfl (dk rfl) rfl (fun b => (sp rfl (Zb rfl (dk rfl) i28 rfl (fun d => (aw rfl (nL (tN (T.seq (sR (Qq ?_)))))))))))))
 refine oA 1 [.sl false 1 (mI x0.First), .sl false 9 (x0.P.map Qy)] Qfm i43 rfl ?_
 obtain ⟨j, f, h⟩ := bind_some h
 refine oH fu44 (Zl.nil (Qbs K f)) rfl (oT rfl (nL (tN ?_)))
 rcases Qe h with ⟨a, h⟩ | ⟨a, h⟩
 cases h
 refine Qo rfl a (T.skip (tN (sR (Qq (oA 1 [.sl false 1 (mI x0.First), .sl false 9 (x0.P.map Qy)] Qfm i43 rfl (sp rfl (OpT.build (l := (([.sl false 1 (mI x0.First), .sl false 9 (x0.P.map Qy), .ex (.slice none 0 0)] : List DC) ++ ((Zg.dc 256 .u8 (Zg.mk fun _ => 0)) ++ (([.int .i64 (0:Int), .ex (.slice none 0 0), .ex (.slice none 0 0), .int .i64 (0:Int)] : List DC))))) rfl (dk rfl) (Zq (pl := [(0, 2), (2, 1), (3, 259), (262, 1)]) Qdt i98 rfl) (G9 rfl) rfl rfl (sp rfl (Zc rfl (dk rfl) rfl (fun g => (aw rfl ?_)))))))))))
 refine nL (tN (sR (Qq (aw rfl (nL (tN (T.seq (sR (Qq (aw rfl (nL (tN ?_))))))))))))
 refine T.block (T.loop (Qg (Xh 63 4) (Qg (Xh 3 1) ?_)))
 refine Qg ?_ (Qbp K K (0:Int) x0 (Zg.mk fun _ => 0) (Zg.mk fun _ => 0) [] [] b d g (Qdv 16) (Qdv 15) h)
 exact tr rfl (.c (.s (.s (.s (.s .z)))) (.c (.s (.s (.s .z))) (.c (.s (.s .z)) (.c .z (.c .z (.n _))))))
abbrev split_Right_q (r : Bool) : ES := U6 tp ff52 (fun y t => y = (.bool r) ∧ t = [])
abbrev Qdx (r : Bool) : ES := fT 28 [1,1,1] ff52 (split_Right_q r)
abbrev Qbd (r : Bool) : ES := Qx 0 ((Qdx r))
theorem Qey {r : Bool} (K : Nat) : ∀ (k : Nat), ∀ (b : Int) (x0 : Q5) (f : Int) (g : Nat), U0 K k b x0 f = some r → TL tp 28 (ca [1,1,0,1,0,0] ff52) ⟨[(1, .ptr g 0), (3, .int .i64 b), (7, .agg (Zg.dc 256 .u8 x0.Of)), (8, .int .i64 f)], [(b24x7 g x0.Of x0.Many)]⟩ (Qbd r) := by
 intro k
 induction k with
 | zero =>
  intro b x0 f g h
  exact zn h
 | succ k ih =>
  intro b x0 f g h
  rw [U0] at h
  refine Q3 (sR (Qq (oI rfl (nL (tN (T.seq ?_))))))
  rcases Qe h with ⟨l, h⟩ | ⟨l, h⟩
  refine Qp rfl l (T.skip (tN (T.seq (T.block (sR (Qq ?_))))))
  obtain ⟨j, h⟩ := Q6 h
  refine sp rfl (OpT.indexArr rfl (dk rfl) ul22 ul5 rfl i5 rfl rfl j.1 j.2 (Zg.dc_get (n := 256) (a := x0.Of) (k := .u8) j.1 j.2) (aw rfl (nL (tN (T.block (sR (Qq (mw rfl (sp rfl (Xj rfl (dk rfl) ul5 ul3 rfl ?_))))))))))
  refine mw rfl (oI rfl (aw rfl (nL (tN ?_))))
  rcases Qe h with ⟨m, h⟩ | ⟨m, h⟩
  refine Qp rfl m (sR (Qq (aw rfl (nL (tN (T.ret (Q1 (Q1 (Qv (Qv (Q1 (Qv (fd rfl (by cases h; exact ⟨rfl, rfl⟩))))))))))))))
  refine Qo rfl m (sR (Qq (mw rfl (sp rfl (Xj rfl (dk rfl) ul5 ul3 rfl (mw rfl (oI rfl (aw rfl ?_))))))))
  refine nL (tN ?_)
  rcases Qe h with ⟨p, h⟩ | ⟨p, h⟩
  refine Qp rfl p (Qq (mw rfl (oI rfl (aw rfl (nL (Qn (Qn (tN (Qq ?_)))))))))
  refine oI rfl (mw rfl (nL (tN ?_)))
  refine Qg ?_ (ih (wI (b + (1:Int))) x0 (wI (f + (1:Int))) g h)
  exact tq rfl rfl
  refine Qo rfl p (T.skip (Qn (Qn (tN (Qq (oI rfl (mw rfl (nL (tN ?_)))))))))
  refine Qg ?_ (ih b x0 (wI (f + (1:Int))) g h)
  exact tq rfl rfl
  refine Qo rfl l (T.exit (Ql (Ql (Qr (tN (sR (Qq (mw rfl (oP ul24 i3 rfl (oL 0 ul3 rfl (oI rfl ?_)))))))))))
  refine aw rfl (nL (tN (T.ret (fd rfl (by cases h; exact ⟨rfl, rfl⟩)))))
theorem split_Right_T (K : Nat) {x0 : Q5} {r : Bool} (h : E9 K x0 = some r) : Zl tp 52 [.agg ((Zg.dc 256 .u8 x0.Of) ++ (([.int .i64 x0.Many] : List DC)))] [] (.bool r) := by
 refine CI 28 fu52 rfl ?_
 unfold E9 at h
 refine sR (Qq (sp rfl (Zc rfl (dk rfl) rfl (fun a => (aw rfl (nL (tN (sR (Qq (aw rfl (nL (tN (T.seq ?_)))))))))))))
 refine sR (Qq (oP ul24 i22 rfl (oA 0 (Zg.dc 256 .u8 x0.Of) ul22 i22 rfl (mw rfl (nL (tN (T.block (T.loop ?_))))))))
 refine Qg ?_ (Qey K K (0:Int) x0 (0:Int) a h)
 exact tq rfl rfl
abbrev Qeq (r : Int) : ES := U6 tp ff89 (fun y t => y = (.int .i64 r) ∧ t = [])
abbrev Qf8 (r : Int) : ES := fT 17 [1,1] ff89 (Qeq r)
abbrev Qed (r : Int) : ES := fT 17 [1,1,1,1] ff89 (Qeq r)
abbrev Qch (r : Int) : ES := Qx 0 ((Qed r))
theorem T6 {r : Int} (K : Nat) (h : Bh K = some r) : T tp 17 (ca [1,0,1,0] ff89) ⟨[], []⟩ (Qf8 r) := by
 unfold Bh at h
 refine sR (Qq (aw rfl (nL (tN (T.ret (Qv (fd rfl (by cases h; exact ⟨rfl, rfl⟩))))))))
theorem Qf9 {r : Int} (K : Nat) : ∀ (k : Nat), ∀ (a x0 b : Int), Bg K k a x0 b = some r → TL tp 17 (ca [1,1,1,0,1,0,0] ff89) ⟨[(3, .int .i64 a), (10, .int .i64 x0), (11, .int .i64 b)], []⟩ (Qch r) := by
 intro k
 induction k with
 | zero =>
  intro a x0 b h
  exact zn h
 | succ k ih =>
  intro a x0 b h
  rw [Bg] at h
  refine Q3 (sR (Qq (oI rfl (nL (tN (T.seq ?_))))))
  rcases Qe h with ⟨c, h⟩ | ⟨c, h⟩
  refine Qp rfl c (T.skip (tN (T.seq (T.block (Qq (mw rfl (oI rfl ?_)))))))
  refine aw rfl (nL (Qn (tN (Qq (oI rfl (mw rfl (nL (tN ?_))))))))
  refine Qg ?_ (ih (wI (a * (3:Int))) x0 (wI (b + (1:Int))) h)
  exact tq rfl rfl
  refine Qo rfl c (T.exit (Ql (Ql (Qr (tN (sR (Qq (mw rfl (aw rfl (nL (tN (T.ret ?_))))))))))))
  exact fd rfl (by cases h; exact ⟨rfl, rfl⟩)
theorem auto_Codes_T (K : Nat) {x0 r : Int} (h : Ez K x0 = some r) : Zl tp 89 [.int .i64 x0] [] (.int .i64 r) := by
 refine CI 17 fu89 rfl ?_
 unfold Ez at h
 refine sR (Qq (aw rfl (nL (tN (T.seq (sR (Qq (mw rfl (oI rfl ?_)))))))))
 refine mw rfl ?_
 rcases Qe h with ⟨a, h⟩ | ⟨a, h⟩
 refine pf rfl a (pf rfl a (oY a rfl (nL (tN (Qp rfl rfl ?_)))))
 refine Qk ?_ (T6 K h)
 exact tq rfl rfl
 refine sn rfl a (OpT.move rfl (dk rfl) rfl (sn rfl a (Zi rfl rfl (dk rfl) rfl rfl (oZ a rfl (nL (tN ?_))))))
 rcases Qe h with ⟨b, h⟩ | ⟨b, h⟩
 refine Qp rfl b ?_
 refine Qk ?_ (T6 K h)
 exact tq rfl rfl
 refine Qo rfl b (T.skip (tN (sR (Qq (aw rfl (nL (tN (T.seq (sR (Qq ?_))))))))))
 refine mw rfl (mw rfl (nL (tN (T.block (T.loop ?_)))))
 refine Qg ?_ (Qf9 K K (1:Int) x0 (0:Int) h)
 exact tq rfl rfl
abbrev auto_rises_q (r : Bool) : ES := U6 tp ff90 (fun y t => y = (.bool r) ∧ t = [])
abbrev Qfc (r : Bool) : ES := fT 24 [1,1,1] ff90 (auto_rises_q r)
abbrev Na (r : Bool) : ES := Qx 0 ((Qfc r))
abbrev Qdk (r : Bool) : ES := fL 24 [1,1,0,1,0,0] ff90 (Na r)
abbrev S5 (r : Bool) : ES := fT 24 [1,1,0,1,0,0,1,1,1] ff90 (Qdk r)
abbrev I5 (r : Bool) : ES := Qx 1 ((S5 r))
abbrev Od (r : Bool) : ES := fT 24 [1,1,0,1,0,0,1,1,0,0,1,1] ff90 (I5 r)
theorem T4 {r : Bool} (K : Nat) (h : Be K = some r) : T tp 24 (ca [1,1,0,1,0,0,1,1,0,0,1,0,1,0] ff90) ⟨[], []⟩ (Od r) := by
 unfold Be at h
 refine sR (Qq (aw rfl (nL (tN (T.ret (Qv (Q1 (Qv (Qv (Q1 (Qv (fd rfl (by cases h; exact ⟨rfl, rfl⟩)))))))))))))
theorem Qf5 {r : Bool} (K : Nat) : ∀ (k : Nat), ∀ (x1 d : Int) (x0 : List Int) (b c : Int) (flx0 : Bool), H6 K k x1 d x0 b c = some r → TL tp 24 (ca [1,1,0,1,0,0] ff90) ⟨[(1, .int .i64 x1), (5, .int .i64 d), (8, .sl flx0 1 (mI x0)), (9, .int .i64 b), (10, .int .i64 c)], []⟩ (Na r) := by
 intro k
 induction k with
 | zero =>
  intro x1 d x0 b c flx0 h
  exact zn h
 | succ k ih =>
  intro x1 d x0 b c flx0 h
  rw [H6] at h
  refine Q3 (sR (Qq (oI rfl (nL (tN (T.seq ?_))))))
  rcases Qe h with ⟨g, h⟩ | ⟨g, h⟩
  refine Qp rfl g (T.skip (tN (T.seq (T.block (sR (Qq ?_))))))
  obtain ⟨j, l, h⟩ := bind_some h
  refine oX x0 (cI .i64) Zu i3 l rfl (oR ul3 rfl (aw rfl (nL (tN (T.seq (sR (Qq (mw rfl ?_))))))))
  refine mw rfl (oI rfl (mw rfl ?_))
  rcases Qe h with ⟨a, h⟩ | ⟨a, h⟩
  refine pf rfl a (pf rfl a (pf rfl a (oY a rfl (nL (tN (Qp rfl rfl ?_))))))
  refine Qk ?_ (T4 K h)
  exact tq rfl rfl
  refine sn rfl a (OpT.move rfl (dk rfl) rfl (sn rfl a (OpT.move rfl (dk rfl) rfl (sn rfl a (Zi rfl rfl (dk rfl) rfl rfl (oZ a rfl (nL (tN ?_))))))))
  rcases Qe h with ⟨i, h⟩ | ⟨i, h⟩
  refine Qp rfl i ?_
  refine Qk ?_ (T4 K h)
  exact tq rfl rfl
  refine Qo rfl i (T.skip (tN (Qq (mw rfl (aw rfl (nL (Qn (tN (Qq ?_)))))))))
  refine oI rfl (mw rfl (nL (tN ?_)))
  refine Qg ?_ (ih x1 j x0 b (wI (c + (1:Int))) flx0 h)
  exact tq rfl rfl
  refine Qo rfl g (T.exit (Ql (Ql (Qr (tN (sR (Qq (aw rfl (nL (tN (T.ret (fd rfl (by cases h; exact ⟨rfl, rfl⟩)))))))))))))
theorem Qeo (K : Nat) {x0 : List Int} {x1 : Int} {flx0 r : Bool} (h : Ey K x0 x1 = some r) : Zl tp 90 [.sl flx0 1 (mI x0), .int .i64 x1] [] (.bool r) := by
 refine CI 24 fu90 rfl ?_
 unfold Ey at h
 refine sR (Qq (aw rfl (nL (tN (sR (Qq (aw rfl (nL (tN (T.seq (sR (Qq ?_))))))))))))
 refine mw rfl (oU x0 (cI .i64) Zu rfl (mw rfl (nL (tN (T.block (T.loop ?_))))))
 refine Qg ?_ (Qf5 K K x1 (-1:Int) x0 (x0.length : Int) (0:Int) flx0 h)
 exact tq rfl rfl
abbrev Qcu (r : Int) : ES := U6 tp ff132 (fun y t => y = (.int .i64 r) ∧ t = [])
abbrev Th (r : Int) : ES := fT 19 [1,1] ff132 (Qcu r)
abbrev Pt (r : Int) : ES := Qx 0 ((Th r))
theorem Ti {r : Int} (K : Nat) : ∀ (k : Nat), ∀ (x0 : List Int) (x1 a b : Int) (flx0 : Bool), Va K k x0 x1 a b = some r → TL tp 19 (ca [1,0,1,0,0] ff132) ⟨[(0, .sl flx0 1 (mI x0)), (1, .int .i64 x1), (7, .int .i64 a), (8, .int .i64 b)], []⟩ (Pt r) := by
 intro k
 induction k with
 | zero =>
  intro x0 x1 a b flx0 h
  exact zn h
 | succ k ih =>
  intro x0 x1 a b flx0 h
  rw [Va] at h
  refine Q3 (sR (Qq (oI rfl (nL (tN (T.seq ?_))))))
  rcases Qe h with ⟨c, h⟩ | ⟨c, h⟩
  refine Qp rfl c (T.skip (tN (T.seq (T.block (sR (Qq (mw rfl (aw rfl ?_))))))))
  refine nL (tN (sR (Qq ?_)))
  iterate 3 refine mw rfl ?_
  obtain ⟨g, i, h⟩ := bind_some h
  refine oX x0 (cI .i64) Zu i3 i rfl (oR ul3 rfl (oI rfl (nL (tN ?_))))
  rcases Qe h with ⟨d, h⟩ | ⟨d, h⟩
  refine Qp rfl d (sR (Qq (mw rfl (aw rfl (nL (tN (T.ret (Q1 (Qv (Qv (Q1 (Qv (fd rfl (by cases h; exact ⟨rfl, rfl⟩))))))))))))))
  refine Qo rfl d (T.skip (Qn (tN (Qq (oI rfl (mw rfl (nL (tN ?_))))))))
  refine Qg ?_ (ih x0 x1 a (wI (b + (1:Int))) flx0 h)
  exact tq rfl rfl
  refine Qo rfl c (T.exit (Ql (Ql (Qr (tN (sR (Qq (aw rfl (nL (tN (T.ret (fd rfl (by cases h; exact ⟨rfl, rfl⟩)))))))))))))
theorem Qcv (K : Nat) {x0 : List Int} {x1 : Int} {flx0 : Bool} {r : Int} (h : K4 K x0 x1 = some r) : Zl tp 132 [.sl flx0 1 (mI x0), .int .i64 x1] [] (.int .i64 r) := by
 refine CI 19 fu132 rfl ?_
 unfold K4 at h
 refine sR (Qq (aw rfl (nL (tN (T.seq (sR (Qq (mw rfl (oU x0 (cI .i64) Zu rfl ?_)))))))))
 refine mw rfl (nL (tN (T.block (T.loop ?_))))
 refine Qg ?_ (Ti K K x0 x1 (x0.length : Int) (0:Int) flx0 h)
 exact tq rfl rfl
abbrev slices_Contains_int_q (r : Bool) : ES := U6 tp ff118 (fun y t => y = (.bool r) ∧ t = [])
theorem Tj (K : Nat) {x0 : List Int} {x1 : Int} {flx0 r : Bool} (h : U8 K x0 x1 = some r) : Zl tp 118 [.sl flx0 1 (mI x0), .int .i64 x1] [] (.bool r) := by
 refine CI 9 fu118 rfl ?_
 unfold U8 at h
 refine sR (Qq (aw rfl (nL (tN (sR (Qq (mw rfl (mw rfl ?_))))))))
 obtain ⟨b, a, h⟩ := bind_some h
 refine oH fu132 (Zl.nil (Qcv K (flx0 := flx0) a)) rfl (oI rfl (aw rfl (nL (tN (T.ret (fd rfl (by cases h; exact ⟨rfl, rfl⟩)))))))
end Go.Rv

/- Each function computes what its plain text says: printed by a program of ours. -/
import Derived.Test.YtcmfaclkgdmpbaaGreatDoorRgW6
namespace Go.Rv
open Go.Proofs
set_option maxRecDepth 100000
set_option maxHeartbeats 4000000
set_option linter.unusedVariables false
abbrev Br (bx0 : Nat) (r : Qu × Qn) : ES := Jm tp ff66 (fun y t => ∃ γ : Nat → Value, y = (.agg [.bool r.1.null, .sl false 1 (mI r.1.first), .sl false 1 (mI r.1.last)]) ∧ t = [(Ld bx0 (γ 0)), .arrX (γ 0) 65 9 0 (r.2.p.map Q1)])
abbrev B0 (bx0 : Nat) (r : Qu × Qn) : ES := fT 128 [1,1,1,1,1,1,1,1,1,1] ff66 (Br bx0 r)
abbrev Mt (bx0 : Nat) (r : Qu × Qn) : ES := Qv 2 ((B0 bx0 r))
abbrev Du (bx0 : Nat) (r : Qu × Qn) : ES := fT 128 [1,1,1,1,1,1,1] ff66 (Br bx0 r)
abbrev Cj (bx0 : Nat) (r : Qu × Qn) : ES := Qv 0 ((Du bx0 r))
theorem Nk {r : Qu × Qn} (K : Nat) (rec_raddleref09_builder_node : Qn → (List Q3) → Int → Int → Option (Qu × Qn)) (hrec_raddleref09_builder_node : U6 rec_raddleref09_builder_node) (bx0 : Nat) : ∀ (k : Nat), ∀ (s : Int) (ac : List Zz) (ad af : List Int) (ag : Int) (m : Z6) (ai : List Int) (aj al : Int) (am : ByteArray) (g : List Qu) (an : Bool) (q j : List Int) (y : Value) (aa ab : Nat) (p : Value) (b : Nat), Um K rec_raddleref09_builder_node k s ac ad af ag m ai aj al am g an q j = some r → TL tp 128 (ca [1,1,1,1,1,1,1,1,1,0,1,0,0] ff66) ⟨[(0, .ptr bx0 0), (8, .ptr aa 0), (9, .ptr ab 0), (10, .c (.ex p)), (12, .ptr b 0), (13, .int .i64 s)], [(Ld bx0 y), .arrX y 65 9 0 (ac.map Q1), (Tt aa false ad af), (b165x13 ab ag m.a0 m.a1 m.a2 m.a3 ai aj al am), .arrA p 128 3 (g.map Zq), (Tt b an q j)]⟩ (Mt bx0 r) := by
 intro k
 induction k with
 | zero =>
  intro s ac ad af ag m ai aj al am g an q j y aa ab p b h
  exact zn h
 | succ k ih =>
  intro s ac ad af ag m ai aj al am g an q j y aa ab p b h
  rw [Um] at h
  refine Q0 (T.seq (sR (Qr (mw rfl (mw rfl (sp rfl (Lf (i := 4) (xs := g) (f := Zq) rfl (dk rfl) ul171 rfl rfl (oI rfl ?_))))))))
  refine nL (tN ?_)
  rcases Qg h with ⟨au, h⟩ | ⟨au, h⟩
  refine Qp rfl au (T.skip (tN (T.seq (T.block (sR (Qr (oP Mb i4 rfl (oL 5 ul4 rfl ?_))))))))
  refine mw rfl ?_
  rcases Qg h with ⟨ap, h⟩ | ⟨ap, h⟩
  cases h
  refine sn rfl ap (OpT.move rfl (dk rfl) rfl (sn rfl ap (OpT.move rfl (dk rfl) rfl (Uh (Zr.view 93 4 rfl rfl) ?_))))
  obtain ⟨a, av, h⟩ := bind_some h
  refine sn rfl ap (Hu (xs := g) (f := Zq) (v := a) rfl (dk rfl) ul171 i128 rfl rfl av (sn rfl ap (Ug rfl (dk rfl) Mb rfl i4 (by decide) rfl (sn rfl ap (Kc rfl (dk rfl) ul4 rfl rfl rfl (oZ ap rfl (oP Mb i4 rfl (sp rfl (Wf (i := 5) (cells' := [.d (.bool a.null), .d (.sl false 1 (mI q)), .d (.sl false 1 (mI j))]) rfl rfl i4 rfl rfl rfl (nb rfl) rfl (nL (tN ?_)))))))))))
  refine T.seq (Zy (dP rfl (.f rfl) Mb i38 rfl (dL 5 rfl (.f rfl) Zi rfl (dS (c := ⟨some 102, .sl false 3 (g.map Zq), [(10, .c (.ex p))], [(4, .arrA p 128 3 (g.map Zq))], []⟩) (fun t hm => oF rfl rfl (Zj (OpT.move rfl (dk rfl) hm.s0 rfl) (Ks 102 4 hm.o0) rfl)) rfl rfl (dV rfl rfl (dX g Zq rfl (.f rfl) ul171 i128 av rfl ?_))))))
  refine dQ rfl (.f rfl) Mb i38 rfl (dR rfl (.f rfl) Zi rfl ?_)
  obtain ⟨w, az, h⟩ := bind_some h
  refine dH fu67 (Zh.nil (Ho K (flx0 := false) (flx1 := false) az)) rfl (.f rfl) rfl (dP rfl (.f rfl) Mb i38 rfl (dS (c := ⟨none, .any, [(108, .ptr b (0 + 1)), (107, .sl false 1 (mI w))], [(5, (Tt b a.null q j))], [(5, (Tt b a.null w j))]⟩) (fun t hm => oF rfl rfl (Wf (i := 5) (cells' := [.d (.bool a.null), .d (.sl false 1 (mI w)), .d (.sl false 1 (mI j))]) rfl rfl i38 hm.s0 hm.s1 hm.o0 (nb rfl) rfl rfl)) rfl rfl (dF [0,1,0,0,12,28,60,127,255,511] Qx rfl (by kernel_rfl) (fun u hu => (tN (Ql hu (Zy (dP rfl (.f rfl) Mb i38 rfl (dL 5 rfl (.f rfl) Zi rfl ?_)))))))))
  refine dS (c := ⟨some 111, .sl false 3 (g.map Zq), [(10, .c (.ex p))], [(4, .arrA p 128 3 (g.map Zq))], []⟩) (fun t hm => oF rfl rfl (Zj (OpT.move rfl (dk rfl) hm.s0 rfl) (Ks 111 4 hm.o0) rfl)) rfl rfl (dV rfl rfl (dX g Zq rfl (.f rfl) ul171 i128 av rfl (dQ rfl (.f rfl) Mb i38 rfl (dR rfl (.f rfl) Zi rfl ?_))))
  obtain ⟨aq, a4, h⟩ := bind_some h
  refine dH fu67 (Zh.nil (Ho K (flx0 := false) (flx1 := false) a4)) rfl (.f rfl) rfl (dP rfl (.f rfl) Mb i38 rfl (dS (c := ⟨none, .any, [(117, .ptr b (0 + 2)), (116, .sl false 1 (mI aq))], [(5, (Tt b a.null w j))], [(5, (Tt b a.null w aq))]⟩) (fun t hm => oF rfl rfl (Wf (i := 5) (cells' := [.d (.bool a.null), .d (.sl false 1 (mI w)), .d (.sl false 1 (mI aq))]) rfl rfl i38 hm.s0 hm.s1 hm.o0 (nb rfl) rfl rfl)) rfl rfl (dF [0,1,0,0,12,28,60,127,255,511] Qx rfl (by kernel_rfl) (fun u hu => (Qk (tN (Ql hu (Qr (mw rfl (oI rfl ?_))))))))))
  refine aw rfl (nL (tN ?_))
  refine Qf ?_ (ih (wI (s + (1:Int))) ac ad af ag m ai aj al am g a.null w aq y aa ab p b h)
  exact tq rfl rfl
  refine Qo rfl au (T.exit (Qj (Qj (Qq (tN (T.seq (sR (Qr (oP M3 i5 rfl (oL 3 ul5 rfl (oI rfl ?_)))))))))))
  refine nL (tN ?_)
  rcases Qg h with ⟨ay, h⟩ | ⟨ay, h⟩
  cases h
  refine Qo rfl ay (T.skip (tN (sR (Qr (oA 5 [.bool an, .sl false 1 (mI q), .sl false 1 (mI j)] Mb i128 rfl (sp rfl (Qt (i := 2) (cells' := [.d (.bool an), .d (.sl false 1 (mI q)), .d (.sl false 1 (mI j))]) rfl rfl i128 rfl rfl rfl rfl (nb rfl) rfl (nL (tN (T.ret ?_))))))))))
  exact Q7 (.cons _ _ _ _ (.cellAgg 8 128 _ 0 2 128 _ [.bool an, .sl false 1 (mI q), .sl false 1 (mI j)] _ _ 3 _ rfl rfl rfl rfl Mb rfl i128) .nil) (.cons 0 rfl (.cons 0 rfl (.nil _))) (by cases h; exact ⟨gl [y], rfl, rfl⟩)
theorem Nl {r : Qu × Qn} (K : Nat) (rec_raddleref09_builder_node : Qn → (List Q3) → Int → Int → Option (Qu × Qn)) (hrec_raddleref09_builder_node : U6 rec_raddleref09_builder_node) (bx0 : Nat) : ∀ (k : Nat), ∀ (x1 : List Q3) (x3 ad : Int) (q : List Zz) (a : Int) (b : Z6) (g : List Int) (u w : Int) (y : ByteArray) (j : List Qu) (flx1 : Bool) (m : Value) (aa ab : Nat) (af : Value), Un K rec_raddleref09_builder_node k x1 x3 ad q a b g u w y j = some r → TL tp 128 (ca [1,1,1,1,1,1,0,1,0,0] ff66) ⟨[(0, .ptr bx0 0), (1, .sl flx1 9 (x1.map Qw)), (3, .int .i64 x3), (8, .ptr aa 0), (9, .ptr ab 0), (10, .c (.ex af)), (11, .int .i64 ad)], [(Ld bx0 m), .arrX m 65 9 0 (q.map Q1), (o128 aa false (.slice none 0 0) (.slice none 0 0)), (b165x13 ab a b.a0 b.a1 b.a2 b.a3 g u w y), .arrA af 128 3 (j.map Zq)]⟩ (Cj bx0 r) := by
 intro k
 induction k with
 | zero =>
  intro x1 x3 ad q a b g u w y j flx1 m aa ab af h
  exact zn h
 | succ k ih =>
  intro x1 x3 ad q a b g u w y j flx1 m aa ab af h
  rw [Un] at h
  refine Q0 (T.seq (sR (Qr (mw rfl (oP M3 i38 rfl (oL 3 Zi rfl (oU g (cI .i64) Zi rfl ?_)))))))
  refine oI rfl (nL (tN ?_))
  rcases Qg h with ⟨ai, h⟩ | ⟨ai, h⟩
  refine Qp rfl ai (T.skip (tN (T.seq (T.block (Qr ?_)))))
  iterate 3 refine mw rfl ?_
  refine oP M3 i38 rfl (oL 3 Zi rfl (mw rfl ?_))
  obtain ⟨al, am, h⟩ := bind_some h
  refine oX g (cI .i64) Zi i3 am rfl (oR ul3 rfl (mw rfl ?_))
  obtain ⟨ag, an, h⟩ := bind_some h
  refine sp rfl (Q9 (is := [0, 1]) (ph := []) rfl (dk rfl) fu66 rfl rfl (Zm.cons rfl (Zm.cons rfl (Zm.cons rfl (Zm.cons rfl Zm.nil)))) (hrec_raddleref09_builder_node (Qn.mk q) x1 al x3 bx0 m flx1 _ an) (.cons rfl rfl (.cons rfl rfl (.nil))) (fun _ => rfl) (fun ap => (nm (.c (.c (.c (.c (.c (.n)))))) (sp rfl (OpT.buildSlice (elems := ([ag.1] : List Qu).map Zq) rfl (dk rfl) ul171 i128 (by decide) rfl (Hs rfl) rfl rfl rfl (Xh rfl) (by decide) ?_)))))
  obtain ⟨aq, h⟩ := Q6 h
  refine sp rfl (Zp (i := 4) (xs := j) (ys := [ag.1]) (f := Zq) rfl (dk rfl) ul171 i128 rfl rfl rfl rfl aq (fun au => (aw rfl (nL (Qk (tN (Qr (mw rfl (oI rfl (aw rfl ?_))))))))))
  refine nL (tN ?_)
  refine Qf ?_ (ih x1 x3 (wI (ad + (1:Int))) ag.2.p a b g u w y (j ++ [ag.1]) flx1 (ap 0) aa ab au h)
  exact tq rfl rfl
  refine Qo rfl ai (T.exit (Qj (Qj (Qq (tN (T.seq (sR (Qr (oP M3 i5 rfl (oL 3 ul5 rfl (oI rfl ?_)))))))))))
  refine nL (tN ?_)
  rcases Qg h with ⟨aj, h⟩ | ⟨aj, h⟩
  refine Qp rfl aj (sR (Qr (mw rfl (mw rfl ?_))))
  obtain ⟨ac, av, h⟩ := bind_some h
  refine sp rfl (Q9 (is := [0, 1]) (ph := []) rfl (dk rfl) fu106 rfl rfl (Zm.cons rfl (Zm.view (i := 4) rfl rfl Zm.nil)) (S9 K (bx0 := bx0) (wx0c0 := m) (flx1 := false) av) (.cons rfl rfl (.cons rfl rfl (.nil))) (fun _ => rfl) (fun ay => (nm (.c (.c (.c (.c (.c (.n)))))) (sp rfl (Qt (i := 2) (cells' := [.d (.bool ac.1.null), .d (.sl false 1 (mI ac.1.first)), .d (.sl false 1 (mI ac.1.last))]) rfl rfl i128 rfl rfl rfl rfl (nb rfl) rfl (nL (tN (T.ret (Qs (Q7 (.cons _ _ _ _ (.cellAgg 8 128 _ 0 2 128 _ [.bool ac.1.null, .sl false 1 (mI ac.1.first), .sl false 1 (mI ac.1.last)] _ _ 3 _ rfl rfl rfl rfl Mb rfl i128) .nil) (.cons 0 rfl (.cons 0 rfl (.nil _))) (by cases h; exact ⟨gl [ay 0], rfl, rfl⟩)))))))))))
  refine Qo rfl aj (T.skip (tN (sR (Qr (oP M3 i5 rfl (oL 3 ul5 rfl (oI rfl (sp rfl (Zj (OpT.build (l := [.bool (a == (5:Int)), .ex (.slice none 0 0), .ex (.slice none 0 0)]) rfl (dk rfl) (Zk (pl := [(0, 1), (1, 1), (2, 1)]) Mb i128 rfl) (Hs rfl) rfl rfl rfl) (Zt 83 (l := [.bool (a == (5:Int)), .ex (.slice none 0 0), .ex (.slice none 0 0)]) (l' := [.bool (a == (5:Int)), .sl false 1 (([] : List Int).map (cI .i64)), .sl false 1 (([] : List Int).map (cI .i64))]) (.cons (.same _) (.cons (.nil _ _) (.cons (.nil _ _) (.refl _))))) ?_)))))))))
  refine sp rfl (Za rfl (dk rfl) i128 rfl (fun az => (sp rfl (Qt (i := 0) (cells' := [.d (.bool (a == (5:Int))), .d (.sl false 1 (([] : List Int).map (cI .i64))), .d (.sl false 1 (([] : List Int).map (cI .i64)))]) rfl rfl i128 rfl rfl rfl rfl (nb rfl) rfl (nL (tN (T.seq (sR (Qr (aw rfl (nL (tN ?_))))))))))))
  refine T.block (T.loop (Qf (Ht 3 (l := [.bool false, .ex (.slice none 0 0), .ex (.slice none 0 0)]) (l' := [.bool false, .sl false 1 (([] : List Int).map (cI .i64)), .sl false 1 (([] : List Int).map (cI .i64))]) rfl (.cons (.same _) (.cons (.nil _ _) (.cons (.nil _ _) (.refl _))))) ?_))
  refine Qf ?_ (Nk K rec_raddleref09_builder_node hrec_raddleref09_builder_node bx0 K (0:Int) q [] [] a b g u w y j (a == (5:Int)) [] [] m aa ab af az h)
  exact tr rfl (.c (.s .z) (.c (.s .z) (.c (.s .z) (.c (.s .z) (.c (.s .z) (.c .z (.n _)))))))
theorem Ol (K : Nat) (rec_raddleref09_builder_node : Qn → (List Q3) → Int → Int → Option (Qu × Qn)) (hrec_raddleref09_builder_node : U6 rec_raddleref09_builder_node) {x0 : Qn} {x1 : List Q3} {x2 x3 : Int} {bx0 : Nat} {wx0c0 : Value} {flx1 : Bool} {r : Qu × Qn} (h : Hd K rec_raddleref09_builder_node x0 x1 x2 x3 = some r) : U3 tp 66 [.ptr bx0 0, .sl flx1 9 (x1.map Qw), .int .i64 x2, .int .i64 x3] [(Ld bx0 wx0c0), .arrX wx0c0 65 9 0 (x0.p.map Q1)] (fun γ => (.agg [.bool r.1.null, .sl false 1 (mI r.1.first), .sl false 1 (mI r.1.last)])) (fun γ => [(Ld bx0 (γ 0)), .arrX (γ 0) 65 9 0 (r.2.p.map Q1)]) := by
 refine CI 128 fu66 rfl ?_
 unfold Hd at h
 refine sR (Qr (sp rfl (Za rfl (dk rfl) i128 rfl (fun q => (nL (tN (sR (Qr (mw rfl (mw rfl ?_))))))))))
 obtain ⟨a, u, h⟩ := bind_some h
 refine oX x1 Qw Qcf i165 u rfl (oJ M3 i165 rfl (sp rfl (Za rfl (dk rfl) i165 rfl (fun w => (sp rfl (Qt (i := 0) (cells' := [.d (.int .u8 a.Op), .d (.int .u64 a.S.a0), .d (.int .u64 a.S.a1), .d (.int .u64 a.S.a2), .d (.int .u64 a.S.a3), .d (.sl false 1 (mI a.L)), .d (.int .i64 a.Lo), .d (.int .i64 a.Hi), .d (.str a.Name)]) rfl rfl i165 rfl rfl rfl rfl (nb rfl) rfl (nL (tN (T.seq (sR (Qr ?_)))))))))))
 refine oP M3 i5 rfl (oL 0 ul5 rfl (oI rfl (nL (tN ?_))))
 rcases Qg h with ⟨m, h⟩ | ⟨m, h⟩
 cases h
 refine Qo rfl m (T.skip (tN (T.seq (sR (Qr (oP M3 i5 rfl (oL 0 ul5 rfl (oI rfl ?_))))))))
 refine nL (tN ?_)
 rcases Qg h with ⟨j, h⟩ | ⟨j, h⟩
 refine Qp rfl j (sR (Qr (mw rfl (oP M3 i63 rfl (oA 0 (Z6.dc .u64 a.S) Qk8 i63 rfl (mw rfl (sp rfl (Zj (OpT.build (l := [.int .u64 a.S.a0, .int .u64 a.S.a1, .int .u64 a.S.a2, .int .u64 a.S.a3, .int .i64 (1:Int), .int .i64 (1:Int), .int .i64 x3, .bool false, .ex (.slice none 0 0)]) rfl (dk rfl) (Zk (pl := [(0, 4), (4, 1), (5, 1), (6, 1), (7, 1), (8, 1)]) ul65 i65 rfl) (Hs rfl) rfl rfl rfl) (Zt 29 (l := [.int .u64 a.S.a0, .int .u64 a.S.a1, .int .u64 a.S.a2, .int .u64 a.S.a3, .int .i64 (1:Int), .int .i64 (1:Int), .int .i64 x3, .bool false, .ex (.slice none 0 0)]) (l' := [.int .u64 a.S.a0, .int .u64 a.S.a1, .int .u64 a.S.a2, .int .u64 a.S.a3, .int .i64 (1:Int), .int .i64 (1:Int), .int .i64 x3, .bool false, .sl false 1 (([] : List Int).map (cI .i64))]) (.cons (.same _) (.cons (.same _) (.cons (.same _) (.cons (.same _) (.cons (.same _) (.cons (.same _) (.cons (.same _) (.cons (.same _) (.cons (.nil _ _) (.refl _))))))))))) ?_))))))))
 obtain ⟨b, y, h⟩ := bind_some h
 refine sp rfl (Q9 (is := [2, 3]) (ph := []) rfl (dk rfl) fu105 rfl rfl (Zm.cons rfl (Zm.cons rfl Zm.nil)) (S7 K (bx0 := bx0) (wx0c0 := wx0c0) y) (.cons rfl rfl (.cons rfl rfl (.nil))) (fun _ => rfl) (fun aa => (nm (.c (.c (.c (.c (.n))))) (sp rfl (Qt (i := 1) (cells' := [.d (.bool b.1.null), .d (.sl false 1 (mI b.1.first)), .d (.sl false 1 (mI b.1.last))]) rfl rfl i128 rfl rfl rfl rfl (nb rfl) rfl (nL (tN (T.ret (Qs (Q7 (.cons _ _ _ _ (.cellAgg 8 128 _ 0 1 128 _ [.bool b.1.null, .sl false 1 (mI b.1.first), .sl false 1 (mI b.1.last)] _ _ 3 _ rfl rfl rfl rfl Mb rfl i128) .nil) (.cons 2 rfl (.cons 2 rfl (.nil _))) (by cases h; exact ⟨gl [aa 0], rfl, rfl⟩)))))))))))
 refine Qo rfl j (T.skip (tN (T.seq (sR (Qr (oP M3 i5 rfl (oL 0 ul5 rfl (oI rfl ?_))))))))
 refine mw rfl ?_
 rcases Qg h with ⟨g, h⟩ | ⟨g, h⟩
 cases h
 refine pf rfl g (pf rfl g (pf rfl g (oZ g rfl (nL (tN (Qo rfl rfl (T.skip (tN ?_))))))))
 refine sR (Qr (aw rfl (nL (tN (T.seq (sR (Qr (aw rfl (nL (tN ?_))))))))))
 refine T.block (T.loop (Qf (Xd 128 3) ?_))
 refine Qf ?_ (Nl K rec_raddleref09_builder_node hrec_raddleref09_builder_node bx0 K x1 x3 (0:Int) x0.p a.Op a.S a.L a.Lo a.Hi a.Name [] flx1 wx0c0 q w (Qd7 2) h)
 exact tr rfl (.c (.s (.s (.s .z))) (.c (.s (.s (.s .z))) (.c (.s (.s .z)) (.c (.s .z) (.c .z (.n _))))))
theorem Ok (K : Nat) : ∀ n, U6 (U5 K n) := by
 intro n
 induction n with
 | zero =>
  intro x0 x1 x2 x3 bx0 wx0c0 flx1 r h
  exact zn h
 | succ n ih =>
  intro x0 x1 x2 x3 bx0 wx0c0 flx1 r h
  exact Ol K (U5 K n) ih h
theorem R3 (K : Nat) {x0 : Qn} {x1 : List Q3} {x2 x3 : Int} {bx0 : Nat} {wx0c0 : Value} {flx1 : Bool} {r : Qu × Qn} (h : Dh K x0 x1 x2 x3 = some r) : U3 tp 66 [.ptr bx0 0, .sl flx1 9 (x1.map Qw), .int .i64 x2, .int .i64 x3] [(Ld bx0 wx0c0), .arrX wx0c0 65 9 0 (x0.p.map Q1)] (fun γ => (.agg [.bool r.1.null, .sl false 1 (mI r.1.first), .sl false 1 (mI r.1.last)])) (fun γ => [(Ld bx0 (γ 0)), .arrX (γ 0) 65 9 0 (r.2.p.map Q1)]) := Ok K K x0 x1 x2 x3 bx0 wx0c0 flx1 r h
abbrev Qhg (r : Bool) : ES := Jm tp ff65 (fun y t => y = (.bool r) ∧ t = [])
abbrev Qbt (r : Bool) : ES := fT 37 [1,1,1] ff65 (Qhg r)
abbrev Tf (r : Bool) : ES := Qv 0 ((Qbt r))
theorem Qdt {r : Bool} (K : Nat) : ∀ (k : Nat), ∀ (x0 : List Q3) (c : Int) (flx0 : Bool), Gb K k x0 c = some r → TL tp 37 (ca [1,1,0,1,0,0] ff65) ⟨[(0, .sl flx0 9 (x0.map Qw)), (3, .int .i64 c)], []⟩ (Tf r) := by
 intro k
 induction k with
 | zero =>
  intro x0 c flx0 h
  exact zn h
 | succ k ih =>
  intro x0 c flx0 h
  rw [Gb] at h
  refine Q0 (T.seq (sR (Qr (mw rfl (mw rfl (oU x0 Qw Qcf rfl (oI rfl ?_)))))))
  refine nL (tN ?_)
  rcases Qg h with ⟨g, h⟩ | ⟨g, h⟩
  refine Qp rfl g (T.skip (tN (T.seq (T.block (sR (Qr (mw rfl (mw rfl ?_))))))))
  obtain ⟨a, j, h⟩ := bind_some h
  refine oX x0 Qw Qcf i165 j rfl (oJ M3 i165 rfl (sp rfl (Za rfl (dk rfl) i165 rfl (fun l => (sp rfl (Qt (i := 0) (cells' := [.d (.int .u8 a.Op), .d (.int .u64 a.S.a0), .d (.int .u64 a.S.a1), .d (.int .u64 a.S.a2), .d (.int .u64 a.S.a3), .d (.sl false 1 (mI a.L)), .d (.int .i64 a.Lo), .d (.int .i64 a.Hi), .d (.str a.Name)]) rfl rfl i165 rfl rfl rfl rfl (nb rfl) rfl (nL (tN (sR (Qr (oP M3 i5 rfl (oL 0 ul5 rfl ?_))))))))))))
  refine oI rfl (mw rfl ?_)
  rcases Qg h with ⟨b, h⟩ | ⟨b, h⟩
  cases h
  refine pf rfl b (pf rfl b (pf rfl b (pf rfl b (Qgb (.gone _ _ _ rfl rfl rfl) (dk rfl) (Qgb (.gone _ _ _ rfl rfl rfl) (dk rfl) (Qgb (.gone _ _ _ rfl rfl rfl) (dk rfl) ?_))))))
  refine pf rfl b (oZ b rfl (mw rfl (pf rfl rfl (pf rfl rfl (pf rfl rfl (pf rfl rfl ?_))))))
  refine oZ rfl rfl (nL (tN (Qo rfl rfl (T.skip (Qk (tN (Qr (mw rfl (oI rfl ?_)))))))))
  refine aw rfl (nL (tN ?_))
  refine Qf ?_ (ih x0 (wI (c + (1:Int))) flx0 h)
  exact tq rfl rfl
  refine Qo rfl g (T.exit (Qj (Qj (Qq (tN (sR (Qr (aw rfl (nL (tN (T.ret (fd rfl (by cases h; exact ⟨rfl, rfl⟩)))))))))))))
theorem Qhh (K : Nat) {x0 : List Q3} {flx0 r : Bool} (h : Ft K x0 = some r) : Zh tp 65 [.sl flx0 9 (x0.map Qw)] [] (.bool r) := by
 refine CI 37 fu65 rfl ?_
 unfold Ft at h
 refine sR (Qr (aw rfl (nL (tN (T.seq (sR (Qr (mw rfl ?_))))))))
 obtain ⟨c, b, h⟩ := bind_some h
 refine oH fu62 (Zh.nil (P1 K (flx0 := flx0) b)) rfl (oT rfl (nL (tN ?_)))
 rcases Qg h with ⟨a, h⟩ | ⟨a, h⟩
 cases h
 refine Qo rfl a (T.skip (tN (T.seq (sR (Qr (aw rfl (nL (tN (T.block ?_)))))))))
 refine T.loop ?_
 refine Qf ?_ (Qdt K K x0 (0:Int) flx0 h)
 exact tq rfl rfl
abbrev Qcp (r : Zv × Int) : ES := Jm tp ff37 (fun y t => y = (.tup [.agg [.sl false 1 (mI r.1.First), .sl false 9 (r.1.P.map Q1)], .int .i64 r.2]) ∧ t = [])
abbrev Qbs (r : Zv × Int) : ES := fT 86 [1,1,1,1,1,1] ff37 (Qcp r)
abbrev Ck (r : Zv × Int) : ES := Qv 2 ((Qbs r))
abbrev Tc (r : Zv × Int) : ES := fL 86 [1,1,1,1,1,0,1,0,0] ff37 (Ck r)
abbrev On (r : Zv × Int) : ES := fT 86 [1,1,1,1,1,0,1,0,0,1,1] ff37 (Tc r)
abbrev Ev (r : Zv × Int) : ES := Qv 3 ((On r))
abbrev Eu (r : Zv × Int) : ES := fT 86 [1,1,1,1,1,0,1,0,0,1,0,0,1,1,1] ff37 (Ev r)
abbrev Bc (r : Zv × Int) : ES := Qv 4 ((Eu r))
abbrev Qfw (r : Zv × Int) : ES := fT 86 [1,1,1] ff37 (Qcp r)
abbrev Qds (r : Zv × Int) : ES := Qv 0 ((Qfw r))
abbrev P0 (r : Zv × Int) (go : (List (List Q3)) → Int → (List Int) → (List Zz) → (List Zz) → (List Int) → (List Zz) → Option (Zv × Int)) : Prop := ∀ (x0 : List (List Q3)) (a : Int) (b : List Int) (c f : List Zz) (g : List Int) (i : List Zz) (flx0 : Bool) (j : Nat) (l : Value) (m : Nat) (n : Value) (p : Nat) (q : Value), go x0 a b c f g i = some r → TL tp 86 (ca [1,1,1,1,1,0,1,0,0] ff37) ⟨[(0, .sl flx0 1 (x0.map (cL 9 Qw))), (2, .ptr j 0), (5, .ptr m 0), (6, .ptr p 0), (7, .int .i64 a)], [(b43x15 j b l), .arrA l 65 9 (c.map Q1), (Ld m n), .arrX n 65 9 0 (f.map Q1), (b43x15 p g q), .arrA q 65 9 (i.map Q1)]⟩ (Ck r)
theorem Qhd {r : Zv × Int} (K : Nat) (go1 : (List (List Q3)) → Int → (List Int) → (List Zz) → (List Zz) → (List Int) → (List Zz) → Option (Zv × Int)) (hgo1 : P0 r go1) : ∀ (k : Nat), ∀ (x0 : List (List Q3)) (aa ab : Int) (ac : List Int) (ad j : List Zz) (af : List Int) (ag : List Zz) (ai : Bool) (aj m : List Int) (flx0 : Bool) (q : Nat) (s : Value) (g : Nat) (b : Value) (w : Nat) (y : Value) (p : Nat), Be K go1 k x0 aa ab ac ad j af ag ai aj m = some r → TL tp 86 (ca [1,1,1,1,1,0,1,0,0,1,0,0,1,1,0,1,0,0] ff37) ⟨[(0, .sl flx0 1 (x0.map (cL 9 Qw))), (2, .ptr q 0), (5, .ptr g 0), (6, .ptr w 0), (7, .int .i64 aa), (8, .ptr p 0), (9, .int .i64 ab)], [(b43x15 q ac s), .arrA s 65 9 (ad.map Q1), (Ld g b), .arrX b 65 9 0 (j.map Q1), (b43x15 w af y), .arrA y 65 9 (ag.map Q1), (Tt p ai aj m)]⟩ (Bc r) := by
 intro k
 induction k with
 | zero =>
  intro x0 aa ab ac ad j af ag ai aj m flx0 q s g b w y p h
  exact zn h
 | succ k ih =>
  intro x0 aa ab ac ad j af ag ai aj m flx0 q s g b w y p h
  rw [Be] at h
  refine Q0 (T.seq (sR (Qr (mw rfl (oP Mb i38 rfl (oL 6 Zi rfl (oU m (cI .i64) Zi rfl ?_)))))))
  refine oI rfl (nL (tN ?_))
  rcases Qg h with ⟨al, h⟩ | ⟨al, h⟩
  refine Qp rfl al (T.skip (tN (T.seq (T.block (Zy (dV rfl rfl (dK rfl (.f rfl) rfl ?_)))))))
  refine dP rfl (.f rfl) ul126 i41 rfl (dL 2 rfl (.f rfl) Qcg rfl (dP rfl (.f rfl) Mb i38 rfl (dL 6 rfl (.f rfl) Zi rfl (dV rfl rfl ?_))))
  obtain ⟨l, ap, h⟩ := bind_some h
  refine dX m (cI .i64) rfl (.f rfl) Zi i3 ap rfl (dR rfl (.f rfl) ul3 rfl ?_)
  obtain ⟨a, am, h⟩ := bind_some h
  refine dS (c := ⟨some 71, .el b 9 (Int.toNat l) 0, [(65, .c (.ex b)), (70, .int .i64 l)], [(3, .arrX b 65 9 0 (j.map Q1))], []⟩) (fun t hm => oF rfl rfl (Zc (n := 3) (xs := j) (f := Q1) (old := a) rfl (dk rfl) Qcg i65 hm.s0 hm.o0 hm.s1 am rfl)) rfl rfl (dS (c := ⟨some 72, .el b 9 (Int.toNat l) 7, [(71, .el b 9 (Int.toNat l) 0)], [], []⟩) (fun t hm => oF rfl rfl (Da rfl (dk rfl) ul65 rfl i4 (by decide) hm.s0 rfl)) rfl rfl (dS (c := ⟨none, .any, [(72, .el b 9 (Int.toNat l) 7)], [(3, .arrX b 65 9 0 (j.map Q1))], [(3, .arrX b 65 9 0 ((List.set j (Int.toNat l) (Zz.mk a.S a.Lo a.Hi a.Rule true a.Next)).map Q1))]⟩) (fun t hm => oF rfl rfl (Yr (i := 3) (xs := j) (f := Q1) (old := a) (new := (Zz.mk a.S a.Lo a.Hi a.Rule true a.Next)) rfl rfl i4 hm.s0 rfl hm.o0 (Zd am).2 (Qmm _) (nb rfl) rfl rfl)) rfl rfl (dF [0,1,3,7,0,16,0,112,240,511,1023,2047] Qx rfl (by kernel_rfl) (fun u hu => (Qk (tN (Ql hu (Qr (mw rfl (oI rfl ?_))))))))))
  refine aw rfl (nL (tN ?_))
  refine Qf ?_ (ih x0 aa (wI (ab + (1:Int))) ac ad (List.set j (Int.toNat l) (Zz.mk a.S a.Lo a.Hi a.Rule true a.Next)) af ag ai aj m flx0 q s g b w y p h)
  exact tq rfl rfl
  refine Qo rfl al (T.exit (Qj (Qj (Qq (tN (sR (Qr (mw rfl (oK rfl (oP ul126 i41 rfl (oL 2 Qcg rfl ?_)))))))))))
  refine sp rfl (Vz (i := 3) (xs := j) (f := Q1) rfl (dk rfl) Qcg rfl rfl (oI rfl (nL (tN ?_))))
  rcases Qg h with ⟨an, h⟩ | ⟨an, h⟩
  cases h
  refine Qo rfl an (T.skip (Qk (tN (Qr (mw rfl (oI rfl (aw rfl (nL (tN ?_)))))))))
  refine Qf ?_ (hgo1 x0 (wI (aa + (1:Int))) ac ad j af ag flx0 q s g b w y h)
  exact tq rfl rfl
theorem Qhe {r : Zv × Int} (K : Nat) : ∀ (k : Nat), P0 r (G4 K k) := by
 intro k
 induction k with
 | zero =>
  intro x0 q ai aj ab y al flx0 ad af w aa ag ac h
  exact zn h
 | succ k ih =>
  intro x0 q ai aj ab y al flx0 ad af w aa ag ac h
  rw [G4] at h
  refine Q0 (T.seq (sR (Qr (mw rfl (mw rfl (oU x0 (cL 9 Qw) ul87 rfl (oI rfl ?_)))))))
  refine nL (tN ?_)
  rcases Qg h with ⟨am, h⟩ | ⟨am, h⟩
  refine Qp rfl am (T.skip (tN (T.seq (T.block (T.seq (Ql Zu (Ur ?_)))))))
  refine gM rfl (fun _ => .f rfl) (fun _ => rfl) (gM rfl (fun _ => .f rfl) (fun _ => rfl) (gM rfl (fun _ => .f rfl) (fun _ => rfl) ?_))
  obtain ⟨m, an, h⟩ := bind_some h
  refine gX x0 (cL 9 Qw) rfl (fun _ => .f rfl) ul87 i80 an (fun _ => rfl) (gR rfl (fun _ => .f rfl) Qcf (fun _ => rfl) (gM rfl (fun _ => .f rfl) (fun _ => rfl) (gM rfl (fun _ => .f rfl) (fun _ => rfl) (gX x0 (cL 9 Qw) rfl (fun _ => .f rfl) ul87 i80 an (fun _ => rfl) (gR rfl (fun _ => .f rfl) Qcf (fun _ => rfl) (gN m Qw rfl (fun _ => .f rfl) Qcf (fun _ => rfl) ?_))))))
  refine gI rfl (fun _ => .f rfl) (fun _ => rfl) (gM rfl (fun _ => .f rfl) (fun _ => rfl) ?_)
  obtain ⟨j, aq, h⟩ := bind_some h
  refine DGG.step (c := fun a => ⟨some 48, .agg [.bool j.1.null, .sl false 1 (mI j.1.first), .sl false 1 (mI j.1.last)], [(36, .ptr w 0), (40, .sl false 9 (m.map Qw)), (46, .int .i64 (wI ((m.length : Int) - (1:Int)))), (47, .int .i64 q)], [(4, .arrX aa 65 9 0 (ab.map Q1)), (3, (Ld w aa))], [(3, (Ld w ((a 12).1 0))), (4, .arrX ((a 12).1 0) 65 9 0 (j.2.p.map Q1))]⟩) [12] (fun a γ' h => by simp only [h 12 (by decide)]) (fun a t hm => oF rfl rfl (Q9 (is := [3, 4]) (ph := []) rfl (dk rfl) fu66 rfl rfl (Zm.cons hm.s0 (Zm.cons hm.s1 (Zm.cons hm.s2 (Zm.cons hm.s3 Zm.nil)))) (R3 K (bx0 := w) (wx0c0 := aa) (flx1 := false) aq) (.cons hm.o1 rfl (.cons hm.o0 rfl (.nil))) (fun _ => rfl) (fun g => ⟨(g, 0), rfl⟩))) (fun a => Zg rfl rfl) (DGG.step (c := fun a => ⟨some 8, .ptr ((a 13).2) 0, [], [(0, .ro 0 [])], [(0, .box ((a 13).2) 128 [.d (.bool false), .d (.ex (.slice none 0 0)), .d (.ex (.slice none 0 0))])]⟩) [13] (fun a γ' h => by simp only [h 13 (by decide)]) (fun a t hm => oF rfl rfl (Qcd 0 rfl (dk rfl) i128 rfl hm.o0 (fun b => ⟨(fun _ => undef, b), rfl⟩))) (fun a => Zg rfl rfl) (DGG.step (c := fun a => ⟨none, .any, [(8, .ptr ((a 13).2) 0), (48, .agg [.bool j.1.null, .sl false 1 (mI j.1.first), .sl false 1 (mI j.1.last)])], [(0, .box ((a 13).2) 128 [.d (.bool false), .d (.ex (.slice none 0 0)), .d (.ex (.slice none 0 0))])], [(0, .box ((a 13).2) 128 [.d (.bool j.1.null), .d (.sl false 1 (mI j.1.first)), .d (.sl false 1 (mI j.1.last))])]⟩) [13] (fun a γ' h => by simp only [h 13 (by decide)]) (fun a t hm => oF rfl rfl (Qt (i := 0) (cells' := [.d (.bool j.1.null), .d (.sl false 1 (mI j.1.first)), .d (.sl false 1 (mI j.1.last))]) rfl rfl i128 hm.s0 hm.s1 rfl hm.o0 (nb rfl) rfl ⟨u0, rfl⟩)) (fun a => Zg rfl rfl) (gF [0,0,0,6,14,0,0,96,224,480,992,0,4095,0,16383] Qx rfl (by kernel_rfl) (fun _ => by kernel_rfl) (fun a u hu => (tN (Ql hu (sR (Qr (oP Qk9 i38 rfl (oL 5 Zi rfl ?_))))))))))
  refine oP Mb i38 rfl (oL 0 Zi rfl ?_)
  obtain ⟨ap, au, h⟩ := bind_some h
  refine oH fu67 (Zh.nil (Ho K (flx0 := false) (flx1 := false) au)) rfl (oP Qk9 i38 rfl (sp rfl (Wf (i := 5) (cells' := [.d (.sl false 1 (mI ap)), .d (.ex ac)]) rfl rfl i38 rfl rfl rfl (nb rfl) rfl (nL (tN (T.seq (sR (Qr (aw rfl ?_)))))))))
  refine nL (tN (T.block (T.loop ?_)))
  refine Qf ?_ (Qhd K (G4 K k) ih K x0 q (0:Int) ai aj j.2.p ap al j.1.null j.1.first j.1.last flx0 ad af w ((a 12).1 0) ag ac ((a 13).2) h)
  exact tr rfl (.c (.s .z) (.c (.s .z) (.c (.s .z) (.c (.s .z) (.c (.s .z) (.c (.s .z) (.c .z (.n _))))))))
  refine Qo rfl am (T.exit (Qj (Qj (Qq (tN (sR (Qr (mw rfl (oK rfl (oP ul126 i41 rfl (oL 2 Qcg rfl ?_)))))))))))
  refine oP Qk9 i41 rfl (sp rfl (Wf (i := 4) (cells' := [.d (.sl false 1 (mI y)), .d (.ex aa)]) rfl rfl i41 rfl rfl rfl (nb rfl) rfl (nL (tN (sR (Qr (Uh (Uf 3 rfl) (sp rfl (Zj (Iz (i := 4) (l := [.sl false 1 (mI y), .ex aa]) rfl (dk rfl) Qk9 rfl i43 rfl rfl rfl rfl rfl) (Zt 85 (l := [.sl false 1 (mI y), .ex aa]) (l' := [.sl false 1 (mI y), .sl false 9 (ab.map Q1)]) (.cons (.same _) (.cons (.view 3 rfl) (.refl _)))) (sp rfl (Qt (i := 0) (cells' := [.d (.sl false 1 (mI y)), .d (.sl false 9 (ab.map Q1))]) rfl rfl i43 rfl rfl rfl rfl (nb rfl) rfl (aw rfl ?_))))))))))))
  refine nL (tN (T.ret (Fin.done (.cons _ _ _ _ (.cellAgg 2 43 _ 0 0 43 _ [.sl false 1 (mI y), .sl false 9 (ab.map Q1)] _ _ 2 _ rfl rfl rfl rfl Qk9 rfl i43) (.cons _ _ _ _ (.tmp 3 _ rfl) .nil)) (by cases h; exact ⟨rfl, rfl⟩))))
theorem Qhf {r : Zv × Int} (K : Nat) : ∀ (k : Nat), ∀ (x0 : List (List Q3)) (b : Int) (flx0 : Bool) (a : Nat), Bf K k x0 b = some r → TL tp 86 (ca [1,1,0,1,0,0] ff37) ⟨[(0, .sl flx0 1 (x0.map (cL 9 Qw))), (2, .ptr a 0), (4, .int .i64 b)], [.box a 43 [.d (.ex (.slice none 0 0)), .d (.ex (.slice none 0 0))]]⟩ (Qds r) := by
 intro k
 induction k with
 | zero =>
  intro x0 b flx0 a h
  exact zn h
 | succ k ih =>
  intro x0 b flx0 a h
  rw [Bf] at h
  refine Q0 (T.seq (sR (Qr (mw rfl (mw rfl (oU x0 (cL 9 Qw) ul87 rfl (oI rfl ?_)))))))
  refine nL (tN ?_)
  rcases Qg h with ⟨g, h⟩ | ⟨g, h⟩
  refine Qp rfl g (T.skip (tN (T.seq (T.block (sR (Qr (mw rfl (mw rfl ?_))))))))
  obtain ⟨m, p, h⟩ := bind_some h
  refine oX x0 (cL 9 Qw) ul87 i80 p rfl (oR Qcf rfl ?_)
  obtain ⟨y, q, h⟩ := bind_some h
  refine oH fu65 (Zh.nil (Qhh K (flx0 := false) q)) rfl (oT rfl (nL (tN ?_)))
  rcases Qg h with ⟨j, h⟩ | ⟨j, h⟩
  cases h
  refine Qo rfl j (T.skip (Qk (tN (Qr (mw rfl (oI rfl (aw rfl (nL (tN ?_)))))))))
  refine Qf ?_ (ih x0 (wI (b + (1:Int))) flx0 a h)
  exact tq rfl rfl
  refine Qo rfl g (T.exit (Qj (Qj (Qq (tN (sR (Qr (sp rfl (OpT.build (l := [.ex (.slice none 0 0)]) rfl (dk rfl) (Zk (pl := [(0, 1)]) ul126 i126 rfl) (Hs rfl) rfl rfl (sp rfl (Q8 rfl (dk rfl) rfl (fun u => (aw rfl (nL (tN (sR (Qr ?_)))))))))))))))))
  refine sp rfl (Zj (OpT.build (l := [.ex (.slice none 0 0), .ex (.slice none 0 0)]) rfl (dk rfl) (Zk (pl := [(0, 1), (1, 1)]) Qk9 i43 rfl) (Hs rfl) rfl rfl rfl) (Zt 29 (l := [.ex (.slice none 0 0), .ex (.slice none 0 0)]) (l' := [.sl false 1 (([] : List Int).map (cI .i64)), .ex (.slice none 0 0)]) (.cons (.nil _ _) (.cons (.same _) (.refl _)))) (sp rfl (Za rfl (dk rfl) i43 rfl (fun w => (sp rfl (Qt (i := 0) (cells' := [.d (.sl false 1 (([] : List Int).map (cI .i64))), .d (.ex (.slice none 0 0))]) rfl rfl i43 rfl rfl rfl rfl (nb rfl) rfl (nL (tN (T.seq (sR (Qr (aw rfl ?_))))))))))))
  refine nL (tN (T.block (T.loop (Qf (Xd 65 9) (Qf (Ht 3 (l := [.ex (.slice none 0 0), .ex (Qd7 16)]) (l' := [.sl false 1 (([] : List Int).map (cI .i64)), .ex (Qd7 16)]) rfl (.cons (.nil _ _) (.cons (.same _) (.refl _)))) (Qf (Iy 65 9) (Qf (Xd 65 9) ?_)))))))
  refine Qf ?_ (Qhe K K x0 (0:Int) [] [] [] [] [] flx0 a (Qd7 16) u (Qd7 17) w (Qd7 18) h)
  exact tr rfl (.c (.s (.s (.s (.s (.s .z))))) (.c (.s (.s .z)) (.c (.s (.s (.s .z))) (.c (.s .z) (.c (.s .z) (.c .z (.n _)))))))
theorem Qko (K : Nat) {x0 : List (List Q3)} {flx0 : Bool} {r : Zv × Int} (h : Td K x0 = some r) : Zh tp 37 [.sl flx0 1 (x0.map (cL 9 Qw))] [] (.tup [.agg [.sl false 1 (mI r.1.First), .sl false 9 (r.1.P.map Q1)], .int .i64 r.2]) := by
 refine CI 86 fu37 rfl ?_
 unfold Td at h
 refine sR (Qr (sp rfl (Za rfl (dk rfl) i43 rfl (fun b => (aw rfl (nL (tN (T.seq (sR (Qr (mw rfl ?_)))))))))))
 refine oU x0 (cL 9 Qw) ul87 rfl (oI rfl (nL (tN ?_)))
 rcases Qg h with ⟨a, h⟩ | ⟨a, h⟩
 cases h
 refine Qo rfl a (T.skip (tN (T.seq (sR (Qr (aw rfl (nL (tN (T.block ?_)))))))))
 refine T.loop ?_
 refine Qf ?_ (Qhf K K x0 (0:Int) flx0 b h)
 exact tq rfl rfl
abbrev Qha (r : Bool) : ES := Jm tp ff77 (fun y t => y = (.bool r) ∧ t = [])
abbrev Qdp (r : Bool) : ES := fT 41 [1,1] ff77 (Qha r)
abbrev Qap (r : Bool) : ES := Qv 0 ((Qdp r))
theorem Qdq {r : Bool} (K : Nat) : ∀ (k : Nat), ∀ (x0 : List Int) (x1 a : Int) (flx0 : Bool), We K k x0 x1 a = some r → TL tp 41 (ca [1,0,1,0,0] ff77) ⟨[(0, .sl flx0 1 (mI x0)), (1, .int .i64 x1), (5, .int .i64 a)], []⟩ (Qap r) := by
 intro k
 induction k with
 | zero =>
  intro x0 x1 a flx0 h
  exact zn h
 | succ k ih =>
  intro x0 x1 a flx0 h
  rw [We] at h
  refine Q0 (T.seq (sR (Qr (mw rfl (mw rfl (oU x0 (cI .i64) Zi rfl (oI rfl ?_)))))))
  refine nL (tN ?_)
  rcases Qg h with ⟨l, h⟩ | ⟨l, h⟩
  refine Qp rfl l (T.skip (tN (T.seq (T.block (T.seq (Zy (dV rfl rfl ?_)))))))
  refine dV rfl rfl ?_
  obtain ⟨b, m, h⟩ := bind_some h
  refine dX x0 (cI .i64) rfl (.f rfl) Zi i3 m rfl (dR rfl (.f rfl) ul3 rfl (dI rfl (.f rfl) rfl (dV rfl rfl ?_)))
  rcases Qg h with ⟨i, h⟩ | ⟨i, h⟩
  cases h
  refine dM rfl (.n i rfl) rfl (dM rfl (.n i rfl) rfl (dX x0 (cI .i64) rfl (.n i rfl) Zi i3 m rfl (dR rfl (.n i rfl) ul3 rfl (dM rfl (.n i rfl) rfl (dI rfl (.n i rfl) rfl (dZ rfl (.f rfl) i rfl ?_))))))
  refine dV rfl rfl ?_
  rcases Qg h with ⟨j, h⟩ | ⟨j, h⟩
  cases h
  refine dM rfl (.n j rfl) rfl (dI rfl (.n j rfl) rfl (dM rfl (.n j rfl) rfl ?_))
  rcases Qg h with ⟨d, h⟩ | ⟨d, h⟩
  refine dM rfl (.n d rfl) rfl (dM rfl (.n d rfl) rfl (dI rfl (.n d rfl) rfl ?_))
  obtain ⟨g, q, h⟩ := bind_some h
  refine dX x0 (cI .i64) rfl (.n d rfl) Zi i3 q rfl (dR rfl (.n d rfl) ul3 rfl (dM rfl (.n d rfl) rfl (dM rfl (.n d rfl) rfl (dX x0 (cI .i64) rfl (.n d rfl) Zi i3 m rfl (dR rfl (.n d rfl) ul3 rfl (dI rfl (.n d rfl) rfl ?_))))))
  refine dY rfl (.n j rfl) d rfl (dZ rfl (.f rfl) j rfl (dF [0,0,3,7,15,31,63,63,255,511,63,2047,4095,8191,16383,32767,65535,131071,131071,393215,1048575,2097151,131071,131071,12713983,29491199,67108863,134217727,268435455] Qx rfl (by kernel_rfl) (fun u hu => (tN (Ql hu ?_)))))
  rcases Qg h with ⟨p, h⟩ | ⟨p, h⟩
  cases h
  refine Qo rfl p (T.skip (Qk (tN (Qr (mw rfl (oI rfl (aw rfl (nL (tN ?_)))))))))
  refine Qf ?_ (ih x0 x1 (wI (a + (1:Int))) flx0 h)
  exact tq rfl rfl
  refine dO d rfl rfl (dO d rfl rfl (dO d rfl rfl (dO d rfl rfl (dO d rfl rfl (dO d rfl rfl (dO d rfl rfl ?_))))))
  refine dO d rfl rfl (dO d rfl rfl (dO d rfl rfl (dZ rfl (.n j rfl) d rfl (dZ rfl (.f rfl) j rfl (dF [0,0,3,7,15,31,63,63,255,511,63,2047,4095,8191,16383,32767,65535,131071,131071,393215,1048575,2097151,131071,131071,12713983,29491199,67108863,134217727,268435455] Qx rfl (by kernel_rfl) (fun u hu => (tN (Ql hu (Qo rfl rfl ?_)))))))))
  refine T.skip (Qk (tN (Qr (mw rfl (oI rfl (aw rfl (nL (tN ?_))))))))
  refine Qf ?_ (ih x0 x1 (wI (a + (1:Int))) flx0 h)
  exact tq rfl rfl
  refine Qo rfl l (T.exit (Qj (Qj (Qq (tN (sR (Qr (aw rfl (nL (tN (T.ret (fd rfl (by cases h; exact ⟨rfl, rfl⟩)))))))))))))
theorem Py (K : Nat) {x0 : List Int} {x1 : Int} {flx0 r : Bool} (h : Ba K x0 x1 = some r) : Zh tp 77 [.sl flx0 1 (mI x0), .int .i64 x1] [] (.bool r) := by
 refine CI 41 fu77 rfl ?_
 unfold Ba at h
 refine sR (Qr (aw rfl (nL (tN (T.seq (sR (Qr (aw rfl (nL (tN ?_))))))))))
 refine T.block (T.loop ?_)
 refine Qf ?_ (Qdq K K x0 x1 (0:Int) flx0 h)
 exact tq rfl rfl
abbrev Qhb (r : Bool) : ES := Jm tp ff44 (fun y t => y = (.bool r) ∧ t = [])
abbrev Qbr (r : Bool) : ES := fT 70 [1,1,1] ff44 (Qhb r)
abbrev Tb (r : Bool) : ES := Qv 0 ((Qbr r))
theorem Qdr {r : Bool} (K : Nat) : ∀ (k : Nat), ∀ (j : Int) (x0 : Zv) (m : Nat), Ga K k j x0 = some r → TL tp 70 (ca [1,1,0,1,0,0] ff44) ⟨[(1, .ptr m 0), (3, .int .i64 j)], [.box m 43 [.d (.sl false 1 (mI x0.First)), .d (.sl false 9 (x0.P.map Q1))]]⟩ (Tb r) := by
 intro k
 induction k with
 | zero =>
  intro j x0 m h
  exact zn h
 | succ k ih =>
  intro j x0 m h
  rw [Ga] at h
  refine Q0 (T.seq (sR (Qr (mw rfl (oP Qk9 i41 rfl (oL 0 Qcg rfl (oU x0.P Q1 Qcg rfl ?_)))))))
  refine oI rfl (nL (tN ?_))
  rcases Qg h with ⟨y, h⟩ | ⟨y, h⟩
  refine Qp rfl y (T.skip (tN (T.seq (T.block (sR (Qr (oP Qk9 i41 rfl (oL 0 Qcg rfl ?_))))))))
  refine mw rfl ?_
  obtain ⟨a, ab, h⟩ := bind_some h
  refine oX x0.P Q1 Qcg i65 ab rfl (oJ ul65 i65 rfl (sp rfl (Za rfl (dk rfl) i65 rfl (fun ad => (sp rfl (Qt (i := 0) (cells' := [.d (.int .u64 a.S.a0), .d (.int .u64 a.S.a1), .d (.int .u64 a.S.a2), .d (.int .u64 a.S.a3), .d (.int .i64 a.Lo), .d (.int .i64 a.Hi), .d (.int .i64 a.Rule), .d (.bool a.Last), .d (.sl false 1 (mI a.Next))]) rfl rfl i65 rfl rfl rfl rfl (nb rfl) rfl (nL (tN (sR (Qr (oP ul65 i63 rfl (oA 0 (Z6.dc .u64 a.S) Qk8 i63 rfl ?_))))))))))))
  refine sp rfl (OpT.build (l := (Z6.dc .u64 (Z6.mk 0 0 0 0))) rfl (dk rfl) (Qlv Qk8 i63 i61) (Hs rfl) rfl rfl (sp rfl (OpT.intsEql (k := .u64) (xs := [a.S.a0, a.S.a1, a.S.a2, a.S.a3]) (ys := [(Z6.mk 0 0 0 0).a0, (Z6.mk 0 0 0 0).a1, (Z6.mk 0 0 0 0).a2, (Z6.mk 0 0 0 0).a3]) rfl (dk rfl) Qk8 ul61 i61 Tryz.eqGuardType63 rfl rfl rfl rfl rfl rfl (Qkc a.S (Z6.mk 0 0 0 0)) (mw rfl ?_))))
  rcases Qg h with ⟨p, h⟩ | ⟨p, h⟩
  cases h
  refine sn rfl p (Y1 rfl (dk rfl) ul65 rfl i3 (by decide) rfl (sn rfl p (Zx (i := 0) rfl (dk rfl) ul3 rfl rfl rfl rfl (sn rfl p (Zs rfl rfl (dk rfl) rfl rfl (oZ p rfl (mw rfl ?_)))))))
  rcases Qg h with ⟨g, h⟩ | ⟨g, h⟩
  cases h
  refine sn rfl g (Y1 rfl (dk rfl) ul65 rfl i3 (by decide) rfl (sn rfl g (Zx (i := 0) rfl (dk rfl) ul3 rfl rfl rfl rfl (sn rfl g (Y1 rfl (dk rfl) ul65 rfl i3 (by decide) rfl (sn rfl g (Zx (i := 0) rfl (dk rfl) ul3 rfl rfl rfl rfl (sn rfl g (Zs rfl rfl (dk rfl) rfl rfl (oZ g rfl (mw rfl ?_)))))))))))
  rcases Qg h with ⟨q, h⟩ | ⟨q, h⟩
  cases h
  refine sn rfl q (Y1 rfl (dk rfl) ul65 rfl i3 (by decide) rfl (sn rfl q (Zx (i := 0) rfl (dk rfl) ul3 rfl rfl rfl rfl (sn rfl q (Zs rfl rfl (dk rfl) rfl rfl (oZ q rfl (mw rfl ?_)))))))
  rcases Qg h with ⟨u, h⟩ | ⟨u, h⟩
  cases h
  refine sn rfl u (Y1 rfl (dk rfl) ul65 rfl i3 (by decide) rfl (sn rfl u (Zx (i := 0) rfl (dk rfl) ul3 rfl rfl rfl rfl (sn rfl u (Zs rfl rfl (dk rfl) rfl rfl (oZ u rfl (mw rfl ?_)))))))
  rcases Qg h with ⟨w, h⟩ | ⟨w, h⟩
  cases h
  refine sn rfl w (Y1 rfl (dk rfl) ul65 rfl i3 (by decide) rfl (sn rfl w (Zx (i := 0) rfl (dk rfl) ul3 rfl rfl rfl rfl (sn rfl w (Zs rfl rfl (dk rfl) rfl rfl (oZ w rfl (mw rfl ?_)))))))
  rcases Qg h with ⟨b, h⟩ | ⟨b, h⟩
  cases h
  refine sn rfl b (Y1 rfl (dk rfl) ul65 rfl i38 (by decide) rfl (sn rfl b (Zx (i := 0) rfl (dk rfl) Zi rfl rfl rfl rfl (sn rfl b (Y1 rfl (dk rfl) Qk9 rfl i41 (by decide) rfl (sn rfl b (Zx (i := 1) rfl (dk rfl) Qcg rfl rfl rfl rfl (sn rfl b (Z9 (xs := x0.P) (f := Q1) rfl (dk rfl) Qcg rfl ?_)))))))))
  obtain ⟨af, ac, h⟩ := bind_some h
  refine sn rfl b (Vt rfl (dk rfl) fu77 rfl rfl (Zm.cons rfl (Zm.cons rfl Zm.nil)) (Zh.nil (Py K (flx0 := false) ac)) (sn rfl b (OpT.not rfl (dk rfl) rfl (oZ b rfl (nL (tN ?_))))))
  rcases Qg h with ⟨aa, h⟩ | ⟨aa, h⟩
  cases h
  refine Qo rfl aa (T.skip (Qk (tN (Qr (mw rfl (oI rfl (aw rfl (nL (tN ?_)))))))))
  refine Qf ?_ (ih (wI (j + (1:Int))) x0 m h)
  exact tr rfl (.c (.s .z) (.n _))
  refine Qo rfl y (T.exit (Qj (Qj (Qq (tN (sR (Qr (aw rfl (nL (tN (T.ret (fd rfl (by cases h; exact ⟨rfl, rfl⟩)))))))))))))
theorem Qhc (K : Nat) {x0 : Zv} {r : Bool} (h : Fs K x0 = some r) : Zh tp 44 [.agg [.sl false 1 (mI x0.First), .sl false 9 (x0.P.map Q1)]] [] (.bool r) := by
 refine CI 70 fu44 rfl ?_
 unfold Fs at h
 refine sR (Qr (sp rfl (Q8 rfl (dk rfl) rfl (fun d => (aw rfl (nL (tN (T.seq (sR (Qr (oP Qk9 i41 rfl ?_)))))))))))
 refine oL 0 Qcg rfl (oU x0.P Q1 Qcg rfl (oI rfl (mw rfl ?_)))
 rcases Qg h with ⟨a, h⟩ | ⟨a, h⟩
 cases h
 refine sn rfl a (Y1 rfl (dk rfl) Qk9 rfl i38 (by decide) rfl (sn rfl a (Zx (i := 0) rfl (dk rfl) Zi rfl rfl rfl rfl (sn rfl a (Y1 rfl (dk rfl) Qk9 rfl i41 (by decide) rfl (sn rfl a (Zx (i := 0) rfl (dk rfl) Qcg rfl rfl rfl rfl (sn rfl a (Z9 (xs := x0.P) (f := Q1) rfl (dk rfl) Qcg rfl ?_)))))))))
 obtain ⟨j, g, h⟩ := bind_some h
 refine sn rfl a (Vt rfl (dk rfl) fu77 rfl rfl (Zm.cons rfl (Zm.cons rfl Zm.nil)) (Zh.nil (Py K (flx0 := false) g)) (sn rfl a (OpT.not rfl (dk rfl) rfl (oZ a rfl (nL (tN ?_))))))
 rcases Qg h with ⟨b, h⟩ | ⟨b, h⟩
 cases h
 refine Qo rfl b (T.skip (tN (T.seq (sR (Qr (aw rfl (nL (tN (T.block ?_)))))))))
 refine T.loop ?_
 refine Qf ?_ (Qdr K K (0:Int) x0 d h)
 exact tq rfl rfl
abbrev Qho (r : Bool) : ES := Jm tp ff78 (fun y t => y = (.bool r) ∧ t = [])
abbrev Qdz (r : Bool) : ES := fT 27 [1,1] ff78 (Qho r)
abbrev Qav (r : Bool) : ES := Qv 0 ((Qdz r))
theorem Qd0 {r : Bool} (K : Nat) : ∀ (k : Nat), ∀ (x0 : List Z6) (x1 x2 b : Int) (flx0 : Bool), Gi K k x0 x1 x2 b = some r → TL tp 27 (ca [1,0,1,0,0] ff78) ⟨[(0, .sl flx0 4 (x0.map (Z6.dc .u64))), (1, .int .u8 x1), (2, .int .u8 x2), (7, .int .i64 b)], []⟩ (Qav r) := by
 intro k
 induction k with
 | zero =>
  intro x0 x1 x2 b flx0 h
  exact zn h
 | succ k ih =>
  intro x0 x1 x2 b flx0 h
  rw [Gi] at h
  refine Q0 (T.seq (sR (Qr (mw rfl (mw rfl (oU x0 (Z6.dc .u64) ul99 rfl (oI rfl ?_)))))))
  refine nL (tN ?_)
  rcases Qg h with ⟨i, h⟩ | ⟨i, h⟩
  refine Qp rfl i (T.skip (tN (T.seq (T.block (T.seq (Zy (dV rfl rfl ?_)))))))
  refine dV rfl rfl ?_
  obtain ⟨a, l, h⟩ := bind_some h
  refine dX x0 (Z6.dc .u64) rfl (.f rfl) ul99 i63 l rfl (dJ rfl (.f rfl) Qk8 i63 rfl (dV rfl rfl ?_))
  obtain ⟨d, m, h⟩ := bind_some h
  refine dH fu81 (Zh.nil (G8 K m)) rfl (.f rfl) rfl (dV rfl rfl (dV rfl rfl (dX x0 (Z6.dc .u64) rfl (.f rfl) ul99 i63 l rfl (dJ rfl (.f rfl) Qk8 i63 rfl (dV rfl rfl ?_)))))
  obtain ⟨g, p, h⟩ := bind_some h
  refine dH fu81 (Zh.nil (G8 K p)) rfl (.f rfl) rfl (dS (c := ⟨some 26, .bool (!(d == g)), [(19, .bool d), (25, .bool g)], [], []⟩) (fun t hm => oF rfl rfl (Qfi rfl (dk rfl) ul4 hm.s0 hm.s1 rfl)) rfl rfl (dF [0,0,3,7,0,31,0,0,192,448,0,2047,4095] Qx rfl (by kernel_rfl) (fun u hu => (tN (Ql hu ?_)))))
  rcases Qg h with ⟨j, h⟩ | ⟨j, h⟩
  refine Qp rfl j (sR (Qr (aw rfl (nL (tN (T.ret (Qy (Qs (Qs (Qy (Qs (fd rfl (by cases h; exact ⟨rfl, rfl⟩)))))))))))))
  refine Qo rfl j (T.skip (Qk (tN (Qr (mw rfl (oI rfl (aw rfl (nL (tN ?_)))))))))
  refine Qf ?_ (ih x0 x1 x2 (wI (b + (1:Int))) flx0 h)
  exact tq rfl rfl
  refine Qo rfl i (T.exit (Qj (Qj (Qq (tN (sR (Qr (aw rfl (nL (tN (T.ret (fd rfl (by cases h; exact ⟨rfl, rfl⟩)))))))))))))
theorem Qhp (K : Nat) {x0 : List Z6} {x1 x2 : Int} {flx0 r : Bool} (h : Fy K x0 x1 x2 = some r) : Zh tp 78 [.sl flx0 4 (x0.map (Z6.dc .u64)), .int .u8 x1, .int .u8 x2] [] (.bool r) := by
 refine CI 27 fu78 rfl ?_
 unfold Fy at h
 refine sR (Qr (aw rfl (nL (tN (T.seq (sR (Qr (aw rfl (nL (tN ?_))))))))))
 refine T.block (T.loop ?_)
 refine Qf ?_ (Qd0 K K x0 x1 x2 (0:Int) flx0 h)
 exact tq rfl rfl
abbrev Qkr (r : Q4) : ES := Jm tp ff45 (fun y t => y = (.agg ((Q5.dc 256 .u8 r.Of) ++ (([.int .i64 r.Many] : List DC)))) ∧ t = [])
abbrev Qe5 (r : Q4) : ES := fT 47 [1,1,1,1] ff45 (Qkr r)
abbrev D9 (r : Q4) : ES := Qv 0 ((Qe5 r))
abbrev Qbx (r : Q4) : ES := fL 47 [1,1,1,0,1,0,0] ff45 (D9 r)
abbrev R9 (r : Q4) : ES := fT 47 [1,1,1,0,1,0,0,1,1] ff45 (Qbx r)
abbrev Ls (r : Q4) : ES := Qv 1 ((R9 r))
abbrev Nu (r : Q4) : ES := fT 47 [1,1,1,0,1,0,0,1,0,0,1,1] ff45 (Ls r)
abbrev C7 (r : Q4) : ES := Qv 2 ((Nu r))
abbrev C8 (r : Q4) (go : (List Z6) → Int → Q5 → Q5 → (List Int) → Option Q4) : Prop := ∀ (x0 : List Z6) (a : Int) (b f : Q5) (g : List Int) (flx0 : Bool) (i j : Nat) (l : Value), go x0 a b f g = some r → TL tp 47 (ca [1,1,1,0,1,0,0] ff45) ⟨[(0, .sl flx0 4 (x0.map (Z6.dc .u64))), (2, .ptr i 0), (3, .ptr j 0), (4, .c (.ex l)), (5, .int .i64 a)], [(b24x3 i b (0:Int)), (b24x3 j f (0:Int)), .arrA l 5 1 (mU g)]⟩ (D9 r)
theorem L6 {r : Q4} (K : Nat) (go0 : (List Z6) → Int → Q5 → Q5 → (List Int) → Option Q4) (hgo0 : C8 r go0) (x0 : List Z6) (g j : Int) (l b : Q5) (m : List Int) (flx0 : Bool) (p q : Nat) (s : Value) (h : Wn K go0 x0 g j l b m = some r) : T tp 47 (ca [1,1,1,0,1,0,0,1,0,0,1,1,1] ff45) ⟨[(0, .sl flx0 4 (x0.map (Z6.dc .u64))), (2, .ptr p 0), (3, .ptr q 0), (4, .c (.ex s)), (5, .int .i64 g), (6, .int .i64 j)], [(b24x3 p l (0:Int)), (b24x3 q b (0:Int)), .arrA s 5 1 (mU m)]⟩ (Ls r) := by
 unfold Wn at h
 refine Qr (mw rfl (mw rfl (sp rfl (V8 rfl (dk rfl) ul3 ul5 rfl (oP Qj2 i22 rfl ?_)))))
 obtain ⟨f, h⟩ := Q6 h
 refine sp rfl (Xj rfl (dk rfl) ul22 i5 rfl rfl f.1 f.2 (sp rfl (Wf (i := 1) (cells' := ((Q5.oc 256 .u8 (Q5.set b g (IntKind.u8.wrap j))) ++ (([.d (.int .i64 (0:Int))]:List OC)))) rfl rfl i5 rfl rfl rfl (Q5.oc_lt (n := 256) (k := .u8) (a := b) (pre := []) (post := [.d (.int .i64 (0:Int))]) f.1 f.2) (Q5.oc_set (n := 256) (k := .u8) (a := b) (pre := []) (post := [.d (.int .i64 (0:Int))]) f.1 f.2) (nL (Qk (tN (Qr (mw rfl (oI rfl (aw rfl ?_))))))))))
 refine nL (tN ?_)
 refine Qf ?_ (hgo0 x0 (wI (g + (1:Int))) l (Q5.set b g (IntKind.u8.wrap j)) m flx0 p q s h)
 exact tq rfl rfl
theorem Qhs {r : Q4} (K : Nat) (go0 : (List Z6) → Int → Q5 → Q5 → (List Int) → Option Q4) (hgo0 : C8 r go0) : ∀ (k : Nat), ∀ (x0 : List Z6) (b j : Int) (l m : Q5) (g : List Int) (flx0 : Bool) (p q : Nat) (s : Value), Bk K go0 k x0 b j l m g = some r → TL tp 47 (ca [1,1,1,0,1,0,0,1,0,0,1,0,0,0] ff45) ⟨[(0, .sl flx0 4 (x0.map (Z6.dc .u64))), (2, .ptr p 0), (3, .ptr q 0), (4, .c (.ex s)), (5, .int .i64 b), (6, .int .i64 j)], [(b24x3 p l (0:Int)), (b24x3 q m (0:Int)), .arrA s 5 1 (mU g)]⟩ (C7 r) := by
 intro k
 induction k with
 | zero =>
  intro x0 b j l m g flx0 p q s h
  exact zn h
 | succ k ih =>
  intro x0 b j l m g flx0 p q s h
  rw [Bk] at h
  refine Q0 (T.seq (sR (Qr (mw rfl (mw rfl (sp rfl (Lf (i := 2) (xs := g) (f := (cI .u8)) rfl (dk rfl) B2 rfl rfl (oI rfl ?_))))))))
  refine mw rfl ?_
  rcases Qg h with ⟨a, h⟩ | ⟨a, h⟩
  refine sn rfl a (OpT.move rfl (dk rfl) rfl (sn rfl a (OpT.move rfl (dk rfl) rfl (sn rfl a (OpT.move rfl (dk rfl) rfl (Uh (Zr.view 18 2 rfl rfl) ?_))))))
  obtain ⟨aa, ab, h⟩ := bind_some h
  refine sn rfl a (Hu (xs := g) (f := (cI .u8)) (v := aa) rfl (dk rfl) B2 i5 rfl rfl ab (sn rfl a (Kc rfl (dk rfl) ul5 rfl rfl rfl (sn rfl a (OpT.move rfl (dk rfl) rfl (sn rfl a (V8 rfl (dk rfl) ul3 ul5 rfl ?_)))))))
  obtain ⟨aj, ac, h⟩ := bind_some h
  refine sn rfl a (Vt rfl (dk rfl) fu78 rfl rfl (Zm.cons rfl (Zm.cons rfl (Zm.cons rfl Zm.nil))) (Zh.nil (Qhp K (flx0 := flx0) ac)) (sn rfl a (OpT.not rfl (dk rfl) rfl (oY a rfl (nL (tN ?_))))))
  rcases Qg h with ⟨u, h⟩ | ⟨u, h⟩
  refine Qp rfl u (T.skip (tN (T.block (Qr (mw rfl (oI rfl (aw rfl ?_)))))))
  refine nL (Qk (tN ?_))
  refine Qf ?_ (ih x0 b (wI (j + (1:Int))) l m g flx0 p q s h)
  exact tq rfl rfl
  refine Qo rfl u (T.exit (Qj (Qj (Qq (tN (T.seq (sR (Qr (mw rfl (mw rfl (sp rfl (Lf (i := 2) (xs := g) (f := (cI .u8)) rfl (dk rfl) B2 rfl rfl ?_))))))))))))
  refine oI rfl (nL (tN ?_))
  rcases Qg h with ⟨w, h⟩ | ⟨w, h⟩
  refine Qp rfl w (Qr (mw rfl (mw rfl (sp rfl (V8 rfl (dk rfl) ul3 ul5 rfl (sp rfl (OpT.buildSlice (elems := ([(IntKind.u8.wrap b)] : List Int).map (cI .u8)) rfl (dk rfl) B2 i5 (by decide) rfl (Hs rfl) rfl rfl rfl (Xh rfl) (by decide) ?_)))))))
  obtain ⟨ad, h⟩ := Q6 h
  refine sp rfl (Zp (i := 2) (xs := g) (ys := [(IntKind.u8.wrap b)]) (f := (cI .u8)) rfl (dk rfl) B2 i5 rfl rfl rfl rfl ad (fun af => (aw rfl (nL (tN ?_)))))
  refine Ql ?_ (L6 K go0 hgo0 x0 b j l m (g ++ [(IntKind.u8.wrap b)]) flx0 p q af h)
  exact tq rfl rfl
  refine Qo rfl w (T.skip (tN ?_))
  refine Ql ?_ (L6 K go0 hgo0 x0 b j l m g flx0 p q s h)
  exact tq rfl rfl
  refine pf rfl a (pf rfl a (pf rfl a (pf rfl a (pf rfl a (pf rfl a (pf rfl a ?_))))))
  refine pf rfl a (pf rfl a (oZ a rfl (nL (tN (Qo rfl rfl (T.exit (Qj (Qj (Qq (tN (T.seq ?_)))))))))))
  refine sR (Qr (mw rfl (mw rfl (sp rfl (Lf (i := 2) (xs := g) (f := (cI .u8)) rfl (dk rfl) B2 rfl rfl (oI rfl (nL (tN ?_))))))))
  rcases Qg h with ⟨y, h⟩ | ⟨y, h⟩
  refine Qp rfl y (Qr (mw rfl (mw rfl (sp rfl (V8 rfl (dk rfl) ul3 ul5 rfl (sp rfl (OpT.buildSlice (elems := ([(IntKind.u8.wrap b)] : List Int).map (cI .u8)) rfl (dk rfl) B2 i5 (by decide) rfl (Hs rfl) rfl rfl rfl (Xh rfl) (by decide) ?_)))))))
  obtain ⟨ag, h⟩ := Q6 h
  refine sp rfl (Zp (i := 2) (xs := g) (ys := [(IntKind.u8.wrap b)]) (f := (cI .u8)) rfl (dk rfl) B2 i5 rfl rfl rfl rfl ag (fun ai => (aw rfl (nL (tN ?_)))))
  refine Ql ?_ (L6 K go0 hgo0 x0 b j l m (g ++ [(IntKind.u8.wrap b)]) flx0 p q ai h)
  exact tq rfl rfl
  refine Qo rfl y (T.skip (tN ?_))
  refine Ql ?_ (L6 K go0 hgo0 x0 b j l m g flx0 p q s h)
  exact tq rfl rfl
theorem Qht {r : Q4} (K : Nat) : ∀ (k : Nat), C8 r (G7 K k) := by
 intro k
 induction k with
 | zero =>
  intro x0 j m b a flx0 p q s h
  exact zn h
 | succ k ih =>
  intro x0 j m b a flx0 p q s h
  rw [G7] at h
  refine Q0 (T.seq (sR (Qr (mw rfl (oI rfl (nL (tN ?_)))))))
  rcases Qg h with ⟨g, h⟩ | ⟨g, h⟩
  refine Qp rfl g (T.skip (tN (T.seq (T.block (sR (Qr (aw rfl (nL (tN ?_)))))))))
  refine T.seq (T.block (T.loop ?_))
  refine Qf ?_ (Qhs K (G7 K k) ih K x0 j (0:Int) m b a flx0 p q s h)
  exact tq rfl rfl
  refine Qo rfl g (T.exit (Qj (Qj (Qq (tN (sR (Qr (mw rfl (sp rfl (Lf (i := 2) (xs := a) (f := (cI .u8)) rfl (dk rfl) B2 rfl rfl (oP Qj2 i3 rfl (sp rfl (Wf (i := 1) (cells' := ((Q5.oc 256 .u8 b) ++ (([.d (.int .i64 (a.length : Int))]:List OC)))) rfl rfl i3 rfl rfl rfl (nb rfl) rfl ?_)))))))))))))
  refine nL (tN (sR (Qr (oA 1 ((Q5.dc 256 .u8 b) ++ (([.int .i64 (a.length : Int)] : List DC))) Qj2 i24 rfl (sp rfl (Qt (i := 0) (cells' := ((Q5.oc 256 .u8 b) ++ (([.d (.int .i64 (a.length : Int))]:List OC)))) rfl rfl i24 rfl rfl rfl rfl (nb rfl) rfl (nL (tN (T.ret (Fin.done (.cons _ _ _ _ (.cellAgg 2 24 _ 0 0 24 _ ((Q5.dc 256 .u8 b) ++ (([.int .i64 (a.length : Int)] : List DC))) _ _ 257 _ rfl rfl rfl rfl Qj2 rfl i24) .nil) (by cases h; exact ⟨rfl, rfl⟩)))))))))))
theorem Qks (K : Nat) {x0 : List Z6} {flx0 : Bool} {r : Q4} (h : Tp K x0 = some r) : Zh tp 45 [.sl flx0 4 (x0.map (Z6.dc .u64))] [] (.agg ((Q5.dc 256 .u8 r.Of) ++ (([.int .i64 r.Many] : List DC)))) := by
 refine CI 47 fu45 rfl ?_
 unfold Tp at h
 refine sR (Qr (sp rfl (Za rfl (dk rfl) i24 rfl (fun a => (nL (tN (sR (Qr (sp rfl (OpT.build (l := ((Q5.dc 256 .u8 (Q5.mk fun _ => 0)) ++ (([.int .i64 (0:Int)] : List DC)))) rfl (dk rfl) (Zk (pl := [(0, 256), (256, 1)]) Qj2 i24 rfl) (Hs rfl) rfl rfl (sp rfl (Za rfl (dk rfl) i24 rfl (fun b => (sp rfl (Qt (i := 0) (cells' := ((Q5.oc 256 .u8 (Q5.mk fun _ => 0)) ++ (([.d (.int .i64 (0:Int))]:List OC)))) rfl rfl i24 rfl rfl rfl rfl (nb rfl) rfl (nL (tN (sR (Qr ?_)))))))))))))))))))
 refine aw rfl (nL (tN (T.seq (sR (Qr (aw rfl (nL (tN (T.block ?_)))))))))
 refine T.loop (Qf (Xd 5 1) ?_)
 refine Qf ?_ (Qht K K x0 (0:Int) (Q5.mk fun _ => 0) (Q5.mk fun _ => 0) [] flx0 a b (Qd7 2) h)
 exact tr rfl (.c (.s (.s .z)) (.c (.s .z) (.c .z (.n _))))
abbrev Pq (bx0 : Nat) (x0 : Qm) (r : Int) : ES := Jm tp ff113 (fun y t => ∃ γ : Nat → Value, y = (.int .i64 r) ∧ t = [(U2 bx0 x0.g.First x0.g.P (γ 0) x0.a.Split.Of x0.a.Split.Many (γ 1) (γ 2) x0.e), .arrA (γ 0) 3 1 (mI x0.number), .arrA (γ 1) 59 2 (mA x0.a.Counts), .arrX (γ 2) 51 4 0 (x0.a.States.map Qb)])
abbrev Ip (bx0 : Nat) (x0 : Qm) (r : Int) : ES := fT 34 [1,1] ff113 (Pq bx0 x0 r)
abbrev Es (bx0 : Nat) (x0 : Qm) (r : Int) : ES := Qv 0 ((Ip bx0 x0 r))
theorem Iq {r : Int} (K bx0 : Nat) (x0 : Qm) : ∀ (k : Nat), ∀ (x2 x3 : Int) (x0 : Qm) (x1 : Qa) (b c w0_0aa : Value) (j : Nat), Wi K k x2 x3 x0 x1 = some r → TL tp 34 (ca [1,0,1,0,0] ff113) ⟨[(0, .ptr bx0 0), (2, .int .i64 x2), (3, .int .i64 x3), (5, .ptr j 0), (9, .int .i64 (0:Int))], [(U2 bx0 x0.g.First x0.g.P b x0.a.Split.Of x0.a.Split.Many c w0_0aa x0.e), .arrA b 3 1 (mI x0.number), .arrA c 59 2 (mA x0.a.Counts), .arrX w0_0aa 51 4 0 (x0.a.States.map Qb), (W0 j x1.L x1.R x1.Rule x1.Next)]⟩ (Es bx0 x0 r) := by
 intro k
 induction k with
 | zero =>
  intro x2 x3 x0 x1 b c w0_0aa j h
  exact zn h
 | succ k ih =>
  intro x2 x3 x0 x1 b c w0_0aa j h
  rw [Wi] at h
  refine Q0 (T.seq (sR (Qr (mw rfl (oP V1 i38 rfl (oL 4 Zi rfl (oU x1.R (cI .i64) Zi rfl ?_)))))))
  refine oI rfl (nL (tN ?_))
  rcases Qg h with ⟨l, h⟩ | ⟨l, h⟩
  cases h
  refine Qo rfl l (T.exit (Qj (Qj (Qq (tN (sR (Qr (aw rfl (nL (tN (T.ret (Q7 (.cons _ _ _ _ (.tmp 8 _ rfl) .nil) (.cons 0 rfl (.cons 0 rfl (.cons 0 rfl (.cons 0 rfl (.nil _))))) (by cases h; exact ⟨gl [b, c, w0_0aa], rfl, rfl⟩)))))))))))))
theorem Mr (K : Nat) {x0 : Qm} {x1 : Qa} {x2 x3 : Int} {bx0 : Nat} {wx0c1 wx0c2c1 wx0c2c2 : Value} {r : Int} (h : Jo K x0 x1 x2 x3 = some r) : U3 tp 113 [.ptr bx0 0, .agg [.sl false 1 (mI x1.L), .sl false 1 (mI x1.R), .sl false 1 (mI x1.Rule), .sl false 1 (x1.Next.map (cL 2 Qh))], .int .i64 x2, .int .i64 x3] [(U2 bx0 x0.g.First x0.g.P wx0c1 x0.a.Split.Of x0.a.Split.Many wx0c2c1 wx0c2c2 x0.e), .arrA wx0c1 3 1 (mI x0.number), .arrA wx0c2c1 59 2 (mA x0.a.Counts), .arrX wx0c2c2 51 4 0 (x0.a.States.map Qb)] (fun γ => (.int .i64 r)) (fun γ => [(U2 bx0 x0.g.First x0.g.P (γ 0) x0.a.Split.Of x0.a.Split.Many (γ 1) (γ 2) x0.e), .arrA (γ 0) 3 1 (mI x0.number), .arrA (γ 1) 59 2 (mA x0.a.Counts), .arrX (γ 2) 51 4 0 (x0.a.States.map Qb)]) := by
 refine CI 34 fu113 rfl ?_
 unfold Jo at h
 refine sR (Qr (sp rfl (Q8 rfl (dk rfl) rfl (fun b => (aw rfl (nL (tN (T.seq (sR (Qr (aw rfl ?_)))))))))))
 refine nL (tN (T.block (T.loop ?_)))
 refine Qf ?_ (Iq K bx0 x0 K x2 x3 x0 x1 wx0c1 wx0c2c1 wx0c2c2 b h)
 exact tr rfl (.c (.s .z) (.c (.s .z) (.c (.s .z) (.c (.s .z) (.c .z (.n _))))))
abbrev raddleref11_builder_ripe_q (bx0 : Nat) (x0 : Qm) (r : Bool) : ES := Jm tp ff79 (fun y t => ∃ γ : Nat → Value, y = (.bool r) ∧ t = [(U2 bx0 x0.g.First x0.g.P (γ 0) x0.a.Split.Of x0.a.Split.Many (γ 1) (γ 2) x0.e), .arrA (γ 0) 3 1 (mI x0.number), .arrA (γ 1) 59 2 (mA x0.a.Counts), .arrX (γ 2) 51 4 0 (x0.a.States.map Qb)])
theorem Bp (K : Nat) {x0 : Qm} {x1 : Qa} {x2 x3 : Int} {bx0 : Nat} {wx0c1 wx0c2c1 wx0c2c2 : Value} {r : Bool} (h : J5 K x0 x1 x2 x3 = some r) : U3 tp 79 [.ptr bx0 0, .agg [.sl false 1 (mI x1.L), .sl false 1 (mI x1.R), .sl false 1 (mI x1.Rule), .sl false 1 (x1.Next.map (cL 2 Qh))], .int .i64 x2, .int .i64 x3] [(U2 bx0 x0.g.First x0.g.P wx0c1 x0.a.Split.Of x0.a.Split.Many wx0c2c1 wx0c2c2 x0.e), .arrA wx0c1 3 1 (mI x0.number), .arrA wx0c2c1 59 2 (mA x0.a.Counts), .arrX wx0c2c2 51 4 0 (x0.a.States.map Qb)] (fun γ => (.bool r)) (fun γ => [(U2 bx0 x0.g.First x0.g.P (γ 0) x0.a.Split.Of x0.a.Split.Many (γ 1) (γ 2) x0.e), .arrA (γ 0) 3 1 (mI x0.number), .arrA (γ 1) 59 2 (mA x0.a.Counts), .arrX (γ 2) 51 4 0 (x0.a.States.map Qb)]) := by
 refine CI 15 fu79 rfl ?_
 unfold J5 at h
 refine sR (Qr (sp rfl (Q8 rfl (dk rfl) rfl (fun j => (aw rfl (nL (tN (sR (Qr (mw rfl (oA 0 [.sl false 1 (mI x1.L), .sl false 1 (mI x1.R), .sl false 1 (mI x1.Rule), .sl false 1 (x1.Next.map (cL 2 Qh))] V1 i51 rfl (mw rfl ?_))))))))))))
 refine mw rfl ?_
 obtain ⟨m, f, h⟩ := bind_some h
 refine sp rfl (Q9 (is := [1, 2, 3, 4]) (ph := []) rfl (dk rfl) fu113 rfl rfl (Zm.cons rfl (Zm.cons rfl (Zm.cons rfl (Zm.cons rfl Zm.nil)))) (Mr K (bx0 := bx0) (wx0c1 := wx0c1) (wx0c2c1 := wx0c2c1) (wx0c2c2 := wx0c2c2) f) (.cons rfl rfl (.cons rfl rfl (.cons rfl rfl (.cons rfl rfl (.nil))))) (fun _ => rfl) (fun b => (nm (.c (.c (.c (.c (.c (.n)))))) (oI rfl (aw rfl (nL (tN (T.ret (Q7 (.cons _ _ _ _ (.tmp 8 _ rfl) .nil) (.cons 1 rfl (.cons 1 rfl (.cons 1 rfl (.cons 1 rfl (.nil _))))) (by cases h; exact ⟨gl [b 0, b 1, b 2], rfl, rfl⟩))))))))))
abbrev Rw (bx0 : Nat) (x0 : Qm) (r : Int) : ES := Jm tp ff47 (fun y t => ∃ γ : Nat → Value, y = (.int .i64 r) ∧ t = [(U2 bx0 x0.g.First x0.g.P (γ 0) x0.a.Split.Of x0.a.Split.Many (γ 1) (γ 2) x0.e), .arrA (γ 0) 3 1 (mI x0.number), .arrA (γ 1) 59 2 (mA x0.a.Counts), .arrX (γ 2) 51 4 0 (x0.a.States.map Qb)])
abbrev Io (bx0 : Nat) (x0 : Qm) (r : Int) : ES := fT 55 [1,1,1] ff47 (Rw bx0 x0 r)
abbrev Ep (bx0 : Nat) (x0 : Qm) (r : Int) : ES := Qv 0 ((Io bx0 x0 r))
theorem Nd {r : Int} (K bx0 : Nat) (x0 : Qm) : ∀ (k : Nat), ∀ (x2 y aa : Int) (x0 : Qm) (x1 : Qa) (ab ac w0_0aa : Value) (q : Nat), X7 K k x2 y aa x0 x1 = some r → TL tp 55 (ca [1,1,0,1,0,0] ff47) ⟨[(0, .ptr bx0 0), (2, .int .i64 x2), (4, .ptr q 0), (7, .int .i64 y), (8, .int .i64 aa)], [(U2 bx0 x0.g.First x0.g.P ab x0.a.Split.Of x0.a.Split.Many ac w0_0aa x0.e), .arrA ab 3 1 (mI x0.number), .arrA ac 59 2 (mA x0.a.Counts), .arrX w0_0aa 51 4 0 (x0.a.States.map Qb), (W0 q x1.L x1.R x1.Rule x1.Next)]⟩ (Ep bx0 x0 r) := by
 intro k
 induction k with
 | zero =>
  intro x2 y aa x0 x1 ab ac w0_0aa q h
  exact zn h
 | succ k ih =>
  intro x2 y aa x0 x1 ab ac w0_0aa q h
  rw [X7] at h
  refine Q0 (T.seq (sR (Qr (mw rfl (oP V1 i38 rfl (oL 4 Zi rfl (oU x1.L (cI .i64) Zi rfl ?_)))))))
  refine oI rfl (nL (tN ?_))
  rcases Qg h with ⟨aj, h⟩ | ⟨aj, h⟩
  refine Qp rfl aj (T.skip (tN (T.seq (T.block (T.seq (Ql Zu (Ur ?_)))))))
  refine gM rfl (fun _ => .f rfl) (fun _ => rfl) (gK rfl (fun _ => .f rfl) (fun _ => rfl) (gP rfl (fun _ => .f rfl) Qjd i43 (fun _ => rfl) (gP rfl (fun _ => .f rfl) Qk9 i41 (fun _ => rfl) (gL 1 rfl (fun _ => .f rfl) Qcg (fun _ => rfl) (gP rfl (fun _ => .f rfl) V1 i38 (fun _ => rfl) (gL 5 rfl (fun _ => .f rfl) Zi (fun _ => rfl) ?_))))))
  refine gM rfl (fun _ => .f rfl) (fun _ => rfl) ?_
  obtain ⟨ad, al, h⟩ := bind_some h
  refine gX x1.L (cI .i64) rfl (fun _ => .f rfl) Zi i3 al (fun _ => rfl) (gR rfl (fun _ => .f rfl) ul3 (fun _ => rfl) ?_)
  obtain ⟨j, am, h⟩ := bind_some h
  refine gX x0.g.P Q1 rfl (fun _ => .f rfl) Qcg i65 am (fun _ => rfl) (gJ rfl (fun _ => .f rfl) ul65 i65 (fun _ => rfl) (DGG.step (c := fun p => ⟨some 9, .ptr ((p 12).2) 0, [], [(0, .ro 0 [])], [(0, .box ((p 12).2) 65 [.d (.int .u64 (Z6.mk 0 0 0 0).a0), .d (.int .u64 (Z6.mk 0 0 0 0).a1), .d (.int .u64 (Z6.mk 0 0 0 0).a2), .d (.int .u64 (Z6.mk 0 0 0 0).a3), .d (.int .i64 (0:Int)), .d (.int .i64 (0:Int)), .d (.int .i64 (0:Int)), .d (.bool false), .d (.ex (.slice none 0 0))])]⟩) [12] (fun p γ' h => by simp only [h 12 (by decide)]) (fun p t hm => oF rfl rfl (Qcd 0 rfl (dk rfl) i65 rfl hm.o0 (fun b => ⟨(fun _ => undef, b), rfl⟩))) (fun p => Zg rfl rfl) (DGG.step (c := fun p => ⟨none, .any, [(9, .ptr ((p 12).2) 0), (28, .agg [.int .u64 j.S.a0, .int .u64 j.S.a1, .int .u64 j.S.a2, .int .u64 j.S.a3, .int .i64 j.Lo, .int .i64 j.Hi, .int .i64 j.Rule, .bool j.Last, .sl false 1 (mI j.Next)])], [(0, .box ((p 12).2) 65 [.d (.int .u64 (Z6.mk 0 0 0 0).a0), .d (.int .u64 (Z6.mk 0 0 0 0).a1), .d (.int .u64 (Z6.mk 0 0 0 0).a2), .d (.int .u64 (Z6.mk 0 0 0 0).a3), .d (.int .i64 (0:Int)), .d (.int .i64 (0:Int)), .d (.int .i64 (0:Int)), .d (.bool false), .d (.ex (.slice none 0 0))])], [(0, .box ((p 12).2) 65 [.d (.int .u64 j.S.a0), .d (.int .u64 j.S.a1), .d (.int .u64 j.S.a2), .d (.int .u64 j.S.a3), .d (.int .i64 j.Lo), .d (.int .i64 j.Hi), .d (.int .i64 j.Rule), .d (.bool j.Last), .d (.sl false 1 (mI j.Next))])]⟩) [12] (fun p γ' h => by simp only [h 12 (by decide)]) (fun p t hm => oF rfl rfl (Qt (i := 0) (cells' := [.d (.int .u64 j.S.a0), .d (.int .u64 j.S.a1), .d (.int .u64 j.S.a2), .d (.int .u64 j.S.a3), .d (.int .i64 j.Lo), .d (.int .i64 j.Hi), .d (.int .i64 j.Rule), .d (.bool j.Last), .d (.sl false 1 (mI j.Next))]) rfl rfl i65 hm.s0 hm.s1 rfl hm.o0 (nb rfl) rfl ⟨u0, rfl⟩)) (fun p => Zg rfl rfl) (gF [0,1,3,7,15,0,32,0,224,480,1023,2047,0,8191] Qx rfl (by kernel_rfl) (fun _ => by kernel_rfl) (fun p u hu => (tN (Ql hu (T.seq (Ur ?_)))))))))
  refine gP rfl (fun _ => .f rfl) ul65 i4 (fun _ => rfl) (gL 0 rfl (fun _ => .f rfl) ul4 (fun _ => rfl) (gM rfl (fun _ => .f rfl) (fun _ => rfl) ?_))
  rcases Qg h with ⟨w, h⟩ | ⟨w, h⟩
  refine gM rfl (fun _ => .n w rfl) (fun _ => rfl) (gW 5 [.sl false 1 (mI x1.L), .sl false 1 (mI x1.R), .sl false 1 (mI x1.Rule), .sl false 1 (x1.Next.map (cL 2 Qh))] rfl (fun _ => .n w rfl) V1 i51 (fun _ => rfl) (gM rfl (fun _ => .n w rfl) (fun _ => rfl) (gP rfl (fun _ => .n w rfl) V1 i38 (fun _ => rfl) (gL 5 rfl (fun _ => .n w rfl) Zi (fun _ => rfl) (gM rfl (fun _ => .n w rfl) (fun _ => rfl) (gX x1.L (cI .i64) rfl (fun _ => .n w rfl) Zi i3 al (fun _ => rfl) ?_))))))
  refine gR rfl (fun _ => .n w rfl) ul3 (fun _ => rfl) ?_
  obtain ⟨af, an, h⟩ := bind_some h
  refine DGG.step (c := fun m => ⟨some 40, .bool af, [(32, .ptr bx0 0), (33, .agg [.sl false 1 (mI x1.L), .sl false 1 (mI x1.R), .sl false 1 (mI x1.Rule), .sl false 1 (x1.Next.map (cL 2 Qh))]), (34, .int .i64 x2), (39, .int .i64 ad), (31, .bool j.Last)], [(4, .arrX w0_0aa 51 4 0 (x0.a.States.map Qb)), (3, .arrA ac 59 2 (mA x0.a.Counts)), (2, .arrA ab 3 1 (mI x0.number)), (1, (U2 bx0 x0.g.First x0.g.P ab x0.a.Split.Of x0.a.Split.Many ac w0_0aa x0.e))], [(1, (U2 bx0 x0.g.First x0.g.P ((m 11).1 0) x0.a.Split.Of x0.a.Split.Many ((m 11).1 1) ((m 11).1 2) x0.e)), (2, .arrA ((m 11).1 0) 3 1 (mI x0.number)), (3, .arrA ((m 11).1 1) 59 2 (mA x0.a.Counts)), (4, .arrX ((m 11).1 2) 51 4 0 (x0.a.States.map Qb))]⟩) [11] (fun m γ' h => by simp only [h 11 (by decide)]) (fun m t hm => One.step rfl (.on rfl rfl (hm.slots (31, _) (.tail _ (.tail _ (.tail _ (.tail _ (.head _)))))) w) (Q9 (is := [1, 2, 3, 4]) (ph := []) rfl (dk rfl) fu79 rfl rfl (Zm.cons hm.s0 (Zm.cons hm.s1 (Zm.cons hm.s2 (Zm.cons hm.s3 Zm.nil)))) (Bp K (bx0 := bx0) (wx0c1 := ab) (wx0c2c1 := ac) (wx0c2c2 := w0_0aa) an) (.cons (hm.objs (1, _) (.tail _ (.tail _ (.tail _ (.head _))))) rfl (.cons hm.o2 rfl (.cons hm.o1 rfl (.cons hm.o0 rfl (.nil))))) (fun _ => rfl) (fun g => ⟨(g, 0), rfl⟩))) (fun m => Zg rfl rfl) (gY rfl (fun _ => .f rfl) w (fun _ => rfl) (gM rfl (fun _ => .f rfl) (fun _ => rfl) ?_))
  rcases Qg h with ⟨ag, h⟩ | ⟨ag, h⟩
  refine gM rfl (fun _ => .n ag rfl) (fun _ => rfl) (gI rfl (fun _ => .n ag rfl) (fun _ => rfl) (gM rfl (fun _ => .n ag rfl) (fun _ => rfl) ?_))
  rcases Qg h with ⟨ai, h⟩ | ⟨ai, h⟩
  refine DGG.off ai rfl rfl rfl rfl rfl (fun _ => rfl) (DGG.off ai rfl rfl rfl rfl rfl (fun _ => rfl) (DGG.off ai rfl rfl rfl rfl rfl (fun _ => rfl) (DGG.off ai rfl rfl rfl rfl rfl (fun _ => rfl) (gY rfl (fun _ => .n ag rfl) ai (fun _ => rfl) (gY rfl (fun _ => .f rfl) ag (fun _ => rfl) (gF [0,1,3,7,7,7,7,71,7,455,967,2047,4095,8191,16383,32767,65535,131071,262143,131071,1048575,2097151,4194303] Qx rfl (by kernel_rfl) (fun _ => by kernel_rfl) (fun m u hu => (tN (Ql hu ?_)))))))))
  refine Qp rfl rfl (Qr (oP ul65 i3 rfl (oL 0 ul3 rfl (aw rfl (nL (Qk (tN (Qr ?_))))))))
  refine mw rfl (oI rfl (aw rfl (nL (tN ?_))))
  refine Qf ?_ (ih x2 j.Rule (wI (aa + (1:Int))) x0 x1 ((m 11).1 0) ((m 11).1 1) ((m 11).1 2) q h)
  exact tr rfl (.c (.s .z) (.c (.s .z) (.c (.s .z) (.c (.s .z) (.c (.s .z) (.n _))))))
  cases h
  cases h
  refine DGG.off w rfl rfl rfl rfl rfl (fun _ => rfl) (DGG.off w rfl rfl rfl rfl rfl (fun _ => rfl) (DGG.off w rfl rfl rfl rfl rfl (fun _ => rfl) (DGG.off w rfl rfl rfl rfl rfl (fun _ => rfl) (DGG.off w rfl rfl rfl rfl rfl (fun _ => rfl) (DGG.off w rfl rfl rfl rfl rfl (fun _ => rfl) (DGG.off w rfl rfl rfl rfl rfl (fun _ => rfl) ?_))))))
  refine DGG.off w rfl rfl rfl rfl rfl (fun _ => rfl) (DGG.off w rfl rfl rfl rfl rfl (fun _ => rfl) (gZ rfl (fun _ => .f rfl) w (fun _ => rfl) (gM rfl (fun _ => .f rfl) (fun _ => rfl) (DGG.off rfl rfl rfl rfl rfl rfl (fun _ => rfl) (DGG.off rfl rfl rfl rfl rfl rfl (fun _ => rfl) (DGG.off rfl rfl rfl rfl rfl rfl (fun _ => rfl) ?_))))))
  refine DGG.gone rfl rfl rfl rfl rfl (fun _ => rfl) (DGG.gone rfl rfl rfl rfl rfl (fun _ => rfl) (DGG.gone rfl rfl rfl rfl rfl (fun _ => rfl) (DGG.gone rfl rfl rfl rfl rfl (fun _ => rfl) (DGG.off rfl rfl rfl rfl rfl rfl (fun _ => rfl) (gZ rfl (fun _ => .f rfl) rfl (fun _ => rfl) (gF [0,1,3,7,7,7,7,71,7,455,967,2047,4095,8191,16383,32767,65535,131071,262143,131071,1048575,2097151,4194303] Qx rfl (by kernel_rfl) (fun _ => by kernel_rfl) (fun m u hu => (tN (Ql hu ?_)))))))))
  refine Qo rfl rfl (T.skip (Qk (tN (Qr (mw rfl (oI rfl (aw rfl (nL (tN ?_)))))))))
  refine Qf ?_ (ih x2 y (wI (aa + (1:Int))) x0 x1 ab ac w0_0aa q h)
  exact tr rfl (.c (.s .z) (.c (.s .z) (.c (.s .z) (.c (.s .z) (.c (.s .z) (.n _))))))
  refine Qo rfl aj (T.exit (Qj (Qj (Qq (tN (sR (Qr (mw rfl (aw rfl (nL (tN (T.ret ?_))))))))))))
  exact Q7 (.cons _ _ _ _ (.tmp 6 _ rfl) .nil) (.cons 0 rfl (.cons 0 rfl (.cons 0 rfl (.cons 0 rfl (.nil _))))) (by cases h; exact ⟨gl [ab, ac, w0_0aa], rfl, rfl⟩)
theorem Rx (K : Nat) {x0 : Qm} {x1 : Qa} {x2 : Int} {bx0 : Nat} {wx0c1 wx0c2c1 wx0c2c2 : Value} {r : Int} (h : Gw K x0 x1 x2 = some r) : U3 tp 47 [.ptr bx0 0, .agg [.sl false 1 (mI x1.L), .sl false 1 (mI x1.R), .sl false 1 (mI x1.Rule), .sl false 1 (x1.Next.map (cL 2 Qh))], .int .i64 x2] [(U2 bx0 x0.g.First x0.g.P wx0c1 x0.a.Split.Of x0.a.Split.Many wx0c2c1 wx0c2c2 x0.e), .arrA wx0c1 3 1 (mI x0.number), .arrA wx0c2c1 59 2 (mA x0.a.Counts), .arrX wx0c2c2 51 4 0 (x0.a.States.map Qb)] (fun γ => (.int .i64 r)) (fun γ => [(U2 bx0 x0.g.First x0.g.P (γ 0) x0.a.Split.Of x0.a.Split.Many (γ 1) (γ 2) x0.e), .arrA (γ 0) 3 1 (mI x0.number), .arrA (γ 1) 59 2 (mA x0.a.Counts), .arrX (γ 2) 51 4 0 (x0.a.States.map Qb)]) := by
 refine CI 55 fu47 rfl ?_
 unfold Gw at h
 refine sR (Qr (sp rfl (Q8 rfl (dk rfl) rfl (fun b => (aw rfl (nL (tN (sR (Qr (aw rfl (nL (tN (T.seq ?_)))))))))))))
 refine sR (Qr (aw rfl (nL (tN (T.block (T.loop ?_))))))
 refine Qf ?_ (Nd K bx0 x0 K x2 (-1:Int) (0:Int) x0 x1 wx0c1 wx0c2c1 wx0c2c2 b h)
 exact tr rfl (.c (.s .z) (.c (.s .z) (.c (.s .z) (.c (.s .z) (.c .z (.n _))))))
abbrev Qjm (r : Z6) : ES := Jm tp ff115 (fun y t => y = (.agg (Z6.dc .u64 r)) ∧ t = [])
abbrev Qe4 (r : Z6) : ES := fT 25 [1,1,1] ff115 (Qjm r)
abbrev Qbv (r : Z6) : ES := Qv 0 ((Qe4 r))
theorem Qfz {r : Z6} (K : Nat) : ∀ (k : Nat), ∀ (x1 b : Int) (x0 : Q4) (j : Z6) (g : List Int) (l m : Nat) (p : Value), Hp K k x1 b x0 j g = some r → TL tp 25 (ca [1,1,0,1,0,0] ff115) ⟨[(1, .int .i64 x1), (2, .ptr l 0), (4, .ptr m 0), (5, .c (.ex p)), (6, .int .i64 b)], [(b24x3 l x0.Of x0.Many), .box m 63 (Z6.oc .u64 j), .arrA p 5 1 (mU g)]⟩ (Qbv r) := by
 intro k
 induction k with
 | zero =>
  intro x1 b x0 j g l m p h
  exact zn h
 | succ k ih =>
  intro x1 b x0 j g l m p h
  rw [Hp] at h
  refine Q0 (T.seq (sR (Qr (mw rfl (oI rfl (nL (tN ?_)))))))
  rcases Qg h with ⟨s, h⟩ | ⟨s, h⟩
  refine Qp rfl s (T.skip (tN (T.seq (T.block (sR (Qr (mw rfl (oP Qj2 i22 rfl ?_))))))))
  obtain ⟨q, h⟩ := Q6 h
  refine sp rfl (Xj rfl (dk rfl) ul22 i5 rfl rfl q.1 q.2 (sp rfl (Zx (i := 0) rfl (dk rfl) ul5 rfl rfl rfl (Qh9 (n := 256) (k := .u8) (a := x0.Of) (pre := []) (post := [.d (.int .i64 x0.Many)]) q.1 q.2) (sp rfl (V8 rfl (dk rfl) ul5 ul3 rfl (mw rfl (oI rfl (nL (tN ?_)))))))))
  rcases Qg h with ⟨u, h⟩ | ⟨u, h⟩
  refine Qp rfl u (Qr (mw rfl (mw rfl (sp rfl (V8 rfl (dk rfl) ul3 ul5 rfl (sp rfl (OpT.buildSlice (elems := ([(IntKind.u8.wrap b)] : List Int).map (cI .u8)) rfl (dk rfl) B2 i5 (by decide) rfl (Hs rfl) rfl rfl rfl (Xh rfl) (by decide) ?_)))))))
  obtain ⟨w, h⟩ := Q6 h
  refine sp rfl (Zp (i := 2) (xs := g) (ys := [(IntKind.u8.wrap b)]) (f := (cI .u8)) rfl (dk rfl) B2 i5 rfl rfl rfl rfl w (fun y => (aw rfl (nL (Qk (tN (Qr (mw rfl (oI rfl (aw rfl ?_))))))))))
  refine nL (tN ?_)
  refine Qf ?_ (ih x1 (wI (b + (1:Int))) x0 j (g ++ [(IntKind.u8.wrap b)]) l m y h)
  exact tq rfl rfl
  refine Qo rfl u (T.skip (Qk (tN (Qr (mw rfl (oI rfl (aw rfl (nL (tN ?_)))))))))
  refine Qf ?_ (ih x1 (wI (b + (1:Int))) x0 j g l m p h)
  exact tq rfl rfl
  refine Qo rfl s (T.exit (Qj (Qj (Qq (tN (sR (Qr (mw rfl ?_))))))))
  obtain ⟨v, aa, h⟩ := bind_some h
  refine sp rfl (Vt rfl (dk rfl) fu131 rfl rfl (Zm.view (i := 2) rfl rfl Zm.nil) (Zh.nil (Qcr K (flx0 := false) aa)) (sp rfl (Qt (i := 1) (cells' := (Z6.oc .u64 v)) rfl rfl i63 rfl rfl rfl rfl (nb rfl) rfl (nL (tN (T.ret (Fin.done (.cons _ _ _ _ (.cellAgg 4 63 _ 0 1 63 _ (Z6.dc .u64 v) _ _ 4 _ rfl rfl rfl rfl Qk8 rfl i63) .nil) (by cases h; exact ⟨rfl, rfl⟩))))))))
theorem Qjn (K : Nat) {x0 : Q4} {x1 : Int} {r : Z6} (h : P6 K x0 x1 = some r) : Zh tp 115 [.agg ((Q5.dc 256 .u8 x0.Of) ++ (([.int .i64 x0.Many] : List DC))), .int .i64 x1] [] (.agg (Z6.dc .u64 r)) := by
 refine CI 25 fu115 rfl ?_
 unfold P6 at h
 refine sR (Qr (sp rfl (Q8 rfl (dk rfl) rfl (fun a => (sp rfl (Za rfl (dk rfl) i63 rfl (fun b => (nL (tN (sR (Qr (aw rfl (nL (tN (T.seq ?_)))))))))))))))
 refine sR (Qr (aw rfl (nL (tN (T.block (T.loop (Qf (Xd 5 1) ?_)))))))
 refine Qf ?_ (Qfz K K x1 (0:Int) x0 (Z6.mk 0 0 0 0) [] a b (Qd7 2) h)
 exact tr rfl (.c (.s (.s .z)) (.c (.s .z) (.c .z (.n _))))
abbrev Qiv (r : List Int) : ES := Jm tp ff114 (fun y t => y = (.sl false 1 (mU r)) ∧ t = [])
abbrev Qd4 (r : List Int) : ES := fT 19 [1,1,1] ff114 (Qiv r)
abbrev Qax (r : List Int) : ES := Qv 0 ((Qd4 r))
theorem Qe6 {r : List Int} (K : Nat) : ∀ (k : Nat), ∀ (a : Int) (x0 : Z6) (b : List Int) (d : Nat) (g : Value), Wx K k a x0 b = some r → TL tp 19 (ca [1,1,0,1,0,0] ff114) ⟨[(1, .ptr d 0), (3, .c (.ex g)), (4, .int .i64 a)], [.box d 63 (Z6.oc .u64 x0), .arrA g 5 1 (mU b)]⟩ (Qax r) := by
 intro k
 induction k with
 | zero =>
  intro a x0 b d g h
  exact zn h
 | succ k ih =>
  intro a x0 b d g h
  rw [Wx] at h
  refine Q0 (T.seq (sR (Qr (mw rfl (oI rfl (nL (tN ?_)))))))
  rcases Qg h with ⟨j, h⟩ | ⟨j, h⟩
  refine Qp rfl j (T.skip (tN (T.seq (T.block (sR (Qr (oA 0 (Z6.dc .u64 x0) Qk8 i63 rfl (mw rfl ?_))))))))
  refine sp rfl (V8 rfl (dk rfl) ul3 ul5 rfl ?_)
  obtain ⟨u, p, h⟩ := bind_some h
  refine oH fu81 (Zh.nil (G8 K p)) rfl (nL (tN ?_))
  rcases Qg h with ⟨m, h⟩ | ⟨m, h⟩
  refine Qp rfl m (Qr (mw rfl (mw rfl (sp rfl (V8 rfl (dk rfl) ul3 ul5 rfl (sp rfl (OpT.buildSlice (elems := ([(IntKind.u8.wrap a)] : List Int).map (cI .u8)) rfl (dk rfl) B2 i5 (by decide) rfl (Hs rfl) rfl rfl rfl (Xh rfl) (by decide) ?_)))))))
  obtain ⟨q, h⟩ := Q6 h
  refine sp rfl (Zp (i := 1) (xs := b) (ys := [(IntKind.u8.wrap a)]) (f := (cI .u8)) rfl (dk rfl) B2 i5 rfl rfl rfl rfl q (fun s => (aw rfl (nL (Qk (tN (Qr (mw rfl (oI rfl (aw rfl ?_))))))))))
  refine nL (tN ?_)
  refine Qf ?_ (ih (wI (a + (1:Int))) x0 (b ++ [(IntKind.u8.wrap a)]) d s h)
  exact tq rfl rfl
  refine Qo rfl m (T.skip (Qk (tN (Qr (mw rfl (oI rfl (aw rfl (nL (tN ?_)))))))))
  refine Qf ?_ (ih (wI (a + (1:Int))) x0 b d g h)
  exact tq rfl rfl
  refine Qo rfl j (T.exit (Qj (Qj (Qq (tN (sR (Qr (mw rfl (aw rfl (nL (tN (T.ret ?_))))))))))))
  refine Yw (Zr.view 2 1 rfl rfl) (fd rfl (by cases h; exact ⟨rfl, rfl⟩))
theorem Qiw (K : Nat) {x0 : Z6} {r : List Int} (h : Nw K x0 = some r) : Zh tp 114 [.agg (Z6.dc .u64 x0)] [] (.sl false 1 (mU r)) := by
 refine CI 19 fu114 rfl ?_
 unfold Nw at h
 refine sR (Qr (sp rfl (Q8 rfl (dk rfl) rfl (fun a => (aw rfl (nL (tN (sR (Qr (aw rfl (nL (tN (T.seq ?_)))))))))))))
 refine sR (Qr (aw rfl (nL (tN (T.block (T.loop (Qf (Xd 5 1) ?_)))))))
 refine Qf ?_ (Qe6 K K (0:Int) x0 [] a (Qd7 2) h)
 exact tr rfl (.c (.s .z) (.c .z (.n _)))
abbrev Qhu (r : List Int) : ES := Jm tp ff80 (fun y t => y = (.sl false 1 (mU r)) ∧ t = [])
abbrev Qaw (r : List Int) : ES := fT 37 [1,1,1,1] ff80 (Qhu r)
abbrev Sa (r : List Int) : ES := Qv 0 ((Qaw r))
theorem Qd2 {r : List Int} (K : Nat) : ∀ (k : Nat), ∀ (b : Int) (x0 : Q4) (a : List Int) (g : Nat) (j : Value), Gj K k b x0 a = some r → TL tp 37 (ca [1,1,1,0,1,0,0] ff80) ⟨[(1, .ptr g 0), (3, .c (.ex j)), (4, .int .i64 b)], [(b24x3 g x0.Of x0.Many), .arrA j 5 1 (mU a)]⟩ (Sa r) := by
 intro k
 induction k with
 | zero =>
  intro b x0 a g j h
  exact zn h
 | succ k ih =>
  intro b x0 a g j h
  rw [Gj] at h
  refine Q0 (T.seq (sR (Qr (mw rfl (oP Qj2 i3 rfl (oL 0 ul3 rfl (oI rfl ?_)))))))
  refine nL (tN ?_)
  rcases Qg h with ⟨p, h⟩ | ⟨p, h⟩
  refine Qp rfl p (T.skip (tN (T.seq (T.block (sR (Qr (oA 0 ((Q5.dc 256 .u8 x0.Of) ++ (([.int .i64 x0.Many] : List DC))) Qj2 i24 rfl (mw rfl ?_))))))))
  obtain ⟨ac, u, h⟩ := bind_some h
  refine oH fu115 (Zh.nil (Qjn K u)) rfl ?_
  obtain ⟨q, w, h⟩ := bind_some h
  refine oH fu114 (Zh.nil (Qiw K w)) rfl (aw rfl (nL (tN (sR (Qr (mw rfl (oU q (cI .u8) B2 rfl (oI rfl (nL (tN ?_))))))))))
  rcases Qg h with ⟨s, h⟩ | ⟨s, h⟩
  cases h
  refine Qo rfl s (Qr (mw rfl (mw rfl ?_)))
  obtain ⟨m, y, h⟩ := bind_some h
  refine oX q (cI .u8) B2 i5 y rfl (oR ul5 rfl (sp rfl (OpT.buildSlice (elems := ([m] : List Int).map (cI .u8)) rfl (dk rfl) B2 i5 (by decide) rfl (Hs rfl) rfl rfl rfl (Xh rfl) (by decide) ?_)))
  obtain ⟨aa, h⟩ := Q6 h
  refine sp rfl (Zp (i := 1) (xs := a) (ys := [m]) (f := (cI .u8)) rfl (dk rfl) B2 i5 rfl rfl rfl rfl aa (fun ab => (aw rfl (nL (Qk (tN (Qr (mw rfl (oI rfl (aw rfl ?_))))))))))
  refine nL (tN ?_)
  refine Qf ?_ (ih (wI (b + (1:Int))) x0 (a ++ [m]) g ab h)
  exact tq rfl rfl
  refine Qo rfl p (T.exit (Qj (Qj (Qq (tN (sR (Qr (mw rfl (aw rfl (nL (tN (T.ret ?_))))))))))))
  refine Yw (Zr.view 2 1 rfl rfl) (fd rfl (by cases h; exact ⟨rfl, rfl⟩))
theorem Qhv (K : Nat) {x0 : Q4} {r : List Int} (h : Fz K x0 = some r) : Zh tp 80 [.agg ((Q5.dc 256 .u8 x0.Of) ++ (([.int .i64 x0.Many] : List DC)))] [] (.sl false 1 (mU r)) := by
 refine CI 37 fu80 rfl ?_
 unfold Fz at h
 refine sR (Qr (sp rfl (Q8 rfl (dk rfl) rfl (fun d => (aw rfl (nL (tN (T.seq (sR (Qr (oP Qj2 i3 rfl ?_)))))))))))
 refine oL 0 ul3 rfl (oI rfl (mw rfl ?_))
 rcases Qg h with ⟨a, h⟩ | ⟨a, h⟩
 cases h
 refine sn rfl a (Y1 rfl (dk rfl) Qj2 rfl i3 (by decide) rfl (sn rfl a (Zx (i := 0) rfl (dk rfl) ul3 rfl rfl rfl rfl (sn rfl a (Zs rfl rfl (dk rfl) rfl rfl (oZ a rfl (nL (tN ?_))))))))
 rcases Qg h with ⟨b, h⟩ | ⟨b, h⟩
 cases h
 refine Qo rfl b (T.skip (tN (sR (Qr (aw rfl (nL (tN (T.seq (sR (Qr ?_))))))))))
 refine aw rfl (nL (tN (T.block (T.loop (Qf (Xd 5 1) ?_)))))
 refine Qf ?_ (Qd2 K K (0:Int) x0 [] d (Qd7 2) h)
 exact tr rfl (.c (.s .z) (.c .z (.n _)))
end Go.Rv

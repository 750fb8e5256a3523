/- Each function computes what its plain text says: printed by a program of ours. -/
import Derived.Test.YtcmfaclkgdmpbaaGreatDoorRgW1
namespace Go.Rv
open Go.Proofs
set_option maxRecDepth 100000
set_option maxHeartbeats 4000000
set_option linter.unusedVariables false
abbrev Qc4 (r : List Int) : ES := U6 tp ff67 (fun y t => y = (.sl false 1 (mI r)) ∧ t = [])
abbrev O3 (r : List Int) : ES := fT 75 [1,1,1,1,1] ff67 (Qc4 r)
abbrev Kf (r : List Int) : ES := Qx 0 ((O3 r))
abbrev Nu (r : List Int) : ES := fL 75 [1,1,1,1,0,0,0] ff67 (Kf r)
abbrev Fw (r : List Int) : ES := fT 75 [1,1,1,1,0,0,0,1] ff67 (Nu r)
abbrev C6 (r : List Int) (go : (List Int) → (List Int) → Int → Int → (List Int) → Option (List Int)) : Prop := ∀ (x0 x1 : List Int) (a b : Int) (d : List Int) (flx0 flx1 : Bool) (f : Value), go x0 x1 a b d = some r → TL tp 75 (ca [1,1,1,1,0,0,0] ff67) ⟨[(0, .sl flx0 1 (mI x0)), (1, .sl flx1 1 (mI x1)), (5, .c (.ex f)), (6, .int .i64 a), (7, .int .i64 b)], [.arrA f 3 1 (mI d)]⟩ (Kf r)
theorem C7 {r : List Int} (K : Nat) (go0 : (List Int) → (List Int) → Int → Int → (List Int) → Option (List Int)) (hgo0 : C6 r go0) (x0 x1 : List Int) (a d : Int) (m : List Int) (flx0 flx1 : Bool) (p : Value) (h : Hx K go0 x0 x1 a d m = some r) : T tp 75 (ca [1,1,1,1,0,0,0,0,1,0] ff67) ⟨[(0, .sl flx0 1 (mI x0)), (1, .sl flx1 1 (mI x1)), (5, .c (.ex p)), (6, .int .i64 a), (7, .int .i64 d)], [.arrA p 3 1 (mI m)]⟩ (Fw r) := by
 unfold Hx at h
 refine T.skip (tN (T.block (T.seq (Yg (dV rfl rfl (dV rfl rfl (dN x1 (cI .i64) rfl (.f rfl) Zu rfl ?_)))))))
 refine dI rfl (.f rfl) rfl (dV rfl rfl ?_)
 rcases Qe h with ⟨l, h⟩ | ⟨l, h⟩
 cases h
 refine dM rfl (.n l rfl) rfl (dM rfl (.n l rfl) rfl (dN x0 (cI .i64) rfl (.n l rfl) Zu rfl (dI rfl (.n l rfl) rfl (dM rfl (.n l rfl) rfl ?_))))
 rcases Qe h with ⟨b, h⟩ | ⟨b, h⟩
 refine dM rfl (.n b rfl) rfl (dM rfl (.n b rfl) rfl ?_)
 obtain ⟨g, s, h⟩ := bind_some h
 refine dX x0 (cI .i64) rfl (.n b rfl) Zu i3 s rfl (dR rfl (.n b rfl) ul3 rfl (dM rfl (.n b rfl) rfl (dM rfl (.n b rfl) rfl ?_)))
 obtain ⟨j, y, h⟩ := bind_some h
 refine dX x1 (cI .i64) rfl (.n b rfl) Zu i3 y rfl (dR rfl (.n b rfl) ul3 rfl (dI rfl (.n b rfl) rfl (dY rfl (.n l rfl) b rfl (dZ rfl (.f rfl) l rfl (dF [0,0,2,7,15,31,31,95,255,511,1023,1023,4095,8191,1023,1023,50175,115711,262143,524287,1048575] Qz rfl (by kernel_rfl) (fun u hu => (tN (Qk hu ?_))))))))
 rcases Qe h with ⟨w, h⟩ | ⟨w, h⟩
 refine Qp rfl w (sR (Qq ?_))
 iterate 3 refine mw rfl ?_
 refine oX x0 (cI .i64) Zu i3 s rfl (oR ul3 rfl (sp rfl (OpT.buildSlice (elems := ([g] : List Int).map (cI .i64)) rfl (dk rfl) Zu i3 (by decide) rfl (G9 rfl) rfl rfl rfl (Vg rfl) (by decide) ?_)))
 obtain ⟨aa, h⟩ := Q6 h
 refine sp rfl (Zr (i := 0) (xs := m) (ys := [g]) (f := (cI .i64)) rfl (dk rfl) Zu i3 rfl rfl rfl rfl aa (fun ab => (aw rfl (nL (tN (Qq (mw rfl (oI rfl (aw rfl ?_)))))))))
 refine nL (Qn (tN ?_))
 refine Qg ?_ (hgo0 x0 x1 (wI (a + (1:Int))) d (m ++ [g]) flx0 flx1 ab h)
 exact tq rfl rfl
 cases h
 refine dO b rfl rfl (dO b rfl rfl (dO b rfl rfl (dO b rfl rfl (dO b rfl rfl (dO b rfl rfl (dO b rfl rfl ?_))))))
 refine dO b rfl rfl (dO b rfl rfl (dZ rfl (.n l rfl) b rfl (dZ rfl (.f rfl) l rfl (dF [0,0,2,7,15,31,31,95,255,511,1023,1023,4095,8191,1023,1023,50175,115711,262143,524287,1048575] Qz rfl (by kernel_rfl) (fun u hu => (tN (Qk hu (Qo rfl rfl (T.seq ?_)))))))))
 refine T.seq (Yg (dV rfl rfl (dV rfl rfl (dN x0 (cI .i64) rfl (.f rfl) Zu rfl (dI rfl (.f rfl) rfl (dV rfl rfl ?_))))))
 refine dO b rfl rfl (dO b rfl rfl (dO b rfl rfl (dO b rfl rfl (dO b rfl rfl (dO b rfl rfl (dO b rfl rfl ?_))))))
 refine dO b rfl rfl (dO b rfl rfl (dZ rfl (.f rfl) b rfl (dF [0,0,2,7,15,31,31,127,255,31,31,1567,3615,8191,16383] Qz rfl (by kernel_rfl) (fun u hu => (tN (Qk hu (Qo rfl rfl (T.skip (tN (sR (Qq ?_)))))))))))
 iterate 3 refine mw rfl ?_
 obtain ⟨q, ac, h⟩ := bind_some h
 refine oX x1 (cI .i64) Zu i3 ac rfl (oR ul3 rfl (sp rfl (OpT.buildSlice (elems := ([q] : List Int).map (cI .i64)) rfl (dk rfl) Zu i3 (by decide) rfl (G9 rfl) rfl rfl rfl (Vg rfl) (by decide) ?_)))
 obtain ⟨ad, h⟩ := Q6 h
 refine sp rfl (Zr (i := 0) (xs := m) (ys := [q]) (f := (cI .i64)) rfl (dk rfl) Zu i3 rfl rfl rfl rfl ad (fun af => (aw rfl (nL (tN (Qq (mw rfl (oI rfl (aw rfl ?_)))))))))
 refine nL (Qn (tN ?_))
 refine Qg ?_ (hgo0 x0 x1 a (wI (d + (1:Int))) (m ++ [q]) flx0 flx1 af h)
 exact tq rfl rfl
theorem Ts {r : List Int} (K : Nat) : ∀ (k : Nat), C6 r (Vb K k) := by
 intro k
 induction k with
 | zero =>
  intro x0 x1 b d g flx0 flx1 i h
  exact zn h
 | succ k ih =>
  intro x0 x1 b d g flx0 flx1 i h
  rw [Vb] at h
  refine Q3 (T.seq (sR (Qq (mw rfl (mw rfl (oU x0 (cI .i64) Zu rfl (oI rfl ?_)))))))
  refine mw rfl ?_
  rcases Qe h with ⟨a, h⟩ | ⟨a, h⟩
  refine pf rfl a (pf rfl a (pf rfl a (pf rfl a (oY a rfl (nL (tN (Qp rfl rfl ?_)))))))
  refine Qk ?_ (C7 K (Vb K k) ih x0 x1 b d g flx0 flx1 i h)
  exact tq rfl rfl
  refine sn rfl a (OpT.move rfl (dk rfl) rfl (sn rfl a (OpT.move rfl (dk rfl) rfl (sn rfl a (Z9 (xs := x1) (f := (cI .i64)) rfl (dk rfl) Zu rfl (sn rfl a (Zi rfl rfl (dk rfl) rfl rfl (oZ a rfl (nL (tN ?_))))))))))
  rcases Qe h with ⟨j, h⟩ | ⟨j, h⟩
  refine Qp rfl j ?_
  refine Qk ?_ (C7 K (Vb K k) ih x0 x1 b d g flx0 flx1 i h)
  exact tq rfl rfl
  refine Qo rfl j (T.exit (Ql (Ql (Qr (tN (sR (Qq (mw rfl (aw rfl (nL (tN (T.ret ?_))))))))))))
  refine Xr (Zy.view 4 0 rfl rfl) (fd rfl (by cases h; exact ⟨rfl, rfl⟩))
theorem J0 (K : Nat) {x0 x1 : List Int} {flx0 flx1 : Bool} {r : List Int} (h : Uq K x0 x1 = some r) : Zl tp 67 [.sl flx0 1 (mI x0), .sl flx1 1 (mI x1)] [] (.sl false 1 (mI r)) := by
 refine CI 75 fu67 rfl ?_
 unfold Uq at h
 refine sR (Qq (aw rfl (nL (tN (sR (Qq (aw rfl (nL (tN (sR (Qq (aw rfl (nL (tN (sR (Qq ?_))))))))))))))))
 refine aw rfl (nL (tN (T.seq (T.block (T.loop (Qg (Xh 3 1) ?_))))))
 refine Qg ?_ (Ts K K x0 x1 (0:Int) (0:Int) [] flx0 flx1 (Qdv 2) h)
 exact tq rfl rfl
abbrev Iy (bx0 : Nat) (r : Qj) : ES := U6 tp ff107 (fun y t => ∃ γ : Nat → Value, y = (.tup []) ∧ t = [(Hf bx0 (γ 0)), .arrX (γ 0) 65 9 0 (r.p.map Qy)])
abbrev Du (bx0 : Nat) (r : Qj) : ES := Qx 0 ((Iy bx0 r))
theorem Dv {r : Qj} (K bx0 : Nat) : ∀ (k : Nat), ∀ (x1 x2 : List Int) (l : Int) (j : List Zt) (flx1 flx2 : Bool) (a : Value), Vl K k x1 x2 l j = some r → TL tp 36 (ca [1,0,0] ff107) ⟨[(0, .ptr bx0 0), (1, .sl flx1 1 (mI x1)), (2, .sl flx2 1 (mI x2)), (6, .int .i64 l)], [(Hf bx0 a), .arrX a 65 9 0 (j.map Qy)]⟩ (Du bx0 r) := by
 intro k
 induction k with
 | zero =>
  intro x1 x2 l j flx1 flx2 a h
  exact zn h
 | succ k ih =>
  intro x1 x2 l j flx1 flx2 a h
  rw [Vl] at h
  refine Q3 (T.seq (sR (Qq (mw rfl (mw rfl (oU x1 (cI .i64) Zu rfl (oI rfl ?_)))))))
  refine nL (tN ?_)
  rcases Qe h with ⟨q, h⟩ | ⟨q, h⟩
  refine Qp rfl q (T.skip (tN (T.seq (T.block (Yg (dV rfl rfl (dK rfl (.f rfl) rfl ?_)))))))
  refine dP rfl (.f rfl) ul126 i41 rfl (dL 0 rfl (.f rfl) Rl rfl (dV rfl rfl (dV rfl rfl ?_)))
  obtain ⟨g, s, h⟩ := bind_some h
  refine dX x1 (cI .i64) rfl (.f rfl) Zu i3 s rfl (dR rfl (.f rfl) ul3 rfl (dV rfl rfl (dK rfl (.f rfl) rfl (dP rfl (.f rfl) ul126 i41 rfl (dL 0 rfl (.f rfl) Rl rfl (dV rfl rfl ?_))))))
  refine dV rfl rfl (dX x1 (cI .i64) rfl (.f rfl) Zu i3 s rfl (dR rfl (.f rfl) ul3 rfl ?_))
  obtain ⟨b, p, h⟩ := bind_some h
  refine dS (c := ⟨some 29, .el a 9 (Int.toNat g) 0, [(24, .c (.ex a)), (28, .int .i64 g)], [(1, .arrX a 65 9 0 (j.map Qy))], []⟩) (fun t hm => oF rfl rfl (Z0 (n := 1) (xs := j) (f := Qy) (old := b) rfl (dk rfl) Rl i65 hm.s0 hm.o0 hm.s1 p rfl)) rfl rfl (dS (c := ⟨some 30, .el a 9 (Int.toNat g) 8, [(29, .el a 9 (Int.toNat g) 0)], [], []⟩) (fun t hm => oF rfl rfl (Mk rfl (dk rfl) ul65 rfl i38 (by decide) hm.s0 rfl)) rfl rfl (dS (c := ⟨some 31, .sl false 1 (mI b.Next), [(30, .el a 9 (Int.toNat g) 8)], [(1, .arrX a 65 9 0 (j.map Qy))], []⟩) (fun t hm => oF rfl rfl (Jv (i := 1) (xs := j) (f := Qy) (old := b) rfl (dk rfl) Zu rfl hm.s0 hm.o0 (Zp p).2 rfl rfl)) rfl rfl (dV rfl rfl ?_)))
  obtain ⟨m, w, h⟩ := bind_some h
  refine dH fu67 (Zl.nil (J0 K (flx0 := false) (flx1 := flx2) w)) rfl (.f rfl) rfl (dS (c := ⟨some 34, .el a 9 (Int.toNat g) 0, [(16, .c (.ex a)), (20, .int .i64 g)], [(1, .arrX a 65 9 0 (j.map Qy))], []⟩) (fun t hm => oF rfl rfl (Z0 (n := 1) (xs := j) (f := Qy) (old := b) rfl (dk rfl) Rl i65 hm.s0 hm.o0 hm.s1 p rfl)) rfl rfl (dS (c := ⟨some 35, .el a 9 (Int.toNat g) 8, [(34, .el a 9 (Int.toNat g) 0)], [], []⟩) (fun t hm => oF rfl rfl (Mk rfl (dk rfl) ul65 rfl i38 (by decide) hm.s0 rfl)) rfl rfl (dS (c := ⟨none, .any, [(35, .el a 9 (Int.toNat g) 8), (33, .sl false 1 (mI m))], [(1, .arrX a 65 9 0 (j.map Qy))], [(1, .arrX a 65 9 0 ((List.set j (Int.toNat g) (Zt.mk b.S b.Lo b.Hi b.Rule b.Last m)).map Qy))]⟩) (fun t hm => oF rfl rfl (Wc (i := 1) (xs := j) (f := Qy) (old := b) (new := (Zt.mk b.S b.Lo b.Hi b.Rule b.Last m)) rfl rfl i38 hm.s0 hm.s1 hm.o0 (Zp p).2 (Qgx _) (nb rfl) rfl rfl)) rfl rfl (dF [0,1,3,7,0,0,48,112,0,256,768,1792,0,0,12288,28672,65280,130816,261888,0,1048320,2097151,4194303,8388607] Qz rfl (by kernel_rfl) (fun u hu => (Qn (tN (Qk hu (Qq (mw rfl ?_))))))))))
  refine oI rfl (aw rfl (nL (tN ?_)))
  refine Qg ?_ (ih x1 x2 (wI (l + (1:Int))) (List.set j (Int.toNat g) (Zt.mk b.S b.Lo b.Hi b.Rule b.Last m)) flx1 flx2 a h)
  exact tq rfl rfl
  refine Qo rfl q (T.exit (Ql (Ql (Qr (Q2 (.nil) (.cons 0 rfl (.cons 0 rfl (.nil _))) (by cases h; exact ⟨gl [a], rfl, rfl⟩))))))
theorem Iz (K : Nat) {x0 : Qj} {x1 x2 : List Int} {bx0 : Nat} {wx0c0 : Value} {flx1 flx2 : Bool} {r : Qj} (h : W5 K x0 x1 x2 = some r) : V6 tp 107 [.ptr bx0 0, .sl flx1 1 (mI x1), .sl flx2 1 (mI x2)] [(Hf bx0 wx0c0), .arrX wx0c0 65 9 0 (x0.p.map Qy)] (fun γ => (.tup [])) (fun γ => [(Hf bx0 (γ 0)), .arrX (γ 0) 65 9 0 (r.p.map Qy)]) := by
 refine CI 36 fu107 rfl ?_
 unfold W5 at h
 refine sR (Qq (aw rfl (nL (tN (T.block (T.loop ?_))))))
 refine Qg ?_ (Dv K bx0 K x1 x2 (0:Int) x0.p flx1 flx2 wx0c0 h)
 exact tq rfl rfl
abbrev Ns (bx0 : Nat) (r : Qs × Qj) : ES := U6 tp ff106 (fun y t => ∃ γ : Nat → Value, y = (.agg [.bool r.1.null, .sl false 1 (mI r.1.first), .sl false 1 (mI r.1.last)]) ∧ t = [(Hf bx0 (γ 0)), .arrX (γ 0) 65 9 0 (r.2.p.map Qy)])
abbrev Dw (bx0 : Nat) (r : Qs × Qj) : ES := fT 52 [1,1,1] ff106 (Ns bx0 r)
abbrev W6 (bx0 : Nat) (r : Qs × Qj) : ES := Qx 0 ((Dw bx0 r))
abbrev Ch (bx0 : Nat) (r : Qs × Qj) : ES := fL 52 [1,1,0,1,0,0] ff106 (W6 bx0 r)
abbrev Mz (bx0 : Nat) (r : Qs × Qj) : ES := fT 52 [1,1,0,1,0,0,1,1] ff106 (Ch bx0 r)
abbrev Lv (bx0 : Nat) (r : Qs × Qj) : ES := Qx 1 ((Mz bx0 r))
abbrev G2 (bx0 : Nat) (r : Qs × Qj) (go : (List Qs) → Int → (List Zt) → Bool → (List Int) → (List Int) → Option (Qs × Qj)) : Prop := ∀ (x1 : List Qs) (a : Int) (b : List Zt) (c : Bool) (f g : List Int) (flx1 : Bool) (i : Value) (j l : Nat), go x1 a b c f g = some r → TL tp 52 (ca [1,1,0,1,0,0] ff106) ⟨[(0, .ptr bx0 0), (1, .sl flx1 3 (x1.map Zh)), (4, .ptr j 0), (5, .ptr l 0), (6, .int .i64 a)], [(Hf bx0 i), .arrX i 65 9 0 (b.map Qy), (o128 j false (.slice none 0 0) (.slice none 0 0)), (Qax l c f g)]⟩ (W6 bx0 r)
theorem G3 {r : Qs × Qj} (K bx0 : Nat) (go0 : (List Qs) → Int → (List Zt) → Bool → (List Int) → (List Int) → Option (Qs × Qj)) (hgo0 : G2 bx0 r go0) (x1 : List Qs) (g : Int) (j : List Zt) (s : Bool) (a u : List Int) (l : Bool) (v b : List Int) (flx1 : Bool) (m : Value) (p q w : Nat) (h : Vz K go0 x1 g j s a u l v b = some r) : T tp 52 (ca [1,1,0,1,0,0,1,0,0,1,1,1] ff106) ⟨[(0, .ptr bx0 0), (1, .sl flx1 3 (x1.map Zh)), (4, .ptr p 0), (5, .ptr q 0), (6, .int .i64 g), (7, .ptr w 0)], [(Hf bx0 m), .arrX m 65 9 0 (j.map Qy), (o128 p false (.slice none 0 0) (.slice none 0 0)), (Qax q s a u), (Qax w l v b)]⟩ (Lv bx0 r) := by
 unfold Vz at h
 refine T.seq (sR (Qq (oP G6 i4 rfl (oL 4 ul4 rfl (nL (tN ?_))))))
 rcases Qe h with ⟨y, h⟩ | ⟨y, h⟩
 cases h
 refine Qo rfl y (Qq (oP G6 i38 rfl (oL 4 Zu rfl (oP G6 i38 rfl (sp rfl (Jd (i := 3) (cells' := [.d (.bool s), .d (.sl false 1 (mI a)), .d (.sl false 1 (mI b))]) rfl rfl i38 rfl rfl rfl (nb rfl) rfl (nL (tN ?_))))))))
 refine Qq (oP G6 i4 rfl (oL 3 ul4 rfl (mw rfl ?_)))
 rcases Qe h with ⟨f, h⟩ | ⟨f, h⟩
 refine sn rfl f (Xi rfl (dk rfl) G6 rfl i4 (by decide) rfl (sn rfl f (Zw (i := 4) rfl (dk rfl) ul4 rfl rfl rfl rfl (oY f rfl (oP G6 i4 rfl (sp rfl (Jd (i := 3) (cells' := [.d (.bool l), .d (.sl false 1 (mI a)), .d (.sl false 1 (mI b))]) rfl rfl i4 rfl rfl rfl (nb rfl) rfl (nL (Qn (tN (Qq ?_)))))))))))
 refine mw rfl (oI rfl (aw rfl (nL (tN ?_))))
 refine Qg ?_ (hgo0 x1 (wI (g + (1:Int))) j l a b flx1 m p q h)
 exact tq rfl rfl
 refine pf rfl f (pf rfl f (oZ f rfl (oP G6 i4 rfl (sp rfl (Jd (i := 3) (cells' := [.d (.bool false), .d (.sl false 1 (mI a)), .d (.sl false 1 (mI b))]) rfl rfl i4 rfl rfl rfl (nb rfl) rfl (nL (Qn (tN (Qq ?_)))))))))
 refine mw rfl (oI rfl (aw rfl (nL (tN ?_))))
 refine Qg ?_ (hgo0 x1 (wI (g + (1:Int))) j false a b flx1 m p q h)
 exact tq rfl rfl
theorem Em {r : Qs × Qj} (K bx0 : Nat) : ∀ (k : Nat), G2 bx0 r (Yd K k) := by
 intro k
 induction k with
 | zero =>
  intro x1 m ag b j g flx1 q u w h
  exact zn h
 | succ k ih =>
  intro x1 m ag b j g flx1 q u w h
  rw [Yd] at h
  refine Q3 (T.seq (sR (Qq (mw rfl (mw rfl (oU x1 Zh ul171 rfl (oI rfl ?_)))))))
  refine nL (tN ?_)
  rcases Qe h with ⟨y, h⟩ | ⟨y, h⟩
  refine Qp rfl y (T.skip (tN (T.seq (T.block (sR (Qq (mw rfl (mw rfl ?_))))))))
  obtain ⟨a, ai, h⟩ := bind_some h
  refine oX x1 Zh ul171 i128 ai rfl (oJ G6 i128 rfl (sp rfl (Zb rfl (dk rfl) i128 rfl (fun ab => (sp rfl (Qu (i := 0) (cells' := [.d (.bool a.null), .d (.sl false 1 (mI a.first)), .d (.sl false 1 (mI a.last))]) rfl rfl i128 rfl rfl rfl rfl (nb rfl) rfl (nL (tN (sR (Qq (mw rfl (oP G6 i38 rfl ?_))))))))))))
  refine oL 4 Zu rfl (oP G6 i38 rfl (oL 0 Zu rfl ?_))
  obtain ⟨ac, aj, h⟩ := bind_some h
  refine sp rfl (Q4 (is := [1, 2]) (ph := []) rfl (dk rfl) fu107 rfl rfl (Zk.cons rfl (Zk.cons rfl (Zk.cons rfl Zk.nil))) (Iz K (bx0 := bx0) (wx0c0 := q) (flx1 := false) (flx2 := false) aj) (.cons rfl rfl (.cons rfl rfl (.nil))) (fun _ => rfl) (fun ad => (nm (.c (.c (.c (.c (.c (.n)))))) (nL (tN (T.seq (sR (Qq (oP G6 i4 rfl (oL 4 ul4 rfl ?_))))))))))
  refine nL (tN ?_)
  rcases Qe h with ⟨aa, h⟩ | ⟨aa, h⟩
  refine Qp rfl aa (Qq (oP G6 i38 rfl (oL 4 Zu rfl (oP G6 i38 rfl (oL 0 Zu rfl ?_)))))
  obtain ⟨af, al, h⟩ := bind_some h
  refine oH fu67 (Zl.nil (J0 K (flx0 := false) (flx1 := false) al)) rfl (oP G6 i38 rfl (sp rfl (Jd (i := 4) (cells' := [.d (.bool b), .d (.sl false 1 (mI af)), .d (.sl false 1 (mI g))]) rfl rfl i38 rfl rfl rfl (nb rfl) rfl (nL (tN ?_)))))
  refine Qk ?_ (G3 K bx0 (Yd K k) ih x1 m ac.p b af g a.null a.first a.last flx1 (ad 0) u w ab h)
  exact tr rfl (.c (.s .z) (.c (.s .z) (.c (.s .z) (.c (.s .z) (.c .z (.n _))))))
  refine Qo rfl aa (T.skip (tN ?_))
  refine Qk ?_ (G3 K bx0 (Yd K k) ih x1 m ac.p b j g a.null a.first a.last flx1 (ad 0) u w ab h)
  exact tr rfl (.c (.s .z) (.c (.s .z) (.c (.s .z) (.c (.s .z) (.c .z (.n _))))))
  refine Qo rfl y (T.exit (Ql (Ql (Qr (tN (sR (Qq (oA 3 [.bool b, .sl false 1 (mI j), .sl false 1 (mI g)] G6 i128 rfl (sp rfl (Qu (i := 2) (cells' := [.d (.bool b), .d (.sl false 1 (mI j)), .d (.sl false 1 (mI g))]) rfl rfl i128 rfl rfl rfl rfl (nb rfl) rfl (nL (tN (T.ret ?_)))))))))))))
  exact Q2 (.cons _ _ _ _ (.cellAgg 4 128 _ 0 2 128 _ [.bool b, .sl false 1 (mI j), .sl false 1 (mI g)] _ _ 3 _ rfl rfl rfl rfl G6 rfl i128) .nil) (.cons 0 rfl (.cons 0 rfl (.nil _))) (by cases h; exact ⟨gl [q], rfl, rfl⟩)
theorem Nt (K : Nat) {x0 : Qj} {x1 : List Qs} {bx0 : Nat} {wx0c0 : Value} {flx1 : Bool} {r : Qs × Qj} (h : Hw K x0 x1 = some r) : V6 tp 106 [.ptr bx0 0, .sl flx1 3 (x1.map Zh)] [(Hf bx0 wx0c0), .arrX wx0c0 65 9 0 (x0.p.map Qy)] (fun γ => (.agg [.bool r.1.null, .sl false 1 (mI r.1.first), .sl false 1 (mI r.1.last)])) (fun γ => [(Hf bx0 (γ 0)), .arrX (γ 0) 65 9 0 (r.2.p.map Qy)]) := by
 refine CI 52 fu106 rfl ?_
 unfold Hw at h
 refine sR (Qq (sp rfl (Zb rfl (dk rfl) i128 rfl (fun a => (nL (tN (sR (Qq (sp rfl (Zm (OpT.build (l := [.bool true, .ex (.slice none 0 0), .ex (.slice none 0 0)]) rfl (dk rfl) (Zq (pl := [(0, 1), (1, 1), (2, 1)]) G6 i128 rfl) (G9 rfl) rfl rfl rfl) (Z5 8 (l := [.bool true, .ex (.slice none 0 0), .ex (.slice none 0 0)]) (l' := [.bool true, .sl false 1 (([] : List Int).map (cI .i64)), .sl false 1 (([] : List Int).map (cI .i64))]) (.cons (.same _) (.cons (.nil _ _) (.cons (.nil _ _) (.refl _))))) (sp rfl (Zb rfl (dk rfl) i128 rfl (fun b => (sp rfl (Qu (i := 0) (cells' := [.d (.bool true), .d (.sl false 1 (([] : List Int).map (cI .i64))), .d (.sl false 1 (([] : List Int).map (cI .i64)))]) rfl rfl i128 rfl rfl rfl rfl (nb rfl) rfl (nL (tN ?_)))))))))))))))))
 refine T.seq (sR (Qq (aw rfl (nL (tN (T.block (T.loop ?_)))))))
 refine Qg ?_ (Em K bx0 K x1 (0:Int) x0.p true [] [] flx1 wx0c0 a b h)
 exact tr rfl (.c (.s (.s .z)) (.c (.s (.s .z)) (.c (.s .z) (.c .z (.n _)))))
abbrev raddleref09_builder_put_q (bx0 : Nat) (r : Qs × Qj) : ES := U6 tp ff105 (fun y t => ∃ γ : Nat → Value, y = (.agg [.bool r.1.null, .sl false 1 (mI r.1.first), .sl false 1 (mI r.1.last)]) ∧ t = [(Hf bx0 (γ 0)), .arrX (γ 0) 65 9 0 (r.2.p.map Qy)])
theorem Nr (K : Nat) {x0 : Qj} {x1 : Zt} {bx0 : Nat} {wx0c0 : Value} {r : Qs × Qj} (h : Hv K x0 x1 = some r) : V6 tp 105 [.ptr bx0 0, .agg [.int .u64 x1.S.a0, .int .u64 x1.S.a1, .int .u64 x1.S.a2, .int .u64 x1.S.a3, .int .i64 x1.Lo, .int .i64 x1.Hi, .int .i64 x1.Rule, .bool x1.Last, .sl false 1 (mI x1.Next)]] [(Hf bx0 wx0c0), .arrX wx0c0 65 9 0 (x0.p.map Qy)] (fun γ => (.agg [.bool r.1.null, .sl false 1 (mI r.1.first), .sl false 1 (mI r.1.last)])) (fun γ => [(Hf bx0 (γ 0)), .arrX (γ 0) 65 9 0 (r.2.p.map Qy)]) := by
 refine CI 26 fu105 rfl ?_
 unfold Hv at h
 refine sR (Qq (sp rfl (Zc rfl (dk rfl) rfl (fun b => (sp rfl (Zb rfl (dk rfl) i128 rfl (fun g => (nL (tN (T.seq (Qk (Hs 0 (l := [.bool false, .ex (.slice none 0 0), .ex (.slice none 0 0)]) (l' := [.bool false, .sl false 1 (([] : List Int).map (cI .i64)), .sl false 1 (([] : List Int).map (cI .i64))]) rfl (.cons (.same _) (.cons (.nil _ _) (.cons (.nil _ _) (.refl _))))) (Qk Yc ?_))))))))))))
 refine Uv (gM rfl (fun _ => .f rfl) (fun _ => rfl) (gM rfl (fun _ => .f rfl) (fun _ => rfl) (gK rfl (fun _ => .f rfl) (fun _ => rfl) (gP rfl (fun _ => .f rfl) ul126 i41 (fun _ => rfl) (gL 3 rfl (fun _ => .f rfl) Rl (fun _ => rfl) (gW 2 [.int .u64 x1.S.a0, .int .u64 x1.S.a1, .int .u64 x1.S.a2, .int .u64 x1.S.a3, .int .i64 x1.Lo, .int .i64 x1.Hi, .int .i64 x1.Rule, .bool x1.Last, .sl false 1 (mI x1.Next)] rfl (fun _ => .f rfl) ul65 i65 (fun _ => rfl) ?_))))))
 refine dC (c := ⟨some 12, .sl true 9 ([x1].map Qy), [(11, .agg [.int .u64 x1.S.a0, .int .u64 x1.S.a1, .int .u64 x1.S.a2, .int .u64 x1.S.a3, .int .i64 x1.Lo, .int .i64 x1.Hi, .int .i64 x1.Rule, .bool x1.Last, .sl false 1 (mI x1.Next)])], [], []⟩) (fun t hm => oF rfl rfl (OpT.buildSlice (elems := ([x1] : List Zt).map Qy) rfl (dk rfl) Rl i65 (by decide) rfl (G9 rfl) (Yx hm.s0 rfl Gi) rfl rfl (Vg rfl) (by decide) ⟨u0, rfl⟩)) (fun _ => rfl) (fun _ => rfl) ?_
 obtain ⟨j, h⟩ := Q6 h
 refine DGG.step (c := fun a => ⟨some 13, .c (.ex ((a 7).1 0)), [(12, .sl true 9 ([x1].map Qy)), (10, .c (.ex wx0c0))], [(4, .arrX wx0c0 65 9 0 (x0.p.map Qy))], [(4, .arrX ((a 7).1 0) 65 9 0 ((x0.p ++ [x1]).map Qy))]⟩) [7] (fun a γ' h => by simp only [h 7 (by decide)]) (fun a t hm => oF rfl rfl (Db (i := 4) (xs := x0.p) (ys := [x1]) (f := Qy) rfl (dk rfl) Rl i65 rfl hm.s1 hm.o0 hm.s0 j (fun w => ⟨(fun _ => w, 0), rfl⟩))) (fun a => Zj rfl rfl) (gK rfl (fun _ => .f rfl) (fun _ => rfl) (gP rfl (fun _ => .f rfl) ul126 i41 (fun _ => rfl) (DGG.step (c := fun a => ⟨none, .any, [(15, .ptr bx0 (0 + 0)), (13, .c (.ex ((a 7).1 0)))], [(3, (Hf bx0 wx0c0))], [(3, (Hf bx0 ((a 7).1 0)))]⟩) [7] (fun a γ' h => by simp only [h 7 (by decide)]) (fun a t hm => oF rfl rfl (Jd (i := 3) (cells' := [.d (.ex ((a 7).1 0))]) rfl rfl i41 hm.s0 hm.s1 hm.o0 (nb rfl) rfl ⟨u0, rfl⟩)) (fun a => Zj rfl rfl) (gF [0,0,2,6,14,0,32,126,255,511,1023] Qz rfl (by kernel_rfl) (fun _ => by kernel_rfl) (fun a u hu => (tN (Qk hu (sR (Qq (mw rfl ?_))))))))))
 refine oK rfl (oP ul126 i41 rfl (oL 3 Rl rfl (sp rfl (J4 (i := 4) (xs := (x0.p ++ [x1])) (f := Qy) rfl (dk rfl) Rl rfl rfl (oI rfl (sp rfl (OpT.buildSlice (elems := ([(wI (((x0.p ++ [x1]).length : Int) - (1:Int)))] : List Int).map (cI .i64)) rfl (dk rfl) Zu i3 (by decide) rfl (G9 rfl) rfl rfl rfl (Vg rfl) (by decide) (aw rfl ?_))))))))
 refine nL (tN (sR (Qq (mw rfl (mw rfl (sp rfl (Zm (OpT.build (l := [.bool false, .sl true 1 ([(wI (((x0.p ++ [x1]).length : Int) - (1:Int)))].map (cI .i64)), .sl true 1 ([(wI (((x0.p ++ [x1]).length : Int) - (1:Int)))].map (cI .i64))]) rfl (dk rfl) (Zq (pl := [(0, 1), (1, 1), (2, 1)]) G6 i128 rfl) (G9 rfl) rfl rfl rfl) (Z5 25 (l := [.bool false, .sl true 1 ([(wI (((x0.p ++ [x1]).length : Int) - (1:Int)))].map (cI .i64)), .sl true 1 ([(wI (((x0.p ++ [x1]).length : Int) - (1:Int)))].map (cI .i64))]) (l' := [.bool false, .sl false 1 ([(wI (((x0.p ++ [x1]).length : Int) - (1:Int)))].map (cI .i64)), .sl false 1 ([(wI (((x0.p ++ [x1]).length : Int) - (1:Int)))].map (cI .i64))]) (.cons (.same _) (.cons (.full _ _ _) (.cons (.full _ _ _) (.refl _))))) (sp rfl (Qu (i := 1) (cells' := [.d (.bool false), .d (.sl false 1 ([(wI (((x0.p ++ [x1]).length : Int) - (1:Int)))].map (cI .i64))), .d (.sl false 1 ([(wI (((x0.p ++ [x1]).length : Int) - (1:Int)))].map (cI .i64)))]) rfl rfl i128 rfl rfl rfl rfl (nb rfl) rfl (nL (tN (T.ret ?_))))))))))))
 exact Q2 (.cons _ _ _ _ (.cellAgg 4 128 _ 0 1 128 _ [.bool false, .sl false 1 ([(wI (((x0.p ++ [x1]).length : Int) - (1:Int)))].map (cI .i64)), .sl false 1 ([(wI (((x0.p ++ [x1]).length : Int) - (1:Int)))].map (cI .i64))] _ _ 3 _ rfl rfl rfl rfl G6 rfl i128) .nil) (.cons 3 rfl (.cons 3 rfl (.nil _))) (by cases h; exact ⟨gl [(a 7).1 0], rfl, rfl⟩)
abbrev Ke (bx0 : Nat) (r : Qs × Qj) : ES := U6 tp ff66 (fun y t => ∃ γ : Nat → Value, y = (.agg [.bool r.1.null, .sl false 1 (mI r.1.first), .sl false 1 (mI r.1.last)]) ∧ t = [(Hf bx0 (γ 0)), .arrX (γ 0) 65 9 0 (r.2.p.map Qy)])
abbrev Kj (bx0 : Nat) (r : Qs × Qj) : ES := fT 128 [1,1,1,1,1,1,1,1,1,1] ff66 (Ke bx0 r)
abbrev Lh (bx0 : Nat) (r : Qs × Qj) : ES := Qx 2 ((Kj bx0 r))
abbrev My (bx0 : Nat) (r : Qs × Qj) : ES := fT 128 [1,1,1,1,1,1,1] ff66 (Ke bx0 r)
abbrev Kv (bx0 : Nat) (r : Qs × Qj) : ES := Qx 0 ((My bx0 r))
theorem Dr {r : Qs × Qj} (K : Nat) (rec_raddleref09_builder_node : Qj → (List Q0) → Int → Int → Option (Qs × Qj)) (hrec_raddleref09_builder_node : Vy rec_raddleref09_builder_node) (bx0 : Nat) : ∀ (k : Nat), ∀ (s : Int) (ac : List Zt) (ad af : List Int) (ag : Int) (m : Z2) (ai : List Int) (aj al : Int) (am : ByteArray) (g : List Qs) (an : Bool) (q j : List Int) (y : Value) (aa ab : Nat) (p : Value) (b : Nat), Vj K rec_raddleref09_builder_node k s ac ad af ag m ai aj al am g an q j = some r → TL tp 128 (ca [1,1,1,1,1,1,1,1,1,0,1,0,0] ff66) ⟨[(0, .ptr bx0 0), (8, .ptr aa 0), (9, .ptr ab 0), (10, .c (.ex p)), (12, .ptr b 0), (13, .int .i64 s)], [(Hf bx0 y), .arrX y 65 9 0 (ac.map Qy), (Qax aa false ad af), (b165x4 ab ag m.a0 m.a1 m.a2 m.a3 ai aj al am), .arrA p 128 3 (g.map Zh), (Qax b an q j)]⟩ (Lh bx0 r) := by
 intro k
 induction k with
 | zero =>
  intro s ac ad af ag m ai aj al am g an q j y aa ab p b h
  exact zn h
 | succ k ih =>
  intro s ac ad af ag m ai aj al am g an q j y aa ab p b h
  rw [Vj] at h
  refine Q3 (T.seq (sR (Qq (mw rfl (mw rfl (sp rfl (Hj (i := 4) (xs := g) (f := Zh) rfl (dk rfl) ul171 rfl rfl (oI rfl ?_))))))))
  refine nL (tN ?_)
  rcases Qe h with ⟨au, h⟩ | ⟨au, h⟩
  refine Qp rfl au (T.skip (tN (T.seq (T.block (sR (Qq (oP G6 i4 rfl (oL 5 ul4 rfl ?_))))))))
  refine mw rfl ?_
  rcases Qe h with ⟨ap, h⟩ | ⟨ap, h⟩
  cases h
  refine sn rfl ap (OpT.move rfl (dk rfl) rfl (sn rfl ap (OpT.move rfl (dk rfl) rfl (Ji (Zy.view 93 4 rfl rfl) ?_))))
  obtain ⟨a, av, h⟩ := bind_some h
  refine sn rfl ap (J5 (xs := g) (f := Zh) (v := a) rfl (dk rfl) ul171 i128 rfl rfl av (sn rfl ap (Uj rfl (dk rfl) G6 rfl i4 (by decide) rfl (sn rfl ap (H9 rfl (dk rfl) ul4 rfl rfl rfl (oZ ap rfl (oP G6 i4 rfl (sp rfl (Jd (i := 5) (cells' := [.d (.bool a.null), .d (.sl false 1 (mI q)), .d (.sl false 1 (mI j))]) rfl rfl i4 rfl rfl rfl (nb rfl) rfl (nL (tN ?_)))))))))))
  refine T.seq (Yg (dP rfl (.f rfl) G6 i38 rfl (dL 5 rfl (.f rfl) Zu rfl (dS (c := ⟨some 102, .sl false 3 (g.map Zh), [(10, .c (.ex p))], [(4, .arrA p 128 3 (g.map Zh))], []⟩) (fun t hm => oF rfl rfl (Zm (OpT.move rfl (dk rfl) hm.s0 rfl) (L9 102 4 hm.o0) rfl)) rfl rfl (dV rfl rfl (dX g Zh rfl (.f rfl) ul171 i128 av rfl ?_))))))
  refine dQ rfl (.f rfl) G6 i38 rfl (dR rfl (.f rfl) Zu rfl ?_)
  obtain ⟨w, az, h⟩ := bind_some h
  refine dH fu67 (Zl.nil (J0 K (flx0 := false) (flx1 := false) az)) rfl (.f rfl) rfl (dP rfl (.f rfl) G6 i38 rfl (dS (c := ⟨none, .any, [(108, .ptr b (0 + 1)), (107, .sl false 1 (mI w))], [(5, (Qax b a.null q j))], [(5, (Qax b a.null w j))]⟩) (fun t hm => oF rfl rfl (Jd (i := 5) (cells' := [.d (.bool a.null), .d (.sl false 1 (mI w)), .d (.sl false 1 (mI j))]) rfl rfl i38 hm.s0 hm.s1 hm.o0 (nb rfl) rfl rfl)) rfl rfl (dF [0,1,0,0,12,28,60,127,255,511] Qz rfl (by kernel_rfl) (fun u hu => (tN (Qk hu (Yg (dP rfl (.f rfl) G6 i38 rfl (dL 5 rfl (.f rfl) Zu rfl ?_)))))))))
  refine dS (c := ⟨some 111, .sl false 3 (g.map Zh), [(10, .c (.ex p))], [(4, .arrA p 128 3 (g.map Zh))], []⟩) (fun t hm => oF rfl rfl (Zm (OpT.move rfl (dk rfl) hm.s0 rfl) (L9 111 4 hm.o0) rfl)) rfl rfl (dV rfl rfl (dX g Zh rfl (.f rfl) ul171 i128 av rfl (dQ rfl (.f rfl) G6 i38 rfl (dR rfl (.f rfl) Zu rfl ?_))))
  obtain ⟨aq, a4, h⟩ := bind_some h
  refine dH fu67 (Zl.nil (J0 K (flx0 := false) (flx1 := false) a4)) rfl (.f rfl) rfl (dP rfl (.f rfl) G6 i38 rfl (dS (c := ⟨none, .any, [(117, .ptr b (0 + 2)), (116, .sl false 1 (mI aq))], [(5, (Qax b a.null w j))], [(5, (Qax b a.null w aq))]⟩) (fun t hm => oF rfl rfl (Jd (i := 5) (cells' := [.d (.bool a.null), .d (.sl false 1 (mI w)), .d (.sl false 1 (mI aq))]) rfl rfl i38 hm.s0 hm.s1 hm.o0 (nb rfl) rfl rfl)) rfl rfl (dF [0,1,0,0,12,28,60,127,255,511] Qz rfl (by kernel_rfl) (fun u hu => (Qn (tN (Qk hu (Qq (mw rfl (oI rfl ?_))))))))))
  refine aw rfl (nL (tN ?_))
  refine Qg ?_ (ih (wI (s + (1:Int))) ac ad af ag m ai aj al am g a.null w aq y aa ab p b h)
  exact tq rfl rfl
  refine Qo rfl au (T.exit (Ql (Ql (Qr (tN (T.seq (sR (Qq (oP Ln i5 rfl (oL 3 ul5 rfl (oI rfl ?_)))))))))))
  refine nL (tN ?_)
  rcases Qe h with ⟨ay, h⟩ | ⟨ay, h⟩
  cases h
  refine Qo rfl ay (T.skip (tN (sR (Qq (oA 5 [.bool an, .sl false 1 (mI q), .sl false 1 (mI j)] G6 i128 rfl (sp rfl (Qu (i := 2) (cells' := [.d (.bool an), .d (.sl false 1 (mI q)), .d (.sl false 1 (mI j))]) rfl rfl i128 rfl rfl rfl rfl (nb rfl) rfl (nL (tN (T.ret ?_))))))))))
  exact Q2 (.cons _ _ _ _ (.cellAgg 8 128 _ 0 2 128 _ [.bool an, .sl false 1 (mI q), .sl false 1 (mI j)] _ _ 3 _ rfl rfl rfl rfl G6 rfl i128) .nil) (.cons 0 rfl (.cons 0 rfl (.nil _))) (by cases h; exact ⟨gl [y], rfl, rfl⟩)
theorem Dt {r : Qs × Qj} (K : Nat) (rec_raddleref09_builder_node : Qj → (List Q0) → Int → Int → Option (Qs × Qj)) (hrec_raddleref09_builder_node : Vy rec_raddleref09_builder_node) (bx0 : Nat) : ∀ (k : Nat), ∀ (x1 : List Q0) (x3 ad : Int) (q : List Zt) (a : Int) (b : Z2) (g : List Int) (u w : Int) (y : ByteArray) (j : List Qs) (flx1 : Bool) (m : Value) (aa ab : Nat) (af : Value), Vk K rec_raddleref09_builder_node k x1 x3 ad q a b g u w y j = some r → TL tp 128 (ca [1,1,1,1,1,1,0,1,0,0] ff66) ⟨[(0, .ptr bx0 0), (1, .sl flx1 9 (x1.map Qt)), (3, .int .i64 x3), (8, .ptr aa 0), (9, .ptr ab 0), (10, .c (.ex af)), (11, .int .i64 ad)], [(Hf bx0 m), .arrX m 65 9 0 (q.map Qy), (o128 aa false (.slice none 0 0) (.slice none 0 0)), (b165x4 ab a b.a0 b.a1 b.a2 b.a3 g u w y), .arrA af 128 3 (j.map Zh)]⟩ (Kv bx0 r) := by
 intro k
 induction k with
 | zero =>
  intro x1 x3 ad q a b g u w y j flx1 m aa ab af h
  exact zn h
 | succ k ih =>
  intro x1 x3 ad q a b g u w y j flx1 m aa ab af h
  rw [Vk] at h
  refine Q3 (T.seq (sR (Qq (mw rfl (oP Ln i38 rfl (oL 3 Zu rfl (oU g (cI .i64) Zu rfl ?_)))))))
  refine oI rfl (nL (tN ?_))
  rcases Qe h with ⟨ai, h⟩ | ⟨ai, h⟩
  refine Qp rfl ai (T.skip (tN (T.seq (T.block (Qq ?_)))))
  iterate 3 refine mw rfl ?_
  refine oP Ln i38 rfl (oL 3 Zu rfl (mw rfl ?_))
  obtain ⟨al, am, h⟩ := bind_some h
  refine oX g (cI .i64) Zu i3 am rfl (oR ul3 rfl (mw rfl ?_))
  obtain ⟨ag, an, h⟩ := bind_some h
  refine sp rfl (Q4 (is := [0, 1]) (ph := []) rfl (dk rfl) fu66 rfl rfl (Zk.cons rfl (Zk.cons rfl (Zk.cons rfl (Zk.cons rfl Zk.nil)))) (hrec_raddleref09_builder_node (Qj.mk q) x1 al x3 bx0 m flx1 _ an) (.cons rfl rfl (.cons rfl rfl (.nil))) (fun _ => rfl) (fun ap => (nm (.c (.c (.c (.c (.c (.n)))))) (sp rfl (OpT.buildSlice (elems := ([ag.1] : List Qs).map Zh) rfl (dk rfl) ul171 i128 (by decide) rfl (G9 rfl) rfl rfl rfl (Vg rfl) (by decide) ?_)))))
  obtain ⟨aq, h⟩ := Q6 h
  refine sp rfl (Zr (i := 4) (xs := j) (ys := [ag.1]) (f := Zh) rfl (dk rfl) ul171 i128 rfl rfl rfl rfl aq (fun au => (aw rfl (nL (Qn (tN (Qq (mw rfl (oI rfl (aw rfl ?_))))))))))
  refine nL (tN ?_)
  refine Qg ?_ (ih x1 x3 (wI (ad + (1:Int))) ag.2.p a b g u w y (j ++ [ag.1]) flx1 (ap 0) aa ab au h)
  exact tq rfl rfl
  refine Qo rfl ai (T.exit (Ql (Ql (Qr (tN (T.seq (sR (Qq (oP Ln i5 rfl (oL 3 ul5 rfl (oI rfl ?_)))))))))))
  refine nL (tN ?_)
  rcases Qe h with ⟨aj, h⟩ | ⟨aj, h⟩
  refine Qp rfl aj (sR (Qq (mw rfl (mw rfl ?_))))
  obtain ⟨ac, av, h⟩ := bind_some h
  refine sp rfl (Q4 (is := [0, 1]) (ph := []) rfl (dk rfl) fu106 rfl rfl (Zk.cons rfl (Zk.view (i := 4) rfl rfl Zk.nil)) (Nt K (bx0 := bx0) (wx0c0 := m) (flx1 := false) av) (.cons rfl rfl (.cons rfl rfl (.nil))) (fun _ => rfl) (fun ay => (nm (.c (.c (.c (.c (.c (.n)))))) (sp rfl (Qu (i := 2) (cells' := [.d (.bool ac.1.null), .d (.sl false 1 (mI ac.1.first)), .d (.sl false 1 (mI ac.1.last))]) rfl rfl i128 rfl rfl rfl rfl (nb rfl) rfl (nL (tN (T.ret (Qv (Q2 (.cons _ _ _ _ (.cellAgg 8 128 _ 0 2 128 _ [.bool ac.1.null, .sl false 1 (mI ac.1.first), .sl false 1 (mI ac.1.last)] _ _ 3 _ rfl rfl rfl rfl G6 rfl i128) .nil) (.cons 0 rfl (.cons 0 rfl (.nil _))) (by cases h; exact ⟨gl [ay 0], rfl, rfl⟩)))))))))))
  refine Qo rfl aj (T.skip (tN (sR (Qq (oP Ln i5 rfl (oL 3 ul5 rfl (oI rfl (sp rfl (Zm (OpT.build (l := [.bool (a == (5:Int)), .ex (.slice none 0 0), .ex (.slice none 0 0)]) rfl (dk rfl) (Zq (pl := [(0, 1), (1, 1), (2, 1)]) G6 i128 rfl) (G9 rfl) rfl rfl rfl) (Z5 83 (l := [.bool (a == (5:Int)), .ex (.slice none 0 0), .ex (.slice none 0 0)]) (l' := [.bool (a == (5:Int)), .sl false 1 (([] : List Int).map (cI .i64)), .sl false 1 (([] : List Int).map (cI .i64))]) (.cons (.same _) (.cons (.nil _ _) (.cons (.nil _ _) (.refl _))))) ?_)))))))))
  refine sp rfl (Zb rfl (dk rfl) i128 rfl (fun az => (sp rfl (Qu (i := 0) (cells' := [.d (.bool (a == (5:Int))), .d (.sl false 1 (([] : List Int).map (cI .i64))), .d (.sl false 1 (([] : List Int).map (cI .i64)))]) rfl rfl i128 rfl rfl rfl rfl (nb rfl) rfl (nL (tN (T.seq (sR (Qq (aw rfl (nL (tN ?_))))))))))))
  refine T.block (T.loop (Qg (Hs 3 (l := [.bool false, .ex (.slice none 0 0), .ex (.slice none 0 0)]) (l' := [.bool false, .sl false 1 (([] : List Int).map (cI .i64)), .sl false 1 (([] : List Int).map (cI .i64))]) rfl (.cons (.same _) (.cons (.nil _ _) (.cons (.nil _ _) (.refl _))))) ?_))
  refine Qg ?_ (Dr K rec_raddleref09_builder_node hrec_raddleref09_builder_node bx0 K (0:Int) q [] [] a b g u w y j (a == (5:Int)) [] [] m aa ab af az h)
  exact tr rfl (.c (.s .z) (.c (.s .z) (.c (.s .z) (.c (.s .z) (.c (.s .z) (.c .z (.n _)))))))
theorem El (K : Nat) (rec_raddleref09_builder_node : Qj → (List Q0) → Int → Int → Option (Qs × Qj)) (hrec_raddleref09_builder_node : Vy rec_raddleref09_builder_node) {x0 : Qj} {x1 : List Q0} {x2 x3 : Int} {bx0 : Nat} {wx0c0 : Value} {flx1 : Bool} {r : Qs × Qj} (h : Jp K rec_raddleref09_builder_node x0 x1 x2 x3 = some r) : V6 tp 66 [.ptr bx0 0, .sl flx1 9 (x1.map Qt), .int .i64 x2, .int .i64 x3] [(Hf bx0 wx0c0), .arrX wx0c0 65 9 0 (x0.p.map Qy)] (fun γ => (.agg [.bool r.1.null, .sl false 1 (mI r.1.first), .sl false 1 (mI r.1.last)])) (fun γ => [(Hf bx0 (γ 0)), .arrX (γ 0) 65 9 0 (r.2.p.map Qy)]) := by
 refine CI 128 fu66 rfl ?_
 unfold Jp at h
 refine sR (Qq (sp rfl (Zb rfl (dk rfl) i128 rfl (fun q => (nL (tN (sR (Qq (mw rfl (mw rfl ?_))))))))))
 obtain ⟨a, u, h⟩ := bind_some h
 refine oX x1 Qt Rk i165 u rfl (oJ Ln i165 rfl (sp rfl (Zb rfl (dk rfl) i165 rfl (fun w => (sp rfl (Qu (i := 0) (cells' := [.d (.int .u8 a.Op), .d (.int .u64 a.S.a0), .d (.int .u64 a.S.a1), .d (.int .u64 a.S.a2), .d (.int .u64 a.S.a3), .d (.sl false 1 (mI a.L)), .d (.int .i64 a.Lo), .d (.int .i64 a.Hi), .d (.str a.Name)]) rfl rfl i165 rfl rfl rfl rfl (nb rfl) rfl (nL (tN (T.seq (sR (Qq ?_)))))))))))
 refine oP Ln i5 rfl (oL 0 ul5 rfl (oI rfl (nL (tN ?_))))
 rcases Qe h with ⟨m, h⟩ | ⟨m, h⟩
 cases h
 refine Qo rfl m (T.skip (tN (T.seq (sR (Qq (oP Ln i5 rfl (oL 0 ul5 rfl (oI rfl ?_))))))))
 refine nL (tN ?_)
 rcases Qe h with ⟨j, h⟩ | ⟨j, h⟩
 refine Qp rfl j (sR (Qq (mw rfl (oP Ln i63 rfl (oA 0 (Z2.dc .u64 a.S) Qfl i63 rfl (mw rfl (sp rfl (Zm (OpT.build (l := [.int .u64 a.S.a0, .int .u64 a.S.a1, .int .u64 a.S.a2, .int .u64 a.S.a3, .int .i64 (1:Int), .int .i64 (1:Int), .int .i64 x3, .bool false, .ex (.slice none 0 0)]) rfl (dk rfl) (Zq (pl := [(0, 4), (4, 1), (5, 1), (6, 1), (7, 1), (8, 1)]) ul65 i65 rfl) (G9 rfl) rfl rfl rfl) (Z5 29 (l := [.int .u64 a.S.a0, .int .u64 a.S.a1, .int .u64 a.S.a2, .int .u64 a.S.a3, .int .i64 (1:Int), .int .i64 (1:Int), .int .i64 x3, .bool false, .ex (.slice none 0 0)]) (l' := [.int .u64 a.S.a0, .int .u64 a.S.a1, .int .u64 a.S.a2, .int .u64 a.S.a3, .int .i64 (1:Int), .int .i64 (1:Int), .int .i64 x3, .bool false, .sl false 1 (([] : List Int).map (cI .i64))]) (.cons (.same _) (.cons (.same _) (.cons (.same _) (.cons (.same _) (.cons (.same _) (.cons (.same _) (.cons (.same _) (.cons (.same _) (.cons (.nil _ _) (.refl _))))))))))) ?_))))))))
 obtain ⟨b, y, h⟩ := bind_some h
 refine sp rfl (Q4 (is := [2, 3]) (ph := []) rfl (dk rfl) fu105 rfl rfl (Zk.cons rfl (Zk.cons rfl Zk.nil)) (Nr K (bx0 := bx0) (wx0c0 := wx0c0) y) (.cons rfl rfl (.cons rfl rfl (.nil))) (fun _ => rfl) (fun aa => (nm (.c (.c (.c (.c (.n))))) (sp rfl (Qu (i := 1) (cells' := [.d (.bool b.1.null), .d (.sl false 1 (mI b.1.first)), .d (.sl false 1 (mI b.1.last))]) rfl rfl i128 rfl rfl rfl rfl (nb rfl) rfl (nL (tN (T.ret (Qv (Q2 (.cons _ _ _ _ (.cellAgg 8 128 _ 0 1 128 _ [.bool b.1.null, .sl false 1 (mI b.1.first), .sl false 1 (mI b.1.last)] _ _ 3 _ rfl rfl rfl rfl G6 rfl i128) .nil) (.cons 2 rfl (.cons 2 rfl (.nil _))) (by cases h; exact ⟨gl [aa 0], rfl, rfl⟩)))))))))))
 refine Qo rfl j (T.skip (tN (T.seq (sR (Qq (oP Ln i5 rfl (oL 0 ul5 rfl (oI rfl ?_))))))))
 refine mw rfl ?_
 rcases Qe h with ⟨g, h⟩ | ⟨g, h⟩
 cases h
 refine pf rfl g (pf rfl g (pf rfl g (oZ g rfl (nL (tN (Qo rfl rfl (T.skip (tN ?_))))))))
 refine sR (Qq (aw rfl (nL (tN (T.seq (sR (Qq (aw rfl (nL (tN ?_))))))))))
 refine T.block (T.loop (Qg (Xh 128 3) ?_))
 refine Qg ?_ (Dt K rec_raddleref09_builder_node hrec_raddleref09_builder_node bx0 K x1 x3 (0:Int) x0.p a.Op a.S a.L a.Lo a.Hi a.Name [] flx1 wx0c0 q w (Qdv 2) h)
 exact tr rfl (.c (.s (.s (.s .z))) (.c (.s (.s (.s .z))) (.c (.s (.s .z)) (.c (.s .z) (.c .z (.n _))))))
theorem Ek (K : Nat) : ∀ n, Vy (Vx K n) := by
 intro n
 induction n with
 | zero =>
  intro x0 x1 x2 x3 bx0 wx0c0 flx1 r h
  exact zn h
 | succ n ih =>
  intro x0 x1 x2 x3 bx0 wx0c0 flx1 r h
  exact El K (Vx K n) ih h
theorem Ix (K : Nat) {x0 : Qj} {x1 : List Q0} {x2 x3 : Int} {bx0 : Nat} {wx0c0 : Value} {flx1 : Bool} {r : Qs × Qj} (h : Mp K x0 x1 x2 x3 = some r) : V6 tp 66 [.ptr bx0 0, .sl flx1 9 (x1.map Qt), .int .i64 x2, .int .i64 x3] [(Hf bx0 wx0c0), .arrX wx0c0 65 9 0 (x0.p.map Qy)] (fun γ => (.agg [.bool r.1.null, .sl false 1 (mI r.1.first), .sl false 1 (mI r.1.last)])) (fun γ => [(Hf bx0 (γ 0)), .arrX (γ 0) 65 9 0 (r.2.p.map Qy)]) := Ek K K x0 x1 x2 x3 bx0 wx0c0 flx1 r h
abbrev Qbw (r : Bool) : ES := U6 tp ff65 (fun y t => y = (.bool r) ∧ t = [])
abbrev P3 (r : Bool) : ES := fT 37 [1,1,1] ff65 (Qbw r)
abbrev Nz (r : Bool) : ES := Qx 0 ((P3 r))
theorem Sp {r : Bool} (K : Nat) : ∀ (k : Nat), ∀ (x0 : List Q0) (c : Int) (flx0 : Bool), Wi K k x0 c = some r → TL tp 37 (ca [1,1,0,1,0,0] ff65) ⟨[(0, .sl flx0 9 (x0.map Qt)), (3, .int .i64 c)], []⟩ (Nz r) := by
 intro k
 induction k with
 | zero =>
  intro x0 c flx0 h
  exact zn h
 | succ k ih =>
  intro x0 c flx0 h
  rw [Wi] at h
  refine Q3 (T.seq (sR (Qq (mw rfl (mw rfl (oU x0 Qt Rk rfl (oI rfl ?_)))))))
  refine nL (tN ?_)
  rcases Qe h with ⟨g, h⟩ | ⟨g, h⟩
  refine Qp rfl g (T.skip (tN (T.seq (T.block (sR (Qq (mw rfl (mw rfl ?_))))))))
  obtain ⟨a, j, h⟩ := bind_some h
  refine oX x0 Qt Rk i165 j rfl (oJ Ln i165 rfl (sp rfl (Zb rfl (dk rfl) i165 rfl (fun l => (sp rfl (Qu (i := 0) (cells' := [.d (.int .u8 a.Op), .d (.int .u64 a.S.a0), .d (.int .u64 a.S.a1), .d (.int .u64 a.S.a2), .d (.int .u64 a.S.a3), .d (.sl false 1 (mI a.L)), .d (.int .i64 a.Lo), .d (.int .i64 a.Hi), .d (.str a.Name)]) rfl rfl i165 rfl rfl rfl rfl (nb rfl) rfl (nL (tN (sR (Qq (oP Ln i5 rfl (oL 0 ul5 rfl ?_))))))))))))
  refine oI rfl (mw rfl ?_)
  rcases Qe h with ⟨b, h⟩ | ⟨b, h⟩
  cases h
  refine pf rfl b (pf rfl b (pf rfl b (pf rfl b (TL'.pU (.gone _ _ _ rfl rfl rfl) (dk rfl) (TL'.pU (.gone _ _ _ rfl rfl rfl) (dk rfl) (TL'.pU (.gone _ _ _ rfl rfl rfl) (dk rfl) ?_))))))
  refine pf rfl b (oZ b rfl (mw rfl (pf rfl rfl (pf rfl rfl (pf rfl rfl (pf rfl rfl ?_))))))
  refine oZ rfl rfl (nL (tN (Qo rfl rfl (T.skip (Qn (tN (Qq (mw rfl (oI rfl ?_)))))))))
  refine aw rfl (nL (tN ?_))
  refine Qg ?_ (ih x0 (wI (c + (1:Int))) flx0 h)
  exact tq rfl rfl
  refine Qo rfl g (T.exit (Ql (Ql (Qr (tN (sR (Qq (aw rfl (nL (tN (T.ret (fd rfl (by cases h; exact ⟨rfl, rfl⟩)))))))))))))
theorem Qbx (K : Nat) {x0 : List Q0} {flx0 r : Bool} (h : Cj K x0 = some r) : Zl tp 65 [.sl flx0 9 (x0.map Qt)] [] (.bool r) := by
 refine CI 37 fu65 rfl ?_
 unfold Cj at h
 refine sR (Qq (aw rfl (nL (tN (T.seq (sR (Qq (mw rfl ?_))))))))
 obtain ⟨c, b, h⟩ := bind_some h
 refine oH fu62 (Zl.nil (Fy K (flx0 := flx0) b)) rfl (oT rfl (nL (tN ?_)))
 rcases Qe h with ⟨a, h⟩ | ⟨a, h⟩
 cases h
 refine Qo rfl a (T.skip (tN (T.seq (sR (Qq (aw rfl (nL (tN (T.block ?_)))))))))
 refine T.loop ?_
 refine Qg ?_ (Sp K K x0 (0:Int) flx0 h)
 exact tq rfl rfl
abbrev Rs (r : Zn × Int) : ES := U6 tp ff37 (fun y t => y = (.tup [.agg [.sl false 1 (mI r.1.First), .sl false 9 (r.1.P.map Qy)], .int .i64 r.2]) ∧ t = [])
abbrev P2 (r : Zn × Int) : ES := fT 86 [1,1,1,1,1,1] ff37 (Rs r)
abbrev Kw (r : Zn × Int) : ES := Qx 2 ((P2 r))
abbrev Nw (r : Zn × Int) : ES := fL 86 [1,1,1,1,1,0,1,0,0] ff37 (Kw r)
abbrev En (r : Zn × Int) : ES := fT 86 [1,1,1,1,1,0,1,0,0,1,1] ff37 (Nw r)
abbrev Bs (r : Zn × Int) : ES := Qx 3 ((En r))
abbrev Br (r : Zn × Int) : ES := fT 86 [1,1,1,1,1,0,1,0,0,1,0,0,1,1,1] ff37 (Bs r)
abbrev Lw (r : Zn × Int) : ES := Qx 4 ((Br r))
abbrev Qal (r : Zn × Int) : ES := fT 86 [1,1,1] ff37 (Rs r)
abbrev So (r : Zn × Int) : ES := Qx 0 ((Qal r))
abbrev Fx (r : Zn × Int) (go : (List (List Q0)) → Int → (List Int) → (List Zt) → (List Zt) → (List Int) → (List Zt) → Option (Zn × Int)) : Prop := ∀ (x0 : List (List Q0)) (a : Int) (b : List Int) (c f : List Zt) (g : List Int) (i : List Zt) (flx0 : Bool) (j : Nat) (l : Value) (m : Nat) (n : Value) (p : Nat) (q : Value), go x0 a b c f g i = some r → TL tp 86 (ca [1,1,1,1,1,0,1,0,0] ff37) ⟨[(0, .sl flx0 1 (x0.map (cL 9 Qt))), (2, .ptr j 0), (5, .ptr m 0), (6, .ptr p 0), (7, .int .i64 a)], [(b43x6 j b l), .arrA l 65 9 (c.map Qy), (Hf m n), .arrX n 65 9 0 (f.map Qy), (b43x6 p g q), .arrA q 65 9 (i.map Qy)]⟩ (Kw r)
theorem Qbt {r : Zn × Int} (K : Nat) (go1 : (List (List Q0)) → Int → (List Int) → (List Zt) → (List Zt) → (List Int) → (List Zt) → Option (Zn × Int)) (hgo1 : Fx r go1) : ∀ (k : Nat), ∀ (x0 : List (List Q0)) (aa ab : Int) (ac : List Int) (ad j : List Zt) (af : List Int) (ag : List Zt) (ai : Bool) (aj m : List Int) (flx0 : Bool) (q : Nat) (s : Value) (g : Nat) (b : Value) (w : Nat) (y : Value) (p : Nat), Lx K go1 k x0 aa ab ac ad j af ag ai aj m = some r → TL tp 86 (ca [1,1,1,1,1,0,1,0,0,1,0,0,1,1,0,1,0,0] ff37) ⟨[(0, .sl flx0 1 (x0.map (cL 9 Qt))), (2, .ptr q 0), (5, .ptr g 0), (6, .ptr w 0), (7, .int .i64 aa), (8, .ptr p 0), (9, .int .i64 ab)], [(b43x6 q ac s), .arrA s 65 9 (ad.map Qy), (Hf g b), .arrX b 65 9 0 (j.map Qy), (b43x6 w af y), .arrA y 65 9 (ag.map Qy), (Qax p ai aj m)]⟩ (Lw r) := by
 intro k
 induction k with
 | zero =>
  intro x0 aa ab ac ad j af ag ai aj m flx0 q s g b w y p h
  exact zn h
 | succ k ih =>
  intro x0 aa ab ac ad j af ag ai aj m flx0 q s g b w y p h
  rw [Lx] at h
  refine Q3 (T.seq (sR (Qq (mw rfl (oP G6 i38 rfl (oL 6 Zu rfl (oU m (cI .i64) Zu rfl ?_)))))))
  refine oI rfl (nL (tN ?_))
  rcases Qe h with ⟨al, h⟩ | ⟨al, h⟩
  refine Qp rfl al (T.skip (tN (T.seq (T.block (Yg (dV rfl rfl (dK rfl (.f rfl) rfl ?_)))))))
  refine dP rfl (.f rfl) ul126 i41 rfl (dL 2 rfl (.f rfl) Rl rfl (dP rfl (.f rfl) G6 i38 rfl (dL 6 rfl (.f rfl) Zu rfl (dV rfl rfl ?_))))
  obtain ⟨l, ap, h⟩ := bind_some h
  refine dX m (cI .i64) rfl (.f rfl) Zu i3 ap rfl (dR rfl (.f rfl) ul3 rfl ?_)
  obtain ⟨a, am, h⟩ := bind_some h
  refine dS (c := ⟨some 71, .el b 9 (Int.toNat l) 0, [(65, .c (.ex b)), (70, .int .i64 l)], [(3, .arrX b 65 9 0 (j.map Qy))], []⟩) (fun t hm => oF rfl rfl (Z0 (n := 3) (xs := j) (f := Qy) (old := a) rfl (dk rfl) Rl i65 hm.s0 hm.o0 hm.s1 am rfl)) rfl rfl (dS (c := ⟨some 72, .el b 9 (Int.toNat l) 7, [(71, .el b 9 (Int.toNat l) 0)], [], []⟩) (fun t hm => oF rfl rfl (Mk rfl (dk rfl) ul65 rfl i4 (by decide) hm.s0 rfl)) rfl rfl (dS (c := ⟨none, .any, [(72, .el b 9 (Int.toNat l) 7)], [(3, .arrX b 65 9 0 (j.map Qy))], [(3, .arrX b 65 9 0 ((List.set j (Int.toNat l) (Zt.mk a.S a.Lo a.Hi a.Rule true a.Next)).map Qy))]⟩) (fun t hm => oF rfl rfl (Wc (i := 3) (xs := j) (f := Qy) (old := a) (new := (Zt.mk a.S a.Lo a.Hi a.Rule true a.Next)) rfl rfl i4 hm.s0 rfl hm.o0 (Zp am).2 (Qgx _) (nb rfl) rfl rfl)) rfl rfl (dF [0,1,3,7,0,16,0,112,240,511,1023,2047] Qz rfl (by kernel_rfl) (fun u hu => (Qn (tN (Qk hu (Qq (mw rfl (oI rfl ?_))))))))))
  refine aw rfl (nL (tN ?_))
  refine Qg ?_ (ih x0 aa (wI (ab + (1:Int))) ac ad (List.set j (Int.toNat l) (Zt.mk a.S a.Lo a.Hi a.Rule true a.Next)) af ag ai aj m flx0 q s g b w y p h)
  exact tq rfl rfl
  refine Qo rfl al (T.exit (Ql (Ql (Qr (tN (sR (Qq (mw rfl (oK rfl (oP ul126 i41 rfl (oL 2 Rl rfl ?_)))))))))))
  refine sp rfl (J4 (i := 3) (xs := j) (f := Qy) rfl (dk rfl) Rl rfl rfl (oI rfl (nL (tN ?_))))
  rcases Qe h with ⟨an, h⟩ | ⟨an, h⟩
  cases h
  refine Qo rfl an (T.skip (Qn (tN (Qq (mw rfl (oI rfl (aw rfl (nL (tN ?_)))))))))
  refine Qg ?_ (hgo1 x0 (wI (aa + (1:Int))) ac ad j af ag flx0 q s g b w y h)
  exact tq rfl rfl
theorem Qbu {r : Zn × Int} (K : Nat) : ∀ (k : Nat), Fx r (W7 K k) := by
 intro k
 induction k with
 | zero =>
  intro x0 q ai aj ab y al flx0 ad af w aa ag ac h
  exact zn h
 | succ k ih =>
  intro x0 q ai aj ab y al flx0 ad af w aa ag ac h
  rw [W7] at h
  refine Q3 (T.seq (sR (Qq (mw rfl (mw rfl (oU x0 (cL 9 Qt) ul87 rfl (oI rfl ?_)))))))
  refine nL (tN ?_)
  rcases Qe h with ⟨am, h⟩ | ⟨am, h⟩
  refine Qp rfl am (T.skip (tN (T.seq (T.block (T.seq (Qk Yc (Uv ?_)))))))
  refine gM rfl (fun _ => .f rfl) (fun _ => rfl) (gM rfl (fun _ => .f rfl) (fun _ => rfl) (gM rfl (fun _ => .f rfl) (fun _ => rfl) ?_))
  obtain ⟨m, an, h⟩ := bind_some h
  refine gX x0 (cL 9 Qt) rfl (fun _ => .f rfl) ul87 i80 an (fun _ => rfl) (gR rfl (fun _ => .f rfl) Rk (fun _ => rfl) (gM rfl (fun _ => .f rfl) (fun _ => rfl) (gM rfl (fun _ => .f rfl) (fun _ => rfl) (gX x0 (cL 9 Qt) rfl (fun _ => .f rfl) ul87 i80 an (fun _ => rfl) (gR rfl (fun _ => .f rfl) Rk (fun _ => rfl) (gN m Qt rfl (fun _ => .f rfl) Rk (fun _ => rfl) ?_))))))
  refine gI rfl (fun _ => .f rfl) (fun _ => rfl) (gM rfl (fun _ => .f rfl) (fun _ => rfl) ?_)
  obtain ⟨j, aq, h⟩ := bind_some h
  refine DGG.step (c := fun a => ⟨some 48, .agg [.bool j.1.null, .sl false 1 (mI j.1.first), .sl false 1 (mI j.1.last)], [(36, .ptr w 0), (40, .sl false 9 (m.map Qt)), (46, .int .i64 (wI ((m.length : Int) - (1:Int)))), (47, .int .i64 q)], [(4, .arrX aa 65 9 0 (ab.map Qy)), (3, (Hf w aa))], [(3, (Hf w ((a 12).1 0))), (4, .arrX ((a 12).1 0) 65 9 0 (j.2.p.map Qy))]⟩) [12] (fun a γ' h => by simp only [h 12 (by decide)]) (fun a t hm => oF rfl rfl (Q4 (is := [3, 4]) (ph := []) rfl (dk rfl) fu66 rfl rfl (Zk.cons hm.s0 (Zk.cons hm.s1 (Zk.cons hm.s2 (Zk.cons hm.s3 Zk.nil)))) (Ix K (bx0 := w) (wx0c0 := aa) (flx1 := false) aq) (.cons hm.o1 rfl (.cons hm.o0 rfl (.nil))) (fun _ => rfl) (fun g => ⟨(g, 0), rfl⟩))) (fun a => Zj rfl rfl) (DGG.step (c := fun a => ⟨some 8, .ptr ((a 13).2) 0, [], [(0, .ro 0 [])], [(0, .box ((a 13).2) 128 [.d (.bool false), .d (.ex (.slice none 0 0)), .d (.ex (.slice none 0 0))])]⟩) [13] (fun a γ' h => by simp only [h 13 (by decide)]) (fun a t hm => oF rfl rfl (Rj 0 rfl (dk rfl) i128 rfl hm.o0 (fun b => ⟨(fun _ => undef, b), rfl⟩))) (fun a => Zj rfl rfl) (DGG.step (c := fun a => ⟨none, .any, [(8, .ptr ((a 13).2) 0), (48, .agg [.bool j.1.null, .sl false 1 (mI j.1.first), .sl false 1 (mI j.1.last)])], [(0, .box ((a 13).2) 128 [.d (.bool false), .d (.ex (.slice none 0 0)), .d (.ex (.slice none 0 0))])], [(0, .box ((a 13).2) 128 [.d (.bool j.1.null), .d (.sl false 1 (mI j.1.first)), .d (.sl false 1 (mI j.1.last))])]⟩) [13] (fun a γ' h => by simp only [h 13 (by decide)]) (fun a t hm => oF rfl rfl (Qu (i := 0) (cells' := [.d (.bool j.1.null), .d (.sl false 1 (mI j.1.first)), .d (.sl false 1 (mI j.1.last))]) rfl rfl i128 hm.s0 hm.s1 rfl hm.o0 (nb rfl) rfl ⟨u0, rfl⟩)) (fun a => Zj rfl rfl) (gF [0,0,0,6,14,0,0,96,224,480,992,0,4095,0,16383] Qz rfl (by kernel_rfl) (fun _ => by kernel_rfl) (fun a u hu => (tN (Qk hu (sR (Qq (oP Qfm i38 rfl (oL 5 Zu rfl ?_))))))))))
  refine oP G6 i38 rfl (oL 0 Zu rfl ?_)
  obtain ⟨ap, au, h⟩ := bind_some h
  refine oH fu67 (Zl.nil (J0 K (flx0 := false) (flx1 := false) au)) rfl (oP Qfm i38 rfl (sp rfl (Jd (i := 5) (cells' := [.d (.sl false 1 (mI ap)), .d (.ex ac)]) rfl rfl i38 rfl rfl rfl (nb rfl) rfl (nL (tN (T.seq (sR (Qq (aw rfl ?_)))))))))
  refine nL (tN (T.block (T.loop ?_)))
  refine Qg ?_ (Qbt K (W7 K k) ih K x0 q (0:Int) ai aj j.2.p ap al j.1.null j.1.first j.1.last flx0 ad af w ((a 12).1 0) ag ac ((a 13).2) h)
  exact tr rfl (.c (.s .z) (.c (.s .z) (.c (.s .z) (.c (.s .z) (.c (.s .z) (.c (.s .z) (.c .z (.n _))))))))
  refine Qo rfl am (T.exit (Ql (Ql (Qr (tN (sR (Qq (mw rfl (oK rfl (oP ul126 i41 rfl (oL 2 Rl rfl ?_)))))))))))
  refine oP Qfm i41 rfl (sp rfl (Jd (i := 4) (cells' := [.d (.sl false 1 (mI y)), .d (.ex aa)]) rfl rfl i41 rfl rfl rfl (nb rfl) rfl (nL (tN (sR (Qq (Ji (Gn 3 rfl) (sp rfl (Zm (Pj (i := 4) (l := [.sl false 1 (mI y), .ex aa]) rfl (dk rfl) Qfm rfl i43 rfl rfl rfl rfl rfl) (Z5 85 (l := [.sl false 1 (mI y), .ex aa]) (l' := [.sl false 1 (mI y), .sl false 9 (ab.map Qy)]) (.cons (.same _) (.cons (.view 3 rfl) (.refl _)))) (sp rfl (Qu (i := 0) (cells' := [.d (.sl false 1 (mI y)), .d (.sl false 9 (ab.map Qy))]) rfl rfl i43 rfl rfl rfl rfl (nb rfl) rfl (aw rfl ?_))))))))))))
  refine nL (tN (T.ret (Fin.done (.cons _ _ _ _ (.cellAgg 2 43 _ 0 0 43 _ [.sl false 1 (mI y), .sl false 9 (ab.map Qy)] _ _ 2 _ rfl rfl rfl rfl Qfm rfl i43) (.cons _ _ _ _ (.tmp 3 _ rfl) .nil)) (by cases h; exact ⟨rfl, rfl⟩))))
theorem Qbv {r : Zn × Int} (K : Nat) : ∀ (k : Nat), ∀ (x0 : List (List Q0)) (b : Int) (flx0 : Bool) (a : Nat), Ly K k x0 b = some r → TL tp 86 (ca [1,1,0,1,0,0] ff37) ⟨[(0, .sl flx0 1 (x0.map (cL 9 Qt))), (2, .ptr a 0), (4, .int .i64 b)], [.box a 43 [.d (.ex (.slice none 0 0)), .d (.ex (.slice none 0 0))]]⟩ (So r) := by
 intro k
 induction k with
 | zero =>
  intro x0 b flx0 a h
  exact zn h
 | succ k ih =>
  intro x0 b flx0 a h
  rw [Ly] at h
  refine Q3 (T.seq (sR (Qq (mw rfl (mw rfl (oU x0 (cL 9 Qt) ul87 rfl (oI rfl ?_)))))))
  refine nL (tN ?_)
  rcases Qe h with ⟨g, h⟩ | ⟨g, h⟩
  refine Qp rfl g (T.skip (tN (T.seq (T.block (sR (Qq (mw rfl (mw rfl ?_))))))))
  obtain ⟨m, p, h⟩ := bind_some h
  refine oX x0 (cL 9 Qt) ul87 i80 p rfl (oR Rk rfl ?_)
  obtain ⟨y, q, h⟩ := bind_some h
  refine oH fu65 (Zl.nil (Qbx K (flx0 := false) q)) rfl (oT rfl (nL (tN ?_)))
  rcases Qe h with ⟨j, h⟩ | ⟨j, h⟩
  cases h
  refine Qo rfl j (T.skip (Qn (tN (Qq (mw rfl (oI rfl (aw rfl (nL (tN ?_)))))))))
  refine Qg ?_ (ih x0 (wI (b + (1:Int))) flx0 a h)
  exact tq rfl rfl
  refine Qo rfl g (T.exit (Ql (Ql (Qr (tN (sR (Qq (sp rfl (OpT.build (l := [.ex (.slice none 0 0)]) rfl (dk rfl) (Zq (pl := [(0, 1)]) ul126 i126 rfl) (G9 rfl) rfl rfl (sp rfl (Zc rfl (dk rfl) rfl (fun u => (aw rfl (nL (tN (sR (Qq ?_)))))))))))))))))
  refine sp rfl (Zm (OpT.build (l := [.ex (.slice none 0 0), .ex (.slice none 0 0)]) rfl (dk rfl) (Zq (pl := [(0, 1), (1, 1)]) Qfm i43 rfl) (G9 rfl) rfl rfl rfl) (Z5 29 (l := [.ex (.slice none 0 0), .ex (.slice none 0 0)]) (l' := [.sl false 1 (([] : List Int).map (cI .i64)), .ex (.slice none 0 0)]) (.cons (.nil _ _) (.cons (.same _) (.refl _)))) (sp rfl (Zb rfl (dk rfl) i43 rfl (fun w => (sp rfl (Qu (i := 0) (cells' := [.d (.sl false 1 (([] : List Int).map (cI .i64))), .d (.ex (.slice none 0 0))]) rfl rfl i43 rfl rfl rfl rfl (nb rfl) rfl (nL (tN (T.seq (sR (Qq (aw rfl ?_))))))))))))
  refine nL (tN (T.block (T.loop (Qg (Xh 65 9) (Qg (Hs 3 (l := [.ex (.slice none 0 0), .ex (Qdv 16)]) (l' := [.sl false 1 (([] : List Int).map (cI .i64)), .ex (Qdv 16)]) rfl (.cons (.nil _ _) (.cons (.same _) (.refl _)))) (Qg (Qga 65 9) (Qg (Xh 65 9) ?_)))))))
  refine Qg ?_ (Qbu K K x0 (0:Int) [] [] [] [] [] flx0 a (Qdv 16) u (Qdv 17) w (Qdv 18) h)
  exact tr rfl (.c (.s (.s (.s (.s (.s .z))))) (.c (.s (.s .z)) (.c (.s (.s (.s .z))) (.c (.s .z) (.c (.s .z) (.c .z (.n _)))))))
theorem Qe4 (K : Nat) {x0 : List (List Q0)} {flx0 : Bool} {r : Zn × Int} (h : Nx K x0 = some r) : Zl tp 37 [.sl flx0 1 (x0.map (cL 9 Qt))] [] (.tup [.agg [.sl false 1 (mI r.1.First), .sl false 9 (r.1.P.map Qy)], .int .i64 r.2]) := by
 refine CI 86 fu37 rfl ?_
 unfold Nx at h
 refine sR (Qq (sp rfl (Zb rfl (dk rfl) i43 rfl (fun b => (aw rfl (nL (tN (T.seq (sR (Qq (mw rfl ?_)))))))))))
 refine oU x0 (cL 9 Qt) ul87 rfl (oI rfl (nL (tN ?_)))
 rcases Qe h with ⟨a, h⟩ | ⟨a, h⟩
 cases h
 refine Qo rfl a (T.skip (tN (T.seq (sR (Qq (aw rfl (nL (tN (T.block ?_)))))))))
 refine T.loop ?_
 refine Qg ?_ (Qbv K K x0 (0:Int) flx0 b h)
 exact tq rfl rfl
abbrev Qbq (r : Bool) : ES := U6 tp ff77 (fun y t => y = (.bool r) ∧ t = [])
abbrev Sl (r : Bool) : ES := fT 41 [1,1] ff77 (Qbq r)
abbrev O2 (r : Bool) : ES := Qx 0 ((Sl r))
theorem Sm {r : Bool} (K : Nat) : ∀ (k : Nat), ∀ (x0 : List Int) (x1 a : Int) (flx0 : Bool), Uu K k x0 x1 a = some r → TL tp 41 (ca [1,0,1,0,0] ff77) ⟨[(0, .sl flx0 1 (mI x0)), (1, .int .i64 x1), (5, .int .i64 a)], []⟩ (O2 r) := by
 intro k
 induction k with
 | zero =>
  intro x0 x1 a flx0 h
  exact zn h
 | succ k ih =>
  intro x0 x1 a flx0 h
  rw [Uu] at h
  refine Q3 (T.seq (sR (Qq (mw rfl (mw rfl (oU x0 (cI .i64) Zu rfl (oI rfl ?_)))))))
  refine nL (tN ?_)
  rcases Qe h with ⟨l, h⟩ | ⟨l, h⟩
  refine Qp rfl l (T.skip (tN (T.seq (T.block (T.seq (Yg (dV rfl rfl ?_)))))))
  refine dV rfl rfl ?_
  obtain ⟨b, m, h⟩ := bind_some h
  refine dX x0 (cI .i64) rfl (.f rfl) Zu i3 m rfl (dR rfl (.f rfl) ul3 rfl (dI rfl (.f rfl) rfl (dV rfl rfl ?_)))
  rcases Qe h with ⟨i, h⟩ | ⟨i, h⟩
  cases h
  refine dM rfl (.n i rfl) rfl (dM rfl (.n i rfl) rfl (dX x0 (cI .i64) rfl (.n i rfl) Zu i3 m rfl (dR rfl (.n i rfl) ul3 rfl (dM rfl (.n i rfl) rfl (dI rfl (.n i rfl) rfl (dZ rfl (.f rfl) i rfl ?_))))))
  refine dV rfl rfl ?_
  rcases Qe h with ⟨j, h⟩ | ⟨j, h⟩
  cases h
  refine dM rfl (.n j rfl) rfl (dI rfl (.n j rfl) rfl (dM rfl (.n j rfl) rfl ?_))
  rcases Qe h with ⟨d, h⟩ | ⟨d, h⟩
  refine dM rfl (.n d rfl) rfl (dM rfl (.n d rfl) rfl (dI rfl (.n d rfl) rfl ?_))
  obtain ⟨g, q, h⟩ := bind_some h
  refine dX x0 (cI .i64) rfl (.n d rfl) Zu i3 q rfl (dR rfl (.n d rfl) ul3 rfl (dM rfl (.n d rfl) rfl (dM rfl (.n d rfl) rfl (dX x0 (cI .i64) rfl (.n d rfl) Zu i3 m rfl (dR rfl (.n d rfl) ul3 rfl (dI rfl (.n d rfl) rfl ?_))))))
  refine dY rfl (.n j rfl) d rfl (dZ rfl (.f rfl) j rfl (dF [0,0,3,7,15,31,63,63,255,511,63,2047,4095,8191,16383,32767,65535,131071,131071,393215,1048575,2097151,131071,131071,12713983,29491199,67108863,134217727,268435455] Qz rfl (by kernel_rfl) (fun u hu => (tN (Qk hu ?_)))))
  rcases Qe h with ⟨p, h⟩ | ⟨p, h⟩
  cases h
  refine Qo rfl p (T.skip (Qn (tN (Qq (mw rfl (oI rfl (aw rfl (nL (tN ?_)))))))))
  refine Qg ?_ (ih x0 x1 (wI (a + (1:Int))) flx0 h)
  exact tq rfl rfl
  refine dO d rfl rfl (dO d rfl rfl (dO d rfl rfl (dO d rfl rfl (dO d rfl rfl (dO d rfl rfl (dO d rfl rfl ?_))))))
  refine dO d rfl rfl (dO d rfl rfl (dO d rfl rfl (dZ rfl (.n j rfl) d rfl (dZ rfl (.f rfl) j rfl (dF [0,0,3,7,15,31,63,63,255,511,63,2047,4095,8191,16383,32767,65535,131071,131071,393215,1048575,2097151,131071,131071,12713983,29491199,67108863,134217727,268435455] Qz rfl (by kernel_rfl) (fun u hu => (tN (Qk hu (Qo rfl rfl ?_)))))))))
  refine T.skip (Qn (tN (Qq (mw rfl (oI rfl (aw rfl (nL (tN ?_))))))))
  refine Qg ?_ (ih x0 x1 (wI (a + (1:Int))) flx0 h)
  exact tq rfl rfl
  refine Qo rfl l (T.exit (Ql (Ql (Qr (tN (sR (Qq (aw rfl (nL (tN (T.ret (fd rfl (by cases h; exact ⟨rfl, rfl⟩)))))))))))))
theorem Fv (K : Nat) {x0 : List Int} {x1 : Int} {flx0 r : Bool} (h : Lu K x0 x1 = some r) : Zl tp 77 [.sl flx0 1 (mI x0), .int .i64 x1] [] (.bool r) := by
 refine CI 41 fu77 rfl ?_
 unfold Lu at h
 refine sR (Qq (aw rfl (nL (tN (T.seq (sR (Qq (aw rfl (nL (tN ?_))))))))))
 refine T.block (T.loop ?_)
 refine Qg ?_ (Sm K K x0 x1 (0:Int) flx0 h)
 exact tq rfl rfl
abbrev Qbr (r : Bool) : ES := U6 tp ff44 (fun y t => y = (.bool r) ∧ t = [])
abbrev P1 (r : Bool) : ES := fT 70 [1,1,1] ff44 (Qbr r)
abbrev Nv (r : Bool) : ES := Qx 0 ((P1 r))
theorem Sn {r : Bool} (K : Nat) : ∀ (k : Nat), ∀ (j : Int) (x0 : Zn) (m : Nat), Wh K k j x0 = some r → TL tp 70 (ca [1,1,0,1,0,0] ff44) ⟨[(1, .ptr m 0), (3, .int .i64 j)], [.box m 43 [.d (.sl false 1 (mI x0.First)), .d (.sl false 9 (x0.P.map Qy))]]⟩ (Nv r) := by
 intro k
 induction k with
 | zero =>
  intro j x0 m h
  exact zn h
 | succ k ih =>
  intro j x0 m h
  rw [Wh] at h
  refine Q3 (T.seq (sR (Qq (mw rfl (oP Qfm i41 rfl (oL 0 Rl rfl (oU x0.P Qy Rl rfl ?_)))))))
  refine oI rfl (nL (tN ?_))
  rcases Qe h with ⟨y, h⟩ | ⟨y, h⟩
  refine Qp rfl y (T.skip (tN (T.seq (T.block (sR (Qq (oP Qfm i41 rfl (oL 0 Rl rfl ?_))))))))
  refine mw rfl ?_
  obtain ⟨a, ab, h⟩ := bind_some h
  refine oX x0.P Qy Rl i65 ab rfl (oJ ul65 i65 rfl (sp rfl (Zb rfl (dk rfl) i65 rfl (fun ad => (sp rfl (Qu (i := 0) (cells' := [.d (.int .u64 a.S.a0), .d (.int .u64 a.S.a1), .d (.int .u64 a.S.a2), .d (.int .u64 a.S.a3), .d (.int .i64 a.Lo), .d (.int .i64 a.Hi), .d (.int .i64 a.Rule), .d (.bool a.Last), .d (.sl false 1 (mI a.Next))]) rfl rfl i65 rfl rfl rfl rfl (nb rfl) rfl (nL (tN (sR (Qq (oP ul65 i63 rfl (oA 0 (Z2.dc .u64 a.S) Qfl i63 rfl ?_))))))))))))
  refine sp rfl (OpT.build (l := (Z2.dc .u64 (Z2.mk 0 0 0 0))) rfl (dk rfl) (T3 Qfl i63 i61) (G9 rfl) rfl rfl (sp rfl (OpT.intsEql (k := .u64) (xs := [a.S.a0, a.S.a1, a.S.a2, a.S.a3]) (ys := [(Z2.mk 0 0 0 0).a0, (Z2.mk 0 0 0 0).a1, (Z2.mk 0 0 0 0).a2, (Z2.mk 0 0 0 0).a3]) rfl (dk rfl) Qfl ul61 i61 Tryz.eqGuardType63 rfl rfl rfl rfl rfl rfl (Qet a.S (Z2.mk 0 0 0 0)) (mw rfl ?_))))
  rcases Qe h with ⟨p, h⟩ | ⟨p, h⟩
  cases h
  refine sn rfl p (Xi rfl (dk rfl) ul65 rfl i3 (by decide) rfl (sn rfl p (Zw (i := 0) rfl (dk rfl) ul3 rfl rfl rfl rfl (sn rfl p (Zi rfl rfl (dk rfl) rfl rfl (oZ p rfl (mw rfl ?_)))))))
  rcases Qe h with ⟨g, h⟩ | ⟨g, h⟩
  cases h
  refine sn rfl g (Xi rfl (dk rfl) ul65 rfl i3 (by decide) rfl (sn rfl g (Zw (i := 0) rfl (dk rfl) ul3 rfl rfl rfl rfl (sn rfl g (Xi rfl (dk rfl) ul65 rfl i3 (by decide) rfl (sn rfl g (Zw (i := 0) rfl (dk rfl) ul3 rfl rfl rfl rfl (sn rfl g (Zi rfl rfl (dk rfl) rfl rfl (oZ g rfl (mw rfl ?_)))))))))))
  rcases Qe h with ⟨q, h⟩ | ⟨q, h⟩
  cases h
  refine sn rfl q (Xi rfl (dk rfl) ul65 rfl i3 (by decide) rfl (sn rfl q (Zw (i := 0) rfl (dk rfl) ul3 rfl rfl rfl rfl (sn rfl q (Zi rfl rfl (dk rfl) rfl rfl (oZ q rfl (mw rfl ?_)))))))
  rcases Qe h with ⟨u, h⟩ | ⟨u, h⟩
  cases h
  refine sn rfl u (Xi rfl (dk rfl) ul65 rfl i3 (by decide) rfl (sn rfl u (Zw (i := 0) rfl (dk rfl) ul3 rfl rfl rfl rfl (sn rfl u (Zi rfl rfl (dk rfl) rfl rfl (oZ u rfl (mw rfl ?_)))))))
  rcases Qe h with ⟨w, h⟩ | ⟨w, h⟩
  cases h
  refine sn rfl w (Xi rfl (dk rfl) ul65 rfl i3 (by decide) rfl (sn rfl w (Zw (i := 0) rfl (dk rfl) ul3 rfl rfl rfl rfl (sn rfl w (Zi rfl rfl (dk rfl) rfl rfl (oZ w rfl (mw rfl ?_)))))))
  rcases Qe h with ⟨b, h⟩ | ⟨b, h⟩
  cases h
  refine sn rfl b (Xi rfl (dk rfl) ul65 rfl i38 (by decide) rfl (sn rfl b (Zw (i := 0) rfl (dk rfl) Zu rfl rfl rfl rfl (sn rfl b (Xi rfl (dk rfl) Qfm rfl i41 (by decide) rfl (sn rfl b (Zw (i := 1) rfl (dk rfl) Rl rfl rfl rfl rfl (sn rfl b (Z9 (xs := x0.P) (f := Qy) rfl (dk rfl) Rl rfl ?_)))))))))
  obtain ⟨af, ac, h⟩ := bind_some h
  refine sn rfl b (Ub rfl (dk rfl) fu77 rfl rfl (Zk.cons rfl (Zk.cons rfl Zk.nil)) (Zl.nil (Fv K (flx0 := false) ac)) (sn rfl b (OpT.not rfl (dk rfl) rfl (oZ b rfl (nL (tN ?_))))))
  rcases Qe h with ⟨aa, h⟩ | ⟨aa, h⟩
  cases h
  refine Qo rfl aa (T.skip (Qn (tN (Qq (mw rfl (oI rfl (aw rfl (nL (tN ?_)))))))))
  refine Qg ?_ (ih (wI (j + (1:Int))) x0 m h)
  exact tr rfl (.c (.s .z) (.n _))
  refine Qo rfl y (T.exit (Ql (Ql (Qr (tN (sR (Qq (aw rfl (nL (tN (T.ret (fd rfl (by cases h; exact ⟨rfl, rfl⟩)))))))))))))
theorem Qbs (K : Nat) {x0 : Zn} {r : Bool} (h : Ci K x0 = some r) : Zl tp 44 [.agg [.sl false 1 (mI x0.First), .sl false 9 (x0.P.map Qy)]] [] (.bool r) := by
 refine CI 70 fu44 rfl ?_
 unfold Ci at h
 refine sR (Qq (sp rfl (Zc rfl (dk rfl) rfl (fun d => (aw rfl (nL (tN (T.seq (sR (Qq (oP Qfm i41 rfl ?_)))))))))))
 refine oL 0 Rl rfl (oU x0.P Qy Rl rfl (oI rfl (mw rfl ?_)))
 rcases Qe h with ⟨a, h⟩ | ⟨a, h⟩
 cases h
 refine sn rfl a (Xi rfl (dk rfl) Qfm rfl i38 (by decide) rfl (sn rfl a (Zw (i := 0) rfl (dk rfl) Zu rfl rfl rfl rfl (sn rfl a (Xi rfl (dk rfl) Qfm rfl i41 (by decide) rfl (sn rfl a (Zw (i := 0) rfl (dk rfl) Rl rfl rfl rfl rfl (sn rfl a (Z9 (xs := x0.P) (f := Qy) rfl (dk rfl) Rl rfl ?_)))))))))
 obtain ⟨j, g, h⟩ := bind_some h
 refine sn rfl a (Ub rfl (dk rfl) fu77 rfl rfl (Zk.cons rfl (Zk.cons rfl Zk.nil)) (Zl.nil (Fv K (flx0 := false) g)) (sn rfl a (OpT.not rfl (dk rfl) rfl (oZ a rfl (nL (tN ?_))))))
 rcases Qe h with ⟨b, h⟩ | ⟨b, h⟩
 cases h
 refine Qo rfl b (T.skip (tN (T.seq (sR (Qq (aw rfl (nL (tN (T.block ?_)))))))))
 refine T.loop ?_
 refine Qg ?_ (Sn K K (0:Int) x0 d h)
 exact tq rfl rfl
abbrev Qb4 (r : Bool) : ES := U6 tp ff78 (fun y t => y = (.bool r) ∧ t = [])
abbrev Sw (r : Bool) : ES := fT 27 [1,1] ff78 (Qb4 r)
abbrev O8 (r : Bool) : ES := Qx 0 ((Sw r))
theorem Sx {r : Bool} (K : Nat) : ∀ (k : Nat), ∀ (x0 : List Z2) (x1 x2 b : Int) (flx0 : Bool), Wn K k x0 x1 x2 b = some r → TL tp 27 (ca [1,0,1,0,0] ff78) ⟨[(0, .sl flx0 4 (x0.map (Z2.dc .u64))), (1, .int .u8 x1), (2, .int .u8 x2), (7, .int .i64 b)], []⟩ (O8 r) := by
 intro k
 induction k with
 | zero =>
  intro x0 x1 x2 b flx0 h
  exact zn h
 | succ k ih =>
  intro x0 x1 x2 b flx0 h
  rw [Wn] at h
  refine Q3 (T.seq (sR (Qq (mw rfl (mw rfl (oU x0 (Z2.dc .u64) ul99 rfl (oI rfl ?_)))))))
  refine nL (tN ?_)
  rcases Qe h with ⟨i, h⟩ | ⟨i, h⟩
  refine Qp rfl i (T.skip (tN (T.seq (T.block (T.seq (Yg (dV rfl rfl ?_)))))))
  refine dV rfl rfl ?_
  obtain ⟨a, l, h⟩ := bind_some h
  refine dX x0 (Z2.dc .u64) rfl (.f rfl) ul99 i63 l rfl (dJ rfl (.f rfl) Qfl i63 rfl (dV rfl rfl ?_))
  obtain ⟨d, m, h⟩ := bind_some h
  refine dH fu81 (Zl.nil (Hb K m)) rfl (.f rfl) rfl (dV rfl rfl (dV rfl rfl (dX x0 (Z2.dc .u64) rfl (.f rfl) ul99 i63 l rfl (dJ rfl (.f rfl) Qfl i63 rfl (dV rfl rfl ?_)))))
  obtain ⟨g, p, h⟩ := bind_some h
  refine dH fu81 (Zl.nil (Hb K p)) rfl (.f rfl) rfl (dS (c := ⟨some 26, .bool (!(d == g)), [(19, .bool d), (25, .bool g)], [], []⟩) (fun t hm => oF rfl rfl (OpT.bool_neq rfl (dk rfl) ul4 hm.s0 hm.s1 rfl)) rfl rfl (dF [0,0,3,7,0,31,0,0,192,448,0,2047,4095] Qz rfl (by kernel_rfl) (fun u hu => (tN (Qk hu ?_)))))
  rcases Qe h with ⟨j, h⟩ | ⟨j, h⟩
  refine Qp rfl j (sR (Qq (aw rfl (nL (tN (T.ret (Q1 (Qv (Qv (Q1 (Qv (fd rfl (by cases h; exact ⟨rfl, rfl⟩)))))))))))))
  refine Qo rfl j (T.skip (Qn (tN (Qq (mw rfl (oI rfl (aw rfl (nL (tN ?_)))))))))
  refine Qg ?_ (ih x0 x1 x2 (wI (b + (1:Int))) flx0 h)
  exact tq rfl rfl
  refine Qo rfl i (T.exit (Ql (Ql (Qr (tN (sR (Qq (aw rfl (nL (tN (T.ret (fd rfl (by cases h; exact ⟨rfl, rfl⟩)))))))))))))
theorem Qb5 (K : Nat) {x0 : List Z2} {x1 x2 : Int} {flx0 r : Bool} (h : Co K x0 x1 x2 = some r) : Zl tp 78 [.sl flx0 4 (x0.map (Z2.dc .u64)), .int .u8 x1, .int .u8 x2] [] (.bool r) := by
 refine CI 27 fu78 rfl ?_
 unfold Co at h
 refine sR (Qq (aw rfl (nL (tN (T.seq (sR (Qq (aw rfl (nL (tN ?_))))))))))
 refine T.block (T.loop ?_)
 refine Qg ?_ (Sx K K x0 x1 x2 (0:Int) flx0 h)
 exact tq rfl rfl
abbrev Qe7 (r : Q5) : ES := U6 tp ff45 (fun y t => y = (.agg ((Zg.dc 256 .u8 r.Of) ++ (([.int .i64 r.Many] : List DC)))) ∧ t = [])
abbrev Tx (r : Q5) : ES := fT 47 [1,1,1,1] ff45 (Qe7 r)
abbrev Ba (r : Q5) : ES := Qx 0 ((Tx r))
abbrev P7 (r : Q5) : ES := fL 47 [1,1,1,0,1,0,0] ff45 (Ba r)
abbrev I3 (r : Q5) : ES := fT 47 [1,1,1,0,1,0,0,1,1] ff45 (P7 r)
abbrev Hr (r : Q5) : ES := Qx 1 ((I3 r))
abbrev D1 (r : Q5) : ES := fT 47 [1,1,1,0,1,0,0,1,0,0,1,1] ff45 (Hr r)
abbrev Mh (r : Q5) : ES := Qx 2 ((D1 r))
abbrev Mi (r : Q5) (go : (List Z2) → Int → Zg → Zg → (List Int) → Option Q5) : Prop := ∀ (x0 : List Z2) (a : Int) (b f : Zg) (g : List Int) (flx0 : Bool) (i j : Nat) (l : Value), go x0 a b f g = some r → TL tp 47 (ca [1,1,1,0,1,0,0] ff45) ⟨[(0, .sl flx0 4 (x0.map (Z2.dc .u64))), (2, .ptr i 0), (3, .ptr j 0), (4, .c (.ex l)), (5, .int .i64 a)], [(b24x7 i b (0:Int)), (b24x7 j f (0:Int)), .arrA l 5 1 (mU g)]⟩ (Ba r)
theorem H2 {r : Q5} (K : Nat) (go0 : (List Z2) → Int → Zg → Zg → (List Int) → Option Q5) (hgo0 : Mi r go0) (x0 : List Z2) (g j : Int) (l b : Zg) (m : List Int) (flx0 : Bool) (p q : Nat) (s : Value) (h : U5 K go0 x0 g j l b m = some r) : T tp 47 (ca [1,1,1,0,1,0,0,1,0,0,1,1,1] ff45) ⟨[(0, .sl flx0 4 (x0.map (Z2.dc .u64))), (2, .ptr p 0), (3, .ptr q 0), (4, .c (.ex s)), (5, .int .i64 g), (6, .int .i64 j)], [(b24x7 p l (0:Int)), (b24x7 q b (0:Int)), .arrA s 5 1 (mU m)]⟩ (Hr r) := by
 unfold U5 at h
 refine Qq (mw rfl (mw rfl (sp rfl (Xj rfl (dk rfl) ul3 ul5 rfl (oP ul24 i22 rfl ?_)))))
 obtain ⟨f, h⟩ := Q6 h
 refine sp rfl (Z1 rfl (dk rfl) ul22 i5 rfl rfl f.1 f.2 (sp rfl (Jd (i := 1) (cells' := ((Zg.oc 256 .u8 (Zg.set b g (IntKind.u8.wrap j))) ++ (([.d (.int .i64 (0:Int))]:List OC)))) rfl rfl i5 rfl rfl rfl (Zg.oc_lt (n := 256) (k := .u8) (a := b) (pre := []) (post := [.d (.int .i64 (0:Int))]) f.1 f.2) (Zg.oc_set (n := 256) (k := .u8) (a := b) (pre := []) (post := [.d (.int .i64 (0:Int))]) f.1 f.2) (nL (Qn (tN (Qq (mw rfl (oI rfl (aw rfl ?_))))))))))
 refine nL (tN ?_)
 refine Qg ?_ (hgo0 x0 (wI (g + (1:Int))) l (Zg.set b g (IntKind.u8.wrap j)) m flx0 p q s h)
 exact tq rfl rfl
theorem Qb8 {r : Q5} (K : Nat) (go0 : (List Z2) → Int → Zg → Zg → (List Int) → Option Q5) (hgo0 : Mi r go0) : ∀ (k : Nat), ∀ (x0 : List Z2) (b j : Int) (l m : Zg) (g : List Int) (flx0 : Bool) (p q : Nat) (s : Value), L7 K go0 k x0 b j l m g = some r → TL tp 47 (ca [1,1,1,0,1,0,0,1,0,0,1,0,0,0] ff45) ⟨[(0, .sl flx0 4 (x0.map (Z2.dc .u64))), (2, .ptr p 0), (3, .ptr q 0), (4, .c (.ex s)), (5, .int .i64 b), (6, .int .i64 j)], [(b24x7 p l (0:Int)), (b24x7 q m (0:Int)), .arrA s 5 1 (mU g)]⟩ (Mh r) := by
 intro k
 induction k with
 | zero =>
  intro x0 b j l m g flx0 p q s h
  exact zn h
 | succ k ih =>
  intro x0 b j l m g flx0 p q s h
  rw [L7] at h
  refine Q3 (T.seq (sR (Qq (mw rfl (mw rfl (sp rfl (Hj (i := 2) (xs := g) (f := (cI .u8)) rfl (dk rfl) B6 rfl rfl (oI rfl ?_))))))))
  refine mw rfl ?_
  rcases Qe h with ⟨a, h⟩ | ⟨a, h⟩
  refine sn rfl a (OpT.move rfl (dk rfl) rfl (sn rfl a (OpT.move rfl (dk rfl) rfl (sn rfl a (OpT.move rfl (dk rfl) rfl (Ji (Zy.view 18 2 rfl rfl) ?_))))))
  obtain ⟨aa, ab, h⟩ := bind_some h
  refine sn rfl a (J5 (xs := g) (f := (cI .u8)) (v := aa) rfl (dk rfl) B6 i5 rfl rfl ab (sn rfl a (H9 rfl (dk rfl) ul5 rfl rfl rfl (sn rfl a (OpT.move rfl (dk rfl) rfl (sn rfl a (Xj rfl (dk rfl) ul3 ul5 rfl ?_)))))))
  obtain ⟨aj, ac, h⟩ := bind_some h
  refine sn rfl a (Ub rfl (dk rfl) fu78 rfl rfl (Zk.cons rfl (Zk.cons rfl (Zk.cons rfl Zk.nil))) (Zl.nil (Qb5 K (flx0 := flx0) ac)) (sn rfl a (OpT.not rfl (dk rfl) rfl (oY a rfl (nL (tN ?_))))))
  rcases Qe h with ⟨u, h⟩ | ⟨u, h⟩
  refine Qp rfl u (T.skip (tN (T.block (Qq (mw rfl (oI rfl (aw rfl ?_)))))))
  refine nL (Qn (tN ?_))
  refine Qg ?_ (ih x0 b (wI (j + (1:Int))) l m g flx0 p q s h)
  exact tq rfl rfl
  refine Qo rfl u (T.exit (Ql (Ql (Qr (tN (T.seq (sR (Qq (mw rfl (mw rfl (sp rfl (Hj (i := 2) (xs := g) (f := (cI .u8)) rfl (dk rfl) B6 rfl rfl ?_))))))))))))
  refine oI rfl (nL (tN ?_))
  rcases Qe h with ⟨w, h⟩ | ⟨w, h⟩
  refine Qp rfl w (Qq (mw rfl (mw rfl (sp rfl (Xj rfl (dk rfl) ul3 ul5 rfl (sp rfl (OpT.buildSlice (elems := ([(IntKind.u8.wrap b)] : List Int).map (cI .u8)) rfl (dk rfl) B6 i5 (by decide) rfl (G9 rfl) rfl rfl rfl (Vg rfl) (by decide) ?_)))))))
  obtain ⟨ad, h⟩ := Q6 h
  refine sp rfl (Zr (i := 2) (xs := g) (ys := [(IntKind.u8.wrap b)]) (f := (cI .u8)) rfl (dk rfl) B6 i5 rfl rfl rfl rfl ad (fun af => (aw rfl (nL (tN ?_)))))
  refine Qk ?_ (H2 K go0 hgo0 x0 b j l m (g ++ [(IntKind.u8.wrap b)]) flx0 p q af h)
  exact tq rfl rfl
  refine Qo rfl w (T.skip (tN ?_))
  refine Qk ?_ (H2 K go0 hgo0 x0 b j l m g flx0 p q s h)
  exact tq rfl rfl
  refine pf rfl a (pf rfl a (pf rfl a (pf rfl a (pf rfl a (pf rfl a (pf rfl a ?_))))))
  refine pf rfl a (pf rfl a (oZ a rfl (nL (tN (Qo rfl rfl (T.exit (Ql (Ql (Qr (tN (T.seq ?_)))))))))))
  refine sR (Qq (mw rfl (mw rfl (sp rfl (Hj (i := 2) (xs := g) (f := (cI .u8)) rfl (dk rfl) B6 rfl rfl (oI rfl (nL (tN ?_))))))))
  rcases Qe h with ⟨y, h⟩ | ⟨y, h⟩
  refine Qp rfl y (Qq (mw rfl (mw rfl (sp rfl (Xj rfl (dk rfl) ul3 ul5 rfl (sp rfl (OpT.buildSlice (elems := ([(IntKind.u8.wrap b)] : List Int).map (cI .u8)) rfl (dk rfl) B6 i5 (by decide) rfl (G9 rfl) rfl rfl rfl (Vg rfl) (by decide) ?_)))))))
  obtain ⟨ag, h⟩ := Q6 h
  refine sp rfl (Zr (i := 2) (xs := g) (ys := [(IntKind.u8.wrap b)]) (f := (cI .u8)) rfl (dk rfl) B6 i5 rfl rfl rfl rfl ag (fun ai => (aw rfl (nL (tN ?_)))))
  refine Qk ?_ (H2 K go0 hgo0 x0 b j l m (g ++ [(IntKind.u8.wrap b)]) flx0 p q ai h)
  exact tq rfl rfl
  refine Qo rfl y (T.skip (tN ?_))
  refine Qk ?_ (H2 K go0 hgo0 x0 b j l m g flx0 p q s h)
  exact tq rfl rfl
theorem Qb9 {r : Q5} (K : Nat) : ∀ (k : Nat), Mi r (Ha K k) := by
 intro k
 induction k with
 | zero =>
  intro x0 j m b a flx0 p q s h
  exact zn h
 | succ k ih =>
  intro x0 j m b a flx0 p q s h
  rw [Ha] at h
  refine Q3 (T.seq (sR (Qq (mw rfl (oI rfl (nL (tN ?_)))))))
  rcases Qe h with ⟨g, h⟩ | ⟨g, h⟩
  refine Qp rfl g (T.skip (tN (T.seq (T.block (sR (Qq (aw rfl (nL (tN ?_)))))))))
  refine T.seq (T.block (T.loop ?_))
  refine Qg ?_ (Qb8 K (Ha K k) ih K x0 j (0:Int) m b a flx0 p q s h)
  exact tq rfl rfl
  refine Qo rfl g (T.exit (Ql (Ql (Qr (tN (sR (Qq (mw rfl (sp rfl (Hj (i := 2) (xs := a) (f := (cI .u8)) rfl (dk rfl) B6 rfl rfl (oP ul24 i3 rfl (sp rfl (Jd (i := 1) (cells' := ((Zg.oc 256 .u8 b) ++ (([.d (.int .i64 (a.length : Int))]:List OC)))) rfl rfl i3 rfl rfl rfl (nb rfl) rfl ?_)))))))))))))
  refine nL (tN (sR (Qq (oA 1 ((Zg.dc 256 .u8 b) ++ (([.int .i64 (a.length : Int)] : List DC))) ul24 i24 rfl (sp rfl (Qu (i := 0) (cells' := ((Zg.oc 256 .u8 b) ++ (([.d (.int .i64 (a.length : Int))]:List OC)))) rfl rfl i24 rfl rfl rfl rfl (nb rfl) rfl (nL (tN (T.ret (Fin.done (.cons _ _ _ _ (.cellAgg 2 24 _ 0 0 24 _ ((Zg.dc 256 .u8 b) ++ (([.int .i64 (a.length : Int)] : List DC))) _ _ 257 _ rfl rfl rfl rfl ul24 rfl i24) .nil) (by cases h; exact ⟨rfl, rfl⟩)))))))))))
theorem Qe8 (K : Nat) {x0 : List Z2} {flx0 : Bool} {r : Q5} (h : N7 K x0 = some r) : Zl tp 45 [.sl flx0 4 (x0.map (Z2.dc .u64))] [] (.agg ((Zg.dc 256 .u8 r.Of) ++ (([.int .i64 r.Many] : List DC)))) := by
 refine CI 47 fu45 rfl ?_
 unfold N7 at h
 refine sR (Qq (sp rfl (Zb rfl (dk rfl) i24 rfl (fun a => (nL (tN (sR (Qq (sp rfl (OpT.build (l := ((Zg.dc 256 .u8 (Zg.mk fun _ => 0)) ++ (([.int .i64 (0:Int)] : List DC)))) rfl (dk rfl) (Zq (pl := [(0, 256), (256, 1)]) ul24 i24 rfl) (G9 rfl) rfl rfl (sp rfl (Zb rfl (dk rfl) i24 rfl (fun b => (sp rfl (Qu (i := 0) (cells' := ((Zg.oc 256 .u8 (Zg.mk fun _ => 0)) ++ (([.d (.int .i64 (0:Int))]:List OC)))) rfl rfl i24 rfl rfl rfl rfl (nb rfl) rfl (nL (tN (sR (Qq ?_)))))))))))))))))))
 refine aw rfl (nL (tN (T.seq (sR (Qq (aw rfl (nL (tN (T.block ?_)))))))))
 refine T.loop (Qg (Xh 5 1) ?_)
 refine Qg ?_ (Qb9 K K x0 (0:Int) (Zg.mk fun _ => 0) (Zg.mk fun _ => 0) [] flx0 a b (Qdv 2) h)
 exact tr rfl (.c (.s (.s .z)) (.c (.s .z) (.c .z (.n _))))
abbrev Ft (r : Int) : ES := U6 tp ff46 (fun y t => y = (.int .i64 r) ∧ t = [])
abbrev Sj (r : Int) : ES := fT 19 [1,1] ff46 (Ft r)
abbrev O1 (r : Int) : ES := fT 19 [1,1,1,1] ff46 (Ft r)
abbrev Iw (r : Int) : ES := Qx 0 ((O1 r))
theorem B4 {r : Int} (K : Nat) (h : Ut K = some r) : T tp 19 (ca [1,0,1,0] ff46) ⟨[], []⟩ (Sj r) := by
 unfold Ut at h
 refine sR (Qq (aw rfl (nL (tN (T.ret (Qv (fd rfl (by cases h; exact ⟨rfl, rfl⟩))))))))
theorem Sk {r : Int} (K : Nat) : ∀ (k : Nat), ∀ (x0 a b : Int), Us K k x0 a b = some r → TL tp 19 (ca [1,1,1,0,1,0,0] ff46) ⟨[(0, .int .i64 x0), (3, .int .i64 a), (4, .int .i64 b)], []⟩ (Iw r) := by
 intro k
 induction k with
 | zero =>
  intro x0 a b h
  exact zn h
 | succ k ih =>
  intro x0 a b h
  rw [Us] at h
  refine Q3 (T.seq (sR (Qq (mw rfl (mw rfl (oI rfl (nL (tN ?_))))))))
  rcases Qe h with ⟨c, h⟩ | ⟨c, h⟩
  refine Qp rfl c (T.skip (tN (T.seq (T.block (Qq (mw rfl (oI rfl ?_)))))))
  refine aw rfl (nL (Qn (tN (Qq (mw rfl (oI rfl (aw rfl (nL (tN ?_)))))))))
  refine Qg ?_ (ih x0 (wI (a * (3:Int))) (wI (b + (1:Int))) h)
  exact tq rfl rfl
  refine Qo rfl c (T.exit (Ql (Ql (Qr (tN (sR (Qq (mw rfl (aw rfl (nL (tN (T.ret ?_))))))))))))
  exact fd rfl (by cases h; exact ⟨rfl, rfl⟩)
theorem Fu (K : Nat) {x0 r : Int} (h : Ua K x0 = some r) : Zl tp 46 [.int .i64 x0] [] (.int .i64 r) := by
 refine CI 19 fu46 rfl ?_
 unfold Ua at h
 refine sR (Qq (aw rfl (nL (tN (T.seq (sR (Qq (mw rfl (oI rfl ?_)))))))))
 refine mw rfl ?_
 rcases Qe h with ⟨a, h⟩ | ⟨a, h⟩
 refine pf rfl a (pf rfl a (oY a rfl (nL (tN (Qp rfl rfl ?_)))))
 refine Qk ?_ (B4 K h)
 exact tq rfl rfl
 refine sn rfl a (OpT.move rfl (dk rfl) rfl (sn rfl a (Zi rfl rfl (dk rfl) rfl rfl (oZ a rfl (nL (tN ?_))))))
 rcases Qe h with ⟨b, h⟩ | ⟨b, h⟩
 refine Qp rfl b ?_
 refine Qk ?_ (B4 K h)
 exact tq rfl rfl
 refine Qo rfl b (T.skip (tN (sR (Qq (aw rfl (nL (tN (T.seq (sR (Qq ?_))))))))))
 refine aw rfl (nL (tN (T.block (T.loop ?_))))
 refine Qg ?_ (Sk K K x0 (1:Int) (0:Int) h)
 exact tq rfl rfl
abbrev Fo (bx0 : Nat) (x0 : Qh) (r : Int) : ES := U6 tp ff113 (fun y t => ∃ γ : Nat → Value, y = (.int .i64 r) ∧ t = [(Gk bx0 x0.g.First x0.g.P (γ 0) x0.a.Split.Of x0.a.Split.Many (γ 1) (γ 2) x0.e), .arrA (γ 0) 3 1 (mI x0.number), .arrA (γ 1) 59 2 (mA x0.a.Counts), .arrX (γ 2) 51 4 0 (x0.a.States.map Qd)])
abbrev C3 (bx0 : Nat) (x0 : Qh) (r : Int) : ES := fT 34 [1,1] ff113 (Fo bx0 x0 r)
abbrev Bp (bx0 : Nat) (x0 : Qh) (r : Int) : ES := Qx 0 ((C3 bx0 x0 r))
theorem C4 {r : Int} (K bx0 : Nat) (x0 : Qh) : ∀ (k : Nat), ∀ (x2 x3 : Int) (x0 : Qh) (x1 : Qa) (b c w0_0aa : Value) (j : Nat), Ux K k x2 x3 x0 x1 = some r → TL tp 34 (ca [1,0,1,0,0] ff113) ⟨[(0, .ptr bx0 0), (2, .int .i64 x2), (3, .int .i64 x3), (5, .ptr j 0), (9, .int .i64 (0:Int))], [(Gk bx0 x0.g.First x0.g.P b x0.a.Split.Of x0.a.Split.Many c w0_0aa x0.e), .arrA b 3 1 (mI x0.number), .arrA c 59 2 (mA x0.a.Counts), .arrX w0_0aa 51 4 0 (x0.a.States.map Qd), (K3 j x1.L x1.R x1.Rule x1.Next)]⟩ (Bp bx0 x0 r) := by
 intro k
 induction k with
 | zero =>
  intro x2 x3 x0 x1 b c w0_0aa j h
  exact zn h
 | succ k ih =>
  intro x2 x3 x0 x1 b c w0_0aa j h
  rw [Ux] at h
  refine Q3 (T.seq (sR (Qq (mw rfl (oP Ju i38 rfl (oL 4 Zu rfl (oU x1.R (cI .i64) Zu rfl ?_)))))))
  refine oI rfl (nL (tN ?_))
  rcases Qe h with ⟨l, h⟩ | ⟨l, h⟩
  cases h
  refine Qo rfl l (T.exit (Ql (Ql (Qr (tN (sR (Qq (aw rfl (nL (tN (T.ret (Q2 (.cons _ _ _ _ (.tmp 8 _ rfl) .nil) (.cons 0 rfl (.cons 0 rfl (.cons 0 rfl (.cons 0 rfl (.nil _))))) (by cases h; exact ⟨gl [b, c, w0_0aa], rfl, rfl⟩)))))))))))))
theorem Lf (K : Nat) {x0 : Qh} {x1 : Qa} {x2 x3 : Int} {bx0 : Nat} {wx0c1 wx0c2c1 wx0c2c2 : Value} {r : Int} (h : Ud K x0 x1 x2 x3 = some r) : V6 tp 113 [.ptr bx0 0, .agg [.sl false 1 (mI x1.L), .sl false 1 (mI x1.R), .sl false 1 (mI x1.Rule), .sl false 1 (x1.Next.map (cL 2 Qi))], .int .i64 x2, .int .i64 x3] [(Gk bx0 x0.g.First x0.g.P wx0c1 x0.a.Split.Of x0.a.Split.Many wx0c2c1 wx0c2c2 x0.e), .arrA wx0c1 3 1 (mI x0.number), .arrA wx0c2c1 59 2 (mA x0.a.Counts), .arrX wx0c2c2 51 4 0 (x0.a.States.map Qd)] (fun γ => (.int .i64 r)) (fun γ => [(Gk bx0 x0.g.First x0.g.P (γ 0) x0.a.Split.Of x0.a.Split.Many (γ 1) (γ 2) x0.e), .arrA (γ 0) 3 1 (mI x0.number), .arrA (γ 1) 59 2 (mA x0.a.Counts), .arrX (γ 2) 51 4 0 (x0.a.States.map Qd)]) := by
 refine CI 34 fu113 rfl ?_
 unfold Ud at h
 refine sR (Qq (sp rfl (Zc rfl (dk rfl) rfl (fun b => (aw rfl (nL (tN (T.seq (sR (Qq (aw rfl ?_)))))))))))
 refine nL (tN (T.block (T.loop ?_)))
 refine Qg ?_ (C4 K bx0 x0 K x2 x3 x0 x1 wx0c1 wx0c2c1 wx0c2c2 b h)
 exact tr rfl (.c (.s .z) (.c (.s .z) (.c (.s .z) (.c (.s .z) (.c .z (.n _))))))
abbrev raddleref11_builder_ripe_q (bx0 : Nat) (x0 : Qh) (r : Bool) : ES := U6 tp ff79 (fun y t => ∃ γ : Nat → Value, y = (.bool r) ∧ t = [(Gk bx0 x0.g.First x0.g.P (γ 0) x0.a.Split.Of x0.a.Split.Many (γ 1) (γ 2) x0.e), .arrA (γ 0) 3 1 (mI x0.number), .arrA (γ 1) 59 2 (mA x0.a.Counts), .arrX (γ 2) 51 4 0 (x0.a.States.map Qd)])
theorem Kc (K : Nat) {x0 : Qh} {x1 : Qa} {x2 x3 : Int} {bx0 : Nat} {wx0c1 wx0c2c1 wx0c2c2 : Value} {r : Bool} (h : Uo K x0 x1 x2 x3 = some r) : V6 tp 79 [.ptr bx0 0, .agg [.sl false 1 (mI x1.L), .sl false 1 (mI x1.R), .sl false 1 (mI x1.Rule), .sl false 1 (x1.Next.map (cL 2 Qi))], .int .i64 x2, .int .i64 x3] [(Gk bx0 x0.g.First x0.g.P wx0c1 x0.a.Split.Of x0.a.Split.Many wx0c2c1 wx0c2c2 x0.e), .arrA wx0c1 3 1 (mI x0.number), .arrA wx0c2c1 59 2 (mA x0.a.Counts), .arrX wx0c2c2 51 4 0 (x0.a.States.map Qd)] (fun γ => (.bool r)) (fun γ => [(Gk bx0 x0.g.First x0.g.P (γ 0) x0.a.Split.Of x0.a.Split.Many (γ 1) (γ 2) x0.e), .arrA (γ 0) 3 1 (mI x0.number), .arrA (γ 1) 59 2 (mA x0.a.Counts), .arrX (γ 2) 51 4 0 (x0.a.States.map Qd)]) := by
 refine CI 15 fu79 rfl ?_
 unfold Uo at h
 refine sR (Qq (sp rfl (Zc rfl (dk rfl) rfl (fun j => (aw rfl (nL (tN (sR (Qq (mw rfl (oA 0 [.sl false 1 (mI x1.L), .sl false 1 (mI x1.R), .sl false 1 (mI x1.Rule), .sl false 1 (x1.Next.map (cL 2 Qi))] Ju i51 rfl (mw rfl ?_))))))))))))
 refine mw rfl ?_
 obtain ⟨m, f, h⟩ := bind_some h
 refine sp rfl (Q4 (is := [1, 2, 3, 4]) (ph := []) rfl (dk rfl) fu113 rfl rfl (Zk.cons rfl (Zk.cons rfl (Zk.cons rfl (Zk.cons rfl Zk.nil)))) (Lf K (bx0 := bx0) (wx0c1 := wx0c1) (wx0c2c1 := wx0c2c1) (wx0c2c2 := wx0c2c2) f) (.cons rfl rfl (.cons rfl rfl (.cons rfl rfl (.cons rfl rfl (.nil))))) (fun _ => rfl) (fun b => (nm (.c (.c (.c (.c (.c (.n)))))) (oI rfl (aw rfl (nL (tN (T.ret (Q2 (.cons _ _ _ _ (.tmp 8 _ rfl) .nil) (.cons 1 rfl (.cons 1 rfl (.cons 1 rfl (.cons 1 rfl (.nil _))))) (by cases h; exact ⟨gl [b 0, b 1, b 2], rfl, rfl⟩))))))))))
end Go.Rv

/- Each function computes what its plain text says: printed by a program of ours. -/
import Derived.Test.YtcmfaclkgdmpbaaGreatDoorRgW1
namespace Go.Rv
open Go.Proofs
set_option maxRecDepth 100000
set_option maxHeartbeats 4000000
set_option linter.unusedVariables false
abbrev Qb4 (r : List Int) : ES := Jz tp ff67 (fun y t => y = (.sl false 1 (mI r)) ∧ t = [])
abbrev Om (r : List Int) : ES := fT 75 [1,1,1,1,1] ff67 (Qb4 r)
abbrev L6 (r : List Int) : ES := Qz 0 ((Om r))
abbrev Nk (r : List Int) : ES := fL 75 [1,1,1,1,0,0,0] ff67 (L6 r)
abbrev Fc (r : List Int) : ES := fT 75 [1,1,1,1,0,0,0,1] ff67 (Nk r)
abbrev Cs (r : List Int) (go : (List Int) → (List Int) → Int → Int → (List Int) → Option (List Int)) : Prop := ∀ (x0 x1 : List Int) (a b : Int) (d : List Int) (flx0 flx1 : Bool) (f : Value), go x0 x1 a b d = some r → TL tp 75 (ca [1,1,1,1,0,0,0] ff67) ⟨[(0, .sl flx0 1 (mI x0)), (1, .sl flx1 1 (mI x1)), (5, .c (.ex f)), (6, .int .i64 a), (7, .int .i64 b)], [.arrA f 3 1 (mI d)]⟩ (L6 r)
theorem Cu {r : List Int} (K : Nat) (go0 : (List Int) → (List Int) → Int → Int → (List Int) → Option (List Int)) (hgo0 : Cs r go0) (x0 x1 : List Int) (a d : Int) (m : List Int) (flx0 flx1 : Bool) (p : Value) (h : Ht K go0 x0 x1 a d m = some r) : T tp 75 (ca [1,1,1,1,0,0,0,0,1,0] ff67) ⟨[(0, .sl flx0 1 (mI x0)), (1, .sl flx1 1 (mI x1)), (5, .c (.ex p)), (6, .int .i64 a), (7, .int .i64 d)], [.arrA p 3 1 (mI m)]⟩ (Fc r) := by
 unfold Ht at h
 refine T.skip (tN (T.block (T.seq (Xk (dV rfl rfl (dV rfl rfl (dN x1 (cI .i64) rfl (.f rfl) Z5 rfl ?_)))))))
 refine dI rfl (.f rfl) rfl (dV rfl rfl ?_)
 rcases Qh h with ⟨l, h⟩ | ⟨l, h⟩
 cases h
 refine dM rfl (.n l rfl) rfl (dM rfl (.n l rfl) rfl (dN x0 (cI .i64) rfl (.n l rfl) Z5 rfl (dI rfl (.n l rfl) rfl (dM rfl (.n l rfl) rfl ?_))))
 rcases Qh h with ⟨b, h⟩ | ⟨b, h⟩
 refine dM rfl (.n b rfl) rfl (dM rfl (.n b rfl) rfl ?_)
 obtain ⟨g, s, h⟩ := bind_some h
 refine dX x0 (cI .i64) rfl (.n b rfl) Z5 i3 s rfl (dR rfl (.n b rfl) ul3 rfl (dM rfl (.n b rfl) rfl (dM rfl (.n b rfl) rfl ?_)))
 obtain ⟨j, y, h⟩ := bind_some h
 refine dX x1 (cI .i64) rfl (.n b rfl) Z5 i3 y rfl (dR rfl (.n b rfl) ul3 rfl (dI rfl (.n b rfl) rfl (dY rfl (.n l rfl) b rfl (dZ rfl (.f rfl) l rfl (dF [0,0,2,7,15,31,31,95,255,511,1023,1023,4095,8191,1023,1023,50175,115711,262143,524287,1048575] Q3 rfl (by kernel_rfl) (fun u hu => (tN (Qm hu ?_))))))))
 rcases Qh h with ⟨w, h⟩ | ⟨w, h⟩
 refine Qt rfl w (sR (Qq ?_))
 iterate 3 refine mw rfl ?_
 refine oX x0 (cI .i64) Z5 i3 s rfl (oR ul3 rfl (sp rfl (OpT.buildSlice (elems := ([g] : List Int).map (cI .i64)) rfl (dk rfl) Z5 i3 (by decide) rfl (Hb rfl) rfl rfl rfl (Xh rfl) (by decide) ?_)))
 obtain ⟨aa, h⟩ := Q9 h
 refine sp rfl (Zj (i := 0) (xs := m) (ys := [g]) (f := (cI .i64)) rfl (dk rfl) Z5 i3 rfl rfl rfl rfl aa (fun ab => (aw rfl (nL (tN (Qq (mw rfl (oI rfl (aw rfl ?_)))))))))
 refine nL (Qj (tN ?_))
 refine Qg ?_ (hgo0 x0 x1 (wI (a + (1:Int))) d (m ++ [g]) flx0 flx1 ab h)
 exact tq rfl rfl
 cases h
 refine dO b rfl rfl (dO b rfl rfl (dO b rfl rfl (dO b rfl rfl (dO b rfl rfl (dO b rfl rfl (dO b rfl rfl ?_))))))
 refine dO b rfl rfl (dO b rfl rfl (dZ rfl (.n l rfl) b rfl (dZ rfl (.f rfl) l rfl (dF [0,0,2,7,15,31,31,95,255,511,1023,1023,4095,8191,1023,1023,50175,115711,262143,524287,1048575] Q3 rfl (by kernel_rfl) (fun u hu => (tN (Qm hu (Qo rfl rfl (T.seq ?_)))))))))
 refine T.seq (Xk (dV rfl rfl (dV rfl rfl (dN x0 (cI .i64) rfl (.f rfl) Z5 rfl (dI rfl (.f rfl) rfl (dV rfl rfl ?_))))))
 refine dO b rfl rfl (dO b rfl rfl (dO b rfl rfl (dO b rfl rfl (dO b rfl rfl (dO b rfl rfl (dO b rfl rfl ?_))))))
 refine dO b rfl rfl (dO b rfl rfl (dZ rfl (.f rfl) b rfl (dF [0,0,2,7,15,31,31,127,255,31,31,1567,3615,8191,16383] Q3 rfl (by kernel_rfl) (fun u hu => (tN (Qm hu (Qo rfl rfl (T.skip (tN (sR (Qq ?_)))))))))))
 iterate 3 refine mw rfl ?_
 obtain ⟨q, ac, h⟩ := bind_some h
 refine oX x1 (cI .i64) Z5 i3 ac rfl (oR ul3 rfl (sp rfl (OpT.buildSlice (elems := ([q] : List Int).map (cI .i64)) rfl (dk rfl) Z5 i3 (by decide) rfl (Hb rfl) rfl rfl rfl (Xh rfl) (by decide) ?_)))
 obtain ⟨ad, h⟩ := Q9 h
 refine sp rfl (Zj (i := 0) (xs := m) (ys := [q]) (f := (cI .i64)) rfl (dk rfl) Z5 i3 rfl rfl rfl rfl ad (fun af => (aw rfl (nL (tN (Qq (mw rfl (oI rfl (aw rfl ?_)))))))))
 refine nL (Qj (tN ?_))
 refine Qg ?_ (hgo0 x0 x1 a (wI (d + (1:Int))) (m ++ [q]) flx0 flx1 af h)
 exact tq rfl rfl
theorem Sz {r : List Int} (K : Nat) : ∀ (k : Nat), Cs r (Vh K k) := by
 intro k
 induction k with
 | zero =>
  intro x0 x1 b d g flx0 flx1 i h
  exact zn h
 | succ k ih =>
  intro x0 x1 b d g flx0 flx1 i h
  rw [Vh] at h
  refine Za (T.seq (sR (Qq (mw rfl (mw rfl (oU x0 (cI .i64) Z5 rfl (oI rfl ?_)))))))
  refine mw rfl ?_
  rcases Qh h with ⟨a, h⟩ | ⟨a, h⟩
  refine pf rfl a (pf rfl a (pf rfl a (pf rfl a (oY a rfl (nL (tN (Qt rfl rfl ?_)))))))
  refine Qm ?_ (Cu K (Vh K k) ih x0 x1 b d g flx0 flx1 i h)
  exact tq rfl rfl
  refine sn rfl a (OpT.move rfl (dk rfl) rfl (sn rfl a (OpT.move rfl (dk rfl) rfl (sn rfl a (Vm (xs := x1) (f := (cI .i64)) rfl (dk rfl) Z5 rfl (sn rfl a (Z9 rfl rfl (dk rfl) rfl rfl (oZ a rfl (nL (tN ?_))))))))))
  rcases Qh h with ⟨j, h⟩ | ⟨j, h⟩
  refine Qt rfl j ?_
  refine Qm ?_ (Cu K (Vh K k) ih x0 x1 b d g flx0 flx1 i h)
  exact tq rfl rfl
  refine Qo rfl j (T.exit (Qk (Qk (Qu (tN (sR (Qq (mw rfl (aw rfl (nL (tN (T.ret ?_))))))))))))
  refine Xj (Zx.view 4 0 rfl rfl) (fd rfl (by cases h; exact ⟨rfl, rfl⟩))
theorem J5 (K : Nat) {x0 x1 : List Int} {flx0 flx1 : Bool} {r : List Int} (h : Uz K x0 x1 = some r) : Z1 tp 67 [.sl flx0 1 (mI x0), .sl flx1 1 (mI x1)] [] (.sl false 1 (mI r)) := by
 refine CI 75 fu67 rfl ?_
 unfold Uz at h
 refine sR (Qq (aw rfl (nL (tN (sR (Qq (aw rfl (nL (tN (sR (Qq (aw rfl (nL (tN (sR (Qq ?_))))))))))))))))
 refine aw rfl (nL (tN (T.seq (T.block (T.loop (Qg (Y2 3 1) ?_))))))
 refine Qg ?_ (Sz K K x0 x1 (0:Int) (0:Int) [] flx0 flx1 (Tp 2) h)
 exact tq rfl rfl
abbrev Ih (bx0 : Nat) (r : Qi) : ES := Jz tp ff107 (fun y t => ∃ γ : Nat → Value, y = (.tup []) ∧ t = [(W9 bx0 (γ 0)), .arrX (γ 0) 65 9 0 (r.p.map Qx)])
abbrev Di (bx0 : Nat) (r : Qi) : ES := Qz 0 ((Ih bx0 r))
theorem Dj {r : Qi} (K bx0 : Nat) : ∀ (k : Nat), ∀ (x1 x2 : List Int) (l : Int) (j : List Q5) (flx1 flx2 : Bool) (a : Value), Vr K k x1 x2 l j = some r → TL tp 36 (ca [1,0,0] ff107) ⟨[(0, .ptr bx0 0), (1, .sl flx1 1 (mI x1)), (2, .sl flx2 1 (mI x2)), (6, .int .i64 l)], [(W9 bx0 a), .arrX a 65 9 0 (j.map Qx)]⟩ (Di bx0 r) := by
 intro k
 induction k with
 | zero =>
  intro x1 x2 l j flx1 flx2 a h
  exact zn h
 | succ k ih =>
  intro x1 x2 l j flx1 flx2 a h
  rw [Vr] at h
  refine Za (T.seq (sR (Qq (mw rfl (mw rfl (oU x1 (cI .i64) Z5 rfl (oI rfl ?_)))))))
  refine nL (tN ?_)
  rcases Qh h with ⟨q, h⟩ | ⟨q, h⟩
  refine Qt rfl q (T.skip (tN (T.seq (T.block (Xk (dV rfl rfl (dK rfl (.f rfl) rfl ?_)))))))
  refine dP rfl (.f rfl) ul126 i41 rfl (dL 0 rfl (.f rfl) F1 rfl (dV rfl rfl (dV rfl rfl ?_)))
  obtain ⟨g, s, h⟩ := bind_some h
  refine dX x1 (cI .i64) rfl (.f rfl) Z5 i3 s rfl (dR rfl (.f rfl) ul3 rfl (dV rfl rfl (dK rfl (.f rfl) rfl (dP rfl (.f rfl) ul126 i41 rfl (dL 0 rfl (.f rfl) F1 rfl (dV rfl rfl ?_))))))
  refine dV rfl rfl (dX x1 (cI .i64) rfl (.f rfl) Z5 i3 s rfl (dR rfl (.f rfl) ul3 rfl ?_))
  obtain ⟨b, p, h⟩ := bind_some h
  refine dS (c := ⟨some 29, .el a 9 (Int.toNat g) 0, [(24, .c (.ex a)), (28, .int .i64 g)], [(1, .arrX a 65 9 0 (j.map Qx))], []⟩) (fun t hm => oF rfl rfl (Z8 (n := 1) (xs := j) (f := Qx) (old := b) rfl (dk rfl) F1 i65 hm.s0 hm.o0 hm.s1 p rfl)) rfl rfl (dS (c := ⟨some 30, .el a 9 (Int.toNat g) 8, [(29, .el a 9 (Int.toNat g) 0)], [], []⟩) (fun t hm => oF rfl rfl (K8 rfl (dk rfl) Qbv rfl i38 (by decide) hm.s0 rfl)) rfl rfl (dS (c := ⟨some 31, .sl false 1 (mI b.Next), [(30, .el a 9 (Int.toNat g) 8)], [(1, .arrX a 65 9 0 (j.map Qx))], []⟩) (fun t hm => oF rfl rfl (J1 (i := 1) (xs := j) (f := Qx) (old := b) rfl (dk rfl) Z5 rfl hm.s0 hm.o0 (Zv p).2 rfl rfl)) rfl rfl (dV rfl rfl ?_)))
  obtain ⟨m, w, h⟩ := bind_some h
  refine dH fu67 (Z1.nil (J5 K (flx0 := false) (flx1 := flx2) w)) rfl (.f rfl) rfl (dS (c := ⟨some 34, .el a 9 (Int.toNat g) 0, [(16, .c (.ex a)), (20, .int .i64 g)], [(1, .arrX a 65 9 0 (j.map Qx))], []⟩) (fun t hm => oF rfl rfl (Z8 (n := 1) (xs := j) (f := Qx) (old := b) rfl (dk rfl) F1 i65 hm.s0 hm.o0 hm.s1 p rfl)) rfl rfl (dS (c := ⟨some 35, .el a 9 (Int.toNat g) 8, [(34, .el a 9 (Int.toNat g) 0)], [], []⟩) (fun t hm => oF rfl rfl (K8 rfl (dk rfl) Qbv rfl i38 (by decide) hm.s0 rfl)) rfl rfl (dS (c := ⟨none, .any, [(35, .el a 9 (Int.toNat g) 8), (33, .sl false 1 (mI m))], [(1, .arrX a 65 9 0 (j.map Qx))], [(1, .arrX a 65 9 0 ((List.set j (Int.toNat g) (Q5.mk b.S b.Lo b.Hi b.Rule b.Last m)).map Qx))]⟩) (fun t hm => oF rfl rfl (Wf (i := 1) (xs := j) (f := Qx) (old := b) (new := (Q5.mk b.S b.Lo b.Hi b.Rule b.Last m)) rfl rfl i38 hm.s0 hm.s1 hm.o0 (Zv p).2 (Qf7 _) (nb rfl) rfl rfl)) rfl rfl (dF [0,1,3,7,0,0,48,112,0,256,768,1792,0,0,12288,28672,65280,130816,261888,0,1048320,2097151,4194303,8388607] Q3 rfl (by kernel_rfl) (fun u hu => (Qj (tN (Qm hu (Qq (mw rfl ?_))))))))))
  refine oI rfl (aw rfl (nL (tN ?_)))
  refine Qg ?_ (ih x1 x2 (wI (l + (1:Int))) (List.set j (Int.toNat g) (Q5.mk b.S b.Lo b.Hi b.Rule b.Last m)) flx1 flx2 a h)
  exact tq rfl rfl
  refine Qo rfl q (T.exit (Qk (Qk (Qu (Q1 (.nil) (.cons 0 rfl (.cons 0 rfl (.nil _))) (by cases h; exact ⟨gl [a], rfl, rfl⟩))))))
theorem Ii (K : Nat) {x0 : Qi} {x1 x2 : List Int} {bx0 : Nat} {wx0c0 : Value} {flx1 flx2 : Bool} {r : Qi} (h : W2 K x0 x1 x2 = some r) : Ud tp 107 [.ptr bx0 0, .sl flx1 1 (mI x1), .sl flx2 1 (mI x2)] [(W9 bx0 wx0c0), .arrX wx0c0 65 9 0 (x0.p.map Qx)] (fun γ => (.tup [])) (fun γ => [(W9 bx0 (γ 0)), .arrX (γ 0) 65 9 0 (r.p.map Qx)]) := by
 refine CI 36 fu107 rfl ?_
 unfold W2 at h
 refine sR (Qq (aw rfl (nL (tN (T.block (T.loop ?_))))))
 refine Qg ?_ (Dj K bx0 K x1 x2 (0:Int) x0.p flx1 flx2 wx0c0 h)
 exact tq rfl rfl
abbrev Ni (bx0 : Nat) (r : Qr × Qi) : ES := Jz tp ff106 (fun y t => ∃ γ : Nat → Value, y = (.agg [.bool r.1.null, .sl false 1 (mI r.1.first), .sl false 1 (mI r.1.last)]) ∧ t = [(W9 bx0 (γ 0)), .arrX (γ 0) 65 9 0 (r.2.p.map Qx)])
abbrev Dk (bx0 : Nat) (r : Qr × Qi) : ES := fT 52 [1,1,1] ff106 (Ni bx0 r)
abbrev W3 (bx0 : Nat) (r : Qr × Qi) : ES := Qz 0 ((Dk bx0 r))
abbrev B5 (bx0 : Nat) (r : Qr × Qi) : ES := fL 52 [1,1,0,1,0,0] ff106 (W3 bx0 r)
abbrev Mp (bx0 : Nat) (r : Qr × Qi) : ES := fT 52 [1,1,0,1,0,0,1,1] ff106 (B5 bx0 r)
abbrev Lp (bx0 : Nat) (r : Qr × Qi) : ES := Qz 1 ((Mp bx0 r))
abbrev Gw (bx0 : Nat) (r : Qr × Qi) (go : (List Qr) → Int → (List Q5) → Bool → (List Int) → (List Int) → Option (Qr × Qi)) : Prop := ∀ (x1 : List Qr) (a : Int) (b : List Q5) (c : Bool) (f g : List Int) (flx1 : Bool) (i : Value) (j l : Nat), go x1 a b c f g = some r → TL tp 52 (ca [1,1,0,1,0,0] ff106) ⟨[(0, .ptr bx0 0), (1, .sl flx1 3 (x1.map Zq)), (4, .ptr j 0), (5, .ptr l 0), (6, .int .i64 a)], [(W9 bx0 i), .arrX i 65 9 0 (b.map Qx), (o128 j false (.slice none 0 0) (.slice none 0 0)), (Qab l c f g)]⟩ (W3 bx0 r)
theorem Gx {r : Qr × Qi} (K bx0 : Nat) (go0 : (List Qr) → Int → (List Q5) → Bool → (List Int) → (List Int) → Option (Qr × Qi)) (hgo0 : Gw bx0 r go0) (x1 : List Qr) (g : Int) (j : List Q5) (s : Bool) (a u : List Int) (l : Bool) (v b : List Int) (flx1 : Bool) (m : Value) (p q w : Nat) (h : V6 K go0 x1 g j s a u l v b = some r) : T tp 52 (ca [1,1,0,1,0,0,1,0,0,1,1,1] ff106) ⟨[(0, .ptr bx0 0), (1, .sl flx1 3 (x1.map Zq)), (4, .ptr p 0), (5, .ptr q 0), (6, .int .i64 g), (7, .ptr w 0)], [(W9 bx0 m), .arrX m 65 9 0 (j.map Qx), (o128 p false (.slice none 0 0) (.slice none 0 0)), (Qab q s a u), (Qab w l v b)]⟩ (Lp bx0 r) := by
 unfold V6 at h
 refine T.seq (sR (Qq (oP Gz i4 rfl (oL 4 ul4 rfl (nL (tN ?_))))))
 rcases Qh h with ⟨y, h⟩ | ⟨y, h⟩
 cases h
 refine Qo rfl y (Qq (oP Gz i38 rfl (oL 4 Z5 rfl (oP Gz i38 rfl (sp rfl (V3 (i := 3) (cells' := [.d (.bool s), .d (.sl false 1 (mI a)), .d (.sl false 1 (mI b))]) rfl rfl i38 rfl rfl rfl (nb rfl) rfl (nL (tN ?_))))))))
 refine Qq (oP Gz i4 rfl (oL 3 ul4 rfl (mw rfl ?_)))
 rcases Qh h with ⟨f, h⟩ | ⟨f, h⟩
 refine sn rfl f (Ur rfl (dk rfl) Gz rfl i4 (by decide) rfl (sn rfl f (Yr (i := 4) rfl (dk rfl) ul4 rfl rfl rfl rfl (oY f rfl (oP Gz i4 rfl (sp rfl (V3 (i := 3) (cells' := [.d (.bool l), .d (.sl false 1 (mI a)), .d (.sl false 1 (mI b))]) rfl rfl i4 rfl rfl rfl (nb rfl) rfl (nL (Qj (tN (Qq ?_)))))))))))
 refine mw rfl (oI rfl (aw rfl (nL (tN ?_))))
 refine Qg ?_ (hgo0 x1 (wI (g + (1:Int))) j l a b flx1 m p q h)
 exact tq rfl rfl
 refine pf rfl f (pf rfl f (oZ f rfl (oP Gz i4 rfl (sp rfl (V3 (i := 3) (cells' := [.d (.bool false), .d (.sl false 1 (mI a)), .d (.sl false 1 (mI b))]) rfl rfl i4 rfl rfl rfl (nb rfl) rfl (nL (Qj (tN (Qq ?_)))))))))
 refine mw rfl (oI rfl (aw rfl (nL (tN ?_))))
 refine Qg ?_ (hgo0 x1 (wI (g + (1:Int))) j false a b flx1 m p q h)
 exact tq rfl rfl
theorem D7 {r : Qr × Qi} (K bx0 : Nat) : ∀ (k : Nat), Gw bx0 r (Yn K k) := by
 intro k
 induction k with
 | zero =>
  intro x1 m ag b j g flx1 q u w h
  exact zn h
 | succ k ih =>
  intro x1 m ag b j g flx1 q u w h
  rw [Yn] at h
  refine Za (T.seq (sR (Qq (mw rfl (mw rfl (oU x1 Zq ul171 rfl (oI rfl ?_)))))))
  refine nL (tN ?_)
  rcases Qh h with ⟨y, h⟩ | ⟨y, h⟩
  refine Qt rfl y (T.skip (tN (T.seq (T.block (sR (Qq (mw rfl (mw rfl ?_))))))))
  obtain ⟨a, ai, h⟩ := bind_some h
  refine oX x1 Zq ul171 i128 ai rfl (oJ Gz i128 rfl (sp rfl (Zg rfl (dk rfl) i128 rfl (fun ab => (sp rfl (Qv (i := 0) (cells' := [.d (.bool a.null), .d (.sl false 1 (mI a.first)), .d (.sl false 1 (mI a.last))]) rfl rfl i128 rfl rfl rfl rfl (nb rfl) rfl (nL (tN (sR (Qq (mw rfl (oP Gz i38 rfl ?_))))))))))))
  refine oL 4 Z5 rfl (oP Gz i38 rfl (oL 0 Z5 rfl ?_))
  obtain ⟨ac, aj, h⟩ := bind_some h
  refine sp rfl (Q6 (is := [1, 2]) (ph := []) rfl (dk rfl) fu107 rfl rfl (Zs.cons rfl (Zs.cons rfl (Zs.cons rfl Zs.nil))) (Ii K (bx0 := bx0) (wx0c0 := q) (flx1 := false) (flx2 := false) aj) (.cons rfl rfl (.cons rfl rfl (.nil))) (fun _ => rfl) (fun ad => (nm (.c (.c (.c (.c (.c (.n)))))) (nL (tN (T.seq (sR (Qq (oP Gz i4 rfl (oL 4 ul4 rfl ?_))))))))))
  refine nL (tN ?_)
  rcases Qh h with ⟨aa, h⟩ | ⟨aa, h⟩
  refine Qt rfl aa (Qq (oP Gz i38 rfl (oL 4 Z5 rfl (oP Gz i38 rfl (oL 0 Z5 rfl ?_)))))
  obtain ⟨af, al, h⟩ := bind_some h
  refine oH fu67 (Z1.nil (J5 K (flx0 := false) (flx1 := false) al)) rfl (oP Gz i38 rfl (sp rfl (V3 (i := 4) (cells' := [.d (.bool b), .d (.sl false 1 (mI af)), .d (.sl false 1 (mI g))]) rfl rfl i38 rfl rfl rfl (nb rfl) rfl (nL (tN ?_)))))
  refine Qm ?_ (Gx K bx0 (Yn K k) ih x1 m ac.p b af g a.null a.first a.last flx1 (ad 0) u w ab h)
  exact tr rfl (.c (.s .z) (.c (.s .z) (.c (.s .z) (.c (.s .z) (.c .z (.n _))))))
  refine Qo rfl aa (T.skip (tN ?_))
  refine Qm ?_ (Gx K bx0 (Yn K k) ih x1 m ac.p b j g a.null a.first a.last flx1 (ad 0) u w ab h)
  exact tr rfl (.c (.s .z) (.c (.s .z) (.c (.s .z) (.c (.s .z) (.c .z (.n _))))))
  refine Qo rfl y (T.exit (Qk (Qk (Qu (tN (sR (Qq (oA 3 [.bool b, .sl false 1 (mI j), .sl false 1 (mI g)] Gz i128 rfl (sp rfl (Qv (i := 2) (cells' := [.d (.bool b), .d (.sl false 1 (mI j)), .d (.sl false 1 (mI g))]) rfl rfl i128 rfl rfl rfl rfl (nb rfl) rfl (nL (tN (T.ret ?_)))))))))))))
  exact Q1 (.cons _ _ _ _ (.cellAgg 4 128 _ 0 2 128 _ [.bool b, .sl false 1 (mI j), .sl false 1 (mI g)] _ _ 3 _ rfl rfl rfl rfl Gz rfl i128) .nil) (.cons 0 rfl (.cons 0 rfl (.nil _))) (by cases h; exact ⟨gl [q], rfl, rfl⟩)
theorem Nj (K : Nat) {x0 : Qi} {x1 : List Qr} {bx0 : Nat} {wx0c0 : Value} {flx1 : Bool} {r : Qr × Qi} (h : Hs K x0 x1 = some r) : Ud tp 106 [.ptr bx0 0, .sl flx1 3 (x1.map Zq)] [(W9 bx0 wx0c0), .arrX wx0c0 65 9 0 (x0.p.map Qx)] (fun γ => (.agg [.bool r.1.null, .sl false 1 (mI r.1.first), .sl false 1 (mI r.1.last)])) (fun γ => [(W9 bx0 (γ 0)), .arrX (γ 0) 65 9 0 (r.2.p.map Qx)]) := by
 refine CI 52 fu106 rfl ?_
 unfold Hs at h
 refine sR (Qq (sp rfl (Zg rfl (dk rfl) i128 rfl (fun a => (nL (tN (sR (Qq (sp rfl (Zi (OpT.build (l := [.bool true, .ex (.slice none 0 0), .ex (.slice none 0 0)]) rfl (dk rfl) (Zp (pl := [(0, 1), (1, 1), (2, 1)]) Gz i128 rfl) (Hb rfl) rfl rfl rfl) (Zy 8 (l := [.bool true, .ex (.slice none 0 0), .ex (.slice none 0 0)]) (l' := [.bool true, .sl false 1 (([] : List Int).map (cI .i64)), .sl false 1 (([] : List Int).map (cI .i64))]) (.cons (.same _) (.cons (.nil _ _) (.cons (.nil _ _) (.refl _))))) (sp rfl (Zg rfl (dk rfl) i128 rfl (fun b => (sp rfl (Qv (i := 0) (cells' := [.d (.bool true), .d (.sl false 1 (([] : List Int).map (cI .i64))), .d (.sl false 1 (([] : List Int).map (cI .i64)))]) rfl rfl i128 rfl rfl rfl rfl (nb rfl) rfl (nL (tN ?_)))))))))))))))))
 refine T.seq (sR (Qq (aw rfl (nL (tN (T.block (T.loop ?_)))))))
 refine Qg ?_ (D7 K bx0 K x1 (0:Int) x0.p true [] [] flx1 wx0c0 a b h)
 exact tr rfl (.c (.s (.s .z)) (.c (.s (.s .z)) (.c (.s .z) (.c .z (.n _)))))
abbrev raddleref09_builder_put_q (bx0 : Nat) (r : Qr × Qi) : ES := Jz tp ff105 (fun y t => ∃ γ : Nat → Value, y = (.agg [.bool r.1.null, .sl false 1 (mI r.1.first), .sl false 1 (mI r.1.last)]) ∧ t = [(W9 bx0 (γ 0)), .arrX (γ 0) 65 9 0 (r.2.p.map Qx)])
theorem Nh (K : Nat) {x0 : Qi} {x1 : Q5} {bx0 : Nat} {wx0c0 : Value} {r : Qr × Qi} (h : Hr K x0 x1 = some r) : Ud tp 105 [.ptr bx0 0, .agg [.int .u64 x1.S.a0, .int .u64 x1.S.a1, .int .u64 x1.S.a2, .int .u64 x1.S.a3, .int .i64 x1.Lo, .int .i64 x1.Hi, .int .i64 x1.Rule, .bool x1.Last, .sl false 1 (mI x1.Next)]] [(W9 bx0 wx0c0), .arrX wx0c0 65 9 0 (x0.p.map Qx)] (fun γ => (.agg [.bool r.1.null, .sl false 1 (mI r.1.first), .sl false 1 (mI r.1.last)])) (fun γ => [(W9 bx0 (γ 0)), .arrX (γ 0) 65 9 0 (r.2.p.map Qx)]) := by
 refine CI 26 fu105 rfl ?_
 unfold Hr at h
 refine sR (Qq (sp rfl (Zw rfl (dk rfl) rfl (fun b => (sp rfl (Zg rfl (dk rfl) i128 rfl (fun g => (nL (tN (T.seq (Qm (Jb 0 (l := [.bool false, .ex (.slice none 0 0), .ex (.slice none 0 0)]) (l' := [.bool false, .sl false 1 (([] : List Int).map (cI .i64)), .sl false 1 (([] : List Int).map (cI .i64))]) rfl (.cons (.same _) (.cons (.nil _ _) (.cons (.nil _ _) (.refl _))))) (Qm Yk ?_))))))))))))
 refine Us (gM rfl (fun _ => .f rfl) (fun _ => rfl) (gM rfl (fun _ => .f rfl) (fun _ => rfl) (gK rfl (fun _ => .f rfl) (fun _ => rfl) (gP rfl (fun _ => .f rfl) ul126 i41 (fun _ => rfl) (gL 3 rfl (fun _ => .f rfl) F1 (fun _ => rfl) (gW 2 [.int .u64 x1.S.a0, .int .u64 x1.S.a1, .int .u64 x1.S.a2, .int .u64 x1.S.a3, .int .i64 x1.Lo, .int .i64 x1.Hi, .int .i64 x1.Rule, .bool x1.Last, .sl false 1 (mI x1.Next)] rfl (fun _ => .f rfl) Qbv i65 (fun _ => rfl) ?_))))))
 refine dC (c := ⟨some 12, .sl true 9 ([x1].map Qx), [(11, .agg [.int .u64 x1.S.a0, .int .u64 x1.S.a1, .int .u64 x1.S.a2, .int .u64 x1.S.a3, .int .i64 x1.Lo, .int .i64 x1.Hi, .int .i64 x1.Rule, .bool x1.Last, .sl false 1 (mI x1.Next)])], [], []⟩) (fun t hm => oF rfl rfl (OpT.buildSlice (elems := ([x1] : List Q5).map Qx) rfl (dk rfl) F1 i65 (by decide) rfl (Hb rfl) (Y1 hm.s0 rfl Jl) rfl rfl (Xh rfl) (by decide) ⟨u0, rfl⟩)) (fun _ => rfl) (fun _ => rfl) ?_
 obtain ⟨j, h⟩ := Q9 h
 refine DGG.step (c := fun a => ⟨some 13, .c (.ex ((a 7).1 0)), [(12, .sl true 9 ([x1].map Qx)), (10, .c (.ex wx0c0))], [(4, .arrX wx0c0 65 9 0 (x0.p.map Qx))], [(4, .arrX ((a 7).1 0) 65 9 0 ((x0.p ++ [x1]).map Qx))]⟩) [7] (fun a γ' h => by simp only [h 7 (by decide)]) (fun a t hm => oF rfl rfl (Cz (i := 4) (xs := x0.p) (ys := [x1]) (f := Qx) rfl (dk rfl) F1 i65 rfl hm.s1 hm.o0 hm.s0 j (fun w => ⟨(fun _ => w, 0), rfl⟩))) (fun a => Zr rfl rfl) (gK rfl (fun _ => .f rfl) (fun _ => rfl) (gP rfl (fun _ => .f rfl) ul126 i41 (fun _ => rfl) (DGG.step (c := fun a => ⟨none, .any, [(15, .ptr bx0 (0 + 0)), (13, .c (.ex ((a 7).1 0)))], [(3, (W9 bx0 wx0c0))], [(3, (W9 bx0 ((a 7).1 0)))]⟩) [7] (fun a γ' h => by simp only [h 7 (by decide)]) (fun a t hm => oF rfl rfl (V3 (i := 3) (cells' := [.d (.ex ((a 7).1 0))]) rfl rfl i41 hm.s0 hm.s1 hm.o0 (nb rfl) rfl ⟨u0, rfl⟩)) (fun a => Zr rfl rfl) (gF [0,0,2,6,14,0,32,126,255,511,1023] Q3 rfl (by kernel_rfl) (fun _ => by kernel_rfl) (fun a u hu => (tN (Qm hu (sR (Qq (mw rfl ?_))))))))))
 refine oK rfl (oP ul126 i41 rfl (oL 3 F1 rfl (sp rfl (J9 (i := 4) (xs := (x0.p ++ [x1])) (f := Qx) rfl (dk rfl) F1 rfl rfl (oI rfl (sp rfl (OpT.buildSlice (elems := ([(wI (((x0.p ++ [x1]).length : Int) - (1:Int)))] : List Int).map (cI .i64)) rfl (dk rfl) Z5 i3 (by decide) rfl (Hb rfl) rfl rfl rfl (Xh rfl) (by decide) (aw rfl ?_))))))))
 refine nL (tN (sR (Qq (mw rfl (mw rfl (sp rfl (Zi (OpT.build (l := [.bool false, .sl true 1 ([(wI (((x0.p ++ [x1]).length : Int) - (1:Int)))].map (cI .i64)), .sl true 1 ([(wI (((x0.p ++ [x1]).length : Int) - (1:Int)))].map (cI .i64))]) rfl (dk rfl) (Zp (pl := [(0, 1), (1, 1), (2, 1)]) Gz i128 rfl) (Hb rfl) rfl rfl rfl) (Zy 25 (l := [.bool false, .sl true 1 ([(wI (((x0.p ++ [x1]).length : Int) - (1:Int)))].map (cI .i64)), .sl true 1 ([(wI (((x0.p ++ [x1]).length : Int) - (1:Int)))].map (cI .i64))]) (l' := [.bool false, .sl false 1 ([(wI (((x0.p ++ [x1]).length : Int) - (1:Int)))].map (cI .i64)), .sl false 1 ([(wI (((x0.p ++ [x1]).length : Int) - (1:Int)))].map (cI .i64))]) (.cons (.same _) (.cons (.full _ _ _) (.cons (.full _ _ _) (.refl _))))) (sp rfl (Qv (i := 1) (cells' := [.d (.bool false), .d (.sl false 1 ([(wI (((x0.p ++ [x1]).length : Int) - (1:Int)))].map (cI .i64))), .d (.sl false 1 ([(wI (((x0.p ++ [x1]).length : Int) - (1:Int)))].map (cI .i64)))]) rfl rfl i128 rfl rfl rfl rfl (nb rfl) rfl (nL (tN (T.ret ?_))))))))))))
 exact Q1 (.cons _ _ _ _ (.cellAgg 4 128 _ 0 1 128 _ [.bool false, .sl false 1 ([(wI (((x0.p ++ [x1]).length : Int) - (1:Int)))].map (cI .i64)), .sl false 1 ([(wI (((x0.p ++ [x1]).length : Int) - (1:Int)))].map (cI .i64))] _ _ 3 _ rfl rfl rfl rfl Gz rfl i128) .nil) (.cons 3 rfl (.cons 3 rfl (.nil _))) (by cases h; exact ⟨gl [(a 7).1 0], rfl, rfl⟩)
abbrev L5 (bx0 : Nat) (r : Qr × Qi) : ES := Jz tp ff66 (fun y t => ∃ γ : Nat → Value, y = (.agg [.bool r.1.null, .sl false 1 (mI r.1.first), .sl false 1 (mI r.1.last)]) ∧ t = [(W9 bx0 (γ 0)), .arrX (γ 0) 65 9 0 (r.2.p.map Qx)])
abbrev Kd (bx0 : Nat) (r : Qr × Qi) : ES := fT 128 [1,1,1,1,1,1,1,1,1,1] ff66 (L5 bx0 r)
abbrev Lb (bx0 : Nat) (r : Qr × Qi) : ES := Qz 2 ((Kd bx0 r))
abbrev Mo (bx0 : Nat) (r : Qr × Qi) : ES := fT 128 [1,1,1,1,1,1,1] ff66 (L5 bx0 r)
abbrev Km (bx0 : Nat) (r : Qr × Qi) : ES := Qz 0 ((Mo bx0 r))
theorem Dg {r : Qr × Qi} (K : Nat) (rec_raddleref09_builder_node : Qi → (List Q0) → Int → Int → Option (Qr × Qi)) (hrec_raddleref09_builder_node : V5 rec_raddleref09_builder_node) (bx0 : Nat) : ∀ (k : Nat), ∀ (s : Int) (ac : List Q5) (ad af : List Int) (ag : Int) (m : Zh) (ai : List Int) (aj al : Int) (am : ByteArray) (g : List Qr) (an : Bool) (q j : List Int) (y : Value) (aa ab : Nat) (p : Value) (b : Nat), Vp K rec_raddleref09_builder_node k s ac ad af ag m ai aj al am g an q j = some r → TL tp 128 (ca [1,1,1,1,1,1,1,1,1,0,1,0,0] ff66) ⟨[(0, .ptr bx0 0), (8, .ptr aa 0), (9, .ptr ab 0), (10, .c (.ex p)), (12, .ptr b 0), (13, .int .i64 s)], [(W9 bx0 y), .arrX y 65 9 0 (ac.map Qx), (Qab aa false ad af), (b165x3 ab ag m.a0 m.a1 m.a2 m.a3 ai aj al am), .arrA p 128 3 (g.map Zq), (Qab b an q j)]⟩ (Lb bx0 r) := by
 intro k
 induction k with
 | zero =>
  intro s ac ad af ag m ai aj al am g an q j y aa ab p b h
  exact zn h
 | succ k ih =>
  intro s ac ad af ag m ai aj al am g an q j y aa ab p b h
  rw [Vp] at h
  refine Za (T.seq (sR (Qq (mw rfl (mw rfl (sp rfl (Hc (i := 4) (xs := g) (f := Zq) rfl (dk rfl) ul171 rfl rfl (oI rfl ?_))))))))
  refine nL (tN ?_)
  rcases Qh h with ⟨au, h⟩ | ⟨au, h⟩
  refine Qt rfl au (T.skip (tN (T.seq (T.block (sR (Qq (oP Gz i4 rfl (oL 5 ul4 rfl ?_))))))))
  refine mw rfl ?_
  rcases Qh h with ⟨ap, h⟩ | ⟨ap, h⟩
  cases h
  refine sn rfl ap (OpT.move rfl (dk rfl) rfl (sn rfl ap (OpT.move rfl (dk rfl) rfl (J8 (Zx.view 93 4 rfl rfl) ?_))))
  obtain ⟨a, av, h⟩ := bind_some h
  refine sn rfl ap (Lh (xs := g) (f := Zq) (v := a) rfl (dk rfl) ul171 i128 rfl rfl av (sn rfl ap (Wa rfl (dk rfl) Gz rfl i4 (by decide) rfl (sn rfl ap (K7 rfl (dk rfl) ul4 rfl rfl rfl (oZ ap rfl (oP Gz i4 rfl (sp rfl (V3 (i := 5) (cells' := [.d (.bool a.null), .d (.sl false 1 (mI q)), .d (.sl false 1 (mI j))]) rfl rfl i4 rfl rfl rfl (nb rfl) rfl (nL (tN ?_)))))))))))
  refine T.seq (Xk (dP rfl (.f rfl) Gz i38 rfl (dL 5 rfl (.f rfl) Z5 rfl (dS (c := ⟨some 102, .sl false 3 (g.map Zq), [(10, .c (.ex p))], [(4, .arrA p 128 3 (g.map Zq))], []⟩) (fun t hm => oF rfl rfl (Zi (OpT.move rfl (dk rfl) hm.s0 rfl) (J0 102 4 hm.o0) rfl)) rfl rfl (dV rfl rfl (dX g Zq rfl (.f rfl) ul171 i128 av rfl ?_))))))
  refine dQ rfl (.f rfl) Gz i38 rfl (dR rfl (.f rfl) Z5 rfl ?_)
  obtain ⟨w, az, h⟩ := bind_some h
  refine dH fu67 (Z1.nil (J5 K (flx0 := false) (flx1 := false) az)) rfl (.f rfl) rfl (dP rfl (.f rfl) Gz i38 rfl (dS (c := ⟨none, .any, [(108, .ptr b (0 + 1)), (107, .sl false 1 (mI w))], [(5, (Qab b a.null q j))], [(5, (Qab b a.null w j))]⟩) (fun t hm => oF rfl rfl (V3 (i := 5) (cells' := [.d (.bool a.null), .d (.sl false 1 (mI w)), .d (.sl false 1 (mI j))]) rfl rfl i38 hm.s0 hm.s1 hm.o0 (nb rfl) rfl rfl)) rfl rfl (dF [0,1,0,0,12,28,60,127,255,511] Q3 rfl (by kernel_rfl) (fun u hu => (tN (Qm hu (Xk (dP rfl (.f rfl) Gz i38 rfl (dL 5 rfl (.f rfl) Z5 rfl ?_)))))))))
  refine dS (c := ⟨some 111, .sl false 3 (g.map Zq), [(10, .c (.ex p))], [(4, .arrA p 128 3 (g.map Zq))], []⟩) (fun t hm => oF rfl rfl (Zi (OpT.move rfl (dk rfl) hm.s0 rfl) (J0 111 4 hm.o0) rfl)) rfl rfl (dV rfl rfl (dX g Zq rfl (.f rfl) ul171 i128 av rfl (dQ rfl (.f rfl) Gz i38 rfl (dR rfl (.f rfl) Z5 rfl ?_))))
  obtain ⟨aq, a4, h⟩ := bind_some h
  refine dH fu67 (Z1.nil (J5 K (flx0 := false) (flx1 := false) a4)) rfl (.f rfl) rfl (dP rfl (.f rfl) Gz i38 rfl (dS (c := ⟨none, .any, [(117, .ptr b (0 + 2)), (116, .sl false 1 (mI aq))], [(5, (Qab b a.null w j))], [(5, (Qab b a.null w aq))]⟩) (fun t hm => oF rfl rfl (V3 (i := 5) (cells' := [.d (.bool a.null), .d (.sl false 1 (mI w)), .d (.sl false 1 (mI aq))]) rfl rfl i38 hm.s0 hm.s1 hm.o0 (nb rfl) rfl rfl)) rfl rfl (dF [0,1,0,0,12,28,60,127,255,511] Q3 rfl (by kernel_rfl) (fun u hu => (Qj (tN (Qm hu (Qq (mw rfl (oI rfl ?_))))))))))
  refine aw rfl (nL (tN ?_))
  refine Qg ?_ (ih (wI (s + (1:Int))) ac ad af ag m ai aj al am g a.null w aq y aa ab p b h)
  exact tq rfl rfl
  refine Qo rfl au (T.exit (Qk (Qk (Qu (tN (T.seq (sR (Qq (oP Lj i5 rfl (oL 3 ul5 rfl (oI rfl ?_)))))))))))
  refine nL (tN ?_)
  rcases Qh h with ⟨ay, h⟩ | ⟨ay, h⟩
  cases h
  refine Qo rfl ay (T.skip (tN (sR (Qq (oA 5 [.bool an, .sl false 1 (mI q), .sl false 1 (mI j)] Gz i128 rfl (sp rfl (Qv (i := 2) (cells' := [.d (.bool an), .d (.sl false 1 (mI q)), .d (.sl false 1 (mI j))]) rfl rfl i128 rfl rfl rfl rfl (nb rfl) rfl (nL (tN (T.ret ?_))))))))))
  exact Q1 (.cons _ _ _ _ (.cellAgg 8 128 _ 0 2 128 _ [.bool an, .sl false 1 (mI q), .sl false 1 (mI j)] _ _ 3 _ rfl rfl rfl rfl Gz rfl i128) .nil) (.cons 0 rfl (.cons 0 rfl (.nil _))) (by cases h; exact ⟨gl [y], rfl, rfl⟩)
theorem Dh {r : Qr × Qi} (K : Nat) (rec_raddleref09_builder_node : Qi → (List Q0) → Int → Int → Option (Qr × Qi)) (hrec_raddleref09_builder_node : V5 rec_raddleref09_builder_node) (bx0 : Nat) : ∀ (k : Nat), ∀ (x1 : List Q0) (x3 ad : Int) (q : List Q5) (a : Int) (b : Zh) (g : List Int) (u w : Int) (y : ByteArray) (j : List Qr) (flx1 : Bool) (m : Value) (aa ab : Nat) (af : Value), Vq K rec_raddleref09_builder_node k x1 x3 ad q a b g u w y j = some r → TL tp 128 (ca [1,1,1,1,1,1,0,1,0,0] ff66) ⟨[(0, .ptr bx0 0), (1, .sl flx1 9 (x1.map Qs)), (3, .int .i64 x3), (8, .ptr aa 0), (9, .ptr ab 0), (10, .c (.ex af)), (11, .int .i64 ad)], [(W9 bx0 m), .arrX m 65 9 0 (q.map Qx), (o128 aa false (.slice none 0 0) (.slice none 0 0)), (b165x3 ab a b.a0 b.a1 b.a2 b.a3 g u w y), .arrA af 128 3 (j.map Zq)]⟩ (Km bx0 r) := by
 intro k
 induction k with
 | zero =>
  intro x1 x3 ad q a b g u w y j flx1 m aa ab af h
  exact zn h
 | succ k ih =>
  intro x1 x3 ad q a b g u w y j flx1 m aa ab af h
  rw [Vq] at h
  refine Za (T.seq (sR (Qq (mw rfl (oP Lj i38 rfl (oL 3 Z5 rfl (oU g (cI .i64) Z5 rfl ?_)))))))
  refine oI rfl (nL (tN ?_))
  rcases Qh h with ⟨ai, h⟩ | ⟨ai, h⟩
  refine Qt rfl ai (T.skip (tN (T.seq (T.block (Qq ?_)))))
  iterate 3 refine mw rfl ?_
  refine oP Lj i38 rfl (oL 3 Z5 rfl (mw rfl ?_))
  obtain ⟨al, am, h⟩ := bind_some h
  refine oX g (cI .i64) Z5 i3 am rfl (oR ul3 rfl (mw rfl ?_))
  obtain ⟨ag, an, h⟩ := bind_some h
  refine sp rfl (Q6 (is := [0, 1]) (ph := []) rfl (dk rfl) fu66 rfl rfl (Zs.cons rfl (Zs.cons rfl (Zs.cons rfl (Zs.cons rfl Zs.nil)))) (hrec_raddleref09_builder_node (Qi.mk q) x1 al x3 bx0 m flx1 _ an) (.cons rfl rfl (.cons rfl rfl (.nil))) (fun _ => rfl) (fun ap => (nm (.c (.c (.c (.c (.c (.n)))))) (sp rfl (OpT.buildSlice (elems := ([ag.1] : List Qr).map Zq) rfl (dk rfl) ul171 i128 (by decide) rfl (Hb rfl) rfl rfl rfl (Xh rfl) (by decide) ?_)))))
  obtain ⟨aq, h⟩ := Q9 h
  refine sp rfl (Zj (i := 4) (xs := j) (ys := [ag.1]) (f := Zq) rfl (dk rfl) ul171 i128 rfl rfl rfl rfl aq (fun au => (aw rfl (nL (Qj (tN (Qq (mw rfl (oI rfl (aw rfl ?_))))))))))
  refine nL (tN ?_)
  refine Qg ?_ (ih x1 x3 (wI (ad + (1:Int))) ag.2.p a b g u w y (j ++ [ag.1]) flx1 (ap 0) aa ab au h)
  exact tq rfl rfl
  refine Qo rfl ai (T.exit (Qk (Qk (Qu (tN (T.seq (sR (Qq (oP Lj i5 rfl (oL 3 ul5 rfl (oI rfl ?_)))))))))))
  refine nL (tN ?_)
  rcases Qh h with ⟨aj, h⟩ | ⟨aj, h⟩
  refine Qt rfl aj (sR (Qq (mw rfl (mw rfl ?_))))
  obtain ⟨ac, av, h⟩ := bind_some h
  refine sp rfl (Q6 (is := [0, 1]) (ph := []) rfl (dk rfl) fu106 rfl rfl (Zs.cons rfl (Zs.view (i := 4) rfl rfl Zs.nil)) (Nj K (bx0 := bx0) (wx0c0 := m) (flx1 := false) av) (.cons rfl rfl (.cons rfl rfl (.nil))) (fun _ => rfl) (fun ay => (nm (.c (.c (.c (.c (.c (.n)))))) (sp rfl (Qv (i := 2) (cells' := [.d (.bool ac.1.null), .d (.sl false 1 (mI ac.1.first)), .d (.sl false 1 (mI ac.1.last))]) rfl rfl i128 rfl rfl rfl rfl (nb rfl) rfl (nL (tN (T.ret (Qy (Q1 (.cons _ _ _ _ (.cellAgg 8 128 _ 0 2 128 _ [.bool ac.1.null, .sl false 1 (mI ac.1.first), .sl false 1 (mI ac.1.last)] _ _ 3 _ rfl rfl rfl rfl Gz rfl i128) .nil) (.cons 0 rfl (.cons 0 rfl (.nil _))) (by cases h; exact ⟨gl [ay 0], rfl, rfl⟩)))))))))))
  refine Qo rfl aj (T.skip (tN (sR (Qq (oP Lj i5 rfl (oL 3 ul5 rfl (oI rfl (sp rfl (Zi (OpT.build (l := [.bool (a == (5:Int)), .ex (.slice none 0 0), .ex (.slice none 0 0)]) rfl (dk rfl) (Zp (pl := [(0, 1), (1, 1), (2, 1)]) Gz i128 rfl) (Hb rfl) rfl rfl rfl) (Zy 83 (l := [.bool (a == (5:Int)), .ex (.slice none 0 0), .ex (.slice none 0 0)]) (l' := [.bool (a == (5:Int)), .sl false 1 (([] : List Int).map (cI .i64)), .sl false 1 (([] : List Int).map (cI .i64))]) (.cons (.same _) (.cons (.nil _ _) (.cons (.nil _ _) (.refl _))))) ?_)))))))))
  refine sp rfl (Zg rfl (dk rfl) i128 rfl (fun az => (sp rfl (Qv (i := 0) (cells' := [.d (.bool (a == (5:Int))), .d (.sl false 1 (([] : List Int).map (cI .i64))), .d (.sl false 1 (([] : List Int).map (cI .i64)))]) rfl rfl i128 rfl rfl rfl rfl (nb rfl) rfl (nL (tN (T.seq (sR (Qq (aw rfl (nL (tN ?_))))))))))))
  refine T.block (T.loop (Qg (Jb 3 (l := [.bool false, .ex (.slice none 0 0), .ex (.slice none 0 0)]) (l' := [.bool false, .sl false 1 (([] : List Int).map (cI .i64)), .sl false 1 (([] : List Int).map (cI .i64))]) rfl (.cons (.same _) (.cons (.nil _ _) (.cons (.nil _ _) (.refl _))))) ?_))
  refine Qg ?_ (Dg K rec_raddleref09_builder_node hrec_raddleref09_builder_node bx0 K (0:Int) q [] [] a b g u w y j (a == (5:Int)) [] [] m aa ab af az h)
  exact tr rfl (.c (.s .z) (.c (.s .z) (.c (.s .z) (.c (.s .z) (.c (.s .z) (.c .z (.n _)))))))
theorem D6 (K : Nat) (rec_raddleref09_builder_node : Qi → (List Q0) → Int → Int → Option (Qr × Qi)) (hrec_raddleref09_builder_node : V5 rec_raddleref09_builder_node) {x0 : Qi} {x1 : List Q0} {x2 x3 : Int} {bx0 : Nat} {wx0c0 : Value} {flx1 : Bool} {r : Qr × Qi} (h : Jt K rec_raddleref09_builder_node x0 x1 x2 x3 = some r) : Ud tp 66 [.ptr bx0 0, .sl flx1 9 (x1.map Qs), .int .i64 x2, .int .i64 x3] [(W9 bx0 wx0c0), .arrX wx0c0 65 9 0 (x0.p.map Qx)] (fun γ => (.agg [.bool r.1.null, .sl false 1 (mI r.1.first), .sl false 1 (mI r.1.last)])) (fun γ => [(W9 bx0 (γ 0)), .arrX (γ 0) 65 9 0 (r.2.p.map Qx)]) := by
 refine CI 128 fu66 rfl ?_
 unfold Jt at h
 refine sR (Qq (sp rfl (Zg rfl (dk rfl) i128 rfl (fun q => (nL (tN (sR (Qq (mw rfl (mw rfl ?_))))))))))
 obtain ⟨a, u, h⟩ := bind_some h
 refine oX x1 Qs P1 i165 u rfl (oJ Lj i165 rfl (sp rfl (Zg rfl (dk rfl) i165 rfl (fun w => (sp rfl (Qv (i := 0) (cells' := [.d (.int .u8 a.Op), .d (.int .u64 a.S.a0), .d (.int .u64 a.S.a1), .d (.int .u64 a.S.a2), .d (.int .u64 a.S.a3), .d (.sl false 1 (mI a.L)), .d (.int .i64 a.Lo), .d (.int .i64 a.Hi), .d (.str a.Name)]) rfl rfl i165 rfl rfl rfl rfl (nb rfl) rfl (nL (tN (T.seq (sR (Qq ?_)))))))))))
 refine oP Lj i5 rfl (oL 0 ul5 rfl (oI rfl (nL (tN ?_))))
 rcases Qh h with ⟨m, h⟩ | ⟨m, h⟩
 cases h
 refine Qo rfl m (T.skip (tN (T.seq (sR (Qq (oP Lj i5 rfl (oL 0 ul5 rfl (oI rfl ?_))))))))
 refine nL (tN ?_)
 rcases Qh h with ⟨j, h⟩ | ⟨j, h⟩
 refine Qt rfl j (sR (Qq (mw rfl (oP Lj i63 rfl (oA 0 (Zh.dc .u64 a.S) Qdo i63 rfl (mw rfl (sp rfl (Zi (OpT.build (l := [.int .u64 a.S.a0, .int .u64 a.S.a1, .int .u64 a.S.a2, .int .u64 a.S.a3, .int .i64 (1:Int), .int .i64 (1:Int), .int .i64 x3, .bool false, .ex (.slice none 0 0)]) rfl (dk rfl) (Zp (pl := [(0, 4), (4, 1), (5, 1), (6, 1), (7, 1), (8, 1)]) Qbv i65 rfl) (Hb rfl) rfl rfl rfl) (Zy 29 (l := [.int .u64 a.S.a0, .int .u64 a.S.a1, .int .u64 a.S.a2, .int .u64 a.S.a3, .int .i64 (1:Int), .int .i64 (1:Int), .int .i64 x3, .bool false, .ex (.slice none 0 0)]) (l' := [.int .u64 a.S.a0, .int .u64 a.S.a1, .int .u64 a.S.a2, .int .u64 a.S.a3, .int .i64 (1:Int), .int .i64 (1:Int), .int .i64 x3, .bool false, .sl false 1 (([] : List Int).map (cI .i64))]) (.cons (.same _) (.cons (.same _) (.cons (.same _) (.cons (.same _) (.cons (.same _) (.cons (.same _) (.cons (.same _) (.cons (.same _) (.cons (.nil _ _) (.refl _))))))))))) ?_))))))))
 obtain ⟨b, y, h⟩ := bind_some h
 refine sp rfl (Q6 (is := [2, 3]) (ph := []) rfl (dk rfl) fu105 rfl rfl (Zs.cons rfl (Zs.cons rfl Zs.nil)) (Nh K (bx0 := bx0) (wx0c0 := wx0c0) y) (.cons rfl rfl (.cons rfl rfl (.nil))) (fun _ => rfl) (fun aa => (nm (.c (.c (.c (.c (.n))))) (sp rfl (Qv (i := 1) (cells' := [.d (.bool b.1.null), .d (.sl false 1 (mI b.1.first)), .d (.sl false 1 (mI b.1.last))]) rfl rfl i128 rfl rfl rfl rfl (nb rfl) rfl (nL (tN (T.ret (Qy (Q1 (.cons _ _ _ _ (.cellAgg 8 128 _ 0 1 128 _ [.bool b.1.null, .sl false 1 (mI b.1.first), .sl false 1 (mI b.1.last)] _ _ 3 _ rfl rfl rfl rfl Gz rfl i128) .nil) (.cons 2 rfl (.cons 2 rfl (.nil _))) (by cases h; exact ⟨gl [aa 0], rfl, rfl⟩)))))))))))
 refine Qo rfl j (T.skip (tN (T.seq (sR (Qq (oP Lj i5 rfl (oL 0 ul5 rfl (oI rfl ?_))))))))
 refine mw rfl ?_
 rcases Qh h with ⟨g, h⟩ | ⟨g, h⟩
 cases h
 refine pf rfl g (pf rfl g (pf rfl g (oZ g rfl (nL (tN (Qo rfl rfl (T.skip (tN ?_))))))))
 refine sR (Qq (aw rfl (nL (tN (T.seq (sR (Qq (aw rfl (nL (tN ?_))))))))))
 refine T.block (T.loop (Qg (Y2 128 3) ?_))
 refine Qg ?_ (Dh K rec_raddleref09_builder_node hrec_raddleref09_builder_node bx0 K x1 x3 (0:Int) x0.p a.Op a.S a.L a.Lo a.Hi a.Name [] flx1 wx0c0 q w (Tp 2) h)
 exact tr rfl (.c (.s (.s (.s .z))) (.c (.s (.s (.s .z))) (.c (.s (.s .z)) (.c (.s .z) (.c .z (.n _))))))
theorem D5 (K : Nat) : ∀ n, V5 (V4 K n) := by
 intro n
 induction n with
 | zero =>
  intro x0 x1 x2 x3 bx0 wx0c0 flx1 r h
  exact zn h
 | succ n ih =>
  intro x0 x1 x2 x3 bx0 wx0c0 flx1 r h
  exact D6 K (V4 K n) ih h
theorem Ig (K : Nat) {x0 : Qi} {x1 : List Q0} {x2 x3 : Int} {bx0 : Nat} {wx0c0 : Value} {flx1 : Bool} {r : Qr × Qi} (h : Md K x0 x1 x2 x3 = some r) : Ud tp 66 [.ptr bx0 0, .sl flx1 9 (x1.map Qs), .int .i64 x2, .int .i64 x3] [(W9 bx0 wx0c0), .arrX wx0c0 65 9 0 (x0.p.map Qx)] (fun γ => (.agg [.bool r.1.null, .sl false 1 (mI r.1.first), .sl false 1 (mI r.1.last)])) (fun γ => [(W9 bx0 (γ 0)), .arrX (γ 0) 65 9 0 (r.2.p.map Qx)]) := D5 K K x0 x1 x2 x3 bx0 wx0c0 flx1 r h
abbrev Qa8 (r : Bool) : ES := Jz tp ff65 (fun y t => y = (.bool r) ∧ t = [])
abbrev Pj (r : Bool) : ES := fT 37 [1,1,1] ff65 (Qa8 r)
abbrev Nq (r : Bool) : ES := Qz 0 ((Pj r))
theorem Rz {r : Bool} (K : Nat) : ∀ (k : Nat), ∀ (x0 : List Q0) (c : Int) (flx0 : Bool), Wn K k x0 c = some r → TL tp 37 (ca [1,1,0,1,0,0] ff65) ⟨[(0, .sl flx0 9 (x0.map Qs)), (3, .int .i64 c)], []⟩ (Nq r) := by
 intro k
 induction k with
 | zero =>
  intro x0 c flx0 h
  exact zn h
 | succ k ih =>
  intro x0 c flx0 h
  rw [Wn] at h
  refine Za (T.seq (sR (Qq (mw rfl (mw rfl (oU x0 Qs P1 rfl (oI rfl ?_)))))))
  refine nL (tN ?_)
  rcases Qh h with ⟨g, h⟩ | ⟨g, h⟩
  refine Qt rfl g (T.skip (tN (T.seq (T.block (sR (Qq (mw rfl (mw rfl ?_))))))))
  obtain ⟨a, j, h⟩ := bind_some h
  refine oX x0 Qs P1 i165 j rfl (oJ Lj i165 rfl (sp rfl (Zg rfl (dk rfl) i165 rfl (fun l => (sp rfl (Qv (i := 0) (cells' := [.d (.int .u8 a.Op), .d (.int .u64 a.S.a0), .d (.int .u64 a.S.a1), .d (.int .u64 a.S.a2), .d (.int .u64 a.S.a3), .d (.sl false 1 (mI a.L)), .d (.int .i64 a.Lo), .d (.int .i64 a.Hi), .d (.str a.Name)]) rfl rfl i165 rfl rfl rfl rfl (nb rfl) rfl (nL (tN (sR (Qq (oP Lj i5 rfl (oL 0 ul5 rfl ?_))))))))))))
  refine oI rfl (mw rfl ?_)
  rcases Qh h with ⟨b, h⟩ | ⟨b, h⟩
  cases h
  refine pf rfl b (pf rfl b (pf rfl b (pf rfl b (TL'.pU (.gone _ _ _ rfl rfl rfl) (dk rfl) (TL'.pU (.gone _ _ _ rfl rfl rfl) (dk rfl) (TL'.pU (.gone _ _ _ rfl rfl rfl) (dk rfl) ?_))))))
  refine pf rfl b (oZ b rfl (mw rfl (pf rfl rfl (pf rfl rfl (pf rfl rfl (pf rfl rfl ?_))))))
  refine oZ rfl rfl (nL (tN (Qo rfl rfl (T.skip (Qj (tN (Qq (mw rfl (oI rfl ?_)))))))))
  refine aw rfl (nL (tN ?_))
  refine Qg ?_ (ih x0 (wI (c + (1:Int))) flx0 h)
  exact tq rfl rfl
  refine Qo rfl g (T.exit (Qk (Qk (Qu (tN (sR (Qq (aw rfl (nL (tN (T.ret (fd rfl (by cases h; exact ⟨rfl, rfl⟩)))))))))))))
theorem Qa9 (K : Nat) {x0 : List Q0} {flx0 r : Bool} (h : B6 K x0 = some r) : Z1 tp 65 [.sl flx0 9 (x0.map Qs)] [] (.bool r) := by
 refine CI 37 fu65 rfl ?_
 unfold B6 at h
 refine sR (Qq (aw rfl (nL (tN (T.seq (sR (Qq (mw rfl ?_))))))))
 obtain ⟨c, b, h⟩ := bind_some h
 refine oH fu62 (Z1.nil (Fg K (flx0 := flx0) b)) rfl (oT rfl (nL (tN ?_)))
 rcases Qh h with ⟨a, h⟩ | ⟨a, h⟩
 cases h
 refine Qo rfl a (T.skip (tN (T.seq (sR (Qq (aw rfl (nL (tN (T.block ?_)))))))))
 refine T.loop ?_
 refine Qg ?_ (Rz K K x0 (0:Int) flx0 h)
 exact tq rfl rfl
abbrev P9 (r : Qp × Int) : ES := Jz tp ff37 (fun y t => y = (.tup [.agg [.sl false 1 (mI r.1.First), .sl false 9 (r.1.P.map Qx)], .int .i64 r.2]) ∧ t = [])
abbrev Pi (r : Qp × Int) : ES := fT 86 [1,1,1,1,1,1] ff37 (P9 r)
abbrev Ko (r : Qp × Int) : ES := Qz 2 ((Pi r))
abbrev Nn (r : Qp × Int) : ES := fL 86 [1,1,1,1,1,0,1,0,0] ff37 (Ko r)
abbrev D9 (r : Qp × Int) : ES := fT 86 [1,1,1,1,1,0,1,0,0,1,1] ff37 (Nn r)
abbrev Bh (r : Qp × Int) : ES := Qz 3 ((D9 r))
abbrev Bg (r : Qp × Int) : ES := fT 86 [1,1,1,1,1,0,1,0,0,1,0,0,1,1,1] ff37 (Bh r)
abbrev Lq (r : Qp × Int) : ES := Qz 4 ((Bg r))
abbrev Tz (r : Qp × Int) : ES := fT 86 [1,1,1] ff37 (P9 r)
abbrev Ry (r : Qp × Int) : ES := Qz 0 ((Tz r))
abbrev Ff (r : Qp × Int) (go : (List (List Q0)) → Int → (List Int) → (List Q5) → (List Q5) → (List Int) → (List Q5) → Option (Qp × Int)) : Prop := ∀ (x0 : List (List Q0)) (a : Int) (b : List Int) (c f : List Q5) (g : List Int) (i : List Q5) (flx0 : Bool) (j : Nat) (l : Value) (m : Nat) (n : Value) (p : Nat) (q : Value), go x0 a b c f g i = some r → TL tp 86 (ca [1,1,1,1,1,0,1,0,0] ff37) ⟨[(0, .sl flx0 1 (x0.map (cL 9 Qs))), (2, .ptr j 0), (5, .ptr m 0), (6, .ptr p 0), (7, .int .i64 a)], [(b43x0 j b l), .arrA l 65 9 (c.map Qx), (W9 m n), .arrX n 65 9 0 (f.map Qx), (b43x0 p g q), .arrA q 65 9 (i.map Qx)]⟩ (Ko r)
theorem Qa5 {r : Qp × Int} (K : Nat) (go1 : (List (List Q0)) → Int → (List Int) → (List Q5) → (List Q5) → (List Int) → (List Q5) → Option (Qp × Int)) (hgo1 : Ff r go1) : ∀ (k : Nat), ∀ (x0 : List (List Q0)) (aa ab : Int) (ac : List Int) (ad j : List Q5) (af : List Int) (ag : List Q5) (ai : Bool) (aj m : List Int) (flx0 : Bool) (q : Nat) (s : Value) (g : Nat) (b : Value) (w : Nat) (y : Value) (p : Nat), Lr K go1 k x0 aa ab ac ad j af ag ai aj m = some r → TL tp 86 (ca [1,1,1,1,1,0,1,0,0,1,0,0,1,1,0,1,0,0] ff37) ⟨[(0, .sl flx0 1 (x0.map (cL 9 Qs))), (2, .ptr q 0), (5, .ptr g 0), (6, .ptr w 0), (7, .int .i64 aa), (8, .ptr p 0), (9, .int .i64 ab)], [(b43x0 q ac s), .arrA s 65 9 (ad.map Qx), (W9 g b), .arrX b 65 9 0 (j.map Qx), (b43x0 w af y), .arrA y 65 9 (ag.map Qx), (Qab p ai aj m)]⟩ (Lq r) := by
 intro k
 induction k with
 | zero =>
  intro x0 aa ab ac ad j af ag ai aj m flx0 q s g b w y p h
  exact zn h
 | succ k ih =>
  intro x0 aa ab ac ad j af ag ai aj m flx0 q s g b w y p h
  rw [Lr] at h
  refine Za (T.seq (sR (Qq (mw rfl (oP Gz i38 rfl (oL 6 Z5 rfl (oU m (cI .i64) Z5 rfl ?_)))))))
  refine oI rfl (nL (tN ?_))
  rcases Qh h with ⟨al, h⟩ | ⟨al, h⟩
  refine Qt rfl al (T.skip (tN (T.seq (T.block (Xk (dV rfl rfl (dK rfl (.f rfl) rfl ?_)))))))
  refine dP rfl (.f rfl) ul126 i41 rfl (dL 2 rfl (.f rfl) F1 rfl (dP rfl (.f rfl) Gz i38 rfl (dL 6 rfl (.f rfl) Z5 rfl (dV rfl rfl ?_))))
  obtain ⟨l, ap, h⟩ := bind_some h
  refine dX m (cI .i64) rfl (.f rfl) Z5 i3 ap rfl (dR rfl (.f rfl) ul3 rfl ?_)
  obtain ⟨a, am, h⟩ := bind_some h
  refine dS (c := ⟨some 71, .el b 9 (Int.toNat l) 0, [(65, .c (.ex b)), (70, .int .i64 l)], [(3, .arrX b 65 9 0 (j.map Qx))], []⟩) (fun t hm => oF rfl rfl (Z8 (n := 3) (xs := j) (f := Qx) (old := a) rfl (dk rfl) F1 i65 hm.s0 hm.o0 hm.s1 am rfl)) rfl rfl (dS (c := ⟨some 72, .el b 9 (Int.toNat l) 7, [(71, .el b 9 (Int.toNat l) 0)], [], []⟩) (fun t hm => oF rfl rfl (K8 rfl (dk rfl) Qbv rfl i4 (by decide) hm.s0 rfl)) rfl rfl (dS (c := ⟨none, .any, [(72, .el b 9 (Int.toNat l) 7)], [(3, .arrX b 65 9 0 (j.map Qx))], [(3, .arrX b 65 9 0 ((List.set j (Int.toNat l) (Q5.mk a.S a.Lo a.Hi a.Rule true a.Next)).map Qx))]⟩) (fun t hm => oF rfl rfl (Wf (i := 3) (xs := j) (f := Qx) (old := a) (new := (Q5.mk a.S a.Lo a.Hi a.Rule true a.Next)) rfl rfl i4 hm.s0 rfl hm.o0 (Zv am).2 (Qf7 _) (nb rfl) rfl rfl)) rfl rfl (dF [0,1,3,7,0,16,0,112,240,511,1023,2047] Q3 rfl (by kernel_rfl) (fun u hu => (Qj (tN (Qm hu (Qq (mw rfl (oI rfl ?_))))))))))
  refine aw rfl (nL (tN ?_))
  refine Qg ?_ (ih x0 aa (wI (ab + (1:Int))) ac ad (List.set j (Int.toNat l) (Q5.mk a.S a.Lo a.Hi a.Rule true a.Next)) af ag ai aj m flx0 q s g b w y p h)
  exact tq rfl rfl
  refine Qo rfl al (T.exit (Qk (Qk (Qu (tN (sR (Qq (mw rfl (oK rfl (oP ul126 i41 rfl (oL 2 F1 rfl ?_)))))))))))
  refine sp rfl (J9 (i := 3) (xs := j) (f := Qx) rfl (dk rfl) F1 rfl rfl (oI rfl (nL (tN ?_))))
  rcases Qh h with ⟨an, h⟩ | ⟨an, h⟩
  cases h
  refine Qo rfl an (T.skip (Qj (tN (Qq (mw rfl (oI rfl (aw rfl (nL (tN ?_)))))))))
  refine Qg ?_ (hgo1 x0 (wI (aa + (1:Int))) ac ad j af ag flx0 q s g b w y h)
  exact tq rfl rfl
theorem Qa6 {r : Qp × Int} (K : Nat) : ∀ (k : Nat), Ff r (W4 K k) := by
 intro k
 induction k with
 | zero =>
  intro x0 q ai aj ab y al flx0 ad af w aa ag ac h
  exact zn h
 | succ k ih =>
  intro x0 q ai aj ab y al flx0 ad af w aa ag ac h
  rw [W4] at h
  refine Za (T.seq (sR (Qq (mw rfl (mw rfl (oU x0 (cL 9 Qs) ul87 rfl (oI rfl ?_)))))))
  refine nL (tN ?_)
  rcases Qh h with ⟨am, h⟩ | ⟨am, h⟩
  refine Qt rfl am (T.skip (tN (T.seq (T.block (T.seq (Qm Yk (Us ?_)))))))
  refine gM rfl (fun _ => .f rfl) (fun _ => rfl) (gM rfl (fun _ => .f rfl) (fun _ => rfl) (gM rfl (fun _ => .f rfl) (fun _ => rfl) ?_))
  obtain ⟨m, an, h⟩ := bind_some h
  refine gX x0 (cL 9 Qs) rfl (fun _ => .f rfl) ul87 i80 an (fun _ => rfl) (gR rfl (fun _ => .f rfl) P1 (fun _ => rfl) (gM rfl (fun _ => .f rfl) (fun _ => rfl) (gM rfl (fun _ => .f rfl) (fun _ => rfl) (gX x0 (cL 9 Qs) rfl (fun _ => .f rfl) ul87 i80 an (fun _ => rfl) (gR rfl (fun _ => .f rfl) P1 (fun _ => rfl) (gN m Qs rfl (fun _ => .f rfl) P1 (fun _ => rfl) ?_))))))
  refine gI rfl (fun _ => .f rfl) (fun _ => rfl) (gM rfl (fun _ => .f rfl) (fun _ => rfl) ?_)
  obtain ⟨j, aq, h⟩ := bind_some h
  refine DGG.step (c := fun a => ⟨some 48, .agg [.bool j.1.null, .sl false 1 (mI j.1.first), .sl false 1 (mI j.1.last)], [(36, .ptr w 0), (40, .sl false 9 (m.map Qs)), (46, .int .i64 (wI ((m.length : Int) - (1:Int)))), (47, .int .i64 q)], [(4, .arrX aa 65 9 0 (ab.map Qx)), (3, (W9 w aa))], [(3, (W9 w ((a 12).1 0))), (4, .arrX ((a 12).1 0) 65 9 0 (j.2.p.map Qx))]⟩) [12] (fun a γ' h => by simp only [h 12 (by decide)]) (fun a t hm => oF rfl rfl (Q6 (is := [3, 4]) (ph := []) rfl (dk rfl) fu66 rfl rfl (Zs.cons hm.s0 (Zs.cons hm.s1 (Zs.cons hm.s2 (Zs.cons hm.s3 Zs.nil)))) (Ig K (bx0 := w) (wx0c0 := aa) (flx1 := false) aq) (.cons hm.o1 rfl (.cons hm.o0 rfl (.nil))) (fun _ => rfl) (fun g => ⟨(g, 0), rfl⟩))) (fun a => Zr rfl rfl) (DGG.step (c := fun a => ⟨some 8, .ptr ((a 13).2) 0, [], [(0, .ro 0 [])], [(0, .box ((a 13).2) 128 [.d (.bool false), .d (.ex (.slice none 0 0)), .d (.ex (.slice none 0 0))])]⟩) [13] (fun a γ' h => by simp only [h 13 (by decide)]) (fun a t hm => oF rfl rfl (Qfo 0 rfl (dk rfl) i128 rfl hm.o0 (fun b => ⟨(fun _ => undef, b), rfl⟩))) (fun a => Zr rfl rfl) (DGG.step (c := fun a => ⟨none, .any, [(8, .ptr ((a 13).2) 0), (48, .agg [.bool j.1.null, .sl false 1 (mI j.1.first), .sl false 1 (mI j.1.last)])], [(0, .box ((a 13).2) 128 [.d (.bool false), .d (.ex (.slice none 0 0)), .d (.ex (.slice none 0 0))])], [(0, .box ((a 13).2) 128 [.d (.bool j.1.null), .d (.sl false 1 (mI j.1.first)), .d (.sl false 1 (mI j.1.last))])]⟩) [13] (fun a γ' h => by simp only [h 13 (by decide)]) (fun a t hm => oF rfl rfl (Qv (i := 0) (cells' := [.d (.bool j.1.null), .d (.sl false 1 (mI j.1.first)), .d (.sl false 1 (mI j.1.last))]) rfl rfl i128 hm.s0 hm.s1 rfl hm.o0 (nb rfl) rfl ⟨u0, rfl⟩)) (fun a => Zr rfl rfl) (gF [0,0,0,6,14,0,0,96,224,480,992,0,4095,0,16383] Q3 rfl (by kernel_rfl) (fun _ => by kernel_rfl) (fun a u hu => (tN (Qm hu (sR (Qq (oP Qbw i38 rfl (oL 5 Z5 rfl ?_))))))))))
  refine oP Gz i38 rfl (oL 0 Z5 rfl ?_)
  obtain ⟨ap, au, h⟩ := bind_some h
  refine oH fu67 (Z1.nil (J5 K (flx0 := false) (flx1 := false) au)) rfl (oP Qbw i38 rfl (sp rfl (V3 (i := 5) (cells' := [.d (.sl false 1 (mI ap)), .d (.ex ac)]) rfl rfl i38 rfl rfl rfl (nb rfl) rfl (nL (tN (T.seq (sR (Qq (aw rfl ?_)))))))))
  refine nL (tN (T.block (T.loop ?_)))
  refine Qg ?_ (Qa5 K (W4 K k) ih K x0 q (0:Int) ai aj j.2.p ap al j.1.null j.1.first j.1.last flx0 ad af w ((a 12).1 0) ag ac ((a 13).2) h)
  exact tr rfl (.c (.s .z) (.c (.s .z) (.c (.s .z) (.c (.s .z) (.c (.s .z) (.c (.s .z) (.c .z (.n _))))))))
  refine Qo rfl am (T.exit (Qk (Qk (Qu (tN (sR (Qq (mw rfl (oK rfl (oP ul126 i41 rfl (oL 2 F1 rfl ?_)))))))))))
  refine oP Qbw i41 rfl (sp rfl (V3 (i := 4) (cells' := [.d (.sl false 1 (mI y)), .d (.ex aa)]) rfl rfl i41 rfl rfl rfl (nb rfl) rfl (nL (tN (sR (Qq (J8 (Gl 3 rfl) (sp rfl (Zi (Fx (i := 4) (l := [.sl false 1 (mI y), .ex aa]) rfl (dk rfl) Qbw rfl i43 rfl rfl rfl rfl rfl) (Zy 85 (l := [.sl false 1 (mI y), .ex aa]) (l' := [.sl false 1 (mI y), .sl false 9 (ab.map Qx)]) (.cons (.same _) (.cons (.view 3 rfl) (.refl _)))) (sp rfl (Qv (i := 0) (cells' := [.d (.sl false 1 (mI y)), .d (.sl false 9 (ab.map Qx))]) rfl rfl i43 rfl rfl rfl rfl (nb rfl) rfl (aw rfl ?_))))))))))))
  refine nL (tN (T.ret (Fin.done (.cons _ _ _ _ (.cellAgg 2 43 _ 0 0 43 _ [.sl false 1 (mI y), .sl false 9 (ab.map Qx)] _ _ 2 _ rfl rfl rfl rfl Qbw rfl i43) (.cons _ _ _ _ (.tmp 3 _ rfl) .nil)) (by cases h; exact ⟨rfl, rfl⟩))))
theorem Qa7 {r : Qp × Int} (K : Nat) : ∀ (k : Nat), ∀ (x0 : List (List Q0)) (b : Int) (flx0 : Bool) (a : Nat), Ls K k x0 b = some r → TL tp 86 (ca [1,1,0,1,0,0] ff37) ⟨[(0, .sl flx0 1 (x0.map (cL 9 Qs))), (2, .ptr a 0), (4, .int .i64 b)], [.box a 43 [.d (.ex (.slice none 0 0)), .d (.ex (.slice none 0 0))]]⟩ (Ry r) := by
 intro k
 induction k with
 | zero =>
  intro x0 b flx0 a h
  exact zn h
 | succ k ih =>
  intro x0 b flx0 a h
  rw [Ls] at h
  refine Za (T.seq (sR (Qq (mw rfl (mw rfl (oU x0 (cL 9 Qs) ul87 rfl (oI rfl ?_)))))))
  refine nL (tN ?_)
  rcases Qh h with ⟨g, h⟩ | ⟨g, h⟩
  refine Qt rfl g (T.skip (tN (T.seq (T.block (sR (Qq (mw rfl (mw rfl ?_))))))))
  obtain ⟨m, p, h⟩ := bind_some h
  refine oX x0 (cL 9 Qs) ul87 i80 p rfl (oR P1 rfl ?_)
  obtain ⟨y, q, h⟩ := bind_some h
  refine oH fu65 (Z1.nil (Qa9 K (flx0 := false) q)) rfl (oT rfl (nL (tN ?_)))
  rcases Qh h with ⟨j, h⟩ | ⟨j, h⟩
  cases h
  refine Qo rfl j (T.skip (Qj (tN (Qq (mw rfl (oI rfl (aw rfl (nL (tN ?_)))))))))
  refine Qg ?_ (ih x0 (wI (b + (1:Int))) flx0 a h)
  exact tq rfl rfl
  refine Qo rfl g (T.exit (Qk (Qk (Qu (tN (sR (Qq (sp rfl (OpT.build (l := [.ex (.slice none 0 0)]) rfl (dk rfl) (Zp (pl := [(0, 1)]) ul126 i126 rfl) (Hb rfl) rfl rfl (sp rfl (Zw rfl (dk rfl) rfl (fun u => (aw rfl (nL (tN (sR (Qq ?_)))))))))))))))))
  refine sp rfl (Zi (OpT.build (l := [.ex (.slice none 0 0), .ex (.slice none 0 0)]) rfl (dk rfl) (Zp (pl := [(0, 1), (1, 1)]) Qbw i43 rfl) (Hb rfl) rfl rfl rfl) (Zy 29 (l := [.ex (.slice none 0 0), .ex (.slice none 0 0)]) (l' := [.sl false 1 (([] : List Int).map (cI .i64)), .ex (.slice none 0 0)]) (.cons (.nil _ _) (.cons (.same _) (.refl _)))) (sp rfl (Zg rfl (dk rfl) i43 rfl (fun w => (sp rfl (Qv (i := 0) (cells' := [.d (.sl false 1 (([] : List Int).map (cI .i64))), .d (.ex (.slice none 0 0))]) rfl rfl i43 rfl rfl rfl rfl (nb rfl) rfl (nL (tN (T.seq (sR (Qq (aw rfl ?_))))))))))))
  refine nL (tN (T.block (T.loop (Qg (Y2 65 9) (Qg (Jb 3 (l := [.ex (.slice none 0 0), .ex (Tp 16)]) (l' := [.sl false 1 (([] : List Int).map (cI .i64)), .ex (Tp 16)]) rfl (.cons (.nil _ _) (.cons (.same _) (.refl _)))) (Qg (Te 65 9) (Qg (Y2 65 9) ?_)))))))
  refine Qg ?_ (Qa6 K K x0 (0:Int) [] [] [] [] [] flx0 a (Tp 16) u (Tp 17) w (Tp 18) h)
  exact tr rfl (.c (.s (.s (.s (.s (.s .z))))) (.c (.s (.s .z)) (.c (.s (.s (.s .z))) (.c (.s .z) (.c (.s .z) (.c .z (.n _)))))))
theorem Qd9 (K : Nat) {x0 : List (List Q0)} {flx0 : Bool} {r : Qp × Int} (h : No K x0 = some r) : Z1 tp 37 [.sl flx0 1 (x0.map (cL 9 Qs))] [] (.tup [.agg [.sl false 1 (mI r.1.First), .sl false 9 (r.1.P.map Qx)], .int .i64 r.2]) := by
 refine CI 86 fu37 rfl ?_
 unfold No at h
 refine sR (Qq (sp rfl (Zg rfl (dk rfl) i43 rfl (fun b => (aw rfl (nL (tN (T.seq (sR (Qq (mw rfl ?_)))))))))))
 refine oU x0 (cL 9 Qs) ul87 rfl (oI rfl (nL (tN ?_)))
 rcases Qh h with ⟨a, h⟩ | ⟨a, h⟩
 cases h
 refine Qo rfl a (T.skip (tN (T.seq (sR (Qq (aw rfl (nL (tN (T.block ?_)))))))))
 refine T.loop ?_
 refine Qg ?_ (Qa7 K K x0 (0:Int) flx0 b h)
 exact tq rfl rfl
abbrev Qa3 (r : Bool) : ES := Jz tp ff77 (fun y t => y = (.bool r) ∧ t = [])
abbrev Rt (r : Bool) : ES := fT 41 [1,1] ff77 (Qa3 r)
abbrev Mc (r : Bool) : ES := Qz 0 ((Rt r))
abbrev Ol (r : Bool) : ES := fL 41 [1,0,1,0,0] ff77 (Mc r)
abbrev Fa (r : Bool) : ES := fT 41 [1,0,1,0,0,1,1] ff77 (Ol r)
abbrev B4 (r : Bool) : ES := Qz 1 ((Fa r))
theorem Gq {r : Bool} (K : Nat) (h : Vy K = some r) : T tp 41 (ca [1,0,1,0,0,1,0,0,1,0] ff77) ⟨[], []⟩ (B4 r) := by
 unfold Vy at h
 refine sR (Qq (aw rfl (nL (tN (T.ret (Q7 (Qy (Qy (Q7 (Qy (fd rfl (by cases h; exact ⟨rfl, rfl⟩))))))))))))
theorem Ru {r : Bool} (K : Nat) : ∀ (k : Nat), ∀ (x0 : List Int) (x1 b : Int) (flx0 : Bool), X5 K k x0 x1 b = some r → TL tp 41 (ca [1,0,1,0,0] ff77) ⟨[(0, .sl flx0 1 (mI x0)), (1, .int .i64 x1), (5, .int .i64 b)], []⟩ (Mc r) := by
 intro k
 induction k with
 | zero =>
  intro x0 x1 b flx0 h
  exact zn h
 | succ k ih =>
  intro x0 x1 b flx0 h
  rw [X5] at h
  refine Za (T.seq (sR (Qq (mw rfl (mw rfl (oU x0 (cI .i64) Z5 rfl (oI rfl ?_)))))))
  refine nL (tN ?_)
  rcases Qh h with ⟨l, h⟩ | ⟨l, h⟩
  refine Qt rfl l (T.skip (tN (T.seq (T.block (T.seq (Xk (dV rfl rfl ?_)))))))
  refine dV rfl rfl ?_
  obtain ⟨a, m, h⟩ := bind_some h
  refine dX x0 (cI .i64) rfl (.f rfl) Z5 i3 m rfl (dR rfl (.f rfl) ul3 rfl (dI rfl (.f rfl) rfl (dV rfl rfl ?_)))
  rcases Qh h with ⟨g, h⟩ | ⟨g, h⟩
  refine dO g rfl rfl (dO g rfl rfl (dO g rfl rfl (dO g rfl rfl (dO g rfl rfl (dO g rfl rfl (dY rfl (.f rfl) g rfl ?_))))))
  refine dV rfl rfl (dO rfl rfl rfl (dO rfl rfl rfl (dO rfl rfl rfl (dG rfl rfl (dG rfl rfl (dG rfl rfl ?_))))))
  refine dG rfl rfl (dG rfl rfl (dG rfl rfl (dG rfl rfl (dG rfl rfl (dG rfl rfl (dG rfl rfl ?_))))))
  refine dO rfl rfl rfl (dY rfl (.f rfl) rfl rfl (dF [0,0,3,7,15,31,63,63,255,511,63,2047,4095,8191,16383,32767,65535,131071,131071,393215,1048575,2097151,131071,131071,12713983,29491199,67108863,134217727,268435455] Q3 rfl (by kernel_rfl) (fun u hu => (tN (Qm hu (Qt rfl rfl ?_))))))
  refine Qm ?_ (Gq K h)
  exact tq rfl rfl
  refine dM rfl (.n g rfl) rfl (dM rfl (.n g rfl) rfl (dX x0 (cI .i64) rfl (.n g rfl) Z5 i3 m rfl (dR rfl (.n g rfl) ul3 rfl (dM rfl (.n g rfl) rfl (dI rfl (.n g rfl) rfl (dZ rfl (.f rfl) g rfl ?_))))))
  refine dV rfl rfl ?_
  rcases Qh h with ⟨j, h⟩ | ⟨j, h⟩
  refine dO j rfl rfl (dO j rfl rfl (dO j rfl rfl (dG rfl rfl (dG rfl rfl (dG rfl rfl (dG rfl rfl ?_))))))
  refine dG rfl rfl (dG rfl rfl (dG rfl rfl (dG rfl rfl (dG rfl rfl (dG rfl rfl (dO j rfl rfl ?_))))))
  refine dY rfl (.f rfl) j rfl (dF [0,0,3,7,15,31,63,63,255,511,63,2047,4095,8191,16383,32767,65535,131071,131071,393215,1048575,2097151,131071,131071,12713983,29491199,67108863,134217727,268435455] Q3 rfl (by kernel_rfl) (fun u hu => (tN (Qm hu (Qt rfl rfl ?_)))))
  refine Qm ?_ (Gq K h)
  exact tq rfl rfl
  refine dM rfl (.n j rfl) rfl (dI rfl (.n j rfl) rfl (dM rfl (.n j rfl) rfl ?_))
  rcases Qh h with ⟨d, h⟩ | ⟨d, h⟩
  refine dM rfl (.n d rfl) rfl (dM rfl (.n d rfl) rfl (dI rfl (.n d rfl) rfl ?_))
  obtain ⟨i, q, h⟩ := bind_some h
  refine dX x0 (cI .i64) rfl (.n d rfl) Z5 i3 q rfl (dR rfl (.n d rfl) ul3 rfl (dM rfl (.n d rfl) rfl (dM rfl (.n d rfl) rfl (dX x0 (cI .i64) rfl (.n d rfl) Z5 i3 m rfl (dR rfl (.n d rfl) ul3 rfl (dI rfl (.n d rfl) rfl ?_))))))
  refine dY rfl (.n j rfl) d rfl (dZ rfl (.f rfl) j rfl (dF [0,0,3,7,15,31,63,63,255,511,63,2047,4095,8191,16383,32767,65535,131071,131071,393215,1048575,2097151,131071,131071,12713983,29491199,67108863,134217727,268435455] Q3 rfl (by kernel_rfl) (fun u hu => (tN (Qm hu ?_)))))
  rcases Qh h with ⟨p, h⟩ | ⟨p, h⟩
  refine Qt rfl p ?_
  refine Qm ?_ (Gq K h)
  exact tq rfl rfl
  refine Qo rfl p (T.skip (Qj (tN (Qq (mw rfl (oI rfl (aw rfl (nL (tN ?_)))))))))
  refine Qg ?_ (ih x0 x1 (wI (b + (1:Int))) flx0 h)
  exact tq rfl rfl
  refine dO d rfl rfl (dO d rfl rfl (dO d rfl rfl (dO d rfl rfl (dO d rfl rfl (dO d rfl rfl (dO d rfl rfl ?_))))))
  refine dO d rfl rfl (dO d rfl rfl (dO d rfl rfl (dZ rfl (.n j rfl) d rfl (dZ rfl (.f rfl) j rfl (dF [0,0,3,7,15,31,63,63,255,511,63,2047,4095,8191,16383,32767,65535,131071,131071,393215,1048575,2097151,131071,131071,12713983,29491199,67108863,134217727,268435455] Q3 rfl (by kernel_rfl) (fun u hu => (tN (Qm hu (Qo rfl rfl ?_)))))))))
  refine T.skip (Qj (tN (Qq (mw rfl (oI rfl (aw rfl (nL (tN ?_))))))))
  refine Qg ?_ (ih x0 x1 (wI (b + (1:Int))) flx0 h)
  exact tq rfl rfl
  refine Qo rfl l (T.exit (Qk (Qk (Qu (tN (sR (Qq (aw rfl (nL (tN (T.ret (fd rfl (by cases h; exact ⟨rfl, rfl⟩)))))))))))))
theorem Fb (K : Nat) {x0 : List Int} {x1 : Int} {flx0 r : Bool} (h : Jd K x0 x1 = some r) : Z1 tp 77 [.sl flx0 1 (mI x0), .int .i64 x1] [] (.bool r) := by
 refine CI 41 fu77 rfl ?_
 unfold Jd at h
 refine sR (Qq (aw rfl (nL (tN (T.seq (sR (Qq (aw rfl (nL (tN ?_))))))))))
 refine T.block (T.loop ?_)
 refine Qg ?_ (Ru K K x0 x1 (0:Int) flx0 h)
 exact tq rfl rfl
abbrev Fe (r : Bool) : ES := Jz tp ff44 (fun y t => y = (.bool r) ∧ t = [])
abbrev Rw (r : Bool) : ES := fT 70 [1,1] ff44 (Fe r)
abbrev Ph (r : Bool) : ES := fT 70 [1,1,1] ff44 (Fe r)
abbrev Kn (r : Bool) : ES := Qz 0 ((Ph r))
abbrev Nl (r : Bool) : ES := fL 70 [1,1,0,1,0,0] ff44 (Kn r)
abbrev D8 (r : Bool) : ES := fT 70 [1,1,0,1,0,0,1,1] ff44 (Nl r)
abbrev Bf (r : Bool) : ES := Qz 1 ((D8 r))
theorem Bu {r : Bool} (K : Nat) (h : U4 K = some r) : T tp 70 (ca [1,0,1,0] ff44) ⟨[], []⟩ (Rw r) := by
 unfold U4 at h
 refine sR (Qq (aw rfl (nL (tN (T.ret (Qy (fd rfl (by cases h; exact ⟨rfl, rfl⟩))))))))
theorem Xf {r : Bool} (K : Nat) (h : Yj K = some r) : T tp 70 (ca [1,1,0,1,0,0,1,0,0,1,1,0] ff44) ⟨[], []⟩ (Bf r) := by
 unfold Yj at h
 refine sR (Qq (aw rfl (nL (tN (T.ret (Q7 (Qy (Qy (Q7 (Qy (fd rfl (by cases h; exact ⟨rfl, rfl⟩))))))))))))
theorem Rx {r : Bool} (K : Nat) : ∀ (k : Nat), ∀ (u : Int) (x0 : Qp) (w : Nat), X6 K k u x0 = some r → TL tp 70 (ca [1,1,0,1,0,0] ff44) ⟨[(1, .ptr w 0), (3, .int .i64 u)], [.box w 43 [.d (.sl false 1 (mI x0.First)), .d (.sl false 9 (x0.P.map Qx))]]⟩ (Kn r) := by
 intro k
 induction k with
 | zero =>
  intro u x0 w h
  exact zn h
 | succ k ih =>
  intro u x0 w h
  rw [X6] at h
  refine Za (T.seq (sR (Qq (mw rfl (oP Qbw i41 rfl (oL 0 F1 rfl (oU x0.P Qx F1 rfl ?_)))))))
  refine oI rfl (nL (tN ?_))
  rcases Qh h with ⟨y, h⟩ | ⟨y, h⟩
  refine Qt rfl y (T.skip (tN (T.seq (T.block (sR (Qq (oP Qbw i41 rfl (oL 0 F1 rfl ?_))))))))
  refine mw rfl ?_
  obtain ⟨b, ab, h⟩ := bind_some h
  refine oX x0.P Qx F1 i65 ab rfl (oJ Qbv i65 rfl (sp rfl (Zg rfl (dk rfl) i65 rfl (fun ad => (sp rfl (Qv (i := 0) (cells' := [.d (.int .u64 b.S.a0), .d (.int .u64 b.S.a1), .d (.int .u64 b.S.a2), .d (.int .u64 b.S.a3), .d (.int .i64 b.Lo), .d (.int .i64 b.Hi), .d (.int .i64 b.Rule), .d (.bool b.Last), .d (.sl false 1 (mI b.Next))]) rfl rfl i65 rfl rfl rfl rfl (nb rfl) rfl (nL (tN (sR (Qq (oP Qbv i63 rfl (oA 0 (Zh.dc .u64 b.S) Qdo i63 rfl ?_))))))))))))
  refine sp rfl (OpT.build (l := (Zh.dc .u64 (Zh.mk 0 0 0 0))) rfl (dk rfl) (Qcn Qdo i63 i61) (Hb rfl) rfl rfl (sp rfl (OpT.intsEql (k := .u64) (xs := [b.S.a0, b.S.a1, b.S.a2, b.S.a3]) (ys := [(Zh.mk 0 0 0 0).a0, (Zh.mk 0 0 0 0).a1, (Zh.mk 0 0 0 0).a2, (Zh.mk 0 0 0 0).a3]) rfl (dk rfl) Qdo ul61 i61 Tryz.eqGuardType63 rfl rfl rfl rfl rfl rfl (Qdy b.S (Zh.mk 0 0 0 0)) (mw rfl ?_))))
  rcases Qh h with ⟨j, h⟩ | ⟨j, h⟩
  refine pf rfl j (pf rfl j (pf rfl j (oY j rfl (mw rfl (pf rfl rfl (pf rfl rfl ?_))))))
  refine pf rfl rfl (pf rfl rfl (pf rfl rfl (oY rfl rfl (mw rfl (pf rfl rfl (pf rfl rfl ?_))))))
  refine pf rfl rfl (oY rfl rfl (mw rfl (pf rfl rfl (pf rfl rfl (pf rfl rfl (oY rfl rfl ?_))))))
  refine mw rfl (pf rfl rfl (pf rfl rfl (pf rfl rfl (oY rfl rfl (mw rfl (pf rfl rfl ?_))))))
  refine pf rfl rfl (pf rfl rfl (pf rfl rfl (pf rfl rfl (pf rfl rfl (pf rfl rfl (oY rfl rfl ?_))))))
  refine nL (tN (Qt rfl rfl ?_))
  refine Qm ?_ (Xf K h)
  exact tq rfl rfl
  refine sn rfl j (Ur rfl (dk rfl) Qbv rfl i3 (by decide) rfl (sn rfl j (Yr (i := 0) rfl (dk rfl) ul3 rfl rfl rfl rfl (sn rfl j (Z9 rfl rfl (dk rfl) rfl rfl (oZ j rfl (mw rfl ?_)))))))
  rcases Qh h with ⟨g, h⟩ | ⟨g, h⟩
  refine pf rfl g (pf rfl g (pf rfl g (pf rfl g (pf rfl g (oY g rfl (mw rfl ?_))))))
  refine pf rfl rfl (pf rfl rfl (pf rfl rfl (oY rfl rfl (mw rfl (pf rfl rfl (pf rfl rfl ?_))))))
  refine pf rfl rfl (oY rfl rfl (mw rfl (pf rfl rfl (pf rfl rfl (pf rfl rfl (oY rfl rfl ?_))))))
  refine mw rfl (pf rfl rfl (pf rfl rfl (pf rfl rfl (pf rfl rfl (pf rfl rfl (pf rfl rfl ?_))))))
  refine pf rfl rfl (oY rfl rfl (nL (tN (Qt rfl rfl ?_))))
  refine Qm ?_ (Xf K h)
  exact tq rfl rfl
  refine sn rfl g (Ur rfl (dk rfl) Qbv rfl i3 (by decide) rfl (sn rfl g (Yr (i := 0) rfl (dk rfl) ul3 rfl rfl rfl rfl (sn rfl g (Ur rfl (dk rfl) Qbv rfl i3 (by decide) rfl (sn rfl g (Yr (i := 0) rfl (dk rfl) ul3 rfl rfl rfl rfl (sn rfl g (Z9 rfl rfl (dk rfl) rfl rfl (oZ g rfl (mw rfl ?_)))))))))))
  rcases Qh h with ⟨m, h⟩ | ⟨m, h⟩
  refine pf rfl m (pf rfl m (pf rfl m (oY m rfl (mw rfl (pf rfl rfl (pf rfl rfl ?_))))))
  refine pf rfl rfl (oY rfl rfl (mw rfl (pf rfl rfl (pf rfl rfl (pf rfl rfl (oY rfl rfl ?_))))))
  refine mw rfl (pf rfl rfl (pf rfl rfl (pf rfl rfl (pf rfl rfl (pf rfl rfl (pf rfl rfl ?_))))))
  refine pf rfl rfl (oY rfl rfl (nL (tN (Qt rfl rfl ?_))))
  refine Qm ?_ (Xf K h)
  exact tq rfl rfl
  refine sn rfl m (Ur rfl (dk rfl) Qbv rfl i3 (by decide) rfl (sn rfl m (Yr (i := 0) rfl (dk rfl) ul3 rfl rfl rfl rfl (sn rfl m (Z9 rfl rfl (dk rfl) rfl rfl (oZ m rfl (mw rfl ?_)))))))
  rcases Qh h with ⟨p, h⟩ | ⟨p, h⟩
  refine pf rfl p (pf rfl p (pf rfl p (oY p rfl (mw rfl (pf rfl rfl (pf rfl rfl ?_))))))
  refine pf rfl rfl (oY rfl rfl (mw rfl (pf rfl rfl (pf rfl rfl (pf rfl rfl (pf rfl rfl ?_))))))
  refine pf rfl rfl (pf rfl rfl (pf rfl rfl (oY rfl rfl (nL (tN (Qt rfl rfl ?_))))))
  refine Qm ?_ (Xf K h)
  exact tq rfl rfl
  refine sn rfl p (Ur rfl (dk rfl) Qbv rfl i3 (by decide) rfl (sn rfl p (Yr (i := 0) rfl (dk rfl) ul3 rfl rfl rfl rfl (sn rfl p (Z9 rfl rfl (dk rfl) rfl rfl (oZ p rfl (mw rfl ?_)))))))
  rcases Qh h with ⟨q, h⟩ | ⟨q, h⟩
  refine pf rfl q (pf rfl q (pf rfl q (oY q rfl (mw rfl (pf rfl rfl (pf rfl rfl ?_))))))
  refine pf rfl rfl (pf rfl rfl (pf rfl rfl (pf rfl rfl (pf rfl rfl (oY rfl rfl (nL (tN ?_)))))))
  refine Qt rfl rfl ?_
  refine Qm ?_ (Xf K h)
  exact tq rfl rfl
  refine sn rfl q (Ur rfl (dk rfl) Qbv rfl i3 (by decide) rfl (sn rfl q (Yr (i := 0) rfl (dk rfl) ul3 rfl rfl rfl rfl (sn rfl q (Z9 rfl rfl (dk rfl) rfl rfl (oZ q rfl (mw rfl ?_)))))))
  rcases Qh h with ⟨a, h⟩ | ⟨a, h⟩
  refine pf rfl a (pf rfl a (pf rfl a (pf rfl a (pf rfl a (pf rfl a (pf rfl a ?_))))))
  refine oY a rfl (nL (tN (Qt rfl rfl ?_)))
  refine Qm ?_ (Xf K h)
  exact tq rfl rfl
  refine sn rfl a (Ur rfl (dk rfl) Qbv rfl i38 (by decide) rfl (sn rfl a (Yr (i := 0) rfl (dk rfl) Z5 rfl rfl rfl rfl (sn rfl a (Ur rfl (dk rfl) Qbw rfl i41 (by decide) rfl (sn rfl a (Yr (i := 1) rfl (dk rfl) F1 rfl rfl rfl rfl (sn rfl a (Vm (xs := x0.P) (f := Qx) rfl (dk rfl) F1 rfl ?_)))))))))
  obtain ⟨af, ac, h⟩ := bind_some h
  refine sn rfl a (Jh rfl (dk rfl) fu77 rfl rfl (Zs.cons rfl (Zs.cons rfl Zs.nil)) (Z1.nil (Fb K (flx0 := false) ac)) (sn rfl a (OpT.not rfl (dk rfl) rfl (oZ a rfl (nL (tN ?_))))))
  rcases Qh h with ⟨aa, h⟩ | ⟨aa, h⟩
  refine Qt rfl aa ?_
  refine Qm ?_ (Xf K h)
  exact tq rfl rfl
  refine Qo rfl aa (T.skip (Qj (tN (Qq (mw rfl (oI rfl (aw rfl (nL (tN ?_)))))))))
  refine Qg ?_ (ih (wI (u + (1:Int))) x0 w h)
  exact tr rfl (.c (.s .z) (.n _))
  refine Qo rfl y (T.exit (Qk (Qk (Qu (tN (sR (Qq (aw rfl (nL (tN (T.ret (fd rfl (by cases h; exact ⟨rfl, rfl⟩)))))))))))))
theorem Qa4 (K : Nat) {x0 : Qp} {r : Bool} (h : Uh K x0 = some r) : Z1 tp 44 [.agg [.sl false 1 (mI x0.First), .sl false 9 (x0.P.map Qx)]] [] (.bool r) := by
 refine CI 70 fu44 rfl ?_
 unfold Uh at h
 refine sR (Qq (sp rfl (Zw rfl (dk rfl) rfl (fun d => (aw rfl (nL (tN (T.seq (sR (Qq (oP Qbw i41 rfl ?_)))))))))))
 refine oL 0 F1 rfl (oU x0.P Qx F1 rfl (oI rfl (mw rfl ?_)))
 rcases Qh h with ⟨a, h⟩ | ⟨a, h⟩
 refine pf rfl a (pf rfl a (pf rfl a (pf rfl a (pf rfl a (pf rfl a (pf rfl a ?_))))))
 refine oY a rfl (nL (tN (Qt rfl rfl ?_)))
 refine Qm ?_ (Bu K h)
 exact tq rfl rfl
 refine sn rfl a (Ur rfl (dk rfl) Qbw rfl i38 (by decide) rfl (sn rfl a (Yr (i := 0) rfl (dk rfl) Z5 rfl rfl rfl rfl (sn rfl a (Ur rfl (dk rfl) Qbw rfl i41 (by decide) rfl (sn rfl a (Yr (i := 0) rfl (dk rfl) F1 rfl rfl rfl rfl (sn rfl a (Vm (xs := x0.P) (f := Qx) rfl (dk rfl) F1 rfl ?_)))))))))
 obtain ⟨j, g, h⟩ := bind_some h
 refine sn rfl a (Jh rfl (dk rfl) fu77 rfl rfl (Zs.cons rfl (Zs.cons rfl Zs.nil)) (Z1.nil (Fb K (flx0 := false) g)) (sn rfl a (OpT.not rfl (dk rfl) rfl (oZ a rfl (nL (tN ?_))))))
 rcases Qh h with ⟨b, h⟩ | ⟨b, h⟩
 refine Qt rfl b ?_
 refine Qm ?_ (Bu K h)
 exact tq rfl rfl
 refine Qo rfl b (T.skip (tN (T.seq (sR (Qq (aw rfl (nL (tN (T.block ?_)))))))))
 refine T.loop ?_
 refine Qg ?_ (Rx K K (0:Int) x0 d h)
 exact tq rfl rfl
abbrev Qbg (r : Bool) : ES := Jz tp ff78 (fun y t => y = (.bool r) ∧ t = [])
abbrev R5 (r : Bool) : ES := fT 27 [1,1] ff78 (Qbg r)
abbrev Ou (r : Bool) : ES := Qz 0 ((R5 r))
theorem R6 {r : Bool} (K : Nat) : ∀ (k : Nat), ∀ (x0 : List Zh) (x1 x2 b : Int) (flx0 : Bool), X7 K k x0 x1 x2 b = some r → TL tp 27 (ca [1,0,1,0,0] ff78) ⟨[(0, .sl flx0 4 (x0.map (Zh.dc .u64))), (1, .int .u8 x1), (2, .int .u8 x2), (7, .int .i64 b)], []⟩ (Ou r) := by
 intro k
 induction k with
 | zero =>
  intro x0 x1 x2 b flx0 h
  exact zn h
 | succ k ih =>
  intro x0 x1 x2 b flx0 h
  rw [X7] at h
  refine Za (T.seq (sR (Qq (mw rfl (mw rfl (oU x0 (Zh.dc .u64) ul99 rfl (oI rfl ?_)))))))
  refine nL (tN ?_)
  rcases Qh h with ⟨i, h⟩ | ⟨i, h⟩
  refine Qt rfl i (T.skip (tN (T.seq (T.block (T.seq (Xk (dV rfl rfl ?_)))))))
  refine dV rfl rfl ?_
  obtain ⟨a, l, h⟩ := bind_some h
  refine dX x0 (Zh.dc .u64) rfl (.f rfl) ul99 i63 l rfl (dJ rfl (.f rfl) Qdo i63 rfl (dV rfl rfl ?_))
  obtain ⟨d, m, h⟩ := bind_some h
  refine dH fu81 (Z1.nil (W6 K m)) rfl (.f rfl) rfl (dV rfl rfl (dV rfl rfl (dX x0 (Zh.dc .u64) rfl (.f rfl) ul99 i63 l rfl (dJ rfl (.f rfl) Qdo i63 rfl (dV rfl rfl ?_)))))
  obtain ⟨g, p, h⟩ := bind_some h
  refine dH fu81 (Z1.nil (W6 K p)) rfl (.f rfl) rfl (dS (c := ⟨some 26, .bool (!(d == g)), [(19, .bool d), (25, .bool g)], [], []⟩) (fun t hm => oF rfl rfl (OpT.bool_neq rfl (dk rfl) ul4 hm.s0 hm.s1 rfl)) rfl rfl (dF [0,0,3,7,0,31,0,0,192,448,0,2047,4095] Q3 rfl (by kernel_rfl) (fun u hu => (tN (Qm hu ?_)))))
  rcases Qh h with ⟨j, h⟩ | ⟨j, h⟩
  refine Qt rfl j (sR (Qq (aw rfl (nL (tN (T.ret (Q7 (Qy (Qy (Q7 (Qy (fd rfl (by cases h; exact ⟨rfl, rfl⟩)))))))))))))
  refine Qo rfl j (T.skip (Qj (tN (Qq (mw rfl (oI rfl (aw rfl (nL (tN ?_)))))))))
  refine Qg ?_ (ih x0 x1 x2 (wI (b + (1:Int))) flx0 h)
  exact tq rfl rfl
  refine Qo rfl i (T.exit (Qk (Qk (Qu (tN (sR (Qq (aw rfl (nL (tN (T.ret (fd rfl (by cases h; exact ⟨rfl, rfl⟩)))))))))))))
theorem Qbh (K : Nat) {x0 : List Zh} {x1 x2 : Int} {flx0 r : Bool} (h : Lx K x0 x1 x2 = some r) : Z1 tp 78 [.sl flx0 4 (x0.map (Zh.dc .u64)), .int .u8 x1, .int .u8 x2] [] (.bool r) := by
 refine CI 27 fu78 rfl ?_
 unfold Lx at h
 refine sR (Qq (aw rfl (nL (tN (T.seq (sR (Qq (aw rfl (nL (tN ?_))))))))))
 refine T.block (T.loop ?_)
 refine Qg ?_ (R6 K K x0 x1 x2 (0:Int) flx0 h)
 exact tq rfl rfl
abbrev Qec (r : Q4) : ES := Jz tp ff45 (fun y t => y = (.agg ((Zn.dc 256 .u8 r.Of) ++ (([.int .i64 r.Many] : List DC)))) ∧ t = [])
abbrev S5 (r : Q4) : ES := fT 47 [1,1,1,1] ff45 (Qec r)
abbrev M1 (r : Q4) : ES := Qz 0 ((S5 r))
abbrev Pn (r : Q4) : ES := fL 47 [1,1,1,0,1,0,0] ff45 (M1 r)
abbrev Im (r : Q4) : ES := fT 47 [1,1,1,0,1,0,0,1,1] ff45 (Pn r)
abbrev Ho (r : Q4) : ES := Qz 1 ((Im r))
abbrev Dp (r : Q4) : ES := fT 47 [1,1,1,0,1,0,0,1,0,0,1,1] ff45 (Ho r)
abbrev K4 (r : Q4) : ES := Qz 2 ((Dp r))
abbrev K5 (r : Q4) (go : (List Zh) → Int → Zn → Zn → (List Int) → Option Q4) : Prop := ∀ (x0 : List Zh) (a : Int) (b f : Zn) (g : List Int) (flx0 : Bool) (i j : Nat) (l : Value), go x0 a b f g = some r → TL tp 47 (ca [1,1,1,0,1,0,0] ff45) ⟨[(0, .sl flx0 4 (x0.map (Zh.dc .u64))), (2, .ptr i 0), (3, .ptr j 0), (4, .c (.ex l)), (5, .int .i64 a)], [(b24x5 i b (0:Int)), (b24x5 j f (0:Int)), .arrA l 5 1 (mU g)]⟩ (M1 r)
theorem Hy {r : Q4} (K : Nat) (go0 : (List Zh) → Int → Zn → Zn → (List Int) → Option Q4) (hgo0 : K5 r go0) (x0 : List Zh) (g j : Int) (l b : Zn) (m : List Int) (flx0 : Bool) (p q : Nat) (s : Value) (h : Vl K go0 x0 g j l b m = some r) : T tp 47 (ca [1,1,1,0,1,0,0,1,0,0,1,1,1] ff45) ⟨[(0, .sl flx0 4 (x0.map (Zh.dc .u64))), (2, .ptr p 0), (3, .ptr q 0), (4, .c (.ex s)), (5, .int .i64 g), (6, .int .i64 j)], [(b24x5 p l (0:Int)), (b24x5 q b (0:Int)), .arrA s 5 1 (mU m)]⟩ (Ho r) := by
 unfold Vl at h
 refine Qq (mw rfl (mw rfl (sp rfl (Uj rfl (dk rfl) ul3 ul5 rfl (oP ul24 i22 rfl ?_)))))
 obtain ⟨f, h⟩ := Q9 h
 refine sp rfl (Uq rfl (dk rfl) ul22 i5 rfl rfl f.1 f.2 (sp rfl (V3 (i := 1) (cells' := ((Zn.oc 256 .u8 (Zn.set b g (IntKind.u8.wrap j))) ++ (([.d (.int .i64 (0:Int))]:List OC)))) rfl rfl i5 rfl rfl rfl (Zn.oc_lt (n := 256) (k := .u8) (a := b) (pre := []) (post := [.d (.int .i64 (0:Int))]) f.1 f.2) (Zn.oc_set (n := 256) (k := .u8) (a := b) (pre := []) (post := [.d (.int .i64 (0:Int))]) f.1 f.2) (nL (Qj (tN (Qq (mw rfl (oI rfl (aw rfl ?_))))))))))
 refine nL (tN ?_)
 refine Qg ?_ (hgo0 x0 (wI (g + (1:Int))) l (Zn.set b g (IntKind.u8.wrap j)) m flx0 p q s h)
 exact tq rfl rfl
theorem Qbi {r : Q4} (K : Nat) (go0 : (List Zh) → Int → Zn → Zn → (List Int) → Option Q4) (hgo0 : K5 r go0) : ∀ (k : Nat), ∀ (x0 : List Zh) (b j : Int) (l m : Zn) (g : List Int) (flx0 : Bool) (p q : Nat) (s : Value), Yz K go0 k x0 b j l m g = some r → TL tp 47 (ca [1,1,1,0,1,0,0,1,0,0,1,0,0,0] ff45) ⟨[(0, .sl flx0 4 (x0.map (Zh.dc .u64))), (2, .ptr p 0), (3, .ptr q 0), (4, .c (.ex s)), (5, .int .i64 b), (6, .int .i64 j)], [(b24x5 p l (0:Int)), (b24x5 q m (0:Int)), .arrA s 5 1 (mU g)]⟩ (K4 r) := by
 intro k
 induction k with
 | zero =>
  intro x0 b j l m g flx0 p q s h
  exact zn h
 | succ k ih =>
  intro x0 b j l m g flx0 p q s h
  rw [Yz] at h
  refine Za (T.seq (sR (Qq (mw rfl (mw rfl (sp rfl (Hc (i := 2) (xs := g) (f := (cI .u8)) rfl (dk rfl) Mt rfl rfl (oI rfl ?_))))))))
  refine mw rfl ?_
  rcases Qh h with ⟨a, h⟩ | ⟨a, h⟩
  refine sn rfl a (OpT.move rfl (dk rfl) rfl (sn rfl a (OpT.move rfl (dk rfl) rfl (sn rfl a (OpT.move rfl (dk rfl) rfl (J8 (Zx.view 18 2 rfl rfl) ?_))))))
  obtain ⟨aa, ab, h⟩ := bind_some h
  refine sn rfl a (Lh (xs := g) (f := (cI .u8)) (v := aa) rfl (dk rfl) Mt i5 rfl rfl ab (sn rfl a (K7 rfl (dk rfl) ul5 rfl rfl rfl (sn rfl a (OpT.move rfl (dk rfl) rfl (sn rfl a (Uj rfl (dk rfl) ul3 ul5 rfl ?_)))))))
  obtain ⟨aj, ac, h⟩ := bind_some h
  refine sn rfl a (Jh rfl (dk rfl) fu78 rfl rfl (Zs.cons rfl (Zs.cons rfl (Zs.cons rfl Zs.nil))) (Z1.nil (Qbh K (flx0 := flx0) ac)) (sn rfl a (OpT.not rfl (dk rfl) rfl (oY a rfl (nL (tN ?_))))))
  rcases Qh h with ⟨u, h⟩ | ⟨u, h⟩
  refine Qt rfl u (T.skip (tN (T.block (Qq (mw rfl (oI rfl (aw rfl ?_)))))))
  refine nL (Qj (tN ?_))
  refine Qg ?_ (ih x0 b (wI (j + (1:Int))) l m g flx0 p q s h)
  exact tq rfl rfl
  refine Qo rfl u (T.exit (Qk (Qk (Qu (tN (T.seq (sR (Qq (mw rfl (mw rfl (sp rfl (Hc (i := 2) (xs := g) (f := (cI .u8)) rfl (dk rfl) Mt rfl rfl ?_))))))))))))
  refine oI rfl (nL (tN ?_))
  rcases Qh h with ⟨w, h⟩ | ⟨w, h⟩
  refine Qt rfl w (Qq (mw rfl (mw rfl (sp rfl (Uj rfl (dk rfl) ul3 ul5 rfl (sp rfl (OpT.buildSlice (elems := ([(IntKind.u8.wrap b)] : List Int).map (cI .u8)) rfl (dk rfl) Mt i5 (by decide) rfl (Hb rfl) rfl rfl rfl (Xh rfl) (by decide) ?_)))))))
  obtain ⟨ad, h⟩ := Q9 h
  refine sp rfl (Zj (i := 2) (xs := g) (ys := [(IntKind.u8.wrap b)]) (f := (cI .u8)) rfl (dk rfl) Mt i5 rfl rfl rfl rfl ad (fun af => (aw rfl (nL (tN ?_)))))
  refine Qm ?_ (Hy K go0 hgo0 x0 b j l m (g ++ [(IntKind.u8.wrap b)]) flx0 p q af h)
  exact tq rfl rfl
  refine Qo rfl w (T.skip (tN ?_))
  refine Qm ?_ (Hy K go0 hgo0 x0 b j l m g flx0 p q s h)
  exact tq rfl rfl
  refine pf rfl a (pf rfl a (pf rfl a (pf rfl a (pf rfl a (pf rfl a (pf rfl a ?_))))))
  refine pf rfl a (pf rfl a (oZ a rfl (nL (tN (Qo rfl rfl (T.exit (Qk (Qk (Qu (tN (T.seq ?_)))))))))))
  refine sR (Qq (mw rfl (mw rfl (sp rfl (Hc (i := 2) (xs := g) (f := (cI .u8)) rfl (dk rfl) Mt rfl rfl (oI rfl (nL (tN ?_))))))))
  rcases Qh h with ⟨y, h⟩ | ⟨y, h⟩
  refine Qt rfl y (Qq (mw rfl (mw rfl (sp rfl (Uj rfl (dk rfl) ul3 ul5 rfl (sp rfl (OpT.buildSlice (elems := ([(IntKind.u8.wrap b)] : List Int).map (cI .u8)) rfl (dk rfl) Mt i5 (by decide) rfl (Hb rfl) rfl rfl rfl (Xh rfl) (by decide) ?_)))))))
  obtain ⟨ag, h⟩ := Q9 h
  refine sp rfl (Zj (i := 2) (xs := g) (ys := [(IntKind.u8.wrap b)]) (f := (cI .u8)) rfl (dk rfl) Mt i5 rfl rfl rfl rfl ag (fun ai => (aw rfl (nL (tN ?_)))))
  refine Qm ?_ (Hy K go0 hgo0 x0 b j l m (g ++ [(IntKind.u8.wrap b)]) flx0 p q ai h)
  exact tq rfl rfl
  refine Qo rfl y (T.skip (tN ?_))
  refine Qm ?_ (Hy K go0 hgo0 x0 b j l m g flx0 p q s h)
  exact tq rfl rfl
theorem Qbj {r : Q4} (K : Nat) : ∀ (k : Nat), K5 r (Y0 K k) := by
 intro k
 induction k with
 | zero =>
  intro x0 j m b a flx0 p q s h
  exact zn h
 | succ k ih =>
  intro x0 j m b a flx0 p q s h
  rw [Y0] at h
  refine Za (T.seq (sR (Qq (mw rfl (oI rfl (nL (tN ?_)))))))
  rcases Qh h with ⟨g, h⟩ | ⟨g, h⟩
  refine Qt rfl g (T.skip (tN (T.seq (T.block (sR (Qq (aw rfl (nL (tN ?_)))))))))
  refine T.seq (T.block (T.loop ?_))
  refine Qg ?_ (Qbi K (Y0 K k) ih K x0 j (0:Int) m b a flx0 p q s h)
  exact tq rfl rfl
  refine Qo rfl g (T.exit (Qk (Qk (Qu (tN (sR (Qq (mw rfl (sp rfl (Hc (i := 2) (xs := a) (f := (cI .u8)) rfl (dk rfl) Mt rfl rfl (oP ul24 i3 rfl (sp rfl (V3 (i := 1) (cells' := ((Zn.oc 256 .u8 b) ++ (([.d (.int .i64 (a.length : Int))]:List OC)))) rfl rfl i3 rfl rfl rfl (nb rfl) rfl ?_)))))))))))))
  refine nL (tN (sR (Qq (oA 1 ((Zn.dc 256 .u8 b) ++ (([.int .i64 (a.length : Int)] : List DC))) ul24 i24 rfl (sp rfl (Qv (i := 0) (cells' := ((Zn.oc 256 .u8 b) ++ (([.d (.int .i64 (a.length : Int))]:List OC)))) rfl rfl i24 rfl rfl rfl rfl (nb rfl) rfl (nL (tN (T.ret (Fin.done (.cons _ _ _ _ (.cellAgg 2 24 _ 0 0 24 _ ((Zn.dc 256 .u8 b) ++ (([.int .i64 (a.length : Int)] : List DC))) _ _ 257 _ rfl rfl rfl rfl ul24 rfl i24) .nil) (by cases h; exact ⟨rfl, rfl⟩)))))))))))
theorem Qed (K : Nat) {x0 : List Zh} {flx0 : Bool} {r : Q4} (h : Kq K x0 = some r) : Z1 tp 45 [.sl flx0 4 (x0.map (Zh.dc .u64))] [] (.agg ((Zn.dc 256 .u8 r.Of) ++ (([.int .i64 r.Many] : List DC)))) := by
 refine CI 47 fu45 rfl ?_
 unfold Kq at h
 refine sR (Qq (sp rfl (Zg rfl (dk rfl) i24 rfl (fun a => (nL (tN (sR (Qq (sp rfl (OpT.build (l := ((Zn.dc 256 .u8 (Zn.mk fun _ => 0)) ++ (([.int .i64 (0:Int)] : List DC)))) rfl (dk rfl) (Zp (pl := [(0, 256), (256, 1)]) ul24 i24 rfl) (Hb rfl) rfl rfl (sp rfl (Zg rfl (dk rfl) i24 rfl (fun b => (sp rfl (Qv (i := 0) (cells' := ((Zn.oc 256 .u8 (Zn.mk fun _ => 0)) ++ (([.d (.int .i64 (0:Int))]:List OC)))) rfl rfl i24 rfl rfl rfl rfl (nb rfl) rfl (nL (tN (sR (Qq ?_)))))))))))))))))))
 refine aw rfl (nL (tN (T.seq (sR (Qq (aw rfl (nL (tN (T.block ?_)))))))))
 refine T.loop (Qg (Y2 5 1) ?_)
 refine Qg ?_ (Qbj K K x0 (0:Int) (Zn.mk fun _ => 0) (Zn.mk fun _ => 0) [] flx0 a b (Tp 2) h)
 exact tr rfl (.c (.s (.s .z)) (.c (.s .z) (.c .z (.n _))))
end Go.Rv

/- Each function computes what its plain text says: printed by a program of ours. -/
import Derived.Test.YtcmfaclkgdmpbaaGreatDoorRgW1
namespace Go.Rv
open Go.Proofs
set_option maxRecDepth 100000
set_option maxHeartbeats 4000000
set_option linter.unusedVariables false
abbrev Qg8 (r : List Int) : ES := Jq tp ff67 (fun y t => y = (.sl false 1 (mI r)) ∧ t = [])
abbrev Th (r : List Int) : ES := fT 75 [1,1,1,1,1] ff67 (Qg8 r)
abbrev M1 (r : List Int) : ES := Qz 0 ((Th r))
abbrev R9 (r : List Int) : ES := fL 75 [1,1,1,1,0,0,0] ff67 (M1 r)
abbrev O8 (r : List Int) : ES := fT 75 [1,1,1,1,0,0,0,1] ff67 (R9 r)
abbrev Fx (r : List Int) (go : (List Int) → (List Int) → Int → Int → (List Int) → Option (List Int)) : Prop := ∀ (x0 x1 : List Int) (a b : Int) (d : List Int) (flx0 flx1 : Bool) (f : Value), go x0 x1 a b d = some r → TL tp 75 (ca [1,1,1,1,0,0,0] ff67) ⟨[(0, .sl flx0 1 (mI x0)), (1, .sl flx1 1 (mI x1)), (5, .c (.ex f)), (6, .int .i64 a), (7, .int .i64 b)], [.arrA f 3 1 (mI d)]⟩ (M1 r)
theorem Fy {r : List Int} (K : Nat) (go0 : (List Int) → (List Int) → Int → Int → (List Int) → Option (List Int)) (hgo0 : Fx r go0) (x0 x1 : List Int) (a d : Int) (m : List Int) (flx0 flx1 : Bool) (p : Value) (h : Ld K go0 x0 x1 a d m = some r) : T tp 75 (ca [1,1,1,1,0,0,0,0,1,0] ff67) ⟨[(0, .sl flx0 1 (mI x0)), (1, .sl flx1 1 (mI x1)), (5, .c (.ex p)), (6, .int .i64 a), (7, .int .i64 d)], [.arrA p 3 1 (mI m)]⟩ (O8 r) := by
 unfold Ld at h
 refine T.skip (tN (T.block (T.seq (Z7 (dV rfl rfl (dV rfl rfl (dN x1 (cI .i64) rfl (.f rfl) Zs rfl ?_)))))))
 refine dI rfl (.f rfl) rfl (dV rfl rfl ?_)
 rcases Qd h with ⟨l, h⟩ | ⟨l, h⟩
 cases h
 refine dM rfl (.n l rfl) rfl (dM rfl (.n l rfl) rfl (dN x0 (cI .i64) rfl (.n l rfl) Zs rfl (dI rfl (.n l rfl) rfl (dM rfl (.n l rfl) rfl ?_))))
 rcases Qd h with ⟨b, h⟩ | ⟨b, h⟩
 refine dM rfl (.n b rfl) rfl (dM rfl (.n b rfl) rfl ?_)
 obtain ⟨g, s, h⟩ := bind_some h
 refine dX x0 (cI .i64) rfl (.n b rfl) Zs i3 s rfl (dR rfl (.n b rfl) ul3 rfl (dM rfl (.n b rfl) rfl (dM rfl (.n b rfl) rfl ?_)))
 obtain ⟨j, y, h⟩ := bind_some h
 refine dX x1 (cI .i64) rfl (.n b rfl) Zs i3 y rfl (dR rfl (.n b rfl) ul3 rfl (dI rfl (.n b rfl) rfl (dY rfl (.n l rfl) b rfl (dZ rfl (.f rfl) l rfl (dF [0,0,2,7,15,31,31,95,255,511,1023,1023,4095,8191,1023,1023,50175,115711,262143,524287,1048575] Q0 rfl (by kernel_rfl) (fun u hu => (tN (Qg hu ?_))))))))
 rcases Qd h with ⟨w, h⟩ | ⟨w, h⟩
 refine Qp rfl w (sR (Qs ?_))
 iterate 3 refine mw rfl ?_
 refine oX x0 (cI .i64) Zs i3 s rfl (oR ul3 rfl (sp rfl (OpT.buildSlice (elems := ([g] : List Int).map (cI .i64)) rfl (dk rfl) Zs i3 (by decide) rfl (H4 rfl) rfl rfl rfl (X2 rfl) (by decide) ?_)))
 obtain ⟨aa, h⟩ := Zb h
 refine sp rfl (Zk (i := 0) (xs := m) (ys := [g]) (f := (cI .i64)) rfl (dk rfl) Zs i3 rfl rfl rfl rfl aa (fun ab => (aw rfl (nL (tN (Qs (mw rfl (oI rfl (aw rfl ?_)))))))))
 refine nL (Qk (tN ?_))
 refine Qe ?_ (hgo0 x0 x1 (wI (a + (1:Int))) d (m ++ [g]) flx0 flx1 ab h)
 exact tq rfl rfl
 cases h
 refine dO b rfl rfl (dO b rfl rfl (dO b rfl rfl (dO b rfl rfl (dO b rfl rfl (dO b rfl rfl (dO b rfl rfl ?_))))))
 refine dO b rfl rfl (dO b rfl rfl (dZ rfl (.n l rfl) b rfl (dZ rfl (.f rfl) l rfl (dF [0,0,2,7,15,31,31,95,255,511,1023,1023,4095,8191,1023,1023,50175,115711,262143,524287,1048575] Q0 rfl (by kernel_rfl) (fun u hu => (tN (Qg hu (Qo rfl rfl (T.seq ?_)))))))))
 refine T.seq (Z7 (dV rfl rfl (dV rfl rfl (dN x0 (cI .i64) rfl (.f rfl) Zs rfl (dI rfl (.f rfl) rfl (dV rfl rfl ?_))))))
 refine dO b rfl rfl (dO b rfl rfl (dO b rfl rfl (dO b rfl rfl (dO b rfl rfl (dO b rfl rfl (dO b rfl rfl ?_))))))
 refine dO b rfl rfl (dO b rfl rfl (dZ rfl (.f rfl) b rfl (dF [0,0,2,7,15,31,31,127,255,31,31,1567,3615,8191,16383] Q0 rfl (by kernel_rfl) (fun u hu => (tN (Qg hu (Qo rfl rfl (T.skip (tN (sR (Qs ?_)))))))))))
 iterate 3 refine mw rfl ?_
 obtain ⟨q, ac, h⟩ := bind_some h
 refine oX x1 (cI .i64) Zs i3 ac rfl (oR ul3 rfl (sp rfl (OpT.buildSlice (elems := ([q] : List Int).map (cI .i64)) rfl (dk rfl) Zs i3 (by decide) rfl (H4 rfl) rfl rfl rfl (X2 rfl) (by decide) ?_)))
 obtain ⟨ad, h⟩ := Zb h
 refine sp rfl (Zk (i := 0) (xs := m) (ys := [q]) (f := (cI .i64)) rfl (dk rfl) Zs i3 rfl rfl rfl rfl ad (fun af => (aw rfl (nL (tN (Qs (mw rfl (oI rfl (aw rfl ?_)))))))))
 refine nL (Qk (tN ?_))
 refine Qe ?_ (hgo0 x0 x1 a (wI (d + (1:Int))) (m ++ [q]) flx0 flx1 af h)
 exact tq rfl rfl
theorem Qdn {r : List Int} (K : Nat) : ∀ (k : Nat), Fx r (Ue K k) := by
 intro k
 induction k with
 | zero =>
  intro x0 x1 b d g flx0 flx1 i h
  exact zn h
 | succ k ih =>
  intro x0 x1 b d g flx0 flx1 i h
  rw [Ue] at h
  refine Q7 (T.seq (sR (Qs (mw rfl (mw rfl (oU x0 (cI .i64) Zs rfl (oI rfl ?_)))))))
  refine mw rfl ?_
  rcases Qd h with ⟨a, h⟩ | ⟨a, h⟩
  refine pf rfl a (pf rfl a (pf rfl a (pf rfl a (oY a rfl (nL (tN (Qp rfl rfl ?_)))))))
  refine Qg ?_ (Fy K (Ue K k) ih x0 x1 b d g flx0 flx1 i h)
  exact tq rfl rfl
  refine sn rfl a (OpT.move rfl (dk rfl) rfl (sn rfl a (OpT.move rfl (dk rfl) rfl (sn rfl a (Yz (xs := x1) (f := (cI .i64)) rfl (dk rfl) Zs rfl (sn rfl a (Z1 rfl rfl (dk rfl) rfl rfl (oZ a rfl (nL (tN ?_))))))))))
  rcases Qd h with ⟨j, h⟩ | ⟨j, h⟩
  refine Qp rfl j ?_
  refine Qg ?_ (Fy K (Ue K k) ih x0 x1 b d g flx0 flx1 i h)
  exact tq rfl rfl
  refine Qo rfl j (T.exit (Ql (Ql (Qu (tN (sR (Qs (mw rfl (aw rfl (nL (tN (T.ret ?_))))))))))))
  refine Xl (Z3.view 4 0 rfl rfl) (fd rfl (by cases h; exact ⟨rfl, rfl⟩))
theorem Hk (K : Nat) {x0 x1 : List Int} {flx0 flx1 : Bool} {r : List Int} (h : Jx K x0 x1 = some r) : Zm tp 67 [.sl flx0 1 (mI x0), .sl flx1 1 (mI x1)] [] (.sl false 1 (mI r)) := by
 refine CI 75 fu67 rfl ?_
 unfold Jx at h
 refine sR (Qs (aw rfl (nL (tN (sR (Qs (aw rfl (nL (tN (sR (Qs (aw rfl (nL (tN (sR (Qs ?_))))))))))))))))
 refine aw rfl (nL (tN (T.seq (T.block (T.loop (Qe (Y0 3 1) ?_))))))
 refine Qe ?_ (Qdn K K x0 x1 (0:Int) (0:Int) [] flx0 flx1 (Qc1 2) h)
 exact tq rfl rfl
abbrev P8 (bx0 : Nat) (r : Qm) : ES := Jq tp ff107 (fun y t => ∃ γ : Nat → Value, y = (.tup []) ∧ t = [(Gy bx0 (γ 0)), .arrX (γ 0) 65 9 0 (r.p.map Qv)])
abbrev Iv (bx0 : Nat) (r : Qm) : ES := Qz 0 ((P8 bx0 r))
theorem Iw {r : Qm} (K bx0 : Nat) : ∀ (k : Nat), ∀ (x1 x2 : List Int) (l : Int) (j : List Zl) (flx1 flx2 : Bool) (a : Value), Un K k x1 x2 l j = some r → TL tp 36 (ca [1,0,0] ff107) ⟨[(0, .ptr bx0 0), (1, .sl flx1 1 (mI x1)), (2, .sl flx2 1 (mI x2)), (6, .int .i64 l)], [(Gy bx0 a), .arrX a 65 9 0 (j.map Qv)]⟩ (Iv bx0 r) := by
 intro k
 induction k with
 | zero =>
  intro x1 x2 l j flx1 flx2 a h
  exact zn h
 | succ k ih =>
  intro x1 x2 l j flx1 flx2 a h
  rw [Un] at h
  refine Q7 (T.seq (sR (Qs (mw rfl (mw rfl (oU x1 (cI .i64) Zs rfl (oI rfl ?_)))))))
  refine nL (tN ?_)
  rcases Qd h with ⟨q, h⟩ | ⟨q, h⟩
  refine Qp rfl q (T.skip (tN (T.seq (T.block (Z7 (dV rfl rfl (dK rfl (.f rfl) rfl ?_)))))))
  refine dP rfl (.f rfl) ul126 i41 rfl (dL 0 rfl (.f rfl) Ci rfl (dV rfl rfl (dV rfl rfl ?_)))
  obtain ⟨g, s, h⟩ := bind_some h
  refine dX x1 (cI .i64) rfl (.f rfl) Zs i3 s rfl (dR rfl (.f rfl) ul3 rfl (dV rfl rfl (dK rfl (.f rfl) rfl (dP rfl (.f rfl) ul126 i41 rfl (dL 0 rfl (.f rfl) Ci rfl (dV rfl rfl ?_))))))
  refine dV rfl rfl (dX x1 (cI .i64) rfl (.f rfl) Zs i3 s rfl (dR rfl (.f rfl) ul3 rfl ?_))
  obtain ⟨b, p, h⟩ := bind_some h
  refine dS (c := ⟨some 29, .el a 9 (Int.toNat g) 0, [(24, .c (.ex a)), (28, .int .i64 g)], [(1, .arrX a 65 9 0 (j.map Qv))], []⟩) (fun t hm => oF rfl rfl (Yj (n := 1) (xs := j) (f := Qv) (old := b) rfl (dk rfl) Ci i65 hm.s0 hm.o0 hm.s1 p rfl)) rfl rfl (dS (c := ⟨some 30, .el a 9 (Int.toNat g) 8, [(29, .el a 9 (Int.toNat g) 0)], [], []⟩) (fun t hm => oF rfl rfl (Cg rfl (dk rfl) Qbf rfl i38 (by decide) hm.s0 rfl)) rfl rfl (dS (c := ⟨some 31, .sl false 1 (mI b.Next), [(30, .el a 9 (Int.toNat g) 8)], [(1, .arrX a 65 9 0 (j.map Qv))], []⟩) (fun t hm => oF rfl rfl (Hd (i := 1) (xs := j) (f := Qv) (old := b) rfl (dk rfl) Zs rfl hm.s0 hm.o0 (Z2 p).2 rfl rfl)) rfl rfl (dV rfl rfl ?_)))
  obtain ⟨m, w, h⟩ := bind_some h
  refine dH fu67 (Zm.nil (Hk K (flx0 := false) (flx1 := flx2) w)) rfl (.f rfl) rfl (dS (c := ⟨some 34, .el a 9 (Int.toNat g) 0, [(16, .c (.ex a)), (20, .int .i64 g)], [(1, .arrX a 65 9 0 (j.map Qv))], []⟩) (fun t hm => oF rfl rfl (Yj (n := 1) (xs := j) (f := Qv) (old := b) rfl (dk rfl) Ci i65 hm.s0 hm.o0 hm.s1 p rfl)) rfl rfl (dS (c := ⟨some 35, .el a 9 (Int.toNat g) 8, [(34, .el a 9 (Int.toNat g) 0)], [], []⟩) (fun t hm => oF rfl rfl (Cg rfl (dk rfl) Qbf rfl i38 (by decide) hm.s0 rfl)) rfl rfl (dS (c := ⟨none, .any, [(35, .el a 9 (Int.toNat g) 8), (33, .sl false 1 (mI m))], [(1, .arrX a 65 9 0 (j.map Qv))], [(1, .arrX a 65 9 0 ((List.set j (Int.toNat g) (Zl.mk b.S b.Lo b.Hi b.Rule b.Last m)).map Qv))]⟩) (fun t hm => oF rfl rfl (Hv (i := 1) (xs := j) (f := Qv) (old := b) (new := (Zl.mk b.S b.Lo b.Hi b.Rule b.Last m)) rfl rfl i38 hm.s0 hm.s1 hm.o0 (Z2 p).2 (Qla _) (nb rfl) rfl rfl)) rfl rfl (dF [0,1,3,7,0,0,48,112,0,256,768,1792,0,0,12288,28672,65280,130816,261888,0,1048320,2097151,4194303,8388607] Q0 rfl (by kernel_rfl) (fun u hu => (Qk (tN (Qg hu (Qs (mw rfl ?_))))))))))
  refine oI rfl (aw rfl (nL (tN ?_)))
  refine Qe ?_ (ih x1 x2 (wI (l + (1:Int))) (List.set j (Int.toNat g) (Zl.mk b.S b.Lo b.Hi b.Rule b.Last m)) flx1 flx2 a h)
  exact tq rfl rfl
  refine Qo rfl q (T.exit (Ql (Ql (Qu (Q6 (.nil) (.cons 0 rfl (.cons 0 rfl (.nil _))) (by cases h; exact ⟨gl [a], rfl, rfl⟩))))))
theorem P9 (K : Nat) {x0 : Qm} {x1 x2 : List Int} {bx0 : Nat} {wx0c0 : Value} {flx1 flx2 : Bool} {r : Qm} (h : Gr K x0 x1 x2 = some r) : Jb tp 107 [.ptr bx0 0, .sl flx1 1 (mI x1), .sl flx2 1 (mI x2)] [(Gy bx0 wx0c0), .arrX wx0c0 65 9 0 (x0.p.map Qv)] (fun γ => (.tup [])) (fun γ => [(Gy bx0 (γ 0)), .arrX (γ 0) 65 9 0 (r.p.map Qv)]) := by
 refine CI 36 fu107 rfl ?_
 unfold Gr at h
 refine sR (Qs (aw rfl (nL (tN (T.block (T.loop ?_))))))
 refine Qe ?_ (Iw K bx0 K x1 x2 (0:Int) x0.p flx1 flx2 wx0c0 h)
 exact tq rfl rfl
abbrev R7 (bx0 : Nat) (r : Qw × Qm) : ES := Jq tp ff106 (fun y t => ∃ γ : Nat → Value, y = (.agg [.bool r.1.null, .sl false 1 (mI r.1.first), .sl false 1 (mI r.1.last)]) ∧ t = [(Gy bx0 (γ 0)), .arrX (γ 0) 65 9 0 (r.2.p.map Qv)])
abbrev Ix (bx0 : Nat) (r : Qw × Qm) : ES := fT 52 [1,1,1] ff106 (R7 bx0 r)
abbrev Gs (bx0 : Nat) (r : Qw × Qm) : ES := Qz 0 ((Ix bx0 r))
abbrev E3 (bx0 : Nat) (r : Qw × Qm) : ES := fL 52 [1,1,0,1,0,0] ff106 (Gs bx0 r)
abbrev C6 (bx0 : Nat) (r : Qw × Qm) : ES := fT 52 [1,1,0,1,0,0,1,1] ff106 (E3 bx0 r)
abbrev Mm (bx0 : Nat) (r : Qw × Qm) : ES := Qz 1 ((C6 bx0 r))
abbrev Kt (bx0 : Nat) (r : Qw × Qm) (go : (List Qw) → Int → (List Zl) → Bool → (List Int) → (List Int) → Option (Qw × Qm)) : Prop := ∀ (x1 : List Qw) (a : Int) (b : List Zl) (c : Bool) (f g : List Int) (flx1 : Bool) (i : Value) (j l : Nat), go x1 a b c f g = some r → TL tp 52 (ca [1,1,0,1,0,0] ff106) ⟨[(0, .ptr bx0 0), (1, .sl flx1 3 (x1.map Zx)), (4, .ptr j 0), (5, .ptr l 0), (6, .int .i64 a)], [(Gy bx0 i), .arrX i 65 9 0 (b.map Qv), (o128 j false (.slice none 0 0) (.slice none 0 0)), (Qe1 l c f g)]⟩ (Gs bx0 r)
theorem Ku {r : Qw × Qm} (K bx0 : Nat) (go0 : (List Qw) → Int → (List Zl) → Bool → (List Int) → (List Int) → Option (Qw × Qm)) (hgo0 : Kt bx0 r go0) (x1 : List Qw) (g : Int) (j : List Zl) (s : Bool) (a u : List Int) (l : Bool) (v b : List Int) (flx1 : Bool) (m : Value) (p q w : Nat) (h : U1 K go0 x1 g j s a u l v b = some r) : T tp 52 (ca [1,1,0,1,0,0,1,0,0,1,1,1] ff106) ⟨[(0, .ptr bx0 0), (1, .sl flx1 3 (x1.map Zx)), (4, .ptr p 0), (5, .ptr q 0), (6, .int .i64 g), (7, .ptr w 0)], [(Gy bx0 m), .arrX m 65 9 0 (j.map Qv), (o128 p false (.slice none 0 0) (.slice none 0 0)), (Qe1 q s a u), (Qe1 w l v b)]⟩ (Mm bx0 r) := by
 unfold U1 at h
 refine T.seq (sR (Qs (oP Kx i4 rfl (oL 4 ul4 rfl (nL (tN ?_))))))
 rcases Qd h with ⟨y, h⟩ | ⟨y, h⟩
 cases h
 refine Qo rfl y (Qs (oP Kx i38 rfl (oL 4 Zs rfl (oP Kx i38 rfl (sp rfl (Jh (i := 3) (cells' := [.d (.bool s), .d (.sl false 1 (mI a)), .d (.sl false 1 (mI b))]) rfl rfl i38 rfl rfl rfl (nb rfl) rfl (nL (tN ?_))))))))
 refine Qs (oP Kx i4 rfl (oL 3 ul4 rfl (mw rfl ?_)))
 rcases Qd h with ⟨f, h⟩ | ⟨f, h⟩
 refine sn rfl f (Vf rfl (dk rfl) Kx rfl i4 (by decide) rfl (sn rfl f (Yb (i := 4) rfl (dk rfl) ul4 rfl rfl rfl rfl (oY f rfl (oP Kx i4 rfl (sp rfl (Jh (i := 3) (cells' := [.d (.bool l), .d (.sl false 1 (mI a)), .d (.sl false 1 (mI b))]) rfl rfl i4 rfl rfl rfl (nb rfl) rfl (nL (Qk (tN (Qs ?_)))))))))))
 refine mw rfl (oI rfl (aw rfl (nL (tN ?_))))
 refine Qe ?_ (hgo0 x1 (wI (g + (1:Int))) j l a b flx1 m p q h)
 exact tq rfl rfl
 refine pf rfl f (pf rfl f (oZ f rfl (oP Kx i4 rfl (sp rfl (Jh (i := 3) (cells' := [.d (.bool false), .d (.sl false 1 (mI a)), .d (.sl false 1 (mI b))]) rfl rfl i4 rfl rfl rfl (nb rfl) rfl (nL (Qk (tN (Qs ?_)))))))))
 refine mw rfl (oI rfl (aw rfl (nL (tN ?_))))
 refine Qe ?_ (hgo0 x1 (wI (g + (1:Int))) j false a b flx1 m p q h)
 exact tq rfl rfl
theorem Np {r : Qw × Qm} (K bx0 : Nat) : ∀ (k : Nat), Kt bx0 r (Yy K k) := by
 intro k
 induction k with
 | zero =>
  intro x1 m ag b j g flx1 q u w h
  exact zn h
 | succ k ih =>
  intro x1 m ag b j g flx1 q u w h
  rw [Yy] at h
  refine Q7 (T.seq (sR (Qs (mw rfl (mw rfl (oU x1 Zx ul171 rfl (oI rfl ?_)))))))
  refine nL (tN ?_)
  rcases Qd h with ⟨y, h⟩ | ⟨y, h⟩
  refine Qp rfl y (T.skip (tN (T.seq (T.block (sR (Qs (mw rfl (mw rfl ?_))))))))
  obtain ⟨a, ai, h⟩ := bind_some h
  refine oX x1 Zx ul171 i128 ai rfl (oJ Kx i128 rfl (sp rfl (Ze rfl (dk rfl) i128 rfl (fun ab => (sp rfl (Qy (i := 0) (cells' := [.d (.bool a.null), .d (.sl false 1 (mI a.first)), .d (.sl false 1 (mI a.last))]) rfl rfl i128 rfl rfl rfl rfl (nb rfl) rfl (nL (tN (sR (Qs (mw rfl (oP Kx i38 rfl ?_))))))))))))
  refine oL 4 Zs rfl (oP Kx i38 rfl (oL 0 Zs rfl ?_))
  obtain ⟨ac, aj, h⟩ := bind_some h
  refine sp rfl (Zc (is := [1, 2]) (ph := []) rfl (dk rfl) fu107 rfl rfl (Zw.cons rfl (Zw.cons rfl (Zw.cons rfl Zw.nil))) (P9 K (bx0 := bx0) (wx0c0 := q) (flx1 := false) (flx2 := false) aj) (.cons rfl rfl (.cons rfl rfl (.nil))) (fun _ => rfl) (fun ad => (nm (.c (.c (.c (.c (.c (.n)))))) (nL (tN (T.seq (sR (Qs (oP Kx i4 rfl (oL 4 ul4 rfl ?_))))))))))
  refine nL (tN ?_)
  rcases Qd h with ⟨aa, h⟩ | ⟨aa, h⟩
  refine Qp rfl aa (Qs (oP Kx i38 rfl (oL 4 Zs rfl (oP Kx i38 rfl (oL 0 Zs rfl ?_)))))
  obtain ⟨af, al, h⟩ := bind_some h
  refine oH fu67 (Zm.nil (Hk K (flx0 := false) (flx1 := false) al)) rfl (oP Kx i38 rfl (sp rfl (Jh (i := 4) (cells' := [.d (.bool b), .d (.sl false 1 (mI af)), .d (.sl false 1 (mI g))]) rfl rfl i38 rfl rfl rfl (nb rfl) rfl (nL (tN ?_)))))
  refine Qg ?_ (Ku K bx0 (Yy K k) ih x1 m ac.p b af g a.null a.first a.last flx1 (ad 0) u w ab h)
  exact tr rfl (.c (.s .z) (.c (.s .z) (.c (.s .z) (.c (.s .z) (.c .z (.n _))))))
  refine Qo rfl aa (T.skip (tN ?_))
  refine Qg ?_ (Ku K bx0 (Yy K k) ih x1 m ac.p b j g a.null a.first a.last flx1 (ad 0) u w ab h)
  exact tr rfl (.c (.s .z) (.c (.s .z) (.c (.s .z) (.c (.s .z) (.c .z (.n _))))))
  refine Qo rfl y (T.exit (Ql (Ql (Qu (tN (sR (Qs (oA 3 [.bool b, .sl false 1 (mI j), .sl false 1 (mI g)] Kx i128 rfl (sp rfl (Qy (i := 2) (cells' := [.d (.bool b), .d (.sl false 1 (mI j)), .d (.sl false 1 (mI g))]) rfl rfl i128 rfl rfl rfl rfl (nb rfl) rfl (nL (tN (T.ret ?_)))))))))))))
  exact Q6 (.cons _ _ _ _ (.cellAgg 4 128 _ 0 2 128 _ [.bool b, .sl false 1 (mI j), .sl false 1 (mI g)] _ _ 3 _ rfl rfl rfl rfl Kx rfl i128) .nil) (.cons 0 rfl (.cons 0 rfl (.nil _))) (by cases h; exact ⟨gl [q], rfl, rfl⟩)
theorem R8 (K : Nat) {x0 : Qm} {x1 : List Qw} {bx0 : Nat} {wx0c0 : Value} {flx1 : Bool} {r : Qw × Qm} (h : Lc K x0 x1 = some r) : Jb tp 106 [.ptr bx0 0, .sl flx1 3 (x1.map Zx)] [(Gy bx0 wx0c0), .arrX wx0c0 65 9 0 (x0.p.map Qv)] (fun γ => (.agg [.bool r.1.null, .sl false 1 (mI r.1.first), .sl false 1 (mI r.1.last)])) (fun γ => [(Gy bx0 (γ 0)), .arrX (γ 0) 65 9 0 (r.2.p.map Qv)]) := by
 refine CI 52 fu106 rfl ?_
 unfold Lc at h
 refine sR (Qs (sp rfl (Ze rfl (dk rfl) i128 rfl (fun a => (nL (tN (sR (Qs (sp rfl (Zq (OpT.build (l := [.bool true, .ex (.slice none 0 0), .ex (.slice none 0 0)]) rfl (dk rfl) (Zr (pl := [(0, 1), (1, 1), (2, 1)]) Kx i128 rfl) (H4 rfl) rfl rfl rfl) (Ya 8 (l := [.bool true, .ex (.slice none 0 0), .ex (.slice none 0 0)]) (l' := [.bool true, .sl false 1 (([] : List Int).map (cI .i64)), .sl false 1 (([] : List Int).map (cI .i64))]) (.cons (.same _) (.cons (.nil _ _) (.cons (.nil _ _) (.refl _))))) (sp rfl (Ze rfl (dk rfl) i128 rfl (fun b => (sp rfl (Qy (i := 0) (cells' := [.d (.bool true), .d (.sl false 1 (([] : List Int).map (cI .i64))), .d (.sl false 1 (([] : List Int).map (cI .i64)))]) rfl rfl i128 rfl rfl rfl rfl (nb rfl) rfl (nL (tN ?_)))))))))))))))))
 refine T.seq (sR (Qs (aw rfl (nL (tN (T.block (T.loop ?_)))))))
 refine Qe ?_ (Np K bx0 K x1 (0:Int) x0.p true [] [] flx1 wx0c0 a b h)
 exact tr rfl (.c (.s (.s .z)) (.c (.s (.s .z)) (.c (.s .z) (.c .z (.n _)))))
abbrev raddleref09_builder_put_q (bx0 : Nat) (r : Qw × Qm) : ES := Jq tp ff105 (fun y t => ∃ γ : Nat → Value, y = (.agg [.bool r.1.null, .sl false 1 (mI r.1.first), .sl false 1 (mI r.1.last)]) ∧ t = [(Gy bx0 (γ 0)), .arrX (γ 0) 65 9 0 (r.2.p.map Qv)])
theorem R6 (K : Nat) {x0 : Qm} {x1 : Zl} {bx0 : Nat} {wx0c0 : Value} {r : Qw × Qm} (h : Lb K x0 x1 = some r) : Jb tp 105 [.ptr bx0 0, .agg [.int .u64 x1.S.a0, .int .u64 x1.S.a1, .int .u64 x1.S.a2, .int .u64 x1.S.a3, .int .i64 x1.Lo, .int .i64 x1.Hi, .int .i64 x1.Rule, .bool x1.Last, .sl false 1 (mI x1.Next)]] [(Gy bx0 wx0c0), .arrX wx0c0 65 9 0 (x0.p.map Qv)] (fun γ => (.agg [.bool r.1.null, .sl false 1 (mI r.1.first), .sl false 1 (mI r.1.last)])) (fun γ => [(Gy bx0 (γ 0)), .arrX (γ 0) 65 9 0 (r.2.p.map Qv)]) := by
 refine CI 26 fu105 rfl ?_
 unfold Lb at h
 refine sR (Qs (sp rfl (Q9 rfl (dk rfl) rfl (fun b => (sp rfl (Ze rfl (dk rfl) i128 rfl (fun g => (nL (tN (T.seq (Qg (Jp 0 (l := [.bool false, .ex (.slice none 0 0), .ex (.slice none 0 0)]) (l' := [.bool false, .sl false 1 (([] : List Int).map (cI .i64)), .sl false 1 (([] : List Int).map (cI .i64))]) rfl (.cons (.same _) (.cons (.nil _ _) (.cons (.nil _ _) (.refl _))))) (Qg Yp ?_))))))))))))
 refine Ja (gM rfl (fun _ => .f rfl) (fun _ => rfl) (gM rfl (fun _ => .f rfl) (fun _ => rfl) (gK rfl (fun _ => .f rfl) (fun _ => rfl) (gP rfl (fun _ => .f rfl) ul126 i41 (fun _ => rfl) (gL 3 rfl (fun _ => .f rfl) Ci (fun _ => rfl) (gW 2 [.int .u64 x1.S.a0, .int .u64 x1.S.a1, .int .u64 x1.S.a2, .int .u64 x1.S.a3, .int .i64 x1.Lo, .int .i64 x1.Hi, .int .i64 x1.Rule, .bool x1.Last, .sl false 1 (mI x1.Next)] rfl (fun _ => .f rfl) Qbf i65 (fun _ => rfl) ?_))))))
 refine dC (c := ⟨some 12, .sl true 9 ([x1].map Qv), [(11, .agg [.int .u64 x1.S.a0, .int .u64 x1.S.a1, .int .u64 x1.S.a2, .int .u64 x1.S.a3, .int .i64 x1.Lo, .int .i64 x1.Hi, .int .i64 x1.Rule, .bool x1.Last, .sl false 1 (mI x1.Next)])], [], []⟩) (fun t hm => oF rfl rfl (OpT.buildSlice (elems := ([x1] : List Zl).map Qv) rfl (dk rfl) Ci i65 (by decide) rfl (H4 rfl) (Xe hm.s0 rfl Wt) rfl rfl (X2 rfl) (by decide) ⟨u0, rfl⟩)) (fun _ => rfl) (fun _ => rfl) ?_
 obtain ⟨j, h⟩ := Zb h
 refine DGG.step (c := fun a => ⟨some 13, .c (.ex ((a 7).1 0)), [(12, .sl true 9 ([x1].map Qv)), (10, .c (.ex wx0c0))], [(4, .arrX wx0c0 65 9 0 (x0.p.map Qv))], [(4, .arrX ((a 7).1 0) 65 9 0 ((x0.p ++ [x1]).map Qv))]⟩) [7] (fun a γ' h => by simp only [h 7 (by decide)]) (fun a t hm => oF rfl rfl (F6 (i := 4) (xs := x0.p) (ys := [x1]) (f := Qv) rfl (dk rfl) Ci i65 rfl hm.s1 hm.o0 hm.s0 j (fun w => ⟨(fun _ => w, 0), rfl⟩))) (fun a => Zt rfl rfl) (gK rfl (fun _ => .f rfl) (fun _ => rfl) (gP rfl (fun _ => .f rfl) ul126 i41 (fun _ => rfl) (DGG.step (c := fun a => ⟨none, .any, [(15, .ptr bx0 (0 + 0)), (13, .c (.ex ((a 7).1 0)))], [(3, (Gy bx0 wx0c0))], [(3, (Gy bx0 ((a 7).1 0)))]⟩) [7] (fun a γ' h => by simp only [h 7 (by decide)]) (fun a t hm => oF rfl rfl (Jh (i := 3) (cells' := [.d (.ex ((a 7).1 0))]) rfl rfl i41 hm.s0 hm.s1 hm.o0 (nb rfl) rfl ⟨u0, rfl⟩)) (fun a => Zt rfl rfl) (gF [0,0,2,6,14,0,32,126,255,511,1023] Q0 rfl (by kernel_rfl) (fun _ => by kernel_rfl) (fun a u hu => (tN (Qg hu (sR (Qs (mw rfl ?_))))))))))
 refine oK rfl (oP ul126 i41 rfl (oL 3 Ci rfl (sp rfl (Hn (i := 4) (xs := (x0.p ++ [x1])) (f := Qv) rfl (dk rfl) Ci rfl rfl (oI rfl (sp rfl (OpT.buildSlice (elems := ([(wI (((x0.p ++ [x1]).length : Int) - (1:Int)))] : List Int).map (cI .i64)) rfl (dk rfl) Zs i3 (by decide) rfl (H4 rfl) rfl rfl rfl (X2 rfl) (by decide) (aw rfl ?_))))))))
 refine nL (tN (sR (Qs (mw rfl (mw rfl (sp rfl (Zq (OpT.build (l := [.bool false, .sl true 1 ([(wI (((x0.p ++ [x1]).length : Int) - (1:Int)))].map (cI .i64)), .sl true 1 ([(wI (((x0.p ++ [x1]).length : Int) - (1:Int)))].map (cI .i64))]) rfl (dk rfl) (Zr (pl := [(0, 1), (1, 1), (2, 1)]) Kx i128 rfl) (H4 rfl) rfl rfl rfl) (Ya 25 (l := [.bool false, .sl true 1 ([(wI (((x0.p ++ [x1]).length : Int) - (1:Int)))].map (cI .i64)), .sl true 1 ([(wI (((x0.p ++ [x1]).length : Int) - (1:Int)))].map (cI .i64))]) (l' := [.bool false, .sl false 1 ([(wI (((x0.p ++ [x1]).length : Int) - (1:Int)))].map (cI .i64)), .sl false 1 ([(wI (((x0.p ++ [x1]).length : Int) - (1:Int)))].map (cI .i64))]) (.cons (.same _) (.cons (.full _ _ _) (.cons (.full _ _ _) (.refl _))))) (sp rfl (Qy (i := 1) (cells' := [.d (.bool false), .d (.sl false 1 ([(wI (((x0.p ++ [x1]).length : Int) - (1:Int)))].map (cI .i64))), .d (.sl false 1 ([(wI (((x0.p ++ [x1]).length : Int) - (1:Int)))].map (cI .i64)))]) rfl rfl i128 rfl rfl rfl rfl (nb rfl) rfl (nL (tN (T.ret ?_))))))))))))
 exact Q6 (.cons _ _ _ _ (.cellAgg 4 128 _ 0 1 128 _ [.bool false, .sl false 1 ([(wI (((x0.p ++ [x1]).length : Int) - (1:Int)))].map (cI .i64)), .sl false 1 ([(wI (((x0.p ++ [x1]).length : Int) - (1:Int)))].map (cI .i64))] _ _ 3 _ rfl rfl rfl rfl Kx rfl i128) .nil) (.cons 3 rfl (.cons 3 rfl (.nil _))) (by cases h; exact ⟨gl [(a 7).1 0], rfl, rfl⟩)
abbrev M0 (bx0 : Nat) (r : Qw × Qm) : ES := Jq tp ff66 (fun y t => ∃ γ : Nat → Value, y = (.agg [.bool r.1.null, .sl false 1 (mI r.1.first), .sl false 1 (mI r.1.last)]) ∧ t = [(Gy bx0 (γ 0)), .arrX (γ 0) 65 9 0 (r.2.p.map Qv)])
abbrev M5 (bx0 : Nat) (r : Qw × Qm) : ES := fT 128 [1,1,1,1,1,1,1,1,1,1] ff66 (M0 bx0 r)
abbrev K8 (bx0 : Nat) (r : Qw × Qm) : ES := Qz 2 ((M5 bx0 r))
abbrev C5 (bx0 : Nat) (r : Qw × Qm) : ES := fT 128 [1,1,1,1,1,1,1] ff66 (M0 bx0 r)
abbrev Bl (bx0 : Nat) (r : Qw × Qm) : ES := Qz 0 ((C5 bx0 r))
theorem Ir {r : Qw × Qm} (K : Nat) (rec_raddleref09_builder_node : Qm → (List Q5) → Int → Int → Option (Qw × Qm)) (hrec_raddleref09_builder_node : U0 rec_raddleref09_builder_node) (bx0 : Nat) : ∀ (k : Nat), ∀ (s : Int) (ac : List Zl) (ad af : List Int) (ag : Int) (m : Zy) (ai : List Int) (aj al : Int) (am : ByteArray) (g : List Qw) (an : Bool) (q j : List Int) (y : Value) (aa ab : Nat) (p : Value) (b : Nat), Ul K rec_raddleref09_builder_node k s ac ad af ag m ai aj al am g an q j = some r → TL tp 128 (ca [1,1,1,1,1,1,1,1,1,0,1,0,0] ff66) ⟨[(0, .ptr bx0 0), (8, .ptr aa 0), (9, .ptr ab 0), (10, .c (.ex p)), (12, .ptr b 0), (13, .int .i64 s)], [(Gy bx0 y), .arrX y 65 9 0 (ac.map Qv), (Qe1 aa false ad af), (b165x5 ab ag m.a0 m.a1 m.a2 m.a3 ai aj al am), .arrA p 128 3 (g.map Zx), (Qe1 b an q j)]⟩ (K8 bx0 r) := by
 intro k
 induction k with
 | zero =>
  intro s ac ad af ag m ai aj al am g an q j y aa ab p b h
  exact zn h
 | succ k ih =>
  intro s ac ad af ag m ai aj al am g an q j y aa ab p b h
  rw [Ul] at h
  refine Q7 (T.seq (sR (Qs (mw rfl (mw rfl (sp rfl (Ho (i := 4) (xs := g) (f := Zx) rfl (dk rfl) ul171 rfl rfl (oI rfl ?_))))))))
  refine nL (tN ?_)
  rcases Qd h with ⟨au, h⟩ | ⟨au, h⟩
  refine Qp rfl au (T.skip (tN (T.seq (T.block (sR (Qs (oP Kx i4 rfl (oL 5 ul4 rfl ?_))))))))
  refine mw rfl ?_
  rcases Qd h with ⟨ap, h⟩ | ⟨ap, h⟩
  cases h
  refine sn rfl ap (OpT.move rfl (dk rfl) rfl (sn rfl ap (OpT.move rfl (dk rfl) rfl (Wy (Z3.view 93 4 rfl rfl) ?_))))
  obtain ⟨a, av, h⟩ := bind_some h
  refine sn rfl ap (Hq (xs := g) (f := Zx) (v := a) rfl (dk rfl) ul171 i128 rfl rfl av (sn rfl ap (Xy rfl (dk rfl) Kx rfl i4 (by decide) rfl (sn rfl ap (Lq rfl (dk rfl) ul4 rfl rfl rfl (oZ ap rfl (oP Kx i4 rfl (sp rfl (Jh (i := 5) (cells' := [.d (.bool a.null), .d (.sl false 1 (mI q)), .d (.sl false 1 (mI j))]) rfl rfl i4 rfl rfl rfl (nb rfl) rfl (nL (tN ?_)))))))))))
  refine T.seq (Z7 (dP rfl (.f rfl) Kx i38 rfl (dL 5 rfl (.f rfl) Zs rfl (dS (c := ⟨some 102, .sl false 3 (g.map Zx), [(10, .c (.ex p))], [(4, .arrA p 128 3 (g.map Zx))], []⟩) (fun t hm => oF rfl rfl (Zq (OpT.move rfl (dk rfl) hm.s0 rfl) (Hc 102 4 hm.o0) rfl)) rfl rfl (dV rfl rfl (dX g Zx rfl (.f rfl) ul171 i128 av rfl ?_))))))
  refine dQ rfl (.f rfl) Kx i38 rfl (dR rfl (.f rfl) Zs rfl ?_)
  obtain ⟨w, az, h⟩ := bind_some h
  refine dH fu67 (Zm.nil (Hk K (flx0 := false) (flx1 := false) az)) rfl (.f rfl) rfl (dP rfl (.f rfl) Kx i38 rfl (dS (c := ⟨none, .any, [(108, .ptr b (0 + 1)), (107, .sl false 1 (mI w))], [(5, (Qe1 b a.null q j))], [(5, (Qe1 b a.null w j))]⟩) (fun t hm => oF rfl rfl (Jh (i := 5) (cells' := [.d (.bool a.null), .d (.sl false 1 (mI w)), .d (.sl false 1 (mI j))]) rfl rfl i38 hm.s0 hm.s1 hm.o0 (nb rfl) rfl rfl)) rfl rfl (dF [0,1,0,0,12,28,60,127,255,511] Q0 rfl (by kernel_rfl) (fun u hu => (tN (Qg hu (Z7 (dP rfl (.f rfl) Kx i38 rfl (dL 5 rfl (.f rfl) Zs rfl ?_)))))))))
  refine dS (c := ⟨some 111, .sl false 3 (g.map Zx), [(10, .c (.ex p))], [(4, .arrA p 128 3 (g.map Zx))], []⟩) (fun t hm => oF rfl rfl (Zq (OpT.move rfl (dk rfl) hm.s0 rfl) (Hc 111 4 hm.o0) rfl)) rfl rfl (dV rfl rfl (dX g Zx rfl (.f rfl) ul171 i128 av rfl (dQ rfl (.f rfl) Kx i38 rfl (dR rfl (.f rfl) Zs rfl ?_))))
  obtain ⟨aq, a4, h⟩ := bind_some h
  refine dH fu67 (Zm.nil (Hk K (flx0 := false) (flx1 := false) a4)) rfl (.f rfl) rfl (dP rfl (.f rfl) Kx i38 rfl (dS (c := ⟨none, .any, [(117, .ptr b (0 + 2)), (116, .sl false 1 (mI aq))], [(5, (Qe1 b a.null w j))], [(5, (Qe1 b a.null w aq))]⟩) (fun t hm => oF rfl rfl (Jh (i := 5) (cells' := [.d (.bool a.null), .d (.sl false 1 (mI w)), .d (.sl false 1 (mI aq))]) rfl rfl i38 hm.s0 hm.s1 hm.o0 (nb rfl) rfl rfl)) rfl rfl (dF [0,1,0,0,12,28,60,127,255,511] Q0 rfl (by kernel_rfl) (fun u hu => (Qk (tN (Qg hu (Qs (mw rfl (oI rfl ?_))))))))))
  refine aw rfl (nL (tN ?_))
  refine Qe ?_ (ih (wI (s + (1:Int))) ac ad af ag m ai aj al am g a.null w aq y aa ab p b h)
  exact tq rfl rfl
  refine Qo rfl au (T.exit (Ql (Ql (Qu (tN (T.seq (sR (Qs (oP Mg i5 rfl (oL 3 ul5 rfl (oI rfl ?_)))))))))))
  refine nL (tN ?_)
  rcases Qd h with ⟨ay, h⟩ | ⟨ay, h⟩
  cases h
  refine Qo rfl ay (T.skip (tN (sR (Qs (oA 5 [.bool an, .sl false 1 (mI q), .sl false 1 (mI j)] Kx i128 rfl (sp rfl (Qy (i := 2) (cells' := [.d (.bool an), .d (.sl false 1 (mI q)), .d (.sl false 1 (mI j))]) rfl rfl i128 rfl rfl rfl rfl (nb rfl) rfl (nL (tN (T.ret ?_))))))))))
  exact Q6 (.cons _ _ _ _ (.cellAgg 8 128 _ 0 2 128 _ [.bool an, .sl false 1 (mI q), .sl false 1 (mI j)] _ _ 3 _ rfl rfl rfl rfl Kx rfl i128) .nil) (.cons 0 rfl (.cons 0 rfl (.nil _))) (by cases h; exact ⟨gl [y], rfl, rfl⟩)
theorem Iu {r : Qw × Qm} (K : Nat) (rec_raddleref09_builder_node : Qm → (List Q5) → Int → Int → Option (Qw × Qm)) (hrec_raddleref09_builder_node : U0 rec_raddleref09_builder_node) (bx0 : Nat) : ∀ (k : Nat), ∀ (x1 : List Q5) (x3 ad : Int) (q : List Zl) (a : Int) (b : Zy) (g : List Int) (u w : Int) (y : ByteArray) (j : List Qw) (flx1 : Bool) (m : Value) (aa ab : Nat) (af : Value), Um K rec_raddleref09_builder_node k x1 x3 ad q a b g u w y j = some r → TL tp 128 (ca [1,1,1,1,1,1,0,1,0,0] ff66) ⟨[(0, .ptr bx0 0), (1, .sl flx1 9 (x1.map Qx)), (3, .int .i64 x3), (8, .ptr aa 0), (9, .ptr ab 0), (10, .c (.ex af)), (11, .int .i64 ad)], [(Gy bx0 m), .arrX m 65 9 0 (q.map Qv), (o128 aa false (.slice none 0 0) (.slice none 0 0)), (b165x5 ab a b.a0 b.a1 b.a2 b.a3 g u w y), .arrA af 128 3 (j.map Zx)]⟩ (Bl bx0 r) := by
 intro k
 induction k with
 | zero =>
  intro x1 x3 ad q a b g u w y j flx1 m aa ab af h
  exact zn h
 | succ k ih =>
  intro x1 x3 ad q a b g u w y j flx1 m aa ab af h
  rw [Um] at h
  refine Q7 (T.seq (sR (Qs (mw rfl (oP Mg i38 rfl (oL 3 Zs rfl (oU g (cI .i64) Zs rfl ?_)))))))
  refine oI rfl (nL (tN ?_))
  rcases Qd h with ⟨ai, h⟩ | ⟨ai, h⟩
  refine Qp rfl ai (T.skip (tN (T.seq (T.block (Qs ?_)))))
  iterate 3 refine mw rfl ?_
  refine oP Mg i38 rfl (oL 3 Zs rfl (mw rfl ?_))
  obtain ⟨al, am, h⟩ := bind_some h
  refine oX g (cI .i64) Zs i3 am rfl (oR ul3 rfl (mw rfl ?_))
  obtain ⟨ag, an, h⟩ := bind_some h
  refine sp rfl (Zc (is := [0, 1]) (ph := []) rfl (dk rfl) fu66 rfl rfl (Zw.cons rfl (Zw.cons rfl (Zw.cons rfl (Zw.cons rfl Zw.nil)))) (hrec_raddleref09_builder_node (Qm.mk q) x1 al x3 bx0 m flx1 _ an) (.cons rfl rfl (.cons rfl rfl (.nil))) (fun _ => rfl) (fun ap => (nm (.c (.c (.c (.c (.c (.n)))))) (sp rfl (OpT.buildSlice (elems := ([ag.1] : List Qw).map Zx) rfl (dk rfl) ul171 i128 (by decide) rfl (H4 rfl) rfl rfl rfl (X2 rfl) (by decide) ?_)))))
  obtain ⟨aq, h⟩ := Zb h
  refine sp rfl (Zk (i := 4) (xs := j) (ys := [ag.1]) (f := Zx) rfl (dk rfl) ul171 i128 rfl rfl rfl rfl aq (fun au => (aw rfl (nL (Qk (tN (Qs (mw rfl (oI rfl (aw rfl ?_))))))))))
  refine nL (tN ?_)
  refine Qe ?_ (ih x1 x3 (wI (ad + (1:Int))) ag.2.p a b g u w y (j ++ [ag.1]) flx1 (ap 0) aa ab au h)
  exact tq rfl rfl
  refine Qo rfl ai (T.exit (Ql (Ql (Qu (tN (T.seq (sR (Qs (oP Mg i5 rfl (oL 3 ul5 rfl (oI rfl ?_)))))))))))
  refine nL (tN ?_)
  rcases Qd h with ⟨aj, h⟩ | ⟨aj, h⟩
  refine Qp rfl aj (sR (Qs (mw rfl (mw rfl ?_))))
  obtain ⟨ac, av, h⟩ := bind_some h
  refine sp rfl (Zc (is := [0, 1]) (ph := []) rfl (dk rfl) fu106 rfl rfl (Zw.cons rfl (Zw.view (i := 4) rfl rfl Zw.nil)) (R8 K (bx0 := bx0) (wx0c0 := m) (flx1 := false) av) (.cons rfl rfl (.cons rfl rfl (.nil))) (fun _ => rfl) (fun ay => (nm (.c (.c (.c (.c (.c (.n)))))) (sp rfl (Qy (i := 2) (cells' := [.d (.bool ac.1.null), .d (.sl false 1 (mI ac.1.first)), .d (.sl false 1 (mI ac.1.last))]) rfl rfl i128 rfl rfl rfl rfl (nb rfl) rfl (nL (tN (T.ret (Qr (Q6 (.cons _ _ _ _ (.cellAgg 8 128 _ 0 2 128 _ [.bool ac.1.null, .sl false 1 (mI ac.1.first), .sl false 1 (mI ac.1.last)] _ _ 3 _ rfl rfl rfl rfl Kx rfl i128) .nil) (.cons 0 rfl (.cons 0 rfl (.nil _))) (by cases h; exact ⟨gl [ay 0], rfl, rfl⟩)))))))))))
  refine Qo rfl aj (T.skip (tN (sR (Qs (oP Mg i5 rfl (oL 3 ul5 rfl (oI rfl (sp rfl (Zq (OpT.build (l := [.bool (a == (5:Int)), .ex (.slice none 0 0), .ex (.slice none 0 0)]) rfl (dk rfl) (Zr (pl := [(0, 1), (1, 1), (2, 1)]) Kx i128 rfl) (H4 rfl) rfl rfl rfl) (Ya 83 (l := [.bool (a == (5:Int)), .ex (.slice none 0 0), .ex (.slice none 0 0)]) (l' := [.bool (a == (5:Int)), .sl false 1 (([] : List Int).map (cI .i64)), .sl false 1 (([] : List Int).map (cI .i64))]) (.cons (.same _) (.cons (.nil _ _) (.cons (.nil _ _) (.refl _))))) ?_)))))))))
  refine sp rfl (Ze rfl (dk rfl) i128 rfl (fun az => (sp rfl (Qy (i := 0) (cells' := [.d (.bool (a == (5:Int))), .d (.sl false 1 (([] : List Int).map (cI .i64))), .d (.sl false 1 (([] : List Int).map (cI .i64)))]) rfl rfl i128 rfl rfl rfl rfl (nb rfl) rfl (nL (tN (T.seq (sR (Qs (aw rfl (nL (tN ?_))))))))))))
  refine T.block (T.loop (Qe (Jp 3 (l := [.bool false, .ex (.slice none 0 0), .ex (.slice none 0 0)]) (l' := [.bool false, .sl false 1 (([] : List Int).map (cI .i64)), .sl false 1 (([] : List Int).map (cI .i64))]) rfl (.cons (.same _) (.cons (.nil _ _) (.cons (.nil _ _) (.refl _))))) ?_))
  refine Qe ?_ (Ir K rec_raddleref09_builder_node hrec_raddleref09_builder_node bx0 K (0:Int) q [] [] a b g u w y j (a == (5:Int)) [] [] m aa ab af az h)
  exact tr rfl (.c (.s .z) (.c (.s .z) (.c (.s .z) (.c (.s .z) (.c (.s .z) (.c .z (.n _)))))))
theorem No (K : Nat) (rec_raddleref09_builder_node : Qm → (List Q5) → Int → Int → Option (Qw × Qm)) (hrec_raddleref09_builder_node : U0 rec_raddleref09_builder_node) {x0 : Qm} {x1 : List Q5} {x2 x3 : Int} {bx0 : Nat} {wx0c0 : Value} {flx1 : Bool} {r : Qw × Qm} (h : W5 K rec_raddleref09_builder_node x0 x1 x2 x3 = some r) : Jb tp 66 [.ptr bx0 0, .sl flx1 9 (x1.map Qx), .int .i64 x2, .int .i64 x3] [(Gy bx0 wx0c0), .arrX wx0c0 65 9 0 (x0.p.map Qv)] (fun γ => (.agg [.bool r.1.null, .sl false 1 (mI r.1.first), .sl false 1 (mI r.1.last)])) (fun γ => [(Gy bx0 (γ 0)), .arrX (γ 0) 65 9 0 (r.2.p.map Qv)]) := by
 refine CI 128 fu66 rfl ?_
 unfold W5 at h
 refine sR (Qs (sp rfl (Ze rfl (dk rfl) i128 rfl (fun q => (nL (tN (sR (Qs (mw rfl (mw rfl ?_))))))))))
 obtain ⟨a, u, h⟩ := bind_some h
 refine oX x1 Qx Qa3 i165 u rfl (oJ Mg i165 rfl (sp rfl (Ze rfl (dk rfl) i165 rfl (fun w => (sp rfl (Qy (i := 0) (cells' := [.d (.int .u8 a.Op), .d (.int .u64 a.S.a0), .d (.int .u64 a.S.a1), .d (.int .u64 a.S.a2), .d (.int .u64 a.S.a3), .d (.sl false 1 (mI a.L)), .d (.int .i64 a.Lo), .d (.int .i64 a.Hi), .d (.str a.Name)]) rfl rfl i165 rfl rfl rfl rfl (nb rfl) rfl (nL (tN (T.seq (sR (Qs ?_)))))))))))
 refine oP Mg i5 rfl (oL 0 ul5 rfl (oI rfl (nL (tN ?_))))
 rcases Qd h with ⟨m, h⟩ | ⟨m, h⟩
 cases h
 refine Qo rfl m (T.skip (tN (T.seq (sR (Qs (oP Mg i5 rfl (oL 0 ul5 rfl (oI rfl ?_))))))))
 refine nL (tN ?_)
 rcases Qd h with ⟨j, h⟩ | ⟨j, h⟩
 refine Qp rfl j (sR (Qs (mw rfl (oP Mg i63 rfl (oA 0 (Zy.dc .u64 a.S) Qit i63 rfl (mw rfl (sp rfl (Zq (OpT.build (l := [.int .u64 a.S.a0, .int .u64 a.S.a1, .int .u64 a.S.a2, .int .u64 a.S.a3, .int .i64 (1:Int), .int .i64 (1:Int), .int .i64 x3, .bool false, .ex (.slice none 0 0)]) rfl (dk rfl) (Zr (pl := [(0, 4), (4, 1), (5, 1), (6, 1), (7, 1), (8, 1)]) Qbf i65 rfl) (H4 rfl) rfl rfl rfl) (Ya 29 (l := [.int .u64 a.S.a0, .int .u64 a.S.a1, .int .u64 a.S.a2, .int .u64 a.S.a3, .int .i64 (1:Int), .int .i64 (1:Int), .int .i64 x3, .bool false, .ex (.slice none 0 0)]) (l' := [.int .u64 a.S.a0, .int .u64 a.S.a1, .int .u64 a.S.a2, .int .u64 a.S.a3, .int .i64 (1:Int), .int .i64 (1:Int), .int .i64 x3, .bool false, .sl false 1 (([] : List Int).map (cI .i64))]) (.cons (.same _) (.cons (.same _) (.cons (.same _) (.cons (.same _) (.cons (.same _) (.cons (.same _) (.cons (.same _) (.cons (.same _) (.cons (.nil _ _) (.refl _))))))))))) ?_))))))))
 obtain ⟨b, y, h⟩ := bind_some h
 refine sp rfl (Zc (is := [2, 3]) (ph := []) rfl (dk rfl) fu105 rfl rfl (Zw.cons rfl (Zw.cons rfl Zw.nil)) (R6 K (bx0 := bx0) (wx0c0 := wx0c0) y) (.cons rfl rfl (.cons rfl rfl (.nil))) (fun _ => rfl) (fun aa => (nm (.c (.c (.c (.c (.n))))) (sp rfl (Qy (i := 1) (cells' := [.d (.bool b.1.null), .d (.sl false 1 (mI b.1.first)), .d (.sl false 1 (mI b.1.last))]) rfl rfl i128 rfl rfl rfl rfl (nb rfl) rfl (nL (tN (T.ret (Qr (Q6 (.cons _ _ _ _ (.cellAgg 8 128 _ 0 1 128 _ [.bool b.1.null, .sl false 1 (mI b.1.first), .sl false 1 (mI b.1.last)] _ _ 3 _ rfl rfl rfl rfl Kx rfl i128) .nil) (.cons 2 rfl (.cons 2 rfl (.nil _))) (by cases h; exact ⟨gl [aa 0], rfl, rfl⟩)))))))))))
 refine Qo rfl j (T.skip (tN (T.seq (sR (Qs (oP Mg i5 rfl (oL 0 ul5 rfl (oI rfl ?_))))))))
 refine mw rfl ?_
 rcases Qd h with ⟨g, h⟩ | ⟨g, h⟩
 cases h
 refine pf rfl g (pf rfl g (pf rfl g (oZ g rfl (nL (tN (Qo rfl rfl (T.skip (tN ?_))))))))
 refine sR (Qs (aw rfl (nL (tN (T.seq (sR (Qs (aw rfl (nL (tN ?_))))))))))
 refine T.block (T.loop (Qe (Y0 128 3) ?_))
 refine Qe ?_ (Iu K rec_raddleref09_builder_node hrec_raddleref09_builder_node bx0 K x1 x3 (0:Int) x0.p a.Op a.S a.L a.Lo a.Hi a.Name [] flx1 wx0c0 q w (Qc1 2) h)
 exact tr rfl (.c (.s (.s (.s .z))) (.c (.s (.s (.s .z))) (.c (.s (.s .z)) (.c (.s .z) (.c .z (.n _))))))
theorem Nn (K : Nat) : ∀ n, U0 (Uz K n) := by
 intro n
 induction n with
 | zero =>
  intro x0 x1 x2 x3 bx0 wx0c0 flx1 r h
  exact zn h
 | succ n ih =>
  intro x0 x1 x2 x3 bx0 wx0c0 flx1 r h
  exact No K (Uz K n) ih h
theorem P7 (K : Nat) {x0 : Qm} {x1 : List Q5} {x2 x3 : Int} {bx0 : Nat} {wx0c0 : Value} {flx1 : Bool} {r : Qw × Qm} (h : Cq K x0 x1 x2 x3 = some r) : Jb tp 66 [.ptr bx0 0, .sl flx1 9 (x1.map Qx), .int .i64 x2, .int .i64 x3] [(Gy bx0 wx0c0), .arrX wx0c0 65 9 0 (x0.p.map Qv)] (fun γ => (.agg [.bool r.1.null, .sl false 1 (mI r.1.first), .sl false 1 (mI r.1.last)])) (fun γ => [(Gy bx0 (γ 0)), .arrX (γ 0) 65 9 0 (r.2.p.map Qv)]) := Nn K K x0 x1 x2 x3 bx0 wx0c0 flx1 r h
abbrev Qf2 (r : Bool) : ES := Jq tp ff65 (fun y t => y = (.bool r) ∧ t = [])
abbrev Qam (r : Bool) : ES := fT 37 [1,1,1] ff65 (Qf2 r)
abbrev Se (r : Bool) : ES := Qz 0 ((Qam r))
theorem Qcf {r : Bool} (K : Nat) : ∀ (k : Nat), ∀ (x0 : List Q5) (c : Int) (flx0 : Bool), H8 K k x0 c = some r → TL tp 37 (ca [1,1,0,1,0,0] ff65) ⟨[(0, .sl flx0 9 (x0.map Qx)), (3, .int .i64 c)], []⟩ (Se r) := by
 intro k
 induction k with
 | zero =>
  intro x0 c flx0 h
  exact zn h
 | succ k ih =>
  intro x0 c flx0 h
  rw [H8] at h
  refine Q7 (T.seq (sR (Qs (mw rfl (mw rfl (oU x0 Qx Qa3 rfl (oI rfl ?_)))))))
  refine nL (tN ?_)
  rcases Qd h with ⟨g, h⟩ | ⟨g, h⟩
  refine Qp rfl g (T.skip (tN (T.seq (T.block (sR (Qs (mw rfl (mw rfl ?_))))))))
  obtain ⟨a, j, h⟩ := bind_some h
  refine oX x0 Qx Qa3 i165 j rfl (oJ Mg i165 rfl (sp rfl (Ze rfl (dk rfl) i165 rfl (fun l => (sp rfl (Qy (i := 0) (cells' := [.d (.int .u8 a.Op), .d (.int .u64 a.S.a0), .d (.int .u64 a.S.a1), .d (.int .u64 a.S.a2), .d (.int .u64 a.S.a3), .d (.sl false 1 (mI a.L)), .d (.int .i64 a.Lo), .d (.int .i64 a.Hi), .d (.str a.Name)]) rfl rfl i165 rfl rfl rfl rfl (nb rfl) rfl (nL (tN (sR (Qs (oP Mg i5 rfl (oL 0 ul5 rfl ?_))))))))))))
  refine oI rfl (mw rfl ?_)
  rcases Qd h with ⟨b, h⟩ | ⟨b, h⟩
  cases h
  refine pf rfl b (pf rfl b (pf rfl b (pf rfl b (Qe2 (.gone _ _ _ rfl rfl rfl) (dk rfl) (Qe2 (.gone _ _ _ rfl rfl rfl) (dk rfl) (Qe2 (.gone _ _ _ rfl rfl rfl) (dk rfl) ?_))))))
  refine pf rfl b (oZ b rfl (mw rfl (pf rfl rfl (pf rfl rfl (pf rfl rfl (pf rfl rfl ?_))))))
  refine oZ rfl rfl (nL (tN (Qo rfl rfl (T.skip (Qk (tN (Qs (mw rfl (oI rfl ?_)))))))))
  refine aw rfl (nL (tN ?_))
  refine Qe ?_ (ih x0 (wI (c + (1:Int))) flx0 h)
  exact tq rfl rfl
  refine Qo rfl g (T.exit (Ql (Ql (Qu (tN (sR (Qs (aw rfl (nL (tN (T.ret (fd rfl (by cases h; exact ⟨rfl, rfl⟩)))))))))))))
theorem Qf3 (K : Nat) {x0 : List Q5} {flx0 r : Bool} (h : E4 K x0 = some r) : Zm tp 65 [.sl flx0 9 (x0.map Qx)] [] (.bool r) := by
 refine CI 37 fu65 rfl ?_
 unfold E4 at h
 refine sR (Qs (aw rfl (nL (tN (T.seq (sR (Qs (mw rfl ?_))))))))
 obtain ⟨c, b, h⟩ := bind_some h
 refine oH fu62 (Zm.nil (Pc K (flx0 := flx0) b)) rfl (oT rfl (nL (tN ?_)))
 rcases Qd h with ⟨a, h⟩ | ⟨a, h⟩
 cases h
 refine Qo rfl a (T.skip (tN (T.seq (sR (Qs (aw rfl (nL (tN (T.block ?_)))))))))
 refine T.loop ?_
 refine Qe ?_ (Qcf K K x0 (0:Int) flx0 h)
 exact tq rfl rfl
abbrev Qbc (r : Qj × Int) : ES := Jq tp ff37 (fun y t => y = (.tup [.agg [.sl false 1 (mI r.1.First), .sl false 9 (r.1.P.map Qv)], .int .i64 r.2]) ∧ t = [])
abbrev Qal (r : Qj × Int) : ES := fT 86 [1,1,1,1,1,1] ff37 (Qbc r)
abbrev Bn (r : Qj × Int) : ES := Qz 2 ((Qal r))
abbrev Sb (r : Qj × Int) : ES := fL 86 [1,1,1,1,1,0,1,0,0] ff37 (Bn r)
abbrev Nr (r : Qj × Int) : ES := fT 86 [1,1,1,1,1,0,1,0,0,1,1] ff37 (Sb r)
abbrev D3 (r : Qj × Int) : ES := Qz 3 ((Nr r))
abbrev D2 (r : Qj × Int) : ES := fT 86 [1,1,1,1,1,0,1,0,0,1,0,0,1,1,1] ff37 (D3 r)
abbrev Mn (r : Qj × Int) : ES := Qz 4 ((D2 r))
abbrev Qeo (r : Qj × Int) : ES := fT 86 [1,1,1] ff37 (Qbc r)
abbrev Qce (r : Qj × Int) : ES := Qz 0 ((Qeo r))
abbrev Pb (r : Qj × Int) (go : (List (List Q5)) → Int → (List Int) → (List Zl) → (List Zl) → (List Int) → (List Zl) → Option (Qj × Int)) : Prop := ∀ (x0 : List (List Q5)) (a : Int) (b : List Int) (c f : List Zl) (g : List Int) (i : List Zl) (flx0 : Bool) (j : Nat) (l : Value) (m : Nat) (n : Value) (p : Nat) (q : Value), go x0 a b c f g i = some r → TL tp 86 (ca [1,1,1,1,1,0,1,0,0] ff37) ⟨[(0, .sl flx0 1 (x0.map (cL 9 Qx))), (2, .ptr j 0), (5, .ptr m 0), (6, .ptr p 0), (7, .int .i64 a)], [(b43x7 j b l), .arrA l 65 9 (c.map Qv), (Gy m n), .arrX n 65 9 0 (f.map Qv), (b43x7 p g q), .arrA q 65 9 (i.map Qv)]⟩ (Bn r)
theorem Qfz {r : Qj × Int} (K : Nat) (go1 : (List (List Q5)) → Int → (List Int) → (List Zl) → (List Zl) → (List Int) → (List Zl) → Option (Qj × Int)) (hgo1 : Pb r go1) : ∀ (k : Nat), ∀ (x0 : List (List Q5)) (aa ab : Int) (ac : List Int) (ad j : List Zl) (af : List Int) (ag : List Zl) (ai : Bool) (aj m : List Int) (flx0 : Bool) (q : Nat) (s : Value) (g : Nat) (b : Value) (w : Nat) (y : Value) (p : Nat), Mo K go1 k x0 aa ab ac ad j af ag ai aj m = some r → TL tp 86 (ca [1,1,1,1,1,0,1,0,0,1,0,0,1,1,0,1,0,0] ff37) ⟨[(0, .sl flx0 1 (x0.map (cL 9 Qx))), (2, .ptr q 0), (5, .ptr g 0), (6, .ptr w 0), (7, .int .i64 aa), (8, .ptr p 0), (9, .int .i64 ab)], [(b43x7 q ac s), .arrA s 65 9 (ad.map Qv), (Gy g b), .arrX b 65 9 0 (j.map Qv), (b43x7 w af y), .arrA y 65 9 (ag.map Qv), (Qe1 p ai aj m)]⟩ (Mn r) := by
 intro k
 induction k with
 | zero =>
  intro x0 aa ab ac ad j af ag ai aj m flx0 q s g b w y p h
  exact zn h
 | succ k ih =>
  intro x0 aa ab ac ad j af ag ai aj m flx0 q s g b w y p h
  rw [Mo] at h
  refine Q7 (T.seq (sR (Qs (mw rfl (oP Kx i38 rfl (oL 6 Zs rfl (oU m (cI .i64) Zs rfl ?_)))))))
  refine oI rfl (nL (tN ?_))
  rcases Qd h with ⟨al, h⟩ | ⟨al, h⟩
  refine Qp rfl al (T.skip (tN (T.seq (T.block (Z7 (dV rfl rfl (dK rfl (.f rfl) rfl ?_)))))))
  refine dP rfl (.f rfl) ul126 i41 rfl (dL 2 rfl (.f rfl) Ci rfl (dP rfl (.f rfl) Kx i38 rfl (dL 6 rfl (.f rfl) Zs rfl (dV rfl rfl ?_))))
  obtain ⟨l, ap, h⟩ := bind_some h
  refine dX m (cI .i64) rfl (.f rfl) Zs i3 ap rfl (dR rfl (.f rfl) ul3 rfl ?_)
  obtain ⟨a, am, h⟩ := bind_some h
  refine dS (c := ⟨some 71, .el b 9 (Int.toNat l) 0, [(65, .c (.ex b)), (70, .int .i64 l)], [(3, .arrX b 65 9 0 (j.map Qv))], []⟩) (fun t hm => oF rfl rfl (Yj (n := 3) (xs := j) (f := Qv) (old := a) rfl (dk rfl) Ci i65 hm.s0 hm.o0 hm.s1 am rfl)) rfl rfl (dS (c := ⟨some 72, .el b 9 (Int.toNat l) 7, [(71, .el b 9 (Int.toNat l) 0)], [], []⟩) (fun t hm => oF rfl rfl (Cg rfl (dk rfl) Qbf rfl i4 (by decide) hm.s0 rfl)) rfl rfl (dS (c := ⟨none, .any, [(72, .el b 9 (Int.toNat l) 7)], [(3, .arrX b 65 9 0 (j.map Qv))], [(3, .arrX b 65 9 0 ((List.set j (Int.toNat l) (Zl.mk a.S a.Lo a.Hi a.Rule true a.Next)).map Qv))]⟩) (fun t hm => oF rfl rfl (Hv (i := 3) (xs := j) (f := Qv) (old := a) (new := (Zl.mk a.S a.Lo a.Hi a.Rule true a.Next)) rfl rfl i4 hm.s0 rfl hm.o0 (Z2 am).2 (Qla _) (nb rfl) rfl rfl)) rfl rfl (dF [0,1,3,7,0,16,0,112,240,511,1023,2047] Q0 rfl (by kernel_rfl) (fun u hu => (Qk (tN (Qg hu (Qs (mw rfl (oI rfl ?_))))))))))
  refine aw rfl (nL (tN ?_))
  refine Qe ?_ (ih x0 aa (wI (ab + (1:Int))) ac ad (List.set j (Int.toNat l) (Zl.mk a.S a.Lo a.Hi a.Rule true a.Next)) af ag ai aj m flx0 q s g b w y p h)
  exact tq rfl rfl
  refine Qo rfl al (T.exit (Ql (Ql (Qu (tN (sR (Qs (mw rfl (oK rfl (oP ul126 i41 rfl (oL 2 Ci rfl ?_)))))))))))
  refine sp rfl (Hn (i := 3) (xs := j) (f := Qv) rfl (dk rfl) Ci rfl rfl (oI rfl (nL (tN ?_))))
  rcases Qd h with ⟨an, h⟩ | ⟨an, h⟩
  cases h
  refine Qo rfl an (T.skip (Qk (tN (Qs (mw rfl (oI rfl (aw rfl (nL (tN ?_)))))))))
  refine Qe ?_ (hgo1 x0 (wI (aa + (1:Int))) ac ad j af ag flx0 q s g b w y h)
  exact tq rfl rfl
theorem Qf0 {r : Qj × Int} (K : Nat) : ∀ (k : Nat), Pb r (Gt K k) := by
 intro k
 induction k with
 | zero =>
  intro x0 q ai aj ab y al flx0 ad af w aa ag ac h
  exact zn h
 | succ k ih =>
  intro x0 q ai aj ab y al flx0 ad af w aa ag ac h
  rw [Gt] at h
  refine Q7 (T.seq (sR (Qs (mw rfl (mw rfl (oU x0 (cL 9 Qx) ul87 rfl (oI rfl ?_)))))))
  refine nL (tN ?_)
  rcases Qd h with ⟨am, h⟩ | ⟨am, h⟩
  refine Qp rfl am (T.skip (tN (T.seq (T.block (T.seq (Qg Yp (Ja ?_)))))))
  refine gM rfl (fun _ => .f rfl) (fun _ => rfl) (gM rfl (fun _ => .f rfl) (fun _ => rfl) (gM rfl (fun _ => .f rfl) (fun _ => rfl) ?_))
  obtain ⟨m, an, h⟩ := bind_some h
  refine gX x0 (cL 9 Qx) rfl (fun _ => .f rfl) ul87 i80 an (fun _ => rfl) (gR rfl (fun _ => .f rfl) Qa3 (fun _ => rfl) (gM rfl (fun _ => .f rfl) (fun _ => rfl) (gM rfl (fun _ => .f rfl) (fun _ => rfl) (gX x0 (cL 9 Qx) rfl (fun _ => .f rfl) ul87 i80 an (fun _ => rfl) (gR rfl (fun _ => .f rfl) Qa3 (fun _ => rfl) (gN m Qx rfl (fun _ => .f rfl) Qa3 (fun _ => rfl) ?_))))))
  refine gI rfl (fun _ => .f rfl) (fun _ => rfl) (gM rfl (fun _ => .f rfl) (fun _ => rfl) ?_)
  obtain ⟨j, aq, h⟩ := bind_some h
  refine DGG.step (c := fun a => ⟨some 48, .agg [.bool j.1.null, .sl false 1 (mI j.1.first), .sl false 1 (mI j.1.last)], [(36, .ptr w 0), (40, .sl false 9 (m.map Qx)), (46, .int .i64 (wI ((m.length : Int) - (1:Int)))), (47, .int .i64 q)], [(4, .arrX aa 65 9 0 (ab.map Qv)), (3, (Gy w aa))], [(3, (Gy w ((a 12).1 0))), (4, .arrX ((a 12).1 0) 65 9 0 (j.2.p.map Qv))]⟩) [12] (fun a γ' h => by simp only [h 12 (by decide)]) (fun a t hm => oF rfl rfl (Zc (is := [3, 4]) (ph := []) rfl (dk rfl) fu66 rfl rfl (Zw.cons hm.s0 (Zw.cons hm.s1 (Zw.cons hm.s2 (Zw.cons hm.s3 Zw.nil)))) (P7 K (bx0 := w) (wx0c0 := aa) (flx1 := false) aq) (.cons hm.o1 rfl (.cons hm.o0 rfl (.nil))) (fun _ => rfl) (fun g => ⟨(g, 0), rfl⟩))) (fun a => Zt rfl rfl) (DGG.step (c := fun a => ⟨some 8, .ptr ((a 13).2) 0, [], [(0, .ro 0 [])], [(0, .box ((a 13).2) 128 [.d (.bool false), .d (.ex (.slice none 0 0)), .d (.ex (.slice none 0 0))])]⟩) [13] (fun a γ' h => by simp only [h 13 (by decide)]) (fun a t hm => oF rfl rfl (Qgp 0 rfl (dk rfl) i128 rfl hm.o0 (fun b => ⟨(fun _ => undef, b), rfl⟩))) (fun a => Zt rfl rfl) (DGG.step (c := fun a => ⟨none, .any, [(8, .ptr ((a 13).2) 0), (48, .agg [.bool j.1.null, .sl false 1 (mI j.1.first), .sl false 1 (mI j.1.last)])], [(0, .box ((a 13).2) 128 [.d (.bool false), .d (.ex (.slice none 0 0)), .d (.ex (.slice none 0 0))])], [(0, .box ((a 13).2) 128 [.d (.bool j.1.null), .d (.sl false 1 (mI j.1.first)), .d (.sl false 1 (mI j.1.last))])]⟩) [13] (fun a γ' h => by simp only [h 13 (by decide)]) (fun a t hm => oF rfl rfl (Qy (i := 0) (cells' := [.d (.bool j.1.null), .d (.sl false 1 (mI j.1.first)), .d (.sl false 1 (mI j.1.last))]) rfl rfl i128 hm.s0 hm.s1 rfl hm.o0 (nb rfl) rfl ⟨u0, rfl⟩)) (fun a => Zt rfl rfl) (gF [0,0,0,6,14,0,0,96,224,480,992,0,4095,0,16383] Q0 rfl (by kernel_rfl) (fun _ => by kernel_rfl) (fun a u hu => (tN (Qg hu (sR (Qs (oP F7 i38 rfl (oL 5 Zs rfl ?_))))))))))
  refine oP Kx i38 rfl (oL 0 Zs rfl ?_)
  obtain ⟨ap, au, h⟩ := bind_some h
  refine oH fu67 (Zm.nil (Hk K (flx0 := false) (flx1 := false) au)) rfl (oP F7 i38 rfl (sp rfl (Jh (i := 5) (cells' := [.d (.sl false 1 (mI ap)), .d (.ex ac)]) rfl rfl i38 rfl rfl rfl (nb rfl) rfl (nL (tN (T.seq (sR (Qs (aw rfl ?_)))))))))
  refine nL (tN (T.block (T.loop ?_)))
  refine Qe ?_ (Qfz K (Gt K k) ih K x0 q (0:Int) ai aj j.2.p ap al j.1.null j.1.first j.1.last flx0 ad af w ((a 12).1 0) ag ac ((a 13).2) h)
  exact tr rfl (.c (.s .z) (.c (.s .z) (.c (.s .z) (.c (.s .z) (.c (.s .z) (.c (.s .z) (.c .z (.n _))))))))
  refine Qo rfl am (T.exit (Ql (Ql (Qu (tN (sR (Qs (mw rfl (oK rfl (oP ul126 i41 rfl (oL 2 Ci rfl ?_)))))))))))
  refine oP F7 i41 rfl (sp rfl (Jh (i := 4) (cells' := [.d (.sl false 1 (mI y)), .d (.ex aa)]) rfl rfl i41 rfl rfl rfl (nb rfl) rfl (nL (tN (sR (Qs (Wy (Ke 3 rfl) (sp rfl (Zq (F5 (i := 4) (l := [.sl false 1 (mI y), .ex aa]) rfl (dk rfl) F7 rfl i43 rfl rfl rfl rfl rfl) (Ya 85 (l := [.sl false 1 (mI y), .ex aa]) (l' := [.sl false 1 (mI y), .sl false 9 (ab.map Qv)]) (.cons (.same _) (.cons (.view 3 rfl) (.refl _)))) (sp rfl (Qy (i := 0) (cells' := [.d (.sl false 1 (mI y)), .d (.sl false 9 (ab.map Qv))]) rfl rfl i43 rfl rfl rfl rfl (nb rfl) rfl (aw rfl ?_))))))))))))
  refine nL (tN (T.ret (Fin.done (.cons _ _ _ _ (.cellAgg 2 43 _ 0 0 43 _ [.sl false 1 (mI y), .sl false 9 (ab.map Qv)] _ _ 2 _ rfl rfl rfl rfl F7 rfl i43) (.cons _ _ _ _ (.tmp 3 _ rfl) .nil)) (by cases h; exact ⟨rfl, rfl⟩))))
theorem Qf1 {r : Qj × Int} (K : Nat) : ∀ (k : Nat), ∀ (x0 : List (List Q5)) (b : Int) (flx0 : Bool) (a : Nat), Mp K k x0 b = some r → TL tp 86 (ca [1,1,0,1,0,0] ff37) ⟨[(0, .sl flx0 1 (x0.map (cL 9 Qx))), (2, .ptr a 0), (4, .int .i64 b)], [.box a 43 [.d (.ex (.slice none 0 0)), .d (.ex (.slice none 0 0))]]⟩ (Qce r) := by
 intro k
 induction k with
 | zero =>
  intro x0 b flx0 a h
  exact zn h
 | succ k ih =>
  intro x0 b flx0 a h
  rw [Mp] at h
  refine Q7 (T.seq (sR (Qs (mw rfl (mw rfl (oU x0 (cL 9 Qx) ul87 rfl (oI rfl ?_)))))))
  refine nL (tN ?_)
  rcases Qd h with ⟨g, h⟩ | ⟨g, h⟩
  refine Qp rfl g (T.skip (tN (T.seq (T.block (sR (Qs (mw rfl (mw rfl ?_))))))))
  obtain ⟨m, p, h⟩ := bind_some h
  refine oX x0 (cL 9 Qx) ul87 i80 p rfl (oR Qa3 rfl ?_)
  obtain ⟨y, q, h⟩ := bind_some h
  refine oH fu65 (Zm.nil (Qf3 K (flx0 := false) q)) rfl (oT rfl (nL (tN ?_)))
  rcases Qd h with ⟨j, h⟩ | ⟨j, h⟩
  cases h
  refine Qo rfl j (T.skip (Qk (tN (Qs (mw rfl (oI rfl (aw rfl (nL (tN ?_)))))))))
  refine Qe ?_ (ih x0 (wI (b + (1:Int))) flx0 a h)
  exact tq rfl rfl
  refine Qo rfl g (T.exit (Ql (Ql (Qu (tN (sR (Qs (sp rfl (OpT.build (l := [.ex (.slice none 0 0)]) rfl (dk rfl) (Zr (pl := [(0, 1)]) ul126 i126 rfl) (H4 rfl) rfl rfl (sp rfl (Q9 rfl (dk rfl) rfl (fun u => (aw rfl (nL (tN (sR (Qs ?_)))))))))))))))))
  refine sp rfl (Zq (OpT.build (l := [.ex (.slice none 0 0), .ex (.slice none 0 0)]) rfl (dk rfl) (Zr (pl := [(0, 1), (1, 1)]) F7 i43 rfl) (H4 rfl) rfl rfl rfl) (Ya 29 (l := [.ex (.slice none 0 0), .ex (.slice none 0 0)]) (l' := [.sl false 1 (([] : List Int).map (cI .i64)), .ex (.slice none 0 0)]) (.cons (.nil _ _) (.cons (.same _) (.refl _)))) (sp rfl (Ze rfl (dk rfl) i43 rfl (fun w => (sp rfl (Qy (i := 0) (cells' := [.d (.sl false 1 (([] : List Int).map (cI .i64))), .d (.ex (.slice none 0 0))]) rfl rfl i43 rfl rfl rfl rfl (nb rfl) rfl (nL (tN (T.seq (sR (Qs (aw rfl ?_))))))))))))
  refine nL (tN (T.block (T.loop (Qe (Y0 65 9) (Qe (Jp 3 (l := [.ex (.slice none 0 0), .ex (Qc1 16)]) (l' := [.sl false 1 (([] : List Int).map (cI .i64)), .ex (Qc1 16)]) rfl (.cons (.nil _ _) (.cons (.same _) (.refl _)))) (Qe (Qd4 65 9) (Qe (Y0 65 9) ?_)))))))
  refine Qe ?_ (Qf0 K K x0 (0:Int) [] [] [] [] [] flx0 a (Qc1 16) u (Qc1 17) w (Qc1 18) h)
  exact tr rfl (.c (.s (.s (.s (.s (.s .z))))) (.c (.s (.s .z)) (.c (.s (.s (.s .z))) (.c (.s .z) (.c (.s .z) (.c .z (.n _)))))))
theorem Qjf (K : Nat) {x0 : List (List Q5)} {flx0 : Bool} {r : Qj × Int} (h : Sc K x0 = some r) : Zm tp 37 [.sl flx0 1 (x0.map (cL 9 Qx))] [] (.tup [.agg [.sl false 1 (mI r.1.First), .sl false 9 (r.1.P.map Qv)], .int .i64 r.2]) := by
 refine CI 86 fu37 rfl ?_
 unfold Sc at h
 refine sR (Qs (sp rfl (Ze rfl (dk rfl) i43 rfl (fun b => (aw rfl (nL (tN (T.seq (sR (Qs (mw rfl ?_)))))))))))
 refine oU x0 (cL 9 Qx) ul87 rfl (oI rfl (nL (tN ?_)))
 rcases Qd h with ⟨a, h⟩ | ⟨a, h⟩
 cases h
 refine Qo rfl a (T.skip (tN (T.seq (sR (Qs (aw rfl (nL (tN (T.block ?_)))))))))
 refine T.loop ?_
 refine Qe ?_ (Qf1 K K x0 (0:Int) flx0 b h)
 exact tq rfl rfl
abbrev Qfy (r : Bool) : ES := Jq tp ff77 (fun y t => y = (.bool r) ∧ t = [])
abbrev Qca (r : Bool) : ES := fT 41 [1,1] ff77 (Qfy r)
abbrev Cp (r : Bool) : ES := Qz 0 ((Qca r))
abbrev Tg (r : Bool) : ES := fL 41 [1,0,1,0,0] ff77 (Cp r)
abbrev O6 (r : Bool) : ES := fT 41 [1,0,1,0,0,1,1] ff77 (Tg r)
abbrev E2 (r : Bool) : ES := Qz 1 ((O6 r))
theorem Km {r : Bool} (K : Nat) (h : Uu K = some r) : T tp 41 (ca [1,0,1,0,0,1,0,0,1,0] ff77) ⟨[], []⟩ (E2 r) := by
 unfold Uu at h
 refine sR (Qs (aw rfl (nL (tN (T.ret (Q1 (Qr (Qr (Q1 (Qr (fd rfl (by cases h; exact ⟨rfl, rfl⟩))))))))))))
theorem Qcb {r : Bool} (K : Nat) : ∀ (k : Nat), ∀ (x0 : List Int) (x1 b : Int) (flx0 : Bool), Vy K k x0 x1 b = some r → TL tp 41 (ca [1,0,1,0,0] ff77) ⟨[(0, .sl flx0 1 (mI x0)), (1, .int .i64 x1), (5, .int .i64 b)], []⟩ (Cp r) := by
 intro k
 induction k with
 | zero =>
  intro x0 x1 b flx0 h
  exact zn h
 | succ k ih =>
  intro x0 x1 b flx0 h
  rw [Vy] at h
  refine Q7 (T.seq (sR (Qs (mw rfl (mw rfl (oU x0 (cI .i64) Zs rfl (oI rfl ?_)))))))
  refine nL (tN ?_)
  rcases Qd h with ⟨l, h⟩ | ⟨l, h⟩
  refine Qp rfl l (T.skip (tN (T.seq (T.block (T.seq (Z7 (dV rfl rfl ?_)))))))
  refine dV rfl rfl ?_
  obtain ⟨a, m, h⟩ := bind_some h
  refine dX x0 (cI .i64) rfl (.f rfl) Zs i3 m rfl (dR rfl (.f rfl) ul3 rfl (dI rfl (.f rfl) rfl (dV rfl rfl ?_)))
  rcases Qd h with ⟨g, h⟩ | ⟨g, h⟩
  refine dO g rfl rfl (dO g rfl rfl (dO g rfl rfl (dO g rfl rfl (dO g rfl rfl (dO g rfl rfl (dY rfl (.f rfl) g rfl ?_))))))
  refine dV rfl rfl (dO rfl rfl rfl (dO rfl rfl rfl (dO rfl rfl rfl (dG rfl rfl (dG rfl rfl (dG rfl rfl ?_))))))
  refine dG rfl rfl (dG rfl rfl (dG rfl rfl (dG rfl rfl (dG rfl rfl (dG rfl rfl (dG rfl rfl ?_))))))
  refine dO rfl rfl rfl (dY rfl (.f rfl) rfl rfl (dF [0,0,3,7,15,31,63,63,255,511,63,2047,4095,8191,16383,32767,65535,131071,131071,393215,1048575,2097151,131071,131071,12713983,29491199,67108863,134217727,268435455] Q0 rfl (by kernel_rfl) (fun u hu => (tN (Qg hu (Qp rfl rfl ?_))))))
  refine Qg ?_ (Km K h)
  exact tq rfl rfl
  refine dM rfl (.n g rfl) rfl (dM rfl (.n g rfl) rfl (dX x0 (cI .i64) rfl (.n g rfl) Zs i3 m rfl (dR rfl (.n g rfl) ul3 rfl (dM rfl (.n g rfl) rfl (dI rfl (.n g rfl) rfl (dZ rfl (.f rfl) g rfl ?_))))))
  refine dV rfl rfl ?_
  rcases Qd h with ⟨j, h⟩ | ⟨j, h⟩
  refine dO j rfl rfl (dO j rfl rfl (dO j rfl rfl (dG rfl rfl (dG rfl rfl (dG rfl rfl (dG rfl rfl ?_))))))
  refine dG rfl rfl (dG rfl rfl (dG rfl rfl (dG rfl rfl (dG rfl rfl (dG rfl rfl (dO j rfl rfl ?_))))))
  refine dY rfl (.f rfl) j rfl (dF [0,0,3,7,15,31,63,63,255,511,63,2047,4095,8191,16383,32767,65535,131071,131071,393215,1048575,2097151,131071,131071,12713983,29491199,67108863,134217727,268435455] Q0 rfl (by kernel_rfl) (fun u hu => (tN (Qg hu (Qp rfl rfl ?_)))))
  refine Qg ?_ (Km K h)
  exact tq rfl rfl
  refine dM rfl (.n j rfl) rfl (dI rfl (.n j rfl) rfl (dM rfl (.n j rfl) rfl ?_))
  rcases Qd h with ⟨d, h⟩ | ⟨d, h⟩
  refine dM rfl (.n d rfl) rfl (dM rfl (.n d rfl) rfl (dI rfl (.n d rfl) rfl ?_))
  obtain ⟨i, q, h⟩ := bind_some h
  refine dX x0 (cI .i64) rfl (.n d rfl) Zs i3 q rfl (dR rfl (.n d rfl) ul3 rfl (dM rfl (.n d rfl) rfl (dM rfl (.n d rfl) rfl (dX x0 (cI .i64) rfl (.n d rfl) Zs i3 m rfl (dR rfl (.n d rfl) ul3 rfl (dI rfl (.n d rfl) rfl ?_))))))
  refine dY rfl (.n j rfl) d rfl (dZ rfl (.f rfl) j rfl (dF [0,0,3,7,15,31,63,63,255,511,63,2047,4095,8191,16383,32767,65535,131071,131071,393215,1048575,2097151,131071,131071,12713983,29491199,67108863,134217727,268435455] Q0 rfl (by kernel_rfl) (fun u hu => (tN (Qg hu ?_)))))
  rcases Qd h with ⟨p, h⟩ | ⟨p, h⟩
  refine Qp rfl p ?_
  refine Qg ?_ (Km K h)
  exact tq rfl rfl
  refine Qo rfl p (T.skip (Qk (tN (Qs (mw rfl (oI rfl (aw rfl (nL (tN ?_)))))))))
  refine Qe ?_ (ih x0 x1 (wI (b + (1:Int))) flx0 h)
  exact tq rfl rfl
  refine dO d rfl rfl (dO d rfl rfl (dO d rfl rfl (dO d rfl rfl (dO d rfl rfl (dO d rfl rfl (dO d rfl rfl ?_))))))
  refine dO d rfl rfl (dO d rfl rfl (dO d rfl rfl (dZ rfl (.n j rfl) d rfl (dZ rfl (.f rfl) j rfl (dF [0,0,3,7,15,31,63,63,255,511,63,2047,4095,8191,16383,32767,65535,131071,131071,393215,1048575,2097151,131071,131071,12713983,29491199,67108863,134217727,268435455] Q0 rfl (by kernel_rfl) (fun u hu => (tN (Qg hu (Qo rfl rfl ?_)))))))))
  refine T.skip (Qk (tN (Qs (mw rfl (oI rfl (aw rfl (nL (tN ?_))))))))
  refine Qe ?_ (ih x0 x1 (wI (b + (1:Int))) flx0 h)
  exact tq rfl rfl
  refine Qo rfl l (T.exit (Ql (Ql (Qu (tN (sR (Qs (aw rfl (nL (tN (T.ret (fd rfl (by cases h; exact ⟨rfl, rfl⟩)))))))))))))
theorem O7 (K : Nat) {x0 : List Int} {x1 : Int} {flx0 r : Bool} (h : Wj K x0 x1 = some r) : Zm tp 77 [.sl flx0 1 (mI x0), .int .i64 x1] [] (.bool r) := by
 refine CI 41 fu77 rfl ?_
 unfold Wj at h
 refine sR (Qs (aw rfl (nL (tN (T.seq (sR (Qs (aw rfl (nL (tN ?_))))))))))
 refine T.block (T.loop ?_)
 refine Qe ?_ (Qcb K K x0 x1 (0:Int) flx0 h)
 exact tq rfl rfl
abbrev O9 (r : Bool) : ES := Jq tp ff44 (fun y t => y = (.bool r) ∧ t = [])
abbrev Qcc (r : Bool) : ES := fT 70 [1,1] ff44 (O9 r)
abbrev Qak (r : Bool) : ES := fT 70 [1,1,1] ff44 (O9 r)
abbrev Bm (r : Bool) : ES := Qz 0 ((Qak r))
abbrev Sa (r : Bool) : ES := fL 70 [1,1,0,1,0,0] ff44 (Bm r)
abbrev Nq (r : Bool) : ES := fT 70 [1,1,0,1,0,0,1,1] ff44 (Sa r)
abbrev D1 (r : Bool) : ES := Qz 1 ((Nq r))
theorem En {r : Bool} (K : Nat) (h : J4 K = some r) : T tp 70 (ca [1,0,1,0] ff44) ⟨[], []⟩ (Qcc r) := by
 unfold J4 at h
 refine sR (Qs (aw rfl (nL (tN (T.ret (Qr (fd rfl (by cases h; exact ⟨rfl, rfl⟩))))))))
theorem X0 {r : Bool} (K : Nat) (h : Yx K = some r) : T tp 70 (ca [1,1,0,1,0,0,1,0,0,1,1,0] ff44) ⟨[], []⟩ (D1 r) := by
 unfold Yx at h
 refine sR (Qs (aw rfl (nL (tN (T.ret (Q1 (Qr (Qr (Q1 (Qr (fd rfl (by cases h; exact ⟨rfl, rfl⟩))))))))))))
theorem Qcd {r : Bool} (K : Nat) : ∀ (k : Nat), ∀ (u : Int) (x0 : Qj) (w : Nat), Vz K k u x0 = some r → TL tp 70 (ca [1,1,0,1,0,0] ff44) ⟨[(1, .ptr w 0), (3, .int .i64 u)], [(Qcv w x0.First x0.P)]⟩ (Bm r) := by
 intro k
 induction k with
 | zero =>
  intro u x0 w h
  exact zn h
 | succ k ih =>
  intro u x0 w h
  rw [Vz] at h
  refine Q7 (T.seq (sR (Qs (mw rfl (oP F7 i41 rfl (oL 0 Ci rfl (oU x0.P Qv Ci rfl ?_)))))))
  refine oI rfl (nL (tN ?_))
  rcases Qd h with ⟨y, h⟩ | ⟨y, h⟩
  refine Qp rfl y (T.skip (tN (T.seq (T.block (sR (Qs (oP F7 i41 rfl (oL 0 Ci rfl ?_))))))))
  refine mw rfl ?_
  obtain ⟨b, ab, h⟩ := bind_some h
  refine oX x0.P Qv Ci i65 ab rfl (oJ Qbf i65 rfl (sp rfl (Ze rfl (dk rfl) i65 rfl (fun ad => (sp rfl (Qy (i := 0) (cells' := [.d (.int .u64 b.S.a0), .d (.int .u64 b.S.a1), .d (.int .u64 b.S.a2), .d (.int .u64 b.S.a3), .d (.int .i64 b.Lo), .d (.int .i64 b.Hi), .d (.int .i64 b.Rule), .d (.bool b.Last), .d (.sl false 1 (mI b.Next))]) rfl rfl i65 rfl rfl rfl rfl (nb rfl) rfl (nL (tN (sR (Qs (oP Qbf i63 rfl (oA 0 (Zy.dc .u64 b.S) Qit i63 rfl ?_))))))))))))
  refine sp rfl (OpT.build (l := (Zy.dc .u64 (Zy.mk 0 0 0 0))) rfl (dk rfl) (Qhu Qit i63 i61) (H4 rfl) rfl rfl (sp rfl (OpT.intsEql (k := .u64) (xs := [b.S.a0, b.S.a1, b.S.a2, b.S.a3]) (ys := [(Zy.mk 0 0 0 0).a0, (Zy.mk 0 0 0 0).a1, (Zy.mk 0 0 0 0).a2, (Zy.mk 0 0 0 0).a3]) rfl (dk rfl) Qit ul61 i61 Tryz.eqGuardType63 rfl rfl rfl rfl rfl rfl (Qi5 b.S (Zy.mk 0 0 0 0)) (mw rfl ?_))))
  rcases Qd h with ⟨j, h⟩ | ⟨j, h⟩
  refine pf rfl j (pf rfl j (pf rfl j (oY j rfl (mw rfl (pf rfl rfl (pf rfl rfl ?_))))))
  refine pf rfl rfl (pf rfl rfl (pf rfl rfl (oY rfl rfl (mw rfl (pf rfl rfl (pf rfl rfl ?_))))))
  refine pf rfl rfl (oY rfl rfl (mw rfl (pf rfl rfl (pf rfl rfl (pf rfl rfl (oY rfl rfl ?_))))))
  refine mw rfl (pf rfl rfl (pf rfl rfl (pf rfl rfl (oY rfl rfl (mw rfl (pf rfl rfl ?_))))))
  refine pf rfl rfl (pf rfl rfl (pf rfl rfl (pf rfl rfl (pf rfl rfl (pf rfl rfl (oY rfl rfl ?_))))))
  refine nL (tN (Qp rfl rfl ?_))
  refine Qg ?_ (X0 K h)
  exact tq rfl rfl
  refine sn rfl j (Vf rfl (dk rfl) Qbf rfl i3 (by decide) rfl (sn rfl j (Yb (i := 0) rfl (dk rfl) ul3 rfl rfl rfl rfl (sn rfl j (Z1 rfl rfl (dk rfl) rfl rfl (oZ j rfl (mw rfl ?_)))))))
  rcases Qd h with ⟨g, h⟩ | ⟨g, h⟩
  refine pf rfl g (pf rfl g (pf rfl g (pf rfl g (pf rfl g (oY g rfl (mw rfl ?_))))))
  refine pf rfl rfl (pf rfl rfl (pf rfl rfl (oY rfl rfl (mw rfl (pf rfl rfl (pf rfl rfl ?_))))))
  refine pf rfl rfl (oY rfl rfl (mw rfl (pf rfl rfl (pf rfl rfl (pf rfl rfl (oY rfl rfl ?_))))))
  refine mw rfl (pf rfl rfl (pf rfl rfl (pf rfl rfl (pf rfl rfl (pf rfl rfl (pf rfl rfl ?_))))))
  refine pf rfl rfl (oY rfl rfl (nL (tN (Qp rfl rfl ?_))))
  refine Qg ?_ (X0 K h)
  exact tq rfl rfl
  refine sn rfl g (Vf rfl (dk rfl) Qbf rfl i3 (by decide) rfl (sn rfl g (Yb (i := 0) rfl (dk rfl) ul3 rfl rfl rfl rfl (sn rfl g (Vf rfl (dk rfl) Qbf rfl i3 (by decide) rfl (sn rfl g (Yb (i := 0) rfl (dk rfl) ul3 rfl rfl rfl rfl (sn rfl g (Z1 rfl rfl (dk rfl) rfl rfl (oZ g rfl (mw rfl ?_)))))))))))
  rcases Qd h with ⟨m, h⟩ | ⟨m, h⟩
  refine pf rfl m (pf rfl m (pf rfl m (oY m rfl (mw rfl (pf rfl rfl (pf rfl rfl ?_))))))
  refine pf rfl rfl (oY rfl rfl (mw rfl (pf rfl rfl (pf rfl rfl (pf rfl rfl (oY rfl rfl ?_))))))
  refine mw rfl (pf rfl rfl (pf rfl rfl (pf rfl rfl (pf rfl rfl (pf rfl rfl (pf rfl rfl ?_))))))
  refine pf rfl rfl (oY rfl rfl (nL (tN (Qp rfl rfl ?_))))
  refine Qg ?_ (X0 K h)
  exact tq rfl rfl
  refine sn rfl m (Vf rfl (dk rfl) Qbf rfl i3 (by decide) rfl (sn rfl m (Yb (i := 0) rfl (dk rfl) ul3 rfl rfl rfl rfl (sn rfl m (Z1 rfl rfl (dk rfl) rfl rfl (oZ m rfl (mw rfl ?_)))))))
  rcases Qd h with ⟨p, h⟩ | ⟨p, h⟩
  refine pf rfl p (pf rfl p (pf rfl p (oY p rfl (mw rfl (pf rfl rfl (pf rfl rfl ?_))))))
  refine pf rfl rfl (oY rfl rfl (mw rfl (pf rfl rfl (pf rfl rfl (pf rfl rfl (pf rfl rfl ?_))))))
  refine pf rfl rfl (pf rfl rfl (pf rfl rfl (oY rfl rfl (nL (tN (Qp rfl rfl ?_))))))
  refine Qg ?_ (X0 K h)
  exact tq rfl rfl
  refine sn rfl p (Vf rfl (dk rfl) Qbf rfl i3 (by decide) rfl (sn rfl p (Yb (i := 0) rfl (dk rfl) ul3 rfl rfl rfl rfl (sn rfl p (Z1 rfl rfl (dk rfl) rfl rfl (oZ p rfl (mw rfl ?_)))))))
  rcases Qd h with ⟨q, h⟩ | ⟨q, h⟩
  refine pf rfl q (pf rfl q (pf rfl q (oY q rfl (mw rfl (pf rfl rfl (pf rfl rfl ?_))))))
  refine pf rfl rfl (pf rfl rfl (pf rfl rfl (pf rfl rfl (pf rfl rfl (oY rfl rfl (nL (tN ?_)))))))
  refine Qp rfl rfl ?_
  refine Qg ?_ (X0 K h)
  exact tq rfl rfl
  refine sn rfl q (Vf rfl (dk rfl) Qbf rfl i3 (by decide) rfl (sn rfl q (Yb (i := 0) rfl (dk rfl) ul3 rfl rfl rfl rfl (sn rfl q (Z1 rfl rfl (dk rfl) rfl rfl (oZ q rfl (mw rfl ?_)))))))
  rcases Qd h with ⟨a, h⟩ | ⟨a, h⟩
  refine pf rfl a (pf rfl a (pf rfl a (pf rfl a (pf rfl a (pf rfl a (pf rfl a ?_))))))
  refine oY a rfl (nL (tN (Qp rfl rfl ?_)))
  refine Qg ?_ (X0 K h)
  exact tq rfl rfl
  refine sn rfl a (Vf rfl (dk rfl) Qbf rfl i38 (by decide) rfl (sn rfl a (Yb (i := 0) rfl (dk rfl) Zs rfl rfl rfl rfl (sn rfl a (Vf rfl (dk rfl) F7 rfl i41 (by decide) rfl (sn rfl a (Yb (i := 1) rfl (dk rfl) Ci rfl rfl rfl rfl (sn rfl a (Yz (xs := x0.P) (f := Qv) rfl (dk rfl) Ci rfl ?_)))))))))
  obtain ⟨af, ac, h⟩ := bind_some h
  refine sn rfl a (Uv rfl (dk rfl) fu77 rfl rfl (Zw.cons rfl (Zw.cons rfl Zw.nil)) (Zm.nil (O7 K (flx0 := false) ac)) (sn rfl a (OpT.not rfl (dk rfl) rfl (oZ a rfl (nL (tN ?_))))))
  rcases Qd h with ⟨aa, h⟩ | ⟨aa, h⟩
  refine Qp rfl aa ?_
  refine Qg ?_ (X0 K h)
  exact tq rfl rfl
  refine Qo rfl aa (T.skip (Qk (tN (Qs (mw rfl (oI rfl (aw rfl (nL (tN ?_)))))))))
  refine Qe ?_ (ih (wI (u + (1:Int))) x0 w h)
  exact tr rfl (.c (.s .z) (.n _))
  refine Qo rfl y (T.exit (Ql (Ql (Qu (tN (sR (Qs (aw rfl (nL (tN (T.ret (fd rfl (by cases h; exact ⟨rfl, rfl⟩)))))))))))))
theorem Pa (K : Nat) {x0 : Qj} {r : Bool} (h : Vk K x0 = some r) : Zm tp 44 [.agg [.sl false 1 (mI x0.First), .sl false 9 (x0.P.map Qv)]] [] (.bool r) := by
 refine CI 70 fu44 rfl ?_
 unfold Vk at h
 refine sR (Qs (sp rfl (Q9 rfl (dk rfl) rfl (fun d => (aw rfl (nL (tN (T.seq (sR (Qs (oP F7 i41 rfl ?_)))))))))))
 refine oL 0 Ci rfl (oU x0.P Qv Ci rfl (oI rfl (mw rfl ?_)))
 rcases Qd h with ⟨a, h⟩ | ⟨a, h⟩
 refine pf rfl a (pf rfl a (pf rfl a (pf rfl a (pf rfl a (pf rfl a (pf rfl a ?_))))))
 refine oY a rfl (nL (tN (Qp rfl rfl ?_)))
 refine Qg ?_ (En K h)
 exact tq rfl rfl
 refine sn rfl a (Vf rfl (dk rfl) F7 rfl i38 (by decide) rfl (sn rfl a (Yb (i := 0) rfl (dk rfl) Zs rfl rfl rfl rfl (sn rfl a (Vf rfl (dk rfl) F7 rfl i41 (by decide) rfl (sn rfl a (Yb (i := 0) rfl (dk rfl) Ci rfl rfl rfl rfl (sn rfl a (Yz (xs := x0.P) (f := Qv) rfl (dk rfl) Ci rfl ?_)))))))))
 obtain ⟨j, g, h⟩ := bind_some h
 refine sn rfl a (Uv rfl (dk rfl) fu77 rfl rfl (Zw.cons rfl (Zw.cons rfl Zw.nil)) (Zm.nil (O7 K (flx0 := false) g)) (sn rfl a (OpT.not rfl (dk rfl) rfl (oZ a rfl (nL (tN ?_))))))
 rcases Qd h with ⟨b, h⟩ | ⟨b, h⟩
 refine Qp rfl b ?_
 refine Qg ?_ (En K h)
 exact tq rfl rfl
 refine Qo rfl b (T.skip (tN (T.seq (sR (Qs (aw rfl (nL (tN (T.block ?_)))))))))
 refine T.loop ?_
 refine Qe ?_ (Qcd K K (0:Int) x0 d h)
 exact tq rfl rfl
abbrev Qga (r : Bool) : ES := Jq tp ff78 (fun y t => y = (.bool r) ∧ t = [])
abbrev Qcl (r : Bool) : ES := fT 27 [1,1] ff78 (Qga r)
abbrev Tn (r : Bool) : ES := Qz 0 ((Qcl r))
theorem Qcm {r : Bool} (K : Nat) : ∀ (k : Nat), ∀ (x0 : List Zy) (x1 x2 b : Int) (flx0 : Bool), V0 K k x0 x1 x2 b = some r → TL tp 27 (ca [1,0,1,0,0] ff78) ⟨[(0, .sl flx0 4 (x0.map (Zy.dc .u64))), (1, .int .u8 x1), (2, .int .u8 x2), (7, .int .i64 b)], []⟩ (Tn r) := by
 intro k
 induction k with
 | zero =>
  intro x0 x1 x2 b flx0 h
  exact zn h
 | succ k ih =>
  intro x0 x1 x2 b flx0 h
  rw [V0] at h
  refine Q7 (T.seq (sR (Qs (mw rfl (mw rfl (oU x0 (Zy.dc .u64) ul99 rfl (oI rfl ?_)))))))
  refine nL (tN ?_)
  rcases Qd h with ⟨i, h⟩ | ⟨i, h⟩
  refine Qp rfl i (T.skip (tN (T.seq (T.block (T.seq (Z7 (dV rfl rfl ?_)))))))
  refine dV rfl rfl ?_
  obtain ⟨a, l, h⟩ := bind_some h
  refine dX x0 (Zy.dc .u64) rfl (.f rfl) ul99 i63 l rfl (dJ rfl (.f rfl) Qit i63 rfl (dV rfl rfl ?_))
  obtain ⟨d, m, h⟩ := bind_some h
  refine dH fu81 (Zm.nil (Wl K m)) rfl (.f rfl) rfl (dV rfl rfl (dV rfl rfl (dX x0 (Zy.dc .u64) rfl (.f rfl) ul99 i63 l rfl (dJ rfl (.f rfl) Qit i63 rfl (dV rfl rfl ?_)))))
  obtain ⟨g, p, h⟩ := bind_some h
  refine dH fu81 (Zm.nil (Wl K p)) rfl (.f rfl) rfl (dS (c := ⟨some 26, .bool (!(d == g)), [(19, .bool d), (25, .bool g)], [], []⟩) (fun t hm => oF rfl rfl (OpT.bool_neq rfl (dk rfl) ul4 hm.s0 hm.s1 rfl)) rfl rfl (dF [0,0,3,7,0,31,0,0,192,448,0,2047,4095] Q0 rfl (by kernel_rfl) (fun u hu => (tN (Qg hu ?_)))))
  rcases Qd h with ⟨j, h⟩ | ⟨j, h⟩
  refine Qp rfl j (sR (Qs (aw rfl (nL (tN (T.ret (Q1 (Qr (Qr (Q1 (Qr (fd rfl (by cases h; exact ⟨rfl, rfl⟩)))))))))))))
  refine Qo rfl j (T.skip (Qk (tN (Qs (mw rfl (oI rfl (aw rfl (nL (tN ?_)))))))))
  refine Qe ?_ (ih x0 x1 x2 (wI (b + (1:Int))) flx0 h)
  exact tq rfl rfl
  refine Qo rfl i (T.exit (Ql (Ql (Qu (tN (sR (Qs (aw rfl (nL (tN (T.ret (fd rfl (by cases h; exact ⟨rfl, rfl⟩)))))))))))))
theorem Qgb (K : Nat) {x0 : List Zy} {x1 x2 : Int} {flx0 r : Bool} (h : Mu K x0 x1 x2 = some r) : Zm tp 78 [.sl flx0 4 (x0.map (Zy.dc .u64)), .int .u8 x1, .int .u8 x2] [] (.bool r) := by
 refine CI 27 fu78 rfl ?_
 unfold Mu at h
 refine sR (Qs (aw rfl (nL (tN (T.seq (sR (Qs (aw rfl (nL (tN ?_))))))))))
 refine T.block (T.loop ?_)
 refine Qe ?_ (Qcm K K x0 x1 x2 (0:Int) flx0 h)
 exact tq rfl rfl
abbrev Qji (r : Q8) : ES := Jq tp ff45 (fun y t => y = (.agg ((Zp.dc 256 .u8 r.Of) ++ (([.int .i64 r.Many] : List DC)))) ∧ t = [])
abbrev Qds (r : Q8) : ES := fT 47 [1,1,1,1] ff45 (Qji r)
abbrev Di (r : Q8) : ES := Qz 0 ((Qds r))
abbrev Qaq (r : Q8) : ES := fL 47 [1,1,1,0,1,0,0] ff45 (Di r)
abbrev Re (r : Q8) : ES := fT 47 [1,1,1,0,1,0,0,1,1] ff45 (Qaq r)
abbrev G8 (r : Q8) : ES := Qz 1 ((Re r))
abbrev I2 (r : Q8) : ES := fT 47 [1,1,1,0,1,0,0,1,0,0,1,1] ff45 (G8 r)
abbrev Cd (r : Q8) : ES := Qz 2 ((I2 r))
abbrev Ce (r : Q8) (go : (List Zy) → Int → Zp → Zp → (List Int) → Option Q8) : Prop := ∀ (x0 : List Zy) (a : Int) (b f : Zp) (g : List Int) (flx0 : Bool) (i j : Nat) (l : Value), go x0 a b f g = some r → TL tp 47 (ca [1,1,1,0,1,0,0] ff45) ⟨[(0, .sl flx0 4 (x0.map (Zy.dc .u64))), (2, .ptr i 0), (3, .ptr j 0), (4, .c (.ex l)), (5, .int .i64 a)], [(b24x8 i b (0:Int)), (b24x8 j f (0:Int)), .arrA l 5 1 (mU g)]⟩ (Di r)
theorem Li {r : Q8} (K : Nat) (go0 : (List Zy) → Int → Zp → Zp → (List Int) → Option Q8) (hgo0 : Ce r go0) (x0 : List Zy) (g j : Int) (l b : Zp) (m : List Int) (flx0 : Bool) (p q : Nat) (s : Value) (h : Uj K go0 x0 g j l b m = some r) : T tp 47 (ca [1,1,1,0,1,0,0,1,0,0,1,1,1] ff45) ⟨[(0, .sl flx0 4 (x0.map (Zy.dc .u64))), (2, .ptr p 0), (3, .ptr q 0), (4, .c (.ex s)), (5, .int .i64 g), (6, .int .i64 j)], [(b24x8 p l (0:Int)), (b24x8 q b (0:Int)), .arrA s 5 1 (mU m)]⟩ (G8 r) := by
 unfold Uj at h
 refine Qs (mw rfl (mw rfl (sp rfl (Uf rfl (dk rfl) ul3 ul5 rfl (oP ul24 i22 rfl ?_)))))
 obtain ⟨f, h⟩ := Zb h
 refine sp rfl (Y4 rfl (dk rfl) ul22 i5 rfl rfl f.1 f.2 (sp rfl (Jh (i := 1) (cells' := ((Zp.oc 256 .u8 (Zp.set b g (IntKind.u8.wrap j))) ++ (([.d (.int .i64 (0:Int))]:List OC)))) rfl rfl i5 rfl rfl rfl (Zp.oc_lt (n := 256) (k := .u8) (a := b) (pre := []) (post := [.d (.int .i64 (0:Int))]) f.1 f.2) (Zp.oc_set (n := 256) (k := .u8) (a := b) (pre := []) (post := [.d (.int .i64 (0:Int))]) f.1 f.2) (nL (Qk (tN (Qs (mw rfl (oI rfl (aw rfl ?_))))))))))
 refine nL (tN ?_)
 refine Qe ?_ (hgo0 x0 (wI (g + (1:Int))) l (Zp.set b g (IntKind.u8.wrap j)) m flx0 p q s h)
 exact tq rfl rfl
theorem Qge {r : Q8} (K : Nat) (go0 : (List Zy) → Int → Zp → Zp → (List Int) → Option Q8) (hgo0 : Ce r go0) : ∀ (k : Nat), ∀ (x0 : List Zy) (b j : Int) (l m : Zp) (g : List Int) (flx0 : Bool) (p q : Nat) (s : Value), Xc K go0 k x0 b j l m g = some r → TL tp 47 (ca [1,1,1,0,1,0,0,1,0,0,1,0,0,0] ff45) ⟨[(0, .sl flx0 4 (x0.map (Zy.dc .u64))), (2, .ptr p 0), (3, .ptr q 0), (4, .c (.ex s)), (5, .int .i64 b), (6, .int .i64 j)], [(b24x8 p l (0:Int)), (b24x8 q m (0:Int)), .arrA s 5 1 (mU g)]⟩ (Cd r) := by
 intro k
 induction k with
 | zero =>
  intro x0 b j l m g flx0 p q s h
  exact zn h
 | succ k ih =>
  intro x0 b j l m g flx0 p q s h
  rw [Xc] at h
  refine Q7 (T.seq (sR (Qs (mw rfl (mw rfl (sp rfl (Ho (i := 2) (xs := g) (f := (cI .u8)) rfl (dk rfl) B1 rfl rfl (oI rfl ?_))))))))
  refine mw rfl ?_
  rcases Qd h with ⟨a, h⟩ | ⟨a, h⟩
  refine sn rfl a (OpT.move rfl (dk rfl) rfl (sn rfl a (OpT.move rfl (dk rfl) rfl (sn rfl a (OpT.move rfl (dk rfl) rfl (Wy (Z3.view 18 2 rfl rfl) ?_))))))
  obtain ⟨aa, ab, h⟩ := bind_some h
  refine sn rfl a (Hq (xs := g) (f := (cI .u8)) (v := aa) rfl (dk rfl) B1 i5 rfl rfl ab (sn rfl a (Lq rfl (dk rfl) ul5 rfl rfl rfl (sn rfl a (OpT.move rfl (dk rfl) rfl (sn rfl a (Uf rfl (dk rfl) ul3 ul5 rfl ?_)))))))
  obtain ⟨aj, ac, h⟩ := bind_some h
  refine sn rfl a (Uv rfl (dk rfl) fu78 rfl rfl (Zw.cons rfl (Zw.cons rfl (Zw.cons rfl Zw.nil))) (Zm.nil (Qgb K (flx0 := flx0) ac)) (sn rfl a (OpT.not rfl (dk rfl) rfl (oY a rfl (nL (tN ?_))))))
  rcases Qd h with ⟨u, h⟩ | ⟨u, h⟩
  refine Qp rfl u (T.skip (tN (T.block (Qs (mw rfl (oI rfl (aw rfl ?_)))))))
  refine nL (Qk (tN ?_))
  refine Qe ?_ (ih x0 b (wI (j + (1:Int))) l m g flx0 p q s h)
  exact tq rfl rfl
  refine Qo rfl u (T.exit (Ql (Ql (Qu (tN (T.seq (sR (Qs (mw rfl (mw rfl (sp rfl (Ho (i := 2) (xs := g) (f := (cI .u8)) rfl (dk rfl) B1 rfl rfl ?_))))))))))))
  refine oI rfl (nL (tN ?_))
  rcases Qd h with ⟨w, h⟩ | ⟨w, h⟩
  refine Qp rfl w (Qs (mw rfl (mw rfl (sp rfl (Uf rfl (dk rfl) ul3 ul5 rfl (sp rfl (OpT.buildSlice (elems := ([(IntKind.u8.wrap b)] : List Int).map (cI .u8)) rfl (dk rfl) B1 i5 (by decide) rfl (H4 rfl) rfl rfl rfl (X2 rfl) (by decide) ?_)))))))
  obtain ⟨ad, h⟩ := Zb h
  refine sp rfl (Zk (i := 2) (xs := g) (ys := [(IntKind.u8.wrap b)]) (f := (cI .u8)) rfl (dk rfl) B1 i5 rfl rfl rfl rfl ad (fun af => (aw rfl (nL (tN ?_)))))
  refine Qg ?_ (Li K go0 hgo0 x0 b j l m (g ++ [(IntKind.u8.wrap b)]) flx0 p q af h)
  exact tq rfl rfl
  refine Qo rfl w (T.skip (tN ?_))
  refine Qg ?_ (Li K go0 hgo0 x0 b j l m g flx0 p q s h)
  exact tq rfl rfl
  refine pf rfl a (pf rfl a (pf rfl a (pf rfl a (pf rfl a (pf rfl a (pf rfl a ?_))))))
  refine pf rfl a (pf rfl a (oZ a rfl (nL (tN (Qo rfl rfl (T.exit (Ql (Ql (Qu (tN (T.seq ?_)))))))))))
  refine sR (Qs (mw rfl (mw rfl (sp rfl (Ho (i := 2) (xs := g) (f := (cI .u8)) rfl (dk rfl) B1 rfl rfl (oI rfl (nL (tN ?_))))))))
  rcases Qd h with ⟨y, h⟩ | ⟨y, h⟩
  refine Qp rfl y (Qs (mw rfl (mw rfl (sp rfl (Uf rfl (dk rfl) ul3 ul5 rfl (sp rfl (OpT.buildSlice (elems := ([(IntKind.u8.wrap b)] : List Int).map (cI .u8)) rfl (dk rfl) B1 i5 (by decide) rfl (H4 rfl) rfl rfl rfl (X2 rfl) (by decide) ?_)))))))
  obtain ⟨ag, h⟩ := Zb h
  refine sp rfl (Zk (i := 2) (xs := g) (ys := [(IntKind.u8.wrap b)]) (f := (cI .u8)) rfl (dk rfl) B1 i5 rfl rfl rfl rfl ag (fun ai => (aw rfl (nL (tN ?_)))))
  refine Qg ?_ (Li K go0 hgo0 x0 b j l m (g ++ [(IntKind.u8.wrap b)]) flx0 p q ai h)
  exact tq rfl rfl
  refine Qo rfl y (T.skip (tN ?_))
  refine Qg ?_ (Li K go0 hgo0 x0 b j l m g flx0 p q s h)
  exact tq rfl rfl
theorem Qgf {r : Q8} (K : Nat) : ∀ (k : Nat), Ce r (Xd K k) := by
 intro k
 induction k with
 | zero =>
  intro x0 j m b a flx0 p q s h
  exact zn h
 | succ k ih =>
  intro x0 j m b a flx0 p q s h
  rw [Xd] at h
  refine Q7 (T.seq (sR (Qs (mw rfl (oI rfl (nL (tN ?_)))))))
  rcases Qd h with ⟨g, h⟩ | ⟨g, h⟩
  refine Qp rfl g (T.skip (tN (T.seq (T.block (sR (Qs (aw rfl (nL (tN ?_)))))))))
  refine T.seq (T.block (T.loop ?_))
  refine Qe ?_ (Qge K (Xd K k) ih K x0 j (0:Int) m b a flx0 p q s h)
  exact tq rfl rfl
  refine Qo rfl g (T.exit (Ql (Ql (Qu (tN (sR (Qs (mw rfl (sp rfl (Ho (i := 2) (xs := a) (f := (cI .u8)) rfl (dk rfl) B1 rfl rfl (oP ul24 i3 rfl (sp rfl (Jh (i := 1) (cells' := ((Zp.oc 256 .u8 b) ++ (([.d (.int .i64 (a.length : Int))]:List OC)))) rfl rfl i3 rfl rfl rfl (nb rfl) rfl ?_)))))))))))))
  refine nL (tN (sR (Qs (oA 1 ((Zp.dc 256 .u8 b) ++ (([.int .i64 (a.length : Int)] : List DC))) ul24 i24 rfl (sp rfl (Qy (i := 0) (cells' := ((Zp.oc 256 .u8 b) ++ (([.d (.int .i64 (a.length : Int))]:List OC)))) rfl rfl i24 rfl rfl rfl rfl (nb rfl) rfl (nL (tN (T.ret (Fin.done (.cons _ _ _ _ (.cellAgg 2 24 _ 0 0 24 _ ((Zp.dc 256 .u8 b) ++ (([.int .i64 (a.length : Int)] : List DC))) _ _ 257 _ rfl rfl rfl rfl ul24 rfl i24) .nil) (by cases h; exact ⟨rfl, rfl⟩)))))))))))
theorem Qjj (K : Nat) {x0 : List Zy} {flx0 : Bool} {r : Q8} (h : Bp K x0 = some r) : Zm tp 45 [.sl flx0 4 (x0.map (Zy.dc .u64))] [] (.agg ((Zp.dc 256 .u8 r.Of) ++ (([.int .i64 r.Many] : List DC)))) := by
 refine CI 47 fu45 rfl ?_
 unfold Bp at h
 refine sR (Qs (sp rfl (Ze rfl (dk rfl) i24 rfl (fun a => (nL (tN (sR (Qs (sp rfl (OpT.build (l := ((Zp.dc 256 .u8 (Zp.mk fun _ => 0)) ++ (([.int .i64 (0:Int)] : List DC)))) rfl (dk rfl) (Zr (pl := [(0, 256), (256, 1)]) ul24 i24 rfl) (H4 rfl) rfl rfl (sp rfl (Ze rfl (dk rfl) i24 rfl (fun b => (sp rfl (Qy (i := 0) (cells' := ((Zp.oc 256 .u8 (Zp.mk fun _ => 0)) ++ (([.d (.int .i64 (0:Int))]:List OC)))) rfl rfl i24 rfl rfl rfl rfl (nb rfl) rfl (nL (tN (sR (Qs ?_)))))))))))))))))))
 refine aw rfl (nL (tN (T.seq (sR (Qs (aw rfl (nL (tN (T.block ?_)))))))))
 refine T.loop (Qe (Y0 5 1) ?_)
 refine Qe ?_ (Qgf K K x0 (0:Int) (Zp.mk fun _ => 0) (Zp.mk fun _ => 0) [] flx0 a b (Qc1 2) h)
 exact tr rfl (.c (.s (.s .z)) (.c (.s .z) (.c .z (.n _))))
end Go.Rv

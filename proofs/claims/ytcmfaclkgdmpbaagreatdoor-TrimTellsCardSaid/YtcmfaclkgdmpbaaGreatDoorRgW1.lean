/- Each function computes what its plain text says: printed by a program of ours. -/
import Derived.Test.YtcmfaclkgdmpbaaGreatDoorRgW0
namespace Go.Rv
open Go.Proofs
set_option maxRecDepth 100000
set_option maxHeartbeats 4000000
set_option linter.unusedVariables false
abbrev raddlelaw12_few_q (r : Qc) : ES := Jm tp ff9 (fun y t => y = (.agg ((Q5.dc 256 .u8 r.Split.Of) ++ (([.int .i64 r.Split.Many, .sl false 2 (mA r.Counts), .sl false 4 (r.States.map Qb)] : List DC)))) ∧ t = [])
theorem Qjo (K : Nat) {x0 r : Qc} (h : Mv K x0 = some r) : Zh tp 9 [.agg ((Q5.dc 256 .u8 x0.Split.Of) ++ (([.int .i64 x0.Split.Many, .sl false 2 (mA x0.Counts), .sl false 4 (x0.States.map Qb)] : List DC)))] [] (.agg ((Q5.dc 256 .u8 r.Split.Of) ++ (([.int .i64 r.Split.Many, .sl false 2 (mA r.Counts), .sl false 4 (r.States.map Qb)] : List DC)))) := by
 refine CI 9 fu9 rfl ?_
 unfold Mv at h
 refine sR (Qr (sp rfl (Q8 rfl (dk rfl) rfl (fun b => (sp rfl (Za rfl (dk rfl) i28 rfl (fun c => (nL (tN (T.seq (sR (Qr (oP Xz i26 rfl ?_)))))))))))))
 refine oL 1 Vj rfl (oU x0.States Qb Vj rfl (oI rfl (nL (tN ?_))))
 rcases Qg h with ⟨a, h⟩ | ⟨a, h⟩
 refine Qp rfl a (sR (Qr (sp rfl (OpT.build (l := ((Q5.dc 256 .u8 (Q5.mk fun _ => 0)) ++ (([.int .i64 (0:Int), .ex (.slice none 0 0), .ex (.slice none 0 0)] : List DC)))) rfl (dk rfl) (Zk (pl := [(0, 257), (257, 1), (258, 1)]) Xz i28 rfl) (Hs rfl) rfl rfl (sp rfl (Qt (i := 0) (cells' := ((Q5.oc 256 .u8 (Q5.mk fun _ => 0)) ++ (([.d (.int .i64 (0:Int)), .d (.ex (.slice none 0 0)), .d (.ex (.slice none 0 0))]:List OC)))) rfl rfl i28 rfl rfl rfl rfl (nb rfl) rfl (nL (tN (T.ret (Qs (Yw (Ht 0 (l := ((Q5.dc 256 .u8 (Q5.mk fun _ => 0)) ++ (([.int .i64 (0:Int), .ex (.slice none 0 0), .ex (.slice none 0 0)] : List DC)))) (l' := ((Q5.dc 256 .u8 (Q5.mk fun _ => 0)) ++ (([.int .i64 (0:Int), .sl false 2 (([] : List Ye).map (Ye.dc .i64)), .sl false 4 (([] : List Qa).map Qb)] : List DC)))) rfl (.app _ (.cons (.same _) (.cons (.nil _ _) (.cons (.nil _ _) (.refl _)))))) ?_)))))))))))
 exact Fin.done (.cons _ _ _ _ (.cellAgg 2 28 _ 0 0 28 _ ((Q5.dc 256 .u8 (Q5.mk fun _ => 0)) ++ (([.int .i64 (0:Int), .sl false 2 (([] : List Ye).map (Ye.dc .i64)), .sl false 4 (([] : List Qa).map Qb)] : List DC))) _ _ 259 _ rfl rfl rfl rfl Xz rfl i28) .nil) (by cases h; exact ⟨rfl, rfl⟩)
 refine Qo rfl a (T.skip (tN (sR (Qr (oA 1 ((Q5.dc 256 .u8 x0.Split.Of) ++ (([.int .i64 x0.Split.Many, .sl false 2 (mA x0.Counts), .sl false 4 (x0.States.map Qb)] : List DC))) Xz i28 rfl (sp rfl (Qt (i := 0) (cells' := ((Q5.oc 256 .u8 x0.Split.Of) ++ (([.d (.int .i64 x0.Split.Many), .d (.sl false 2 (mA x0.Counts)), .d (.sl false 4 (x0.States.map Qb))]:List OC)))) rfl rfl i28 rfl rfl rfl rfl (nb rfl) rfl (nL (tN (T.ret ?_))))))))))
 exact Fin.done (.cons _ _ _ _ (.cellAgg 2 28 _ 0 0 28 _ ((Q5.dc 256 .u8 x0.Split.Of) ++ (([.int .i64 x0.Split.Many, .sl false 2 (mA x0.Counts), .sl false 4 (x0.States.map Qb)] : List DC))) _ _ 259 _ rfl rfl rfl rfl Xz rfl i28) .nil) (by cases h; exact ⟨rfl, rfl⟩)
abbrev split_Right_q (r : Bool) : ES := Jm tp ff52 (fun y t => y = (.bool r) ∧ t = [])
abbrev Qjg (r : Bool) : ES := fT 28 [1,1,1] ff52 (split_Right_q r)
abbrev Qgs (r : Bool) : ES := Qv 0 ((Qjg r))
theorem Qki {r : Bool} (K : Nat) : ∀ (k : Nat), ∀ (b : Int) (x0 : Q4) (f : Int) (g : Nat), Wk K k b x0 f = some r → TL tp 28 (ca [1,1,0,1,0,0] ff52) ⟨[(1, .ptr g 0), (3, .int .i64 b), (7, .agg (Q5.dc 256 .u8 x0.Of)), (8, .int .i64 f)], [(b24x3 g x0.Of x0.Many)]⟩ (Qgs r) := by
 intro k
 induction k with
 | zero =>
  intro b x0 f g h
  exact zn h
 | succ k ih =>
  intro b x0 f g h
  rw [Wk] at h
  refine Q0 (sR (Qr (oI rfl (nL (tN (T.seq ?_))))))
  rcases Qg h with ⟨l, h⟩ | ⟨l, h⟩
  refine Qp rfl l (T.skip (tN (T.seq (T.block (sR (Qr ?_))))))
  obtain ⟨j, h⟩ := Q6 h
  refine sp rfl (OpT.indexArr rfl (dk rfl) ul22 ul5 rfl i5 rfl rfl j.1 j.2 (Q5.dc_get (n := 256) (a := x0.Of) (k := .u8) j.1 j.2) (aw rfl (nL (tN (T.block (sR (Qr (mw rfl (sp rfl (V8 rfl (dk rfl) ul5 ul3 rfl ?_))))))))))
  refine mw rfl (oI rfl (aw rfl (nL (tN ?_))))
  rcases Qg h with ⟨m, h⟩ | ⟨m, h⟩
  refine Qp rfl m (sR (Qr (aw rfl (nL (tN (T.ret (Qy (Qy (Qs (Qs (Qy (Qs (fd rfl (by cases h; exact ⟨rfl, rfl⟩))))))))))))))
  refine Qo rfl m (sR (Qr (mw rfl (sp rfl (V8 rfl (dk rfl) ul5 ul3 rfl (mw rfl (oI rfl (aw rfl ?_))))))))
  refine nL (tN ?_)
  rcases Qg h with ⟨p, h⟩ | ⟨p, h⟩
  refine Qp rfl p (Qr (mw rfl (oI rfl (aw rfl (nL (Qk (Qk (tN (Qr ?_)))))))))
  refine oI rfl (mw rfl (nL (tN ?_)))
  refine Qf ?_ (ih (wI (b + (1:Int))) x0 (wI (f + (1:Int))) g h)
  exact tq rfl rfl
  refine Qo rfl p (T.skip (Qk (Qk (tN (Qr (oI rfl (mw rfl (nL (tN ?_)))))))))
  refine Qf ?_ (ih b x0 (wI (f + (1:Int))) g h)
  exact tq rfl rfl
  refine Qo rfl l (T.exit (Qj (Qj (Qq (tN (sR (Qr (mw rfl (oP Qj2 i3 rfl (oL 0 ul3 rfl (oI rfl ?_)))))))))))
  refine aw rfl (nL (tN (T.ret (fd rfl (by cases h; exact ⟨rfl, rfl⟩)))))
theorem split_Right_T (K : Nat) {x0 : Q4} {r : Bool} (h : O8 K x0 = some r) : Zh tp 52 [.agg ((Q5.dc 256 .u8 x0.Of) ++ (([.int .i64 x0.Many] : List DC)))] [] (.bool r) := by
 refine CI 28 fu52 rfl ?_
 unfold O8 at h
 refine sR (Qr (sp rfl (Q8 rfl (dk rfl) rfl (fun a => (aw rfl (nL (tN (sR (Qr (aw rfl (nL (tN (T.seq ?_)))))))))))))
 refine sR (Qr (oP Qj2 i22 rfl (oA 0 (Q5.dc 256 .u8 x0.Of) ul22 i22 rfl (mw rfl (nL (tN (T.block (T.loop ?_))))))))
 refine Qf ?_ (Qki K K (0:Int) x0 (0:Int) a h)
 exact tq rfl rfl
abbrev Qka (r : Int) : ES := Jm tp ff89 (fun y t => y = (.int .i64 r) ∧ t = [])
abbrev Ql0 (r : Int) : ES := fT 17 [1,1] ff89 (Qka r)
abbrev Qjy (r : Int) : ES := fT 17 [1,1,1,1] ff89 (Qka r)
abbrev Qh4 (r : Int) : ES := Qv 0 ((Qjy r))
theorem Qfc {r : Int} (K : Nat) (h : Ef K = some r) : T tp 17 (ca [1,0,1,0] ff89) ⟨[], []⟩ (Ql0 r) := by
 unfold Ef at h
 refine sR (Qr (aw rfl (nL (tN (T.ret (Qs (fd rfl (by cases h; exact ⟨rfl, rfl⟩))))))))
theorem Ql1 {r : Int} (K : Nat) : ∀ (k : Nat), ∀ (a x0 b : Int), Ee K k a x0 b = some r → TL tp 17 (ca [1,1,1,0,1,0,0] ff89) ⟨[(3, .int .i64 a), (10, .int .i64 x0), (11, .int .i64 b)], []⟩ (Qh4 r) := by
 intro k
 induction k with
 | zero =>
  intro a x0 b h
  exact zn h
 | succ k ih =>
  intro a x0 b h
  rw [Ee] at h
  refine Q0 (sR (Qr (oI rfl (nL (tN (T.seq ?_))))))
  rcases Qg h with ⟨c, h⟩ | ⟨c, h⟩
  refine Qp rfl c (T.skip (tN (T.seq (T.block (Qr (mw rfl (oI rfl ?_)))))))
  refine aw rfl (nL (Qk (tN (Qr (oI rfl (mw rfl (nL (tN ?_))))))))
  refine Qf ?_ (ih (wI (a * (3:Int))) x0 (wI (b + (1:Int))) h)
  exact tq rfl rfl
  refine Qo rfl c (T.exit (Qj (Qj (Qq (tN (sR (Qr (mw rfl (aw rfl (nL (tN (T.ret ?_))))))))))))
  exact fd rfl (by cases h; exact ⟨rfl, rfl⟩)
theorem auto_Codes_T (K : Nat) {x0 r : Int} (h : O1 K x0 = some r) : Zh tp 89 [.int .i64 x0] [] (.int .i64 r) := by
 refine CI 17 fu89 rfl ?_
 unfold O1 at h
 refine sR (Qr (aw rfl (nL (tN (T.seq (sR (Qr (mw rfl (oI rfl ?_)))))))))
 refine mw rfl ?_
 rcases Qg h with ⟨a, h⟩ | ⟨a, h⟩
 refine pf rfl a (pf rfl a (oY a rfl (nL (tN (Qp rfl rfl ?_)))))
 refine Ql ?_ (Qfc K h)
 exact tq rfl rfl
 refine sn rfl a (OpT.move rfl (dk rfl) rfl (sn rfl a (Zs rfl rfl (dk rfl) rfl rfl (oZ a rfl (nL (tN ?_))))))
 rcases Qg h with ⟨b, h⟩ | ⟨b, h⟩
 refine Qp rfl b ?_
 refine Ql ?_ (Qfc K h)
 exact tq rfl rfl
 refine Qo rfl b (T.skip (tN (sR (Qr (aw rfl (nL (tN (T.seq (sR (Qr ?_))))))))))
 refine mw rfl (mw rfl (nL (tN (T.block (T.loop ?_)))))
 refine Qf ?_ (Ql1 K K (1:Int) x0 (0:Int) h)
 exact tq rfl rfl
abbrev auto_rises_q (r : Bool) : ES := Jm tp ff90 (fun y t => y = (.bool r) ∧ t = [])
abbrev Qkv (r : Bool) : ES := fT 24 [1,1,1] ff90 (auto_rises_q r)
abbrev Sk (r : Bool) : ES := Qv 0 ((Qkv r))
abbrev Qi5 (r : Bool) : ES := fL 24 [1,1,0,1,0,0] ff90 (Sk r)
abbrev Qd8 (r : Bool) : ES := fT 24 [1,1,0,1,0,0,1,1,1] ff90 (Qi5 r)
abbrev Sd (r : Bool) : ES := Qv 1 ((Qd8 r))
abbrev Tu (r : Bool) : ES := fT 24 [1,1,0,1,0,0,1,1,0,0,1,1] ff90 (Sd r)
theorem Qfa {r : Bool} (K : Nat) (h : Ec K = some r) : T tp 24 (ca [1,1,0,1,0,0,1,1,0,0,1,0,1,0] ff90) ⟨[], []⟩ (Tu r) := by
 unfold Ec at h
 refine sR (Qr (aw rfl (nL (tN (T.ret (Qs (Qy (Qs (Qs (Qy (Qs (fd rfl (by cases h; exact ⟨rfl, rfl⟩)))))))))))))
theorem Qlx {r : Bool} (K : Nat) : ∀ (k : Nat), ∀ (x1 d : Int) (x0 : List Int) (b c : Int) (flx0 : Bool), L9 K k x1 d x0 b c = some r → TL tp 24 (ca [1,1,0,1,0,0] ff90) ⟨[(1, .int .i64 x1), (5, .int .i64 d), (8, .sl flx0 1 (mI x0)), (9, .int .i64 b), (10, .int .i64 c)], []⟩ (Sk r) := by
 intro k
 induction k with
 | zero =>
  intro x1 d x0 b c flx0 h
  exact zn h
 | succ k ih =>
  intro x1 d x0 b c flx0 h
  rw [L9] at h
  refine Q0 (sR (Qr (oI rfl (nL (tN (T.seq ?_))))))
  rcases Qg h with ⟨g, h⟩ | ⟨g, h⟩
  refine Qp rfl g (T.skip (tN (T.seq (T.block (sR (Qr ?_))))))
  obtain ⟨j, l, h⟩ := bind_some h
  refine oX x0 (cI .i64) Zi i3 l rfl (oR ul3 rfl (aw rfl (nL (tN (T.seq (sR (Qr (mw rfl ?_))))))))
  refine mw rfl (oI rfl (mw rfl ?_))
  rcases Qg h with ⟨a, h⟩ | ⟨a, h⟩
  refine pf rfl a (pf rfl a (pf rfl a (oY a rfl (nL (tN (Qp rfl rfl ?_))))))
  refine Ql ?_ (Qfa K h)
  exact tq rfl rfl
  refine sn rfl a (OpT.move rfl (dk rfl) rfl (sn rfl a (OpT.move rfl (dk rfl) rfl (sn rfl a (Zs rfl rfl (dk rfl) rfl rfl (oZ a rfl (nL (tN ?_))))))))
  rcases Qg h with ⟨i, h⟩ | ⟨i, h⟩
  refine Qp rfl i ?_
  refine Ql ?_ (Qfa K h)
  exact tq rfl rfl
  refine Qo rfl i (T.skip (tN (Qr (mw rfl (aw rfl (nL (Qk (tN (Qr ?_)))))))))
  refine oI rfl (mw rfl (nL (tN ?_)))
  refine Qf ?_ (ih x1 j x0 b (wI (c + (1:Int))) flx0 h)
  exact tq rfl rfl
  refine Qo rfl g (T.exit (Qj (Qj (Qq (tN (sR (Qr (aw rfl (nL (tN (T.ret (fd rfl (by cases h; exact ⟨rfl, rfl⟩)))))))))))))
theorem Qj8 (K : Nat) {x0 : List Int} {x1 : Int} {flx0 r : Bool} (h : O0 K x0 x1 = some r) : Zh tp 90 [.sl flx0 1 (mI x0), .int .i64 x1] [] (.bool r) := by
 refine CI 24 fu90 rfl ?_
 unfold O0 at h
 refine sR (Qr (aw rfl (nL (tN (sR (Qr (aw rfl (nL (tN (T.seq (sR (Qr ?_))))))))))))
 refine mw rfl (oU x0 (cI .i64) Zi rfl (mw rfl (nL (tN (T.block (T.loop ?_))))))
 refine Qf ?_ (Qlx K K x1 (-1:Int) x0 (x0.length : Int) (0:Int) flx0 h)
 exact tq rfl rfl
abbrev Qif (r : Int) : ES := Jm tp ff132 (fun y t => y = (.int .i64 r) ∧ t = [])
abbrev Qei (r : Int) : ES := fT 19 [1,1] ff132 (Qif r)
abbrev Qbc (r : Int) : ES := Qv 0 ((Qei r))
theorem Qej {r : Int} (K : Nat) : ∀ (k : Nat), ∀ (x0 : List Int) (x1 a b : Int) (flx0 : Bool), V3 K k x0 x1 a b = some r → TL tp 19 (ca [1,0,1,0,0] ff132) ⟨[(0, .sl flx0 1 (mI x0)), (1, .int .i64 x1), (7, .int .i64 a), (8, .int .i64 b)], []⟩ (Qbc r) := by
 intro k
 induction k with
 | zero =>
  intro x0 x1 a b flx0 h
  exact zn h
 | succ k ih =>
  intro x0 x1 a b flx0 h
  rw [V3] at h
  refine Q0 (sR (Qr (oI rfl (nL (tN (T.seq ?_))))))
  rcases Qg h with ⟨c, h⟩ | ⟨c, h⟩
  refine Qp rfl c (T.skip (tN (T.seq (T.block (sR (Qr (mw rfl (aw rfl ?_))))))))
  refine nL (tN (sR (Qr ?_)))
  iterate 3 refine mw rfl ?_
  obtain ⟨g, i, h⟩ := bind_some h
  refine oX x0 (cI .i64) Zi i3 i rfl (oR ul3 rfl (oI rfl (nL (tN ?_))))
  rcases Qg h with ⟨d, h⟩ | ⟨d, h⟩
  refine Qp rfl d (sR (Qr (mw rfl (aw rfl (nL (tN (T.ret (Qy (Qs (Qs (Qy (Qs (fd rfl (by cases h; exact ⟨rfl, rfl⟩))))))))))))))
  refine Qo rfl d (T.skip (Qk (tN (Qr (oI rfl (mw rfl (nL (tN ?_))))))))
  refine Qf ?_ (ih x0 x1 a (wI (b + (1:Int))) flx0 h)
  exact tq rfl rfl
  refine Qo rfl c (T.exit (Qj (Qj (Qq (tN (sR (Qr (aw rfl (nL (tN (T.ret (fd rfl (by cases h; exact ⟨rfl, rfl⟩)))))))))))))
theorem Qig (K : Nat) {x0 : List Int} {x1 : Int} {flx0 : Bool} {r : Int} (h : Cr K x0 x1 = some r) : Zh tp 132 [.sl flx0 1 (mI x0), .int .i64 x1] [] (.int .i64 r) := by
 refine CI 19 fu132 rfl ?_
 unfold Cr at h
 refine sR (Qr (aw rfl (nL (tN (T.seq (sR (Qr (mw rfl (oU x0 (cI .i64) Zi rfl ?_)))))))))
 refine mw rfl (nL (tN (T.block (T.loop ?_))))
 refine Qf ?_ (Qej K K x0 x1 (x0.length : Int) (0:Int) flx0 h)
 exact tq rfl rfl
abbrev slices_Contains_int_q (r : Bool) : ES := Jm tp ff118 (fun y t => y = (.bool r) ∧ t = [])
theorem Qek (K : Nat) {x0 : List Int} {x1 : Int} {flx0 r : Bool} (h : Ws K x0 x1 = some r) : Zh tp 118 [.sl flx0 1 (mI x0), .int .i64 x1] [] (.bool r) := by
 refine CI 9 fu118 rfl ?_
 unfold Ws at h
 refine sR (Qr (aw rfl (nL (tN (sR (Qr (mw rfl (mw rfl ?_))))))))
 obtain ⟨b, a, h⟩ := bind_some h
 refine oH fu132 (Zh.nil (Qig K (flx0 := flx0) a)) rfl (oI rfl (aw rfl (nL (tN (T.ret (fd rfl (by cases h; exact ⟨rfl, rfl⟩)))))))
abbrev Re (r : Bool) : ES := Jm tp ff93 (fun y t => y = (.bool r) ∧ t = [])
abbrev Qb8 (r : Bool) : ES := fT 79 [1,1,1] ff93 (Re r)
abbrev Qa4 (r : Bool) : ES := fT 79 [1,1,1,1] ff93 (Re r)
abbrev Bv (r : Bool) : ES := Qv 0 ((Qa4 r))
abbrev Se (r : Bool) : ES := fL 79 [1,1,1,0,1,0,0] ff93 (Bv r)
abbrev Ix (r : Bool) : ES := fT 79 [1,1,1,0,1,0,0,1,1,1] ff93 (Se r)
abbrev Dx (r : Bool) : ES := Qv 1 ((Ix r))
theorem K2 {r : Bool} (K : Nat) (h : Xv K = some r) : T tp 79 (ca [1,1,0,1,0] ff93) ⟨[], []⟩ (Qb8 r) := by
 unfold Xv at h
 refine sR (Qr (aw rfl (nL (tN (T.ret (Qs (fd rfl (by cases h; exact ⟨rfl, rfl⟩))))))))
theorem K1 {r : Bool} (K : Nat) (h : Xu K = some r) : T tp 79 (ca [1,1,1,0,1,0,0,1,1,0,0,1,1,0] ff93) ⟨[], []⟩ (Dx r) := by
 unfold Xu at h
 refine sR (Qr (aw rfl (nL (tN (T.ret (Qy (Qs (Qs (Qy (Qs (fd rfl (by cases h; exact ⟨rfl, rfl⟩))))))))))))
theorem Qea {r : Bool} (K : Nat) : ∀ (k : Nat), ∀ (x2 : Qd) (w p : Int) (x0 : Zf) (x1 : Qa) (j l m : Nat), Xt K k x2 w p x0 x1 = some r → TL tp 79 (ca [1,1,1,0,1,0,0] ff93) ⟨[(3, .ptr j 0), (4, .ptr l 0), (5, .ptr m 0), (44, .sl false 1 (mU x2.Ops)), (45, .int .i64 w), (46, .int .i64 p)], [(Bu j x0.Auto.Split.Of x0.Auto.Split.Many x0.Auto.Counts x0.Auto.States), (W0 l x1.L x1.R x1.Rule x1.Next), (b54x6 m x2.To x2.Ops)]⟩ (Bv r) := by
 intro k
 induction k with
 | zero =>
  intro x2 w p x0 x1 j l m h
  exact zn h
 | succ k ih =>
  intro x2 w p x0 x1 j l m h
  rw [Xt] at h
  refine Q0 (sR (Qr (oI rfl (nL (tN (T.seq ?_))))))
  rcases Qg h with ⟨ab, h⟩ | ⟨ab, h⟩
  refine Qp rfl ab (T.skip (tN (T.seq (T.block (sR (Qr (mw rfl ?_)))))))
  obtain ⟨a, ad, h⟩ := bind_some h
  refine oX x2.Ops (cI .u8) B2 i5 ad rfl (oR ul5 rfl (aw rfl (aw rfl (nL (tN (T.seq (Zy ?_)))))))
  refine dV rfl rfl (dI rfl (.f rfl) rfl (dV rfl rfl ?_))
  rcases Qg h with ⟨y, h⟩ | ⟨y, h⟩
  refine dO y rfl rfl (dO y rfl rfl (dY rfl (.f rfl) y rfl (dV rfl rfl (dO rfl rfl rfl (dO rfl rfl rfl (dO rfl rfl rfl ?_))))))
  refine dG rfl rfl (dG rfl rfl (dG rfl rfl (dG rfl rfl (dG rfl rfl (dG rfl rfl (dG rfl rfl ?_))))))
  refine dG rfl rfl (dG rfl rfl (dG rfl rfl (dG rfl rfl (dG rfl rfl (dG rfl rfl (dG rfl rfl ?_))))))
  refine dG rfl rfl (dO rfl rfl rfl (dY rfl (.f rfl) rfl rfl (dF [0,1,3,7,15,31,63,127,255,511,1023,2047,1023,5119,13311,1023,33791,127999,259071,521215,1023,2094079,4191231,8388607,16777215,33554431,67108863] Qx rfl (by kernel_rfl) (fun u hu => (tN (Ql hu (Qp rfl rfl ?_)))))))
  refine Ql ?_ (K1 K h)
  exact tq rfl rfl
  refine dM rfl (.n y rfl) rfl (dI rfl (.n y rfl) rfl (dZ rfl (.f rfl) y rfl (dV rfl rfl ?_)))
  rcases Qg h with ⟨q, h⟩ | ⟨q, h⟩
  refine dO q rfl rfl (dO q rfl rfl (dO q rfl rfl (dG rfl rfl (dG rfl rfl (dG rfl rfl (dG rfl rfl ?_))))))
  refine dG rfl rfl (dG rfl rfl (dG rfl rfl (dG rfl rfl (dG rfl rfl (dG rfl rfl (dG rfl rfl ?_))))))
  refine dG rfl rfl (dG rfl rfl (dG rfl rfl (dG rfl rfl (dO q rfl rfl (dY rfl (.f rfl) q rfl (dF [0,1,3,7,15,31,63,127,255,511,1023,2047,1023,5119,13311,1023,33791,127999,259071,521215,1023,2094079,4191231,8388607,16777215,33554431,67108863] Qx rfl (by kernel_rfl) (fun u hu => (tN (Ql hu ?_)))))))))
  refine Qp rfl rfl ?_
  refine Ql ?_ (K1 K h)
  exact tq rfl rfl
  refine dM rfl (.n q rfl) rfl (dI rfl (.n q rfl) rfl (dM rfl (.n q rfl) rfl ?_))
  rcases Qg h with ⟨b, h⟩ | ⟨b, h⟩
  refine dP rfl (.n b rfl) V1 i38 rfl (dL 1 rfl (.n b rfl) Zi rfl (dP rfl (.n b rfl) ul107 i28 rfl (dP rfl (.n b rfl) Xz i26 rfl (dL 0 rfl (.n b rfl) Vj rfl (dP rfl (.n b rfl) Lj i3 rfl (dL 2 rfl (.n b rfl) ul3 rfl ?_))))))
  obtain ⟨g, af, h⟩ := bind_some h
  refine dX x0.Auto.States Qb rfl (.n b rfl) Vj i51 af rfl (dQ rfl (.n b rfl) V1 i38 rfl (dR rfl (.n b rfl) Zi rfl (dM rfl (.n b rfl) rfl ?_)))
  obtain ⟨aa, ag, h⟩ := bind_some h
  refine dX g.R (cI .i64) rfl (.n b rfl) Zi i3 ag rfl (dR rfl (.n b rfl) ul3 rfl ?_)
  obtain ⟨s, ai, h⟩ := bind_some h
  refine dH fu118 (Zh.nil (Qek K (flx0 := false) ai)) rfl (.n b rfl) rfl (dT rfl (.n b rfl) rfl (dY rfl (.n q rfl) b rfl (dZ rfl (.f rfl) q rfl (dF [0,1,3,7,15,31,63,127,255,511,1023,2047,1023,5119,13311,1023,33791,127999,259071,521215,1023,2094079,4191231,8388607,16777215,33554431,67108863] Qx rfl (by kernel_rfl) (fun u hu => (tN (Ql hu ?_)))))))
  rcases Qg h with ⟨ac, h⟩ | ⟨ac, h⟩
  refine Qp rfl ac ?_
  refine Ql ?_ (K1 K h)
  exact tq rfl rfl
  refine Qo rfl ac (T.skip (Qk (tN (Qr (oI rfl (mw rfl (nL (tN ?_))))))))
  refine Qf ?_ (ih x2 w (wI (p + (1:Int))) x0 x1 j l m h)
  exact tq rfl rfl
  refine dO b rfl rfl (dO b rfl rfl (dO b rfl rfl (dO b rfl rfl (dO b rfl rfl (dO b rfl rfl (dO b rfl rfl ?_))))))
  refine dO b rfl rfl (dO b rfl rfl (dO b rfl rfl (dO b rfl rfl (dO b rfl rfl (dO b rfl rfl (dO b rfl rfl ?_))))))
  refine dO b rfl rfl (dZ rfl (.n q rfl) b rfl (dZ rfl (.f rfl) q rfl (dF [0,1,3,7,15,31,63,127,255,511,1023,2047,1023,5119,13311,1023,33791,127999,259071,521215,1023,2094079,4191231,8388607,16777215,33554431,67108863] Qx rfl (by kernel_rfl) (fun u hu => (tN (Ql hu (Qo rfl rfl (T.skip (Qk (tN (Qr ?_)))))))))))
  refine oI rfl (mw rfl (nL (tN ?_)))
  refine Qf ?_ (ih x2 w (wI (p + (1:Int))) x0 x1 j l m h)
  exact tq rfl rfl
  refine Qo rfl ab (T.exit (Qj (Qj (Qq (tN (sR (Qr (aw rfl (nL (tN (T.ret (fd rfl (by cases h; exact ⟨rfl, rfl⟩)))))))))))))
theorem Qh3 (K : Nat) {x0 : Zf} {x1 : Qa} {x2 : Qd} {r : Bool} (h : Le K x0 x1 x2 = some r) : Zh tp 93 [.agg ((Q5.dc 256 .u8 x0.Auto.Split.Of) ++ (([.int .i64 x0.Auto.Split.Many, .sl false 2 (mA x0.Auto.Counts), .sl false 4 (x0.Auto.States.map Qb)] : List DC))), .agg [.sl false 1 (mI x1.L), .sl false 1 (mI x1.R), .sl false 1 (mI x1.Rule), .sl false 1 (x1.Next.map (cL 2 Qh))], .agg [.int .i64 x2.To, .sl false 1 (mU x2.Ops)]] [] (.bool r) := by
 refine CI 79 fu93 rfl ?_
 unfold Le at h
 refine sR (Qr (sp rfl (Q8 rfl (dk rfl) rfl (fun j => (sp rfl (Q8 rfl (dk rfl) rfl (fun m => (sp rfl (Q8 rfl (dk rfl) rfl (fun g => (aw rfl (nL (tN (T.seq ?_))))))))))))))
 refine sR (Qr (oP Lj i3 rfl (oL 0 ul3 rfl (oI rfl (nL (tN ?_))))))
 rcases Qg h with ⟨p, h⟩ | ⟨p, h⟩
 refine Qp rfl p (sR (Qr (oP Lj i52 rfl (oL 0 B2 rfl (oU x2.Ops (cI .u8) B2 rfl (oI rfl (aw rfl ?_)))))))
 refine nL (tN (T.ret (Qs (fd rfl (by cases h; exact ⟨rfl, rfl⟩)))))
 refine Qo rfl p (T.skip (tN (T.seq (T.seq (Zy (dP rfl (.f rfl) Lj i3 rfl (dL 0 rfl (.f rfl) ul3 rfl ?_)))))))
 refine dI rfl (.f rfl) rfl (dV rfl rfl ?_)
 rcases Qg h with ⟨l, h⟩ | ⟨l, h⟩
 refine dO l rfl rfl (dO l rfl rfl (dO l rfl rfl (dO l rfl rfl (dO l rfl rfl (dO l rfl rfl (dO l rfl rfl ?_))))))
 refine dY rfl (.f rfl) l rfl (dV rfl rfl (dO rfl rfl rfl (dO rfl rfl rfl (dO rfl rfl rfl (dO rfl rfl rfl (dO rfl rfl rfl ?_))))))
 refine dO rfl rfl rfl (dO rfl rfl rfl (dO rfl rfl rfl (dO rfl rfl rfl (dO rfl rfl rfl (dO rfl rfl rfl (dO rfl rfl rfl ?_))))))
 refine dO rfl rfl rfl (dY rfl (.f rfl) rfl rfl (dF [0,1,3,7,15,31,15,79,207,463,1023,2047,4095,8191,16383,32767,8191,73727,204799,8191,532479,2039807,4136959,8331263,16719871,33554431,67108863] Qx rfl (by kernel_rfl) (fun u hu => (tN (Ql hu (Qp rfl rfl ?_))))))
 refine Ql ?_ (K2 K h)
 exact tq rfl rfl
 refine dP rfl (.n l rfl) Lj i3 rfl (dL 0 rfl (.n l rfl) ul3 rfl (dP rfl (.n l rfl) ul107 i28 rfl (dP rfl (.n l rfl) Xz i26 rfl (dL 2 rfl (.n l rfl) Vj rfl (dN x0.Auto.States Qb rfl (.n l rfl) Vj rfl (dI rfl (.n l rfl) rfl ?_))))))
 refine dZ rfl (.f rfl) l rfl (dV rfl rfl ?_)
 rcases Qg h with ⟨a, h⟩ | ⟨a, h⟩
 refine dO a rfl rfl (dO a rfl rfl (dO a rfl rfl (dO a rfl rfl (dO a rfl rfl (dO a rfl rfl (dO a rfl rfl ?_))))))
 refine dO a rfl rfl (dO a rfl rfl (dO a rfl rfl (dO a rfl rfl (dO a rfl rfl (dO a rfl rfl (dY rfl (.f rfl) a rfl ?_))))))
 refine dF [0,1,3,7,15,31,15,79,207,463,1023,2047,4095,8191,16383,32767,8191,73727,204799,8191,532479,2039807,4136959,8331263,16719871,33554431,67108863] Qx rfl (by kernel_rfl) (fun u hu => (tN (Ql hu (Qp rfl rfl ?_))))
 refine Ql ?_ (K2 K h)
 exact tq rfl rfl
 refine dP rfl (.n a rfl) Lj i52 rfl (dL 0 rfl (.n a rfl) B2 rfl (dN x2.Ops (cI .u8) rfl (.n a rfl) B2 rfl (dP rfl (.n a rfl) ul107 i28 rfl (dP rfl (.n a rfl) Xz i26 rfl (dL 2 rfl (.n a rfl) Vj rfl (dP rfl (.n a rfl) Lj i3 rfl ?_))))))
 refine dL 0 rfl (.n a rfl) ul3 rfl ?_
 obtain ⟨b, w, h⟩ := bind_some h
 refine dX x0.Auto.States Qb rfl (.n a rfl) Vj i51 w rfl (dQ rfl (.n a rfl) V1 i38 rfl (dR rfl (.n a rfl) Zi rfl (dN b.R (cI .i64) rfl (.n a rfl) Zi rfl (dI rfl (.n a rfl) rfl (dZ rfl (.f rfl) a rfl (dF [0,1,3,7,15,31,15,79,207,463,1023,2047,4095,8191,16383,32767,8191,73727,204799,8191,532479,2039807,4136959,8331263,16719871,33554431,67108863] Qx rfl (by kernel_rfl) (fun u hu => (tN (Ql hu ?_)))))))))
 rcases Qg h with ⟨q, h⟩ | ⟨q, h⟩
 refine Qp rfl q ?_
 refine Ql ?_ (K2 K h)
 exact tq rfl rfl
 refine Qo rfl q (T.skip (tN (T.seq (sR (Qr (oP Lj i52 rfl (oL 0 B2 rfl (oU x2.Ops (cI .u8) B2 rfl ?_))))))))
 refine mw rfl (nL (tN (T.block (T.loop ?_))))
 refine Qf ?_ (Qea K K x2 (x2.Ops.length : Int) (0:Int) x0 x1 j m g h)
 exact tr rfl (.c (.s (.s .z)) (.c (.s .z) (.c .z (.n _))))
abbrev auto_checker_state_1_q (bx1 bx2 : Nat) (x1 : Zf) (x2 : Qa) (r : Bool) : ES := Jm tp ff92 (fun y t => ∃ γ : Nat → Value, y = (.bool r) ∧ t = [(Bu bx1 x1.Auto.Split.Of x1.Auto.Split.Many x1.Auto.Counts x1.Auto.States), (W0 bx2 x2.L x2.R x2.Rule x2.Next)])
theorem Qd9 (K : Nat) {x0 : Qd} {x1 : Zf} {x2 : Qa} {bx1 bx2 : Nat} {r : Bool} (h : Gk K x0 x1 x2 = some r) : U3 tp 92 [.agg [.int .i64 x0.To, .sl false 1 (mU x0.Ops)], .ptr bx1 0, .ptr bx2 0] [(Bu bx1 x1.Auto.Split.Of x1.Auto.Split.Many x1.Auto.Counts x1.Auto.States), (W0 bx2 x2.L x2.R x2.Rule x2.Next)] (fun γ => (.bool r)) (fun γ => [(Bu bx1 x1.Auto.Split.Of x1.Auto.Split.Many x1.Auto.Counts x1.Auto.States), (W0 bx2 x2.L x2.R x2.Rule x2.Next)]) := by
 refine CI 10 fu92 rfl ?_
 unfold Gk at h
 refine sR (Qr (sp rfl (Q8 rfl (dk rfl) rfl (fun b => (aw rfl (nL (tN (sR (Qr (oA 1 ((Q5.dc 256 .u8 x1.Auto.Split.Of) ++ (([.int .i64 x1.Auto.Split.Many, .sl false 2 (mA x1.Auto.Counts), .sl false 4 (x1.Auto.States.map Qb)] : List DC))) ul107 i107 rfl (oA 2 [.sl false 1 (mI x2.L), .sl false 1 (mI x2.R), .sl false 1 (mI x2.Rule), .sl false 1 (x2.Next.map (cL 2 Qh))] V1 i51 rfl (oA 0 [.int .i64 x0.To, .sl false 1 (mU x0.Ops)] Lj i54 rfl ?_))))))))))))
 obtain ⟨c, a, h⟩ := bind_some h
 refine oH fu93 (Zh.nil (Qh3 K a)) rfl (oT rfl (aw rfl (nL (tN (T.ret (Q7 (.cons _ _ _ _ (.tmp 4 _ rfl) .nil) (.cons 1 rfl (.cons 1 rfl (.nil _))) (by cases h; exact ⟨gl [], rfl, rfl⟩)))))))
abbrev Qbd (bx1c0 bx1c1 : Nat) (x1c0 : Zf) (x1c1 : Qa) (r : Int) : ES := Jm tp ff117 (fun y t => ∃ γ : Nat → Value, y = (.int .i64 r) ∧ t = [(Bu bx1c0 x1c0.Auto.Split.Of x1c0.Auto.Split.Many x1c0.Auto.Counts x1c0.Auto.States), (W0 bx1c1 x1c1.L x1c1.R x1c1.Rule x1c1.Next)])
abbrev Rk (bx1c0 bx1c1 : Nat) (x1c0 : Zf) (x1c1 : Qa) (r : Int) : ES := fT 19 [1,1] ff117 (Qbd bx1c0 bx1c1 x1c0 x1c1 r)
abbrev N6 (bx1c0 bx1c1 : Nat) (x1c0 : Zf) (x1c1 : Qa) (r : Int) : ES := Qv 0 ((Rk bx1c0 bx1c1 x1c0 x1c1 r))
theorem Rl {r : Int} (K bx1c0 bx1c1 : Nat) (x1c0 : Zf) (x1c1 : Qa) : ∀ (k : Nat), ∀ (x0 : List Qd) (a b : Int) (x1c0 : Zf) (x1c1 : Qa) (flx0 : Bool), Y9 K k x0 a b x1c0 x1c1 = some r → TL tp 19 (ca [1,0,1,0,0] ff117) ⟨[(0, .sl flx0 2 (x0.map Qh)), (1, .c (.ex (.func (.func 92) #[] #[.pointer (some ⟨bx1c0, 0, none⟩), .pointer (some ⟨bx1c1, 0, none⟩)]))), (7, .int .i64 a), (8, .int .i64 b)], [(Bu bx1c0 x1c0.Auto.Split.Of x1c0.Auto.Split.Many x1c0.Auto.Counts x1c0.Auto.States), (W0 bx1c1 x1c1.L x1c1.R x1c1.Rule x1c1.Next)]⟩ (N6 bx1c0 bx1c1 x1c0 x1c1 r) := by
 intro k
 induction k with
 | zero =>
  intro x0 a b x1c0 x1c1 flx0 h
  exact zn h
 | succ k ih =>
  intro x0 a b x1c0 x1c1 flx0 h
  rw [Y9] at h
  refine Q0 (sR (Qr (oI rfl (nL (tN (T.seq ?_))))))
  rcases Qg h with ⟨g, h⟩ | ⟨g, h⟩
  refine Qp rfl g (T.skip (tN (T.seq (T.block (sR (Qr (mw rfl (aw rfl ?_))))))))
  refine nL (tN (sR (Qr ?_)))
  iterate 3 refine mw rfl ?_
  obtain ⟨j, l, h⟩ := bind_some h
  refine oX x0 Qh Ma i54 l rfl (oJ Lj i54 rfl ?_)
  obtain ⟨p, m, h⟩ := bind_some h
  refine sp rfl (Sn (f := 92) (vs := [.pointer (some ⟨bx1c0, 0, none⟩), .pointer (some ⟨bx1c1, 0, none⟩)]) rfl rfl (dk rfl) fu92 rfl rfl (Q9 (is := [0, 1]) (ph := []) rfl (dk rfl) fu92 rfl rfl (Zm.cons rfl (Zm.cons rfl (Zm.cons rfl Zm.nil))) (Qd9 K (bx1 := bx1c0) (bx2 := bx1c1) m) (.cons rfl rfl (.cons rfl rfl (.nil))) (fun _ => rfl) (fun q => (nm (.c (.c (.n))) (nL (tN ?_))))))
  rcases Qg h with ⟨i, h⟩ | ⟨i, h⟩
  refine Qp rfl i (sR (Qr (mw rfl (aw rfl (nL (tN (T.ret (Qy (Qs (Qs (Qy (Qs (Q7 (.cons _ _ _ _ (.tmp 4 _ rfl) .nil) (.cons 0 rfl (.cons 0 rfl (.nil _))) (by cases h; exact ⟨gl [], rfl, rfl⟩))))))))))))))
  refine Qo rfl i (T.skip (Qk (tN (Qr (oI rfl (mw rfl (nL (tN ?_))))))))
  refine Qf ?_ (ih x0 a (wI (b + (1:Int))) x1c0 x1c1 flx0 h)
  exact tq rfl rfl
  refine Qo rfl g (T.exit (Qj (Qj (Qq (tN (sR (Qr (aw rfl (nL (tN (T.ret (Q7 (.cons _ _ _ _ (.tmp 4 _ rfl) .nil) (.cons 0 rfl (.cons 0 rfl (.nil _))) (by cases h; exact ⟨gl [], rfl, rfl⟩)))))))))))))
theorem Qbe (K : Nat) {x0 : List Qd} {x1c0 : Zf} {x1c1 : Qa} {flx0 : Bool} {bx1c0 bx1c1 : Nat} {r : Int} (h : Hl K x0 x1c0 x1c1 = some r) : U3 tp 117 [.sl flx0 2 (x0.map Qh), .c (.ex (.func (.func 92) #[] #[.pointer (some ⟨bx1c0, 0, none⟩), .pointer (some ⟨bx1c1, 0, none⟩)]))] [(Bu bx1c0 x1c0.Auto.Split.Of x1c0.Auto.Split.Many x1c0.Auto.Counts x1c0.Auto.States), (W0 bx1c1 x1c1.L x1c1.R x1c1.Rule x1c1.Next)] (fun γ => (.int .i64 r)) (fun γ => [(Bu bx1c0 x1c0.Auto.Split.Of x1c0.Auto.Split.Many x1c0.Auto.Counts x1c0.Auto.States), (W0 bx1c1 x1c1.L x1c1.R x1c1.Rule x1c1.Next)]) := by
 refine CI 19 fu117 rfl ?_
 unfold Hl at h
 refine sR (Qr (aw rfl (nL (tN (T.seq (sR (Qr (mw rfl (oU x0 Qh Ma rfl ?_)))))))))
 refine mw rfl (nL (tN (T.block (T.loop ?_))))
 refine Qf ?_ (Rl K bx1c0 bx1c1 x1c0 x1c1 K x0 (x0.length : Int) (0:Int) x1c0 x1c1 flx0 h)
 exact tq rfl rfl
abbrev slices_ContainsFunc_Move_q (bx1c0 bx1c1 : Nat) (x1c0 : Zf) (x1c1 : Qa) (r : Bool) : ES := Jm tp ff91 (fun y t => ∃ γ : Nat → Value, y = (.bool r) ∧ t = [(Bu bx1c0 x1c0.Auto.Split.Of x1c0.Auto.Split.Many x1c0.Auto.Counts x1c0.Auto.States), (W0 bx1c1 x1c1.L x1c1.R x1c1.Rule x1c1.Next)])
theorem Rm (K : Nat) {x0 : List Qd} {x1c0 : Zf} {x1c1 : Qa} {flx0 : Bool} {bx1c0 bx1c1 : Nat} {r : Bool} (h : Ua K x0 x1c0 x1c1 = some r) : U3 tp 91 [.sl flx0 2 (x0.map Qh), .c (.ex (.func (.func 92) #[] #[.pointer (some ⟨bx1c0, 0, none⟩), .pointer (some ⟨bx1c1, 0, none⟩)]))] [(Bu bx1c0 x1c0.Auto.Split.Of x1c0.Auto.Split.Many x1c0.Auto.Counts x1c0.Auto.States), (W0 bx1c1 x1c1.L x1c1.R x1c1.Rule x1c1.Next)] (fun γ => (.bool r)) (fun γ => [(Bu bx1c0 x1c0.Auto.Split.Of x1c0.Auto.Split.Many x1c0.Auto.Counts x1c0.Auto.States), (W0 bx1c1 x1c1.L x1c1.R x1c1.Rule x1c1.Next)]) := by
 refine CI 9 fu91 rfl ?_
 unfold Ua at h
 refine sR (Qr (aw rfl (nL (tN (sR (Qr (mw rfl (mw rfl ?_))))))))
 obtain ⟨b, a, h⟩ := bind_some h
 refine sp rfl (Q9 (is := [0, 1]) (ph := []) rfl (dk rfl) fu117 rfl rfl (Zm.cons rfl (Zm.cons rfl Zm.nil)) (Qbe K (flx0 := flx0) (bx1c0 := bx1c0) (bx1c1 := bx1c1) a) (.cons rfl rfl (.cons rfl rfl (.nil))) (fun _ => rfl) (fun f => (nm (.c (.c (.n))) (oI rfl (aw rfl (nL (tN (T.ret (Q7 (.cons _ _ _ _ (.tmp 4 _ rfl) .nil) (.cons 0 rfl (.cons 0 rfl (.nil _))) (by cases h; exact ⟨gl [], rfl, rfl⟩))))))))))
abbrev N4 (r : Bool) : ES := Jm tp ff55 (fun y t => y = (.bool r) ∧ t = [])
abbrev Qa3 (r : Bool) : ES := fT 79 [1,1,1] ff55 (N4 r)
abbrev Tv (r : Bool) : ES := fT 79 [1,1,1,1] ff55 (N4 r)
abbrev Mw (r : Bool) : ES := Qv 0 ((Tv r))
abbrev Rc (r : Bool) : ES := fL 79 [1,1,1,0,1,0,0] ff55 (Mw r)
abbrev F2 (r : Bool) : ES := fT 79 [1,1,1,0,1,0,0,1,1,1] ff55 (Rc r)
abbrev C9 (r : Bool) : ES := Qv 1 ((F2 r))
abbrev Dw (r : Bool) : ES := fT 79 [1,1,1,0,1,0,0,1,1,0,0,1,1] ff55 (C9 r)
theorem Uq {r : Bool} (K : Nat) (h : Z2 K = some r) : T tp 79 (ca [1,1,0,1,0] ff55) ⟨[], []⟩ (Qa3 r) := by
 unfold Z2 at h
 refine sR (Qr (aw rfl (nL (tN (T.ret (Qs (fd rfl (by cases h; exact ⟨rfl, rfl⟩))))))))
theorem Ka {r : Bool} (K : Nat) (h : Xi K = some r) : T tp 79 (ca [1,1,1,0,1,0,0,1,1,0,0,1,0,1,0] ff55) ⟨[], []⟩ (Dw r) := by
 unfold Xi at h
 refine sR (Qr (aw rfl (nL (tN (T.ret (Qs (Qy (Qs (Qs (Qy (Qs (fd rfl (by cases h; exact ⟨rfl, rfl⟩)))))))))))))
theorem Qb7 {r : Bool} (K : Nat) : ∀ (k : Nat), ∀ (x1 : Qa) (l m : Int) (x0 : Zf) (g j : Nat), Va K k x1 l m x0 = some r → TL tp 79 (ca [1,1,1,0,1,0,0] ff55) ⟨[(2, .ptr g 0), (3, .ptr j 0), (45, .sl false 1 (x1.Next.map (cL 2 Qh))), (46, .int .i64 l), (47, .int .i64 m)], [(Bu g x0.Auto.Split.Of x0.Auto.Split.Many x0.Auto.Counts x0.Auto.States), (W0 j x1.L x1.R x1.Rule x1.Next)]⟩ (Mw r) := by
 intro k
 induction k with
 | zero =>
  intro x1 l m x0 g j h
  exact zn h
 | succ k ih =>
  intro x1 l m x0 g j h
  rw [Va] at h
  refine Q0 (sR (Qr (oI rfl (nL (tN (T.seq ?_))))))
  rcases Qg h with ⟨p, h⟩ | ⟨p, h⟩
  refine Qp rfl p (T.skip (tN (T.seq (T.block (sR (Qr (mw rfl ?_)))))))
  obtain ⟨u, aa, h⟩ := bind_some h
  refine oX x1.Next (cL 2 Qh) Lk i55 aa rfl (oR Ma rfl (aw rfl (aw rfl (nL (tN (T.seq (sR (Qr ?_))))))))
  refine oP V1 i38 rfl (oL 1 Zi rfl (mw rfl ?_))
  obtain ⟨w, y, h⟩ := bind_some h
  refine oX x1.Rule (cI .i64) Zi i3 y rfl (oR ul3 rfl (oI rfl (mw rfl ?_)))
  rcases Qg h with ⟨b, h⟩ | ⟨b, h⟩
  refine pf rfl b (pf rfl b (pf rfl b (pf rfl b (pf rfl b (pf rfl b (oY b rfl ?_))))))
  refine mw rfl (pf rfl rfl (pf rfl rfl (pf rfl rfl (pf rfl rfl (pf rfl rfl (pf rfl rfl ?_))))))
  refine pf rfl rfl (oY rfl rfl (nL (tN (Qp rfl rfl ?_))))
  refine Ql ?_ (Ka K h)
  exact tq rfl rfl
  refine sn rfl b (Y1 rfl (dk rfl) V1 rfl i38 (by decide) rfl (sn rfl b (Zx (i := 1) rfl (dk rfl) Zi rfl rfl rfl rfl (sn rfl b (OpT.move rfl (dk rfl) rfl (sn rfl b (Hu (xs := x1.Rule) (f := (cI .i64)) (v := w) rfl (dk rfl) Zi i3 rfl rfl y (sn rfl b (Kc rfl (dk rfl) ul3 rfl rfl rfl (sn rfl b (Zs rfl rfl (dk rfl) rfl rfl (oZ b rfl ?_))))))))))))
  refine mw rfl ?_
  rcases Qg h with ⟨a, h⟩ | ⟨a, h⟩
  refine pf rfl a (pf rfl a (pf rfl a (pf rfl a (pf rfl a (pf rfl a (pf rfl a ?_))))))
  refine oY a rfl (nL (tN (Qp rfl rfl ?_)))
  refine Ql ?_ (Ka K h)
  exact tq rfl rfl
  refine sn rfl a (OpT.move rfl (dk rfl) rfl (sn rfl a (Z9 (xs := u) (f := Qh) rfl (dk rfl) Ma rfl (sn rfl a (Y1 rfl (dk rfl) ul107 rfl i28 (by decide) rfl (sn rfl a (Y1 rfl (dk rfl) Xz rfl i24 (by decide) rfl (sn rfl a (Y1 rfl (dk rfl) Qj2 rfl i3 (by decide) rfl (sn rfl a (Zx (i := 0) rfl (dk rfl) ul3 rfl rfl rfl rfl (sn rfl a (Zs rfl rfl (dk rfl) rfl rfl ?_)))))))))))))
  refine oZ a rfl (nL (tN ?_))
  rcases Qg h with ⟨q, h⟩ | ⟨q, h⟩
  refine Qp rfl q ?_
  refine Ql ?_ (Ka K h)
  exact tq rfl rfl
  refine Qo rfl q (T.skip (tN (sR (Qr (mw rfl (sp rfl (OpT.makeFunc (vs := [.pointer (some ⟨g, 0, none⟩), .pointer (some ⟨j, 0, none⟩)]) rfl (dk rfl) rfl ?_)))))))
  obtain ⟨ac, ab, h⟩ := bind_some h
  refine sp rfl (Q9 (is := [0, 1]) (ph := []) rfl (dk rfl) fu91 rfl rfl (Zm.cons rfl (Zm.cons rfl Zm.nil)) (Rm K (flx0 := false) (bx1c0 := g) (bx1c1 := j) ab) (.cons rfl rfl (.cons rfl rfl (.nil))) (fun _ => rfl) (fun ad => (nm (.c (.c (.n))) (nL (tN ?_)))))
  rcases Qg h with ⟨s, h⟩ | ⟨s, h⟩
  refine Qp rfl s (sR (Qr (aw rfl (nL (tN (T.ret (Qy (Qs (Qs (Qy (Qs (fd rfl (by cases h; exact ⟨rfl, rfl⟩)))))))))))))
  refine Qo rfl s (T.skip (Qk (tN (Qr (oI rfl (mw rfl (nL (tN ?_))))))))
  refine Qf ?_ (ih x1 l (wI (m + (1:Int))) x0 g j h)
  exact tq rfl rfl
  refine Qo rfl p (T.exit (Qj (Qj (Qq (tN (sR (Qr (aw rfl (nL (tN (T.ret (fd rfl (by cases h; exact ⟨rfl, rfl⟩)))))))))))))
theorem Qf3 (K : Nat) {x0 : Zf} {x1 : Qa} {r : Bool} (h : Hq K x0 x1 = some r) : Zh tp 55 [.agg ((Q5.dc 256 .u8 x0.Auto.Split.Of) ++ (([.int .i64 x0.Auto.Split.Many, .sl false 2 (mA x0.Auto.Counts), .sl false 4 (x0.Auto.States.map Qb)] : List DC))), .agg [.sl false 1 (mI x1.L), .sl false 1 (mI x1.R), .sl false 1 (mI x1.Rule), .sl false 1 (x1.Next.map (cL 2 Qh))]] [] (.bool r) := by
 refine CI 79 fu55 rfl ?_
 unfold Hq at h
 refine sR (Qr (sp rfl (Q8 rfl (dk rfl) rfl (fun l => (sp rfl (Q8 rfl (dk rfl) rfl (fun m => (aw rfl (nL (tN (sR (Qr (oP V1 i38 rfl (oL 0 Zi rfl ?_))))))))))))))
 refine oU x1.R (cI .i64) Zi rfl ?_
 obtain ⟨v, p, h⟩ := bind_some h
 refine oH fu89 (Zh.nil (auto_Codes_T K p)) rfl (aw rfl (nL (tN (T.seq (sR (Qr (mw rfl (oI rfl ?_))))))))
 refine mw rfl ?_
 rcases Qg h with ⟨b, h⟩ | ⟨b, h⟩
 refine pf rfl b (pf rfl b (pf rfl b (pf rfl b (pf rfl b (oY b rfl (mw rfl ?_))))))
 refine pf rfl rfl (pf rfl rfl (pf rfl rfl (pf rfl rfl (pf rfl rfl (oY rfl rfl (mw rfl ?_))))))
 refine pf rfl rfl (pf rfl rfl (pf rfl rfl (pf rfl rfl (oY rfl rfl (mw rfl (pf rfl rfl ?_))))))
 refine pf rfl rfl (pf rfl rfl (pf rfl rfl (pf rfl rfl (pf rfl rfl (pf rfl rfl (pf rfl rfl ?_))))))
 refine oY rfl rfl (nL (tN (Qp rfl rfl ?_)))
 refine Ql ?_ (Uq K h)
 exact tq rfl rfl
 refine sn rfl b (Y1 rfl (dk rfl) V1 rfl i38 (by decide) rfl (sn rfl b (Zx (i := 0) rfl (dk rfl) Zi rfl rfl rfl rfl (sn rfl b (Z9 (xs := x1.Rule) (f := (cI .i64)) rfl (dk rfl) Zi rfl (sn rfl b (OpT.move rfl (dk rfl) rfl (sn rfl b (Zs rfl rfl (dk rfl) rfl rfl (oZ b rfl (mw rfl ?_)))))))))))
 rcases Qg h with ⟨d, h⟩ | ⟨d, h⟩
 refine pf rfl d (pf rfl d (pf rfl d (pf rfl d (pf rfl d (oY d rfl (mw rfl ?_))))))
 refine pf rfl rfl (pf rfl rfl (pf rfl rfl (pf rfl rfl (oY rfl rfl (mw rfl (pf rfl rfl ?_))))))
 refine pf rfl rfl (pf rfl rfl (pf rfl rfl (pf rfl rfl (pf rfl rfl (pf rfl rfl (pf rfl rfl ?_))))))
 refine oY rfl rfl (nL (tN (Qp rfl rfl ?_)))
 refine Ql ?_ (Uq K h)
 exact tq rfl rfl
 refine sn rfl d (Y1 rfl (dk rfl) V1 rfl i49 (by decide) rfl (sn rfl d (Zx (i := 0) rfl (dk rfl) Lk rfl rfl rfl rfl (sn rfl d (Z9 (xs := x1.Next) (f := (cL 2 Qh)) rfl (dk rfl) Lk rfl (sn rfl d (OpT.move rfl (dk rfl) rfl (sn rfl d (Zs rfl rfl (dk rfl) rfl rfl (oZ d rfl (mw rfl ?_)))))))))))
 rcases Qg h with ⟨g, h⟩ | ⟨g, h⟩
 refine pf rfl g (pf rfl g (pf rfl g (pf rfl g (oY g rfl (mw rfl (pf rfl rfl ?_))))))
 refine pf rfl rfl (pf rfl rfl (pf rfl rfl (pf rfl rfl (pf rfl rfl (pf rfl rfl (pf rfl rfl ?_))))))
 refine oY rfl rfl (nL (tN (Qp rfl rfl ?_)))
 refine Ql ?_ (Uq K h)
 exact tq rfl rfl
 refine sn rfl g (Y1 rfl (dk rfl) V1 rfl i38 (by decide) rfl (sn rfl g (Zx (i := 0) rfl (dk rfl) Zi rfl rfl rfl rfl ?_)))
 obtain ⟨w, q, h⟩ := bind_some h
 refine sn rfl g (Vt rfl (dk rfl) fu90 rfl rfl (Zm.cons rfl (Zm.cons rfl Zm.nil)) (Zh.nil (Qj8 K (flx0 := false) q)) (sn rfl g (OpT.not rfl (dk rfl) rfl (oZ g rfl (mw rfl ?_)))))
 rcases Qg h with ⟨a, h⟩ | ⟨a, h⟩
 refine pf rfl a (pf rfl a (pf rfl a (pf rfl a (pf rfl a (pf rfl a (pf rfl a ?_))))))
 refine pf rfl a (oY a rfl (nL (tN (Qp rfl rfl ?_))))
 refine Ql ?_ (Uq K h)
 exact tq rfl rfl
 refine sn rfl a (Y1 rfl (dk rfl) V1 rfl i38 (by decide) rfl (sn rfl a (Zx (i := 0) rfl (dk rfl) Zi rfl rfl rfl rfl (sn rfl a (Y1 rfl (dk rfl) ul107 rfl i28 (by decide) rfl (sn rfl a (Y1 rfl (dk rfl) Xz rfl i25 (by decide) rfl (sn rfl a (Zx (i := 1) rfl (dk rfl) Qcs rfl rfl rfl rfl (sn rfl a (Z9 (xs := x0.Auto.Counts) (f := (Ye.dc .i64)) rfl (dk rfl) Qcs rfl ?_)))))))))))
 obtain ⟨y, u, h⟩ := bind_some h
 refine sn rfl a (Vt rfl (dk rfl) fu90 rfl rfl (Zm.cons rfl (Zm.cons rfl Zm.nil)) (Zh.nil (Qj8 K (flx0 := false) u)) (sn rfl a (OpT.not rfl (dk rfl) rfl (oZ a rfl (nL (tN ?_))))))
 rcases Qg h with ⟨j, h⟩ | ⟨j, h⟩
 refine Qp rfl j ?_
 refine Ql ?_ (Uq K h)
 exact tq rfl rfl
 refine Qo rfl j (T.skip (tN (T.seq (sR (Qr (oP V1 i49 rfl (oL 0 Lk rfl (oU x1.Next (cL 2 Qh) Lk rfl ?_))))))))
 refine mw rfl (nL (tN (T.block (T.loop ?_))))
 refine Qf ?_ (Qb7 K K x1 (x1.Next.length : Int) (0:Int) x0 l m h)
 exact tr rfl (.c (.s .z) (.c .z (.n _)))
abbrev auto_Right_1_q (bx1 : Nat) (x1 : Zf) (r : Bool) : ES := Jm tp ff54 (fun y t => ∃ γ : Nat → Value, y = (.bool r) ∧ t = [(Bu bx1 x1.Auto.Split.Of x1.Auto.Split.Many x1.Auto.Counts x1.Auto.States)])
theorem auto_Right_1_T (K : Nat) {x0 : Qa} {x1 : Zf} {bx1 : Nat} {r : Bool} (h : Sm K x0 x1 = some r) : U3 tp 54 [.agg [.sl false 1 (mI x0.L), .sl false 1 (mI x0.R), .sl false 1 (mI x0.Rule), .sl false 1 (x0.Next.map (cL 2 Qh))], .ptr bx1 0] [(Bu bx1 x1.Auto.Split.Of x1.Auto.Split.Many x1.Auto.Counts x1.Auto.States)] (fun γ => (.bool r)) (fun γ => [(Bu bx1 x1.Auto.Split.Of x1.Auto.Split.Many x1.Auto.Counts x1.Auto.States)]) := by
 refine CI 8 fu54 rfl ?_
 unfold Sm at h
 refine sR (Qr (sp rfl (Q8 rfl (dk rfl) rfl (fun b => (aw rfl (nL (tN (sR (Qr (oA 1 ((Q5.dc 256 .u8 x1.Auto.Split.Of) ++ (([.int .i64 x1.Auto.Split.Many, .sl false 2 (mA x1.Auto.Counts), .sl false 4 (x1.Auto.States.map Qb)] : List DC))) ul107 i107 rfl (oA 0 [.sl false 1 (mI x0.L), .sl false 1 (mI x0.R), .sl false 1 (mI x0.Rule), .sl false 1 (x0.Next.map (cL 2 Qh))] V1 i51 rfl ?_)))))))))))
 obtain ⟨c, a, h⟩ := bind_some h
 refine oH fu55 (Zh.nil (Qf3 K a)) rfl (oT rfl (aw rfl (nL (tN (T.ret (Q7 (.cons _ _ _ _ (.tmp 3 _ rfl) .nil) (.cons 1 rfl (.nil _)) (by cases h; exact ⟨gl [], rfl, rfl⟩)))))))
abbrev T6 (bx1c0 : Nat) (x1c0 : Zf) (r : Int) : ES := Jm tp ff88 (fun y t => ∃ γ : Nat → Value, y = (.int .i64 r) ∧ t = [(Bu bx1c0 x1c0.Auto.Split.Of x1c0.Auto.Split.Many x1c0.Auto.Counts x1c0.Auto.States)])
abbrev Pb (bx1c0 : Nat) (x1c0 : Zf) (r : Int) : ES := fT 19 [1,1] ff88 (T6 bx1c0 x1c0 r)
abbrev I6 (bx1c0 : Nat) (x1c0 : Zf) (r : Int) : ES := Qv 0 ((Pb bx1c0 x1c0 r))
theorem Pc {r : Int} (K bx1c0 : Nat) (x1c0 : Zf) : ∀ (k : Nat), ∀ (x0 : List Qa) (a b : Int) (x1c0 : Zf) (flx0 : Bool), Yx K k x0 a b x1c0 = some r → TL tp 19 (ca [1,0,1,0,0] ff88) ⟨[(0, .sl flx0 4 (x0.map Qb)), (1, .c (.ex (.func (.func 54) #[] #[.pointer (some ⟨bx1c0, 0, none⟩)]))), (7, .int .i64 a), (8, .int .i64 b)], [(Bu bx1c0 x1c0.Auto.Split.Of x1c0.Auto.Split.Many x1c0.Auto.Counts x1c0.Auto.States)]⟩ (I6 bx1c0 x1c0 r) := by
 intro k
 induction k with
 | zero =>
  intro x0 a b x1c0 flx0 h
  exact zn h
 | succ k ih =>
  intro x0 a b x1c0 flx0 h
  rw [Yx] at h
  refine Q0 (sR (Qr (oI rfl (nL (tN (T.seq ?_))))))
  rcases Qg h with ⟨g, h⟩ | ⟨g, h⟩
  refine Qp rfl g (T.skip (tN (T.seq (T.block (sR (Qr (mw rfl (aw rfl ?_))))))))
  refine nL (tN (sR (Qr ?_)))
  iterate 3 refine mw rfl ?_
  obtain ⟨j, l, h⟩ := bind_some h
  refine oX x0 Qb Vj i51 l rfl (oJ V1 i51 rfl ?_)
  obtain ⟨p, m, h⟩ := bind_some h
  refine sp rfl (Sn (f := 54) (vs := [.pointer (some ⟨bx1c0, 0, none⟩)]) rfl rfl (dk rfl) fu54 rfl rfl (Q9 (is := [0]) (ph := []) rfl (dk rfl) fu54 rfl rfl (Zm.cons rfl (Zm.cons rfl Zm.nil)) (auto_Right_1_T K (bx1 := bx1c0) m) (.cons rfl rfl (.nil)) (fun _ => rfl) (fun q => (nm (.c (.n)) (nL (tN ?_))))))
  rcases Qg h with ⟨i, h⟩ | ⟨i, h⟩
  refine Qp rfl i (sR (Qr (mw rfl (aw rfl (nL (tN (T.ret (Qy (Qs (Qs (Qy (Qs (Q7 (.cons _ _ _ _ (.tmp 4 _ rfl) .nil) (.cons 0 rfl (.nil _)) (by cases h; exact ⟨gl [], rfl, rfl⟩))))))))))))))
  refine Qo rfl i (T.skip (Qk (tN (Qr (oI rfl (mw rfl (nL (tN ?_))))))))
  refine Qf ?_ (ih x0 a (wI (b + (1:Int))) x1c0 flx0 h)
  exact tq rfl rfl
  refine Qo rfl g (T.exit (Qj (Qj (Qq (tN (sR (Qr (aw rfl (nL (tN (T.ret (Q7 (.cons _ _ _ _ (.tmp 4 _ rfl) .nil) (.cons 0 rfl (.nil _)) (by cases h; exact ⟨gl [], rfl, rfl⟩)))))))))))))
theorem T7 (K : Nat) {x0 : List Qa} {x1c0 : Zf} {flx0 : Bool} {bx1c0 : Nat} {r : Int} (h : W2 K x0 x1c0 = some r) : U3 tp 88 [.sl flx0 4 (x0.map Qb), .c (.ex (.func (.func 54) #[] #[.pointer (some ⟨bx1c0, 0, none⟩)]))] [(Bu bx1c0 x1c0.Auto.Split.Of x1c0.Auto.Split.Many x1c0.Auto.Counts x1c0.Auto.States)] (fun γ => (.int .i64 r)) (fun γ => [(Bu bx1c0 x1c0.Auto.Split.Of x1c0.Auto.Split.Many x1c0.Auto.Counts x1c0.Auto.States)]) := by
 refine CI 19 fu88 rfl ?_
 unfold W2 at h
 refine sR (Qr (aw rfl (nL (tN (T.seq (sR (Qr (mw rfl (oU x0 Qb Vj rfl ?_)))))))))
 refine mw rfl (nL (tN (T.block (T.loop ?_))))
 refine Qf ?_ (Pc K bx1c0 x1c0 K x0 (x0.length : Int) (0:Int) x1c0 flx0 h)
 exact tq rfl rfl
abbrev Qlg (bx1c0 : Nat) (x1c0 : Zf) (r : Bool) : ES := Jm tp ff53 (fun y t => ∃ γ : Nat → Value, y = (.bool r) ∧ t = [(Bu bx1c0 x1c0.Auto.Split.Of x1c0.Auto.Split.Many x1c0.Auto.Counts x1c0.Auto.States)])
theorem Pd (K : Nat) {x0 : List Qa} {x1c0 : Zf} {flx0 : Bool} {bx1c0 : Nat} {r : Bool} (h : Vv K x0 x1c0 = some r) : U3 tp 53 [.sl flx0 4 (x0.map Qb), .c (.ex (.func (.func 54) #[] #[.pointer (some ⟨bx1c0, 0, none⟩)]))] [(Bu bx1c0 x1c0.Auto.Split.Of x1c0.Auto.Split.Many x1c0.Auto.Counts x1c0.Auto.States)] (fun γ => (.bool r)) (fun γ => [(Bu bx1c0 x1c0.Auto.Split.Of x1c0.Auto.Split.Many x1c0.Auto.Counts x1c0.Auto.States)]) := by
 refine CI 9 fu53 rfl ?_
 unfold Vv at h
 refine sR (Qr (aw rfl (nL (tN (sR (Qr (mw rfl (mw rfl ?_))))))))
 obtain ⟨b, a, h⟩ := bind_some h
 refine sp rfl (Q9 (is := [0]) (ph := []) rfl (dk rfl) fu88 rfl rfl (Zm.cons rfl (Zm.cons rfl Zm.nil)) (T7 K (flx0 := flx0) (bx1c0 := bx1c0) a) (.cons rfl rfl (.nil)) (fun _ => rfl) (fun f => (nm (.c (.n)) (oI rfl (aw rfl (nL (tN (T.ret (Q7 (.cons _ _ _ _ (.tmp 4 _ rfl) .nil) (.cons 0 rfl (.nil _)) (by cases h; exact ⟨gl [], rfl, rfl⟩))))))))))
abbrev Qj9 (r : Bool) : ES := Jm tp ff24 (fun y t => y = (.bool r) ∧ t = [])
abbrev Qly (r : Bool) : ES := fT 79 [1,1] ff24 (Qj9 r)
abbrev Qkw (r : Bool) : ES := fT 79 [1,1,1] ff24 (Qj9 r)
abbrev Sl (r : Bool) : ES := Qv 0 ((Qkw r))
abbrev Qi6 (r : Bool) : ES := fL 79 [1,1,0,1,0,0] ff24 (Sl r)
abbrev Qeb (r : Bool) : ES := fT 79 [1,1,0,1,0,0,1,1,1] ff24 (Qi6 r)
abbrev Sf (r : Bool) : ES := Qv 1 ((Qeb r))
theorem Mx {r : Bool} (K : Nat) (h : Vi K = some r) : T tp 79 (ca [1,0,1,0] ff24) ⟨[], []⟩ (Qly r) := by
 unfold Vi at h
 refine sR (Qr (aw rfl (nL (tN (T.ret (Qs (fd rfl (by cases h; exact ⟨rfl, rfl⟩))))))))
theorem Ed {r : Bool} (K : Nat) (h : Kb K = some r) : T tp 79 (ca [1,1,0,1,0,0,1,1,0,0,1,1,0] ff24) ⟨[], []⟩ (Sf r) := by
 unfold Kb at h
 refine sR (Qr (aw rfl (nL (tN (T.ret (Qy (Qs (Qs (Qy (Qs (fd rfl (by cases h; exact ⟨rfl, rfl⟩))))))))))))
theorem Qlz {r : Bool} (K : Nat) : ∀ (k : Nat), ∀ (x0 : Qc) (p q : Int) (u : Nat), Hr K k x0 p q = some r → TL tp 79 (ca [1,1,0,1,0,0] ff24) ⟨[(1, .ptr u 0), (45, .sl false 2 (mA x0.Counts)), (46, .int .i64 p), (47, .int .i64 q)], [(Li u x0.Split.Of x0.Split.Many x0.Counts x0.States)]⟩ (Sl r) := by
 intro k
 induction k with
 | zero =>
  intro x0 p q u h
  exact zn h
 | succ k ih =>
  intro x0 p q u h
  rw [Hr] at h
  refine Q0 (sR (Qr (oI rfl (nL (tN (T.seq ?_))))))
  rcases Qg h with ⟨w, h⟩ | ⟨w, h⟩
  refine Qp rfl w (T.skip (tN (T.seq (T.block (sR (Qr ?_))))))
  obtain ⟨m, ab, h⟩ := bind_some h
  refine oX x0.Counts (Ye.dc .i64) Qcs i59 ab rfl (oJ ul59 i59 rfl (sp rfl (Za rfl (dk rfl) i59 rfl (fun ad => (sp rfl (Qt (i := 0) (cells' := (Ye.oc .i64 m)) rfl rfl i59 rfl rfl rfl rfl (nb rfl) rfl (nL (tN (sR (Qr (sp rfl (Xj rfl (dk rfl) ul59 i3 rfl rfl (by decide) (by decide) (sp rfl (Zx (i := 0) rfl (dk rfl) ul3 rfl rfl rfl (H3 (k := .i64) (a := m) (pre := []) (post := []) (by decide) (by decide)) ?_))))))))))))))
  refine oI rfl (mw rfl ?_)
  rcases Qg h with ⟨b, h⟩ | ⟨b, h⟩
  refine pf rfl b (pf rfl b (pf rfl b (pf rfl b (pf rfl b (oY b rfl (mw rfl ?_))))))
  refine pf rfl rfl (pf rfl rfl (pf rfl rfl (oY rfl rfl (mw rfl (pf rfl rfl (pf rfl rfl ?_))))))
  refine pf rfl rfl (oY rfl rfl (nL (tN (Qp rfl rfl ?_))))
  refine Ql ?_ (Ed K h)
  exact tq rfl rfl
  refine sn rfl b (Xj rfl (dk rfl) ul59 i3 rfl rfl (by decide) (by decide) (sn rfl b (Zx (i := 0) rfl (dk rfl) ul3 rfl rfl rfl (H3 (k := .i64) (a := m) (pre := []) (post := []) (by decide) (by decide)) (sn rfl b (Xj rfl (dk rfl) ul59 i3 rfl rfl (by decide) (by decide) (sn rfl b (Zx (i := 0) rfl (dk rfl) ul3 rfl rfl rfl (H3 (k := .i64) (a := m) (pre := []) (post := []) (by decide) (by decide)) (sn rfl b (Zs rfl rfl (dk rfl) rfl rfl (oZ b rfl (mw rfl ?_)))))))))))
  rcases Qg h with ⟨g, h⟩ | ⟨g, h⟩
  refine pf rfl g (pf rfl g (pf rfl g (oY g rfl (mw rfl (pf rfl rfl (pf rfl rfl ?_))))))
  refine pf rfl rfl (oY rfl rfl (nL (tN (Qp rfl rfl ?_))))
  refine Ql ?_ (Ed K h)
  exact tq rfl rfl
  refine sn rfl g (Xj rfl (dk rfl) ul59 i3 rfl rfl (by decide) (by decide) (sn rfl g (Zx (i := 0) rfl (dk rfl) ul3 rfl rfl rfl (H3 (k := .i64) (a := m) (pre := []) (post := []) (by decide) (by decide)) (sn rfl g (Zs rfl rfl (dk rfl) rfl rfl (oZ g rfl (mw rfl ?_)))))))
  rcases Qg h with ⟨j, h⟩ | ⟨j, h⟩
  refine pf rfl j (pf rfl j (pf rfl j (oY j rfl (nL (tN (Qp rfl rfl ?_))))))
  refine Ql ?_ (Ed K h)
  exact tq rfl rfl
  refine sn rfl j (Xj rfl (dk rfl) ul59 i3 rfl rfl (by decide) (by decide) (sn rfl j (Zx (i := 0) rfl (dk rfl) ul3 rfl rfl rfl (H3 (k := .i64) (a := m) (pre := []) (post := []) (by decide) (by decide)) (sn rfl j (Zs rfl rfl (dk rfl) rfl rfl (oZ j rfl (nL (tN ?_))))))))
  rcases Qg h with ⟨y, h⟩ | ⟨y, h⟩
  refine Qp rfl y ?_
  refine Ql ?_ (Ed K h)
  exact tq rfl rfl
  refine Qo rfl y (T.skip (Qk (tN (Qr (oI rfl (mw rfl (nL (tN ?_))))))))
  refine Qf ?_ (ih x0 p (wI (q + (1:Int))) u h)
  exact tr rfl (.c (.s .z) (.n _))
  refine Qo rfl w (T.exit (Qj (Qj (Qq (tN (sR (Qr (oA 0 ((Q5.dc 256 .u8 x0.Split.Of) ++ (([.int .i64 x0.Split.Many, .sl false 2 (mA x0.Counts), .sl false 4 (x0.States.map Qb)] : List DC))) Xz i28 rfl (sp rfl (OpT.build (l := ((Q5.dc 256 .u8 x0.Split.Of) ++ (([.int .i64 x0.Split.Many, .sl false 2 (mA x0.Counts), .sl false 4 (x0.States.map Qb)] : List DC)))) rfl (dk rfl) (Zk (pl := [(0, 259)]) ul107 i107 rfl) (Hs rfl) rfl rfl (sp rfl (Za rfl (dk rfl) i107 rfl (fun aa => (sp rfl (Qt (i := 0) (cells' := ((Q5.oc 256 .u8 x0.Split.Of) ++ (([.d (.int .i64 x0.Split.Many), .d (.sl false 2 (mA x0.Counts)), .d (.sl false 4 (x0.States.map Qb))]:List OC)))) rfl rfl i107 rfl rfl rfl rfl (nb rfl) rfl ?_)))))))))))))))
  refine nL (tN (sR (Qr (oP Xz i26 rfl (oL 1 Vj rfl (sp rfl (OpT.makeFunc (vs := [.pointer (some ⟨aa, 0, none⟩)]) rfl (dk rfl) rfl ?_)))))))
  obtain ⟨af, ac, h⟩ := bind_some h
  refine sp rfl (Q9 (is := [0]) (ph := []) rfl (dk rfl) fu53 rfl rfl (Zm.cons rfl (Zm.cons rfl Zm.nil)) (Pd K (flx0 := false) (bx1c0 := aa) ac) (.cons rfl rfl (.nil)) (fun _ => rfl) (fun ag => (nm (.c (.c (.n))) (oT rfl (aw rfl (nL (tN (T.ret (fd rfl (by cases h; exact ⟨rfl, rfl⟩))))))))))
theorem Qfb (K : Nat) {x0 : Qc} {r : Bool} (h : Wo K x0 = some r) : Zh tp 24 [.agg ((Q5.dc 256 .u8 x0.Split.Of) ++ (([.int .i64 x0.Split.Many, .sl false 2 (mA x0.Counts), .sl false 4 (x0.States.map Qb)] : List DC)))] [] (.bool r) := by
 refine CI 79 fu24 rfl ?_
 unfold Wo at h
 refine sR (Qr (sp rfl (Q8 rfl (dk rfl) rfl (fun b => (aw rfl (nL (tN (T.seq (T.seq (Zy ?_))))))))))
 refine dP rfl (.f rfl) Xz i24 rfl (dW 0 ((Q5.dc 256 .u8 x0.Split.Of) ++ (([.int .i64 x0.Split.Many] : List DC))) rfl (.f rfl) Qj2 i24 rfl ?_)
 obtain ⟨q, y, h⟩ := bind_some h
 refine dH fu52 (Zh.nil (split_Right_T K y)) rfl (.f rfl) rfl (dT rfl (.f rfl) rfl (dV rfl rfl ?_))
 rcases Qg h with ⟨j, h⟩ | ⟨j, h⟩
 refine dO j rfl rfl (dO j rfl rfl (dO j rfl rfl (dO j rfl rfl (dY rfl (.f rfl) j rfl (dV rfl rfl (dO rfl rfl rfl ?_))))))
 refine dO rfl rfl rfl (dO rfl rfl rfl (dO rfl rfl rfl (dY rfl (.f rfl) rfl rfl (dV rfl rfl (dO rfl rfl rfl (dO rfl rfl rfl ?_))))))
 refine dO rfl rfl rfl (dO rfl rfl rfl (dY rfl (.f rfl) rfl rfl (dV rfl rfl (dO rfl rfl rfl (dO rfl rfl rfl (dO rfl rfl rfl ?_))))))
 refine dO rfl rfl rfl (dO rfl rfl rfl (dO rfl rfl rfl (dO rfl rfl rfl (dO rfl rfl rfl (dO rfl rfl rfl (dO rfl rfl rfl ?_))))))
 refine dO rfl rfl rfl (dO rfl rfl rfl (dO rfl rfl rfl (dO rfl rfl rfl (dY rfl (.f rfl) rfl rfl (dF [0,1,3,7,15,31,63,127,255,511,1023,2047,4095,8191,16383,32767,65535,131071,262143,524287,1048575,2097151,4194303,8388607,16777215,33554431,67108863,134217727,268435455,8388607,545259519,1619001343,3766484991,8061452287,16651386879,34359738367,68719476735,137438953471] Qx rfl (by kernel_rfl) (fun u hu => (tN (Ql hu (Qp rfl rfl ?_)))))))))
 refine Ql ?_ (Mx K h)
 exact tq rfl rfl
 refine dP rfl (.n j rfl) Xz i25 rfl (dL 0 rfl (.n j rfl) Qcs rfl (dN x0.Counts (Ye.dc .i64) rfl (.n j rfl) Qcs rfl (dI rfl (.n j rfl) rfl (dZ rfl (.f rfl) j rfl (dV rfl rfl ?_)))))
 rcases Qg h with ⟨m, h⟩ | ⟨m, h⟩
 refine dO m rfl rfl (dO m rfl rfl (dO m rfl rfl (dO m rfl rfl (dY rfl (.f rfl) m rfl (dV rfl rfl (dO rfl rfl rfl ?_))))))
 refine dO rfl rfl rfl (dO rfl rfl rfl (dO rfl rfl rfl (dY rfl (.f rfl) rfl rfl (dV rfl rfl (dO rfl rfl rfl (dO rfl rfl rfl ?_))))))
 refine dO rfl rfl rfl (dO rfl rfl rfl (dO rfl rfl rfl (dO rfl rfl rfl (dO rfl rfl rfl (dO rfl rfl rfl (dO rfl rfl rfl ?_))))))
 refine dO rfl rfl rfl (dO rfl rfl rfl (dO rfl rfl rfl (dO rfl rfl rfl (dO rfl rfl rfl (dY rfl (.f rfl) rfl rfl (dF [0,1,3,7,15,31,63,127,255,511,1023,2047,4095,8191,16383,32767,65535,131071,262143,524287,1048575,2097151,4194303,8388607,16777215,33554431,67108863,134217727,268435455,8388607,545259519,1619001343,3766484991,8061452287,16651386879,34359738367,68719476735,137438953471] Qx rfl (by kernel_rfl) (fun u hu => (tN (Ql hu ?_)))))))))
 refine Qp rfl rfl ?_
 refine Ql ?_ (Mx K h)
 exact tq rfl rfl
 refine dP rfl (.n m rfl) Xz i26 rfl (dL 0 rfl (.n m rfl) Vj rfl (dN x0.States Qb rfl (.n m rfl) Vj rfl (dI rfl (.n m rfl) rfl (dZ rfl (.f rfl) m rfl (dV rfl rfl ?_)))))
 rcases Qg h with ⟨p, h⟩ | ⟨p, h⟩
 refine dO p rfl rfl (dO p rfl rfl (dO p rfl rfl (dO p rfl rfl (dY rfl (.f rfl) p rfl (dV rfl rfl (dO rfl rfl rfl ?_))))))
 refine dO rfl rfl rfl (dO rfl rfl rfl (dO rfl rfl rfl (dO rfl rfl rfl (dO rfl rfl rfl (dO rfl rfl rfl (dO rfl rfl rfl ?_))))))
 refine dO rfl rfl rfl (dO rfl rfl rfl (dO rfl rfl rfl (dO rfl rfl rfl (dO rfl rfl rfl (dO rfl rfl rfl (dY rfl (.f rfl) rfl rfl ?_))))))
 refine dF [0,1,3,7,15,31,63,127,255,511,1023,2047,4095,8191,16383,32767,65535,131071,262143,524287,1048575,2097151,4194303,8388607,16777215,33554431,67108863,134217727,268435455,8388607,545259519,1619001343,3766484991,8061452287,16651386879,34359738367,68719476735,137438953471] Qx rfl (by kernel_rfl) (fun u hu => (tN (Ql hu (Qp rfl rfl ?_))))
 refine Ql ?_ (Mx K h)
 exact tq rfl rfl
 refine dP rfl (.n p rfl) Xz i26 rfl (dL 0 rfl (.n p rfl) Vj rfl (dN x0.States Qb rfl (.n p rfl) Vj rfl (dI rfl (.n p rfl) rfl (dZ rfl (.f rfl) p rfl (dV rfl rfl ?_)))))
 rcases Qg h with ⟨g, h⟩ | ⟨g, h⟩
 refine dO g rfl rfl (dO g rfl rfl (dO g rfl rfl (dO g rfl rfl (dO g rfl rfl (dO g rfl rfl (dO g rfl rfl ?_))))))
 refine dO g rfl rfl (dO g rfl rfl (dO g rfl rfl (dO g rfl rfl (dO g rfl rfl (dO g rfl rfl (dO g rfl rfl ?_))))))
 refine dY rfl (.f rfl) g rfl (dF [0,1,3,7,15,31,63,127,255,511,1023,2047,4095,8191,16383,32767,65535,131071,262143,524287,1048575,2097151,4194303,8388607,16777215,33554431,67108863,134217727,268435455,8388607,545259519,1619001343,3766484991,8061452287,16651386879,34359738367,68719476735,137438953471] Qx rfl (by kernel_rfl) (fun u hu => (tN (Ql hu (Qp rfl rfl ?_)))))
 refine Ql ?_ (Mx K h)
 exact tq rfl rfl
 refine dP rfl (.n g rfl) Xz i26 rfl (dL 0 rfl (.n g rfl) Vj rfl ?_)
 obtain ⟨a, w, h⟩ := bind_some h
 refine dX x0.States Qb rfl (.n g rfl) Vj i51 w rfl (dQ rfl (.n g rfl) V1 i38 rfl (dR rfl (.n g rfl) Zi rfl (dN a.L (cI .i64) rfl (.n g rfl) Zi rfl (dP rfl (.n g rfl) Xz i26 rfl (dL 0 rfl (.n g rfl) Vj rfl (dX x0.States Qb rfl (.n g rfl) Vj i51 w rfl ?_))))))
 refine dQ rfl (.n g rfl) V1 i38 rfl (dR rfl (.n g rfl) Zi rfl (dN a.R (cI .i64) rfl (.n g rfl) Zi rfl (dI rfl (.n g rfl) rfl (dI rfl (.n g rfl) rfl (dZ rfl (.f rfl) g rfl (dF [0,1,3,7,15,31,63,127,255,511,1023,2047,4095,8191,16383,32767,65535,131071,262143,524287,1048575,2097151,4194303,8388607,16777215,33554431,67108863,134217727,268435455,8388607,545259519,1619001343,3766484991,8061452287,16651386879,34359738367,68719476735,137438953471] Qx rfl (by kernel_rfl) (fun u hu => (tN (Ql hu ?_)))))))))
 rcases Qg h with ⟨s, h⟩ | ⟨s, h⟩
 refine Qp rfl s ?_
 refine Ql ?_ (Mx K h)
 exact tq rfl rfl
 refine Qo rfl s (T.skip (tN (T.seq (sR (Qr (oP Xz i25 rfl (oL 0 Qcs rfl (oU x0.Counts (Ye.dc .i64) Qcs rfl ?_))))))))
 refine mw rfl (nL (tN (T.block (T.loop ?_))))
 refine Qf ?_ (Qlz K K x0 (x0.Counts.length : Int) (0:Int) b h)
 exact tq rfl rfl
abbrev slices_Clone__2_int_q (r : List Ye) : ES := Jm tp ff25 (fun y t => y = (.sl false 2 (mA r)) ∧ t = [])
theorem Qel (K : Nat) {x0 : List Ye} {flx0 : Bool} {r : List Ye} (h : Lu K x0 = some r) : Zh tp 25 [.sl flx0 2 (mA x0)] [] (.sl false 2 (mA r)) := by
 refine CI 8 fu25 rfl ?_
 unfold Lu at h
 refine sR (Qr (aw rfl (nL (tN (T.seq (sR (Qr (mw rfl (sp rfl (Ql8 (xs := x0) (f := (Ye.dc .i64)) rfl (dk rfl) Qcs rfl rfl (fun b c => ?_)))))))))))
 refine nL (tN ?_)
 rcases Bool.eq_false_or_eq_true b with a | a
 have hx := c a
 replace h : (some []) = some r := by first | (rw [hx] at h; exact h) | exact h
 refine Qp rfl a (sR (Qr (aw rfl (nL (tN (T.ret (Qs (Yw (F3 2 false 2 rfl) (fd rfl (by cases h; exact ⟨rfl, rfl⟩))))))))))
 refine Qo rfl a (T.skip (tN (sR (Qr (sp rfl (OpT.buildSlice (elems := ([] : List Ye).map (Ye.dc .i64)) rfl (dk rfl) Qcs i59 (by decide) rfl (Hs rfl) rfl rfl rfl (Xh rfl) (by decide) (mw rfl ?_)))))))
 obtain ⟨d, h⟩ := Q6 h
 refine sp rfl (F8 (xs := ([] : List Ye)) (ys := x0) (f := (Ye.dc .i64)) rfl (dk rfl) Qcs i59 rfl rfl rfl (.inr rfl) d (fun g => (aw rfl (nL (tN (T.ret (Yw (Zr.view 2 0 rfl rfl) (fd rfl (by cases h; exact ⟨rfl, rfl⟩)))))))))
abbrev trim_stack_int_pop_q (bx0 : Nat) (r : Int × Bool × Yf) : ES := Jm tp ff34 (fun y t => ∃ γ : Nat → Value, y = (.tup [.int .i64 r.1, .bool r.2.1]) ∧ t = [(Qjx bx0 (γ 0)), .arrX (γ 0) 3 1 0 (mI r.2.2.l)])
theorem Ny (K : Nat) {x0 : Yf} {bx0 : Nat} {wx0c0 : Value} {r : Int × Bool × Yf} (h : Xf K x0 = some r) : U3 tp 34 [.ptr bx0 0] [(Qjx bx0 wx0c0), .arrX wx0c0 3 1 0 (mI x0.l)] (fun γ => (.tup [.int .i64 r.1, .bool r.2.1])) (fun γ => [(Qjx bx0 (γ 0)), .arrX (γ 0) 3 1 0 (mI r.2.2.l)]) := by
 refine CI 38 fu34 rfl ?_
 unfold Xf at h
 refine sR (Qr (aw rfl (aw rfl (nL (tN (T.seq (sR (Qr (mw rfl ?_)))))))))
 refine oK rfl (oP ul74 i38 rfl (oL 0 Zi rfl (sp rfl (Vz (i := 1) (xs := x0.l) (f := (cI .i64)) rfl (dk rfl) Zi rfl rfl (oI rfl (nL (tN ?_)))))))
 rcases Qg h with ⟨g, h⟩ | ⟨g, h⟩
 refine Qp rfl g (sR (Qr (mw rfl (aw rfl (aw rfl (nL (tN (T.ret (Qs ?_)))))))))
 exact Q7 (.cons _ _ _ _ (.tmp 2 _ rfl) (.cons _ _ _ _ (.tmp 3 _ rfl) .nil)) (.cons 0 rfl (.cons 0 rfl (.nil _))) (by cases h; exact ⟨gl [wx0c0], rfl, rfl⟩)
 refine Qo rfl g (T.skip (tN (T.seq (Zy (dV rfl rfl (dK rfl (.f rfl) rfl (dP rfl (.f rfl) ul74 i38 rfl ?_)))))))
 refine dL 0 rfl (.f rfl) Zi rfl (dV rfl rfl (dK rfl (.f rfl) rfl (dP rfl (.f rfl) ul74 i38 rfl (dL 0 rfl (.f rfl) Zi rfl (dS (c := ⟨some 19, .int .i64 (x0.l.length : Int), [(18, .c (.ex wx0c0))], [(1, .arrX wx0c0 3 1 0 (mI x0.l))], []⟩) (fun t hm => oF rfl rfl (Vz (i := 1) (xs := x0.l) (f := (cI .i64)) rfl (dk rfl) Zi hm.s0 hm.o0 rfl)) rfl rfl (dI rfl (.f rfl) rfl ?_))))))
 obtain ⟨b, j, h⟩ := bind_some h
 refine dS (c := ⟨some 21, .el wx0c0 1 (Int.toNat (wI ((x0.l.length : Int) - (1:Int)))) 0, [(14, .c (.ex wx0c0)), (20, .int .i64 (wI ((x0.l.length : Int) - (1:Int))))], [(1, .arrX wx0c0 3 1 0 (mI x0.l))], []⟩) (fun t hm => oF rfl rfl (Zc (n := 1) (xs := x0.l) (f := (cI .i64)) (old := b) rfl (dk rfl) Zi i3 hm.s0 hm.o0 hm.s1 j rfl)) rfl rfl (dS (c := ⟨some 22, .int .i64 b, [(21, .el wx0c0 1 (Int.toNat (wI ((x0.l.length : Int) - (1:Int)))) 0)], [(1, .arrX wx0c0 3 1 0 (mI x0.l))], []⟩) (fun t hm => oF rfl rfl (X1 (i := 1) (xs := x0.l) (f := (cI .i64)) (old := b) rfl (dk rfl) ul3 rfl hm.s0 hm.o0 (Zd j).2 rfl rfl)) rfl rfl (dA rfl (.f rfl) rfl (dF [0,1,3,7,0,16,48,112,240,496,1023,2047,4095] Qx rfl (by kernel_rfl) (fun u hu => (tN (Ql hu (T.seq (Ur (gM rfl (fun _ => .f rfl) (fun _ => rfl) ?_)))))))))
 refine gM rfl (fun _ => .f rfl) (fun _ => rfl) (gK rfl (fun _ => .f rfl) (fun _ => rfl) (gP rfl (fun _ => .f rfl) ul74 i38 (fun _ => rfl) (gL 0 rfl (fun _ => .f rfl) Zi (fun _ => rfl) (gM rfl (fun _ => .f rfl) (fun _ => rfl) (gK rfl (fun _ => .f rfl) (fun _ => rfl) (gP rfl (fun _ => .f rfl) ul74 i38 (fun _ => rfl) ?_))))))
 refine gL 0 rfl (fun _ => .f rfl) Zi (fun _ => rfl) (dC (c := ⟨some 32, .int .i64 (x0.l.length : Int), [(31, .c (.ex wx0c0))], [(1, .arrX wx0c0 3 1 0 (mI x0.l))], []⟩) (fun t hm => oF rfl rfl (Vz (i := 1) (xs := x0.l) (f := (cI .i64)) rfl (dk rfl) Zi hm.s0 hm.o0 ⟨u0, rfl⟩)) (fun _ => rfl) (fun _ => rfl) (gI rfl (fun _ => .f rfl) (fun _ => rfl) ?_))
 obtain ⟨m, h⟩ := Q6 h
 refine DGG.step (c := fun a => ⟨some 34, .c (.ex ((a 11).1 0)), [(27, .c (.ex wx0c0)), (33, .int .i64 (wI ((x0.l.length : Int) - (1:Int))))], [(1, .arrX wx0c0 3 1 0 (mI x0.l))], [(1, .arrX ((a 11).1 0) 3 1 0 ((x0.l.take (Int.toNat (wI ((x0.l.length : Int) - (1:Int))))).map (cI .i64)))]⟩) [11] (fun a γ' h => by simp only [h 11 (by decide)]) (fun a t hm => oF rfl rfl (OpT.sliceX (i := 1) (xs := x0.l) (f := (cI .i64)) (h := (Int.toNat (wI ((x0.l.length : Int) - (1:Int))))) rfl (dk rfl) Zi i3 hm.s0 hm.o0 (.some _ _ _ _ hm.s1 m.1) m.2 (fun w => ⟨(fun _ => w, 0), rfl⟩))) (fun a => Zg rfl rfl) (gK rfl (fun _ => .f rfl) (fun _ => rfl) (gP rfl (fun _ => .f rfl) ul74 i38 (fun _ => rfl) (DGG.step (c := fun a => ⟨none, .any, [(36, .ptr bx0 (0 + 0)), (34, .c (.ex ((a 11).1 0)))], [(0, (Qjx bx0 wx0c0))], [(0, (Qjx bx0 ((a 11).1 0)))]⟩) [11] (fun a γ' h => by simp only [h 11 (by decide)]) (fun a t hm => oF rfl rfl (Wf (i := 0) (cells' := [.d (.ex ((a 11).1 0))]) rfl rfl i38 hm.s0 hm.s1 hm.o0 (nb rfl) rfl ⟨u0, rfl⟩)) (fun a => Zg rfl rfl) (gF [0,0,2,6,14,0,32,96,224,480,992,2046,4095,8191,16383] Qx rfl (by kernel_rfl) (fun _ => by kernel_rfl) (fun a u hu => (tN (Ql hu (sR (Qr (mw rfl ?_))))))))))
 refine aw rfl (aw rfl (nL (tN (T.ret (Q7 (.cons _ _ _ _ (.tmp 2 _ rfl) (.cons _ _ _ _ (.tmp 3 _ rfl) .nil)) (.cons 0 rfl (.cons 0 rfl (.nil _))) (by cases h; exact ⟨gl [(a 11).1 0], rfl, rfl⟩))))))
abbrev trim_stack_int_push_q (bx0 : Nat) (r : Yf) : ES := Jm tp ff32 (fun y t => ∃ γ : Nat → Value, y = (.tup []) ∧ t = [(Qjx bx0 (γ 0)), .arrX (γ 0) 3 1 0 (mI r.l)])
theorem Ib (K : Nat) {x0 : Yf} {x1 : List Int} {bx0 : Nat} {wx0c0 : Value} {flx1 : Bool} {r : Yf} (h : Je K x0 x1 = some r) : U3 tp 32 [.ptr bx0 0, .sl flx1 1 (mI x1)] [(Qjx bx0 wx0c0), .arrX wx0c0 3 1 0 (mI x0.l)] (fun γ => (.tup [])) (fun γ => [(Qjx bx0 (γ 0)), .arrX (γ 0) 3 1 0 (mI r.l)]) := by
 refine CI 13 fu32 rfl ?_
 unfold Je at h
 refine Qr (mw rfl (mw rfl (oK rfl (oP ul74 i38 rfl (oL 0 Zi rfl (mw rfl ?_))))))
 obtain ⟨b, h⟩ := Q6 h
 refine sp rfl (Hv (i := 1) (xs := x0.l) (ys := x1) (f := (cI .i64)) rfl (dk rfl) Zi i3 rfl rfl rfl rfl b (fun a => (oK rfl (oP ul74 i38 rfl (sp rfl (Wf (i := 0) (cells' := [.d (.ex a)]) rfl rfl i38 rfl rfl rfl (nb rfl) rfl (nL (Q7 (.nil) (.cons 0 rfl (.cons 0 rfl (.nil _))) (by cases h; exact ⟨gl [a], rfl, rfl⟩)))))))))
abbrev Qkj (r : Int) : ES := Jm tp ff31 (fun y t => y = (.int .i64 r) ∧ t = [])
abbrev Qeh (r : Int) : ES := fT 25 [1,1,1,1] ff31 (Qkj r)
abbrev Qbb (r : Int) : ES := Qv 0 ((Qeh r))
theorem Qgu {r : Int} (K : Nat) : ∀ (k : Nat), ∀ (x0 : List Int) (a b : Int) (flx0 : Bool), Jf K k x0 a b = some r → TL tp 25 (ca [1,1,1,0,1,0,0] ff31) ⟨[(0, .sl flx0 1 (mI x0)), (3, .int .i64 a), (4, .int .i64 b)], []⟩ (Qbb r) := by
 intro k
 induction k with
 | zero =>
  intro x0 a b flx0 h
  exact zn h
 | succ k ih =>
  intro x0 a b flx0 h
  rw [Jf] at h
  refine Q0 (T.seq (sR (Qr (mw rfl (mw rfl (oU x0 (cI .i64) Zi rfl (oI rfl ?_)))))))
  refine nL (tN ?_)
  rcases Qg h with ⟨c, h⟩ | ⟨c, h⟩
  refine Qp rfl c (T.skip (tN (T.seq (T.block (Qr ?_)))))
  iterate 3 refine mw rfl ?_
  obtain ⟨d, g, h⟩ := bind_some h
  refine oX x0 (cI .i64) Zi i3 g rfl (oR ul3 rfl (sp rfl (OpT.max2 rfl (dk rfl) rfl rfl (aw rfl (nL (Qk (tN (Qr (mw rfl ?_)))))))))
  refine oI rfl (aw rfl (nL (tN ?_)))
  refine Qf ?_ (ih x0 (if d > a then d else a) (wI (b + (1:Int))) flx0 h)
  exact tq rfl rfl
  refine Qo rfl c (T.exit (Qj (Qj (Qq (tN (sR (Qr (mw rfl (aw rfl (nL (tN (T.ret ?_))))))))))))
  exact fd rfl (by cases h; exact ⟨rfl, rfl⟩)
theorem Qkk (K : Nat) {x0 : List Int} {flx0 : Bool} {r : Int} (h : B9 K x0 = some r) : Zh tp 31 [.sl flx0 1 (mI x0)] [] (.int .i64 r) := by
 refine CI 25 fu31 rfl ?_
 unfold B9 at h
 refine sR (Qr (aw rfl (nL (tN (T.seq (sR (Qr (mw rfl (oU x0 (cI .i64) Zi rfl ?_)))))))))
 refine oI rfl (nL (tN ?_))
 rcases Qg h with ⟨a, h⟩ | ⟨a, h⟩
 refine Qp rfl a (Qr ?_)
 cases h
 refine Qo rfl a (T.skip (tN (sR (Qr (mw rfl ?_)))))
 obtain ⟨b, c, h⟩ := bind_some h
 refine oX x0 (cI .i64) Zi i3 c rfl (oR ul3 rfl (aw rfl (nL (tN (T.seq (sR (Qr (aw rfl ?_))))))))
 refine nL (tN (T.block (T.loop ?_)))
 refine Qf ?_ (Qgu K K x0 b (1:Int) flx0 h)
 exact tq rfl rfl
abbrev slices_Grow_Move_q (r : List Qd) : ES := Jm tp ff97 (fun y t => ∃ γ : Nat → Value, y = (.c (.ex (γ 0))) ∧ t = [.arrA (γ 0) 54 2 (r.map Qh)])
theorem Qih (K : Nat) {x1 : Int} {r : List Qd} (h : Kf K x1 = some r) : U3 tp 97 [.c (.ex (.slice none 0 0)), .int .i64 x1] [] (fun γ => (.c (.ex (γ 0)))) (fun γ => [.arrA (γ 0) 54 2 (r.map Qh)]) := by
 refine CI 27 fu97 rfl ?_
 unfold Kf at h
 refine sR (Qr (aw rfl (nL (tN (T.seq (sR (Qr (mw rfl (oI rfl ?_)))))))))
 refine nL (tN ?_)
 rcases Qg h with ⟨a, h⟩ | ⟨a, h⟩
 refine Qp rfl a (Qr ?_)
 cases h
 refine Qo rfl a (T.skip (tN (T.seq (sR (Qr (mw rfl (mw rfl (sp rfl (OpT.capNil rfl (dk rfl) Ma rfl ?_)))))))))
 refine mw rfl (sp rfl (Ql6 rfl (dk rfl) Ma rfl (oI rfl (oI rfl (aw rfl (nL (tN (sR (Qr (mw rfl ?_))))))))))
 refine oI rfl (nL (tN ?_))
 rcases Qg h with ⟨b, h⟩ | ⟨b, h⟩
 refine Qp rfl b (Qr (mw rfl (mw rfl (sp rfl (OpT.capNil rfl (dk rfl) Ma rfl (sp rfl (OpT.sliceNil rfl (dk rfl) Ma i54 rfl (.none _) (.some _ _ 0 _ rfl (by decide)) (mw rfl ?_))))))))
 obtain ⟨g, h⟩ := Q6 h
 obtain ⟨j, h⟩ := Q6 h
 refine sp rfl (Qkx (f := Qh) (zv := ((Qd.mk (0:Int) []) : Qd)) rfl (dk rfl) Ma ul3 i54 (by decide) rfl rfl (fun _ => .cons (.same _) (.cons (.nil _ _) (.refl _))) rfl rfl rfl g j (fun m => (mw rfl (sp rfl (Ql6 rfl (dk rfl) Ma rfl ?_)))))
 obtain ⟨d, h⟩ := Q6 h
 refine sp rfl (OpT.sliceX (i := 0) (xs := (List.replicate (Int.toNat (wI (x1 - (wI ((0:Int) - (0:Int)))))) ((Qd.mk (0:Int) []) : Qd))) (f := Qh) (h := (Int.toNat (0:Int))) rfl (dk rfl) Ma i54 rfl rfl (.some _ _ _ _ rfl d.1) d.2 (fun l => (aw rfl (nL (tN (sR (Qr (mw rfl (aw rfl (nL (tN (T.ret ?_))))))))))))
 refine Yw (Uf 0 rfl) (Q7 (.cons _ _ _ _ (.tmp 4 _ rfl) .nil) (.cons 0 rfl (.nil _)) (by cases h; exact ⟨gl [l], rfl, rfl⟩))
 refine Qo rfl b (T.skip (tN (sR (Qr (mw rfl (aw rfl (nL (tN (T.ret ?_)))))))))
 refine Yw (Xd 54 2) (Q7 (.cons _ _ _ _ (.tmp 4 _ rfl) .nil) (.cons 0 rfl (.nil _)) (by cases h; exact ⟨gl [Qd7 4], rfl, rfl⟩))
abbrev N0 (r : List Qd) : ES := Jm tp ff58 (fun y t => ∃ γ : Nat → Value, y = (.c (.ex (γ 0))) ∧ t = [.arrA (γ 0) 54 2 (r.map Qh)])
abbrev Rn (r : List Qd) : ES := fT 36 [1,1,1,1,1] ff58 (N0 r)
abbrev N7 (r : List Qd) : ES := Qv 2 ((Rn r))
abbrev T8 (r : List Qd) : ES := fT 36 [1,1,1] ff58 (N0 r)
abbrev Ro (r : List Qd) : ES := Qv 0 ((T8 r))
theorem Qbf {r : List Qd} (K : Nat) : ∀ (k : Nat), ∀ (x0 : List (List Qd)) (b d : Int) (a : List Qd) (flx0 : Bool) (g : Value), X3 K k x0 b d a = some r → TL tp 36 (ca [1,1,1,1,0,1,0,0] ff58) ⟨[(6, .c (.ex g)), (25, .sl flx0 1 (x0.map (cL 2 Qh))), (26, .int .i64 b), (27, .int .i64 d)], [.arrA g 54 2 (a.map Qh)]⟩ (N7 r) := by
 intro k
 induction k with
 | zero =>
  intro x0 b d a flx0 g h
  exact zn h
 | succ k ih =>
  intro x0 b d a flx0 g h
  rw [X3] at h
  refine Q0 (sR (Qr (oI rfl (nL (tN (T.seq ?_))))))
  rcases Qg h with ⟨j, h⟩ | ⟨j, h⟩
  refine Qp rfl j (T.skip (tN (T.seq (T.block (sR (Qr ?_))))))
  obtain ⟨l, m, h⟩ := bind_some h
  refine oX x0 (cL 2 Qh) Lk i55 m rfl (oR Ma rfl (aw rfl (nL (tN (Qr (mw rfl (mw rfl ?_)))))))
  obtain ⟨p, h⟩ := Q6 h
  refine sp rfl (Zp (i := 0) (xs := a) (ys := l) (f := Qh) rfl (dk rfl) Ma i54 rfl rfl rfl rfl p (fun q => (aw rfl (nL (Qk (tN (Qr (oI rfl (mw rfl (nL (tN ?_)))))))))))
  refine Qf ?_ (ih x0 b (wI (d + (1:Int))) (a ++ l) flx0 q h)
  exact tq rfl rfl
  refine Qo rfl j (T.exit (Qj (Qj (Qq (tN (sR (Qr (mw rfl (aw rfl (nL (tN (T.ret ?_))))))))))))
  exact Q7 (.cons _ _ _ _ (.tmp 2 _ rfl) .nil) (.cons 0 rfl (.nil _)) (by cases h; exact ⟨gl [g], rfl, rfl⟩)
theorem Qbg {r : List Qd} (K : Nat) : ∀ (k : Nat), ∀ (x0 : List (List Qd)) (a b d : Int) (flx0 : Bool), Xg K k x0 a b d = some r → TL tp 36 (ca [1,1,0,1,0,0] ff58) ⟨[(0, .sl flx0 1 (x0.map (cL 2 Qh))), (3, .int .i64 a), (9, .sl flx0 1 (x0.map (cL 2 Qh))), (10, .int .i64 b), (11, .int .i64 d)], []⟩ (Ro r) := by
 intro k
 induction k with
 | zero =>
  intro x0 a b d flx0 h
  exact zn h
 | succ k ih =>
  intro x0 a b d flx0 h
  rw [Xg] at h
  refine Q0 (sR (Qr (oI rfl (nL (tN (T.seq ?_))))))
  rcases Qg h with ⟨g, h⟩ | ⟨g, h⟩
  refine Qp rfl g (T.skip (tN (T.seq (T.block (sR (Qr ?_))))))
  obtain ⟨i, l, h⟩ := bind_some h
  refine oX x0 (cL 2 Qh) Lk i55 l rfl (oR Ma rfl (aw rfl (nL (tN (sR (Qr (mw rfl (mw rfl (oU i Qh Ma rfl ?_)))))))))
  refine oI rfl (aw rfl (nL (tN (sR (Qr (mw rfl (oI rfl (nL (tN ?_)))))))))
  rcases Qg h with ⟨j, h⟩ | ⟨j, h⟩
  refine Qp rfl j (Qr ?_)
  cases h
  refine Qo rfl j (T.skip (Qk (tN (Qr (oI rfl (mw rfl (nL (tN ?_))))))))
  refine Qf ?_ (ih x0 (wI (a + (i.length : Int))) b (wI (d + (1:Int))) flx0 h)
  exact tq rfl rfl
  refine Qo rfl g (T.exit (Qj (Qj (Qq (tN (sR (Qr (mw rfl (Uh Zu ?_)))))))))
  obtain ⟨m, p, h⟩ := bind_some h
  refine sp rfl (Q9 (is := [0]) (ph := [.ro 0 []]) rfl (dk rfl) fu97 rfl rfl (Zm.cons rfl (Zm.cons rfl Zm.nil)) (Qih K p) (.cons rfl rfl (.nil)) (fun _ => rfl) (fun q => (nm (.c (.n)) (aw rfl (nL (tN (T.seq (sR (Qr (mw rfl ?_))))))))))
  refine oU x0 (cL 2 Qh) Lk rfl (mw rfl (nL (tN (T.block (T.loop ?_)))))
  refine Qf ?_ (Qbf K K x0 (x0.length : Int) (0:Int) m flx0 (q 0) h)
  exact tq rfl rfl
theorem Qft (K : Nat) {x0 : List (List Qd)} {flx0 : Bool} {r : List Qd} (h : K4 K x0 = some r) : U3 tp 58 [.sl flx0 1 (x0.map (cL 2 Qh))] [] (fun γ => (.c (.ex (γ 0)))) (fun γ => [.arrA (γ 0) 54 2 (r.map Qh)]) := by
 refine CI 36 fu58 rfl ?_
 unfold K4 at h
 refine sR (Qr (aw rfl (nL (tN (sR (Qr (aw rfl (nL (tN (T.seq (sR (Qr ?_))))))))))))
 refine mw rfl (oU x0 (cL 2 Qh) Lk rfl (mw rfl (nL (tN (T.block (T.loop ?_))))))
 refine Qf ?_ (Qbg K K x0 (0:Int) (x0.length : Int) (0:Int) flx0 h)
 exact tq rfl rfl
abbrev trim_moves_q (r : List Qd) : ES := Jm tp ff33 (fun y t => y = (.sl false 2 (r.map Qh)) ∧ t = [])
theorem Qee (K : Nat) {x0 : Qa} {r : List Qd} (h : Ff K x0 = some r) : Zh tp 33 [.agg [.sl false 1 (mI x0.L), .sl false 1 (mI x0.R), .sl false 1 (mI x0.Rule), .sl false 1 (x0.Next.map (cL 2 Qh))]] [] (.sl false 2 (r.map Qh)) := by
 refine CI 6 fu33 rfl ?_
 unfold Ff at h
 refine sR (Qr (sp rfl (Q8 rfl (dk rfl) rfl (fun b => (aw rfl (nL (tN (sR (Qr (oP V1 i49 rfl (oL 0 Lk rfl (Uh Zu ?_))))))))))))
 obtain ⟨d, a, h⟩ := bind_some h
 refine sp rfl (Q9 (is := [0]) (ph := [.ro 0 []]) rfl (dk rfl) fu58 rfl rfl (Zm.cons rfl Zm.nil) (Qft K (flx0 := false) a) (.cons rfl rfl (.nil)) (fun _ => rfl) (fun f => (nm (.c (.c (.n))) (aw rfl (nL (tN (T.ret (Yw (Zr.view 2 0 rfl rfl) (fd rfl (by cases h; exact ⟨rfl, rfl⟩))))))))))
end Go.Rv

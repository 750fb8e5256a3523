/- Each function computes what its plain text says: printed by a program of ours. -/
import Derived.Test.YtcmfaclkgdmpbaaGreatDoorRgW0
namespace Go.Rv
open Go.Proofs
set_option maxRecDepth 100000
set_option maxHeartbeats 4000000
set_option linter.unusedVariables false
abbrev Qga (r : Ql) : ES := J9 tp Tryz.f9 (fun y t => y = (.agg ((Zi.dc 256 .u8 r.Split.Of) ++ (([.int .i64 r.Split.Many, .sl false 2 (mA r.Counts), .sl false 4 (r.States.map Qb)] : List DC)))) ∧ t = [])
theorem Qgb (K : Nat) {x0 r : Ql} (h : Mf K x0 = some r) : Zm tp 9 [.agg ((Zi.dc 256 .u8 x0.Split.Of) ++ (([.int .i64 x0.Split.Many, .sl false 2 (mA x0.Counts), .sl false 4 (x0.States.map Qb)] : List DC)))] [] (.agg ((Zi.dc 256 .u8 r.Split.Of) ++ (([.int .i64 r.Split.Many, .sl false 2 (mA r.Counts), .sl false 4 (r.States.map Qb)] : List DC)))) := by
 refine Qt Tryz.func9 rfl (nb rfl) ?_
 show T tp 9 (ca [] Tryz.f9) ⟨Qw 0 [.agg ((Zi.dc 256 .u8 x0.Split.Of) ++ (([.int .i64 x0.Split.Many, .sl false 2 (mA x0.Counts), .sl false 4 (x0.States.map Qb)] : List DC)))], []⟩ (Qga r)
 unfold Mf at h
 refine T.seq (Qr ?_)
 refine sp rfl (Zb rfl (dk rfl) rfl (fun b => ?_))
 refine sp rfl (Zh rfl (dk rfl) i28 rfl (fun c => ?_))
 refine TL'.nil (tN ?_)
 refine T.seq ?_
 refine T.seq (Qr ?_)
 refine oP Uv i26 rfl ?_
 refine oL 1 Us rfl ?_
 refine oU x0.States Qb Us rfl ?_
 refine oI rfl ?_
 refine TL'.nil (tN ?_)
 rcases Qd h with ⟨a, h⟩ | ⟨a, h⟩
 refine Qq rfl a ?_
 refine T.seq (Qr ?_)
 refine sp rfl (OpT.build (l := ((Zi.dc 256 .u8 (Zi.mk fun _ => 0)) ++ (([.int .i64 (0:Int), .ex (.slice none 0 0), .ex (.slice none 0 0)] : List DC)))) rfl (dk rfl) (Zv (pl := [(0, 257), (257, 1), (258, 1)]) Uv i28 rfl) (M1 rfl) rfl rfl ?_)
 refine sp rfl (Qy (i := 0) (cells' := ((Zi.oc 256 .u8 (Zi.mk fun _ => 0)) ++ (([.d (.int .i64 (0:Int)), .d (.ex (.slice none 0 0)), .d (.ex (.slice none 0 0))]:List OC)))) rfl rfl i28 rfl rfl rfl rfl (nb rfl) rfl ?_)
 refine TL'.nil (tN ?_)
 refine T.ret (Qv ?_)
 refine X7 (Lq 0 (l := ((Zi.dc 256 .u8 (Zi.mk fun _ => 0)) ++ (([.int .i64 (0:Int), .ex (.slice none 0 0), .ex (.slice none 0 0)] : List DC)))) (l' := ((Zi.dc 256 .u8 (Zi.mk fun _ => 0)) ++ (([.int .i64 (0:Int), .sl false 2 (([] : List Vr).map (Vr.dc .i64)), .sl false 4 (([] : List Qa).map Qb)] : List DC)))) rfl (.app _ (.cons (.same _) (.cons (.nil _ _) (.cons (.nil _ _) (.refl _)))))) ?_
 exact Fin.done (.cons _ _ _ _ (.cellAgg 2 28 _ 0 0 28 _ ((Zi.dc 256 .u8 (Zi.mk fun _ => 0)) ++ (([.int .i64 (0:Int), .sl false 2 (([] : List Vr).map (Vr.dc .i64)), .sl false 4 (([] : List Qa).map Qb)] : List DC))) _ _ 259 _ rfl rfl rfl rfl Uv rfl i28) .nil) (by cases h; exact ⟨rfl, rfl⟩)
 refine Qp rfl a ?_
 refine T.skip (tN ?_)
 refine T.seq (Qr ?_)
 refine oA 1 ((Zi.dc 256 .u8 x0.Split.Of) ++ (([.int .i64 x0.Split.Many, .sl false 2 (mA x0.Counts), .sl false 4 (x0.States.map Qb)] : List DC))) Uv i28 rfl ?_
 refine sp rfl (Qy (i := 0) (cells' := ((Zi.oc 256 .u8 x0.Split.Of) ++ (([.d (.int .i64 x0.Split.Many), .d (.sl false 2 (mA x0.Counts)), .d (.sl false 4 (x0.States.map Qb))]:List OC)))) rfl rfl i28 rfl rfl rfl rfl (nb rfl) rfl ?_)
 refine TL'.nil (tN ?_)
 refine T.ret ?_
 exact Fin.done (.cons _ _ _ _ (.cellAgg 2 28 _ 0 0 28 _ ((Zi.dc 256 .u8 x0.Split.Of) ++ (([.int .i64 x0.Split.Many, .sl false 2 (mA x0.Counts), .sl false 4 (x0.States.map Qb)] : List DC))) _ _ 259 _ rfl rfl rfl rfl Uv rfl i28) .nil) (by cases h; exact ⟨rfl, rfl⟩)
abbrev Sz (r : Bool) : ES := J9 tp Tryz.f52 (fun y t => y = (.bool r) ∧ t = [])
abbrev Qf3 (r : Bool) : ES := thenS (fun s' => T tp 28 (ca [1,1,1] Tryz.f52) s' ((Sz r))) ((Sz r))
abbrev Qdr (r : Bool) : ES := Qz 0 ((Qf3 r))
theorem Qg5 {r : Bool} (K : Nat) : ∀ (k : Nat), ∀ (b : Int) (x0 : Q9) (f : Int) (g : Nat), Wg K k b x0 f = some r → TL tp 28 (ca [1,1,0,1,0,0] Tryz.f52) ⟨[(1, .ptr g 0), (3, .int .i64 b), (7, .agg (Zi.dc 256 .u8 x0.Of)), (8, .int .i64 f)], [(Qhd g x0.Of x0.Many)]⟩ (Qdr r) := by
 intro k
 induction k with
 | zero =>
  intro b x0 f g h
  exact zn h
 | succ k ih =>
  intro b x0 f g h
  rw [Wg] at h
  refine Q6 ?_
  refine T.seq (Qr ?_)
  refine oI rfl ?_
  refine TL'.nil (tN ?_)
  refine T.seq ?_
  rcases Qd h with ⟨l, h⟩ | ⟨l, h⟩
  refine Qq rfl l ?_
  refine T.skip (tN ?_)
  refine T.seq ?_
  refine T.block ?_
  refine T.seq (Qr ?_)
  obtain ⟨j, h⟩ := Zf h
  refine sp rfl (OpT.indexArr rfl (dk rfl) ul22 ul5 rfl i5 rfl rfl j.1 j.2 (Zi.dc_get (n := 256) (a := x0.Of) (k := .u8) j.1 j.2) ?_)
  refine aw rfl ?_
  refine TL'.nil (tN ?_)
  refine T.block ?_
  refine T.seq (Qr ?_)
  refine mw rfl ?_
  refine sp rfl (V0 rfl (dk rfl) ul5 ul3 rfl ?_)
  refine mw rfl ?_
  refine oI rfl ?_
  refine aw rfl ?_
  refine TL'.nil (tN ?_)
  rcases Qd h with ⟨m, h⟩ | ⟨m, h⟩
  refine Qq rfl m ?_
  refine T.seq (Qr ?_)
  refine aw rfl ?_
  refine TL'.nil (tN ?_)
  refine T.ret (Q2 (Q2 (Qv (Qv (Q2 (Qv ?_))))))
  exact fd rfl (by cases h; exact ⟨rfl, rfl⟩)
  refine Qp rfl m ?_
  refine T.seq (Qr ?_)
  refine mw rfl ?_
  refine sp rfl (V0 rfl (dk rfl) ul5 ul3 rfl ?_)
  refine mw rfl ?_
  refine oI rfl ?_
  refine aw rfl ?_
  refine TL'.nil (tN ?_)
  rcases Qd h with ⟨p, h⟩ | ⟨p, h⟩
  refine Qq rfl p ?_
  refine Qr ?_
  refine mw rfl ?_
  refine oI rfl ?_
  refine aw rfl ?_
  refine TL'.nil (Qn (Qn (tN ?_)))
  refine Qr ?_
  refine oI rfl ?_
  refine mw rfl ?_
  refine TL'.nil (tN ?_)
  refine Qh ?_ (ih (wI (b + (1:Int))) x0 (wI (f + (1:Int))) g h)
  exact tq rfl rfl
  refine Qp rfl p ?_
  refine T.skip (Qn (Qn (tN ?_)))
  refine Qr ?_
  refine oI rfl ?_
  refine mw rfl ?_
  refine TL'.nil (tN ?_)
  refine Qh ?_ (ih b x0 (wI (f + (1:Int))) g h)
  exact tq rfl rfl
  refine Qp rfl l ?_
  refine T.exit (Qj (Qj (Qs (tN ?_))))
  refine T.seq (Qr ?_)
  refine mw rfl ?_
  refine oP Qhi i3 rfl ?_
  refine oL 0 ul3 rfl ?_
  refine oI rfl ?_
  refine aw rfl ?_
  refine TL'.nil (tN ?_)
  refine T.ret ?_
  exact fd rfl (by cases h; exact ⟨rfl, rfl⟩)
theorem split_Right_T (K : Nat) {x0 : Q9} {r : Bool} (h : Nu K x0 = some r) : Zm tp 52 [.agg ((Zi.dc 256 .u8 x0.Of) ++ (([.int .i64 x0.Many] : List DC)))] [] (.bool r) := by
 refine Qt Tryz.func52 rfl (nb rfl) ?_
 show T tp 28 (ca [] Tryz.f52) ⟨Qw 0 [.agg ((Zi.dc 256 .u8 x0.Of) ++ (([.int .i64 x0.Many] : List DC)))], []⟩ (Sz r)
 unfold Nu at h
 refine T.seq (Qr ?_)
 refine sp rfl (Zb rfl (dk rfl) rfl (fun a => ?_))
 refine aw rfl ?_
 refine TL'.nil (tN (T.seq (Qr ?_)))
 refine aw rfl ?_
 refine TL'.nil (tN ?_)
 refine T.seq ?_
 refine T.seq (Qr ?_)
 refine oP Qhi i22 rfl ?_
 refine oA 0 (Zi.dc 256 .u8 x0.Of) ul22 i22 rfl ?_
 refine mw rfl ?_
 refine TL'.nil (tN ?_)
 refine T.block ?_
 refine T.loop ?_
 refine Qh ?_ (Qg5 K K (0:Int) x0 (0:Int) a h)
 exact tq rfl rfl
abbrev Fm (r : Int) : ES := J9 tp Tryz.f89 (fun y t => y = (.int .i64 r) ∧ t = [])
abbrev Qia (r : Int) : ES := thenS (fun s' => T tp 17 (ca [1,1] Tryz.f89) s' ((Fm r))) ((Fm r))
abbrev Qgo (r : Int) : ES := thenS (fun s' => T tp 17 (ca [1,1,1,1] Tryz.f89) s' ((Fm r))) ((Fm r))
abbrev Qep (r : Int) : ES := Qz 0 ((Qgo r))
theorem Qcl {r : Int} (K : Nat) (h : D0 K = some r) : T tp 17 (ca [1,0,1,0] Tryz.f89) ⟨[], []⟩ (Qia r) := by
 unfold D0 at h
 refine T.seq (Qr ?_)
 refine aw rfl ?_
 refine TL'.nil (tN ?_)
 refine T.ret (Qv ?_)
 exact fd rfl (by cases h; exact ⟨rfl, rfl⟩)
theorem Qib {r : Int} (K : Nat) : ∀ (k : Nat), ∀ (a x0 b : Int), Dz K k a x0 b = some r → TL tp 17 (ca [1,1,1,0,1,0,0] Tryz.f89) ⟨[(3, .int .i64 a), (10, .int .i64 x0), (11, .int .i64 b)], []⟩ (Qep r) := by
 intro k
 induction k with
 | zero =>
  intro a x0 b h
  exact zn h
 | succ k ih =>
  intro a x0 b h
  rw [Dz] at h
  refine Q6 ?_
  refine T.seq (Qr ?_)
  refine oI rfl ?_
  refine TL'.nil (tN ?_)
  refine T.seq ?_
  rcases Qd h with ⟨c, h⟩ | ⟨c, h⟩
  refine Qq rfl c ?_
  refine T.skip (tN ?_)
  refine T.seq ?_
  refine T.block ?_
  refine Qr ?_
  refine mw rfl ?_
  refine oI rfl ?_
  refine aw rfl ?_
  refine TL'.nil (Qn (tN ?_))
  refine Qr ?_
  refine oI rfl ?_
  refine mw rfl ?_
  refine TL'.nil (tN ?_)
  refine Qh ?_ (ih (wI (a * (3:Int))) x0 (wI (b + (1:Int))) h)
  exact tq rfl rfl
  refine Qp rfl c ?_
  refine T.exit (Qj (Qj (Qs (tN ?_))))
  refine T.seq (Qr ?_)
  refine mw rfl ?_
  refine aw rfl ?_
  refine TL'.nil (tN ?_)
  refine T.ret ?_
  exact fd rfl (by cases h; exact ⟨rfl, rfl⟩)
theorem auto_Codes_T (K : Nat) {x0 r : Int} (h : Nn K x0 = some r) : Zm tp 89 [.int .i64 x0] [] (.int .i64 r) := by
 refine Qt Tryz.func89 rfl (nb rfl) ?_
 show T tp 17 (ca [] Tryz.f89) ⟨Qw 0 [.int .i64 x0], []⟩ (Fm r)
 unfold Nn at h
 refine T.seq (Qr ?_)
 refine aw rfl ?_
 refine TL'.nil (tN ?_)
 refine T.seq ?_
 refine T.seq (Qr ?_)
 refine mw rfl ?_
 refine oI rfl ?_
 refine mw rfl ?_
 rcases Qd h with ⟨a, h⟩ | ⟨a, h⟩
 refine pf rfl a ?_
 refine pf rfl a ?_
 refine oY a rfl ?_
 refine TL'.nil (tN ?_)
 refine Qq rfl rfl ?_
 refine Qm ?_ (Qcl K h)
 exact tq rfl rfl
 refine sn rfl a (OpT.move rfl (dk rfl) rfl ?_)
 refine sn rfl a (Zj rfl rfl (dk rfl) rfl rfl ?_)
 refine oZ a rfl ?_
 refine TL'.nil (tN ?_)
 rcases Qd h with ⟨b, h⟩ | ⟨b, h⟩
 refine Qq rfl b ?_
 refine Qm ?_ (Qcl K h)
 exact tq rfl rfl
 refine Qp rfl b ?_
 refine T.skip (tN ?_)
 refine T.seq (Qr ?_)
 refine aw rfl ?_
 refine TL'.nil (tN ?_)
 refine T.seq ?_
 refine T.seq (Qr ?_)
 refine mw rfl ?_
 refine mw rfl ?_
 refine TL'.nil (tN ?_)
 refine T.block ?_
 refine T.loop ?_
 refine Qh ?_ (Qib K K (1:Int) x0 (0:Int) h)
 exact tq rfl rfl
abbrev Qci (r : Bool) : ES := J9 tp Tryz.f90 (fun y t => y = (.bool r) ∧ t = [])
abbrev Qhe (r : Bool) : ES := thenS (fun s' => T tp 24 (ca [1,1,1] Tryz.f90) s' ((Qci r))) ((Qci r))
abbrev Dv (r : Bool) : ES := Qz 0 ((Qhe r))
abbrev Ps (r : Bool) : ES := thenS (fun s' => TL tp 24 (ca [1,1,0,1,0,0] Tryz.f90) s' ((Dv r))) ((Dv r))
abbrev Qbh (r : Bool) : ES := thenS (fun s' => T tp 24 (ca [1,1,0,1,0,0,1,1,1] Tryz.f90) s' ((Ps r))) ((Ps r))
abbrev M9 (r : Bool) : ES := Qz 1 ((Qbh r))
abbrev Rp (r : Bool) : ES := thenS (fun s' => T tp 24 (ca [1,1,0,1,0,0,1,1,0,0,1,1] Tryz.f90) s' ((M9 r))) ((M9 r))
theorem Qcj {r : Bool} (K : Nat) (h : Dw K = some r) : T tp 24 (ca [1,1,0,1,0,0,1,1,0,0,1,0,1,0] Tryz.f90) ⟨[], []⟩ (Rp r) := by
 unfold Dw at h
 refine T.seq (Qr ?_)
 refine aw rfl ?_
 refine TL'.nil (tN ?_)
 refine T.ret (Qv (Q2 (Qv (Qv (Q2 (Qv ?_))))))
 exact fd rfl (by cases h; exact ⟨rfl, rfl⟩)
theorem Qh7 {r : Bool} (K : Nat) : ∀ (k : Nat), ∀ (x1 d : Int) (x0 : List Int) (b c : Int) (flx0 : Bool), L7 K k x1 d x0 b c = some r → TL tp 24 (ca [1,1,0,1,0,0] Tryz.f90) ⟨[(1, .int .i64 x1), (5, .int .i64 d), (8, .sl flx0 1 (mI x0)), (9, .int .i64 b), (10, .int .i64 c)], []⟩ (Dv r) := by
 intro k
 induction k with
 | zero =>
  intro x1 d x0 b c flx0 h
  exact zn h
 | succ k ih =>
  intro x1 d x0 b c flx0 h
  rw [L7] at h
  refine Q6 ?_
  refine T.seq (Qr ?_)
  refine oI rfl ?_
  refine TL'.nil (tN ?_)
  refine T.seq ?_
  rcases Qd h with ⟨g, h⟩ | ⟨g, h⟩
  refine Qq rfl g ?_
  refine T.skip (tN ?_)
  refine T.seq ?_
  refine T.block ?_
  refine T.seq (Qr ?_)
  obtain ⟨j, l, h⟩ := bind_some h
  refine oX x0 (cI .i64) Zx i3 l rfl ?_
  refine oR ul3 rfl ?_
  refine aw rfl ?_
  refine TL'.nil (tN ?_)
  refine T.seq ?_
  refine T.seq (Qr ?_)
  refine mw rfl ?_
  refine mw rfl ?_
  refine oI rfl ?_
  refine mw rfl ?_
  rcases Qd h with ⟨a, h⟩ | ⟨a, h⟩
  refine pf rfl a ?_
  refine pf rfl a ?_
  refine pf rfl a ?_
  refine oY a rfl ?_
  refine TL'.nil (tN ?_)
  refine Qq rfl rfl ?_
  refine Qm ?_ (Qcj K h)
  exact tq rfl rfl
  refine sn rfl a (OpT.move rfl (dk rfl) rfl ?_)
  refine sn rfl a (OpT.move rfl (dk rfl) rfl ?_)
  refine sn rfl a (Zj rfl rfl (dk rfl) rfl rfl ?_)
  refine oZ a rfl ?_
  refine TL'.nil (tN ?_)
  rcases Qd h with ⟨i, h⟩ | ⟨i, h⟩
  refine Qq rfl i ?_
  refine Qm ?_ (Qcj K h)
  exact tq rfl rfl
  refine Qp rfl i ?_
  refine T.skip (tN ?_)
  refine Qr ?_
  refine mw rfl ?_
  refine aw rfl ?_
  refine TL'.nil (Qn (tN ?_))
  refine Qr ?_
  refine oI rfl ?_
  refine mw rfl ?_
  refine TL'.nil (tN ?_)
  refine Qh ?_ (ih x1 j x0 b (wI (c + (1:Int))) flx0 h)
  exact tq rfl rfl
  refine Qp rfl g ?_
  refine T.exit (Qj (Qj (Qs (tN ?_))))
  refine T.seq (Qr ?_)
  refine aw rfl ?_
  refine TL'.nil (tN ?_)
  refine T.ret ?_
  exact fd rfl (by cases h; exact ⟨rfl, rfl⟩)
theorem Qgx (K : Nat) {x0 : List Int} {x1 : Int} {flx0 r : Bool} (h : Nl K x0 x1 = some r) : Zm tp 90 [.sl flx0 1 (mI x0), .int .i64 x1] [] (.bool r) := by
 refine Qt Tryz.func90 rfl (nb rfl) ?_
 show T tp 24 (ca [] Tryz.f90) ⟨Qw 0 [.sl flx0 1 (mI x0), .int .i64 x1], []⟩ (Qci r)
 unfold Nl at h
 refine T.seq (Qr ?_)
 refine aw rfl ?_
 refine TL'.nil (tN (T.seq (Qr ?_)))
 refine aw rfl ?_
 refine TL'.nil (tN ?_)
 refine T.seq ?_
 refine T.seq (Qr ?_)
 refine mw rfl ?_
 refine oU x0 (cI .i64) Zx rfl ?_
 refine mw rfl ?_
 refine TL'.nil (tN ?_)
 refine T.block ?_
 refine T.loop ?_
 refine Qh ?_ (Qh7 K K x1 (-1:Int) x0 (x0.length : Int) (0:Int) flx0 h)
 exact tq rfl rfl
abbrev De (r : Int) : ES := J9 tp Tryz.f132 (fun y t => y = (.int .i64 r) ∧ t = [])
abbrev Qbt (r : Int) : ES := thenS (fun s' => T tp 19 (ca [1,1] Tryz.f132) s' ((De r))) ((De r))
abbrev S1 (r : Int) : ES := Qz 0 ((Qbt r))
theorem Qbu {r : Int} (K : Nat) : ∀ (k : Nat), ∀ (x0 : List Int) (x1 a b : Int) (flx0 : Bool), Vv K k x0 x1 a b = some r → TL tp 19 (ca [1,0,1,0,0] Tryz.f132) ⟨[(0, .sl flx0 1 (mI x0)), (1, .int .i64 x1), (7, .int .i64 a), (8, .int .i64 b)], []⟩ (S1 r) := by
 intro k
 induction k with
 | zero =>
  intro x0 x1 a b flx0 h
  exact zn h
 | succ k ih =>
  intro x0 x1 a b flx0 h
  rw [Vv] at h
  refine Q6 ?_
  refine T.seq (Qr ?_)
  refine oI rfl ?_
  refine TL'.nil (tN ?_)
  refine T.seq ?_
  rcases Qd h with ⟨c, h⟩ | ⟨c, h⟩
  refine Qq rfl c ?_
  refine T.skip (tN ?_)
  refine T.seq ?_
  refine T.block ?_
  refine T.seq (Qr ?_)
  refine mw rfl ?_
  refine aw rfl ?_
  refine TL'.nil (tN (T.seq (Qr ?_)))
  iterate 3 refine mw rfl ?_
  obtain ⟨g, i, h⟩ := bind_some h
  refine oX x0 (cI .i64) Zx i3 i rfl ?_
  refine oR ul3 rfl ?_
  refine oI rfl ?_
  refine TL'.nil (tN ?_)
  rcases Qd h with ⟨d, h⟩ | ⟨d, h⟩
  refine Qq rfl d ?_
  refine T.seq (Qr ?_)
  refine mw rfl ?_
  refine aw rfl ?_
  refine TL'.nil (tN ?_)
  refine T.ret (Q2 (Qv (Qv (Q2 (Qv ?_)))))
  exact fd rfl (by cases h; exact ⟨rfl, rfl⟩)
  refine Qp rfl d ?_
  refine T.skip (Qn (tN ?_))
  refine Qr ?_
  refine oI rfl ?_
  refine mw rfl ?_
  refine TL'.nil (tN ?_)
  refine Qh ?_ (ih x0 x1 a (wI (b + (1:Int))) flx0 h)
  exact tq rfl rfl
  refine Qp rfl c ?_
  refine T.exit (Qj (Qj (Qs (tN ?_))))
  refine T.seq (Qr ?_)
  refine aw rfl ?_
  refine TL'.nil (tN ?_)
  refine T.ret ?_
  exact fd rfl (by cases h; exact ⟨rfl, rfl⟩)
theorem Qe1 (K : Nat) {x0 : List Int} {x1 : Int} {flx0 : Bool} {r : Int} (h : Bz K x0 x1 = some r) : Zm tp 132 [.sl flx0 1 (mI x0), .int .i64 x1] [] (.int .i64 r) := by
 refine Qt Tryz.func132 rfl (nb rfl) ?_
 show T tp 19 (ca [] Tryz.f132) ⟨Qw 0 [.sl flx0 1 (mI x0), .int .i64 x1], []⟩ (De r)
 unfold Bz at h
 refine T.seq (Qr ?_)
 refine aw rfl ?_
 refine TL'.nil (tN ?_)
 refine T.seq ?_
 refine T.seq (Qr ?_)
 refine mw rfl ?_
 refine oU x0 (cI .i64) Zx rfl ?_
 refine mw rfl ?_
 refine TL'.nil (tN ?_)
 refine T.block ?_
 refine T.loop ?_
 refine Qh ?_ (Qbu K K x0 x1 (x0.length : Int) (0:Int) flx0 h)
 exact tq rfl rfl
abbrev Qbv (r : Bool) : ES := J9 tp Tryz.f118 (fun y t => y = (.bool r) ∧ t = [])
theorem Qbw (K : Nat) {x0 : List Int} {x1 : Int} {flx0 r : Bool} (h : Wq K x0 x1 = some r) : Zm tp 118 [.sl flx0 1 (mI x0), .int .i64 x1] [] (.bool r) := by
 refine Qt Tryz.func118 rfl (nb rfl) ?_
 show T tp 9 (ca [] Tryz.f118) ⟨Qw 0 [.sl flx0 1 (mI x0), .int .i64 x1], []⟩ (Qbv r)
 unfold Wq at h
 refine T.seq (Qr ?_)
 refine aw rfl ?_
 refine TL'.nil (tN (T.seq (Qr ?_)))
 refine mw rfl ?_
 refine mw rfl ?_
 obtain ⟨b, a, h⟩ := bind_some h
 refine sp rfl (Q0 rfl (dk rfl) Tryz.func132 rfl rfl (Q5.cons rfl (Q5.cons rfl Q5.nil)) (Zm.nil (Qe1 K (flx0 := flx0) a)) ?_)
 refine oI rfl ?_
 refine aw rfl ?_
 refine TL'.nil (tN ?_)
 refine T.ret ?_
 exact fd rfl (by cases h; exact ⟨rfl, rfl⟩)
abbrev W1 (r : Bool) : ES := J9 tp Tryz.f93 (fun y t => y = (.bool r) ∧ t = [])
abbrev Tn (r : Bool) : ES := thenS (fun s' => T tp 79 (ca [1,1,1] Tryz.f93) s' ((W1 r))) ((W1 r))
abbrev Sn (r : Bool) : ES := thenS (fun s' => T tp 79 (ca [1,1,1,1] Tryz.f93) s' ((W1 r))) ((W1 r))
abbrev Hn (r : Bool) : ES := Qz 0 ((Sn r))
abbrev Ba (r : Bool) : ES := thenS (fun s' => TL tp 79 (ca [1,1,1,0,1,0,0] Tryz.f93) s' ((Hn r))) ((Hn r))
abbrev Fk (r : Bool) : ES := thenS (fun s' => T tp 79 (ca [1,1,1,0,1,0,0,1,1,1] Tryz.f93) s' ((Ba r))) ((Ba r))
abbrev C7 (r : Bool) : ES := Qz 1 ((Fk r))
theorem Kw {r : Bool} (K : Nat) (h : Xk K = some r) : T tp 79 (ca [1,1,0,1,0] Tryz.f93) ⟨[], []⟩ (Tn r) := by
 unfold Xk at h
 refine T.seq (Qr ?_)
 refine aw rfl ?_
 refine TL'.nil (tN ?_)
 refine T.ret (Qv ?_)
 exact fd rfl (by cases h; exact ⟨rfl, rfl⟩)
theorem Kv {r : Bool} (K : Nat) (h : Xj K = some r) : T tp 79 (ca [1,1,1,0,1,0,0,1,1,0,0,1,1,0] Tryz.f93) ⟨[], []⟩ (C7 r) := by
 unfold Xj at h
 refine T.seq (Qr ?_)
 refine aw rfl ?_
 refine TL'.nil (tN ?_)
 refine T.ret (Q2 (Qv (Qv (Q2 (Qv ?_)))))
 exact fd rfl (by cases h; exact ⟨rfl, rfl⟩)
theorem Qbk {r : Bool} (K : Nat) : ∀ (k : Nat), ∀ (x2 : Qe) (w p : Int) (x0 : Ze) (x1 : Qa) (j l m : Nat), Xi K k x2 w p x0 x1 = some r → TL tp 79 (ca [1,1,1,0,1,0,0] Tryz.f93) ⟨[(3, .ptr j 0), (4, .ptr l 0), (5, .ptr m 0), (44, .sl false 1 (mU x2.Ops)), (45, .int .i64 w), (46, .int .i64 p)], [(Ge j x0.Auto.Split.Of x0.Auto.Split.Many x0.Auto.Counts x0.Auto.States), (Jz l x1.L x1.R x1.Rule x1.Next), (Qft m x2.To x2.Ops)]⟩ (Hn r) := by
 intro k
 induction k with
 | zero =>
  intro x2 w p x0 x1 j l m h
  exact zn h
 | succ k ih =>
  intro x2 w p x0 x1 j l m h
  rw [Xi] at h
  refine Q6 ?_
  refine T.seq (Qr ?_)
  refine oI rfl ?_
  refine TL'.nil (tN ?_)
  refine T.seq ?_
  rcases Qd h with ⟨ab, h⟩ | ⟨ab, h⟩
  refine Qq rfl ab ?_
  refine T.skip (tN ?_)
  refine T.seq ?_
  refine T.block ?_
  refine T.seq (Qr ?_)
  refine mw rfl ?_
  obtain ⟨a, ad, h⟩ := bind_some h
  refine oX x2.Ops (cI .u8) C8 i5 ad rfl ?_
  refine oR ul5 rfl ?_
  refine aw rfl ?_
  refine aw rfl ?_
  refine TL'.nil (tN ?_)
  refine T.seq ?_
  refine Yk ?_
  refine dV rfl rfl ?_
  refine dI rfl (.f rfl) rfl ?_
  refine dV rfl rfl ?_
  rcases Qd h with ⟨y, h⟩ | ⟨y, h⟩
  refine dO y rfl rfl ?_
  refine dO y rfl rfl ?_
  refine dY rfl (.f rfl) y rfl ?_
  refine dV rfl rfl ?_
  refine dO rfl rfl rfl ?_
  refine dO rfl rfl rfl ?_
  refine dO rfl rfl rfl ?_
  refine dG rfl rfl ?_
  refine dG rfl rfl ?_
  refine dG rfl rfl ?_
  refine dG rfl rfl ?_
  refine dG rfl rfl ?_
  refine dG rfl rfl ?_
  refine dG rfl rfl ?_
  refine dG rfl rfl ?_
  refine dG rfl rfl ?_
  refine dG rfl rfl ?_
  refine dG rfl rfl ?_
  refine dG rfl rfl ?_
  refine dG rfl rfl ?_
  refine dG rfl rfl ?_
  refine dG rfl rfl ?_
  refine dO rfl rfl rfl ?_
  refine dY rfl (.f rfl) rfl rfl ?_
  refine dF [0,1,3,7,15,31,63,127,255,511,1023,2047,1023,5119,13311,1023,33791,127999,259071,521215,1023,2094079,4191231,8388607,16777215,33554431,67108863] Q3 rfl (by kernel_rfl) (fun u hu => (tN (Qm hu ?_)))
  refine Qq rfl rfl ?_
  refine Qm ?_ (Kv K h)
  exact tq rfl rfl
  refine dM rfl (.n y rfl) rfl ?_
  refine dI rfl (.n y rfl) rfl ?_
  refine dZ rfl (.f rfl) y rfl ?_
  refine dV rfl rfl ?_
  rcases Qd h with ⟨q, h⟩ | ⟨q, h⟩
  refine dO q rfl rfl ?_
  refine dO q rfl rfl ?_
  refine dO q rfl rfl ?_
  refine dG rfl rfl ?_
  refine dG rfl rfl ?_
  refine dG rfl rfl ?_
  refine dG rfl rfl ?_
  refine dG rfl rfl ?_
  refine dG rfl rfl ?_
  refine dG rfl rfl ?_
  refine dG rfl rfl ?_
  refine dG rfl rfl ?_
  refine dG rfl rfl ?_
  refine dG rfl rfl ?_
  refine dG rfl rfl ?_
  refine dG rfl rfl ?_
  refine dG rfl rfl ?_
  refine dG rfl rfl ?_
  refine dO q rfl rfl ?_
  refine dY rfl (.f rfl) q rfl ?_
  refine dF [0,1,3,7,15,31,63,127,255,511,1023,2047,1023,5119,13311,1023,33791,127999,259071,521215,1023,2094079,4191231,8388607,16777215,33554431,67108863] Q3 rfl (by kernel_rfl) (fun u hu => (tN (Qm hu ?_)))
  refine Qq rfl rfl ?_
  refine Qm ?_ (Kv K h)
  exact tq rfl rfl
  refine dM rfl (.n q rfl) rfl ?_
  refine dI rfl (.n q rfl) rfl ?_
  refine dM rfl (.n q rfl) rfl ?_
  rcases Qd h with ⟨b, h⟩ | ⟨b, h⟩
  refine dP rfl (.n b rfl) Wi i38 rfl ?_
  refine dL 1 rfl (.n b rfl) Zx rfl ?_
  refine dP rfl (.n b rfl) ul107 i28 rfl ?_
  refine dP rfl (.n b rfl) Uv i26 rfl ?_
  refine dL 0 rfl (.n b rfl) Us rfl ?_
  refine dP rfl (.n b rfl) Cp i3 rfl ?_
  refine dL 2 rfl (.n b rfl) ul3 rfl ?_
  obtain ⟨g, af, h⟩ := bind_some h
  refine dX x0.Auto.States Qb rfl (.n b rfl) Us i51 af rfl ?_
  refine dQ rfl (.n b rfl) Wi i38 rfl ?_
  refine dR rfl (.n b rfl) Zx rfl ?_
  refine dM rfl (.n b rfl) rfl ?_
  obtain ⟨aa, ag, h⟩ := bind_some h
  refine dX g.R (cI .i64) rfl (.n b rfl) Zx i3 ag rfl ?_
  refine dR rfl (.n b rfl) ul3 rfl ?_
  obtain ⟨s, ai, h⟩ := bind_some h
  refine dS (c := ⟨some 74, .bool s, [(62, .sl false 1 (mI x1.R)), (73, .int .i64 aa), (60, .bool (a != (3:Int)))], [], []⟩) (fun t hm => oN rfl rfl rfl hm.s2 b (Q0 rfl (dk rfl) Tryz.func118 rfl rfl (Q5.cons hm.s0 (Q5.cons hm.s1 Q5.nil)) (Zm.nil (Qbw K (flx0 := false) ai)) rfl)) rfl rfl ?_
  refine dS (c := ⟨some 75, .bool (!s), [(74, .bool s), (60, .bool (a != (3:Int)))], [], []⟩) (fun t hm => oN rfl rfl rfl hm.s1 b (OpT.not rfl (dk rfl) hm.s0 rfl)) rfl rfl ?_
  refine dY rfl (.n q rfl) b rfl ?_
  refine dZ rfl (.f rfl) q rfl ?_
  refine dF [0,1,3,7,15,31,63,127,255,511,1023,2047,1023,5119,13311,1023,33791,127999,259071,521215,1023,2094079,4191231,8388607,16777215,33554431,67108863] Q3 rfl (by kernel_rfl) (fun u hu => (tN (Qm hu ?_)))
  rcases Qd h with ⟨ac, h⟩ | ⟨ac, h⟩
  refine Qq rfl ac ?_
  refine Qm ?_ (Kv K h)
  exact tq rfl rfl
  refine Qp rfl ac ?_
  refine T.skip (Qn (tN ?_))
  refine Qr ?_
  refine oI rfl ?_
  refine mw rfl ?_
  refine TL'.nil (tN ?_)
  refine Qh ?_ (ih x2 w (wI (p + (1:Int))) x0 x1 j l m h)
  exact tq rfl rfl
  refine dO b rfl rfl ?_
  refine dO b rfl rfl ?_
  refine dO b rfl rfl ?_
  refine dO b rfl rfl ?_
  refine dO b rfl rfl ?_
  refine dO b rfl rfl ?_
  refine dO b rfl rfl ?_
  refine dO b rfl rfl ?_
  refine dO b rfl rfl ?_
  refine dO b rfl rfl ?_
  refine dO b rfl rfl ?_
  refine dO b rfl rfl ?_
  refine dO b rfl rfl ?_
  refine dO b rfl rfl ?_
  refine dO b rfl rfl ?_
  refine dZ rfl (.n q rfl) b rfl ?_
  refine dZ rfl (.f rfl) q rfl ?_
  refine dF [0,1,3,7,15,31,63,127,255,511,1023,2047,1023,5119,13311,1023,33791,127999,259071,521215,1023,2094079,4191231,8388607,16777215,33554431,67108863] Q3 rfl (by kernel_rfl) (fun u hu => (tN (Qm hu ?_)))
  refine Qp rfl rfl ?_
  refine T.skip (Qn (tN ?_))
  refine Qr ?_
  refine oI rfl ?_
  refine mw rfl ?_
  refine TL'.nil (tN ?_)
  refine Qh ?_ (ih x2 w (wI (p + (1:Int))) x0 x1 j l m h)
  exact tq rfl rfl
  refine Qp rfl ab ?_
  refine T.exit (Qj (Qj (Qs (tN ?_))))
  refine T.seq (Qr ?_)
  refine aw rfl ?_
  refine TL'.nil (tN ?_)
  refine T.ret ?_
  exact fd rfl (by cases h; exact ⟨rfl, rfl⟩)
theorem Qeo (K : Nat) {x0 : Ze} {x1 : Qa} {x2 : Qe} {r : Bool} (h : Lk K x0 x1 x2 = some r) : Zm tp 93 [.agg ((Zi.dc 256 .u8 x0.Auto.Split.Of) ++ (([.int .i64 x0.Auto.Split.Many, .sl false 2 (mA x0.Auto.Counts), .sl false 4 (x0.Auto.States.map Qb)] : List DC))), .agg [.sl false 1 (mI x1.L), .sl false 1 (mI x1.R), .sl false 1 (mI x1.Rule), .sl false 1 (x1.Next.map (cL 2 Qf))], .agg [.int .i64 x2.To, .sl false 1 (mU x2.Ops)]] [] (.bool r) := by
 refine Qt Tryz.func93 rfl (nb rfl) ?_
 show T tp 79 (ca [] Tryz.f93) ⟨Qw 0 [.agg ((Zi.dc 256 .u8 x0.Auto.Split.Of) ++ (([.int .i64 x0.Auto.Split.Many, .sl false 2 (mA x0.Auto.Counts), .sl false 4 (x0.Auto.States.map Qb)] : List DC))), .agg [.sl false 1 (mI x1.L), .sl false 1 (mI x1.R), .sl false 1 (mI x1.Rule), .sl false 1 (x1.Next.map (cL 2 Qf))], .agg [.int .i64 x2.To, .sl false 1 (mU x2.Ops)]], []⟩ (W1 r)
 unfold Lk at h
 refine T.seq (Qr ?_)
 refine sp rfl (Zb rfl (dk rfl) rfl (fun j => ?_))
 refine sp rfl (Zb rfl (dk rfl) rfl (fun m => ?_))
 refine sp rfl (Zb rfl (dk rfl) rfl (fun g => ?_))
 refine aw rfl ?_
 refine TL'.nil (tN ?_)
 refine T.seq ?_
 refine T.seq (Qr ?_)
 refine oP Cp i3 rfl ?_
 refine oL 0 ul3 rfl ?_
 refine oI rfl ?_
 refine TL'.nil (tN ?_)
 rcases Qd h with ⟨p, h⟩ | ⟨p, h⟩
 refine Qq rfl p ?_
 refine T.seq (Qr ?_)
 refine oP Cp i52 rfl ?_
 refine oL 0 C8 rfl ?_
 refine oU x2.Ops (cI .u8) C8 rfl ?_
 refine oI rfl ?_
 refine aw rfl ?_
 refine TL'.nil (tN ?_)
 refine T.ret (Qv ?_)
 exact fd rfl (by cases h; exact ⟨rfl, rfl⟩)
 refine Qp rfl p ?_
 refine T.skip (tN ?_)
 refine T.seq ?_
 refine T.seq ?_
 refine Yk ?_
 refine dP rfl (.f rfl) Cp i3 rfl ?_
 refine dL 0 rfl (.f rfl) ul3 rfl ?_
 refine dI rfl (.f rfl) rfl ?_
 refine dV rfl rfl ?_
 rcases Qd h with ⟨l, h⟩ | ⟨l, h⟩
 refine dO l rfl rfl ?_
 refine dO l rfl rfl ?_
 refine dO l rfl rfl ?_
 refine dO l rfl rfl ?_
 refine dO l rfl rfl ?_
 refine dO l rfl rfl ?_
 refine dO l rfl rfl ?_
 refine dY rfl (.f rfl) l rfl ?_
 refine dV rfl rfl ?_
 refine dO rfl rfl rfl ?_
 refine dO rfl rfl rfl ?_
 refine dO rfl rfl rfl ?_
 refine dO rfl rfl rfl ?_
 refine dO rfl rfl rfl ?_
 refine dO rfl rfl rfl ?_
 refine dO rfl rfl rfl ?_
 refine dO rfl rfl rfl ?_
 refine dO rfl rfl rfl ?_
 refine dO rfl rfl rfl ?_
 refine dO rfl rfl rfl ?_
 refine dO rfl rfl rfl ?_
 refine dO rfl rfl rfl ?_
 refine dY rfl (.f rfl) rfl rfl ?_
 refine dF [0,1,3,7,15,31,15,79,207,463,1023,2047,4095,8191,16383,32767,8191,73727,204799,8191,532479,2039807,4136959,8331263,16719871,33554431,67108863] Q3 rfl (by kernel_rfl) (fun u hu => (tN (Qm hu ?_)))
 refine Qq rfl rfl ?_
 refine Qm ?_ (Kw K h)
 exact tq rfl rfl
 refine dP rfl (.n l rfl) Cp i3 rfl ?_
 refine dL 0 rfl (.n l rfl) ul3 rfl ?_
 refine dP rfl (.n l rfl) ul107 i28 rfl ?_
 refine dP rfl (.n l rfl) Uv i26 rfl ?_
 refine dL 2 rfl (.n l rfl) Us rfl ?_
 refine dN x0.Auto.States Qb rfl (.n l rfl) Us rfl ?_
 refine dI rfl (.n l rfl) rfl ?_
 refine dZ rfl (.f rfl) l rfl ?_
 refine dV rfl rfl ?_
 rcases Qd h with ⟨a, h⟩ | ⟨a, h⟩
 refine dO a rfl rfl ?_
 refine dO a rfl rfl ?_
 refine dO a rfl rfl ?_
 refine dO a rfl rfl ?_
 refine dO a rfl rfl ?_
 refine dO a rfl rfl ?_
 refine dO a rfl rfl ?_
 refine dO a rfl rfl ?_
 refine dO a rfl rfl ?_
 refine dO a rfl rfl ?_
 refine dO a rfl rfl ?_
 refine dO a rfl rfl ?_
 refine dO a rfl rfl ?_
 refine dY rfl (.f rfl) a rfl ?_
 refine dF [0,1,3,7,15,31,15,79,207,463,1023,2047,4095,8191,16383,32767,8191,73727,204799,8191,532479,2039807,4136959,8331263,16719871,33554431,67108863] Q3 rfl (by kernel_rfl) (fun u hu => (tN (Qm hu ?_)))
 refine Qq rfl rfl ?_
 refine Qm ?_ (Kw K h)
 exact tq rfl rfl
 refine dP rfl (.n a rfl) Cp i52 rfl ?_
 refine dL 0 rfl (.n a rfl) C8 rfl ?_
 refine dN x2.Ops (cI .u8) rfl (.n a rfl) C8 rfl ?_
 refine dP rfl (.n a rfl) ul107 i28 rfl ?_
 refine dP rfl (.n a rfl) Uv i26 rfl ?_
 refine dL 2 rfl (.n a rfl) Us rfl ?_
 refine dP rfl (.n a rfl) Cp i3 rfl ?_
 refine dL 0 rfl (.n a rfl) ul3 rfl ?_
 obtain ⟨b, w, h⟩ := bind_some h
 refine dX x0.Auto.States Qb rfl (.n a rfl) Us i51 w rfl ?_
 refine dQ rfl (.n a rfl) Wi i38 rfl ?_
 refine dR rfl (.n a rfl) Zx rfl ?_
 refine dN b.R (cI .i64) rfl (.n a rfl) Zx rfl ?_
 refine dI rfl (.n a rfl) rfl ?_
 refine dZ rfl (.f rfl) a rfl ?_
 refine dF [0,1,3,7,15,31,15,79,207,463,1023,2047,4095,8191,16383,32767,8191,73727,204799,8191,532479,2039807,4136959,8331263,16719871,33554431,67108863] Q3 rfl (by kernel_rfl) (fun u hu => (tN (Qm hu ?_)))
 rcases Qd h with ⟨q, h⟩ | ⟨q, h⟩
 refine Qq rfl q ?_
 refine Qm ?_ (Kw K h)
 exact tq rfl rfl
 refine Qp rfl q ?_
 refine T.skip (tN ?_)
 refine T.seq ?_
 refine T.seq (Qr ?_)
 refine oP Cp i52 rfl ?_
 refine oL 0 C8 rfl ?_
 refine oU x2.Ops (cI .u8) C8 rfl ?_
 refine mw rfl ?_
 refine TL'.nil (tN ?_)
 refine T.block ?_
 refine T.loop ?_
 refine Qh ?_ (Qbk K K x2 (x2.Ops.length : Int) (0:Int) x0 x1 j m g h)
 exact tr rfl (.c (.s (.s .z)) (.c (.s .z) (.c .z (.n _))))
abbrev Qbi (bx1 bx2 : Nat) (x1 : Ze) (x2 : Qa) (r : Bool) : ES := J9 tp Tryz.f92 (fun y t => ∃ γ : Nat → Value, y = (.bool r) ∧ t = [(Ge bx1 x1.Auto.Split.Of x1.Auto.Split.Many x1.Auto.Counts x1.Auto.States), (Jz bx2 x2.L x2.R x2.Rule x2.Next)])
theorem Qbj (K : Nat) {x0 : Qe} {x1 : Ze} {x2 : Qa} {bx1 bx2 : Nat} {r : Bool} (h : Gv K x0 x1 x2 = some r) : U7 tp 92 [.agg [.int .i64 x0.To, .sl false 1 (mU x0.Ops)], .ptr bx1 0, .ptr bx2 0] [(Ge bx1 x1.Auto.Split.Of x1.Auto.Split.Many x1.Auto.Counts x1.Auto.States), (Jz bx2 x2.L x2.R x2.Rule x2.Next)] (fun γ => (.bool r)) (fun γ => [(Ge bx1 x1.Auto.Split.Of x1.Auto.Split.Many x1.Auto.Counts x1.Auto.States), (Jz bx2 x2.L x2.R x2.Rule x2.Next)]) := by
 refine Qt Tryz.func92 rfl (nb rfl) ?_
 show T tp 10 (ca [] Tryz.f92) ⟨Qw 0 [.agg [.int .i64 x0.To, .sl false 1 (mU x0.Ops)], .ptr bx1 0, .ptr bx2 0], [(Ge bx1 x1.Auto.Split.Of x1.Auto.Split.Many x1.Auto.Counts x1.Auto.States), (Jz bx2 x2.L x2.R x2.Rule x2.Next)]⟩ (Qbi bx1 bx2 x1 x2 r)
 unfold Gv at h
 refine T.seq (Qr ?_)
 refine sp rfl (Zb rfl (dk rfl) rfl (fun b => ?_))
 refine aw rfl ?_
 refine TL'.nil (tN (T.seq (Qr ?_)))
 refine oA 1 ((Zi.dc 256 .u8 x1.Auto.Split.Of) ++ (([.int .i64 x1.Auto.Split.Many, .sl false 2 (mA x1.Auto.Counts), .sl false 4 (x1.Auto.States.map Qb)] : List DC))) ul107 i107 rfl ?_
 refine oA 2 [.sl false 1 (mI x2.L), .sl false 1 (mI x2.R), .sl false 1 (mI x2.Rule), .sl false 1 (x2.Next.map (cL 2 Qf))] Wi i51 rfl ?_
 refine oA 0 [.int .i64 x0.To, .sl false 1 (mU x0.Ops)] Cp i54 rfl ?_
 obtain ⟨c, a, h⟩ := bind_some h
 refine sp rfl (Q0 rfl (dk rfl) Tryz.func93 rfl rfl (Q5.cons rfl (Q5.cons rfl (Q5.cons rfl Q5.nil))) (Zm.nil (Qeo K a)) ?_)
 refine oT rfl ?_
 refine aw rfl ?_
 refine TL'.nil (tN ?_)
 refine T.ret ?_
 exact Q7 (.cons _ _ _ _ (.tmp 4 _ rfl) .nil) (.cons 1 rfl (.cons 1 rfl (.nil _))) (by cases h; exact ⟨gl [], rfl, rfl⟩)
abbrev Ls (bx1c0 bx1c1 : Nat) (x1c0 : Ze) (x1c1 : Qa) (r : Int) : ES := J9 tp Tryz.f117 (fun y t => ∃ γ : Nat → Value, y = (.int .i64 r) ∧ t = [(Ge bx1c0 x1c0.Auto.Split.Of x1c0.Auto.Split.Many x1c0.Auto.Counts x1c0.Auto.States), (Jz bx1c1 x1c1.L x1c1.R x1c1.Rule x1c1.Next)])
abbrev Oy (bx1c0 bx1c1 : Nat) (x1c0 : Ze) (x1c1 : Qa) (r : Int) : ES := thenS (fun s' => T tp 19 (ca [1,1] Tryz.f117) s' ((Ls bx1c0 bx1c1 x1c0 x1c1 r))) ((Ls bx1c0 bx1c1 x1c0 x1c1 r))
abbrev I2 (bx1c0 bx1c1 : Nat) (x1c0 : Ze) (x1c1 : Qa) (r : Int) : ES := Qz 0 ((Oy bx1c0 bx1c1 x1c0 x1c1 r))
theorem Oz {r : Int} (K bx1c0 bx1c1 : Nat) (x1c0 : Ze) (x1c1 : Qa) : ∀ (k : Nat), ∀ (x0 : List Qe) (a b : Int) (x1c0 : Ze) (x1c1 : Qa) (flx0 : Bool), Yy K k x0 a b x1c0 x1c1 = some r → TL tp 19 (ca [1,0,1,0,0] Tryz.f117) ⟨[(0, .sl flx0 2 (x0.map Qf)), (1, .c (.ex (.func (.func 92) #[] #[.pointer (some ⟨bx1c0, 0, none⟩), .pointer (some ⟨bx1c1, 0, none⟩)]))), (7, .int .i64 a), (8, .int .i64 b)], [(Ge bx1c0 x1c0.Auto.Split.Of x1c0.Auto.Split.Many x1c0.Auto.Counts x1c0.Auto.States), (Jz bx1c1 x1c1.L x1c1.R x1c1.Rule x1c1.Next)]⟩ (I2 bx1c0 bx1c1 x1c0 x1c1 r) := by
 intro k
 induction k with
 | zero =>
  intro x0 a b x1c0 x1c1 flx0 h
  exact zn h
 | succ k ih =>
  intro x0 a b x1c0 x1c1 flx0 h
  rw [Yy] at h
  refine Q6 ?_
  refine T.seq (Qr ?_)
  refine oI rfl ?_
  refine TL'.nil (tN ?_)
  refine T.seq ?_
  rcases Qd h with ⟨g, h⟩ | ⟨g, h⟩
  refine Qq rfl g ?_
  refine T.skip (tN ?_)
  refine T.seq ?_
  refine T.block ?_
  refine T.seq (Qr ?_)
  refine mw rfl ?_
  refine aw rfl ?_
  refine TL'.nil (tN (T.seq (Qr ?_)))
  iterate 3 refine mw rfl ?_
  obtain ⟨j, l, h⟩ := bind_some h
  refine oX x0 Qf Fq i54 l rfl ?_
  refine sp rfl (Za rfl (dk rfl) Cp rfl i54 rfl (nb rfl) ?_)
  obtain ⟨p, m, h⟩ := bind_some h
  refine sp rfl (Pv (f := 92) (vs := [.pointer (some ⟨bx1c0, 0, none⟩), .pointer (some ⟨bx1c1, 0, none⟩)]) rfl rfl (dk rfl) Tryz.func92 rfl rfl (Q8 (is := [0, 1]) (ph := []) rfl (dk rfl) Tryz.func92 rfl rfl (Q5.cons rfl (Q5.cons rfl (Q5.cons rfl Q5.nil))) (Qbj K (bx1 := bx1c0) (bx2 := bx1c1) m) (.cons rfl rfl (.cons rfl rfl (.nil))) (fun _ => rfl) (fun q => ?_)))
  refine nm (.c (.c (.n))) ?_
  refine TL'.nil (tN ?_)
  rcases Qd h with ⟨i, h⟩ | ⟨i, h⟩
  refine Qq rfl i ?_
  refine T.seq (Qr ?_)
  refine mw rfl ?_
  refine aw rfl ?_
  refine TL'.nil (tN ?_)
  refine T.ret (Q2 (Qv (Qv (Q2 (Qv ?_)))))
  exact Q7 (.cons _ _ _ _ (.tmp 4 _ rfl) .nil) (.cons 0 rfl (.cons 0 rfl (.nil _))) (by cases h; exact ⟨gl [], rfl, rfl⟩)
  refine Qp rfl i ?_
  refine T.skip (Qn (tN ?_))
  refine Qr ?_
  refine oI rfl ?_
  refine mw rfl ?_
  refine TL'.nil (tN ?_)
  refine Qh ?_ (ih x0 a (wI (b + (1:Int))) x1c0 x1c1 flx0 h)
  exact tq rfl rfl
  refine Qp rfl g ?_
  refine T.exit (Qj (Qj (Qs (tN ?_))))
  refine T.seq (Qr ?_)
  refine aw rfl ?_
  refine TL'.nil (tN ?_)
  refine T.ret ?_
  exact Q7 (.cons _ _ _ _ (.tmp 4 _ rfl) .nil) (.cons 0 rfl (.cons 0 rfl (.nil _))) (by cases h; exact ⟨gl [], rfl, rfl⟩)
theorem S2 (K : Nat) {x0 : List Qe} {x1c0 : Ze} {x1c1 : Qa} {flx0 : Bool} {bx1c0 bx1c1 : Nat} {r : Int} (h : Ht K x0 x1c0 x1c1 = some r) : U7 tp 117 [.sl flx0 2 (x0.map Qf), .c (.ex (.func (.func 92) #[] #[.pointer (some ⟨bx1c0, 0, none⟩), .pointer (some ⟨bx1c1, 0, none⟩)]))] [(Ge bx1c0 x1c0.Auto.Split.Of x1c0.Auto.Split.Many x1c0.Auto.Counts x1c0.Auto.States), (Jz bx1c1 x1c1.L x1c1.R x1c1.Rule x1c1.Next)] (fun γ => (.int .i64 r)) (fun γ => [(Ge bx1c0 x1c0.Auto.Split.Of x1c0.Auto.Split.Many x1c0.Auto.Counts x1c0.Auto.States), (Jz bx1c1 x1c1.L x1c1.R x1c1.Rule x1c1.Next)]) := by
 refine Qt Tryz.func117 rfl (nb rfl) ?_
 show T tp 19 (ca [] Tryz.f117) ⟨Qw 0 [.sl flx0 2 (x0.map Qf), .c (.ex (.func (.func 92) #[] #[.pointer (some ⟨bx1c0, 0, none⟩), .pointer (some ⟨bx1c1, 0, none⟩)]))], [(Ge bx1c0 x1c0.Auto.Split.Of x1c0.Auto.Split.Many x1c0.Auto.Counts x1c0.Auto.States), (Jz bx1c1 x1c1.L x1c1.R x1c1.Rule x1c1.Next)]⟩ (Ls bx1c0 bx1c1 x1c0 x1c1 r)
 unfold Ht at h
 refine T.seq (Qr ?_)
 refine aw rfl ?_
 refine TL'.nil (tN ?_)
 refine T.seq ?_
 refine T.seq (Qr ?_)
 refine mw rfl ?_
 refine oU x0 Qf Fq rfl ?_
 refine mw rfl ?_
 refine TL'.nil (tN ?_)
 refine T.block ?_
 refine T.loop ?_
 refine Qh ?_ (Oz K bx1c0 bx1c1 x1c0 x1c1 K x0 (x0.length : Int) (0:Int) x1c0 x1c1 flx0 h)
 exact tq rfl rfl
abbrev O0 (bx1c0 bx1c1 : Nat) (x1c0 : Ze) (x1c1 : Qa) (r : Bool) : ES := J9 tp Tryz.f91 (fun y t => ∃ γ : Nat → Value, y = (.bool r) ∧ t = [(Ge bx1c0 x1c0.Auto.Split.Of x1c0.Auto.Split.Many x1c0.Auto.Counts x1c0.Auto.States), (Jz bx1c1 x1c1.L x1c1.R x1c1.Rule x1c1.Next)])
theorem O1 (K : Nat) {x0 : List Qe} {x1c0 : Ze} {x1c1 : Qa} {flx0 : Bool} {bx1c0 bx1c1 : Nat} {r : Bool} (h : V3 K x0 x1c0 x1c1 = some r) : U7 tp 91 [.sl flx0 2 (x0.map Qf), .c (.ex (.func (.func 92) #[] #[.pointer (some ⟨bx1c0, 0, none⟩), .pointer (some ⟨bx1c1, 0, none⟩)]))] [(Ge bx1c0 x1c0.Auto.Split.Of x1c0.Auto.Split.Many x1c0.Auto.Counts x1c0.Auto.States), (Jz bx1c1 x1c1.L x1c1.R x1c1.Rule x1c1.Next)] (fun γ => (.bool r)) (fun γ => [(Ge bx1c0 x1c0.Auto.Split.Of x1c0.Auto.Split.Many x1c0.Auto.Counts x1c0.Auto.States), (Jz bx1c1 x1c1.L x1c1.R x1c1.Rule x1c1.Next)]) := by
 refine Qt Tryz.func91 rfl (nb rfl) ?_
 show T tp 9 (ca [] Tryz.f91) ⟨Qw 0 [.sl flx0 2 (x0.map Qf), .c (.ex (.func (.func 92) #[] #[.pointer (some ⟨bx1c0, 0, none⟩), .pointer (some ⟨bx1c1, 0, none⟩)]))], [(Ge bx1c0 x1c0.Auto.Split.Of x1c0.Auto.Split.Many x1c0.Auto.Counts x1c0.Auto.States), (Jz bx1c1 x1c1.L x1c1.R x1c1.Rule x1c1.Next)]⟩ (O0 bx1c0 bx1c1 x1c0 x1c1 r)
 unfold V3 at h
 refine T.seq (Qr ?_)
 refine aw rfl ?_
 refine TL'.nil (tN (T.seq (Qr ?_)))
 refine mw rfl ?_
 refine mw rfl ?_
 obtain ⟨b, a, h⟩ := bind_some h
 refine sp rfl (Q8 (is := [0, 1]) (ph := []) rfl (dk rfl) Tryz.func117 rfl rfl (Q5.cons rfl (Q5.cons rfl Q5.nil)) (S2 K (flx0 := flx0) (bx1c0 := bx1c0) (bx1c1 := bx1c1) a) (.cons rfl rfl (.cons rfl rfl (.nil))) (fun _ => rfl) (fun f => ?_))
 refine nm (.c (.c (.n))) ?_
 refine oI rfl ?_
 refine aw rfl ?_
 refine TL'.nil (tN ?_)
 refine T.ret ?_
 exact Q7 (.cons _ _ _ _ (.tmp 4 _ rfl) .nil) (.cons 0 rfl (.cons 0 rfl (.nil _))) (by cases h; exact ⟨gl [], rfl, rfl⟩)
abbrev J8 (r : Bool) : ES := J9 tp Tryz.f55 (fun y t => y = (.bool r) ∧ t = [])
abbrev Sm (r : Bool) : ES := thenS (fun s' => T tp 79 (ca [1,1,1] Tryz.f55) s' ((J8 r))) ((J8 r))
abbrev Rq (r : Bool) : ES := thenS (fun s' => T tp 79 (ca [1,1,1,1] Tryz.f55) s' ((J8 r))) ((J8 r))
abbrev W0 (r : Bool) : ES := Qz 0 ((Rq r))
abbrev Mg (r : Bool) : ES := thenS (fun s' => TL tp 79 (ca [1,1,1,0,1,0,0] Tryz.f55) s' ((W0 r))) ((W0 r))
abbrev E2 (r : Bool) : ES := thenS (fun s' => T tp 79 (ca [1,1,1,0,1,0,0,1,1,1] Tryz.f55) s' ((Mg r))) ((Mg r))
abbrev Wz (r : Bool) : ES := Qz 1 ((E2 r))
abbrev C6 (r : Bool) : ES := thenS (fun s' => T tp 79 (ca [1,1,1,0,1,0,0,1,1,0,0,1,1] Tryz.f55) s' ((Wz r))) ((Wz r))
theorem Ug {r : Bool} (K : Nat) (h : Z2 K = some r) : T tp 79 (ca [1,1,0,1,0] Tryz.f55) ⟨[], []⟩ (Sm r) := by
 unfold Z2 at h
 refine T.seq (Qr ?_)
 refine aw rfl ?_
 refine TL'.nil (tN ?_)
 refine T.ret (Qv ?_)
 exact fd rfl (by cases h; exact ⟨rfl, rfl⟩)
theorem L8 {r : Bool} (K : Nat) (h : Y6 K = some r) : T tp 79 (ca [1,1,1,0,1,0,0,1,1,0,0,1,0,1,0] Tryz.f55) ⟨[], []⟩ (C6 r) := by
 unfold Y6 at h
 refine T.seq (Qr ?_)
 refine aw rfl ?_
 refine TL'.nil (tN ?_)
 refine T.ret (Qv (Q2 (Qv (Qv (Q2 (Qv ?_))))))
 exact fd rfl (by cases h; exact ⟨rfl, rfl⟩)
theorem Tm {r : Bool} (K : Nat) : ∀ (k : Nat), ∀ (x1 : Qa) (l m : Int) (x0 : Ze) (g j : Nat), Xx K k x1 l m x0 = some r → TL tp 79 (ca [1,1,1,0,1,0,0] Tryz.f55) ⟨[(2, .ptr g 0), (3, .ptr j 0), (45, .sl false 1 (x1.Next.map (cL 2 Qf))), (46, .int .i64 l), (47, .int .i64 m)], [(Ge g x0.Auto.Split.Of x0.Auto.Split.Many x0.Auto.Counts x0.Auto.States), (Jz j x1.L x1.R x1.Rule x1.Next)]⟩ (W0 r) := by
 intro k
 induction k with
 | zero =>
  intro x1 l m x0 g j h
  exact zn h
 | succ k ih =>
  intro x1 l m x0 g j h
  rw [Xx] at h
  refine Q6 ?_
  refine T.seq (Qr ?_)
  refine oI rfl ?_
  refine TL'.nil (tN ?_)
  refine T.seq ?_
  rcases Qd h with ⟨p, h⟩ | ⟨p, h⟩
  refine Qq rfl p ?_
  refine T.skip (tN ?_)
  refine T.seq ?_
  refine T.block ?_
  refine T.seq (Qr ?_)
  refine mw rfl ?_
  obtain ⟨u, aa, h⟩ := bind_some h
  refine oX x1.Next (cL 2 Qf) Fp i55 aa rfl ?_
  refine oR Fq rfl ?_
  refine aw rfl ?_
  refine aw rfl ?_
  refine TL'.nil (tN ?_)
  refine T.seq ?_
  refine T.seq (Qr ?_)
  refine oP Wi i38 rfl ?_
  refine oL 1 Zx rfl ?_
  refine mw rfl ?_
  obtain ⟨w, y, h⟩ := bind_some h
  refine oX x1.Rule (cI .i64) Zx i3 y rfl ?_
  refine oR ul3 rfl ?_
  refine oI rfl ?_
  refine mw rfl ?_
  rcases Qd h with ⟨b, h⟩ | ⟨b, h⟩
  refine pf rfl b ?_
  refine pf rfl b ?_
  refine pf rfl b ?_
  refine pf rfl b ?_
  refine pf rfl b ?_
  refine pf rfl b ?_
  refine oY b rfl ?_
  refine mw rfl ?_
  refine pf rfl rfl ?_
  refine pf rfl rfl ?_
  refine pf rfl rfl ?_
  refine pf rfl rfl ?_
  refine pf rfl rfl ?_
  refine pf rfl rfl ?_
  refine pf rfl rfl ?_
  refine oY rfl rfl ?_
  refine TL'.nil (tN ?_)
  refine Qq rfl rfl ?_
  refine Qm ?_ (L8 K h)
  exact tq rfl rfl
  refine sn rfl b (Zs rfl (dk rfl) Wi rfl i38 (by decide) rfl ?_)
  refine sn rfl b (Zn (i := 1) rfl (dk rfl) Zx rfl rfl rfl rfl ?_)
  refine sn rfl b (OpT.move rfl (dk rfl) rfl ?_)
  refine sn rfl b (Y7 (xs := x1.Rule) (f := (cI .i64)) (v := w) rfl (dk rfl) Zx i3 rfl rfl y ?_)
  refine sn rfl b (Vi rfl (dk rfl) ul3 rfl rfl rfl ?_)
  refine sn rfl b (Zj rfl rfl (dk rfl) rfl rfl ?_)
  refine oZ b rfl ?_
  refine mw rfl ?_
  rcases Qd h with ⟨a, h⟩ | ⟨a, h⟩
  refine pf rfl a ?_
  refine pf rfl a ?_
  refine pf rfl a ?_
  refine pf rfl a ?_
  refine pf rfl a ?_
  refine pf rfl a ?_
  refine pf rfl a ?_
  refine oY a rfl ?_
  refine TL'.nil (tN ?_)
  refine Qq rfl rfl ?_
  refine Qm ?_ (L8 K h)
  exact tq rfl rfl
  refine sn rfl a (OpT.move rfl (dk rfl) rfl ?_)
  refine sn rfl a (Zw (xs := u) (f := Qf) rfl (dk rfl) Fq rfl ?_)
  refine sn rfl a (Zs rfl (dk rfl) ul107 rfl i28 (by decide) rfl ?_)
  refine sn rfl a (Zs rfl (dk rfl) Uv rfl i24 (by decide) rfl ?_)
  refine sn rfl a (Zs rfl (dk rfl) Qhi rfl i3 (by decide) rfl ?_)
  refine sn rfl a (Zn (i := 0) rfl (dk rfl) ul3 rfl rfl rfl rfl ?_)
  refine sn rfl a (Zj rfl rfl (dk rfl) rfl rfl ?_)
  refine oZ a rfl ?_
  refine TL'.nil (tN ?_)
  rcases Qd h with ⟨q, h⟩ | ⟨q, h⟩
  refine Qq rfl q ?_
  refine Qm ?_ (L8 K h)
  exact tq rfl rfl
  refine Qp rfl q ?_
  refine T.skip (tN ?_)
  refine T.seq (Qr ?_)
  refine mw rfl ?_
  refine sp rfl (OpT.makeFunc (vs := [.pointer (some ⟨g, 0, none⟩), .pointer (some ⟨j, 0, none⟩)]) rfl (dk rfl) rfl ?_)
  obtain ⟨ac, ab, h⟩ := bind_some h
  refine sp rfl (Q8 (is := [0, 1]) (ph := []) rfl (dk rfl) Tryz.func91 rfl rfl (Q5.cons rfl (Q5.cons rfl Q5.nil)) (O1 K (flx0 := false) (bx1c0 := g) (bx1c1 := j) ab) (.cons rfl rfl (.cons rfl rfl (.nil))) (fun _ => rfl) (fun ad => ?_))
  refine nm (.c (.c (.n))) ?_
  refine TL'.nil (tN ?_)
  rcases Qd h with ⟨s, h⟩ | ⟨s, h⟩
  refine Qq rfl s ?_
  refine T.seq (Qr ?_)
  refine aw rfl ?_
  refine TL'.nil (tN ?_)
  refine T.ret (Q2 (Qv (Qv (Q2 (Qv ?_)))))
  exact fd rfl (by cases h; exact ⟨rfl, rfl⟩)
  refine Qp rfl s ?_
  refine T.skip (Qn (tN ?_))
  refine Qr ?_
  refine oI rfl ?_
  refine mw rfl ?_
  refine TL'.nil (tN ?_)
  refine Qh ?_ (ih x1 l (wI (m + (1:Int))) x0 g j h)
  exact tq rfl rfl
  refine Qp rfl p ?_
  refine T.exit (Qj (Qj (Qs (tN ?_))))
  refine T.seq (Qr ?_)
  refine aw rfl ?_
  refine TL'.nil (tN ?_)
  refine T.ret ?_
  exact fd rfl (by cases h; exact ⟨rfl, rfl⟩)
theorem Qc7 (K : Nat) {x0 : Ze} {x1 : Qa} {r : Bool} (h : Hx K x0 x1 = some r) : Zm tp 55 [.agg ((Zi.dc 256 .u8 x0.Auto.Split.Of) ++ (([.int .i64 x0.Auto.Split.Many, .sl false 2 (mA x0.Auto.Counts), .sl false 4 (x0.Auto.States.map Qb)] : List DC))), .agg [.sl false 1 (mI x1.L), .sl false 1 (mI x1.R), .sl false 1 (mI x1.Rule), .sl false 1 (x1.Next.map (cL 2 Qf))]] [] (.bool r) := by
 refine Qt Tryz.func55 rfl (nb rfl) ?_
 show T tp 79 (ca [] Tryz.f55) ⟨Qw 0 [.agg ((Zi.dc 256 .u8 x0.Auto.Split.Of) ++ (([.int .i64 x0.Auto.Split.Many, .sl false 2 (mA x0.Auto.Counts), .sl false 4 (x0.Auto.States.map Qb)] : List DC))), .agg [.sl false 1 (mI x1.L), .sl false 1 (mI x1.R), .sl false 1 (mI x1.Rule), .sl false 1 (x1.Next.map (cL 2 Qf))]], []⟩ (J8 r)
 unfold Hx at h
 refine T.seq (Qr ?_)
 refine sp rfl (Zb rfl (dk rfl) rfl (fun l => ?_))
 refine sp rfl (Zb rfl (dk rfl) rfl (fun m => ?_))
 refine aw rfl ?_
 refine TL'.nil (tN (T.seq (Qr ?_)))
 refine oP Wi i38 rfl ?_
 refine oL 0 Zx rfl ?_
 refine oU x1.R (cI .i64) Zx rfl ?_
 obtain ⟨v, p, h⟩ := bind_some h
 refine sp rfl (Q0 rfl (dk rfl) Tryz.func89 rfl rfl (Q5.cons rfl Q5.nil) (Zm.nil (auto_Codes_T K p)) ?_)
 refine aw rfl ?_
 refine TL'.nil (tN ?_)
 refine T.seq ?_
 refine T.seq (Qr ?_)
 refine mw rfl ?_
 refine oI rfl ?_
 refine mw rfl ?_
 rcases Qd h with ⟨b, h⟩ | ⟨b, h⟩
 refine pf rfl b ?_
 refine pf rfl b ?_
 refine pf rfl b ?_
 refine pf rfl b ?_
 refine pf rfl b ?_
 refine oY b rfl ?_
 refine mw rfl ?_
 refine pf rfl rfl ?_
 refine pf rfl rfl ?_
 refine pf rfl rfl ?_
 refine pf rfl rfl ?_
 refine pf rfl rfl ?_
 refine oY rfl rfl ?_
 refine mw rfl ?_
 refine pf rfl rfl ?_
 refine pf rfl rfl ?_
 refine pf rfl rfl ?_
 refine pf rfl rfl ?_
 refine oY rfl rfl ?_
 refine mw rfl ?_
 refine pf rfl rfl ?_
 refine pf rfl rfl ?_
 refine pf rfl rfl ?_
 refine pf rfl rfl ?_
 refine pf rfl rfl ?_
 refine pf rfl rfl ?_
 refine pf rfl rfl ?_
 refine pf rfl rfl ?_
 refine oY rfl rfl ?_
 refine TL'.nil (tN ?_)
 refine Qq rfl rfl ?_
 refine Qm ?_ (Ug K h)
 exact tq rfl rfl
 refine sn rfl b (Zs rfl (dk rfl) Wi rfl i38 (by decide) rfl ?_)
 refine sn rfl b (Zn (i := 0) rfl (dk rfl) Zx rfl rfl rfl rfl ?_)
 refine sn rfl b (Zw (xs := x1.Rule) (f := (cI .i64)) rfl (dk rfl) Zx rfl ?_)
 refine sn rfl b (OpT.move rfl (dk rfl) rfl ?_)
 refine sn rfl b (Zj rfl rfl (dk rfl) rfl rfl ?_)
 refine oZ b rfl ?_
 refine mw rfl ?_
 rcases Qd h with ⟨d, h⟩ | ⟨d, h⟩
 refine pf rfl d ?_
 refine pf rfl d ?_
 refine pf rfl d ?_
 refine pf rfl d ?_
 refine pf rfl d ?_
 refine oY d rfl ?_
 refine mw rfl ?_
 refine pf rfl rfl ?_
 refine pf rfl rfl ?_
 refine pf rfl rfl ?_
 refine pf rfl rfl ?_
 refine oY rfl rfl ?_
 refine mw rfl ?_
 refine pf rfl rfl ?_
 refine pf rfl rfl ?_
 refine pf rfl rfl ?_
 refine pf rfl rfl ?_
 refine pf rfl rfl ?_
 refine pf rfl rfl ?_
 refine pf rfl rfl ?_
 refine pf rfl rfl ?_
 refine oY rfl rfl ?_
 refine TL'.nil (tN ?_)
 refine Qq rfl rfl ?_
 refine Qm ?_ (Ug K h)
 exact tq rfl rfl
 refine sn rfl d (Zs rfl (dk rfl) Wi rfl i49 (by decide) rfl ?_)
 refine sn rfl d (Zn (i := 0) rfl (dk rfl) Fp rfl rfl rfl rfl ?_)
 refine sn rfl d (Zw (xs := x1.Next) (f := (cL 2 Qf)) rfl (dk rfl) Fp rfl ?_)
 refine sn rfl d (OpT.move rfl (dk rfl) rfl ?_)
 refine sn rfl d (Zj rfl rfl (dk rfl) rfl rfl ?_)
 refine oZ d rfl ?_
 refine mw rfl ?_
 rcases Qd h with ⟨g, h⟩ | ⟨g, h⟩
 refine pf rfl g ?_
 refine pf rfl g ?_
 refine pf rfl g ?_
 refine pf rfl g ?_
 refine oY g rfl ?_
 refine mw rfl ?_
 refine pf rfl rfl ?_
 refine pf rfl rfl ?_
 refine pf rfl rfl ?_
 refine pf rfl rfl ?_
 refine pf rfl rfl ?_
 refine pf rfl rfl ?_
 refine pf rfl rfl ?_
 refine pf rfl rfl ?_
 refine oY rfl rfl ?_
 refine TL'.nil (tN ?_)
 refine Qq rfl rfl ?_
 refine Qm ?_ (Ug K h)
 exact tq rfl rfl
 refine sn rfl g (Zs rfl (dk rfl) Wi rfl i38 (by decide) rfl ?_)
 refine sn rfl g (Zn (i := 0) rfl (dk rfl) Zx rfl rfl rfl rfl ?_)
 obtain ⟨w, q, h⟩ := bind_some h
 refine sn rfl g (Q0 rfl (dk rfl) Tryz.func90 rfl rfl (Q5.cons rfl (Q5.cons rfl Q5.nil)) (Zm.nil (Qgx K (flx0 := false) q)) ?_)
 refine sn rfl g (OpT.not rfl (dk rfl) rfl ?_)
 refine oZ g rfl ?_
 refine mw rfl ?_
 rcases Qd h with ⟨a, h⟩ | ⟨a, h⟩
 refine pf rfl a ?_
 refine pf rfl a ?_
 refine pf rfl a ?_
 refine pf rfl a ?_
 refine pf rfl a ?_
 refine pf rfl a ?_
 refine pf rfl a ?_
 refine pf rfl a ?_
 refine oY a rfl ?_
 refine TL'.nil (tN ?_)
 refine Qq rfl rfl ?_
 refine Qm ?_ (Ug K h)
 exact tq rfl rfl
 refine sn rfl a (Zs rfl (dk rfl) Wi rfl i38 (by decide) rfl ?_)
 refine sn rfl a (Zn (i := 0) rfl (dk rfl) Zx rfl rfl rfl rfl ?_)
 refine sn rfl a (Zs rfl (dk rfl) ul107 rfl i28 (by decide) rfl ?_)
 refine sn rfl a (Zs rfl (dk rfl) Uv rfl i25 (by decide) rfl ?_)
 refine sn rfl a (Zn (i := 1) rfl (dk rfl) Qcw rfl rfl rfl rfl ?_)
 refine sn rfl a (Zw (xs := x0.Auto.Counts) (f := (Vr.dc .i64)) rfl (dk rfl) Qcw rfl ?_)
 obtain ⟨y, u, h⟩ := bind_some h
 refine sn rfl a (Q0 rfl (dk rfl) Tryz.func90 rfl rfl (Q5.cons rfl (Q5.cons rfl Q5.nil)) (Zm.nil (Qgx K (flx0 := false) u)) ?_)
 refine sn rfl a (OpT.not rfl (dk rfl) rfl ?_)
 refine oZ a rfl ?_
 refine TL'.nil (tN ?_)
 rcases Qd h with ⟨j, h⟩ | ⟨j, h⟩
 refine Qq rfl j ?_
 refine Qm ?_ (Ug K h)
 exact tq rfl rfl
 refine Qp rfl j ?_
 refine T.skip (tN ?_)
 refine T.seq ?_
 refine T.seq (Qr ?_)
 refine oP Wi i49 rfl ?_
 refine oL 0 Fp rfl ?_
 refine oU x1.Next (cL 2 Qf) Fp rfl ?_
 refine mw rfl ?_
 refine TL'.nil (tN ?_)
 refine T.block ?_
 refine T.loop ?_
 refine Qh ?_ (Tm K K x1 (x1.Next.length : Int) (0:Int) x0 l m h)
 exact tr rfl (.c (.s .z) (.c .z (.n _)))
abbrev auto_Right_1_q (bx1 : Nat) (x1 : Ze) (r : Bool) : ES := J9 tp Tryz.f54 (fun y t => ∃ γ : Nat → Value, y = (.bool r) ∧ t = [(Ge bx1 x1.Auto.Split.Of x1.Auto.Split.Many x1.Auto.Counts x1.Auto.States)])
theorem auto_Right_1_T (K : Nat) {x0 : Qa} {x1 : Ze} {bx1 : Nat} {r : Bool} (h : Pu K x0 x1 = some r) : U7 tp 54 [.agg [.sl false 1 (mI x0.L), .sl false 1 (mI x0.R), .sl false 1 (mI x0.Rule), .sl false 1 (x0.Next.map (cL 2 Qf))], .ptr bx1 0] [(Ge bx1 x1.Auto.Split.Of x1.Auto.Split.Many x1.Auto.Counts x1.Auto.States)] (fun γ => (.bool r)) (fun γ => [(Ge bx1 x1.Auto.Split.Of x1.Auto.Split.Many x1.Auto.Counts x1.Auto.States)]) := by
 refine Qt Tryz.func54 rfl (nb rfl) ?_
 show T tp 8 (ca [] Tryz.f54) ⟨Qw 0 [.agg [.sl false 1 (mI x0.L), .sl false 1 (mI x0.R), .sl false 1 (mI x0.Rule), .sl false 1 (x0.Next.map (cL 2 Qf))], .ptr bx1 0], [(Ge bx1 x1.Auto.Split.Of x1.Auto.Split.Many x1.Auto.Counts x1.Auto.States)]⟩ (auto_Right_1_q bx1 x1 r)
 unfold Pu at h
 refine T.seq (Qr ?_)
 refine sp rfl (Zb rfl (dk rfl) rfl (fun b => ?_))
 refine aw rfl ?_
 refine TL'.nil (tN (T.seq (Qr ?_)))
 refine oA 1 ((Zi.dc 256 .u8 x1.Auto.Split.Of) ++ (([.int .i64 x1.Auto.Split.Many, .sl false 2 (mA x1.Auto.Counts), .sl false 4 (x1.Auto.States.map Qb)] : List DC))) ul107 i107 rfl ?_
 refine oA 0 [.sl false 1 (mI x0.L), .sl false 1 (mI x0.R), .sl false 1 (mI x0.Rule), .sl false 1 (x0.Next.map (cL 2 Qf))] Wi i51 rfl ?_
 obtain ⟨c, a, h⟩ := bind_some h
 refine sp rfl (Q0 rfl (dk rfl) Tryz.func55 rfl rfl (Q5.cons rfl (Q5.cons rfl Q5.nil)) (Zm.nil (Qc7 K a)) ?_)
 refine oT rfl ?_
 refine aw rfl ?_
 refine TL'.nil (tN ?_)
 refine T.ret ?_
 exact Q7 (.cons _ _ _ _ (.tmp 3 _ rfl) .nil) (.cons 1 rfl (.nil _)) (by cases h; exact ⟨gl [], rfl, rfl⟩)
abbrev G1 (bx1c0 : Nat) (x1c0 : Ze) (r : Int) : ES := J9 tp Tryz.f88 (fun y t => ∃ γ : Nat → Value, y = (.int .i64 r) ∧ t = [(Ge bx1c0 x1c0.Auto.Split.Of x1c0.Auto.Split.Many x1c0.Auto.Counts x1c0.Auto.States)])
abbrev Nw (bx1c0 : Nat) (x1c0 : Ze) (r : Int) : ES := thenS (fun s' => T tp 19 (ca [1,1] Tryz.f88) s' ((G1 bx1c0 x1c0 r))) ((G1 bx1c0 x1c0 r))
abbrev Fz (bx1c0 : Nat) (x1c0 : Ze) (r : Int) : ES := Qz 0 ((Nw bx1c0 x1c0 r))
theorem Nx {r : Int} (K bx1c0 : Nat) (x1c0 : Ze) : ∀ (k : Nat), ∀ (x0 : List Qa) (a b : Int) (x1c0 : Ze) (flx0 : Bool), Yr K k x0 a b x1c0 = some r → TL tp 19 (ca [1,0,1,0,0] Tryz.f88) ⟨[(0, .sl flx0 4 (x0.map Qb)), (1, .c (.ex (.func (.func 54) #[] #[.pointer (some ⟨bx1c0, 0, none⟩)]))), (7, .int .i64 a), (8, .int .i64 b)], [(Ge bx1c0 x1c0.Auto.Split.Of x1c0.Auto.Split.Many x1c0.Auto.Counts x1c0.Auto.States)]⟩ (Fz bx1c0 x1c0 r) := by
 intro k
 induction k with
 | zero =>
  intro x0 a b x1c0 flx0 h
  exact zn h
 | succ k ih =>
  intro x0 a b x1c0 flx0 h
  rw [Yr] at h
  refine Q6 ?_
  refine T.seq (Qr ?_)
  refine oI rfl ?_
  refine TL'.nil (tN ?_)
  refine T.seq ?_
  rcases Qd h with ⟨g, h⟩ | ⟨g, h⟩
  refine Qq rfl g ?_
  refine T.skip (tN ?_)
  refine T.seq ?_
  refine T.block ?_
  refine T.seq (Qr ?_)
  refine mw rfl ?_
  refine aw rfl ?_
  refine TL'.nil (tN (T.seq (Qr ?_)))
  iterate 3 refine mw rfl ?_
  obtain ⟨j, l, h⟩ := bind_some h
  refine oX x0 Qb Us i51 l rfl ?_
  refine sp rfl (Za rfl (dk rfl) Wi rfl i51 rfl (nb rfl) ?_)
  obtain ⟨p, m, h⟩ := bind_some h
  refine sp rfl (Pv (f := 54) (vs := [.pointer (some ⟨bx1c0, 0, none⟩)]) rfl rfl (dk rfl) Tryz.func54 rfl rfl (Q8 (is := [0]) (ph := []) rfl (dk rfl) Tryz.func54 rfl rfl (Q5.cons rfl (Q5.cons rfl Q5.nil)) (auto_Right_1_T K (bx1 := bx1c0) m) (.cons rfl rfl (.nil)) (fun _ => rfl) (fun q => ?_)))
  refine nm (.c (.n)) ?_
  refine TL'.nil (tN ?_)
  rcases Qd h with ⟨i, h⟩ | ⟨i, h⟩
  refine Qq rfl i ?_
  refine T.seq (Qr ?_)
  refine mw rfl ?_
  refine aw rfl ?_
  refine TL'.nil (tN ?_)
  refine T.ret (Q2 (Qv (Qv (Q2 (Qv ?_)))))
  exact Q7 (.cons _ _ _ _ (.tmp 4 _ rfl) .nil) (.cons 0 rfl (.nil _)) (by cases h; exact ⟨gl [], rfl, rfl⟩)
  refine Qp rfl i ?_
  refine T.skip (Qn (tN ?_))
  refine Qr ?_
  refine oI rfl ?_
  refine mw rfl ?_
  refine TL'.nil (tN ?_)
  refine Qh ?_ (ih x0 a (wI (b + (1:Int))) x1c0 flx0 h)
  exact tq rfl rfl
  refine Qp rfl g ?_
  refine T.exit (Qj (Qj (Qs (tN ?_))))
  refine T.seq (Qr ?_)
  refine aw rfl ?_
  refine TL'.nil (tN ?_)
  refine T.ret ?_
  exact Q7 (.cons _ _ _ _ (.tmp 4 _ rfl) .nil) (.cons 0 rfl (.nil _)) (by cases h; exact ⟨gl [], rfl, rfl⟩)
theorem R1 (K : Nat) {x0 : List Qa} {x1c0 : Ze} {flx0 : Bool} {bx1c0 : Nat} {r : Int} (h : W4 K x0 x1c0 = some r) : U7 tp 88 [.sl flx0 4 (x0.map Qb), .c (.ex (.func (.func 54) #[] #[.pointer (some ⟨bx1c0, 0, none⟩)]))] [(Ge bx1c0 x1c0.Auto.Split.Of x1c0.Auto.Split.Many x1c0.Auto.Counts x1c0.Auto.States)] (fun γ => (.int .i64 r)) (fun γ => [(Ge bx1c0 x1c0.Auto.Split.Of x1c0.Auto.Split.Many x1c0.Auto.Counts x1c0.Auto.States)]) := by
 refine Qt Tryz.func88 rfl (nb rfl) ?_
 show T tp 19 (ca [] Tryz.f88) ⟨Qw 0 [.sl flx0 4 (x0.map Qb), .c (.ex (.func (.func 54) #[] #[.pointer (some ⟨bx1c0, 0, none⟩)]))], [(Ge bx1c0 x1c0.Auto.Split.Of x1c0.Auto.Split.Many x1c0.Auto.Counts x1c0.Auto.States)]⟩ (G1 bx1c0 x1c0 r)
 unfold W4 at h
 refine T.seq (Qr ?_)
 refine aw rfl ?_
 refine TL'.nil (tN ?_)
 refine T.seq ?_
 refine T.seq (Qr ?_)
 refine mw rfl ?_
 refine oU x0 Qb Us rfl ?_
 refine mw rfl ?_
 refine TL'.nil (tN ?_)
 refine T.block ?_
 refine T.loop ?_
 refine Qh ?_ (Nx K bx1c0 x1c0 K x0 (x0.length : Int) (0:Int) x1c0 flx0 h)
 exact tq rfl rfl
abbrev Ny (bx1c0 : Nat) (x1c0 : Ze) (r : Bool) : ES := J9 tp Tryz.f53 (fun y t => ∃ γ : Nat → Value, y = (.bool r) ∧ t = [(Ge bx1c0 x1c0.Auto.Split.Of x1c0.Auto.Split.Many x1c0.Auto.Counts x1c0.Auto.States)])
theorem Nz (K : Nat) {x0 : List Qa} {x1c0 : Ze} {flx0 : Bool} {bx1c0 : Nat} {r : Bool} (h : Vp K x0 x1c0 = some r) : U7 tp 53 [.sl flx0 4 (x0.map Qb), .c (.ex (.func (.func 54) #[] #[.pointer (some ⟨bx1c0, 0, none⟩)]))] [(Ge bx1c0 x1c0.Auto.Split.Of x1c0.Auto.Split.Many x1c0.Auto.Counts x1c0.Auto.States)] (fun γ => (.bool r)) (fun γ => [(Ge bx1c0 x1c0.Auto.Split.Of x1c0.Auto.Split.Many x1c0.Auto.Counts x1c0.Auto.States)]) := by
 refine Qt Tryz.func53 rfl (nb rfl) ?_
 show T tp 9 (ca [] Tryz.f53) ⟨Qw 0 [.sl flx0 4 (x0.map Qb), .c (.ex (.func (.func 54) #[] #[.pointer (some ⟨bx1c0, 0, none⟩)]))], [(Ge bx1c0 x1c0.Auto.Split.Of x1c0.Auto.Split.Many x1c0.Auto.Counts x1c0.Auto.States)]⟩ (Ny bx1c0 x1c0 r)
 unfold Vp at h
 refine T.seq (Qr ?_)
 refine aw rfl ?_
 refine TL'.nil (tN (T.seq (Qr ?_)))
 refine mw rfl ?_
 refine mw rfl ?_
 obtain ⟨b, a, h⟩ := bind_some h
 refine sp rfl (Q8 (is := [0]) (ph := []) rfl (dk rfl) Tryz.func88 rfl rfl (Q5.cons rfl (Q5.cons rfl Q5.nil)) (R1 K (flx0 := flx0) (bx1c0 := bx1c0) a) (.cons rfl rfl (.nil)) (fun _ => rfl) (fun f => ?_))
 refine nm (.c (.n)) ?_
 refine oI rfl ?_
 refine aw rfl ?_
 refine TL'.nil (tN ?_)
 refine T.ret ?_
 exact Q7 (.cons _ _ _ _ (.tmp 4 _ rfl) .nil) (.cons 0 rfl (.nil _)) (by cases h; exact ⟨gl [], rfl, rfl⟩)
abbrev Fl (r : Bool) : ES := J9 tp Tryz.f24 (fun y t => y = (.bool r) ∧ t = [])
abbrev Qh8 (r : Bool) : ES := thenS (fun s' => T tp 79 (ca [1,1] Tryz.f24) s' ((Fl r))) ((Fl r))
abbrev Qhf (r : Bool) : ES := thenS (fun s' => T tp 79 (ca [1,1,1] Tryz.f24) s' ((Fl r))) ((Fl r))
abbrev Dx (r : Bool) : ES := Qz 0 ((Qhf r))
abbrev Pt (r : Bool) : ES := thenS (fun s' => TL tp 79 (ca [1,1,0,1,0,0] Tryz.f24) s' ((Dx r))) ((Dx r))
abbrev Qbl (r : Bool) : ES := thenS (fun s' => T tp 79 (ca [1,1,0,1,0,0,1,1,1] Tryz.f24) s' ((Pt r))) ((Pt r))
abbrev Pp (r : Bool) : ES := Qz 1 ((Qbl r))
theorem Mh {r : Bool} (K : Nat) (h : X6 K = some r) : T tp 79 (ca [1,0,1,0] Tryz.f24) ⟨[], []⟩ (Qh8 r) := by
 unfold X6 at h
 refine T.seq (Qr ?_)
 refine aw rfl ?_
 refine TL'.nil (tN ?_)
 refine T.ret (Qv ?_)
 exact fd rfl (by cases h; exact ⟨rfl, rfl⟩)
theorem Dy {r : Bool} (K : Nat) (h : L9 K = some r) : T tp 79 (ca [1,1,0,1,0,0,1,1,0,0,1,1,0] Tryz.f24) ⟨[], []⟩ (Pp r) := by
 unfold L9 at h
 refine T.seq (Qr ?_)
 refine aw rfl ?_
 refine TL'.nil (tN ?_)
 refine T.ret (Q2 (Qv (Qv (Q2 (Qv ?_)))))
 exact fd rfl (by cases h; exact ⟨rfl, rfl⟩)
theorem Qh9 {r : Bool} (K : Nat) : ∀ (k : Nat), ∀ (x0 : Ql) (p q : Int) (u : Nat), Hy K k x0 p q = some r → TL tp 79 (ca [1,1,0,1,0,0] Tryz.f24) ⟨[(1, .ptr u 0), (45, .sl false 2 (mA x0.Counts)), (46, .int .i64 p), (47, .int .i64 q)], [(Qbg u x0.Split.Of x0.Split.Many x0.Counts x0.States)]⟩ (Dx r) := by
 intro k
 induction k with
 | zero =>
  intro x0 p q u h
  exact zn h
 | succ k ih =>
  intro x0 p q u h
  rw [Hy] at h
  refine Q6 ?_
  refine T.seq (Qr ?_)
  refine oI rfl ?_
  refine TL'.nil (tN ?_)
  refine T.seq ?_
  rcases Qd h with ⟨w, h⟩ | ⟨w, h⟩
  refine Qq rfl w ?_
  refine T.skip (tN ?_)
  refine T.seq ?_
  refine T.block ?_
  refine T.seq (Qr ?_)
  obtain ⟨m, ab, h⟩ := bind_some h
  refine oX x0.Counts (Vr.dc .i64) Qcw i59 ab rfl ?_
  refine sp rfl (Za rfl (dk rfl) ul59 rfl i59 rfl (nb rfl) ?_)
  refine sp rfl (Zh rfl (dk rfl) i59 rfl (fun ad => ?_))
  refine sp rfl (Qy (i := 0) (cells' := (Vr.oc .i64 m)) rfl rfl i59 rfl rfl rfl rfl (nb rfl) rfl ?_)
  refine TL'.nil (tN (T.seq (Qr ?_)))
  refine sp rfl (Y8 rfl (dk rfl) ul59 i3 rfl rfl (by decide) (by decide) ?_)
  refine sp rfl (Zn (i := 0) rfl (dk rfl) ul3 rfl rfl rfl (Ga (k := .i64) (a := m) (pre := []) (post := []) (by decide) (by decide)) ?_)
  refine oI rfl ?_
  refine mw rfl ?_
  rcases Qd h with ⟨b, h⟩ | ⟨b, h⟩
  refine pf rfl b ?_
  refine pf rfl b ?_
  refine pf rfl b ?_
  refine pf rfl b ?_
  refine pf rfl b ?_
  refine oY b rfl ?_
  refine mw rfl ?_
  refine pf rfl rfl ?_
  refine pf rfl rfl ?_
  refine pf rfl rfl ?_
  refine oY rfl rfl ?_
  refine mw rfl ?_
  refine pf rfl rfl ?_
  refine pf rfl rfl ?_
  refine pf rfl rfl ?_
  refine oY rfl rfl ?_
  refine TL'.nil (tN ?_)
  refine Qq rfl rfl ?_
  refine Qm ?_ (Dy K h)
  exact tq rfl rfl
  refine sn rfl b (Y8 rfl (dk rfl) ul59 i3 rfl rfl (by decide) (by decide) ?_)
  refine sn rfl b (Zn (i := 0) rfl (dk rfl) ul3 rfl rfl rfl (Ga (k := .i64) (a := m) (pre := []) (post := []) (by decide) (by decide)) ?_)
  refine sn rfl b (Y8 rfl (dk rfl) ul59 i3 rfl rfl (by decide) (by decide) ?_)
  refine sn rfl b (Zn (i := 0) rfl (dk rfl) ul3 rfl rfl rfl (Ga (k := .i64) (a := m) (pre := []) (post := []) (by decide) (by decide)) ?_)
  refine sn rfl b (Zj rfl rfl (dk rfl) rfl rfl ?_)
  refine oZ b rfl ?_
  refine mw rfl ?_
  rcases Qd h with ⟨g, h⟩ | ⟨g, h⟩
  refine pf rfl g ?_
  refine pf rfl g ?_
  refine pf rfl g ?_
  refine oY g rfl ?_
  refine mw rfl ?_
  refine pf rfl rfl ?_
  refine pf rfl rfl ?_
  refine pf rfl rfl ?_
  refine oY rfl rfl ?_
  refine TL'.nil (tN ?_)
  refine Qq rfl rfl ?_
  refine Qm ?_ (Dy K h)
  exact tq rfl rfl
  refine sn rfl g (Y8 rfl (dk rfl) ul59 i3 rfl rfl (by decide) (by decide) ?_)
  refine sn rfl g (Zn (i := 0) rfl (dk rfl) ul3 rfl rfl rfl (Ga (k := .i64) (a := m) (pre := []) (post := []) (by decide) (by decide)) ?_)
  refine sn rfl g (Zj rfl rfl (dk rfl) rfl rfl ?_)
  refine oZ g rfl ?_
  refine mw rfl ?_
  rcases Qd h with ⟨j, h⟩ | ⟨j, h⟩
  refine pf rfl j ?_
  refine pf rfl j ?_
  refine pf rfl j ?_
  refine oY j rfl ?_
  refine TL'.nil (tN ?_)
  refine Qq rfl rfl ?_
  refine Qm ?_ (Dy K h)
  exact tq rfl rfl
  refine sn rfl j (Y8 rfl (dk rfl) ul59 i3 rfl rfl (by decide) (by decide) ?_)
  refine sn rfl j (Zn (i := 0) rfl (dk rfl) ul3 rfl rfl rfl (Ga (k := .i64) (a := m) (pre := []) (post := []) (by decide) (by decide)) ?_)
  refine sn rfl j (Zj rfl rfl (dk rfl) rfl rfl ?_)
  refine oZ j rfl ?_
  refine TL'.nil (tN ?_)
  rcases Qd h with ⟨y, h⟩ | ⟨y, h⟩
  refine Qq rfl y ?_
  refine Qm ?_ (Dy K h)
  exact tq rfl rfl
  refine Qp rfl y ?_
  refine T.skip (Qn (tN ?_))
  refine Qr ?_
  refine oI rfl ?_
  refine mw rfl ?_
  refine TL'.nil (tN ?_)
  refine Qh ?_ (ih x0 p (wI (q + (1:Int))) u h)
  exact tr rfl (.c (.s .z) (.n _))
  refine Qp rfl w ?_
  refine T.exit (Qj (Qj (Qs (tN ?_))))
  refine T.seq (Qr ?_)
  refine oA 0 ((Zi.dc 256 .u8 x0.Split.Of) ++ (([.int .i64 x0.Split.Many, .sl false 2 (mA x0.Counts), .sl false 4 (x0.States.map Qb)] : List DC))) Uv i28 rfl ?_
  refine sp rfl (OpT.build (l := ((Zi.dc 256 .u8 x0.Split.Of) ++ (([.int .i64 x0.Split.Many, .sl false 2 (mA x0.Counts), .sl false 4 (x0.States.map Qb)] : List DC)))) rfl (dk rfl) (Zv (pl := [(0, 259)]) ul107 i107 rfl) (M1 rfl) rfl rfl ?_)
  refine sp rfl (Zh rfl (dk rfl) i107 rfl (fun aa => ?_))
  refine sp rfl (Qy (i := 0) (cells' := ((Zi.oc 256 .u8 x0.Split.Of) ++ (([.d (.int .i64 x0.Split.Many), .d (.sl false 2 (mA x0.Counts)), .d (.sl false 4 (x0.States.map Qb))]:List OC)))) rfl rfl i107 rfl rfl rfl rfl (nb rfl) rfl ?_)
  refine TL'.nil (tN (T.seq (Qr ?_)))
  refine oP Uv i26 rfl ?_
  refine oL 1 Us rfl ?_
  refine sp rfl (OpT.makeFunc (vs := [.pointer (some ⟨aa, 0, none⟩)]) rfl (dk rfl) rfl ?_)
  obtain ⟨af, ac, h⟩ := bind_some h
  refine sp rfl (Q8 (is := [0]) (ph := []) rfl (dk rfl) Tryz.func53 rfl rfl (Q5.cons rfl (Q5.cons rfl Q5.nil)) (Nz K (flx0 := false) (bx1c0 := aa) ac) (.cons rfl rfl (.nil)) (fun _ => rfl) (fun ag => ?_))
  refine nm (.c (.c (.n))) ?_
  refine oT rfl ?_
  refine aw rfl ?_
  refine TL'.nil (tN ?_)
  refine T.ret ?_
  exact fd rfl (by cases h; exact ⟨rfl, rfl⟩)
theorem Qck (K : Nat) {x0 : Ql} {r : Bool} (h : Wl K x0 = some r) : Zm tp 24 [.agg ((Zi.dc 256 .u8 x0.Split.Of) ++ (([.int .i64 x0.Split.Many, .sl false 2 (mA x0.Counts), .sl false 4 (x0.States.map Qb)] : List DC)))] [] (.bool r) := by
 refine Qt Tryz.func24 rfl (nb rfl) ?_
 show T tp 79 (ca [] Tryz.f24) ⟨Qw 0 [.agg ((Zi.dc 256 .u8 x0.Split.Of) ++ (([.int .i64 x0.Split.Many, .sl false 2 (mA x0.Counts), .sl false 4 (x0.States.map Qb)] : List DC)))], []⟩ (Fl r)
 unfold Wl at h
 refine T.seq (Qr ?_)
 refine sp rfl (Zb rfl (dk rfl) rfl (fun b => ?_))
 refine aw rfl ?_
 refine TL'.nil (tN ?_)
 refine T.seq ?_
 refine T.seq ?_
 refine Yk ?_
 refine dP rfl (.f rfl) Uv i24 rfl ?_
 refine dW 0 ((Zi.dc 256 .u8 x0.Split.Of) ++ (([.int .i64 x0.Split.Many] : List DC))) rfl (.f rfl) Qhi i24 rfl ?_
 obtain ⟨q, y, h⟩ := bind_some h
 refine dS (c := ⟨some 8, .bool q, [(7, .agg ((Zi.dc 256 .u8 x0.Split.Of) ++ (([.int .i64 x0.Split.Many] : List DC))))], [], []⟩) (fun t hm => oF rfl rfl (Q0 rfl (dk rfl) Tryz.func52 rfl rfl (Q5.cons hm.s0 Q5.nil) (Zm.nil (split_Right_T K y)) rfl)) rfl rfl ?_
 refine dS (c := ⟨some 9, .bool (!q), [(8, .bool q)], [], []⟩) (fun t hm => oF rfl rfl (OpT.not rfl (dk rfl) hm.s0 rfl)) rfl rfl ?_
 refine dV rfl rfl ?_
 rcases Qd h with ⟨j, h⟩ | ⟨j, h⟩
 refine dO j rfl rfl ?_
 refine dO j rfl rfl ?_
 refine dO j rfl rfl ?_
 refine dO j rfl rfl ?_
 refine dY rfl (.f rfl) j rfl ?_
 refine dV rfl rfl ?_
 refine dO rfl rfl rfl ?_
 refine dO rfl rfl rfl ?_
 refine dO rfl rfl rfl ?_
 refine dO rfl rfl rfl ?_
 refine dY rfl (.f rfl) rfl rfl ?_
 refine dV rfl rfl ?_
 refine dO rfl rfl rfl ?_
 refine dO rfl rfl rfl ?_
 refine dO rfl rfl rfl ?_
 refine dO rfl rfl rfl ?_
 refine dY rfl (.f rfl) rfl rfl ?_
 refine dV rfl rfl ?_
 refine dO rfl rfl rfl ?_
 refine dO rfl rfl rfl ?_
 refine dO rfl rfl rfl ?_
 refine dO rfl rfl rfl ?_
 refine dO rfl rfl rfl ?_
 refine dO rfl rfl rfl ?_
 refine dO rfl rfl rfl ?_
 refine dO rfl rfl rfl ?_
 refine dO rfl rfl rfl ?_
 refine dO rfl rfl rfl ?_
 refine dO rfl rfl rfl ?_
 refine dO rfl rfl rfl ?_
 refine dO rfl rfl rfl ?_
 refine dO rfl rfl rfl ?_
 refine dY rfl (.f rfl) rfl rfl ?_
 refine dF [0,1,3,7,15,31,63,127,255,511,1023,2047,4095,8191,16383,32767,65535,131071,262143,524287,1048575,2097151,4194303,8388607,16777215,33554431,67108863,134217727,268435455,8388607,545259519,1619001343,3766484991,8061452287,16651386879,34359738367,68719476735,137438953471] Q3 rfl (by kernel_rfl) (fun u hu => (tN (Qm hu ?_)))
 refine Qq rfl rfl ?_
 refine Qm ?_ (Mh K h)
 exact tq rfl rfl
 refine dP rfl (.n j rfl) Uv i25 rfl ?_
 refine dL 0 rfl (.n j rfl) Qcw rfl ?_
 refine dN x0.Counts (Vr.dc .i64) rfl (.n j rfl) Qcw rfl ?_
 refine dI rfl (.n j rfl) rfl ?_
 refine dZ rfl (.f rfl) j rfl ?_
 refine dV rfl rfl ?_
 rcases Qd h with ⟨m, h⟩ | ⟨m, h⟩
 refine dO m rfl rfl ?_
 refine dO m rfl rfl ?_
 refine dO m rfl rfl ?_
 refine dO m rfl rfl ?_
 refine dY rfl (.f rfl) m rfl ?_
 refine dV rfl rfl ?_
 refine dO rfl rfl rfl ?_
 refine dO rfl rfl rfl ?_
 refine dO rfl rfl rfl ?_
 refine dO rfl rfl rfl ?_
 refine dY rfl (.f rfl) rfl rfl ?_
 refine dV rfl rfl ?_
 refine dO rfl rfl rfl ?_
 refine dO rfl rfl rfl ?_
 refine dO rfl rfl rfl ?_
 refine dO rfl rfl rfl ?_
 refine dO rfl rfl rfl ?_
 refine dO rfl rfl rfl ?_
 refine dO rfl rfl rfl ?_
 refine dO rfl rfl rfl ?_
 refine dO rfl rfl rfl ?_
 refine dO rfl rfl rfl ?_
 refine dO rfl rfl rfl ?_
 refine dO rfl rfl rfl ?_
 refine dO rfl rfl rfl ?_
 refine dO rfl rfl rfl ?_
 refine dY rfl (.f rfl) rfl rfl ?_
 refine dF [0,1,3,7,15,31,63,127,255,511,1023,2047,4095,8191,16383,32767,65535,131071,262143,524287,1048575,2097151,4194303,8388607,16777215,33554431,67108863,134217727,268435455,8388607,545259519,1619001343,3766484991,8061452287,16651386879,34359738367,68719476735,137438953471] Q3 rfl (by kernel_rfl) (fun u hu => (tN (Qm hu ?_)))
 refine Qq rfl rfl ?_
 refine Qm ?_ (Mh K h)
 exact tq rfl rfl
 refine dP rfl (.n m rfl) Uv i26 rfl ?_
 refine dL 0 rfl (.n m rfl) Us rfl ?_
 refine dN x0.States Qb rfl (.n m rfl) Us rfl ?_
 refine dI rfl (.n m rfl) rfl ?_
 refine dZ rfl (.f rfl) m rfl ?_
 refine dV rfl rfl ?_
 rcases Qd h with ⟨p, h⟩ | ⟨p, h⟩
 refine dO p rfl rfl ?_
 refine dO p rfl rfl ?_
 refine dO p rfl rfl ?_
 refine dO p rfl rfl ?_
 refine dY rfl (.f rfl) p rfl ?_
 refine dV rfl rfl ?_
 refine dO rfl rfl rfl ?_
 refine dO rfl rfl rfl ?_
 refine dO rfl rfl rfl ?_
 refine dO rfl rfl rfl ?_
 refine dO rfl rfl rfl ?_
 refine dO rfl rfl rfl ?_
 refine dO rfl rfl rfl ?_
 refine dO rfl rfl rfl ?_
 refine dO rfl rfl rfl ?_
 refine dO rfl rfl rfl ?_
 refine dO rfl rfl rfl ?_
 refine dO rfl rfl rfl ?_
 refine dO rfl rfl rfl ?_
 refine dO rfl rfl rfl ?_
 refine dY rfl (.f rfl) rfl rfl ?_
 refine dF [0,1,3,7,15,31,63,127,255,511,1023,2047,4095,8191,16383,32767,65535,131071,262143,524287,1048575,2097151,4194303,8388607,16777215,33554431,67108863,134217727,268435455,8388607,545259519,1619001343,3766484991,8061452287,16651386879,34359738367,68719476735,137438953471] Q3 rfl (by kernel_rfl) (fun u hu => (tN (Qm hu ?_)))
 refine Qq rfl rfl ?_
 refine Qm ?_ (Mh K h)
 exact tq rfl rfl
 refine dP rfl (.n p rfl) Uv i26 rfl ?_
 refine dL 0 rfl (.n p rfl) Us rfl ?_
 refine dN x0.States Qb rfl (.n p rfl) Us rfl ?_
 refine dI rfl (.n p rfl) rfl ?_
 refine dZ rfl (.f rfl) p rfl ?_
 refine dV rfl rfl ?_
 rcases Qd h with ⟨g, h⟩ | ⟨g, h⟩
 refine dO g rfl rfl ?_
 refine dO g rfl rfl ?_
 refine dO g rfl rfl ?_
 refine dO g rfl rfl ?_
 refine dO g rfl rfl ?_
 refine dO g rfl rfl ?_
 refine dO g rfl rfl ?_
 refine dO g rfl rfl ?_
 refine dO g rfl rfl ?_
 refine dO g rfl rfl ?_
 refine dO g rfl rfl ?_
 refine dO g rfl rfl ?_
 refine dO g rfl rfl ?_
 refine dO g rfl rfl ?_
 refine dY rfl (.f rfl) g rfl ?_
 refine dF [0,1,3,7,15,31,63,127,255,511,1023,2047,4095,8191,16383,32767,65535,131071,262143,524287,1048575,2097151,4194303,8388607,16777215,33554431,67108863,134217727,268435455,8388607,545259519,1619001343,3766484991,8061452287,16651386879,34359738367,68719476735,137438953471] Q3 rfl (by kernel_rfl) (fun u hu => (tN (Qm hu ?_)))
 refine Qq rfl rfl ?_
 refine Qm ?_ (Mh K h)
 exact tq rfl rfl
 refine dP rfl (.n g rfl) Uv i26 rfl ?_
 refine dL 0 rfl (.n g rfl) Us rfl ?_
 obtain ⟨a, w, h⟩ := bind_some h
 refine dX x0.States Qb rfl (.n g rfl) Us i51 w rfl ?_
 refine dQ rfl (.n g rfl) Wi i38 rfl ?_
 refine dR rfl (.n g rfl) Zx rfl ?_
 refine dN a.L (cI .i64) rfl (.n g rfl) Zx rfl ?_
 refine dP rfl (.n g rfl) Uv i26 rfl ?_
 refine dL 0 rfl (.n g rfl) Us rfl ?_
 refine dX x0.States Qb rfl (.n g rfl) Us i51 w rfl ?_
 refine dQ rfl (.n g rfl) Wi i38 rfl ?_
 refine dR rfl (.n g rfl) Zx rfl ?_
 refine dN a.R (cI .i64) rfl (.n g rfl) Zx rfl ?_
 refine dI rfl (.n g rfl) rfl ?_
 refine dI rfl (.n g rfl) rfl ?_
 refine dZ rfl (.f rfl) g rfl ?_
 refine dF [0,1,3,7,15,31,63,127,255,511,1023,2047,4095,8191,16383,32767,65535,131071,262143,524287,1048575,2097151,4194303,8388607,16777215,33554431,67108863,134217727,268435455,8388607,545259519,1619001343,3766484991,8061452287,16651386879,34359738367,68719476735,137438953471] Q3 rfl (by kernel_rfl) (fun u hu => (tN (Qm hu ?_)))
 rcases Qd h with ⟨s, h⟩ | ⟨s, h⟩
 refine Qq rfl s ?_
 refine Qm ?_ (Mh K h)
 exact tq rfl rfl
 refine Qp rfl s ?_
 refine T.skip (tN ?_)
 refine T.seq ?_
 refine T.seq (Qr ?_)
 refine oP Uv i25 rfl ?_
 refine oL 0 Qcw rfl ?_
 refine oU x0.Counts (Vr.dc .i64) Qcw rfl ?_
 refine mw rfl ?_
 refine TL'.nil (tN ?_)
 refine T.block ?_
 refine T.loop ?_
 refine Qh ?_ (Qh9 K K x0 (x0.Counts.length : Int) (0:Int) b h)
 exact tq rfl rfl
abbrev Qbx (r : List Vr) : ES := J9 tp Tryz.f25 (fun y t => y = (.sl false 2 (mA r)) ∧ t = [])
theorem Qby (K : Nat) {x0 : List Vr} {flx0 : Bool} {r : List Vr} (h : Lt K x0 = some r) : Zm tp 25 [.sl flx0 2 (mA x0)] [] (.sl false 2 (mA r)) := by
 refine Qt Tryz.func25 rfl (nb rfl) ?_
 show T tp 8 (ca [] Tryz.f25) ⟨Qw 0 [.sl flx0 2 (mA x0)], []⟩ (Qbx r)
 unfold Lt at h
 refine T.seq (Qr ?_)
 refine aw rfl ?_
 refine TL'.nil (tN ?_)
 refine T.seq ?_
 refine T.seq (Qr ?_)
 refine mw rfl ?_
 refine sp rfl (Qih (xs := x0) (f := (Vr.dc .i64)) rfl (dk rfl) Qcw rfl rfl (fun b c => ?_))
 refine TL'.nil (tN ?_)
 rcases Bool.eq_false_or_eq_true b with a | a
 have hx := c a
 replace h : (some []) = some r := by first | (rw [hx] at h; exact h) | exact h
 refine Qq rfl a ?_
 refine T.seq (Qr ?_)
 refine aw rfl ?_
 refine TL'.nil (tN ?_)
 refine T.ret (Qv ?_)
 refine X7 (So 2 false 2 rfl) ?_
 exact fd rfl (by cases h; exact ⟨rfl, rfl⟩)
 refine Qp rfl a ?_
 refine T.skip (tN ?_)
 refine T.seq (Qr ?_)
 refine sp rfl (OpT.buildSlice (elems := ([] : List Vr).map (Vr.dc .i64)) rfl (dk rfl) Qcw i59 (by decide) rfl (M1 rfl) rfl rfl rfl (Uf rfl) (by decide) ?_)
 refine mw rfl ?_
 obtain ⟨d, h⟩ := Zf h
 refine sp rfl (Rt (xs := ([] : List Vr)) (ys := x0) (f := (Vr.dc .i64)) rfl (dk rfl) Qcw i59 rfl rfl rfl (.inr rfl) d (fun g => ?_))
 refine aw rfl ?_
 refine TL'.nil (tN ?_)
 refine T.ret ?_
 refine X7 (Z6.view 2 0 rfl rfl) ?_
 exact fd rfl (by cases h; exact ⟨rfl, rfl⟩)
abbrev Qcx (bx0 : Nat) (r : Int × Bool × Yf) : ES := J9 tp Tryz.f34 (fun y t => ∃ γ : Nat → Value, y = (.tup [.int .i64 r.1, .bool r.2.1]) ∧ t = [(Tl bx0 (γ 0)), .arrX (γ 0) 3 1 0 (mI r.2.2.l)])
theorem Iv (K : Nat) {x0 : Yf} {bx0 : Nat} {wx0c0 : Value} {r : Int × Bool × Yf} (h : Y3 K x0 = some r) : U7 tp 34 [.ptr bx0 0] [(Tl bx0 wx0c0), .arrX wx0c0 3 1 0 (mI x0.l)] (fun γ => (.tup [.int .i64 r.1, .bool r.2.1])) (fun γ => [(Tl bx0 (γ 0)), .arrX (γ 0) 3 1 0 (mI r.2.2.l)]) := by
 refine Qt Tryz.func34 rfl (nb rfl) ?_
 show T tp 38 (ca [] Tryz.f34) ⟨Qw 0 [.ptr bx0 0], [(Tl bx0 wx0c0), .arrX wx0c0 3 1 0 (mI x0.l)]⟩ (Qcx bx0 r)
 unfold Y3 at h
 refine T.seq (Qr ?_)
 refine aw rfl ?_
 refine aw rfl ?_
 refine TL'.nil (tN ?_)
 refine T.seq ?_
 refine T.seq (Qr ?_)
 refine mw rfl ?_
 refine oK rfl ?_
 refine oP ul74 i38 rfl ?_
 refine oL 0 Zx rfl ?_
 refine sp rfl (H0 (i := 1) (xs := x0.l) (f := (cI .i64)) rfl (dk rfl) Zx rfl rfl ?_)
 refine oI rfl ?_
 refine TL'.nil (tN ?_)
 rcases Qd h with ⟨g, h⟩ | ⟨g, h⟩
 refine Qq rfl g ?_
 refine T.seq (Qr ?_)
 refine mw rfl ?_
 refine aw rfl ?_
 refine aw rfl ?_
 refine TL'.nil (tN ?_)
 refine T.ret (Qv ?_)
 exact Q7 (.cons _ _ _ _ (.tmp 2 _ rfl) (.cons _ _ _ _ (.tmp 3 _ rfl) .nil)) (.cons 0 rfl (.cons 0 rfl (.nil _))) (by cases h; exact ⟨gl [wx0c0], rfl, rfl⟩)
 refine Qp rfl g ?_
 refine T.skip (tN ?_)
 refine T.seq ?_
 refine Yk ?_
 refine dV rfl rfl ?_
 refine dK rfl (.f rfl) rfl ?_
 refine dP rfl (.f rfl) ul74 i38 rfl ?_
 refine dL 0 rfl (.f rfl) Zx rfl ?_
 refine dV rfl rfl ?_
 refine dK rfl (.f rfl) rfl ?_
 refine dP rfl (.f rfl) ul74 i38 rfl ?_
 refine dL 0 rfl (.f rfl) Zx rfl ?_
 refine dS (c := ⟨some 19, .int .i64 (x0.l.length : Int), [(18, .c (.ex wx0c0))], [(1, .arrX wx0c0 3 1 0 (mI x0.l))], []⟩) (fun t hm => oF rfl rfl (H0 (i := 1) (xs := x0.l) (f := (cI .i64)) rfl (dk rfl) Zx hm.s0 hm.o0 rfl)) rfl rfl ?_
 refine dI rfl (.f rfl) rfl ?_
 obtain ⟨b, j, h⟩ := bind_some h
 refine dS (c := ⟨some 21, .el wx0c0 1 (Int.toNat (wI ((x0.l.length : Int) - (1:Int)))) 0, [(14, .c (.ex wx0c0)), (20, .int .i64 (wI ((x0.l.length : Int) - (1:Int))))], [(1, .arrX wx0c0 3 1 0 (mI x0.l))], []⟩) (fun t hm => oF rfl rfl (Yb (n := 1) (xs := x0.l) (f := (cI .i64)) (old := b) rfl (dk rfl) Zx i3 hm.s0 hm.o0 hm.s1 j rfl)) rfl rfl ?_
 refine dS (c := ⟨some 22, .int .i64 b, [(21, .el wx0c0 1 (Int.toNat (wI ((x0.l.length : Int) - (1:Int)))) 0)], [(1, .arrX wx0c0 3 1 0 (mI x0.l))], []⟩) (fun t hm => oF rfl rfl (Hq (i := 1) (xs := x0.l) (f := (cI .i64)) (old := b) rfl (dk rfl) ul3 rfl hm.s0 hm.o0 (Zu j).2 rfl rfl)) rfl rfl ?_
 refine dS (c := ⟨some 2, .int .i64 b, [(22, .int .i64 b)], [], []⟩) (fun t hm => oF rfl rfl (OpT.assign rfl (dk rfl) hm.s0 rfl)) rfl rfl ?_
 refine dF [0,1,3,7,0,16,48,112,240,496,1023,2047,4095] Q3 rfl (by kernel_rfl) (fun u hu => (tN (Qm hu ?_)))
 refine T.seq ?_
 refine H1 ?_
 refine dC (c := ⟨some 23, .ptr bx0 0, [(0, .ptr bx0 0)], [], []⟩) (fun t hm => oF rfl rfl (OpT.move rfl (dk rfl) hm.s0 ⟨u0, rfl⟩)) (fun _ => rfl) (fun _ => rfl) ?_
 refine dC (c := ⟨some 24, .ptr bx0 0, [(0, .ptr bx0 0)], [], []⟩) (fun t hm => oF rfl rfl (OpT.move rfl (dk rfl) hm.s0 ⟨u0, rfl⟩)) (fun _ => rfl) (fun _ => rfl) ?_
 refine dC (c := ⟨some 25, .ptr bx0 0, [(24, .ptr bx0 0)], [], []⟩) (fun t hm => oF rfl rfl (OpT.nilCheck rfl (dk rfl) hm.s0 rfl ⟨u0, rfl⟩)) (fun _ => rfl) (fun _ => rfl) ?_
 refine dC (c := ⟨some 26, .ptr bx0 (0 + 0), [(25, .ptr bx0 0)], [], []⟩) (fun t hm => oF rfl rfl (Zs rfl (dk rfl) ul74 rfl i38 (by decide) hm.s0 ⟨u0, rfl⟩)) (fun _ => rfl) (fun _ => rfl) ?_
 refine dC (c := ⟨some 27, .c (.ex wx0c0), [(26, .ptr bx0 (0 + 0))], [(0, (Tl bx0 wx0c0))], []⟩) (fun t hm => oF rfl rfl (Zn (i := 0) rfl (dk rfl) Zx rfl hm.s0 hm.o0 rfl ⟨u0, rfl⟩)) (fun _ => rfl) (fun _ => rfl) ?_
 refine dC (c := ⟨some 28, .ptr bx0 0, [(0, .ptr bx0 0)], [], []⟩) (fun t hm => oF rfl rfl (OpT.move rfl (dk rfl) hm.s0 ⟨u0, rfl⟩)) (fun _ => rfl) (fun _ => rfl) ?_
 refine dC (c := ⟨some 29, .ptr bx0 0, [(28, .ptr bx0 0)], [], []⟩) (fun t hm => oF rfl rfl (OpT.nilCheck rfl (dk rfl) hm.s0 rfl ⟨u0, rfl⟩)) (fun _ => rfl) (fun _ => rfl) ?_
 refine dC (c := ⟨some 30, .ptr bx0 (0 + 0), [(29, .ptr bx0 0)], [], []⟩) (fun t hm => oF rfl rfl (Zs rfl (dk rfl) ul74 rfl i38 (by decide) hm.s0 ⟨u0, rfl⟩)) (fun _ => rfl) (fun _ => rfl) ?_
 refine dC (c := ⟨some 31, .c (.ex wx0c0), [(30, .ptr bx0 (0 + 0))], [(0, (Tl bx0 wx0c0))], []⟩) (fun t hm => oF rfl rfl (Zn (i := 0) rfl (dk rfl) Zx rfl hm.s0 hm.o0 rfl ⟨u0, rfl⟩)) (fun _ => rfl) (fun _ => rfl) ?_
 refine dC (c := ⟨some 32, .int .i64 (x0.l.length : Int), [(31, .c (.ex wx0c0))], [(1, .arrX wx0c0 3 1 0 (mI x0.l))], []⟩) (fun t hm => oF rfl rfl (H0 (i := 1) (xs := x0.l) (f := (cI .i64)) rfl (dk rfl) Zx hm.s0 hm.o0 ⟨u0, rfl⟩)) (fun _ => rfl) (fun _ => rfl) ?_
 refine dC (c := ⟨some 33, .int .i64 (wI ((x0.l.length : Int) - (1:Int))), [(32, .int .i64 (x0.l.length : Int))], [], []⟩) (fun t hm => oF rfl rfl (Zj rfl rfl (dk rfl) hm.s0 rfl ⟨u0, rfl⟩)) (fun _ => rfl) (fun _ => rfl) ?_
 obtain ⟨m, h⟩ := Zf h
 refine DGG.step (c := fun a => ⟨some 34, .c (.ex ((a 11).1 0)), [(27, .c (.ex wx0c0)), (33, .int .i64 (wI ((x0.l.length : Int) - (1:Int))))], [(1, .arrX wx0c0 3 1 0 (mI x0.l))], [(1, .arrX ((a 11).1 0) 3 1 0 ((x0.l.take (Int.toNat (wI ((x0.l.length : Int) - (1:Int))))).map (cI .i64)))]⟩) [11] (fun a γ' h => by simp only [h 11 (by decide)]) (fun a t hm => oF rfl rfl (OpT.sliceX (i := 1) (xs := x0.l) (f := (cI .i64)) (h := (Int.toNat (wI ((x0.l.length : Int) - (1:Int))))) rfl (dk rfl) Zx i3 hm.s0 hm.o0 (.some _ _ _ _ hm.s1 m.1) m.2 (fun w => ⟨(fun _ => w, 0), rfl⟩))) (fun a => Z3 rfl rfl) ?_
 refine dC (c := ⟨some 35, .ptr bx0 0, [(23, .ptr bx0 0)], [], []⟩) (fun t hm => oF rfl rfl (OpT.nilCheck rfl (dk rfl) hm.s0 rfl ⟨u0, rfl⟩)) (fun _ => rfl) (fun _ => rfl) ?_
 refine dC (c := ⟨some 36, .ptr bx0 (0 + 0), [(35, .ptr bx0 0)], [], []⟩) (fun t hm => oF rfl rfl (Zs rfl (dk rfl) ul74 rfl i38 (by decide) hm.s0 ⟨u0, rfl⟩)) (fun _ => rfl) (fun _ => rfl) ?_
 refine DGG.step (c := fun a => ⟨none, .any, [(36, .ptr bx0 (0 + 0)), (34, .c (.ex ((a 11).1 0)))], [(0, (Tl bx0 wx0c0))], [(0, (Tl bx0 ((a 11).1 0)))]⟩) [11] (fun a γ' h => by simp only [h 11 (by decide)]) (fun a t hm => oF rfl rfl (W2 (i := 0) (cells' := [.d (.ex ((a 11).1 0))]) rfl rfl i38 hm.s0 hm.s1 hm.o0 (nb rfl) rfl ⟨u0, rfl⟩)) (fun a => Z3 rfl rfl) ?_
 refine gF [0,0,2,6,14,0,32,96,224,480,992,2046,4095,8191,16383] Q3 rfl (by kernel_rfl) (fun _ => by kernel_rfl) (fun a u hu => (tN (Qm hu ?_)))
 refine T.seq (Qr ?_)
 refine mw rfl ?_
 refine aw rfl ?_
 refine aw rfl ?_
 refine TL'.nil (tN ?_)
 refine T.ret ?_
 exact Q7 (.cons _ _ _ _ (.tmp 2 _ rfl) (.cons _ _ _ _ (.tmp 3 _ rfl) .nil)) (.cons 0 rfl (.cons 0 rfl (.nil _))) (by cases h; exact ⟨gl [(a 11).1 0], rfl, rfl⟩)
abbrev Qbn (bx0 : Nat) (r : Yf) : ES := J9 tp Tryz.f32 (fun y t => ∃ γ : Nat → Value, y = (.tup []) ∧ t = [(Tl bx0 (γ 0)), .arrX (γ 0) 3 1 0 (mI r.l)])
theorem E7 (K : Nat) {x0 : Yf} {x1 : List Int} {bx0 : Nat} {wx0c0 : Value} {flx1 : Bool} {r : Yf} (h : U8 K x0 x1 = some r) : U7 tp 32 [.ptr bx0 0, .sl flx1 1 (mI x1)] [(Tl bx0 wx0c0), .arrX wx0c0 3 1 0 (mI x0.l)] (fun γ => (.tup [])) (fun γ => [(Tl bx0 (γ 0)), .arrX (γ 0) 3 1 0 (mI r.l)]) := by
 refine Qt Tryz.func32 rfl (nb rfl) ?_
 show T tp 13 (ca [] Tryz.f32) ⟨Qw 0 [.ptr bx0 0, .sl flx1 1 (mI x1)], [(Tl bx0 wx0c0), .arrX wx0c0 3 1 0 (mI x0.l)]⟩ (Qbn bx0 r)
 unfold U8 at h
 refine Qr ?_
 refine mw rfl ?_
 refine mw rfl ?_
 refine oK rfl ?_
 refine oP ul74 i38 rfl ?_
 refine oL 0 Zx rfl ?_
 refine mw rfl ?_
 obtain ⟨b, h⟩ := Zf h
 refine sp rfl (Fo (i := 1) (xs := x0.l) (ys := x1) (f := (cI .i64)) rfl (dk rfl) Zx i3 rfl rfl rfl rfl b (fun a => ?_))
 refine oK rfl ?_
 refine oP ul74 i38 rfl ?_
 refine sp rfl (W2 (i := 0) (cells' := [.d (.ex a)]) rfl rfl i38 rfl rfl rfl (nb rfl) rfl ?_)
 refine TL'.nil ?_
 exact Q7 (.nil) (.cons 0 rfl (.cons 0 rfl (.nil _))) (by cases h; exact ⟨gl [a], rfl, rfl⟩)
abbrev Fy (r : Int) : ES := J9 tp Tryz.f31 (fun y t => y = (.int .i64 r) ∧ t = [])
abbrev Qbs (r : Int) : ES := thenS (fun s' => T tp 25 (ca [1,1,1,1] Tryz.f31) s' ((Fy r))) ((Fy r))
abbrev S0 (r : Int) : ES := Qz 0 ((Qbs r))
theorem Qdt {r : Int} (K : Nat) : ∀ (k : Nat), ∀ (x0 : List Int) (a b : Int) (flx0 : Bool), U9 K k x0 a b = some r → TL tp 25 (ca [1,1,1,0,1,0,0] Tryz.f31) ⟨[(0, .sl flx0 1 (mI x0)), (3, .int .i64 a), (4, .int .i64 b)], []⟩ (S0 r) := by
 intro k
 induction k with
 | zero =>
  intro x0 a b flx0 h
  exact zn h
 | succ k ih =>
  intro x0 a b flx0 h
  rw [U9] at h
  refine Q6 ?_
  refine T.seq ?_
  refine T.seq (Qr ?_)
  refine mw rfl ?_
  refine mw rfl ?_
  refine oU x0 (cI .i64) Zx rfl ?_
  refine oI rfl ?_
  refine TL'.nil (tN ?_)
  rcases Qd h with ⟨c, h⟩ | ⟨c, h⟩
  refine Qq rfl c ?_
  refine T.skip (tN ?_)
  refine T.seq ?_
  refine T.block ?_
  refine Qr ?_
  iterate 3 refine mw rfl ?_
  obtain ⟨d, g, h⟩ := bind_some h
  refine oX x0 (cI .i64) Zx i3 g rfl ?_
  refine oR ul3 rfl ?_
  refine sp rfl (OpT.max2 rfl (dk rfl) rfl rfl ?_)
  refine aw rfl ?_
  refine TL'.nil (Qn (tN ?_))
  refine Qr ?_
  refine mw rfl ?_
  refine oI rfl ?_
  refine aw rfl ?_
  refine TL'.nil (tN ?_)
  refine Qh ?_ (ih x0 (if d > a then d else a) (wI (b + (1:Int))) flx0 h)
  exact tq rfl rfl
  refine Qp rfl c ?_
  refine T.exit (Qj (Qj (Qs (tN ?_))))
  refine T.seq (Qr ?_)
  refine mw rfl ?_
  refine aw rfl ?_
  refine TL'.nil (tN ?_)
  refine T.ret ?_
  exact fd rfl (by cases h; exact ⟨rfl, rfl⟩)
theorem Qg6 (K : Nat) {x0 : List Int} {flx0 : Bool} {r : Int} (h : Bj K x0 = some r) : Zm tp 31 [.sl flx0 1 (mI x0)] [] (.int .i64 r) := by
 refine Qt Tryz.func31 rfl (nb rfl) ?_
 show T tp 25 (ca [] Tryz.f31) ⟨Qw 0 [.sl flx0 1 (mI x0)], []⟩ (Fy r)
 unfold Bj at h
 refine T.seq (Qr ?_)
 refine aw rfl ?_
 refine TL'.nil (tN ?_)
 refine T.seq ?_
 refine T.seq (Qr ?_)
 refine mw rfl ?_
 refine oU x0 (cI .i64) Zx rfl ?_
 refine oI rfl ?_
 refine TL'.nil (tN ?_)
 rcases Qd h with ⟨a, h⟩ | ⟨a, h⟩
 refine Qq rfl a ?_
 refine Qr ?_
 cases h
 refine Qp rfl a ?_
 refine T.skip (tN ?_)
 refine T.seq (Qr ?_)
 refine mw rfl ?_
 obtain ⟨b, c, h⟩ := bind_some h
 refine oX x0 (cI .i64) Zx i3 c rfl ?_
 refine oR ul3 rfl ?_
 refine aw rfl ?_
 refine TL'.nil (tN ?_)
 refine T.seq ?_
 refine T.seq (Qr ?_)
 refine aw rfl ?_
 refine TL'.nil (tN ?_)
 refine T.block ?_
 refine T.loop ?_
 refine Qh ?_ (Qdt K K x0 b (1:Int) flx0 h)
 exact tq rfl rfl
abbrev Qe2 (r : List Qe) : ES := J9 tp Tryz.f97 (fun y t => ∃ γ : Nat → Value, y = (.c (.ex (γ 0))) ∧ t = [.arrA (γ 0) 54 2 (r.map Qf)])
theorem Qe3 (K : Nat) {x1 : Int} {r : List Qe} (h : Kb K x1 = some r) : U7 tp 97 [.c (.ex (.slice none 0 0)), .int .i64 x1] [] (fun γ => (.c (.ex (γ 0)))) (fun γ => [.arrA (γ 0) 54 2 (r.map Qf)]) := by
 refine Qt Tryz.func97 rfl (nb rfl) ?_
 show T tp 27 (ca [] Tryz.f97) ⟨Qw 0 [.c (.ex (.slice none 0 0)), .int .i64 x1], []⟩ (Qe2 r)
 unfold Kb at h
 refine T.seq (Qr ?_)
 refine aw rfl ?_
 refine TL'.nil (tN ?_)
 refine T.seq ?_
 refine T.seq (Qr ?_)
 refine mw rfl ?_
 refine oI rfl ?_
 refine TL'.nil (tN ?_)
 rcases Qd h with ⟨a, h⟩ | ⟨a, h⟩
 refine Qq rfl a ?_
 refine Qr ?_
 cases h
 refine Qp rfl a ?_
 refine T.skip (tN ?_)
 refine T.seq ?_
 refine T.seq (Qr ?_)
 refine mw rfl ?_
 refine mw rfl ?_
 refine sp rfl (OpT.capNil rfl (dk rfl) Fq rfl ?_)
 refine mw rfl ?_
 refine sp rfl (Qif rfl (dk rfl) Fq rfl ?_)
 refine oI rfl ?_
 refine oI rfl ?_
 refine aw rfl ?_
 refine TL'.nil (tN (T.seq (Qr ?_)))
 refine mw rfl ?_
 refine oI rfl ?_
 refine TL'.nil (tN ?_)
 rcases Qd h with ⟨b, h⟩ | ⟨b, h⟩
 refine Qq rfl b ?_
 refine Qr ?_
 refine mw rfl ?_
 refine mw rfl ?_
 refine sp rfl (OpT.capNil rfl (dk rfl) Fq rfl ?_)
 refine sp rfl (OpT.sliceNil rfl (dk rfl) Fq i54 rfl (.none _) (.some _ _ 0 _ rfl (by decide)) ?_)
 refine mw rfl ?_
 obtain ⟨g, h⟩ := Zf h
 obtain ⟨j, h⟩ := Zf h
 refine sp rfl (Qhg (f := Qf) (zv := ((Qe.mk (0:Int) []) : Qe)) rfl (dk rfl) Fq ul3 i54 (by decide) rfl rfl (fun _ => .cons (.same _) (.cons (.nil _ _) (.refl _))) rfl rfl rfl g j (fun m => ?_))
 refine mw rfl ?_
 refine sp rfl (Qif rfl (dk rfl) Fq rfl ?_)
 obtain ⟨d, h⟩ := Zf h
 refine sp rfl (OpT.sliceX (i := 0) (xs := (List.replicate (Int.toNat (wI (x1 - (wI ((0:Int) - (0:Int)))))) ((Qe.mk (0:Int) []) : Qe))) (f := Qf) (h := (Int.toNat (0:Int))) rfl (dk rfl) Fq i54 rfl rfl (.some _ _ _ _ rfl d.1) d.2 (fun l => ?_))
 refine aw rfl ?_
 refine TL'.nil (tN (T.seq (Qr ?_)))
 refine mw rfl ?_
 refine aw rfl ?_
 refine TL'.nil (tN ?_)
 refine T.ret ?_
 refine X7 (Ko 0 rfl) ?_
 exact Q7 (.cons _ _ _ _ (.tmp 4 _ rfl) .nil) (.cons 0 rfl (.nil _)) (by cases h; exact ⟨gl [l], rfl, rfl⟩)
 refine Qp rfl b ?_
 refine T.skip (tN ?_)
 refine T.seq (Qr ?_)
 refine mw rfl ?_
 refine aw rfl ?_
 refine TL'.nil (tN ?_)
 refine T.ret ?_
 refine X7 (Xy 54 2) ?_
 exact Q7 (.cons _ _ _ _ (.tmp 4 _ rfl) .nil) (.cons 0 rfl (.nil _)) (by cases h; exact ⟨gl [Qf1 4], rfl, rfl⟩)
abbrev J1 (r : List Qe) : ES := J9 tp Tryz.f58 (fun y t => ∃ γ : Nat → Value, y = (.c (.ex (γ 0))) ∧ t = [.arrA (γ 0) 54 2 (r.map Qf)])
abbrev O2 (r : List Qe) : ES := thenS (fun s' => T tp 36 (ca [1,1,1,1,1] Tryz.f58) s' ((J1 r))) ((J1 r))
abbrev I3 (r : List Qe) : ES := Qz 2 ((O2 r))
abbrev R2 (r : List Qe) : ES := thenS (fun s' => T tp 36 (ca [1,1,1] Tryz.f58) s' ((J1 r))) ((J1 r))
abbrev O3 (r : List Qe) : ES := Qz 0 ((R2 r))
theorem S3 {r : List Qe} (K : Nat) : ∀ (k : Nat), ∀ (x0 : List (List Qe)) (b d : Int) (a : List Qe) (flx0 : Bool) (g : Value), Xq K k x0 b d a = some r → TL tp 36 (ca [1,1,1,1,0,1,0,0] Tryz.f58) ⟨[(6, .c (.ex g)), (25, .sl flx0 1 (x0.map (cL 2 Qf))), (26, .int .i64 b), (27, .int .i64 d)], [.arrA g 54 2 (a.map Qf)]⟩ (I3 r) := by
 intro k
 induction k with
 | zero =>
  intro x0 b d a flx0 g h
  exact zn h
 | succ k ih =>
  intro x0 b d a flx0 g h
  rw [Xq] at h
  refine Q6 ?_
  refine T.seq (Qr ?_)
  refine oI rfl ?_
  refine TL'.nil (tN ?_)
  refine T.seq ?_
  rcases Qd h with ⟨j, h⟩ | ⟨j, h⟩
  refine Qq rfl j ?_
  refine T.skip (tN ?_)
  refine T.seq ?_
  refine T.block ?_
  refine T.seq (Qr ?_)
  obtain ⟨l, m, h⟩ := bind_some h
  refine oX x0 (cL 2 Qf) Fp i55 m rfl ?_
  refine oR Fq rfl ?_
  refine aw rfl ?_
  refine TL'.nil (tN ?_)
  refine Qr ?_
  refine mw rfl ?_
  refine mw rfl ?_
  obtain ⟨p, h⟩ := Zf h
  refine sp rfl (Zy (i := 0) (xs := a) (ys := l) (f := Qf) rfl (dk rfl) Fq i54 rfl rfl rfl rfl p (fun q => ?_))
  refine aw rfl ?_
  refine TL'.nil (Qn (tN ?_))
  refine Qr ?_
  refine oI rfl ?_
  refine mw rfl ?_
  refine TL'.nil (tN ?_)
  refine Qh ?_ (ih x0 b (wI (d + (1:Int))) (a ++ l) flx0 q h)
  exact tq rfl rfl
  refine Qp rfl j ?_
  refine T.exit (Qj (Qj (Qs (tN ?_))))
  refine T.seq (Qr ?_)
  refine mw rfl ?_
  refine aw rfl ?_
  refine TL'.nil (tN ?_)
  refine T.ret ?_
  exact Q7 (.cons _ _ _ _ (.tmp 2 _ rfl) .nil) (.cons 0 rfl (.nil _)) (by cases h; exact ⟨gl [g], rfl, rfl⟩)
theorem S4 {r : List Qe} (K : Nat) : ∀ (k : Nat), ∀ (x0 : List (List Qe)) (a b d : Int) (flx0 : Bool), Y5 K k x0 a b d = some r → TL tp 36 (ca [1,1,0,1,0,0] Tryz.f58) ⟨[(0, .sl flx0 1 (x0.map (cL 2 Qf))), (3, .int .i64 a), (9, .sl flx0 1 (x0.map (cL 2 Qf))), (10, .int .i64 b), (11, .int .i64 d)], []⟩ (O3 r) := by
 intro k
 induction k with
 | zero =>
  intro x0 a b d flx0 h
  exact zn h
 | succ k ih =>
  intro x0 a b d flx0 h
  rw [Y5] at h
  refine Q6 ?_
  refine T.seq (Qr ?_)
  refine oI rfl ?_
  refine TL'.nil (tN ?_)
  refine T.seq ?_
  rcases Qd h with ⟨g, h⟩ | ⟨g, h⟩
  refine Qq rfl g ?_
  refine T.skip (tN ?_)
  refine T.seq ?_
  refine T.block ?_
  refine T.seq (Qr ?_)
  obtain ⟨i, l, h⟩ := bind_some h
  refine oX x0 (cL 2 Qf) Fp i55 l rfl ?_
  refine oR Fq rfl ?_
  refine aw rfl ?_
  refine TL'.nil (tN (T.seq (Qr ?_)))
  refine mw rfl ?_
  refine mw rfl ?_
  refine oU i Qf Fq rfl ?_
  refine oI rfl ?_
  refine aw rfl ?_
  refine TL'.nil (tN (T.seq (Qr ?_)))
  refine mw rfl ?_
  refine oI rfl ?_
  refine TL'.nil (tN ?_)
  rcases Qd h with ⟨j, h⟩ | ⟨j, h⟩
  refine Qq rfl j ?_
  refine Qr ?_
  cases h
  refine Qp rfl j ?_
  refine T.skip (Qn (tN ?_))
  refine Qr ?_
  refine oI rfl ?_
  refine mw rfl ?_
  refine TL'.nil (tN ?_)
  refine Qh ?_ (ih x0 (wI (a + (i.length : Int))) b (wI (d + (1:Int))) flx0 h)
  exact tq rfl rfl
  refine Qp rfl g ?_
  refine T.exit (Qj (Qj (Qs (tN ?_))))
  refine T.seq (Qr ?_)
  refine mw rfl ?_
  refine Hz Y4 ?_
  obtain ⟨m, p, h⟩ := bind_some h
  refine sp rfl (Q8 (is := [0]) (ph := [.ro 0 []]) rfl (dk rfl) Tryz.func97 rfl rfl (Q5.cons rfl (Q5.cons rfl Q5.nil)) (Qe3 K p) (.cons rfl rfl (.nil)) (fun _ => rfl) (fun q => ?_))
  refine nm (.c (.n)) ?_
  refine aw rfl ?_
  refine TL'.nil (tN ?_)
  refine T.seq ?_
  refine T.seq (Qr ?_)
  refine mw rfl ?_
  refine oU x0 (cL 2 Qf) Fp rfl ?_
  refine mw rfl ?_
  refine TL'.nil (tN ?_)
  refine T.block ?_
  refine T.loop ?_
  refine Qh ?_ (S3 K K x0 (x0.length : Int) (0:Int) m flx0 (q 0) h)
  exact tq rfl rfl
theorem Qcz (K : Nat) {x0 : List (List Qe)} {flx0 : Bool} {r : List Qe} (h : Ky K x0 = some r) : U7 tp 58 [.sl flx0 1 (x0.map (cL 2 Qf))] [] (fun γ => (.c (.ex (γ 0)))) (fun γ => [.arrA (γ 0) 54 2 (r.map Qf)]) := by
 refine Qt Tryz.func58 rfl (nb rfl) ?_
 show T tp 36 (ca [] Tryz.f58) ⟨Qw 0 [.sl flx0 1 (x0.map (cL 2 Qf))], []⟩ (J1 r)
 unfold Ky at h
 refine T.seq (Qr ?_)
 refine aw rfl ?_
 refine TL'.nil (tN (T.seq (Qr ?_)))
 refine aw rfl ?_
 refine TL'.nil (tN ?_)
 refine T.seq ?_
 refine T.seq (Qr ?_)
 refine mw rfl ?_
 refine oU x0 (cL 2 Qf) Fp rfl ?_
 refine mw rfl ?_
 refine TL'.nil (tN ?_)
 refine T.block ?_
 refine T.loop ?_
 refine Qh ?_ (S4 K K x0 (0:Int) (x0.length : Int) (0:Int) flx0 h)
 exact tq rfl rfl
abbrev trim_moves_q (r : List Qe) : ES := J9 tp Tryz.f33 (fun y t => y = (.sl false 2 (r.map Qf)) ∧ t = [])
theorem Qbq (K : Nat) {x0 : Qa} {r : List Qe} (h : El K x0 = some r) : Zm tp 33 [.agg [.sl false 1 (mI x0.L), .sl false 1 (mI x0.R), .sl false 1 (mI x0.Rule), .sl false 1 (x0.Next.map (cL 2 Qf))]] [] (.sl false 2 (r.map Qf)) := by
 refine Qt Tryz.func33 rfl (nb rfl) ?_
 show T tp 6 (ca [] Tryz.f33) ⟨Qw 0 [.agg [.sl false 1 (mI x0.L), .sl false 1 (mI x0.R), .sl false 1 (mI x0.Rule), .sl false 1 (x0.Next.map (cL 2 Qf))]], []⟩ (trim_moves_q r)
 unfold El at h
 refine T.seq (Qr ?_)
 refine sp rfl (Zb rfl (dk rfl) rfl (fun b => ?_))
 refine aw rfl ?_
 refine TL'.nil (tN (T.seq (Qr ?_)))
 refine oP Wi i49 rfl ?_
 refine oL 0 Fp rfl ?_
 refine Hz Y4 ?_
 obtain ⟨d, a, h⟩ := bind_some h
 refine sp rfl (Q8 (is := [0]) (ph := [.ro 0 []]) rfl (dk rfl) Tryz.func58 rfl rfl (Q5.cons rfl Q5.nil) (Qcz K (flx0 := false) a) (.cons rfl rfl (.nil)) (fun _ => rfl) (fun f => ?_))
 refine nm (.c (.c (.n))) ?_
 refine aw rfl ?_
 refine TL'.nil (tN ?_)
 refine T.ret ?_
 refine X7 (Z6.view 2 0 rfl rfl) ?_
 exact fd rfl (by cases h; exact ⟨rfl, rfl⟩)
end Go.Rv

/- Each function computes what its plain text says: printed by a program of ours. -/
import Derived.Test.YtcmfaclkgdmpbaaGreatDoorRgW0
namespace Go.Rv
open Go.Proofs
set_option maxRecDepth 100000
set_option maxHeartbeats 4000000
set_option linter.unusedVariables false
abbrev Qel (r : Qn) : ES := Wb tp Tryz.f9 (fun y t => y = (.agg ((Zg.dc 256 .u8 r.Split.Of) ++ (([.int .i64 r.Split.Many, .sl false 2 (mA r.Counts), .sl false 4 (r.States.map Qc)] : List DC)))) ∧ t = [])
theorem Qem (K : Nat) {x0 r : Qn} (h : Kv K x0 = some r) : Zn tp 9 [.agg ((Zg.dc 256 .u8 x0.Split.Of) ++ (([.int .i64 x0.Split.Many, .sl false 2 (mA x0.Counts), .sl false 4 (x0.States.map Qc)] : List DC)))] [] (.agg ((Zg.dc 256 .u8 r.Split.Of) ++ (([.int .i64 r.Split.Many, .sl false 2 (mA r.Counts), .sl false 4 (r.States.map Qc)] : List DC)))) := by
 refine Qu Tryz.func9 rfl (nb rfl) ?_
 show T tp 9 (ca [] Tryz.f9) ⟨Qv 0 [.agg ((Zg.dc 256 .u8 x0.Split.Of) ++ (([.int .i64 x0.Split.Many, .sl false 2 (mA x0.Counts), .sl false 4 (x0.States.map Qc)] : List DC)))], []⟩ (Qel r)
 unfold Kv at h
 refine T.seq (Qq ?_)
 refine sp rfl (Zi rfl (dk rfl) rfl (fun b => ?_))
 refine sp rfl (Ze rfl (dk rfl) i28 rfl (fun c => ?_))
 refine TL'.nil (tN ?_)
 refine T.seq ?_
 refine T.seq (Qq ?_)
 refine oP J5 i26 rfl ?_
 refine oL 1 Ja rfl ?_
 refine oU x0.States Qc Ja rfl ?_
 refine oI rfl ?_
 refine TL'.nil (tN ?_)
 rcases Qe h with ⟨a, h⟩ | ⟨a, h⟩
 refine Qr rfl a ?_
 refine T.seq (Qq ?_)
 refine sp rfl (OpT.build (l := ((Zg.dc 256 .u8 (Zg.mk fun _ => 0)) ++ (([.int .i64 (0:Int), .ex (.slice none 0 0), .ex (.slice none 0 0)] : List DC)))) rfl (dk rfl) (Zu (pl := [(0, 257), (257, 1), (258, 1)]) J5 i28 rfl) (Mi rfl) rfl rfl ?_)
 refine sp rfl (Qx (i := 0) (cells' := ((Zg.oc 256 .u8 (Zg.mk fun _ => 0)) ++ (([.d (.int .i64 (0:Int)), .d (.ex (.slice none 0 0)), .d (.ex (.slice none 0 0))]:List OC)))) rfl rfl i28 rfl rfl rfl rfl (nb rfl) rfl ?_)
 refine TL'.nil (tN ?_)
 refine T.ret (Qw ?_)
 refine X3 (La 0 (l := ((Zg.dc 256 .u8 (Zg.mk fun _ => 0)) ++ (([.int .i64 (0:Int), .ex (.slice none 0 0), .ex (.slice none 0 0)] : List DC)))) (l' := ((Zg.dc 256 .u8 (Zg.mk fun _ => 0)) ++ (([.int .i64 (0:Int), .sl false 2 (([] : List Vg).map (Vg.dc .i64)), .sl false 4 (([] : List Qa).map Qc)] : List DC)))) rfl (.app _ (.cons (.same _) (.cons (.nil _ _) (.cons (.nil _ _) (.refl _)))))) ?_
 exact Fin.done (.cons _ _ _ _ (.cellAgg 2 28 _ 0 0 28 _ ((Zg.dc 256 .u8 (Zg.mk fun _ => 0)) ++ (([.int .i64 (0:Int), .sl false 2 (([] : List Vg).map (Vg.dc .i64)), .sl false 4 (([] : List Qa).map Qc)] : List DC))) _ _ 259 _ rfl rfl rfl rfl J5 rfl i28) .nil) (by cases h; exact ⟨rfl, rfl⟩)
 refine Qp rfl a ?_
 refine T.skip (tN ?_)
 refine T.seq (Qq ?_)
 refine oA 1 ((Zg.dc 256 .u8 x0.Split.Of) ++ (([.int .i64 x0.Split.Many, .sl false 2 (mA x0.Counts), .sl false 4 (x0.States.map Qc)] : List DC))) J5 i28 rfl ?_
 refine sp rfl (Qx (i := 0) (cells' := ((Zg.oc 256 .u8 x0.Split.Of) ++ (([.d (.int .i64 x0.Split.Many), .d (.sl false 2 (mA x0.Counts)), .d (.sl false 4 (x0.States.map Qc))]:List OC)))) rfl rfl i28 rfl rfl rfl rfl (nb rfl) rfl ?_)
 refine TL'.nil (tN ?_)
 refine T.ret ?_
 exact Fin.done (.cons _ _ _ _ (.cellAgg 2 28 _ 0 0 28 _ ((Zg.dc 256 .u8 x0.Split.Of) ++ (([.int .i64 x0.Split.Many, .sl false 2 (mA x0.Counts), .sl false 4 (x0.States.map Qc)] : List DC))) _ _ 259 _ rfl rfl rfl rfl J5 rfl i28) .nil) (by cases h; exact ⟨rfl, rfl⟩)
abbrev Rn (r : Bool) : ES := Wb tp Tryz.f52 (fun y t => y = (.bool r) ∧ t = [])
abbrev Qee (r : Bool) : ES := thenS (fun s' => T tp 28 (ca [1,1,1] Tryz.f52) s' ((Rn r))) ((Rn r))
abbrev Qb6 (r : Bool) : ES := Qz 0 ((Qee r))
theorem Qff {r : Bool} (K : Nat) : ∀ (k : Nat), ∀ (b : Int) (x0 : Q9) (f : Int) (g : Nat), J1 K k b x0 f = some r → TL tp 28 (ca [1,1,0,1,0,0] Tryz.f52) ⟨[(1, .ptr g 0), (3, .int .i64 b), (7, .agg (Zg.dc 256 .u8 x0.Of)), (8, .int .i64 f)], [(Qfn g x0.Of x0.Many)]⟩ (Qb6 r) := by
 intro k
 induction k with
 | zero =>
  intro b x0 f g h
  exact zn h
 | succ k ih =>
  intro b x0 f g h
  rw [J1] at h
  refine Q6 ?_
  refine T.seq (Qq ?_)
  refine oI rfl ?_
  refine TL'.nil (tN ?_)
  refine T.seq ?_
  rcases Qe h with ⟨l, h⟩ | ⟨l, h⟩
  refine Qr rfl l ?_
  refine T.skip (tN ?_)
  refine T.seq ?_
  refine T.block ?_
  refine T.seq (Qq ?_)
  obtain ⟨j, h⟩ := Zc h
  refine sp rfl (OpT.indexArr rfl (dk rfl) ul22 ul5 rfl i5 rfl rfl j.1 j.2 (Zg.dc_get (n := 256) (a := x0.Of) (k := .u8) j.1 j.2) ?_)
  refine aw rfl ?_
  refine TL'.nil (tN ?_)
  refine T.block ?_
  refine T.seq (Qq ?_)
  refine mw rfl ?_
  refine sp rfl (Vq rfl (dk rfl) ul5 ul3 rfl ?_)
  refine mw rfl ?_
  refine oI rfl ?_
  refine aw rfl ?_
  refine TL'.nil (tN ?_)
  rcases Qe h with ⟨m, h⟩ | ⟨m, h⟩
  refine Qr rfl m ?_
  refine T.seq (Qq ?_)
  refine aw rfl ?_
  refine TL'.nil (tN ?_)
  refine T.ret (Q5 (Q5 (Qw (Qw (Q5 (Qw ?_))))))
  exact fd rfl (by cases h; exact ⟨rfl, rfl⟩)
  refine Qp rfl m ?_
  refine T.seq (Qq ?_)
  refine mw rfl ?_
  refine sp rfl (Vq rfl (dk rfl) ul5 ul3 rfl ?_)
  refine mw rfl ?_
  refine oI rfl ?_
  refine aw rfl ?_
  refine TL'.nil (tN ?_)
  rcases Qe h with ⟨p, h⟩ | ⟨p, h⟩
  refine Qr rfl p ?_
  refine Qq ?_
  refine mw rfl ?_
  refine oI rfl ?_
  refine aw rfl ?_
  refine TL'.nil (Ql (Ql (tN ?_)))
  refine Qq ?_
  refine oI rfl ?_
  refine mw rfl ?_
  refine TL'.nil (tN ?_)
  refine Qh ?_ (ih (wI (b + (1:Int))) x0 (wI (f + (1:Int))) g h)
  exact tq rfl rfl
  refine Qp rfl p ?_
  refine T.skip (Ql (Ql (tN ?_)))
  refine Qq ?_
  refine oI rfl ?_
  refine mw rfl ?_
  refine TL'.nil (tN ?_)
  refine Qh ?_ (ih b x0 (wI (f + (1:Int))) g h)
  exact tq rfl rfl
  refine Qp rfl l ?_
  refine T.exit (Qk (Qk (Qt (tN ?_))))
  refine T.seq (Qq ?_)
  refine mw rfl ?_
  refine oP Qfs i3 rfl ?_
  refine oL 0 ul3 rfl ?_
  refine oI rfl ?_
  refine aw rfl ?_
  refine TL'.nil (tN ?_)
  refine T.ret ?_
  exact fd rfl (by cases h; exact ⟨rfl, rfl⟩)
theorem split_Right_T (K : Nat) {x0 : Q9} {r : Bool} (h : Iw K x0 = some r) : Zn tp 52 [.agg ((Zg.dc 256 .u8 x0.Of) ++ (([.int .i64 x0.Many] : List DC)))] [] (.bool r) := by
 refine Qu Tryz.func52 rfl (nb rfl) ?_
 show T tp 28 (ca [] Tryz.f52) ⟨Qv 0 [.agg ((Zg.dc 256 .u8 x0.Of) ++ (([.int .i64 x0.Many] : List DC)))], []⟩ (Rn r)
 unfold Iw at h
 refine T.seq (Qq ?_)
 refine sp rfl (Zi rfl (dk rfl) rfl (fun a => ?_))
 refine aw rfl ?_
 refine TL'.nil (tN (T.seq (Qq ?_)))
 refine aw rfl ?_
 refine TL'.nil (tN ?_)
 refine T.seq ?_
 refine T.seq (Qq ?_)
 refine oP Qfs i22 rfl ?_
 refine oA 0 (Zg.dc 256 .u8 x0.Of) ul22 i22 rfl ?_
 refine mw rfl ?_
 refine TL'.nil (tN ?_)
 refine T.block ?_
 refine T.loop ?_
 refine Qh ?_ (Qff K K (0:Int) x0 (0:Int) a h)
 exact tq rfl rfl
abbrev Es (r : Int) : ES := Wb tp Tryz.f89 (fun y t => y = (.int .i64 r) ∧ t = [])
abbrev Qgj (r : Int) : ES := thenS (fun s' => T tp 17 (ca [1,1] Tryz.f89) s' ((Es r))) ((Es r))
abbrev Qex (r : Int) : ES := thenS (fun s' => T tp 17 (ca [1,1,1,1] Tryz.f89) s' ((Es r))) ((Es r))
abbrev Qc6 (r : Int) : ES := Qz 0 ((Qex r))
theorem Qa1 {r : Int} (K : Nat) (h : C7 K = some r) : T tp 17 (ca [1,0,1,0] Tryz.f89) ⟨[], []⟩ (Qgj r) := by
 unfold C7 at h
 refine T.seq (Qq ?_)
 refine aw rfl ?_
 refine TL'.nil (tN ?_)
 refine T.ret (Qw ?_)
 exact fd rfl (by cases h; exact ⟨rfl, rfl⟩)
theorem Qgk {r : Int} (K : Nat) : ∀ (k : Nat), ∀ (a x0 b : Int), C6 K k a x0 b = some r → TL tp 17 (ca [1,1,1,0,1,0,0] Tryz.f89) ⟨[(3, .int .i64 a), (10, .int .i64 x0), (11, .int .i64 b)], []⟩ (Qc6 r) := by
 intro k
 induction k with
 | zero =>
  intro a x0 b h
  exact zn h
 | succ k ih =>
  intro a x0 b h
  rw [C6] at h
  refine Q6 ?_
  refine T.seq (Qq ?_)
  refine oI rfl ?_
  refine TL'.nil (tN ?_)
  refine T.seq ?_
  rcases Qe h with ⟨c, h⟩ | ⟨c, h⟩
  refine Qr rfl c ?_
  refine T.skip (tN ?_)
  refine T.seq ?_
  refine T.block ?_
  refine Qq ?_
  refine mw rfl ?_
  refine oI rfl ?_
  refine aw rfl ?_
  refine TL'.nil (Ql (tN ?_))
  refine Qq ?_
  refine oI rfl ?_
  refine mw rfl ?_
  refine TL'.nil (tN ?_)
  refine Qh ?_ (ih (wI (a * (3:Int))) x0 (wI (b + (1:Int))) h)
  exact tq rfl rfl
  refine Qp rfl c ?_
  refine T.exit (Qk (Qk (Qt (tN ?_))))
  refine T.seq (Qq ?_)
  refine mw rfl ?_
  refine aw rfl ?_
  refine TL'.nil (tN ?_)
  refine T.ret ?_
  exact fd rfl (by cases h; exact ⟨rfl, rfl⟩)
theorem auto_Codes_T (K : Nat) {x0 r : Int} (h : Im K x0 = some r) : Zn tp 89 [.int .i64 x0] [] (.int .i64 r) := by
 refine Qu Tryz.func89 rfl (nb rfl) ?_
 show T tp 17 (ca [] Tryz.f89) ⟨Qv 0 [.int .i64 x0], []⟩ (Es r)
 unfold Im at h
 refine T.seq (Qq ?_)
 refine aw rfl ?_
 refine TL'.nil (tN ?_)
 refine T.seq ?_
 refine T.seq (Qq ?_)
 refine mw rfl ?_
 refine oI rfl ?_
 refine mw rfl ?_
 rcases Qe h with ⟨a, h⟩ | ⟨a, h⟩
 refine pf rfl a ?_
 refine pf rfl a ?_
 refine oY a rfl ?_
 refine TL'.nil (tN ?_)
 refine Qr rfl rfl ?_
 refine Qm ?_ (Qa1 K h)
 exact tq rfl rfl
 refine sn rfl a (OpT.move rfl (dk rfl) rfl ?_)
 refine sn rfl a (Zj rfl rfl (dk rfl) rfl rfl ?_)
 refine oZ a rfl ?_
 refine TL'.nil (tN ?_)
 rcases Qe h with ⟨b, h⟩ | ⟨b, h⟩
 refine Qr rfl b ?_
 refine Qm ?_ (Qa1 K h)
 exact tq rfl rfl
 refine Qp rfl b ?_
 refine T.skip (tN ?_)
 refine T.seq (Qq ?_)
 refine aw rfl ?_
 refine TL'.nil (tN ?_)
 refine T.seq ?_
 refine T.seq (Qq ?_)
 refine mw rfl ?_
 refine mw rfl ?_
 refine TL'.nil (tN ?_)
 refine T.block ?_
 refine T.loop ?_
 refine Qh ?_ (Qgk K K (1:Int) x0 (0:Int) h)
 exact tq rfl rfl
abbrev Qay (r : Bool) : ES := Wb tp Tryz.f90 (fun y t => y = (.bool r) ∧ t = [])
abbrev Qfo (r : Bool) : ES := thenS (fun s' => T tp 24 (ca [1,1,1] Tryz.f90) s' ((Qay r))) ((Qay r))
abbrev C2 (r : Bool) : ES := Qz 0 ((Qfo r))
abbrev Od (r : Bool) : ES := thenS (fun s' => TL tp 24 (ca [1,1,0,1,0,0] Tryz.f90) s' ((C2 r))) ((C2 r))
abbrev T2 (r : Bool) : ES := thenS (fun s' => T tp 24 (ca [1,1,0,1,0,0,1,1,1] Tryz.f90) s' ((Od r))) ((Od r))
abbrev Mp (r : Bool) : ES := Qz 1 ((T2 r))
abbrev Ph (r : Bool) : ES := thenS (fun s' => T tp 24 (ca [1,1,0,1,0,0,1,1,0,0,1,1] Tryz.f90) s' ((Mp r))) ((Mp r))
theorem Qaz {r : Bool} (K : Nat) (h : C3 K = some r) : T tp 24 (ca [1,1,0,1,0,0,1,1,0,0,1,0,1,0] Tryz.f90) ⟨[], []⟩ (Ph r) := by
 unfold C3 at h
 refine T.seq (Qq ?_)
 refine aw rfl ?_
 refine TL'.nil (tN ?_)
 refine T.ret (Qw (Q5 (Qw (Qw (Q5 (Qw ?_))))))
 exact fd rfl (by cases h; exact ⟨rfl, rfl⟩)
theorem Qgg {r : Bool} (K : Nat) : ∀ (k : Nat), ∀ (x1 d : Int) (x0 : List Int) (b c : Int) (flx0 : Bool), Ll K k x1 d x0 b c = some r → TL tp 24 (ca [1,1,0,1,0,0] Tryz.f90) ⟨[(1, .int .i64 x1), (5, .int .i64 d), (8, .sl flx0 1 (mI x0)), (9, .int .i64 b), (10, .int .i64 c)], []⟩ (C2 r) := by
 intro k
 induction k with
 | zero =>
  intro x1 d x0 b c flx0 h
  exact zn h
 | succ k ih =>
  intro x1 d x0 b c flx0 h
  rw [Ll] at h
  refine Q6 ?_
  refine T.seq (Qq ?_)
  refine oI rfl ?_
  refine TL'.nil (tN ?_)
  refine T.seq ?_
  rcases Qe h with ⟨g, h⟩ | ⟨g, h⟩
  refine Qr rfl g ?_
  refine T.skip (tN ?_)
  refine T.seq ?_
  refine T.block ?_
  refine T.seq (Qq ?_)
  obtain ⟨j, l, h⟩ := bind_some h
  refine oX x0 (cI .i64) Zy i3 l rfl ?_
  refine oR ul3 rfl ?_
  refine aw rfl ?_
  refine TL'.nil (tN ?_)
  refine T.seq ?_
  refine T.seq (Qq ?_)
  refine mw rfl ?_
  refine mw rfl ?_
  refine oI rfl ?_
  refine mw rfl ?_
  rcases Qe h with ⟨a, h⟩ | ⟨a, h⟩
  refine pf rfl a ?_
  refine pf rfl a ?_
  refine pf rfl a ?_
  refine oY a rfl ?_
  refine TL'.nil (tN ?_)
  refine Qr rfl rfl ?_
  refine Qm ?_ (Qaz K h)
  exact tq rfl rfl
  refine sn rfl a (OpT.move rfl (dk rfl) rfl ?_)
  refine sn rfl a (OpT.move rfl (dk rfl) rfl ?_)
  refine sn rfl a (Zj rfl rfl (dk rfl) rfl rfl ?_)
  refine oZ a rfl ?_
  refine TL'.nil (tN ?_)
  rcases Qe h with ⟨i, h⟩ | ⟨i, h⟩
  refine Qr rfl i ?_
  refine Qm ?_ (Qaz K h)
  exact tq rfl rfl
  refine Qp rfl i ?_
  refine T.skip (tN ?_)
  refine Qq ?_
  refine mw rfl ?_
  refine aw rfl ?_
  refine TL'.nil (Ql (tN ?_))
  refine Qq ?_
  refine oI rfl ?_
  refine mw rfl ?_
  refine TL'.nil (tN ?_)
  refine Qh ?_ (ih x1 j x0 b (wI (c + (1:Int))) flx0 h)
  exact tq rfl rfl
  refine Qp rfl g ?_
  refine T.exit (Qk (Qk (Qt (tN ?_))))
  refine T.seq (Qq ?_)
  refine aw rfl ?_
  refine TL'.nil (tN ?_)
  refine T.ret ?_
  exact fd rfl (by cases h; exact ⟨rfl, rfl⟩)
theorem Qe6 (K : Nat) {x0 : List Int} {x1 : Int} {flx0 r : Bool} (h : Il K x0 x1 = some r) : Zn tp 90 [.sl flx0 1 (mI x0), .int .i64 x1] [] (.bool r) := by
 refine Qu Tryz.func90 rfl (nb rfl) ?_
 show T tp 24 (ca [] Tryz.f90) ⟨Qv 0 [.sl flx0 1 (mI x0), .int .i64 x1], []⟩ (Qay r)
 unfold Il at h
 refine T.seq (Qq ?_)
 refine aw rfl ?_
 refine TL'.nil (tN (T.seq (Qq ?_)))
 refine aw rfl ?_
 refine TL'.nil (tN ?_)
 refine T.seq ?_
 refine T.seq (Qq ?_)
 refine mw rfl ?_
 refine oU x0 (cI .i64) Zy rfl ?_
 refine mw rfl ?_
 refine TL'.nil (tN ?_)
 refine T.block ?_
 refine T.loop ?_
 refine Qh ?_ (Qgg K K x1 (-1:Int) x0 (x0.length : Int) (0:Int) flx0 h)
 exact tq rfl rfl
abbrev Cp (r : Int) : ES := Wb tp Tryz.f132 (fun y t => y = (.int .i64 r) ∧ t = [])
abbrev Qae (r : Int) : ES := thenS (fun s' => T tp 19 (ca [1,1] Tryz.f132) s' ((Cp r))) ((Cp r))
abbrev Rp (r : Int) : ES := Qz 0 ((Qae r))
theorem Qaf {r : Int} (K : Nat) : ∀ (k : Nat), ∀ (x0 : List Int) (x1 a b : Int) (flx0 : Bool), Vn K k x0 x1 a b = some r → TL tp 19 (ca [1,0,1,0,0] Tryz.f132) ⟨[(0, .sl flx0 1 (mI x0)), (1, .int .i64 x1), (7, .int .i64 a), (8, .int .i64 b)], []⟩ (Rp r) := by
 intro k
 induction k with
 | zero =>
  intro x0 x1 a b flx0 h
  exact zn h
 | succ k ih =>
  intro x0 x1 a b flx0 h
  rw [Vn] at h
  refine Q6 ?_
  refine T.seq (Qq ?_)
  refine oI rfl ?_
  refine TL'.nil (tN ?_)
  refine T.seq ?_
  rcases Qe h with ⟨c, h⟩ | ⟨c, h⟩
  refine Qr rfl c ?_
  refine T.skip (tN ?_)
  refine T.seq ?_
  refine T.block ?_
  refine T.seq (Qq ?_)
  refine mw rfl ?_
  refine aw rfl ?_
  refine TL'.nil (tN (T.seq (Qq ?_)))
  iterate 3 refine mw rfl ?_
  obtain ⟨g, i, h⟩ := bind_some h
  refine oX x0 (cI .i64) Zy i3 i rfl ?_
  refine oR ul3 rfl ?_
  refine oI rfl ?_
  refine TL'.nil (tN ?_)
  rcases Qe h with ⟨d, h⟩ | ⟨d, h⟩
  refine Qr rfl d ?_
  refine T.seq (Qq ?_)
  refine mw rfl ?_
  refine aw rfl ?_
  refine TL'.nil (tN ?_)
  refine T.ret (Q5 (Qw (Qw (Q5 (Qw ?_)))))
  exact fd rfl (by cases h; exact ⟨rfl, rfl⟩)
  refine Qp rfl d ?_
  refine T.skip (Ql (tN ?_))
  refine Qq ?_
  refine oI rfl ?_
  refine mw rfl ?_
  refine TL'.nil (tN ?_)
  refine Qh ?_ (ih x0 x1 a (wI (b + (1:Int))) flx0 h)
  exact tq rfl rfl
  refine Qp rfl c ?_
  refine T.exit (Qk (Qk (Qt (tN ?_))))
  refine T.seq (Qq ?_)
  refine aw rfl ?_
  refine TL'.nil (tN ?_)
  refine T.ret ?_
  exact fd rfl (by cases h; exact ⟨rfl, rfl⟩)
theorem Qdh (K : Nat) {x0 : List Int} {x1 : Int} {flx0 : Bool} {r : Int} (h : Bg K x0 x1 = some r) : Zn tp 132 [.sl flx0 1 (mI x0), .int .i64 x1] [] (.int .i64 r) := by
 refine Qu Tryz.func132 rfl (nb rfl) ?_
 show T tp 19 (ca [] Tryz.f132) ⟨Qv 0 [.sl flx0 1 (mI x0), .int .i64 x1], []⟩ (Cp r)
 unfold Bg at h
 refine T.seq (Qq ?_)
 refine aw rfl ?_
 refine TL'.nil (tN ?_)
 refine T.seq ?_
 refine T.seq (Qq ?_)
 refine mw rfl ?_
 refine oU x0 (cI .i64) Zy rfl ?_
 refine mw rfl ?_
 refine TL'.nil (tN ?_)
 refine T.block ?_
 refine T.loop ?_
 refine Qh ?_ (Qaf K K x0 x1 (x0.length : Int) (0:Int) flx0 h)
 exact tq rfl rfl
abbrev Qag (r : Bool) : ES := Wb tp Tryz.f118 (fun y t => y = (.bool r) ∧ t = [])
theorem Qah (K : Nat) {x0 : List Int} {x1 : Int} {flx0 r : Bool} (h : Wa K x0 x1 = some r) : Zn tp 118 [.sl flx0 1 (mI x0), .int .i64 x1] [] (.bool r) := by
 refine Qu Tryz.func118 rfl (nb rfl) ?_
 show T tp 9 (ca [] Tryz.f118) ⟨Qv 0 [.sl flx0 1 (mI x0), .int .i64 x1], []⟩ (Qag r)
 unfold Wa at h
 refine T.seq (Qq ?_)
 refine aw rfl ?_
 refine TL'.nil (tN (T.seq (Qq ?_)))
 refine mw rfl ?_
 refine mw rfl ?_
 obtain ⟨b, a, h⟩ := bind_some h
 refine sp rfl (Q1 rfl (dk rfl) Tryz.func132 rfl rfl (Q7.cons rfl (Q7.cons rfl Q7.nil)) (Zn.nil (Qdh K (flx0 := flx0) a)) ?_)
 refine oI rfl ?_
 refine aw rfl ?_
 refine TL'.nil (tN ?_)
 refine T.ret ?_
 exact fd rfl (by cases h; exact ⟨rfl, rfl⟩)
abbrev Wk (r : Bool) : ES := Wb tp Tryz.f93 (fun y t => y = (.bool r) ∧ t = [])
abbrev Sa (r : Bool) : ES := thenS (fun s' => T tp 79 (ca [1,1,1] Tryz.f93) s' ((Wk r))) ((Wk r))
abbrev Rc (r : Bool) : ES := thenS (fun s' => T tp 79 (ca [1,1,1,1] Tryz.f93) s' ((Wk r))) ((Wk r))
abbrev W6 (r : Bool) : ES := Qz 0 ((Rc r))
abbrev Mq (r : Bool) : ES := thenS (fun s' => TL tp 79 (ca [1,1,1,0,1,0,0] Tryz.f93) s' ((W6 r))) ((W6 r))
abbrev Ep (r : Bool) : ES := thenS (fun s' => T tp 79 (ca [1,1,1,0,1,0,0,1,1,1] Tryz.f93) s' ((Mq r))) ((Mq r))
abbrev Ck (r : Bool) : ES := Qz 1 ((Ep r))
theorem Kd {r : Bool} (K : Nat) (h : Xg K = some r) : T tp 79 (ca [1,1,0,1,0] Tryz.f93) ⟨[], []⟩ (Sa r) := by
 unfold Xg at h
 refine T.seq (Qq ?_)
 refine aw rfl ?_
 refine TL'.nil (tN ?_)
 refine T.ret (Qw ?_)
 exact fd rfl (by cases h; exact ⟨rfl, rfl⟩)
theorem Kc {r : Bool} (K : Nat) (h : Xf K = some r) : T tp 79 (ca [1,1,1,0,1,0,0,1,1,0,0,1,1,0] Tryz.f93) ⟨[], []⟩ (Ck r) := by
 unfold Xf at h
 refine T.seq (Qq ?_)
 refine aw rfl ?_
 refine TL'.nil (tN ?_)
 refine T.ret (Q5 (Qw (Qw (Q5 (Qw ?_)))))
 exact fd rfl (by cases h; exact ⟨rfl, rfl⟩)
theorem T5 {r : Bool} (K : Nat) : ∀ (k : Nat), ∀ (x2 : Qd) (w p : Int) (x0 : Za) (x1 : Qa) (j l m : Nat), Xe K k x2 w p x0 x1 = some r → TL tp 79 (ca [1,1,1,0,1,0,0] Tryz.f93) ⟨[(3, .ptr j 0), (4, .ptr l 0), (5, .ptr m 0), (44, .sl false 1 (mU x2.Ops)), (45, .int .i64 w), (46, .int .i64 p)], [(Hx j x0.Auto.Split.Of x0.Auto.Split.Many x0.Auto.Counts x0.Auto.States), (Jz l x1.L x1.R x1.Rule x1.Next), (Qd3 m x2.To x2.Ops)]⟩ (W6 r) := by
 intro k
 induction k with
 | zero =>
  intro x2 w p x0 x1 j l m h
  exact zn h
 | succ k ih =>
  intro x2 w p x0 x1 j l m h
  rw [Xe] at h
  refine Q6 ?_
  refine T.seq (Qq ?_)
  refine oI rfl ?_
  refine TL'.nil (tN ?_)
  refine T.seq ?_
  rcases Qe h with ⟨ab, h⟩ | ⟨ab, h⟩
  refine Qr rfl ab ?_
  refine T.skip (tN ?_)
  refine T.seq ?_
  refine T.block ?_
  refine T.seq (Qq ?_)
  refine mw rfl ?_
  obtain ⟨a, ad, h⟩ := bind_some h
  refine oX x2.Ops (cI .u8) Dp i5 ad rfl ?_
  refine oR ul5 rfl ?_
  refine aw rfl ?_
  refine aw rfl ?_
  refine TL'.nil (tN ?_)
  refine T.seq ?_
  refine Yx ?_
  refine dV rfl rfl ?_
  refine dI rfl (.f rfl) rfl ?_
  refine dV rfl rfl ?_
  rcases Qe h with ⟨y, h⟩ | ⟨y, h⟩
  refine dO y rfl rfl ?_
  refine dO y rfl rfl ?_
  refine dY rfl (.f rfl) y rfl ?_
  refine dV rfl rfl ?_
  refine dO rfl rfl rfl ?_
  refine dO rfl rfl rfl ?_
  refine dO rfl rfl rfl ?_
  refine dG rfl rfl ?_
  refine dG rfl rfl ?_
  refine dG rfl rfl ?_
  refine dG rfl rfl ?_
  refine dG rfl rfl ?_
  refine dG rfl rfl ?_
  refine dG rfl rfl ?_
  refine dG rfl rfl ?_
  refine dG rfl rfl ?_
  refine dG rfl rfl ?_
  refine dG rfl rfl ?_
  refine dG rfl rfl ?_
  refine dG rfl rfl ?_
  refine dG rfl rfl ?_
  refine dG rfl rfl ?_
  refine dO rfl rfl rfl ?_
  refine dY rfl (.f rfl) rfl rfl ?_
  refine dF [0,1,3,7,15,31,63,127,255,511,1023,2047,1023,5119,13311,1023,33791,127999,259071,521215,1023,2094079,4191231,8388607,16777215,33554431,67108863] Q3 rfl (by kernel_rfl) (fun u hu => (tN (Qm hu ?_)))
  refine Qr rfl rfl ?_
  refine Qm ?_ (Kc K h)
  exact tq rfl rfl
  refine dM rfl (.n y rfl) rfl ?_
  refine dI rfl (.n y rfl) rfl ?_
  refine dZ rfl (.f rfl) y rfl ?_
  refine dV rfl rfl ?_
  rcases Qe h with ⟨q, h⟩ | ⟨q, h⟩
  refine dO q rfl rfl ?_
  refine dO q rfl rfl ?_
  refine dO q rfl rfl ?_
  refine dG rfl rfl ?_
  refine dG rfl rfl ?_
  refine dG rfl rfl ?_
  refine dG rfl rfl ?_
  refine dG rfl rfl ?_
  refine dG rfl rfl ?_
  refine dG rfl rfl ?_
  refine dG rfl rfl ?_
  refine dG rfl rfl ?_
  refine dG rfl rfl ?_
  refine dG rfl rfl ?_
  refine dG rfl rfl ?_
  refine dG rfl rfl ?_
  refine dG rfl rfl ?_
  refine dG rfl rfl ?_
  refine dO q rfl rfl ?_
  refine dY rfl (.f rfl) q rfl ?_
  refine dF [0,1,3,7,15,31,63,127,255,511,1023,2047,1023,5119,13311,1023,33791,127999,259071,521215,1023,2094079,4191231,8388607,16777215,33554431,67108863] Q3 rfl (by kernel_rfl) (fun u hu => (tN (Qm hu ?_)))
  refine Qr rfl rfl ?_
  refine Qm ?_ (Kc K h)
  exact tq rfl rfl
  refine dM rfl (.n q rfl) rfl ?_
  refine dI rfl (.n q rfl) rfl ?_
  refine dM rfl (.n q rfl) rfl ?_
  rcases Qe h with ⟨b, h⟩ | ⟨b, h⟩
  refine dP rfl (.n b rfl) H1 i38 rfl ?_
  refine dL 1 rfl (.n b rfl) Zy rfl ?_
  refine dP rfl (.n b rfl) ul107 i28 rfl ?_
  refine dP rfl (.n b rfl) J5 i26 rfl ?_
  refine dL 0 rfl (.n b rfl) Ja rfl ?_
  refine dP rfl (.n b rfl) Cl i3 rfl ?_
  refine dL 2 rfl (.n b rfl) ul3 rfl ?_
  obtain ⟨g, af, h⟩ := bind_some h
  refine dX x0.Auto.States Qc rfl (.n b rfl) Ja i51 af rfl ?_
  refine dQ rfl (.n b rfl) H1 i38 rfl ?_
  refine dR rfl (.n b rfl) Zy rfl ?_
  refine dM rfl (.n b rfl) rfl ?_
  obtain ⟨aa, ag, h⟩ := bind_some h
  refine dX g.R (cI .i64) rfl (.n b rfl) Zy i3 ag rfl ?_
  refine dR rfl (.n b rfl) ul3 rfl ?_
  obtain ⟨s, ai, h⟩ := bind_some h
  refine dS (c := ⟨some 74, .bool s, [(62, .sl false 1 (mI x1.R)), (73, .int .i64 aa), (60, .bool (a != (3:Int)))], [], []⟩) (fun t hm => oN rfl rfl rfl hm.s2 b (Q1 rfl (dk rfl) Tryz.func118 rfl rfl (Q7.cons hm.s0 (Q7.cons hm.s1 Q7.nil)) (Zn.nil (Qah K (flx0 := false) ai)) rfl)) rfl rfl ?_
  refine dS (c := ⟨some 75, .bool (!s), [(74, .bool s), (60, .bool (a != (3:Int)))], [], []⟩) (fun t hm => oN rfl rfl rfl hm.s1 b (OpT.not rfl (dk rfl) hm.s0 rfl)) rfl rfl ?_
  refine dY rfl (.n q rfl) b rfl ?_
  refine dZ rfl (.f rfl) q rfl ?_
  refine dF [0,1,3,7,15,31,63,127,255,511,1023,2047,1023,5119,13311,1023,33791,127999,259071,521215,1023,2094079,4191231,8388607,16777215,33554431,67108863] Q3 rfl (by kernel_rfl) (fun u hu => (tN (Qm hu ?_)))
  rcases Qe h with ⟨ac, h⟩ | ⟨ac, h⟩
  refine Qr rfl ac ?_
  refine Qm ?_ (Kc K h)
  exact tq rfl rfl
  refine Qp rfl ac ?_
  refine T.skip (Ql (tN ?_))
  refine Qq ?_
  refine oI rfl ?_
  refine mw rfl ?_
  refine TL'.nil (tN ?_)
  refine Qh ?_ (ih x2 w (wI (p + (1:Int))) x0 x1 j l m h)
  exact tq rfl rfl
  refine dO b rfl rfl ?_
  refine dO b rfl rfl ?_
  refine dO b rfl rfl ?_
  refine dO b rfl rfl ?_
  refine dO b rfl rfl ?_
  refine dO b rfl rfl ?_
  refine dO b rfl rfl ?_
  refine dO b rfl rfl ?_
  refine dO b rfl rfl ?_
  refine dO b rfl rfl ?_
  refine dO b rfl rfl ?_
  refine dO b rfl rfl ?_
  refine dO b rfl rfl ?_
  refine dO b rfl rfl ?_
  refine dO b rfl rfl ?_
  refine dZ rfl (.n q rfl) b rfl ?_
  refine dZ rfl (.f rfl) q rfl ?_
  refine dF [0,1,3,7,15,31,63,127,255,511,1023,2047,1023,5119,13311,1023,33791,127999,259071,521215,1023,2094079,4191231,8388607,16777215,33554431,67108863] Q3 rfl (by kernel_rfl) (fun u hu => (tN (Qm hu ?_)))
  refine Qp rfl rfl ?_
  refine T.skip (Ql (tN ?_))
  refine Qq ?_
  refine oI rfl ?_
  refine mw rfl ?_
  refine TL'.nil (tN ?_)
  refine Qh ?_ (ih x2 w (wI (p + (1:Int))) x0 x1 j l m h)
  exact tq rfl rfl
  refine Qp rfl ab ?_
  refine T.exit (Qk (Qk (Qt (tN ?_))))
  refine T.seq (Qq ?_)
  refine aw rfl ?_
  refine TL'.nil (tN ?_)
  refine T.ret ?_
  exact fd rfl (by cases h; exact ⟨rfl, rfl⟩)
theorem Qc5 (K : Nat) {x0 : Za} {x1 : Qa} {x2 : Qd} {r : Bool} (h : G4 K x0 x1 x2 = some r) : Zn tp 93 [.agg ((Zg.dc 256 .u8 x0.Auto.Split.Of) ++ (([.int .i64 x0.Auto.Split.Many, .sl false 2 (mA x0.Auto.Counts), .sl false 4 (x0.Auto.States.map Qc)] : List DC))), .agg [.sl false 1 (mI x1.L), .sl false 1 (mI x1.R), .sl false 1 (mI x1.Rule), .sl false 1 (x1.Next.map (cL 2 Qg))], .agg [.int .i64 x2.To, .sl false 1 (mU x2.Ops)]] [] (.bool r) := by
 refine Qu Tryz.func93 rfl (nb rfl) ?_
 show T tp 79 (ca [] Tryz.f93) ⟨Qv 0 [.agg ((Zg.dc 256 .u8 x0.Auto.Split.Of) ++ (([.int .i64 x0.Auto.Split.Many, .sl false 2 (mA x0.Auto.Counts), .sl false 4 (x0.Auto.States.map Qc)] : List DC))), .agg [.sl false 1 (mI x1.L), .sl false 1 (mI x1.R), .sl false 1 (mI x1.Rule), .sl false 1 (x1.Next.map (cL 2 Qg))], .agg [.int .i64 x2.To, .sl false 1 (mU x2.Ops)]], []⟩ (Wk r)
 unfold G4 at h
 refine T.seq (Qq ?_)
 refine sp rfl (Zi rfl (dk rfl) rfl (fun j => ?_))
 refine sp rfl (Zi rfl (dk rfl) rfl (fun m => ?_))
 refine sp rfl (Zi rfl (dk rfl) rfl (fun g => ?_))
 refine aw rfl ?_
 refine TL'.nil (tN ?_)
 refine T.seq ?_
 refine T.seq (Qq ?_)
 refine oP Cl i3 rfl ?_
 refine oL 0 ul3 rfl ?_
 refine oI rfl ?_
 refine TL'.nil (tN ?_)
 rcases Qe h with ⟨p, h⟩ | ⟨p, h⟩
 refine Qr rfl p ?_
 refine T.seq (Qq ?_)
 refine oP Cl i52 rfl ?_
 refine oL 0 Dp rfl ?_
 refine oU x2.Ops (cI .u8) Dp rfl ?_
 refine oI rfl ?_
 refine aw rfl ?_
 refine TL'.nil (tN ?_)
 refine T.ret (Qw ?_)
 exact fd rfl (by cases h; exact ⟨rfl, rfl⟩)
 refine Qp rfl p ?_
 refine T.skip (tN ?_)
 refine T.seq ?_
 refine T.seq ?_
 refine Yx ?_
 refine dP rfl (.f rfl) Cl i3 rfl ?_
 refine dL 0 rfl (.f rfl) ul3 rfl ?_
 refine dI rfl (.f rfl) rfl ?_
 refine dV rfl rfl ?_
 rcases Qe h with ⟨l, h⟩ | ⟨l, h⟩
 refine dO l rfl rfl ?_
 refine dO l rfl rfl ?_
 refine dO l rfl rfl ?_
 refine dO l rfl rfl ?_
 refine dO l rfl rfl ?_
 refine dO l rfl rfl ?_
 refine dO l rfl rfl ?_
 refine dY rfl (.f rfl) l rfl ?_
 refine dV rfl rfl ?_
 refine dO rfl rfl rfl ?_
 refine dO rfl rfl rfl ?_
 refine dO rfl rfl rfl ?_
 refine dO rfl rfl rfl ?_
 refine dO rfl rfl rfl ?_
 refine dO rfl rfl rfl ?_
 refine dO rfl rfl rfl ?_
 refine dO rfl rfl rfl ?_
 refine dO rfl rfl rfl ?_
 refine dO rfl rfl rfl ?_
 refine dO rfl rfl rfl ?_
 refine dO rfl rfl rfl ?_
 refine dO rfl rfl rfl ?_
 refine dY rfl (.f rfl) rfl rfl ?_
 refine dF [0,1,3,7,15,31,15,79,207,463,1023,2047,4095,8191,16383,32767,8191,73727,204799,8191,532479,2039807,4136959,8331263,16719871,33554431,67108863] Q3 rfl (by kernel_rfl) (fun u hu => (tN (Qm hu ?_)))
 refine Qr rfl rfl ?_
 refine Qm ?_ (Kd K h)
 exact tq rfl rfl
 refine dP rfl (.n l rfl) Cl i3 rfl ?_
 refine dL 0 rfl (.n l rfl) ul3 rfl ?_
 refine dP rfl (.n l rfl) ul107 i28 rfl ?_
 refine dP rfl (.n l rfl) J5 i26 rfl ?_
 refine dL 2 rfl (.n l rfl) Ja rfl ?_
 refine dN x0.Auto.States Qc rfl (.n l rfl) Ja rfl ?_
 refine dI rfl (.n l rfl) rfl ?_
 refine dZ rfl (.f rfl) l rfl ?_
 refine dV rfl rfl ?_
 rcases Qe h with ⟨a, h⟩ | ⟨a, h⟩
 refine dO a rfl rfl ?_
 refine dO a rfl rfl ?_
 refine dO a rfl rfl ?_
 refine dO a rfl rfl ?_
 refine dO a rfl rfl ?_
 refine dO a rfl rfl ?_
 refine dO a rfl rfl ?_
 refine dO a rfl rfl ?_
 refine dO a rfl rfl ?_
 refine dO a rfl rfl ?_
 refine dO a rfl rfl ?_
 refine dO a rfl rfl ?_
 refine dO a rfl rfl ?_
 refine dY rfl (.f rfl) a rfl ?_
 refine dF [0,1,3,7,15,31,15,79,207,463,1023,2047,4095,8191,16383,32767,8191,73727,204799,8191,532479,2039807,4136959,8331263,16719871,33554431,67108863] Q3 rfl (by kernel_rfl) (fun u hu => (tN (Qm hu ?_)))
 refine Qr rfl rfl ?_
 refine Qm ?_ (Kd K h)
 exact tq rfl rfl
 refine dP rfl (.n a rfl) Cl i52 rfl ?_
 refine dL 0 rfl (.n a rfl) Dp rfl ?_
 refine dN x2.Ops (cI .u8) rfl (.n a rfl) Dp rfl ?_
 refine dP rfl (.n a rfl) ul107 i28 rfl ?_
 refine dP rfl (.n a rfl) J5 i26 rfl ?_
 refine dL 2 rfl (.n a rfl) Ja rfl ?_
 refine dP rfl (.n a rfl) Cl i3 rfl ?_
 refine dL 0 rfl (.n a rfl) ul3 rfl ?_
 obtain ⟨b, w, h⟩ := bind_some h
 refine dX x0.Auto.States Qc rfl (.n a rfl) Ja i51 w rfl ?_
 refine dQ rfl (.n a rfl) H1 i38 rfl ?_
 refine dR rfl (.n a rfl) Zy rfl ?_
 refine dN b.R (cI .i64) rfl (.n a rfl) Zy rfl ?_
 refine dI rfl (.n a rfl) rfl ?_
 refine dZ rfl (.f rfl) a rfl ?_
 refine dF [0,1,3,7,15,31,15,79,207,463,1023,2047,4095,8191,16383,32767,8191,73727,204799,8191,532479,2039807,4136959,8331263,16719871,33554431,67108863] Q3 rfl (by kernel_rfl) (fun u hu => (tN (Qm hu ?_)))
 rcases Qe h with ⟨q, h⟩ | ⟨q, h⟩
 refine Qr rfl q ?_
 refine Qm ?_ (Kd K h)
 exact tq rfl rfl
 refine Qp rfl q ?_
 refine T.skip (tN ?_)
 refine T.seq ?_
 refine T.seq (Qq ?_)
 refine oP Cl i52 rfl ?_
 refine oL 0 Dp rfl ?_
 refine oU x2.Ops (cI .u8) Dp rfl ?_
 refine mw rfl ?_
 refine TL'.nil (tN ?_)
 refine T.block ?_
 refine T.loop ?_
 refine Qh ?_ (T5 K K x2 (x2.Ops.length : Int) (0:Int) x0 x1 j m g h)
 exact tr rfl (.c (.s (.s .z)) (.c (.s .z) (.c .z (.n _))))
abbrev T3 (bx1 bx2 : Nat) (x1 : Za) (x2 : Qa) (r : Bool) : ES := Wb tp Tryz.f92 (fun y t => ∃ γ : Nat → Value, y = (.bool r) ∧ t = [(Hx bx1 x1.Auto.Split.Of x1.Auto.Split.Many x1.Auto.Counts x1.Auto.States), (Jz bx2 x2.L x2.R x2.Rule x2.Next)])
theorem T4 (K : Nat) {x0 : Qd} {x1 : Za} {x2 : Qa} {bx1 bx2 : Nat} {r : Bool} (h : Gc K x0 x1 x2 = some r) : Us tp 92 [.agg [.int .i64 x0.To, .sl false 1 (mU x0.Ops)], .ptr bx1 0, .ptr bx2 0] [(Hx bx1 x1.Auto.Split.Of x1.Auto.Split.Many x1.Auto.Counts x1.Auto.States), (Jz bx2 x2.L x2.R x2.Rule x2.Next)] (fun γ => (.bool r)) (fun γ => [(Hx bx1 x1.Auto.Split.Of x1.Auto.Split.Many x1.Auto.Counts x1.Auto.States), (Jz bx2 x2.L x2.R x2.Rule x2.Next)]) := by
 refine Qu Tryz.func92 rfl (nb rfl) ?_
 show T tp 10 (ca [] Tryz.f92) ⟨Qv 0 [.agg [.int .i64 x0.To, .sl false 1 (mU x0.Ops)], .ptr bx1 0, .ptr bx2 0], [(Hx bx1 x1.Auto.Split.Of x1.Auto.Split.Many x1.Auto.Counts x1.Auto.States), (Jz bx2 x2.L x2.R x2.Rule x2.Next)]⟩ (T3 bx1 bx2 x1 x2 r)
 unfold Gc at h
 refine T.seq (Qq ?_)
 refine sp rfl (Zi rfl (dk rfl) rfl (fun b => ?_))
 refine aw rfl ?_
 refine TL'.nil (tN (T.seq (Qq ?_)))
 refine oA 1 ((Zg.dc 256 .u8 x1.Auto.Split.Of) ++ (([.int .i64 x1.Auto.Split.Many, .sl false 2 (mA x1.Auto.Counts), .sl false 4 (x1.Auto.States.map Qc)] : List DC))) ul107 i107 rfl ?_
 refine oA 2 [.sl false 1 (mI x2.L), .sl false 1 (mI x2.R), .sl false 1 (mI x2.Rule), .sl false 1 (x2.Next.map (cL 2 Qg))] H1 i51 rfl ?_
 refine oA 0 [.int .i64 x0.To, .sl false 1 (mU x0.Ops)] Cl i54 rfl ?_
 obtain ⟨c, a, h⟩ := bind_some h
 refine sp rfl (Q1 rfl (dk rfl) Tryz.func93 rfl rfl (Q7.cons rfl (Q7.cons rfl (Q7.cons rfl Q7.nil))) (Zn.nil (Qc5 K a)) ?_)
 refine oT rfl ?_
 refine aw rfl ?_
 refine TL'.nil (tN ?_)
 refine T.ret ?_
 exact Q4 (.cons _ _ _ _ (.tmp 4 _ rfl) .nil) (.cons 1 rfl (.cons 1 rfl (.nil _))) (by cases h; exact ⟨gl [], rfl, rfl⟩)
abbrev Lb (bx1c0 bx1c1 : Nat) (x1c0 : Za) (x1c1 : Qa) (r : Int) : ES := Wb tp Tryz.f117 (fun y t => ∃ γ : Nat → Value, y = (.int .i64 r) ∧ t = [(Hx bx1c0 x1c0.Auto.Split.Of x1c0.Auto.Split.Many x1c0.Auto.Counts x1c0.Auto.States), (Jz bx1c1 x1c1.L x1c1.R x1c1.Rule x1c1.Next)])
abbrev Nq (bx1c0 bx1c1 : Nat) (x1c0 : Za) (x1c1 : Qa) (r : Int) : ES := thenS (fun s' => T tp 19 (ca [1,1] Tryz.f117) s' ((Lb bx1c0 bx1c1 x1c0 x1c1 r))) ((Lb bx1c0 bx1c1 x1c0 x1c1 r))
abbrev F0 (bx1c0 bx1c1 : Nat) (x1c0 : Za) (x1c1 : Qa) (r : Int) : ES := Qz 0 ((Nq bx1c0 bx1c1 x1c0 x1c1 r))
theorem Nr {r : Int} (K bx1c0 bx1c1 : Nat) (x1c0 : Za) (x1c1 : Qa) : ∀ (k : Nat), ∀ (x0 : List Qd) (a b : Int) (x1c0 : Za) (x1c1 : Qa) (flx0 : Bool), Yy K k x0 a b x1c0 x1c1 = some r → TL tp 19 (ca [1,0,1,0,0] Tryz.f117) ⟨[(0, .sl flx0 2 (x0.map Qg)), (1, .c (.ex (.func (.func 92) #[] #[.pointer (some ⟨bx1c0, 0, none⟩), .pointer (some ⟨bx1c1, 0, none⟩)]))), (7, .int .i64 a), (8, .int .i64 b)], [(Hx bx1c0 x1c0.Auto.Split.Of x1c0.Auto.Split.Many x1c0.Auto.Counts x1c0.Auto.States), (Jz bx1c1 x1c1.L x1c1.R x1c1.Rule x1c1.Next)]⟩ (F0 bx1c0 bx1c1 x1c0 x1c1 r) := by
 intro k
 induction k with
 | zero =>
  intro x0 a b x1c0 x1c1 flx0 h
  exact zn h
 | succ k ih =>
  intro x0 a b x1c0 x1c1 flx0 h
  rw [Yy] at h
  refine Q6 ?_
  refine T.seq (Qq ?_)
  refine oI rfl ?_
  refine TL'.nil (tN ?_)
  refine T.seq ?_
  rcases Qe h with ⟨g, h⟩ | ⟨g, h⟩
  refine Qr rfl g ?_
  refine T.skip (tN ?_)
  refine T.seq ?_
  refine T.block ?_
  refine T.seq (Qq ?_)
  refine mw rfl ?_
  refine aw rfl ?_
  refine TL'.nil (tN (T.seq (Qq ?_)))
  iterate 3 refine mw rfl ?_
  obtain ⟨j, l, h⟩ := bind_some h
  refine oX x0 Qg Oa i54 l rfl ?_
  refine sp rfl (Zb rfl (dk rfl) Cl rfl i54 rfl (nb rfl) ?_)
  obtain ⟨p, m, h⟩ := bind_some h
  refine sp rfl (Oh (f := 92) (vs := [.pointer (some ⟨bx1c0, 0, none⟩), .pointer (some ⟨bx1c1, 0, none⟩)]) rfl rfl (dk rfl) Tryz.func92 rfl rfl (Q8 (is := [0, 1]) (ph := []) rfl (dk rfl) Tryz.func92 rfl rfl (Q7.cons rfl (Q7.cons rfl (Q7.cons rfl Q7.nil))) (T4 K (bx1 := bx1c0) (bx2 := bx1c1) m) (.cons rfl rfl (.cons rfl rfl (.nil))) (fun _ => rfl) (fun q => ?_)))
  refine nm (.c (.c (.n))) ?_
  refine TL'.nil (tN ?_)
  rcases Qe h with ⟨i, h⟩ | ⟨i, h⟩
  refine Qr rfl i ?_
  refine T.seq (Qq ?_)
  refine mw rfl ?_
  refine aw rfl ?_
  refine TL'.nil (tN ?_)
  refine T.ret (Q5 (Qw (Qw (Q5 (Qw ?_)))))
  exact Q4 (.cons _ _ _ _ (.tmp 4 _ rfl) .nil) (.cons 0 rfl (.cons 0 rfl (.nil _))) (by cases h; exact ⟨gl [], rfl, rfl⟩)
  refine Qp rfl i ?_
  refine T.skip (Ql (tN ?_))
  refine Qq ?_
  refine oI rfl ?_
  refine mw rfl ?_
  refine TL'.nil (tN ?_)
  refine Qh ?_ (ih x0 a (wI (b + (1:Int))) x1c0 x1c1 flx0 h)
  exact tq rfl rfl
  refine Qp rfl g ?_
  refine T.exit (Qk (Qk (Qt (tN ?_))))
  refine T.seq (Qq ?_)
  refine aw rfl ?_
  refine TL'.nil (tN ?_)
  refine T.ret ?_
  exact Q4 (.cons _ _ _ _ (.tmp 4 _ rfl) .nil) (.cons 0 rfl (.cons 0 rfl (.nil _))) (by cases h; exact ⟨gl [], rfl, rfl⟩)
theorem Rq (K : Nat) {x0 : List Qd} {x1c0 : Za} {x1c1 : Qa} {flx0 : Bool} {bx1c0 bx1c1 : Nat} {r : Int} (h : Hb K x0 x1c0 x1c1 = some r) : Us tp 117 [.sl flx0 2 (x0.map Qg), .c (.ex (.func (.func 92) #[] #[.pointer (some ⟨bx1c0, 0, none⟩), .pointer (some ⟨bx1c1, 0, none⟩)]))] [(Hx bx1c0 x1c0.Auto.Split.Of x1c0.Auto.Split.Many x1c0.Auto.Counts x1c0.Auto.States), (Jz bx1c1 x1c1.L x1c1.R x1c1.Rule x1c1.Next)] (fun γ => (.int .i64 r)) (fun γ => [(Hx bx1c0 x1c0.Auto.Split.Of x1c0.Auto.Split.Many x1c0.Auto.Counts x1c0.Auto.States), (Jz bx1c1 x1c1.L x1c1.R x1c1.Rule x1c1.Next)]) := by
 refine Qu Tryz.func117 rfl (nb rfl) ?_
 show T tp 19 (ca [] Tryz.f117) ⟨Qv 0 [.sl flx0 2 (x0.map Qg), .c (.ex (.func (.func 92) #[] #[.pointer (some ⟨bx1c0, 0, none⟩), .pointer (some ⟨bx1c1, 0, none⟩)]))], [(Hx bx1c0 x1c0.Auto.Split.Of x1c0.Auto.Split.Many x1c0.Auto.Counts x1c0.Auto.States), (Jz bx1c1 x1c1.L x1c1.R x1c1.Rule x1c1.Next)]⟩ (Lb bx1c0 bx1c1 x1c0 x1c1 r)
 unfold Hb at h
 refine T.seq (Qq ?_)
 refine aw rfl ?_
 refine TL'.nil (tN ?_)
 refine T.seq ?_
 refine T.seq (Qq ?_)
 refine mw rfl ?_
 refine oU x0 Qg Oa rfl ?_
 refine mw rfl ?_
 refine TL'.nil (tN ?_)
 refine T.block ?_
 refine T.loop ?_
 refine Qh ?_ (Nr K bx1c0 bx1c1 x1c0 x1c1 K x0 (x0.length : Int) (0:Int) x1c0 x1c1 flx0 h)
 exact tq rfl rfl
abbrev Ns (bx1c0 bx1c1 : Nat) (x1c0 : Za) (x1c1 : Qa) (r : Bool) : ES := Wb tp Tryz.f91 (fun y t => ∃ γ : Nat → Value, y = (.bool r) ∧ t = [(Hx bx1c0 x1c0.Auto.Split.Of x1c0.Auto.Split.Many x1c0.Auto.Counts x1c0.Auto.States), (Jz bx1c1 x1c1.L x1c1.R x1c1.Rule x1c1.Next)])
theorem Nt (K : Nat) {x0 : List Qd} {x1c0 : Za} {x1c1 : Qa} {flx0 : Bool} {bx1c0 bx1c1 : Nat} {r : Bool} (h : Vt K x0 x1c0 x1c1 = some r) : Us tp 91 [.sl flx0 2 (x0.map Qg), .c (.ex (.func (.func 92) #[] #[.pointer (some ⟨bx1c0, 0, none⟩), .pointer (some ⟨bx1c1, 0, none⟩)]))] [(Hx bx1c0 x1c0.Auto.Split.Of x1c0.Auto.Split.Many x1c0.Auto.Counts x1c0.Auto.States), (Jz bx1c1 x1c1.L x1c1.R x1c1.Rule x1c1.Next)] (fun γ => (.bool r)) (fun γ => [(Hx bx1c0 x1c0.Auto.Split.Of x1c0.Auto.Split.Many x1c0.Auto.Counts x1c0.Auto.States), (Jz bx1c1 x1c1.L x1c1.R x1c1.Rule x1c1.Next)]) := by
 refine Qu Tryz.func91 rfl (nb rfl) ?_
 show T tp 9 (ca [] Tryz.f91) ⟨Qv 0 [.sl flx0 2 (x0.map Qg), .c (.ex (.func (.func 92) #[] #[.pointer (some ⟨bx1c0, 0, none⟩), .pointer (some ⟨bx1c1, 0, none⟩)]))], [(Hx bx1c0 x1c0.Auto.Split.Of x1c0.Auto.Split.Many x1c0.Auto.Counts x1c0.Auto.States), (Jz bx1c1 x1c1.L x1c1.R x1c1.Rule x1c1.Next)]⟩ (Ns bx1c0 bx1c1 x1c0 x1c1 r)
 unfold Vt at h
 refine T.seq (Qq ?_)
 refine aw rfl ?_
 refine TL'.nil (tN (T.seq (Qq ?_)))
 refine mw rfl ?_
 refine mw rfl ?_
 obtain ⟨b, a, h⟩ := bind_some h
 refine sp rfl (Q8 (is := [0, 1]) (ph := []) rfl (dk rfl) Tryz.func117 rfl rfl (Q7.cons rfl (Q7.cons rfl Q7.nil)) (Rq K (flx0 := flx0) (bx1c0 := bx1c0) (bx1c1 := bx1c1) a) (.cons rfl rfl (.cons rfl rfl (.nil))) (fun _ => rfl) (fun f => ?_))
 refine nm (.c (.c (.n))) ?_
 refine oI rfl ?_
 refine aw rfl ?_
 refine TL'.nil (tN ?_)
 refine T.ret ?_
 exact Q4 (.cons _ _ _ _ (.tmp 4 _ rfl) .nil) (.cons 0 rfl (.cons 0 rfl (.nil _))) (by cases h; exact ⟨gl [], rfl, rfl⟩)
abbrev Js (r : Bool) : ES := Wb tp Tryz.f55 (fun y t => y = (.bool r) ∧ t = [])
abbrev Rb (r : Bool) : ES := thenS (fun s' => T tp 79 (ca [1,1,1] Tryz.f55) s' ((Js r))) ((Js r))
abbrev Pi (r : Bool) : ES := thenS (fun s' => T tp 79 (ca [1,1,1,1] Tryz.f55) s' ((Js r))) ((Js r))
abbrev Wj (r : Bool) : ES := Qz 0 ((Pi r))
abbrev Kw (r : Bool) : ES := thenS (fun s' => TL tp 79 (ca [1,1,1,0,1,0,0] Tryz.f55) s' ((Wj r))) ((Wj r))
abbrev D8 (r : Bool) : ES := thenS (fun s' => T tp 79 (ca [1,1,1,0,1,0,0,1,1,1] Tryz.f55) s' ((Kw r))) ((Kw r))
abbrev Wi (r : Bool) : ES := Qz 1 ((D8 r))
abbrev Cj (r : Bool) : ES := thenS (fun s' => T tp 79 (ca [1,1,1,0,1,0,0,1,1,0,0,1,1] Tryz.f55) s' ((Wi r))) ((Wi r))
theorem V5 {r : Bool} (K : Nat) (h : Z1 K = some r) : T tp 79 (ca [1,1,0,1,0] Tryz.f55) ⟨[], []⟩ (Rb r) := by
 unfold Z1 at h
 refine T.seq (Qq ?_)
 refine aw rfl ?_
 refine TL'.nil (tN ?_)
 refine T.ret (Qw ?_)
 exact fd rfl (by cases h; exact ⟨rfl, rfl⟩)
theorem Lm {r : Bool} (K : Nat) (h : Y4 K = some r) : T tp 79 (ca [1,1,1,0,1,0,0,1,1,0,0,1,0,1,0] Tryz.f55) ⟨[], []⟩ (Cj r) := by
 unfold Y4 at h
 refine T.seq (Qq ?_)
 refine aw rfl ?_
 refine TL'.nil (tN ?_)
 refine T.ret (Qw (Q5 (Qw (Qw (Q5 (Qw ?_))))))
 exact fd rfl (by cases h; exact ⟨rfl, rfl⟩)
theorem R9 {r : Bool} (K : Nat) : ∀ (k : Nat), ∀ (x1 : Qa) (l m : Int) (x0 : Za) (g j : Nat), Xt K k x1 l m x0 = some r → TL tp 79 (ca [1,1,1,0,1,0,0] Tryz.f55) ⟨[(2, .ptr g 0), (3, .ptr j 0), (45, .sl false 1 (x1.Next.map (cL 2 Qg))), (46, .int .i64 l), (47, .int .i64 m)], [(Hx g x0.Auto.Split.Of x0.Auto.Split.Many x0.Auto.Counts x0.Auto.States), (Jz j x1.L x1.R x1.Rule x1.Next)]⟩ (Wj r) := by
 intro k
 induction k with
 | zero =>
  intro x1 l m x0 g j h
  exact zn h
 | succ k ih =>
  intro x1 l m x0 g j h
  rw [Xt] at h
  refine Q6 ?_
  refine T.seq (Qq ?_)
  refine oI rfl ?_
  refine TL'.nil (tN ?_)
  refine T.seq ?_
  rcases Qe h with ⟨p, h⟩ | ⟨p, h⟩
  refine Qr rfl p ?_
  refine T.skip (tN ?_)
  refine T.seq ?_
  refine T.block ?_
  refine T.seq (Qq ?_)
  refine mw rfl ?_
  obtain ⟨u, aa, h⟩ := bind_some h
  refine oX x1.Next (cL 2 Qg) Rg i55 aa rfl ?_
  refine oR Oa rfl ?_
  refine aw rfl ?_
  refine aw rfl ?_
  refine TL'.nil (tN ?_)
  refine T.seq ?_
  refine T.seq (Qq ?_)
  refine oP H1 i38 rfl ?_
  refine oL 1 Zy rfl ?_
  refine mw rfl ?_
  obtain ⟨w, y, h⟩ := bind_some h
  refine oX x1.Rule (cI .i64) Zy i3 y rfl ?_
  refine oR ul3 rfl ?_
  refine oI rfl ?_
  refine mw rfl ?_
  rcases Qe h with ⟨b, h⟩ | ⟨b, h⟩
  refine pf rfl b ?_
  refine pf rfl b ?_
  refine pf rfl b ?_
  refine pf rfl b ?_
  refine pf rfl b ?_
  refine pf rfl b ?_
  refine oY b rfl ?_
  refine mw rfl ?_
  refine pf rfl rfl ?_
  refine pf rfl rfl ?_
  refine pf rfl rfl ?_
  refine pf rfl rfl ?_
  refine pf rfl rfl ?_
  refine pf rfl rfl ?_
  refine pf rfl rfl ?_
  refine oY rfl rfl ?_
  refine TL'.nil (tN ?_)
  refine Qr rfl rfl ?_
  refine Qm ?_ (Lm K h)
  exact tq rfl rfl
  refine sn rfl b (Z0 rfl (dk rfl) H1 rfl i38 (by decide) rfl ?_)
  refine sn rfl b (Zo (i := 1) rfl (dk rfl) Zy rfl rfl rfl rfl ?_)
  refine sn rfl b (OpT.move rfl (dk rfl) rfl ?_)
  refine sn rfl b (Yq (xs := x1.Rule) (f := (cI .i64)) (v := w) rfl (dk rfl) Zy i3 rfl rfl y ?_)
  refine sn rfl b (Xi rfl (dk rfl) ul3 rfl rfl rfl ?_)
  refine sn rfl b (Zj rfl rfl (dk rfl) rfl rfl ?_)
  refine oZ b rfl ?_
  refine mw rfl ?_
  rcases Qe h with ⟨a, h⟩ | ⟨a, h⟩
  refine pf rfl a ?_
  refine pf rfl a ?_
  refine pf rfl a ?_
  refine pf rfl a ?_
  refine pf rfl a ?_
  refine pf rfl a ?_
  refine pf rfl a ?_
  refine oY a rfl ?_
  refine TL'.nil (tN ?_)
  refine Qr rfl rfl ?_
  refine Qm ?_ (Lm K h)
  exact tq rfl rfl
  refine sn rfl a (OpT.move rfl (dk rfl) rfl ?_)
  refine sn rfl a (Yg (xs := u) (f := Qg) rfl (dk rfl) Oa rfl ?_)
  refine sn rfl a (Z0 rfl (dk rfl) ul107 rfl i28 (by decide) rfl ?_)
  refine sn rfl a (Z0 rfl (dk rfl) J5 rfl i24 (by decide) rfl ?_)
  refine sn rfl a (Z0 rfl (dk rfl) Qfs rfl i3 (by decide) rfl ?_)
  refine sn rfl a (Zo (i := 0) rfl (dk rfl) ul3 rfl rfl rfl rfl ?_)
  refine sn rfl a (Zj rfl rfl (dk rfl) rfl rfl ?_)
  refine oZ a rfl ?_
  refine TL'.nil (tN ?_)
  rcases Qe h with ⟨q, h⟩ | ⟨q, h⟩
  refine Qr rfl q ?_
  refine Qm ?_ (Lm K h)
  exact tq rfl rfl
  refine Qp rfl q ?_
  refine T.skip (tN ?_)
  refine T.seq (Qq ?_)
  refine mw rfl ?_
  refine sp rfl (OpT.makeFunc (vs := [.pointer (some ⟨g, 0, none⟩), .pointer (some ⟨j, 0, none⟩)]) rfl (dk rfl) rfl ?_)
  obtain ⟨ac, ab, h⟩ := bind_some h
  refine sp rfl (Q8 (is := [0, 1]) (ph := []) rfl (dk rfl) Tryz.func91 rfl rfl (Q7.cons rfl (Q7.cons rfl Q7.nil)) (Nt K (flx0 := false) (bx1c0 := g) (bx1c1 := j) ab) (.cons rfl rfl (.cons rfl rfl (.nil))) (fun _ => rfl) (fun ad => ?_))
  refine nm (.c (.c (.n))) ?_
  refine TL'.nil (tN ?_)
  rcases Qe h with ⟨s, h⟩ | ⟨s, h⟩
  refine Qr rfl s ?_
  refine T.seq (Qq ?_)
  refine aw rfl ?_
  refine TL'.nil (tN ?_)
  refine T.ret (Q5 (Qw (Qw (Q5 (Qw ?_)))))
  exact fd rfl (by cases h; exact ⟨rfl, rfl⟩)
  refine Qp rfl s ?_
  refine T.skip (Ql (tN ?_))
  refine Qq ?_
  refine oI rfl ?_
  refine mw rfl ?_
  refine TL'.nil (tN ?_)
  refine Qh ?_ (ih x1 l (wI (m + (1:Int))) x0 g j h)
  exact tq rfl rfl
  refine Qp rfl p ?_
  refine T.exit (Qk (Qk (Qt (tN ?_))))
  refine T.seq (Qq ?_)
  refine aw rfl ?_
  refine TL'.nil (tN ?_)
  refine T.ret ?_
  exact fd rfl (by cases h; exact ⟨rfl, rfl⟩)
theorem Qbn (K : Nat) {x0 : Za} {x1 : Qa} {r : Bool} (h : Hg K x0 x1 = some r) : Zn tp 55 [.agg ((Zg.dc 256 .u8 x0.Auto.Split.Of) ++ (([.int .i64 x0.Auto.Split.Many, .sl false 2 (mA x0.Auto.Counts), .sl false 4 (x0.Auto.States.map Qc)] : List DC))), .agg [.sl false 1 (mI x1.L), .sl false 1 (mI x1.R), .sl false 1 (mI x1.Rule), .sl false 1 (x1.Next.map (cL 2 Qg))]] [] (.bool r) := by
 refine Qu Tryz.func55 rfl (nb rfl) ?_
 show T tp 79 (ca [] Tryz.f55) ⟨Qv 0 [.agg ((Zg.dc 256 .u8 x0.Auto.Split.Of) ++ (([.int .i64 x0.Auto.Split.Many, .sl false 2 (mA x0.Auto.Counts), .sl false 4 (x0.Auto.States.map Qc)] : List DC))), .agg [.sl false 1 (mI x1.L), .sl false 1 (mI x1.R), .sl false 1 (mI x1.Rule), .sl false 1 (x1.Next.map (cL 2 Qg))]], []⟩ (Js r)
 unfold Hg at h
 refine T.seq (Qq ?_)
 refine sp rfl (Zi rfl (dk rfl) rfl (fun l => ?_))
 refine sp rfl (Zi rfl (dk rfl) rfl (fun m => ?_))
 refine aw rfl ?_
 refine TL'.nil (tN (T.seq (Qq ?_)))
 refine oP H1 i38 rfl ?_
 refine oL 0 Zy rfl ?_
 refine oU x1.R (cI .i64) Zy rfl ?_
 obtain ⟨v, p, h⟩ := bind_some h
 refine sp rfl (Q1 rfl (dk rfl) Tryz.func89 rfl rfl (Q7.cons rfl Q7.nil) (Zn.nil (auto_Codes_T K p)) ?_)
 refine aw rfl ?_
 refine TL'.nil (tN ?_)
 refine T.seq ?_
 refine T.seq (Qq ?_)
 refine mw rfl ?_
 refine oI rfl ?_
 refine mw rfl ?_
 rcases Qe h with ⟨b, h⟩ | ⟨b, h⟩
 refine pf rfl b ?_
 refine pf rfl b ?_
 refine pf rfl b ?_
 refine pf rfl b ?_
 refine pf rfl b ?_
 refine oY b rfl ?_
 refine mw rfl ?_
 refine pf rfl rfl ?_
 refine pf rfl rfl ?_
 refine pf rfl rfl ?_
 refine pf rfl rfl ?_
 refine pf rfl rfl ?_
 refine oY rfl rfl ?_
 refine mw rfl ?_
 refine pf rfl rfl ?_
 refine pf rfl rfl ?_
 refine pf rfl rfl ?_
 refine pf rfl rfl ?_
 refine oY rfl rfl ?_
 refine mw rfl ?_
 refine pf rfl rfl ?_
 refine pf rfl rfl ?_
 refine pf rfl rfl ?_
 refine pf rfl rfl ?_
 refine pf rfl rfl ?_
 refine pf rfl rfl ?_
 refine pf rfl rfl ?_
 refine pf rfl rfl ?_
 refine oY rfl rfl ?_
 refine TL'.nil (tN ?_)
 refine Qr rfl rfl ?_
 refine Qm ?_ (V5 K h)
 exact tq rfl rfl
 refine sn rfl b (Z0 rfl (dk rfl) H1 rfl i38 (by decide) rfl ?_)
 refine sn rfl b (Zo (i := 0) rfl (dk rfl) Zy rfl rfl rfl rfl ?_)
 refine sn rfl b (Yg (xs := x1.Rule) (f := (cI .i64)) rfl (dk rfl) Zy rfl ?_)
 refine sn rfl b (OpT.move rfl (dk rfl) rfl ?_)
 refine sn rfl b (Zj rfl rfl (dk rfl) rfl rfl ?_)
 refine oZ b rfl ?_
 refine mw rfl ?_
 rcases Qe h with ⟨d, h⟩ | ⟨d, h⟩
 refine pf rfl d ?_
 refine pf rfl d ?_
 refine pf rfl d ?_
 refine pf rfl d ?_
 refine pf rfl d ?_
 refine oY d rfl ?_
 refine mw rfl ?_
 refine pf rfl rfl ?_
 refine pf rfl rfl ?_
 refine pf rfl rfl ?_
 refine pf rfl rfl ?_
 refine oY rfl rfl ?_
 refine mw rfl ?_
 refine pf rfl rfl ?_
 refine pf rfl rfl ?_
 refine pf rfl rfl ?_
 refine pf rfl rfl ?_
 refine pf rfl rfl ?_
 refine pf rfl rfl ?_
 refine pf rfl rfl ?_
 refine pf rfl rfl ?_
 refine oY rfl rfl ?_
 refine TL'.nil (tN ?_)
 refine Qr rfl rfl ?_
 refine Qm ?_ (V5 K h)
 exact tq rfl rfl
 refine sn rfl d (Z0 rfl (dk rfl) H1 rfl i49 (by decide) rfl ?_)
 refine sn rfl d (Zo (i := 0) rfl (dk rfl) Rg rfl rfl rfl rfl ?_)
 refine sn rfl d (Yg (xs := x1.Next) (f := (cL 2 Qg)) rfl (dk rfl) Rg rfl ?_)
 refine sn rfl d (OpT.move rfl (dk rfl) rfl ?_)
 refine sn rfl d (Zj rfl rfl (dk rfl) rfl rfl ?_)
 refine oZ d rfl ?_
 refine mw rfl ?_
 rcases Qe h with ⟨g, h⟩ | ⟨g, h⟩
 refine pf rfl g ?_
 refine pf rfl g ?_
 refine pf rfl g ?_
 refine pf rfl g ?_
 refine oY g rfl ?_
 refine mw rfl ?_
 refine pf rfl rfl ?_
 refine pf rfl rfl ?_
 refine pf rfl rfl ?_
 refine pf rfl rfl ?_
 refine pf rfl rfl ?_
 refine pf rfl rfl ?_
 refine pf rfl rfl ?_
 refine pf rfl rfl ?_
 refine oY rfl rfl ?_
 refine TL'.nil (tN ?_)
 refine Qr rfl rfl ?_
 refine Qm ?_ (V5 K h)
 exact tq rfl rfl
 refine sn rfl g (Z0 rfl (dk rfl) H1 rfl i38 (by decide) rfl ?_)
 refine sn rfl g (Zo (i := 0) rfl (dk rfl) Zy rfl rfl rfl rfl ?_)
 obtain ⟨w, q, h⟩ := bind_some h
 refine sn rfl g (Q1 rfl (dk rfl) Tryz.func90 rfl rfl (Q7.cons rfl (Q7.cons rfl Q7.nil)) (Zn.nil (Qe6 K (flx0 := false) q)) ?_)
 refine sn rfl g (OpT.not rfl (dk rfl) rfl ?_)
 refine oZ g rfl ?_
 refine mw rfl ?_
 rcases Qe h with ⟨a, h⟩ | ⟨a, h⟩
 refine pf rfl a ?_
 refine pf rfl a ?_
 refine pf rfl a ?_
 refine pf rfl a ?_
 refine pf rfl a ?_
 refine pf rfl a ?_
 refine pf rfl a ?_
 refine pf rfl a ?_
 refine oY a rfl ?_
 refine TL'.nil (tN ?_)
 refine Qr rfl rfl ?_
 refine Qm ?_ (V5 K h)
 exact tq rfl rfl
 refine sn rfl a (Z0 rfl (dk rfl) H1 rfl i38 (by decide) rfl ?_)
 refine sn rfl a (Zo (i := 0) rfl (dk rfl) Zy rfl rfl rfl rfl ?_)
 refine sn rfl a (Z0 rfl (dk rfl) ul107 rfl i28 (by decide) rfl ?_)
 refine sn rfl a (Z0 rfl (dk rfl) J5 rfl i25 (by decide) rfl ?_)
 refine sn rfl a (Zo (i := 1) rfl (dk rfl) Qfa rfl rfl rfl rfl ?_)
 refine sn rfl a (Yg (xs := x0.Auto.Counts) (f := (Vg.dc .i64)) rfl (dk rfl) Qfa rfl ?_)
 obtain ⟨y, u, h⟩ := bind_some h
 refine sn rfl a (Q1 rfl (dk rfl) Tryz.func90 rfl rfl (Q7.cons rfl (Q7.cons rfl Q7.nil)) (Zn.nil (Qe6 K (flx0 := false) u)) ?_)
 refine sn rfl a (OpT.not rfl (dk rfl) rfl ?_)
 refine oZ a rfl ?_
 refine TL'.nil (tN ?_)
 rcases Qe h with ⟨j, h⟩ | ⟨j, h⟩
 refine Qr rfl j ?_
 refine Qm ?_ (V5 K h)
 exact tq rfl rfl
 refine Qp rfl j ?_
 refine T.skip (tN ?_)
 refine T.seq ?_
 refine T.seq (Qq ?_)
 refine oP H1 i49 rfl ?_
 refine oL 0 Rg rfl ?_
 refine oU x1.Next (cL 2 Qg) Rg rfl ?_
 refine mw rfl ?_
 refine TL'.nil (tN ?_)
 refine T.block ?_
 refine T.loop ?_
 refine Qh ?_ (R9 K K x1 (x1.Next.length : Int) (0:Int) x0 l m h)
 exact tr rfl (.c (.s .z) (.c .z (.n _)))
abbrev auto_Right_1_q (bx1 : Nat) (x1 : Za) (r : Bool) : ES := Wb tp Tryz.f54 (fun y t => ∃ γ : Nat → Value, y = (.bool r) ∧ t = [(Hx bx1 x1.Auto.Split.Of x1.Auto.Split.Many x1.Auto.Counts x1.Auto.States)])
theorem auto_Right_1_T (K : Nat) {x0 : Qa} {x1 : Za} {bx1 : Nat} {r : Bool} (h : Og K x0 x1 = some r) : Us tp 54 [.agg [.sl false 1 (mI x0.L), .sl false 1 (mI x0.R), .sl false 1 (mI x0.Rule), .sl false 1 (x0.Next.map (cL 2 Qg))], .ptr bx1 0] [(Hx bx1 x1.Auto.Split.Of x1.Auto.Split.Many x1.Auto.Counts x1.Auto.States)] (fun γ => (.bool r)) (fun γ => [(Hx bx1 x1.Auto.Split.Of x1.Auto.Split.Many x1.Auto.Counts x1.Auto.States)]) := by
 refine Qu Tryz.func54 rfl (nb rfl) ?_
 show T tp 8 (ca [] Tryz.f54) ⟨Qv 0 [.agg [.sl false 1 (mI x0.L), .sl false 1 (mI x0.R), .sl false 1 (mI x0.Rule), .sl false 1 (x0.Next.map (cL 2 Qg))], .ptr bx1 0], [(Hx bx1 x1.Auto.Split.Of x1.Auto.Split.Many x1.Auto.Counts x1.Auto.States)]⟩ (auto_Right_1_q bx1 x1 r)
 unfold Og at h
 refine T.seq (Qq ?_)
 refine sp rfl (Zi rfl (dk rfl) rfl (fun b => ?_))
 refine aw rfl ?_
 refine TL'.nil (tN (T.seq (Qq ?_)))
 refine oA 1 ((Zg.dc 256 .u8 x1.Auto.Split.Of) ++ (([.int .i64 x1.Auto.Split.Many, .sl false 2 (mA x1.Auto.Counts), .sl false 4 (x1.Auto.States.map Qc)] : List DC))) ul107 i107 rfl ?_
 refine oA 0 [.sl false 1 (mI x0.L), .sl false 1 (mI x0.R), .sl false 1 (mI x0.Rule), .sl false 1 (x0.Next.map (cL 2 Qg))] H1 i51 rfl ?_
 obtain ⟨c, a, h⟩ := bind_some h
 refine sp rfl (Q1 rfl (dk rfl) Tryz.func55 rfl rfl (Q7.cons rfl (Q7.cons rfl Q7.nil)) (Zn.nil (Qbn K a)) ?_)
 refine oT rfl ?_
 refine aw rfl ?_
 refine TL'.nil (tN ?_)
 refine T.ret ?_
 exact Q4 (.cons _ _ _ _ (.tmp 3 _ rfl) .nil) (.cons 1 rfl (.nil _)) (by cases h; exact ⟨gl [], rfl, rfl⟩)
abbrev Gk (bx1c0 : Nat) (x1c0 : Za) (r : Int) : ES := Wb tp Tryz.f88 (fun y t => ∃ γ : Nat → Value, y = (.int .i64 r) ∧ t = [(Hx bx1c0 x1c0.Auto.Split.Of x1c0.Auto.Split.Many x1c0.Auto.Counts x1c0.Auto.States)])
abbrev Iy (bx1c0 : Nat) (x1c0 : Za) (r : Int) : ES := thenS (fun s' => T tp 19 (ca [1,1] Tryz.f88) s' ((Gk bx1c0 x1c0 r))) ((Gk bx1c0 x1c0 r))
abbrev E1 (bx1c0 : Nat) (x1c0 : Za) (r : Int) : ES := Qz 0 ((Iy bx1c0 x1c0 r))
theorem Iz {r : Int} (K bx1c0 : Nat) (x1c0 : Za) : ∀ (k : Nat), ∀ (x0 : List Qa) (a b : Int) (x1c0 : Za) (flx0 : Bool), Yr K k x0 a b x1c0 = some r → TL tp 19 (ca [1,0,1,0,0] Tryz.f88) ⟨[(0, .sl flx0 4 (x0.map Qc)), (1, .c (.ex (.func (.func 54) #[] #[.pointer (some ⟨bx1c0, 0, none⟩)]))), (7, .int .i64 a), (8, .int .i64 b)], [(Hx bx1c0 x1c0.Auto.Split.Of x1c0.Auto.Split.Many x1c0.Auto.Counts x1c0.Auto.States)]⟩ (E1 bx1c0 x1c0 r) := by
 intro k
 induction k with
 | zero =>
  intro x0 a b x1c0 flx0 h
  exact zn h
 | succ k ih =>
  intro x0 a b x1c0 flx0 h
  rw [Yr] at h
  refine Q6 ?_
  refine T.seq (Qq ?_)
  refine oI rfl ?_
  refine TL'.nil (tN ?_)
  refine T.seq ?_
  rcases Qe h with ⟨g, h⟩ | ⟨g, h⟩
  refine Qr rfl g ?_
  refine T.skip (tN ?_)
  refine T.seq ?_
  refine T.block ?_
  refine T.seq (Qq ?_)
  refine mw rfl ?_
  refine aw rfl ?_
  refine TL'.nil (tN (T.seq (Qq ?_)))
  iterate 3 refine mw rfl ?_
  obtain ⟨j, l, h⟩ := bind_some h
  refine oX x0 Qc Ja i51 l rfl ?_
  refine sp rfl (Zb rfl (dk rfl) H1 rfl i51 rfl (nb rfl) ?_)
  obtain ⟨p, m, h⟩ := bind_some h
  refine sp rfl (Oh (f := 54) (vs := [.pointer (some ⟨bx1c0, 0, none⟩)]) rfl rfl (dk rfl) Tryz.func54 rfl rfl (Q8 (is := [0]) (ph := []) rfl (dk rfl) Tryz.func54 rfl rfl (Q7.cons rfl (Q7.cons rfl Q7.nil)) (auto_Right_1_T K (bx1 := bx1c0) m) (.cons rfl rfl (.nil)) (fun _ => rfl) (fun q => ?_)))
  refine nm (.c (.n)) ?_
  refine TL'.nil (tN ?_)
  rcases Qe h with ⟨i, h⟩ | ⟨i, h⟩
  refine Qr rfl i ?_
  refine T.seq (Qq ?_)
  refine mw rfl ?_
  refine aw rfl ?_
  refine TL'.nil (tN ?_)
  refine T.ret (Q5 (Qw (Qw (Q5 (Qw ?_)))))
  exact Q4 (.cons _ _ _ _ (.tmp 4 _ rfl) .nil) (.cons 0 rfl (.nil _)) (by cases h; exact ⟨gl [], rfl, rfl⟩)
  refine Qp rfl i ?_
  refine T.skip (Ql (tN ?_))
  refine Qq ?_
  refine oI rfl ?_
  refine mw rfl ?_
  refine TL'.nil (tN ?_)
  refine Qh ?_ (ih x0 a (wI (b + (1:Int))) x1c0 flx0 h)
  exact tq rfl rfl
  refine Qp rfl g ?_
  refine T.exit (Qk (Qk (Qt (tN ?_))))
  refine T.seq (Qq ?_)
  refine aw rfl ?_
  refine TL'.nil (tN ?_)
  refine T.ret ?_
  exact Q4 (.cons _ _ _ _ (.tmp 4 _ rfl) .nil) (.cons 0 rfl (.nil _)) (by cases h; exact ⟨gl [], rfl, rfl⟩)
theorem Pt (K : Nat) {x0 : List Qa} {x1c0 : Za} {flx0 : Bool} {bx1c0 : Nat} {r : Int} (h : Wn K x0 x1c0 = some r) : Us tp 88 [.sl flx0 4 (x0.map Qc), .c (.ex (.func (.func 54) #[] #[.pointer (some ⟨bx1c0, 0, none⟩)]))] [(Hx bx1c0 x1c0.Auto.Split.Of x1c0.Auto.Split.Many x1c0.Auto.Counts x1c0.Auto.States)] (fun γ => (.int .i64 r)) (fun γ => [(Hx bx1c0 x1c0.Auto.Split.Of x1c0.Auto.Split.Many x1c0.Auto.Counts x1c0.Auto.States)]) := by
 refine Qu Tryz.func88 rfl (nb rfl) ?_
 show T tp 19 (ca [] Tryz.f88) ⟨Qv 0 [.sl flx0 4 (x0.map Qc), .c (.ex (.func (.func 54) #[] #[.pointer (some ⟨bx1c0, 0, none⟩)]))], [(Hx bx1c0 x1c0.Auto.Split.Of x1c0.Auto.Split.Many x1c0.Auto.Counts x1c0.Auto.States)]⟩ (Gk bx1c0 x1c0 r)
 unfold Wn at h
 refine T.seq (Qq ?_)
 refine aw rfl ?_
 refine TL'.nil (tN ?_)
 refine T.seq ?_
 refine T.seq (Qq ?_)
 refine mw rfl ?_
 refine oU x0 Qc Ja rfl ?_
 refine mw rfl ?_
 refine TL'.nil (tN ?_)
 refine T.block ?_
 refine T.loop ?_
 refine Qh ?_ (Iz K bx1c0 x1c0 K x0 (x0.length : Int) (0:Int) x1c0 flx0 h)
 exact tq rfl rfl
abbrev I0 (bx1c0 : Nat) (x1c0 : Za) (r : Bool) : ES := Wb tp Tryz.f53 (fun y t => ∃ γ : Nat → Value, y = (.bool r) ∧ t = [(Hx bx1c0 x1c0.Auto.Split.Of x1c0.Auto.Split.Many x1c0.Auto.Counts x1c0.Auto.States)])
theorem I1 (K : Nat) {x0 : List Qa} {x1c0 : Za} {flx0 : Bool} {bx1c0 : Nat} {r : Bool} (h : Vk K x0 x1c0 = some r) : Us tp 53 [.sl flx0 4 (x0.map Qc), .c (.ex (.func (.func 54) #[] #[.pointer (some ⟨bx1c0, 0, none⟩)]))] [(Hx bx1c0 x1c0.Auto.Split.Of x1c0.Auto.Split.Many x1c0.Auto.Counts x1c0.Auto.States)] (fun γ => (.bool r)) (fun γ => [(Hx bx1c0 x1c0.Auto.Split.Of x1c0.Auto.Split.Many x1c0.Auto.Counts x1c0.Auto.States)]) := by
 refine Qu Tryz.func53 rfl (nb rfl) ?_
 show T tp 9 (ca [] Tryz.f53) ⟨Qv 0 [.sl flx0 4 (x0.map Qc), .c (.ex (.func (.func 54) #[] #[.pointer (some ⟨bx1c0, 0, none⟩)]))], [(Hx bx1c0 x1c0.Auto.Split.Of x1c0.Auto.Split.Many x1c0.Auto.Counts x1c0.Auto.States)]⟩ (I0 bx1c0 x1c0 r)
 unfold Vk at h
 refine T.seq (Qq ?_)
 refine aw rfl ?_
 refine TL'.nil (tN (T.seq (Qq ?_)))
 refine mw rfl ?_
 refine mw rfl ?_
 obtain ⟨b, a, h⟩ := bind_some h
 refine sp rfl (Q8 (is := [0]) (ph := []) rfl (dk rfl) Tryz.func88 rfl rfl (Q7.cons rfl (Q7.cons rfl Q7.nil)) (Pt K (flx0 := flx0) (bx1c0 := bx1c0) a) (.cons rfl rfl (.nil)) (fun _ => rfl) (fun f => ?_))
 refine nm (.c (.n)) ?_
 refine oI rfl ?_
 refine aw rfl ?_
 refine TL'.nil (tN ?_)
 refine T.ret ?_
 exact Q4 (.cons _ _ _ _ (.tmp 4 _ rfl) .nil) (.cons 0 rfl (.nil _)) (by cases h; exact ⟨gl [], rfl, rfl⟩)
abbrev Er (r : Bool) : ES := Wb tp Tryz.f24 (fun y t => y = (.bool r) ∧ t = [])
abbrev Qgh (r : Bool) : ES := thenS (fun s' => T tp 79 (ca [1,1] Tryz.f24) s' ((Er r))) ((Er r))
abbrev Qfp (r : Bool) : ES := thenS (fun s' => T tp 79 (ca [1,1,1] Tryz.f24) s' ((Er r))) ((Er r))
abbrev C4 (r : Bool) : ES := Qz 0 ((Qfp r))
abbrev Oe (r : Bool) : ES := thenS (fun s' => TL tp 79 (ca [1,1,0,1,0,0] Tryz.f24) s' ((C4 r))) ((C4 r))
abbrev T6 (r : Bool) : ES := thenS (fun s' => T tp 79 (ca [1,1,0,1,0,0,1,1,1] Tryz.f24) s' ((Oe r))) ((Oe r))
abbrev N9 (r : Bool) : ES := Qz 1 ((T6 r))
theorem Kx {r : Bool} (K : Nat) (h : X2 K = some r) : T tp 79 (ca [1,0,1,0] Tryz.f24) ⟨[], []⟩ (Qgh r) := by
 unfold X2 at h
 refine T.seq (Qq ?_)
 refine aw rfl ?_
 refine TL'.nil (tN ?_)
 refine T.ret (Qw ?_)
 exact fd rfl (by cases h; exact ⟨rfl, rfl⟩)
theorem C5 {r : Bool} (K : Nat) (h : Ln K = some r) : T tp 79 (ca [1,1,0,1,0,0,1,1,0,0,1,1,0] Tryz.f24) ⟨[], []⟩ (N9 r) := by
 unfold Ln at h
 refine T.seq (Qq ?_)
 refine aw rfl ?_
 refine TL'.nil (tN ?_)
 refine T.ret (Q5 (Qw (Qw (Q5 (Qw ?_)))))
 exact fd rfl (by cases h; exact ⟨rfl, rfl⟩)
theorem Qgi {r : Bool} (K : Nat) : ∀ (k : Nat), ∀ (x0 : Qn) (p q : Int) (u : Nat), Hh K k x0 p q = some r → TL tp 79 (ca [1,1,0,1,0,0] Tryz.f24) ⟨[(1, .ptr u 0), (45, .sl false 2 (mA x0.Counts)), (46, .int .i64 p), (47, .int .i64 q)], [(R8 u x0.Split.Of x0.Split.Many x0.Counts x0.States)]⟩ (C4 r) := by
 intro k
 induction k with
 | zero =>
  intro x0 p q u h
  exact zn h
 | succ k ih =>
  intro x0 p q u h
  rw [Hh] at h
  refine Q6 ?_
  refine T.seq (Qq ?_)
  refine oI rfl ?_
  refine TL'.nil (tN ?_)
  refine T.seq ?_
  rcases Qe h with ⟨w, h⟩ | ⟨w, h⟩
  refine Qr rfl w ?_
  refine T.skip (tN ?_)
  refine T.seq ?_
  refine T.block ?_
  refine T.seq (Qq ?_)
  obtain ⟨m, ab, h⟩ := bind_some h
  refine oX x0.Counts (Vg.dc .i64) Qfa i59 ab rfl ?_
  refine sp rfl (Zb rfl (dk rfl) ul59 rfl i59 rfl (nb rfl) ?_)
  refine sp rfl (Ze rfl (dk rfl) i59 rfl (fun ad => ?_))
  refine sp rfl (Qx (i := 0) (cells' := (Vg.oc .i64 m)) rfl rfl i59 rfl rfl rfl rfl (nb rfl) rfl ?_)
  refine TL'.nil (tN (T.seq (Qq ?_)))
  refine sp rfl (Y5 rfl (dk rfl) ul59 i3 rfl rfl (by decide) (by decide) ?_)
  refine sp rfl (Zo (i := 0) rfl (dk rfl) ul3 rfl rfl rfl (Hu (k := .i64) (a := m) (pre := []) (post := []) (by decide) (by decide)) ?_)
  refine oI rfl ?_
  refine mw rfl ?_
  rcases Qe h with ⟨b, h⟩ | ⟨b, h⟩
  refine pf rfl b ?_
  refine pf rfl b ?_
  refine pf rfl b ?_
  refine pf rfl b ?_
  refine pf rfl b ?_
  refine oY b rfl ?_
  refine mw rfl ?_
  refine pf rfl rfl ?_
  refine pf rfl rfl ?_
  refine pf rfl rfl ?_
  refine oY rfl rfl ?_
  refine mw rfl ?_
  refine pf rfl rfl ?_
  refine pf rfl rfl ?_
  refine pf rfl rfl ?_
  refine oY rfl rfl ?_
  refine TL'.nil (tN ?_)
  refine Qr rfl rfl ?_
  refine Qm ?_ (C5 K h)
  exact tq rfl rfl
  refine sn rfl b (Y5 rfl (dk rfl) ul59 i3 rfl rfl (by decide) (by decide) ?_)
  refine sn rfl b (Zo (i := 0) rfl (dk rfl) ul3 rfl rfl rfl (Hu (k := .i64) (a := m) (pre := []) (post := []) (by decide) (by decide)) ?_)
  refine sn rfl b (Y5 rfl (dk rfl) ul59 i3 rfl rfl (by decide) (by decide) ?_)
  refine sn rfl b (Zo (i := 0) rfl (dk rfl) ul3 rfl rfl rfl (Hu (k := .i64) (a := m) (pre := []) (post := []) (by decide) (by decide)) ?_)
  refine sn rfl b (Zj rfl rfl (dk rfl) rfl rfl ?_)
  refine oZ b rfl ?_
  refine mw rfl ?_
  rcases Qe h with ⟨g, h⟩ | ⟨g, h⟩
  refine pf rfl g ?_
  refine pf rfl g ?_
  refine pf rfl g ?_
  refine oY g rfl ?_
  refine mw rfl ?_
  refine pf rfl rfl ?_
  refine pf rfl rfl ?_
  refine pf rfl rfl ?_
  refine oY rfl rfl ?_
  refine TL'.nil (tN ?_)
  refine Qr rfl rfl ?_
  refine Qm ?_ (C5 K h)
  exact tq rfl rfl
  refine sn rfl g (Y5 rfl (dk rfl) ul59 i3 rfl rfl (by decide) (by decide) ?_)
  refine sn rfl g (Zo (i := 0) rfl (dk rfl) ul3 rfl rfl rfl (Hu (k := .i64) (a := m) (pre := []) (post := []) (by decide) (by decide)) ?_)
  refine sn rfl g (Zj rfl rfl (dk rfl) rfl rfl ?_)
  refine oZ g rfl ?_
  refine mw rfl ?_
  rcases Qe h with ⟨j, h⟩ | ⟨j, h⟩
  refine pf rfl j ?_
  refine pf rfl j ?_
  refine pf rfl j ?_
  refine oY j rfl ?_
  refine TL'.nil (tN ?_)
  refine Qr rfl rfl ?_
  refine Qm ?_ (C5 K h)
  exact tq rfl rfl
  refine sn rfl j (Y5 rfl (dk rfl) ul59 i3 rfl rfl (by decide) (by decide) ?_)
  refine sn rfl j (Zo (i := 0) rfl (dk rfl) ul3 rfl rfl rfl (Hu (k := .i64) (a := m) (pre := []) (post := []) (by decide) (by decide)) ?_)
  refine sn rfl j (Zj rfl rfl (dk rfl) rfl rfl ?_)
  refine oZ j rfl ?_
  refine TL'.nil (tN ?_)
  rcases Qe h with ⟨y, h⟩ | ⟨y, h⟩
  refine Qr rfl y ?_
  refine Qm ?_ (C5 K h)
  exact tq rfl rfl
  refine Qp rfl y ?_
  refine T.skip (Ql (tN ?_))
  refine Qq ?_
  refine oI rfl ?_
  refine mw rfl ?_
  refine TL'.nil (tN ?_)
  refine Qh ?_ (ih x0 p (wI (q + (1:Int))) u h)
  exact tr rfl (.c (.s .z) (.n _))
  refine Qp rfl w ?_
  refine T.exit (Qk (Qk (Qt (tN ?_))))
  refine T.seq (Qq ?_)
  refine oA 0 ((Zg.dc 256 .u8 x0.Split.Of) ++ (([.int .i64 x0.Split.Many, .sl false 2 (mA x0.Counts), .sl false 4 (x0.States.map Qc)] : List DC))) J5 i28 rfl ?_
  refine sp rfl (OpT.build (l := ((Zg.dc 256 .u8 x0.Split.Of) ++ (([.int .i64 x0.Split.Many, .sl false 2 (mA x0.Counts), .sl false 4 (x0.States.map Qc)] : List DC)))) rfl (dk rfl) (Zu (pl := [(0, 259)]) ul107 i107 rfl) (Mi rfl) rfl rfl ?_)
  refine sp rfl (Ze rfl (dk rfl) i107 rfl (fun aa => ?_))
  refine sp rfl (Qx (i := 0) (cells' := ((Zg.oc 256 .u8 x0.Split.Of) ++ (([.d (.int .i64 x0.Split.Many), .d (.sl false 2 (mA x0.Counts)), .d (.sl false 4 (x0.States.map Qc))]:List OC)))) rfl rfl i107 rfl rfl rfl rfl (nb rfl) rfl ?_)
  refine TL'.nil (tN (T.seq (Qq ?_)))
  refine oP J5 i26 rfl ?_
  refine oL 1 Ja rfl ?_
  refine sp rfl (OpT.makeFunc (vs := [.pointer (some ⟨aa, 0, none⟩)]) rfl (dk rfl) rfl ?_)
  obtain ⟨af, ac, h⟩ := bind_some h
  refine sp rfl (Q8 (is := [0]) (ph := []) rfl (dk rfl) Tryz.func53 rfl rfl (Q7.cons rfl (Q7.cons rfl Q7.nil)) (I1 K (flx0 := false) (bx1c0 := aa) ac) (.cons rfl rfl (.nil)) (fun _ => rfl) (fun ag => ?_))
  refine nm (.c (.c (.n))) ?_
  refine oT rfl ?_
  refine aw rfl ?_
  refine TL'.nil (tN ?_)
  refine T.ret ?_
  exact fd rfl (by cases h; exact ⟨rfl, rfl⟩)
theorem Qa0 (K : Nat) {x0 : Qn} {r : Bool} (h : G5 K x0 = some r) : Zn tp 24 [.agg ((Zg.dc 256 .u8 x0.Split.Of) ++ (([.int .i64 x0.Split.Many, .sl false 2 (mA x0.Counts), .sl false 4 (x0.States.map Qc)] : List DC)))] [] (.bool r) := by
 refine Qu Tryz.func24 rfl (nb rfl) ?_
 show T tp 79 (ca [] Tryz.f24) ⟨Qv 0 [.agg ((Zg.dc 256 .u8 x0.Split.Of) ++ (([.int .i64 x0.Split.Many, .sl false 2 (mA x0.Counts), .sl false 4 (x0.States.map Qc)] : List DC)))], []⟩ (Er r)
 unfold G5 at h
 refine T.seq (Qq ?_)
 refine sp rfl (Zi rfl (dk rfl) rfl (fun b => ?_))
 refine aw rfl ?_
 refine TL'.nil (tN ?_)
 refine T.seq ?_
 refine T.seq ?_
 refine Yx ?_
 refine dP rfl (.f rfl) J5 i24 rfl ?_
 refine dW 0 ((Zg.dc 256 .u8 x0.Split.Of) ++ (([.int .i64 x0.Split.Many] : List DC))) rfl (.f rfl) Qfs i24 rfl ?_
 obtain ⟨q, y, h⟩ := bind_some h
 refine dS (c := ⟨some 8, .bool q, [(7, .agg ((Zg.dc 256 .u8 x0.Split.Of) ++ (([.int .i64 x0.Split.Many] : List DC))))], [], []⟩) (fun t hm => oF rfl rfl (Q1 rfl (dk rfl) Tryz.func52 rfl rfl (Q7.cons hm.s0 Q7.nil) (Zn.nil (split_Right_T K y)) rfl)) rfl rfl ?_
 refine dS (c := ⟨some 9, .bool (!q), [(8, .bool q)], [], []⟩) (fun t hm => oF rfl rfl (OpT.not rfl (dk rfl) hm.s0 rfl)) rfl rfl ?_
 refine dV rfl rfl ?_
 rcases Qe h with ⟨j, h⟩ | ⟨j, h⟩
 refine dO j rfl rfl ?_
 refine dO j rfl rfl ?_
 refine dO j rfl rfl ?_
 refine dO j rfl rfl ?_
 refine dY rfl (.f rfl) j rfl ?_
 refine dV rfl rfl ?_
 refine dO rfl rfl rfl ?_
 refine dO rfl rfl rfl ?_
 refine dO rfl rfl rfl ?_
 refine dO rfl rfl rfl ?_
 refine dY rfl (.f rfl) rfl rfl ?_
 refine dV rfl rfl ?_
 refine dO rfl rfl rfl ?_
 refine dO rfl rfl rfl ?_
 refine dO rfl rfl rfl ?_
 refine dO rfl rfl rfl ?_
 refine dY rfl (.f rfl) rfl rfl ?_
 refine dV rfl rfl ?_
 refine dO rfl rfl rfl ?_
 refine dO rfl rfl rfl ?_
 refine dO rfl rfl rfl ?_
 refine dO rfl rfl rfl ?_
 refine dO rfl rfl rfl ?_
 refine dO rfl rfl rfl ?_
 refine dO rfl rfl rfl ?_
 refine dO rfl rfl rfl ?_
 refine dO rfl rfl rfl ?_
 refine dO rfl rfl rfl ?_
 refine dO rfl rfl rfl ?_
 refine dO rfl rfl rfl ?_
 refine dO rfl rfl rfl ?_
 refine dO rfl rfl rfl ?_
 refine dY rfl (.f rfl) rfl rfl ?_
 refine dF [0,1,3,7,15,31,63,127,255,511,1023,2047,4095,8191,16383,32767,65535,131071,262143,524287,1048575,2097151,4194303,8388607,16777215,33554431,67108863,134217727,268435455,8388607,545259519,1619001343,3766484991,8061452287,16651386879,34359738367,68719476735,137438953471] Q3 rfl (by kernel_rfl) (fun u hu => (tN (Qm hu ?_)))
 refine Qr rfl rfl ?_
 refine Qm ?_ (Kx K h)
 exact tq rfl rfl
 refine dP rfl (.n j rfl) J5 i25 rfl ?_
 refine dL 0 rfl (.n j rfl) Qfa rfl ?_
 refine dN x0.Counts (Vg.dc .i64) rfl (.n j rfl) Qfa rfl ?_
 refine dI rfl (.n j rfl) rfl ?_
 refine dZ rfl (.f rfl) j rfl ?_
 refine dV rfl rfl ?_
 rcases Qe h with ⟨m, h⟩ | ⟨m, h⟩
 refine dO m rfl rfl ?_
 refine dO m rfl rfl ?_
 refine dO m rfl rfl ?_
 refine dO m rfl rfl ?_
 refine dY rfl (.f rfl) m rfl ?_
 refine dV rfl rfl ?_
 refine dO rfl rfl rfl ?_
 refine dO rfl rfl rfl ?_
 refine dO rfl rfl rfl ?_
 refine dO rfl rfl rfl ?_
 refine dY rfl (.f rfl) rfl rfl ?_
 refine dV rfl rfl ?_
 refine dO rfl rfl rfl ?_
 refine dO rfl rfl rfl ?_
 refine dO rfl rfl rfl ?_
 refine dO rfl rfl rfl ?_
 refine dO rfl rfl rfl ?_
 refine dO rfl rfl rfl ?_
 refine dO rfl rfl rfl ?_
 refine dO rfl rfl rfl ?_
 refine dO rfl rfl rfl ?_
 refine dO rfl rfl rfl ?_
 refine dO rfl rfl rfl ?_
 refine dO rfl rfl rfl ?_
 refine dO rfl rfl rfl ?_
 refine dO rfl rfl rfl ?_
 refine dY rfl (.f rfl) rfl rfl ?_
 refine dF [0,1,3,7,15,31,63,127,255,511,1023,2047,4095,8191,16383,32767,65535,131071,262143,524287,1048575,2097151,4194303,8388607,16777215,33554431,67108863,134217727,268435455,8388607,545259519,1619001343,3766484991,8061452287,16651386879,34359738367,68719476735,137438953471] Q3 rfl (by kernel_rfl) (fun u hu => (tN (Qm hu ?_)))
 refine Qr rfl rfl ?_
 refine Qm ?_ (Kx K h)
 exact tq rfl rfl
 refine dP rfl (.n m rfl) J5 i26 rfl ?_
 refine dL 0 rfl (.n m rfl) Ja rfl ?_
 refine dN x0.States Qc rfl (.n m rfl) Ja rfl ?_
 refine dI rfl (.n m rfl) rfl ?_
 refine dZ rfl (.f rfl) m rfl ?_
 refine dV rfl rfl ?_
 rcases Qe h with ⟨p, h⟩ | ⟨p, h⟩
 refine dO p rfl rfl ?_
 refine dO p rfl rfl ?_
 refine dO p rfl rfl ?_
 refine dO p rfl rfl ?_
 refine dY rfl (.f rfl) p rfl ?_
 refine dV rfl rfl ?_
 refine dO rfl rfl rfl ?_
 refine dO rfl rfl rfl ?_
 refine dO rfl rfl rfl ?_
 refine dO rfl rfl rfl ?_
 refine dO rfl rfl rfl ?_
 refine dO rfl rfl rfl ?_
 refine dO rfl rfl rfl ?_
 refine dO rfl rfl rfl ?_
 refine dO rfl rfl rfl ?_
 refine dO rfl rfl rfl ?_
 refine dO rfl rfl rfl ?_
 refine dO rfl rfl rfl ?_
 refine dO rfl rfl rfl ?_
 refine dO rfl rfl rfl ?_
 refine dY rfl (.f rfl) rfl rfl ?_
 refine dF [0,1,3,7,15,31,63,127,255,511,1023,2047,4095,8191,16383,32767,65535,131071,262143,524287,1048575,2097151,4194303,8388607,16777215,33554431,67108863,134217727,268435455,8388607,545259519,1619001343,3766484991,8061452287,16651386879,34359738367,68719476735,137438953471] Q3 rfl (by kernel_rfl) (fun u hu => (tN (Qm hu ?_)))
 refine Qr rfl rfl ?_
 refine Qm ?_ (Kx K h)
 exact tq rfl rfl
 refine dP rfl (.n p rfl) J5 i26 rfl ?_
 refine dL 0 rfl (.n p rfl) Ja rfl ?_
 refine dN x0.States Qc rfl (.n p rfl) Ja rfl ?_
 refine dI rfl (.n p rfl) rfl ?_
 refine dZ rfl (.f rfl) p rfl ?_
 refine dV rfl rfl ?_
 rcases Qe h with ⟨g, h⟩ | ⟨g, h⟩
 refine dO g rfl rfl ?_
 refine dO g rfl rfl ?_
 refine dO g rfl rfl ?_
 refine dO g rfl rfl ?_
 refine dO g rfl rfl ?_
 refine dO g rfl rfl ?_
 refine dO g rfl rfl ?_
 refine dO g rfl rfl ?_
 refine dO g rfl rfl ?_
 refine dO g rfl rfl ?_
 refine dO g rfl rfl ?_
 refine dO g rfl rfl ?_
 refine dO g rfl rfl ?_
 refine dO g rfl rfl ?_
 refine dY rfl (.f rfl) g rfl ?_
 refine dF [0,1,3,7,15,31,63,127,255,511,1023,2047,4095,8191,16383,32767,65535,131071,262143,524287,1048575,2097151,4194303,8388607,16777215,33554431,67108863,134217727,268435455,8388607,545259519,1619001343,3766484991,8061452287,16651386879,34359738367,68719476735,137438953471] Q3 rfl (by kernel_rfl) (fun u hu => (tN (Qm hu ?_)))
 refine Qr rfl rfl ?_
 refine Qm ?_ (Kx K h)
 exact tq rfl rfl
 refine dP rfl (.n g rfl) J5 i26 rfl ?_
 refine dL 0 rfl (.n g rfl) Ja rfl ?_
 obtain ⟨a, w, h⟩ := bind_some h
 refine dX x0.States Qc rfl (.n g rfl) Ja i51 w rfl ?_
 refine dQ rfl (.n g rfl) H1 i38 rfl ?_
 refine dR rfl (.n g rfl) Zy rfl ?_
 refine dN a.L (cI .i64) rfl (.n g rfl) Zy rfl ?_
 refine dP rfl (.n g rfl) J5 i26 rfl ?_
 refine dL 0 rfl (.n g rfl) Ja rfl ?_
 refine dX x0.States Qc rfl (.n g rfl) Ja i51 w rfl ?_
 refine dQ rfl (.n g rfl) H1 i38 rfl ?_
 refine dR rfl (.n g rfl) Zy rfl ?_
 refine dN a.R (cI .i64) rfl (.n g rfl) Zy rfl ?_
 refine dI rfl (.n g rfl) rfl ?_
 refine dI rfl (.n g rfl) rfl ?_
 refine dZ rfl (.f rfl) g rfl ?_
 refine dF [0,1,3,7,15,31,63,127,255,511,1023,2047,4095,8191,16383,32767,65535,131071,262143,524287,1048575,2097151,4194303,8388607,16777215,33554431,67108863,134217727,268435455,8388607,545259519,1619001343,3766484991,8061452287,16651386879,34359738367,68719476735,137438953471] Q3 rfl (by kernel_rfl) (fun u hu => (tN (Qm hu ?_)))
 rcases Qe h with ⟨s, h⟩ | ⟨s, h⟩
 refine Qr rfl s ?_
 refine Qm ?_ (Kx K h)
 exact tq rfl rfl
 refine Qp rfl s ?_
 refine T.skip (tN ?_)
 refine T.seq ?_
 refine T.seq (Qq ?_)
 refine oP J5 i25 rfl ?_
 refine oL 0 Qfa rfl ?_
 refine oU x0.Counts (Vg.dc .i64) Qfa rfl ?_
 refine mw rfl ?_
 refine TL'.nil (tN ?_)
 refine T.block ?_
 refine T.loop ?_
 refine Qh ?_ (Qgi K K x0 (x0.Counts.length : Int) (0:Int) b h)
 exact tq rfl rfl
abbrev Qai (r : List Vg) : ES := Wb tp Tryz.f25 (fun y t => y = (.sl false 2 (mA r)) ∧ t = [])
theorem Qaj (K : Nat) {x0 : List Vg} {flx0 : Bool} {r : List Vg} (h : Lc K x0 = some r) : Zn tp 25 [.sl flx0 2 (mA x0)] [] (.sl false 2 (mA r)) := by
 refine Qu Tryz.func25 rfl (nb rfl) ?_
 show T tp 8 (ca [] Tryz.f25) ⟨Qv 0 [.sl flx0 2 (mA x0)], []⟩ (Qai r)
 unfold Lc at h
 refine T.seq (Qq ?_)
 refine aw rfl ?_
 refine TL'.nil (tN ?_)
 refine T.seq ?_
 refine T.seq (Qq ?_)
 refine mw rfl ?_
 refine sp rfl (Qgo (xs := x0) (f := (Vg.dc .i64)) rfl (dk rfl) Qfa rfl rfl (fun b c => ?_))
 refine TL'.nil (tN ?_)
 rcases Bool.eq_false_or_eq_true b with a | a
 have hx := c a
 replace h : (some []) = some r := by first | (rw [hx] at h; exact h) | exact h
 refine Qr rfl a ?_
 refine T.seq (Qq ?_)
 refine aw rfl ?_
 refine TL'.nil (tN ?_)
 refine T.ret (Qw ?_)
 refine X3 (Re 2 false 2 rfl) ?_
 exact fd rfl (by cases h; exact ⟨rfl, rfl⟩)
 refine Qp rfl a ?_
 refine T.skip (tN ?_)
 refine T.seq (Qq ?_)
 refine sp rfl (OpT.buildSlice (elems := ([] : List Vg).map (Vg.dc .i64)) rfl (dk rfl) Qfa i59 (by decide) rfl (Mi rfl) rfl rfl rfl (V4 rfl) (by decide) ?_)
 refine mw rfl ?_
 obtain ⟨d, h⟩ := Zc h
 refine sp rfl (Pm (xs := ([] : List Vg)) (ys := x0) (f := (Vg.dc .i64)) rfl (dk rfl) Qfa i59 rfl rfl rfl (.inr rfl) d (fun g => ?_))
 refine aw rfl ?_
 refine TL'.nil (tN ?_)
 refine T.ret ?_
 refine X3 (Z5.view 2 0 rfl rfl) ?_
 exact fd rfl (by cases h; exact ⟨rfl, rfl⟩)
abbrev Qbd (bx0 : Nat) (r : Int × Bool × Ye) : ES := Wb tp Tryz.f34 (fun y t => ∃ γ : Nat → Value, y = (.tup [.int .i64 r.1, .bool r.2.1]) ∧ t = [(R7 bx0 (γ 0)), .arrX (γ 0) 3 1 0 (mI r.2.2.l)])
theorem Fu (K : Nat) {x0 : Ye} {bx0 : Nat} {wx0c0 : Value} {r : Int × Bool × Ye} (h : Y1 K x0 = some r) : Us tp 34 [.ptr bx0 0] [(R7 bx0 wx0c0), .arrX wx0c0 3 1 0 (mI x0.l)] (fun γ => (.tup [.int .i64 r.1, .bool r.2.1])) (fun γ => [(R7 bx0 (γ 0)), .arrX (γ 0) 3 1 0 (mI r.2.2.l)]) := by
 refine Qu Tryz.func34 rfl (nb rfl) ?_
 show T tp 38 (ca [] Tryz.f34) ⟨Qv 0 [.ptr bx0 0], [(R7 bx0 wx0c0), .arrX wx0c0 3 1 0 (mI x0.l)]⟩ (Qbd bx0 r)
 unfold Y1 at h
 refine T.seq (Qq ?_)
 refine aw rfl ?_
 refine aw rfl ?_
 refine TL'.nil (tN ?_)
 refine T.seq ?_
 refine T.seq (Qq ?_)
 refine mw rfl ?_
 refine oK rfl ?_
 refine oP ul74 i38 rfl ?_
 refine oL 0 Zy rfl ?_
 refine sp rfl (Hk (i := 1) (xs := x0.l) (f := (cI .i64)) rfl (dk rfl) Zy rfl rfl ?_)
 refine oI rfl ?_
 refine TL'.nil (tN ?_)
 rcases Qe h with ⟨g, h⟩ | ⟨g, h⟩
 refine Qr rfl g ?_
 refine T.seq (Qq ?_)
 refine mw rfl ?_
 refine aw rfl ?_
 refine aw rfl ?_
 refine TL'.nil (tN ?_)
 refine T.ret (Qw ?_)
 exact Q4 (.cons _ _ _ _ (.tmp 2 _ rfl) (.cons _ _ _ _ (.tmp 3 _ rfl) .nil)) (.cons 0 rfl (.cons 0 rfl (.nil _))) (by cases h; exact ⟨gl [wx0c0], rfl, rfl⟩)
 refine Qp rfl g ?_
 refine T.skip (tN ?_)
 refine T.seq ?_
 refine Yx ?_
 refine dV rfl rfl ?_
 refine dK rfl (.f rfl) rfl ?_
 refine dP rfl (.f rfl) ul74 i38 rfl ?_
 refine dL 0 rfl (.f rfl) Zy rfl ?_
 refine dV rfl rfl ?_
 refine dK rfl (.f rfl) rfl ?_
 refine dP rfl (.f rfl) ul74 i38 rfl ?_
 refine dL 0 rfl (.f rfl) Zy rfl ?_
 refine dS (c := ⟨some 19, .int .i64 (x0.l.length : Int), [(18, .c (.ex wx0c0))], [(1, .arrX wx0c0 3 1 0 (mI x0.l))], []⟩) (fun t hm => oF rfl rfl (Hk (i := 1) (xs := x0.l) (f := (cI .i64)) rfl (dk rfl) Zy hm.s0 hm.o0 rfl)) rfl rfl ?_
 refine dI rfl (.f rfl) rfl ?_
 obtain ⟨b, j, h⟩ := bind_some h
 refine dS (c := ⟨some 21, .el wx0c0 1 (Int.toNat (wI ((x0.l.length : Int) - (1:Int)))) 0, [(14, .c (.ex wx0c0)), (20, .int .i64 (wI ((x0.l.length : Int) - (1:Int))))], [(1, .arrX wx0c0 3 1 0 (mI x0.l))], []⟩) (fun t hm => oF rfl rfl (Ya (n := 1) (xs := x0.l) (f := (cI .i64)) (old := b) rfl (dk rfl) Zy i3 hm.s0 hm.o0 hm.s1 j rfl)) rfl rfl ?_
 refine dS (c := ⟨some 22, .int .i64 b, [(21, .el wx0c0 1 (Int.toNat (wI ((x0.l.length : Int) - (1:Int)))) 0)], [(1, .arrX wx0c0 3 1 0 (mI x0.l))], []⟩) (fun t hm => oF rfl rfl (W8 (i := 1) (xs := x0.l) (f := (cI .i64)) (old := b) rfl (dk rfl) ul3 rfl hm.s0 hm.o0 (Zt j).2 rfl rfl)) rfl rfl ?_
 refine dS (c := ⟨some 2, .int .i64 b, [(22, .int .i64 b)], [], []⟩) (fun t hm => oF rfl rfl (OpT.assign rfl (dk rfl) hm.s0 rfl)) rfl rfl ?_
 refine dF [0,1,3,7,0,16,48,112,240,496,1023,2047,4095] Q3 rfl (by kernel_rfl) (fun u hu => (tN (Qm hu ?_)))
 refine T.seq ?_
 refine Hl ?_
 refine dC (c := ⟨some 23, .ptr bx0 0, [(0, .ptr bx0 0)], [], []⟩) (fun t hm => oF rfl rfl (OpT.move rfl (dk rfl) hm.s0 ⟨u0, rfl⟩)) (fun _ => rfl) (fun _ => rfl) ?_
 refine dC (c := ⟨some 24, .ptr bx0 0, [(0, .ptr bx0 0)], [], []⟩) (fun t hm => oF rfl rfl (OpT.move rfl (dk rfl) hm.s0 ⟨u0, rfl⟩)) (fun _ => rfl) (fun _ => rfl) ?_
 refine dC (c := ⟨some 25, .ptr bx0 0, [(24, .ptr bx0 0)], [], []⟩) (fun t hm => oF rfl rfl (OpT.nilCheck rfl (dk rfl) hm.s0 rfl ⟨u0, rfl⟩)) (fun _ => rfl) (fun _ => rfl) ?_
 refine dC (c := ⟨some 26, .ptr bx0 (0 + 0), [(25, .ptr bx0 0)], [], []⟩) (fun t hm => oF rfl rfl (Z0 rfl (dk rfl) ul74 rfl i38 (by decide) hm.s0 ⟨u0, rfl⟩)) (fun _ => rfl) (fun _ => rfl) ?_
 refine dC (c := ⟨some 27, .c (.ex wx0c0), [(26, .ptr bx0 (0 + 0))], [(0, (R7 bx0 wx0c0))], []⟩) (fun t hm => oF rfl rfl (Zo (i := 0) rfl (dk rfl) Zy rfl hm.s0 hm.o0 rfl ⟨u0, rfl⟩)) (fun _ => rfl) (fun _ => rfl) ?_
 refine dC (c := ⟨some 28, .ptr bx0 0, [(0, .ptr bx0 0)], [], []⟩) (fun t hm => oF rfl rfl (OpT.move rfl (dk rfl) hm.s0 ⟨u0, rfl⟩)) (fun _ => rfl) (fun _ => rfl) ?_
 refine dC (c := ⟨some 29, .ptr bx0 0, [(28, .ptr bx0 0)], [], []⟩) (fun t hm => oF rfl rfl (OpT.nilCheck rfl (dk rfl) hm.s0 rfl ⟨u0, rfl⟩)) (fun _ => rfl) (fun _ => rfl) ?_
 refine dC (c := ⟨some 30, .ptr bx0 (0 + 0), [(29, .ptr bx0 0)], [], []⟩) (fun t hm => oF rfl rfl (Z0 rfl (dk rfl) ul74 rfl i38 (by decide) hm.s0 ⟨u0, rfl⟩)) (fun _ => rfl) (fun _ => rfl) ?_
 refine dC (c := ⟨some 31, .c (.ex wx0c0), [(30, .ptr bx0 (0 + 0))], [(0, (R7 bx0 wx0c0))], []⟩) (fun t hm => oF rfl rfl (Zo (i := 0) rfl (dk rfl) Zy rfl hm.s0 hm.o0 rfl ⟨u0, rfl⟩)) (fun _ => rfl) (fun _ => rfl) ?_
 refine dC (c := ⟨some 32, .int .i64 (x0.l.length : Int), [(31, .c (.ex wx0c0))], [(1, .arrX wx0c0 3 1 0 (mI x0.l))], []⟩) (fun t hm => oF rfl rfl (Hk (i := 1) (xs := x0.l) (f := (cI .i64)) rfl (dk rfl) Zy hm.s0 hm.o0 ⟨u0, rfl⟩)) (fun _ => rfl) (fun _ => rfl) ?_
 refine dC (c := ⟨some 33, .int .i64 (wI ((x0.l.length : Int) - (1:Int))), [(32, .int .i64 (x0.l.length : Int))], [], []⟩) (fun t hm => oF rfl rfl (Zj rfl rfl (dk rfl) hm.s0 rfl ⟨u0, rfl⟩)) (fun _ => rfl) (fun _ => rfl) ?_
 obtain ⟨m, h⟩ := Zc h
 refine DGG.step (c := fun a => ⟨some 34, .c (.ex ((a 11).1 0)), [(27, .c (.ex wx0c0)), (33, .int .i64 (wI ((x0.l.length : Int) - (1:Int))))], [(1, .arrX wx0c0 3 1 0 (mI x0.l))], [(1, .arrX ((a 11).1 0) 3 1 0 ((x0.l.take (Int.toNat (wI ((x0.l.length : Int) - (1:Int))))).map (cI .i64)))]⟩) [11] (fun a γ' h => by simp only [h 11 (by decide)]) (fun a t hm => oF rfl rfl (OpT.sliceX (i := 1) (xs := x0.l) (f := (cI .i64)) (h := (Int.toNat (wI ((x0.l.length : Int) - (1:Int))))) rfl (dk rfl) Zy i3 hm.s0 hm.o0 (.some _ _ _ _ hm.s1 m.1) m.2 (fun w => ⟨(fun _ => w, 0), rfl⟩))) (fun a => Z2 rfl rfl) ?_
 refine dC (c := ⟨some 35, .ptr bx0 0, [(23, .ptr bx0 0)], [], []⟩) (fun t hm => oF rfl rfl (OpT.nilCheck rfl (dk rfl) hm.s0 rfl ⟨u0, rfl⟩)) (fun _ => rfl) (fun _ => rfl) ?_
 refine dC (c := ⟨some 36, .ptr bx0 (0 + 0), [(35, .ptr bx0 0)], [], []⟩) (fun t hm => oF rfl rfl (Z0 rfl (dk rfl) ul74 rfl i38 (by decide) hm.s0 ⟨u0, rfl⟩)) (fun _ => rfl) (fun _ => rfl) ?_
 refine DGG.step (c := fun a => ⟨none, .any, [(36, .ptr bx0 (0 + 0)), (34, .c (.ex ((a 11).1 0)))], [(0, (R7 bx0 wx0c0))], [(0, (R7 bx0 ((a 11).1 0)))]⟩) [11] (fun a γ' h => by simp only [h 11 (by decide)]) (fun a t hm => oF rfl rfl (Wl (i := 0) (cells' := [.d (.ex ((a 11).1 0))]) rfl rfl i38 hm.s0 hm.s1 hm.o0 (nb rfl) rfl ⟨u0, rfl⟩)) (fun a => Z2 rfl rfl) ?_
 refine gF [0,0,2,6,14,0,32,96,224,480,992,2046,4095,8191,16383] Q3 rfl (by kernel_rfl) (fun _ => by kernel_rfl) (fun a u hu => (tN (Qm hu ?_)))
 refine T.seq (Qq ?_)
 refine mw rfl ?_
 refine aw rfl ?_
 refine aw rfl ?_
 refine TL'.nil (tN ?_)
 refine T.ret ?_
 exact Q4 (.cons _ _ _ _ (.tmp 2 _ rfl) (.cons _ _ _ _ (.tmp 3 _ rfl) .nil)) (.cons 0 rfl (.cons 0 rfl (.nil _))) (by cases h; exact ⟨gl [(a 11).1 0], rfl, rfl⟩)
abbrev T8 (bx0 : Nat) (r : Ye) : ES := Wb tp Tryz.f32 (fun y t => ∃ γ : Nat → Value, y = (.tup []) ∧ t = [(R7 bx0 (γ 0)), .arrX (γ 0) 3 1 0 (mI r.l)])
theorem Ed (K : Nat) {x0 : Ye} {x1 : List Int} {bx0 : Nat} {wx0c0 : Value} {flx1 : Bool} {r : Ye} (h : Ut K x0 x1 = some r) : Us tp 32 [.ptr bx0 0, .sl flx1 1 (mI x1)] [(R7 bx0 wx0c0), .arrX wx0c0 3 1 0 (mI x0.l)] (fun γ => (.tup [])) (fun γ => [(R7 bx0 (γ 0)), .arrX (γ 0) 3 1 0 (mI r.l)]) := by
 refine Qu Tryz.func32 rfl (nb rfl) ?_
 show T tp 13 (ca [] Tryz.f32) ⟨Qv 0 [.ptr bx0 0, .sl flx1 1 (mI x1)], [(R7 bx0 wx0c0), .arrX wx0c0 3 1 0 (mI x0.l)]⟩ (T8 bx0 r)
 unfold Ut at h
 refine Qq ?_
 refine mw rfl ?_
 refine mw rfl ?_
 refine oK rfl ?_
 refine oP ul74 i38 rfl ?_
 refine oL 0 Zy rfl ?_
 refine mw rfl ?_
 obtain ⟨b, h⟩ := Zc h
 refine sp rfl (Et (i := 1) (xs := x0.l) (ys := x1) (f := (cI .i64)) rfl (dk rfl) Zy i3 rfl rfl rfl rfl b (fun a => ?_))
 refine oK rfl ?_
 refine oP ul74 i38 rfl ?_
 refine sp rfl (Wl (i := 0) (cells' := [.d (.ex a)]) rfl rfl i38 rfl rfl rfl (nb rfl) rfl ?_)
 refine TL'.nil ?_
 exact Q4 (.nil) (.cons 0 rfl (.cons 0 rfl (.nil _))) (by cases h; exact ⟨gl [a], rfl, rfl⟩)
abbrev E0 (r : Int) : ES := Wb tp Tryz.f31 (fun y t => y = (.int .i64 r) ∧ t = [])
abbrev Qad (r : Int) : ES := thenS (fun s' => T tp 25 (ca [1,1,1,1] Tryz.f31) s' ((E0 r))) ((E0 r))
abbrev Ro (r : Int) : ES := Qz 0 ((Qad r))
theorem Qb8 {r : Int} (K : Nat) : ∀ (k : Nat), ∀ (x0 : List Int) (a b : Int) (flx0 : Bool), Uu K k x0 a b = some r → TL tp 25 (ca [1,1,1,0,1,0,0] Tryz.f31) ⟨[(0, .sl flx0 1 (mI x0)), (3, .int .i64 a), (4, .int .i64 b)], []⟩ (Ro r) := by
 intro k
 induction k with
 | zero =>
  intro x0 a b flx0 h
  exact zn h
 | succ k ih =>
  intro x0 a b flx0 h
  rw [Uu] at h
  refine Q6 ?_
  refine T.seq ?_
  refine T.seq (Qq ?_)
  refine mw rfl ?_
  refine mw rfl ?_
  refine oU x0 (cI .i64) Zy rfl ?_
  refine oI rfl ?_
  refine TL'.nil (tN ?_)
  rcases Qe h with ⟨c, h⟩ | ⟨c, h⟩
  refine Qr rfl c ?_
  refine T.skip (tN ?_)
  refine T.seq ?_
  refine T.block ?_
  refine Qq ?_
  iterate 3 refine mw rfl ?_
  obtain ⟨d, g, h⟩ := bind_some h
  refine oX x0 (cI .i64) Zy i3 g rfl ?_
  refine oR ul3 rfl ?_
  refine sp rfl (OpT.max2 rfl (dk rfl) rfl rfl ?_)
  refine aw rfl ?_
  refine TL'.nil (Ql (tN ?_))
  refine Qq ?_
  refine mw rfl ?_
  refine oI rfl ?_
  refine aw rfl ?_
  refine TL'.nil (tN ?_)
  refine Qh ?_ (ih x0 (if d > a then d else a) (wI (b + (1:Int))) flx0 h)
  exact tq rfl rfl
  refine Qp rfl c ?_
  refine T.exit (Qk (Qk (Qt (tN ?_))))
  refine T.seq (Qq ?_)
  refine mw rfl ?_
  refine aw rfl ?_
  refine TL'.nil (tN ?_)
  refine T.ret ?_
  exact fd rfl (by cases h; exact ⟨rfl, rfl⟩)
theorem Qfg (K : Nat) {x0 : List Int} {flx0 : Bool} {r : Int} (h : M0 K x0 = some r) : Zn tp 31 [.sl flx0 1 (mI x0)] [] (.int .i64 r) := by
 refine Qu Tryz.func31 rfl (nb rfl) ?_
 show T tp 25 (ca [] Tryz.f31) ⟨Qv 0 [.sl flx0 1 (mI x0)], []⟩ (E0 r)
 unfold M0 at h
 refine T.seq (Qq ?_)
 refine aw rfl ?_
 refine TL'.nil (tN ?_)
 refine T.seq ?_
 refine T.seq (Qq ?_)
 refine mw rfl ?_
 refine oU x0 (cI .i64) Zy rfl ?_
 refine oI rfl ?_
 refine TL'.nil (tN ?_)
 rcases Qe h with ⟨a, h⟩ | ⟨a, h⟩
 refine Qr rfl a ?_
 refine Qq ?_
 cases h
 refine Qp rfl a ?_
 refine T.skip (tN ?_)
 refine T.seq (Qq ?_)
 refine mw rfl ?_
 obtain ⟨b, c, h⟩ := bind_some h
 refine oX x0 (cI .i64) Zy i3 c rfl ?_
 refine oR ul3 rfl ?_
 refine aw rfl ?_
 refine TL'.nil (tN ?_)
 refine T.seq ?_
 refine T.seq (Qq ?_)
 refine aw rfl ?_
 refine TL'.nil (tN ?_)
 refine T.block ?_
 refine T.loop ?_
 refine Qh ?_ (Qb8 K K x0 b (1:Int) flx0 h)
 exact tq rfl rfl
abbrev Qdi (r : List Qd) : ES := Wb tp Tryz.f97 (fun y t => ∃ γ : Nat → Value, y = (.c (.ex (γ 0))) ∧ t = [.arrA (γ 0) 54 2 (r.map Qg)])
theorem Qdj (K : Nat) {x1 : Int} {r : List Qd} (h : Lq K x1 = some r) : Us tp 97 [.c (.ex (.slice none 0 0)), .int .i64 x1] [] (fun γ => (.c (.ex (γ 0)))) (fun γ => [.arrA (γ 0) 54 2 (r.map Qg)]) := by
 refine Qu Tryz.func97 rfl (nb rfl) ?_
 show T tp 27 (ca [] Tryz.f97) ⟨Qv 0 [.c (.ex (.slice none 0 0)), .int .i64 x1], []⟩ (Qdi r)
 unfold Lq at h
 refine T.seq (Qq ?_)
 refine aw rfl ?_
 refine TL'.nil (tN ?_)
 refine T.seq ?_
 refine T.seq (Qq ?_)
 refine mw rfl ?_
 refine oI rfl ?_
 refine TL'.nil (tN ?_)
 rcases Qe h with ⟨a, h⟩ | ⟨a, h⟩
 refine Qr rfl a ?_
 refine Qq ?_
 cases h
 refine Qp rfl a ?_
 refine T.skip (tN ?_)
 refine T.seq ?_
 refine T.seq (Qq ?_)
 refine mw rfl ?_
 refine mw rfl ?_
 refine sp rfl (OpT.capNil rfl (dk rfl) Oa rfl ?_)
 refine mw rfl ?_
 refine sp rfl (Qgn rfl (dk rfl) Oa rfl ?_)
 refine oI rfl ?_
 refine oI rfl ?_
 refine aw rfl ?_
 refine TL'.nil (tN (T.seq (Qq ?_)))
 refine mw rfl ?_
 refine oI rfl ?_
 refine TL'.nil (tN ?_)
 rcases Qe h with ⟨b, h⟩ | ⟨b, h⟩
 refine Qr rfl b ?_
 refine Qq ?_
 refine mw rfl ?_
 refine mw rfl ?_
 refine sp rfl (OpT.capNil rfl (dk rfl) Oa rfl ?_)
 refine sp rfl (OpT.sliceNil rfl (dk rfl) Oa i54 rfl (.none _) (.some _ _ 0 _ rfl (by decide)) ?_)
 refine mw rfl ?_
 obtain ⟨g, h⟩ := Zc h
 obtain ⟨j, h⟩ := Zc h
 refine sp rfl (Qfq (f := Qg) (zv := ((Qd.mk (0:Int) []) : Qd)) rfl (dk rfl) Oa ul3 i54 (by decide) rfl rfl (fun _ => .cons (.same _) (.cons (.nil _ _) (.refl _))) rfl rfl rfl g j (fun m => ?_))
 refine mw rfl ?_
 refine sp rfl (Qgn rfl (dk rfl) Oa rfl ?_)
 obtain ⟨d, h⟩ := Zc h
 refine sp rfl (OpT.sliceX (i := 0) (xs := (List.replicate (Int.toNat (wI (x1 - (wI ((0:Int) - (0:Int)))))) ((Qd.mk (0:Int) []) : Qd))) (f := Qg) (h := (Int.toNat (0:Int))) rfl (dk rfl) Oa i54 rfl rfl (.some _ _ _ _ rfl d.1) d.2 (fun l => ?_))
 refine aw rfl ?_
 refine TL'.nil (tN (T.seq (Qq ?_)))
 refine mw rfl ?_
 refine aw rfl ?_
 refine TL'.nil (tN ?_)
 refine T.ret ?_
 refine X3 (L4 0 rfl) ?_
 exact Q4 (.cons _ _ _ _ (.tmp 4 _ rfl) .nil) (.cons 0 rfl (.nil _)) (by cases h; exact ⟨gl [l], rfl, rfl⟩)
 refine Qp rfl b ?_
 refine T.skip (tN ?_)
 refine T.seq (Qq ?_)
 refine mw rfl ?_
 refine aw rfl ?_
 refine TL'.nil (tN ?_)
 refine T.ret ?_
 refine X3 (Xu 54 2) ?_
 exact Q4 (.cons _ _ _ _ (.tmp 4 _ rfl) .nil) (.cons 0 rfl (.nil _)) (by cases h; exact ⟨gl [Qeb 4], rfl, rfl⟩)
abbrev Jl (r : List Qd) : ES := Wb tp Tryz.f58 (fun y t => ∃ γ : Nat → Value, y = (.c (.ex (γ 0))) ∧ t = [.arrA (γ 0) 54 2 (r.map Qg)])
abbrev Nu (r : List Qd) : ES := thenS (fun s' => T tp 36 (ca [1,1,1,1,1] Tryz.f58) s' ((Jl r))) ((Jl r))
abbrev F1 (r : List Qd) : ES := Qz 2 ((Nu r))
abbrev Pu (r : List Qd) : ES := thenS (fun s' => T tp 36 (ca [1,1,1] Tryz.f58) s' ((Jl r))) ((Jl r))
abbrev Nv (r : List Qd) : ES := Qz 0 ((Pu r))
theorem Rr {r : List Qd} (K : Nat) : ∀ (k : Nat), ∀ (x0 : List (List Qd)) (b d : Int) (a : List Qd) (flx0 : Bool) (g : Value), Xn K k x0 b d a = some r → TL tp 36 (ca [1,1,1,1,0,1,0,0] Tryz.f58) ⟨[(6, .c (.ex g)), (25, .sl flx0 1 (x0.map (cL 2 Qg))), (26, .int .i64 b), (27, .int .i64 d)], [.arrA g 54 2 (a.map Qg)]⟩ (F1 r) := by
 intro k
 induction k with
 | zero =>
  intro x0 b d a flx0 g h
  exact zn h
 | succ k ih =>
  intro x0 b d a flx0 g h
  rw [Xn] at h
  refine Q6 ?_
  refine T.seq (Qq ?_)
  refine oI rfl ?_
  refine TL'.nil (tN ?_)
  refine T.seq ?_
  rcases Qe h with ⟨j, h⟩ | ⟨j, h⟩
  refine Qr rfl j ?_
  refine T.skip (tN ?_)
  refine T.seq ?_
  refine T.block ?_
  refine T.seq (Qq ?_)
  obtain ⟨l, m, h⟩ := bind_some h
  refine oX x0 (cL 2 Qg) Rg i55 m rfl ?_
  refine oR Oa rfl ?_
  refine aw rfl ?_
  refine TL'.nil (tN ?_)
  refine Qq ?_
  refine mw rfl ?_
  refine mw rfl ?_
  obtain ⟨p, h⟩ := Zc h
  refine sp rfl (Zv (i := 0) (xs := a) (ys := l) (f := Qg) rfl (dk rfl) Oa i54 rfl rfl rfl rfl p (fun q => ?_))
  refine aw rfl ?_
  refine TL'.nil (Ql (tN ?_))
  refine Qq ?_
  refine oI rfl ?_
  refine mw rfl ?_
  refine TL'.nil (tN ?_)
  refine Qh ?_ (ih x0 b (wI (d + (1:Int))) (a ++ l) flx0 q h)
  exact tq rfl rfl
  refine Qp rfl j ?_
  refine T.exit (Qk (Qk (Qt (tN ?_))))
  refine T.seq (Qq ?_)
  refine mw rfl ?_
  refine aw rfl ?_
  refine TL'.nil (tN ?_)
  refine T.ret ?_
  exact Q4 (.cons _ _ _ _ (.tmp 2 _ rfl) .nil) (.cons 0 rfl (.nil _)) (by cases h; exact ⟨gl [g], rfl, rfl⟩)
theorem Rs {r : List Qd} (K : Nat) : ∀ (k : Nat), ∀ (x0 : List (List Qd)) (a b d : Int) (flx0 : Bool), Y3 K k x0 a b d = some r → TL tp 36 (ca [1,1,0,1,0,0] Tryz.f58) ⟨[(0, .sl flx0 1 (x0.map (cL 2 Qg))), (3, .int .i64 a), (9, .sl flx0 1 (x0.map (cL 2 Qg))), (10, .int .i64 b), (11, .int .i64 d)], []⟩ (Nv r) := by
 intro k
 induction k with
 | zero =>
  intro x0 a b d flx0 h
  exact zn h
 | succ k ih =>
  intro x0 a b d flx0 h
  rw [Y3] at h
  refine Q6 ?_
  refine T.seq (Qq ?_)
  refine oI rfl ?_
  refine TL'.nil (tN ?_)
  refine T.seq ?_
  rcases Qe h with ⟨g, h⟩ | ⟨g, h⟩
  refine Qr rfl g ?_
  refine T.skip (tN ?_)
  refine T.seq ?_
  refine T.block ?_
  refine T.seq (Qq ?_)
  obtain ⟨i, l, h⟩ := bind_some h
  refine oX x0 (cL 2 Qg) Rg i55 l rfl ?_
  refine oR Oa rfl ?_
  refine aw rfl ?_
  refine TL'.nil (tN (T.seq (Qq ?_)))
  refine mw rfl ?_
  refine mw rfl ?_
  refine oU i Qg Oa rfl ?_
  refine oI rfl ?_
  refine aw rfl ?_
  refine TL'.nil (tN (T.seq (Qq ?_)))
  refine mw rfl ?_
  refine oI rfl ?_
  refine TL'.nil (tN ?_)
  rcases Qe h with ⟨j, h⟩ | ⟨j, h⟩
  refine Qr rfl j ?_
  refine Qq ?_
  cases h
  refine Qp rfl j ?_
  refine T.skip (Ql (tN ?_))
  refine Qq ?_
  refine oI rfl ?_
  refine mw rfl ?_
  refine TL'.nil (tN ?_)
  refine Qh ?_ (ih x0 (wI (a + (i.length : Int))) b (wI (d + (1:Int))) flx0 h)
  exact tq rfl rfl
  refine Qp rfl g ?_
  refine T.exit (Qk (Qk (Qt (tN ?_))))
  refine T.seq (Qq ?_)
  refine mw rfl ?_
  refine Hj Y2 ?_
  obtain ⟨m, p, h⟩ := bind_some h
  refine sp rfl (Q8 (is := [0]) (ph := [.ro 0 []]) rfl (dk rfl) Tryz.func97 rfl rfl (Q7.cons rfl (Q7.cons rfl Q7.nil)) (Qdj K p) (.cons rfl rfl (.nil)) (fun _ => rfl) (fun q => ?_))
  refine nm (.c (.n)) ?_
  refine aw rfl ?_
  refine TL'.nil (tN ?_)
  refine T.seq ?_
  refine T.seq (Qq ?_)
  refine mw rfl ?_
  refine oU x0 (cL 2 Qg) Rg rfl ?_
  refine mw rfl ?_
  refine TL'.nil (tN ?_)
  refine T.block ?_
  refine T.loop ?_
  refine Qh ?_ (Rr K K x0 (x0.length : Int) (0:Int) m flx0 (q 0) h)
  exact tq rfl rfl
theorem Qbf (K : Nat) {x0 : List (List Qd)} {flx0 : Bool} {r : List Qd} (h : Kf K x0 = some r) : Us tp 58 [.sl flx0 1 (x0.map (cL 2 Qg))] [] (fun γ => (.c (.ex (γ 0)))) (fun γ => [.arrA (γ 0) 54 2 (r.map Qg)]) := by
 refine Qu Tryz.func58 rfl (nb rfl) ?_
 show T tp 36 (ca [] Tryz.f58) ⟨Qv 0 [.sl flx0 1 (x0.map (cL 2 Qg))], []⟩ (Jl r)
 unfold Kf at h
 refine T.seq (Qq ?_)
 refine aw rfl ?_
 refine TL'.nil (tN (T.seq (Qq ?_)))
 refine aw rfl ?_
 refine TL'.nil (tN ?_)
 refine T.seq ?_
 refine T.seq (Qq ?_)
 refine mw rfl ?_
 refine oU x0 (cL 2 Qg) Rg rfl ?_
 refine mw rfl ?_
 refine TL'.nil (tN ?_)
 refine T.block ?_
 refine T.loop ?_
 refine Qh ?_ (Rs K K x0 (0:Int) (x0.length : Int) (0:Int) flx0 h)
 exact tq rfl rfl
abbrev trim_moves_q (r : List Qd) : ES := Wb tp Tryz.f33 (fun y t => y = (.sl false 2 (r.map Qg)) ∧ t = [])
theorem Qab (K : Nat) {x0 : Qa} {r : List Qd} (h : Dr K x0 = some r) : Zn tp 33 [.agg [.sl false 1 (mI x0.L), .sl false 1 (mI x0.R), .sl false 1 (mI x0.Rule), .sl false 1 (x0.Next.map (cL 2 Qg))]] [] (.sl false 2 (r.map Qg)) := by
 refine Qu Tryz.func33 rfl (nb rfl) ?_
 show T tp 6 (ca [] Tryz.f33) ⟨Qv 0 [.agg [.sl false 1 (mI x0.L), .sl false 1 (mI x0.R), .sl false 1 (mI x0.Rule), .sl false 1 (x0.Next.map (cL 2 Qg))]], []⟩ (trim_moves_q r)
 unfold Dr at h
 refine T.seq (Qq ?_)
 refine sp rfl (Zi rfl (dk rfl) rfl (fun b => ?_))
 refine aw rfl ?_
 refine TL'.nil (tN (T.seq (Qq ?_)))
 refine oP H1 i49 rfl ?_
 refine oL 0 Rg rfl ?_
 refine Hj Y2 ?_
 obtain ⟨d, a, h⟩ := bind_some h
 refine sp rfl (Q8 (is := [0]) (ph := [.ro 0 []]) rfl (dk rfl) Tryz.func58 rfl rfl (Q7.cons rfl Q7.nil) (Qbf K (flx0 := false) a) (.cons rfl rfl (.nil)) (fun _ => rfl) (fun f => ?_))
 refine nm (.c (.c (.n))) ?_
 refine aw rfl ?_
 refine TL'.nil (tN ?_)
 refine T.ret ?_
 refine X3 (Z5.view 2 0 rfl rfl) ?_
 exact fd rfl (by cases h; exact ⟨rfl, rfl⟩)
end Go.Rv

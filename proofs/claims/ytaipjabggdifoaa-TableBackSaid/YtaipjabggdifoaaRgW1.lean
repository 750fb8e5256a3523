/- Each function computes what its plain text says: printed by a program of ours. -/
import Derived.Test.YtaipjabggdifoaaRgW0
namespace Go.Rv
open Go.Proofs
set_option maxRecDepth 100000
set_option maxHeartbeats 4000000
set_option linter.unusedVariables false
abbrev l4_few_q (r : aAu) : ES := Jt tp Try.f11 (fun y t => y = (.agg ((Qy.dc 256 .u8 r.Split.Of) ++ (([.int .i64 r.Split.Many, .sl false 2 (mA r.Counts), .sl false 4 (r.States.map Qx)] : List DC)))) ∧ t = [])
theorem l4_few_T (K : Nat) {x0 r : aAu} (h : l4_few K x0 = some r) : Zp tp 11 [.agg ((Qy.dc 256 .u8 x0.Split.Of) ++ (([.int .i64 x0.Split.Many, .sl false 2 (mA x0.Counts), .sl false 4 (x0.States.map Qx)] : List DC)))] [] (.agg ((Qy.dc 256 .u8 r.Split.Of) ++ (([.int .i64 r.Split.Many, .sl false 2 (mA r.Counts), .sl false 4 (r.States.map Qx)] : List DC)))) := by
 refine Qs Try.func11 rfl (nb rfl) ?_
 show T tp 9 (ca [] Try.f11) ⟨Qv 0 [.agg ((Qy.dc 256 .u8 x0.Split.Of) ++ (([.int .i64 x0.Split.Many, .sl false 2 (mA x0.Counts), .sl false 4 (x0.States.map Qx)] : List DC)))], []⟩ (l4_few_q r)
 unfold l4_few at h
 refine T.seq (Qr ?_)
 refine sp rfl (Zb rfl (dk rfl) rfl (fun b => ?_))
 refine sp rfl (Zj rfl (dk rfl) i28 rfl (fun c => ?_))
 refine TL'.nil (tN ?_)
 refine T.seq ?_
 refine T.seq (Qr ?_)
 refine sp rfl (Ql rfl (dk rfl) Xu rfl i26 (by decide) rfl ?_)
 refine sp rfl (Qo (i := 1) rfl (dk rfl) Vx rfl rfl rfl rfl ?_)
 refine sp rfl (Qn (xs := x0.States) (f := Qx) rfl (dk rfl) Vx rfl ?_)
 refine sp rfl (Qa rfl rfl (dk rfl) rfl rfl ?_)
 refine TL'.nil (tN ?_)
 rcases Qb h with ⟨a, h⟩ | ⟨a, h⟩
 refine Qk rfl a ?_
 refine T.seq (Qr ?_)
 refine sp rfl (OpT.build (l := ((Qy.dc 256 .u8 (Qy.mk fun _ => 0)) ++ (([.int .i64 (0:Int), .ex (.slice none 0 0), .ex (.slice none 0 0)] : List DC)))) rfl (dk rfl) (Zx (pl := [(0, 257), (257, 1), (258, 1)]) Xu i28 rfl) (Ho rfl) rfl rfl ?_)
 refine sp rfl (Qz (i := 0) (cells' := ((Qy.oc 256 .u8 (Qy.mk fun _ => 0)) ++ (([.d (.int .i64 (0:Int)), .d (.ex (.slice none 0 0)), .d (.ex (.slice none 0 0))]:List OC)))) rfl rfl i28 rfl rfl rfl rfl (nb rfl) rfl ?_)
 refine TL'.nil (tN ?_)
 refine T.ret (Qj ?_)
 refine Vd (Ln 0 (l := ((Qy.dc 256 .u8 (Qy.mk fun _ => 0)) ++ (([.int .i64 (0:Int), .ex (.slice none 0 0), .ex (.slice none 0 0)] : List DC)))) (l' := ((Qy.dc 256 .u8 (Qy.mk fun _ => 0)) ++ (([.int .i64 (0:Int), .sl false 2 (([] : List Ze).map (Ze.dc .i64)), .sl false 4 (([] : List aSt).map Qx)] : List DC)))) rfl (.app _ (.cons (.same _) (.cons (.nil _ _) (.cons (.nil _ _) (.refl _)))))) ?_
 exact Fin.done (.cons _ _ _ _ (.cellAgg 2 28 _ 0 0 28 _ ((Qy.dc 256 .u8 (Qy.mk fun _ => 0)) ++ (([.int .i64 (0:Int), .sl false 2 (([] : List Ze).map (Ze.dc .i64)), .sl false 4 (([] : List aSt).map Qx)] : List DC))) _ _ 259 _ rfl rfl rfl rfl Xu rfl i28) .nil) (by cases h; exact ⟨rfl, rfl⟩)
 refine Qp rfl a ?_
 refine T.skip (tN ?_)
 refine T.seq (Qr ?_)
 refine sp rfl (Zc (i := 1) (l := ((Qy.dc 256 .u8 x0.Split.Of) ++ (([.int .i64 x0.Split.Many, .sl false 2 (mA x0.Counts), .sl false 4 (x0.States.map Qx)] : List DC)))) rfl (dk rfl) Xu rfl i28 rfl rfl rfl rfl ?_)
 refine sp rfl (Qz (i := 0) (cells' := ((Qy.oc 256 .u8 x0.Split.Of) ++ (([.d (.int .i64 x0.Split.Many), .d (.sl false 2 (mA x0.Counts)), .d (.sl false 4 (x0.States.map Qx))]:List OC)))) rfl rfl i28 rfl rfl rfl rfl (nb rfl) rfl ?_)
 refine TL'.nil (tN ?_)
 refine T.ret ?_
 exact Fin.done (.cons _ _ _ _ (.cellAgg 2 28 _ 0 0 28 _ ((Qy.dc 256 .u8 x0.Split.Of) ++ (([.int .i64 x0.Split.Many, .sl false 2 (mA x0.Counts), .sl false 4 (x0.States.map Qx)] : List DC))) _ _ 259 _ rfl rfl rfl rfl Xu rfl i28) .nil) (by cases h; exact ⟨rfl, rfl⟩)
abbrev Cg (r : Bool) : ES := Jt tp Try.f43 (fun y t => y = (.bool r) ∧ t = [])
abbrev Oj (r : Bool) : ES := thenS (fun s' => T tp 28 (ca [1,1,1] Try.f43) s' ((Cg r))) ((Cg r))
abbrev Ik (r : Bool) : ES := Q0 0 ((Oj r))
theorem Pq {r : Bool} (K : Nat) : ∀ (k : Nat), ∀ (b : Int) (x0 : aSp) (f : Int) (g : Nat), Vf K k b x0 f = some r → TL tp 28 (ca [1,1,0,1,0,0] Try.f43) ⟨[(1, .ptr g 0), (3, .int .i64 b), (7, .agg (Qy.dc 256 .u8 x0.Of)), (8, .int .i64 f)], [(Fv g x0.Of x0.Many)]⟩ (Ik r) := by
 intro k
 induction k with
 | zero =>
  intro b x0 f g h
  cases (show (none : Option Bool) = some r from h)
 | succ k ih =>
  intro b x0 f g h
  rw [Vf] at h
  refine Za ?_
  refine T.seq (Qr ?_)
  refine sp rfl (Qa rfl rfl (dk rfl) rfl rfl ?_)
  refine TL'.nil (tN ?_)
  refine T.seq ?_
  rcases Qb h with ⟨l, h⟩ | ⟨l, h⟩
  refine Qk rfl l ?_
  refine T.skip (tN ?_)
  refine T.seq ?_
  refine T.block ?_
  refine T.seq (Qr ?_)
  obtain ⟨j, h⟩ := Zm h
  refine sp rfl (OpT.indexArr rfl (dk rfl) ul22 ul5 rfl i5 rfl rfl j.1 j.2 (Qy.dc_get (n := 256) (a := x0.Of) (k := .u8) j.1 j.2) ?_)
  refine aw rfl ?_
  refine TL'.nil (tN ?_)
  refine T.block ?_
  refine T.seq (Qr ?_)
  refine mw rfl ?_
  refine sp rfl (Yn rfl (dk rfl) ul5 ul3 rfl ?_)
  refine mw rfl ?_
  refine sp rfl (Qa rfl rfl (dk rfl) rfl rfl ?_)
  refine aw rfl ?_
  refine TL'.nil (tN ?_)
  rcases Qb h with ⟨m, h⟩ | ⟨m, h⟩
  refine Qk rfl m ?_
  refine T.seq (Qr ?_)
  refine aw rfl ?_
  refine TL'.nil (tN ?_)
  refine T.ret (Qt (Qt (Qj (Qj (Qt (Qj ?_))))))
  exact Fin.done (.cons _ _ _ _ (.tmp 2 _ rfl) .nil) (by cases h; exact ⟨rfl, rfl⟩)
  refine Qp rfl m ?_
  refine T.seq (Qr ?_)
  refine mw rfl ?_
  refine sp rfl (Yn rfl (dk rfl) ul5 ul3 rfl ?_)
  refine mw rfl ?_
  refine sp rfl (Qa rfl rfl (dk rfl) rfl rfl ?_)
  refine aw rfl ?_
  refine TL'.nil (tN ?_)
  rcases Qb h with ⟨p, h⟩ | ⟨p, h⟩
  refine Qk rfl p ?_
  refine Qr ?_
  refine mw rfl ?_
  refine sp rfl (Qa rfl rfl (dk rfl) rfl rfl ?_)
  refine aw rfl ?_
  refine TL'.nil (Qe (Qe (tN ?_)))
  refine Qr ?_
  refine sp rfl (Qa rfl rfl (dk rfl) rfl rfl ?_)
  refine mw rfl ?_
  refine TL'.nil (tN ?_)
  refine Qc ?_ (ih (wI (b + (1:Int))) x0 (wI (f + (1:Int))) g h)
  exact tq rfl rfl
  refine Qp rfl p ?_
  refine T.skip (Qe (Qe (tN ?_)))
  refine Qr ?_
  refine sp rfl (Qa rfl rfl (dk rfl) rfl rfl ?_)
  refine mw rfl ?_
  refine TL'.nil (tN ?_)
  refine Qc ?_ (ih b x0 (wI (f + (1:Int))) g h)
  exact tq rfl rfl
  refine Qp rfl l ?_
  refine T.exit (Qh (Qh (Qq (tN ?_))))
  refine T.seq (Qr ?_)
  refine mw rfl ?_
  refine sp rfl (Ql rfl (dk rfl) F7 rfl i3 (by decide) rfl ?_)
  refine sp rfl (Qo (i := 0) rfl (dk rfl) ul3 rfl rfl rfl rfl ?_)
  refine sp rfl (Qa rfl rfl (dk rfl) rfl rfl ?_)
  refine aw rfl ?_
  refine TL'.nil (tN ?_)
  refine T.ret ?_
  exact Fin.done (.cons _ _ _ _ (.tmp 2 _ rfl) .nil) (by cases h; exact ⟨rfl, rfl⟩)
theorem split_Right_T (K : Nat) {x0 : aSp} {r : Bool} (h : Kq K x0 = some r) : Zp tp 43 [.agg ((Qy.dc 256 .u8 x0.Of) ++ (([.int .i64 x0.Many] : List DC)))] [] (.bool r) := by
 refine Qs Try.func43 rfl (nb rfl) ?_
 show T tp 28 (ca [] Try.f43) ⟨Qv 0 [.agg ((Qy.dc 256 .u8 x0.Of) ++ (([.int .i64 x0.Many] : List DC)))], []⟩ (Cg r)
 unfold Kq at h
 refine T.seq (Qr ?_)
 refine sp rfl (Zb rfl (dk rfl) rfl (fun a => ?_))
 refine aw rfl ?_
 refine TL'.nil (tN (T.seq (Qr ?_)))
 refine aw rfl ?_
 refine TL'.nil (tN ?_)
 refine T.seq ?_
 refine T.seq (Qr ?_)
 refine sp rfl (Ql rfl (dk rfl) F7 rfl i22 (by decide) rfl ?_)
 refine sp rfl (Zc (i := 0) (l := (Qy.dc 256 .u8 x0.Of)) rfl (dk rfl) ul22 rfl i22 rfl rfl rfl rfl ?_)
 refine mw rfl ?_
 refine TL'.nil (tN ?_)
 refine T.block ?_
 refine T.loop ?_
 refine Qc ?_ (Pq K K (0:Int) x0 (0:Int) a h)
 exact tq rfl rfl
abbrev Lm (r : Int) : ES := Jt tp Try.f36 (fun y t => y = (.int .i64 r) ∧ t = [])
abbrev Ry (r : Int) : ES := thenS (fun s' => T tp 17 (ca [1,1] Try.f36) s' ((Lm r))) ((Lm r))
abbrev O8 (r : Int) : ES := thenS (fun s' => T tp 17 (ca [1,1,1,1] Try.f36) s' ((Lm r))) ((Lm r))
abbrev I4 (r : Int) : ES := Q0 0 ((O8 r))
theorem E1 {r : Int} (K : Nat) (h : H9 K = some r) : T tp 17 (ca [1,0,1,0] Try.f36) ⟨[], []⟩ (Ry r) := by
 unfold H9 at h
 refine T.seq (Qr ?_)
 refine aw rfl ?_
 refine TL'.nil (tN ?_)
 refine T.ret (Qj ?_)
 exact Fin.done (.cons _ _ _ _ (.tmp 2 _ rfl) .nil) (by cases h; exact ⟨rfl, rfl⟩)
theorem Rz {r : Int} (K : Nat) : ∀ (k : Nat), ∀ (a x0 b : Int), H8 K k a x0 b = some r → TL tp 17 (ca [1,1,1,0,1,0,0] Try.f36) ⟨[(3, .int .i64 a), (10, .int .i64 x0), (11, .int .i64 b)], []⟩ (I4 r) := by
 intro k
 induction k with
 | zero =>
  intro a x0 b h
  cases (show (none : Option Int) = some r from h)
 | succ k ih =>
  intro a x0 b h
  rw [H8] at h
  refine Za ?_
  refine T.seq (Qr ?_)
  refine sp rfl (Qa rfl rfl (dk rfl) rfl rfl ?_)
  refine TL'.nil (tN ?_)
  refine T.seq ?_
  rcases Qb h with ⟨c, h⟩ | ⟨c, h⟩
  refine Qk rfl c ?_
  refine T.skip (tN ?_)
  refine T.seq ?_
  refine T.block ?_
  refine Qr ?_
  refine mw rfl ?_
  refine sp rfl (Qa rfl rfl (dk rfl) rfl rfl ?_)
  refine aw rfl ?_
  refine TL'.nil (Qe (tN ?_))
  refine Qr ?_
  refine sp rfl (Qa rfl rfl (dk rfl) rfl rfl ?_)
  refine mw rfl ?_
  refine TL'.nil (tN ?_)
  refine Qc ?_ (ih (wI (a * (3:Int))) x0 (wI (b + (1:Int))) h)
  exact tq rfl rfl
  refine Qp rfl c ?_
  refine T.exit (Qh (Qh (Qq (tN ?_))))
  refine T.seq (Qr ?_)
  refine mw rfl ?_
  refine aw rfl ?_
  refine TL'.nil (tN ?_)
  refine T.ret ?_
  exact Fin.done (.cons _ _ _ _ (.tmp 2 _ rfl) .nil) (by cases h; exact ⟨rfl, rfl⟩)
theorem Pi (K : Nat) {x0 r : Int} (h : Hj K x0 = some r) : Zp tp 36 [.int .i64 x0] [] (.int .i64 r) := by
 refine Qs Try.func36 rfl (nb rfl) ?_
 show T tp 17 (ca [] Try.f36) ⟨Qv 0 [.int .i64 x0], []⟩ (Lm r)
 unfold Hj at h
 refine T.seq (Qr ?_)
 refine aw rfl ?_
 refine TL'.nil (tN ?_)
 refine T.seq ?_
 refine T.seq (Qr ?_)
 refine mw rfl ?_
 refine sp rfl (Qa rfl rfl (dk rfl) rfl rfl ?_)
 refine mw rfl ?_
 rcases Qb h with ⟨a, h⟩ | ⟨a, h⟩
 refine pf rfl a ?_
 refine pf rfl a ?_
 refine sp rfl (Qf rfl (dk rfl) rfl a rfl ?_)
 refine TL'.nil (tN ?_)
 refine Qk rfl rfl ?_
 refine Qd ?_ (E1 K h)
 exact tq rfl rfl
 refine sn rfl a (OpT.move rfl (dk rfl) rfl ?_)
 refine sn rfl a (Qa rfl rfl (dk rfl) rfl rfl ?_)
 refine sp rfl (Qm rfl (dk rfl) rfl a rfl ?_)
 refine TL'.nil (tN ?_)
 rcases Qb h with ⟨b, h⟩ | ⟨b, h⟩
 refine Qk rfl b ?_
 refine Qd ?_ (E1 K h)
 exact tq rfl rfl
 refine Qp rfl b ?_
 refine T.skip (tN ?_)
 refine T.seq (Qr ?_)
 refine aw rfl ?_
 refine TL'.nil (tN ?_)
 refine T.seq ?_
 refine T.seq (Qr ?_)
 refine mw rfl ?_
 refine mw rfl ?_
 refine TL'.nil (tN ?_)
 refine T.block ?_
 refine T.loop ?_
 refine Qc ?_ (Rz K K (1:Int) x0 (0:Int) h)
 exact tq rfl rfl
abbrev Ez (r : Bool) : ES := Jt tp Try.f64 (fun y t => y = (.bool r) ∧ t = [])
abbrev Pv (r : Bool) : ES := thenS (fun s' => T tp 24 (ca [1,1,1] Try.f64) s' ((Ez r))) ((Ez r))
abbrev H4 (r : Bool) : ES := Q0 0 ((Pv r))
abbrev M3 (r : Bool) : ES := thenS (fun s' => TL tp 24 (ca [1,1,0,1,0,0] Try.f64) s' ((H4 r))) ((H4 r))
abbrev D1 (r : Bool) : ES := thenS (fun s' => T tp 24 (ca [1,1,0,1,0,0,1,1,1] Try.f64) s' ((M3 r))) ((M3 r))
abbrev Wg (r : Bool) : ES := Q0 1 ((D1 r))
abbrev Bi (r : Bool) : ES := thenS (fun s' => T tp 24 (ca [1,1,0,1,0,0,1,1,0,0,1,1] Try.f64) s' ((Wg r))) ((Wg r))
theorem E0 {r : Bool} (K : Nat) (h : H5 K = some r) : T tp 24 (ca [1,1,0,1,0,0,1,1,0,0,1,0,1,0] Try.f64) ⟨[], []⟩ (Bi r) := by
 unfold H5 at h
 refine T.seq (Qr ?_)
 refine aw rfl ?_
 refine TL'.nil (tN ?_)
 refine T.ret (Qj (Qt (Qj (Qj (Qt (Qj ?_))))))
 exact Fin.done (.cons _ _ _ _ (.tmp 4 _ rfl) .nil) (by cases h; exact ⟨rfl, rfl⟩)
theorem Ru {r : Bool} (K : Nat) : ∀ (k : Nat), ∀ (x1 d : Int) (x0 : List Int) (b c : Int) (flx0 : Bool), U6 K k x1 d x0 b c = some r → TL tp 24 (ca [1,1,0,1,0,0] Try.f64) ⟨[(1, .int .i64 x1), (5, .int .i64 d), (8, .sl flx0 1 (mI x0)), (9, .int .i64 b), (10, .int .i64 c)], []⟩ (H4 r) := by
 intro k
 induction k with
 | zero =>
  intro x1 d x0 b c flx0 h
  cases (show (none : Option Bool) = some r from h)
 | succ k ih =>
  intro x1 d x0 b c flx0 h
  rw [U6] at h
  refine Za ?_
  refine T.seq (Qr ?_)
  refine sp rfl (Qa rfl rfl (dk rfl) rfl rfl ?_)
  refine TL'.nil (tN ?_)
  refine T.seq ?_
  rcases Qb h with ⟨g, h⟩ | ⟨g, h⟩
  refine Qk rfl g ?_
  refine T.skip (tN ?_)
  refine T.seq ?_
  refine T.block ?_
  refine T.seq (Qr ?_)
  obtain ⟨j, l, h⟩ := bind_some h
  refine sp rfl (Qi (xs := x0) (f := (cI .i64)) (v := j) rfl (dk rfl) Yo i3 rfl rfl l ?_)
  refine sp rfl (Qu rfl (dk rfl) ul3 rfl rfl rfl ?_)
  refine aw rfl ?_
  refine TL'.nil (tN ?_)
  refine T.seq ?_
  refine T.seq (Qr ?_)
  refine mw rfl ?_
  refine mw rfl ?_
  refine sp rfl (Qa rfl rfl (dk rfl) rfl rfl ?_)
  refine mw rfl ?_
  rcases Qb h with ⟨a, h⟩ | ⟨a, h⟩
  refine pf rfl a ?_
  refine pf rfl a ?_
  refine pf rfl a ?_
  refine sp rfl (Qf rfl (dk rfl) rfl a rfl ?_)
  refine TL'.nil (tN ?_)
  refine Qk rfl rfl ?_
  refine Qd ?_ (E0 K h)
  exact tq rfl rfl
  refine sn rfl a (OpT.move rfl (dk rfl) rfl ?_)
  refine sn rfl a (OpT.move rfl (dk rfl) rfl ?_)
  refine sn rfl a (Qa rfl rfl (dk rfl) rfl rfl ?_)
  refine sp rfl (Qm rfl (dk rfl) rfl a rfl ?_)
  refine TL'.nil (tN ?_)
  rcases Qb h with ⟨i, h⟩ | ⟨i, h⟩
  refine Qk rfl i ?_
  refine Qd ?_ (E0 K h)
  exact tq rfl rfl
  refine Qp rfl i ?_
  refine T.skip (tN ?_)
  refine Qr ?_
  refine mw rfl ?_
  refine aw rfl ?_
  refine TL'.nil (Qe (tN ?_))
  refine Qr ?_
  refine sp rfl (Qa rfl rfl (dk rfl) rfl rfl ?_)
  refine mw rfl ?_
  refine TL'.nil (tN ?_)
  refine Qc ?_ (ih x1 j x0 b (wI (c + (1:Int))) flx0 h)
  exact tq rfl rfl
  refine Qp rfl g ?_
  refine T.exit (Qh (Qh (Qq (tN ?_))))
  refine T.seq (Qr ?_)
  refine aw rfl ?_
  refine TL'.nil (tN ?_)
  refine T.ret ?_
  exact Fin.done (.cons _ _ _ _ (.tmp 4 _ rfl) .nil) (by cases h; exact ⟨rfl, rfl⟩)
theorem Pg (K : Nat) {x0 : List Int} {x1 : Int} {flx0 r : Bool} (h : Ki K x0 x1 = some r) : Zp tp 64 [.sl flx0 1 (mI x0), .int .i64 x1] [] (.bool r) := by
 refine Qs Try.func64 rfl (nb rfl) ?_
 show T tp 24 (ca [] Try.f64) ⟨Qv 0 [.sl flx0 1 (mI x0), .int .i64 x1], []⟩ (Ez r)
 unfold Ki at h
 refine T.seq (Qr ?_)
 refine aw rfl ?_
 refine TL'.nil (tN (T.seq (Qr ?_)))
 refine aw rfl ?_
 refine TL'.nil (tN ?_)
 refine T.seq ?_
 refine T.seq (Qr ?_)
 refine mw rfl ?_
 refine sp rfl (Qn (xs := x0) (f := (cI .i64)) rfl (dk rfl) Yo rfl ?_)
 refine mw rfl ?_
 refine TL'.nil (tN ?_)
 refine T.block ?_
 refine T.loop ?_
 refine Qc ?_ (Ru K K x1 (-1:Int) x0 (x0.length : Int) (0:Int) flx0 h)
 exact tq rfl rfl
abbrev Hu (r : Int) : ES := Jt tp Try.f95 (fun y t => y = (.int .i64 r) ∧ t = [])
abbrev Ee (r : Int) : ES := thenS (fun s' => T tp 19 (ca [1,1] Try.f95) s' ((Hu r))) ((Hu r))
abbrev Ci (r : Int) : ES := Q0 0 ((Ee r))
theorem Ef {r : Int} (K : Nat) : ∀ (k : Nat), ∀ (x0 : List Int) (x1 a b : Int) (flx0 : Bool), Y2 K k x0 x1 a b = some r → TL tp 19 (ca [1,0,1,0,0] Try.f95) ⟨[(0, .sl flx0 1 (mI x0)), (1, .int .i64 x1), (7, .int .i64 a), (8, .int .i64 b)], []⟩ (Ci r) := by
 intro k
 induction k with
 | zero =>
  intro x0 x1 a b flx0 h
  cases (show (none : Option Int) = some r from h)
 | succ k ih =>
  intro x0 x1 a b flx0 h
  rw [Y2] at h
  refine Za ?_
  refine T.seq (Qr ?_)
  refine sp rfl (Qa rfl rfl (dk rfl) rfl rfl ?_)
  refine TL'.nil (tN ?_)
  refine T.seq ?_
  rcases Qb h with ⟨c, h⟩ | ⟨c, h⟩
  refine Qk rfl c ?_
  refine T.skip (tN ?_)
  refine T.seq ?_
  refine T.block ?_
  refine T.seq (Qr ?_)
  refine mw rfl ?_
  refine aw rfl ?_
  refine TL'.nil (tN (T.seq (Qr ?_)))
  iterate 3 refine mw rfl ?_
  obtain ⟨g, i, h⟩ := bind_some h
  refine sp rfl (Qi (xs := x0) (f := (cI .i64)) (v := g) rfl (dk rfl) Yo i3 rfl rfl i ?_)
  refine sp rfl (Qu rfl (dk rfl) ul3 rfl rfl rfl ?_)
  refine sp rfl (Qa rfl rfl (dk rfl) rfl rfl ?_)
  refine TL'.nil (tN ?_)
  rcases Qb h with ⟨d, h⟩ | ⟨d, h⟩
  refine Qk rfl d ?_
  refine T.seq (Qr ?_)
  refine mw rfl ?_
  refine aw rfl ?_
  refine TL'.nil (tN ?_)
  refine T.ret (Qt (Qj (Qj (Qt (Qj ?_)))))
  exact Fin.done (.cons _ _ _ _ (.tmp 4 _ rfl) .nil) (by cases h; exact ⟨rfl, rfl⟩)
  refine Qp rfl d ?_
  refine T.skip (Qe (tN ?_))
  refine Qr ?_
  refine sp rfl (Qa rfl rfl (dk rfl) rfl rfl ?_)
  refine mw rfl ?_
  refine TL'.nil (tN ?_)
  refine Qc ?_ (ih x0 x1 a (wI (b + (1:Int))) flx0 h)
  exact tq rfl rfl
  refine Qp rfl c ?_
  refine T.exit (Qh (Qh (Qq (tN ?_))))
  refine T.seq (Qr ?_)
  refine aw rfl ?_
  refine TL'.nil (tN ?_)
  refine T.ret ?_
  exact Fin.done (.cons _ _ _ _ (.tmp 4 _ rfl) .nil) (by cases h; exact ⟨rfl, rfl⟩)
theorem Nc (K : Nat) {x0 : List Int} {x1 : Int} {flx0 : Bool} {r : Int} (h : Wo K x0 x1 = some r) : Zp tp 95 [.sl flx0 1 (mI x0), .int .i64 x1] [] (.int .i64 r) := by
 refine Qs Try.func95 rfl (nb rfl) ?_
 show T tp 19 (ca [] Try.f95) ⟨Qv 0 [.sl flx0 1 (mI x0), .int .i64 x1], []⟩ (Hu r)
 unfold Wo at h
 refine T.seq (Qr ?_)
 refine aw rfl ?_
 refine TL'.nil (tN ?_)
 refine T.seq ?_
 refine T.seq (Qr ?_)
 refine mw rfl ?_
 refine sp rfl (Qn (xs := x0) (f := (cI .i64)) rfl (dk rfl) Yo rfl ?_)
 refine mw rfl ?_
 refine TL'.nil (tN ?_)
 refine T.block ?_
 refine T.loop ?_
 refine Qc ?_ (Ef K K x0 x1 (x0.length : Int) (0:Int) flx0 h)
 exact tq rfl rfl
abbrev Eg (r : Bool) : ES := Jt tp Try.f86 (fun y t => y = (.bool r) ∧ t = [])
theorem Eh (K : Nat) {x0 : List Int} {x1 : Int} {flx0 r : Bool} (h : Vl K x0 x1 = some r) : Zp tp 86 [.sl flx0 1 (mI x0), .int .i64 x1] [] (.bool r) := by
 refine Qs Try.func86 rfl (nb rfl) ?_
 show T tp 9 (ca [] Try.f86) ⟨Qv 0 [.sl flx0 1 (mI x0), .int .i64 x1], []⟩ (Eg r)
 unfold Vl at h
 refine T.seq (Qr ?_)
 refine aw rfl ?_
 refine TL'.nil (tN (T.seq (Qr ?_)))
 refine mw rfl ?_
 refine mw rfl ?_
 obtain ⟨b, a, h⟩ := bind_some h
 refine sp rfl (Q2 rfl (dk rfl) Try.func95 rfl rfl (Q5.cons rfl (Q5.cons rfl Q5.nil)) (Zp.nil (Nc K (flx0 := flx0) a)) ?_)
 refine sp rfl (Qa rfl rfl (dk rfl) rfl rfl ?_)
 refine aw rfl ?_
 refine TL'.nil (tN ?_)
 refine T.ret ?_
 exact Fin.done (.cons _ _ _ _ (.tmp 4 _ rfl) .nil) (by cases h; exact ⟨rfl, rfl⟩)
abbrev Vs (r : Bool) : ES := Jt tp Try.f67 (fun y t => y = (.bool r) ∧ t = [])
abbrev C3 (r : Bool) : ES := thenS (fun s' => T tp 79 (ca [1,1,1] Try.f67) s' ((Vs r))) ((Vs r))
abbrev B9 (r : Bool) : ES := thenS (fun s' => T tp 79 (ca [1,1,1,1] Try.f67) s' ((Vs r))) ((Vs r))
abbrev Vy (r : Bool) : ES := Q0 0 ((B9 r))
abbrev Wh (r : Bool) : ES := thenS (fun s' => TL tp 79 (ca [1,1,1,0,1,0,0] Try.f67) s' ((Vy r))) ((Vy r))
abbrev Lk (r : Bool) : ES := thenS (fun s' => T tp 79 (ca [1,1,1,0,1,0,0,1,1,1] Try.f67) s' ((Wh r))) ((Wh r))
abbrev Hn (r : Bool) : ES := Q0 1 ((Lk r))
theorem Jm {r : Bool} (K : Nat) (h : Yc K = some r) : T tp 79 (ca [1,1,0,1,0] Try.f67) ⟨[], []⟩ (C3 r) := by
 unfold Yc at h
 refine T.seq (Qr ?_)
 refine aw rfl ?_
 refine TL'.nil (tN ?_)
 refine T.ret (Qj ?_)
 exact Fin.done (.cons _ _ _ _ (.tmp 6 _ rfl) .nil) (by cases h; exact ⟨rfl, rfl⟩)
theorem Jl {r : Bool} (K : Nat) (h : Yb K = some r) : T tp 79 (ca [1,1,1,0,1,0,0,1,1,0,0,1,1,0] Try.f67) ⟨[], []⟩ (Hn r) := by
 unfold Yb at h
 refine T.seq (Qr ?_)
 refine aw rfl ?_
 refine TL'.nil (tN ?_)
 refine T.ret (Qt (Qj (Qj (Qt (Qj ?_)))))
 exact Fin.done (.cons _ _ _ _ (.tmp 6 _ rfl) .nil) (by cases h; exact ⟨rfl, rfl⟩)
theorem D4 {r : Bool} (K : Nat) : ∀ (k : Nat), ∀ (x2 : aMv) (w p : Int) (x0 : Q4) (x1 : aSt) (j l m : Nat), Ya K k x2 w p x0 x1 = some r → TL tp 79 (ca [1,1,1,0,1,0,0] Try.f67) ⟨[(3, .ptr j 0), (4, .ptr l 0), (5, .ptr m 0), (44, .sl false 1 (mU x2.Ops)), (45, .int .i64 w), (46, .int .i64 p)], [(Jg j x0.Auto.Split.Of x0.Auto.Split.Many x0.Auto.Counts x0.Auto.States), (Zu l x1.L x1.R x1.Rule x1.Next), (W4 m x2.To x2.Ops)]⟩ (Vy r) := by
 intro k
 induction k with
 | zero =>
  intro x2 w p x0 x1 j l m h
  cases (show (none : Option Bool) = some r from h)
 | succ k ih =>
  intro x2 w p x0 x1 j l m h
  rw [Ya] at h
  refine Za ?_
  refine T.seq (Qr ?_)
  refine sp rfl (Qa rfl rfl (dk rfl) rfl rfl ?_)
  refine TL'.nil (tN ?_)
  refine T.seq ?_
  rcases Qb h with ⟨ab, h⟩ | ⟨ab, h⟩
  refine Qk rfl ab ?_
  refine T.skip (tN ?_)
  refine T.seq ?_
  refine T.block ?_
  refine T.seq (Qr ?_)
  refine mw rfl ?_
  obtain ⟨a, ad, h⟩ := bind_some h
  refine sp rfl (Qi (xs := x2.Ops) (f := (cI .u8)) (v := a) rfl (dk rfl) Vj i5 rfl rfl ad ?_)
  refine sp rfl (Qu rfl (dk rfl) ul5 rfl rfl rfl ?_)
  refine aw rfl ?_
  refine aw rfl ?_
  refine TL'.nil (tN ?_)
  refine T.seq ?_
  refine Xl ?_
  refine Yg rfl rfl rfl rfl rfl rfl ?_
  refine dS (c := ⟨some 52, .bool (decide (a < (1:Int))), [(51, .int .u8 a)], [], []⟩) (fun t hm => oF rfl rfl (Qa rfl rfl (dk rfl) hm.s0 rfl rfl)) rfl rfl ?_
  refine Yg rfl rfl rfl rfl rfl rfl ?_
  rcases Qb h with ⟨y, h⟩ | ⟨y, h⟩
  refine dO y rfl rfl ?_
  refine dO y rfl rfl ?_
  refine dS (c := ⟨some 56, .bool true, [(53, .bool (decide (a < (1:Int))))], [], []⟩) (fun t hm => oF rfl rfl (Qf rfl (dk rfl) hm.s0 y rfl rfl)) rfl rfl ?_
  refine Yg rfl rfl rfl rfl rfl rfl ?_
  refine dO rfl rfl rfl ?_
  refine dO rfl rfl rfl ?_
  refine dO rfl rfl rfl ?_
  refine DG.gone rfl rfl rfl rfl rfl rfl ?_
  refine DG.gone rfl rfl rfl rfl rfl rfl ?_
  refine DG.gone rfl rfl rfl rfl rfl rfl ?_
  refine DG.gone rfl rfl rfl rfl rfl rfl ?_
  refine DG.gone rfl rfl rfl rfl rfl rfl ?_
  refine DG.gone rfl rfl rfl rfl rfl rfl ?_
  refine DG.gone rfl rfl rfl rfl rfl rfl ?_
  refine DG.gone rfl rfl rfl rfl rfl rfl ?_
  refine DG.gone rfl rfl rfl rfl rfl rfl ?_
  refine DG.gone rfl rfl rfl rfl rfl rfl ?_
  refine DG.gone rfl rfl rfl rfl rfl rfl ?_
  refine DG.gone rfl rfl rfl rfl rfl rfl ?_
  refine DG.gone rfl rfl rfl rfl rfl rfl ?_
  refine DG.gone rfl rfl rfl rfl rfl rfl ?_
  refine DG.gone rfl rfl rfl rfl rfl rfl ?_
  refine dO rfl rfl rfl ?_
  refine dS (c := ⟨some 77, .bool true, [(57, .bool true)], [], []⟩) (fun t hm => oF rfl rfl (Qf rfl (dk rfl) hm.s0 rfl rfl rfl)) rfl rfl ?_
  refine Ys (s1 := ⟨[(3, .ptr j 0), (4, .ptr l 0), (5, .ptr m 0), (44, .sl false 1 (mU x2.Ops)), (45, .int .i64 w), (46, .int .i64 p), (54, .tup []), (55, .tup []), (58, .tup []), (59, .tup []), (60, .tup []), (61, .tup []), (62, .tup []), (63, .tup []), (64, .tup []), (65, .tup []), (66, .tup []), (67, .tup []), (68, .tup []), (69, .tup []), (70, .tup []), (71, .tup []), (72, .tup []), (73, .tup []), (74, .tup []), (75, .tup []), (76, .tup []), (77, .bool true)], [(Jg j x0.Auto.Split.Of x0.Auto.Split.Many x0.Auto.Counts x0.Auto.States), (Zu l x1.L x1.R x1.Rule x1.Next), (W4 m x2.To x2.Ops)]⟩) (ms := [0, 1, 3, 7, 15, 31, 63, 127, 255, 511, 1023, 2047, 1023, 5119, 13311, 1023, 33791, 127999, 259071, 521215, 1023, 2094079, 4191231, 8388607, 16777215, 33554431, 67108863]) Q7 rfl (by kernel_rfl) (by kernel_rfl) (by kernel_rfl) (sf rfl) rfl (fun u hu => (tN (Qd hu ?_)))
  refine Qk rfl rfl ?_
  refine Qd ?_ (Jl K h)
  exact tq rfl rfl
  refine dS (c := ⟨some 54, .int .u8 a, [(8, .int .u8 a), (53, .bool (decide (a < (1:Int))))], [], []⟩) (fun t hm => oN rfl rfl rfl hm.s1 y (OpT.move rfl (dk rfl) hm.s0 rfl)) rfl rfl ?_
  refine dS (c := ⟨some 55, .bool (decide (a > (3:Int))), [(54, .int .u8 a), (53, .bool (decide (a < (1:Int))))], [], []⟩) (fun t hm => oN rfl rfl rfl hm.s1 y (Qa rfl rfl (dk rfl) hm.s0 rfl rfl)) rfl rfl ?_
  refine dS (c := ⟨some 56, .bool (decide (a > (3:Int))), [(53, .bool (decide (a < (1:Int)))), (55, .bool (decide (a > (3:Int))))], [], []⟩) (fun t hm => oF rfl rfl (Qm rfl (dk rfl) hm.s0 y hm.s1 rfl)) rfl rfl ?_
  refine Yg rfl rfl rfl rfl rfl rfl ?_
  rcases Qb h with ⟨q, h⟩ | ⟨q, h⟩
  refine dO q rfl rfl ?_
  refine dO q rfl rfl ?_
  refine dO q rfl rfl ?_
  refine DG.gone rfl rfl rfl rfl rfl rfl ?_
  refine DG.gone rfl rfl rfl rfl rfl rfl ?_
  refine DG.gone rfl rfl rfl rfl rfl rfl ?_
  refine DG.gone rfl rfl rfl rfl rfl rfl ?_
  refine DG.gone rfl rfl rfl rfl rfl rfl ?_
  refine DG.gone rfl rfl rfl rfl rfl rfl ?_
  refine DG.gone rfl rfl rfl rfl rfl rfl ?_
  refine DG.gone rfl rfl rfl rfl rfl rfl ?_
  refine DG.gone rfl rfl rfl rfl rfl rfl ?_
  refine DG.gone rfl rfl rfl rfl rfl rfl ?_
  refine DG.gone rfl rfl rfl rfl rfl rfl ?_
  refine DG.gone rfl rfl rfl rfl rfl rfl ?_
  refine DG.gone rfl rfl rfl rfl rfl rfl ?_
  refine DG.gone rfl rfl rfl rfl rfl rfl ?_
  refine DG.gone rfl rfl rfl rfl rfl rfl ?_
  refine dO q rfl rfl ?_
  refine dS (c := ⟨some 77, .bool true, [(57, .bool (decide (a > (3:Int))))], [], []⟩) (fun t hm => oF rfl rfl (Qf rfl (dk rfl) hm.s0 q rfl rfl)) rfl rfl ?_
  refine Ys (s1 := ⟨[(3, .ptr j 0), (4, .ptr l 0), (5, .ptr m 0), (44, .sl false 1 (mU x2.Ops)), (45, .int .i64 w), (46, .int .i64 p), (54, .int .u8 a), (55, .bool (decide (a > (3:Int)))), (58, .tup []), (59, .tup []), (60, .tup []), (61, .tup []), (62, .tup []), (63, .tup []), (64, .tup []), (65, .tup []), (66, .tup []), (67, .tup []), (68, .tup []), (69, .tup []), (70, .tup []), (71, .tup []), (72, .tup []), (73, .tup []), (74, .tup []), (75, .tup []), (76, .tup []), (77, .bool true)], [(Jg j x0.Auto.Split.Of x0.Auto.Split.Many x0.Auto.Counts x0.Auto.States), (Zu l x1.L x1.R x1.Rule x1.Next), (W4 m x2.To x2.Ops)]⟩) (ms := [0, 1, 3, 7, 15, 31, 63, 127, 255, 511, 1023, 2047, 1023, 5119, 13311, 1023, 33791, 127999, 259071, 521215, 1023, 2094079, 4191231, 8388607, 16777215, 33554431, 67108863]) Q7 rfl (by kernel_rfl) (by kernel_rfl) (by kernel_rfl) (sf rfl) rfl (fun u hu => (tN (Qd hu ?_)))
  refine Qk rfl rfl ?_
  refine Qd ?_ (Jl K h)
  exact tq rfl rfl
  refine dS (c := ⟨some 58, .int .u8 a, [(8, .int .u8 a), (57, .bool (decide (a > (3:Int))))], [], []⟩) (fun t hm => oN rfl rfl rfl hm.s1 q (OpT.move rfl (dk rfl) hm.s0 rfl)) rfl rfl ?_
  refine dS (c := ⟨some 59, .bool (a != (3:Int)), [(58, .int .u8 a), (57, .bool (decide (a > (3:Int))))], [], []⟩) (fun t hm => oN rfl rfl rfl hm.s1 q (Qa rfl rfl (dk rfl) hm.s0 rfl rfl)) rfl rfl ?_
  refine dS (c := ⟨some 60, .bool (a != (3:Int)), [(59, .bool (a != (3:Int))), (57, .bool (decide (a > (3:Int))))], [], []⟩) (fun t hm => oN rfl rfl rfl hm.s1 q (OpT.move rfl (dk rfl) hm.s0 rfl)) rfl rfl ?_
  rcases Qb h with ⟨b, h⟩ | ⟨b, h⟩
  refine dS (c := ⟨some 61, .ptr l (0 + 1), [(4, .ptr l 0), (60, .bool (a != (3:Int)))], [], []⟩) (fun t hm => oN rfl rfl rfl hm.s1 b (Ql rfl (dk rfl) Uh rfl i56 (by decide) hm.s0 rfl)) rfl rfl ?_
  refine dS (c := ⟨some 62, .sl false 1 (mI x1.R), [(61, .ptr l (0 + 1)), (60, .bool (a != (3:Int)))], [(1, (Zu l x1.L x1.R x1.Rule x1.Next))], []⟩) (fun t hm => oN rfl rfl rfl hm.s1 b (Qo (i := 1) rfl (dk rfl) Yo rfl hm.s0 hm.o0 rfl rfl)) rfl rfl ?_
  refine dS (c := ⟨some 63, .ptr j (0 + 0), [(3, .ptr j 0), (60, .bool (a != (3:Int)))], [], []⟩) (fun t hm => oN rfl rfl rfl hm.s1 b (Ql rfl (dk rfl) ul91 rfl i28 (by decide) hm.s0 rfl)) rfl rfl ?_
  refine dS (c := ⟨some 64, .ptr j (0 + 0 + 258), [(63, .ptr j (0 + 0)), (60, .bool (a != (3:Int)))], [], []⟩) (fun t hm => oN rfl rfl rfl hm.s1 b (Ql rfl (dk rfl) Xu rfl i26 (by decide) hm.s0 rfl)) rfl rfl ?_
  refine dS (c := ⟨some 65, .sl false 4 (x0.Auto.States.map Qx), [(64, .ptr j (0 + 0 + 258)), (60, .bool (a != (3:Int)))], [(0, (Jg j x0.Auto.Split.Of x0.Auto.Split.Many x0.Auto.Counts x0.Auto.States))], []⟩) (fun t hm => oN rfl rfl rfl hm.s1 b (Qo (i := 0) rfl (dk rfl) Vx rfl hm.s0 hm.o0 rfl rfl)) rfl rfl ?_
  refine dS (c := ⟨some 66, .ptr m (0 + 0), [(5, .ptr m 0), (60, .bool (a != (3:Int)))], [], []⟩) (fun t hm => oN rfl rfl rfl hm.s1 b (Ql rfl (dk rfl) Mf rfl i3 (by decide) hm.s0 rfl)) rfl rfl ?_
  refine dS (c := ⟨some 67, .int .i64 x2.To, [(66, .ptr m (0 + 0)), (60, .bool (a != (3:Int)))], [(2, (W4 m x2.To x2.Ops))], []⟩) (fun t hm => oN rfl rfl rfl hm.s1 b (Qo (i := 2) rfl (dk rfl) ul3 rfl hm.s0 hm.o0 rfl rfl)) rfl rfl ?_
  obtain ⟨g, af, h⟩ := bind_some h
  refine dS (c := ⟨some 68, .ref [.sl false 1 (mI g.L), .sl false 1 (mI g.R), .sl false 1 (mI g.Rule), .sl false 1 (g.Next.map (cL 2 Qw))], [(65, .sl false 4 (x0.Auto.States.map Qx)), (67, .int .i64 x2.To), (60, .bool (a != (3:Int)))], [], []⟩) (fun t hm => oN rfl rfl rfl hm.s2 b (Qi (xs := x0.Auto.States) (f := Qx) (v := g) rfl (dk rfl) Vx i59 hm.s0 hm.s1 af rfl)) rfl rfl ?_
  refine dS (c := ⟨some 69, .ref [.sl false 1 (mI g.R), .sl false 1 (mI g.Rule), .sl false 1 (g.Next.map (cL 2 Qw))], [(68, .ref [.sl false 1 (mI g.L), .sl false 1 (mI g.R), .sl false 1 (mI g.Rule), .sl false 1 (g.Next.map (cL 2 Qw))]), (60, .bool (a != (3:Int)))], [], []⟩) (fun t hm => oN rfl rfl rfl hm.s1 b (Yr rfl (dk rfl) Uh rfl i56 (by decide) hm.s0 rfl)) rfl rfl ?_
  refine dS (c := ⟨some 70, .sl false 1 (mI g.R), [(69, .ref [.sl false 1 (mI g.R), .sl false 1 (mI g.Rule), .sl false 1 (g.Next.map (cL 2 Qw))]), (60, .bool (a != (3:Int)))], [], []⟩) (fun t hm => oN rfl rfl rfl hm.s1 b (Qu rfl (dk rfl) Yo rfl hm.s0 rfl rfl)) rfl rfl ?_
  refine dS (c := ⟨some 71, .int .i64 p, [(7, .int .i64 p), (60, .bool (a != (3:Int)))], [], []⟩) (fun t hm => oN rfl rfl rfl hm.s1 b (OpT.move rfl (dk rfl) hm.s0 rfl)) rfl rfl ?_
  obtain ⟨aa, ag, h⟩ := bind_some h
  refine dS (c := ⟨some 72, .ref [.int .i64 aa], [(70, .sl false 1 (mI g.R)), (71, .int .i64 p), (60, .bool (a != (3:Int)))], [], []⟩) (fun t hm => oN rfl rfl rfl hm.s2 b (Qi (xs := g.R) (f := (cI .i64)) (v := aa) rfl (dk rfl) Yo i3 hm.s0 hm.s1 ag rfl)) rfl rfl ?_
  refine dS (c := ⟨some 73, .int .i64 aa, [(72, .ref [.int .i64 aa]), (60, .bool (a != (3:Int)))], [], []⟩) (fun t hm => oN rfl rfl rfl hm.s1 b (Qu rfl (dk rfl) ul3 rfl hm.s0 rfl rfl)) rfl rfl ?_
  obtain ⟨s, ai, h⟩ := bind_some h
  refine dS (c := ⟨some 74, .bool s, [(62, .sl false 1 (mI x1.R)), (73, .int .i64 aa), (60, .bool (a != (3:Int)))], [], []⟩) (fun t hm => oN rfl rfl rfl hm.s2 b (Q2 rfl (dk rfl) Try.func86 rfl rfl (Q5.cons hm.s0 (Q5.cons hm.s1 Q5.nil)) (Zp.nil (Eh K (flx0 := false) ai)) rfl)) rfl rfl ?_
  refine dS (c := ⟨some 75, .bool (!s), [(74, .bool s), (60, .bool (a != (3:Int)))], [], []⟩) (fun t hm => oN rfl rfl rfl hm.s1 b (OpT.not rfl (dk rfl) hm.s0 rfl)) rfl rfl ?_
  refine dS (c := ⟨some 76, .bool (!s), [(60, .bool (a != (3:Int))), (75, .bool (!s)), (57, .bool (decide (a > (3:Int))))], [], []⟩) (fun t hm => oN rfl rfl rfl hm.s2 q (Qf rfl (dk rfl) hm.s0 b hm.s1 rfl)) rfl rfl ?_
  refine dS (c := ⟨some 77, .bool (!s), [(57, .bool (decide (a > (3:Int)))), (76, .bool (!s))], [], []⟩) (fun t hm => oF rfl rfl (Qm rfl (dk rfl) hm.s0 q hm.s1 rfl)) rfl rfl ?_
  refine Ys (s1 := ⟨[(3, .ptr j 0), (4, .ptr l 0), (5, .ptr m 0), (44, .sl false 1 (mU x2.Ops)), (45, .int .i64 w), (46, .int .i64 p), (54, .int .u8 a), (55, .bool (decide (a > (3:Int)))), (58, .int .u8 a), (59, .bool (a != (3:Int))), (60, .bool (a != (3:Int))), (61, .ptr l (0 + 1)), (62, .sl false 1 (mI x1.R)), (63, .ptr j (0 + 0)), (64, .ptr j (0 + 0 + 258)), (65, .sl false 4 (x0.Auto.States.map Qx)), (66, .ptr m (0 + 0)), (67, .int .i64 x2.To), (68, .ref [.sl false 1 (mI g.L), .sl false 1 (mI g.R), .sl false 1 (mI g.Rule), .sl false 1 (g.Next.map (cL 2 Qw))]), (69, .ref [.sl false 1 (mI g.R), .sl false 1 (mI g.Rule), .sl false 1 (g.Next.map (cL 2 Qw))]), (70, .sl false 1 (mI g.R)), (71, .int .i64 p), (72, .ref [.int .i64 aa]), (73, .int .i64 aa), (74, .bool s), (75, .bool (!s)), (76, .bool (!s)), (77, .bool (!s))], [(Jg j x0.Auto.Split.Of x0.Auto.Split.Many x0.Auto.Counts x0.Auto.States), (Zu l x1.L x1.R x1.Rule x1.Next), (W4 m x2.To x2.Ops)]⟩) (ms := [0, 1, 3, 7, 15, 31, 63, 127, 255, 511, 1023, 2047, 1023, 5119, 13311, 1023, 33791, 127999, 259071, 521215, 1023, 2094079, 4191231, 8388607, 16777215, 33554431, 67108863]) Q7 rfl (by kernel_rfl) (by kernel_rfl) (by kernel_rfl) (sf rfl) rfl (fun u hu => (tN (Qd hu ?_)))
  rcases Qb h with ⟨ac, h⟩ | ⟨ac, h⟩
  refine Qk rfl ac ?_
  refine Qd ?_ (Jl K h)
  exact tq rfl rfl
  refine Qp rfl ac ?_
  refine T.skip (Qe (tN ?_))
  refine Qr ?_
  refine sp rfl (Qa rfl rfl (dk rfl) rfl rfl ?_)
  refine mw rfl ?_
  refine TL'.nil (tN ?_)
  refine Qc ?_ (ih x2 w (wI (p + (1:Int))) x0 x1 j l m h)
  exact tq rfl rfl
  refine dO b rfl rfl ?_
  refine dO b rfl rfl ?_
  refine dO b rfl rfl ?_
  refine dO b rfl rfl ?_
  refine dO b rfl rfl ?_
  refine dO b rfl rfl ?_
  refine dO b rfl rfl ?_
  refine dO b rfl rfl ?_
  refine dO b rfl rfl ?_
  refine dO b rfl rfl ?_
  refine dO b rfl rfl ?_
  refine dO b rfl rfl ?_
  refine dO b rfl rfl ?_
  refine dO b rfl rfl ?_
  refine dO b rfl rfl ?_
  refine dS (c := ⟨some 76, .bool false, [(60, .bool (a != (3:Int))), (57, .bool (decide (a > (3:Int))))], [], []⟩) (fun t hm => oN rfl rfl rfl hm.s1 q (Qm rfl (dk rfl) hm.s0 b rfl rfl)) rfl rfl ?_
  refine dS (c := ⟨some 77, .bool false, [(57, .bool (decide (a > (3:Int)))), (76, .bool false)], [], []⟩) (fun t hm => oF rfl rfl (Qm rfl (dk rfl) hm.s0 q hm.s1 rfl)) rfl rfl ?_
  refine Ys (s1 := ⟨[(3, .ptr j 0), (4, .ptr l 0), (5, .ptr m 0), (44, .sl false 1 (mU x2.Ops)), (45, .int .i64 w), (46, .int .i64 p), (54, .int .u8 a), (55, .bool (decide (a > (3:Int)))), (58, .int .u8 a), (59, .bool (a != (3:Int))), (60, .bool (a != (3:Int))), (61, .tup []), (62, .tup []), (63, .tup []), (64, .tup []), (65, .tup []), (66, .tup []), (67, .tup []), (68, .tup []), (69, .tup []), (70, .tup []), (71, .tup []), (72, .tup []), (73, .tup []), (74, .tup []), (75, .tup []), (76, .bool false), (77, .bool false)], [(Jg j x0.Auto.Split.Of x0.Auto.Split.Many x0.Auto.Counts x0.Auto.States), (Zu l x1.L x1.R x1.Rule x1.Next), (W4 m x2.To x2.Ops)]⟩) (ms := [0, 1, 3, 7, 15, 31, 63, 127, 255, 511, 1023, 2047, 1023, 5119, 13311, 1023, 33791, 127999, 259071, 521215, 1023, 2094079, 4191231, 8388607, 16777215, 33554431, 67108863]) Q7 rfl (by kernel_rfl) (by kernel_rfl) (by kernel_rfl) (sf rfl) rfl (fun u hu => (tN (Qd hu ?_)))
  refine Qp rfl rfl ?_
  refine T.skip (Qe (tN ?_))
  refine Qr ?_
  refine sp rfl (Qa rfl rfl (dk rfl) rfl rfl ?_)
  refine mw rfl ?_
  refine TL'.nil (tN ?_)
  refine Qc ?_ (ih x2 w (wI (p + (1:Int))) x0 x1 j l m h)
  exact tq rfl rfl
  refine Qp rfl ab ?_
  refine T.exit (Qh (Qh (Qq (tN ?_))))
  refine T.seq (Qr ?_)
  refine aw rfl ?_
  refine TL'.nil (tN ?_)
  refine T.ret ?_
  exact Fin.done (.cons _ _ _ _ (.tmp 6 _ rfl) .nil) (by cases h; exact ⟨rfl, rfl⟩)
theorem I3 (K : Nat) {x0 : Q4} {x1 : aSt} {x2 : aMv} {r : Bool} (h : Uz K x0 x1 x2 = some r) : Zp tp 67 [.agg ((Qy.dc 256 .u8 x0.Auto.Split.Of) ++ (([.int .i64 x0.Auto.Split.Many, .sl false 2 (mA x0.Auto.Counts), .sl false 4 (x0.Auto.States.map Qx)] : List DC))), .agg [.sl false 1 (mI x1.L), .sl false 1 (mI x1.R), .sl false 1 (mI x1.Rule), .sl false 1 (x1.Next.map (cL 2 Qw))], .agg [.int .i64 x2.To, .sl false 1 (mU x2.Ops)]] [] (.bool r) := by
 refine Qs Try.func67 rfl (nb rfl) ?_
 show T tp 79 (ca [] Try.f67) ⟨Qv 0 [.agg ((Qy.dc 256 .u8 x0.Auto.Split.Of) ++ (([.int .i64 x0.Auto.Split.Many, .sl false 2 (mA x0.Auto.Counts), .sl false 4 (x0.Auto.States.map Qx)] : List DC))), .agg [.sl false 1 (mI x1.L), .sl false 1 (mI x1.R), .sl false 1 (mI x1.Rule), .sl false 1 (x1.Next.map (cL 2 Qw))], .agg [.int .i64 x2.To, .sl false 1 (mU x2.Ops)]], []⟩ (Vs r)
 unfold Uz at h
 refine T.seq (Qr ?_)
 refine sp rfl (Zb rfl (dk rfl) rfl (fun j => ?_))
 refine sp rfl (Zb rfl (dk rfl) rfl (fun m => ?_))
 refine sp rfl (Zb rfl (dk rfl) rfl (fun g => ?_))
 refine aw rfl ?_
 refine TL'.nil (tN ?_)
 refine T.seq ?_
 refine T.seq (Qr ?_)
 refine sp rfl (Ql rfl (dk rfl) Mf rfl i3 (by decide) rfl ?_)
 refine sp rfl (Qo (i := 0) rfl (dk rfl) ul3 rfl rfl rfl rfl ?_)
 refine sp rfl (Qa rfl rfl (dk rfl) rfl rfl ?_)
 refine TL'.nil (tN ?_)
 rcases Qb h with ⟨p, h⟩ | ⟨p, h⟩
 refine Qk rfl p ?_
 refine T.seq (Qr ?_)
 refine sp rfl (Ql rfl (dk rfl) Mf rfl i29 (by decide) rfl ?_)
 refine sp rfl (Qo (i := 0) rfl (dk rfl) Vj rfl rfl rfl rfl ?_)
 refine sp rfl (Qn (xs := x2.Ops) (f := (cI .u8)) rfl (dk rfl) Vj rfl ?_)
 refine sp rfl (Qa rfl rfl (dk rfl) rfl rfl ?_)
 refine aw rfl ?_
 refine TL'.nil (tN ?_)
 refine T.ret (Qj ?_)
 exact Fin.done (.cons _ _ _ _ (.tmp 6 _ rfl) .nil) (by cases h; exact ⟨rfl, rfl⟩)
 refine Qp rfl p ?_
 refine T.skip (tN ?_)
 refine T.seq ?_
 refine T.seq ?_
 refine Xl ?_
 refine dS (c := ⟨some 16, .ptr g (0 + 0), [(5, .ptr g 0)], [], []⟩) (fun t hm => oF rfl rfl (Ql rfl (dk rfl) Mf rfl i3 (by decide) hm.s0 rfl)) rfl rfl ?_
 refine dS (c := ⟨some 17, .int .i64 x2.To, [(16, .ptr g (0 + 0))], [(0, (W4 g x2.To x2.Ops))], []⟩) (fun t hm => oF rfl rfl (Qo (i := 0) rfl (dk rfl) ul3 rfl hm.s0 hm.o0 rfl rfl)) rfl rfl ?_
 refine dS (c := ⟨some 18, .bool (decide (x2.To < (1:Int))), [(17, .int .i64 x2.To)], [], []⟩) (fun t hm => oF rfl rfl (Qa rfl rfl (dk rfl) hm.s0 rfl rfl)) rfl rfl ?_
 refine Yg rfl rfl rfl rfl rfl rfl ?_
 rcases Qb h with ⟨l, h⟩ | ⟨l, h⟩
 refine dO l rfl rfl ?_
 refine dO l rfl rfl ?_
 refine dO l rfl rfl ?_
 refine dO l rfl rfl ?_
 refine dO l rfl rfl ?_
 refine dO l rfl rfl ?_
 refine dO l rfl rfl ?_
 refine dS (c := ⟨some 27, .bool true, [(19, .bool (decide (x2.To < (1:Int))))], [], []⟩) (fun t hm => oF rfl rfl (Qf rfl (dk rfl) hm.s0 l rfl rfl)) rfl rfl ?_
 refine Yg rfl rfl rfl rfl rfl rfl ?_
 refine dO rfl rfl rfl ?_
 refine dO rfl rfl rfl ?_
 refine dO rfl rfl rfl ?_
 refine dO rfl rfl rfl ?_
 refine dO rfl rfl rfl ?_
 refine dO rfl rfl rfl ?_
 refine dO rfl rfl rfl ?_
 refine dO rfl rfl rfl ?_
 refine dO rfl rfl rfl ?_
 refine dO rfl rfl rfl ?_
 refine dO rfl rfl rfl ?_
 refine dO rfl rfl rfl ?_
 refine dO rfl rfl rfl ?_
 refine dS (c := ⟨some 42, .bool true, [(28, .bool true)], [], []⟩) (fun t hm => oF rfl rfl (Qf rfl (dk rfl) hm.s0 rfl rfl rfl)) rfl rfl ?_
 refine Ys (s1 := ⟨[(3, .ptr j 0), (4, .ptr m 0), (5, .ptr g 0), (42, .bool true)], [(W4 g x2.To x2.Ops), (Zu m x1.L x1.R x1.Rule x1.Next), (Jg j x0.Auto.Split.Of x0.Auto.Split.Many x0.Auto.Counts x0.Auto.States)]⟩) (ms := [0, 1, 3, 7, 15, 31, 15, 79, 207, 463, 1023, 2047, 4095, 8191, 16383, 32767, 8191, 73727, 204799, 8191, 532479, 2039807, 4136959, 8331263, 16719871, 33554431, 67108863]) Q7 rfl (by kernel_rfl) (by kernel_rfl) (by kernel_rfl) (sf rfl) rfl (fun u hu => (tN (Qd hu ?_)))
 refine Qk rfl rfl ?_
 refine Qd ?_ (Jm K h)
 exact tq rfl rfl
 refine dS (c := ⟨some 20, .ptr g (0 + 0), [(5, .ptr g 0), (19, .bool (decide (x2.To < (1:Int))))], [], []⟩) (fun t hm => oN rfl rfl rfl hm.s1 l (Ql rfl (dk rfl) Mf rfl i3 (by decide) hm.s0 rfl)) rfl rfl ?_
 refine dS (c := ⟨some 21, .int .i64 x2.To, [(20, .ptr g (0 + 0)), (19, .bool (decide (x2.To < (1:Int))))], [(0, (W4 g x2.To x2.Ops))], []⟩) (fun t hm => oN rfl rfl rfl hm.s1 l (Qo (i := 0) rfl (dk rfl) ul3 rfl hm.s0 hm.o0 rfl rfl)) rfl rfl ?_
 refine dS (c := ⟨some 22, .ptr j (0 + 0), [(3, .ptr j 0), (19, .bool (decide (x2.To < (1:Int))))], [], []⟩) (fun t hm => oN rfl rfl rfl hm.s1 l (Ql rfl (dk rfl) ul91 rfl i28 (by decide) hm.s0 rfl)) rfl rfl ?_
 refine dS (c := ⟨some 23, .ptr j (0 + 0 + 258), [(22, .ptr j (0 + 0)), (19, .bool (decide (x2.To < (1:Int))))], [], []⟩) (fun t hm => oN rfl rfl rfl hm.s1 l (Ql rfl (dk rfl) Xu rfl i26 (by decide) hm.s0 rfl)) rfl rfl ?_
 refine dS (c := ⟨some 24, .sl false 4 (x0.Auto.States.map Qx), [(23, .ptr j (0 + 0 + 258)), (19, .bool (decide (x2.To < (1:Int))))], [(2, (Jg j x0.Auto.Split.Of x0.Auto.Split.Many x0.Auto.Counts x0.Auto.States))], []⟩) (fun t hm => oN rfl rfl rfl hm.s1 l (Qo (i := 2) rfl (dk rfl) Vx rfl hm.s0 hm.o0 rfl rfl)) rfl rfl ?_
 refine dS (c := ⟨some 25, .int .i64 (x0.Auto.States.length : Int), [(24, .sl false 4 (x0.Auto.States.map Qx)), (19, .bool (decide (x2.To < (1:Int))))], [], []⟩) (fun t hm => oN rfl rfl rfl hm.s1 l (Qn (xs := x0.Auto.States) (f := Qx) rfl (dk rfl) Vx hm.s0 rfl)) rfl rfl ?_
 refine dS (c := ⟨some 26, .bool (decide (x2.To ≥ (x0.Auto.States.length : Int))), [(21, .int .i64 x2.To), (25, .int .i64 (x0.Auto.States.length : Int)), (19, .bool (decide (x2.To < (1:Int))))], [], []⟩) (fun t hm => oN rfl rfl rfl hm.s2 l (Qa rfl rfl (dk rfl) hm.s0 hm.s1 rfl)) rfl rfl ?_
 refine dS (c := ⟨some 27, .bool (decide (x2.To ≥ (x0.Auto.States.length : Int))), [(19, .bool (decide (x2.To < (1:Int)))), (26, .bool (decide (x2.To ≥ (x0.Auto.States.length : Int))))], [], []⟩) (fun t hm => oF rfl rfl (Qm rfl (dk rfl) hm.s0 l hm.s1 rfl)) rfl rfl ?_
 refine Yg rfl rfl rfl rfl rfl rfl ?_
 rcases Qb h with ⟨a, h⟩ | ⟨a, h⟩
 refine dO a rfl rfl ?_
 refine dO a rfl rfl ?_
 refine dO a rfl rfl ?_
 refine dO a rfl rfl ?_
 refine dO a rfl rfl ?_
 refine dO a rfl rfl ?_
 refine dO a rfl rfl ?_
 refine dO a rfl rfl ?_
 refine dO a rfl rfl ?_
 refine dO a rfl rfl ?_
 refine dO a rfl rfl ?_
 refine dO a rfl rfl ?_
 refine dO a rfl rfl ?_
 refine dS (c := ⟨some 42, .bool true, [(28, .bool (decide (x2.To ≥ (x0.Auto.States.length : Int))))], [], []⟩) (fun t hm => oF rfl rfl (Qf rfl (dk rfl) hm.s0 a rfl rfl)) rfl rfl ?_
 refine Ys (s1 := ⟨[(3, .ptr j 0), (4, .ptr m 0), (5, .ptr g 0), (42, .bool true)], [(W4 g x2.To x2.Ops), (Zu m x1.L x1.R x1.Rule x1.Next), (Jg j x0.Auto.Split.Of x0.Auto.Split.Many x0.Auto.Counts x0.Auto.States)]⟩) (ms := [0, 1, 3, 7, 15, 31, 15, 79, 207, 463, 1023, 2047, 4095, 8191, 16383, 32767, 8191, 73727, 204799, 8191, 532479, 2039807, 4136959, 8331263, 16719871, 33554431, 67108863]) Q7 rfl (by kernel_rfl) (by kernel_rfl) (by kernel_rfl) (sf rfl) rfl (fun u hu => (tN (Qd hu ?_)))
 refine Qk rfl rfl ?_
 refine Qd ?_ (Jm K h)
 exact tq rfl rfl
 refine dS (c := ⟨some 29, .ptr g (0 + 1), [(5, .ptr g 0), (28, .bool (decide (x2.To ≥ (x0.Auto.States.length : Int))))], [], []⟩) (fun t hm => oN rfl rfl rfl hm.s1 a (Ql rfl (dk rfl) Mf rfl i29 (by decide) hm.s0 rfl)) rfl rfl ?_
 refine dS (c := ⟨some 30, .sl false 1 (mU x2.Ops), [(29, .ptr g (0 + 1)), (28, .bool (decide (x2.To ≥ (x0.Auto.States.length : Int))))], [(0, (W4 g x2.To x2.Ops))], []⟩) (fun t hm => oN rfl rfl rfl hm.s1 a (Qo (i := 0) rfl (dk rfl) Vj rfl hm.s0 hm.o0 rfl rfl)) rfl rfl ?_
 refine dS (c := ⟨some 31, .int .i64 (x2.Ops.length : Int), [(30, .sl false 1 (mU x2.Ops)), (28, .bool (decide (x2.To ≥ (x0.Auto.States.length : Int))))], [], []⟩) (fun t hm => oN rfl rfl rfl hm.s1 a (Qn (xs := x2.Ops) (f := (cI .u8)) rfl (dk rfl) Vj hm.s0 rfl)) rfl rfl ?_
 refine dS (c := ⟨some 32, .ptr j (0 + 0), [(3, .ptr j 0), (28, .bool (decide (x2.To ≥ (x0.Auto.States.length : Int))))], [], []⟩) (fun t hm => oN rfl rfl rfl hm.s1 a (Ql rfl (dk rfl) ul91 rfl i28 (by decide) hm.s0 rfl)) rfl rfl ?_
 refine dS (c := ⟨some 33, .ptr j (0 + 0 + 258), [(32, .ptr j (0 + 0)), (28, .bool (decide (x2.To ≥ (x0.Auto.States.length : Int))))], [], []⟩) (fun t hm => oN rfl rfl rfl hm.s1 a (Ql rfl (dk rfl) Xu rfl i26 (by decide) hm.s0 rfl)) rfl rfl ?_
 refine dS (c := ⟨some 34, .sl false 4 (x0.Auto.States.map Qx), [(33, .ptr j (0 + 0 + 258)), (28, .bool (decide (x2.To ≥ (x0.Auto.States.length : Int))))], [(2, (Jg j x0.Auto.Split.Of x0.Auto.Split.Many x0.Auto.Counts x0.Auto.States))], []⟩) (fun t hm => oN rfl rfl rfl hm.s1 a (Qo (i := 2) rfl (dk rfl) Vx rfl hm.s0 hm.o0 rfl rfl)) rfl rfl ?_
 refine dS (c := ⟨some 35, .ptr g (0 + 0), [(5, .ptr g 0), (28, .bool (decide (x2.To ≥ (x0.Auto.States.length : Int))))], [], []⟩) (fun t hm => oN rfl rfl rfl hm.s1 a (Ql rfl (dk rfl) Mf rfl i3 (by decide) hm.s0 rfl)) rfl rfl ?_
 refine dS (c := ⟨some 36, .int .i64 x2.To, [(35, .ptr g (0 + 0)), (28, .bool (decide (x2.To ≥ (x0.Auto.States.length : Int))))], [(0, (W4 g x2.To x2.Ops))], []⟩) (fun t hm => oN rfl rfl rfl hm.s1 a (Qo (i := 0) rfl (dk rfl) ul3 rfl hm.s0 hm.o0 rfl rfl)) rfl rfl ?_
 obtain ⟨b, w, h⟩ := bind_some h
 refine dS (c := ⟨some 37, .ref [.sl false 1 (mI b.L), .sl false 1 (mI b.R), .sl false 1 (mI b.Rule), .sl false 1 (b.Next.map (cL 2 Qw))], [(34, .sl false 4 (x0.Auto.States.map Qx)), (36, .int .i64 x2.To), (28, .bool (decide (x2.To ≥ (x0.Auto.States.length : Int))))], [], []⟩) (fun t hm => oN rfl rfl rfl hm.s2 a (Qi (xs := x0.Auto.States) (f := Qx) (v := b) rfl (dk rfl) Vx i59 hm.s0 hm.s1 w rfl)) rfl rfl ?_
 refine dS (c := ⟨some 38, .ref [.sl false 1 (mI b.R), .sl false 1 (mI b.Rule), .sl false 1 (b.Next.map (cL 2 Qw))], [(37, .ref [.sl false 1 (mI b.L), .sl false 1 (mI b.R), .sl false 1 (mI b.Rule), .sl false 1 (b.Next.map (cL 2 Qw))]), (28, .bool (decide (x2.To ≥ (x0.Auto.States.length : Int))))], [], []⟩) (fun t hm => oN rfl rfl rfl hm.s1 a (Yr rfl (dk rfl) Uh rfl i56 (by decide) hm.s0 rfl)) rfl rfl ?_
 refine dS (c := ⟨some 39, .sl false 1 (mI b.R), [(38, .ref [.sl false 1 (mI b.R), .sl false 1 (mI b.Rule), .sl false 1 (b.Next.map (cL 2 Qw))]), (28, .bool (decide (x2.To ≥ (x0.Auto.States.length : Int))))], [], []⟩) (fun t hm => oN rfl rfl rfl hm.s1 a (Qu rfl (dk rfl) Yo rfl hm.s0 rfl rfl)) rfl rfl ?_
 refine dS (c := ⟨some 40, .int .i64 (b.R.length : Int), [(39, .sl false 1 (mI b.R)), (28, .bool (decide (x2.To ≥ (x0.Auto.States.length : Int))))], [], []⟩) (fun t hm => oN rfl rfl rfl hm.s1 a (Qn (xs := b.R) (f := (cI .i64)) rfl (dk rfl) Yo hm.s0 rfl)) rfl rfl ?_
 refine dS (c := ⟨some 41, .bool ((x2.Ops.length : Int) != (b.R.length : Int)), [(31, .int .i64 (x2.Ops.length : Int)), (40, .int .i64 (b.R.length : Int)), (28, .bool (decide (x2.To ≥ (x0.Auto.States.length : Int))))], [], []⟩) (fun t hm => oN rfl rfl rfl hm.s2 a (Qa rfl rfl (dk rfl) hm.s0 hm.s1 rfl)) rfl rfl ?_
 refine dS (c := ⟨some 42, .bool ((x2.Ops.length : Int) != (b.R.length : Int)), [(28, .bool (decide (x2.To ≥ (x0.Auto.States.length : Int)))), (41, .bool ((x2.Ops.length : Int) != (b.R.length : Int)))], [], []⟩) (fun t hm => oF rfl rfl (Qm rfl (dk rfl) hm.s0 a hm.s1 rfl)) rfl rfl ?_
 refine Ys (s1 := ⟨[(3, .ptr j 0), (4, .ptr m 0), (5, .ptr g 0), (42, .bool ((x2.Ops.length : Int) != (b.R.length : Int)))], [(W4 g x2.To x2.Ops), (Zu m x1.L x1.R x1.Rule x1.Next), (Jg j x0.Auto.Split.Of x0.Auto.Split.Many x0.Auto.Counts x0.Auto.States)]⟩) (ms := [0, 1, 3, 7, 15, 31, 15, 79, 207, 463, 1023, 2047, 4095, 8191, 16383, 32767, 8191, 73727, 204799, 8191, 532479, 2039807, 4136959, 8331263, 16719871, 33554431, 67108863]) Q7 rfl (by kernel_rfl) (by kernel_rfl) (by kernel_rfl) (sf rfl) rfl (fun u hu => (tN (Qd hu ?_)))
 rcases Qb h with ⟨q, h⟩ | ⟨q, h⟩
 refine Qk rfl q ?_
 refine Qd ?_ (Jm K h)
 exact tq rfl rfl
 refine Qp rfl q ?_
 refine T.skip (tN ?_)
 refine T.seq ?_
 refine T.seq (Qr ?_)
 refine sp rfl (Ql rfl (dk rfl) Mf rfl i29 (by decide) rfl ?_)
 refine sp rfl (Qo (i := 0) rfl (dk rfl) Vj rfl rfl rfl rfl ?_)
 refine sp rfl (Qn (xs := x2.Ops) (f := (cI .u8)) rfl (dk rfl) Vj rfl ?_)
 refine mw rfl ?_
 refine TL'.nil (tN ?_)
 refine T.block ?_
 refine T.loop ?_
 refine Qc ?_ (D4 K K x2 (x2.Ops.length : Int) (0:Int) x0 x1 j m g h)
 exact tr rfl (.c (.s (.s .z)) (.c (.s .z) (.c .z (.n _))))
abbrev D2 (bx1 bx2 : Nat) (x1 : Q4) (x2 : aSt) (r : Bool) : ES := Jt tp Try.f66 (fun y t => ∃ γ : Nat → Value, y = (.bool r) ∧ t = [(Jg bx1 x1.Auto.Split.Of x1.Auto.Split.Many x1.Auto.Counts x1.Auto.States), (Zu bx2 x2.L x2.R x2.Rule x2.Next)])
theorem D3 (K : Nat) {x0 : aMv} {x1 : Q4} {x2 : aSt} {bx1 bx2 : Nat} {r : Bool} (h : Un K x0 x1 x2 = some r) : J2 tp 66 [.agg [.int .i64 x0.To, .sl false 1 (mU x0.Ops)], .ptr bx1 0, .ptr bx2 0] [(Jg bx1 x1.Auto.Split.Of x1.Auto.Split.Many x1.Auto.Counts x1.Auto.States), (Zu bx2 x2.L x2.R x2.Rule x2.Next)] (fun γ => (.bool r)) (fun γ => [(Jg bx1 x1.Auto.Split.Of x1.Auto.Split.Many x1.Auto.Counts x1.Auto.States), (Zu bx2 x2.L x2.R x2.Rule x2.Next)]) := by
 refine Qs Try.func66 rfl (nb rfl) ?_
 show T tp 10 (ca [] Try.f66) ⟨Qv 0 [.agg [.int .i64 x0.To, .sl false 1 (mU x0.Ops)], .ptr bx1 0, .ptr bx2 0], [(Jg bx1 x1.Auto.Split.Of x1.Auto.Split.Many x1.Auto.Counts x1.Auto.States), (Zu bx2 x2.L x2.R x2.Rule x2.Next)]⟩ (D2 bx1 bx2 x1 x2 r)
 unfold Un at h
 refine T.seq (Qr ?_)
 refine sp rfl (Zb rfl (dk rfl) rfl (fun b => ?_))
 refine aw rfl ?_
 refine TL'.nil (tN (T.seq (Qr ?_)))
 refine sp rfl (Zc (i := 1) (l := ((Qy.dc 256 .u8 x1.Auto.Split.Of) ++ (([.int .i64 x1.Auto.Split.Many, .sl false 2 (mA x1.Auto.Counts), .sl false 4 (x1.Auto.States.map Qx)] : List DC)))) rfl (dk rfl) ul91 rfl i91 rfl rfl rfl rfl ?_)
 refine sp rfl (Zc (i := 2) (l := [.sl false 1 (mI x2.L), .sl false 1 (mI x2.R), .sl false 1 (mI x2.Rule), .sl false 1 (x2.Next.map (cL 2 Qw))]) rfl (dk rfl) Uh rfl i59 rfl rfl rfl rfl ?_)
 refine sp rfl (Zc (i := 0) (l := [.int .i64 x0.To, .sl false 1 (mU x0.Ops)]) rfl (dk rfl) Mf rfl i63 rfl rfl rfl rfl ?_)
 obtain ⟨c, a, h⟩ := bind_some h
 refine sp rfl (Q2 rfl (dk rfl) Try.func67 rfl rfl (Q5.cons rfl (Q5.cons rfl (Q5.cons rfl Q5.nil))) (Zp.nil (I3 K a)) ?_)
 refine sp rfl (OpT.not rfl (dk rfl) rfl ?_)
 refine aw rfl ?_
 refine TL'.nil (tN ?_)
 refine T.ret ?_
 exact Q8 (.cons _ _ _ _ (.tmp 4 _ rfl) .nil) (.cons 1 rfl (.cons 1 rfl (.nil _))) (by cases h; exact ⟨gl [], rfl, rfl⟩)
abbrev U3 (bx1c0 bx1c1 : Nat) (x1c0 : Q4) (x1c1 : aSt) (r : Int) : ES := Jt tp Try.f85 (fun y t => ∃ γ : Nat → Value, y = (.int .i64 r) ∧ t = [(Jg bx1c0 x1c0.Auto.Split.Of x1c0.Auto.Split.Many x1c0.Auto.Counts x1c0.Auto.States), (Zu bx1c1 x1c1.L x1c1.R x1c1.Rule x1c1.Next)])
abbrev Mh (bx1c0 bx1c1 : Nat) (x1c0 : Q4) (x1c1 : aSt) (r : Int) : ES := thenS (fun s' => T tp 19 (ca [1,1] Try.f85) s' ((U3 bx1c0 bx1c1 x1c0 x1c1 r))) ((U3 bx1c0 bx1c1 x1c0 x1c1 r))
abbrev Kd (bx1c0 bx1c1 : Nat) (x1c0 : Q4) (x1c1 : aSt) (r : Int) : ES := Q0 0 ((Mh bx1c0 bx1c1 x1c0 x1c1 r))
theorem Mi {r : Int} (K bx1c0 bx1c1 : Nat) (x1c0 : Q4) (x1c1 : aSt) : ∀ (k : Nat), ∀ (x0 : List aMv) (a b : Int) (x1c0 : Q4) (x1c1 : aSt) (flx0 : Bool), Z0 K k x0 a b x1c0 x1c1 = some r → TL tp 19 (ca [1,0,1,0,0] Try.f85) ⟨[(0, .sl flx0 2 (x0.map Qw)), (1, .c (.ex (.func (.func 66) #[] #[.pointer (some ⟨bx1c0, 0, none⟩), .pointer (some ⟨bx1c1, 0, none⟩)]))), (7, .int .i64 a), (8, .int .i64 b)], [(Jg bx1c0 x1c0.Auto.Split.Of x1c0.Auto.Split.Many x1c0.Auto.Counts x1c0.Auto.States), (Zu bx1c1 x1c1.L x1c1.R x1c1.Rule x1c1.Next)]⟩ (Kd bx1c0 bx1c1 x1c0 x1c1 r) := by
 intro k
 induction k with
 | zero =>
  intro x0 a b x1c0 x1c1 flx0 h
  cases (show (none : Option Int) = some r from h)
 | succ k ih =>
  intro x0 a b x1c0 x1c1 flx0 h
  rw [Z0] at h
  refine Za ?_
  refine T.seq (Qr ?_)
  refine sp rfl (Qa rfl rfl (dk rfl) rfl rfl ?_)
  refine TL'.nil (tN ?_)
  refine T.seq ?_
  rcases Qb h with ⟨g, h⟩ | ⟨g, h⟩
  refine Qk rfl g ?_
  refine T.skip (tN ?_)
  refine T.seq ?_
  refine T.block ?_
  refine T.seq (Qr ?_)
  refine mw rfl ?_
  refine aw rfl ?_
  refine TL'.nil (tN (T.seq (Qr ?_)))
  iterate 3 refine mw rfl ?_
  obtain ⟨j, l, h⟩ := bind_some h
  refine sp rfl (Qi (xs := x0) (f := Qw) (v := j) rfl (dk rfl) I8 i63 rfl rfl l ?_)
  refine sp rfl (Zg rfl (dk rfl) Mf rfl i63 rfl (nb rfl) ?_)
  obtain ⟨p, m, h⟩ := bind_some h
  refine sp rfl (C7 (f := 66) (vs := [.pointer (some ⟨bx1c0, 0, none⟩), .pointer (some ⟨bx1c1, 0, none⟩)]) rfl rfl (dk rfl) Try.func66 rfl rfl (Q6 (is := [0, 1]) (ph := []) rfl (dk rfl) Try.func66 rfl rfl (Q5.cons rfl (Q5.cons rfl (Q5.cons rfl Q5.nil))) (D3 K (bx1 := bx1c0) (bx2 := bx1c1) m) (.cons rfl rfl (.cons rfl rfl (.nil))) (fun _ => rfl) (fun q => ?_)))
  refine nm (.c (.c (.n))) ?_
  refine TL'.nil (tN ?_)
  rcases Qb h with ⟨i, h⟩ | ⟨i, h⟩
  refine Qk rfl i ?_
  refine T.seq (Qr ?_)
  refine mw rfl ?_
  refine aw rfl ?_
  refine TL'.nil (tN ?_)
  refine T.ret (Qt (Qj (Qj (Qt (Qj ?_)))))
  exact Q8 (.cons _ _ _ _ (.tmp 4 _ rfl) .nil) (.cons 0 rfl (.cons 0 rfl (.nil _))) (by cases h; exact ⟨gl [], rfl, rfl⟩)
  refine Qp rfl i ?_
  refine T.skip (Qe (tN ?_))
  refine Qr ?_
  refine sp rfl (Qa rfl rfl (dk rfl) rfl rfl ?_)
  refine mw rfl ?_
  refine TL'.nil (tN ?_)
  refine Qc ?_ (ih x0 a (wI (b + (1:Int))) x1c0 x1c1 flx0 h)
  exact tq rfl rfl
  refine Qp rfl g ?_
  refine T.exit (Qh (Qh (Qq (tN ?_))))
  refine T.seq (Qr ?_)
  refine aw rfl ?_
  refine TL'.nil (tN ?_)
  refine T.ret ?_
  exact Q8 (.cons _ _ _ _ (.tmp 4 _ rfl) .nil) (.cons 0 rfl (.cons 0 rfl (.nil _))) (by cases h; exact ⟨gl [], rfl, rfl⟩)
theorem Cj (K : Nat) {x0 : List aMv} {x1c0 : Q4} {x1c1 : aSt} {flx0 : Bool} {bx1c0 bx1c1 : Nat} {r : Int} (h : V2 K x0 x1c0 x1c1 = some r) : J2 tp 85 [.sl flx0 2 (x0.map Qw), .c (.ex (.func (.func 66) #[] #[.pointer (some ⟨bx1c0, 0, none⟩), .pointer (some ⟨bx1c1, 0, none⟩)]))] [(Jg bx1c0 x1c0.Auto.Split.Of x1c0.Auto.Split.Many x1c0.Auto.Counts x1c0.Auto.States), (Zu bx1c1 x1c1.L x1c1.R x1c1.Rule x1c1.Next)] (fun γ => (.int .i64 r)) (fun γ => [(Jg bx1c0 x1c0.Auto.Split.Of x1c0.Auto.Split.Many x1c0.Auto.Counts x1c0.Auto.States), (Zu bx1c1 x1c1.L x1c1.R x1c1.Rule x1c1.Next)]) := by
 refine Qs Try.func85 rfl (nb rfl) ?_
 show T tp 19 (ca [] Try.f85) ⟨Qv 0 [.sl flx0 2 (x0.map Qw), .c (.ex (.func (.func 66) #[] #[.pointer (some ⟨bx1c0, 0, none⟩), .pointer (some ⟨bx1c1, 0, none⟩)]))], [(Jg bx1c0 x1c0.Auto.Split.Of x1c0.Auto.Split.Many x1c0.Auto.Counts x1c0.Auto.States), (Zu bx1c1 x1c1.L x1c1.R x1c1.Rule x1c1.Next)]⟩ (U3 bx1c0 bx1c1 x1c0 x1c1 r)
 unfold V2 at h
 refine T.seq (Qr ?_)
 refine aw rfl ?_
 refine TL'.nil (tN ?_)
 refine T.seq ?_
 refine T.seq (Qr ?_)
 refine mw rfl ?_
 refine sp rfl (Qn (xs := x0) (f := Qw) rfl (dk rfl) I8 rfl ?_)
 refine mw rfl ?_
 refine TL'.nil (tN ?_)
 refine T.block ?_
 refine T.loop ?_
 refine Qc ?_ (Mi K bx1c0 bx1c1 x1c0 x1c1 K x0 (x0.length : Int) (0:Int) x1c0 x1c1 flx0 h)
 exact tq rfl rfl
abbrev Mj (bx1c0 bx1c1 : Nat) (x1c0 : Q4) (x1c1 : aSt) (r : Bool) : ES := Jt tp Try.f65 (fun y t => ∃ γ : Nat → Value, y = (.bool r) ∧ t = [(Jg bx1c0 x1c0.Auto.Split.Of x1c0.Auto.Split.Many x1c0.Auto.Counts x1c0.Auto.States), (Zu bx1c1 x1c1.L x1c1.R x1c1.Rule x1c1.Next)])
theorem Mk (K : Nat) {x0 : List aMv} {x1c0 : Q4} {x1c1 : aSt} {flx0 : Bool} {bx1c0 bx1c1 : Nat} {r : Bool} (h : Y4 K x0 x1c0 x1c1 = some r) : J2 tp 65 [.sl flx0 2 (x0.map Qw), .c (.ex (.func (.func 66) #[] #[.pointer (some ⟨bx1c0, 0, none⟩), .pointer (some ⟨bx1c1, 0, none⟩)]))] [(Jg bx1c0 x1c0.Auto.Split.Of x1c0.Auto.Split.Many x1c0.Auto.Counts x1c0.Auto.States), (Zu bx1c1 x1c1.L x1c1.R x1c1.Rule x1c1.Next)] (fun γ => (.bool r)) (fun γ => [(Jg bx1c0 x1c0.Auto.Split.Of x1c0.Auto.Split.Many x1c0.Auto.Counts x1c0.Auto.States), (Zu bx1c1 x1c1.L x1c1.R x1c1.Rule x1c1.Next)]) := by
 refine Qs Try.func65 rfl (nb rfl) ?_
 show T tp 9 (ca [] Try.f65) ⟨Qv 0 [.sl flx0 2 (x0.map Qw), .c (.ex (.func (.func 66) #[] #[.pointer (some ⟨bx1c0, 0, none⟩), .pointer (some ⟨bx1c1, 0, none⟩)]))], [(Jg bx1c0 x1c0.Auto.Split.Of x1c0.Auto.Split.Many x1c0.Auto.Counts x1c0.Auto.States), (Zu bx1c1 x1c1.L x1c1.R x1c1.Rule x1c1.Next)]⟩ (Mj bx1c0 bx1c1 x1c0 x1c1 r)
 unfold Y4 at h
 refine T.seq (Qr ?_)
 refine aw rfl ?_
 refine TL'.nil (tN (T.seq (Qr ?_)))
 refine mw rfl ?_
 refine mw rfl ?_
 obtain ⟨b, a, h⟩ := bind_some h
 refine sp rfl (Q6 (is := [0, 1]) (ph := []) rfl (dk rfl) Try.func85 rfl rfl (Q5.cons rfl (Q5.cons rfl Q5.nil)) (Cj K (flx0 := flx0) (bx1c0 := bx1c0) (bx1c1 := bx1c1) a) (.cons rfl rfl (.cons rfl rfl (.nil))) (fun _ => rfl) (fun f => ?_))
 refine nm (.c (.c (.n))) ?_
 refine sp rfl (Qa rfl rfl (dk rfl) rfl rfl ?_)
 refine aw rfl ?_
 refine TL'.nil (tN ?_)
 refine T.ret ?_
 exact Q8 (.cons _ _ _ _ (.tmp 4 _ rfl) .nil) (.cons 0 rfl (.cons 0 rfl (.nil _))) (by cases h; exact ⟨gl [], rfl, rfl⟩)
abbrev X8 (r : Bool) : ES := Jt tp Try.f46 (fun y t => y = (.bool r) ∧ t = [])
abbrev B8 (r : Bool) : ES := thenS (fun s' => T tp 79 (ca [1,1,1] Try.f46) s' ((X8 r))) ((X8 r))
abbrev Bj (r : Bool) : ES := thenS (fun s' => T tp 79 (ca [1,1,1,1] Try.f46) s' ((X8 r))) ((X8 r))
abbrev Vr (r : Bool) : ES := Q0 0 ((Bj r))
abbrev Jz (r : Bool) : ES := thenS (fun s' => TL tp 79 (ca [1,1,1,0,1,0,0] Try.f46) s' ((Vr r))) ((Vr r))
abbrev G1 (r : Bool) : ES := thenS (fun s' => T tp 79 (ca [1,1,1,0,1,0,0,1,1,1] Try.f46) s' ((Jz r))) ((Jz r))
abbrev Vq (r : Bool) : ES := Q0 1 ((G1 r))
abbrev Hm (r : Bool) : ES := thenS (fun s' => T tp 79 (ca [1,1,1,0,1,0,0,1,1,0,0,1,1] Try.f46) s' ((Vq r))) ((Vq r))
theorem Xd {r : Bool} (K : Nat) (h : Zk K = some r) : T tp 79 (ca [1,1,0,1,0] Try.f46) ⟨[], []⟩ (B8 r) := by
 unfold Zk at h
 refine T.seq (Qr ?_)
 refine aw rfl ?_
 refine TL'.nil (tN ?_)
 refine T.ret (Qj ?_)
 exact Fin.done (.cons _ _ _ _ (.tmp 4 _ rfl) .nil) (by cases h; exact ⟨rfl, rfl⟩)
theorem U7 {r : Bool} (K : Nat) (h : Z2 K = some r) : T tp 79 (ca [1,1,1,0,1,0,0,1,1,0,0,1,0,1,0] Try.f46) ⟨[], []⟩ (Hm r) := by
 unfold Z2 at h
 refine T.seq (Qr ?_)
 refine aw rfl ?_
 refine TL'.nil (tN ?_)
 refine T.ret (Qj (Qt (Qj (Qj (Qt (Qj ?_))))))
 exact Fin.done (.cons _ _ _ _ (.tmp 4 _ rfl) .nil) (by cases h; exact ⟨rfl, rfl⟩)
theorem C2 {r : Bool} (K : Nat) : ∀ (k : Nat), ∀ (x1 : aSt) (l m : Int) (x0 : Q4) (g j : Nat), Ym K k x1 l m x0 = some r → TL tp 79 (ca [1,1,1,0,1,0,0] Try.f46) ⟨[(2, .ptr g 0), (3, .ptr j 0), (45, .sl false 1 (x1.Next.map (cL 2 Qw))), (46, .int .i64 l), (47, .int .i64 m)], [(Jg g x0.Auto.Split.Of x0.Auto.Split.Many x0.Auto.Counts x0.Auto.States), (Zu j x1.L x1.R x1.Rule x1.Next)]⟩ (Vr r) := by
 intro k
 induction k with
 | zero =>
  intro x1 l m x0 g j h
  cases (show (none : Option Bool) = some r from h)
 | succ k ih =>
  intro x1 l m x0 g j h
  rw [Ym] at h
  refine Za ?_
  refine T.seq (Qr ?_)
  refine sp rfl (Qa rfl rfl (dk rfl) rfl rfl ?_)
  refine TL'.nil (tN ?_)
  refine T.seq ?_
  rcases Qb h with ⟨p, h⟩ | ⟨p, h⟩
  refine Qk rfl p ?_
  refine T.skip (tN ?_)
  refine T.seq ?_
  refine T.block ?_
  refine T.seq (Qr ?_)
  refine mw rfl ?_
  obtain ⟨u, aa, h⟩ := bind_some h
  refine sp rfl (Qi (xs := x1.Next) (f := (cL 2 Qw)) (v := u) rfl (dk rfl) Dh i61 rfl rfl aa ?_)
  refine sp rfl (Qu rfl (dk rfl) I8 rfl rfl rfl ?_)
  refine aw rfl ?_
  refine aw rfl ?_
  refine TL'.nil (tN ?_)
  refine T.seq ?_
  refine T.seq (Qr ?_)
  refine sp rfl (Ql rfl (dk rfl) Uh rfl i56 (by decide) rfl ?_)
  refine sp rfl (Qo (i := 1) rfl (dk rfl) Yo rfl rfl rfl rfl ?_)
  refine mw rfl ?_
  obtain ⟨w, y, h⟩ := bind_some h
  refine sp rfl (Qi (xs := x1.Rule) (f := (cI .i64)) (v := w) rfl (dk rfl) Yo i3 rfl rfl y ?_)
  refine sp rfl (Qu rfl (dk rfl) ul3 rfl rfl rfl ?_)
  refine sp rfl (Qa rfl rfl (dk rfl) rfl rfl ?_)
  refine mw rfl ?_
  rcases Qb h with ⟨b, h⟩ | ⟨b, h⟩
  refine pf rfl b ?_
  refine pf rfl b ?_
  refine pf rfl b ?_
  refine pf rfl b ?_
  refine pf rfl b ?_
  refine pf rfl b ?_
  refine sp rfl (Qf rfl (dk rfl) rfl b rfl ?_)
  refine mw rfl ?_
  refine pf rfl rfl ?_
  refine pf rfl rfl ?_
  refine pf rfl rfl ?_
  refine pf rfl rfl ?_
  refine pf rfl rfl ?_
  refine pf rfl rfl ?_
  refine pf rfl rfl ?_
  refine sp rfl (Qf rfl (dk rfl) rfl rfl rfl ?_)
  refine TL'.nil (tN ?_)
  refine Qk rfl rfl ?_
  refine Qd ?_ (U7 K h)
  exact tq rfl rfl
  refine sn rfl b (Ql rfl (dk rfl) Uh rfl i56 (by decide) rfl ?_)
  refine sn rfl b (Qo (i := 1) rfl (dk rfl) Yo rfl rfl rfl rfl ?_)
  refine sn rfl b (OpT.move rfl (dk rfl) rfl ?_)
  refine sn rfl b (Qi (xs := x1.Rule) (f := (cI .i64)) (v := w) rfl (dk rfl) Yo i3 rfl rfl y ?_)
  refine sn rfl b (Qu rfl (dk rfl) ul3 rfl rfl rfl ?_)
  refine sn rfl b (Qa rfl rfl (dk rfl) rfl rfl ?_)
  refine sp rfl (Qm rfl (dk rfl) rfl b rfl ?_)
  refine mw rfl ?_
  rcases Qb h with ⟨a, h⟩ | ⟨a, h⟩
  refine pf rfl a ?_
  refine pf rfl a ?_
  refine pf rfl a ?_
  refine pf rfl a ?_
  refine pf rfl a ?_
  refine pf rfl a ?_
  refine pf rfl a ?_
  refine sp rfl (Qf rfl (dk rfl) rfl a rfl ?_)
  refine TL'.nil (tN ?_)
  refine Qk rfl rfl ?_
  refine Qd ?_ (U7 K h)
  exact tq rfl rfl
  refine sn rfl a (OpT.move rfl (dk rfl) rfl ?_)
  refine sn rfl a (Qn (xs := u) (f := Qw) rfl (dk rfl) I8 rfl ?_)
  refine sn rfl a (Ql rfl (dk rfl) ul91 rfl i28 (by decide) rfl ?_)
  refine sn rfl a (Ql rfl (dk rfl) Xu rfl i24 (by decide) rfl ?_)
  refine sn rfl a (Ql rfl (dk rfl) F7 rfl i3 (by decide) rfl ?_)
  refine sn rfl a (Qo (i := 0) rfl (dk rfl) ul3 rfl rfl rfl rfl ?_)
  refine sn rfl a (Qa rfl rfl (dk rfl) rfl rfl ?_)
  refine sp rfl (Qm rfl (dk rfl) rfl a rfl ?_)
  refine TL'.nil (tN ?_)
  rcases Qb h with ⟨q, h⟩ | ⟨q, h⟩
  refine Qk rfl q ?_
  refine Qd ?_ (U7 K h)
  exact tq rfl rfl
  refine Qp rfl q ?_
  refine T.skip (tN ?_)
  refine T.seq (Qr ?_)
  refine mw rfl ?_
  refine sp rfl (OpT.makeFunc (vs := [.pointer (some ⟨g, 0, none⟩), .pointer (some ⟨j, 0, none⟩)]) rfl (dk rfl) rfl ?_)
  obtain ⟨ac, ab, h⟩ := bind_some h
  refine sp rfl (Q6 (is := [0, 1]) (ph := []) rfl (dk rfl) Try.func65 rfl rfl (Q5.cons rfl (Q5.cons rfl Q5.nil)) (Mk K (flx0 := false) (bx1c0 := g) (bx1c1 := j) ab) (.cons rfl rfl (.cons rfl rfl (.nil))) (fun _ => rfl) (fun ad => ?_))
  refine nm (.c (.c (.n))) ?_
  refine TL'.nil (tN ?_)
  rcases Qb h with ⟨s, h⟩ | ⟨s, h⟩
  refine Qk rfl s ?_
  refine T.seq (Qr ?_)
  refine aw rfl ?_
  refine TL'.nil (tN ?_)
  refine T.ret (Qt (Qj (Qj (Qt (Qj ?_)))))
  exact Fin.done (.cons _ _ _ _ (.tmp 4 _ rfl) .nil) (by cases h; exact ⟨rfl, rfl⟩)
  refine Qp rfl s ?_
  refine T.skip (Qe (tN ?_))
  refine Qr ?_
  refine sp rfl (Qa rfl rfl (dk rfl) rfl rfl ?_)
  refine mw rfl ?_
  refine TL'.nil (tN ?_)
  refine Qc ?_ (ih x1 l (wI (m + (1:Int))) x0 g j h)
  exact tq rfl rfl
  refine Qp rfl p ?_
  refine T.exit (Qh (Qh (Qq (tN ?_))))
  refine T.seq (Qr ?_)
  refine aw rfl ?_
  refine TL'.nil (tN ?_)
  refine T.ret ?_
  exact Fin.done (.cons _ _ _ _ (.tmp 4 _ rfl) .nil) (by cases h; exact ⟨rfl, rfl⟩)
theorem Fw (K : Nat) {x0 : Q4} {x1 : aSt} {r : Bool} (h : Ua K x0 x1 = some r) : Zp tp 46 [.agg ((Qy.dc 256 .u8 x0.Auto.Split.Of) ++ (([.int .i64 x0.Auto.Split.Many, .sl false 2 (mA x0.Auto.Counts), .sl false 4 (x0.Auto.States.map Qx)] : List DC))), .agg [.sl false 1 (mI x1.L), .sl false 1 (mI x1.R), .sl false 1 (mI x1.Rule), .sl false 1 (x1.Next.map (cL 2 Qw))]] [] (.bool r) := by
 refine Qs Try.func46 rfl (nb rfl) ?_
 show T tp 79 (ca [] Try.f46) ⟨Qv 0 [.agg ((Qy.dc 256 .u8 x0.Auto.Split.Of) ++ (([.int .i64 x0.Auto.Split.Many, .sl false 2 (mA x0.Auto.Counts), .sl false 4 (x0.Auto.States.map Qx)] : List DC))), .agg [.sl false 1 (mI x1.L), .sl false 1 (mI x1.R), .sl false 1 (mI x1.Rule), .sl false 1 (x1.Next.map (cL 2 Qw))]], []⟩ (X8 r)
 unfold Ua at h
 refine T.seq (Qr ?_)
 refine sp rfl (Zb rfl (dk rfl) rfl (fun l => ?_))
 refine sp rfl (Zb rfl (dk rfl) rfl (fun m => ?_))
 refine aw rfl ?_
 refine TL'.nil (tN (T.seq (Qr ?_)))
 refine sp rfl (Ql rfl (dk rfl) Uh rfl i56 (by decide) rfl ?_)
 refine sp rfl (Qo (i := 0) rfl (dk rfl) Yo rfl rfl rfl rfl ?_)
 refine sp rfl (Qn (xs := x1.R) (f := (cI .i64)) rfl (dk rfl) Yo rfl ?_)
 obtain ⟨v, p, h⟩ := bind_some h
 refine sp rfl (Q2 rfl (dk rfl) Try.func36 rfl rfl (Q5.cons rfl Q5.nil) (Zp.nil (Pi K p)) ?_)
 refine aw rfl ?_
 refine TL'.nil (tN ?_)
 refine T.seq ?_
 refine T.seq (Qr ?_)
 refine mw rfl ?_
 refine sp rfl (Qa rfl rfl (dk rfl) rfl rfl ?_)
 refine mw rfl ?_
 rcases Qb h with ⟨b, h⟩ | ⟨b, h⟩
 refine pf rfl b ?_
 refine pf rfl b ?_
 refine pf rfl b ?_
 refine pf rfl b ?_
 refine pf rfl b ?_
 refine sp rfl (Qf rfl (dk rfl) rfl b rfl ?_)
 refine mw rfl ?_
 refine pf rfl rfl ?_
 refine pf rfl rfl ?_
 refine pf rfl rfl ?_
 refine pf rfl rfl ?_
 refine pf rfl rfl ?_
 refine sp rfl (Qf rfl (dk rfl) rfl rfl rfl ?_)
 refine mw rfl ?_
 refine pf rfl rfl ?_
 refine pf rfl rfl ?_
 refine pf rfl rfl ?_
 refine pf rfl rfl ?_
 refine sp rfl (Qf rfl (dk rfl) rfl rfl rfl ?_)
 refine mw rfl ?_
 refine pf rfl rfl ?_
 refine pf rfl rfl ?_
 refine pf rfl rfl ?_
 refine pf rfl rfl ?_
 refine pf rfl rfl ?_
 refine pf rfl rfl ?_
 refine pf rfl rfl ?_
 refine pf rfl rfl ?_
 refine sp rfl (Qf rfl (dk rfl) rfl rfl rfl ?_)
 refine TL'.nil (tN ?_)
 refine Qk rfl rfl ?_
 refine Qd ?_ (Xd K h)
 exact tq rfl rfl
 refine sn rfl b (Ql rfl (dk rfl) Uh rfl i56 (by decide) rfl ?_)
 refine sn rfl b (Qo (i := 0) rfl (dk rfl) Yo rfl rfl rfl rfl ?_)
 refine sn rfl b (Qn (xs := x1.Rule) (f := (cI .i64)) rfl (dk rfl) Yo rfl ?_)
 refine sn rfl b (OpT.move rfl (dk rfl) rfl ?_)
 refine sn rfl b (Qa rfl rfl (dk rfl) rfl rfl ?_)
 refine sp rfl (Qm rfl (dk rfl) rfl b rfl ?_)
 refine mw rfl ?_
 rcases Qb h with ⟨d, h⟩ | ⟨d, h⟩
 refine pf rfl d ?_
 refine pf rfl d ?_
 refine pf rfl d ?_
 refine pf rfl d ?_
 refine pf rfl d ?_
 refine sp rfl (Qf rfl (dk rfl) rfl d rfl ?_)
 refine mw rfl ?_
 refine pf rfl rfl ?_
 refine pf rfl rfl ?_
 refine pf rfl rfl ?_
 refine pf rfl rfl ?_
 refine sp rfl (Qf rfl (dk rfl) rfl rfl rfl ?_)
 refine mw rfl ?_
 refine pf rfl rfl ?_
 refine pf rfl rfl ?_
 refine pf rfl rfl ?_
 refine pf rfl rfl ?_
 refine pf rfl rfl ?_
 refine pf rfl rfl ?_
 refine pf rfl rfl ?_
 refine pf rfl rfl ?_
 refine sp rfl (Qf rfl (dk rfl) rfl rfl rfl ?_)
 refine TL'.nil (tN ?_)
 refine Qk rfl rfl ?_
 refine Qd ?_ (Xd K h)
 exact tq rfl rfl
 refine sn rfl d (Ql rfl (dk rfl) Uh rfl i57 (by decide) rfl ?_)
 refine sn rfl d (Qo (i := 0) rfl (dk rfl) Dh rfl rfl rfl rfl ?_)
 refine sn rfl d (Qn (xs := x1.Next) (f := (cL 2 Qw)) rfl (dk rfl) Dh rfl ?_)
 refine sn rfl d (OpT.move rfl (dk rfl) rfl ?_)
 refine sn rfl d (Qa rfl rfl (dk rfl) rfl rfl ?_)
 refine sp rfl (Qm rfl (dk rfl) rfl d rfl ?_)
 refine mw rfl ?_
 rcases Qb h with ⟨g, h⟩ | ⟨g, h⟩
 refine pf rfl g ?_
 refine pf rfl g ?_
 refine pf rfl g ?_
 refine pf rfl g ?_
 refine sp rfl (Qf rfl (dk rfl) rfl g rfl ?_)
 refine mw rfl ?_
 refine pf rfl rfl ?_
 refine pf rfl rfl ?_
 refine pf rfl rfl ?_
 refine pf rfl rfl ?_
 refine pf rfl rfl ?_
 refine pf rfl rfl ?_
 refine pf rfl rfl ?_
 refine pf rfl rfl ?_
 refine sp rfl (Qf rfl (dk rfl) rfl rfl rfl ?_)
 refine TL'.nil (tN ?_)
 refine Qk rfl rfl ?_
 refine Qd ?_ (Xd K h)
 exact tq rfl rfl
 refine sn rfl g (Ql rfl (dk rfl) Uh rfl i56 (by decide) rfl ?_)
 refine sn rfl g (Qo (i := 0) rfl (dk rfl) Yo rfl rfl rfl rfl ?_)
 obtain ⟨w, q, h⟩ := bind_some h
 refine sn rfl g (Q2 rfl (dk rfl) Try.func64 rfl rfl (Q5.cons rfl (Q5.cons rfl Q5.nil)) (Zp.nil (Pg K (flx0 := false) q)) ?_)
 refine sn rfl g (OpT.not rfl (dk rfl) rfl ?_)
 refine sp rfl (Qm rfl (dk rfl) rfl g rfl ?_)
 refine mw rfl ?_
 rcases Qb h with ⟨a, h⟩ | ⟨a, h⟩
 refine pf rfl a ?_
 refine pf rfl a ?_
 refine pf rfl a ?_
 refine pf rfl a ?_
 refine pf rfl a ?_
 refine pf rfl a ?_
 refine pf rfl a ?_
 refine pf rfl a ?_
 refine sp rfl (Qf rfl (dk rfl) rfl a rfl ?_)
 refine TL'.nil (tN ?_)
 refine Qk rfl rfl ?_
 refine Qd ?_ (Xd K h)
 exact tq rfl rfl
 refine sn rfl a (Ql rfl (dk rfl) Uh rfl i56 (by decide) rfl ?_)
 refine sn rfl a (Qo (i := 0) rfl (dk rfl) Yo rfl rfl rfl rfl ?_)
 refine sn rfl a (Ql rfl (dk rfl) ul91 rfl i28 (by decide) rfl ?_)
 refine sn rfl a (Ql rfl (dk rfl) Xu rfl i25 (by decide) rfl ?_)
 refine sn rfl a (Qo (i := 1) rfl (dk rfl) Da rfl rfl rfl rfl ?_)
 refine sn rfl a (Qn (xs := x0.Auto.Counts) (f := (Ze.dc .i64)) rfl (dk rfl) Da rfl ?_)
 obtain ⟨y, u, h⟩ := bind_some h
 refine sn rfl a (Q2 rfl (dk rfl) Try.func64 rfl rfl (Q5.cons rfl (Q5.cons rfl Q5.nil)) (Zp.nil (Pg K (flx0 := false) u)) ?_)
 refine sn rfl a (OpT.not rfl (dk rfl) rfl ?_)
 refine sp rfl (Qm rfl (dk rfl) rfl a rfl ?_)
 refine TL'.nil (tN ?_)
 rcases Qb h with ⟨j, h⟩ | ⟨j, h⟩
 refine Qk rfl j ?_
 refine Qd ?_ (Xd K h)
 exact tq rfl rfl
 refine Qp rfl j ?_
 refine T.skip (tN ?_)
 refine T.seq ?_
 refine T.seq (Qr ?_)
 refine sp rfl (Ql rfl (dk rfl) Uh rfl i57 (by decide) rfl ?_)
 refine sp rfl (Qo (i := 0) rfl (dk rfl) Dh rfl rfl rfl rfl ?_)
 refine sp rfl (Qn (xs := x1.Next) (f := (cL 2 Qw)) rfl (dk rfl) Dh rfl ?_)
 refine mw rfl ?_
 refine TL'.nil (tN ?_)
 refine T.block ?_
 refine T.loop ?_
 refine Qc ?_ (C2 K K x1 (x1.Next.length : Int) (0:Int) x0 l m h)
 exact tr rfl (.c (.s .z) (.c .z (.n _)))
abbrev auto_Right_1_q (bx1 : Nat) (x1 : Q4) (r : Bool) : ES := Jt tp Try.f45 (fun y t => ∃ γ : Nat → Value, y = (.bool r) ∧ t = [(Jg bx1 x1.Auto.Split.Of x1.Auto.Split.Many x1.Auto.Counts x1.Auto.States)])
theorem auto_Right_1_T (K : Nat) {x0 : aSt} {x1 : Q4} {bx1 : Nat} {r : Bool} (h : M5 K x0 x1 = some r) : J2 tp 45 [.agg [.sl false 1 (mI x0.L), .sl false 1 (mI x0.R), .sl false 1 (mI x0.Rule), .sl false 1 (x0.Next.map (cL 2 Qw))], .ptr bx1 0] [(Jg bx1 x1.Auto.Split.Of x1.Auto.Split.Many x1.Auto.Counts x1.Auto.States)] (fun γ => (.bool r)) (fun γ => [(Jg bx1 x1.Auto.Split.Of x1.Auto.Split.Many x1.Auto.Counts x1.Auto.States)]) := by
 refine Qs Try.func45 rfl (nb rfl) ?_
 show T tp 8 (ca [] Try.f45) ⟨Qv 0 [.agg [.sl false 1 (mI x0.L), .sl false 1 (mI x0.R), .sl false 1 (mI x0.Rule), .sl false 1 (x0.Next.map (cL 2 Qw))], .ptr bx1 0], [(Jg bx1 x1.Auto.Split.Of x1.Auto.Split.Many x1.Auto.Counts x1.Auto.States)]⟩ (auto_Right_1_q bx1 x1 r)
 unfold M5 at h
 refine T.seq (Qr ?_)
 refine sp rfl (Zb rfl (dk rfl) rfl (fun b => ?_))
 refine aw rfl ?_
 refine TL'.nil (tN (T.seq (Qr ?_)))
 refine sp rfl (Zc (i := 1) (l := ((Qy.dc 256 .u8 x1.Auto.Split.Of) ++ (([.int .i64 x1.Auto.Split.Many, .sl false 2 (mA x1.Auto.Counts), .sl false 4 (x1.Auto.States.map Qx)] : List DC)))) rfl (dk rfl) ul91 rfl i91 rfl rfl rfl rfl ?_)
 refine sp rfl (Zc (i := 0) (l := [.sl false 1 (mI x0.L), .sl false 1 (mI x0.R), .sl false 1 (mI x0.Rule), .sl false 1 (x0.Next.map (cL 2 Qw))]) rfl (dk rfl) Uh rfl i59 rfl rfl rfl rfl ?_)
 obtain ⟨c, a, h⟩ := bind_some h
 refine sp rfl (Q2 rfl (dk rfl) Try.func46 rfl rfl (Q5.cons rfl (Q5.cons rfl Q5.nil)) (Zp.nil (Fw K a)) ?_)
 refine sp rfl (OpT.not rfl (dk rfl) rfl ?_)
 refine aw rfl ?_
 refine TL'.nil (tN ?_)
 refine T.ret ?_
 exact Q8 (.cons _ _ _ _ (.tmp 3 _ rfl) .nil) (.cons 1 rfl (.nil _)) (by cases h; exact ⟨gl [], rfl, rfl⟩)
abbrev Uo (bx1c0 : Nat) (x1c0 : Q4) (r : Int) : ES := Jt tp Try.f63 (fun y t => ∃ γ : Nat → Value, y = (.int .i64 r) ∧ t = [(Jg bx1c0 x1c0.Auto.Split.Of x1c0.Auto.Split.Many x1c0.Auto.Counts x1c0.Auto.States)])
abbrev Kr (bx1c0 : Nat) (x1c0 : Q4) (r : Int) : ES := thenS (fun s' => T tp 19 (ca [1,1] Try.f63) s' ((Uo bx1c0 x1c0 r))) ((Uo bx1c0 x1c0 r))
abbrev Lq (bx1c0 : Nat) (x1c0 : Q4) (r : Int) : ES := Q0 0 ((Kr bx1c0 x1c0 r))
theorem Ks {r : Int} (K bx1c0 : Nat) (x1c0 : Q4) : ∀ (k : Nat), ∀ (x0 : List aSt) (a b : Int) (x1c0 : Q4) (flx0 : Bool), Zs K k x0 a b x1c0 = some r → TL tp 19 (ca [1,0,1,0,0] Try.f63) ⟨[(0, .sl flx0 4 (x0.map Qx)), (1, .c (.ex (.func (.func 45) #[] #[.pointer (some ⟨bx1c0, 0, none⟩)]))), (7, .int .i64 a), (8, .int .i64 b)], [(Jg bx1c0 x1c0.Auto.Split.Of x1c0.Auto.Split.Many x1c0.Auto.Counts x1c0.Auto.States)]⟩ (Lq bx1c0 x1c0 r) := by
 intro k
 induction k with
 | zero =>
  intro x0 a b x1c0 flx0 h
  cases (show (none : Option Int) = some r from h)
 | succ k ih =>
  intro x0 a b x1c0 flx0 h
  rw [Zs] at h
  refine Za ?_
  refine T.seq (Qr ?_)
  refine sp rfl (Qa rfl rfl (dk rfl) rfl rfl ?_)
  refine TL'.nil (tN ?_)
  refine T.seq ?_
  rcases Qb h with ⟨g, h⟩ | ⟨g, h⟩
  refine Qk rfl g ?_
  refine T.skip (tN ?_)
  refine T.seq ?_
  refine T.block ?_
  refine T.seq (Qr ?_)
  refine mw rfl ?_
  refine aw rfl ?_
  refine TL'.nil (tN (T.seq (Qr ?_)))
  iterate 3 refine mw rfl ?_
  obtain ⟨j, l, h⟩ := bind_some h
  refine sp rfl (Qi (xs := x0) (f := Qx) (v := j) rfl (dk rfl) Vx i59 rfl rfl l ?_)
  refine sp rfl (Zg rfl (dk rfl) Uh rfl i59 rfl (nb rfl) ?_)
  obtain ⟨p, m, h⟩ := bind_some h
  refine sp rfl (C7 (f := 45) (vs := [.pointer (some ⟨bx1c0, 0, none⟩)]) rfl rfl (dk rfl) Try.func45 rfl rfl (Q6 (is := [0]) (ph := []) rfl (dk rfl) Try.func45 rfl rfl (Q5.cons rfl (Q5.cons rfl Q5.nil)) (auto_Right_1_T K (bx1 := bx1c0) m) (.cons rfl rfl (.nil)) (fun _ => rfl) (fun q => ?_)))
  refine nm (.c (.n)) ?_
  refine TL'.nil (tN ?_)
  rcases Qb h with ⟨i, h⟩ | ⟨i, h⟩
  refine Qk rfl i ?_
  refine T.seq (Qr ?_)
  refine mw rfl ?_
  refine aw rfl ?_
  refine TL'.nil (tN ?_)
  refine T.ret (Qt (Qj (Qj (Qt (Qj ?_)))))
  exact Q8 (.cons _ _ _ _ (.tmp 4 _ rfl) .nil) (.cons 0 rfl (.nil _)) (by cases h; exact ⟨gl [], rfl, rfl⟩)
  refine Qp rfl i ?_
  refine T.skip (Qe (tN ?_))
  refine Qr ?_
  refine sp rfl (Qa rfl rfl (dk rfl) rfl rfl ?_)
  refine mw rfl ?_
  refine TL'.nil (tN ?_)
  refine Qc ?_ (ih x0 a (wI (b + (1:Int))) x1c0 flx0 h)
  exact tq rfl rfl
  refine Qp rfl g ?_
  refine T.exit (Qh (Qh (Qq (tN ?_))))
  refine T.seq (Qr ?_)
  refine aw rfl ?_
  refine TL'.nil (tN ?_)
  refine T.ret ?_
  exact Q8 (.cons _ _ _ _ (.tmp 4 _ rfl) .nil) (.cons 0 rfl (.nil _)) (by cases h; exact ⟨gl [], rfl, rfl⟩)
theorem Bw (K : Nat) {x0 : List aSt} {x1c0 : Q4} {flx0 : Bool} {bx1c0 : Nat} {r : Int} (h : Vv K x0 x1c0 = some r) : J2 tp 63 [.sl flx0 4 (x0.map Qx), .c (.ex (.func (.func 45) #[] #[.pointer (some ⟨bx1c0, 0, none⟩)]))] [(Jg bx1c0 x1c0.Auto.Split.Of x1c0.Auto.Split.Many x1c0.Auto.Counts x1c0.Auto.States)] (fun γ => (.int .i64 r)) (fun γ => [(Jg bx1c0 x1c0.Auto.Split.Of x1c0.Auto.Split.Many x1c0.Auto.Counts x1c0.Auto.States)]) := by
 refine Qs Try.func63 rfl (nb rfl) ?_
 show T tp 19 (ca [] Try.f63) ⟨Qv 0 [.sl flx0 4 (x0.map Qx), .c (.ex (.func (.func 45) #[] #[.pointer (some ⟨bx1c0, 0, none⟩)]))], [(Jg bx1c0 x1c0.Auto.Split.Of x1c0.Auto.Split.Many x1c0.Auto.Counts x1c0.Auto.States)]⟩ (Uo bx1c0 x1c0 r)
 unfold Vv at h
 refine T.seq (Qr ?_)
 refine aw rfl ?_
 refine TL'.nil (tN ?_)
 refine T.seq ?_
 refine T.seq (Qr ?_)
 refine mw rfl ?_
 refine sp rfl (Qn (xs := x0) (f := Qx) rfl (dk rfl) Vx rfl ?_)
 refine mw rfl ?_
 refine TL'.nil (tN ?_)
 refine T.block ?_
 refine T.loop ?_
 refine Qc ?_ (Ks K bx1c0 x1c0 K x0 (x0.length : Int) (0:Int) x1c0 flx0 h)
 exact tq rfl rfl
abbrev Kt (bx1c0 : Nat) (x1c0 : Q4) (r : Bool) : ES := Jt tp Try.f44 (fun y t => ∃ γ : Nat → Value, y = (.bool r) ∧ t = [(Jg bx1c0 x1c0.Auto.Split.Of x1c0.Auto.Split.Many x1c0.Auto.Counts x1c0.Auto.States)])
theorem Ku (K : Nat) {x0 : List aSt} {x1c0 : Q4} {flx0 : Bool} {bx1c0 : Nat} {r : Bool} (h : Yw K x0 x1c0 = some r) : J2 tp 44 [.sl flx0 4 (x0.map Qx), .c (.ex (.func (.func 45) #[] #[.pointer (some ⟨bx1c0, 0, none⟩)]))] [(Jg bx1c0 x1c0.Auto.Split.Of x1c0.Auto.Split.Many x1c0.Auto.Counts x1c0.Auto.States)] (fun γ => (.bool r)) (fun γ => [(Jg bx1c0 x1c0.Auto.Split.Of x1c0.Auto.Split.Many x1c0.Auto.Counts x1c0.Auto.States)]) := by
 refine Qs Try.func44 rfl (nb rfl) ?_
 show T tp 9 (ca [] Try.f44) ⟨Qv 0 [.sl flx0 4 (x0.map Qx), .c (.ex (.func (.func 45) #[] #[.pointer (some ⟨bx1c0, 0, none⟩)]))], [(Jg bx1c0 x1c0.Auto.Split.Of x1c0.Auto.Split.Many x1c0.Auto.Counts x1c0.Auto.States)]⟩ (Kt bx1c0 x1c0 r)
 unfold Yw at h
 refine T.seq (Qr ?_)
 refine aw rfl ?_
 refine TL'.nil (tN (T.seq (Qr ?_)))
 refine mw rfl ?_
 refine mw rfl ?_
 obtain ⟨b, a, h⟩ := bind_some h
 refine sp rfl (Q6 (is := [0]) (ph := []) rfl (dk rfl) Try.func63 rfl rfl (Q5.cons rfl (Q5.cons rfl Q5.nil)) (Bw K (flx0 := flx0) (bx1c0 := bx1c0) a) (.cons rfl rfl (.nil)) (fun _ => rfl) (fun f => ?_))
 refine nm (.c (.n)) ?_
 refine sp rfl (Qa rfl rfl (dk rfl) rfl rfl ?_)
 refine aw rfl ?_
 refine TL'.nil (tN ?_)
 refine T.ret ?_
 exact Q8 (.cons _ _ _ _ (.tmp 4 _ rfl) .nil) (.cons 0 rfl (.nil _)) (by cases h; exact ⟨gl [], rfl, rfl⟩)
abbrev Ll (r : Bool) : ES := Jt tp Try.f20 (fun y t => y = (.bool r) ∧ t = [])
abbrev Rw (r : Bool) : ES := thenS (fun s' => T tp 79 (ca [1,1] Try.f20) s' ((Ll r))) ((Ll r))
abbrev Pw (r : Bool) : ES := thenS (fun s' => T tp 79 (ca [1,1,1] Try.f20) s' ((Ll r))) ((Ll r))
abbrev H6 (r : Bool) : ES := Q0 0 ((Pw r))
abbrev M4 (r : Bool) : ES := thenS (fun s' => TL tp 79 (ca [1,1,0,1,0,0] Try.f20) s' ((H6 r))) ((H6 r))
abbrev D5 (r : Bool) : ES := thenS (fun s' => T tp 79 (ca [1,1,0,1,0,0,1,1,1] Try.f20) s' ((M4 r))) ((M4 r))
abbrev Ms (r : Bool) : ES := Q0 1 ((D5 r))
theorem J0 {r : Bool} (K : Nat) (h : Yq K = some r) : T tp 79 (ca [1,0,1,0] Try.f20) ⟨[], []⟩ (Rw r) := by
 unfold Yq at h
 refine T.seq (Qr ?_)
 refine aw rfl ?_
 refine TL'.nil (tN ?_)
 refine T.ret (Qj ?_)
 exact Fin.done (.cons _ _ _ _ (.tmp 2 _ rfl) .nil) (by cases h; exact ⟨rfl, rfl⟩)
theorem H7 {r : Bool} (K : Nat) (h : U8 K = some r) : T tp 79 (ca [1,1,0,1,0,0,1,1,0,0,1,1,0] Try.f20) ⟨[], []⟩ (Ms r) := by
 unfold U8 at h
 refine T.seq (Qr ?_)
 refine aw rfl ?_
 refine TL'.nil (tN ?_)
 refine T.ret (Qt (Qj (Qj (Qt (Qj ?_)))))
 exact Fin.done (.cons _ _ _ _ (.tmp 2 _ rfl) .nil) (by cases h; exact ⟨rfl, rfl⟩)
theorem Rx {r : Bool} (K : Nat) : ∀ (k : Nat), ∀ (x0 : aAu) (p q : Int) (u : Nat), Ub K k x0 p q = some r → TL tp 79 (ca [1,1,0,1,0,0] Try.f20) ⟨[(1, .ptr u 0), (45, .sl false 2 (mA x0.Counts)), (46, .int .i64 p), (47, .int .i64 q)], [(Vc u x0.Split.Of x0.Split.Many x0.Counts x0.States)]⟩ (H6 r) := by
 intro k
 induction k with
 | zero =>
  intro x0 p q u h
  cases (show (none : Option Bool) = some r from h)
 | succ k ih =>
  intro x0 p q u h
  rw [Ub] at h
  refine Za ?_
  refine T.seq (Qr ?_)
  refine sp rfl (Qa rfl rfl (dk rfl) rfl rfl ?_)
  refine TL'.nil (tN ?_)
  refine T.seq ?_
  rcases Qb h with ⟨w, h⟩ | ⟨w, h⟩
  refine Qk rfl w ?_
  refine T.skip (tN ?_)
  refine T.seq ?_
  refine T.block ?_
  refine T.seq (Qr ?_)
  obtain ⟨m, ab, h⟩ := bind_some h
  refine sp rfl (Qi (xs := x0.Counts) (f := (Ze.dc .i64)) (v := m) rfl (dk rfl) Da i42 rfl rfl ab ?_)
  refine sp rfl (Zg rfl (dk rfl) ul42 rfl i42 rfl (nb rfl) ?_)
  refine sp rfl (Zj rfl (dk rfl) i42 rfl (fun ad => ?_))
  refine sp rfl (Qz (i := 0) (cells' := (Ze.oc .i64 m)) rfl rfl i42 rfl rfl rfl rfl (nb rfl) rfl ?_)
  refine TL'.nil (tN (T.seq (Qr ?_)))
  refine sp rfl (Z3 rfl (dk rfl) ul42 i3 rfl rfl (by decide) (by decide) ?_)
  refine sp rfl (Qo (i := 0) rfl (dk rfl) ul3 rfl rfl rfl (Uf (k := .i64) (a := m) (pre := []) (post := []) (by decide) (by decide)) ?_)
  refine sp rfl (Qa rfl rfl (dk rfl) rfl rfl ?_)
  refine mw rfl ?_
  rcases Qb h with ⟨b, h⟩ | ⟨b, h⟩
  refine pf rfl b ?_
  refine pf rfl b ?_
  refine pf rfl b ?_
  refine pf rfl b ?_
  refine pf rfl b ?_
  refine sp rfl (Qf rfl (dk rfl) rfl b rfl ?_)
  refine mw rfl ?_
  refine pf rfl rfl ?_
  refine pf rfl rfl ?_
  refine pf rfl rfl ?_
  refine sp rfl (Qf rfl (dk rfl) rfl rfl rfl ?_)
  refine mw rfl ?_
  refine pf rfl rfl ?_
  refine pf rfl rfl ?_
  refine pf rfl rfl ?_
  refine sp rfl (Qf rfl (dk rfl) rfl rfl rfl ?_)
  refine TL'.nil (tN ?_)
  refine Qk rfl rfl ?_
  refine Qd ?_ (H7 K h)
  exact tq rfl rfl
  refine sn rfl b (Z3 rfl (dk rfl) ul42 i3 rfl rfl (by decide) (by decide) ?_)
  refine sn rfl b (Qo (i := 0) rfl (dk rfl) ul3 rfl rfl rfl (Uf (k := .i64) (a := m) (pre := []) (post := []) (by decide) (by decide)) ?_)
  refine sn rfl b (Z3 rfl (dk rfl) ul42 i3 rfl rfl (by decide) (by decide) ?_)
  refine sn rfl b (Qo (i := 0) rfl (dk rfl) ul3 rfl rfl rfl (Uf (k := .i64) (a := m) (pre := []) (post := []) (by decide) (by decide)) ?_)
  refine sn rfl b (Qa rfl rfl (dk rfl) rfl rfl ?_)
  refine sp rfl (Qm rfl (dk rfl) rfl b rfl ?_)
  refine mw rfl ?_
  rcases Qb h with ⟨g, h⟩ | ⟨g, h⟩
  refine pf rfl g ?_
  refine pf rfl g ?_
  refine pf rfl g ?_
  refine sp rfl (Qf rfl (dk rfl) rfl g rfl ?_)
  refine mw rfl ?_
  refine pf rfl rfl ?_
  refine pf rfl rfl ?_
  refine pf rfl rfl ?_
  refine sp rfl (Qf rfl (dk rfl) rfl rfl rfl ?_)
  refine TL'.nil (tN ?_)
  refine Qk rfl rfl ?_
  refine Qd ?_ (H7 K h)
  exact tq rfl rfl
  refine sn rfl g (Z3 rfl (dk rfl) ul42 i3 rfl rfl (by decide) (by decide) ?_)
  refine sn rfl g (Qo (i := 0) rfl (dk rfl) ul3 rfl rfl rfl (Uf (k := .i64) (a := m) (pre := []) (post := []) (by decide) (by decide)) ?_)
  refine sn rfl g (Qa rfl rfl (dk rfl) rfl rfl ?_)
  refine sp rfl (Qm rfl (dk rfl) rfl g rfl ?_)
  refine mw rfl ?_
  rcases Qb h with ⟨j, h⟩ | ⟨j, h⟩
  refine pf rfl j ?_
  refine pf rfl j ?_
  refine pf rfl j ?_
  refine sp rfl (Qf rfl (dk rfl) rfl j rfl ?_)
  refine TL'.nil (tN ?_)
  refine Qk rfl rfl ?_
  refine Qd ?_ (H7 K h)
  exact tq rfl rfl
  refine sn rfl j (Z3 rfl (dk rfl) ul42 i3 rfl rfl (by decide) (by decide) ?_)
  refine sn rfl j (Qo (i := 0) rfl (dk rfl) ul3 rfl rfl rfl (Uf (k := .i64) (a := m) (pre := []) (post := []) (by decide) (by decide)) ?_)
  refine sn rfl j (Qa rfl rfl (dk rfl) rfl rfl ?_)
  refine sp rfl (Qm rfl (dk rfl) rfl j rfl ?_)
  refine TL'.nil (tN ?_)
  rcases Qb h with ⟨y, h⟩ | ⟨y, h⟩
  refine Qk rfl y ?_
  refine Qd ?_ (H7 K h)
  exact tq rfl rfl
  refine Qp rfl y ?_
  refine T.skip (Qe (tN ?_))
  refine Qr ?_
  refine sp rfl (Qa rfl rfl (dk rfl) rfl rfl ?_)
  refine mw rfl ?_
  refine TL'.nil (tN ?_)
  refine Qc ?_ (ih x0 p (wI (q + (1:Int))) u h)
  exact tr rfl (.c (.s .z) (.n _))
  refine Qp rfl w ?_
  refine T.exit (Qh (Qh (Qq (tN ?_))))
  refine T.seq (Qr ?_)
  refine sp rfl (Zc (i := 0) (l := ((Qy.dc 256 .u8 x0.Split.Of) ++ (([.int .i64 x0.Split.Many, .sl false 2 (mA x0.Counts), .sl false 4 (x0.States.map Qx)] : List DC)))) rfl (dk rfl) Xu rfl i28 rfl rfl rfl rfl ?_)
  refine sp rfl (OpT.build (l := ((Qy.dc 256 .u8 x0.Split.Of) ++ (([.int .i64 x0.Split.Many, .sl false 2 (mA x0.Counts), .sl false 4 (x0.States.map Qx)] : List DC)))) rfl (dk rfl) (Zx (pl := [(0, 259)]) ul91 i91 rfl) (Ho rfl) rfl rfl ?_)
  refine sp rfl (Zj rfl (dk rfl) i91 rfl (fun aa => ?_))
  refine sp rfl (Qz (i := 0) (cells' := ((Qy.oc 256 .u8 x0.Split.Of) ++ (([.d (.int .i64 x0.Split.Many), .d (.sl false 2 (mA x0.Counts)), .d (.sl false 4 (x0.States.map Qx))]:List OC)))) rfl rfl i91 rfl rfl rfl rfl (nb rfl) rfl ?_)
  refine TL'.nil (tN (T.seq (Qr ?_)))
  refine sp rfl (Ql rfl (dk rfl) Xu rfl i26 (by decide) rfl ?_)
  refine sp rfl (Qo (i := 1) rfl (dk rfl) Vx rfl rfl rfl rfl ?_)
  refine sp rfl (OpT.makeFunc (vs := [.pointer (some ⟨aa, 0, none⟩)]) rfl (dk rfl) rfl ?_)
  obtain ⟨af, ac, h⟩ := bind_some h
  refine sp rfl (Q6 (is := [0]) (ph := []) rfl (dk rfl) Try.func44 rfl rfl (Q5.cons rfl (Q5.cons rfl Q5.nil)) (Ku K (flx0 := false) (bx1c0 := aa) ac) (.cons rfl rfl (.nil)) (fun _ => rfl) (fun ag => ?_))
  refine nm (.c (.c (.n))) ?_
  refine sp rfl (OpT.not rfl (dk rfl) rfl ?_)
  refine aw rfl ?_
  refine TL'.nil (tN ?_)
  refine T.ret ?_
  exact Fin.done (.cons _ _ _ _ (.tmp 2 _ rfl) .nil) (by cases h; exact ⟨rfl, rfl⟩)
theorem Ph (K : Nat) {x0 : aAu} {r : Bool} (h : Hh K x0 = some r) : Zp tp 20 [.agg ((Qy.dc 256 .u8 x0.Split.Of) ++ (([.int .i64 x0.Split.Many, .sl false 2 (mA x0.Counts), .sl false 4 (x0.States.map Qx)] : List DC)))] [] (.bool r) := by
 refine Qs Try.func20 rfl (nb rfl) ?_
 show T tp 79 (ca [] Try.f20) ⟨Qv 0 [.agg ((Qy.dc 256 .u8 x0.Split.Of) ++ (([.int .i64 x0.Split.Many, .sl false 2 (mA x0.Counts), .sl false 4 (x0.States.map Qx)] : List DC)))], []⟩ (Ll r)
 unfold Hh at h
 refine T.seq (Qr ?_)
 refine sp rfl (Zb rfl (dk rfl) rfl (fun b => ?_))
 refine aw rfl ?_
 refine TL'.nil (tN ?_)
 refine T.seq ?_
 refine T.seq ?_
 refine Xl ?_
 refine dS (c := ⟨some 6, .ptr b (0 + 0), [(1, .ptr b 0)], [], []⟩) (fun t hm => oF rfl rfl (Ql rfl (dk rfl) Xu rfl i24 (by decide) hm.s0 rfl)) rfl rfl ?_
 refine dS (c := ⟨some 7, .agg ((Qy.dc 256 .u8 x0.Split.Of) ++ (([.int .i64 x0.Split.Many] : List DC))), [(6, .ptr b (0 + 0))], [(0, (Vc b x0.Split.Of x0.Split.Many x0.Counts x0.States))], []⟩) (fun t hm => oF rfl rfl (Zc (i := 0) (l := ((Qy.dc 256 .u8 x0.Split.Of) ++ (([.int .i64 x0.Split.Many] : List DC)))) rfl (dk rfl) F7 rfl i24 hm.s0 hm.o0 rfl rfl rfl)) rfl rfl ?_
 obtain ⟨q, y, h⟩ := bind_some h
 refine dS (c := ⟨some 8, .bool q, [(7, .agg ((Qy.dc 256 .u8 x0.Split.Of) ++ (([.int .i64 x0.Split.Many] : List DC))))], [], []⟩) (fun t hm => oF rfl rfl (Q2 rfl (dk rfl) Try.func43 rfl rfl (Q5.cons hm.s0 Q5.nil) (Zp.nil (split_Right_T K y)) rfl)) rfl rfl ?_
 refine dS (c := ⟨some 9, .bool (!q), [(8, .bool q)], [], []⟩) (fun t hm => oF rfl rfl (OpT.not rfl (dk rfl) hm.s0 rfl)) rfl rfl ?_
 refine Yg rfl rfl rfl rfl rfl rfl ?_
 rcases Qb h with ⟨j, h⟩ | ⟨j, h⟩
 refine dO j rfl rfl ?_
 refine dO j rfl rfl ?_
 refine dO j rfl rfl ?_
 refine dO j rfl rfl ?_
 refine dS (c := ⟨some 15, .bool true, [(10, .bool (!q))], [], []⟩) (fun t hm => oF rfl rfl (Qf rfl (dk rfl) hm.s0 j rfl rfl)) rfl rfl ?_
 refine Yg rfl rfl rfl rfl rfl rfl ?_
 refine dO rfl rfl rfl ?_
 refine dO rfl rfl rfl ?_
 refine dO rfl rfl rfl ?_
 refine dO rfl rfl rfl ?_
 refine dS (c := ⟨some 21, .bool true, [(16, .bool true)], [], []⟩) (fun t hm => oF rfl rfl (Qf rfl (dk rfl) hm.s0 rfl rfl rfl)) rfl rfl ?_
 refine Yg rfl rfl rfl rfl rfl rfl ?_
 refine dO rfl rfl rfl ?_
 refine dO rfl rfl rfl ?_
 refine dO rfl rfl rfl ?_
 refine dO rfl rfl rfl ?_
 refine dS (c := ⟨some 27, .bool true, [(22, .bool true)], [], []⟩) (fun t hm => oF rfl rfl (Qf rfl (dk rfl) hm.s0 rfl rfl rfl)) rfl rfl ?_
 refine Yg rfl rfl rfl rfl rfl rfl ?_
 refine dO rfl rfl rfl ?_
 refine dO rfl rfl rfl ?_
 refine dO rfl rfl rfl ?_
 refine dO rfl rfl rfl ?_
 refine dO rfl rfl rfl ?_
 refine dO rfl rfl rfl ?_
 refine dO rfl rfl rfl ?_
 refine dO rfl rfl rfl ?_
 refine dO rfl rfl rfl ?_
 refine dO rfl rfl rfl ?_
 refine dO rfl rfl rfl ?_
 refine dO rfl rfl rfl ?_
 refine dO rfl rfl rfl ?_
 refine dO rfl rfl rfl ?_
 refine dS (c := ⟨some 43, .bool true, [(28, .bool true)], [], []⟩) (fun t hm => oF rfl rfl (Qf rfl (dk rfl) hm.s0 rfl rfl rfl)) rfl rfl ?_
 refine Ys (s1 := ⟨[(1, .ptr b 0), (43, .bool true)], [(Vc b x0.Split.Of x0.Split.Many x0.Counts x0.States)]⟩) (ms := [0, 1, 3, 7, 15, 31, 63, 127, 255, 511, 1023, 2047, 4095, 8191, 16383, 32767, 65535, 131071, 262143, 524287, 1048575, 2097151, 4194303, 8388607, 16777215, 33554431, 67108863, 134217727, 268435455, 8388607, 545259519, 1619001343, 3766484991, 8061452287, 16651386879, 34359738367, 68719476735, 137438953471]) Q7 rfl (by kernel_rfl) (by kernel_rfl) (by kernel_rfl) (sf rfl) rfl (fun u hu => (tN (Qd hu ?_)))
 refine Qk rfl rfl ?_
 refine Qd ?_ (J0 K h)
 exact tq rfl rfl
 refine dS (c := ⟨some 11, .ptr b (0 + 257), [(1, .ptr b 0), (10, .bool (!q))], [], []⟩) (fun t hm => oN rfl rfl rfl hm.s1 j (Ql rfl (dk rfl) Xu rfl i25 (by decide) hm.s0 rfl)) rfl rfl ?_
 refine dS (c := ⟨some 12, .sl false 2 (mA x0.Counts), [(11, .ptr b (0 + 257)), (10, .bool (!q))], [(0, (Vc b x0.Split.Of x0.Split.Many x0.Counts x0.States))], []⟩) (fun t hm => oN rfl rfl rfl hm.s1 j (Qo (i := 0) rfl (dk rfl) Da rfl hm.s0 hm.o0 rfl rfl)) rfl rfl ?_
 refine dS (c := ⟨some 13, .int .i64 (x0.Counts.length : Int), [(12, .sl false 2 (mA x0.Counts)), (10, .bool (!q))], [], []⟩) (fun t hm => oN rfl rfl rfl hm.s1 j (Qn (xs := x0.Counts) (f := (Ze.dc .i64)) rfl (dk rfl) Da hm.s0 rfl)) rfl rfl ?_
 refine dS (c := ⟨some 14, .bool (decide ((x0.Counts.length : Int) > (512:Int))), [(13, .int .i64 (x0.Counts.length : Int)), (10, .bool (!q))], [], []⟩) (fun t hm => oN rfl rfl rfl hm.s1 j (Qa rfl rfl (dk rfl) hm.s0 rfl rfl)) rfl rfl ?_
 refine dS (c := ⟨some 15, .bool (decide ((x0.Counts.length : Int) > (512:Int))), [(10, .bool (!q)), (14, .bool (decide ((x0.Counts.length : Int) > (512:Int))))], [], []⟩) (fun t hm => oF rfl rfl (Qm rfl (dk rfl) hm.s0 j hm.s1 rfl)) rfl rfl ?_
 refine Yg rfl rfl rfl rfl rfl rfl ?_
 rcases Qb h with ⟨m, h⟩ | ⟨m, h⟩
 refine dO m rfl rfl ?_
 refine dO m rfl rfl ?_
 refine dO m rfl rfl ?_
 refine dO m rfl rfl ?_
 refine dS (c := ⟨some 21, .bool true, [(16, .bool (decide ((x0.Counts.length : Int) > (512:Int))))], [], []⟩) (fun t hm => oF rfl rfl (Qf rfl (dk rfl) hm.s0 m rfl rfl)) rfl rfl ?_
 refine Yg rfl rfl rfl rfl rfl rfl ?_
 refine dO rfl rfl rfl ?_
 refine dO rfl rfl rfl ?_
 refine dO rfl rfl rfl ?_
 refine dO rfl rfl rfl ?_
 refine dS (c := ⟨some 27, .bool true, [(22, .bool true)], [], []⟩) (fun t hm => oF rfl rfl (Qf rfl (dk rfl) hm.s0 rfl rfl rfl)) rfl rfl ?_
 refine Yg rfl rfl rfl rfl rfl rfl ?_
 refine dO rfl rfl rfl ?_
 refine dO rfl rfl rfl ?_
 refine dO rfl rfl rfl ?_
 refine dO rfl rfl rfl ?_
 refine dO rfl rfl rfl ?_
 refine dO rfl rfl rfl ?_
 refine dO rfl rfl rfl ?_
 refine dO rfl rfl rfl ?_
 refine dO rfl rfl rfl ?_
 refine dO rfl rfl rfl ?_
 refine dO rfl rfl rfl ?_
 refine dO rfl rfl rfl ?_
 refine dO rfl rfl rfl ?_
 refine dO rfl rfl rfl ?_
 refine dS (c := ⟨some 43, .bool true, [(28, .bool true)], [], []⟩) (fun t hm => oF rfl rfl (Qf rfl (dk rfl) hm.s0 rfl rfl rfl)) rfl rfl ?_
 refine Ys (s1 := ⟨[(1, .ptr b 0), (43, .bool true)], [(Vc b x0.Split.Of x0.Split.Many x0.Counts x0.States)]⟩) (ms := [0, 1, 3, 7, 15, 31, 63, 127, 255, 511, 1023, 2047, 4095, 8191, 16383, 32767, 65535, 131071, 262143, 524287, 1048575, 2097151, 4194303, 8388607, 16777215, 33554431, 67108863, 134217727, 268435455, 8388607, 545259519, 1619001343, 3766484991, 8061452287, 16651386879, 34359738367, 68719476735, 137438953471]) Q7 rfl (by kernel_rfl) (by kernel_rfl) (by kernel_rfl) (sf rfl) rfl (fun u hu => (tN (Qd hu ?_)))
 refine Qk rfl rfl ?_
 refine Qd ?_ (J0 K h)
 exact tq rfl rfl
 refine dS (c := ⟨some 17, .ptr b (0 + 258), [(1, .ptr b 0), (16, .bool (decide ((x0.Counts.length : Int) > (512:Int))))], [], []⟩) (fun t hm => oN rfl rfl rfl hm.s1 m (Ql rfl (dk rfl) Xu rfl i26 (by decide) hm.s0 rfl)) rfl rfl ?_
 refine dS (c := ⟨some 18, .sl false 4 (x0.States.map Qx), [(17, .ptr b (0 + 258)), (16, .bool (decide ((x0.Counts.length : Int) > (512:Int))))], [(0, (Vc b x0.Split.Of x0.Split.Many x0.Counts x0.States))], []⟩) (fun t hm => oN rfl rfl rfl hm.s1 m (Qo (i := 0) rfl (dk rfl) Vx rfl hm.s0 hm.o0 rfl rfl)) rfl rfl ?_
 refine dS (c := ⟨some 19, .int .i64 (x0.States.length : Int), [(18, .sl false 4 (x0.States.map Qx)), (16, .bool (decide ((x0.Counts.length : Int) > (512:Int))))], [], []⟩) (fun t hm => oN rfl rfl rfl hm.s1 m (Qn (xs := x0.States) (f := Qx) rfl (dk rfl) Vx hm.s0 rfl)) rfl rfl ?_
 refine dS (c := ⟨some 20, .bool (decide ((x0.States.length : Int) < (1:Int))), [(19, .int .i64 (x0.States.length : Int)), (16, .bool (decide ((x0.Counts.length : Int) > (512:Int))))], [], []⟩) (fun t hm => oN rfl rfl rfl hm.s1 m (Qa rfl rfl (dk rfl) hm.s0 rfl rfl)) rfl rfl ?_
 refine dS (c := ⟨some 21, .bool (decide ((x0.States.length : Int) < (1:Int))), [(16, .bool (decide ((x0.Counts.length : Int) > (512:Int)))), (20, .bool (decide ((x0.States.length : Int) < (1:Int))))], [], []⟩) (fun t hm => oF rfl rfl (Qm rfl (dk rfl) hm.s0 m hm.s1 rfl)) rfl rfl ?_
 refine Yg rfl rfl rfl rfl rfl rfl ?_
 rcases Qb h with ⟨p, h⟩ | ⟨p, h⟩
 refine dO p rfl rfl ?_
 refine dO p rfl rfl ?_
 refine dO p rfl rfl ?_
 refine dO p rfl rfl ?_
 refine dS (c := ⟨some 27, .bool true, [(22, .bool (decide ((x0.States.length : Int) < (1:Int))))], [], []⟩) (fun t hm => oF rfl rfl (Qf rfl (dk rfl) hm.s0 p rfl rfl)) rfl rfl ?_
 refine Yg rfl rfl rfl rfl rfl rfl ?_
 refine dO rfl rfl rfl ?_
 refine dO rfl rfl rfl ?_
 refine dO rfl rfl rfl ?_
 refine dO rfl rfl rfl ?_
 refine dO rfl rfl rfl ?_
 refine dO rfl rfl rfl ?_
 refine dO rfl rfl rfl ?_
 refine dO rfl rfl rfl ?_
 refine dO rfl rfl rfl ?_
 refine dO rfl rfl rfl ?_
 refine dO rfl rfl rfl ?_
 refine dO rfl rfl rfl ?_
 refine dO rfl rfl rfl ?_
 refine dO rfl rfl rfl ?_
 refine dS (c := ⟨some 43, .bool true, [(28, .bool true)], [], []⟩) (fun t hm => oF rfl rfl (Qf rfl (dk rfl) hm.s0 rfl rfl rfl)) rfl rfl ?_
 refine Ys (s1 := ⟨[(1, .ptr b 0), (43, .bool true)], [(Vc b x0.Split.Of x0.Split.Many x0.Counts x0.States)]⟩) (ms := [0, 1, 3, 7, 15, 31, 63, 127, 255, 511, 1023, 2047, 4095, 8191, 16383, 32767, 65535, 131071, 262143, 524287, 1048575, 2097151, 4194303, 8388607, 16777215, 33554431, 67108863, 134217727, 268435455, 8388607, 545259519, 1619001343, 3766484991, 8061452287, 16651386879, 34359738367, 68719476735, 137438953471]) Q7 rfl (by kernel_rfl) (by kernel_rfl) (by kernel_rfl) (sf rfl) rfl (fun u hu => (tN (Qd hu ?_)))
 refine Qk rfl rfl ?_
 refine Qd ?_ (J0 K h)
 exact tq rfl rfl
 refine dS (c := ⟨some 23, .ptr b (0 + 258), [(1, .ptr b 0), (22, .bool (decide ((x0.States.length : Int) < (1:Int))))], [], []⟩) (fun t hm => oN rfl rfl rfl hm.s1 p (Ql rfl (dk rfl) Xu rfl i26 (by decide) hm.s0 rfl)) rfl rfl ?_
 refine dS (c := ⟨some 24, .sl false 4 (x0.States.map Qx), [(23, .ptr b (0 + 258)), (22, .bool (decide ((x0.States.length : Int) < (1:Int))))], [(0, (Vc b x0.Split.Of x0.Split.Many x0.Counts x0.States))], []⟩) (fun t hm => oN rfl rfl rfl hm.s1 p (Qo (i := 0) rfl (dk rfl) Vx rfl hm.s0 hm.o0 rfl rfl)) rfl rfl ?_
 refine dS (c := ⟨some 25, .int .i64 (x0.States.length : Int), [(24, .sl false 4 (x0.States.map Qx)), (22, .bool (decide ((x0.States.length : Int) < (1:Int))))], [], []⟩) (fun t hm => oN rfl rfl rfl hm.s1 p (Qn (xs := x0.States) (f := Qx) rfl (dk rfl) Vx hm.s0 rfl)) rfl rfl ?_
 refine dS (c := ⟨some 26, .bool (decide ((x0.States.length : Int) > (256:Int))), [(25, .int .i64 (x0.States.length : Int)), (22, .bool (decide ((x0.States.length : Int) < (1:Int))))], [], []⟩) (fun t hm => oN rfl rfl rfl hm.s1 p (Qa rfl rfl (dk rfl) hm.s0 rfl rfl)) rfl rfl ?_
 refine dS (c := ⟨some 27, .bool (decide ((x0.States.length : Int) > (256:Int))), [(22, .bool (decide ((x0.States.length : Int) < (1:Int)))), (26, .bool (decide ((x0.States.length : Int) > (256:Int))))], [], []⟩) (fun t hm => oF rfl rfl (Qm rfl (dk rfl) hm.s0 p hm.s1 rfl)) rfl rfl ?_
 refine Yg rfl rfl rfl rfl rfl rfl ?_
 rcases Qb h with ⟨g, h⟩ | ⟨g, h⟩
 refine dO g rfl rfl ?_
 refine dO g rfl rfl ?_
 refine dO g rfl rfl ?_
 refine dO g rfl rfl ?_
 refine dO g rfl rfl ?_
 refine dO g rfl rfl ?_
 refine dO g rfl rfl ?_
 refine dO g rfl rfl ?_
 refine dO g rfl rfl ?_
 refine dO g rfl rfl ?_
 refine dO g rfl rfl ?_
 refine dO g rfl rfl ?_
 refine dO g rfl rfl ?_
 refine dO g rfl rfl ?_
 refine dS (c := ⟨some 43, .bool true, [(28, .bool (decide ((x0.States.length : Int) > (256:Int))))], [], []⟩) (fun t hm => oF rfl rfl (Qf rfl (dk rfl) hm.s0 g rfl rfl)) rfl rfl ?_
 refine Ys (s1 := ⟨[(1, .ptr b 0), (43, .bool true)], [(Vc b x0.Split.Of x0.Split.Many x0.Counts x0.States)]⟩) (ms := [0, 1, 3, 7, 15, 31, 63, 127, 255, 511, 1023, 2047, 4095, 8191, 16383, 32767, 65535, 131071, 262143, 524287, 1048575, 2097151, 4194303, 8388607, 16777215, 33554431, 67108863, 134217727, 268435455, 8388607, 545259519, 1619001343, 3766484991, 8061452287, 16651386879, 34359738367, 68719476735, 137438953471]) Q7 rfl (by kernel_rfl) (by kernel_rfl) (by kernel_rfl) (sf rfl) rfl (fun u hu => (tN (Qd hu ?_)))
 refine Qk rfl rfl ?_
 refine Qd ?_ (J0 K h)
 exact tq rfl rfl
 refine dS (c := ⟨some 29, .ptr b (0 + 258), [(1, .ptr b 0), (28, .bool (decide ((x0.States.length : Int) > (256:Int))))], [], []⟩) (fun t hm => oN rfl rfl rfl hm.s1 g (Ql rfl (dk rfl) Xu rfl i26 (by decide) hm.s0 rfl)) rfl rfl ?_
 refine dS (c := ⟨some 30, .sl false 4 (x0.States.map Qx), [(29, .ptr b (0 + 258)), (28, .bool (decide ((x0.States.length : Int) > (256:Int))))], [(0, (Vc b x0.Split.Of x0.Split.Many x0.Counts x0.States))], []⟩) (fun t hm => oN rfl rfl rfl hm.s1 g (Qo (i := 0) rfl (dk rfl) Vx rfl hm.s0 hm.o0 rfl rfl)) rfl rfl ?_
 obtain ⟨a, w, h⟩ := bind_some h
 refine dS (c := ⟨some 31, .ref [.sl false 1 (mI a.L), .sl false 1 (mI a.R), .sl false 1 (mI a.Rule), .sl false 1 (a.Next.map (cL 2 Qw))], [(30, .sl false 4 (x0.States.map Qx)), (28, .bool (decide ((x0.States.length : Int) > (256:Int))))], [], []⟩) (fun t hm => oN rfl rfl rfl hm.s1 g (Qi (xs := x0.States) (f := Qx) (v := a) rfl (dk rfl) Vx i59 hm.s0 rfl w rfl)) rfl rfl ?_
 refine dS (c := ⟨some 32, .ref [.sl false 1 (mI a.L), .sl false 1 (mI a.R), .sl false 1 (mI a.Rule), .sl false 1 (a.Next.map (cL 2 Qw))], [(31, .ref [.sl false 1 (mI a.L), .sl false 1 (mI a.R), .sl false 1 (mI a.Rule), .sl false 1 (a.Next.map (cL 2 Qw))]), (28, .bool (decide ((x0.States.length : Int) > (256:Int))))], [], []⟩) (fun t hm => oN rfl rfl rfl hm.s1 g (Yr rfl (dk rfl) Uh rfl i56 (by decide) hm.s0 rfl)) rfl rfl ?_
 refine dS (c := ⟨some 33, .sl false 1 (mI a.L), [(32, .ref [.sl false 1 (mI a.L), .sl false 1 (mI a.R), .sl false 1 (mI a.Rule), .sl false 1 (a.Next.map (cL 2 Qw))]), (28, .bool (decide ((x0.States.length : Int) > (256:Int))))], [], []⟩) (fun t hm => oN rfl rfl rfl hm.s1 g (Qu rfl (dk rfl) Yo rfl hm.s0 rfl rfl)) rfl rfl ?_
 refine dS (c := ⟨some 34, .int .i64 (a.L.length : Int), [(33, .sl false 1 (mI a.L)), (28, .bool (decide ((x0.States.length : Int) > (256:Int))))], [], []⟩) (fun t hm => oN rfl rfl rfl hm.s1 g (Qn (xs := a.L) (f := (cI .i64)) rfl (dk rfl) Yo hm.s0 rfl)) rfl rfl ?_
 refine dS (c := ⟨some 35, .ptr b (0 + 258), [(1, .ptr b 0), (28, .bool (decide ((x0.States.length : Int) > (256:Int))))], [], []⟩) (fun t hm => oN rfl rfl rfl hm.s1 g (Ql rfl (dk rfl) Xu rfl i26 (by decide) hm.s0 rfl)) rfl rfl ?_
 refine dS (c := ⟨some 36, .sl false 4 (x0.States.map Qx), [(35, .ptr b (0 + 258)), (28, .bool (decide ((x0.States.length : Int) > (256:Int))))], [(0, (Vc b x0.Split.Of x0.Split.Many x0.Counts x0.States))], []⟩) (fun t hm => oN rfl rfl rfl hm.s1 g (Qo (i := 0) rfl (dk rfl) Vx rfl hm.s0 hm.o0 rfl rfl)) rfl rfl ?_
 refine dS (c := ⟨some 37, .ref [.sl false 1 (mI a.L), .sl false 1 (mI a.R), .sl false 1 (mI a.Rule), .sl false 1 (a.Next.map (cL 2 Qw))], [(36, .sl false 4 (x0.States.map Qx)), (28, .bool (decide ((x0.States.length : Int) > (256:Int))))], [], []⟩) (fun t hm => oN rfl rfl rfl hm.s1 g (Qi (xs := x0.States) (f := Qx) (v := a) rfl (dk rfl) Vx i59 hm.s0 rfl w rfl)) rfl rfl ?_
 refine dS (c := ⟨some 38, .ref [.sl false 1 (mI a.R), .sl false 1 (mI a.Rule), .sl false 1 (a.Next.map (cL 2 Qw))], [(37, .ref [.sl false 1 (mI a.L), .sl false 1 (mI a.R), .sl false 1 (mI a.Rule), .sl false 1 (a.Next.map (cL 2 Qw))]), (28, .bool (decide ((x0.States.length : Int) > (256:Int))))], [], []⟩) (fun t hm => oN rfl rfl rfl hm.s1 g (Yr rfl (dk rfl) Uh rfl i56 (by decide) hm.s0 rfl)) rfl rfl ?_
 refine dS (c := ⟨some 39, .sl false 1 (mI a.R), [(38, .ref [.sl false 1 (mI a.R), .sl false 1 (mI a.Rule), .sl false 1 (a.Next.map (cL 2 Qw))]), (28, .bool (decide ((x0.States.length : Int) > (256:Int))))], [], []⟩) (fun t hm => oN rfl rfl rfl hm.s1 g (Qu rfl (dk rfl) Yo rfl hm.s0 rfl rfl)) rfl rfl ?_
 refine dS (c := ⟨some 40, .int .i64 (a.R.length : Int), [(39, .sl false 1 (mI a.R)), (28, .bool (decide ((x0.States.length : Int) > (256:Int))))], [], []⟩) (fun t hm => oN rfl rfl rfl hm.s1 g (Qn (xs := a.R) (f := (cI .i64)) rfl (dk rfl) Yo hm.s0 rfl)) rfl rfl ?_
 refine dS (c := ⟨some 41, .int .i64 (wI ((a.L.length : Int) + (a.R.length : Int))), [(34, .int .i64 (a.L.length : Int)), (40, .int .i64 (a.R.length : Int)), (28, .bool (decide ((x0.States.length : Int) > (256:Int))))], [], []⟩) (fun t hm => oN rfl rfl rfl hm.s2 g (Qa rfl rfl (dk rfl) hm.s0 hm.s1 rfl)) rfl rfl ?_
 refine dS (c := ⟨some 42, .bool (decide ((wI ((a.L.length : Int) + (a.R.length : Int))) > (0:Int))), [(41, .int .i64 (wI ((a.L.length : Int) + (a.R.length : Int)))), (28, .bool (decide ((x0.States.length : Int) > (256:Int))))], [], []⟩) (fun t hm => oN rfl rfl rfl hm.s1 g (Qa rfl rfl (dk rfl) hm.s0 rfl rfl)) rfl rfl ?_
 refine dS (c := ⟨some 43, .bool (decide ((wI ((a.L.length : Int) + (a.R.length : Int))) > (0:Int))), [(28, .bool (decide ((x0.States.length : Int) > (256:Int)))), (42, .bool (decide ((wI ((a.L.length : Int) + (a.R.length : Int))) > (0:Int))))], [], []⟩) (fun t hm => oF rfl rfl (Qm rfl (dk rfl) hm.s0 g hm.s1 rfl)) rfl rfl ?_
 refine Ys (s1 := ⟨[(1, .ptr b 0), (43, .bool (decide ((wI ((a.L.length : Int) + (a.R.length : Int))) > (0:Int))))], [(Vc b x0.Split.Of x0.Split.Many x0.Counts x0.States)]⟩) (ms := [0, 1, 3, 7, 15, 31, 63, 127, 255, 511, 1023, 2047, 4095, 8191, 16383, 32767, 65535, 131071, 262143, 524287, 1048575, 2097151, 4194303, 8388607, 16777215, 33554431, 67108863, 134217727, 268435455, 8388607, 545259519, 1619001343, 3766484991, 8061452287, 16651386879, 34359738367, 68719476735, 137438953471]) Q7 rfl (by kernel_rfl) (by kernel_rfl) (by kernel_rfl) (sf rfl) rfl (fun u hu => (tN (Qd hu ?_)))
 rcases Qb h with ⟨s, h⟩ | ⟨s, h⟩
 refine Qk rfl s ?_
 refine Qd ?_ (J0 K h)
 exact tq rfl rfl
 refine Qp rfl s ?_
 refine T.skip (tN ?_)
 refine T.seq ?_
 refine T.seq (Qr ?_)
 refine sp rfl (Ql rfl (dk rfl) Xu rfl i25 (by decide) rfl ?_)
 refine sp rfl (Qo (i := 0) rfl (dk rfl) Da rfl rfl rfl rfl ?_)
 refine sp rfl (Qn (xs := x0.Counts) (f := (Ze.dc .i64)) rfl (dk rfl) Da rfl ?_)
 refine mw rfl ?_
 refine TL'.nil (tN ?_)
 refine T.block ?_
 refine T.loop ?_
 refine Qc ?_ (Rx K K x0 (x0.Counts.length : Int) (0:Int) b h)
 exact tq rfl rfl
abbrev Nd (r : List Int) : ES := Jt tp Try.f47 (fun y t => ∃ γ : Nat → Value, y = (.c (.ex (γ 0))) ∧ t = [.arrA (γ 0) 5 1 (mU r)])
theorem Nf (K : Nat) {x1 : Int} {r : List Int} (h : Jc K x1 = some r) : J2 tp 47 [.c (.ex (.slice none 0 0)), .int .i64 x1] [] (fun γ => (.c (.ex (γ 0)))) (fun γ => [.arrA (γ 0) 5 1 (mU r)]) := by
 refine Qs Try.func47 rfl (nb rfl) ?_
 show T tp 27 (ca [] Try.f47) ⟨Qv 0 [.c (.ex (.slice none 0 0)), .int .i64 x1], []⟩ (Nd r)
 unfold Jc at h
 refine T.seq (Qr ?_)
 refine aw rfl ?_
 refine TL'.nil (tN ?_)
 refine T.seq ?_
 refine T.seq (Qr ?_)
 refine mw rfl ?_
 refine sp rfl (Qa rfl rfl (dk rfl) rfl rfl ?_)
 refine TL'.nil (tN ?_)
 rcases Qb h with ⟨a, h⟩ | ⟨a, h⟩
 refine Qk rfl a ?_
 refine Qr ?_
 cases h
 refine Qp rfl a ?_
 refine T.skip (tN ?_)
 refine T.seq ?_
 refine T.seq (Qr ?_)
 refine mw rfl ?_
 refine mw rfl ?_
 refine sp rfl (OpT.capNil rfl (dk rfl) Vj rfl ?_)
 refine mw rfl ?_
 refine sp rfl (OpT.lenEx rfl (dk rfl) Vj rfl ?_)
 refine sp rfl (Qa rfl rfl (dk rfl) rfl rfl ?_)
 refine sp rfl (Qa rfl rfl (dk rfl) rfl rfl ?_)
 refine aw rfl ?_
 refine TL'.nil (tN (T.seq (Qr ?_)))
 refine mw rfl ?_
 refine sp rfl (Qa rfl rfl (dk rfl) rfl rfl ?_)
 refine TL'.nil (tN ?_)
 rcases Qb h with ⟨b, h⟩ | ⟨b, h⟩
 refine Qk rfl b ?_
 refine Qr ?_
 refine mw rfl ?_
 refine mw rfl ?_
 refine sp rfl (OpT.capNil rfl (dk rfl) Vj rfl ?_)
 refine sp rfl (OpT.sliceNil rfl (dk rfl) Vj i5 rfl (.none _) (.some _ _ 0 _ rfl (by decide)) ?_)
 refine mw rfl ?_
 obtain ⟨g, h⟩ := Zm h
 obtain ⟨j, h⟩ := Zm h
 refine sp rfl (Py (f := (cI .u8)) (zv := ((0:Int) : Int)) rfl (dk rfl) Vj ul3 i5 (by decide) rfl rfl rfl rfl rfl g j (fun m => ?_))
 refine mw rfl ?_
 refine sp rfl (OpT.lenEx rfl (dk rfl) Vj rfl ?_)
 obtain ⟨d, h⟩ := Zm h
 refine sp rfl (OpT.sliceX (i := 0) (xs := (List.replicate (Int.toNat (wI (x1 - (wI ((0:Int) - (0:Int)))))) ((0:Int) : Int))) (f := (cI .u8)) (h := (Int.toNat (0:Int))) rfl (dk rfl) Vj i5 rfl rfl (.some _ _ _ _ rfl d.1) d.2 (fun l => ?_))
 refine aw rfl ?_
 refine TL'.nil (tN (T.seq (Qr ?_)))
 refine mw rfl ?_
 refine aw rfl ?_
 refine TL'.nil (tN ?_)
 refine T.ret ?_
 refine Vd (O9 0 rfl) ?_
 exact Q8 (.cons _ _ _ _ (.tmp 4 _ rfl) .nil) (.cons 0 rfl (.nil _)) (by cases h; exact ⟨gl [l], rfl, rfl⟩)
 refine Qp rfl b ?_
 refine T.skip (tN ?_)
 refine T.seq (Qr ?_)
 refine mw rfl ?_
 refine aw rfl ?_
 refine TL'.nil (tN ?_)
 refine T.ret ?_
 refine Vd (Y7 5 1) ?_
 exact Q8 (.cons _ _ _ _ (.tmp 4 _ rfl) .nil) (.cons 0 rfl (.nil _)) (by cases h; exact ⟨gl [Df 4], rfl, rfl⟩)
abbrev X1 (r : List Int) : ES := Jt tp Try.f21 (fun y t => ∃ γ : Nat → Value, y = (.c (.ex (γ 0))) ∧ t = [.arrA (γ 0) 5 1 (mU r)])
abbrev Ml (r : List Int) : ES := thenS (fun s' => T tp 36 (ca [1,1,1,1,1] Try.f21) s' ((X1 r))) ((X1 r))
abbrev Ke (r : List Int) : ES := Q0 2 ((Ml r))
abbrev Bx (r : List Int) : ES := thenS (fun s' => T tp 36 (ca [1,1,1] Try.f21) s' ((X1 r))) ((X1 r))
abbrev Mm (r : List Int) : ES := Q0 0 ((Bx r))
theorem Ck {r : List Int} (K : Nat) : ∀ (k : Nat), ∀ (x0 : List (List Int)) (b d : Int) (a : List Int) (flx0 : Bool) (g : Value), Xp K k x0 b d a = some r → TL tp 36 (ca [1,1,1,1,0,1,0,0] Try.f21) ⟨[(6, .c (.ex g)), (25, .sl flx0 1 (x0.map (cL 1 (cI .u8)))), (26, .int .i64 b), (27, .int .i64 d)], [.arrA g 5 1 (mU a)]⟩ (Ke r) := by
 intro k
 induction k with
 | zero =>
  intro x0 b d a flx0 g h
  cases (show (none : Option (List Int)) = some r from h)
 | succ k ih =>
  intro x0 b d a flx0 g h
  rw [Xp] at h
  refine Za ?_
  refine T.seq (Qr ?_)
  refine sp rfl (Qa rfl rfl (dk rfl) rfl rfl ?_)
  refine TL'.nil (tN ?_)
  refine T.seq ?_
  rcases Qb h with ⟨j, h⟩ | ⟨j, h⟩
  refine Qk rfl j ?_
  refine T.skip (tN ?_)
  refine T.seq ?_
  refine T.block ?_
  refine T.seq (Qr ?_)
  obtain ⟨l, m, h⟩ := bind_some h
  refine sp rfl (Qi (xs := x0) (f := (cL 1 (cI .u8))) (v := l) rfl (dk rfl) ul94 i29 rfl rfl m ?_)
  refine sp rfl (Qu rfl (dk rfl) Vj rfl rfl rfl ?_)
  refine aw rfl ?_
  refine TL'.nil (tN ?_)
  refine Qr ?_
  refine mw rfl ?_
  refine mw rfl ?_
  obtain ⟨p, h⟩ := Zm h
  refine sp rfl (Zf (i := 0) (xs := a) (ys := l) (f := (cI .u8)) rfl (dk rfl) Vj i5 rfl rfl rfl rfl p (fun q => ?_))
  refine aw rfl ?_
  refine TL'.nil (Qe (tN ?_))
  refine Qr ?_
  refine sp rfl (Qa rfl rfl (dk rfl) rfl rfl ?_)
  refine mw rfl ?_
  refine TL'.nil (tN ?_)
  refine Qc ?_ (ih x0 b (wI (d + (1:Int))) (a ++ l) flx0 q h)
  exact tq rfl rfl
  refine Qp rfl j ?_
  refine T.exit (Qh (Qh (Qq (tN ?_))))
  refine T.seq (Qr ?_)
  refine mw rfl ?_
  refine aw rfl ?_
  refine TL'.nil (tN ?_)
  refine T.ret ?_
  exact Q8 (.cons _ _ _ _ (.tmp 2 _ rfl) .nil) (.cons 0 rfl (.nil _)) (by cases h; exact ⟨gl [g], rfl, rfl⟩)
theorem Cl {r : List Int} (K : Nat) : ∀ (k : Nat), ∀ (x0 : List (List Int)) (a b d : Int) (flx0 : Bool), Xq K k x0 a b d = some r → TL tp 36 (ca [1,1,0,1,0,0] Try.f21) ⟨[(0, .sl flx0 1 (x0.map (cL 1 (cI .u8)))), (3, .int .i64 a), (9, .sl flx0 1 (x0.map (cL 1 (cI .u8)))), (10, .int .i64 b), (11, .int .i64 d)], []⟩ (Mm r) := by
 intro k
 induction k with
 | zero =>
  intro x0 a b d flx0 h
  cases (show (none : Option (List Int)) = some r from h)
 | succ k ih =>
  intro x0 a b d flx0 h
  rw [Xq] at h
  refine Za ?_
  refine T.seq (Qr ?_)
  refine sp rfl (Qa rfl rfl (dk rfl) rfl rfl ?_)
  refine TL'.nil (tN ?_)
  refine T.seq ?_
  rcases Qb h with ⟨g, h⟩ | ⟨g, h⟩
  refine Qk rfl g ?_
  refine T.skip (tN ?_)
  refine T.seq ?_
  refine T.block ?_
  refine T.seq (Qr ?_)
  obtain ⟨i, l, h⟩ := bind_some h
  refine sp rfl (Qi (xs := x0) (f := (cL 1 (cI .u8))) (v := i) rfl (dk rfl) ul94 i29 rfl rfl l ?_)
  refine sp rfl (Qu rfl (dk rfl) Vj rfl rfl rfl ?_)
  refine aw rfl ?_
  refine TL'.nil (tN (T.seq (Qr ?_)))
  refine mw rfl ?_
  refine mw rfl ?_
  refine sp rfl (Qn (xs := i) (f := (cI .u8)) rfl (dk rfl) Vj rfl ?_)
  refine sp rfl (Qa rfl rfl (dk rfl) rfl rfl ?_)
  refine aw rfl ?_
  refine TL'.nil (tN (T.seq (Qr ?_)))
  refine mw rfl ?_
  refine sp rfl (Qa rfl rfl (dk rfl) rfl rfl ?_)
  refine TL'.nil (tN ?_)
  rcases Qb h with ⟨j, h⟩ | ⟨j, h⟩
  refine Qk rfl j ?_
  refine Qr ?_
  cases h
  refine Qp rfl j ?_
  refine T.skip (Qe (tN ?_))
  refine Qr ?_
  refine sp rfl (Qa rfl rfl (dk rfl) rfl rfl ?_)
  refine mw rfl ?_
  refine TL'.nil (tN ?_)
  refine Qc ?_ (ih x0 (wI (a + (i.length : Int))) b (wI (d + (1:Int))) flx0 h)
  exact tq rfl rfl
  refine Qp rfl g ?_
  refine T.exit (Qh (Qh (Qq (tN ?_))))
  refine T.seq (Qr ?_)
  refine mw rfl ?_
  refine Xk Zt ?_
  obtain ⟨m, p, h⟩ := bind_some h
  refine sp rfl (Q6 (is := [0]) (ph := [.ro 0 []]) rfl (dk rfl) Try.func47 rfl rfl (Q5.cons rfl (Q5.cons rfl Q5.nil)) (Nf K p) (.cons rfl rfl (.nil)) (fun _ => rfl) (fun q => ?_))
  refine nm (.c (.n)) ?_
  refine aw rfl ?_
  refine TL'.nil (tN ?_)
  refine T.seq ?_
  refine T.seq (Qr ?_)
  refine mw rfl ?_
  refine sp rfl (Qn (xs := x0) (f := (cL 1 (cI .u8))) rfl (dk rfl) ul94 rfl ?_)
  refine mw rfl ?_
  refine TL'.nil (tN ?_)
  refine T.block ?_
  refine T.loop ?_
  refine Qc ?_ (Ck K K x0 (x0.length : Int) (0:Int) m flx0 (q 0) h)
  exact tq rfl rfl
theorem Fg (K : Nat) {x0 : List (List Int)} {flx0 : Bool} {r : List Int} (h : V3 K x0 = some r) : J2 tp 21 [.sl flx0 1 (x0.map (cL 1 (cI .u8)))] [] (fun γ => (.c (.ex (γ 0)))) (fun γ => [.arrA (γ 0) 5 1 (mU r)]) := by
 refine Qs Try.func21 rfl (nb rfl) ?_
 show T tp 36 (ca [] Try.f21) ⟨Qv 0 [.sl flx0 1 (x0.map (cL 1 (cI .u8)))], []⟩ (X1 r)
 unfold V3 at h
 refine T.seq (Qr ?_)
 refine aw rfl ?_
 refine TL'.nil (tN (T.seq (Qr ?_)))
 refine aw rfl ?_
 refine TL'.nil (tN ?_)
 refine T.seq ?_
 refine T.seq (Qr ?_)
 refine mw rfl ?_
 refine sp rfl (Qn (xs := x0) (f := (cL 1 (cI .u8))) rfl (dk rfl) ul94 rfl ?_)
 refine mw rfl ?_
 refine TL'.nil (tN ?_)
 refine T.block ?_
 refine T.loop ?_
 refine Qc ?_ (Cl K K x0 (0:Int) (x0.length : Int) (0:Int) flx0 h)
 exact tq rfl rfl
abbrev Il (r : List Int) : ES := Jt tp Try.f27 (fun y t => ∃ γ : Nat → Value, y = (.c (.ex (γ 0))) ∧ t = [.arrA (γ 0) 5 1 (mU r)])
theorem Im (K : Nat) {x0 : List Int} {flx0 : Bool} {r : List Int} (h : J3 K x0 = some r) : J2 tp 27 [.sl flx0 1 (mU x0)] [] (fun γ => (.c (.ex (γ 0)))) (fun γ => [.arrA (γ 0) 5 1 (mU r)]) := by
 refine Qs Try.func27 rfl (nb rfl) ?_
 show T tp 8 (ca [] Try.f27) ⟨Qv 0 [.sl flx0 1 (mU x0)], []⟩ (Il r)
 unfold J3 at h
 refine T.seq (Qr ?_)
 refine aw rfl ?_
 refine TL'.nil (tN ?_)
 refine T.seq ?_
 refine T.seq (Qr ?_)
 refine mw rfl ?_
 refine sp rfl (OpT.eqNil (xs := x0) (f := (cI .u8)) rfl (dk rfl) Vj rfl rfl (fun b d => ?_))
 refine TL'.nil (tN ?_)
 rcases Bool.eq_false_or_eq_true b with a | a
 have hx := d a
 replace h : (some ([] : List Int)) = some r := by first | (rw [hx] at h; exact h) | exact h
 refine Qk rfl a ?_
 refine T.seq (Qr ?_)
 refine aw rfl ?_
 refine TL'.nil (tN ?_)
 refine T.ret (Qj ?_)
 refine Vd (Y7 5 1) ?_
 exact Q8 (.cons _ _ _ _ (.tmp 2 _ rfl) .nil) (.cons 0 rfl (.nil _)) (by cases h; exact ⟨gl [Df 5], rfl, rfl⟩)
 refine Qp rfl a ?_
 refine T.skip (tN ?_)
 refine T.seq (Qr ?_)
 refine sp rfl (OpT.buildSlice (elems := ([] : List Int).map (cI .u8)) rfl (dk rfl) Vj i5 (by decide) rfl (Ho rfl) rfl rfl rfl (Xc rfl) (by decide) ?_)
 refine mw rfl ?_
 obtain ⟨g, h⟩ := Zm h
 refine sp rfl (F5 (xs := ([] : List Int)) (ys := x0) (f := (cI .u8)) rfl (dk rfl) Vj i5 rfl rfl rfl (.inr rfl) g (fun i => ?_))
 refine aw rfl ?_
 refine TL'.nil (tN ?_)
 refine T.ret ?_
 exact Q8 (.cons _ _ _ _ (.tmp 2 _ rfl) .nil) (.cons 0 rfl (.nil _)) (by cases h; exact ⟨gl [i], rfl, rfl⟩)
abbrev If (r : List Int) : ES := Jt tp Try.f14 (fun y t => ∃ γ : Nat → Value, y = (.c (.ex (γ 0))) ∧ t = [.arrA (γ 0) 5 1 (mU r)])
abbrev P3 (r : List Int) : ES := thenS (fun s' => T tp 25 (ca [1,1,1] Try.f14) s' ((If r))) ((If r))
abbrev Oh (r : List Int) : ES := Q0 0 ((P3 r))
theorem tb_Number_l0_T {r : List Int} (K : Nat) : ∀ (k : Nat), ∀ (a : Int) (b : List Int) (d : Value), U1 K k a b = some r → TL tp 25 (ca [1,1,0,1,0,0] Try.f14) ⟨[(1, .int .i64 a), (5, .c (.ex d))], [.arrA d 5 1 (mU b)]⟩ (Oh r) := by
 intro k
 induction k with
 | zero =>
  intro a b d h
  cases (show (none : Option (List Int)) = some r from h)
 | succ k ih =>
  intro a b d h
  rw [U1] at h
  refine Za ?_
  refine T.seq ?_
  refine T.seq (Qr ?_)
  refine mw rfl ?_
  refine sp rfl (Qa rfl rfl (dk rfl) rfl rfl ?_)
  refine TL'.nil (tN ?_)
  rcases Qb h with ⟨g, h⟩ | ⟨g, h⟩
  refine Qk rfl g ?_
  refine T.skip (tN ?_)
  refine T.seq ?_
  refine T.block ?_
  refine Qr ?_
  refine mw rfl ?_
  refine mw rfl ?_
  refine sp rfl (Yn rfl (dk rfl) ul3 ul5 rfl ?_)
  refine sp rfl (Qa rfl rfl (dk rfl) rfl rfl ?_)
  refine sp rfl (OpT.buildSlice (elems := ([(bits .or .u8 (IntKind.u8.wrap a) (128:Int))] : List Int).map (cI .u8)) rfl (dk rfl) Vj i5 (by decide) rfl (Ho rfl) rfl rfl rfl (Xc rfl) (by decide) ?_)
  obtain ⟨j, h⟩ := Zm h
  refine sp rfl (Zf (i := 0) (xs := b) (ys := [(bits .or .u8 (IntKind.u8.wrap a) (128:Int))]) (f := (cI .u8)) rfl (dk rfl) Vj i5 rfl rfl rfl rfl j (fun l => ?_))
  refine aw rfl ?_
  refine TL'.nil (Qe (tN ?_))
  refine Qr ?_
  refine mw rfl ?_
  refine sp rfl (OpT.shr rfl (dk rfl) rfl rfl (by decide) ?_)
  refine aw rfl ?_
  refine TL'.nil (tN ?_)
  refine Qc ?_ (ih (Int.fdiv a (2 ^ min (Int.toNat (7:Int)) IntKind.i64.bits)) (b ++ [(bits .or .u8 (IntKind.u8.wrap a) (128:Int))]) l h)
  exact tq rfl rfl
  refine Qp rfl g ?_
  refine T.exit (Qh (Qh (Qq (tN ?_))))
  refine T.seq (Qr ?_)
  refine mw rfl ?_
  refine mw rfl ?_
  refine sp rfl (Yn rfl (dk rfl) ul3 ul5 rfl ?_)
  refine sp rfl (OpT.buildSlice (elems := ([(IntKind.u8.wrap a)] : List Int).map (cI .u8)) rfl (dk rfl) Vj i5 (by decide) rfl (Ho rfl) rfl rfl rfl (Xc rfl) (by decide) ?_)
  obtain ⟨m, h⟩ := Zm h
  refine sp rfl (Zf (i := 0) (xs := b) (ys := [(IntKind.u8.wrap a)]) (f := (cI .u8)) rfl (dk rfl) Vj i5 rfl rfl rfl rfl m (fun p => ?_))
  refine aw rfl ?_
  refine TL'.nil (tN ?_)
  refine T.ret ?_
  exact Q8 (.cons _ _ _ _ (.tmp 4 _ rfl) .nil) (.cons 0 rfl (.nil _)) (by cases h; exact ⟨gl [p], rfl, rfl⟩)
theorem P4 (K : Nat) {x0 : List Int} {x1 : Int} {flx0 : Bool} {r : List Int} (h : Bv K x0 x1 = some r) : J2 tp 14 [.sl flx0 1 (mU x0), .int .i64 x1] [] (fun γ => (.c (.ex (γ 0)))) (fun γ => [.arrA (γ 0) 5 1 (mU r)]) := by
 refine Qs Try.func14 rfl (nb rfl) ?_
 show T tp 25 (ca [] Try.f14) ⟨Qv 0 [.sl flx0 1 (mU x0), .int .i64 x1], []⟩ (If r)
 unfold Bv at h
 refine T.seq (Qr ?_)
 refine aw rfl ?_
 refine TL'.nil (tN (T.seq (Qr ?_)))
 refine mw rfl ?_
 refine Xk Zt ?_
 obtain ⟨a, b, h⟩ := bind_some h
 refine sp rfl (Q6 (is := [0]) (ph := [.ro 0 []]) rfl (dk rfl) Try.func27 rfl rfl (Q5.cons rfl Q5.nil) (Im K (flx0 := flx0) b) (.cons rfl rfl (.nil)) (fun _ => rfl) (fun d => ?_))
 refine nm (.c (.n)) ?_
 refine aw rfl ?_
 refine TL'.nil (tN ?_)
 refine T.seq ?_
 refine T.seq (Qr ?_)
 refine mw rfl ?_
 refine sp rfl (OpT.max2 rfl (dk rfl) rfl rfl ?_)
 refine aw rfl ?_
 refine TL'.nil (tN ?_)
 refine T.block ?_
 refine T.loop ?_
 refine Qc ?_ (tb_Number_l0_T K K (if (0:Int) > x1 then (0:Int) else x1) a (d 0) h)
 exact tq rfl rfl
abbrev tbw_num_q (bx0 : Nat) (r : tbw) : ES := Jt tp Try.f22 (fun y t => ∃ γ : Nat → Value, y = (.tup []) ∧ t = [(B7 bx0 (γ 0)), .arrA (γ 0) 5 1 (mU r.b)])
abbrev tbw_num_qb0x (bx0 : Nat) (r : tbw) : ES := Q0 0 ((tbw_num_q bx0 r))
theorem tbw_num_l0_T {r : tbw} (K bx0 : Nat) : ∀ (k : Nat), ∀ (x1 : List Int) (a b : Int) (j : List Int) (flx1 : Bool) (g : Value), Jh K k x1 a b j = some r → TL tp 22 (ca [1,0,0] Try.f22) ⟨[(0, .ptr bx0 0), (6, .sl flx1 1 (mI x1)), (7, .int .i64 a), (8, .int .i64 b)], [(B7 bx0 g), .arrA g 5 1 (mU j)]⟩ (tbw_num_qb0x bx0 r) := by
 intro k
 induction k with
 | zero =>
  intro x1 a b j flx1 g h
  cases (show (none : Option tbw) = some r from h)
 | succ k ih =>
  intro x1 a b j flx1 g h
  rw [Jh] at h
  refine Za ?_
  refine T.seq (Qr ?_)
  refine sp rfl (Qa rfl rfl (dk rfl) rfl rfl ?_)
  refine TL'.nil (tN ?_)
  refine T.seq ?_
  rcases Qb h with ⟨l, h⟩ | ⟨l, h⟩
  refine Qk rfl l ?_
  refine T.skip (tN ?_)
  refine T.seq ?_
  refine T.block ?_
  refine T.seq (Qr ?_)
  obtain ⟨p, q, h⟩ := bind_some h
  refine sp rfl (Qi (xs := x1) (f := (cI .i64)) (v := p) rfl (dk rfl) Yo i3 rfl rfl q ?_)
  refine sp rfl (Qu rfl (dk rfl) ul3 rfl rfl rfl ?_)
  refine aw rfl ?_
  refine TL'.nil (tN ?_)
  refine Qr ?_
  refine mw rfl ?_
  refine mw rfl ?_
  refine sp rfl (OpT.nilCheck rfl (dk rfl) rfl rfl ?_)
  refine sp rfl (Ql rfl (dk rfl) ul54 rfl i29 (by decide) rfl ?_)
  refine sp rfl (Zo (Qo (i := 0) rfl (dk rfl) Vj rfl rfl rfl rfl rfl) (G4 16 1 rfl) ?_)
  refine mw rfl ?_
  refine Xk Zt ?_
  obtain ⟨u, w, h⟩ := bind_some h
  refine sp rfl (Q6 (is := [0]) (ph := [.ro 0 []]) rfl (dk rfl) Try.func14 rfl rfl (Q5.cons rfl (Q5.cons rfl Q5.nil)) (P4 K (flx0 := false) w) (.cons rfl rfl (.nil)) (fun _ => rfl) (fun m => ?_))
  refine nm (.c (.c (.c (.n)))) ?_
  refine sp rfl (OpT.nilCheck rfl (dk rfl) rfl rfl ?_)
  refine sp rfl (Ql rfl (dk rfl) ul54 rfl i29 (by decide) rfl ?_)
  refine sp rfl (Ug (i := 1) (cells' := [.d (.ex (m 0))]) rfl rfl i29 rfl rfl rfl (nb rfl) rfl ?_)
  refine TL'.nil (Qe (tN ?_))
  refine Qr ?_
  refine sp rfl (Qa rfl rfl (dk rfl) rfl rfl ?_)
  refine mw rfl ?_
  refine TL'.nil (tN ?_)
  refine Qc ?_ (ih x1 a (wI (b + (1:Int))) u flx1 (m 0) h)
  exact tr rfl (.c (.s .z) (.c .z (.n _)))
  refine Qp rfl l ?_
  refine T.exit (Qh (Qh (Qq ?_)))
  exact Q8 (.nil) (.cons 0 rfl (.cons 0 rfl (.nil _))) (by cases h; exact ⟨gl [g], rfl, rfl⟩)
theorem Kj (K : Nat) {x0 : tbw} {x1 : List Int} {bx0 : Nat} {wx0c0 : Value} {flx1 : Bool} {r : tbw} (h : Gg K x0 x1 = some r) : J2 tp 22 [.ptr bx0 0, .sl flx1 1 (mI x1)] [(B7 bx0 wx0c0), .arrA wx0c0 5 1 (mU x0.b)] (fun γ => (.tup [])) (fun γ => [(B7 bx0 (γ 0)), .arrA (γ 0) 5 1 (mU r.b)]) := by
 refine Qs Try.func22 rfl (nb rfl) ?_
 show T tp 22 (ca [] Try.f22) ⟨Qv 0 [.ptr bx0 0, .sl flx1 1 (mI x1)], [(B7 bx0 wx0c0), .arrA wx0c0 5 1 (mU x0.b)]⟩ (tbw_num_q bx0 r)
 unfold Gg at h
 refine T.seq (Qr ?_)
 refine mw rfl ?_
 refine sp rfl (Qn (xs := x1) (f := (cI .i64)) rfl (dk rfl) Yo rfl ?_)
 refine mw rfl ?_
 refine TL'.nil (tN ?_)
 refine T.block ?_
 refine T.loop ?_
 refine Qc ?_ (tbw_num_l0_T K bx0 K x1 (x1.length : Int) (0:Int) x0.b flx1 wx0c0 h)
 exact tq rfl rfl
abbrev tbw_list_q (bx0 : Nat) (r : tbw) : ES := Jt tp Try.f23 (fun y t => ∃ γ : Nat → Value, y = (.tup []) ∧ t = [(B7 bx0 (γ 0)), .arrA (γ 0) 5 1 (mU r.b)])
theorem tbw_list_T (K : Nat) {x0 : tbw} {x1 : List Int} {bx0 : Nat} {wx0c0 : Value} {flx1 : Bool} {r : tbw} (h : E6 K x0 x1 = some r) : J2 tp 23 [.ptr bx0 0, .sl flx1 1 (mI x1)] [(B7 bx0 wx0c0), .arrA wx0c0 5 1 (mU x0.b)] (fun γ => (.tup [])) (fun γ => [(B7 bx0 (γ 0)), .arrA (γ 0) 5 1 (mU r.b)]) := by
 refine Qs Try.func23 rfl (nb rfl) ?_
 show T tp 12 (ca [] Try.f23) ⟨Qv 0 [.ptr bx0 0, .sl flx1 1 (mI x1)], [(B7 bx0 wx0c0), .arrA wx0c0 5 1 (mU x0.b)]⟩ (tbw_list_q bx0 r)
 unfold E6 at h
 refine T.seq (Qr ?_)
 refine mw rfl ?_
 refine mw rfl ?_
 refine sp rfl (Qn (xs := x1) (f := (cI .i64)) rfl (dk rfl) Yo rfl ?_)
 refine sp rfl (OpT.buildSlice (elems := ([(x1.length : Int)] : List Int).map (cI .i64)) rfl (dk rfl) Yo i3 (by decide) rfl (Ho rfl) rfl rfl rfl (Xc rfl) (by decide) ?_)
 obtain ⟨l, a, h⟩ := bind_some h
 refine sp rfl (Q6 (is := [0, 1]) (ph := []) rfl (dk rfl) Try.func22 rfl rfl (Q5.cons rfl (Q5.cons rfl Q5.nil)) (Kj K (bx0 := bx0) (wx0c0 := wx0c0) (flx1 := true) a) (.cons rfl rfl (.cons rfl rfl (.nil))) (fun _ => rfl) (fun g => ?_))
 refine nm (.c (.c (.n))) ?_
 refine TL'.nil (tN ?_)
 refine Qr ?_
 refine mw rfl ?_
 refine mw rfl ?_
 obtain ⟨m, i, h⟩ := bind_some h
 refine sp rfl (Q6 (is := [0, 1]) (ph := []) rfl (dk rfl) Try.func22 rfl rfl (Q5.cons rfl (Q5.cons rfl Q5.nil)) (Kj K (bx0 := bx0) (wx0c0 := (g 0)) (flx1 := flx1) i) (.cons rfl rfl (.cons rfl rfl (.nil))) (fun _ => rfl) (fun j => ?_))
 refine nm (.c (.c (.n))) ?_
 refine TL'.nil ?_
 exact Q8 (.nil) (.cons 0 rfl (.cons 0 rfl (.nil _))) (by cases h; exact ⟨gl [j 0], rfl, rfl⟩)
end Go.Rv

/- Each function computes what its plain text says: printed by a program of ours. -/
import Derived.Test.YtaipjabggdifoaaRgW0
namespace Go.Rv
open Go.Proofs
set_option maxRecDepth 100000
set_option maxHeartbeats 4000000
set_option linter.unusedVariables false
abbrev Ef (r : Bool) : ES := Jk tp Try.f43 (fun y t => y = (.bool r) ∧ t = [])
abbrev Ss (r : Bool) : ES := thenS (fun s' => T tp 28 (ca [1,1,1] Try.f43) s' ((Ef r))) ((Ef r))
abbrev Pi (r : Bool) : ES := Qz 0 ((Ss r))
theorem T4 {r : Bool} (K : Nat) : ∀ (k : Nat), ∀ (b : Int) (x0 : aSp) (f : Int) (g : Nat), Vz K k b x0 f = some r → TL tp 28 (ca [1,1,0,1,0,0] Try.f43) ⟨[(1, .ptr g 0), (3, .int .i64 b), (7, .agg (Qx.dc 256 .u8 x0.Of)), (8, .int .i64 f)], [(On g x0.Of x0.Many)]⟩ (Pi r) := by
 intro k
 induction k with
 | zero =>
  intro b x0 f g h
  cases (show (none : Option Bool) = some r from h)
 | succ k ih =>
  intro b x0 f g h
  rw [Vz] at h
  refine Q4 ?_
  refine T.seq (Qq ?_)
  refine sp rfl (Qa rfl rfl (dk rfl) rfl rfl ?_)
  refine TL'.nil (tN ?_)
  refine T.seq ?_
  rcases Qd h with ⟨l, h⟩ | ⟨l, h⟩
  refine Qk rfl l ?_
  refine T.skip (tN ?_)
  refine T.seq ?_
  refine T.block ?_
  refine T.seq (Qq ?_)
  obtain ⟨j, h⟩ := Zh h
  refine sp rfl (OpT.indexArr rfl (dk rfl) ul22 ul5 rfl i5 rfl rfl j.1 j.2 (Qx.dc_get (n := 256) (a := x0.Of) (k := .u8) j.1 j.2) ?_)
  refine aw rfl ?_
  refine TL'.nil (tN ?_)
  refine T.block ?_
  refine T.seq (Qq ?_)
  refine mw rfl ?_
  refine sp rfl (Z9 rfl (dk rfl) ul5 ul3 rfl ?_)
  refine mw rfl ?_
  refine sp rfl (Qa rfl rfl (dk rfl) rfl rfl ?_)
  refine aw rfl ?_
  refine TL'.nil (tN ?_)
  rcases Qd h with ⟨m, h⟩ | ⟨m, h⟩
  refine Qk rfl m ?_
  refine T.seq (Qq ?_)
  refine aw rfl ?_
  refine TL'.nil (tN ?_)
  refine T.ret (Qy (Qy (Ql (Ql (Qy (Ql ?_))))))
  exact Fin.done (.cons _ _ _ _ (.tmp 2 _ rfl) .nil) (by cases h; exact ⟨rfl, rfl⟩)
  refine Qo rfl m ?_
  refine T.seq (Qq ?_)
  refine mw rfl ?_
  refine sp rfl (Z9 rfl (dk rfl) ul5 ul3 rfl ?_)
  refine mw rfl ?_
  refine sp rfl (Qa rfl rfl (dk rfl) rfl rfl ?_)
  refine aw rfl ?_
  refine TL'.nil (tN ?_)
  rcases Qd h with ⟨p, h⟩ | ⟨p, h⟩
  refine Qk rfl p ?_
  refine Qq ?_
  refine mw rfl ?_
  refine sp rfl (Qa rfl rfl (dk rfl) rfl rfl ?_)
  refine aw rfl ?_
  refine TL'.nil (Qe (Qe (tN ?_)))
  refine Qq ?_
  refine sp rfl (Qa rfl rfl (dk rfl) rfl rfl ?_)
  refine mw rfl ?_
  refine TL'.nil (tN ?_)
  refine Qb ?_ (ih (wI (b + (1:Int))) x0 (wI (f + (1:Int))) g h)
  exact tq rfl rfl
  refine Qo rfl p ?_
  refine T.skip (Qe (Qe (tN ?_)))
  refine Qq ?_
  refine sp rfl (Qa rfl rfl (dk rfl) rfl rfl ?_)
  refine mw rfl ?_
  refine TL'.nil (tN ?_)
  refine Qb ?_ (ih b x0 (wI (f + (1:Int))) g h)
  exact tq rfl rfl
  refine Qo rfl l ?_
  refine T.exit (Qf (Qf (Qp (tN ?_))))
  refine T.seq (Qq ?_)
  refine mw rfl ?_
  refine sp rfl (Qg rfl (dk rfl) Ig rfl i3 (by decide) rfl ?_)
  refine sp rfl (Qm (i := 0) rfl (dk rfl) ul3 rfl rfl rfl rfl ?_)
  refine sp rfl (Qa rfl rfl (dk rfl) rfl rfl ?_)
  refine aw rfl ?_
  refine TL'.nil (tN ?_)
  refine T.ret ?_
  exact Fin.done (.cons _ _ _ _ (.tmp 2 _ rfl) .nil) (by cases h; exact ⟨rfl, rfl⟩)
theorem split_Right_T (K : Nat) {x0 : aSp} {r : Bool} (h : M9 K x0 = some r) : Zt tp 43 [.agg ((Qx.dc 256 .u8 x0.Of) ++ (([.int .i64 x0.Many] : List DC)))] [] (.bool r) := by
 refine Qt Try.func43 rfl (nb rfl) ?_
 show T tp 28 (ca [] Try.f43) ⟨Qv 0 [.agg ((Qx.dc 256 .u8 x0.Of) ++ (([.int .i64 x0.Many] : List DC)))], []⟩ (Ef r)
 unfold M9 at h
 refine T.seq (Qq ?_)
 refine sp rfl (Zg rfl (dk rfl) rfl (fun a => ?_))
 refine aw rfl ?_
 refine TL'.nil (tN (T.seq (Qq ?_)))
 refine aw rfl ?_
 refine TL'.nil (tN ?_)
 refine T.seq ?_
 refine T.seq (Qq ?_)
 refine sp rfl (Qg rfl (dk rfl) Ig rfl i22 (by decide) rfl ?_)
 refine sp rfl (Ze (i := 0) (l := (Qx.dc 256 .u8 x0.Of)) rfl (dk rfl) ul22 rfl i22 rfl rfl rfl rfl ?_)
 refine mw rfl ?_
 refine TL'.nil (tN ?_)
 refine T.block ?_
 refine T.loop ?_
 refine Qb ?_ (T4 K K (0:Int) x0 (0:Int) a h)
 exact tq rfl rfl
abbrev Ky (r : Int) : ES := Jk tp Try.f36 (fun y t => y = (.int .i64 r) ∧ t = [])
abbrev Qbg (r : Int) : ES := thenS (fun s' => T tp 17 (ca [1,1] Try.f36) s' ((Ky r))) ((Ky r))
abbrev Tj (r : Int) : ES := thenS (fun s' => T tp 17 (ca [1,1,1,1] Try.f36) s' ((Ky r))) ((Ky r))
abbrev Rb (r : Int) : ES := Qz 0 ((Tj r))
theorem Nk {r : Int} (K : Nat) (h : La K = some r) : T tp 17 (ca [1,0,1,0] Try.f36) ⟨[], []⟩ (Qbg r) := by
 unfold La at h
 refine T.seq (Qq ?_)
 refine aw rfl ?_
 refine TL'.nil (tN ?_)
 refine T.ret (Ql ?_)
 exact Fin.done (.cons _ _ _ _ (.tmp 2 _ rfl) .nil) (by cases h; exact ⟨rfl, rfl⟩)
theorem Qbh {r : Int} (K : Nat) : ∀ (k : Nat), ∀ (a x0 b : Int), G9 K k a x0 b = some r → TL tp 17 (ca [1,1,1,0,1,0,0] Try.f36) ⟨[(3, .int .i64 a), (10, .int .i64 x0), (11, .int .i64 b)], []⟩ (Rb r) := by
 intro k
 induction k with
 | zero =>
  intro a x0 b h
  cases (show (none : Option Int) = some r from h)
 | succ k ih =>
  intro a x0 b h
  rw [G9] at h
  refine Q4 ?_
  refine T.seq (Qq ?_)
  refine sp rfl (Qa rfl rfl (dk rfl) rfl rfl ?_)
  refine TL'.nil (tN ?_)
  refine T.seq ?_
  rcases Qd h with ⟨c, h⟩ | ⟨c, h⟩
  refine Qk rfl c ?_
  refine T.skip (tN ?_)
  refine T.seq ?_
  refine T.block ?_
  refine Qq ?_
  refine mw rfl ?_
  refine sp rfl (Qa rfl rfl (dk rfl) rfl rfl ?_)
  refine aw rfl ?_
  refine TL'.nil (Qe (tN ?_))
  refine Qq ?_
  refine sp rfl (Qa rfl rfl (dk rfl) rfl rfl ?_)
  refine mw rfl ?_
  refine TL'.nil (tN ?_)
  refine Qb ?_ (ih (wI (a * (3:Int))) x0 (wI (b + (1:Int))) h)
  exact tq rfl rfl
  refine Qo rfl c ?_
  refine T.exit (Qf (Qf (Qp (tN ?_))))
  refine T.seq (Qq ?_)
  refine mw rfl ?_
  refine aw rfl ?_
  refine TL'.nil (tN ?_)
  refine T.ret ?_
  exact Fin.done (.cons _ _ _ _ (.tmp 2 _ rfl) .nil) (by cases h; exact ⟨rfl, rfl⟩)
theorem Tw (K : Nat) {x0 r : Int} (h : Gg K x0 = some r) : Zt tp 36 [.int .i64 x0] [] (.int .i64 r) := by
 refine Qt Try.func36 rfl (nb rfl) ?_
 show T tp 17 (ca [] Try.f36) ⟨Qv 0 [.int .i64 x0], []⟩ (Ky r)
 unfold Gg at h
 refine T.seq (Qq ?_)
 refine aw rfl ?_
 refine TL'.nil (tN ?_)
 refine T.seq ?_
 refine T.seq (Qq ?_)
 refine mw rfl ?_
 refine sp rfl (Qa rfl rfl (dk rfl) rfl rfl ?_)
 refine mw rfl ?_
 rcases Qd h with ⟨a, h⟩ | ⟨a, h⟩
 refine pf rfl a ?_
 refine pf rfl a ?_
 refine sp rfl (Qi rfl (dk rfl) rfl a rfl ?_)
 refine TL'.nil (tN ?_)
 refine Qk rfl rfl ?_
 refine Qc ?_ (Nk K h)
 exact tq rfl rfl
 refine sn rfl a (OpT.move rfl (dk rfl) rfl ?_)
 refine sn rfl a (Qa rfl rfl (dk rfl) rfl rfl ?_)
 refine sp rfl (Qs rfl (dk rfl) rfl a rfl ?_)
 refine TL'.nil (tN ?_)
 rcases Qd h with ⟨b, h⟩ | ⟨b, h⟩
 refine Qk rfl b ?_
 refine Qc ?_ (Nk K h)
 exact tq rfl rfl
 refine Qo rfl b ?_
 refine T.skip (tN ?_)
 refine T.seq (Qq ?_)
 refine aw rfl ?_
 refine TL'.nil (tN ?_)
 refine T.seq ?_
 refine T.seq (Qq ?_)
 refine mw rfl ?_
 refine mw rfl ?_
 refine TL'.nil (tN ?_)
 refine T.block ?_
 refine T.loop ?_
 refine Qb ?_ (Qbh K K (1:Int) x0 (0:Int) h)
 exact tq rfl rfl
abbrev Ni (r : Bool) : ES := Jk tp Try.f64 (fun y t => y = (.bool r) ∧ t = [])
abbrev Qaa (r : Bool) : ES := thenS (fun s' => T tp 24 (ca [1,1,1] Try.f64) s' ((Ni r))) ((Ni r))
abbrev G5 (r : Bool) : ES := Qz 0 ((Qaa r))
abbrev Cr (r : Bool) : ES := thenS (fun s' => TL tp 24 (ca [1,1,0,1,0,0] Try.f64) s' ((G5 r))) ((G5 r))
abbrev Ia (r : Bool) : ES := thenS (fun s' => T tp 24 (ca [1,1,0,1,0,0,1,1,1] Try.f64) s' ((Cr r))) ((Cr r))
abbrev He (r : Bool) : ES := Qz 1 ((Ia r))
abbrev C6 (r : Bool) : ES := thenS (fun s' => T tp 24 (ca [1,1,0,1,0,0,1,1,0,0,1,1] Try.f64) s' ((He r))) ((He r))
theorem Nj {r : Bool} (K : Nat) (h : G6 K = some r) : T tp 24 (ca [1,1,0,1,0,0,1,1,0,0,1,0,1,0] Try.f64) ⟨[], []⟩ (C6 r) := by
 unfold G6 at h
 refine T.seq (Qq ?_)
 refine aw rfl ?_
 refine TL'.nil (tN ?_)
 refine T.ret (Ql (Qy (Ql (Ql (Qy (Ql ?_))))))
 exact Fin.done (.cons _ _ _ _ (.tmp 4 _ rfl) .nil) (by cases h; exact ⟨rfl, rfl⟩)
theorem Qbd {r : Bool} (K : Nat) : ∀ (k : Nat), ∀ (x1 d : Int) (x0 : List Int) (b c : Int) (flx0 : Bool), Jv K k x1 d x0 b c = some r → TL tp 24 (ca [1,1,0,1,0,0] Try.f64) ⟨[(1, .int .i64 x1), (5, .int .i64 d), (8, .sl flx0 1 (mI x0)), (9, .int .i64 b), (10, .int .i64 c)], []⟩ (G5 r) := by
 intro k
 induction k with
 | zero =>
  intro x1 d x0 b c flx0 h
  cases (show (none : Option Bool) = some r from h)
 | succ k ih =>
  intro x1 d x0 b c flx0 h
  rw [Jv] at h
  refine Q4 ?_
  refine T.seq (Qq ?_)
  refine sp rfl (Qa rfl rfl (dk rfl) rfl rfl ?_)
  refine TL'.nil (tN ?_)
  refine T.seq ?_
  rcases Qd h with ⟨g, h⟩ | ⟨g, h⟩
  refine Qk rfl g ?_
  refine T.skip (tN ?_)
  refine T.seq ?_
  refine T.block ?_
  refine T.seq (Qq ?_)
  obtain ⟨j, l, h⟩ := bind_some h
  refine sp rfl (Qh (xs := x0) (f := (cI .i64)) (v := j) rfl (dk rfl) Yd i3 rfl rfl l ?_)
  refine sp rfl (Qr rfl (dk rfl) ul3 rfl rfl rfl ?_)
  refine aw rfl ?_
  refine TL'.nil (tN ?_)
  refine T.seq ?_
  refine T.seq (Qq ?_)
  refine mw rfl ?_
  refine mw rfl ?_
  refine sp rfl (Qa rfl rfl (dk rfl) rfl rfl ?_)
  refine mw rfl ?_
  rcases Qd h with ⟨a, h⟩ | ⟨a, h⟩
  refine pf rfl a ?_
  refine pf rfl a ?_
  refine pf rfl a ?_
  refine sp rfl (Qi rfl (dk rfl) rfl a rfl ?_)
  refine TL'.nil (tN ?_)
  refine Qk rfl rfl ?_
  refine Qc ?_ (Nj K h)
  exact tq rfl rfl
  refine sn rfl a (OpT.move rfl (dk rfl) rfl ?_)
  refine sn rfl a (OpT.move rfl (dk rfl) rfl ?_)
  refine sn rfl a (Qa rfl rfl (dk rfl) rfl rfl ?_)
  refine sp rfl (Qs rfl (dk rfl) rfl a rfl ?_)
  refine TL'.nil (tN ?_)
  rcases Qd h with ⟨i, h⟩ | ⟨i, h⟩
  refine Qk rfl i ?_
  refine Qc ?_ (Nj K h)
  exact tq rfl rfl
  refine Qo rfl i ?_
  refine T.skip (tN ?_)
  refine Qq ?_
  refine mw rfl ?_
  refine aw rfl ?_
  refine TL'.nil (Qe (tN ?_))
  refine Qq ?_
  refine sp rfl (Qa rfl rfl (dk rfl) rfl rfl ?_)
  refine mw rfl ?_
  refine TL'.nil (tN ?_)
  refine Qb ?_ (ih x1 j x0 b (wI (c + (1:Int))) flx0 h)
  exact tq rfl rfl
  refine Qo rfl g ?_
  refine T.exit (Qf (Qf (Qp (tN ?_))))
  refine T.seq (Qq ?_)
  refine aw rfl ?_
  refine TL'.nil (tN ?_)
  refine T.ret ?_
  exact Fin.done (.cons _ _ _ _ (.tmp 4 _ rfl) .nil) (by cases h; exact ⟨rfl, rfl⟩)
theorem Tu (K : Nat) {x0 : List Int} {x1 : Int} {flx0 r : Bool} (h : Mz K x0 x1 = some r) : Zt tp 64 [.sl flx0 1 (mI x0), .int .i64 x1] [] (.bool r) := by
 refine Qt Try.func64 rfl (nb rfl) ?_
 show T tp 24 (ca [] Try.f64) ⟨Qv 0 [.sl flx0 1 (mI x0), .int .i64 x1], []⟩ (Ni r)
 unfold Mz at h
 refine T.seq (Qq ?_)
 refine aw rfl ?_
 refine TL'.nil (tN (T.seq (Qq ?_)))
 refine aw rfl ?_
 refine TL'.nil (tN ?_)
 refine T.seq ?_
 refine T.seq (Qq ?_)
 refine mw rfl ?_
 refine sp rfl (Qn (xs := x0) (f := (cI .i64)) rfl (dk rfl) Yd rfl ?_)
 refine mw rfl ?_
 refine TL'.nil (tN ?_)
 refine T.block ?_
 refine T.loop ?_
 refine Qb ?_ (Qbd K K x1 (-1:Int) x0 (x0.length : Int) (0:Int) flx0 h)
 exact tq rfl rfl
abbrev Gs (r : Int) : ES := Jk tp Try.f95 (fun y t => y = (.int .i64 r) ∧ t = [])
abbrev Ir (r : Int) : ES := thenS (fun s' => T tp 19 (ca [1,1] Try.f95) s' ((Gs r))) ((Gs r))
abbrev Eh (r : Int) : ES := Qz 0 ((Ir r))
theorem It {r : Int} (K : Nat) : ∀ (k : Nat), ∀ (x0 : List Int) (x1 a b : Int) (flx0 : Bool), Xi K k x0 x1 a b = some r → TL tp 19 (ca [1,0,1,0,0] Try.f95) ⟨[(0, .sl flx0 1 (mI x0)), (1, .int .i64 x1), (7, .int .i64 a), (8, .int .i64 b)], []⟩ (Eh r) := by
 intro k
 induction k with
 | zero =>
  intro x0 x1 a b flx0 h
  cases (show (none : Option Int) = some r from h)
 | succ k ih =>
  intro x0 x1 a b flx0 h
  rw [Xi] at h
  refine Q4 ?_
  refine T.seq (Qq ?_)
  refine sp rfl (Qa rfl rfl (dk rfl) rfl rfl ?_)
  refine TL'.nil (tN ?_)
  refine T.seq ?_
  rcases Qd h with ⟨c, h⟩ | ⟨c, h⟩
  refine Qk rfl c ?_
  refine T.skip (tN ?_)
  refine T.seq ?_
  refine T.block ?_
  refine T.seq (Qq ?_)
  refine mw rfl ?_
  refine aw rfl ?_
  refine TL'.nil (tN (T.seq (Qq ?_)))
  iterate 3 refine mw rfl ?_
  obtain ⟨g, i, h⟩ := bind_some h
  refine sp rfl (Qh (xs := x0) (f := (cI .i64)) (v := g) rfl (dk rfl) Yd i3 rfl rfl i ?_)
  refine sp rfl (Qr rfl (dk rfl) ul3 rfl rfl rfl ?_)
  refine sp rfl (Qa rfl rfl (dk rfl) rfl rfl ?_)
  refine TL'.nil (tN ?_)
  rcases Qd h with ⟨d, h⟩ | ⟨d, h⟩
  refine Qk rfl d ?_
  refine T.seq (Qq ?_)
  refine mw rfl ?_
  refine aw rfl ?_
  refine TL'.nil (tN ?_)
  refine T.ret (Qy (Ql (Ql (Qy (Ql ?_)))))
  exact Fin.done (.cons _ _ _ _ (.tmp 4 _ rfl) .nil) (by cases h; exact ⟨rfl, rfl⟩)
  refine Qo rfl d ?_
  refine T.skip (Qe (tN ?_))
  refine Qq ?_
  refine sp rfl (Qa rfl rfl (dk rfl) rfl rfl ?_)
  refine mw rfl ?_
  refine TL'.nil (tN ?_)
  refine Qb ?_ (ih x0 x1 a (wI (b + (1:Int))) flx0 h)
  exact tq rfl rfl
  refine Qo rfl c ?_
  refine T.exit (Qf (Qf (Qp (tN ?_))))
  refine T.seq (Qq ?_)
  refine aw rfl ?_
  refine TL'.nil (tN ?_)
  refine T.ret ?_
  exact Fin.done (.cons _ _ _ _ (.tmp 4 _ rfl) .nil) (by cases h; exact ⟨rfl, rfl⟩)
theorem Rj (K : Nat) {x0 : List Int} {x1 : Int} {flx0 : Bool} {r : Int} (h : Ho K x0 x1 = some r) : Zt tp 95 [.sl flx0 1 (mI x0), .int .i64 x1] [] (.int .i64 r) := by
 refine Qt Try.func95 rfl (nb rfl) ?_
 show T tp 19 (ca [] Try.f95) ⟨Qv 0 [.sl flx0 1 (mI x0), .int .i64 x1], []⟩ (Gs r)
 unfold Ho at h
 refine T.seq (Qq ?_)
 refine aw rfl ?_
 refine TL'.nil (tN ?_)
 refine T.seq ?_
 refine T.seq (Qq ?_)
 refine mw rfl ?_
 refine sp rfl (Qn (xs := x0) (f := (cI .i64)) rfl (dk rfl) Yd rfl ?_)
 refine mw rfl ?_
 refine TL'.nil (tN ?_)
 refine T.block ?_
 refine T.loop ?_
 refine Qb ?_ (It K K x0 x1 (x0.length : Int) (0:Int) flx0 h)
 exact tq rfl rfl
abbrev Iu (r : Bool) : ES := Jk tp Try.f86 (fun y t => y = (.bool r) ∧ t = [])
theorem Iv (K : Nat) {x0 : List Int} {x1 : Int} {flx0 r : Bool} (h : V1 K x0 x1 = some r) : Zt tp 86 [.sl flx0 1 (mI x0), .int .i64 x1] [] (.bool r) := by
 refine Qt Try.func86 rfl (nb rfl) ?_
 show T tp 9 (ca [] Try.f86) ⟨Qv 0 [.sl flx0 1 (mI x0), .int .i64 x1], []⟩ (Iu r)
 unfold V1 at h
 refine T.seq (Qq ?_)
 refine aw rfl ?_
 refine TL'.nil (tN (T.seq (Qq ?_)))
 refine mw rfl ?_
 refine mw rfl ?_
 obtain ⟨b, a, h⟩ := bind_some h
 refine sp rfl (Q5 rfl (dk rfl) Try.func95 rfl rfl (Q3.cons rfl (Q3.cons rfl Q3.nil)) (Zt.nil (Rj K (flx0 := flx0) a)) ?_)
 refine sp rfl (Qa rfl rfl (dk rfl) rfl rfl ?_)
 refine aw rfl ?_
 refine TL'.nil (tN ?_)
 refine T.ret ?_
 exact Fin.done (.cons _ _ _ _ (.tmp 4 _ rfl) .nil) (by cases h; exact ⟨rfl, rfl⟩)
abbrev V9 (r : Bool) : ES := Jk tp Try.f67 (fun y t => y = (.bool r) ∧ t = [])
abbrev E5 (r : Bool) : ES := thenS (fun s' => T tp 79 (ca [1,1,1] Try.f67) s' ((V9 r))) ((V9 r))
abbrev D7 (r : Bool) : ES := thenS (fun s' => T tp 79 (ca [1,1,1,1] Try.f67) s' ((V9 r))) ((V9 r))
abbrev Uf (r : Bool) : ES := Qz 0 ((D7 r))
abbrev Hf (r : Bool) : ES := thenS (fun s' => TL tp 79 (ca [1,1,1,0,1,0,0] Try.f67) s' ((Uf r))) ((Uf r))
abbrev Kw (r : Bool) : ES := thenS (fun s' => T tp 79 (ca [1,1,1,0,1,0,0,1,1,1] Try.f67) s' ((Hf r))) ((Hf r))
abbrev Gl (r : Bool) : ES := Qz 1 ((Kw r))
theorem Wf {r : Bool} (K : Nat) (h : Yl K = some r) : T tp 79 (ca [1,1,0,1,0] Try.f67) ⟨[], []⟩ (E5 r) := by
 unfold Yl at h
 refine T.seq (Qq ?_)
 refine aw rfl ?_
 refine TL'.nil (tN ?_)
 refine T.ret (Ql ?_)
 exact Fin.done (.cons _ _ _ _ (.tmp 6 _ rfl) .nil) (by cases h; exact ⟨rfl, rfl⟩)
theorem We {r : Bool} (K : Nat) (h : Yk K = some r) : T tp 79 (ca [1,1,1,0,1,0,0,1,1,0,0,1,1,0] Try.f67) ⟨[], []⟩ (Gl r) := by
 unfold Yk at h
 refine T.seq (Qq ?_)
 refine aw rfl ?_
 refine TL'.nil (tN ?_)
 refine T.ret (Qy (Ql (Ql (Qy (Ql ?_)))))
 exact Fin.done (.cons _ _ _ _ (.tmp 6 _ rfl) .nil) (by cases h; exact ⟨rfl, rfl⟩)
theorem Ie {r : Bool} (K : Nat) : ∀ (k : Nat), ∀ (x2 : aMv) (w p : Int) (x0 : Q9) (x1 : aSt) (j l m : Nat), Yj K k x2 w p x0 x1 = some r → TL tp 79 (ca [1,1,1,0,1,0,0] Try.f67) ⟨[(3, .ptr j 0), (4, .ptr l 0), (5, .ptr m 0), (44, .sl false 1 (mU x2.Ops)), (45, .int .i64 w), (46, .int .i64 p)], [(J5 j x0.Auto.Split.Of x0.Auto.Split.Many x0.Auto.Counts x0.Auto.States), (Zw l x1.L x1.R x1.Rule x1.Next), (W9 m x2.To x2.Ops)]⟩ (Uf r) := by
 intro k
 induction k with
 | zero =>
  intro x2 w p x0 x1 j l m h
  cases (show (none : Option Bool) = some r from h)
 | succ k ih =>
  intro x2 w p x0 x1 j l m h
  rw [Yj] at h
  refine Q4 ?_
  refine T.seq (Qq ?_)
  refine sp rfl (Qa rfl rfl (dk rfl) rfl rfl ?_)
  refine TL'.nil (tN ?_)
  refine T.seq ?_
  rcases Qd h with ⟨ab, h⟩ | ⟨ab, h⟩
  refine Qk rfl ab ?_
  refine T.skip (tN ?_)
  refine T.seq ?_
  refine T.block ?_
  refine T.seq (Qq ?_)
  refine mw rfl ?_
  obtain ⟨a, ad, h⟩ := bind_some h
  refine sp rfl (Qh (xs := x2.Ops) (f := (cI .u8)) (v := a) rfl (dk rfl) Xg i5 rfl rfl ad ?_)
  refine sp rfl (Qr rfl (dk rfl) ul5 rfl rfl rfl ?_)
  refine aw rfl ?_
  refine aw rfl ?_
  refine TL'.nil (tN ?_)
  refine T.seq ?_
  refine X3 ?_
  refine Yr rfl rfl rfl rfl rfl rfl ?_
  refine dS (c := ⟨some 52, .bool (decide (a < (1:Int))), [(51, .int .u8 a)], [], []⟩) (fun t hm => oF rfl rfl (Qa rfl rfl (dk rfl) hm.s0 rfl rfl)) rfl rfl ?_
  refine Yr rfl rfl rfl rfl rfl rfl ?_
  rcases Qd h with ⟨y, h⟩ | ⟨y, h⟩
  refine dO y rfl rfl ?_
  refine dO y rfl rfl ?_
  refine dS (c := ⟨some 56, .bool true, [(53, .bool (decide (a < (1:Int))))], [], []⟩) (fun t hm => oF rfl rfl (Qi rfl (dk rfl) hm.s0 y rfl rfl)) rfl rfl ?_
  refine Yr rfl rfl rfl rfl rfl rfl ?_
  refine dO rfl rfl rfl ?_
  refine dO rfl rfl rfl ?_
  refine dO rfl rfl rfl ?_
  refine DG.gone rfl rfl rfl rfl rfl rfl ?_
  refine DG.gone rfl rfl rfl rfl rfl rfl ?_
  refine DG.gone rfl rfl rfl rfl rfl rfl ?_
  refine DG.gone rfl rfl rfl rfl rfl rfl ?_
  refine DG.gone rfl rfl rfl rfl rfl rfl ?_
  refine DG.gone rfl rfl rfl rfl rfl rfl ?_
  refine DG.gone rfl rfl rfl rfl rfl rfl ?_
  refine DG.gone rfl rfl rfl rfl rfl rfl ?_
  refine DG.gone rfl rfl rfl rfl rfl rfl ?_
  refine DG.gone rfl rfl rfl rfl rfl rfl ?_
  refine DG.gone rfl rfl rfl rfl rfl rfl ?_
  refine DG.gone rfl rfl rfl rfl rfl rfl ?_
  refine DG.gone rfl rfl rfl rfl rfl rfl ?_
  refine DG.gone rfl rfl rfl rfl rfl rfl ?_
  refine DG.gone rfl rfl rfl rfl rfl rfl ?_
  refine dO rfl rfl rfl ?_
  refine dS (c := ⟨some 77, .bool true, [(57, .bool true)], [], []⟩) (fun t hm => oF rfl rfl (Qi rfl (dk rfl) hm.s0 rfl rfl rfl)) rfl rfl ?_
  refine Y4 (s1 := ⟨[(3, .ptr j 0), (4, .ptr l 0), (5, .ptr m 0), (44, .sl false 1 (mU x2.Ops)), (45, .int .i64 w), (46, .int .i64 p), (54, .tup []), (55, .tup []), (58, .tup []), (59, .tup []), (60, .tup []), (61, .tup []), (62, .tup []), (63, .tup []), (64, .tup []), (65, .tup []), (66, .tup []), (67, .tup []), (68, .tup []), (69, .tup []), (70, .tup []), (71, .tup []), (72, .tup []), (73, .tup []), (74, .tup []), (75, .tup []), (76, .tup []), (77, .bool true)], [(J5 j x0.Auto.Split.Of x0.Auto.Split.Many x0.Auto.Counts x0.Auto.States), (Zw l x1.L x1.R x1.Rule x1.Next), (W9 m x2.To x2.Ops)]⟩) (ms := [0, 1, 3, 7, 15, 31, 63, 127, 255, 511, 1023, 2047, 1023, 5119, 13311, 1023, 33791, 127999, 259071, 521215, 1023, 2094079, 4191231, 8388607, 16777215, 33554431, 67108863]) Q7 rfl (by kernel_rfl) (by kernel_rfl) (by kernel_rfl) (sf rfl) rfl (fun u hu => (tN (Qc hu ?_)))
  refine Qk rfl rfl ?_
  refine Qc ?_ (We K h)
  exact tq rfl rfl
  refine dS (c := ⟨some 54, .int .u8 a, [(8, .int .u8 a), (53, .bool (decide (a < (1:Int))))], [], []⟩) (fun t hm => oN rfl rfl rfl hm.s1 y (OpT.move rfl (dk rfl) hm.s0 rfl)) rfl rfl ?_
  refine dS (c := ⟨some 55, .bool (decide (a > (3:Int))), [(54, .int .u8 a), (53, .bool (decide (a < (1:Int))))], [], []⟩) (fun t hm => oN rfl rfl rfl hm.s1 y (Qa rfl rfl (dk rfl) hm.s0 rfl rfl)) rfl rfl ?_
  refine dS (c := ⟨some 56, .bool (decide (a > (3:Int))), [(53, .bool (decide (a < (1:Int)))), (55, .bool (decide (a > (3:Int))))], [], []⟩) (fun t hm => oF rfl rfl (Qs rfl (dk rfl) hm.s0 y hm.s1 rfl)) rfl rfl ?_
  refine Yr rfl rfl rfl rfl rfl rfl ?_
  rcases Qd h with ⟨q, h⟩ | ⟨q, h⟩
  refine dO q rfl rfl ?_
  refine dO q rfl rfl ?_
  refine dO q rfl rfl ?_
  refine DG.gone rfl rfl rfl rfl rfl rfl ?_
  refine DG.gone rfl rfl rfl rfl rfl rfl ?_
  refine DG.gone rfl rfl rfl rfl rfl rfl ?_
  refine DG.gone rfl rfl rfl rfl rfl rfl ?_
  refine DG.gone rfl rfl rfl rfl rfl rfl ?_
  refine DG.gone rfl rfl rfl rfl rfl rfl ?_
  refine DG.gone rfl rfl rfl rfl rfl rfl ?_
  refine DG.gone rfl rfl rfl rfl rfl rfl ?_
  refine DG.gone rfl rfl rfl rfl rfl rfl ?_
  refine DG.gone rfl rfl rfl rfl rfl rfl ?_
  refine DG.gone rfl rfl rfl rfl rfl rfl ?_
  refine DG.gone rfl rfl rfl rfl rfl rfl ?_
  refine DG.gone rfl rfl rfl rfl rfl rfl ?_
  refine DG.gone rfl rfl rfl rfl rfl rfl ?_
  refine DG.gone rfl rfl rfl rfl rfl rfl ?_
  refine dO q rfl rfl ?_
  refine dS (c := ⟨some 77, .bool true, [(57, .bool (decide (a > (3:Int))))], [], []⟩) (fun t hm => oF rfl rfl (Qi rfl (dk rfl) hm.s0 q rfl rfl)) rfl rfl ?_
  refine Y4 (s1 := ⟨[(3, .ptr j 0), (4, .ptr l 0), (5, .ptr m 0), (44, .sl false 1 (mU x2.Ops)), (45, .int .i64 w), (46, .int .i64 p), (54, .int .u8 a), (55, .bool (decide (a > (3:Int)))), (58, .tup []), (59, .tup []), (60, .tup []), (61, .tup []), (62, .tup []), (63, .tup []), (64, .tup []), (65, .tup []), (66, .tup []), (67, .tup []), (68, .tup []), (69, .tup []), (70, .tup []), (71, .tup []), (72, .tup []), (73, .tup []), (74, .tup []), (75, .tup []), (76, .tup []), (77, .bool true)], [(J5 j x0.Auto.Split.Of x0.Auto.Split.Many x0.Auto.Counts x0.Auto.States), (Zw l x1.L x1.R x1.Rule x1.Next), (W9 m x2.To x2.Ops)]⟩) (ms := [0, 1, 3, 7, 15, 31, 63, 127, 255, 511, 1023, 2047, 1023, 5119, 13311, 1023, 33791, 127999, 259071, 521215, 1023, 2094079, 4191231, 8388607, 16777215, 33554431, 67108863]) Q7 rfl (by kernel_rfl) (by kernel_rfl) (by kernel_rfl) (sf rfl) rfl (fun u hu => (tN (Qc hu ?_)))
  refine Qk rfl rfl ?_
  refine Qc ?_ (We K h)
  exact tq rfl rfl
  refine dS (c := ⟨some 58, .int .u8 a, [(8, .int .u8 a), (57, .bool (decide (a > (3:Int))))], [], []⟩) (fun t hm => oN rfl rfl rfl hm.s1 q (OpT.move rfl (dk rfl) hm.s0 rfl)) rfl rfl ?_
  refine dS (c := ⟨some 59, .bool (a != (3:Int)), [(58, .int .u8 a), (57, .bool (decide (a > (3:Int))))], [], []⟩) (fun t hm => oN rfl rfl rfl hm.s1 q (Qa rfl rfl (dk rfl) hm.s0 rfl rfl)) rfl rfl ?_
  refine dS (c := ⟨some 60, .bool (a != (3:Int)), [(59, .bool (a != (3:Int))), (57, .bool (decide (a > (3:Int))))], [], []⟩) (fun t hm => oN rfl rfl rfl hm.s1 q (OpT.move rfl (dk rfl) hm.s0 rfl)) rfl rfl ?_
  rcases Qd h with ⟨b, h⟩ | ⟨b, h⟩
  refine dS (c := ⟨some 61, .ptr l (0 + 1), [(4, .ptr l 0), (60, .bool (a != (3:Int)))], [], []⟩) (fun t hm => oN rfl rfl rfl hm.s1 b (Qg rfl (dk rfl) Vm rfl i56 (by decide) hm.s0 rfl)) rfl rfl ?_
  refine dS (c := ⟨some 62, .sl false 1 (mI x1.R), [(61, .ptr l (0 + 1)), (60, .bool (a != (3:Int)))], [(1, (Zw l x1.L x1.R x1.Rule x1.Next))], []⟩) (fun t hm => oN rfl rfl rfl hm.s1 b (Qm (i := 1) rfl (dk rfl) Yd rfl hm.s0 hm.o0 rfl rfl)) rfl rfl ?_
  refine dS (c := ⟨some 63, .ptr j (0 + 0), [(3, .ptr j 0), (60, .bool (a != (3:Int)))], [], []⟩) (fun t hm => oN rfl rfl rfl hm.s1 b (Qg rfl (dk rfl) ul91 rfl i28 (by decide) hm.s0 rfl)) rfl rfl ?_
  refine dS (c := ⟨some 64, .ptr j (0 + 0 + 258), [(63, .ptr j (0 + 0)), (60, .bool (a != (3:Int)))], [], []⟩) (fun t hm => oN rfl rfl rfl hm.s1 b (Qg rfl (dk rfl) Xe rfl i26 (by decide) hm.s0 rfl)) rfl rfl ?_
  refine dS (c := ⟨some 65, .sl false 4 (x0.Auto.States.map Q0), [(64, .ptr j (0 + 0 + 258)), (60, .bool (a != (3:Int)))], [(0, (J5 j x0.Auto.Split.Of x0.Auto.Split.Many x0.Auto.Counts x0.Auto.States))], []⟩) (fun t hm => oN rfl rfl rfl hm.s1 b (Qm (i := 0) rfl (dk rfl) X5 rfl hm.s0 hm.o0 rfl rfl)) rfl rfl ?_
  refine dS (c := ⟨some 66, .ptr m (0 + 0), [(5, .ptr m 0), (60, .bool (a != (3:Int)))], [], []⟩) (fun t hm => oN rfl rfl rfl hm.s1 b (Qg rfl (dk rfl) Kg rfl i3 (by decide) hm.s0 rfl)) rfl rfl ?_
  refine dS (c := ⟨some 67, .int .i64 x2.To, [(66, .ptr m (0 + 0)), (60, .bool (a != (3:Int)))], [(2, (W9 m x2.To x2.Ops))], []⟩) (fun t hm => oN rfl rfl rfl hm.s1 b (Qm (i := 2) rfl (dk rfl) ul3 rfl hm.s0 hm.o0 rfl rfl)) rfl rfl ?_
  obtain ⟨g, af, h⟩ := bind_some h
  refine dS (c := ⟨some 68, .ref [.sl false 1 (mI g.L), .sl false 1 (mI g.R), .sl false 1 (mI g.Rule), .sl false 1 (g.Next.map (cL 2 Qu))], [(65, .sl false 4 (x0.Auto.States.map Q0)), (67, .int .i64 x2.To), (60, .bool (a != (3:Int)))], [], []⟩) (fun t hm => oN rfl rfl rfl hm.s2 b (Qh (xs := x0.Auto.States) (f := Q0) (v := g) rfl (dk rfl) X5 i59 hm.s0 hm.s1 af rfl)) rfl rfl ?_
  refine dS (c := ⟨some 69, .ref [.sl false 1 (mI g.R), .sl false 1 (mI g.Rule), .sl false 1 (g.Next.map (cL 2 Qu))], [(68, .ref [.sl false 1 (mI g.L), .sl false 1 (mI g.R), .sl false 1 (mI g.Rule), .sl false 1 (g.Next.map (cL 2 Qu))]), (60, .bool (a != (3:Int)))], [], []⟩) (fun t hm => oN rfl rfl rfl hm.s1 b (Z4 rfl (dk rfl) Vm rfl i56 (by decide) hm.s0 rfl)) rfl rfl ?_
  refine dS (c := ⟨some 70, .sl false 1 (mI g.R), [(69, .ref [.sl false 1 (mI g.R), .sl false 1 (mI g.Rule), .sl false 1 (g.Next.map (cL 2 Qu))]), (60, .bool (a != (3:Int)))], [], []⟩) (fun t hm => oN rfl rfl rfl hm.s1 b (Qr rfl (dk rfl) Yd rfl hm.s0 rfl rfl)) rfl rfl ?_
  refine dS (c := ⟨some 71, .int .i64 p, [(7, .int .i64 p), (60, .bool (a != (3:Int)))], [], []⟩) (fun t hm => oN rfl rfl rfl hm.s1 b (OpT.move rfl (dk rfl) hm.s0 rfl)) rfl rfl ?_
  obtain ⟨aa, ag, h⟩ := bind_some h
  refine dS (c := ⟨some 72, .ref [.int .i64 aa], [(70, .sl false 1 (mI g.R)), (71, .int .i64 p), (60, .bool (a != (3:Int)))], [], []⟩) (fun t hm => oN rfl rfl rfl hm.s2 b (Qh (xs := g.R) (f := (cI .i64)) (v := aa) rfl (dk rfl) Yd i3 hm.s0 hm.s1 ag rfl)) rfl rfl ?_
  refine dS (c := ⟨some 73, .int .i64 aa, [(72, .ref [.int .i64 aa]), (60, .bool (a != (3:Int)))], [], []⟩) (fun t hm => oN rfl rfl rfl hm.s1 b (Qr rfl (dk rfl) ul3 rfl hm.s0 rfl rfl)) rfl rfl ?_
  obtain ⟨s, ai, h⟩ := bind_some h
  refine dS (c := ⟨some 74, .bool s, [(62, .sl false 1 (mI x1.R)), (73, .int .i64 aa), (60, .bool (a != (3:Int)))], [], []⟩) (fun t hm => oN rfl rfl rfl hm.s2 b (Q5 rfl (dk rfl) Try.func86 rfl rfl (Q3.cons hm.s0 (Q3.cons hm.s1 Q3.nil)) (Zt.nil (Iv K (flx0 := false) ai)) rfl)) rfl rfl ?_
  refine dS (c := ⟨some 75, .bool (!s), [(74, .bool s), (60, .bool (a != (3:Int)))], [], []⟩) (fun t hm => oN rfl rfl rfl hm.s1 b (OpT.not rfl (dk rfl) hm.s0 rfl)) rfl rfl ?_
  refine dS (c := ⟨some 76, .bool (!s), [(60, .bool (a != (3:Int))), (75, .bool (!s)), (57, .bool (decide (a > (3:Int))))], [], []⟩) (fun t hm => oN rfl rfl rfl hm.s2 q (Qi rfl (dk rfl) hm.s0 b hm.s1 rfl)) rfl rfl ?_
  refine dS (c := ⟨some 77, .bool (!s), [(57, .bool (decide (a > (3:Int)))), (76, .bool (!s))], [], []⟩) (fun t hm => oF rfl rfl (Qs rfl (dk rfl) hm.s0 q hm.s1 rfl)) rfl rfl ?_
  refine Y4 (s1 := ⟨[(3, .ptr j 0), (4, .ptr l 0), (5, .ptr m 0), (44, .sl false 1 (mU x2.Ops)), (45, .int .i64 w), (46, .int .i64 p), (54, .int .u8 a), (55, .bool (decide (a > (3:Int)))), (58, .int .u8 a), (59, .bool (a != (3:Int))), (60, .bool (a != (3:Int))), (61, .ptr l (0 + 1)), (62, .sl false 1 (mI x1.R)), (63, .ptr j (0 + 0)), (64, .ptr j (0 + 0 + 258)), (65, .sl false 4 (x0.Auto.States.map Q0)), (66, .ptr m (0 + 0)), (67, .int .i64 x2.To), (68, .ref [.sl false 1 (mI g.L), .sl false 1 (mI g.R), .sl false 1 (mI g.Rule), .sl false 1 (g.Next.map (cL 2 Qu))]), (69, .ref [.sl false 1 (mI g.R), .sl false 1 (mI g.Rule), .sl false 1 (g.Next.map (cL 2 Qu))]), (70, .sl false 1 (mI g.R)), (71, .int .i64 p), (72, .ref [.int .i64 aa]), (73, .int .i64 aa), (74, .bool s), (75, .bool (!s)), (76, .bool (!s)), (77, .bool (!s))], [(J5 j x0.Auto.Split.Of x0.Auto.Split.Many x0.Auto.Counts x0.Auto.States), (Zw l x1.L x1.R x1.Rule x1.Next), (W9 m x2.To x2.Ops)]⟩) (ms := [0, 1, 3, 7, 15, 31, 63, 127, 255, 511, 1023, 2047, 1023, 5119, 13311, 1023, 33791, 127999, 259071, 521215, 1023, 2094079, 4191231, 8388607, 16777215, 33554431, 67108863]) Q7 rfl (by kernel_rfl) (by kernel_rfl) (by kernel_rfl) (sf rfl) rfl (fun u hu => (tN (Qc hu ?_)))
  rcases Qd h with ⟨ac, h⟩ | ⟨ac, h⟩
  refine Qk rfl ac ?_
  refine Qc ?_ (We K h)
  exact tq rfl rfl
  refine Qo rfl ac ?_
  refine T.skip (Qe (tN ?_))
  refine Qq ?_
  refine sp rfl (Qa rfl rfl (dk rfl) rfl rfl ?_)
  refine mw rfl ?_
  refine TL'.nil (tN ?_)
  refine Qb ?_ (ih x2 w (wI (p + (1:Int))) x0 x1 j l m h)
  exact tq rfl rfl
  refine dO b rfl rfl ?_
  refine dO b rfl rfl ?_
  refine dO b rfl rfl ?_
  refine dO b rfl rfl ?_
  refine dO b rfl rfl ?_
  refine dO b rfl rfl ?_
  refine dO b rfl rfl ?_
  refine dO b rfl rfl ?_
  refine dO b rfl rfl ?_
  refine dO b rfl rfl ?_
  refine dO b rfl rfl ?_
  refine dO b rfl rfl ?_
  refine dO b rfl rfl ?_
  refine dO b rfl rfl ?_
  refine dO b rfl rfl ?_
  refine dS (c := ⟨some 76, .bool false, [(60, .bool (a != (3:Int))), (57, .bool (decide (a > (3:Int))))], [], []⟩) (fun t hm => oN rfl rfl rfl hm.s1 q (Qs rfl (dk rfl) hm.s0 b rfl rfl)) rfl rfl ?_
  refine dS (c := ⟨some 77, .bool false, [(57, .bool (decide (a > (3:Int)))), (76, .bool false)], [], []⟩) (fun t hm => oF rfl rfl (Qs rfl (dk rfl) hm.s0 q hm.s1 rfl)) rfl rfl ?_
  refine Y4 (s1 := ⟨[(3, .ptr j 0), (4, .ptr l 0), (5, .ptr m 0), (44, .sl false 1 (mU x2.Ops)), (45, .int .i64 w), (46, .int .i64 p), (54, .int .u8 a), (55, .bool (decide (a > (3:Int)))), (58, .int .u8 a), (59, .bool (a != (3:Int))), (60, .bool (a != (3:Int))), (61, .tup []), (62, .tup []), (63, .tup []), (64, .tup []), (65, .tup []), (66, .tup []), (67, .tup []), (68, .tup []), (69, .tup []), (70, .tup []), (71, .tup []), (72, .tup []), (73, .tup []), (74, .tup []), (75, .tup []), (76, .bool false), (77, .bool false)], [(J5 j x0.Auto.Split.Of x0.Auto.Split.Many x0.Auto.Counts x0.Auto.States), (Zw l x1.L x1.R x1.Rule x1.Next), (W9 m x2.To x2.Ops)]⟩) (ms := [0, 1, 3, 7, 15, 31, 63, 127, 255, 511, 1023, 2047, 1023, 5119, 13311, 1023, 33791, 127999, 259071, 521215, 1023, 2094079, 4191231, 8388607, 16777215, 33554431, 67108863]) Q7 rfl (by kernel_rfl) (by kernel_rfl) (by kernel_rfl) (sf rfl) rfl (fun u hu => (tN (Qc hu ?_)))
  refine Qo rfl rfl ?_
  refine T.skip (Qe (tN ?_))
  refine Qq ?_
  refine sp rfl (Qa rfl rfl (dk rfl) rfl rfl ?_)
  refine mw rfl ?_
  refine TL'.nil (tN ?_)
  refine Qb ?_ (ih x2 w (wI (p + (1:Int))) x0 x1 j l m h)
  exact tq rfl rfl
  refine Qo rfl ab ?_
  refine T.exit (Qf (Qf (Qp (tN ?_))))
  refine T.seq (Qq ?_)
  refine aw rfl ?_
  refine TL'.nil (tN ?_)
  refine T.ret ?_
  exact Fin.done (.cons _ _ _ _ (.tmp 6 _ rfl) .nil) (by cases h; exact ⟨rfl, rfl⟩)
theorem Ra (K : Nat) {x0 : Q9} {x1 : aSt} {x2 : aMv} {r : Bool} (h : Ji K x0 x1 x2 = some r) : Zt tp 67 [.agg ((Qx.dc 256 .u8 x0.Auto.Split.Of) ++ (([.int .i64 x0.Auto.Split.Many, .sl false 2 (mA x0.Auto.Counts), .sl false 4 (x0.Auto.States.map Q0)] : List DC))), .agg [.sl false 1 (mI x1.L), .sl false 1 (mI x1.R), .sl false 1 (mI x1.Rule), .sl false 1 (x1.Next.map (cL 2 Qu))], .agg [.int .i64 x2.To, .sl false 1 (mU x2.Ops)]] [] (.bool r) := by
 refine Qt Try.func67 rfl (nb rfl) ?_
 show T tp 79 (ca [] Try.f67) ⟨Qv 0 [.agg ((Qx.dc 256 .u8 x0.Auto.Split.Of) ++ (([.int .i64 x0.Auto.Split.Many, .sl false 2 (mA x0.Auto.Counts), .sl false 4 (x0.Auto.States.map Q0)] : List DC))), .agg [.sl false 1 (mI x1.L), .sl false 1 (mI x1.R), .sl false 1 (mI x1.Rule), .sl false 1 (x1.Next.map (cL 2 Qu))], .agg [.int .i64 x2.To, .sl false 1 (mU x2.Ops)]], []⟩ (V9 r)
 unfold Ji at h
 refine T.seq (Qq ?_)
 refine sp rfl (Zg rfl (dk rfl) rfl (fun j => ?_))
 refine sp rfl (Zg rfl (dk rfl) rfl (fun m => ?_))
 refine sp rfl (Zg rfl (dk rfl) rfl (fun g => ?_))
 refine aw rfl ?_
 refine TL'.nil (tN ?_)
 refine T.seq ?_
 refine T.seq (Qq ?_)
 refine sp rfl (Qg rfl (dk rfl) Kg rfl i3 (by decide) rfl ?_)
 refine sp rfl (Qm (i := 0) rfl (dk rfl) ul3 rfl rfl rfl rfl ?_)
 refine sp rfl (Qa rfl rfl (dk rfl) rfl rfl ?_)
 refine TL'.nil (tN ?_)
 rcases Qd h with ⟨p, h⟩ | ⟨p, h⟩
 refine Qk rfl p ?_
 refine T.seq (Qq ?_)
 refine sp rfl (Qg rfl (dk rfl) Kg rfl i29 (by decide) rfl ?_)
 refine sp rfl (Qm (i := 0) rfl (dk rfl) Xg rfl rfl rfl rfl ?_)
 refine sp rfl (Qn (xs := x2.Ops) (f := (cI .u8)) rfl (dk rfl) Xg rfl ?_)
 refine sp rfl (Qa rfl rfl (dk rfl) rfl rfl ?_)
 refine aw rfl ?_
 refine TL'.nil (tN ?_)
 refine T.ret (Ql ?_)
 exact Fin.done (.cons _ _ _ _ (.tmp 6 _ rfl) .nil) (by cases h; exact ⟨rfl, rfl⟩)
 refine Qo rfl p ?_
 refine T.skip (tN ?_)
 refine T.seq ?_
 refine T.seq ?_
 refine X3 ?_
 refine dS (c := ⟨some 16, .ptr g (0 + 0), [(5, .ptr g 0)], [], []⟩) (fun t hm => oF rfl rfl (Qg rfl (dk rfl) Kg rfl i3 (by decide) hm.s0 rfl)) rfl rfl ?_
 refine dS (c := ⟨some 17, .int .i64 x2.To, [(16, .ptr g (0 + 0))], [(0, (W9 g x2.To x2.Ops))], []⟩) (fun t hm => oF rfl rfl (Qm (i := 0) rfl (dk rfl) ul3 rfl hm.s0 hm.o0 rfl rfl)) rfl rfl ?_
 refine dS (c := ⟨some 18, .bool (decide (x2.To < (1:Int))), [(17, .int .i64 x2.To)], [], []⟩) (fun t hm => oF rfl rfl (Qa rfl rfl (dk rfl) hm.s0 rfl rfl)) rfl rfl ?_
 refine Yr rfl rfl rfl rfl rfl rfl ?_
 rcases Qd h with ⟨l, h⟩ | ⟨l, h⟩
 refine dO l rfl rfl ?_
 refine dO l rfl rfl ?_
 refine dO l rfl rfl ?_
 refine dO l rfl rfl ?_
 refine dO l rfl rfl ?_
 refine dO l rfl rfl ?_
 refine dO l rfl rfl ?_
 refine dS (c := ⟨some 27, .bool true, [(19, .bool (decide (x2.To < (1:Int))))], [], []⟩) (fun t hm => oF rfl rfl (Qi rfl (dk rfl) hm.s0 l rfl rfl)) rfl rfl ?_
 refine Yr rfl rfl rfl rfl rfl rfl ?_
 refine dO rfl rfl rfl ?_
 refine dO rfl rfl rfl ?_
 refine dO rfl rfl rfl ?_
 refine dO rfl rfl rfl ?_
 refine dO rfl rfl rfl ?_
 refine dO rfl rfl rfl ?_
 refine dO rfl rfl rfl ?_
 refine dO rfl rfl rfl ?_
 refine dO rfl rfl rfl ?_
 refine dO rfl rfl rfl ?_
 refine dO rfl rfl rfl ?_
 refine dO rfl rfl rfl ?_
 refine dO rfl rfl rfl ?_
 refine dS (c := ⟨some 42, .bool true, [(28, .bool true)], [], []⟩) (fun t hm => oF rfl rfl (Qi rfl (dk rfl) hm.s0 rfl rfl rfl)) rfl rfl ?_
 refine Y4 (s1 := ⟨[(3, .ptr j 0), (4, .ptr m 0), (5, .ptr g 0), (42, .bool true)], [(W9 g x2.To x2.Ops), (Zw m x1.L x1.R x1.Rule x1.Next), (J5 j x0.Auto.Split.Of x0.Auto.Split.Many x0.Auto.Counts x0.Auto.States)]⟩) (ms := [0, 1, 3, 7, 15, 31, 15, 79, 207, 463, 1023, 2047, 4095, 8191, 16383, 32767, 8191, 73727, 204799, 8191, 532479, 2039807, 4136959, 8331263, 16719871, 33554431, 67108863]) Q7 rfl (by kernel_rfl) (by kernel_rfl) (by kernel_rfl) (sf rfl) rfl (fun u hu => (tN (Qc hu ?_)))
 refine Qk rfl rfl ?_
 refine Qc ?_ (Wf K h)
 exact tq rfl rfl
 refine dS (c := ⟨some 20, .ptr g (0 + 0), [(5, .ptr g 0), (19, .bool (decide (x2.To < (1:Int))))], [], []⟩) (fun t hm => oN rfl rfl rfl hm.s1 l (Qg rfl (dk rfl) Kg rfl i3 (by decide) hm.s0 rfl)) rfl rfl ?_
 refine dS (c := ⟨some 21, .int .i64 x2.To, [(20, .ptr g (0 + 0)), (19, .bool (decide (x2.To < (1:Int))))], [(0, (W9 g x2.To x2.Ops))], []⟩) (fun t hm => oN rfl rfl rfl hm.s1 l (Qm (i := 0) rfl (dk rfl) ul3 rfl hm.s0 hm.o0 rfl rfl)) rfl rfl ?_
 refine dS (c := ⟨some 22, .ptr j (0 + 0), [(3, .ptr j 0), (19, .bool (decide (x2.To < (1:Int))))], [], []⟩) (fun t hm => oN rfl rfl rfl hm.s1 l (Qg rfl (dk rfl) ul91 rfl i28 (by decide) hm.s0 rfl)) rfl rfl ?_
 refine dS (c := ⟨some 23, .ptr j (0 + 0 + 258), [(22, .ptr j (0 + 0)), (19, .bool (decide (x2.To < (1:Int))))], [], []⟩) (fun t hm => oN rfl rfl rfl hm.s1 l (Qg rfl (dk rfl) Xe rfl i26 (by decide) hm.s0 rfl)) rfl rfl ?_
 refine dS (c := ⟨some 24, .sl false 4 (x0.Auto.States.map Q0), [(23, .ptr j (0 + 0 + 258)), (19, .bool (decide (x2.To < (1:Int))))], [(2, (J5 j x0.Auto.Split.Of x0.Auto.Split.Many x0.Auto.Counts x0.Auto.States))], []⟩) (fun t hm => oN rfl rfl rfl hm.s1 l (Qm (i := 2) rfl (dk rfl) X5 rfl hm.s0 hm.o0 rfl rfl)) rfl rfl ?_
 refine dS (c := ⟨some 25, .int .i64 (x0.Auto.States.length : Int), [(24, .sl false 4 (x0.Auto.States.map Q0)), (19, .bool (decide (x2.To < (1:Int))))], [], []⟩) (fun t hm => oN rfl rfl rfl hm.s1 l (Qn (xs := x0.Auto.States) (f := Q0) rfl (dk rfl) X5 hm.s0 rfl)) rfl rfl ?_
 refine dS (c := ⟨some 26, .bool (decide (x2.To ≥ (x0.Auto.States.length : Int))), [(21, .int .i64 x2.To), (25, .int .i64 (x0.Auto.States.length : Int)), (19, .bool (decide (x2.To < (1:Int))))], [], []⟩) (fun t hm => oN rfl rfl rfl hm.s2 l (Qa rfl rfl (dk rfl) hm.s0 hm.s1 rfl)) rfl rfl ?_
 refine dS (c := ⟨some 27, .bool (decide (x2.To ≥ (x0.Auto.States.length : Int))), [(19, .bool (decide (x2.To < (1:Int)))), (26, .bool (decide (x2.To ≥ (x0.Auto.States.length : Int))))], [], []⟩) (fun t hm => oF rfl rfl (Qs rfl (dk rfl) hm.s0 l hm.s1 rfl)) rfl rfl ?_
 refine Yr rfl rfl rfl rfl rfl rfl ?_
 rcases Qd h with ⟨a, h⟩ | ⟨a, h⟩
 refine dO a rfl rfl ?_
 refine dO a rfl rfl ?_
 refine dO a rfl rfl ?_
 refine dO a rfl rfl ?_
 refine dO a rfl rfl ?_
 refine dO a rfl rfl ?_
 refine dO a rfl rfl ?_
 refine dO a rfl rfl ?_
 refine dO a rfl rfl ?_
 refine dO a rfl rfl ?_
 refine dO a rfl rfl ?_
 refine dO a rfl rfl ?_
 refine dO a rfl rfl ?_
 refine dS (c := ⟨some 42, .bool true, [(28, .bool (decide (x2.To ≥ (x0.Auto.States.length : Int))))], [], []⟩) (fun t hm => oF rfl rfl (Qi rfl (dk rfl) hm.s0 a rfl rfl)) rfl rfl ?_
 refine Y4 (s1 := ⟨[(3, .ptr j 0), (4, .ptr m 0), (5, .ptr g 0), (42, .bool true)], [(W9 g x2.To x2.Ops), (Zw m x1.L x1.R x1.Rule x1.Next), (J5 j x0.Auto.Split.Of x0.Auto.Split.Many x0.Auto.Counts x0.Auto.States)]⟩) (ms := [0, 1, 3, 7, 15, 31, 15, 79, 207, 463, 1023, 2047, 4095, 8191, 16383, 32767, 8191, 73727, 204799, 8191, 532479, 2039807, 4136959, 8331263, 16719871, 33554431, 67108863]) Q7 rfl (by kernel_rfl) (by kernel_rfl) (by kernel_rfl) (sf rfl) rfl (fun u hu => (tN (Qc hu ?_)))
 refine Qk rfl rfl ?_
 refine Qc ?_ (Wf K h)
 exact tq rfl rfl
 refine dS (c := ⟨some 29, .ptr g (0 + 1), [(5, .ptr g 0), (28, .bool (decide (x2.To ≥ (x0.Auto.States.length : Int))))], [], []⟩) (fun t hm => oN rfl rfl rfl hm.s1 a (Qg rfl (dk rfl) Kg rfl i29 (by decide) hm.s0 rfl)) rfl rfl ?_
 refine dS (c := ⟨some 30, .sl false 1 (mU x2.Ops), [(29, .ptr g (0 + 1)), (28, .bool (decide (x2.To ≥ (x0.Auto.States.length : Int))))], [(0, (W9 g x2.To x2.Ops))], []⟩) (fun t hm => oN rfl rfl rfl hm.s1 a (Qm (i := 0) rfl (dk rfl) Xg rfl hm.s0 hm.o0 rfl rfl)) rfl rfl ?_
 refine dS (c := ⟨some 31, .int .i64 (x2.Ops.length : Int), [(30, .sl false 1 (mU x2.Ops)), (28, .bool (decide (x2.To ≥ (x0.Auto.States.length : Int))))], [], []⟩) (fun t hm => oN rfl rfl rfl hm.s1 a (Qn (xs := x2.Ops) (f := (cI .u8)) rfl (dk rfl) Xg hm.s0 rfl)) rfl rfl ?_
 refine dS (c := ⟨some 32, .ptr j (0 + 0), [(3, .ptr j 0), (28, .bool (decide (x2.To ≥ (x0.Auto.States.length : Int))))], [], []⟩) (fun t hm => oN rfl rfl rfl hm.s1 a (Qg rfl (dk rfl) ul91 rfl i28 (by decide) hm.s0 rfl)) rfl rfl ?_
 refine dS (c := ⟨some 33, .ptr j (0 + 0 + 258), [(32, .ptr j (0 + 0)), (28, .bool (decide (x2.To ≥ (x0.Auto.States.length : Int))))], [], []⟩) (fun t hm => oN rfl rfl rfl hm.s1 a (Qg rfl (dk rfl) Xe rfl i26 (by decide) hm.s0 rfl)) rfl rfl ?_
 refine dS (c := ⟨some 34, .sl false 4 (x0.Auto.States.map Q0), [(33, .ptr j (0 + 0 + 258)), (28, .bool (decide (x2.To ≥ (x0.Auto.States.length : Int))))], [(2, (J5 j x0.Auto.Split.Of x0.Auto.Split.Many x0.Auto.Counts x0.Auto.States))], []⟩) (fun t hm => oN rfl rfl rfl hm.s1 a (Qm (i := 2) rfl (dk rfl) X5 rfl hm.s0 hm.o0 rfl rfl)) rfl rfl ?_
 refine dS (c := ⟨some 35, .ptr g (0 + 0), [(5, .ptr g 0), (28, .bool (decide (x2.To ≥ (x0.Auto.States.length : Int))))], [], []⟩) (fun t hm => oN rfl rfl rfl hm.s1 a (Qg rfl (dk rfl) Kg rfl i3 (by decide) hm.s0 rfl)) rfl rfl ?_
 refine dS (c := ⟨some 36, .int .i64 x2.To, [(35, .ptr g (0 + 0)), (28, .bool (decide (x2.To ≥ (x0.Auto.States.length : Int))))], [(0, (W9 g x2.To x2.Ops))], []⟩) (fun t hm => oN rfl rfl rfl hm.s1 a (Qm (i := 0) rfl (dk rfl) ul3 rfl hm.s0 hm.o0 rfl rfl)) rfl rfl ?_
 obtain ⟨b, w, h⟩ := bind_some h
 refine dS (c := ⟨some 37, .ref [.sl false 1 (mI b.L), .sl false 1 (mI b.R), .sl false 1 (mI b.Rule), .sl false 1 (b.Next.map (cL 2 Qu))], [(34, .sl false 4 (x0.Auto.States.map Q0)), (36, .int .i64 x2.To), (28, .bool (decide (x2.To ≥ (x0.Auto.States.length : Int))))], [], []⟩) (fun t hm => oN rfl rfl rfl hm.s2 a (Qh (xs := x0.Auto.States) (f := Q0) (v := b) rfl (dk rfl) X5 i59 hm.s0 hm.s1 w rfl)) rfl rfl ?_
 refine dS (c := ⟨some 38, .ref [.sl false 1 (mI b.R), .sl false 1 (mI b.Rule), .sl false 1 (b.Next.map (cL 2 Qu))], [(37, .ref [.sl false 1 (mI b.L), .sl false 1 (mI b.R), .sl false 1 (mI b.Rule), .sl false 1 (b.Next.map (cL 2 Qu))]), (28, .bool (decide (x2.To ≥ (x0.Auto.States.length : Int))))], [], []⟩) (fun t hm => oN rfl rfl rfl hm.s1 a (Z4 rfl (dk rfl) Vm rfl i56 (by decide) hm.s0 rfl)) rfl rfl ?_
 refine dS (c := ⟨some 39, .sl false 1 (mI b.R), [(38, .ref [.sl false 1 (mI b.R), .sl false 1 (mI b.Rule), .sl false 1 (b.Next.map (cL 2 Qu))]), (28, .bool (decide (x2.To ≥ (x0.Auto.States.length : Int))))], [], []⟩) (fun t hm => oN rfl rfl rfl hm.s1 a (Qr rfl (dk rfl) Yd rfl hm.s0 rfl rfl)) rfl rfl ?_
 refine dS (c := ⟨some 40, .int .i64 (b.R.length : Int), [(39, .sl false 1 (mI b.R)), (28, .bool (decide (x2.To ≥ (x0.Auto.States.length : Int))))], [], []⟩) (fun t hm => oN rfl rfl rfl hm.s1 a (Qn (xs := b.R) (f := (cI .i64)) rfl (dk rfl) Yd hm.s0 rfl)) rfl rfl ?_
 refine dS (c := ⟨some 41, .bool ((x2.Ops.length : Int) != (b.R.length : Int)), [(31, .int .i64 (x2.Ops.length : Int)), (40, .int .i64 (b.R.length : Int)), (28, .bool (decide (x2.To ≥ (x0.Auto.States.length : Int))))], [], []⟩) (fun t hm => oN rfl rfl rfl hm.s2 a (Qa rfl rfl (dk rfl) hm.s0 hm.s1 rfl)) rfl rfl ?_
 refine dS (c := ⟨some 42, .bool ((x2.Ops.length : Int) != (b.R.length : Int)), [(28, .bool (decide (x2.To ≥ (x0.Auto.States.length : Int)))), (41, .bool ((x2.Ops.length : Int) != (b.R.length : Int)))], [], []⟩) (fun t hm => oF rfl rfl (Qs rfl (dk rfl) hm.s0 a hm.s1 rfl)) rfl rfl ?_
 refine Y4 (s1 := ⟨[(3, .ptr j 0), (4, .ptr m 0), (5, .ptr g 0), (42, .bool ((x2.Ops.length : Int) != (b.R.length : Int)))], [(W9 g x2.To x2.Ops), (Zw m x1.L x1.R x1.Rule x1.Next), (J5 j x0.Auto.Split.Of x0.Auto.Split.Many x0.Auto.Counts x0.Auto.States)]⟩) (ms := [0, 1, 3, 7, 15, 31, 15, 79, 207, 463, 1023, 2047, 4095, 8191, 16383, 32767, 8191, 73727, 204799, 8191, 532479, 2039807, 4136959, 8331263, 16719871, 33554431, 67108863]) Q7 rfl (by kernel_rfl) (by kernel_rfl) (by kernel_rfl) (sf rfl) rfl (fun u hu => (tN (Qc hu ?_)))
 rcases Qd h with ⟨q, h⟩ | ⟨q, h⟩
 refine Qk rfl q ?_
 refine Qc ?_ (Wf K h)
 exact tq rfl rfl
 refine Qo rfl q ?_
 refine T.skip (tN ?_)
 refine T.seq ?_
 refine T.seq (Qq ?_)
 refine sp rfl (Qg rfl (dk rfl) Kg rfl i29 (by decide) rfl ?_)
 refine sp rfl (Qm (i := 0) rfl (dk rfl) Xg rfl rfl rfl rfl ?_)
 refine sp rfl (Qn (xs := x2.Ops) (f := (cI .u8)) rfl (dk rfl) Xg rfl ?_)
 refine mw rfl ?_
 refine TL'.nil (tN ?_)
 refine T.block ?_
 refine T.loop ?_
 refine Qb ?_ (Ie K K x2 (x2.Ops.length : Int) (0:Int) x0 x1 j m g h)
 exact tr rfl (.c (.s (.s .z)) (.c (.s .z) (.c .z (.n _))))
abbrev Ib (bx1 bx2 : Nat) (x1 : Q9) (x2 : aSt) (r : Bool) : ES := Jk tp Try.f66 (fun y t => ∃ γ : Nat → Value, y = (.bool r) ∧ t = [(J5 bx1 x1.Auto.Split.Of x1.Auto.Split.Many x1.Auto.Counts x1.Auto.States), (Zw bx2 x2.L x2.R x2.Rule x2.Next)])
theorem Ic (K : Nat) {x0 : aMv} {x1 : Q9} {x2 : aSt} {bx1 bx2 : Nat} {r : Bool} (h : U7 K x0 x1 x2 = some r) : Uz tp 66 [.agg [.int .i64 x0.To, .sl false 1 (mU x0.Ops)], .ptr bx1 0, .ptr bx2 0] [(J5 bx1 x1.Auto.Split.Of x1.Auto.Split.Many x1.Auto.Counts x1.Auto.States), (Zw bx2 x2.L x2.R x2.Rule x2.Next)] (fun γ => (.bool r)) (fun γ => [(J5 bx1 x1.Auto.Split.Of x1.Auto.Split.Many x1.Auto.Counts x1.Auto.States), (Zw bx2 x2.L x2.R x2.Rule x2.Next)]) := by
 refine Qt Try.func66 rfl (nb rfl) ?_
 show T tp 10 (ca [] Try.f66) ⟨Qv 0 [.agg [.int .i64 x0.To, .sl false 1 (mU x0.Ops)], .ptr bx1 0, .ptr bx2 0], [(J5 bx1 x1.Auto.Split.Of x1.Auto.Split.Many x1.Auto.Counts x1.Auto.States), (Zw bx2 x2.L x2.R x2.Rule x2.Next)]⟩ (Ib bx1 bx2 x1 x2 r)
 unfold U7 at h
 refine T.seq (Qq ?_)
 refine sp rfl (Zg rfl (dk rfl) rfl (fun b => ?_))
 refine aw rfl ?_
 refine TL'.nil (tN (T.seq (Qq ?_)))
 refine sp rfl (Ze (i := 1) (l := ((Qx.dc 256 .u8 x1.Auto.Split.Of) ++ (([.int .i64 x1.Auto.Split.Many, .sl false 2 (mA x1.Auto.Counts), .sl false 4 (x1.Auto.States.map Q0)] : List DC)))) rfl (dk rfl) ul91 rfl i91 rfl rfl rfl rfl ?_)
 refine sp rfl (Ze (i := 2) (l := [.sl false 1 (mI x2.L), .sl false 1 (mI x2.R), .sl false 1 (mI x2.Rule), .sl false 1 (x2.Next.map (cL 2 Qu))]) rfl (dk rfl) Vm rfl i59 rfl rfl rfl rfl ?_)
 refine sp rfl (Ze (i := 0) (l := [.int .i64 x0.To, .sl false 1 (mU x0.Ops)]) rfl (dk rfl) Kg rfl i63 rfl rfl rfl rfl ?_)
 obtain ⟨c, a, h⟩ := bind_some h
 refine sp rfl (Q5 rfl (dk rfl) Try.func67 rfl rfl (Q3.cons rfl (Q3.cons rfl (Q3.cons rfl Q3.nil))) (Zt.nil (Ra K a)) ?_)
 refine sp rfl (OpT.not rfl (dk rfl) rfl ?_)
 refine aw rfl ?_
 refine TL'.nil (tN ?_)
 refine T.ret ?_
 exact Q6 (.cons _ _ _ _ (.tmp 4 _ rfl) .nil) (.cons 1 rfl (.cons 1 rfl (.nil _))) (by cases h; exact ⟨gl [], rfl, rfl⟩)
abbrev Jq (bx1c0 bx1c1 : Nat) (x1c0 : Q9) (x1c1 : aSt) (r : Int) : ES := Jk tp Try.f85 (fun y t => ∃ γ : Nat → Value, y = (.int .i64 r) ∧ t = [(J5 bx1c0 x1c0.Auto.Split.Of x1c0.Auto.Split.Many x1c0.Auto.Counts x1c0.Auto.States), (Zw bx1c1 x1c1.L x1c1.R x1c1.Rule x1c1.Next)])
abbrev B2 (bx1c0 bx1c1 : Nat) (x1c0 : Q9) (x1c1 : aSt) (r : Int) : ES := thenS (fun s' => T tp 19 (ca [1,1] Try.f85) s' ((Jq bx1c0 bx1c1 x1c0 x1c1 r))) ((Jq bx1c0 bx1c1 x1c0 x1c1 r))
abbrev Ms (bx1c0 bx1c1 : Nat) (x1c0 : Q9) (x1c1 : aSt) (r : Int) : ES := Qz 0 ((B2 bx1c0 bx1c1 x1c0 x1c1 r))
theorem B3 {r : Int} (K bx1c0 bx1c1 : Nat) (x1c0 : Q9) (x1c1 : aSt) : ∀ (k : Nat), ∀ (x0 : List aMv) (a b : Int) (x1c0 : Q9) (x1c1 : aSt) (flx0 : Bool), Z8 K k x0 a b x1c0 x1c1 = some r → TL tp 19 (ca [1,0,1,0,0] Try.f85) ⟨[(0, .sl flx0 2 (x0.map Qu)), (1, .c (.ex (.func (.func 66) #[] #[.pointer (some ⟨bx1c0, 0, none⟩), .pointer (some ⟨bx1c1, 0, none⟩)]))), (7, .int .i64 a), (8, .int .i64 b)], [(J5 bx1c0 x1c0.Auto.Split.Of x1c0.Auto.Split.Many x1c0.Auto.Counts x1c0.Auto.States), (Zw bx1c1 x1c1.L x1c1.R x1c1.Rule x1c1.Next)]⟩ (Ms bx1c0 bx1c1 x1c0 x1c1 r) := by
 intro k
 induction k with
 | zero =>
  intro x0 a b x1c0 x1c1 flx0 h
  cases (show (none : Option Int) = some r from h)
 | succ k ih =>
  intro x0 a b x1c0 x1c1 flx0 h
  rw [Z8] at h
  refine Q4 ?_
  refine T.seq (Qq ?_)
  refine sp rfl (Qa rfl rfl (dk rfl) rfl rfl ?_)
  refine TL'.nil (tN ?_)
  refine T.seq ?_
  rcases Qd h with ⟨g, h⟩ | ⟨g, h⟩
  refine Qk rfl g ?_
  refine T.skip (tN ?_)
  refine T.seq ?_
  refine T.block ?_
  refine T.seq (Qq ?_)
  refine mw rfl ?_
  refine aw rfl ?_
  refine TL'.nil (tN (T.seq (Qq ?_)))
  iterate 3 refine mw rfl ?_
  obtain ⟨j, l, h⟩ := bind_some h
  refine sp rfl (Qh (xs := x0) (f := Qu) (v := j) rfl (dk rfl) Fq i63 rfl rfl l ?_)
  refine sp rfl (Zj rfl (dk rfl) Kg rfl i63 rfl (nb rfl) ?_)
  obtain ⟨p, m, h⟩ := bind_some h
  refine sp rfl (Fa (f := 66) (vs := [.pointer (some ⟨bx1c0, 0, none⟩), .pointer (some ⟨bx1c1, 0, none⟩)]) rfl rfl (dk rfl) Try.func66 rfl rfl (Q2 (is := [0, 1]) (ph := []) rfl (dk rfl) Try.func66 rfl rfl (Q3.cons rfl (Q3.cons rfl (Q3.cons rfl Q3.nil))) (Ic K (bx1 := bx1c0) (bx2 := bx1c1) m) (.cons rfl rfl (.cons rfl rfl (.nil))) (fun _ => rfl) (fun q => ?_)))
  refine nm (.c (.c (.n))) ?_
  refine TL'.nil (tN ?_)
  rcases Qd h with ⟨i, h⟩ | ⟨i, h⟩
  refine Qk rfl i ?_
  refine T.seq (Qq ?_)
  refine mw rfl ?_
  refine aw rfl ?_
  refine TL'.nil (tN ?_)
  refine T.ret (Qy (Ql (Ql (Qy (Ql ?_)))))
  exact Q6 (.cons _ _ _ _ (.tmp 4 _ rfl) .nil) (.cons 0 rfl (.cons 0 rfl (.nil _))) (by cases h; exact ⟨gl [], rfl, rfl⟩)
  refine Qo rfl i ?_
  refine T.skip (Qe (tN ?_))
  refine Qq ?_
  refine sp rfl (Qa rfl rfl (dk rfl) rfl rfl ?_)
  refine mw rfl ?_
  refine TL'.nil (tN ?_)
  refine Qb ?_ (ih x0 a (wI (b + (1:Int))) x1c0 x1c1 flx0 h)
  exact tq rfl rfl
  refine Qo rfl g ?_
  refine T.exit (Qf (Qf (Qp (tN ?_))))
  refine T.seq (Qq ?_)
  refine aw rfl ?_
  refine TL'.nil (tN ?_)
  refine T.ret ?_
  exact Q6 (.cons _ _ _ _ (.tmp 4 _ rfl) .nil) (.cons 0 rfl (.cons 0 rfl (.nil _))) (by cases h; exact ⟨gl [], rfl, rfl⟩)
theorem Ei (K : Nat) {x0 : List aMv} {x1c0 : Q9} {x1c1 : aSt} {flx0 : Bool} {bx1c0 bx1c1 : Nat} {r : Int} (h : Ui K x0 x1c0 x1c1 = some r) : Uz tp 85 [.sl flx0 2 (x0.map Qu), .c (.ex (.func (.func 66) #[] #[.pointer (some ⟨bx1c0, 0, none⟩), .pointer (some ⟨bx1c1, 0, none⟩)]))] [(J5 bx1c0 x1c0.Auto.Split.Of x1c0.Auto.Split.Many x1c0.Auto.Counts x1c0.Auto.States), (Zw bx1c1 x1c1.L x1c1.R x1c1.Rule x1c1.Next)] (fun γ => (.int .i64 r)) (fun γ => [(J5 bx1c0 x1c0.Auto.Split.Of x1c0.Auto.Split.Many x1c0.Auto.Counts x1c0.Auto.States), (Zw bx1c1 x1c1.L x1c1.R x1c1.Rule x1c1.Next)]) := by
 refine Qt Try.func85 rfl (nb rfl) ?_
 show T tp 19 (ca [] Try.f85) ⟨Qv 0 [.sl flx0 2 (x0.map Qu), .c (.ex (.func (.func 66) #[] #[.pointer (some ⟨bx1c0, 0, none⟩), .pointer (some ⟨bx1c1, 0, none⟩)]))], [(J5 bx1c0 x1c0.Auto.Split.Of x1c0.Auto.Split.Many x1c0.Auto.Counts x1c0.Auto.States), (Zw bx1c1 x1c1.L x1c1.R x1c1.Rule x1c1.Next)]⟩ (Jq bx1c0 bx1c1 x1c0 x1c1 r)
 unfold Ui at h
 refine T.seq (Qq ?_)
 refine aw rfl ?_
 refine TL'.nil (tN ?_)
 refine T.seq ?_
 refine T.seq (Qq ?_)
 refine mw rfl ?_
 refine sp rfl (Qn (xs := x0) (f := Qu) rfl (dk rfl) Fq rfl ?_)
 refine mw rfl ?_
 refine TL'.nil (tN ?_)
 refine T.block ?_
 refine T.loop ?_
 refine Qb ?_ (B3 K bx1c0 bx1c1 x1c0 x1c1 K x0 (x0.length : Int) (0:Int) x1c0 x1c1 flx0 h)
 exact tq rfl rfl
abbrev B4 (bx1c0 bx1c1 : Nat) (x1c0 : Q9) (x1c1 : aSt) (r : Bool) : ES := Jk tp Try.f65 (fun y t => ∃ γ : Nat → Value, y = (.bool r) ∧ t = [(J5 bx1c0 x1c0.Auto.Split.Of x1c0.Auto.Split.Many x1c0.Auto.Counts x1c0.Auto.States), (Zw bx1c1 x1c1.L x1c1.R x1c1.Rule x1c1.Next)])
theorem B5 (K : Nat) {x0 : List aMv} {x1c0 : Q9} {x1c1 : aSt} {flx0 : Bool} {bx1c0 bx1c1 : Nat} {r : Bool} (h : Xk K x0 x1c0 x1c1 = some r) : Uz tp 65 [.sl flx0 2 (x0.map Qu), .c (.ex (.func (.func 66) #[] #[.pointer (some ⟨bx1c0, 0, none⟩), .pointer (some ⟨bx1c1, 0, none⟩)]))] [(J5 bx1c0 x1c0.Auto.Split.Of x1c0.Auto.Split.Many x1c0.Auto.Counts x1c0.Auto.States), (Zw bx1c1 x1c1.L x1c1.R x1c1.Rule x1c1.Next)] (fun γ => (.bool r)) (fun γ => [(J5 bx1c0 x1c0.Auto.Split.Of x1c0.Auto.Split.Many x1c0.Auto.Counts x1c0.Auto.States), (Zw bx1c1 x1c1.L x1c1.R x1c1.Rule x1c1.Next)]) := by
 refine Qt Try.func65 rfl (nb rfl) ?_
 show T tp 9 (ca [] Try.f65) ⟨Qv 0 [.sl flx0 2 (x0.map Qu), .c (.ex (.func (.func 66) #[] #[.pointer (some ⟨bx1c0, 0, none⟩), .pointer (some ⟨bx1c1, 0, none⟩)]))], [(J5 bx1c0 x1c0.Auto.Split.Of x1c0.Auto.Split.Many x1c0.Auto.Counts x1c0.Auto.States), (Zw bx1c1 x1c1.L x1c1.R x1c1.Rule x1c1.Next)]⟩ (B4 bx1c0 bx1c1 x1c0 x1c1 r)
 unfold Xk at h
 refine T.seq (Qq ?_)
 refine aw rfl ?_
 refine TL'.nil (tN (T.seq (Qq ?_)))
 refine mw rfl ?_
 refine mw rfl ?_
 obtain ⟨b, a, h⟩ := bind_some h
 refine sp rfl (Q2 (is := [0, 1]) (ph := []) rfl (dk rfl) Try.func85 rfl rfl (Q3.cons rfl (Q3.cons rfl Q3.nil)) (Ei K (flx0 := flx0) (bx1c0 := bx1c0) (bx1c1 := bx1c1) a) (.cons rfl rfl (.cons rfl rfl (.nil))) (fun _ => rfl) (fun f => ?_))
 refine nm (.c (.c (.n))) ?_
 refine sp rfl (Qa rfl rfl (dk rfl) rfl rfl ?_)
 refine aw rfl ?_
 refine TL'.nil (tN ?_)
 refine T.ret ?_
 exact Q6 (.cons _ _ _ _ (.tmp 4 _ rfl) .nil) (.cons 0 rfl (.cons 0 rfl (.nil _))) (by cases h; exact ⟨gl [], rfl, rfl⟩)
abbrev Vu (r : Bool) : ES := Jk tp Try.f46 (fun y t => y = (.bool r) ∧ t = [])
abbrev D6 (r : Bool) : ES := thenS (fun s' => T tp 79 (ca [1,1,1] Try.f46) s' ((Vu r))) ((Vu r))
abbrev C7 (r : Bool) : ES := thenS (fun s' => T tp 79 (ca [1,1,1,1] Try.f46) s' ((Vu r))) ((Vu r))
abbrev V8 (r : Bool) : ES := Qz 0 ((C7 r))
abbrev Wv (r : Bool) : ES := thenS (fun s' => TL tp 79 (ca [1,1,1,0,1,0,0] Try.f46) s' ((V8 r))) ((V8 r))
abbrev Kb (r : Bool) : ES := thenS (fun s' => T tp 79 (ca [1,1,1,0,1,0,0,1,1,1] Try.f46) s' ((Wv r))) ((Wv r))
abbrev V7 (r : Bool) : ES := Qz 1 ((Kb r))
abbrev Gk (r : Bool) : ES := thenS (fun s' => T tp 79 (ca [1,1,1,0,1,0,0,1,1,0,0,1,1] Try.f46) s' ((V7 r))) ((V7 r))
theorem Xs {r : Bool} (K : Nat) (h : Zp K = some r) : T tp 79 (ca [1,1,0,1,0] Try.f46) ⟨[], []⟩ (D6 r) := by
 unfold Zp at h
 refine T.seq (Qq ?_)
 refine aw rfl ?_
 refine TL'.nil (tN ?_)
 refine T.ret (Ql ?_)
 exact Fin.done (.cons _ _ _ _ (.tmp 4 _ rfl) .nil) (by cases h; exact ⟨rfl, rfl⟩)
theorem Jw {r : Bool} (K : Nat) (h : Yb K = some r) : T tp 79 (ca [1,1,1,0,1,0,0,1,1,0,0,1,0,1,0] Try.f46) ⟨[], []⟩ (Gk r) := by
 unfold Yb at h
 refine T.seq (Qq ?_)
 refine aw rfl ?_
 refine TL'.nil (tN ?_)
 refine T.ret (Ql (Qy (Ql (Ql (Qy (Ql ?_))))))
 exact Fin.done (.cons _ _ _ _ (.tmp 4 _ rfl) .nil) (by cases h; exact ⟨rfl, rfl⟩)
theorem E4 {r : Bool} (K : Nat) : ∀ (k : Nat), ∀ (x1 : aSt) (l m : Int) (x0 : Q9) (g j : Nat), Y0 K k x1 l m x0 = some r → TL tp 79 (ca [1,1,1,0,1,0,0] Try.f46) ⟨[(2, .ptr g 0), (3, .ptr j 0), (45, .sl false 1 (x1.Next.map (cL 2 Qu))), (46, .int .i64 l), (47, .int .i64 m)], [(J5 g x0.Auto.Split.Of x0.Auto.Split.Many x0.Auto.Counts x0.Auto.States), (Zw j x1.L x1.R x1.Rule x1.Next)]⟩ (V8 r) := by
 intro k
 induction k with
 | zero =>
  intro x1 l m x0 g j h
  cases (show (none : Option Bool) = some r from h)
 | succ k ih =>
  intro x1 l m x0 g j h
  rw [Y0] at h
  refine Q4 ?_
  refine T.seq (Qq ?_)
  refine sp rfl (Qa rfl rfl (dk rfl) rfl rfl ?_)
  refine TL'.nil (tN ?_)
  refine T.seq ?_
  rcases Qd h with ⟨p, h⟩ | ⟨p, h⟩
  refine Qk rfl p ?_
  refine T.skip (tN ?_)
  refine T.seq ?_
  refine T.block ?_
  refine T.seq (Qq ?_)
  refine mw rfl ?_
  obtain ⟨u, aa, h⟩ := bind_some h
  refine sp rfl (Qh (xs := x1.Next) (f := (cL 2 Qu)) (v := u) rfl (dk rfl) B0 i61 rfl rfl aa ?_)
  refine sp rfl (Qr rfl (dk rfl) Fq rfl rfl rfl ?_)
  refine aw rfl ?_
  refine aw rfl ?_
  refine TL'.nil (tN ?_)
  refine T.seq ?_
  refine T.seq (Qq ?_)
  refine sp rfl (Qg rfl (dk rfl) Vm rfl i56 (by decide) rfl ?_)
  refine sp rfl (Qm (i := 1) rfl (dk rfl) Yd rfl rfl rfl rfl ?_)
  refine mw rfl ?_
  obtain ⟨w, y, h⟩ := bind_some h
  refine sp rfl (Qh (xs := x1.Rule) (f := (cI .i64)) (v := w) rfl (dk rfl) Yd i3 rfl rfl y ?_)
  refine sp rfl (Qr rfl (dk rfl) ul3 rfl rfl rfl ?_)
  refine sp rfl (Qa rfl rfl (dk rfl) rfl rfl ?_)
  refine mw rfl ?_
  rcases Qd h with ⟨b, h⟩ | ⟨b, h⟩
  refine pf rfl b ?_
  refine pf rfl b ?_
  refine pf rfl b ?_
  refine pf rfl b ?_
  refine pf rfl b ?_
  refine pf rfl b ?_
  refine sp rfl (Qi rfl (dk rfl) rfl b rfl ?_)
  refine mw rfl ?_
  refine pf rfl rfl ?_
  refine pf rfl rfl ?_
  refine pf rfl rfl ?_
  refine pf rfl rfl ?_
  refine pf rfl rfl ?_
  refine pf rfl rfl ?_
  refine pf rfl rfl ?_
  refine sp rfl (Qi rfl (dk rfl) rfl rfl rfl ?_)
  refine TL'.nil (tN ?_)
  refine Qk rfl rfl ?_
  refine Qc ?_ (Jw K h)
  exact tq rfl rfl
  refine sn rfl b (Qg rfl (dk rfl) Vm rfl i56 (by decide) rfl ?_)
  refine sn rfl b (Qm (i := 1) rfl (dk rfl) Yd rfl rfl rfl rfl ?_)
  refine sn rfl b (OpT.move rfl (dk rfl) rfl ?_)
  refine sn rfl b (Qh (xs := x1.Rule) (f := (cI .i64)) (v := w) rfl (dk rfl) Yd i3 rfl rfl y ?_)
  refine sn rfl b (Qr rfl (dk rfl) ul3 rfl rfl rfl ?_)
  refine sn rfl b (Qa rfl rfl (dk rfl) rfl rfl ?_)
  refine sp rfl (Qs rfl (dk rfl) rfl b rfl ?_)
  refine mw rfl ?_
  rcases Qd h with ⟨a, h⟩ | ⟨a, h⟩
  refine pf rfl a ?_
  refine pf rfl a ?_
  refine pf rfl a ?_
  refine pf rfl a ?_
  refine pf rfl a ?_
  refine pf rfl a ?_
  refine pf rfl a ?_
  refine sp rfl (Qi rfl (dk rfl) rfl a rfl ?_)
  refine TL'.nil (tN ?_)
  refine Qk rfl rfl ?_
  refine Qc ?_ (Jw K h)
  exact tq rfl rfl
  refine sn rfl a (OpT.move rfl (dk rfl) rfl ?_)
  refine sn rfl a (Qn (xs := u) (f := Qu) rfl (dk rfl) Fq rfl ?_)
  refine sn rfl a (Qg rfl (dk rfl) ul91 rfl i28 (by decide) rfl ?_)
  refine sn rfl a (Qg rfl (dk rfl) Xe rfl i24 (by decide) rfl ?_)
  refine sn rfl a (Qg rfl (dk rfl) Ig rfl i3 (by decide) rfl ?_)
  refine sn rfl a (Qm (i := 0) rfl (dk rfl) ul3 rfl rfl rfl rfl ?_)
  refine sn rfl a (Qa rfl rfl (dk rfl) rfl rfl ?_)
  refine sp rfl (Qs rfl (dk rfl) rfl a rfl ?_)
  refine TL'.nil (tN ?_)
  rcases Qd h with ⟨q, h⟩ | ⟨q, h⟩
  refine Qk rfl q ?_
  refine Qc ?_ (Jw K h)
  exact tq rfl rfl
  refine Qo rfl q ?_
  refine T.skip (tN ?_)
  refine T.seq (Qq ?_)
  refine mw rfl ?_
  refine sp rfl (OpT.makeFunc (vs := [.pointer (some ⟨g, 0, none⟩), .pointer (some ⟨j, 0, none⟩)]) rfl (dk rfl) rfl ?_)
  obtain ⟨ac, ab, h⟩ := bind_some h
  refine sp rfl (Q2 (is := [0, 1]) (ph := []) rfl (dk rfl) Try.func65 rfl rfl (Q3.cons rfl (Q3.cons rfl Q3.nil)) (B5 K (flx0 := false) (bx1c0 := g) (bx1c1 := j) ab) (.cons rfl rfl (.cons rfl rfl (.nil))) (fun _ => rfl) (fun ad => ?_))
  refine nm (.c (.c (.n))) ?_
  refine TL'.nil (tN ?_)
  rcases Qd h with ⟨s, h⟩ | ⟨s, h⟩
  refine Qk rfl s ?_
  refine T.seq (Qq ?_)
  refine aw rfl ?_
  refine TL'.nil (tN ?_)
  refine T.ret (Qy (Ql (Ql (Qy (Ql ?_)))))
  exact Fin.done (.cons _ _ _ _ (.tmp 4 _ rfl) .nil) (by cases h; exact ⟨rfl, rfl⟩)
  refine Qo rfl s ?_
  refine T.skip (Qe (tN ?_))
  refine Qq ?_
  refine sp rfl (Qa rfl rfl (dk rfl) rfl rfl ?_)
  refine mw rfl ?_
  refine TL'.nil (tN ?_)
  refine Qb ?_ (ih x1 l (wI (m + (1:Int))) x0 g j h)
  exact tq rfl rfl
  refine Qo rfl p ?_
  refine T.exit (Qf (Qf (Qp (tN ?_))))
  refine T.seq (Qq ?_)
  refine aw rfl ?_
  refine TL'.nil (tN ?_)
  refine T.ret ?_
  exact Fin.done (.cons _ _ _ _ (.tmp 4 _ rfl) .nil) (by cases h; exact ⟨rfl, rfl⟩)
theorem Oo (K : Nat) {x0 : Q9} {x1 : aSt} {r : Bool} (h : Up K x0 x1 = some r) : Zt tp 46 [.agg ((Qx.dc 256 .u8 x0.Auto.Split.Of) ++ (([.int .i64 x0.Auto.Split.Many, .sl false 2 (mA x0.Auto.Counts), .sl false 4 (x0.Auto.States.map Q0)] : List DC))), .agg [.sl false 1 (mI x1.L), .sl false 1 (mI x1.R), .sl false 1 (mI x1.Rule), .sl false 1 (x1.Next.map (cL 2 Qu))]] [] (.bool r) := by
 refine Qt Try.func46 rfl (nb rfl) ?_
 show T tp 79 (ca [] Try.f46) ⟨Qv 0 [.agg ((Qx.dc 256 .u8 x0.Auto.Split.Of) ++ (([.int .i64 x0.Auto.Split.Many, .sl false 2 (mA x0.Auto.Counts), .sl false 4 (x0.Auto.States.map Q0)] : List DC))), .agg [.sl false 1 (mI x1.L), .sl false 1 (mI x1.R), .sl false 1 (mI x1.Rule), .sl false 1 (x1.Next.map (cL 2 Qu))]], []⟩ (Vu r)
 unfold Up at h
 refine T.seq (Qq ?_)
 refine sp rfl (Zg rfl (dk rfl) rfl (fun l => ?_))
 refine sp rfl (Zg rfl (dk rfl) rfl (fun m => ?_))
 refine aw rfl ?_
 refine TL'.nil (tN (T.seq (Qq ?_)))
 refine sp rfl (Qg rfl (dk rfl) Vm rfl i56 (by decide) rfl ?_)
 refine sp rfl (Qm (i := 0) rfl (dk rfl) Yd rfl rfl rfl rfl ?_)
 refine sp rfl (Qn (xs := x1.R) (f := (cI .i64)) rfl (dk rfl) Yd rfl ?_)
 obtain ⟨v, p, h⟩ := bind_some h
 refine sp rfl (Q5 rfl (dk rfl) Try.func36 rfl rfl (Q3.cons rfl Q3.nil) (Zt.nil (Tw K p)) ?_)
 refine aw rfl ?_
 refine TL'.nil (tN ?_)
 refine T.seq ?_
 refine T.seq (Qq ?_)
 refine mw rfl ?_
 refine sp rfl (Qa rfl rfl (dk rfl) rfl rfl ?_)
 refine mw rfl ?_
 rcases Qd h with ⟨b, h⟩ | ⟨b, h⟩
 refine pf rfl b ?_
 refine pf rfl b ?_
 refine pf rfl b ?_
 refine pf rfl b ?_
 refine pf rfl b ?_
 refine sp rfl (Qi rfl (dk rfl) rfl b rfl ?_)
 refine mw rfl ?_
 refine pf rfl rfl ?_
 refine pf rfl rfl ?_
 refine pf rfl rfl ?_
 refine pf rfl rfl ?_
 refine pf rfl rfl ?_
 refine sp rfl (Qi rfl (dk rfl) rfl rfl rfl ?_)
 refine mw rfl ?_
 refine pf rfl rfl ?_
 refine pf rfl rfl ?_
 refine pf rfl rfl ?_
 refine pf rfl rfl ?_
 refine sp rfl (Qi rfl (dk rfl) rfl rfl rfl ?_)
 refine mw rfl ?_
 refine pf rfl rfl ?_
 refine pf rfl rfl ?_
 refine pf rfl rfl ?_
 refine pf rfl rfl ?_
 refine pf rfl rfl ?_
 refine pf rfl rfl ?_
 refine pf rfl rfl ?_
 refine pf rfl rfl ?_
 refine sp rfl (Qi rfl (dk rfl) rfl rfl rfl ?_)
 refine TL'.nil (tN ?_)
 refine Qk rfl rfl ?_
 refine Qc ?_ (Xs K h)
 exact tq rfl rfl
 refine sn rfl b (Qg rfl (dk rfl) Vm rfl i56 (by decide) rfl ?_)
 refine sn rfl b (Qm (i := 0) rfl (dk rfl) Yd rfl rfl rfl rfl ?_)
 refine sn rfl b (Qn (xs := x1.Rule) (f := (cI .i64)) rfl (dk rfl) Yd rfl ?_)
 refine sn rfl b (OpT.move rfl (dk rfl) rfl ?_)
 refine sn rfl b (Qa rfl rfl (dk rfl) rfl rfl ?_)
 refine sp rfl (Qs rfl (dk rfl) rfl b rfl ?_)
 refine mw rfl ?_
 rcases Qd h with ⟨d, h⟩ | ⟨d, h⟩
 refine pf rfl d ?_
 refine pf rfl d ?_
 refine pf rfl d ?_
 refine pf rfl d ?_
 refine pf rfl d ?_
 refine sp rfl (Qi rfl (dk rfl) rfl d rfl ?_)
 refine mw rfl ?_
 refine pf rfl rfl ?_
 refine pf rfl rfl ?_
 refine pf rfl rfl ?_
 refine pf rfl rfl ?_
 refine sp rfl (Qi rfl (dk rfl) rfl rfl rfl ?_)
 refine mw rfl ?_
 refine pf rfl rfl ?_
 refine pf rfl rfl ?_
 refine pf rfl rfl ?_
 refine pf rfl rfl ?_
 refine pf rfl rfl ?_
 refine pf rfl rfl ?_
 refine pf rfl rfl ?_
 refine pf rfl rfl ?_
 refine sp rfl (Qi rfl (dk rfl) rfl rfl rfl ?_)
 refine TL'.nil (tN ?_)
 refine Qk rfl rfl ?_
 refine Qc ?_ (Xs K h)
 exact tq rfl rfl
 refine sn rfl d (Qg rfl (dk rfl) Vm rfl i57 (by decide) rfl ?_)
 refine sn rfl d (Qm (i := 0) rfl (dk rfl) B0 rfl rfl rfl rfl ?_)
 refine sn rfl d (Qn (xs := x1.Next) (f := (cL 2 Qu)) rfl (dk rfl) B0 rfl ?_)
 refine sn rfl d (OpT.move rfl (dk rfl) rfl ?_)
 refine sn rfl d (Qa rfl rfl (dk rfl) rfl rfl ?_)
 refine sp rfl (Qs rfl (dk rfl) rfl d rfl ?_)
 refine mw rfl ?_
 rcases Qd h with ⟨g, h⟩ | ⟨g, h⟩
 refine pf rfl g ?_
 refine pf rfl g ?_
 refine pf rfl g ?_
 refine pf rfl g ?_
 refine sp rfl (Qi rfl (dk rfl) rfl g rfl ?_)
 refine mw rfl ?_
 refine pf rfl rfl ?_
 refine pf rfl rfl ?_
 refine pf rfl rfl ?_
 refine pf rfl rfl ?_
 refine pf rfl rfl ?_
 refine pf rfl rfl ?_
 refine pf rfl rfl ?_
 refine pf rfl rfl ?_
 refine sp rfl (Qi rfl (dk rfl) rfl rfl rfl ?_)
 refine TL'.nil (tN ?_)
 refine Qk rfl rfl ?_
 refine Qc ?_ (Xs K h)
 exact tq rfl rfl
 refine sn rfl g (Qg rfl (dk rfl) Vm rfl i56 (by decide) rfl ?_)
 refine sn rfl g (Qm (i := 0) rfl (dk rfl) Yd rfl rfl rfl rfl ?_)
 obtain ⟨w, q, h⟩ := bind_some h
 refine sn rfl g (Q5 rfl (dk rfl) Try.func64 rfl rfl (Q3.cons rfl (Q3.cons rfl Q3.nil)) (Zt.nil (Tu K (flx0 := false) q)) ?_)
 refine sn rfl g (OpT.not rfl (dk rfl) rfl ?_)
 refine sp rfl (Qs rfl (dk rfl) rfl g rfl ?_)
 refine mw rfl ?_
 rcases Qd h with ⟨a, h⟩ | ⟨a, h⟩
 refine pf rfl a ?_
 refine pf rfl a ?_
 refine pf rfl a ?_
 refine pf rfl a ?_
 refine pf rfl a ?_
 refine pf rfl a ?_
 refine pf rfl a ?_
 refine pf rfl a ?_
 refine sp rfl (Qi rfl (dk rfl) rfl a rfl ?_)
 refine TL'.nil (tN ?_)
 refine Qk rfl rfl ?_
 refine Qc ?_ (Xs K h)
 exact tq rfl rfl
 refine sn rfl a (Qg rfl (dk rfl) Vm rfl i56 (by decide) rfl ?_)
 refine sn rfl a (Qm (i := 0) rfl (dk rfl) Yd rfl rfl rfl rfl ?_)
 refine sn rfl a (Qg rfl (dk rfl) ul91 rfl i28 (by decide) rfl ?_)
 refine sn rfl a (Qg rfl (dk rfl) Xe rfl i25 (by decide) rfl ?_)
 refine sn rfl a (Qm (i := 1) rfl (dk rfl) Mq rfl rfl rfl rfl ?_)
 refine sn rfl a (Qn (xs := x0.Auto.Counts) (f := (Zb.dc .i64)) rfl (dk rfl) Mq rfl ?_)
 obtain ⟨y, u, h⟩ := bind_some h
 refine sn rfl a (Q5 rfl (dk rfl) Try.func64 rfl rfl (Q3.cons rfl (Q3.cons rfl Q3.nil)) (Zt.nil (Tu K (flx0 := false) u)) ?_)
 refine sn rfl a (OpT.not rfl (dk rfl) rfl ?_)
 refine sp rfl (Qs rfl (dk rfl) rfl a rfl ?_)
 refine TL'.nil (tN ?_)
 rcases Qd h with ⟨j, h⟩ | ⟨j, h⟩
 refine Qk rfl j ?_
 refine Qc ?_ (Xs K h)
 exact tq rfl rfl
 refine Qo rfl j ?_
 refine T.skip (tN ?_)
 refine T.seq ?_
 refine T.seq (Qq ?_)
 refine sp rfl (Qg rfl (dk rfl) Vm rfl i57 (by decide) rfl ?_)
 refine sp rfl (Qm (i := 0) rfl (dk rfl) B0 rfl rfl rfl rfl ?_)
 refine sp rfl (Qn (xs := x1.Next) (f := (cL 2 Qu)) rfl (dk rfl) B0 rfl ?_)
 refine mw rfl ?_
 refine TL'.nil (tN ?_)
 refine T.block ?_
 refine T.loop ?_
 refine Qb ?_ (E4 K K x1 (x1.Next.length : Int) (0:Int) x0 l m h)
 exact tr rfl (.c (.s .z) (.c .z (.n _)))
abbrev auto_Right_1_q (bx1 : Nat) (x1 : Q9) (r : Bool) : ES := Jk tp Try.f45 (fun y t => ∃ γ : Nat → Value, y = (.bool r) ∧ t = [(J5 bx1 x1.Auto.Split.Of x1.Auto.Split.Many x1.Auto.Counts x1.Auto.States)])
theorem auto_Right_1_T (K : Nat) {x0 : aSt} {x1 : Q9} {bx1 : Nat} {r : Bool} (h : Cu K x0 x1 = some r) : Uz tp 45 [.agg [.sl false 1 (mI x0.L), .sl false 1 (mI x0.R), .sl false 1 (mI x0.Rule), .sl false 1 (x0.Next.map (cL 2 Qu))], .ptr bx1 0] [(J5 bx1 x1.Auto.Split.Of x1.Auto.Split.Many x1.Auto.Counts x1.Auto.States)] (fun γ => (.bool r)) (fun γ => [(J5 bx1 x1.Auto.Split.Of x1.Auto.Split.Many x1.Auto.Counts x1.Auto.States)]) := by
 refine Qt Try.func45 rfl (nb rfl) ?_
 show T tp 8 (ca [] Try.f45) ⟨Qv 0 [.agg [.sl false 1 (mI x0.L), .sl false 1 (mI x0.R), .sl false 1 (mI x0.Rule), .sl false 1 (x0.Next.map (cL 2 Qu))], .ptr bx1 0], [(J5 bx1 x1.Auto.Split.Of x1.Auto.Split.Many x1.Auto.Counts x1.Auto.States)]⟩ (auto_Right_1_q bx1 x1 r)
 unfold Cu at h
 refine T.seq (Qq ?_)
 refine sp rfl (Zg rfl (dk rfl) rfl (fun b => ?_))
 refine aw rfl ?_
 refine TL'.nil (tN (T.seq (Qq ?_)))
 refine sp rfl (Ze (i := 1) (l := ((Qx.dc 256 .u8 x1.Auto.Split.Of) ++ (([.int .i64 x1.Auto.Split.Many, .sl false 2 (mA x1.Auto.Counts), .sl false 4 (x1.Auto.States.map Q0)] : List DC)))) rfl (dk rfl) ul91 rfl i91 rfl rfl rfl rfl ?_)
 refine sp rfl (Ze (i := 0) (l := [.sl false 1 (mI x0.L), .sl false 1 (mI x0.R), .sl false 1 (mI x0.Rule), .sl false 1 (x0.Next.map (cL 2 Qu))]) rfl (dk rfl) Vm rfl i59 rfl rfl rfl rfl ?_)
 obtain ⟨c, a, h⟩ := bind_some h
 refine sp rfl (Q5 rfl (dk rfl) Try.func46 rfl rfl (Q3.cons rfl (Q3.cons rfl Q3.nil)) (Zt.nil (Oo K a)) ?_)
 refine sp rfl (OpT.not rfl (dk rfl) rfl ?_)
 refine aw rfl ?_
 refine TL'.nil (tN ?_)
 refine T.ret ?_
 exact Q6 (.cons _ _ _ _ (.tmp 3 _ rfl) .nil) (.cons 1 rfl (.nil _)) (by cases h; exact ⟨gl [], rfl, rfl⟩)
abbrev U8 (bx1c0 : Nat) (x1c0 : Q9) (r : Int) : ES := Jk tp Try.f63 (fun y t => ∃ γ : Nat → Value, y = (.int .i64 r) ∧ t = [(J5 bx1c0 x1c0.Auto.Split.Of x1c0.Auto.Split.Many x1c0.Auto.Counts x1c0.Auto.States)])
abbrev Ba (bx1c0 : Nat) (x1c0 : Q9) (r : Int) : ES := thenS (fun s' => T tp 19 (ca [1,1] Try.f63) s' ((U8 bx1c0 x1c0 r))) ((U8 bx1c0 x1c0 r))
abbrev K1 (bx1c0 : Nat) (x1c0 : Q9) (r : Int) : ES := Qz 0 ((Ba bx1c0 x1c0 r))
theorem Bb {r : Int} (K bx1c0 : Nat) (x1c0 : Q9) : ∀ (k : Nat), ∀ (x0 : List aSt) (a b : Int) (x1c0 : Q9) (flx0 : Bool), Zy K k x0 a b x1c0 = some r → TL tp 19 (ca [1,0,1,0,0] Try.f63) ⟨[(0, .sl flx0 4 (x0.map Q0)), (1, .c (.ex (.func (.func 45) #[] #[.pointer (some ⟨bx1c0, 0, none⟩)]))), (7, .int .i64 a), (8, .int .i64 b)], [(J5 bx1c0 x1c0.Auto.Split.Of x1c0.Auto.Split.Many x1c0.Auto.Counts x1c0.Auto.States)]⟩ (K1 bx1c0 x1c0 r) := by
 intro k
 induction k with
 | zero =>
  intro x0 a b x1c0 flx0 h
  cases (show (none : Option Int) = some r from h)
 | succ k ih =>
  intro x0 a b x1c0 flx0 h
  rw [Zy] at h
  refine Q4 ?_
  refine T.seq (Qq ?_)
  refine sp rfl (Qa rfl rfl (dk rfl) rfl rfl ?_)
  refine TL'.nil (tN ?_)
  refine T.seq ?_
  rcases Qd h with ⟨g, h⟩ | ⟨g, h⟩
  refine Qk rfl g ?_
  refine T.skip (tN ?_)
  refine T.seq ?_
  refine T.block ?_
  refine T.seq (Qq ?_)
  refine mw rfl ?_
  refine aw rfl ?_
  refine TL'.nil (tN (T.seq (Qq ?_)))
  iterate 3 refine mw rfl ?_
  obtain ⟨j, l, h⟩ := bind_some h
  refine sp rfl (Qh (xs := x0) (f := Q0) (v := j) rfl (dk rfl) X5 i59 rfl rfl l ?_)
  refine sp rfl (Zj rfl (dk rfl) Vm rfl i59 rfl (nb rfl) ?_)
  obtain ⟨p, m, h⟩ := bind_some h
  refine sp rfl (Fa (f := 45) (vs := [.pointer (some ⟨bx1c0, 0, none⟩)]) rfl rfl (dk rfl) Try.func45 rfl rfl (Q2 (is := [0]) (ph := []) rfl (dk rfl) Try.func45 rfl rfl (Q3.cons rfl (Q3.cons rfl Q3.nil)) (auto_Right_1_T K (bx1 := bx1c0) m) (.cons rfl rfl (.nil)) (fun _ => rfl) (fun q => ?_)))
  refine nm (.c (.n)) ?_
  refine TL'.nil (tN ?_)
  rcases Qd h with ⟨i, h⟩ | ⟨i, h⟩
  refine Qk rfl i ?_
  refine T.seq (Qq ?_)
  refine mw rfl ?_
  refine aw rfl ?_
  refine TL'.nil (tN ?_)
  refine T.ret (Qy (Ql (Ql (Qy (Ql ?_)))))
  exact Q6 (.cons _ _ _ _ (.tmp 4 _ rfl) .nil) (.cons 0 rfl (.nil _)) (by cases h; exact ⟨gl [], rfl, rfl⟩)
  refine Qo rfl i ?_
  refine T.skip (Qe (tN ?_))
  refine Qq ?_
  refine sp rfl (Qa rfl rfl (dk rfl) rfl rfl ?_)
  refine mw rfl ?_
  refine TL'.nil (tN ?_)
  refine Qb ?_ (ih x0 a (wI (b + (1:Int))) x1c0 flx0 h)
  exact tq rfl rfl
  refine Qo rfl g ?_
  refine T.exit (Qf (Qf (Qp (tN ?_))))
  refine T.seq (Qq ?_)
  refine aw rfl ?_
  refine TL'.nil (tN ?_)
  refine T.ret ?_
  exact Q6 (.cons _ _ _ _ (.tmp 4 _ rfl) .nil) (.cons 0 rfl (.nil _)) (by cases h; exact ⟨gl [], rfl, rfl⟩)
theorem Dl (K : Nat) {x0 : List aSt} {x1c0 : Q9} {flx0 : Bool} {bx1c0 : Nat} {r : Int} (h : Ud K x0 x1c0 = some r) : Uz tp 63 [.sl flx0 4 (x0.map Q0), .c (.ex (.func (.func 45) #[] #[.pointer (some ⟨bx1c0, 0, none⟩)]))] [(J5 bx1c0 x1c0.Auto.Split.Of x1c0.Auto.Split.Many x1c0.Auto.Counts x1c0.Auto.States)] (fun γ => (.int .i64 r)) (fun γ => [(J5 bx1c0 x1c0.Auto.Split.Of x1c0.Auto.Split.Many x1c0.Auto.Counts x1c0.Auto.States)]) := by
 refine Qt Try.func63 rfl (nb rfl) ?_
 show T tp 19 (ca [] Try.f63) ⟨Qv 0 [.sl flx0 4 (x0.map Q0), .c (.ex (.func (.func 45) #[] #[.pointer (some ⟨bx1c0, 0, none⟩)]))], [(J5 bx1c0 x1c0.Auto.Split.Of x1c0.Auto.Split.Many x1c0.Auto.Counts x1c0.Auto.States)]⟩ (U8 bx1c0 x1c0 r)
 unfold Ud at h
 refine T.seq (Qq ?_)
 refine aw rfl ?_
 refine TL'.nil (tN ?_)
 refine T.seq ?_
 refine T.seq (Qq ?_)
 refine mw rfl ?_
 refine sp rfl (Qn (xs := x0) (f := Q0) rfl (dk rfl) X5 rfl ?_)
 refine mw rfl ?_
 refine TL'.nil (tN ?_)
 refine T.block ?_
 refine T.loop ?_
 refine Qb ?_ (Bb K bx1c0 x1c0 K x0 (x0.length : Int) (0:Int) x1c0 flx0 h)
 exact tq rfl rfl
abbrev Bc (bx1c0 : Nat) (x1c0 : Q9) (r : Bool) : ES := Jk tp Try.f44 (fun y t => ∃ γ : Nat → Value, y = (.bool r) ∧ t = [(J5 bx1c0 x1c0.Auto.Split.Of x1c0.Auto.Split.Many x1c0.Auto.Counts x1c0.Auto.States)])
theorem Be (K : Nat) {x0 : List aSt} {x1c0 : Q9} {flx0 : Bool} {bx1c0 : Nat} {r : Bool} (h : Xb K x0 x1c0 = some r) : Uz tp 44 [.sl flx0 4 (x0.map Q0), .c (.ex (.func (.func 45) #[] #[.pointer (some ⟨bx1c0, 0, none⟩)]))] [(J5 bx1c0 x1c0.Auto.Split.Of x1c0.Auto.Split.Many x1c0.Auto.Counts x1c0.Auto.States)] (fun γ => (.bool r)) (fun γ => [(J5 bx1c0 x1c0.Auto.Split.Of x1c0.Auto.Split.Many x1c0.Auto.Counts x1c0.Auto.States)]) := by
 refine Qt Try.func44 rfl (nb rfl) ?_
 show T tp 9 (ca [] Try.f44) ⟨Qv 0 [.sl flx0 4 (x0.map Q0), .c (.ex (.func (.func 45) #[] #[.pointer (some ⟨bx1c0, 0, none⟩)]))], [(J5 bx1c0 x1c0.Auto.Split.Of x1c0.Auto.Split.Many x1c0.Auto.Counts x1c0.Auto.States)]⟩ (Bc bx1c0 x1c0 r)
 unfold Xb at h
 refine T.seq (Qq ?_)
 refine aw rfl ?_
 refine TL'.nil (tN (T.seq (Qq ?_)))
 refine mw rfl ?_
 refine mw rfl ?_
 obtain ⟨b, a, h⟩ := bind_some h
 refine sp rfl (Q2 (is := [0]) (ph := []) rfl (dk rfl) Try.func63 rfl rfl (Q3.cons rfl (Q3.cons rfl Q3.nil)) (Dl K (flx0 := flx0) (bx1c0 := bx1c0) a) (.cons rfl rfl (.nil)) (fun _ => rfl) (fun f => ?_))
 refine nm (.c (.n)) ?_
 refine sp rfl (Qa rfl rfl (dk rfl) rfl rfl ?_)
 refine aw rfl ?_
 refine TL'.nil (tN ?_)
 refine T.ret ?_
 exact Q6 (.cons _ _ _ _ (.tmp 4 _ rfl) .nil) (.cons 0 rfl (.nil _)) (by cases h; exact ⟨gl [], rfl, rfl⟩)
abbrev Kx (r : Bool) : ES := Jk tp Try.f20 (fun y t => y = (.bool r) ∧ t = [])
abbrev Qbe (r : Bool) : ES := thenS (fun s' => T tp 79 (ca [1,1] Try.f20) s' ((Kx r))) ((Kx r))
abbrev Qab (r : Bool) : ES := thenS (fun s' => T tp 79 (ca [1,1,1] Try.f20) s' ((Kx r))) ((Kx r))
abbrev G7 (r : Bool) : ES := Qz 0 ((Qab r))
abbrev Cs (r : Bool) : ES := thenS (fun s' => TL tp 79 (ca [1,1,0,1,0,0] Try.f20) s' ((G7 r))) ((G7 r))
abbrev If (r : Bool) : ES := thenS (fun s' => T tp 79 (ca [1,1,0,1,0,0,1,1,1] Try.f20) s' ((Cs r))) ((Cs r))
abbrev Ce (r : Bool) : ES := Qz 1 ((If r))
theorem Ww {r : Bool} (K : Nat) (h : Y2 K = some r) : T tp 79 (ca [1,0,1,0] Try.f20) ⟨[], []⟩ (Qbe r) := by
 unfold Y2 at h
 refine T.seq (Qq ?_)
 refine aw rfl ?_
 refine TL'.nil (tN ?_)
 refine T.ret (Ql ?_)
 exact Fin.done (.cons _ _ _ _ (.tmp 2 _ rfl) .nil) (by cases h; exact ⟨rfl, rfl⟩)
theorem G8 {r : Bool} (K : Nat) (h : Jx K = some r) : T tp 79 (ca [1,1,0,1,0,0,1,1,0,0,1,1,0] Try.f20) ⟨[], []⟩ (Ce r) := by
 unfold Jx at h
 refine T.seq (Qq ?_)
 refine aw rfl ?_
 refine TL'.nil (tN ?_)
 refine T.ret (Qy (Ql (Ql (Qy (Ql ?_)))))
 exact Fin.done (.cons _ _ _ _ (.tmp 2 _ rfl) .nil) (by cases h; exact ⟨rfl, rfl⟩)
theorem Qbf {r : Bool} (K : Nat) : ∀ (k : Nat), ∀ (x0 : aAu) (p q : Int) (u : Nat), Uq K k x0 p q = some r → TL tp 79 (ca [1,1,0,1,0,0] Try.f20) ⟨[(1, .ptr u 0), (45, .sl false 2 (mA x0.Counts)), (46, .int .i64 p), (47, .int .i64 q)], [(Xo u x0.Split.Of x0.Split.Many x0.Counts x0.States)]⟩ (G7 r) := by
 intro k
 induction k with
 | zero =>
  intro x0 p q u h
  cases (show (none : Option Bool) = some r from h)
 | succ k ih =>
  intro x0 p q u h
  rw [Uq] at h
  refine Q4 ?_
  refine T.seq (Qq ?_)
  refine sp rfl (Qa rfl rfl (dk rfl) rfl rfl ?_)
  refine TL'.nil (tN ?_)
  refine T.seq ?_
  rcases Qd h with ⟨w, h⟩ | ⟨w, h⟩
  refine Qk rfl w ?_
  refine T.skip (tN ?_)
  refine T.seq ?_
  refine T.block ?_
  refine T.seq (Qq ?_)
  obtain ⟨m, ab, h⟩ := bind_some h
  refine sp rfl (Qh (xs := x0.Counts) (f := (Zb.dc .i64)) (v := m) rfl (dk rfl) Mq i42 rfl rfl ab ?_)
  refine sp rfl (Zj rfl (dk rfl) ul42 rfl i42 rfl (nb rfl) ?_)
  refine sp rfl (Zi rfl (dk rfl) i42 rfl (fun ad => ?_))
  refine sp rfl (Q1 (i := 0) (cells' := (Zb.oc .i64 m)) rfl rfl i42 rfl rfl rfl rfl (nb rfl) rfl ?_)
  refine TL'.nil (tN (T.seq (Qq ?_)))
  refine sp rfl (Zx rfl (dk rfl) ul42 i3 rfl rfl (by decide) (by decide) ?_)
  refine sp rfl (Qm (i := 0) rfl (dk rfl) ul3 rfl rfl rfl (U0 (k := .i64) (a := m) (pre := []) (post := []) (by decide) (by decide)) ?_)
  refine sp rfl (Qa rfl rfl (dk rfl) rfl rfl ?_)
  refine mw rfl ?_
  rcases Qd h with ⟨b, h⟩ | ⟨b, h⟩
  refine pf rfl b ?_
  refine pf rfl b ?_
  refine pf rfl b ?_
  refine pf rfl b ?_
  refine pf rfl b ?_
  refine sp rfl (Qi rfl (dk rfl) rfl b rfl ?_)
  refine mw rfl ?_
  refine pf rfl rfl ?_
  refine pf rfl rfl ?_
  refine pf rfl rfl ?_
  refine sp rfl (Qi rfl (dk rfl) rfl rfl rfl ?_)
  refine mw rfl ?_
  refine pf rfl rfl ?_
  refine pf rfl rfl ?_
  refine pf rfl rfl ?_
  refine sp rfl (Qi rfl (dk rfl) rfl rfl rfl ?_)
  refine TL'.nil (tN ?_)
  refine Qk rfl rfl ?_
  refine Qc ?_ (G8 K h)
  exact tq rfl rfl
  refine sn rfl b (Zx rfl (dk rfl) ul42 i3 rfl rfl (by decide) (by decide) ?_)
  refine sn rfl b (Qm (i := 0) rfl (dk rfl) ul3 rfl rfl rfl (U0 (k := .i64) (a := m) (pre := []) (post := []) (by decide) (by decide)) ?_)
  refine sn rfl b (Zx rfl (dk rfl) ul42 i3 rfl rfl (by decide) (by decide) ?_)
  refine sn rfl b (Qm (i := 0) rfl (dk rfl) ul3 rfl rfl rfl (U0 (k := .i64) (a := m) (pre := []) (post := []) (by decide) (by decide)) ?_)
  refine sn rfl b (Qa rfl rfl (dk rfl) rfl rfl ?_)
  refine sp rfl (Qs rfl (dk rfl) rfl b rfl ?_)
  refine mw rfl ?_
  rcases Qd h with ⟨g, h⟩ | ⟨g, h⟩
  refine pf rfl g ?_
  refine pf rfl g ?_
  refine pf rfl g ?_
  refine sp rfl (Qi rfl (dk rfl) rfl g rfl ?_)
  refine mw rfl ?_
  refine pf rfl rfl ?_
  refine pf rfl rfl ?_
  refine pf rfl rfl ?_
  refine sp rfl (Qi rfl (dk rfl) rfl rfl rfl ?_)
  refine TL'.nil (tN ?_)
  refine Qk rfl rfl ?_
  refine Qc ?_ (G8 K h)
  exact tq rfl rfl
  refine sn rfl g (Zx rfl (dk rfl) ul42 i3 rfl rfl (by decide) (by decide) ?_)
  refine sn rfl g (Qm (i := 0) rfl (dk rfl) ul3 rfl rfl rfl (U0 (k := .i64) (a := m) (pre := []) (post := []) (by decide) (by decide)) ?_)
  refine sn rfl g (Qa rfl rfl (dk rfl) rfl rfl ?_)
  refine sp rfl (Qs rfl (dk rfl) rfl g rfl ?_)
  refine mw rfl ?_
  rcases Qd h with ⟨j, h⟩ | ⟨j, h⟩
  refine pf rfl j ?_
  refine pf rfl j ?_
  refine pf rfl j ?_
  refine sp rfl (Qi rfl (dk rfl) rfl j rfl ?_)
  refine TL'.nil (tN ?_)
  refine Qk rfl rfl ?_
  refine Qc ?_ (G8 K h)
  exact tq rfl rfl
  refine sn rfl j (Zx rfl (dk rfl) ul42 i3 rfl rfl (by decide) (by decide) ?_)
  refine sn rfl j (Qm (i := 0) rfl (dk rfl) ul3 rfl rfl rfl (U0 (k := .i64) (a := m) (pre := []) (post := []) (by decide) (by decide)) ?_)
  refine sn rfl j (Qa rfl rfl (dk rfl) rfl rfl ?_)
  refine sp rfl (Qs rfl (dk rfl) rfl j rfl ?_)
  refine TL'.nil (tN ?_)
  rcases Qd h with ⟨y, h⟩ | ⟨y, h⟩
  refine Qk rfl y ?_
  refine Qc ?_ (G8 K h)
  exact tq rfl rfl
  refine Qo rfl y ?_
  refine T.skip (Qe (tN ?_))
  refine Qq ?_
  refine sp rfl (Qa rfl rfl (dk rfl) rfl rfl ?_)
  refine mw rfl ?_
  refine TL'.nil (tN ?_)
  refine Qb ?_ (ih x0 p (wI (q + (1:Int))) u h)
  exact tr rfl (.c (.s .z) (.n _))
  refine Qo rfl w ?_
  refine T.exit (Qf (Qf (Qp (tN ?_))))
  refine T.seq (Qq ?_)
  refine sp rfl (Ze (i := 0) (l := ((Qx.dc 256 .u8 x0.Split.Of) ++ (([.int .i64 x0.Split.Many, .sl false 2 (mA x0.Counts), .sl false 4 (x0.States.map Q0)] : List DC)))) rfl (dk rfl) Xe rfl i28 rfl rfl rfl rfl ?_)
  refine sp rfl (OpT.build (l := ((Qx.dc 256 .u8 x0.Split.Of) ++ (([.int .i64 x0.Split.Many, .sl false 2 (mA x0.Counts), .sl false 4 (x0.States.map Q0)] : List DC)))) rfl (dk rfl) (Zr (pl := [(0, 259)]) ul91 i91 rfl) (J6 rfl) rfl rfl ?_)
  refine sp rfl (Zi rfl (dk rfl) i91 rfl (fun aa => ?_))
  refine sp rfl (Q1 (i := 0) (cells' := ((Qx.oc 256 .u8 x0.Split.Of) ++ (([.d (.int .i64 x0.Split.Many), .d (.sl false 2 (mA x0.Counts)), .d (.sl false 4 (x0.States.map Q0))]:List OC)))) rfl rfl i91 rfl rfl rfl rfl (nb rfl) rfl ?_)
  refine TL'.nil (tN (T.seq (Qq ?_)))
  refine sp rfl (Qg rfl (dk rfl) Xe rfl i26 (by decide) rfl ?_)
  refine sp rfl (Qm (i := 1) rfl (dk rfl) X5 rfl rfl rfl rfl ?_)
  refine sp rfl (OpT.makeFunc (vs := [.pointer (some ⟨aa, 0, none⟩)]) rfl (dk rfl) rfl ?_)
  obtain ⟨af, ac, h⟩ := bind_some h
  refine sp rfl (Q2 (is := [0]) (ph := []) rfl (dk rfl) Try.func44 rfl rfl (Q3.cons rfl (Q3.cons rfl Q3.nil)) (Be K (flx0 := false) (bx1c0 := aa) ac) (.cons rfl rfl (.nil)) (fun _ => rfl) (fun ag => ?_))
  refine nm (.c (.c (.n))) ?_
  refine sp rfl (OpT.not rfl (dk rfl) rfl ?_)
  refine aw rfl ?_
  refine TL'.nil (tN ?_)
  refine T.ret ?_
  exact Fin.done (.cons _ _ _ _ (.tmp 2 _ rfl) .nil) (by cases h; exact ⟨rfl, rfl⟩)
theorem Tv (K : Nat) {x0 : aAu} {r : Bool} (h : Gf K x0 = some r) : Zt tp 20 [.agg ((Qx.dc 256 .u8 x0.Split.Of) ++ (([.int .i64 x0.Split.Many, .sl false 2 (mA x0.Counts), .sl false 4 (x0.States.map Q0)] : List DC)))] [] (.bool r) := by
 refine Qt Try.func20 rfl (nb rfl) ?_
 show T tp 79 (ca [] Try.f20) ⟨Qv 0 [.agg ((Qx.dc 256 .u8 x0.Split.Of) ++ (([.int .i64 x0.Split.Many, .sl false 2 (mA x0.Counts), .sl false 4 (x0.States.map Q0)] : List DC)))], []⟩ (Kx r)
 unfold Gf at h
 refine T.seq (Qq ?_)
 refine sp rfl (Zg rfl (dk rfl) rfl (fun b => ?_))
 refine aw rfl ?_
 refine TL'.nil (tN ?_)
 refine T.seq ?_
 refine T.seq ?_
 refine X3 ?_
 refine dS (c := ⟨some 6, .ptr b (0 + 0), [(1, .ptr b 0)], [], []⟩) (fun t hm => oF rfl rfl (Qg rfl (dk rfl) Xe rfl i24 (by decide) hm.s0 rfl)) rfl rfl ?_
 refine dS (c := ⟨some 7, .agg ((Qx.dc 256 .u8 x0.Split.Of) ++ (([.int .i64 x0.Split.Many] : List DC))), [(6, .ptr b (0 + 0))], [(0, (Xo b x0.Split.Of x0.Split.Many x0.Counts x0.States))], []⟩) (fun t hm => oF rfl rfl (Ze (i := 0) (l := ((Qx.dc 256 .u8 x0.Split.Of) ++ (([.int .i64 x0.Split.Many] : List DC)))) rfl (dk rfl) Ig rfl i24 hm.s0 hm.o0 rfl rfl rfl)) rfl rfl ?_
 obtain ⟨q, y, h⟩ := bind_some h
 refine dS (c := ⟨some 8, .bool q, [(7, .agg ((Qx.dc 256 .u8 x0.Split.Of) ++ (([.int .i64 x0.Split.Many] : List DC))))], [], []⟩) (fun t hm => oF rfl rfl (Q5 rfl (dk rfl) Try.func43 rfl rfl (Q3.cons hm.s0 Q3.nil) (Zt.nil (split_Right_T K y)) rfl)) rfl rfl ?_
 refine dS (c := ⟨some 9, .bool (!q), [(8, .bool q)], [], []⟩) (fun t hm => oF rfl rfl (OpT.not rfl (dk rfl) hm.s0 rfl)) rfl rfl ?_
 refine Yr rfl rfl rfl rfl rfl rfl ?_
 rcases Qd h with ⟨j, h⟩ | ⟨j, h⟩
 refine dO j rfl rfl ?_
 refine dO j rfl rfl ?_
 refine dO j rfl rfl ?_
 refine dO j rfl rfl ?_
 refine dS (c := ⟨some 15, .bool true, [(10, .bool (!q))], [], []⟩) (fun t hm => oF rfl rfl (Qi rfl (dk rfl) hm.s0 j rfl rfl)) rfl rfl ?_
 refine Yr rfl rfl rfl rfl rfl rfl ?_
 refine dO rfl rfl rfl ?_
 refine dO rfl rfl rfl ?_
 refine dO rfl rfl rfl ?_
 refine dO rfl rfl rfl ?_
 refine dS (c := ⟨some 21, .bool true, [(16, .bool true)], [], []⟩) (fun t hm => oF rfl rfl (Qi rfl (dk rfl) hm.s0 rfl rfl rfl)) rfl rfl ?_
 refine Yr rfl rfl rfl rfl rfl rfl ?_
 refine dO rfl rfl rfl ?_
 refine dO rfl rfl rfl ?_
 refine dO rfl rfl rfl ?_
 refine dO rfl rfl rfl ?_
 refine dS (c := ⟨some 27, .bool true, [(22, .bool true)], [], []⟩) (fun t hm => oF rfl rfl (Qi rfl (dk rfl) hm.s0 rfl rfl rfl)) rfl rfl ?_
 refine Yr rfl rfl rfl rfl rfl rfl ?_
 refine dO rfl rfl rfl ?_
 refine dO rfl rfl rfl ?_
 refine dO rfl rfl rfl ?_
 refine dO rfl rfl rfl ?_
 refine dO rfl rfl rfl ?_
 refine dO rfl rfl rfl ?_
 refine dO rfl rfl rfl ?_
 refine dO rfl rfl rfl ?_
 refine dO rfl rfl rfl ?_
 refine dO rfl rfl rfl ?_
 refine dO rfl rfl rfl ?_
 refine dO rfl rfl rfl ?_
 refine dO rfl rfl rfl ?_
 refine dO rfl rfl rfl ?_
 refine dS (c := ⟨some 43, .bool true, [(28, .bool true)], [], []⟩) (fun t hm => oF rfl rfl (Qi rfl (dk rfl) hm.s0 rfl rfl rfl)) rfl rfl ?_
 refine Y4 (s1 := ⟨[(1, .ptr b 0), (43, .bool true)], [(Xo b x0.Split.Of x0.Split.Many x0.Counts x0.States)]⟩) (ms := [0, 1, 3, 7, 15, 31, 63, 127, 255, 511, 1023, 2047, 4095, 8191, 16383, 32767, 65535, 131071, 262143, 524287, 1048575, 2097151, 4194303, 8388607, 16777215, 33554431, 67108863, 134217727, 268435455, 8388607, 545259519, 1619001343, 3766484991, 8061452287, 16651386879, 34359738367, 68719476735, 137438953471]) Q7 rfl (by kernel_rfl) (by kernel_rfl) (by kernel_rfl) (sf rfl) rfl (fun u hu => (tN (Qc hu ?_)))
 refine Qk rfl rfl ?_
 refine Qc ?_ (Ww K h)
 exact tq rfl rfl
 refine dS (c := ⟨some 11, .ptr b (0 + 257), [(1, .ptr b 0), (10, .bool (!q))], [], []⟩) (fun t hm => oN rfl rfl rfl hm.s1 j (Qg rfl (dk rfl) Xe rfl i25 (by decide) hm.s0 rfl)) rfl rfl ?_
 refine dS (c := ⟨some 12, .sl false 2 (mA x0.Counts), [(11, .ptr b (0 + 257)), (10, .bool (!q))], [(0, (Xo b x0.Split.Of x0.Split.Many x0.Counts x0.States))], []⟩) (fun t hm => oN rfl rfl rfl hm.s1 j (Qm (i := 0) rfl (dk rfl) Mq rfl hm.s0 hm.o0 rfl rfl)) rfl rfl ?_
 refine dS (c := ⟨some 13, .int .i64 (x0.Counts.length : Int), [(12, .sl false 2 (mA x0.Counts)), (10, .bool (!q))], [], []⟩) (fun t hm => oN rfl rfl rfl hm.s1 j (Qn (xs := x0.Counts) (f := (Zb.dc .i64)) rfl (dk rfl) Mq hm.s0 rfl)) rfl rfl ?_
 refine dS (c := ⟨some 14, .bool (decide ((x0.Counts.length : Int) > (512:Int))), [(13, .int .i64 (x0.Counts.length : Int)), (10, .bool (!q))], [], []⟩) (fun t hm => oN rfl rfl rfl hm.s1 j (Qa rfl rfl (dk rfl) hm.s0 rfl rfl)) rfl rfl ?_
 refine dS (c := ⟨some 15, .bool (decide ((x0.Counts.length : Int) > (512:Int))), [(10, .bool (!q)), (14, .bool (decide ((x0.Counts.length : Int) > (512:Int))))], [], []⟩) (fun t hm => oF rfl rfl (Qs rfl (dk rfl) hm.s0 j hm.s1 rfl)) rfl rfl ?_
 refine Yr rfl rfl rfl rfl rfl rfl ?_
 rcases Qd h with ⟨m, h⟩ | ⟨m, h⟩
 refine dO m rfl rfl ?_
 refine dO m rfl rfl ?_
 refine dO m rfl rfl ?_
 refine dO m rfl rfl ?_
 refine dS (c := ⟨some 21, .bool true, [(16, .bool (decide ((x0.Counts.length : Int) > (512:Int))))], [], []⟩) (fun t hm => oF rfl rfl (Qi rfl (dk rfl) hm.s0 m rfl rfl)) rfl rfl ?_
 refine Yr rfl rfl rfl rfl rfl rfl ?_
 refine dO rfl rfl rfl ?_
 refine dO rfl rfl rfl ?_
 refine dO rfl rfl rfl ?_
 refine dO rfl rfl rfl ?_
 refine dS (c := ⟨some 27, .bool true, [(22, .bool true)], [], []⟩) (fun t hm => oF rfl rfl (Qi rfl (dk rfl) hm.s0 rfl rfl rfl)) rfl rfl ?_
 refine Yr rfl rfl rfl rfl rfl rfl ?_
 refine dO rfl rfl rfl ?_
 refine dO rfl rfl rfl ?_
 refine dO rfl rfl rfl ?_
 refine dO rfl rfl rfl ?_
 refine dO rfl rfl rfl ?_
 refine dO rfl rfl rfl ?_
 refine dO rfl rfl rfl ?_
 refine dO rfl rfl rfl ?_
 refine dO rfl rfl rfl ?_
 refine dO rfl rfl rfl ?_
 refine dO rfl rfl rfl ?_
 refine dO rfl rfl rfl ?_
 refine dO rfl rfl rfl ?_
 refine dO rfl rfl rfl ?_
 refine dS (c := ⟨some 43, .bool true, [(28, .bool true)], [], []⟩) (fun t hm => oF rfl rfl (Qi rfl (dk rfl) hm.s0 rfl rfl rfl)) rfl rfl ?_
 refine Y4 (s1 := ⟨[(1, .ptr b 0), (43, .bool true)], [(Xo b x0.Split.Of x0.Split.Many x0.Counts x0.States)]⟩) (ms := [0, 1, 3, 7, 15, 31, 63, 127, 255, 511, 1023, 2047, 4095, 8191, 16383, 32767, 65535, 131071, 262143, 524287, 1048575, 2097151, 4194303, 8388607, 16777215, 33554431, 67108863, 134217727, 268435455, 8388607, 545259519, 1619001343, 3766484991, 8061452287, 16651386879, 34359738367, 68719476735, 137438953471]) Q7 rfl (by kernel_rfl) (by kernel_rfl) (by kernel_rfl) (sf rfl) rfl (fun u hu => (tN (Qc hu ?_)))
 refine Qk rfl rfl ?_
 refine Qc ?_ (Ww K h)
 exact tq rfl rfl
 refine dS (c := ⟨some 17, .ptr b (0 + 258), [(1, .ptr b 0), (16, .bool (decide ((x0.Counts.length : Int) > (512:Int))))], [], []⟩) (fun t hm => oN rfl rfl rfl hm.s1 m (Qg rfl (dk rfl) Xe rfl i26 (by decide) hm.s0 rfl)) rfl rfl ?_
 refine dS (c := ⟨some 18, .sl false 4 (x0.States.map Q0), [(17, .ptr b (0 + 258)), (16, .bool (decide ((x0.Counts.length : Int) > (512:Int))))], [(0, (Xo b x0.Split.Of x0.Split.Many x0.Counts x0.States))], []⟩) (fun t hm => oN rfl rfl rfl hm.s1 m (Qm (i := 0) rfl (dk rfl) X5 rfl hm.s0 hm.o0 rfl rfl)) rfl rfl ?_
 refine dS (c := ⟨some 19, .int .i64 (x0.States.length : Int), [(18, .sl false 4 (x0.States.map Q0)), (16, .bool (decide ((x0.Counts.length : Int) > (512:Int))))], [], []⟩) (fun t hm => oN rfl rfl rfl hm.s1 m (Qn (xs := x0.States) (f := Q0) rfl (dk rfl) X5 hm.s0 rfl)) rfl rfl ?_
 refine dS (c := ⟨some 20, .bool (decide ((x0.States.length : Int) < (1:Int))), [(19, .int .i64 (x0.States.length : Int)), (16, .bool (decide ((x0.Counts.length : Int) > (512:Int))))], [], []⟩) (fun t hm => oN rfl rfl rfl hm.s1 m (Qa rfl rfl (dk rfl) hm.s0 rfl rfl)) rfl rfl ?_
 refine dS (c := ⟨some 21, .bool (decide ((x0.States.length : Int) < (1:Int))), [(16, .bool (decide ((x0.Counts.length : Int) > (512:Int)))), (20, .bool (decide ((x0.States.length : Int) < (1:Int))))], [], []⟩) (fun t hm => oF rfl rfl (Qs rfl (dk rfl) hm.s0 m hm.s1 rfl)) rfl rfl ?_
 refine Yr rfl rfl rfl rfl rfl rfl ?_
 rcases Qd h with ⟨p, h⟩ | ⟨p, h⟩
 refine dO p rfl rfl ?_
 refine dO p rfl rfl ?_
 refine dO p rfl rfl ?_
 refine dO p rfl rfl ?_
 refine dS (c := ⟨some 27, .bool true, [(22, .bool (decide ((x0.States.length : Int) < (1:Int))))], [], []⟩) (fun t hm => oF rfl rfl (Qi rfl (dk rfl) hm.s0 p rfl rfl)) rfl rfl ?_
 refine Yr rfl rfl rfl rfl rfl rfl ?_
 refine dO rfl rfl rfl ?_
 refine dO rfl rfl rfl ?_
 refine dO rfl rfl rfl ?_
 refine dO rfl rfl rfl ?_
 refine dO rfl rfl rfl ?_
 refine dO rfl rfl rfl ?_
 refine dO rfl rfl rfl ?_
 refine dO rfl rfl rfl ?_
 refine dO rfl rfl rfl ?_
 refine dO rfl rfl rfl ?_
 refine dO rfl rfl rfl ?_
 refine dO rfl rfl rfl ?_
 refine dO rfl rfl rfl ?_
 refine dO rfl rfl rfl ?_
 refine dS (c := ⟨some 43, .bool true, [(28, .bool true)], [], []⟩) (fun t hm => oF rfl rfl (Qi rfl (dk rfl) hm.s0 rfl rfl rfl)) rfl rfl ?_
 refine Y4 (s1 := ⟨[(1, .ptr b 0), (43, .bool true)], [(Xo b x0.Split.Of x0.Split.Many x0.Counts x0.States)]⟩) (ms := [0, 1, 3, 7, 15, 31, 63, 127, 255, 511, 1023, 2047, 4095, 8191, 16383, 32767, 65535, 131071, 262143, 524287, 1048575, 2097151, 4194303, 8388607, 16777215, 33554431, 67108863, 134217727, 268435455, 8388607, 545259519, 1619001343, 3766484991, 8061452287, 16651386879, 34359738367, 68719476735, 137438953471]) Q7 rfl (by kernel_rfl) (by kernel_rfl) (by kernel_rfl) (sf rfl) rfl (fun u hu => (tN (Qc hu ?_)))
 refine Qk rfl rfl ?_
 refine Qc ?_ (Ww K h)
 exact tq rfl rfl
 refine dS (c := ⟨some 23, .ptr b (0 + 258), [(1, .ptr b 0), (22, .bool (decide ((x0.States.length : Int) < (1:Int))))], [], []⟩) (fun t hm => oN rfl rfl rfl hm.s1 p (Qg rfl (dk rfl) Xe rfl i26 (by decide) hm.s0 rfl)) rfl rfl ?_
 refine dS (c := ⟨some 24, .sl false 4 (x0.States.map Q0), [(23, .ptr b (0 + 258)), (22, .bool (decide ((x0.States.length : Int) < (1:Int))))], [(0, (Xo b x0.Split.Of x0.Split.Many x0.Counts x0.States))], []⟩) (fun t hm => oN rfl rfl rfl hm.s1 p (Qm (i := 0) rfl (dk rfl) X5 rfl hm.s0 hm.o0 rfl rfl)) rfl rfl ?_
 refine dS (c := ⟨some 25, .int .i64 (x0.States.length : Int), [(24, .sl false 4 (x0.States.map Q0)), (22, .bool (decide ((x0.States.length : Int) < (1:Int))))], [], []⟩) (fun t hm => oN rfl rfl rfl hm.s1 p (Qn (xs := x0.States) (f := Q0) rfl (dk rfl) X5 hm.s0 rfl)) rfl rfl ?_
 refine dS (c := ⟨some 26, .bool (decide ((x0.States.length : Int) > (256:Int))), [(25, .int .i64 (x0.States.length : Int)), (22, .bool (decide ((x0.States.length : Int) < (1:Int))))], [], []⟩) (fun t hm => oN rfl rfl rfl hm.s1 p (Qa rfl rfl (dk rfl) hm.s0 rfl rfl)) rfl rfl ?_
 refine dS (c := ⟨some 27, .bool (decide ((x0.States.length : Int) > (256:Int))), [(22, .bool (decide ((x0.States.length : Int) < (1:Int)))), (26, .bool (decide ((x0.States.length : Int) > (256:Int))))], [], []⟩) (fun t hm => oF rfl rfl (Qs rfl (dk rfl) hm.s0 p hm.s1 rfl)) rfl rfl ?_
 refine Yr rfl rfl rfl rfl rfl rfl ?_
 rcases Qd h with ⟨g, h⟩ | ⟨g, h⟩
 refine dO g rfl rfl ?_
 refine dO g rfl rfl ?_
 refine dO g rfl rfl ?_
 refine dO g rfl rfl ?_
 refine dO g rfl rfl ?_
 refine dO g rfl rfl ?_
 refine dO g rfl rfl ?_
 refine dO g rfl rfl ?_
 refine dO g rfl rfl ?_
 refine dO g rfl rfl ?_
 refine dO g rfl rfl ?_
 refine dO g rfl rfl ?_
 refine dO g rfl rfl ?_
 refine dO g rfl rfl ?_
 refine dS (c := ⟨some 43, .bool true, [(28, .bool (decide ((x0.States.length : Int) > (256:Int))))], [], []⟩) (fun t hm => oF rfl rfl (Qi rfl (dk rfl) hm.s0 g rfl rfl)) rfl rfl ?_
 refine Y4 (s1 := ⟨[(1, .ptr b 0), (43, .bool true)], [(Xo b x0.Split.Of x0.Split.Many x0.Counts x0.States)]⟩) (ms := [0, 1, 3, 7, 15, 31, 63, 127, 255, 511, 1023, 2047, 4095, 8191, 16383, 32767, 65535, 131071, 262143, 524287, 1048575, 2097151, 4194303, 8388607, 16777215, 33554431, 67108863, 134217727, 268435455, 8388607, 545259519, 1619001343, 3766484991, 8061452287, 16651386879, 34359738367, 68719476735, 137438953471]) Q7 rfl (by kernel_rfl) (by kernel_rfl) (by kernel_rfl) (sf rfl) rfl (fun u hu => (tN (Qc hu ?_)))
 refine Qk rfl rfl ?_
 refine Qc ?_ (Ww K h)
 exact tq rfl rfl
 refine dS (c := ⟨some 29, .ptr b (0 + 258), [(1, .ptr b 0), (28, .bool (decide ((x0.States.length : Int) > (256:Int))))], [], []⟩) (fun t hm => oN rfl rfl rfl hm.s1 g (Qg rfl (dk rfl) Xe rfl i26 (by decide) hm.s0 rfl)) rfl rfl ?_
 refine dS (c := ⟨some 30, .sl false 4 (x0.States.map Q0), [(29, .ptr b (0 + 258)), (28, .bool (decide ((x0.States.length : Int) > (256:Int))))], [(0, (Xo b x0.Split.Of x0.Split.Many x0.Counts x0.States))], []⟩) (fun t hm => oN rfl rfl rfl hm.s1 g (Qm (i := 0) rfl (dk rfl) X5 rfl hm.s0 hm.o0 rfl rfl)) rfl rfl ?_
 obtain ⟨a, w, h⟩ := bind_some h
 refine dS (c := ⟨some 31, .ref [.sl false 1 (mI a.L), .sl false 1 (mI a.R), .sl false 1 (mI a.Rule), .sl false 1 (a.Next.map (cL 2 Qu))], [(30, .sl false 4 (x0.States.map Q0)), (28, .bool (decide ((x0.States.length : Int) > (256:Int))))], [], []⟩) (fun t hm => oN rfl rfl rfl hm.s1 g (Qh (xs := x0.States) (f := Q0) (v := a) rfl (dk rfl) X5 i59 hm.s0 rfl w rfl)) rfl rfl ?_
 refine dS (c := ⟨some 32, .ref [.sl false 1 (mI a.L), .sl false 1 (mI a.R), .sl false 1 (mI a.Rule), .sl false 1 (a.Next.map (cL 2 Qu))], [(31, .ref [.sl false 1 (mI a.L), .sl false 1 (mI a.R), .sl false 1 (mI a.Rule), .sl false 1 (a.Next.map (cL 2 Qu))]), (28, .bool (decide ((x0.States.length : Int) > (256:Int))))], [], []⟩) (fun t hm => oN rfl rfl rfl hm.s1 g (Z4 rfl (dk rfl) Vm rfl i56 (by decide) hm.s0 rfl)) rfl rfl ?_
 refine dS (c := ⟨some 33, .sl false 1 (mI a.L), [(32, .ref [.sl false 1 (mI a.L), .sl false 1 (mI a.R), .sl false 1 (mI a.Rule), .sl false 1 (a.Next.map (cL 2 Qu))]), (28, .bool (decide ((x0.States.length : Int) > (256:Int))))], [], []⟩) (fun t hm => oN rfl rfl rfl hm.s1 g (Qr rfl (dk rfl) Yd rfl hm.s0 rfl rfl)) rfl rfl ?_
 refine dS (c := ⟨some 34, .int .i64 (a.L.length : Int), [(33, .sl false 1 (mI a.L)), (28, .bool (decide ((x0.States.length : Int) > (256:Int))))], [], []⟩) (fun t hm => oN rfl rfl rfl hm.s1 g (Qn (xs := a.L) (f := (cI .i64)) rfl (dk rfl) Yd hm.s0 rfl)) rfl rfl ?_
 refine dS (c := ⟨some 35, .ptr b (0 + 258), [(1, .ptr b 0), (28, .bool (decide ((x0.States.length : Int) > (256:Int))))], [], []⟩) (fun t hm => oN rfl rfl rfl hm.s1 g (Qg rfl (dk rfl) Xe rfl i26 (by decide) hm.s0 rfl)) rfl rfl ?_
 refine dS (c := ⟨some 36, .sl false 4 (x0.States.map Q0), [(35, .ptr b (0 + 258)), (28, .bool (decide ((x0.States.length : Int) > (256:Int))))], [(0, (Xo b x0.Split.Of x0.Split.Many x0.Counts x0.States))], []⟩) (fun t hm => oN rfl rfl rfl hm.s1 g (Qm (i := 0) rfl (dk rfl) X5 rfl hm.s0 hm.o0 rfl rfl)) rfl rfl ?_
 refine dS (c := ⟨some 37, .ref [.sl false 1 (mI a.L), .sl false 1 (mI a.R), .sl false 1 (mI a.Rule), .sl false 1 (a.Next.map (cL 2 Qu))], [(36, .sl false 4 (x0.States.map Q0)), (28, .bool (decide ((x0.States.length : Int) > (256:Int))))], [], []⟩) (fun t hm => oN rfl rfl rfl hm.s1 g (Qh (xs := x0.States) (f := Q0) (v := a) rfl (dk rfl) X5 i59 hm.s0 rfl w rfl)) rfl rfl ?_
 refine dS (c := ⟨some 38, .ref [.sl false 1 (mI a.R), .sl false 1 (mI a.Rule), .sl false 1 (a.Next.map (cL 2 Qu))], [(37, .ref [.sl false 1 (mI a.L), .sl false 1 (mI a.R), .sl false 1 (mI a.Rule), .sl false 1 (a.Next.map (cL 2 Qu))]), (28, .bool (decide ((x0.States.length : Int) > (256:Int))))], [], []⟩) (fun t hm => oN rfl rfl rfl hm.s1 g (Z4 rfl (dk rfl) Vm rfl i56 (by decide) hm.s0 rfl)) rfl rfl ?_
 refine dS (c := ⟨some 39, .sl false 1 (mI a.R), [(38, .ref [.sl false 1 (mI a.R), .sl false 1 (mI a.Rule), .sl false 1 (a.Next.map (cL 2 Qu))]), (28, .bool (decide ((x0.States.length : Int) > (256:Int))))], [], []⟩) (fun t hm => oN rfl rfl rfl hm.s1 g (Qr rfl (dk rfl) Yd rfl hm.s0 rfl rfl)) rfl rfl ?_
 refine dS (c := ⟨some 40, .int .i64 (a.R.length : Int), [(39, .sl false 1 (mI a.R)), (28, .bool (decide ((x0.States.length : Int) > (256:Int))))], [], []⟩) (fun t hm => oN rfl rfl rfl hm.s1 g (Qn (xs := a.R) (f := (cI .i64)) rfl (dk rfl) Yd hm.s0 rfl)) rfl rfl ?_
 refine dS (c := ⟨some 41, .int .i64 (wI ((a.L.length : Int) + (a.R.length : Int))), [(34, .int .i64 (a.L.length : Int)), (40, .int .i64 (a.R.length : Int)), (28, .bool (decide ((x0.States.length : Int) > (256:Int))))], [], []⟩) (fun t hm => oN rfl rfl rfl hm.s2 g (Qa rfl rfl (dk rfl) hm.s0 hm.s1 rfl)) rfl rfl ?_
 refine dS (c := ⟨some 42, .bool (decide ((wI ((a.L.length : Int) + (a.R.length : Int))) > (0:Int))), [(41, .int .i64 (wI ((a.L.length : Int) + (a.R.length : Int)))), (28, .bool (decide ((x0.States.length : Int) > (256:Int))))], [], []⟩) (fun t hm => oN rfl rfl rfl hm.s1 g (Qa rfl rfl (dk rfl) hm.s0 rfl rfl)) rfl rfl ?_
 refine dS (c := ⟨some 43, .bool (decide ((wI ((a.L.length : Int) + (a.R.length : Int))) > (0:Int))), [(28, .bool (decide ((x0.States.length : Int) > (256:Int)))), (42, .bool (decide ((wI ((a.L.length : Int) + (a.R.length : Int))) > (0:Int))))], [], []⟩) (fun t hm => oF rfl rfl (Qs rfl (dk rfl) hm.s0 g hm.s1 rfl)) rfl rfl ?_
 refine Y4 (s1 := ⟨[(1, .ptr b 0), (43, .bool (decide ((wI ((a.L.length : Int) + (a.R.length : Int))) > (0:Int))))], [(Xo b x0.Split.Of x0.Split.Many x0.Counts x0.States)]⟩) (ms := [0, 1, 3, 7, 15, 31, 63, 127, 255, 511, 1023, 2047, 4095, 8191, 16383, 32767, 65535, 131071, 262143, 524287, 1048575, 2097151, 4194303, 8388607, 16777215, 33554431, 67108863, 134217727, 268435455, 8388607, 545259519, 1619001343, 3766484991, 8061452287, 16651386879, 34359738367, 68719476735, 137438953471]) Q7 rfl (by kernel_rfl) (by kernel_rfl) (by kernel_rfl) (sf rfl) rfl (fun u hu => (tN (Qc hu ?_)))
 rcases Qd h with ⟨s, h⟩ | ⟨s, h⟩
 refine Qk rfl s ?_
 refine Qc ?_ (Ww K h)
 exact tq rfl rfl
 refine Qo rfl s ?_
 refine T.skip (tN ?_)
 refine T.seq ?_
 refine T.seq (Qq ?_)
 refine sp rfl (Qg rfl (dk rfl) Xe rfl i25 (by decide) rfl ?_)
 refine sp rfl (Qm (i := 0) rfl (dk rfl) Mq rfl rfl rfl rfl ?_)
 refine sp rfl (Qn (xs := x0.Counts) (f := (Zb.dc .i64)) rfl (dk rfl) Mq rfl ?_)
 refine mw rfl ?_
 refine TL'.nil (tN ?_)
 refine T.block ?_
 refine T.loop ?_
 refine Qb ?_ (Qbf K K x0 (x0.Counts.length : Int) (0:Int) b h)
 exact tq rfl rfl
abbrev Rk (r : List Int) : ES := Jk tp Try.f47 (fun y t => ∃ γ : Nat → Value, y = (.c (.ex (γ 0))) ∧ t = [.arrA (γ 0) 5 1 (mU r)])
theorem Rl (K : Nat) {x1 : Int} {r : List Int} (h : J1 K x1 = some r) : Uz tp 47 [.c (.ex (.slice none 0 0)), .int .i64 x1] [] (fun γ => (.c (.ex (γ 0)))) (fun γ => [.arrA (γ 0) 5 1 (mU r)]) := by
 refine Qt Try.func47 rfl (nb rfl) ?_
 show T tp 27 (ca [] Try.f47) ⟨Qv 0 [.c (.ex (.slice none 0 0)), .int .i64 x1], []⟩ (Rk r)
 unfold J1 at h
 refine T.seq (Qq ?_)
 refine aw rfl ?_
 refine TL'.nil (tN ?_)
 refine T.seq ?_
 refine T.seq (Qq ?_)
 refine mw rfl ?_
 refine sp rfl (Qa rfl rfl (dk rfl) rfl rfl ?_)
 refine TL'.nil (tN ?_)
 rcases Qd h with ⟨a, h⟩ | ⟨a, h⟩
 refine Qk rfl a ?_
 refine Qq ?_
 cases h
 refine Qo rfl a ?_
 refine T.skip (tN ?_)
 refine T.seq ?_
 refine T.seq (Qq ?_)
 refine mw rfl ?_
 refine mw rfl ?_
 refine sp rfl (OpT.capNil rfl (dk rfl) Xg rfl ?_)
 refine mw rfl ?_
 refine sp rfl (OpT.lenEx rfl (dk rfl) Xg rfl ?_)
 refine sp rfl (Qa rfl rfl (dk rfl) rfl rfl ?_)
 refine sp rfl (Qa rfl rfl (dk rfl) rfl rfl ?_)
 refine aw rfl ?_
 refine TL'.nil (tN (T.seq (Qq ?_)))
 refine mw rfl ?_
 refine sp rfl (Qa rfl rfl (dk rfl) rfl rfl ?_)
 refine TL'.nil (tN ?_)
 rcases Qd h with ⟨b, h⟩ | ⟨b, h⟩
 refine Qk rfl b ?_
 refine Qq ?_
 refine mw rfl ?_
 refine mw rfl ?_
 refine sp rfl (OpT.capNil rfl (dk rfl) Xg rfl ?_)
 refine sp rfl (OpT.sliceNil rfl (dk rfl) Xg i5 rfl (.none _) (.some _ _ 0 _ rfl (by decide)) ?_)
 refine mw rfl ?_
 obtain ⟨g, h⟩ := Zh h
 obtain ⟨j, h⟩ := Zh h
 refine sp rfl (Qad (f := (cI .u8)) (zv := ((0:Int) : Int)) rfl (dk rfl) Xg ul3 i5 (by decide) rfl rfl rfl rfl rfl g j (fun m => ?_))
 refine mw rfl ?_
 refine sp rfl (OpT.lenEx rfl (dk rfl) Xg rfl ?_)
 obtain ⟨d, h⟩ := Zh h
 refine sp rfl (OpT.sliceX (i := 0) (xs := (List.replicate (Int.toNat (wI (x1 - (wI ((0:Int) - (0:Int)))))) ((0:Int) : Int))) (f := (cI .u8)) (h := (Int.toNat (0:Int))) rfl (dk rfl) Xg i5 rfl rfl (.some _ _ _ _ rfl d.1) d.2 (fun l => ?_))
 refine aw rfl ?_
 refine TL'.nil (tN (T.seq (Qq ?_)))
 refine mw rfl ?_
 refine aw rfl ?_
 refine TL'.nil (tN ?_)
 refine T.ret ?_
 refine Xf (D8 0 rfl) ?_
 exact Q6 (.cons _ _ _ _ (.tmp 4 _ rfl) .nil) (.cons 0 rfl (.nil _)) (by cases h; exact ⟨gl [l], rfl, rfl⟩)
 refine Qo rfl b ?_
 refine T.skip (tN ?_)
 refine T.seq (Qq ?_)
 refine mw rfl ?_
 refine aw rfl ?_
 refine TL'.nil (tN ?_)
 refine T.ret ?_
 refine Xf (Yc 5 1) ?_
 exact Q6 (.cons _ _ _ _ (.tmp 4 _ rfl) .nil) (.cons 0 rfl (.nil _)) (by cases h; exact ⟨gl [Mn 4], rfl, rfl⟩)
abbrev Vo (r : List Int) : ES := Jk tp Try.f21 (fun y t => ∃ γ : Nat → Value, y = (.c (.ex (γ 0))) ∧ t = [.arrA (γ 0) 5 1 (mU r)])
abbrev B6 (r : List Int) : ES := thenS (fun s' => T tp 36 (ca [1,1,1,1,1] Try.f21) s' ((Vo r))) ((Vo r))
abbrev Mt (r : List Int) : ES := Qz 2 ((B6 r))
abbrev Dm (r : List Int) : ES := thenS (fun s' => T tp 36 (ca [1,1,1] Try.f21) s' ((Vo r))) ((Vo r))
abbrev B7 (r : List Int) : ES := Qz 0 ((Dm r))
theorem Ej {r : List Int} (K : Nat) : ∀ (k : Nat), ∀ (x0 : List (List Int)) (b d : Int) (a : List Int) (flx0 : Bool) (g : Value), Va K k x0 b d a = some r → TL tp 36 (ca [1,1,1,1,0,1,0,0] Try.f21) ⟨[(6, .c (.ex g)), (25, .sl flx0 1 (x0.map (cL 1 (cI .u8)))), (26, .int .i64 b), (27, .int .i64 d)], [.arrA g 5 1 (mU a)]⟩ (Mt r) := by
 intro k
 induction k with
 | zero =>
  intro x0 b d a flx0 g h
  cases (show (none : Option (List Int)) = some r from h)
 | succ k ih =>
  intro x0 b d a flx0 g h
  rw [Va] at h
  refine Q4 ?_
  refine T.seq (Qq ?_)
  refine sp rfl (Qa rfl rfl (dk rfl) rfl rfl ?_)
  refine TL'.nil (tN ?_)
  refine T.seq ?_
  rcases Qd h with ⟨j, h⟩ | ⟨j, h⟩
  refine Qk rfl j ?_
  refine T.skip (tN ?_)
  refine T.seq ?_
  refine T.block ?_
  refine T.seq (Qq ?_)
  obtain ⟨l, m, h⟩ := bind_some h
  refine sp rfl (Qh (xs := x0) (f := (cL 1 (cI .u8))) (v := l) rfl (dk rfl) ul94 i29 rfl rfl m ?_)
  refine sp rfl (Qr rfl (dk rfl) Xg rfl rfl rfl ?_)
  refine aw rfl ?_
  refine TL'.nil (tN ?_)
  refine Qq ?_
  refine mw rfl ?_
  refine mw rfl ?_
  obtain ⟨p, h⟩ := Zh h
  refine sp rfl (Za (i := 0) (xs := a) (ys := l) (f := (cI .u8)) rfl (dk rfl) Xg i5 rfl rfl rfl rfl p (fun q => ?_))
  refine aw rfl ?_
  refine TL'.nil (Qe (tN ?_))
  refine Qq ?_
  refine sp rfl (Qa rfl rfl (dk rfl) rfl rfl ?_)
  refine mw rfl ?_
  refine TL'.nil (tN ?_)
  refine Qb ?_ (ih x0 b (wI (d + (1:Int))) (a ++ l) flx0 q h)
  exact tq rfl rfl
  refine Qo rfl j ?_
  refine T.exit (Qf (Qf (Qp (tN ?_))))
  refine T.seq (Qq ?_)
  refine mw rfl ?_
  refine aw rfl ?_
  refine TL'.nil (tN ?_)
  refine T.ret ?_
  exact Q6 (.cons _ _ _ _ (.tmp 2 _ rfl) .nil) (.cons 0 rfl (.nil _)) (by cases h; exact ⟨gl [g], rfl, rfl⟩)
theorem Ek {r : List Int} (K : Nat) : ∀ (k : Nat), ∀ (x0 : List (List Int)) (a b d : Int) (flx0 : Bool), Vb K k x0 a b d = some r → TL tp 36 (ca [1,1,0,1,0,0] Try.f21) ⟨[(0, .sl flx0 1 (x0.map (cL 1 (cI .u8)))), (3, .int .i64 a), (9, .sl flx0 1 (x0.map (cL 1 (cI .u8)))), (10, .int .i64 b), (11, .int .i64 d)], []⟩ (B7 r) := by
 intro k
 induction k with
 | zero =>
  intro x0 a b d flx0 h
  cases (show (none : Option (List Int)) = some r from h)
 | succ k ih =>
  intro x0 a b d flx0 h
  rw [Vb] at h
  refine Q4 ?_
  refine T.seq (Qq ?_)
  refine sp rfl (Qa rfl rfl (dk rfl) rfl rfl ?_)
  refine TL'.nil (tN ?_)
  refine T.seq ?_
  rcases Qd h with ⟨g, h⟩ | ⟨g, h⟩
  refine Qk rfl g ?_
  refine T.skip (tN ?_)
  refine T.seq ?_
  refine T.block ?_
  refine T.seq (Qq ?_)
  obtain ⟨i, l, h⟩ := bind_some h
  refine sp rfl (Qh (xs := x0) (f := (cL 1 (cI .u8))) (v := i) rfl (dk rfl) ul94 i29 rfl rfl l ?_)
  refine sp rfl (Qr rfl (dk rfl) Xg rfl rfl rfl ?_)
  refine aw rfl ?_
  refine TL'.nil (tN (T.seq (Qq ?_)))
  refine mw rfl ?_
  refine mw rfl ?_
  refine sp rfl (Qn (xs := i) (f := (cI .u8)) rfl (dk rfl) Xg rfl ?_)
  refine sp rfl (Qa rfl rfl (dk rfl) rfl rfl ?_)
  refine aw rfl ?_
  refine TL'.nil (tN (T.seq (Qq ?_)))
  refine mw rfl ?_
  refine sp rfl (Qa rfl rfl (dk rfl) rfl rfl ?_)
  refine TL'.nil (tN ?_)
  rcases Qd h with ⟨j, h⟩ | ⟨j, h⟩
  refine Qk rfl j ?_
  refine Qq ?_
  cases h
  refine Qo rfl j ?_
  refine T.skip (Qe (tN ?_))
  refine Qq ?_
  refine sp rfl (Qa rfl rfl (dk rfl) rfl rfl ?_)
  refine mw rfl ?_
  refine TL'.nil (tN ?_)
  refine Qb ?_ (ih x0 (wI (a + (i.length : Int))) b (wI (d + (1:Int))) flx0 h)
  exact tq rfl rfl
  refine Qo rfl g ?_
  refine T.exit (Qf (Qf (Qp (tN ?_))))
  refine T.seq (Qq ?_)
  refine mw rfl ?_
  refine Y7 Zs ?_
  obtain ⟨m, p, h⟩ := bind_some h
  refine sp rfl (Q2 (is := [0]) (ph := [.ro 0 []]) rfl (dk rfl) Try.func47 rfl rfl (Q3.cons rfl (Q3.cons rfl Q3.nil)) (Rl K p) (.cons rfl rfl (.nil)) (fun _ => rfl) (fun q => ?_))
  refine nm (.c (.n)) ?_
  refine aw rfl ?_
  refine TL'.nil (tN ?_)
  refine T.seq ?_
  refine T.seq (Qq ?_)
  refine mw rfl ?_
  refine sp rfl (Qn (xs := x0) (f := (cL 1 (cI .u8))) rfl (dk rfl) ul94 rfl ?_)
  refine mw rfl ?_
  refine TL'.nil (tN ?_)
  refine T.block ?_
  refine T.loop ?_
  refine Qb ?_ (Ej K K x0 (x0.length : Int) (0:Int) m flx0 (q 0) h)
  exact tq rfl rfl
theorem N5 (K : Nat) {x0 : List (List Int)} {flx0 : Bool} {r : List Int} (h : Uj K x0 = some r) : Uz tp 21 [.sl flx0 1 (x0.map (cL 1 (cI .u8)))] [] (fun γ => (.c (.ex (γ 0)))) (fun γ => [.arrA (γ 0) 5 1 (mU r)]) := by
 refine Qt Try.func21 rfl (nb rfl) ?_
 show T tp 36 (ca [] Try.f21) ⟨Qv 0 [.sl flx0 1 (x0.map (cL 1 (cI .u8)))], []⟩ (Vo r)
 unfold Uj at h
 refine T.seq (Qq ?_)
 refine aw rfl ?_
 refine TL'.nil (tN (T.seq (Qq ?_)))
 refine aw rfl ?_
 refine TL'.nil (tN ?_)
 refine T.seq ?_
 refine T.seq (Qq ?_)
 refine mw rfl ?_
 refine sp rfl (Qn (xs := x0) (f := (cL 1 (cI .u8))) rfl (dk rfl) ul94 rfl ?_)
 refine mw rfl ?_
 refine TL'.nil (tN ?_)
 refine T.block ?_
 refine T.loop ?_
 refine Qb ?_ (Ek K K x0 (0:Int) (x0.length : Int) (0:Int) flx0 h)
 exact tq rfl rfl
abbrev Pj (r : List Int) : ES := Jk tp Try.f27 (fun y t => ∃ γ : Nat → Value, y = (.c (.ex (γ 0))) ∧ t = [.arrA (γ 0) 5 1 (mU r)])
theorem Pl (K : Nat) {x0 : List Int} {flx0 : Bool} {r : List Int} (h : Wz K x0 = some r) : Uz tp 27 [.sl flx0 1 (mU x0)] [] (fun γ => (.c (.ex (γ 0)))) (fun γ => [.arrA (γ 0) 5 1 (mU r)]) := by
 refine Qt Try.func27 rfl (nb rfl) ?_
 show T tp 8 (ca [] Try.f27) ⟨Qv 0 [.sl flx0 1 (mU x0)], []⟩ (Pj r)
 unfold Wz at h
 refine T.seq (Qq ?_)
 refine aw rfl ?_
 refine TL'.nil (tN ?_)
 refine T.seq ?_
 refine T.seq (Qq ?_)
 refine mw rfl ?_
 refine sp rfl (OpT.eqNil (xs := x0) (f := (cI .u8)) rfl (dk rfl) Xg rfl rfl (fun b d => ?_))
 refine TL'.nil (tN ?_)
 rcases Bool.eq_false_or_eq_true b with a | a
 have hx := d a
 replace h : (some ([] : List Int)) = some r := by first | (rw [hx] at h; exact h) | exact h
 refine Qk rfl a ?_
 refine T.seq (Qq ?_)
 refine aw rfl ?_
 refine TL'.nil (tN ?_)
 refine T.ret (Ql ?_)
 refine Xf (Yc 5 1) ?_
 exact Q6 (.cons _ _ _ _ (.tmp 2 _ rfl) .nil) (.cons 0 rfl (.nil _)) (by cases h; exact ⟨gl [Mn 5], rfl, rfl⟩)
 refine Qo rfl a ?_
 refine T.skip (tN ?_)
 refine T.seq (Qq ?_)
 refine sp rfl (OpT.buildSlice (elems := ([] : List Int).map (cI .u8)) rfl (dk rfl) Xg i5 (by decide) rfl (J6 rfl) rfl rfl rfl (Yp rfl) (by decide) ?_)
 refine mw rfl ?_
 obtain ⟨g, h⟩ := Zh h
 refine sp rfl (C9 (xs := ([] : List Int)) (ys := x0) (f := (cI .u8)) rfl (dk rfl) Xg i5 rfl rfl rfl (.inr rfl) g (fun i => ?_))
 refine aw rfl ?_
 refine TL'.nil (tN ?_)
 refine T.ret ?_
 exact Q6 (.cons _ _ _ _ (.tmp 2 _ rfl) .nil) (.cons 0 rfl (.nil _)) (by cases h; exact ⟨gl [i], rfl, rfl⟩)
abbrev Pd (r : List Int) : ES := Jk tp Try.f14 (fun y t => ∃ γ : Nat → Value, y = (.c (.ex (γ 0))) ∧ t = [.arrA (γ 0) 5 1 (mU r)])
abbrev Qak (r : List Int) : ES := thenS (fun s' => T tp 25 (ca [1,1,1] Try.f14) s' ((Pd r))) ((Pd r))
abbrev Sq (r : List Int) : ES := Qz 0 ((Qak r))
theorem tb_Number_l0_T {r : List Int} (K : Nat) : ∀ (k : Nat), ∀ (a : Int) (b : List Int) (d : Value), Jm K k a b = some r → TL tp 25 (ca [1,1,0,1,0,0] Try.f14) ⟨[(1, .int .i64 a), (5, .c (.ex d))], [.arrA d 5 1 (mU b)]⟩ (Sq r) := by
 intro k
 induction k with
 | zero =>
  intro a b d h
  cases (show (none : Option (List Int)) = some r from h)
 | succ k ih =>
  intro a b d h
  rw [Jm] at h
  refine Q4 ?_
  refine T.seq ?_
  refine T.seq (Qq ?_)
  refine mw rfl ?_
  refine sp rfl (Qa rfl rfl (dk rfl) rfl rfl ?_)
  refine TL'.nil (tN ?_)
  rcases Qd h with ⟨g, h⟩ | ⟨g, h⟩
  refine Qk rfl g ?_
  refine T.skip (tN ?_)
  refine T.seq ?_
  refine T.block ?_
  refine Qq ?_
  refine mw rfl ?_
  refine mw rfl ?_
  refine sp rfl (Z9 rfl (dk rfl) ul3 ul5 rfl ?_)
  refine sp rfl (Qa rfl rfl (dk rfl) rfl rfl ?_)
  refine sp rfl (OpT.buildSlice (elems := ([(bits .or .u8 (IntKind.u8.wrap a) (128:Int))] : List Int).map (cI .u8)) rfl (dk rfl) Xg i5 (by decide) rfl (J6 rfl) rfl rfl rfl (Yp rfl) (by decide) ?_)
  obtain ⟨j, h⟩ := Zh h
  refine sp rfl (Za (i := 0) (xs := b) (ys := [(bits .or .u8 (IntKind.u8.wrap a) (128:Int))]) (f := (cI .u8)) rfl (dk rfl) Xg i5 rfl rfl rfl rfl j (fun l => ?_))
  refine aw rfl ?_
  refine TL'.nil (Qe (tN ?_))
  refine Qq ?_
  refine mw rfl ?_
  refine sp rfl (OpT.shr rfl (dk rfl) rfl rfl (by decide) ?_)
  refine aw rfl ?_
  refine TL'.nil (tN ?_)
  refine Qb ?_ (ih (Int.fdiv a (2 ^ min (Int.toNat (7:Int)) IntKind.i64.bits)) (b ++ [(bits .or .u8 (IntKind.u8.wrap a) (128:Int))]) l h)
  exact tq rfl rfl
  refine Qo rfl g ?_
  refine T.exit (Qf (Qf (Qp (tN ?_))))
  refine T.seq (Qq ?_)
  refine mw rfl ?_
  refine mw rfl ?_
  refine sp rfl (Z9 rfl (dk rfl) ul3 ul5 rfl ?_)
  refine sp rfl (OpT.buildSlice (elems := ([(IntKind.u8.wrap a)] : List Int).map (cI .u8)) rfl (dk rfl) Xg i5 (by decide) rfl (J6 rfl) rfl rfl rfl (Yp rfl) (by decide) ?_)
  obtain ⟨m, h⟩ := Zh h
  refine sp rfl (Za (i := 0) (xs := b) (ys := [(IntKind.u8.wrap a)]) (f := (cI .u8)) rfl (dk rfl) Xg i5 rfl rfl rfl rfl m (fun p => ?_))
  refine aw rfl ?_
  refine TL'.nil (tN ?_)
  refine T.ret ?_
  exact Q6 (.cons _ _ _ _ (.tmp 4 _ rfl) .nil) (.cons 0 rfl (.nil _)) (by cases h; exact ⟨gl [p], rfl, rfl⟩)
theorem Qal (K : Nat) {x0 : List Int} {x1 : Int} {flx0 : Bool} {r : List Int} (h : Dk K x0 x1 = some r) : Uz tp 14 [.sl flx0 1 (mU x0), .int .i64 x1] [] (fun γ => (.c (.ex (γ 0)))) (fun γ => [.arrA (γ 0) 5 1 (mU r)]) := by
 refine Qt Try.func14 rfl (nb rfl) ?_
 show T tp 25 (ca [] Try.f14) ⟨Qv 0 [.sl flx0 1 (mU x0), .int .i64 x1], []⟩ (Pd r)
 unfold Dk at h
 refine T.seq (Qq ?_)
 refine aw rfl ?_
 refine TL'.nil (tN (T.seq (Qq ?_)))
 refine mw rfl ?_
 refine Y7 Zs ?_
 obtain ⟨a, b, h⟩ := bind_some h
 refine sp rfl (Q2 (is := [0]) (ph := [.ro 0 []]) rfl (dk rfl) Try.func27 rfl rfl (Q3.cons rfl Q3.nil) (Pl K (flx0 := flx0) b) (.cons rfl rfl (.nil)) (fun _ => rfl) (fun d => ?_))
 refine nm (.c (.n)) ?_
 refine aw rfl ?_
 refine TL'.nil (tN ?_)
 refine T.seq ?_
 refine T.seq (Qq ?_)
 refine mw rfl ?_
 refine sp rfl (OpT.max2 rfl (dk rfl) rfl rfl ?_)
 refine aw rfl ?_
 refine TL'.nil (tN ?_)
 refine T.block ?_
 refine T.loop ?_
 refine Qb ?_ (tb_Number_l0_T K K (if (0:Int) > x1 then (0:Int) else x1) a (d 0) h)
 exact tq rfl rfl
abbrev tbw_num_q (bx0 : Nat) (r : tbw) : ES := Jk tp Try.f22 (fun y t => ∃ γ : Nat → Value, y = (.tup []) ∧ t = [(D5 bx0 (γ 0)), .arrA (γ 0) 5 1 (mU r.b)])
abbrev tbw_num_qb0x (bx0 : Nat) (r : tbw) : ES := Qz 0 ((tbw_num_q bx0 r))
theorem tbw_num_l0_T {r : tbw} (K bx0 : Nat) : ∀ (k : Nat), ∀ (x1 : List Int) (a b : Int) (j : List Int) (flx1 : Bool) (g : Value), J7 K k x1 a b j = some r → TL tp 22 (ca [1,0,0] Try.f22) ⟨[(0, .ptr bx0 0), (6, .sl flx1 1 (mI x1)), (7, .int .i64 a), (8, .int .i64 b)], [(D5 bx0 g), .arrA g 5 1 (mU j)]⟩ (tbw_num_qb0x bx0 r) := by
 intro k
 induction k with
 | zero =>
  intro x1 a b j flx1 g h
  cases (show (none : Option tbw) = some r from h)
 | succ k ih =>
  intro x1 a b j flx1 g h
  rw [J7] at h
  refine Q4 ?_
  refine T.seq (Qq ?_)
  refine sp rfl (Qa rfl rfl (dk rfl) rfl rfl ?_)
  refine TL'.nil (tN ?_)
  refine T.seq ?_
  rcases Qd h with ⟨l, h⟩ | ⟨l, h⟩
  refine Qk rfl l ?_
  refine T.skip (tN ?_)
  refine T.seq ?_
  refine T.block ?_
  refine T.seq (Qq ?_)
  obtain ⟨p, q, h⟩ := bind_some h
  refine sp rfl (Qh (xs := x1) (f := (cI .i64)) (v := p) rfl (dk rfl) Yd i3 rfl rfl q ?_)
  refine sp rfl (Qr rfl (dk rfl) ul3 rfl rfl rfl ?_)
  refine aw rfl ?_
  refine TL'.nil (tN ?_)
  refine Qq ?_
  refine mw rfl ?_
  refine mw rfl ?_
  refine sp rfl (OpT.nilCheck rfl (dk rfl) rfl rfl ?_)
  refine sp rfl (Qg rfl (dk rfl) ul54 rfl i29 (by decide) rfl ?_)
  refine sp rfl (Zm (Qm (i := 0) rfl (dk rfl) Xg rfl rfl rfl rfl rfl) (Ke 16 1 rfl) ?_)
  refine mw rfl ?_
  refine Y7 Zs ?_
  obtain ⟨u, w, h⟩ := bind_some h
  refine sp rfl (Q2 (is := [0]) (ph := [.ro 0 []]) rfl (dk rfl) Try.func14 rfl rfl (Q3.cons rfl (Q3.cons rfl Q3.nil)) (Qal K (flx0 := false) w) (.cons rfl rfl (.nil)) (fun _ => rfl) (fun m => ?_))
  refine nm (.c (.c (.c (.n)))) ?_
  refine sp rfl (OpT.nilCheck rfl (dk rfl) rfl rfl ?_)
  refine sp rfl (Qg rfl (dk rfl) ul54 rfl i29 (by decide) rfl ?_)
  refine sp rfl (Xd (i := 1) (cells' := [.d (.ex (m 0))]) rfl rfl i29 rfl rfl rfl (nb rfl) rfl ?_)
  refine TL'.nil (Qe (tN ?_))
  refine Qq ?_
  refine sp rfl (Qa rfl rfl (dk rfl) rfl rfl ?_)
  refine mw rfl ?_
  refine TL'.nil (tN ?_)
  refine Qb ?_ (ih x1 a (wI (b + (1:Int))) u flx1 (m 0) h)
  exact tr rfl (.c (.s .z) (.c .z (.n _)))
  refine Qo rfl l ?_
  refine T.exit (Qf (Qf (Qp ?_)))
  exact Q6 (.nil) (.cons 0 rfl (.cons 0 rfl (.nil _))) (by cases h; exact ⟨gl [g], rfl, rfl⟩)
theorem M1 (K : Nat) {x0 : tbw} {x1 : List Int} {bx0 : Nat} {wx0c0 : Value} {flx1 : Bool} {r : tbw} (h : Lj K x0 x1 = some r) : Uz tp 22 [.ptr bx0 0, .sl flx1 1 (mI x1)] [(D5 bx0 wx0c0), .arrA wx0c0 5 1 (mU x0.b)] (fun γ => (.tup [])) (fun γ => [(D5 bx0 (γ 0)), .arrA (γ 0) 5 1 (mU r.b)]) := by
 refine Qt Try.func22 rfl (nb rfl) ?_
 show T tp 22 (ca [] Try.f22) ⟨Qv 0 [.ptr bx0 0, .sl flx1 1 (mI x1)], [(D5 bx0 wx0c0), .arrA wx0c0 5 1 (mU x0.b)]⟩ (tbw_num_q bx0 r)
 unfold Lj at h
 refine T.seq (Qq ?_)
 refine mw rfl ?_
 refine sp rfl (Qn (xs := x1) (f := (cI .i64)) rfl (dk rfl) Yd rfl ?_)
 refine mw rfl ?_
 refine TL'.nil (tN ?_)
 refine T.block ?_
 refine T.loop ?_
 refine Qb ?_ (tbw_num_l0_T K bx0 K x1 (x1.length : Int) (0:Int) x0.b flx1 wx0c0 h)
 exact tq rfl rfl
abbrev tbw_list_q (bx0 : Nat) (r : tbw) : ES := Jk tp Try.f23 (fun y t => ∃ γ : Nat → Value, y = (.tup []) ∧ t = [(D5 bx0 (γ 0)), .arrA (γ 0) 5 1 (mU r.b)])
theorem tbw_list_T (K : Nat) {x0 : tbw} {x1 : List Int} {bx0 : Nat} {wx0c0 : Value} {flx1 : Bool} {r : tbw} (h : Nq K x0 x1 = some r) : Uz tp 23 [.ptr bx0 0, .sl flx1 1 (mI x1)] [(D5 bx0 wx0c0), .arrA wx0c0 5 1 (mU x0.b)] (fun γ => (.tup [])) (fun γ => [(D5 bx0 (γ 0)), .arrA (γ 0) 5 1 (mU r.b)]) := by
 refine Qt Try.func23 rfl (nb rfl) ?_
 show T tp 12 (ca [] Try.f23) ⟨Qv 0 [.ptr bx0 0, .sl flx1 1 (mI x1)], [(D5 bx0 wx0c0), .arrA wx0c0 5 1 (mU x0.b)]⟩ (tbw_list_q bx0 r)
 unfold Nq at h
 refine T.seq (Qq ?_)
 refine mw rfl ?_
 refine mw rfl ?_
 refine sp rfl (Qn (xs := x1) (f := (cI .i64)) rfl (dk rfl) Yd rfl ?_)
 refine sp rfl (OpT.buildSlice (elems := ([(x1.length : Int)] : List Int).map (cI .i64)) rfl (dk rfl) Yd i3 (by decide) rfl (J6 rfl) rfl rfl rfl (Yp rfl) (by decide) ?_)
 obtain ⟨l, a, h⟩ := bind_some h
 refine sp rfl (Q2 (is := [0, 1]) (ph := []) rfl (dk rfl) Try.func22 rfl rfl (Q3.cons rfl (Q3.cons rfl Q3.nil)) (M1 K (bx0 := bx0) (wx0c0 := wx0c0) (flx1 := true) a) (.cons rfl rfl (.cons rfl rfl (.nil))) (fun _ => rfl) (fun g => ?_))
 refine nm (.c (.c (.n))) ?_
 refine TL'.nil (tN ?_)
 refine Qq ?_
 refine mw rfl ?_
 refine mw rfl ?_
 obtain ⟨m, i, h⟩ := bind_some h
 refine sp rfl (Q2 (is := [0, 1]) (ph := []) rfl (dk rfl) Try.func22 rfl rfl (Q3.cons rfl (Q3.cons rfl Q3.nil)) (M1 K (bx0 := bx0) (wx0c0 := (g 0)) (flx1 := flx1) i) (.cons rfl rfl (.cons rfl rfl (.nil))) (fun _ => rfl) (fun j => ?_))
 refine nm (.c (.c (.n))) ?_
 refine TL'.nil ?_
 exact Q6 (.nil) (.cons 0 rfl (.cons 0 rfl (.nil _))) (by cases h; exact ⟨gl [j 0], rfl, rfl⟩)
end Go.Rv

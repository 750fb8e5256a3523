/- Each function computes what its plain text says: printed by a program of ours. -/
import Derived.Test.YtaipjabggdifoaaRgW7
namespace Go.Rv
open Go.Proofs
set_option maxRecDepth 100000
set_option maxHeartbeats 4000000
set_option linter.unusedVariables false
abbrev Wo (r : Bool) : ES := Jt tp Try.f9 (fun y t => y = (.bool r) ∧ t = [])
abbrev Fz (r : Bool) : ES := thenS (fun s' => T tp 91 (ca [1,1,1,1,1] Try.f9) s' ((Wo r))) ((Wo r))
abbrev D3 (r : Bool) : ES := thenS (fun s' => T tp 91 (ca [1,1,1,1,1,1,1] Try.f9) s' ((Wo r))) ((Wo r))
theorem G2 {r : Bool} (K : Nat) (a : Bool) (h : J0 K a = some r) : T tp 91 (ca [1,1,1,1,0,1,0,1] Try.f9) ⟨[(6, .bool a)], []⟩ (Fz r) := by
 unfold J0 at h
 refine T.ret (Qj ?_)
 exact Fin.done (.cons _ _ _ _ (.tmp 6 _ rfl) .nil) (by cases h; exact ⟨rfl, rfl⟩)
theorem G1 {r : Bool} (K : Nat) (h : Jz K = some r) : T tp 91 (ca [1,1,1,1,1,1,0,1,0] Try.f9) ⟨[], []⟩ (D3 r) := by
 unfold Jz at h
 refine T.seq (Qr ?_)
 refine aw rfl ?_
 refine TL'.nil (tN ?_)
 refine T.ret (Qj ?_)
 exact Fin.done (.cons _ _ _ _ (.tmp 6 _ rfl) .nil) (by cases h; exact ⟨rfl, rfl⟩)
theorem l4_TableOnce_T (K : Nat) {x0 : List Int} {x1 x2 : Int} {flx0 r : Bool} (h : Hf K x0 x1 x2 = some r) : Zq tp 9 [.sl flx0 1 (mU x0), .int .u16 x1, .int .u8 x2] [] (.bool r) := by
 refine Qs Try.func9 rfl (nb rfl) ?_
 show T tp 91 (ca [] Try.f9) ⟨Qv 0 [.sl flx0 1 (mU x0), .int .u16 x1, .int .u8 x2], []⟩ (Wo r)
 unfold Hf at h
 refine T.seq (Qr ?_)
 refine aw rfl ?_
 refine TL'.nil (tN (T.seq (Qr ?_)))
 obtain ⟨al, z, h⟩ := bind_some h
 refine sp rfl (Q2 rfl (dk rfl) Try.func13 rfl rfl Q7.nil (Zq.nil (l4_shown_T K z)) ?_)
 refine aw rfl ?_
 refine TL'.nil (tN (T.seq (Qr ?_)))
 refine mw rfl ?_
 refine mw rfl ?_
 refine sp rfl (Qn (xs := x0) (f := (cI .u8)) rfl (dk rfl) Vc rfl ?_)
 refine sp rfl (OpT.min2 rfl (dk rfl) rfl rfl ?_)
 obtain ⟨v, h⟩ := Zm h
 refine sp rfl (Pe (xs := x0) (f := (cI .u8)) (l := 0) (h := (Int.toNat (if (20000:Int) < (x0.length : Int) then (20000:Int) else (x0.length : Int)))) rfl (dk rfl) Vc i5 rfl (.none _) (.some _ _ _ _ rfl v.1) v.2.1 v.2.2 ?_)
 refine aw rfl ?_
 refine TL'.nil (tN (T.seq (Qr ?_)))
 refine mw rfl ?_
 obtain ⟨b, aa, h⟩ := bind_some h
 refine sp rfl (Q2 rfl (dk rfl) Try.func17 rfl rfl (Q7.cons rfl Q7.nil) (Zq.nil (P9 K (flx0 := false) aa)) ?_)
 refine mw rfl ?_
 refine sp rfl (OpT.extract rfl (dk rfl) rfl rfl ?_)
 refine sp rfl (OpT.extract rfl (dk rfl) rfl rfl ?_)
 refine sp rfl (Zk rfl (dk rfl) i28 rfl (fun am => ?_))
 refine sp rfl (Q0 (i := 0) (cells' := ((Qy.oc 256 .u8 b.1.Split.Of) ++ (([.d (.int .i64 b.1.Split.Many), .d (.sl false 2 (mA b.1.Counts)), .d (.sl false 4 (b.1.States.map Qx))]:List OC)))) rfl rfl i28 rfl rfl rfl rfl (nb rfl) rfl ?_)
 refine aw rfl ?_
 refine TL'.nil (tN ?_)
 refine T.seq ?_
 refine T.seq (Qr ?_)
 refine mw rfl ?_
 refine sp rfl (Qa rfl rfl (dk rfl) rfl rfl ?_)
 refine TL'.nil (tN ?_)
 rcases Qb h with ⟨w, h⟩ | ⟨w, h⟩
 refine Qk rfl w ?_
 refine T.seq (Qr ?_)
 refine mw rfl ?_
 refine mw rfl ?_
 rcases Qb h with ⟨q, h⟩ | ⟨q, h⟩
 refine sn rfl q (OpT.move rfl (dk rfl) rfl ?_)
 refine sn rfl q (Qa rfl rfl (dk rfl) rfl rfl ?_)
 refine sp rfl (Qf rfl (dk rfl) rfl q rfl ?_)
 refine mw rfl ?_
 rcases Qb h with ⟨g, h⟩ | ⟨g, h⟩
 refine sn rfl g (Ql rfl (dk rfl) X8 rfl i26 (by decide) rfl ?_)
 refine sn rfl g (Qm (i := 0) rfl (dk rfl) V0 rfl rfl rfl rfl ?_)
 refine sn rfl g (Qn (xs := b.1.States) (f := Qx) rfl (dk rfl) V0 rfl ?_)
 refine sn rfl g (Qa rfl rfl (dk rfl) rfl rfl ?_)
 refine sp rfl (Qf rfl (dk rfl) rfl g rfl ?_)
 refine aw rfl ?_
 refine TL'.nil (tN ?_)
 refine Qc ?_ (G2 K ((b.1.States.length : Int) == (0:Int)) h)
 exact tq rfl rfl
 refine pf rfl g ?_
 refine pf rfl g ?_
 refine pf rfl g ?_
 refine pf rfl g ?_
 refine sp rfl (Qp rfl (dk rfl) rfl g rfl ?_)
 refine aw rfl ?_
 refine TL'.nil (tN ?_)
 refine Qc ?_ (G2 K false h)
 exact tq rfl rfl
 refine pf rfl q ?_
 refine pf rfl q ?_
 refine sp rfl (Qp rfl (dk rfl) rfl q rfl ?_)
 refine mw rfl ?_
 refine pf rfl rfl ?_
 refine pf rfl rfl ?_
 refine pf rfl rfl ?_
 refine pf rfl rfl ?_
 refine sp rfl (Qp rfl (dk rfl) rfl rfl rfl ?_)
 refine aw rfl ?_
 refine TL'.nil (tN ?_)
 refine Qc ?_ (G2 K false h)
 exact tq rfl rfl
 refine Qo rfl w ?_
 refine T.skip (tN ?_)
 refine T.seq (Qr ?_)
 refine sp rfl (Zc (i := 0) (l := ((Qy.dc 256 .u8 b.1.Split.Of) ++ (([.int .i64 b.1.Split.Many, .sl false 2 (mA b.1.Counts), .sl false 4 (b.1.States.map Qx)] : List DC)))) rfl (dk rfl) X8 rfl i28 rfl rfl rfl rfl ?_)
 obtain ⟨ab, ac, h⟩ := bind_some h
 refine sp rfl (Q2 rfl (dk rfl) Try.func10 rfl rfl (Q7.cons rfl Q7.nil) (Zq.nil (P8 K ac)) ?_)
 refine mw rfl ?_
 refine sp rfl (OpT.extract rfl (dk rfl) rfl rfl ?_)
 refine sp rfl (OpT.extract rfl (dk rfl) rfl rfl ?_)
 refine aw rfl ?_
 refine aw rfl ?_
 refine TL'.nil (tN ?_)
 refine T.seq ?_
 refine T.seq (Qr ?_)
 refine mw rfl ?_
 refine sp rfl (Qa rfl rfl (dk rfl) rfl rfl ?_)
 refine mw rfl ?_
 rcases Qb h with ⟨c, h⟩ | ⟨c, h⟩
 refine pf rfl c ?_
 refine pf rfl c ?_
 refine pf rfl c ?_
 refine pf rfl c ?_
 refine pf rfl c ?_
 refine sp rfl (Qf rfl (dk rfl) rfl c rfl ?_)
 refine mw rfl ?_
 refine pf rfl rfl ?_
 refine pf rfl rfl ?_
 refine pf rfl rfl ?_
 refine sp rfl (Qf rfl (dk rfl) rfl rfl rfl ?_)
 refine TL'.nil (tN ?_)
 refine Qk rfl rfl ?_
 refine Qc ?_ (G1 K h)
 exact tq rfl rfl
 refine sn rfl c (OpT.move rfl (dk rfl) rfl ?_)
 refine sn rfl c (Ub (xs := ab.1) rfl (dk rfl) Vc ul5 ul9 rfl ?_)
 refine sn rfl c (OpT.move rfl (dk rfl) rfl ?_)
 refine sn rfl c (Ub (xs := ((x0.take (Int.toNat (if (20000:Int) < (x0.length : Int) then (20000:Int) else (x0.length : Int)))).drop 0)) rfl (dk rfl) Vc ul5 ul9 rfl ?_)
 refine sn rfl c (R7 rfl (dk rfl) rfl rfl ?_)
 refine sp rfl (Qp rfl (dk rfl) rfl c rfl ?_)
 refine mw rfl ?_
 rcases Qb h with ⟨j, h⟩ | ⟨j, h⟩
 refine pf rfl j ?_
 refine pf rfl j ?_
 refine pf rfl j ?_
 refine sp rfl (Qf rfl (dk rfl) rfl j rfl ?_)
 refine TL'.nil (tN ?_)
 refine Qk rfl rfl ?_
 refine Qc ?_ (G1 K h)
 exact tq rfl rfl
 refine sn rfl j (Zc (i := 0) (l := ((Qy.dc 256 .u8 b.1.Split.Of) ++ (([.int .i64 b.1.Split.Many, .sl false 2 (mA b.1.Counts), .sl false 4 (b.1.States.map Qx)] : List DC)))) rfl (dk rfl) X8 rfl i28 rfl rfl rfl rfl ?_)
 obtain ⟨an, ad, h⟩ := bind_some h
 refine sn rfl j (Q2 rfl (dk rfl) Try.func19 rfl rfl (Q7.cons rfl Q7.nil) (Zq.nil (r1_Right_T K ad)) ?_)
 refine sn rfl j (OpT.not rfl (dk rfl) rfl ?_)
 refine sp rfl (Qp rfl (dk rfl) rfl j rfl ?_)
 refine TL'.nil (tN ?_)
 rcases Qb h with ⟨y, h⟩ | ⟨y, h⟩
 refine Qk rfl y ?_
 refine Qc ?_ (G1 K h)
 exact tq rfl rfl
 refine Qo rfl y ?_
 refine T.skip (tN ?_)
 refine T.seq (Qr ?_)
 refine sp rfl (Me (elems := ([] : List Int).map (cI .u8)) rfl (dk rfl) Vc i5 (by decide) rfl (Gb rfl) rfl rfl rfl (Xf rfl) (by decide) (fun ap => ?_))
 refine mw rfl ?_
 obtain ⟨af, h⟩ := Zm h
 refine sp rfl (E7 (i := 0) (xs := ([] : List Int)) (ys := ((x0.take (Int.toNat (if (20000:Int) < (x0.length : Int) then (20000:Int) else (x0.length : Int)))).drop 0)) (f := (cI .u8)) rfl (dk rfl) Vc i5 rfl rfl rfl rfl af (fun aq => ?_))
 refine aw rfl ?_
 refine TL'.nil (tN (T.seq (Qr ?_)))
 refine mw rfl ?_
 refine mw rfl ?_
 refine sp rfl (Yn rfl (dk rfl) ul47 ul3 rfl ?_)
 refine mw rfl ?_
 refine sp rfl (Ce (i := 0) (xs := (([] : List Int) ++ ((x0.take (Int.toNat (if (20000:Int) < (x0.length : Int) then (20000:Int) else (x0.length : Int)))).drop 0))) (f := (cI .u8)) rfl (dk rfl) Vc rfl rfl ?_)
 obtain ⟨ag, h⟩ := Zm h
 refine sp rfl (OpT.rem rfl (dk rfl) rfl rfl ag ?_)
 obtain ⟨s, u, h⟩ := bind_some h
 refine sp rfl (U9 (n := 0) (xs := (([] : List Int) ++ ((x0.take (Int.toNat (if (20000:Int) < (x0.length : Int) then (20000:Int) else (x0.length : Int)))).drop 0))) (f := (cI .u8)) (old := s) rfl (dk rfl) Vc i5 rfl rfl rfl u ?_)
 refine sp rfl (Pf (i := 0) (xs := (([] : List Int) ++ ((x0.take (Int.toNat (if (20000:Int) < (x0.length : Int) then (20000:Int) else (x0.length : Int)))).drop 0))) (f := (cI .u8)) (old := s) rfl (dk rfl) ul5 rfl rfl rfl (Z0 u).2 rfl ?_)
 refine mw rfl ?_
 refine sp rfl (Qa rfl rfl (dk rfl) rfl rfl ?_)
 refine sp rfl (U9 (n := 0) (xs := (([] : List Int) ++ ((x0.take (Int.toNat (if (20000:Int) < (x0.length : Int) then (20000:Int) else (x0.length : Int)))).drop 0))) (f := (cI .u8)) (old := s) rfl (dk rfl) Vc i5 rfl rfl rfl u ?_)
 refine sp rfl (I9 (i := 0) (xs := (([] : List Int) ++ ((x0.take (Int.toNat (if (20000:Int) < (x0.length : Int) then (20000:Int) else (x0.length : Int)))).drop 0))) (f := (cI .u8)) (old := s) (new := (bits .xor .u8 s x2)) rfl rfl i5 rfl rfl rfl (Z0 u).2 (Nat.zero_le _) (nb rfl) rfl ?_)
 refine TL'.nil (tN (T.seq (Qr ?_)))
 refine mw rfl ?_
 refine Xh (Fh 0 rfl) ?_
 refine Xh (Zn.view 74 0 rfl rfl) ?_
 obtain ⟨p, ai, h⟩ := bind_some h
 refine sp rfl (Q2 rfl (dk rfl) Try.func17 rfl rfl (Q7.cons rfl Q7.nil) (Zq.nil (P9 K (flx0 := false) ai)) ?_)
 refine mw rfl ?_
 refine sp rfl (OpT.extract rfl (dk rfl) rfl rfl ?_)
 refine sp rfl (OpT.extract rfl (dk rfl) rfl rfl ?_)
 refine sp rfl (Zk rfl (dk rfl) i28 rfl (fun au => ?_))
 refine sp rfl (Q0 (i := 0) (cells' := ((Qy.oc 256 .u8 p.1.Split.Of) ++ (([.d (.int .i64 p.1.Split.Many), .d (.sl false 2 (mA p.1.Counts)), .d (.sl false 4 (p.1.States.map Qx))]:List OC)))) rfl rfl i28 rfl rfl rfl rfl (nb rfl) rfl ?_)
 refine aw rfl ?_
 refine TL'.nil (tN (T.seq (Qr ?_)))
 refine mw rfl ?_
 refine mw rfl ?_
 rcases Qb h with ⟨a, h⟩ | ⟨a, h⟩
 refine sn rfl a (OpT.move rfl (dk rfl) rfl ?_)
 refine sn rfl a (Qa rfl rfl (dk rfl) rfl rfl ?_)
 refine sn rfl a (OpT.move rfl (dk rfl) rfl ?_)
 refine sn rfl a (Qa rfl rfl (dk rfl) rfl rfl ?_)
 refine sn rfl a (OpT.move rfl (dk rfl) rfl ?_)
 rcases Qb h with ⟨m, h⟩ | ⟨m, h⟩
 refine sn rfl m (Zc (i := 2) (l := ((Qy.dc 256 .u8 b.1.Split.Of) ++ (([.int .i64 b.1.Split.Many, .sl false 2 (mA b.1.Counts), .sl false 4 (b.1.States.map Qx)] : List DC)))) rfl (dk rfl) X8 rfl i28 rfl rfl rfl rfl ?_)
 refine sn rfl m (Zc (i := 0) (l := ((Qy.dc 256 .u8 p.1.Split.Of) ++ (([.int .i64 p.1.Split.Many, .sl false 2 (mA p.1.Counts), .sl false 4 (p.1.States.map Qx)] : List DC)))) rfl (dk rfl) X8 rfl i28 rfl rfl rfl rfl ?_)
 obtain ⟨av, aj, h⟩ := bind_some h
 refine sn rfl m (Q2 rfl (dk rfl) Try.func16 rfl rfl (Q7.cons rfl (Q7.cons rfl Q7.nil)) (Zq.nil (r1_Same_T K aj)) ?_)
 refine sn rfl a (Qf rfl (dk rfl) rfl m rfl ?_)
 refine sn rfl a (Pq rfl (dk rfl) ul4 rfl rfl ?_)
 refine sp rfl (Qf rfl (dk rfl) rfl a rfl ?_)
 refine aw rfl ?_
 refine TL'.nil (tN ?_)
 refine T.ret ?_
 exact Fin.done (.cons _ _ _ _ (.tmp 6 _ rfl) .nil) (by cases h; exact ⟨rfl, rfl⟩)
 refine pf rfl m ?_
 refine pf rfl m ?_
 refine pf rfl m ?_
 refine sn rfl a (Qp rfl (dk rfl) rfl m rfl ?_)
 refine sn rfl a (Pq rfl (dk rfl) ul4 rfl rfl ?_)
 refine sp rfl (Qf rfl (dk rfl) rfl a rfl ?_)
 refine aw rfl ?_
 refine TL'.nil (tN ?_)
 refine T.ret ?_
 exact Fin.done (.cons _ _ _ _ (.tmp 6 _ rfl) .nil) (by cases h; exact ⟨rfl, rfl⟩)
 refine pf rfl a ?_
 refine pf rfl a ?_
 refine pf rfl a ?_
 refine pf rfl a ?_
 refine pf rfl a ?_
 refine Pn (.gone _ _ _ rfl rfl rfl) (dk rfl) ?_
 refine Pn (.gone _ _ _ rfl rfl rfl) (dk rfl) ?_
 refine Pn (.gone _ _ _ rfl rfl rfl) (dk rfl) ?_
 refine pf rfl a ?_
 refine pf rfl a ?_
 refine sp rfl (Qp rfl (dk rfl) rfl a rfl ?_)
 refine aw rfl ?_
 refine TL'.nil (tN ?_)
 refine T.ret ?_
 exact Fin.done (.cons _ _ _ _ (.tmp 6 _ rfl) .nil) (by cases h; exact ⟨rfl, rfl⟩)
end Go.Rv

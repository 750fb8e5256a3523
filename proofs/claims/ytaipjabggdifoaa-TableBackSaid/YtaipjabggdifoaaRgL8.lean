/- Each function computes what its plain text says: printed by a program of ours. -/
import Derived.Test.YtaipjabggdifoaaRgW7
namespace Go.Rv
open Go.Proofs
set_option maxRecDepth 100000
set_option maxHeartbeats 4000000
set_option linter.unusedVariables false
abbrev Bh (r : Bool) : ES := Jt tp Try.f8 (fun y t => y = (.bool r) ∧ t = [])
abbrev Fu (r : Bool) : ES := thenS (fun s' => T tp 101 (ca [1,1,1,1,1] Try.f8) s' ((Bh r))) ((Bh r))
theorem Wa {r : Bool} (K : Nat) (a : Bool) (h : Uy K a = some r) : T tp 101 (ca [1,1,1,1,0,1,0,1] Try.f8) ⟨[(6, .bool a)], []⟩ (Fu r) := by
 unfold Uy at h
 refine T.ret (Qj ?_)
 exact Fin.done (.cons _ _ _ _ (.tmp 6 _ rfl) .nil) (by cases h; exact ⟨rfl, rfl⟩)
theorem l4_TableBack_T (K : Nat) {x0 : aAu} {x1 x2 : Int} {r : Bool} (h : He K x0 x1 x2 = some r) : Zp tp 8 [.agg ((Qy.dc 256 .u8 x0.Split.Of) ++ (([.int .i64 x0.Split.Many, .sl false 2 (mA x0.Counts), .sl false 4 (x0.States.map Qx)] : List DC))), .int .u16 x1, .int .u8 x2] [] (.bool r) := by
 refine Qs Try.func8 rfl (nb rfl) ?_
 show T tp 101 (ca [] Try.f8) ⟨Qv 0 [.agg ((Qy.dc 256 .u8 x0.Split.Of) ++ (([.int .i64 x0.Split.Many, .sl false 2 (mA x0.Counts), .sl false 4 (x0.States.map Qx)] : List DC))), .int .u16 x1, .int .u8 x2], []⟩ (Bh r)
 unfold He at h
 refine T.seq (Qr ?_)
 refine sp rfl (Zb rfl (dk rfl) rfl (fun ay => ?_))
 refine aw rfl ?_
 refine TL'.nil (tN (T.seq (Qr ?_)))
 obtain ⟨az, ad, h⟩ := bind_some h
 refine sp rfl (Q2 rfl (dk rfl) Try.func13 rfl rfl Q5.nil (Zp.nil (l4_shown_T K ad)) ?_)
 refine aw rfl ?_
 refine TL'.nil (tN (T.seq (Qr ?_)))
 refine sp rfl (Zc (i := 0) (l := ((Qy.dc 256 .u8 x0.Split.Of) ++ (([.int .i64 x0.Split.Many, .sl false 2 (mA x0.Counts), .sl false 4 (x0.States.map Qx)] : List DC)))) rfl (dk rfl) Xu rfl i28 rfl rfl rfl rfl ?_)
 obtain ⟨a, af, h⟩ := bind_some h
 refine sp rfl (Q2 rfl (dk rfl) Try.func11 rfl rfl (Q5.cons rfl Q5.nil) (Zp.nil (l4_few_T K af)) ?_)
 refine sp rfl (Zj rfl (dk rfl) i28 rfl (fun a0 => ?_))
 refine sp rfl (Qz (i := 0) (cells' := ((Qy.oc 256 .u8 a.Split.Of) ++ (([.d (.int .i64 a.Split.Many), .d (.sl false 2 (mA a.Counts)), .d (.sl false 4 (a.States.map Qx))]:List OC)))) rfl rfl i28 rfl rfl rfl rfl (nb rfl) rfl ?_)
 refine TL'.nil (tN (T.seq (Qr ?_)))
 refine sp rfl (Zc (i := 0) (l := ((Qy.dc 256 .u8 a.Split.Of) ++ (([.int .i64 a.Split.Many, .sl false 2 (mA a.Counts), .sl false 4 (a.States.map Qx)] : List DC)))) rfl (dk rfl) Xu rfl i28 rfl rfl rfl rfl ?_)
 obtain ⟨q, ag, h⟩ := bind_some h
 refine sp rfl (Q2 rfl (dk rfl) Try.func10 rfl rfl (Q5.cons rfl Q5.nil) (Zp.nil (P5 K ag)) ?_)
 refine mw rfl ?_
 refine sp rfl (OpT.extract rfl (dk rfl) rfl rfl ?_)
 refine sp rfl (OpT.extract rfl (dk rfl) rfl rfl ?_)
 refine aw rfl ?_
 refine aw rfl ?_
 refine TL'.nil (tN ?_)
 refine T.seq ?_
 refine T.seq (Qr ?_)
 refine mw rfl ?_
 refine sp rfl (Qa rfl rfl (dk rfl) rfl rfl ?_)
 refine TL'.nil (tN ?_)
 rcases Qb h with ⟨aa, h⟩ | ⟨aa, h⟩
 refine Qk rfl aa ?_
 refine T.seq (Qr ?_)
 refine mw rfl ?_
 refine mw rfl ?_
 rcases Qb h with ⟨s, h⟩ | ⟨s, h⟩
 refine sn rfl s (OpT.move rfl (dk rfl) rfl ?_)
 refine sn rfl s (Qa rfl rfl (dk rfl) rfl rfl ?_)
 refine sp rfl (Qf rfl (dk rfl) rfl s rfl ?_)
 refine mw rfl ?_
 rcases Qb h with ⟨g, h⟩ | ⟨g, h⟩
 refine sn rfl g (OpT.move rfl (dk rfl) rfl ?_)
 refine sn rfl g (Qn (xs := q.1) (f := (cI .u8)) rfl (dk rfl) Vj rfl ?_)
 refine sn rfl g (Qa rfl rfl (dk rfl) rfl rfl ?_)
 refine sp rfl (Qf rfl (dk rfl) rfl g rfl ?_)
 refine mw rfl ?_
 rcases Qb h with ⟨j, h⟩ | ⟨j, h⟩
 refine sn rfl j (Zc (i := 0) (l := ((Qy.dc 256 .u8 a.Split.Of) ++ (([.int .i64 a.Split.Many, .sl false 2 (mA a.Counts), .sl false 4 (a.States.map Qx)] : List DC)))) rfl (dk rfl) Xu rfl i28 rfl rfl rfl rfl ?_)
 obtain ⟨ai, aj, h⟩ := bind_some h
 refine sn rfl j (Q2 rfl (dk rfl) Try.func19 rfl rfl (Q5.cons rfl Q5.nil) (Zp.nil (r1_Right_T K aj)) ?_)
 refine sn rfl j (OpT.not rfl (dk rfl) rfl ?_)
 refine sp rfl (Qf rfl (dk rfl) rfl j rfl ?_)
 refine aw rfl ?_
 refine TL'.nil (tN ?_)
 refine Qd ?_ (Wa K (!ai) h)
 exact tq rfl rfl
 refine pf rfl j ?_
 refine pf rfl j ?_
 refine pf rfl j ?_
 refine sp rfl (Qm rfl (dk rfl) rfl j rfl ?_)
 refine aw rfl ?_
 refine TL'.nil (tN ?_)
 refine Qd ?_ (Wa K false h)
 exact tq rfl rfl
 refine pf rfl g ?_
 refine pf rfl g ?_
 refine pf rfl g ?_
 refine sp rfl (Qm rfl (dk rfl) rfl g rfl ?_)
 refine mw rfl ?_
 refine pf rfl rfl ?_
 refine pf rfl rfl ?_
 refine pf rfl rfl ?_
 refine sp rfl (Qm rfl (dk rfl) rfl rfl rfl ?_)
 refine aw rfl ?_
 refine TL'.nil (tN ?_)
 refine Qd ?_ (Wa K false h)
 exact tq rfl rfl
 refine pf rfl s ?_
 refine pf rfl s ?_
 refine sp rfl (Qm rfl (dk rfl) rfl s rfl ?_)
 refine mw rfl ?_
 refine pf rfl rfl ?_
 refine pf rfl rfl ?_
 refine pf rfl rfl ?_
 refine sp rfl (Qm rfl (dk rfl) rfl rfl rfl ?_)
 refine mw rfl ?_
 refine pf rfl rfl ?_
 refine pf rfl rfl ?_
 refine pf rfl rfl ?_
 refine sp rfl (Qm rfl (dk rfl) rfl rfl rfl ?_)
 refine aw rfl ?_
 refine TL'.nil (tN ?_)
 refine Qd ?_ (Wa K false h)
 exact tq rfl rfl
 refine Qp rfl aa ?_
 refine T.skip (tN ?_)
 refine T.seq ?_
 refine T.seq (Qr ?_)
 refine mw rfl ?_
 refine sp rfl (Qn (xs := q.1) (f := (cI .u8)) rfl (dk rfl) Vj rfl ?_)
 refine sp rfl (Qa rfl rfl (dk rfl) rfl rfl ?_)
 refine TL'.nil (tN ?_)
 rcases Qb h with ⟨ab, h⟩ | ⟨ab, h⟩
 refine Qk rfl ab ?_
 refine T.seq (Qr ?_)
 refine aw rfl ?_
 refine TL'.nil (tN ?_)
 refine T.ret (Qj ?_)
 exact Fin.done (.cons _ _ _ _ (.tmp 6 _ rfl) .nil) (by cases h; exact ⟨rfl, rfl⟩)
 refine Qp rfl ab ?_
 refine T.skip (tN ?_)
 refine T.seq (Qr ?_)
 refine mw rfl ?_
 obtain ⟨p, al, h⟩ := bind_some h
 refine sp rfl (Q2 rfl (dk rfl) Try.func17 rfl rfl (Q5.cons rfl Q5.nil) (Zp.nil (Ij K (flx0 := false) al)) ?_)
 refine mw rfl ?_
 refine sp rfl (OpT.extract rfl (dk rfl) rfl rfl ?_)
 refine sp rfl (OpT.extract rfl (dk rfl) rfl rfl ?_)
 refine sp rfl (Zj rfl (dk rfl) i28 rfl (fun a1 => ?_))
 refine sp rfl (Qz (i := 0) (cells' := ((Qy.oc 256 .u8 p.1.Split.Of) ++ (([.d (.int .i64 p.1.Split.Many), .d (.sl false 2 (mA p.1.Counts)), .d (.sl false 4 (p.1.States.map Qx))]:List OC)))) rfl rfl i28 rfl rfl rfl rfl (nb rfl) rfl ?_)
 refine aw rfl ?_
 refine TL'.nil (tN (T.seq (Qr ?_)))
 refine mw rfl ?_
 refine mw rfl ?_
 refine sp rfl (Yn rfl (dk rfl) ul47 ul3 rfl ?_)
 refine mw rfl ?_
 refine sp rfl (Qn (xs := q.1) (f := (cI .u8)) rfl (dk rfl) Vj rfl ?_)
 obtain ⟨am, h⟩ := Zm h
 refine sp rfl (OpT.rem rfl (dk rfl) rfl rfl am ?_)
 obtain ⟨ac, h⟩ := Zm h
 refine sp rfl (Pc (xs := q.1) (f := (cI .u8)) (l := 0) (h := (Int.toNat (Int.tmod (wI x1) (q.1.length : Int)))) rfl (dk rfl) Vj i5 rfl (.none _) (.some _ _ _ _ rfl ac.1) ac.2.1 ac.2.2 ?_)
 obtain ⟨y, an, h⟩ := bind_some h
 refine sp rfl (Q2 rfl (dk rfl) Try.func17 rfl rfl (Q5.cons rfl Q5.nil) (Zp.nil (Ij K (flx0 := false) an)) ?_)
 refine mw rfl ?_
 refine sp rfl (OpT.extract rfl (dk rfl) rfl rfl ?_)
 refine sp rfl (OpT.extract rfl (dk rfl) rfl rfl ?_)
 refine sp rfl (Zj rfl (dk rfl) i28 rfl (fun a2 => ?_))
 refine sp rfl (Qz (i := 0) (cells' := ((Qy.oc 256 .u8 y.1.Split.Of) ++ (([.d (.int .i64 y.1.Split.Many), .d (.sl false 2 (mA y.1.Counts)), .d (.sl false 4 (y.1.States.map Qx))]:List OC)))) rfl rfl i28 rfl rfl rfl rfl (nb rfl) rfl ?_)
 refine aw rfl ?_
 refine TL'.nil (tN (T.seq (Qr ?_)))
 refine sp rfl (OpT.buildSlice (elems := ([] : List Int).map (cI .u8)) rfl (dk rfl) Vj i5 (by decide) rfl (Ho rfl) rfl rfl rfl (Xc rfl) (by decide) ?_)
 refine mw rfl ?_
 obtain ⟨ap, h⟩ := Zm h
 refine sp rfl (F5 (xs := ([] : List Int)) (ys := q.1) (f := (cI .u8)) rfl (dk rfl) Vj i5 rfl rfl rfl (.inr rfl) ap (fun a3 => ?_))
 refine mw rfl ?_
 refine sp rfl (OpT.buildSlice (elems := ([x2] : List Int).map (cI .u8)) rfl (dk rfl) Vj i5 (by decide) rfl (Ho rfl) rfl rfl rfl (Xc rfl) (by decide) ?_)
 obtain ⟨aq, h⟩ := Zm h
 refine sp rfl (Zf (i := 0) (xs := (([] : List Int) ++ q.1)) (ys := [x2]) (f := (cI .u8)) rfl (dk rfl) Vj i5 rfl rfl rfl rfl aq (fun a4 => ?_))
 refine Xk (Zn.view 67 0 rfl rfl) ?_
 obtain ⟨z, au, h⟩ := bind_some h
 refine sp rfl (Q2 rfl (dk rfl) Try.func17 rfl rfl (Q5.cons rfl Q5.nil) (Zp.nil (Ij K (flx0 := false) au)) ?_)
 refine mw rfl ?_
 refine sp rfl (OpT.extract rfl (dk rfl) rfl rfl ?_)
 refine sp rfl (OpT.extract rfl (dk rfl) rfl rfl ?_)
 refine sp rfl (Zj rfl (dk rfl) i28 rfl (fun a5 => ?_))
 refine sp rfl (Qz (i := 0) (cells' := ((Qy.oc 256 .u8 z.1.Split.Of) ++ (([.d (.int .i64 z.1.Split.Many), .d (.sl false 2 (mA z.1.Counts)), .d (.sl false 4 (z.1.States.map Qx))]:List OC)))) rfl rfl i28 rfl rfl rfl rfl (nb rfl) rfl ?_)
 refine aw rfl ?_
 refine TL'.nil (tN (T.seq (Qr ?_)))
 refine mw rfl ?_
 refine mw rfl ?_
 rcases Qb h with ⟨u, h⟩ | ⟨u, h⟩
 refine sn rfl u (OpT.move rfl (dk rfl) rfl ?_)
 refine sn rfl u (Qa rfl rfl (dk rfl) rfl rfl ?_)
 refine sp rfl (Qf rfl (dk rfl) rfl u rfl ?_)
 refine mw rfl ?_
 rcases Qb h with ⟨m, h⟩ | ⟨m, h⟩
 refine sn rfl m (Zc (i := 4) (l := ((Qy.dc 256 .u8 a.Split.Of) ++ (([.int .i64 a.Split.Many, .sl false 2 (mA a.Counts), .sl false 4 (a.States.map Qx)] : List DC)))) rfl (dk rfl) Xu rfl i28 rfl rfl rfl rfl ?_)
 refine sn rfl m (Zc (i := 3) (l := ((Qy.dc 256 .u8 p.1.Split.Of) ++ (([.int .i64 p.1.Split.Many, .sl false 2 (mA p.1.Counts), .sl false 4 (p.1.States.map Qx)] : List DC)))) rfl (dk rfl) Xu rfl i28 rfl rfl rfl rfl ?_)
 obtain ⟨a6, av, h⟩ := bind_some h
 refine sn rfl m (Q2 rfl (dk rfl) Try.func16 rfl rfl (Q5.cons rfl (Q5.cons rfl Q5.nil)) (Zp.nil (r1_Same_T K av)) ?_)
 refine sp rfl (Qf rfl (dk rfl) rfl m rfl ?_)
 refine mw rfl ?_
 rcases Qb h with ⟨v, h⟩ | ⟨v, h⟩
 refine sn rfl v (OpT.move rfl (dk rfl) rfl ?_)
 refine sn rfl v (Qa rfl rfl (dk rfl) rfl rfl ?_)
 refine sp rfl (Qf rfl (dk rfl) rfl v rfl ?_)
 refine mw rfl ?_
 rcases Qb h with ⟨b, h⟩ | ⟨b, h⟩
 refine sn rfl b (Ql rfl (dk rfl) Xu rfl i26 (by decide) rfl ?_)
 refine sn rfl b (Qo (i := 2) rfl (dk rfl) Vx rfl rfl rfl rfl ?_)
 refine sn rfl b (Qn (xs := y.1.States) (f := Qx) rfl (dk rfl) Vx rfl ?_)
 refine sn rfl b (Qa rfl rfl (dk rfl) rfl rfl ?_)
 refine sp rfl (Qf rfl (dk rfl) rfl b rfl ?_)
 refine mw rfl ?_
 rcases Qb h with ⟨w, h⟩ | ⟨w, h⟩
 refine sn rfl w (OpT.move rfl (dk rfl) rfl ?_)
 refine sn rfl w (Qa rfl rfl (dk rfl) rfl rfl ?_)
 refine sp rfl (Qf rfl (dk rfl) rfl w rfl ?_)
 refine mw rfl ?_
 rcases Qb h with ⟨c, h⟩ | ⟨c, h⟩
 refine sn rfl c (Ql rfl (dk rfl) Xu rfl i26 (by decide) rfl ?_)
 refine sn rfl c (Qo (i := 0) rfl (dk rfl) Vx rfl rfl rfl rfl ?_)
 refine sn rfl c (Qn (xs := z.1.States) (f := Qx) rfl (dk rfl) Vx rfl ?_)
 refine sn rfl c (Qa rfl rfl (dk rfl) rfl rfl ?_)
 refine sp rfl (Qf rfl (dk rfl) rfl c rfl ?_)
 refine aw rfl ?_
 refine TL'.nil (tN ?_)
 refine T.ret ?_
 exact Fin.done (.cons _ _ _ _ (.tmp 6 _ rfl) .nil) (by cases h; exact ⟨rfl, rfl⟩)
 refine pf rfl c ?_
 refine pf rfl c ?_
 refine pf rfl c ?_
 refine pf rfl c ?_
 refine sp rfl (Qm rfl (dk rfl) rfl c rfl ?_)
 refine aw rfl ?_
 refine TL'.nil (tN ?_)
 refine T.ret ?_
 exact Fin.done (.cons _ _ _ _ (.tmp 6 _ rfl) .nil) (by cases h; exact ⟨rfl, rfl⟩)
 refine pf rfl w ?_
 refine pf rfl w ?_
 refine sp rfl (Qm rfl (dk rfl) rfl w rfl ?_)
 refine mw rfl ?_
 refine pf rfl rfl ?_
 refine pf rfl rfl ?_
 refine pf rfl rfl ?_
 refine pf rfl rfl ?_
 refine sp rfl (Qm rfl (dk rfl) rfl rfl rfl ?_)
 refine aw rfl ?_
 refine TL'.nil (tN ?_)
 refine T.ret ?_
 exact Fin.done (.cons _ _ _ _ (.tmp 6 _ rfl) .nil) (by cases h; exact ⟨rfl, rfl⟩)
 refine pf rfl b ?_
 refine pf rfl b ?_
 refine pf rfl b ?_
 refine pf rfl b ?_
 refine sp rfl (Qm rfl (dk rfl) rfl b rfl ?_)
 refine mw rfl ?_
 refine pf rfl rfl ?_
 refine pf rfl rfl ?_
 refine sp rfl (Qm rfl (dk rfl) rfl rfl rfl ?_)
 refine mw rfl ?_
 refine pf rfl rfl ?_
 refine pf rfl rfl ?_
 refine pf rfl rfl ?_
 refine pf rfl rfl ?_
 refine sp rfl (Qm rfl (dk rfl) rfl rfl rfl ?_)
 refine aw rfl ?_
 refine TL'.nil (tN ?_)
 refine T.ret ?_
 exact Fin.done (.cons _ _ _ _ (.tmp 6 _ rfl) .nil) (by cases h; exact ⟨rfl, rfl⟩)
 refine pf rfl v ?_
 refine pf rfl v ?_
 refine sp rfl (Qm rfl (dk rfl) rfl v rfl ?_)
 refine mw rfl ?_
 refine pf rfl rfl ?_
 refine pf rfl rfl ?_
 refine pf rfl rfl ?_
 refine pf rfl rfl ?_
 refine sp rfl (Qm rfl (dk rfl) rfl rfl rfl ?_)
 refine mw rfl ?_
 refine pf rfl rfl ?_
 refine pf rfl rfl ?_
 refine sp rfl (Qm rfl (dk rfl) rfl rfl rfl ?_)
 refine mw rfl ?_
 refine pf rfl rfl ?_
 refine pf rfl rfl ?_
 refine pf rfl rfl ?_
 refine pf rfl rfl ?_
 refine sp rfl (Qm rfl (dk rfl) rfl rfl rfl ?_)
 refine aw rfl ?_
 refine TL'.nil (tN ?_)
 refine T.ret ?_
 exact Fin.done (.cons _ _ _ _ (.tmp 6 _ rfl) .nil) (by cases h; exact ⟨rfl, rfl⟩)
 refine pf rfl m ?_
 refine pf rfl m ?_
 refine pf rfl m ?_
 refine sp rfl (Qm rfl (dk rfl) rfl m rfl ?_)
 refine mw rfl ?_
 refine pf rfl rfl ?_
 refine pf rfl rfl ?_
 refine sp rfl (Qm rfl (dk rfl) rfl rfl rfl ?_)
 refine mw rfl ?_
 refine pf rfl rfl ?_
 refine pf rfl rfl ?_
 refine pf rfl rfl ?_
 refine pf rfl rfl ?_
 refine sp rfl (Qm rfl (dk rfl) rfl rfl rfl ?_)
 refine mw rfl ?_
 refine pf rfl rfl ?_
 refine pf rfl rfl ?_
 refine sp rfl (Qm rfl (dk rfl) rfl rfl rfl ?_)
 refine mw rfl ?_
 refine pf rfl rfl ?_
 refine pf rfl rfl ?_
 refine pf rfl rfl ?_
 refine pf rfl rfl ?_
 refine sp rfl (Qm rfl (dk rfl) rfl rfl rfl ?_)
 refine aw rfl ?_
 refine TL'.nil (tN ?_)
 refine T.ret ?_
 exact Fin.done (.cons _ _ _ _ (.tmp 6 _ rfl) .nil) (by cases h; exact ⟨rfl, rfl⟩)
 refine pf rfl u ?_
 refine pf rfl u ?_
 refine sp rfl (Qm rfl (dk rfl) rfl u rfl ?_)
 refine mw rfl ?_
 refine pf rfl rfl ?_
 refine pf rfl rfl ?_
 refine pf rfl rfl ?_
 refine sp rfl (Qm rfl (dk rfl) rfl rfl rfl ?_)
 refine mw rfl ?_
 refine pf rfl rfl ?_
 refine pf rfl rfl ?_
 refine sp rfl (Qm rfl (dk rfl) rfl rfl rfl ?_)
 refine mw rfl ?_
 refine pf rfl rfl ?_
 refine pf rfl rfl ?_
 refine pf rfl rfl ?_
 refine pf rfl rfl ?_
 refine sp rfl (Qm rfl (dk rfl) rfl rfl rfl ?_)
 refine mw rfl ?_
 refine pf rfl rfl ?_
 refine pf rfl rfl ?_
 refine sp rfl (Qm rfl (dk rfl) rfl rfl rfl ?_)
 refine mw rfl ?_
 refine pf rfl rfl ?_
 refine pf rfl rfl ?_
 refine pf rfl rfl ?_
 refine pf rfl rfl ?_
 refine sp rfl (Qm rfl (dk rfl) rfl rfl rfl ?_)
 refine aw rfl ?_
 refine TL'.nil (tN ?_)
 refine T.ret ?_
 exact Fin.done (.cons _ _ _ _ (.tmp 6 _ rfl) .nil) (by cases h; exact ⟨rfl, rfl⟩)
end Go.Rv

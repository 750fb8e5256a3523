/- Each function computes what its plain text says: printed by a program of ours. -/
import Derived.Test.YtaipjabggdifoaaRgW7
namespace Go.Rv
open Go.Proofs
set_option maxRecDepth 100000
set_option maxHeartbeats 4000000
set_option linter.unusedVariables false
abbrev Tf (r : Bool) : ES := Jk tp Try.f7 (fun y t => y = (.bool r) ∧ t = [])
theorem Tg (K : Nat) {x0 : List Int} {flx0 r : Bool} (h : Jh K x0 = some r) : Zt tp 7 [.sl flx0 1 (mU x0)] [] (.bool r) := by
 refine Qt Try.func7 rfl (nb rfl) ?_
 show T tp 34 (ca [] Try.f7) ⟨Qv 0 [.sl flx0 1 (mU x0)], []⟩ (Tf r)
 unfold Jh at h
 refine T.seq (Qq ?_)
 refine aw rfl ?_
 refine TL'.nil (tN (T.seq (Qq ?_)))
 refine mw rfl ?_
 refine mw rfl ?_
 refine sp rfl (Qn (xs := x0) (f := (cI .u8)) rfl (dk rfl) Xg rfl ?_)
 refine sp rfl (OpT.min2 rfl (dk rfl) rfl rfl ?_)
 obtain ⟨j, h⟩ := Zh h
 refine sp rfl (M0 (xs := x0) (f := (cI .u8)) (l := 0) (h := (Int.toNat (if (20000:Int) < (x0.length : Int) then (20000:Int) else (x0.length : Int)))) rfl (dk rfl) Xg i5 rfl (.none _) (.some _ _ _ _ rfl j.1) j.2.1 j.2.2 ?_)
 refine aw rfl ?_
 refine TL'.nil (tN (T.seq (Qq ?_)))
 refine mw rfl ?_
 obtain ⟨c, m, h⟩ := bind_some h
 refine sp rfl (Q5 rfl (dk rfl) Try.func17 rfl rfl (Q3.cons rfl Q3.nil) (Zt.nil (tb_Decode_T K (flx0 := false) m)) ?_)
 refine mw rfl ?_
 refine sp rfl (OpT.extract rfl (dk rfl) rfl rfl ?_)
 refine sp rfl (OpT.extract rfl (dk rfl) rfl rfl ?_)
 refine sp rfl (Zi rfl (dk rfl) i28 rfl (fun s => ?_))
 refine sp rfl (Q1 (i := 0) (cells' := ((Qx.oc 256 .u8 c.1.Split.Of) ++ (([.d (.int .i64 c.1.Split.Many), .d (.sl false 2 (mA c.1.Counts)), .d (.sl false 4 (c.1.States.map Q0))]:List OC)))) rfl rfl i28 rfl rfl rfl rfl (nb rfl) rfl ?_)
 refine aw rfl ?_
 refine TL'.nil (tN (T.seq (Qq ?_)))
 refine mw rfl ?_
 obtain ⟨g, n, h⟩ := bind_some h
 refine sp rfl (Q5 rfl (dk rfl) Try.func18 rfl rfl (Q3.cons rfl Q3.nil) (Zt.nil (r4_Decode_T K (flx0 := false) n)) ?_)
 refine mw rfl ?_
 refine sp rfl (OpT.extract rfl (dk rfl) rfl rfl ?_)
 refine sp rfl (OpT.extract rfl (dk rfl) rfl rfl ?_)
 refine sp rfl (Zi rfl (dk rfl) i28 rfl (fun u => ?_))
 refine sp rfl (Q1 (i := 0) (cells' := ((Qx.oc 256 .u8 g.1.Split.Of) ++ (([.d (.int .i64 g.1.Split.Many), .d (.sl false 2 (mA g.1.Counts)), .d (.sl false 4 (g.1.States.map Q0))]:List OC)))) rfl rfl i28 rfl rfl rfl rfl (nb rfl) rfl ?_)
 refine aw rfl ?_
 refine TL'.nil (tN (T.seq (Qq ?_)))
 obtain ⟨v, p, h⟩ := bind_some h
 refine sp rfl (Q5 rfl (dk rfl) Try.func13 rfl rfl Q3.nil (Zt.nil (l4_shown_T K p)) ?_)
 refine mw rfl ?_
 rcases Qd h with ⟨a, h⟩ | ⟨a, h⟩
 refine sn rfl a (Ze (i := 1) (l := ((Qx.dc 256 .u8 c.1.Split.Of) ++ (([.int .i64 c.1.Split.Many, .sl false 2 (mA c.1.Counts), .sl false 4 (c.1.States.map Q0)] : List DC)))) rfl (dk rfl) Xe rfl i28 rfl rfl rfl rfl ?_)
 refine sn rfl a (Ze (i := 0) (l := ((Qx.dc 256 .u8 g.1.Split.Of) ++ (([.int .i64 g.1.Split.Many, .sl false 2 (mA g.1.Counts), .sl false 4 (g.1.States.map Q0)] : List DC)))) rfl (dk rfl) Xe rfl i28 rfl rfl rfl rfl ?_)
 obtain ⟨w, q, h⟩ := bind_some h
 refine sn rfl a (Q5 rfl (dk rfl) Try.func16 rfl rfl (Q3.cons rfl (Q3.cons rfl Q3.nil)) (Zt.nil (r1_Same_T K q)) ?_)
 refine sp rfl (Qi rfl (dk rfl) rfl a rfl ?_)
 refine mw rfl ?_
 rcases Qd h with ⟨b, h⟩ | ⟨b, h⟩
 refine sn rfl b (OpT.move rfl (dk rfl) rfl ?_)
 refine sn rfl b (OpT.move rfl (dk rfl) rfl ?_)
 refine sn rfl b (Qa rfl rfl (dk rfl) rfl rfl ?_)
 refine sp rfl (Qi rfl (dk rfl) rfl b rfl ?_)
 refine aw rfl ?_
 refine TL'.nil (tN ?_)
 refine T.ret ?_
 exact Fin.done (.cons _ _ _ _ (.tmp 2 _ rfl) .nil) (by cases h; exact ⟨rfl, rfl⟩)
 refine pf rfl b ?_
 refine pf rfl b ?_
 refine pf rfl b ?_
 refine sp rfl (Qs rfl (dk rfl) rfl b rfl ?_)
 refine aw rfl ?_
 refine TL'.nil (tN ?_)
 refine T.ret ?_
 exact Fin.done (.cons _ _ _ _ (.tmp 2 _ rfl) .nil) (by cases h; exact ⟨rfl, rfl⟩)
 refine pf rfl a ?_
 refine pf rfl a ?_
 refine pf rfl a ?_
 refine sp rfl (Qs rfl (dk rfl) rfl a rfl ?_)
 refine mw rfl ?_
 refine pf rfl rfl ?_
 refine pf rfl rfl ?_
 refine pf rfl rfl ?_
 refine sp rfl (Qs rfl (dk rfl) rfl rfl rfl ?_)
 refine aw rfl ?_
 refine TL'.nil (tN ?_)
 refine T.ret ?_
 exact Fin.done (.cons _ _ _ _ (.tmp 2 _ rfl) .nil) (by cases h; exact ⟨rfl, rfl⟩)
end Go.Rv

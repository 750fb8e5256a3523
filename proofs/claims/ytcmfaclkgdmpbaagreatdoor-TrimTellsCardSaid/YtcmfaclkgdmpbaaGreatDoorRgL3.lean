/- Each function computes what its plain text says: printed by a program of ours. -/
import Derived.Test.YtcmfaclkgdmpbaaGreatDoorRgW8
namespace Go.Rv
open Go.Proofs
set_option maxRecDepth 100000
set_option maxHeartbeats 4000000
set_option linter.unusedVariables false
abbrev Qby (r : Bool) : ES := Jm tp ff3 (fun y t => y = (.bool r) ∧ t = [.tab 0 Uj])
abbrev F0 (r : Bool) : ES := fT 65 [1,1,1,1,1,1,1] ff3 (Qby r)
abbrev Ea (r : Bool) : ES := Qv 0 ((F0 r))
theorem Sb {r : Bool} (K : Nat) : ∀ (k : Nat), ∀ (a b : Int) (an ap : List Bool) (az aq : Int) (g : Q5) (j : Int) (m : List Ye) (p : List Qa) (s : Q5) (w : Int) (y : List Ye) (aa : List Qa) (ab : Q5) (ac : Int) (ad : List Ye) (af : List Qa) (q ag ai : Nat), Xc K k a b an ap az aq g j m p s w y aa ab ac ad af = some r → TL tp 65 (ca [1,1,1,1,1,1,0,1,0,0] ff3) ⟨[(3, .ptr q 0), (4, .ptr ag 0), (5, .int .i64 a), (6, .ptr ai 0), (7, .int .i64 b), (8, .sl false 1 (an.map cB)), (9, .sl false 1 (ap.map cB)), (33, .int .i64 az), (34, .int .i64 aq)], [(Li q g j m p), (Li ag s w y aa), (Li ai ab ac ad af), .tab 0 Uj]⟩ (Ea r) := by
 intro k
 induction k with
 | zero =>
  intro a b an ap az aq g j m p s w y aa ab ac ad af q ag ai h
  exact zn h
 | succ k ih =>
  intro a b an ap az aq g j m p s w y aa ab ac ad af q ag ai h
  rw [Xc] at h
  refine Q0 (sR (Qr (oI rfl (nL (tN (T.seq ?_))))))
  rcases Qg h with ⟨a2, h⟩ | ⟨a2, h⟩
  refine Qp rfl a2 (T.skip (tN (T.seq (T.block (sR (Qr (mw rfl (aw rfl ?_))))))))
  refine nL (tN (T.seq (Zy (dV rfl rfl (dV rfl rfl ?_)))))
  obtain ⟨av, a6, h⟩ := bind_some h
  refine dX an cB rfl (.f rfl) Qkd i4 a6 rfl (dR rfl (.f rfl) ul4 rfl (dV rfl rfl (dV rfl rfl ?_)))
  obtain ⟨ay, a7, h⟩ := bind_some h
  refine dX ap cB rfl (.f rfl) Qkd i4 a7 rfl (dR rfl (.f rfl) ul4 rfl (dS (c := ⟨some 45, .bool (!(av == ay)), [(40, .bool av), (44, .bool ay)], [], []⟩) (fun t hm => oF rfl rfl (Qfi rfl (dk rfl) ul4 hm.s0 hm.s1 rfl)) rfl rfl (dF [0,0,3,7,0,0,48,112,255] Qx rfl (by kernel_rfl) (fun u hu => (tN (Ql hu ?_))))))
  rcases Qg h with ⟨a3, h⟩ | ⟨a3, h⟩
  refine Qp rfl a3 (sR (Qr (aw rfl (nL (tN (T.ret (Qy (Qs (Qs (Qy (Qs (Q7 (.cons _ _ _ _ (.tmp 2 _ rfl) .nil) (.cons 3 rfl (.nil _)) (by cases h; exact ⟨rfl, rfl⟩)))))))))))))
  refine Qo rfl a3 (T.skip (Qk (tN (Qr (oI rfl (mw rfl (nL (tN ?_))))))))
  refine Qf ?_ (ih a b an ap az (wI (aq + (1:Int))) g j m p s w y aa ab ac ad af q ag ai h)
  exact tq rfl rfl
  refine Qo rfl a2 (T.exit (Qj (Qj (Qq (tN (T.seq (Zy ?_)))))))
  obtain ⟨a0, a8, h⟩ := bind_some h
  refine dS (c := ⟨some 47, .bool a0, [], [(3, .tab 0 Uj)], []⟩) (fun t hm => oF rfl rfl (Mz rfl (dk rfl) fu14 rfl rfl Zm.nil (.tab 3 hm.o0 (.nil)) (Qhx K a8) rfl)) rfl rfl (dV rfl rfl ?_)
  rcases Qg h with ⟨al, h⟩ | ⟨al, h⟩
  refine dW 1 ((Q5.dc 256 .u8 s) ++ (([.int .i64 w, .sl false 2 (mA y), .sl false 4 (aa.map Qb)] : List DC))) rfl (.n al rfl) Xz i28 rfl (dW 2 ((Q5.dc 256 .u8 ab) ++ (([.int .i64 ac, .sl false 2 (mA ad), .sl false 4 (af.map Qb)] : List DC))) rfl (.n al rfl) Xz i28 rfl ?_)
  obtain ⟨au, a9, h⟩ := bind_some h
  refine dH fu15 (Zh.nil (Qip K a9)) rfl (.n al rfl) rfl (dY rfl (.f rfl) al rfl (dV rfl rfl ?_))
  rcases Qg h with ⟨am, h⟩ | ⟨am, h⟩
  refine dM rfl (.n am rfl) rfl (dM rfl (.n am rfl) rfl (dI rfl (.n am rfl) rfl (dY rfl (.f rfl) am rfl (dV rfl rfl ?_))))
  rcases Qg h with ⟨aj, h⟩ | ⟨aj, h⟩
  refine dW 0 ((Q5.dc 256 .u8 g) ++ (([.int .i64 j, .sl false 2 (mA m), .sl false 4 (p.map Qb)] : List DC))) rfl (.n aj rfl) Xz i28 rfl ?_
  obtain ⟨a4, ba, h⟩ := bind_some h
  refine dS (c := ⟨some 60, .sl false 1 (mI a4), [(59, .agg ((Q5.dc 256 .u8 g) ++ (([.int .i64 j, .sl false 2 (mA m), .sl false 4 (p.map Qb)] : List DC)))), (58, .bool (a == b))], [(3, .tab 0 Uj)], []⟩) (fun t hm => oN rfl rfl rfl hm.s1 aj (Mz rfl (dk rfl) fu17 rfl rfl (Zm.cons hm.s0 Zm.nil) (.tab 3 hm.o0 (.nil)) (Qie K ba) rfl)) rfl rfl (dW 0 ((Q5.dc 256 .u8 g) ++ (([.int .i64 j, .sl false 2 (mA m), .sl false 4 (p.map Qb)] : List DC))) rfl (.n aj rfl) Xz i28 rfl ?_)
  obtain ⟨a5, bb, h⟩ := bind_some h
  refine dH fu18 (Zh.nil (N2 K bb)) rfl (.n aj rfl) rfl ?_
  obtain ⟨a1, bc, h⟩ := bind_some h
  refine dH fu16 (Zh.nil (Qiy K (flx0 := false) (flx1 := false) bc)) rfl (.n aj rfl) rfl (dY rfl (.f rfl) aj rfl (dA rfl (.f rfl) rfl (dF [0,1,3,3,15,31,63,127,127,511,1023,2047,4095,8191,4095,32767,65535,131071,262143] Qx rfl (by kernel_rfl) (fun u hu => (tN (Ql hu (T.ret (Q7 (.cons _ _ _ _ (.tmp 2 _ rfl) .nil) (.cons 3 rfl (.nil _)) (by cases h; exact ⟨rfl, rfl⟩)))))))))
  refine dO aj rfl rfl (dO aj rfl rfl (dO aj rfl rfl (dO aj rfl rfl (dO aj rfl rfl (dZ rfl (.f rfl) aj rfl (dA rfl (.f rfl) rfl ?_))))))
  refine dF [0,1,3,3,15,31,63,127,127,511,1023,2047,4095,8191,4095,32767,65535,131071,262143] Qx rfl (by kernel_rfl) (fun u hu => (tN (Ql hu (T.ret (Q7 (.cons _ _ _ _ (.tmp 2 _ rfl) .nil) (.cons 3 rfl (.nil _)) (by cases h; exact ⟨rfl, rfl⟩))))))
  refine dO am rfl rfl (dO am rfl rfl (dO am rfl rfl (dZ rfl (.f rfl) am rfl (dV rfl rfl (dO rfl rfl rfl (dO rfl rfl rfl ?_))))))
  refine dO rfl rfl rfl (dO rfl rfl rfl (dO rfl rfl rfl (dZ rfl (.f rfl) rfl rfl (dA rfl (.f rfl) rfl (dF [0,1,3,3,15,31,63,127,127,511,1023,2047,4095,8191,4095,32767,65535,131071,262143] Qx rfl (by kernel_rfl) (fun u hu => (tN (Ql hu (T.ret ?_)))))))))
  exact Q7 (.cons _ _ _ _ (.tmp 2 _ rfl) .nil) (.cons 3 rfl (.nil _)) (by cases h; exact ⟨rfl, rfl⟩)
  refine dO al rfl rfl (dO al rfl rfl (dO al rfl rfl (dZ rfl (.f rfl) al rfl (dV rfl rfl (dO rfl rfl rfl (dO rfl rfl rfl ?_))))))
  refine dO rfl rfl rfl (dZ rfl (.f rfl) rfl rfl (dV rfl rfl (dO rfl rfl rfl (dO rfl rfl rfl (dO rfl rfl rfl (dO rfl rfl rfl ?_))))))
  refine dO rfl rfl rfl (dZ rfl (.f rfl) rfl rfl (dA rfl (.f rfl) rfl (dF [0,1,3,3,15,31,63,127,127,511,1023,2047,4095,8191,4095,32767,65535,131071,262143] Qx rfl (by kernel_rfl) (fun u hu => (tN (Ql hu (T.ret (Q7 (.cons _ _ _ _ (.tmp 2 _ rfl) .nil) (.cons 3 rfl (.nil _)) (by cases h; exact ⟨rfl, rfl⟩)))))))))
theorem Qbz (K : Nat) {x0 : Qc} {r : Bool} (h : X9 K x0 = some r) : Zh tp 3 [.agg ((Q5.dc 256 .u8 x0.Split.Of) ++ (([.int .i64 x0.Split.Many, .sl false 2 (mA x0.Counts), .sl false 4 (x0.States.map Qb)] : List DC)))] [.tab 0 Uj] (.bool r) := by
 refine CI 65 fu3 rfl ?_
 unfold X9 at h
 refine sR (Qr (sp rfl (Q8 rfl (dk rfl) rfl (fun y => (aw rfl (nL (tN (sR (Qr (oA 0 ((Q5.dc 256 .u8 x0.Split.Of) ++ (([.int .i64 x0.Split.Many, .sl false 2 (mA x0.Counts), .sl false 4 (x0.States.map Qb)] : List DC))) Xz i28 rfl ?_))))))))))
 obtain ⟨a, aa, h⟩ := bind_some h
 refine oH fu9 (Zh.nil (Qjo K aa)) rfl (sp rfl (Za rfl (dk rfl) i28 rfl (fun m => (sp rfl (Qt (i := 0) (cells' := ((Q5.oc 256 .u8 a.Split.Of) ++ (([.d (.int .i64 a.Split.Many), .d (.sl false 2 (mA a.Counts)), .d (.sl false 4 (a.States.map Qb))]:List OC)))) rfl rfl i28 rfl rfl rfl rfl (nb rfl) rfl (nL (tN (sR (Qr (oA 0 ((Q5.dc 256 .u8 a.Split.Of) ++ (([.int .i64 a.Split.Many, .sl false 2 (mA a.Counts), .sl false 4 (a.States.map Qb)] : List DC))) Xz i28 rfl ?_))))))))))
 obtain ⟨b, ab, h⟩ := bind_some h
 refine sp rfl (Mz rfl (dk rfl) fu10 rfl rfl (Zm.cons rfl Zm.nil) (.tab 2 rfl (.nil)) (trim_Of_T K ab) (mw rfl (oE rfl (oE rfl (sp rfl (Za rfl (dk rfl) i28 rfl (fun q => (sp rfl (Qt (i := 0) (cells' := ((Q5.oc 256 .u8 b.1.Split.Of) ++ (([.d (.int .i64 b.1.Split.Many), .d (.sl false 2 (mA b.1.Counts)), .d (.sl false 4 (b.1.States.map Qb))]:List OC)))) rfl rfl i28 rfl rfl rfl rfl (nb rfl) rfl (aw rfl ?_))))))))))
 refine nL (tN (sR (Qr (oA 1 ((Q5.dc 256 .u8 a.Split.Of) ++ (([.int .i64 a.Split.Many, .sl false 2 (mA a.Counts), .sl false 4 (a.States.map Qb)] : List DC))) Xz i28 rfl ?_))))
 obtain ⟨g, ac, h⟩ := bind_some h
 refine oH fu11 (Zh.nil (Qkl K ac)) rfl (mw rfl (oE rfl (oE rfl (sp rfl (Za rfl (dk rfl) i28 rfl (fun v => (sp rfl (Qt (i := 0) (cells' := ((Q5.oc 256 .u8 g.1.Split.Of) ++ (([.d (.int .i64 g.1.Split.Many), .d (.sl false 2 (mA g.1.Counts)), .d (.sl false 4 (g.1.States.map Qb))]:List OC)))) rfl rfl i28 rfl rfl rfl rfl (nb rfl) rfl (aw rfl ?_)))))))))
 refine nL (tN (T.seq (Zy (dW 2 ((Q5.dc 256 .u8 a.Split.Of) ++ (([.int .i64 a.Split.Many, .sl false 2 (mA a.Counts), .sl false 4 (a.States.map Qb)] : List DC))) rfl (.f rfl) Xz i28 rfl ?_))))
 obtain ⟨p, ad, h⟩ := bind_some h
 refine dH fu12 (Zh.nil (Qlb K ad)) rfl (.f rfl) rfl (dW 2 ((Q5.dc 256 .u8 a.Split.Of) ++ (([.int .i64 a.Split.Many, .sl false 2 (mA a.Counts), .sl false 4 (a.States.map Qb)] : List DC))) rfl (.f rfl) Xz i28 rfl ?_)
 obtain ⟨j, af, h⟩ := bind_some h
 refine dH fu13 (Zh.nil (Si K af)) rfl (.f rfl) rfl (dA rfl (.f rfl) rfl (dA rfl (.f rfl) rfl (dF [0,1,0,7,15,31] Qx rfl (by kernel_rfl) (fun u hu => (tN (Ql hu (T.seq (sR (Qr (mw rfl ?_))))))))))
 refine oU p cB Qkd rfl (mw rfl (oU j cB Qkd rfl (oI rfl (nL (tN ?_)))))
 rcases Qg h with ⟨w, h⟩ | ⟨w, h⟩
 refine Qp rfl w (sR (Qr (aw rfl (nL (tN (T.ret (Qs (Q7 (.cons _ _ _ _ (.tmp 2 _ rfl) .nil) (.cons 4 rfl (.nil _)) (by cases h; exact ⟨rfl, rfl⟩)))))))))
 refine Qo rfl w (T.skip (tN (T.seq (sR (Qr (mw rfl (oU j cB Qkd rfl (mw rfl ?_))))))))
 refine nL (tN (T.block (T.loop ?_)))
 refine Qf ?_ (Sb K K b.2 g.2 p j (j.length : Int) (0:Int) a.Split.Of a.Split.Many a.Counts a.States b.1.Split.Of b.1.Split.Many b.1.Counts b.1.States g.1.Split.Of g.1.Split.Many g.1.Counts g.1.States m q v h)
 exact tr rfl (.c (.s (.s .z)) (.c (.s .z) (.c .z (.c (.s .z) (.n _)))))
end Go.Rv

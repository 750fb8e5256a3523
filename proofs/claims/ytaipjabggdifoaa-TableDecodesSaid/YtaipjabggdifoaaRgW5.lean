/- Each function computes what its plain text says: printed by a program of ours. -/
import Derived.Test.YtaipjabggdifoaaRgW4
namespace Go.Rv
open Go.Proofs
set_option maxRecDepth 100000
set_option maxHeartbeats 4000000
set_option linter.unusedVariables false
abbrev Qa5 (r : aAu × Int) : ES := Jk tp Try.f26 (fun y t => y = (.tup [.agg ((Qx.dc 256 .u8 r.1.Split.Of) ++ (([.int .i64 r.1.Split.Many, .sl false 2 (mA r.1.Counts), .sl false 4 (r.1.States.map Q0)] : List DC))), .int .i64 r.2]) ∧ t = [])
abbrev T9 (r : aAu × Int) : ES := thenS (fun s' => T tp 198 (ca [1,1,1,1,1,1,1,1] Try.f26) s' ((Qa5 r))) ((Qa5 r))
abbrev Wl (r : aAu × Int) : ES := Qz 2 ((T9 r))
abbrev Cm (r : aAu × Int) : ES := thenS (fun s' => TL tp 198 (ca [1,1,1,1,1,1,1,0,1,0,0] Try.f26) s' ((Wl r))) ((Wl r))
abbrev Nf (r : aAu × Int) : ES := thenS (fun s' => T tp 198 (ca [1,1,1,1,1,1,1,0,1,0,0,1,1] Try.f26) s' ((Cm r))) ((Cm r))
abbrev Hl (r : aAu × Int) : ES := Qz 3 ((Nf r))
abbrev Cd (r : aAu × Int) : ES := thenS (fun s' => T tp 198 (ca [1,1,1,1,1,1,1,0,1,0,0,1,0,0,1,1,1,1] Try.f26) s' ((Hl r))) ((Hl r))
abbrev Yw (r : aAu × Int) : ES := Qz 4 ((Cd r))
abbrev Wk (r : aAu × Int) : ES := thenS (fun s' => TL tp 198 (ca [1,1,1,1,1,1,1,0,1,0,0,1,0,0,1,1,1,0,1,0,0] Try.f26) s' ((Yw r))) ((Yw r))
abbrev L8 (r : aAu × Int) : ES := thenS (fun s' => T tp 198 (ca [1,1,1,1,1,1,1,0,1,0,0,1,0,0,1,1,1,0,1,0,0,1,1] Try.f26) s' ((Wk r))) ((Wk r))
abbrev Vh (r : aAu × Int) : ES := Qz 5 ((L8 r))
abbrev H3 (r : aAu × Int) : ES := thenS (fun s' => T tp 198 (ca [1,1,1,1,1,1,1,0,1,0,0,1,0,0,1,1,1,0,1,0,0,1,0,0,1,1,1] Try.f26) s' ((Vh r))) ((Vh r))
abbrev Jg (r : aAu × Int) : ES := Qz 6 ((H3 r))
abbrev r1_Of_qs11111 (r : aAu × Int) : ES := thenS (fun s' => T tp 198 (ca [1,1,1,1,1] Try.f26) s' ((Qa5 r))) ((Qa5 r))
abbrev Qa4 (r : aAu × Int) : ES := Qz 0 ((r1_Of_qs11111 r))
abbrev r1_Of_l2_H (r : aAu × Int) (go : Int → Int → Int → Qx → (List Zb) → (List aSt) → (List Int) → (List Jy) → Qx → Int → Int → (List Int) → (List Zb) → (List aSt) → (List Int) → (List (List aMv)) → Option (aAu × Int)) : Prop := ∀ (a b f : Int) (g : Qx) (i : List Zb) (j : List aSt) (l : List Int) (m : List Jy) (n : Qx) (p q : Int) (s : List Int) (u : List Zb) (v : List aSt) (w : List Int) (y : List (List aMv)) (z : Nat) (aa ab : Value) (ac : Nat) (ad af : Value) (w4_2aa ag ai : Value), go a b f g i j l m n p q s u v w y = some r → TL tp 198 (ca [1,1,1,1,1,1,1,0,1,0,0,1,0,0,1,1,1,0,1,0,0] Try.f26) ⟨[(2, .ptr z 0), (4, .ptr ac 0), (7, .int .i64 a), (8, .int .i64 b), (9, .c (.ex ag)), (10, .c (.ex ai)), (11, .int .i64 f)], [(Zc z g (0:Int) aa ab), .arrA aa 42 2 (mA i), .arrX ab 59 4 0 (j.map Q0), (Yf ac l m ad n p af w4_2aa q), .arrA ad 3 1 (mI s), .arrA af 42 2 (mA u), .arrX w4_2aa 59 4 0 (v.map Q0), .arrA ag 3 1 (mI w), .arrA ai 61 1 (y.map (cL 2 Qu))]⟩ (Yw r)
theorem r1_Of_l3_T {r : aAu × Int} (K : Nat) (go2 : Int → Int → Int → Qx → (List Zb) → (List aSt) → (List Int) → (List Jy) → Qx → Int → Int → (List Int) → (List Zb) → (List aSt) → (List Int) → (List (List aMv)) → Option (aAu × Int)) (hgo2 : r1_Of_l2_H r go2) : ∀ (k : Nat), ∀ (af ag : Int) (ai an : Int) (y : Qx) (aa : List Zb) (ab : List aSt) (ap : List Int) (aq : List Jy) (au : Qx) (av ay : Int) (az : List Int) (a0 : List Zb) (a1 : List aSt) (ac : List Int) (s : List (List aMv)) (q : List aMv) (p : Nat) (v w : Value) (j : Nat) (aj al : Value) (w4_3aa ad : Value) (am a2 : Value), Qaf K go2 k af ag ai an y aa ab ap aq au av ay az a0 a1 ac s q = some r → TL tp 198 (ca [1,1,1,1,1,1,1,0,1,0,0,1,0,0,1,1,1,0,1,0,0,1,0,0,1,1,0,1,0,0] Try.f26) ⟨[(2, .ptr p 0), (4, .ptr j 0), (7, .int .i64 af), (8, .int .i64 ag), (9, .c (.ex ad)), (10, .c (.ex am)), (11, .int .i64 ai), (12, .c (.ex a2)), (13, .int .i64 an)], [(Zc p y (0:Int) v w), .arrA v 42 2 (mA aa), .arrX w 59 4 0 (ab.map Q0), (Yf j ap aq aj au av al w4_3aa ay), .arrA aj 3 1 (mI az), .arrA al 42 2 (mA a0), .arrX w4_3aa 59 4 0 (a1.map Q0), .arrA ad 3 1 (mI ac), .arrA am 61 1 (s.map (cL 2 Qu)), .arrA a2 63 2 (q.map Qu)]⟩ (Jg r) := by
 intro k
 induction k with
 | zero =>
  intro af ag ai an y aa ab ap aq au av ay az a0 a1 ac s q p v w j aj al w4_3aa ad am a2 h
  cases (show (none : Option (aAu × Int)) = some r from h)
 | succ k ih =>
  intro af ag ai an y aa ab ap aq au av ay az a0 a1 ac s q p v w j aj al w4_3aa ad am a2 h
  rw [Qaf] at h
  refine Q4 ?_
  refine T.seq ?_
  refine T.seq (Qq ?_)
  refine mw rfl ?_
  refine mw rfl ?_
  refine sp rfl (OpT.nilCheck rfl (dk rfl) rfl rfl ?_)
  refine sp rfl (Qg rfl (dk rfl) Fg rfl i28 (by decide) rfl ?_)
  refine sp rfl (Qg rfl (dk rfl) Xe rfl i24 (by decide) rfl ?_)
  refine sp rfl (Qg rfl (dk rfl) Ig rfl i3 (by decide) rfl ?_)
  refine sp rfl (Qm (i := 3) rfl (dk rfl) ul3 rfl rfl rfl rfl ?_)
  refine sp rfl (Qa rfl rfl (dk rfl) rfl rfl ?_)
  refine TL'.nil (tN ?_)
  rcases Qd h with ⟨a3, h⟩ | ⟨a3, h⟩
  refine Qk rfl a3 ?_
  refine T.skip (tN ?_)
  refine T.seq ?_
  refine T.block ?_
  refine T.seq (Qq ?_)
  iterate 5 refine mw rfl ?_
  obtain ⟨b, a6, h⟩ := bind_some h
  refine sp rfl (Q2 (is := [3, 4, 5, 6]) (ph := []) rfl (dk rfl) Try.func52 rfl rfl (Q3.cons rfl (Q3.cons rfl (Q3.cons rfl (Q3.cons rfl Q3.nil)))) (S8 K (bx0 := j) (wx0c1 := aj) (wx0c2c1 := al) (wx0c2c2 := w4_3aa) a6) (.cons rfl rfl (.cons rfl rfl (.cons rfl rfl (.cons rfl rfl (.nil))))) (fun _ => rfl) (fun m => ?_))
  refine nm (.c (.c (.c (.c (.c (.c (.c (.c (.c (.c (.n))))))))))) ?_
  refine sp rfl (OpT.buildSlice (elems := ([b.1] : List aMv).map Qu) rfl (dk rfl) Fq i63 (by decide) rfl (J6 rfl) rfl rfl rfl (Yp rfl) (by decide) ?_)
  obtain ⟨a7, h⟩ := Zh h
  refine sp rfl (Za (i := 9) (xs := q) (ys := [b.1]) (f := Qu) rfl (dk rfl) Fq i63 rfl rfl rfl rfl a7 (fun a5 => ?_))
  refine aw rfl ?_
  refine TL'.nil (tN (T.seq (Qq ?_)))
  refine mw rfl ?_
  refine sp rfl (OpT.nilCheck rfl (dk rfl) rfl rfl ?_)
  refine sp rfl (Qg rfl (dk rfl) Fg rfl i30 (by decide) rfl ?_)
  refine sp rfl (Qm (i := 3) rfl (dk rfl) ul30 rfl rfl rfl rfl ?_)
  refine sp rfl (Qa rfl rfl (dk rfl) rfl rfl ?_)
  refine TL'.nil (tN ?_)
  rcases Qd h with ⟨a4, h⟩ | ⟨a4, h⟩
  refine Qk rfl a4 ?_
  refine T.seq ?_
  refine X3 ?_
  refine dS (c := ⟨some 167, .agg ((Qx.dc 256 .u8 (Qx.mk fun _ => 0)) ++ (([.int .i64 (0:Int), .ex (.slice none 0 0), .ex (.slice none 0 0)] : List DC))), [], [], []⟩) (fun t hm => oF rfl rfl (OpT.build (l := ((Qx.dc 256 .u8 (Qx.mk fun _ => 0)) ++ (([.int .i64 (0:Int), .ex (.slice none 0 0), .ex (.slice none 0 0)] : List DC)))) rfl (dk rfl) (Zr (pl := [(0, 257), (257, 1), (258, 1)]) Xe i28 rfl) (J6 rfl) V6 rfl rfl)) rfl rfl ?_
  refine Yr rfl rfl rfl rfl rfl rfl ?_
  refine dS (c := ⟨some 169, .ptr j 0, [(168, .ptr j 0)], [], []⟩) (fun t hm => oF rfl rfl (OpT.nilCheck rfl (dk rfl) hm.s0 rfl rfl)) rfl rfl ?_
  refine dS (c := ⟨some 170, .ptr j (0 + 262), [(169, .ptr j 0)], [], []⟩) (fun t hm => oF rfl rfl (Qg rfl (dk rfl) Fg rfl i30 (by decide) hm.s0 rfl)) rfl rfl ?_
  refine dS (c := ⟨some 171, .int .i64 b.2.e, [(170, .ptr j (0 + 262))], [(3, (Yf j b.2.g.First b.2.g.P (m 0) b.2.a.Split.Of b.2.a.Split.Many (m 1) (m 2) b.2.e))], []⟩) (fun t hm => oF rfl rfl (Qm (i := 3) rfl (dk rfl) ul30 rfl hm.s0 hm.o0 rfl rfl)) rfl rfl ?_
  refine dS (c := ⟨none, .any, [(2, .ptr p 0), (167, .agg ((Qx.dc 256 .u8 (Qx.mk fun _ => 0)) ++ (([.int .i64 (0:Int), .ex (.slice none 0 0), .ex (.slice none 0 0)] : List DC))))], [(0, (Zc p y (0:Int) v w))], [(0, (Zc p (Qx.mk fun _ => 0) (0:Int) (.slice none 0 0) (.slice none 0 0)))]⟩) (fun t hm => oF rfl rfl (Q1 (i := 0) (cells' := ((Qx.oc 256 .u8 (Qx.mk fun _ => 0)) ++ (([.d (.int .i64 (0:Int)), .d (.ex (.slice none 0 0)), .d (.ex (.slice none 0 0))]:List OC)))) rfl rfl i28 hm.s0 hm.s1 rfl hm.o0 (nb rfl) rfl rfl)) rfl rfl ?_
  refine dS (c := ⟨some 3, .int .i64 b.2.e, [(171, .int .i64 b.2.e)], [], []⟩) (fun t hm => oF rfl rfl (OpT.assign rfl (dk rfl) hm.s0 rfl)) rfl rfl ?_
  refine Y4 (s1 := ⟨[(2, .ptr p 0), (3, .int .i64 b.2.e)], [(Zc p (Qx.mk fun _ => 0) (0:Int) (.slice none 0 0) (.slice none 0 0)), .arrA v 42 2 (mA aa), .arrX w 59 4 0 (ab.map Q0), (Yf j b.2.g.First b.2.g.P (m 0) b.2.a.Split.Of b.2.a.Split.Many (m 1) (m 2) b.2.e), .arrA (m 0) 3 1 (mI b.2.number), .arrA (m 1) 42 2 (mA b.2.a.Counts), .arrX (m 2) 59 4 0 (b.2.a.States.map Q0), .arrA ad 3 1 (mI ac), .arrA am 61 1 (s.map (cL 2 Qu)), .arrA a5 63 2 ((q ++ [b.1]).map Qu)]⟩) (ms := [0, 0, 2, 6, 14, 1, 63]) Q7 rfl (by kernel_rfl) (by kernel_rfl) (by kernel_rfl) (sf rfl) rfl (fun u hu => (tN (Qc hu ?_)))
  refine T.ret (Qy (Ql (Ql (Qy (Ql (Qy (Ql (Ql (Qy (Ql (Qy (Ql (Ql (Qy (Ql ?_)))))))))))))))
  refine Xf (Wx 0 (l := ((Qx.dc 256 .u8 (Qx.mk fun _ => 0)) ++ (([.int .i64 (0:Int), .ex (.slice none 0 0), .ex (.slice none 0 0)] : List DC)))) (l' := ((Qx.dc 256 .u8 (Qx.mk fun _ => 0)) ++ (([.int .i64 (0:Int), .sl false 2 (([] : List Zb).map (Zb.dc .i64)), .sl false 4 (([] : List aSt).map Q0)] : List DC)))) rfl (.app _ (.cons (.same _) (.cons (.nil _ _) (.cons (.nil _ _) (.refl _)))))) ?_
  exact Fin.done (.cons _ _ _ _ (.cellAgg 2 28 _ 0 0 28 _ ((Qx.dc 256 .u8 (Qx.mk fun _ => 0)) ++ (([.int .i64 (0:Int), .sl false 2 (([] : List Zb).map (Zb.dc .i64)), .sl false 4 (([] : List aSt).map Q0)] : List DC))) _ _ 259 _ rfl rfl rfl rfl Xe rfl i28) (.cons _ _ _ _ (.tmp 3 _ rfl) .nil)) (by cases h; exact ⟨rfl, rfl⟩)
  refine Qo rfl a4 ?_
  refine T.skip (Qe (tN ?_))
  refine Qq ?_
  refine mw rfl ?_
  refine sp rfl (Qa rfl rfl (dk rfl) rfl rfl ?_)
  refine aw rfl ?_
  refine TL'.nil (tN ?_)
  refine Qb ?_ (ih af ag ai (wI (an + (1:Int))) y aa ab b.2.g.First b.2.g.P b.2.a.Split.Of b.2.a.Split.Many b.2.e b.2.number b.2.a.Counts b.2.a.States ac s (q ++ [b.1]) p v w j (m 0) (m 1) (m 2) ad am a5 h)
  exact tq rfl rfl
  refine Qo rfl a3 ?_
  refine T.exit (Qf (Qf (Qp (tN ?_))))
  refine Qq ?_
  refine mw rfl ?_
  refine mw rfl ?_
  refine Y7 (Zn.view 173 9 rfl rfl) ?_
  refine sp rfl (OpT.buildSlice (elems := ([q] : List (List aMv)).map (cL 2 Qu)) rfl (dk rfl) B0 i61 (by decide) rfl (J6 rfl) rfl rfl rfl (Yp rfl) (by decide) ?_)
  obtain ⟨a8, h⟩ := Zh h
  refine sp rfl (Za (i := 8) (xs := s) (ys := [q]) (f := (cL 2 Qu)) rfl (dk rfl) B0 i61 rfl rfl rfl rfl a8 (fun a9 => ?_))
  refine aw rfl ?_
  refine TL'.nil (Qe (tN ?_))
  refine Qq ?_
  refine mw rfl ?_
  refine sp rfl (Qa rfl rfl (dk rfl) rfl rfl ?_)
  refine aw rfl ?_
  refine TL'.nil (tN ?_)
  refine Qb ?_ (hgo2 af ag (wI (ai + (1:Int))) y aa ab ap aq au av ay az a0 a1 ac (s ++ [q]) p v w j aj al w4_3aa ad a9 h)
  exact tq rfl rfl
abbrev r1_Of_l1_H (r : aAu × Int) (go : Int → Qx → (List Zb) → (List aSt) → (List Int) → (List Jy) → Qx → Int → Int → (List Int) → (List Zb) → (List aSt) → Option (aAu × Int)) : Prop := ∀ (a : Int) (b : Qx) (c : List Zb) (f : List aSt) (g : List Int) (i : List Jy) (j : Qx) (l m : Int) (n : List Int) (p : List Zb) (q : List aSt) (s : Nat) (u v : Value) (w : Nat) (y z w4_1aa : Value), go a b c f g i j l m n p q = some r → TL tp 198 (ca [1,1,1,1,1,1,1,0,1,0,0] Try.f26) ⟨[(2, .ptr s 0), (4, .ptr w 0), (7, .int .i64 a)], [(Zc s b (0:Int) u v), .arrA u 42 2 (mA c), .arrX v 59 4 0 (f.map Q0), (Yf w g i y j l z w4_1aa m), .arrA y 3 1 (mI n), .arrA z 42 2 (mA p), .arrX w4_1aa 59 4 0 (q.map Q0)]⟩ (Wl r)
theorem r1_Of_l2_T {r : aAu × Int} (K : Nat) (go1 : Int → Qx → (List Zb) → (List aSt) → (List Int) → (List Jy) → Qx → Int → Int → (List Int) → (List Zb) → (List aSt) → Option (aAu × Int)) (hgo1 : r1_Of_l1_H r go1) : ∀ (k : Nat), ∀ (g aq au : Int) (u : Qx) (v : List Zb) (w : List aSt) (y : List Int) (aa : List Jy) (ab : Qx) (ac ad : Int) (af : List Int) (ag : List Zb) (b : List aSt) (j : List Int) (p : List (List aMv)) (ai : Nat) (aj al : Value) (q : Nat) (am an : Value) (w4_2aa ay av : Value), R9 K go1 k g aq au u v w y aa ab ac ad af ag b j p = some r → TL tp 198 (ca [1,1,1,1,1,1,1,0,1,0,0,1,0,0,1,1,1,0,1,0,0] Try.f26) ⟨[(2, .ptr ai 0), (4, .ptr q 0), (7, .int .i64 g), (8, .int .i64 aq), (9, .c (.ex ay)), (10, .c (.ex av)), (11, .int .i64 au)], [(Zc ai u (0:Int) aj al), .arrA aj 42 2 (mA v), .arrX al 59 4 0 (w.map Q0), (Yf q y aa am ab ac an w4_2aa ad), .arrA am 3 1 (mI af), .arrA an 42 2 (mA ag), .arrX w4_2aa 59 4 0 (b.map Q0), .arrA ay 3 1 (mI j), .arrA av 61 1 (p.map (cL 2 Qu))]⟩ (Yw r) := by
 intro k
 induction k with
 | zero =>
  intro g aq au u v w y aa ab ac ad af ag b j p ai aj al q am an w4_2aa ay av h
  cases (show (none : Option (aAu × Int)) = some r from h)
 | succ k ih =>
  intro g aq au u v w y aa ab ac ad af ag b j p ai aj al q am an w4_2aa ay av h
  rw [R9] at h
  refine Q4 ?_
  refine T.seq ?_
  refine T.seq (Qq ?_)
  refine mw rfl ?_
  refine mw rfl ?_
  refine sp rfl (Qa rfl rfl (dk rfl) rfl rfl ?_)
  refine TL'.nil (tN ?_)
  rcases Qd h with ⟨az, h⟩ | ⟨az, h⟩
  refine Qk rfl az ?_
  refine T.skip (tN ?_)
  refine T.seq ?_
  refine T.block ?_
  refine T.seq (Qq ?_)
  iterate 3 refine mw rfl ?_
  refine sp rfl (OpT.nilCheck rfl (dk rfl) rfl rfl ?_)
  refine sp rfl (Qg rfl (dk rfl) Fg rfl i28 (by decide) rfl ?_)
  refine sp rfl (Qg rfl (dk rfl) Xe rfl i26 (by decide) rfl ?_)
  refine sp rfl (Qm (i := 3) rfl (dk rfl) X5 rfl rfl rfl rfl ?_)
  refine mw rfl ?_
  obtain ⟨ap, a2, h⟩ := bind_some h
  refine sp rfl (Uy (n := 6) (xs := b) (f := Q0) (old := ap) rfl (dk rfl) X5 i59 rfl rfl rfl a2 ?_)
  refine sp rfl (Fc (i := 6) (xs := b) (f := Q0) (old := ap) (l := [.sl false 1 (mI ap.L), .sl false 1 (mI ap.R), .sl false 1 (mI ap.Rule), .sl false 1 (ap.Next.map (cL 2 Qu))]) rfl (dk rfl) Vm rfl i59 rfl rfl (Z0 a2).2 rfl rfl ?_)
  refine mw rfl ?_
  obtain ⟨a0, a5, h⟩ := bind_some h
  refine sp rfl (Q2 (is := [3, 4, 5, 6]) (ph := []) rfl (dk rfl) Try.func51 rfl rfl (Q3.cons rfl (Q3.cons rfl (Q3.cons rfl Q3.nil))) (S6 K (bx0 := q) (wx0c1 := am) (wx0c2c1 := an) (wx0c2c2 := w4_2aa) a5) (.cons rfl rfl (.cons rfl rfl (.cons rfl rfl (.cons rfl rfl (.nil))))) (fun _ => rfl) (fun a1 => ?_))
  refine nm (.c (.c (.c (.c (.c (.c (.c (.c (.c (.n)))))))))) ?_
  refine sp rfl (OpT.buildSlice (elems := ([a0] : List Int).map (cI .i64)) rfl (dk rfl) Yd i3 (by decide) rfl (J6 rfl) rfl rfl rfl (Yp rfl) (by decide) ?_)
  obtain ⟨a6, h⟩ := Zh h
  refine sp rfl (Za (i := 7) (xs := j) (ys := [a0]) (f := (cI .i64)) rfl (dk rfl) Yd i3 rfl rfl rfl rfl a6 (fun a7 => ?_))
  refine aw rfl ?_
  refine TL'.nil (tN (T.seq (Qq ?_)))
  refine aw rfl ?_
  refine TL'.nil (tN ?_)
  refine T.seq ?_
  refine T.seq (Qq ?_)
  refine aw rfl ?_
  refine TL'.nil (tN ?_)
  refine T.block ?_
  refine T.loop ?_
  refine Qb (Yc 63 2) ?_
  refine Qb ?_ (r1_Of_l3_T K (R9 K go1 k) ih K g aq au (0:Int) u v w y aa ab ac ad af ag b (j ++ [a0]) p [] ai aj al q (a1 0) (a1 1) (a1 2) a7 av (Mn 51) h)
  exact tr rfl (.c (.s .z) (.c (.s .z) (.c (.s .z) (.c (.s .z) (.c (.s .z) (.c (.s .z) (.c (.s .z) (.c (.s .z) (.c (.s .z) (.c .z (.n _)))))))))))
  refine Qo rfl az ?_
  refine T.exit (Qf (Qf (Qp (tN ?_))))
  refine T.seq (Qq ?_)
  refine mw rfl ?_
  refine sp rfl (OpT.nilCheck rfl (dk rfl) rfl rfl ?_)
  refine sp rfl (Qg rfl (dk rfl) Fg rfl i28 (by decide) rfl ?_)
  refine sp rfl (Qg rfl (dk rfl) Xe rfl i26 (by decide) rfl ?_)
  refine sp rfl (Qm (i := 3) rfl (dk rfl) X5 rfl rfl rfl rfl ?_)
  refine mw rfl ?_
  refine mw rfl ?_
  obtain ⟨a, a3, h⟩ := bind_some h
  refine sp rfl (Uy (n := 6) (xs := b) (f := Q0) (old := a) rfl (dk rfl) X5 i59 rfl rfl rfl a3 ?_)
  refine sp rfl (Ua rfl (dk rfl) Vm rfl i56 (by decide) rfl ?_)
  refine Y7 (Zn.view 182 7 rfl rfl) ?_
  refine sp rfl (Qbn (i := 6) (xs := b) (f := Q0) (old := a) (new := (aSt.mk a.L a.R j a.Next)) rfl rfl i56 rfl rfl rfl (Z0 a3).2 (Nat.zero_le _) (nb rfl) rfl ?_)
  refine TL'.nil (tN ?_)
  refine Qq ?_
  refine mw rfl ?_
  refine sp rfl (OpT.nilCheck rfl (dk rfl) rfl rfl ?_)
  refine sp rfl (Qg rfl (dk rfl) Fg rfl i28 (by decide) rfl ?_)
  refine sp rfl (Qg rfl (dk rfl) Xe rfl i26 (by decide) rfl ?_)
  refine sp rfl (Qm (i := 3) rfl (dk rfl) X5 rfl rfl rfl rfl ?_)
  refine mw rfl ?_
  refine mw rfl ?_
  obtain ⟨m, a4, h⟩ := bind_some h
  refine sp rfl (Uy (n := 6) (xs := (List.set b (Int.toNat g) (aSt.mk a.L a.R j a.Next))) (f := Q0) (old := m) rfl (dk rfl) X5 i59 rfl rfl rfl a4 ?_)
  refine sp rfl (Ua rfl (dk rfl) Vm rfl i57 (by decide) rfl ?_)
  refine Y7 (Zn.view 191 8 rfl rfl) ?_
  refine sp rfl (Qbn (i := 6) (xs := (List.set b (Int.toNat g) (aSt.mk a.L a.R j a.Next))) (f := Q0) (old := m) (new := (aSt.mk m.L m.R m.Rule p)) rfl rfl i57 rfl rfl rfl (Z0 a4).2 (Nat.zero_le _) (nb rfl) rfl ?_)
  refine TL'.nil (Qe (tN ?_))
  refine Qq ?_
  refine mw rfl ?_
  refine sp rfl (Qa rfl rfl (dk rfl) rfl rfl ?_)
  refine aw rfl ?_
  refine TL'.nil (tN ?_)
  refine Qb ?_ (hgo1 (wI (g + (1:Int))) u v w y aa ab ac ad af ag (List.set (List.set b (Int.toNat g) (aSt.mk a.L a.R j a.Next)) (Int.toNat g) (aSt.mk m.L m.R m.Rule p)) ai aj al q am an w4_2aa h)
  exact tq rfl rfl
theorem r1_Of_l1_T {r : aAu × Int} (K : Nat) : ∀ (k : Nat), ∀ (p : Int) (q : Qx) (u : List Zb) (v : List aSt) (w : List Int) (y : List Jy) (b : Qx) (g aa : Int) (ab : List Int) (j : List Zb) (a : List aSt) (ac : Nat) (ad af : Value) (ag : Nat) (ai m w4_1aa : Value), Sa K k p q u v w y b g aa ab j a = some r → TL tp 198 (ca [1,1,1,1,1,1,1,0,1,0,0] Try.f26) ⟨[(2, .ptr ac 0), (4, .ptr ag 0), (7, .int .i64 p)], [(Zc ac q (0:Int) ad af), .arrA ad 42 2 (mA u), .arrX af 59 4 0 (v.map Q0), (Yf ag w y ai b g m w4_1aa aa), .arrA ai 3 1 (mI ab), .arrA m 42 2 (mA j), .arrX w4_1aa 59 4 0 (a.map Q0)]⟩ (Wl r) := by
 intro k
 induction k with
 | zero =>
  intro p q u v w y b g aa ab j a ac ad af ag ai m w4_1aa h
  cases (show (none : Option (aAu × Int)) = some r from h)
 | succ k ih =>
  intro p q u v w y b g aa ab j a ac ad af ag ai m w4_1aa h
  rw [Sa] at h
  refine Q4 ?_
  refine T.seq ?_
  refine T.seq (Qq ?_)
  refine mw rfl ?_
  refine mw rfl ?_
  refine sp rfl (OpT.nilCheck rfl (dk rfl) rfl rfl ?_)
  refine sp rfl (Qg rfl (dk rfl) Fg rfl i28 (by decide) rfl ?_)
  refine sp rfl (Qg rfl (dk rfl) Xe rfl i26 (by decide) rfl ?_)
  refine sp rfl (Qm (i := 3) rfl (dk rfl) X5 rfl rfl rfl rfl ?_)
  refine sp rfl (By (i := 6) (xs := a) (f := Q0) rfl (dk rfl) X5 rfl rfl ?_)
  refine sp rfl (Qa rfl rfl (dk rfl) rfl rfl ?_)
  refine TL'.nil (tN ?_)
  rcases Qd h with ⟨aj, h⟩ | ⟨aj, h⟩
  refine Qk rfl aj ?_
  refine T.skip (tN ?_)
  refine T.seq ?_
  refine T.block ?_
  refine T.seq (Qq ?_)
  refine mw rfl ?_
  refine sp rfl (OpT.nilCheck rfl (dk rfl) rfl rfl ?_)
  refine sp rfl (Qg rfl (dk rfl) Fg rfl i28 (by decide) rfl ?_)
  refine sp rfl (Qg rfl (dk rfl) Xe rfl i26 (by decide) rfl ?_)
  refine sp rfl (Qm (i := 3) rfl (dk rfl) X5 rfl rfl rfl rfl ?_)
  refine mw rfl ?_
  obtain ⟨al, am, h⟩ := bind_some h
  refine sp rfl (Uy (n := 6) (xs := a) (f := Q0) (old := al) rfl (dk rfl) X5 i59 rfl rfl rfl am ?_)
  refine sp rfl (Ua rfl (dk rfl) Vm rfl i56 (by decide) rfl ?_)
  refine sp rfl (Tn (i := 6) (xs := a) (f := Q0) (old := al) rfl (dk rfl) Yd rfl rfl rfl (Z0 am).2 rfl ?_)
  refine sp rfl (Qn (xs := al.R) (f := (cI .i64)) rfl (dk rfl) Yd rfl ?_)
  obtain ⟨an, ap, h⟩ := bind_some h
  refine sp rfl (Q5 rfl (dk rfl) Try.func50 rfl rfl (Q3.cons rfl Q3.nil) (Zt.nil (Tc K ap)) ?_)
  refine aw rfl ?_
  refine TL'.nil (tN (T.seq (Qq ?_)))
  refine aw rfl ?_
  refine TL'.nil (tN (T.seq (Qq ?_)))
  refine aw rfl ?_
  refine TL'.nil (tN ?_)
  refine T.seq ?_
  refine T.seq (Qq ?_)
  refine aw rfl ?_
  refine TL'.nil (tN ?_)
  refine T.block ?_
  refine T.loop ?_
  refine Qb (Yc 3 1) ?_
  refine Qb (Yc 61 1) ?_
  refine Qb ?_ (r1_Of_l2_T K (Sa K k) ih K p an (0:Int) q u v w y b g aa ab j a [] [] ac ad af ag ai m w4_1aa (Mn 49) (Mn 50) h)
  exact tr rfl (.c (.s (.s .z)) (.c (.s (.s .z)) (.c (.s (.s .z)) (.c (.s (.s .z)) (.c (.s (.s .z)) (.c (.s (.s .z)) (.c (.s (.s .z)) (.c (.s .z) (.c .z (.n _))))))))))
  refine Qo rfl aj ?_
  refine T.exit (Qf (Qf (Qp (tN ?_))))
  refine T.seq (Qq ?_)
  refine mw rfl ?_
  refine sp rfl (OpT.nilCheck rfl (dk rfl) rfl rfl ?_)
  refine sp rfl (Qg rfl (dk rfl) Fg rfl i28 (by decide) rfl ?_)
  refine Y7 (D8 6 rfl) ?_
  refine sp rfl (Zm (Ze (i := 3) (l := ((Qx.dc 256 .u8 b) ++ (([.int .i64 g, .ex m, .ex w4_1aa] : List DC)))) rfl (dk rfl) Xe rfl i28 rfl rfl rfl rfl rfl) (Zz 197 (l := ((Qx.dc 256 .u8 b) ++ (([.int .i64 g, .ex m, .ex w4_1aa] : List DC)))) (l' := ((Qx.dc 256 .u8 b) ++ (([.int .i64 g, .sl false 2 (mA j), .sl false 4 (a.map Q0)] : List DC)))) (.app _ (.cons (.same _) (.cons (.view 5 rfl) (.cons (.view 6 rfl) (.refl _)))))) ?_)
  refine sp rfl (Q1 (i := 0) (cells' := ((Qx.oc 256 .u8 b) ++ (([.d (.int .i64 g), .d (.sl false 2 (mA j)), .d (.sl false 4 (a.map Q0))]:List OC)))) rfl rfl i28 rfl rfl rfl rfl (nb rfl) rfl ?_)
  refine aw rfl ?_
  refine TL'.nil (tN ?_)
  refine T.ret ?_
  exact Fin.done (.cons _ _ _ _ (.cellAgg 2 28 _ 0 0 28 _ ((Qx.dc 256 .u8 b) ++ (([.int .i64 g, .sl false 2 (mA j), .sl false 4 (a.map Q0)] : List DC))) _ _ 259 _ rfl rfl rfl rfl Xe rfl i28) (.cons _ _ _ _ (.tmp 3 _ rfl) .nil)) (by cases h; exact ⟨rfl, rfl⟩)
theorem r1_Of_l0_T {r : aAu × Int} (K : Nat) : ∀ (k : Nat), ∀ (aa : Int) (x0 : Xn) (ai : Qx) (aj : List Zb) (al : List aSt) (q : Qx) (ab : List Int) (m : List Zb) (an : List aSt) (am : List Zu) (y ad : Nat) (af ag : Value) (j : Nat) (ac p : Value) (w4_0aa au : Value), Sb K k aa x0 ai aj al q ab m an am = some r → TL tp 198 (ca [1,1,1,1,0,1,0,0] Try.f26) ⟨[(1, .ptr y 0), (2, .ptr ad 0), (4, .ptr j 0), (5, .c (.ex au)), (6, .int .i64 aa)], [(b71x7 y x0.First x0.P), (Zc ad ai (0:Int) af ag), .arrA af 42 2 (mA aj), .arrX ag 59 4 0 (al.map Q0), (Yf j x0.First x0.P ac q (0:Int) p w4_0aa (0:Int)), .arrA ac 3 1 (mI ab), .arrA p 42 2 (mA m), .arrX w4_0aa 59 4 0 (an.map Q0), .arrA au 102 4 (am.map (Zu.dc .u64))]⟩ (Qa4 r) := by
 intro k
 induction k with
 | zero =>
  intro aa x0 ai aj al q ab m an am y ad af ag j ac p w4_0aa au h
  cases (show (none : Option (aAu × Int)) = some r from h)
 | succ k ih =>
  intro aa x0 ai aj al q ab m an am y ad af ag j ac p w4_0aa au h
  rw [Sb] at h
  refine Q4 ?_
  refine T.seq ?_
  refine T.seq (Qq ?_)
  refine mw rfl ?_
  refine sp rfl (Qg rfl (dk rfl) ul71 rfl i69 (by decide) rfl ?_)
  refine sp rfl (Qm (i := 0) rfl (dk rfl) Sk rfl rfl rfl rfl ?_)
  refine sp rfl (Qn (xs := x0.P) (f := Zk) rfl (dk rfl) Sk rfl ?_)
  refine sp rfl (Qa rfl rfl (dk rfl) rfl rfl ?_)
  refine TL'.nil (tN ?_)
  rcases Qd h with ⟨ay, h⟩ | ⟨ay, h⟩
  refine Qk rfl ay ?_
  refine T.skip (tN ?_)
  refine T.seq ?_
  refine T.block ?_
  refine T.seq (Qq ?_)
  refine mw rfl ?_
  refine sp rfl (Qg rfl (dk rfl) ul71 rfl i69 (by decide) rfl ?_)
  refine sp rfl (Qm (i := 0) rfl (dk rfl) Sk rfl rfl rfl rfl ?_)
  refine mw rfl ?_
  obtain ⟨a, av, h⟩ := bind_some h
  refine sp rfl (Qh (xs := x0.P) (f := Zk) (v := a) rfl (dk rfl) Sk i104 rfl rfl av ?_)
  refine sp rfl (Z4 rfl (dk rfl) Ed rfl i102 (by decide) rfl ?_)
  refine sp rfl (Zj rfl (dk rfl) Cw rfl i102 rfl (nb rfl) ?_)
  refine sp rfl (OpT.buildSlice (elems := ([a.S] : List Zu).map (Zu.dc .u64)) rfl (dk rfl) ul99 i102 (by decide) rfl (J6 rfl) rfl rfl rfl (Yp rfl) (by decide) ?_)
  obtain ⟨a6, h⟩ := Zh h
  refine sp rfl (Za (i := 8) (xs := am) (ys := [a.S]) (f := (Zu.dc .u64)) rfl (dk rfl) ul99 i102 rfl rfl rfl rfl a6 (fun ap => ?_))
  refine aw rfl ?_
  refine TL'.nil (tN (T.seq (Qq ?_)))
  refine sp rfl (Qg rfl (dk rfl) ul71 rfl i69 (by decide) rfl ?_)
  refine sp rfl (Qm (i := 0) rfl (dk rfl) Sk rfl rfl rfl rfl ?_)
  refine mw rfl ?_
  refine sp rfl (Qh (xs := x0.P) (f := Zk) (v := a) rfl (dk rfl) Sk i104 rfl rfl av ?_)
  refine sp rfl (Z4 rfl (dk rfl) Ed rfl i3 (by decide) rfl ?_)
  refine sp rfl (Qr rfl (dk rfl) ul3 rfl rfl rfl ?_)
  refine sp rfl (Qa rfl rfl (dk rfl) rfl rfl ?_)
  refine TL'.nil (tN ?_)
  rcases Qd h with ⟨az, h⟩ | ⟨az, h⟩
  refine Qk rfl az ?_
  refine T.seq ?_
  refine Qc Zs ?_
  refine Y3 ?_
  refine dC (c := ⟨some 44, .ptr j 0, [(4, .ptr j 0)], [], []⟩) (fun t hm => oF rfl rfl (OpT.move rfl (dk rfl) hm.s0 ⟨u0, rfl⟩)) (fun _ => rfl) (fun _ => rfl) ?_
  refine dC (c := ⟨some 45, .ptr j 0, [(4, .ptr j 0)], [], []⟩) (fun t hm => oF rfl rfl (OpT.move rfl (dk rfl) hm.s0 ⟨u0, rfl⟩)) (fun _ => rfl) (fun _ => rfl) ?_
  refine dC (c := ⟨some 46, .ptr j 0, [(45, .ptr j 0)], [], []⟩) (fun t hm => oF rfl rfl (OpT.nilCheck rfl (dk rfl) hm.s0 rfl ⟨u0, rfl⟩)) (fun _ => rfl) (fun _ => rfl) ?_
  refine dC (c := ⟨some 47, .ptr j (0 + 2), [(46, .ptr j 0)], [], []⟩) (fun t hm => oF rfl rfl (Qg rfl (dk rfl) Fg rfl i56 (by decide) hm.s0 ⟨u0, rfl⟩)) (fun _ => rfl) (fun _ => rfl) ?_
  refine dC (c := ⟨some 48, .c (.ex ac), [(47, .ptr j (0 + 2))], [(5, (Yf j x0.First x0.P ac q (0:Int) p w4_0aa (0:Int)))], []⟩) (fun t hm => oF rfl rfl (Qm (i := 5) rfl (dk rfl) Yd rfl hm.s0 hm.o0 rfl ⟨u0, rfl⟩)) (fun _ => rfl) (fun _ => rfl) ?_
  refine dC (c := ⟨some 49, .ptr j 0, [(4, .ptr j 0)], [], []⟩) (fun t hm => oF rfl rfl (OpT.move rfl (dk rfl) hm.s0 ⟨u0, rfl⟩)) (fun _ => rfl) (fun _ => rfl) ?_
  refine dC (c := ⟨some 50, .ptr j 0, [(49, .ptr j 0)], [], []⟩) (fun t hm => oF rfl rfl (OpT.nilCheck rfl (dk rfl) hm.s0 rfl ⟨u0, rfl⟩)) (fun _ => rfl) (fun _ => rfl) ?_
  refine dC (c := ⟨some 51, .ptr j (0 + 3), [(50, .ptr j 0)], [], []⟩) (fun t hm => oF rfl rfl (Qg rfl (dk rfl) Fg rfl i28 (by decide) hm.s0 ⟨u0, rfl⟩)) (fun _ => rfl) (fun _ => rfl) ?_
  refine dC (c := ⟨some 52, .ptr j (0 + 3 + 257), [(51, .ptr j (0 + 3))], [], []⟩) (fun t hm => oF rfl rfl (Qg rfl (dk rfl) Xe rfl i25 (by decide) hm.s0 ⟨u0, rfl⟩)) (fun _ => rfl) (fun _ => rfl) ?_
  refine dC (c := ⟨some 53, .sl false 2 (mA m), [(52, .ptr j (0 + 3 + 257))], [(5, (Yf j x0.First x0.P ac q (0:Int) p w4_0aa (0:Int))), (7, .arrA p 42 2 (mA m))], []⟩) (fun t hm => oF rfl rfl (Zm (Qm (i := 5) rfl (dk rfl) Mq rfl hm.s0 hm.o0 rfl rfl) (Ke 53 7 hm.o1) ⟨u0, rfl⟩)) (fun _ => rfl) (fun _ => rfl) ?_
  refine dC (c := ⟨some 54, .int .i64 (m.length : Int), [(53, .sl false 2 (mA m))], [], []⟩) (fun t hm => oF rfl rfl (Qn (xs := m) (f := (Zb.dc .i64)) rfl (dk rfl) Mq hm.s0 ⟨u0, rfl⟩)) (fun _ => rfl) (fun _ => rfl) ?_
  refine dC (c := ⟨some 55, .sl true 1 ([(m.length : Int)].map (cI .i64)), [(54, .int .i64 (m.length : Int))], [], []⟩) (fun t hm => oF rfl rfl (OpT.buildSlice (elems := ([(m.length : Int)] : List Int).map (cI .i64)) rfl (dk rfl) Yd i3 (by decide) rfl (J6 rfl) (Xm hm.s0 rfl V6) rfl rfl (Yp rfl) (by decide) ⟨u0, rfl⟩)) (fun _ => rfl) (fun _ => rfl) ?_
  obtain ⟨a7, h⟩ := Zh h
  refine DGG.step (c := fun g => ⟨some 56, .c (.ex ((g 12).1 0)), [(55, .sl true 1 ([(m.length : Int)].map (cI .i64))), (48, .c (.ex ac))], [(6, .arrA ac 3 1 (mI ab))], [(6, .arrA ((g 12).1 0) 3 1 ((ab ++ [(m.length : Int)]).map (cI .i64)))]⟩) [12] (fun g γ' h => by simp only [h 12 (by decide)]) (fun g t hm => oF rfl rfl (Za (i := 6) (xs := ab) (ys := [(m.length : Int)]) (f := (cI .i64)) rfl (dk rfl) Yd i3 rfl hm.s1 hm.o0 hm.s0 a7 (fun w => ⟨(fun _ => w, 0), rfl⟩))) (fun g => Zq rfl rfl) ?_
  refine dC (c := ⟨some 57, .ptr j 0, [(44, .ptr j 0)], [], []⟩) (fun t hm => oF rfl rfl (OpT.nilCheck rfl (dk rfl) hm.s0 rfl ⟨u0, rfl⟩)) (fun _ => rfl) (fun _ => rfl) ?_
  refine dC (c := ⟨some 58, .ptr j (0 + 2), [(57, .ptr j 0)], [], []⟩) (fun t hm => oF rfl rfl (Qg rfl (dk rfl) Fg rfl i56 (by decide) hm.s0 ⟨u0, rfl⟩)) (fun _ => rfl) (fun _ => rfl) ?_
  refine DGG.step (c := fun g => ⟨none, .any, [(58, .ptr j (0 + 2)), (56, .c (.ex ((g 12).1 0)))], [(5, (Yf j x0.First x0.P ac q (0:Int) p w4_0aa (0:Int)))], [(5, (Yf j x0.First x0.P ((g 12).1 0) q (0:Int) p w4_0aa (0:Int)))]⟩) [12] (fun g γ' h => by simp only [h 12 (by decide)]) (fun g t hm => oF rfl rfl (Xd (i := 5) (cells' := (([.d (.sl false 1 (mI x0.First)), .d (.sl false 9 (x0.P.map Zk)), .d (.ex ((g 12).1 0))]:List OC) ++ ((Qx.oc 256 .u8 q) ++ (([.d (.int .i64 (0:Int)), .d (.ex p), .d (.ex w4_0aa), .d (.int .i64 (0:Int))]:List OC))))) rfl rfl i56 hm.s0 hm.s1 hm.o0 (nb rfl) rfl ⟨u0, rfl⟩)) (fun g => Zq rfl rfl) ?_
  refine Vi (s1 := fun g => ⟨[(1, .ptr y 0), (2, .ptr ad 0), (4, .ptr j 0), (5, .c (.ex ap)), (6, .int .i64 aa)], [.ro 0 [], (b71x7 y x0.First x0.P), (Zc ad ai (0:Int) af ag), .arrA af 42 2 (mA aj), .arrX ag 59 4 0 (al.map Q0), (Yf j x0.First x0.P ((g 12).1 0) q (0:Int) p w4_0aa (0:Int)), .arrA ((g 12).1 0) 3 1 ((ab ++ [(m.length : Int)]).map (cI .i64)), .arrA p 42 2 (mA m), .arrX w4_0aa 59 4 0 (an.map Q0), .arrA ap 102 4 ((am ++ [a.S]).map (Zu.dc .u64))]⟩) (ms := [0, 0, 2, 6, 14, 0, 32, 96, 224, 480, 992, 2016, 4094, 8191, 16383, 32767]) Q7 rfl (by kernel_rfl) (by kernel_rfl) (by kernel_rfl) (fun g => by kernel_rfl) (fun g => sf rfl) (fun _ => rfl) (fun g u hu => (tN (Qc hu ?_)))
  refine Qc Zs ?_
  refine Y3 ?_
  refine dC (c := ⟨some 59, .ptr j 0, [(4, .ptr j 0)], [], []⟩) (fun t hm => oF rfl rfl (OpT.move rfl (dk rfl) hm.s0 ⟨u0, rfl⟩)) (fun _ => rfl) (fun _ => rfl) ?_
  refine dC (c := ⟨some 60, .ptr j 0, [(4, .ptr j 0)], [], []⟩) (fun t hm => oF rfl rfl (OpT.move rfl (dk rfl) hm.s0 ⟨u0, rfl⟩)) (fun _ => rfl) (fun _ => rfl) ?_
  refine dC (c := ⟨some 61, .ptr j 0, [(60, .ptr j 0)], [], []⟩) (fun t hm => oF rfl rfl (OpT.nilCheck rfl (dk rfl) hm.s0 rfl ⟨u0, rfl⟩)) (fun _ => rfl) (fun _ => rfl) ?_
  refine dC (c := ⟨some 62, .ptr j (0 + 3), [(61, .ptr j 0)], [], []⟩) (fun t hm => oF rfl rfl (Qg rfl (dk rfl) Fg rfl i28 (by decide) hm.s0 ⟨u0, rfl⟩)) (fun _ => rfl) (fun _ => rfl) ?_
  refine dC (c := ⟨some 63, .ptr j (0 + 3 + 257), [(62, .ptr j (0 + 3))], [], []⟩) (fun t hm => oF rfl rfl (Qg rfl (dk rfl) Xe rfl i25 (by decide) hm.s0 ⟨u0, rfl⟩)) (fun _ => rfl) (fun _ => rfl) ?_
  refine dC (c := ⟨some 64, .c (.ex p), [(63, .ptr j (0 + 3 + 257))], [(6, (Yf j x0.First x0.P ((g 12).1 0) q (0:Int) p w4_0aa (0:Int)))], []⟩) (fun t hm => oF rfl rfl (Qm (i := 6) rfl (dk rfl) Mq rfl hm.s0 hm.o0 rfl ⟨u0, rfl⟩)) (fun _ => rfl) (fun _ => rfl) ?_
  refine dC (c := ⟨some 65, .ptr y (0 + 1), [(1, .ptr y 0)], [], []⟩) (fun t hm => oF rfl rfl (Qg rfl (dk rfl) ul71 rfl i69 (by decide) hm.s0 ⟨u0, rfl⟩)) (fun _ => rfl) (fun _ => rfl) ?_
  refine dC (c := ⟨some 66, .sl false 9 (x0.P.map Zk), [(65, .ptr y (0 + 1))], [(2, (b71x7 y x0.First x0.P))], []⟩) (fun t hm => oF rfl rfl (Qm (i := 2) rfl (dk rfl) Sk rfl hm.s0 hm.o0 rfl ⟨u0, rfl⟩)) (fun _ => rfl) (fun _ => rfl) ?_
  refine dC (c := ⟨some 67, .int .i64 aa, [(6, .int .i64 aa)], [], []⟩) (fun t hm => oF rfl rfl (OpT.move rfl (dk rfl) hm.s0 ⟨u0, rfl⟩)) (fun _ => rfl) (fun _ => rfl) ?_
  refine dC (c := ⟨some 68, .ref [.int .u64 a.S.a0, .int .u64 a.S.a1, .int .u64 a.S.a2, .int .u64 a.S.a3, .int .i64 a.Lo, .int .i64 a.Hi, .int .i64 a.Rule, .bool a.Last, .sl false 1 (mI a.Next)], [(66, .sl false 9 (x0.P.map Zk)), (67, .int .i64 aa)], [], []⟩) (fun t hm => oF rfl rfl (Qh (xs := x0.P) (f := Zk) (v := a) rfl (dk rfl) Sk i104 hm.s0 hm.s1 av ⟨u0, rfl⟩)) (fun _ => rfl) (fun _ => rfl) ?_
  refine dC (c := ⟨some 69, .ref [.int .i64 a.Lo, .int .i64 a.Hi, .int .i64 a.Rule, .bool a.Last, .sl false 1 (mI a.Next)], [(68, .ref [.int .u64 a.S.a0, .int .u64 a.S.a1, .int .u64 a.S.a2, .int .u64 a.S.a3, .int .i64 a.Lo, .int .i64 a.Hi, .int .i64 a.Rule, .bool a.Last, .sl false 1 (mI a.Next)])], [], []⟩) (fun t hm => oF rfl rfl (Z4 rfl (dk rfl) Ed rfl i3 (by decide) hm.s0 ⟨u0, rfl⟩)) (fun _ => rfl) (fun _ => rfl) ?_
  refine dC (c := ⟨some 70, .int .i64 a.Lo, [(69, .ref [.int .i64 a.Lo, .int .i64 a.Hi, .int .i64 a.Rule, .bool a.Last, .sl false 1 (mI a.Next)])], [], []⟩) (fun t hm => oF rfl rfl (Qr rfl (dk rfl) ul3 rfl hm.s0 rfl ⟨u0, rfl⟩)) (fun _ => rfl) (fun _ => rfl) ?_
  refine dC (c := ⟨some 71, .ptr y (0 + 1), [(1, .ptr y 0)], [], []⟩) (fun t hm => oF rfl rfl (Qg rfl (dk rfl) ul71 rfl i69 (by decide) hm.s0 ⟨u0, rfl⟩)) (fun _ => rfl) (fun _ => rfl) ?_
  refine dC (c := ⟨some 72, .sl false 9 (x0.P.map Zk), [(71, .ptr y (0 + 1))], [(2, (b71x7 y x0.First x0.P))], []⟩) (fun t hm => oF rfl rfl (Qm (i := 2) rfl (dk rfl) Sk rfl hm.s0 hm.o0 rfl ⟨u0, rfl⟩)) (fun _ => rfl) (fun _ => rfl) ?_
  refine dC (c := ⟨some 73, .int .i64 aa, [(6, .int .i64 aa)], [], []⟩) (fun t hm => oF rfl rfl (OpT.move rfl (dk rfl) hm.s0 ⟨u0, rfl⟩)) (fun _ => rfl) (fun _ => rfl) ?_
  refine dC (c := ⟨some 74, .ref [.int .u64 a.S.a0, .int .u64 a.S.a1, .int .u64 a.S.a2, .int .u64 a.S.a3, .int .i64 a.Lo, .int .i64 a.Hi, .int .i64 a.Rule, .bool a.Last, .sl false 1 (mI a.Next)], [(72, .sl false 9 (x0.P.map Zk)), (73, .int .i64 aa)], [], []⟩) (fun t hm => oF rfl rfl (Qh (xs := x0.P) (f := Zk) (v := a) rfl (dk rfl) Sk i104 hm.s0 hm.s1 av ⟨u0, rfl⟩)) (fun _ => rfl) (fun _ => rfl) ?_
  refine dC (c := ⟨some 75, .ref [.int .i64 a.Hi, .int .i64 a.Rule, .bool a.Last, .sl false 1 (mI a.Next)], [(74, .ref [.int .u64 a.S.a0, .int .u64 a.S.a1, .int .u64 a.S.a2, .int .u64 a.S.a3, .int .i64 a.Lo, .int .i64 a.Hi, .int .i64 a.Rule, .bool a.Last, .sl false 1 (mI a.Next)])], [], []⟩) (fun t hm => oF rfl rfl (Z4 rfl (dk rfl) Ed rfl i3 (by decide) hm.s0 ⟨u0, rfl⟩)) (fun _ => rfl) (fun _ => rfl) ?_
  refine dC (c := ⟨some 76, .int .i64 a.Hi, [(75, .ref [.int .i64 a.Hi, .int .i64 a.Rule, .bool a.Last, .sl false 1 (mI a.Next)])], [], []⟩) (fun t hm => oF rfl rfl (Qr rfl (dk rfl) ul3 rfl hm.s0 rfl ⟨u0, rfl⟩)) (fun _ => rfl) (fun _ => rfl) ?_
  refine dC (c := ⟨some 77, .agg (Zb.dc .i64 (Zb.mk a.Lo a.Hi)), [(70, .int .i64 a.Lo), (76, .int .i64 a.Hi)], [], []⟩) (fun t hm => oF rfl rfl (OpT.build (l := (Zb.dc .i64 (Zb.mk a.Lo a.Hi))) rfl (dk rfl) (Nh ul42 i42 i3) (J6 rfl) (Xm hm.s0 rfl (Xm hm.s1 rfl V6)) rfl ⟨u0, rfl⟩)) (fun _ => rfl) (fun _ => rfl) ?_
  refine dC (c := ⟨some 78, .sl true 2 ([(Zb.mk a.Lo a.Hi)].map (Zb.dc .i64)), [(77, .agg (Zb.dc .i64 (Zb.mk a.Lo a.Hi)))], [], []⟩) (fun t hm => oF rfl rfl (OpT.buildSlice (elems := ([(Zb.mk a.Lo a.Hi)] : List Zb).map (Zb.dc .i64)) rfl (dk rfl) Mq i42 (by decide) rfl (J6 rfl) (Xm hm.s0 rfl V6) rfl rfl (Yp rfl) (by decide) ⟨u0, rfl⟩)) (fun _ => rfl) (fun _ => rfl) ?_
  obtain ⟨a8, h⟩ := Zh h
  refine DGG.step (c := fun b => ⟨some 79, .c (.ex ((b 20).1 0)), [(78, .sl true 2 ([(Zb.mk a.Lo a.Hi)].map (Zb.dc .i64))), (64, .c (.ex p))], [(8, .arrA p 42 2 (mA m))], [(8, .arrA ((b 20).1 0) 42 2 ((m ++ [(Zb.mk a.Lo a.Hi)]).map (Zb.dc .i64)))]⟩) [20] (fun b γ' h => by simp only [h 20 (by decide)]) (fun b t hm => oF rfl rfl (Za (i := 8) (xs := m) (ys := [(Zb.mk a.Lo a.Hi)]) (f := (Zb.dc .i64)) rfl (dk rfl) Mq i42 rfl hm.s1 hm.o0 hm.s0 a8 (fun w => ⟨(fun _ => w, 0), rfl⟩))) (fun b => Zq rfl rfl) ?_
  refine dC (c := ⟨some 80, .ptr j 0, [(59, .ptr j 0)], [], []⟩) (fun t hm => oF rfl rfl (OpT.nilCheck rfl (dk rfl) hm.s0 rfl ⟨u0, rfl⟩)) (fun _ => rfl) (fun _ => rfl) ?_
  refine dC (c := ⟨some 81, .ptr j (0 + 3), [(80, .ptr j 0)], [], []⟩) (fun t hm => oF rfl rfl (Qg rfl (dk rfl) Fg rfl i28 (by decide) hm.s0 ⟨u0, rfl⟩)) (fun _ => rfl) (fun _ => rfl) ?_
  refine dC (c := ⟨some 82, .ptr j (0 + 3 + 257), [(81, .ptr j (0 + 3))], [], []⟩) (fun t hm => oF rfl rfl (Qg rfl (dk rfl) Xe rfl i25 (by decide) hm.s0 ⟨u0, rfl⟩)) (fun _ => rfl) (fun _ => rfl) ?_
  refine DGG.step (c := fun b => ⟨none, .any, [(82, .ptr j (0 + 3 + 257)), (79, .c (.ex ((b 20).1 0)))], [(6, (Yf j x0.First x0.P ((g 12).1 0) q (0:Int) p w4_0aa (0:Int)))], [(6, (Yf j x0.First x0.P ((g 12).1 0) q (0:Int) ((b 20).1 0) w4_0aa (0:Int)))]⟩) [20] (fun b γ' h => by simp only [h 20 (by decide)]) (fun b t hm => oF rfl rfl (Xd (i := 6) (cells' := (([.d (.sl false 1 (mI x0.First)), .d (.sl false 9 (x0.P.map Zk)), .d (.ex ((g 12).1 0))]:List OC) ++ ((Qx.oc 256 .u8 q) ++ (([.d (.int .i64 (0:Int)), .d (.ex ((b 20).1 0)), .d (.ex w4_0aa), .d (.int .i64 (0:Int))]:List OC))))) rfl rfl i25 hm.s0 hm.s1 hm.o0 (nb rfl) rfl ⟨u0, rfl⟩)) (fun b => Zq rfl rfl) ?_
  refine Vi (s1 := fun b => ⟨[(1, .ptr y 0), (2, .ptr ad 0), (4, .ptr j 0), (5, .c (.ex ap)), (6, .int .i64 aa)], [.ro 0 [], .ro 0 [], (b71x7 y x0.First x0.P), (Zc ad ai (0:Int) af ag), .arrA af 42 2 (mA aj), .arrX ag 59 4 0 (al.map Q0), (Yf j x0.First x0.P ((g 12).1 0) q (0:Int) ((b 20).1 0) w4_0aa (0:Int)), .arrA ((g 12).1 0) 3 1 ((ab ++ [(m.length : Int)]).map (cI .i64)), .arrA ((b 20).1 0) 42 2 ((m ++ [(Zb.mk a.Lo a.Hi)]).map (Zb.dc .i64)), .arrX w4_0aa 59 4 0 (an.map Q0), .arrA ap 102 4 ((am ++ [a.S]).map (Zu.dc .u64))]⟩) (ms := [0, 0, 2, 6, 14, 30, 0, 64, 0, 448, 960, 1984, 0, 4096, 0, 28672, 61440, 126976, 262080, 524224, 1048574, 2097151, 4194303, 8388607, 16777215]) Q7 rfl (by kernel_rfl) (by kernel_rfl) (by kernel_rfl) (fun b => by kernel_rfl) (fun b => sf rfl) (fun _ => rfl) (fun b u hu => (Qe (tN (Qc hu ?_))))
  refine Qq ?_
  refine mw rfl ?_
  refine sp rfl (Qa rfl rfl (dk rfl) rfl rfl ?_)
  refine aw rfl ?_
  refine TL'.nil (tN ?_)
  refine Qb ?_ (ih (wI (aa + (1:Int))) x0 ai aj al q (ab ++ [(m.length : Int)]) (m ++ [(Zb.mk a.Lo a.Hi)]) an (am ++ [a.S]) y ad af ag j ((g 12).1 0) ((b 20).1 0) w4_0aa ap h)
  exact tr rfl (.c (.s (.s .z)) (.c (.s (.s .z)) (.c (.s (.s .z)) (.c (.s (.s .z)) (.c (.s (.s .z)) (.c (.s (.s .z)) (.c (.s (.s .z)) (.c (.s (.s .z)) (.c (.s (.s .z)) (.n _))))))))))
  refine Qo rfl az ?_
  refine Qq ?_
  refine mw rfl ?_
  refine mw rfl ?_
  refine sp rfl (OpT.nilCheck rfl (dk rfl) rfl rfl ?_)
  refine sp rfl (Qg rfl (dk rfl) Fg rfl i56 (by decide) rfl ?_)
  refine sp rfl (Qm (i := 4) rfl (dk rfl) Yd rfl rfl rfl rfl ?_)
  refine sp rfl (OpT.buildSlice (elems := ([(-1:Int)] : List Int).map (cI .i64)) rfl (dk rfl) Yd i3 (by decide) rfl (J6 rfl) rfl rfl rfl (Yp rfl) (by decide) ?_)
  obtain ⟨a9, h⟩ := Zh h
  refine sp rfl (Za (i := 5) (xs := ab) (ys := [(-1:Int)]) (f := (cI .i64)) rfl (dk rfl) Yd i3 rfl rfl rfl rfl a9 (fun a4 => ?_))
  refine sp rfl (OpT.nilCheck rfl (dk rfl) rfl rfl ?_)
  refine sp rfl (Qg rfl (dk rfl) Fg rfl i56 (by decide) rfl ?_)
  refine sp rfl (Xd (i := 4) (cells' := (([.d (.sl false 1 (mI x0.First)), .d (.sl false 9 (x0.P.map Zk)), .d (.ex a4)]:List OC) ++ ((Qx.oc 256 .u8 q) ++ (([.d (.int .i64 (0:Int)), .d (.ex p), .d (.ex w4_0aa), .d (.int .i64 (0:Int))]:List OC))))) rfl rfl i56 rfl rfl rfl (nb rfl) rfl ?_)
  refine TL'.nil (Qe (tN ?_))
  refine Qq ?_
  refine mw rfl ?_
  refine sp rfl (Qa rfl rfl (dk rfl) rfl rfl ?_)
  refine aw rfl ?_
  refine TL'.nil (tN ?_)
  refine Qb ?_ (ih (wI (aa + (1:Int))) x0 ai aj al q (ab ++ [(-1:Int)]) m an (am ++ [a.S]) y ad af ag j a4 p w4_0aa ap h)
  exact tq rfl rfl
  refine Qo rfl ay ?_
  refine T.exit (Qf (Qf (Qp (tN ?_))))
  refine T.seq (Qq ?_)
  refine mw rfl ?_
  refine mw rfl ?_
  obtain ⟨aq, ba, h⟩ := bind_some h
  refine sp rfl (Q5 rfl (dk rfl) Try.func49 rfl rfl (Q3.view (i := 8) rfl rfl Q3.nil) (Zt.nil (T5 K (flx0 := false) ba)) ?_)
  refine sp rfl (OpT.nilCheck rfl (dk rfl) rfl rfl ?_)
  refine sp rfl (Qg rfl (dk rfl) Fg rfl i28 (by decide) rfl ?_)
  refine sp rfl (Qg rfl (dk rfl) Xe rfl i24 (by decide) rfl ?_)
  refine sp rfl (Q1 (i := 4) (cells' := (([.d (.sl false 1 (mI x0.First)), .d (.sl false 9 (x0.P.map Zk)), .d (.ex ac)]:List OC) ++ ((Qx.oc 256 .u8 aq.Of) ++ (([.d (.int .i64 aq.Many), .d (.ex p), .d (.ex w4_0aa), .d (.int .i64 (0:Int))]:List OC))))) rfl rfl i24 rfl rfl rfl rfl (nb rfl) rfl ?_)
  refine TL'.nil (tN (T.seq (Qq ?_)))
  refine mw rfl ?_
  refine sp rfl (Zm (OpT.build (l := [.ex (.slice none 0 0), .ex (.slice none 0 0), .ex (.slice none 0 0), .ex (.slice none 0 0)]) rfl (dk rfl) (Zr (pl := [(0, 1), (1, 1), (2, 1), (3, 1)]) Vm i59 rfl) (J6 rfl) rfl rfl rfl) (Zz 99 (l := [.ex (.slice none 0 0), .ex (.slice none 0 0), .ex (.slice none 0 0), .ex (.slice none 0 0)]) (l' := [.sl false 1 (([] : List Int).map (cI .i64)), .sl false 1 (([] : List Int).map (cI .i64)), .ex (.slice none 0 0), .ex (.slice none 0 0)]) (.cons (.nil _ _) (.cons (.nil _ _) (.cons (.same _) (.cons (.same _) (.refl _)))))) ?_)
  refine Y7 (E8 99 (l := [.sl false 1 (([] : List Int).map (cI .i64)), .sl false 1 (([] : List Int).map (cI .i64)), .ex (.slice none 0 0), .ex (.slice none 0 0)]) (l' := [.sl false 1 (([] : List Int).map (cI .i64)), .sl false 1 (([] : List Int).map (cI .i64)), .sl false 1 (([] : List Int).map (cI .i64)), .sl false 1 (([] : List (List aMv)).map (cL 2 Qu))]) rfl (.cons (.same _) (.cons (.same _) (.cons (.nil _ _) (.cons (.nil _ _) (.refl _)))))) ?_
  refine sp rfl (Lc (elems := ([(aSt.mk [] [] [] [])] : List aSt).map Q0) rfl (dk rfl) X5 i59 (by decide) rfl (J6 rfl) rfl rfl rfl (Yp rfl) (by decide) (fun a5 => ?_))
  refine sp rfl (OpT.nilCheck rfl (dk rfl) rfl rfl ?_)
  refine sp rfl (Qg rfl (dk rfl) Fg rfl i28 (by decide) rfl ?_)
  refine sp rfl (Qg rfl (dk rfl) Xe rfl i26 (by decide) rfl ?_)
  refine sp rfl (Xd (i := 5) (cells' := (([.d (.sl false 1 (mI x0.First)), .d (.sl false 9 (x0.P.map Zk)), .d (.ex ac)]:List OC) ++ ((Qx.oc 256 .u8 aq.Of) ++ (([.d (.int .i64 aq.Many), .d (.ex p), .d (.ex (.slice (some ⟨a5, 0, none⟩) 1 1)), .d (.int .i64 (0:Int))]:List OC))))) rfl rfl i26 rfl rfl rfl (nb rfl) rfl ?_)
  refine TL'.nil (tN ?_)
  refine T.seq ?_
  refine T.seq (Qq ?_)
  refine aw rfl ?_
  refine TL'.nil (tN ?_)
  refine T.block ?_
  refine T.loop ?_
  refine Qb ?_ (r1_Of_l1_T K K (0:Int) ai aj al x0.First x0.P aq.Of aq.Many (0:Int) ab m [(aSt.mk [] [] [] [])] ad af ag j ac p (.slice (some ⟨a5, 0, none⟩) 1 1) h)
  exact tr rfl (.c (.s (.s .z)) (.c (.s (.s .z)) (.c (.s (.s .z)) (.c (.s (.s .z)) (.c (.s (.s .z)) (.c (.s (.s .z)) (.c .z (.n _))))))))
theorem r1_Of_T (K : Nat) {x0 : Xn} {r : aAu × Int} (h : r1_Of K x0 = some r) : Zt tp 26 [.agg [.sl false 1 (mI x0.First), .sl false 9 (x0.P.map Zk)]] [] (.tup [.agg ((Qx.dc 256 .u8 r.1.Split.Of) ++ (([.int .i64 r.1.Split.Many, .sl false 2 (mA r.1.Counts), .sl false 4 (r.1.States.map Q0)] : List DC))), .int .i64 r.2]) := by
 refine Qt Try.func26 rfl (nb rfl) ?_
 show T tp 198 (ca [] Try.f26) ⟨Qv 0 [.agg [.sl false 1 (mI x0.First), .sl false 9 (x0.P.map Zk)]], []⟩ (Qa5 r)
 unfold r1_Of at h
 refine T.seq (Qq ?_)
 refine sp rfl (Zg rfl (dk rfl) rfl (fun b => ?_))
 refine sp rfl (Zi rfl (dk rfl) i28 rfl (fun f => ?_))
 refine aw rfl ?_
 refine TL'.nil (tN ?_)
 refine T.seq ?_
 refine T.seq (Qq ?_)
 refine sp rfl (Ze (i := 1) (l := [.sl false 1 (mI x0.First), .sl false 9 (x0.P.map Zk)]) rfl (dk rfl) ul71 rfl i71 rfl rfl rfl rfl ?_)
 obtain ⟨m, g, h⟩ := bind_some h
 refine sp rfl (Q5 rfl (dk rfl) Try.func48 rfl rfl (Q3.cons rfl Q3.nil) (Zt.nil (Pm K g)) ?_)
 refine sp rfl (OpT.not rfl (dk rfl) rfl ?_)
 refine TL'.nil (tN ?_)
 rcases Qd h with ⟨a, h⟩ | ⟨a, h⟩
 refine Qk rfl a ?_
 refine T.seq (Qq ?_)
 refine sp rfl (OpT.build (l := ((Qx.dc 256 .u8 (Qx.mk fun _ => 0)) ++ (([.int .i64 (0:Int), .ex (.slice none 0 0), .ex (.slice none 0 0)] : List DC)))) rfl (dk rfl) (Zr (pl := [(0, 257), (257, 1), (258, 1)]) Xe i28 rfl) (J6 rfl) rfl rfl ?_)
 refine sp rfl (Q1 (i := 0) (cells' := ((Qx.oc 256 .u8 (Qx.mk fun _ => 0)) ++ (([.d (.int .i64 (0:Int)), .d (.ex (.slice none 0 0)), .d (.ex (.slice none 0 0))]:List OC)))) rfl rfl i28 rfl rfl rfl rfl (nb rfl) rfl ?_)
 refine aw rfl ?_
 refine TL'.nil (tN ?_)
 refine T.ret (Ql ?_)
 refine Xf (Wx 0 (l := ((Qx.dc 256 .u8 (Qx.mk fun _ => 0)) ++ (([.int .i64 (0:Int), .ex (.slice none 0 0), .ex (.slice none 0 0)] : List DC)))) (l' := ((Qx.dc 256 .u8 (Qx.mk fun _ => 0)) ++ (([.int .i64 (0:Int), .sl false 2 (([] : List Zb).map (Zb.dc .i64)), .sl false 4 (([] : List aSt).map Q0)] : List DC)))) rfl (.app _ (.cons (.same _) (.cons (.nil _ _) (.cons (.nil _ _) (.refl _)))))) ?_
 exact Fin.done (.cons _ _ _ _ (.cellAgg 2 28 _ 0 0 28 _ ((Qx.dc 256 .u8 (Qx.mk fun _ => 0)) ++ (([.int .i64 (0:Int), .sl false 2 (([] : List Zb).map (Zb.dc .i64)), .sl false 4 (([] : List aSt).map Q0)] : List DC))) _ _ 259 _ rfl rfl rfl rfl Xe rfl i28) (.cons _ _ _ _ (.tmp 3 _ rfl) .nil)) (by cases h; exact ⟨rfl, rfl⟩)
 refine Qo rfl a ?_
 refine T.skip (tN ?_)
 refine T.seq (Qq ?_)
 refine sp rfl (Ze (i := 1) (l := [.sl false 1 (mI x0.First), .sl false 9 (x0.P.map Zk)]) rfl (dk rfl) ul71 rfl i71 rfl rfl rfl rfl ?_)
 refine sp rfl (OpT.build (l := (([.sl false 1 (mI x0.First), .sl false 9 (x0.P.map Zk), .ex (.slice none 0 0)] : List DC) ++ ((Qx.dc 256 .u8 (Qx.mk fun _ => 0)) ++ (([.int .i64 (0:Int), .ex (.slice none 0 0), .ex (.slice none 0 0), .int .i64 (0:Int)] : List DC))))) rfl (dk rfl) (Zr (pl := [(0, 2), (2, 1), (3, 259), (262, 1)]) Fg i98 rfl) (J6 rfl) rfl rfl ?_)
 refine sp rfl (Zg rfl (dk rfl) rfl (fun j => ?_))
 refine aw rfl ?_
 refine TL'.nil (tN (T.seq (Qq ?_)))
 refine aw rfl ?_
 refine TL'.nil (tN ?_)
 refine T.seq ?_
 refine T.seq (Qq ?_)
 refine aw rfl ?_
 refine TL'.nil (tN ?_)
 refine T.block ?_
 refine T.loop ?_
 refine Qb (Yc 102 4) ?_
 refine Qb (Yc 42 2) ?_
 refine Qb (D9 59 4) ?_
 refine Qb (Yc 3 1) ?_
 refine Qb (Yc 42 2) ?_
 refine Qb (D9 59 4) ?_
 refine Qb ?_ (r1_Of_l0_T K K (0:Int) x0 (Qx.mk fun _ => 0) [] [] (Qx.mk fun _ => 0) [] [] [] [] b f (Mn 44) (Mn 45) j (Mn 46) (Mn 47) (Mn 48) (Mn 43) h)
 exact tr rfl (.c (.s (.s (.s (.s (.s (.s (.s (.s .z)))))))) (.c (.s (.s (.s (.s (.s (.s (.s .z))))))) (.c (.s (.s (.s (.s .z)))) (.c (.s (.s (.s .z))) (.c (.s (.s (.s (.s .z)))) (.c (.s (.s .z)) (.c (.s .z) (.c .z (.c .z (.n _))))))))))
abbrev l4_shown_q (r : Bool) : ES := Jk tp Try.f13 (fun y t => y = (.bool r) ∧ t = [])
theorem l4_shown_T (K : Nat) {r : Bool} (h : Sd K = some r) : Zt tp 13 [] [] (.bool r) := by
 refine Qt Try.func13 rfl (nb rfl) ?_
 show T tp 39 (ca [] Try.f13) ⟨Qv 0 [], []⟩ (l4_shown_q r)
 unfold Sd at h
 refine T.seq (Qq ?_)
 refine aw rfl ?_
 refine TL'.nil (tN (T.seq (Qq ?_)))
 refine sp rfl (Zm (OpT.build (l := [.ex (.slice none 0 0), .ex (.slice none 0 0)]) rfl (dk rfl) (Zr (pl := [(0, 1), (1, 1)]) ul71 i71 rfl) (J6 rfl) rfl rfl rfl) (Zz 6 (l := [.ex (.slice none 0 0), .ex (.slice none 0 0)]) (l' := [.sl false 1 (([] : List Int).map (cI .i64)), .sl false 9 (([] : List Jy).map Zk)]) (.cons (.nil _ _) (.cons (.nil _ _) (.refl _)))) ?_)
 obtain ⟨m, u, h⟩ := bind_some h
 refine sp rfl (Q5 rfl (dk rfl) Try.func26 rfl rfl (Q3.cons rfl Q3.nil) (Zt.nil (r1_Of_T K u)) ?_)
 refine mw rfl ?_
 refine sp rfl (OpT.extract rfl (dk rfl) rfl rfl ?_)
 refine sp rfl (OpT.extract rfl (dk rfl) rfl rfl ?_)
 refine sp rfl (Zi rfl (dk rfl) i28 rfl (fun z => ?_))
 refine sp rfl (Q1 (i := 0) (cells' := ((Qx.oc 256 .u8 m.1.Split.Of) ++ (([.d (.int .i64 m.1.Split.Many), .d (.sl false 2 (mA m.1.Counts)), .d (.sl false 4 (m.1.States.map Q0))]:List OC)))) rfl rfl i28 rfl rfl rfl rfl (nb rfl) rfl ?_)
 refine aw rfl ?_
 refine TL'.nil (tN (T.seq (Qq ?_)))
 refine sp rfl (Ze (i := 0) (l := ((Qx.dc 256 .u8 m.1.Split.Of) ++ (([.int .i64 m.1.Split.Many, .sl false 2 (mA m.1.Counts), .sl false 4 (m.1.States.map Q0)] : List DC)))) rfl (dk rfl) Xe rfl i28 rfl rfl rfl rfl ?_)
 obtain ⟨p, v, h⟩ := bind_some h
 refine sp rfl (Q5 rfl (dk rfl) Try.func10 rfl rfl (Q3.cons rfl Q3.nil) (Zt.nil (tb_Encode_T K v)) ?_)
 refine mw rfl ?_
 refine sp rfl (OpT.extract rfl (dk rfl) rfl rfl ?_)
 refine sp rfl (OpT.extract rfl (dk rfl) rfl rfl ?_)
 refine aw rfl ?_
 refine aw rfl ?_
 refine TL'.nil (tN (T.seq (Qq ?_)))
 refine mw rfl ?_
 refine sp rfl (Qa rfl rfl (dk rfl) rfl rfl ?_)
 refine mw rfl ?_
 rcases Qd h with ⟨g, h⟩ | ⟨g, h⟩
 refine sn rfl g (OpT.move rfl (dk rfl) rfl ?_)
 refine sn rfl g (Qn (xs := p.1) (f := (cI .u8)) rfl (dk rfl) Xg rfl ?_)
 refine sn rfl g (Qa rfl rfl (dk rfl) rfl rfl ?_)
 refine sp rfl (Qi rfl (dk rfl) rfl g rfl ?_)
 refine mw rfl ?_
 rcases Qd h with ⟨a, h⟩ | ⟨a, h⟩
 refine sn rfl a (OpT.move rfl (dk rfl) rfl ?_)
 obtain ⟨q, h⟩ := Zh h
 refine sn rfl a (M0 (xs := p.1) (f := (cI .u8)) (l := 0) (h := (Int.toNat (4:Int))) rfl (dk rfl) Xg i5 rfl (.none _) (.some _ _ _ _ rfl q.1) q.2.1 q.2.2 ?_)
 refine sn rfl a (Ur (xs := ((p.1.take (Int.toNat (4:Int))).drop 0)) rfl (dk rfl) Xg ul5 ul9 rfl ?_)
 refine sn rfl a (Fb rfl (dk rfl) rfl rfl ?_)
 refine sp rfl (Qi rfl (dk rfl) rfl a rfl ?_)
 refine mw rfl ?_
 rcases Qd h with ⟨b, h⟩ | ⟨b, h⟩
 refine sn rfl b (OpT.move rfl (dk rfl) rfl ?_)
 obtain ⟨s, h⟩ := Zh h
 refine sn rfl b (M0 (xs := p.1) (f := (cI .u8)) (l := (Int.toNat (260:Int))) (h := p.1.length) rfl (dk rfl) Xg i5 rfl (.some _ _ _ _ rfl s.1) (.none _) s.2.1 s.2.2 ?_)
 refine sn rfl b (Ur (xs := ((p.1.take p.1.length).drop (Int.toNat (260:Int)))) rfl (dk rfl) Xg ul5 ul9 rfl ?_)
 refine sn rfl b (Fb rfl (dk rfl) rfl rfl ?_)
 refine sp rfl (Qi rfl (dk rfl) rfl b rfl ?_)
 refine mw rfl ?_
 rcases Qd h with ⟨j, h⟩ | ⟨j, h⟩
 refine Y7 Zs ?_
 obtain ⟨w, y, h⟩ := bind_some h
 refine sn rfl j (Q2 (is := [0]) (ph := [.ro 0 []]) rfl (dk rfl) Try.func14 rfl rfl (Q3.nilSl rfl (Q3.cons rfl Q3.nil)) (Qal K (flx0 := false) y) (.cons rfl rfl (.nil)) (fun _ => rfl) (fun aa => ?_))
 refine nm (.c (.c (.n))) ?_
 refine Y7 (Zn.view 35 0 rfl rfl) ?_
 refine sn rfl j (Ur (xs := w) rfl (dk rfl) Xg ul5 ul9 rfl ?_)
 refine sn rfl j (Fb rfl (dk rfl) rfl rfl ?_)
 refine sp rfl (Qi rfl (dk rfl) rfl j rfl ?_)
 refine aw rfl ?_
 refine TL'.nil (tN ?_)
 refine T.ret ?_
 exact Fin.done (.cons _ _ _ _ (.tmp 0 _ rfl) .nil) (by cases h; exact ⟨rfl, rfl⟩)
 refine pf rfl j ?_
 refine pf rfl j ?_
 refine pf rfl j ?_
 refine sp rfl (Qs rfl (dk rfl) rfl j rfl ?_)
 refine aw rfl ?_
 refine TL'.nil (tN ?_)
 refine T.ret ?_
 exact Fin.done (.cons _ _ _ _ (.tmp 0 _ rfl) .nil) (by cases h; exact ⟨rfl, rfl⟩)
 refine pf rfl b ?_
 refine pf rfl b ?_
 refine pf rfl b ?_
 refine pf rfl b ?_
 refine sp rfl (Qs rfl (dk rfl) rfl b rfl ?_)
 refine mw rfl ?_
 refine pf rfl rfl ?_
 refine pf rfl rfl ?_
 refine pf rfl rfl ?_
 refine sp rfl (Qs rfl (dk rfl) rfl rfl rfl ?_)
 refine aw rfl ?_
 refine TL'.nil (tN ?_)
 refine T.ret ?_
 exact Fin.done (.cons _ _ _ _ (.tmp 0 _ rfl) .nil) (by cases h; exact ⟨rfl, rfl⟩)
 refine pf rfl a ?_
 refine pf rfl a ?_
 refine pf rfl a ?_
 refine pf rfl a ?_
 refine sp rfl (Qs rfl (dk rfl) rfl a rfl ?_)
 refine mw rfl ?_
 refine pf rfl rfl ?_
 refine pf rfl rfl ?_
 refine pf rfl rfl ?_
 refine pf rfl rfl ?_
 refine sp rfl (Qs rfl (dk rfl) rfl rfl rfl ?_)
 refine mw rfl ?_
 refine pf rfl rfl ?_
 refine pf rfl rfl ?_
 refine pf rfl rfl ?_
 refine sp rfl (Qs rfl (dk rfl) rfl rfl rfl ?_)
 refine aw rfl ?_
 refine TL'.nil (tN ?_)
 refine T.ret ?_
 exact Fin.done (.cons _ _ _ _ (.tmp 0 _ rfl) .nil) (by cases h; exact ⟨rfl, rfl⟩)
 refine pf rfl g ?_
 refine pf rfl g ?_
 refine pf rfl g ?_
 refine sp rfl (Qs rfl (dk rfl) rfl g rfl ?_)
 refine mw rfl ?_
 refine pf rfl rfl ?_
 refine pf rfl rfl ?_
 refine pf rfl rfl ?_
 refine pf rfl rfl ?_
 refine sp rfl (Qs rfl (dk rfl) rfl rfl rfl ?_)
 refine mw rfl ?_
 refine pf rfl rfl ?_
 refine pf rfl rfl ?_
 refine pf rfl rfl ?_
 refine pf rfl rfl ?_
 refine sp rfl (Qs rfl (dk rfl) rfl rfl rfl ?_)
 refine mw rfl ?_
 refine pf rfl rfl ?_
 refine pf rfl rfl ?_
 refine pf rfl rfl ?_
 refine sp rfl (Qs rfl (dk rfl) rfl rfl rfl ?_)
 refine aw rfl ?_
 refine TL'.nil (tN ?_)
 refine T.ret ?_
 exact Fin.done (.cons _ _ _ _ (.tmp 0 _ rfl) .nil) (by cases h; exact ⟨rfl, rfl⟩)
abbrev Qay (r : Bool) : ES := Jk tp Try.f76 (fun y t => y = (.bool r) ∧ t = [])
abbrev r1_ints_qs111 (r : Bool) : ES := thenS (fun s' => T tp 26 (ca [1,1,1] Try.f76) s' ((Qay r))) ((Qay r))
abbrev Qax (r : Bool) : ES := Qz 0 ((r1_ints_qs111 r))
theorem r1_ints_l0_T {r : Bool} (K : Nat) : ∀ (k : Nat), ∀ (x0 x1 : List Int) (a : Int) (flx0 flx1 : Bool), J9 K k x0 x1 a = some r → TL tp 26 (ca [1,1,0,1,0,0] Try.f76) ⟨[(0, .sl flx0 1 (mI x0)), (1, .sl flx1 1 (mI x1)), (5, .int .i64 a)], []⟩ (Qax r) := by
 intro k
 induction k with
 | zero =>
  intro x0 x1 a flx0 flx1 h
  cases (show (none : Option Bool) = some r from h)
 | succ k ih =>
  intro x0 x1 a flx0 flx1 h
  rw [J9] at h
  refine Q4 ?_
  refine T.seq ?_
  refine T.seq (Qq ?_)
  refine mw rfl ?_
  refine mw rfl ?_
  refine sp rfl (Qn (xs := x0) (f := (cI .i64)) rfl (dk rfl) Yd rfl ?_)
  refine sp rfl (Qa rfl rfl (dk rfl) rfl rfl ?_)
  refine TL'.nil (tN ?_)
  rcases Qd h with ⟨g, h⟩ | ⟨g, h⟩
  refine Qk rfl g ?_
  refine T.skip (tN ?_)
  refine T.seq ?_
  refine T.block ?_
  refine T.seq ?_
  refine X3 ?_
  refine Yr rfl rfl rfl rfl rfl rfl ?_
  refine Yr rfl rfl rfl rfl rfl rfl ?_
  obtain ⟨b, j, h⟩ := bind_some h
  refine dS (c := ⟨some 19, .ref [.int .i64 b], [(17, .sl flx0 1 (mI x0)), (18, .int .i64 a)], [], []⟩) (fun t hm => oF rfl rfl (Qh (xs := x0) (f := (cI .i64)) (v := b) rfl (dk rfl) Yd i3 hm.s0 hm.s1 j rfl)) rfl rfl ?_
  refine dS (c := ⟨some 20, .int .i64 b, [(19, .ref [.int .i64 b])], [], []⟩) (fun t hm => oF rfl rfl (Qr rfl (dk rfl) ul3 rfl hm.s0 rfl rfl)) rfl rfl ?_
  refine Yr rfl rfl rfl rfl rfl rfl ?_
  refine Yr rfl rfl rfl rfl rfl rfl ?_
  obtain ⟨d, l, h⟩ := bind_some h
  refine dS (c := ⟨some 23, .ref [.int .i64 d], [(21, .sl flx1 1 (mI x1)), (22, .int .i64 a)], [], []⟩) (fun t hm => oF rfl rfl (Qh (xs := x1) (f := (cI .i64)) (v := d) rfl (dk rfl) Yd i3 hm.s0 hm.s1 l rfl)) rfl rfl ?_
  refine dS (c := ⟨some 24, .int .i64 d, [(23, .ref [.int .i64 d])], [], []⟩) (fun t hm => oF rfl rfl (Qr rfl (dk rfl) ul3 rfl hm.s0 rfl rfl)) rfl rfl ?_
  refine dS (c := ⟨some 25, .bool (b != d), [(20, .int .i64 b), (24, .int .i64 d)], [], []⟩) (fun t hm => oF rfl rfl (Qa rfl rfl (dk rfl) hm.s0 hm.s1 rfl)) rfl rfl ?_
  refine Y4 (s1 := ⟨[(0, .sl flx0 1 (mI x0)), (1, .sl flx1 1 (mI x1)), (5, .int .i64 a), (25, .bool (b != d))], []⟩) (ms := [0, 0, 3, 7, 0, 0, 48, 112, 255]) Q7 rfl (by kernel_rfl) (by kernel_rfl) (by kernel_rfl) (sf rfl) rfl (fun u hu => (tN (Qc hu ?_)))
  rcases Qd h with ⟨i, h⟩ | ⟨i, h⟩
  refine Qk rfl i ?_
  refine T.seq (Qq ?_)
  refine aw rfl ?_
  refine TL'.nil (tN ?_)
  refine T.ret (Qy (Ql (Ql (Qy (Ql ?_)))))
  exact Fin.done (.cons _ _ _ _ (.tmp 4 _ rfl) .nil) (by cases h; exact ⟨rfl, rfl⟩)
  refine Qo rfl i ?_
  refine T.skip (Qe (tN ?_))
  refine Qq ?_
  refine mw rfl ?_
  refine sp rfl (Qa rfl rfl (dk rfl) rfl rfl ?_)
  refine aw rfl ?_
  refine TL'.nil (tN ?_)
  refine Qb ?_ (ih x0 x1 (wI (a + (1:Int))) flx0 flx1 h)
  exact tq rfl rfl
  refine Qo rfl g ?_
  refine T.exit (Qf (Qf (Qp (tN ?_))))
  refine T.seq (Qq ?_)
  refine aw rfl ?_
  refine TL'.nil (tN ?_)
  refine T.ret ?_
  exact Fin.done (.cons _ _ _ _ (.tmp 4 _ rfl) .nil) (by cases h; exact ⟨rfl, rfl⟩)
theorem Qaz (K : Nat) {x0 x1 : List Int} {flx0 flx1 r : Bool} (h : P3 K x0 x1 = some r) : Zt tp 76 [.sl flx0 1 (mI x0), .sl flx1 1 (mI x1)] [] (.bool r) := by
 refine Qt Try.func76 rfl (nb rfl) ?_
 show T tp 26 (ca [] Try.f76) ⟨Qv 0 [.sl flx0 1 (mI x0), .sl flx1 1 (mI x1)], []⟩ (Qay r)
 unfold P3 at h
 refine T.seq (Qq ?_)
 refine aw rfl ?_
 refine TL'.nil (tN ?_)
 refine T.seq ?_
 refine T.seq (Qq ?_)
 refine mw rfl ?_
 refine sp rfl (Qn (xs := x0) (f := (cI .i64)) rfl (dk rfl) Yd rfl ?_)
 refine mw rfl ?_
 refine sp rfl (Qn (xs := x1) (f := (cI .i64)) rfl (dk rfl) Yd rfl ?_)
 refine sp rfl (Qa rfl rfl (dk rfl) rfl rfl ?_)
 refine TL'.nil (tN ?_)
 rcases Qd h with ⟨a, h⟩ | ⟨a, h⟩
 refine Qk rfl a ?_
 refine T.seq (Qq ?_)
 refine aw rfl ?_
 refine TL'.nil (tN ?_)
 refine T.ret (Ql ?_)
 exact Fin.done (.cons _ _ _ _ (.tmp 4 _ rfl) .nil) (by cases h; exact ⟨rfl, rfl⟩)
 refine Qo rfl a ?_
 refine T.skip (tN ?_)
 refine T.seq ?_
 refine T.seq (Qq ?_)
 refine aw rfl ?_
 refine TL'.nil (tN ?_)
 refine T.block ?_
 refine T.loop ?_
 refine Qb ?_ (r1_ints_l0_T K K x0 x1 (0:Int) flx0 flx1 h)
 exact tq rfl rfl
abbrev r1_sameMove_q (r : Bool) : ES := Jk tp Try.f77 (fun y t => y = (.bool r) ∧ t = [])
theorem r1_sameMove_T (K : Nat) {x0 x1 : aMv} {r : Bool} (h : Bo K x0 x1 = some r) : Zt tp 77 [.agg [.int .i64 x0.To, .sl false 1 (mU x0.Ops)], .agg [.int .i64 x1.To, .sl false 1 (mU x1.Ops)]] [] (.bool r) := by
 refine Qt Try.func77 rfl (nb rfl) ?_
 show T tp 19 (ca [] Try.f77) ⟨Qv 0 [.agg [.int .i64 x0.To, .sl false 1 (mU x0.Ops)], .agg [.int .i64 x1.To, .sl false 1 (mU x1.Ops)]], []⟩ (r1_sameMove_q r)
 unfold Bo at h
 refine T.seq (Qq ?_)
 refine sp rfl (Zg rfl (dk rfl) rfl (fun b => ?_))
 refine sp rfl (Zg rfl (dk rfl) rfl (fun c => ?_))
 refine aw rfl ?_
 refine TL'.nil (tN (T.seq (Qq ?_)))
 refine sp rfl (Qg rfl (dk rfl) Kg rfl i3 (by decide) rfl ?_)
 refine sp rfl (Qm (i := 1) rfl (dk rfl) ul3 rfl rfl rfl rfl ?_)
 refine sp rfl (Qg rfl (dk rfl) Kg rfl i3 (by decide) rfl ?_)
 refine sp rfl (Qm (i := 0) rfl (dk rfl) ul3 rfl rfl rfl rfl ?_)
 refine sp rfl (Qa rfl rfl (dk rfl) rfl rfl ?_)
 refine mw rfl ?_
 rcases Qd h with ⟨a, h⟩ | ⟨a, h⟩
 refine sn rfl a (Qg rfl (dk rfl) Kg rfl i29 (by decide) rfl ?_)
 refine sn rfl a (Qm (i := 1) rfl (dk rfl) Xg rfl rfl rfl rfl ?_)
 refine sn rfl a (Ur (xs := x0.Ops) rfl (dk rfl) Xg ul5 ul9 rfl ?_)
 refine sn rfl a (Qg rfl (dk rfl) Kg rfl i29 (by decide) rfl ?_)
 refine sn rfl a (Qm (i := 0) rfl (dk rfl) Xg rfl rfl rfl rfl ?_)
 refine sn rfl a (Ur (xs := x1.Ops) rfl (dk rfl) Xg ul5 ul9 rfl ?_)
 refine sn rfl a (Fb rfl (dk rfl) rfl rfl ?_)
 refine sp rfl (Qi rfl (dk rfl) rfl a rfl ?_)
 refine aw rfl ?_
 refine TL'.nil (tN ?_)
 refine T.ret ?_
 exact Fin.done (.cons _ _ _ _ (.tmp 4 _ rfl) .nil) (by cases h; exact ⟨rfl, rfl⟩)
 refine pf rfl a ?_
 refine pf rfl a ?_
 refine pf rfl a ?_
 refine pf rfl a ?_
 refine pf rfl a ?_
 refine pf rfl a ?_
 refine pf rfl a ?_
 refine sp rfl (Qs rfl (dk rfl) rfl a rfl ?_)
 refine aw rfl ?_
 refine TL'.nil (tN ?_)
 refine T.ret ?_
 exact Fin.done (.cons _ _ _ _ (.tmp 4 _ rfl) .nil) (by cases h; exact ⟨rfl, rfl⟩)
abbrev Hk (r : Bool) : ES := Jk tp Try.f53 (fun y t => y = (.bool r) ∧ t = [])
abbrev S1 (r : Bool) : ES := thenS (fun s' => T tp 86 (ca [1,1] Try.f53) s' ((Hk r))) ((Hk r))
abbrev R3 (r : Bool) : ES := thenS (fun s' => T tp 86 (ca [1,1,1] Try.f53) s' ((Hk r))) ((Hk r))
abbrev U6 (r : Bool) : ES := Qz 0 ((R3 r))
abbrev Mi (r : Bool) : ES := thenS (fun s' => TL tp 86 (ca [1,1,0,1,0,0] Try.f53) s' ((U6 r))) ((U6 r))
abbrev Eu (r : Bool) : ES := thenS (fun s' => T tp 86 (ca [1,1,0,1,0,0,1,1] Try.f53) s' ((Mi r))) ((Mi r))
abbrev Bn (r : Bool) : ES := Qz 1 ((Eu r))
abbrev Mb (r : Bool) : ES := Qz 2 ((Bn r))
theorem W7 {r : Bool} (K : Nat) (h : Je K = some r) : T tp 86 (ca [1,0,1,0] Try.f53) ⟨[], []⟩ (S1 r) := by
 unfold Je at h
 refine T.seq (Qq ?_)
 refine aw rfl ?_
 refine TL'.nil (tN ?_)
 refine T.ret (Ql ?_)
 exact Fin.done (.cons _ _ _ _ (.tmp 4 _ rfl) .nil) (by cases h; exact ⟨rfl, rfl⟩)
abbrev S4 (r : Bool) (go : Int → aSt → aSt → Option Bool) : Prop := ∀ (a : Int) (x0 x1 : aSt) (b c : Nat), go a x0 x1 = some r → TL tp 86 (ca [1,1,0,1,0,0] Try.f53) ⟨[(2, .ptr b 0), (3, .ptr c 0), (5, .int .i64 a)], [(Zw b x0.L x0.R x0.Rule x0.Next), (Zw c x1.L x1.R x1.Rule x1.Next)]⟩ (U6 r)
theorem S2 {r : Bool} (K : Nat) (go1 : Int → aSt → aSt → Option Bool) (hgo1 : S4 r go1) : ∀ (k : Nat), ∀ (g m : Int) (x0 x1 : aSt) (a b : Nat), Yy K go1 k g m x0 x1 = some r → TL tp 86 (ca [1,1,0,1,0,0,1,0,0,1,1,0,0] Try.f53) ⟨[(2, .ptr a 0), (3, .ptr b 0), (5, .int .i64 g), (6, .int .i64 m)], [(Zw a x0.L x0.R x0.Rule x0.Next), (Zw b x1.L x1.R x1.Rule x1.Next)]⟩ (Mb r) := by
 intro k
 induction k with
 | zero =>
  intro g m x0 x1 a b h
  cases (show (none : Option Bool) = some r from h)
 | succ k ih =>
  intro g m x0 x1 a b h
  rw [Yy] at h
  refine Q4 ?_
  refine T.seq ?_
  refine T.seq (Qq ?_)
  refine mw rfl ?_
  refine sp rfl (Qg rfl (dk rfl) Vm rfl i57 (by decide) rfl ?_)
  refine sp rfl (Qm (i := 0) rfl (dk rfl) B0 rfl rfl rfl rfl ?_)
  refine mw rfl ?_
  obtain ⟨p, aa, h⟩ := bind_some h
  refine sp rfl (Qh (xs := x0.Next) (f := (cL 2 Qu)) (v := p) rfl (dk rfl) B0 i61 rfl rfl aa ?_)
  refine sp rfl (Qr rfl (dk rfl) Fq rfl rfl rfl ?_)
  refine sp rfl (Qn (xs := p) (f := Qu) rfl (dk rfl) Fq rfl ?_)
  refine sp rfl (Qa rfl rfl (dk rfl) rfl rfl ?_)
  refine TL'.nil (tN ?_)
  rcases Qd h with ⟨w, h⟩ | ⟨w, h⟩
  refine Qk rfl w ?_
  refine T.skip (tN ?_)
  refine T.seq ?_
  refine T.block ?_
  refine T.seq ?_
  refine X3 ?_
  refine dS (c := ⟨some 68, .ptr a (0 + 3), [(2, .ptr a 0)], [], []⟩) (fun t hm => oF rfl rfl (Qg rfl (dk rfl) Vm rfl i57 (by decide) hm.s0 rfl)) rfl rfl ?_
  refine dS (c := ⟨some 69, .sl false 1 (x0.Next.map (cL 2 Qu)), [(68, .ptr a (0 + 3))], [(0, (Zw a x0.L x0.R x0.Rule x0.Next))], []⟩) (fun t hm => oF rfl rfl (Qm (i := 0) rfl (dk rfl) B0 rfl hm.s0 hm.o0 rfl rfl)) rfl rfl ?_
  refine Yr rfl rfl rfl rfl rfl rfl ?_
  refine dS (c := ⟨some 71, .ref [.sl false 2 (p.map Qu)], [(69, .sl false 1 (x0.Next.map (cL 2 Qu))), (70, .int .i64 g)], [], []⟩) (fun t hm => oF rfl rfl (Qh (xs := x0.Next) (f := (cL 2 Qu)) (v := p) rfl (dk rfl) B0 i61 hm.s0 hm.s1 aa rfl)) rfl rfl ?_
  refine dS (c := ⟨some 72, .sl false 2 (p.map Qu), [(71, .ref [.sl false 2 (p.map Qu)])], [], []⟩) (fun t hm => oF rfl rfl (Qr rfl (dk rfl) Fq rfl hm.s0 rfl rfl)) rfl rfl ?_
  refine Yr rfl rfl rfl rfl rfl rfl ?_
  obtain ⟨j, ab, h⟩ := bind_some h
  refine dS (c := ⟨some 74, .ref [.int .i64 j.To, .sl false 1 (mU j.Ops)], [(72, .sl false 2 (p.map Qu)), (73, .int .i64 m)], [], []⟩) (fun t hm => oF rfl rfl (Qh (xs := p) (f := Qu) (v := j) rfl (dk rfl) Fq i63 hm.s0 hm.s1 ab rfl)) rfl rfl ?_
  refine dS (c := ⟨some 75, .agg [.int .i64 j.To, .sl false 1 (mU j.Ops)], [(74, .ref [.int .i64 j.To, .sl false 1 (mU j.Ops)])], [], []⟩) (fun t hm => oF rfl rfl (Zj rfl (dk rfl) Kg rfl i63 hm.s0 (nb rfl) rfl)) rfl rfl ?_
  refine dS (c := ⟨some 76, .ptr b (0 + 3), [(3, .ptr b 0)], [], []⟩) (fun t hm => oF rfl rfl (Qg rfl (dk rfl) Vm rfl i57 (by decide) hm.s0 rfl)) rfl rfl ?_
  refine dS (c := ⟨some 77, .sl false 1 (x1.Next.map (cL 2 Qu)), [(76, .ptr b (0 + 3))], [(1, (Zw b x1.L x1.R x1.Rule x1.Next))], []⟩) (fun t hm => oF rfl rfl (Qm (i := 1) rfl (dk rfl) B0 rfl hm.s0 hm.o0 rfl rfl)) rfl rfl ?_
  refine Yr rfl rfl rfl rfl rfl rfl ?_
  obtain ⟨q, ac, h⟩ := bind_some h
  refine dS (c := ⟨some 79, .ref [.sl false 2 (q.map Qu)], [(77, .sl false 1 (x1.Next.map (cL 2 Qu))), (78, .int .i64 g)], [], []⟩) (fun t hm => oF rfl rfl (Qh (xs := x1.Next) (f := (cL 2 Qu)) (v := q) rfl (dk rfl) B0 i61 hm.s0 hm.s1 ac rfl)) rfl rfl ?_
  refine dS (c := ⟨some 80, .sl false 2 (q.map Qu), [(79, .ref [.sl false 2 (q.map Qu)])], [], []⟩) (fun t hm => oF rfl rfl (Qr rfl (dk rfl) Fq rfl hm.s0 rfl rfl)) rfl rfl ?_
  refine Yr rfl rfl rfl rfl rfl rfl ?_
  obtain ⟨l, ad, h⟩ := bind_some h
  refine dS (c := ⟨some 82, .ref [.int .i64 l.To, .sl false 1 (mU l.Ops)], [(80, .sl false 2 (q.map Qu)), (81, .int .i64 m)], [], []⟩) (fun t hm => oF rfl rfl (Qh (xs := q) (f := Qu) (v := l) rfl (dk rfl) Fq i63 hm.s0 hm.s1 ad rfl)) rfl rfl ?_
  refine dS (c := ⟨some 83, .agg [.int .i64 l.To, .sl false 1 (mU l.Ops)], [(82, .ref [.int .i64 l.To, .sl false 1 (mU l.Ops)])], [], []⟩) (fun t hm => oF rfl rfl (Zj rfl (dk rfl) Kg rfl i63 hm.s0 (nb rfl) rfl)) rfl rfl ?_
  obtain ⟨s, af, h⟩ := bind_some h
  refine dS (c := ⟨some 84, .bool s, [(75, .agg [.int .i64 j.To, .sl false 1 (mU j.Ops)]), (83, .agg [.int .i64 l.To, .sl false 1 (mU l.Ops)])], [], []⟩) (fun t hm => oF rfl rfl (Q5 rfl (dk rfl) Try.func77 rfl rfl (Q3.cons hm.s0 (Q3.cons hm.s1 Q3.nil)) (Zt.nil (r1_sameMove_T K af)) rfl)) rfl rfl ?_
  refine dS (c := ⟨some 85, .bool (!s), [(84, .bool s)], [], []⟩) (fun t hm => oF rfl rfl (OpT.not rfl (dk rfl) hm.s0 rfl)) rfl rfl ?_
  refine Y4 (s1 := ⟨[(2, .ptr a 0), (3, .ptr b 0), (5, .int .i64 g), (6, .int .i64 m), (85, .bool (!s))], [(Zw a x0.L x0.R x0.Rule x0.Next), (Zw b x1.L x1.R x1.Rule x1.Next)]⟩) (ms := [0, 1, 0, 7, 15, 0, 63, 127, 0, 256, 0, 1792, 3840, 0, 16128, 32512, 65535, 131071]) Q7 rfl (by kernel_rfl) (by kernel_rfl) (by kernel_rfl) (sf rfl) rfl (fun u hu => (tN (Qc hu ?_)))
  rcases Qd h with ⟨y, h⟩ | ⟨y, h⟩
  refine Qk rfl y ?_
  refine T.seq (Qq ?_)
  refine aw rfl ?_
  refine TL'.nil (tN ?_)
  refine T.ret (Qy (Ql (Ql (Qy (Qy (Ql (Ql (Qy (Ql ?_)))))))))
  exact Fin.done (.cons _ _ _ _ (.tmp 4 _ rfl) .nil) (by cases h; exact ⟨rfl, rfl⟩)
  refine Qo rfl y ?_
  refine T.skip (Qe (tN ?_))
  refine Qq ?_
  refine mw rfl ?_
  refine sp rfl (Qa rfl rfl (dk rfl) rfl rfl ?_)
  refine aw rfl ?_
  refine TL'.nil (tN ?_)
  refine Qb ?_ (ih g (wI (m + (1:Int))) x0 x1 a b h)
  exact tq rfl rfl
  refine Qo rfl w ?_
  refine T.exit (Qf (Qf (Qp (Qe (tN ?_)))))
  refine Qq ?_
  refine mw rfl ?_
  refine sp rfl (Qa rfl rfl (dk rfl) rfl rfl ?_)
  refine aw rfl ?_
  refine TL'.nil (tN ?_)
  refine Qb ?_ (hgo1 (wI (g + (1:Int))) x0 x1 a b h)
  exact tq rfl rfl
theorem S3 {r : Bool} (K : Nat) : ∀ (k : Nat), ∀ (l : Int) (x0 x1 : aSt) (a b : Nat), Yz K k l x0 x1 = some r → TL tp 86 (ca [1,1,0,1,0,0] Try.f53) ⟨[(2, .ptr a 0), (3, .ptr b 0), (5, .int .i64 l)], [(Zw a x0.L x0.R x0.Rule x0.Next), (Zw b x1.L x1.R x1.Rule x1.Next)]⟩ (U6 r) := by
 intro k
 induction k with
 | zero =>
  intro l x0 x1 a b h
  cases (show (none : Option Bool) = some r from h)
 | succ k ih =>
  intro l x0 x1 a b h
  rw [Yz] at h
  refine Q4 ?_
  refine T.seq ?_
  refine T.seq (Qq ?_)
  refine mw rfl ?_
  refine sp rfl (Qg rfl (dk rfl) Vm rfl i57 (by decide) rfl ?_)
  refine sp rfl (Qm (i := 0) rfl (dk rfl) B0 rfl rfl rfl rfl ?_)
  refine sp rfl (Qn (xs := x0.Next) (f := (cL 2 Qu)) rfl (dk rfl) B0 rfl ?_)
  refine sp rfl (Qa rfl rfl (dk rfl) rfl rfl ?_)
  refine TL'.nil (tN ?_)
  rcases Qd h with ⟨m, h⟩ | ⟨m, h⟩
  refine Qk rfl m ?_
  refine T.skip (tN ?_)
  refine T.seq ?_
  refine T.block ?_
  refine T.seq ?_
  refine T.seq ?_
  refine X3 ?_
  refine dS (c := ⟨some 45, .ptr a (0 + 3), [(2, .ptr a 0)], [], []⟩) (fun t hm => oF rfl rfl (Qg rfl (dk rfl) Vm rfl i57 (by decide) hm.s0 rfl)) rfl rfl ?_
  refine dS (c := ⟨some 46, .sl false 1 (x0.Next.map (cL 2 Qu)), [(45, .ptr a (0 + 3))], [(0, (Zw a x0.L x0.R x0.Rule x0.Next))], []⟩) (fun t hm => oF rfl rfl (Qm (i := 0) rfl (dk rfl) B0 rfl hm.s0 hm.o0 rfl rfl)) rfl rfl ?_
  refine Yr rfl rfl rfl rfl rfl rfl ?_
  obtain ⟨g, q, h⟩ := bind_some h
  refine dS (c := ⟨some 48, .ref [.sl false 2 (g.map Qu)], [(46, .sl false 1 (x0.Next.map (cL 2 Qu))), (47, .int .i64 l)], [], []⟩) (fun t hm => oF rfl rfl (Qh (xs := x0.Next) (f := (cL 2 Qu)) (v := g) rfl (dk rfl) B0 i61 hm.s0 hm.s1 q rfl)) rfl rfl ?_
  refine dS (c := ⟨some 49, .sl false 2 (g.map Qu), [(48, .ref [.sl false 2 (g.map Qu)])], [], []⟩) (fun t hm => oF rfl rfl (Qr rfl (dk rfl) Fq rfl hm.s0 rfl rfl)) rfl rfl ?_
  refine dS (c := ⟨some 50, .int .i64 (g.length : Int), [(49, .sl false 2 (g.map Qu))], [], []⟩) (fun t hm => oF rfl rfl (Qn (xs := g) (f := Qu) rfl (dk rfl) Fq hm.s0 rfl)) rfl rfl ?_
  refine dS (c := ⟨some 51, .ptr b (0 + 3), [(3, .ptr b 0)], [], []⟩) (fun t hm => oF rfl rfl (Qg rfl (dk rfl) Vm rfl i57 (by decide) hm.s0 rfl)) rfl rfl ?_
  refine dS (c := ⟨some 52, .sl false 1 (x1.Next.map (cL 2 Qu)), [(51, .ptr b (0 + 3))], [(1, (Zw b x1.L x1.R x1.Rule x1.Next))], []⟩) (fun t hm => oF rfl rfl (Qm (i := 1) rfl (dk rfl) B0 rfl hm.s0 hm.o0 rfl rfl)) rfl rfl ?_
  refine Yr rfl rfl rfl rfl rfl rfl ?_
  obtain ⟨j, s, h⟩ := bind_some h
  refine dS (c := ⟨some 54, .ref [.sl false 2 (j.map Qu)], [(52, .sl false 1 (x1.Next.map (cL 2 Qu))), (53, .int .i64 l)], [], []⟩) (fun t hm => oF rfl rfl (Qh (xs := x1.Next) (f := (cL 2 Qu)) (v := j) rfl (dk rfl) B0 i61 hm.s0 hm.s1 s rfl)) rfl rfl ?_
  refine dS (c := ⟨some 55, .sl false 2 (j.map Qu), [(54, .ref [.sl false 2 (j.map Qu)])], [], []⟩) (fun t hm => oF rfl rfl (Qr rfl (dk rfl) Fq rfl hm.s0 rfl rfl)) rfl rfl ?_
  refine dS (c := ⟨some 56, .int .i64 (j.length : Int), [(55, .sl false 2 (j.map Qu))], [], []⟩) (fun t hm => oF rfl rfl (Qn (xs := j) (f := Qu) rfl (dk rfl) Fq hm.s0 rfl)) rfl rfl ?_
  refine dS (c := ⟨some 57, .bool ((g.length : Int) != (j.length : Int)), [(50, .int .i64 (g.length : Int)), (56, .int .i64 (j.length : Int))], [], []⟩) (fun t hm => oF rfl rfl (Qa rfl rfl (dk rfl) hm.s0 hm.s1 rfl)) rfl rfl ?_
  refine Y4 (s1 := ⟨[(2, .ptr a 0), (3, .ptr b 0), (5, .int .i64 l), (57, .bool ((g.length : Int) != (j.length : Int)))], [(Zw a x0.L x0.R x0.Rule x0.Next), (Zw b x1.L x1.R x1.Rule x1.Next)]⟩) (ms := [0, 1, 0, 7, 15, 31, 0, 64, 0, 448, 960, 1984, 4095]) Q7 rfl (by kernel_rfl) (by kernel_rfl) (by kernel_rfl) (sf rfl) rfl (fun u hu => (tN (Qc hu ?_)))
  rcases Qd h with ⟨p, h⟩ | ⟨p, h⟩
  refine Qk rfl p ?_
  refine T.seq (Qq ?_)
  refine aw rfl ?_
  refine TL'.nil (tN ?_)
  refine T.ret (Ql (Qy (Ql (Ql (Qy (Ql ?_))))))
  exact Fin.done (.cons _ _ _ _ (.tmp 4 _ rfl) .nil) (by cases h; exact ⟨rfl, rfl⟩)
  refine Qo rfl p ?_
  refine T.skip (tN ?_)
  refine T.seq (Qq ?_)
  refine aw rfl ?_
  refine TL'.nil (tN ?_)
  refine T.block ?_
  refine T.loop ?_
  refine Qb ?_ (S2 K (Yz K k) ih K l (0:Int) x0 x1 a b h)
  exact tq rfl rfl
  refine Qo rfl m ?_
  refine T.exit (Qf (Qf (Qp (tN ?_))))
  refine T.seq (Qq ?_)
  refine aw rfl ?_
  refine TL'.nil (tN ?_)
  refine T.ret ?_
  exact Fin.done (.cons _ _ _ _ (.tmp 4 _ rfl) .nil) (by cases h; exact ⟨rfl, rfl⟩)
theorem r1_sameState_T (K : Nat) {x0 x1 : aSt} {r : Bool} (h : Kr K x0 x1 = some r) : Zt tp 53 [.agg [.sl false 1 (mI x0.L), .sl false 1 (mI x0.R), .sl false 1 (mI x0.Rule), .sl false 1 (x0.Next.map (cL 2 Qu))], .agg [.sl false 1 (mI x1.L), .sl false 1 (mI x1.R), .sl false 1 (mI x1.Rule), .sl false 1 (x1.Next.map (cL 2 Qu))]] [] (.bool r) := by
 refine Qt Try.func53 rfl (nb rfl) ?_
 show T tp 86 (ca [] Try.f53) ⟨Qv 0 [.agg [.sl false 1 (mI x0.L), .sl false 1 (mI x0.R), .sl false 1 (mI x0.Rule), .sl false 1 (x0.Next.map (cL 2 Qu))], .agg [.sl false 1 (mI x1.L), .sl false 1 (mI x1.R), .sl false 1 (mI x1.Rule), .sl false 1 (x1.Next.map (cL 2 Qu))]], []⟩ (Hk r)
 unfold Kr at h
 refine T.seq (Qq ?_)
 refine sp rfl (Zg rfl (dk rfl) rfl (fun j => ?_))
 refine sp rfl (Zg rfl (dk rfl) rfl (fun l => ?_))
 refine aw rfl ?_
 refine TL'.nil (tN ?_)
 refine T.seq ?_
 refine T.seq (Qq ?_)
 refine sp rfl (Qg rfl (dk rfl) Vm rfl i56 (by decide) rfl ?_)
 refine sp rfl (Qm (i := 1) rfl (dk rfl) Yd rfl rfl rfl rfl ?_)
 refine sp rfl (Qg rfl (dk rfl) Vm rfl i56 (by decide) rfl ?_)
 refine sp rfl (Qm (i := 0) rfl (dk rfl) Yd rfl rfl rfl rfl ?_)
 obtain ⟨u, m, h⟩ := bind_some h
 refine sp rfl (Q5 rfl (dk rfl) Try.func76 rfl rfl (Q3.cons rfl (Q3.cons rfl Q3.nil)) (Zt.nil (Qaz K (flx0 := false) (flx1 := false) m)) ?_)
 refine sp rfl (OpT.not rfl (dk rfl) rfl ?_)
 refine mw rfl ?_
 rcases Qd h with ⟨b, h⟩ | ⟨b, h⟩
 refine pf rfl b ?_
 refine pf rfl b ?_
 refine pf rfl b ?_
 refine pf rfl b ?_
 refine pf rfl b ?_
 refine pf rfl b ?_
 refine sp rfl (Qi rfl (dk rfl) rfl b rfl ?_)
 refine mw rfl ?_
 refine pf rfl rfl ?_
 refine pf rfl rfl ?_
 refine pf rfl rfl ?_
 refine pf rfl rfl ?_
 refine pf rfl rfl ?_
 refine pf rfl rfl ?_
 refine sp rfl (Qi rfl (dk rfl) rfl rfl rfl ?_)
 refine mw rfl ?_
 refine pf rfl rfl ?_
 refine pf rfl rfl ?_
 refine pf rfl rfl ?_
 refine pf rfl rfl ?_
 refine pf rfl rfl ?_
 refine pf rfl rfl ?_
 refine pf rfl rfl ?_
 refine sp rfl (Qi rfl (dk rfl) rfl rfl rfl ?_)
 refine TL'.nil (tN ?_)
 refine Qk rfl rfl ?_
 refine Qc ?_ (W7 K h)
 exact tq rfl rfl
 refine sn rfl b (Qg rfl (dk rfl) Vm rfl i56 (by decide) rfl ?_)
 refine sn rfl b (Qm (i := 1) rfl (dk rfl) Yd rfl rfl rfl rfl ?_)
 refine sn rfl b (Qg rfl (dk rfl) Vm rfl i56 (by decide) rfl ?_)
 refine sn rfl b (Qm (i := 0) rfl (dk rfl) Yd rfl rfl rfl rfl ?_)
 obtain ⟨v, p, h⟩ := bind_some h
 refine sn rfl b (Q5 rfl (dk rfl) Try.func76 rfl rfl (Q3.cons rfl (Q3.cons rfl Q3.nil)) (Zt.nil (Qaz K (flx0 := false) (flx1 := false) p)) ?_)
 refine sn rfl b (OpT.not rfl (dk rfl) rfl ?_)
 refine sp rfl (Qs rfl (dk rfl) rfl b rfl ?_)
 refine mw rfl ?_
 rcases Qd h with ⟨d, h⟩ | ⟨d, h⟩
 refine pf rfl d ?_
 refine pf rfl d ?_
 refine pf rfl d ?_
 refine pf rfl d ?_
 refine pf rfl d ?_
 refine pf rfl d ?_
 refine sp rfl (Qi rfl (dk rfl) rfl d rfl ?_)
 refine mw rfl ?_
 refine pf rfl rfl ?_
 refine pf rfl rfl ?_
 refine pf rfl rfl ?_
 refine pf rfl rfl ?_
 refine pf rfl rfl ?_
 refine pf rfl rfl ?_
 refine pf rfl rfl ?_
 refine sp rfl (Qi rfl (dk rfl) rfl rfl rfl ?_)
 refine TL'.nil (tN ?_)
 refine Qk rfl rfl ?_
 refine Qc ?_ (W7 K h)
 exact tq rfl rfl
 refine sn rfl d (Qg rfl (dk rfl) Vm rfl i56 (by decide) rfl ?_)
 refine sn rfl d (Qm (i := 1) rfl (dk rfl) Yd rfl rfl rfl rfl ?_)
 refine sn rfl d (Qg rfl (dk rfl) Vm rfl i56 (by decide) rfl ?_)
 refine sn rfl d (Qm (i := 0) rfl (dk rfl) Yd rfl rfl rfl rfl ?_)
 obtain ⟨w, q, h⟩ := bind_some h
 refine sn rfl d (Q5 rfl (dk rfl) Try.func76 rfl rfl (Q3.cons rfl (Q3.cons rfl Q3.nil)) (Zt.nil (Qaz K (flx0 := false) (flx1 := false) q)) ?_)
 refine sn rfl d (OpT.not rfl (dk rfl) rfl ?_)
 refine sp rfl (Qs rfl (dk rfl) rfl d rfl ?_)
 refine mw rfl ?_
 rcases Qd h with ⟨a, h⟩ | ⟨a, h⟩
 refine pf rfl a ?_
 refine pf rfl a ?_
 refine pf rfl a ?_
 refine pf rfl a ?_
 refine pf rfl a ?_
 refine pf rfl a ?_
 refine pf rfl a ?_
 refine sp rfl (Qi rfl (dk rfl) rfl a rfl ?_)
 refine TL'.nil (tN ?_)
 refine Qk rfl rfl ?_
 refine Qc ?_ (W7 K h)
 exact tq rfl rfl
 refine sn rfl a (Qg rfl (dk rfl) Vm rfl i57 (by decide) rfl ?_)
 refine sn rfl a (Qm (i := 1) rfl (dk rfl) B0 rfl rfl rfl rfl ?_)
 refine sn rfl a (Qn (xs := x0.Next) (f := (cL 2 Qu)) rfl (dk rfl) B0 rfl ?_)
 refine sn rfl a (Qg rfl (dk rfl) Vm rfl i57 (by decide) rfl ?_)
 refine sn rfl a (Qm (i := 0) rfl (dk rfl) B0 rfl rfl rfl rfl ?_)
 refine sn rfl a (Qn (xs := x1.Next) (f := (cL 2 Qu)) rfl (dk rfl) B0 rfl ?_)
 refine sn rfl a (Qa rfl rfl (dk rfl) rfl rfl ?_)
 refine sp rfl (Qs rfl (dk rfl) rfl a rfl ?_)
 refine TL'.nil (tN ?_)
 rcases Qd h with ⟨g, h⟩ | ⟨g, h⟩
 refine Qk rfl g ?_
 refine Qc ?_ (W7 K h)
 exact tq rfl rfl
 refine Qo rfl g ?_
 refine T.skip (tN ?_)
 refine T.seq ?_
 refine T.seq (Qq ?_)
 refine aw rfl ?_
 refine TL'.nil (tN ?_)
 refine T.block ?_
 refine T.loop ?_
 refine Qb ?_ (S3 K K (0:Int) x0 x1 j l h)
 exact tr rfl (.c (.s .z) (.c .z (.n _)))
abbrev Ws (r : Bool) : ES := Jk tp Try.f28 (fun y t => y = (.bool r) ∧ t = [])
abbrev R7 (r : Bool) : ES := thenS (fun s' => T tp 48 (ca [1,1] Try.f28) s' ((Ws r))) ((Ws r))
abbrev P5 (r : Bool) : ES := thenS (fun s' => T tp 48 (ca [1,1,1] Try.f28) s' ((Ws r))) ((Ws r))
abbrev Nd (r : Bool) : ES := Qz 0 ((P5 r))
theorem G2 {r : Bool} (K : Nat) (h : J4 K = some r) : T tp 48 (ca [1,0,1,0] Try.f28) ⟨[], []⟩ (R7 r) := by
 unfold J4 at h
 refine T.seq (Qq ?_)
 refine aw rfl ?_
 refine TL'.nil (tN ?_)
 refine T.ret (Ql ?_)
 exact Fin.done (.cons _ _ _ _ (.tmp 4 _ rfl) .nil) (by cases h; exact ⟨rfl, rfl⟩)
theorem R8 {r : Bool} (K : Nat) : ∀ (k : Nat), ∀ (l : Int) (x0 x1 : aAu) (g j : Nat), Y1 K k l x0 x1 = some r → TL tp 48 (ca [1,1,0,1,0,0] Try.f28) ⟨[(2, .ptr g 0), (3, .ptr j 0), (5, .int .i64 l)], [(Xo g x0.Split.Of x0.Split.Many x0.Counts x0.States), (Xo j x1.Split.Of x1.Split.Many x1.Counts x1.States)]⟩ (Nd r) := by
 intro k
 induction k with
 | zero =>
  intro l x0 x1 g j h
  cases (show (none : Option Bool) = some r from h)
 | succ k ih =>
  intro l x0 x1 g j h
  rw [Y1] at h
  refine Q4 ?_
  refine T.seq ?_
  refine T.seq (Qq ?_)
  refine mw rfl ?_
  refine sp rfl (Qg rfl (dk rfl) Xe rfl i26 (by decide) rfl ?_)
  refine sp rfl (Qm (i := 0) rfl (dk rfl) X5 rfl rfl rfl rfl ?_)
  refine sp rfl (Qn (xs := x0.States) (f := Q0) rfl (dk rfl) X5 rfl ?_)
  refine sp rfl (Qa rfl rfl (dk rfl) rfl rfl ?_)
  refine TL'.nil (tN ?_)
  rcases Qd h with ⟨p, h⟩ | ⟨p, h⟩
  refine Qk rfl p ?_
  refine T.skip (tN ?_)
  refine T.seq ?_
  refine T.block ?_
  refine T.seq ?_
  refine X3 ?_
  refine dS (c := ⟨some 36, .ptr g (0 + 258), [(2, .ptr g 0)], [], []⟩) (fun t hm => oF rfl rfl (Qg rfl (dk rfl) Xe rfl i26 (by decide) hm.s0 rfl)) rfl rfl ?_
  refine dS (c := ⟨some 37, .sl false 4 (x0.States.map Q0), [(36, .ptr g (0 + 258))], [(0, (Xo g x0.Split.Of x0.Split.Many x0.Counts x0.States))], []⟩) (fun t hm => oF rfl rfl (Qm (i := 0) rfl (dk rfl) X5 rfl hm.s0 hm.o0 rfl rfl)) rfl rfl ?_
  refine Yr rfl rfl rfl rfl rfl rfl ?_
  obtain ⟨a, s, h⟩ := bind_some h
  refine dS (c := ⟨some 39, .ref [.sl false 1 (mI a.L), .sl false 1 (mI a.R), .sl false 1 (mI a.Rule), .sl false 1 (a.Next.map (cL 2 Qu))], [(37, .sl false 4 (x0.States.map Q0)), (38, .int .i64 l)], [], []⟩) (fun t hm => oF rfl rfl (Qh (xs := x0.States) (f := Q0) (v := a) rfl (dk rfl) X5 i59 hm.s0 hm.s1 s rfl)) rfl rfl ?_
  refine dS (c := ⟨some 40, .agg [.sl false 1 (mI a.L), .sl false 1 (mI a.R), .sl false 1 (mI a.Rule), .sl false 1 (a.Next.map (cL 2 Qu))], [(39, .ref [.sl false 1 (mI a.L), .sl false 1 (mI a.R), .sl false 1 (mI a.Rule), .sl false 1 (a.Next.map (cL 2 Qu))])], [], []⟩) (fun t hm => oF rfl rfl (Zj rfl (dk rfl) Vm rfl i59 hm.s0 (nb rfl) rfl)) rfl rfl ?_
  refine dS (c := ⟨some 41, .ptr j (0 + 258), [(3, .ptr j 0)], [], []⟩) (fun t hm => oF rfl rfl (Qg rfl (dk rfl) Xe rfl i26 (by decide) hm.s0 rfl)) rfl rfl ?_
  refine dS (c := ⟨some 42, .sl false 4 (x1.States.map Q0), [(41, .ptr j (0 + 258))], [(1, (Xo j x1.Split.Of x1.Split.Many x1.Counts x1.States))], []⟩) (fun t hm => oF rfl rfl (Qm (i := 1) rfl (dk rfl) X5 rfl hm.s0 hm.o0 rfl rfl)) rfl rfl ?_
  refine Yr rfl rfl rfl rfl rfl rfl ?_
  obtain ⟨b, w, h⟩ := bind_some h
  refine dS (c := ⟨some 44, .ref [.sl false 1 (mI b.L), .sl false 1 (mI b.R), .sl false 1 (mI b.Rule), .sl false 1 (b.Next.map (cL 2 Qu))], [(42, .sl false 4 (x1.States.map Q0)), (43, .int .i64 l)], [], []⟩) (fun t hm => oF rfl rfl (Qh (xs := x1.States) (f := Q0) (v := b) rfl (dk rfl) X5 i59 hm.s0 hm.s1 w rfl)) rfl rfl ?_
  refine dS (c := ⟨some 45, .agg [.sl false 1 (mI b.L), .sl false 1 (mI b.R), .sl false 1 (mI b.Rule), .sl false 1 (b.Next.map (cL 2 Qu))], [(44, .ref [.sl false 1 (mI b.L), .sl false 1 (mI b.R), .sl false 1 (mI b.Rule), .sl false 1 (b.Next.map (cL 2 Qu))])], [], []⟩) (fun t hm => oF rfl rfl (Zj rfl (dk rfl) Vm rfl i59 hm.s0 (nb rfl) rfl)) rfl rfl ?_
  obtain ⟨m, y, h⟩ := bind_some h
  refine dS (c := ⟨some 46, .bool m, [(40, .agg [.sl false 1 (mI a.L), .sl false 1 (mI a.R), .sl false 1 (mI a.Rule), .sl false 1 (a.Next.map (cL 2 Qu))]), (45, .agg [.sl false 1 (mI b.L), .sl false 1 (mI b.R), .sl false 1 (mI b.Rule), .sl false 1 (b.Next.map (cL 2 Qu))])], [], []⟩) (fun t hm => oF rfl rfl (Q5 rfl (dk rfl) Try.func53 rfl rfl (Q3.cons hm.s0 (Q3.cons hm.s1 Q3.nil)) (Zt.nil (r1_sameState_T K y)) rfl)) rfl rfl ?_
  refine dS (c := ⟨some 47, .bool (!m), [(46, .bool m)], [], []⟩) (fun t hm => oF rfl rfl (OpT.not rfl (dk rfl) hm.s0 rfl)) rfl rfl ?_
  refine Y4 (s1 := ⟨[(2, .ptr g 0), (3, .ptr j 0), (5, .int .i64 l), (47, .bool (!m))], [(Xo g x0.Split.Of x0.Split.Many x0.Counts x0.States), (Xo j x1.Split.Of x1.Split.Many x1.Counts x1.States)]⟩) (ms := [0, 1, 0, 7, 15, 0, 32, 0, 224, 480, 1023, 2047]) Q7 rfl (by kernel_rfl) (by kernel_rfl) (by kernel_rfl) (sf rfl) rfl (fun u hu => (tN (Qc hu ?_)))
  rcases Qd h with ⟨q, h⟩ | ⟨q, h⟩
  refine Qk rfl q ?_
  refine T.seq (Qq ?_)
  refine aw rfl ?_
  refine TL'.nil (tN ?_)
  refine T.ret (Qy (Ql (Ql (Qy (Ql ?_)))))
  exact Fin.done (.cons _ _ _ _ (.tmp 4 _ rfl) .nil) (by cases h; exact ⟨rfl, rfl⟩)
  refine Qo rfl q ?_
  refine T.skip (Qe (tN ?_))
  refine Qq ?_
  refine mw rfl ?_
  refine sp rfl (Qa rfl rfl (dk rfl) rfl rfl ?_)
  refine aw rfl ?_
  refine TL'.nil (tN ?_)
  refine Qb ?_ (ih (wI (l + (1:Int))) x0 x1 g j h)
  exact tq rfl rfl
  refine Qo rfl p ?_
  refine T.exit (Qf (Qf (Qp (tN ?_))))
  refine T.seq (Qq ?_)
  refine aw rfl ?_
  refine TL'.nil (tN ?_)
  refine T.ret ?_
  exact Fin.done (.cons _ _ _ _ (.tmp 4 _ rfl) .nil) (by cases h; exact ⟨rfl, rfl⟩)
theorem Qa2 (K : Nat) {x0 x1 : aAu} {r : Bool} (h : G3 K x0 x1 = some r) : Zt tp 28 [.agg ((Qx.dc 256 .u8 x0.Split.Of) ++ (([.int .i64 x0.Split.Many, .sl false 2 (mA x0.Counts), .sl false 4 (x0.States.map Q0)] : List DC))), .agg ((Qx.dc 256 .u8 x1.Split.Of) ++ (([.int .i64 x1.Split.Many, .sl false 2 (mA x1.Counts), .sl false 4 (x1.States.map Q0)] : List DC)))] [] (.bool r) := by
 refine Qt Try.func28 rfl (nb rfl) ?_
 show T tp 48 (ca [] Try.f28) ⟨Qv 0 [.agg ((Qx.dc 256 .u8 x0.Split.Of) ++ (([.int .i64 x0.Split.Many, .sl false 2 (mA x0.Counts), .sl false 4 (x0.States.map Q0)] : List DC))), .agg ((Qx.dc 256 .u8 x1.Split.Of) ++ (([.int .i64 x1.Split.Many, .sl false 2 (mA x1.Counts), .sl false 4 (x1.States.map Q0)] : List DC)))], []⟩ (Ws r)
 unfold G3 at h
 refine T.seq (Qq ?_)
 refine sp rfl (Zg rfl (dk rfl) rfl (fun g => ?_))
 refine sp rfl (Zg rfl (dk rfl) rfl (fun j => ?_))
 refine aw rfl ?_
 refine TL'.nil (tN ?_)
 refine T.seq ?_
 refine T.seq (Qq ?_)
 refine sp rfl (Qg rfl (dk rfl) Xe rfl i24 (by decide) rfl ?_)
 refine sp rfl (Ze (i := 1) (l := ((Qx.dc 256 .u8 x0.Split.Of) ++ (([.int .i64 x0.Split.Many] : List DC)))) rfl (dk rfl) Ig rfl i24 rfl rfl rfl rfl ?_)
 refine sp rfl (Qg rfl (dk rfl) Xe rfl i24 (by decide) rfl ?_)
 refine sp rfl (Ze (i := 0) (l := ((Qx.dc 256 .u8 x1.Split.Of) ++ (([.int .i64 x1.Split.Many] : List DC)))) rfl (dk rfl) Ig rfl i24 rfl rfl rfl rfl ?_)
 refine sp rfl (OpT.segsNeq (ms := [256, 1]) (us := [(.u8, Qx.list 256 x0.Split.Of), (.i64, [x0.Split.Many])]) (ys := [(.u8, Qx.list 256 x1.Split.Of), (.i64, [x1.Split.Many])]) rfl (dk rfl) Ig Try.stoodInHeld24 (by kernel_rfl) Try.eqGuardType24 rfl rfl (.arr (.one (.nil))) (.arr (.one (.nil))) (by simp [Qx.list]) (by simp [Qx.list]) rfl rfl ?_)
 refine mw rfl ?_
 rcases Qd h with ⟨a, h⟩ | ⟨a, h⟩
 refine pf rfl a ?_
 refine pf rfl a ?_
 refine pf rfl a ?_
 refine pf rfl a ?_
 refine pf rfl a ?_
 refine pf rfl a ?_
 refine pf rfl a ?_
 refine sp rfl (Qi rfl (dk rfl) rfl a rfl ?_)
 refine mw rfl ?_
 refine pf rfl rfl ?_
 refine pf rfl rfl ?_
 refine pf rfl rfl ?_
 refine pf rfl rfl ?_
 refine pf rfl rfl ?_
 refine pf rfl rfl ?_
 refine pf rfl rfl ?_
 refine sp rfl (Qi rfl (dk rfl) rfl rfl rfl ?_)
 refine TL'.nil (tN ?_)
 refine Qk rfl rfl ?_
 refine Qc ?_ (G2 K h)
 exact tq rfl rfl
 refine sn rfl a (Qg rfl (dk rfl) Xe rfl i26 (by decide) rfl ?_)
 refine sn rfl a (Qm (i := 1) rfl (dk rfl) X5 rfl rfl rfl rfl ?_)
 refine sn rfl a (Qn (xs := x0.States) (f := Q0) rfl (dk rfl) X5 rfl ?_)
 refine sn rfl a (Qg rfl (dk rfl) Xe rfl i26 (by decide) rfl ?_)
 refine sn rfl a (Qm (i := 0) rfl (dk rfl) X5 rfl rfl rfl rfl ?_)
 refine sn rfl a (Qn (xs := x1.States) (f := Q0) rfl (dk rfl) X5 rfl ?_)
 refine sn rfl a (Qa rfl rfl (dk rfl) rfl rfl ?_)
 refine sp rfl (Qs rfl (dk rfl) rfl a rfl ?_)
 refine mw rfl ?_
 rcases Qd h with ⟨b, h⟩ | ⟨b, h⟩
 refine pf rfl b ?_
 refine pf rfl b ?_
 refine pf rfl b ?_
 refine pf rfl b ?_
 refine pf rfl b ?_
 refine pf rfl b ?_
 refine pf rfl b ?_
 refine sp rfl (Qi rfl (dk rfl) rfl b rfl ?_)
 refine TL'.nil (tN ?_)
 refine Qk rfl rfl ?_
 refine Qc ?_ (G2 K h)
 exact tq rfl rfl
 refine sn rfl b (Qg rfl (dk rfl) Xe rfl i25 (by decide) rfl ?_)
 refine sn rfl b (Qm (i := 1) rfl (dk rfl) Mq rfl rfl rfl rfl ?_)
 refine sn rfl b (Qn (xs := x0.Counts) (f := (Zb.dc .i64)) rfl (dk rfl) Mq rfl ?_)
 refine sn rfl b (Qg rfl (dk rfl) Xe rfl i25 (by decide) rfl ?_)
 refine sn rfl b (Qm (i := 0) rfl (dk rfl) Mq rfl rfl rfl rfl ?_)
 refine sn rfl b (Qn (xs := x1.Counts) (f := (Zb.dc .i64)) rfl (dk rfl) Mq rfl ?_)
 refine sn rfl b (Qa rfl rfl (dk rfl) rfl rfl ?_)
 refine sp rfl (Qs rfl (dk rfl) rfl b rfl ?_)
 refine TL'.nil (tN ?_)
 rcases Qd h with ⟨d, h⟩ | ⟨d, h⟩
 refine Qk rfl d ?_
 refine Qc ?_ (G2 K h)
 exact tq rfl rfl
 refine Qo rfl d ?_
 refine T.skip (tN ?_)
 refine T.seq ?_
 refine T.seq (Qq ?_)
 refine aw rfl ?_
 refine TL'.nil (tN ?_)
 refine T.block ?_
 refine T.loop ?_
 refine Qb ?_ (R8 K K (0:Int) x0 x1 g j h)
 exact tr rfl (.c (.s .z) (.c .z (.n _)))
abbrev Qa1 (r : Bool) : ES := Jk tp Try.f16 (fun y t => y = (.bool r) ∧ t = [])
abbrev r1_Same_qs111 (r : Bool) : ES := thenS (fun s' => T tp 28 (ca [1,1,1] Try.f16) s' ((Qa1 r))) ((Qa1 r))
abbrev Qa0 (r : Bool) : ES := Qz 0 ((r1_Same_qs111 r))
theorem r1_Same_l0_T {r : Bool} (K : Nat) : ∀ (k : Nat), ∀ (l : Int) (x0 x1 : aAu) (g j : Nat), Wa K k l x0 x1 = some r → TL tp 28 (ca [1,1,0,1,0,0] Try.f16) ⟨[(2, .ptr g 0), (3, .ptr j 0), (5, .int .i64 l)], [(Xo g x0.Split.Of x0.Split.Many x0.Counts x0.States), (Xo j x1.Split.Of x1.Split.Many x1.Counts x1.States)]⟩ (Qa0 r) := by
 intro k
 induction k with
 | zero =>
  intro l x0 x1 g j h
  cases (show (none : Option Bool) = some r from h)
 | succ k ih =>
  intro l x0 x1 g j h
  rw [Wa] at h
  refine Q4 ?_
  refine T.seq ?_
  refine T.seq (Qq ?_)
  refine mw rfl ?_
  refine sp rfl (Qg rfl (dk rfl) Xe rfl i25 (by decide) rfl ?_)
  refine sp rfl (Qm (i := 0) rfl (dk rfl) Mq rfl rfl rfl rfl ?_)
  refine sp rfl (Qn (xs := x0.Counts) (f := (Zb.dc .i64)) rfl (dk rfl) Mq rfl ?_)
  refine sp rfl (Qa rfl rfl (dk rfl) rfl rfl ?_)
  refine TL'.nil (tN ?_)
  rcases Qd h with ⟨m, h⟩ | ⟨m, h⟩
  refine Qk rfl m ?_
  refine T.skip (tN ?_)
  refine T.seq ?_
  refine T.block ?_
  refine T.seq ?_
  refine X3 ?_
  refine dS (c := ⟨some 17, .ptr g (0 + 257), [(2, .ptr g 0)], [], []⟩) (fun t hm => oF rfl rfl (Qg rfl (dk rfl) Xe rfl i25 (by decide) hm.s0 rfl)) rfl rfl ?_
  refine dS (c := ⟨some 18, .sl false 2 (mA x0.Counts), [(17, .ptr g (0 + 257))], [(0, (Xo g x0.Split.Of x0.Split.Many x0.Counts x0.States))], []⟩) (fun t hm => oF rfl rfl (Qm (i := 0) rfl (dk rfl) Mq rfl hm.s0 hm.o0 rfl rfl)) rfl rfl ?_
  refine Yr rfl rfl rfl rfl rfl rfl ?_
  obtain ⟨a, q, h⟩ := bind_some h
  refine dS (c := ⟨some 20, .ref [.int .i64 a.a0, .int .i64 a.a1], [(18, .sl false 2 (mA x0.Counts)), (19, .int .i64 l)], [], []⟩) (fun t hm => oF rfl rfl (Qh (xs := x0.Counts) (f := (Zb.dc .i64)) (v := a) rfl (dk rfl) Mq i42 hm.s0 hm.s1 q rfl)) rfl rfl ?_
  refine dS (c := ⟨some 21, .agg (Zb.dc .i64 a), [(20, .ref [.int .i64 a.a0, .int .i64 a.a1])], [], []⟩) (fun t hm => oF rfl rfl (Zj rfl (dk rfl) ul42 rfl i42 hm.s0 (nb rfl) rfl)) rfl rfl ?_
  refine dS (c := ⟨some 22, .ptr j (0 + 257), [(3, .ptr j 0)], [], []⟩) (fun t hm => oF rfl rfl (Qg rfl (dk rfl) Xe rfl i25 (by decide) hm.s0 rfl)) rfl rfl ?_
  refine dS (c := ⟨some 23, .sl false 2 (mA x1.Counts), [(22, .ptr j (0 + 257))], [(1, (Xo j x1.Split.Of x1.Split.Many x1.Counts x1.States))], []⟩) (fun t hm => oF rfl rfl (Qm (i := 1) rfl (dk rfl) Mq rfl hm.s0 hm.o0 rfl rfl)) rfl rfl ?_
  refine Yr rfl rfl rfl rfl rfl rfl ?_
  obtain ⟨b, s, h⟩ := bind_some h
  refine dS (c := ⟨some 25, .ref [.int .i64 b.a0, .int .i64 b.a1], [(23, .sl false 2 (mA x1.Counts)), (24, .int .i64 l)], [], []⟩) (fun t hm => oF rfl rfl (Qh (xs := x1.Counts) (f := (Zb.dc .i64)) (v := b) rfl (dk rfl) Mq i42 hm.s0 hm.s1 s rfl)) rfl rfl ?_
  refine dS (c := ⟨some 26, .agg (Zb.dc .i64 b), [(25, .ref [.int .i64 b.a0, .int .i64 b.a1])], [], []⟩) (fun t hm => oF rfl rfl (Zj rfl (dk rfl) ul42 rfl i42 hm.s0 (nb rfl) rfl)) rfl rfl ?_
  refine dS (c := ⟨some 27, .bool (!(Zb.same a b)), [(21, .agg (Zb.dc .i64 a)), (26, .agg (Zb.dc .i64 b))], [], []⟩) (fun t hm => oF rfl rfl (OpT.intsNeq (k := .i64) (xs := [a.a0, a.a1]) (ys := [b.a0, b.a1]) rfl (dk rfl) ul42 ul3 i3 Try.eqGuardType42 hm.s0 hm.s1 rfl rfl rfl rfl (Zb.same_eq a b) rfl)) rfl rfl ?_
  refine Y4 (s1 := ⟨[(2, .ptr g 0), (3, .ptr j 0), (5, .int .i64 l), (27, .bool (!(Zb.same a b)))], [(Xo g x0.Split.Of x0.Split.Many x0.Counts x0.States), (Xo j x1.Split.Of x1.Split.Many x1.Counts x1.States)]⟩) (ms := [0, 1, 0, 7, 15, 0, 32, 0, 224, 480, 1023]) Q7 rfl (by kernel_rfl) (by kernel_rfl) (by kernel_rfl) (sf rfl) rfl (fun u hu => (tN (Qc hu ?_)))
  rcases Qd h with ⟨p, h⟩ | ⟨p, h⟩
  refine Qk rfl p ?_
  refine T.seq (Qq ?_)
  refine aw rfl ?_
  refine TL'.nil (tN ?_)
  refine T.ret (Qy (Ql (Ql (Qy (Ql ?_)))))
  exact Fin.done (.cons _ _ _ _ (.tmp 4 _ rfl) .nil) (by cases h; exact ⟨rfl, rfl⟩)
  refine Qo rfl p ?_
  refine T.skip (Qe (tN ?_))
  refine Qq ?_
  refine mw rfl ?_
  refine sp rfl (Qa rfl rfl (dk rfl) rfl rfl ?_)
  refine aw rfl ?_
  refine TL'.nil (tN ?_)
  refine Qb ?_ (ih (wI (l + (1:Int))) x0 x1 g j h)
  exact tq rfl rfl
  refine Qo rfl m ?_
  refine T.exit (Qf (Qf (Qp (tN ?_))))
  refine T.seq (Qq ?_)
  refine aw rfl ?_
  refine TL'.nil (tN ?_)
  refine T.ret ?_
  exact Fin.done (.cons _ _ _ _ (.tmp 4 _ rfl) .nil) (by cases h; exact ⟨rfl, rfl⟩)
theorem r1_Same_T (K : Nat) {x0 x1 : aAu} {r : Bool} (h : P6 K x0 x1 = some r) : Zt tp 16 [.agg ((Qx.dc 256 .u8 x0.Split.Of) ++ (([.int .i64 x0.Split.Many, .sl false 2 (mA x0.Counts), .sl false 4 (x0.States.map Q0)] : List DC))), .agg ((Qx.dc 256 .u8 x1.Split.Of) ++ (([.int .i64 x1.Split.Many, .sl false 2 (mA x1.Counts), .sl false 4 (x1.States.map Q0)] : List DC)))] [] (.bool r) := by
 refine Qt Try.func16 rfl (nb rfl) ?_
 show T tp 28 (ca [] Try.f16) ⟨Qv 0 [.agg ((Qx.dc 256 .u8 x0.Split.Of) ++ (([.int .i64 x0.Split.Many, .sl false 2 (mA x0.Counts), .sl false 4 (x0.States.map Q0)] : List DC))), .agg ((Qx.dc 256 .u8 x1.Split.Of) ++ (([.int .i64 x1.Split.Many, .sl false 2 (mA x1.Counts), .sl false 4 (x1.States.map Q0)] : List DC)))], []⟩ (Qa1 r)
 unfold P6 at h
 refine T.seq (Qq ?_)
 refine sp rfl (Zg rfl (dk rfl) rfl (fun b => ?_))
 refine sp rfl (Zg rfl (dk rfl) rfl (fun d => ?_))
 refine aw rfl ?_
 refine TL'.nil (tN ?_)
 refine T.seq ?_
 refine T.seq (Qq ?_)
 refine sp rfl (Ze (i := 1) (l := ((Qx.dc 256 .u8 x0.Split.Of) ++ (([.int .i64 x0.Split.Many, .sl false 2 (mA x0.Counts), .sl false 4 (x0.States.map Q0)] : List DC)))) rfl (dk rfl) Xe rfl i28 rfl rfl rfl rfl ?_)
 refine sp rfl (Ze (i := 0) (l := ((Qx.dc 256 .u8 x1.Split.Of) ++ (([.int .i64 x1.Split.Many, .sl false 2 (mA x1.Counts), .sl false 4 (x1.States.map Q0)] : List DC)))) rfl (dk rfl) Xe rfl i28 rfl rfl rfl rfl ?_)
 obtain ⟨g, f, h⟩ := bind_some h
 refine sp rfl (Q5 rfl (dk rfl) Try.func28 rfl rfl (Q3.cons rfl (Q3.cons rfl Q3.nil)) (Zt.nil (Qa2 K f)) ?_)
 refine sp rfl (OpT.not rfl (dk rfl) rfl ?_)
 refine TL'.nil (tN ?_)
 rcases Qd h with ⟨a, h⟩ | ⟨a, h⟩
 refine Qk rfl a ?_
 refine T.seq (Qq ?_)
 refine aw rfl ?_
 refine TL'.nil (tN ?_)
 refine T.ret (Ql ?_)
 exact Fin.done (.cons _ _ _ _ (.tmp 4 _ rfl) .nil) (by cases h; exact ⟨rfl, rfl⟩)
 refine Qo rfl a ?_
 refine T.skip (tN ?_)
 refine T.seq ?_
 refine T.seq (Qq ?_)
 refine aw rfl ?_
 refine TL'.nil (tN ?_)
 refine T.block ?_
 refine T.loop ?_
 refine Qb ?_ (r1_Same_l0_T K K (0:Int) x0 x1 b d h)
 exact tr rfl (.c (.s .z) (.c .z (.n _)))
theorem T3 (K : Nat) {x0 : ByteArray} {x1 : Int} {r : ByteArray} (h : strings_Repeat K x0 x1 = some r) : Zt tp 54 [.str x0, .int .i64 x1] [] (.str r) := by
 unfold strings_Repeat at h
 split at h
 next hc => cases h; exact repeat_call Try.lays105 Try.Builder_Extra_105 hc.1 hc.2.1 hc.2.2
 cases h
abbrev tbr_some_q (bx0 : Nat) (r : ByteArray × tbr) : ES := Jk tp Try.f29 (fun y t => ∃ γ : Nat → Value, y = (.str r.1) ∧ t = [(Q8 bx0 r.2.b r.2.bad)])
theorem Nr (K : Nat) {x0 : tbr} {x1 : Int} {bx0 : Nat} {r : ByteArray × tbr} (h : Wg K x0 x1 = some r) : Uz tp 29 [.ptr bx0 0, .int .i64 x1] [(Q8 bx0 x0.b x0.bad)] (fun γ => (.str r.1)) (fun γ => [(Q8 bx0 r.2.b r.2.bad)]) := by
 refine Qt Try.func29 rfl (nb rfl) ?_
 show T tp 37 (ca [] Try.f29) ⟨Qv 0 [.ptr bx0 0, .int .i64 x1], [(Q8 bx0 x0.b x0.bad)]⟩ (tbr_some_q bx0 r)
 unfold Wg at h
 refine T.seq (Qq ?_)
 refine aw rfl ?_
 refine TL'.nil (tN ?_)
 refine T.seq ?_
 refine T.seq (Qq ?_)
 refine mw rfl ?_
 refine mw rfl ?_
 refine sp rfl (OpT.nilCheck rfl (dk rfl) rfl rfl ?_)
 refine sp rfl (Qg rfl (dk rfl) ul75 rfl i9 (by decide) rfl ?_)
 refine sp rfl (Qm (i := 0) rfl (dk rfl) ul9 rfl rfl rfl rfl ?_)
 refine sp rfl (OpT.lenStr rfl (dk rfl) ul9 rfl ?_)
 refine sp rfl (Qa rfl rfl (dk rfl) rfl rfl ?_)
 refine TL'.nil (tN ?_)
 rcases Qd h with ⟨a, h⟩ | ⟨a, h⟩
 refine Qk rfl a ?_
 refine T.seq (Qq ?_)
 refine mw rfl ?_
 refine mw rfl ?_
 refine sp rfl (OpT.nilCheck rfl (dk rfl) rfl rfl ?_)
 refine sp rfl (Qg rfl (dk rfl) ul75 rfl i4 (by decide) rfl ?_)
 refine sp rfl (Xd (i := 0) (cells' := [.d (.str x0.b), .d (.bool true)]) rfl rfl i4 rfl rfl rfl (nb rfl) rfl ?_)
 refine sp rfl (OpT.nilCheck rfl (dk rfl) rfl rfl ?_)
 refine sp rfl (Qg rfl (dk rfl) ul75 rfl i9 (by decide) rfl ?_)
 refine sp rfl (Xd (i := 0) (cells' := [.d (.str (⟨#[]⟩ : ByteArray)), .d (.bool true)]) rfl rfl i9 rfl rfl rfl (nb rfl) rfl ?_)
 refine TL'.nil (tN (T.seq (Qq ?_)))
 refine mw rfl ?_
 obtain ⟨j, g, h⟩ := bind_some h
 refine sp rfl (Q5 rfl (dk rfl) Try.func54 rfl rfl (Q3.cons rfl (Q3.cons rfl Q3.nil)) (Zt.nil (T3 K g)) ?_)
 refine aw rfl ?_
 refine TL'.nil (tN ?_)
 refine T.ret (Ql ?_)
 exact Q6 (.cons _ _ _ _ (.tmp 4 _ rfl) .nil) (.cons 0 rfl (.nil _)) (by cases h; exact ⟨gl [], rfl, rfl⟩)
 refine Qo rfl a ?_
 refine T.skip (tN ?_)
 refine T.seq (Qq ?_)
 refine mw rfl ?_
 refine sp rfl (OpT.nilCheck rfl (dk rfl) rfl rfl ?_)
 refine sp rfl (Qg rfl (dk rfl) ul75 rfl i9 (by decide) rfl ?_)
 refine sp rfl (Qm (i := 0) rfl (dk rfl) ul9 rfl rfl rfl rfl ?_)
 refine mw rfl ?_
 obtain ⟨c, h⟩ := Zh h
 refine sp rfl (Ty (l := 0) (h := (Int.toNat x1)) rfl (dk rfl) ul9 rfl (.none _) (.some _ _ _ _ rfl c.1) c.2.1 c.2.2 ?_)
 refine aw rfl ?_
 refine TL'.nil (tN (T.seq (Qq ?_)))
 refine mw rfl ?_
 refine mw rfl ?_
 refine sp rfl (OpT.nilCheck rfl (dk rfl) rfl rfl ?_)
 refine sp rfl (Qg rfl (dk rfl) ul75 rfl i9 (by decide) rfl ?_)
 refine sp rfl (Qm (i := 0) rfl (dk rfl) ul9 rfl rfl rfl rfl ?_)
 refine mw rfl ?_
 obtain ⟨f, h⟩ := Zh h
 refine sp rfl (Ty (l := (Int.toNat x1)) (h := x0.b.size) rfl (dk rfl) ul9 rfl (.some _ _ _ _ rfl f.1) (.none _) f.2.1 f.2.2 ?_)
 refine sp rfl (OpT.nilCheck rfl (dk rfl) rfl rfl ?_)
 refine sp rfl (Qg rfl (dk rfl) ul75 rfl i9 (by decide) rfl ?_)
 refine sp rfl (Xd (i := 0) (cells' := [.d (.str (x0.b.extract (Int.toNat x1) x0.b.size)), .d (.bool x0.bad)]) rfl rfl i9 rfl rfl rfl (nb rfl) rfl ?_)
 refine TL'.nil (tN (T.seq (Qq ?_)))
 refine mw rfl ?_
 refine aw rfl ?_
 refine TL'.nil (tN ?_)
 refine T.ret ?_
 exact Q6 (.cons _ _ _ _ (.tmp 4 _ rfl) .nil) (.cons 0 rfl (.nil _)) (by cases h; exact ⟨gl [], rfl, rfl⟩)
abbrev Gr (r : Int) : ES := Jk tp Try.f55 (fun y t => y = (.int .u8 r) ∧ t = [])
abbrev Eg (r : Int) : ES := thenS (fun s' => T tp 25 (ca [1,1,1,1] Try.f55) s' ((Gr r))) ((Gr r))
abbrev Cz (r : Int) : ES := Qz 0 ((Eg r))
theorem Iq {r : Int} (K : Nat) : ∀ (k : Nat), ∀ (x0 : List Int) (a b : Int) (flx0 : Bool), Xh K k x0 a b = some r → TL tp 25 (ca [1,1,1,0,1,0,0] Try.f55) ⟨[(0, .sl flx0 1 (mU x0)), (3, .int .u8 a), (4, .int .i64 b)], []⟩ (Cz r) := by
 intro k
 induction k with
 | zero =>
  intro x0 a b flx0 h
  cases (show (none : Option Int) = some r from h)
 | succ k ih =>
  intro x0 a b flx0 h
  rw [Xh] at h
  refine Q4 ?_
  refine T.seq ?_
  refine T.seq (Qq ?_)
  refine mw rfl ?_
  refine mw rfl ?_
  refine sp rfl (Qn (xs := x0) (f := (cI .u8)) rfl (dk rfl) Xg rfl ?_)
  refine sp rfl (Qa rfl rfl (dk rfl) rfl rfl ?_)
  refine TL'.nil (tN ?_)
  rcases Qd h with ⟨c, h⟩ | ⟨c, h⟩
  refine Qk rfl c ?_
  refine T.skip (tN ?_)
  refine T.seq ?_
  refine T.block ?_
  refine Qq ?_
  iterate 3 refine mw rfl ?_
  obtain ⟨d, g, h⟩ := bind_some h
  refine sp rfl (Qh (xs := x0) (f := (cI .u8)) (v := d) rfl (dk rfl) Xg i5 rfl rfl g ?_)
  refine sp rfl (Qr rfl (dk rfl) ul5 rfl rfl rfl ?_)
  refine sp rfl (OpT.max2 rfl (dk rfl) rfl rfl ?_)
  refine aw rfl ?_
  refine TL'.nil (Qe (tN ?_))
  refine Qq ?_
  refine mw rfl ?_
  refine sp rfl (Qa rfl rfl (dk rfl) rfl rfl ?_)
  refine aw rfl ?_
  refine TL'.nil (tN ?_)
  refine Qb ?_ (ih x0 (if d > a then d else a) (wI (b + (1:Int))) flx0 h)
  exact tq rfl rfl
  refine Qo rfl c ?_
  refine T.exit (Qf (Qf (Qp (tN ?_))))
  refine T.seq (Qq ?_)
  refine mw rfl ?_
  refine aw rfl ?_
  refine TL'.nil (tN ?_)
  refine T.ret ?_
  exact Fin.done (.cons _ _ _ _ (.tmp 2 _ rfl) .nil) (by cases h; exact ⟨rfl, rfl⟩)
theorem Ri (K : Nat) {x0 : List Int} {flx0 : Bool} {r : Int} (h : J0 K x0 = some r) : Zt tp 55 [.sl flx0 1 (mU x0)] [] (.int .u8 r) := by
 refine Qt Try.func55 rfl (nb rfl) ?_
 show T tp 25 (ca [] Try.f55) ⟨Qv 0 [.sl flx0 1 (mU x0)], []⟩ (Gr r)
 unfold J0 at h
 refine T.seq (Qq ?_)
 refine aw rfl ?_
 refine TL'.nil (tN ?_)
 refine T.seq ?_
 refine T.seq (Qq ?_)
 refine mw rfl ?_
 refine sp rfl (Qn (xs := x0) (f := (cI .u8)) rfl (dk rfl) Xg rfl ?_)
 refine sp rfl (Qa rfl rfl (dk rfl) rfl rfl ?_)
 refine TL'.nil (tN ?_)
 rcases Qd h with ⟨a, h⟩ | ⟨a, h⟩
 refine Qk rfl a ?_
 refine Qq ?_
 cases h
 refine Qo rfl a ?_
 refine T.skip (tN ?_)
 refine T.seq (Qq ?_)
 refine mw rfl ?_
 obtain ⟨b, c, h⟩ := bind_some h
 refine sp rfl (Qh (xs := x0) (f := (cI .u8)) (v := b) rfl (dk rfl) Xg i5 rfl rfl c ?_)
 refine sp rfl (Qr rfl (dk rfl) ul5 rfl rfl rfl ?_)
 refine aw rfl ?_
 refine TL'.nil (tN ?_)
 refine T.seq ?_
 refine T.seq (Qq ?_)
 refine aw rfl ?_
 refine TL'.nil (tN ?_)
 refine T.block ?_
 refine T.loop ?_
 refine Qb ?_ (Iq K K x0 b (1:Int) flx0 h)
 exact tq rfl rfl
abbrev tbr_split_q (bx0 : Nat) (r : aSp × tbr) : ES := Jk tp Try.f30 (fun y t => ∃ γ : Nat → Value, y = (.agg ((Qx.dc 256 .u8 r.1.Of) ++ (([.int .i64 r.1.Many] : List DC)))) ∧ t = [(Q8 bx0 r.2.b r.2.bad)])
theorem tbr_split_T (K : Nat) {x0 : tbr} {bx0 : Nat} {r : aSp × tbr} (h : Dj K x0 = some r) : Uz tp 30 [.ptr bx0 0] [(Q8 bx0 x0.b x0.bad)] (fun γ => (.agg ((Qx.dc 256 .u8 r.1.Of) ++ (([.int .i64 r.1.Many] : List DC))))) (fun γ => [(Q8 bx0 r.2.b r.2.bad)]) := by
 refine Qt Try.func30 rfl (nb rfl) ?_
 show T tp 16 (ca [] Try.f30) ⟨Qv 0 [.ptr bx0 0], [(Q8 bx0 x0.b x0.bad)]⟩ (tbr_split_q bx0 r)
 unfold Dj at h
 refine T.seq (Qq ?_)
 refine sp rfl (Zi rfl (dk rfl) i24 rfl (fun s => ?_))
 refine TL'.nil (tN (T.seq (Qq ?_)))
 refine sp rfl (Zi rfl (dk rfl) i24 rfl (fun p => ?_))
 refine TL'.nil (tN ?_)
 refine T.seq ?_
 refine Y3 ?_
 refine dC (c := ⟨some 4, .ptr p (0 + 0), [(3, .ptr p 0)], [], []⟩) (fun t hm => oF rfl rfl (Qg rfl (dk rfl) Ig rfl i22 (by decide) hm.s0 ⟨u0, rfl⟩)) (fun _ => rfl) (fun _ => rfl) ?_
 refine dC (c := ⟨some 5, .c (.ex (.slice (some ⟨p, 0, none⟩) 256 256)), [(4, .ptr p (0 + 0))], [], []⟩) (fun t hm => oF rfl rfl (Tz rfl (dk rfl) ul22 i5 hm.s0 (by decide) ⟨u0, rfl⟩)) (fun _ => rfl) (fun _ => rfl) ?_
 refine dC (c := ⟨some 6, .ptr bx0 0, [(0, .ptr bx0 0)], [], []⟩) (fun t hm => oF rfl rfl (OpT.move rfl (dk rfl) hm.s0 ⟨u0, rfl⟩)) (fun _ => rfl) (fun _ => rfl) ?_
 obtain ⟨m, v, h⟩ := bind_some h
 refine dC (c := ⟨some 7, .str m.1, [(6, .ptr bx0 0)], [(2, (Q8 bx0 x0.b x0.bad))], [(2, (Q8 bx0 m.2.b m.2.bad))]⟩) (fun t hm => oF rfl rfl (Q2 (is := [2]) (ph := []) rfl (dk rfl) Try.func29 rfl rfl (Q3.cons hm.s0 (Q3.cons rfl Q3.nil)) (Nr K (bx0 := bx0) v) (.cons hm.o0 rfl (.nil)) (fun _ => rfl) (fun g => ⟨(g, 0), rfl⟩))) (fun _ => rfl) (fun _ => rfl) ?_
 obtain ⟨w, h⟩ := Zh h
 refine dC (c := ⟨some 8, .int .i64 (m.1.size : Int), [(5, .c (.ex (.slice (some ⟨p, 0, none⟩) 256 256))), (7, .str m.1)], [(0, (On p (Qx.mk fun _ => 0) (0:Int)))], [(0, (On p (Qx.copyS (Qx.mk fun _ => 0) m.1) (0:Int)))]⟩) (fun t hm => oF rfl rfl (OpT.copyBox (i := 0) (pre := []) (post := [.d (.int .i64 (0:Int))]) (a := (Qx.mk fun _ => 0)) (n := 256) rfl (dk rfl) Xg i5 hm.s0 hm.s1 hm.o0 rfl w ⟨u0, rfl⟩)) (fun _ => rfl) (fun _ => rfl) ?_
 refine Vi (s1 := fun j => ⟨[(2, .ptr s 0), (3, .ptr p 0)], [(On p (Qx.copyS (Qx.mk fun _ => 0) m.1) (0:Int)), (On s (Qx.mk fun _ => 0) (0:Int)), (Q8 bx0 m.2.b m.2.bad)]⟩) (ms := [0, 1, 0, 4, 15]) Q7 rfl (by kernel_rfl) (by kernel_rfl) (by kernel_rfl) (fun j => by kernel_rfl) (fun j => sf rfl) (fun _ => rfl) (fun j u hu => (tN (Qc hu ?_)))
 refine T.seq (Qq ?_)
 refine sp rfl (Qg rfl (dk rfl) Ig rfl i22 (by decide) rfl ?_)
 refine sp rfl (Tz rfl (dk rfl) ul22 i5 rfl (by decide) ?_)
 obtain ⟨q, z, h⟩ := bind_some h
 refine sp rfl (OpT.callLent (i := 0) rfl (dk rfl) Try.func55 rfl rfl rfl (Qae.lentBox (xs := (Qx.list 256 (Qx.copyS (Qx.mk fun _ => 0) m.1))) (f := cI .u8) rfl Sj (by decide) (fun y hy => by obtain ⟨a, _, rfl⟩ := List.mem_map.1 hy; rfl) (Qx.oc_lent (pre := []) (post := [.d (.int .i64 (0:Int))]) rfl rfl) Qae.nil) (Zt.nil (Ri K (flx0 := false) z)) (.ex _) ?_)
 refine sp rfl (Z9 rfl (dk rfl) ul5 ul3 rfl ?_)
 refine sp rfl (Qa rfl rfl (dk rfl) rfl rfl ?_)
 refine sp rfl (Qg rfl (dk rfl) Ig rfl i3 (by decide) rfl ?_)
 refine sp rfl (Xd (i := 0) (cells' := ((Qx.oc 256 .u8 (Qx.copyS (Qx.mk fun _ => 0) m.1)) ++ (([.d (.int .i64 (wI ((wI q) + (1:Int))))]:List OC)))) rfl rfl i3 rfl rfl rfl (nb rfl) rfl ?_)
 refine TL'.nil (tN (T.seq (Qq ?_)))
 refine sp rfl (Ze (i := 0) (l := ((Qx.dc 256 .u8 (Qx.copyS (Qx.mk fun _ => 0) m.1)) ++ (([.int .i64 (wI ((wI q) + (1:Int)))] : List DC)))) rfl (dk rfl) Ig rfl i24 rfl rfl rfl rfl ?_)
 refine sp rfl (Q1 (i := 1) (cells' := ((Qx.oc 256 .u8 (Qx.copyS (Qx.mk fun _ => 0) m.1)) ++ (([.d (.int .i64 (wI ((wI q) + (1:Int))))]:List OC)))) rfl rfl i24 rfl rfl rfl rfl (nb rfl) rfl ?_)
 refine TL'.nil (tN ?_)
 refine T.ret ?_
 exact Q6 (.cons _ _ _ _ (.cellAgg 2 24 _ 0 1 24 _ ((Qx.dc 256 .u8 (Qx.copyS (Qx.mk fun _ => 0) m.1)) ++ (([.int .i64 (wI ((wI q) + (1:Int)))] : List DC))) _ _ 257 _ rfl rfl rfl rfl Ig rfl i24) .nil) (.cons 2 rfl (.nil _)) (by cases h; exact ⟨gl [], rfl, rfl⟩)
abbrev Qaj (bx0 : Nat) (r : Int × tbr) : ES := Jk tp Try.f32 (fun y t => ∃ γ : Nat → Value, y = (.int .i64 r.1) ∧ t = [(Q8 bx0 r.2.b r.2.bad)])
abbrev tbr_num_qs111 (bx0 : Nat) (r : Int × tbr) : ES := thenS (fun s' => T tp 42 (ca [1,1,1] Try.f32) s' ((Qaj bx0 r))) ((Qaj bx0 r))
abbrev M2 (bx0 : Nat) (r : Int × tbr) : ES := Qz 0 ((tbr_num_qs111 bx0 r))
abbrev Ik (bx0 : Nat) (r : Int × tbr) : ES := thenS (fun s' => TL tp 42 (ca [1,1,0,1,0,0] Try.f32) s' ((M2 bx0 r))) ((M2 bx0 r))
abbrev Pc (bx0 : Nat) (r : Int × tbr) : ES := thenS (fun s' => T tp 42 (ca [1,1,0,1,0,0,1,1,1] Try.f32) s' ((Ik bx0 r))) ((Ik bx0 r))
abbrev Ee (bx0 : Nat) (r : Int × tbr) : ES := Qz 1 ((Pc bx0 r))
theorem Il {r : Int × tbr} (K bx0 : Nat) (a : Int) (b : ByteArray) (c : Bool) (h : H6 K a b c = some r) : T tp 42 (ca [1,1,0,1,0,0,1,1,0,0,1,1,1,1,0,1] Try.f32) ⟨[(3, .int .i64 a)], [(Q8 bx0 b c)]⟩ (Ee bx0 r) := by
 unfold H6 at h
 refine T.seq (Qq ?_)
 refine mw rfl ?_
 refine aw rfl ?_
 refine TL'.nil (tN ?_)
 refine T.ret (Qy (Ql (Ql (Qy (Ql ?_)))))
 exact Q6 (.cons _ _ _ _ (.tmp 2 _ rfl) .nil) (.cons 0 rfl (.nil _)) (by cases h; exact ⟨gl [], rfl, rfl⟩)
theorem tbr_num_l0_T {r : Int × tbr} (K bx0 : Nat) : ∀ (k : Nat), ∀ (j g : Int) (m : ByteArray) (p : Bool), H5 K k j g m p = some r → TL tp 42 (ca [1,1,0,1,0,0] Try.f32) ⟨[(0, .ptr bx0 0), (3, .int .i64 j), (6, .int .i64 g)], [(Q8 bx0 m p)]⟩ (M2 bx0 r) := by
 intro k
 induction k with
 | zero =>
  intro j g m p h
  cases (show (none : Option (Int × tbr)) = some r from h)
 | succ k ih =>
  intro j g m p h
  rw [H5] at h
  refine Q4 ?_
  refine T.seq (Qq ?_)
  refine sp rfl (Qa rfl rfl (dk rfl) rfl rfl ?_)
  refine TL'.nil (tN ?_)
  refine T.seq ?_
  rcases Qd h with ⟨q, h⟩ | ⟨q, h⟩
  refine Qk rfl q ?_
  refine T.skip (tN ?_)
  refine T.seq ?_
  refine T.block ?_
  refine T.seq (Qq ?_)
  refine mw rfl ?_
  refine aw rfl ?_
  refine TL'.nil (tN (T.seq (Qq ?_)))
  refine mw rfl ?_
  obtain ⟨f, v, h⟩ := bind_some h
  refine sp rfl (Q2 (is := [0]) (ph := []) rfl (dk rfl) Try.func29 rfl rfl (Q3.cons rfl (Q3.cons rfl Q3.nil)) (Nr K (bx0 := bx0) v) (.cons rfl rfl (.nil)) (fun _ => rfl) (fun y => ?_))
  refine nm (.c (.n)) ?_
  obtain ⟨u, h⟩ := Zh h
  refine sp rfl (OpT.indexStr rfl (dk rfl) ul9 rfl rfl u.1 u.2 ?_)
  refine aw rfl ?_
  refine TL'.nil (tN (T.seq (Qq ?_)))
  refine mw rfl ?_
  refine mw rfl ?_
  refine sp rfl (Qa rfl rfl (dk rfl) rfl rfl ?_)
  refine sp rfl (Z9 rfl (dk rfl) ul5 ul3 rfl ?_)
  refine mw rfl ?_
  refine sp rfl (Qa rfl rfl (dk rfl) rfl rfl ?_)
  obtain ⟨w, h⟩ := Zh h
  refine sp rfl (OpT.shl rfl (dk rfl) rfl rfl w ?_)
  refine sp rfl (Qa rfl rfl (dk rfl) rfl rfl ?_)
  refine aw rfl ?_
  refine TL'.nil (tN (T.seq (Qq ?_)))
  refine mw rfl ?_
  refine sp rfl (Qa rfl rfl (dk rfl) rfl rfl ?_)
  refine TL'.nil (tN ?_)
  rcases Qd h with ⟨s, h⟩ | ⟨s, h⟩
  refine Qk rfl s ?_
  refine T.seq (Qq ?_)
  refine mw rfl ?_
  refine mw rfl ?_
  refine sp rfl (OpT.nilCheck rfl (dk rfl) rfl rfl ?_)
  refine sp rfl (Qg rfl (dk rfl) ul75 rfl i4 (by decide) rfl ?_)
  refine sp rfl (Qm (i := 0) rfl (dk rfl) ul4 rfl rfl rfl rfl ?_)
  refine mw rfl ?_
  rcases Qd h with ⟨a, h⟩ | ⟨a, h⟩
  refine pf rfl a ?_
  refine pf rfl a ?_
  refine pf rfl a ?_
  refine TL'.pU (.gone _ _ _ rfl rfl rfl) (dk rfl) ?_
  refine TL'.pU (.gone _ _ _ rfl rfl rfl) (dk rfl) ?_
  refine pf rfl a ?_
  refine sp rfl (Qi rfl (dk rfl) rfl a rfl ?_)
  refine sp rfl (OpT.nilCheck rfl (dk rfl) rfl rfl ?_)
  refine sp rfl (Qg rfl (dk rfl) ul75 rfl i4 (by decide) rfl ?_)
  refine sp rfl (Xd (i := 0) (cells' := [.d (.str f.2.b), .d (.bool true)]) rfl rfl i4 rfl rfl rfl (nb rfl) rfl ?_)
  refine TL'.nil (tN ?_)
  refine Qc ?_ (Il K bx0 (bits .or .i64 j (wI ((wI (bits .andNot .u8 (bt f.1 (0:Int)) (128:Int))) * 2 ^ min (Int.toNat (wI ((7:Int) * g))) IntKind.i64.bits))) f.2.b true h)
  exact tq rfl rfl
  refine sn rfl a (OpT.move rfl (dk rfl) rfl ?_)
  refine sn rfl a (Qa rfl rfl (dk rfl) rfl rfl ?_)
  refine sn rfl a (OpT.move rfl (dk rfl) rfl ?_)
  rcases Qd h with ⟨l, h⟩ | ⟨l, h⟩
  refine sn rfl l (OpT.move rfl (dk rfl) rfl ?_)
  refine sn rfl l (Qa rfl rfl (dk rfl) rfl rfl ?_)
  refine sn rfl a (Qi rfl (dk rfl) rfl l rfl ?_)
  refine sp rfl (Qs rfl (dk rfl) rfl a rfl ?_)
  refine sp rfl (OpT.nilCheck rfl (dk rfl) rfl rfl ?_)
  refine sp rfl (Qg rfl (dk rfl) ul75 rfl i4 (by decide) rfl ?_)
  refine sp rfl (Xd (i := 0) (cells' := [.d (.str f.2.b), .d (.bool (decide (g > (0:Int))))]) rfl rfl i4 rfl rfl rfl (nb rfl) rfl ?_)
  refine TL'.nil (tN ?_)
  refine Qc ?_ (Il K bx0 (bits .or .i64 j (wI ((wI (bits .andNot .u8 (bt f.1 (0:Int)) (128:Int))) * 2 ^ min (Int.toNat (wI ((7:Int) * g))) IntKind.i64.bits))) f.2.b (decide (g > (0:Int))) h)
  exact tq rfl rfl
  refine pf rfl l ?_
  refine pf rfl l ?_
  refine sn rfl a (Qs rfl (dk rfl) rfl l rfl ?_)
  refine sp rfl (Qs rfl (dk rfl) rfl a rfl ?_)
  refine sp rfl (OpT.nilCheck rfl (dk rfl) rfl rfl ?_)
  refine sp rfl (Qg rfl (dk rfl) ul75 rfl i4 (by decide) rfl ?_)
  refine sp rfl (Xd (i := 0) (cells' := [.d (.str f.2.b), .d (.bool false)]) rfl rfl i4 rfl rfl rfl (nb rfl) rfl ?_)
  refine TL'.nil (tN ?_)
  refine Qc ?_ (Il K bx0 (bits .or .i64 j (wI ((wI (bits .andNot .u8 (bt f.1 (0:Int)) (128:Int))) * 2 ^ min (Int.toNat (wI ((7:Int) * g))) IntKind.i64.bits))) f.2.b false h)
  exact tq rfl rfl
  refine Qo rfl s ?_
  refine T.skip (Qe (tN ?_))
  refine Qq ?_
  refine sp rfl (Qa rfl rfl (dk rfl) rfl rfl ?_)
  refine mw rfl ?_
  refine TL'.nil (tN ?_)
  refine Qb ?_ (ih (bits .or .i64 j (wI ((wI (bits .andNot .u8 (bt f.1 (0:Int)) (128:Int))) * 2 ^ min (Int.toNat (wI ((7:Int) * g))) IntKind.i64.bits))) (wI (g + (1:Int))) f.2.b f.2.bad h)
  exact tq rfl rfl
  refine Qo rfl q ?_
  refine T.exit (Qf (Qf (Qp (tN ?_))))
  refine T.seq (Qq ?_)
  refine mw rfl ?_
  refine sp rfl (OpT.nilCheck rfl (dk rfl) rfl rfl ?_)
  refine sp rfl (Qg rfl (dk rfl) ul75 rfl i4 (by decide) rfl ?_)
  refine sp rfl (Xd (i := 0) (cells' := [.d (.str m), .d (.bool true)]) rfl rfl i4 rfl rfl rfl (nb rfl) rfl ?_)
  refine TL'.nil (tN (T.seq (Qq ?_)))
  refine aw rfl ?_
  refine TL'.nil (tN ?_)
  refine T.ret ?_
  exact Q6 (.cons _ _ _ _ (.tmp 2 _ rfl) .nil) (.cons 0 rfl (.nil _)) (by cases h; exact ⟨gl [], rfl, rfl⟩)
theorem Kl (K : Nat) {x0 : tbr} {bx0 : Nat} {r : Int × tbr} (h : K0 K x0 = some r) : Uz tp 32 [.ptr bx0 0] [(Q8 bx0 x0.b x0.bad)] (fun γ => (.int .i64 r.1)) (fun γ => [(Q8 bx0 r.2.b r.2.bad)]) := by
 refine Qt Try.func32 rfl (nb rfl) ?_
 show T tp 42 (ca [] Try.f32) ⟨Qv 0 [.ptr bx0 0], [(Q8 bx0 x0.b x0.bad)]⟩ (Qaj bx0 r)
 unfold K0 at h
 refine T.seq (Qq ?_)
 refine aw rfl ?_
 refine TL'.nil (tN (T.seq (Qq ?_)))
 refine aw rfl ?_
 refine TL'.nil (tN ?_)
 refine T.seq ?_
 refine T.seq (Qq ?_)
 refine mw rfl ?_
 refine TL'.nil (tN ?_)
 refine T.block ?_
 refine T.loop ?_
 refine Qb ?_ (tbr_num_l0_T K bx0 K (0:Int) (0:Int) x0.b x0.bad h)
 exact tq rfl rfl
abbrev tb_Decode_1_q (bx0 bx1 bx1_p : Nat) (x0c0 : aSp) (x0c2 : List (Bool × aSt)) (r : (List Zb) × tbr) : ES := Jk tp Try.f33 (fun y t => ∃ γ : Nat → Value, y = (.tup []) ∧ t = [(Zc bx0 x0c0.Of x0c0.Many (γ 0) (γ 1)), .arrA (γ 0) 42 2 (mA r.1), .arrX (γ 1) 59 4 0 (x0c2.map Qw), (Zl bx1 bx1_p), (Q8 bx1_p r.2.b r.2.bad)])
theorem tb_Decode_1_T (K : Nat) {x0c0 : aSp} {x0c1 : List Zb} {x0c2 : List (Bool × aSt)} {x1_p : tbr} {bx0 : Nat} {wx0c1 wx0c2 : Value} {bx1 bx1_p : Nat} {r : (List Zb) × tbr} (h : M7 K x0c0 x0c1 x0c2 x1_p = some r) : Uz tp 33 [.ptr bx0 0, .ptr bx1 0] [(Zc bx0 x0c0.Of x0c0.Many wx0c1 wx0c2), .arrA wx0c1 42 2 (mA x0c1), .arrX wx0c2 59 4 0 (x0c2.map Qw), (Zl bx1 bx1_p), (Q8 bx1_p x1_p.b x1_p.bad)] (fun γ => (.tup [])) (fun γ => [(Zc bx0 x0c0.Of x0c0.Many (γ 0) (γ 1)), .arrA (γ 0) 42 2 (mA r.1), .arrX (γ 1) 59 4 0 (x0c2.map Qw), (Zl bx1 bx1_p), (Q8 bx1_p r.2.b r.2.bad)]) := by
 refine Qt Try.func33 rfl (nb rfl) ?_
 show T tp 12 (ca [] Try.f33) ⟨Qv 0 [.ptr bx0 0, .ptr bx1 0], [(Zc bx0 x0c0.Of x0c0.Many wx0c1 wx0c2), .arrA wx0c1 42 2 (mA x0c1), .arrX wx0c2 59 4 0 (x0c2.map Qw), (Zl bx1 bx1_p), (Q8 bx1_p x1_p.b x1_p.bad)]⟩ (tb_Decode_1_q bx0 bx1 bx1_p x0c0 x0c2 r)
 unfold M7 at h
 refine Qc Zs ?_
 refine Y3 ?_
 refine dC (c := ⟨some 2, .ptr bx0 (0 + 257), [(0, .ptr bx0 0)], [], []⟩) (fun t hm => oF rfl rfl (Qg rfl (dk rfl) Xe rfl i25 (by decide) hm.s0 ⟨u0, rfl⟩)) (fun _ => rfl) (fun _ => rfl) ?_
 refine dC (c := ⟨some 3, .c (.ex wx0c1), [(2, .ptr bx0 (0 + 257))], [(1, (Zc bx0 x0c0.Of x0c0.Many wx0c1 wx0c2))], []⟩) (fun t hm => oF rfl rfl (Qm (i := 1) rfl (dk rfl) Mq rfl hm.s0 hm.o0 rfl ⟨u0, rfl⟩)) (fun _ => rfl) (fun _ => rfl) ?_
 refine dC (c := ⟨some 4, .ptr bx1_p 0, [(1, .ptr bx1 0)], [(4, (Zl bx1 bx1_p))], []⟩) (fun t hm => oF rfl rfl (Qm (i := 4) rfl (dk rfl) ul73 rfl hm.s0 hm.o0 rfl ⟨u0, rfl⟩)) (fun _ => rfl) (fun _ => rfl) ?_
 obtain ⟨j, n, h⟩ := bind_some h
 refine dC (c := ⟨some 5, .int .i64 j.1, [(4, .ptr bx1_p 0)], [(5, (Q8 bx1_p x1_p.b x1_p.bad))], [(5, (Q8 bx1_p j.2.b j.2.bad))]⟩) (fun t hm => oF rfl rfl (Q2 (is := [5]) (ph := []) rfl (dk rfl) Try.func32 rfl rfl (Q3.cons hm.s0 Q3.nil) (Kl K (bx0 := bx1_p) n) (.cons hm.o0 rfl (.nil)) (fun _ => rfl) (fun g => ⟨(g, 0), rfl⟩))) (fun _ => rfl) (fun _ => rfl) ?_
 refine dC (c := ⟨some 6, .ptr bx1_p 0, [(1, .ptr bx1 0)], [(4, (Zl bx1 bx1_p))], []⟩) (fun t hm => oF rfl rfl (Qm (i := 4) rfl (dk rfl) ul73 rfl hm.s0 hm.o0 rfl ⟨u0, rfl⟩)) (fun _ => rfl) (fun _ => rfl) ?_
 obtain ⟨m, p, h⟩ := bind_some h
 refine dC (c := ⟨some 7, .int .i64 m.1, [(6, .ptr bx1_p 0)], [(5, (Q8 bx1_p j.2.b j.2.bad))], [(5, (Q8 bx1_p m.2.b m.2.bad))]⟩) (fun t hm => oF rfl rfl (Q2 (is := [5]) (ph := []) rfl (dk rfl) Try.func32 rfl rfl (Q3.cons hm.s0 Q3.nil) (Kl K (bx0 := bx1_p) p) (.cons hm.o0 rfl (.nil)) (fun _ => rfl) (fun g => ⟨(g, 0), rfl⟩))) (fun _ => rfl) (fun _ => rfl) ?_
 refine dC (c := ⟨some 8, .agg (Zb.dc .i64 (Zb.mk j.1 m.1)), [(5, .int .i64 j.1), (7, .int .i64 m.1)], [], []⟩) (fun t hm => oF rfl rfl (OpT.build (l := (Zb.dc .i64 (Zb.mk j.1 m.1))) rfl (dk rfl) (Nh ul42 i42 i3) (J6 rfl) (Xm hm.s0 rfl (Xm hm.s1 rfl V6)) rfl ⟨u0, rfl⟩)) (fun _ => rfl) (fun _ => rfl) ?_
 refine dC (c := ⟨some 9, .sl true 2 ([(Zb.mk j.1 m.1)].map (Zb.dc .i64)), [(8, .agg (Zb.dc .i64 (Zb.mk j.1 m.1)))], [], []⟩) (fun t hm => oF rfl rfl (OpT.buildSlice (elems := ([(Zb.mk j.1 m.1)] : List Zb).map (Zb.dc .i64)) rfl (dk rfl) Mq i42 (by decide) rfl (J6 rfl) (Xm hm.s0 rfl V6) rfl rfl (Yp rfl) (by decide) ⟨u0, rfl⟩)) (fun _ => rfl) (fun _ => rfl) ?_
 obtain ⟨q, h⟩ := Zh h
 refine DGG.step (c := fun a => ⟨some 10, .c (.ex ((a 8).1 0)), [(9, .sl true 2 ([(Zb.mk j.1 m.1)].map (Zb.dc .i64))), (3, .c (.ex wx0c1))], [(2, .arrA wx0c1 42 2 (mA x0c1))], [(2, .arrA ((a 8).1 0) 42 2 ((x0c1 ++ [(Zb.mk j.1 m.1)]).map (Zb.dc .i64)))]⟩) [8] (fun a γ' h => by simp only [h 8 (by decide)]) (fun a t hm => oF rfl rfl (Za (i := 2) (xs := x0c1) (ys := [(Zb.mk j.1 m.1)]) (f := (Zb.dc .i64)) rfl (dk rfl) Mq i42 rfl hm.s1 hm.o0 hm.s0 q (fun w => ⟨(fun _ => w, 0), rfl⟩))) (fun a => Zq rfl rfl) ?_
 refine dC (c := ⟨some 11, .ptr bx0 (0 + 257), [(0, .ptr bx0 0)], [], []⟩) (fun t hm => oF rfl rfl (Qg rfl (dk rfl) Xe rfl i25 (by decide) hm.s0 ⟨u0, rfl⟩)) (fun _ => rfl) (fun _ => rfl) ?_
 refine DGG.step (c := fun a => ⟨none, .any, [(11, .ptr bx0 (0 + 257)), (10, .c (.ex ((a 8).1 0)))], [(1, (Zc bx0 x0c0.Of x0c0.Many wx0c1 wx0c2))], [(1, (Zc bx0 x0c0.Of x0c0.Many ((a 8).1 0) wx0c2))]⟩) [8] (fun a γ' h => by simp only [h 8 (by decide)]) (fun a t hm => oF rfl rfl (Xd (i := 1) (cells' := ((Qx.oc 256 .u8 x0c0.Of) ++ (([.d (.int .i64 x0c0.Many), .d (.ex ((a 8).1 0)), .d (.ex wx0c2)]:List OC)))) rfl rfl i25 hm.s0 hm.s1 hm.o0 (nb rfl) rfl ⟨u0, rfl⟩)) (fun a => Zq rfl rfl) ?_
 refine Vi (s1 := fun a => ⟨[], [.ro 0 [], (Zc bx0 x0c0.Of x0c0.Many ((a 8).1 0) wx0c2), .arrA ((a 8).1 0) 42 2 ((x0c1 ++ [(Zb.mk j.1 m.1)]).map (Zb.dc .i64)), .arrX wx0c2 59 4 0 (x0c2.map Qw), (Zl bx1 bx1_p), (Q8 bx1_p m.2.b m.2.bad)]⟩) (ms := [0, 1, 0, 4, 0, 28, 60, 124, 255, 511, 1023]) Q7 rfl (by kernel_rfl) (by kernel_rfl) (by kernel_rfl) (fun a => by kernel_rfl) (fun a => .nil _) (fun _ => rfl) (fun a u hu => (Xf hu ?_))
 exact Q6 (.nil) (.cons 1 rfl (.cons 1 rfl (.cons 1 rfl (.cons 1 rfl (.cons 1 rfl (.nil _)))))) (by cases h; exact ⟨gl [(a 8).1 0, wx0c2], rfl, rfl⟩)
abbrev Qai (bx0 bx2c0 bx2c1 : Nat) (x2c0c0 : aSp) (x2c0c2 : List (Bool × aSt)) (r : tbr × (List Zb)) : ES := Jk tp Try.f31 (fun y t => ∃ γ : Nat → Value, y = (.tup []) ∧ t = [(Q8 bx0 r.1.b r.1.bad), (Zc bx2c0 x2c0c0.Of x2c0c0.Many (γ 0) (γ 1)), .arrA (γ 0) 42 2 (mA r.2), .arrX (γ 1) 59 4 0 (x2c0c2.map Qw), (Zl bx2c1 bx0)])
abbrev Cx (bx0 bx2c0 bx2c1 : Nat) (x2c0c0 : aSp) (x2c0c2 : List (Bool × aSt)) (r : tbr × (List Zb)) : ES := Qz 0 ((Qai bx0 bx2c0 bx2c1 x2c0c0 x2c0c2 r))
abbrev Oq (bx0 bx2c0 bx2c1 : Nat) (x2c0c0 : aSp) (x2c0c2 : List (Bool × aSt)) (r : tbr × (List Zb)) : ES := thenS (fun s' => TL tp 21 (ca [1,0,0] Try.f31) s' ((Cx bx0 bx2c0 bx2c1 x2c0c0 x2c0c2 r))) ((Cx bx0 bx2c0 bx2c1 x2c0c0 x2c0c2 r))
abbrev T2 (bx0 bx2c0 bx2c1 : Nat) (x2c0c0 : aSp) (x2c0c2 : List (Bool × aSt)) (r : tbr × (List Zb)) : ES := thenS (fun s' => T tp 21 (ca [1,0,0,1] Try.f31) s' ((Oq bx0 bx2c0 bx2c1 x2c0c0 x2c0c2 r))) ((Oq bx0 bx2c0 bx2c1 x2c0c0 x2c0c2 r))
theorem Ot {r : tbr × (List Zb)} (K bx0 : Nat) (bx2c0 bx2c1 : Nat) (x2c0c0 : aSp) (x2c0c2 : List (Bool × aSt)) (c : ByteArray) (f : Bool) (x2c0c0 : aSp) (g : List Zb) (x2c0c2 : List (Bool × aSt)) (a b : Value) (h : Cf K c f x2c0c0 g x2c0c2 = some r) : T tp 21 (ca [1,0,0,0,1,1] Try.f31) ⟨[], [(Q8 bx0 c f), (Zc bx2c0 x2c0c0.Of x2c0c0.Many a b), .arrA a 42 2 (mA g), .arrX b 59 4 0 (x2c0c2.map Qw), (Zl bx2c1 bx0)]⟩ (T2 bx0 bx2c0 bx2c1 x2c0c0 x2c0c2 r) := by
 unfold Cf at h
 refine T.exit (Qf (Qf (Qp ?_)))
 exact Q6 (.nil) (.cons 0 rfl (.cons 0 rfl (.cons 0 rfl (.cons 0 rfl (.cons 0 rfl (.nil _)))))) (by cases h; exact ⟨gl [a, b], rfl, rfl⟩)
theorem tbr_times_l0_T {r : tbr × (List Zb)} (K bx0 : Nat) (bx2c0 bx2c1 : Nat) (x2c0c0 : aSp) (x2c0c2 : List (Bool × aSt)) : ∀ (k : Nat), ∀ (x1 q : Int) (l : ByteArray) (m : Bool) (x2c0c0 : aSp) (p : List Zb) (x2c0c2 : List (Bool × aSt)) (g j : Value), Vy K k x1 q l m x2c0c0 p x2c0c2 = some r → TL tp 21 (ca [1,0,0] Try.f31) ⟨[(0, .ptr bx0 0), (1, .int .i64 x1), (2, .c (.ex (.func (.func 33) #[] #[.pointer (some ⟨bx2c0, 0, none⟩), .pointer (some ⟨bx2c1, 0, none⟩)]))), (6, .int .i64 q)], [(Q8 bx0 l m), (Zc bx2c0 x2c0c0.Of x2c0c0.Many g j), .arrA g 42 2 (mA p), .arrX j 59 4 0 (x2c0c2.map Qw), (Zl bx2c1 bx0)]⟩ (Cx bx0 bx2c0 bx2c1 x2c0c0 x2c0c2 r) := by
 intro k
 induction k with
 | zero =>
  intro x1 q l m x2c0c0 p x2c0c2 g j h
  cases (show (none : Option (tbr × (List Zb))) = some r from h)
 | succ k ih =>
  intro x1 q l m x2c0c0 p x2c0c2 g j h
  rw [Vy] at h
  refine Q4 ?_
  refine T.seq ?_
  refine T.seq (Qq ?_)
  refine mw rfl ?_
  refine mw rfl ?_
  refine sp rfl (Qa rfl rfl (dk rfl) rfl rfl ?_)
  refine mw rfl ?_
  rcases Qd h with ⟨a, h⟩ | ⟨a, h⟩
  refine sn rfl a (OpT.move rfl (dk rfl) rfl ?_)
  refine sn rfl a (OpT.nilCheck rfl (dk rfl) rfl rfl ?_)
  refine sn rfl a (Qg rfl (dk rfl) ul75 rfl i4 (by decide) rfl ?_)
  refine sn rfl a (Qm (i := 0) rfl (dk rfl) ul4 rfl rfl rfl rfl ?_)
  refine sn rfl a (OpT.not rfl (dk rfl) rfl ?_)
  refine sp rfl (Qi rfl (dk rfl) rfl a rfl ?_)
  refine TL'.nil (tN ?_)
  rcases Qd h with ⟨s, h⟩ | ⟨s, h⟩
  refine Qk rfl s ?_
  refine T.skip (tN ?_)
  refine T.seq ?_
  refine T.block ?_
  refine Qq ?_
  refine mw rfl ?_
  obtain ⟨u, w, h⟩ := bind_some h
  refine sp rfl (Fa (f := 33) (vs := [.pointer (some ⟨bx2c0, 0, none⟩), .pointer (some ⟨bx2c1, 0, none⟩)]) rfl rfl (dk rfl) Try.func33 rfl rfl (Q2 (is := [1, 2, 3, 4, 0]) (ph := []) rfl (dk rfl) Try.func33 rfl rfl (Q3.cons rfl (Q3.cons rfl Q3.nil)) (tb_Decode_1_T K (bx0 := bx2c0) (wx0c1 := g) (wx0c2 := j) (bx1 := bx2c1) (bx1_p := bx0) w) (.cons rfl rfl (.cons rfl rfl (.cons rfl rfl (.cons rfl rfl (.cons rfl rfl (.nil)))))) (fun _ => rfl) (fun v => ?_)))
  refine nm (.c (.c (.c (.c (.c (.n)))))) ?_
  refine TL'.nil (Qe (tN ?_))
  refine Qq ?_
  refine mw rfl ?_
  refine sp rfl (Qa rfl rfl (dk rfl) rfl rfl ?_)
  refine aw rfl ?_
  refine TL'.nil (tN ?_)
  refine Qb ?_ (ih x1 (wI (q + (1:Int))) u.2.b u.2.bad x2c0c0 u.1 x2c0c2 (v 0) (v 1) h)
  exact tq rfl rfl
  refine Qo rfl s ?_
  refine Qc ?_ (Ot K bx0 bx2c0 bx2c1 x2c0c0 x2c0c2 l m x2c0c0 p x2c0c2 g j h)
  exact tq rfl rfl
  refine pf rfl a ?_
  refine pf rfl a ?_
  refine pf rfl a ?_
  refine pf rfl a ?_
  refine pf rfl a ?_
  refine sp rfl (Qs rfl (dk rfl) rfl a rfl ?_)
  refine TL'.nil (tN ?_)
  refine Qo rfl rfl ?_
  refine Qc ?_ (Ot K bx0 bx2c0 bx2c1 x2c0c0 x2c0c2 l m x2c0c0 p x2c0c2 g j h)
  exact tq rfl rfl
theorem tbr_times_T (K : Nat) {x0 : tbr} {x1 : Int} {x2c0c0 : aSp} {x2c0c1 : List Zb} {x2c0c2 : List (Bool × aSt)} {bx0 bx2c0 : Nat} {wx2c0c1 wx2c0c2 : Value} {bx2c1 : Nat} {r : tbr × (List Zb)} (h : Ij K x0 x1 x2c0c0 x2c0c1 x2c0c2 = some r) : Uz tp 31 [.ptr bx0 0, .int .i64 x1, .c (.ex (.func (.func 33) #[] #[.pointer (some ⟨bx2c0, 0, none⟩), .pointer (some ⟨bx2c1, 0, none⟩)]))] [(Q8 bx0 x0.b x0.bad), (Zc bx2c0 x2c0c0.Of x2c0c0.Many wx2c0c1 wx2c0c2), .arrA wx2c0c1 42 2 (mA x2c0c1), .arrX wx2c0c2 59 4 0 (x2c0c2.map Qw), (Zl bx2c1 bx0)] (fun γ => (.tup [])) (fun γ => [(Q8 bx0 r.1.b r.1.bad), (Zc bx2c0 x2c0c0.Of x2c0c0.Many (γ 0) (γ 1)), .arrA (γ 0) 42 2 (mA r.2), .arrX (γ 1) 59 4 0 (x2c0c2.map Qw), (Zl bx2c1 bx0)]) := by
 refine Qt Try.func31 rfl (nb rfl) ?_
 show T tp 21 (ca [] Try.f31) ⟨Qv 0 [.ptr bx0 0, .int .i64 x1, .c (.ex (.func (.func 33) #[] #[.pointer (some ⟨bx2c0, 0, none⟩), .pointer (some ⟨bx2c1, 0, none⟩)]))], [(Q8 bx0 x0.b x0.bad), (Zc bx2c0 x2c0c0.Of x2c0c0.Many wx2c0c1 wx2c0c2), .arrA wx2c0c1 42 2 (mA x2c0c1), .arrX wx2c0c2 59 4 0 (x2c0c2.map Qw), (Zl bx2c1 bx0)]⟩ (Qai bx0 bx2c0 bx2c1 x2c0c0 x2c0c2 r)
 unfold Ij at h
 refine T.seq (Qq ?_)
 refine aw rfl ?_
 refine TL'.nil (tN ?_)
 refine T.block ?_
 refine T.loop ?_
 refine Qb ?_ (tbr_times_l0_T K bx0 bx2c0 bx2c1 x2c0c0 x2c0c2 K x1 (0:Int) x0.b x0.bad x2c0c0 x2c0c1 x2c0c2 wx2c0c1 wx2c0c2 h)
 exact tq rfl rfl
abbrev tbr_list_1_q (bx0 bx1 bx1_p : Nat) (r : (List Int) × tbr) : ES := Jk tp Try.f56 (fun y t => ∃ γ : Nat → Value, y = (.tup []) ∧ t = [(Kv bx0 (γ 0)), .arrA (γ 0) 3 1 (mI r.1), (Zl bx1 bx1_p), (Q8 bx1_p r.2.b r.2.bad)])
theorem tbr_list_1_T (K : Nat) {x0 : List Int} {x1_p : tbr} {bx0 : Nat} {wx0 : Value} {bx1 bx1_p : Nat} {r : (List Int) × tbr} (h : Ns K x0 x1_p = some r) : Uz tp 56 [.ptr bx0 0, .ptr bx1 0] [(Kv bx0 wx0), .arrA wx0 3 1 (mI x0), (Zl bx1 bx1_p), (Q8 bx1_p x1_p.b x1_p.bad)] (fun γ => (.tup [])) (fun γ => [(Kv bx0 (γ 0)), .arrA (γ 0) 3 1 (mI r.1), (Zl bx1 bx1_p), (Q8 bx1_p r.2.b r.2.bad)]) := by
 refine Qt Try.func56 rfl (nb rfl) ?_
 show T tp 7 (ca [] Try.f56) ⟨Qv 0 [.ptr bx0 0, .ptr bx1 0], [(Kv bx0 wx0), .arrA wx0 3 1 (mI x0), (Zl bx1 bx1_p), (Q8 bx1_p x1_p.b x1_p.bad)]⟩ (tbr_list_1_q bx0 bx1 bx1_p r)
 unfold Ns at h
 refine Qc Zs ?_
 refine Y3 ?_
 refine dC (c := ⟨some 2, .c (.ex wx0), [(0, .ptr bx0 0)], [(1, (Kv bx0 wx0))], []⟩) (fun t hm => oF rfl rfl (Qm (i := 1) rfl (dk rfl) Yd rfl hm.s0 hm.o0 rfl ⟨u0, rfl⟩)) (fun _ => rfl) (fun _ => rfl) ?_
 refine dC (c := ⟨some 3, .ptr bx1_p 0, [(1, .ptr bx1 0)], [(3, (Zl bx1 bx1_p))], []⟩) (fun t hm => oF rfl rfl (Qm (i := 3) rfl (dk rfl) ul73 rfl hm.s0 hm.o0 rfl ⟨u0, rfl⟩)) (fun _ => rfl) (fun _ => rfl) ?_
 obtain ⟨j, l, h⟩ := bind_some h
 refine dC (c := ⟨some 4, .int .i64 j.1, [(3, .ptr bx1_p 0)], [(4, (Q8 bx1_p x1_p.b x1_p.bad))], [(4, (Q8 bx1_p j.2.b j.2.bad))]⟩) (fun t hm => oF rfl rfl (Q2 (is := [4]) (ph := []) rfl (dk rfl) Try.func32 rfl rfl (Q3.cons hm.s0 Q3.nil) (Kl K (bx0 := bx1_p) l) (.cons hm.o0 rfl (.nil)) (fun _ => rfl) (fun g => ⟨(g, 0), rfl⟩))) (fun _ => rfl) (fun _ => rfl) ?_
 refine dC (c := ⟨some 5, .sl true 1 ([j.1].map (cI .i64)), [(4, .int .i64 j.1)], [], []⟩) (fun t hm => oF rfl rfl (OpT.buildSlice (elems := ([j.1] : List Int).map (cI .i64)) rfl (dk rfl) Yd i3 (by decide) rfl (J6 rfl) (Xm hm.s0 rfl V6) rfl rfl (Yp rfl) (by decide) ⟨u0, rfl⟩)) (fun _ => rfl) (fun _ => rfl) ?_
 obtain ⟨m, h⟩ := Zh h
 refine DGG.step (c := fun a => ⟨some 6, .c (.ex ((a 4).1 0)), [(5, .sl true 1 ([j.1].map (cI .i64))), (2, .c (.ex wx0))], [(2, .arrA wx0 3 1 (mI x0))], [(2, .arrA ((a 4).1 0) 3 1 ((x0 ++ [j.1]).map (cI .i64)))]⟩) [4] (fun a γ' h => by simp only [h 4 (by decide)]) (fun a t hm => oF rfl rfl (Za (i := 2) (xs := x0) (ys := [j.1]) (f := (cI .i64)) rfl (dk rfl) Yd i3 rfl hm.s1 hm.o0 hm.s0 m (fun w => ⟨(fun _ => w, 0), rfl⟩))) (fun a => Zq rfl rfl) ?_
 refine DGG.step (c := fun a => ⟨none, .any, [(0, .ptr bx0 0), (6, .c (.ex ((a 4).1 0)))], [(1, (Kv bx0 wx0))], [(1, (Kv bx0 ((a 4).1 0)))]⟩) [4] (fun a γ' h => by simp only [h 4 (by decide)]) (fun a t hm => oF rfl rfl (Xd (i := 1) (cells' := [.d (.ex ((a 4).1 0))]) rfl rfl i56 hm.s0 hm.s1 hm.o0 (nb rfl) rfl ⟨u0, rfl⟩)) (fun a => Zq rfl rfl) ?_
 refine Vi (s1 := fun a => ⟨[], [.ro 0 [], (Kv bx0 ((a 4).1 0)), .arrA ((a 4).1 0) 3 1 ((x0 ++ [j.1]).map (cI .i64)), (Zl bx1 bx1_p), (Q8 bx1_p j.2.b j.2.bad)]⟩) (ms := [0, 0, 2, 6, 15, 31]) Q7 rfl (by kernel_rfl) (by kernel_rfl) (by kernel_rfl) (fun a => by kernel_rfl) (fun a => .nil _) (fun _ => rfl) (fun a u hu => (Xf hu ?_))
 exact Q6 (.nil) (.cons 1 rfl (.cons 1 rfl (.cons 1 rfl (.cons 1 rfl (.nil _))))) (by cases h; exact ⟨gl [(a 4).1 0], rfl, rfl⟩)
end Go.Rv

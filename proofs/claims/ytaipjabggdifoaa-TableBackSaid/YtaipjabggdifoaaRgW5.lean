/- Each function computes what its plain text says: printed by a program of ours. -/
import Derived.Test.YtaipjabggdifoaaRgW4
namespace Go.Rv
open Go.Proofs
set_option maxRecDepth 100000
set_option maxHeartbeats 4000000
set_option linter.unusedVariables false
abbrev Rn (r : aAu × Int) : ES := Jt tp Try.f26 (fun y t => y = (.tup [.agg ((Qy.dc 256 .u8 r.1.Split.Of) ++ (([.int .i64 r.1.Split.Many, .sl false 2 (mA r.1.Counts), .sl false 4 (r.1.States.map Qx)] : List DC))), .int .i64 r.2]) ∧ t = [])
abbrev Pt (r : aAu × Int) : ES := thenS (fun s' => T tp 198 (ca [1,1,1,1,1,1,1,1] Try.f26) s' ((Rn r))) ((Rn r))
abbrev Js (r : aAu × Int) : ES := Q0 2 ((Pt r))
abbrev My (r : aAu × Int) : ES := thenS (fun s' => TL tp 198 (ca [1,1,1,1,1,1,1,0,1,0,0] Try.f26) s' ((Js r))) ((Js r))
abbrev Ew (r : aAu × Int) : ES := thenS (fun s' => T tp 198 (ca [1,1,1,1,1,1,1,0,1,0,0,1,1] Try.f26) s' ((My r))) ((My r))
abbrev Wm (r : aAu × Int) : ES := Q0 3 ((Ew r))
abbrev Mr (r : aAu × Int) : ES := thenS (fun s' => T tp 198 (ca [1,1,1,1,1,1,1,0,1,0,0,1,0,0,1,1,1,1] Try.f26) s' ((Wm r))) ((Wm r))
abbrev Yi (r : aAu × Int) : ES := Q0 4 ((Mr r))
abbrev Jr (r : aAu × Int) : ES := thenS (fun s' => TL tp 198 (ca [1,1,1,1,1,1,1,0,1,0,0,1,0,0,1,1,1,0,1,0,0] Try.f26) s' ((Yi r))) ((Yi r))
abbrev Gz (r : aAu × Int) : ES := thenS (fun s' => T tp 198 (ca [1,1,1,1,1,1,1,0,1,0,0,1,0,0,1,1,1,0,1,0,0,1,1] Try.f26) s' ((Jr r))) ((Jr r))
abbrev Xt (r : aAu × Int) : ES := Q0 5 ((Gz r))
abbrev W3 (r : aAu × Int) : ES := thenS (fun s' => T tp 198 (ca [1,1,1,1,1,1,1,0,1,0,0,1,0,0,1,1,1,0,1,0,0,1,0,0,1,1,1] Try.f26) s' ((Xt r))) ((Xt r))
abbrev Uw (r : aAu × Int) : ES := Q0 6 ((W3 r))
abbrev r1_Of_qs11111 (r : aAu × Int) : ES := thenS (fun s' => T tp 198 (ca [1,1,1,1,1] Try.f26) s' ((Rn r))) ((Rn r))
abbrev Rm (r : aAu × Int) : ES := Q0 0 ((r1_Of_qs11111 r))
abbrev r1_Of_l2_H (r : aAu × Int) (go : Int → Int → Int → Qy → (List Ze) → (List aSt) → (List Int) → (List U9) → Qy → Int → Int → (List Int) → (List Ze) → (List aSt) → (List Int) → (List (List aMv)) → Option (aAu × Int)) : Prop := ∀ (a b f : Int) (g : Qy) (i : List Ze) (j : List aSt) (l : List Int) (m : List U9) (n : Qy) (p q : Int) (s : List Int) (u : List Ze) (v : List aSt) (w : List Int) (y : List (List aMv)) (z : Nat) (aa ab : Value) (ac : Nat) (ad af : Value) (w4_2aa ag ai : Value), go a b f g i j l m n p q s u v w y = some r → TL tp 198 (ca [1,1,1,1,1,1,1,0,1,0,0,1,0,0,1,1,1,0,1,0,0] Try.f26) ⟨[(2, .ptr z 0), (4, .ptr ac 0), (7, .int .i64 a), (8, .int .i64 b), (9, .c (.ex ag)), (10, .c (.ex ai)), (11, .int .i64 f)], [(Z6 z g (0:Int) aa ab), .arrA aa 42 2 (mA i), .arrX ab 59 4 0 (j.map Qx), (Z5 ac l m ad n p af w4_2aa q), .arrA ad 3 1 (mI s), .arrA af 42 2 (mA u), .arrX w4_2aa 59 4 0 (v.map Qx), .arrA ag 3 1 (mI w), .arrA ai 61 1 (y.map (cL 2 Qw))]⟩ (Yi r)
theorem r1_Of_l3_T {r : aAu × Int} (K : Nat) (go2 : Int → Int → Int → Qy → (List Ze) → (List aSt) → (List Int) → (List U9) → Qy → Int → Int → (List Int) → (List Ze) → (List aSt) → (List Int) → (List (List aMv)) → Option (aAu × Int)) (hgo2 : r1_Of_l2_H r go2) : ∀ (k : Nat), ∀ (af ag : Int) (ai an : Int) (y : Qy) (aa : List Ze) (ab : List aSt) (ap : List Int) (aq : List U9) (au : Qy) (av ay : Int) (az : List Int) (a0 : List Ze) (a1 : List aSt) (ac : List Int) (s : List (List aMv)) (q : List aMv) (p : Nat) (v w : Value) (j : Nat) (aj al : Value) (w4_3aa ad : Value) (am a2 : Value), P0 K go2 k af ag ai an y aa ab ap aq au av ay az a0 a1 ac s q = some r → TL tp 198 (ca [1,1,1,1,1,1,1,0,1,0,0,1,0,0,1,1,1,0,1,0,0,1,0,0,1,1,0,1,0,0] Try.f26) ⟨[(2, .ptr p 0), (4, .ptr j 0), (7, .int .i64 af), (8, .int .i64 ag), (9, .c (.ex ad)), (10, .c (.ex am)), (11, .int .i64 ai), (12, .c (.ex a2)), (13, .int .i64 an)], [(Z6 p y (0:Int) v w), .arrA v 42 2 (mA aa), .arrX w 59 4 0 (ab.map Qx), (Z5 j ap aq aj au av al w4_3aa ay), .arrA aj 3 1 (mI az), .arrA al 42 2 (mA a0), .arrX w4_3aa 59 4 0 (a1.map Qx), .arrA ad 3 1 (mI ac), .arrA am 61 1 (s.map (cL 2 Qw)), .arrA a2 63 2 (q.map Qw)]⟩ (Uw r) := by
 intro k
 induction k with
 | zero =>
  intro af ag ai an y aa ab ap aq au av ay az a0 a1 ac s q p v w j aj al w4_3aa ad am a2 h
  cases (show (none : Option (aAu × Int)) = some r from h)
 | succ k ih =>
  intro af ag ai an y aa ab ap aq au av ay az a0 a1 ac s q p v w j aj al w4_3aa ad am a2 h
  rw [P0] at h
  refine Za ?_
  refine T.seq ?_
  refine T.seq (Qr ?_)
  refine mw rfl ?_
  refine mw rfl ?_
  refine sp rfl (OpT.nilCheck rfl (dk rfl) rfl rfl ?_)
  refine sp rfl (Ql rfl (dk rfl) C9 rfl i28 (by decide) rfl ?_)
  refine sp rfl (Ql rfl (dk rfl) Xu rfl i24 (by decide) rfl ?_)
  refine sp rfl (Ql rfl (dk rfl) F7 rfl i3 (by decide) rfl ?_)
  refine sp rfl (Qo (i := 3) rfl (dk rfl) ul3 rfl rfl rfl rfl ?_)
  refine sp rfl (Qa rfl rfl (dk rfl) rfl rfl ?_)
  refine TL'.nil (tN ?_)
  rcases Qb h with ⟨a3, h⟩ | ⟨a3, h⟩
  refine Qk rfl a3 ?_
  refine T.skip (tN ?_)
  refine T.seq ?_
  refine T.block ?_
  refine T.seq (Qr ?_)
  iterate 5 refine mw rfl ?_
  obtain ⟨b, a6, h⟩ := bind_some h
  refine sp rfl (Q6 (is := [3, 4, 5, 6]) (ph := []) rfl (dk rfl) Try.func52 rfl rfl (Q5.cons rfl (Q5.cons rfl (Q5.cons rfl (Q5.cons rfl Q5.nil)))) (Oz K (bx0 := j) (wx0c1 := aj) (wx0c2c1 := al) (wx0c2c2 := w4_3aa) a6) (.cons rfl rfl (.cons rfl rfl (.cons rfl rfl (.cons rfl rfl (.nil))))) (fun _ => rfl) (fun m => ?_))
  refine nm (.c (.c (.c (.c (.c (.c (.c (.c (.c (.c (.n))))))))))) ?_
  refine sp rfl (OpT.buildSlice (elems := ([b.1] : List aMv).map Qw) rfl (dk rfl) I8 i63 (by decide) rfl (Ho rfl) rfl rfl rfl (Xc rfl) (by decide) ?_)
  obtain ⟨a7, h⟩ := Zm h
  refine sp rfl (Zf (i := 9) (xs := q) (ys := [b.1]) (f := Qw) rfl (dk rfl) I8 i63 rfl rfl rfl rfl a7 (fun a5 => ?_))
  refine aw rfl ?_
  refine TL'.nil (tN (T.seq (Qr ?_)))
  refine mw rfl ?_
  refine sp rfl (OpT.nilCheck rfl (dk rfl) rfl rfl ?_)
  refine sp rfl (Ql rfl (dk rfl) C9 rfl i30 (by decide) rfl ?_)
  refine sp rfl (Qo (i := 3) rfl (dk rfl) ul30 rfl rfl rfl rfl ?_)
  refine sp rfl (Qa rfl rfl (dk rfl) rfl rfl ?_)
  refine TL'.nil (tN ?_)
  rcases Qb h with ⟨a4, h⟩ | ⟨a4, h⟩
  refine Qk rfl a4 ?_
  refine T.seq ?_
  refine Xl ?_
  refine dS (c := ⟨some 167, .agg ((Qy.dc 256 .u8 (Qy.mk fun _ => 0)) ++ (([.int .i64 (0:Int), .ex (.slice none 0 0), .ex (.slice none 0 0)] : List DC))), [], [], []⟩) (fun t hm => oF rfl rfl (OpT.build (l := ((Qy.dc 256 .u8 (Qy.mk fun _ => 0)) ++ (([.int .i64 (0:Int), .ex (.slice none 0 0), .ex (.slice none 0 0)] : List DC)))) rfl (dk rfl) (Zx (pl := [(0, 257), (257, 1), (258, 1)]) Xu i28 rfl) (Ho rfl) Ux rfl rfl)) rfl rfl ?_
  refine Yg rfl rfl rfl rfl rfl rfl ?_
  refine dS (c := ⟨some 169, .ptr j 0, [(168, .ptr j 0)], [], []⟩) (fun t hm => oF rfl rfl (OpT.nilCheck rfl (dk rfl) hm.s0 rfl rfl)) rfl rfl ?_
  refine dS (c := ⟨some 170, .ptr j (0 + 262), [(169, .ptr j 0)], [], []⟩) (fun t hm => oF rfl rfl (Ql rfl (dk rfl) C9 rfl i30 (by decide) hm.s0 rfl)) rfl rfl ?_
  refine dS (c := ⟨some 171, .int .i64 b.2.e, [(170, .ptr j (0 + 262))], [(3, (Z5 j b.2.g.First b.2.g.P (m 0) b.2.a.Split.Of b.2.a.Split.Many (m 1) (m 2) b.2.e))], []⟩) (fun t hm => oF rfl rfl (Qo (i := 3) rfl (dk rfl) ul30 rfl hm.s0 hm.o0 rfl rfl)) rfl rfl ?_
  refine dS (c := ⟨none, .any, [(2, .ptr p 0), (167, .agg ((Qy.dc 256 .u8 (Qy.mk fun _ => 0)) ++ (([.int .i64 (0:Int), .ex (.slice none 0 0), .ex (.slice none 0 0)] : List DC))))], [(0, (Z6 p y (0:Int) v w))], [(0, (Z6 p (Qy.mk fun _ => 0) (0:Int) (.slice none 0 0) (.slice none 0 0)))]⟩) (fun t hm => oF rfl rfl (Qz (i := 0) (cells' := ((Qy.oc 256 .u8 (Qy.mk fun _ => 0)) ++ (([.d (.int .i64 (0:Int)), .d (.ex (.slice none 0 0)), .d (.ex (.slice none 0 0))]:List OC)))) rfl rfl i28 hm.s0 hm.s1 rfl hm.o0 (nb rfl) rfl rfl)) rfl rfl ?_
  refine dS (c := ⟨some 3, .int .i64 b.2.e, [(171, .int .i64 b.2.e)], [], []⟩) (fun t hm => oF rfl rfl (OpT.assign rfl (dk rfl) hm.s0 rfl)) rfl rfl ?_
  refine Ys (s1 := ⟨[(2, .ptr p 0), (3, .int .i64 b.2.e)], [(Z6 p (Qy.mk fun _ => 0) (0:Int) (.slice none 0 0) (.slice none 0 0)), .arrA v 42 2 (mA aa), .arrX w 59 4 0 (ab.map Qx), (Z5 j b.2.g.First b.2.g.P (m 0) b.2.a.Split.Of b.2.a.Split.Many (m 1) (m 2) b.2.e), .arrA (m 0) 3 1 (mI b.2.number), .arrA (m 1) 42 2 (mA b.2.a.Counts), .arrX (m 2) 59 4 0 (b.2.a.States.map Qx), .arrA ad 3 1 (mI ac), .arrA am 61 1 (s.map (cL 2 Qw)), .arrA a5 63 2 ((q ++ [b.1]).map Qw)]⟩) (ms := [0, 0, 2, 6, 14, 1, 63]) Q7 rfl (by kernel_rfl) (by kernel_rfl) (by kernel_rfl) (sf rfl) rfl (fun u hu => (tN (Qd hu ?_)))
  refine T.ret (Qt (Qj (Qj (Qt (Qj (Qt (Qj (Qj (Qt (Qj (Qt (Qj (Qj (Qt (Qj ?_)))))))))))))))
  refine Vd (Ln 0 (l := ((Qy.dc 256 .u8 (Qy.mk fun _ => 0)) ++ (([.int .i64 (0:Int), .ex (.slice none 0 0), .ex (.slice none 0 0)] : List DC)))) (l' := ((Qy.dc 256 .u8 (Qy.mk fun _ => 0)) ++ (([.int .i64 (0:Int), .sl false 2 (([] : List Ze).map (Ze.dc .i64)), .sl false 4 (([] : List aSt).map Qx)] : List DC)))) rfl (.app _ (.cons (.same _) (.cons (.nil _ _) (.cons (.nil _ _) (.refl _)))))) ?_
  exact Fin.done (.cons _ _ _ _ (.cellAgg 2 28 _ 0 0 28 _ ((Qy.dc 256 .u8 (Qy.mk fun _ => 0)) ++ (([.int .i64 (0:Int), .sl false 2 (([] : List Ze).map (Ze.dc .i64)), .sl false 4 (([] : List aSt).map Qx)] : List DC))) _ _ 259 _ rfl rfl rfl rfl Xu rfl i28) (.cons _ _ _ _ (.tmp 3 _ rfl) .nil)) (by cases h; exact ⟨rfl, rfl⟩)
  refine Qp rfl a4 ?_
  refine T.skip (Qe (tN ?_))
  refine Qr ?_
  refine mw rfl ?_
  refine sp rfl (Qa rfl rfl (dk rfl) rfl rfl ?_)
  refine aw rfl ?_
  refine TL'.nil (tN ?_)
  refine Qc ?_ (ih af ag ai (wI (an + (1:Int))) y aa ab b.2.g.First b.2.g.P b.2.a.Split.Of b.2.a.Split.Many b.2.e b.2.number b.2.a.Counts b.2.a.States ac s (q ++ [b.1]) p v w j (m 0) (m 1) (m 2) ad am a5 h)
  exact tq rfl rfl
  refine Qp rfl a3 ?_
  refine T.exit (Qh (Qh (Qq (tN ?_))))
  refine Qr ?_
  refine mw rfl ?_
  refine mw rfl ?_
  refine Xk (Zn.view 173 9 rfl rfl) ?_
  refine sp rfl (OpT.buildSlice (elems := ([q] : List (List aMv)).map (cL 2 Qw)) rfl (dk rfl) Dh i61 (by decide) rfl (Ho rfl) rfl rfl rfl (Xc rfl) (by decide) ?_)
  obtain ⟨a8, h⟩ := Zm h
  refine sp rfl (Zf (i := 8) (xs := s) (ys := [q]) (f := (cL 2 Qw)) rfl (dk rfl) Dh i61 rfl rfl rfl rfl a8 (fun a9 => ?_))
  refine aw rfl ?_
  refine TL'.nil (Qe (tN ?_))
  refine Qr ?_
  refine mw rfl ?_
  refine sp rfl (Qa rfl rfl (dk rfl) rfl rfl ?_)
  refine aw rfl ?_
  refine TL'.nil (tN ?_)
  refine Qc ?_ (hgo2 af ag (wI (ai + (1:Int))) y aa ab ap aq au av ay az a0 a1 ac (s ++ [q]) p v w j aj al w4_3aa ad a9 h)
  exact tq rfl rfl
abbrev r1_Of_l1_H (r : aAu × Int) (go : Int → Qy → (List Ze) → (List aSt) → (List Int) → (List U9) → Qy → Int → Int → (List Int) → (List Ze) → (List aSt) → Option (aAu × Int)) : Prop := ∀ (a : Int) (b : Qy) (c : List Ze) (f : List aSt) (g : List Int) (i : List U9) (j : Qy) (l m : Int) (n : List Int) (p : List Ze) (q : List aSt) (s : Nat) (u v : Value) (w : Nat) (y z w4_1aa : Value), go a b c f g i j l m n p q = some r → TL tp 198 (ca [1,1,1,1,1,1,1,0,1,0,0] Try.f26) ⟨[(2, .ptr s 0), (4, .ptr w 0), (7, .int .i64 a)], [(Z6 s b (0:Int) u v), .arrA u 42 2 (mA c), .arrX v 59 4 0 (f.map Qx), (Z5 w g i y j l z w4_1aa m), .arrA y 3 1 (mI n), .arrA z 42 2 (mA p), .arrX w4_1aa 59 4 0 (q.map Qx)]⟩ (Js r)
theorem r1_Of_l2_T {r : aAu × Int} (K : Nat) (go1 : Int → Qy → (List Ze) → (List aSt) → (List Int) → (List U9) → Qy → Int → Int → (List Int) → (List Ze) → (List aSt) → Option (aAu × Int)) (hgo1 : r1_Of_l1_H r go1) : ∀ (k : Nat), ∀ (g aq au : Int) (u : Qy) (v : List Ze) (w : List aSt) (y : List Int) (aa : List U9) (ab : Qy) (ac ad : Int) (af : List Int) (ag : List Ze) (b : List aSt) (j : List Int) (p : List (List aMv)) (ai : Nat) (aj al : Value) (q : Nat) (am an : Value) (w4_2aa ay av : Value), Nu K go1 k g aq au u v w y aa ab ac ad af ag b j p = some r → TL tp 198 (ca [1,1,1,1,1,1,1,0,1,0,0,1,0,0,1,1,1,0,1,0,0] Try.f26) ⟨[(2, .ptr ai 0), (4, .ptr q 0), (7, .int .i64 g), (8, .int .i64 aq), (9, .c (.ex ay)), (10, .c (.ex av)), (11, .int .i64 au)], [(Z6 ai u (0:Int) aj al), .arrA aj 42 2 (mA v), .arrX al 59 4 0 (w.map Qx), (Z5 q y aa am ab ac an w4_2aa ad), .arrA am 3 1 (mI af), .arrA an 42 2 (mA ag), .arrX w4_2aa 59 4 0 (b.map Qx), .arrA ay 3 1 (mI j), .arrA av 61 1 (p.map (cL 2 Qw))]⟩ (Yi r) := by
 intro k
 induction k with
 | zero =>
  intro g aq au u v w y aa ab ac ad af ag b j p ai aj al q am an w4_2aa ay av h
  cases (show (none : Option (aAu × Int)) = some r from h)
 | succ k ih =>
  intro g aq au u v w y aa ab ac ad af ag b j p ai aj al q am an w4_2aa ay av h
  rw [Nu] at h
  refine Za ?_
  refine T.seq ?_
  refine T.seq (Qr ?_)
  refine mw rfl ?_
  refine mw rfl ?_
  refine sp rfl (Qa rfl rfl (dk rfl) rfl rfl ?_)
  refine TL'.nil (tN ?_)
  rcases Qb h with ⟨az, h⟩ | ⟨az, h⟩
  refine Qk rfl az ?_
  refine T.skip (tN ?_)
  refine T.seq ?_
  refine T.block ?_
  refine T.seq (Qr ?_)
  iterate 3 refine mw rfl ?_
  refine sp rfl (OpT.nilCheck rfl (dk rfl) rfl rfl ?_)
  refine sp rfl (Ql rfl (dk rfl) C9 rfl i28 (by decide) rfl ?_)
  refine sp rfl (Ql rfl (dk rfl) Xu rfl i26 (by decide) rfl ?_)
  refine sp rfl (Qo (i := 3) rfl (dk rfl) Vx rfl rfl rfl rfl ?_)
  refine mw rfl ?_
  obtain ⟨ap, a2, h⟩ := bind_some h
  refine sp rfl (W5 (n := 6) (xs := b) (f := Qx) (old := ap) rfl (dk rfl) Vx i59 rfl rfl rfl a2 ?_)
  refine sp rfl (N5 (i := 6) (xs := b) (f := Qx) (old := ap) (l := [.sl false 1 (mI ap.L), .sl false 1 (mI ap.R), .sl false 1 (mI ap.Rule), .sl false 1 (ap.Next.map (cL 2 Qw))]) rfl (dk rfl) Uh rfl i59 rfl rfl (Z7 a2).2 rfl rfl ?_)
  refine mw rfl ?_
  obtain ⟨a0, a5, h⟩ := bind_some h
  refine sp rfl (Q6 (is := [3, 4, 5, 6]) (ph := []) rfl (dk rfl) Try.func51 rfl rfl (Q5.cons rfl (Q5.cons rfl (Q5.cons rfl Q5.nil))) (Ox K (bx0 := q) (wx0c1 := am) (wx0c2c1 := an) (wx0c2c2 := w4_2aa) a5) (.cons rfl rfl (.cons rfl rfl (.cons rfl rfl (.cons rfl rfl (.nil))))) (fun _ => rfl) (fun a1 => ?_))
  refine nm (.c (.c (.c (.c (.c (.c (.c (.c (.c (.n)))))))))) ?_
  refine sp rfl (OpT.buildSlice (elems := ([a0] : List Int).map (cI .i64)) rfl (dk rfl) Yo i3 (by decide) rfl (Ho rfl) rfl rfl rfl (Xc rfl) (by decide) ?_)
  obtain ⟨a6, h⟩ := Zm h
  refine sp rfl (Zf (i := 7) (xs := j) (ys := [a0]) (f := (cI .i64)) rfl (dk rfl) Yo i3 rfl rfl rfl rfl a6 (fun a7 => ?_))
  refine aw rfl ?_
  refine TL'.nil (tN (T.seq (Qr ?_)))
  refine aw rfl ?_
  refine TL'.nil (tN ?_)
  refine T.seq ?_
  refine T.seq (Qr ?_)
  refine aw rfl ?_
  refine TL'.nil (tN ?_)
  refine T.block ?_
  refine T.loop ?_
  refine Qc (Y7 63 2) ?_
  refine Qc ?_ (r1_Of_l3_T K (Nu K go1 k) ih K g aq au (0:Int) u v w y aa ab ac ad af ag b (j ++ [a0]) p [] ai aj al q (a1 0) (a1 1) (a1 2) a7 av (Df 51) h)
  exact tr rfl (.c (.s .z) (.c (.s .z) (.c (.s .z) (.c (.s .z) (.c (.s .z) (.c (.s .z) (.c (.s .z) (.c (.s .z) (.c (.s .z) (.c .z (.n _)))))))))))
  refine Qp rfl az ?_
  refine T.exit (Qh (Qh (Qq (tN ?_))))
  refine T.seq (Qr ?_)
  refine mw rfl ?_
  refine sp rfl (OpT.nilCheck rfl (dk rfl) rfl rfl ?_)
  refine sp rfl (Ql rfl (dk rfl) C9 rfl i28 (by decide) rfl ?_)
  refine sp rfl (Ql rfl (dk rfl) Xu rfl i26 (by decide) rfl ?_)
  refine sp rfl (Qo (i := 3) rfl (dk rfl) Vx rfl rfl rfl rfl ?_)
  refine mw rfl ?_
  refine mw rfl ?_
  obtain ⟨a, a3, h⟩ := bind_some h
  refine sp rfl (W5 (n := 6) (xs := b) (f := Qx) (old := a) rfl (dk rfl) Vx i59 rfl rfl rfl a3 ?_)
  refine sp rfl (Ue rfl (dk rfl) Uh rfl i56 (by decide) rfl ?_)
  refine Xk (Zn.view 182 7 rfl rfl) ?_
  refine sp rfl (R2 (i := 6) (xs := b) (f := Qx) (old := a) (new := (aSt.mk a.L a.R j a.Next)) rfl rfl i56 rfl rfl rfl (Z7 a3).2 (Nat.zero_le _) (nb rfl) rfl ?_)
  refine TL'.nil (tN ?_)
  refine Qr ?_
  refine mw rfl ?_
  refine sp rfl (OpT.nilCheck rfl (dk rfl) rfl rfl ?_)
  refine sp rfl (Ql rfl (dk rfl) C9 rfl i28 (by decide) rfl ?_)
  refine sp rfl (Ql rfl (dk rfl) Xu rfl i26 (by decide) rfl ?_)
  refine sp rfl (Qo (i := 3) rfl (dk rfl) Vx rfl rfl rfl rfl ?_)
  refine mw rfl ?_
  refine mw rfl ?_
  obtain ⟨m, a4, h⟩ := bind_some h
  refine sp rfl (W5 (n := 6) (xs := (List.set b (Int.toNat g) (aSt.mk a.L a.R j a.Next))) (f := Qx) (old := m) rfl (dk rfl) Vx i59 rfl rfl rfl a4 ?_)
  refine sp rfl (Ue rfl (dk rfl) Uh rfl i57 (by decide) rfl ?_)
  refine Xk (Zn.view 191 8 rfl rfl) ?_
  refine sp rfl (R2 (i := 6) (xs := (List.set b (Int.toNat g) (aSt.mk a.L a.R j a.Next))) (f := Qx) (old := m) (new := (aSt.mk m.L m.R m.Rule p)) rfl rfl i57 rfl rfl rfl (Z7 a4).2 (Nat.zero_le _) (nb rfl) rfl ?_)
  refine TL'.nil (Qe (tN ?_))
  refine Qr ?_
  refine mw rfl ?_
  refine sp rfl (Qa rfl rfl (dk rfl) rfl rfl ?_)
  refine aw rfl ?_
  refine TL'.nil (tN ?_)
  refine Qc ?_ (hgo1 (wI (g + (1:Int))) u v w y aa ab ac ad af ag (List.set (List.set b (Int.toNat g) (aSt.mk a.L a.R j a.Next)) (Int.toNat g) (aSt.mk m.L m.R m.Rule p)) ai aj al q am an w4_2aa h)
  exact tq rfl rfl
theorem r1_Of_l1_T {r : aAu × Int} (K : Nat) : ∀ (k : Nat), ∀ (p : Int) (q : Qy) (u : List Ze) (v : List aSt) (w : List Int) (y : List U9) (b : Qy) (g aa : Int) (ab : List Int) (j : List Ze) (a : List aSt) (ac : Nat) (ad af : Value) (ag : Nat) (ai m w4_1aa : Value), Nv K k p q u v w y b g aa ab j a = some r → TL tp 198 (ca [1,1,1,1,1,1,1,0,1,0,0] Try.f26) ⟨[(2, .ptr ac 0), (4, .ptr ag 0), (7, .int .i64 p)], [(Z6 ac q (0:Int) ad af), .arrA ad 42 2 (mA u), .arrX af 59 4 0 (v.map Qx), (Z5 ag w y ai b g m w4_1aa aa), .arrA ai 3 1 (mI ab), .arrA m 42 2 (mA j), .arrX w4_1aa 59 4 0 (a.map Qx)]⟩ (Js r) := by
 intro k
 induction k with
 | zero =>
  intro p q u v w y b g aa ab j a ac ad af ag ai m w4_1aa h
  cases (show (none : Option (aAu × Int)) = some r from h)
 | succ k ih =>
  intro p q u v w y b g aa ab j a ac ad af ag ai m w4_1aa h
  rw [Nv] at h
  refine Za ?_
  refine T.seq ?_
  refine T.seq (Qr ?_)
  refine mw rfl ?_
  refine mw rfl ?_
  refine sp rfl (OpT.nilCheck rfl (dk rfl) rfl rfl ?_)
  refine sp rfl (Ql rfl (dk rfl) C9 rfl i28 (by decide) rfl ?_)
  refine sp rfl (Ql rfl (dk rfl) Xu rfl i26 (by decide) rfl ?_)
  refine sp rfl (Qo (i := 3) rfl (dk rfl) Vx rfl rfl rfl rfl ?_)
  refine sp rfl (E3 (i := 6) (xs := a) (f := Qx) rfl (dk rfl) Vx rfl rfl ?_)
  refine sp rfl (Qa rfl rfl (dk rfl) rfl rfl ?_)
  refine TL'.nil (tN ?_)
  rcases Qb h with ⟨aj, h⟩ | ⟨aj, h⟩
  refine Qk rfl aj ?_
  refine T.skip (tN ?_)
  refine T.seq ?_
  refine T.block ?_
  refine T.seq (Qr ?_)
  refine mw rfl ?_
  refine sp rfl (OpT.nilCheck rfl (dk rfl) rfl rfl ?_)
  refine sp rfl (Ql rfl (dk rfl) C9 rfl i28 (by decide) rfl ?_)
  refine sp rfl (Ql rfl (dk rfl) Xu rfl i26 (by decide) rfl ?_)
  refine sp rfl (Qo (i := 3) rfl (dk rfl) Vx rfl rfl rfl rfl ?_)
  refine mw rfl ?_
  obtain ⟨al, am, h⟩ := bind_some h
  refine sp rfl (W5 (n := 6) (xs := a) (f := Qx) (old := al) rfl (dk rfl) Vx i59 rfl rfl rfl am ?_)
  refine sp rfl (Ue rfl (dk rfl) Uh rfl i56 (by decide) rfl ?_)
  refine sp rfl (OpT.loadXM (i := 6) (xs := a) (f := Qx) (old := al) rfl (dk rfl) Yo rfl rfl rfl (Z7 am).2 rfl ?_)
  refine sp rfl (Qn (xs := al.R) (f := (cI .i64)) rfl (dk rfl) Yo rfl ?_)
  obtain ⟨an, ap, h⟩ := bind_some h
  refine sp rfl (Q2 rfl (dk rfl) Try.func50 rfl rfl (Q5.cons rfl Q5.nil) (Zp.nil (r1_Codes_T K ap)) ?_)
  refine aw rfl ?_
  refine TL'.nil (tN (T.seq (Qr ?_)))
  refine aw rfl ?_
  refine TL'.nil (tN (T.seq (Qr ?_)))
  refine aw rfl ?_
  refine TL'.nil (tN ?_)
  refine T.seq ?_
  refine T.seq (Qr ?_)
  refine aw rfl ?_
  refine TL'.nil (tN ?_)
  refine T.block ?_
  refine T.loop ?_
  refine Qc (Y7 3 1) ?_
  refine Qc (Y7 61 1) ?_
  refine Qc ?_ (r1_Of_l2_T K (Nv K k) ih K p an (0:Int) q u v w y b g aa ab j a [] [] ac ad af ag ai m w4_1aa (Df 49) (Df 50) h)
  exact tr rfl (.c (.s (.s .z)) (.c (.s (.s .z)) (.c (.s (.s .z)) (.c (.s (.s .z)) (.c (.s (.s .z)) (.c (.s (.s .z)) (.c (.s (.s .z)) (.c (.s .z) (.c .z (.n _))))))))))
  refine Qp rfl aj ?_
  refine T.exit (Qh (Qh (Qq (tN ?_))))
  refine T.seq (Qr ?_)
  refine mw rfl ?_
  refine sp rfl (OpT.nilCheck rfl (dk rfl) rfl rfl ?_)
  refine sp rfl (Ql rfl (dk rfl) C9 rfl i28 (by decide) rfl ?_)
  refine Xk (O9 6 rfl) ?_
  refine sp rfl (Zo (Zc (i := 3) (l := ((Qy.dc 256 .u8 b) ++ (([.int .i64 g, .ex m, .ex w4_1aa] : List DC)))) rfl (dk rfl) Xu rfl i28 rfl rfl rfl rfl rfl) (Y9 197 (l := ((Qy.dc 256 .u8 b) ++ (([.int .i64 g, .ex m, .ex w4_1aa] : List DC)))) (l' := ((Qy.dc 256 .u8 b) ++ (([.int .i64 g, .sl false 2 (mA j), .sl false 4 (a.map Qx)] : List DC)))) (.app _ (.cons (.same _) (.cons (.view 5 rfl) (.cons (.view 6 rfl) (.refl _)))))) ?_)
  refine sp rfl (Qz (i := 0) (cells' := ((Qy.oc 256 .u8 b) ++ (([.d (.int .i64 g), .d (.sl false 2 (mA j)), .d (.sl false 4 (a.map Qx))]:List OC)))) rfl rfl i28 rfl rfl rfl rfl (nb rfl) rfl ?_)
  refine aw rfl ?_
  refine TL'.nil (tN ?_)
  refine T.ret ?_
  exact Fin.done (.cons _ _ _ _ (.cellAgg 2 28 _ 0 0 28 _ ((Qy.dc 256 .u8 b) ++ (([.int .i64 g, .sl false 2 (mA j), .sl false 4 (a.map Qx)] : List DC))) _ _ 259 _ rfl rfl rfl rfl Xu rfl i28) (.cons _ _ _ _ (.tmp 3 _ rfl) .nil)) (by cases h; exact ⟨rfl, rfl⟩)
theorem r1_Of_l0_T {r : aAu × Int} (K : Nat) : ∀ (k : Nat), ∀ (aa : Int) (x0 : Y6) (ai : Qy) (aj : List Ze) (al : List aSt) (q : Qy) (ab : List Int) (m : List Ze) (an : List aSt) (am : List Zr) (y ad : Nat) (af ag : Value) (j : Nat) (ac p : Value) (w4_0aa au : Value), Nw K k aa x0 ai aj al q ab m an am = some r → TL tp 198 (ca [1,1,1,1,0,1,0,0] Try.f26) ⟨[(1, .ptr y 0), (2, .ptr ad 0), (4, .ptr j 0), (5, .c (.ex au)), (6, .int .i64 aa)], [(b71x6 y x0.First x0.P), (Z6 ad ai (0:Int) af ag), .arrA af 42 2 (mA aj), .arrX ag 59 4 0 (al.map Qx), (Z5 j x0.First x0.P ac q (0:Int) p w4_0aa (0:Int)), .arrA ac 3 1 (mI ab), .arrA p 42 2 (mA m), .arrX w4_0aa 59 4 0 (an.map Qx), .arrA au 102 4 (am.map (Zr.dc .u64))]⟩ (Rm r) := by
 intro k
 induction k with
 | zero =>
  intro aa x0 ai aj al q ab m an am y ad af ag j ac p w4_0aa au h
  cases (show (none : Option (aAu × Int)) = some r from h)
 | succ k ih =>
  intro aa x0 ai aj al q ab m an am y ad af ag j ac p w4_0aa au h
  rw [Nw] at h
  refine Za ?_
  refine T.seq ?_
  refine T.seq (Qr ?_)
  refine mw rfl ?_
  refine sp rfl (Ql rfl (dk rfl) ul71 rfl i69 (by decide) rfl ?_)
  refine sp rfl (Qo (i := 0) rfl (dk rfl) N9 rfl rfl rfl rfl ?_)
  refine sp rfl (Qn (xs := x0.P) (f := Zh) rfl (dk rfl) N9 rfl ?_)
  refine sp rfl (Qa rfl rfl (dk rfl) rfl rfl ?_)
  refine TL'.nil (tN ?_)
  rcases Qb h with ⟨ay, h⟩ | ⟨ay, h⟩
  refine Qk rfl ay ?_
  refine T.skip (tN ?_)
  refine T.seq ?_
  refine T.block ?_
  refine T.seq (Qr ?_)
  refine mw rfl ?_
  refine sp rfl (Ql rfl (dk rfl) ul71 rfl i69 (by decide) rfl ?_)
  refine sp rfl (Qo (i := 0) rfl (dk rfl) N9 rfl rfl rfl rfl ?_)
  refine mw rfl ?_
  obtain ⟨a, av, h⟩ := bind_some h
  refine sp rfl (Qi (xs := x0.P) (f := Zh) (v := a) rfl (dk rfl) N9 i104 rfl rfl av ?_)
  refine sp rfl (Yr rfl (dk rfl) Ce rfl i102 (by decide) rfl ?_)
  refine sp rfl (Zg rfl (dk rfl) M7 rfl i102 rfl (nb rfl) ?_)
  refine sp rfl (OpT.buildSlice (elems := ([a.S] : List Zr).map (Zr.dc .u64)) rfl (dk rfl) ul99 i102 (by decide) rfl (Ho rfl) rfl rfl rfl (Xc rfl) (by decide) ?_)
  obtain ⟨a6, h⟩ := Zm h
  refine sp rfl (Zf (i := 8) (xs := am) (ys := [a.S]) (f := (Zr.dc .u64)) rfl (dk rfl) ul99 i102 rfl rfl rfl rfl a6 (fun ap => ?_))
  refine aw rfl ?_
  refine TL'.nil (tN (T.seq (Qr ?_)))
  refine sp rfl (Ql rfl (dk rfl) ul71 rfl i69 (by decide) rfl ?_)
  refine sp rfl (Qo (i := 0) rfl (dk rfl) N9 rfl rfl rfl rfl ?_)
  refine mw rfl ?_
  refine sp rfl (Qi (xs := x0.P) (f := Zh) (v := a) rfl (dk rfl) N9 i104 rfl rfl av ?_)
  refine sp rfl (Yr rfl (dk rfl) Ce rfl i3 (by decide) rfl ?_)
  refine sp rfl (Qu rfl (dk rfl) ul3 rfl rfl rfl ?_)
  refine sp rfl (Qa rfl rfl (dk rfl) rfl rfl ?_)
  refine TL'.nil (tN ?_)
  rcases Qb h with ⟨az, h⟩ | ⟨az, h⟩
  refine Qk rfl az ?_
  refine T.seq ?_
  refine Qd Zt ?_
  refine Xi ?_
  refine dC (c := ⟨some 44, .ptr j 0, [(4, .ptr j 0)], [], []⟩) (fun t hm => oF rfl rfl (OpT.move rfl (dk rfl) hm.s0 ⟨u0, rfl⟩)) (fun _ => rfl) (fun _ => rfl) ?_
  refine dC (c := ⟨some 45, .ptr j 0, [(4, .ptr j 0)], [], []⟩) (fun t hm => oF rfl rfl (OpT.move rfl (dk rfl) hm.s0 ⟨u0, rfl⟩)) (fun _ => rfl) (fun _ => rfl) ?_
  refine dC (c := ⟨some 46, .ptr j 0, [(45, .ptr j 0)], [], []⟩) (fun t hm => oF rfl rfl (OpT.nilCheck rfl (dk rfl) hm.s0 rfl ⟨u0, rfl⟩)) (fun _ => rfl) (fun _ => rfl) ?_
  refine dC (c := ⟨some 47, .ptr j (0 + 2), [(46, .ptr j 0)], [], []⟩) (fun t hm => oF rfl rfl (Ql rfl (dk rfl) C9 rfl i56 (by decide) hm.s0 ⟨u0, rfl⟩)) (fun _ => rfl) (fun _ => rfl) ?_
  refine dC (c := ⟨some 48, .c (.ex ac), [(47, .ptr j (0 + 2))], [(5, (Z5 j x0.First x0.P ac q (0:Int) p w4_0aa (0:Int)))], []⟩) (fun t hm => oF rfl rfl (Qo (i := 5) rfl (dk rfl) Yo rfl hm.s0 hm.o0 rfl ⟨u0, rfl⟩)) (fun _ => rfl) (fun _ => rfl) ?_
  refine dC (c := ⟨some 49, .ptr j 0, [(4, .ptr j 0)], [], []⟩) (fun t hm => oF rfl rfl (OpT.move rfl (dk rfl) hm.s0 ⟨u0, rfl⟩)) (fun _ => rfl) (fun _ => rfl) ?_
  refine dC (c := ⟨some 50, .ptr j 0, [(49, .ptr j 0)], [], []⟩) (fun t hm => oF rfl rfl (OpT.nilCheck rfl (dk rfl) hm.s0 rfl ⟨u0, rfl⟩)) (fun _ => rfl) (fun _ => rfl) ?_
  refine dC (c := ⟨some 51, .ptr j (0 + 3), [(50, .ptr j 0)], [], []⟩) (fun t hm => oF rfl rfl (Ql rfl (dk rfl) C9 rfl i28 (by decide) hm.s0 ⟨u0, rfl⟩)) (fun _ => rfl) (fun _ => rfl) ?_
  refine dC (c := ⟨some 52, .ptr j (0 + 3 + 257), [(51, .ptr j (0 + 3))], [], []⟩) (fun t hm => oF rfl rfl (Ql rfl (dk rfl) Xu rfl i25 (by decide) hm.s0 ⟨u0, rfl⟩)) (fun _ => rfl) (fun _ => rfl) ?_
  refine dC (c := ⟨some 53, .sl false 2 (mA m), [(52, .ptr j (0 + 3 + 257))], [(5, (Z5 j x0.First x0.P ac q (0:Int) p w4_0aa (0:Int))), (7, .arrA p 42 2 (mA m))], []⟩) (fun t hm => oF rfl rfl (Zo (Qo (i := 5) rfl (dk rfl) Da rfl hm.s0 hm.o0 rfl rfl) (G4 53 7 hm.o1) ⟨u0, rfl⟩)) (fun _ => rfl) (fun _ => rfl) ?_
  refine dC (c := ⟨some 54, .int .i64 (m.length : Int), [(53, .sl false 2 (mA m))], [], []⟩) (fun t hm => oF rfl rfl (Qn (xs := m) (f := (Ze.dc .i64)) rfl (dk rfl) Da hm.s0 ⟨u0, rfl⟩)) (fun _ => rfl) (fun _ => rfl) ?_
  refine dC (c := ⟨some 55, .sl true 1 ([(m.length : Int)].map (cI .i64)), [(54, .int .i64 (m.length : Int))], [], []⟩) (fun t hm => oF rfl rfl (OpT.buildSlice (elems := ([(m.length : Int)] : List Int).map (cI .i64)) rfl (dk rfl) Yo i3 (by decide) rfl (Ho rfl) (Xj hm.s0 rfl Ux) rfl rfl (Xc rfl) (by decide) ⟨u0, rfl⟩)) (fun _ => rfl) (fun _ => rfl) ?_
  obtain ⟨a7, h⟩ := Zm h
  refine DGG.step (c := fun g => ⟨some 56, .c (.ex ((g 12).1 0)), [(55, .sl true 1 ([(m.length : Int)].map (cI .i64))), (48, .c (.ex ac))], [(6, .arrA ac 3 1 (mI ab))], [(6, .arrA ((g 12).1 0) 3 1 ((ab ++ [(m.length : Int)]).map (cI .i64)))]⟩) [12] (fun g γ' h => by simp only [h 12 (by decide)]) (fun g t hm => oF rfl rfl (Zf (i := 6) (xs := ab) (ys := [(m.length : Int)]) (f := (cI .i64)) rfl (dk rfl) Yo i3 rfl hm.s1 hm.o0 hm.s0 a7 (fun w => ⟨(fun _ => w, 0), rfl⟩))) (fun g => Zq rfl rfl) ?_
  refine dC (c := ⟨some 57, .ptr j 0, [(44, .ptr j 0)], [], []⟩) (fun t hm => oF rfl rfl (OpT.nilCheck rfl (dk rfl) hm.s0 rfl ⟨u0, rfl⟩)) (fun _ => rfl) (fun _ => rfl) ?_
  refine dC (c := ⟨some 58, .ptr j (0 + 2), [(57, .ptr j 0)], [], []⟩) (fun t hm => oF rfl rfl (Ql rfl (dk rfl) C9 rfl i56 (by decide) hm.s0 ⟨u0, rfl⟩)) (fun _ => rfl) (fun _ => rfl) ?_
  refine DGG.step (c := fun g => ⟨none, .any, [(58, .ptr j (0 + 2)), (56, .c (.ex ((g 12).1 0)))], [(5, (Z5 j x0.First x0.P ac q (0:Int) p w4_0aa (0:Int)))], [(5, (Z5 j x0.First x0.P ((g 12).1 0) q (0:Int) p w4_0aa (0:Int)))]⟩) [12] (fun g γ' h => by simp only [h 12 (by decide)]) (fun g t hm => oF rfl rfl (Ug (i := 5) (cells' := (([.d (.sl false 1 (mI x0.First)), .d (.sl false 9 (x0.P.map Zh)), .d (.ex ((g 12).1 0))]:List OC) ++ ((Qy.oc 256 .u8 q) ++ (([.d (.int .i64 (0:Int)), .d (.ex p), .d (.ex w4_0aa), .d (.int .i64 (0:Int))]:List OC))))) rfl rfl i56 hm.s0 hm.s1 hm.o0 (nb rfl) rfl ⟨u0, rfl⟩)) (fun g => Zq rfl rfl) ?_
  refine Vz (s1 := fun g => ⟨[(1, .ptr y 0), (2, .ptr ad 0), (4, .ptr j 0), (5, .c (.ex ap)), (6, .int .i64 aa)], [.ro 0 [], (b71x6 y x0.First x0.P), (Z6 ad ai (0:Int) af ag), .arrA af 42 2 (mA aj), .arrX ag 59 4 0 (al.map Qx), (Z5 j x0.First x0.P ((g 12).1 0) q (0:Int) p w4_0aa (0:Int)), .arrA ((g 12).1 0) 3 1 ((ab ++ [(m.length : Int)]).map (cI .i64)), .arrA p 42 2 (mA m), .arrX w4_0aa 59 4 0 (an.map Qx), .arrA ap 102 4 ((am ++ [a.S]).map (Zr.dc .u64))]⟩) (ms := [0, 0, 2, 6, 14, 0, 32, 96, 224, 480, 992, 2016, 4094, 8191, 16383, 32767]) Q7 rfl (by kernel_rfl) (by kernel_rfl) (by kernel_rfl) (fun g => by kernel_rfl) (fun g => sf rfl) (fun _ => rfl) (fun g u hu => (tN (Qd hu ?_)))
  refine Qd Zt ?_
  refine Xi ?_
  refine dC (c := ⟨some 59, .ptr j 0, [(4, .ptr j 0)], [], []⟩) (fun t hm => oF rfl rfl (OpT.move rfl (dk rfl) hm.s0 ⟨u0, rfl⟩)) (fun _ => rfl) (fun _ => rfl) ?_
  refine dC (c := ⟨some 60, .ptr j 0, [(4, .ptr j 0)], [], []⟩) (fun t hm => oF rfl rfl (OpT.move rfl (dk rfl) hm.s0 ⟨u0, rfl⟩)) (fun _ => rfl) (fun _ => rfl) ?_
  refine dC (c := ⟨some 61, .ptr j 0, [(60, .ptr j 0)], [], []⟩) (fun t hm => oF rfl rfl (OpT.nilCheck rfl (dk rfl) hm.s0 rfl ⟨u0, rfl⟩)) (fun _ => rfl) (fun _ => rfl) ?_
  refine dC (c := ⟨some 62, .ptr j (0 + 3), [(61, .ptr j 0)], [], []⟩) (fun t hm => oF rfl rfl (Ql rfl (dk rfl) C9 rfl i28 (by decide) hm.s0 ⟨u0, rfl⟩)) (fun _ => rfl) (fun _ => rfl) ?_
  refine dC (c := ⟨some 63, .ptr j (0 + 3 + 257), [(62, .ptr j (0 + 3))], [], []⟩) (fun t hm => oF rfl rfl (Ql rfl (dk rfl) Xu rfl i25 (by decide) hm.s0 ⟨u0, rfl⟩)) (fun _ => rfl) (fun _ => rfl) ?_
  refine dC (c := ⟨some 64, .c (.ex p), [(63, .ptr j (0 + 3 + 257))], [(6, (Z5 j x0.First x0.P ((g 12).1 0) q (0:Int) p w4_0aa (0:Int)))], []⟩) (fun t hm => oF rfl rfl (Qo (i := 6) rfl (dk rfl) Da rfl hm.s0 hm.o0 rfl ⟨u0, rfl⟩)) (fun _ => rfl) (fun _ => rfl) ?_
  refine dC (c := ⟨some 65, .ptr y (0 + 1), [(1, .ptr y 0)], [], []⟩) (fun t hm => oF rfl rfl (Ql rfl (dk rfl) ul71 rfl i69 (by decide) hm.s0 ⟨u0, rfl⟩)) (fun _ => rfl) (fun _ => rfl) ?_
  refine dC (c := ⟨some 66, .sl false 9 (x0.P.map Zh), [(65, .ptr y (0 + 1))], [(2, (b71x6 y x0.First x0.P))], []⟩) (fun t hm => oF rfl rfl (Qo (i := 2) rfl (dk rfl) N9 rfl hm.s0 hm.o0 rfl ⟨u0, rfl⟩)) (fun _ => rfl) (fun _ => rfl) ?_
  refine dC (c := ⟨some 67, .int .i64 aa, [(6, .int .i64 aa)], [], []⟩) (fun t hm => oF rfl rfl (OpT.move rfl (dk rfl) hm.s0 ⟨u0, rfl⟩)) (fun _ => rfl) (fun _ => rfl) ?_
  refine dC (c := ⟨some 68, .ref [.int .u64 a.S.a0, .int .u64 a.S.a1, .int .u64 a.S.a2, .int .u64 a.S.a3, .int .i64 a.Lo, .int .i64 a.Hi, .int .i64 a.Rule, .bool a.Last, .sl false 1 (mI a.Next)], [(66, .sl false 9 (x0.P.map Zh)), (67, .int .i64 aa)], [], []⟩) (fun t hm => oF rfl rfl (Qi (xs := x0.P) (f := Zh) (v := a) rfl (dk rfl) N9 i104 hm.s0 hm.s1 av ⟨u0, rfl⟩)) (fun _ => rfl) (fun _ => rfl) ?_
  refine dC (c := ⟨some 69, .ref [.int .i64 a.Lo, .int .i64 a.Hi, .int .i64 a.Rule, .bool a.Last, .sl false 1 (mI a.Next)], [(68, .ref [.int .u64 a.S.a0, .int .u64 a.S.a1, .int .u64 a.S.a2, .int .u64 a.S.a3, .int .i64 a.Lo, .int .i64 a.Hi, .int .i64 a.Rule, .bool a.Last, .sl false 1 (mI a.Next)])], [], []⟩) (fun t hm => oF rfl rfl (Yr rfl (dk rfl) Ce rfl i3 (by decide) hm.s0 ⟨u0, rfl⟩)) (fun _ => rfl) (fun _ => rfl) ?_
  refine dC (c := ⟨some 70, .int .i64 a.Lo, [(69, .ref [.int .i64 a.Lo, .int .i64 a.Hi, .int .i64 a.Rule, .bool a.Last, .sl false 1 (mI a.Next)])], [], []⟩) (fun t hm => oF rfl rfl (Qu rfl (dk rfl) ul3 rfl hm.s0 rfl ⟨u0, rfl⟩)) (fun _ => rfl) (fun _ => rfl) ?_
  refine dC (c := ⟨some 71, .ptr y (0 + 1), [(1, .ptr y 0)], [], []⟩) (fun t hm => oF rfl rfl (Ql rfl (dk rfl) ul71 rfl i69 (by decide) hm.s0 ⟨u0, rfl⟩)) (fun _ => rfl) (fun _ => rfl) ?_
  refine dC (c := ⟨some 72, .sl false 9 (x0.P.map Zh), [(71, .ptr y (0 + 1))], [(2, (b71x6 y x0.First x0.P))], []⟩) (fun t hm => oF rfl rfl (Qo (i := 2) rfl (dk rfl) N9 rfl hm.s0 hm.o0 rfl ⟨u0, rfl⟩)) (fun _ => rfl) (fun _ => rfl) ?_
  refine dC (c := ⟨some 73, .int .i64 aa, [(6, .int .i64 aa)], [], []⟩) (fun t hm => oF rfl rfl (OpT.move rfl (dk rfl) hm.s0 ⟨u0, rfl⟩)) (fun _ => rfl) (fun _ => rfl) ?_
  refine dC (c := ⟨some 74, .ref [.int .u64 a.S.a0, .int .u64 a.S.a1, .int .u64 a.S.a2, .int .u64 a.S.a3, .int .i64 a.Lo, .int .i64 a.Hi, .int .i64 a.Rule, .bool a.Last, .sl false 1 (mI a.Next)], [(72, .sl false 9 (x0.P.map Zh)), (73, .int .i64 aa)], [], []⟩) (fun t hm => oF rfl rfl (Qi (xs := x0.P) (f := Zh) (v := a) rfl (dk rfl) N9 i104 hm.s0 hm.s1 av ⟨u0, rfl⟩)) (fun _ => rfl) (fun _ => rfl) ?_
  refine dC (c := ⟨some 75, .ref [.int .i64 a.Hi, .int .i64 a.Rule, .bool a.Last, .sl false 1 (mI a.Next)], [(74, .ref [.int .u64 a.S.a0, .int .u64 a.S.a1, .int .u64 a.S.a2, .int .u64 a.S.a3, .int .i64 a.Lo, .int .i64 a.Hi, .int .i64 a.Rule, .bool a.Last, .sl false 1 (mI a.Next)])], [], []⟩) (fun t hm => oF rfl rfl (Yr rfl (dk rfl) Ce rfl i3 (by decide) hm.s0 ⟨u0, rfl⟩)) (fun _ => rfl) (fun _ => rfl) ?_
  refine dC (c := ⟨some 76, .int .i64 a.Hi, [(75, .ref [.int .i64 a.Hi, .int .i64 a.Rule, .bool a.Last, .sl false 1 (mI a.Next)])], [], []⟩) (fun t hm => oF rfl rfl (Qu rfl (dk rfl) ul3 rfl hm.s0 rfl ⟨u0, rfl⟩)) (fun _ => rfl) (fun _ => rfl) ?_
  refine dC (c := ⟨some 77, .agg (Ze.dc .i64 (Ze.mk a.Lo a.Hi)), [(70, .int .i64 a.Lo), (76, .int .i64 a.Hi)], [], []⟩) (fun t hm => oF rfl rfl (OpT.build (l := (Ze.dc .i64 (Ze.mk a.Lo a.Hi))) rfl (dk rfl) (N1 ul42 i42 i3) (Ho rfl) (Xj hm.s0 rfl (Xj hm.s1 rfl Ux)) rfl ⟨u0, rfl⟩)) (fun _ => rfl) (fun _ => rfl) ?_
  refine dC (c := ⟨some 78, .sl true 2 ([(Ze.mk a.Lo a.Hi)].map (Ze.dc .i64)), [(77, .agg (Ze.dc .i64 (Ze.mk a.Lo a.Hi)))], [], []⟩) (fun t hm => oF rfl rfl (OpT.buildSlice (elems := ([(Ze.mk a.Lo a.Hi)] : List Ze).map (Ze.dc .i64)) rfl (dk rfl) Da i42 (by decide) rfl (Ho rfl) (Xj hm.s0 rfl Ux) rfl rfl (Xc rfl) (by decide) ⟨u0, rfl⟩)) (fun _ => rfl) (fun _ => rfl) ?_
  obtain ⟨a8, h⟩ := Zm h
  refine DGG.step (c := fun b => ⟨some 79, .c (.ex ((b 20).1 0)), [(78, .sl true 2 ([(Ze.mk a.Lo a.Hi)].map (Ze.dc .i64))), (64, .c (.ex p))], [(8, .arrA p 42 2 (mA m))], [(8, .arrA ((b 20).1 0) 42 2 ((m ++ [(Ze.mk a.Lo a.Hi)]).map (Ze.dc .i64)))]⟩) [20] (fun b γ' h => by simp only [h 20 (by decide)]) (fun b t hm => oF rfl rfl (Zf (i := 8) (xs := m) (ys := [(Ze.mk a.Lo a.Hi)]) (f := (Ze.dc .i64)) rfl (dk rfl) Da i42 rfl hm.s1 hm.o0 hm.s0 a8 (fun w => ⟨(fun _ => w, 0), rfl⟩))) (fun b => Zq rfl rfl) ?_
  refine dC (c := ⟨some 80, .ptr j 0, [(59, .ptr j 0)], [], []⟩) (fun t hm => oF rfl rfl (OpT.nilCheck rfl (dk rfl) hm.s0 rfl ⟨u0, rfl⟩)) (fun _ => rfl) (fun _ => rfl) ?_
  refine dC (c := ⟨some 81, .ptr j (0 + 3), [(80, .ptr j 0)], [], []⟩) (fun t hm => oF rfl rfl (Ql rfl (dk rfl) C9 rfl i28 (by decide) hm.s0 ⟨u0, rfl⟩)) (fun _ => rfl) (fun _ => rfl) ?_
  refine dC (c := ⟨some 82, .ptr j (0 + 3 + 257), [(81, .ptr j (0 + 3))], [], []⟩) (fun t hm => oF rfl rfl (Ql rfl (dk rfl) Xu rfl i25 (by decide) hm.s0 ⟨u0, rfl⟩)) (fun _ => rfl) (fun _ => rfl) ?_
  refine DGG.step (c := fun b => ⟨none, .any, [(82, .ptr j (0 + 3 + 257)), (79, .c (.ex ((b 20).1 0)))], [(6, (Z5 j x0.First x0.P ((g 12).1 0) q (0:Int) p w4_0aa (0:Int)))], [(6, (Z5 j x0.First x0.P ((g 12).1 0) q (0:Int) ((b 20).1 0) w4_0aa (0:Int)))]⟩) [20] (fun b γ' h => by simp only [h 20 (by decide)]) (fun b t hm => oF rfl rfl (Ug (i := 6) (cells' := (([.d (.sl false 1 (mI x0.First)), .d (.sl false 9 (x0.P.map Zh)), .d (.ex ((g 12).1 0))]:List OC) ++ ((Qy.oc 256 .u8 q) ++ (([.d (.int .i64 (0:Int)), .d (.ex ((b 20).1 0)), .d (.ex w4_0aa), .d (.int .i64 (0:Int))]:List OC))))) rfl rfl i25 hm.s0 hm.s1 hm.o0 (nb rfl) rfl ⟨u0, rfl⟩)) (fun b => Zq rfl rfl) ?_
  refine Vz (s1 := fun b => ⟨[(1, .ptr y 0), (2, .ptr ad 0), (4, .ptr j 0), (5, .c (.ex ap)), (6, .int .i64 aa)], [.ro 0 [], .ro 0 [], (b71x6 y x0.First x0.P), (Z6 ad ai (0:Int) af ag), .arrA af 42 2 (mA aj), .arrX ag 59 4 0 (al.map Qx), (Z5 j x0.First x0.P ((g 12).1 0) q (0:Int) ((b 20).1 0) w4_0aa (0:Int)), .arrA ((g 12).1 0) 3 1 ((ab ++ [(m.length : Int)]).map (cI .i64)), .arrA ((b 20).1 0) 42 2 ((m ++ [(Ze.mk a.Lo a.Hi)]).map (Ze.dc .i64)), .arrX w4_0aa 59 4 0 (an.map Qx), .arrA ap 102 4 ((am ++ [a.S]).map (Zr.dc .u64))]⟩) (ms := [0, 0, 2, 6, 14, 30, 0, 64, 0, 448, 960, 1984, 0, 4096, 0, 28672, 61440, 126976, 262080, 524224, 1048574, 2097151, 4194303, 8388607, 16777215]) Q7 rfl (by kernel_rfl) (by kernel_rfl) (by kernel_rfl) (fun b => by kernel_rfl) (fun b => sf rfl) (fun _ => rfl) (fun b u hu => (Qe (tN (Qd hu ?_))))
  refine Qr ?_
  refine mw rfl ?_
  refine sp rfl (Qa rfl rfl (dk rfl) rfl rfl ?_)
  refine aw rfl ?_
  refine TL'.nil (tN ?_)
  refine Qc ?_ (ih (wI (aa + (1:Int))) x0 ai aj al q (ab ++ [(m.length : Int)]) (m ++ [(Ze.mk a.Lo a.Hi)]) an (am ++ [a.S]) y ad af ag j ((g 12).1 0) ((b 20).1 0) w4_0aa ap h)
  exact tr rfl (.c (.s (.s .z)) (.c (.s (.s .z)) (.c (.s (.s .z)) (.c (.s (.s .z)) (.c (.s (.s .z)) (.c (.s (.s .z)) (.c (.s (.s .z)) (.c (.s (.s .z)) (.c (.s (.s .z)) (.n _))))))))))
  refine Qp rfl az ?_
  refine Qr ?_
  refine mw rfl ?_
  refine mw rfl ?_
  refine sp rfl (OpT.nilCheck rfl (dk rfl) rfl rfl ?_)
  refine sp rfl (Ql rfl (dk rfl) C9 rfl i56 (by decide) rfl ?_)
  refine sp rfl (Qo (i := 4) rfl (dk rfl) Yo rfl rfl rfl rfl ?_)
  refine sp rfl (OpT.buildSlice (elems := ([(-1:Int)] : List Int).map (cI .i64)) rfl (dk rfl) Yo i3 (by decide) rfl (Ho rfl) rfl rfl rfl (Xc rfl) (by decide) ?_)
  obtain ⟨a9, h⟩ := Zm h
  refine sp rfl (Zf (i := 5) (xs := ab) (ys := [(-1:Int)]) (f := (cI .i64)) rfl (dk rfl) Yo i3 rfl rfl rfl rfl a9 (fun a4 => ?_))
  refine sp rfl (OpT.nilCheck rfl (dk rfl) rfl rfl ?_)
  refine sp rfl (Ql rfl (dk rfl) C9 rfl i56 (by decide) rfl ?_)
  refine sp rfl (Ug (i := 4) (cells' := (([.d (.sl false 1 (mI x0.First)), .d (.sl false 9 (x0.P.map Zh)), .d (.ex a4)]:List OC) ++ ((Qy.oc 256 .u8 q) ++ (([.d (.int .i64 (0:Int)), .d (.ex p), .d (.ex w4_0aa), .d (.int .i64 (0:Int))]:List OC))))) rfl rfl i56 rfl rfl rfl (nb rfl) rfl ?_)
  refine TL'.nil (Qe (tN ?_))
  refine Qr ?_
  refine mw rfl ?_
  refine sp rfl (Qa rfl rfl (dk rfl) rfl rfl ?_)
  refine aw rfl ?_
  refine TL'.nil (tN ?_)
  refine Qc ?_ (ih (wI (aa + (1:Int))) x0 ai aj al q (ab ++ [(-1:Int)]) m an (am ++ [a.S]) y ad af ag j a4 p w4_0aa ap h)
  exact tq rfl rfl
  refine Qp rfl ay ?_
  refine T.exit (Qh (Qh (Qq (tN ?_))))
  refine T.seq (Qr ?_)
  refine mw rfl ?_
  refine mw rfl ?_
  obtain ⟨aq, ba, h⟩ := bind_some h
  refine sp rfl (Q2 rfl (dk rfl) Try.func49 rfl rfl (Q5.view (i := 8) rfl rfl Q5.nil) (Zp.nil (Pr K (flx0 := false) ba)) ?_)
  refine sp rfl (OpT.nilCheck rfl (dk rfl) rfl rfl ?_)
  refine sp rfl (Ql rfl (dk rfl) C9 rfl i28 (by decide) rfl ?_)
  refine sp rfl (Ql rfl (dk rfl) Xu rfl i24 (by decide) rfl ?_)
  refine sp rfl (Qz (i := 4) (cells' := (([.d (.sl false 1 (mI x0.First)), .d (.sl false 9 (x0.P.map Zh)), .d (.ex ac)]:List OC) ++ ((Qy.oc 256 .u8 aq.Of) ++ (([.d (.int .i64 aq.Many), .d (.ex p), .d (.ex w4_0aa), .d (.int .i64 (0:Int))]:List OC))))) rfl rfl i24 rfl rfl rfl rfl (nb rfl) rfl ?_)
  refine TL'.nil (tN (T.seq (Qr ?_)))
  refine mw rfl ?_
  refine sp rfl (Zo (OpT.build (l := [.ex (.slice none 0 0), .ex (.slice none 0 0), .ex (.slice none 0 0), .ex (.slice none 0 0)]) rfl (dk rfl) (Zx (pl := [(0, 1), (1, 1), (2, 1), (3, 1)]) Uh i59 rfl) (Ho rfl) rfl rfl rfl) (Y9 99 (l := [.ex (.slice none 0 0), .ex (.slice none 0 0), .ex (.slice none 0 0), .ex (.slice none 0 0)]) (l' := [.sl false 1 (([] : List Int).map (cI .i64)), .sl false 1 (([] : List Int).map (cI .i64)), .ex (.slice none 0 0), .ex (.slice none 0 0)]) (.cons (.nil _ _) (.cons (.nil _ _) (.cons (.same _) (.cons (.same _) (.refl _)))))) ?_)
  refine Xk (C6 99 (l := [.sl false 1 (([] : List Int).map (cI .i64)), .sl false 1 (([] : List Int).map (cI .i64)), .ex (.slice none 0 0), .ex (.slice none 0 0)]) (l' := [.sl false 1 (([] : List Int).map (cI .i64)), .sl false 1 (([] : List Int).map (cI .i64)), .sl false 1 (([] : List Int).map (cI .i64)), .sl false 1 (([] : List (List aMv)).map (cL 2 Qw))]) rfl (.cons (.same _) (.cons (.same _) (.cons (.nil _ _) (.cons (.nil _ _) (.refl _)))))) ?_
  refine sp rfl (E4 (elems := ([(aSt.mk [] [] [] [])] : List aSt).map Qx) rfl (dk rfl) Vx i59 (by decide) rfl (Ho rfl) rfl rfl rfl (Xc rfl) (by decide) (fun a5 => ?_))
  refine sp rfl (OpT.nilCheck rfl (dk rfl) rfl rfl ?_)
  refine sp rfl (Ql rfl (dk rfl) C9 rfl i28 (by decide) rfl ?_)
  refine sp rfl (Ql rfl (dk rfl) Xu rfl i26 (by decide) rfl ?_)
  refine sp rfl (Ug (i := 5) (cells' := (([.d (.sl false 1 (mI x0.First)), .d (.sl false 9 (x0.P.map Zh)), .d (.ex ac)]:List OC) ++ ((Qy.oc 256 .u8 aq.Of) ++ (([.d (.int .i64 aq.Many), .d (.ex p), .d (.ex (.slice (some ⟨a5, 0, none⟩) 1 1)), .d (.int .i64 (0:Int))]:List OC))))) rfl rfl i26 rfl rfl rfl (nb rfl) rfl ?_)
  refine TL'.nil (tN ?_)
  refine T.seq ?_
  refine T.seq (Qr ?_)
  refine aw rfl ?_
  refine TL'.nil (tN ?_)
  refine T.block ?_
  refine T.loop ?_
  refine Qc ?_ (r1_Of_l1_T K K (0:Int) ai aj al x0.First x0.P aq.Of aq.Many (0:Int) ab m [(aSt.mk [] [] [] [])] ad af ag j ac p (.slice (some ⟨a5, 0, none⟩) 1 1) h)
  exact tr rfl (.c (.s (.s .z)) (.c (.s (.s .z)) (.c (.s (.s .z)) (.c (.s (.s .z)) (.c (.s (.s .z)) (.c (.s (.s .z)) (.c .z (.n _))))))))
theorem r1_Of_T (K : Nat) {x0 : Y6} {r : aAu × Int} (h : r1_Of K x0 = some r) : Zp tp 26 [.agg [.sl false 1 (mI x0.First), .sl false 9 (x0.P.map Zh)]] [] (.tup [.agg ((Qy.dc 256 .u8 r.1.Split.Of) ++ (([.int .i64 r.1.Split.Many, .sl false 2 (mA r.1.Counts), .sl false 4 (r.1.States.map Qx)] : List DC))), .int .i64 r.2]) := by
 refine Qs Try.func26 rfl (nb rfl) ?_
 show T tp 198 (ca [] Try.f26) ⟨Qv 0 [.agg [.sl false 1 (mI x0.First), .sl false 9 (x0.P.map Zh)]], []⟩ (Rn r)
 unfold r1_Of at h
 refine T.seq (Qr ?_)
 refine sp rfl (Zb rfl (dk rfl) rfl (fun b => ?_))
 refine sp rfl (Zj rfl (dk rfl) i28 rfl (fun f => ?_))
 refine aw rfl ?_
 refine TL'.nil (tN ?_)
 refine T.seq ?_
 refine T.seq (Qr ?_)
 refine sp rfl (Zc (i := 1) (l := [.sl false 1 (mI x0.First), .sl false 9 (x0.P.map Zh)]) rfl (dk rfl) ul71 rfl i71 rfl rfl rfl rfl ?_)
 obtain ⟨m, g, h⟩ := bind_some h
 refine sp rfl (Q2 rfl (dk rfl) Try.func48 rfl rfl (Q5.cons rfl Q5.nil) (Zp.nil (Io K g)) ?_)
 refine sp rfl (OpT.not rfl (dk rfl) rfl ?_)
 refine TL'.nil (tN ?_)
 rcases Qb h with ⟨a, h⟩ | ⟨a, h⟩
 refine Qk rfl a ?_
 refine T.seq (Qr ?_)
 refine sp rfl (OpT.build (l := ((Qy.dc 256 .u8 (Qy.mk fun _ => 0)) ++ (([.int .i64 (0:Int), .ex (.slice none 0 0), .ex (.slice none 0 0)] : List DC)))) rfl (dk rfl) (Zx (pl := [(0, 257), (257, 1), (258, 1)]) Xu i28 rfl) (Ho rfl) rfl rfl ?_)
 refine sp rfl (Qz (i := 0) (cells' := ((Qy.oc 256 .u8 (Qy.mk fun _ => 0)) ++ (([.d (.int .i64 (0:Int)), .d (.ex (.slice none 0 0)), .d (.ex (.slice none 0 0))]:List OC)))) rfl rfl i28 rfl rfl rfl rfl (nb rfl) rfl ?_)
 refine aw rfl ?_
 refine TL'.nil (tN ?_)
 refine T.ret (Qj ?_)
 refine Vd (Ln 0 (l := ((Qy.dc 256 .u8 (Qy.mk fun _ => 0)) ++ (([.int .i64 (0:Int), .ex (.slice none 0 0), .ex (.slice none 0 0)] : List DC)))) (l' := ((Qy.dc 256 .u8 (Qy.mk fun _ => 0)) ++ (([.int .i64 (0:Int), .sl false 2 (([] : List Ze).map (Ze.dc .i64)), .sl false 4 (([] : List aSt).map Qx)] : List DC)))) rfl (.app _ (.cons (.same _) (.cons (.nil _ _) (.cons (.nil _ _) (.refl _)))))) ?_
 exact Fin.done (.cons _ _ _ _ (.cellAgg 2 28 _ 0 0 28 _ ((Qy.dc 256 .u8 (Qy.mk fun _ => 0)) ++ (([.int .i64 (0:Int), .sl false 2 (([] : List Ze).map (Ze.dc .i64)), .sl false 4 (([] : List aSt).map Qx)] : List DC))) _ _ 259 _ rfl rfl rfl rfl Xu rfl i28) (.cons _ _ _ _ (.tmp 3 _ rfl) .nil)) (by cases h; exact ⟨rfl, rfl⟩)
 refine Qp rfl a ?_
 refine T.skip (tN ?_)
 refine T.seq (Qr ?_)
 refine sp rfl (Zc (i := 1) (l := [.sl false 1 (mI x0.First), .sl false 9 (x0.P.map Zh)]) rfl (dk rfl) ul71 rfl i71 rfl rfl rfl rfl ?_)
 refine sp rfl (OpT.build (l := (([.sl false 1 (mI x0.First), .sl false 9 (x0.P.map Zh), .ex (.slice none 0 0)] : List DC) ++ ((Qy.dc 256 .u8 (Qy.mk fun _ => 0)) ++ (([.int .i64 (0:Int), .ex (.slice none 0 0), .ex (.slice none 0 0), .int .i64 (0:Int)] : List DC))))) rfl (dk rfl) (Zx (pl := [(0, 2), (2, 1), (3, 259), (262, 1)]) C9 i98 rfl) (Ho rfl) rfl rfl ?_)
 refine sp rfl (Zb rfl (dk rfl) rfl (fun j => ?_))
 refine aw rfl ?_
 refine TL'.nil (tN (T.seq (Qr ?_)))
 refine aw rfl ?_
 refine TL'.nil (tN ?_)
 refine T.seq ?_
 refine T.seq (Qr ?_)
 refine aw rfl ?_
 refine TL'.nil (tN ?_)
 refine T.block ?_
 refine T.loop ?_
 refine Qc (Y7 102 4) ?_
 refine Qc (Y7 42 2) ?_
 refine Qc (N4 59 4) ?_
 refine Qc (Y7 3 1) ?_
 refine Qc (Y7 42 2) ?_
 refine Qc (N4 59 4) ?_
 refine Qc ?_ (r1_Of_l0_T K K (0:Int) x0 (Qy.mk fun _ => 0) [] [] (Qy.mk fun _ => 0) [] [] [] [] b f (Df 44) (Df 45) j (Df 46) (Df 47) (Df 48) (Df 43) h)
 exact tr rfl (.c (.s (.s (.s (.s (.s (.s (.s (.s .z)))))))) (.c (.s (.s (.s (.s (.s (.s (.s .z))))))) (.c (.s (.s (.s (.s .z)))) (.c (.s (.s (.s .z))) (.c (.s (.s (.s (.s .z)))) (.c (.s (.s .z)) (.c (.s .z) (.c .z (.c .z (.n _))))))))))
abbrev l4_shown_q (r : Bool) : ES := Jt tp Try.f13 (fun y t => y = (.bool r) ∧ t = [])
theorem l4_shown_T (K : Nat) {r : Bool} (h : Ny K = some r) : Zp tp 13 [] [] (.bool r) := by
 refine Qs Try.func13 rfl (nb rfl) ?_
 show T tp 39 (ca [] Try.f13) ⟨Qv 0 [], []⟩ (l4_shown_q r)
 unfold Ny at h
 refine T.seq (Qr ?_)
 refine aw rfl ?_
 refine TL'.nil (tN (T.seq (Qr ?_)))
 refine sp rfl (Zo (OpT.build (l := [.ex (.slice none 0 0), .ex (.slice none 0 0)]) rfl (dk rfl) (Zx (pl := [(0, 1), (1, 1)]) ul71 i71 rfl) (Ho rfl) rfl rfl rfl) (Y9 6 (l := [.ex (.slice none 0 0), .ex (.slice none 0 0)]) (l' := [.sl false 1 (([] : List Int).map (cI .i64)), .sl false 9 (([] : List U9).map Zh)]) (.cons (.nil _ _) (.cons (.nil _ _) (.refl _)))) ?_)
 obtain ⟨m, u, h⟩ := bind_some h
 refine sp rfl (Q2 rfl (dk rfl) Try.func26 rfl rfl (Q5.cons rfl Q5.nil) (Zp.nil (r1_Of_T K u)) ?_)
 refine mw rfl ?_
 refine sp rfl (OpT.extract rfl (dk rfl) rfl rfl ?_)
 refine sp rfl (OpT.extract rfl (dk rfl) rfl rfl ?_)
 refine sp rfl (Zj rfl (dk rfl) i28 rfl (fun z => ?_))
 refine sp rfl (Qz (i := 0) (cells' := ((Qy.oc 256 .u8 m.1.Split.Of) ++ (([.d (.int .i64 m.1.Split.Many), .d (.sl false 2 (mA m.1.Counts)), .d (.sl false 4 (m.1.States.map Qx))]:List OC)))) rfl rfl i28 rfl rfl rfl rfl (nb rfl) rfl ?_)
 refine aw rfl ?_
 refine TL'.nil (tN (T.seq (Qr ?_)))
 refine sp rfl (Zc (i := 0) (l := ((Qy.dc 256 .u8 m.1.Split.Of) ++ (([.int .i64 m.1.Split.Many, .sl false 2 (mA m.1.Counts), .sl false 4 (m.1.States.map Qx)] : List DC)))) rfl (dk rfl) Xu rfl i28 rfl rfl rfl rfl ?_)
 obtain ⟨p, v, h⟩ := bind_some h
 refine sp rfl (Q2 rfl (dk rfl) Try.func10 rfl rfl (Q5.cons rfl Q5.nil) (Zp.nil (P5 K v)) ?_)
 refine mw rfl ?_
 refine sp rfl (OpT.extract rfl (dk rfl) rfl rfl ?_)
 refine sp rfl (OpT.extract rfl (dk rfl) rfl rfl ?_)
 refine aw rfl ?_
 refine aw rfl ?_
 refine TL'.nil (tN (T.seq (Qr ?_)))
 refine mw rfl ?_
 refine sp rfl (Qa rfl rfl (dk rfl) rfl rfl ?_)
 refine mw rfl ?_
 rcases Qb h with ⟨g, h⟩ | ⟨g, h⟩
 refine sn rfl g (OpT.move rfl (dk rfl) rfl ?_)
 refine sn rfl g (Qn (xs := p.1) (f := (cI .u8)) rfl (dk rfl) Vj rfl ?_)
 refine sn rfl g (Qa rfl rfl (dk rfl) rfl rfl ?_)
 refine sp rfl (Qf rfl (dk rfl) rfl g rfl ?_)
 refine mw rfl ?_
 rcases Qb h with ⟨a, h⟩ | ⟨a, h⟩
 refine sn rfl a (OpT.move rfl (dk rfl) rfl ?_)
 obtain ⟨q, h⟩ := Zm h
 refine sn rfl a (Pc (xs := p.1) (f := (cI .u8)) (l := 0) (h := (Int.toNat (4:Int))) rfl (dk rfl) Vj i5 rfl (.none _) (.some _ _ _ _ rfl q.1) q.2.1 q.2.2 ?_)
 refine sn rfl a (Wb (xs := ((p.1.take (Int.toNat (4:Int))).drop 0)) rfl (dk rfl) Vj ul5 ul9 rfl ?_)
 refine sn rfl a (C8 rfl (dk rfl) rfl rfl ?_)
 refine sp rfl (Qf rfl (dk rfl) rfl a rfl ?_)
 refine mw rfl ?_
 rcases Qb h with ⟨b, h⟩ | ⟨b, h⟩
 refine sn rfl b (OpT.move rfl (dk rfl) rfl ?_)
 obtain ⟨s, h⟩ := Zm h
 refine sn rfl b (Pc (xs := p.1) (f := (cI .u8)) (l := (Int.toNat (260:Int))) (h := p.1.length) rfl (dk rfl) Vj i5 rfl (.some _ _ _ _ rfl s.1) (.none _) s.2.1 s.2.2 ?_)
 refine sn rfl b (Wb (xs := ((p.1.take p.1.length).drop (Int.toNat (260:Int)))) rfl (dk rfl) Vj ul5 ul9 rfl ?_)
 refine sn rfl b (C8 rfl (dk rfl) rfl rfl ?_)
 refine sp rfl (Qf rfl (dk rfl) rfl b rfl ?_)
 refine mw rfl ?_
 rcases Qb h with ⟨j, h⟩ | ⟨j, h⟩
 refine Xk Zt ?_
 obtain ⟨w, y, h⟩ := bind_some h
 refine sn rfl j (Q6 (is := [0]) (ph := [.ro 0 []]) rfl (dk rfl) Try.func14 rfl rfl (Q5.nilSl rfl (Q5.cons rfl Q5.nil)) (P4 K (flx0 := false) y) (.cons rfl rfl (.nil)) (fun _ => rfl) (fun aa => ?_))
 refine nm (.c (.c (.n))) ?_
 refine Xk (Zn.view 35 0 rfl rfl) ?_
 refine sn rfl j (Wb (xs := w) rfl (dk rfl) Vj ul5 ul9 rfl ?_)
 refine sn rfl j (C8 rfl (dk rfl) rfl rfl ?_)
 refine sp rfl (Qf rfl (dk rfl) rfl j rfl ?_)
 refine aw rfl ?_
 refine TL'.nil (tN ?_)
 refine T.ret ?_
 exact Fin.done (.cons _ _ _ _ (.tmp 0 _ rfl) .nil) (by cases h; exact ⟨rfl, rfl⟩)
 refine pf rfl j ?_
 refine pf rfl j ?_
 refine pf rfl j ?_
 refine sp rfl (Qm rfl (dk rfl) rfl j rfl ?_)
 refine aw rfl ?_
 refine TL'.nil (tN ?_)
 refine T.ret ?_
 exact Fin.done (.cons _ _ _ _ (.tmp 0 _ rfl) .nil) (by cases h; exact ⟨rfl, rfl⟩)
 refine pf rfl b ?_
 refine pf rfl b ?_
 refine pf rfl b ?_
 refine pf rfl b ?_
 refine sp rfl (Qm rfl (dk rfl) rfl b rfl ?_)
 refine mw rfl ?_
 refine pf rfl rfl ?_
 refine pf rfl rfl ?_
 refine pf rfl rfl ?_
 refine sp rfl (Qm rfl (dk rfl) rfl rfl rfl ?_)
 refine aw rfl ?_
 refine TL'.nil (tN ?_)
 refine T.ret ?_
 exact Fin.done (.cons _ _ _ _ (.tmp 0 _ rfl) .nil) (by cases h; exact ⟨rfl, rfl⟩)
 refine pf rfl a ?_
 refine pf rfl a ?_
 refine pf rfl a ?_
 refine pf rfl a ?_
 refine sp rfl (Qm rfl (dk rfl) rfl a rfl ?_)
 refine mw rfl ?_
 refine pf rfl rfl ?_
 refine pf rfl rfl ?_
 refine pf rfl rfl ?_
 refine pf rfl rfl ?_
 refine sp rfl (Qm rfl (dk rfl) rfl rfl rfl ?_)
 refine mw rfl ?_
 refine pf rfl rfl ?_
 refine pf rfl rfl ?_
 refine pf rfl rfl ?_
 refine sp rfl (Qm rfl (dk rfl) rfl rfl rfl ?_)
 refine aw rfl ?_
 refine TL'.nil (tN ?_)
 refine T.ret ?_
 exact Fin.done (.cons _ _ _ _ (.tmp 0 _ rfl) .nil) (by cases h; exact ⟨rfl, rfl⟩)
 refine pf rfl g ?_
 refine pf rfl g ?_
 refine pf rfl g ?_
 refine sp rfl (Qm rfl (dk rfl) rfl g rfl ?_)
 refine mw rfl ?_
 refine pf rfl rfl ?_
 refine pf rfl rfl ?_
 refine pf rfl rfl ?_
 refine pf rfl rfl ?_
 refine sp rfl (Qm rfl (dk rfl) rfl rfl rfl ?_)
 refine mw rfl ?_
 refine pf rfl rfl ?_
 refine pf rfl rfl ?_
 refine pf rfl rfl ?_
 refine pf rfl rfl ?_
 refine sp rfl (Qm rfl (dk rfl) rfl rfl rfl ?_)
 refine mw rfl ?_
 refine pf rfl rfl ?_
 refine pf rfl rfl ?_
 refine pf rfl rfl ?_
 refine sp rfl (Qm rfl (dk rfl) rfl rfl rfl ?_)
 refine aw rfl ?_
 refine TL'.nil (tN ?_)
 refine T.ret ?_
 exact Fin.done (.cons _ _ _ _ (.tmp 0 _ rfl) .nil) (by cases h; exact ⟨rfl, rfl⟩)
abbrev Rg (r : Bool) : ES := Jt tp Try.f76 (fun y t => y = (.bool r) ∧ t = [])
abbrev r1_ints_qs111 (r : Bool) : ES := thenS (fun s' => T tp 26 (ca [1,1,1] Try.f76) s' ((Rg r))) ((Rg r))
abbrev Rf (r : Bool) : ES := Q0 0 ((r1_ints_qs111 r))
theorem r1_ints_l0_T {r : Bool} (K : Nat) : ∀ (k : Nat), ∀ (x0 x1 : List Int) (a : Int) (flx0 flx1 : Bool), Ji K k x0 x1 a = some r → TL tp 26 (ca [1,1,0,1,0,0] Try.f76) ⟨[(0, .sl flx0 1 (mI x0)), (1, .sl flx1 1 (mI x1)), (5, .int .i64 a)], []⟩ (Rf r) := by
 intro k
 induction k with
 | zero =>
  intro x0 x1 a flx0 flx1 h
  cases (show (none : Option Bool) = some r from h)
 | succ k ih =>
  intro x0 x1 a flx0 flx1 h
  rw [Ji] at h
  refine Za ?_
  refine T.seq ?_
  refine T.seq (Qr ?_)
  refine mw rfl ?_
  refine mw rfl ?_
  refine sp rfl (Qn (xs := x0) (f := (cI .i64)) rfl (dk rfl) Yo rfl ?_)
  refine sp rfl (Qa rfl rfl (dk rfl) rfl rfl ?_)
  refine TL'.nil (tN ?_)
  rcases Qb h with ⟨g, h⟩ | ⟨g, h⟩
  refine Qk rfl g ?_
  refine T.skip (tN ?_)
  refine T.seq ?_
  refine T.block ?_
  refine T.seq ?_
  refine Xl ?_
  refine Yg rfl rfl rfl rfl rfl rfl ?_
  refine Yg rfl rfl rfl rfl rfl rfl ?_
  obtain ⟨b, j, h⟩ := bind_some h
  refine dS (c := ⟨some 19, .ref [.int .i64 b], [(17, .sl flx0 1 (mI x0)), (18, .int .i64 a)], [], []⟩) (fun t hm => oF rfl rfl (Qi (xs := x0) (f := (cI .i64)) (v := b) rfl (dk rfl) Yo i3 hm.s0 hm.s1 j rfl)) rfl rfl ?_
  refine dS (c := ⟨some 20, .int .i64 b, [(19, .ref [.int .i64 b])], [], []⟩) (fun t hm => oF rfl rfl (Qu rfl (dk rfl) ul3 rfl hm.s0 rfl rfl)) rfl rfl ?_
  refine Yg rfl rfl rfl rfl rfl rfl ?_
  refine Yg rfl rfl rfl rfl rfl rfl ?_
  obtain ⟨d, l, h⟩ := bind_some h
  refine dS (c := ⟨some 23, .ref [.int .i64 d], [(21, .sl flx1 1 (mI x1)), (22, .int .i64 a)], [], []⟩) (fun t hm => oF rfl rfl (Qi (xs := x1) (f := (cI .i64)) (v := d) rfl (dk rfl) Yo i3 hm.s0 hm.s1 l rfl)) rfl rfl ?_
  refine dS (c := ⟨some 24, .int .i64 d, [(23, .ref [.int .i64 d])], [], []⟩) (fun t hm => oF rfl rfl (Qu rfl (dk rfl) ul3 rfl hm.s0 rfl rfl)) rfl rfl ?_
  refine dS (c := ⟨some 25, .bool (b != d), [(20, .int .i64 b), (24, .int .i64 d)], [], []⟩) (fun t hm => oF rfl rfl (Qa rfl rfl (dk rfl) hm.s0 hm.s1 rfl)) rfl rfl ?_
  refine Ys (s1 := ⟨[(0, .sl flx0 1 (mI x0)), (1, .sl flx1 1 (mI x1)), (5, .int .i64 a), (25, .bool (b != d))], []⟩) (ms := [0, 0, 3, 7, 0, 0, 48, 112, 255]) Q7 rfl (by kernel_rfl) (by kernel_rfl) (by kernel_rfl) (sf rfl) rfl (fun u hu => (tN (Qd hu ?_)))
  rcases Qb h with ⟨i, h⟩ | ⟨i, h⟩
  refine Qk rfl i ?_
  refine T.seq (Qr ?_)
  refine aw rfl ?_
  refine TL'.nil (tN ?_)
  refine T.ret (Qt (Qj (Qj (Qt (Qj ?_)))))
  exact Fin.done (.cons _ _ _ _ (.tmp 4 _ rfl) .nil) (by cases h; exact ⟨rfl, rfl⟩)
  refine Qp rfl i ?_
  refine T.skip (Qe (tN ?_))
  refine Qr ?_
  refine mw rfl ?_
  refine sp rfl (Qa rfl rfl (dk rfl) rfl rfl ?_)
  refine aw rfl ?_
  refine TL'.nil (tN ?_)
  refine Qc ?_ (ih x0 x1 (wI (a + (1:Int))) flx0 flx1 h)
  exact tq rfl rfl
  refine Qp rfl g ?_
  refine T.exit (Qh (Qh (Qq (tN ?_))))
  refine T.seq (Qr ?_)
  refine aw rfl ?_
  refine TL'.nil (tN ?_)
  refine T.ret ?_
  exact Fin.done (.cons _ _ _ _ (.tmp 4 _ rfl) .nil) (by cases h; exact ⟨rfl, rfl⟩)
theorem Rh (K : Nat) {x0 x1 : List Int} {flx0 flx1 r : Bool} (h : Ix K x0 x1 = some r) : Zp tp 76 [.sl flx0 1 (mI x0), .sl flx1 1 (mI x1)] [] (.bool r) := by
 refine Qs Try.func76 rfl (nb rfl) ?_
 show T tp 26 (ca [] Try.f76) ⟨Qv 0 [.sl flx0 1 (mI x0), .sl flx1 1 (mI x1)], []⟩ (Rg r)
 unfold Ix at h
 refine T.seq (Qr ?_)
 refine aw rfl ?_
 refine TL'.nil (tN ?_)
 refine T.seq ?_
 refine T.seq (Qr ?_)
 refine mw rfl ?_
 refine sp rfl (Qn (xs := x0) (f := (cI .i64)) rfl (dk rfl) Yo rfl ?_)
 refine mw rfl ?_
 refine sp rfl (Qn (xs := x1) (f := (cI .i64)) rfl (dk rfl) Yo rfl ?_)
 refine sp rfl (Qa rfl rfl (dk rfl) rfl rfl ?_)
 refine TL'.nil (tN ?_)
 rcases Qb h with ⟨a, h⟩ | ⟨a, h⟩
 refine Qk rfl a ?_
 refine T.seq (Qr ?_)
 refine aw rfl ?_
 refine TL'.nil (tN ?_)
 refine T.ret (Qj ?_)
 exact Fin.done (.cons _ _ _ _ (.tmp 4 _ rfl) .nil) (by cases h; exact ⟨rfl, rfl⟩)
 refine Qp rfl a ?_
 refine T.skip (tN ?_)
 refine T.seq ?_
 refine T.seq (Qr ?_)
 refine aw rfl ?_
 refine TL'.nil (tN ?_)
 refine T.block ?_
 refine T.loop ?_
 refine Qc ?_ (r1_ints_l0_T K K x0 x1 (0:Int) flx0 flx1 h)
 exact tq rfl rfl
abbrev r1_sameMove_q (r : Bool) : ES := Jt tp Try.f77 (fun y t => y = (.bool r) ∧ t = [])
theorem r1_sameMove_T (K : Nat) {x0 x1 : aMv} {r : Bool} (h : K3 K x0 x1 = some r) : Zp tp 77 [.agg [.int .i64 x0.To, .sl false 1 (mU x0.Ops)], .agg [.int .i64 x1.To, .sl false 1 (mU x1.Ops)]] [] (.bool r) := by
 refine Qs Try.func77 rfl (nb rfl) ?_
 show T tp 19 (ca [] Try.f77) ⟨Qv 0 [.agg [.int .i64 x0.To, .sl false 1 (mU x0.Ops)], .agg [.int .i64 x1.To, .sl false 1 (mU x1.Ops)]], []⟩ (r1_sameMove_q r)
 unfold K3 at h
 refine T.seq (Qr ?_)
 refine sp rfl (Zb rfl (dk rfl) rfl (fun b => ?_))
 refine sp rfl (Zb rfl (dk rfl) rfl (fun c => ?_))
 refine aw rfl ?_
 refine TL'.nil (tN (T.seq (Qr ?_)))
 refine sp rfl (Ql rfl (dk rfl) Mf rfl i3 (by decide) rfl ?_)
 refine sp rfl (Qo (i := 1) rfl (dk rfl) ul3 rfl rfl rfl rfl ?_)
 refine sp rfl (Ql rfl (dk rfl) Mf rfl i3 (by decide) rfl ?_)
 refine sp rfl (Qo (i := 0) rfl (dk rfl) ul3 rfl rfl rfl rfl ?_)
 refine sp rfl (Qa rfl rfl (dk rfl) rfl rfl ?_)
 refine mw rfl ?_
 rcases Qb h with ⟨a, h⟩ | ⟨a, h⟩
 refine sn rfl a (Ql rfl (dk rfl) Mf rfl i29 (by decide) rfl ?_)
 refine sn rfl a (Qo (i := 1) rfl (dk rfl) Vj rfl rfl rfl rfl ?_)
 refine sn rfl a (Wb (xs := x0.Ops) rfl (dk rfl) Vj ul5 ul9 rfl ?_)
 refine sn rfl a (Ql rfl (dk rfl) Mf rfl i29 (by decide) rfl ?_)
 refine sn rfl a (Qo (i := 0) rfl (dk rfl) Vj rfl rfl rfl rfl ?_)
 refine sn rfl a (Wb (xs := x1.Ops) rfl (dk rfl) Vj ul5 ul9 rfl ?_)
 refine sn rfl a (C8 rfl (dk rfl) rfl rfl ?_)
 refine sp rfl (Qf rfl (dk rfl) rfl a rfl ?_)
 refine aw rfl ?_
 refine TL'.nil (tN ?_)
 refine T.ret ?_
 exact Fin.done (.cons _ _ _ _ (.tmp 4 _ rfl) .nil) (by cases h; exact ⟨rfl, rfl⟩)
 refine pf rfl a ?_
 refine pf rfl a ?_
 refine pf rfl a ?_
 refine pf rfl a ?_
 refine pf rfl a ?_
 refine pf rfl a ?_
 refine pf rfl a ?_
 refine sp rfl (Qm rfl (dk rfl) rfl a rfl ?_)
 refine aw rfl ?_
 refine TL'.nil (tN ?_)
 refine T.ret ?_
 exact Fin.done (.cons _ _ _ _ (.tmp 4 _ rfl) .nil) (by cases h; exact ⟨rfl, rfl⟩)
abbrev Wl (r : Bool) : ES := Jt tp Try.f53 (fun y t => y = (.bool r) ∧ t = [])
abbrev Oq (r : Bool) : ES := thenS (fun s' => T tp 86 (ca [1,1] Try.f53) s' ((Wl r))) ((Wl r))
abbrev No (r : Bool) : ES := thenS (fun s' => T tp 86 (ca [1,1,1] Try.f53) s' ((Wl r))) ((Wl r))
abbrev Um (r : Bool) : ES := Q0 0 ((No r))
abbrev L6 (r : Bool) : ES := thenS (fun s' => TL tp 86 (ca [1,1,0,1,0,0] Try.f53) s' ((Um r))) ((Um r))
abbrev Cr (r : Bool) : ES := thenS (fun s' => T tp 86 (ca [1,1,0,1,0,0,1,1] Try.f53) s' ((L6 r))) ((L6 r))
abbrev K2 (r : Bool) : ES := Q0 1 ((Cr r))
abbrev Lw (r : Bool) : ES := Q0 2 ((K2 r))
theorem J8 {r : Bool} (K : Nat) (h : Uu K = some r) : T tp 86 (ca [1,0,1,0] Try.f53) ⟨[], []⟩ (Oq r) := by
 unfold Uu at h
 refine T.seq (Qr ?_)
 refine aw rfl ?_
 refine TL'.nil (tN ?_)
 refine T.ret (Qj ?_)
 exact Fin.done (.cons _ _ _ _ (.tmp 4 _ rfl) .nil) (by cases h; exact ⟨rfl, rfl⟩)
abbrev Ov (r : Bool) (go : Int → aSt → aSt → Option Bool) : Prop := ∀ (a : Int) (x0 x1 : aSt) (b c : Nat), go a x0 x1 = some r → TL tp 86 (ca [1,1,0,1,0,0] Try.f53) ⟨[(2, .ptr b 0), (3, .ptr c 0), (5, .int .i64 a)], [(Zu b x0.L x0.R x0.Rule x0.Next), (Zu c x1.L x1.R x1.Rule x1.Next)]⟩ (Um r)
theorem Ot {r : Bool} (K : Nat) (go1 : Int → aSt → aSt → Option Bool) (hgo1 : Ov r go1) : ∀ (k : Nat), ∀ (g m : Int) (x0 x1 : aSt) (a b : Nat), Yk K go1 k g m x0 x1 = some r → TL tp 86 (ca [1,1,0,1,0,0,1,0,0,1,1,0,0] Try.f53) ⟨[(2, .ptr a 0), (3, .ptr b 0), (5, .int .i64 g), (6, .int .i64 m)], [(Zu a x0.L x0.R x0.Rule x0.Next), (Zu b x1.L x1.R x1.Rule x1.Next)]⟩ (Lw r) := by
 intro k
 induction k with
 | zero =>
  intro g m x0 x1 a b h
  cases (show (none : Option Bool) = some r from h)
 | succ k ih =>
  intro g m x0 x1 a b h
  rw [Yk] at h
  refine Za ?_
  refine T.seq ?_
  refine T.seq (Qr ?_)
  refine mw rfl ?_
  refine sp rfl (Ql rfl (dk rfl) Uh rfl i57 (by decide) rfl ?_)
  refine sp rfl (Qo (i := 0) rfl (dk rfl) Dh rfl rfl rfl rfl ?_)
  refine mw rfl ?_
  obtain ⟨p, aa, h⟩ := bind_some h
  refine sp rfl (Qi (xs := x0.Next) (f := (cL 2 Qw)) (v := p) rfl (dk rfl) Dh i61 rfl rfl aa ?_)
  refine sp rfl (Qu rfl (dk rfl) I8 rfl rfl rfl ?_)
  refine sp rfl (Qn (xs := p) (f := Qw) rfl (dk rfl) I8 rfl ?_)
  refine sp rfl (Qa rfl rfl (dk rfl) rfl rfl ?_)
  refine TL'.nil (tN ?_)
  rcases Qb h with ⟨w, h⟩ | ⟨w, h⟩
  refine Qk rfl w ?_
  refine T.skip (tN ?_)
  refine T.seq ?_
  refine T.block ?_
  refine T.seq ?_
  refine Xl ?_
  refine dS (c := ⟨some 68, .ptr a (0 + 3), [(2, .ptr a 0)], [], []⟩) (fun t hm => oF rfl rfl (Ql rfl (dk rfl) Uh rfl i57 (by decide) hm.s0 rfl)) rfl rfl ?_
  refine dS (c := ⟨some 69, .sl false 1 (x0.Next.map (cL 2 Qw)), [(68, .ptr a (0 + 3))], [(0, (Zu a x0.L x0.R x0.Rule x0.Next))], []⟩) (fun t hm => oF rfl rfl (Qo (i := 0) rfl (dk rfl) Dh rfl hm.s0 hm.o0 rfl rfl)) rfl rfl ?_
  refine Yg rfl rfl rfl rfl rfl rfl ?_
  refine dS (c := ⟨some 71, .ref [.sl false 2 (p.map Qw)], [(69, .sl false 1 (x0.Next.map (cL 2 Qw))), (70, .int .i64 g)], [], []⟩) (fun t hm => oF rfl rfl (Qi (xs := x0.Next) (f := (cL 2 Qw)) (v := p) rfl (dk rfl) Dh i61 hm.s0 hm.s1 aa rfl)) rfl rfl ?_
  refine dS (c := ⟨some 72, .sl false 2 (p.map Qw), [(71, .ref [.sl false 2 (p.map Qw)])], [], []⟩) (fun t hm => oF rfl rfl (Qu rfl (dk rfl) I8 rfl hm.s0 rfl rfl)) rfl rfl ?_
  refine Yg rfl rfl rfl rfl rfl rfl ?_
  obtain ⟨j, ab, h⟩ := bind_some h
  refine dS (c := ⟨some 74, .ref [.int .i64 j.To, .sl false 1 (mU j.Ops)], [(72, .sl false 2 (p.map Qw)), (73, .int .i64 m)], [], []⟩) (fun t hm => oF rfl rfl (Qi (xs := p) (f := Qw) (v := j) rfl (dk rfl) I8 i63 hm.s0 hm.s1 ab rfl)) rfl rfl ?_
  refine dS (c := ⟨some 75, .agg [.int .i64 j.To, .sl false 1 (mU j.Ops)], [(74, .ref [.int .i64 j.To, .sl false 1 (mU j.Ops)])], [], []⟩) (fun t hm => oF rfl rfl (Zg rfl (dk rfl) Mf rfl i63 hm.s0 (nb rfl) rfl)) rfl rfl ?_
  refine dS (c := ⟨some 76, .ptr b (0 + 3), [(3, .ptr b 0)], [], []⟩) (fun t hm => oF rfl rfl (Ql rfl (dk rfl) Uh rfl i57 (by decide) hm.s0 rfl)) rfl rfl ?_
  refine dS (c := ⟨some 77, .sl false 1 (x1.Next.map (cL 2 Qw)), [(76, .ptr b (0 + 3))], [(1, (Zu b x1.L x1.R x1.Rule x1.Next))], []⟩) (fun t hm => oF rfl rfl (Qo (i := 1) rfl (dk rfl) Dh rfl hm.s0 hm.o0 rfl rfl)) rfl rfl ?_
  refine Yg rfl rfl rfl rfl rfl rfl ?_
  obtain ⟨q, ac, h⟩ := bind_some h
  refine dS (c := ⟨some 79, .ref [.sl false 2 (q.map Qw)], [(77, .sl false 1 (x1.Next.map (cL 2 Qw))), (78, .int .i64 g)], [], []⟩) (fun t hm => oF rfl rfl (Qi (xs := x1.Next) (f := (cL 2 Qw)) (v := q) rfl (dk rfl) Dh i61 hm.s0 hm.s1 ac rfl)) rfl rfl ?_
  refine dS (c := ⟨some 80, .sl false 2 (q.map Qw), [(79, .ref [.sl false 2 (q.map Qw)])], [], []⟩) (fun t hm => oF rfl rfl (Qu rfl (dk rfl) I8 rfl hm.s0 rfl rfl)) rfl rfl ?_
  refine Yg rfl rfl rfl rfl rfl rfl ?_
  obtain ⟨l, ad, h⟩ := bind_some h
  refine dS (c := ⟨some 82, .ref [.int .i64 l.To, .sl false 1 (mU l.Ops)], [(80, .sl false 2 (q.map Qw)), (81, .int .i64 m)], [], []⟩) (fun t hm => oF rfl rfl (Qi (xs := q) (f := Qw) (v := l) rfl (dk rfl) I8 i63 hm.s0 hm.s1 ad rfl)) rfl rfl ?_
  refine dS (c := ⟨some 83, .agg [.int .i64 l.To, .sl false 1 (mU l.Ops)], [(82, .ref [.int .i64 l.To, .sl false 1 (mU l.Ops)])], [], []⟩) (fun t hm => oF rfl rfl (Zg rfl (dk rfl) Mf rfl i63 hm.s0 (nb rfl) rfl)) rfl rfl ?_
  obtain ⟨s, af, h⟩ := bind_some h
  refine dS (c := ⟨some 84, .bool s, [(75, .agg [.int .i64 j.To, .sl false 1 (mU j.Ops)]), (83, .agg [.int .i64 l.To, .sl false 1 (mU l.Ops)])], [], []⟩) (fun t hm => oF rfl rfl (Q2 rfl (dk rfl) Try.func77 rfl rfl (Q5.cons hm.s0 (Q5.cons hm.s1 Q5.nil)) (Zp.nil (r1_sameMove_T K af)) rfl)) rfl rfl ?_
  refine dS (c := ⟨some 85, .bool (!s), [(84, .bool s)], [], []⟩) (fun t hm => oF rfl rfl (OpT.not rfl (dk rfl) hm.s0 rfl)) rfl rfl ?_
  refine Ys (s1 := ⟨[(2, .ptr a 0), (3, .ptr b 0), (5, .int .i64 g), (6, .int .i64 m), (85, .bool (!s))], [(Zu a x0.L x0.R x0.Rule x0.Next), (Zu b x1.L x1.R x1.Rule x1.Next)]⟩) (ms := [0, 1, 0, 7, 15, 0, 63, 127, 0, 256, 0, 1792, 3840, 0, 16128, 32512, 65535, 131071]) Q7 rfl (by kernel_rfl) (by kernel_rfl) (by kernel_rfl) (sf rfl) rfl (fun u hu => (tN (Qd hu ?_)))
  rcases Qb h with ⟨y, h⟩ | ⟨y, h⟩
  refine Qk rfl y ?_
  refine T.seq (Qr ?_)
  refine aw rfl ?_
  refine TL'.nil (tN ?_)
  refine T.ret (Qt (Qj (Qj (Qt (Qt (Qj (Qj (Qt (Qj ?_)))))))))
  exact Fin.done (.cons _ _ _ _ (.tmp 4 _ rfl) .nil) (by cases h; exact ⟨rfl, rfl⟩)
  refine Qp rfl y ?_
  refine T.skip (Qe (tN ?_))
  refine Qr ?_
  refine mw rfl ?_
  refine sp rfl (Qa rfl rfl (dk rfl) rfl rfl ?_)
  refine aw rfl ?_
  refine TL'.nil (tN ?_)
  refine Qc ?_ (ih g (wI (m + (1:Int))) x0 x1 a b h)
  exact tq rfl rfl
  refine Qp rfl w ?_
  refine T.exit (Qh (Qh (Qq (Qe (tN ?_)))))
  refine Qr ?_
  refine mw rfl ?_
  refine sp rfl (Qa rfl rfl (dk rfl) rfl rfl ?_)
  refine aw rfl ?_
  refine TL'.nil (tN ?_)
  refine Qc ?_ (hgo1 (wI (g + (1:Int))) x0 x1 a b h)
  exact tq rfl rfl
theorem Ou {r : Bool} (K : Nat) : ∀ (k : Nat), ∀ (l : Int) (x0 x1 : aSt) (a b : Nat), Yl K k l x0 x1 = some r → TL tp 86 (ca [1,1,0,1,0,0] Try.f53) ⟨[(2, .ptr a 0), (3, .ptr b 0), (5, .int .i64 l)], [(Zu a x0.L x0.R x0.Rule x0.Next), (Zu b x1.L x1.R x1.Rule x1.Next)]⟩ (Um r) := by
 intro k
 induction k with
 | zero =>
  intro l x0 x1 a b h
  cases (show (none : Option Bool) = some r from h)
 | succ k ih =>
  intro l x0 x1 a b h
  rw [Yl] at h
  refine Za ?_
  refine T.seq ?_
  refine T.seq (Qr ?_)
  refine mw rfl ?_
  refine sp rfl (Ql rfl (dk rfl) Uh rfl i57 (by decide) rfl ?_)
  refine sp rfl (Qo (i := 0) rfl (dk rfl) Dh rfl rfl rfl rfl ?_)
  refine sp rfl (Qn (xs := x0.Next) (f := (cL 2 Qw)) rfl (dk rfl) Dh rfl ?_)
  refine sp rfl (Qa rfl rfl (dk rfl) rfl rfl ?_)
  refine TL'.nil (tN ?_)
  rcases Qb h with ⟨m, h⟩ | ⟨m, h⟩
  refine Qk rfl m ?_
  refine T.skip (tN ?_)
  refine T.seq ?_
  refine T.block ?_
  refine T.seq ?_
  refine T.seq ?_
  refine Xl ?_
  refine dS (c := ⟨some 45, .ptr a (0 + 3), [(2, .ptr a 0)], [], []⟩) (fun t hm => oF rfl rfl (Ql rfl (dk rfl) Uh rfl i57 (by decide) hm.s0 rfl)) rfl rfl ?_
  refine dS (c := ⟨some 46, .sl false 1 (x0.Next.map (cL 2 Qw)), [(45, .ptr a (0 + 3))], [(0, (Zu a x0.L x0.R x0.Rule x0.Next))], []⟩) (fun t hm => oF rfl rfl (Qo (i := 0) rfl (dk rfl) Dh rfl hm.s0 hm.o0 rfl rfl)) rfl rfl ?_
  refine Yg rfl rfl rfl rfl rfl rfl ?_
  obtain ⟨g, q, h⟩ := bind_some h
  refine dS (c := ⟨some 48, .ref [.sl false 2 (g.map Qw)], [(46, .sl false 1 (x0.Next.map (cL 2 Qw))), (47, .int .i64 l)], [], []⟩) (fun t hm => oF rfl rfl (Qi (xs := x0.Next) (f := (cL 2 Qw)) (v := g) rfl (dk rfl) Dh i61 hm.s0 hm.s1 q rfl)) rfl rfl ?_
  refine dS (c := ⟨some 49, .sl false 2 (g.map Qw), [(48, .ref [.sl false 2 (g.map Qw)])], [], []⟩) (fun t hm => oF rfl rfl (Qu rfl (dk rfl) I8 rfl hm.s0 rfl rfl)) rfl rfl ?_
  refine dS (c := ⟨some 50, .int .i64 (g.length : Int), [(49, .sl false 2 (g.map Qw))], [], []⟩) (fun t hm => oF rfl rfl (Qn (xs := g) (f := Qw) rfl (dk rfl) I8 hm.s0 rfl)) rfl rfl ?_
  refine dS (c := ⟨some 51, .ptr b (0 + 3), [(3, .ptr b 0)], [], []⟩) (fun t hm => oF rfl rfl (Ql rfl (dk rfl) Uh rfl i57 (by decide) hm.s0 rfl)) rfl rfl ?_
  refine dS (c := ⟨some 52, .sl false 1 (x1.Next.map (cL 2 Qw)), [(51, .ptr b (0 + 3))], [(1, (Zu b x1.L x1.R x1.Rule x1.Next))], []⟩) (fun t hm => oF rfl rfl (Qo (i := 1) rfl (dk rfl) Dh rfl hm.s0 hm.o0 rfl rfl)) rfl rfl ?_
  refine Yg rfl rfl rfl rfl rfl rfl ?_
  obtain ⟨j, s, h⟩ := bind_some h
  refine dS (c := ⟨some 54, .ref [.sl false 2 (j.map Qw)], [(52, .sl false 1 (x1.Next.map (cL 2 Qw))), (53, .int .i64 l)], [], []⟩) (fun t hm => oF rfl rfl (Qi (xs := x1.Next) (f := (cL 2 Qw)) (v := j) rfl (dk rfl) Dh i61 hm.s0 hm.s1 s rfl)) rfl rfl ?_
  refine dS (c := ⟨some 55, .sl false 2 (j.map Qw), [(54, .ref [.sl false 2 (j.map Qw)])], [], []⟩) (fun t hm => oF rfl rfl (Qu rfl (dk rfl) I8 rfl hm.s0 rfl rfl)) rfl rfl ?_
  refine dS (c := ⟨some 56, .int .i64 (j.length : Int), [(55, .sl false 2 (j.map Qw))], [], []⟩) (fun t hm => oF rfl rfl (Qn (xs := j) (f := Qw) rfl (dk rfl) I8 hm.s0 rfl)) rfl rfl ?_
  refine dS (c := ⟨some 57, .bool ((g.length : Int) != (j.length : Int)), [(50, .int .i64 (g.length : Int)), (56, .int .i64 (j.length : Int))], [], []⟩) (fun t hm => oF rfl rfl (Qa rfl rfl (dk rfl) hm.s0 hm.s1 rfl)) rfl rfl ?_
  refine Ys (s1 := ⟨[(2, .ptr a 0), (3, .ptr b 0), (5, .int .i64 l), (57, .bool ((g.length : Int) != (j.length : Int)))], [(Zu a x0.L x0.R x0.Rule x0.Next), (Zu b x1.L x1.R x1.Rule x1.Next)]⟩) (ms := [0, 1, 0, 7, 15, 31, 0, 64, 0, 448, 960, 1984, 4095]) Q7 rfl (by kernel_rfl) (by kernel_rfl) (by kernel_rfl) (sf rfl) rfl (fun u hu => (tN (Qd hu ?_)))
  rcases Qb h with ⟨p, h⟩ | ⟨p, h⟩
  refine Qk rfl p ?_
  refine T.seq (Qr ?_)
  refine aw rfl ?_
  refine TL'.nil (tN ?_)
  refine T.ret (Qj (Qt (Qj (Qj (Qt (Qj ?_))))))
  exact Fin.done (.cons _ _ _ _ (.tmp 4 _ rfl) .nil) (by cases h; exact ⟨rfl, rfl⟩)
  refine Qp rfl p ?_
  refine T.skip (tN ?_)
  refine T.seq (Qr ?_)
  refine aw rfl ?_
  refine TL'.nil (tN ?_)
  refine T.block ?_
  refine T.loop ?_
  refine Qc ?_ (Ot K (Yl K k) ih K l (0:Int) x0 x1 a b h)
  exact tq rfl rfl
  refine Qp rfl m ?_
  refine T.exit (Qh (Qh (Qq (tN ?_))))
  refine T.seq (Qr ?_)
  refine aw rfl ?_
  refine TL'.nil (tN ?_)
  refine T.ret ?_
  exact Fin.done (.cons _ _ _ _ (.tmp 4 _ rfl) .nil) (by cases h; exact ⟨rfl, rfl⟩)
theorem r1_sameState_T (K : Nat) {x0 x1 : aSt} {r : Bool} (h : Le K x0 x1 = some r) : Zp tp 53 [.agg [.sl false 1 (mI x0.L), .sl false 1 (mI x0.R), .sl false 1 (mI x0.Rule), .sl false 1 (x0.Next.map (cL 2 Qw))], .agg [.sl false 1 (mI x1.L), .sl false 1 (mI x1.R), .sl false 1 (mI x1.Rule), .sl false 1 (x1.Next.map (cL 2 Qw))]] [] (.bool r) := by
 refine Qs Try.func53 rfl (nb rfl) ?_
 show T tp 86 (ca [] Try.f53) ⟨Qv 0 [.agg [.sl false 1 (mI x0.L), .sl false 1 (mI x0.R), .sl false 1 (mI x0.Rule), .sl false 1 (x0.Next.map (cL 2 Qw))], .agg [.sl false 1 (mI x1.L), .sl false 1 (mI x1.R), .sl false 1 (mI x1.Rule), .sl false 1 (x1.Next.map (cL 2 Qw))]], []⟩ (Wl r)
 unfold Le at h
 refine T.seq (Qr ?_)
 refine sp rfl (Zb rfl (dk rfl) rfl (fun j => ?_))
 refine sp rfl (Zb rfl (dk rfl) rfl (fun l => ?_))
 refine aw rfl ?_
 refine TL'.nil (tN ?_)
 refine T.seq ?_
 refine T.seq (Qr ?_)
 refine sp rfl (Ql rfl (dk rfl) Uh rfl i56 (by decide) rfl ?_)
 refine sp rfl (Qo (i := 1) rfl (dk rfl) Yo rfl rfl rfl rfl ?_)
 refine sp rfl (Ql rfl (dk rfl) Uh rfl i56 (by decide) rfl ?_)
 refine sp rfl (Qo (i := 0) rfl (dk rfl) Yo rfl rfl rfl rfl ?_)
 obtain ⟨u, m, h⟩ := bind_some h
 refine sp rfl (Q2 rfl (dk rfl) Try.func76 rfl rfl (Q5.cons rfl (Q5.cons rfl Q5.nil)) (Zp.nil (Rh K (flx0 := false) (flx1 := false) m)) ?_)
 refine sp rfl (OpT.not rfl (dk rfl) rfl ?_)
 refine mw rfl ?_
 rcases Qb h with ⟨b, h⟩ | ⟨b, h⟩
 refine pf rfl b ?_
 refine pf rfl b ?_
 refine pf rfl b ?_
 refine pf rfl b ?_
 refine pf rfl b ?_
 refine pf rfl b ?_
 refine sp rfl (Qf rfl (dk rfl) rfl b rfl ?_)
 refine mw rfl ?_
 refine pf rfl rfl ?_
 refine pf rfl rfl ?_
 refine pf rfl rfl ?_
 refine pf rfl rfl ?_
 refine pf rfl rfl ?_
 refine pf rfl rfl ?_
 refine sp rfl (Qf rfl (dk rfl) rfl rfl rfl ?_)
 refine mw rfl ?_
 refine pf rfl rfl ?_
 refine pf rfl rfl ?_
 refine pf rfl rfl ?_
 refine pf rfl rfl ?_
 refine pf rfl rfl ?_
 refine pf rfl rfl ?_
 refine pf rfl rfl ?_
 refine sp rfl (Qf rfl (dk rfl) rfl rfl rfl ?_)
 refine TL'.nil (tN ?_)
 refine Qk rfl rfl ?_
 refine Qd ?_ (J8 K h)
 exact tq rfl rfl
 refine sn rfl b (Ql rfl (dk rfl) Uh rfl i56 (by decide) rfl ?_)
 refine sn rfl b (Qo (i := 1) rfl (dk rfl) Yo rfl rfl rfl rfl ?_)
 refine sn rfl b (Ql rfl (dk rfl) Uh rfl i56 (by decide) rfl ?_)
 refine sn rfl b (Qo (i := 0) rfl (dk rfl) Yo rfl rfl rfl rfl ?_)
 obtain ⟨v, p, h⟩ := bind_some h
 refine sn rfl b (Q2 rfl (dk rfl) Try.func76 rfl rfl (Q5.cons rfl (Q5.cons rfl Q5.nil)) (Zp.nil (Rh K (flx0 := false) (flx1 := false) p)) ?_)
 refine sn rfl b (OpT.not rfl (dk rfl) rfl ?_)
 refine sp rfl (Qm rfl (dk rfl) rfl b rfl ?_)
 refine mw rfl ?_
 rcases Qb h with ⟨d, h⟩ | ⟨d, h⟩
 refine pf rfl d ?_
 refine pf rfl d ?_
 refine pf rfl d ?_
 refine pf rfl d ?_
 refine pf rfl d ?_
 refine pf rfl d ?_
 refine sp rfl (Qf rfl (dk rfl) rfl d rfl ?_)
 refine mw rfl ?_
 refine pf rfl rfl ?_
 refine pf rfl rfl ?_
 refine pf rfl rfl ?_
 refine pf rfl rfl ?_
 refine pf rfl rfl ?_
 refine pf rfl rfl ?_
 refine pf rfl rfl ?_
 refine sp rfl (Qf rfl (dk rfl) rfl rfl rfl ?_)
 refine TL'.nil (tN ?_)
 refine Qk rfl rfl ?_
 refine Qd ?_ (J8 K h)
 exact tq rfl rfl
 refine sn rfl d (Ql rfl (dk rfl) Uh rfl i56 (by decide) rfl ?_)
 refine sn rfl d (Qo (i := 1) rfl (dk rfl) Yo rfl rfl rfl rfl ?_)
 refine sn rfl d (Ql rfl (dk rfl) Uh rfl i56 (by decide) rfl ?_)
 refine sn rfl d (Qo (i := 0) rfl (dk rfl) Yo rfl rfl rfl rfl ?_)
 obtain ⟨w, q, h⟩ := bind_some h
 refine sn rfl d (Q2 rfl (dk rfl) Try.func76 rfl rfl (Q5.cons rfl (Q5.cons rfl Q5.nil)) (Zp.nil (Rh K (flx0 := false) (flx1 := false) q)) ?_)
 refine sn rfl d (OpT.not rfl (dk rfl) rfl ?_)
 refine sp rfl (Qm rfl (dk rfl) rfl d rfl ?_)
 refine mw rfl ?_
 rcases Qb h with ⟨a, h⟩ | ⟨a, h⟩
 refine pf rfl a ?_
 refine pf rfl a ?_
 refine pf rfl a ?_
 refine pf rfl a ?_
 refine pf rfl a ?_
 refine pf rfl a ?_
 refine pf rfl a ?_
 refine sp rfl (Qf rfl (dk rfl) rfl a rfl ?_)
 refine TL'.nil (tN ?_)
 refine Qk rfl rfl ?_
 refine Qd ?_ (J8 K h)
 exact tq rfl rfl
 refine sn rfl a (Ql rfl (dk rfl) Uh rfl i57 (by decide) rfl ?_)
 refine sn rfl a (Qo (i := 1) rfl (dk rfl) Dh rfl rfl rfl rfl ?_)
 refine sn rfl a (Qn (xs := x0.Next) (f := (cL 2 Qw)) rfl (dk rfl) Dh rfl ?_)
 refine sn rfl a (Ql rfl (dk rfl) Uh rfl i57 (by decide) rfl ?_)
 refine sn rfl a (Qo (i := 0) rfl (dk rfl) Dh rfl rfl rfl rfl ?_)
 refine sn rfl a (Qn (xs := x1.Next) (f := (cL 2 Qw)) rfl (dk rfl) Dh rfl ?_)
 refine sn rfl a (Qa rfl rfl (dk rfl) rfl rfl ?_)
 refine sp rfl (Qm rfl (dk rfl) rfl a rfl ?_)
 refine TL'.nil (tN ?_)
 rcases Qb h with ⟨g, h⟩ | ⟨g, h⟩
 refine Qk rfl g ?_
 refine Qd ?_ (J8 K h)
 exact tq rfl rfl
 refine Qp rfl g ?_
 refine T.skip (tN ?_)
 refine T.seq ?_
 refine T.seq (Qr ?_)
 refine aw rfl ?_
 refine TL'.nil (tN ?_)
 refine T.block ?_
 refine T.loop ?_
 refine Qc ?_ (Ou K K (0:Int) x0 x1 j l h)
 exact tr rfl (.c (.s .z) (.c .z (.n _)))
abbrev Jx (r : Bool) : ES := Jt tp Try.f28 (fun y t => y = (.bool r) ∧ t = [])
abbrev Ns (r : Bool) : ES := thenS (fun s' => T tp 48 (ca [1,1] Try.f28) s' ((Jx r))) ((Jx r))
abbrev Iz (r : Bool) : ES := thenS (fun s' => T tp 48 (ca [1,1,1] Try.f28) s' ((Jx r))) ((Jx r))
abbrev Ev (r : Bool) : ES := Q0 0 ((Iz r))
theorem H1 {r : Bool} (K : Nat) (h : Jf K = some r) : T tp 48 (ca [1,0,1,0] Try.f28) ⟨[], []⟩ (Ns r) := by
 unfold Jf at h
 refine T.seq (Qr ?_)
 refine aw rfl ?_
 refine TL'.nil (tN ?_)
 refine T.ret (Qj ?_)
 exact Fin.done (.cons _ _ _ _ (.tmp 4 _ rfl) .nil) (by cases h; exact ⟨rfl, rfl⟩)
theorem Nt {r : Bool} (K : Nat) : ∀ (k : Nat), ∀ (l : Int) (x0 x1 : aAu) (g j : Nat), Yp K k l x0 x1 = some r → TL tp 48 (ca [1,1,0,1,0,0] Try.f28) ⟨[(2, .ptr g 0), (3, .ptr j 0), (5, .int .i64 l)], [(Vc g x0.Split.Of x0.Split.Many x0.Counts x0.States), (Vc j x1.Split.Of x1.Split.Many x1.Counts x1.States)]⟩ (Ev r) := by
 intro k
 induction k with
 | zero =>
  intro l x0 x1 g j h
  cases (show (none : Option Bool) = some r from h)
 | succ k ih =>
  intro l x0 x1 g j h
  rw [Yp] at h
  refine Za ?_
  refine T.seq ?_
  refine T.seq (Qr ?_)
  refine mw rfl ?_
  refine sp rfl (Ql rfl (dk rfl) Xu rfl i26 (by decide) rfl ?_)
  refine sp rfl (Qo (i := 0) rfl (dk rfl) Vx rfl rfl rfl rfl ?_)
  refine sp rfl (Qn (xs := x0.States) (f := Qx) rfl (dk rfl) Vx rfl ?_)
  refine sp rfl (Qa rfl rfl (dk rfl) rfl rfl ?_)
  refine TL'.nil (tN ?_)
  rcases Qb h with ⟨p, h⟩ | ⟨p, h⟩
  refine Qk rfl p ?_
  refine T.skip (tN ?_)
  refine T.seq ?_
  refine T.block ?_
  refine T.seq ?_
  refine Xl ?_
  refine dS (c := ⟨some 36, .ptr g (0 + 258), [(2, .ptr g 0)], [], []⟩) (fun t hm => oF rfl rfl (Ql rfl (dk rfl) Xu rfl i26 (by decide) hm.s0 rfl)) rfl rfl ?_
  refine dS (c := ⟨some 37, .sl false 4 (x0.States.map Qx), [(36, .ptr g (0 + 258))], [(0, (Vc g x0.Split.Of x0.Split.Many x0.Counts x0.States))], []⟩) (fun t hm => oF rfl rfl (Qo (i := 0) rfl (dk rfl) Vx rfl hm.s0 hm.o0 rfl rfl)) rfl rfl ?_
  refine Yg rfl rfl rfl rfl rfl rfl ?_
  obtain ⟨a, s, h⟩ := bind_some h
  refine dS (c := ⟨some 39, .ref [.sl false 1 (mI a.L), .sl false 1 (mI a.R), .sl false 1 (mI a.Rule), .sl false 1 (a.Next.map (cL 2 Qw))], [(37, .sl false 4 (x0.States.map Qx)), (38, .int .i64 l)], [], []⟩) (fun t hm => oF rfl rfl (Qi (xs := x0.States) (f := Qx) (v := a) rfl (dk rfl) Vx i59 hm.s0 hm.s1 s rfl)) rfl rfl ?_
  refine dS (c := ⟨some 40, .agg [.sl false 1 (mI a.L), .sl false 1 (mI a.R), .sl false 1 (mI a.Rule), .sl false 1 (a.Next.map (cL 2 Qw))], [(39, .ref [.sl false 1 (mI a.L), .sl false 1 (mI a.R), .sl false 1 (mI a.Rule), .sl false 1 (a.Next.map (cL 2 Qw))])], [], []⟩) (fun t hm => oF rfl rfl (Zg rfl (dk rfl) Uh rfl i59 hm.s0 (nb rfl) rfl)) rfl rfl ?_
  refine dS (c := ⟨some 41, .ptr j (0 + 258), [(3, .ptr j 0)], [], []⟩) (fun t hm => oF rfl rfl (Ql rfl (dk rfl) Xu rfl i26 (by decide) hm.s0 rfl)) rfl rfl ?_
  refine dS (c := ⟨some 42, .sl false 4 (x1.States.map Qx), [(41, .ptr j (0 + 258))], [(1, (Vc j x1.Split.Of x1.Split.Many x1.Counts x1.States))], []⟩) (fun t hm => oF rfl rfl (Qo (i := 1) rfl (dk rfl) Vx rfl hm.s0 hm.o0 rfl rfl)) rfl rfl ?_
  refine Yg rfl rfl rfl rfl rfl rfl ?_
  obtain ⟨b, w, h⟩ := bind_some h
  refine dS (c := ⟨some 44, .ref [.sl false 1 (mI b.L), .sl false 1 (mI b.R), .sl false 1 (mI b.Rule), .sl false 1 (b.Next.map (cL 2 Qw))], [(42, .sl false 4 (x1.States.map Qx)), (43, .int .i64 l)], [], []⟩) (fun t hm => oF rfl rfl (Qi (xs := x1.States) (f := Qx) (v := b) rfl (dk rfl) Vx i59 hm.s0 hm.s1 w rfl)) rfl rfl ?_
  refine dS (c := ⟨some 45, .agg [.sl false 1 (mI b.L), .sl false 1 (mI b.R), .sl false 1 (mI b.Rule), .sl false 1 (b.Next.map (cL 2 Qw))], [(44, .ref [.sl false 1 (mI b.L), .sl false 1 (mI b.R), .sl false 1 (mI b.Rule), .sl false 1 (b.Next.map (cL 2 Qw))])], [], []⟩) (fun t hm => oF rfl rfl (Zg rfl (dk rfl) Uh rfl i59 hm.s0 (nb rfl) rfl)) rfl rfl ?_
  obtain ⟨m, y, h⟩ := bind_some h
  refine dS (c := ⟨some 46, .bool m, [(40, .agg [.sl false 1 (mI a.L), .sl false 1 (mI a.R), .sl false 1 (mI a.Rule), .sl false 1 (a.Next.map (cL 2 Qw))]), (45, .agg [.sl false 1 (mI b.L), .sl false 1 (mI b.R), .sl false 1 (mI b.Rule), .sl false 1 (b.Next.map (cL 2 Qw))])], [], []⟩) (fun t hm => oF rfl rfl (Q2 rfl (dk rfl) Try.func53 rfl rfl (Q5.cons hm.s0 (Q5.cons hm.s1 Q5.nil)) (Zp.nil (r1_sameState_T K y)) rfl)) rfl rfl ?_
  refine dS (c := ⟨some 47, .bool (!m), [(46, .bool m)], [], []⟩) (fun t hm => oF rfl rfl (OpT.not rfl (dk rfl) hm.s0 rfl)) rfl rfl ?_
  refine Ys (s1 := ⟨[(2, .ptr g 0), (3, .ptr j 0), (5, .int .i64 l), (47, .bool (!m))], [(Vc g x0.Split.Of x0.Split.Many x0.Counts x0.States), (Vc j x1.Split.Of x1.Split.Many x1.Counts x1.States)]⟩) (ms := [0, 1, 0, 7, 15, 0, 32, 0, 224, 480, 1023, 2047]) Q7 rfl (by kernel_rfl) (by kernel_rfl) (by kernel_rfl) (sf rfl) rfl (fun u hu => (tN (Qd hu ?_)))
  rcases Qb h with ⟨q, h⟩ | ⟨q, h⟩
  refine Qk rfl q ?_
  refine T.seq (Qr ?_)
  refine aw rfl ?_
  refine TL'.nil (tN ?_)
  refine T.ret (Qt (Qj (Qj (Qt (Qj ?_)))))
  exact Fin.done (.cons _ _ _ _ (.tmp 4 _ rfl) .nil) (by cases h; exact ⟨rfl, rfl⟩)
  refine Qp rfl q ?_
  refine T.skip (Qe (tN ?_))
  refine Qr ?_
  refine mw rfl ?_
  refine sp rfl (Qa rfl rfl (dk rfl) rfl rfl ?_)
  refine aw rfl ?_
  refine TL'.nil (tN ?_)
  refine Qc ?_ (ih (wI (l + (1:Int))) x0 x1 g j h)
  exact tq rfl rfl
  refine Qp rfl p ?_
  refine T.exit (Qh (Qh (Qq (tN ?_))))
  refine T.seq (Qr ?_)
  refine aw rfl ?_
  refine TL'.nil (tN ?_)
  refine T.ret ?_
  exact Fin.done (.cons _ _ _ _ (.tmp 4 _ rfl) .nil) (by cases h; exact ⟨rfl, rfl⟩)
theorem Rk (K : Nat) {x0 x1 : aAu} {r : Bool} (h : H2 K x0 x1 = some r) : Zp tp 28 [.agg ((Qy.dc 256 .u8 x0.Split.Of) ++ (([.int .i64 x0.Split.Many, .sl false 2 (mA x0.Counts), .sl false 4 (x0.States.map Qx)] : List DC))), .agg ((Qy.dc 256 .u8 x1.Split.Of) ++ (([.int .i64 x1.Split.Many, .sl false 2 (mA x1.Counts), .sl false 4 (x1.States.map Qx)] : List DC)))] [] (.bool r) := by
 refine Qs Try.func28 rfl (nb rfl) ?_
 show T tp 48 (ca [] Try.f28) ⟨Qv 0 [.agg ((Qy.dc 256 .u8 x0.Split.Of) ++ (([.int .i64 x0.Split.Many, .sl false 2 (mA x0.Counts), .sl false 4 (x0.States.map Qx)] : List DC))), .agg ((Qy.dc 256 .u8 x1.Split.Of) ++ (([.int .i64 x1.Split.Many, .sl false 2 (mA x1.Counts), .sl false 4 (x1.States.map Qx)] : List DC)))], []⟩ (Jx r)
 unfold H2 at h
 refine T.seq (Qr ?_)
 refine sp rfl (Zb rfl (dk rfl) rfl (fun g => ?_))
 refine sp rfl (Zb rfl (dk rfl) rfl (fun j => ?_))
 refine aw rfl ?_
 refine TL'.nil (tN ?_)
 refine T.seq ?_
 refine T.seq (Qr ?_)
 refine sp rfl (Ql rfl (dk rfl) Xu rfl i24 (by decide) rfl ?_)
 refine sp rfl (Zc (i := 1) (l := ((Qy.dc 256 .u8 x0.Split.Of) ++ (([.int .i64 x0.Split.Many] : List DC)))) rfl (dk rfl) F7 rfl i24 rfl rfl rfl rfl ?_)
 refine sp rfl (Ql rfl (dk rfl) Xu rfl i24 (by decide) rfl ?_)
 refine sp rfl (Zc (i := 0) (l := ((Qy.dc 256 .u8 x1.Split.Of) ++ (([.int .i64 x1.Split.Many] : List DC)))) rfl (dk rfl) F7 rfl i24 rfl rfl rfl rfl ?_)
 refine sp rfl (OpT.segsNeq (ms := [256, 1]) (us := [(.u8, Qy.list 256 x0.Split.Of), (.i64, [x0.Split.Many])]) (ys := [(.u8, Qy.list 256 x1.Split.Of), (.i64, [x1.Split.Many])]) rfl (dk rfl) F7 Try.stoodInHeld24 (by kernel_rfl) Try.eqGuardType24 rfl rfl (.arr (.one (.nil))) (.arr (.one (.nil))) (by simp [Qy.list]) (by simp [Qy.list]) rfl rfl ?_)
 refine mw rfl ?_
 rcases Qb h with ⟨a, h⟩ | ⟨a, h⟩
 refine pf rfl a ?_
 refine pf rfl a ?_
 refine pf rfl a ?_
 refine pf rfl a ?_
 refine pf rfl a ?_
 refine pf rfl a ?_
 refine pf rfl a ?_
 refine sp rfl (Qf rfl (dk rfl) rfl a rfl ?_)
 refine mw rfl ?_
 refine pf rfl rfl ?_
 refine pf rfl rfl ?_
 refine pf rfl rfl ?_
 refine pf rfl rfl ?_
 refine pf rfl rfl ?_
 refine pf rfl rfl ?_
 refine pf rfl rfl ?_
 refine sp rfl (Qf rfl (dk rfl) rfl rfl rfl ?_)
 refine TL'.nil (tN ?_)
 refine Qk rfl rfl ?_
 refine Qd ?_ (H1 K h)
 exact tq rfl rfl
 refine sn rfl a (Ql rfl (dk rfl) Xu rfl i26 (by decide) rfl ?_)
 refine sn rfl a (Qo (i := 1) rfl (dk rfl) Vx rfl rfl rfl rfl ?_)
 refine sn rfl a (Qn (xs := x0.States) (f := Qx) rfl (dk rfl) Vx rfl ?_)
 refine sn rfl a (Ql rfl (dk rfl) Xu rfl i26 (by decide) rfl ?_)
 refine sn rfl a (Qo (i := 0) rfl (dk rfl) Vx rfl rfl rfl rfl ?_)
 refine sn rfl a (Qn (xs := x1.States) (f := Qx) rfl (dk rfl) Vx rfl ?_)
 refine sn rfl a (Qa rfl rfl (dk rfl) rfl rfl ?_)
 refine sp rfl (Qm rfl (dk rfl) rfl a rfl ?_)
 refine mw rfl ?_
 rcases Qb h with ⟨b, h⟩ | ⟨b, h⟩
 refine pf rfl b ?_
 refine pf rfl b ?_
 refine pf rfl b ?_
 refine pf rfl b ?_
 refine pf rfl b ?_
 refine pf rfl b ?_
 refine pf rfl b ?_
 refine sp rfl (Qf rfl (dk rfl) rfl b rfl ?_)
 refine TL'.nil (tN ?_)
 refine Qk rfl rfl ?_
 refine Qd ?_ (H1 K h)
 exact tq rfl rfl
 refine sn rfl b (Ql rfl (dk rfl) Xu rfl i25 (by decide) rfl ?_)
 refine sn rfl b (Qo (i := 1) rfl (dk rfl) Da rfl rfl rfl rfl ?_)
 refine sn rfl b (Qn (xs := x0.Counts) (f := (Ze.dc .i64)) rfl (dk rfl) Da rfl ?_)
 refine sn rfl b (Ql rfl (dk rfl) Xu rfl i25 (by decide) rfl ?_)
 refine sn rfl b (Qo (i := 0) rfl (dk rfl) Da rfl rfl rfl rfl ?_)
 refine sn rfl b (Qn (xs := x1.Counts) (f := (Ze.dc .i64)) rfl (dk rfl) Da rfl ?_)
 refine sn rfl b (Qa rfl rfl (dk rfl) rfl rfl ?_)
 refine sp rfl (Qm rfl (dk rfl) rfl b rfl ?_)
 refine TL'.nil (tN ?_)
 rcases Qb h with ⟨d, h⟩ | ⟨d, h⟩
 refine Qk rfl d ?_
 refine Qd ?_ (H1 K h)
 exact tq rfl rfl
 refine Qp rfl d ?_
 refine T.skip (tN ?_)
 refine T.seq ?_
 refine T.seq (Qr ?_)
 refine aw rfl ?_
 refine TL'.nil (tN ?_)
 refine T.block ?_
 refine T.loop ?_
 refine Qc ?_ (Nt K K (0:Int) x0 x1 g j h)
 exact tr rfl (.c (.s .z) (.c .z (.n _)))
abbrev Rj (r : Bool) : ES := Jt tp Try.f16 (fun y t => y = (.bool r) ∧ t = [])
abbrev r1_Same_qs111 (r : Bool) : ES := thenS (fun s' => T tp 28 (ca [1,1,1] Try.f16) s' ((Rj r))) ((Rj r))
abbrev Ri (r : Bool) : ES := Q0 0 ((r1_Same_qs111 r))
theorem r1_Same_l0_T {r : Bool} (K : Nat) : ∀ (k : Nat), ∀ (l : Int) (x0 x1 : aAu) (g j : Nat), Jj K k l x0 x1 = some r → TL tp 28 (ca [1,1,0,1,0,0] Try.f16) ⟨[(2, .ptr g 0), (3, .ptr j 0), (5, .int .i64 l)], [(Vc g x0.Split.Of x0.Split.Many x0.Counts x0.States), (Vc j x1.Split.Of x1.Split.Many x1.Counts x1.States)]⟩ (Ri r) := by
 intro k
 induction k with
 | zero =>
  intro l x0 x1 g j h
  cases (show (none : Option Bool) = some r from h)
 | succ k ih =>
  intro l x0 x1 g j h
  rw [Jj] at h
  refine Za ?_
  refine T.seq ?_
  refine T.seq (Qr ?_)
  refine mw rfl ?_
  refine sp rfl (Ql rfl (dk rfl) Xu rfl i25 (by decide) rfl ?_)
  refine sp rfl (Qo (i := 0) rfl (dk rfl) Da rfl rfl rfl rfl ?_)
  refine sp rfl (Qn (xs := x0.Counts) (f := (Ze.dc .i64)) rfl (dk rfl) Da rfl ?_)
  refine sp rfl (Qa rfl rfl (dk rfl) rfl rfl ?_)
  refine TL'.nil (tN ?_)
  rcases Qb h with ⟨m, h⟩ | ⟨m, h⟩
  refine Qk rfl m ?_
  refine T.skip (tN ?_)
  refine T.seq ?_
  refine T.block ?_
  refine T.seq ?_
  refine Xl ?_
  refine dS (c := ⟨some 17, .ptr g (0 + 257), [(2, .ptr g 0)], [], []⟩) (fun t hm => oF rfl rfl (Ql rfl (dk rfl) Xu rfl i25 (by decide) hm.s0 rfl)) rfl rfl ?_
  refine dS (c := ⟨some 18, .sl false 2 (mA x0.Counts), [(17, .ptr g (0 + 257))], [(0, (Vc g x0.Split.Of x0.Split.Many x0.Counts x0.States))], []⟩) (fun t hm => oF rfl rfl (Qo (i := 0) rfl (dk rfl) Da rfl hm.s0 hm.o0 rfl rfl)) rfl rfl ?_
  refine Yg rfl rfl rfl rfl rfl rfl ?_
  obtain ⟨a, q, h⟩ := bind_some h
  refine dS (c := ⟨some 20, .ref [.int .i64 a.a0, .int .i64 a.a1], [(18, .sl false 2 (mA x0.Counts)), (19, .int .i64 l)], [], []⟩) (fun t hm => oF rfl rfl (Qi (xs := x0.Counts) (f := (Ze.dc .i64)) (v := a) rfl (dk rfl) Da i42 hm.s0 hm.s1 q rfl)) rfl rfl ?_
  refine dS (c := ⟨some 21, .agg (Ze.dc .i64 a), [(20, .ref [.int .i64 a.a0, .int .i64 a.a1])], [], []⟩) (fun t hm => oF rfl rfl (Zg rfl (dk rfl) ul42 rfl i42 hm.s0 (nb rfl) rfl)) rfl rfl ?_
  refine dS (c := ⟨some 22, .ptr j (0 + 257), [(3, .ptr j 0)], [], []⟩) (fun t hm => oF rfl rfl (Ql rfl (dk rfl) Xu rfl i25 (by decide) hm.s0 rfl)) rfl rfl ?_
  refine dS (c := ⟨some 23, .sl false 2 (mA x1.Counts), [(22, .ptr j (0 + 257))], [(1, (Vc j x1.Split.Of x1.Split.Many x1.Counts x1.States))], []⟩) (fun t hm => oF rfl rfl (Qo (i := 1) rfl (dk rfl) Da rfl hm.s0 hm.o0 rfl rfl)) rfl rfl ?_
  refine Yg rfl rfl rfl rfl rfl rfl ?_
  obtain ⟨b, s, h⟩ := bind_some h
  refine dS (c := ⟨some 25, .ref [.int .i64 b.a0, .int .i64 b.a1], [(23, .sl false 2 (mA x1.Counts)), (24, .int .i64 l)], [], []⟩) (fun t hm => oF rfl rfl (Qi (xs := x1.Counts) (f := (Ze.dc .i64)) (v := b) rfl (dk rfl) Da i42 hm.s0 hm.s1 s rfl)) rfl rfl ?_
  refine dS (c := ⟨some 26, .agg (Ze.dc .i64 b), [(25, .ref [.int .i64 b.a0, .int .i64 b.a1])], [], []⟩) (fun t hm => oF rfl rfl (Zg rfl (dk rfl) ul42 rfl i42 hm.s0 (nb rfl) rfl)) rfl rfl ?_
  refine dS (c := ⟨some 27, .bool (!(Ze.same a b)), [(21, .agg (Ze.dc .i64 a)), (26, .agg (Ze.dc .i64 b))], [], []⟩) (fun t hm => oF rfl rfl (OpT.intsNeq (k := .i64) (xs := [a.a0, a.a1]) (ys := [b.a0, b.a1]) rfl (dk rfl) ul42 ul3 i3 Try.eqGuardType42 hm.s0 hm.s1 rfl rfl rfl rfl (Ze.same_eq a b) rfl)) rfl rfl ?_
  refine Ys (s1 := ⟨[(2, .ptr g 0), (3, .ptr j 0), (5, .int .i64 l), (27, .bool (!(Ze.same a b)))], [(Vc g x0.Split.Of x0.Split.Many x0.Counts x0.States), (Vc j x1.Split.Of x1.Split.Many x1.Counts x1.States)]⟩) (ms := [0, 1, 0, 7, 15, 0, 32, 0, 224, 480, 1023]) Q7 rfl (by kernel_rfl) (by kernel_rfl) (by kernel_rfl) (sf rfl) rfl (fun u hu => (tN (Qd hu ?_)))
  rcases Qb h with ⟨p, h⟩ | ⟨p, h⟩
  refine Qk rfl p ?_
  refine T.seq (Qr ?_)
  refine aw rfl ?_
  refine TL'.nil (tN ?_)
  refine T.ret (Qt (Qj (Qj (Qt (Qj ?_)))))
  exact Fin.done (.cons _ _ _ _ (.tmp 4 _ rfl) .nil) (by cases h; exact ⟨rfl, rfl⟩)
  refine Qp rfl p ?_
  refine T.skip (Qe (tN ?_))
  refine Qr ?_
  refine mw rfl ?_
  refine sp rfl (Qa rfl rfl (dk rfl) rfl rfl ?_)
  refine aw rfl ?_
  refine TL'.nil (tN ?_)
  refine Qc ?_ (ih (wI (l + (1:Int))) x0 x1 g j h)
  exact tq rfl rfl
  refine Qp rfl m ?_
  refine T.exit (Qh (Qh (Qq (tN ?_))))
  refine T.seq (Qr ?_)
  refine aw rfl ?_
  refine TL'.nil (tN ?_)
  refine T.ret ?_
  exact Fin.done (.cons _ _ _ _ (.tmp 4 _ rfl) .nil) (by cases h; exact ⟨rfl, rfl⟩)
theorem r1_Same_T (K : Nat) {x0 x1 : aAu} {r : Bool} (h : O1 K x0 x1 = some r) : Zp tp 16 [.agg ((Qy.dc 256 .u8 x0.Split.Of) ++ (([.int .i64 x0.Split.Many, .sl false 2 (mA x0.Counts), .sl false 4 (x0.States.map Qx)] : List DC))), .agg ((Qy.dc 256 .u8 x1.Split.Of) ++ (([.int .i64 x1.Split.Many, .sl false 2 (mA x1.Counts), .sl false 4 (x1.States.map Qx)] : List DC)))] [] (.bool r) := by
 refine Qs Try.func16 rfl (nb rfl) ?_
 show T tp 28 (ca [] Try.f16) ⟨Qv 0 [.agg ((Qy.dc 256 .u8 x0.Split.Of) ++ (([.int .i64 x0.Split.Many, .sl false 2 (mA x0.Counts), .sl false 4 (x0.States.map Qx)] : List DC))), .agg ((Qy.dc 256 .u8 x1.Split.Of) ++ (([.int .i64 x1.Split.Many, .sl false 2 (mA x1.Counts), .sl false 4 (x1.States.map Qx)] : List DC)))], []⟩ (Rj r)
 unfold O1 at h
 refine T.seq (Qr ?_)
 refine sp rfl (Zb rfl (dk rfl) rfl (fun b => ?_))
 refine sp rfl (Zb rfl (dk rfl) rfl (fun d => ?_))
 refine aw rfl ?_
 refine TL'.nil (tN ?_)
 refine T.seq ?_
 refine T.seq (Qr ?_)
 refine sp rfl (Zc (i := 1) (l := ((Qy.dc 256 .u8 x0.Split.Of) ++ (([.int .i64 x0.Split.Many, .sl false 2 (mA x0.Counts), .sl false 4 (x0.States.map Qx)] : List DC)))) rfl (dk rfl) Xu rfl i28 rfl rfl rfl rfl ?_)
 refine sp rfl (Zc (i := 0) (l := ((Qy.dc 256 .u8 x1.Split.Of) ++ (([.int .i64 x1.Split.Many, .sl false 2 (mA x1.Counts), .sl false 4 (x1.States.map Qx)] : List DC)))) rfl (dk rfl) Xu rfl i28 rfl rfl rfl rfl ?_)
 obtain ⟨g, f, h⟩ := bind_some h
 refine sp rfl (Q2 rfl (dk rfl) Try.func28 rfl rfl (Q5.cons rfl (Q5.cons rfl Q5.nil)) (Zp.nil (Rk K f)) ?_)
 refine sp rfl (OpT.not rfl (dk rfl) rfl ?_)
 refine TL'.nil (tN ?_)
 rcases Qb h with ⟨a, h⟩ | ⟨a, h⟩
 refine Qk rfl a ?_
 refine T.seq (Qr ?_)
 refine aw rfl ?_
 refine TL'.nil (tN ?_)
 refine T.ret (Qj ?_)
 exact Fin.done (.cons _ _ _ _ (.tmp 4 _ rfl) .nil) (by cases h; exact ⟨rfl, rfl⟩)
 refine Qp rfl a ?_
 refine T.skip (tN ?_)
 refine T.seq ?_
 refine T.seq (Qr ?_)
 refine aw rfl ?_
 refine TL'.nil (tN ?_)
 refine T.block ?_
 refine T.loop ?_
 refine Qc ?_ (r1_Same_l0_T K K (0:Int) x0 x1 b d h)
 exact tr rfl (.c (.s .z) (.c .z (.n _)))
theorem Pp (K : Nat) {x0 : ByteArray} {x1 : Int} {r : ByteArray} (h : strings_Repeat K x0 x1 = some r) : Zp tp 54 [.str x0, .int .i64 x1] [] (.str r) := by
 unfold strings_Repeat at h
 split at h
 next hc => cases h; exact repeat_call Try.lays105 Try.Builder_Extra_105 hc.1 hc.2.1 hc.2.2
 cases h
abbrev tbr_some_q (bx0 : Nat) (r : ByteArray × tbr) : ES := Jt tp Try.f29 (fun y t => ∃ γ : Nat → Value, y = (.str r.1) ∧ t = [(Q3 bx0 r.2.b r.2.bad)])
theorem E7 (K : Nat) {x0 : tbr} {x1 : Int} {bx0 : Nat} {r : ByteArray × tbr} (h : Jn K x0 x1 = some r) : J2 tp 29 [.ptr bx0 0, .int .i64 x1] [(Q3 bx0 x0.b x0.bad)] (fun γ => (.str r.1)) (fun γ => [(Q3 bx0 r.2.b r.2.bad)]) := by
 refine Qs Try.func29 rfl (nb rfl) ?_
 show T tp 37 (ca [] Try.f29) ⟨Qv 0 [.ptr bx0 0, .int .i64 x1], [(Q3 bx0 x0.b x0.bad)]⟩ (tbr_some_q bx0 r)
 unfold Jn at h
 refine T.seq (Qr ?_)
 refine aw rfl ?_
 refine TL'.nil (tN ?_)
 refine T.seq ?_
 refine T.seq (Qr ?_)
 refine mw rfl ?_
 refine mw rfl ?_
 refine sp rfl (OpT.nilCheck rfl (dk rfl) rfl rfl ?_)
 refine sp rfl (Ql rfl (dk rfl) ul75 rfl i9 (by decide) rfl ?_)
 refine sp rfl (Qo (i := 0) rfl (dk rfl) ul9 rfl rfl rfl rfl ?_)
 refine sp rfl (OpT.lenStr rfl (dk rfl) ul9 rfl ?_)
 refine sp rfl (Qa rfl rfl (dk rfl) rfl rfl ?_)
 refine TL'.nil (tN ?_)
 rcases Qb h with ⟨a, h⟩ | ⟨a, h⟩
 refine Qk rfl a ?_
 refine T.seq (Qr ?_)
 refine mw rfl ?_
 refine mw rfl ?_
 refine sp rfl (OpT.nilCheck rfl (dk rfl) rfl rfl ?_)
 refine sp rfl (Ql rfl (dk rfl) ul75 rfl i4 (by decide) rfl ?_)
 refine sp rfl (Ug (i := 0) (cells' := [.d (.str x0.b), .d (.bool true)]) rfl rfl i4 rfl rfl rfl (nb rfl) rfl ?_)
 refine sp rfl (OpT.nilCheck rfl (dk rfl) rfl rfl ?_)
 refine sp rfl (Ql rfl (dk rfl) ul75 rfl i9 (by decide) rfl ?_)
 refine sp rfl (Ug (i := 0) (cells' := [.d (.str (⟨#[]⟩ : ByteArray)), .d (.bool true)]) rfl rfl i9 rfl rfl rfl (nb rfl) rfl ?_)
 refine TL'.nil (tN (T.seq (Qr ?_)))
 refine mw rfl ?_
 obtain ⟨j, g, h⟩ := bind_some h
 refine sp rfl (Q2 rfl (dk rfl) Try.func54 rfl rfl (Q5.cons rfl (Q5.cons rfl Q5.nil)) (Zp.nil (Pp K g)) ?_)
 refine aw rfl ?_
 refine TL'.nil (tN ?_)
 refine T.ret (Qj ?_)
 exact Q8 (.cons _ _ _ _ (.tmp 4 _ rfl) .nil) (.cons 0 rfl (.nil _)) (by cases h; exact ⟨gl [], rfl, rfl⟩)
 refine Qp rfl a ?_
 refine T.skip (tN ?_)
 refine T.seq (Qr ?_)
 refine mw rfl ?_
 refine sp rfl (OpT.nilCheck rfl (dk rfl) rfl rfl ?_)
 refine sp rfl (Ql rfl (dk rfl) ul75 rfl i9 (by decide) rfl ?_)
 refine sp rfl (Qo (i := 0) rfl (dk rfl) ul9 rfl rfl rfl rfl ?_)
 refine mw rfl ?_
 obtain ⟨c, h⟩ := Zm h
 refine sp rfl (Pj (l := 0) (h := (Int.toNat x1)) rfl (dk rfl) ul9 rfl (.none _) (.some _ _ _ _ rfl c.1) c.2.1 c.2.2 ?_)
 refine aw rfl ?_
 refine TL'.nil (tN (T.seq (Qr ?_)))
 refine mw rfl ?_
 refine mw rfl ?_
 refine sp rfl (OpT.nilCheck rfl (dk rfl) rfl rfl ?_)
 refine sp rfl (Ql rfl (dk rfl) ul75 rfl i9 (by decide) rfl ?_)
 refine sp rfl (Qo (i := 0) rfl (dk rfl) ul9 rfl rfl rfl rfl ?_)
 refine mw rfl ?_
 obtain ⟨f, h⟩ := Zm h
 refine sp rfl (Pj (l := (Int.toNat x1)) (h := x0.b.size) rfl (dk rfl) ul9 rfl (.some _ _ _ _ rfl f.1) (.none _) f.2.1 f.2.2 ?_)
 refine sp rfl (OpT.nilCheck rfl (dk rfl) rfl rfl ?_)
 refine sp rfl (Ql rfl (dk rfl) ul75 rfl i9 (by decide) rfl ?_)
 refine sp rfl (Ug (i := 0) (cells' := [.d (.str (x0.b.extract (Int.toNat x1) x0.b.size)), .d (.bool x0.bad)]) rfl rfl i9 rfl rfl rfl (nb rfl) rfl ?_)
 refine TL'.nil (tN (T.seq (Qr ?_)))
 refine mw rfl ?_
 refine aw rfl ?_
 refine TL'.nil (tN ?_)
 refine T.ret ?_
 exact Q8 (.cons _ _ _ _ (.tmp 4 _ rfl) .nil) (.cons 0 rfl (.nil _)) (by cases h; exact ⟨gl [], rfl, rfl⟩)
abbrev Ht (r : Int) : ES := Jt tp Try.f55 (fun y t => y = (.int .u8 r) ∧ t = [])
abbrev Ch (r : Int) : ES := thenS (fun s' => T tp 25 (ca [1,1,1,1] Try.f55) s' ((Ht r))) ((Ht r))
abbrev Ba (r : Int) : ES := Q0 0 ((Ch r))
theorem Ed {r : Int} (K : Nat) : ∀ (k : Nat), ∀ (x0 : List Int) (a b : Int) (flx0 : Bool), Y1 K k x0 a b = some r → TL tp 25 (ca [1,1,1,0,1,0,0] Try.f55) ⟨[(0, .sl flx0 1 (mU x0)), (3, .int .u8 a), (4, .int .i64 b)], []⟩ (Ba r) := by
 intro k
 induction k with
 | zero =>
  intro x0 a b flx0 h
  cases (show (none : Option Int) = some r from h)
 | succ k ih =>
  intro x0 a b flx0 h
  rw [Y1] at h
  refine Za ?_
  refine T.seq ?_
  refine T.seq (Qr ?_)
  refine mw rfl ?_
  refine mw rfl ?_
  refine sp rfl (Qn (xs := x0) (f := (cI .u8)) rfl (dk rfl) Vj rfl ?_)
  refine sp rfl (Qa rfl rfl (dk rfl) rfl rfl ?_)
  refine TL'.nil (tN ?_)
  rcases Qb h with ⟨c, h⟩ | ⟨c, h⟩
  refine Qk rfl c ?_
  refine T.skip (tN ?_)
  refine T.seq ?_
  refine T.block ?_
  refine Qr ?_
  iterate 3 refine mw rfl ?_
  obtain ⟨d, g, h⟩ := bind_some h
  refine sp rfl (Qi (xs := x0) (f := (cI .u8)) (v := d) rfl (dk rfl) Vj i5 rfl rfl g ?_)
  refine sp rfl (Qu rfl (dk rfl) ul5 rfl rfl rfl ?_)
  refine sp rfl (OpT.max2 rfl (dk rfl) rfl rfl ?_)
  refine aw rfl ?_
  refine TL'.nil (Qe (tN ?_))
  refine Qr ?_
  refine mw rfl ?_
  refine sp rfl (Qa rfl rfl (dk rfl) rfl rfl ?_)
  refine aw rfl ?_
  refine TL'.nil (tN ?_)
  refine Qc ?_ (ih x0 (if d > a then d else a) (wI (b + (1:Int))) flx0 h)
  exact tq rfl rfl
  refine Qp rfl c ?_
  refine T.exit (Qh (Qh (Qq (tN ?_))))
  refine T.seq (Qr ?_)
  refine mw rfl ?_
  refine aw rfl ?_
  refine TL'.nil (tN ?_)
  refine T.ret ?_
  exact Fin.done (.cons _ _ _ _ (.tmp 2 _ rfl) .nil) (by cases h; exact ⟨rfl, rfl⟩)
theorem Nb (K : Nat) {x0 : List Int} {flx0 : Bool} {r : Int} (h : Jb K x0 = some r) : Zp tp 55 [.sl flx0 1 (mU x0)] [] (.int .u8 r) := by
 refine Qs Try.func55 rfl (nb rfl) ?_
 show T tp 25 (ca [] Try.f55) ⟨Qv 0 [.sl flx0 1 (mU x0)], []⟩ (Ht r)
 unfold Jb at h
 refine T.seq (Qr ?_)
 refine aw rfl ?_
 refine TL'.nil (tN ?_)
 refine T.seq ?_
 refine T.seq (Qr ?_)
 refine mw rfl ?_
 refine sp rfl (Qn (xs := x0) (f := (cI .u8)) rfl (dk rfl) Vj rfl ?_)
 refine sp rfl (Qa rfl rfl (dk rfl) rfl rfl ?_)
 refine TL'.nil (tN ?_)
 rcases Qb h with ⟨a, h⟩ | ⟨a, h⟩
 refine Qk rfl a ?_
 refine Qr ?_
 cases h
 refine Qp rfl a ?_
 refine T.skip (tN ?_)
 refine T.seq (Qr ?_)
 refine mw rfl ?_
 obtain ⟨b, c, h⟩ := bind_some h
 refine sp rfl (Qi (xs := x0) (f := (cI .u8)) (v := b) rfl (dk rfl) Vj i5 rfl rfl c ?_)
 refine sp rfl (Qu rfl (dk rfl) ul5 rfl rfl rfl ?_)
 refine aw rfl ?_
 refine TL'.nil (tN ?_)
 refine T.seq ?_
 refine T.seq (Qr ?_)
 refine aw rfl ?_
 refine TL'.nil (tN ?_)
 refine T.block ?_
 refine T.loop ?_
 refine Qc ?_ (Ed K K x0 b (1:Int) flx0 h)
 exact tq rfl rfl
abbrev tbr_split_q (bx0 : Nat) (r : aSp × tbr) : ES := Jt tp Try.f30 (fun y t => ∃ γ : Nat → Value, y = (.agg ((Qy.dc 256 .u8 r.1.Of) ++ (([.int .i64 r.1.Many] : List DC)))) ∧ t = [(Q3 bx0 r.2.b r.2.bad)])
theorem tbr_split_T (K : Nat) {x0 : tbr} {bx0 : Nat} {r : aSp × tbr} (h : Bu K x0 = some r) : J2 tp 30 [.ptr bx0 0] [(Q3 bx0 x0.b x0.bad)] (fun γ => (.agg ((Qy.dc 256 .u8 r.1.Of) ++ (([.int .i64 r.1.Many] : List DC))))) (fun γ => [(Q3 bx0 r.2.b r.2.bad)]) := by
 refine Qs Try.func30 rfl (nb rfl) ?_
 show T tp 16 (ca [] Try.f30) ⟨Qv 0 [.ptr bx0 0], [(Q3 bx0 x0.b x0.bad)]⟩ (tbr_split_q bx0 r)
 unfold Bu at h
 refine T.seq (Qr ?_)
 refine sp rfl (Zj rfl (dk rfl) i24 rfl (fun s => ?_))
 refine TL'.nil (tN (T.seq (Qr ?_)))
 refine sp rfl (Zj rfl (dk rfl) i24 rfl (fun p => ?_))
 refine TL'.nil (tN ?_)
 refine T.seq ?_
 refine Xi ?_
 refine dC (c := ⟨some 4, .ptr p (0 + 0), [(3, .ptr p 0)], [], []⟩) (fun t hm => oF rfl rfl (Ql rfl (dk rfl) F7 rfl i22 (by decide) hm.s0 ⟨u0, rfl⟩)) (fun _ => rfl) (fun _ => rfl) ?_
 refine dC (c := ⟨some 5, .c (.ex (.slice (some ⟨p, 0, none⟩) 256 256)), [(4, .ptr p (0 + 0))], [], []⟩) (fun t hm => oF rfl rfl (Pl rfl (dk rfl) ul22 i5 hm.s0 (by decide) ⟨u0, rfl⟩)) (fun _ => rfl) (fun _ => rfl) ?_
 refine dC (c := ⟨some 6, .ptr bx0 0, [(0, .ptr bx0 0)], [], []⟩) (fun t hm => oF rfl rfl (OpT.move rfl (dk rfl) hm.s0 ⟨u0, rfl⟩)) (fun _ => rfl) (fun _ => rfl) ?_
 obtain ⟨m, v, h⟩ := bind_some h
 refine dC (c := ⟨some 7, .str m.1, [(6, .ptr bx0 0)], [(2, (Q3 bx0 x0.b x0.bad))], [(2, (Q3 bx0 m.2.b m.2.bad))]⟩) (fun t hm => oF rfl rfl (Q6 (is := [2]) (ph := []) rfl (dk rfl) Try.func29 rfl rfl (Q5.cons hm.s0 (Q5.cons rfl Q5.nil)) (E7 K (bx0 := bx0) v) (.cons hm.o0 rfl (.nil)) (fun _ => rfl) (fun g => ⟨(g, 0), rfl⟩))) (fun _ => rfl) (fun _ => rfl) ?_
 obtain ⟨w, h⟩ := Zm h
 refine dC (c := ⟨some 8, .int .i64 (m.1.size : Int), [(5, .c (.ex (.slice (some ⟨p, 0, none⟩) 256 256))), (7, .str m.1)], [(0, (Fv p (Qy.mk fun _ => 0) (0:Int)))], [(0, (Fv p (Qy.copyS (Qy.mk fun _ => 0) m.1) (0:Int)))]⟩) (fun t hm => oF rfl rfl (OpT.copyBox (i := 0) (pre := []) (post := [.d (.int .i64 (0:Int))]) (a := (Qy.mk fun _ => 0)) (n := 256) rfl (dk rfl) Vj i5 hm.s0 hm.s1 hm.o0 rfl w ⟨u0, rfl⟩)) (fun _ => rfl) (fun _ => rfl) ?_
 refine Vz (s1 := fun j => ⟨[(2, .ptr s 0), (3, .ptr p 0)], [(Fv p (Qy.copyS (Qy.mk fun _ => 0) m.1) (0:Int)), (Fv s (Qy.mk fun _ => 0) (0:Int)), (Q3 bx0 m.2.b m.2.bad)]⟩) (ms := [0, 1, 0, 4, 15]) Q7 rfl (by kernel_rfl) (by kernel_rfl) (by kernel_rfl) (fun j => by kernel_rfl) (fun j => sf rfl) (fun _ => rfl) (fun j u hu => (tN (Qd hu ?_)))
 refine T.seq (Qr ?_)
 refine sp rfl (Ql rfl (dk rfl) F7 rfl i22 (by decide) rfl ?_)
 refine sp rfl (Pl rfl (dk rfl) ul22 i5 rfl (by decide) ?_)
 obtain ⟨q, z, h⟩ := bind_some h
 refine sp rfl (OpT.callLent (i := 0) rfl (dk rfl) Try.func55 rfl rfl rfl (Pz.lentBox (xs := (Qy.list 256 (Qy.copyS (Qy.mk fun _ => 0) m.1))) (f := cI .u8) rfl N8 (by decide) (fun y hy => by obtain ⟨a, _, rfl⟩ := List.mem_map.1 hy; rfl) (Qy.oc_lent (pre := []) (post := [.d (.int .i64 (0:Int))]) rfl rfl) Pz.nil) (Zp.nil (Nb K (flx0 := false) z)) (.ex _) ?_)
 refine sp rfl (Yn rfl (dk rfl) ul5 ul3 rfl ?_)
 refine sp rfl (Qa rfl rfl (dk rfl) rfl rfl ?_)
 refine sp rfl (Ql rfl (dk rfl) F7 rfl i3 (by decide) rfl ?_)
 refine sp rfl (Ug (i := 0) (cells' := ((Qy.oc 256 .u8 (Qy.copyS (Qy.mk fun _ => 0) m.1)) ++ (([.d (.int .i64 (wI ((wI q) + (1:Int))))]:List OC)))) rfl rfl i3 rfl rfl rfl (nb rfl) rfl ?_)
 refine TL'.nil (tN (T.seq (Qr ?_)))
 refine sp rfl (Zc (i := 0) (l := ((Qy.dc 256 .u8 (Qy.copyS (Qy.mk fun _ => 0) m.1)) ++ (([.int .i64 (wI ((wI q) + (1:Int)))] : List DC)))) rfl (dk rfl) F7 rfl i24 rfl rfl rfl rfl ?_)
 refine sp rfl (Qz (i := 1) (cells' := ((Qy.oc 256 .u8 (Qy.copyS (Qy.mk fun _ => 0) m.1)) ++ (([.d (.int .i64 (wI ((wI q) + (1:Int))))]:List OC)))) rfl rfl i24 rfl rfl rfl rfl (nb rfl) rfl ?_)
 refine TL'.nil (tN ?_)
 refine T.ret ?_
 exact Q8 (.cons _ _ _ _ (.cellAgg 2 24 _ 0 1 24 _ ((Qy.dc 256 .u8 (Qy.copyS (Qy.mk fun _ => 0) m.1)) ++ (([.int .i64 (wI ((wI q) + (1:Int)))] : List DC))) _ _ 257 _ rfl rfl rfl rfl F7 rfl i24) .nil) (.cons 2 rfl (.nil _)) (by cases h; exact ⟨gl [], rfl, rfl⟩)
abbrev P2 (bx0 : Nat) (r : Int × tbr) : ES := Jt tp Try.f32 (fun y t => ∃ γ : Nat → Value, y = (.int .i64 r.1) ∧ t = [(Q3 bx0 r.2.b r.2.bad)])
abbrev tbr_num_qs111 (bx0 : Nat) (r : Int × tbr) : ES := thenS (fun s' => T tp 42 (ca [1,1,1] Try.f32) s' ((P2 bx0 r))) ((P2 bx0 r))
abbrev Kk (bx0 : Nat) (r : Int × tbr) : ES := Q0 0 ((tbr_num_qs111 bx0 r))
abbrev D9 (bx0 : Nat) (r : Int × tbr) : ES := thenS (fun s' => TL tp 42 (ca [1,1,0,1,0,0] Try.f32) s' ((Kk bx0 r))) ((Kk bx0 r))
abbrev Ie (bx0 : Nat) (r : Int × tbr) : ES := thenS (fun s' => T tp 42 (ca [1,1,0,1,0,0,1,1,1] Try.f32) s' ((D9 bx0 r))) ((D9 bx0 r))
abbrev Cf (bx0 : Nat) (r : Int × tbr) : ES := Q0 1 ((Ie bx0 r))
theorem Ea {r : Int × tbr} (K bx0 : Nat) (a : Int) (b : ByteArray) (c : Bool) (h : W8 K a b c = some r) : T tp 42 (ca [1,1,0,1,0,0,1,1,0,0,1,1,1,1,0,1] Try.f32) ⟨[(3, .int .i64 a)], [(Q3 bx0 b c)]⟩ (Cf bx0 r) := by
 unfold W8 at h
 refine T.seq (Qr ?_)
 refine mw rfl ?_
 refine aw rfl ?_
 refine TL'.nil (tN ?_)
 refine T.ret (Qt (Qj (Qj (Qt (Qj ?_)))))
 exact Q8 (.cons _ _ _ _ (.tmp 2 _ rfl) .nil) (.cons 0 rfl (.nil _)) (by cases h; exact ⟨gl [], rfl, rfl⟩)
theorem tbr_num_l0_T {r : Int × tbr} (K bx0 : Nat) : ∀ (k : Nat), ∀ (j g : Int) (m : ByteArray) (p : Bool), W7 K k j g m p = some r → TL tp 42 (ca [1,1,0,1,0,0] Try.f32) ⟨[(0, .ptr bx0 0), (3, .int .i64 j), (6, .int .i64 g)], [(Q3 bx0 m p)]⟩ (Kk bx0 r) := by
 intro k
 induction k with
 | zero =>
  intro j g m p h
  cases (show (none : Option (Int × tbr)) = some r from h)
 | succ k ih =>
  intro j g m p h
  rw [W7] at h
  refine Za ?_
  refine T.seq (Qr ?_)
  refine sp rfl (Qa rfl rfl (dk rfl) rfl rfl ?_)
  refine TL'.nil (tN ?_)
  refine T.seq ?_
  rcases Qb h with ⟨q, h⟩ | ⟨q, h⟩
  refine Qk rfl q ?_
  refine T.skip (tN ?_)
  refine T.seq ?_
  refine T.block ?_
  refine T.seq (Qr ?_)
  refine mw rfl ?_
  refine aw rfl ?_
  refine TL'.nil (tN (T.seq (Qr ?_)))
  refine mw rfl ?_
  obtain ⟨f, v, h⟩ := bind_some h
  refine sp rfl (Q6 (is := [0]) (ph := []) rfl (dk rfl) Try.func29 rfl rfl (Q5.cons rfl (Q5.cons rfl Q5.nil)) (E7 K (bx0 := bx0) v) (.cons rfl rfl (.nil)) (fun _ => rfl) (fun y => ?_))
  refine nm (.c (.n)) ?_
  obtain ⟨u, h⟩ := Zm h
  refine sp rfl (OpT.indexStr rfl (dk rfl) ul9 rfl rfl u.1 u.2 ?_)
  refine aw rfl ?_
  refine TL'.nil (tN (T.seq (Qr ?_)))
  refine mw rfl ?_
  refine mw rfl ?_
  refine sp rfl (Qa rfl rfl (dk rfl) rfl rfl ?_)
  refine sp rfl (Yn rfl (dk rfl) ul5 ul3 rfl ?_)
  refine mw rfl ?_
  refine sp rfl (Qa rfl rfl (dk rfl) rfl rfl ?_)
  obtain ⟨w, h⟩ := Zm h
  refine sp rfl (OpT.shl rfl (dk rfl) rfl rfl w ?_)
  refine sp rfl (Qa rfl rfl (dk rfl) rfl rfl ?_)
  refine aw rfl ?_
  refine TL'.nil (tN (T.seq (Qr ?_)))
  refine mw rfl ?_
  refine sp rfl (Qa rfl rfl (dk rfl) rfl rfl ?_)
  refine TL'.nil (tN ?_)
  rcases Qb h with ⟨s, h⟩ | ⟨s, h⟩
  refine Qk rfl s ?_
  refine T.seq (Qr ?_)
  refine mw rfl ?_
  refine mw rfl ?_
  refine sp rfl (OpT.nilCheck rfl (dk rfl) rfl rfl ?_)
  refine sp rfl (Ql rfl (dk rfl) ul75 rfl i4 (by decide) rfl ?_)
  refine sp rfl (Qo (i := 0) rfl (dk rfl) ul4 rfl rfl rfl rfl ?_)
  refine mw rfl ?_
  rcases Qb h with ⟨a, h⟩ | ⟨a, h⟩
  refine pf rfl a ?_
  refine pf rfl a ?_
  refine pf rfl a ?_
  refine TL'.pU (.gone _ _ _ rfl rfl rfl) (dk rfl) ?_
  refine TL'.pU (.gone _ _ _ rfl rfl rfl) (dk rfl) ?_
  refine pf rfl a ?_
  refine sp rfl (Qf rfl (dk rfl) rfl a rfl ?_)
  refine sp rfl (OpT.nilCheck rfl (dk rfl) rfl rfl ?_)
  refine sp rfl (Ql rfl (dk rfl) ul75 rfl i4 (by decide) rfl ?_)
  refine sp rfl (Ug (i := 0) (cells' := [.d (.str f.2.b), .d (.bool true)]) rfl rfl i4 rfl rfl rfl (nb rfl) rfl ?_)
  refine TL'.nil (tN ?_)
  refine Qd ?_ (Ea K bx0 (bits .or .i64 j (wI ((wI (bits .andNot .u8 (bt f.1 (0:Int)) (128:Int))) * 2 ^ min (Int.toNat (wI ((7:Int) * g))) IntKind.i64.bits))) f.2.b true h)
  exact tq rfl rfl
  refine sn rfl a (OpT.move rfl (dk rfl) rfl ?_)
  refine sn rfl a (Qa rfl rfl (dk rfl) rfl rfl ?_)
  refine sn rfl a (OpT.move rfl (dk rfl) rfl ?_)
  rcases Qb h with ⟨l, h⟩ | ⟨l, h⟩
  refine sn rfl l (OpT.move rfl (dk rfl) rfl ?_)
  refine sn rfl l (Qa rfl rfl (dk rfl) rfl rfl ?_)
  refine sn rfl a (Qf rfl (dk rfl) rfl l rfl ?_)
  refine sp rfl (Qm rfl (dk rfl) rfl a rfl ?_)
  refine sp rfl (OpT.nilCheck rfl (dk rfl) rfl rfl ?_)
  refine sp rfl (Ql rfl (dk rfl) ul75 rfl i4 (by decide) rfl ?_)
  refine sp rfl (Ug (i := 0) (cells' := [.d (.str f.2.b), .d (.bool (decide (g > (0:Int))))]) rfl rfl i4 rfl rfl rfl (nb rfl) rfl ?_)
  refine TL'.nil (tN ?_)
  refine Qd ?_ (Ea K bx0 (bits .or .i64 j (wI ((wI (bits .andNot .u8 (bt f.1 (0:Int)) (128:Int))) * 2 ^ min (Int.toNat (wI ((7:Int) * g))) IntKind.i64.bits))) f.2.b (decide (g > (0:Int))) h)
  exact tq rfl rfl
  refine pf rfl l ?_
  refine pf rfl l ?_
  refine sn rfl a (Qm rfl (dk rfl) rfl l rfl ?_)
  refine sp rfl (Qm rfl (dk rfl) rfl a rfl ?_)
  refine sp rfl (OpT.nilCheck rfl (dk rfl) rfl rfl ?_)
  refine sp rfl (Ql rfl (dk rfl) ul75 rfl i4 (by decide) rfl ?_)
  refine sp rfl (Ug (i := 0) (cells' := [.d (.str f.2.b), .d (.bool false)]) rfl rfl i4 rfl rfl rfl (nb rfl) rfl ?_)
  refine TL'.nil (tN ?_)
  refine Qd ?_ (Ea K bx0 (bits .or .i64 j (wI ((wI (bits .andNot .u8 (bt f.1 (0:Int)) (128:Int))) * 2 ^ min (Int.toNat (wI ((7:Int) * g))) IntKind.i64.bits))) f.2.b false h)
  exact tq rfl rfl
  refine Qp rfl s ?_
  refine T.skip (Qe (tN ?_))
  refine Qr ?_
  refine sp rfl (Qa rfl rfl (dk rfl) rfl rfl ?_)
  refine mw rfl ?_
  refine TL'.nil (tN ?_)
  refine Qc ?_ (ih (bits .or .i64 j (wI ((wI (bits .andNot .u8 (bt f.1 (0:Int)) (128:Int))) * 2 ^ min (Int.toNat (wI ((7:Int) * g))) IntKind.i64.bits))) (wI (g + (1:Int))) f.2.b f.2.bad h)
  exact tq rfl rfl
  refine Qp rfl q ?_
  refine T.exit (Qh (Qh (Qq (tN ?_))))
  refine T.seq (Qr ?_)
  refine mw rfl ?_
  refine sp rfl (OpT.nilCheck rfl (dk rfl) rfl rfl ?_)
  refine sp rfl (Ql rfl (dk rfl) ul75 rfl i4 (by decide) rfl ?_)
  refine sp rfl (Ug (i := 0) (cells' := [.d (.str m), .d (.bool true)]) rfl rfl i4 rfl rfl rfl (nb rfl) rfl ?_)
  refine TL'.nil (tN (T.seq (Qr ?_)))
  refine aw rfl ?_
  refine TL'.nil (tN ?_)
  refine T.ret ?_
  exact Q8 (.cons _ _ _ _ (.tmp 2 _ rfl) .nil) (.cons 0 rfl (.nil _)) (by cases h; exact ⟨gl [], rfl, rfl⟩)
theorem La (K : Nat) {x0 : tbr} {bx0 : Nat} {r : Int × tbr} (h : Lp K x0 = some r) : J2 tp 32 [.ptr bx0 0] [(Q3 bx0 x0.b x0.bad)] (fun γ => (.int .i64 r.1)) (fun γ => [(Q3 bx0 r.2.b r.2.bad)]) := by
 refine Qs Try.func32 rfl (nb rfl) ?_
 show T tp 42 (ca [] Try.f32) ⟨Qv 0 [.ptr bx0 0], [(Q3 bx0 x0.b x0.bad)]⟩ (P2 bx0 r)
 unfold Lp at h
 refine T.seq (Qr ?_)
 refine aw rfl ?_
 refine TL'.nil (tN (T.seq (Qr ?_)))
 refine aw rfl ?_
 refine TL'.nil (tN ?_)
 refine T.seq ?_
 refine T.seq (Qr ?_)
 refine mw rfl ?_
 refine TL'.nil (tN ?_)
 refine T.block ?_
 refine T.loop ?_
 refine Qc ?_ (tbr_num_l0_T K bx0 K (0:Int) (0:Int) x0.b x0.bad h)
 exact tq rfl rfl
abbrev tb_Decode_1_q (bx0 bx1 bx1_p : Nat) (x0c0 : aSp) (x0c2 : List (Bool × aSt)) (r : (List Ze) × tbr) : ES := Jt tp Try.f33 (fun y t => ∃ γ : Nat → Value, y = (.tup []) ∧ t = [(Z6 bx0 x0c0.Of x0c0.Many (γ 0) (γ 1)), .arrA (γ 0) 42 2 (mA r.1), .arrX (γ 1) 59 4 0 (x0c2.map Q1), (Zi bx1 bx1_p), (Q3 bx1_p r.2.b r.2.bad)])
theorem tb_Decode_1_T (K : Nat) {x0c0 : aSp} {x0c1 : List Ze} {x0c2 : List (Bool × aSt)} {x1_p : tbr} {bx0 : Nat} {wx0c1 wx0c2 : Value} {bx1 bx1_p : Nat} {r : (List Ze) × tbr} (h : Ko K x0c0 x0c1 x0c2 x1_p = some r) : J2 tp 33 [.ptr bx0 0, .ptr bx1 0] [(Z6 bx0 x0c0.Of x0c0.Many wx0c1 wx0c2), .arrA wx0c1 42 2 (mA x0c1), .arrX wx0c2 59 4 0 (x0c2.map Q1), (Zi bx1 bx1_p), (Q3 bx1_p x1_p.b x1_p.bad)] (fun γ => (.tup [])) (fun γ => [(Z6 bx0 x0c0.Of x0c0.Many (γ 0) (γ 1)), .arrA (γ 0) 42 2 (mA r.1), .arrX (γ 1) 59 4 0 (x0c2.map Q1), (Zi bx1 bx1_p), (Q3 bx1_p r.2.b r.2.bad)]) := by
 refine Qs Try.func33 rfl (nb rfl) ?_
 show T tp 12 (ca [] Try.f33) ⟨Qv 0 [.ptr bx0 0, .ptr bx1 0], [(Z6 bx0 x0c0.Of x0c0.Many wx0c1 wx0c2), .arrA wx0c1 42 2 (mA x0c1), .arrX wx0c2 59 4 0 (x0c2.map Q1), (Zi bx1 bx1_p), (Q3 bx1_p x1_p.b x1_p.bad)]⟩ (tb_Decode_1_q bx0 bx1 bx1_p x0c0 x0c2 r)
 unfold Ko at h
 refine Qd Zt ?_
 refine Xi ?_
 refine dC (c := ⟨some 2, .ptr bx0 (0 + 257), [(0, .ptr bx0 0)], [], []⟩) (fun t hm => oF rfl rfl (Ql rfl (dk rfl) Xu rfl i25 (by decide) hm.s0 ⟨u0, rfl⟩)) (fun _ => rfl) (fun _ => rfl) ?_
 refine dC (c := ⟨some 3, .c (.ex wx0c1), [(2, .ptr bx0 (0 + 257))], [(1, (Z6 bx0 x0c0.Of x0c0.Many wx0c1 wx0c2))], []⟩) (fun t hm => oF rfl rfl (Qo (i := 1) rfl (dk rfl) Da rfl hm.s0 hm.o0 rfl ⟨u0, rfl⟩)) (fun _ => rfl) (fun _ => rfl) ?_
 refine dC (c := ⟨some 4, .ptr bx1_p 0, [(1, .ptr bx1 0)], [(4, (Zi bx1 bx1_p))], []⟩) (fun t hm => oF rfl rfl (Qo (i := 4) rfl (dk rfl) ul73 rfl hm.s0 hm.o0 rfl ⟨u0, rfl⟩)) (fun _ => rfl) (fun _ => rfl) ?_
 obtain ⟨j, n, h⟩ := bind_some h
 refine dC (c := ⟨some 5, .int .i64 j.1, [(4, .ptr bx1_p 0)], [(5, (Q3 bx1_p x1_p.b x1_p.bad))], [(5, (Q3 bx1_p j.2.b j.2.bad))]⟩) (fun t hm => oF rfl rfl (Q6 (is := [5]) (ph := []) rfl (dk rfl) Try.func32 rfl rfl (Q5.cons hm.s0 Q5.nil) (La K (bx0 := bx1_p) n) (.cons hm.o0 rfl (.nil)) (fun _ => rfl) (fun g => ⟨(g, 0), rfl⟩))) (fun _ => rfl) (fun _ => rfl) ?_
 refine dC (c := ⟨some 6, .ptr bx1_p 0, [(1, .ptr bx1 0)], [(4, (Zi bx1 bx1_p))], []⟩) (fun t hm => oF rfl rfl (Qo (i := 4) rfl (dk rfl) ul73 rfl hm.s0 hm.o0 rfl ⟨u0, rfl⟩)) (fun _ => rfl) (fun _ => rfl) ?_
 obtain ⟨m, p, h⟩ := bind_some h
 refine dC (c := ⟨some 7, .int .i64 m.1, [(6, .ptr bx1_p 0)], [(5, (Q3 bx1_p j.2.b j.2.bad))], [(5, (Q3 bx1_p m.2.b m.2.bad))]⟩) (fun t hm => oF rfl rfl (Q6 (is := [5]) (ph := []) rfl (dk rfl) Try.func32 rfl rfl (Q5.cons hm.s0 Q5.nil) (La K (bx0 := bx1_p) p) (.cons hm.o0 rfl (.nil)) (fun _ => rfl) (fun g => ⟨(g, 0), rfl⟩))) (fun _ => rfl) (fun _ => rfl) ?_
 refine dC (c := ⟨some 8, .agg (Ze.dc .i64 (Ze.mk j.1 m.1)), [(5, .int .i64 j.1), (7, .int .i64 m.1)], [], []⟩) (fun t hm => oF rfl rfl (OpT.build (l := (Ze.dc .i64 (Ze.mk j.1 m.1))) rfl (dk rfl) (N1 ul42 i42 i3) (Ho rfl) (Xj hm.s0 rfl (Xj hm.s1 rfl Ux)) rfl ⟨u0, rfl⟩)) (fun _ => rfl) (fun _ => rfl) ?_
 refine dC (c := ⟨some 9, .sl true 2 ([(Ze.mk j.1 m.1)].map (Ze.dc .i64)), [(8, .agg (Ze.dc .i64 (Ze.mk j.1 m.1)))], [], []⟩) (fun t hm => oF rfl rfl (OpT.buildSlice (elems := ([(Ze.mk j.1 m.1)] : List Ze).map (Ze.dc .i64)) rfl (dk rfl) Da i42 (by decide) rfl (Ho rfl) (Xj hm.s0 rfl Ux) rfl rfl (Xc rfl) (by decide) ⟨u0, rfl⟩)) (fun _ => rfl) (fun _ => rfl) ?_
 obtain ⟨q, h⟩ := Zm h
 refine DGG.step (c := fun a => ⟨some 10, .c (.ex ((a 8).1 0)), [(9, .sl true 2 ([(Ze.mk j.1 m.1)].map (Ze.dc .i64))), (3, .c (.ex wx0c1))], [(2, .arrA wx0c1 42 2 (mA x0c1))], [(2, .arrA ((a 8).1 0) 42 2 ((x0c1 ++ [(Ze.mk j.1 m.1)]).map (Ze.dc .i64)))]⟩) [8] (fun a γ' h => by simp only [h 8 (by decide)]) (fun a t hm => oF rfl rfl (Zf (i := 2) (xs := x0c1) (ys := [(Ze.mk j.1 m.1)]) (f := (Ze.dc .i64)) rfl (dk rfl) Da i42 rfl hm.s1 hm.o0 hm.s0 q (fun w => ⟨(fun _ => w, 0), rfl⟩))) (fun a => Zq rfl rfl) ?_
 refine dC (c := ⟨some 11, .ptr bx0 (0 + 257), [(0, .ptr bx0 0)], [], []⟩) (fun t hm => oF rfl rfl (Ql rfl (dk rfl) Xu rfl i25 (by decide) hm.s0 ⟨u0, rfl⟩)) (fun _ => rfl) (fun _ => rfl) ?_
 refine DGG.step (c := fun a => ⟨none, .any, [(11, .ptr bx0 (0 + 257)), (10, .c (.ex ((a 8).1 0)))], [(1, (Z6 bx0 x0c0.Of x0c0.Many wx0c1 wx0c2))], [(1, (Z6 bx0 x0c0.Of x0c0.Many ((a 8).1 0) wx0c2))]⟩) [8] (fun a γ' h => by simp only [h 8 (by decide)]) (fun a t hm => oF rfl rfl (Ug (i := 1) (cells' := ((Qy.oc 256 .u8 x0c0.Of) ++ (([.d (.int .i64 x0c0.Many), .d (.ex ((a 8).1 0)), .d (.ex wx0c2)]:List OC)))) rfl rfl i25 hm.s0 hm.s1 hm.o0 (nb rfl) rfl ⟨u0, rfl⟩)) (fun a => Zq rfl rfl) ?_
 refine Vz (s1 := fun a => ⟨[], [.ro 0 [], (Z6 bx0 x0c0.Of x0c0.Many ((a 8).1 0) wx0c2), .arrA ((a 8).1 0) 42 2 ((x0c1 ++ [(Ze.mk j.1 m.1)]).map (Ze.dc .i64)), .arrX wx0c2 59 4 0 (x0c2.map Q1), (Zi bx1 bx1_p), (Q3 bx1_p m.2.b m.2.bad)]⟩) (ms := [0, 1, 0, 4, 0, 28, 60, 124, 255, 511, 1023]) Q7 rfl (by kernel_rfl) (by kernel_rfl) (by kernel_rfl) (fun a => by kernel_rfl) (fun a => .nil _) (fun _ => rfl) (fun a u hu => (Vd hu ?_))
 exact Q8 (.nil) (.cons 1 rfl (.cons 1 rfl (.cons 1 rfl (.cons 1 rfl (.cons 1 rfl (.nil _)))))) (by cases h; exact ⟨gl [(a 8).1 0, wx0c2], rfl, rfl⟩)
abbrev P1 (bx0 bx2c0 bx2c1 : Nat) (x2c0c0 : aSp) (x2c0c2 : List (Bool × aSt)) (r : tbr × (List Ze)) : ES := Jt tp Try.f31 (fun y t => ∃ γ : Nat → Value, y = (.tup []) ∧ t = [(Q3 bx0 r.1.b r.1.bad), (Z6 bx2c0 x2c0c0.Of x2c0c0.Many (γ 0) (γ 1)), .arrA (γ 0) 42 2 (mA r.2), .arrX (γ 1) 59 4 0 (x2c0c2.map Q1), (Zi bx2c1 bx0)])
abbrev M8 (bx0 bx2c0 bx2c1 : Nat) (x2c0c0 : aSp) (x2c0c2 : List (Bool × aSt)) (r : tbr × (List Ze)) : ES := Q0 0 ((P1 bx0 bx2c0 bx2c1 x2c0c0 x2c0c2 r))
abbrev Fx (bx0 bx2c0 bx2c1 : Nat) (x2c0c0 : aSp) (x2c0c2 : List (Bool × aSt)) (r : tbr × (List Ze)) : ES := thenS (fun s' => TL tp 21 (ca [1,0,0] Try.f31) s' ((M8 bx0 bx2c0 bx2c1 x2c0c0 x2c0c2 r))) ((M8 bx0 bx2c0 bx2c1 x2c0c0 x2c0c2 r))
abbrev Pn (bx0 bx2c0 bx2c1 : Nat) (x2c0c0 : aSp) (x2c0c2 : List (Bool × aSt)) (r : tbr × (List Ze)) : ES := thenS (fun s' => T tp 21 (ca [1,0,0,1] Try.f31) s' ((Fx bx0 bx2c0 bx2c1 x2c0c0 x2c0c2 r))) ((Fx bx0 bx2c0 bx2c1 x2c0c0 x2c0c2 r))
theorem Fy {r : tbr × (List Ze)} (K bx0 : Nat) (bx2c0 bx2c1 : Nat) (x2c0c0 : aSp) (x2c0c2 : List (Bool × aSt)) (c : ByteArray) (f : Bool) (x2c0c0 : aSp) (g : List Ze) (x2c0c2 : List (Bool × aSt)) (a b : Value) (h : Mt K c f x2c0c0 g x2c0c2 = some r) : T tp 21 (ca [1,0,0,0,1,1] Try.f31) ⟨[], [(Q3 bx0 c f), (Z6 bx2c0 x2c0c0.Of x2c0c0.Many a b), .arrA a 42 2 (mA g), .arrX b 59 4 0 (x2c0c2.map Q1), (Zi bx2c1 bx0)]⟩ (Pn bx0 bx2c0 bx2c1 x2c0c0 x2c0c2 r) := by
 unfold Mt at h
 refine T.exit (Qh (Qh (Qq ?_)))
 exact Q8 (.nil) (.cons 0 rfl (.cons 0 rfl (.cons 0 rfl (.cons 0 rfl (.cons 0 rfl (.nil _)))))) (by cases h; exact ⟨gl [a, b], rfl, rfl⟩)
theorem tbr_times_l0_T {r : tbr × (List Ze)} (K bx0 : Nat) (bx2c0 bx2c1 : Nat) (x2c0c0 : aSp) (x2c0c2 : List (Bool × aSt)) : ∀ (k : Nat), ∀ (x1 q : Int) (l : ByteArray) (m : Bool) (x2c0c0 : aSp) (p : List Ze) (x2c0c2 : List (Bool × aSt)) (g j : Value), Ve K k x1 q l m x2c0c0 p x2c0c2 = some r → TL tp 21 (ca [1,0,0] Try.f31) ⟨[(0, .ptr bx0 0), (1, .int .i64 x1), (2, .c (.ex (.func (.func 33) #[] #[.pointer (some ⟨bx2c0, 0, none⟩), .pointer (some ⟨bx2c1, 0, none⟩)]))), (6, .int .i64 q)], [(Q3 bx0 l m), (Z6 bx2c0 x2c0c0.Of x2c0c0.Many g j), .arrA g 42 2 (mA p), .arrX j 59 4 0 (x2c0c2.map Q1), (Zi bx2c1 bx0)]⟩ (M8 bx0 bx2c0 bx2c1 x2c0c0 x2c0c2 r) := by
 intro k
 induction k with
 | zero =>
  intro x1 q l m x2c0c0 p x2c0c2 g j h
  cases (show (none : Option (tbr × (List Ze))) = some r from h)
 | succ k ih =>
  intro x1 q l m x2c0c0 p x2c0c2 g j h
  rw [Ve] at h
  refine Za ?_
  refine T.seq ?_
  refine T.seq (Qr ?_)
  refine mw rfl ?_
  refine mw rfl ?_
  refine sp rfl (Qa rfl rfl (dk rfl) rfl rfl ?_)
  refine mw rfl ?_
  rcases Qb h with ⟨a, h⟩ | ⟨a, h⟩
  refine sn rfl a (OpT.move rfl (dk rfl) rfl ?_)
  refine sn rfl a (OpT.nilCheck rfl (dk rfl) rfl rfl ?_)
  refine sn rfl a (Ql rfl (dk rfl) ul75 rfl i4 (by decide) rfl ?_)
  refine sn rfl a (Qo (i := 0) rfl (dk rfl) ul4 rfl rfl rfl rfl ?_)
  refine sn rfl a (OpT.not rfl (dk rfl) rfl ?_)
  refine sp rfl (Qf rfl (dk rfl) rfl a rfl ?_)
  refine TL'.nil (tN ?_)
  rcases Qb h with ⟨s, h⟩ | ⟨s, h⟩
  refine Qk rfl s ?_
  refine T.skip (tN ?_)
  refine T.seq ?_
  refine T.block ?_
  refine Qr ?_
  refine mw rfl ?_
  obtain ⟨u, w, h⟩ := bind_some h
  refine sp rfl (C7 (f := 33) (vs := [.pointer (some ⟨bx2c0, 0, none⟩), .pointer (some ⟨bx2c1, 0, none⟩)]) rfl rfl (dk rfl) Try.func33 rfl rfl (Q6 (is := [1, 2, 3, 4, 0]) (ph := []) rfl (dk rfl) Try.func33 rfl rfl (Q5.cons rfl (Q5.cons rfl Q5.nil)) (tb_Decode_1_T K (bx0 := bx2c0) (wx0c1 := g) (wx0c2 := j) (bx1 := bx2c1) (bx1_p := bx0) w) (.cons rfl rfl (.cons rfl rfl (.cons rfl rfl (.cons rfl rfl (.cons rfl rfl (.nil)))))) (fun _ => rfl) (fun v => ?_)))
  refine nm (.c (.c (.c (.c (.c (.n)))))) ?_
  refine TL'.nil (Qe (tN ?_))
  refine Qr ?_
  refine mw rfl ?_
  refine sp rfl (Qa rfl rfl (dk rfl) rfl rfl ?_)
  refine aw rfl ?_
  refine TL'.nil (tN ?_)
  refine Qc ?_ (ih x1 (wI (q + (1:Int))) u.2.b u.2.bad x2c0c0 u.1 x2c0c2 (v 0) (v 1) h)
  exact tq rfl rfl
  refine Qp rfl s ?_
  refine Qd ?_ (Fy K bx0 bx2c0 bx2c1 x2c0c0 x2c0c2 l m x2c0c0 p x2c0c2 g j h)
  exact tq rfl rfl
  refine pf rfl a ?_
  refine pf rfl a ?_
  refine pf rfl a ?_
  refine pf rfl a ?_
  refine pf rfl a ?_
  refine sp rfl (Qm rfl (dk rfl) rfl a rfl ?_)
  refine TL'.nil (tN ?_)
  refine Qp rfl rfl ?_
  refine Qd ?_ (Fy K bx0 bx2c0 bx2c1 x2c0c0 x2c0c2 l m x2c0c0 p x2c0c2 g j h)
  exact tq rfl rfl
theorem tbr_times_T (K : Nat) {x0 : tbr} {x1 : Int} {x2c0c0 : aSp} {x2c0c1 : List Ze} {x2c0c2 : List (Bool × aSt)} {bx0 bx2c0 : Nat} {wx2c0c1 wx2c0c2 : Value} {bx2c1 : Nat} {r : tbr × (List Ze)} (h : D8 K x0 x1 x2c0c0 x2c0c1 x2c0c2 = some r) : J2 tp 31 [.ptr bx0 0, .int .i64 x1, .c (.ex (.func (.func 33) #[] #[.pointer (some ⟨bx2c0, 0, none⟩), .pointer (some ⟨bx2c1, 0, none⟩)]))] [(Q3 bx0 x0.b x0.bad), (Z6 bx2c0 x2c0c0.Of x2c0c0.Many wx2c0c1 wx2c0c2), .arrA wx2c0c1 42 2 (mA x2c0c1), .arrX wx2c0c2 59 4 0 (x2c0c2.map Q1), (Zi bx2c1 bx0)] (fun γ => (.tup [])) (fun γ => [(Q3 bx0 r.1.b r.1.bad), (Z6 bx2c0 x2c0c0.Of x2c0c0.Many (γ 0) (γ 1)), .arrA (γ 0) 42 2 (mA r.2), .arrX (γ 1) 59 4 0 (x2c0c2.map Q1), (Zi bx2c1 bx0)]) := by
 refine Qs Try.func31 rfl (nb rfl) ?_
 show T tp 21 (ca [] Try.f31) ⟨Qv 0 [.ptr bx0 0, .int .i64 x1, .c (.ex (.func (.func 33) #[] #[.pointer (some ⟨bx2c0, 0, none⟩), .pointer (some ⟨bx2c1, 0, none⟩)]))], [(Q3 bx0 x0.b x0.bad), (Z6 bx2c0 x2c0c0.Of x2c0c0.Many wx2c0c1 wx2c0c2), .arrA wx2c0c1 42 2 (mA x2c0c1), .arrX wx2c0c2 59 4 0 (x2c0c2.map Q1), (Zi bx2c1 bx0)]⟩ (P1 bx0 bx2c0 bx2c1 x2c0c0 x2c0c2 r)
 unfold D8 at h
 refine T.seq (Qr ?_)
 refine aw rfl ?_
 refine TL'.nil (tN ?_)
 refine T.block ?_
 refine T.loop ?_
 refine Qc ?_ (tbr_times_l0_T K bx0 bx2c0 bx2c1 x2c0c0 x2c0c2 K x1 (0:Int) x0.b x0.bad x2c0c0 x2c0c1 x2c0c2 wx2c0c1 wx2c0c2 h)
 exact tq rfl rfl
abbrev tbr_list_1_q (bx0 bx1 bx1_p : Nat) (r : (List Int) × tbr) : ES := Jt tp Try.f56 (fun y t => ∃ γ : Nat → Value, y = (.tup []) ∧ t = [(Lj bx0 (γ 0)), .arrA (γ 0) 3 1 (mI r.1), (Zi bx1 bx1_p), (Q3 bx1_p r.2.b r.2.bad)])
theorem tbr_list_1_T (K : Nat) {x0 : List Int} {x1_p : tbr} {bx0 : Nat} {wx0 : Value} {bx1 bx1_p : Nat} {r : (List Int) × tbr} (h : E8 K x0 x1_p = some r) : J2 tp 56 [.ptr bx0 0, .ptr bx1 0] [(Lj bx0 wx0), .arrA wx0 3 1 (mI x0), (Zi bx1 bx1_p), (Q3 bx1_p x1_p.b x1_p.bad)] (fun γ => (.tup [])) (fun γ => [(Lj bx0 (γ 0)), .arrA (γ 0) 3 1 (mI r.1), (Zi bx1 bx1_p), (Q3 bx1_p r.2.b r.2.bad)]) := by
 refine Qs Try.func56 rfl (nb rfl) ?_
 show T tp 7 (ca [] Try.f56) ⟨Qv 0 [.ptr bx0 0, .ptr bx1 0], [(Lj bx0 wx0), .arrA wx0 3 1 (mI x0), (Zi bx1 bx1_p), (Q3 bx1_p x1_p.b x1_p.bad)]⟩ (tbr_list_1_q bx0 bx1 bx1_p r)
 unfold E8 at h
 refine Qd Zt ?_
 refine Xi ?_
 refine dC (c := ⟨some 2, .c (.ex wx0), [(0, .ptr bx0 0)], [(1, (Lj bx0 wx0))], []⟩) (fun t hm => oF rfl rfl (Qo (i := 1) rfl (dk rfl) Yo rfl hm.s0 hm.o0 rfl ⟨u0, rfl⟩)) (fun _ => rfl) (fun _ => rfl) ?_
 refine dC (c := ⟨some 3, .ptr bx1_p 0, [(1, .ptr bx1 0)], [(3, (Zi bx1 bx1_p))], []⟩) (fun t hm => oF rfl rfl (Qo (i := 3) rfl (dk rfl) ul73 rfl hm.s0 hm.o0 rfl ⟨u0, rfl⟩)) (fun _ => rfl) (fun _ => rfl) ?_
 obtain ⟨j, l, h⟩ := bind_some h
 refine dC (c := ⟨some 4, .int .i64 j.1, [(3, .ptr bx1_p 0)], [(4, (Q3 bx1_p x1_p.b x1_p.bad))], [(4, (Q3 bx1_p j.2.b j.2.bad))]⟩) (fun t hm => oF rfl rfl (Q6 (is := [4]) (ph := []) rfl (dk rfl) Try.func32 rfl rfl (Q5.cons hm.s0 Q5.nil) (La K (bx0 := bx1_p) l) (.cons hm.o0 rfl (.nil)) (fun _ => rfl) (fun g => ⟨(g, 0), rfl⟩))) (fun _ => rfl) (fun _ => rfl) ?_
 refine dC (c := ⟨some 5, .sl true 1 ([j.1].map (cI .i64)), [(4, .int .i64 j.1)], [], []⟩) (fun t hm => oF rfl rfl (OpT.buildSlice (elems := ([j.1] : List Int).map (cI .i64)) rfl (dk rfl) Yo i3 (by decide) rfl (Ho rfl) (Xj hm.s0 rfl Ux) rfl rfl (Xc rfl) (by decide) ⟨u0, rfl⟩)) (fun _ => rfl) (fun _ => rfl) ?_
 obtain ⟨m, h⟩ := Zm h
 refine DGG.step (c := fun a => ⟨some 6, .c (.ex ((a 4).1 0)), [(5, .sl true 1 ([j.1].map (cI .i64))), (2, .c (.ex wx0))], [(2, .arrA wx0 3 1 (mI x0))], [(2, .arrA ((a 4).1 0) 3 1 ((x0 ++ [j.1]).map (cI .i64)))]⟩) [4] (fun a γ' h => by simp only [h 4 (by decide)]) (fun a t hm => oF rfl rfl (Zf (i := 2) (xs := x0) (ys := [j.1]) (f := (cI .i64)) rfl (dk rfl) Yo i3 rfl hm.s1 hm.o0 hm.s0 m (fun w => ⟨(fun _ => w, 0), rfl⟩))) (fun a => Zq rfl rfl) ?_
 refine DGG.step (c := fun a => ⟨none, .any, [(0, .ptr bx0 0), (6, .c (.ex ((a 4).1 0)))], [(1, (Lj bx0 wx0))], [(1, (Lj bx0 ((a 4).1 0)))]⟩) [4] (fun a γ' h => by simp only [h 4 (by decide)]) (fun a t hm => oF rfl rfl (Ug (i := 1) (cells' := [.d (.ex ((a 4).1 0))]) rfl rfl i56 hm.s0 hm.s1 hm.o0 (nb rfl) rfl ⟨u0, rfl⟩)) (fun a => Zq rfl rfl) ?_
 refine Vz (s1 := fun a => ⟨[], [.ro 0 [], (Lj bx0 ((a 4).1 0)), .arrA ((a 4).1 0) 3 1 ((x0 ++ [j.1]).map (cI .i64)), (Zi bx1 bx1_p), (Q3 bx1_p j.2.b j.2.bad)]⟩) (ms := [0, 0, 2, 6, 15, 31]) Q7 rfl (by kernel_rfl) (by kernel_rfl) (by kernel_rfl) (fun a => by kernel_rfl) (fun a => .nil _) (fun _ => rfl) (fun a u hu => (Vd hu ?_))
 exact Q8 (.nil) (.cons 1 rfl (.cons 1 rfl (.cons 1 rfl (.cons 1 rfl (.nil _))))) (by cases h; exact ⟨gl [(a 4).1 0], rfl, rfl⟩)
end Go.Rv

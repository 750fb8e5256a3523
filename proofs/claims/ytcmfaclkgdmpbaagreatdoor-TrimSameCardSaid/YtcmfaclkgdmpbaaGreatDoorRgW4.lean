/- Each function computes what its plain text says: printed by a program of ours. -/
import Derived.Test.YtcmfaclkgdmpbaaGreatDoorRgW3
namespace Go.Rv
open Go.Proofs
set_option maxRecDepth 100000
set_option maxHeartbeats 4000000
set_option linter.unusedVariables false
abbrev Qa9 (r : Qq × Int) : ES := Jq tp ff20 (fun y t => y = (.tup [.agg ((Zp.dc 256 .u8 r.1.Split.Of) ++ (([.int .i64 r.1.Split.Many, .sl false 2 (mA r.1.Counts), .sl false 4 (r.1.States.map Qh)] : List DC))), .int .i64 r.2]) ∧ t = [])
abbrev R3 (r : Qq × Int) : ES := fT 198 [1,1,1,1,1,1,1,1] ff20 (Qa9 r)
abbrev K7 (r : Qq × Int) : ES := Qz 2 ((R3 r))
abbrev Ox (r : Qq × Int) : ES := fL 198 [1,1,1,1,1,1,1,0,1,0,0] ff20 (K7 r)
abbrev Fs (r : Qq × Int) : ES := fT 198 [1,1,1,1,1,1,1,0,1,0,0,1,1] ff20 (Ox r)
abbrev C3 (r : Qq × Int) : ES := Qz 3 ((Fs r))
abbrev B9 (r : Qq × Int) : ES := fT 198 [1,1,1,1,1,1,1,0,1,0,0,1,0,0,1,1,1,1] ff20 (C3 r)
abbrev U7 (r : Qq × Int) : ES := Qz 4 ((B9 r))
abbrev M4 (r : Qq × Int) : ES := fL 198 [1,1,1,1,1,1,1,0,1,0,0,1,0,0,1,1,1,0,1,0,0] ff20 (U7 r)
abbrev Kz (r : Qq × Int) : ES := fT 198 [1,1,1,1,1,1,1,0,1,0,0,1,0,0,1,1,1,0,1,0,0,1,1] ff20 (M4 r)
abbrev Hh (r : Qq × Int) : ES := Qz 5 ((Kz r))
abbrev G1 (r : Qq × Int) : ES := fT 198 [1,1,1,1,1,1,1,0,1,0,0,1,0,0,1,1,1,0,1,0,0,1,0,0,1,1,1] ff20 (Hh r)
abbrev Jy (r : Qq × Int) : ES := Qz 6 ((G1 r))
abbrev Qb1 (r : Qq × Int) : ES := fT 198 [1,1,1,1,1] ff20 (Qa9 r)
abbrev Tb (r : Qq × Int) : ES := Qz 0 ((Qb1 r))
abbrev Oy (r : Qq × Int) (go : Int → Int → Int → Zp → (List Xf) → (List Qa) → (List Int) → (List Zl) → Zp → Int → Int → (List Int) → (List Xf) → (List Qa) → (List Int) → (List (List Qf)) → Option (Qq × Int)) : Prop := ∀ (a b f : Int) (g : Zp) (i : List Xf) (j : List Qa) (l : List Int) (m : List Zl) (n : Zp) (p q : Int) (s : List Int) (u : List Xf) (v : List Qa) (w : List Int) (y : List (List Qf)) (z : Nat) (aa ab : Value) (ac : Nat) (ad af : Value) (w4_2aa ag ai : Value), go a b f g i j l m n p q s u v w y = some r → TL tp 198 (ca [1,1,1,1,1,1,1,0,1,0,0,1,0,0,1,1,1,0,1,0,0] ff20) ⟨[(2, .ptr z 0), (4, .ptr ac 0), (7, .int .i64 a), (8, .int .i64 b), (9, .c (.ex ag)), (10, .c (.ex ai)), (11, .int .i64 f)], [(Qkj z g (0:Int) aa ab), .arrA aa 59 2 (mA i), .arrX ab 51 4 0 (j.map Qh), (Wm ac l m ad n p af w4_2aa q), .arrA ad 3 1 (mI s), .arrA af 59 2 (mA u), .arrX w4_2aa 51 4 0 (v.map Qh), .arrA ag 3 1 (mI w), .arrA ai 55 1 (y.map (cL 2 Qn))]⟩ (U7 r)
theorem Qfq {r : Qq × Int} (K : Nat) (go2 : Int → Int → Int → Zp → (List Xf) → (List Qa) → (List Int) → (List Zl) → Zp → Int → Int → (List Int) → (List Xf) → (List Qa) → (List Int) → (List (List Qf)) → Option (Qq × Int)) (hgo2 : Oy r go2) : ∀ (k : Nat), ∀ (af ag : Int) (ai an : Int) (y : Zp) (aa : List Xf) (ab : List Qa) (ap : List Int) (aq : List Zl) (au : Zp) (av ay : Int) (az : List Int) (a0 : List Xf) (a1 : List Qa) (ac : List Int) (s : List (List Qf)) (q : List Qf) (p : Nat) (v w : Value) (j : Nat) (aj al : Value) (w4_3aa ad : Value) (am a2 : Value), Xb K go2 k af ag ai an y aa ab ap aq au av ay az a0 a1 ac s q = some r → TL tp 198 (ca [1,1,1,1,1,1,1,0,1,0,0,1,0,0,1,1,1,0,1,0,0,1,0,0,1,1,0,1,0,0] ff20) ⟨[(2, .ptr p 0), (4, .ptr j 0), (7, .int .i64 af), (8, .int .i64 ag), (9, .c (.ex ad)), (10, .c (.ex am)), (11, .int .i64 ai), (12, .c (.ex a2)), (13, .int .i64 an)], [(Qkj p y (0:Int) v w), .arrA v 59 2 (mA aa), .arrX w 51 4 0 (ab.map Qh), (Wm j ap aq aj au av al w4_3aa ay), .arrA aj 3 1 (mI az), .arrA al 59 2 (mA a0), .arrX w4_3aa 51 4 0 (a1.map Qh), .arrA ad 3 1 (mI ac), .arrA am 55 1 (s.map (cL 2 Qn)), .arrA a2 54 2 (q.map Qn)]⟩ (Jy r) := by
 intro k
 induction k with
 | zero =>
  intro af ag ai an y aa ab ap aq au av ay az a0 a1 ac s q p v w j aj al w4_3aa ad am a2 h
  exact zn h
 | succ k ih =>
  intro af ag ai an y aa ab ap aq au av ay az a0 a1 ac s q p v w j aj al w4_3aa ad am a2 h
  rw [Xb] at h
  refine Q7 (T.seq (sR (Qs (mw rfl (mw rfl (oK rfl (oP Qa2 i28 rfl ?_)))))))
  refine oP Wn i24 rfl (oP ul24 i3 rfl (oL 3 ul3 rfl (oI rfl (nL (tN ?_)))))
  rcases Qd h with ⟨a3, h⟩ | ⟨a3, h⟩
  refine Qp rfl a3 (T.skip (tN (T.seq (T.block (sR (Qs ?_))))))
  iterate 5 refine mw rfl ?_
  obtain ⟨b, a6, h⟩ := bind_some h
  refine sp rfl (Zc (is := [3, 4, 5, 6]) (ph := []) rfl (dk rfl) fu48 rfl rfl (Zw.cons rfl (Zw.cons rfl (Zw.cons rfl (Zw.cons rfl Zw.nil)))) (P2 K (bx0 := j) (wx0c1 := aj) (wx0c2c1 := al) (wx0c2c2 := w4_3aa) a6) (.cons rfl rfl (.cons rfl rfl (.cons rfl rfl (.cons rfl rfl (.nil))))) (fun _ => rfl) (fun m => (nm (.c (.c (.c (.c (.c (.c (.c (.c (.c (.c (.n))))))))))) (sp rfl (OpT.buildSlice (elems := ([b.1] : List Qf).map Qn) rfl (dk rfl) Rs i54 (by decide) rfl (H4 rfl) rfl rfl rfl (X2 rfl) (by decide) ?_)))))
  obtain ⟨a7, h⟩ := Zb h
  refine sp rfl (Zk (i := 9) (xs := q) (ys := [b.1]) (f := Qn) rfl (dk rfl) Rs i54 rfl rfl rfl rfl a7 (fun a5 => (aw rfl (nL (tN (sR (Qs (mw rfl (oK rfl (oP Qa2 i30 rfl (oL 3 ul30 rfl ?_)))))))))))
  refine oI rfl (nL (tN ?_))
  rcases Qd h with ⟨a4, h⟩ | ⟨a4, h⟩
  refine Qp rfl a4 (T.seq (Z7 (dS (c := ⟨some 167, .agg ((Zp.dc 256 .u8 (Zp.mk fun _ => 0)) ++ (([.int .i64 (0:Int), .ex (.slice none 0 0), .ex (.slice none 0 0)] : List DC))), [], [], []⟩) (fun t hm => oF rfl rfl (OpT.build (l := ((Zp.dc 256 .u8 (Zp.mk fun _ => 0)) ++ (([.int .i64 (0:Int), .ex (.slice none 0 0), .ex (.slice none 0 0)] : List DC)))) rfl (dk rfl) (Zr (pl := [(0, 257), (257, 1), (258, 1)]) Wn i28 rfl) (H4 rfl) Wt rfl rfl)) rfl rfl (dV rfl rfl (dK rfl (.f rfl) rfl (dP rfl (.f rfl) Qa2 i30 rfl ?_))))))
  refine dL 3 rfl (.f rfl) ul30 rfl (dS (c := ⟨none, .any, [(2, .ptr p 0), (167, .agg ((Zp.dc 256 .u8 (Zp.mk fun _ => 0)) ++ (([.int .i64 (0:Int), .ex (.slice none 0 0), .ex (.slice none 0 0)] : List DC))))], [(0, (Qkj p y (0:Int) v w))], [(0, (Qkj p (Zp.mk fun _ => 0) (0:Int) (.slice none 0 0) (.slice none 0 0)))]⟩) (fun t hm => oF rfl rfl (Qy (i := 0) (cells' := ((Zp.oc 256 .u8 (Zp.mk fun _ => 0)) ++ (([.d (.int .i64 (0:Int)), .d (.ex (.slice none 0 0)), .d (.ex (.slice none 0 0))]:List OC)))) rfl rfl i28 hm.s0 hm.s1 rfl hm.o0 (nb rfl) rfl rfl)) rfl rfl (dA rfl (.f rfl) rfl (dF [0,0,2,6,14,1,63] Q0 rfl (by kernel_rfl) (fun u hu => (tN (Qg hu (T.ret (Q1 (Qr (Qr (Q1 (Qr (Q1 (Qr (Qr (Q1 (Qr (Q1 (Qr (Qr (Q1 (Qr (Xl (Jp 0 (l := ((Zp.dc 256 .u8 (Zp.mk fun _ => 0)) ++ (([.int .i64 (0:Int), .ex (.slice none 0 0), .ex (.slice none 0 0)] : List DC)))) (l' := ((Zp.dc 256 .u8 (Zp.mk fun _ => 0)) ++ (([.int .i64 (0:Int), .sl false 2 (([] : List Xf).map (Xf.dc .i64)), .sl false 4 (([] : List Qa).map Qh)] : List DC)))) rfl (.app _ (.cons (.same _) (.cons (.nil _ _) (.cons (.nil _ _) (.refl _)))))) ?_)))))))))))))))))))))))
  exact Fin.done (.cons _ _ _ _ (.cellAgg 2 28 _ 0 0 28 _ ((Zp.dc 256 .u8 (Zp.mk fun _ => 0)) ++ (([.int .i64 (0:Int), .sl false 2 (([] : List Xf).map (Xf.dc .i64)), .sl false 4 (([] : List Qa).map Qh)] : List DC))) _ _ 259 _ rfl rfl rfl rfl Wn rfl i28) (.cons _ _ _ _ (.tmp 3 _ rfl) .nil)) (by cases h; exact ⟨rfl, rfl⟩)
  refine Qo rfl a4 (T.skip (Qk (tN (Qs (mw rfl (oI rfl (aw rfl (nL (tN ?_)))))))))
  refine Qe ?_ (ih af ag ai (wI (an + (1:Int))) y aa ab b.2.g.First b.2.g.P b.2.a.Split.Of b.2.a.Split.Many b.2.e b.2.number b.2.a.Counts b.2.a.States ac s (q ++ [b.1]) p v w j (m 0) (m 1) (m 2) ad am a5 h)
  exact tq rfl rfl
  refine Qo rfl a3 (T.exit (Ql (Ql (Qu (tN (Qs (mw rfl (mw rfl (Wy (Z3.view 173 9 rfl rfl) (sp rfl (OpT.buildSlice (elems := ([q] : List (List Qf)).map (cL 2 Qn)) rfl (dk rfl) T0 i55 (by decide) rfl (H4 rfl) rfl rfl rfl (X2 rfl) (by decide) ?_)))))))))))
  obtain ⟨a8, h⟩ := Zb h
  refine sp rfl (Zk (i := 8) (xs := s) (ys := [q]) (f := (cL 2 Qn)) rfl (dk rfl) T0 i55 rfl rfl rfl rfl a8 (fun a9 => (aw rfl (nL (Qk (tN (Qs (mw rfl (oI rfl (aw rfl ?_))))))))))
  refine nL (tN ?_)
  refine Qe ?_ (hgo2 af ag (wI (ai + (1:Int))) y aa ab ap aq au av ay az a0 a1 ac (s ++ [q]) p v w j aj al w4_3aa ad a9 h)
  exact tq rfl rfl
abbrev Oz (r : Qq × Int) (go : Int → Zp → (List Xf) → (List Qa) → (List Int) → (List Zl) → Zp → Int → Int → (List Int) → (List Xf) → (List Qa) → Option (Qq × Int)) : Prop := ∀ (a : Int) (b : Zp) (c : List Xf) (f : List Qa) (g : List Int) (i : List Zl) (j : Zp) (l m : Int) (n : List Int) (p : List Xf) (q : List Qa) (s : Nat) (u v : Value) (w : Nat) (y z w4_1aa : Value), go a b c f g i j l m n p q = some r → TL tp 198 (ca [1,1,1,1,1,1,1,0,1,0,0] ff20) ⟨[(2, .ptr s 0), (4, .ptr w 0), (7, .int .i64 a)], [(Qkj s b (0:Int) u v), .arrA u 59 2 (mA c), .arrX v 51 4 0 (f.map Qh), (Wm w g i y j l z w4_1aa m), .arrA y 3 1 (mI n), .arrA z 59 2 (mA p), .arrX w4_1aa 51 4 0 (q.map Qh)]⟩ (K7 r)
theorem Qfr {r : Qq × Int} (K : Nat) (go1 : Int → Zp → (List Xf) → (List Qa) → (List Int) → (List Zl) → Zp → Int → Int → (List Int) → (List Xf) → (List Qa) → Option (Qq × Int)) (hgo1 : Oz r go1) : ∀ (k : Nat), Oy r (Yq K go1 k) := by
 intro k
 induction k with
 | zero =>
  intro g av ay u v w y aa ab ac ad af ag b j p ai aj al q am an w4_2aa a3 az h
  exact zn h
 | succ k ih =>
  intro g av ay u v w y aa ab ac ad af ag b j p ai aj al q am an w4_2aa a3 az h
  rw [Yq] at h
  refine Q7 (T.seq (sR (Qs (mw rfl (mw rfl (oI rfl (nL (tN ?_))))))))
  rcases Qd h with ⟨ap, h⟩ | ⟨ap, h⟩
  refine Qp rfl ap (T.skip (tN (T.seq (T.block (sR (Qs ?_))))))
  iterate 3 refine mw rfl ?_
  refine oK rfl (oP Qa2 i28 rfl (oP Wn i26 rfl (oL 3 Jm rfl (mw rfl ?_))))
  obtain ⟨m, a0, h⟩ := bind_some h
  refine sp rfl (Yj (n := 6) (xs := b) (f := Qh) (old := m) rfl (dk rfl) Jm i51 rfl rfl rfl a0 (sp rfl (Qh2 (i := 6) (xs := b) (f := Qh) (old := m) (l := [.sl false 1 (mI m.L), .sl false 1 (mI m.R), .sl false 1 (mI m.Rule), .sl false 1 (m.Next.map (cL 2 Qn))]) rfl (dk rfl) Hx rfl i51 rfl rfl (Z2 a0).2 rfl rfl (mw rfl ?_))))
  obtain ⟨aq, a4, h⟩ := bind_some h
  refine sp rfl (Zc (is := [3, 4, 5, 6]) (ph := []) rfl (dk rfl) fu47 rfl rfl (Zw.cons rfl (Zw.cons rfl (Zw.cons rfl Zw.nil))) (P0 K (bx0 := q) (wx0c1 := am) (wx0c2c1 := an) (wx0c2c2 := w4_2aa) a4) (.cons rfl rfl (.cons rfl rfl (.cons rfl rfl (.cons rfl rfl (.nil))))) (fun _ => rfl) (fun au => (nm (.c (.c (.c (.c (.c (.c (.c (.c (.c (.n)))))))))) (sp rfl (OpT.buildSlice (elems := ([aq] : List Int).map (cI .i64)) rfl (dk rfl) Zs i3 (by decide) rfl (H4 rfl) rfl rfl rfl (X2 rfl) (by decide) ?_)))))
  obtain ⟨a5, h⟩ := Zb h
  refine sp rfl (Zk (i := 7) (xs := j) (ys := [aq]) (f := (cI .i64)) rfl (dk rfl) Zs i3 rfl rfl rfl rfl a5 (fun a6 => (aw rfl (nL (tN (sR (Qs (aw rfl (nL (tN (T.seq (sR (Qs ?_)))))))))))))
  refine aw rfl (nL (tN (T.block (T.loop (Qe (Y0 54 2) ?_)))))
  refine Qe ?_ (Qfq K (Yq K go1 k) ih K g av ay (0:Int) u v w y aa ab ac ad af ag b (j ++ [aq]) p [] ai aj al q (au 0) (au 1) (au 2) a6 az (Qc1 51) h)
  exact tr rfl (.c (.s .z) (.c (.s .z) (.c (.s .z) (.c (.s .z) (.c (.s .z) (.c (.s .z) (.c (.s .z) (.c (.s .z) (.c (.s .z) (.c .z (.n _)))))))))))
  refine Qo rfl ap (T.exit (Ql (Ql (Qu (tN (sR (Qs (mw rfl (oK rfl (oP Qa2 i28 rfl (oP Wn i26 rfl ?_)))))))))))
  refine oL 3 Jm rfl (mw rfl (mw rfl ?_))
  obtain ⟨a, a1, h⟩ := bind_some h
  refine sp rfl (Yj (n := 6) (xs := b) (f := Qh) (old := a) rfl (dk rfl) Jm i51 rfl rfl rfl a1 (sp rfl (Cg rfl (dk rfl) Hx rfl i38 (by decide) rfl (Wy (Z3.view 182 7 rfl rfl) (sp rfl (Hv (i := 6) (xs := b) (f := Qh) (old := a) (new := (Qa.mk a.L a.R j a.Next)) rfl rfl i38 rfl rfl rfl (Z2 a1).2 (Qla _) (nb rfl) rfl (nL (tN (Qs (mw rfl ?_))))))))))
  refine oK rfl (oP Qa2 i28 rfl (oP Wn i26 rfl (oL 3 Jm rfl (mw rfl (mw rfl ?_)))))
  obtain ⟨d, a2, h⟩ := bind_some h
  refine sp rfl (Yj (n := 6) (xs := (List.set b (Int.toNat g) (Qa.mk a.L a.R j a.Next))) (f := Qh) (old := d) rfl (dk rfl) Jm i51 rfl rfl rfl a2 (sp rfl (Cg rfl (dk rfl) Hx rfl i49 (by decide) rfl (Wy (Z3.view 191 8 rfl rfl) (sp rfl (Hv (i := 6) (xs := (List.set b (Int.toNat g) (Qa.mk a.L a.R j a.Next))) (f := Qh) (old := d) (new := (Qa.mk d.L d.R d.Rule p)) rfl rfl i49 rfl rfl rfl (Z2 a2).2 (Qla _) (nb rfl) rfl (nL (Qk (tN (Qs (mw rfl ?_)))))))))))
  refine oI rfl (aw rfl (nL (tN ?_)))
  refine Qe ?_ (hgo1 (wI (g + (1:Int))) u v w y aa ab ac ad af ag (List.set (List.set b (Int.toNat g) (Qa.mk a.L a.R j a.Next)) (Int.toNat g) (Qa.mk d.L d.R d.Rule p)) ai aj al q am an w4_2aa h)
  exact tq rfl rfl
theorem Qfs {r : Qq × Int} (K : Nat) : ∀ (k : Nat), Oz r (Yd K k) := by
 intro k
 induction k with
 | zero =>
  intro u v w y aa ab b g ac ad j a af ag ai aj al m w4_1aa h
  exact zn h
 | succ k ih =>
  intro u v w y aa ab b g ac ad j a af ag ai aj al m w4_1aa h
  rw [Yd] at h
  refine Q7 (T.seq (sR (Qs (mw rfl (mw rfl (oK rfl (oP Qa2 i28 rfl ?_)))))))
  refine oP Wn i26 rfl (oL 3 Jm rfl (sp rfl (Hn (i := 6) (xs := a) (f := Qh) rfl (dk rfl) Jm rfl rfl (oI rfl (nL (tN ?_))))))
  rcases Qd h with ⟨p, h⟩ | ⟨p, h⟩
  refine Qp rfl p (T.skip (tN (T.seq (T.block (sR (Qs (mw rfl (oK rfl ?_))))))))
  refine oP Qa2 i28 rfl (oP Wn i26 rfl (oL 3 Jm rfl (mw rfl ?_)))
  obtain ⟨q, am, h⟩ := bind_some h
  refine sp rfl (Yj (n := 6) (xs := a) (f := Qh) (old := q) rfl (dk rfl) Jm i51 rfl rfl rfl am (sp rfl (Cg rfl (dk rfl) Hx rfl i38 (by decide) rfl (sp rfl (Hd (i := 6) (xs := a) (f := Qh) (old := q) rfl (dk rfl) Zs rfl rfl rfl (Z2 am).2 rfl (oU q.R (cI .i64) Zs rfl ?_))))))
  obtain ⟨an, ap, h⟩ := bind_some h
  refine oH fu46 (Zm.nil (O1 K ap)) rfl (aw rfl (nL (tN (sR (Qs (aw rfl (nL (tN (sR (Qs (aw rfl (nL (tN ?_)))))))))))))
  refine T.seq (sR (Qs (aw rfl (nL (tN (T.block (T.loop (Qe (Y0 3 1) ?_))))))))
  refine Qe (Y0 55 1) ?_
  refine Qe ?_ (Qfr K (Yd K k) ih K u an (0:Int) v w y aa ab b g ac ad j a [] [] af ag ai aj al m w4_1aa (Qc1 49) (Qc1 50) h)
  exact tr rfl (.c (.s (.s .z)) (.c (.s (.s .z)) (.c (.s (.s .z)) (.c (.s (.s .z)) (.c (.s (.s .z)) (.c (.s (.s .z)) (.c (.s (.s .z)) (.c (.s .z) (.c .z (.n _))))))))))
  refine Qo rfl p (T.exit (Ql (Ql (Qu (tN (sR (Qs (mw rfl (oK rfl (oP Qa2 i28 rfl (Wy (Ke 6 rfl) ?_)))))))))))
  refine sp rfl (Zq (F5 (i := 3) (l := ((Zp.dc 256 .u8 b) ++ (([.int .i64 g, .ex m, .ex w4_1aa] : List DC)))) rfl (dk rfl) Wn rfl i28 rfl rfl rfl rfl rfl) (Ya 197 (l := ((Zp.dc 256 .u8 b) ++ (([.int .i64 g, .ex m, .ex w4_1aa] : List DC)))) (l' := ((Zp.dc 256 .u8 b) ++ (([.int .i64 g, .sl false 2 (mA j), .sl false 4 (a.map Qh)] : List DC)))) (.app _ (.cons (.same _) (.cons (.view 5 rfl) (.cons (.view 6 rfl) (.refl _)))))) (sp rfl (Qy (i := 0) (cells' := ((Zp.oc 256 .u8 b) ++ (([.d (.int .i64 g), .d (.sl false 2 (mA j)), .d (.sl false 4 (a.map Qh))]:List OC)))) rfl rfl i28 rfl rfl rfl rfl (nb rfl) rfl (aw rfl (nL (tN (T.ret (Fin.done (.cons _ _ _ _ (.cellAgg 2 28 _ 0 0 28 _ ((Zp.dc 256 .u8 b) ++ (([.int .i64 g, .sl false 2 (mA j), .sl false 4 (a.map Qh)] : List DC))) _ _ 259 _ rfl rfl rfl rfl Wn rfl i28) (.cons _ _ _ _ (.tmp 3 _ rfl) .nil)) (by cases h; exact ⟨rfl, rfl⟩)))))))))
theorem Qft {r : Qq × Int} (K : Nat) : ∀ (k : Nat), ∀ (aa : Int) (x0 : Qj) (ai : Zp) (aj : List Xf) (al : List Qa) (q : Zp) (ab : List Int) (m : List Xf) (an : List Qa) (am : List Zy) (y ad : Nat) (af ag : Value) (j : Nat) (ac p : Value) (w4_0aa au : Value), Ui K k aa x0 ai aj al q ab m an am = some r → TL tp 198 (ca [1,1,1,1,0,1,0,0] ff20) ⟨[(1, .ptr y 0), (2, .ptr ad 0), (4, .ptr j 0), (5, .c (.ex au)), (6, .int .i64 aa)], [(Qcv y x0.First x0.P), (Qkj ad ai (0:Int) af ag), .arrA af 59 2 (mA aj), .arrX ag 51 4 0 (al.map Qh), (Wm j x0.First x0.P ac q (0:Int) p w4_0aa (0:Int)), .arrA ac 3 1 (mI ab), .arrA p 59 2 (mA m), .arrX w4_0aa 51 4 0 (an.map Qh), .arrA au 63 4 (am.map (Zy.dc .u64))]⟩ (Tb r) := by
 intro k
 induction k with
 | zero =>
  intro aa x0 ai aj al q ab m an am y ad af ag j ac p w4_0aa au h
  exact zn h
 | succ k ih =>
  intro aa x0 ai aj al q ab m an am y ad af ag j ac p w4_0aa au h
  rw [Ui] at h
  refine Q7 (T.seq (sR (Qs (mw rfl (oP F7 i41 rfl (oL 0 Ci rfl (oU x0.P Qv Ci rfl ?_)))))))
  refine oI rfl (nL (tN ?_))
  rcases Qd h with ⟨ay, h⟩ | ⟨ay, h⟩
  refine Qp rfl ay (T.skip (tN (T.seq (T.block (sR (Qs (mw rfl (oP F7 i41 rfl ?_))))))))
  refine oL 0 Ci rfl (mw rfl ?_)
  obtain ⟨a, av, h⟩ := bind_some h
  refine oX x0.P Qv Ci i65 av rfl (sp rfl (Xy rfl (dk rfl) Qbf rfl i63 (by decide) rfl (oJ Qit i63 rfl (sp rfl (OpT.buildSlice (elems := ([a.S] : List Zy).map (Zy.dc .u64)) rfl (dk rfl) ul99 i63 (by decide) rfl (H4 rfl) rfl rfl rfl (X2 rfl) (by decide) ?_)))))
  obtain ⟨a6, h⟩ := Zb h
  refine sp rfl (Zk (i := 8) (xs := am) (ys := [a.S]) (f := (Zy.dc .u64)) rfl (dk rfl) ul99 i63 rfl rfl rfl rfl a6 (fun ap => (aw rfl (nL (tN (sR (Qs (oP F7 i41 rfl (oL 0 Ci rfl (mw rfl (oX x0.P Qv Ci i65 av rfl ?_)))))))))))
  refine sp rfl (Xy rfl (dk rfl) Qbf rfl i3 (by decide) rfl (oR ul3 rfl (oI rfl (nL (tN ?_)))))
  rcases Qd h with ⟨az, h⟩ | ⟨az, h⟩
  refine Qp rfl az (T.seq (Qg Yp (Ja (gM rfl (fun _ => .f rfl) (fun _ => rfl) (gM rfl (fun _ => .f rfl) (fun _ => rfl) (gK rfl (fun _ => .f rfl) (fun _ => rfl) ?_))))))
  refine gP rfl (fun _ => .f rfl) Qa2 i38 (fun _ => rfl) (gL 5 rfl (fun _ => .f rfl) Zs (fun _ => rfl) (gM rfl (fun _ => .f rfl) (fun _ => rfl) (gK rfl (fun _ => .f rfl) (fun _ => rfl) (gP rfl (fun _ => .f rfl) Qa2 i28 (fun _ => rfl) (gP rfl (fun _ => .f rfl) Wn i25 (fun _ => rfl) (dC (c := ⟨some 53, .sl false 2 (mA m), [(52, .ptr j (0 + 3 + 257))], [(5, (Wm j x0.First x0.P ac q (0:Int) p w4_0aa (0:Int))), (7, .arrA p 59 2 (mA m))], []⟩) (fun t hm => oF rfl rfl (Zq (Yb (i := 5) rfl (dk rfl) Qiu rfl hm.s0 hm.o0 rfl rfl) (Hc 53 7 hm.o1) ⟨u0, rfl⟩)) (fun _ => rfl) (fun _ => rfl) ?_))))))
  refine gN m (Xf.dc .i64) rfl (fun _ => .f rfl) Qiu (fun _ => rfl) (dC (c := ⟨some 55, .sl true 1 ([(m.length : Int)].map (cI .i64)), [(54, .int .i64 (m.length : Int))], [], []⟩) (fun t hm => oF rfl rfl (OpT.buildSlice (elems := ([(m.length : Int)] : List Int).map (cI .i64)) rfl (dk rfl) Zs i3 (by decide) rfl (H4 rfl) (Xe hm.s0 rfl Wt) rfl rfl (X2 rfl) (by decide) ⟨u0, rfl⟩)) (fun _ => rfl) (fun _ => rfl) ?_)
  obtain ⟨a7, h⟩ := Zb h
  refine DGG.step (c := fun g => ⟨some 56, .c (.ex ((g 12).1 0)), [(55, .sl true 1 ([(m.length : Int)].map (cI .i64))), (48, .c (.ex ac))], [(6, .arrA ac 3 1 (mI ab))], [(6, .arrA ((g 12).1 0) 3 1 ((ab ++ [(m.length : Int)]).map (cI .i64)))]⟩) [12] (fun g γ' h => by simp only [h 12 (by decide)]) (fun g t hm => oF rfl rfl (Zk (i := 6) (xs := ab) (ys := [(m.length : Int)]) (f := (cI .i64)) rfl (dk rfl) Zs i3 rfl hm.s1 hm.o0 hm.s0 a7 (fun w => ⟨(fun _ => w, 0), rfl⟩))) (fun g => Zt rfl rfl) (gK rfl (fun _ => .f rfl) (fun _ => rfl) (gP rfl (fun _ => .f rfl) Qa2 i38 (fun _ => rfl) (DGG.step (c := fun g => ⟨none, .any, [(58, .ptr j (0 + 2)), (56, .c (.ex ((g 12).1 0)))], [(5, (Wm j x0.First x0.P ac q (0:Int) p w4_0aa (0:Int)))], [(5, (Wm j x0.First x0.P ((g 12).1 0) q (0:Int) p w4_0aa (0:Int)))]⟩) [12] (fun g γ' h => by simp only [h 12 (by decide)]) (fun g t hm => oF rfl rfl (Jh (i := 5) (cells' := (([.d (.sl false 1 (mI x0.First)), .d (.sl false 9 (x0.P.map Qv)), .d (.ex ((g 12).1 0))]:List OC) ++ ((Zp.oc 256 .u8 q) ++ (([.d (.int .i64 (0:Int)), .d (.ex p), .d (.ex w4_0aa), .d (.int .i64 (0:Int))]:List OC))))) rfl rfl i38 hm.s0 hm.s1 hm.o0 (nb rfl) rfl ⟨u0, rfl⟩)) (fun g => Zt rfl rfl) (gF [0,0,2,6,14,0,32,96,224,480,992,2016,4094,8191,16383,32767] Q0 rfl (by kernel_rfl) (fun _ => by kernel_rfl) (fun g u hu => (tN (Qg hu (Qg Yp (Ja ?_)))))))))
  refine gM rfl (fun _ => .f rfl) (fun _ => rfl) (gM rfl (fun _ => .f rfl) (fun _ => rfl) (gK rfl (fun _ => .f rfl) (fun _ => rfl) (gP rfl (fun _ => .f rfl) Qa2 i28 (fun _ => rfl) (gP rfl (fun _ => .f rfl) Wn i25 (fun _ => rfl) (gL 6 rfl (fun _ => .f rfl) Qiu (fun _ => rfl) (gP rfl (fun _ => .f rfl) F7 i41 (fun _ => rfl) ?_))))))
  refine gL 2 rfl (fun _ => .f rfl) Ci (fun _ => rfl) (gM rfl (fun _ => .f rfl) (fun _ => rfl) (gX x0.P Qv rfl (fun _ => .f rfl) Ci i65 av (fun _ => rfl) (gQ rfl (fun _ => .f rfl) Qbf i3 (fun _ => rfl) (gR rfl (fun _ => .f rfl) ul3 (fun _ => rfl) (gP rfl (fun _ => .f rfl) F7 i41 (fun _ => rfl) (gL 2 rfl (fun _ => .f rfl) Ci (fun _ => rfl) ?_))))))
  refine gM rfl (fun _ => .f rfl) (fun _ => rfl) (gX x0.P Qv rfl (fun _ => .f rfl) Ci i65 av (fun _ => rfl) (gQ rfl (fun _ => .f rfl) Qbf i3 (fun _ => rfl) (gR rfl (fun _ => .f rfl) ul3 (fun _ => rfl) (dC (c := ⟨some 77, .agg (Xf.dc .i64 (Xf.mk a.Lo a.Hi)), [(70, .int .i64 a.Lo), (76, .int .i64 a.Hi)], [], []⟩) (fun t hm => oF rfl rfl (OpT.build (l := (Xf.dc .i64 (Xf.mk a.Lo a.Hi))) rfl (dk rfl) (Qhu ul59 i59 i3) (H4 rfl) (Xe hm.s0 rfl (Xe hm.s1 rfl Wt)) rfl ⟨u0, rfl⟩)) (fun _ => rfl) (fun _ => rfl) (dC (c := ⟨some 78, .sl true 2 ([(Xf.mk a.Lo a.Hi)].map (Xf.dc .i64)), [(77, .agg (Xf.dc .i64 (Xf.mk a.Lo a.Hi)))], [], []⟩) (fun t hm => oF rfl rfl (OpT.buildSlice (elems := ([(Xf.mk a.Lo a.Hi)] : List Xf).map (Xf.dc .i64)) rfl (dk rfl) Qiu i59 (by decide) rfl (H4 rfl) (Xe hm.s0 rfl Wt) rfl rfl (X2 rfl) (by decide) ⟨u0, rfl⟩)) (fun _ => rfl) (fun _ => rfl) ?_)))))
  obtain ⟨a8, h⟩ := Zb h
  refine DGG.step (c := fun b => ⟨some 79, .c (.ex ((b 20).1 0)), [(78, .sl true 2 ([(Xf.mk a.Lo a.Hi)].map (Xf.dc .i64))), (64, .c (.ex p))], [(8, .arrA p 59 2 (mA m))], [(8, .arrA ((b 20).1 0) 59 2 ((m ++ [(Xf.mk a.Lo a.Hi)]).map (Xf.dc .i64)))]⟩) [20] (fun b γ' h => by simp only [h 20 (by decide)]) (fun b t hm => oF rfl rfl (Zk (i := 8) (xs := m) (ys := [(Xf.mk a.Lo a.Hi)]) (f := (Xf.dc .i64)) rfl (dk rfl) Qiu i59 rfl hm.s1 hm.o0 hm.s0 a8 (fun w => ⟨(fun _ => w, 0), rfl⟩))) (fun b => Zt rfl rfl) (gK rfl (fun _ => .f rfl) (fun _ => rfl) (gP rfl (fun _ => .f rfl) Qa2 i28 (fun _ => rfl) (gP rfl (fun _ => .f rfl) Wn i25 (fun _ => rfl) (DGG.step (c := fun b => ⟨none, .any, [(82, .ptr j (0 + 3 + 257)), (79, .c (.ex ((b 20).1 0)))], [(6, (Wm j x0.First x0.P ((g 12).1 0) q (0:Int) p w4_0aa (0:Int)))], [(6, (Wm j x0.First x0.P ((g 12).1 0) q (0:Int) ((b 20).1 0) w4_0aa (0:Int)))]⟩) [20] (fun b γ' h => by simp only [h 20 (by decide)]) (fun b t hm => oF rfl rfl (Jh (i := 6) (cells' := (([.d (.sl false 1 (mI x0.First)), .d (.sl false 9 (x0.P.map Qv)), .d (.ex ((g 12).1 0))]:List OC) ++ ((Zp.oc 256 .u8 q) ++ (([.d (.int .i64 (0:Int)), .d (.ex ((b 20).1 0)), .d (.ex w4_0aa), .d (.int .i64 (0:Int))]:List OC))))) rfl rfl i25 hm.s0 hm.s1 hm.o0 (nb rfl) rfl ⟨u0, rfl⟩)) (fun b => Zt rfl rfl) (gF [0,0,2,6,14,30,0,64,0,448,960,1984,0,4096,0,28672,61440,126976,262080,524224,1048574,2097151,4194303,8388607,16777215] Q0 rfl (by kernel_rfl) (fun _ => by kernel_rfl) (fun b u hu => (Qk (tN (Qg hu (Qs ?_))))))))))
  refine mw rfl (oI rfl (aw rfl (nL (tN ?_))))
  refine Qe ?_ (ih (wI (aa + (1:Int))) x0 ai aj al q (ab ++ [(m.length : Int)]) (m ++ [(Xf.mk a.Lo a.Hi)]) an (am ++ [a.S]) y ad af ag j ((g 12).1 0) ((b 20).1 0) w4_0aa ap h)
  exact tr rfl (.c (.s (.s .z)) (.c (.s (.s .z)) (.c (.s (.s .z)) (.c (.s (.s .z)) (.c (.s (.s .z)) (.c (.s (.s .z)) (.c (.s (.s .z)) (.c (.s (.s .z)) (.c (.s (.s .z)) (.n _))))))))))
  refine Qo rfl az (Qs (mw rfl (mw rfl (oK rfl (oP Qa2 i38 rfl (oL 4 Zs rfl ?_))))))
  refine sp rfl (OpT.buildSlice (elems := ([(-1:Int)] : List Int).map (cI .i64)) rfl (dk rfl) Zs i3 (by decide) rfl (H4 rfl) rfl rfl rfl (X2 rfl) (by decide) ?_)
  obtain ⟨a9, h⟩ := Zb h
  refine sp rfl (Zk (i := 5) (xs := ab) (ys := [(-1:Int)]) (f := (cI .i64)) rfl (dk rfl) Zs i3 rfl rfl rfl rfl a9 (fun a4 => (oK rfl (oP Qa2 i38 rfl (sp rfl (Jh (i := 4) (cells' := (([.d (.sl false 1 (mI x0.First)), .d (.sl false 9 (x0.P.map Qv)), .d (.ex a4)]:List OC) ++ ((Zp.oc 256 .u8 q) ++ (([.d (.int .i64 (0:Int)), .d (.ex p), .d (.ex w4_0aa), .d (.int .i64 (0:Int))]:List OC))))) rfl rfl i38 rfl rfl rfl (nb rfl) rfl (nL (Qk (tN (Qs (mw rfl ?_)))))))))))
  refine oI rfl (aw rfl (nL (tN ?_)))
  refine Qe ?_ (ih (wI (aa + (1:Int))) x0 ai aj al q (ab ++ [(-1:Int)]) m an (am ++ [a.S]) y ad af ag j a4 p w4_0aa ap h)
  exact tq rfl rfl
  refine Qo rfl ay (T.exit (Ql (Ql (Qu (tN (sR (Qs (mw rfl (mw rfl ?_)))))))))
  obtain ⟨aq, ba, h⟩ := bind_some h
  refine sp rfl (Uv rfl (dk rfl) fu45 rfl rfl (Zw.view (i := 8) rfl rfl Zw.nil) (Zm.nil (Qjj K (flx0 := false) ba)) (oK rfl (oP Qa2 i28 rfl (oP Wn i24 rfl (sp rfl (Qy (i := 4) (cells' := (([.d (.sl false 1 (mI x0.First)), .d (.sl false 9 (x0.P.map Qv)), .d (.ex ac)]:List OC) ++ ((Zp.oc 256 .u8 aq.Of) ++ (([.d (.int .i64 aq.Many), .d (.ex p), .d (.ex w4_0aa), .d (.int .i64 (0:Int))]:List OC))))) rfl rfl i24 rfl rfl rfl rfl (nb rfl) rfl (nL (tN (sR (Qs (mw rfl ?_)))))))))))
  refine sp rfl (Zq (OpT.build (l := [.ex (.slice none 0 0), .ex (.slice none 0 0), .ex (.slice none 0 0), .ex (.slice none 0 0)]) rfl (dk rfl) (Zr (pl := [(0, 1), (1, 1), (2, 1), (3, 1)]) Hx i51 rfl) (H4 rfl) rfl rfl rfl) (Ya 99 (l := [.ex (.slice none 0 0), .ex (.slice none 0 0), .ex (.slice none 0 0), .ex (.slice none 0 0)]) (l' := [.sl false 1 (([] : List Int).map (cI .i64)), .sl false 1 (([] : List Int).map (cI .i64)), .sl false 1 (([] : List Int).map (cI .i64)), .sl false 1 (([] : List (List Qf)).map (cL 2 Qn))]) (.cons (.nil _ _) (.cons (.nil _ _) (.cons (.nil _ _) (.cons (.nil _ _) (.refl _)))))) (sp rfl (Pq (elems := ([(Qa.mk [] [] [] [])] : List Qa).map Qh) rfl (dk rfl) Jm i51 (by decide) rfl (H4 rfl) rfl rfl rfl (X2 rfl) (by decide) (fun a5 => (oK rfl (oP Qa2 i28 rfl (oP Wn i26 rfl (sp rfl (Jh (i := 5) (cells' := (([.d (.sl false 1 (mI x0.First)), .d (.sl false 9 (x0.P.map Qv)), .d (.ex ac)]:List OC) ++ ((Zp.oc 256 .u8 aq.Of) ++ (([.d (.int .i64 aq.Many), .d (.ex p), .d (.ex (.slice (some ⟨a5, 0, none⟩) 1 1)), .d (.int .i64 (0:Int))]:List OC))))) rfl rfl i26 rfl rfl rfl (nb rfl) rfl (nL (tN ?_)))))))))))
  refine T.seq (sR (Qs (aw rfl (nL (tN (T.block (T.loop ?_)))))))
  refine Qe ?_ (Qfs K K (0:Int) ai aj al x0.First x0.P aq.Of aq.Many (0:Int) ab m [(Qa.mk [] [] [] [])] ad af ag j ac p (.slice (some ⟨a5, 0, none⟩) 1 1) h)
  exact tr rfl (.c (.s (.s .z)) (.c (.s (.s .z)) (.c (.s (.s .z)) (.c (.s (.s .z)) (.c (.s (.s .z)) (.c (.s (.s .z)) (.c .z (.n _))))))))
theorem Qba (K : Nat) {x0 : Qj} {r : Qq × Int} (h : Wd K x0 = some r) : Zm tp 20 [.agg [.sl false 1 (mI x0.First), .sl false 9 (x0.P.map Qv)]] [] (.tup [.agg ((Zp.dc 256 .u8 r.1.Split.Of) ++ (([.int .i64 r.1.Split.Many, .sl false 2 (mA r.1.Counts), .sl false 4 (r.1.States.map Qh)] : List DC))), .int .i64 r.2]) := by
 refine CI 198 fu20 rfl ?_
 unfold Wd at h
 refine sR (Qs (sp rfl (Q9 rfl (dk rfl) rfl (fun b => (sp rfl (Ze rfl (dk rfl) i28 rfl (fun f => (aw rfl (nL (tN (T.seq (sR (Qs ?_)))))))))))))
 refine oA 1 [.sl false 1 (mI x0.First), .sl false 9 (x0.P.map Qv)] F7 i43 rfl ?_
 obtain ⟨m, g, h⟩ := bind_some h
 refine oH fu44 (Zm.nil (Pa K g)) rfl (oT rfl (nL (tN ?_)))
 rcases Qd h with ⟨a, h⟩ | ⟨a, h⟩
 refine Qp rfl a (sR (Qs (sp rfl (OpT.build (l := ((Zp.dc 256 .u8 (Zp.mk fun _ => 0)) ++ (([.int .i64 (0:Int), .ex (.slice none 0 0), .ex (.slice none 0 0)] : List DC)))) rfl (dk rfl) (Zr (pl := [(0, 257), (257, 1), (258, 1)]) Wn i28 rfl) (H4 rfl) rfl rfl (sp rfl (Qy (i := 0) (cells' := ((Zp.oc 256 .u8 (Zp.mk fun _ => 0)) ++ (([.d (.int .i64 (0:Int)), .d (.ex (.slice none 0 0)), .d (.ex (.slice none 0 0))]:List OC)))) rfl rfl i28 rfl rfl rfl rfl (nb rfl) rfl (aw rfl (nL (tN (T.ret (Qr ?_)))))))))))
 refine Xl (Jp 0 (l := ((Zp.dc 256 .u8 (Zp.mk fun _ => 0)) ++ (([.int .i64 (0:Int), .ex (.slice none 0 0), .ex (.slice none 0 0)] : List DC)))) (l' := ((Zp.dc 256 .u8 (Zp.mk fun _ => 0)) ++ (([.int .i64 (0:Int), .sl false 2 (([] : List Xf).map (Xf.dc .i64)), .sl false 4 (([] : List Qa).map Qh)] : List DC)))) rfl (.app _ (.cons (.same _) (.cons (.nil _ _) (.cons (.nil _ _) (.refl _)))))) ?_
 exact Fin.done (.cons _ _ _ _ (.cellAgg 2 28 _ 0 0 28 _ ((Zp.dc 256 .u8 (Zp.mk fun _ => 0)) ++ (([.int .i64 (0:Int), .sl false 2 (([] : List Xf).map (Xf.dc .i64)), .sl false 4 (([] : List Qa).map Qh)] : List DC))) _ _ 259 _ rfl rfl rfl rfl Wn rfl i28) (.cons _ _ _ _ (.tmp 3 _ rfl) .nil)) (by cases h; exact ⟨rfl, rfl⟩)
 refine Qo rfl a (T.skip (tN (sR (Qs (oA 1 [.sl false 1 (mI x0.First), .sl false 9 (x0.P.map Qv)] F7 i43 rfl (sp rfl (OpT.build (l := (([.sl false 1 (mI x0.First), .sl false 9 (x0.P.map Qv), .ex (.slice none 0 0)] : List DC) ++ ((Zp.dc 256 .u8 (Zp.mk fun _ => 0)) ++ (([.int .i64 (0:Int), .ex (.slice none 0 0), .ex (.slice none 0 0), .int .i64 (0:Int)] : List DC))))) rfl (dk rfl) (Zr (pl := [(0, 2), (2, 1), (3, 259), (262, 1)]) Qa2 i98 rfl) (H4 rfl) rfl rfl (sp rfl (Q9 rfl (dk rfl) rfl (fun j => (aw rfl ?_)))))))))))
 refine nL (tN (sR (Qs (aw rfl (nL (tN (T.seq (sR (Qs (aw rfl (nL (tN ?_))))))))))))
 refine T.block (T.loop (Qe (Y0 63 4) (Qe (Y0 59 2) (Qe (Qd4 51 4) (Qe (Y0 3 1) (Qe (Y0 59 2) ?_))))))
 refine Qe (Qd4 51 4) ?_
 refine Qe ?_ (Qft K K (0:Int) x0 (Zp.mk fun _ => 0) [] [] (Zp.mk fun _ => 0) [] [] [] [] b f (Qc1 44) (Qc1 45) j (Qc1 46) (Qc1 47) (Qc1 48) (Qc1 43) h)
 exact tr rfl (.c (.s (.s (.s (.s (.s (.s (.s (.s .z)))))))) (.c (.s (.s (.s (.s (.s (.s (.s .z))))))) (.c (.s (.s (.s (.s .z)))) (.c (.s (.s (.s .z))) (.c (.s (.s (.s (.s .z)))) (.c (.s (.s .z)) (.c (.s .z) (.c .z (.c .z (.n _))))))))))
abbrev split_Right_q (r : Bool) : ES := Jq tp ff52 (fun y t => y = (.bool r) ∧ t = [])
abbrev Qh8 (r : Bool) : ES := fT 28 [1,1,1] ff52 (split_Right_q r)
abbrev Qfi (r : Bool) : ES := Qz 0 ((Qh8 r))
theorem Qi9 {r : Bool} (K : Nat) : ∀ (k : Nat), ∀ (b : Int) (x0 : Q8) (f : Int) (g : Nat), Wb K k b x0 f = some r → TL tp 28 (ca [1,1,0,1,0,0] ff52) ⟨[(1, .ptr g 0), (3, .int .i64 b), (7, .agg (Zp.dc 256 .u8 x0.Of)), (8, .int .i64 f)], [(b24x8 g x0.Of x0.Many)]⟩ (Qfi r) := by
 intro k
 induction k with
 | zero =>
  intro b x0 f g h
  exact zn h
 | succ k ih =>
  intro b x0 f g h
  rw [Wb] at h
  refine Q7 (sR (Qs (oI rfl (nL (tN (T.seq ?_))))))
  rcases Qd h with ⟨l, h⟩ | ⟨l, h⟩
  refine Qp rfl l (T.skip (tN (T.seq (T.block (sR (Qs ?_))))))
  obtain ⟨j, h⟩ := Zb h
  refine sp rfl (OpT.indexArr rfl (dk rfl) ul22 ul5 rfl i5 rfl rfl j.1 j.2 (Zp.dc_get (n := 256) (a := x0.Of) (k := .u8) j.1 j.2) (aw rfl (nL (tN (T.block (sR (Qs (mw rfl (sp rfl (Uf rfl (dk rfl) ul5 ul3 rfl ?_))))))))))
  refine mw rfl (oI rfl (aw rfl (nL (tN ?_))))
  rcases Qd h with ⟨m, h⟩ | ⟨m, h⟩
  refine Qp rfl m (sR (Qs (aw rfl (nL (tN (T.ret (Q1 (Q1 (Qr (Qr (Q1 (Qr (fd rfl (by cases h; exact ⟨rfl, rfl⟩))))))))))))))
  refine Qo rfl m (sR (Qs (mw rfl (sp rfl (Uf rfl (dk rfl) ul5 ul3 rfl (mw rfl (oI rfl (aw rfl ?_))))))))
  refine nL (tN ?_)
  rcases Qd h with ⟨p, h⟩ | ⟨p, h⟩
  refine Qp rfl p (Qs (mw rfl (oI rfl (aw rfl (nL (Qk (Qk (tN (Qs ?_)))))))))
  refine oI rfl (mw rfl (nL (tN ?_)))
  refine Qe ?_ (ih (wI (b + (1:Int))) x0 (wI (f + (1:Int))) g h)
  exact tq rfl rfl
  refine Qo rfl p (T.skip (Qk (Qk (tN (Qs (oI rfl (mw rfl (nL (tN ?_)))))))))
  refine Qe ?_ (ih b x0 (wI (f + (1:Int))) g h)
  exact tq rfl rfl
  refine Qo rfl l (T.exit (Ql (Ql (Qu (tN (sR (Qs (mw rfl (oP ul24 i3 rfl (oL 0 ul3 rfl (oI rfl ?_)))))))))))
  refine aw rfl (nL (tN (T.ret (fd rfl (by cases h; exact ⟨rfl, rfl⟩)))))
theorem split_Right_T (K : Nat) {x0 : Q8} {r : Bool} (h : Og K x0 = some r) : Zm tp 52 [.agg ((Zp.dc 256 .u8 x0.Of) ++ (([.int .i64 x0.Many] : List DC)))] [] (.bool r) := by
 refine CI 28 fu52 rfl ?_
 unfold Og at h
 refine sR (Qs (sp rfl (Q9 rfl (dk rfl) rfl (fun a => (aw rfl (nL (tN (sR (Qs (aw rfl (nL (tN (T.seq ?_)))))))))))))
 refine sR (Qs (oP ul24 i22 rfl (oA 0 (Zp.dc 256 .u8 x0.Of) ul22 i22 rfl (mw rfl (nL (tN (T.block (T.loop ?_))))))))
 refine Qe ?_ (Qi9 K K (0:Int) x0 (0:Int) a h)
 exact tq rfl rfl
abbrev Qi3 (r : Int) : ES := Jq tp ff89 (fun y t => y = (.int .i64 r) ∧ t = [])
abbrev Qkn (r : Int) : ES := fT 17 [1,1] ff89 (Qi3 r)
abbrev Qin (r : Int) : ES := fT 17 [1,1,1,1] ff89 (Qi3 r)
abbrev Qgl (r : Int) : ES := Qz 0 ((Qin r))
theorem Qd1 {r : Int} (K : Nat) (h : Dp K = some r) : T tp 17 (ca [1,0,1,0] ff89) ⟨[], []⟩ (Qkn r) := by
 unfold Dp at h
 refine sR (Qs (aw rfl (nL (tN (T.ret (Qr (fd rfl (by cases h; exact ⟨rfl, rfl⟩))))))))
theorem Qko {r : Int} (K : Nat) : ∀ (k : Nat), ∀ (a x0 b : Int), Do K k a x0 b = some r → TL tp 17 (ca [1,1,1,0,1,0,0] ff89) ⟨[(3, .int .i64 a), (10, .int .i64 x0), (11, .int .i64 b)], []⟩ (Qgl r) := by
 intro k
 induction k with
 | zero =>
  intro a x0 b h
  exact zn h
 | succ k ih =>
  intro a x0 b h
  rw [Do] at h
  refine Q7 (sR (Qs (oI rfl (nL (tN (T.seq ?_))))))
  rcases Qd h with ⟨c, h⟩ | ⟨c, h⟩
  refine Qp rfl c (T.skip (tN (T.seq (T.block (Qs (mw rfl (oI rfl ?_)))))))
  refine aw rfl (nL (Qk (tN (Qs (oI rfl (mw rfl (nL (tN ?_))))))))
  refine Qe ?_ (ih (wI (a * (3:Int))) x0 (wI (b + (1:Int))) h)
  exact tq rfl rfl
  refine Qo rfl c (T.exit (Ql (Ql (Qu (tN (sR (Qs (mw rfl (aw rfl (nL (tN (T.ret ?_))))))))))))
  exact fd rfl (by cases h; exact ⟨rfl, rfl⟩)
theorem auto_Codes_T (K : Nat) {x0 r : Int} (h : N4 K x0 = some r) : Zm tp 89 [.int .i64 x0] [] (.int .i64 r) := by
 refine CI 17 fu89 rfl ?_
 unfold N4 at h
 refine sR (Qs (aw rfl (nL (tN (T.seq (sR (Qs (mw rfl (oI rfl ?_)))))))))
 refine mw rfl ?_
 rcases Qd h with ⟨a, h⟩ | ⟨a, h⟩
 refine pf rfl a (pf rfl a (oY a rfl (nL (tN (Qp rfl rfl ?_)))))
 refine Qg ?_ (Qd1 K h)
 exact tq rfl rfl
 refine sn rfl a (OpT.move rfl (dk rfl) rfl (sn rfl a (Z1 rfl rfl (dk rfl) rfl rfl (oZ a rfl (nL (tN ?_))))))
 rcases Qd h with ⟨b, h⟩ | ⟨b, h⟩
 refine Qp rfl b ?_
 refine Qg ?_ (Qd1 K h)
 exact tq rfl rfl
 refine Qo rfl b (T.skip (tN (sR (Qs (aw rfl (nL (tN (T.seq (sR (Qs ?_))))))))))
 refine mw rfl (mw rfl (nL (tN (T.block (T.loop ?_)))))
 refine Qe ?_ (Qko K K (1:Int) x0 (0:Int) h)
 exact tq rfl rfl
abbrev auto_rises_q (r : Bool) : ES := Jq tp ff90 (fun y t => y = (.bool r) ∧ t = [])
abbrev Qjm (r : Bool) : ES := fT 24 [1,1,1] ff90 (auto_rises_q r)
abbrev Ro (r : Bool) : ES := Qz 0 ((Qjm r))
abbrev Qhx (r : Bool) : ES := fL 24 [1,1,0,1,0,0] ff90 (Ro r)
abbrev Qcw (r : Bool) : ES := fT 24 [1,1,0,1,0,0,1,1,1] ff90 (Qhx r)
abbrev Rg (r : Bool) : ES := Qz 1 ((Qcw r))
abbrev Sq (r : Bool) : ES := fT 24 [1,1,0,1,0,0,1,1,0,0,1,1] ff90 (Rg r)
theorem Qdz {r : Bool} (K : Nat) (h : Dm K = some r) : T tp 24 (ca [1,1,0,1,0,0,1,1,0,0,1,0,1,0] ff90) ⟨[], []⟩ (Sq r) := by
 unfold Dm at h
 refine sR (Qs (aw rfl (nL (tN (T.ret (Qr (Q1 (Qr (Qr (Q1 (Qr (fd rfl (by cases h; exact ⟨rfl, rfl⟩)))))))))))))
theorem Qkk {r : Bool} (K : Nat) : ∀ (k : Nat), ∀ (x1 d : Int) (x0 : List Int) (b c : Int) (flx0 : Bool), Lm K k x1 d x0 b c = some r → TL tp 24 (ca [1,1,0,1,0,0] ff90) ⟨[(1, .int .i64 x1), (5, .int .i64 d), (8, .sl flx0 1 (mI x0)), (9, .int .i64 b), (10, .int .i64 c)], []⟩ (Ro r) := by
 intro k
 induction k with
 | zero =>
  intro x1 d x0 b c flx0 h
  exact zn h
 | succ k ih =>
  intro x1 d x0 b c flx0 h
  rw [Lm] at h
  refine Q7 (sR (Qs (oI rfl (nL (tN (T.seq ?_))))))
  rcases Qd h with ⟨g, h⟩ | ⟨g, h⟩
  refine Qp rfl g (T.skip (tN (T.seq (T.block (sR (Qs ?_))))))
  obtain ⟨j, l, h⟩ := bind_some h
  refine oX x0 (cI .i64) Zs i3 l rfl (oR ul3 rfl (aw rfl (nL (tN (T.seq (sR (Qs (mw rfl ?_))))))))
  refine mw rfl (oI rfl (mw rfl ?_))
  rcases Qd h with ⟨a, h⟩ | ⟨a, h⟩
  refine pf rfl a (pf rfl a (pf rfl a (oY a rfl (nL (tN (Qp rfl rfl ?_))))))
  refine Qg ?_ (Qdz K h)
  exact tq rfl rfl
  refine sn rfl a (OpT.move rfl (dk rfl) rfl (sn rfl a (OpT.move rfl (dk rfl) rfl (sn rfl a (Z1 rfl rfl (dk rfl) rfl rfl (oZ a rfl (nL (tN ?_))))))))
  rcases Qd h with ⟨i, h⟩ | ⟨i, h⟩
  refine Qp rfl i ?_
  refine Qg ?_ (Qdz K h)
  exact tq rfl rfl
  refine Qo rfl i (T.skip (tN (Qs (mw rfl (aw rfl (nL (Qk (tN (Qs ?_)))))))))
  refine oI rfl (mw rfl (nL (tN ?_)))
  refine Qe ?_ (ih x1 j x0 b (wI (c + (1:Int))) flx0 h)
  exact tq rfl rfl
  refine Qo rfl g (T.exit (Ql (Ql (Qu (tN (sR (Qs (aw rfl (nL (tN (T.ret (fd rfl (by cases h; exact ⟨rfl, rfl⟩)))))))))))))
theorem Qi1 (K : Nat) {x0 : List Int} {x1 : Int} {flx0 r : Bool} (h : N3 K x0 x1 = some r) : Zm tp 90 [.sl flx0 1 (mI x0), .int .i64 x1] [] (.bool r) := by
 refine CI 24 fu90 rfl ?_
 unfold N3 at h
 refine sR (Qs (aw rfl (nL (tN (sR (Qs (aw rfl (nL (tN (T.seq (sR (Qs ?_))))))))))))
 refine mw rfl (oU x0 (cI .i64) Zs rfl (mw rfl (nL (tN (T.block (T.loop ?_))))))
 refine Qe ?_ (Qkk K K x1 (-1:Int) x0 (x0.length : Int) (0:Int) flx0 h)
 exact tq rfl rfl
abbrev Qgv (r : Int) : ES := Jq tp ff132 (fun y t => y = (.int .i64 r) ∧ t = [])
abbrev Qdb (r : Int) : ES := fT 19 [1,1] ff132 (Qgv r)
abbrev T7 (r : Int) : ES := Qz 0 ((Qdb r))
theorem Qdc {r : Int} (K : Nat) : ∀ (k : Nat), ∀ (x0 : List Int) (x1 a b : Int) (flx0 : Bool), Uc K k x0 x1 a b = some r → TL tp 19 (ca [1,0,1,0,0] ff132) ⟨[(0, .sl flx0 1 (mI x0)), (1, .int .i64 x1), (7, .int .i64 a), (8, .int .i64 b)], []⟩ (T7 r) := by
 intro k
 induction k with
 | zero =>
  intro x0 x1 a b flx0 h
  exact zn h
 | succ k ih =>
  intro x0 x1 a b flx0 h
  rw [Uc] at h
  refine Q7 (sR (Qs (oI rfl (nL (tN (T.seq ?_))))))
  rcases Qd h with ⟨c, h⟩ | ⟨c, h⟩
  refine Qp rfl c (T.skip (tN (T.seq (T.block (sR (Qs (mw rfl (aw rfl ?_))))))))
  refine nL (tN (sR (Qs ?_)))
  iterate 3 refine mw rfl ?_
  obtain ⟨g, i, h⟩ := bind_some h
  refine oX x0 (cI .i64) Zs i3 i rfl (oR ul3 rfl (oI rfl (nL (tN ?_))))
  rcases Qd h with ⟨d, h⟩ | ⟨d, h⟩
  refine Qp rfl d (sR (Qs (mw rfl (aw rfl (nL (tN (T.ret (Q1 (Qr (Qr (Q1 (Qr (fd rfl (by cases h; exact ⟨rfl, rfl⟩))))))))))))))
  refine Qo rfl d (T.skip (Qk (tN (Qs (oI rfl (mw rfl (nL (tN ?_))))))))
  refine Qe ?_ (ih x0 x1 a (wI (b + (1:Int))) flx0 h)
  exact tq rfl rfl
  refine Qo rfl c (T.exit (Ql (Ql (Qu (tN (sR (Qs (aw rfl (nL (tN (T.ret (fd rfl (by cases h; exact ⟨rfl, rfl⟩)))))))))))))
theorem Qgw (K : Nat) {x0 : List Int} {x1 : Int} {flx0 : Bool} {r : Int} (h : Bv K x0 x1 = some r) : Zm tp 132 [.sl flx0 1 (mI x0), .int .i64 x1] [] (.int .i64 r) := by
 refine CI 19 fu132 rfl ?_
 unfold Bv at h
 refine sR (Qs (aw rfl (nL (tN (T.seq (sR (Qs (mw rfl (oU x0 (cI .i64) Zs rfl ?_)))))))))
 refine mw rfl (nL (tN (T.block (T.loop ?_))))
 refine Qe ?_ (Qdc K K x0 x1 (x0.length : Int) (0:Int) flx0 h)
 exact tq rfl rfl
abbrev slices_Contains_int_q (r : Bool) : ES := Jq tp ff118 (fun y t => y = (.bool r) ∧ t = [])
theorem Qdd (K : Nat) {x0 : List Int} {x1 : Int} {flx0 r : Bool} (h : Wp K x0 x1 = some r) : Zm tp 118 [.sl flx0 1 (mI x0), .int .i64 x1] [] (.bool r) := by
 refine CI 9 fu118 rfl ?_
 unfold Wp at h
 refine sR (Qs (aw rfl (nL (tN (sR (Qs (mw rfl (mw rfl ?_))))))))
 obtain ⟨b, a, h⟩ := bind_some h
 refine oH fu132 (Zm.nil (Qgw K (flx0 := flx0) a)) rfl (oI rfl (aw rfl (nL (tN (T.ret (fd rfl (by cases h; exact ⟨rfl, rfl⟩)))))))
abbrev Pn (r : Bool) : ES := Jq tp ff93 (fun y t => y = (.bool r) ∧ t = [])
abbrev Qaw (r : Bool) : ES := fT 79 [1,1,1] ff93 (Pn r)
abbrev Tx (r : Bool) : ES := fT 79 [1,1,1,1] ff93 (Pn r)
abbrev M2 (r : Bool) : ES := Qz 0 ((Tx r))
abbrev Rh (r : Bool) : ES := fL 79 [1,1,1,0,1,0,0] ff93 (M2 r)
abbrev F4 (r : Bool) : ES := fT 79 [1,1,1,0,1,0,0,1,1,1] ff93 (Rh r)
abbrev C9 (r : Bool) : ES := Qz 1 ((F4 r))
theorem Kq {r : Bool} (K : Nat) (h : Xx K = some r) : T tp 79 (ca [1,1,0,1,0] ff93) ⟨[], []⟩ (Qaw r) := by
 unfold Xx at h
 refine sR (Qs (aw rfl (nL (tN (T.ret (Qr (fd rfl (by cases h; exact ⟨rfl, rfl⟩))))))))
theorem Kp {r : Bool} (K : Nat) (h : Xw K = some r) : T tp 79 (ca [1,1,1,0,1,0,0,1,1,0,0,1,1,0] ff93) ⟨[], []⟩ (C9 r) := by
 unfold Xw at h
 refine sR (Qs (aw rfl (nL (tN (T.ret (Q1 (Qr (Qr (Q1 (Qr (fd rfl (by cases h; exact ⟨rfl, rfl⟩))))))))))))
theorem Qcy {r : Bool} (K : Nat) : ∀ (k : Nat), ∀ (x2 : Qf) (w p : Int) (x0 : Zh) (x1 : Qa) (j l m : Nat), Xv K k x2 w p x0 x1 = some r → TL tp 79 (ca [1,1,1,0,1,0,0] ff93) ⟨[(3, .ptr j 0), (4, .ptr l 0), (5, .ptr m 0), (44, .sl false 1 (mU x2.Ops)), (45, .int .i64 w), (46, .int .i64 p)], [(W9 j x0.Auto.Split.Of x0.Auto.Split.Many x0.Auto.Counts x0.Auto.States), (J5 l x1.L x1.R x1.Rule x1.Next), (Qe0 m x2.To x2.Ops)]⟩ (M2 r) := by
 intro k
 induction k with
 | zero =>
  intro x2 w p x0 x1 j l m h
  exact zn h
 | succ k ih =>
  intro x2 w p x0 x1 j l m h
  rw [Xv] at h
  refine Q7 (sR (Qs (oI rfl (nL (tN (T.seq ?_))))))
  rcases Qd h with ⟨ab, h⟩ | ⟨ab, h⟩
  refine Qp rfl ab (T.skip (tN (T.seq (T.block (sR (Qs (mw rfl ?_)))))))
  obtain ⟨a, ad, h⟩ := bind_some h
  refine oX x2.Ops (cI .u8) B1 i5 ad rfl (oR ul5 rfl (aw rfl (aw rfl (nL (tN (T.seq (Z7 ?_)))))))
  refine dV rfl rfl (dI rfl (.f rfl) rfl (dV rfl rfl ?_))
  rcases Qd h with ⟨y, h⟩ | ⟨y, h⟩
  refine dO y rfl rfl (dO y rfl rfl (dY rfl (.f rfl) y rfl (dV rfl rfl (dO rfl rfl rfl (dO rfl rfl rfl (dO rfl rfl rfl ?_))))))
  refine dG rfl rfl (dG rfl rfl (dG rfl rfl (dG rfl rfl (dG rfl rfl (dG rfl rfl (dG rfl rfl ?_))))))
  refine dG rfl rfl (dG rfl rfl (dG rfl rfl (dG rfl rfl (dG rfl rfl (dG rfl rfl (dG rfl rfl ?_))))))
  refine dG rfl rfl (dO rfl rfl rfl (dY rfl (.f rfl) rfl rfl (dF [0,1,3,7,15,31,63,127,255,511,1023,2047,1023,5119,13311,1023,33791,127999,259071,521215,1023,2094079,4191231,8388607,16777215,33554431,67108863] Q0 rfl (by kernel_rfl) (fun u hu => (tN (Qg hu (Qp rfl rfl ?_)))))))
  refine Qg ?_ (Kp K h)
  exact tq rfl rfl
  refine dM rfl (.n y rfl) rfl (dI rfl (.n y rfl) rfl (dZ rfl (.f rfl) y rfl (dV rfl rfl ?_)))
  rcases Qd h with ⟨q, h⟩ | ⟨q, h⟩
  refine dO q rfl rfl (dO q rfl rfl (dO q rfl rfl (dG rfl rfl (dG rfl rfl (dG rfl rfl (dG rfl rfl ?_))))))
  refine dG rfl rfl (dG rfl rfl (dG rfl rfl (dG rfl rfl (dG rfl rfl (dG rfl rfl (dG rfl rfl ?_))))))
  refine dG rfl rfl (dG rfl rfl (dG rfl rfl (dG rfl rfl (dO q rfl rfl (dY rfl (.f rfl) q rfl (dF [0,1,3,7,15,31,63,127,255,511,1023,2047,1023,5119,13311,1023,33791,127999,259071,521215,1023,2094079,4191231,8388607,16777215,33554431,67108863] Q0 rfl (by kernel_rfl) (fun u hu => (tN (Qg hu ?_)))))))))
  refine Qp rfl rfl ?_
  refine Qg ?_ (Kp K h)
  exact tq rfl rfl
  refine dM rfl (.n q rfl) rfl (dI rfl (.n q rfl) rfl (dM rfl (.n q rfl) rfl ?_))
  rcases Qd h with ⟨b, h⟩ | ⟨b, h⟩
  refine dP rfl (.n b rfl) Hx i38 rfl (dL 1 rfl (.n b rfl) Zs rfl (dP rfl (.n b rfl) ul107 i28 rfl (dP rfl (.n b rfl) Wn i26 rfl (dL 0 rfl (.n b rfl) Jm rfl (dP rfl (.n b rfl) Dq i3 rfl (dL 2 rfl (.n b rfl) ul3 rfl ?_))))))
  obtain ⟨g, af, h⟩ := bind_some h
  refine dX x0.Auto.States Qh rfl (.n b rfl) Jm i51 af rfl (dQ rfl (.n b rfl) Hx i38 rfl (dR rfl (.n b rfl) Zs rfl (dM rfl (.n b rfl) rfl ?_)))
  obtain ⟨aa, ag, h⟩ := bind_some h
  refine dX g.R (cI .i64) rfl (.n b rfl) Zs i3 ag rfl (dR rfl (.n b rfl) ul3 rfl ?_)
  obtain ⟨s, ai, h⟩ := bind_some h
  refine dH fu118 (Zm.nil (Qdd K (flx0 := false) ai)) rfl (.n b rfl) rfl (dT rfl (.n b rfl) rfl (dY rfl (.n q rfl) b rfl (dZ rfl (.f rfl) q rfl (dF [0,1,3,7,15,31,63,127,255,511,1023,2047,1023,5119,13311,1023,33791,127999,259071,521215,1023,2094079,4191231,8388607,16777215,33554431,67108863] Q0 rfl (by kernel_rfl) (fun u hu => (tN (Qg hu ?_)))))))
  rcases Qd h with ⟨ac, h⟩ | ⟨ac, h⟩
  refine Qp rfl ac ?_
  refine Qg ?_ (Kp K h)
  exact tq rfl rfl
  refine Qo rfl ac (T.skip (Qk (tN (Qs (oI rfl (mw rfl (nL (tN ?_))))))))
  refine Qe ?_ (ih x2 w (wI (p + (1:Int))) x0 x1 j l m h)
  exact tq rfl rfl
  refine dO b rfl rfl (dO b rfl rfl (dO b rfl rfl (dO b rfl rfl (dO b rfl rfl (dO b rfl rfl (dO b rfl rfl ?_))))))
  refine dO b rfl rfl (dO b rfl rfl (dO b rfl rfl (dO b rfl rfl (dO b rfl rfl (dO b rfl rfl (dO b rfl rfl ?_))))))
  refine dO b rfl rfl (dZ rfl (.n q rfl) b rfl (dZ rfl (.f rfl) q rfl (dF [0,1,3,7,15,31,63,127,255,511,1023,2047,1023,5119,13311,1023,33791,127999,259071,521215,1023,2094079,4191231,8388607,16777215,33554431,67108863] Q0 rfl (by kernel_rfl) (fun u hu => (tN (Qg hu (Qo rfl rfl (T.skip (Qk (tN (Qs ?_)))))))))))
  refine oI rfl (mw rfl (nL (tN ?_)))
  refine Qe ?_ (ih x2 w (wI (p + (1:Int))) x0 x1 j l m h)
  exact tq rfl rfl
  refine Qo rfl ab (T.exit (Ql (Ql (Qu (tN (sR (Qs (aw rfl (nL (tN (T.ret (fd rfl (by cases h; exact ⟨rfl, rfl⟩)))))))))))))
theorem Qgk (K : Nat) {x0 : Zh} {x1 : Qa} {x2 : Qf} {r : Bool} (h : Gz K x0 x1 x2 = some r) : Zm tp 93 [.agg ((Zp.dc 256 .u8 x0.Auto.Split.Of) ++ (([.int .i64 x0.Auto.Split.Many, .sl false 2 (mA x0.Auto.Counts), .sl false 4 (x0.Auto.States.map Qh)] : List DC))), .agg [.sl false 1 (mI x1.L), .sl false 1 (mI x1.R), .sl false 1 (mI x1.Rule), .sl false 1 (x1.Next.map (cL 2 Qn))], .agg [.int .i64 x2.To, .sl false 1 (mU x2.Ops)]] [] (.bool r) := by
 refine CI 79 fu93 rfl ?_
 unfold Gz at h
 refine sR (Qs (sp rfl (Q9 rfl (dk rfl) rfl (fun j => (sp rfl (Q9 rfl (dk rfl) rfl (fun m => (sp rfl (Q9 rfl (dk rfl) rfl (fun g => (aw rfl (nL (tN (T.seq ?_))))))))))))))
 refine sR (Qs (oP Dq i3 rfl (oL 0 ul3 rfl (oI rfl (nL (tN ?_))))))
 rcases Qd h with ⟨p, h⟩ | ⟨p, h⟩
 refine Qp rfl p (sR (Qs (oP Dq i52 rfl (oL 0 B1 rfl (oU x2.Ops (cI .u8) B1 rfl (oI rfl (aw rfl ?_)))))))
 refine nL (tN (T.ret (Qr (fd rfl (by cases h; exact ⟨rfl, rfl⟩)))))
 refine Qo rfl p (T.skip (tN (T.seq (T.seq (Z7 (dP rfl (.f rfl) Dq i3 rfl (dL 0 rfl (.f rfl) ul3 rfl ?_)))))))
 refine dI rfl (.f rfl) rfl (dV rfl rfl ?_)
 rcases Qd h with ⟨l, h⟩ | ⟨l, h⟩
 refine dO l rfl rfl (dO l rfl rfl (dO l rfl rfl (dO l rfl rfl (dO l rfl rfl (dO l rfl rfl (dO l rfl rfl ?_))))))
 refine dY rfl (.f rfl) l rfl (dV rfl rfl (dO rfl rfl rfl (dO rfl rfl rfl (dO rfl rfl rfl (dO rfl rfl rfl (dO rfl rfl rfl ?_))))))
 refine dO rfl rfl rfl (dO rfl rfl rfl (dO rfl rfl rfl (dO rfl rfl rfl (dO rfl rfl rfl (dO rfl rfl rfl (dO rfl rfl rfl ?_))))))
 refine dO rfl rfl rfl (dY rfl (.f rfl) rfl rfl (dF [0,1,3,7,15,31,15,79,207,463,1023,2047,4095,8191,16383,32767,8191,73727,204799,8191,532479,2039807,4136959,8331263,16719871,33554431,67108863] Q0 rfl (by kernel_rfl) (fun u hu => (tN (Qg hu (Qp rfl rfl ?_))))))
 refine Qg ?_ (Kq K h)
 exact tq rfl rfl
 refine dP rfl (.n l rfl) Dq i3 rfl (dL 0 rfl (.n l rfl) ul3 rfl (dP rfl (.n l rfl) ul107 i28 rfl (dP rfl (.n l rfl) Wn i26 rfl (dL 2 rfl (.n l rfl) Jm rfl (dN x0.Auto.States Qh rfl (.n l rfl) Jm rfl (dI rfl (.n l rfl) rfl ?_))))))
 refine dZ rfl (.f rfl) l rfl (dV rfl rfl ?_)
 rcases Qd h with ⟨a, h⟩ | ⟨a, h⟩
 refine dO a rfl rfl (dO a rfl rfl (dO a rfl rfl (dO a rfl rfl (dO a rfl rfl (dO a rfl rfl (dO a rfl rfl ?_))))))
 refine dO a rfl rfl (dO a rfl rfl (dO a rfl rfl (dO a rfl rfl (dO a rfl rfl (dO a rfl rfl (dY rfl (.f rfl) a rfl ?_))))))
 refine dF [0,1,3,7,15,31,15,79,207,463,1023,2047,4095,8191,16383,32767,8191,73727,204799,8191,532479,2039807,4136959,8331263,16719871,33554431,67108863] Q0 rfl (by kernel_rfl) (fun u hu => (tN (Qg hu (Qp rfl rfl ?_))))
 refine Qg ?_ (Kq K h)
 exact tq rfl rfl
 refine dP rfl (.n a rfl) Dq i52 rfl (dL 0 rfl (.n a rfl) B1 rfl (dN x2.Ops (cI .u8) rfl (.n a rfl) B1 rfl (dP rfl (.n a rfl) ul107 i28 rfl (dP rfl (.n a rfl) Wn i26 rfl (dL 2 rfl (.n a rfl) Jm rfl (dP rfl (.n a rfl) Dq i3 rfl ?_))))))
 refine dL 0 rfl (.n a rfl) ul3 rfl ?_
 obtain ⟨b, w, h⟩ := bind_some h
 refine dX x0.Auto.States Qh rfl (.n a rfl) Jm i51 w rfl (dQ rfl (.n a rfl) Hx i38 rfl (dR rfl (.n a rfl) Zs rfl (dN b.R (cI .i64) rfl (.n a rfl) Zs rfl (dI rfl (.n a rfl) rfl (dZ rfl (.f rfl) a rfl (dF [0,1,3,7,15,31,15,79,207,463,1023,2047,4095,8191,16383,32767,8191,73727,204799,8191,532479,2039807,4136959,8331263,16719871,33554431,67108863] Q0 rfl (by kernel_rfl) (fun u hu => (tN (Qg hu ?_)))))))))
 rcases Qd h with ⟨q, h⟩ | ⟨q, h⟩
 refine Qp rfl q ?_
 refine Qg ?_ (Kq K h)
 exact tq rfl rfl
 refine Qo rfl q (T.skip (tN (T.seq (sR (Qs (oP Dq i52 rfl (oL 0 B1 rfl (oU x2.Ops (cI .u8) B1 rfl ?_))))))))
 refine mw rfl (nL (tN (T.block (T.loop ?_))))
 refine Qe ?_ (Qcy K K x2 (x2.Ops.length : Int) (0:Int) x0 x1 j m g h)
 exact tr rfl (.c (.s (.s .z)) (.c (.s .z) (.c .z (.n _))))
abbrev auto_checker_state_1_q (bx1 bx2 : Nat) (x1 : Zh) (x2 : Qa) (r : Bool) : ES := Jq tp ff92 (fun y t => ∃ γ : Nat → Value, y = (.bool r) ∧ t = [(W9 bx1 x1.Auto.Split.Of x1.Auto.Split.Many x1.Auto.Counts x1.Auto.States), (J5 bx2 x2.L x2.R x2.Rule x2.Next)])
theorem Qcx (K : Nat) {x0 : Qf} {x1 : Zh} {x2 : Qa} {bx1 bx2 : Nat} {r : Bool} (h : Gf K x0 x1 x2 = some r) : Jb tp 92 [.agg [.int .i64 x0.To, .sl false 1 (mU x0.Ops)], .ptr bx1 0, .ptr bx2 0] [(W9 bx1 x1.Auto.Split.Of x1.Auto.Split.Many x1.Auto.Counts x1.Auto.States), (J5 bx2 x2.L x2.R x2.Rule x2.Next)] (fun γ => (.bool r)) (fun γ => [(W9 bx1 x1.Auto.Split.Of x1.Auto.Split.Many x1.Auto.Counts x1.Auto.States), (J5 bx2 x2.L x2.R x2.Rule x2.Next)]) := by
 refine CI 10 fu92 rfl ?_
 unfold Gf at h
 refine sR (Qs (sp rfl (Q9 rfl (dk rfl) rfl (fun b => (aw rfl (nL (tN (sR (Qs (oA 1 ((Zp.dc 256 .u8 x1.Auto.Split.Of) ++ (([.int .i64 x1.Auto.Split.Many, .sl false 2 (mA x1.Auto.Counts), .sl false 4 (x1.Auto.States.map Qh)] : List DC))) ul107 i107 rfl (oA 2 [.sl false 1 (mI x2.L), .sl false 1 (mI x2.R), .sl false 1 (mI x2.Rule), .sl false 1 (x2.Next.map (cL 2 Qn))] Hx i51 rfl (oA 0 [.int .i64 x0.To, .sl false 1 (mU x0.Ops)] Dq i54 rfl ?_))))))))))))
 obtain ⟨c, a, h⟩ := bind_some h
 refine oH fu93 (Zm.nil (Qgk K a)) rfl (oT rfl (aw rfl (nL (tN (T.ret (Q6 (.cons _ _ _ _ (.tmp 4 _ rfl) .nil) (.cons 1 rfl (.cons 1 rfl (.nil _))) (by cases h; exact ⟨gl [], rfl, rfl⟩)))))))
abbrev T8 (bx1c0 bx1c1 : Nat) (x1c0 : Zh) (x1c1 : Qa) (r : Int) : ES := Jq tp ff117 (fun y t => ∃ γ : Nat → Value, y = (.int .i64 r) ∧ t = [(W9 bx1c0 x1c0.Auto.Split.Of x1c0.Auto.Split.Many x1c0.Auto.Counts x1c0.Auto.States), (J5 bx1c1 x1c1.L x1c1.R x1c1.Rule x1c1.Next)])
abbrev Pt (bx1c0 bx1c1 : Nat) (x1c0 : Zh) (x1c1 : Qa) (r : Int) : ES := fT 19 [1,1] ff117 (T8 bx1c0 bx1c1 x1c0 x1c1 r)
abbrev Nc (bx1c0 bx1c1 : Nat) (x1c0 : Zh) (x1c1 : Qa) (r : Int) : ES := Qz 0 ((Pt bx1c0 bx1c1 x1c0 x1c1 r))
theorem Pu {r : Int} (K bx1c0 bx1c1 : Nat) (x1c0 : Zh) (x1c1 : Qa) : ∀ (k : Nat), ∀ (x0 : List Qf) (a b : Int) (x1c0 : Zh) (x1c1 : Qa) (flx0 : Bool), Y8 K k x0 a b x1c0 x1c1 = some r → TL tp 19 (ca [1,0,1,0,0] ff117) ⟨[(0, .sl flx0 2 (x0.map Qn)), (1, .c (.ex (.func (.func 92) #[] #[.pointer (some ⟨bx1c0, 0, none⟩), .pointer (some ⟨bx1c1, 0, none⟩)]))), (7, .int .i64 a), (8, .int .i64 b)], [(W9 bx1c0 x1c0.Auto.Split.Of x1c0.Auto.Split.Many x1c0.Auto.Counts x1c0.Auto.States), (J5 bx1c1 x1c1.L x1c1.R x1c1.Rule x1c1.Next)]⟩ (Nc bx1c0 bx1c1 x1c0 x1c1 r) := by
 intro k
 induction k with
 | zero =>
  intro x0 a b x1c0 x1c1 flx0 h
  exact zn h
 | succ k ih =>
  intro x0 a b x1c0 x1c1 flx0 h
  rw [Y8] at h
  refine Q7 (sR (Qs (oI rfl (nL (tN (T.seq ?_))))))
  rcases Qd h with ⟨g, h⟩ | ⟨g, h⟩
  refine Qp rfl g (T.skip (tN (T.seq (T.block (sR (Qs (mw rfl (aw rfl ?_))))))))
  refine nL (tN (sR (Qs ?_)))
  iterate 3 refine mw rfl ?_
  obtain ⟨j, l, h⟩ := bind_some h
  refine oX x0 Qn Rs i54 l rfl (oJ Dq i54 rfl ?_)
  obtain ⟨p, m, h⟩ := bind_some h
  refine sp rfl (Rr (f := 92) (vs := [.pointer (some ⟨bx1c0, 0, none⟩), .pointer (some ⟨bx1c1, 0, none⟩)]) rfl rfl (dk rfl) fu92 rfl rfl (Zc (is := [0, 1]) (ph := []) rfl (dk rfl) fu92 rfl rfl (Zw.cons rfl (Zw.cons rfl (Zw.cons rfl Zw.nil))) (Qcx K (bx1 := bx1c0) (bx2 := bx1c1) m) (.cons rfl rfl (.cons rfl rfl (.nil))) (fun _ => rfl) (fun q => (nm (.c (.c (.n))) (nL (tN ?_))))))
  rcases Qd h with ⟨i, h⟩ | ⟨i, h⟩
  refine Qp rfl i (sR (Qs (mw rfl (aw rfl (nL (tN (T.ret (Q1 (Qr (Qr (Q1 (Qr (Q6 (.cons _ _ _ _ (.tmp 4 _ rfl) .nil) (.cons 0 rfl (.cons 0 rfl (.nil _))) (by cases h; exact ⟨gl [], rfl, rfl⟩))))))))))))))
  refine Qo rfl i (T.skip (Qk (tN (Qs (oI rfl (mw rfl (nL (tN ?_))))))))
  refine Qe ?_ (ih x0 a (wI (b + (1:Int))) x1c0 x1c1 flx0 h)
  exact tq rfl rfl
  refine Qo rfl g (T.exit (Ql (Ql (Qu (tN (sR (Qs (aw rfl (nL (tN (T.ret (Q6 (.cons _ _ _ _ (.tmp 4 _ rfl) .nil) (.cons 0 rfl (.cons 0 rfl (.nil _))) (by cases h; exact ⟨gl [], rfl, rfl⟩)))))))))))))
theorem T9 (K : Nat) {x0 : List Qf} {x1c0 : Zh} {x1c1 : Qa} {flx0 : Bool} {bx1c0 bx1c1 : Nat} {r : Int} (h : Hf K x0 x1c0 x1c1 = some r) : Jb tp 117 [.sl flx0 2 (x0.map Qn), .c (.ex (.func (.func 92) #[] #[.pointer (some ⟨bx1c0, 0, none⟩), .pointer (some ⟨bx1c1, 0, none⟩)]))] [(W9 bx1c0 x1c0.Auto.Split.Of x1c0.Auto.Split.Many x1c0.Auto.Counts x1c0.Auto.States), (J5 bx1c1 x1c1.L x1c1.R x1c1.Rule x1c1.Next)] (fun γ => (.int .i64 r)) (fun γ => [(W9 bx1c0 x1c0.Auto.Split.Of x1c0.Auto.Split.Many x1c0.Auto.Counts x1c0.Auto.States), (J5 bx1c1 x1c1.L x1c1.R x1c1.Rule x1c1.Next)]) := by
 refine CI 19 fu117 rfl ?_
 unfold Hf at h
 refine sR (Qs (aw rfl (nL (tN (T.seq (sR (Qs (mw rfl (oU x0 Qn Rs rfl ?_)))))))))
 refine mw rfl (nL (tN (T.block (T.loop ?_))))
 refine Qe ?_ (Pu K bx1c0 bx1c1 x1c0 x1c1 K x0 (x0.length : Int) (0:Int) x1c0 x1c1 flx0 h)
 exact tq rfl rfl
abbrev slices_ContainsFunc_Move_q (bx1c0 bx1c1 : Nat) (x1c0 : Zh) (x1c1 : Qa) (r : Bool) : ES := Jq tp ff91 (fun y t => ∃ γ : Nat → Value, y = (.bool r) ∧ t = [(W9 bx1c0 x1c0.Auto.Split.Of x1c0.Auto.Split.Many x1c0.Auto.Counts x1c0.Auto.States), (J5 bx1c1 x1c1.L x1c1.R x1c1.Rule x1c1.Next)])
theorem Pv (K : Nat) {x0 : List Qf} {x1c0 : Zh} {x1c1 : Qa} {flx0 : Bool} {bx1c0 bx1c1 : Nat} {r : Bool} (h : Uh K x0 x1c0 x1c1 = some r) : Jb tp 91 [.sl flx0 2 (x0.map Qn), .c (.ex (.func (.func 92) #[] #[.pointer (some ⟨bx1c0, 0, none⟩), .pointer (some ⟨bx1c1, 0, none⟩)]))] [(W9 bx1c0 x1c0.Auto.Split.Of x1c0.Auto.Split.Many x1c0.Auto.Counts x1c0.Auto.States), (J5 bx1c1 x1c1.L x1c1.R x1c1.Rule x1c1.Next)] (fun γ => (.bool r)) (fun γ => [(W9 bx1c0 x1c0.Auto.Split.Of x1c0.Auto.Split.Many x1c0.Auto.Counts x1c0.Auto.States), (J5 bx1c1 x1c1.L x1c1.R x1c1.Rule x1c1.Next)]) := by
 refine CI 9 fu91 rfl ?_
 unfold Uh at h
 refine sR (Qs (aw rfl (nL (tN (sR (Qs (mw rfl (mw rfl ?_))))))))
 obtain ⟨b, a, h⟩ := bind_some h
 refine sp rfl (Zc (is := [0, 1]) (ph := []) rfl (dk rfl) fu117 rfl rfl (Zw.cons rfl (Zw.cons rfl Zw.nil)) (T9 K (flx0 := flx0) (bx1c0 := bx1c0) (bx1c1 := bx1c1) a) (.cons rfl rfl (.cons rfl rfl (.nil))) (fun _ => rfl) (fun f => (nm (.c (.c (.n))) (oI rfl (aw rfl (nL (tN (T.ret (Q6 (.cons _ _ _ _ (.tmp 4 _ rfl) .nil) (.cons 0 rfl (.cons 0 rfl (.nil _))) (by cases h; exact ⟨gl [], rfl, rfl⟩))))))))))
abbrev I9 (r : Bool) : ES := Jq tp ff55 (fun y t => y = (.bool r) ∧ t = [])
abbrev Tw (r : Bool) : ES := fT 79 [1,1,1] ff55 (I9 r)
abbrev Sr (r : Bool) : ES := fT 79 [1,1,1,1] ff55 (I9 r)
abbrev Mc (r : Bool) : ES := Qz 0 ((Sr r))
abbrev Pm (r : Bool) : ES := fL 79 [1,1,1,0,1,0,0] ff55 (Mc r)
abbrev Fb (r : Bool) : ES := fT 79 [1,1,1,0,1,0,0,1,1,1] ff55 (Pm r)
abbrev Cf (r : Bool) : ES := Qz 1 ((Fb r))
abbrev C8 (r : Bool) : ES := fT 79 [1,1,1,0,1,0,0,1,1,0,0,1,1] ff55 (Cf r)
theorem Up {r : Bool} (K : Nat) (h : Z9 K = some r) : T tp 79 (ca [1,1,0,1,0] ff55) ⟨[], []⟩ (Tw r) := by
 unfold Z9 at h
 refine sR (Qs (aw rfl (nL (tN (T.ret (Qr (fd rfl (by cases h; exact ⟨rfl, rfl⟩))))))))
theorem Ln {r : Bool} (K : Nat) (h : Xk K = some r) : T tp 79 (ca [1,1,1,0,1,0,0,1,1,0,0,1,0,1,0] ff55) ⟨[], []⟩ (C8 r) := by
 unfold Xk at h
 refine sR (Qs (aw rfl (nL (tN (T.ret (Qr (Q1 (Qr (Qr (Q1 (Qr (fd rfl (by cases h; exact ⟨rfl, rfl⟩)))))))))))))
theorem Qav {r : Bool} (K : Nat) : ∀ (k : Nat), ∀ (x1 : Qa) (l m : Int) (x0 : Zh) (g j : Nat), Ve K k x1 l m x0 = some r → TL tp 79 (ca [1,1,1,0,1,0,0] ff55) ⟨[(2, .ptr g 0), (3, .ptr j 0), (45, .sl false 1 (x1.Next.map (cL 2 Qn))), (46, .int .i64 l), (47, .int .i64 m)], [(W9 g x0.Auto.Split.Of x0.Auto.Split.Many x0.Auto.Counts x0.Auto.States), (J5 j x1.L x1.R x1.Rule x1.Next)]⟩ (Mc r) := by
 intro k
 induction k with
 | zero =>
  intro x1 l m x0 g j h
  exact zn h
 | succ k ih =>
  intro x1 l m x0 g j h
  rw [Ve] at h
  refine Q7 (sR (Qs (oI rfl (nL (tN (T.seq ?_))))))
  rcases Qd h with ⟨p, h⟩ | ⟨p, h⟩
  refine Qp rfl p (T.skip (tN (T.seq (T.block (sR (Qs (mw rfl ?_)))))))
  obtain ⟨u, aa, h⟩ := bind_some h
  refine oX x1.Next (cL 2 Qn) T0 i55 aa rfl (oR Rs rfl (aw rfl (aw rfl (nL (tN (T.seq (sR (Qs ?_))))))))
  refine oP Hx i38 rfl (oL 1 Zs rfl (mw rfl ?_))
  obtain ⟨w, y, h⟩ := bind_some h
  refine oX x1.Rule (cI .i64) Zs i3 y rfl (oR ul3 rfl (oI rfl (mw rfl ?_)))
  rcases Qd h with ⟨b, h⟩ | ⟨b, h⟩
  refine pf rfl b (pf rfl b (pf rfl b (pf rfl b (pf rfl b (pf rfl b (oY b rfl ?_))))))
  refine mw rfl (pf rfl rfl (pf rfl rfl (pf rfl rfl (pf rfl rfl (pf rfl rfl (pf rfl rfl ?_))))))
  refine pf rfl rfl (oY rfl rfl (nL (tN (Qp rfl rfl ?_))))
  refine Qg ?_ (Ln K h)
  exact tq rfl rfl
  refine sn rfl b (Vf rfl (dk rfl) Hx rfl i38 (by decide) rfl (sn rfl b (Yb (i := 1) rfl (dk rfl) Zs rfl rfl rfl rfl (sn rfl b (OpT.move rfl (dk rfl) rfl (sn rfl b (Hq (xs := x1.Rule) (f := (cI .i64)) (v := w) rfl (dk rfl) Zs i3 rfl rfl y (sn rfl b (Lq rfl (dk rfl) ul3 rfl rfl rfl (sn rfl b (Z1 rfl rfl (dk rfl) rfl rfl (oZ b rfl ?_))))))))))))
  refine mw rfl ?_
  rcases Qd h with ⟨a, h⟩ | ⟨a, h⟩
  refine pf rfl a (pf rfl a (pf rfl a (pf rfl a (pf rfl a (pf rfl a (pf rfl a ?_))))))
  refine oY a rfl (nL (tN (Qp rfl rfl ?_)))
  refine Qg ?_ (Ln K h)
  exact tq rfl rfl
  refine sn rfl a (OpT.move rfl (dk rfl) rfl (sn rfl a (Yz (xs := u) (f := Qn) rfl (dk rfl) Rs rfl (sn rfl a (Vf rfl (dk rfl) ul107 rfl i28 (by decide) rfl (sn rfl a (Vf rfl (dk rfl) Wn rfl i24 (by decide) rfl (sn rfl a (Vf rfl (dk rfl) ul24 rfl i3 (by decide) rfl (sn rfl a (Yb (i := 0) rfl (dk rfl) ul3 rfl rfl rfl rfl (sn rfl a (Z1 rfl rfl (dk rfl) rfl rfl ?_)))))))))))))
  refine oZ a rfl (nL (tN ?_))
  rcases Qd h with ⟨q, h⟩ | ⟨q, h⟩
  refine Qp rfl q ?_
  refine Qg ?_ (Ln K h)
  exact tq rfl rfl
  refine Qo rfl q (T.skip (tN (sR (Qs (mw rfl (sp rfl (OpT.makeFunc (vs := [.pointer (some ⟨g, 0, none⟩), .pointer (some ⟨j, 0, none⟩)]) rfl (dk rfl) rfl ?_)))))))
  obtain ⟨ac, ab, h⟩ := bind_some h
  refine sp rfl (Zc (is := [0, 1]) (ph := []) rfl (dk rfl) fu91 rfl rfl (Zw.cons rfl (Zw.cons rfl Zw.nil)) (Pv K (flx0 := false) (bx1c0 := g) (bx1c1 := j) ab) (.cons rfl rfl (.cons rfl rfl (.nil))) (fun _ => rfl) (fun ad => (nm (.c (.c (.n))) (nL (tN ?_)))))
  rcases Qd h with ⟨s, h⟩ | ⟨s, h⟩
  refine Qp rfl s (sR (Qs (aw rfl (nL (tN (T.ret (Q1 (Qr (Qr (Q1 (Qr (fd rfl (by cases h; exact ⟨rfl, rfl⟩)))))))))))))
  refine Qo rfl s (T.skip (Qk (tN (Qs (oI rfl (mw rfl (nL (tN ?_))))))))
  refine Qe ?_ (ih x1 l (wI (m + (1:Int))) x0 g j h)
  exact tq rfl rfl
  refine Qo rfl p (T.exit (Ql (Ql (Qu (tN (sR (Qs (aw rfl (nL (tN (T.ret (fd rfl (by cases h; exact ⟨rfl, rfl⟩)))))))))))))
theorem Qeu (K : Nat) {x0 : Zh} {x1 : Qa} {r : Bool} (h : Hl K x0 x1 = some r) : Zm tp 55 [.agg ((Zp.dc 256 .u8 x0.Auto.Split.Of) ++ (([.int .i64 x0.Auto.Split.Many, .sl false 2 (mA x0.Auto.Counts), .sl false 4 (x0.Auto.States.map Qh)] : List DC))), .agg [.sl false 1 (mI x1.L), .sl false 1 (mI x1.R), .sl false 1 (mI x1.Rule), .sl false 1 (x1.Next.map (cL 2 Qn))]] [] (.bool r) := by
 refine CI 79 fu55 rfl ?_
 unfold Hl at h
 refine sR (Qs (sp rfl (Q9 rfl (dk rfl) rfl (fun l => (sp rfl (Q9 rfl (dk rfl) rfl (fun m => (aw rfl (nL (tN (sR (Qs (oP Hx i38 rfl (oL 0 Zs rfl ?_))))))))))))))
 refine oU x1.R (cI .i64) Zs rfl ?_
 obtain ⟨v, p, h⟩ := bind_some h
 refine oH fu89 (Zm.nil (auto_Codes_T K p)) rfl (aw rfl (nL (tN (T.seq (sR (Qs (mw rfl (oI rfl ?_))))))))
 refine mw rfl ?_
 rcases Qd h with ⟨b, h⟩ | ⟨b, h⟩
 refine pf rfl b (pf rfl b (pf rfl b (pf rfl b (pf rfl b (oY b rfl (mw rfl ?_))))))
 refine pf rfl rfl (pf rfl rfl (pf rfl rfl (pf rfl rfl (pf rfl rfl (oY rfl rfl (mw rfl ?_))))))
 refine pf rfl rfl (pf rfl rfl (pf rfl rfl (pf rfl rfl (oY rfl rfl (mw rfl (pf rfl rfl ?_))))))
 refine pf rfl rfl (pf rfl rfl (pf rfl rfl (pf rfl rfl (pf rfl rfl (pf rfl rfl (pf rfl rfl ?_))))))
 refine oY rfl rfl (nL (tN (Qp rfl rfl ?_)))
 refine Qg ?_ (Up K h)
 exact tq rfl rfl
 refine sn rfl b (Vf rfl (dk rfl) Hx rfl i38 (by decide) rfl (sn rfl b (Yb (i := 0) rfl (dk rfl) Zs rfl rfl rfl rfl (sn rfl b (Yz (xs := x1.Rule) (f := (cI .i64)) rfl (dk rfl) Zs rfl (sn rfl b (OpT.move rfl (dk rfl) rfl (sn rfl b (Z1 rfl rfl (dk rfl) rfl rfl (oZ b rfl (mw rfl ?_)))))))))))
 rcases Qd h with ⟨d, h⟩ | ⟨d, h⟩
 refine pf rfl d (pf rfl d (pf rfl d (pf rfl d (pf rfl d (oY d rfl (mw rfl ?_))))))
 refine pf rfl rfl (pf rfl rfl (pf rfl rfl (pf rfl rfl (oY rfl rfl (mw rfl (pf rfl rfl ?_))))))
 refine pf rfl rfl (pf rfl rfl (pf rfl rfl (pf rfl rfl (pf rfl rfl (pf rfl rfl (pf rfl rfl ?_))))))
 refine oY rfl rfl (nL (tN (Qp rfl rfl ?_)))
 refine Qg ?_ (Up K h)
 exact tq rfl rfl
 refine sn rfl d (Vf rfl (dk rfl) Hx rfl i49 (by decide) rfl (sn rfl d (Yb (i := 0) rfl (dk rfl) T0 rfl rfl rfl rfl (sn rfl d (Yz (xs := x1.Next) (f := (cL 2 Qn)) rfl (dk rfl) T0 rfl (sn rfl d (OpT.move rfl (dk rfl) rfl (sn rfl d (Z1 rfl rfl (dk rfl) rfl rfl (oZ d rfl (mw rfl ?_)))))))))))
 rcases Qd h with ⟨g, h⟩ | ⟨g, h⟩
 refine pf rfl g (pf rfl g (pf rfl g (pf rfl g (oY g rfl (mw rfl (pf rfl rfl ?_))))))
 refine pf rfl rfl (pf rfl rfl (pf rfl rfl (pf rfl rfl (pf rfl rfl (pf rfl rfl (pf rfl rfl ?_))))))
 refine oY rfl rfl (nL (tN (Qp rfl rfl ?_)))
 refine Qg ?_ (Up K h)
 exact tq rfl rfl
 refine sn rfl g (Vf rfl (dk rfl) Hx rfl i38 (by decide) rfl (sn rfl g (Yb (i := 0) rfl (dk rfl) Zs rfl rfl rfl rfl ?_)))
 obtain ⟨w, q, h⟩ := bind_some h
 refine sn rfl g (Uv rfl (dk rfl) fu90 rfl rfl (Zw.cons rfl (Zw.cons rfl Zw.nil)) (Zm.nil (Qi1 K (flx0 := false) q)) (sn rfl g (OpT.not rfl (dk rfl) rfl (oZ g rfl (mw rfl ?_)))))
 rcases Qd h with ⟨a, h⟩ | ⟨a, h⟩
 refine pf rfl a (pf rfl a (pf rfl a (pf rfl a (pf rfl a (pf rfl a (pf rfl a ?_))))))
 refine pf rfl a (oY a rfl (nL (tN (Qp rfl rfl ?_))))
 refine Qg ?_ (Up K h)
 exact tq rfl rfl
 refine sn rfl a (Vf rfl (dk rfl) Hx rfl i38 (by decide) rfl (sn rfl a (Yb (i := 0) rfl (dk rfl) Zs rfl rfl rfl rfl (sn rfl a (Vf rfl (dk rfl) ul107 rfl i28 (by decide) rfl (sn rfl a (Vf rfl (dk rfl) Wn rfl i25 (by decide) rfl (sn rfl a (Yb (i := 1) rfl (dk rfl) Qiu rfl rfl rfl rfl (sn rfl a (Yz (xs := x0.Auto.Counts) (f := (Xf.dc .i64)) rfl (dk rfl) Qiu rfl ?_)))))))))))
 obtain ⟨y, u, h⟩ := bind_some h
 refine sn rfl a (Uv rfl (dk rfl) fu90 rfl rfl (Zw.cons rfl (Zw.cons rfl Zw.nil)) (Zm.nil (Qi1 K (flx0 := false) u)) (sn rfl a (OpT.not rfl (dk rfl) rfl (oZ a rfl (nL (tN ?_))))))
 rcases Qd h with ⟨j, h⟩ | ⟨j, h⟩
 refine Qp rfl j ?_
 refine Qg ?_ (Up K h)
 exact tq rfl rfl
 refine Qo rfl j (T.skip (tN (T.seq (sR (Qs (oP Hx i49 rfl (oL 0 T0 rfl (oU x1.Next (cL 2 Qn) T0 rfl ?_))))))))
 refine mw rfl (nL (tN (T.block (T.loop ?_))))
 refine Qe ?_ (Qav K K x1 (x1.Next.length : Int) (0:Int) x0 l m h)
 exact tr rfl (.c (.s .z) (.c .z (.n _)))
abbrev auto_Right_1_q (bx1 : Nat) (x1 : Zh) (r : Bool) : ES := Jq tp ff54 (fun y t => ∃ γ : Nat → Value, y = (.bool r) ∧ t = [(W9 bx1 x1.Auto.Split.Of x1.Auto.Split.Many x1.Auto.Counts x1.Auto.States)])
theorem auto_Right_1_T (K : Nat) {x0 : Qa} {x1 : Zh} {bx1 : Nat} {r : Bool} (h : Rq K x0 x1 = some r) : Jb tp 54 [.agg [.sl false 1 (mI x0.L), .sl false 1 (mI x0.R), .sl false 1 (mI x0.Rule), .sl false 1 (x0.Next.map (cL 2 Qn))], .ptr bx1 0] [(W9 bx1 x1.Auto.Split.Of x1.Auto.Split.Many x1.Auto.Counts x1.Auto.States)] (fun γ => (.bool r)) (fun γ => [(W9 bx1 x1.Auto.Split.Of x1.Auto.Split.Many x1.Auto.Counts x1.Auto.States)]) := by
 refine CI 8 fu54 rfl ?_
 unfold Rq at h
 refine sR (Qs (sp rfl (Q9 rfl (dk rfl) rfl (fun b => (aw rfl (nL (tN (sR (Qs (oA 1 ((Zp.dc 256 .u8 x1.Auto.Split.Of) ++ (([.int .i64 x1.Auto.Split.Many, .sl false 2 (mA x1.Auto.Counts), .sl false 4 (x1.Auto.States.map Qh)] : List DC))) ul107 i107 rfl (oA 0 [.sl false 1 (mI x0.L), .sl false 1 (mI x0.R), .sl false 1 (mI x0.Rule), .sl false 1 (x0.Next.map (cL 2 Qn))] Hx i51 rfl ?_)))))))))))
 obtain ⟨c, a, h⟩ := bind_some h
 refine oH fu55 (Zm.nil (Qeu K a)) rfl (oT rfl (aw rfl (nL (tN (T.ret (Q6 (.cons _ _ _ _ (.tmp 3 _ rfl) .nil) (.cons 1 rfl (.nil _)) (by cases h; exact ⟨gl [], rfl, rfl⟩)))))))
abbrev S3 (bx1c0 : Nat) (x1c0 : Zh) (r : Int) : ES := Jq tp ff88 (fun y t => ∃ γ : Nat → Value, y = (.int .i64 r) ∧ t = [(W9 bx1c0 x1c0.Auto.Split.Of x1c0.Auto.Split.Many x1c0.Auto.Counts x1c0.Auto.States)])
abbrev Ok (bx1c0 : Nat) (x1c0 : Zh) (r : Int) : ES := fT 19 [1,1] ff88 (S3 bx1c0 x1c0 r)
abbrev Ih (bx1c0 : Nat) (x1c0 : Zh) (r : Int) : ES := Qz 0 ((Ok bx1c0 x1c0 r))
theorem Ol {r : Int} (K bx1c0 : Nat) (x1c0 : Zh) : ∀ (k : Nat), ∀ (x0 : List Qa) (a b : Int) (x1c0 : Zh) (flx0 : Bool), Y1 K k x0 a b x1c0 = some r → TL tp 19 (ca [1,0,1,0,0] ff88) ⟨[(0, .sl flx0 4 (x0.map Qh)), (1, .c (.ex (.func (.func 54) #[] #[.pointer (some ⟨bx1c0, 0, none⟩)]))), (7, .int .i64 a), (8, .int .i64 b)], [(W9 bx1c0 x1c0.Auto.Split.Of x1c0.Auto.Split.Many x1c0.Auto.Counts x1c0.Auto.States)]⟩ (Ih bx1c0 x1c0 r) := by
 intro k
 induction k with
 | zero =>
  intro x0 a b x1c0 flx0 h
  exact zn h
 | succ k ih =>
  intro x0 a b x1c0 flx0 h
  rw [Y1] at h
  refine Q7 (sR (Qs (oI rfl (nL (tN (T.seq ?_))))))
  rcases Qd h with ⟨g, h⟩ | ⟨g, h⟩
  refine Qp rfl g (T.skip (tN (T.seq (T.block (sR (Qs (mw rfl (aw rfl ?_))))))))
  refine nL (tN (sR (Qs ?_)))
  iterate 3 refine mw rfl ?_
  obtain ⟨j, l, h⟩ := bind_some h
  refine oX x0 Qh Jm i51 l rfl (oJ Hx i51 rfl ?_)
  obtain ⟨p, m, h⟩ := bind_some h
  refine sp rfl (Rr (f := 54) (vs := [.pointer (some ⟨bx1c0, 0, none⟩)]) rfl rfl (dk rfl) fu54 rfl rfl (Zc (is := [0]) (ph := []) rfl (dk rfl) fu54 rfl rfl (Zw.cons rfl (Zw.cons rfl Zw.nil)) (auto_Right_1_T K (bx1 := bx1c0) m) (.cons rfl rfl (.nil)) (fun _ => rfl) (fun q => (nm (.c (.n)) (nL (tN ?_))))))
  rcases Qd h with ⟨i, h⟩ | ⟨i, h⟩
  refine Qp rfl i (sR (Qs (mw rfl (aw rfl (nL (tN (T.ret (Q1 (Qr (Qr (Q1 (Qr (Q6 (.cons _ _ _ _ (.tmp 4 _ rfl) .nil) (.cons 0 rfl (.nil _)) (by cases h; exact ⟨gl [], rfl, rfl⟩))))))))))))))
  refine Qo rfl i (T.skip (Qk (tN (Qs (oI rfl (mw rfl (nL (tN ?_))))))))
  refine Qe ?_ (ih x0 a (wI (b + (1:Int))) x1c0 flx0 h)
  exact tq rfl rfl
  refine Qo rfl g (T.exit (Ql (Ql (Qu (tN (sR (Qs (aw rfl (nL (tN (T.ret (Q6 (.cons _ _ _ _ (.tmp 4 _ rfl) .nil) (.cons 0 rfl (.nil _)) (by cases h; exact ⟨gl [], rfl, rfl⟩)))))))))))))
theorem S4 (K : Nat) {x0 : List Qa} {x1c0 : Zh} {flx0 : Bool} {bx1c0 : Nat} {r : Int} (h : Wv K x0 x1c0 = some r) : Jb tp 88 [.sl flx0 4 (x0.map Qh), .c (.ex (.func (.func 54) #[] #[.pointer (some ⟨bx1c0, 0, none⟩)]))] [(W9 bx1c0 x1c0.Auto.Split.Of x1c0.Auto.Split.Many x1c0.Auto.Counts x1c0.Auto.States)] (fun γ => (.int .i64 r)) (fun γ => [(W9 bx1c0 x1c0.Auto.Split.Of x1c0.Auto.Split.Many x1c0.Auto.Counts x1c0.Auto.States)]) := by
 refine CI 19 fu88 rfl ?_
 unfold Wv at h
 refine sR (Qs (aw rfl (nL (tN (T.seq (sR (Qs (mw rfl (oU x0 Qh Jm rfl ?_)))))))))
 refine mw rfl (nL (tN (T.block (T.loop ?_))))
 refine Qe ?_ (Ol K bx1c0 x1c0 K x0 (x0.length : Int) (0:Int) x1c0 flx0 h)
 exact tq rfl rfl
abbrev Qj5 (bx1c0 : Nat) (x1c0 : Zh) (r : Bool) : ES := Jq tp ff53 (fun y t => ∃ γ : Nat → Value, y = (.bool r) ∧ t = [(W9 bx1c0 x1c0.Auto.Split.Of x1c0.Auto.Split.Many x1c0.Auto.Counts x1c0.Auto.States)])
theorem Om (K : Nat) {x0 : List Qa} {x1c0 : Zh} {flx0 : Bool} {bx1c0 : Nat} {r : Bool} (h : V8 K x0 x1c0 = some r) : Jb tp 53 [.sl flx0 4 (x0.map Qh), .c (.ex (.func (.func 54) #[] #[.pointer (some ⟨bx1c0, 0, none⟩)]))] [(W9 bx1c0 x1c0.Auto.Split.Of x1c0.Auto.Split.Many x1c0.Auto.Counts x1c0.Auto.States)] (fun γ => (.bool r)) (fun γ => [(W9 bx1c0 x1c0.Auto.Split.Of x1c0.Auto.Split.Many x1c0.Auto.Counts x1c0.Auto.States)]) := by
 refine CI 9 fu53 rfl ?_
 unfold V8 at h
 refine sR (Qs (aw rfl (nL (tN (sR (Qs (mw rfl (mw rfl ?_))))))))
 obtain ⟨b, a, h⟩ := bind_some h
 refine sp rfl (Zc (is := [0]) (ph := []) rfl (dk rfl) fu88 rfl rfl (Zw.cons rfl (Zw.cons rfl Zw.nil)) (S4 K (flx0 := flx0) (bx1c0 := bx1c0) a) (.cons rfl rfl (.nil)) (fun _ => rfl) (fun f => (nm (.c (.n)) (oI rfl (aw rfl (nL (tN (T.ret (Q6 (.cons _ _ _ _ (.tmp 4 _ rfl) .nil) (.cons 0 rfl (.nil _)) (by cases h; exact ⟨gl [], rfl, rfl⟩))))))))))
end Go.Rv

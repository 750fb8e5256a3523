/- Each function computes what its plain text says: printed by a program of ours. -/
import Derived.Test.YtcmfaclkgdmpbaaGreatDoorRgW3
namespace Go.Rv
open Go.Proofs
set_option maxRecDepth 100000
set_option maxHeartbeats 4000000
set_option linter.unusedVariables false
abbrev P7 (r : Qn × Int) : ES := Jz tp ff20 (fun y t => y = (.tup [.agg ((Zn.dc 256 .u8 r.1.Split.Of) ++ (([.int .i64 r.1.Split.Many, .sl false 2 (mA r.1.Counts), .sl false 4 (r.1.States.map Qf)] : List DC))), .int .i64 r.2]) ∧ t = [])
abbrev Ng (r : Qn × Int) : ES := fT 198 [1,1,1,1,1,1,1,1] ff20 (P7 r)
abbrev La (r : Qn × Int) : ES := Qz 2 ((Ng r))
abbrev E6 (r : Qn × Int) : ES := fL 198 [1,1,1,1,1,1,1,0,1,0,0] ff20 (La r)
abbrev Cr (r : Qn × Int) : ES := fT 198 [1,1,1,1,1,1,1,0,1,0,0,1,1] ff20 (E6 r)
abbrev Mn (r : Qn × Int) : ES := Qz 3 ((Cr r))
abbrev K0 (r : Qn × Int) : ES := fT 198 [1,1,1,1,1,1,1,0,1,0,0,1,0,0,1,1,1,1] ff20 (Mn r)
abbrev Ub (r : Qn × Int) : ES := Qz 4 ((K0 r))
abbrev Kc (r : Qn × Int) : ES := fL 198 [1,1,1,1,1,1,1,0,1,0,0,1,0,0,1,1,1,0,1,0,0] ff20 (Ub r)
abbrev G1 (r : Qn × Int) : ES := fT 198 [1,1,1,1,1,1,1,0,1,0,0,1,0,0,1,1,1,0,1,0,0,1,1] ff20 (Kc r)
abbrev J4 (r : Qn × Int) : ES := Qz 5 ((G1 r))
abbrev Hg (r : Qn × Int) : ES := fT 198 [1,1,1,1,1,1,1,0,1,0,0,1,0,0,1,1,1,0,1,0,0,1,0,0,1,1,1] ff20 (J4 r)
abbrev U1 (r : Qn × Int) : ES := Qz 6 ((Hg r))
abbrev Rq (r : Qn × Int) : ES := fT 198 [1,1,1,1,1] ff20 (P7 r)
abbrev Oj (r : Qn × Int) : ES := Qz 0 ((Rq r))
abbrev E7 (r : Qn × Int) (go : Int → Int → Int → Zn → (List X2) → (List Qa) → (List Int) → (List Q5) → Zn → Int → Int → (List Int) → (List X2) → (List Qa) → (List Int) → (List (List Qd)) → Option (Qn × Int)) : Prop := ∀ (a b f : Int) (g : Zn) (i : List X2) (j : List Qa) (l : List Int) (m : List Q5) (n : Zn) (p q : Int) (s : List Int) (u : List X2) (v : List Qa) (w : List Int) (y : List (List Qd)) (z : Nat) (aa ab : Value) (ac : Nat) (ad af : Value) (w4_2aa ag ai : Value), go a b f g i j l m n p q s u v w y = some r → TL tp 198 (ca [1,1,1,1,1,1,1,0,1,0,0,1,0,0,1,1,1,0,1,0,0] ff20) ⟨[(2, .ptr z 0), (4, .ptr ac 0), (7, .int .i64 a), (8, .int .i64 b), (9, .c (.ex ag)), (10, .c (.ex ai)), (11, .int .i64 f)], [(b28x9 z g (0:Int) aa ab), .arrA aa 59 2 (mA i), .arrX ab 51 4 0 (j.map Qf), (Jg ac l m ad n p af w4_2aa q), .arrA ad 3 1 (mI s), .arrA af 59 2 (mA u), .arrX w4_2aa 51 4 0 (v.map Qf), .arrA ag 3 1 (mI w), .arrA ai 55 1 (y.map (cL 2 Ql))]⟩ (Ub r)
theorem Qay {r : Qn × Int} (K : Nat) (go2 : Int → Int → Int → Zn → (List X2) → (List Qa) → (List Int) → (List Q5) → Zn → Int → Int → (List Int) → (List X2) → (List Qa) → (List Int) → (List (List Qd)) → Option (Qn × Int)) (hgo2 : E7 r go2) : ∀ (k : Nat), ∀ (af ag : Int) (ai an : Int) (y : Zn) (aa : List X2) (ab : List Qa) (ap : List Int) (aq : List Q5) (au : Zn) (av ay : Int) (az : List Int) (a0 : List X2) (a1 : List Qa) (ac : List Int) (s : List (List Qd)) (q : List Qd) (p : Nat) (v w : Value) (j : Nat) (aj al : Value) (w4_3aa ad : Value) (am a2 : Value), Yy K go2 k af ag ai an y aa ab ap aq au av ay az a0 a1 ac s q = some r → TL tp 198 (ca [1,1,1,1,1,1,1,0,1,0,0,1,0,0,1,1,1,0,1,0,0,1,0,0,1,1,0,1,0,0] ff20) ⟨[(2, .ptr p 0), (4, .ptr j 0), (7, .int .i64 af), (8, .int .i64 ag), (9, .c (.ex ad)), (10, .c (.ex am)), (11, .int .i64 ai), (12, .c (.ex a2)), (13, .int .i64 an)], [(b28x9 p y (0:Int) v w), .arrA v 59 2 (mA aa), .arrX w 51 4 0 (ab.map Qf), (Jg j ap aq aj au av al w4_3aa ay), .arrA aj 3 1 (mI az), .arrA al 59 2 (mA a0), .arrX w4_3aa 51 4 0 (a1.map Qf), .arrA ad 3 1 (mI ac), .arrA am 55 1 (s.map (cL 2 Ql)), .arrA a2 54 2 (q.map Ql)]⟩ (U1 r) := by
 intro k
 induction k with
 | zero =>
  intro af ag ai an y aa ab ap aq au av ay az a0 a1 ac s q p v w j aj al w4_3aa ad am a2 h
  exact zn h
 | succ k ih =>
  intro af ag ai an y aa ab ap aq au av ay az a0 a1 ac s q p v w j aj al w4_3aa ad am a2 h
  rw [Yy] at h
  refine Za (T.seq (sR (Qq (mw rfl (mw rfl (oK rfl (oP P0 i28 rfl ?_)))))))
  refine oP G4 i24 rfl (oP ul24 i3 rfl (oL 3 ul3 rfl (oI rfl (nL (tN ?_)))))
  rcases Qh h with ⟨a3, h⟩ | ⟨a3, h⟩
  refine Qt rfl a3 (T.skip (tN (T.seq (T.block (sR (Qq ?_))))))
  iterate 5 refine mw rfl ?_
  obtain ⟨b, a6, h⟩ := bind_some h
  refine sp rfl (Q6 (is := [3, 4, 5, 6]) (ph := []) rfl (dk rfl) fu48 rfl rfl (Zs.cons rfl (Zs.cons rfl (Zs.cons rfl (Zs.cons rfl Zs.nil)))) (Ic K (bx0 := j) (wx0c1 := aj) (wx0c2c1 := al) (wx0c2c2 := w4_3aa) a6) (.cons rfl rfl (.cons rfl rfl (.cons rfl rfl (.cons rfl rfl (.nil))))) (fun _ => rfl) (fun m => (nm (.c (.c (.c (.c (.c (.c (.c (.c (.c (.c (.n))))))))))) (sp rfl (OpT.buildSlice (elems := ([b.1] : List Qd).map Ql) rfl (dk rfl) Sg i54 (by decide) rfl (Hb rfl) rfl rfl rfl (Xh rfl) (by decide) ?_)))))
  obtain ⟨a7, h⟩ := Q9 h
  refine sp rfl (Zj (i := 9) (xs := q) (ys := [b.1]) (f := Ql) rfl (dk rfl) Sg i54 rfl rfl rfl rfl a7 (fun a5 => (aw rfl (nL (tN (sR (Qq (mw rfl (oK rfl (oP P0 i30 rfl (oL 3 ul30 rfl ?_)))))))))))
  refine oI rfl (nL (tN ?_))
  rcases Qh h with ⟨a4, h⟩ | ⟨a4, h⟩
  refine Qt rfl a4 (T.seq (Xk (dS (c := ⟨some 167, .agg ((Zn.dc 256 .u8 (Zn.mk fun _ => 0)) ++ (([.int .i64 (0:Int), .ex (.slice none 0 0), .ex (.slice none 0 0)] : List DC))), [], [], []⟩) (fun t hm => oF rfl rfl (OpT.build (l := ((Zn.dc 256 .u8 (Zn.mk fun _ => 0)) ++ (([.int .i64 (0:Int), .ex (.slice none 0 0), .ex (.slice none 0 0)] : List DC)))) rfl (dk rfl) (Zp (pl := [(0, 257), (257, 1), (258, 1)]) G4 i28 rfl) (Hb rfl) Jl rfl rfl)) rfl rfl (dV rfl rfl (dK rfl (.f rfl) rfl (dP rfl (.f rfl) P0 i30 rfl ?_))))))
  refine dL 3 rfl (.f rfl) ul30 rfl (dS (c := ⟨none, .any, [(2, .ptr p 0), (167, .agg ((Zn.dc 256 .u8 (Zn.mk fun _ => 0)) ++ (([.int .i64 (0:Int), .ex (.slice none 0 0), .ex (.slice none 0 0)] : List DC))))], [(0, (b28x9 p y (0:Int) v w))], [(0, (b28x9 p (Zn.mk fun _ => 0) (0:Int) (.slice none 0 0) (.slice none 0 0)))]⟩) (fun t hm => oF rfl rfl (Qv (i := 0) (cells' := ((Zn.oc 256 .u8 (Zn.mk fun _ => 0)) ++ (([.d (.int .i64 (0:Int)), .d (.ex (.slice none 0 0)), .d (.ex (.slice none 0 0))]:List OC)))) rfl rfl i28 hm.s0 hm.s1 rfl hm.o0 (nb rfl) rfl rfl)) rfl rfl (dA rfl (.f rfl) rfl (dF [0,0,2,6,14,1,63] Q3 rfl (by kernel_rfl) (fun u hu => (tN (Qm hu (T.ret (Q7 (Qy (Qy (Q7 (Qy (Q7 (Qy (Qy (Q7 (Qy (Q7 (Qy (Qy (Q7 (Qy (Xj (Jb 0 (l := ((Zn.dc 256 .u8 (Zn.mk fun _ => 0)) ++ (([.int .i64 (0:Int), .ex (.slice none 0 0), .ex (.slice none 0 0)] : List DC)))) (l' := ((Zn.dc 256 .u8 (Zn.mk fun _ => 0)) ++ (([.int .i64 (0:Int), .sl false 2 (([] : List X2).map (X2.dc .i64)), .sl false 4 (([] : List Qa).map Qf)] : List DC)))) rfl (.app _ (.cons (.same _) (.cons (.nil _ _) (.cons (.nil _ _) (.refl _)))))) ?_)))))))))))))))))))))))
  exact Fin.done (.cons _ _ _ _ (.cellAgg 2 28 _ 0 0 28 _ ((Zn.dc 256 .u8 (Zn.mk fun _ => 0)) ++ (([.int .i64 (0:Int), .sl false 2 (([] : List X2).map (X2.dc .i64)), .sl false 4 (([] : List Qa).map Qf)] : List DC))) _ _ 259 _ rfl rfl rfl rfl G4 rfl i28) (.cons _ _ _ _ (.tmp 3 _ rfl) .nil)) (by cases h; exact ⟨rfl, rfl⟩)
  refine Qo rfl a4 (T.skip (Qj (tN (Qq (mw rfl (oI rfl (aw rfl (nL (tN ?_)))))))))
  refine Qg ?_ (ih af ag ai (wI (an + (1:Int))) y aa ab b.2.g.First b.2.g.P b.2.a.Split.Of b.2.a.Split.Many b.2.e b.2.number b.2.a.Counts b.2.a.States ac s (q ++ [b.1]) p v w j (m 0) (m 1) (m 2) ad am a5 h)
  exact tq rfl rfl
  refine Qo rfl a3 (T.exit (Qk (Qk (Qu (tN (Qq (mw rfl (mw rfl (J8 (Zx.view 173 9 rfl rfl) (sp rfl (OpT.buildSlice (elems := ([q] : List (List Qd)).map (cL 2 Ql)) rfl (dk rfl) Qcz i55 (by decide) rfl (Hb rfl) rfl rfl rfl (Xh rfl) (by decide) ?_)))))))))))
  obtain ⟨a8, h⟩ := Q9 h
  refine sp rfl (Zj (i := 8) (xs := s) (ys := [q]) (f := (cL 2 Ql)) rfl (dk rfl) Qcz i55 rfl rfl rfl rfl a8 (fun a9 => (aw rfl (nL (Qj (tN (Qq (mw rfl (oI rfl (aw rfl ?_))))))))))
  refine nL (tN ?_)
  refine Qg ?_ (hgo2 af ag (wI (ai + (1:Int))) y aa ab ap aq au av ay az a0 a1 ac (s ++ [q]) p v w j aj al w4_3aa ad a9 h)
  exact tq rfl rfl
abbrev E8 (r : Qn × Int) (go : Int → Zn → (List X2) → (List Qa) → (List Int) → (List Q5) → Zn → Int → Int → (List Int) → (List X2) → (List Qa) → Option (Qn × Int)) : Prop := ∀ (a : Int) (b : Zn) (c : List X2) (f : List Qa) (g : List Int) (i : List Q5) (j : Zn) (l m : Int) (n : List Int) (p : List X2) (q : List Qa) (s : Nat) (u v : Value) (w : Nat) (y z w4_1aa : Value), go a b c f g i j l m n p q = some r → TL tp 198 (ca [1,1,1,1,1,1,1,0,1,0,0] ff20) ⟨[(2, .ptr s 0), (4, .ptr w 0), (7, .int .i64 a)], [(b28x9 s b (0:Int) u v), .arrA u 59 2 (mA c), .arrX v 51 4 0 (f.map Qf), (Jg w g i y j l z w4_1aa m), .arrA y 3 1 (mI n), .arrA z 59 2 (mA p), .arrX w4_1aa 51 4 0 (q.map Qf)]⟩ (La r)
theorem Qaz {r : Qn × Int} (K : Nat) (go1 : Int → Zn → (List X2) → (List Qa) → (List Int) → (List Q5) → Zn → Int → Int → (List Int) → (List X2) → (List Qa) → Option (Qn × Int)) (hgo1 : E8 r go1) : ∀ (k : Nat), E7 r (Yf K go1 k) := by
 intro k
 induction k with
 | zero =>
  intro g av ay u v w y aa ab ac ad af ag b j p ai aj al q am an w4_2aa a3 az h
  exact zn h
 | succ k ih =>
  intro g av ay u v w y aa ab ac ad af ag b j p ai aj al q am an w4_2aa a3 az h
  rw [Yf] at h
  refine Za (T.seq (sR (Qq (mw rfl (mw rfl (oI rfl (nL (tN ?_))))))))
  rcases Qh h with ⟨ap, h⟩ | ⟨ap, h⟩
  refine Qt rfl ap (T.skip (tN (T.seq (T.block (sR (Qq ?_))))))
  iterate 3 refine mw rfl ?_
  refine oK rfl (oP P0 i28 rfl (oP G4 i26 rfl (oL 3 He rfl (mw rfl ?_))))
  obtain ⟨m, a0, h⟩ := bind_some h
  refine sp rfl (Z8 (n := 6) (xs := b) (f := Qf) (old := m) rfl (dk rfl) He i51 rfl rfl rfl a0 (sp rfl (Qcx (i := 6) (xs := b) (f := Qf) (old := m) (l := [.sl false 1 (mI m.L), .sl false 1 (mI m.R), .sl false 1 (mI m.Rule), .sl false 1 (m.Next.map (cL 2 Ql))]) rfl (dk rfl) Ke rfl i51 rfl rfl (Zv a0).2 rfl rfl (mw rfl ?_))))
  obtain ⟨aq, a4, h⟩ := bind_some h
  refine sp rfl (Q6 (is := [3, 4, 5, 6]) (ph := []) rfl (dk rfl) fu47 rfl rfl (Zs.cons rfl (Zs.cons rfl (Zs.cons rfl Zs.nil))) (Ia K (bx0 := q) (wx0c1 := am) (wx0c2c1 := an) (wx0c2c2 := w4_2aa) a4) (.cons rfl rfl (.cons rfl rfl (.cons rfl rfl (.cons rfl rfl (.nil))))) (fun _ => rfl) (fun au => (nm (.c (.c (.c (.c (.c (.c (.c (.c (.c (.n)))))))))) (sp rfl (OpT.buildSlice (elems := ([aq] : List Int).map (cI .i64)) rfl (dk rfl) Z5 i3 (by decide) rfl (Hb rfl) rfl rfl rfl (Xh rfl) (by decide) ?_)))))
  obtain ⟨a5, h⟩ := Q9 h
  refine sp rfl (Zj (i := 7) (xs := j) (ys := [aq]) (f := (cI .i64)) rfl (dk rfl) Z5 i3 rfl rfl rfl rfl a5 (fun a6 => (aw rfl (nL (tN (sR (Qq (aw rfl (nL (tN (T.seq (sR (Qq ?_)))))))))))))
  refine aw rfl (nL (tN (T.block (T.loop (Qg (Y2 54 2) ?_)))))
  refine Qg ?_ (Qay K (Yf K go1 k) ih K g av ay (0:Int) u v w y aa ab ac ad af ag b (j ++ [aq]) p [] ai aj al q (au 0) (au 1) (au 2) a6 az (Tp 51) h)
  exact tr rfl (.c (.s .z) (.c (.s .z) (.c (.s .z) (.c (.s .z) (.c (.s .z) (.c (.s .z) (.c (.s .z) (.c (.s .z) (.c (.s .z) (.c .z (.n _)))))))))))
  refine Qo rfl ap (T.exit (Qk (Qk (Qu (tN (sR (Qq (mw rfl (oK rfl (oP P0 i28 rfl (oP G4 i26 rfl ?_)))))))))))
  refine oL 3 He rfl (mw rfl (mw rfl ?_))
  obtain ⟨a, a1, h⟩ := bind_some h
  refine sp rfl (Z8 (n := 6) (xs := b) (f := Qf) (old := a) rfl (dk rfl) He i51 rfl rfl rfl a1 (sp rfl (K8 rfl (dk rfl) Ke rfl i38 (by decide) rfl (J8 (Zx.view 182 7 rfl rfl) (sp rfl (Wf (i := 6) (xs := b) (f := Qf) (old := a) (new := (Qa.mk a.L a.R j a.Next)) rfl rfl i38 rfl rfl rfl (Zv a1).2 (Qf7 _) (nb rfl) rfl (nL (tN (Qq (mw rfl ?_))))))))))
  refine oK rfl (oP P0 i28 rfl (oP G4 i26 rfl (oL 3 He rfl (mw rfl (mw rfl ?_)))))
  obtain ⟨d, a2, h⟩ := bind_some h
  refine sp rfl (Z8 (n := 6) (xs := (List.set b (Int.toNat g) (Qa.mk a.L a.R j a.Next))) (f := Qf) (old := d) rfl (dk rfl) He i51 rfl rfl rfl a2 (sp rfl (K8 rfl (dk rfl) Ke rfl i49 (by decide) rfl (J8 (Zx.view 191 8 rfl rfl) (sp rfl (Wf (i := 6) (xs := (List.set b (Int.toNat g) (Qa.mk a.L a.R j a.Next))) (f := Qf) (old := d) (new := (Qa.mk d.L d.R d.Rule p)) rfl rfl i49 rfl rfl rfl (Zv a2).2 (Qf7 _) (nb rfl) rfl (nL (Qj (tN (Qq (mw rfl ?_)))))))))))
  refine oI rfl (aw rfl (nL (tN ?_)))
  refine Qg ?_ (hgo1 (wI (g + (1:Int))) u v w y aa ab ac ad af ag (List.set (List.set b (Int.toNat g) (Qa.mk a.L a.R j a.Next)) (Int.toNat g) (Qa.mk d.L d.R d.Rule p)) ai aj al q am an w4_2aa h)
  exact tq rfl rfl
theorem Qa0 {r : Qn × Int} (K : Nat) : ∀ (k : Nat), E8 r (Z6 K k) := by
 intro k
 induction k with
 | zero =>
  intro u v w y aa ab b g ac ad j a af ag ai aj al m w4_1aa h
  exact zn h
 | succ k ih =>
  intro u v w y aa ab b g ac ad j a af ag ai aj al m w4_1aa h
  rw [Z6] at h
  refine Za (T.seq (sR (Qq (mw rfl (mw rfl (oK rfl (oP P0 i28 rfl ?_)))))))
  refine oP G4 i26 rfl (oL 3 He rfl (sp rfl (J9 (i := 6) (xs := a) (f := Qf) rfl (dk rfl) He rfl rfl (oI rfl (nL (tN ?_))))))
  rcases Qh h with ⟨p, h⟩ | ⟨p, h⟩
  refine Qt rfl p (T.skip (tN (T.seq (T.block (sR (Qq (mw rfl (oK rfl ?_))))))))
  refine oP P0 i28 rfl (oP G4 i26 rfl (oL 3 He rfl (mw rfl ?_)))
  obtain ⟨q, am, h⟩ := bind_some h
  refine sp rfl (Z8 (n := 6) (xs := a) (f := Qf) (old := q) rfl (dk rfl) He i51 rfl rfl rfl am (sp rfl (K8 rfl (dk rfl) Ke rfl i38 (by decide) rfl (sp rfl (J1 (i := 6) (xs := a) (f := Qf) (old := q) rfl (dk rfl) Z5 rfl rfl rfl (Zv am).2 rfl (oU q.R (cI .i64) Z5 rfl ?_))))))
  obtain ⟨an, ap, h⟩ := bind_some h
  refine oH fu46 (Z1.nil (Qa2 K ap)) rfl (aw rfl (nL (tN (sR (Qq (aw rfl (nL (tN (sR (Qq (aw rfl (nL (tN ?_)))))))))))))
  refine T.seq (sR (Qq (aw rfl (nL (tN (T.block (T.loop (Qg (Y2 3 1) ?_))))))))
  refine Qg (Y2 55 1) ?_
  refine Qg ?_ (Qaz K (Z6 K k) ih K u an (0:Int) v w y aa ab b g ac ad j a [] [] af ag ai aj al m w4_1aa (Tp 49) (Tp 50) h)
  exact tr rfl (.c (.s (.s .z)) (.c (.s (.s .z)) (.c (.s (.s .z)) (.c (.s (.s .z)) (.c (.s (.s .z)) (.c (.s (.s .z)) (.c (.s (.s .z)) (.c (.s .z) (.c .z (.n _))))))))))
  refine Qo rfl p (T.exit (Qk (Qk (Qu (tN (sR (Qq (mw rfl (oK rfl (oP P0 i28 rfl (J8 (Gl 6 rfl) ?_)))))))))))
  refine sp rfl (Zi (Fx (i := 3) (l := ((Zn.dc 256 .u8 b) ++ (([.int .i64 g, .ex m, .ex w4_1aa] : List DC)))) rfl (dk rfl) G4 rfl i28 rfl rfl rfl rfl rfl) (Zy 197 (l := ((Zn.dc 256 .u8 b) ++ (([.int .i64 g, .ex m, .ex w4_1aa] : List DC)))) (l' := ((Zn.dc 256 .u8 b) ++ (([.int .i64 g, .sl false 2 (mA j), .sl false 4 (a.map Qf)] : List DC)))) (.app _ (.cons (.same _) (.cons (.view 5 rfl) (.cons (.view 6 rfl) (.refl _)))))) (sp rfl (Qv (i := 0) (cells' := ((Zn.oc 256 .u8 b) ++ (([.d (.int .i64 g), .d (.sl false 2 (mA j)), .d (.sl false 4 (a.map Qf))]:List OC)))) rfl rfl i28 rfl rfl rfl rfl (nb rfl) rfl (aw rfl (nL (tN (T.ret (Fin.done (.cons _ _ _ _ (.cellAgg 2 28 _ 0 0 28 _ ((Zn.dc 256 .u8 b) ++ (([.int .i64 g, .sl false 2 (mA j), .sl false 4 (a.map Qf)] : List DC))) _ _ 259 _ rfl rfl rfl rfl G4 rfl i28) (.cons _ _ _ _ (.tmp 3 _ rfl) .nil)) (by cases h; exact ⟨rfl, rfl⟩)))))))))
theorem Qa1 {r : Qn × Int} (K : Nat) : ∀ (k : Nat), ∀ (aa : Int) (x0 : Qp) (ai : Zn) (aj : List X2) (al : List Qa) (q : Zn) (ab : List Int) (m : List X2) (an : List Qa) (am : List Zh) (y ad : Nat) (af ag : Value) (j : Nat) (ac p : Value) (w4_0aa au : Value), Vk K k aa x0 ai aj al q ab m an am = some r → TL tp 198 (ca [1,1,1,1,0,1,0,0] ff20) ⟨[(1, .ptr y 0), (2, .ptr ad 0), (4, .ptr j 0), (5, .c (.ex au)), (6, .int .i64 aa)], [.box y 43 [.d (.sl false 1 (mI x0.First)), .d (.sl false 9 (x0.P.map Qx))], (b28x9 ad ai (0:Int) af ag), .arrA af 59 2 (mA aj), .arrX ag 51 4 0 (al.map Qf), (Jg j x0.First x0.P ac q (0:Int) p w4_0aa (0:Int)), .arrA ac 3 1 (mI ab), .arrA p 59 2 (mA m), .arrX w4_0aa 51 4 0 (an.map Qf), .arrA au 63 4 (am.map (Zh.dc .u64))]⟩ (Oj r) := by
 intro k
 induction k with
 | zero =>
  intro aa x0 ai aj al q ab m an am y ad af ag j ac p w4_0aa au h
  exact zn h
 | succ k ih =>
  intro aa x0 ai aj al q ab m an am y ad af ag j ac p w4_0aa au h
  rw [Vk] at h
  refine Za (T.seq (sR (Qq (mw rfl (oP Qbw i41 rfl (oL 0 F1 rfl (oU x0.P Qx F1 rfl ?_)))))))
  refine oI rfl (nL (tN ?_))
  rcases Qh h with ⟨ay, h⟩ | ⟨ay, h⟩
  refine Qt rfl ay (T.skip (tN (T.seq (T.block (sR (Qq (mw rfl (oP Qbw i41 rfl ?_))))))))
  refine oL 0 F1 rfl (mw rfl ?_)
  obtain ⟨a, av, h⟩ := bind_some h
  refine oX x0.P Qx F1 i65 av rfl (sp rfl (Wa rfl (dk rfl) Qbv rfl i63 (by decide) rfl (oJ Qdo i63 rfl (sp rfl (OpT.buildSlice (elems := ([a.S] : List Zh).map (Zh.dc .u64)) rfl (dk rfl) ul99 i63 (by decide) rfl (Hb rfl) rfl rfl rfl (Xh rfl) (by decide) ?_)))))
  obtain ⟨a6, h⟩ := Q9 h
  refine sp rfl (Zj (i := 8) (xs := am) (ys := [a.S]) (f := (Zh.dc .u64)) rfl (dk rfl) ul99 i63 rfl rfl rfl rfl a6 (fun ap => (aw rfl (nL (tN (sR (Qq (oP Qbw i41 rfl (oL 0 F1 rfl (mw rfl (oX x0.P Qx F1 i65 av rfl ?_)))))))))))
  refine sp rfl (Wa rfl (dk rfl) Qbv rfl i3 (by decide) rfl (oR ul3 rfl (oI rfl (nL (tN ?_)))))
  rcases Qh h with ⟨az, h⟩ | ⟨az, h⟩
  refine Qt rfl az (T.seq (Qm Yk (Us (gM rfl (fun _ => .f rfl) (fun _ => rfl) (gM rfl (fun _ => .f rfl) (fun _ => rfl) (gK rfl (fun _ => .f rfl) (fun _ => rfl) ?_))))))
  refine gP rfl (fun _ => .f rfl) P0 i38 (fun _ => rfl) (gL 5 rfl (fun _ => .f rfl) Z5 (fun _ => rfl) (gM rfl (fun _ => .f rfl) (fun _ => rfl) (gK rfl (fun _ => .f rfl) (fun _ => rfl) (gP rfl (fun _ => .f rfl) P0 i28 (fun _ => rfl) (gP rfl (fun _ => .f rfl) G4 i25 (fun _ => rfl) (dC (c := ⟨some 53, .sl false 2 (mA m), [(52, .ptr j (0 + 3 + 257))], [(5, (Jg j x0.First x0.P ac q (0:Int) p w4_0aa (0:Int))), (7, .arrA p 59 2 (mA m))], []⟩) (fun t hm => oF rfl rfl (Zi (Yr (i := 5) rfl (dk rfl) ul25 rfl hm.s0 hm.o0 rfl rfl) (J0 53 7 hm.o1) ⟨u0, rfl⟩)) (fun _ => rfl) (fun _ => rfl) ?_))))))
  refine gN m (X2.dc .i64) rfl (fun _ => .f rfl) ul25 (fun _ => rfl) (dC (c := ⟨some 55, .sl true 1 ([(m.length : Int)].map (cI .i64)), [(54, .int .i64 (m.length : Int))], [], []⟩) (fun t hm => oF rfl rfl (OpT.buildSlice (elems := ([(m.length : Int)] : List Int).map (cI .i64)) rfl (dk rfl) Z5 i3 (by decide) rfl (Hb rfl) (Y1 hm.s0 rfl Jl) rfl rfl (Xh rfl) (by decide) ⟨u0, rfl⟩)) (fun _ => rfl) (fun _ => rfl) ?_)
  obtain ⟨a7, h⟩ := Q9 h
  refine DGG.step (c := fun g => ⟨some 56, .c (.ex ((g 12).1 0)), [(55, .sl true 1 ([(m.length : Int)].map (cI .i64))), (48, .c (.ex ac))], [(6, .arrA ac 3 1 (mI ab))], [(6, .arrA ((g 12).1 0) 3 1 ((ab ++ [(m.length : Int)]).map (cI .i64)))]⟩) [12] (fun g γ' h => by simp only [h 12 (by decide)]) (fun g t hm => oF rfl rfl (Zj (i := 6) (xs := ab) (ys := [(m.length : Int)]) (f := (cI .i64)) rfl (dk rfl) Z5 i3 rfl hm.s1 hm.o0 hm.s0 a7 (fun w => ⟨(fun _ => w, 0), rfl⟩))) (fun g => Zr rfl rfl) (gK rfl (fun _ => .f rfl) (fun _ => rfl) (gP rfl (fun _ => .f rfl) P0 i38 (fun _ => rfl) (DGG.step (c := fun g => ⟨none, .any, [(58, .ptr j (0 + 2)), (56, .c (.ex ((g 12).1 0)))], [(5, (Jg j x0.First x0.P ac q (0:Int) p w4_0aa (0:Int)))], [(5, (Jg j x0.First x0.P ((g 12).1 0) q (0:Int) p w4_0aa (0:Int)))]⟩) [12] (fun g γ' h => by simp only [h 12 (by decide)]) (fun g t hm => oF rfl rfl (V3 (i := 5) (cells' := (([.d (.sl false 1 (mI x0.First)), .d (.sl false 9 (x0.P.map Qx)), .d (.ex ((g 12).1 0))]:List OC) ++ ((Zn.oc 256 .u8 q) ++ (([.d (.int .i64 (0:Int)), .d (.ex p), .d (.ex w4_0aa), .d (.int .i64 (0:Int))]:List OC))))) rfl rfl i38 hm.s0 hm.s1 hm.o0 (nb rfl) rfl ⟨u0, rfl⟩)) (fun g => Zr rfl rfl) (gF [0,0,2,6,14,0,32,96,224,480,992,2016,4094,8191,16383,32767] Q3 rfl (by kernel_rfl) (fun _ => by kernel_rfl) (fun g u hu => (tN (Qm hu (Qm Yk (Us ?_)))))))))
  refine gM rfl (fun _ => .f rfl) (fun _ => rfl) (gM rfl (fun _ => .f rfl) (fun _ => rfl) (gK rfl (fun _ => .f rfl) (fun _ => rfl) (gP rfl (fun _ => .f rfl) P0 i28 (fun _ => rfl) (gP rfl (fun _ => .f rfl) G4 i25 (fun _ => rfl) (gL 6 rfl (fun _ => .f rfl) ul25 (fun _ => rfl) (gP rfl (fun _ => .f rfl) Qbw i41 (fun _ => rfl) ?_))))))
  refine gL 2 rfl (fun _ => .f rfl) F1 (fun _ => rfl) (gM rfl (fun _ => .f rfl) (fun _ => rfl) (gX x0.P Qx rfl (fun _ => .f rfl) F1 i65 av (fun _ => rfl) (gQ rfl (fun _ => .f rfl) Qbv i3 (fun _ => rfl) (gR rfl (fun _ => .f rfl) ul3 (fun _ => rfl) (gP rfl (fun _ => .f rfl) Qbw i41 (fun _ => rfl) (gL 2 rfl (fun _ => .f rfl) F1 (fun _ => rfl) ?_))))))
  refine gM rfl (fun _ => .f rfl) (fun _ => rfl) (gX x0.P Qx rfl (fun _ => .f rfl) F1 i65 av (fun _ => rfl) (gQ rfl (fun _ => .f rfl) Qbv i3 (fun _ => rfl) (gR rfl (fun _ => .f rfl) ul3 (fun _ => rfl) (dC (c := ⟨some 77, .agg (X2.dc .i64 (X2.mk a.Lo a.Hi)), [(70, .int .i64 a.Lo), (76, .int .i64 a.Hi)], [], []⟩) (fun t hm => oF rfl rfl (OpT.build (l := (X2.dc .i64 (X2.mk a.Lo a.Hi))) rfl (dk rfl) (Qcn ul59 i59 i3) (Hb rfl) (Y1 hm.s0 rfl (Y1 hm.s1 rfl Jl)) rfl ⟨u0, rfl⟩)) (fun _ => rfl) (fun _ => rfl) (dC (c := ⟨some 78, .sl true 2 ([(X2.mk a.Lo a.Hi)].map (X2.dc .i64)), [(77, .agg (X2.dc .i64 (X2.mk a.Lo a.Hi)))], [], []⟩) (fun t hm => oF rfl rfl (OpT.buildSlice (elems := ([(X2.mk a.Lo a.Hi)] : List X2).map (X2.dc .i64)) rfl (dk rfl) ul25 i59 (by decide) rfl (Hb rfl) (Y1 hm.s0 rfl Jl) rfl rfl (Xh rfl) (by decide) ⟨u0, rfl⟩)) (fun _ => rfl) (fun _ => rfl) ?_)))))
  obtain ⟨a8, h⟩ := Q9 h
  refine DGG.step (c := fun b => ⟨some 79, .c (.ex ((b 20).1 0)), [(78, .sl true 2 ([(X2.mk a.Lo a.Hi)].map (X2.dc .i64))), (64, .c (.ex p))], [(8, .arrA p 59 2 (mA m))], [(8, .arrA ((b 20).1 0) 59 2 ((m ++ [(X2.mk a.Lo a.Hi)]).map (X2.dc .i64)))]⟩) [20] (fun b γ' h => by simp only [h 20 (by decide)]) (fun b t hm => oF rfl rfl (Zj (i := 8) (xs := m) (ys := [(X2.mk a.Lo a.Hi)]) (f := (X2.dc .i64)) rfl (dk rfl) ul25 i59 rfl hm.s1 hm.o0 hm.s0 a8 (fun w => ⟨(fun _ => w, 0), rfl⟩))) (fun b => Zr rfl rfl) (gK rfl (fun _ => .f rfl) (fun _ => rfl) (gP rfl (fun _ => .f rfl) P0 i28 (fun _ => rfl) (gP rfl (fun _ => .f rfl) G4 i25 (fun _ => rfl) (DGG.step (c := fun b => ⟨none, .any, [(82, .ptr j (0 + 3 + 257)), (79, .c (.ex ((b 20).1 0)))], [(6, (Jg j x0.First x0.P ((g 12).1 0) q (0:Int) p w4_0aa (0:Int)))], [(6, (Jg j x0.First x0.P ((g 12).1 0) q (0:Int) ((b 20).1 0) w4_0aa (0:Int)))]⟩) [20] (fun b γ' h => by simp only [h 20 (by decide)]) (fun b t hm => oF rfl rfl (V3 (i := 6) (cells' := (([.d (.sl false 1 (mI x0.First)), .d (.sl false 9 (x0.P.map Qx)), .d (.ex ((g 12).1 0))]:List OC) ++ ((Zn.oc 256 .u8 q) ++ (([.d (.int .i64 (0:Int)), .d (.ex ((b 20).1 0)), .d (.ex w4_0aa), .d (.int .i64 (0:Int))]:List OC))))) rfl rfl i25 hm.s0 hm.s1 hm.o0 (nb rfl) rfl ⟨u0, rfl⟩)) (fun b => Zr rfl rfl) (gF [0,0,2,6,14,30,0,64,0,448,960,1984,0,4096,0,28672,61440,126976,262080,524224,1048574,2097151,4194303,8388607,16777215] Q3 rfl (by kernel_rfl) (fun _ => by kernel_rfl) (fun b u hu => (Qj (tN (Qm hu (Qq ?_))))))))))
  refine mw rfl (oI rfl (aw rfl (nL (tN ?_))))
  refine Qg ?_ (ih (wI (aa + (1:Int))) x0 ai aj al q (ab ++ [(m.length : Int)]) (m ++ [(X2.mk a.Lo a.Hi)]) an (am ++ [a.S]) y ad af ag j ((g 12).1 0) ((b 20).1 0) w4_0aa ap h)
  exact tr rfl (.c (.s (.s .z)) (.c (.s (.s .z)) (.c (.s (.s .z)) (.c (.s (.s .z)) (.c (.s (.s .z)) (.c (.s (.s .z)) (.c (.s (.s .z)) (.c (.s (.s .z)) (.c (.s (.s .z)) (.n _))))))))))
  refine Qo rfl az (Qq (mw rfl (mw rfl (oK rfl (oP P0 i38 rfl (oL 4 Z5 rfl ?_))))))
  refine sp rfl (OpT.buildSlice (elems := ([(-1:Int)] : List Int).map (cI .i64)) rfl (dk rfl) Z5 i3 (by decide) rfl (Hb rfl) rfl rfl rfl (Xh rfl) (by decide) ?_)
  obtain ⟨a9, h⟩ := Q9 h
  refine sp rfl (Zj (i := 5) (xs := ab) (ys := [(-1:Int)]) (f := (cI .i64)) rfl (dk rfl) Z5 i3 rfl rfl rfl rfl a9 (fun a4 => (oK rfl (oP P0 i38 rfl (sp rfl (V3 (i := 4) (cells' := (([.d (.sl false 1 (mI x0.First)), .d (.sl false 9 (x0.P.map Qx)), .d (.ex a4)]:List OC) ++ ((Zn.oc 256 .u8 q) ++ (([.d (.int .i64 (0:Int)), .d (.ex p), .d (.ex w4_0aa), .d (.int .i64 (0:Int))]:List OC))))) rfl rfl i38 rfl rfl rfl (nb rfl) rfl (nL (Qj (tN (Qq (mw rfl ?_)))))))))))
  refine oI rfl (aw rfl (nL (tN ?_)))
  refine Qg ?_ (ih (wI (aa + (1:Int))) x0 ai aj al q (ab ++ [(-1:Int)]) m an (am ++ [a.S]) y ad af ag j a4 p w4_0aa ap h)
  exact tq rfl rfl
  refine Qo rfl ay (T.exit (Qk (Qk (Qu (tN (sR (Qq (mw rfl (mw rfl ?_)))))))))
  obtain ⟨aq, ba, h⟩ := bind_some h
  refine sp rfl (Jh rfl (dk rfl) fu45 rfl rfl (Zs.view (i := 8) rfl rfl Zs.nil) (Z1.nil (Qed K (flx0 := false) ba)) (oK rfl (oP P0 i28 rfl (oP G4 i24 rfl (sp rfl (Qv (i := 4) (cells' := (([.d (.sl false 1 (mI x0.First)), .d (.sl false 9 (x0.P.map Qx)), .d (.ex ac)]:List OC) ++ ((Zn.oc 256 .u8 aq.Of) ++ (([.d (.int .i64 aq.Many), .d (.ex p), .d (.ex w4_0aa), .d (.int .i64 (0:Int))]:List OC))))) rfl rfl i24 rfl rfl rfl rfl (nb rfl) rfl (nL (tN (sR (Qq (mw rfl ?_)))))))))))
  refine sp rfl (Zi (OpT.build (l := [.ex (.slice none 0 0), .ex (.slice none 0 0), .ex (.slice none 0 0), .ex (.slice none 0 0)]) rfl (dk rfl) (Zp (pl := [(0, 1), (1, 1), (2, 1), (3, 1)]) Ke i51 rfl) (Hb rfl) rfl rfl rfl) (Zy 99 (l := [.ex (.slice none 0 0), .ex (.slice none 0 0), .ex (.slice none 0 0), .ex (.slice none 0 0)]) (l' := [.sl false 1 (([] : List Int).map (cI .i64)), .sl false 1 (([] : List Int).map (cI .i64)), .sl false 1 (([] : List Int).map (cI .i64)), .sl false 1 (([] : List (List Qd)).map (cL 2 Ql))]) (.cons (.nil _ _) (.cons (.nil _ _) (.cons (.nil _ _) (.cons (.nil _ _) (.refl _)))))) (sp rfl (Fy (elems := ([(Qa.mk [] [] [] [])] : List Qa).map Qf) rfl (dk rfl) He i51 (by decide) rfl (Hb rfl) rfl rfl rfl (Xh rfl) (by decide) (fun a5 => (oK rfl (oP P0 i28 rfl (oP G4 i26 rfl (sp rfl (V3 (i := 5) (cells' := (([.d (.sl false 1 (mI x0.First)), .d (.sl false 9 (x0.P.map Qx)), .d (.ex ac)]:List OC) ++ ((Zn.oc 256 .u8 aq.Of) ++ (([.d (.int .i64 aq.Many), .d (.ex p), .d (.ex (.slice (some ⟨a5, 0, none⟩) 1 1)), .d (.int .i64 (0:Int))]:List OC))))) rfl rfl i26 rfl rfl rfl (nb rfl) rfl (nL (tN ?_)))))))))))
  refine T.seq (sR (Qq (aw rfl (nL (tN (T.block (T.loop ?_)))))))
  refine Qg ?_ (Qa0 K K (0:Int) ai aj al x0.First x0.P aq.Of aq.Many (0:Int) ab m [(Qa.mk [] [] [] [])] ad af ag j ac p (.slice (some ⟨a5, 0, none⟩) 1 1) h)
  exact tr rfl (.c (.s (.s .z)) (.c (.s (.s .z)) (.c (.s (.s .z)) (.c (.s (.s .z)) (.c (.s (.s .z)) (.c (.s (.s .z)) (.c .z (.n _))))))))
theorem P8 (K : Nat) {x0 : Qp} {r : Qn × Int} (h : U8 K x0 = some r) : Z1 tp 20 [.agg [.sl false 1 (mI x0.First), .sl false 9 (x0.P.map Qx)]] [] (.tup [.agg ((Zn.dc 256 .u8 r.1.Split.Of) ++ (([.int .i64 r.1.Split.Many, .sl false 2 (mA r.1.Counts), .sl false 4 (r.1.States.map Qf)] : List DC))), .int .i64 r.2]) := by
 refine CI 198 fu20 rfl ?_
 unfold U8 at h
 refine sR (Qq (sp rfl (Zw rfl (dk rfl) rfl (fun b => (sp rfl (Zg rfl (dk rfl) i28 rfl (fun f => (aw rfl (nL (tN (T.seq (sR (Qq ?_)))))))))))))
 refine oA 1 [.sl false 1 (mI x0.First), .sl false 9 (x0.P.map Qx)] Qbw i43 rfl ?_
 obtain ⟨m, g, h⟩ := bind_some h
 refine oH fu44 (Z1.nil (Qa4 K g)) rfl (oT rfl (nL (tN ?_)))
 rcases Qh h with ⟨a, h⟩ | ⟨a, h⟩
 refine Qt rfl a (sR (Qq (sp rfl (OpT.build (l := ((Zn.dc 256 .u8 (Zn.mk fun _ => 0)) ++ (([.int .i64 (0:Int), .ex (.slice none 0 0), .ex (.slice none 0 0)] : List DC)))) rfl (dk rfl) (Zp (pl := [(0, 257), (257, 1), (258, 1)]) G4 i28 rfl) (Hb rfl) rfl rfl (sp rfl (Qv (i := 0) (cells' := ((Zn.oc 256 .u8 (Zn.mk fun _ => 0)) ++ (([.d (.int .i64 (0:Int)), .d (.ex (.slice none 0 0)), .d (.ex (.slice none 0 0))]:List OC)))) rfl rfl i28 rfl rfl rfl rfl (nb rfl) rfl (aw rfl (nL (tN (T.ret (Qy ?_)))))))))))
 refine Xj (Jb 0 (l := ((Zn.dc 256 .u8 (Zn.mk fun _ => 0)) ++ (([.int .i64 (0:Int), .ex (.slice none 0 0), .ex (.slice none 0 0)] : List DC)))) (l' := ((Zn.dc 256 .u8 (Zn.mk fun _ => 0)) ++ (([.int .i64 (0:Int), .sl false 2 (([] : List X2).map (X2.dc .i64)), .sl false 4 (([] : List Qa).map Qf)] : List DC)))) rfl (.app _ (.cons (.same _) (.cons (.nil _ _) (.cons (.nil _ _) (.refl _)))))) ?_
 exact Fin.done (.cons _ _ _ _ (.cellAgg 2 28 _ 0 0 28 _ ((Zn.dc 256 .u8 (Zn.mk fun _ => 0)) ++ (([.int .i64 (0:Int), .sl false 2 (([] : List X2).map (X2.dc .i64)), .sl false 4 (([] : List Qa).map Qf)] : List DC))) _ _ 259 _ rfl rfl rfl rfl G4 rfl i28) (.cons _ _ _ _ (.tmp 3 _ rfl) .nil)) (by cases h; exact ⟨rfl, rfl⟩)
 refine Qo rfl a (T.skip (tN (sR (Qq (oA 1 [.sl false 1 (mI x0.First), .sl false 9 (x0.P.map Qx)] Qbw i43 rfl (sp rfl (OpT.build (l := (([.sl false 1 (mI x0.First), .sl false 9 (x0.P.map Qx), .ex (.slice none 0 0)] : List DC) ++ ((Zn.dc 256 .u8 (Zn.mk fun _ => 0)) ++ (([.int .i64 (0:Int), .ex (.slice none 0 0), .ex (.slice none 0 0), .int .i64 (0:Int)] : List DC))))) rfl (dk rfl) (Zp (pl := [(0, 2), (2, 1), (3, 259), (262, 1)]) P0 i98 rfl) (Hb rfl) rfl rfl (sp rfl (Zw rfl (dk rfl) rfl (fun j => (aw rfl ?_)))))))))))
 refine nL (tN (sR (Qq (aw rfl (nL (tN (T.seq (sR (Qq (aw rfl (nL (tN ?_))))))))))))
 refine T.block (T.loop (Qg (Y2 63 4) (Qg (Y2 59 2) (Qg (Te 51 4) (Qg (Y2 3 1) (Qg (Y2 59 2) ?_))))))
 refine Qg (Te 51 4) ?_
 refine Qg ?_ (Qa1 K K (0:Int) x0 (Zn.mk fun _ => 0) [] [] (Zn.mk fun _ => 0) [] [] [] [] b f (Tp 44) (Tp 45) j (Tp 46) (Tp 47) (Tp 48) (Tp 43) h)
 exact tr rfl (.c (.s (.s (.s (.s (.s (.s (.s (.s .z)))))))) (.c (.s (.s (.s (.s (.s (.s (.s .z))))))) (.c (.s (.s (.s (.s .z)))) (.c (.s (.s (.s .z))) (.c (.s (.s (.s (.s .z)))) (.c (.s (.s .z)) (.c (.s .z) (.c .z (.c .z (.n _))))))))))
abbrev split_Right_q (r : Bool) : ES := Jz tp ff52 (fun y t => y = (.bool r) ∧ t = [])
abbrev Qc4 (r : Bool) : ES := fT 28 [1,1,1] ff52 (split_Right_q r)
abbrev Qat (r : Bool) : ES := Qz 0 ((Qc4 r))
theorem Qd4 {r : Bool} (K : Nat) : ∀ (k : Nat), ∀ (b : Int) (x0 : Q4) (f : Int) (g : Nat), U7 K k b x0 f = some r → TL tp 28 (ca [1,1,0,1,0,0] ff52) ⟨[(1, .ptr g 0), (3, .int .i64 b), (7, .agg (Zn.dc 256 .u8 x0.Of)), (8, .int .i64 f)], [(b24x5 g x0.Of x0.Many)]⟩ (Qat r) := by
 intro k
 induction k with
 | zero =>
  intro b x0 f g h
  exact zn h
 | succ k ih =>
  intro b x0 f g h
  rw [U7] at h
  refine Za (sR (Qq (oI rfl (nL (tN (T.seq ?_))))))
  rcases Qh h with ⟨l, h⟩ | ⟨l, h⟩
  refine Qt rfl l (T.skip (tN (T.seq (T.block (sR (Qq ?_))))))
  obtain ⟨j, h⟩ := Q9 h
  refine sp rfl (OpT.indexArr rfl (dk rfl) ul22 ul5 rfl i5 rfl rfl j.1 j.2 (Zn.dc_get (n := 256) (a := x0.Of) (k := .u8) j.1 j.2) (aw rfl (nL (tN (T.block (sR (Qq (mw rfl (sp rfl (Uj rfl (dk rfl) ul5 ul3 rfl ?_))))))))))
  refine mw rfl (oI rfl (aw rfl (nL (tN ?_))))
  rcases Qh h with ⟨m, h⟩ | ⟨m, h⟩
  refine Qt rfl m (sR (Qq (aw rfl (nL (tN (T.ret (Q7 (Q7 (Qy (Qy (Q7 (Qy (fd rfl (by cases h; exact ⟨rfl, rfl⟩))))))))))))))
  refine Qo rfl m (sR (Qq (mw rfl (sp rfl (Uj rfl (dk rfl) ul5 ul3 rfl (mw rfl (oI rfl (aw rfl ?_))))))))
  refine nL (tN ?_)
  rcases Qh h with ⟨p, h⟩ | ⟨p, h⟩
  refine Qt rfl p (Qq (mw rfl (oI rfl (aw rfl (nL (Qj (Qj (tN (Qq ?_)))))))))
  refine oI rfl (mw rfl (nL (tN ?_)))
  refine Qg ?_ (ih (wI (b + (1:Int))) x0 (wI (f + (1:Int))) g h)
  exact tq rfl rfl
  refine Qo rfl p (T.skip (Qj (Qj (tN (Qq (oI rfl (mw rfl (nL (tN ?_)))))))))
  refine Qg ?_ (ih b x0 (wI (f + (1:Int))) g h)
  exact tq rfl rfl
  refine Qo rfl l (T.exit (Qk (Qk (Qu (tN (sR (Qq (mw rfl (oP ul24 i3 rfl (oL 0 ul3 rfl (oI rfl ?_)))))))))))
  refine aw rfl (nL (tN (T.ret (fd rfl (by cases h; exact ⟨rfl, rfl⟩)))))
theorem split_Right_T (K : Nat) {x0 : Q4} {r : Bool} (h : Ev K x0 = some r) : Z1 tp 52 [.agg ((Zn.dc 256 .u8 x0.Of) ++ (([.int .i64 x0.Many] : List DC)))] [] (.bool r) := by
 refine CI 28 fu52 rfl ?_
 unfold Ev at h
 refine sR (Qq (sp rfl (Zw rfl (dk rfl) rfl (fun a => (aw rfl (nL (tN (sR (Qq (aw rfl (nL (tN (T.seq ?_)))))))))))))
 refine sR (Qq (oP ul24 i22 rfl (oA 0 (Zn.dc 256 .u8 x0.Of) ul22 i22 rfl (mw rfl (nL (tN (T.block (T.loop ?_))))))))
 refine Qg ?_ (Qd4 K K (0:Int) x0 (0:Int) a h)
 exact tq rfl rfl
abbrev Qdw (r : Int) : ES := Jz tp ff89 (fun y t => y = (.int .i64 r) ∧ t = [])
abbrev Qfi (r : Int) : ES := fT 17 [1,1] ff89 (Qdw r)
abbrev Qdi (r : Int) : ES := fT 17 [1,1,1,1] ff89 (Qdw r)
abbrev Qbp (r : Int) : ES := Qz 0 ((Qdi r))
theorem Td {r : Int} (K : Nat) (h : M7 K = some r) : T tp 17 (ca [1,0,1,0] ff89) ⟨[], []⟩ (Qfi r) := by
 unfold M7 at h
 refine sR (Qq (aw rfl (nL (tN (T.ret (Qy (fd rfl (by cases h; exact ⟨rfl, rfl⟩))))))))
theorem Qfj {r : Int} (K : Nat) : ∀ (k : Nat), ∀ (a x0 b : Int), M6 K k a x0 b = some r → TL tp 17 (ca [1,1,1,0,1,0,0] ff89) ⟨[(3, .int .i64 a), (10, .int .i64 x0), (11, .int .i64 b)], []⟩ (Qbp r) := by
 intro k
 induction k with
 | zero =>
  intro a x0 b h
  exact zn h
 | succ k ih =>
  intro a x0 b h
  rw [M6] at h
  refine Za (sR (Qq (oI rfl (nL (tN (T.seq ?_))))))
  rcases Qh h with ⟨c, h⟩ | ⟨c, h⟩
  refine Qt rfl c (T.skip (tN (T.seq (T.block (Qq (mw rfl (oI rfl ?_)))))))
  refine aw rfl (nL (Qj (tN (Qq (oI rfl (mw rfl (nL (tN ?_))))))))
  refine Qg ?_ (ih (wI (a * (3:Int))) x0 (wI (b + (1:Int))) h)
  exact tq rfl rfl
  refine Qo rfl c (T.exit (Qk (Qk (Qu (tN (sR (Qq (mw rfl (aw rfl (nL (tN (T.ret ?_))))))))))))
  exact fd rfl (by cases h; exact ⟨rfl, rfl⟩)
theorem auto_Codes_T (K : Nat) {x0 r : Int} (h : El K x0 = some r) : Z1 tp 89 [.int .i64 x0] [] (.int .i64 r) := by
 refine CI 17 fu89 rfl ?_
 unfold El at h
 refine sR (Qq (aw rfl (nL (tN (T.seq (sR (Qq (mw rfl (oI rfl ?_)))))))))
 refine mw rfl ?_
 rcases Qh h with ⟨a, h⟩ | ⟨a, h⟩
 refine pf rfl a (pf rfl a (oY a rfl (nL (tN (Qt rfl rfl ?_)))))
 refine Qm ?_ (Td K h)
 exact tq rfl rfl
 refine sn rfl a (OpT.move rfl (dk rfl) rfl (sn rfl a (Z9 rfl rfl (dk rfl) rfl rfl (oZ a rfl (nL (tN ?_))))))
 rcases Qh h with ⟨b, h⟩ | ⟨b, h⟩
 refine Qt rfl b ?_
 refine Qm ?_ (Td K h)
 exact tq rfl rfl
 refine Qo rfl b (T.skip (tN (sR (Qq (aw rfl (nL (tN (T.seq (sR (Qq ?_))))))))))
 refine mw rfl (mw rfl (nL (tN (T.block (T.loop ?_)))))
 refine Qg ?_ (Qfj K K (1:Int) x0 (0:Int) h)
 exact tq rfl rfl
abbrev auto_rises_q (r : Bool) : ES := Jz tp ff90 (fun y t => y = (.bool r) ∧ t = [])
abbrev Qeg (r : Bool) : ES := fT 24 [1,1,1] ff90 (auto_rises_q r)
abbrev I1 (r : Bool) : ES := Qz 0 ((Qeg r))
abbrev Qcq (r : Bool) : ES := fL 24 [1,1,0,1,0,0] ff90 (I1 r)
abbrev Sc (r : Bool) : ES := fT 24 [1,1,0,1,0,0,1,1,1] ff90 (Qcq r)
abbrev Ir (r : Bool) : ES := Qz 1 ((Sc r))
abbrev N0 (r : Bool) : ES := fT 24 [1,1,0,1,0,0,1,1,0,0,1,1] ff90 (Ir r)
theorem Tb {r : Bool} (K : Nat) (h : M4 K = some r) : T tp 24 (ca [1,1,0,1,0,0,1,1,0,0,1,0,1,0] ff90) ⟨[], []⟩ (N0 r) := by
 unfold M4 at h
 refine sR (Qq (aw rfl (nL (tN (T.ret (Qy (Q7 (Qy (Qy (Q7 (Qy (fd rfl (by cases h; exact ⟨rfl, rfl⟩)))))))))))))
theorem Qff {r : Bool} (K : Nat) : ∀ (k : Nat), ∀ (x1 d : Int) (x0 : List Int) (b c : Int) (flx0 : Bool), H2 K k x1 d x0 b c = some r → TL tp 24 (ca [1,1,0,1,0,0] ff90) ⟨[(1, .int .i64 x1), (5, .int .i64 d), (8, .sl flx0 1 (mI x0)), (9, .int .i64 b), (10, .int .i64 c)], []⟩ (I1 r) := by
 intro k
 induction k with
 | zero =>
  intro x1 d x0 b c flx0 h
  exact zn h
 | succ k ih =>
  intro x1 d x0 b c flx0 h
  rw [H2] at h
  refine Za (sR (Qq (oI rfl (nL (tN (T.seq ?_))))))
  rcases Qh h with ⟨g, h⟩ | ⟨g, h⟩
  refine Qt rfl g (T.skip (tN (T.seq (T.block (sR (Qq ?_))))))
  obtain ⟨j, l, h⟩ := bind_some h
  refine oX x0 (cI .i64) Z5 i3 l rfl (oR ul3 rfl (aw rfl (nL (tN (T.seq (sR (Qq (mw rfl ?_))))))))
  refine mw rfl (oI rfl (mw rfl ?_))
  rcases Qh h with ⟨a, h⟩ | ⟨a, h⟩
  refine pf rfl a (pf rfl a (pf rfl a (oY a rfl (nL (tN (Qt rfl rfl ?_))))))
  refine Qm ?_ (Tb K h)
  exact tq rfl rfl
  refine sn rfl a (OpT.move rfl (dk rfl) rfl (sn rfl a (OpT.move rfl (dk rfl) rfl (sn rfl a (Z9 rfl rfl (dk rfl) rfl rfl (oZ a rfl (nL (tN ?_))))))))
  rcases Qh h with ⟨i, h⟩ | ⟨i, h⟩
  refine Qt rfl i ?_
  refine Qm ?_ (Tb K h)
  exact tq rfl rfl
  refine Qo rfl i (T.skip (tN (Qq (mw rfl (aw rfl (nL (Qj (tN (Qq ?_)))))))))
  refine oI rfl (mw rfl (nL (tN ?_)))
  refine Qg ?_ (ih x1 j x0 b (wI (c + (1:Int))) flx0 h)
  exact tq rfl rfl
  refine Qo rfl g (T.exit (Qk (Qk (Qu (tN (sR (Qq (aw rfl (nL (tN (T.ret (fd rfl (by cases h; exact ⟨rfl, rfl⟩)))))))))))))
theorem Qdu (K : Nat) {x0 : List Int} {x1 : Int} {flx0 r : Bool} (h : Ek K x0 x1 = some r) : Z1 tp 90 [.sl flx0 1 (mI x0), .int .i64 x1] [] (.bool r) := by
 refine CI 24 fu90 rfl ?_
 unfold Ek at h
 refine sR (Qq (aw rfl (nL (tN (sR (Qq (aw rfl (nL (tN (T.seq (sR (Qq ?_))))))))))))
 refine mw rfl (oU x0 (cI .i64) Z5 rfl (mw rfl (nL (tN (T.block (T.loop ?_))))))
 refine Qg ?_ (Qff K K x1 (-1:Int) x0 (x0.length : Int) (0:Int) flx0 h)
 exact tq rfl rfl
abbrev Qbz (r : Int) : ES := Jz tp ff132 (fun y t => y = (.int .i64 r) ∧ t = [])
abbrev Sq (r : Int) : ES := fT 19 [1,1] ff132 (Qbz r)
abbrev Pb (r : Int) : ES := Qz 0 ((Sq r))
theorem Sr {r : Int} (K : Nat) : ∀ (k : Nat), ∀ (x0 : List Int) (x1 a b : Int) (flx0 : Bool), Vg K k x0 x1 a b = some r → TL tp 19 (ca [1,0,1,0,0] ff132) ⟨[(0, .sl flx0 1 (mI x0)), (1, .int .i64 x1), (7, .int .i64 a), (8, .int .i64 b)], []⟩ (Pb r) := by
 intro k
 induction k with
 | zero =>
  intro x0 x1 a b flx0 h
  exact zn h
 | succ k ih =>
  intro x0 x1 a b flx0 h
  rw [Vg] at h
  refine Za (sR (Qq (oI rfl (nL (tN (T.seq ?_))))))
  rcases Qh h with ⟨c, h⟩ | ⟨c, h⟩
  refine Qt rfl c (T.skip (tN (T.seq (T.block (sR (Qq (mw rfl (aw rfl ?_))))))))
  refine nL (tN (sR (Qq ?_)))
  iterate 3 refine mw rfl ?_
  obtain ⟨g, i, h⟩ := bind_some h
  refine oX x0 (cI .i64) Z5 i3 i rfl (oR ul3 rfl (oI rfl (nL (tN ?_))))
  rcases Qh h with ⟨d, h⟩ | ⟨d, h⟩
  refine Qt rfl d (sR (Qq (mw rfl (aw rfl (nL (tN (T.ret (Q7 (Qy (Qy (Q7 (Qy (fd rfl (by cases h; exact ⟨rfl, rfl⟩))))))))))))))
  refine Qo rfl d (T.skip (Qj (tN (Qq (oI rfl (mw rfl (nL (tN ?_))))))))
  refine Qg ?_ (ih x0 x1 a (wI (b + (1:Int))) flx0 h)
  exact tq rfl rfl
  refine Qo rfl c (T.exit (Qk (Qk (Qu (tN (sR (Qq (aw rfl (nL (tN (T.ret (fd rfl (by cases h; exact ⟨rfl, rfl⟩)))))))))))))
theorem Qb0 (K : Nat) {x0 : List Int} {x1 : Int} {flx0 : Bool} {r : Int} (h : Ks K x0 x1 = some r) : Z1 tp 132 [.sl flx0 1 (mI x0), .int .i64 x1] [] (.int .i64 r) := by
 refine CI 19 fu132 rfl ?_
 unfold Ks at h
 refine sR (Qq (aw rfl (nL (tN (T.seq (sR (Qq (mw rfl (oU x0 (cI .i64) Z5 rfl ?_)))))))))
 refine mw rfl (nL (tN (T.block (T.loop ?_))))
 refine Qg ?_ (Sr K K x0 x1 (x0.length : Int) (0:Int) flx0 h)
 exact tq rfl rfl
abbrev slices_Contains_int_q (r : Bool) : ES := Jz tp ff118 (fun y t => y = (.bool r) ∧ t = [])
theorem Ss (K : Nat) {x0 : List Int} {x1 : Int} {flx0 r : Bool} (h : Jj K x0 x1 = some r) : Z1 tp 118 [.sl flx0 1 (mI x0), .int .i64 x1] [] (.bool r) := by
 refine CI 9 fu118 rfl ?_
 unfold Jj at h
 refine sR (Qq (aw rfl (nL (tN (sR (Qq (mw rfl (mw rfl ?_))))))))
 obtain ⟨b, a, h⟩ := bind_some h
 refine oH fu132 (Z1.nil (Qb0 K (flx0 := flx0) a)) rfl (oI rfl (aw rfl (nL (tN (T.ret (fd rfl (by cases h; exact ⟨rfl, rfl⟩)))))))
abbrev Fs (r : Bool) : ES := Jz tp ff93 (fun y t => y = (.bool r) ∧ t = [])
abbrev Pv (r : Bool) : ES := fT 79 [1,1,1] ff93 (Fs r)
abbrev O3 (r : Bool) : ES := fT 79 [1,1,1,1] ff93 (Fs r)
abbrev Ka (r : Bool) : ES := Qz 0 ((O3 r))
abbrev Iu (r : Bool) : ES := fL 79 [1,1,1,0,1,0,0] ff93 (Ka r)
abbrev Cy (r : Bool) : ES := fT 79 [1,1,1,0,1,0,0,1,1,1] ff93 (Iu r)
abbrev Ms (r : Bool) : ES := Qz 1 ((Cy r))
theorem Gt {r : Bool} (K : Nat) (h : Xd K = some r) : T tp 79 (ca [1,1,0,1,0] ff93) ⟨[], []⟩ (Pv r) := by
 unfold Xd at h
 refine sR (Qq (aw rfl (nL (tN (T.ret (Qy (fd rfl (by cases h; exact ⟨rfl, rfl⟩))))))))
theorem Gs {r : Bool} (K : Nat) (h : Xc K = some r) : T tp 79 (ca [1,1,1,0,1,0,0,1,1,0,0,1,1,0] ff93) ⟨[], []⟩ (Ms r) := by
 unfold Xc at h
 refine sR (Qq (aw rfl (nL (tN (T.ret (Q7 (Qy (Qy (Q7 (Qy (fd rfl (by cases h; exact ⟨rfl, rfl⟩))))))))))))
theorem Se {r : Bool} (K : Nat) : ∀ (k : Nat), ∀ (x2 : Qd) (w p : Int) (x0 : Zc) (x1 : Qa) (j l m : Nat), Xb K k x2 w p x0 x1 = some r → TL tp 79 (ca [1,1,1,0,1,0,0] ff93) ⟨[(3, .ptr j 0), (4, .ptr l 0), (5, .ptr m 0), (44, .sl false 1 (mU x2.Ops)), (45, .int .i64 w), (46, .int .i64 p)], [(Jx j x0.Auto.Split.Of x0.Auto.Split.Many x0.Auto.Counts x0.Auto.States), (Mq l x1.L x1.R x1.Rule x1.Next), (Qcp m x2.To x2.Ops)]⟩ (Ka r) := by
 intro k
 induction k with
 | zero =>
  intro x2 w p x0 x1 j l m h
  exact zn h
 | succ k ih =>
  intro x2 w p x0 x1 j l m h
  rw [Xb] at h
  refine Za (sR (Qq (oI rfl (nL (tN (T.seq ?_))))))
  rcases Qh h with ⟨ab, h⟩ | ⟨ab, h⟩
  refine Qt rfl ab (T.skip (tN (T.seq (T.block (sR (Qq (mw rfl ?_)))))))
  obtain ⟨a, ad, h⟩ := bind_some h
  refine oX x2.Ops (cI .u8) Mt i5 ad rfl (oR ul5 rfl (aw rfl (aw rfl (nL (tN (T.seq (Xk ?_)))))))
  refine dV rfl rfl (dI rfl (.f rfl) rfl (dV rfl rfl ?_))
  rcases Qh h with ⟨y, h⟩ | ⟨y, h⟩
  refine dO y rfl rfl (dO y rfl rfl (dY rfl (.f rfl) y rfl (dV rfl rfl (dO rfl rfl rfl (dO rfl rfl rfl (dO rfl rfl rfl ?_))))))
  refine dG rfl rfl (dG rfl rfl (dG rfl rfl (dG rfl rfl (dG rfl rfl (dG rfl rfl (dG rfl rfl ?_))))))
  refine dG rfl rfl (dG rfl rfl (dG rfl rfl (dG rfl rfl (dG rfl rfl (dG rfl rfl (dG rfl rfl ?_))))))
  refine dG rfl rfl (dO rfl rfl rfl (dY rfl (.f rfl) rfl rfl (dF [0,1,3,7,15,31,63,127,255,511,1023,2047,1023,5119,13311,1023,33791,127999,259071,521215,1023,2094079,4191231,8388607,16777215,33554431,67108863] Q3 rfl (by kernel_rfl) (fun u hu => (tN (Qm hu (Qt rfl rfl ?_)))))))
  refine Qm ?_ (Gs K h)
  exact tq rfl rfl
  refine dM rfl (.n y rfl) rfl (dI rfl (.n y rfl) rfl (dZ rfl (.f rfl) y rfl (dV rfl rfl ?_)))
  rcases Qh h with ⟨q, h⟩ | ⟨q, h⟩
  refine dO q rfl rfl (dO q rfl rfl (dO q rfl rfl (dG rfl rfl (dG rfl rfl (dG rfl rfl (dG rfl rfl ?_))))))
  refine dG rfl rfl (dG rfl rfl (dG rfl rfl (dG rfl rfl (dG rfl rfl (dG rfl rfl (dG rfl rfl ?_))))))
  refine dG rfl rfl (dG rfl rfl (dG rfl rfl (dG rfl rfl (dO q rfl rfl (dY rfl (.f rfl) q rfl (dF [0,1,3,7,15,31,63,127,255,511,1023,2047,1023,5119,13311,1023,33791,127999,259071,521215,1023,2094079,4191231,8388607,16777215,33554431,67108863] Q3 rfl (by kernel_rfl) (fun u hu => (tN (Qm hu ?_)))))))))
  refine Qt rfl rfl ?_
  refine Qm ?_ (Gs K h)
  exact tq rfl rfl
  refine dM rfl (.n q rfl) rfl (dI rfl (.n q rfl) rfl (dM rfl (.n q rfl) rfl ?_))
  rcases Qh h with ⟨b, h⟩ | ⟨b, h⟩
  refine dP rfl (.n b rfl) Ke i38 rfl (dL 1 rfl (.n b rfl) Z5 rfl (dP rfl (.n b rfl) ul107 i28 rfl (dP rfl (.n b rfl) G4 i26 rfl (dL 0 rfl (.n b rfl) He rfl (dP rfl (.n b rfl) Iw i3 rfl (dL 2 rfl (.n b rfl) ul3 rfl ?_))))))
  obtain ⟨g, af, h⟩ := bind_some h
  refine dX x0.Auto.States Qf rfl (.n b rfl) He i51 af rfl (dQ rfl (.n b rfl) Ke i38 rfl (dR rfl (.n b rfl) Z5 rfl (dM rfl (.n b rfl) rfl ?_)))
  obtain ⟨aa, ag, h⟩ := bind_some h
  refine dX g.R (cI .i64) rfl (.n b rfl) Z5 i3 ag rfl (dR rfl (.n b rfl) ul3 rfl ?_)
  obtain ⟨s, ai, h⟩ := bind_some h
  refine dH fu118 (Z1.nil (Ss K (flx0 := false) ai)) rfl (.n b rfl) rfl (dT rfl (.n b rfl) rfl (dY rfl (.n q rfl) b rfl (dZ rfl (.f rfl) q rfl (dF [0,1,3,7,15,31,63,127,255,511,1023,2047,1023,5119,13311,1023,33791,127999,259071,521215,1023,2094079,4191231,8388607,16777215,33554431,67108863] Q3 rfl (by kernel_rfl) (fun u hu => (tN (Qm hu ?_)))))))
  rcases Qh h with ⟨ac, h⟩ | ⟨ac, h⟩
  refine Qt rfl ac ?_
  refine Qm ?_ (Gs K h)
  exact tq rfl rfl
  refine Qo rfl ac (T.skip (Qj (tN (Qq (oI rfl (mw rfl (nL (tN ?_))))))))
  refine Qg ?_ (ih x2 w (wI (p + (1:Int))) x0 x1 j l m h)
  exact tq rfl rfl
  refine dO b rfl rfl (dO b rfl rfl (dO b rfl rfl (dO b rfl rfl (dO b rfl rfl (dO b rfl rfl (dO b rfl rfl ?_))))))
  refine dO b rfl rfl (dO b rfl rfl (dO b rfl rfl (dO b rfl rfl (dO b rfl rfl (dO b rfl rfl (dO b rfl rfl ?_))))))
  refine dO b rfl rfl (dZ rfl (.n q rfl) b rfl (dZ rfl (.f rfl) q rfl (dF [0,1,3,7,15,31,63,127,255,511,1023,2047,1023,5119,13311,1023,33791,127999,259071,521215,1023,2094079,4191231,8388607,16777215,33554431,67108863] Q3 rfl (by kernel_rfl) (fun u hu => (tN (Qm hu (Qo rfl rfl (T.skip (Qj (tN (Qq ?_)))))))))))
  refine oI rfl (mw rfl (nL (tN ?_)))
  refine Qg ?_ (ih x2 w (wI (p + (1:Int))) x0 x1 j l m h)
  exact tq rfl rfl
  refine Qo rfl ab (T.exit (Qk (Qk (Qu (tN (sR (Qq (aw rfl (nL (tN (T.ret (fd rfl (by cases h; exact ⟨rfl, rfl⟩)))))))))))))
theorem Qbo (K : Nat) {x0 : Zc} {x1 : Qa} {x2 : Qd} {r : Bool} (h : Ha K x0 x1 x2 = some r) : Z1 tp 93 [.agg ((Zn.dc 256 .u8 x0.Auto.Split.Of) ++ (([.int .i64 x0.Auto.Split.Many, .sl false 2 (mA x0.Auto.Counts), .sl false 4 (x0.Auto.States.map Qf)] : List DC))), .agg [.sl false 1 (mI x1.L), .sl false 1 (mI x1.R), .sl false 1 (mI x1.Rule), .sl false 1 (x1.Next.map (cL 2 Ql))], .agg [.int .i64 x2.To, .sl false 1 (mU x2.Ops)]] [] (.bool r) := by
 refine CI 79 fu93 rfl ?_
 unfold Ha at h
 refine sR (Qq (sp rfl (Zw rfl (dk rfl) rfl (fun j => (sp rfl (Zw rfl (dk rfl) rfl (fun m => (sp rfl (Zw rfl (dk rfl) rfl (fun g => (aw rfl (nL (tN (T.seq ?_))))))))))))))
 refine sR (Qq (oP Iw i3 rfl (oL 0 ul3 rfl (oI rfl (nL (tN ?_))))))
 rcases Qh h with ⟨p, h⟩ | ⟨p, h⟩
 refine Qt rfl p (sR (Qq (oP Iw i52 rfl (oL 0 Mt rfl (oU x2.Ops (cI .u8) Mt rfl (oI rfl (aw rfl ?_)))))))
 refine nL (tN (T.ret (Qy (fd rfl (by cases h; exact ⟨rfl, rfl⟩)))))
 refine Qo rfl p (T.skip (tN (T.seq (T.seq (Xk (dP rfl (.f rfl) Iw i3 rfl (dL 0 rfl (.f rfl) ul3 rfl ?_)))))))
 refine dI rfl (.f rfl) rfl (dV rfl rfl ?_)
 rcases Qh h with ⟨l, h⟩ | ⟨l, h⟩
 refine dO l rfl rfl (dO l rfl rfl (dO l rfl rfl (dO l rfl rfl (dO l rfl rfl (dO l rfl rfl (dO l rfl rfl ?_))))))
 refine dY rfl (.f rfl) l rfl (dV rfl rfl (dO rfl rfl rfl (dO rfl rfl rfl (dO rfl rfl rfl (dO rfl rfl rfl (dO rfl rfl rfl ?_))))))
 refine dO rfl rfl rfl (dO rfl rfl rfl (dO rfl rfl rfl (dO rfl rfl rfl (dO rfl rfl rfl (dO rfl rfl rfl (dO rfl rfl rfl ?_))))))
 refine dO rfl rfl rfl (dY rfl (.f rfl) rfl rfl (dF [0,1,3,7,15,31,15,79,207,463,1023,2047,4095,8191,16383,32767,8191,73727,204799,8191,532479,2039807,4136959,8331263,16719871,33554431,67108863] Q3 rfl (by kernel_rfl) (fun u hu => (tN (Qm hu (Qt rfl rfl ?_))))))
 refine Qm ?_ (Gt K h)
 exact tq rfl rfl
 refine dP rfl (.n l rfl) Iw i3 rfl (dL 0 rfl (.n l rfl) ul3 rfl (dP rfl (.n l rfl) ul107 i28 rfl (dP rfl (.n l rfl) G4 i26 rfl (dL 2 rfl (.n l rfl) He rfl (dN x0.Auto.States Qf rfl (.n l rfl) He rfl (dI rfl (.n l rfl) rfl ?_))))))
 refine dZ rfl (.f rfl) l rfl (dV rfl rfl ?_)
 rcases Qh h with ⟨a, h⟩ | ⟨a, h⟩
 refine dO a rfl rfl (dO a rfl rfl (dO a rfl rfl (dO a rfl rfl (dO a rfl rfl (dO a rfl rfl (dO a rfl rfl ?_))))))
 refine dO a rfl rfl (dO a rfl rfl (dO a rfl rfl (dO a rfl rfl (dO a rfl rfl (dO a rfl rfl (dY rfl (.f rfl) a rfl ?_))))))
 refine dF [0,1,3,7,15,31,15,79,207,463,1023,2047,4095,8191,16383,32767,8191,73727,204799,8191,532479,2039807,4136959,8331263,16719871,33554431,67108863] Q3 rfl (by kernel_rfl) (fun u hu => (tN (Qm hu (Qt rfl rfl ?_))))
 refine Qm ?_ (Gt K h)
 exact tq rfl rfl
 refine dP rfl (.n a rfl) Iw i52 rfl (dL 0 rfl (.n a rfl) Mt rfl (dN x2.Ops (cI .u8) rfl (.n a rfl) Mt rfl (dP rfl (.n a rfl) ul107 i28 rfl (dP rfl (.n a rfl) G4 i26 rfl (dL 2 rfl (.n a rfl) He rfl (dP rfl (.n a rfl) Iw i3 rfl ?_))))))
 refine dL 0 rfl (.n a rfl) ul3 rfl ?_
 obtain ⟨b, w, h⟩ := bind_some h
 refine dX x0.Auto.States Qf rfl (.n a rfl) He i51 w rfl (dQ rfl (.n a rfl) Ke i38 rfl (dR rfl (.n a rfl) Z5 rfl (dN b.R (cI .i64) rfl (.n a rfl) Z5 rfl (dI rfl (.n a rfl) rfl (dZ rfl (.f rfl) a rfl (dF [0,1,3,7,15,31,15,79,207,463,1023,2047,4095,8191,16383,32767,8191,73727,204799,8191,532479,2039807,4136959,8331263,16719871,33554431,67108863] Q3 rfl (by kernel_rfl) (fun u hu => (tN (Qm hu ?_)))))))))
 rcases Qh h with ⟨q, h⟩ | ⟨q, h⟩
 refine Qt rfl q ?_
 refine Qm ?_ (Gt K h)
 exact tq rfl rfl
 refine Qo rfl q (T.skip (tN (T.seq (sR (Qq (oP Iw i52 rfl (oL 0 Mt rfl (oU x2.Ops (cI .u8) Mt rfl ?_))))))))
 refine mw rfl (nL (tN (T.block (T.loop ?_))))
 refine Qg ?_ (Se K K x2 (x2.Ops.length : Int) (0:Int) x0 x1 j m g h)
 exact tr rfl (.c (.s (.s .z)) (.c (.s .z) (.c .z (.n _))))
abbrev auto_checker_state_1_q (bx1 bx2 : Nat) (x1 : Zc) (x2 : Qa) (r : Bool) : ES := Jz tp ff92 (fun y t => ∃ γ : Nat → Value, y = (.bool r) ∧ t = [(Jx bx1 x1.Auto.Split.Of x1.Auto.Split.Many x1.Auto.Counts x1.Auto.States), (Mq bx2 x2.L x2.R x2.Rule x2.Next)])
theorem Sd (K : Nat) {x0 : Qd} {x1 : Zc} {x2 : Qa} {bx1 bx2 : Nat} {r : Bool} (h : Wu K x0 x1 x2 = some r) : Ud tp 92 [.agg [.int .i64 x0.To, .sl false 1 (mU x0.Ops)], .ptr bx1 0, .ptr bx2 0] [(Jx bx1 x1.Auto.Split.Of x1.Auto.Split.Many x1.Auto.Counts x1.Auto.States), (Mq bx2 x2.L x2.R x2.Rule x2.Next)] (fun γ => (.bool r)) (fun γ => [(Jx bx1 x1.Auto.Split.Of x1.Auto.Split.Many x1.Auto.Counts x1.Auto.States), (Mq bx2 x2.L x2.R x2.Rule x2.Next)]) := by
 refine CI 10 fu92 rfl ?_
 unfold Wu at h
 refine sR (Qq (sp rfl (Zw rfl (dk rfl) rfl (fun b => (aw rfl (nL (tN (sR (Qq (oA 1 ((Zn.dc 256 .u8 x1.Auto.Split.Of) ++ (([.int .i64 x1.Auto.Split.Many, .sl false 2 (mA x1.Auto.Counts), .sl false 4 (x1.Auto.States.map Qf)] : List DC))) ul107 i107 rfl (oA 2 [.sl false 1 (mI x2.L), .sl false 1 (mI x2.R), .sl false 1 (mI x2.Rule), .sl false 1 (x2.Next.map (cL 2 Ql))] Ke i51 rfl (oA 0 [.int .i64 x0.To, .sl false 1 (mU x0.Ops)] Iw i54 rfl ?_))))))))))))
 obtain ⟨c, a, h⟩ := bind_some h
 refine oH fu93 (Z1.nil (Qbo K a)) rfl (oT rfl (aw rfl (nL (tN (T.ret (Q1 (.cons _ _ _ _ (.tmp 4 _ rfl) .nil) (.cons 1 rfl (.cons 1 rfl (.nil _))) (by cases h; exact ⟨gl [], rfl, rfl⟩)))))))
abbrev Pc (bx1c0 bx1c1 : Nat) (x1c0 : Zc) (x1c1 : Qa) (r : Int) : ES := Jz tp ff117 (fun y t => ∃ γ : Nat → Value, y = (.int .i64 r) ∧ t = [(Jx bx1c0 x1c0.Auto.Split.Of x1c0.Auto.Split.Many x1c0.Auto.Counts x1c0.Auto.States), (Mq bx1c1 x1c1.L x1c1.R x1c1.Rule x1c1.Next)])
abbrev F4 (bx1c0 bx1c1 : Nat) (x1c0 : Zc) (x1c1 : Qa) (r : Int) : ES := fT 19 [1,1] ff117 (Pc bx1c0 bx1c1 x1c0 x1c1 r)
abbrev D0 (bx1c0 bx1c1 : Nat) (x1c0 : Zc) (x1c1 : Qa) (r : Int) : ES := Qz 0 ((F4 bx1c0 bx1c1 x1c0 x1c1 r))
theorem F5 {r : Int} (K bx1c0 bx1c1 : Nat) (x1c0 : Zc) (x1c1 : Qa) : ∀ (k : Nat), ∀ (x0 : List Qd) (a b : Int) (x1c0 : Zc) (x1c1 : Qa) (flx0 : Bool), Yv K k x0 a b x1c0 x1c1 = some r → TL tp 19 (ca [1,0,1,0,0] ff117) ⟨[(0, .sl flx0 2 (x0.map Ql)), (1, .c (.ex (.func (.func 92) #[] #[.pointer (some ⟨bx1c0, 0, none⟩), .pointer (some ⟨bx1c1, 0, none⟩)]))), (7, .int .i64 a), (8, .int .i64 b)], [(Jx bx1c0 x1c0.Auto.Split.Of x1c0.Auto.Split.Many x1c0.Auto.Counts x1c0.Auto.States), (Mq bx1c1 x1c1.L x1c1.R x1c1.Rule x1c1.Next)]⟩ (D0 bx1c0 bx1c1 x1c0 x1c1 r) := by
 intro k
 induction k with
 | zero =>
  intro x0 a b x1c0 x1c1 flx0 h
  exact zn h
 | succ k ih =>
  intro x0 a b x1c0 x1c1 flx0 h
  rw [Yv] at h
  refine Za (sR (Qq (oI rfl (nL (tN (T.seq ?_))))))
  rcases Qh h with ⟨g, h⟩ | ⟨g, h⟩
  refine Qt rfl g (T.skip (tN (T.seq (T.block (sR (Qq (mw rfl (aw rfl ?_))))))))
  refine nL (tN (sR (Qq ?_)))
  iterate 3 refine mw rfl ?_
  obtain ⟨j, l, h⟩ := bind_some h
  refine oX x0 Ql Sg i54 l rfl (oJ Iw i54 rfl ?_)
  obtain ⟨p, m, h⟩ := bind_some h
  refine sp rfl (I4 (f := 92) (vs := [.pointer (some ⟨bx1c0, 0, none⟩), .pointer (some ⟨bx1c1, 0, none⟩)]) rfl rfl (dk rfl) fu92 rfl rfl (Q6 (is := [0, 1]) (ph := []) rfl (dk rfl) fu92 rfl rfl (Zs.cons rfl (Zs.cons rfl (Zs.cons rfl Zs.nil))) (Sd K (bx1 := bx1c0) (bx2 := bx1c1) m) (.cons rfl rfl (.cons rfl rfl (.nil))) (fun _ => rfl) (fun q => (nm (.c (.c (.n))) (nL (tN ?_))))))
  rcases Qh h with ⟨i, h⟩ | ⟨i, h⟩
  refine Qt rfl i (sR (Qq (mw rfl (aw rfl (nL (tN (T.ret (Q7 (Qy (Qy (Q7 (Qy (Q1 (.cons _ _ _ _ (.tmp 4 _ rfl) .nil) (.cons 0 rfl (.cons 0 rfl (.nil _))) (by cases h; exact ⟨gl [], rfl, rfl⟩))))))))))))))
  refine Qo rfl i (T.skip (Qj (tN (Qq (oI rfl (mw rfl (nL (tN ?_))))))))
  refine Qg ?_ (ih x0 a (wI (b + (1:Int))) x1c0 x1c1 flx0 h)
  exact tq rfl rfl
  refine Qo rfl g (T.exit (Qk (Qk (Qu (tN (sR (Qq (aw rfl (nL (tN (T.ret (Q1 (.cons _ _ _ _ (.tmp 4 _ rfl) .nil) (.cons 0 rfl (.cons 0 rfl (.nil _))) (by cases h; exact ⟨gl [], rfl, rfl⟩)))))))))))))
theorem Pd (K : Nat) {x0 : List Qd} {x1c0 : Zc} {x1c1 : Qa} {flx0 : Bool} {bx1c0 bx1c1 : Nat} {r : Int} (h : J3 K x0 x1c0 x1c1 = some r) : Ud tp 117 [.sl flx0 2 (x0.map Ql), .c (.ex (.func (.func 92) #[] #[.pointer (some ⟨bx1c0, 0, none⟩), .pointer (some ⟨bx1c1, 0, none⟩)]))] [(Jx bx1c0 x1c0.Auto.Split.Of x1c0.Auto.Split.Many x1c0.Auto.Counts x1c0.Auto.States), (Mq bx1c1 x1c1.L x1c1.R x1c1.Rule x1c1.Next)] (fun γ => (.int .i64 r)) (fun γ => [(Jx bx1c0 x1c0.Auto.Split.Of x1c0.Auto.Split.Many x1c0.Auto.Counts x1c0.Auto.States), (Mq bx1c1 x1c1.L x1c1.R x1c1.Rule x1c1.Next)]) := by
 refine CI 19 fu117 rfl ?_
 unfold J3 at h
 refine sR (Qq (aw rfl (nL (tN (T.seq (sR (Qq (mw rfl (oU x0 Ql Sg rfl ?_)))))))))
 refine mw rfl (nL (tN (T.block (T.loop ?_))))
 refine Qg ?_ (F5 K bx1c0 bx1c1 x1c0 x1c1 K x0 (x0.length : Int) (0:Int) x1c0 x1c1 flx0 h)
 exact tq rfl rfl
abbrev slices_ContainsFunc_Move_q (bx1c0 bx1c1 : Nat) (x1c0 : Zc) (x1c1 : Qa) (r : Bool) : ES := Jz tp ff91 (fun y t => ∃ γ : Nat → Value, y = (.bool r) ∧ t = [(Jx bx1c0 x1c0.Auto.Split.Of x1c0.Auto.Split.Many x1c0.Auto.Counts x1c0.Auto.States), (Mq bx1c1 x1c1.L x1c1.R x1c1.Rule x1c1.Next)])
theorem F6 (K : Nat) {x0 : List Qd} {x1c0 : Zc} {x1c1 : Qa} {flx0 : Bool} {bx1c0 bx1c1 : Nat} {r : Bool} (h : Vj K x0 x1c0 x1c1 = some r) : Ud tp 91 [.sl flx0 2 (x0.map Ql), .c (.ex (.func (.func 92) #[] #[.pointer (some ⟨bx1c0, 0, none⟩), .pointer (some ⟨bx1c1, 0, none⟩)]))] [(Jx bx1c0 x1c0.Auto.Split.Of x1c0.Auto.Split.Many x1c0.Auto.Counts x1c0.Auto.States), (Mq bx1c1 x1c1.L x1c1.R x1c1.Rule x1c1.Next)] (fun γ => (.bool r)) (fun γ => [(Jx bx1c0 x1c0.Auto.Split.Of x1c0.Auto.Split.Many x1c0.Auto.Counts x1c0.Auto.States), (Mq bx1c1 x1c1.L x1c1.R x1c1.Rule x1c1.Next)]) := by
 refine CI 9 fu91 rfl ?_
 unfold Vj at h
 refine sR (Qq (aw rfl (nL (tN (sR (Qq (mw rfl (mw rfl ?_))))))))
 obtain ⟨b, a, h⟩ := bind_some h
 refine sp rfl (Q6 (is := [0, 1]) (ph := []) rfl (dk rfl) fu117 rfl rfl (Zs.cons rfl (Zs.cons rfl Zs.nil)) (Pd K (flx0 := flx0) (bx1c0 := bx1c0) (bx1c1 := bx1c1) a) (.cons rfl rfl (.cons rfl rfl (.nil))) (fun _ => rfl) (fun f => (nm (.c (.c (.n))) (oI rfl (aw rfl (nL (tN (T.ret (Q1 (.cons _ _ _ _ (.tmp 4 _ rfl) .nil) (.cons 0 rfl (.cons 0 rfl (.nil _))) (by cases h; exact ⟨gl [], rfl, rfl⟩))))))))))
abbrev Dy (r : Bool) : ES := Jz tp ff55 (fun y t => y = (.bool r) ∧ t = [])
abbrev O2 (r : Bool) : ES := fT 79 [1,1,1] ff55 (Dy r)
abbrev N1 (r : Bool) : ES := fT 79 [1,1,1,1] ff55 (Dy r)
abbrev Le (r : Bool) : ES := Qz 0 ((N1 r))
abbrev Fq (r : Bool) : ES := fL 79 [1,1,1,0,1,0,0] ff55 (Le r)
abbrev Cd (r : Bool) : ES := fT 79 [1,1,1,0,1,0,0,1,1,1] ff55 (Fq r)
abbrev K6 (r : Bool) : ES := Qz 1 ((Cd r))
abbrev Mr (r : Bool) : ES := fT 79 [1,1,1,0,1,0,0,1,1,0,0,1,1] ff55 (K6 r)
theorem Vt {r : Bool} (K : Nat) (h : Z4 K = some r) : T tp 79 (ca [1,1,0,1,0] ff55) ⟨[], []⟩ (O2 r) := by
 unfold Z4 at h
 refine sR (Qq (aw rfl (nL (tN (T.ret (Qy (fd rfl (by cases h; exact ⟨rfl, rfl⟩))))))))
theorem H3 {r : Bool} (K : Nat) (h : Y6 K = some r) : T tp 79 (ca [1,1,1,0,1,0,0,1,1,0,0,1,0,1,0] ff55) ⟨[], []⟩ (Mr r) := by
 unfold Y6 at h
 refine sR (Qq (aw rfl (nL (tN (T.ret (Qy (Q7 (Qy (Qy (Q7 (Qy (fd rfl (by cases h; exact ⟨rfl, rfl⟩)))))))))))))
theorem Pu {r : Bool} (K : Nat) : ∀ (k : Nat), ∀ (x1 : Qa) (l m : Int) (x0 : Zc) (g j : Nat), Xu K k x1 l m x0 = some r → TL tp 79 (ca [1,1,1,0,1,0,0] ff55) ⟨[(2, .ptr g 0), (3, .ptr j 0), (45, .sl false 1 (x1.Next.map (cL 2 Ql))), (46, .int .i64 l), (47, .int .i64 m)], [(Jx g x0.Auto.Split.Of x0.Auto.Split.Many x0.Auto.Counts x0.Auto.States), (Mq j x1.L x1.R x1.Rule x1.Next)]⟩ (Le r) := by
 intro k
 induction k with
 | zero =>
  intro x1 l m x0 g j h
  exact zn h
 | succ k ih =>
  intro x1 l m x0 g j h
  rw [Xu] at h
  refine Za (sR (Qq (oI rfl (nL (tN (T.seq ?_))))))
  rcases Qh h with ⟨p, h⟩ | ⟨p, h⟩
  refine Qt rfl p (T.skip (tN (T.seq (T.block (sR (Qq (mw rfl ?_)))))))
  obtain ⟨u, aa, h⟩ := bind_some h
  refine oX x1.Next (cL 2 Ql) Qcz i55 aa rfl (oR Sg rfl (aw rfl (aw rfl (nL (tN (T.seq (sR (Qq ?_))))))))
  refine oP Ke i38 rfl (oL 1 Z5 rfl (mw rfl ?_))
  obtain ⟨w, y, h⟩ := bind_some h
  refine oX x1.Rule (cI .i64) Z5 i3 y rfl (oR ul3 rfl (oI rfl (mw rfl ?_)))
  rcases Qh h with ⟨b, h⟩ | ⟨b, h⟩
  refine pf rfl b (pf rfl b (pf rfl b (pf rfl b (pf rfl b (pf rfl b (oY b rfl ?_))))))
  refine mw rfl (pf rfl rfl (pf rfl rfl (pf rfl rfl (pf rfl rfl (pf rfl rfl (pf rfl rfl ?_))))))
  refine pf rfl rfl (oY rfl rfl (nL (tN (Qt rfl rfl ?_))))
  refine Qm ?_ (H3 K h)
  exact tq rfl rfl
  refine sn rfl b (Ur rfl (dk rfl) Ke rfl i38 (by decide) rfl (sn rfl b (Yr (i := 1) rfl (dk rfl) Z5 rfl rfl rfl rfl (sn rfl b (OpT.move rfl (dk rfl) rfl (sn rfl b (Lh (xs := x1.Rule) (f := (cI .i64)) (v := w) rfl (dk rfl) Z5 i3 rfl rfl y (sn rfl b (K7 rfl (dk rfl) ul3 rfl rfl rfl (sn rfl b (Z9 rfl rfl (dk rfl) rfl rfl (oZ b rfl ?_))))))))))))
  refine mw rfl ?_
  rcases Qh h with ⟨a, h⟩ | ⟨a, h⟩
  refine pf rfl a (pf rfl a (pf rfl a (pf rfl a (pf rfl a (pf rfl a (pf rfl a ?_))))))
  refine oY a rfl (nL (tN (Qt rfl rfl ?_)))
  refine Qm ?_ (H3 K h)
  exact tq rfl rfl
  refine sn rfl a (OpT.move rfl (dk rfl) rfl (sn rfl a (Vm (xs := u) (f := Ql) rfl (dk rfl) Sg rfl (sn rfl a (Ur rfl (dk rfl) ul107 rfl i28 (by decide) rfl (sn rfl a (Ur rfl (dk rfl) G4 rfl i24 (by decide) rfl (sn rfl a (Ur rfl (dk rfl) ul24 rfl i3 (by decide) rfl (sn rfl a (Yr (i := 0) rfl (dk rfl) ul3 rfl rfl rfl rfl (sn rfl a (Z9 rfl rfl (dk rfl) rfl rfl ?_)))))))))))))
  refine oZ a rfl (nL (tN ?_))
  rcases Qh h with ⟨q, h⟩ | ⟨q, h⟩
  refine Qt rfl q ?_
  refine Qm ?_ (H3 K h)
  exact tq rfl rfl
  refine Qo rfl q (T.skip (tN (sR (Qq (mw rfl (sp rfl (OpT.makeFunc (vs := [.pointer (some ⟨g, 0, none⟩), .pointer (some ⟨j, 0, none⟩)]) rfl (dk rfl) rfl ?_)))))))
  obtain ⟨ac, ab, h⟩ := bind_some h
  refine sp rfl (Q6 (is := [0, 1]) (ph := []) rfl (dk rfl) fu91 rfl rfl (Zs.cons rfl (Zs.cons rfl Zs.nil)) (F6 K (flx0 := false) (bx1c0 := g) (bx1c1 := j) ab) (.cons rfl rfl (.cons rfl rfl (.nil))) (fun _ => rfl) (fun ad => (nm (.c (.c (.n))) (nL (tN ?_)))))
  rcases Qh h with ⟨s, h⟩ | ⟨s, h⟩
  refine Qt rfl s (sR (Qq (aw rfl (nL (tN (T.ret (Q7 (Qy (Qy (Q7 (Qy (fd rfl (by cases h; exact ⟨rfl, rfl⟩)))))))))))))
  refine Qo rfl s (T.skip (Qj (tN (Qq (oI rfl (mw rfl (nL (tN ?_))))))))
  refine Qg ?_ (ih x1 l (wI (m + (1:Int))) x0 g j h)
  exact tq rfl rfl
  refine Qo rfl p (T.exit (Qk (Qk (Qu (tN (sR (Qq (aw rfl (nL (tN (T.ret (fd rfl (by cases h; exact ⟨rfl, rfl⟩)))))))))))))
theorem T4 (K : Nat) {x0 : Zc} {x1 : Qa} {r : Bool} (h : J6 K x0 x1 = some r) : Z1 tp 55 [.agg ((Zn.dc 256 .u8 x0.Auto.Split.Of) ++ (([.int .i64 x0.Auto.Split.Many, .sl false 2 (mA x0.Auto.Counts), .sl false 4 (x0.Auto.States.map Qf)] : List DC))), .agg [.sl false 1 (mI x1.L), .sl false 1 (mI x1.R), .sl false 1 (mI x1.Rule), .sl false 1 (x1.Next.map (cL 2 Ql))]] [] (.bool r) := by
 refine CI 79 fu55 rfl ?_
 unfold J6 at h
 refine sR (Qq (sp rfl (Zw rfl (dk rfl) rfl (fun l => (sp rfl (Zw rfl (dk rfl) rfl (fun m => (aw rfl (nL (tN (sR (Qq (oP Ke i38 rfl (oL 0 Z5 rfl ?_))))))))))))))
 refine oU x1.R (cI .i64) Z5 rfl ?_
 obtain ⟨v, p, h⟩ := bind_some h
 refine oH fu89 (Z1.nil (auto_Codes_T K p)) rfl (aw rfl (nL (tN (T.seq (sR (Qq (mw rfl (oI rfl ?_))))))))
 refine mw rfl ?_
 rcases Qh h with ⟨b, h⟩ | ⟨b, h⟩
 refine pf rfl b (pf rfl b (pf rfl b (pf rfl b (pf rfl b (oY b rfl (mw rfl ?_))))))
 refine pf rfl rfl (pf rfl rfl (pf rfl rfl (pf rfl rfl (pf rfl rfl (oY rfl rfl (mw rfl ?_))))))
 refine pf rfl rfl (pf rfl rfl (pf rfl rfl (pf rfl rfl (oY rfl rfl (mw rfl (pf rfl rfl ?_))))))
 refine pf rfl rfl (pf rfl rfl (pf rfl rfl (pf rfl rfl (pf rfl rfl (pf rfl rfl (pf rfl rfl ?_))))))
 refine oY rfl rfl (nL (tN (Qt rfl rfl ?_)))
 refine Qm ?_ (Vt K h)
 exact tq rfl rfl
 refine sn rfl b (Ur rfl (dk rfl) Ke rfl i38 (by decide) rfl (sn rfl b (Yr (i := 0) rfl (dk rfl) Z5 rfl rfl rfl rfl (sn rfl b (Vm (xs := x1.Rule) (f := (cI .i64)) rfl (dk rfl) Z5 rfl (sn rfl b (OpT.move rfl (dk rfl) rfl (sn rfl b (Z9 rfl rfl (dk rfl) rfl rfl (oZ b rfl (mw rfl ?_)))))))))))
 rcases Qh h with ⟨d, h⟩ | ⟨d, h⟩
 refine pf rfl d (pf rfl d (pf rfl d (pf rfl d (pf rfl d (oY d rfl (mw rfl ?_))))))
 refine pf rfl rfl (pf rfl rfl (pf rfl rfl (pf rfl rfl (oY rfl rfl (mw rfl (pf rfl rfl ?_))))))
 refine pf rfl rfl (pf rfl rfl (pf rfl rfl (pf rfl rfl (pf rfl rfl (pf rfl rfl (pf rfl rfl ?_))))))
 refine oY rfl rfl (nL (tN (Qt rfl rfl ?_)))
 refine Qm ?_ (Vt K h)
 exact tq rfl rfl
 refine sn rfl d (Ur rfl (dk rfl) Ke rfl i49 (by decide) rfl (sn rfl d (Yr (i := 0) rfl (dk rfl) Qcz rfl rfl rfl rfl (sn rfl d (Vm (xs := x1.Next) (f := (cL 2 Ql)) rfl (dk rfl) Qcz rfl (sn rfl d (OpT.move rfl (dk rfl) rfl (sn rfl d (Z9 rfl rfl (dk rfl) rfl rfl (oZ d rfl (mw rfl ?_)))))))))))
 rcases Qh h with ⟨g, h⟩ | ⟨g, h⟩
 refine pf rfl g (pf rfl g (pf rfl g (pf rfl g (oY g rfl (mw rfl (pf rfl rfl ?_))))))
 refine pf rfl rfl (pf rfl rfl (pf rfl rfl (pf rfl rfl (pf rfl rfl (pf rfl rfl (pf rfl rfl ?_))))))
 refine oY rfl rfl (nL (tN (Qt rfl rfl ?_)))
 refine Qm ?_ (Vt K h)
 exact tq rfl rfl
 refine sn rfl g (Ur rfl (dk rfl) Ke rfl i38 (by decide) rfl (sn rfl g (Yr (i := 0) rfl (dk rfl) Z5 rfl rfl rfl rfl ?_)))
 obtain ⟨w, q, h⟩ := bind_some h
 refine sn rfl g (Jh rfl (dk rfl) fu90 rfl rfl (Zs.cons rfl (Zs.cons rfl Zs.nil)) (Z1.nil (Qdu K (flx0 := false) q)) (sn rfl g (OpT.not rfl (dk rfl) rfl (oZ g rfl (mw rfl ?_)))))
 rcases Qh h with ⟨a, h⟩ | ⟨a, h⟩
 refine pf rfl a (pf rfl a (pf rfl a (pf rfl a (pf rfl a (pf rfl a (pf rfl a ?_))))))
 refine pf rfl a (oY a rfl (nL (tN (Qt rfl rfl ?_))))
 refine Qm ?_ (Vt K h)
 exact tq rfl rfl
 refine sn rfl a (Ur rfl (dk rfl) Ke rfl i38 (by decide) rfl (sn rfl a (Yr (i := 0) rfl (dk rfl) Z5 rfl rfl rfl rfl (sn rfl a (Ur rfl (dk rfl) ul107 rfl i28 (by decide) rfl (sn rfl a (Ur rfl (dk rfl) G4 rfl i25 (by decide) rfl (sn rfl a (Yr (i := 1) rfl (dk rfl) ul25 rfl rfl rfl rfl (sn rfl a (Vm (xs := x0.Auto.Counts) (f := (X2.dc .i64)) rfl (dk rfl) ul25 rfl ?_)))))))))))
 obtain ⟨y, u, h⟩ := bind_some h
 refine sn rfl a (Jh rfl (dk rfl) fu90 rfl rfl (Zs.cons rfl (Zs.cons rfl Zs.nil)) (Z1.nil (Qdu K (flx0 := false) u)) (sn rfl a (OpT.not rfl (dk rfl) rfl (oZ a rfl (nL (tN ?_))))))
 rcases Qh h with ⟨j, h⟩ | ⟨j, h⟩
 refine Qt rfl j ?_
 refine Qm ?_ (Vt K h)
 exact tq rfl rfl
 refine Qo rfl j (T.skip (tN (T.seq (sR (Qq (oP Ke i49 rfl (oL 0 Qcz rfl (oU x1.Next (cL 2 Ql) Qcz rfl ?_))))))))
 refine mw rfl (nL (tN (T.block (T.loop ?_))))
 refine Qg ?_ (Pu K K x1 (x1.Next.length : Int) (0:Int) x0 l m h)
 exact tr rfl (.c (.s .z) (.c .z (.n _)))
abbrev auto_Right_1_q (bx1 : Nat) (x1 : Zc) (r : Bool) : ES := Jz tp ff54 (fun y t => ∃ γ : Nat → Value, y = (.bool r) ∧ t = [(Jx bx1 x1.Auto.Split.Of x1.Auto.Split.Many x1.Auto.Counts x1.Auto.States)])
theorem auto_Right_1_T (K : Nat) {x0 : Qa} {x1 : Zc} {bx1 : Nat} {r : Bool} (h : I3 K x0 x1 = some r) : Ud tp 54 [.agg [.sl false 1 (mI x0.L), .sl false 1 (mI x0.R), .sl false 1 (mI x0.Rule), .sl false 1 (x0.Next.map (cL 2 Ql))], .ptr bx1 0] [(Jx bx1 x1.Auto.Split.Of x1.Auto.Split.Many x1.Auto.Counts x1.Auto.States)] (fun γ => (.bool r)) (fun γ => [(Jx bx1 x1.Auto.Split.Of x1.Auto.Split.Many x1.Auto.Counts x1.Auto.States)]) := by
 refine CI 8 fu54 rfl ?_
 unfold I3 at h
 refine sR (Qq (sp rfl (Zw rfl (dk rfl) rfl (fun b => (aw rfl (nL (tN (sR (Qq (oA 1 ((Zn.dc 256 .u8 x1.Auto.Split.Of) ++ (([.int .i64 x1.Auto.Split.Many, .sl false 2 (mA x1.Auto.Counts), .sl false 4 (x1.Auto.States.map Qf)] : List DC))) ul107 i107 rfl (oA 0 [.sl false 1 (mI x0.L), .sl false 1 (mI x0.R), .sl false 1 (mI x0.Rule), .sl false 1 (x0.Next.map (cL 2 Ql))] Ke i51 rfl ?_)))))))))))
 obtain ⟨c, a, h⟩ := bind_some h
 refine oH fu55 (Z1.nil (T4 K a)) rfl (oT rfl (aw rfl (nL (tN (T.ret (Q1 (.cons _ _ _ _ (.tmp 3 _ rfl) .nil) (.cons 1 rfl (.nil _)) (by cases h; exact ⟨gl [], rfl, rfl⟩)))))))
abbrev Oc (bx1c0 : Nat) (x1c0 : Zc) (r : Int) : ES := Jz tp ff88 (fun y t => ∃ γ : Nat → Value, y = (.int .i64 r) ∧ t = [(Jx bx1c0 x1c0.Auto.Split.Of x1c0.Auto.Split.Many x1c0.Auto.Counts x1c0.Auto.States)])
abbrev Ey (bx1c0 : Nat) (x1c0 : Zc) (r : Int) : ES := fT 19 [1,1] ff88 (Oc bx1c0 x1c0 r)
abbrev C7 (bx1c0 : Nat) (x1c0 : Zc) (r : Int) : ES := Qz 0 ((Ey bx1c0 x1c0 r))
theorem Ez {r : Int} (K bx1c0 : Nat) (x1c0 : Zc) : ∀ (k : Nat), ∀ (x0 : List Qa) (a b : Int) (x1c0 : Zc) (flx0 : Bool), Yo K k x0 a b x1c0 = some r → TL tp 19 (ca [1,0,1,0,0] ff88) ⟨[(0, .sl flx0 4 (x0.map Qf)), (1, .c (.ex (.func (.func 54) #[] #[.pointer (some ⟨bx1c0, 0, none⟩)]))), (7, .int .i64 a), (8, .int .i64 b)], [(Jx bx1c0 x1c0.Auto.Split.Of x1c0.Auto.Split.Many x1c0.Auto.Counts x1c0.Auto.States)]⟩ (C7 bx1c0 x1c0 r) := by
 intro k
 induction k with
 | zero =>
  intro x0 a b x1c0 flx0 h
  exact zn h
 | succ k ih =>
  intro x0 a b x1c0 flx0 h
  rw [Yo] at h
  refine Za (sR (Qq (oI rfl (nL (tN (T.seq ?_))))))
  rcases Qh h with ⟨g, h⟩ | ⟨g, h⟩
  refine Qt rfl g (T.skip (tN (T.seq (T.block (sR (Qq (mw rfl (aw rfl ?_))))))))
  refine nL (tN (sR (Qq ?_)))
  iterate 3 refine mw rfl ?_
  obtain ⟨j, l, h⟩ := bind_some h
  refine oX x0 Qf He i51 l rfl (oJ Ke i51 rfl ?_)
  obtain ⟨p, m, h⟩ := bind_some h
  refine sp rfl (I4 (f := 54) (vs := [.pointer (some ⟨bx1c0, 0, none⟩)]) rfl rfl (dk rfl) fu54 rfl rfl (Q6 (is := [0]) (ph := []) rfl (dk rfl) fu54 rfl rfl (Zs.cons rfl (Zs.cons rfl Zs.nil)) (auto_Right_1_T K (bx1 := bx1c0) m) (.cons rfl rfl (.nil)) (fun _ => rfl) (fun q => (nm (.c (.n)) (nL (tN ?_))))))
  rcases Qh h with ⟨i, h⟩ | ⟨i, h⟩
  refine Qt rfl i (sR (Qq (mw rfl (aw rfl (nL (tN (T.ret (Q7 (Qy (Qy (Q7 (Qy (Q1 (.cons _ _ _ _ (.tmp 4 _ rfl) .nil) (.cons 0 rfl (.nil _)) (by cases h; exact ⟨gl [], rfl, rfl⟩))))))))))))))
  refine Qo rfl i (T.skip (Qj (tN (Qq (oI rfl (mw rfl (nL (tN ?_))))))))
  refine Qg ?_ (ih x0 a (wI (b + (1:Int))) x1c0 flx0 h)
  exact tq rfl rfl
  refine Qo rfl g (T.exit (Qk (Qk (Qu (tN (sR (Qq (aw rfl (nL (tN (T.ret (Q1 (.cons _ _ _ _ (.tmp 4 _ rfl) .nil) (.cons 0 rfl (.nil _)) (by cases h; exact ⟨gl [], rfl, rfl⟩)))))))))))))
theorem Od (K : Nat) {x0 : List Qa} {x1c0 : Zc} {flx0 : Bool} {bx1c0 : Nat} {r : Int} (h : Jn K x0 x1c0 = some r) : Ud tp 88 [.sl flx0 4 (x0.map Qf), .c (.ex (.func (.func 54) #[] #[.pointer (some ⟨bx1c0, 0, none⟩)]))] [(Jx bx1c0 x1c0.Auto.Split.Of x1c0.Auto.Split.Many x1c0.Auto.Counts x1c0.Auto.States)] (fun γ => (.int .i64 r)) (fun γ => [(Jx bx1c0 x1c0.Auto.Split.Of x1c0.Auto.Split.Many x1c0.Auto.Counts x1c0.Auto.States)]) := by
 refine CI 19 fu88 rfl ?_
 unfold Jn at h
 refine sR (Qq (aw rfl (nL (tN (T.seq (sR (Qq (mw rfl (oU x0 Qf He rfl ?_)))))))))
 refine mw rfl (nL (tN (T.block (T.loop ?_))))
 refine Qg ?_ (Ez K bx1c0 x1c0 K x0 (x0.length : Int) (0:Int) x1c0 flx0 h)
 exact tq rfl rfl
abbrev Qe2 (bx1c0 : Nat) (x1c0 : Zc) (r : Bool) : ES := Jz tp ff53 (fun y t => ∃ γ : Nat → Value, y = (.bool r) ∧ t = [(Jx bx1c0 x1c0.Auto.Split.Of x1c0.Auto.Split.Many x1c0.Auto.Counts x1c0.Auto.States)])
theorem E0 (K : Nat) {x0 : List Qa} {x1c0 : Zc} {flx0 : Bool} {bx1c0 : Nat} {r : Bool} (h : Vc K x0 x1c0 = some r) : Ud tp 53 [.sl flx0 4 (x0.map Qf), .c (.ex (.func (.func 54) #[] #[.pointer (some ⟨bx1c0, 0, none⟩)]))] [(Jx bx1c0 x1c0.Auto.Split.Of x1c0.Auto.Split.Many x1c0.Auto.Counts x1c0.Auto.States)] (fun γ => (.bool r)) (fun γ => [(Jx bx1c0 x1c0.Auto.Split.Of x1c0.Auto.Split.Many x1c0.Auto.Counts x1c0.Auto.States)]) := by
 refine CI 9 fu53 rfl ?_
 unfold Vc at h
 refine sR (Qq (aw rfl (nL (tN (sR (Qq (mw rfl (mw rfl ?_))))))))
 obtain ⟨b, a, h⟩ := bind_some h
 refine sp rfl (Q6 (is := [0]) (ph := []) rfl (dk rfl) fu88 rfl rfl (Zs.cons rfl (Zs.cons rfl Zs.nil)) (Od K (flx0 := flx0) (bx1c0 := bx1c0) a) (.cons rfl rfl (.nil)) (fun _ => rfl) (fun f => (nm (.c (.n)) (oI rfl (aw rfl (nL (tN (T.ret (Q1 (.cons _ _ _ _ (.tmp 4 _ rfl) .nil) (.cons 0 rfl (.nil _)) (by cases h; exact ⟨gl [], rfl, rfl⟩))))))))))
end Go.Rv

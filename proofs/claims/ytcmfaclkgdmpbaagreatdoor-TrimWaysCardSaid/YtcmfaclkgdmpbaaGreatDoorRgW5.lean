/- Each function computes what its plain text says: printed by a program of ours. -/
import Derived.Test.YtcmfaclkgdmpbaaGreatDoorRgW4
namespace Go.Rv
open Go.Proofs
set_option maxRecDepth 100000
set_option maxHeartbeats 4000000
set_option linter.unusedVariables false
abbrev Qfn (r : List Bool) : ES := U6 tp ff12 (fun y t => y = (.sl false 1 (r.map cB)) ∧ t = [])
abbrev Qcs (r : List Bool) : ES := fT 85 [1,1,1,1,1,1] ff12 (Qfn r)
abbrev D7 (r : List Bool) : ES := Qx 0 ((Qcs r))
abbrev Qai (r : List Bool) : ES := fL 85 [1,1,1,1,1,0,1,0,0] ff12 (D7 r)
abbrev Om (r : List Bool) : ES := fT 85 [1,1,1,1,1,0,1,0,0,1,1,1] ff12 (Qai r)
abbrev G0 (r : List Bool) : ES := Qx 1 ((Om r))
abbrev C0 (r : List Bool) : ES := Qx 2 ((G0 r))
abbrev Qba (r : List Bool) : ES := fT 85 [1,1,1,1,1,1,1] ff12 (Qfn r)
abbrev Cz (r : List Bool) : ES := Qx 4 ((Qba r))
abbrev Td (r : List Bool) : ES := fL 85 [1,1,1,1,1,1,0,1,0,0] ff12 (Cz r)
abbrev Nk (r : List Bool) (go : Qm → Int → Int → (List Bool) → (List (List Int)) → (List Int) → Option (List Bool)) : Prop := ∀ (x0 : Qm) (a b : Int) (f : List Bool) (g : List (List Int)) (i : List Int) (j l : Value) (m : Nat) (n : Value), go x0 a b f g i = some r → TL tp 85 (ca [1,1,1,1,1,0,1,0,0] ff12) ⟨[(3, .c (.ex j)), (4, .c (.ex l)), (5, .ptr m 0), (24, .sl false 4 (x0.States.map Qd)), (25, .int .i64 a), (26, .int .i64 b)], [.arrX j 4 1 0 (f.map cB), .arrG l 38 (gc 3 1 (cI .i64) g), (Pc m n), .arrX n 3 1 0 (mI i)]⟩ (D7 r)
theorem trim_Live_l4_T {r : List Bool} (K : Nat) (go0 : Qm → Int → Int → (List Bool) → (List (List Int)) → (List Int) → Option (List Bool)) (hgo0 : Nk r go0) : ∀ (k : Nat), ∀ (j : Int) (x0 : Qm) (ad af : Int) (ag : List Qc) (al am : Int) (ai : List Bool) (m : List (List Int)) (aj : List Int) (q b : Value) (aa : Nat) (ab : Value), Hn K go0 k j x0 ad af ag al am ai m aj = some r → TL tp 85 (ca [1,1,1,1,1,0,1,0,0,1,1,0,0,1,1,1,0,0] ff12) ⟨[(3, .c (.ex q)), (4, .c (.ex b)), (5, .ptr aa 0), (6, .int .i64 j), (24, .sl false 4 (x0.States.map Qd)), (25, .int .i64 ad), (26, .int .i64 af), (39, .sl false 2 (ag.map Qi)), (40, .int .i64 al), (41, .int .i64 am)], [.arrX q 4 1 0 (ai.map cB), .arrG b 38 (gc 3 1 (cI .i64) m), (Pc aa ab), .arrX ab 3 1 0 (mI aj)]⟩ (C0 r) := by
 intro k
 induction k with
 | zero =>
  intro j x0 ad af ag al am ai m aj q b aa ab h
  exact zn h
 | succ k ih =>
  intro j x0 ad af ag al am ai m aj q b aa ab h
  rw [Hn] at h
  refine Q3 (sR (Qq (oI rfl (nL (tN (T.seq ?_))))))
  rcases Qe h with ⟨ap, h⟩ | ⟨ap, h⟩
  refine Qp rfl ap (T.skip (tN (T.seq (T.block (sR (Qq ?_))))))
  obtain ⟨g, au, h⟩ := bind_some h
  refine oX ag Qi E2 i54 au rfl (oJ Bi i54 rfl (sp rfl (Zb rfl (dk rfl) i54 rfl (fun ac => (sp rfl (Qu (i := 0) (cells' := [.d (.int .i64 g.To), .d (.sl false 1 (mU g.Ops))]) rfl rfl i54 rfl rfl rfl rfl (nb rfl) rfl (nL (tN (sR (Qq (oP Bi i3 rfl (oL 0 ul3 rfl ?_))))))))))))
  refine oI rfl (nL (tN ?_))
  rcases Qe h with ⟨aq, h⟩ | ⟨aq, h⟩
  refine Qp rfl aq (Qk Yc (Qk Yc (Uv (gM rfl (fun _ => .f rfl) (fun _ => rfl) (gP rfl (fun _ => .f rfl) Bi i3 (fun _ => rfl) (gL 2 rfl (fun _ => .f rfl) ul3 (fun _ => rfl) ?_))))))
  refine gM rfl (fun _ => .f rfl) (fun _ => rfl) (gP rfl (fun _ => .f rfl) Bi i3 (fun _ => rfl) (gL 2 rfl (fun _ => .f rfl) ul3 (fun _ => rfl) ?_))
  obtain ⟨p, an, h⟩ := bind_some h
  refine dC (c := ⟨some 54, .el b 1 (Int.toNat g.To) 0, [(51, .c (.ex b)), (53, .int .i64 g.To)], [(4, .arrG b 38 (gc 3 1 (cI .i64) m))], []⟩) (fun t hm => oF rfl rfl (Ri (n := 4) (l := m) (y := p) rfl (dk rfl) ul72 i38 hm.s0 hm.o0 hm.s1 an ⟨u0, rfl⟩)) (fun _ => rfl) (fun _ => rfl) (DGG.step (c := fun a => ⟨some 55, .c (.ex ((a 7).1 0)), [(54, .el b 1 (Int.toNat g.To) 0)], [(4, .arrG b 38 (gc 3 1 (cI .i64) m)), (0, .ro 0 [])], [(4, .arrG b 38 (gh 3 1 (cI .i64) m (Int.toNat g.To) ((a 7).1 0))), (0, .arrA ((a 7).1 0) 3 1 (mI p))]⟩) [7] (fun a γ' h => by simp only [h 7 (by decide)]) (fun a t hm => oF rfl rfl (Qef (i := 4) (kk := 0) (l := m) (y := p) rfl (dk rfl) Zu rfl hm.s0 hm.o0 (Zp an).2 hm.o1 (fun w => ⟨(fun _ => w, 0), rfl⟩))) (fun a => Zj rfl rfl) (gM rfl (fun _ => .f rfl) (fun _ => rfl) (dC (c := ⟨some 57, .sl true 1 ([j].map (cI .i64)), [(56, .int .i64 j)], [], []⟩) (fun t hm => oF rfl rfl (OpT.buildSlice (elems := ([j] : List Int).map (cI .i64)) rfl (dk rfl) Zu i3 (by decide) rfl (G9 rfl) (Yx hm.s0 rfl Gi) rfl rfl (Vg rfl) (by decide) ⟨u0, rfl⟩)) (fun _ => rfl) (fun _ => rfl) ?_)))
  obtain ⟨av, h⟩ := Q6 h
  refine DGG.step (c := fun a => ⟨some 58, .c (.ex ((a 10).1 0)), [(57, .sl true 1 ([j].map (cI .i64))), (55, .c (.ex ((a 7).1 0)))], [(0, .arrA ((a 7).1 0) 3 1 (mI p))], [(0, .arrA ((a 10).1 0) 3 1 ((p ++ [j]).map (cI .i64)))]⟩) [7, 10] (fun a γ' h => by simp only [h 7 (by decide), h 10 (by decide)]) (fun a t hm => oF rfl rfl (Zr (i := 0) (xs := p) (ys := [j]) (f := (cI .i64)) rfl (dk rfl) Zu i3 rfl hm.s1 hm.o0 hm.s0 av (fun w => ⟨(fun _ => w, 0), rfl⟩))) (fun a => Zj rfl rfl) (DGG.step (c := fun a => ⟨some 59, .el b 1 (Int.toNat g.To) 0, [(48, .c (.ex b)), (50, .int .i64 g.To)], [(4, .arrG b 38 (gh 3 1 (cI .i64) m (Int.toNat g.To) ((a 7).1 0)))], []⟩) [7] (fun a γ' h => by simp only [h 7 (by decide)]) (fun a t hm => oF rfl rfl (Qcj (n := 4) (l := m) (y := p) rfl (dk rfl) ul72 i38 hm.s0 hm.o0 hm.s1 an ⟨u0, rfl⟩)) (fun a => Zj rfl rfl) (DGG.step (c := fun a => ⟨none, .any, [(59, .el b 1 (Int.toNat g.To) 0), (58, .c (.ex ((a 10).1 0)))], [(4, .arrG b 38 (gh 3 1 (cI .i64) m (Int.toNat g.To) ((a 7).1 0))), (0, .arrA ((a 10).1 0) 3 1 ((p ++ [j]).map (cI .i64)))], [(4, .arrG b 38 (gc 3 1 (cI .i64) (List.set m (Int.toNat g.To) (p ++ [j])))), (0, .ro 0 [])]⟩) [7, 10] (fun a γ' h => by simp only [h 7 (by decide), h 10 (by decide)]) (fun a t hm => oF rfl rfl (Qci (i := 4) (kk := 0) (l := m) (old := p) (y' := (p ++ [j])) rfl rfl i38 hm.s0 hm.s1 hm.o0 (Zp an).2 hm.o1 ⟨u0, rfl⟩)) (fun a => Zj rfl rfl) (gF [0,0,2,0,0,16,56,120,0,256,1016,2047,4095] Qz rfl (by kernel_rfl) (fun _ => by kernel_rfl) (fun a u hu => (Qn (tN (Qk hu (Qq (oI rfl (mw rfl ?_))))))))))
  refine nL (tN ?_)
  refine Qg ?_ (ih j x0 ad af ag al (wI (am + (1:Int))) ai (List.set m (Int.toNat g.To) (p ++ [j])) aj q b aa ab h)
  exact tr rfl (.c (.s (.s (.s .z))) (.c (.s (.s (.s .z))) (.c (.s (.s (.s .z))) (.c (.s (.s (.s .z))) (.n _)))))
  refine Qo rfl aq (T.skip (Qn (tN (Qq (oI rfl (mw rfl (nL (tN ?_))))))))
  refine Qg ?_ (ih j x0 ad af ag al (wI (am + (1:Int))) ai m aj q b aa ab h)
  exact tr rfl (.c (.s .z) (.c (.s .z) (.c (.s .z) (.c (.s .z) (.n _)))))
  refine Qo rfl ap (T.exit (Ql (Ql (Qr (Qn (tN (Qq (oI rfl (mw rfl (nL (tN ?_)))))))))))
  refine Qg ?_ (hgo0 x0 ad (wI (af + (1:Int))) ai m aj q b aa ab h)
  exact tq rfl rfl
theorem Qat {r : List Bool} (K : Nat) (go0 : Qm → Int → Int → (List Bool) → (List (List Int)) → (List Int) → Option (List Bool)) (hgo0 : Nk r go0) (a : Int) (x0 : Qm) (b g : Int) (j : List Bool) (m : List (List Int)) (p q : List Int) (s u : List Int) (v : List (List Qc)) (w y : Value) (aa : Nat) (ab : Value) (ad : Nat) (h : Mn K go0 a x0 b g j m p q s u v = some r) : T tp 85 (ca [1,1,1,1,1,0,1,0,0,1,1,0,0,1,1] ff12) ⟨[(3, .c (.ex w)), (4, .c (.ex y)), (5, .ptr aa 0), (6, .int .i64 a), (7, .ptr ad 0), (24, .sl false 4 (x0.States.map Qd)), (25, .int .i64 b), (26, .int .i64 g)], [.arrX w 4 1 0 (j.map cB), .arrG y 38 (gc 3 1 (cI .i64) m), (Pc aa ab), .arrX ab 3 1 0 (mI p), (K3 ad q s u v)]⟩ (G0 r) := by
 unfold Mn at h
 refine sR (Qq (oA 4 [.sl false 1 (mI q), .sl false 1 (mI s), .sl false 1 (mI u), .sl false 1 (v.map (cL 2 Qi))] Ju i51 rfl ?_))
 obtain ⟨ac, af, h⟩ := bind_some h
 refine oH fu33 (Zl.nil (Tb K af)) rfl (oU ac Qi E2 rfl (mw rfl (nL (tN (T.block (T.loop ?_))))))
 refine Qg ?_ (trim_Live_l4_T K go0 hgo0 K a x0 b g ac (ac.length : Int) (0:Int) j m p w y aa ab h)
 exact tq rfl rfl
abbrev Qar (r : List Bool) (go : Int → Bool → (List Bool) → (List (List Int)) → (List Int) → Option (List Bool)) : Prop := ∀ (a : Int) (b : Bool) (f : List Bool) (g : List (List Int)) (i : List Int) (j l : Value) (m : Nat) (n : Value), go a b f g i = some r → TL tp 85 (ca [1,1,1,1,1,1,0,1,0,0] ff12) ⟨[(3, .c (.ex j)), (4, .c (.ex l)), (5, .ptr m 0), (10, .int .i64 a), (11, .bool b)], [.arrX j 4 1 0 (f.map cB), .arrG l 38 (gc 3 1 (cI .i64) g), (Pc m n), .arrX n 3 1 0 (mI i)]⟩ (Cz r)
theorem Qas {r : List Bool} (K : Nat) (go2 : Int → Bool → (List Bool) → (List (List Int)) → (List Int) → Option (List Bool)) (hgo2 : Qar r go2) (b : List Bool) (f : List (List Int)) (p : List Int) (g i : Value) (a : Nat) (j : Value) (h : I8 K go2 b f p = some r) : T tp 85 (ca [1,1,1,1,1,1,0,1,0,0,1,1] ff12) ⟨[(3, .c (.ex g)), (4, .c (.ex i)), (5, .ptr a 0)], [.arrX g 4 1 0 (b.map cB), .arrG i 38 (gc 3 1 (cI .i64) f), (Pc a j), .arrX j 3 1 0 (mI p)]⟩ (Td r) := by
 unfold I8 at h
 refine Qq ?_
 obtain ⟨m, q, h⟩ := bind_some h
 refine sp rfl (Q4 (is := [2, 3]) (ph := []) rfl (dk rfl) fu34 rfl rfl (Zk.cons rfl Zk.nil) (D6 K (bx0 := a) (wx0c0 := j) q) (.cons rfl rfl (.cons rfl rfl (.nil))) (fun _ => rfl) (fun s => (nm (.c (.c (.c (.c (.n))))) (mw rfl (oE rfl (oE rfl (aw rfl (aw rfl ?_))))))))
 refine nL (tN ?_)
 refine Qg ?_ (hgo2 m.1 m.2.1 b f m.2.2.l g i a (s 0) h)
 exact tq rfl rfl
theorem trim_Live_l2_T {r : List Bool} (K : Nat) : ∀ (k : Nat), Qar r (Vv K k) := by
 intro k
 induction k with
 | zero =>
  intro v ac a b w m p d q h
  exact zn h
 | succ k ih =>
  intro v ac a b w m p d q h
  rw [Vv] at h
  refine Q3 (T.seq (sR (Qq (mw rfl (nL (tN ?_))))))
  rcases Qe h with ⟨s, h⟩ | ⟨s, h⟩
  refine Qp rfl s (T.skip (tN (T.seq (T.block (sR (Qq (mw rfl (mw rfl ?_))))))))
  obtain ⟨g, j, h⟩ := bind_some h
  refine sp rfl (Z0 (n := 0) (xs := a) (f := cB) (old := g) rfl (dk rfl) ul33 i4 rfl rfl rfl j (sp rfl (Jv (i := 0) (xs := a) (f := cB) (old := g) rfl (dk rfl) ul4 rfl rfl rfl (Zp j).2 rfl (oT rfl (nL (tN ?_))))))
  rcases Qe h with ⟨u, h⟩ | ⟨u, h⟩
  refine Qp rfl u (sR (Qq (mw rfl (mw rfl (sp rfl (Z0 (n := 0) (xs := a) (f := cB) (old := g) rfl (dk rfl) ul33 i4 rfl rfl rfl j (sp rfl (Wc (i := 0) (xs := a) (f := cB) (old := g) (new := true) rfl rfl i4 rfl rfl rfl (Zp j).2 (Qgx _) (nb rfl) rfl (nL (tN ?_))))))))))
  refine Qq (mw rfl (mw rfl ?_))
  obtain ⟨aa, ab, h⟩ := bind_some h
  refine sp rfl (Ri (n := 1) (l := b) (y := aa) rfl (dk rfl) ul72 i38 rfl rfl rfl ab (sp rfl (OpT.loadGM (i := 1) (l := b) (y := aa) rfl (dk rfl) Zu rfl rfl rfl (Zp ab).2 ?_)))
  obtain ⟨ad, af, h⟩ := bind_some h
  refine sp rfl (Q4 (is := [2, 3]) (ph := []) rfl (dk rfl) fu32 rfl rfl (Zk.cons rfl (Zk.cons rfl Zk.nil)) (Cy K (bx0 := d) (wx0c0 := q) (flx1 := false) af) (.cons rfl rfl (.cons rfl rfl (.nil))) (fun _ => rfl) (fun ag => (nm (.c (.c (.c (.c (.n))))) (nL (Qn (tN ?_))))))
  refine Qk ?_ (Qas K (Vv K k) ih (List.set a (Int.toNat v) true) b ad.l m p d (ag 0) h)
  exact tq rfl rfl
  refine Qo rfl u (T.skip (Qn (tN ?_)))
  refine Qk ?_ (Qas K (Vv K k) ih a b w m p d q h)
  exact tq rfl rfl
  refine Qo rfl s (T.exit (Ql (Ql (Qr (tN (sR (Qq (mw rfl (aw rfl (nL (tN (T.ret ?_))))))))))))
  refine Xr (Gn 0 rfl) (Xr (Zy.view 2 0 rfl rfl) (fd rfl (by cases h; exact ⟨rfl, rfl⟩)))
theorem trim_Live_l0_T {r : List Bool} (K : Nat) : ∀ (k : Nat), Nk r (Vw K k) := by
 intro k
 induction k with
 | zero =>
  intro x0 w b j m ac p q g u h
  exact zn h
 | succ k ih =>
  intro x0 w b j m ac p q g u h
  rw [Vw] at h
  refine Q3 (sR (Qq (oI rfl (nL (tN (T.seq ?_))))))
  rcases Qe h with ⟨y, h⟩ | ⟨y, h⟩
  refine Qp rfl y (T.skip (tN (T.seq (T.block (sR (Qq (mw rfl ?_)))))))
  obtain ⟨a, af, h⟩ := bind_some h
  refine oX x0.States Qd Uh i51 af rfl (oJ Ju i51 rfl (sp rfl (Zb rfl (dk rfl) i51 rfl (fun ad => (aw rfl (sp rfl (Qu (i := 0) (cells' := [.d (.sl false 1 (mI a.L)), .d (.sl false 1 (mI a.R)), .d (.sl false 1 (mI a.Rule)), .d (.sl false 1 (a.Next.map (cL 2 Qi)))]) rfl rfl i51 rfl rfl rfl rfl (nb rfl) rfl (nL (tN (T.seq ?_))))))))))
  refine sR (Qq (oP Ju i38 rfl (oL 0 Zu rfl ?_)))
  obtain ⟨ap, ag, h⟩ := bind_some h
  refine oH fu31 (Zl.nil (Qe0 K (flx0 := false) ag)) rfl (oI rfl (nL (tN ?_)))
  rcases Qe h with ⟨aa, h⟩ | ⟨aa, h⟩
  refine Qp rfl aa (Qq (mw rfl (sp rfl (OpT.buildSlice (elems := ([b] : List Int).map (cI .i64)) rfl (dk rfl) Zu i3 (by decide) rfl (G9 rfl) rfl rfl rfl (Vg rfl) (by decide) ?_))))
  obtain ⟨ai, aj, h⟩ := bind_some h
  refine sp rfl (Q4 (is := [3, 4]) (ph := []) rfl (dk rfl) fu32 rfl rfl (Zk.cons rfl (Zk.cons rfl Zk.nil)) (Cy K (bx0 := g) (wx0c0 := u) (flx1 := true) aj) (.cons rfl rfl (.cons rfl rfl (.nil))) (fun _ => rfl) (fun al => (nm (.c (.c (.c (.c (.c (.n)))))) (nL (tN ?_)))))
  refine Qk ?_ (Qat K (Vw K k) ih b x0 w b j m ai.l a.L a.R a.Rule a.Next p q g (al 0) ad h)
  exact tr rfl (.c (.s .z) (.c (.s .z) (.c (.s .z) (.c (.s .z) (.c .z (.n _))))))
  refine Qo rfl aa (T.skip (tN ?_))
  refine Qk ?_ (Qat K (Vw K k) ih b x0 w b j m ac a.L a.R a.Rule a.Next p q g u ad h)
  exact tr rfl (.c (.s .z) (.c (.s .z) (.c (.s .z) (.c (.s .z) (.c .z (.n _))))))
  refine Qo rfl y (T.exit (Ql (Ql (Qr (tN (T.seq (sR (Qq ?_))))))))
  obtain ⟨ab, am, h⟩ := bind_some h
  refine sp rfl (Q4 (is := [2, 3]) (ph := []) rfl (dk rfl) fu34 rfl rfl (Zk.cons rfl Zk.nil) (D6 K (bx0 := g) (wx0c0 := u) am) (.cons rfl rfl (.cons rfl rfl (.nil))) (fun _ => rfl) (fun an => (nm (.c (.c (.c (.c (.n))))) (mw rfl (oE rfl (oE rfl (aw rfl (aw rfl ?_))))))))
  refine nL (tN (T.block (T.loop ?_)))
  refine Qg ?_ (trim_Live_l2_T K K ab.1 ab.2.1 j m ab.2.2.l p q g (an 0) h)
  exact tq rfl rfl
theorem trim_Live_T (K : Nat) {x0 : Qm} {r : List Bool} (h : Te K x0 = some r) : Zl tp 12 [.agg ((Zg.dc 256 .u8 x0.Split.Of) ++ (([.int .i64 x0.Split.Many, .sl false 2 (mA x0.Counts), .sl false 4 (x0.States.map Qd)] : List DC)))] [] (.sl false 1 (r.map cB)) := by
 refine CI 85 fu12 rfl ?_
 unfold Te at h
 refine sR (Qq (sp rfl (Zc rfl (dk rfl) rfl (fun u => (aw rfl (nL (tN (T.seq (sR (Qq (oA 0 ((Zg.dc 256 .u8 x0.Split.Of) ++ (([.int .i64 x0.Split.Many, .sl false 2 (mA x0.Counts), .sl false 4 (x0.States.map Qd)] : List DC))) Jl i28 rfl ?_)))))))))))
 obtain ⟨v, d, h⟩ := bind_some h
 refine oH fu24 (Zl.nil (T5 K d)) rfl (oT rfl (nL (tN ?_)))
 rcases Qe h with ⟨a, h⟩ | ⟨a, h⟩
 refine Qp rfl a (sR (Qq (aw rfl (nL (tN (T.ret (Qv (Xr (Pg 2 false 1 rfl) (fd rfl (by cases h; exact ⟨rfl, rfl⟩))))))))))
 refine Qo rfl a (T.skip (tN (sR (Qq (oP Jl i26 rfl (oL 0 Uh rfl (oU x0.States Qd Uh rfl ?_)))))))
 obtain ⟨b, h⟩ := Q6 h
 obtain ⟨g, h⟩ := Q6 h
 refine sp rfl (Gp (f := cB) (zv := (false : Bool)) rfl (dk rfl) ul33 i4 (by decide) rfl rfl rfl rfl rfl b g (fun j => (aw rfl (nL (tN (sR (Qq (oP Jl i26 rfl (oL 1 Uh rfl (oU x0.States Qd Uh rfl ?_))))))))))
 obtain ⟨m, h⟩ := Q6 h
 refine sp rfl (Og (e1 := 3) (esz := 1) (f := (cI .i64)) rfl (dk rfl) ul72 i38 rfl rfl b m (fun p => (aw rfl (nL (tN (sR (Qq (sp rfl (Zb rfl (dk rfl) i74 rfl (fun q => (nL (tN (T.seq (sR (Qq ?_)))))))))))))))
 refine oP Jl i26 rfl (oL 3 Uh rfl (oU x0.States Qd Uh rfl (mw rfl (nL (tN (T.block (T.loop ?_)))))))
 refine Qg (Qga 3 1) ?_
 refine Qg ?_ (trim_Live_l0_T K K x0 (x0.States.length : Int) (0:Int) (List.replicate (Int.toNat (x0.States.length : Int)) (false : Bool)) (List.replicate (Int.toNat (x0.States.length : Int)) ([] : List Int)) [] j p q (Qdv 19) h)
 exact tr rfl (.c (.s (.s (.s .z))) (.c (.s (.s .z)) (.c (.s .z) (.c .z (.n _)))))
abbrev slices_Clone_int_q (r : List Int) : ES := U6 tp ff95 (fun y t => y = (.sl false 1 (mI r)) ∧ t = [])
theorem Un (K : Nat) {x0 : List Int} {flx0 : Bool} {r : List Int} (h : Xk K x0 = some r) : Zl tp 95 [.sl flx0 1 (mI x0)] [] (.sl false 1 (mI r)) := by
 refine CI 8 fu95 rfl ?_
 unfold Xk at h
 refine sR (Qq (aw rfl (nL (tN (T.seq (sR (Qq (mw rfl (sp rfl (Qgf (xs := x0) (f := (cI .i64)) rfl (dk rfl) Zu rfl rfl (fun b c => ?_)))))))))))
 refine nL (tN ?_)
 rcases Bool.eq_false_or_eq_true b with a | a
 have hx := c a
 replace h : (some []) = some r := by first | (rw [hx] at h; exact h) | exact h
 refine Qp rfl a (sR (Qq (aw rfl (nL (tN (T.ret (Qv (Xr (Pg 2 false 1 rfl) (fd rfl (by cases h; exact ⟨rfl, rfl⟩))))))))))
 refine Qo rfl a (T.skip (tN (sR (Qq (sp rfl (OpT.buildSlice (elems := ([] : List Int).map (cI .i64)) rfl (dk rfl) Zu i3 (by decide) rfl (G9 rfl) rfl rfl rfl (Vg rfl) (by decide) (mw rfl ?_)))))))
 obtain ⟨d, h⟩ := Q6 h
 refine sp rfl (Oi (xs := ([] : List Int)) (ys := x0) (f := (cI .i64)) rfl (dk rfl) Zu i3 rfl rfl rfl (.inr rfl) d (fun g => (aw rfl (nL (tN (T.ret (Xr (Zy.view 2 0 rfl rfl) (fd rfl (by cases h; exact ⟨rfl, rfl⟩)))))))))
abbrev slices_Clone_uint8_q (r : List Int) : ES := U6 tp ff94 (fun y t => y = (.sl false 1 (mU r)) ∧ t = [])
theorem D9 (K : Nat) {x0 : List Int} {flx0 : Bool} {r : List Int} (h : Um K x0 = some r) : Zl tp 94 [.sl flx0 1 (mU x0)] [] (.sl false 1 (mU r)) := by
 refine CI 8 fu94 rfl ?_
 unfold Um at h
 refine sR (Qq (aw rfl (nL (tN (T.seq (sR (Qq (mw rfl (sp rfl (Qgf (xs := x0) (f := (cI .u8)) rfl (dk rfl) B6 rfl rfl (fun b c => ?_)))))))))))
 refine nL (tN ?_)
 rcases Bool.eq_false_or_eq_true b with a | a
 have hx := c a
 replace h : (some []) = some r := by first | (rw [hx] at h; exact h) | exact h
 refine Qp rfl a (sR (Qq (aw rfl (nL (tN (T.ret (Qv (Xr (Pg 2 false 1 rfl) (fd rfl (by cases h; exact ⟨rfl, rfl⟩))))))))))
 refine Qo rfl a (T.skip (tN (sR (Qq (sp rfl (OpT.buildSlice (elems := ([] : List Int).map (cI .u8)) rfl (dk rfl) B6 i5 (by decide) rfl (G9 rfl) rfl rfl rfl (Vg rfl) (by decide) (mw rfl ?_)))))))
 obtain ⟨d, h⟩ := Q6 h
 refine sp rfl (Oi (xs := ([] : List Int)) (ys := x0) (f := (cI .u8)) rfl (dk rfl) B6 i5 rfl rfl rfl (.inr rfl) d (fun g => (aw rfl (nL (tN (T.ret (Xr (Zy.view 2 0 rfl rfl) (fd rfl (by cases h; exact ⟨rfl, rfl⟩)))))))))
abbrev Qa1 (bx0 : Nat) (wx1 : Value) (x1 : List Int) (r : Qb) : ES := U6 tp Qcm (fun y t => ∃ γ : Nat → Value, y = (.tup []) ∧ t = [(U3 bx0 r.Auto.Split.Of r.Auto.Split.Many r.Auto.Counts r.Auto.States), .arrX wx1 3 1 0 (mI x1)])
abbrev Rx (bx0 : Nat) (wx1 : Value) (x1 : List Int) (r : Qb) : ES := fT 102 [1,1] Qcm (Qa1 bx0 wx1 x1 r)
abbrev Mm (bx0 : Nat) (wx1 : Value) (x1 : List Int) (r : Qb) : ES := Qx 0 ((Rx bx0 wx1 x1 r))
abbrev Oj (bx0 : Nat) (wx1 : Value) (x1 : List Int) (r : Qb) : ES := fL 102 [1,0,1,0,0] Qcm (Mm bx0 wx1 x1 r)
abbrev Ec (bx0 : Nat) (wx1 : Value) (x1 : List Int) (r : Qb) : ES := fT 102 [1,0,1,0,0,1,1,1] Qcm (Oj bx0 wx1 x1 r)
abbrev Bk (bx0 : Nat) (wx1 : Value) (x1 : List Int) (r : Qb) : ES := Qx 1 ((Ec bx0 wx1 x1 r))
abbrev Bj (bx0 : Nat) (wx1 : Value) (x1 : List Int) (r : Qb) : ES := fT 102 [1,0,1,0,0,1,1,0,0,1,1,1] Qcm (Bk bx0 wx1 x1 r)
abbrev Uk (bx0 : Nat) (wx1 : Value) (x1 : List Int) (r : Qb) : ES := Qx 2 ((Bj bx0 wx1 x1 r))
abbrev Mu (bx0 : Nat) (wx1 : Value) (x1 : List Int) (r : Qb) : ES := fL 102 [1,0,1,0,0,1,1,0,0,1,1,0,1,0,0] Qcm (Uk bx0 wx1 x1 r)
abbrev Lp (bx0 : Nat) (wx1 : Value) (x1 : List Int) (r : Qb) : ES := fT 102 [1,0,1,0,0,1,1,0,0,1,1,0,1,0,0,1,1,1] Qcm (Mu bx0 wx1 x1 r)
abbrev We (bx0 : Nat) (wx1 : Value) (x1 : List Int) (r : Qb) : ES := Qx 3 ((Lp bx0 wx1 x1 r))
abbrev X2 (bx0 : Nat) (wx1 : Value) (x1 : List Int) (r : Qb) : ES := Qx 4 ((We bx0 wx1 x1 r))
abbrev Ga (bx0 : Nat) (wx1 : Value) (x1 : List Int) (r : Qb) : ES := fL 102 [1,0,1,0,0,1,1,0,0,1,1,0,1,0,0,1,1,0,0,1,1,0,0] Qcm (X2 bx0 wx1 x1 r)
abbrev Wd (bx0 : Nat) (wx1 : Value) (x1 : List Int) (r : Qb) : ES := fT 102 [1,0,1,0,0,1,1,0,0,1,1,0,1,0,0,1,1,0,0,1,1,0,0,1,1,1] Qcm (Ga bx0 wx1 x1 r)
abbrev Yq (bx0 : Nat) (wx1 : Value) (x1 : List Int) (r : Qb) : ES := Qx 5 ((Wd bx0 wx1 x1 r))
abbrev Jj (bx0 : Nat) (wx1 : Value) (x1 : List Int) (r : Qb) : ES := fT 102 [1,0,1,0,0,1,1,0,0,1,1,0,1,0,0,1,1,0,0,1,1,0,0,1,1,0,0,1,1,1] Qcm (Yq bx0 wx1 x1 r)
abbrev Gq (bx0 : Nat) (wx1 : Value) (x1 : List Int) (r : Qb) (go : Int → Int → Qb → Int → Int → (List (List Qc)) → Int → Int → (List Qc) → Int → Int → (List Int) → (List Qa) → (List Int) → (List Int) → (List Int) → (List (List Qc)) → (List (List Qc)) → Option Qb) : Prop := ∀ (a b : Int) (x0 : Qb) (f g : Int) (i : List (List Qc)) (j l : Int) (m : List Qc) (n p : Int) (x1 : List Int) (q : List Qa) (s u v : List Int) (w y : List (List Qc)) (z : Value) (aa : Nat) (ab : Value), go a b x0 f g i j l m n p x1 q s u v w y = some r → TL tp 102 (ca [1,0,1,0,0,1,1,0,0,1,1,0,1,0,0,1,1,0,0,1,1,0,0] Qcm) ⟨[(0, .ptr bx0 0), (1, .c (.ex wx1)), (4, .c (.ex z)), (5, .int .i64 a), (6, .ptr aa 0), (7, .c (.ex ab)), (8, .int .i64 b), (24, .sl false 4 (x0.Auto.States.map Qd)), (25, .int .i64 f), (26, .int .i64 g), (36, .sl false 1 (i.map (cL 2 Qi))), (37, .int .i64 j), (38, .int .i64 l), (43, .sl false 2 (m.map Qi)), (44, .int .i64 n), (45, .int .i64 p)], [(U3 bx0 x0.Auto.Split.Of x0.Auto.Split.Many x0.Auto.Counts x0.Auto.States), .arrX wx1 3 1 0 (mI x1), .arrX z 51 4 0 (q.map Qd), (K3 aa s u v w), .arrG ab 55 (gc 54 2 Qi y)]⟩ (X2 bx0 wx1 x1 r)
theorem By {r : Qb} (K bx0 : Nat) (wx1 : Value) (x1 : List Int) (go2 : Int → Int → Qb → Int → Int → (List (List Qc)) → Int → Int → (List Qc) → Int → Int → (List Int) → (List Qa) → (List Int) → (List Int) → (List Int) → (List (List Qc)) → (List (List Qc)) → Option Qb) (hgo2 : Gq bx0 wx1 x1 r go2) (ac g : Int) (x0 : Qb) (ad af : Int) (ag : List (List Qc)) (ai aj : Int) (al : List Qc) (am an : Int) (x1 : List Int) (ap : List Qa) (aq au av : List Int) (ay p : List (List Qc)) (j : Int) (m : List Int) (v : Value) (aa : Nat) (b : Value) (ab : Nat) (h : Vq K go2 ac g x0 ad af ag ai aj al am an x1 ap aq au av ay p j m = some r) : T tp 102 (ca [1,0,1,0,0,1,1,0,0,1,1,0,1,0,0,1,1,0,0,1,1,0,0,1,1,0,0,1,1,1] Qcm) ⟨[(0, .ptr bx0 0), (1, .c (.ex wx1)), (4, .c (.ex v)), (5, .int .i64 ac), (6, .ptr aa 0), (7, .c (.ex b)), (8, .int .i64 g), (12, .ptr ab 0), (24, .sl false 4 (x0.Auto.States.map Qd)), (25, .int .i64 ad), (26, .int .i64 af), (36, .sl false 1 (ag.map (cL 2 Qi))), (37, .int .i64 ai), (38, .int .i64 aj), (43, .sl false 2 (al.map Qi)), (44, .int .i64 am), (45, .int .i64 an)], [(U3 bx0 x0.Auto.Split.Of x0.Auto.Split.Many x0.Auto.Counts x0.Auto.States), .arrX wx1 3 1 0 (mI x1), .arrX v 51 4 0 (ap.map Qd), (K3 aa aq au av ay), .arrG b 55 (gc 54 2 Qi p), (Qaw ab j m)]⟩ (Yq bx0 wx1 x1 r) := by
 unfold Vq at h
 refine Qk Yc (Qk Yc (Uv (gM rfl (fun _ => .f rfl) (fun _ => rfl) (gM rfl (fun _ => .f rfl) (fun _ => rfl) (gM rfl (fun _ => .f rfl) (fun _ => rfl) (gM rfl (fun _ => .f rfl) (fun _ => rfl) ?_))))))
 obtain ⟨q, az, h⟩ := bind_some h
 refine dC (c := ⟨some 74, .el b 1 (Int.toNat g) 0, [(72, .c (.ex b)), (73, .int .i64 g)], [(6, .arrG b 55 (gc 54 2 Qi p))], []⟩) (fun t hm => oF rfl rfl (Ri (n := 6) (l := p) (y := q) rfl (dk rfl) If i55 hm.s0 hm.o0 hm.s1 az ⟨u0, rfl⟩)) (fun _ => rfl) (fun _ => rfl) (DGG.step (c := fun a => ⟨some 75, .c (.ex ((a 5).1 0)), [(74, .el b 1 (Int.toNat g) 0)], [(6, .arrG b 55 (gc 54 2 Qi p)), (0, .ro 0 [])], [(6, .arrG b 55 (gh 54 2 Qi p (Int.toNat g) ((a 5).1 0))), (0, .arrA ((a 5).1 0) 54 2 (q.map Qi))]⟩) [5] (fun a γ' h => by simp only [h 5 (by decide)]) (fun a t hm => oF rfl rfl (Qef (i := 6) (kk := 0) (l := p) (y := q) rfl (dk rfl) E2 rfl hm.s0 hm.o0 (Zp az).2 hm.o1 (fun w => ⟨(fun _ => w, 0), rfl⟩))) (fun a => Zj rfl rfl) (gW 7 [.int .i64 j, .sl false 1 (mU m)] rfl (fun _ => .f rfl) Bi i54 (fun _ => rfl) (dC (c := ⟨some 77, .sl true 2 ([(Qc.mk j m)].map Qi), [(76, .agg [.int .i64 j, .sl false 1 (mU m)])], [], []⟩) (fun t hm => oF rfl rfl (OpT.buildSlice (elems := ([(Qc.mk j m)] : List Qc).map Qi) rfl (dk rfl) E2 i54 (by decide) rfl (G9 rfl) (Yx hm.s0 rfl Gi) rfl rfl (Vg rfl) (by decide) ⟨u0, rfl⟩)) (fun _ => rfl) (fun _ => rfl) ?_)))
 obtain ⟨a0, h⟩ := Q6 h
 refine DGG.step (c := fun a => ⟨some 78, .c (.ex ((a 8).1 0)), [(77, .sl true 2 ([(Qc.mk j m)].map Qi)), (75, .c (.ex ((a 5).1 0)))], [(0, .arrA ((a 5).1 0) 54 2 (q.map Qi))], [(0, .arrA ((a 8).1 0) 54 2 ((q ++ [(Qc.mk j m)]).map Qi))]⟩) [5, 8] (fun a γ' h => by simp only [h 5 (by decide), h 8 (by decide)]) (fun a t hm => oF rfl rfl (Zr (i := 0) (xs := q) (ys := [(Qc.mk j m)]) (f := Qi) rfl (dk rfl) E2 i54 rfl hm.s1 hm.o0 hm.s0 a0 (fun w => ⟨(fun _ => w, 0), rfl⟩))) (fun a => Zj rfl rfl) (DGG.step (c := fun a => ⟨some 79, .el b 1 (Int.toNat g) 0, [(70, .c (.ex b)), (71, .int .i64 g)], [(6, .arrG b 55 (gh 54 2 Qi p (Int.toNat g) ((a 5).1 0)))], []⟩) [5] (fun a γ' h => by simp only [h 5 (by decide)]) (fun a t hm => oF rfl rfl (Qcj (n := 6) (l := p) (y := q) rfl (dk rfl) If i55 hm.s0 hm.o0 hm.s1 az ⟨u0, rfl⟩)) (fun a => Zj rfl rfl) (DGG.step (c := fun a => ⟨none, .any, [(79, .el b 1 (Int.toNat g) 0), (78, .c (.ex ((a 8).1 0)))], [(6, .arrG b 55 (gh 54 2 Qi p (Int.toNat g) ((a 5).1 0))), (0, .arrA ((a 8).1 0) 54 2 ((q ++ [(Qc.mk j m)]).map Qi))], [(6, .arrG b 55 (gc 54 2 Qi (List.set p (Int.toNat g) (q ++ [(Qc.mk j m)])))), (0, .ro 0 [])]⟩) [5, 8] (fun a γ' h => by simp only [h 5 (by decide), h 8 (by decide)]) (fun a t hm => oF rfl rfl (Qci (i := 6) (kk := 0) (l := p) (old := q) (y' := (q ++ [(Qc.mk j m)])) rfl rfl i55 hm.s0 hm.s1 hm.o0 (Zp az).2 hm.o1 ⟨u0, rfl⟩)) (fun a => Zj rfl rfl) (gF [0,0,0,0,12,28,0,64,252,511,1023] Qz rfl (by kernel_rfl) (fun _ => by kernel_rfl) (fun a u hu => (Qn (tN (Qk hu (Qq (oI rfl (mw rfl ?_))))))))))
 refine nL (tN ?_)
 refine Qg ?_ (hgo2 ac g x0 ad af ag ai aj al am (wI (an + (1:Int))) x1 ap aq au av ay (List.set p (Int.toNat g) (q ++ [(Qc.mk j m)])) v aa b h)
 exact tr rfl (.c (.s (.s .z)) (.c (.s (.s .z)) (.c (.s (.s .z)) (.c (.s (.s .z)) (.c (.s (.s .z)) (.n _))))))
theorem Bx {r : Qb} (K bx0 : Nat) (wx1 : Value) (x1 : List Int) (go2 : Int → Int → Qb → Int → Int → (List (List Qc)) → Int → Int → (List Qc) → Int → Int → (List Int) → (List Qa) → (List Int) → (List Int) → (List Int) → (List (List Qc)) → (List (List Qc)) → Option Qb) (hgo2 : Gq bx0 wx1 x1 r go2) (a b : Int) (x0 : Qb) (f g : Int) (i : List (List Qc)) (j l : Int) (m : List Qc) (p q : Int) (x1 : List Int) (s : List Qa) (u v w : List Int) (y aa : List (List Qc)) (ab : Value) (ac : Nat) (ad : Value) (af : Nat) (h : Vp K go2 a b x0 f g i j l m p q x1 s u v w y aa = some r) : T tp 102 (ca [1,0,1,0,0,1,1,0,0,1,1,0,1,0,0,1,1,0,0,1,1,0,0,1,1,0,0,1,1,0,1,1] Qcm) ⟨[(0, .ptr bx0 0), (1, .c (.ex wx1)), (4, .c (.ex ab)), (5, .int .i64 a), (6, .ptr ac 0), (7, .c (.ex ad)), (8, .int .i64 b), (12, .ptr af 0), (24, .sl false 4 (x0.Auto.States.map Qd)), (25, .int .i64 f), (26, .int .i64 g), (36, .sl false 1 (i.map (cL 2 Qi))), (37, .int .i64 j), (38, .int .i64 l), (43, .sl false 2 (m.map Qi)), (44, .int .i64 p), (45, .int .i64 q)], [(U3 bx0 x0.Auto.Split.Of x0.Auto.Split.Many x0.Auto.Counts x0.Auto.States), .arrX wx1 3 1 0 (mI x1), .arrX ab 51 4 0 (s.map Qd), (K3 ac u v w y), .arrG ad 55 (gc 54 2 Qi aa), (Qaw af (-1:Int) ([] : List Int))]⟩ (Jj bx0 wx1 x1 r) := by
 unfold Vp at h
 refine T.skip (tN ?_)
 refine Qk ?_ (By K bx0 wx1 x1 go2 hgo2 a b x0 f g i j l m p q x1 s u v w y aa (-1:Int) [] ab ac ad af h)
 exact tq rfl rfl
abbrev Bv (bx0 : Nat) (wx1 : Value) (x1 : List Int) (r : Qb) (go : Int → Qb → Int → Int → (List (List Qc)) → Int → Int → (List Int) → (List Qa) → (List Int) → (List Int) → (List Int) → (List (List Qc)) → (List (List Qc)) → Option Qb) : Prop := ∀ (a : Int) (x0 : Qb) (b f : Int) (g : List (List Qc)) (i j : Int) (x1 : List Int) (l : List Qa) (m n p : List Int) (q s : List (List Qc)) (u : Value) (v : Nat) (w : Value), go a x0 b f g i j x1 l m n p q s = some r → TL tp 102 (ca [1,0,1,0,0,1,1,0,0,1,1,0,1,0,0] Qcm) ⟨[(0, .ptr bx0 0), (1, .c (.ex wx1)), (4, .c (.ex u)), (5, .int .i64 a), (6, .ptr v 0), (7, .c (.ex w)), (24, .sl false 4 (x0.Auto.States.map Qd)), (25, .int .i64 b), (26, .int .i64 f), (36, .sl false 1 (g.map (cL 2 Qi))), (37, .int .i64 i), (38, .int .i64 j)], [(U3 bx0 x0.Auto.Split.Of x0.Auto.Split.Many x0.Auto.Counts x0.Auto.States), .arrX wx1 3 1 0 (mI x1), .arrX u 51 4 0 (l.map Qd), (K3 v m n p q), .arrG w 55 (gc 54 2 Qi s)]⟩ (Uk bx0 wx1 x1 r)
theorem Ry {r : Qb} (K bx0 : Nat) (wx1 : Value) (x1 : List Int) (go1 : Int → Qb → Int → Int → (List (List Qc)) → Int → Int → (List Int) → (List Qa) → (List Int) → (List Int) → (List Int) → (List (List Qc)) → (List (List Qc)) → Option Qb) (hgo1 : Bv bx0 wx1 x1 r go1) : ∀ (k : Nat), Gq bx0 wx1 x1 r (Zv K go1 k) := by
 intro k
 induction k with
 | zero =>
  intro aa au x0 ab ac ad af ag ai av ay x1 aj al am an ap aq q w y h
  exact zn h
 | succ k ih =>
  intro aa au x0 ab ac ad af ag ai av ay x1 aj al am an ap aq q w y h
  rw [Zv] at h
  refine Q3 (sR (Qq (oI rfl (nL (tN (T.seq ?_))))))
  rcases Qe h with ⟨a0, h⟩ | ⟨a0, h⟩
  refine Qp rfl a0 (T.skip (tN (T.seq (T.block (sR (Qq ?_))))))
  obtain ⟨a, a2, h⟩ := bind_some h
  refine oX ai Qi E2 i54 a2 rfl (oJ Bi i54 rfl (sp rfl (Zb rfl (dk rfl) i54 rfl (fun j => (sp rfl (Qu (i := 0) (cells' := [.d (.int .i64 a.To), .d (.sl false 1 (mU a.Ops))]) rfl rfl i54 rfl rfl rfl rfl (nb rfl) rfl (nL (tN (sR (Qq (sp rfl (Zm (OpT.build (l := [.int .i64 (-1:Int), .ex (.slice none 0 0)]) rfl (dk rfl) (Zq (pl := [(0, 1), (1, 1)]) Bi i54 rfl) (G9 rfl) rfl rfl rfl) (Z5 49 (l := [.int .i64 (-1:Int), .ex (.slice none 0 0)]) (l' := [.int .i64 (-1:Int), .sl false 1 (([] : List Int).map (cI .u8))]) (.cons (.same _) (.cons (.nil _ _) (.refl _)))) (sp rfl (Zb rfl (dk rfl) i54 rfl (fun p => ?_)))))))))))))))
  refine sp rfl (Qu (i := 0) (cells' := [.d (.int .i64 (-1:Int)), .d (.sl false 1 (([] : List Int).map (cI .u8)))]) rfl rfl i54 rfl rfl rfl rfl (nb rfl) rfl (nL (tN (T.seq (sR (Qq (oP Bi i3 rfl (oL 1 ul3 rfl (oI rfl ?_)))))))))
  refine mw rfl ?_
  rcases Qe h with ⟨b, h⟩ | ⟨b, h⟩
  refine sn rfl b (OpT.move rfl (dk rfl) rfl (sn rfl b (Xi rfl (dk rfl) Bi rfl i3 (by decide) rfl (sn rfl b (Zw (i := 1) rfl (dk rfl) ul3 rfl rfl rfl rfl ?_)))))
  obtain ⟨g, az, h⟩ := bind_some h
  refine sn rfl b (Z0 (n := 3) (xs := x1) (f := (cI .i64)) (old := g) rfl (dk rfl) Zu i3 rfl rfl rfl az (sn rfl b (Jv (i := 3) (xs := x1) (f := (cI .i64)) (old := g) rfl (dk rfl) ul3 rfl rfl rfl (Zp az).2 rfl (sn rfl b (Zi rfl rfl (dk rfl) rfl rfl (oY b rfl (nL (tN ?_))))))))
  rcases Qe h with ⟨a1, h⟩ | ⟨a1, h⟩
  refine Qp rfl a1 (Yg (dV rfl rfl (dP rfl (.f rfl) Bi i3 rfl (dL 1 rfl (.f rfl) ul3 rfl (dS (c := ⟨some 64, .el wx1 1 (Int.toNat a.To) 0, [(61, .c (.ex wx1)), (63, .int .i64 a.To)], [(3, .arrX wx1 3 1 0 (mI x1))], []⟩) (fun t hm => oF rfl rfl (Z0 (n := 3) (xs := x1) (f := (cI .i64)) (old := g) rfl (dk rfl) Zu i3 hm.s0 hm.o0 hm.s1 az rfl)) rfl rfl (dS (c := ⟨some 65, .int .i64 g, [(64, .el wx1 1 (Int.toNat a.To) 0)], [(3, .arrX wx1 3 1 0 (mI x1))], []⟩) (fun t hm => oF rfl rfl (Jv (i := 3) (xs := x1) (f := (cI .i64)) (old := g) rfl (dk rfl) ul3 rfl hm.s0 hm.o0 (Zp az).2 rfl rfl)) rfl rfl ?_))))))
  refine dP rfl (.f rfl) Bi i52 rfl (dL 1 rfl (.f rfl) B6 rfl ?_)
  obtain ⟨m, a3, h⟩ := bind_some h
  refine dH fu94 (Zl.nil (D9 K (flx0 := false) a3)) rfl (.f rfl) rfl (dS (c := ⟨some 69, .agg [.int .i64 g, .sl false 1 (mU m)], [(65, .int .i64 g), (68, .sl false 1 (mU m))], [], []⟩) (fun t hm => oF rfl rfl (OpT.build (l := [.int .i64 g, .sl false 1 (mU m)]) rfl (dk rfl) (Zq (pl := [(0, 1), (1, 1)]) Bi i54 rfl) (G9 rfl) (Yx hm.s0 rfl (Yx hm.s1 rfl Gi)) rfl rfl)) rfl rfl (dS (c := ⟨none, .any, [(12, .ptr p 0), (69, .agg [.int .i64 g, .sl false 1 (mU m)])], [(0, (Qaw p (-1:Int) ([] : List Int)))], [(0, (Qaw p g m))]⟩) (fun t hm => oF rfl rfl (Qu (i := 0) (cells' := [.d (.int .i64 g), .d (.sl false 1 (mU m))]) rfl rfl i54 hm.s0 hm.s1 rfl hm.o0 (nb rfl) rfl rfl)) rfl rfl (dF [0,0,2,7,15,0,32,96,255,511] Qz rfl (by kernel_rfl) (fun u hu => (tN (Qk hu ?_))))))
  refine Qk ?_ (By K bx0 wx1 x1 (Zv K go1 k) ih aa au x0 ab ac ad af ag ai av ay x1 aj al am an ap aq g m q w y p h)
  exact tr rfl (.c (.s (.s .z)) (.c (.s (.s .z)) (.c (.s (.s .z)) (.c (.s (.s .z)) (.c (.s (.s .z)) (.c .z (.n _)))))))
  refine Qo rfl a1 ?_
  refine Qk ?_ (Bx K bx0 wx1 x1 (Zv K go1 k) ih aa au x0 ab ac ad af ag ai av ay x1 aj al am an ap aq q w y p h)
  exact tr rfl (.c (.s (.s .z)) (.c (.s (.s .z)) (.c (.s (.s .z)) (.c (.s (.s .z)) (.c (.s (.s .z)) (.c .z (.n _)))))))
  refine pf rfl b (pf rfl b (pf rfl b (pf rfl b (pf rfl b (pf rfl b (oZ b rfl ?_))))))
  refine nL (tN (Qo rfl rfl ?_))
  refine Qk ?_ (Bx K bx0 wx1 x1 (Zv K go1 k) ih aa au x0 ab ac ad af ag ai av ay x1 aj al am an ap aq q w y p h)
  exact tr rfl (.c (.s (.s .z)) (.c (.s (.s .z)) (.c (.s (.s .z)) (.c (.s (.s .z)) (.c (.s (.s .z)) (.c .z (.n _)))))))
  refine Qo rfl a0 (T.exit (Ql (Ql (Qr (Qn (tN (Qq (oI rfl (mw rfl (nL (tN ?_)))))))))))
  refine Qg ?_ (hgo1 aa x0 ab ac ad af (wI (ag + (1:Int))) x1 aj al am an ap aq q w y h)
  exact tq rfl rfl
abbrev Bw (bx0 : Nat) (wx1 : Value) (x1 : List Int) (r : Qb) (go : Qb → Int → Int → (List Int) → (List Qa) → Option Qb) : Prop := ∀ (x0 : Qb) (a b : Int) (x1 : List Int) (f : List Qa) (g : Value), go x0 a b x1 f = some r → TL tp 102 (ca [1,0,1,0,0] Qcm) ⟨[(0, .ptr bx0 0), (1, .c (.ex wx1)), (4, .c (.ex g)), (24, .sl false 4 (x0.Auto.States.map Qd)), (25, .int .i64 a), (26, .int .i64 b)], [(U3 bx0 x0.Auto.Split.Of x0.Auto.Split.Many x0.Auto.Counts x0.Auto.States), .arrX wx1 3 1 0 (mI x1), .arrX g 51 4 0 (f.map Qd)]⟩ (Mm bx0 wx1 x1 r)
theorem Rz {r : Qb} (K bx0 : Nat) (wx1 : Value) (x1 : List Int) (go0 : Qb → Int → Int → (List Int) → (List Qa) → Option Qb) (hgo0 : Bw bx0 wx1 x1 r go0) : ∀ (k : Nat), Bv bx0 wx1 x1 r (Yk K go0 k) := by
 intro k
 induction k with
 | zero =>
  intro s x0 ac ad ag am ai x1 j w y aa ab b g a aj h
  exact zn h
 | succ k ih =>
  intro s x0 ac ad ag am ai x1 j w y aa ab b g a aj h
  rw [Yk] at h
  refine Q3 (sR (Qq (oI rfl (nL (tN (T.seq ?_))))))
  rcases Qe h with ⟨al, h⟩ | ⟨al, h⟩
  refine Qp rfl al (T.skip (tN (T.seq (T.block (sR (Qq (mw rfl ?_)))))))
  obtain ⟨af, aq, h⟩ := bind_some h
  refine oX ag (cL 2 Qi) If i55 aq rfl (oR E2 rfl (aw rfl (aw rfl (nL (tN (sR (Qq (mw rfl (oU af Qi E2 rfl ?_)))))))))
  refine mw rfl (nL (tN (T.block (T.loop ?_))))
  refine Qg ?_ (Ry K bx0 wx1 x1 (Yk K go0 k) ih K s ai x0 ac ad ag am ai af (af.length : Int) (0:Int) x1 j w y aa ab b g a aj h)
  exact tq rfl rfl
  refine Qo rfl al (T.exit (Ql (Ql (Qr (tN (Qk (Zy.dataG (l := b) 4 rfl) (Qk (Gn 4 rfl) (Qk (Zy.view 7 4 rfl rfl) (Yg (dV rfl rfl ?_))))))))))
  refine dV rfl rfl (dP rfl (.f rfl) Ju i38 rfl (dL 3 rfl (.f rfl) Zu rfl ?_))
  obtain ⟨m, au, h⟩ := bind_some h
  refine dH fu95 (Zl.nil (Un K (flx0 := false) au)) rfl (.f rfl) rfl (dP rfl (.f rfl) Ju i38 rfl (dL 3 rfl (.f rfl) Zu rfl ?_))
  obtain ⟨p, av, h⟩ := bind_some h
  refine dH fu95 (Zl.nil (Un K (flx0 := false) av)) rfl (.f rfl) rfl (dP rfl (.f rfl) Ju i38 rfl (dL 3 rfl (.f rfl) Zu rfl ?_))
  obtain ⟨q, ay, h⟩ := bind_some h
  refine dH fu95 (Zl.nil (Un K (flx0 := false) ay)) rfl (.f rfl) rfl (dV rfl rfl (dS (c := ⟨some 94, .agg [.sl false 1 (mI m), .sl false 1 (mI p), .sl false 1 (mI q), .sl false 1 (b.map (cL 2 Qi))], [(86, .sl false 1 (mI m)), (89, .sl false 1 (mI p)), (92, .sl false 1 (mI q)), (93, .sl false 1 (b.map (cL 2 Qi)))], [], []⟩) (fun t hm => oF rfl rfl (OpT.build (l := [.sl false 1 (mI m), .sl false 1 (mI p), .sl false 1 (mI q), .sl false 1 (b.map (cL 2 Qi))]) rfl (dk rfl) (Zq (pl := [(0, 1), (1, 1), (2, 1), (3, 1)]) Ju i51 rfl) (G9 rfl) (Yx hm.s0 rfl (Yx hm.s1 rfl (Yx hm.s2 rfl (Yx hm.s3 rfl Gi)))) rfl rfl)) rfl rfl ?_))
  obtain ⟨an, ap, h⟩ := bind_some h
  refine dS (c := ⟨some 95, .el g 4 (Int.toNat s) 0, [(82, .c (.ex g)), (83, .int .i64 s)], [(2, .arrX g 51 4 0 (j.map Qd))], []⟩) (fun t hm => oF rfl rfl (Z0 (n := 2) (xs := j) (f := Qd) (old := an) rfl (dk rfl) Uh i51 hm.s0 hm.o0 hm.s1 ap rfl)) rfl rfl (dS (c := ⟨none, .any, [(95, .el g 4 (Int.toNat s) 0), (94, .agg [.sl false 1 (mI m), .sl false 1 (mI p), .sl false 1 (mI q), .sl false 1 (b.map (cL 2 Qi))])], [(2, .arrX g 51 4 0 (j.map Qd))], [(2, .arrX g 51 4 0 ((List.set j (Int.toNat s) (Qa.mk m p q b)).map Qd))]⟩) (fun t hm => oF rfl rfl (Qay (i := 2) (xs := j) (f := Qd) (old := an) (new := (Qa.mk m p q b)) rfl rfl i51 hm.s0 hm.s1 rfl hm.o0 (Zp ap).2 (Qgx _) (nb rfl) rfl rfl)) rfl rfl (dF [0,0,0,4,12,0,32,124,0,256,1020,0,4092,8191,16383] Qz rfl (by kernel_rfl) (fun u hu => (Qn (tN (Qk hu (Qq (oI rfl (mw rfl (nL (tN ?_)))))))))))
  refine Qg ?_ (hgo0 x0 ac (wI (ad + (1:Int))) x1 (List.set j (Int.toNat s) (Qa.mk m p q b)) g h)
  exact tq rfl rfl
theorem R0 {r : Qb} (K bx0 : Nat) (wx1 : Value) (x1 : List Int) : ∀ (k : Nat), Bw bx0 wx1 x1 r (Yl K k) := by
 intro k
 induction k with
 | zero =>
  intro x0 p g x1 j b h
  exact zn h
 | succ k ih =>
  intro x0 p g x1 j b h
  rw [Yl] at h
  refine Q3 (sR (Qq (oI rfl (nL (tN (T.seq ?_))))))
  rcases Qe h with ⟨m, h⟩ | ⟨m, h⟩
  refine Qp rfl m (T.skip (tN (T.seq (T.block (sR (Qq (mw rfl ?_)))))))
  obtain ⟨a, q, h⟩ := bind_some h
  refine oX x0.Auto.States Qd Uh i51 q rfl (oJ Ju i51 rfl (sp rfl (Zb rfl (dk rfl) i51 rfl (fun u => (aw rfl (sp rfl (Qu (i := 0) (cells' := [.d (.sl false 1 (mI a.L)), .d (.sl false 1 (mI a.R)), .d (.sl false 1 (mI a.Rule)), .d (.sl false 1 (a.Next.map (cL 2 Qi)))]) rfl rfl i51 rfl rfl rfl rfl (nb rfl) rfl (nL (tN (sR (Qq (oP Ju i49 rfl ?_))))))))))))
  refine oL 0 If rfl (oU a.Next (cL 2 Qi) If rfl ?_)
  obtain ⟨w, h⟩ := Q6 h
  obtain ⟨y, h⟩ := Q6 h
  refine sp rfl (Og (e1 := 54) (esz := 2) (f := Qi) rfl (dk rfl) If i55 rfl rfl w y (fun aa => (aw rfl (nL (tN (T.seq (sR (Qq (oP Ju i49 rfl (oL 1 If rfl ?_))))))))))
  refine oU a.Next (cL 2 Qi) If rfl (mw rfl (nL (tN (T.block (T.loop ?_)))))
  refine Qg ?_ (Rz K bx0 wx1 x1 (Yl K k) ih K g x0 p g a.Next (a.Next.length : Int) (0:Int) x1 j a.L a.R a.Rule a.Next (List.replicate (Int.toNat (a.Next.length : Int)) ([] : List Qc)) b u aa h)
  exact tr rfl (.c (.s (.s .z)) (.c (.s (.s .z)) (.c (.s (.s .z)) (.c (.s .z) (.c .z (.n _))))))
  refine Qo rfl m (T.exit (Ql (Ql (Qr (tN (Qq (mw rfl (mw rfl (oK rfl (oP ul69 i28 rfl ?_))))))))))
  refine oP Jl i26 rfl (sp rfl (Jd (i := 0) (cells' := ((Zg.oc 256 .u8 x0.Auto.Split.Of) ++ (([.d (.int .i64 x0.Auto.Split.Many), .d (.sl false 2 (mA x0.Auto.Counts)), .d (.ex b)]:List OC)))) rfl rfl i26 rfl rfl rfl (nb rfl) rfl (nL (Xr (Gn 2 rfl) (Xr (Hs 0 (l := ((Zg.dc 256 .u8 x0.Auto.Split.Of) ++ (([.int .i64 x0.Auto.Split.Many, .sl false 2 (mA x0.Auto.Counts), .ex b] : List DC)))) (l' := ((Zg.dc 256 .u8 x0.Auto.Split.Of) ++ (([.int .i64 x0.Auto.Split.Many, .sl false 2 (mA x0.Auto.Counts), .sl false 4 (j.map Qd)] : List DC)))) rfl (.app _ (.cons (.same _) (.cons (.same _) (.cons (.view 2 rfl) (.refl _)))))) (Q2 (.nil) (.cons 0 rfl (.cons 0 rfl (.nil _))) (by cases h; exact ⟨gl [], rfl, rfl⟩)))))))
theorem E4 (K : Nat) {x0 : Qb} {x1 : List Int} {bx0 : Nat} {wx1 : Value} {r : Qb} (h : Vc K x0 x1 = some r) : V6 tp 56 [.ptr bx0 0, .c (.ex wx1)] [(U3 bx0 x0.Auto.Split.Of x0.Auto.Split.Many x0.Auto.Counts x0.Auto.States), .arrX wx1 3 1 0 (mI x1)] (fun γ => (.tup [])) (fun γ => [(U3 bx0 r.Auto.Split.Of r.Auto.Split.Many r.Auto.Counts r.Auto.States), .arrX wx1 3 1 0 (mI x1)]) := by
 refine CI 102 fu56 rfl ?_
 unfold Vc at h
 refine sR (Qq (mw rfl (oK rfl (oP ul69 i28 rfl (oP Jl i26 rfl (oL 0 Uh rfl (oU x0.Auto.States Qd Uh rfl ?_)))))))
 obtain ⟨a, h⟩ := Q6 h
 obtain ⟨b, h⟩ := Q6 h
 refine sp rfl (Qaz (f := Qd) (zv := ((Qa.mk [] [] [] []) : Qa)) rfl (dk rfl) Uh i51 (by decide) rfl rfl (fun _ => .cons (.nil _ _) (.cons (.nil _ _) (.cons (.nil _ _) (.cons (.nil _ _) (.refl _))))) rfl rfl rfl a b (fun g => (aw rfl (nL (tN (T.seq (sR (Qq (mw rfl (oK rfl ?_))))))))))
 refine oP ul69 i28 rfl (oP Jl i26 rfl (oL 1 Uh rfl (oU x0.Auto.States Qd Uh rfl (mw rfl (nL (tN (T.block ?_)))))))
 refine T.loop ?_
 refine Qg ?_ (R0 K bx0 wx1 x1 K x0 (x0.Auto.States.length : Int) (0:Int) x1 (List.replicate (Int.toNat (x0.Auto.States.length : Int)) ((Qa.mk [] [] [] []) : Qa)) g h)
 exact tr rfl (.c (.s .z) (.c (.s .z) (.c .z (.n _))))
abbrev Qa5 (bx0 : Nat) (r : Qb) : ES := U6 tp ff26 (fun y t => ∃ γ : Nat → Value, y = (.tup []) ∧ t = [(U3 bx0 r.Auto.Split.Of r.Auto.Split.Many r.Auto.Counts r.Auto.States)])
abbrev R7 (bx0 : Nat) (r : Qb) : ES := fT 36 [1,1] ff26 (Qa5 bx0 r)
abbrev Ol (bx0 : Nat) (r : Qb) : ES := Qx 0 ((R7 bx0 r))
theorem R8 {r : Qb} (K bx0 : Nat) : ∀ (k : Nat), ∀ (g : List Bool) (l a : Int) (x0 : Qb) (b : List Int) (j : Value), Yz K k g l a x0 b = some r → TL tp 36 (ca [1,0,1,0,0] ff26) ⟨[(0, .ptr bx0 0), (2, .c (.ex j)), (16, .sl false 1 (g.map cB)), (17, .int .i64 l), (18, .int .i64 a)], [(U3 bx0 x0.Auto.Split.Of x0.Auto.Split.Many x0.Auto.Counts x0.Auto.States), .arrX j 3 1 0 (mI b)]⟩ (Ol bx0 r) := by
 intro k
 induction k with
 | zero =>
  intro g l a x0 b j h
  exact zn h
 | succ k ih =>
  intro g l a x0 b j h
  rw [Yz] at h
  refine Q3 (sR (Qq (oI rfl (nL (tN (T.seq ?_))))))
  rcases Qe h with ⟨m, h⟩ | ⟨m, h⟩
  refine Qp rfl m (T.skip (tN (T.seq (T.block (sR (Qq (mw rfl ?_)))))))
  obtain ⟨y, aa, h⟩ := bind_some h
  refine oX g cB ul33 i4 aa rfl (oR ul4 rfl (aw rfl (aw rfl (nL (tN (sR (Qq ?_)))))))
  iterate 3 refine mw rfl ?_
  obtain ⟨q, s, h⟩ := bind_some h
  refine sp rfl (Z0 (n := 1) (xs := b) (f := (cI .i64)) (old := q) rfl (dk rfl) Zu i3 rfl rfl rfl s (sp rfl (Wc (i := 1) (xs := b) (f := (cI .i64)) (old := q) (new := a) rfl rfl i3 rfl rfl rfl (Zp s).2 (Qgx _) (nb rfl) rfl (nL (tN (sR (Qq (mw rfl (oT rfl (nL (tN ?_)))))))))))
  rcases Qe h with ⟨p, h⟩ | ⟨p, h⟩
  refine Qp rfl p (Qq (mw rfl (mw rfl ?_)))
  obtain ⟨u, w, h⟩ := bind_some h
  refine sp rfl (Z0 (n := 1) (xs := (List.set b (Int.toNat a) a)) (f := (cI .i64)) (old := u) rfl (dk rfl) Zu i3 rfl rfl rfl w (sp rfl (Wc (i := 1) (xs := (List.set b (Int.toNat a) a)) (f := (cI .i64)) (old := u) (new := (-1:Int)) rfl rfl i3 rfl rfl rfl (Zp w).2 (Qgx _) (nb rfl) rfl (nL (Qn (tN (Qq (oI rfl (mw rfl (nL (tN ?_)))))))))))
  refine Qg ?_ (ih g l (wI (a + (1:Int))) x0 (List.set (List.set b (Int.toNat a) a) (Int.toNat a) (-1:Int)) j h)
  exact tq rfl rfl
  refine Qo rfl p (T.skip (Qn (tN (Qq (oI rfl (mw rfl (nL (tN ?_))))))))
  refine Qg ?_ (ih g l (wI (a + (1:Int))) x0 (List.set b (Int.toNat a) a) j h)
  exact tq rfl rfl
  refine Qo rfl m (T.exit (Ql (Ql (Qr (tN (Qq (mw rfl (mw rfl ?_))))))))
  obtain ⟨ac, ab, h⟩ := bind_some h
  refine sp rfl (Q4 (is := [0, 1]) (ph := []) rfl (dk rfl) fu56 rfl rfl (Zk.cons rfl (Zk.cons rfl Zk.nil)) (E4 K (bx0 := bx0) (wx1 := j) ab) (.cons rfl rfl (.cons rfl rfl (.nil))) (fun _ => rfl) (fun ad => (nm (.c (.c (.n))) (nL (Q2 (.nil) (.cons 0 rfl (.nil _)) (by cases h; exact ⟨gl [], rfl, rfl⟩))))))
theorem Qa6 (K : Nat) {x0 : Qb} {bx0 : Nat} {r : Qb} (h : Wv K x0 = some r) : V6 tp 26 [.ptr bx0 0] [(U3 bx0 x0.Auto.Split.Of x0.Auto.Split.Many x0.Auto.Counts x0.Auto.States)] (fun γ => (.tup [])) (fun γ => [(U3 bx0 r.Auto.Split.Of r.Auto.Split.Many r.Auto.Counts r.Auto.States)]) := by
 refine CI 36 fu26 rfl ?_
 unfold Wv at h
 refine sR (Qq (mw rfl (oK rfl (oP ul69 i28 rfl (oP Jl i26 rfl (oL 0 Uh rfl (oU x0.Auto.States Qd Uh rfl ?_)))))))
 obtain ⟨b, h⟩ := Q6 h
 obtain ⟨g, h⟩ := Q6 h
 refine sp rfl (Gp (f := (cI .i64)) (zv := ((0:Int) : Int)) rfl (dk rfl) Zu i3 (by decide) rfl rfl rfl rfl rfl b g (fun j => (aw rfl (nL (tN (T.seq (sR (Qq (mw rfl (oK rfl ?_))))))))))
 refine oP ul69 i28 rfl (oA 1 ((Zg.dc 256 .u8 x0.Auto.Split.Of) ++ (([.int .i64 x0.Auto.Split.Many, .sl false 2 (mA x0.Auto.Counts), .sl false 4 (x0.Auto.States.map Qd)] : List DC))) Jl i28 rfl ?_)
 obtain ⟨a, m, h⟩ := bind_some h
 refine oH fu12 (Zl.nil (trim_Live_T K m)) rfl (oU a cB ul33 rfl (mw rfl (nL (tN (T.block (T.loop ?_))))))
 refine Qg ?_ (R8 K bx0 K a (a.length : Int) (0:Int) x0 (List.replicate (Int.toNat (x0.Auto.States.length : Int)) ((0:Int) : Int)) j h)
 exact tr rfl (.c (.s .z) (.c .z (.n _)))
abbrev bits_Mul64_q (r : Int × Int) : ES := U6 tp ff120 (fun y t => y = (.tup [.int .u64 r.1, .int .u64 r.2]) ∧ t = [])
theorem bits_Mul64_T (K : Nat) {x0 x1 : Int} {r : Int × Int} (h : Qea K x0 x1 = some r) : Zl tp 120 [.int .u64 x0, .int .u64 x1] [] (.tup [.int .u64 r.1, .int .u64 r.2]) := by
 refine CI 51 fu120 rfl ?_
 unfold Qea at h
 refine sR (Qq (aw rfl (aw rfl (nL (tN (sR (Qq (mw rfl (oI rfl (aw rfl ?_))))))))))
 refine nL (tN (sR (Qq (mw rfl (sp rfl (OpT.shr rfl (dk rfl) rfl rfl (by decide) (aw rfl (nL (tN (sR (Qq (mw rfl (oI rfl ?_)))))))))))))
 refine aw rfl (nL (tN (sR (Qq (mw rfl (sp rfl (OpT.shr rfl (dk rfl) rfl rfl (by decide) (aw rfl (nL (tN (sR (Qq (mw rfl ?_)))))))))))))
 refine mw rfl (oI rfl (aw rfl (nL (tN (sR (Qq (mw rfl (mw rfl (oI rfl ?_)))))))))
 refine mw rfl (sp rfl (OpT.shr rfl (dk rfl) rfl rfl (by decide) (oI rfl (aw rfl (nL (tN (sR (Qq (mw rfl (oI rfl ?_))))))))))
 refine aw rfl (nL (tN (sR (Qq (mw rfl (sp rfl (OpT.shr rfl (dk rfl) rfl rfl (by decide) (aw rfl (nL (tN (sR (Qq ?_))))))))))))
 iterate 3 refine mw rfl ?_
 refine oI rfl (oI rfl (aw rfl (nL (tN (sR (Qq (mw rfl (mw rfl (oI rfl ?_)))))))))
 refine mw rfl (oI rfl (mw rfl (sp rfl (OpT.shr rfl (dk rfl) rfl rfl (by decide) (oI rfl (aw rfl (nL (tN (sR (Qq ?_))))))))))
 refine mw rfl (mw rfl (oI rfl (aw rfl (nL (tN (T.ret (Fin.done (.cons _ _ _ _ (.tmp 4 _ rfl) (.cons _ _ _ _ (.tmp 5 _ rfl) .nil)) (by cases h; exact ⟨rfl, rfl⟩))))))))
abbrev bits_Mul_q (r : Int × Int) : ES := U6 tp ff96 (fun y t => y = (.tup [.int .u64 r.1, .int .u64 r.2]) ∧ t = [])
theorem bits_Mul_T (K : Nat) {x0 x1 : Int} {r : Int × Int} (h : Qdj K x0 x1 = some r) : Zl tp 96 [.int .u64 x0, .int .u64 x1] [] (.tup [.int .u64 r.1, .int .u64 r.2]) := by
 refine CI 30 fu96 rfl ?_
 unfold Qdj at h
 refine sR (Qq (aw rfl (aw rfl (nL (tN (T.seq (Qo rfl rfl (T.skip (tN ?_)))))))))
 refine sR (Qq (mw rfl (mw rfl ?_)))
 obtain ⟨b, a, h⟩ := bind_some h
 refine oH fu120 (Zl.nil (bits_Mul64_T K a)) rfl (mw rfl (oE rfl (oE rfl (aw rfl (aw rfl (nL (tN (sR (Qq ?_)))))))))
 refine mw rfl (mw rfl (aw rfl (aw rfl (nL (tN (T.ret (Fin.done (.cons _ _ _ _ (.tmp 4 _ rfl) (.cons _ _ _ _ (.tmp 5 _ rfl) .nil)) (by cases h; exact ⟨rfl, rfl⟩))))))))
abbrev Fb (r : List Int) : ES := U6 tp ff57 (fun y t => ∃ γ : Nat → Value, y = (.c (.ex (γ 0))) ∧ t = [.arrX (γ 0) 3 1 0 (mI r)])
abbrev Oo (r : List Int) : ES := fT 48 [1,1,1,1] ff57 (Fb r)
abbrev Fa (r : List Int) : ES := fT 48 [1,1,1,1,1,1,1] ff57 (Fb r)
abbrev Dh (r : List Int) : ES := Qx 0 ((Fa r))
theorem B2 {r : List Int} (K : Nat) (x0 : List Int) (a : Int) (flx0 : Bool) (h : Wg K x0 a = some r) : T tp 48 (ca [1,1,1,0,1,0] ff57) ⟨[(0, .sl flx0 1 (mI x0)), (6, .int .u64 a)], []⟩ (Oo r) := by
 unfold Wg at h
 refine Qq ?_
 cases h
theorem R9 {r : List Int} (K : Nat) : ∀ (k : Nat), ∀ (a : Int) (b : List Int) (d : Value), Vs K k a b = some r → TL tp 48 (ca [1,1,1,1,1,1,0,0,0] ff57) ⟨[(7, .c (.ex d)), (8, .int .i64 a)], [.arrX d 3 1 0 (mI b)]⟩ (Dh r) := by
 intro k
 induction k with
 | zero =>
  intro a b d h
  exact zn h
 | succ k ih =>
  intro a b d h
  rw [Vs] at h
  refine Q3 (T.seq (sR (Qq (mw rfl (mw rfl (sp rfl (J4 (i := 0) (xs := b) (f := (cI .i64)) rfl (dk rfl) Zu rfl rfl (oI rfl ?_))))))))
  refine nL (tN ?_)
  rcases Qe h with ⟨j, h⟩ | ⟨j, h⟩
  refine Qp rfl j (T.skip (tN (T.block (Yg (dV rfl rfl (dV rfl rfl (dV rfl rfl ?_)))))))
  obtain ⟨g, h⟩ := Q6 h
  refine dS (c := ⟨some 41, .sub d 1 (Int.toNat a), [(39, .c (.ex d)), (40, .int .i64 a)], [(0, .arrX d 3 1 0 (mI b))], []⟩) (fun t hm => oF rfl rfl (OpT.sliceSub (i := 0) (xs := b) (f := (cI .i64)) (l := (Int.toNat a)) rfl (dk rfl) Zu i3 hm.s0 hm.o0 (.some _ _ _ _ hm.s1 g.1) g.2 rfl)) rfl rfl (dV rfl rfl (dV rfl rfl (dS (c := ⟨some 44, .pre d (Int.toNat a), [(42, .c (.ex d)), (43, .int .i64 a)], [(0, .arrX d 3 1 0 (mI b))], []⟩) (fun t hm => oF rfl rfl (OpT.slicePre (i := 0) (xs := b) (f := (cI .i64)) (h := (Int.toNat a)) rfl (dk rfl) Zu i3 hm.s0 hm.o0 (.some _ _ _ _ hm.s1 g.1) g.2 rfl)) rfl rfl ?_)))
  obtain ⟨m, h⟩ := Q6 h
  refine dS (c := ⟨some 45, .int .i64 (((min (Int.toNat a) (b.length - (Int.toNat a))) : Nat) : Int), [(41, .sub d 1 (Int.toNat a)), (44, .pre d (Int.toNat a))], [(0, .arrX d 3 1 0 (mI b))], [(0, .arrX d 3 1 0 ((b.take (Int.toNat a) ++ b.take (min (Int.toNat a) (b.length - (Int.toNat a))) ++ b.drop ((Int.toNat a) + (min (Int.toNat a) (b.length - (Int.toNat a))))).map (cI .i64)))]⟩) (fun t hm => oF rfl rfl (OpT.copySelf (i := 0) (k := .i64) (xs := b) (l := (Int.toNat a)) (h := (Int.toNat a)) rfl (dk rfl) Zu i3 hm.s0 hm.o0 hm.s1 m.1 m.2 rfl)) rfl rfl (dI rfl (.f rfl) rfl (dA rfl (.f rfl) rfl (dF [0,0,0,6,0,0,48,126,255,511] Qz rfl (by kernel_rfl) (fun u hu => (Qn (tN (Qg hu ?_)))))))
  refine Qg ?_ (ih (wI (a + (((min (Int.toNat a) (b.length - (Int.toNat a))) : Nat) : Int))) (b.take (Int.toNat a) ++ b.take (min (Int.toNat a) (b.length - (Int.toNat a))) ++ b.drop ((Int.toNat a) + (min (Int.toNat a) (b.length - (Int.toNat a))))) d h)
  exact tq rfl rfl
  refine Qo rfl j (T.exit (Ql (Ql (Qr (tN (sR (Qq (mw rfl (aw rfl (nL (tN (T.ret ?_))))))))))))
  exact Q2 (.cons _ _ _ _ (.tmp 4 _ rfl) .nil) (.cons 0 rfl (.nil _)) (by cases h; exact ⟨gl [d], rfl, rfl⟩)
theorem Qbe (K : Nat) {x0 : List Int} {x1 : Int} {flx0 : Bool} {r : List Int} (h : Wx K x0 x1 = some r) : V6 tp 57 [.sl flx0 1 (mI x0), .int .i64 x1] [] (fun γ => (.c (.ex (γ 0)))) (fun γ => [.arrX (γ 0) 3 1 0 (mI r)]) := by
 refine CI 48 fu57 rfl ?_
 unfold Wx at h
 refine sR (Qq (aw rfl (nL (tN (T.seq (sR (Qq (mw rfl (oI rfl ?_)))))))))
 refine nL (tN ?_)
 rcases Qe h with ⟨d, h⟩ | ⟨d, h⟩
 refine Qp rfl d (Qq ?_)
 cases h
 refine Qo rfl d (T.skip (tN (sR (Qq (mw rfl (oU x0 (cI .i64) Zu rfl (sp rfl (Xj rfl (dk rfl) ul3 ul159 rfl (mw rfl ?_)))))))))
 refine sp rfl (Xj rfl (dk rfl) ul3 ul159 rfl ?_)
 obtain ⟨b, l, h⟩ := bind_some h
 refine oH fu96 (Zl.nil (bits_Mul_T K l)) rfl (mw rfl (oE rfl (oE rfl (aw rfl (aw rfl (nL (tN ?_)))))))
 refine T.seq (sR (Qq (mw rfl (oI rfl (mw rfl ?_)))))
 rcases Qe h with ⟨a, h⟩ | ⟨a, h⟩
 refine pf rfl a (pf rfl a (oY a rfl (nL (tN (Qp rfl rfl ?_)))))
 refine Qk ?_ (B2 K x0 b.2 flx0 h)
 exact tq rfl rfl
 refine sn rfl a (OpT.move rfl (dk rfl) rfl (sn rfl a (Zi rfl rfl (dk rfl) rfl rfl (oZ a rfl (nL (tN ?_))))))
 rcases Qe h with ⟨g, h⟩ | ⟨g, h⟩
 refine Qp rfl g ?_
 refine Qk ?_ (B2 K x0 b.2 flx0 h)
 exact tq rfl rfl
 refine Qo rfl g (T.skip (tN (sR (Qq (mw rfl (sp rfl (Xj rfl (dk rfl) ul159 ul3 rfl ?_)))))))
 obtain ⟨m, h⟩ := Q6 h
 obtain ⟨p, h⟩ := Q6 h
 refine sp rfl (Gp (f := (cI .i64)) (zv := ((0:Int) : Int)) rfl (dk rfl) Zu i3 (by decide) rfl rfl rfl rfl rfl m p (fun q => (aw rfl (nL (tN (sR (Qq (mw rfl (mw rfl ?_)))))))))
 obtain ⟨j, h⟩ := Q6 h
 refine sp rfl (OpT.copyInts (i := 0) (k := .i64) (xs := (List.replicate (Int.toNat (wI b.2)) ((0:Int) : Int))) (ys := x0) rfl (dk rfl) Zu i3 rfl rfl rfl j.1 j.2 (aw rfl (nL (tN (T.seq (T.block (T.loop ?_)))))))
 refine Qg ?_ (R9 K K (x0.length : Int) (x0 ++ (List.replicate (Int.toNat (wI b.2)) ((0:Int) : Int)).drop x0.length) q h)
 exact tq rfl rfl
abbrev E6 (bx0 : Nat) (r : Qb) : ES := U6 tp ff28 (fun y t => ∃ γ : Nat → Value, y = (.tup []) ∧ t = [(U3 bx0 r.Auto.Split.Of r.Auto.Split.Many r.Auto.Counts r.Auto.States)])
abbrev Ok (bx0 : Nat) (r : Qb) : ES := fT 93 [1,1,1,1] ff28 (E6 bx0 r)
abbrev Ka (bx0 : Nat) (r : Qb) : ES := Qx 0 ((Ok bx0 r))
abbrev Ig (bx0 : Nat) (r : Qb) : ES := fL 93 [1,1,1,0,1,0,0] ff28 (Ka bx0 r)
abbrev Dc (bx0 : Nat) (r : Qb) : ES := fT 93 [1,1,1,0,1,0,0,1,1] ff28 (Ig bx0 r)
abbrev M3 (bx0 : Nat) (r : Qb) : ES := Qx 1 ((Dc bx0 r))
abbrev K9 (bx0 : Nat) (r : Qb) : ES := Qx 2 ((M3 bx0 r))
abbrev E5 (bx0 : Nat) (r : Qb) : ES := fT 93 [1,1,1,1,1,1,1] ff28 (E6 bx0 r)
abbrev Dd (bx0 : Nat) (r : Qb) : ES := Qx 4 ((E5 bx0 r))
abbrev Bz (bx0 : Nat) (r : Qb) (go : Int → Qb → (List Int) → (List Int) → Option Qb) : Prop := ∀ (a : Int) (x0 : Qb) (b f : List Int) (g i : Value), go a x0 b f = some r → TL tp 93 (ca [1,1,1,0,1,0,0] ff28) ⟨[(0, .ptr bx0 0), (2, .c (.ex g)), (3, .c (.ex i)), (4, .int .i64 a)], [(U3 bx0 x0.Auto.Split.Of x0.Auto.Split.Many x0.Auto.Counts x0.Auto.States), .arrX g 3 1 0 (mI b), .arrX i 3 1 0 (mI f)]⟩ (Ka bx0 r)
theorem R4 {r : Qb} (K bx0 : Nat) (go0 : Int → Qb → (List Int) → (List Int) → Option Qb) (hgo0 : Bz bx0 r go0) : ∀ (k : Nat), ∀ (j : Int) (l : List Qc) (p q : Int) (x0 : Qb) (b g : List Int) (m u : Value), Ym K go0 k j l p q x0 b g = some r → TL tp 93 (ca [1,1,1,0,1,0,0,1,0,0,1,0,0] ff28) ⟨[(0, .ptr bx0 0), (2, .c (.ex m)), (3, .c (.ex u)), (4, .int .i64 j), (38, .sl false 2 (l.map Qi)), (39, .int .i64 p), (40, .int .i64 q)], [(U3 bx0 x0.Auto.Split.Of x0.Auto.Split.Many x0.Auto.Counts x0.Auto.States), .arrX m 3 1 0 (mI b), .arrX u 3 1 0 (mI g)]⟩ (K9 bx0 r) := by
 intro k
 induction k with
 | zero =>
  intro j l p q x0 b g m u h
  exact zn h
 | succ k ih =>
  intro j l p q x0 b g m u h
  rw [Ym] at h
  refine Q3 (sR (Qq (oI rfl (nL (tN (T.seq ?_))))))
  rcases Qe h with ⟨ab, h⟩ | ⟨ab, h⟩
  refine Qp rfl ab (T.skip (tN (T.seq (T.block (sR (Qq ?_))))))
  obtain ⟨w, ad, h⟩ := bind_some h
  refine oX l Qi E2 i54 ad rfl (oJ Bi i54 rfl (sp rfl (Zb rfl (dk rfl) i54 rfl (fun ai => (sp rfl (Qu (i := 0) (cells' := [.d (.int .i64 w.To), .d (.sl false 1 (mU w.Ops))]) rfl rfl i54 rfl rfl rfl rfl (nb rfl) rfl (nL (tN (sR (Qq (oP Bi i3 rfl (oL 0 ul3 rfl ?_))))))))))))
  refine oI rfl (mw rfl ?_)
  rcases Qe h with ⟨a, h⟩ | ⟨a, h⟩
  refine sn rfl a (OpT.move rfl (dk rfl) rfl (sn rfl a (Xi rfl (dk rfl) Bi rfl i3 (by decide) rfl (sn rfl a (Zw (i := 0) rfl (dk rfl) ul3 rfl rfl rfl rfl ?_)))))
  obtain ⟨y, aa, h⟩ := bind_some h
  refine sn rfl a (Z0 (n := 2) (xs := b) (f := (cI .i64)) (old := y) rfl (dk rfl) Zu i3 rfl rfl rfl aa (sn rfl a (Jv (i := 2) (xs := b) (f := (cI .i64)) (old := y) rfl (dk rfl) ul3 rfl rfl rfl (Zp aa).2 rfl (sn rfl a (Zi rfl rfl (dk rfl) rfl rfl (oY a rfl (nL (tN ?_))))))))
  rcases Qe h with ⟨ac, h⟩ | ⟨ac, h⟩
  refine Qp rfl ac (sR (Qq (mw rfl (oP Bi i3 rfl (oL 0 ul3 rfl (mw rfl (sp rfl (J4 (i := 3) (xs := g) (f := (cI .i64)) rfl (dk rfl) Zu rfl rfl ?_))))))))
  refine sp rfl (Z0 (n := 2) (xs := b) (f := (cI .i64)) (old := y) rfl (dk rfl) Zu i3 rfl rfl rfl aa (sp rfl (Wc (i := 2) (xs := b) (f := (cI .i64)) (old := y) (new := (g.length : Int)) rfl rfl i3 rfl rfl rfl (Zp aa).2 (Qgx _) (nb rfl) rfl (nL (tN (Qq (mw rfl (oP Bi i3 rfl (oL 0 ul3 rfl ?_)))))))))
  refine sp rfl (Ie (elems := ([w.To] : List Int).map (cI .i64)) rfl (dk rfl) Zu i3 (by decide) rfl (G9 rfl) rfl rfl rfl (Vg rfl) (by decide) (fun aj => (Ji (Gn 0 rfl) (Ji (Zy.view 64 0 rfl rfl) ?_))))
  obtain ⟨af, h⟩ := Q6 h
  refine sp rfl (Db (i := 4) (xs := g) (ys := [w.To]) (f := (cI .i64)) rfl (dk rfl) Zu i3 rfl rfl rfl rfl af (fun ag => (aw rfl (nL (Qn (tN (Qq (oI rfl (mw rfl (nL (tN ?_)))))))))))
  refine Qg ?_ (ih j l p (wI (q + (1:Int))) x0 (List.set b (Int.toNat w.To) (g.length : Int)) (g ++ [w.To]) m ag h)
  exact tr rfl (.c (.s (.s .z)) (.c (.s (.s .z)) (.c (.s (.s .z)) (.n _))))
  refine Qo rfl ac (T.skip (Qn (tN (Qq (oI rfl (mw rfl (nL (tN ?_))))))))
  refine Qg ?_ (ih j l p (wI (q + (1:Int))) x0 b g m u h)
  exact tr rfl (.c (.s .z) (.c (.s .z) (.c (.s .z) (.n _))))
  refine pf rfl a (pf rfl a (pf rfl a (pf rfl a (pf rfl a (pf rfl a (oZ a rfl ?_))))))
  refine nL (tN (Qo rfl rfl (T.skip (Qn (tN (Qq (oI rfl (mw rfl (nL (tN ?_))))))))))
  refine Qg ?_ (ih j l p (wI (q + (1:Int))) x0 b g m u h)
  exact tr rfl (.c (.s .z) (.c (.s .z) (.c (.s .z) (.n _))))
  refine Qo rfl ab (T.exit (Ql (Ql (Qr (Qn (tN (Qq (mw rfl (oI rfl (aw rfl (nL (tN ?_))))))))))))
  refine Qg ?_ (hgo0 (wI (j + (1:Int))) x0 b g m u h)
  exact tq rfl rfl
theorem R3 {r : Qb} (K bx0 : Nat) : ∀ (k : Nat), ∀ (s u : Int) (a : Zg) (b : Int) (g : List Zs) (p j : List Qa) (m : List Int) (q w : Value), Xv K k s u a b g p j m = some r → TL tp 93 (ca [1,1,1,1,1,1,0,1,0,0] ff28) ⟨[(0, .ptr bx0 0), (7, .c (.ex q)), (70, .c (.ex w)), (71, .int .i64 s), (72, .int .i64 u)], [(U3 bx0 a b g p), .arrA q 51 4 (j.map Qd), .arrX w 3 1 0 (mI m)]⟩ (Dd bx0 r) := by
 intro k
 induction k with
 | zero =>
  intro s u a b g p j m q w h
  exact zn h
 | succ k ih =>
  intro s u a b g p j m q w h
  rw [Xv] at h
  refine Q3 (sR (Qq (oI rfl (nL (tN (T.seq ?_))))))
  rcases Qe h with ⟨aa, h⟩ | ⟨aa, h⟩
  refine Qp rfl aa (T.skip (tN (T.seq (T.block (sR (Qq ?_))))))
  obtain ⟨ab, ac, h⟩ := bind_some h
  refine sp rfl (Z0 (n := 2) (xs := m) (f := (cI .i64)) (old := ab) rfl (dk rfl) Zu i3 rfl rfl rfl ac (sp rfl (Jv (i := 2) (xs := m) (f := (cI .i64)) (old := ab) rfl (dk rfl) ul3 rfl rfl rfl (Zp ac).2 rfl (aw rfl (nL (tN (Qq (mw rfl (mw rfl ?_)))))))))
  refine oK rfl (oP ul69 i28 rfl (oP Jl i26 rfl (oL 0 Uh rfl (mw rfl ?_))))
  obtain ⟨y, ad, h⟩ := bind_some h
  refine oX p Qd Uh i51 ad rfl (oJ Ju i51 rfl (sp rfl (OpT.buildSlice (elems := ([y] : List Qa).map Qd) rfl (dk rfl) Uh i51 (by decide) rfl (G9 rfl) rfl rfl rfl (Vg rfl) (by decide) ?_)))
  obtain ⟨af, h⟩ := Q6 h
  refine sp rfl (Zr (i := 1) (xs := j) (ys := [y]) (f := Qd) rfl (dk rfl) Uh i51 rfl rfl rfl rfl af (fun ag => (aw rfl (nL (Qn (tN (Qq (oI rfl (mw rfl (nL (tN ?_)))))))))))
  refine Qg ?_ (ih s (wI (u + (1:Int))) a b g p (j ++ [y]) m ag w h)
  exact tq rfl rfl
  refine Qo rfl aa (T.exit (Ql (Ql (Qr (tN (Qq (mw rfl (mw rfl (oK rfl (oP ul69 i28 rfl ?_))))))))))
  refine oP Jl i26 rfl (sp rfl (Jd (i := 0) (cells' := ((Zg.oc 256 .u8 a) ++ (([.d (.int .i64 b), .d (.sl false 2 (mA g)), .d (.ex q)]:List OC)))) rfl rfl i26 rfl rfl rfl (nb rfl) rfl (nL (Xr (Hs 0 (l := ((Zg.dc 256 .u8 a) ++ (([.int .i64 b, .sl false 2 (mA g), .ex q] : List DC)))) (l' := ((Zg.dc 256 .u8 a) ++ (([.int .i64 b, .sl false 2 (mA g), .sl false 4 (j.map Qd)] : List DC)))) rfl (.app _ (.cons (.same _) (.cons (.same _) (.cons (.view 1 rfl) (.refl _)))))) (Q2 (.nil) (.cons 0 rfl (.nil _)) (by cases h; exact ⟨gl [], rfl, rfl⟩))))))
theorem R5 {r : Qb} (K bx0 : Nat) : ∀ (k : Nat), Bz bx0 r (Yy K k) := by
 intro k
 induction k with
 | zero =>
  intro l x0 w b m g h
  exact zn h
 | succ k ih =>
  intro l x0 w b m g h
  rw [Yy] at h
  refine Q3 (T.seq (sR (Qq (mw rfl (mw rfl (sp rfl (J4 (i := 2) (xs := b) (f := (cI .i64)) rfl (dk rfl) Zu rfl rfl (oI rfl ?_))))))))
  refine nL (tN ?_)
  rcases Qe h with ⟨y, h⟩ | ⟨y, h⟩
  refine Qp rfl y (T.skip (tN (T.seq (T.block (T.seq (Yg (dV rfl rfl ?_)))))))
  refine dK rfl (.f rfl) rfl (dP rfl (.f rfl) ul69 i28 rfl (dP rfl (.f rfl) Jl i26 rfl (dL 0 rfl (.f rfl) Uh rfl (dV rfl rfl (dV rfl rfl ?_)))))
  obtain ⟨p, aa, h⟩ := bind_some h
  refine dS (c := ⟨some 34, .el g 1 (Int.toNat l) 0, [(32, .c (.ex g)), (33, .int .i64 l)], [(2, .arrX g 3 1 0 (mI b))], []⟩) (fun t hm => oF rfl rfl (Z0 (n := 2) (xs := b) (f := (cI .i64)) (old := p) rfl (dk rfl) Zu i3 hm.s0 hm.o0 hm.s1 aa rfl)) rfl rfl (dS (c := ⟨some 35, .int .i64 p, [(34, .el g 1 (Int.toNat l) 0)], [(2, .arrX g 3 1 0 (mI b))], []⟩) (fun t hm => oF rfl rfl (Jv (i := 2) (xs := b) (f := (cI .i64)) (old := p) rfl (dk rfl) ul3 rfl hm.s0 hm.o0 (Zp aa).2 rfl rfl)) rfl rfl ?_)
  obtain ⟨a, ab, h⟩ := bind_some h
  refine dX x0.Auto.States Qd rfl (.f rfl) Uh i51 ab rfl (dJ rfl (.f rfl) Ju i51 rfl ?_)
  obtain ⟨j, ac, h⟩ := bind_some h
  refine dH fu33 (Zl.nil (Tb K ac)) rfl (.f rfl) rfl (dN j Qi rfl (.f rfl) E2 rfl (dM rfl (.f rfl) rfl (dF [0,1,3,7,15,0,0,96,224,511,1023,2047,4095,0] Qz rfl (by kernel_rfl) (fun u hu => (tN (Qk hu (T.block (T.loop ?_))))))))
  refine Qg ?_ (R4 K bx0 (Yy K k) ih K l j (j.length : Int) (0:Int) x0 w b m g h)
  exact tq rfl rfl
  refine Qo rfl y (T.exit (Ql (Ql (Qr (tN (sR (Qq (mw rfl (mw rfl ?_)))))))))
  obtain ⟨q, ad, h⟩ := bind_some h
  refine sp rfl (Q4 (is := [0, 1]) (ph := []) rfl (dk rfl) fu56 rfl rfl (Zk.cons rfl (Zk.cons rfl Zk.nil)) (E4 K (bx0 := bx0) (wx1 := m) ad) (.cons rfl rfl (.cons rfl rfl (.nil))) (fun _ => rfl) (fun af => (nm (.c (.c (.c (.n)))) (nL (tN (sR (Qq (aw rfl (nL (tN (T.seq (sR (Qq ?_)))))))))))))
  refine mw rfl (sp rfl (J4 (i := 2) (xs := b) (f := (cI .i64)) rfl (dk rfl) Zu rfl rfl (mw rfl (nL (tN (T.block (T.loop (Qg (Xh 51 4) ?_))))))))
  refine Qg ?_ (R3 K bx0 K (b.length : Int) (0:Int) q.Auto.Split.Of q.Auto.Split.Many q.Auto.Counts q.Auto.States [] b (Qdv 2) g h)
  exact tr rfl (.c (.s .z) (.c .z (.c (.s .z) (.n _))))
theorem Qa2 (K : Nat) {x0 : Qb} {bx0 : Nat} {r : Qb} (h : Wt K x0 = some r) : V6 tp 28 [.ptr bx0 0] [(U3 bx0 x0.Auto.Split.Of x0.Auto.Split.Many x0.Auto.Counts x0.Auto.States)] (fun γ => (.tup [])) (fun γ => [(U3 bx0 r.Auto.Split.Of r.Auto.Split.Many r.Auto.Counts r.Auto.States)]) := by
 refine CI 93 fu28 rfl ?_
 unfold Wt at h
 refine sR (Qq (sp rfl (OpT.buildSlice (elems := ([(-1:Int)] : List Int).map (cI .i64)) rfl (dk rfl) Zu i3 (by decide) rfl (G9 rfl) rfl rfl rfl (Vg rfl) (by decide) (mw rfl (oK rfl (oP ul69 i28 rfl (oP Jl i26 rfl (oL 0 Uh rfl ?_))))))))
 refine oU x0.Auto.States Qd Uh rfl (Ji Yc ?_)
 obtain ⟨a, j, h⟩ := bind_some h
 refine sp rfl (Q4 (is := [0]) (ph := [.ro 0 []]) rfl (dk rfl) fu57 rfl rfl (Zk.cons rfl (Zk.cons rfl Zk.nil)) (Qbe K (flx0 := true) j) (.cons rfl rfl (.nil)) (fun _ => rfl) (fun l => (nm (.c (.c (.n))) (aw rfl (nL (tN (sR (Qq (sp rfl (Ie (elems := ([(0:Int)] : List Int).map (cI .i64)) rfl (dk rfl) Zu i3 (by decide) rfl (G9 rfl) rfl rfl rfl (Vg rfl) (by decide) (fun m => (aw rfl (nL (tN (sR (Qq ?_))))))))))))))))
 refine mw rfl ?_
 obtain ⟨b, g, h⟩ := bind_some h
 refine sp rfl (Z0 (n := 1) (xs := a) (f := (cI .i64)) (old := b) rfl (dk rfl) Zu i3 rfl rfl rfl g (sp rfl (Wc (i := 1) (xs := a) (f := (cI .i64)) (old := b) (new := (0:Int)) rfl rfl i3 rfl rfl rfl (Zp g).2 (Qgx _) (nb rfl) rfl (nL (tN (T.seq (sR (Qq (aw rfl (nL (tN ?_)))))))))))
 refine T.block (T.loop ?_)
 refine Qg ?_ (R5 K bx0 K (0:Int) x0 (List.set a (Int.toNat (0:Int)) (0:Int)) [(0:Int)] (l 0) (.slice (some ⟨m, 0, none⟩) 1 1) h)
 exact tr rfl (.c (.s (.s .z)) (.c (.s .z) (.c .z (.n _))))
theorem Nl (K : Nat) {x0 : Int} {r : ByteArray} (h : strconv_Itoa K x0 = some r) : Zl tp 39 [.int .i64 x0] [.tab 0 Xs] (.str r) := by
 unfold strconv_Itoa at h
 split at h
 next hc => cases h; exact itoa_call Tryz.laysM171 (by kernel_rfl) hc.1 hc.2
 cases h
abbrev Qfq (bx0 : Nat) (x0c1 : List Int) (r : Unit) : ES := U6 tp ff111 (fun y t => ∃ γ : Nat → Value, y = (.tup []) ∧ t = [(Wb bx0 bx0 (γ 0)), .arrX (γ 0) 5 1 0 (mU x0c1)])
theorem E8 (K : Nat) {x0c1 : List Int} {bx0 : Nat} {wx0c1 : Value} {r : Unit} (h : J7 K x0c1 = some r) : V6 tp 111 [.ptr bx0 0] [(b134x15 bx0 (.pointer none) wx0c1), .arrX wx0c1 5 1 0 (mU x0c1)] (fun γ => (.tup [])) (fun γ => [(Wb bx0 bx0 (γ 0)), .arrX (γ 0) 5 1 0 (mU x0c1)]) := by
 refine CI 20 fu111 rfl ?_
 unfold J7 at h
 refine sR (Qq (mw rfl (oK rfl (oP ul134 i132 rfl (oL 0 ul132 rfl (sp rfl (OpT.eqlPtrNil rfl (dk rfl) ul132 rfl rfl (nL (tN ?_)))))))))
 refine Qp rfl rfl (Qq (mw rfl (mw rfl (sp rfl (OpT.toUnsafe (i := 0) rfl (dk rfl) ul132 ul193 i134 (by decide) rfl rfl (Nat.zero_lt_succ _) (sp rfl (OpT.noEscape rfl (dk rfl) fu130 rfl rfl (by kernel_rfl) (by kernel_rfl) rfl rfl (sp rfl (OpT.ofUnsafe (i := 0) rfl (dk rfl) ul193 ul132 i134 rfl rfl rfl (by kernel_rfl) ?_)))))))))
 refine oK rfl (oP ul134 i132 rfl (sp rfl (Jd (i := 0) (cells' := [.d (.ptr bx0 0), .d (.ex wx0c1)]) rfl rfl i132 rfl rfl rfl (nb rfl) rfl (nL (Q2 (.nil) (.cons 0 rfl (.cons 0 rfl (.nil _))) (by cases h; exact ⟨gl [wx0c1], rfl, rfl⟩))))))
abbrev Qex (bx0 : Nat) (r : Int × Unit × (List Int)) : ES := U6 tp ff71 (fun y t => ∃ γ : Nat → Value, y = (.tup [.int .i64 r.1, .c (.ex .nilIface)]) ∧ t = [(Wb bx0 bx0 (γ 0)), .arrX (γ 0) 5 1 0 (mU r.2.2)])
theorem Dg (K : Nat) {x0c1 : List Int} {x1 : ByteArray} {bx0 : Nat} {wx0c1 : Value} {r : Int × Unit × (List Int)} (h : U7 K x0c1 x1 = some r) : V6 tp 71 [.ptr bx0 0, .str x1] [(b134x15 bx0 (.pointer none) wx0c1), .arrX wx0c1 5 1 0 (mU x0c1)] (fun γ => (.tup [.int .i64 r.1, .c (.ex .nilIface)])) (fun γ => [(Wb bx0 bx0 (γ 0)), .arrX (γ 0) 5 1 0 (mU r.2.2)]) := by
 refine CI 19 fu71 rfl ?_
 unfold U7 at h
 refine sR (Qq (aw rfl (aw rfl (nL (tN (sR (Qq (mw rfl ?_))))))))
 obtain ⟨g, b, h⟩ := bind_some h
 refine sp rfl (Q4 (is := [0, 1]) (ph := []) rfl (dk rfl) fu111 rfl rfl (Zk.cons rfl Zk.nil) (E8 K (bx0 := bx0) (wx0c1 := wx0c1) b) (.cons rfl rfl (.cons rfl rfl (.nil))) (fun _ => rfl) (fun j => (nm (.c (.c (.n))) (nL (tN (sR (Qq (mw rfl (mw rfl (oK rfl (oP ul134 i52 rfl ?_)))))))))))
 refine oL 0 B6 rfl (mw rfl ?_)
 obtain ⟨f, h⟩ := Q6 h
 refine sp rfl (Qaa (i := 1) (xs := x0c1) rfl (dk rfl) B6 ul9 i5 rfl rfl rfl rfl f (fun a => (oK rfl (oP ul134 i52 rfl (sp rfl (Jd (i := 0) (cells' := [.d (.ptr bx0 0), .d (.ex a)]) rfl rfl i52 rfl rfl rfl (nb rfl) rfl (nL (tN (sR (Qq (mw rfl (sp rfl (Pi rfl (dk rfl) ul9 rfl ?_)))))))))))))
 refine aw rfl (aw rfl (nL (tN (T.ret (Q2 (.cons _ _ _ _ (.tmp 4 _ rfl) (.cons _ _ _ _ (.tmp 5 _ rfl) .nil)) (.cons 0 rfl (.cons 0 rfl (.nil _))) (by cases h; exact ⟨gl [a], rfl, rfl⟩))))))
abbrev trim_sign_1_q (bx1 : Nat) (r : List Int) : ES := U6 tp ff70 (fun y t => ∃ γ : Nat → Value, y = (.tup []) ∧ t = [.tab 0 Xs, (Wb bx1 bx1 (γ 0)), .arrX (γ 0) 5 1 0 (mU r)])
theorem trim_sign_1_T (K : Nat) {x0 : Int} {x1c1 : List Int} {bx1 : Nat} {wx1c1 : Value} {r : List Int} (h : Po K x0 x1c1 = some r) : V6 tp 70 [.int .i64 x0, .ptr bx1 0] [.tab 0 Xs, (b134x15 bx1 (.pointer none) wx1c1), .arrX wx1c1 5 1 0 (mU x1c1)] (fun γ => (.tup [])) (fun γ => [.tab 0 Xs, (Wb bx1 bx1 (γ 0)), .arrX (γ 0) 5 1 0 (mU r)]) := by
 refine CI 7 fu70 rfl ?_
 unfold Po at h
 refine Qq (mw rfl ?_)
 obtain ⟨i, a, h⟩ := bind_some h
 refine sp rfl (Ml rfl (dk rfl) fu39 rfl rfl (Zk.cons rfl Zk.nil) (.tab 0 rfl (.nil)) (Nl K a) ?_)
 obtain ⟨b, h⟩ := Q6 h
 refine sp rfl (Rh rfl (dk rfl) rfl rfl b ?_)
 obtain ⟨j, f, h⟩ := bind_some h
 refine sp rfl (Q4 (is := [1, 2]) (ph := []) rfl (dk rfl) fu71 rfl rfl (Zk.cons rfl (Zk.cons rfl Zk.nil)) (Dg K (bx0 := bx1) (wx0c1 := wx1c1) f) (.cons rfl rfl (.cons rfl rfl (.nil))) (fun _ => rfl) (fun g => (nm (.c (.c (.c (.n)))) (nL (Q2 (.nil) (.cons 0 rfl (.cons 0 rfl (.cons 0 rfl (.nil _)))) (by cases h; exact ⟨gl [g 0], rfl, rfl⟩))))))
abbrev Qek (bx0 : Nat) (x0c1 : List Int) (r : Unit) : ES := U6 tp ff111 (fun y t => ∃ γ : Nat → Value, y = (.tup []) ∧ t = [(Wb bx0 bx0 (γ 0)), .arrX (γ 0) 5 1 0 (mU x0c1)])
theorem Hp (K : Nat) {x0c1 : List Int} {bx0 : Nat} {wx0c1 : Value} {r : Unit} (h : Yi K x0c1 = some r) : V6 tp 111 [.ptr bx0 0] [(Wb bx0 bx0 wx0c1), .arrX wx0c1 5 1 0 (mU x0c1)] (fun γ => (.tup [])) (fun γ => [(Wb bx0 bx0 (γ 0)), .arrX (γ 0) 5 1 0 (mU x0c1)]) := by
 refine CI 20 fu111 rfl ?_
 unfold Yi at h
 refine sR (Qq (mw rfl (oK rfl (oP ul134 i132 rfl (oL 0 ul132 rfl (sp rfl (OpT.eqlPtrSome rfl (dk rfl) ul132 rfl rfl (nL (tN ?_)))))))))
 refine Qo rfl rfl (sR (Qq (mw rfl (oK rfl (oP ul134 i132 rfl (oL 0 ul132 rfl (mw rfl ?_)))))))
 refine sp rfl (OpT.neqPtrSame rfl (dk rfl) ul132 i134 rfl rfl (nL (tN (Qo rfl rfl (T.skip (Q2 (.nil) (.cons 0 rfl (.cons 0 rfl (.nil _))) (by cases h; exact ⟨gl [wx0c1], rfl, rfl⟩)))))))
abbrev Qdu (bx0 : Nat) (r : Int × Unit × (List Int)) : ES := U6 tp ff71 (fun y t => ∃ γ : Nat → Value, y = (.tup [.int .i64 r.1, .c (.ex .nilIface)]) ∧ t = [(Wb bx0 bx0 (γ 0)), .arrX (γ 0) 5 1 0 (mU r.2.2)])
theorem Bl (K : Nat) {x0c1 : List Int} {x1 : ByteArray} {bx0 : Nat} {wx0c1 : Value} {r : Int × Unit × (List Int)} (h : X3 K x0c1 x1 = some r) : V6 tp 71 [.ptr bx0 0, .str x1] [(Wb bx0 bx0 wx0c1), .arrX wx0c1 5 1 0 (mU x0c1)] (fun γ => (.tup [.int .i64 r.1, .c (.ex .nilIface)])) (fun γ => [(Wb bx0 bx0 (γ 0)), .arrX (γ 0) 5 1 0 (mU r.2.2)]) := by
 refine CI 19 fu71 rfl ?_
 unfold X3 at h
 refine sR (Qq (aw rfl (aw rfl (nL (tN (sR (Qq (mw rfl ?_))))))))
 obtain ⟨g, b, h⟩ := bind_some h
 refine sp rfl (Q4 (is := [0, 1]) (ph := []) rfl (dk rfl) fu111 rfl rfl (Zk.cons rfl Zk.nil) (Hp K (bx0 := bx0) (wx0c1 := wx0c1) b) (.cons rfl rfl (.cons rfl rfl (.nil))) (fun _ => rfl) (fun j => (nm (.c (.c (.n))) (nL (tN (sR (Qq (mw rfl (mw rfl (oK rfl (oP ul134 i52 rfl ?_)))))))))))
 refine oL 0 B6 rfl (mw rfl ?_)
 obtain ⟨f, h⟩ := Q6 h
 refine sp rfl (Qaa (i := 1) (xs := x0c1) rfl (dk rfl) B6 ul9 i5 rfl rfl rfl rfl f (fun a => (oK rfl (oP ul134 i52 rfl (sp rfl (Jd (i := 0) (cells' := [.d (.ptr bx0 0), .d (.ex a)]) rfl rfl i52 rfl rfl rfl (nb rfl) rfl (nL (tN (sR (Qq (mw rfl (sp rfl (Pi rfl (dk rfl) ul9 rfl ?_)))))))))))))
 refine aw rfl (aw rfl (nL (tN (T.ret (Q2 (.cons _ _ _ _ (.tmp 4 _ rfl) (.cons _ _ _ _ (.tmp 5 _ rfl) .nil)) (.cons 0 rfl (.cons 0 rfl (.nil _))) (by cases h; exact ⟨gl [a], rfl, rfl⟩))))))
abbrev trim_sign_1_i1_q (bx1 : Nat) (r : List Int) : ES := U6 tp ff70 (fun y t => ∃ γ : Nat → Value, y = (.tup []) ∧ t = [.tab 0 Xs, (Wb bx1 bx1 (γ 0)), .arrX (γ 0) 5 1 0 (mU r)])
theorem Gb (K : Nat) {x0 : Int} {x1c1 : List Int} {bx1 : Nat} {wx1c1 : Value} {r : List Int} (h : Uc K x0 x1c1 = some r) : V6 tp 70 [.int .i64 x0, .ptr bx1 0] [.tab 0 Xs, (Wb bx1 bx1 wx1c1), .arrX wx1c1 5 1 0 (mU x1c1)] (fun γ => (.tup [])) (fun γ => [.tab 0 Xs, (Wb bx1 bx1 (γ 0)), .arrX (γ 0) 5 1 0 (mU r)]) := by
 refine CI 7 fu70 rfl ?_
 unfold Uc at h
 refine Qq (mw rfl ?_)
 obtain ⟨i, a, h⟩ := bind_some h
 refine sp rfl (Ml rfl (dk rfl) fu39 rfl rfl (Zk.cons rfl Zk.nil) (.tab 0 rfl (.nil)) (Nl K a) ?_)
 obtain ⟨b, h⟩ := Q6 h
 refine sp rfl (Rh rfl (dk rfl) rfl rfl b ?_)
 obtain ⟨j, f, h⟩ := bind_some h
 refine sp rfl (Q4 (is := [1, 2]) (ph := []) rfl (dk rfl) fu71 rfl rfl (Zk.cons rfl (Zk.cons rfl Zk.nil)) (Bl K (bx0 := bx1) (wx0c1 := wx1c1) f) (.cons rfl rfl (.cons rfl rfl (.nil))) (fun _ => rfl) (fun g => (nm (.c (.c (.c (.n)))) (nL (Q2 (.nil) (.cons 0 rfl (.cons 0 rfl (.cons 0 rfl (.nil _)))) (by cases h; exact ⟨gl [g 0], rfl, rfl⟩))))))
abbrev strings_Builder_Write_q (bx0 : Nat) (r : Int × Unit × (List Int)) : ES := U6 tp ff72 (fun y t => ∃ γ : Nat → Value, y = (.tup [.int .i64 r.1, .c (.ex .nilIface)]) ∧ t = [(Wb bx0 bx0 (γ 0)), .arrX (γ 0) 5 1 0 (mU r.2.2)])
theorem Pr (K : Nat) {x0c1 x1 : List Int} {bx0 : Nat} {wx0c1 : Value} {flx1 : Bool} {r : Int × Unit × (List Int)} (h : Jw K x0c1 x1 = some r) : V6 tp 72 [.ptr bx0 0, .sl flx1 1 (mU x1)] [(Wb bx0 bx0 wx0c1), .arrX wx0c1 5 1 0 (mU x0c1)] (fun γ => (.tup [.int .i64 r.1, .c (.ex .nilIface)])) (fun γ => [(Wb bx0 bx0 (γ 0)), .arrX (γ 0) 5 1 0 (mU r.2.2)]) := by
 refine CI 19 fu72 rfl ?_
 unfold Jw at h
 refine sR (Qq (aw rfl (aw rfl (nL (tN (sR (Qq (mw rfl ?_))))))))
 obtain ⟨j, b, h⟩ := bind_some h
 refine sp rfl (Q4 (is := [0, 1]) (ph := []) rfl (dk rfl) fu111 rfl rfl (Zk.cons rfl Zk.nil) (Hp K (bx0 := bx0) (wx0c1 := wx0c1) b) (.cons rfl rfl (.cons rfl rfl (.nil))) (fun _ => rfl) (fun l => (nm (.c (.c (.n))) (nL (tN (sR (Qq (mw rfl (mw rfl (oK rfl (oP ul134 i52 rfl ?_)))))))))))
 refine oL 0 B6 rfl (mw rfl ?_)
 obtain ⟨g, h⟩ := Q6 h
 refine sp rfl (Db (i := 1) (xs := x0c1) (ys := x1) (f := (cI .u8)) rfl (dk rfl) B6 i5 rfl rfl rfl rfl g (fun a => (oK rfl (oP ul134 i52 rfl (sp rfl (Jd (i := 0) (cells' := [.d (.ptr bx0 0), .d (.ex a)]) rfl rfl i52 rfl rfl rfl (nb rfl) rfl (nL (tN (sR (Qq (mw rfl (oU x1 (cI .u8) B6 rfl ?_))))))))))))
 refine aw rfl (aw rfl (nL (tN (T.ret (Q2 (.cons _ _ _ _ (.tmp 4 _ rfl) (.cons _ _ _ _ (.tmp 5 _ rfl) .nil)) (.cons 0 rfl (.cons 0 rfl (.nil _))) (by cases h; exact ⟨gl [a], rfl, rfl⟩))))))
abbrev Qa9 (wx1 : Value) (x1 : List Int) (r : ByteArray) : ES := U6 tp ff40 (fun y t => ∃ γ : Nat → Value, y = (.str r) ∧ t = [.tab 0 Xs, .arrX wx1 3 1 0 (mI x1)])
abbrev Qa7 (wx1 : Value) (x1 : List Int) (r : ByteArray) : ES := fT 70 [1,1,1,1,1,1,1] ff40 (Qa9 wx1 x1 r)
abbrev S9 (wx1 : Value) (x1 : List Int) (r : ByteArray) : ES := Qx 4 ((Qa7 wx1 x1 r))
abbrev Qcq (wx1 : Value) (x1 : List Int) (r : ByteArray) : ES := fT 70 [1,1,1,1,1,1] ff40 (Qa9 wx1 x1 r)
abbrev Qah (wx1 : Value) (x1 : List Int) (r : ByteArray) : ES := Qx 2 ((Qcq wx1 x1 r))
abbrev Qdw (wx1 : Value) (x1 : List Int) (r : ByteArray) : ES := fT 70 [1,1,1,1,1] ff40 (Qa9 wx1 x1 r)
abbrev Qa8 (wx1 : Value) (x1 : List Int) (r : ByteArray) : ES := Qx 0 ((Qdw wx1 x1 r))
theorem trim_sign_l2_T {r : ByteArray} (K : Nat) (wx1 : Value) (x1 : List Int) : ∀ (k : Nat), ∀ (g : List Qc) (j l : Int) (x1 p : List Int) (a : Nat) (m : Value), Hm K k g j l x1 p = some r → TL tp 70 (ca [1,1,1,1,1,1,0,1,0,0] ff40) ⟨[(1, .c (.ex wx1)), (5, .ptr a 0), (6, .c (.ex (.func (.func 70) #[] #[.pointer (some ⟨a, 0, none⟩)]))), (42, .sl false 2 (g.map Qi)), (43, .int .i64 j), (44, .int .i64 l)], [.arrX wx1 3 1 0 (mI x1), (Wb a a m), .arrX m 5 1 0 (mU p), .tab 0 Xs]⟩ (S9 wx1 x1 r) := by
 intro k
 induction k with
 | zero =>
  intro g j l x1 p a m h
  exact zn h
 | succ k ih =>
  intro g j l x1 p a m h
  rw [Hm] at h
  refine Q3 (sR (Qq (oI rfl (nL (tN (T.seq ?_))))))
  rcases Qe h with ⟨u, h⟩ | ⟨u, h⟩
  refine Qp rfl u (T.skip (tN (T.seq (T.block (sR (Qq ?_))))))
  obtain ⟨q, ab, h⟩ := bind_some h
  refine oX g Qi E2 i54 ab rfl (oJ Bi i54 rfl (sp rfl (Zb rfl (dk rfl) i54 rfl (fun av => (sp rfl (Qu (i := 0) (cells' := [.d (.int .i64 q.To), .d (.sl false 1 (mU q.Ops))]) rfl rfl i54 rfl rfl rfl rfl (nb rfl) rfl (nL (tN (T.seq (sR (Qq ?_)))))))))))
  refine oP Bi i3 rfl (oL 0 ul3 rfl (oI rfl (nL (tN ?_))))
  rcases Qe h with ⟨w, h⟩ | ⟨w, h⟩
  refine Qp rfl w (sR (Qq (mw rfl ?_)))
  obtain ⟨ac, ad, h⟩ := bind_some h
  refine sp rfl (Nd (f := 70) (vs := [.pointer (some ⟨a, 0, none⟩)]) rfl rfl (dk rfl) fu70 rfl rfl (Q4 (is := [4, 2, 3]) (ph := []) rfl (dk rfl) fu70 rfl rfl (Zk.cons rfl (Zk.cons rfl Zk.nil)) (Gb K (bx1 := a) (wx1c1 := m) ad) (.cons rfl rfl (.cons rfl rfl (.cons rfl rfl (.nil)))) (fun _ => rfl) (fun af => (nm (.c (.c (.c (.c (.c (.n)))))) (nL (tN (T.exit (Ql (Qr (tN (Qq (oI rfl (mw rfl ?_)))))))))))))
  refine nL (tN ?_)
  refine Qg ?_ (ih g j (wI (l + (1:Int))) x1 ac a (af 0) h)
  exact tr rfl (.c (.s .z) (.c (.s .z) (.c (.s .z) (.c (.s .z) (.n _)))))
  refine Qo rfl w (T.skip (tN (sR (Qq (mw rfl (mw rfl (oP Bi i3 rfl (oL 0 ul3 rfl ?_))))))))
  obtain ⟨y, aa, h⟩ := bind_some h
  refine sp rfl (Z0 (n := 1) (xs := x1) (f := (cI .i64)) (old := y) rfl (dk rfl) Zu i3 rfl rfl rfl aa (sp rfl (Jv (i := 1) (xs := x1) (f := (cI .i64)) (old := y) rfl (dk rfl) ul3 rfl rfl rfl (Zp aa).2 rfl ?_)))
  obtain ⟨ay, ag, h⟩ := bind_some h
  refine sp rfl (Nd (f := 70) (vs := [.pointer (some ⟨a, 0, none⟩)]) rfl rfl (dk rfl) fu70 rfl rfl (Q4 (is := [4, 2, 3]) (ph := []) rfl (dk rfl) fu70 rfl rfl (Zk.cons rfl (Zk.cons rfl Zk.nil)) (Gb K (bx1 := a) (wx1c1 := m) ag) (.cons rfl rfl (.cons rfl rfl (.cons rfl rfl (.nil)))) (fun _ => rfl) (fun ai => (nm (.c (.c (.c (.c (.c (.n)))))) (nL (tN (sR (Qq (oP Bi i52 rfl (oL 0 B6 rfl ?_))))))))))
  obtain ⟨az, aj, h⟩ := bind_some h
  refine sp rfl (Q4 (is := [2, 3]) (ph := []) rfl (dk rfl) fu72 rfl rfl (Zk.cons rfl (Zk.cons rfl Zk.nil)) (Pr K (bx0 := a) (wx0c1 := (ai 0)) (flx1 := false) aj) (.cons rfl rfl (.cons rfl rfl (.nil))) (fun _ => rfl) (fun al => (nm (.c (.c (.c (.c (.c (.n)))))) (nL (tN (Qq (mw rfl (oP Bi i52 rfl (oL 0 B6 rfl ?_)))))))))
  refine oU q.Ops (cI .u8) B6 rfl ?_
  obtain ⟨am, an, h⟩ := bind_some h
  refine sp rfl (Nd (f := 70) (vs := [.pointer (some ⟨a, 0, none⟩)]) rfl rfl (dk rfl) fu70 rfl rfl (Q4 (is := [4, 2, 3]) (ph := []) rfl (dk rfl) fu70 rfl rfl (Zk.cons rfl (Zk.cons rfl Zk.nil)) (Gb K (bx1 := a) (wx1c1 := (al 0)) an) (.cons rfl rfl (.cons rfl rfl (.cons rfl rfl (.nil)))) (fun _ => rfl) (fun ap => (nm (.c (.c (.c (.c (.c (.n)))))) (nL (Qn (tN (Qq (oI rfl (mw rfl (nL (tN ?_))))))))))))
  refine Qg ?_ (ih g j (wI (l + (1:Int))) x1 am a (ap 0) h)
  exact tr rfl (.c (.s .z) (.c (.s .z) (.c (.s .z) (.c (.s .z) (.n _)))))
  refine Qo rfl u (T.exit (Ql (Ql (Qr (tN (sR (Qq ?_)))))))
  obtain ⟨aq, h⟩ := Q6 h
  obtain ⟨au, h⟩ := Q6 h
  refine sp rfl (Q4 (is := [1, 2]) (ph := []) rfl (dk rfl) fu73 rfl rfl (Zk.cons rfl Zk.nil) (builder_String (b := a) (xs := p) aq au) (.cons rfl rfl (.cons rfl rfl (.nil))) (fun _ => rfl) (fun a0 => (nm (.c (.c (.c (.c (.n))))) (aw rfl (nL (tN (T.ret (Q2 (.cons _ _ _ _ (.tmp 4 _ rfl) .nil) (.cons 3 rfl (.cons 0 rfl (.nil _))) (by cases h; exact ⟨gl [], rfl, rfl⟩)))))))))
theorem trim_sign_l1_T {r : ByteArray} (K : Nat) (wx1 : Value) (x1 : List Int) : ∀ (k : Nat), ∀ (x0 : Qa) (g j : Int) (x1 m : List Int) (p a : Nat) (b : Value), Lb K k x0 g j x1 m = some r → TL tp 70 (ca [1,1,1,1,1,0,1,0,0] ff40) ⟨[(1, .c (.ex wx1)), (2, .ptr p 0), (5, .ptr a 0), (6, .c (.ex (.func (.func 70) #[] #[.pointer (some ⟨a, 0, none⟩)]))), (31, .sl false 1 (mI x0.Rule)), (32, .int .i64 g), (33, .int .i64 j)], [.arrX wx1 3 1 0 (mI x1), (K3 p x0.L x0.R x0.Rule x0.Next), (Wb a a b), .arrX b 5 1 0 (mU m), .tab 0 Xs]⟩ (Qah wx1 x1 r) := by
 intro k
 induction k with
 | zero =>
  intro x0 g j x1 m p a b h
  exact zn h
 | succ k ih =>
  intro x0 g j x1 m p a b h
  rw [Lb] at h
  refine Q3 (sR (Qq (oI rfl (nL (tN (T.seq ?_))))))
  rcases Qe h with ⟨q, h⟩ | ⟨q, h⟩
  refine Qp rfl q (T.skip (tN (T.seq (T.block (sR (Qq ?_))))))
  obtain ⟨w, y, h⟩ := bind_some h
  refine oX x0.Rule (cI .i64) Zu i3 y rfl (oR ul3 rfl (aw rfl (nL (tN (Qq (mw rfl (mw rfl ?_)))))))
  obtain ⟨aa, ab, h⟩ := bind_some h
  refine sp rfl (Nd (f := 70) (vs := [.pointer (some ⟨a, 0, none⟩)]) rfl rfl (dk rfl) fu70 rfl rfl (Q4 (is := [4, 2, 3]) (ph := []) rfl (dk rfl) fu70 rfl rfl (Zk.cons rfl (Zk.cons rfl Zk.nil)) (Gb K (bx1 := a) (wx1c1 := b) ab) (.cons rfl rfl (.cons rfl rfl (.cons rfl rfl (.nil)))) (fun _ => rfl) (fun ac => (nm (.c (.c (.c (.c (.c (.n)))))) (nL (Qn (tN (Qq (oI rfl (mw rfl (nL (tN ?_))))))))))))
  refine Qg ?_ (ih x0 g (wI (j + (1:Int))) x1 aa p a (ac 0) h)
  exact tq rfl rfl
  refine Qo rfl q (T.exit (Ql (Ql (Qr (tN (T.seq (sR (Qq (oA 1 [.sl false 1 (mI x0.L), .sl false 1 (mI x0.R), .sl false 1 (mI x0.Rule), .sl false 1 (x0.Next.map (cL 2 Qi))] Ju i51 rfl ?_)))))))))
  obtain ⟨u, ad, h⟩ := bind_some h
  refine oH fu33 (Zl.nil (Tb K ad)) rfl (oU u Qi E2 rfl (mw rfl (nL (tN (T.block (T.loop ?_))))))
  refine Qg ?_ (trim_sign_l2_T K wx1 x1 K u (u.length : Int) (0:Int) x1 m a b h)
  exact tr rfl (.c .z (.c (.s .z) (.c (.s .z) (.c (.s .z) (.n _)))))
theorem trim_sign_l0_T {r : ByteArray} (K : Nat) (wx1 : Value) (x1 : List Int) : ∀ (k : Nat), ∀ (x0 : Qa) (j l : Int) (x1 m : List Int) (b a : Nat) (g : Value), Lc K k x0 j l x1 m = some r → TL tp 70 (ca [1,1,1,1,0,1,0,0] ff40) ⟨[(1, .c (.ex wx1)), (2, .ptr b 0), (5, .ptr a 0), (6, .c (.ex (.func (.func 70) #[] #[.pointer (some ⟨a, 0, none⟩)]))), (20, .sl false 1 (mI x0.R)), (21, .int .i64 j), (22, .int .i64 l)], [.arrX wx1 3 1 0 (mI x1), (K3 b x0.L x0.R x0.Rule x0.Next), (Wb a a g), .arrX g 5 1 0 (mU m), .tab 0 Xs]⟩ (Qa8 wx1 x1 r) := by
 intro k
 induction k with
 | zero =>
  intro x0 j l x1 m b a g h
  exact zn h
 | succ k ih =>
  intro x0 j l x1 m b a g h
  rw [Lc] at h
  refine Q3 (sR (Qq (oI rfl (nL (tN (T.seq ?_))))))
  rcases Qe h with ⟨p, h⟩ | ⟨p, h⟩
  refine Qp rfl p (T.skip (tN (T.seq (T.block (sR (Qq ?_))))))
  obtain ⟨q, s, h⟩ := bind_some h
  refine oX x0.R (cI .i64) Zu i3 s rfl (oR ul3 rfl (aw rfl (nL (tN (Qq (mw rfl (mw rfl ?_)))))))
  obtain ⟨u, w, h⟩ := bind_some h
  refine sp rfl (Nd (f := 70) (vs := [.pointer (some ⟨a, 0, none⟩)]) rfl rfl (dk rfl) fu70 rfl rfl (Q4 (is := [4, 2, 3]) (ph := []) rfl (dk rfl) fu70 rfl rfl (Zk.cons rfl (Zk.cons rfl Zk.nil)) (Gb K (bx1 := a) (wx1c1 := g) w) (.cons rfl rfl (.cons rfl rfl (.cons rfl rfl (.nil)))) (fun _ => rfl) (fun y => (nm (.c (.c (.c (.c (.c (.n)))))) (nL (Qn (tN (Qq (oI rfl (mw rfl (nL (tN ?_))))))))))))
  refine Qg ?_ (ih x0 j (wI (l + (1:Int))) x1 u b a (y 0) h)
  exact tq rfl rfl
  refine Qo rfl p (T.exit (Ql (Ql (Qr (tN (T.seq (sR (Qq (oP Ju i38 rfl (oL 1 Zu rfl (oU x0.Rule (cI .i64) Zu rfl ?_)))))))))))
  refine mw rfl (nL (tN (T.block (T.loop ?_))))
  refine Qg ?_ (trim_sign_l1_T K wx1 x1 K x0 (x0.Rule.length : Int) (0:Int) x1 m b a g h)
  exact tq rfl rfl
theorem trim_sign_T (K : Nat) {x0 : Qa} {x1 : List Int} {wx1 : Value} {r : ByteArray} (h : Ta K x0 x1 = some r) : V6 tp 40 [.agg [.sl false 1 (mI x0.L), .sl false 1 (mI x0.R), .sl false 1 (mI x0.Rule), .sl false 1 (x0.Next.map (cL 2 Qi))], .c (.ex wx1)] [.tab 0 Xs, .arrX wx1 3 1 0 (mI x1)] (fun γ => (.str r)) (fun γ => [.tab 0 Xs, .arrX wx1 3 1 0 (mI x1)]) := by
 refine CI 70 fu40 rfl ?_
 unfold Ta at h
 refine sR (Qq (sp rfl (Zc rfl (dk rfl) rfl (fun b => (aw rfl (nL (tN (sR (Qq (sp rfl (Zb rfl (dk rfl) i134 rfl (fun a => (nL (tN (sR (Qq (sp rfl (OpT.makeFunc (vs := [.pointer (some ⟨a, 0, none⟩)]) rfl (dk rfl) rfl ?_))))))))))))))))))
 refine aw rfl (nL (tN (sR (Qq (mw rfl (oP Ju i38 rfl (oL 1 Zu rfl (oU x0.R (cI .i64) Zu rfl (Ji (Qga 5 1) ?_)))))))))
 obtain ⟨d, g, h⟩ := bind_some h
 refine sp rfl (Nd (f := 70) (vs := [.pointer (some ⟨a, 0, none⟩)]) rfl rfl (dk rfl) fu70 rfl rfl (Q4 (is := [3, 1, 0]) (ph := []) rfl (dk rfl) fu70 rfl rfl (Zk.cons rfl (Zk.cons rfl Zk.nil)) (trim_sign_1_T K (bx1 := a) (wx1c1 := (Qdv 10)) g) (.cons rfl rfl (.cons rfl rfl (.cons rfl rfl (.nil)))) (fun _ => rfl) (fun j => (nm (.c (.c (.c (.c (.c (.n)))))) (nL (tN (T.seq (sR (Qq (oP Ju i38 rfl (oL 2 Zu rfl ?_)))))))))))
 refine oU x0.R (cI .i64) Zu rfl (mw rfl (nL (tN (T.block (T.loop ?_)))))
 refine Qg ?_ (trim_sign_l0_T K wx1 x1 K x0 (x0.R.length : Int) (0:Int) x1 d b a (j 0) h)
 exact tr rfl (.c (.s (.s (.s (.s .z)))) (.c (.s (.s .z)) (.c (.s .z) (.c .z (.c .z (.n _))))))
end Go.Rv

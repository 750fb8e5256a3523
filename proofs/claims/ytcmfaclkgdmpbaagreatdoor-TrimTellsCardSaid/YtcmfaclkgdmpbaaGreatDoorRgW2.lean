/- Each function computes what its plain text says: printed by a program of ours. -/
import Derived.Test.YtcmfaclkgdmpbaaGreatDoorRgW1
namespace Go.Rv
open Go.Proofs
set_option maxRecDepth 100000
set_option maxHeartbeats 4000000
set_option linter.unusedVariables false
abbrev Qla (r : List Bool) : ES := Jm tp ff12 (fun y t => y = (.sl false 1 (r.map cB)) ∧ t = [])
abbrev Qid (r : List Bool) : ES := fT 85 [1,1,1,1,1,1] ff12 (Qla r)
abbrev Nz (r : List Bool) : ES := Qv 0 ((Qid r))
abbrev Qfs (r : List Bool) : ES := fL 85 [1,1,1,1,1,0,1,0,0] ff12 (Nz r)
abbrev T2 (r : List Bool) : ES := fT 85 [1,1,1,1,1,0,1,0,0,1,1,1] ff12 (Qfs r)
abbrev K3 (r : List Bool) : ES := Qv 1 ((T2 r))
abbrev Ie (r : List Bool) : ES := Qv 2 ((K3 r))
abbrev Qgp (r : List Bool) : ES := fT 85 [1,1,1,1,1,1,1] ff12 (Qla r)
abbrev Ic (r : List Bool) : ES := Qv 4 ((Qgp r))
abbrev Qeg (r : List Bool) : ES := fL 85 [1,1,1,1,1,1,0,1,0,0] ff12 (Ic r)
abbrev Su (r : List Bool) (go : Qc → Int → Int → (List Bool) → (List (List Int)) → (List Int) → Option (List Bool)) : Prop := ∀ (x0 : Qc) (a b : Int) (f : List Bool) (g : List (List Int)) (i : List Int) (j l : Value) (m : Nat) (n : Value), go x0 a b f g i = some r → TL tp 85 (ca [1,1,1,1,1,0,1,0,0] ff12) ⟨[(3, .c (.ex j)), (4, .c (.ex l)), (5, .ptr m 0), (24, .sl false 4 (x0.States.map Qb)), (25, .int .i64 a), (26, .int .i64 b)], [.arrX j 4 1 0 (f.map cB), .arrG l 38 (gc 3 1 (cI .i64) g), (Qjx m n), .arrX n 3 1 0 (mI i)]⟩ (Nz r)
theorem trim_Live_l4_T {r : List Bool} (K : Nat) (go0 : Qc → Int → Int → (List Bool) → (List (List Int)) → (List Int) → Option (List Bool)) (hgo0 : Su r go0) : ∀ (k : Nat), ∀ (j : Int) (x0 : Qc) (ad af : Int) (ag : List Qd) (al am : Int) (ai : List Bool) (m : List (List Int)) (aj : List Int) (q b : Value) (aa : Nat) (ab : Value), Lm K go0 k j x0 ad af ag al am ai m aj = some r → TL tp 85 (ca [1,1,1,1,1,0,1,0,0,1,1,0,0,1,1,1,0,0] ff12) ⟨[(3, .c (.ex q)), (4, .c (.ex b)), (5, .ptr aa 0), (6, .int .i64 j), (24, .sl false 4 (x0.States.map Qb)), (25, .int .i64 ad), (26, .int .i64 af), (39, .sl false 2 (ag.map Qh)), (40, .int .i64 al), (41, .int .i64 am)], [.arrX q 4 1 0 (ai.map cB), .arrG b 38 (gc 3 1 (cI .i64) m), (Qjx aa ab), .arrX ab 3 1 0 (mI aj)]⟩ (Ie r) := by
 intro k
 induction k with
 | zero =>
  intro j x0 ad af ag al am ai m aj q b aa ab h
  exact zn h
 | succ k ih =>
  intro j x0 ad af ag al am ai m aj q b aa ab h
  rw [Lm] at h
  refine Q0 (sR (Qr (oI rfl (nL (tN (T.seq ?_))))))
  rcases Qg h with ⟨ap, h⟩ | ⟨ap, h⟩
  refine Qp rfl ap (T.skip (tN (T.seq (T.block (sR (Qr ?_))))))
  obtain ⟨g, au, h⟩ := bind_some h
  refine oX ag Qh Ma i54 au rfl (oJ Lj i54 rfl (sp rfl (Za rfl (dk rfl) i54 rfl (fun ac => (sp rfl (Qt (i := 0) (cells' := [.d (.int .i64 g.To), .d (.sl false 1 (mU g.Ops))]) rfl rfl i54 rfl rfl rfl rfl (nb rfl) rfl (nL (tN (sR (Qr (oP Lj i3 rfl (oL 0 ul3 rfl ?_))))))))))))
  refine oI rfl (nL (tN ?_))
  rcases Qg h with ⟨aq, h⟩ | ⟨aq, h⟩
  refine Qp rfl aq (Ql Zu (Ql Zu (Ur (gM rfl (fun _ => .f rfl) (fun _ => rfl) (gP rfl (fun _ => .f rfl) Lj i3 (fun _ => rfl) (gL 2 rfl (fun _ => .f rfl) ul3 (fun _ => rfl) ?_))))))
  refine gM rfl (fun _ => .f rfl) (fun _ => rfl) (gP rfl (fun _ => .f rfl) Lj i3 (fun _ => rfl) (gL 2 rfl (fun _ => .f rfl) ul3 (fun _ => rfl) ?_))
  obtain ⟨p, an, h⟩ := bind_some h
  refine dC (c := ⟨some 54, .el b 1 (Int.toNat g.To) 0, [(51, .c (.ex b)), (53, .int .i64 g.To)], [(4, .arrG b 38 (gc 3 1 (cI .i64) m))], []⟩) (fun t hm => oF rfl rfl (Qcc (n := 4) (l := m) (y := p) rfl (dk rfl) ul72 i38 hm.s0 hm.o0 hm.s1 an ⟨u0, rfl⟩)) (fun _ => rfl) (fun _ => rfl) (DGG.step (c := fun a => ⟨some 55, .c (.ex ((a 7).1 0)), [(54, .el b 1 (Int.toNat g.To) 0)], [(4, .arrG b 38 (gc 3 1 (cI .i64) m)), (0, .ro 0 [])], [(4, .arrG b 38 (gh 3 1 (cI .i64) m (Int.toNat g.To) ((a 7).1 0))), (0, .arrA ((a 7).1 0) 3 1 (mI p))]⟩) [7] (fun a γ' h => by simp only [h 7 (by decide)]) (fun a t hm => oF rfl rfl (Qj0 (i := 4) (kk := 0) (l := m) (y := p) rfl (dk rfl) Zi rfl hm.s0 hm.o0 (Zd an).2 hm.o1 (fun w => ⟨(fun _ => w, 0), rfl⟩))) (fun a => Zg rfl rfl) (gM rfl (fun _ => .f rfl) (fun _ => rfl) (dC (c := ⟨some 57, .sl true 1 ([j].map (cI .i64)), [(56, .int .i64 j)], [], []⟩) (fun t hm => oF rfl rfl (OpT.buildSlice (elems := ([j] : List Int).map (cI .i64)) rfl (dk rfl) Zi i3 (by decide) rfl (Hs rfl) (Z8 hm.s0 rfl Vx) rfl rfl (Xh rfl) (by decide) ⟨u0, rfl⟩)) (fun _ => rfl) (fun _ => rfl) ?_)))
  obtain ⟨av, h⟩ := Q6 h
  refine DGG.step (c := fun a => ⟨some 58, .c (.ex ((a 10).1 0)), [(57, .sl true 1 ([j].map (cI .i64))), (55, .c (.ex ((a 7).1 0)))], [(0, .arrA ((a 7).1 0) 3 1 (mI p))], [(0, .arrA ((a 10).1 0) 3 1 ((p ++ [j]).map (cI .i64)))]⟩) [7, 10] (fun a γ' h => by simp only [h 7 (by decide), h 10 (by decide)]) (fun a t hm => oF rfl rfl (Zp (i := 0) (xs := p) (ys := [j]) (f := (cI .i64)) rfl (dk rfl) Zi i3 rfl hm.s1 hm.o0 hm.s0 av (fun w => ⟨(fun _ => w, 0), rfl⟩))) (fun a => Zg rfl rfl) (DGG.step (c := fun a => ⟨some 59, .el b 1 (Int.toNat g.To) 0, [(48, .c (.ex b)), (50, .int .i64 g.To)], [(4, .arrG b 38 (gh 3 1 (cI .i64) m (Int.toNat g.To) ((a 7).1 0)))], []⟩) [7] (fun a γ' h => by simp only [h 7 (by decide)]) (fun a t hm => oF rfl rfl (Qh7 (n := 4) (l := m) (y := p) rfl (dk rfl) ul72 i38 hm.s0 hm.o0 hm.s1 an ⟨u0, rfl⟩)) (fun a => Zg rfl rfl) (DGG.step (c := fun a => ⟨none, .any, [(59, .el b 1 (Int.toNat g.To) 0), (58, .c (.ex ((a 10).1 0)))], [(4, .arrG b 38 (gh 3 1 (cI .i64) m (Int.toNat g.To) ((a 7).1 0))), (0, .arrA ((a 10).1 0) 3 1 ((p ++ [j]).map (cI .i64)))], [(4, .arrG b 38 (gc 3 1 (cI .i64) (List.set m (Int.toNat g.To) (p ++ [j])))), (0, .ro 0 [])]⟩) [7, 10] (fun a γ' h => by simp only [h 7 (by decide), h 10 (by decide)]) (fun a t hm => oF rfl rfl (Qh6 (i := 4) (kk := 0) (l := m) (old := p) (y' := (p ++ [j])) rfl rfl i38 hm.s0 hm.s1 hm.o0 (Zd an).2 hm.o1 ⟨u0, rfl⟩)) (fun a => Zg rfl rfl) (gF [0,0,2,0,0,16,56,120,0,256,1016,2047,4095] Qx rfl (by kernel_rfl) (fun _ => by kernel_rfl) (fun a u hu => (Qk (tN (Ql hu (Qr (oI rfl (mw rfl ?_))))))))))
  refine nL (tN ?_)
  refine Qf ?_ (ih j x0 ad af ag al (wI (am + (1:Int))) ai (List.set m (Int.toNat g.To) (p ++ [j])) aj q b aa ab h)
  exact tr rfl (.c (.s (.s (.s .z))) (.c (.s (.s (.s .z))) (.c (.s (.s (.s .z))) (.c (.s (.s (.s .z))) (.n _)))))
  refine Qo rfl aq (T.skip (Qk (tN (Qr (oI rfl (mw rfl (nL (tN ?_))))))))
  refine Qf ?_ (ih j x0 ad af ag al (wI (am + (1:Int))) ai m aj q b aa ab h)
  exact tr rfl (.c (.s .z) (.c (.s .z) (.c (.s .z) (.c (.s .z) (.n _)))))
  refine Qo rfl ap (T.exit (Qj (Qj (Qq (Qk (tN (Qr (oI rfl (mw rfl (nL (tN ?_)))))))))))
  refine Qf ?_ (hgo0 x0 ad (wI (af + (1:Int))) ai m aj q b aa ab h)
  exact tq rfl rfl
theorem Qf6 {r : List Bool} (K : Nat) (go0 : Qc → Int → Int → (List Bool) → (List (List Int)) → (List Int) → Option (List Bool)) (hgo0 : Su r go0) (a : Int) (x0 : Qc) (b g : Int) (j : List Bool) (m : List (List Int)) (p q : List Int) (s u : List Int) (v : List (List Qd)) (w y : Value) (aa : Nat) (ab : Value) (ad : Nat) (h : Dc K go0 a x0 b g j m p q s u v = some r) : T tp 85 (ca [1,1,1,1,1,0,1,0,0,1,1,0,0,1,1] ff12) ⟨[(3, .c (.ex w)), (4, .c (.ex y)), (5, .ptr aa 0), (6, .int .i64 a), (7, .ptr ad 0), (24, .sl false 4 (x0.States.map Qb)), (25, .int .i64 b), (26, .int .i64 g)], [.arrX w 4 1 0 (j.map cB), .arrG y 38 (gc 3 1 (cI .i64) m), (Qjx aa ab), .arrX ab 3 1 0 (mI p), (W0 ad q s u v)]⟩ (K3 r) := by
 unfold Dc at h
 refine sR (Qr (oA 4 [.sl false 1 (mI q), .sl false 1 (mI s), .sl false 1 (mI u), .sl false 1 (v.map (cL 2 Qh))] V1 i51 rfl ?_))
 obtain ⟨ac, af, h⟩ := bind_some h
 refine oH fu33 (Zh.nil (Qee K af)) rfl (oU ac Qh Ma rfl (mw rfl (nL (tN (T.block (T.loop ?_))))))
 refine Qf ?_ (trim_Live_l4_T K go0 hgo0 K a x0 b g ac (ac.length : Int) (0:Int) j m p w y aa ab h)
 exact tq rfl rfl
abbrev Qf4 (r : List Bool) (go : Int → Bool → (List Bool) → (List (List Int)) → (List Int) → Option (List Bool)) : Prop := ∀ (a : Int) (b : Bool) (f : List Bool) (g : List (List Int)) (i : List Int) (j l : Value) (m : Nat) (n : Value), go a b f g i = some r → TL tp 85 (ca [1,1,1,1,1,1,0,1,0,0] ff12) ⟨[(3, .c (.ex j)), (4, .c (.ex l)), (5, .ptr m 0), (10, .int .i64 a), (11, .bool b)], [.arrX j 4 1 0 (f.map cB), .arrG l 38 (gc 3 1 (cI .i64) g), (Qjx m n), .arrX n 3 1 0 (mI i)]⟩ (Ic r)
theorem Qf5 {r : List Bool} (K : Nat) (go2 : Int → Bool → (List Bool) → (List (List Int)) → (List Int) → Option (List Bool)) (hgo2 : Qf4 r go2) (b : List Bool) (f : List (List Int)) (p : List Int) (g i : Value) (a : Nat) (j : Value) (h : Sh K go2 b f p = some r) : T tp 85 (ca [1,1,1,1,1,1,0,1,0,0,1,1] ff12) ⟨[(3, .c (.ex g)), (4, .c (.ex i)), (5, .ptr a 0)], [.arrX g 4 1 0 (b.map cB), .arrG i 38 (gc 3 1 (cI .i64) f), (Qjx a j), .arrX j 3 1 0 (mI p)]⟩ (Qeg r) := by
 unfold Sh at h
 refine Qr ?_
 obtain ⟨m, q, h⟩ := bind_some h
 refine sp rfl (Q9 (is := [2, 3]) (ph := []) rfl (dk rfl) fu34 rfl rfl (Zm.cons rfl Zm.nil) (Ny K (bx0 := a) (wx0c0 := j) q) (.cons rfl rfl (.cons rfl rfl (.nil))) (fun _ => rfl) (fun s => (nm (.c (.c (.c (.c (.n))))) (mw rfl (oE rfl (oE rfl (aw rfl (aw rfl ?_))))))))
 refine nL (tN ?_)
 refine Qf ?_ (hgo2 m.1 m.2.1 b f m.2.2.l g i a (s 0) h)
 exact tq rfl rfl
theorem trim_Live_l2_T {r : List Bool} (K : Nat) : ∀ (k : Nat), Qf4 r (Uz K k) := by
 intro k
 induction k with
 | zero =>
  intro v ac a b w m p d q h
  exact zn h
 | succ k ih =>
  intro v ac a b w m p d q h
  rw [Uz] at h
  refine Q0 (T.seq (sR (Qr (mw rfl (nL (tN ?_))))))
  rcases Qg h with ⟨s, h⟩ | ⟨s, h⟩
  refine Qp rfl s (T.skip (tN (T.seq (T.block (sR (Qr (mw rfl (mw rfl ?_))))))))
  obtain ⟨g, j, h⟩ := bind_some h
  refine sp rfl (Zc (n := 0) (xs := a) (f := cB) (old := g) rfl (dk rfl) Qkd i4 rfl rfl rfl j (sp rfl (X1 (i := 0) (xs := a) (f := cB) (old := g) rfl (dk rfl) ul4 rfl rfl rfl (Zd j).2 rfl (oT rfl (nL (tN ?_))))))
  rcases Qg h with ⟨u, h⟩ | ⟨u, h⟩
  refine Qp rfl u (sR (Qr (mw rfl (mw rfl (sp rfl (Zc (n := 0) (xs := a) (f := cB) (old := g) rfl (dk rfl) Qkd i4 rfl rfl rfl j (sp rfl (Yr (i := 0) (xs := a) (f := cB) (old := g) (new := true) rfl rfl i4 rfl rfl rfl (Zd j).2 (Qmm _) (nb rfl) rfl (nL (tN ?_))))))))))
  refine Qr (mw rfl (mw rfl ?_))
  obtain ⟨aa, ab, h⟩ := bind_some h
  refine sp rfl (Qcc (n := 1) (l := b) (y := aa) rfl (dk rfl) ul72 i38 rfl rfl rfl ab (sp rfl (OpT.loadGM (i := 1) (l := b) (y := aa) rfl (dk rfl) Zi rfl rfl rfl (Zd ab).2 ?_)))
  obtain ⟨ad, af, h⟩ := bind_some h
  refine sp rfl (Q9 (is := [2, 3]) (ph := []) rfl (dk rfl) fu32 rfl rfl (Zm.cons rfl (Zm.cons rfl Zm.nil)) (Ib K (bx0 := d) (wx0c0 := q) (flx1 := false) af) (.cons rfl rfl (.cons rfl rfl (.nil))) (fun _ => rfl) (fun ag => (nm (.c (.c (.c (.c (.n))))) (nL (Qk (tN ?_))))))
  refine Ql ?_ (Qf5 K (Uz K k) ih (List.set a (Int.toNat v) true) b ad.l m p d (ag 0) h)
  exact tq rfl rfl
  refine Qo rfl u (T.skip (Qk (tN ?_)))
  refine Ql ?_ (Qf5 K (Uz K k) ih a b w m p d q h)
  exact tq rfl rfl
  refine Qo rfl s (T.exit (Qj (Qj (Qq (tN (sR (Qr (mw rfl (aw rfl (nL (tN (T.ret ?_))))))))))))
  refine Yw (Uf 0 rfl) (Yw (Zr.view 2 0 rfl rfl) (fd rfl (by cases h; exact ⟨rfl, rfl⟩)))
theorem trim_Live_l0_T {r : List Bool} (K : Nat) : ∀ (k : Nat), Su r (U0 K k) := by
 intro k
 induction k with
 | zero =>
  intro x0 w b j m ac p q g u h
  exact zn h
 | succ k ih =>
  intro x0 w b j m ac p q g u h
  rw [U0] at h
  refine Q0 (sR (Qr (oI rfl (nL (tN (T.seq ?_))))))
  rcases Qg h with ⟨y, h⟩ | ⟨y, h⟩
  refine Qp rfl y (T.skip (tN (T.seq (T.block (sR (Qr (mw rfl ?_)))))))
  obtain ⟨a, af, h⟩ := bind_some h
  refine oX x0.States Qb Vj i51 af rfl (oJ V1 i51 rfl (sp rfl (Za rfl (dk rfl) i51 rfl (fun ad => (aw rfl (sp rfl (Qt (i := 0) (cells' := [.d (.sl false 1 (mI a.L)), .d (.sl false 1 (mI a.R)), .d (.sl false 1 (mI a.Rule)), .d (.sl false 1 (a.Next.map (cL 2 Qh)))]) rfl rfl i51 rfl rfl rfl rfl (nb rfl) rfl (nL (tN (T.seq ?_))))))))))
  refine sR (Qr (oP V1 i38 rfl (oL 0 Zi rfl ?_)))
  obtain ⟨ap, ag, h⟩ := bind_some h
  refine oH fu31 (Zh.nil (Qkk K (flx0 := false) ag)) rfl (oI rfl (nL (tN ?_)))
  rcases Qg h with ⟨aa, h⟩ | ⟨aa, h⟩
  refine Qp rfl aa (Qr (mw rfl (sp rfl (OpT.buildSlice (elems := ([b] : List Int).map (cI .i64)) rfl (dk rfl) Zi i3 (by decide) rfl (Hs rfl) rfl rfl rfl (Xh rfl) (by decide) ?_))))
  obtain ⟨ai, aj, h⟩ := bind_some h
  refine sp rfl (Q9 (is := [3, 4]) (ph := []) rfl (dk rfl) fu32 rfl rfl (Zm.cons rfl (Zm.cons rfl Zm.nil)) (Ib K (bx0 := g) (wx0c0 := u) (flx1 := true) aj) (.cons rfl rfl (.cons rfl rfl (.nil))) (fun _ => rfl) (fun al => (nm (.c (.c (.c (.c (.c (.n)))))) (nL (tN ?_)))))
  refine Ql ?_ (Qf6 K (U0 K k) ih b x0 w b j m ai.l a.L a.R a.Rule a.Next p q g (al 0) ad h)
  exact tr rfl (.c (.s .z) (.c (.s .z) (.c (.s .z) (.c (.s .z) (.c .z (.n _))))))
  refine Qo rfl aa (T.skip (tN ?_))
  refine Ql ?_ (Qf6 K (U0 K k) ih b x0 w b j m ac a.L a.R a.Rule a.Next p q g u ad h)
  exact tr rfl (.c (.s .z) (.c (.s .z) (.c (.s .z) (.c (.s .z) (.c .z (.n _))))))
  refine Qo rfl y (T.exit (Qj (Qj (Qq (tN (T.seq (sR (Qr ?_))))))))
  obtain ⟨ab, am, h⟩ := bind_some h
  refine sp rfl (Q9 (is := [2, 3]) (ph := []) rfl (dk rfl) fu34 rfl rfl (Zm.cons rfl Zm.nil) (Ny K (bx0 := g) (wx0c0 := u) am) (.cons rfl rfl (.cons rfl rfl (.nil))) (fun _ => rfl) (fun an => (nm (.c (.c (.c (.c (.n))))) (mw rfl (oE rfl (oE rfl (aw rfl (aw rfl ?_))))))))
  refine nL (tN (T.block (T.loop ?_)))
  refine Qf ?_ (trim_Live_l2_T K K ab.1 ab.2.1 j m ab.2.2.l p q g (an 0) h)
  exact tq rfl rfl
theorem Qlb (K : Nat) {x0 : Qc} {r : List Bool} (h : If K x0 = some r) : Zh tp 12 [.agg ((Q5.dc 256 .u8 x0.Split.Of) ++ (([.int .i64 x0.Split.Many, .sl false 2 (mA x0.Counts), .sl false 4 (x0.States.map Qb)] : List DC)))] [] (.sl false 1 (r.map cB)) := by
 refine CI 85 fu12 rfl ?_
 unfold If at h
 refine sR (Qr (sp rfl (Q8 rfl (dk rfl) rfl (fun u => (aw rfl (nL (tN (T.seq (sR (Qr (oA 0 ((Q5.dc 256 .u8 x0.Split.Of) ++ (([.int .i64 x0.Split.Many, .sl false 2 (mA x0.Counts), .sl false 4 (x0.States.map Qb)] : List DC))) Xz i28 rfl ?_)))))))))))
 obtain ⟨v, d, h⟩ := bind_some h
 refine oH fu24 (Zh.nil (Qfb K d)) rfl (oT rfl (nL (tN ?_)))
 rcases Qg h with ⟨a, h⟩ | ⟨a, h⟩
 refine Qp rfl a (sR (Qr (aw rfl (nL (tN (T.ret (Qs (Yw (F3 2 false 1 rfl) (fd rfl (by cases h; exact ⟨rfl, rfl⟩))))))))))
 refine Qo rfl a (T.skip (tN (sR (Qr (oP Xz i26 rfl (oL 0 Vj rfl (oU x0.States Qb Vj rfl ?_)))))))
 obtain ⟨b, h⟩ := Q6 h
 obtain ⟨g, h⟩ := Q6 h
 refine sp rfl (Vy (f := cB) (zv := (false : Bool)) rfl (dk rfl) Qkd i4 (by decide) rfl rfl rfl rfl rfl b g (fun j => (aw rfl (nL (tN (sR (Qr (oP Xz i26 rfl (oL 1 Vj rfl (oU x0.States Qb Vj rfl ?_))))))))))
 obtain ⟨m, h⟩ := Q6 h
 refine sp rfl (Tx (e1 := 3) (esz := 1) (f := (cI .i64)) rfl (dk rfl) ul72 i38 rfl rfl b m (fun p => (aw rfl (nL (tN (sR (Qr (sp rfl (Za rfl (dk rfl) i74 rfl (fun q => (nL (tN (T.seq (sR (Qr ?_)))))))))))))))
 refine oP Xz i26 rfl (oL 3 Vj rfl (oU x0.States Qb Vj rfl (mw rfl (nL (tN (T.block (T.loop ?_)))))))
 refine Qf (Iy 3 1) ?_
 refine Qf ?_ (trim_Live_l0_T K K x0 (x0.States.length : Int) (0:Int) (List.replicate (Int.toNat (x0.States.length : Int)) (false : Bool)) (List.replicate (Int.toNat (x0.States.length : Int)) ([] : List Int)) [] j p q (Qd7 19) h)
 exact tr rfl (.c (.s (.s (.s .z))) (.c (.s (.s .z)) (.c (.s .z) (.c .z (.n _)))))
abbrev slices_Clone_int_q (r : List Int) : ES := Jm tp ff95 (fun y t => y = (.sl false 1 (mI r)) ∧ t = [])
theorem Jz (K : Nat) {x0 : List Int} {flx0 : Bool} {r : List Int} (h : Vb K x0 = some r) : Zh tp 95 [.sl flx0 1 (mI x0)] [] (.sl false 1 (mI r)) := by
 refine CI 8 fu95 rfl ?_
 unfold Vb at h
 refine sR (Qr (aw rfl (nL (tN (T.seq (sR (Qr (mw rfl (sp rfl (Ql8 (xs := x0) (f := (cI .i64)) rfl (dk rfl) Zi rfl rfl (fun b c => ?_)))))))))))
 refine nL (tN ?_)
 rcases Bool.eq_false_or_eq_true b with a | a
 have hx := c a
 replace h : (some []) = some r := by first | (rw [hx] at h; exact h) | exact h
 refine Qp rfl a (sR (Qr (aw rfl (nL (tN (T.ret (Qs (Yw (F3 2 false 1 rfl) (fd rfl (by cases h; exact ⟨rfl, rfl⟩))))))))))
 refine Qo rfl a (T.skip (tN (sR (Qr (sp rfl (OpT.buildSlice (elems := ([] : List Int).map (cI .i64)) rfl (dk rfl) Zi i3 (by decide) rfl (Hs rfl) rfl rfl rfl (Xh rfl) (by decide) (mw rfl ?_)))))))
 obtain ⟨d, h⟩ := Q6 h
 refine sp rfl (F8 (xs := ([] : List Int)) (ys := x0) (f := (cI .i64)) rfl (dk rfl) Zi i3 rfl rfl rfl (.inr rfl) d (fun g => (aw rfl (nL (tN (T.ret (Yw (Zr.view 2 0 rfl rfl) (fd rfl (by cases h; exact ⟨rfl, rfl⟩)))))))))
abbrev slices_Clone_uint8_q (r : List Int) : ES := Jm tp ff94 (fun y t => y = (.sl false 1 (mU r)) ∧ t = [])
theorem N1 (K : Nat) {x0 : List Int} {flx0 : Bool} {r : List Int} (h : Jy K x0 = some r) : Zh tp 94 [.sl flx0 1 (mU x0)] [] (.sl false 1 (mU r)) := by
 refine CI 8 fu94 rfl ?_
 unfold Jy at h
 refine sR (Qr (aw rfl (nL (tN (T.seq (sR (Qr (mw rfl (sp rfl (Ql8 (xs := x0) (f := (cI .u8)) rfl (dk rfl) B2 rfl rfl (fun b c => ?_)))))))))))
 refine nL (tN ?_)
 rcases Bool.eq_false_or_eq_true b with a | a
 have hx := c a
 replace h : (some []) = some r := by first | (rw [hx] at h; exact h) | exact h
 refine Qp rfl a (sR (Qr (aw rfl (nL (tN (T.ret (Qs (Yw (F3 2 false 1 rfl) (fd rfl (by cases h; exact ⟨rfl, rfl⟩))))))))))
 refine Qo rfl a (T.skip (tN (sR (Qr (sp rfl (OpT.buildSlice (elems := ([] : List Int).map (cI .u8)) rfl (dk rfl) B2 i5 (by decide) rfl (Hs rfl) rfl rfl rfl (Xh rfl) (by decide) (mw rfl ?_)))))))
 obtain ⟨d, h⟩ := Q6 h
 refine sp rfl (F8 (xs := ([] : List Int)) (ys := x0) (f := (cI .u8)) rfl (dk rfl) B2 i5 rfl rfl rfl (.inr rfl) d (fun g => (aw rfl (nL (tN (T.ret (Yw (Zr.view 2 0 rfl rfl) (fd rfl (by cases h; exact ⟨rfl, rfl⟩)))))))))
abbrev Qgg (bx0 : Nat) (wx1 : Value) (x1 : List Int) (r : Qe) : ES := Jm tp Qia (fun y t => ∃ γ : Nat → Value, y = (.tup []) ∧ t = [(Co bx0 r.Auto.Split.Of r.Auto.Split.Many r.Auto.Counts r.Auto.States), .arrX wx1 3 1 0 (mI x1)])
abbrev Qct (bx0 : Nat) (wx1 : Value) (x1 : List Int) (r : Qe) : ES := fT 102 [1,1] Qia (Qgg bx0 wx1 x1 r)
abbrev Db (bx0 : Nat) (wx1 : Value) (x1 : List Int) (r : Qe) : ES := Qv 0 ((Qct bx0 wx1 x1 r))
abbrev Tz (bx0 : Nat) (wx1 : Value) (x1 : List Int) (r : Qe) : ES := fL 102 [1,0,1,0,0] Qia (Db bx0 wx1 x1 r)
abbrev N5 (bx0 : Nat) (wx1 : Value) (x1 : List Int) (r : Qe) : ES := fT 102 [1,0,1,0,0,1,1,1] Qia (Tz bx0 wx1 x1 r)
abbrev Eh (bx0 : Nat) (wx1 : Value) (x1 : List Int) (r : Qe) : ES := Qv 1 ((N5 bx0 wx1 x1 r))
abbrev Eg (bx0 : Nat) (wx1 : Value) (x1 : List Int) (r : Qe) : ES := fT 102 [1,0,1,0,0,1,1,0,0,1,1,1] Qia (Eh bx0 wx1 x1 r)
abbrev Jw (bx0 : Nat) (wx1 : Value) (x1 : List Int) (r : Qe) : ES := Qv 2 ((Eg bx0 wx1 x1 r))
abbrev Dm (bx0 : Nat) (wx1 : Value) (x1 : List Int) (r : Qe) : ES := fL 102 [1,0,1,0,0,1,1,0,0,1,1,0,1,0,0] Qia (Jw bx0 wx1 x1 r)
abbrev M4 (bx0 : Nat) (wx1 : Value) (x1 : List Int) (r : Qe) : ES := fT 102 [1,0,1,0,0,1,1,0,0,1,1,0,1,0,0,1,1,1] Qia (Dm bx0 wx1 x1 r)
abbrev H6 (bx0 : Nat) (wx1 : Value) (x1 : List Int) (r : Qe) : ES := Qv 3 ((M4 bx0 wx1 x1 r))
abbrev Vq (bx0 : Nat) (wx1 : Value) (x1 : List Int) (r : Qe) : ES := Qv 4 ((H6 bx0 wx1 x1 r))
abbrev Kd (bx0 : Nat) (wx1 : Value) (x1 : List Int) (r : Qe) : ES := fL 102 [1,0,1,0,0,1,1,0,0,1,1,0,1,0,0,1,1,0,0,1,1,0,0] Qia (Vq bx0 wx1 x1 r)
abbrev H5 (bx0 : Nat) (wx1 : Value) (x1 : List Int) (r : Qe) : ES := fT 102 [1,0,1,0,0,1,1,0,0,1,1,0,1,0,0,1,1,0,0,1,1,0,0,1,1,1] Qia (Kd bx0 wx1 x1 r)
abbrev Xe (bx0 : Nat) (wx1 : Value) (x1 : List Int) (r : Qe) : ES := Qv 5 ((H5 bx0 wx1 x1 r))
abbrev W6 (bx0 : Nat) (wx1 : Value) (x1 : List Int) (r : Qe) : ES := fT 102 [1,0,1,0,0,1,1,0,0,1,1,0,1,0,0,1,1,0,0,1,1,0,0,1,1,0,0,1,1,1] Qia (Xe bx0 wx1 x1 r)
abbrev Kt (bx0 : Nat) (wx1 : Value) (x1 : List Int) (r : Qe) (go : Int → Int → Qe → Int → Int → (List (List Qd)) → Int → Int → (List Qd) → Int → Int → (List Int) → (List Qa) → (List Int) → (List Int) → (List Int) → (List (List Qd)) → (List (List Qd)) → Option Qe) : Prop := ∀ (a b : Int) (x0 : Qe) (f g : Int) (i : List (List Qd)) (j l : Int) (m : List Qd) (n p : Int) (x1 : List Int) (q : List Qa) (s u v : List Int) (w y : List (List Qd)) (z : Value) (aa : Nat) (ab : Value), go a b x0 f g i j l m n p x1 q s u v w y = some r → TL tp 102 (ca [1,0,1,0,0,1,1,0,0,1,1,0,1,0,0,1,1,0,0,1,1,0,0] Qia) ⟨[(0, .ptr bx0 0), (1, .c (.ex wx1)), (4, .c (.ex z)), (5, .int .i64 a), (6, .ptr aa 0), (7, .c (.ex ab)), (8, .int .i64 b), (24, .sl false 4 (x0.Auto.States.map Qb)), (25, .int .i64 f), (26, .int .i64 g), (36, .sl false 1 (i.map (cL 2 Qh))), (37, .int .i64 j), (38, .int .i64 l), (43, .sl false 2 (m.map Qh)), (44, .int .i64 n), (45, .int .i64 p)], [(Co bx0 x0.Auto.Split.Of x0.Auto.Split.Many x0.Auto.Counts x0.Auto.States), .arrX wx1 3 1 0 (mI x1), .arrX z 51 4 0 (q.map Qb), (W0 aa s u v w), .arrG ab 55 (gc 54 2 Qh y)]⟩ (Vq bx0 wx1 x1 r)
theorem E1 {r : Qe} (K bx0 : Nat) (wx1 : Value) (x1 : List Int) (go2 : Int → Int → Qe → Int → Int → (List (List Qd)) → Int → Int → (List Qd) → Int → Int → (List Int) → (List Qa) → (List Int) → (List Int) → (List Int) → (List (List Qd)) → (List (List Qd)) → Option Qe) (hgo2 : Kt bx0 wx1 x1 r go2) (ac g : Int) (x0 : Qe) (ad af : Int) (ag : List (List Qd)) (ai aj : Int) (al : List Qd) (am an : Int) (x1 : List Int) (ap : List Qa) (aq au av : List Int) (ay p : List (List Qd)) (j : Int) (m : List Int) (v : Value) (aa : Nat) (b : Value) (ab : Nat) (h : Ut K go2 ac g x0 ad af ag ai aj al am an x1 ap aq au av ay p j m = some r) : T tp 102 (ca [1,0,1,0,0,1,1,0,0,1,1,0,1,0,0,1,1,0,0,1,1,0,0,1,1,0,0,1,1,1] Qia) ⟨[(0, .ptr bx0 0), (1, .c (.ex wx1)), (4, .c (.ex v)), (5, .int .i64 ac), (6, .ptr aa 0), (7, .c (.ex b)), (8, .int .i64 g), (12, .ptr ab 0), (24, .sl false 4 (x0.Auto.States.map Qb)), (25, .int .i64 ad), (26, .int .i64 af), (36, .sl false 1 (ag.map (cL 2 Qh))), (37, .int .i64 ai), (38, .int .i64 aj), (43, .sl false 2 (al.map Qh)), (44, .int .i64 am), (45, .int .i64 an)], [(Co bx0 x0.Auto.Split.Of x0.Auto.Split.Many x0.Auto.Counts x0.Auto.States), .arrX wx1 3 1 0 (mI x1), .arrX v 51 4 0 (ap.map Qb), (W0 aa aq au av ay), .arrG b 55 (gc 54 2 Qh p), (b54x6 ab j m)]⟩ (Xe bx0 wx1 x1 r) := by
 unfold Ut at h
 refine Ql Zu (Ql Zu (Ur (gM rfl (fun _ => .f rfl) (fun _ => rfl) (gM rfl (fun _ => .f rfl) (fun _ => rfl) (gM rfl (fun _ => .f rfl) (fun _ => rfl) (gM rfl (fun _ => .f rfl) (fun _ => rfl) ?_))))))
 obtain ⟨q, az, h⟩ := bind_some h
 refine dC (c := ⟨some 74, .el b 1 (Int.toNat g) 0, [(72, .c (.ex b)), (73, .int .i64 g)], [(6, .arrG b 55 (gc 54 2 Qh p))], []⟩) (fun t hm => oF rfl rfl (Qcc (n := 6) (l := p) (y := q) rfl (dk rfl) Lk i55 hm.s0 hm.o0 hm.s1 az ⟨u0, rfl⟩)) (fun _ => rfl) (fun _ => rfl) (DGG.step (c := fun a => ⟨some 75, .c (.ex ((a 5).1 0)), [(74, .el b 1 (Int.toNat g) 0)], [(6, .arrG b 55 (gc 54 2 Qh p)), (0, .ro 0 [])], [(6, .arrG b 55 (gh 54 2 Qh p (Int.toNat g) ((a 5).1 0))), (0, .arrA ((a 5).1 0) 54 2 (q.map Qh))]⟩) [5] (fun a γ' h => by simp only [h 5 (by decide)]) (fun a t hm => oF rfl rfl (Qj0 (i := 6) (kk := 0) (l := p) (y := q) rfl (dk rfl) Ma rfl hm.s0 hm.o0 (Zd az).2 hm.o1 (fun w => ⟨(fun _ => w, 0), rfl⟩))) (fun a => Zg rfl rfl) (gW 7 [.int .i64 j, .sl false 1 (mU m)] rfl (fun _ => .f rfl) Lj i54 (fun _ => rfl) (dC (c := ⟨some 77, .sl true 2 ([(Qd.mk j m)].map Qh), [(76, .agg [.int .i64 j, .sl false 1 (mU m)])], [], []⟩) (fun t hm => oF rfl rfl (OpT.buildSlice (elems := ([(Qd.mk j m)] : List Qd).map Qh) rfl (dk rfl) Ma i54 (by decide) rfl (Hs rfl) (Z8 hm.s0 rfl Vx) rfl rfl (Xh rfl) (by decide) ⟨u0, rfl⟩)) (fun _ => rfl) (fun _ => rfl) ?_)))
 obtain ⟨a0, h⟩ := Q6 h
 refine DGG.step (c := fun a => ⟨some 78, .c (.ex ((a 8).1 0)), [(77, .sl true 2 ([(Qd.mk j m)].map Qh)), (75, .c (.ex ((a 5).1 0)))], [(0, .arrA ((a 5).1 0) 54 2 (q.map Qh))], [(0, .arrA ((a 8).1 0) 54 2 ((q ++ [(Qd.mk j m)]).map Qh))]⟩) [5, 8] (fun a γ' h => by simp only [h 5 (by decide), h 8 (by decide)]) (fun a t hm => oF rfl rfl (Zp (i := 0) (xs := q) (ys := [(Qd.mk j m)]) (f := Qh) rfl (dk rfl) Ma i54 rfl hm.s1 hm.o0 hm.s0 a0 (fun w => ⟨(fun _ => w, 0), rfl⟩))) (fun a => Zg rfl rfl) (DGG.step (c := fun a => ⟨some 79, .el b 1 (Int.toNat g) 0, [(70, .c (.ex b)), (71, .int .i64 g)], [(6, .arrG b 55 (gh 54 2 Qh p (Int.toNat g) ((a 5).1 0)))], []⟩) [5] (fun a γ' h => by simp only [h 5 (by decide)]) (fun a t hm => oF rfl rfl (Qh7 (n := 6) (l := p) (y := q) rfl (dk rfl) Lk i55 hm.s0 hm.o0 hm.s1 az ⟨u0, rfl⟩)) (fun a => Zg rfl rfl) (DGG.step (c := fun a => ⟨none, .any, [(79, .el b 1 (Int.toNat g) 0), (78, .c (.ex ((a 8).1 0)))], [(6, .arrG b 55 (gh 54 2 Qh p (Int.toNat g) ((a 5).1 0))), (0, .arrA ((a 8).1 0) 54 2 ((q ++ [(Qd.mk j m)]).map Qh))], [(6, .arrG b 55 (gc 54 2 Qh (List.set p (Int.toNat g) (q ++ [(Qd.mk j m)])))), (0, .ro 0 [])]⟩) [5, 8] (fun a γ' h => by simp only [h 5 (by decide), h 8 (by decide)]) (fun a t hm => oF rfl rfl (Qh6 (i := 6) (kk := 0) (l := p) (old := q) (y' := (q ++ [(Qd.mk j m)])) rfl rfl i55 hm.s0 hm.s1 hm.o0 (Zd az).2 hm.o1 ⟨u0, rfl⟩)) (fun a => Zg rfl rfl) (gF [0,0,0,0,12,28,0,64,252,511,1023] Qx rfl (by kernel_rfl) (fun _ => by kernel_rfl) (fun a u hu => (Qk (tN (Ql hu (Qr (oI rfl (mw rfl ?_))))))))))
 refine nL (tN ?_)
 refine Qf ?_ (hgo2 ac g x0 ad af ag ai aj al am (wI (an + (1:Int))) x1 ap aq au av ay (List.set p (Int.toNat g) (q ++ [(Qd.mk j m)])) v aa b h)
 exact tr rfl (.c (.s (.s .z)) (.c (.s (.s .z)) (.c (.s (.s .z)) (.c (.s (.s .z)) (.c (.s (.s .z)) (.n _))))))
theorem E0 {r : Qe} (K bx0 : Nat) (wx1 : Value) (x1 : List Int) (go2 : Int → Int → Qe → Int → Int → (List (List Qd)) → Int → Int → (List Qd) → Int → Int → (List Int) → (List Qa) → (List Int) → (List Int) → (List Int) → (List (List Qd)) → (List (List Qd)) → Option Qe) (hgo2 : Kt bx0 wx1 x1 r go2) (a b : Int) (x0 : Qe) (f g : Int) (i : List (List Qd)) (j l : Int) (m : List Qd) (p q : Int) (x1 : List Int) (s : List Qa) (u v w : List Int) (y aa : List (List Qd)) (ab : Value) (ac : Nat) (ad : Value) (af : Nat) (h : Us K go2 a b x0 f g i j l m p q x1 s u v w y aa = some r) : T tp 102 (ca [1,0,1,0,0,1,1,0,0,1,1,0,1,0,0,1,1,0,0,1,1,0,0,1,1,0,0,1,1,0,1,1] Qia) ⟨[(0, .ptr bx0 0), (1, .c (.ex wx1)), (4, .c (.ex ab)), (5, .int .i64 a), (6, .ptr ac 0), (7, .c (.ex ad)), (8, .int .i64 b), (12, .ptr af 0), (24, .sl false 4 (x0.Auto.States.map Qb)), (25, .int .i64 f), (26, .int .i64 g), (36, .sl false 1 (i.map (cL 2 Qh))), (37, .int .i64 j), (38, .int .i64 l), (43, .sl false 2 (m.map Qh)), (44, .int .i64 p), (45, .int .i64 q)], [(Co bx0 x0.Auto.Split.Of x0.Auto.Split.Many x0.Auto.Counts x0.Auto.States), .arrX wx1 3 1 0 (mI x1), .arrX ab 51 4 0 (s.map Qb), (W0 ac u v w y), .arrG ad 55 (gc 54 2 Qh aa), (b54x6 af (-1:Int) ([] : List Int))]⟩ (W6 bx0 wx1 x1 r) := by
 unfold Us at h
 refine T.skip (tN ?_)
 refine Ql ?_ (E1 K bx0 wx1 x1 go2 hgo2 a b x0 f g i j l m p q x1 s u v w y aa (-1:Int) [] ab ac ad af h)
 exact tq rfl rfl
abbrev Ey (bx0 : Nat) (wx1 : Value) (x1 : List Int) (r : Qe) (go : Int → Qe → Int → Int → (List (List Qd)) → Int → Int → (List Int) → (List Qa) → (List Int) → (List Int) → (List Int) → (List (List Qd)) → (List (List Qd)) → Option Qe) : Prop := ∀ (a : Int) (x0 : Qe) (b f : Int) (g : List (List Qd)) (i j : Int) (x1 : List Int) (l : List Qa) (m n p : List Int) (q s : List (List Qd)) (u : Value) (v : Nat) (w : Value), go a x0 b f g i j x1 l m n p q s = some r → TL tp 102 (ca [1,0,1,0,0,1,1,0,0,1,1,0,1,0,0] Qia) ⟨[(0, .ptr bx0 0), (1, .c (.ex wx1)), (4, .c (.ex u)), (5, .int .i64 a), (6, .ptr v 0), (7, .c (.ex w)), (24, .sl false 4 (x0.Auto.States.map Qb)), (25, .int .i64 b), (26, .int .i64 f), (36, .sl false 1 (g.map (cL 2 Qh))), (37, .int .i64 i), (38, .int .i64 j)], [(Co bx0 x0.Auto.Split.Of x0.Auto.Split.Many x0.Auto.Counts x0.Auto.States), .arrX wx1 3 1 0 (mI x1), .arrX u 51 4 0 (l.map Qb), (W0 v m n p q), .arrG w 55 (gc 54 2 Qh s)]⟩ (Jw bx0 wx1 x1 r)
theorem Qcu {r : Qe} (K bx0 : Nat) (wx1 : Value) (x1 : List Int) (go1 : Int → Qe → Int → Int → (List (List Qd)) → Int → Int → (List Int) → (List Qa) → (List Int) → (List Int) → (List Int) → (List (List Qd)) → (List (List Qd)) → Option Qe) (hgo1 : Ey bx0 wx1 x1 r go1) : ∀ (k : Nat), Kt bx0 wx1 x1 r (Z1 K go1 k) := by
 intro k
 induction k with
 | zero =>
  intro aa au x0 ab ac ad af ag ai av ay x1 aj al am an ap aq q w y h
  exact zn h
 | succ k ih =>
  intro aa au x0 ab ac ad af ag ai av ay x1 aj al am an ap aq q w y h
  rw [Z1] at h
  refine Q0 (sR (Qr (oI rfl (nL (tN (T.seq ?_))))))
  rcases Qg h with ⟨a0, h⟩ | ⟨a0, h⟩
  refine Qp rfl a0 (T.skip (tN (T.seq (T.block (sR (Qr ?_))))))
  obtain ⟨a, a2, h⟩ := bind_some h
  refine oX ai Qh Ma i54 a2 rfl (oJ Lj i54 rfl (sp rfl (Za rfl (dk rfl) i54 rfl (fun j => (sp rfl (Qt (i := 0) (cells' := [.d (.int .i64 a.To), .d (.sl false 1 (mU a.Ops))]) rfl rfl i54 rfl rfl rfl rfl (nb rfl) rfl (nL (tN (sR (Qr (sp rfl (Zj (OpT.build (l := [.int .i64 (-1:Int), .ex (.slice none 0 0)]) rfl (dk rfl) (Zk (pl := [(0, 1), (1, 1)]) Lj i54 rfl) (Hs rfl) rfl rfl rfl) (Zt 49 (l := [.int .i64 (-1:Int), .ex (.slice none 0 0)]) (l' := [.int .i64 (-1:Int), .sl false 1 (([] : List Int).map (cI .u8))]) (.cons (.same _) (.cons (.nil _ _) (.refl _)))) (sp rfl (Za rfl (dk rfl) i54 rfl (fun p => ?_)))))))))))))))
  refine sp rfl (Qt (i := 0) (cells' := [.d (.int .i64 (-1:Int)), .d (.sl false 1 (([] : List Int).map (cI .u8)))]) rfl rfl i54 rfl rfl rfl rfl (nb rfl) rfl (nL (tN (T.seq (sR (Qr (oP Lj i3 rfl (oL 1 ul3 rfl (oI rfl ?_)))))))))
  refine mw rfl ?_
  rcases Qg h with ⟨b, h⟩ | ⟨b, h⟩
  refine sn rfl b (OpT.move rfl (dk rfl) rfl (sn rfl b (Y1 rfl (dk rfl) Lj rfl i3 (by decide) rfl (sn rfl b (Zx (i := 1) rfl (dk rfl) ul3 rfl rfl rfl rfl ?_)))))
  obtain ⟨g, az, h⟩ := bind_some h
  refine sn rfl b (Zc (n := 3) (xs := x1) (f := (cI .i64)) (old := g) rfl (dk rfl) Zi i3 rfl rfl rfl az (sn rfl b (X1 (i := 3) (xs := x1) (f := (cI .i64)) (old := g) rfl (dk rfl) ul3 rfl rfl rfl (Zd az).2 rfl (sn rfl b (Zs rfl rfl (dk rfl) rfl rfl (oY b rfl (nL (tN ?_))))))))
  rcases Qg h with ⟨a1, h⟩ | ⟨a1, h⟩
  refine Qp rfl a1 (Zy (dV rfl rfl (dP rfl (.f rfl) Lj i3 rfl (dL 1 rfl (.f rfl) ul3 rfl (dS (c := ⟨some 64, .el wx1 1 (Int.toNat a.To) 0, [(61, .c (.ex wx1)), (63, .int .i64 a.To)], [(3, .arrX wx1 3 1 0 (mI x1))], []⟩) (fun t hm => oF rfl rfl (Zc (n := 3) (xs := x1) (f := (cI .i64)) (old := g) rfl (dk rfl) Zi i3 hm.s0 hm.o0 hm.s1 az rfl)) rfl rfl (dS (c := ⟨some 65, .int .i64 g, [(64, .el wx1 1 (Int.toNat a.To) 0)], [(3, .arrX wx1 3 1 0 (mI x1))], []⟩) (fun t hm => oF rfl rfl (X1 (i := 3) (xs := x1) (f := (cI .i64)) (old := g) rfl (dk rfl) ul3 rfl hm.s0 hm.o0 (Zd az).2 rfl rfl)) rfl rfl ?_))))))
  refine dP rfl (.f rfl) Lj i52 rfl (dL 1 rfl (.f rfl) B2 rfl ?_)
  obtain ⟨m, a3, h⟩ := bind_some h
  refine dH fu94 (Zh.nil (N1 K (flx0 := false) a3)) rfl (.f rfl) rfl (dS (c := ⟨some 69, .agg [.int .i64 g, .sl false 1 (mU m)], [(65, .int .i64 g), (68, .sl false 1 (mU m))], [], []⟩) (fun t hm => oF rfl rfl (OpT.build (l := [.int .i64 g, .sl false 1 (mU m)]) rfl (dk rfl) (Zk (pl := [(0, 1), (1, 1)]) Lj i54 rfl) (Hs rfl) (Z8 hm.s0 rfl (Z8 hm.s1 rfl Vx)) rfl rfl)) rfl rfl (dS (c := ⟨none, .any, [(12, .ptr p 0), (69, .agg [.int .i64 g, .sl false 1 (mU m)])], [(0, (b54x6 p (-1:Int) ([] : List Int)))], [(0, (b54x6 p g m))]⟩) (fun t hm => oF rfl rfl (Qt (i := 0) (cells' := [.d (.int .i64 g), .d (.sl false 1 (mU m))]) rfl rfl i54 hm.s0 hm.s1 rfl hm.o0 (nb rfl) rfl rfl)) rfl rfl (dF [0,0,2,7,15,0,32,96,255,511] Qx rfl (by kernel_rfl) (fun u hu => (tN (Ql hu ?_))))))
  refine Ql ?_ (E1 K bx0 wx1 x1 (Z1 K go1 k) ih aa au x0 ab ac ad af ag ai av ay x1 aj al am an ap aq g m q w y p h)
  exact tr rfl (.c (.s (.s .z)) (.c (.s (.s .z)) (.c (.s (.s .z)) (.c (.s (.s .z)) (.c (.s (.s .z)) (.c .z (.n _)))))))
  refine Qo rfl a1 ?_
  refine Ql ?_ (E0 K bx0 wx1 x1 (Z1 K go1 k) ih aa au x0 ab ac ad af ag ai av ay x1 aj al am an ap aq q w y p h)
  exact tr rfl (.c (.s (.s .z)) (.c (.s (.s .z)) (.c (.s (.s .z)) (.c (.s (.s .z)) (.c (.s (.s .z)) (.c .z (.n _)))))))
  refine pf rfl b (pf rfl b (pf rfl b (pf rfl b (pf rfl b (pf rfl b (oZ b rfl ?_))))))
  refine nL (tN (Qo rfl rfl ?_))
  refine Ql ?_ (E0 K bx0 wx1 x1 (Z1 K go1 k) ih aa au x0 ab ac ad af ag ai av ay x1 aj al am an ap aq q w y p h)
  exact tr rfl (.c (.s (.s .z)) (.c (.s (.s .z)) (.c (.s (.s .z)) (.c (.s (.s .z)) (.c (.s (.s .z)) (.c .z (.n _)))))))
  refine Qo rfl a0 (T.exit (Qj (Qj (Qq (Qk (tN (Qr (oI rfl (mw rfl (nL (tN ?_)))))))))))
  refine Qf ?_ (hgo1 aa x0 ab ac ad af (wI (ag + (1:Int))) x1 aj al am an ap aq q w y h)
  exact tq rfl rfl
abbrev Ez (bx0 : Nat) (wx1 : Value) (x1 : List Int) (r : Qe) (go : Qe → Int → Int → (List Int) → (List Qa) → Option Qe) : Prop := ∀ (x0 : Qe) (a b : Int) (x1 : List Int) (f : List Qa) (g : Value), go x0 a b x1 f = some r → TL tp 102 (ca [1,0,1,0,0] Qia) ⟨[(0, .ptr bx0 0), (1, .c (.ex wx1)), (4, .c (.ex g)), (24, .sl false 4 (x0.Auto.States.map Qb)), (25, .int .i64 a), (26, .int .i64 b)], [(Co bx0 x0.Auto.Split.Of x0.Auto.Split.Many x0.Auto.Counts x0.Auto.States), .arrX wx1 3 1 0 (mI x1), .arrX g 51 4 0 (f.map Qb)]⟩ (Db bx0 wx1 x1 r)
theorem Qcv {r : Qe} (K bx0 : Nat) (wx1 : Value) (x1 : List Int) (go0 : Qe → Int → Int → (List Int) → (List Qa) → Option Qe) (hgo0 : Ez bx0 wx1 x1 r go0) : ∀ (k : Nat), Ey bx0 wx1 x1 r (Y4 K go0 k) := by
 intro k
 induction k with
 | zero =>
  intro s x0 ac ad ag am ai x1 j w y aa ab b g a aj h
  exact zn h
 | succ k ih =>
  intro s x0 ac ad ag am ai x1 j w y aa ab b g a aj h
  rw [Y4] at h
  refine Q0 (sR (Qr (oI rfl (nL (tN (T.seq ?_))))))
  rcases Qg h with ⟨al, h⟩ | ⟨al, h⟩
  refine Qp rfl al (T.skip (tN (T.seq (T.block (sR (Qr (mw rfl ?_)))))))
  obtain ⟨af, aq, h⟩ := bind_some h
  refine oX ag (cL 2 Qh) Lk i55 aq rfl (oR Ma rfl (aw rfl (aw rfl (nL (tN (sR (Qr (mw rfl (oU af Qh Ma rfl ?_)))))))))
  refine mw rfl (nL (tN (T.block (T.loop ?_))))
  refine Qf ?_ (Qcu K bx0 wx1 x1 (Y4 K go0 k) ih K s ai x0 ac ad ag am ai af (af.length : Int) (0:Int) x1 j w y aa ab b g a aj h)
  exact tq rfl rfl
  refine Qo rfl al (T.exit (Qj (Qj (Qq (tN (Ql (Zr.dataG (l := b) 4 rfl) (Ql (Uf 4 rfl) (Ql (Zr.view 7 4 rfl rfl) (Zy (dV rfl rfl ?_))))))))))
  refine dV rfl rfl (dP rfl (.f rfl) V1 i38 rfl (dL 3 rfl (.f rfl) Zi rfl ?_))
  obtain ⟨m, au, h⟩ := bind_some h
  refine dH fu95 (Zh.nil (Jz K (flx0 := false) au)) rfl (.f rfl) rfl (dP rfl (.f rfl) V1 i38 rfl (dL 3 rfl (.f rfl) Zi rfl ?_))
  obtain ⟨p, av, h⟩ := bind_some h
  refine dH fu95 (Zh.nil (Jz K (flx0 := false) av)) rfl (.f rfl) rfl (dP rfl (.f rfl) V1 i38 rfl (dL 3 rfl (.f rfl) Zi rfl ?_))
  obtain ⟨q, ay, h⟩ := bind_some h
  refine dH fu95 (Zh.nil (Jz K (flx0 := false) ay)) rfl (.f rfl) rfl (dV rfl rfl (dS (c := ⟨some 94, .agg [.sl false 1 (mI m), .sl false 1 (mI p), .sl false 1 (mI q), .sl false 1 (b.map (cL 2 Qh))], [(86, .sl false 1 (mI m)), (89, .sl false 1 (mI p)), (92, .sl false 1 (mI q)), (93, .sl false 1 (b.map (cL 2 Qh)))], [], []⟩) (fun t hm => oF rfl rfl (OpT.build (l := [.sl false 1 (mI m), .sl false 1 (mI p), .sl false 1 (mI q), .sl false 1 (b.map (cL 2 Qh))]) rfl (dk rfl) (Zk (pl := [(0, 1), (1, 1), (2, 1), (3, 1)]) V1 i51 rfl) (Hs rfl) (Z8 hm.s0 rfl (Z8 hm.s1 rfl (Z8 hm.s2 rfl (Z8 hm.s3 rfl Vx)))) rfl rfl)) rfl rfl ?_))
  obtain ⟨an, ap, h⟩ := bind_some h
  refine dS (c := ⟨some 95, .el g 4 (Int.toNat s) 0, [(82, .c (.ex g)), (83, .int .i64 s)], [(2, .arrX g 51 4 0 (j.map Qb))], []⟩) (fun t hm => oF rfl rfl (Zc (n := 2) (xs := j) (f := Qb) (old := an) rfl (dk rfl) Vj i51 hm.s0 hm.o0 hm.s1 ap rfl)) rfl rfl (dS (c := ⟨none, .any, [(95, .el g 4 (Int.toNat s) 0), (94, .agg [.sl false 1 (mI m), .sl false 1 (mI p), .sl false 1 (mI q), .sl false 1 (b.map (cL 2 Qh))])], [(2, .arrX g 51 4 0 (j.map Qb))], [(2, .arrX g 51 4 0 ((List.set j (Int.toNat s) (Qa.mk m p q b)).map Qb))]⟩) (fun t hm => oF rfl rfl (Qgc (i := 2) (xs := j) (f := Qb) (old := an) (new := (Qa.mk m p q b)) rfl rfl i51 hm.s0 hm.s1 rfl hm.o0 (Zd ap).2 (Qmm _) (nb rfl) rfl rfl)) rfl rfl (dF [0,0,0,4,12,0,32,124,0,256,1020,0,4092,8191,16383] Qx rfl (by kernel_rfl) (fun u hu => (Qk (tN (Ql hu (Qr (oI rfl (mw rfl (nL (tN ?_)))))))))))
  refine Qf ?_ (hgo0 x0 ac (wI (ad + (1:Int))) x1 (List.set j (Int.toNat s) (Qa.mk m p q b)) g h)
  exact tq rfl rfl
theorem Qcw {r : Qe} (K bx0 : Nat) (wx1 : Value) (x1 : List Int) : ∀ (k : Nat), Ez bx0 wx1 x1 r (Y5 K k) := by
 intro k
 induction k with
 | zero =>
  intro x0 p g x1 j b h
  exact zn h
 | succ k ih =>
  intro x0 p g x1 j b h
  rw [Y5] at h
  refine Q0 (sR (Qr (oI rfl (nL (tN (T.seq ?_))))))
  rcases Qg h with ⟨m, h⟩ | ⟨m, h⟩
  refine Qp rfl m (T.skip (tN (T.seq (T.block (sR (Qr (mw rfl ?_)))))))
  obtain ⟨a, q, h⟩ := bind_some h
  refine oX x0.Auto.States Qb Vj i51 q rfl (oJ V1 i51 rfl (sp rfl (Za rfl (dk rfl) i51 rfl (fun u => (aw rfl (sp rfl (Qt (i := 0) (cells' := [.d (.sl false 1 (mI a.L)), .d (.sl false 1 (mI a.R)), .d (.sl false 1 (mI a.Rule)), .d (.sl false 1 (a.Next.map (cL 2 Qh)))]) rfl rfl i51 rfl rfl rfl rfl (nb rfl) rfl (nL (tN (sR (Qr (oP V1 i49 rfl ?_))))))))))))
  refine oL 0 Lk rfl (oU a.Next (cL 2 Qh) Lk rfl ?_)
  obtain ⟨w, h⟩ := Q6 h
  obtain ⟨y, h⟩ := Q6 h
  refine sp rfl (Tx (e1 := 54) (esz := 2) (f := Qh) rfl (dk rfl) Lk i55 rfl rfl w y (fun aa => (aw rfl (nL (tN (T.seq (sR (Qr (oP V1 i49 rfl (oL 1 Lk rfl ?_))))))))))
  refine oU a.Next (cL 2 Qh) Lk rfl (mw rfl (nL (tN (T.block (T.loop ?_)))))
  refine Qf ?_ (Qcv K bx0 wx1 x1 (Y5 K k) ih K g x0 p g a.Next (a.Next.length : Int) (0:Int) x1 j a.L a.R a.Rule a.Next (List.replicate (Int.toNat (a.Next.length : Int)) ([] : List Qd)) b u aa h)
  exact tr rfl (.c (.s (.s .z)) (.c (.s (.s .z)) (.c (.s (.s .z)) (.c (.s .z) (.c .z (.n _))))))
  refine Qo rfl m (T.exit (Qj (Qj (Qq (tN (Qr (mw rfl (mw rfl (oK rfl (oP ul69 i28 rfl ?_))))))))))
  refine oP Xz i26 rfl (sp rfl (Wf (i := 0) (cells' := ((Q5.oc 256 .u8 x0.Auto.Split.Of) ++ (([.d (.int .i64 x0.Auto.Split.Many), .d (.sl false 2 (mA x0.Auto.Counts)), .d (.ex b)]:List OC)))) rfl rfl i26 rfl rfl rfl (nb rfl) rfl (nL (Yw (Uf 2 rfl) (Yw (Ht 0 (l := ((Q5.dc 256 .u8 x0.Auto.Split.Of) ++ (([.int .i64 x0.Auto.Split.Many, .sl false 2 (mA x0.Auto.Counts), .ex b] : List DC)))) (l' := ((Q5.dc 256 .u8 x0.Auto.Split.Of) ++ (([.int .i64 x0.Auto.Split.Many, .sl false 2 (mA x0.Auto.Counts), .sl false 4 (j.map Qb)] : List DC)))) rfl (.app _ (.cons (.same _) (.cons (.same _) (.cons (.view 2 rfl) (.refl _)))))) (Q7 (.nil) (.cons 0 rfl (.cons 0 rfl (.nil _))) (by cases h; exact ⟨gl [], rfl, rfl⟩)))))))
theorem O4 (K : Nat) {x0 : Qe} {x1 : List Int} {bx0 : Nat} {wx1 : Value} {r : Qe} (h : V9 K x0 x1 = some r) : U3 tp 56 [.ptr bx0 0, .c (.ex wx1)] [(Co bx0 x0.Auto.Split.Of x0.Auto.Split.Many x0.Auto.Counts x0.Auto.States), .arrX wx1 3 1 0 (mI x1)] (fun γ => (.tup [])) (fun γ => [(Co bx0 r.Auto.Split.Of r.Auto.Split.Many r.Auto.Counts r.Auto.States), .arrX wx1 3 1 0 (mI x1)]) := by
 refine CI 102 fu56 rfl ?_
 unfold V9 at h
 refine sR (Qr (mw rfl (oK rfl (oP ul69 i28 rfl (oP Xz i26 rfl (oL 0 Vj rfl (oU x0.Auto.States Qb Vj rfl ?_)))))))
 obtain ⟨a, h⟩ := Q6 h
 obtain ⟨b, h⟩ := Q6 h
 refine sp rfl (Qgd (f := Qb) (zv := ((Qa.mk [] [] [] []) : Qa)) rfl (dk rfl) Vj i51 (by decide) rfl rfl (fun _ => .cons (.nil _ _) (.cons (.nil _ _) (.cons (.nil _ _) (.cons (.nil _ _) (.refl _))))) rfl rfl rfl a b (fun g => (aw rfl (nL (tN (T.seq (sR (Qr (mw rfl (oK rfl ?_))))))))))
 refine oP ul69 i28 rfl (oP Xz i26 rfl (oL 1 Vj rfl (oU x0.Auto.States Qb Vj rfl (mw rfl (nL (tN (T.block ?_)))))))
 refine T.loop ?_
 refine Qf ?_ (Qcw K bx0 wx1 x1 K x0 (x0.Auto.States.length : Int) (0:Int) x1 (List.replicate (Int.toNat (x0.Auto.States.length : Int)) ((Qa.mk [] [] [] []) : Qa)) g h)
 exact tr rfl (.c (.s .z) (.c (.s .z) (.c .z (.n _))))
abbrev Qgk (bx0 : Nat) (r : Qe) : ES := Jm tp ff26 (fun y t => ∃ γ : Nat → Value, y = (.tup []) ∧ t = [(Co bx0 r.Auto.Split.Of r.Auto.Split.Many r.Auto.Counts r.Auto.States)])
abbrev Qc3 (bx0 : Nat) (r : Qe) : ES := fT 36 [1,1] ff26 (Qgk bx0 r)
abbrev T1 (bx0 : Nat) (r : Qe) : ES := Qv 0 ((Qc3 bx0 r))
theorem Qc4 {r : Qe} (K bx0 : Nat) : ∀ (k : Nat), ∀ (g : List Bool) (l a : Int) (x0 : Qe) (b : List Int) (j : Value), Xo K k g l a x0 b = some r → TL tp 36 (ca [1,0,1,0,0] ff26) ⟨[(0, .ptr bx0 0), (2, .c (.ex j)), (16, .sl false 1 (g.map cB)), (17, .int .i64 l), (18, .int .i64 a)], [(Co bx0 x0.Auto.Split.Of x0.Auto.Split.Many x0.Auto.Counts x0.Auto.States), .arrX j 3 1 0 (mI b)]⟩ (T1 bx0 r) := by
 intro k
 induction k with
 | zero =>
  intro g l a x0 b j h
  exact zn h
 | succ k ih =>
  intro g l a x0 b j h
  rw [Xo] at h
  refine Q0 (sR (Qr (oI rfl (nL (tN (T.seq ?_))))))
  rcases Qg h with ⟨m, h⟩ | ⟨m, h⟩
  refine Qp rfl m (T.skip (tN (T.seq (T.block (sR (Qr (mw rfl ?_)))))))
  obtain ⟨y, aa, h⟩ := bind_some h
  refine oX g cB Qkd i4 aa rfl (oR ul4 rfl (aw rfl (aw rfl (nL (tN (sR (Qr ?_)))))))
  iterate 3 refine mw rfl ?_
  obtain ⟨q, s, h⟩ := bind_some h
  refine sp rfl (Zc (n := 1) (xs := b) (f := (cI .i64)) (old := q) rfl (dk rfl) Zi i3 rfl rfl rfl s (sp rfl (Yr (i := 1) (xs := b) (f := (cI .i64)) (old := q) (new := a) rfl rfl i3 rfl rfl rfl (Zd s).2 (Qmm _) (nb rfl) rfl (nL (tN (sR (Qr (mw rfl (oT rfl (nL (tN ?_)))))))))))
  rcases Qg h with ⟨p, h⟩ | ⟨p, h⟩
  refine Qp rfl p (Qr (mw rfl (mw rfl ?_)))
  obtain ⟨u, w, h⟩ := bind_some h
  refine sp rfl (Zc (n := 1) (xs := (List.set b (Int.toNat a) a)) (f := (cI .i64)) (old := u) rfl (dk rfl) Zi i3 rfl rfl rfl w (sp rfl (Yr (i := 1) (xs := (List.set b (Int.toNat a) a)) (f := (cI .i64)) (old := u) (new := (-1:Int)) rfl rfl i3 rfl rfl rfl (Zd w).2 (Qmm _) (nb rfl) rfl (nL (Qk (tN (Qr (oI rfl (mw rfl (nL (tN ?_)))))))))))
  refine Qf ?_ (ih g l (wI (a + (1:Int))) x0 (List.set (List.set b (Int.toNat a) a) (Int.toNat a) (-1:Int)) j h)
  exact tq rfl rfl
  refine Qo rfl p (T.skip (Qk (tN (Qr (oI rfl (mw rfl (nL (tN ?_))))))))
  refine Qf ?_ (ih g l (wI (a + (1:Int))) x0 (List.set b (Int.toNat a) a) j h)
  exact tq rfl rfl
  refine Qo rfl m (T.exit (Qj (Qj (Qq (tN (Qr (mw rfl (mw rfl ?_))))))))
  obtain ⟨ac, ab, h⟩ := bind_some h
  refine sp rfl (Q9 (is := [0, 1]) (ph := []) rfl (dk rfl) fu56 rfl rfl (Zm.cons rfl (Zm.cons rfl Zm.nil)) (O4 K (bx0 := bx0) (wx1 := j) ab) (.cons rfl rfl (.cons rfl rfl (.nil))) (fun _ => rfl) (fun ad => (nm (.c (.c (.n))) (nL (Q7 (.nil) (.cons 0 rfl (.nil _)) (by cases h; exact ⟨gl [], rfl, rfl⟩))))))
theorem Qgl (K : Nat) {x0 : Qe} {bx0 : Nat} {r : Qe} (h : Gp K x0 = some r) : U3 tp 26 [.ptr bx0 0] [(Co bx0 x0.Auto.Split.Of x0.Auto.Split.Many x0.Auto.Counts x0.Auto.States)] (fun γ => (.tup [])) (fun γ => [(Co bx0 r.Auto.Split.Of r.Auto.Split.Many r.Auto.Counts r.Auto.States)]) := by
 refine CI 36 fu26 rfl ?_
 unfold Gp at h
 refine sR (Qr (mw rfl (oK rfl (oP ul69 i28 rfl (oP Xz i26 rfl (oL 0 Vj rfl (oU x0.Auto.States Qb Vj rfl ?_)))))))
 obtain ⟨b, h⟩ := Q6 h
 obtain ⟨g, h⟩ := Q6 h
 refine sp rfl (Vy (f := (cI .i64)) (zv := ((0:Int) : Int)) rfl (dk rfl) Zi i3 (by decide) rfl rfl rfl rfl rfl b g (fun j => (aw rfl (nL (tN (T.seq (sR (Qr (mw rfl (oK rfl ?_))))))))))
 refine oP ul69 i28 rfl (oA 1 ((Q5.dc 256 .u8 x0.Auto.Split.Of) ++ (([.int .i64 x0.Auto.Split.Many, .sl false 2 (mA x0.Auto.Counts), .sl false 4 (x0.Auto.States.map Qb)] : List DC))) Xz i28 rfl ?_)
 obtain ⟨a, m, h⟩ := bind_some h
 refine oH fu12 (Zh.nil (Qlb K m)) rfl (oU a cB Qkd rfl (mw rfl (nL (tN (T.block (T.loop ?_))))))
 refine Qf ?_ (Qc4 K bx0 K a (a.length : Int) (0:Int) x0 (List.replicate (Int.toNat (x0.Auto.States.length : Int)) ((0:Int) : Int)) j h)
 exact tr rfl (.c (.s .z) (.c .z (.n _)))
abbrev bits_Mul64_q (r : Int × Int) : ES := Jm tp ff120 (fun y t => y = (.tup [.int .u64 r.1, .int .u64 r.2]) ∧ t = [])
theorem bits_Mul64_T (K : Nat) {x0 x1 : Int} {r : Int × Int} (h : Qjv K x0 x1 = some r) : Zh tp 120 [.int .u64 x0, .int .u64 x1] [] (.tup [.int .u64 r.1, .int .u64 r.2]) := by
 refine CI 51 fu120 rfl ?_
 unfold Qjv at h
 refine sR (Qr (aw rfl (aw rfl (nL (tN (sR (Qr (mw rfl (oI rfl (aw rfl ?_))))))))))
 refine nL (tN (sR (Qr (mw rfl (sp rfl (OpT.shr rfl (dk rfl) rfl rfl (by decide) (aw rfl (nL (tN (sR (Qr (mw rfl (oI rfl ?_)))))))))))))
 refine aw rfl (nL (tN (sR (Qr (mw rfl (sp rfl (OpT.shr rfl (dk rfl) rfl rfl (by decide) (aw rfl (nL (tN (sR (Qr (mw rfl ?_)))))))))))))
 refine mw rfl (oI rfl (aw rfl (nL (tN (sR (Qr (mw rfl (mw rfl (oI rfl ?_)))))))))
 refine mw rfl (sp rfl (OpT.shr rfl (dk rfl) rfl rfl (by decide) (oI rfl (aw rfl (nL (tN (sR (Qr (mw rfl (oI rfl ?_))))))))))
 refine aw rfl (nL (tN (sR (Qr (mw rfl (sp rfl (OpT.shr rfl (dk rfl) rfl rfl (by decide) (aw rfl (nL (tN (sR (Qr ?_))))))))))))
 iterate 3 refine mw rfl ?_
 refine oI rfl (oI rfl (aw rfl (nL (tN (sR (Qr (mw rfl (mw rfl (oI rfl ?_)))))))))
 refine mw rfl (oI rfl (mw rfl (sp rfl (OpT.shr rfl (dk rfl) rfl rfl (by decide) (oI rfl (aw rfl (nL (tN (sR (Qr ?_))))))))))
 refine mw rfl (mw rfl (oI rfl (aw rfl (nL (tN (T.ret (Fin.done (.cons _ _ _ _ (.tmp 4 _ rfl) (.cons _ _ _ _ (.tmp 5 _ rfl) .nil)) (by cases h; exact ⟨rfl, rfl⟩))))))))
abbrev bits_Mul_q (r : Int × Int) : ES := Jm tp ff96 (fun y t => y = (.tup [.int .u64 r.1, .int .u64 r.2]) ∧ t = [])
theorem bits_Mul_T (K : Nat) {x0 x1 : Int} {r : Int × Int} (h : Qi4 K x0 x1 = some r) : Zh tp 96 [.int .u64 x0, .int .u64 x1] [] (.tup [.int .u64 r.1, .int .u64 r.2]) := by
 refine CI 30 fu96 rfl ?_
 unfold Qi4 at h
 refine sR (Qr (aw rfl (aw rfl (nL (tN (T.seq (Qo rfl rfl (T.skip (tN ?_)))))))))
 refine sR (Qr (mw rfl (mw rfl ?_)))
 obtain ⟨b, a, h⟩ := bind_some h
 refine oH fu120 (Zh.nil (bits_Mul64_T K a)) rfl (mw rfl (oE rfl (oE rfl (aw rfl (aw rfl (nL (tN (sR (Qr ?_)))))))))
 refine mw rfl (mw rfl (aw rfl (aw rfl (nL (tN (T.ret (Fin.done (.cons _ _ _ _ (.tmp 4 _ rfl) (.cons _ _ _ _ (.tmp 5 _ rfl) .nil)) (by cases h; exact ⟨rfl, rfl⟩))))))))
abbrev Pa (r : List Int) : ES := Jm tp ff57 (fun y t => ∃ γ : Nat → Value, y = (.c (.ex (γ 0))) ∧ t = [.arrX (γ 0) 3 1 0 (mI r)])
abbrev T5 (r : List Int) : ES := fT 48 [1,1,1,1] ff57 (Pa r)
abbrev O9 (r : List Int) : ES := fT 48 [1,1,1,1,1,1,1] ff57 (Pa r)
abbrev I5 (r : List Int) : ES := Qv 0 ((O9 r))
theorem E5 {r : List Int} (K : Nat) (x0 : List Int) (a : Int) (flx0 : Bool) (h : H8 K x0 a = some r) : T tp 48 (ca [1,1,1,0,1,0] ff57) ⟨[(0, .sl flx0 1 (mI x0)), (6, .int .u64 a)], []⟩ (T5 r) := by
 unfold H8 at h
 refine Qr ?_
 cases h
theorem Qc5 {r : List Int} (K : Nat) : ∀ (k : Nat), ∀ (a : Int) (b : List Int) (d : Value), Uv K k a b = some r → TL tp 48 (ca [1,1,1,1,1,1,0,0,0] ff57) ⟨[(7, .c (.ex d)), (8, .int .i64 a)], [.arrX d 3 1 0 (mI b)]⟩ (I5 r) := by
 intro k
 induction k with
 | zero =>
  intro a b d h
  exact zn h
 | succ k ih =>
  intro a b d h
  rw [Uv] at h
  refine Q0 (T.seq (sR (Qr (mw rfl (mw rfl (sp rfl (Vz (i := 0) (xs := b) (f := (cI .i64)) rfl (dk rfl) Zi rfl rfl (oI rfl ?_))))))))
  refine nL (tN ?_)
  rcases Qg h with ⟨j, h⟩ | ⟨j, h⟩
  refine Qp rfl j (T.skip (tN (T.block (Zy (dV rfl rfl (dV rfl rfl (dV rfl rfl ?_)))))))
  obtain ⟨g, h⟩ := Q6 h
  refine dS (c := ⟨some 41, .sub d 1 (Int.toNat a), [(39, .c (.ex d)), (40, .int .i64 a)], [(0, .arrX d 3 1 0 (mI b))], []⟩) (fun t hm => oF rfl rfl (OpT.sliceSub (i := 0) (xs := b) (f := (cI .i64)) (l := (Int.toNat a)) rfl (dk rfl) Zi i3 hm.s0 hm.o0 (.some _ _ _ _ hm.s1 g.1) g.2 rfl)) rfl rfl (dV rfl rfl (dV rfl rfl (dS (c := ⟨some 44, .pre d (Int.toNat a), [(42, .c (.ex d)), (43, .int .i64 a)], [(0, .arrX d 3 1 0 (mI b))], []⟩) (fun t hm => oF rfl rfl (OpT.slicePre (i := 0) (xs := b) (f := (cI .i64)) (h := (Int.toNat a)) rfl (dk rfl) Zi i3 hm.s0 hm.o0 (.some _ _ _ _ hm.s1 g.1) g.2 rfl)) rfl rfl ?_)))
  obtain ⟨m, h⟩ := Q6 h
  refine dS (c := ⟨some 45, .int .i64 (((min (Int.toNat a) (b.length - (Int.toNat a))) : Nat) : Int), [(41, .sub d 1 (Int.toNat a)), (44, .pre d (Int.toNat a))], [(0, .arrX d 3 1 0 (mI b))], [(0, .arrX d 3 1 0 ((b.take (Int.toNat a) ++ b.take (min (Int.toNat a) (b.length - (Int.toNat a))) ++ b.drop ((Int.toNat a) + (min (Int.toNat a) (b.length - (Int.toNat a))))).map (cI .i64)))]⟩) (fun t hm => oF rfl rfl (OpT.copySelf (i := 0) (k := .i64) (xs := b) (l := (Int.toNat a)) (h := (Int.toNat a)) rfl (dk rfl) Zi i3 hm.s0 hm.o0 hm.s1 m.1 m.2 rfl)) rfl rfl (dI rfl (.f rfl) rfl (dA rfl (.f rfl) rfl (dF [0,0,0,6,0,0,48,126,255,511] Qx rfl (by kernel_rfl) (fun u hu => (Qk (tN (Qf hu ?_)))))))
  refine Qf ?_ (ih (wI (a + (((min (Int.toNat a) (b.length - (Int.toNat a))) : Nat) : Int))) (b.take (Int.toNat a) ++ b.take (min (Int.toNat a) (b.length - (Int.toNat a))) ++ b.drop ((Int.toNat a) + (min (Int.toNat a) (b.length - (Int.toNat a))))) d h)
  exact tq rfl rfl
  refine Qo rfl j (T.exit (Qj (Qj (Qq (tN (sR (Qr (mw rfl (aw rfl (nL (tN (T.ret ?_))))))))))))
  exact Q7 (.cons _ _ _ _ (.tmp 4 _ rfl) .nil) (.cons 0 rfl (.nil _)) (by cases h; exact ⟨gl [d], rfl, rfl⟩)
theorem Qgt (K : Nat) {x0 : List Int} {x1 : Int} {flx0 : Bool} {r : List Int} (h : Gq K x0 x1 = some r) : U3 tp 57 [.sl flx0 1 (mI x0), .int .i64 x1] [] (fun γ => (.c (.ex (γ 0)))) (fun γ => [.arrX (γ 0) 3 1 0 (mI r)]) := by
 refine CI 48 fu57 rfl ?_
 unfold Gq at h
 refine sR (Qr (aw rfl (nL (tN (T.seq (sR (Qr (mw rfl (oI rfl ?_)))))))))
 refine nL (tN ?_)
 rcases Qg h with ⟨d, h⟩ | ⟨d, h⟩
 refine Qp rfl d (Qr ?_)
 cases h
 refine Qo rfl d (T.skip (tN (sR (Qr (mw rfl (oU x0 (cI .i64) Zi rfl (sp rfl (V8 rfl (dk rfl) ul3 ul159 rfl (mw rfl ?_)))))))))
 refine sp rfl (V8 rfl (dk rfl) ul3 ul159 rfl ?_)
 obtain ⟨b, l, h⟩ := bind_some h
 refine oH fu96 (Zh.nil (bits_Mul_T K l)) rfl (mw rfl (oE rfl (oE rfl (aw rfl (aw rfl (nL (tN ?_)))))))
 refine T.seq (sR (Qr (mw rfl (oI rfl (mw rfl ?_)))))
 rcases Qg h with ⟨a, h⟩ | ⟨a, h⟩
 refine pf rfl a (pf rfl a (oY a rfl (nL (tN (Qp rfl rfl ?_)))))
 refine Ql ?_ (E5 K x0 b.2 flx0 h)
 exact tq rfl rfl
 refine sn rfl a (OpT.move rfl (dk rfl) rfl (sn rfl a (Zs rfl rfl (dk rfl) rfl rfl (oZ a rfl (nL (tN ?_))))))
 rcases Qg h with ⟨g, h⟩ | ⟨g, h⟩
 refine Qp rfl g ?_
 refine Ql ?_ (E5 K x0 b.2 flx0 h)
 exact tq rfl rfl
 refine Qo rfl g (T.skip (tN (sR (Qr (mw rfl (sp rfl (V8 rfl (dk rfl) ul159 ul3 rfl ?_)))))))
 obtain ⟨m, h⟩ := Q6 h
 obtain ⟨p, h⟩ := Q6 h
 refine sp rfl (Vy (f := (cI .i64)) (zv := ((0:Int) : Int)) rfl (dk rfl) Zi i3 (by decide) rfl rfl rfl rfl rfl m p (fun q => (aw rfl (nL (tN (sR (Qr (mw rfl (mw rfl ?_)))))))))
 obtain ⟨j, h⟩ := Q6 h
 refine sp rfl (OpT.copyInts (i := 0) (k := .i64) (xs := (List.replicate (Int.toNat (wI b.2)) ((0:Int) : Int))) (ys := x0) rfl (dk rfl) Zi i3 rfl rfl rfl j.1 j.2 (aw rfl (nL (tN (T.seq (T.block (T.loop ?_)))))))
 refine Qf ?_ (Qc5 K K (x0.length : Int) (x0 ++ (List.replicate (Int.toNat (wI b.2)) ((0:Int) : Int)).drop x0.length) q h)
 exact tq rfl rfl
abbrev O6 (bx0 : Nat) (r : Qe) : ES := Jm tp ff28 (fun y t => ∃ γ : Nat → Value, y = (.tup []) ∧ t = [(Co bx0 r.Auto.Split.Of r.Auto.Split.Many r.Auto.Counts r.Auto.States)])
abbrev T0 (bx0 : Nat) (r : Qe) : ES := fT 93 [1,1,1,1] ff28 (O6 bx0 r)
abbrev Bm (bx0 : Nat) (r : Qe) : ES := Qv 0 ((T0 bx0 r))
abbrev Ri (bx0 : Nat) (r : Qe) : ES := fL 93 [1,1,1,0,1,0,0] ff28 (Bm bx0 r)
abbrev I0 (bx0 : Nat) (r : Qe) : ES := fT 93 [1,1,1,0,1,0,0,1,1] ff28 (Ri bx0 r)
abbrev Dy (bx0 : Nat) (r : Qe) : ES := Qv 1 ((I0 bx0 r))
abbrev Cw (bx0 : Nat) (r : Qe) : ES := Qv 2 ((Dy bx0 r))
abbrev O5 (bx0 : Nat) (r : Qe) : ES := fT 93 [1,1,1,1,1,1,1] ff28 (O6 bx0 r)
abbrev I1 (bx0 : Nat) (r : Qe) : ES := Qv 4 ((O5 bx0 r))
abbrev E2 (bx0 : Nat) (r : Qe) (go : Int → Qe → (List Int) → (List Int) → Option Qe) : Prop := ∀ (a : Int) (x0 : Qe) (b f : List Int) (g i : Value), go a x0 b f = some r → TL tp 93 (ca [1,1,1,0,1,0,0] ff28) ⟨[(0, .ptr bx0 0), (2, .c (.ex g)), (3, .c (.ex i)), (4, .int .i64 a)], [(Co bx0 x0.Auto.Split.Of x0.Auto.Split.Many x0.Auto.Counts x0.Auto.States), .arrX g 3 1 0 (mI b), .arrX i 3 1 0 (mI f)]⟩ (Bm bx0 r)
theorem Qc0 {r : Qe} (K bx0 : Nat) (go0 : Int → Qe → (List Int) → (List Int) → Option Qe) (hgo0 : E2 bx0 r go0) : ∀ (k : Nat), ∀ (j : Int) (l : List Qd) (p q : Int) (x0 : Qe) (b g : List Int) (m u : Value), Y6 K go0 k j l p q x0 b g = some r → TL tp 93 (ca [1,1,1,0,1,0,0,1,0,0,1,0,0] ff28) ⟨[(0, .ptr bx0 0), (2, .c (.ex m)), (3, .c (.ex u)), (4, .int .i64 j), (38, .sl false 2 (l.map Qh)), (39, .int .i64 p), (40, .int .i64 q)], [(Co bx0 x0.Auto.Split.Of x0.Auto.Split.Many x0.Auto.Counts x0.Auto.States), .arrX m 3 1 0 (mI b), .arrX u 3 1 0 (mI g)]⟩ (Cw bx0 r) := by
 intro k
 induction k with
 | zero =>
  intro j l p q x0 b g m u h
  exact zn h
 | succ k ih =>
  intro j l p q x0 b g m u h
  rw [Y6] at h
  refine Q0 (sR (Qr (oI rfl (nL (tN (T.seq ?_))))))
  rcases Qg h with ⟨ab, h⟩ | ⟨ab, h⟩
  refine Qp rfl ab (T.skip (tN (T.seq (T.block (sR (Qr ?_))))))
  obtain ⟨w, ad, h⟩ := bind_some h
  refine oX l Qh Ma i54 ad rfl (oJ Lj i54 rfl (sp rfl (Za rfl (dk rfl) i54 rfl (fun ai => (sp rfl (Qt (i := 0) (cells' := [.d (.int .i64 w.To), .d (.sl false 1 (mU w.Ops))]) rfl rfl i54 rfl rfl rfl rfl (nb rfl) rfl (nL (tN (sR (Qr (oP Lj i3 rfl (oL 0 ul3 rfl ?_))))))))))))
  refine oI rfl (mw rfl ?_)
  rcases Qg h with ⟨a, h⟩ | ⟨a, h⟩
  refine sn rfl a (OpT.move rfl (dk rfl) rfl (sn rfl a (Y1 rfl (dk rfl) Lj rfl i3 (by decide) rfl (sn rfl a (Zx (i := 0) rfl (dk rfl) ul3 rfl rfl rfl rfl ?_)))))
  obtain ⟨y, aa, h⟩ := bind_some h
  refine sn rfl a (Zc (n := 2) (xs := b) (f := (cI .i64)) (old := y) rfl (dk rfl) Zi i3 rfl rfl rfl aa (sn rfl a (X1 (i := 2) (xs := b) (f := (cI .i64)) (old := y) rfl (dk rfl) ul3 rfl rfl rfl (Zd aa).2 rfl (sn rfl a (Zs rfl rfl (dk rfl) rfl rfl (oY a rfl (nL (tN ?_))))))))
  rcases Qg h with ⟨ac, h⟩ | ⟨ac, h⟩
  refine Qp rfl ac (sR (Qr (mw rfl (oP Lj i3 rfl (oL 0 ul3 rfl (mw rfl (sp rfl (Vz (i := 3) (xs := g) (f := (cI .i64)) rfl (dk rfl) Zi rfl rfl ?_))))))))
  refine sp rfl (Zc (n := 2) (xs := b) (f := (cI .i64)) (old := y) rfl (dk rfl) Zi i3 rfl rfl rfl aa (sp rfl (Yr (i := 2) (xs := b) (f := (cI .i64)) (old := y) (new := (g.length : Int)) rfl rfl i3 rfl rfl rfl (Zd aa).2 (Qmm _) (nb rfl) rfl (nL (tN (Qr (mw rfl (oP Lj i3 rfl (oL 0 ul3 rfl ?_)))))))))
  refine sp rfl (M0 (elems := ([w.To] : List Int).map (cI .i64)) rfl (dk rfl) Zi i3 (by decide) rfl (Hs rfl) rfl rfl rfl (Xh rfl) (by decide) (fun aj => (Uh (Uf 0 rfl) (Uh (Zr.view 64 0 rfl rfl) ?_))))
  obtain ⟨af, h⟩ := Q6 h
  refine sp rfl (Hv (i := 4) (xs := g) (ys := [w.To]) (f := (cI .i64)) rfl (dk rfl) Zi i3 rfl rfl rfl rfl af (fun ag => (aw rfl (nL (Qk (tN (Qr (oI rfl (mw rfl (nL (tN ?_)))))))))))
  refine Qf ?_ (ih j l p (wI (q + (1:Int))) x0 (List.set b (Int.toNat w.To) (g.length : Int)) (g ++ [w.To]) m ag h)
  exact tr rfl (.c (.s (.s .z)) (.c (.s (.s .z)) (.c (.s (.s .z)) (.n _))))
  refine Qo rfl ac (T.skip (Qk (tN (Qr (oI rfl (mw rfl (nL (tN ?_))))))))
  refine Qf ?_ (ih j l p (wI (q + (1:Int))) x0 b g m u h)
  exact tr rfl (.c (.s .z) (.c (.s .z) (.c (.s .z) (.n _))))
  refine pf rfl a (pf rfl a (pf rfl a (pf rfl a (pf rfl a (pf rfl a (oZ a rfl ?_))))))
  refine nL (tN (Qo rfl rfl (T.skip (Qk (tN (Qr (oI rfl (mw rfl (nL (tN ?_))))))))))
  refine Qf ?_ (ih j l p (wI (q + (1:Int))) x0 b g m u h)
  exact tr rfl (.c (.s .z) (.c (.s .z) (.c (.s .z) (.n _))))
  refine Qo rfl ab (T.exit (Qj (Qj (Qq (Qk (tN (Qr (mw rfl (oI rfl (aw rfl (nL (tN ?_))))))))))))
  refine Qf ?_ (hgo0 (wI (j + (1:Int))) x0 b g m u h)
  exact tq rfl rfl
theorem Qcz {r : Qe} (K bx0 : Nat) : ∀ (k : Nat), ∀ (s u : Int) (a : Q5) (b : Int) (g : List Ye) (p j : List Qa) (m : List Int) (q w : Value), Vm K k s u a b g p j m = some r → TL tp 93 (ca [1,1,1,1,1,1,0,1,0,0] ff28) ⟨[(0, .ptr bx0 0), (7, .c (.ex q)), (70, .c (.ex w)), (71, .int .i64 s), (72, .int .i64 u)], [(Co bx0 a b g p), .arrA q 51 4 (j.map Qb), .arrX w 3 1 0 (mI m)]⟩ (I1 bx0 r) := by
 intro k
 induction k with
 | zero =>
  intro s u a b g p j m q w h
  exact zn h
 | succ k ih =>
  intro s u a b g p j m q w h
  rw [Vm] at h
  refine Q0 (sR (Qr (oI rfl (nL (tN (T.seq ?_))))))
  rcases Qg h with ⟨aa, h⟩ | ⟨aa, h⟩
  refine Qp rfl aa (T.skip (tN (T.seq (T.block (sR (Qr ?_))))))
  obtain ⟨ab, ac, h⟩ := bind_some h
  refine sp rfl (Zc (n := 2) (xs := m) (f := (cI .i64)) (old := ab) rfl (dk rfl) Zi i3 rfl rfl rfl ac (sp rfl (X1 (i := 2) (xs := m) (f := (cI .i64)) (old := ab) rfl (dk rfl) ul3 rfl rfl rfl (Zd ac).2 rfl (aw rfl (nL (tN (Qr (mw rfl (mw rfl ?_)))))))))
  refine oK rfl (oP ul69 i28 rfl (oP Xz i26 rfl (oL 0 Vj rfl (mw rfl ?_))))
  obtain ⟨y, ad, h⟩ := bind_some h
  refine oX p Qb Vj i51 ad rfl (oJ V1 i51 rfl (sp rfl (OpT.buildSlice (elems := ([y] : List Qa).map Qb) rfl (dk rfl) Vj i51 (by decide) rfl (Hs rfl) rfl rfl rfl (Xh rfl) (by decide) ?_)))
  obtain ⟨af, h⟩ := Q6 h
  refine sp rfl (Zp (i := 1) (xs := j) (ys := [y]) (f := Qb) rfl (dk rfl) Vj i51 rfl rfl rfl rfl af (fun ag => (aw rfl (nL (Qk (tN (Qr (oI rfl (mw rfl (nL (tN ?_)))))))))))
  refine Qf ?_ (ih s (wI (u + (1:Int))) a b g p (j ++ [y]) m ag w h)
  exact tq rfl rfl
  refine Qo rfl aa (T.exit (Qj (Qj (Qq (tN (Qr (mw rfl (mw rfl (oK rfl (oP ul69 i28 rfl ?_))))))))))
  refine oP Xz i26 rfl (sp rfl (Wf (i := 0) (cells' := ((Q5.oc 256 .u8 a) ++ (([.d (.int .i64 b), .d (.sl false 2 (mA g)), .d (.ex q)]:List OC)))) rfl rfl i26 rfl rfl rfl (nb rfl) rfl (nL (Yw (Ht 0 (l := ((Q5.dc 256 .u8 a) ++ (([.int .i64 b, .sl false 2 (mA g), .ex q] : List DC)))) (l' := ((Q5.dc 256 .u8 a) ++ (([.int .i64 b, .sl false 2 (mA g), .sl false 4 (j.map Qb)] : List DC)))) rfl (.app _ (.cons (.same _) (.cons (.same _) (.cons (.view 1 rfl) (.refl _)))))) (Q7 (.nil) (.cons 0 rfl (.nil _)) (by cases h; exact ⟨gl [], rfl, rfl⟩))))))
theorem Qc1 {r : Qe} (K bx0 : Nat) : ∀ (k : Nat), E2 bx0 r (Xn K k) := by
 intro k
 induction k with
 | zero =>
  intro l x0 w b m g h
  exact zn h
 | succ k ih =>
  intro l x0 w b m g h
  rw [Xn] at h
  refine Q0 (T.seq (sR (Qr (mw rfl (mw rfl (sp rfl (Vz (i := 2) (xs := b) (f := (cI .i64)) rfl (dk rfl) Zi rfl rfl (oI rfl ?_))))))))
  refine nL (tN ?_)
  rcases Qg h with ⟨y, h⟩ | ⟨y, h⟩
  refine Qp rfl y (T.skip (tN (T.seq (T.block (T.seq (Zy (dV rfl rfl ?_)))))))
  refine dK rfl (.f rfl) rfl (dP rfl (.f rfl) ul69 i28 rfl (dP rfl (.f rfl) Xz i26 rfl (dL 0 rfl (.f rfl) Vj rfl (dV rfl rfl (dV rfl rfl ?_)))))
  obtain ⟨p, aa, h⟩ := bind_some h
  refine dS (c := ⟨some 34, .el g 1 (Int.toNat l) 0, [(32, .c (.ex g)), (33, .int .i64 l)], [(2, .arrX g 3 1 0 (mI b))], []⟩) (fun t hm => oF rfl rfl (Zc (n := 2) (xs := b) (f := (cI .i64)) (old := p) rfl (dk rfl) Zi i3 hm.s0 hm.o0 hm.s1 aa rfl)) rfl rfl (dS (c := ⟨some 35, .int .i64 p, [(34, .el g 1 (Int.toNat l) 0)], [(2, .arrX g 3 1 0 (mI b))], []⟩) (fun t hm => oF rfl rfl (X1 (i := 2) (xs := b) (f := (cI .i64)) (old := p) rfl (dk rfl) ul3 rfl hm.s0 hm.o0 (Zd aa).2 rfl rfl)) rfl rfl ?_)
  obtain ⟨a, ab, h⟩ := bind_some h
  refine dX x0.Auto.States Qb rfl (.f rfl) Vj i51 ab rfl (dJ rfl (.f rfl) V1 i51 rfl ?_)
  obtain ⟨j, ac, h⟩ := bind_some h
  refine dH fu33 (Zh.nil (Qee K ac)) rfl (.f rfl) rfl (dN j Qh rfl (.f rfl) Ma rfl (dM rfl (.f rfl) rfl (dF [0,1,3,7,15,0,0,96,224,511,1023,2047,4095,0] Qx rfl (by kernel_rfl) (fun u hu => (tN (Ql hu (T.block (T.loop ?_))))))))
  refine Qf ?_ (Qc0 K bx0 (Xn K k) ih K l j (j.length : Int) (0:Int) x0 w b m g h)
  exact tq rfl rfl
  refine Qo rfl y (T.exit (Qj (Qj (Qq (tN (sR (Qr (mw rfl (mw rfl ?_)))))))))
  obtain ⟨q, ad, h⟩ := bind_some h
  refine sp rfl (Q9 (is := [0, 1]) (ph := []) rfl (dk rfl) fu56 rfl rfl (Zm.cons rfl (Zm.cons rfl Zm.nil)) (O4 K (bx0 := bx0) (wx1 := m) ad) (.cons rfl rfl (.cons rfl rfl (.nil))) (fun _ => rfl) (fun af => (nm (.c (.c (.c (.n)))) (nL (tN (sR (Qr (aw rfl (nL (tN (T.seq (sR (Qr ?_)))))))))))))
  refine mw rfl (sp rfl (Vz (i := 2) (xs := b) (f := (cI .i64)) rfl (dk rfl) Zi rfl rfl (mw rfl (nL (tN (T.block (T.loop (Qf (Xd 51 4) ?_))))))))
  refine Qf ?_ (Qcz K bx0 K (b.length : Int) (0:Int) q.Auto.Split.Of q.Auto.Split.Many q.Auto.Counts q.Auto.States [] b (Qd7 2) g h)
  exact tr rfl (.c (.s .z) (.c .z (.c (.s .z) (.n _))))
theorem Qgh (K : Nat) {x0 : Qe} {bx0 : Nat} {r : Qe} (h : Gm K x0 = some r) : U3 tp 28 [.ptr bx0 0] [(Co bx0 x0.Auto.Split.Of x0.Auto.Split.Many x0.Auto.Counts x0.Auto.States)] (fun γ => (.tup [])) (fun γ => [(Co bx0 r.Auto.Split.Of r.Auto.Split.Many r.Auto.Counts r.Auto.States)]) := by
 refine CI 93 fu28 rfl ?_
 unfold Gm at h
 refine sR (Qr (sp rfl (OpT.buildSlice (elems := ([(-1:Int)] : List Int).map (cI .i64)) rfl (dk rfl) Zi i3 (by decide) rfl (Hs rfl) rfl rfl rfl (Xh rfl) (by decide) (mw rfl (oK rfl (oP ul69 i28 rfl (oP Xz i26 rfl (oL 0 Vj rfl ?_))))))))
 refine oU x0.Auto.States Qb Vj rfl (Uh Zu ?_)
 obtain ⟨a, j, h⟩ := bind_some h
 refine sp rfl (Q9 (is := [0]) (ph := [.ro 0 []]) rfl (dk rfl) fu57 rfl rfl (Zm.cons rfl (Zm.cons rfl Zm.nil)) (Qgt K (flx0 := true) j) (.cons rfl rfl (.nil)) (fun _ => rfl) (fun l => (nm (.c (.c (.n))) (aw rfl (nL (tN (sR (Qr (sp rfl (M0 (elems := ([(0:Int)] : List Int).map (cI .i64)) rfl (dk rfl) Zi i3 (by decide) rfl (Hs rfl) rfl rfl rfl (Xh rfl) (by decide) (fun m => (aw rfl (nL (tN (sR (Qr ?_))))))))))))))))
 refine mw rfl ?_
 obtain ⟨b, g, h⟩ := bind_some h
 refine sp rfl (Zc (n := 1) (xs := a) (f := (cI .i64)) (old := b) rfl (dk rfl) Zi i3 rfl rfl rfl g (sp rfl (Yr (i := 1) (xs := a) (f := (cI .i64)) (old := b) (new := (0:Int)) rfl rfl i3 rfl rfl rfl (Zd g).2 (Qmm _) (nb rfl) rfl (nL (tN (T.seq (sR (Qr (aw rfl (nL (tN ?_)))))))))))
 refine T.block (T.loop ?_)
 refine Qf ?_ (Qc1 K bx0 K (0:Int) x0 (List.set a (Int.toNat (0:Int)) (0:Int)) [(0:Int)] (l 0) (.slice (some ⟨m, 0, none⟩) 1 1) h)
 exact tr rfl (.c (.s (.s .z)) (.c (.s .z) (.c .z (.n _))))
theorem Sw (K : Nat) {x0 : Int} {r : ByteArray} (h : strconv_Itoa K x0 = some r) : Zh tp 39 [.int .i64 x0] [.tab 0 Uj] (.str r) := by
 unfold strconv_Itoa at h
 split at h
 next hc => cases h; exact itoa_call Tryz.laysM171 (by kernel_rfl) hc.1 hc.2
 cases h
abbrev Qle (bx0 : Nat) (x0c1 : List Int) (r : Unit) : ES := Jm tp ff111 (fun y t => ∃ γ : Nat → Value, y = (.tup []) ∧ t = [(Cp bx0 bx0 (γ 0)), .arrX (γ 0) 5 1 0 (mU x0c1)])
theorem O7 (K : Nat) {x0c1 : List Int} {bx0 : Nat} {wx0c1 : Value} {r : Unit} (h : Hx K x0c1 = some r) : U3 tp 111 [.ptr bx0 0] [(b134x10 bx0 (.pointer none) wx0c1), .arrX wx0c1 5 1 0 (mU x0c1)] (fun γ => (.tup [])) (fun γ => [(Cp bx0 bx0 (γ 0)), .arrX (γ 0) 5 1 0 (mU x0c1)]) := by
 refine CI 20 fu111 rfl ?_
 unfold Hx at h
 refine sR (Qr (mw rfl (oK rfl (oP ul134 i132 rfl (oL 0 ul132 rfl (sp rfl (OpT.eqlPtrNil rfl (dk rfl) ul132 rfl rfl (nL (tN ?_)))))))))
 refine Qp rfl rfl (Qr (mw rfl (mw rfl (sp rfl (OpT.toUnsafe (i := 0) rfl (dk rfl) ul132 ul193 i134 (by decide) rfl rfl (Nat.zero_lt_succ _) (sp rfl (OpT.noEscape rfl (dk rfl) fu130 rfl rfl (by kernel_rfl) (by kernel_rfl) rfl rfl (sp rfl (OpT.ofUnsafe (i := 0) rfl (dk rfl) ul193 ul132 i134 rfl rfl rfl (by kernel_rfl) ?_)))))))))
 refine oK rfl (oP ul134 i132 rfl (sp rfl (Wf (i := 0) (cells' := [.d (.ptr bx0 0), .d (.ex wx0c1)]) rfl rfl i132 rfl rfl rfl (nb rfl) rfl (nL (Q7 (.nil) (.cons 0 rfl (.cons 0 rfl (.nil _))) (by cases h; exact ⟨gl [wx0c1], rfl, rfl⟩))))))
abbrev Qkh (bx0 : Nat) (r : Int × Unit × (List Int)) : ES := Jm tp ff71 (fun y t => ∃ γ : Nat → Value, y = (.tup [.int .i64 r.1, .c (.ex .nilIface)]) ∧ t = [(Cp bx0 bx0 (γ 0)), .arrX (γ 0) 5 1 0 (mU r.2.2)])
theorem I4 (K : Nat) {x0c1 : List Int} {x1 : ByteArray} {bx0 : Nat} {wx0c1 : Value} {r : Int × Unit × (List Int)} (h : Wp K x0c1 x1 = some r) : U3 tp 71 [.ptr bx0 0, .str x1] [(b134x10 bx0 (.pointer none) wx0c1), .arrX wx0c1 5 1 0 (mU x0c1)] (fun γ => (.tup [.int .i64 r.1, .c (.ex .nilIface)])) (fun γ => [(Cp bx0 bx0 (γ 0)), .arrX (γ 0) 5 1 0 (mU r.2.2)]) := by
 refine CI 19 fu71 rfl ?_
 unfold Wp at h
 refine sR (Qr (aw rfl (aw rfl (nL (tN (sR (Qr (mw rfl ?_))))))))
 obtain ⟨g, b, h⟩ := bind_some h
 refine sp rfl (Q9 (is := [0, 1]) (ph := []) rfl (dk rfl) fu111 rfl rfl (Zm.cons rfl Zm.nil) (O7 K (bx0 := bx0) (wx0c1 := wx0c1) b) (.cons rfl rfl (.cons rfl rfl (.nil))) (fun _ => rfl) (fun j => (nm (.c (.c (.n))) (nL (tN (sR (Qr (mw rfl (mw rfl (oK rfl (oP ul134 i52 rfl ?_)))))))))))
 refine oL 0 B2 rfl (mw rfl ?_)
 obtain ⟨f, h⟩ := Q6 h
 refine sp rfl (Qfj (i := 1) (xs := x0c1) rfl (dk rfl) B2 ul9 i5 rfl rfl rfl rfl f (fun a => (oK rfl (oP ul134 i52 rfl (sp rfl (Wf (i := 0) (cells' := [.d (.ptr bx0 0), .d (.ex a)]) rfl rfl i52 rfl rfl rfl (nb rfl) rfl (nL (tN (sR (Qr (mw rfl (sp rfl (Qa5 rfl (dk rfl) ul9 rfl ?_)))))))))))))
 refine aw rfl (aw rfl (nL (tN (T.ret (Q7 (.cons _ _ _ _ (.tmp 4 _ rfl) (.cons _ _ _ _ (.tmp 5 _ rfl) .nil)) (.cons 0 rfl (.cons 0 rfl (.nil _))) (by cases h; exact ⟨gl [a], rfl, rfl⟩))))))
abbrev trim_sign_1_q (bx1 : Nat) (r : List Int) : ES := Jm tp ff70 (fun y t => ∃ γ : Nat → Value, y = (.tup []) ∧ t = [.tab 0 Uj, (Cp bx1 bx1 (γ 0)), .arrX (γ 0) 5 1 0 (mU r)])
theorem trim_sign_1_T (K : Nat) {x0 : Int} {x1c1 : List Int} {bx1 : Nat} {wx1c1 : Value} {r : List Int} (h : Qa7 K x0 x1c1 = some r) : U3 tp 70 [.int .i64 x0, .ptr bx1 0] [.tab 0 Uj, (b134x10 bx1 (.pointer none) wx1c1), .arrX wx1c1 5 1 0 (mU x1c1)] (fun γ => (.tup [])) (fun γ => [.tab 0 Uj, (Cp bx1 bx1 (γ 0)), .arrX (γ 0) 5 1 0 (mU r)]) := by
 refine CI 7 fu70 rfl ?_
 unfold Qa7 at h
 refine Qr (mw rfl ?_)
 obtain ⟨i, a, h⟩ := bind_some h
 refine sp rfl (Mz rfl (dk rfl) fu39 rfl rfl (Zm.cons rfl Zm.nil) (.tab 0 rfl (.nil)) (Sw K a) ?_)
 obtain ⟨b, h⟩ := Q6 h
 refine sp rfl (Qcb rfl (dk rfl) rfl rfl b ?_)
 obtain ⟨j, f, h⟩ := bind_some h
 refine sp rfl (Q9 (is := [1, 2]) (ph := []) rfl (dk rfl) fu71 rfl rfl (Zm.cons rfl (Zm.cons rfl Zm.nil)) (I4 K (bx0 := bx1) (wx0c1 := wx1c1) f) (.cons rfl rfl (.cons rfl rfl (.nil))) (fun _ => rfl) (fun g => (nm (.c (.c (.c (.n)))) (nL (Q7 (.nil) (.cons 0 rfl (.cons 0 rfl (.cons 0 rfl (.nil _)))) (by cases h; exact ⟨gl [g 0], rfl, rfl⟩))))))
abbrev Qj4 (bx0 : Nat) (x0c1 : List Int) (r : Unit) : ES := Jm tp ff111 (fun y t => ∃ γ : Nat → Value, y = (.tup []) ∧ t = [(Cp bx0 bx0 (γ 0)), .arrX (γ 0) 5 1 0 (mU x0c1)])
theorem Lp (K : Nat) {x0c1 : List Int} {bx0 : Nat} {wx0c1 : Value} {r : Unit} (h : Yz K x0c1 = some r) : U3 tp 111 [.ptr bx0 0] [(Cp bx0 bx0 wx0c1), .arrX wx0c1 5 1 0 (mU x0c1)] (fun γ => (.tup [])) (fun γ => [(Cp bx0 bx0 (γ 0)), .arrX (γ 0) 5 1 0 (mU x0c1)]) := by
 refine CI 20 fu111 rfl ?_
 unfold Yz at h
 refine sR (Qr (mw rfl (oK rfl (oP ul134 i132 rfl (oL 0 ul132 rfl (sp rfl (OpT.eqlPtrSome rfl (dk rfl) ul132 rfl rfl (nL (tN ?_)))))))))
 refine Qo rfl rfl (sR (Qr (mw rfl (oK rfl (oP ul134 i132 rfl (oL 0 ul132 rfl (mw rfl ?_)))))))
 refine sp rfl (OpT.neqPtrSame rfl (dk rfl) ul132 i134 rfl rfl (nL (tN (Qo rfl rfl (T.skip (Q7 (.nil) (.cons 0 rfl (.cons 0 rfl (.nil _))) (by cases h; exact ⟨gl [wx0c1], rfl, rfl⟩)))))))
abbrev Qje (bx0 : Nat) (r : Int × Unit × (List Int)) : ES := Jm tp ff71 (fun y t => ∃ γ : Nat → Value, y = (.tup [.int .i64 r.1, .c (.ex .nilIface)]) ∧ t = [(Cp bx0 bx0 (γ 0)), .arrX (γ 0) 5 1 0 (mU r.2.2)])
theorem Ei (K : Nat) {x0c1 : List Int} {x1 : ByteArray} {bx0 : Nat} {wx0c1 : Value} {r : Int × Unit × (List Int)} (h : Vr K x0c1 x1 = some r) : U3 tp 71 [.ptr bx0 0, .str x1] [(Cp bx0 bx0 wx0c1), .arrX wx0c1 5 1 0 (mU x0c1)] (fun γ => (.tup [.int .i64 r.1, .c (.ex .nilIface)])) (fun γ => [(Cp bx0 bx0 (γ 0)), .arrX (γ 0) 5 1 0 (mU r.2.2)]) := by
 refine CI 19 fu71 rfl ?_
 unfold Vr at h
 refine sR (Qr (aw rfl (aw rfl (nL (tN (sR (Qr (mw rfl ?_))))))))
 obtain ⟨g, b, h⟩ := bind_some h
 refine sp rfl (Q9 (is := [0, 1]) (ph := []) rfl (dk rfl) fu111 rfl rfl (Zm.cons rfl Zm.nil) (Lp K (bx0 := bx0) (wx0c1 := wx0c1) b) (.cons rfl rfl (.cons rfl rfl (.nil))) (fun _ => rfl) (fun j => (nm (.c (.c (.n))) (nL (tN (sR (Qr (mw rfl (mw rfl (oK rfl (oP ul134 i52 rfl ?_)))))))))))
 refine oL 0 B2 rfl (mw rfl ?_)
 obtain ⟨f, h⟩ := Q6 h
 refine sp rfl (Qfj (i := 1) (xs := x0c1) rfl (dk rfl) B2 ul9 i5 rfl rfl rfl rfl f (fun a => (oK rfl (oP ul134 i52 rfl (sp rfl (Wf (i := 0) (cells' := [.d (.ptr bx0 0), .d (.ex a)]) rfl rfl i52 rfl rfl rfl (nb rfl) rfl (nL (tN (sR (Qr (mw rfl (sp rfl (Qa5 rfl (dk rfl) ul9 rfl ?_)))))))))))))
 refine aw rfl (aw rfl (nL (tN (T.ret (Q7 (.cons _ _ _ _ (.tmp 4 _ rfl) (.cons _ _ _ _ (.tmp 5 _ rfl) .nil)) (.cons 0 rfl (.cons 0 rfl (.nil _))) (by cases h; exact ⟨gl [a], rfl, rfl⟩))))))
abbrev trim_sign_1_i1_q (bx1 : Nat) (r : List Int) : ES := Jm tp ff70 (fun y t => ∃ γ : Nat → Value, y = (.tup []) ∧ t = [.tab 0 Uj, (Cp bx1 bx1 (γ 0)), .arrX (γ 0) 5 1 0 (mU r)])
theorem Ke (K : Nat) {x0 : Int} {x1c1 : List Int} {bx1 : Nat} {wx1c1 : Value} {r : List Int} (h : Jl K x0 x1c1 = some r) : U3 tp 70 [.int .i64 x0, .ptr bx1 0] [.tab 0 Uj, (Cp bx1 bx1 wx1c1), .arrX wx1c1 5 1 0 (mU x1c1)] (fun γ => (.tup [])) (fun γ => [.tab 0 Uj, (Cp bx1 bx1 (γ 0)), .arrX (γ 0) 5 1 0 (mU r)]) := by
 refine CI 7 fu70 rfl ?_
 unfold Jl at h
 refine Qr (mw rfl ?_)
 obtain ⟨i, a, h⟩ := bind_some h
 refine sp rfl (Mz rfl (dk rfl) fu39 rfl rfl (Zm.cons rfl Zm.nil) (.tab 0 rfl (.nil)) (Sw K a) ?_)
 obtain ⟨b, h⟩ := Q6 h
 refine sp rfl (Qcb rfl (dk rfl) rfl rfl b ?_)
 obtain ⟨j, f, h⟩ := bind_some h
 refine sp rfl (Q9 (is := [1, 2]) (ph := []) rfl (dk rfl) fu71 rfl rfl (Zm.cons rfl (Zm.cons rfl Zm.nil)) (Ei K (bx0 := bx1) (wx0c1 := wx1c1) f) (.cons rfl rfl (.cons rfl rfl (.nil))) (fun _ => rfl) (fun g => (nm (.c (.c (.c (.n)))) (nL (Q7 (.nil) (.cons 0 rfl (.cons 0 rfl (.cons 0 rfl (.nil _)))) (by cases h; exact ⟨gl [g 0], rfl, rfl⟩))))))
abbrev strings_Builder_Write_q (bx0 : Nat) (r : Int × Unit × (List Int)) : ES := Jm tp ff72 (fun y t => ∃ γ : Nat → Value, y = (.tup [.int .i64 r.1, .c (.ex .nilIface)]) ∧ t = [(Cp bx0 bx0 (γ 0)), .arrX (γ 0) 5 1 0 (mU r.2.2)])
theorem Qba (K : Nat) {x0c1 x1 : List Int} {bx0 : Nat} {wx0c1 : Value} {flx1 : Bool} {r : Int × Unit × (List Int)} (h : Hk K x0c1 x1 = some r) : U3 tp 72 [.ptr bx0 0, .sl flx1 1 (mU x1)] [(Cp bx0 bx0 wx0c1), .arrX wx0c1 5 1 0 (mU x0c1)] (fun γ => (.tup [.int .i64 r.1, .c (.ex .nilIface)])) (fun γ => [(Cp bx0 bx0 (γ 0)), .arrX (γ 0) 5 1 0 (mU r.2.2)]) := by
 refine CI 19 fu72 rfl ?_
 unfold Hk at h
 refine sR (Qr (aw rfl (aw rfl (nL (tN (sR (Qr (mw rfl ?_))))))))
 obtain ⟨j, b, h⟩ := bind_some h
 refine sp rfl (Q9 (is := [0, 1]) (ph := []) rfl (dk rfl) fu111 rfl rfl (Zm.cons rfl Zm.nil) (Lp K (bx0 := bx0) (wx0c1 := wx0c1) b) (.cons rfl rfl (.cons rfl rfl (.nil))) (fun _ => rfl) (fun l => (nm (.c (.c (.n))) (nL (tN (sR (Qr (mw rfl (mw rfl (oK rfl (oP ul134 i52 rfl ?_)))))))))))
 refine oL 0 B2 rfl (mw rfl ?_)
 obtain ⟨g, h⟩ := Q6 h
 refine sp rfl (Hv (i := 1) (xs := x0c1) (ys := x1) (f := (cI .u8)) rfl (dk rfl) B2 i5 rfl rfl rfl rfl g (fun a => (oK rfl (oP ul134 i52 rfl (sp rfl (Wf (i := 0) (cells' := [.d (.ptr bx0 0), .d (.ex a)]) rfl rfl i52 rfl rfl rfl (nb rfl) rfl (nL (tN (sR (Qr (mw rfl (oU x1 (cI .u8) B2 rfl ?_))))))))))))
 refine aw rfl (aw rfl (nL (tN (T.ret (Q7 (.cons _ _ _ _ (.tmp 4 _ rfl) (.cons _ _ _ _ (.tmp 5 _ rfl) .nil)) (.cons 0 rfl (.cons 0 rfl (.nil _))) (by cases h; exact ⟨gl [a], rfl, rfl⟩))))))
abbrev Qgo (wx1 : Value) (x1 : List Int) (r : ByteArray) : ES := Jm tp ff40 (fun y t => ∃ γ : Nat → Value, y = (.str r) ∧ t = [.tab 0 Uj, .arrX wx1 3 1 0 (mI x1)])
abbrev Qgm (wx1 : Value) (x1 : List Int) (r : ByteArray) : ES := fT 70 [1,1,1,1,1,1,1] ff40 (Qgo wx1 x1 r)
abbrev Qec (wx1 : Value) (x1 : List Int) (r : ByteArray) : ES := Qv 4 ((Qgm wx1 x1 r))
abbrev Qic (wx1 : Value) (x1 : List Int) (r : ByteArray) : ES := fT 70 [1,1,1,1,1,1] ff40 (Qgo wx1 x1 r)
abbrev Qfr (wx1 : Value) (x1 : List Int) (r : ByteArray) : ES := Qv 2 ((Qic wx1 x1 r))
abbrev Qjf (wx1 : Value) (x1 : List Int) (r : ByteArray) : ES := fT 70 [1,1,1,1,1] ff40 (Qgo wx1 x1 r)
abbrev Qgn (wx1 : Value) (x1 : List Int) (r : ByteArray) : ES := Qv 0 ((Qjf wx1 x1 r))
theorem trim_sign_l2_T {r : ByteArray} (K : Nat) (wx1 : Value) (x1 : List Int) : ∀ (k : Nat), ∀ (g : List Qd) (j l : Int) (x1 p : List Int) (a : Nat) (m : Value), Ll K k g j l x1 p = some r → TL tp 70 (ca [1,1,1,1,1,1,0,1,0,0] ff40) ⟨[(1, .c (.ex wx1)), (5, .ptr a 0), (6, .c (.ex (.func (.func 70) #[] #[.pointer (some ⟨a, 0, none⟩)]))), (42, .sl false 2 (g.map Qh)), (43, .int .i64 j), (44, .int .i64 l)], [.arrX wx1 3 1 0 (mI x1), (Cp a a m), .arrX m 5 1 0 (mU p), .tab 0 Uj]⟩ (Qec wx1 x1 r) := by
 intro k
 induction k with
 | zero =>
  intro g j l x1 p a m h
  exact zn h
 | succ k ih =>
  intro g j l x1 p a m h
  rw [Ll] at h
  refine Q0 (sR (Qr (oI rfl (nL (tN (T.seq ?_))))))
  rcases Qg h with ⟨u, h⟩ | ⟨u, h⟩
  refine Qp rfl u (T.skip (tN (T.seq (T.block (sR (Qr ?_))))))
  obtain ⟨q, ab, h⟩ := bind_some h
  refine oX g Qh Ma i54 ab rfl (oJ Lj i54 rfl (sp rfl (Za rfl (dk rfl) i54 rfl (fun av => (sp rfl (Qt (i := 0) (cells' := [.d (.int .i64 q.To), .d (.sl false 1 (mU q.Ops))]) rfl rfl i54 rfl rfl rfl rfl (nb rfl) rfl (nL (tN (T.seq (sR (Qr ?_)))))))))))
  refine oP Lj i3 rfl (oL 0 ul3 rfl (oI rfl (nL (tN ?_))))
  rcases Qg h with ⟨w, h⟩ | ⟨w, h⟩
  refine Qp rfl w (sR (Qr (mw rfl ?_)))
  obtain ⟨ac, ad, h⟩ := bind_some h
  refine sp rfl (Sn (f := 70) (vs := [.pointer (some ⟨a, 0, none⟩)]) rfl rfl (dk rfl) fu70 rfl rfl (Q9 (is := [4, 2, 3]) (ph := []) rfl (dk rfl) fu70 rfl rfl (Zm.cons rfl (Zm.cons rfl Zm.nil)) (Ke K (bx1 := a) (wx1c1 := m) ad) (.cons rfl rfl (.cons rfl rfl (.cons rfl rfl (.nil)))) (fun _ => rfl) (fun af => (nm (.c (.c (.c (.c (.c (.n)))))) (nL (tN (T.exit (Qj (Qq (tN (Qr (oI rfl (mw rfl ?_)))))))))))))
  refine nL (tN ?_)
  refine Qf ?_ (ih g j (wI (l + (1:Int))) x1 ac a (af 0) h)
  exact tr rfl (.c (.s .z) (.c (.s .z) (.c (.s .z) (.c (.s .z) (.n _)))))
  refine Qo rfl w (T.skip (tN (sR (Qr (mw rfl (mw rfl (oP Lj i3 rfl (oL 0 ul3 rfl ?_))))))))
  obtain ⟨y, aa, h⟩ := bind_some h
  refine sp rfl (Zc (n := 1) (xs := x1) (f := (cI .i64)) (old := y) rfl (dk rfl) Zi i3 rfl rfl rfl aa (sp rfl (X1 (i := 1) (xs := x1) (f := (cI .i64)) (old := y) rfl (dk rfl) ul3 rfl rfl rfl (Zd aa).2 rfl ?_)))
  obtain ⟨ay, ag, h⟩ := bind_some h
  refine sp rfl (Sn (f := 70) (vs := [.pointer (some ⟨a, 0, none⟩)]) rfl rfl (dk rfl) fu70 rfl rfl (Q9 (is := [4, 2, 3]) (ph := []) rfl (dk rfl) fu70 rfl rfl (Zm.cons rfl (Zm.cons rfl Zm.nil)) (Ke K (bx1 := a) (wx1c1 := m) ag) (.cons rfl rfl (.cons rfl rfl (.cons rfl rfl (.nil)))) (fun _ => rfl) (fun ai => (nm (.c (.c (.c (.c (.c (.n)))))) (nL (tN (sR (Qr (oP Lj i52 rfl (oL 0 B2 rfl ?_))))))))))
  obtain ⟨az, aj, h⟩ := bind_some h
  refine sp rfl (Q9 (is := [2, 3]) (ph := []) rfl (dk rfl) fu72 rfl rfl (Zm.cons rfl (Zm.cons rfl Zm.nil)) (Qba K (bx0 := a) (wx0c1 := (ai 0)) (flx1 := false) aj) (.cons rfl rfl (.cons rfl rfl (.nil))) (fun _ => rfl) (fun al => (nm (.c (.c (.c (.c (.c (.n)))))) (nL (tN (Qr (mw rfl (oP Lj i52 rfl (oL 0 B2 rfl ?_)))))))))
  refine oU q.Ops (cI .u8) B2 rfl ?_
  obtain ⟨am, an, h⟩ := bind_some h
  refine sp rfl (Sn (f := 70) (vs := [.pointer (some ⟨a, 0, none⟩)]) rfl rfl (dk rfl) fu70 rfl rfl (Q9 (is := [4, 2, 3]) (ph := []) rfl (dk rfl) fu70 rfl rfl (Zm.cons rfl (Zm.cons rfl Zm.nil)) (Ke K (bx1 := a) (wx1c1 := (al 0)) an) (.cons rfl rfl (.cons rfl rfl (.cons rfl rfl (.nil)))) (fun _ => rfl) (fun ap => (nm (.c (.c (.c (.c (.c (.n)))))) (nL (Qk (tN (Qr (oI rfl (mw rfl (nL (tN ?_))))))))))))
  refine Qf ?_ (ih g j (wI (l + (1:Int))) x1 am a (ap 0) h)
  exact tr rfl (.c (.s .z) (.c (.s .z) (.c (.s .z) (.c (.s .z) (.n _)))))
  refine Qo rfl u (T.exit (Qj (Qj (Qq (tN (sR (Qr ?_)))))))
  obtain ⟨aq, h⟩ := Q6 h
  obtain ⟨au, h⟩ := Q6 h
  refine sp rfl (Q9 (is := [1, 2]) (ph := []) rfl (dk rfl) fu73 rfl rfl (Zm.cons rfl Zm.nil) (builder_String (b := a) (xs := p) aq au) (.cons rfl rfl (.cons rfl rfl (.nil))) (fun _ => rfl) (fun a0 => (nm (.c (.c (.c (.c (.n))))) (aw rfl (nL (tN (T.ret (Q7 (.cons _ _ _ _ (.tmp 4 _ rfl) .nil) (.cons 3 rfl (.cons 0 rfl (.nil _))) (by cases h; exact ⟨gl [], rfl, rfl⟩)))))))))
theorem trim_sign_l1_T {r : ByteArray} (K : Nat) (wx1 : Value) (x1 : List Int) : ∀ (k : Nat), ∀ (x0 : Qa) (g j : Int) (x1 m : List Int) (p a : Nat) (b : Value), Mi K k x0 g j x1 m = some r → TL tp 70 (ca [1,1,1,1,1,0,1,0,0] ff40) ⟨[(1, .c (.ex wx1)), (2, .ptr p 0), (5, .ptr a 0), (6, .c (.ex (.func (.func 70) #[] #[.pointer (some ⟨a, 0, none⟩)]))), (31, .sl false 1 (mI x0.Rule)), (32, .int .i64 g), (33, .int .i64 j)], [.arrX wx1 3 1 0 (mI x1), (W0 p x0.L x0.R x0.Rule x0.Next), (Cp a a b), .arrX b 5 1 0 (mU m), .tab 0 Uj]⟩ (Qfr wx1 x1 r) := by
 intro k
 induction k with
 | zero =>
  intro x0 g j x1 m p a b h
  exact zn h
 | succ k ih =>
  intro x0 g j x1 m p a b h
  rw [Mi] at h
  refine Q0 (sR (Qr (oI rfl (nL (tN (T.seq ?_))))))
  rcases Qg h with ⟨q, h⟩ | ⟨q, h⟩
  refine Qp rfl q (T.skip (tN (T.seq (T.block (sR (Qr ?_))))))
  obtain ⟨w, y, h⟩ := bind_some h
  refine oX x0.Rule (cI .i64) Zi i3 y rfl (oR ul3 rfl (aw rfl (nL (tN (Qr (mw rfl (mw rfl ?_)))))))
  obtain ⟨aa, ab, h⟩ := bind_some h
  refine sp rfl (Sn (f := 70) (vs := [.pointer (some ⟨a, 0, none⟩)]) rfl rfl (dk rfl) fu70 rfl rfl (Q9 (is := [4, 2, 3]) (ph := []) rfl (dk rfl) fu70 rfl rfl (Zm.cons rfl (Zm.cons rfl Zm.nil)) (Ke K (bx1 := a) (wx1c1 := b) ab) (.cons rfl rfl (.cons rfl rfl (.cons rfl rfl (.nil)))) (fun _ => rfl) (fun ac => (nm (.c (.c (.c (.c (.c (.n)))))) (nL (Qk (tN (Qr (oI rfl (mw rfl (nL (tN ?_))))))))))))
  refine Qf ?_ (ih x0 g (wI (j + (1:Int))) x1 aa p a (ac 0) h)
  exact tq rfl rfl
  refine Qo rfl q (T.exit (Qj (Qj (Qq (tN (T.seq (sR (Qr (oA 1 [.sl false 1 (mI x0.L), .sl false 1 (mI x0.R), .sl false 1 (mI x0.Rule), .sl false 1 (x0.Next.map (cL 2 Qh))] V1 i51 rfl ?_)))))))))
  obtain ⟨u, ad, h⟩ := bind_some h
  refine oH fu33 (Zh.nil (Qee K ad)) rfl (oU u Qh Ma rfl (mw rfl (nL (tN (T.block (T.loop ?_))))))
  refine Qf ?_ (trim_sign_l2_T K wx1 x1 K u (u.length : Int) (0:Int) x1 m a b h)
  exact tr rfl (.c .z (.c (.s .z) (.c (.s .z) (.c (.s .z) (.n _)))))
theorem trim_sign_l0_T {r : ByteArray} (K : Nat) (wx1 : Value) (x1 : List Int) : ∀ (k : Nat), ∀ (x0 : Qa) (j l : Int) (x1 m : List Int) (b a : Nat) (g : Value), Mj K k x0 j l x1 m = some r → TL tp 70 (ca [1,1,1,1,0,1,0,0] ff40) ⟨[(1, .c (.ex wx1)), (2, .ptr b 0), (5, .ptr a 0), (6, .c (.ex (.func (.func 70) #[] #[.pointer (some ⟨a, 0, none⟩)]))), (20, .sl false 1 (mI x0.R)), (21, .int .i64 j), (22, .int .i64 l)], [.arrX wx1 3 1 0 (mI x1), (W0 b x0.L x0.R x0.Rule x0.Next), (Cp a a g), .arrX g 5 1 0 (mU m), .tab 0 Uj]⟩ (Qgn wx1 x1 r) := by
 intro k
 induction k with
 | zero =>
  intro x0 j l x1 m b a g h
  exact zn h
 | succ k ih =>
  intro x0 j l x1 m b a g h
  rw [Mj] at h
  refine Q0 (sR (Qr (oI rfl (nL (tN (T.seq ?_))))))
  rcases Qg h with ⟨p, h⟩ | ⟨p, h⟩
  refine Qp rfl p (T.skip (tN (T.seq (T.block (sR (Qr ?_))))))
  obtain ⟨q, s, h⟩ := bind_some h
  refine oX x0.R (cI .i64) Zi i3 s rfl (oR ul3 rfl (aw rfl (nL (tN (Qr (mw rfl (mw rfl ?_)))))))
  obtain ⟨u, w, h⟩ := bind_some h
  refine sp rfl (Sn (f := 70) (vs := [.pointer (some ⟨a, 0, none⟩)]) rfl rfl (dk rfl) fu70 rfl rfl (Q9 (is := [4, 2, 3]) (ph := []) rfl (dk rfl) fu70 rfl rfl (Zm.cons rfl (Zm.cons rfl Zm.nil)) (Ke K (bx1 := a) (wx1c1 := g) w) (.cons rfl rfl (.cons rfl rfl (.cons rfl rfl (.nil)))) (fun _ => rfl) (fun y => (nm (.c (.c (.c (.c (.c (.n)))))) (nL (Qk (tN (Qr (oI rfl (mw rfl (nL (tN ?_))))))))))))
  refine Qf ?_ (ih x0 j (wI (l + (1:Int))) x1 u b a (y 0) h)
  exact tq rfl rfl
  refine Qo rfl p (T.exit (Qj (Qj (Qq (tN (T.seq (sR (Qr (oP V1 i38 rfl (oL 1 Zi rfl (oU x0.Rule (cI .i64) Zi rfl ?_)))))))))))
  refine mw rfl (nL (tN (T.block (T.loop ?_))))
  refine Qf ?_ (trim_sign_l1_T K wx1 x1 K x0 (x0.Rule.length : Int) (0:Int) x1 m b a g h)
  exact tq rfl rfl
theorem trim_sign_T (K : Nat) {x0 : Qa} {x1 : List Int} {wx1 : Value} {r : ByteArray} (h : Qed K x0 x1 = some r) : U3 tp 40 [.agg [.sl false 1 (mI x0.L), .sl false 1 (mI x0.R), .sl false 1 (mI x0.Rule), .sl false 1 (x0.Next.map (cL 2 Qh))], .c (.ex wx1)] [.tab 0 Uj, .arrX wx1 3 1 0 (mI x1)] (fun γ => (.str r)) (fun γ => [.tab 0 Uj, .arrX wx1 3 1 0 (mI x1)]) := by
 refine CI 70 fu40 rfl ?_
 unfold Qed at h
 refine sR (Qr (sp rfl (Q8 rfl (dk rfl) rfl (fun b => (aw rfl (nL (tN (sR (Qr (sp rfl (Za rfl (dk rfl) i134 rfl (fun a => (nL (tN (sR (Qr (sp rfl (OpT.makeFunc (vs := [.pointer (some ⟨a, 0, none⟩)]) rfl (dk rfl) rfl ?_))))))))))))))))))
 refine aw rfl (nL (tN (sR (Qr (mw rfl (oP V1 i38 rfl (oL 1 Zi rfl (oU x0.R (cI .i64) Zi rfl (Uh (Iy 5 1) ?_)))))))))
 obtain ⟨d, g, h⟩ := bind_some h
 refine sp rfl (Sn (f := 70) (vs := [.pointer (some ⟨a, 0, none⟩)]) rfl rfl (dk rfl) fu70 rfl rfl (Q9 (is := [3, 1, 0]) (ph := []) rfl (dk rfl) fu70 rfl rfl (Zm.cons rfl (Zm.cons rfl Zm.nil)) (trim_sign_1_T K (bx1 := a) (wx1c1 := (Qd7 10)) g) (.cons rfl rfl (.cons rfl rfl (.cons rfl rfl (.nil)))) (fun _ => rfl) (fun j => (nm (.c (.c (.c (.c (.c (.n)))))) (nL (tN (T.seq (sR (Qr (oP V1 i38 rfl (oL 2 Zi rfl ?_)))))))))))
 refine oU x0.R (cI .i64) Zi rfl (mw rfl (nL (tN (T.block (T.loop ?_)))))
 refine Qf ?_ (trim_sign_l0_T K wx1 x1 K x0 (x0.R.length : Int) (0:Int) x1 d b a (j 0) h)
 exact tr rfl (.c (.s (.s (.s (.s .z)))) (.c (.s (.s .z)) (.c (.s .z) (.c .z (.c .z (.n _))))))
end Go.Rv

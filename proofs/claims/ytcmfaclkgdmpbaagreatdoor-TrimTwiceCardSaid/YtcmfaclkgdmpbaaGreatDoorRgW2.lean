/- Each function computes what its plain text says: printed by a program of ours. -/
import Derived.Test.YtcmfaclkgdmpbaaGreatDoorRgW1
namespace Go.Rv
open Go.Proofs
set_option maxRecDepth 100000
set_option maxHeartbeats 4000000
set_option linter.unusedVariables false
abbrev Nr (r : List Bool) : ES := J9 tp Tryz.f12 (fun y t => y = (.sl false 1 (r.map cB)) ∧ t = [])
abbrev Qey (r : List Bool) : ES := thenS (fun s' => T tp 85 (ca [1,1,1,1,1,1] Tryz.f12) s' ((Nr r))) ((Nr r))
abbrev Gj (r : List Bool) : ES := Qz 0 ((Qey r))
abbrev Iw (r : List Bool) : ES := thenS (fun s' => TL tp 85 (ca [1,1,1,1,1,0,1,0,0] Tryz.f12) s' ((Gj r))) ((Gj r))
abbrev Ry (r : List Bool) : ES := thenS (fun s' => T tp 85 (ca [1,1,1,1,1,0,1,0,0,1,1,1] Tryz.f12) s' ((Iw r))) ((Iw r))
abbrev Kx (r : List Bool) : ES := Qz 1 ((Ry r))
abbrev E8 (r : List Bool) : ES := Qz 2 ((Kx r))
abbrev Qdm (r : List Bool) : ES := thenS (fun s' => T tp 85 (ca [1,1,1,1,1,1,1] Tryz.f12) s' ((Nr r))) ((Nr r))
abbrev Hr (r : List Bool) : ES := Qz 4 ((Qdm r))
abbrev Qbr (r : List Bool) : ES := thenS (fun s' => TL tp 85 (ca [1,1,1,1,1,1,0,1,0,0] Tryz.f12) s' ((Hr r))) ((Hr r))
abbrev Qc8 (r : List Bool) (go : Ql → Int → Int → (List Bool) → (List (List Int)) → (List Int) → Option (List Bool)) : Prop := ∀ (x0 : Ql) (a b : Int) (f : List Bool) (g : List (List Int)) (i : List Int) (j l : Value) (m : Nat) (n : Value), go x0 a b f g i = some r → TL tp 85 (ca [1,1,1,1,1,0,1,0,0] Tryz.f12) ⟨[(3, .c (.ex j)), (4, .c (.ex l)), (5, .ptr m 0), (24, .sl false 4 (x0.States.map Qb)), (25, .int .i64 a), (26, .int .i64 b)], [.arrX j 4 1 0 (f.map cB), .arrG l 38 (gc 3 1 (cI .i64) g), (Tl m n), .arrX n 3 1 0 (mI i)]⟩ (Gj r)
theorem trim_Live_l4_T {r : List Bool} (K : Nat) (go0 : Ql → Int → Int → (List Bool) → (List (List Int)) → (List Int) → Option (List Bool)) (hgo0 : Qc8 r go0) : ∀ (k : Nat), ∀ (j : Int) (x0 : Ql) (ad af : Int) (ag : List Qe) (al am : Int) (ai : List Bool) (m : List (List Int)) (aj : List Int) (q b : Value) (aa : Nat) (ab : Value), Ln K go0 k j x0 ad af ag al am ai m aj = some r → TL tp 85 (ca [1,1,1,1,1,0,1,0,0,1,1,0,0,1,1,1,0,0] Tryz.f12) ⟨[(3, .c (.ex q)), (4, .c (.ex b)), (5, .ptr aa 0), (6, .int .i64 j), (24, .sl false 4 (x0.States.map Qb)), (25, .int .i64 ad), (26, .int .i64 af), (39, .sl false 2 (ag.map Qf)), (40, .int .i64 al), (41, .int .i64 am)], [.arrX q 4 1 0 (ai.map cB), .arrG b 38 (gc 3 1 (cI .i64) m), (Tl aa ab), .arrX ab 3 1 0 (mI aj)]⟩ (E8 r) := by
 intro k
 induction k with
 | zero =>
  intro j x0 ad af ag al am ai m aj q b aa ab h
  exact zn h
 | succ k ih =>
  intro j x0 ad af ag al am ai m aj q b aa ab h
  rw [Ln] at h
  refine Q6 ?_
  refine T.seq (Qr ?_)
  refine oI rfl ?_
  refine TL'.nil (tN ?_)
  refine T.seq ?_
  rcases Qd h with ⟨ap, h⟩ | ⟨ap, h⟩
  refine Qq rfl ap ?_
  refine T.skip (tN ?_)
  refine T.seq ?_
  refine T.block ?_
  refine T.seq (Qr ?_)
  obtain ⟨g, au, h⟩ := bind_some h
  refine oX ag Qf Fq i54 au rfl ?_
  refine sp rfl (Za rfl (dk rfl) Cp rfl i54 rfl (nb rfl) ?_)
  refine sp rfl (Zh rfl (dk rfl) i54 rfl (fun ac => ?_))
  refine sp rfl (Qy (i := 0) (cells' := [.d (.int .i64 g.To), .d (.sl false 1 (mU g.Ops))]) rfl rfl i54 rfl rfl rfl rfl (nb rfl) rfl ?_)
  refine TL'.nil (tN (T.seq (Qr ?_)))
  refine oP Cp i3 rfl ?_
  refine oL 0 ul3 rfl ?_
  refine oI rfl ?_
  refine TL'.nil (tN ?_)
  rcases Qd h with ⟨aq, h⟩ | ⟨aq, h⟩
  refine Qq rfl aq ?_
  refine Qm Y4 ?_
  refine Qm Y4 ?_
  refine H1 ?_
  refine dC (c := ⟨some 48, .c (.ex b), [(4, .c (.ex b))], [], []⟩) (fun t hm => oF rfl rfl (OpT.move rfl (dk rfl) hm.s0 ⟨u0, rfl⟩)) (fun _ => rfl) (fun _ => rfl) ?_
  refine dC (c := ⟨some 49, .ptr ac (0 + 0), [(9, .ptr ac 0)], [], []⟩) (fun t hm => oF rfl rfl (Zs rfl (dk rfl) Cp rfl i3 (by decide) hm.s0 ⟨u0, rfl⟩)) (fun _ => rfl) (fun _ => rfl) ?_
  refine dC (c := ⟨some 50, .int .i64 g.To, [(49, .ptr ac (0 + 0))], [(2, (Qft ac g.To g.Ops))], []⟩) (fun t hm => oF rfl rfl (Zn (i := 2) rfl (dk rfl) ul3 rfl hm.s0 hm.o0 rfl ⟨u0, rfl⟩)) (fun _ => rfl) (fun _ => rfl) ?_
  refine dC (c := ⟨some 51, .c (.ex b), [(4, .c (.ex b))], [], []⟩) (fun t hm => oF rfl rfl (OpT.move rfl (dk rfl) hm.s0 ⟨u0, rfl⟩)) (fun _ => rfl) (fun _ => rfl) ?_
  refine dC (c := ⟨some 52, .ptr ac (0 + 0), [(9, .ptr ac 0)], [], []⟩) (fun t hm => oF rfl rfl (Zs rfl (dk rfl) Cp rfl i3 (by decide) hm.s0 ⟨u0, rfl⟩)) (fun _ => rfl) (fun _ => rfl) ?_
  refine dC (c := ⟨some 53, .int .i64 g.To, [(52, .ptr ac (0 + 0))], [(2, (Qft ac g.To g.Ops))], []⟩) (fun t hm => oF rfl rfl (Zn (i := 2) rfl (dk rfl) ul3 rfl hm.s0 hm.o0 rfl ⟨u0, rfl⟩)) (fun _ => rfl) (fun _ => rfl) ?_
  obtain ⟨p, an, h⟩ := bind_some h
  refine dC (c := ⟨some 54, .el b 1 (Int.toNat g.To) 0, [(51, .c (.ex b)), (53, .int .i64 g.To)], [(4, .arrG b 38 (gc 3 1 (cI .i64) m))], []⟩) (fun t hm => oF rfl rfl (Ts (n := 4) (l := m) (y := p) rfl (dk rfl) ul72 i38 hm.s0 hm.o0 hm.s1 an ⟨u0, rfl⟩)) (fun _ => rfl) (fun _ => rfl) ?_
  refine DGG.step (c := fun a => ⟨some 55, .c (.ex ((a 7).1 0)), [(54, .el b 1 (Int.toNat g.To) 0)], [(4, .arrG b 38 (gc 3 1 (cI .i64) m)), (0, .ro 0 [])], [(4, .arrG b 38 (gh 3 1 (cI .i64) m (Int.toNat g.To) ((a 7).1 0))), (0, .arrA ((a 7).1 0) 3 1 (mI p))]⟩) [7] (fun a γ' h => by simp only [h 7 (by decide)]) (fun a t hm => oF rfl rfl (Qgq (i := 4) (kk := 0) (l := m) (y := p) rfl (dk rfl) Zx rfl hm.s0 hm.o0 (Zu an).2 hm.o1 (fun w => ⟨(fun _ => w, 0), rfl⟩))) (fun a => Z3 rfl rfl) ?_
  refine dC (c := ⟨some 56, .int .i64 j, [(6, .int .i64 j)], [], []⟩) (fun t hm => oF rfl rfl (OpT.move rfl (dk rfl) hm.s0 ⟨u0, rfl⟩)) (fun _ => rfl) (fun _ => rfl) ?_
  refine dC (c := ⟨some 57, .sl true 1 ([j].map (cI .i64)), [(56, .int .i64 j)], [], []⟩) (fun t hm => oF rfl rfl (OpT.buildSlice (elems := ([j] : List Int).map (cI .i64)) rfl (dk rfl) Zx i3 (by decide) rfl (M1 rfl) (Vn hm.s0 rfl Bt) rfl rfl (Uf rfl) (by decide) ⟨u0, rfl⟩)) (fun _ => rfl) (fun _ => rfl) ?_
  obtain ⟨av, h⟩ := Zf h
  refine DGG.step (c := fun a => ⟨some 58, .c (.ex ((a 10).1 0)), [(57, .sl true 1 ([j].map (cI .i64))), (55, .c (.ex ((a 7).1 0)))], [(0, .arrA ((a 7).1 0) 3 1 (mI p))], [(0, .arrA ((a 10).1 0) 3 1 ((p ++ [j]).map (cI .i64)))]⟩) [7, 10] (fun a γ' h => by simp only [h 7 (by decide), h 10 (by decide)]) (fun a t hm => oF rfl rfl (Zy (i := 0) (xs := p) (ys := [j]) (f := (cI .i64)) rfl (dk rfl) Zx i3 rfl hm.s1 hm.o0 hm.s0 av (fun w => ⟨(fun _ => w, 0), rfl⟩))) (fun a => Z3 rfl rfl) ?_
  refine DGG.step (c := fun a => ⟨some 59, .el b 1 (Int.toNat g.To) 0, [(48, .c (.ex b)), (50, .int .i64 g.To)], [(4, .arrG b 38 (gh 3 1 (cI .i64) m (Int.toNat g.To) ((a 7).1 0)))], []⟩) [7] (fun a γ' h => by simp only [h 7 (by decide)]) (fun a t hm => oF rfl rfl (Qet (n := 4) (l := m) (y := p) rfl (dk rfl) ul72 i38 hm.s0 hm.o0 hm.s1 an ⟨u0, rfl⟩)) (fun a => Z3 rfl rfl) ?_
  refine DGG.step (c := fun a => ⟨none, .any, [(59, .el b 1 (Int.toNat g.To) 0), (58, .c (.ex ((a 10).1 0)))], [(4, .arrG b 38 (gh 3 1 (cI .i64) m (Int.toNat g.To) ((a 7).1 0))), (0, .arrA ((a 10).1 0) 3 1 ((p ++ [j]).map (cI .i64)))], [(4, .arrG b 38 (gc 3 1 (cI .i64) (List.set m (Int.toNat g.To) (p ++ [j])))), (0, .ro 0 [])]⟩) [7, 10] (fun a γ' h => by simp only [h 7 (by decide), h 10 (by decide)]) (fun a t hm => oF rfl rfl (Qes (i := 4) (kk := 0) (l := m) (old := p) (y' := (p ++ [j])) rfl rfl i38 hm.s0 hm.s1 hm.o0 (Zu an).2 hm.o1 ⟨u0, rfl⟩)) (fun a => Z3 rfl rfl) ?_
  refine gF [0,0,2,0,0,16,56,120,0,256,1016,2047,4095] Q3 rfl (by kernel_rfl) (fun _ => by kernel_rfl) (fun a u hu => (Qn (tN (Qm hu ?_))))
  refine Qr ?_
  refine oI rfl ?_
  refine mw rfl ?_
  refine TL'.nil (tN ?_)
  refine Qh ?_ (ih j x0 ad af ag al (wI (am + (1:Int))) ai (List.set m (Int.toNat g.To) (p ++ [j])) aj q b aa ab h)
  exact tr rfl (.c (.s (.s (.s .z))) (.c (.s (.s (.s .z))) (.c (.s (.s (.s .z))) (.c (.s (.s (.s .z))) (.n _)))))
  refine Qp rfl aq ?_
  refine T.skip (Qn (tN ?_))
  refine Qr ?_
  refine oI rfl ?_
  refine mw rfl ?_
  refine TL'.nil (tN ?_)
  refine Qh ?_ (ih j x0 ad af ag al (wI (am + (1:Int))) ai m aj q b aa ab h)
  exact tr rfl (.c (.s .z) (.c (.s .z) (.c (.s .z) (.c (.s .z) (.n _)))))
  refine Qp rfl ap ?_
  refine T.exit (Qj (Qj (Qs (Qn (tN ?_)))))
  refine Qr ?_
  refine oI rfl ?_
  refine mw rfl ?_
  refine TL'.nil (tN ?_)
  refine Qh ?_ (hgo0 x0 ad (wI (af + (1:Int))) ai m aj q b aa ab h)
  exact tq rfl rfl
theorem Qda {r : List Bool} (K : Nat) (go0 : Ql → Int → Int → (List Bool) → (List (List Int)) → (List Int) → Option (List Bool)) (hgo0 : Qc8 r go0) (a : Int) (x0 : Ql) (b g : Int) (j : List Bool) (m : List (List Int)) (p q : List Int) (s u : List Int) (v : List (List Qe)) (w y : Value) (aa : Nat) (ab : Value) (ad : Nat) (h : Cr K go0 a x0 b g j m p q s u v = some r) : T tp 85 (ca [1,1,1,1,1,0,1,0,0,1,1,0,0,1,1] Tryz.f12) ⟨[(3, .c (.ex w)), (4, .c (.ex y)), (5, .ptr aa 0), (6, .int .i64 a), (7, .ptr ad 0), (24, .sl false 4 (x0.States.map Qb)), (25, .int .i64 b), (26, .int .i64 g)], [.arrX w 4 1 0 (j.map cB), .arrG y 38 (gc 3 1 (cI .i64) m), (Tl aa ab), .arrX ab 3 1 0 (mI p), (Jz ad q s u v)]⟩ (Kx r) := by
 unfold Cr at h
 refine T.seq (Qr ?_)
 refine oA 4 [.sl false 1 (mI q), .sl false 1 (mI s), .sl false 1 (mI u), .sl false 1 (v.map (cL 2 Qf))] Wi i51 rfl ?_
 obtain ⟨ac, af, h⟩ := bind_some h
 refine sp rfl (Q0 rfl (dk rfl) Tryz.func33 rfl rfl (Q5.cons rfl Q5.nil) (Zm.nil (Qbq K af)) ?_)
 refine oU ac Qf Fq rfl ?_
 refine mw rfl ?_
 refine TL'.nil (tN ?_)
 refine T.block ?_
 refine T.loop ?_
 refine Qh ?_ (trim_Live_l4_T K go0 hgo0 K a x0 b g ac (ac.length : Int) (0:Int) j m p w y aa ab h)
 exact tq rfl rfl
abbrev trim_Live_l2_H (r : List Bool) (go : Int → Bool → (List Bool) → (List (List Int)) → (List Int) → Option (List Bool)) : Prop := ∀ (a : Int) (b : Bool) (f : List Bool) (g : List (List Int)) (i : List Int) (j l : Value) (m : Nat) (n : Value), go a b f g i = some r → TL tp 85 (ca [1,1,1,1,1,1,0,1,0,0] Tryz.f12) ⟨[(3, .c (.ex j)), (4, .c (.ex l)), (5, .ptr m 0), (10, .int .i64 a), (11, .bool b)], [.arrX j 4 1 0 (f.map cB), .arrG l 38 (gc 3 1 (cI .i64) g), (Tl m n), .arrX n 3 1 0 (mI i)]⟩ (Hr r)
theorem Qc9 {r : List Bool} (K : Nat) (go2 : Int → Bool → (List Bool) → (List (List Int)) → (List Int) → Option (List Bool)) (hgo2 : trim_Live_l2_H r go2) (b : List Bool) (f : List (List Int)) (p : List Int) (g i : Value) (a : Nat) (j : Value) (h : Pq K go2 b f p = some r) : T tp 85 (ca [1,1,1,1,1,1,0,1,0,0,1,1] Tryz.f12) ⟨[(3, .c (.ex g)), (4, .c (.ex i)), (5, .ptr a 0)], [.arrX g 4 1 0 (b.map cB), .arrG i 38 (gc 3 1 (cI .i64) f), (Tl a j), .arrX j 3 1 0 (mI p)]⟩ (Qbr r) := by
 unfold Pq at h
 refine Qr ?_
 obtain ⟨m, q, h⟩ := bind_some h
 refine sp rfl (Q8 (is := [2, 3]) (ph := []) rfl (dk rfl) Tryz.func34 rfl rfl (Q5.cons rfl Q5.nil) (Iv K (bx0 := a) (wx0c0 := j) q) (.cons rfl rfl (.cons rfl rfl (.nil))) (fun _ => rfl) (fun s => ?_))
 refine nm (.c (.c (.c (.c (.n))))) ?_
 refine mw rfl ?_
 refine oE rfl ?_
 refine oE rfl ?_
 refine aw rfl ?_
 refine aw rfl ?_
 refine TL'.nil (tN ?_)
 refine Qh ?_ (hgo2 m.1 m.2.1 b f m.2.2.l g i a (s 0) h)
 exact tq rfl rfl
theorem trim_Live_l2_T {r : List Bool} (K : Nat) : ∀ (k : Nat), ∀ (q : Int) (u : Bool) (a : List Bool) (b : List (List Int)) (s : List Int) (j m : Value) (g : Nat) (p : Value), Up K k q u a b s = some r → TL tp 85 (ca [1,1,1,1,1,1,0,1,0,0] Tryz.f12) ⟨[(3, .c (.ex j)), (4, .c (.ex m)), (5, .ptr g 0), (10, .int .i64 q), (11, .bool u)], [.arrX j 4 1 0 (a.map cB), .arrG m 38 (gc 3 1 (cI .i64) b), (Tl g p), .arrX p 3 1 0 (mI s)]⟩ (Hr r) := by
 intro k
 induction k with
 | zero =>
  intro q u a b s j m g p h
  exact zn h
 | succ k ih =>
  intro q u a b s j m g p h
  rw [Up] at h
  refine Q6 ?_
  refine T.seq ?_
  refine T.seq (Qr ?_)
  refine mw rfl ?_
  refine TL'.nil (tN ?_)
  rcases Qd h with ⟨aa, h⟩ | ⟨aa, h⟩
  refine Qq rfl aa ?_
  refine T.skip (tN ?_)
  refine T.seq ?_
  refine T.block ?_
  refine T.seq (Qr ?_)
  refine mw rfl ?_
  refine mw rfl ?_
  obtain ⟨v, w, h⟩ := bind_some h
  refine sp rfl (Yb (n := 0) (xs := a) (f := cB) (old := v) rfl (dk rfl) ul33 i4 rfl rfl rfl w ?_)
  refine sp rfl (Hq (i := 0) (xs := a) (f := cB) (old := v) rfl (dk rfl) ul4 rfl rfl rfl (Zu w).2 rfl ?_)
  refine oT rfl ?_
  refine TL'.nil (tN ?_)
  rcases Qd h with ⟨ab, h⟩ | ⟨ab, h⟩
  refine Qq rfl ab ?_
  refine T.seq (Qr ?_)
  refine mw rfl ?_
  refine mw rfl ?_
  refine sp rfl (Yb (n := 0) (xs := a) (f := cB) (old := v) rfl (dk rfl) ul33 i4 rfl rfl rfl w ?_)
  refine sp rfl (H8 (i := 0) (xs := a) (f := cB) (old := v) (new := true) rfl rfl i4 rfl rfl rfl (Zu w).2 (Nat.zero_le _) (nb rfl) rfl ?_)
  refine TL'.nil (tN ?_)
  refine Qr ?_
  refine mw rfl ?_
  refine mw rfl ?_
  obtain ⟨ac, ad, h⟩ := bind_some h
  refine sp rfl (Ts (n := 1) (l := b) (y := ac) rfl (dk rfl) ul72 i38 rfl rfl rfl ad ?_)
  refine sp rfl (OpT.loadGM (i := 1) (l := b) (y := ac) rfl (dk rfl) Zx rfl rfl rfl (Zu ad).2 ?_)
  obtain ⟨af, ag, h⟩ := bind_some h
  refine sp rfl (Q8 (is := [2, 3]) (ph := []) rfl (dk rfl) Tryz.func32 rfl rfl (Q5.cons rfl (Q5.cons rfl Q5.nil)) (E7 K (bx0 := g) (wx0c0 := p) (flx1 := false) ag) (.cons rfl rfl (.cons rfl rfl (.nil))) (fun _ => rfl) (fun ai => ?_))
  refine nm (.c (.c (.c (.c (.n))))) ?_
  refine TL'.nil (Qn (tN ?_))
  refine Qm ?_ (Qc9 K (Up K k) ih (List.set a (Int.toNat q) true) b af.l j m g (ai 0) h)
  exact tq rfl rfl
  refine Qp rfl ab ?_
  refine T.skip (Qn (tN ?_))
  refine Qm ?_ (Qc9 K (Up K k) ih a b s j m g p h)
  exact tq rfl rfl
  refine Qp rfl aa ?_
  refine T.exit (Qj (Qj (Qs (tN ?_))))
  refine T.seq (Qr ?_)
  refine mw rfl ?_
  refine aw rfl ?_
  refine TL'.nil (tN ?_)
  refine T.ret ?_
  refine X7 (Ko 0 rfl) ?_
  refine X7 (Z6.view 2 0 rfl rfl) ?_
  exact fd rfl (by cases h; exact ⟨rfl, rfl⟩)
theorem trim_Live_l0_T {r : List Bool} (K : Nat) : ∀ (k : Nat), ∀ (x0 : Ql) (w b : Int) (j : List Bool) (m : List (List Int)) (y : List Int) (p q : Value) (g : Nat) (u : Value), Uq K k x0 w b j m y = some r → TL tp 85 (ca [1,1,1,1,1,0,1,0,0] Tryz.f12) ⟨[(3, .c (.ex p)), (4, .c (.ex q)), (5, .ptr g 0), (24, .sl false 4 (x0.States.map Qb)), (25, .int .i64 w), (26, .int .i64 b)], [.arrX p 4 1 0 (j.map cB), .arrG q 38 (gc 3 1 (cI .i64) m), (Tl g u), .arrX u 3 1 0 (mI y)]⟩ (Gj r) := by
 intro k
 induction k with
 | zero =>
  intro x0 w b j m y p q g u h
  exact zn h
 | succ k ih =>
  intro x0 w b j m y p q g u h
  rw [Uq] at h
  refine Q6 ?_
  refine T.seq (Qr ?_)
  refine oI rfl ?_
  refine TL'.nil (tN ?_)
  refine T.seq ?_
  rcases Qd h with ⟨aa, h⟩ | ⟨aa, h⟩
  refine Qq rfl aa ?_
  refine T.skip (tN ?_)
  refine T.seq ?_
  refine T.block ?_
  refine T.seq (Qr ?_)
  refine mw rfl ?_
  obtain ⟨a, af, h⟩ := bind_some h
  refine oX x0.States Qb Us i51 af rfl ?_
  refine sp rfl (Za rfl (dk rfl) Wi rfl i51 rfl (nb rfl) ?_)
  refine sp rfl (Zh rfl (dk rfl) i51 rfl (fun ad => ?_))
  refine aw rfl ?_
  refine sp rfl (Qy (i := 0) (cells' := [.d (.sl false 1 (mI a.L)), .d (.sl false 1 (mI a.R)), .d (.sl false 1 (mI a.Rule)), .d (.sl false 1 (a.Next.map (cL 2 Qf)))]) rfl rfl i51 rfl rfl rfl rfl (nb rfl) rfl ?_)
  refine TL'.nil (tN ?_)
  refine T.seq ?_
  refine T.seq (Qr ?_)
  refine oP Wi i38 rfl ?_
  refine oL 0 Zx rfl ?_
  obtain ⟨ap, ag, h⟩ := bind_some h
  refine sp rfl (Q0 rfl (dk rfl) Tryz.func31 rfl rfl (Q5.cons rfl Q5.nil) (Zm.nil (Qg6 K (flx0 := false) ag)) ?_)
  refine oI rfl ?_
  refine TL'.nil (tN ?_)
  rcases Qd h with ⟨ab, h⟩ | ⟨ab, h⟩
  refine Qq rfl ab ?_
  refine Qr ?_
  refine mw rfl ?_
  refine sp rfl (OpT.buildSlice (elems := ([b] : List Int).map (cI .i64)) rfl (dk rfl) Zx i3 (by decide) rfl (M1 rfl) rfl rfl rfl (Uf rfl) (by decide) ?_)
  obtain ⟨ai, aj, h⟩ := bind_some h
  refine sp rfl (Q8 (is := [3, 4]) (ph := []) rfl (dk rfl) Tryz.func32 rfl rfl (Q5.cons rfl (Q5.cons rfl Q5.nil)) (E7 K (bx0 := g) (wx0c0 := u) (flx1 := true) aj) (.cons rfl rfl (.cons rfl rfl (.nil))) (fun _ => rfl) (fun al => ?_))
  refine nm (.c (.c (.c (.c (.c (.n)))))) ?_
  refine TL'.nil (tN ?_)
  refine Qm ?_ (Qda K (Uq K k) ih b x0 w b j m ai.l a.L a.R a.Rule a.Next p q g (al 0) ad h)
  exact tr rfl (.c (.s .z) (.c (.s .z) (.c (.s .z) (.c (.s .z) (.c .z (.n _))))))
  refine Qp rfl ab ?_
  refine T.skip (tN ?_)
  refine Qm ?_ (Qda K (Uq K k) ih b x0 w b j m y a.L a.R a.Rule a.Next p q g u ad h)
  exact tr rfl (.c (.s .z) (.c (.s .z) (.c (.s .z) (.c (.s .z) (.c .z (.n _))))))
  refine Qp rfl aa ?_
  refine T.exit (Qj (Qj (Qs (tN ?_))))
  refine T.seq ?_
  refine T.seq (Qr ?_)
  obtain ⟨ac, am, h⟩ := bind_some h
  refine sp rfl (Q8 (is := [2, 3]) (ph := []) rfl (dk rfl) Tryz.func34 rfl rfl (Q5.cons rfl Q5.nil) (Iv K (bx0 := g) (wx0c0 := u) am) (.cons rfl rfl (.cons rfl rfl (.nil))) (fun _ => rfl) (fun an => ?_))
  refine nm (.c (.c (.c (.c (.n))))) ?_
  refine mw rfl ?_
  refine oE rfl ?_
  refine oE rfl ?_
  refine aw rfl ?_
  refine aw rfl ?_
  refine TL'.nil (tN ?_)
  refine T.block ?_
  refine T.loop ?_
  refine Qh ?_ (trim_Live_l2_T K K ac.1 ac.2.1 j m ac.2.2.l p q g (an 0) h)
  exact tq rfl rfl
theorem Qdn (K : Nat) {x0 : Ql} {r : List Bool} (h : Db K x0 = some r) : Zm tp 12 [.agg ((Zi.dc 256 .u8 x0.Split.Of) ++ (([.int .i64 x0.Split.Many, .sl false 2 (mA x0.Counts), .sl false 4 (x0.States.map Qb)] : List DC)))] [] (.sl false 1 (r.map cB)) := by
 refine Qt Tryz.func12 rfl (nb rfl) ?_
 show T tp 85 (ca [] Tryz.f12) ⟨Qw 0 [.agg ((Zi.dc 256 .u8 x0.Split.Of) ++ (([.int .i64 x0.Split.Many, .sl false 2 (mA x0.Counts), .sl false 4 (x0.States.map Qb)] : List DC)))], []⟩ (Nr r)
 unfold Db at h
 refine T.seq (Qr ?_)
 refine sp rfl (Zb rfl (dk rfl) rfl (fun u => ?_))
 refine aw rfl ?_
 refine TL'.nil (tN ?_)
 refine T.seq ?_
 refine T.seq (Qr ?_)
 refine oA 0 ((Zi.dc 256 .u8 x0.Split.Of) ++ (([.int .i64 x0.Split.Many, .sl false 2 (mA x0.Counts), .sl false 4 (x0.States.map Qb)] : List DC))) Uv i28 rfl ?_
 obtain ⟨v, d, h⟩ := bind_some h
 refine sp rfl (Q0 rfl (dk rfl) Tryz.func24 rfl rfl (Q5.cons rfl Q5.nil) (Zm.nil (Qck K d)) ?_)
 refine oT rfl ?_
 refine TL'.nil (tN ?_)
 rcases Qd h with ⟨a, h⟩ | ⟨a, h⟩
 refine Qq rfl a ?_
 refine T.seq (Qr ?_)
 refine aw rfl ?_
 refine TL'.nil (tN ?_)
 refine T.ret (Qv ?_)
 refine X7 (So 2 false 1 rfl) ?_
 exact fd rfl (by cases h; exact ⟨rfl, rfl⟩)
 refine Qp rfl a ?_
 refine T.skip (tN ?_)
 refine T.seq (Qr ?_)
 refine oP Uv i26 rfl ?_
 refine oL 0 Us rfl ?_
 refine oU x0.States Qb Us rfl ?_
 obtain ⟨b, h⟩ := Zf h
 obtain ⟨g, h⟩ := Zf h
 refine sp rfl (Kp (f := cB) (zv := (false : Bool)) rfl (dk rfl) ul33 i4 (by decide) rfl rfl rfl rfl rfl b g (fun j => ?_))
 refine aw rfl ?_
 refine TL'.nil (tN (T.seq (Qr ?_)))
 refine oP Uv i26 rfl ?_
 refine oL 1 Us rfl ?_
 refine oU x0.States Qb Us rfl ?_
 obtain ⟨m, h⟩ := Zf h
 refine sp rfl (Rs (e1 := 3) (esz := 1) (f := (cI .i64)) rfl (dk rfl) ul72 i38 rfl rfl b m (fun p => ?_))
 refine aw rfl ?_
 refine TL'.nil (tN (T.seq (Qr ?_)))
 refine sp rfl (Zh rfl (dk rfl) i74 rfl (fun q => ?_))
 refine TL'.nil (tN ?_)
 refine T.seq ?_
 refine T.seq (Qr ?_)
 refine oP Uv i26 rfl ?_
 refine oL 3 Us rfl ?_
 refine oU x0.States Qb Us rfl ?_
 refine mw rfl ?_
 refine TL'.nil (tN ?_)
 refine T.block ?_
 refine T.loop ?_
 refine Qh (Qid 3 1) ?_
 refine Qh ?_ (trim_Live_l0_T K K x0 (x0.States.length : Int) (0:Int) (List.replicate (Int.toNat (x0.States.length : Int)) (false : Bool)) (List.replicate (Int.toNat (x0.States.length : Int)) ([] : List Int)) [] j p q (Qf1 19) h)
 exact tr rfl (.c (.s (.s (.s .z))) (.c (.s (.s .z)) (.c (.s .z) (.c .z (.n _)))))
abbrev Qe4 (r : List Int) : ES := J9 tp Tryz.f95 (fun y t => y = (.sl false 1 (mI r)) ∧ t = [])
theorem Jr (K : Nat) {x0 : List Int} {flx0 : Bool} {r : List Int} (h : Xz K x0 = some r) : Zm tp 95 [.sl flx0 1 (mI x0)] [] (.sl false 1 (mI r)) := by
 refine Qt Tryz.func95 rfl (nb rfl) ?_
 show T tp 8 (ca [] Tryz.f95) ⟨Qw 0 [.sl flx0 1 (mI x0)], []⟩ (Qe4 r)
 unfold Xz at h
 refine T.seq (Qr ?_)
 refine aw rfl ?_
 refine TL'.nil (tN ?_)
 refine T.seq ?_
 refine T.seq (Qr ?_)
 refine mw rfl ?_
 refine sp rfl (Qih (xs := x0) (f := (cI .i64)) rfl (dk rfl) Zx rfl rfl (fun b c => ?_))
 refine TL'.nil (tN ?_)
 rcases Bool.eq_false_or_eq_true b with a | a
 have hx := c a
 replace h : (some []) = some r := by first | (rw [hx] at h; exact h) | exact h
 refine Qq rfl a ?_
 refine T.seq (Qr ?_)
 refine aw rfl ?_
 refine TL'.nil (tN ?_)
 refine T.ret (Qv ?_)
 refine X7 (So 2 false 1 rfl) ?_
 exact fd rfl (by cases h; exact ⟨rfl, rfl⟩)
 refine Qp rfl a ?_
 refine T.skip (tN ?_)
 refine T.seq (Qr ?_)
 refine sp rfl (OpT.buildSlice (elems := ([] : List Int).map (cI .i64)) rfl (dk rfl) Zx i3 (by decide) rfl (M1 rfl) rfl rfl rfl (Uf rfl) (by decide) ?_)
 refine mw rfl ?_
 obtain ⟨d, h⟩ := Zf h
 refine sp rfl (Rt (xs := ([] : List Int)) (ys := x0) (f := (cI .i64)) rfl (dk rfl) Zx i3 rfl rfl rfl (.inr rfl) d (fun g => ?_))
 refine aw rfl ?_
 refine TL'.nil (tN ?_)
 refine T.ret ?_
 refine X7 (Z6.view 2 0 rfl rfl) ?_
 exact fd rfl (by cases h; exact ⟨rfl, rfl⟩)
abbrev Qc0 (r : List Int) : ES := J9 tp Tryz.f94 (fun y t => y = (.sl false 1 (mU r)) ∧ t = [])
theorem Ix (K : Nat) {x0 : List Int} {flx0 : Bool} {r : List Int} (h : Jq K x0 = some r) : Zm tp 94 [.sl flx0 1 (mU x0)] [] (.sl false 1 (mU r)) := by
 refine Qt Tryz.func94 rfl (nb rfl) ?_
 show T tp 8 (ca [] Tryz.f94) ⟨Qw 0 [.sl flx0 1 (mU x0)], []⟩ (Qc0 r)
 unfold Jq at h
 refine T.seq (Qr ?_)
 refine aw rfl ?_
 refine TL'.nil (tN ?_)
 refine T.seq ?_
 refine T.seq (Qr ?_)
 refine mw rfl ?_
 refine sp rfl (Qih (xs := x0) (f := (cI .u8)) rfl (dk rfl) C8 rfl rfl (fun b c => ?_))
 refine TL'.nil (tN ?_)
 rcases Bool.eq_false_or_eq_true b with a | a
 have hx := c a
 replace h : (some []) = some r := by first | (rw [hx] at h; exact h) | exact h
 refine Qq rfl a ?_
 refine T.seq (Qr ?_)
 refine aw rfl ?_
 refine TL'.nil (tN ?_)
 refine T.ret (Qv ?_)
 refine X7 (So 2 false 1 rfl) ?_
 exact fd rfl (by cases h; exact ⟨rfl, rfl⟩)
 refine Qp rfl a ?_
 refine T.skip (tN ?_)
 refine T.seq (Qr ?_)
 refine sp rfl (OpT.buildSlice (elems := ([] : List Int).map (cI .u8)) rfl (dk rfl) C8 i5 (by decide) rfl (M1 rfl) rfl rfl rfl (Uf rfl) (by decide) ?_)
 refine mw rfl ?_
 obtain ⟨d, h⟩ := Zf h
 refine sp rfl (Rt (xs := ([] : List Int)) (ys := x0) (f := (cI .u8)) rfl (dk rfl) C8 i5 rfl rfl rfl (.inr rfl) d (fun g => ?_))
 refine aw rfl ?_
 refine TL'.nil (tN ?_)
 refine T.ret ?_
 refine X7 (Z6.view 2 0 rfl rfl) ?_
 exact fd rfl (by cases h; exact ⟨rfl, rfl⟩)
abbrev B2 (bx0 : Nat) (wx1 : Value) (x1 : List Int) (r : Qc) : ES := J9 tp Tryz.f56 (fun y t => ∃ γ : Nat → Value, y = (.tup []) ∧ t = [(Hm bx0 r.Auto.Split.Of r.Auto.Split.Many r.Auto.Counts r.Auto.States), .arrX wx1 3 1 0 (mI x1)])
abbrev T3 (bx0 : Nat) (wx1 : Value) (x1 : List Int) (r : Qc) : ES := thenS (fun s' => T tp 102 (ca [1,1] Tryz.f56) s' ((B2 bx0 wx1 x1 r))) ((B2 bx0 wx1 x1 r))
abbrev Jo (bx0 : Nat) (wx1 : Value) (x1 : List Int) (r : Qc) : ES := Qz 0 ((T3 bx0 wx1 x1 r))
abbrev Cq (bx0 : Nat) (wx1 : Value) (x1 : List Int) (r : Qc) : ES := thenS (fun s' => TL tp 102 (ca [1,0,1,0,0] Tryz.f56) s' ((Jo bx0 wx1 x1 r))) ((Jo bx0 wx1 x1 r))
abbrev I0 (bx0 : Nat) (wx1 : Value) (x1 : List Int) (r : Qc) : ES := thenS (fun s' => T tp 102 (ca [1,0,1,0,0,1,1,1] Tryz.f56) s' ((Cq bx0 wx1 x1 r))) ((Cq bx0 wx1 x1 r))
abbrev Gb (bx0 : Nat) (wx1 : Value) (x1 : List Int) (r : Qc) : ES := Qz 1 ((I0 bx0 wx1 x1 r))
abbrev D1 (bx0 : Nat) (wx1 : Value) (x1 : List Int) (r : Qc) : ES := thenS (fun s' => T tp 102 (ca [1,0,1,0,0,1,1,0,0,1,1,1] Tryz.f56) s' ((Gb bx0 wx1 x1 r))) ((Gb bx0 wx1 x1 r))
abbrev Yt (bx0 : Nat) (wx1 : Value) (x1 : List Int) (r : Qc) : ES := Qz 2 ((D1 bx0 wx1 x1 r))
abbrev W9 (bx0 : Nat) (wx1 : Value) (x1 : List Int) (r : Qc) : ES := thenS (fun s' => TL tp 102 (ca [1,0,1,0,0,1,1,0,0,1,1,0,1,0,0] Tryz.f56) s' ((Yt bx0 wx1 x1 r))) ((Yt bx0 wx1 x1 r))
abbrev Ml (bx0 : Nat) (wx1 : Value) (x1 : List Int) (r : Qc) : ES := thenS (fun s' => T tp 102 (ca [1,0,1,0,0,1,1,0,0,1,1,0,1,0,0,1,1,1] Tryz.f56) s' ((W9 bx0 wx1 x1 r))) ((W9 bx0 wx1 x1 r))
abbrev Gg (bx0 : Nat) (wx1 : Value) (x1 : List Int) (r : Qc) : ES := Qz 3 ((Ml bx0 wx1 x1 r))
abbrev Z7 (bx0 : Nat) (wx1 : Value) (x1 : List Int) (r : Qc) : ES := Qz 4 ((Gg bx0 wx1 x1 r))
abbrev Uo (bx0 : Nat) (wx1 : Value) (x1 : List Int) (r : Qc) : ES := thenS (fun s' => TL tp 102 (ca [1,0,1,0,0,1,1,0,0,1,1,0,1,0,0,1,1,0,0,1,1,0,0] Tryz.f56) s' ((Z7 bx0 wx1 x1 r))) ((Z7 bx0 wx1 x1 r))
abbrev Gf (bx0 : Nat) (wx1 : Value) (x1 : List Int) (r : Qc) : ES := thenS (fun s' => T tp 102 (ca [1,0,1,0,0,1,1,0,0,1,1,0,1,0,0,1,1,0,0,1,1,0,0,1,1,1] Tryz.f56) s' ((Uo bx0 wx1 x1 r))) ((Uo bx0 wx1 x1 r))
abbrev Z9 (bx0 : Nat) (wx1 : Value) (x1 : List Int) (r : Qc) : ES := Qz 5 ((Gf bx0 wx1 x1 r))
abbrev W8 (bx0 : Nat) (wx1 : Value) (x1 : List Int) (r : Qc) : ES := thenS (fun s' => T tp 102 (ca [1,0,1,0,0,1,1,0,0,1,1,0,1,0,0,1,1,0,0,1,1,0,0,1,1,0,0,1,1,1] Tryz.f56) s' ((Z9 bx0 wx1 x1 r))) ((Z9 bx0 wx1 x1 r))
abbrev Ed (bx0 : Nat) (wx1 : Value) (x1 : List Int) (r : Qc) (go : Int → Int → Qc → Int → Int → (List (List Qe)) → Int → Int → (List Qe) → Int → Int → (List Int) → (List Qa) → (List Int) → (List Int) → (List Int) → (List (List Qe)) → (List (List Qe)) → Option Qc) : Prop := ∀ (a b : Int) (x0 : Qc) (f g : Int) (i : List (List Qe)) (j l : Int) (m : List Qe) (n p : Int) (x1 : List Int) (q : List Qa) (s u v : List Int) (w y : List (List Qe)) (z : Value) (aa : Nat) (ab : Value), go a b x0 f g i j l m n p x1 q s u v w y = some r → TL tp 102 (ca [1,0,1,0,0,1,1,0,0,1,1,0,1,0,0,1,1,0,0,1,1,0,0] Tryz.f56) ⟨[(0, .ptr bx0 0), (1, .c (.ex wx1)), (4, .c (.ex z)), (5, .int .i64 a), (6, .ptr aa 0), (7, .c (.ex ab)), (8, .int .i64 b), (24, .sl false 4 (x0.Auto.States.map Qb)), (25, .int .i64 f), (26, .int .i64 g), (36, .sl false 1 (i.map (cL 2 Qf))), (37, .int .i64 j), (38, .int .i64 l), (43, .sl false 2 (m.map Qf)), (44, .int .i64 n), (45, .int .i64 p)], [(Hm bx0 x0.Auto.Split.Of x0.Auto.Split.Many x0.Auto.Counts x0.Auto.States), .arrX wx1 3 1 0 (mI x1), .arrX z 51 4 0 (q.map Qb), (Jz aa s u v w), .arrG ab 55 (gc 54 2 Qf y)]⟩ (Z7 bx0 wx1 x1 r)
theorem Ef {r : Qc} (K bx0 : Nat) (wx1 : Value) (x1 : List Int) (go2 : Int → Int → Qc → Int → Int → (List (List Qe)) → Int → Int → (List Qe) → Int → Int → (List Int) → (List Qa) → (List Int) → (List Int) → (List Int) → (List (List Qe)) → (List (List Qe)) → Option Qc) (hgo2 : Ed bx0 wx1 x1 r go2) (ac g : Int) (x0 : Qc) (ad af : Int) (ag : List (List Qe)) (ai aj : Int) (al : List Qe) (am an : Int) (x1 : List Int) (ap : List Qa) (aq au av : List Int) (ay p : List (List Qe)) (j : Int) (m : List Int) (v : Value) (aa : Nat) (b : Value) (ab : Nat) (h : Uj K go2 ac g x0 ad af ag ai aj al am an x1 ap aq au av ay p j m = some r) : T tp 102 (ca [1,0,1,0,0,1,1,0,0,1,1,0,1,0,0,1,1,0,0,1,1,0,0,1,1,0,0,1,1,1] Tryz.f56) ⟨[(0, .ptr bx0 0), (1, .c (.ex wx1)), (4, .c (.ex v)), (5, .int .i64 ac), (6, .ptr aa 0), (7, .c (.ex b)), (8, .int .i64 g), (12, .ptr ab 0), (24, .sl false 4 (x0.Auto.States.map Qb)), (25, .int .i64 ad), (26, .int .i64 af), (36, .sl false 1 (ag.map (cL 2 Qf))), (37, .int .i64 ai), (38, .int .i64 aj), (43, .sl false 2 (al.map Qf)), (44, .int .i64 am), (45, .int .i64 an)], [(Hm bx0 x0.Auto.Split.Of x0.Auto.Split.Many x0.Auto.Counts x0.Auto.States), .arrX wx1 3 1 0 (mI x1), .arrX v 51 4 0 (ap.map Qb), (Jz aa aq au av ay), .arrG b 55 (gc 54 2 Qf p), (Qft ab j m)]⟩ (Z9 bx0 wx1 x1 r) := by
 unfold Uj at h
 refine Qm Y4 ?_
 refine Qm Y4 ?_
 refine H1 ?_
 refine dC (c := ⟨some 70, .c (.ex b), [(7, .c (.ex b))], [], []⟩) (fun t hm => oF rfl rfl (OpT.move rfl (dk rfl) hm.s0 ⟨u0, rfl⟩)) (fun _ => rfl) (fun _ => rfl) ?_
 refine dC (c := ⟨some 71, .int .i64 g, [(8, .int .i64 g)], [], []⟩) (fun t hm => oF rfl rfl (OpT.move rfl (dk rfl) hm.s0 ⟨u0, rfl⟩)) (fun _ => rfl) (fun _ => rfl) ?_
 refine dC (c := ⟨some 72, .c (.ex b), [(7, .c (.ex b))], [], []⟩) (fun t hm => oF rfl rfl (OpT.move rfl (dk rfl) hm.s0 ⟨u0, rfl⟩)) (fun _ => rfl) (fun _ => rfl) ?_
 refine dC (c := ⟨some 73, .int .i64 g, [(8, .int .i64 g)], [], []⟩) (fun t hm => oF rfl rfl (OpT.move rfl (dk rfl) hm.s0 ⟨u0, rfl⟩)) (fun _ => rfl) (fun _ => rfl) ?_
 obtain ⟨q, az, h⟩ := bind_some h
 refine dC (c := ⟨some 74, .el b 1 (Int.toNat g) 0, [(72, .c (.ex b)), (73, .int .i64 g)], [(6, .arrG b 55 (gc 54 2 Qf p))], []⟩) (fun t hm => oF rfl rfl (Ts (n := 6) (l := p) (y := q) rfl (dk rfl) Fp i55 hm.s0 hm.o0 hm.s1 az ⟨u0, rfl⟩)) (fun _ => rfl) (fun _ => rfl) ?_
 refine DGG.step (c := fun a => ⟨some 75, .c (.ex ((a 5).1 0)), [(74, .el b 1 (Int.toNat g) 0)], [(6, .arrG b 55 (gc 54 2 Qf p)), (0, .ro 0 [])], [(6, .arrG b 55 (gh 54 2 Qf p (Int.toNat g) ((a 5).1 0))), (0, .arrA ((a 5).1 0) 54 2 (q.map Qf))]⟩) [5] (fun a γ' h => by simp only [h 5 (by decide)]) (fun a t hm => oF rfl rfl (Qgq (i := 6) (kk := 0) (l := p) (y := q) rfl (dk rfl) Fq rfl hm.s0 hm.o0 (Zu az).2 hm.o1 (fun w => ⟨(fun _ => w, 0), rfl⟩))) (fun a => Z3 rfl rfl) ?_
 refine dC (c := ⟨some 76, .agg [.int .i64 j, .sl false 1 (mU m)], [(12, .ptr ab 0)], [(7, (Qft ab j m))], []⟩) (fun t hm => oF rfl rfl (Uh (i := 7) (l := [.int .i64 j, .sl false 1 (mU m)]) rfl (dk rfl) Cp rfl i54 hm.s0 hm.o0 rfl rfl ⟨u0, rfl⟩)) (fun _ => rfl) (fun _ => rfl) ?_
 refine dC (c := ⟨some 77, .sl true 2 ([(Qe.mk j m)].map Qf), [(76, .agg [.int .i64 j, .sl false 1 (mU m)])], [], []⟩) (fun t hm => oF rfl rfl (OpT.buildSlice (elems := ([(Qe.mk j m)] : List Qe).map Qf) rfl (dk rfl) Fq i54 (by decide) rfl (M1 rfl) (Vn hm.s0 rfl Bt) rfl rfl (Uf rfl) (by decide) ⟨u0, rfl⟩)) (fun _ => rfl) (fun _ => rfl) ?_
 obtain ⟨a0, h⟩ := Zf h
 refine DGG.step (c := fun a => ⟨some 78, .c (.ex ((a 8).1 0)), [(77, .sl true 2 ([(Qe.mk j m)].map Qf)), (75, .c (.ex ((a 5).1 0)))], [(0, .arrA ((a 5).1 0) 54 2 (q.map Qf))], [(0, .arrA ((a 8).1 0) 54 2 ((q ++ [(Qe.mk j m)]).map Qf))]⟩) [5, 8] (fun a γ' h => by simp only [h 5 (by decide), h 8 (by decide)]) (fun a t hm => oF rfl rfl (Zy (i := 0) (xs := q) (ys := [(Qe.mk j m)]) (f := Qf) rfl (dk rfl) Fq i54 rfl hm.s1 hm.o0 hm.s0 a0 (fun w => ⟨(fun _ => w, 0), rfl⟩))) (fun a => Z3 rfl rfl) ?_
 refine DGG.step (c := fun a => ⟨some 79, .el b 1 (Int.toNat g) 0, [(70, .c (.ex b)), (71, .int .i64 g)], [(6, .arrG b 55 (gh 54 2 Qf p (Int.toNat g) ((a 5).1 0)))], []⟩) [5] (fun a γ' h => by simp only [h 5 (by decide)]) (fun a t hm => oF rfl rfl (Qet (n := 6) (l := p) (y := q) rfl (dk rfl) Fp i55 hm.s0 hm.o0 hm.s1 az ⟨u0, rfl⟩)) (fun a => Z3 rfl rfl) ?_
 refine DGG.step (c := fun a => ⟨none, .any, [(79, .el b 1 (Int.toNat g) 0), (78, .c (.ex ((a 8).1 0)))], [(6, .arrG b 55 (gh 54 2 Qf p (Int.toNat g) ((a 5).1 0))), (0, .arrA ((a 8).1 0) 54 2 ((q ++ [(Qe.mk j m)]).map Qf))], [(6, .arrG b 55 (gc 54 2 Qf (List.set p (Int.toNat g) (q ++ [(Qe.mk j m)])))), (0, .ro 0 [])]⟩) [5, 8] (fun a γ' h => by simp only [h 5 (by decide), h 8 (by decide)]) (fun a t hm => oF rfl rfl (Qes (i := 6) (kk := 0) (l := p) (old := q) (y' := (q ++ [(Qe.mk j m)])) rfl rfl i55 hm.s0 hm.s1 hm.o0 (Zu az).2 hm.o1 ⟨u0, rfl⟩)) (fun a => Z3 rfl rfl) ?_
 refine gF [0,0,0,0,12,28,0,64,252,511,1023] Q3 rfl (by kernel_rfl) (fun _ => by kernel_rfl) (fun a u hu => (Qn (tN (Qm hu ?_))))
 refine Qr ?_
 refine oI rfl ?_
 refine mw rfl ?_
 refine TL'.nil (tN ?_)
 refine Qh ?_ (hgo2 ac g x0 ad af ag ai aj al am (wI (an + (1:Int))) x1 ap aq au av ay (List.set p (Int.toNat g) (q ++ [(Qe.mk j m)])) v aa b h)
 exact tr rfl (.c (.s (.s .z)) (.c (.s (.s .z)) (.c (.s (.s .z)) (.c (.s (.s .z)) (.c (.s (.s .z)) (.n _))))))
theorem Ee {r : Qc} (K bx0 : Nat) (wx1 : Value) (x1 : List Int) (go2 : Int → Int → Qc → Int → Int → (List (List Qe)) → Int → Int → (List Qe) → Int → Int → (List Int) → (List Qa) → (List Int) → (List Int) → (List Int) → (List (List Qe)) → (List (List Qe)) → Option Qc) (hgo2 : Ed bx0 wx1 x1 r go2) (a b : Int) (x0 : Qc) (f g : Int) (i : List (List Qe)) (j l : Int) (m : List Qe) (p q : Int) (x1 : List Int) (s : List Qa) (u v w : List Int) (y aa : List (List Qe)) (ab : Value) (ac : Nat) (ad : Value) (af : Nat) (h : Ui K go2 a b x0 f g i j l m p q x1 s u v w y aa = some r) : T tp 102 (ca [1,0,1,0,0,1,1,0,0,1,1,0,1,0,0,1,1,0,0,1,1,0,0,1,1,0,0,1,1,0,1,1] Tryz.f56) ⟨[(0, .ptr bx0 0), (1, .c (.ex wx1)), (4, .c (.ex ab)), (5, .int .i64 a), (6, .ptr ac 0), (7, .c (.ex ad)), (8, .int .i64 b), (12, .ptr af 0), (24, .sl false 4 (x0.Auto.States.map Qb)), (25, .int .i64 f), (26, .int .i64 g), (36, .sl false 1 (i.map (cL 2 Qf))), (37, .int .i64 j), (38, .int .i64 l), (43, .sl false 2 (m.map Qf)), (44, .int .i64 p), (45, .int .i64 q)], [(Hm bx0 x0.Auto.Split.Of x0.Auto.Split.Many x0.Auto.Counts x0.Auto.States), .arrX wx1 3 1 0 (mI x1), .arrX ab 51 4 0 (s.map Qb), (Jz ac u v w y), .arrG ad 55 (gc 54 2 Qf aa), (Qft af (-1:Int) ([] : List Int))]⟩ (W8 bx0 wx1 x1 r) := by
 unfold Ui at h
 refine T.skip (tN ?_)
 refine Qm ?_ (Ef K bx0 wx1 x1 go2 hgo2 a b x0 f g i j l m p q x1 s u v w y aa (-1:Int) [] ab ac ad af h)
 exact tq rfl rfl
abbrev T6 (bx0 : Nat) (wx1 : Value) (x1 : List Int) (r : Qc) (go : Int → Qc → Int → Int → (List (List Qe)) → Int → Int → (List Int) → (List Qa) → (List Int) → (List Int) → (List Int) → (List (List Qe)) → (List (List Qe)) → Option Qc) : Prop := ∀ (a : Int) (x0 : Qc) (b f : Int) (g : List (List Qe)) (i j : Int) (x1 : List Int) (l : List Qa) (m n p : List Int) (q s : List (List Qe)) (u : Value) (v : Nat) (w : Value), go a x0 b f g i j x1 l m n p q s = some r → TL tp 102 (ca [1,0,1,0,0,1,1,0,0,1,1,0,1,0,0] Tryz.f56) ⟨[(0, .ptr bx0 0), (1, .c (.ex wx1)), (4, .c (.ex u)), (5, .int .i64 a), (6, .ptr v 0), (7, .c (.ex w)), (24, .sl false 4 (x0.Auto.States.map Qb)), (25, .int .i64 b), (26, .int .i64 f), (36, .sl false 1 (g.map (cL 2 Qf))), (37, .int .i64 i), (38, .int .i64 j)], [(Hm bx0 x0.Auto.Split.Of x0.Auto.Split.Many x0.Auto.Counts x0.Auto.States), .arrX wx1 3 1 0 (mI x1), .arrX u 51 4 0 (l.map Qb), (Jz v m n p q), .arrG w 55 (gc 54 2 Qf s)]⟩ (Yt bx0 wx1 x1 r)
theorem T4 {r : Qc} (K bx0 : Nat) (wx1 : Value) (x1 : List Int) (go1 : Int → Qc → Int → Int → (List (List Qe)) → Int → Int → (List Int) → (List Qa) → (List Int) → (List Int) → (List Int) → (List (List Qe)) → (List (List Qe)) → Option Qc) (hgo1 : T6 bx0 wx1 x1 r go1) : ∀ (k : Nat), ∀ (w aq : Int) (x0 : Qc) (y aa : Int) (ab : List (List Qe)) (ac ad : Int) (af : List Qe) (au av : Int) (x1 : List Int) (ag : List Qa) (ai aj al : List Int) (am an : List (List Qe)) (j : Value) (m : Nat) (p : Value), Z0 K go1 k w aq x0 y aa ab ac ad af au av x1 ag ai aj al am an = some r → TL tp 102 (ca [1,0,1,0,0,1,1,0,0,1,1,0,1,0,0,1,1,0,0,1,1,0,0] Tryz.f56) ⟨[(0, .ptr bx0 0), (1, .c (.ex wx1)), (4, .c (.ex j)), (5, .int .i64 w), (6, .ptr m 0), (7, .c (.ex p)), (8, .int .i64 aq), (24, .sl false 4 (x0.Auto.States.map Qb)), (25, .int .i64 y), (26, .int .i64 aa), (36, .sl false 1 (ab.map (cL 2 Qf))), (37, .int .i64 ac), (38, .int .i64 ad), (43, .sl false 2 (af.map Qf)), (44, .int .i64 au), (45, .int .i64 av)], [(Hm bx0 x0.Auto.Split.Of x0.Auto.Split.Many x0.Auto.Counts x0.Auto.States), .arrX wx1 3 1 0 (mI x1), .arrX j 51 4 0 (ag.map Qb), (Jz m ai aj al am), .arrG p 55 (gc 54 2 Qf an)]⟩ (Z7 bx0 wx1 x1 r) := by
 intro k
 induction k with
 | zero =>
  intro w aq x0 y aa ab ac ad af au av x1 ag ai aj al am an j m p h
  exact zn h
 | succ k ih =>
  intro w aq x0 y aa ab ac ad af au av x1 ag ai aj al am an j m p h
  rw [Z0] at h
  refine Q6 ?_
  refine T.seq (Qr ?_)
  refine oI rfl ?_
  refine TL'.nil (tN ?_)
  refine T.seq ?_
  rcases Qd h with ⟨a0, h⟩ | ⟨a0, h⟩
  refine Qq rfl a0 ?_
  refine T.skip (tN ?_)
  refine T.seq ?_
  refine T.block ?_
  refine T.seq (Qr ?_)
  obtain ⟨a, a2, h⟩ := bind_some h
  refine oX af Qf Fq i54 a2 rfl ?_
  refine sp rfl (Za rfl (dk rfl) Cp rfl i54 rfl (nb rfl) ?_)
  refine sp rfl (Zh rfl (dk rfl) i54 rfl (fun q => ?_))
  refine sp rfl (Qy (i := 0) (cells' := [.d (.int .i64 a.To), .d (.sl false 1 (mU a.Ops))]) rfl rfl i54 rfl rfl rfl rfl (nb rfl) rfl ?_)
  refine TL'.nil (tN (T.seq (Qr ?_)))
  refine sp rfl (Zq (OpT.build (l := [.int .i64 (-1:Int), .ex (.slice none 0 0)]) rfl (dk rfl) (Zv (pl := [(0, 1), (1, 1)]) Cp i54 rfl) (M1 rfl) rfl rfl rfl) (Ye 49 (l := [.int .i64 (-1:Int), .ex (.slice none 0 0)]) (l' := [.int .i64 (-1:Int), .sl false 1 (([] : List Int).map (cI .u8))]) (.cons (.same _) (.cons (.nil _ _) (.refl _)))) ?_)
  refine sp rfl (Zh rfl (dk rfl) i54 rfl (fun ay => ?_))
  refine sp rfl (Qy (i := 0) (cells' := [.d (.int .i64 (-1:Int)), .d (.sl false 1 (([] : List Int).map (cI .u8)))]) rfl rfl i54 rfl rfl rfl rfl (nb rfl) rfl ?_)
  refine TL'.nil (tN ?_)
  refine T.seq ?_
  refine T.seq (Qr ?_)
  refine oP Cp i3 rfl ?_
  refine oL 1 ul3 rfl ?_
  refine oI rfl ?_
  refine mw rfl ?_
  rcases Qd h with ⟨b, h⟩ | ⟨b, h⟩
  refine sn rfl b (OpT.move rfl (dk rfl) rfl ?_)
  refine sn rfl b (Zs rfl (dk rfl) Cp rfl i3 (by decide) rfl ?_)
  refine sn rfl b (Zn (i := 1) rfl (dk rfl) ul3 rfl rfl rfl rfl ?_)
  obtain ⟨g, az, h⟩ := bind_some h
  refine sn rfl b (Yb (n := 3) (xs := x1) (f := (cI .i64)) (old := g) rfl (dk rfl) Zx i3 rfl rfl rfl az ?_)
  refine sn rfl b (Hq (i := 3) (xs := x1) (f := (cI .i64)) (old := g) rfl (dk rfl) ul3 rfl rfl rfl (Zu az).2 rfl ?_)
  refine sn rfl b (Zj rfl rfl (dk rfl) rfl rfl ?_)
  refine oY b rfl ?_
  refine TL'.nil (tN ?_)
  rcases Qd h with ⟨a1, h⟩ | ⟨a1, h⟩
  refine Qq rfl a1 ?_
  refine Yk ?_
  refine dV rfl rfl ?_
  refine dP rfl (.f rfl) Cp i3 rfl ?_
  refine dL 1 rfl (.f rfl) ul3 rfl ?_
  refine dS (c := ⟨some 64, .el wx1 1 (Int.toNat a.To) 0, [(61, .c (.ex wx1)), (63, .int .i64 a.To)], [(3, .arrX wx1 3 1 0 (mI x1))], []⟩) (fun t hm => oF rfl rfl (Yb (n := 3) (xs := x1) (f := (cI .i64)) (old := g) rfl (dk rfl) Zx i3 hm.s0 hm.o0 hm.s1 az rfl)) rfl rfl ?_
  refine dS (c := ⟨some 65, .int .i64 g, [(64, .el wx1 1 (Int.toNat a.To) 0)], [(3, .arrX wx1 3 1 0 (mI x1))], []⟩) (fun t hm => oF rfl rfl (Hq (i := 3) (xs := x1) (f := (cI .i64)) (old := g) rfl (dk rfl) ul3 rfl hm.s0 hm.o0 (Zu az).2 rfl rfl)) rfl rfl ?_
  refine dP rfl (.f rfl) Cp i52 rfl ?_
  refine dL 1 rfl (.f rfl) C8 rfl ?_
  obtain ⟨ap, a3, h⟩ := bind_some h
  refine dS (c := ⟨some 68, .sl false 1 (mU ap), [(67, .sl false 1 (mU a.Ops))], [], []⟩) (fun t hm => oF rfl rfl (Q0 rfl (dk rfl) Tryz.func94 rfl rfl (Q5.cons hm.s0 Q5.nil) (Zm.nil (Ix K (flx0 := false) a3)) rfl)) rfl rfl ?_
  refine dS (c := ⟨some 69, .agg [.int .i64 g, .sl false 1 (mU ap)], [(65, .int .i64 g), (68, .sl false 1 (mU ap))], [], []⟩) (fun t hm => oF rfl rfl (OpT.build (l := [.int .i64 g, .sl false 1 (mU ap)]) rfl (dk rfl) (Zv (pl := [(0, 1), (1, 1)]) Cp i54 rfl) (M1 rfl) (Vn hm.s0 rfl (Vn hm.s1 rfl Bt)) rfl rfl)) rfl rfl ?_
  refine dS (c := ⟨none, .any, [(12, .ptr ay 0), (69, .agg [.int .i64 g, .sl false 1 (mU ap)])], [(0, (Qft ay (-1:Int) ([] : List Int)))], [(0, (Qft ay g ap))]⟩) (fun t hm => oF rfl rfl (Qy (i := 0) (cells' := [.d (.int .i64 g), .d (.sl false 1 (mU ap))]) rfl rfl i54 hm.s0 hm.s1 rfl hm.o0 (nb rfl) rfl rfl)) rfl rfl ?_
  refine dF [0,0,2,7,15,0,32,96,255,511] Q3 rfl (by kernel_rfl) (fun u hu => (tN (Qm hu ?_)))
  refine Qm ?_ (Ef K bx0 wx1 x1 (Z0 K go1 k) ih w aq x0 y aa ab ac ad af au av x1 ag ai aj al am an g ap j m p ay h)
  exact tr rfl (.c (.s (.s .z)) (.c (.s (.s .z)) (.c (.s (.s .z)) (.c (.s (.s .z)) (.c (.s (.s .z)) (.c .z (.n _)))))))
  refine Qp rfl a1 ?_
  refine Qm ?_ (Ee K bx0 wx1 x1 (Z0 K go1 k) ih w aq x0 y aa ab ac ad af au av x1 ag ai aj al am an j m p ay h)
  exact tr rfl (.c (.s (.s .z)) (.c (.s (.s .z)) (.c (.s (.s .z)) (.c (.s (.s .z)) (.c (.s (.s .z)) (.c .z (.n _)))))))
  refine pf rfl b ?_
  refine pf rfl b ?_
  refine pf rfl b ?_
  refine pf rfl b ?_
  refine pf rfl b ?_
  refine pf rfl b ?_
  refine oZ b rfl ?_
  refine TL'.nil (tN ?_)
  refine Qp rfl rfl ?_
  refine Qm ?_ (Ee K bx0 wx1 x1 (Z0 K go1 k) ih w aq x0 y aa ab ac ad af au av x1 ag ai aj al am an j m p ay h)
  exact tr rfl (.c (.s (.s .z)) (.c (.s (.s .z)) (.c (.s (.s .z)) (.c (.s (.s .z)) (.c (.s (.s .z)) (.c .z (.n _)))))))
  refine Qp rfl a0 ?_
  refine T.exit (Qj (Qj (Qs (Qn (tN ?_)))))
  refine Qr ?_
  refine oI rfl ?_
  refine mw rfl ?_
  refine TL'.nil (tN ?_)
  refine Qh ?_ (hgo1 w x0 y aa ab ac (wI (ad + (1:Int))) x1 ag ai aj al am an j m p h)
  exact tq rfl rfl
abbrev T8 (bx0 : Nat) (wx1 : Value) (x1 : List Int) (r : Qc) (go : Qc → Int → Int → (List Int) → (List Qa) → Option Qc) : Prop := ∀ (x0 : Qc) (a b : Int) (x1 : List Int) (f : List Qa) (g : Value), go x0 a b x1 f = some r → TL tp 102 (ca [1,0,1,0,0] Tryz.f56) ⟨[(0, .ptr bx0 0), (1, .c (.ex wx1)), (4, .c (.ex g)), (24, .sl false 4 (x0.Auto.States.map Qb)), (25, .int .i64 a), (26, .int .i64 b)], [(Hm bx0 x0.Auto.Split.Of x0.Auto.Split.Many x0.Auto.Counts x0.Auto.States), .arrX wx1 3 1 0 (mI x1), .arrX g 51 4 0 (f.map Qb)]⟩ (Jo bx0 wx1 x1 r)
theorem T5 {r : Qc} (K bx0 : Nat) (wx1 : Value) (x1 : List Int) (go0 : Qc → Int → Int → (List Int) → (List Qa) → Option Qc) (hgo0 : T8 bx0 wx1 x1 r go0) : ∀ (k : Nat), ∀ (m : Int) (x0 : Qc) (ac ad : Int) (af : List (List Qe)) (aj ag : Int) (x1 : List Int) (j : List Qa) (p q s : List Int) (w b : List (List Qe)) (g : Value) (a : Nat) (ai : Value), Yv K go0 k m x0 ac ad af aj ag x1 j p q s w b = some r → TL tp 102 (ca [1,0,1,0,0,1,1,0,0,1,1,0,1,0,0] Tryz.f56) ⟨[(0, .ptr bx0 0), (1, .c (.ex wx1)), (4, .c (.ex g)), (5, .int .i64 m), (6, .ptr a 0), (7, .c (.ex ai)), (24, .sl false 4 (x0.Auto.States.map Qb)), (25, .int .i64 ac), (26, .int .i64 ad), (36, .sl false 1 (af.map (cL 2 Qf))), (37, .int .i64 aj), (38, .int .i64 ag)], [(Hm bx0 x0.Auto.Split.Of x0.Auto.Split.Many x0.Auto.Counts x0.Auto.States), .arrX wx1 3 1 0 (mI x1), .arrX g 51 4 0 (j.map Qb), (Jz a p q s w), .arrG ai 55 (gc 54 2 Qf b)]⟩ (Yt bx0 wx1 x1 r) := by
 intro k
 induction k with
 | zero =>
  intro m x0 ac ad af aj ag x1 j p q s w b g a ai h
  exact zn h
 | succ k ih =>
  intro m x0 ac ad af aj ag x1 j p q s w b g a ai h
  rw [Yv] at h
  refine Q6 ?_
  refine T.seq (Qr ?_)
  refine oI rfl ?_
  refine TL'.nil (tN ?_)
  refine T.seq ?_
  rcases Qd h with ⟨am, h⟩ | ⟨am, h⟩
  refine Qq rfl am ?_
  refine T.skip (tN ?_)
  refine T.seq ?_
  refine T.block ?_
  refine T.seq (Qr ?_)
  refine mw rfl ?_
  obtain ⟨al, aq, h⟩ := bind_some h
  refine oX af (cL 2 Qf) Fp i55 aq rfl ?_
  refine oR Fq rfl ?_
  refine aw rfl ?_
  refine aw rfl ?_
  refine TL'.nil (tN (T.seq (Qr ?_)))
  refine mw rfl ?_
  refine oU al Qf Fq rfl ?_
  refine mw rfl ?_
  refine TL'.nil (tN ?_)
  refine T.block ?_
  refine T.loop ?_
  refine Qh ?_ (T4 K bx0 wx1 x1 (Yv K go0 k) ih K m ag x0 ac ad af aj ag al (al.length : Int) (0:Int) x1 j p q s w b g a ai h)
  exact tq rfl rfl
  refine Qp rfl am ?_
  refine T.exit (Qj (Qj (Qs (tN ?_))))
  refine Qm (Z6.dataG (l := b) 4 rfl) ?_
  refine Qm (Ko 4 rfl) ?_
  refine Qm (Z6.view 7 4 rfl rfl) ?_
  refine Yk ?_
  refine dV rfl rfl ?_
  refine dV rfl rfl ?_
  refine dP rfl (.f rfl) Wi i38 rfl ?_
  refine dL 3 rfl (.f rfl) Zx rfl ?_
  obtain ⟨y, au, h⟩ := bind_some h
  refine dS (c := ⟨some 86, .sl false 1 (mI y), [(85, .sl false 1 (mI p))], [], []⟩) (fun t hm => oF rfl rfl (Q0 rfl (dk rfl) Tryz.func95 rfl rfl (Q5.cons hm.s0 Q5.nil) (Zm.nil (Jr K (flx0 := false) au)) rfl)) rfl rfl ?_
  refine dP rfl (.f rfl) Wi i38 rfl ?_
  refine dL 3 rfl (.f rfl) Zx rfl ?_
  obtain ⟨aa, av, h⟩ := bind_some h
  refine dS (c := ⟨some 89, .sl false 1 (mI aa), [(88, .sl false 1 (mI q))], [], []⟩) (fun t hm => oF rfl rfl (Q0 rfl (dk rfl) Tryz.func95 rfl rfl (Q5.cons hm.s0 Q5.nil) (Zm.nil (Jr K (flx0 := false) av)) rfl)) rfl rfl ?_
  refine dP rfl (.f rfl) Wi i38 rfl ?_
  refine dL 3 rfl (.f rfl) Zx rfl ?_
  obtain ⟨ab, ay, h⟩ := bind_some h
  refine dS (c := ⟨some 92, .sl false 1 (mI ab), [(91, .sl false 1 (mI s))], [], []⟩) (fun t hm => oF rfl rfl (Q0 rfl (dk rfl) Tryz.func95 rfl rfl (Q5.cons hm.s0 Q5.nil) (Zm.nil (Jr K (flx0 := false) ay)) rfl)) rfl rfl ?_
  refine dV rfl rfl ?_
  refine dS (c := ⟨some 94, .agg [.sl false 1 (mI y), .sl false 1 (mI aa), .sl false 1 (mI ab), .sl false 1 (b.map (cL 2 Qf))], [(86, .sl false 1 (mI y)), (89, .sl false 1 (mI aa)), (92, .sl false 1 (mI ab)), (93, .sl false 1 (b.map (cL 2 Qf)))], [], []⟩) (fun t hm => oF rfl rfl (OpT.build (l := [.sl false 1 (mI y), .sl false 1 (mI aa), .sl false 1 (mI ab), .sl false 1 (b.map (cL 2 Qf))]) rfl (dk rfl) (Zv (pl := [(0, 1), (1, 1), (2, 1), (3, 1)]) Wi i51 rfl) (M1 rfl) (Vn hm.s0 rfl (Vn hm.s1 rfl (Vn hm.s2 rfl (Vn hm.s3 rfl Bt)))) rfl rfl)) rfl rfl ?_
  obtain ⟨an, ap, h⟩ := bind_some h
  refine dS (c := ⟨some 95, .el g 4 (Int.toNat m) 0, [(82, .c (.ex g)), (83, .int .i64 m)], [(2, .arrX g 51 4 0 (j.map Qb))], []⟩) (fun t hm => oF rfl rfl (Yb (n := 2) (xs := j) (f := Qb) (old := an) rfl (dk rfl) Us i51 hm.s0 hm.o0 hm.s1 ap rfl)) rfl rfl ?_
  refine dS (c := ⟨none, .any, [(95, .el g 4 (Int.toNat m) 0), (94, .agg [.sl false 1 (mI y), .sl false 1 (mI aa), .sl false 1 (mI ab), .sl false 1 (b.map (cL 2 Qf))])], [(2, .arrX g 51 4 0 (j.map Qb))], [(2, .arrX g 51 4 0 ((List.set j (Int.toNat m) (Qa.mk y aa ab b)).map Qb))]⟩) (fun t hm => oF rfl rfl (Qde (i := 2) (xs := j) (f := Qb) (old := an) (new := (Qa.mk y aa ab b)) rfl rfl i51 hm.s0 hm.s1 rfl hm.o0 (Zu ap).2 (Nat.zero_le _) (nb rfl) rfl rfl)) rfl rfl ?_
  refine dF [0,0,0,4,12,0,32,124,0,256,1020,0,4092,8191,16383] Q3 rfl (by kernel_rfl) (fun u hu => (Qn (tN (Qm hu ?_))))
  refine Qr ?_
  refine oI rfl ?_
  refine mw rfl ?_
  refine TL'.nil (tN ?_)
  refine Qh ?_ (hgo0 x0 ac (wI (ad + (1:Int))) x1 (List.set j (Int.toNat m) (Qa.mk y aa ab b)) g h)
  exact tq rfl rfl
theorem T7 {r : Qc} (K bx0 : Nat) (wx1 : Value) (x1 : List Int) : ∀ (k : Nat), ∀ (x0 : Qc) (m g : Int) (x1 : List Int) (j : List Qa) (b : Value), Yw K k x0 m g x1 j = some r → TL tp 102 (ca [1,0,1,0,0] Tryz.f56) ⟨[(0, .ptr bx0 0), (1, .c (.ex wx1)), (4, .c (.ex b)), (24, .sl false 4 (x0.Auto.States.map Qb)), (25, .int .i64 m), (26, .int .i64 g)], [(Hm bx0 x0.Auto.Split.Of x0.Auto.Split.Many x0.Auto.Counts x0.Auto.States), .arrX wx1 3 1 0 (mI x1), .arrX b 51 4 0 (j.map Qb)]⟩ (Jo bx0 wx1 x1 r) := by
 intro k
 induction k with
 | zero =>
  intro x0 m g x1 j b h
  exact zn h
 | succ k ih =>
  intro x0 m g x1 j b h
  rw [Yw] at h
  refine Q6 ?_
  refine T.seq (Qr ?_)
  refine oI rfl ?_
  refine TL'.nil (tN ?_)
  refine T.seq ?_
  rcases Qd h with ⟨p, h⟩ | ⟨p, h⟩
  refine Qq rfl p ?_
  refine T.skip (tN ?_)
  refine T.seq ?_
  refine T.block ?_
  refine T.seq (Qr ?_)
  refine mw rfl ?_
  obtain ⟨a, q, h⟩ := bind_some h
  refine oX x0.Auto.States Qb Us i51 q rfl ?_
  refine sp rfl (Za rfl (dk rfl) Wi rfl i51 rfl (nb rfl) ?_)
  refine sp rfl (Zh rfl (dk rfl) i51 rfl (fun u => ?_))
  refine aw rfl ?_
  refine sp rfl (Qy (i := 0) (cells' := [.d (.sl false 1 (mI a.L)), .d (.sl false 1 (mI a.R)), .d (.sl false 1 (mI a.Rule)), .d (.sl false 1 (a.Next.map (cL 2 Qf)))]) rfl rfl i51 rfl rfl rfl rfl (nb rfl) rfl ?_)
  refine TL'.nil (tN (T.seq (Qr ?_)))
  refine oP Wi i49 rfl ?_
  refine oL 0 Fp rfl ?_
  refine oU a.Next (cL 2 Qf) Fp rfl ?_
  obtain ⟨w, h⟩ := Zf h
  obtain ⟨y, h⟩ := Zf h
  refine sp rfl (Rs (e1 := 54) (esz := 2) (f := Qf) rfl (dk rfl) Fp i55 rfl rfl w y (fun aa => ?_))
  refine aw rfl ?_
  refine TL'.nil (tN ?_)
  refine T.seq ?_
  refine T.seq (Qr ?_)
  refine oP Wi i49 rfl ?_
  refine oL 1 Fp rfl ?_
  refine oU a.Next (cL 2 Qf) Fp rfl ?_
  refine mw rfl ?_
  refine TL'.nil (tN ?_)
  refine T.block ?_
  refine T.loop ?_
  refine Qh ?_ (T5 K bx0 wx1 x1 (Yw K k) ih K g x0 m g a.Next (a.Next.length : Int) (0:Int) x1 j a.L a.R a.Rule a.Next (List.replicate (Int.toNat (a.Next.length : Int)) ([] : List Qe)) b u aa h)
  exact tr rfl (.c (.s (.s .z)) (.c (.s (.s .z)) (.c (.s (.s .z)) (.c (.s .z) (.c .z (.n _))))))
  refine Qp rfl p ?_
  refine T.exit (Qj (Qj (Qs (tN ?_))))
  refine Qr ?_
  refine mw rfl ?_
  refine mw rfl ?_
  refine oK rfl ?_
  refine oP ul69 i28 rfl ?_
  refine oP Uv i26 rfl ?_
  refine sp rfl (W2 (i := 0) (cells' := ((Zi.oc 256 .u8 x0.Auto.Split.Of) ++ (([.d (.int .i64 x0.Auto.Split.Many), .d (.sl false 2 (mA x0.Auto.Counts)), .d (.ex b)]:List OC)))) rfl rfl i26 rfl rfl rfl (nb rfl) rfl ?_)
  refine TL'.nil ?_
  refine X7 (Ko 2 rfl) ?_
  refine X7 (Lq 0 (l := ((Zi.dc 256 .u8 x0.Auto.Split.Of) ++ (([.int .i64 x0.Auto.Split.Many, .sl false 2 (mA x0.Auto.Counts), .ex b] : List DC)))) (l' := ((Zi.dc 256 .u8 x0.Auto.Split.Of) ++ (([.int .i64 x0.Auto.Split.Many, .sl false 2 (mA x0.Auto.Counts), .sl false 4 (j.map Qb)] : List DC)))) rfl (.app _ (.cons (.same _) (.cons (.same _) (.cons (.view 2 rfl) (.refl _)))))) ?_
  exact Q7 (.nil) (.cons 0 rfl (.cons 0 rfl (.nil _))) (by cases h; exact ⟨gl [], rfl, rfl⟩)
theorem Np (K : Nat) {x0 : Qc} {x1 : List Int} {bx0 : Nat} {wx1 : Value} {r : Qc} (h : V2 K x0 x1 = some r) : U7 tp 56 [.ptr bx0 0, .c (.ex wx1)] [(Hm bx0 x0.Auto.Split.Of x0.Auto.Split.Many x0.Auto.Counts x0.Auto.States), .arrX wx1 3 1 0 (mI x1)] (fun γ => (.tup [])) (fun γ => [(Hm bx0 r.Auto.Split.Of r.Auto.Split.Many r.Auto.Counts r.Auto.States), .arrX wx1 3 1 0 (mI x1)]) := by
 refine Qt Tryz.func56 rfl (nb rfl) ?_
 show T tp 102 (ca [] Tryz.f56) ⟨Qw 0 [.ptr bx0 0, .c (.ex wx1)], [(Hm bx0 x0.Auto.Split.Of x0.Auto.Split.Many x0.Auto.Counts x0.Auto.States), .arrX wx1 3 1 0 (mI x1)]⟩ (B2 bx0 wx1 x1 r)
 unfold V2 at h
 refine T.seq (Qr ?_)
 refine mw rfl ?_
 refine oK rfl ?_
 refine oP ul69 i28 rfl ?_
 refine oP Uv i26 rfl ?_
 refine oL 0 Us rfl ?_
 refine oU x0.Auto.States Qb Us rfl ?_
 obtain ⟨a, h⟩ := Zf h
 obtain ⟨b, h⟩ := Zf h
 refine sp rfl (Qdf (f := Qb) (zv := ((Qa.mk [] [] [] []) : Qa)) rfl (dk rfl) Us i51 (by decide) rfl rfl (fun _ => .cons (.nil _ _) (.cons (.nil _ _) (.cons (.nil _ _) (.cons (.nil _ _) (.refl _))))) rfl rfl rfl a b (fun g => ?_))
 refine aw rfl ?_
 refine TL'.nil (tN ?_)
 refine T.seq ?_
 refine T.seq (Qr ?_)
 refine mw rfl ?_
 refine oK rfl ?_
 refine oP ul69 i28 rfl ?_
 refine oP Uv i26 rfl ?_
 refine oL 1 Us rfl ?_
 refine oU x0.Auto.States Qb Us rfl ?_
 refine mw rfl ?_
 refine TL'.nil (tN ?_)
 refine T.block ?_
 refine T.loop ?_
 refine Qh ?_ (T7 K bx0 wx1 x1 K x0 (x0.Auto.States.length : Int) (0:Int) x1 (List.replicate (Int.toNat (x0.Auto.States.length : Int)) ((Qa.mk [] [] [] []) : Qa)) g h)
 exact tr rfl (.c (.s .z) (.c (.s .z) (.c .z (.n _))))
abbrev B6 (bx0 : Nat) (r : Qc) : ES := J9 tp Tryz.f26 (fun y t => ∃ γ : Nat → Value, y = (.tup []) ∧ t = [(Hm bx0 r.Auto.Split.Of r.Auto.Split.Many r.Auto.Counts r.Auto.States)])
abbrev Qag (bx0 : Nat) (r : Qc) : ES := thenS (fun s' => T tp 36 (ca [1,1] Tryz.f26) s' ((B6 bx0 r))) ((B6 bx0 r))
abbrev Rx (bx0 : Nat) (r : Qc) : ES := Qz 0 ((Qag bx0 r))
theorem Qah {r : Qc} (K bx0 : Nat) : ∀ (k : Nat), ∀ (g : List Bool) (l a : Int) (x0 : Qc) (b : List Int) (j : Value), Xc K k g l a x0 b = some r → TL tp 36 (ca [1,0,1,0,0] Tryz.f26) ⟨[(0, .ptr bx0 0), (2, .c (.ex j)), (16, .sl false 1 (g.map cB)), (17, .int .i64 l), (18, .int .i64 a)], [(Hm bx0 x0.Auto.Split.Of x0.Auto.Split.Many x0.Auto.Counts x0.Auto.States), .arrX j 3 1 0 (mI b)]⟩ (Rx bx0 r) := by
 intro k
 induction k with
 | zero =>
  intro g l a x0 b j h
  exact zn h
 | succ k ih =>
  intro g l a x0 b j h
  rw [Xc] at h
  refine Q6 ?_
  refine T.seq (Qr ?_)
  refine oI rfl ?_
  refine TL'.nil (tN ?_)
  refine T.seq ?_
  rcases Qd h with ⟨m, h⟩ | ⟨m, h⟩
  refine Qq rfl m ?_
  refine T.skip (tN ?_)
  refine T.seq ?_
  refine T.block ?_
  refine T.seq (Qr ?_)
  refine mw rfl ?_
  obtain ⟨y, aa, h⟩ := bind_some h
  refine oX g cB ul33 i4 aa rfl ?_
  refine oR ul4 rfl ?_
  refine aw rfl ?_
  refine aw rfl ?_
  refine TL'.nil (tN (T.seq (Qr ?_)))
  iterate 3 refine mw rfl ?_
  obtain ⟨q, s, h⟩ := bind_some h
  refine sp rfl (Yb (n := 1) (xs := b) (f := (cI .i64)) (old := q) rfl (dk rfl) Zx i3 rfl rfl rfl s ?_)
  refine sp rfl (H8 (i := 1) (xs := b) (f := (cI .i64)) (old := q) (new := a) rfl rfl i3 rfl rfl rfl (Zu s).2 (Nat.zero_le _) (nb rfl) rfl ?_)
  refine TL'.nil (tN (T.seq (Qr ?_)))
  refine mw rfl ?_
  refine oT rfl ?_
  refine TL'.nil (tN ?_)
  rcases Qd h with ⟨p, h⟩ | ⟨p, h⟩
  refine Qq rfl p ?_
  refine Qr ?_
  refine mw rfl ?_
  refine mw rfl ?_
  obtain ⟨u, w, h⟩ := bind_some h
  refine sp rfl (Yb (n := 1) (xs := (List.set b (Int.toNat a) a)) (f := (cI .i64)) (old := u) rfl (dk rfl) Zx i3 rfl rfl rfl w ?_)
  refine sp rfl (H8 (i := 1) (xs := (List.set b (Int.toNat a) a)) (f := (cI .i64)) (old := u) (new := (-1:Int)) rfl rfl i3 rfl rfl rfl (Zu w).2 (Nat.zero_le _) (nb rfl) rfl ?_)
  refine TL'.nil (Qn (tN ?_))
  refine Qr ?_
  refine oI rfl ?_
  refine mw rfl ?_
  refine TL'.nil (tN ?_)
  refine Qh ?_ (ih g l (wI (a + (1:Int))) x0 (List.set (List.set b (Int.toNat a) a) (Int.toNat a) (-1:Int)) j h)
  exact tq rfl rfl
  refine Qp rfl p ?_
  refine T.skip (Qn (tN ?_))
  refine Qr ?_
  refine oI rfl ?_
  refine mw rfl ?_
  refine TL'.nil (tN ?_)
  refine Qh ?_ (ih g l (wI (a + (1:Int))) x0 (List.set b (Int.toNat a) a) j h)
  exact tq rfl rfl
  refine Qp rfl m ?_
  refine T.exit (Qj (Qj (Qs (tN ?_))))
  refine Qr ?_
  refine mw rfl ?_
  refine mw rfl ?_
  obtain ⟨ac, ab, h⟩ := bind_some h
  refine sp rfl (Q8 (is := [0, 1]) (ph := []) rfl (dk rfl) Tryz.func56 rfl rfl (Q5.cons rfl (Q5.cons rfl Q5.nil)) (Np K (bx0 := bx0) (wx1 := j) ab) (.cons rfl rfl (.cons rfl rfl (.nil))) (fun _ => rfl) (fun ad => ?_))
  refine nm (.c (.c (.n))) ?_
  refine TL'.nil ?_
  exact Q7 (.nil) (.cons 0 rfl (.nil _)) (by cases h; exact ⟨gl [], rfl, rfl⟩)
theorem Qdj (K : Nat) {x0 : Qc} {bx0 : Nat} {r : Qc} (h : Gz K x0 = some r) : U7 tp 26 [.ptr bx0 0] [(Hm bx0 x0.Auto.Split.Of x0.Auto.Split.Many x0.Auto.Counts x0.Auto.States)] (fun γ => (.tup [])) (fun γ => [(Hm bx0 r.Auto.Split.Of r.Auto.Split.Many r.Auto.Counts r.Auto.States)]) := by
 refine Qt Tryz.func26 rfl (nb rfl) ?_
 show T tp 36 (ca [] Tryz.f26) ⟨Qw 0 [.ptr bx0 0], [(Hm bx0 x0.Auto.Split.Of x0.Auto.Split.Many x0.Auto.Counts x0.Auto.States)]⟩ (B6 bx0 r)
 unfold Gz at h
 refine T.seq (Qr ?_)
 refine mw rfl ?_
 refine oK rfl ?_
 refine oP ul69 i28 rfl ?_
 refine oP Uv i26 rfl ?_
 refine oL 0 Us rfl ?_
 refine oU x0.Auto.States Qb Us rfl ?_
 obtain ⟨b, h⟩ := Zf h
 obtain ⟨g, h⟩ := Zf h
 refine sp rfl (Kp (f := (cI .i64)) (zv := ((0:Int) : Int)) rfl (dk rfl) Zx i3 (by decide) rfl rfl rfl rfl rfl b g (fun j => ?_))
 refine aw rfl ?_
 refine TL'.nil (tN ?_)
 refine T.seq ?_
 refine T.seq (Qr ?_)
 refine mw rfl ?_
 refine oK rfl ?_
 refine oP ul69 i28 rfl ?_
 refine oA 1 ((Zi.dc 256 .u8 x0.Auto.Split.Of) ++ (([.int .i64 x0.Auto.Split.Many, .sl false 2 (mA x0.Auto.Counts), .sl false 4 (x0.Auto.States.map Qb)] : List DC))) Uv i28 rfl ?_
 obtain ⟨a, m, h⟩ := bind_some h
 refine sp rfl (Q0 rfl (dk rfl) Tryz.func12 rfl rfl (Q5.cons rfl Q5.nil) (Zm.nil (Qdn K m)) ?_)
 refine oU a cB ul33 rfl ?_
 refine mw rfl ?_
 refine TL'.nil (tN ?_)
 refine T.block ?_
 refine T.loop ?_
 refine Qh ?_ (Qah K bx0 K a (a.length : Int) (0:Int) x0 (List.replicate (Int.toNat (x0.Auto.States.length : Int)) ((0:Int) : Int)) j h)
 exact tr rfl (.c (.s .z) (.c .z (.n _)))
abbrev bits_Mul64_q (r : Int × Int) : ES := J9 tp Tryz.f120 (fun y t => y = (.tup [.int .u64 r.1, .int .u64 r.2]) ∧ t = [])
theorem bits_Mul64_T (K : Nat) {x0 x1 : Int} {r : Int × Int} (h : Qgk K x0 x1 = some r) : Zm tp 120 [.int .u64 x0, .int .u64 x1] [] (.tup [.int .u64 r.1, .int .u64 r.2]) := by
 refine Qt Tryz.func120 rfl (nb rfl) ?_
 show T tp 51 (ca [] Tryz.f120) ⟨Qw 0 [.int .u64 x0, .int .u64 x1], []⟩ (bits_Mul64_q r)
 unfold Qgk at h
 refine T.seq (Qr ?_)
 refine aw rfl ?_
 refine aw rfl ?_
 refine TL'.nil (tN (T.seq (Qr ?_)))
 refine mw rfl ?_
 refine oI rfl ?_
 refine aw rfl ?_
 refine TL'.nil (tN (T.seq (Qr ?_)))
 refine mw rfl ?_
 refine sp rfl (OpT.shr rfl (dk rfl) rfl rfl (by decide) ?_)
 refine aw rfl ?_
 refine TL'.nil (tN (T.seq (Qr ?_)))
 refine mw rfl ?_
 refine oI rfl ?_
 refine aw rfl ?_
 refine TL'.nil (tN (T.seq (Qr ?_)))
 refine mw rfl ?_
 refine sp rfl (OpT.shr rfl (dk rfl) rfl rfl (by decide) ?_)
 refine aw rfl ?_
 refine TL'.nil (tN (T.seq (Qr ?_)))
 refine mw rfl ?_
 refine mw rfl ?_
 refine oI rfl ?_
 refine aw rfl ?_
 refine TL'.nil (tN (T.seq (Qr ?_)))
 refine mw rfl ?_
 refine mw rfl ?_
 refine oI rfl ?_
 refine mw rfl ?_
 refine sp rfl (OpT.shr rfl (dk rfl) rfl rfl (by decide) ?_)
 refine oI rfl ?_
 refine aw rfl ?_
 refine TL'.nil (tN (T.seq (Qr ?_)))
 refine mw rfl ?_
 refine oI rfl ?_
 refine aw rfl ?_
 refine TL'.nil (tN (T.seq (Qr ?_)))
 refine mw rfl ?_
 refine sp rfl (OpT.shr rfl (dk rfl) rfl rfl (by decide) ?_)
 refine aw rfl ?_
 refine TL'.nil (tN (T.seq (Qr ?_)))
 iterate 3 refine mw rfl ?_
 refine oI rfl ?_
 refine oI rfl ?_
 refine aw rfl ?_
 refine TL'.nil (tN (T.seq (Qr ?_)))
 refine mw rfl ?_
 refine mw rfl ?_
 refine oI rfl ?_
 refine mw rfl ?_
 refine oI rfl ?_
 refine mw rfl ?_
 refine sp rfl (OpT.shr rfl (dk rfl) rfl rfl (by decide) ?_)
 refine oI rfl ?_
 refine aw rfl ?_
 refine TL'.nil (tN (T.seq (Qr ?_)))
 refine mw rfl ?_
 refine mw rfl ?_
 refine oI rfl ?_
 refine aw rfl ?_
 refine TL'.nil (tN ?_)
 refine T.ret ?_
 exact Fin.done (.cons _ _ _ _ (.tmp 4 _ rfl) (.cons _ _ _ _ (.tmp 5 _ rfl) .nil)) (by cases h; exact ⟨rfl, rfl⟩)
abbrev bits_Mul_q (r : Int × Int) : ES := J9 tp Tryz.f96 (fun y t => y = (.tup [.int .u64 r.1, .int .u64 r.2]) ∧ t = [])
theorem bits_Mul_T (K : Nat) {x0 x1 : Int} {r : Int × Int} (h : Qfs K x0 x1 = some r) : Zm tp 96 [.int .u64 x0, .int .u64 x1] [] (.tup [.int .u64 r.1, .int .u64 r.2]) := by
 refine Qt Tryz.func96 rfl (nb rfl) ?_
 show T tp 30 (ca [] Tryz.f96) ⟨Qw 0 [.int .u64 x0, .int .u64 x1], []⟩ (bits_Mul_q r)
 unfold Qfs at h
 refine T.seq (Qr ?_)
 refine aw rfl ?_
 refine aw rfl ?_
 refine TL'.nil (tN ?_)
 refine T.seq ?_
 refine Qp rfl rfl ?_
 refine T.skip (tN ?_)
 refine T.seq (Qr ?_)
 refine mw rfl ?_
 refine mw rfl ?_
 obtain ⟨b, a, h⟩ := bind_some h
 refine sp rfl (Q0 rfl (dk rfl) Tryz.func120 rfl rfl (Q5.cons rfl (Q5.cons rfl Q5.nil)) (Zm.nil (bits_Mul64_T K a)) ?_)
 refine mw rfl ?_
 refine oE rfl ?_
 refine oE rfl ?_
 refine aw rfl ?_
 refine aw rfl ?_
 refine TL'.nil (tN (T.seq (Qr ?_)))
 refine mw rfl ?_
 refine mw rfl ?_
 refine aw rfl ?_
 refine aw rfl ?_
 refine TL'.nil (tN ?_)
 refine T.ret ?_
 exact Fin.done (.cons _ _ _ _ (.tmp 4 _ rfl) (.cons _ _ _ _ (.tmp 5 _ rfl) .nil)) (by cases h; exact ⟨rfl, rfl⟩)
abbrev Wp (r : List Int) : ES := J9 tp Tryz.f57 (fun y t => ∃ γ : Nat → Value, y = (.c (.ex (γ 0))) ∧ t = [.arrX (γ 0) 3 1 0 (mI r)])
abbrev R0 (r : List Int) : ES := thenS (fun s' => T tp 48 (ca [1,1,1,1] Tryz.f57) s' ((Wp r))) ((Wp r))
abbrev Nv (r : List Int) : ES := thenS (fun s' => T tp 48 (ca [1,1,1,1,1,1,1] Tryz.f57) s' ((Wp r))) ((Wp r))
abbrev Fx (r : List Int) : ES := Qz 0 ((Nv r))
theorem Eh {r : List Int} (K : Nat) (x0 : List Int) (a : Int) (flx0 : Bool) (h : Gk K x0 a = some r) : T tp 48 (ca [1,1,1,0,1,0] Tryz.f57) ⟨[(0, .sl flx0 1 (mI x0)), (6, .int .u64 a)], []⟩ (R0 r) := by
 unfold Gk at h
 refine Qr ?_
 cases h
theorem Qai {r : List Int} (K : Nat) : ∀ (k : Nat), ∀ (a : Int) (b : List Int) (d : Value), Ul K k a b = some r → TL tp 48 (ca [1,1,1,1,1,1,0,0,0] Tryz.f57) ⟨[(7, .c (.ex d)), (8, .int .i64 a)], [.arrX d 3 1 0 (mI b)]⟩ (Fx r) := by
 intro k
 induction k with
 | zero =>
  intro a b d h
  exact zn h
 | succ k ih =>
  intro a b d h
  rw [Ul] at h
  refine Q6 ?_
  refine T.seq ?_
  refine T.seq (Qr ?_)
  refine mw rfl ?_
  refine mw rfl ?_
  refine sp rfl (H0 (i := 0) (xs := b) (f := (cI .i64)) rfl (dk rfl) Zx rfl rfl ?_)
  refine oI rfl ?_
  refine TL'.nil (tN ?_)
  rcases Qd h with ⟨j, h⟩ | ⟨j, h⟩
  refine Qq rfl j ?_
  refine T.skip (tN ?_)
  refine T.block ?_
  refine Yk ?_
  refine dV rfl rfl ?_
  refine dV rfl rfl ?_
  refine dV rfl rfl ?_
  obtain ⟨g, h⟩ := Zf h
  refine dS (c := ⟨some 41, .sub d 1 (Int.toNat a), [(39, .c (.ex d)), (40, .int .i64 a)], [(0, .arrX d 3 1 0 (mI b))], []⟩) (fun t hm => oF rfl rfl (OpT.sliceSub (i := 0) (xs := b) (f := (cI .i64)) (l := (Int.toNat a)) rfl (dk rfl) Zx i3 hm.s0 hm.o0 (.some _ _ _ _ hm.s1 g.1) g.2 rfl)) rfl rfl ?_
  refine dV rfl rfl ?_
  refine dV rfl rfl ?_
  refine dS (c := ⟨some 44, .pre d (Int.toNat a), [(42, .c (.ex d)), (43, .int .i64 a)], [(0, .arrX d 3 1 0 (mI b))], []⟩) (fun t hm => oF rfl rfl (OpT.slicePre (i := 0) (xs := b) (f := (cI .i64)) (h := (Int.toNat a)) rfl (dk rfl) Zx i3 hm.s0 hm.o0 (.some _ _ _ _ hm.s1 g.1) g.2 rfl)) rfl rfl ?_
  obtain ⟨m, h⟩ := Zf h
  refine dS (c := ⟨some 45, .int .i64 (((min (Int.toNat a) (b.length - (Int.toNat a))) : Nat) : Int), [(41, .sub d 1 (Int.toNat a)), (44, .pre d (Int.toNat a))], [(0, .arrX d 3 1 0 (mI b))], [(0, .arrX d 3 1 0 ((b.take (Int.toNat a) ++ b.take (min (Int.toNat a) (b.length - (Int.toNat a))) ++ b.drop ((Int.toNat a) + (min (Int.toNat a) (b.length - (Int.toNat a))))).map (cI .i64)))]⟩) (fun t hm => oF rfl rfl (OpT.copySelf (i := 0) (k := .i64) (xs := b) (l := (Int.toNat a)) (h := (Int.toNat a)) rfl (dk rfl) Zx i3 hm.s0 hm.o0 hm.s1 m.1 m.2 rfl)) rfl rfl ?_
  refine dI rfl (.f rfl) rfl ?_
  refine dS (c := ⟨some 8, .int .i64 (wI (a + (((min (Int.toNat a) (b.length - (Int.toNat a))) : Nat) : Int))), [(46, .int .i64 (wI (a + (((min (Int.toNat a) (b.length - (Int.toNat a))) : Nat) : Int))))], [], []⟩) (fun t hm => oF rfl rfl (OpT.assign rfl (dk rfl) hm.s0 rfl)) rfl rfl ?_
  refine dF [0,0,0,6,0,0,48,126,255,511] Q3 rfl (by kernel_rfl) (fun u hu => (Qn (tN (Qh hu ?_))))
  refine Qh ?_ (ih (wI (a + (((min (Int.toNat a) (b.length - (Int.toNat a))) : Nat) : Int))) (b.take (Int.toNat a) ++ b.take (min (Int.toNat a) (b.length - (Int.toNat a))) ++ b.drop ((Int.toNat a) + (min (Int.toNat a) (b.length - (Int.toNat a))))) d h)
  exact tq rfl rfl
  refine Qp rfl j ?_
  refine T.exit (Qj (Qj (Qs (tN ?_))))
  refine T.seq (Qr ?_)
  refine mw rfl ?_
  refine aw rfl ?_
  refine TL'.nil (tN ?_)
  refine T.ret ?_
  exact Q7 (.cons _ _ _ _ (.tmp 4 _ rfl) .nil) (.cons 0 rfl (.nil _)) (by cases h; exact ⟨gl [d], rfl, rfl⟩)
theorem Qds (K : Nat) {x0 : List Int} {x1 : Int} {flx0 : Bool} {r : List Int} (h : G0 K x0 x1 = some r) : U7 tp 57 [.sl flx0 1 (mI x0), .int .i64 x1] [] (fun γ => (.c (.ex (γ 0)))) (fun γ => [.arrX (γ 0) 3 1 0 (mI r)]) := by
 refine Qt Tryz.func57 rfl (nb rfl) ?_
 show T tp 48 (ca [] Tryz.f57) ⟨Qw 0 [.sl flx0 1 (mI x0), .int .i64 x1], []⟩ (Wp r)
 unfold G0 at h
 refine T.seq (Qr ?_)
 refine aw rfl ?_
 refine TL'.nil (tN ?_)
 refine T.seq ?_
 refine T.seq (Qr ?_)
 refine mw rfl ?_
 refine oI rfl ?_
 refine TL'.nil (tN ?_)
 rcases Qd h with ⟨d, h⟩ | ⟨d, h⟩
 refine Qq rfl d ?_
 refine Qr ?_
 cases h
 refine Qp rfl d ?_
 refine T.skip (tN ?_)
 refine T.seq (Qr ?_)
 refine mw rfl ?_
 refine oU x0 (cI .i64) Zx rfl ?_
 refine sp rfl (V0 rfl (dk rfl) ul3 ul159 rfl ?_)
 refine mw rfl ?_
 refine sp rfl (V0 rfl (dk rfl) ul3 ul159 rfl ?_)
 obtain ⟨b, l, h⟩ := bind_some h
 refine sp rfl (Q0 rfl (dk rfl) Tryz.func96 rfl rfl (Q5.cons rfl (Q5.cons rfl Q5.nil)) (Zm.nil (bits_Mul_T K l)) ?_)
 refine mw rfl ?_
 refine oE rfl ?_
 refine oE rfl ?_
 refine aw rfl ?_
 refine aw rfl ?_
 refine TL'.nil (tN ?_)
 refine T.seq ?_
 refine T.seq (Qr ?_)
 refine mw rfl ?_
 refine oI rfl ?_
 refine mw rfl ?_
 rcases Qd h with ⟨a, h⟩ | ⟨a, h⟩
 refine pf rfl a ?_
 refine pf rfl a ?_
 refine oY a rfl ?_
 refine TL'.nil (tN ?_)
 refine Qq rfl rfl ?_
 refine Qm ?_ (Eh K x0 b.2 flx0 h)
 exact tq rfl rfl
 refine sn rfl a (OpT.move rfl (dk rfl) rfl ?_)
 refine sn rfl a (Zj rfl rfl (dk rfl) rfl rfl ?_)
 refine oZ a rfl ?_
 refine TL'.nil (tN ?_)
 rcases Qd h with ⟨g, h⟩ | ⟨g, h⟩
 refine Qq rfl g ?_
 refine Qm ?_ (Eh K x0 b.2 flx0 h)
 exact tq rfl rfl
 refine Qp rfl g ?_
 refine T.skip (tN ?_)
 refine T.seq (Qr ?_)
 refine mw rfl ?_
 refine sp rfl (V0 rfl (dk rfl) ul159 ul3 rfl ?_)
 obtain ⟨m, h⟩ := Zf h
 obtain ⟨p, h⟩ := Zf h
 refine sp rfl (Kp (f := (cI .i64)) (zv := ((0:Int) : Int)) rfl (dk rfl) Zx i3 (by decide) rfl rfl rfl rfl rfl m p (fun q => ?_))
 refine aw rfl ?_
 refine TL'.nil (tN (T.seq (Qr ?_)))
 refine mw rfl ?_
 refine mw rfl ?_
 obtain ⟨j, h⟩ := Zf h
 refine sp rfl (OpT.copyInts (i := 0) (k := .i64) (xs := (List.replicate (Int.toNat (wI b.2)) ((0:Int) : Int))) (ys := x0) rfl (dk rfl) Zx i3 rfl rfl rfl j.1 j.2 ?_)
 refine aw rfl ?_
 refine TL'.nil (tN ?_)
 refine T.seq ?_
 refine T.block ?_
 refine T.loop ?_
 refine Qh ?_ (Qai K K (x0.length : Int) (x0 ++ (List.replicate (Int.toNat (wI b.2)) ((0:Int) : Int)).drop x0.length) q h)
 exact tq rfl rfl
abbrev Wn (bx0 : Nat) (r : Qc) : ES := J9 tp Tryz.f28 (fun y t => ∃ γ : Nat → Value, y = (.tup []) ∧ t = [(Hm bx0 r.Auto.Split.Of r.Auto.Split.Many r.Auto.Counts r.Auto.States)])
abbrev Rw (bx0 : Nat) (r : Qc) : ES := thenS (fun s' => T tp 93 (ca [1,1,1,1] Tryz.f28) s' ((Wn bx0 r))) ((Wn bx0 r))
abbrev Uw (bx0 : Nat) (r : Qc) : ES := Qz 0 ((Rw bx0 r))
abbrev M3 (bx0 : Nat) (r : Qc) : ES := thenS (fun s' => TL tp 93 (ca [1,1,1,0,1,0,0] Tryz.f28) s' ((Uw bx0 r))) ((Uw bx0 r))
abbrev Fs (bx0 : Nat) (r : Qc) : ES := thenS (fun s' => T tp 93 (ca [1,1,1,0,1,0,0,1,1] Tryz.f28) s' ((M3 bx0 r))) ((M3 bx0 r))
abbrev C9 (bx0 : Nat) (r : Qc) : ES := Qz 1 ((Fs bx0 r))
abbrev B4 (bx0 : Nat) (r : Qc) : ES := Qz 2 ((C9 bx0 r))
abbrev Nq (bx0 : Nat) (r : Qc) : ES := thenS (fun s' => T tp 93 (ca [1,1,1,1,1,1,1] Tryz.f28) s' ((Wn bx0 r))) ((Wn bx0 r))
abbrev Ft (bx0 : Nat) (r : Qc) : ES := Qz 4 ((Nq bx0 r))
abbrev Qad (bx0 : Nat) (r : Qc) (go : Int → Qc → (List Int) → (List Int) → Option Qc) : Prop := ∀ (a : Int) (x0 : Qc) (b f : List Int) (g i : Value), go a x0 b f = some r → TL tp 93 (ca [1,1,1,0,1,0,0] Tryz.f28) ⟨[(0, .ptr bx0 0), (2, .c (.ex g)), (3, .c (.ex i)), (4, .int .i64 a)], [(Hm bx0 x0.Auto.Split.Of x0.Auto.Split.Many x0.Auto.Counts x0.Auto.States), .arrX g 3 1 0 (mI b), .arrX i 3 1 0 (mI f)]⟩ (Uw bx0 r)
theorem Qab {r : Qc} (K bx0 : Nat) (go0 : Int → Qc → (List Int) → (List Int) → Option Qc) (hgo0 : Qad bx0 r go0) : ∀ (k : Nat), ∀ (j : Int) (l : List Qe) (p q : Int) (x0 : Qc) (b g : List Int) (m u : Value), Yx K go0 k j l p q x0 b g = some r → TL tp 93 (ca [1,1,1,0,1,0,0,1,0,0,1,0,0] Tryz.f28) ⟨[(0, .ptr bx0 0), (2, .c (.ex m)), (3, .c (.ex u)), (4, .int .i64 j), (38, .sl false 2 (l.map Qf)), (39, .int .i64 p), (40, .int .i64 q)], [(Hm bx0 x0.Auto.Split.Of x0.Auto.Split.Many x0.Auto.Counts x0.Auto.States), .arrX m 3 1 0 (mI b), .arrX u 3 1 0 (mI g)]⟩ (B4 bx0 r) := by
 intro k
 induction k with
 | zero =>
  intro j l p q x0 b g m u h
  exact zn h
 | succ k ih =>
  intro j l p q x0 b g m u h
  rw [Yx] at h
  refine Q6 ?_
  refine T.seq (Qr ?_)
  refine oI rfl ?_
  refine TL'.nil (tN ?_)
  refine T.seq ?_
  rcases Qd h with ⟨ab, h⟩ | ⟨ab, h⟩
  refine Qq rfl ab ?_
  refine T.skip (tN ?_)
  refine T.seq ?_
  refine T.block ?_
  refine T.seq (Qr ?_)
  obtain ⟨w, ad, h⟩ := bind_some h
  refine oX l Qf Fq i54 ad rfl ?_
  refine sp rfl (Za rfl (dk rfl) Cp rfl i54 rfl (nb rfl) ?_)
  refine sp rfl (Zh rfl (dk rfl) i54 rfl (fun ai => ?_))
  refine sp rfl (Qy (i := 0) (cells' := [.d (.int .i64 w.To), .d (.sl false 1 (mU w.Ops))]) rfl rfl i54 rfl rfl rfl rfl (nb rfl) rfl ?_)
  refine TL'.nil (tN (T.seq (Qr ?_)))
  refine oP Cp i3 rfl ?_
  refine oL 0 ul3 rfl ?_
  refine oI rfl ?_
  refine mw rfl ?_
  rcases Qd h with ⟨a, h⟩ | ⟨a, h⟩
  refine sn rfl a (OpT.move rfl (dk rfl) rfl ?_)
  refine sn rfl a (Zs rfl (dk rfl) Cp rfl i3 (by decide) rfl ?_)
  refine sn rfl a (Zn (i := 0) rfl (dk rfl) ul3 rfl rfl rfl rfl ?_)
  obtain ⟨y, aa, h⟩ := bind_some h
  refine sn rfl a (Yb (n := 2) (xs := b) (f := (cI .i64)) (old := y) rfl (dk rfl) Zx i3 rfl rfl rfl aa ?_)
  refine sn rfl a (Hq (i := 2) (xs := b) (f := (cI .i64)) (old := y) rfl (dk rfl) ul3 rfl rfl rfl (Zu aa).2 rfl ?_)
  refine sn rfl a (Zj rfl rfl (dk rfl) rfl rfl ?_)
  refine oY a rfl ?_
  refine TL'.nil (tN ?_)
  rcases Qd h with ⟨ac, h⟩ | ⟨ac, h⟩
  refine Qq rfl ac ?_
  refine T.seq (Qr ?_)
  refine mw rfl ?_
  refine oP Cp i3 rfl ?_
  refine oL 0 ul3 rfl ?_
  refine mw rfl ?_
  refine sp rfl (H0 (i := 3) (xs := g) (f := (cI .i64)) rfl (dk rfl) Zx rfl rfl ?_)
  refine sp rfl (Yb (n := 2) (xs := b) (f := (cI .i64)) (old := y) rfl (dk rfl) Zx i3 rfl rfl rfl aa ?_)
  refine sp rfl (H8 (i := 2) (xs := b) (f := (cI .i64)) (old := y) (new := (g.length : Int)) rfl rfl i3 rfl rfl rfl (Zu aa).2 (Nat.zero_le _) (nb rfl) rfl ?_)
  refine TL'.nil (tN ?_)
  refine Qr ?_
  refine mw rfl ?_
  refine oP Cp i3 rfl ?_
  refine oL 0 ul3 rfl ?_
  refine sp rfl (Ov (elems := ([w.To] : List Int).map (cI .i64)) rfl (dk rfl) Zx i3 (by decide) rfl (M1 rfl) rfl rfl rfl (Uf rfl) (by decide) (fun aj => ?_))
  refine Hz (Ko 0 rfl) ?_
  refine Hz (Z6.view 64 0 rfl rfl) ?_
  obtain ⟨af, h⟩ := Zf h
  refine sp rfl (Fo (i := 4) (xs := g) (ys := [w.To]) (f := (cI .i64)) rfl (dk rfl) Zx i3 rfl rfl rfl rfl af (fun ag => ?_))
  refine aw rfl ?_
  refine TL'.nil (Qn (tN ?_))
  refine Qr ?_
  refine oI rfl ?_
  refine mw rfl ?_
  refine TL'.nil (tN ?_)
  refine Qh ?_ (ih j l p (wI (q + (1:Int))) x0 (List.set b (Int.toNat w.To) (g.length : Int)) (g ++ [w.To]) m ag h)
  exact tr rfl (.c (.s (.s .z)) (.c (.s (.s .z)) (.c (.s (.s .z)) (.n _))))
  refine Qp rfl ac ?_
  refine T.skip (Qn (tN ?_))
  refine Qr ?_
  refine oI rfl ?_
  refine mw rfl ?_
  refine TL'.nil (tN ?_)
  refine Qh ?_ (ih j l p (wI (q + (1:Int))) x0 b g m u h)
  exact tr rfl (.c (.s .z) (.c (.s .z) (.c (.s .z) (.n _))))
  refine pf rfl a ?_
  refine pf rfl a ?_
  refine pf rfl a ?_
  refine pf rfl a ?_
  refine pf rfl a ?_
  refine pf rfl a ?_
  refine oZ a rfl ?_
  refine TL'.nil (tN ?_)
  refine Qp rfl rfl ?_
  refine T.skip (Qn (tN ?_))
  refine Qr ?_
  refine oI rfl ?_
  refine mw rfl ?_
  refine TL'.nil (tN ?_)
  refine Qh ?_ (ih j l p (wI (q + (1:Int))) x0 b g m u h)
  exact tr rfl (.c (.s .z) (.c (.s .z) (.c (.s .z) (.n _))))
  refine Qp rfl ab ?_
  refine T.exit (Qj (Qj (Qs (Qn (tN ?_)))))
  refine Qr ?_
  refine mw rfl ?_
  refine oI rfl ?_
  refine aw rfl ?_
  refine TL'.nil (tN ?_)
  refine Qh ?_ (hgo0 (wI (j + (1:Int))) x0 b g m u h)
  exact tq rfl rfl
theorem Qaa {r : Qc} (K bx0 : Nat) : ∀ (k : Nat), ∀ (s u : Int) (a : Zi) (b : Int) (g : List Vr) (p j : List Qa) (m : List Int) (q w : Value), Vd K k s u a b g p j m = some r → TL tp 93 (ca [1,1,1,1,1,1,0,1,0,0] Tryz.f28) ⟨[(0, .ptr bx0 0), (7, .c (.ex q)), (70, .c (.ex w)), (71, .int .i64 s), (72, .int .i64 u)], [(Hm bx0 a b g p), .arrA q 51 4 (j.map Qb), .arrX w 3 1 0 (mI m)]⟩ (Ft bx0 r) := by
 intro k
 induction k with
 | zero =>
  intro s u a b g p j m q w h
  exact zn h
 | succ k ih =>
  intro s u a b g p j m q w h
  rw [Vd] at h
  refine Q6 ?_
  refine T.seq (Qr ?_)
  refine oI rfl ?_
  refine TL'.nil (tN ?_)
  refine T.seq ?_
  rcases Qd h with ⟨aa, h⟩ | ⟨aa, h⟩
  refine Qq rfl aa ?_
  refine T.skip (tN ?_)
  refine T.seq ?_
  refine T.block ?_
  refine T.seq (Qr ?_)
  obtain ⟨ab, ac, h⟩ := bind_some h
  refine sp rfl (Yb (n := 2) (xs := m) (f := (cI .i64)) (old := ab) rfl (dk rfl) Zx i3 rfl rfl rfl ac ?_)
  refine sp rfl (Hq (i := 2) (xs := m) (f := (cI .i64)) (old := ab) rfl (dk rfl) ul3 rfl rfl rfl (Zu ac).2 rfl ?_)
  refine aw rfl ?_
  refine TL'.nil (tN ?_)
  refine Qr ?_
  refine mw rfl ?_
  refine mw rfl ?_
  refine oK rfl ?_
  refine oP ul69 i28 rfl ?_
  refine oP Uv i26 rfl ?_
  refine oL 0 Us rfl ?_
  refine mw rfl ?_
  obtain ⟨y, ad, h⟩ := bind_some h
  refine oX p Qb Us i51 ad rfl ?_
  refine sp rfl (Za rfl (dk rfl) Wi rfl i51 rfl (nb rfl) ?_)
  refine sp rfl (OpT.buildSlice (elems := ([y] : List Qa).map Qb) rfl (dk rfl) Us i51 (by decide) rfl (M1 rfl) rfl rfl rfl (Uf rfl) (by decide) ?_)
  obtain ⟨af, h⟩ := Zf h
  refine sp rfl (Zy (i := 1) (xs := j) (ys := [y]) (f := Qb) rfl (dk rfl) Us i51 rfl rfl rfl rfl af (fun ag => ?_))
  refine aw rfl ?_
  refine TL'.nil (Qn (tN ?_))
  refine Qr ?_
  refine oI rfl ?_
  refine mw rfl ?_
  refine TL'.nil (tN ?_)
  refine Qh ?_ (ih s (wI (u + (1:Int))) a b g p (j ++ [y]) m ag w h)
  exact tq rfl rfl
  refine Qp rfl aa ?_
  refine T.exit (Qj (Qj (Qs (tN ?_))))
  refine Qr ?_
  refine mw rfl ?_
  refine mw rfl ?_
  refine oK rfl ?_
  refine oP ul69 i28 rfl ?_
  refine oP Uv i26 rfl ?_
  refine sp rfl (W2 (i := 0) (cells' := ((Zi.oc 256 .u8 a) ++ (([.d (.int .i64 b), .d (.sl false 2 (mA g)), .d (.ex q)]:List OC)))) rfl rfl i26 rfl rfl rfl (nb rfl) rfl ?_)
  refine TL'.nil ?_
  refine X7 (Lq 0 (l := ((Zi.dc 256 .u8 a) ++ (([.int .i64 b, .sl false 2 (mA g), .ex q] : List DC)))) (l' := ((Zi.dc 256 .u8 a) ++ (([.int .i64 b, .sl false 2 (mA g), .sl false 4 (j.map Qb)] : List DC)))) rfl (.app _ (.cons (.same _) (.cons (.same _) (.cons (.view 1 rfl) (.refl _)))))) ?_
  exact Q7 (.nil) (.cons 0 rfl (.nil _)) (by cases h; exact ⟨gl [], rfl, rfl⟩)
theorem Qac {r : Qc} (K bx0 : Nat) : ∀ (k : Nat), ∀ (j : Int) (x0 : Qc) (p b : List Int) (l g : Value), Xb K k j x0 p b = some r → TL tp 93 (ca [1,1,1,0,1,0,0] Tryz.f28) ⟨[(0, .ptr bx0 0), (2, .c (.ex l)), (3, .c (.ex g)), (4, .int .i64 j)], [(Hm bx0 x0.Auto.Split.Of x0.Auto.Split.Many x0.Auto.Counts x0.Auto.States), .arrX l 3 1 0 (mI p), .arrX g 3 1 0 (mI b)]⟩ (Uw bx0 r) := by
 intro k
 induction k with
 | zero =>
  intro j x0 p b l g h
  exact zn h
 | succ k ih =>
  intro j x0 p b l g h
  rw [Xb] at h
  refine Q6 ?_
  refine T.seq ?_
  refine T.seq (Qr ?_)
  refine mw rfl ?_
  refine mw rfl ?_
  refine sp rfl (H0 (i := 2) (xs := b) (f := (cI .i64)) rfl (dk rfl) Zx rfl rfl ?_)
  refine oI rfl ?_
  refine TL'.nil (tN ?_)
  rcases Qd h with ⟨y, h⟩ | ⟨y, h⟩
  refine Qq rfl y ?_
  refine T.skip (tN ?_)
  refine T.seq ?_
  refine T.block ?_
  refine T.seq ?_
  refine Yk ?_
  refine dV rfl rfl ?_
  refine dK rfl (.f rfl) rfl ?_
  refine dP rfl (.f rfl) ul69 i28 rfl ?_
  refine dP rfl (.f rfl) Uv i26 rfl ?_
  refine dL 0 rfl (.f rfl) Us rfl ?_
  refine dV rfl rfl ?_
  refine dV rfl rfl ?_
  obtain ⟨q, aa, h⟩ := bind_some h
  refine dS (c := ⟨some 34, .el g 1 (Int.toNat j) 0, [(32, .c (.ex g)), (33, .int .i64 j)], [(2, .arrX g 3 1 0 (mI b))], []⟩) (fun t hm => oF rfl rfl (Yb (n := 2) (xs := b) (f := (cI .i64)) (old := q) rfl (dk rfl) Zx i3 hm.s0 hm.o0 hm.s1 aa rfl)) rfl rfl ?_
  refine dS (c := ⟨some 35, .int .i64 q, [(34, .el g 1 (Int.toNat j) 0)], [(2, .arrX g 3 1 0 (mI b))], []⟩) (fun t hm => oF rfl rfl (Hq (i := 2) (xs := b) (f := (cI .i64)) (old := q) rfl (dk rfl) ul3 rfl hm.s0 hm.o0 (Zu aa).2 rfl rfl)) rfl rfl ?_
  obtain ⟨a, ab, h⟩ := bind_some h
  refine dX x0.Auto.States Qb rfl (.f rfl) Us i51 ab rfl ?_
  refine dS (c := ⟨some 37, .agg [.sl false 1 (mI a.L), .sl false 1 (mI a.R), .sl false 1 (mI a.Rule), .sl false 1 (a.Next.map (cL 2 Qf))], [(36, .ref [.sl false 1 (mI a.L), .sl false 1 (mI a.R), .sl false 1 (mI a.Rule), .sl false 1 (a.Next.map (cL 2 Qf))])], [], []⟩) (fun t hm => oF rfl rfl (Za rfl (dk rfl) Wi rfl i51 hm.s0 (nb rfl) rfl)) rfl rfl ?_
  obtain ⟨m, ac, h⟩ := bind_some h
  refine dS (c := ⟨some 38, .sl false 2 (m.map Qf), [(37, .agg [.sl false 1 (mI a.L), .sl false 1 (mI a.R), .sl false 1 (mI a.Rule), .sl false 1 (a.Next.map (cL 2 Qf))])], [], []⟩) (fun t hm => oF rfl rfl (Q0 rfl (dk rfl) Tryz.func33 rfl rfl (Q5.cons hm.s0 Q5.nil) (Zm.nil (Qbq K ac)) rfl)) rfl rfl ?_
  refine dN m Qf rfl (.f rfl) Fq rfl ?_
  refine dM rfl (.f rfl) rfl ?_
  refine dF [0,1,3,7,15,0,0,96,224,511,1023,2047,4095,0] Q3 rfl (by kernel_rfl) (fun u hu => (tN (Qm hu ?_)))
  refine T.block ?_
  refine T.loop ?_
  refine Qh ?_ (Qab K bx0 (Xb K k) ih K j m (m.length : Int) (0:Int) x0 p b l g h)
  exact tq rfl rfl
  refine Qp rfl y ?_
  refine T.exit (Qj (Qj (Qs (tN ?_))))
  refine T.seq (Qr ?_)
  refine mw rfl ?_
  refine mw rfl ?_
  obtain ⟨w, ad, h⟩ := bind_some h
  refine sp rfl (Q8 (is := [0, 1]) (ph := []) rfl (dk rfl) Tryz.func56 rfl rfl (Q5.cons rfl (Q5.cons rfl Q5.nil)) (Np K (bx0 := bx0) (wx1 := l) ad) (.cons rfl rfl (.cons rfl rfl (.nil))) (fun _ => rfl) (fun af => ?_))
  refine nm (.c (.c (.c (.n)))) ?_
  refine TL'.nil (tN (T.seq (Qr ?_)))
  refine aw rfl ?_
  refine TL'.nil (tN ?_)
  refine T.seq ?_
  refine T.seq (Qr ?_)
  refine mw rfl ?_
  refine sp rfl (H0 (i := 2) (xs := b) (f := (cI .i64)) rfl (dk rfl) Zx rfl rfl ?_)
  refine mw rfl ?_
  refine TL'.nil (tN ?_)
  refine T.block ?_
  refine T.loop ?_
  refine Qh (Xy 51 4) ?_
  refine Qh ?_ (Qaa K bx0 K (b.length : Int) (0:Int) w.Auto.Split.Of w.Auto.Split.Many w.Auto.Counts w.Auto.States [] b (Qf1 2) g h)
  exact tr rfl (.c (.s .z) (.c .z (.c (.s .z) (.n _))))
theorem Qdh (K : Nat) {x0 : Qc} {bx0 : Nat} {r : Qc} (h : Gx K x0 = some r) : U7 tp 28 [.ptr bx0 0] [(Hm bx0 x0.Auto.Split.Of x0.Auto.Split.Many x0.Auto.Counts x0.Auto.States)] (fun γ => (.tup [])) (fun γ => [(Hm bx0 r.Auto.Split.Of r.Auto.Split.Many r.Auto.Counts r.Auto.States)]) := by
 refine Qt Tryz.func28 rfl (nb rfl) ?_
 show T tp 93 (ca [] Tryz.f28) ⟨Qw 0 [.ptr bx0 0], [(Hm bx0 x0.Auto.Split.Of x0.Auto.Split.Many x0.Auto.Counts x0.Auto.States)]⟩ (Wn bx0 r)
 unfold Gx at h
 refine T.seq (Qr ?_)
 refine sp rfl (OpT.buildSlice (elems := ([(-1:Int)] : List Int).map (cI .i64)) rfl (dk rfl) Zx i3 (by decide) rfl (M1 rfl) rfl rfl rfl (Uf rfl) (by decide) ?_)
 refine mw rfl ?_
 refine oK rfl ?_
 refine oP ul69 i28 rfl ?_
 refine oP Uv i26 rfl ?_
 refine oL 0 Us rfl ?_
 refine oU x0.Auto.States Qb Us rfl ?_
 refine Hz Y4 ?_
 obtain ⟨a, j, h⟩ := bind_some h
 refine sp rfl (Q8 (is := [0]) (ph := [.ro 0 []]) rfl (dk rfl) Tryz.func57 rfl rfl (Q5.cons rfl (Q5.cons rfl Q5.nil)) (Qds K (flx0 := true) j) (.cons rfl rfl (.nil)) (fun _ => rfl) (fun l => ?_))
 refine nm (.c (.c (.n))) ?_
 refine aw rfl ?_
 refine TL'.nil (tN (T.seq (Qr ?_)))
 refine sp rfl (Ov (elems := ([(0:Int)] : List Int).map (cI .i64)) rfl (dk rfl) Zx i3 (by decide) rfl (M1 rfl) rfl rfl rfl (Uf rfl) (by decide) (fun m => ?_))
 refine aw rfl ?_
 refine TL'.nil (tN (T.seq (Qr ?_)))
 refine mw rfl ?_
 obtain ⟨b, g, h⟩ := bind_some h
 refine sp rfl (Yb (n := 1) (xs := a) (f := (cI .i64)) (old := b) rfl (dk rfl) Zx i3 rfl rfl rfl g ?_)
 refine sp rfl (H8 (i := 1) (xs := a) (f := (cI .i64)) (old := b) (new := (0:Int)) rfl rfl i3 rfl rfl rfl (Zu g).2 (Nat.zero_le _) (nb rfl) rfl ?_)
 refine TL'.nil (tN ?_)
 refine T.seq ?_
 refine T.seq (Qr ?_)
 refine aw rfl ?_
 refine TL'.nil (tN ?_)
 refine T.block ?_
 refine T.loop ?_
 refine Qh ?_ (Qac K bx0 K (0:Int) x0 (List.set a (Int.toNat (0:Int)) (0:Int)) [(0:Int)] (l 0) (.slice (some ⟨m, 0, none⟩) 1 1) h)
 exact tr rfl (.c (.s (.s .z)) (.c (.s .z) (.c .z (.n _))))
theorem P2 (K : Nat) {x0 : Int} {r : ByteArray} (h : strconv_Itoa K x0 = some r) : Zm tp 39 [.int .i64 x0] [.tab 0 Y9] (.str r) := by
 unfold strconv_Itoa at h
 split at h
 next hc => cases h; exact itoa_call Tryz.laysM171 (by kernel_rfl) hc.1 hc.2
 cases h
abbrev Ns (bx0 : Nat) (x0c1 : List Int) (r : Unit) : ES := J9 tp Tryz.f111 (fun y t => ∃ γ : Nat → Value, y = (.tup []) ∧ t = [(Kj bx0 bx0 (γ 0)), .arrX (γ 0) 5 1 0 (mU x0c1)])
theorem Nt (K : Nat) {x0c1 : List Int} {bx0 : Nat} {wx0c1 : Value} {r : Unit} (h : H2 K x0c1 = some r) : U7 tp 111 [.ptr bx0 0] [(Qgn bx0 (.pointer none) wx0c1), .arrX wx0c1 5 1 0 (mU x0c1)] (fun γ => (.tup [])) (fun γ => [(Kj bx0 bx0 (γ 0)), .arrX (γ 0) 5 1 0 (mU x0c1)]) := by
 refine Qt Tryz.func111 rfl (nb rfl) ?_
 show T tp 20 (ca [] Tryz.f111) ⟨Qw 0 [.ptr bx0 0], [(Qgn bx0 (.pointer none) wx0c1), .arrX wx0c1 5 1 0 (mU x0c1)]⟩ (Ns bx0 x0c1 r)
 unfold H2 at h
 refine T.seq (Qr ?_)
 refine mw rfl ?_
 refine oK rfl ?_
 refine oP ul134 i132 rfl ?_
 refine oL 0 ul132 rfl ?_
 refine sp rfl (OpT.eqlPtrNil rfl (dk rfl) ul132 rfl rfl ?_)
 refine TL'.nil (tN ?_)
 refine Qq rfl rfl ?_
 refine Qr ?_
 refine mw rfl ?_
 refine mw rfl ?_
 refine sp rfl (OpT.toUnsafe (i := 0) rfl (dk rfl) ul132 ul193 i134 (by decide) rfl rfl (Nat.zero_lt_succ _) ?_)
 refine sp rfl (OpT.noEscape rfl (dk rfl) Tryz.func130 rfl rfl (by kernel_rfl) (by kernel_rfl) rfl rfl ?_)
 refine sp rfl (OpT.ofUnsafe (i := 0) rfl (dk rfl) ul193 ul132 i134 rfl rfl rfl (by kernel_rfl) ?_)
 refine oK rfl ?_
 refine oP ul134 i132 rfl ?_
 refine sp rfl (W2 (i := 0) (cells' := [.d (.ptr bx0 0), .d (.ex wx0c1)]) rfl rfl i132 rfl rfl rfl (nb rfl) rfl ?_)
 refine TL'.nil ?_
 exact Q7 (.nil) (.cons 0 rfl (.cons 0 rfl (.nil _))) (by cases h; exact ⟨gl [wx0c1], rfl, rfl⟩)
abbrev Fv (bx0 : Nat) (r : Int × Unit × (List Int)) : ES := J9 tp Tryz.f71 (fun y t => ∃ γ : Nat → Value, y = (.tup [.int .i64 r.1, .c (.ex .nilIface)]) ∧ t = [(Kj bx0 bx0 (γ 0)), .arrX (γ 0) 5 1 0 (mU r.2.2)])
theorem Fw (K : Nat) {x0c1 : List Int} {x1 : ByteArray} {bx0 : Nat} {wx0c1 : Value} {r : Int × Unit × (List Int)} (h : Wo K x0c1 x1 = some r) : U7 tp 71 [.ptr bx0 0, .str x1] [(Qgn bx0 (.pointer none) wx0c1), .arrX wx0c1 5 1 0 (mU x0c1)] (fun γ => (.tup [.int .i64 r.1, .c (.ex .nilIface)])) (fun γ => [(Kj bx0 bx0 (γ 0)), .arrX (γ 0) 5 1 0 (mU r.2.2)]) := by
 refine Qt Tryz.func71 rfl (nb rfl) ?_
 show T tp 19 (ca [] Tryz.f71) ⟨Qw 0 [.ptr bx0 0, .str x1], [(Qgn bx0 (.pointer none) wx0c1), .arrX wx0c1 5 1 0 (mU x0c1)]⟩ (Fv bx0 r)
 unfold Wo at h
 refine T.seq (Qr ?_)
 refine aw rfl ?_
 refine aw rfl ?_
 refine TL'.nil (tN (T.seq (Qr ?_)))
 refine mw rfl ?_
 obtain ⟨g, b, h⟩ := bind_some h
 refine sp rfl (Q8 (is := [0, 1]) (ph := []) rfl (dk rfl) Tryz.func111 rfl rfl (Q5.cons rfl Q5.nil) (Nt K (bx0 := bx0) (wx0c1 := wx0c1) b) (.cons rfl rfl (.cons rfl rfl (.nil))) (fun _ => rfl) (fun j => ?_))
 refine nm (.c (.c (.n))) ?_
 refine TL'.nil (tN (T.seq (Qr ?_)))
 refine mw rfl ?_
 refine mw rfl ?_
 refine oK rfl ?_
 refine oP ul134 i52 rfl ?_
 refine oL 0 C8 rfl ?_
 refine mw rfl ?_
 obtain ⟨f, h⟩ := Zf h
 refine sp rfl (Qco (i := 1) (xs := x0c1) rfl (dk rfl) C8 ul9 i5 rfl rfl rfl rfl f (fun a => ?_))
 refine oK rfl ?_
 refine oP ul134 i52 rfl ?_
 refine sp rfl (W2 (i := 0) (cells' := [.d (.ptr bx0 0), .d (.ex a)]) rfl rfl i52 rfl rfl rfl (nb rfl) rfl ?_)
 refine TL'.nil (tN (T.seq (Qr ?_)))
 refine mw rfl ?_
 refine sp rfl (Sp rfl (dk rfl) ul9 rfl ?_)
 refine aw rfl ?_
 refine aw rfl ?_
 refine TL'.nil (tN ?_)
 refine T.ret ?_
 exact Q7 (.cons _ _ _ _ (.tmp 4 _ rfl) (.cons _ _ _ _ (.tmp 5 _ rfl) .nil)) (.cons 0 rfl (.cons 0 rfl (.nil _))) (by cases h; exact ⟨gl [a], rfl, rfl⟩)
abbrev trim_sign_1_q (bx1 : Nat) (r : List Int) : ES := J9 tp Tryz.f70 (fun y t => ∃ γ : Nat → Value, y = (.tup []) ∧ t = [.tab 0 Y9, (Kj bx1 bx1 (γ 0)), .arrX (γ 0) 5 1 0 (mU r)])
theorem trim_sign_1_T (K : Nat) {x0 : Int} {x1c1 : List Int} {bx1 : Nat} {wx1c1 : Value} {r : List Int} (h : Ss K x0 x1c1 = some r) : U7 tp 70 [.int .i64 x0, .ptr bx1 0] [.tab 0 Y9, (Qgn bx1 (.pointer none) wx1c1), .arrX wx1c1 5 1 0 (mU x1c1)] (fun γ => (.tup [])) (fun γ => [.tab 0 Y9, (Kj bx1 bx1 (γ 0)), .arrX (γ 0) 5 1 0 (mU r)]) := by
 refine Qt Tryz.func70 rfl (nb rfl) ?_
 show T tp 7 (ca [] Tryz.f70) ⟨Qw 0 [.int .i64 x0, .ptr bx1 0], [.tab 0 Y9, (Qgn bx1 (.pointer none) wx1c1), .arrX wx1c1 5 1 0 (mU x1c1)]⟩ (trim_sign_1_q bx1 r)
 unfold Ss at h
 refine Qr ?_
 refine mw rfl ?_
 obtain ⟨i, a, h⟩ := bind_some h
 refine sp rfl (H9 rfl (dk rfl) Tryz.func39 rfl rfl (Q5.cons rfl Q5.nil) (.tab 0 rfl (.nil)) (P2 K a) ?_)
 obtain ⟨b, h⟩ := Zf h
 refine sp rfl (Tr rfl (dk rfl) rfl rfl b ?_)
 obtain ⟨j, f, h⟩ := bind_some h
 refine sp rfl (Q8 (is := [1, 2]) (ph := []) rfl (dk rfl) Tryz.func71 rfl rfl (Q5.cons rfl (Q5.cons rfl Q5.nil)) (Fw K (bx0 := bx1) (wx0c1 := wx1c1) f) (.cons rfl rfl (.cons rfl rfl (.nil))) (fun _ => rfl) (fun g => ?_))
 refine nm (.c (.c (.c (.n)))) ?_
 refine TL'.nil ?_
 exact Q7 (.nil) (.cons 0 rfl (.cons 0 rfl (.cons 0 rfl (.nil _)))) (by cases h; exact ⟨gl [g 0], rfl, rfl⟩)
abbrev Fa (bx0 : Nat) (x0c1 : List Int) (r : Unit) : ES := J9 tp Tryz.f111 (fun y t => ∃ γ : Nat → Value, y = (.tup []) ∧ t = [(Kj bx0 bx0 (γ 0)), .arrX (γ 0) 5 1 0 (mU x0c1)])
theorem Lp (K : Nat) {x0c1 : List Int} {bx0 : Nat} {wx0c1 : Value} {r : Unit} (h : Yu K x0c1 = some r) : U7 tp 111 [.ptr bx0 0] [(Kj bx0 bx0 wx0c1), .arrX wx0c1 5 1 0 (mU x0c1)] (fun γ => (.tup [])) (fun γ => [(Kj bx0 bx0 (γ 0)), .arrX (γ 0) 5 1 0 (mU x0c1)]) := by
 refine Qt Tryz.func111 rfl (nb rfl) ?_
 show T tp 20 (ca [] Tryz.f111) ⟨Qw 0 [.ptr bx0 0], [(Kj bx0 bx0 wx0c1), .arrX wx0c1 5 1 0 (mU x0c1)]⟩ (Fa bx0 x0c1 r)
 unfold Yu at h
 refine T.seq (Qr ?_)
 refine mw rfl ?_
 refine oK rfl ?_
 refine oP ul134 i132 rfl ?_
 refine oL 0 ul132 rfl ?_
 refine sp rfl (OpT.eqlPtrSome rfl (dk rfl) ul132 rfl rfl ?_)
 refine TL'.nil (tN ?_)
 refine Qp rfl rfl ?_
 refine T.seq (Qr ?_)
 refine mw rfl ?_
 refine oK rfl ?_
 refine oP ul134 i132 rfl ?_
 refine oL 0 ul132 rfl ?_
 refine mw rfl ?_
 refine sp rfl (OpT.neqPtrSame rfl (dk rfl) ul132 i134 rfl rfl ?_)
 refine TL'.nil (tN ?_)
 refine Qp rfl rfl ?_
 refine T.skip ?_
 exact Q7 (.nil) (.cons 0 rfl (.cons 0 rfl (.nil _))) (by cases h; exact ⟨gl [wx0c1], rfl, rfl⟩)
abbrev D2 (bx0 : Nat) (r : Int × Unit × (List Int)) : ES := J9 tp Tryz.f71 (fun y t => ∃ γ : Nat → Value, y = (.tup [.int .i64 r.1, .c (.ex .nilIface)]) ∧ t = [(Kj bx0 bx0 (γ 0)), .arrX (γ 0) 5 1 0 (mU r.2.2)])
theorem D3 (K : Nat) {x0c1 : List Int} {x1 : ByteArray} {bx0 : Nat} {wx0c1 : Value} {r : Int × Unit × (List Int)} (h : Vk K x0c1 x1 = some r) : U7 tp 71 [.ptr bx0 0, .str x1] [(Kj bx0 bx0 wx0c1), .arrX wx0c1 5 1 0 (mU x0c1)] (fun γ => (.tup [.int .i64 r.1, .c (.ex .nilIface)])) (fun γ => [(Kj bx0 bx0 (γ 0)), .arrX (γ 0) 5 1 0 (mU r.2.2)]) := by
 refine Qt Tryz.func71 rfl (nb rfl) ?_
 show T tp 19 (ca [] Tryz.f71) ⟨Qw 0 [.ptr bx0 0, .str x1], [(Kj bx0 bx0 wx0c1), .arrX wx0c1 5 1 0 (mU x0c1)]⟩ (D2 bx0 r)
 unfold Vk at h
 refine T.seq (Qr ?_)
 refine aw rfl ?_
 refine aw rfl ?_
 refine TL'.nil (tN (T.seq (Qr ?_)))
 refine mw rfl ?_
 obtain ⟨g, b, h⟩ := bind_some h
 refine sp rfl (Q8 (is := [0, 1]) (ph := []) rfl (dk rfl) Tryz.func111 rfl rfl (Q5.cons rfl Q5.nil) (Lp K (bx0 := bx0) (wx0c1 := wx0c1) b) (.cons rfl rfl (.cons rfl rfl (.nil))) (fun _ => rfl) (fun j => ?_))
 refine nm (.c (.c (.n))) ?_
 refine TL'.nil (tN (T.seq (Qr ?_)))
 refine mw rfl ?_
 refine mw rfl ?_
 refine oK rfl ?_
 refine oP ul134 i52 rfl ?_
 refine oL 0 C8 rfl ?_
 refine mw rfl ?_
 obtain ⟨f, h⟩ := Zf h
 refine sp rfl (Qco (i := 1) (xs := x0c1) rfl (dk rfl) C8 ul9 i5 rfl rfl rfl rfl f (fun a => ?_))
 refine oK rfl ?_
 refine oP ul134 i52 rfl ?_
 refine sp rfl (W2 (i := 0) (cells' := [.d (.ptr bx0 0), .d (.ex a)]) rfl rfl i52 rfl rfl rfl (nb rfl) rfl ?_)
 refine TL'.nil (tN (T.seq (Qr ?_)))
 refine mw rfl ?_
 refine sp rfl (Sp rfl (dk rfl) ul9 rfl ?_)
 refine aw rfl ?_
 refine aw rfl ?_
 refine TL'.nil (tN ?_)
 refine T.ret ?_
 exact Q7 (.cons _ _ _ _ (.tmp 4 _ rfl) (.cons _ _ _ _ (.tmp 5 _ rfl) .nil)) (.cons 0 rfl (.cons 0 rfl (.nil _))) (by cases h; exact ⟨gl [a], rfl, rfl⟩)
abbrev Qg0 (bx1 : Nat) (r : List Int) : ES := J9 tp Tryz.f70 (fun y t => ∃ γ : Nat → Value, y = (.tup []) ∧ t = [.tab 0 Y9, (Kj bx1 bx1 (γ 0)), .arrX (γ 0) 5 1 0 (mU r)])
theorem Ka (K : Nat) {x0 : Int} {x1c1 : List Int} {bx1 : Nat} {wx1c1 : Value} {r : List Int} (h : Jd K x0 x1c1 = some r) : U7 tp 70 [.int .i64 x0, .ptr bx1 0] [.tab 0 Y9, (Kj bx1 bx1 wx1c1), .arrX wx1c1 5 1 0 (mU x1c1)] (fun γ => (.tup [])) (fun γ => [.tab 0 Y9, (Kj bx1 bx1 (γ 0)), .arrX (γ 0) 5 1 0 (mU r)]) := by
 refine Qt Tryz.func70 rfl (nb rfl) ?_
 show T tp 7 (ca [] Tryz.f70) ⟨Qw 0 [.int .i64 x0, .ptr bx1 0], [.tab 0 Y9, (Kj bx1 bx1 wx1c1), .arrX wx1c1 5 1 0 (mU x1c1)]⟩ (Qg0 bx1 r)
 unfold Jd at h
 refine Qr ?_
 refine mw rfl ?_
 obtain ⟨i, a, h⟩ := bind_some h
 refine sp rfl (H9 rfl (dk rfl) Tryz.func39 rfl rfl (Q5.cons rfl Q5.nil) (.tab 0 rfl (.nil)) (P2 K a) ?_)
 obtain ⟨b, h⟩ := Zf h
 refine sp rfl (Tr rfl (dk rfl) rfl rfl b ?_)
 obtain ⟨j, f, h⟩ := bind_some h
 refine sp rfl (Q8 (is := [1, 2]) (ph := []) rfl (dk rfl) Tryz.func71 rfl rfl (Q5.cons rfl (Q5.cons rfl Q5.nil)) (D3 K (bx0 := bx1) (wx0c1 := wx1c1) f) (.cons rfl rfl (.cons rfl rfl (.nil))) (fun _ => rfl) (fun g => ?_))
 refine nm (.c (.c (.c (.n)))) ?_
 refine TL'.nil ?_
 exact Q7 (.nil) (.cons 0 rfl (.cons 0 rfl (.cons 0 rfl (.nil _)))) (by cases h; exact ⟨gl [g 0], rfl, rfl⟩)
abbrev Sx (bx0 : Nat) (r : Int × Unit × (List Int)) : ES := J9 tp Tryz.f72 (fun y t => ∃ γ : Nat → Value, y = (.tup [.int .i64 r.1, .c (.ex .nilIface)]) ∧ t = [(Kj bx0 bx0 (γ 0)), .arrX (γ 0) 5 1 0 (mU r.2.2)])
theorem Sy (K : Nat) {x0c1 x1 : List Int} {bx0 : Nat} {wx0c1 : Value} {flx1 : Bool} {r : Int × Unit × (List Int)} (h : Hs K x0c1 x1 = some r) : U7 tp 72 [.ptr bx0 0, .sl flx1 1 (mU x1)] [(Kj bx0 bx0 wx0c1), .arrX wx0c1 5 1 0 (mU x0c1)] (fun γ => (.tup [.int .i64 r.1, .c (.ex .nilIface)])) (fun γ => [(Kj bx0 bx0 (γ 0)), .arrX (γ 0) 5 1 0 (mU r.2.2)]) := by
 refine Qt Tryz.func72 rfl (nb rfl) ?_
 show T tp 19 (ca [] Tryz.f72) ⟨Qw 0 [.ptr bx0 0, .sl flx1 1 (mU x1)], [(Kj bx0 bx0 wx0c1), .arrX wx0c1 5 1 0 (mU x0c1)]⟩ (Sx bx0 r)
 unfold Hs at h
 refine T.seq (Qr ?_)
 refine aw rfl ?_
 refine aw rfl ?_
 refine TL'.nil (tN (T.seq (Qr ?_)))
 refine mw rfl ?_
 obtain ⟨j, b, h⟩ := bind_some h
 refine sp rfl (Q8 (is := [0, 1]) (ph := []) rfl (dk rfl) Tryz.func111 rfl rfl (Q5.cons rfl Q5.nil) (Lp K (bx0 := bx0) (wx0c1 := wx0c1) b) (.cons rfl rfl (.cons rfl rfl (.nil))) (fun _ => rfl) (fun l => ?_))
 refine nm (.c (.c (.n))) ?_
 refine TL'.nil (tN (T.seq (Qr ?_)))
 refine mw rfl ?_
 refine mw rfl ?_
 refine oK rfl ?_
 refine oP ul134 i52 rfl ?_
 refine oL 0 C8 rfl ?_
 refine mw rfl ?_
 obtain ⟨g, h⟩ := Zf h
 refine sp rfl (Fo (i := 1) (xs := x0c1) (ys := x1) (f := (cI .u8)) rfl (dk rfl) C8 i5 rfl rfl rfl rfl g (fun a => ?_))
 refine oK rfl ?_
 refine oP ul134 i52 rfl ?_
 refine sp rfl (W2 (i := 0) (cells' := [.d (.ptr bx0 0), .d (.ex a)]) rfl rfl i52 rfl rfl rfl (nb rfl) rfl ?_)
 refine TL'.nil (tN (T.seq (Qr ?_)))
 refine mw rfl ?_
 refine oU x1 (cI .u8) C8 rfl ?_
 refine aw rfl ?_
 refine aw rfl ?_
 refine TL'.nil (tN ?_)
 refine T.ret ?_
 exact Q7 (.cons _ _ _ _ (.tmp 4 _ rfl) (.cons _ _ _ _ (.tmp 5 _ rfl) .nil)) (.cons 0 rfl (.cons 0 rfl (.nil _))) (by cases h; exact ⟨gl [a], rfl, rfl⟩)
abbrev B7 (wx1 : Value) (x1 : List Int) (r : ByteArray) : ES := J9 tp Tryz.f40 (fun y t => ∃ γ : Nat → Value, y = (.str r) ∧ t = [.tab 0 Y9, .arrX wx1 3 1 0 (mI x1)])
abbrev Qdk (wx1 : Value) (x1 : List Int) (r : ByteArray) : ES := thenS (fun s' => T tp 70 (ca [1,1,1,1,1,1,1] Tryz.f40) s' ((B7 wx1 x1 r))) ((B7 wx1 x1 r))
abbrev Qbo (wx1 : Value) (x1 : List Int) (r : ByteArray) : ES := Qz 4 ((Qdk wx1 x1 r))
abbrev Qex (wx1 : Value) (x1 : List Int) (r : ByteArray) : ES := thenS (fun s' => T tp 70 (ca [1,1,1,1,1,1] Tryz.f40) s' ((B7 wx1 x1 r))) ((B7 wx1 x1 r))
abbrev Qcy (wx1 : Value) (x1 : List Int) (r : ByteArray) : ES := Qz 2 ((Qex wx1 x1 r))
abbrev Qf2 (wx1 : Value) (x1 : List Int) (r : ByteArray) : ES := thenS (fun s' => T tp 70 (ca [1,1,1,1,1] Tryz.f40) s' ((B7 wx1 x1 r))) ((B7 wx1 x1 r))
abbrev Qdl (wx1 : Value) (x1 : List Int) (r : ByteArray) : ES := Qz 0 ((Qf2 wx1 x1 r))
theorem trim_sign_l2_T {r : ByteArray} (K : Nat) (wx1 : Value) (x1 : List Int) : ∀ (k : Nat), ∀ (g : List Qe) (j l : Int) (x1 p : List Int) (a : Nat) (m : Value), Lm K k g j l x1 p = some r → TL tp 70 (ca [1,1,1,1,1,1,0,1,0,0] Tryz.f40) ⟨[(1, .c (.ex wx1)), (5, .ptr a 0), (6, .c (.ex (.func (.func 70) #[] #[.pointer (some ⟨a, 0, none⟩)]))), (42, .sl false 2 (g.map Qf)), (43, .int .i64 j), (44, .int .i64 l)], [.arrX wx1 3 1 0 (mI x1), (Kj a a m), .arrX m 5 1 0 (mU p), .tab 0 Y9]⟩ (Qbo wx1 x1 r) := by
 intro k
 induction k with
 | zero =>
  intro g j l x1 p a m h
  exact zn h
 | succ k ih =>
  intro g j l x1 p a m h
  rw [Lm] at h
  refine Q6 ?_
  refine T.seq (Qr ?_)
  refine oI rfl ?_
  refine TL'.nil (tN ?_)
  refine T.seq ?_
  rcases Qd h with ⟨u, h⟩ | ⟨u, h⟩
  refine Qq rfl u ?_
  refine T.skip (tN ?_)
  refine T.seq ?_
  refine T.block ?_
  refine T.seq (Qr ?_)
  obtain ⟨q, ab, h⟩ := bind_some h
  refine oX g Qf Fq i54 ab rfl ?_
  refine sp rfl (Za rfl (dk rfl) Cp rfl i54 rfl (nb rfl) ?_)
  refine sp rfl (Zh rfl (dk rfl) i54 rfl (fun av => ?_))
  refine sp rfl (Qy (i := 0) (cells' := [.d (.int .i64 q.To), .d (.sl false 1 (mU q.Ops))]) rfl rfl i54 rfl rfl rfl rfl (nb rfl) rfl ?_)
  refine TL'.nil (tN ?_)
  refine T.seq ?_
  refine T.seq (Qr ?_)
  refine oP Cp i3 rfl ?_
  refine oL 0 ul3 rfl ?_
  refine oI rfl ?_
  refine TL'.nil (tN ?_)
  rcases Qd h with ⟨w, h⟩ | ⟨w, h⟩
  refine Qq rfl w ?_
  refine T.seq (Qr ?_)
  refine mw rfl ?_
  obtain ⟨ac, ad, h⟩ := bind_some h
  refine sp rfl (Pv (f := 70) (vs := [.pointer (some ⟨a, 0, none⟩)]) rfl rfl (dk rfl) Tryz.func70 rfl rfl (Q8 (is := [4, 2, 3]) (ph := []) rfl (dk rfl) Tryz.func70 rfl rfl (Q5.cons rfl (Q5.cons rfl Q5.nil)) (Ka K (bx1 := a) (wx1c1 := m) ad) (.cons rfl rfl (.cons rfl rfl (.cons rfl rfl (.nil)))) (fun _ => rfl) (fun af => ?_)))
  refine nm (.c (.c (.c (.c (.c (.n)))))) ?_
  refine TL'.nil (tN ?_)
  refine T.exit (Qj (Qs (tN ?_)))
  refine Qr ?_
  refine oI rfl ?_
  refine mw rfl ?_
  refine TL'.nil (tN ?_)
  refine Qh ?_ (ih g j (wI (l + (1:Int))) x1 ac a (af 0) h)
  exact tr rfl (.c (.s .z) (.c (.s .z) (.c (.s .z) (.c (.s .z) (.n _)))))
  refine Qp rfl w ?_
  refine T.skip (tN ?_)
  refine T.seq (Qr ?_)
  refine mw rfl ?_
  refine mw rfl ?_
  refine oP Cp i3 rfl ?_
  refine oL 0 ul3 rfl ?_
  obtain ⟨y, aa, h⟩ := bind_some h
  refine sp rfl (Yb (n := 1) (xs := x1) (f := (cI .i64)) (old := y) rfl (dk rfl) Zx i3 rfl rfl rfl aa ?_)
  refine sp rfl (Hq (i := 1) (xs := x1) (f := (cI .i64)) (old := y) rfl (dk rfl) ul3 rfl rfl rfl (Zu aa).2 rfl ?_)
  obtain ⟨ay, ag, h⟩ := bind_some h
  refine sp rfl (Pv (f := 70) (vs := [.pointer (some ⟨a, 0, none⟩)]) rfl rfl (dk rfl) Tryz.func70 rfl rfl (Q8 (is := [4, 2, 3]) (ph := []) rfl (dk rfl) Tryz.func70 rfl rfl (Q5.cons rfl (Q5.cons rfl Q5.nil)) (Ka K (bx1 := a) (wx1c1 := m) ag) (.cons rfl rfl (.cons rfl rfl (.cons rfl rfl (.nil)))) (fun _ => rfl) (fun ai => ?_)))
  refine nm (.c (.c (.c (.c (.c (.n)))))) ?_
  refine TL'.nil (tN (T.seq (Qr ?_)))
  refine oP Cp i52 rfl ?_
  refine oL 0 C8 rfl ?_
  obtain ⟨az, aj, h⟩ := bind_some h
  refine sp rfl (Q8 (is := [2, 3]) (ph := []) rfl (dk rfl) Tryz.func72 rfl rfl (Q5.cons rfl (Q5.cons rfl Q5.nil)) (Sy K (bx0 := a) (wx0c1 := (ai 0)) (flx1 := false) aj) (.cons rfl rfl (.cons rfl rfl (.nil))) (fun _ => rfl) (fun al => ?_))
  refine nm (.c (.c (.c (.c (.c (.n)))))) ?_
  refine TL'.nil (tN ?_)
  refine Qr ?_
  refine mw rfl ?_
  refine oP Cp i52 rfl ?_
  refine oL 0 C8 rfl ?_
  refine oU q.Ops (cI .u8) C8 rfl ?_
  obtain ⟨am, an, h⟩ := bind_some h
  refine sp rfl (Pv (f := 70) (vs := [.pointer (some ⟨a, 0, none⟩)]) rfl rfl (dk rfl) Tryz.func70 rfl rfl (Q8 (is := [4, 2, 3]) (ph := []) rfl (dk rfl) Tryz.func70 rfl rfl (Q5.cons rfl (Q5.cons rfl Q5.nil)) (Ka K (bx1 := a) (wx1c1 := (al 0)) an) (.cons rfl rfl (.cons rfl rfl (.cons rfl rfl (.nil)))) (fun _ => rfl) (fun ap => ?_)))
  refine nm (.c (.c (.c (.c (.c (.n)))))) ?_
  refine TL'.nil (Qn (tN ?_))
  refine Qr ?_
  refine oI rfl ?_
  refine mw rfl ?_
  refine TL'.nil (tN ?_)
  refine Qh ?_ (ih g j (wI (l + (1:Int))) x1 am a (ap 0) h)
  exact tr rfl (.c (.s .z) (.c (.s .z) (.c (.s .z) (.c (.s .z) (.n _)))))
  refine Qp rfl u ?_
  refine T.exit (Qj (Qj (Qs (tN ?_))))
  refine T.seq (Qr ?_)
  obtain ⟨aq, h⟩ := Zf h
  obtain ⟨au, h⟩ := Zf h
  refine sp rfl (Q8 (is := [1, 2]) (ph := []) rfl (dk rfl) Tryz.func73 rfl rfl (Q5.cons rfl Q5.nil) (builder_String (b := a) (xs := p) aq au) (.cons rfl rfl (.cons rfl rfl (.nil))) (fun _ => rfl) (fun a0 => ?_))
  refine nm (.c (.c (.c (.c (.n))))) ?_
  refine aw rfl ?_
  refine TL'.nil (tN ?_)
  refine T.ret ?_
  exact Q7 (.cons _ _ _ _ (.tmp 4 _ rfl) .nil) (.cons 3 rfl (.cons 0 rfl (.nil _))) (by cases h; exact ⟨gl [], rfl, rfl⟩)
theorem trim_sign_l1_T {r : ByteArray} (K : Nat) (wx1 : Value) (x1 : List Int) : ∀ (k : Nat), ∀ (x0 : Qa) (g j : Int) (x1 m : List Int) (p a : Nat) (b : Value), K6 K k x0 g j x1 m = some r → TL tp 70 (ca [1,1,1,1,1,0,1,0,0] Tryz.f40) ⟨[(1, .c (.ex wx1)), (2, .ptr p 0), (5, .ptr a 0), (6, .c (.ex (.func (.func 70) #[] #[.pointer (some ⟨a, 0, none⟩)]))), (31, .sl false 1 (mI x0.Rule)), (32, .int .i64 g), (33, .int .i64 j)], [.arrX wx1 3 1 0 (mI x1), (Jz p x0.L x0.R x0.Rule x0.Next), (Kj a a b), .arrX b 5 1 0 (mU m), .tab 0 Y9]⟩ (Qcy wx1 x1 r) := by
 intro k
 induction k with
 | zero =>
  intro x0 g j x1 m p a b h
  exact zn h
 | succ k ih =>
  intro x0 g j x1 m p a b h
  rw [K6] at h
  refine Q6 ?_
  refine T.seq (Qr ?_)
  refine oI rfl ?_
  refine TL'.nil (tN ?_)
  refine T.seq ?_
  rcases Qd h with ⟨q, h⟩ | ⟨q, h⟩
  refine Qq rfl q ?_
  refine T.skip (tN ?_)
  refine T.seq ?_
  refine T.block ?_
  refine T.seq (Qr ?_)
  obtain ⟨w, y, h⟩ := bind_some h
  refine oX x0.Rule (cI .i64) Zx i3 y rfl ?_
  refine oR ul3 rfl ?_
  refine aw rfl ?_
  refine TL'.nil (tN ?_)
  refine Qr ?_
  refine mw rfl ?_
  refine mw rfl ?_
  obtain ⟨aa, ab, h⟩ := bind_some h
  refine sp rfl (Pv (f := 70) (vs := [.pointer (some ⟨a, 0, none⟩)]) rfl rfl (dk rfl) Tryz.func70 rfl rfl (Q8 (is := [4, 2, 3]) (ph := []) rfl (dk rfl) Tryz.func70 rfl rfl (Q5.cons rfl (Q5.cons rfl Q5.nil)) (Ka K (bx1 := a) (wx1c1 := b) ab) (.cons rfl rfl (.cons rfl rfl (.cons rfl rfl (.nil)))) (fun _ => rfl) (fun ac => ?_)))
  refine nm (.c (.c (.c (.c (.c (.n)))))) ?_
  refine TL'.nil (Qn (tN ?_))
  refine Qr ?_
  refine oI rfl ?_
  refine mw rfl ?_
  refine TL'.nil (tN ?_)
  refine Qh ?_ (ih x0 g (wI (j + (1:Int))) x1 aa p a (ac 0) h)
  exact tq rfl rfl
  refine Qp rfl q ?_
  refine T.exit (Qj (Qj (Qs (tN ?_))))
  refine T.seq ?_
  refine T.seq (Qr ?_)
  refine oA 1 [.sl false 1 (mI x0.L), .sl false 1 (mI x0.R), .sl false 1 (mI x0.Rule), .sl false 1 (x0.Next.map (cL 2 Qf))] Wi i51 rfl ?_
  obtain ⟨u, ad, h⟩ := bind_some h
  refine sp rfl (Q0 rfl (dk rfl) Tryz.func33 rfl rfl (Q5.cons rfl Q5.nil) (Zm.nil (Qbq K ad)) ?_)
  refine oU u Qf Fq rfl ?_
  refine mw rfl ?_
  refine TL'.nil (tN ?_)
  refine T.block ?_
  refine T.loop ?_
  refine Qh ?_ (trim_sign_l2_T K wx1 x1 K u (u.length : Int) (0:Int) x1 m a b h)
  exact tr rfl (.c .z (.c (.s .z) (.c (.s .z) (.c (.s .z) (.n _)))))
theorem trim_sign_l0_T {r : ByteArray} (K : Nat) (wx1 : Value) (x1 : List Int) : ∀ (k : Nat), ∀ (x0 : Qa) (j l : Int) (x1 m : List Int) (b a : Nat) (g : Value), K7 K k x0 j l x1 m = some r → TL tp 70 (ca [1,1,1,1,0,1,0,0] Tryz.f40) ⟨[(1, .c (.ex wx1)), (2, .ptr b 0), (5, .ptr a 0), (6, .c (.ex (.func (.func 70) #[] #[.pointer (some ⟨a, 0, none⟩)]))), (20, .sl false 1 (mI x0.R)), (21, .int .i64 j), (22, .int .i64 l)], [.arrX wx1 3 1 0 (mI x1), (Jz b x0.L x0.R x0.Rule x0.Next), (Kj a a g), .arrX g 5 1 0 (mU m), .tab 0 Y9]⟩ (Qdl wx1 x1 r) := by
 intro k
 induction k with
 | zero =>
  intro x0 j l x1 m b a g h
  exact zn h
 | succ k ih =>
  intro x0 j l x1 m b a g h
  rw [K7] at h
  refine Q6 ?_
  refine T.seq (Qr ?_)
  refine oI rfl ?_
  refine TL'.nil (tN ?_)
  refine T.seq ?_
  rcases Qd h with ⟨p, h⟩ | ⟨p, h⟩
  refine Qq rfl p ?_
  refine T.skip (tN ?_)
  refine T.seq ?_
  refine T.block ?_
  refine T.seq (Qr ?_)
  obtain ⟨q, s, h⟩ := bind_some h
  refine oX x0.R (cI .i64) Zx i3 s rfl ?_
  refine oR ul3 rfl ?_
  refine aw rfl ?_
  refine TL'.nil (tN ?_)
  refine Qr ?_
  refine mw rfl ?_
  refine mw rfl ?_
  obtain ⟨u, w, h⟩ := bind_some h
  refine sp rfl (Pv (f := 70) (vs := [.pointer (some ⟨a, 0, none⟩)]) rfl rfl (dk rfl) Tryz.func70 rfl rfl (Q8 (is := [4, 2, 3]) (ph := []) rfl (dk rfl) Tryz.func70 rfl rfl (Q5.cons rfl (Q5.cons rfl Q5.nil)) (Ka K (bx1 := a) (wx1c1 := g) w) (.cons rfl rfl (.cons rfl rfl (.cons rfl rfl (.nil)))) (fun _ => rfl) (fun y => ?_)))
  refine nm (.c (.c (.c (.c (.c (.n)))))) ?_
  refine TL'.nil (Qn (tN ?_))
  refine Qr ?_
  refine oI rfl ?_
  refine mw rfl ?_
  refine TL'.nil (tN ?_)
  refine Qh ?_ (ih x0 j (wI (l + (1:Int))) x1 u b a (y 0) h)
  exact tq rfl rfl
  refine Qp rfl p ?_
  refine T.exit (Qj (Qj (Qs (tN ?_))))
  refine T.seq ?_
  refine T.seq (Qr ?_)
  refine oP Wi i38 rfl ?_
  refine oL 1 Zx rfl ?_
  refine oU x0.Rule (cI .i64) Zx rfl ?_
  refine mw rfl ?_
  refine TL'.nil (tN ?_)
  refine T.block ?_
  refine T.loop ?_
  refine Qh ?_ (trim_sign_l1_T K wx1 x1 K x0 (x0.Rule.length : Int) (0:Int) x1 m b a g h)
  exact tq rfl rfl
theorem trim_sign_T (K : Nat) {x0 : Qa} {x1 : List Int} {wx1 : Value} {r : ByteArray} (h : Qbp K x0 x1 = some r) : U7 tp 40 [.agg [.sl false 1 (mI x0.L), .sl false 1 (mI x0.R), .sl false 1 (mI x0.Rule), .sl false 1 (x0.Next.map (cL 2 Qf))], .c (.ex wx1)] [.tab 0 Y9, .arrX wx1 3 1 0 (mI x1)] (fun γ => (.str r)) (fun γ => [.tab 0 Y9, .arrX wx1 3 1 0 (mI x1)]) := by
 refine Qt Tryz.func40 rfl (nb rfl) ?_
 show T tp 70 (ca [] Tryz.f40) ⟨Qw 0 [.agg [.sl false 1 (mI x0.L), .sl false 1 (mI x0.R), .sl false 1 (mI x0.Rule), .sl false 1 (x0.Next.map (cL 2 Qf))], .c (.ex wx1)], [.tab 0 Y9, .arrX wx1 3 1 0 (mI x1)]⟩ (B7 wx1 x1 r)
 unfold Qbp at h
 refine T.seq (Qr ?_)
 refine sp rfl (Zb rfl (dk rfl) rfl (fun b => ?_))
 refine aw rfl ?_
 refine TL'.nil (tN (T.seq (Qr ?_)))
 refine sp rfl (Zh rfl (dk rfl) i134 rfl (fun a => ?_))
 refine TL'.nil (tN (T.seq (Qr ?_)))
 refine sp rfl (OpT.makeFunc (vs := [.pointer (some ⟨a, 0, none⟩)]) rfl (dk rfl) rfl ?_)
 refine aw rfl ?_
 refine TL'.nil (tN (T.seq (Qr ?_)))
 refine mw rfl ?_
 refine oP Wi i38 rfl ?_
 refine oL 1 Zx rfl ?_
 refine oU x0.R (cI .i64) Zx rfl ?_
 refine Hz (Qid 5 1) ?_
 obtain ⟨d, g, h⟩ := bind_some h
 refine sp rfl (Pv (f := 70) (vs := [.pointer (some ⟨a, 0, none⟩)]) rfl rfl (dk rfl) Tryz.func70 rfl rfl (Q8 (is := [3, 1, 0]) (ph := []) rfl (dk rfl) Tryz.func70 rfl rfl (Q5.cons rfl (Q5.cons rfl Q5.nil)) (trim_sign_1_T K (bx1 := a) (wx1c1 := (Qf1 10)) g) (.cons rfl rfl (.cons rfl rfl (.cons rfl rfl (.nil)))) (fun _ => rfl) (fun j => ?_)))
 refine nm (.c (.c (.c (.c (.c (.n)))))) ?_
 refine TL'.nil (tN ?_)
 refine T.seq ?_
 refine T.seq (Qr ?_)
 refine oP Wi i38 rfl ?_
 refine oL 2 Zx rfl ?_
 refine oU x0.R (cI .i64) Zx rfl ?_
 refine mw rfl ?_
 refine TL'.nil (tN ?_)
 refine T.block ?_
 refine T.loop ?_
 refine Qh ?_ (trim_sign_l0_T K wx1 x1 K x0 (x0.R.length : Int) (0:Int) x1 d b a (j 0) h)
 exact tr rfl (.c (.s (.s (.s (.s .z)))) (.c (.s (.s .z)) (.c (.s .z) (.c .z (.c .z (.n _))))))
end Go.Rv

/- Each function computes what its plain text says: printed by a program of ours. -/
import Derived.Test.YtaipjabggdifoaaRgW1
namespace Go.Rv
open Go.Proofs
set_option maxRecDepth 100000
set_option maxHeartbeats 4000000
set_option linter.unusedVariables false
abbrev Hs (r : (List Int) × Int) : ES := Jk tp Try.f10 (fun y t => y = (.tup [.sl false 1 (mU r.1), .int .i64 r.2]) ∧ t = [])
abbrev N3 (r : (List Int) × Int) : ES := thenS (fun s' => T tp 119 (ca [1,1,1,1,1,1,1,1] Try.f10) s' ((Hs r))) ((Hs r))
abbrev Uc (r : (List Int) × Int) : ES := Qz 4 ((N3 r))
abbrev Le (r : (List Int) × Int) : ES := thenS (fun s' => TL tp 119 (ca [1,1,1,1,1,1,1,0,1,0,0] Try.f10) s' ((Uc r))) ((Uc r))
abbrev B1 (r : (List Int) × Int) : ES := thenS (fun s' => T tp 119 (ca [1,1,1,1,1,1,1,0,1,0,0,1,1,1] Try.f10) s' ((Le r))) ((Le r))
abbrev Km (r : (List Int) × Int) : ES := Qz 5 ((B1 r))
abbrev Yu (r : (List Int) × Int) : ES := Qz 6 ((Km r))
abbrev Jn (r : (List Int) × Int) : ES := thenS (fun s' => TL tp 119 (ca [1,1,1,1,1,1,1,0,1,0,0,1,1,0,0,1,1,0,0] Try.f10) s' ((Yu r))) ((Yu r))
abbrev Gi (r : (List Int) × Int) : ES := thenS (fun s' => T tp 119 (ca [1,1,1,1,1,1,1,0,1,0,0,1,1,0,0,1,1,0,0,1,1,1] Try.f10) s' ((Jn r))) ((Jn r))
abbrev Jz (r : (List Int) × Int) : ES := Qz 7 ((Gi r))
abbrev Jj (r : (List Int) × Int) : ES := Qz 8 ((Jz r))
abbrev Pe (r : (List Int) × Int) : ES := thenS (fun s' => T tp 119 (ca [1,1,1,1,1,1,1] Try.f10) s' ((Hs r))) ((Hs r))
abbrev Im (r : (List Int) × Int) : ES := Qz 2 ((Pe r))
abbrev Sr (r : (List Int) × Int) : ES := thenS (fun s' => T tp 119 (ca [1,1,1,1,1] Try.f10) s' ((Hs r))) ((Hs r))
abbrev Pf (r : (List Int) × Int) : ES := Qz 0 ((Sr r))
abbrev tb_Encode_l3_H (r : (List Int) × Int) (go : aAu → Int → Int → (List (List aMv)) → Int → Int → (List Int) → (List Int) → (List Int) → (List Int) → (List (List aMv)) → Option ((List Int) × Int)) : Prop := ∀ (x0 : aAu) (a b : Int) (c : List (List aMv)) (f g : Int) (i j : List Int) (l m : List Int) (n : List (List aMv)) (p : Nat) (q : Value) (s : Nat), go x0 a b c f g i j l m n = some r → TL tp 119 (ca [1,1,1,1,1,1,1,0,1,0,0,1,1,0,0,1,1,0,0] Try.f10) ⟨[(4, .ptr p 0), (10, .ptr s 0), (67, .sl false 4 (x0.States.map Q0)), (68, .int .i64 a), (69, .int .i64 b), (74, .sl false 1 (c.map (cL 2 Qu))), (75, .int .i64 f), (76, .int .i64 g)], [(D5 p q), .arrA q 5 1 (mU i), (Zw s j l m n)]⟩ (Yu r)
theorem tb_Encode_l4_T {r : (List Int) × Int} (K : Nat) (go3 : aAu → Int → Int → (List (List aMv)) → Int → Int → (List Int) → (List Int) → (List Int) → (List Int) → (List (List aMv)) → Option ((List Int) × Int)) (hgo3 : tb_Encode_l3_H r go3) : ∀ (k : Nat), ∀ (x0 : aAu) (m p : Int) (q : List (List aMv)) (y aa : Int) (ab : List aMv) (ai aj : Int) (am ac : List Int) (ad af : List Int) (ag : List (List aMv)) (g : Nat) (al : Value) (l : Nat), X7 K go3 k x0 m p q y aa ab ai aj am ac ad af ag = some r → TL tp 119 (ca [1,1,1,1,1,1,1,0,1,0,0,1,1,0,0,1,1,0,0,1,1,0,0,1,1,1,0,0] Try.f10) ⟨[(4, .ptr g 0), (10, .ptr l 0), (67, .sl false 4 (x0.States.map Q0)), (68, .int .i64 m), (69, .int .i64 p), (74, .sl false 1 (q.map (cL 2 Qu))), (75, .int .i64 y), (76, .int .i64 aa), (90, .sl false 2 (ab.map Qu)), (91, .int .i64 ai), (92, .int .i64 aj)], [(D5 g al), .arrA al 5 1 (mU am), (Zw l ac ad af ag)]⟩ (Jj r) := by
 intro k
 induction k with
 | zero =>
  intro x0 m p q y aa ab ai aj am ac ad af ag g al l h
  cases (show (none : Option ((List Int) × Int)) = some r from h)
 | succ k ih =>
  intro x0 m p q y aa ab ai aj am ac ad af ag g al l h
  rw [X7] at h
  refine Q4 ?_
  refine T.seq (Qq ?_)
  refine sp rfl (Qa rfl rfl (dk rfl) rfl rfl ?_)
  refine TL'.nil (tN ?_)
  refine T.seq ?_
  rcases Qd h with ⟨au, h⟩ | ⟨au, h⟩
  refine Qk rfl au ?_
  refine T.skip (tN ?_)
  refine T.seq ?_
  refine T.block ?_
  refine T.seq (Qq ?_)
  obtain ⟨j, av, h⟩ := bind_some h
  refine sp rfl (Qh (xs := ab) (f := Qu) (v := j) rfl (dk rfl) Fq i63 rfl rfl av ?_)
  refine sp rfl (Zj rfl (dk rfl) Kg rfl i63 rfl (nb rfl) ?_)
  refine sp rfl (Zi rfl (dk rfl) i63 rfl (fun an => ?_))
  refine sp rfl (Q1 (i := 0) (cells' := [.d (.int .i64 j.To), .d (.sl false 1 (mU j.Ops))]) rfl rfl i63 rfl rfl rfl rfl (nb rfl) rfl ?_)
  refine TL'.nil (tN (T.seq (Qq ?_)))
  refine mw rfl ?_
  refine sp rfl (Qg rfl (dk rfl) Kg rfl i3 (by decide) rfl ?_)
  refine sp rfl (Qm (i := 0) rfl (dk rfl) ul3 rfl rfl rfl rfl ?_)
  refine sp rfl (Qa rfl rfl (dk rfl) rfl rfl ?_)
  refine sp rfl (OpT.buildSlice (elems := ([(wI (j.To + (1:Int)))] : List Int).map (cI .i64)) rfl (dk rfl) Yd i3 (by decide) rfl (J6 rfl) rfl rfl rfl (Yp rfl) (by decide) ?_)
  obtain ⟨ap, ay, h⟩ := bind_some h
  refine sp rfl (Q2 (is := [1, 2]) (ph := []) rfl (dk rfl) Try.func22 rfl rfl (Q3.cons rfl (Q3.cons rfl Q3.nil)) (M1 K (bx0 := g) (wx0c0 := al) (flx1 := true) ay) (.cons rfl rfl (.cons rfl rfl (.nil))) (fun _ => rfl) (fun aq => ?_))
  refine nm (.c (.c (.c (.c (.n))))) ?_
  refine TL'.nil (tN ?_)
  refine Qc Zs ?_
  refine Y3 ?_
  refine dC (c := ⟨some 102, .ptr g 0, [(4, .ptr g 0)], [], []⟩) (fun t hm => oF rfl rfl (OpT.move rfl (dk rfl) hm.s0 ⟨u0, rfl⟩)) (fun _ => rfl) (fun _ => rfl) ?_
  refine dC (c := ⟨some 103, .ptr g 0, [(4, .ptr g 0)], [], []⟩) (fun t hm => oF rfl rfl (OpT.move rfl (dk rfl) hm.s0 ⟨u0, rfl⟩)) (fun _ => rfl) (fun _ => rfl) ?_
  refine dC (c := ⟨some 104, .ptr g 0, [(103, .ptr g 0)], [], []⟩) (fun t hm => oF rfl rfl (OpT.nilCheck rfl (dk rfl) hm.s0 rfl ⟨u0, rfl⟩)) (fun _ => rfl) (fun _ => rfl) ?_
  refine dC (c := ⟨some 105, .ptr g (0 + 0), [(104, .ptr g 0)], [], []⟩) (fun t hm => oF rfl rfl (Qg rfl (dk rfl) ul54 rfl i29 (by decide) hm.s0 ⟨u0, rfl⟩)) (fun _ => rfl) (fun _ => rfl) ?_
  refine dC (c := ⟨some 106, .c (.ex (aq 0)), [(105, .ptr g (0 + 0))], [(2, (D5 g (aq 0)))], []⟩) (fun t hm => oF rfl rfl (Qm (i := 2) rfl (dk rfl) Xg rfl hm.s0 hm.o0 rfl ⟨u0, rfl⟩)) (fun _ => rfl) (fun _ => rfl) ?_
  refine dC (c := ⟨some 107, .ptr an (0 + 1), [(14, .ptr an 0)], [], []⟩) (fun t hm => oF rfl rfl (Qg rfl (dk rfl) Kg rfl i29 (by decide) hm.s0 ⟨u0, rfl⟩)) (fun _ => rfl) (fun _ => rfl) ?_
  refine dC (c := ⟨some 108, .sl false 1 (mU j.Ops), [(107, .ptr an (0 + 1))], [(1, (W9 an j.To j.Ops))], []⟩) (fun t hm => oF rfl rfl (Qm (i := 1) rfl (dk rfl) Xg rfl hm.s0 hm.o0 rfl ⟨u0, rfl⟩)) (fun _ => rfl) (fun _ => rfl) ?_
  obtain ⟨az, h⟩ := Zh h
  refine DGG.step (c := fun a => ⟨some 109, .c (.ex ((a 7).1 0)), [(108, .sl false 1 (mU j.Ops)), (106, .c (.ex (aq 0)))], [(3, .arrA (aq 0) 5 1 (mU ap.b))], [(3, .arrA ((a 7).1 0) 5 1 ((ap.b ++ j.Ops).map (cI .u8)))]⟩) [7] (fun a γ' h => by simp only [h 7 (by decide)]) (fun a t hm => oF rfl rfl (Za (i := 3) (xs := ap.b) (ys := j.Ops) (f := (cI .u8)) rfl (dk rfl) Xg i5 rfl hm.s1 hm.o0 hm.s0 az (fun w => ⟨(fun _ => w, 0), rfl⟩))) (fun a => Zq rfl rfl) ?_
  refine dC (c := ⟨some 110, .ptr g 0, [(102, .ptr g 0)], [], []⟩) (fun t hm => oF rfl rfl (OpT.nilCheck rfl (dk rfl) hm.s0 rfl ⟨u0, rfl⟩)) (fun _ => rfl) (fun _ => rfl) ?_
  refine dC (c := ⟨some 111, .ptr g (0 + 0), [(110, .ptr g 0)], [], []⟩) (fun t hm => oF rfl rfl (Qg rfl (dk rfl) ul54 rfl i29 (by decide) hm.s0 ⟨u0, rfl⟩)) (fun _ => rfl) (fun _ => rfl) ?_
  refine DGG.step (c := fun a => ⟨none, .any, [(111, .ptr g (0 + 0)), (109, .c (.ex ((a 7).1 0)))], [(2, (D5 g (aq 0)))], [(2, (D5 g ((a 7).1 0)))]⟩) [7] (fun a γ' h => by simp only [h 7 (by decide)]) (fun a t hm => oF rfl rfl (Xd (i := 2) (cells' := [.d (.ex ((a 7).1 0))]) rfl rfl i29 hm.s0 hm.s1 hm.o0 (nb rfl) rfl ⟨u0, rfl⟩)) (fun a => Zq rfl rfl) ?_
  refine Vi (s1 := fun a => ⟨[(4, .ptr g 0), (10, .ptr l 0), (67, .sl false 4 (x0.States.map Q0)), (68, .int .i64 m), (69, .int .i64 p), (74, .sl false 1 (q.map (cL 2 Qu))), (75, .int .i64 y), (76, .int .i64 aa), (90, .sl false 2 (ab.map Qu)), (91, .int .i64 ai), (92, .int .i64 aj)], [.ro 0 [], (W9 an j.To j.Ops), (D5 g ((a 7).1 0)), .arrA ((a 7).1 0) 5 1 ((ap.b ++ j.Ops).map (cI .u8)), (Zw l ac ad af ag)]⟩) (ms := [0, 0, 2, 6, 14, 0, 32, 126, 255, 511, 1023]) Q7 rfl (by kernel_rfl) (by kernel_rfl) (by kernel_rfl) (fun a => by kernel_rfl) (fun a => sf rfl) (fun _ => rfl) (fun a u hu => (Qe (tN (Qc hu ?_))))
  refine Qq ?_
  refine sp rfl (Qa rfl rfl (dk rfl) rfl rfl ?_)
  refine mw rfl ?_
  refine TL'.nil (tN ?_)
  refine Qb ?_ (ih x0 m p q y aa ab ai (wI (aj + (1:Int))) (ap.b ++ j.Ops) ac ad af ag g ((a 7).1 0) l h)
  exact tr rfl (.c (.s (.s .z)) (.c (.s (.s .z)) (.c (.s (.s .z)) (.n _))))
  refine Qo rfl au ?_
  refine T.exit (Qf (Qf (Qp (Qe (tN ?_)))))
  refine Qq ?_
  refine sp rfl (Qa rfl rfl (dk rfl) rfl rfl ?_)
  refine mw rfl ?_
  refine TL'.nil (tN ?_)
  refine Qb ?_ (hgo3 x0 m p q y (wI (aa + (1:Int))) am ac ad af ag g al l h)
  exact tq rfl rfl
abbrev tb_Encode_l2_H (r : (List Int) × Int) (go : aAu → Int → Int → (List Int) → Option ((List Int) × Int)) : Prop := ∀ (x0 : aAu) (a b : Int) (c : List Int) (f : Nat) (g : Value), go x0 a b c = some r → TL tp 119 (ca [1,1,1,1,1,1,1,0,1,0,0] Try.f10) ⟨[(4, .ptr f 0), (67, .sl false 4 (x0.States.map Q0)), (68, .int .i64 a), (69, .int .i64 b)], [(D5 f g), .arrA g 5 1 (mU c)]⟩ (Uc r)
theorem tb_Encode_l3_T {r : (List Int) × Int} (K : Nat) (go2 : aAu → Int → Int → (List Int) → Option ((List Int) × Int)) (hgo2 : tb_Encode_l2_H r go2) : ∀ (k : Nat), ∀ (x0 : aAu) (g j : Int) (l : List (List aMv)) (q s : Int) (u w : List Int) (y m : List Int) (aa : List (List aMv)) (a : Nat) (p : Value) (ab : Nat), Xt K go2 k x0 g j l q s u w y m aa = some r → TL tp 119 (ca [1,1,1,1,1,1,1,0,1,0,0,1,1,0,0,1,1,0,0] Try.f10) ⟨[(4, .ptr a 0), (10, .ptr ab 0), (67, .sl false 4 (x0.States.map Q0)), (68, .int .i64 g), (69, .int .i64 j), (74, .sl false 1 (l.map (cL 2 Qu))), (75, .int .i64 q), (76, .int .i64 s)], [(D5 a p), .arrA p 5 1 (mU u), (Zw ab w y m aa)]⟩ (Yu r) := by
 intro k
 induction k with
 | zero =>
  intro x0 g j l q s u w y m aa a p ab h
  cases (show (none : Option ((List Int) × Int)) = some r from h)
 | succ k ih =>
  intro x0 g j l q s u w y m aa a p ab h
  rw [Xt] at h
  refine Q4 ?_
  refine T.seq (Qq ?_)
  refine sp rfl (Qa rfl rfl (dk rfl) rfl rfl ?_)
  refine TL'.nil (tN ?_)
  refine T.seq ?_
  rcases Qd h with ⟨ad, h⟩ | ⟨ad, h⟩
  refine Qk rfl ad ?_
  refine T.skip (tN ?_)
  refine T.seq ?_
  refine T.block ?_
  refine T.seq (Qq ?_)
  refine mw rfl ?_
  obtain ⟨ac, ag, h⟩ := bind_some h
  refine sp rfl (Qh (xs := l) (f := (cL 2 Qu)) (v := ac) rfl (dk rfl) B0 i61 rfl rfl ag ?_)
  refine sp rfl (Qr rfl (dk rfl) Fq rfl rfl rfl ?_)
  refine aw rfl ?_
  refine aw rfl ?_
  refine TL'.nil (tN (T.seq (Qq ?_)))
  refine mw rfl ?_
  refine sp rfl (Qg rfl (dk rfl) Vm rfl i56 (by decide) rfl ?_)
  refine sp rfl (Qm (i := 2) rfl (dk rfl) Yd rfl rfl rfl rfl ?_)
  refine mw rfl ?_
  obtain ⟨af, ai, h⟩ := bind_some h
  refine sp rfl (Qh (xs := m) (f := (cI .i64)) (v := af) rfl (dk rfl) Yd i3 rfl rfl ai ?_)
  refine sp rfl (Qr rfl (dk rfl) ul3 rfl rfl rfl ?_)
  refine sp rfl (Qa rfl rfl (dk rfl) rfl rfl ?_)
  refine sp rfl (OpT.buildSlice (elems := ([(wI (af + (1:Int)))] : List Int).map (cI .i64)) rfl (dk rfl) Yd i3 (by decide) rfl (J6 rfl) rfl rfl rfl (Yp rfl) (by decide) ?_)
  obtain ⟨aj, al, h⟩ := bind_some h
  refine sp rfl (Q2 (is := [0, 1]) (ph := []) rfl (dk rfl) Try.func22 rfl rfl (Q3.cons rfl (Q3.cons rfl Q3.nil)) (M1 K (bx0 := a) (wx0c0 := p) (flx1 := true) al) (.cons rfl rfl (.cons rfl rfl (.nil))) (fun _ => rfl) (fun am => ?_))
  refine nm (.c (.c (.c (.n)))) ?_
  refine TL'.nil (tN (T.seq (Qq ?_)))
  refine mw rfl ?_
  refine sp rfl (Qn (xs := ac) (f := Qu) rfl (dk rfl) Fq rfl ?_)
  refine mw rfl ?_
  refine TL'.nil (tN ?_)
  refine T.block ?_
  refine T.loop ?_
  refine Qb ?_ (tb_Encode_l4_T K (Xt K go2 k) ih K x0 g j l q s ac (ac.length : Int) (0:Int) aj.b w y m aa a (am 0) ab h)
  exact tq rfl rfl
  refine Qo rfl ad ?_
  refine T.exit (Qf (Qf (Qp (Qe (tN ?_)))))
  refine Qq ?_
  refine sp rfl (Qa rfl rfl (dk rfl) rfl rfl ?_)
  refine mw rfl ?_
  refine TL'.nil (tN ?_)
  refine Qb ?_ (hgo2 x0 g (wI (j + (1:Int))) u a p h)
  exact tq rfl rfl
theorem tb_Encode_l2_T {r : (List Int) × Int} (K : Nat) : ∀ (k : Nat), ∀ (x0 : aAu) (b g : Int) (j : List Int) (l : Nat) (m : Value), Xj K k x0 b g j = some r → TL tp 119 (ca [1,1,1,1,1,1,1,0,1,0,0] Try.f10) ⟨[(4, .ptr l 0), (67, .sl false 4 (x0.States.map Q0)), (68, .int .i64 b), (69, .int .i64 g)], [(D5 l m), .arrA m 5 1 (mU j)]⟩ (Uc r) := by
 intro k
 induction k with
 | zero =>
  intro x0 b g j l m h
  cases (show (none : Option ((List Int) × Int)) = some r from h)
 | succ k ih =>
  intro x0 b g j l m h
  rw [Xj] at h
  refine Q4 ?_
  refine T.seq (Qq ?_)
  refine sp rfl (Qa rfl rfl (dk rfl) rfl rfl ?_)
  refine TL'.nil (tN ?_)
  refine T.seq ?_
  rcases Qd h with ⟨p, h⟩ | ⟨p, h⟩
  refine Qk rfl p ?_
  refine T.skip (tN ?_)
  refine T.seq ?_
  refine T.block ?_
  refine T.seq (Qq ?_)
  obtain ⟨a, q, h⟩ := bind_some h
  refine sp rfl (Qh (xs := x0.States) (f := Q0) (v := a) rfl (dk rfl) X5 i59 rfl rfl q ?_)
  refine sp rfl (Zj rfl (dk rfl) Vm rfl i59 rfl (nb rfl) ?_)
  refine sp rfl (Zi rfl (dk rfl) i59 rfl (fun u => ?_))
  refine sp rfl (Q1 (i := 0) (cells' := [.d (.sl false 1 (mI a.L)), .d (.sl false 1 (mI a.R)), .d (.sl false 1 (mI a.Rule)), .d (.sl false 1 (a.Next.map (cL 2 Qu)))]) rfl rfl i59 rfl rfl rfl rfl (nb rfl) rfl ?_)
  refine TL'.nil (tN (T.seq (Qq ?_)))
  refine sp rfl (Qg rfl (dk rfl) Vm rfl i57 (by decide) rfl ?_)
  refine sp rfl (Qm (i := 0) rfl (dk rfl) B0 rfl rfl rfl rfl ?_)
  refine sp rfl (Qn (xs := a.Next) (f := (cL 2 Qu)) rfl (dk rfl) B0 rfl ?_)
  refine mw rfl ?_
  refine TL'.nil (tN ?_)
  refine T.block ?_
  refine T.loop ?_
  refine Qb ?_ (tb_Encode_l3_T K (Xj K k) ih K x0 b g a.Next (a.Next.length : Int) (0:Int) j a.L a.R a.Rule a.Next l m u h)
  exact tr rfl (.c (.s .z) (.c (.s .z) (.c .z (.n _))))
  refine Qo rfl p ?_
  refine T.exit (Qf (Qf (Qp (tN ?_))))
  refine T.seq (Qq ?_)
  refine mw rfl ?_
  refine sp rfl (OpT.nilCheck rfl (dk rfl) rfl rfl ?_)
  refine sp rfl (Qg rfl (dk rfl) ul54 rfl i29 (by decide) rfl ?_)
  refine sp rfl (Qm (i := 0) rfl (dk rfl) Xg rfl rfl rfl rfl ?_)
  refine aw rfl ?_
  refine aw rfl ?_
  refine TL'.nil (tN ?_)
  refine T.ret ?_
  refine Xf (Zn.view 2 1 rfl rfl) ?_
  exact Fin.done (.cons _ _ _ _ (.tmp 2 _ rfl) (.cons _ _ _ _ (.tmp 3 _ rfl) .nil)) (by cases h; exact ⟨rfl, rfl⟩)
theorem tb_Encode_l1_T {r : (List Int) × Int} (K : Nat) : ∀ (k : Nat), ∀ (x0 : aAu) (j l : Int) (m : List Int) (p a : Nat) (g : Value), Xu K k x0 j l m = some r → TL tp 119 (ca [1,1,1,1,1,1,0,1,0,0] Try.f10) ⟨[(1, .ptr p 0), (4, .ptr a 0), (51, .sl false 4 (x0.States.map Q0)), (52, .int .i64 j), (53, .int .i64 l)], [.ro p ((Qx.dc 256 .u8 x0.Split.Of) ++ (([.int .i64 x0.Split.Many, .sl false 2 (mA x0.Counts), .sl false 4 (x0.States.map Q0)] : List DC))), (D5 a g), .arrA g 5 1 (mU m)]⟩ (Im r) := by
 intro k
 induction k with
 | zero =>
  intro x0 j l m p a g h
  cases (show (none : Option ((List Int) × Int)) = some r from h)
 | succ k ih =>
  intro x0 j l m p a g h
  rw [Xu] at h
  refine Q4 ?_
  refine T.seq (Qq ?_)
  refine sp rfl (Qa rfl rfl (dk rfl) rfl rfl ?_)
  refine TL'.nil (tN ?_)
  refine T.seq ?_
  rcases Qd h with ⟨u, h⟩ | ⟨u, h⟩
  refine Qk rfl u ?_
  refine T.skip (tN ?_)
  refine T.seq ?_
  refine T.block ?_
  refine T.seq (Qq ?_)
  obtain ⟨q, w, h⟩ := bind_some h
  refine sp rfl (Qh (xs := x0.States) (f := Q0) (v := q) rfl (dk rfl) X5 i59 rfl rfl w ?_)
  refine sp rfl (Zj rfl (dk rfl) Vm rfl i59 rfl (nb rfl) ?_)
  refine sp rfl (Zi rfl (dk rfl) i59 rfl (fun af => ?_))
  refine sp rfl (Q1 (i := 0) (cells' := [.d (.sl false 1 (mI q.L)), .d (.sl false 1 (mI q.R)), .d (.sl false 1 (mI q.Rule)), .d (.sl false 1 (q.Next.map (cL 2 Qu)))]) rfl rfl i59 rfl rfl rfl rfl (nb rfl) rfl ?_)
  refine TL'.nil (tN (T.seq (Qq ?_)))
  refine mw rfl ?_
  refine sp rfl (Qg rfl (dk rfl) Vm rfl i56 (by decide) rfl ?_)
  refine sp rfl (Qm (i := 0) rfl (dk rfl) Yd rfl rfl rfl rfl ?_)
  obtain ⟨ag, y, h⟩ := bind_some h
  refine sp rfl (Q2 (is := [2, 3]) (ph := []) rfl (dk rfl) Try.func23 rfl rfl (Q3.cons rfl (Q3.cons rfl Q3.nil)) (tbw_list_T K (bx0 := a) (wx0c0 := g) (flx1 := false) y) (.cons rfl rfl (.cons rfl rfl (.nil))) (fun _ => rfl) (fun aa => ?_))
  refine nm (.c (.c (.c (.c (.n))))) ?_
  refine TL'.nil (tN ?_)
  refine Qq ?_
  refine mw rfl ?_
  refine sp rfl (Qg rfl (dk rfl) Vm rfl i56 (by decide) rfl ?_)
  refine sp rfl (Qm (i := 0) rfl (dk rfl) Yd rfl rfl rfl rfl ?_)
  obtain ⟨ab, ac, h⟩ := bind_some h
  refine sp rfl (Q2 (is := [2, 3]) (ph := []) rfl (dk rfl) Try.func23 rfl rfl (Q3.cons rfl (Q3.cons rfl Q3.nil)) (tbw_list_T K (bx0 := a) (wx0c0 := (aa 0)) (flx1 := false) ac) (.cons rfl rfl (.cons rfl rfl (.nil))) (fun _ => rfl) (fun ad => ?_))
  refine nm (.c (.c (.c (.c (.n))))) ?_
  refine TL'.nil (Qe (tN ?_))
  refine Qq ?_
  refine sp rfl (Qa rfl rfl (dk rfl) rfl rfl ?_)
  refine mw rfl ?_
  refine TL'.nil (tN ?_)
  refine Qb ?_ (ih x0 j (wI (l + (1:Int))) ab.b p a (ad 0) h)
  exact tr rfl (.c (.s .z) (.c (.s .z) (.c (.s .z) (.n _))))
  refine Qo rfl u ?_
  refine T.exit (Qf (Qf (Qp (tN ?_))))
  refine T.seq ?_
  refine T.seq (Qq ?_)
  refine sp rfl (Qg rfl (dk rfl) Xe rfl i26 (by decide) rfl ?_)
  refine sp rfl (Eb (i := 0) rfl (dk rfl) X5 rfl rfl rfl rfl ?_)
  refine sp rfl (Qn (xs := x0.States) (f := Q0) rfl (dk rfl) X5 rfl ?_)
  refine mw rfl ?_
  refine TL'.nil (tN ?_)
  refine T.block ?_
  refine T.loop ?_
  refine Qb ?_ (tb_Encode_l2_T K K x0 (x0.States.length : Int) (0:Int) m a g h)
  exact tr rfl (.c (.s .z) (.c (.s .z) (.n _)))
theorem tb_Encode_l0_T {r : (List Int) × Int} (K : Nat) : ∀ (k : Nat), ∀ (x0 : aAu) (m p : Int) (u : List Int) (g a : Nat) (j : Value), X8 K k x0 m p u = some r → TL tp 119 (ca [1,1,1,1,0,1,0,0] Try.f10) ⟨[(1, .ptr g 0), (4, .ptr a 0), (34, .sl false 2 (mA x0.Counts)), (35, .int .i64 m), (36, .int .i64 p)], [.ro g ((Qx.dc 256 .u8 x0.Split.Of) ++ (([.int .i64 x0.Split.Many, .sl false 2 (mA x0.Counts), .sl false 4 (x0.States.map Q0)] : List DC))), (D5 a j), .arrA j 5 1 (mU u)]⟩ (Pf r) := by
 intro k
 induction k with
 | zero =>
  intro x0 m p u g a j h
  cases (show (none : Option ((List Int) × Int)) = some r from h)
 | succ k ih =>
  intro x0 m p u g a j h
  rw [X8] at h
  refine Q4 ?_
  refine T.seq (Qq ?_)
  refine sp rfl (Qa rfl rfl (dk rfl) rfl rfl ?_)
  refine TL'.nil (tN ?_)
  refine T.seq ?_
  rcases Qd h with ⟨w, h⟩ | ⟨w, h⟩
  refine Qk rfl w ?_
  refine T.skip (tN ?_)
  refine T.seq ?_
  refine T.block ?_
  refine T.seq (Qq ?_)
  obtain ⟨q, y, h⟩ := bind_some h
  refine sp rfl (Qh (xs := x0.Counts) (f := (Zb.dc .i64)) (v := q) rfl (dk rfl) Mq i42 rfl rfl y ?_)
  refine sp rfl (Zj rfl (dk rfl) ul42 rfl i42 rfl (nb rfl) ?_)
  refine sp rfl (Zi rfl (dk rfl) i42 rfl (fun ai => ?_))
  refine sp rfl (Q1 (i := 0) (cells' := (Zb.oc .i64 q)) rfl rfl i42 rfl rfl rfl rfl (nb rfl) rfl ?_)
  refine TL'.nil (tN ?_)
  refine Qq ?_
  refine mw rfl ?_
  refine Y7 (Zn.freeze 0 (l := (Zb.dc .i64 q)) rfl) ?_
  refine sp rfl (Qbp (i := 0) (xs := ([q.a0, q.a1] : List Int)) (f := cI .i64) rfl (dk rfl) ul42 i3 rfl rfl rfl (by decide) (Yp rfl) rfl ?_)
  obtain ⟨aa, ab, h⟩ := bind_some h
  refine sp rfl (Q2 (is := [2, 3]) (ph := []) rfl (dk rfl) Try.func22 rfl rfl (Q3.cons rfl (Q3.cons rfl Q3.nil)) (M1 K (bx0 := a) (wx0c0 := j) (flx1 := true) ab) (.cons rfl rfl (.cons rfl rfl (.nil))) (fun _ => rfl) (fun ac => ?_))
  refine nm (.c (.c (.c (.c (.n))))) ?_
  refine TL'.nil (Qe (tN ?_))
  refine Qq ?_
  refine sp rfl (Qa rfl rfl (dk rfl) rfl rfl ?_)
  refine mw rfl ?_
  refine TL'.nil (tN ?_)
  refine Qb ?_ (ih x0 m (wI (p + (1:Int))) aa.b g a (ac 0) h)
  exact tr rfl (.c (.s .z) (.c (.s .z) (.c (.s .z) (.n _))))
  refine Qo rfl w ?_
  refine T.exit (Qf (Qf (Qp (tN ?_))))
  refine T.seq (Qq ?_)
  refine mw rfl ?_
  refine sp rfl (Qg rfl (dk rfl) Xe rfl i26 (by decide) rfl ?_)
  refine sp rfl (Eb (i := 0) rfl (dk rfl) X5 rfl rfl rfl rfl ?_)
  refine sp rfl (Qn (xs := x0.States) (f := Q0) rfl (dk rfl) X5 rfl ?_)
  refine sp rfl (OpT.buildSlice (elems := ([(x0.States.length : Int)] : List Int).map (cI .i64)) rfl (dk rfl) Yd i3 (by decide) rfl (J6 rfl) rfl rfl rfl (Yp rfl) (by decide) ?_)
  obtain ⟨ad, af, h⟩ := bind_some h
  refine sp rfl (Q2 (is := [1, 2]) (ph := []) rfl (dk rfl) Try.func22 rfl rfl (Q3.cons rfl (Q3.cons rfl Q3.nil)) (M1 K (bx0 := a) (wx0c0 := j) (flx1 := true) af) (.cons rfl rfl (.cons rfl rfl (.nil))) (fun _ => rfl) (fun ag => ?_))
  refine nm (.c (.c (.c (.n)))) ?_
  refine TL'.nil (tN ?_)
  refine T.seq ?_
  refine T.seq (Qq ?_)
  refine sp rfl (Qg rfl (dk rfl) Xe rfl i26 (by decide) rfl ?_)
  refine sp rfl (Eb (i := 0) rfl (dk rfl) X5 rfl rfl rfl rfl ?_)
  refine sp rfl (Qn (xs := x0.States) (f := Q0) rfl (dk rfl) X5 rfl ?_)
  refine mw rfl ?_
  refine TL'.nil (tN ?_)
  refine T.block ?_
  refine T.loop ?_
  refine Qb ?_ (tb_Encode_l1_T K K x0 (x0.States.length : Int) (0:Int) ad.b g a (ag 0) h)
  exact tq rfl rfl
theorem tb_Encode_T (K : Nat) {x0 : aAu} {r : (List Int) × Int} (h : M3 K x0 = some r) : Zt tp 10 [.agg ((Qx.dc 256 .u8 x0.Split.Of) ++ (([.int .i64 x0.Split.Many, .sl false 2 (mA x0.Counts), .sl false 4 (x0.States.map Q0)] : List DC)))] [] (.tup [.sl false 1 (mU r.1), .int .i64 r.2]) := by
 refine Qt Try.func10 rfl (nb rfl) ?_
 show T tp 119 (ca [] Try.f10) ⟨Qv 0 [.agg ((Qx.dc 256 .u8 x0.Split.Of) ++ (([.int .i64 x0.Split.Many, .sl false 2 (mA x0.Counts), .sl false 4 (x0.States.map Q0)] : List DC)))], []⟩ (Hs r)
 unfold M3 at h
 refine T.seq (Qq ?_)
 refine sp rfl (Zg rfl (dk rfl) rfl (fun m => ?_))
 refine aw rfl ?_
 refine aw rfl ?_
 refine TL'.nil (tN ?_)
 refine T.seq ?_
 refine T.seq (Qq ?_)
 refine sp rfl (Ze (i := 0) (l := ((Qx.dc 256 .u8 x0.Split.Of) ++ (([.int .i64 x0.Split.Many, .sl false 2 (mA x0.Counts), .sl false 4 (x0.States.map Q0)] : List DC)))) rfl (dk rfl) Xe rfl i28 rfl rfl rfl rfl ?_)
 obtain ⟨aa, p, h⟩ := bind_some h
 refine sp rfl (Q5 rfl (dk rfl) Try.func20 rfl rfl (Q3.cons rfl Q3.nil) (Zt.nil (Tv K p)) ?_)
 refine sp rfl (OpT.not rfl (dk rfl) rfl ?_)
 refine TL'.nil (tN ?_)
 rcases Qd h with ⟨d, h⟩ | ⟨d, h⟩
 refine Qk rfl d ?_
 refine T.seq (Qq ?_)
 refine aw rfl ?_
 refine aw rfl ?_
 refine TL'.nil (tN ?_)
 refine T.ret (Ql ?_)
 refine Xf (N1 2 false 1 rfl) ?_
 exact Fin.done (.cons _ _ _ _ (.tmp 2 _ rfl) (.cons _ _ _ _ (.tmp 3 _ rfl) .nil)) (by cases h; exact ⟨rfl, rfl⟩)
 refine Qo rfl d ?_
 refine T.skip (tN ?_)
 refine T.seq (Qq ?_)
 refine sp rfl (Lc (elems := ([(114:Int), (100:Int), (100:Int), (108:Int)] : List Int).map (cI .u8)) rfl (dk rfl) Xg i5 (by decide) rfl (J6 rfl) rfl rfl rfl (Yp rfl) (by decide) (fun ab => ?_))
 refine sp rfl (T1 (i := 0) (xs := [(114:Int), (100:Int), (100:Int), (108:Int)]) (f := (cI .u8)) rfl (dk rfl) Xg ul5 rfl rfl rfl (by decide) ?_)
 refine sp rfl (Qg rfl (dk rfl) Xe rfl i24 (by decide) rfl ?_)
 refine sp rfl (Qg rfl (dk rfl) Ig rfl i22 (by decide) rfl ?_)
 refine Y7 (Zn.freeze 1 (l := ((Qx.dc 256 .u8 x0.Split.Of) ++ (([.int .i64 x0.Split.Many, .sl false 2 (mA x0.Counts), .sl false 4 (x0.States.map Q0)] : List DC)))) rfl) ?_
 refine sp rfl (Qbp (i := 1) (xs := (Qx.list 256 x0.Split.Of)) (f := cI .u8) rfl (dk rfl) ul22 i5 rfl rfl Sj (by decide) (fun y hy => by obtain ⟨a, _, rfl⟩ := List.mem_map.1 hy; rfl) (Eq.trans (by exact rfl) Qx.dc_flat.symm) ?_)
 refine Y7 (Zn.unfull 19 rfl) ?_
 refine Y7 (Zn.unfull 22 rfl) ?_
 refine sp rfl (OpT.buildSlice (elems := ([[(114:Int), (100:Int), (100:Int), (108:Int)], (Qx.list 256 x0.Split.Of)] : List (List Int)).map (cL 1 (cI .u8))) rfl (dk rfl) ul94 i29 (by decide) rfl (J6 rfl) rfl rfl rfl (Yp rfl) (by decide) ?_)
 refine Y7 Zs ?_
 obtain ⟨ac, q, h⟩ := bind_some h
 refine sp rfl (Q2 (is := [0]) (ph := [.ro 0 []]) rfl (dk rfl) Try.func21 rfl rfl (Q3.cons rfl Q3.nil) (N5 K (flx0 := true) q) (.cons rfl rfl (.nil)) (fun _ => rfl) (fun g => ?_))
 refine nm (.c (.c (.c (.n)))) ?_
 refine sp rfl (OpT.build (l := [.ex (g 0)]) rfl (dk rfl) (Zr (pl := [(0, 1)]) ul54 i54 rfl) (J6 rfl) rfl rfl ?_)
 refine sp rfl (Zg rfl (dk rfl) rfl (fun j => ?_))
 refine aw rfl ?_
 refine TL'.nil (tN (T.seq (Qq ?_)))
 refine mw rfl ?_
 refine sp rfl (Qg rfl (dk rfl) Xe rfl i25 (by decide) rfl ?_)
 refine sp rfl (Eb (i := 3) rfl (dk rfl) Mq rfl rfl rfl rfl ?_)
 refine sp rfl (Qn (xs := x0.Counts) (f := (Zb.dc .i64)) rfl (dk rfl) Mq rfl ?_)
 refine sp rfl (OpT.buildSlice (elems := ([(x0.Counts.length : Int)] : List Int).map (cI .i64)) rfl (dk rfl) Yd i3 (by decide) rfl (J6 rfl) rfl rfl rfl (Yp rfl) (by decide) ?_)
 obtain ⟨u, v, h⟩ := bind_some h
 refine sp rfl (Q2 (is := [0, 1]) (ph := []) rfl (dk rfl) Try.func22 rfl rfl (Q3.cons rfl (Q3.cons rfl Q3.nil)) (M1 K (bx0 := j) (wx0c0 := (g 0)) (flx1 := true) v) (.cons rfl rfl (.cons rfl rfl (.nil))) (fun _ => rfl) (fun w => ?_))
 refine nm (.c (.c (.c (.c (.n))))) ?_
 refine TL'.nil (tN ?_)
 refine T.seq ?_
 refine T.seq (Qq ?_)
 refine sp rfl (Qg rfl (dk rfl) Xe rfl i25 (by decide) rfl ?_)
 refine sp rfl (Eb (i := 3) rfl (dk rfl) Mq rfl rfl rfl rfl ?_)
 refine sp rfl (Qn (xs := x0.Counts) (f := (Zb.dc .i64)) rfl (dk rfl) Mq rfl ?_)
 refine mw rfl ?_
 refine TL'.nil (tN ?_)
 refine T.block ?_
 refine T.loop ?_
 refine Qb ?_ (tb_Encode_l0_T K K x0 (x0.Counts.length : Int) (0:Int) u.b m j (w 0) h)
 exact tr rfl (.c (.s (.s (.s .z))) (.c .z (.c .z (.n _))))
abbrev Hv (r : Bool) : ES := Jk tp Try.f41 (fun y t => y = (.bool r) ∧ t = [])
abbrev Eo (r : Bool) : ES := thenS (fun s' => T tp 29 (ca [1,1,1] Try.f41) s' ((Hv r))) ((Hv r))
abbrev C0 (r : Bool) : ES := Qz 0 ((Eo r))
theorem Fy {r : Bool} (K : Nat) : ∀ (k : Nat), ∀ (f g : Int) (x0 : aSp) (j : Nat), Yi K k f g x0 = some r → TL tp 29 (ca [1,1,0,1,0,0] Try.f41) ⟨[(1, .ptr j 0), (3, .int .i64 f), (4, .int .i64 g)], [(On j x0.Of x0.Many)]⟩ (C0 r) := by
 intro k
 induction k with
 | zero =>
  intro f g x0 j h
  cases (show (none : Option Bool) = some r from h)
 | succ k ih =>
  intro f g x0 j h
  rw [Yi] at h
  refine Q4 ?_
  refine T.seq ?_
  refine T.seq (Qq ?_)
  refine mw rfl ?_
  refine sp rfl (Qa rfl rfl (dk rfl) rfl rfl ?_)
  refine TL'.nil (tN ?_)
  rcases Qd h with ⟨l, h⟩ | ⟨l, h⟩
  refine Qk rfl l ?_
  refine T.skip (tN ?_)
  refine T.seq ?_
  refine T.block ?_
  refine T.seq ?_
  refine T.seq (Qq ?_)
  refine mw rfl ?_
  refine sp rfl (Qg rfl (dk rfl) Ig rfl i22 (by decide) rfl ?_)
  obtain ⟨b, h⟩ := Zh h
  refine sp rfl (Zx rfl (dk rfl) ul22 i5 rfl rfl b.1 b.2 ?_)
  refine sp rfl (Qm (i := 0) rfl (dk rfl) ul5 rfl rfl rfl (Ff (n := 256) (k := .u8) (a := x0.Of) (pre := []) (post := [.d (.int .i64 x0.Many)]) b.1 b.2) ?_)
  refine sp rfl (Z9 rfl (dk rfl) ul5 ul3 rfl ?_)
  refine mw rfl ?_
  refine sp rfl (Qa rfl rfl (dk rfl) rfl rfl ?_)
  refine TL'.nil (tN ?_)
  rcases Qd h with ⟨m, h⟩ | ⟨m, h⟩
  refine Qk rfl m ?_
  refine T.seq (Qq ?_)
  refine aw rfl ?_
  refine TL'.nil (tN ?_)
  refine T.ret (Ql (Qy (Ql (Ql (Qy (Ql ?_))))))
  exact Fin.done (.cons _ _ _ _ (.tmp 2 _ rfl) .nil) (by cases h; exact ⟨rfl, rfl⟩)
  refine Qo rfl m ?_
  refine T.skip (tN ?_)
  refine T.seq (Qq ?_)
  refine mw rfl ?_
  refine sp rfl (Qg rfl (dk rfl) Ig rfl i22 (by decide) rfl ?_)
  refine sp rfl (Zx rfl (dk rfl) ul22 i5 rfl rfl b.1 b.2 ?_)
  refine sp rfl (Qm (i := 0) rfl (dk rfl) ul5 rfl rfl rfl (Ff (n := 256) (k := .u8) (a := x0.Of) (pre := []) (post := [.d (.int .i64 x0.Many)]) b.1 b.2) ?_)
  refine sp rfl (Z9 rfl (dk rfl) ul5 ul3 rfl ?_)
  refine mw rfl ?_
  refine sp rfl (Qa rfl rfl (dk rfl) rfl rfl ?_)
  refine TL'.nil (tN ?_)
  rcases Qd h with ⟨p, h⟩ | ⟨p, h⟩
  refine Qk rfl p ?_
  refine Qq ?_
  refine mw rfl ?_
  refine sp rfl (Qa rfl rfl (dk rfl) rfl rfl ?_)
  refine aw rfl ?_
  refine TL'.nil (Qe (tN ?_))
  refine Qq ?_
  refine mw rfl ?_
  refine sp rfl (Qa rfl rfl (dk rfl) rfl rfl ?_)
  refine aw rfl ?_
  refine TL'.nil (tN ?_)
  refine Qb ?_ (ih (wI (f + (1:Int))) (wI (g + (1:Int))) x0 j h)
  exact tq rfl rfl
  refine Qo rfl p ?_
  refine T.skip (Qe (tN ?_))
  refine Qq ?_
  refine mw rfl ?_
  refine sp rfl (Qa rfl rfl (dk rfl) rfl rfl ?_)
  refine aw rfl ?_
  refine TL'.nil (tN ?_)
  refine Qb ?_ (ih f (wI (g + (1:Int))) x0 j h)
  exact tq rfl rfl
  refine Qo rfl l ?_
  refine T.exit (Qf (Qf (Qp (tN ?_))))
  refine T.seq (Qq ?_)
  refine mw rfl ?_
  refine sp rfl (Qg rfl (dk rfl) Ig rfl i3 (by decide) rfl ?_)
  refine sp rfl (Qm (i := 0) rfl (dk rfl) ul3 rfl rfl rfl rfl ?_)
  refine sp rfl (Qa rfl rfl (dk rfl) rfl rfl ?_)
  refine aw rfl ?_
  refine TL'.nil (tN ?_)
  refine T.ret ?_
  exact Fin.done (.cons _ _ _ _ (.tmp 2 _ rfl) .nil) (by cases h; exact ⟨rfl, rfl⟩)
theorem Po (K : Nat) {x0 : aSp} {r : Bool} (h : Ja K x0 = some r) : Zt tp 41 [.agg ((Qx.dc 256 .u8 x0.Of) ++ (([.int .i64 x0.Many] : List DC)))] [] (.bool r) := by
 refine Qt Try.func41 rfl (nb rfl) ?_
 show T tp 29 (ca [] Try.f41) ⟨Qv 0 [.agg ((Qx.dc 256 .u8 x0.Of) ++ (([.int .i64 x0.Many] : List DC)))], []⟩ (Hv r)
 unfold Ja at h
 refine T.seq (Qq ?_)
 refine sp rfl (Zg rfl (dk rfl) rfl (fun a => ?_))
 refine aw rfl ?_
 refine TL'.nil (tN (T.seq (Qq ?_)))
 refine aw rfl ?_
 refine TL'.nil (tN ?_)
 refine T.seq ?_
 refine T.seq (Qq ?_)
 refine aw rfl ?_
 refine TL'.nil (tN ?_)
 refine T.block ?_
 refine T.loop ?_
 refine Qb ?_ (Fy K K (0:Int) (0:Int) x0 a h)
 exact tq rfl rfl
abbrev D2 (r : Int) : ES := Jk tp Try.f50 (fun y t => y = (.int .i64 r) ∧ t = [])
abbrev r1_Codes_qs11 (r : Int) : ES := thenS (fun s' => T tp 19 (ca [1,1] Try.f50) s' ((D2 r))) ((D2 r))
abbrev Qa6 (r : Int) : ES := thenS (fun s' => T tp 19 (ca [1,1,1,1] Try.f50) s' ((D2 r))) ((D2 r))
abbrev Tb (r : Int) : ES := Qz 0 ((Qa6 r))
theorem Sc {r : Int} (K : Nat) (h : Bu K = some r) : T tp 19 (ca [1,0,1,0] Try.f50) ⟨[], []⟩ (r1_Codes_qs11 r) := by
 unfold Bu at h
 refine T.seq (Qq ?_)
 refine aw rfl ?_
 refine TL'.nil (tN ?_)
 refine T.ret (Ql ?_)
 exact Fin.done (.cons _ _ _ _ (.tmp 2 _ rfl) .nil) (by cases h; exact ⟨rfl, rfl⟩)
theorem r1_Codes_l1_T {r : Int} (K : Nat) : ∀ (k : Nat), ∀ (x0 a b : Int), Bt K k x0 a b = some r → TL tp 19 (ca [1,1,1,0,1,0,0] Try.f50) ⟨[(0, .int .i64 x0), (3, .int .i64 a), (4, .int .i64 b)], []⟩ (Tb r) := by
 intro k
 induction k with
 | zero =>
  intro x0 a b h
  cases (show (none : Option Int) = some r from h)
 | succ k ih =>
  intro x0 a b h
  rw [Bt] at h
  refine Q4 ?_
  refine T.seq ?_
  refine T.seq (Qq ?_)
  refine mw rfl ?_
  refine mw rfl ?_
  refine sp rfl (Qa rfl rfl (dk rfl) rfl rfl ?_)
  refine TL'.nil (tN ?_)
  rcases Qd h with ⟨c, h⟩ | ⟨c, h⟩
  refine Qk rfl c ?_
  refine T.skip (tN ?_)
  refine T.seq ?_
  refine T.block ?_
  refine Qq ?_
  refine mw rfl ?_
  refine sp rfl (Qa rfl rfl (dk rfl) rfl rfl ?_)
  refine aw rfl ?_
  refine TL'.nil (Qe (tN ?_))
  refine Qq ?_
  refine mw rfl ?_
  refine sp rfl (Qa rfl rfl (dk rfl) rfl rfl ?_)
  refine aw rfl ?_
  refine TL'.nil (tN ?_)
  refine Qb ?_ (ih x0 (wI (a * (3:Int))) (wI (b + (1:Int))) h)
  exact tq rfl rfl
  refine Qo rfl c ?_
  refine T.exit (Qf (Qf (Qp (tN ?_))))
  refine T.seq (Qq ?_)
  refine mw rfl ?_
  refine aw rfl ?_
  refine TL'.nil (tN ?_)
  refine T.ret ?_
  exact Fin.done (.cons _ _ _ _ (.tmp 2 _ rfl) .nil) (by cases h; exact ⟨rfl, rfl⟩)
theorem Tc (K : Nat) {x0 r : Int} (h : Mx K x0 = some r) : Zt tp 50 [.int .i64 x0] [] (.int .i64 r) := by
 refine Qt Try.func50 rfl (nb rfl) ?_
 show T tp 19 (ca [] Try.f50) ⟨Qv 0 [.int .i64 x0], []⟩ (D2 r)
 unfold Mx at h
 refine T.seq (Qq ?_)
 refine aw rfl ?_
 refine TL'.nil (tN ?_)
 refine T.seq ?_
 refine T.seq (Qq ?_)
 refine mw rfl ?_
 refine sp rfl (Qa rfl rfl (dk rfl) rfl rfl ?_)
 refine mw rfl ?_
 rcases Qd h with ⟨a, h⟩ | ⟨a, h⟩
 refine pf rfl a ?_
 refine pf rfl a ?_
 refine sp rfl (Qi rfl (dk rfl) rfl a rfl ?_)
 refine TL'.nil (tN ?_)
 refine Qk rfl rfl ?_
 refine Qc ?_ (Sc K h)
 exact tq rfl rfl
 refine sn rfl a (OpT.move rfl (dk rfl) rfl ?_)
 refine sn rfl a (Qa rfl rfl (dk rfl) rfl rfl ?_)
 refine sp rfl (Qs rfl (dk rfl) rfl a rfl ?_)
 refine TL'.nil (tN ?_)
 rcases Qd h with ⟨b, h⟩ | ⟨b, h⟩
 refine Qk rfl b ?_
 refine Qc ?_ (Sc K h)
 exact tq rfl rfl
 refine Qo rfl b ?_
 refine T.skip (tN ?_)
 refine T.seq (Qq ?_)
 refine aw rfl ?_
 refine TL'.nil (tN ?_)
 refine T.seq ?_
 refine T.seq (Qq ?_)
 refine aw rfl ?_
 refine TL'.nil (tN ?_)
 refine T.block ?_
 refine T.loop ?_
 refine Qb ?_ (r1_Codes_l1_T K K x0 (1:Int) (0:Int) h)
 exact tq rfl rfl
abbrev S5 (r : Bool) : ES := Jk tp Try.f61 (fun y t => y = (.bool r) ∧ t = [])
abbrev r1_rises_qs11 (r : Bool) : ES := thenS (fun s' => T tp 41 (ca [1,1] Try.f61) s' ((S5 r))) ((S5 r))
abbrev Bp (r : Bool) : ES := Qz 0 ((r1_rises_qs11 r))
abbrev I6 (r : Bool) : ES := thenS (fun s' => TL tp 41 (ca [1,0,1,0,0] Try.f61) s' ((Bp r))) ((Bp r))
abbrev R4 (r : Bool) : ES := thenS (fun s' => T tp 41 (ca [1,0,1,0,0,1,1] Try.f61) s' ((I6 r))) ((I6 r))
abbrev F5 (r : Bool) : ES := Qz 1 ((R4 r))
theorem Ev {r : Bool} (K : Nat) (h : Lz K = some r) : T tp 41 (ca [1,0,1,0,0,1,0,0,1,0] Try.f61) ⟨[], []⟩ (F5 r) := by
 unfold Lz at h
 refine T.seq (Qq ?_)
 refine aw rfl ?_
 refine TL'.nil (tN ?_)
 refine T.ret (Qy (Ql (Ql (Qy (Ql ?_)))))
 exact Fin.done (.cons _ _ _ _ (.tmp 4 _ rfl) .nil) (by cases h; exact ⟨rfl, rfl⟩)
theorem r1_rises_l0_T {r : Bool} (K : Nat) : ∀ (k : Nat), ∀ (x0 : List Int) (x1 b : Int) (flx0 : Bool), Wq K k x0 x1 b = some r → TL tp 41 (ca [1,0,1,0,0] Try.f61) ⟨[(0, .sl flx0 1 (mI x0)), (1, .int .i64 x1), (5, .int .i64 b)], []⟩ (Bp r) := by
 intro k
 induction k with
 | zero =>
  intro x0 x1 b flx0 h
  cases (show (none : Option Bool) = some r from h)
 | succ k ih =>
  intro x0 x1 b flx0 h
  rw [Wq] at h
  refine Q4 ?_
  refine T.seq ?_
  refine T.seq (Qq ?_)
  refine mw rfl ?_
  refine mw rfl ?_
  refine sp rfl (Qn (xs := x0) (f := (cI .i64)) rfl (dk rfl) Yd rfl ?_)
  refine sp rfl (Qa rfl rfl (dk rfl) rfl rfl ?_)
  refine TL'.nil (tN ?_)
  rcases Qd h with ⟨l, h⟩ | ⟨l, h⟩
  refine Qk rfl l ?_
  refine T.skip (tN ?_)
  refine T.seq ?_
  refine T.block ?_
  refine T.seq ?_
  refine X3 ?_
  refine Yr rfl rfl rfl rfl rfl rfl ?_
  refine Yr rfl rfl rfl rfl rfl rfl ?_
  obtain ⟨a, m, h⟩ := bind_some h
  refine dS (c := ⟨some 14, .ref [.int .i64 a], [(12, .sl flx0 1 (mI x0)), (13, .int .i64 b)], [], []⟩) (fun t hm => oF rfl rfl (Qh (xs := x0) (f := (cI .i64)) (v := a) rfl (dk rfl) Yd i3 hm.s0 hm.s1 m rfl)) rfl rfl ?_
  refine dS (c := ⟨some 15, .int .i64 a, [(14, .ref [.int .i64 a])], [], []⟩) (fun t hm => oF rfl rfl (Qr rfl (dk rfl) ul3 rfl hm.s0 rfl rfl)) rfl rfl ?_
  refine dS (c := ⟨some 16, .bool (decide (a < (0:Int))), [(15, .int .i64 a)], [], []⟩) (fun t hm => oF rfl rfl (Qa rfl rfl (dk rfl) hm.s0 rfl rfl)) rfl rfl ?_
  refine Yr rfl rfl rfl rfl rfl rfl ?_
  rcases Qd h with ⟨g, h⟩ | ⟨g, h⟩
  refine dO g rfl rfl ?_
  refine dO g rfl rfl ?_
  refine dO g rfl rfl ?_
  refine dO g rfl rfl ?_
  refine dO g rfl rfl ?_
  refine dO g rfl rfl ?_
  refine dS (c := ⟨some 24, .bool true, [(17, .bool (decide (a < (0:Int))))], [], []⟩) (fun t hm => oF rfl rfl (Qi rfl (dk rfl) hm.s0 g rfl rfl)) rfl rfl ?_
  refine Yr rfl rfl rfl rfl rfl rfl ?_
  refine dO rfl rfl rfl ?_
  refine dO rfl rfl rfl ?_
  refine dO rfl rfl rfl ?_
  refine DG.gone rfl rfl rfl rfl rfl rfl ?_
  refine DG.gone rfl rfl rfl rfl rfl rfl ?_
  refine DG.gone rfl rfl rfl rfl rfl rfl ?_
  refine DG.gone rfl rfl rfl rfl rfl rfl ?_
  refine DG.gone rfl rfl rfl rfl rfl rfl ?_
  refine DG.gone rfl rfl rfl rfl rfl rfl ?_
  refine DG.gone rfl rfl rfl rfl rfl rfl ?_
  refine DG.gone rfl rfl rfl rfl rfl rfl ?_
  refine DG.gone rfl rfl rfl rfl rfl rfl ?_
  refine DG.gone rfl rfl rfl rfl rfl rfl ?_
  refine dO rfl rfl rfl ?_
  refine dS (c := ⟨some 40, .bool true, [(25, .bool true)], [], []⟩) (fun t hm => oF rfl rfl (Qi rfl (dk rfl) hm.s0 rfl rfl rfl)) rfl rfl ?_
  refine Y4 (s1 := ⟨[(0, .sl flx0 1 (mI x0)), (1, .int .i64 x1), (5, .int .i64 b), (18, .tup []), (19, .tup []), (20, .tup []), (21, .tup []), (22, .tup []), (23, .tup []), (26, .tup []), (27, .tup []), (28, .tup []), (29, .tup []), (30, .tup []), (31, .tup []), (32, .tup []), (33, .tup []), (34, .tup []), (35, .tup []), (36, .tup []), (37, .tup []), (38, .tup []), (39, .tup []), (40, .bool true)], []⟩) (ms := [0, 0, 3, 7, 15, 31, 63, 63, 255, 511, 63, 2047, 4095, 8191, 16383, 32767, 65535, 131071, 131071, 393215, 1048575, 2097151, 131071, 131071, 12713983, 29491199, 67108863, 134217727, 268435455]) Q7 rfl (by kernel_rfl) (by kernel_rfl) (by kernel_rfl) (sf rfl) rfl (fun u hu => (tN (Qc hu ?_)))
  refine Qk rfl rfl ?_
  refine Qc ?_ (Ev K h)
  exact tq rfl rfl
  refine dS (c := ⟨some 18, .sl flx0 1 (mI x0), [(0, .sl flx0 1 (mI x0)), (17, .bool (decide (a < (0:Int))))], [], []⟩) (fun t hm => oN rfl rfl rfl hm.s1 g (OpT.move rfl (dk rfl) hm.s0 rfl)) rfl rfl ?_
  refine dS (c := ⟨some 19, .int .i64 b, [(5, .int .i64 b), (17, .bool (decide (a < (0:Int))))], [], []⟩) (fun t hm => oN rfl rfl rfl hm.s1 g (OpT.move rfl (dk rfl) hm.s0 rfl)) rfl rfl ?_
  refine dS (c := ⟨some 20, .ref [.int .i64 a], [(18, .sl flx0 1 (mI x0)), (19, .int .i64 b), (17, .bool (decide (a < (0:Int))))], [], []⟩) (fun t hm => oN rfl rfl rfl hm.s2 g (Qh (xs := x0) (f := (cI .i64)) (v := a) rfl (dk rfl) Yd i3 hm.s0 hm.s1 m rfl)) rfl rfl ?_
  refine dS (c := ⟨some 21, .int .i64 a, [(20, .ref [.int .i64 a]), (17, .bool (decide (a < (0:Int))))], [], []⟩) (fun t hm => oN rfl rfl rfl hm.s1 g (Qr rfl (dk rfl) ul3 rfl hm.s0 rfl rfl)) rfl rfl ?_
  refine dS (c := ⟨some 22, .int .i64 x1, [(1, .int .i64 x1), (17, .bool (decide (a < (0:Int))))], [], []⟩) (fun t hm => oN rfl rfl rfl hm.s1 g (OpT.move rfl (dk rfl) hm.s0 rfl)) rfl rfl ?_
  refine dS (c := ⟨some 23, .bool (decide (a ≥ x1)), [(21, .int .i64 a), (22, .int .i64 x1), (17, .bool (decide (a < (0:Int))))], [], []⟩) (fun t hm => oN rfl rfl rfl hm.s2 g (Qa rfl rfl (dk rfl) hm.s0 hm.s1 rfl)) rfl rfl ?_
  refine dS (c := ⟨some 24, .bool (decide (a ≥ x1)), [(17, .bool (decide (a < (0:Int)))), (23, .bool (decide (a ≥ x1)))], [], []⟩) (fun t hm => oF rfl rfl (Qs rfl (dk rfl) hm.s0 g hm.s1 rfl)) rfl rfl ?_
  refine Yr rfl rfl rfl rfl rfl rfl ?_
  rcases Qd h with ⟨j, h⟩ | ⟨j, h⟩
  refine dO j rfl rfl ?_
  refine dO j rfl rfl ?_
  refine dO j rfl rfl ?_
  refine DG.gone rfl rfl rfl rfl rfl rfl ?_
  refine DG.gone rfl rfl rfl rfl rfl rfl ?_
  refine DG.gone rfl rfl rfl rfl rfl rfl ?_
  refine DG.gone rfl rfl rfl rfl rfl rfl ?_
  refine DG.gone rfl rfl rfl rfl rfl rfl ?_
  refine DG.gone rfl rfl rfl rfl rfl rfl ?_
  refine DG.gone rfl rfl rfl rfl rfl rfl ?_
  refine DG.gone rfl rfl rfl rfl rfl rfl ?_
  refine DG.gone rfl rfl rfl rfl rfl rfl ?_
  refine DG.gone rfl rfl rfl rfl rfl rfl ?_
  refine dO j rfl rfl ?_
  refine dS (c := ⟨some 40, .bool true, [(25, .bool (decide (a ≥ x1)))], [], []⟩) (fun t hm => oF rfl rfl (Qi rfl (dk rfl) hm.s0 j rfl rfl)) rfl rfl ?_
  refine Y4 (s1 := ⟨[(0, .sl flx0 1 (mI x0)), (1, .int .i64 x1), (5, .int .i64 b), (18, .sl flx0 1 (mI x0)), (19, .int .i64 b), (20, .ref [.int .i64 a]), (21, .int .i64 a), (22, .int .i64 x1), (23, .bool (decide (a ≥ x1))), (26, .tup []), (27, .tup []), (28, .tup []), (29, .tup []), (30, .tup []), (31, .tup []), (32, .tup []), (33, .tup []), (34, .tup []), (35, .tup []), (36, .tup []), (37, .tup []), (38, .tup []), (39, .tup []), (40, .bool true)], []⟩) (ms := [0, 0, 3, 7, 15, 31, 63, 63, 255, 511, 63, 2047, 4095, 8191, 16383, 32767, 65535, 131071, 131071, 393215, 1048575, 2097151, 131071, 131071, 12713983, 29491199, 67108863, 134217727, 268435455]) Q7 rfl (by kernel_rfl) (by kernel_rfl) (by kernel_rfl) (sf rfl) rfl (fun u hu => (tN (Qc hu ?_)))
  refine Qk rfl rfl ?_
  refine Qc ?_ (Ev K h)
  exact tq rfl rfl
  refine dS (c := ⟨some 26, .int .i64 b, [(5, .int .i64 b), (25, .bool (decide (a ≥ x1)))], [], []⟩) (fun t hm => oN rfl rfl rfl hm.s1 j (OpT.move rfl (dk rfl) hm.s0 rfl)) rfl rfl ?_
  refine dS (c := ⟨some 27, .bool (decide (b > (0:Int))), [(26, .int .i64 b), (25, .bool (decide (a ≥ x1)))], [], []⟩) (fun t hm => oN rfl rfl rfl hm.s1 j (Qa rfl rfl (dk rfl) hm.s0 rfl rfl)) rfl rfl ?_
  refine dS (c := ⟨some 28, .bool (decide (b > (0:Int))), [(27, .bool (decide (b > (0:Int)))), (25, .bool (decide (a ≥ x1)))], [], []⟩) (fun t hm => oN rfl rfl rfl hm.s1 j (OpT.move rfl (dk rfl) hm.s0 rfl)) rfl rfl ?_
  rcases Qd h with ⟨d, h⟩ | ⟨d, h⟩
  refine dS (c := ⟨some 29, .sl flx0 1 (mI x0), [(0, .sl flx0 1 (mI x0)), (28, .bool (decide (b > (0:Int))))], [], []⟩) (fun t hm => oN rfl rfl rfl hm.s1 d (OpT.move rfl (dk rfl) hm.s0 rfl)) rfl rfl ?_
  refine dS (c := ⟨some 30, .int .i64 b, [(5, .int .i64 b), (28, .bool (decide (b > (0:Int))))], [], []⟩) (fun t hm => oN rfl rfl rfl hm.s1 d (OpT.move rfl (dk rfl) hm.s0 rfl)) rfl rfl ?_
  refine dS (c := ⟨some 31, .int .i64 (wI (b - (1:Int))), [(30, .int .i64 b), (28, .bool (decide (b > (0:Int))))], [], []⟩) (fun t hm => oN rfl rfl rfl hm.s1 d (Qa rfl rfl (dk rfl) hm.s0 rfl rfl)) rfl rfl ?_
  obtain ⟨i, q, h⟩ := bind_some h
  refine dS (c := ⟨some 32, .ref [.int .i64 i], [(29, .sl flx0 1 (mI x0)), (31, .int .i64 (wI (b - (1:Int)))), (28, .bool (decide (b > (0:Int))))], [], []⟩) (fun t hm => oN rfl rfl rfl hm.s2 d (Qh (xs := x0) (f := (cI .i64)) (v := i) rfl (dk rfl) Yd i3 hm.s0 hm.s1 q rfl)) rfl rfl ?_
  refine dS (c := ⟨some 33, .int .i64 i, [(32, .ref [.int .i64 i]), (28, .bool (decide (b > (0:Int))))], [], []⟩) (fun t hm => oN rfl rfl rfl hm.s1 d (Qr rfl (dk rfl) ul3 rfl hm.s0 rfl rfl)) rfl rfl ?_
  refine dS (c := ⟨some 34, .sl flx0 1 (mI x0), [(0, .sl flx0 1 (mI x0)), (28, .bool (decide (b > (0:Int))))], [], []⟩) (fun t hm => oN rfl rfl rfl hm.s1 d (OpT.move rfl (dk rfl) hm.s0 rfl)) rfl rfl ?_
  refine dS (c := ⟨some 35, .int .i64 b, [(5, .int .i64 b), (28, .bool (decide (b > (0:Int))))], [], []⟩) (fun t hm => oN rfl rfl rfl hm.s1 d (OpT.move rfl (dk rfl) hm.s0 rfl)) rfl rfl ?_
  refine dS (c := ⟨some 36, .ref [.int .i64 a], [(34, .sl flx0 1 (mI x0)), (35, .int .i64 b), (28, .bool (decide (b > (0:Int))))], [], []⟩) (fun t hm => oN rfl rfl rfl hm.s2 d (Qh (xs := x0) (f := (cI .i64)) (v := a) rfl (dk rfl) Yd i3 hm.s0 hm.s1 m rfl)) rfl rfl ?_
  refine dS (c := ⟨some 37, .int .i64 a, [(36, .ref [.int .i64 a]), (28, .bool (decide (b > (0:Int))))], [], []⟩) (fun t hm => oN rfl rfl rfl hm.s1 d (Qr rfl (dk rfl) ul3 rfl hm.s0 rfl rfl)) rfl rfl ?_
  refine dS (c := ⟨some 38, .bool (decide (i ≥ a)), [(33, .int .i64 i), (37, .int .i64 a), (28, .bool (decide (b > (0:Int))))], [], []⟩) (fun t hm => oN rfl rfl rfl hm.s2 d (Qa rfl rfl (dk rfl) hm.s0 hm.s1 rfl)) rfl rfl ?_
  refine dS (c := ⟨some 39, .bool (decide (i ≥ a)), [(28, .bool (decide (b > (0:Int)))), (38, .bool (decide (i ≥ a))), (25, .bool (decide (a ≥ x1)))], [], []⟩) (fun t hm => oN rfl rfl rfl hm.s2 j (Qi rfl (dk rfl) hm.s0 d hm.s1 rfl)) rfl rfl ?_
  refine dS (c := ⟨some 40, .bool (decide (i ≥ a)), [(25, .bool (decide (a ≥ x1))), (39, .bool (decide (i ≥ a)))], [], []⟩) (fun t hm => oF rfl rfl (Qs rfl (dk rfl) hm.s0 j hm.s1 rfl)) rfl rfl ?_
  refine Y4 (s1 := ⟨[(0, .sl flx0 1 (mI x0)), (1, .int .i64 x1), (5, .int .i64 b), (18, .sl flx0 1 (mI x0)), (19, .int .i64 b), (20, .ref [.int .i64 a]), (21, .int .i64 a), (22, .int .i64 x1), (23, .bool (decide (a ≥ x1))), (26, .int .i64 b), (27, .bool (decide (b > (0:Int)))), (28, .bool (decide (b > (0:Int)))), (29, .sl flx0 1 (mI x0)), (30, .int .i64 b), (31, .int .i64 (wI (b - (1:Int)))), (32, .ref [.int .i64 i]), (33, .int .i64 i), (34, .sl flx0 1 (mI x0)), (35, .int .i64 b), (36, .ref [.int .i64 a]), (37, .int .i64 a), (38, .bool (decide (i ≥ a))), (39, .bool (decide (i ≥ a))), (40, .bool (decide (i ≥ a)))], []⟩) (ms := [0, 0, 3, 7, 15, 31, 63, 63, 255, 511, 63, 2047, 4095, 8191, 16383, 32767, 65535, 131071, 131071, 393215, 1048575, 2097151, 131071, 131071, 12713983, 29491199, 67108863, 134217727, 268435455]) Q7 rfl (by kernel_rfl) (by kernel_rfl) (by kernel_rfl) (sf rfl) rfl (fun u hu => (tN (Qc hu ?_)))
  rcases Qd h with ⟨p, h⟩ | ⟨p, h⟩
  refine Qk rfl p ?_
  refine Qc ?_ (Ev K h)
  exact tq rfl rfl
  refine Qo rfl p ?_
  refine T.skip (Qe (tN ?_))
  refine Qq ?_
  refine mw rfl ?_
  refine sp rfl (Qa rfl rfl (dk rfl) rfl rfl ?_)
  refine aw rfl ?_
  refine TL'.nil (tN ?_)
  refine Qb ?_ (ih x0 x1 (wI (b + (1:Int))) flx0 h)
  exact tq rfl rfl
  refine dO d rfl rfl ?_
  refine dO d rfl rfl ?_
  refine dO d rfl rfl ?_
  refine dO d rfl rfl ?_
  refine dO d rfl rfl ?_
  refine dO d rfl rfl ?_
  refine dO d rfl rfl ?_
  refine dO d rfl rfl ?_
  refine dO d rfl rfl ?_
  refine dO d rfl rfl ?_
  refine dS (c := ⟨some 39, .bool false, [(28, .bool (decide (b > (0:Int)))), (25, .bool (decide (a ≥ x1)))], [], []⟩) (fun t hm => oN rfl rfl rfl hm.s1 j (Qs rfl (dk rfl) hm.s0 d rfl rfl)) rfl rfl ?_
  refine dS (c := ⟨some 40, .bool false, [(25, .bool (decide (a ≥ x1))), (39, .bool false)], [], []⟩) (fun t hm => oF rfl rfl (Qs rfl (dk rfl) hm.s0 j hm.s1 rfl)) rfl rfl ?_
  refine Y4 (s1 := ⟨[(0, .sl flx0 1 (mI x0)), (1, .int .i64 x1), (5, .int .i64 b), (18, .sl flx0 1 (mI x0)), (19, .int .i64 b), (20, .ref [.int .i64 a]), (21, .int .i64 a), (22, .int .i64 x1), (23, .bool (decide (a ≥ x1))), (26, .int .i64 b), (27, .bool (decide (b > (0:Int)))), (28, .bool (decide (b > (0:Int)))), (29, .tup []), (30, .tup []), (31, .tup []), (32, .tup []), (33, .tup []), (34, .tup []), (35, .tup []), (36, .tup []), (37, .tup []), (38, .tup []), (39, .bool false), (40, .bool false)], []⟩) (ms := [0, 0, 3, 7, 15, 31, 63, 63, 255, 511, 63, 2047, 4095, 8191, 16383, 32767, 65535, 131071, 131071, 393215, 1048575, 2097151, 131071, 131071, 12713983, 29491199, 67108863, 134217727, 268435455]) Q7 rfl (by kernel_rfl) (by kernel_rfl) (by kernel_rfl) (sf rfl) rfl (fun u hu => (tN (Qc hu ?_)))
  refine Qo rfl rfl ?_
  refine T.skip (Qe (tN ?_))
  refine Qq ?_
  refine mw rfl ?_
  refine sp rfl (Qa rfl rfl (dk rfl) rfl rfl ?_)
  refine aw rfl ?_
  refine TL'.nil (tN ?_)
  refine Qb ?_ (ih x0 x1 (wI (b + (1:Int))) flx0 h)
  exact tq rfl rfl
  refine Qo rfl l ?_
  refine T.exit (Qf (Qf (Qp (tN ?_))))
  refine T.seq (Qq ?_)
  refine aw rfl ?_
  refine TL'.nil (tN ?_)
  refine T.ret ?_
  exact Fin.done (.cons _ _ _ _ (.tmp 4 _ rfl) .nil) (by cases h; exact ⟨rfl, rfl⟩)
theorem r1_rises_T (K : Nat) {x0 : List Int} {x1 : Int} {flx0 r : Bool} (h : Ny K x0 x1 = some r) : Zt tp 61 [.sl flx0 1 (mI x0), .int .i64 x1] [] (.bool r) := by
 refine Qt Try.func61 rfl (nb rfl) ?_
 show T tp 41 (ca [] Try.f61) ⟨Qv 0 [.sl flx0 1 (mI x0), .int .i64 x1], []⟩ (S5 r)
 unfold Ny at h
 refine T.seq (Qq ?_)
 refine aw rfl ?_
 refine TL'.nil (tN ?_)
 refine T.seq ?_
 refine T.seq (Qq ?_)
 refine aw rfl ?_
 refine TL'.nil (tN ?_)
 refine T.block ?_
 refine T.loop ?_
 refine Qb ?_ (r1_rises_l0_T K K x0 x1 (0:Int) flx0 h)
 exact tq rfl rfl
abbrev r1_in_q (r : Bool) : ES := Jk tp Try.f84 (fun y t => y = (.bool r) ∧ t = [])
abbrev r1_in_qs11 (r : Bool) : ES := thenS (fun s' => T tp 18 (ca [1,1] Try.f84) s' ((r1_in_q r))) ((r1_in_q r))
abbrev r1_in_qb0x11 (r : Bool) : ES := Qz 0 ((r1_in_qs11 r))
theorem r1_in_l0_T {r : Bool} (K : Nat) : ∀ (k : Nat), ∀ (x0 : List Int) (x1 a : Int) (flx0 : Bool), Ex K k x0 x1 a = some r → TL tp 18 (ca [1,0,1,0,0] Try.f84) ⟨[(0, .sl flx0 1 (mI x0)), (1, .int .i64 x1), (5, .int .i64 a)], []⟩ (r1_in_qb0x11 r) := by
 intro k
 induction k with
 | zero =>
  intro x0 x1 a flx0 h
  cases (show (none : Option Bool) = some r from h)
 | succ k ih =>
  intro x0 x1 a flx0 h
  rw [Ex] at h
  refine Q4 ?_
  refine T.seq ?_
  refine T.seq (Qq ?_)
  refine mw rfl ?_
  refine mw rfl ?_
  refine sp rfl (Qn (xs := x0) (f := (cI .i64)) rfl (dk rfl) Yd rfl ?_)
  refine sp rfl (Qa rfl rfl (dk rfl) rfl rfl ?_)
  refine TL'.nil (tN ?_)
  rcases Qd h with ⟨b, h⟩ | ⟨b, h⟩
  refine Qk rfl b ?_
  refine T.skip (tN ?_)
  refine T.seq ?_
  refine T.block ?_
  refine T.seq (Qq ?_)
  refine mw rfl ?_
  refine mw rfl ?_
  obtain ⟨d, g, h⟩ := bind_some h
  refine sp rfl (Qh (xs := x0) (f := (cI .i64)) (v := d) rfl (dk rfl) Yd i3 rfl rfl g ?_)
  refine sp rfl (Qr rfl (dk rfl) ul3 rfl rfl rfl ?_)
  refine mw rfl ?_
  refine sp rfl (Qa rfl rfl (dk rfl) rfl rfl ?_)
  refine TL'.nil (tN ?_)
  rcases Qd h with ⟨c, h⟩ | ⟨c, h⟩
  refine Qk rfl c ?_
  refine T.seq (Qq ?_)
  refine aw rfl ?_
  refine TL'.nil (tN ?_)
  refine T.ret (Qy (Ql (Ql (Qy (Ql ?_)))))
  exact Fin.done (.cons _ _ _ _ (.tmp 4 _ rfl) .nil) (by cases h; exact ⟨rfl, rfl⟩)
  refine Qo rfl c ?_
  refine T.skip (Qe (tN ?_))
  refine Qq ?_
  refine mw rfl ?_
  refine sp rfl (Qa rfl rfl (dk rfl) rfl rfl ?_)
  refine aw rfl ?_
  refine TL'.nil (tN ?_)
  refine Qb ?_ (ih x0 x1 (wI (a + (1:Int))) flx0 h)
  exact tq rfl rfl
  refine Qo rfl b ?_
  refine T.exit (Qf (Qf (Qp (tN ?_))))
  refine T.seq (Qq ?_)
  refine aw rfl ?_
  refine TL'.nil (tN ?_)
  refine T.ret ?_
  exact Fin.done (.cons _ _ _ _ (.tmp 4 _ rfl) .nil) (by cases h; exact ⟨rfl, rfl⟩)
theorem r1_in_T (K : Nat) {x0 : List Int} {x1 : Int} {flx0 r : Bool} (h : r1_in K x0 x1 = some r) : Zt tp 84 [.sl flx0 1 (mI x0), .int .i64 x1] [] (.bool r) := by
 refine Qt Try.func84 rfl (nb rfl) ?_
 show T tp 18 (ca [] Try.f84) ⟨Qv 0 [.sl flx0 1 (mI x0), .int .i64 x1], []⟩ (r1_in_q r)
 unfold r1_in at h
 refine T.seq (Qq ?_)
 refine aw rfl ?_
 refine TL'.nil (tN ?_)
 refine T.seq ?_
 refine T.seq (Qq ?_)
 refine aw rfl ?_
 refine TL'.nil (tN ?_)
 refine T.block ?_
 refine T.loop ?_
 refine Qb ?_ (r1_in_l0_T K K x0 x1 (0:Int) flx0 h)
 exact tq rfl rfl
abbrev I7 (r : Bool) : ES := Jk tp Try.f62 (fun y t => y = (.bool r) ∧ t = [])
abbrev r1_move_qs111 (r : Bool) : ES := thenS (fun s' => T tp 85 (ca [1,1,1] Try.f62) s' ((I7 r))) ((I7 r))
abbrev r1_move_qs1111 (r : Bool) : ES := thenS (fun s' => T tp 85 (ca [1,1,1,1] Try.f62) s' ((I7 r))) ((I7 r))
abbrev Mc (r : Bool) : ES := Qz 0 ((r1_move_qs1111 r))
abbrev Fm (r : Bool) : ES := thenS (fun s' => TL tp 85 (ca [1,1,1,0,1,0,0] Try.f62) s' ((Mc r))) ((Mc r))
abbrev P2 (r : Bool) : ES := thenS (fun s' => T tp 85 (ca [1,1,1,0,1,0,0,1,1] Try.f62) s' ((Fm r))) ((Fm r))
abbrev Ew (r : Bool) : ES := Qz 1 ((P2 r))
theorem I9 {r : Bool} (K : Nat) (h : Gc K = some r) : T tp 85 (ca [1,1,0,1,0] Try.f62) ⟨[], []⟩ (r1_move_qs111 r) := by
 unfold Gc at h
 refine T.seq (Qq ?_)
 refine aw rfl ?_
 refine TL'.nil (tN ?_)
 refine T.ret (Ql ?_)
 exact Fin.done (.cons _ _ _ _ (.tmp 6 _ rfl) .nil) (by cases h; exact ⟨rfl, rfl⟩)
theorem I8 {r : Bool} (K : Nat) (h : Gb K = some r) : T tp 85 (ca [1,1,1,0,1,0,0,1,0,0,1,0] Try.f62) ⟨[], []⟩ (Ew r) := by
 unfold Gb at h
 refine T.seq (Qq ?_)
 refine aw rfl ?_
 refine TL'.nil (tN ?_)
 refine T.ret (Qy (Ql (Ql (Qy (Ql ?_)))))
 exact Fin.done (.cons _ _ _ _ (.tmp 6 _ rfl) .nil) (by cases h; exact ⟨rfl, rfl⟩)
theorem r1_move_l1_T {r : Bool} (K : Nat) : ∀ (k : Nat), ∀ (j : Int) (x0 : aAu) (x1 : aSt) (x2 : aMv) (p q b : Nat), Ga K k j x0 x1 x2 = some r → TL tp 85 (ca [1,1,1,0,1,0,0] Try.f62) ⟨[(3, .ptr p 0), (4, .ptr q 0), (5, .ptr b 0), (7, .int .i64 j)], [(Xo p x0.Split.Of x0.Split.Many x0.Counts x0.States), (Zw q x1.L x1.R x1.Rule x1.Next), (W9 b x2.To x2.Ops)]⟩ (Mc r) := by
 intro k
 induction k with
 | zero =>
  intro j x0 x1 x2 p q b h
  cases (show (none : Option Bool) = some r from h)
 | succ k ih =>
  intro j x0 x1 x2 p q b h
  rw [Ga] at h
  refine Q4 ?_
  refine T.seq ?_
  refine T.seq (Qq ?_)
  refine mw rfl ?_
  refine sp rfl (Qg rfl (dk rfl) Kg rfl i29 (by decide) rfl ?_)
  refine sp rfl (Qm (i := 2) rfl (dk rfl) Xg rfl rfl rfl rfl ?_)
  refine sp rfl (Qn (xs := x2.Ops) (f := (cI .u8)) rfl (dk rfl) Xg rfl ?_)
  refine sp rfl (Qa rfl rfl (dk rfl) rfl rfl ?_)
  refine TL'.nil (tN ?_)
  rcases Qd h with ⟨aa, h⟩ | ⟨aa, h⟩
  refine Qk rfl aa ?_
  refine T.skip (tN ?_)
  refine T.seq ?_
  refine T.block ?_
  refine T.seq ?_
  refine X3 ?_
  refine dS (c := ⟨some 47, .ptr b (0 + 1), [(5, .ptr b 0)], [], []⟩) (fun t hm => oF rfl rfl (Qg rfl (dk rfl) Kg rfl i29 (by decide) hm.s0 rfl)) rfl rfl ?_
  refine dS (c := ⟨some 48, .sl false 1 (mU x2.Ops), [(47, .ptr b (0 + 1))], [(2, (W9 b x2.To x2.Ops))], []⟩) (fun t hm => oF rfl rfl (Qm (i := 2) rfl (dk rfl) Xg rfl hm.s0 hm.o0 rfl rfl)) rfl rfl ?_
  refine Yr rfl rfl rfl rfl rfl rfl ?_
  obtain ⟨a, ab, h⟩ := bind_some h
  refine dS (c := ⟨some 50, .ref [.int .u8 a], [(48, .sl false 1 (mU x2.Ops)), (49, .int .i64 j)], [], []⟩) (fun t hm => oF rfl rfl (Qh (xs := x2.Ops) (f := (cI .u8)) (v := a) rfl (dk rfl) Xg i5 hm.s0 hm.s1 ab rfl)) rfl rfl ?_
  refine dS (c := ⟨some 51, .int .u8 a, [(50, .ref [.int .u8 a])], [], []⟩) (fun t hm => oF rfl rfl (Qr rfl (dk rfl) ul5 rfl hm.s0 rfl rfl)) rfl rfl ?_
  refine dS (c := ⟨some 52, .bool (decide (a < (1:Int))), [(51, .int .u8 a)], [], []⟩) (fun t hm => oF rfl rfl (Qa rfl rfl (dk rfl) hm.s0 rfl rfl)) rfl rfl ?_
  refine Yr rfl rfl rfl rfl rfl rfl ?_
  rcases Qd h with ⟨s, h⟩ | ⟨s, h⟩
  refine dO s rfl rfl ?_
  refine dO s rfl rfl ?_
  refine dO s rfl rfl ?_
  refine dO s rfl rfl ?_
  refine dO s rfl rfl ?_
  refine dO s rfl rfl ?_
  refine dS (c := ⟨some 60, .bool true, [(53, .bool (decide (a < (1:Int))))], [], []⟩) (fun t hm => oF rfl rfl (Qi rfl (dk rfl) hm.s0 s rfl rfl)) rfl rfl ?_
  refine Yr rfl rfl rfl rfl rfl rfl ?_
  refine dO rfl rfl rfl ?_
  refine dO rfl rfl rfl ?_
  refine dO rfl rfl rfl ?_
  refine dO rfl rfl rfl ?_
  refine dO rfl rfl rfl ?_
  refine dO rfl rfl rfl ?_
  refine dO rfl rfl rfl ?_
  refine DG.gone rfl rfl rfl rfl rfl rfl ?_
  refine DG.gone rfl rfl rfl rfl rfl rfl ?_
  refine DG.gone rfl rfl rfl rfl rfl rfl ?_
  refine DG.gone rfl rfl rfl rfl rfl rfl ?_
  refine DG.gone rfl rfl rfl rfl rfl rfl ?_
  refine DG.gone rfl rfl rfl rfl rfl rfl ?_
  refine DG.gone rfl rfl rfl rfl rfl rfl ?_
  refine DG.gone rfl rfl rfl rfl rfl rfl ?_
  refine DG.gone rfl rfl rfl rfl rfl rfl ?_
  refine DG.gone rfl rfl rfl rfl rfl rfl ?_
  refine DG.gone rfl rfl rfl rfl rfl rfl ?_
  refine DG.gone rfl rfl rfl rfl rfl rfl ?_
  refine DG.gone rfl rfl rfl rfl rfl rfl ?_
  refine DG.gone rfl rfl rfl rfl rfl rfl ?_
  refine dO rfl rfl rfl ?_
  refine dS (c := ⟨some 84, .bool true, [(61, .bool true)], [], []⟩) (fun t hm => oF rfl rfl (Qi rfl (dk rfl) hm.s0 rfl rfl rfl)) rfl rfl ?_
  refine Y4 (s1 := ⟨[(3, .ptr p 0), (4, .ptr q 0), (5, .ptr b 0), (7, .int .i64 j), (54, .tup []), (55, .tup []), (56, .tup []), (57, .tup []), (58, .tup []), (59, .tup []), (62, .tup []), (63, .tup []), (64, .tup []), (65, .tup []), (66, .tup []), (67, .tup []), (68, .tup []), (69, .tup []), (70, .tup []), (71, .tup []), (72, .tup []), (73, .tup []), (74, .tup []), (75, .tup []), (76, .tup []), (77, .tup []), (78, .tup []), (79, .tup []), (80, .tup []), (81, .tup []), (82, .tup []), (83, .tup []), (84, .bool true)], [(Xo p x0.Split.Of x0.Split.Many x0.Counts x0.States), (Zw q x1.L x1.R x1.Rule x1.Next), (W9 b x2.To x2.Ops)]⟩) (ms := [0, 1, 0, 7, 15, 31, 63, 127, 255, 127, 1023, 2047, 4095, 8191, 16383, 32767, 65535, 32767, 262143, 524287, 1048575, 2097151, 4194303, 8388607, 4194303, 20971519, 4194303, 71303167, 255852543, 524287999, 1061158911, 4194303, 4282384383, 8577351679, 17179869183, 34359738367, 68719476735, 137438953471]) Q7 rfl (by kernel_rfl) (by kernel_rfl) (by kernel_rfl) (sf rfl) rfl (fun u hu => (tN (Qc hu ?_)))
  refine Qk rfl rfl ?_
  refine Qc ?_ (I8 K h)
  exact tq rfl rfl
  refine dS (c := ⟨some 54, .ptr b (0 + 1), [(5, .ptr b 0), (53, .bool (decide (a < (1:Int))))], [], []⟩) (fun t hm => oN rfl rfl rfl hm.s1 s (Qg rfl (dk rfl) Kg rfl i29 (by decide) hm.s0 rfl)) rfl rfl ?_
  refine dS (c := ⟨some 55, .sl false 1 (mU x2.Ops), [(54, .ptr b (0 + 1)), (53, .bool (decide (a < (1:Int))))], [(2, (W9 b x2.To x2.Ops))], []⟩) (fun t hm => oN rfl rfl rfl hm.s1 s (Qm (i := 2) rfl (dk rfl) Xg rfl hm.s0 hm.o0 rfl rfl)) rfl rfl ?_
  refine dS (c := ⟨some 56, .int .i64 j, [(7, .int .i64 j), (53, .bool (decide (a < (1:Int))))], [], []⟩) (fun t hm => oN rfl rfl rfl hm.s1 s (OpT.move rfl (dk rfl) hm.s0 rfl)) rfl rfl ?_
  refine dS (c := ⟨some 57, .ref [.int .u8 a], [(55, .sl false 1 (mU x2.Ops)), (56, .int .i64 j), (53, .bool (decide (a < (1:Int))))], [], []⟩) (fun t hm => oN rfl rfl rfl hm.s2 s (Qh (xs := x2.Ops) (f := (cI .u8)) (v := a) rfl (dk rfl) Xg i5 hm.s0 hm.s1 ab rfl)) rfl rfl ?_
  refine dS (c := ⟨some 58, .int .u8 a, [(57, .ref [.int .u8 a]), (53, .bool (decide (a < (1:Int))))], [], []⟩) (fun t hm => oN rfl rfl rfl hm.s1 s (Qr rfl (dk rfl) ul5 rfl hm.s0 rfl rfl)) rfl rfl ?_
  refine dS (c := ⟨some 59, .bool (decide (a > (3:Int))), [(58, .int .u8 a), (53, .bool (decide (a < (1:Int))))], [], []⟩) (fun t hm => oN rfl rfl rfl hm.s1 s (Qa rfl rfl (dk rfl) hm.s0 rfl rfl)) rfl rfl ?_
  refine dS (c := ⟨some 60, .bool (decide (a > (3:Int))), [(53, .bool (decide (a < (1:Int)))), (59, .bool (decide (a > (3:Int))))], [], []⟩) (fun t hm => oF rfl rfl (Qs rfl (dk rfl) hm.s0 s hm.s1 rfl)) rfl rfl ?_
  refine Yr rfl rfl rfl rfl rfl rfl ?_
  rcases Qd h with ⟨m, h⟩ | ⟨m, h⟩
  refine dO m rfl rfl ?_
  refine dO m rfl rfl ?_
  refine dO m rfl rfl ?_
  refine dO m rfl rfl ?_
  refine dO m rfl rfl ?_
  refine dO m rfl rfl ?_
  refine dO m rfl rfl ?_
  refine DG.gone rfl rfl rfl rfl rfl rfl ?_
  refine DG.gone rfl rfl rfl rfl rfl rfl ?_
  refine DG.gone rfl rfl rfl rfl rfl rfl ?_
  refine DG.gone rfl rfl rfl rfl rfl rfl ?_
  refine DG.gone rfl rfl rfl rfl rfl rfl ?_
  refine DG.gone rfl rfl rfl rfl rfl rfl ?_
  refine DG.gone rfl rfl rfl rfl rfl rfl ?_
  refine DG.gone rfl rfl rfl rfl rfl rfl ?_
  refine DG.gone rfl rfl rfl rfl rfl rfl ?_
  refine DG.gone rfl rfl rfl rfl rfl rfl ?_
  refine DG.gone rfl rfl rfl rfl rfl rfl ?_
  refine DG.gone rfl rfl rfl rfl rfl rfl ?_
  refine DG.gone rfl rfl rfl rfl rfl rfl ?_
  refine DG.gone rfl rfl rfl rfl rfl rfl ?_
  refine dO m rfl rfl ?_
  refine dS (c := ⟨some 84, .bool true, [(61, .bool (decide (a > (3:Int))))], [], []⟩) (fun t hm => oF rfl rfl (Qi rfl (dk rfl) hm.s0 m rfl rfl)) rfl rfl ?_
  refine Y4 (s1 := ⟨[(3, .ptr p 0), (4, .ptr q 0), (5, .ptr b 0), (7, .int .i64 j), (54, .ptr b (0 + 1)), (55, .sl false 1 (mU x2.Ops)), (56, .int .i64 j), (57, .ref [.int .u8 a]), (58, .int .u8 a), (59, .bool (decide (a > (3:Int)))), (62, .tup []), (63, .tup []), (64, .tup []), (65, .tup []), (66, .tup []), (67, .tup []), (68, .tup []), (69, .tup []), (70, .tup []), (71, .tup []), (72, .tup []), (73, .tup []), (74, .tup []), (75, .tup []), (76, .tup []), (77, .tup []), (78, .tup []), (79, .tup []), (80, .tup []), (81, .tup []), (82, .tup []), (83, .tup []), (84, .bool true)], [(Xo p x0.Split.Of x0.Split.Many x0.Counts x0.States), (Zw q x1.L x1.R x1.Rule x1.Next), (W9 b x2.To x2.Ops)]⟩) (ms := [0, 1, 0, 7, 15, 31, 63, 127, 255, 127, 1023, 2047, 4095, 8191, 16383, 32767, 65535, 32767, 262143, 524287, 1048575, 2097151, 4194303, 8388607, 4194303, 20971519, 4194303, 71303167, 255852543, 524287999, 1061158911, 4194303, 4282384383, 8577351679, 17179869183, 34359738367, 68719476735, 137438953471]) Q7 rfl (by kernel_rfl) (by kernel_rfl) (by kernel_rfl) (sf rfl) rfl (fun u hu => (tN (Qc hu ?_)))
  refine Qk rfl rfl ?_
  refine Qc ?_ (I8 K h)
  exact tq rfl rfl
  refine dS (c := ⟨some 62, .ptr b (0 + 1), [(5, .ptr b 0), (61, .bool (decide (a > (3:Int))))], [], []⟩) (fun t hm => oN rfl rfl rfl hm.s1 m (Qg rfl (dk rfl) Kg rfl i29 (by decide) hm.s0 rfl)) rfl rfl ?_
  refine dS (c := ⟨some 63, .sl false 1 (mU x2.Ops), [(62, .ptr b (0 + 1)), (61, .bool (decide (a > (3:Int))))], [(2, (W9 b x2.To x2.Ops))], []⟩) (fun t hm => oN rfl rfl rfl hm.s1 m (Qm (i := 2) rfl (dk rfl) Xg rfl hm.s0 hm.o0 rfl rfl)) rfl rfl ?_
  refine dS (c := ⟨some 64, .int .i64 j, [(7, .int .i64 j), (61, .bool (decide (a > (3:Int))))], [], []⟩) (fun t hm => oN rfl rfl rfl hm.s1 m (OpT.move rfl (dk rfl) hm.s0 rfl)) rfl rfl ?_
  refine dS (c := ⟨some 65, .ref [.int .u8 a], [(63, .sl false 1 (mU x2.Ops)), (64, .int .i64 j), (61, .bool (decide (a > (3:Int))))], [], []⟩) (fun t hm => oN rfl rfl rfl hm.s2 m (Qh (xs := x2.Ops) (f := (cI .u8)) (v := a) rfl (dk rfl) Xg i5 hm.s0 hm.s1 ab rfl)) rfl rfl ?_
  refine dS (c := ⟨some 66, .int .u8 a, [(65, .ref [.int .u8 a]), (61, .bool (decide (a > (3:Int))))], [], []⟩) (fun t hm => oN rfl rfl rfl hm.s1 m (Qr rfl (dk rfl) ul5 rfl hm.s0 rfl rfl)) rfl rfl ?_
  refine dS (c := ⟨some 67, .bool (a != (3:Int)), [(66, .int .u8 a), (61, .bool (decide (a > (3:Int))))], [], []⟩) (fun t hm => oN rfl rfl rfl hm.s1 m (Qa rfl rfl (dk rfl) hm.s0 rfl rfl)) rfl rfl ?_
  refine dS (c := ⟨some 68, .bool (a != (3:Int)), [(67, .bool (a != (3:Int))), (61, .bool (decide (a > (3:Int))))], [], []⟩) (fun t hm => oN rfl rfl rfl hm.s1 m (OpT.move rfl (dk rfl) hm.s0 rfl)) rfl rfl ?_
  rcases Qd h with ⟨g, h⟩ | ⟨g, h⟩
  refine dS (c := ⟨some 69, .ptr q (0 + 1), [(4, .ptr q 0), (68, .bool (a != (3:Int)))], [], []⟩) (fun t hm => oN rfl rfl rfl hm.s1 g (Qg rfl (dk rfl) Vm rfl i56 (by decide) hm.s0 rfl)) rfl rfl ?_
  refine dS (c := ⟨some 70, .sl false 1 (mI x1.R), [(69, .ptr q (0 + 1)), (68, .bool (a != (3:Int)))], [(1, (Zw q x1.L x1.R x1.Rule x1.Next))], []⟩) (fun t hm => oN rfl rfl rfl hm.s1 g (Qm (i := 1) rfl (dk rfl) Yd rfl hm.s0 hm.o0 rfl rfl)) rfl rfl ?_
  refine dS (c := ⟨some 71, .ptr p (0 + 258), [(3, .ptr p 0), (68, .bool (a != (3:Int)))], [], []⟩) (fun t hm => oN rfl rfl rfl hm.s1 g (Qg rfl (dk rfl) Xe rfl i26 (by decide) hm.s0 rfl)) rfl rfl ?_
  refine dS (c := ⟨some 72, .sl false 4 (x0.States.map Q0), [(71, .ptr p (0 + 258)), (68, .bool (a != (3:Int)))], [(0, (Xo p x0.Split.Of x0.Split.Many x0.Counts x0.States))], []⟩) (fun t hm => oN rfl rfl rfl hm.s1 g (Qm (i := 0) rfl (dk rfl) X5 rfl hm.s0 hm.o0 rfl rfl)) rfl rfl ?_
  refine dS (c := ⟨some 73, .ptr b (0 + 0), [(5, .ptr b 0), (68, .bool (a != (3:Int)))], [], []⟩) (fun t hm => oN rfl rfl rfl hm.s1 g (Qg rfl (dk rfl) Kg rfl i3 (by decide) hm.s0 rfl)) rfl rfl ?_
  refine dS (c := ⟨some 74, .int .i64 x2.To, [(73, .ptr b (0 + 0)), (68, .bool (a != (3:Int)))], [(2, (W9 b x2.To x2.Ops))], []⟩) (fun t hm => oN rfl rfl rfl hm.s1 g (Qm (i := 2) rfl (dk rfl) ul3 rfl hm.s0 hm.o0 rfl rfl)) rfl rfl ?_
  obtain ⟨l, ad, h⟩ := bind_some h
  refine dS (c := ⟨some 75, .ref [.sl false 1 (mI l.L), .sl false 1 (mI l.R), .sl false 1 (mI l.Rule), .sl false 1 (l.Next.map (cL 2 Qu))], [(72, .sl false 4 (x0.States.map Q0)), (74, .int .i64 x2.To), (68, .bool (a != (3:Int)))], [], []⟩) (fun t hm => oN rfl rfl rfl hm.s2 g (Qh (xs := x0.States) (f := Q0) (v := l) rfl (dk rfl) X5 i59 hm.s0 hm.s1 ad rfl)) rfl rfl ?_
  refine dS (c := ⟨some 76, .ref [.sl false 1 (mI l.R), .sl false 1 (mI l.Rule), .sl false 1 (l.Next.map (cL 2 Qu))], [(75, .ref [.sl false 1 (mI l.L), .sl false 1 (mI l.R), .sl false 1 (mI l.Rule), .sl false 1 (l.Next.map (cL 2 Qu))]), (68, .bool (a != (3:Int)))], [], []⟩) (fun t hm => oN rfl rfl rfl hm.s1 g (Z4 rfl (dk rfl) Vm rfl i56 (by decide) hm.s0 rfl)) rfl rfl ?_
  refine dS (c := ⟨some 77, .sl false 1 (mI l.R), [(76, .ref [.sl false 1 (mI l.R), .sl false 1 (mI l.Rule), .sl false 1 (l.Next.map (cL 2 Qu))]), (68, .bool (a != (3:Int)))], [], []⟩) (fun t hm => oN rfl rfl rfl hm.s1 g (Qr rfl (dk rfl) Yd rfl hm.s0 rfl rfl)) rfl rfl ?_
  refine dS (c := ⟨some 78, .int .i64 j, [(7, .int .i64 j), (68, .bool (a != (3:Int)))], [], []⟩) (fun t hm => oN rfl rfl rfl hm.s1 g (OpT.move rfl (dk rfl) hm.s0 rfl)) rfl rfl ?_
  obtain ⟨y, af, h⟩ := bind_some h
  refine dS (c := ⟨some 79, .ref [.int .i64 y], [(77, .sl false 1 (mI l.R)), (78, .int .i64 j), (68, .bool (a != (3:Int)))], [], []⟩) (fun t hm => oN rfl rfl rfl hm.s2 g (Qh (xs := l.R) (f := (cI .i64)) (v := y) rfl (dk rfl) Yd i3 hm.s0 hm.s1 af rfl)) rfl rfl ?_
  refine dS (c := ⟨some 80, .int .i64 y, [(79, .ref [.int .i64 y]), (68, .bool (a != (3:Int)))], [], []⟩) (fun t hm => oN rfl rfl rfl hm.s1 g (Qr rfl (dk rfl) ul3 rfl hm.s0 rfl rfl)) rfl rfl ?_
  obtain ⟨w, ag, h⟩ := bind_some h
  refine dS (c := ⟨some 81, .bool w, [(70, .sl false 1 (mI x1.R)), (80, .int .i64 y), (68, .bool (a != (3:Int)))], [], []⟩) (fun t hm => oN rfl rfl rfl hm.s2 g (Q5 rfl (dk rfl) Try.func84 rfl rfl (Q3.cons hm.s0 (Q3.cons hm.s1 Q3.nil)) (Zt.nil (r1_in_T K (flx0 := false) ag)) rfl)) rfl rfl ?_
  refine dS (c := ⟨some 82, .bool (!w), [(81, .bool w), (68, .bool (a != (3:Int)))], [], []⟩) (fun t hm => oN rfl rfl rfl hm.s1 g (OpT.not rfl (dk rfl) hm.s0 rfl)) rfl rfl ?_
  refine dS (c := ⟨some 83, .bool (!w), [(68, .bool (a != (3:Int))), (82, .bool (!w)), (61, .bool (decide (a > (3:Int))))], [], []⟩) (fun t hm => oN rfl rfl rfl hm.s2 m (Qi rfl (dk rfl) hm.s0 g hm.s1 rfl)) rfl rfl ?_
  refine dS (c := ⟨some 84, .bool (!w), [(61, .bool (decide (a > (3:Int)))), (83, .bool (!w))], [], []⟩) (fun t hm => oF rfl rfl (Qs rfl (dk rfl) hm.s0 m hm.s1 rfl)) rfl rfl ?_
  refine Y4 (s1 := ⟨[(3, .ptr p 0), (4, .ptr q 0), (5, .ptr b 0), (7, .int .i64 j), (54, .ptr b (0 + 1)), (55, .sl false 1 (mU x2.Ops)), (56, .int .i64 j), (57, .ref [.int .u8 a]), (58, .int .u8 a), (59, .bool (decide (a > (3:Int)))), (62, .ptr b (0 + 1)), (63, .sl false 1 (mU x2.Ops)), (64, .int .i64 j), (65, .ref [.int .u8 a]), (66, .int .u8 a), (67, .bool (a != (3:Int))), (68, .bool (a != (3:Int))), (69, .ptr q (0 + 1)), (70, .sl false 1 (mI x1.R)), (71, .ptr p (0 + 258)), (72, .sl false 4 (x0.States.map Q0)), (73, .ptr b (0 + 0)), (74, .int .i64 x2.To), (75, .ref [.sl false 1 (mI l.L), .sl false 1 (mI l.R), .sl false 1 (mI l.Rule), .sl false 1 (l.Next.map (cL 2 Qu))]), (76, .ref [.sl false 1 (mI l.R), .sl false 1 (mI l.Rule), .sl false 1 (l.Next.map (cL 2 Qu))]), (77, .sl false 1 (mI l.R)), (78, .int .i64 j), (79, .ref [.int .i64 y]), (80, .int .i64 y), (81, .bool w), (82, .bool (!w)), (83, .bool (!w)), (84, .bool (!w))], [(Xo p x0.Split.Of x0.Split.Many x0.Counts x0.States), (Zw q x1.L x1.R x1.Rule x1.Next), (W9 b x2.To x2.Ops)]⟩) (ms := [0, 1, 0, 7, 15, 31, 63, 127, 255, 127, 1023, 2047, 4095, 8191, 16383, 32767, 65535, 32767, 262143, 524287, 1048575, 2097151, 4194303, 8388607, 4194303, 20971519, 4194303, 71303167, 255852543, 524287999, 1061158911, 4194303, 4282384383, 8577351679, 17179869183, 34359738367, 68719476735, 137438953471]) Q7 rfl (by kernel_rfl) (by kernel_rfl) (by kernel_rfl) (sf rfl) rfl (fun u hu => (tN (Qc hu ?_)))
  rcases Qd h with ⟨ac, h⟩ | ⟨ac, h⟩
  refine Qk rfl ac ?_
  refine Qc ?_ (I8 K h)
  exact tq rfl rfl
  refine Qo rfl ac ?_
  refine T.skip (Qe (tN ?_))
  refine Qq ?_
  refine mw rfl ?_
  refine sp rfl (Qa rfl rfl (dk rfl) rfl rfl ?_)
  refine aw rfl ?_
  refine TL'.nil (tN ?_)
  refine Qb ?_ (ih (wI (j + (1:Int))) x0 x1 x2 p q b h)
  exact tq rfl rfl
  refine dO g rfl rfl ?_
  refine dO g rfl rfl ?_
  refine dO g rfl rfl ?_
  refine dO g rfl rfl ?_
  refine dO g rfl rfl ?_
  refine dO g rfl rfl ?_
  refine dO g rfl rfl ?_
  refine dO g rfl rfl ?_
  refine dO g rfl rfl ?_
  refine dO g rfl rfl ?_
  refine dO g rfl rfl ?_
  refine dO g rfl rfl ?_
  refine dO g rfl rfl ?_
  refine dO g rfl rfl ?_
  refine dS (c := ⟨some 83, .bool false, [(68, .bool (a != (3:Int))), (61, .bool (decide (a > (3:Int))))], [], []⟩) (fun t hm => oN rfl rfl rfl hm.s1 m (Qs rfl (dk rfl) hm.s0 g rfl rfl)) rfl rfl ?_
  refine dS (c := ⟨some 84, .bool false, [(61, .bool (decide (a > (3:Int)))), (83, .bool false)], [], []⟩) (fun t hm => oF rfl rfl (Qs rfl (dk rfl) hm.s0 m hm.s1 rfl)) rfl rfl ?_
  refine Y4 (s1 := ⟨[(3, .ptr p 0), (4, .ptr q 0), (5, .ptr b 0), (7, .int .i64 j), (54, .ptr b (0 + 1)), (55, .sl false 1 (mU x2.Ops)), (56, .int .i64 j), (57, .ref [.int .u8 a]), (58, .int .u8 a), (59, .bool (decide (a > (3:Int)))), (62, .ptr b (0 + 1)), (63, .sl false 1 (mU x2.Ops)), (64, .int .i64 j), (65, .ref [.int .u8 a]), (66, .int .u8 a), (67, .bool (a != (3:Int))), (68, .bool (a != (3:Int))), (69, .tup []), (70, .tup []), (71, .tup []), (72, .tup []), (73, .tup []), (74, .tup []), (75, .tup []), (76, .tup []), (77, .tup []), (78, .tup []), (79, .tup []), (80, .tup []), (81, .tup []), (82, .tup []), (83, .bool false), (84, .bool false)], [(Xo p x0.Split.Of x0.Split.Many x0.Counts x0.States), (Zw q x1.L x1.R x1.Rule x1.Next), (W9 b x2.To x2.Ops)]⟩) (ms := [0, 1, 0, 7, 15, 31, 63, 127, 255, 127, 1023, 2047, 4095, 8191, 16383, 32767, 65535, 32767, 262143, 524287, 1048575, 2097151, 4194303, 8388607, 4194303, 20971519, 4194303, 71303167, 255852543, 524287999, 1061158911, 4194303, 4282384383, 8577351679, 17179869183, 34359738367, 68719476735, 137438953471]) Q7 rfl (by kernel_rfl) (by kernel_rfl) (by kernel_rfl) (sf rfl) rfl (fun u hu => (tN (Qc hu ?_)))
  refine Qo rfl rfl ?_
  refine T.skip (Qe (tN ?_))
  refine Qq ?_
  refine mw rfl ?_
  refine sp rfl (Qa rfl rfl (dk rfl) rfl rfl ?_)
  refine aw rfl ?_
  refine TL'.nil (tN ?_)
  refine Qb ?_ (ih (wI (j + (1:Int))) x0 x1 x2 p q b h)
  exact tq rfl rfl
  refine Qo rfl aa ?_
  refine T.exit (Qf (Qf (Qp (tN ?_))))
  refine T.seq (Qq ?_)
  refine aw rfl ?_
  refine TL'.nil (tN ?_)
  refine T.ret ?_
  exact Fin.done (.cons _ _ _ _ (.tmp 6 _ rfl) .nil) (by cases h; exact ⟨rfl, rfl⟩)
theorem r1_move_T (K : Nat) {x0 : aAu} {x1 : aSt} {x2 : aMv} {r : Bool} (h : Qaw K x0 x1 x2 = some r) : Zt tp 62 [.agg ((Qx.dc 256 .u8 x0.Split.Of) ++ (([.int .i64 x0.Split.Many, .sl false 2 (mA x0.Counts), .sl false 4 (x0.States.map Q0)] : List DC))), .agg [.sl false 1 (mI x1.L), .sl false 1 (mI x1.R), .sl false 1 (mI x1.Rule), .sl false 1 (x1.Next.map (cL 2 Qu))], .agg [.int .i64 x2.To, .sl false 1 (mU x2.Ops)]] [] (.bool r) := by
 refine Qt Try.func62 rfl (nb rfl) ?_
 show T tp 85 (ca [] Try.f62) ⟨Qv 0 [.agg ((Qx.dc 256 .u8 x0.Split.Of) ++ (([.int .i64 x0.Split.Many, .sl false 2 (mA x0.Counts), .sl false 4 (x0.States.map Q0)] : List DC))), .agg [.sl false 1 (mI x1.L), .sl false 1 (mI x1.R), .sl false 1 (mI x1.Rule), .sl false 1 (x1.Next.map (cL 2 Qu))], .agg [.int .i64 x2.To, .sl false 1 (mU x2.Ops)]], []⟩ (I7 r)
 unfold Qaw at h
 refine T.seq (Qq ?_)
 refine sp rfl (Zg rfl (dk rfl) rfl (fun j => ?_))
 refine sp rfl (Zg rfl (dk rfl) rfl (fun m => ?_))
 refine sp rfl (Zg rfl (dk rfl) rfl (fun g => ?_))
 refine aw rfl ?_
 refine TL'.nil (tN ?_)
 refine T.seq ?_
 refine T.seq (Qq ?_)
 refine sp rfl (Qg rfl (dk rfl) Kg rfl i3 (by decide) rfl ?_)
 refine sp rfl (Qm (i := 0) rfl (dk rfl) ul3 rfl rfl rfl rfl ?_)
 refine sp rfl (Qa rfl rfl (dk rfl) rfl rfl ?_)
 refine TL'.nil (tN ?_)
 rcases Qd h with ⟨p, h⟩ | ⟨p, h⟩
 refine Qk rfl p ?_
 refine T.seq (Qq ?_)
 refine sp rfl (Qg rfl (dk rfl) Kg rfl i29 (by decide) rfl ?_)
 refine sp rfl (Qm (i := 0) rfl (dk rfl) Xg rfl rfl rfl rfl ?_)
 refine sp rfl (Qn (xs := x2.Ops) (f := (cI .u8)) rfl (dk rfl) Xg rfl ?_)
 refine sp rfl (Qa rfl rfl (dk rfl) rfl rfl ?_)
 refine aw rfl ?_
 refine TL'.nil (tN ?_)
 refine T.ret (Ql ?_)
 exact Fin.done (.cons _ _ _ _ (.tmp 6 _ rfl) .nil) (by cases h; exact ⟨rfl, rfl⟩)
 refine Qo rfl p ?_
 refine T.skip (tN ?_)
 refine T.seq ?_
 refine T.seq ?_
 refine X3 ?_
 refine dS (c := ⟨some 15, .ptr g (0 + 0), [(5, .ptr g 0)], [], []⟩) (fun t hm => oF rfl rfl (Qg rfl (dk rfl) Kg rfl i3 (by decide) hm.s0 rfl)) rfl rfl ?_
 refine dS (c := ⟨some 16, .int .i64 x2.To, [(15, .ptr g (0 + 0))], [(0, (W9 g x2.To x2.Ops))], []⟩) (fun t hm => oF rfl rfl (Qm (i := 0) rfl (dk rfl) ul3 rfl hm.s0 hm.o0 rfl rfl)) rfl rfl ?_
 refine dS (c := ⟨some 17, .bool (decide (x2.To < (1:Int))), [(16, .int .i64 x2.To)], [], []⟩) (fun t hm => oF rfl rfl (Qa rfl rfl (dk rfl) hm.s0 rfl rfl)) rfl rfl ?_
 refine Yr rfl rfl rfl rfl rfl rfl ?_
 rcases Qd h with ⟨l, h⟩ | ⟨l, h⟩
 refine dO l rfl rfl ?_
 refine dO l rfl rfl ?_
 refine dO l rfl rfl ?_
 refine dO l rfl rfl ?_
 refine dO l rfl rfl ?_
 refine dO l rfl rfl ?_
 refine dS (c := ⟨some 25, .bool true, [(18, .bool (decide (x2.To < (1:Int))))], [], []⟩) (fun t hm => oF rfl rfl (Qi rfl (dk rfl) hm.s0 l rfl rfl)) rfl rfl ?_
 refine Yr rfl rfl rfl rfl rfl rfl ?_
 refine dO rfl rfl rfl ?_
 refine dO rfl rfl rfl ?_
 refine dO rfl rfl rfl ?_
 refine dO rfl rfl rfl ?_
 refine dO rfl rfl rfl ?_
 refine dO rfl rfl rfl ?_
 refine dO rfl rfl rfl ?_
 refine dO rfl rfl rfl ?_
 refine dO rfl rfl rfl ?_
 refine dO rfl rfl rfl ?_
 refine dO rfl rfl rfl ?_
 refine dO rfl rfl rfl ?_
 refine dS (c := ⟨some 39, .bool true, [(26, .bool true)], [], []⟩) (fun t hm => oF rfl rfl (Qi rfl (dk rfl) hm.s0 rfl rfl rfl)) rfl rfl ?_
 refine Y4 (s1 := ⟨[(3, .ptr j 0), (4, .ptr m 0), (5, .ptr g 0), (39, .bool true)], [(W9 g x2.To x2.Ops), (Zw m x1.L x1.R x1.Rule x1.Next), (Xo j x0.Split.Of x0.Split.Many x0.Counts x0.States)]⟩) (ms := [0, 1, 3, 7, 15, 31, 15, 79, 207, 511, 1023, 2047, 4095, 8191, 16383, 4095, 36863, 4095, 135167, 495615, 1019903, 2068479, 4165631, 8388607, 16777215]) Q7 rfl (by kernel_rfl) (by kernel_rfl) (by kernel_rfl) (sf rfl) rfl (fun u hu => (tN (Qc hu ?_)))
 refine Qk rfl rfl ?_
 refine Qc ?_ (I9 K h)
 exact tq rfl rfl
 refine dS (c := ⟨some 19, .ptr g (0 + 0), [(5, .ptr g 0), (18, .bool (decide (x2.To < (1:Int))))], [], []⟩) (fun t hm => oN rfl rfl rfl hm.s1 l (Qg rfl (dk rfl) Kg rfl i3 (by decide) hm.s0 rfl)) rfl rfl ?_
 refine dS (c := ⟨some 20, .int .i64 x2.To, [(19, .ptr g (0 + 0)), (18, .bool (decide (x2.To < (1:Int))))], [(0, (W9 g x2.To x2.Ops))], []⟩) (fun t hm => oN rfl rfl rfl hm.s1 l (Qm (i := 0) rfl (dk rfl) ul3 rfl hm.s0 hm.o0 rfl rfl)) rfl rfl ?_
 refine dS (c := ⟨some 21, .ptr j (0 + 258), [(3, .ptr j 0), (18, .bool (decide (x2.To < (1:Int))))], [], []⟩) (fun t hm => oN rfl rfl rfl hm.s1 l (Qg rfl (dk rfl) Xe rfl i26 (by decide) hm.s0 rfl)) rfl rfl ?_
 refine dS (c := ⟨some 22, .sl false 4 (x0.States.map Q0), [(21, .ptr j (0 + 258)), (18, .bool (decide (x2.To < (1:Int))))], [(2, (Xo j x0.Split.Of x0.Split.Many x0.Counts x0.States))], []⟩) (fun t hm => oN rfl rfl rfl hm.s1 l (Qm (i := 2) rfl (dk rfl) X5 rfl hm.s0 hm.o0 rfl rfl)) rfl rfl ?_
 refine dS (c := ⟨some 23, .int .i64 (x0.States.length : Int), [(22, .sl false 4 (x0.States.map Q0)), (18, .bool (decide (x2.To < (1:Int))))], [], []⟩) (fun t hm => oN rfl rfl rfl hm.s1 l (Qn (xs := x0.States) (f := Q0) rfl (dk rfl) X5 hm.s0 rfl)) rfl rfl ?_
 refine dS (c := ⟨some 24, .bool (decide (x2.To ≥ (x0.States.length : Int))), [(20, .int .i64 x2.To), (23, .int .i64 (x0.States.length : Int)), (18, .bool (decide (x2.To < (1:Int))))], [], []⟩) (fun t hm => oN rfl rfl rfl hm.s2 l (Qa rfl rfl (dk rfl) hm.s0 hm.s1 rfl)) rfl rfl ?_
 refine dS (c := ⟨some 25, .bool (decide (x2.To ≥ (x0.States.length : Int))), [(18, .bool (decide (x2.To < (1:Int)))), (24, .bool (decide (x2.To ≥ (x0.States.length : Int))))], [], []⟩) (fun t hm => oF rfl rfl (Qs rfl (dk rfl) hm.s0 l hm.s1 rfl)) rfl rfl ?_
 refine Yr rfl rfl rfl rfl rfl rfl ?_
 rcases Qd h with ⟨a, h⟩ | ⟨a, h⟩
 refine dO a rfl rfl ?_
 refine dO a rfl rfl ?_
 refine dO a rfl rfl ?_
 refine dO a rfl rfl ?_
 refine dO a rfl rfl ?_
 refine dO a rfl rfl ?_
 refine dO a rfl rfl ?_
 refine dO a rfl rfl ?_
 refine dO a rfl rfl ?_
 refine dO a rfl rfl ?_
 refine dO a rfl rfl ?_
 refine dO a rfl rfl ?_
 refine dS (c := ⟨some 39, .bool true, [(26, .bool (decide (x2.To ≥ (x0.States.length : Int))))], [], []⟩) (fun t hm => oF rfl rfl (Qi rfl (dk rfl) hm.s0 a rfl rfl)) rfl rfl ?_
 refine Y4 (s1 := ⟨[(3, .ptr j 0), (4, .ptr m 0), (5, .ptr g 0), (39, .bool true)], [(W9 g x2.To x2.Ops), (Zw m x1.L x1.R x1.Rule x1.Next), (Xo j x0.Split.Of x0.Split.Many x0.Counts x0.States)]⟩) (ms := [0, 1, 3, 7, 15, 31, 15, 79, 207, 511, 1023, 2047, 4095, 8191, 16383, 4095, 36863, 4095, 135167, 495615, 1019903, 2068479, 4165631, 8388607, 16777215]) Q7 rfl (by kernel_rfl) (by kernel_rfl) (by kernel_rfl) (sf rfl) rfl (fun u hu => (tN (Qc hu ?_)))
 refine Qk rfl rfl ?_
 refine Qc ?_ (I9 K h)
 exact tq rfl rfl
 refine dS (c := ⟨some 27, .ptr g (0 + 1), [(5, .ptr g 0), (26, .bool (decide (x2.To ≥ (x0.States.length : Int))))], [], []⟩) (fun t hm => oN rfl rfl rfl hm.s1 a (Qg rfl (dk rfl) Kg rfl i29 (by decide) hm.s0 rfl)) rfl rfl ?_
 refine dS (c := ⟨some 28, .sl false 1 (mU x2.Ops), [(27, .ptr g (0 + 1)), (26, .bool (decide (x2.To ≥ (x0.States.length : Int))))], [(0, (W9 g x2.To x2.Ops))], []⟩) (fun t hm => oN rfl rfl rfl hm.s1 a (Qm (i := 0) rfl (dk rfl) Xg rfl hm.s0 hm.o0 rfl rfl)) rfl rfl ?_
 refine dS (c := ⟨some 29, .int .i64 (x2.Ops.length : Int), [(28, .sl false 1 (mU x2.Ops)), (26, .bool (decide (x2.To ≥ (x0.States.length : Int))))], [], []⟩) (fun t hm => oN rfl rfl rfl hm.s1 a (Qn (xs := x2.Ops) (f := (cI .u8)) rfl (dk rfl) Xg hm.s0 rfl)) rfl rfl ?_
 refine dS (c := ⟨some 30, .ptr j (0 + 258), [(3, .ptr j 0), (26, .bool (decide (x2.To ≥ (x0.States.length : Int))))], [], []⟩) (fun t hm => oN rfl rfl rfl hm.s1 a (Qg rfl (dk rfl) Xe rfl i26 (by decide) hm.s0 rfl)) rfl rfl ?_
 refine dS (c := ⟨some 31, .sl false 4 (x0.States.map Q0), [(30, .ptr j (0 + 258)), (26, .bool (decide (x2.To ≥ (x0.States.length : Int))))], [(2, (Xo j x0.Split.Of x0.Split.Many x0.Counts x0.States))], []⟩) (fun t hm => oN rfl rfl rfl hm.s1 a (Qm (i := 2) rfl (dk rfl) X5 rfl hm.s0 hm.o0 rfl rfl)) rfl rfl ?_
 refine dS (c := ⟨some 32, .ptr g (0 + 0), [(5, .ptr g 0), (26, .bool (decide (x2.To ≥ (x0.States.length : Int))))], [], []⟩) (fun t hm => oN rfl rfl rfl hm.s1 a (Qg rfl (dk rfl) Kg rfl i3 (by decide) hm.s0 rfl)) rfl rfl ?_
 refine dS (c := ⟨some 33, .int .i64 x2.To, [(32, .ptr g (0 + 0)), (26, .bool (decide (x2.To ≥ (x0.States.length : Int))))], [(0, (W9 g x2.To x2.Ops))], []⟩) (fun t hm => oN rfl rfl rfl hm.s1 a (Qm (i := 0) rfl (dk rfl) ul3 rfl hm.s0 hm.o0 rfl rfl)) rfl rfl ?_
 obtain ⟨b, w, h⟩ := bind_some h
 refine dS (c := ⟨some 34, .ref [.sl false 1 (mI b.L), .sl false 1 (mI b.R), .sl false 1 (mI b.Rule), .sl false 1 (b.Next.map (cL 2 Qu))], [(31, .sl false 4 (x0.States.map Q0)), (33, .int .i64 x2.To), (26, .bool (decide (x2.To ≥ (x0.States.length : Int))))], [], []⟩) (fun t hm => oN rfl rfl rfl hm.s2 a (Qh (xs := x0.States) (f := Q0) (v := b) rfl (dk rfl) X5 i59 hm.s0 hm.s1 w rfl)) rfl rfl ?_
 refine dS (c := ⟨some 35, .ref [.sl false 1 (mI b.R), .sl false 1 (mI b.Rule), .sl false 1 (b.Next.map (cL 2 Qu))], [(34, .ref [.sl false 1 (mI b.L), .sl false 1 (mI b.R), .sl false 1 (mI b.Rule), .sl false 1 (b.Next.map (cL 2 Qu))]), (26, .bool (decide (x2.To ≥ (x0.States.length : Int))))], [], []⟩) (fun t hm => oN rfl rfl rfl hm.s1 a (Z4 rfl (dk rfl) Vm rfl i56 (by decide) hm.s0 rfl)) rfl rfl ?_
 refine dS (c := ⟨some 36, .sl false 1 (mI b.R), [(35, .ref [.sl false 1 (mI b.R), .sl false 1 (mI b.Rule), .sl false 1 (b.Next.map (cL 2 Qu))]), (26, .bool (decide (x2.To ≥ (x0.States.length : Int))))], [], []⟩) (fun t hm => oN rfl rfl rfl hm.s1 a (Qr rfl (dk rfl) Yd rfl hm.s0 rfl rfl)) rfl rfl ?_
 refine dS (c := ⟨some 37, .int .i64 (b.R.length : Int), [(36, .sl false 1 (mI b.R)), (26, .bool (decide (x2.To ≥ (x0.States.length : Int))))], [], []⟩) (fun t hm => oN rfl rfl rfl hm.s1 a (Qn (xs := b.R) (f := (cI .i64)) rfl (dk rfl) Yd hm.s0 rfl)) rfl rfl ?_
 refine dS (c := ⟨some 38, .bool ((x2.Ops.length : Int) != (b.R.length : Int)), [(29, .int .i64 (x2.Ops.length : Int)), (37, .int .i64 (b.R.length : Int)), (26, .bool (decide (x2.To ≥ (x0.States.length : Int))))], [], []⟩) (fun t hm => oN rfl rfl rfl hm.s2 a (Qa rfl rfl (dk rfl) hm.s0 hm.s1 rfl)) rfl rfl ?_
 refine dS (c := ⟨some 39, .bool ((x2.Ops.length : Int) != (b.R.length : Int)), [(26, .bool (decide (x2.To ≥ (x0.States.length : Int)))), (38, .bool ((x2.Ops.length : Int) != (b.R.length : Int)))], [], []⟩) (fun t hm => oF rfl rfl (Qs rfl (dk rfl) hm.s0 a hm.s1 rfl)) rfl rfl ?_
 refine Y4 (s1 := ⟨[(3, .ptr j 0), (4, .ptr m 0), (5, .ptr g 0), (39, .bool ((x2.Ops.length : Int) != (b.R.length : Int)))], [(W9 g x2.To x2.Ops), (Zw m x1.L x1.R x1.Rule x1.Next), (Xo j x0.Split.Of x0.Split.Many x0.Counts x0.States)]⟩) (ms := [0, 1, 3, 7, 15, 31, 15, 79, 207, 511, 1023, 2047, 4095, 8191, 16383, 4095, 36863, 4095, 135167, 495615, 1019903, 2068479, 4165631, 8388607, 16777215]) Q7 rfl (by kernel_rfl) (by kernel_rfl) (by kernel_rfl) (sf rfl) rfl (fun u hu => (tN (Qc hu ?_)))
 rcases Qd h with ⟨q, h⟩ | ⟨q, h⟩
 refine Qk rfl q ?_
 refine Qc ?_ (I9 K h)
 exact tq rfl rfl
 refine Qo rfl q ?_
 refine T.skip (tN ?_)
 refine T.seq ?_
 refine T.seq (Qq ?_)
 refine aw rfl ?_
 refine TL'.nil (tN ?_)
 refine T.block ?_
 refine T.loop ?_
 refine Qb ?_ (r1_move_l1_T K K (0:Int) x0 x1 x2 j m g h)
 exact tr rfl (.c (.s (.s .z)) (.c (.s .z) (.c .z (.n _))))
abbrev Dy (r : Bool) : ES := Jk tp Try.f42 (fun y t => y = (.bool r) ∧ t = [])
abbrev r1_state_qs111 (r : Bool) : ES := thenS (fun s' => T tp 96 (ca [1,1,1] Try.f42) s' ((Dy r))) ((Dy r))
abbrev Qav (r : Bool) : ES := thenS (fun s' => T tp 96 (ca [1,1,1,1] Try.f42) s' ((Dy r))) ((Dy r))
abbrev W6 (r : Bool) : ES := Qz 0 ((Qav r))
abbrev Dx (r : Bool) : ES := thenS (fun s' => TL tp 96 (ca [1,1,1,0,1,0,0] Try.f42) s' ((W6 r))) ((W6 r))
abbrev Od (r : Bool) : ES := thenS (fun s' => T tp 96 (ca [1,1,1,0,1,0,0,1,1] Try.f42) s' ((Dx r))) ((Dx r))
abbrev Jd (r : Bool) : ES := Qz 1 ((Od r))
abbrev F4 (r : Bool) : ES := thenS (fun s' => T tp 96 (ca [1,1,1,0,1,0,0,1,0,0,1] Try.f42) s' ((Jd r))) ((Jd r))
abbrev Cb (r : Bool) : ES := Qz 2 ((Jd r))
theorem Gy {r : Bool} (K : Nat) (h : Vn K = some r) : T tp 96 (ca [1,1,0,1,0] Try.f42) ⟨[], []⟩ (r1_state_qs111 r) := by
 unfold Vn at h
 refine T.seq (Qq ?_)
 refine aw rfl ?_
 refine TL'.nil (tN ?_)
 refine T.ret (Ql ?_)
 exact Fin.done (.cons _ _ _ _ (.tmp 4 _ rfl) .nil) (by cases h; exact ⟨rfl, rfl⟩)
theorem Et {r : Bool} (K : Nat) (h : Wp K = some r) : T tp 96 (ca [1,1,1,0,1,0,0,1,0,0,0,1,0] Try.f42) ⟨[], []⟩ (F4 r) := by
 unfold Wp at h
 refine T.seq (Qq ?_)
 refine aw rfl ?_
 refine TL'.nil (tN ?_)
 refine T.ret (Ql (Qy (Ql (Ql (Qy (Ql ?_))))))
 exact Fin.done (.cons _ _ _ _ (.tmp 4 _ rfl) .nil) (by cases h; exact ⟨rfl, rfl⟩)
abbrev r1_state_l1_H (r : Bool) (go : Int → Int → aAu → aSt → Option Bool) : Prop := ∀ (a b : Int) (x0 : aAu) (x1 : aSt) (c f : Nat), go a b x0 x1 = some r → TL tp 96 (ca [1,1,1,0,1,0,0] Try.f42) ⟨[(2, .ptr c 0), (3, .ptr f 0), (5, .int .i64 a), (6, .int .i64 b)], [(Xo c x0.Split.Of x0.Split.Many x0.Counts x0.States), (Zw f x1.L x1.R x1.Rule x1.Next)]⟩ (W6 r)
theorem r1_state_l3_T {r : Bool} (K : Nat) (go1 : Int → Int → aAu → aSt → Option Bool) (hgo1 : r1_state_l1_H r go1) : ∀ (k : Nat), ∀ (p j q : Int) (x1 : aSt) (s w y : Int) (aa : Bool) (ab : Int) (ac ad : List aMv) (af : Int) (x0 : aAu) (ag : Bool) (b a : Nat), Hy K go1 k p j q x1 s w y aa ab ac ad af x0 ag = some r → TL tp 96 (ca [1,1,1,0,1,0,0,1,0,0,1,1,0,0] Try.f42) ⟨[(2, .ptr b 0), (3, .ptr a 0), (5, .int .i64 p), (6, .int .i64 j), (7, .int .i64 q), (55, .ptr a (0 + 2)), (56, .sl false 1 (mI x1.Rule)), (57, .int .i64 s), (58, .ref [.int .i64 w]), (59, .int .i64 y), (60, .bool aa), (63, .ptr a (0 + 3)), (64, .sl false 1 (x1.Next.map (cL 2 Qu))), (65, .int .i64 ab), (66, .ref [.sl false 2 (ac.map Qu)]), (67, .sl false 2 (ad.map Qu)), (68, .int .i64 af), (69, .ptr b (0 + 0)), (70, .ptr b (0 + 0 + 256)), (71, .int .i64 x0.Split.Many), (72, .bool ag)], [(Xo b x0.Split.Of x0.Split.Many x0.Counts x0.States), (Zw a x1.L x1.R x1.Rule x1.Next)]⟩ (Cb r) := by
 intro k
 induction k with
 | zero =>
  intro p j q x1 s w y aa ab ac ad af x0 ag b a h
  cases (show (none : Option Bool) = some r from h)
 | succ k ih =>
  intro p j q x1 s w y aa ab ac ad af x0 ag b a h
  rw [Hy] at h
  refine Q4 ?_
  refine T.seq ?_
  refine T.seq (Qq ?_)
  refine mw rfl ?_
  refine sp rfl (Qg rfl (dk rfl) Vm rfl i57 (by decide) rfl ?_)
  refine sp rfl (Qm (i := 1) rfl (dk rfl) B0 rfl rfl rfl rfl ?_)
  refine mw rfl ?_
  obtain ⟨m, am, h⟩ := bind_some h
  refine sp rfl (Qh (xs := x1.Next) (f := (cL 2 Qu)) (v := m) rfl (dk rfl) B0 i61 rfl rfl am ?_)
  refine sp rfl (Qr rfl (dk rfl) Fq rfl rfl rfl ?_)
  refine sp rfl (Qn (xs := m) (f := Qu) rfl (dk rfl) Fq rfl ?_)
  refine sp rfl (Qa rfl rfl (dk rfl) rfl rfl ?_)
  refine TL'.nil (tN ?_)
  rcases Qd h with ⟨aj, h⟩ | ⟨aj, h⟩
  refine Qk rfl aj ?_
  refine T.skip (tN ?_)
  refine T.seq ?_
  refine T.block ?_
  refine T.seq ?_
  refine X3 ?_
  refine dS (c := ⟨some 84, .agg ((Qx.dc 256 .u8 x0.Split.Of) ++ (([.int .i64 x0.Split.Many, .sl false 2 (mA x0.Counts), .sl false 4 (x0.States.map Q0)] : List DC))), [(2, .ptr b 0)], [(0, (Xo b x0.Split.Of x0.Split.Many x0.Counts x0.States))], []⟩) (fun t hm => oF rfl rfl (Ze (i := 0) (l := ((Qx.dc 256 .u8 x0.Split.Of) ++ (([.int .i64 x0.Split.Many, .sl false 2 (mA x0.Counts), .sl false 4 (x0.States.map Q0)] : List DC)))) rfl (dk rfl) Xe rfl i28 hm.s0 hm.o0 rfl rfl rfl)) rfl rfl ?_
  refine dS (c := ⟨some 85, .agg [.sl false 1 (mI x1.L), .sl false 1 (mI x1.R), .sl false 1 (mI x1.Rule), .sl false 1 (x1.Next.map (cL 2 Qu))], [(3, .ptr a 0)], [(1, (Zw a x1.L x1.R x1.Rule x1.Next))], []⟩) (fun t hm => oF rfl rfl (Ze (i := 1) (l := [.sl false 1 (mI x1.L), .sl false 1 (mI x1.R), .sl false 1 (mI x1.Rule), .sl false 1 (x1.Next.map (cL 2 Qu))]) rfl (dk rfl) Vm rfl i59 hm.s0 hm.o0 rfl rfl rfl)) rfl rfl ?_
  refine dS (c := ⟨some 86, .ptr a (0 + 3), [(3, .ptr a 0)], [], []⟩) (fun t hm => oF rfl rfl (Qg rfl (dk rfl) Vm rfl i57 (by decide) hm.s0 rfl)) rfl rfl ?_
  refine dS (c := ⟨some 87, .sl false 1 (x1.Next.map (cL 2 Qu)), [(86, .ptr a (0 + 3))], [(1, (Zw a x1.L x1.R x1.Rule x1.Next))], []⟩) (fun t hm => oF rfl rfl (Qm (i := 1) rfl (dk rfl) B0 rfl hm.s0 hm.o0 rfl rfl)) rfl rfl ?_
  refine Yr rfl rfl rfl rfl rfl rfl ?_
  refine dS (c := ⟨some 89, .ref [.sl false 2 (m.map Qu)], [(87, .sl false 1 (x1.Next.map (cL 2 Qu))), (88, .int .i64 j)], [], []⟩) (fun t hm => oF rfl rfl (Qh (xs := x1.Next) (f := (cL 2 Qu)) (v := m) rfl (dk rfl) B0 i61 hm.s0 hm.s1 am rfl)) rfl rfl ?_
  refine dS (c := ⟨some 90, .sl false 2 (m.map Qu), [(89, .ref [.sl false 2 (m.map Qu)])], [], []⟩) (fun t hm => oF rfl rfl (Qr rfl (dk rfl) Fq rfl hm.s0 rfl rfl)) rfl rfl ?_
  refine Yr rfl rfl rfl rfl rfl rfl ?_
  obtain ⟨g, an, h⟩ := bind_some h
  refine dS (c := ⟨some 92, .ref [.int .i64 g.To, .sl false 1 (mU g.Ops)], [(90, .sl false 2 (m.map Qu)), (91, .int .i64 q)], [], []⟩) (fun t hm => oF rfl rfl (Qh (xs := m) (f := Qu) (v := g) rfl (dk rfl) Fq i63 hm.s0 hm.s1 an rfl)) rfl rfl ?_
  refine dS (c := ⟨some 93, .agg [.int .i64 g.To, .sl false 1 (mU g.Ops)], [(92, .ref [.int .i64 g.To, .sl false 1 (mU g.Ops)])], [], []⟩) (fun t hm => oF rfl rfl (Zj rfl (dk rfl) Kg rfl i63 hm.s0 (nb rfl) rfl)) rfl rfl ?_
  obtain ⟨ai, ap, h⟩ := bind_some h
  refine dS (c := ⟨some 94, .bool ai, [(84, .agg ((Qx.dc 256 .u8 x0.Split.Of) ++ (([.int .i64 x0.Split.Many, .sl false 2 (mA x0.Counts), .sl false 4 (x0.States.map Q0)] : List DC)))), (85, .agg [.sl false 1 (mI x1.L), .sl false 1 (mI x1.R), .sl false 1 (mI x1.Rule), .sl false 1 (x1.Next.map (cL 2 Qu))]), (93, .agg [.int .i64 g.To, .sl false 1 (mU g.Ops)])], [], []⟩) (fun t hm => oF rfl rfl (Q5 rfl (dk rfl) Try.func62 rfl rfl (Q3.cons hm.s0 (Q3.cons hm.s1 (Q3.cons hm.s2 Q3.nil))) (Zt.nil (r1_move_T K ap)) rfl)) rfl rfl ?_
  refine dS (c := ⟨some 95, .bool (!ai), [(94, .bool ai)], [], []⟩) (fun t hm => oF rfl rfl (OpT.not rfl (dk rfl) hm.s0 rfl)) rfl rfl ?_
  refine Y4 (s1 := ⟨[(2, .ptr b 0), (3, .ptr a 0), (5, .int .i64 p), (6, .int .i64 j), (7, .int .i64 q), (55, .ptr a (0 + 2)), (56, .sl false 1 (mI x1.Rule)), (57, .int .i64 s), (58, .ref [.int .i64 w]), (59, .int .i64 y), (60, .bool aa), (63, .ptr a (0 + 3)), (64, .sl false 1 (x1.Next.map (cL 2 Qu))), (65, .int .i64 ab), (66, .ref [.sl false 2 (ac.map Qu)]), (67, .sl false 2 (ad.map Qu)), (68, .int .i64 af), (69, .ptr b (0 + 0)), (70, .ptr b (0 + 0 + 256)), (71, .int .i64 x0.Split.Many), (72, .bool ag), (95, .bool (!ai))], [(Xo b x0.Split.Of x0.Split.Many x0.Counts x0.States), (Zw a x1.L x1.R x1.Rule x1.Next)]⟩) (ms := [0, 0, 0, 4, 0, 28, 60, 0, 252, 508, 1023, 2047]) Q7 rfl (by kernel_rfl) (by kernel_rfl) (by kernel_rfl) (sf rfl) rfl (fun u hu => (tN (Qc hu ?_)))
  rcases Qd h with ⟨al, h⟩ | ⟨al, h⟩
  refine Qk rfl al ?_
  refine T.seq (Qq ?_)
  refine aw rfl ?_
  refine TL'.nil (tN ?_)
  refine T.ret (Qy (Ql (Ql (Qy (Qy (Ql (Ql (Qy (Ql ?_)))))))))
  exact Fin.done (.cons _ _ _ _ (.tmp 4 _ rfl) .nil) (by cases h; exact ⟨rfl, rfl⟩)
  refine Qo rfl al ?_
  refine T.skip (Qe (tN ?_))
  refine Qq ?_
  refine mw rfl ?_
  refine sp rfl (Qa rfl rfl (dk rfl) rfl rfl ?_)
  refine aw rfl ?_
  refine TL'.nil (tN ?_)
  refine Qb ?_ (ih p j (wI (q + (1:Int))) x1 s w y aa ab ac ad af x0 ag b a h)
  exact tq rfl rfl
  refine Qo rfl aj ?_
  refine T.exit (Qf (Qf (Qp (Qe (tN ?_)))))
  refine Qq ?_
  refine mw rfl ?_
  refine sp rfl (Qa rfl rfl (dk rfl) rfl rfl ?_)
  refine aw rfl ?_
  refine TL'.nil (tN ?_)
  refine Qb ?_ (hgo1 p (wI (j + (1:Int))) x0 x1 b a h)
  exact tq rfl rfl
theorem r1_state_l1_T {r : Bool} (K : Nat) : ∀ (k : Nat), ∀ (q j : Int) (x0 : aAu) (x1 : aSt) (m b : Nat), Ux K k q j x0 x1 = some r → TL tp 96 (ca [1,1,1,0,1,0,0] Try.f42) ⟨[(2, .ptr m 0), (3, .ptr b 0), (5, .int .i64 q), (6, .int .i64 j)], [(Xo m x0.Split.Of x0.Split.Many x0.Counts x0.States), (Zw b x1.L x1.R x1.Rule x1.Next)]⟩ (W6 r) := by
 intro k
 induction k with
 | zero =>
  intro q j x0 x1 m b h
  cases (show (none : Option Bool) = some r from h)
 | succ k ih =>
  intro q j x0 x1 m b h
  rw [Ux] at h
  refine Q4 ?_
  refine T.seq ?_
  refine T.seq (Qq ?_)
  refine mw rfl ?_
  refine mw rfl ?_
  refine sp rfl (Qa rfl rfl (dk rfl) rfl rfl ?_)
  refine TL'.nil (tN ?_)
  rcases Qd h with ⟨s, h⟩ | ⟨s, h⟩
  refine Qk rfl s ?_
  refine T.skip (tN ?_)
  refine T.seq ?_
  refine T.block ?_
  refine T.seq ?_
  refine T.seq ?_
  refine X3 ?_
  refine dS (c := ⟨some 48, .ptr b (0 + 2), [(3, .ptr b 0)], [], []⟩) (fun t hm => oF rfl rfl (Qg rfl (dk rfl) Vm rfl i56 (by decide) hm.s0 rfl)) rfl rfl ?_
  refine dS (c := ⟨some 49, .sl false 1 (mI x1.Rule), [(48, .ptr b (0 + 2))], [(1, (Zw b x1.L x1.R x1.Rule x1.Next))], []⟩) (fun t hm => oF rfl rfl (Qm (i := 1) rfl (dk rfl) Yd rfl hm.s0 hm.o0 rfl rfl)) rfl rfl ?_
  refine Yr rfl rfl rfl rfl rfl rfl ?_
  obtain ⟨a, y, h⟩ := bind_some h
  refine dS (c := ⟨some 51, .ref [.int .i64 a], [(49, .sl false 1 (mI x1.Rule)), (50, .int .i64 j)], [], []⟩) (fun t hm => oF rfl rfl (Qh (xs := x1.Rule) (f := (cI .i64)) (v := a) rfl (dk rfl) Yd i3 hm.s0 hm.s1 y rfl)) rfl rfl ?_
  refine dS (c := ⟨some 52, .int .i64 a, [(51, .ref [.int .i64 a])], [], []⟩) (fun t hm => oF rfl rfl (Qr rfl (dk rfl) ul3 rfl hm.s0 rfl rfl)) rfl rfl ?_
  refine dS (c := ⟨some 53, .bool (decide (a < (-1:Int))), [(52, .int .i64 a)], [], []⟩) (fun t hm => oF rfl rfl (Qa rfl rfl (dk rfl) hm.s0 rfl rfl)) rfl rfl ?_
  refine Yr rfl rfl rfl rfl rfl rfl ?_
  rcases Qd h with ⟨p, h⟩ | ⟨p, h⟩
  refine dO p rfl rfl ?_
  refine dO p rfl rfl ?_
  refine dO p rfl rfl ?_
  refine dO p rfl rfl ?_
  refine dO p rfl rfl ?_
  refine dO p rfl rfl ?_
  refine dS (c := ⟨some 61, .bool true, [(54, .bool (decide (a < (-1:Int))))], [], []⟩) (fun t hm => oF rfl rfl (Qi rfl (dk rfl) hm.s0 p rfl rfl)) rfl rfl ?_
  refine Yr rfl rfl rfl rfl rfl rfl ?_
  refine dO rfl rfl rfl ?_
  refine dO rfl rfl rfl ?_
  refine dO rfl rfl rfl ?_
  refine dO rfl rfl rfl ?_
  refine dO rfl rfl rfl ?_
  refine dO rfl rfl rfl ?_
  refine dO rfl rfl rfl ?_
  refine dO rfl rfl rfl ?_
  refine dO rfl rfl rfl ?_
  refine dO rfl rfl rfl ?_
  refine dS (c := ⟨some 73, .bool true, [(62, .bool true)], [], []⟩) (fun t hm => oF rfl rfl (Qi rfl (dk rfl) hm.s0 rfl rfl rfl)) rfl rfl ?_
  refine Y4 (s1 := ⟨[(2, .ptr m 0), (3, .ptr b 0), (5, .int .i64 q), (6, .int .i64 j), (55, .tup []), (56, .tup []), (57, .tup []), (58, .tup []), (59, .tup []), (60, .tup []), (63, .tup []), (64, .tup []), (65, .tup []), (66, .tup []), (67, .tup []), (68, .tup []), (69, .tup []), (70, .tup []), (71, .tup []), (72, .tup []), (73, .bool true)], [(Xo m x0.Split.Of x0.Split.Many x0.Counts x0.States), (Zw b x1.L x1.R x1.Rule x1.Next)]⟩) (ms := [0, 1, 0, 7, 15, 31, 63, 127, 255, 127, 1023, 2047, 4095, 8191, 16383, 32767, 65535, 32767, 262143, 524287, 1048575, 32767, 2129919, 6324223, 16777215, 33554431]) Q7 rfl (by kernel_rfl) (by kernel_rfl) (by kernel_rfl) (sf rfl) rfl (fun u hu => (tN (Qc hu ?_)))
  refine Qk rfl rfl ?_
  refine Qc ?_ (Et K h)
  exact tq rfl rfl
  refine dS (c := ⟨some 55, .ptr b (0 + 2), [(3, .ptr b 0), (54, .bool (decide (a < (-1:Int))))], [], []⟩) (fun t hm => oN rfl rfl rfl hm.s1 p (Qg rfl (dk rfl) Vm rfl i56 (by decide) hm.s0 rfl)) rfl rfl ?_
  refine dS (c := ⟨some 56, .sl false 1 (mI x1.Rule), [(55, .ptr b (0 + 2)), (54, .bool (decide (a < (-1:Int))))], [(1, (Zw b x1.L x1.R x1.Rule x1.Next))], []⟩) (fun t hm => oN rfl rfl rfl hm.s1 p (Qm (i := 1) rfl (dk rfl) Yd rfl hm.s0 hm.o0 rfl rfl)) rfl rfl ?_
  refine dS (c := ⟨some 57, .int .i64 j, [(6, .int .i64 j), (54, .bool (decide (a < (-1:Int))))], [], []⟩) (fun t hm => oN rfl rfl rfl hm.s1 p (OpT.move rfl (dk rfl) hm.s0 rfl)) rfl rfl ?_
  refine dS (c := ⟨some 58, .ref [.int .i64 a], [(56, .sl false 1 (mI x1.Rule)), (57, .int .i64 j), (54, .bool (decide (a < (-1:Int))))], [], []⟩) (fun t hm => oN rfl rfl rfl hm.s2 p (Qh (xs := x1.Rule) (f := (cI .i64)) (v := a) rfl (dk rfl) Yd i3 hm.s0 hm.s1 y rfl)) rfl rfl ?_
  refine dS (c := ⟨some 59, .int .i64 a, [(58, .ref [.int .i64 a]), (54, .bool (decide (a < (-1:Int))))], [], []⟩) (fun t hm => oN rfl rfl rfl hm.s1 p (Qr rfl (dk rfl) ul3 rfl hm.s0 rfl rfl)) rfl rfl ?_
  refine dS (c := ⟨some 60, .bool (decide (a ≥ (512:Int))), [(59, .int .i64 a), (54, .bool (decide (a < (-1:Int))))], [], []⟩) (fun t hm => oN rfl rfl rfl hm.s1 p (Qa rfl rfl (dk rfl) hm.s0 rfl rfl)) rfl rfl ?_
  refine dS (c := ⟨some 61, .bool (decide (a ≥ (512:Int))), [(54, .bool (decide (a < (-1:Int)))), (60, .bool (decide (a ≥ (512:Int))))], [], []⟩) (fun t hm => oF rfl rfl (Qs rfl (dk rfl) hm.s0 p hm.s1 rfl)) rfl rfl ?_
  refine Yr rfl rfl rfl rfl rfl rfl ?_
  rcases Qd h with ⟨g, h⟩ | ⟨g, h⟩
  refine dO g rfl rfl ?_
  refine dO g rfl rfl ?_
  refine dO g rfl rfl ?_
  refine dO g rfl rfl ?_
  refine dO g rfl rfl ?_
  refine dO g rfl rfl ?_
  refine dO g rfl rfl ?_
  refine dO g rfl rfl ?_
  refine dO g rfl rfl ?_
  refine dO g rfl rfl ?_
  refine dS (c := ⟨some 73, .bool true, [(62, .bool (decide (a ≥ (512:Int))))], [], []⟩) (fun t hm => oF rfl rfl (Qi rfl (dk rfl) hm.s0 g rfl rfl)) rfl rfl ?_
  refine Y4 (s1 := ⟨[(2, .ptr m 0), (3, .ptr b 0), (5, .int .i64 q), (6, .int .i64 j), (55, .ptr b (0 + 2)), (56, .sl false 1 (mI x1.Rule)), (57, .int .i64 j), (58, .ref [.int .i64 a]), (59, .int .i64 a), (60, .bool (decide (a ≥ (512:Int)))), (63, .tup []), (64, .tup []), (65, .tup []), (66, .tup []), (67, .tup []), (68, .tup []), (69, .tup []), (70, .tup []), (71, .tup []), (72, .tup []), (73, .bool true)], [(Xo m x0.Split.Of x0.Split.Many x0.Counts x0.States), (Zw b x1.L x1.R x1.Rule x1.Next)]⟩) (ms := [0, 1, 0, 7, 15, 31, 63, 127, 255, 127, 1023, 2047, 4095, 8191, 16383, 32767, 65535, 32767, 262143, 524287, 1048575, 32767, 2129919, 6324223, 16777215, 33554431]) Q7 rfl (by kernel_rfl) (by kernel_rfl) (by kernel_rfl) (sf rfl) rfl (fun u hu => (tN (Qc hu ?_)))
  refine Qk rfl rfl ?_
  refine Qc ?_ (Et K h)
  exact tq rfl rfl
  refine dS (c := ⟨some 63, .ptr b (0 + 3), [(3, .ptr b 0), (62, .bool (decide (a ≥ (512:Int))))], [], []⟩) (fun t hm => oN rfl rfl rfl hm.s1 g (Qg rfl (dk rfl) Vm rfl i57 (by decide) hm.s0 rfl)) rfl rfl ?_
  refine dS (c := ⟨some 64, .sl false 1 (x1.Next.map (cL 2 Qu)), [(63, .ptr b (0 + 3)), (62, .bool (decide (a ≥ (512:Int))))], [(1, (Zw b x1.L x1.R x1.Rule x1.Next))], []⟩) (fun t hm => oN rfl rfl rfl hm.s1 g (Qm (i := 1) rfl (dk rfl) B0 rfl hm.s0 hm.o0 rfl rfl)) rfl rfl ?_
  refine dS (c := ⟨some 65, .int .i64 j, [(6, .int .i64 j), (62, .bool (decide (a ≥ (512:Int))))], [], []⟩) (fun t hm => oN rfl rfl rfl hm.s1 g (OpT.move rfl (dk rfl) hm.s0 rfl)) rfl rfl ?_
  obtain ⟨l, aa, h⟩ := bind_some h
  refine dS (c := ⟨some 66, .ref [.sl false 2 (l.map Qu)], [(64, .sl false 1 (x1.Next.map (cL 2 Qu))), (65, .int .i64 j), (62, .bool (decide (a ≥ (512:Int))))], [], []⟩) (fun t hm => oN rfl rfl rfl hm.s2 g (Qh (xs := x1.Next) (f := (cL 2 Qu)) (v := l) rfl (dk rfl) B0 i61 hm.s0 hm.s1 aa rfl)) rfl rfl ?_
  refine dS (c := ⟨some 67, .sl false 2 (l.map Qu), [(66, .ref [.sl false 2 (l.map Qu)]), (62, .bool (decide (a ≥ (512:Int))))], [], []⟩) (fun t hm => oN rfl rfl rfl hm.s1 g (Qr rfl (dk rfl) Fq rfl hm.s0 rfl rfl)) rfl rfl ?_
  refine dS (c := ⟨some 68, .int .i64 (l.length : Int), [(67, .sl false 2 (l.map Qu)), (62, .bool (decide (a ≥ (512:Int))))], [], []⟩) (fun t hm => oN rfl rfl rfl hm.s1 g (Qn (xs := l) (f := Qu) rfl (dk rfl) Fq hm.s0 rfl)) rfl rfl ?_
  refine dS (c := ⟨some 69, .ptr m (0 + 0), [(2, .ptr m 0), (62, .bool (decide (a ≥ (512:Int))))], [], []⟩) (fun t hm => oN rfl rfl rfl hm.s1 g (Qg rfl (dk rfl) Xe rfl i24 (by decide) hm.s0 rfl)) rfl rfl ?_
  refine dS (c := ⟨some 70, .ptr m (0 + 0 + 256), [(69, .ptr m (0 + 0)), (62, .bool (decide (a ≥ (512:Int))))], [], []⟩) (fun t hm => oN rfl rfl rfl hm.s1 g (Qg rfl (dk rfl) Ig rfl i3 (by decide) hm.s0 rfl)) rfl rfl ?_
  refine dS (c := ⟨some 71, .int .i64 x0.Split.Many, [(70, .ptr m (0 + 0 + 256)), (62, .bool (decide (a ≥ (512:Int))))], [(0, (Xo m x0.Split.Of x0.Split.Many x0.Counts x0.States))], []⟩) (fun t hm => oN rfl rfl rfl hm.s1 g (Qm (i := 0) rfl (dk rfl) ul3 rfl hm.s0 hm.o0 rfl rfl)) rfl rfl ?_
  refine dS (c := ⟨some 72, .bool ((l.length : Int) != x0.Split.Many), [(68, .int .i64 (l.length : Int)), (71, .int .i64 x0.Split.Many), (62, .bool (decide (a ≥ (512:Int))))], [], []⟩) (fun t hm => oN rfl rfl rfl hm.s2 g (Qa rfl rfl (dk rfl) hm.s0 hm.s1 rfl)) rfl rfl ?_
  refine dS (c := ⟨some 73, .bool ((l.length : Int) != x0.Split.Many), [(62, .bool (decide (a ≥ (512:Int)))), (72, .bool ((l.length : Int) != x0.Split.Many))], [], []⟩) (fun t hm => oF rfl rfl (Qs rfl (dk rfl) hm.s0 g hm.s1 rfl)) rfl rfl ?_
  refine Y4 (s1 := ⟨[(2, .ptr m 0), (3, .ptr b 0), (5, .int .i64 q), (6, .int .i64 j), (55, .ptr b (0 + 2)), (56, .sl false 1 (mI x1.Rule)), (57, .int .i64 j), (58, .ref [.int .i64 a]), (59, .int .i64 a), (60, .bool (decide (a ≥ (512:Int)))), (63, .ptr b (0 + 3)), (64, .sl false 1 (x1.Next.map (cL 2 Qu))), (65, .int .i64 j), (66, .ref [.sl false 2 (l.map Qu)]), (67, .sl false 2 (l.map Qu)), (68, .int .i64 (l.length : Int)), (69, .ptr m (0 + 0)), (70, .ptr m (0 + 0 + 256)), (71, .int .i64 x0.Split.Many), (72, .bool ((l.length : Int) != x0.Split.Many)), (73, .bool ((l.length : Int) != x0.Split.Many))], [(Xo m x0.Split.Of x0.Split.Many x0.Counts x0.States), (Zw b x1.L x1.R x1.Rule x1.Next)]⟩) (ms := [0, 1, 0, 7, 15, 31, 63, 127, 255, 127, 1023, 2047, 4095, 8191, 16383, 32767, 65535, 32767, 262143, 524287, 1048575, 32767, 2129919, 6324223, 16777215, 33554431]) Q7 rfl (by kernel_rfl) (by kernel_rfl) (by kernel_rfl) (sf rfl) rfl (fun u hu => (tN (Qc hu ?_)))
  rcases Qd h with ⟨w, h⟩ | ⟨w, h⟩
  refine Qk rfl w ?_
  refine Qc ?_ (Et K h)
  exact tq rfl rfl
  refine Qo rfl w ?_
  refine T.skip (tN ?_)
  refine T.seq (Qq ?_)
  refine aw rfl ?_
  refine TL'.nil (tN ?_)
  refine T.block ?_
  refine T.loop ?_
  refine Qb ?_ (r1_state_l3_T K (Ux K k) ih K q j (0:Int) x1 j a a (decide (a ≥ (512:Int))) j l l (l.length : Int) x0 ((l.length : Int) != x0.Split.Many) m b h)
  exact tq rfl rfl
  refine Qo rfl s ?_
  refine T.exit (Qf (Qf (Qp (tN ?_))))
  refine T.seq (Qq ?_)
  refine aw rfl ?_
  refine TL'.nil (tN ?_)
  refine T.ret ?_
  exact Fin.done (.cons _ _ _ _ (.tmp 4 _ rfl) .nil) (by cases h; exact ⟨rfl, rfl⟩)
theorem r1_state_T (K : Nat) {x0 : aAu} {x1 : aSt} {r : Bool} (h : R2 K x0 x1 = some r) : Zt tp 42 [.agg ((Qx.dc 256 .u8 x0.Split.Of) ++ (([.int .i64 x0.Split.Many, .sl false 2 (mA x0.Counts), .sl false 4 (x0.States.map Q0)] : List DC))), .agg [.sl false 1 (mI x1.L), .sl false 1 (mI x1.R), .sl false 1 (mI x1.Rule), .sl false 1 (x1.Next.map (cL 2 Qu))]] [] (.bool r) := by
 refine Qt Try.func42 rfl (nb rfl) ?_
 show T tp 96 (ca [] Try.f42) ⟨Qv 0 [.agg ((Qx.dc 256 .u8 x0.Split.Of) ++ (([.int .i64 x0.Split.Many, .sl false 2 (mA x0.Counts), .sl false 4 (x0.States.map Q0)] : List DC))), .agg [.sl false 1 (mI x1.L), .sl false 1 (mI x1.R), .sl false 1 (mI x1.Rule), .sl false 1 (x1.Next.map (cL 2 Qu))]], []⟩ (Dy r)
 unfold R2 at h
 refine T.seq (Qq ?_)
 refine sp rfl (Zg rfl (dk rfl) rfl (fun l => ?_))
 refine sp rfl (Zg rfl (dk rfl) rfl (fun m => ?_))
 refine aw rfl ?_
 refine TL'.nil (tN (T.seq (Qq ?_)))
 refine sp rfl (Qg rfl (dk rfl) Vm rfl i56 (by decide) rfl ?_)
 refine sp rfl (Qm (i := 0) rfl (dk rfl) Yd rfl rfl rfl rfl ?_)
 refine sp rfl (Qn (xs := x1.R) (f := (cI .i64)) rfl (dk rfl) Yd rfl ?_)
 obtain ⟨p, q, h⟩ := bind_some h
 refine sp rfl (Q5 rfl (dk rfl) Try.func50 rfl rfl (Q3.cons rfl Q3.nil) (Zt.nil (Tc K q)) ?_)
 refine aw rfl ?_
 refine TL'.nil (tN ?_)
 refine T.seq ?_
 refine T.seq (Qq ?_)
 refine mw rfl ?_
 refine sp rfl (Qa rfl rfl (dk rfl) rfl rfl ?_)
 refine mw rfl ?_
 rcases Qd h with ⟨g, h⟩ | ⟨g, h⟩
 refine pf rfl g ?_
 refine pf rfl g ?_
 refine pf rfl g ?_
 refine pf rfl g ?_
 refine sp rfl (Qi rfl (dk rfl) rfl g rfl ?_)
 refine mw rfl ?_
 refine pf rfl rfl ?_
 refine pf rfl rfl ?_
 refine pf rfl rfl ?_
 refine pf rfl rfl ?_
 refine pf rfl rfl ?_
 refine pf rfl rfl ?_
 refine pf rfl rfl ?_
 refine sp rfl (Qi rfl (dk rfl) rfl rfl rfl ?_)
 refine mw rfl ?_
 refine pf rfl rfl ?_
 refine pf rfl rfl ?_
 refine pf rfl rfl ?_
 refine pf rfl rfl ?_
 refine pf rfl rfl ?_
 refine sp rfl (Qi rfl (dk rfl) rfl rfl rfl ?_)
 refine mw rfl ?_
 refine pf rfl rfl ?_
 refine pf rfl rfl ?_
 refine pf rfl rfl ?_
 refine pf rfl rfl ?_
 refine pf rfl rfl ?_
 refine sp rfl (Qi rfl (dk rfl) rfl rfl rfl ?_)
 refine TL'.nil (tN ?_)
 refine Qk rfl rfl ?_
 refine Qc ?_ (Gy K h)
 exact tq rfl rfl
 refine sn rfl g (Qg rfl (dk rfl) Vm rfl i56 (by decide) rfl ?_)
 refine sn rfl g (Qm (i := 0) rfl (dk rfl) Yd rfl rfl rfl rfl ?_)
 obtain ⟨w, u, h⟩ := bind_some h
 refine sn rfl g (Q5 rfl (dk rfl) Try.func61 rfl rfl (Q3.cons rfl (Q3.cons rfl Q3.nil)) (Zt.nil (r1_rises_T K (flx0 := false) u)) ?_)
 refine sn rfl g (OpT.not rfl (dk rfl) rfl ?_)
 refine sp rfl (Qs rfl (dk rfl) rfl g rfl ?_)
 refine mw rfl ?_
 rcases Qd h with ⟨a, h⟩ | ⟨a, h⟩
 refine pf rfl a ?_
 refine pf rfl a ?_
 refine pf rfl a ?_
 refine pf rfl a ?_
 refine pf rfl a ?_
 refine pf rfl a ?_
 refine pf rfl a ?_
 refine sp rfl (Qi rfl (dk rfl) rfl a rfl ?_)
 refine mw rfl ?_
 refine pf rfl rfl ?_
 refine pf rfl rfl ?_
 refine pf rfl rfl ?_
 refine pf rfl rfl ?_
 refine pf rfl rfl ?_
 refine sp rfl (Qi rfl (dk rfl) rfl rfl rfl ?_)
 refine mw rfl ?_
 refine pf rfl rfl ?_
 refine pf rfl rfl ?_
 refine pf rfl rfl ?_
 refine pf rfl rfl ?_
 refine pf rfl rfl ?_
 refine sp rfl (Qi rfl (dk rfl) rfl rfl rfl ?_)
 refine TL'.nil (tN ?_)
 refine Qk rfl rfl ?_
 refine Qc ?_ (Gy K h)
 exact tq rfl rfl
 refine sn rfl a (Qg rfl (dk rfl) Vm rfl i56 (by decide) rfl ?_)
 refine sn rfl a (Qm (i := 0) rfl (dk rfl) Yd rfl rfl rfl rfl ?_)
 refine sn rfl a (Qg rfl (dk rfl) Xe rfl i25 (by decide) rfl ?_)
 refine sn rfl a (Qm (i := 1) rfl (dk rfl) Mq rfl rfl rfl rfl ?_)
 refine sn rfl a (Qn (xs := x0.Counts) (f := (Zb.dc .i64)) rfl (dk rfl) Mq rfl ?_)
 obtain ⟨y, v, h⟩ := bind_some h
 refine sn rfl a (Q5 rfl (dk rfl) Try.func61 rfl rfl (Q3.cons rfl (Q3.cons rfl Q3.nil)) (Zt.nil (r1_rises_T K (flx0 := false) v)) ?_)
 refine sn rfl a (OpT.not rfl (dk rfl) rfl ?_)
 refine sp rfl (Qs rfl (dk rfl) rfl a rfl ?_)
 refine mw rfl ?_
 rcases Qd h with ⟨b, h⟩ | ⟨b, h⟩
 refine pf rfl b ?_
 refine pf rfl b ?_
 refine pf rfl b ?_
 refine pf rfl b ?_
 refine pf rfl b ?_
 refine sp rfl (Qi rfl (dk rfl) rfl b rfl ?_)
 refine mw rfl ?_
 refine pf rfl rfl ?_
 refine pf rfl rfl ?_
 refine pf rfl rfl ?_
 refine pf rfl rfl ?_
 refine pf rfl rfl ?_
 refine sp rfl (Qi rfl (dk rfl) rfl rfl rfl ?_)
 refine TL'.nil (tN ?_)
 refine Qk rfl rfl ?_
 refine Qc ?_ (Gy K h)
 exact tq rfl rfl
 refine sn rfl b (Qg rfl (dk rfl) Vm rfl i56 (by decide) rfl ?_)
 refine sn rfl b (Qm (i := 0) rfl (dk rfl) Yd rfl rfl rfl rfl ?_)
 refine sn rfl b (Qn (xs := x1.Rule) (f := (cI .i64)) rfl (dk rfl) Yd rfl ?_)
 refine sn rfl b (OpT.move rfl (dk rfl) rfl ?_)
 refine sn rfl b (Qa rfl rfl (dk rfl) rfl rfl ?_)
 refine sp rfl (Qs rfl (dk rfl) rfl b rfl ?_)
 refine mw rfl ?_
 rcases Qd h with ⟨d, h⟩ | ⟨d, h⟩
 refine pf rfl d ?_
 refine pf rfl d ?_
 refine pf rfl d ?_
 refine pf rfl d ?_
 refine pf rfl d ?_
 refine sp rfl (Qi rfl (dk rfl) rfl d rfl ?_)
 refine TL'.nil (tN ?_)
 refine Qk rfl rfl ?_
 refine Qc ?_ (Gy K h)
 exact tq rfl rfl
 refine sn rfl d (Qg rfl (dk rfl) Vm rfl i57 (by decide) rfl ?_)
 refine sn rfl d (Qm (i := 0) rfl (dk rfl) B0 rfl rfl rfl rfl ?_)
 refine sn rfl d (Qn (xs := x1.Next) (f := (cL 2 Qu)) rfl (dk rfl) B0 rfl ?_)
 refine sn rfl d (OpT.move rfl (dk rfl) rfl ?_)
 refine sn rfl d (Qa rfl rfl (dk rfl) rfl rfl ?_)
 refine sp rfl (Qs rfl (dk rfl) rfl d rfl ?_)
 refine TL'.nil (tN ?_)
 rcases Qd h with ⟨j, h⟩ | ⟨j, h⟩
 refine Qk rfl j ?_
 refine Qc ?_ (Gy K h)
 exact tq rfl rfl
 refine Qo rfl j ?_
 refine T.skip (tN ?_)
 refine T.seq ?_
 refine T.seq (Qq ?_)
 refine aw rfl ?_
 refine TL'.nil (tN ?_)
 refine T.block ?_
 refine T.loop ?_
 refine Qb ?_ (r1_state_l1_T K K p (0:Int) x0 x1 l m h)
 exact tr rfl (.c (.s .z) (.c .z (.n _)))
abbrev L7 (r : Bool) : ES := Jk tp Try.f19 (fun y t => y = (.bool r) ∧ t = [])
abbrev r1_Right_qs11 (r : Bool) : ES := thenS (fun s' => T tp 93 (ca [1,1] Try.f19) s' ((L7 r))) ((L7 r))
abbrev r1_Right_qs111 (r : Bool) : ES := thenS (fun s' => T tp 93 (ca [1,1,1] Try.f19) s' ((L7 r))) ((L7 r))
abbrev Mf (r : Bool) : ES := Qz 0 ((r1_Right_qs111 r))
abbrev Fo (r : Bool) : ES := thenS (fun s' => TL tp 93 (ca [1,1,0,1,0,0] Try.f19) s' ((Mf r))) ((Mf r))
abbrev P7 (r : Bool) : ES := thenS (fun s' => T tp 93 (ca [1,1,0,1,0,0,1,1] Try.f19) s' ((Fo r))) ((Fo r))
abbrev E0 (r : Bool) : ES := Qz 1 ((P7 r))
abbrev Qa3 (r : Bool) : ES := thenS (fun s' => T tp 93 (ca [1,1,1,1] Try.f19) s' ((L7 r))) ((L7 r))
abbrev Ta (r : Bool) : ES := Qz 2 ((Qa3 r))
theorem W8 {r : Bool} (K : Nat) (h : Xr K = some r) : T tp 93 (ca [1,0,1,0] Try.f19) ⟨[], []⟩ (r1_Right_qs11 r) := by
 unfold Xr at h
 refine T.seq (Qq ?_)
 refine aw rfl ?_
 refine TL'.nil (tN ?_)
 refine T.ret (Ql ?_)
 exact Fin.done (.cons _ _ _ _ (.tmp 2 _ rfl) .nil) (by cases h; exact ⟨rfl, rfl⟩)
theorem Mw {r : Bool} (K : Nat) (h : H2 K = some r) : T tp 93 (ca [1,1,0,1,0,0,1,0,0,1,1,0] Try.f19) ⟨[], []⟩ (E0 r) := by
 unfold H2 at h
 refine T.seq (Qq ?_)
 refine aw rfl ?_
 refine TL'.nil (tN ?_)
 refine T.ret (Qy (Ql (Ql (Qy (Ql ?_)))))
 exact Fin.done (.cons _ _ _ _ (.tmp 2 _ rfl) .nil) (by cases h; exact ⟨rfl, rfl⟩)
theorem r1_Right_l3_T {r : Bool} (K : Nat) : ∀ (k : Nat), ∀ (g : Int) (x0 : aAu) (b : Nat), H1 K k g x0 = some r → TL tp 93 (ca [1,1,1,0,1,0,0] Try.f19) ⟨[(1, .ptr b 0), (5, .int .i64 g)], [(Xo b x0.Split.Of x0.Split.Many x0.Counts x0.States)]⟩ (Ta r) := by
 intro k
 induction k with
 | zero =>
  intro g x0 b h
  cases (show (none : Option Bool) = some r from h)
 | succ k ih =>
  intro g x0 b h
  rw [H1] at h
  refine Q4 ?_
  refine T.seq ?_
  refine T.seq (Qq ?_)
  refine mw rfl ?_
  refine sp rfl (Qg rfl (dk rfl) Xe rfl i26 (by decide) rfl ?_)
  refine sp rfl (Qm (i := 0) rfl (dk rfl) X5 rfl rfl rfl rfl ?_)
  refine sp rfl (Qn (xs := x0.States) (f := Q0) rfl (dk rfl) X5 rfl ?_)
  refine sp rfl (Qa rfl rfl (dk rfl) rfl rfl ?_)
  refine TL'.nil (tN ?_)
  rcases Qd h with ⟨m, h⟩ | ⟨m, h⟩
  refine Qk rfl m ?_
  refine T.skip (tN ?_)
  refine T.seq ?_
  refine T.block ?_
  refine T.seq ?_
  refine X3 ?_
  refine dS (c := ⟨some 85, .agg ((Qx.dc 256 .u8 x0.Split.Of) ++ (([.int .i64 x0.Split.Many, .sl false 2 (mA x0.Counts), .sl false 4 (x0.States.map Q0)] : List DC))), [(1, .ptr b 0)], [(0, (Xo b x0.Split.Of x0.Split.Many x0.Counts x0.States))], []⟩) (fun t hm => oF rfl rfl (Ze (i := 0) (l := ((Qx.dc 256 .u8 x0.Split.Of) ++ (([.int .i64 x0.Split.Many, .sl false 2 (mA x0.Counts), .sl false 4 (x0.States.map Q0)] : List DC)))) rfl (dk rfl) Xe rfl i28 hm.s0 hm.o0 rfl rfl rfl)) rfl rfl ?_
  refine dS (c := ⟨some 86, .ptr b (0 + 258), [(1, .ptr b 0)], [], []⟩) (fun t hm => oF rfl rfl (Qg rfl (dk rfl) Xe rfl i26 (by decide) hm.s0 rfl)) rfl rfl ?_
  refine dS (c := ⟨some 87, .sl false 4 (x0.States.map Q0), [(86, .ptr b (0 + 258))], [(0, (Xo b x0.Split.Of x0.Split.Many x0.Counts x0.States))], []⟩) (fun t hm => oF rfl rfl (Qm (i := 0) rfl (dk rfl) X5 rfl hm.s0 hm.o0 rfl rfl)) rfl rfl ?_
  refine Yr rfl rfl rfl rfl rfl rfl ?_
  obtain ⟨a, q, h⟩ := bind_some h
  refine dS (c := ⟨some 89, .ref [.sl false 1 (mI a.L), .sl false 1 (mI a.R), .sl false 1 (mI a.Rule), .sl false 1 (a.Next.map (cL 2 Qu))], [(87, .sl false 4 (x0.States.map Q0)), (88, .int .i64 g)], [], []⟩) (fun t hm => oF rfl rfl (Qh (xs := x0.States) (f := Q0) (v := a) rfl (dk rfl) X5 i59 hm.s0 hm.s1 q rfl)) rfl rfl ?_
  refine dS (c := ⟨some 90, .agg [.sl false 1 (mI a.L), .sl false 1 (mI a.R), .sl false 1 (mI a.Rule), .sl false 1 (a.Next.map (cL 2 Qu))], [(89, .ref [.sl false 1 (mI a.L), .sl false 1 (mI a.R), .sl false 1 (mI a.Rule), .sl false 1 (a.Next.map (cL 2 Qu))])], [], []⟩) (fun t hm => oF rfl rfl (Zj rfl (dk rfl) Vm rfl i59 hm.s0 (nb rfl) rfl)) rfl rfl ?_
  obtain ⟨j, s, h⟩ := bind_some h
  refine dS (c := ⟨some 91, .bool j, [(85, .agg ((Qx.dc 256 .u8 x0.Split.Of) ++ (([.int .i64 x0.Split.Many, .sl false 2 (mA x0.Counts), .sl false 4 (x0.States.map Q0)] : List DC)))), (90, .agg [.sl false 1 (mI a.L), .sl false 1 (mI a.R), .sl false 1 (mI a.Rule), .sl false 1 (a.Next.map (cL 2 Qu))])], [], []⟩) (fun t hm => oF rfl rfl (Q5 rfl (dk rfl) Try.func42 rfl rfl (Q3.cons hm.s0 (Q3.cons hm.s1 Q3.nil)) (Zt.nil (r1_state_T K s)) rfl)) rfl rfl ?_
  refine dS (c := ⟨some 92, .bool (!j), [(91, .bool j)], [], []⟩) (fun t hm => oF rfl rfl (OpT.not rfl (dk rfl) hm.s0 rfl)) rfl rfl ?_
  refine Y4 (s1 := ⟨[(1, .ptr b 0), (5, .int .i64 g), (92, .bool (!j))], [(Xo b x0.Split.Of x0.Split.Many x0.Counts x0.States)]⟩) (ms := [0, 0, 2, 0, 14, 30, 63, 127]) Q7 rfl (by kernel_rfl) (by kernel_rfl) (by kernel_rfl) (sf rfl) rfl (fun u hu => (tN (Qc hu ?_)))
  rcases Qd h with ⟨p, h⟩ | ⟨p, h⟩
  refine Qk rfl p ?_
  refine T.seq (Qq ?_)
  refine aw rfl ?_
  refine TL'.nil (tN ?_)
  refine T.ret (Qy (Ql (Ql (Qy (Ql ?_)))))
  exact Fin.done (.cons _ _ _ _ (.tmp 2 _ rfl) .nil) (by cases h; exact ⟨rfl, rfl⟩)
  refine Qo rfl p ?_
  refine T.skip (Qe (tN ?_))
  refine Qq ?_
  refine mw rfl ?_
  refine sp rfl (Qa rfl rfl (dk rfl) rfl rfl ?_)
  refine aw rfl ?_
  refine TL'.nil (tN ?_)
  refine Qb ?_ (ih (wI (g + (1:Int))) x0 b h)
  exact tq rfl rfl
  refine Qo rfl m ?_
  refine T.exit (Qf (Qf (Qp (tN ?_))))
  refine T.seq (Qq ?_)
  refine aw rfl ?_
  refine TL'.nil (tN ?_)
  refine T.ret ?_
  exact Fin.done (.cons _ _ _ _ (.tmp 2 _ rfl) .nil) (by cases h; exact ⟨rfl, rfl⟩)
theorem r1_Right_l1_T {r : Bool} (K : Nat) : ∀ (k : Nat), ∀ (p : Int) (x0 : aAu) (m : Nat), Wt K k p x0 = some r → TL tp 93 (ca [1,1,0,1,0,0] Try.f19) ⟨[(1, .ptr m 0), (3, .int .i64 p)], [(Xo m x0.Split.Of x0.Split.Many x0.Counts x0.States)]⟩ (Mf r) := by
 intro k
 induction k with
 | zero =>
  intro p x0 m h
  cases (show (none : Option Bool) = some r from h)
 | succ k ih =>
  intro p x0 m h
  rw [Wt] at h
  refine Q4 ?_
  refine T.seq ?_
  refine T.seq (Qq ?_)
  refine mw rfl ?_
  refine sp rfl (Qg rfl (dk rfl) Xe rfl i25 (by decide) rfl ?_)
  refine sp rfl (Qm (i := 0) rfl (dk rfl) Mq rfl rfl rfl rfl ?_)
  refine sp rfl (Qn (xs := x0.Counts) (f := (Zb.dc .i64)) rfl (dk rfl) Mq rfl ?_)
  refine sp rfl (Qa rfl rfl (dk rfl) rfl rfl ?_)
  refine TL'.nil (tN ?_)
  rcases Qd h with ⟨q, h⟩ | ⟨q, h⟩
  refine Qk rfl q ?_
  refine T.skip (tN ?_)
  refine T.seq ?_
  refine T.block ?_
  refine T.seq (Qq ?_)
  refine sp rfl (Qg rfl (dk rfl) Xe rfl i25 (by decide) rfl ?_)
  refine sp rfl (Qm (i := 0) rfl (dk rfl) Mq rfl rfl rfl rfl ?_)
  refine mw rfl ?_
  obtain ⟨l, w, h⟩ := bind_some h
  refine sp rfl (Qh (xs := x0.Counts) (f := (Zb.dc .i64)) (v := l) rfl (dk rfl) Mq i42 rfl rfl w ?_)
  refine sp rfl (Zj rfl (dk rfl) ul42 rfl i42 rfl (nb rfl) ?_)
  refine sp rfl (Zi rfl (dk rfl) i42 rfl (fun y => ?_))
  refine sp rfl (Q1 (i := 0) (cells' := (Zb.oc .i64 l)) rfl rfl i42 rfl rfl rfl rfl (nb rfl) rfl ?_)
  refine TL'.nil (tN (T.seq (Qq ?_)))
  refine sp rfl (Zx rfl (dk rfl) ul42 i3 rfl rfl (by decide) (by decide) ?_)
  refine sp rfl (Qm (i := 0) rfl (dk rfl) ul3 rfl rfl rfl (U0 (k := .i64) (a := l) (pre := []) (post := []) (by decide) (by decide)) ?_)
  refine sp rfl (Qa rfl rfl (dk rfl) rfl rfl ?_)
  refine mw rfl ?_
  rcases Qd h with ⟨b, h⟩ | ⟨b, h⟩
  refine pf rfl b ?_
  refine pf rfl b ?_
  refine pf rfl b ?_
  refine pf rfl b ?_
  refine pf rfl b ?_
  refine sp rfl (Qi rfl (dk rfl) rfl b rfl ?_)
  refine mw rfl ?_
  refine pf rfl rfl ?_
  refine pf rfl rfl ?_
  refine pf rfl rfl ?_
  refine sp rfl (Qi rfl (dk rfl) rfl rfl rfl ?_)
  refine mw rfl ?_
  refine pf rfl rfl ?_
  refine pf rfl rfl ?_
  refine pf rfl rfl ?_
  refine sp rfl (Qi rfl (dk rfl) rfl rfl rfl ?_)
  refine TL'.nil (tN ?_)
  refine Qk rfl rfl ?_
  refine Qc ?_ (Mw K h)
  exact tq rfl rfl
  refine sn rfl b (Zx rfl (dk rfl) ul42 i3 rfl rfl (by decide) (by decide) ?_)
  refine sn rfl b (Qm (i := 0) rfl (dk rfl) ul3 rfl rfl rfl (U0 (k := .i64) (a := l) (pre := []) (post := []) (by decide) (by decide)) ?_)
  refine sn rfl b (Zx rfl (dk rfl) ul42 i3 rfl rfl (by decide) (by decide) ?_)
  refine sn rfl b (Qm (i := 0) rfl (dk rfl) ul3 rfl rfl rfl (U0 (k := .i64) (a := l) (pre := []) (post := []) (by decide) (by decide)) ?_)
  refine sn rfl b (Qa rfl rfl (dk rfl) rfl rfl ?_)
  refine sp rfl (Qs rfl (dk rfl) rfl b rfl ?_)
  refine mw rfl ?_
  rcases Qd h with ⟨g, h⟩ | ⟨g, h⟩
  refine pf rfl g ?_
  refine pf rfl g ?_
  refine pf rfl g ?_
  refine sp rfl (Qi rfl (dk rfl) rfl g rfl ?_)
  refine mw rfl ?_
  refine pf rfl rfl ?_
  refine pf rfl rfl ?_
  refine pf rfl rfl ?_
  refine sp rfl (Qi rfl (dk rfl) rfl rfl rfl ?_)
  refine TL'.nil (tN ?_)
  refine Qk rfl rfl ?_
  refine Qc ?_ (Mw K h)
  exact tq rfl rfl
  refine sn rfl g (Zx rfl (dk rfl) ul42 i3 rfl rfl (by decide) (by decide) ?_)
  refine sn rfl g (Qm (i := 0) rfl (dk rfl) ul3 rfl rfl rfl (U0 (k := .i64) (a := l) (pre := []) (post := []) (by decide) (by decide)) ?_)
  refine sn rfl g (Qa rfl rfl (dk rfl) rfl rfl ?_)
  refine sp rfl (Qs rfl (dk rfl) rfl g rfl ?_)
  refine mw rfl ?_
  rcases Qd h with ⟨j, h⟩ | ⟨j, h⟩
  refine pf rfl j ?_
  refine pf rfl j ?_
  refine pf rfl j ?_
  refine sp rfl (Qi rfl (dk rfl) rfl j rfl ?_)
  refine TL'.nil (tN ?_)
  refine Qk rfl rfl ?_
  refine Qc ?_ (Mw K h)
  exact tq rfl rfl
  refine sn rfl j (Zx rfl (dk rfl) ul42 i3 rfl rfl (by decide) (by decide) ?_)
  refine sn rfl j (Qm (i := 0) rfl (dk rfl) ul3 rfl rfl rfl (U0 (k := .i64) (a := l) (pre := []) (post := []) (by decide) (by decide)) ?_)
  refine sn rfl j (Qa rfl rfl (dk rfl) rfl rfl ?_)
  refine sp rfl (Qs rfl (dk rfl) rfl j rfl ?_)
  refine TL'.nil (tN ?_)
  rcases Qd h with ⟨u, h⟩ | ⟨u, h⟩
  refine Qk rfl u ?_
  refine Qc ?_ (Mw K h)
  exact tq rfl rfl
  refine Qo rfl u ?_
  refine T.skip (Qe (tN ?_))
  refine Qq ?_
  refine mw rfl ?_
  refine sp rfl (Qa rfl rfl (dk rfl) rfl rfl ?_)
  refine aw rfl ?_
  refine TL'.nil (tN ?_)
  refine Qb ?_ (ih (wI (p + (1:Int))) x0 m h)
  exact tr rfl (.c (.s .z) (.n _))
  refine Qo rfl q ?_
  refine T.exit (Qf (Qf (Qp (tN ?_))))
  refine T.seq ?_
  refine T.seq (Qq ?_)
  refine aw rfl ?_
  refine TL'.nil (tN ?_)
  refine T.block ?_
  refine T.loop ?_
  refine Qb ?_ (r1_Right_l3_T K K (0:Int) x0 m h)
  exact tq rfl rfl
theorem r1_Right_T (K : Nat) {x0 : aAu} {r : Bool} (h : Nz K x0 = some r) : Zt tp 19 [.agg ((Qx.dc 256 .u8 x0.Split.Of) ++ (([.int .i64 x0.Split.Many, .sl false 2 (mA x0.Counts), .sl false 4 (x0.States.map Q0)] : List DC)))] [] (.bool r) := by
 refine Qt Try.func19 rfl (nb rfl) ?_
 show T tp 93 (ca [] Try.f19) ⟨Qv 0 [.agg ((Qx.dc 256 .u8 x0.Split.Of) ++ (([.int .i64 x0.Split.Many, .sl false 2 (mA x0.Counts), .sl false 4 (x0.States.map Q0)] : List DC)))], []⟩ (L7 r)
 unfold Nz at h
 refine T.seq (Qq ?_)
 refine sp rfl (Zg rfl (dk rfl) rfl (fun s => ?_))
 refine aw rfl ?_
 refine TL'.nil (tN ?_)
 refine T.seq ?_
 refine T.seq (Qq ?_)
 refine sp rfl (Qg rfl (dk rfl) Xe rfl i24 (by decide) rfl ?_)
 refine sp rfl (Ze (i := 0) (l := ((Qx.dc 256 .u8 x0.Split.Of) ++ (([.int .i64 x0.Split.Many] : List DC)))) rfl (dk rfl) Ig rfl i24 rfl rfl rfl rfl ?_)
 obtain ⟨w, u, h⟩ := bind_some h
 refine sp rfl (Q5 rfl (dk rfl) Try.func41 rfl rfl (Q3.cons rfl Q3.nil) (Zt.nil (Po K u)) ?_)
 refine sp rfl (OpT.not rfl (dk rfl) rfl ?_)
 refine mw rfl ?_
 rcases Qd h with ⟨d, h⟩ | ⟨d, h⟩
 refine pf rfl d ?_
 refine pf rfl d ?_
 refine pf rfl d ?_
 refine pf rfl d ?_
 refine sp rfl (Qi rfl (dk rfl) rfl d rfl ?_)
 refine mw rfl ?_
 refine pf rfl rfl ?_
 refine pf rfl rfl ?_
 refine pf rfl rfl ?_
 refine pf rfl rfl ?_
 refine sp rfl (Qi rfl (dk rfl) rfl rfl rfl ?_)
 refine mw rfl ?_
 refine pf rfl rfl ?_
 refine pf rfl rfl ?_
 refine pf rfl rfl ?_
 refine pf rfl rfl ?_
 refine sp rfl (Qi rfl (dk rfl) rfl rfl rfl ?_)
 refine mw rfl ?_
 refine pf rfl rfl ?_
 refine pf rfl rfl ?_
 refine pf rfl rfl ?_
 refine pf rfl rfl ?_
 refine pf rfl rfl ?_
 refine pf rfl rfl ?_
 refine pf rfl rfl ?_
 refine sp rfl (Qi rfl (dk rfl) rfl rfl rfl ?_)
 refine mw rfl ?_
 refine pf rfl rfl ?_
 refine pf rfl rfl ?_
 refine pf rfl rfl ?_
 refine pf rfl rfl ?_
 refine pf rfl rfl ?_
 refine pf rfl rfl ?_
 refine pf rfl rfl ?_
 refine sp rfl (Qi rfl (dk rfl) rfl rfl rfl ?_)
 refine TL'.nil (tN ?_)
 refine Qk rfl rfl ?_
 refine Qc ?_ (W8 K h)
 exact tq rfl rfl
 refine sn rfl d (Qg rfl (dk rfl) Xe rfl i25 (by decide) rfl ?_)
 refine sn rfl d (Qm (i := 0) rfl (dk rfl) Mq rfl rfl rfl rfl ?_)
 refine sn rfl d (Qn (xs := x0.Counts) (f := (Zb.dc .i64)) rfl (dk rfl) Mq rfl ?_)
 refine sn rfl d (Qa rfl rfl (dk rfl) rfl rfl ?_)
 refine sp rfl (Qs rfl (dk rfl) rfl d rfl ?_)
 refine mw rfl ?_
 rcases Qd h with ⟨g, h⟩ | ⟨g, h⟩
 refine pf rfl g ?_
 refine pf rfl g ?_
 refine pf rfl g ?_
 refine pf rfl g ?_
 refine sp rfl (Qi rfl (dk rfl) rfl g rfl ?_)
 refine mw rfl ?_
 refine pf rfl rfl ?_
 refine pf rfl rfl ?_
 refine pf rfl rfl ?_
 refine pf rfl rfl ?_
 refine sp rfl (Qi rfl (dk rfl) rfl rfl rfl ?_)
 refine mw rfl ?_
 refine pf rfl rfl ?_
 refine pf rfl rfl ?_
 refine pf rfl rfl ?_
 refine pf rfl rfl ?_
 refine pf rfl rfl ?_
 refine pf rfl rfl ?_
 refine pf rfl rfl ?_
 refine sp rfl (Qi rfl (dk rfl) rfl rfl rfl ?_)
 refine mw rfl ?_
 refine pf rfl rfl ?_
 refine pf rfl rfl ?_
 refine pf rfl rfl ?_
 refine pf rfl rfl ?_
 refine pf rfl rfl ?_
 refine pf rfl rfl ?_
 refine pf rfl rfl ?_
 refine sp rfl (Qi rfl (dk rfl) rfl rfl rfl ?_)
 refine TL'.nil (tN ?_)
 refine Qk rfl rfl ?_
 refine Qc ?_ (W8 K h)
 exact tq rfl rfl
 refine sn rfl g (Qg rfl (dk rfl) Xe rfl i26 (by decide) rfl ?_)
 refine sn rfl g (Qm (i := 0) rfl (dk rfl) X5 rfl rfl rfl rfl ?_)
 refine sn rfl g (Qn (xs := x0.States) (f := Q0) rfl (dk rfl) X5 rfl ?_)
 refine sn rfl g (Qa rfl rfl (dk rfl) rfl rfl ?_)
 refine sp rfl (Qs rfl (dk rfl) rfl g rfl ?_)
 refine mw rfl ?_
 rcases Qd h with ⟨j, h⟩ | ⟨j, h⟩
 refine pf rfl j ?_
 refine pf rfl j ?_
 refine pf rfl j ?_
 refine pf rfl j ?_
 refine sp rfl (Qi rfl (dk rfl) rfl j rfl ?_)
 refine mw rfl ?_
 refine pf rfl rfl ?_
 refine pf rfl rfl ?_
 refine pf rfl rfl ?_
 refine pf rfl rfl ?_
 refine pf rfl rfl ?_
 refine pf rfl rfl ?_
 refine pf rfl rfl ?_
 refine sp rfl (Qi rfl (dk rfl) rfl rfl rfl ?_)
 refine mw rfl ?_
 refine pf rfl rfl ?_
 refine pf rfl rfl ?_
 refine pf rfl rfl ?_
 refine pf rfl rfl ?_
 refine pf rfl rfl ?_
 refine pf rfl rfl ?_
 refine pf rfl rfl ?_
 refine sp rfl (Qi rfl (dk rfl) rfl rfl rfl ?_)
 refine TL'.nil (tN ?_)
 refine Qk rfl rfl ?_
 refine Qc ?_ (W8 K h)
 exact tq rfl rfl
 refine sn rfl j (Qg rfl (dk rfl) Xe rfl i26 (by decide) rfl ?_)
 refine sn rfl j (Qm (i := 0) rfl (dk rfl) X5 rfl rfl rfl rfl ?_)
 refine sn rfl j (Qn (xs := x0.States) (f := Q0) rfl (dk rfl) X5 rfl ?_)
 refine sn rfl j (Qa rfl rfl (dk rfl) rfl rfl ?_)
 refine sp rfl (Qs rfl (dk rfl) rfl j rfl ?_)
 refine mw rfl ?_
 rcases Qd h with ⟨a, h⟩ | ⟨a, h⟩
 refine pf rfl a ?_
 refine pf rfl a ?_
 refine pf rfl a ?_
 refine pf rfl a ?_
 refine pf rfl a ?_
 refine pf rfl a ?_
 refine pf rfl a ?_
 refine sp rfl (Qi rfl (dk rfl) rfl a rfl ?_)
 refine mw rfl ?_
 refine pf rfl rfl ?_
 refine pf rfl rfl ?_
 refine pf rfl rfl ?_
 refine pf rfl rfl ?_
 refine pf rfl rfl ?_
 refine pf rfl rfl ?_
 refine pf rfl rfl ?_
 refine sp rfl (Qi rfl (dk rfl) rfl rfl rfl ?_)
 refine TL'.nil (tN ?_)
 refine Qk rfl rfl ?_
 refine Qc ?_ (W8 K h)
 exact tq rfl rfl
 refine sn rfl a (Qg rfl (dk rfl) Xe rfl i26 (by decide) rfl ?_)
 refine sn rfl a (Qm (i := 0) rfl (dk rfl) X5 rfl rfl rfl rfl ?_)
 obtain ⟨m, q, h⟩ := bind_some h
 refine sn rfl a (Qh (xs := x0.States) (f := Q0) (v := m) rfl (dk rfl) X5 i59 rfl rfl q ?_)
 refine sn rfl a (Z4 rfl (dk rfl) Vm rfl i56 (by decide) rfl ?_)
 refine sn rfl a (Qr rfl (dk rfl) Yd rfl rfl rfl ?_)
 refine sn rfl a (Qn (xs := m.L) (f := (cI .i64)) rfl (dk rfl) Yd rfl ?_)
 refine sn rfl a (Qa rfl rfl (dk rfl) rfl rfl ?_)
 refine sp rfl (Qs rfl (dk rfl) rfl a rfl ?_)
 refine mw rfl ?_
 rcases Qd h with ⟨b, h⟩ | ⟨b, h⟩
 refine pf rfl b ?_
 refine pf rfl b ?_
 refine pf rfl b ?_
 refine pf rfl b ?_
 refine pf rfl b ?_
 refine pf rfl b ?_
 refine pf rfl b ?_
 refine sp rfl (Qi rfl (dk rfl) rfl b rfl ?_)
 refine TL'.nil (tN ?_)
 refine Qk rfl rfl ?_
 refine Qc ?_ (W8 K h)
 exact tq rfl rfl
 refine sn rfl b (Qg rfl (dk rfl) Xe rfl i26 (by decide) rfl ?_)
 refine sn rfl b (Qm (i := 0) rfl (dk rfl) X5 rfl rfl rfl rfl ?_)
 refine sn rfl b (Qh (xs := x0.States) (f := Q0) (v := m) rfl (dk rfl) X5 i59 rfl rfl q ?_)
 refine sn rfl b (Z4 rfl (dk rfl) Vm rfl i56 (by decide) rfl ?_)
 refine sn rfl b (Qr rfl (dk rfl) Yd rfl rfl rfl ?_)
 refine sn rfl b (Qn (xs := m.R) (f := (cI .i64)) rfl (dk rfl) Yd rfl ?_)
 refine sn rfl b (Qa rfl rfl (dk rfl) rfl rfl ?_)
 refine sp rfl (Qs rfl (dk rfl) rfl b rfl ?_)
 refine TL'.nil (tN ?_)
 rcases Qd h with ⟨p, h⟩ | ⟨p, h⟩
 refine Qk rfl p ?_
 refine Qc ?_ (W8 K h)
 exact tq rfl rfl
 refine Qo rfl p ?_
 refine T.skip (tN ?_)
 refine T.seq ?_
 refine T.seq (Qq ?_)
 refine aw rfl ?_
 refine TL'.nil (tN ?_)
 refine T.block ?_
 refine T.loop ?_
 refine Qb ?_ (r1_Right_l1_T K K (0:Int) x0 s h)
 exact tq rfl rfl
end Go.Rv

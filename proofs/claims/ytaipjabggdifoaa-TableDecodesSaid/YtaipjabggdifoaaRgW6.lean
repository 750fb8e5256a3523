/- Each function computes what its plain text says: printed by a program of ours. -/
import Derived.Test.YtaipjabggdifoaaRgW5
namespace Go.Rv
open Go.Proofs
set_option maxRecDepth 100000
set_option maxHeartbeats 4000000
set_option linter.unusedVariables false
abbrev Ow (bx0 bx2c0 bx2c1 : Nat) (r : tbr × (List Int)) : ES := Jk tp Try.f31 (fun y t => ∃ γ : Nat → Value, y = (.tup []) ∧ t = [(Q8 bx0 r.1.b r.1.bad), (Kv bx2c0 (γ 0)), .arrA (γ 0) 3 1 (mI r.2), (Zl bx2c1 bx0)])
abbrev Lm (bx0 bx2c0 bx2c1 : Nat) (r : tbr × (List Int)) : ES := Qz 0 ((Ow bx0 bx2c0 bx2c1 r))
abbrev Df (bx0 bx2c0 bx2c1 : Nat) (r : tbr × (List Int)) : ES := thenS (fun s' => TL tp 21 (ca [1,0,0] Try.f31) s' ((Lm bx0 bx2c0 bx2c1 r))) ((Lm bx0 bx2c0 bx2c1 r))
abbrev Pa (bx0 bx2c0 bx2c1 : Nat) (r : tbr × (List Int)) : ES := thenS (fun s' => T tp 21 (ca [1,0,0,1] Try.f31) s' ((Df bx0 bx2c0 bx2c1 r))) ((Df bx0 bx2c0 bx2c1 r))
theorem Dg {r : tbr × (List Int)} (K bx0 : Nat) (bx2c0 bx2c1 : Nat) (b : ByteArray) (c : Bool) (f : List Int) (a : Value) (h : Gp K b c f = some r) : T tp 21 (ca [1,0,0,0,1,1] Try.f31) ⟨[], [(Q8 bx0 b c), (Kv bx2c0 a), .arrA a 3 1 (mI f), (Zl bx2c1 bx0)]⟩ (Pa bx0 bx2c0 bx2c1 r) := by
 unfold Gp at h
 refine T.exit (Qf (Qf (Qp ?_)))
 exact Q6 (.nil) (.cons 0 rfl (.cons 0 rfl (.cons 0 rfl (.cons 0 rfl (.nil _))))) (by cases h; exact ⟨gl [a], rfl, rfl⟩)
theorem So {r : tbr × (List Int)} (K bx0 : Nat) (bx2c0 bx2c1 : Nat) : ∀ (k : Nat), ∀ (x1 p : Int) (j : ByteArray) (l : Bool) (m : List Int) (g : Value), Yx K k x1 p j l m = some r → TL tp 21 (ca [1,0,0] Try.f31) ⟨[(0, .ptr bx0 0), (1, .int .i64 x1), (2, .c (.ex (.func (.func 56) #[] #[.pointer (some ⟨bx2c0, 0, none⟩), .pointer (some ⟨bx2c1, 0, none⟩)]))), (6, .int .i64 p)], [(Q8 bx0 j l), (Kv bx2c0 g), .arrA g 3 1 (mI m), (Zl bx2c1 bx0)]⟩ (Lm bx0 bx2c0 bx2c1 r) := by
 intro k
 induction k with
 | zero =>
  intro x1 p j l m g h
  cases (show (none : Option (tbr × (List Int))) = some r from h)
 | succ k ih =>
  intro x1 p j l m g h
  rw [Yx] at h
  refine Q4 ?_
  refine T.seq ?_
  refine T.seq (Qq ?_)
  refine mw rfl ?_
  refine mw rfl ?_
  refine sp rfl (Qa rfl rfl (dk rfl) rfl rfl ?_)
  refine mw rfl ?_
  rcases Qd h with ⟨a, h⟩ | ⟨a, h⟩
  refine sn rfl a (OpT.move rfl (dk rfl) rfl ?_)
  refine sn rfl a (OpT.nilCheck rfl (dk rfl) rfl rfl ?_)
  refine sn rfl a (Qg rfl (dk rfl) ul75 rfl i4 (by decide) rfl ?_)
  refine sn rfl a (Qm (i := 0) rfl (dk rfl) ul4 rfl rfl rfl rfl ?_)
  refine sn rfl a (OpT.not rfl (dk rfl) rfl ?_)
  refine sp rfl (Qi rfl (dk rfl) rfl a rfl ?_)
  refine TL'.nil (tN ?_)
  rcases Qd h with ⟨q, h⟩ | ⟨q, h⟩
  refine Qk rfl q ?_
  refine T.skip (tN ?_)
  refine T.seq ?_
  refine T.block ?_
  refine Qq ?_
  refine mw rfl ?_
  obtain ⟨s, u, h⟩ := bind_some h
  refine sp rfl (Fa (f := 56) (vs := [.pointer (some ⟨bx2c0, 0, none⟩), .pointer (some ⟨bx2c1, 0, none⟩)]) rfl rfl (dk rfl) Try.func56 rfl rfl (Q2 (is := [1, 2, 3, 0]) (ph := []) rfl (dk rfl) Try.func56 rfl rfl (Q3.cons rfl (Q3.cons rfl Q3.nil)) (tbr_list_1_T K (bx0 := bx2c0) (wx0 := g) (bx1 := bx2c1) (bx1_p := bx0) u) (.cons rfl rfl (.cons rfl rfl (.cons rfl rfl (.cons rfl rfl (.nil))))) (fun _ => rfl) (fun v => ?_)))
  refine nm (.c (.c (.c (.c (.n))))) ?_
  refine TL'.nil (Qe (tN ?_))
  refine Qq ?_
  refine mw rfl ?_
  refine sp rfl (Qa rfl rfl (dk rfl) rfl rfl ?_)
  refine aw rfl ?_
  refine TL'.nil (tN ?_)
  refine Qb ?_ (ih x1 (wI (p + (1:Int))) s.2.b s.2.bad s.1 (v 0) h)
  exact tq rfl rfl
  refine Qo rfl q ?_
  refine Qc ?_ (Dg K bx0 bx2c0 bx2c1 j l m g h)
  exact tq rfl rfl
  refine pf rfl a ?_
  refine pf rfl a ?_
  refine pf rfl a ?_
  refine pf rfl a ?_
  refine pf rfl a ?_
  refine sp rfl (Qs rfl (dk rfl) rfl a rfl ?_)
  refine TL'.nil (tN ?_)
  refine Qo rfl rfl ?_
  refine Qc ?_ (Dg K bx0 bx2c0 bx2c1 j l m g h)
  exact tq rfl rfl
theorem tbr_times_i2_T (K : Nat) {x0 : tbr} {x1 : Int} {x2c0 : List Int} {bx0 bx2c0 : Nat} {wx2c0 : Value} {bx2c1 : Nat} {r : tbr × (List Int)} (h : Cg K x0 x1 x2c0 = some r) : Uz tp 31 [.ptr bx0 0, .int .i64 x1, .c (.ex (.func (.func 56) #[] #[.pointer (some ⟨bx2c0, 0, none⟩), .pointer (some ⟨bx2c1, 0, none⟩)]))] [(Q8 bx0 x0.b x0.bad), (Kv bx2c0 wx2c0), .arrA wx2c0 3 1 (mI x2c0), (Zl bx2c1 bx0)] (fun γ => (.tup [])) (fun γ => [(Q8 bx0 r.1.b r.1.bad), (Kv bx2c0 (γ 0)), .arrA (γ 0) 3 1 (mI r.2), (Zl bx2c1 bx0)]) := by
 refine Qt Try.func31 rfl (nb rfl) ?_
 show T tp 21 (ca [] Try.f31) ⟨Qv 0 [.ptr bx0 0, .int .i64 x1, .c (.ex (.func (.func 56) #[] #[.pointer (some ⟨bx2c0, 0, none⟩), .pointer (some ⟨bx2c1, 0, none⟩)]))], [(Q8 bx0 x0.b x0.bad), (Kv bx2c0 wx2c0), .arrA wx2c0 3 1 (mI x2c0), (Zl bx2c1 bx0)]⟩ (Ow bx0 bx2c0 bx2c1 r)
 unfold Cg at h
 refine T.seq (Qq ?_)
 refine aw rfl ?_
 refine TL'.nil (tN ?_)
 refine T.block ?_
 refine T.loop ?_
 refine Qb ?_ (So K bx0 bx2c0 bx2c1 K x1 (0:Int) x0.b x0.bad x2c0 wx2c0 h)
 exact tq rfl rfl
abbrev tbr_list_q (bx0 : Nat) (r : (List Int) × tbr) : ES := Jk tp Try.f35 (fun y t => ∃ γ : Nat → Value, y = (.sl false 1 (mI r.1)) ∧ t = [(Q8 bx0 r.2.b r.2.bad)])
theorem tbr_list_T (K : Nat) {x0 : tbr} {bx0 : Nat} {r : (List Int) × tbr} (h : Nt K x0 = some r) : Uz tp 35 [.ptr bx0 0] [(Q8 bx0 x0.b x0.bad)] (fun γ => (.sl false 1 (mI r.1))) (fun γ => [(Q8 bx0 r.2.b r.2.bad)]) := by
 refine Qt Try.func35 rfl (nb rfl) ?_
 show T tp 10 (ca [] Try.f35) ⟨Qv 0 [.ptr bx0 0], [(Q8 bx0 x0.b x0.bad)]⟩ (tbr_list_q bx0 r)
 unfold Nt at h
 refine T.seq (Qq ?_)
 refine sp rfl (OpT.box rfl (dk rfl) rfl (fun f => ?_))
 refine aw rfl ?_
 refine TL'.nil (tN (T.seq (Qq ?_)))
 refine sp rfl (Zi rfl (dk rfl) i56 rfl (fun j => ?_))
 refine TL'.nil (tN ?_)
 refine T.seq ?_
 refine Qc (Yc 3 1) ?_
 refine Y3 ?_
 refine dC (c := ⟨some 4, .ptr bx0 0, [(1, .ptr f 0)], [(2, (Zl f bx0))], []⟩) (fun t hm => oF rfl rfl (Qm (i := 2) rfl (dk rfl) ul73 rfl hm.s0 hm.o0 rfl ⟨u0, rfl⟩)) (fun _ => rfl) (fun _ => rfl) ?_
 refine dC (c := ⟨some 5, .ptr bx0 0, [(1, .ptr f 0)], [(2, (Zl f bx0))], []⟩) (fun t hm => oF rfl rfl (Qm (i := 2) rfl (dk rfl) ul73 rfl hm.s0 hm.o0 rfl ⟨u0, rfl⟩)) (fun _ => rfl) (fun _ => rfl) ?_
 obtain ⟨l, n, h⟩ := bind_some h
 refine dC (c := ⟨some 6, .int .i64 l.1, [(5, .ptr bx0 0)], [(3, (Q8 bx0 x0.b x0.bad))], [(3, (Q8 bx0 l.2.b l.2.bad))]⟩) (fun t hm => oF rfl rfl (Q2 (is := [3]) (ph := []) rfl (dk rfl) Try.func32 rfl rfl (Q3.cons hm.s0 Q3.nil) (Kl K (bx0 := bx0) n) (.cons hm.o0 rfl (.nil)) (fun _ => rfl) (fun g => ⟨(g, 0), rfl⟩))) (fun _ => rfl) (fun _ => rfl) ?_
 refine dC (c := ⟨some 7, .c (.ex (.func (.func 56) #[] #[.pointer (some ⟨j, 0, none⟩), .pointer (some ⟨f, 0, none⟩)])), [(3, .ptr j 0), (1, .ptr f 0)], [], []⟩) (fun t hm => oF rfl rfl (OpT.makeFunc (vs := [.pointer (some ⟨j, 0, none⟩), .pointer (some ⟨f, 0, none⟩)]) rfl (dk rfl) (My hm.s0 (My hm.s1 evs_nil)) ⟨u0, rfl⟩)) (fun _ => rfl) (fun _ => rfl) ?_
 obtain ⟨m, p, h⟩ := bind_some h
 refine DGG.step (c := fun a => ⟨some 8, .tup [], [(4, .ptr bx0 0), (6, .int .i64 l.1), (7, .c (.ex (.func (.func 56) #[] #[.pointer (some ⟨j, 0, none⟩), .pointer (some ⟨f, 0, none⟩)])))], [(2, (Zl f bx0)), (0, .arrA (Mn 4) 3 1 (([] : List Int).map (cI .i64))), (1, (Kv j (Mn 4))), (3, (Q8 bx0 l.2.b l.2.bad))], [(3, (Q8 bx0 m.1.b m.1.bad)), (1, (Kv j ((a 4).1 0))), (0, .arrA ((a 4).1 0) 3 1 (mI m.2)), (2, (Zl f bx0))]⟩) [4] (fun a γ' h => by simp only [h 4 (by decide)]) (fun a t hm => oF rfl rfl (Q2 (is := [3, 1, 0, 2]) (ph := []) rfl (dk rfl) Try.func31 rfl rfl (Q3.cons hm.s0 (Q3.cons hm.s1 (Q3.cons hm.s2 Q3.nil))) (tbr_times_i2_T K (bx0 := bx0) (bx2c0 := j) (wx2c0 := (Mn 4)) (bx2c1 := f) p) (.cons (hm.objs (3, _) (.tail _ (.tail _ (.tail _ (.head _))))) rfl (.cons hm.o2 rfl (.cons hm.o1 rfl (.cons hm.o0 rfl (.nil))))) (fun _ => rfl) (fun g => ⟨(g, 0), rfl⟩))) (fun a => Zq rfl rfl) ?_
 refine Vi (s1 := fun a => ⟨[(3, .ptr j 0)], [.arrA ((a 4).1 0) 3 1 (mI m.2), (Kv j ((a 4).1 0)), (Zl f bx0), (Q8 bx0 m.1.b m.1.bad)]⟩) (ms := [0, 0, 2, 0, 15]) Q7 rfl (by kernel_rfl) (by kernel_rfl) (by kernel_rfl) (fun a => by kernel_rfl) (fun a => sf rfl) (fun _ => rfl) (fun a u hu => (tN (Qc hu ?_)))
 refine T.seq (Qq ?_)
 refine sp rfl (Qm (i := 1) rfl (dk rfl) Yd rfl rfl rfl rfl ?_)
 refine aw rfl ?_
 refine TL'.nil (tN ?_)
 refine T.ret ?_
 refine Xf (Zn.view 2 0 rfl rfl) ?_
 exact Q6 (.cons _ _ _ _ (.tmp 2 _ rfl) .nil) (.cons 3 rfl (.nil _)) (by cases h; exact ⟨gl [], rfl, rfl⟩)
abbrev tb_Decode_2_q (bx0 bx1 bx1_p : Nat) (x0c0 : aSp) (x0c1 : List Zb) (r : (List (Bool × aSt)) × tbr) : ES := Jk tp Try.f34 (fun y t => ∃ γ : Nat → Value, y = (.tup []) ∧ t = [(Zc bx0 x0c0.Of x0c0.Many (γ 0) (γ 1)), .arrA (γ 0) 42 2 (mA x0c1), .arrX (γ 1) 59 4 0 (r.1.map Qw), (Zl bx1 bx1_p), (Q8 bx1_p r.2.b r.2.bad)])
theorem tb_Decode_2_T (K : Nat) {x0c0 : aSp} {x0c1 : List Zb} {x0c2 : List (Bool × aSt)} {x1_p : tbr} {bx0 : Nat} {wx0c1 wx0c2 : Value} {bx1 bx1_p : Nat} {r : (List (Bool × aSt)) × tbr} (h : M6 K x0c0 x0c1 x0c2 x1_p = some r) : Uz tp 34 [.ptr bx0 0, .ptr bx1 0] [(Zc bx0 x0c0.Of x0c0.Many wx0c1 wx0c2), .arrA wx0c1 42 2 (mA x0c1), .arrX wx0c2 59 4 0 (x0c2.map Qw), (Zl bx1 bx1_p), (Q8 bx1_p x1_p.b x1_p.bad)] (fun γ => (.tup [])) (fun γ => [(Zc bx0 x0c0.Of x0c0.Many (γ 0) (γ 1)), .arrA (γ 0) 42 2 (mA x0c1), .arrX (γ 1) 59 4 0 (r.1.map Qw), (Zl bx1 bx1_p), (Q8 bx1_p r.2.b r.2.bad)]) := by
 refine Qt Try.func34 rfl (nb rfl) ?_
 show T tp 12 (ca [] Try.f34) ⟨Qv 0 [.ptr bx0 0, .ptr bx1 0], [(Zc bx0 x0c0.Of x0c0.Many wx0c1 wx0c2), .arrA wx0c1 42 2 (mA x0c1), .arrX wx0c2 59 4 0 (x0c2.map Qw), (Zl bx1 bx1_p), (Q8 bx1_p x1_p.b x1_p.bad)]⟩ (tb_Decode_2_q bx0 bx1 bx1_p x0c0 x0c1 r)
 unfold M6 at h
 refine Qc Zs ?_
 refine Y3 ?_
 refine dC (c := ⟨some 2, .ptr bx0 (0 + 258), [(0, .ptr bx0 0)], [], []⟩) (fun t hm => oF rfl rfl (Qg rfl (dk rfl) Xe rfl i26 (by decide) hm.s0 ⟨u0, rfl⟩)) (fun _ => rfl) (fun _ => rfl) ?_
 refine dC (c := ⟨some 3, .c (.ex wx0c2), [(2, .ptr bx0 (0 + 258))], [(1, (Zc bx0 x0c0.Of x0c0.Many wx0c1 wx0c2))], []⟩) (fun t hm => oF rfl rfl (Qm (i := 1) rfl (dk rfl) X5 rfl hm.s0 hm.o0 rfl ⟨u0, rfl⟩)) (fun _ => rfl) (fun _ => rfl) ?_
 refine dC (c := ⟨some 4, .ptr bx1_p 0, [(1, .ptr bx1 0)], [(4, (Zl bx1 bx1_p))], []⟩) (fun t hm => oF rfl rfl (Qm (i := 4) rfl (dk rfl) ul73 rfl hm.s0 hm.o0 rfl ⟨u0, rfl⟩)) (fun _ => rfl) (fun _ => rfl) ?_
 obtain ⟨j, n, h⟩ := bind_some h
 refine dC (c := ⟨some 5, .sl false 1 (mI j.1), [(4, .ptr bx1_p 0)], [(5, (Q8 bx1_p x1_p.b x1_p.bad))], [(5, (Q8 bx1_p j.2.b j.2.bad))]⟩) (fun t hm => oF rfl rfl (Q2 (is := [5]) (ph := []) rfl (dk rfl) Try.func35 rfl rfl (Q3.cons hm.s0 Q3.nil) (tbr_list_T K (bx0 := bx1_p) n) (.cons hm.o0 rfl (.nil)) (fun _ => rfl) (fun g => ⟨(g, 0), rfl⟩))) (fun _ => rfl) (fun _ => rfl) ?_
 refine dC (c := ⟨some 6, .ptr bx1_p 0, [(1, .ptr bx1 0)], [(4, (Zl bx1 bx1_p))], []⟩) (fun t hm => oF rfl rfl (Qm (i := 4) rfl (dk rfl) ul73 rfl hm.s0 hm.o0 rfl ⟨u0, rfl⟩)) (fun _ => rfl) (fun _ => rfl) ?_
 obtain ⟨m, p, h⟩ := bind_some h
 refine dC (c := ⟨some 7, .sl false 1 (mI m.1), [(6, .ptr bx1_p 0)], [(5, (Q8 bx1_p j.2.b j.2.bad))], [(5, (Q8 bx1_p m.2.b m.2.bad))]⟩) (fun t hm => oF rfl rfl (Q2 (is := [5]) (ph := []) rfl (dk rfl) Try.func35 rfl rfl (Q3.cons hm.s0 Q3.nil) (tbr_list_T K (bx0 := bx1_p) p) (.cons hm.o0 rfl (.nil)) (fun _ => rfl) (fun g => ⟨(g, 0), rfl⟩))) (fun _ => rfl) (fun _ => rfl) ?_
 refine dC (c := ⟨some 8, .agg [.sl false 1 (mI j.1), .sl false 1 (mI m.1), .sl true 1 (([] : List Int).map (cI .i64)), .sl true 1 (([] : List (List aMv)).map (cL 2 Qu))], [(5, .sl false 1 (mI j.1)), (7, .sl false 1 (mI m.1))], [], []⟩) (fun t hm => oF rfl rfl (Zm (OpT.build (l := [.sl false 1 (mI j.1), .sl false 1 (mI m.1), .ex (.slice none 0 0), .ex (.slice none 0 0)]) rfl (dk rfl) (Zr (pl := [(0, 1), (1, 1), (2, 1), (3, 1)]) Vm i59 rfl) (J6 rfl) (Xm hm.s0 rfl (Xm hm.s1 rfl V6)) rfl rfl) (Zz 8 (l := [.sl false 1 (mI j.1), .sl false 1 (mI m.1), .ex (.slice none 0 0), .ex (.slice none 0 0)]) (l' := [.sl false 1 (mI j.1), .sl false 1 (mI m.1), .sl true 1 (([] : List Int).map (cI .i64)), .sl true 1 (([] : List (List aMv)).map (cL 2 Qu))]) (.cons (.same _) (.cons (.same _) (.cons (.nil _ _) (.cons (.nil _ _) (.refl _)))))) ⟨u0, rfl⟩)) (fun _ => rfl) (fun _ => rfl) ?_
 refine dC (c := ⟨some 9, .sl true 4 ([(false, (aSt.mk j.1 m.1 [] []))].map Qw), [(8, .agg [.sl false 1 (mI j.1), .sl false 1 (mI m.1), .sl true 1 (([] : List Int).map (cI .i64)), .sl true 1 (([] : List (List aMv)).map (cL 2 Qu))])], [], []⟩) (fun t hm => oF rfl rfl (OpT.buildSlice (elems := ([(false, (aSt.mk j.1 m.1 [] []))] : List (Bool × aSt)).map Qw) rfl (dk rfl) X5 i59 (by decide) rfl (J6 rfl) (Xm hm.s0 rfl V6) rfl rfl (Yp rfl) (by decide) ⟨u0, rfl⟩)) (fun _ => rfl) (fun _ => rfl) ?_
 obtain ⟨q, h⟩ := Zh h
 refine DGG.step (c := fun a => ⟨some 10, .c (.ex ((a 8).1 0)), [(9, .sl true 4 ([(false, (aSt.mk j.1 m.1 [] []))].map Qw)), (3, .c (.ex wx0c2))], [(3, .arrX wx0c2 59 4 0 (x0c2.map Qw))], [(3, .arrX ((a 8).1 0) 59 4 0 ((x0c2 ++ [(false, (aSt.mk j.1 m.1 [] []))]).map Qw))]⟩) [8] (fun a γ' h => by simp only [h 8 (by decide)]) (fun a t hm => oF rfl rfl (Nn (i := 3) (xs := x0c2) (ys := [(false, (aSt.mk j.1 m.1 [] []))]) (f := Qw) rfl (dk rfl) X5 i59 rfl hm.s1 hm.o0 hm.s0 q (fun w => ⟨(fun _ => w, 0), rfl⟩))) (fun a => Zq rfl rfl) ?_
 refine dC (c := ⟨some 11, .ptr bx0 (0 + 258), [(0, .ptr bx0 0)], [], []⟩) (fun t hm => oF rfl rfl (Qg rfl (dk rfl) Xe rfl i26 (by decide) hm.s0 ⟨u0, rfl⟩)) (fun _ => rfl) (fun _ => rfl) ?_
 refine DGG.step (c := fun a => ⟨none, .any, [(11, .ptr bx0 (0 + 258)), (10, .c (.ex ((a 8).1 0)))], [(1, (Zc bx0 x0c0.Of x0c0.Many wx0c1 wx0c2))], [(1, (Zc bx0 x0c0.Of x0c0.Many wx0c1 ((a 8).1 0)))]⟩) [8] (fun a γ' h => by simp only [h 8 (by decide)]) (fun a t hm => oF rfl rfl (Xd (i := 1) (cells' := ((Qx.oc 256 .u8 x0c0.Of) ++ (([.d (.int .i64 x0c0.Many), .d (.ex wx0c1), .d (.ex ((a 8).1 0))]:List OC)))) rfl rfl i26 hm.s0 hm.s1 hm.o0 (nb rfl) rfl ⟨u0, rfl⟩)) (fun a => Zq rfl rfl) ?_
 refine Vi (s1 := fun a => ⟨[], [.ro 0 [], (Zc bx0 x0c0.Of x0c0.Many wx0c1 ((a 8).1 0)), .arrA wx0c1 42 2 (mA x0c1), .arrX ((a 8).1 0) 59 4 0 ((x0c2 ++ [(false, (aSt.mk j.1 m.1 [] []))]).map Qw), (Zl bx1 bx1_p), (Q8 bx1_p m.2.b m.2.bad)]⟩) (ms := [0, 1, 0, 4, 0, 28, 60, 124, 255, 511, 1023]) Q7 rfl (by kernel_rfl) (by kernel_rfl) (by kernel_rfl) (fun a => by kernel_rfl) (fun a => .nil _) (fun _ => rfl) (fun a u hu => (Xf hu ?_))
 exact Q6 (.nil) (.cons 1 rfl (.cons 1 rfl (.cons 1 rfl (.cons 1 rfl (.cons 1 rfl (.nil _)))))) (by cases h; exact ⟨gl [wx0c1, (a 8).1 0], rfl, rfl⟩)
abbrev Ox (bx0 bx2c0 bx2c1 : Nat) (x2c0c0 : aSp) (x2c0c1 : List Zb) (r : tbr × (List (Bool × aSt))) : ES := Jk tp Try.f31 (fun y t => ∃ γ : Nat → Value, y = (.tup []) ∧ t = [(Q8 bx0 r.1.b r.1.bad), (Zc bx2c0 x2c0c0.Of x2c0c0.Many (γ 0) (γ 1)), .arrA (γ 0) 42 2 (mA x2c0c1), .arrX (γ 1) 59 4 0 (r.2.map Qw), (Zl bx2c1 bx0)])
abbrev Ln (bx0 bx2c0 bx2c1 : Nat) (x2c0c0 : aSp) (x2c0c1 : List Zb) (r : tbr × (List (Bool × aSt))) : ES := Qz 0 ((Ox bx0 bx2c0 bx2c1 x2c0c0 x2c0c1 r))
abbrev Dh (bx0 bx2c0 bx2c1 : Nat) (x2c0c0 : aSp) (x2c0c1 : List Zb) (r : tbr × (List (Bool × aSt))) : ES := thenS (fun s' => TL tp 21 (ca [1,0,0] Try.f31) s' ((Ln bx0 bx2c0 bx2c1 x2c0c0 x2c0c1 r))) ((Ln bx0 bx2c0 bx2c1 x2c0c0 x2c0c1 r))
abbrev Pb (bx0 bx2c0 bx2c1 : Nat) (x2c0c0 : aSp) (x2c0c1 : List Zb) (r : tbr × (List (Bool × aSt))) : ES := thenS (fun s' => T tp 21 (ca [1,0,0,1] Try.f31) s' ((Dh bx0 bx2c0 bx2c1 x2c0c0 x2c0c1 r))) ((Dh bx0 bx2c0 bx2c1 x2c0c0 x2c0c1 r))
theorem Di {r : tbr × (List (Bool × aSt))} (K bx0 : Nat) (bx2c0 bx2c1 : Nat) (x2c0c0 : aSp) (x2c0c1 : List Zb) (c : ByteArray) (f : Bool) (x2c0c0 : aSp) (x2c0c1 : List Zb) (g : List (Bool × aSt)) (a b : Value) (h : Gq K c f x2c0c0 x2c0c1 g = some r) : T tp 21 (ca [1,0,0,0,1,1] Try.f31) ⟨[], [(Q8 bx0 c f), (Zc bx2c0 x2c0c0.Of x2c0c0.Many a b), .arrA a 42 2 (mA x2c0c1), .arrX b 59 4 0 (g.map Qw), (Zl bx2c1 bx0)]⟩ (Pb bx0 bx2c0 bx2c1 x2c0c0 x2c0c1 r) := by
 unfold Gq at h
 refine T.exit (Qf (Qf (Qp ?_)))
 exact Q6 (.nil) (.cons 0 rfl (.cons 0 rfl (.cons 0 rfl (.cons 0 rfl (.cons 0 rfl (.nil _)))))) (by cases h; exact ⟨gl [a, b], rfl, rfl⟩)
theorem Sp {r : tbr × (List (Bool × aSt))} (K bx0 : Nat) (bx2c0 bx2c1 : Nat) (x2c0c0 : aSp) (x2c0c1 : List Zb) : ∀ (k : Nat), ∀ (x1 q : Int) (l : ByteArray) (m : Bool) (x2c0c0 : aSp) (x2c0c1 : List Zb) (p : List (Bool × aSt)) (g j : Value), Xa K k x1 q l m x2c0c0 x2c0c1 p = some r → TL tp 21 (ca [1,0,0] Try.f31) ⟨[(0, .ptr bx0 0), (1, .int .i64 x1), (2, .c (.ex (.func (.func 34) #[] #[.pointer (some ⟨bx2c0, 0, none⟩), .pointer (some ⟨bx2c1, 0, none⟩)]))), (6, .int .i64 q)], [(Q8 bx0 l m), (Zc bx2c0 x2c0c0.Of x2c0c0.Many g j), .arrA g 42 2 (mA x2c0c1), .arrX j 59 4 0 (p.map Qw), (Zl bx2c1 bx0)]⟩ (Ln bx0 bx2c0 bx2c1 x2c0c0 x2c0c1 r) := by
 intro k
 induction k with
 | zero =>
  intro x1 q l m x2c0c0 x2c0c1 p g j h
  cases (show (none : Option (tbr × (List (Bool × aSt)))) = some r from h)
 | succ k ih =>
  intro x1 q l m x2c0c0 x2c0c1 p g j h
  rw [Xa] at h
  refine Q4 ?_
  refine T.seq ?_
  refine T.seq (Qq ?_)
  refine mw rfl ?_
  refine mw rfl ?_
  refine sp rfl (Qa rfl rfl (dk rfl) rfl rfl ?_)
  refine mw rfl ?_
  rcases Qd h with ⟨a, h⟩ | ⟨a, h⟩
  refine sn rfl a (OpT.move rfl (dk rfl) rfl ?_)
  refine sn rfl a (OpT.nilCheck rfl (dk rfl) rfl rfl ?_)
  refine sn rfl a (Qg rfl (dk rfl) ul75 rfl i4 (by decide) rfl ?_)
  refine sn rfl a (Qm (i := 0) rfl (dk rfl) ul4 rfl rfl rfl rfl ?_)
  refine sn rfl a (OpT.not rfl (dk rfl) rfl ?_)
  refine sp rfl (Qi rfl (dk rfl) rfl a rfl ?_)
  refine TL'.nil (tN ?_)
  rcases Qd h with ⟨s, h⟩ | ⟨s, h⟩
  refine Qk rfl s ?_
  refine T.skip (tN ?_)
  refine T.seq ?_
  refine T.block ?_
  refine Qq ?_
  refine mw rfl ?_
  obtain ⟨u, w, h⟩ := bind_some h
  refine sp rfl (Fa (f := 34) (vs := [.pointer (some ⟨bx2c0, 0, none⟩), .pointer (some ⟨bx2c1, 0, none⟩)]) rfl rfl (dk rfl) Try.func34 rfl rfl (Q2 (is := [1, 2, 3, 4, 0]) (ph := []) rfl (dk rfl) Try.func34 rfl rfl (Q3.cons rfl (Q3.cons rfl Q3.nil)) (tb_Decode_2_T K (bx0 := bx2c0) (wx0c1 := g) (wx0c2 := j) (bx1 := bx2c1) (bx1_p := bx0) w) (.cons rfl rfl (.cons rfl rfl (.cons rfl rfl (.cons rfl rfl (.cons rfl rfl (.nil)))))) (fun _ => rfl) (fun v => ?_)))
  refine nm (.c (.c (.c (.c (.c (.n)))))) ?_
  refine TL'.nil (Qe (tN ?_))
  refine Qq ?_
  refine mw rfl ?_
  refine sp rfl (Qa rfl rfl (dk rfl) rfl rfl ?_)
  refine aw rfl ?_
  refine TL'.nil (tN ?_)
  refine Qb ?_ (ih x1 (wI (q + (1:Int))) u.2.b u.2.bad x2c0c0 x2c0c1 u.1 (v 0) (v 1) h)
  exact tq rfl rfl
  refine Qo rfl s ?_
  refine Qc ?_ (Di K bx0 bx2c0 bx2c1 x2c0c0 x2c0c1 l m x2c0c0 x2c0c1 p g j h)
  exact tq rfl rfl
  refine pf rfl a ?_
  refine pf rfl a ?_
  refine pf rfl a ?_
  refine pf rfl a ?_
  refine pf rfl a ?_
  refine sp rfl (Qs rfl (dk rfl) rfl a rfl ?_)
  refine TL'.nil (tN ?_)
  refine Qo rfl rfl ?_
  refine Qc ?_ (Di K bx0 bx2c0 bx2c1 x2c0c0 x2c0c1 l m x2c0c0 x2c0c1 p g j h)
  exact tq rfl rfl
theorem tbr_times_i1_T (K : Nat) {x0 : tbr} {x1 : Int} {x2c0c0 : aSp} {x2c0c1 : List Zb} {x2c0c2 : List (Bool × aSt)} {bx0 bx2c0 : Nat} {wx2c0c1 wx2c0c2 : Value} {bx2c1 : Nat} {r : tbr × (List (Bool × aSt))} (h : Kk K x0 x1 x2c0c0 x2c0c1 x2c0c2 = some r) : Uz tp 31 [.ptr bx0 0, .int .i64 x1, .c (.ex (.func (.func 34) #[] #[.pointer (some ⟨bx2c0, 0, none⟩), .pointer (some ⟨bx2c1, 0, none⟩)]))] [(Q8 bx0 x0.b x0.bad), (Zc bx2c0 x2c0c0.Of x2c0c0.Many wx2c0c1 wx2c0c2), .arrA wx2c0c1 42 2 (mA x2c0c1), .arrX wx2c0c2 59 4 0 (x2c0c2.map Qw), (Zl bx2c1 bx0)] (fun γ => (.tup [])) (fun γ => [(Q8 bx0 r.1.b r.1.bad), (Zc bx2c0 x2c0c0.Of x2c0c0.Many (γ 0) (γ 1)), .arrA (γ 0) 42 2 (mA x2c0c1), .arrX (γ 1) 59 4 0 (r.2.map Qw), (Zl bx2c1 bx0)]) := by
 refine Qt Try.func31 rfl (nb rfl) ?_
 show T tp 21 (ca [] Try.f31) ⟨Qv 0 [.ptr bx0 0, .int .i64 x1, .c (.ex (.func (.func 34) #[] #[.pointer (some ⟨bx2c0, 0, none⟩), .pointer (some ⟨bx2c1, 0, none⟩)]))], [(Q8 bx0 x0.b x0.bad), (Zc bx2c0 x2c0c0.Of x2c0c0.Many wx2c0c1 wx2c0c2), .arrA wx2c0c1 42 2 (mA x2c0c1), .arrX wx2c0c2 59 4 0 (x2c0c2.map Qw), (Zl bx2c1 bx0)]⟩ (Ox bx0 bx2c0 bx2c1 x2c0c0 x2c0c1 r)
 unfold Kk at h
 refine T.seq (Qq ?_)
 refine aw rfl ?_
 refine TL'.nil (tN ?_)
 refine T.block ?_
 refine T.loop ?_
 refine Qb ?_ (Sp K bx0 bx2c0 bx2c1 x2c0c0 x2c0c1 K x1 (0:Int) x0.b x0.bad x2c0c0 x2c0c1 x2c0c2 wx2c0c1 wx2c0c2 h)
 exact tq rfl rfl
abbrev tbr_move_q (bx0 : Nat) (wx1 : Value) (x1 : List (Bool × aSt)) (x1c9 : Int) (x1c7 : List Int) (x1c8 : List (List aMv)) (r : aMv × tbr) : ES := Jk tp Try.f39 (fun y t => ∃ γ : Nat → Value, y = (.agg [.int .i64 r.1.To, .sl false 1 (mU r.1.Ops)]) ∧ t = [(Q8 bx0 r.2.b r.2.bad), .arrX wx1 59 4 0 (Hd (x1.map Qw) (Int.toNat x1c9) (γ 0) (γ 1)), .arrA (γ 0) 3 1 (mI x1c7), .arrA (γ 1) 61 1 (x1c8.map (cL 2 Qu))])
theorem tbr_move_T (K : Nat) {x0 : tbr} {x1 : List (Bool × aSt)} {x1c9 : Int} {x1c7 : List Int} {x1c8 : List (List aMv)} {bx0 : Nat} {wx1 wx1c7 wx1c8 : Value} {r : aMv × tbr} (h : Rf K x0 x1 x1c9 x1c7 x1c8 = some r) : Uz tp 39 [.ptr bx0 0, .c (.ex wx1)] [(Q8 bx0 x0.b x0.bad), .arrX wx1 59 4 0 (Hd (x1.map Qw) (Int.toNat x1c9) wx1c7 wx1c8), .arrA wx1c7 3 1 (mI x1c7), .arrA wx1c8 61 1 (x1c8.map (cL 2 Qu))] (fun γ => (.agg [.int .i64 r.1.To, .sl false 1 (mU r.1.Ops)])) (fun γ => [(Q8 bx0 r.2.b r.2.bad), .arrX wx1 59 4 0 (Hd (x1.map Qw) (Int.toNat x1c9) (γ 0) (γ 1)), .arrA (γ 0) 3 1 (mI x1c7), .arrA (γ 1) 61 1 (x1c8.map (cL 2 Qu))]) := by
 refine Qt Try.func39 rfl (nb rfl) ?_
 show T tp 35 (ca [] Try.f39) ⟨Qv 0 [.ptr bx0 0, .c (.ex wx1)], [(Q8 bx0 x0.b x0.bad), .arrX wx1 59 4 0 (Hd (x1.map Qw) (Int.toNat x1c9) wx1c7 wx1c8), .arrA wx1c7 3 1 (mI x1c7), .arrA wx1c8 61 1 (x1c8.map (cL 2 Qu))]⟩ (tbr_move_q bx0 wx1 x1 x1c9 x1c7 x1c8 r)
 unfold Rf at h
 refine T.seq (Qq ?_)
 refine sp rfl (Zi rfl (dk rfl) i63 rfl (fun w => ?_))
 refine TL'.nil (tN (T.seq (Qq ?_)))
 refine mw rfl ?_
 obtain ⟨a, s, h⟩ := bind_some h
 refine sp rfl (Q2 (is := [1]) (ph := []) rfl (dk rfl) Try.func32 rfl rfl (Q3.cons rfl Q3.nil) (Kl K (bx0 := bx0) s) (.cons rfl rfl (.nil)) (fun _ => rfl) (fun y => ?_))
 refine nm (.c (.c (.c (.c (.c (.n)))))) ?_
 refine sp rfl (Qa rfl rfl (dk rfl) rfl rfl ?_)
 refine sp rfl (Zm (OpT.build (l := [.int .i64 (wI (a.1 - (1:Int))), .ex (.slice none 0 0)]) rfl (dk rfl) (Zr (pl := [(0, 1), (1, 1)]) Kg i63 rfl) (J6 rfl) rfl rfl rfl) (Zz 9 (l := [.int .i64 (wI (a.1 - (1:Int))), .ex (.slice none 0 0)]) (l' := [.int .i64 (wI (a.1 - (1:Int))), .sl false 1 (([] : List Int).map (cI .u8))]) (.cons (.same _) (.cons (.nil _ _) (.refl _)))) ?_)
 refine sp rfl (Zi rfl (dk rfl) i63 rfl (fun z => ?_))
 refine sp rfl (Q1 (i := 0) (cells' := [.d (.int .i64 (wI (a.1 - (1:Int)))), .d (.sl false 1 (([] : List Int).map (cI .u8)))]) rfl rfl i63 rfl rfl rfl rfl (nb rfl) rfl ?_)
 refine TL'.nil (tN ?_)
 refine T.seq ?_
 refine T.block ?_
 refine T.seq (Qq ?_)
 refine sp rfl (Qg rfl (dk rfl) Kg rfl i3 (by decide) rfl ?_)
 refine sp rfl (Qm (i := 0) rfl (dk rfl) ul3 rfl rfl rfl rfl ?_)
 refine mw rfl ?_
 refine sp rfl (OpT.lenHM (i := 3) (xs := x1) (f := Qw) rfl (dk rfl) X5 rfl rfl ?_)
 refine sp rfl (Qa rfl rfl (dk rfl) rfl rfl ?_)
 refine aw rfl ?_
 refine TL'.nil (tN ?_)
 rcases Qd h with ⟨j, h⟩ | ⟨j, h⟩
 refine Qk rfl j ?_
 refine Qq ?_
 refine mw rfl ?_
 refine sp rfl (OpT.nilCheck rfl (dk rfl) rfl rfl ?_)
 refine sp rfl (Qg rfl (dk rfl) ul75 rfl i4 (by decide) rfl ?_)
 refine sp rfl (Xd (i := 2) (cells' := [.d (.str a.2.b), .d (.bool true)]) rfl rfl i4 rfl rfl rfl (nb rfl) rfl ?_)
 refine TL'.nil (Qe (tN ?_))
 refine T.seq (Qq ?_)
 refine sp rfl (Ze (i := 0) (l := [.int .i64 (wI (a.1 - (1:Int))), .sl false 1 (([] : List Int).map (cI .u8))]) rfl (dk rfl) Kg rfl i63 rfl rfl rfl rfl ?_)
 refine sp rfl (Q1 (i := 1) (cells' := [.d (.int .i64 (wI (a.1 - (1:Int)))), .d (.sl false 1 (([] : List Int).map (cI .u8)))]) rfl rfl i63 rfl rfl rfl rfl (nb rfl) rfl ?_)
 refine TL'.nil (tN ?_)
 refine T.ret ?_
 exact Q6 (.cons _ _ _ _ (.cellAgg 4 63 _ 0 1 63 _ [.int .i64 (wI (a.1 - (1:Int))), .sl false 1 (([] : List Int).map (cI .u8))] _ _ 2 _ rfl rfl rfl rfl Kg rfl i63) .nil) (.cons 2 rfl (.cons 2 rfl (.cons 2 rfl (.cons 2 rfl (.nil _))))) (by cases h; exact ⟨gl [wx1c7, wx1c8], rfl, rfl⟩)
 refine Qo rfl j ?_
 refine T.seq (Qq ?_)
 refine sp rfl (Qg rfl (dk rfl) Kg rfl i3 (by decide) rfl ?_)
 refine sp rfl (Qm (i := 0) rfl (dk rfl) ul3 rfl rfl rfl rfl ?_)
 refine sp rfl (Qa rfl rfl (dk rfl) rfl rfl ?_)
 refine aw rfl ?_
 refine TL'.nil (tN ?_)
 rcases Qd h with ⟨m, h⟩ | ⟨m, h⟩
 refine Qk rfl m ?_
 refine Qq ?_
 refine mw rfl ?_
 refine mw rfl ?_
 refine sp rfl (Qg rfl (dk rfl) Kg rfl i3 (by decide) rfl ?_)
 refine sp rfl (Qm (i := 0) rfl (dk rfl) ul3 rfl rfl rfl rfl ?_)
 obtain ⟨p, q, h⟩ := bind_some h
 refine sp rfl (OpT.indexHM (n := 3) (xs := x1) (f := Qw) (old := p) rfl (dk rfl) X5 i59 rfl rfl rfl q ?_)
 refine sp rfl (Ua rfl (dk rfl) Vm rfl i56 (by decide) rfl ?_)
 refine sp rfl (OpT.loadHM (i := 3) (xs := x1) (f := Qw) (old := p) rfl (dk rfl) Yd rfl rfl rfl (Z0 q).2 (by decide) rfl ?_)
 refine sp rfl (Qn (xs := p.2.R) (f := (cI .i64)) rfl (dk rfl) Yd rfl ?_)
 obtain ⟨g, u, h⟩ := bind_some h
 refine sp rfl (Q2 (is := [2]) (ph := []) rfl (dk rfl) Try.func29 rfl rfl (Q3.cons rfl (Q3.cons rfl Q3.nil)) (Nr K (bx0 := bx0) u) (.cons rfl rfl (.nil)) (fun _ => rfl) (fun aa => ?_))
 refine nm (.c (.c (.c (.c (.c (.c (.n))))))) ?_
 obtain ⟨v, h⟩ := Zh h
 refine sp rfl (Qac rfl (dk rfl) ul9 Xg ul5 rfl v ?_)
 refine sp rfl (Qg rfl (dk rfl) Kg rfl i29 (by decide) rfl ?_)
 refine sp rfl (Xd (i := 0) (cells' := [.d (.int .i64 (wI (a.1 - (1:Int)))), .d (.sl false 1 ((Z3 g.1).map (cI .u8)))]) rfl rfl i29 rfl rfl rfl (nb rfl) rfl ?_)
 refine TL'.nil (Qe (tN ?_))
 refine T.seq (Qq ?_)
 refine sp rfl (Ze (i := 0) (l := [.int .i64 (wI (a.1 - (1:Int))), .sl false 1 ((Z3 g.1).map (cI .u8))]) rfl (dk rfl) Kg rfl i63 rfl rfl rfl rfl ?_)
 refine sp rfl (Q1 (i := 1) (cells' := [.d (.int .i64 (wI (a.1 - (1:Int)))), .d (.sl false 1 ((Z3 g.1).map (cI .u8)))]) rfl rfl i63 rfl rfl rfl rfl (nb rfl) rfl ?_)
 refine TL'.nil (tN ?_)
 refine T.ret ?_
 exact Q6 (.cons _ _ _ _ (.cellAgg 4 63 _ 0 1 63 _ [.int .i64 (wI (a.1 - (1:Int))), .sl false 1 ((Z3 g.1).map (cI .u8))] _ _ 2 _ rfl rfl rfl rfl Kg rfl i63) .nil) (.cons 2 rfl (.cons 2 rfl (.cons 2 rfl (.cons 2 rfl (.nil _))))) (by cases h; exact ⟨gl [wx1c7, wx1c8], rfl, rfl⟩)
 refine Qo rfl m ?_
 refine T.skip (Qe (tN ?_))
 refine T.seq (Qq ?_)
 refine sp rfl (Ze (i := 0) (l := [.int .i64 (wI (a.1 - (1:Int))), .sl false 1 (([] : List Int).map (cI .u8))]) rfl (dk rfl) Kg rfl i63 rfl rfl rfl rfl ?_)
 refine sp rfl (Q1 (i := 1) (cells' := [.d (.int .i64 (wI (a.1 - (1:Int)))), .d (.sl false 1 (([] : List Int).map (cI .u8)))]) rfl rfl i63 rfl rfl rfl rfl (nb rfl) rfl ?_)
 refine TL'.nil (tN ?_)
 refine T.ret ?_
 exact Q6 (.cons _ _ _ _ (.cellAgg 4 63 _ 0 1 63 _ [.int .i64 (wI (a.1 - (1:Int))), .sl false 1 (([] : List Int).map (cI .u8))] _ _ 2 _ rfl rfl rfl rfl Kg rfl i63) .nil) (.cons 2 rfl (.cons 2 rfl (.cons 2 rfl (.cons 2 rfl (.nil _))))) (by cases h; exact ⟨gl [wx1c7, wx1c8], rfl, rfl⟩)
abbrev Qam (bx0 bx1 : Nat) (bx1_p bx2 : Nat) (wx2c2 : Value) (x2c0 : aSp) (x2c1 : List Zb) (x2c2 : List (Bool × aSt)) (x2c2c9 : Int) (x2c2c7 : List Int) (x2c2c8 : List (List aMv)) (r : (List aMv) × tbr) : ES := Jk tp Try.f38 (fun y t => ∃ γ : Nat → Value, y = (.tup []) ∧ t = [(Mp bx0 (γ 0)), .arrA (γ 0) 63 2 (r.1.map Qu), (Zl bx1 bx1_p), (Q8 bx1_p r.2.b r.2.bad), (Zc bx2 x2c0.Of x2c0.Many (γ 1) wx2c2), .arrA (γ 1) 42 2 (mA x2c1), .arrX wx2c2 59 4 0 (Hd (x2c2.map Qw) (Int.toNat x2c2c9) (γ 2) (γ 3)), .arrA (γ 2) 3 1 (mI x2c2c7), .arrA (γ 3) 61 1 (x2c2c8.map (cL 2 Qu))])
theorem Qan (K : Nat) {x0 : List aMv} {x1_p : tbr} {x2c0 : aSp} {x2c1 : List Zb} {x2c2 : List (Bool × aSt)} {x2c2c9 : Int} {x2c2c7 : List Int} {x2c2c8 : List (List aMv)} {bx0 : Nat} {wx0 : Value} {bx1 bx1_p bx2 : Nat} {wx2c1 wx2c2 : Value} {wx2c2c7 wx2c2c8 : Value} {r : (List aMv) × tbr} (h : Mr K x0 x1_p x2c0 x2c1 x2c2 x2c2c9 x2c2c7 x2c2c8 = some r) : Uz tp 38 [.ptr bx0 0, .ptr bx1 0, .ptr bx2 0] [(Mp bx0 wx0), .arrA wx0 63 2 (x0.map Qu), (Zl bx1 bx1_p), (Q8 bx1_p x1_p.b x1_p.bad), (Zc bx2 x2c0.Of x2c0.Many wx2c1 wx2c2), .arrA wx2c1 42 2 (mA x2c1), .arrX wx2c2 59 4 0 (Hd (x2c2.map Qw) (Int.toNat x2c2c9) wx2c2c7 wx2c2c8), .arrA wx2c2c7 3 1 (mI x2c2c7), .arrA wx2c2c8 61 1 (x2c2c8.map (cL 2 Qu))] (fun γ => (.tup [])) (fun γ => [(Mp bx0 (γ 0)), .arrA (γ 0) 63 2 (r.1.map Qu), (Zl bx1 bx1_p), (Q8 bx1_p r.2.b r.2.bad), (Zc bx2 x2c0.Of x2c0.Many (γ 1) wx2c2), .arrA (γ 1) 42 2 (mA x2c1), .arrX wx2c2 59 4 0 (Hd (x2c2.map Qw) (Int.toNat x2c2c9) (γ 2) (γ 3)), .arrA (γ 2) 3 1 (mI x2c2c7), .arrA (γ 3) 61 1 (x2c2c8.map (cL 2 Qu))]) := by
 refine Qt Try.func38 rfl (nb rfl) ?_
 show T tp 10 (ca [] Try.f38) ⟨Qv 0 [.ptr bx0 0, .ptr bx1 0, .ptr bx2 0], [(Mp bx0 wx0), .arrA wx0 63 2 (x0.map Qu), (Zl bx1 bx1_p), (Q8 bx1_p x1_p.b x1_p.bad), (Zc bx2 x2c0.Of x2c0.Many wx2c1 wx2c2), .arrA wx2c1 42 2 (mA x2c1), .arrX wx2c2 59 4 0 (Hd (x2c2.map Qw) (Int.toNat x2c2c9) wx2c2c7 wx2c2c8), .arrA wx2c2c7 3 1 (mI x2c2c7), .arrA wx2c2c8 61 1 (x2c2c8.map (cL 2 Qu))]⟩ (Qam bx0 bx1 bx1_p bx2 wx2c2 x2c0 x2c1 x2c2 x2c2c9 x2c2c7 x2c2c8 r)
 unfold Mr at h
 refine Qc Zs ?_
 refine Y3 ?_
 refine dC (c := ⟨some 3, .c (.ex wx0), [(0, .ptr bx0 0)], [(1, (Mp bx0 wx0))], []⟩) (fun t hm => oF rfl rfl (Qm (i := 1) rfl (dk rfl) Fq rfl hm.s0 hm.o0 rfl ⟨u0, rfl⟩)) (fun _ => rfl) (fun _ => rfl) ?_
 refine dC (c := ⟨some 4, .ptr bx1_p 0, [(1, .ptr bx1 0)], [(3, (Zl bx1 bx1_p))], []⟩) (fun t hm => oF rfl rfl (Qm (i := 3) rfl (dk rfl) ul73 rfl hm.s0 hm.o0 rfl ⟨u0, rfl⟩)) (fun _ => rfl) (fun _ => rfl) ?_
 refine dC (c := ⟨some 5, .ptr bx2 (0 + 258), [(2, .ptr bx2 0)], [], []⟩) (fun t hm => oF rfl rfl (Qg rfl (dk rfl) Xe rfl i26 (by decide) hm.s0 ⟨u0, rfl⟩)) (fun _ => rfl) (fun _ => rfl) ?_
 refine dC (c := ⟨some 6, .c (.ex wx2c2), [(5, .ptr bx2 (0 + 258))], [(5, (Zc bx2 x2c0.Of x2c0.Many wx2c1 wx2c2))], []⟩) (fun t hm => oF rfl rfl (Qm (i := 5) rfl (dk rfl) X5 rfl hm.s0 hm.o0 rfl ⟨u0, rfl⟩)) (fun _ => rfl) (fun _ => rfl) ?_
 obtain ⟨j, l, h⟩ := bind_some h
 refine DGG.step (c := fun a => ⟨some 7, .agg [.int .i64 j.1.To, .sl false 1 (mU j.1.Ops)], [(4, .ptr bx1_p 0), (6, .c (.ex wx2c2))], [(9, .arrA wx2c2c8 61 1 (x2c2c8.map (cL 2 Qu))), (8, .arrA wx2c2c7 3 1 (mI x2c2c7)), (7, .arrX wx2c2 59 4 0 (Hd (x2c2.map Qw) (Int.toNat x2c2c9) wx2c2c7 wx2c2c8)), (4, (Q8 bx1_p x1_p.b x1_p.bad))], [(4, (Q8 bx1_p j.2.b j.2.bad)), (7, .arrX wx2c2 59 4 0 (Hd (x2c2.map Qw) (Int.toNat x2c2c9) ((a 4).1 0) ((a 4).1 1))), (8, .arrA ((a 4).1 0) 3 1 (mI x2c2c7)), (9, .arrA ((a 4).1 1) 61 1 (x2c2c8.map (cL 2 Qu)))]⟩) [4] (fun a γ' h => by simp only [h 4 (by decide)]) (fun a t hm => oF rfl rfl (Q2 (is := [4, 7, 8, 9]) (ph := []) rfl (dk rfl) Try.func39 rfl rfl (Q3.cons hm.s0 (Q3.cons hm.s1 Q3.nil)) (tbr_move_T K (bx0 := bx1_p) (wx1 := wx2c2) (wx1c7 := wx2c2c7) (wx1c8 := wx2c2c8) l) (.cons (hm.objs (4, _) (.tail _ (.tail _ (.tail _ (.head _))))) rfl (.cons hm.o2 rfl (.cons hm.o1 rfl (.cons hm.o0 rfl (.nil))))) (fun _ => rfl) (fun g => ⟨(g, 0), rfl⟩))) (fun a => Zq rfl rfl) ?_
 refine dC (c := ⟨some 8, .sl true 2 ([j.1].map Qu), [(7, .agg [.int .i64 j.1.To, .sl false 1 (mU j.1.Ops)])], [], []⟩) (fun t hm => oF rfl rfl (OpT.buildSlice (elems := ([j.1] : List aMv).map Qu) rfl (dk rfl) Fq i63 (by decide) rfl (J6 rfl) (Xm hm.s0 rfl V6) rfl rfl (Yp rfl) (by decide) ⟨u0, rfl⟩)) (fun _ => rfl) (fun _ => rfl) ?_
 obtain ⟨m, h⟩ := Zh h
 refine DGG.step (c := fun a => ⟨some 9, .c (.ex ((a 6).1 0)), [(8, .sl true 2 ([j.1].map Qu)), (3, .c (.ex wx0))], [(2, .arrA wx0 63 2 (x0.map Qu))], [(2, .arrA ((a 6).1 0) 63 2 ((x0 ++ [j.1]).map Qu))]⟩) [6] (fun a γ' h => by simp only [h 6 (by decide)]) (fun a t hm => oF rfl rfl (Za (i := 2) (xs := x0) (ys := [j.1]) (f := Qu) rfl (dk rfl) Fq i63 rfl hm.s1 hm.o0 hm.s0 m (fun w => ⟨(fun _ => w, 0), rfl⟩))) (fun a => Zq rfl rfl) ?_
 refine DGG.step (c := fun a => ⟨none, .any, [(0, .ptr bx0 0), (9, .c (.ex ((a 6).1 0)))], [(1, (Mp bx0 wx0))], [(1, (Mp bx0 ((a 6).1 0)))]⟩) [6] (fun a γ' h => by simp only [h 6 (by decide)]) (fun a t hm => oF rfl rfl (Xd (i := 1) (cells' := [.d (.ex ((a 6).1 0))]) rfl rfl i61 hm.s0 hm.s1 hm.o0 (nb rfl) rfl ⟨u0, rfl⟩)) (fun a => Zq rfl rfl) ?_
 refine Vi (s1 := fun a => ⟨[], [.ro 0 [], (Mp bx0 ((a 6).1 0)), .arrA ((a 6).1 0) 63 2 ((x0 ++ [j.1]).map Qu), (Zl bx1 bx1_p), (Q8 bx1_p j.2.b j.2.bad), (Zc bx2 x2c0.Of x2c0.Many wx2c1 wx2c2), .arrA wx2c1 42 2 (mA x2c1), .arrX wx2c2 59 4 0 (Hd (x2c2.map Qw) (Int.toNat x2c2c9) ((a 4).1 0) ((a 4).1 1)), .arrA ((a 4).1 0) 3 1 (mI x2c2c7), .arrA ((a 4).1 1) 61 1 (x2c2c8.map (cL 2 Qu))]⟩) (ms := [0, 0, 0, 4, 14, 30, 63, 127]) Q7 rfl (by kernel_rfl) (by kernel_rfl) (by kernel_rfl) (fun a => by kernel_rfl) (fun a => .nil _) (fun _ => rfl) (fun a u hu => (Xf hu ?_))
 exact Q6 (.nil) (.cons 1 rfl (.cons 1 rfl (.cons 1 rfl (.cons 1 rfl (.cons 1 rfl (.cons 1 rfl (.cons 1 rfl (.cons 1 rfl (.cons 1 rfl (.nil _)))))))))) (by cases h; exact ⟨gl [(a 6).1 0, wx2c1, (a 4).1 0, (a 4).1 1], rfl, rfl⟩)
abbrev Ou (bx0 bx2c0 : Nat) (bx2c1 bx2c2 : Nat) (wx2c2c2 : Value) (x2c2c0 : aSp) (x2c2c1 : List Zb) (x2c2c2 : List (Bool × aSt)) (x2c2c2c9 : Int) (x2c2c2c7 : List Int) (x2c2c2c8 : List (List aMv)) (r : tbr × (List aMv)) : ES := Jk tp Try.f31 (fun y t => ∃ γ : Nat → Value, y = (.tup []) ∧ t = [(Q8 bx0 r.1.b r.1.bad), (Mp bx2c0 (γ 0)), .arrA (γ 0) 63 2 (r.2.map Qu), (Zl bx2c1 bx0), (Zc bx2c2 x2c2c0.Of x2c2c0.Many (γ 1) wx2c2c2), .arrA (γ 1) 42 2 (mA x2c2c1), .arrX wx2c2c2 59 4 0 (Hd (x2c2c2.map Qw) (Int.toNat x2c2c2c9) (γ 2) (γ 3)), .arrA (γ 2) 3 1 (mI x2c2c2c7), .arrA (γ 3) 61 1 (x2c2c2c8.map (cL 2 Qu))])
abbrev Lk (bx0 bx2c0 : Nat) (bx2c1 bx2c2 : Nat) (wx2c2c2 : Value) (x2c2c0 : aSp) (x2c2c1 : List Zb) (x2c2c2 : List (Bool × aSt)) (x2c2c2c9 : Int) (x2c2c2c7 : List Int) (x2c2c2c8 : List (List aMv)) (r : tbr × (List aMv)) : ES := Qz 0 ((Ou bx0 bx2c0 bx2c1 bx2c2 wx2c2c2 x2c2c0 x2c2c1 x2c2c2 x2c2c2c9 x2c2c2c7 x2c2c2c8 r))
abbrev Db (bx0 bx2c0 : Nat) (bx2c1 bx2c2 : Nat) (wx2c2c2 : Value) (x2c2c0 : aSp) (x2c2c1 : List Zb) (x2c2c2 : List (Bool × aSt)) (x2c2c2c9 : Int) (x2c2c2c7 : List Int) (x2c2c2c8 : List (List aMv)) (r : tbr × (List aMv)) : ES := thenS (fun s' => TL tp 21 (ca [1,0,0] Try.f31) s' ((Lk bx0 bx2c0 bx2c1 bx2c2 wx2c2c2 x2c2c0 x2c2c1 x2c2c2 x2c2c2c9 x2c2c2c7 x2c2c2c8 r))) ((Lk bx0 bx2c0 bx2c1 bx2c2 wx2c2c2 x2c2c0 x2c2c1 x2c2c2 x2c2c2c9 x2c2c2c7 x2c2c2c8 r))
abbrev O8 (bx0 bx2c0 : Nat) (bx2c1 bx2c2 : Nat) (wx2c2c2 : Value) (x2c2c0 : aSp) (x2c2c1 : List Zb) (x2c2c2 : List (Bool × aSt)) (x2c2c2c9 : Int) (x2c2c2c7 : List Int) (x2c2c2c8 : List (List aMv)) (r : tbr × (List aMv)) : ES := thenS (fun s' => T tp 21 (ca [1,0,0,1] Try.f31) s' ((Db bx0 bx2c0 bx2c1 bx2c2 wx2c2c2 x2c2c0 x2c2c1 x2c2c2 x2c2c2c9 x2c2c2c7 x2c2c2c8 r))) ((Db bx0 bx2c0 bx2c1 bx2c2 wx2c2c2 x2c2c0 x2c2c1 x2c2c2 x2c2c2c9 x2c2c2c7 x2c2c2c8 r))
theorem Dc {r : tbr × (List aMv)} (K bx0 : Nat) (bx2c0 bx2c1 bx2c2 : Nat) (wx2c2c2 : Value) (x2c2c0 : aSp) (x2c2c1 : List Zb) (x2c2c2 : List (Bool × aSt)) (x2c2c2c9 : Int) (x2c2c2c7 : List Int) (x2c2c2c8 : List (List aMv)) (f : ByteArray) (g : Bool) (i : List aMv) (x2c2c0 : aSp) (x2c2c1 : List Zb) (x2c2c2 : List (Bool × aSt)) (x2c2c2c9 : Int) (x2c2c2c7 : List Int) (x2c2c2c8 : List (List aMv)) (a b : Value) (c w9003_1aa : Value) (h : Gm K f g i x2c2c0 x2c2c1 x2c2c2 x2c2c2c9 x2c2c2c7 x2c2c2c8 = some r) : T tp 21 (ca [1,0,0,0,1,1] Try.f31) ⟨[], [(Q8 bx0 f g), (Mp bx2c0 a), .arrA a 63 2 (i.map Qu), (Zl bx2c1 bx0), (Zc bx2c2 x2c2c0.Of x2c2c0.Many b wx2c2c2), .arrA b 42 2 (mA x2c2c1), .arrX wx2c2c2 59 4 0 (Hd (x2c2c2.map Qw) (Int.toNat x2c2c2c9) c w9003_1aa), .arrA c 3 1 (mI x2c2c2c7), .arrA w9003_1aa 61 1 (x2c2c2c8.map (cL 2 Qu))]⟩ (O8 bx0 bx2c0 bx2c1 bx2c2 wx2c2c2 x2c2c0 x2c2c1 x2c2c2 x2c2c2c9 x2c2c2c7 x2c2c2c8 r) := by
 unfold Gm at h
 refine T.exit (Qf (Qf (Qp ?_)))
 exact Q6 (.nil) (.cons 0 rfl (.cons 0 rfl (.cons 0 rfl (.cons 0 rfl (.cons 0 rfl (.cons 0 rfl (.cons 0 rfl (.cons 0 rfl (.cons 0 rfl (.nil _)))))))))) (by cases h; exact ⟨gl [a, b, c, w9003_1aa], rfl, rfl⟩)
theorem Sm {r : tbr × (List aMv)} (K bx0 : Nat) (bx2c0 bx2c1 bx2c2 : Nat) (wx2c2c2 : Value) (x2c2c0 : aSp) (x2c2c1 : List Zb) (x2c2c2 : List (Bool × aSt)) (x2c2c2c9 : Int) (x2c2c2c7 : List Int) (x2c2c2c8 : List (List aMv)) : ∀ (k : Nat), ∀ (x1 q : Int) (l : ByteArray) (m : Bool) (p : List aMv) (x2c2c0 : aSp) (x2c2c1 : List Zb) (x2c2c2 : List (Bool × aSt)) (x2c2c2c9 : Int) (x2c2c2c7 : List Int) (x2c2c2c8 : List (List aMv)) (g j : Value) (w2_0aa w2_0aaa : Value), Y8 K k x1 q l m p x2c2c0 x2c2c1 x2c2c2 x2c2c2c9 x2c2c2c7 x2c2c2c8 = some r → TL tp 21 (ca [1,0,0] Try.f31) ⟨[(0, .ptr bx0 0), (1, .int .i64 x1), (2, .c (.ex (.func (.func 38) #[] #[.pointer (some ⟨bx2c0, 0, none⟩), .pointer (some ⟨bx2c1, 0, none⟩), .pointer (some ⟨bx2c2, 0, none⟩)]))), (6, .int .i64 q)], [(Q8 bx0 l m), (Mp bx2c0 g), .arrA g 63 2 (p.map Qu), (Zl bx2c1 bx0), (Zc bx2c2 x2c2c0.Of x2c2c0.Many j wx2c2c2), .arrA j 42 2 (mA x2c2c1), .arrX wx2c2c2 59 4 0 (Hd (x2c2c2.map Qw) (Int.toNat x2c2c2c9) w2_0aa w2_0aaa), .arrA w2_0aa 3 1 (mI x2c2c2c7), .arrA w2_0aaa 61 1 (x2c2c2c8.map (cL 2 Qu))]⟩ (Lk bx0 bx2c0 bx2c1 bx2c2 wx2c2c2 x2c2c0 x2c2c1 x2c2c2 x2c2c2c9 x2c2c2c7 x2c2c2c8 r) := by
 intro k
 induction k with
 | zero =>
  intro x1 q l m p x2c2c0 x2c2c1 x2c2c2 x2c2c2c9 x2c2c2c7 x2c2c2c8 g j w2_0aa w2_0aaa h
  cases (show (none : Option (tbr × (List aMv))) = some r from h)
 | succ k ih =>
  intro x1 q l m p x2c2c0 x2c2c1 x2c2c2 x2c2c2c9 x2c2c2c7 x2c2c2c8 g j w2_0aa w2_0aaa h
  rw [Y8] at h
  refine Q4 ?_
  refine T.seq ?_
  refine T.seq (Qq ?_)
  refine mw rfl ?_
  refine mw rfl ?_
  refine sp rfl (Qa rfl rfl (dk rfl) rfl rfl ?_)
  refine mw rfl ?_
  rcases Qd h with ⟨a, h⟩ | ⟨a, h⟩
  refine sn rfl a (OpT.move rfl (dk rfl) rfl ?_)
  refine sn rfl a (OpT.nilCheck rfl (dk rfl) rfl rfl ?_)
  refine sn rfl a (Qg rfl (dk rfl) ul75 rfl i4 (by decide) rfl ?_)
  refine sn rfl a (Qm (i := 0) rfl (dk rfl) ul4 rfl rfl rfl rfl ?_)
  refine sn rfl a (OpT.not rfl (dk rfl) rfl ?_)
  refine sp rfl (Qi rfl (dk rfl) rfl a rfl ?_)
  refine TL'.nil (tN ?_)
  rcases Qd h with ⟨u, h⟩ | ⟨u, h⟩
  refine Qk rfl u ?_
  refine T.skip (tN ?_)
  refine T.seq ?_
  refine T.block ?_
  refine Qq ?_
  refine mw rfl ?_
  obtain ⟨v, w, h⟩ := bind_some h
  refine sp rfl (Fa (f := 38) (vs := [.pointer (some ⟨bx2c0, 0, none⟩), .pointer (some ⟨bx2c1, 0, none⟩), .pointer (some ⟨bx2c2, 0, none⟩)]) rfl rfl (dk rfl) Try.func38 rfl rfl (Q2 (is := [1, 2, 3, 0, 4, 5, 6, 7, 8]) (ph := []) rfl (dk rfl) Try.func38 rfl rfl (Q3.cons rfl (Q3.cons rfl (Q3.cons rfl Q3.nil))) (Qan K (bx0 := bx2c0) (wx0 := g) (bx1 := bx2c1) (bx1_p := bx0) (bx2 := bx2c2) (wx2c1 := j) (wx2c2 := wx2c2c2) (wx2c2c7 := w2_0aa) (wx2c2c8 := w2_0aaa) w) (.cons rfl rfl (.cons rfl rfl (.cons rfl rfl (.cons rfl rfl (.cons rfl rfl (.cons rfl rfl (.cons rfl rfl (.cons rfl rfl (.cons rfl rfl (.nil)))))))))) (fun _ => rfl) (fun s => ?_)))
  refine nm (.c (.c (.c (.c (.c (.c (.c (.c (.c (.n)))))))))) ?_
  refine TL'.nil (Qe (tN ?_))
  refine Qq ?_
  refine mw rfl ?_
  refine sp rfl (Qa rfl rfl (dk rfl) rfl rfl ?_)
  refine aw rfl ?_
  refine TL'.nil (tN ?_)
  refine Qb ?_ (ih x1 (wI (q + (1:Int))) v.2.b v.2.bad v.1 x2c2c0 x2c2c1 x2c2c2 x2c2c2c9 x2c2c2c7 x2c2c2c8 (s 0) (s 1) (s 2) (s 3) h)
  exact tq rfl rfl
  refine Qo rfl u ?_
  refine Qc ?_ (Dc K bx0 bx2c0 bx2c1 bx2c2 wx2c2c2 x2c2c0 x2c2c1 x2c2c2 x2c2c2c9 x2c2c2c7 x2c2c2c8 l m p x2c2c0 x2c2c1 x2c2c2 x2c2c2c9 x2c2c2c7 x2c2c2c8 g j w2_0aa w2_0aaa h)
  exact tq rfl rfl
  refine pf rfl a ?_
  refine pf rfl a ?_
  refine pf rfl a ?_
  refine pf rfl a ?_
  refine pf rfl a ?_
  refine sp rfl (Qs rfl (dk rfl) rfl a rfl ?_)
  refine TL'.nil (tN ?_)
  refine Qo rfl rfl ?_
  refine Qc ?_ (Dc K bx0 bx2c0 bx2c1 bx2c2 wx2c2c2 x2c2c0 x2c2c1 x2c2c2 x2c2c2c9 x2c2c2c7 x2c2c2c8 l m p x2c2c0 x2c2c1 x2c2c2 x2c2c2c9 x2c2c2c7 x2c2c2c8 g j w2_0aa w2_0aaa h)
  exact tq rfl rfl
theorem tbr_times_i4_T (K : Nat) {x0 : tbr} {x1 : Int} {x2c0 : List aMv} {x2c2c0 : aSp} {x2c2c1 : List Zb} {x2c2c2 : List (Bool × aSt)} {x2c2c2c9 : Int} {x2c2c2c7 : List Int} {x2c2c2c8 : List (List aMv)} {bx0 bx2c0 : Nat} {wx2c0 : Value} {bx2c1 bx2c2 : Nat} {wx2c2c1 wx2c2c2 : Value} {wx2c2c2c7 wx2c2c2c8 : Value} {r : tbr × (List aMv)} (h : Kj K x0 x1 x2c0 x2c2c0 x2c2c1 x2c2c2 x2c2c2c9 x2c2c2c7 x2c2c2c8 = some r) : Uz tp 31 [.ptr bx0 0, .int .i64 x1, .c (.ex (.func (.func 38) #[] #[.pointer (some ⟨bx2c0, 0, none⟩), .pointer (some ⟨bx2c1, 0, none⟩), .pointer (some ⟨bx2c2, 0, none⟩)]))] [(Q8 bx0 x0.b x0.bad), (Mp bx2c0 wx2c0), .arrA wx2c0 63 2 (x2c0.map Qu), (Zl bx2c1 bx0), (Zc bx2c2 x2c2c0.Of x2c2c0.Many wx2c2c1 wx2c2c2), .arrA wx2c2c1 42 2 (mA x2c2c1), .arrX wx2c2c2 59 4 0 (Hd (x2c2c2.map Qw) (Int.toNat x2c2c2c9) wx2c2c2c7 wx2c2c2c8), .arrA wx2c2c2c7 3 1 (mI x2c2c2c7), .arrA wx2c2c2c8 61 1 (x2c2c2c8.map (cL 2 Qu))] (fun γ => (.tup [])) (fun γ => [(Q8 bx0 r.1.b r.1.bad), (Mp bx2c0 (γ 0)), .arrA (γ 0) 63 2 (r.2.map Qu), (Zl bx2c1 bx0), (Zc bx2c2 x2c2c0.Of x2c2c0.Many (γ 1) wx2c2c2), .arrA (γ 1) 42 2 (mA x2c2c1), .arrX wx2c2c2 59 4 0 (Hd (x2c2c2.map Qw) (Int.toNat x2c2c2c9) (γ 2) (γ 3)), .arrA (γ 2) 3 1 (mI x2c2c2c7), .arrA (γ 3) 61 1 (x2c2c2c8.map (cL 2 Qu))]) := by
 refine Qt Try.func31 rfl (nb rfl) ?_
 show T tp 21 (ca [] Try.f31) ⟨Qv 0 [.ptr bx0 0, .int .i64 x1, .c (.ex (.func (.func 38) #[] #[.pointer (some ⟨bx2c0, 0, none⟩), .pointer (some ⟨bx2c1, 0, none⟩), .pointer (some ⟨bx2c2, 0, none⟩)]))], [(Q8 bx0 x0.b x0.bad), (Mp bx2c0 wx2c0), .arrA wx2c0 63 2 (x2c0.map Qu), (Zl bx2c1 bx0), (Zc bx2c2 x2c2c0.Of x2c2c0.Many wx2c2c1 wx2c2c2), .arrA wx2c2c1 42 2 (mA x2c2c1), .arrX wx2c2c2 59 4 0 (Hd (x2c2c2.map Qw) (Int.toNat x2c2c2c9) wx2c2c2c7 wx2c2c2c8), .arrA wx2c2c2c7 3 1 (mI x2c2c2c7), .arrA wx2c2c2c8 61 1 (x2c2c2c8.map (cL 2 Qu))]⟩ (Ou bx0 bx2c0 bx2c1 bx2c2 wx2c2c2 x2c2c0 x2c2c1 x2c2c2 x2c2c2c9 x2c2c2c7 x2c2c2c8 r)
 unfold Kj at h
 refine T.seq (Qq ?_)
 refine aw rfl ?_
 refine TL'.nil (tN ?_)
 refine T.block ?_
 refine T.loop ?_
 refine Qb ?_ (Sm K bx0 bx2c0 bx2c1 bx2c2 wx2c2c2 x2c2c0 x2c2c1 x2c2c2 x2c2c2c9 x2c2c2c7 x2c2c2c8 K x1 (0:Int) x0.b x0.bad x2c0 x2c2c0 x2c2c1 x2c2c2 x2c2c2c9 x2c2c2c7 x2c2c2c8 wx2c0 wx2c2c1 wx2c2c2c7 wx2c2c2c8 h)
 exact tq rfl rfl
abbrev tb_Decode_3_q (bx0 : Nat) (wx0_p : Value) (bx1 bx1_p bx2 : Nat) (x0_p : List (Bool × aSt)) (x0_pc9 : Int) (x2c0 : aSp) (x2c1 : List Zb) (r : (List Int) × (List (List aMv)) × tbr) : ES := Jk tp Try.f37 (fun y t => ∃ γ : Nat → Value, y = (.tup []) ∧ t = [(Ge bx0 (elP wx0_p 4 (Int.toNat x0_pc9) 0)), .arrX wx0_p 59 4 0 (Hd (x0_p.map Qw) (Int.toNat x0_pc9) (γ 0) (γ 1)), .arrA (γ 0) 3 1 (mI r.1), .arrA (γ 1) 61 1 (r.2.1.map (cL 2 Qu)), (Zl bx1 bx1_p), (Q8 bx1_p r.2.2.b r.2.2.bad), (Zc bx2 x2c0.Of x2c0.Many (γ 2) wx0_p), .arrA (γ 2) 42 2 (mA x2c1)])
theorem tb_Decode_3_T (K : Nat) {x0_p : List (Bool × aSt)} {x0_pc9 : Int} {x0_pc7 : List Int} {x0_pc8 : List (List aMv)} {x1_p : tbr} {x2c0 : aSp} {x2c1 : List Zb} {bx0 : Nat} {wx0_p wx0_pc7 wx0_pc8 : Value} {bx1 bx1_p bx2 : Nat} {wx2c1 : Value} {r : (List Int) × (List (List aMv)) × tbr} (h : M5 K x0_p x0_pc9 x0_pc7 x0_pc8 x1_p x2c0 x2c1 = some r) : Uz tp 37 [.ptr bx0 0, .ptr bx1 0, .ptr bx2 0] [(Ge bx0 (elP wx0_p 4 (Int.toNat x0_pc9) 0)), .arrX wx0_p 59 4 0 (Hd (x0_p.map Qw) (Int.toNat x0_pc9) wx0_pc7 wx0_pc8), .arrA wx0_pc7 3 1 (mI x0_pc7), .arrA wx0_pc8 61 1 (x0_pc8.map (cL 2 Qu)), (Zl bx1 bx1_p), (Q8 bx1_p x1_p.b x1_p.bad), (Zc bx2 x2c0.Of x2c0.Many wx2c1 wx0_p), .arrA wx2c1 42 2 (mA x2c1)] (fun γ => (.tup [])) (fun γ => [(Ge bx0 (elP wx0_p 4 (Int.toNat x0_pc9) 0)), .arrX wx0_p 59 4 0 (Hd (x0_p.map Qw) (Int.toNat x0_pc9) (γ 0) (γ 1)), .arrA (γ 0) 3 1 (mI r.1), .arrA (γ 1) 61 1 (r.2.1.map (cL 2 Qu)), (Zl bx1 bx1_p), (Q8 bx1_p r.2.2.b r.2.2.bad), (Zc bx2 x2c0.Of x2c0.Many (γ 2) wx0_p), .arrA (γ 2) 42 2 (mA x2c1)]) := by
 refine Qt Try.func37 rfl (nb rfl) ?_
 show T tp 32 (ca [] Try.f37) ⟨Qv 0 [.ptr bx0 0, .ptr bx1 0, .ptr bx2 0], [(Ge bx0 (elP wx0_p 4 (Int.toNat x0_pc9) 0)), .arrX wx0_p 59 4 0 (Hd (x0_p.map Qw) (Int.toNat x0_pc9) wx0_pc7 wx0_pc8), .arrA wx0_pc7 3 1 (mI x0_pc7), .arrA wx0_pc8 61 1 (x0_pc8.map (cL 2 Qu)), (Zl bx1 bx1_p), (Q8 bx1_p x1_p.b x1_p.bad), (Zc bx2 x2c0.Of x2c0.Many wx2c1 wx0_p), .arrA wx2c1 42 2 (mA x2c1)]⟩ (tb_Decode_3_q bx0 wx0_p bx1 bx1_p bx2 x0_p x0_pc9 x2c0 x2c1 r)
 unfold M5 at h
 refine T.seq ?_
 refine Qc Zs ?_
 refine Y3 ?_
 obtain ⟨v, q, h⟩ := bind_some h
 refine dC (c := ⟨some 4, .el wx0_p 4 (Int.toNat x0_pc9) 0, [(0, .ptr bx0 0)], [(1, (Ge bx0 (elP wx0_p 4 (Int.toNat x0_pc9) 0))), (2, .arrX wx0_p 59 4 0 (Hd (x0_p.map Qw) (Int.toNat x0_pc9) wx0_pc7 wx0_pc8))], []⟩) (fun t hm => oF rfl rfl (Zm (Qm (i := 1) rfl (dk rfl) ul81 rfl hm.s0 hm.o0 rfl rfl) (Ea 4 2 hm.o1 (Qba (Z0 q).2)) ⟨u0, rfl⟩)) (fun _ => rfl) (fun _ => rfl) ?_
 refine dC (c := ⟨some 5, .el wx0_p 4 (Int.toNat x0_pc9) 0, [(0, .ptr bx0 0)], [(1, (Ge bx0 (elP wx0_p 4 (Int.toNat x0_pc9) 0))), (2, .arrX wx0_p 59 4 0 (Hd (x0_p.map Qw) (Int.toNat x0_pc9) wx0_pc7 wx0_pc8))], []⟩) (fun t hm => oF rfl rfl (Zm (Qm (i := 1) rfl (dk rfl) ul81 rfl hm.s0 hm.o0 rfl rfl) (Ea 5 2 hm.o1 (Qba (Z0 q).2)) ⟨u0, rfl⟩)) (fun _ => rfl) (fun _ => rfl) ?_
 refine dC (c := ⟨some 6, .el wx0_p 4 (Int.toNat x0_pc9) 0, [(5, .el wx0_p 4 (Int.toNat x0_pc9) 0)], [], []⟩) (fun t hm => oF rfl rfl (Hn rfl (dk rfl) hm.s0 ⟨u0, rfl⟩)) (fun _ => rfl) (fun _ => rfl) ?_
 refine dC (c := ⟨some 7, .el wx0_p 4 (Int.toNat x0_pc9) 2, [(6, .el wx0_p 4 (Int.toNat x0_pc9) 0)], [], []⟩) (fun t hm => oF rfl rfl (Ua rfl (dk rfl) Vm rfl i56 (by decide) hm.s0 ⟨u0, rfl⟩)) (fun _ => rfl) (fun _ => rfl) ?_
 refine dC (c := ⟨some 8, .c (.ex wx0_pc7), [(7, .el wx0_p 4 (Int.toNat x0_pc9) 2)], [(2, .arrX wx0_p 59 4 0 (Hd (x0_p.map Qw) (Int.toNat x0_pc9) wx0_pc7 wx0_pc8))], []⟩) (fun t hm => oF rfl rfl (OpT.loadHA (i := 2) (xs := x0_p) (f := Qw) (old := v) rfl (dk rfl) Yd rfl hm.s0 hm.o0 (Z0 q).2 rfl ⟨u0, rfl⟩)) (fun _ => rfl) (fun _ => rfl) ?_
 refine dC (c := ⟨some 9, .ptr bx1_p 0, [(1, .ptr bx1 0)], [(5, (Zl bx1 bx1_p))], []⟩) (fun t hm => oF rfl rfl (Qm (i := 5) rfl (dk rfl) ul73 rfl hm.s0 hm.o0 rfl ⟨u0, rfl⟩)) (fun _ => rfl) (fun _ => rfl) ?_
 obtain ⟨m, y, h⟩ := bind_some h
 refine dC (c := ⟨some 10, .int .i64 m.1, [(9, .ptr bx1_p 0)], [(6, (Q8 bx1_p x1_p.b x1_p.bad))], [(6, (Q8 bx1_p m.2.b m.2.bad))]⟩) (fun t hm => oF rfl rfl (Q2 (is := [6]) (ph := []) rfl (dk rfl) Try.func32 rfl rfl (Q3.cons hm.s0 Q3.nil) (Kl K (bx0 := bx1_p) y) (.cons hm.o0 rfl (.nil)) (fun _ => rfl) (fun g => ⟨(g, 0), rfl⟩))) (fun _ => rfl) (fun _ => rfl) ?_
 refine dC (c := ⟨some 11, .int .i64 (wI (m.1 - (1:Int))), [(10, .int .i64 m.1)], [], []⟩) (fun t hm => oF rfl rfl (Qa rfl rfl (dk rfl) hm.s0 rfl ⟨u0, rfl⟩)) (fun _ => rfl) (fun _ => rfl) ?_
 refine dC (c := ⟨some 12, .sl true 1 ([(wI (m.1 - (1:Int)))].map (cI .i64)), [(11, .int .i64 (wI (m.1 - (1:Int))))], [], []⟩) (fun t hm => oF rfl rfl (OpT.buildSlice (elems := ([(wI (m.1 - (1:Int)))] : List Int).map (cI .i64)) rfl (dk rfl) Yd i3 (by decide) rfl (J6 rfl) (Xm hm.s0 rfl V6) rfl rfl (Yp rfl) (by decide) ⟨u0, rfl⟩)) (fun _ => rfl) (fun _ => rfl) ?_
 obtain ⟨z, h⟩ := Zh h
 refine DGG.step (c := fun a => ⟨some 13, .c (.ex ((a 9).1 0)), [(12, .sl true 1 ([(wI (m.1 - (1:Int)))].map (cI .i64))), (8, .c (.ex wx0_pc7))], [(3, .arrA wx0_pc7 3 1 (mI x0_pc7))], [(3, .arrA ((a 9).1 0) 3 1 ((x0_pc7 ++ [(wI (m.1 - (1:Int)))]).map (cI .i64)))]⟩) [9] (fun a γ' h => by simp only [h 9 (by decide)]) (fun a t hm => oF rfl rfl (Za (i := 3) (xs := x0_pc7) (ys := [(wI (m.1 - (1:Int)))]) (f := (cI .i64)) rfl (dk rfl) Yd i3 rfl hm.s1 hm.o0 hm.s0 z (fun w => ⟨(fun _ => w, 0), rfl⟩))) (fun a => Zq rfl rfl) ?_
 refine dC (c := ⟨some 14, .el wx0_p 4 (Int.toNat x0_pc9) 0, [(4, .el wx0_p 4 (Int.toNat x0_pc9) 0)], [], []⟩) (fun t hm => oF rfl rfl (Hn rfl (dk rfl) hm.s0 ⟨u0, rfl⟩)) (fun _ => rfl) (fun _ => rfl) ?_
 refine dC (c := ⟨some 15, .el wx0_p 4 (Int.toNat x0_pc9) 2, [(14, .el wx0_p 4 (Int.toNat x0_pc9) 0)], [], []⟩) (fun t hm => oF rfl rfl (Ua rfl (dk rfl) Vm rfl i56 (by decide) hm.s0 ⟨u0, rfl⟩)) (fun _ => rfl) (fun _ => rfl) ?_
 refine DGG.step (c := fun a => ⟨none, .any, [(15, .el wx0_p 4 (Int.toNat x0_pc9) 2), (13, .c (.ex ((a 9).1 0)))], [(2, .arrX wx0_p 59 4 0 (Hd (x0_p.map Qw) (Int.toNat x0_pc9) wx0_pc7 wx0_pc8))], [(2, .arrX wx0_p 59 4 0 (Hd (x0_p.map Qw) (Int.toNat x0_pc9) ((a 9).1 0) wx0_pc8))]⟩) [9] (fun a γ' h => by simp only [h 9 (by decide)]) (fun a t hm => oF rfl rfl (OpT.storeHA (i := 2) (xs := x0_p) (f := Qw) (old := v) rfl rfl i56 hm.s0 hm.s1 hm.o0 (Z0 q).2 (Nat.zero_le _) rfl ⟨u0, rfl⟩)) (fun a => Zq rfl rfl) ?_
 refine Vi (s1 := fun a => ⟨[(0, .ptr bx0 0), (1, .ptr bx1 0), (2, .ptr bx2 0)], [.ro 0 [], (Ge bx0 (elP wx0_p 4 (Int.toNat x0_pc9) 0)), .arrX wx0_p 59 4 0 (Hd (x0_p.map Qw) (Int.toNat x0_pc9) ((a 9).1 0) wx0_pc8), .arrA ((a 9).1 0) 3 1 ((x0_pc7 ++ [(wI (m.1 - (1:Int)))]).map (cI .i64)), .arrA wx0_pc8 61 1 (x0_pc8.map (cL 2 Qu)), (Zl bx1 bx1_p), (Q8 bx1_p m.2.b m.2.bad), (Zc bx2 x2c0.Of x2c0.Many wx2c1 wx0_p), .arrA wx2c1 42 2 (mA x2c1)]⟩) (ms := [0, 0, 2, 6, 14, 0, 32, 96, 224, 510, 1023, 2047, 4095]) Q7 rfl (by kernel_rfl) (by kernel_rfl) (by kernel_rfl) (fun a => by kernel_rfl) (fun a => sf rfl) (fun _ => rfl) (fun a u hu => (tN (Qc hu ?_)))
 refine T.seq (Qq ?_)
 refine sp rfl (Zi rfl (dk rfl) i61 rfl (fun s => ?_))
 refine TL'.nil (tN (T.seq (Qq ?_)))
 refine sp rfl (Qm (i := 6) rfl (dk rfl) ul73 rfl rfl rfl rfl ?_)
 refine sp rfl (Qg rfl (dk rfl) Xe rfl i24 (by decide) rfl ?_)
 refine sp rfl (Qg rfl (dk rfl) Ig rfl i3 (by decide) rfl ?_)
 refine sp rfl (Qm (i := 8) rfl (dk rfl) ul3 rfl rfl rfl rfl ?_)
 refine sp rfl (OpT.makeFunc (vs := [.pointer (some ⟨s, 0, none⟩), .pointer (some ⟨bx1, 0, none⟩), .pointer (some ⟨bx2, 0, none⟩)]) rfl (dk rfl) rfl ?_)
 refine Y7 (Yc 63 2) ?_
 obtain ⟨p, aa, h⟩ := bind_some h
 refine sp rfl (Q2 (is := [8, 1, 0, 7, 9, 10, 4, 5, 6]) (ph := []) rfl (dk rfl) Try.func31 rfl rfl (Q3.cons rfl (Q3.cons rfl (Q3.cons rfl Q3.nil))) (tbr_times_i4_T K (bx0 := bx1_p) (bx2c0 := s) (wx2c0 := (Mn 4)) (bx2c1 := bx1) (bx2c2 := bx2) (wx2c2c1 := wx2c1) (wx2c2c2 := wx0_p) (wx2c2c2c7 := ((a 9).1 0)) (wx2c2c2c8 := wx0_pc8) aa) (.cons rfl rfl (.cons rfl rfl (.cons rfl rfl (.cons rfl rfl (.cons rfl rfl (.cons rfl rfl (.cons rfl rfl (.cons rfl rfl (.cons rfl rfl (.nil)))))))))) (fun _ => rfl) (fun l => ?_))
 refine nm (.c (.c (.c (.c (.c (.c (.c (.c (.c (.c (.c (.n)))))))))))) ?_
 refine TL'.nil (tN ?_)
 refine Qc Zs ?_
 refine Y3 ?_
 refine dC (c := ⟨some 22, .el wx0_p 4 (Int.toNat x0_pc9) 0, [(0, .ptr bx0 0)], [(4, (Ge bx0 (elP wx0_p 4 (Int.toNat x0_pc9) 0))), (5, .arrX wx0_p 59 4 0 (Hd (x0_p.map Qw) (Int.toNat x0_pc9) (l 2) (l 3)))], []⟩) (fun t hm => oF rfl rfl (Zm (Qm (i := 4) rfl (dk rfl) ul81 rfl hm.s0 hm.o0 rfl rfl) (Ea 22 5 hm.o1 (Qba (Z0 q).2)) ⟨u0, rfl⟩)) (fun _ => rfl) (fun _ => rfl) ?_
 refine dC (c := ⟨some 23, .el wx0_p 4 (Int.toNat x0_pc9) 0, [(0, .ptr bx0 0)], [(4, (Ge bx0 (elP wx0_p 4 (Int.toNat x0_pc9) 0))), (5, .arrX wx0_p 59 4 0 (Hd (x0_p.map Qw) (Int.toNat x0_pc9) (l 2) (l 3)))], []⟩) (fun t hm => oF rfl rfl (Zm (Qm (i := 4) rfl (dk rfl) ul81 rfl hm.s0 hm.o0 rfl rfl) (Ea 23 5 hm.o1 (Qba (Z0 q).2)) ⟨u0, rfl⟩)) (fun _ => rfl) (fun _ => rfl) ?_
 refine dC (c := ⟨some 24, .el wx0_p 4 (Int.toNat x0_pc9) 0, [(23, .el wx0_p 4 (Int.toNat x0_pc9) 0)], [], []⟩) (fun t hm => oF rfl rfl (Hn rfl (dk rfl) hm.s0 ⟨u0, rfl⟩)) (fun _ => rfl) (fun _ => rfl) ?_
 refine dC (c := ⟨some 25, .el wx0_p 4 (Int.toNat x0_pc9) 3, [(24, .el wx0_p 4 (Int.toNat x0_pc9) 0)], [], []⟩) (fun t hm => oF rfl rfl (Ua rfl (dk rfl) Vm rfl i57 (by decide) hm.s0 ⟨u0, rfl⟩)) (fun _ => rfl) (fun _ => rfl) ?_
 refine dC (c := ⟨some 26, .c (.ex (l 3)), [(25, .el wx0_p 4 (Int.toNat x0_pc9) 3)], [(5, .arrX wx0_p 59 4 0 (Hd (x0_p.map Qw) (Int.toNat x0_pc9) (l 2) (l 3)))], []⟩) (fun t hm => oF rfl rfl (OpT.loadHB (i := 5) (xs := x0_p) (f := Qw) (old := v) rfl (dk rfl) B0 rfl hm.s0 hm.o0 (Z0 q).2 rfl ⟨u0, rfl⟩)) (fun _ => rfl) (fun _ => rfl) ?_
 refine dC (c := ⟨some 27, .sl false 2 (p.2.map Qu), [(3, .ptr s 0)], [(2, (Mp s (l 0))), (1, .arrA (l 0) 63 2 (p.2.map Qu))], []⟩) (fun t hm => oF rfl rfl (Zm (Qm (i := 2) rfl (dk rfl) Fq rfl hm.s0 hm.o0 rfl rfl) (Ke 27 1 hm.o1) ⟨u0, rfl⟩)) (fun _ => rfl) (fun _ => rfl) ?_
 refine dC (c := ⟨some 28, .sl true 1 ([p.2].map (cL 2 Qu)), [(27, .sl false 2 (p.2.map Qu))], [], []⟩) (fun t hm => oF rfl rfl (OpT.buildSlice (elems := ([p.2] : List (List aMv)).map (cL 2 Qu)) rfl (dk rfl) B0 i61 (by decide) rfl (J6 rfl) (Xm hm.s0 rfl V6) rfl rfl (Yp rfl) (by decide) ⟨u0, rfl⟩)) (fun _ => rfl) (fun _ => rfl) ?_
 obtain ⟨ab, h⟩ := Zh h
 refine DGG.step (c := fun j => ⟨some 29, .c (.ex ((j 7).1 0)), [(28, .sl true 1 ([p.2].map (cL 2 Qu))), (26, .c (.ex (l 3)))], [(7, .arrA (l 3) 61 1 (x0_pc8.map (cL 2 Qu)))], [(7, .arrA ((j 7).1 0) 61 1 ((x0_pc8 ++ [p.2]).map (cL 2 Qu)))]⟩) [7] (fun j γ' h => by simp only [h 7 (by decide)]) (fun j t hm => oF rfl rfl (Za (i := 7) (xs := x0_pc8) (ys := [p.2]) (f := (cL 2 Qu)) rfl (dk rfl) B0 i61 rfl hm.s1 hm.o0 hm.s0 ab (fun w => ⟨(fun _ => w, 0), rfl⟩))) (fun j => Zq rfl rfl) ?_
 refine dC (c := ⟨some 30, .el wx0_p 4 (Int.toNat x0_pc9) 0, [(22, .el wx0_p 4 (Int.toNat x0_pc9) 0)], [], []⟩) (fun t hm => oF rfl rfl (Hn rfl (dk rfl) hm.s0 ⟨u0, rfl⟩)) (fun _ => rfl) (fun _ => rfl) ?_
 refine dC (c := ⟨some 31, .el wx0_p 4 (Int.toNat x0_pc9) 3, [(30, .el wx0_p 4 (Int.toNat x0_pc9) 0)], [], []⟩) (fun t hm => oF rfl rfl (Ua rfl (dk rfl) Vm rfl i57 (by decide) hm.s0 ⟨u0, rfl⟩)) (fun _ => rfl) (fun _ => rfl) ?_
 refine DGG.step (c := fun j => ⟨none, .any, [(31, .el wx0_p 4 (Int.toNat x0_pc9) 3), (29, .c (.ex ((j 7).1 0)))], [(5, .arrX wx0_p 59 4 0 (Hd (x0_p.map Qw) (Int.toNat x0_pc9) (l 2) (l 3)))], [(5, .arrX wx0_p 59 4 0 (Hd (x0_p.map Qw) (Int.toNat x0_pc9) (l 2) ((j 7).1 0)))]⟩) [7] (fun j γ' h => by simp only [h 7 (by decide)]) (fun j t hm => oF rfl rfl (OpT.storeHB (i := 5) (xs := x0_p) (f := Qw) (old := v) rfl rfl i57 hm.s0 hm.s1 hm.o0 (Z0 q).2 (Nat.zero_le _) rfl ⟨u0, rfl⟩)) (fun j => Zq rfl rfl) ?_
 refine Vi (s1 := fun j => ⟨[], [.ro 0 [], .arrA (l 0) 63 2 (p.2.map Qu), (Mp s (l 0)), .ro 0 [], (Ge bx0 (elP wx0_p 4 (Int.toNat x0_pc9) 0)), .arrX wx0_p 59 4 0 (Hd (x0_p.map Qw) (Int.toNat x0_pc9) (l 2) ((j 7).1 0)), .arrA (l 2) 3 1 ((x0_pc7 ++ [(wI (m.1 - (1:Int)))]).map (cI .i64)), .arrA ((j 7).1 0) 61 1 ((x0_pc8 ++ [p.2]).map (cL 2 Qu)), (Zl bx1 bx1_p), (Q8 bx1_p p.1.b p.1.bad), (Zc bx2 x2c0.Of x2c0.Many (l 1) wx0_p), .arrA (l 1) 42 2 (mA x2c1)]⟩) (ms := [0, 0, 2, 6, 14, 0, 32, 126, 255, 511, 1023]) Q7 rfl (by kernel_rfl) (by kernel_rfl) (by kernel_rfl) (fun j => by kernel_rfl) (fun j => .nil _) (fun _ => rfl) (fun j u hu => (Xf hu ?_))
 exact Q6 (.nil) (.cons 4 rfl (.cons 4 rfl (.cons 4 rfl (.cons 4 rfl (.cons 4 rfl (.cons 4 rfl (.cons 4 rfl (.cons 4 rfl (.nil _))))))))) (by cases h; exact ⟨gl [l 2, (j 7).1 0, l 1], rfl, rfl⟩)
abbrev Ov (bx0 bx2c0 : Nat) (wx2c0_p : Value) (bx2c1 bx2c2 : Nat) (x2c0_p : List (Bool × aSt)) (x2c0_pc9 : Int) (x2c2c0 : aSp) (x2c2c1 : List Zb) (r : tbr × (List Int) × (List (List aMv))) : ES := Jk tp Try.f31 (fun y t => ∃ γ : Nat → Value, y = (.tup []) ∧ t = [(Q8 bx0 r.1.b r.1.bad), (Ge bx2c0 (elP wx2c0_p 4 (Int.toNat x2c0_pc9) 0)), .arrX wx2c0_p 59 4 0 (Hd (x2c0_p.map Qw) (Int.toNat x2c0_pc9) (γ 0) (γ 1)), .arrA (γ 0) 3 1 (mI r.2.1), .arrA (γ 1) 61 1 (r.2.2.map (cL 2 Qu)), (Zl bx2c1 bx0), (Zc bx2c2 x2c2c0.Of x2c2c0.Many (γ 2) wx2c0_p), .arrA (γ 2) 42 2 (mA x2c2c1)])
abbrev Ll (bx0 bx2c0 : Nat) (wx2c0_p : Value) (bx2c1 bx2c2 : Nat) (x2c0_p : List (Bool × aSt)) (x2c0_pc9 : Int) (x2c2c0 : aSp) (x2c2c1 : List Zb) (r : tbr × (List Int) × (List (List aMv))) : ES := Qz 0 ((Ov bx0 bx2c0 wx2c0_p bx2c1 bx2c2 x2c0_p x2c0_pc9 x2c2c0 x2c2c1 r))
abbrev Dd (bx0 bx2c0 : Nat) (wx2c0_p : Value) (bx2c1 bx2c2 : Nat) (x2c0_p : List (Bool × aSt)) (x2c0_pc9 : Int) (x2c2c0 : aSp) (x2c2c1 : List Zb) (r : tbr × (List Int) × (List (List aMv))) : ES := thenS (fun s' => TL tp 21 (ca [1,0,0] Try.f31) s' ((Ll bx0 bx2c0 wx2c0_p bx2c1 bx2c2 x2c0_p x2c0_pc9 x2c2c0 x2c2c1 r))) ((Ll bx0 bx2c0 wx2c0_p bx2c1 bx2c2 x2c0_p x2c0_pc9 x2c2c0 x2c2c1 r))
abbrev O9 (bx0 bx2c0 : Nat) (wx2c0_p : Value) (bx2c1 bx2c2 : Nat) (x2c0_p : List (Bool × aSt)) (x2c0_pc9 : Int) (x2c2c0 : aSp) (x2c2c1 : List Zb) (r : tbr × (List Int) × (List (List aMv))) : ES := thenS (fun s' => T tp 21 (ca [1,0,0,1] Try.f31) s' ((Dd bx0 bx2c0 wx2c0_p bx2c1 bx2c2 x2c0_p x2c0_pc9 x2c2c0 x2c2c1 r))) ((Dd bx0 bx2c0 wx2c0_p bx2c1 bx2c2 x2c0_p x2c0_pc9 x2c2c0 x2c2c1 r))
theorem De {r : tbr × (List Int) × (List (List aMv))} (K bx0 bx2c0 : Nat) (wx2c0_p : Value) (bx2c1 bx2c2 : Nat) (x2c0_p : List (Bool × aSt)) (x2c0_pc9 : Int) (x2c2c0 : aSp) (x2c2c1 : List Zb) (f : ByteArray) (g : Bool) (x2c0_pc9 : Int) (x2c0_p : List (Bool × aSt)) (i : List Int) (j : List (List aMv)) (x2c2c0 : aSp) (x2c2c1 : List Zb) (a b c : Value) (h : Gn K f g x2c0_pc9 x2c0_p i j x2c2c0 x2c2c1 = some r) : T tp 21 (ca [1,0,0,0,1,1] Try.f31) ⟨[], [(Q8 bx0 f g), (Ge bx2c0 (elP wx2c0_p 4 (Int.toNat x2c0_pc9) 0)), .arrX wx2c0_p 59 4 0 (Hd (x2c0_p.map Qw) (Int.toNat x2c0_pc9) a b), .arrA a 3 1 (mI i), .arrA b 61 1 (j.map (cL 2 Qu)), (Zl bx2c1 bx0), (Zc bx2c2 x2c2c0.Of x2c2c0.Many c wx2c0_p), .arrA c 42 2 (mA x2c2c1)]⟩ (O9 bx0 bx2c0 wx2c0_p bx2c1 bx2c2 x2c0_p x2c0_pc9 x2c2c0 x2c2c1 r) := by
 unfold Gn at h
 refine T.exit (Qf (Qf (Qp ?_)))
 exact Q6 (.nil) (.cons 0 rfl (.cons 0 rfl (.cons 0 rfl (.cons 0 rfl (.cons 0 rfl (.cons 0 rfl (.cons 0 rfl (.cons 0 rfl (.nil _))))))))) (by cases h; exact ⟨gl [a, b, c], rfl, rfl⟩)
theorem Sn {r : tbr × (List Int) × (List (List aMv))} (K bx0 bx2c0 : Nat) (wx2c0_p : Value) (bx2c1 bx2c2 : Nat) (x2c0_p : List (Bool × aSt)) (x2c0_pc9 : Int) (x2c2c0 : aSp) (x2c2c1 : List Zb) : ∀ (k : Nat), ∀ (x1 s : Int) (l : ByteArray) (m : Bool) (x2c0_pc9 : Int) (x2c0_p : List (Bool × aSt)) (p : List Int) (q : List (List aMv)) (x2c2c0 : aSp) (x2c2c1 : List Zb) (g j w2_0aa : Value), Y9 K k x1 s l m x2c0_pc9 x2c0_p p q x2c2c0 x2c2c1 = some r → TL tp 21 (ca [1,0,0] Try.f31) ⟨[(0, .ptr bx0 0), (1, .int .i64 x1), (2, .c (.ex (.func (.func 37) #[] #[.pointer (some ⟨bx2c0, 0, none⟩), .pointer (some ⟨bx2c1, 0, none⟩), .pointer (some ⟨bx2c2, 0, none⟩)]))), (6, .int .i64 s)], [(Q8 bx0 l m), (Ge bx2c0 (elP wx2c0_p 4 (Int.toNat x2c0_pc9) 0)), .arrX wx2c0_p 59 4 0 (Hd (x2c0_p.map Qw) (Int.toNat x2c0_pc9) g j), .arrA g 3 1 (mI p), .arrA j 61 1 (q.map (cL 2 Qu)), (Zl bx2c1 bx0), (Zc bx2c2 x2c2c0.Of x2c2c0.Many w2_0aa wx2c0_p), .arrA w2_0aa 42 2 (mA x2c2c1)]⟩ (Ll bx0 bx2c0 wx2c0_p bx2c1 bx2c2 x2c0_p x2c0_pc9 x2c2c0 x2c2c1 r) := by
 intro k
 induction k with
 | zero =>
  intro x1 s l m x2c0_pc9 x2c0_p p q x2c2c0 x2c2c1 g j w2_0aa h
  cases (show (none : Option (tbr × (List Int) × (List (List aMv)))) = some r from h)
 | succ k ih =>
  intro x1 s l m x2c0_pc9 x2c0_p p q x2c2c0 x2c2c1 g j w2_0aa h
  rw [Y9] at h
  refine Q4 ?_
  refine T.seq ?_
  refine T.seq (Qq ?_)
  refine mw rfl ?_
  refine mw rfl ?_
  refine sp rfl (Qa rfl rfl (dk rfl) rfl rfl ?_)
  refine mw rfl ?_
  rcases Qd h with ⟨a, h⟩ | ⟨a, h⟩
  refine sn rfl a (OpT.move rfl (dk rfl) rfl ?_)
  refine sn rfl a (OpT.nilCheck rfl (dk rfl) rfl rfl ?_)
  refine sn rfl a (Qg rfl (dk rfl) ul75 rfl i4 (by decide) rfl ?_)
  refine sn rfl a (Qm (i := 0) rfl (dk rfl) ul4 rfl rfl rfl rfl ?_)
  refine sn rfl a (OpT.not rfl (dk rfl) rfl ?_)
  refine sp rfl (Qi rfl (dk rfl) rfl a rfl ?_)
  refine TL'.nil (tN ?_)
  rcases Qd h with ⟨v, h⟩ | ⟨v, h⟩
  refine Qk rfl v ?_
  refine T.skip (tN ?_)
  refine T.seq ?_
  refine T.block ?_
  refine Qq ?_
  refine mw rfl ?_
  obtain ⟨u, y, h⟩ := bind_some h
  refine sp rfl (Fa (f := 37) (vs := [.pointer (some ⟨bx2c0, 0, none⟩), .pointer (some ⟨bx2c1, 0, none⟩), .pointer (some ⟨bx2c2, 0, none⟩)]) rfl rfl (dk rfl) Try.func37 rfl rfl (Q2 (is := [1, 2, 3, 4, 5, 0, 6, 7]) (ph := []) rfl (dk rfl) Try.func37 rfl rfl (Q3.cons rfl (Q3.cons rfl (Q3.cons rfl Q3.nil))) (tb_Decode_3_T K (bx0 := bx2c0) (wx0_p := wx2c0_p) (wx0_pc7 := g) (wx0_pc8 := j) (bx1 := bx2c1) (bx1_p := bx0) (bx2 := bx2c2) (wx2c1 := w2_0aa) y) (.cons rfl rfl (.cons rfl rfl (.cons rfl rfl (.cons rfl rfl (.cons rfl rfl (.cons rfl rfl (.cons rfl rfl (.cons rfl rfl (.nil))))))))) (fun _ => rfl) (fun w => ?_)))
  refine nm (.c (.c (.c (.c (.c (.c (.c (.c (.n))))))))) ?_
  refine TL'.nil (Qe (tN ?_))
  refine Qq ?_
  refine mw rfl ?_
  refine sp rfl (Qa rfl rfl (dk rfl) rfl rfl ?_)
  refine aw rfl ?_
  refine TL'.nil (tN ?_)
  refine Qb ?_ (ih x1 (wI (s + (1:Int))) u.2.2.b u.2.2.bad x2c0_pc9 x2c0_p u.1 u.2.1 x2c2c0 x2c2c1 (w 0) (w 1) (w 2) h)
  exact tq rfl rfl
  refine Qo rfl v ?_
  refine Qc ?_ (De K bx0 bx2c0 wx2c0_p bx2c1 bx2c2 x2c0_p x2c0_pc9 x2c2c0 x2c2c1 l m x2c0_pc9 x2c0_p p q x2c2c0 x2c2c1 g j w2_0aa h)
  exact tq rfl rfl
  refine pf rfl a ?_
  refine pf rfl a ?_
  refine pf rfl a ?_
  refine pf rfl a ?_
  refine pf rfl a ?_
  refine sp rfl (Qs rfl (dk rfl) rfl a rfl ?_)
  refine TL'.nil (tN ?_)
  refine Qo rfl rfl ?_
  refine Qc ?_ (De K bx0 bx2c0 wx2c0_p bx2c1 bx2c2 x2c0_p x2c0_pc9 x2c2c0 x2c2c1 l m x2c0_pc9 x2c0_p p q x2c2c0 x2c2c1 g j w2_0aa h)
  exact tq rfl rfl
theorem tbr_times_i3_T (K : Nat) {x0 : tbr} {x1 : Int} {x2c0_p : List (Bool × aSt)} {x2c0_pc9 : Int} {x2c0_pc7 : List Int} {x2c0_pc8 : List (List aMv)} {x2c2c0 : aSp} {x2c2c1 : List Zb} {bx0 bx2c0 : Nat} {wx2c0_p wx2c0_pc7 wx2c0_pc8 : Value} {bx2c1 bx2c2 : Nat} {wx2c2c1 : Value} {r : tbr × (List Int) × (List (List aMv))} (h : H4 K x0 x1 x2c0_p x2c0_pc9 x2c0_pc7 x2c0_pc8 x2c2c0 x2c2c1 = some r) : Uz tp 31 [.ptr bx0 0, .int .i64 x1, .c (.ex (.func (.func 37) #[] #[.pointer (some ⟨bx2c0, 0, none⟩), .pointer (some ⟨bx2c1, 0, none⟩), .pointer (some ⟨bx2c2, 0, none⟩)]))] [(Q8 bx0 x0.b x0.bad), (Ge bx2c0 (elP wx2c0_p 4 (Int.toNat x2c0_pc9) 0)), .arrX wx2c0_p 59 4 0 (Hd (x2c0_p.map Qw) (Int.toNat x2c0_pc9) wx2c0_pc7 wx2c0_pc8), .arrA wx2c0_pc7 3 1 (mI x2c0_pc7), .arrA wx2c0_pc8 61 1 (x2c0_pc8.map (cL 2 Qu)), (Zl bx2c1 bx0), (Zc bx2c2 x2c2c0.Of x2c2c0.Many wx2c2c1 wx2c0_p), .arrA wx2c2c1 42 2 (mA x2c2c1)] (fun γ => (.tup [])) (fun γ => [(Q8 bx0 r.1.b r.1.bad), (Ge bx2c0 (elP wx2c0_p 4 (Int.toNat x2c0_pc9) 0)), .arrX wx2c0_p 59 4 0 (Hd (x2c0_p.map Qw) (Int.toNat x2c0_pc9) (γ 0) (γ 1)), .arrA (γ 0) 3 1 (mI r.2.1), .arrA (γ 1) 61 1 (r.2.2.map (cL 2 Qu)), (Zl bx2c1 bx0), (Zc bx2c2 x2c2c0.Of x2c2c0.Many (γ 2) wx2c0_p), .arrA (γ 2) 42 2 (mA x2c2c1)]) := by
 refine Qt Try.func31 rfl (nb rfl) ?_
 show T tp 21 (ca [] Try.f31) ⟨Qv 0 [.ptr bx0 0, .int .i64 x1, .c (.ex (.func (.func 37) #[] #[.pointer (some ⟨bx2c0, 0, none⟩), .pointer (some ⟨bx2c1, 0, none⟩), .pointer (some ⟨bx2c2, 0, none⟩)]))], [(Q8 bx0 x0.b x0.bad), (Ge bx2c0 (elP wx2c0_p 4 (Int.toNat x2c0_pc9) 0)), .arrX wx2c0_p 59 4 0 (Hd (x2c0_p.map Qw) (Int.toNat x2c0_pc9) wx2c0_pc7 wx2c0_pc8), .arrA wx2c0_pc7 3 1 (mI x2c0_pc7), .arrA wx2c0_pc8 61 1 (x2c0_pc8.map (cL 2 Qu)), (Zl bx2c1 bx0), (Zc bx2c2 x2c2c0.Of x2c2c0.Many wx2c2c1 wx2c0_p), .arrA wx2c2c1 42 2 (mA x2c2c1)]⟩ (Ov bx0 bx2c0 wx2c0_p bx2c1 bx2c2 x2c0_p x2c0_pc9 x2c2c0 x2c2c1 r)
 unfold H4 at h
 refine T.seq (Qq ?_)
 refine aw rfl ?_
 refine TL'.nil (tN ?_)
 refine T.block ?_
 refine T.loop ?_
 refine Qb ?_ (Sn K bx0 bx2c0 wx2c0_p bx2c1 bx2c2 x2c0_p x2c0_pc9 x2c2c0 x2c2c1 K x1 (0:Int) x0.b x0.bad x2c0_pc9 x2c0_p x2c0_pc7 x2c0_pc8 x2c2c0 x2c2c1 wx2c0_pc7 wx2c0_pc8 wx2c2c1 h)
 exact tq rfl rfl
abbrev M4 (r : aAu × Int) : ES := Jk tp Try.f17 (fun y t => y = (.tup [.agg ((Qx.dc 256 .u8 r.1.Split.Of) ++ (([.int .i64 r.1.Split.Many, .sl false 2 (mA r.1.Counts), .sl false 4 (r.1.States.map Q0)] : List DC))), .int .i64 r.2]) ∧ t = [])
abbrev N4 (r : aAu × Int) : ES := thenS (fun s' => T tp 68 (ca [1,1,1,1,1,1,1,1] Try.f17) s' ((M4 r))) ((M4 r))
abbrev Pg (r : aAu × Int) : ES := thenS (fun s' => T tp 68 (ca [1,1,1,1,1,1,1] Try.f17) s' ((M4 r))) ((M4 r))
abbrev Io (r : aAu × Int) : ES := Qz 0 ((Pg r))
theorem Cy {r : aAu × Int} (K : Nat) (a : Qx) (b : List aSt) (c : Nat) (f g : Value) (h : Kn K a b = some r) : T tp 68 (ca [1,1,1,1,1,1,1,0,1,0] Try.f17) ⟨[(2, .ptr c 0)], [(Zc c a (0:Int) f g), .arrA f 42 2 (([] : List Zb).map (Zb.dc .i64)), .arrX g 59 4 0 (b.map Q0)]⟩ (N4 r) := by
 unfold Kn at h
 refine T.seq (Qq ?_)
 refine sp rfl (OpT.build (l := ((Qx.dc 256 .u8 (Qx.mk fun _ => 0)) ++ (([.int .i64 (0:Int), .ex (.slice none 0 0), .ex (.slice none 0 0)] : List DC)))) rfl (dk rfl) (Zr (pl := [(0, 257), (257, 1), (258, 1)]) Xe i28 rfl) (J6 rfl) rfl rfl ?_)
 refine sp rfl (Q1 (i := 0) (cells' := ((Qx.oc 256 .u8 (Qx.mk fun _ => 0)) ++ (([.d (.int .i64 (0:Int)), .d (.ex (.slice none 0 0)), .d (.ex (.slice none 0 0))]:List OC)))) rfl rfl i28 rfl rfl rfl rfl (nb rfl) rfl ?_)
 refine aw rfl ?_
 refine TL'.nil (tN ?_)
 refine T.ret (Ql ?_)
 refine Xf (Wx 0 (l := ((Qx.dc 256 .u8 (Qx.mk fun _ => 0)) ++ (([.int .i64 (0:Int), .ex (.slice none 0 0), .ex (.slice none 0 0)] : List DC)))) (l' := ((Qx.dc 256 .u8 (Qx.mk fun _ => 0)) ++ (([.int .i64 (0:Int), .sl false 2 (([] : List Zb).map (Zb.dc .i64)), .sl false 4 (([] : List aSt).map Q0)] : List DC)))) rfl (.app _ (.cons (.same _) (.cons (.nil _ _) (.cons (.nil _ _) (.refl _)))))) ?_
 exact Fin.done (.cons _ _ _ _ (.cellAgg 2 28 _ 0 0 28 _ ((Qx.dc 256 .u8 (Qx.mk fun _ => 0)) ++ (([.int .i64 (0:Int), .sl false 2 (([] : List Zb).map (Zb.dc .i64)), .sl false 4 (([] : List aSt).map Q0)] : List DC))) _ _ 259 _ rfl rfl rfl rfl Xe rfl i28) (.cons _ _ _ _ (.tmp 3 _ rfl) .nil)) (by cases h; exact ⟨rfl, rfl⟩)
theorem tb_Decode_l0_T {r : aAu × Int} (K : Nat) : ∀ (k : Nat), ∀ (ay m : Int) (au : Qx) (az : ByteArray) (a0 : Bool) (w : Qx) (aa : Int) (ai : List Zb) (v : List (Bool × aSt)) (al : Nat) (am an : Value) (ab ac af : Nat) (aj j : Value), X9 K k ay m au az a0 w aa ai v = some r → TL tp 68 (ca [1,1,1,1,1,1,0,1,0,0] Try.f17) ⟨[(2, .ptr al 0), (4, .ptr ab 0), (5, .ptr af 0), (31, .int .i64 ay), (32, .int .i64 m)], [(Zc al au (0:Int) am an), .arrA am 42 2 (([] : List Zb).map (Zb.dc .i64)), .arrX an 59 4 0 (([] : List (Bool × aSt)).map Qw), (Zl ab ac), (Q8 ac az a0), (Zc af w aa aj j), .arrA aj 42 2 (mA ai), .arrX j 59 4 0 (v.map Qw)]⟩ (Io r) := by
 intro k
 induction k with
 | zero =>
  intro ay m au az a0 w aa ai v al am an ab ac af aj j h
  cases (show (none : Option (aAu × Int)) = some r from h)
 | succ k ih =>
  intro ay m au az a0 w aa ai v al am an ab ac af aj j h
  rw [X9] at h
  refine Q4 ?_
  refine T.seq (Qq ?_)
  refine sp rfl (Qa rfl rfl (dk rfl) rfl rfl ?_)
  refine TL'.nil (tN ?_)
  refine T.seq ?_
  rcases Qd h with ⟨a2, h⟩ | ⟨a2, h⟩
  refine Qk rfl a2 ?_
  refine T.skip (tN ?_)
  refine T.seq ?_
  refine T.block ?_
  refine T.seq (Qq ?_)
  refine mw rfl ?_
  refine aw rfl ?_
  refine TL'.nil (tN (T.seq (Qq ?_)))
  refine sp rfl (Qg rfl (dk rfl) Xe rfl i26 (by decide) rfl ?_)
  refine sp rfl (Qm (i := 5) rfl (dk rfl) X5 rfl rfl rfl rfl ?_)
  refine mw rfl ?_
  obtain ⟨q, a1, h⟩ := bind_some h
  refine sp rfl (Uy (n := 7) (xs := v) (f := Qw) (old := q) rfl (dk rfl) X5 i59 rfl rfl rfl a1 ?_)
  refine sp rfl (Zi rfl (dk rfl) i81 rfl (fun ap => ?_))
  refine Y7 (Zn.elExact 38 rfl) ?_
  obtain ⟨a5, h⟩ := Zh h
  refine TL'.turnN (Zn.open 8 (Int.toNat m) (e1 := 3) (e2 := 61) (k1 := 1) (l1 := mI q.2.Rule) (k2 := 1) (l2 := q.2.Next.map (cL 2 Qu)) (c0 := .sl false 1 (mI q.2.L)) (c1 := .sl false 1 (mI q.2.R)) rfl ((Mo (f := Qw) (Z0 a1).2).trans (congrArg some (by obtain ⟨b, y⟩ := q; cases (show b = false from a5); rfl)))) (fun aq => ?_)
  refine sp rfl (Xd (i := 2) (cells' := [.d (.ex (elP j 4 (Int.toNat m) 0))]) rfl rfl i81 rfl rfl rfl (nb rfl) rfl ?_)
  refine TL'.nil (tN ?_)
  refine Y3 ?_
  refine dC (c := ⟨some 39, .ptr ac 0, [(4, .ptr ab 0)], [(6, (Zl ab ac))], []⟩) (fun t hm => oF rfl rfl (Qm (i := 6) rfl (dk rfl) ul73 rfl hm.s0 hm.o0 rfl ⟨u0, rfl⟩)) (fun _ => rfl) (fun _ => rfl) ?_
  refine dC (c := ⟨some 40, .el j 4 (Int.toNat m) 0, [(7, .ptr ap 0)], [(2, (Ge ap (elP j 4 (Int.toNat m) 0))), (10, .arrX j 59 4 0 (Hd (v.map Qw) (Int.toNat m) (aq 0) (aq 1)))], []⟩) (fun t hm => oF rfl rfl (Zm (Qm (i := 2) rfl (dk rfl) ul81 rfl hm.s0 hm.o0 rfl rfl) (Ea 40 10 hm.o1 (Qba (Z0 a1).2)) ⟨u0, rfl⟩)) (fun _ => rfl) (fun _ => rfl) ?_
  refine dC (c := ⟨some 41, .el j 4 (Int.toNat m) 0, [(40, .el j 4 (Int.toNat m) 0)], [], []⟩) (fun t hm => oF rfl rfl (Hn rfl (dk rfl) hm.s0 ⟨u0, rfl⟩)) (fun _ => rfl) (fun _ => rfl) ?_
  refine dC (c := ⟨some 42, .el j 4 (Int.toNat m) 1, [(41, .el j 4 (Int.toNat m) 0)], [], []⟩) (fun t hm => oF rfl rfl (Ua rfl (dk rfl) Vm rfl i56 (by decide) hm.s0 ⟨u0, rfl⟩)) (fun _ => rfl) (fun _ => rfl) ?_
  refine dC (c := ⟨some 43, .sl false 1 (mI q.2.R), [(42, .el j 4 (Int.toNat m) 1)], [(10, .arrX j 59 4 0 (Hd (v.map Qw) (Int.toNat m) (aq 0) (aq 1)))], []⟩) (fun t hm => oF rfl rfl (OpT.loadHM (i := 10) (xs := v) (f := Qw) (old := q) rfl (dk rfl) Yd rfl hm.s0 hm.o0 (Z0 a1).2 (by decide) rfl ⟨u0, rfl⟩)) (fun _ => rfl) (fun _ => rfl) ?_
  refine dC (c := ⟨some 44, .int .i64 (q.2.R.length : Int), [(43, .sl false 1 (mI q.2.R))], [], []⟩) (fun t hm => oF rfl rfl (Qn (xs := q.2.R) (f := (cI .i64)) rfl (dk rfl) Yd hm.s0 ⟨u0, rfl⟩)) (fun _ => rfl) (fun _ => rfl) ?_
  obtain ⟨a4, a6, h⟩ := bind_some h
  refine dC (c := ⟨some 45, .int .i64 a4, [(44, .int .i64 (q.2.R.length : Int))], [], []⟩) (fun t hm => oF rfl rfl (Q5 rfl (dk rfl) Try.func36 rfl rfl (Q3.cons hm.s0 Q3.nil) (Zt.nil (Tw K a6)) ⟨u0, rfl⟩)) (fun _ => rfl) (fun _ => rfl) ?_
  refine dC (c := ⟨some 46, .c (.ex (.func (.func 37) #[] #[.pointer (some ⟨ap, 0, none⟩), .pointer (some ⟨ab, 0, none⟩), .pointer (some ⟨af, 0, none⟩)])), [(7, .ptr ap 0), (4, .ptr ab 0), (5, .ptr af 0)], [], []⟩) (fun t hm => oF rfl rfl (OpT.makeFunc (vs := [.pointer (some ⟨ap, 0, none⟩), .pointer (some ⟨ab, 0, none⟩), .pointer (some ⟨af, 0, none⟩)]) rfl (dk rfl) (My hm.s0 (My hm.s1 (My hm.s2 evs_nil))) ⟨u0, rfl⟩)) (fun _ => rfl) (fun _ => rfl) ?_
  obtain ⟨ag, a7, h⟩ := bind_some h
  refine DGG.step (c := fun a => ⟨some 47, .tup [], [(39, .ptr ac 0), (45, .int .i64 a4), (46, .c (.ex (.func (.func 37) #[] #[.pointer (some ⟨ap, 0, none⟩), .pointer (some ⟨ab, 0, none⟩), .pointer (some ⟨af, 0, none⟩)])))], [(9, .arrA aj 42 2 (mA ai)), (8, (Zc af w aa aj j)), (6, (Zl ab ac)), (1, .arrA (aq 1) 61 1 (q.2.Next.map (cL 2 Qu))), (0, .arrA (aq 0) 3 1 (mI q.2.Rule)), (10, .arrX j 59 4 0 (Hd (v.map Qw) (Int.toNat m) (aq 0) (aq 1))), (2, (Ge ap (elP j 4 (Int.toNat m) 0))), (7, (Q8 ac az a0))], [(7, (Q8 ac ag.1.b ag.1.bad)), (2, (Ge ap (elP j 4 (Int.toNat m) 0))), (10, .arrX j 59 4 0 (Hd (v.map Qw) (Int.toNat m) ((a 8).1 0) ((a 8).1 1))), (0, .arrA ((a 8).1 0) 3 1 (mI ag.2.1)), (1, .arrA ((a 8).1 1) 61 1 (ag.2.2.map (cL 2 Qu))), (6, (Zl ab ac)), (8, (Zc af w aa ((a 8).1 2) j)), (9, .arrA ((a 8).1 2) 42 2 (mA ai))]⟩) [8] (fun a γ' h => by simp only [h 8 (by decide)]) (fun a t hm => oF rfl rfl (Q2 (is := [7, 2, 10, 0, 1, 6, 8, 9]) (ph := []) rfl (dk rfl) Try.func31 rfl rfl (Q3.cons hm.s0 (Q3.cons hm.s1 (Q3.cons hm.s2 Q3.nil))) (tbr_times_i3_T K (bx0 := ac) (bx2c0 := ap) (wx2c0_p := j) (wx2c0_pc7 := (aq 0)) (wx2c0_pc8 := (aq 1)) (bx2c1 := ab) (bx2c2 := af) (wx2c2c1 := aj) a7) (.cons (hm.objs (7, _) (.tail _ (.tail _ (.tail _ (.tail _ (.tail _ (.tail _ (.tail _ (.head _))))))))) rfl (.cons (hm.objs (2, _) (.tail _ (.tail _ (.tail _ (.tail _ (.tail _ (.tail _ (.head _)))))))) rfl (.cons (hm.objs (10, _) (.tail _ (.tail _ (.tail _ (.tail _ (.tail _ (.head _))))))) rfl (.cons (hm.objs (0, _) (.tail _ (.tail _ (.tail _ (.tail _ (.head _)))))) rfl (.cons (hm.objs (1, _) (.tail _ (.tail _ (.tail _ (.head _))))) rfl (.cons hm.o2 rfl (.cons hm.o1 rfl (.cons hm.o0 rfl (.nil))))))))) (fun _ => rfl) (fun g => ⟨(g, 0), rfl⟩))) (fun a => Zq rfl rfl) ?_
  refine Vi (s1 := fun a => ⟨[(2, .ptr al 0), (4, .ptr ab 0), (5, .ptr af 0), (31, .int .i64 ay), (32, .int .i64 m)], [.arrA ((a 8).1 0) 3 1 (mI ag.2.1), .arrA ((a 8).1 1) 61 1 (ag.2.2.map (cL 2 Qu)), (Ge ap (elP j 4 (Int.toNat m) 0)), (Zc al au (0:Int) am an), .arrA am 42 2 (([] : List Zb).map (Zb.dc .i64)), .arrX an 59 4 0 (([] : List (Bool × aSt)).map Qw), (Zl ab ac), (Q8 ac ag.1.b ag.1.bad), (Zc af w aa ((a 8).1 2) j), .arrA ((a 8).1 2) 42 2 (mA ai), .arrX j 59 4 0 (Hd (v.map Qw) (Int.toNat m) ((a 8).1 0) ((a 8).1 1))]⟩) (ms := [0, 0, 2, 6, 14, 30, 62, 0, 255]) Q7 rfl (by kernel_rfl) (by kernel_rfl) (by kernel_rfl) (fun a => by kernel_rfl) (fun a => sf rfl) (fun _ => rfl) (fun a u hu => (Qe (tN (Qc hu ?_))))
  refine Qq ?_
  refine sp rfl (Qa rfl rfl (dk rfl) rfl rfl ?_)
  refine mw rfl ?_
  refine TL'.nil (tN ?_)
  refine Qb (Zn.closeM 10 0 1 (Int.toNat m) (xs := v) (f := Qw) (old := q) (new := (true, (aSt.mk q.2.L q.2.R ag.2.1 ag.2.2))) rfl (Z0 a1).2 rfl rfl rfl rfl) ?_
  refine Qb ?_ (ih ay (wI (m + (1:Int))) au ag.1.b ag.1.bad w aa ai (List.set v (Int.toNat m) (true, (aSt.mk q.2.L q.2.R ag.2.1 ag.2.2))) al am an ab ac af ((a 8).1 2) j h)
  exact tr rfl (.c (.s (.s (.s .z))) (.c (.s (.s (.s .z))) (.c (.s (.s (.s .z))) (.c (.s (.s (.s .z))) (.c (.s (.s (.s .z))) (.c (.s (.s (.s .z))) (.c (.s (.s (.s .z))) (.c (.s (.s (.s .z))) (.n _)))))))))
  refine Qo rfl a2 ?_
  refine T.exit (Qf (Qf (Qp (tN ?_))))
  refine T.seq ?_
  refine T.seq ?_
  refine Qc (N0 2 (xs := ([] : List (Bool × aSt))) (f := Qw) (g := Q0) (p := Prod.snd) rfl (fun x => (.cons (.same _) (.cons (.same _) (.cons (.full _ _ _) (.cons (.full _ _ _) (.refl _)))))) (fun _ => rfl)) ?_
  refine Qc (N0 7 (xs := v) (f := Qw) (g := Q0) (p := Prod.snd) rfl (fun x => (.cons (.same _) (.cons (.same _) (.cons (.full _ _ _) (.cons (.full _ _ _) (.refl _)))))) (fun _ => rfl)) ?_
  refine Qq ?_
  refine sp rfl (Qm (i := 3) rfl (dk rfl) ul73 rfl rfl rfl rfl ?_)
  refine sp rfl (OpT.nilCheck rfl (dk rfl) rfl rfl ?_)
  refine sp rfl (Qg rfl (dk rfl) ul75 rfl i4 (by decide) rfl ?_)
  refine sp rfl (Qm (i := 4) rfl (dk rfl) ul4 rfl rfl rfl rfl ?_)
  refine mw rfl ?_
  rcases Qd h with ⟨ad, h⟩ | ⟨ad, h⟩
  refine pf rfl ad ?_
  refine pf rfl ad ?_
  refine pf rfl ad ?_
  refine pf rfl ad ?_
  refine pf rfl ad ?_
  refine pf rfl ad ?_
  refine sp rfl (Qi rfl (dk rfl) rfl ad rfl ?_)
  refine mw rfl ?_
  refine pf rfl rfl ?_
  refine pf rfl rfl ?_
  refine pf rfl rfl ?_
  refine sp rfl (Qi rfl (dk rfl) rfl rfl rfl ?_)
  refine TL'.nil (tN ?_)
  refine Qk rfl rfl ?_
  refine Qc ?_ (Cy K au (([] : List (Bool × aSt)).map Prod.snd) al am an h)
  exact tq rfl rfl
  refine sn rfl ad (Qm (i := 3) rfl (dk rfl) ul73 rfl rfl rfl rfl ?_)
  refine sn rfl ad (OpT.nilCheck rfl (dk rfl) rfl rfl ?_)
  refine sn rfl ad (Qg rfl (dk rfl) ul75 rfl i9 (by decide) rfl ?_)
  refine sn rfl ad (Qm (i := 4) rfl (dk rfl) ul9 rfl rfl rfl rfl ?_)
  refine sn rfl ad (OpT.lenStr rfl (dk rfl) ul9 rfl ?_)
  refine sn rfl ad (Qa rfl rfl (dk rfl) rfl rfl ?_)
  refine sp rfl (Qs rfl (dk rfl) rfl ad rfl ?_)
  refine mw rfl ?_
  rcases Qd h with ⟨av, h⟩ | ⟨av, h⟩
  refine pf rfl av ?_
  refine pf rfl av ?_
  refine pf rfl av ?_
  refine sp rfl (Qi rfl (dk rfl) rfl av rfl ?_)
  refine TL'.nil (tN ?_)
  refine Qk rfl rfl ?_
  refine Qc ?_ (Cy K au (([] : List (Bool × aSt)).map Prod.snd) al am an h)
  exact tq rfl rfl
  refine Y7 (D8 7 rfl) ?_
  refine sn rfl av (Zm (Ze (i := 5) (l := ((Qx.dc 256 .u8 w) ++ (([.int .i64 aa, .ex aj, .ex j] : List DC)))) rfl (dk rfl) Xe rfl i28 rfl rfl rfl rfl rfl) (Zz 62 (l := ((Qx.dc 256 .u8 w) ++ (([.int .i64 aa, .ex aj, .ex j] : List DC)))) (l' := ((Qx.dc 256 .u8 w) ++ (([.int .i64 aa, .sl false 2 (mA ai), .sl false 4 ((v.map Prod.snd).map Q0)] : List DC)))) (.app _ (.cons (.same _) (.cons (.view 6 rfl) (.cons (.view 7 rfl) (.refl _)))))) ?_)
  obtain ⟨a9, a8, h⟩ := bind_some h
  refine sn rfl av (Q5 rfl (dk rfl) Try.func20 rfl rfl (Q3.cons rfl Q3.nil) (Zt.nil (Tv K a8)) ?_)
  refine sn rfl av (OpT.not rfl (dk rfl) rfl ?_)
  refine sp rfl (Qs rfl (dk rfl) rfl av rfl ?_)
  refine TL'.nil (tN ?_)
  rcases Qd h with ⟨a3, h⟩ | ⟨a3, h⟩
  refine Qk rfl a3 ?_
  refine Qc ?_ (Cy K au (([] : List (Bool × aSt)).map Prod.snd) al am an h)
  exact tq rfl rfl
  refine Qo rfl a3 ?_
  refine T.skip (tN ?_)
  refine T.seq (Qq ?_)
  refine sp rfl (Zm (Ze (i := 5) (l := ((Qx.dc 256 .u8 w) ++ (([.int .i64 aa, .ex aj, .ex j] : List DC)))) rfl (dk rfl) Xe rfl i28 rfl rfl rfl rfl rfl) (Zz 67 (l := ((Qx.dc 256 .u8 w) ++ (([.int .i64 aa, .ex aj, .ex j] : List DC)))) (l' := ((Qx.dc 256 .u8 w) ++ (([.int .i64 aa, .sl false 2 (mA ai), .sl false 4 ((v.map Prod.snd).map Q0)] : List DC)))) (.app _ (.cons (.same _) (.cons (.view 6 rfl) (.cons (.view 7 rfl) (.refl _)))))) ?_)
  refine sp rfl (Q1 (i := 0) (cells' := ((Qx.oc 256 .u8 w) ++ (([.d (.int .i64 aa), .d (.sl false 2 (mA ai)), .d (.sl false 4 ((v.map Prod.snd).map Q0))]:List OC)))) rfl rfl i28 rfl rfl rfl rfl (nb rfl) rfl ?_)
  refine aw rfl ?_
  refine TL'.nil (tN ?_)
  refine T.ret ?_
  exact Fin.done (.cons _ _ _ _ (.cellAgg 2 28 _ 0 0 28 _ ((Qx.dc 256 .u8 w) ++ (([.int .i64 aa, .sl false 2 (mA ai), .sl false 4 ((v.map Prod.snd).map Q0)] : List DC))) _ _ 259 _ rfl rfl rfl rfl Xe rfl i28) (.cons _ _ _ _ (.tmp 3 _ rfl) .nil)) (by cases h; exact ⟨rfl, rfl⟩)
theorem tb_Decode_T (K : Nat) {x0 : List Int} {flx0 : Bool} {r : aAu × Int} (h : Ip K x0 = some r) : Zt tp 17 [.sl flx0 1 (mU x0)] [] (.tup [.agg ((Qx.dc 256 .u8 r.1.Split.Of) ++ (([.int .i64 r.1.Split.Many, .sl false 2 (mA r.1.Counts), .sl false 4 (r.1.States.map Q0)] : List DC))), .int .i64 r.2]) := by
 refine Qt Try.func17 rfl (nb rfl) ?_
 show T tp 68 (ca [] Try.f17) ⟨Qv 0 [.sl flx0 1 (mU x0)], []⟩ (M4 r)
 unfold Ip at h
 refine T.seq (Qq ?_)
 refine sp rfl (Zi rfl (dk rfl) i28 rfl (fun ac => ?_))
 refine aw rfl ?_
 refine TL'.nil (tN (T.seq (Qq ?_)))
 refine mw rfl ?_
 refine sp rfl (Ur (xs := x0) rfl (dk rfl) Xg ul5 ul9 rfl ?_)
 refine sp rfl (OpT.build (l := [.str (ofBytes x0), .bool false]) rfl (dk rfl) (Zr (pl := [(0, 1), (1, 1)]) ul75 i75 rfl) (J6 rfl) rfl rfl ?_)
 refine sp rfl (Zg rfl (dk rfl) rfl (fun a => ?_))
 refine sp rfl (Zi rfl (dk rfl) i73 rfl (fun p => ?_))
 refine sp rfl (Xd (i := 0) (cells' := [.d (.ptr a 0)]) rfl rfl i73 rfl rfl rfl (nb rfl) rfl ?_)
 refine TL'.nil (tN ?_)
 refine T.seq ?_
 refine T.seq (Qq ?_)
 refine sp rfl (Qm (i := 0) rfl (dk rfl) ul73 rfl rfl rfl rfl ?_)
 obtain ⟨an, af, h⟩ := bind_some h
 refine sp rfl (Q2 (is := [1]) (ph := []) rfl (dk rfl) Try.func29 rfl rfl (Q3.cons rfl (Q3.cons rfl Q3.nil)) (Nr K (bx0 := a) af) (.cons rfl rfl (.nil)) (fun _ => rfl) (fun ap => ?_))
 refine nm (.c (.c (.c (.n)))) ?_
 refine sp rfl (Qbm rfl (dk rfl) rfl rfl ?_)
 refine TL'.nil (tN ?_)
 rcases Qd h with ⟨ad, h⟩ | ⟨ad, h⟩
 refine Qk rfl ad ?_
 refine T.seq (Qq ?_)
 refine sp rfl (OpT.build (l := ((Qx.dc 256 .u8 (Qx.mk fun _ => 0)) ++ (([.int .i64 (0:Int), .ex (.slice none 0 0), .ex (.slice none 0 0)] : List DC)))) rfl (dk rfl) (Zr (pl := [(0, 257), (257, 1), (258, 1)]) Xe i28 rfl) (J6 rfl) rfl rfl ?_)
 refine sp rfl (Q1 (i := 2) (cells' := ((Qx.oc 256 .u8 (Qx.mk fun _ => 0)) ++ (([.d (.int .i64 (0:Int)), .d (.ex (.slice none 0 0)), .d (.ex (.slice none 0 0))]:List OC)))) rfl rfl i28 rfl rfl rfl rfl (nb rfl) rfl ?_)
 refine aw rfl ?_
 refine TL'.nil (tN ?_)
 refine T.ret (Ql ?_)
 refine Xf (Wx 2 (l := ((Qx.dc 256 .u8 (Qx.mk fun _ => 0)) ++ (([.int .i64 (0:Int), .ex (.slice none 0 0), .ex (.slice none 0 0)] : List DC)))) (l' := ((Qx.dc 256 .u8 (Qx.mk fun _ => 0)) ++ (([.int .i64 (0:Int), .sl false 2 (([] : List Zb).map (Zb.dc .i64)), .sl false 4 (([] : List aSt).map Q0)] : List DC)))) rfl (.app _ (.cons (.same _) (.cons (.nil _ _) (.cons (.nil _ _) (.refl _)))))) ?_
 exact Fin.done (.cons _ _ _ _ (.cellAgg 2 28 _ 0 2 28 _ ((Qx.dc 256 .u8 (Qx.mk fun _ => 0)) ++ (([.int .i64 (0:Int), .sl false 2 (([] : List Zb).map (Zb.dc .i64)), .sl false 4 (([] : List aSt).map Q0)] : List DC))) _ _ 259 _ rfl rfl rfl rfl Xe rfl i28) (.cons _ _ _ _ (.tmp 3 _ rfl) .nil)) (by cases h; exact ⟨rfl, rfl⟩)
 refine Qo rfl ad ?_
 refine T.skip (tN ?_)
 refine T.seq (Qq ?_)
 refine sp rfl (Qm (i := 0) rfl (dk rfl) ul73 rfl rfl rfl rfl ?_)
 obtain ⟨q, ag, h⟩ := bind_some h
 refine sp rfl (Q2 (is := [1]) (ph := []) rfl (dk rfl) Try.func30 rfl rfl (Q3.cons rfl Q3.nil) (tbr_split_T K (bx0 := a) ag) (.cons rfl rfl (.nil)) (fun _ => rfl) (fun aq => ?_))
 refine nm (.c (.c (.c (.n)))) ?_
 refine sp rfl (OpT.build (l := ((Qx.dc 256 .u8 q.1.Of) ++ (([.int .i64 q.1.Many, .ex (.slice none 0 0), .ex (.slice none 0 0)] : List DC)))) rfl (dk rfl) (Zr (pl := [(0, 257), (257, 1), (258, 1)]) Xe i28 rfl) (J6 rfl) rfl rfl ?_)
 refine sp rfl (Zi rfl (dk rfl) i28 rfl (fun v => ?_))
 refine sp rfl (Q1 (i := 0) (cells' := ((Qx.oc 256 .u8 q.1.Of) ++ (([.d (.int .i64 q.1.Many), .d (.ex (.slice none 0 0)), .d (.ex (.slice none 0 0))]:List OC)))) rfl rfl i28 rfl rfl rfl rfl (nb rfl) rfl ?_)
 refine TL'.nil (tN ?_)
 refine T.seq ?_
 refine Qc (Yc 42 2) ?_
 refine Qc (D9 59 4) ?_
 refine Qc (Yc 42 2) ?_
 refine Qc (D9 59 4) ?_
 refine Y3 ?_
 refine dC (c := ⟨some 19, .ptr a 0, [(4, .ptr p 0)], [(5, (Zl p a))], []⟩) (fun t hm => oF rfl rfl (Qm (i := 5) rfl (dk rfl) ul73 rfl hm.s0 hm.o0 rfl ⟨u0, rfl⟩)) (fun _ => rfl) (fun _ => rfl) ?_
 refine dC (c := ⟨some 20, .ptr a 0, [(4, .ptr p 0)], [(5, (Zl p a))], []⟩) (fun t hm => oF rfl rfl (Qm (i := 5) rfl (dk rfl) ul73 rfl hm.s0 hm.o0 rfl ⟨u0, rfl⟩)) (fun _ => rfl) (fun _ => rfl) ?_
 obtain ⟨aa, ai, h⟩ := bind_some h
 refine dC (c := ⟨some 21, .int .i64 aa.1, [(20, .ptr a 0)], [(6, (Q8 a q.2.b q.2.bad))], [(6, (Q8 a aa.2.b aa.2.bad))]⟩) (fun t hm => oF rfl rfl (Q2 (is := [6]) (ph := []) rfl (dk rfl) Try.func32 rfl rfl (Q3.cons hm.s0 Q3.nil) (Kl K (bx0 := a) ai) (.cons hm.o0 rfl (.nil)) (fun _ => rfl) (fun g => ⟨(g, 0), rfl⟩))) (fun _ => rfl) (fun _ => rfl) ?_
 refine dC (c := ⟨some 22, .c (.ex (.func (.func 33) #[] #[.pointer (some ⟨v, 0, none⟩), .pointer (some ⟨p, 0, none⟩)])), [(5, .ptr v 0), (4, .ptr p 0)], [], []⟩) (fun t hm => oF rfl rfl (OpT.makeFunc (vs := [.pointer (some ⟨v, 0, none⟩), .pointer (some ⟨p, 0, none⟩)]) rfl (dk rfl) (My hm.s0 (My hm.s1 evs_nil)) ⟨u0, rfl⟩)) (fun _ => rfl) (fun _ => rfl) ?_
 obtain ⟨w, aj, h⟩ := bind_some h
 refine DGG.step (c := fun j => ⟨some 23, .tup [], [(19, .ptr a 0), (21, .int .i64 aa.1), (22, .c (.ex (.func (.func 33) #[] #[.pointer (some ⟨v, 0, none⟩), .pointer (some ⟨p, 0, none⟩)])))], [(5, (Zl p a)), (2, .arrX (Mn 34) 59 4 0 (([] : List (Bool × aSt)).map Qw)), (3, .arrA (Mn 33) 42 2 (([] : List Zb).map (Zb.dc .i64))), (4, (Zc v q.1.Of q.1.Many (Mn 33) (Mn 34))), (6, (Q8 a aa.2.b aa.2.bad))], [(6, (Q8 a w.1.b w.1.bad)), (4, (Zc v q.1.Of q.1.Many ((j 4).1 0) ((j 4).1 1))), (3, .arrA ((j 4).1 0) 42 2 (mA w.2)), (2, .arrX ((j 4).1 1) 59 4 0 (([] : List (Bool × aSt)).map Qw)), (5, (Zl p a))]⟩) [4] (fun j γ' h => by simp only [h 4 (by decide)]) (fun j t hm => oF rfl rfl (Q2 (is := [6, 4, 3, 2, 5]) (ph := []) rfl (dk rfl) Try.func31 rfl rfl (Q3.cons hm.s0 (Q3.cons hm.s1 (Q3.cons hm.s2 Q3.nil))) (tbr_times_T K (bx0 := a) (bx2c0 := v) (wx2c0c1 := (Mn 33)) (wx2c0c2 := (Mn 34)) (bx2c1 := p) aj) (.cons (hm.objs (6, _) (.tail _ (.tail _ (.tail _ (.tail _ (.head _)))))) rfl (.cons (hm.objs (4, _) (.tail _ (.tail _ (.tail _ (.head _))))) rfl (.cons hm.o2 rfl (.cons hm.o1 rfl (.cons hm.o0 rfl (.nil)))))) (fun _ => rfl) (fun g => ⟨(g, 0), rfl⟩))) (fun j => Zq rfl rfl) ?_
 refine Vi (s1 := fun j => ⟨[(2, .ptr ac 0), (4, .ptr p 0), (5, .ptr v 0)], [.arrX (Mn 36) 59 4 0 (([] : List (Bool × aSt)).map Qw), .arrA (Mn 35) 42 2 (([] : List Zb).map (Zb.dc .i64)), .arrX ((j 4).1 1) 59 4 0 (([] : List (Bool × aSt)).map Qw), .arrA ((j 4).1 0) 42 2 (mA w.2), (Zc v q.1.Of q.1.Many ((j 4).1 0) ((j 4).1 1)), (Zl p a), (Q8 a w.1.b w.1.bad), (Zc ac (Qx.mk fun _ => 0) (0:Int) (Mn 35) (Mn 36))]⟩) (ms := [0, 0, 2, 0, 15]) Q7 rfl (by kernel_rfl) (by kernel_rfl) (by kernel_rfl) (fun j => by kernel_rfl) (fun j => sf rfl) (fun _ => rfl) (fun j u hu => (tN (Qc hu ?_)))
 refine T.seq ?_
 refine Y3 ?_
 refine dC (c := ⟨some 24, .ptr a 0, [(4, .ptr p 0)], [(5, (Zl p a))], []⟩) (fun t hm => oF rfl rfl (Qm (i := 5) rfl (dk rfl) ul73 rfl hm.s0 hm.o0 rfl ⟨u0, rfl⟩)) (fun _ => rfl) (fun _ => rfl) ?_
 refine dC (c := ⟨some 25, .ptr a 0, [(4, .ptr p 0)], [(5, (Zl p a))], []⟩) (fun t hm => oF rfl rfl (Qm (i := 5) rfl (dk rfl) ul73 rfl hm.s0 hm.o0 rfl ⟨u0, rfl⟩)) (fun _ => rfl) (fun _ => rfl) ?_
 obtain ⟨ab, al, h⟩ := bind_some h
 refine dC (c := ⟨some 26, .int .i64 ab.1, [(25, .ptr a 0)], [(6, (Q8 a w.1.b w.1.bad))], [(6, (Q8 a ab.2.b ab.2.bad))]⟩) (fun t hm => oF rfl rfl (Q2 (is := [6]) (ph := []) rfl (dk rfl) Try.func32 rfl rfl (Q3.cons hm.s0 Q3.nil) (Kl K (bx0 := a) al) (.cons hm.o0 rfl (.nil)) (fun _ => rfl) (fun g => ⟨(g, 0), rfl⟩))) (fun _ => rfl) (fun _ => rfl) ?_
 refine dC (c := ⟨some 27, .c (.ex (.func (.func 34) #[] #[.pointer (some ⟨v, 0, none⟩), .pointer (some ⟨p, 0, none⟩)])), [(5, .ptr v 0), (4, .ptr p 0)], [], []⟩) (fun t hm => oF rfl rfl (OpT.makeFunc (vs := [.pointer (some ⟨v, 0, none⟩), .pointer (some ⟨p, 0, none⟩)]) rfl (dk rfl) (My hm.s0 (My hm.s1 evs_nil)) ⟨u0, rfl⟩)) (fun _ => rfl) (fun _ => rfl) ?_
 obtain ⟨y, am, h⟩ := bind_some h
 refine DGG.step (c := fun m => ⟨some 28, .tup [], [(24, .ptr a 0), (26, .int .i64 ab.1), (27, .c (.ex (.func (.func 34) #[] #[.pointer (some ⟨v, 0, none⟩), .pointer (some ⟨p, 0, none⟩)])))], [(5, (Zl p a)), (2, .arrX ((j 4).1 1) 59 4 0 (([] : List (Bool × aSt)).map Qw)), (3, .arrA ((j 4).1 0) 42 2 (mA w.2)), (4, (Zc v q.1.Of q.1.Many ((j 4).1 0) ((j 4).1 1))), (6, (Q8 a ab.2.b ab.2.bad))], [(6, (Q8 a y.1.b y.1.bad)), (4, (Zc v q.1.Of q.1.Many ((m 4).1 0) ((m 4).1 1))), (3, .arrA ((m 4).1 0) 42 2 (mA w.2)), (2, .arrX ((m 4).1 1) 59 4 0 (y.2.map Qw)), (5, (Zl p a))]⟩) [4] (fun m γ' h => by simp only [h 4 (by decide)]) (fun m t hm => oF rfl rfl (Q2 (is := [6, 4, 3, 2, 5]) (ph := []) rfl (dk rfl) Try.func31 rfl rfl (Q3.cons hm.s0 (Q3.cons hm.s1 (Q3.cons hm.s2 Q3.nil))) (tbr_times_i1_T K (bx0 := a) (bx2c0 := v) (wx2c0c1 := ((j 4).1 0)) (wx2c0c2 := ((j 4).1 1)) (bx2c1 := p) am) (.cons (hm.objs (6, _) (.tail _ (.tail _ (.tail _ (.tail _ (.head _)))))) rfl (.cons (hm.objs (4, _) (.tail _ (.tail _ (.tail _ (.head _))))) rfl (.cons hm.o2 rfl (.cons hm.o1 rfl (.cons hm.o0 rfl (.nil)))))) (fun _ => rfl) (fun g => ⟨(g, 0), rfl⟩))) (fun m => Zq rfl rfl) ?_
 refine Vi (s1 := fun m => ⟨[(2, .ptr ac 0), (4, .ptr p 0), (5, .ptr v 0)], [.arrX (Mn 36) 59 4 0 (([] : List (Bool × aSt)).map Qw), .arrA (Mn 35) 42 2 (([] : List Zb).map (Zb.dc .i64)), .arrX ((m 4).1 1) 59 4 0 (y.2.map Qw), .arrA ((m 4).1 0) 42 2 (mA w.2), (Zc v q.1.Of q.1.Many ((m 4).1 0) ((m 4).1 1)), (Zl p a), (Q8 a y.1.b y.1.bad), (Zc ac (Qx.mk fun _ => 0) (0:Int) (Mn 35) (Mn 36))]⟩) (ms := [0, 0, 2, 0, 15]) Q7 rfl (by kernel_rfl) (by kernel_rfl) (by kernel_rfl) (fun m => by kernel_rfl) (fun m => sf rfl) (fun _ => rfl) (fun m u hu => (tN (Qc hu ?_)))
 refine T.seq ?_
 refine T.seq (Qq ?_)
 refine sp rfl (Qg rfl (dk rfl) Xe rfl i26 (by decide) rfl ?_)
 refine sp rfl (Qm (i := 4) rfl (dk rfl) X5 rfl rfl rfl rfl ?_)
 refine sp rfl (By (i := 2) (xs := y.2) (f := Qw) rfl (dk rfl) X5 rfl rfl ?_)
 refine mw rfl ?_
 refine TL'.nil (tN ?_)
 refine T.block ?_
 refine T.loop ?_
 refine Qb ?_ (tb_Decode_l0_T K K (y.2.length : Int) (0:Int) (Qx.mk fun _ => 0) y.1.b y.1.bad q.1.Of q.1.Many w.2 y.2 ac (Mn 35) (Mn 36) p a v ((m 4).1 0) ((m 4).1 1) h)
 exact tr rfl (.c (.s (.s (.s (.s (.s (.s (.s .z))))))) (.c (.s .z) (.c .z (.c (.s (.s (.s .z))) (.c (.s (.s (.s .z))) (.c (.s (.s .z)) (.c (.s .z) (.c .z (.n _)))))))))
abbrev r4r_some_q (bx0 : Nat) (r : (List Int) × r4r) : ES := Jk tp Try.f57 (fun y t => ∃ γ : Nat → Value, y = (.sl false 1 (mU r.1)) ∧ t = [(Yt bx0 r.2.b r.2.bad)])
theorem r4r_some_T (K : Nat) {x0 : r4r} {x1 : Int} {bx0 : Nat} {r : (List Int) × r4r} (h : Kh K x0 x1 = some r) : Uz tp 57 [.ptr bx0 0, .int .i64 x1] [(Yt bx0 x0.b x0.bad)] (fun γ => (.sl false 1 (mU r.1))) (fun γ => [(Yt bx0 r.2.b r.2.bad)]) := by
 refine Qt Try.func57 rfl (nb rfl) ?_
 show T tp 34 (ca [] Try.f57) ⟨Qv 0 [.ptr bx0 0, .int .i64 x1], [(Yt bx0 x0.b x0.bad)]⟩ (r4r_some_q bx0 r)
 unfold Kh at h
 refine T.seq (Qq ?_)
 refine aw rfl ?_
 refine TL'.nil (tN ?_)
 refine T.seq ?_
 refine T.seq (Qq ?_)
 refine mw rfl ?_
 refine mw rfl ?_
 refine sp rfl (OpT.nilCheck rfl (dk rfl) rfl rfl ?_)
 refine sp rfl (Qg rfl (dk rfl) ul86 rfl i29 (by decide) rfl ?_)
 refine sp rfl (Qm (i := 0) rfl (dk rfl) Xg rfl rfl rfl rfl ?_)
 refine sp rfl (Qn (xs := x0.b) (f := (cI .u8)) rfl (dk rfl) Xg rfl ?_)
 refine sp rfl (Qa rfl rfl (dk rfl) rfl rfl ?_)
 refine TL'.nil (tN ?_)
 rcases Qd h with ⟨a, h⟩ | ⟨a, h⟩
 refine Qk rfl a ?_
 refine T.seq (Qq ?_)
 refine mw rfl ?_
 refine sp rfl (OpT.nilCheck rfl (dk rfl) rfl rfl ?_)
 refine sp rfl (Qg rfl (dk rfl) ul86 rfl i4 (by decide) rfl ?_)
 refine sp rfl (Xd (i := 0) (cells' := [.d (.sl false 1 (mU x0.b)), .d (.bool true)]) rfl rfl i4 rfl rfl rfl (nb rfl) rfl ?_)
 refine TL'.nil (tN (T.seq (Qq ?_)))
 refine aw rfl ?_
 refine TL'.nil (tN ?_)
 refine T.ret (Ql ?_)
 refine Xf (N1 4 false 1 rfl) ?_
 exact Q6 (.cons _ _ _ _ (.tmp 4 _ rfl) .nil) (.cons 0 rfl (.nil _)) (by cases h; exact ⟨gl [], rfl, rfl⟩)
 refine Qo rfl a ?_
 refine T.skip (tN ?_)
 refine T.seq (Qq ?_)
 refine sp rfl (OpT.buildSlice (elems := ([] : List Int).map (cI .u8)) rfl (dk rfl) Xg i5 (by decide) rfl (J6 rfl) rfl rfl rfl (Yp rfl) (by decide) ?_)
 refine mw rfl ?_
 refine sp rfl (OpT.nilCheck rfl (dk rfl) rfl rfl ?_)
 refine sp rfl (Qg rfl (dk rfl) ul86 rfl i29 (by decide) rfl ?_)
 refine sp rfl (Qm (i := 0) rfl (dk rfl) Xg rfl rfl rfl rfl ?_)
 refine mw rfl ?_
 obtain ⟨c, h⟩ := Zh h
 refine sp rfl (M0 (xs := x0.b) (f := (cI .u8)) (l := 0) (h := (Int.toNat x1)) rfl (dk rfl) Xg i5 rfl (.none _) (.some _ _ _ _ rfl c.1) c.2.1 c.2.2 ?_)
 obtain ⟨j, h⟩ := Zh h
 refine sp rfl (C9 (xs := ([] : List Int)) (ys := ((x0.b.take (Int.toNat x1)).drop 0)) (f := (cI .u8)) rfl (dk rfl) Xg i5 rfl rfl rfl (.inr rfl) j (fun m => ?_))
 refine aw rfl ?_
 refine TL'.nil (tN (T.seq (Qq ?_)))
 refine mw rfl ?_
 refine mw rfl ?_
 refine sp rfl (OpT.nilCheck rfl (dk rfl) rfl rfl ?_)
 refine sp rfl (Qg rfl (dk rfl) ul86 rfl i29 (by decide) rfl ?_)
 refine sp rfl (Qm (i := 1) rfl (dk rfl) Xg rfl rfl rfl rfl ?_)
 refine mw rfl ?_
 obtain ⟨g, h⟩ := Zh h
 refine sp rfl (M0 (xs := x0.b) (f := (cI .u8)) (l := (Int.toNat x1)) (h := x0.b.length) rfl (dk rfl) Xg i5 rfl (.some _ _ _ _ rfl g.1) (.none _) g.2.1 g.2.2 ?_)
 refine sp rfl (OpT.nilCheck rfl (dk rfl) rfl rfl ?_)
 refine sp rfl (Qg rfl (dk rfl) ul86 rfl i29 (by decide) rfl ?_)
 refine sp rfl (Xd (i := 1) (cells' := [.d (.sl false 1 (((x0.b.take x0.b.length).drop (Int.toNat x1)).map (cI .u8))), .d (.bool x0.bad)]) rfl rfl i29 rfl rfl rfl (nb rfl) rfl ?_)
 refine TL'.nil (tN (T.seq (Qq ?_)))
 refine mw rfl ?_
 refine aw rfl ?_
 refine TL'.nil (tN ?_)
 refine T.ret ?_
 refine Xf (Zn.view 4 0 rfl rfl) ?_
 exact Q6 (.cons _ _ _ _ (.tmp 4 _ rfl) .nil) (.cons 1 rfl (.nil _)) (by cases h; exact ⟨gl [], rfl, rfl⟩)
abbrev Qas (bx0 : Nat) (r : Int × r4r) : ES := Jk tp Try.f58 (fun y t => ∃ γ : Nat → Value, y = (.int .i64 r.1) ∧ t = [(Yt bx0 r.2.b r.2.bad)])
abbrev r4r_num_qs1111 (bx0 : Nat) (r : Int × r4r) : ES := thenS (fun s' => T tp 56 (ca [1,1,1,1] Try.f58) s' ((Qas bx0 r))) ((Qas bx0 r))
abbrev K9 (bx0 : Nat) (r : Int × r4r) : ES := Qz 0 ((r4r_num_qs1111 bx0 r))
abbrev Fj (bx0 : Nat) (r : Int × r4r) : ES := thenS (fun s' => TL tp 56 (ca [1,1,1,0,1,0,0] Try.f58) s' ((K9 bx0 r))) ((K9 bx0 r))
abbrev Rw (bx0 : Nat) (r : Int × r4r) : ES := thenS (fun s' => T tp 56 (ca [1,1,1,0,1,0,0,1] Try.f58) s' ((Fj bx0 r))) ((Fj bx0 r))
theorem Ts {r : Int × r4r} (K bx0 : Nat) (x0 : r4r) (h : Nw K x0 = some r) : T tp 56 (ca [1,1,1,0,1,0,0,0,1,1] Try.f58) ⟨[(0, .ptr bx0 0)], [(Yt bx0 x0.b x0.bad)]⟩ (Rw bx0 r) := by
 unfold Nw at h
 refine T.exit (Qf (Qf (Qp (tN ?_))))
 refine T.seq (Qq ?_)
 refine mw rfl ?_
 refine sp rfl (OpT.nilCheck rfl (dk rfl) rfl rfl ?_)
 refine sp rfl (Qg rfl (dk rfl) ul86 rfl i4 (by decide) rfl ?_)
 refine sp rfl (Xd (i := 0) (cells' := [.d (.sl false 1 (mU x0.b)), .d (.bool true)]) rfl rfl i4 rfl rfl rfl (nb rfl) rfl ?_)
 refine TL'.nil (tN (T.seq (Qq ?_)))
 refine aw rfl ?_
 refine TL'.nil (tN ?_)
 refine T.ret ?_
 exact Q6 (.cons _ _ _ _ (.tmp 2 _ rfl) .nil) (.cons 0 rfl (.nil _)) (by cases h; exact ⟨gl [], rfl, rfl⟩)
theorem r4r_num_l0_T {r : Int × r4r} (K bx0 : Nat) : ∀ (k : Nat), ∀ (m j g : Int) (x0 : r4r), H9 K k m j g x0 = some r → TL tp 56 (ca [1,1,1,0,1,0,0] Try.f58) ⟨[(0, .ptr bx0 0), (3, .int .i64 m), (4, .int .i64 j), (5, .int .i64 g)], [(Yt bx0 x0.b x0.bad)]⟩ (K9 bx0 r) := by
 intro k
 induction k with
 | zero =>
  intro m j g x0 h
  cases (show (none : Option (Int × r4r)) = some r from h)
 | succ k ih =>
  intro m j g x0 h
  rw [H9] at h
  refine Q4 ?_
  refine T.seq ?_
  refine T.seq (Qq ?_)
  refine mw rfl ?_
  refine sp rfl (Qa rfl rfl (dk rfl) rfl rfl ?_)
  refine mw rfl ?_
  rcases Qd h with ⟨a, h⟩ | ⟨a, h⟩
  refine sn rfl a (OpT.move rfl (dk rfl) rfl ?_)
  refine sn rfl a (OpT.move rfl (dk rfl) rfl ?_)
  refine sn rfl a (OpT.nilCheck rfl (dk rfl) rfl rfl ?_)
  refine sn rfl a (Qg rfl (dk rfl) ul86 rfl i29 (by decide) rfl ?_)
  refine sn rfl a (Qm (i := 0) rfl (dk rfl) Xg rfl rfl rfl rfl ?_)
  refine sn rfl a (Qn (xs := x0.b) (f := (cI .u8)) rfl (dk rfl) Xg rfl ?_)
  refine sn rfl a (Qa rfl rfl (dk rfl) rfl rfl ?_)
  refine sp rfl (Qi rfl (dk rfl) rfl a rfl ?_)
  refine TL'.nil (tN ?_)
  rcases Qd h with ⟨p, h⟩ | ⟨p, h⟩
  refine Qk rfl p ?_
  refine T.skip (tN ?_)
  refine T.seq ?_
  refine T.block ?_
  refine T.seq (Qq ?_)
  refine mw rfl ?_
  refine mw rfl ?_
  refine sp rfl (OpT.nilCheck rfl (dk rfl) rfl rfl ?_)
  refine sp rfl (Qg rfl (dk rfl) ul86 rfl i29 (by decide) rfl ?_)
  refine sp rfl (Qm (i := 0) rfl (dk rfl) Xg rfl rfl rfl rfl ?_)
  refine mw rfl ?_
  obtain ⟨q, w, h⟩ := bind_some h
  refine sp rfl (Qh (xs := x0.b) (f := (cI .u8)) (v := q) rfl (dk rfl) Xg i5 rfl rfl w ?_)
  refine sp rfl (Qr rfl (dk rfl) ul5 rfl rfl rfl ?_)
  refine sp rfl (OpT.rem rfl (dk rfl) rfl rfl (by decide) ?_)
  refine sp rfl (Z9 rfl (dk rfl) ul5 ul3 rfl ?_)
  refine mw rfl ?_
  refine sp rfl (Qa rfl rfl (dk rfl) rfl rfl ?_)
  refine sp rfl (Qa rfl rfl (dk rfl) rfl rfl ?_)
  refine aw rfl ?_
  refine TL'.nil (tN (T.seq (Qq ?_)))
  refine mw rfl ?_
  refine sp rfl (Qa rfl rfl (dk rfl) rfl rfl ?_)
  refine aw rfl ?_
  refine TL'.nil (tN (T.seq (Qq ?_)))
  refine mw rfl ?_
  refine sp rfl (OpT.nilCheck rfl (dk rfl) rfl rfl ?_)
  refine sp rfl (Qg rfl (dk rfl) ul86 rfl i29 (by decide) rfl ?_)
  refine sp rfl (Qm (i := 0) rfl (dk rfl) Xg rfl rfl rfl rfl ?_)
  refine mw rfl ?_
  refine sp rfl (Qh (xs := x0.b) (f := (cI .u8)) (v := q) rfl (dk rfl) Xg i5 rfl rfl w ?_)
  refine sp rfl (Qr rfl (dk rfl) ul5 rfl rfl rfl ?_)
  refine sp rfl (Qa rfl rfl (dk rfl) rfl rfl ?_)
  refine TL'.nil (tN ?_)
  rcases Qd h with ⟨s, h⟩ | ⟨s, h⟩
  refine Qk rfl s ?_
  refine T.seq (Qq ?_)
  refine mw rfl ?_
  refine mw rfl ?_
  refine sp rfl (OpT.nilCheck rfl (dk rfl) rfl rfl ?_)
  refine sp rfl (Qg rfl (dk rfl) ul86 rfl i29 (by decide) rfl ?_)
  refine sp rfl (Qm (i := 0) rfl (dk rfl) Xg rfl rfl rfl rfl ?_)
  refine mw rfl ?_
  refine sp rfl (Qa rfl rfl (dk rfl) rfl rfl ?_)
  obtain ⟨u, h⟩ := Zh h
  refine sp rfl (M0 (xs := x0.b) (f := (cI .u8)) (l := (Int.toNat (wI (g + (1:Int))))) (h := x0.b.length) rfl (dk rfl) Xg i5 rfl (.some _ _ _ _ rfl u.1) (.none _) u.2.1 u.2.2 ?_)
  refine sp rfl (OpT.nilCheck rfl (dk rfl) rfl rfl ?_)
  refine sp rfl (Qg rfl (dk rfl) ul86 rfl i29 (by decide) rfl ?_)
  refine sp rfl (Xd (i := 0) (cells' := [.d (.sl false 1 (((x0.b.take x0.b.length).drop (Int.toNat (wI (g + (1:Int))))).map (cI .u8))), .d (.bool x0.bad)]) rfl rfl i29 rfl rfl rfl (nb rfl) rfl ?_)
  refine TL'.nil (tN (T.seq (Qq ?_)))
  refine mw rfl ?_
  refine aw rfl ?_
  refine TL'.nil (tN ?_)
  refine T.ret (Qy (Ql (Ql (Qy (Ql ?_)))))
  exact Q6 (.cons _ _ _ _ (.tmp 2 _ rfl) .nil) (.cons 0 rfl (.nil _)) (by cases h; exact ⟨gl [], rfl, rfl⟩)
  refine Qo rfl s ?_
  refine T.skip (Qe (tN ?_))
  refine Qq ?_
  refine mw rfl ?_
  refine sp rfl (Qa rfl rfl (dk rfl) rfl rfl ?_)
  refine aw rfl ?_
  refine TL'.nil (tN ?_)
  refine Qb ?_ (ih (wI (m + (wI ((wI (Int.tmod q (128:Int))) * j)))) (wI (j * (128:Int))) (wI (g + (1:Int))) x0 h)
  exact tq rfl rfl
  refine Qo rfl p ?_
  refine Qc ?_ (Ts K bx0 x0 h)
  exact tq rfl rfl
  refine pf rfl a ?_
  refine pf rfl a ?_
  refine pf rfl a ?_
  refine pf rfl a ?_
  refine pf rfl a ?_
  refine pf rfl a ?_
  refine pf rfl a ?_
  refine sp rfl (Qs rfl (dk rfl) rfl a rfl ?_)
  refine TL'.nil (tN ?_)
  refine Qo rfl rfl ?_
  refine Qc ?_ (Ts K bx0 x0 h)
  exact tq rfl rfl
theorem Kp (K : Nat) {x0 : r4r} {bx0 : Nat} {r : Int × r4r} (h : Ma K x0 = some r) : Uz tp 58 [.ptr bx0 0] [(Yt bx0 x0.b x0.bad)] (fun γ => (.int .i64 r.1)) (fun γ => [(Yt bx0 r.2.b r.2.bad)]) := by
 refine Qt Try.func58 rfl (nb rfl) ?_
 show T tp 56 (ca [] Try.f58) ⟨Qv 0 [.ptr bx0 0], [(Yt bx0 x0.b x0.bad)]⟩ (Qas bx0 r)
 unfold Ma at h
 refine T.seq (Qq ?_)
 refine aw rfl ?_
 refine TL'.nil (tN (T.seq (Qq ?_)))
 refine aw rfl ?_
 refine TL'.nil (tN (T.seq (Qq ?_)))
 refine aw rfl ?_
 refine TL'.nil (tN ?_)
 refine T.seq ?_
 refine T.seq (Qq ?_)
 refine aw rfl ?_
 refine TL'.nil (tN ?_)
 refine T.block ?_
 refine T.loop ?_
 refine Qb ?_ (r4r_num_l0_T K bx0 K (0:Int) (1:Int) (0:Int) x0 h)
 exact tq rfl rfl
abbrev S0 (bx0 : Nat) (r : (List Int) × r4r) : ES := Jk tp Try.f59 (fun y t => ∃ γ : Nat → Value, y = (.sl false 1 (mI r.1)) ∧ t = [(Yt bx0 r.2.b r.2.bad)])
abbrev Qat (bx0 : Nat) (r : (List Int) × r4r) : ES := thenS (fun s' => T tp 26 (ca [1,1,1,1] Try.f59) s' ((S0 bx0 r))) ((S0 bx0 r))
abbrev Ly (bx0 : Nat) (r : (List Int) × r4r) : ES := Qz 0 ((Qat bx0 r))
abbrev Dv (bx0 : Nat) (r : (List Int) × r4r) : ES := thenS (fun s' => TL tp 26 (ca [1,1,1,0,1,0,0] Try.f59) s' ((Ly bx0 r))) ((Ly bx0 r))
abbrev Px (bx0 : Nat) (r : (List Int) × r4r) : ES := thenS (fun s' => T tp 26 (ca [1,1,1,0,1,0,0,1] Try.f59) s' ((Dv bx0 r))) ((Dv bx0 r))
theorem Rx {r : (List Int) × r4r} (K bx0 : Nat) (a b : List Int) (f : Bool) (g : Value) (h : Es K a b f = some r) : T tp 26 (ca [1,1,1,0,1,0,0,0,1,1] Try.f59) ⟨[(3, .c (.ex g))], [.arrA g 3 1 (mI a), (Yt bx0 b f)]⟩ (Px bx0 r) := by
 unfold Es at h
 refine T.exit (Qf (Qf (Qp (tN ?_))))
 refine T.seq (Qq ?_)
 refine mw rfl ?_
 refine aw rfl ?_
 refine TL'.nil (tN ?_)
 refine T.ret ?_
 refine Xf (Zn.view 2 0 rfl rfl) ?_
 exact Q6 (.cons _ _ _ _ (.tmp 2 _ rfl) .nil) (.cons 1 rfl (.nil _)) (by cases h; exact ⟨gl [], rfl, rfl⟩)
theorem r4r_list_l0_T {r : (List Int) × r4r} (K bx0 : Nat) : ∀ (k : Nat), ∀ (p q : Int) (j : List Int) (l : Bool) (g : List Int) (m : Value), Uw K k p q j l g = some r → TL tp 26 (ca [1,1,1,0,1,0,0] Try.f59) ⟨[(0, .ptr bx0 0), (3, .c (.ex m)), (4, .int .i64 p), (5, .int .i64 q)], [(Yt bx0 j l), .arrA m 3 1 (mI g)]⟩ (Ly bx0 r) := by
 intro k
 induction k with
 | zero =>
  intro p q j l g m h
  cases (show (none : Option ((List Int) × r4r)) = some r from h)
 | succ k ih =>
  intro p q j l g m h
  rw [Uw] at h
  refine Q4 ?_
  refine T.seq ?_
  refine T.seq (Qq ?_)
  refine mw rfl ?_
  refine mw rfl ?_
  refine sp rfl (Qa rfl rfl (dk rfl) rfl rfl ?_)
  refine mw rfl ?_
  rcases Qd h with ⟨a, h⟩ | ⟨a, h⟩
  refine sn rfl a (OpT.move rfl (dk rfl) rfl ?_)
  refine sn rfl a (OpT.nilCheck rfl (dk rfl) rfl rfl ?_)
  refine sn rfl a (Qg rfl (dk rfl) ul86 rfl i4 (by decide) rfl ?_)
  refine sn rfl a (Qm (i := 0) rfl (dk rfl) ul4 rfl rfl rfl rfl ?_)
  refine sn rfl a (OpT.not rfl (dk rfl) rfl ?_)
  refine sp rfl (Qi rfl (dk rfl) rfl a rfl ?_)
  refine TL'.nil (tN ?_)
  rcases Qd h with ⟨v, h⟩ | ⟨v, h⟩
  refine Qk rfl v ?_
  refine T.skip (tN ?_)
  refine T.seq ?_
  refine T.block ?_
  refine Qq ?_
  refine mw rfl ?_
  refine mw rfl ?_
  obtain ⟨u, w, h⟩ := bind_some h
  refine sp rfl (Q2 (is := [0]) (ph := []) rfl (dk rfl) Try.func58 rfl rfl (Q3.cons rfl Q3.nil) (Kp K (bx0 := bx0) w) (.cons rfl rfl (.nil)) (fun _ => rfl) (fun ab => ?_))
  refine nm (.c (.c (.n))) ?_
  refine sp rfl (OpT.buildSlice (elems := ([u.1] : List Int).map (cI .i64)) rfl (dk rfl) Yd i3 (by decide) rfl (J6 rfl) rfl rfl rfl (Yp rfl) (by decide) ?_)
  obtain ⟨y, h⟩ := Zh h
  refine sp rfl (Za (i := 1) (xs := g) (ys := [u.1]) (f := (cI .i64)) rfl (dk rfl) Yd i3 rfl rfl rfl rfl y (fun aa => ?_))
  refine aw rfl ?_
  refine TL'.nil (Qe (tN ?_))
  refine Qq ?_
  refine mw rfl ?_
  refine sp rfl (Qa rfl rfl (dk rfl) rfl rfl ?_)
  refine aw rfl ?_
  refine TL'.nil (tN ?_)
  refine Qb ?_ (ih p (wI (q + (1:Int))) u.2.b u.2.bad (g ++ [u.1]) aa h)
  exact tq rfl rfl
  refine Qo rfl v ?_
  refine Qc ?_ (Rx K bx0 g j l m h)
  exact tr rfl (.c (.s .z) (.c .z (.n _)))
  refine pf rfl a ?_
  refine pf rfl a ?_
  refine pf rfl a ?_
  refine pf rfl a ?_
  refine pf rfl a ?_
  refine sp rfl (Qs rfl (dk rfl) rfl a rfl ?_)
  refine TL'.nil (tN ?_)
  refine Qo rfl rfl ?_
  refine Qc ?_ (Rx K bx0 g j l m h)
  exact tr rfl (.c (.s .z) (.c .z (.n _)))
theorem r4r_list_T (K : Nat) {x0 : r4r} {bx0 : Nat} {r : (List Int) × r4r} (h : Nx K x0 = some r) : Uz tp 59 [.ptr bx0 0] [(Yt bx0 x0.b x0.bad)] (fun γ => (.sl false 1 (mI r.1))) (fun γ => [(Yt bx0 r.2.b r.2.bad)]) := by
 refine Qt Try.func59 rfl (nb rfl) ?_
 show T tp 26 (ca [] Try.f59) ⟨Qv 0 [.ptr bx0 0], [(Yt bx0 x0.b x0.bad)]⟩ (S0 bx0 r)
 unfold Nx at h
 refine T.seq (Qq ?_)
 refine aw rfl ?_
 refine TL'.nil (tN (T.seq (Qq ?_)))
 refine aw rfl ?_
 refine TL'.nil (tN (T.seq (Qq ?_)))
 refine mw rfl ?_
 obtain ⟨a, f, h⟩ := bind_some h
 refine sp rfl (Q2 (is := [0]) (ph := []) rfl (dk rfl) Try.func58 rfl rfl (Q3.cons rfl Q3.nil) (Kp K (bx0 := bx0) f) (.cons rfl rfl (.nil)) (fun _ => rfl) (fun g => ?_))
 refine nm (.c (.n)) ?_
 refine aw rfl ?_
 refine TL'.nil (tN ?_)
 refine T.seq ?_
 refine T.seq (Qq ?_)
 refine aw rfl ?_
 refine TL'.nil (tN ?_)
 refine T.block ?_
 refine T.loop ?_
 refine Qb (Yc 3 1) ?_
 refine Qb ?_ (r4r_list_l0_T K bx0 K a.1 (0:Int) a.2.b a.2.bad [] (Mn 2) h)
 exact tr rfl (.c (.s .z) (.c .z (.n _)))
end Go.Rv

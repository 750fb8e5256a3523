/- Each function computes what its plain text says: printed by a program of ours. -/
import Derived.Test.YtaipjabggdifoaaRgW5
namespace Go.Rv
open Go.Proofs
set_option maxRecDepth 100000
set_option maxHeartbeats 4000000
set_option linter.unusedVariables false
abbrev F1 (bx0 bx2c0 bx2c1 : Nat) (r : tbr × (List Int)) : ES := Jt tp Try.f31 (fun y t => ∃ γ : Nat → Value, y = (.tup []) ∧ t = [(Q3 bx0 r.1.b r.1.bad), (Lj bx2c0 (γ 0)), .arrA (γ 0) 3 1 (mI r.2), (Zi bx2c1 bx0)])
abbrev Gk (bx0 bx2c0 bx2c1 : Nat) (r : tbr × (List Int)) : ES := Q0 0 ((F1 bx0 bx2c0 bx2c1 r))
abbrev Bq (bx0 bx2c0 bx2c1 : Nat) (r : tbr × (List Int)) : ES := thenS (fun s' => TL tp 21 (ca [1,0,0] Try.f31) s' ((Gk bx0 bx2c0 bx2c1 r))) ((Gk bx0 bx2c0 bx2c1 r))
abbrev Ib (bx0 bx2c0 bx2c1 : Nat) (r : tbr × (List Int)) : ES := thenS (fun s' => T tp 21 (ca [1,0,0,1] Try.f31) s' ((Bq bx0 bx2c0 bx2c1 r))) ((Bq bx0 bx2c0 bx2c1 r))
theorem Br {r : tbr × (List Int)} (K bx0 : Nat) (bx2c0 bx2c1 : Nat) (b : ByteArray) (c : Bool) (f : List Int) (a : Value) (h : Hr K b c f = some r) : T tp 21 (ca [1,0,0,0,1,1] Try.f31) ⟨[], [(Q3 bx0 b c), (Lj bx2c0 a), .arrA a 3 1 (mI f), (Zi bx2c1 bx0)]⟩ (Ib bx0 bx2c0 bx2c1 r) := by
 unfold Hr at h
 refine T.exit (Qh (Qh (Qq ?_)))
 exact Q8 (.nil) (.cons 0 rfl (.cons 0 rfl (.cons 0 rfl (.cons 0 rfl (.nil _))))) (by cases h; exact ⟨gl [a], rfl, rfl⟩)
theorem Oe {r : tbr × (List Int)} (K bx0 : Nat) (bx2c0 bx2c1 : Nat) : ∀ (k : Nat), ∀ (x1 p : Int) (j : ByteArray) (l : Bool) (m : List Int) (g : Value), Yj K k x1 p j l m = some r → TL tp 21 (ca [1,0,0] Try.f31) ⟨[(0, .ptr bx0 0), (1, .int .i64 x1), (2, .c (.ex (.func (.func 56) #[] #[.pointer (some ⟨bx2c0, 0, none⟩), .pointer (some ⟨bx2c1, 0, none⟩)]))), (6, .int .i64 p)], [(Q3 bx0 j l), (Lj bx2c0 g), .arrA g 3 1 (mI m), (Zi bx2c1 bx0)]⟩ (Gk bx0 bx2c0 bx2c1 r) := by
 intro k
 induction k with
 | zero =>
  intro x1 p j l m g h
  cases (show (none : Option (tbr × (List Int))) = some r from h)
 | succ k ih =>
  intro x1 p j l m g h
  rw [Yj] at h
  refine Za ?_
  refine T.seq ?_
  refine T.seq (Qr ?_)
  refine mw rfl ?_
  refine mw rfl ?_
  refine sp rfl (Qa rfl rfl (dk rfl) rfl rfl ?_)
  refine mw rfl ?_
  rcases Qb h with ⟨a, h⟩ | ⟨a, h⟩
  refine sn rfl a (OpT.move rfl (dk rfl) rfl ?_)
  refine sn rfl a (OpT.nilCheck rfl (dk rfl) rfl rfl ?_)
  refine sn rfl a (Ql rfl (dk rfl) ul75 rfl i4 (by decide) rfl ?_)
  refine sn rfl a (Qo (i := 0) rfl (dk rfl) ul4 rfl rfl rfl rfl ?_)
  refine sn rfl a (OpT.not rfl (dk rfl) rfl ?_)
  refine sp rfl (Qf rfl (dk rfl) rfl a rfl ?_)
  refine TL'.nil (tN ?_)
  rcases Qb h with ⟨q, h⟩ | ⟨q, h⟩
  refine Qk rfl q ?_
  refine T.skip (tN ?_)
  refine T.seq ?_
  refine T.block ?_
  refine Qr ?_
  refine mw rfl ?_
  obtain ⟨s, u, h⟩ := bind_some h
  refine sp rfl (C7 (f := 56) (vs := [.pointer (some ⟨bx2c0, 0, none⟩), .pointer (some ⟨bx2c1, 0, none⟩)]) rfl rfl (dk rfl) Try.func56 rfl rfl (Q6 (is := [1, 2, 3, 0]) (ph := []) rfl (dk rfl) Try.func56 rfl rfl (Q5.cons rfl (Q5.cons rfl Q5.nil)) (tbr_list_1_T K (bx0 := bx2c0) (wx0 := g) (bx1 := bx2c1) (bx1_p := bx0) u) (.cons rfl rfl (.cons rfl rfl (.cons rfl rfl (.cons rfl rfl (.nil))))) (fun _ => rfl) (fun v => ?_)))
  refine nm (.c (.c (.c (.c (.n))))) ?_
  refine TL'.nil (Qe (tN ?_))
  refine Qr ?_
  refine mw rfl ?_
  refine sp rfl (Qa rfl rfl (dk rfl) rfl rfl ?_)
  refine aw rfl ?_
  refine TL'.nil (tN ?_)
  refine Qc ?_ (ih x1 (wI (p + (1:Int))) s.2.b s.2.bad s.1 (v 0) h)
  exact tq rfl rfl
  refine Qp rfl q ?_
  refine Qd ?_ (Br K bx0 bx2c0 bx2c1 j l m g h)
  exact tq rfl rfl
  refine pf rfl a ?_
  refine pf rfl a ?_
  refine pf rfl a ?_
  refine pf rfl a ?_
  refine pf rfl a ?_
  refine sp rfl (Qm rfl (dk rfl) rfl a rfl ?_)
  refine TL'.nil (tN ?_)
  refine Qp rfl rfl ?_
  refine Qd ?_ (Br K bx0 bx2c0 bx2c1 j l m g h)
  exact tq rfl rfl
theorem tbr_times_i2_T (K : Nat) {x0 : tbr} {x1 : Int} {x2c0 : List Int} {bx0 bx2c0 : Nat} {wx2c0 : Value} {bx2c1 : Nat} {r : tbr × (List Int)} (h : Mu K x0 x1 x2c0 = some r) : J2 tp 31 [.ptr bx0 0, .int .i64 x1, .c (.ex (.func (.func 56) #[] #[.pointer (some ⟨bx2c0, 0, none⟩), .pointer (some ⟨bx2c1, 0, none⟩)]))] [(Q3 bx0 x0.b x0.bad), (Lj bx2c0 wx2c0), .arrA wx2c0 3 1 (mI x2c0), (Zi bx2c1 bx0)] (fun γ => (.tup [])) (fun γ => [(Q3 bx0 r.1.b r.1.bad), (Lj bx2c0 (γ 0)), .arrA (γ 0) 3 1 (mI r.2), (Zi bx2c1 bx0)]) := by
 refine Qs Try.func31 rfl (nb rfl) ?_
 show T tp 21 (ca [] Try.f31) ⟨Qv 0 [.ptr bx0 0, .int .i64 x1, .c (.ex (.func (.func 56) #[] #[.pointer (some ⟨bx2c0, 0, none⟩), .pointer (some ⟨bx2c1, 0, none⟩)]))], [(Q3 bx0 x0.b x0.bad), (Lj bx2c0 wx2c0), .arrA wx2c0 3 1 (mI x2c0), (Zi bx2c1 bx0)]⟩ (F1 bx0 bx2c0 bx2c1 r)
 unfold Mu at h
 refine T.seq (Qr ?_)
 refine aw rfl ?_
 refine TL'.nil (tN ?_)
 refine T.block ?_
 refine T.loop ?_
 refine Qc ?_ (Oe K bx0 bx2c0 bx2c1 K x1 (0:Int) x0.b x0.bad x2c0 wx2c0 h)
 exact tq rfl rfl
abbrev tbr_list_q (bx0 : Nat) (r : (List Int) × tbr) : ES := Jt tp Try.f35 (fun y t => ∃ γ : Nat → Value, y = (.sl false 1 (mI r.1)) ∧ t = [(Q3 bx0 r.2.b r.2.bad)])
theorem tbr_list_T (K : Nat) {x0 : tbr} {bx0 : Nat} {r : (List Int) × tbr} (h : E9 K x0 = some r) : J2 tp 35 [.ptr bx0 0] [(Q3 bx0 x0.b x0.bad)] (fun γ => (.sl false 1 (mI r.1))) (fun γ => [(Q3 bx0 r.2.b r.2.bad)]) := by
 refine Qs Try.func35 rfl (nb rfl) ?_
 show T tp 10 (ca [] Try.f35) ⟨Qv 0 [.ptr bx0 0], [(Q3 bx0 x0.b x0.bad)]⟩ (tbr_list_q bx0 r)
 unfold E9 at h
 refine T.seq (Qr ?_)
 refine sp rfl (OpT.box rfl (dk rfl) rfl (fun f => ?_))
 refine aw rfl ?_
 refine TL'.nil (tN (T.seq (Qr ?_)))
 refine sp rfl (Zj rfl (dk rfl) i56 rfl (fun j => ?_))
 refine TL'.nil (tN ?_)
 refine T.seq ?_
 refine Qd (Y7 3 1) ?_
 refine Xi ?_
 refine dC (c := ⟨some 4, .ptr bx0 0, [(1, .ptr f 0)], [(2, (Zi f bx0))], []⟩) (fun t hm => oF rfl rfl (Qo (i := 2) rfl (dk rfl) ul73 rfl hm.s0 hm.o0 rfl ⟨u0, rfl⟩)) (fun _ => rfl) (fun _ => rfl) ?_
 refine dC (c := ⟨some 5, .ptr bx0 0, [(1, .ptr f 0)], [(2, (Zi f bx0))], []⟩) (fun t hm => oF rfl rfl (Qo (i := 2) rfl (dk rfl) ul73 rfl hm.s0 hm.o0 rfl ⟨u0, rfl⟩)) (fun _ => rfl) (fun _ => rfl) ?_
 obtain ⟨l, n, h⟩ := bind_some h
 refine dC (c := ⟨some 6, .int .i64 l.1, [(5, .ptr bx0 0)], [(3, (Q3 bx0 x0.b x0.bad))], [(3, (Q3 bx0 l.2.b l.2.bad))]⟩) (fun t hm => oF rfl rfl (Q6 (is := [3]) (ph := []) rfl (dk rfl) Try.func32 rfl rfl (Q5.cons hm.s0 Q5.nil) (La K (bx0 := bx0) n) (.cons hm.o0 rfl (.nil)) (fun _ => rfl) (fun g => ⟨(g, 0), rfl⟩))) (fun _ => rfl) (fun _ => rfl) ?_
 refine dC (c := ⟨some 7, .c (.ex (.func (.func 56) #[] #[.pointer (some ⟨j, 0, none⟩), .pointer (some ⟨f, 0, none⟩)])), [(3, .ptr j 0), (1, .ptr f 0)], [], []⟩) (fun t hm => oF rfl rfl (OpT.makeFunc (vs := [.pointer (some ⟨j, 0, none⟩), .pointer (some ⟨f, 0, none⟩)]) rfl (dk rfl) (Kh hm.s0 (Kh hm.s1 evs_nil)) ⟨u0, rfl⟩)) (fun _ => rfl) (fun _ => rfl) ?_
 obtain ⟨m, p, h⟩ := bind_some h
 refine DGG.step (c := fun a => ⟨some 8, .tup [], [(4, .ptr bx0 0), (6, .int .i64 l.1), (7, .c (.ex (.func (.func 56) #[] #[.pointer (some ⟨j, 0, none⟩), .pointer (some ⟨f, 0, none⟩)])))], [(2, (Zi f bx0)), (0, .arrA (Df 4) 3 1 (([] : List Int).map (cI .i64))), (1, (Lj j (Df 4))), (3, (Q3 bx0 l.2.b l.2.bad))], [(3, (Q3 bx0 m.1.b m.1.bad)), (1, (Lj j ((a 4).1 0))), (0, .arrA ((a 4).1 0) 3 1 (mI m.2)), (2, (Zi f bx0))]⟩) [4] (fun a γ' h => by simp only [h 4 (by decide)]) (fun a t hm => oF rfl rfl (Q6 (is := [3, 1, 0, 2]) (ph := []) rfl (dk rfl) Try.func31 rfl rfl (Q5.cons hm.s0 (Q5.cons hm.s1 (Q5.cons hm.s2 Q5.nil))) (tbr_times_i2_T K (bx0 := bx0) (bx2c0 := j) (wx2c0 := (Df 4)) (bx2c1 := f) p) (.cons (hm.objs (3, _) (.tail _ (.tail _ (.tail _ (.head _))))) rfl (.cons hm.o2 rfl (.cons hm.o1 rfl (.cons hm.o0 rfl (.nil))))) (fun _ => rfl) (fun g => ⟨(g, 0), rfl⟩))) (fun a => Zq rfl rfl) ?_
 refine Vz (s1 := fun a => ⟨[(3, .ptr j 0)], [.arrA ((a 4).1 0) 3 1 (mI m.2), (Lj j ((a 4).1 0)), (Zi f bx0), (Q3 bx0 m.1.b m.1.bad)]⟩) (ms := [0, 0, 2, 0, 15]) Q7 rfl (by kernel_rfl) (by kernel_rfl) (by kernel_rfl) (fun a => by kernel_rfl) (fun a => sf rfl) (fun _ => rfl) (fun a u hu => (tN (Qd hu ?_)))
 refine T.seq (Qr ?_)
 refine sp rfl (Qo (i := 1) rfl (dk rfl) Yo rfl rfl rfl rfl ?_)
 refine aw rfl ?_
 refine TL'.nil (tN ?_)
 refine T.ret ?_
 refine Vd (Zn.view 2 0 rfl rfl) ?_
 exact Q8 (.cons _ _ _ _ (.tmp 2 _ rfl) .nil) (.cons 3 rfl (.nil _)) (by cases h; exact ⟨gl [], rfl, rfl⟩)
abbrev tb_Decode_2_q (bx0 bx1 bx1_p : Nat) (x0c0 : aSp) (x0c1 : List Ze) (r : (List (Bool × aSt)) × tbr) : ES := Jt tp Try.f34 (fun y t => ∃ γ : Nat → Value, y = (.tup []) ∧ t = [(Z6 bx0 x0c0.Of x0c0.Many (γ 0) (γ 1)), .arrA (γ 0) 42 2 (mA x0c1), .arrX (γ 1) 59 4 0 (r.1.map Q1), (Zi bx1 bx1_p), (Q3 bx1_p r.2.b r.2.bad)])
theorem tb_Decode_2_T (K : Nat) {x0c0 : aSp} {x0c1 : List Ze} {x0c2 : List (Bool × aSt)} {x1_p : tbr} {bx0 : Nat} {wx0c1 wx0c2 : Value} {bx1 bx1_p : Nat} {r : (List (Bool × aSt)) × tbr} (h : Kn K x0c0 x0c1 x0c2 x1_p = some r) : J2 tp 34 [.ptr bx0 0, .ptr bx1 0] [(Z6 bx0 x0c0.Of x0c0.Many wx0c1 wx0c2), .arrA wx0c1 42 2 (mA x0c1), .arrX wx0c2 59 4 0 (x0c2.map Q1), (Zi bx1 bx1_p), (Q3 bx1_p x1_p.b x1_p.bad)] (fun γ => (.tup [])) (fun γ => [(Z6 bx0 x0c0.Of x0c0.Many (γ 0) (γ 1)), .arrA (γ 0) 42 2 (mA x0c1), .arrX (γ 1) 59 4 0 (r.1.map Q1), (Zi bx1 bx1_p), (Q3 bx1_p r.2.b r.2.bad)]) := by
 refine Qs Try.func34 rfl (nb rfl) ?_
 show T tp 12 (ca [] Try.f34) ⟨Qv 0 [.ptr bx0 0, .ptr bx1 0], [(Z6 bx0 x0c0.Of x0c0.Many wx0c1 wx0c2), .arrA wx0c1 42 2 (mA x0c1), .arrX wx0c2 59 4 0 (x0c2.map Q1), (Zi bx1 bx1_p), (Q3 bx1_p x1_p.b x1_p.bad)]⟩ (tb_Decode_2_q bx0 bx1 bx1_p x0c0 x0c1 r)
 unfold Kn at h
 refine Qd Zt ?_
 refine Xi ?_
 refine dC (c := ⟨some 2, .ptr bx0 (0 + 258), [(0, .ptr bx0 0)], [], []⟩) (fun t hm => oF rfl rfl (Ql rfl (dk rfl) Xu rfl i26 (by decide) hm.s0 ⟨u0, rfl⟩)) (fun _ => rfl) (fun _ => rfl) ?_
 refine dC (c := ⟨some 3, .c (.ex wx0c2), [(2, .ptr bx0 (0 + 258))], [(1, (Z6 bx0 x0c0.Of x0c0.Many wx0c1 wx0c2))], []⟩) (fun t hm => oF rfl rfl (Qo (i := 1) rfl (dk rfl) Vx rfl hm.s0 hm.o0 rfl ⟨u0, rfl⟩)) (fun _ => rfl) (fun _ => rfl) ?_
 refine dC (c := ⟨some 4, .ptr bx1_p 0, [(1, .ptr bx1 0)], [(4, (Zi bx1 bx1_p))], []⟩) (fun t hm => oF rfl rfl (Qo (i := 4) rfl (dk rfl) ul73 rfl hm.s0 hm.o0 rfl ⟨u0, rfl⟩)) (fun _ => rfl) (fun _ => rfl) ?_
 obtain ⟨j, n, h⟩ := bind_some h
 refine dC (c := ⟨some 5, .sl false 1 (mI j.1), [(4, .ptr bx1_p 0)], [(5, (Q3 bx1_p x1_p.b x1_p.bad))], [(5, (Q3 bx1_p j.2.b j.2.bad))]⟩) (fun t hm => oF rfl rfl (Q6 (is := [5]) (ph := []) rfl (dk rfl) Try.func35 rfl rfl (Q5.cons hm.s0 Q5.nil) (tbr_list_T K (bx0 := bx1_p) n) (.cons hm.o0 rfl (.nil)) (fun _ => rfl) (fun g => ⟨(g, 0), rfl⟩))) (fun _ => rfl) (fun _ => rfl) ?_
 refine dC (c := ⟨some 6, .ptr bx1_p 0, [(1, .ptr bx1 0)], [(4, (Zi bx1 bx1_p))], []⟩) (fun t hm => oF rfl rfl (Qo (i := 4) rfl (dk rfl) ul73 rfl hm.s0 hm.o0 rfl ⟨u0, rfl⟩)) (fun _ => rfl) (fun _ => rfl) ?_
 obtain ⟨m, p, h⟩ := bind_some h
 refine dC (c := ⟨some 7, .sl false 1 (mI m.1), [(6, .ptr bx1_p 0)], [(5, (Q3 bx1_p j.2.b j.2.bad))], [(5, (Q3 bx1_p m.2.b m.2.bad))]⟩) (fun t hm => oF rfl rfl (Q6 (is := [5]) (ph := []) rfl (dk rfl) Try.func35 rfl rfl (Q5.cons hm.s0 Q5.nil) (tbr_list_T K (bx0 := bx1_p) p) (.cons hm.o0 rfl (.nil)) (fun _ => rfl) (fun g => ⟨(g, 0), rfl⟩))) (fun _ => rfl) (fun _ => rfl) ?_
 refine dC (c := ⟨some 8, .agg [.sl false 1 (mI j.1), .sl false 1 (mI m.1), .sl true 1 (([] : List Int).map (cI .i64)), .sl true 1 (([] : List (List aMv)).map (cL 2 Qw))], [(5, .sl false 1 (mI j.1)), (7, .sl false 1 (mI m.1))], [], []⟩) (fun t hm => oF rfl rfl (Zo (OpT.build (l := [.sl false 1 (mI j.1), .sl false 1 (mI m.1), .ex (.slice none 0 0), .ex (.slice none 0 0)]) rfl (dk rfl) (Zx (pl := [(0, 1), (1, 1), (2, 1), (3, 1)]) Uh i59 rfl) (Ho rfl) (Xj hm.s0 rfl (Xj hm.s1 rfl Ux)) rfl rfl) (Y9 8 (l := [.sl false 1 (mI j.1), .sl false 1 (mI m.1), .ex (.slice none 0 0), .ex (.slice none 0 0)]) (l' := [.sl false 1 (mI j.1), .sl false 1 (mI m.1), .sl true 1 (([] : List Int).map (cI .i64)), .sl true 1 (([] : List (List aMv)).map (cL 2 Qw))]) (.cons (.same _) (.cons (.same _) (.cons (.nil _ _) (.cons (.nil _ _) (.refl _)))))) ⟨u0, rfl⟩)) (fun _ => rfl) (fun _ => rfl) ?_
 refine dC (c := ⟨some 9, .sl true 4 ([(false, (aSt.mk j.1 m.1 [] []))].map Q1), [(8, .agg [.sl false 1 (mI j.1), .sl false 1 (mI m.1), .sl true 1 (([] : List Int).map (cI .i64)), .sl true 1 (([] : List (List aMv)).map (cL 2 Qw))])], [], []⟩) (fun t hm => oF rfl rfl (OpT.buildSlice (elems := ([(false, (aSt.mk j.1 m.1 [] []))] : List (Bool × aSt)).map Q1) rfl (dk rfl) Vx i59 (by decide) rfl (Ho rfl) (Xj hm.s0 rfl Ux) rfl rfl (Xc rfl) (by decide) ⟨u0, rfl⟩)) (fun _ => rfl) (fun _ => rfl) ?_
 obtain ⟨q, h⟩ := Zm h
 refine DGG.step (c := fun a => ⟨some 10, .c (.ex ((a 8).1 0)), [(9, .sl true 4 ([(false, (aSt.mk j.1 m.1 [] []))].map Q1)), (3, .c (.ex wx0c2))], [(3, .arrX wx0c2 59 4 0 (x0c2.map Q1))], [(3, .arrX ((a 8).1 0) 59 4 0 ((x0c2 ++ [(false, (aSt.mk j.1 m.1 [] []))]).map Q1))]⟩) [8] (fun a γ' h => by simp only [h 8 (by decide)]) (fun a t hm => oF rfl rfl (Pm (i := 3) (xs := x0c2) (ys := [(false, (aSt.mk j.1 m.1 [] []))]) (f := Q1) rfl (dk rfl) Vx i59 rfl hm.s1 hm.o0 hm.s0 q (fun w => ⟨(fun _ => w, 0), rfl⟩))) (fun a => Zq rfl rfl) ?_
 refine dC (c := ⟨some 11, .ptr bx0 (0 + 258), [(0, .ptr bx0 0)], [], []⟩) (fun t hm => oF rfl rfl (Ql rfl (dk rfl) Xu rfl i26 (by decide) hm.s0 ⟨u0, rfl⟩)) (fun _ => rfl) (fun _ => rfl) ?_
 refine DGG.step (c := fun a => ⟨none, .any, [(11, .ptr bx0 (0 + 258)), (10, .c (.ex ((a 8).1 0)))], [(1, (Z6 bx0 x0c0.Of x0c0.Many wx0c1 wx0c2))], [(1, (Z6 bx0 x0c0.Of x0c0.Many wx0c1 ((a 8).1 0)))]⟩) [8] (fun a γ' h => by simp only [h 8 (by decide)]) (fun a t hm => oF rfl rfl (Ug (i := 1) (cells' := ((Qy.oc 256 .u8 x0c0.Of) ++ (([.d (.int .i64 x0c0.Many), .d (.ex wx0c1), .d (.ex ((a 8).1 0))]:List OC)))) rfl rfl i26 hm.s0 hm.s1 hm.o0 (nb rfl) rfl ⟨u0, rfl⟩)) (fun a => Zq rfl rfl) ?_
 refine Vz (s1 := fun a => ⟨[], [.ro 0 [], (Z6 bx0 x0c0.Of x0c0.Many wx0c1 ((a 8).1 0)), .arrA wx0c1 42 2 (mA x0c1), .arrX ((a 8).1 0) 59 4 0 ((x0c2 ++ [(false, (aSt.mk j.1 m.1 [] []))]).map Q1), (Zi bx1 bx1_p), (Q3 bx1_p m.2.b m.2.bad)]⟩) (ms := [0, 1, 0, 4, 0, 28, 60, 124, 255, 511, 1023]) Q7 rfl (by kernel_rfl) (by kernel_rfl) (by kernel_rfl) (fun a => by kernel_rfl) (fun a => .nil _) (fun _ => rfl) (fun a u hu => (Vd hu ?_))
 exact Q8 (.nil) (.cons 1 rfl (.cons 1 rfl (.cons 1 rfl (.cons 1 rfl (.cons 1 rfl (.nil _)))))) (by cases h; exact ⟨gl [wx0c1, (a 8).1 0], rfl, rfl⟩)
abbrev F2 (bx0 bx2c0 bx2c1 : Nat) (x2c0c0 : aSp) (x2c0c1 : List Ze) (r : tbr × (List (Bool × aSt))) : ES := Jt tp Try.f31 (fun y t => ∃ γ : Nat → Value, y = (.tup []) ∧ t = [(Q3 bx0 r.1.b r.1.bad), (Z6 bx2c0 x2c0c0.Of x2c0c0.Many (γ 0) (γ 1)), .arrA (γ 0) 42 2 (mA x2c0c1), .arrX (γ 1) 59 4 0 (r.2.map Q1), (Zi bx2c1 bx0)])
abbrev Gl (bx0 bx2c0 bx2c1 : Nat) (x2c0c0 : aSp) (x2c0c1 : List Ze) (r : tbr × (List (Bool × aSt))) : ES := Q0 0 ((F2 bx0 bx2c0 bx2c1 x2c0c0 x2c0c1 r))
abbrev Bs (bx0 bx2c0 bx2c1 : Nat) (x2c0c0 : aSp) (x2c0c1 : List Ze) (r : tbr × (List (Bool × aSt))) : ES := thenS (fun s' => TL tp 21 (ca [1,0,0] Try.f31) s' ((Gl bx0 bx2c0 bx2c1 x2c0c0 x2c0c1 r))) ((Gl bx0 bx2c0 bx2c1 x2c0c0 x2c0c1 r))
abbrev Ic (bx0 bx2c0 bx2c1 : Nat) (x2c0c0 : aSp) (x2c0c1 : List Ze) (r : tbr × (List (Bool × aSt))) : ES := thenS (fun s' => T tp 21 (ca [1,0,0,1] Try.f31) s' ((Bs bx0 bx2c0 bx2c1 x2c0c0 x2c0c1 r))) ((Bs bx0 bx2c0 bx2c1 x2c0c0 x2c0c1 r))
theorem Bt {r : tbr × (List (Bool × aSt))} (K bx0 : Nat) (bx2c0 bx2c1 : Nat) (x2c0c0 : aSp) (x2c0c1 : List Ze) (c : ByteArray) (f : Bool) (x2c0c0 : aSp) (x2c0c1 : List Ze) (g : List (Bool × aSt)) (a b : Value) (h : Hs K c f x2c0c0 x2c0c1 g = some r) : T tp 21 (ca [1,0,0,0,1,1] Try.f31) ⟨[], [(Q3 bx0 c f), (Z6 bx2c0 x2c0c0.Of x2c0c0.Many a b), .arrA a 42 2 (mA x2c0c1), .arrX b 59 4 0 (g.map Q1), (Zi bx2c1 bx0)]⟩ (Ic bx0 bx2c0 bx2c1 x2c0c0 x2c0c1 r) := by
 unfold Hs at h
 refine T.exit (Qh (Qh (Qq ?_)))
 exact Q8 (.nil) (.cons 0 rfl (.cons 0 rfl (.cons 0 rfl (.cons 0 rfl (.cons 0 rfl (.nil _)))))) (by cases h; exact ⟨gl [a, b], rfl, rfl⟩)
theorem Og {r : tbr × (List (Bool × aSt))} (K bx0 : Nat) (bx2c0 bx2c1 : Nat) (x2c0c0 : aSp) (x2c0c1 : List Ze) : ∀ (k : Nat), ∀ (x1 q : Int) (l : ByteArray) (m : Bool) (x2c0c0 : aSp) (x2c0c1 : List Ze) (p : List (Bool × aSt)) (g j : Value), Yv K k x1 q l m x2c0c0 x2c0c1 p = some r → TL tp 21 (ca [1,0,0] Try.f31) ⟨[(0, .ptr bx0 0), (1, .int .i64 x1), (2, .c (.ex (.func (.func 34) #[] #[.pointer (some ⟨bx2c0, 0, none⟩), .pointer (some ⟨bx2c1, 0, none⟩)]))), (6, .int .i64 q)], [(Q3 bx0 l m), (Z6 bx2c0 x2c0c0.Of x2c0c0.Many g j), .arrA g 42 2 (mA x2c0c1), .arrX j 59 4 0 (p.map Q1), (Zi bx2c1 bx0)]⟩ (Gl bx0 bx2c0 bx2c1 x2c0c0 x2c0c1 r) := by
 intro k
 induction k with
 | zero =>
  intro x1 q l m x2c0c0 x2c0c1 p g j h
  cases (show (none : Option (tbr × (List (Bool × aSt)))) = some r from h)
 | succ k ih =>
  intro x1 q l m x2c0c0 x2c0c1 p g j h
  rw [Yv] at h
  refine Za ?_
  refine T.seq ?_
  refine T.seq (Qr ?_)
  refine mw rfl ?_
  refine mw rfl ?_
  refine sp rfl (Qa rfl rfl (dk rfl) rfl rfl ?_)
  refine mw rfl ?_
  rcases Qb h with ⟨a, h⟩ | ⟨a, h⟩
  refine sn rfl a (OpT.move rfl (dk rfl) rfl ?_)
  refine sn rfl a (OpT.nilCheck rfl (dk rfl) rfl rfl ?_)
  refine sn rfl a (Ql rfl (dk rfl) ul75 rfl i4 (by decide) rfl ?_)
  refine sn rfl a (Qo (i := 0) rfl (dk rfl) ul4 rfl rfl rfl rfl ?_)
  refine sn rfl a (OpT.not rfl (dk rfl) rfl ?_)
  refine sp rfl (Qf rfl (dk rfl) rfl a rfl ?_)
  refine TL'.nil (tN ?_)
  rcases Qb h with ⟨s, h⟩ | ⟨s, h⟩
  refine Qk rfl s ?_
  refine T.skip (tN ?_)
  refine T.seq ?_
  refine T.block ?_
  refine Qr ?_
  refine mw rfl ?_
  obtain ⟨u, w, h⟩ := bind_some h
  refine sp rfl (C7 (f := 34) (vs := [.pointer (some ⟨bx2c0, 0, none⟩), .pointer (some ⟨bx2c1, 0, none⟩)]) rfl rfl (dk rfl) Try.func34 rfl rfl (Q6 (is := [1, 2, 3, 4, 0]) (ph := []) rfl (dk rfl) Try.func34 rfl rfl (Q5.cons rfl (Q5.cons rfl Q5.nil)) (tb_Decode_2_T K (bx0 := bx2c0) (wx0c1 := g) (wx0c2 := j) (bx1 := bx2c1) (bx1_p := bx0) w) (.cons rfl rfl (.cons rfl rfl (.cons rfl rfl (.cons rfl rfl (.cons rfl rfl (.nil)))))) (fun _ => rfl) (fun v => ?_)))
  refine nm (.c (.c (.c (.c (.c (.n)))))) ?_
  refine TL'.nil (Qe (tN ?_))
  refine Qr ?_
  refine mw rfl ?_
  refine sp rfl (Qa rfl rfl (dk rfl) rfl rfl ?_)
  refine aw rfl ?_
  refine TL'.nil (tN ?_)
  refine Qc ?_ (ih x1 (wI (q + (1:Int))) u.2.b u.2.bad x2c0c0 x2c0c1 u.1 (v 0) (v 1) h)
  exact tq rfl rfl
  refine Qp rfl s ?_
  refine Qd ?_ (Bt K bx0 bx2c0 bx2c1 x2c0c0 x2c0c1 l m x2c0c0 x2c0c1 p g j h)
  exact tq rfl rfl
  refine pf rfl a ?_
  refine pf rfl a ?_
  refine pf rfl a ?_
  refine pf rfl a ?_
  refine pf rfl a ?_
  refine sp rfl (Qm rfl (dk rfl) rfl a rfl ?_)
  refine TL'.nil (tN ?_)
  refine Qp rfl rfl ?_
  refine Qd ?_ (Bt K bx0 bx2c0 bx2c1 x2c0c0 x2c0c1 l m x2c0c0 x2c0c1 p g j h)
  exact tq rfl rfl
theorem tbr_times_i1_T (K : Nat) {x0 : tbr} {x1 : Int} {x2c0c0 : aSp} {x2c0c1 : List Ze} {x2c0c2 : List (Bool × aSt)} {bx0 bx2c0 : Nat} {wx2c0c1 wx2c0c2 : Value} {bx2c1 : Nat} {r : tbr × (List (Bool × aSt))} (h : G9 K x0 x1 x2c0c0 x2c0c1 x2c0c2 = some r) : J2 tp 31 [.ptr bx0 0, .int .i64 x1, .c (.ex (.func (.func 34) #[] #[.pointer (some ⟨bx2c0, 0, none⟩), .pointer (some ⟨bx2c1, 0, none⟩)]))] [(Q3 bx0 x0.b x0.bad), (Z6 bx2c0 x2c0c0.Of x2c0c0.Many wx2c0c1 wx2c0c2), .arrA wx2c0c1 42 2 (mA x2c0c1), .arrX wx2c0c2 59 4 0 (x2c0c2.map Q1), (Zi bx2c1 bx0)] (fun γ => (.tup [])) (fun γ => [(Q3 bx0 r.1.b r.1.bad), (Z6 bx2c0 x2c0c0.Of x2c0c0.Many (γ 0) (γ 1)), .arrA (γ 0) 42 2 (mA x2c0c1), .arrX (γ 1) 59 4 0 (r.2.map Q1), (Zi bx2c1 bx0)]) := by
 refine Qs Try.func31 rfl (nb rfl) ?_
 show T tp 21 (ca [] Try.f31) ⟨Qv 0 [.ptr bx0 0, .int .i64 x1, .c (.ex (.func (.func 34) #[] #[.pointer (some ⟨bx2c0, 0, none⟩), .pointer (some ⟨bx2c1, 0, none⟩)]))], [(Q3 bx0 x0.b x0.bad), (Z6 bx2c0 x2c0c0.Of x2c0c0.Many wx2c0c1 wx2c0c2), .arrA wx2c0c1 42 2 (mA x2c0c1), .arrX wx2c0c2 59 4 0 (x2c0c2.map Q1), (Zi bx2c1 bx0)]⟩ (F2 bx0 bx2c0 bx2c1 x2c0c0 x2c0c1 r)
 unfold G9 at h
 refine T.seq (Qr ?_)
 refine aw rfl ?_
 refine TL'.nil (tN ?_)
 refine T.block ?_
 refine T.loop ?_
 refine Qc ?_ (Og K bx0 bx2c0 bx2c1 x2c0c0 x2c0c1 K x1 (0:Int) x0.b x0.bad x2c0c0 x2c0c1 x2c0c2 wx2c0c1 wx2c0c2 h)
 exact tq rfl rfl
abbrev tbr_move_q (bx0 : Nat) (wx1 : Value) (x1 : List (Bool × aSt)) (x1c9 : Int) (x1c7 : List Int) (x1c8 : List (List aMv)) (r : aMv × tbr) : ES := Jt tp Try.f39 (fun y t => ∃ γ : Nat → Value, y = (.agg [.int .i64 r.1.To, .sl false 1 (mU r.1.Ops)]) ∧ t = [(Q3 bx0 r.2.b r.2.bad), .arrX wx1 59 4 0 (Wf (x1.map Q1) (Int.toNat x1c9) (γ 0) (γ 1)), .arrA (γ 0) 3 1 (mI x1c7), .arrA (γ 1) 61 1 (x1c8.map (cL 2 Qw))])
theorem tbr_move_T (K : Nat) {x0 : tbr} {x1 : List (Bool × aSt)} {x1c9 : Int} {x1c7 : List Int} {x1c8 : List (List aMv)} {bx0 : Nat} {wx1 wx1c7 wx1c8 : Value} {r : aMv × tbr} (h : I9 K x0 x1 x1c9 x1c7 x1c8 = some r) : J2 tp 39 [.ptr bx0 0, .c (.ex wx1)] [(Q3 bx0 x0.b x0.bad), .arrX wx1 59 4 0 (Wf (x1.map Q1) (Int.toNat x1c9) wx1c7 wx1c8), .arrA wx1c7 3 1 (mI x1c7), .arrA wx1c8 61 1 (x1c8.map (cL 2 Qw))] (fun γ => (.agg [.int .i64 r.1.To, .sl false 1 (mU r.1.Ops)])) (fun γ => [(Q3 bx0 r.2.b r.2.bad), .arrX wx1 59 4 0 (Wf (x1.map Q1) (Int.toNat x1c9) (γ 0) (γ 1)), .arrA (γ 0) 3 1 (mI x1c7), .arrA (γ 1) 61 1 (x1c8.map (cL 2 Qw))]) := by
 refine Qs Try.func39 rfl (nb rfl) ?_
 show T tp 35 (ca [] Try.f39) ⟨Qv 0 [.ptr bx0 0, .c (.ex wx1)], [(Q3 bx0 x0.b x0.bad), .arrX wx1 59 4 0 (Wf (x1.map Q1) (Int.toNat x1c9) wx1c7 wx1c8), .arrA wx1c7 3 1 (mI x1c7), .arrA wx1c8 61 1 (x1c8.map (cL 2 Qw))]⟩ (tbr_move_q bx0 wx1 x1 x1c9 x1c7 x1c8 r)
 unfold I9 at h
 refine T.seq (Qr ?_)
 refine sp rfl (Zj rfl (dk rfl) i63 rfl (fun w => ?_))
 refine TL'.nil (tN (T.seq (Qr ?_)))
 refine mw rfl ?_
 obtain ⟨a, s, h⟩ := bind_some h
 refine sp rfl (Q6 (is := [1]) (ph := []) rfl (dk rfl) Try.func32 rfl rfl (Q5.cons rfl Q5.nil) (La K (bx0 := bx0) s) (.cons rfl rfl (.nil)) (fun _ => rfl) (fun y => ?_))
 refine nm (.c (.c (.c (.c (.c (.n)))))) ?_
 refine sp rfl (Qa rfl rfl (dk rfl) rfl rfl ?_)
 refine sp rfl (Zo (OpT.build (l := [.int .i64 (wI (a.1 - (1:Int))), .ex (.slice none 0 0)]) rfl (dk rfl) (Zx (pl := [(0, 1), (1, 1)]) Mf i63 rfl) (Ho rfl) rfl rfl rfl) (Y9 9 (l := [.int .i64 (wI (a.1 - (1:Int))), .ex (.slice none 0 0)]) (l' := [.int .i64 (wI (a.1 - (1:Int))), .sl false 1 (([] : List Int).map (cI .u8))]) (.cons (.same _) (.cons (.nil _ _) (.refl _)))) ?_)
 refine sp rfl (Zj rfl (dk rfl) i63 rfl (fun z => ?_))
 refine sp rfl (Qz (i := 0) (cells' := [.d (.int .i64 (wI (a.1 - (1:Int)))), .d (.sl false 1 (([] : List Int).map (cI .u8)))]) rfl rfl i63 rfl rfl rfl rfl (nb rfl) rfl ?_)
 refine TL'.nil (tN ?_)
 refine T.seq ?_
 refine T.block ?_
 refine T.seq (Qr ?_)
 refine sp rfl (Ql rfl (dk rfl) Mf rfl i3 (by decide) rfl ?_)
 refine sp rfl (Qo (i := 0) rfl (dk rfl) ul3 rfl rfl rfl rfl ?_)
 refine mw rfl ?_
 refine sp rfl (OpT.lenHM (i := 3) (xs := x1) (f := Q1) rfl (dk rfl) Vx rfl rfl ?_)
 refine sp rfl (Qa rfl rfl (dk rfl) rfl rfl ?_)
 refine aw rfl ?_
 refine TL'.nil (tN ?_)
 rcases Qb h with ⟨j, h⟩ | ⟨j, h⟩
 refine Qk rfl j ?_
 refine Qr ?_
 refine mw rfl ?_
 refine sp rfl (OpT.nilCheck rfl (dk rfl) rfl rfl ?_)
 refine sp rfl (Ql rfl (dk rfl) ul75 rfl i4 (by decide) rfl ?_)
 refine sp rfl (Ug (i := 2) (cells' := [.d (.str a.2.b), .d (.bool true)]) rfl rfl i4 rfl rfl rfl (nb rfl) rfl ?_)
 refine TL'.nil (Qe (tN ?_))
 refine T.seq (Qr ?_)
 refine sp rfl (Zc (i := 0) (l := [.int .i64 (wI (a.1 - (1:Int))), .sl false 1 (([] : List Int).map (cI .u8))]) rfl (dk rfl) Mf rfl i63 rfl rfl rfl rfl ?_)
 refine sp rfl (Qz (i := 1) (cells' := [.d (.int .i64 (wI (a.1 - (1:Int)))), .d (.sl false 1 (([] : List Int).map (cI .u8)))]) rfl rfl i63 rfl rfl rfl rfl (nb rfl) rfl ?_)
 refine TL'.nil (tN ?_)
 refine T.ret ?_
 exact Q8 (.cons _ _ _ _ (.cellAgg 4 63 _ 0 1 63 _ [.int .i64 (wI (a.1 - (1:Int))), .sl false 1 (([] : List Int).map (cI .u8))] _ _ 2 _ rfl rfl rfl rfl Mf rfl i63) .nil) (.cons 2 rfl (.cons 2 rfl (.cons 2 rfl (.cons 2 rfl (.nil _))))) (by cases h; exact ⟨gl [wx1c7, wx1c8], rfl, rfl⟩)
 refine Qp rfl j ?_
 refine T.seq (Qr ?_)
 refine sp rfl (Ql rfl (dk rfl) Mf rfl i3 (by decide) rfl ?_)
 refine sp rfl (Qo (i := 0) rfl (dk rfl) ul3 rfl rfl rfl rfl ?_)
 refine sp rfl (Qa rfl rfl (dk rfl) rfl rfl ?_)
 refine aw rfl ?_
 refine TL'.nil (tN ?_)
 rcases Qb h with ⟨m, h⟩ | ⟨m, h⟩
 refine Qk rfl m ?_
 refine Qr ?_
 refine mw rfl ?_
 refine mw rfl ?_
 refine sp rfl (Ql rfl (dk rfl) Mf rfl i3 (by decide) rfl ?_)
 refine sp rfl (Qo (i := 0) rfl (dk rfl) ul3 rfl rfl rfl rfl ?_)
 obtain ⟨p, q, h⟩ := bind_some h
 refine sp rfl (OpT.indexHM (n := 3) (xs := x1) (f := Q1) (old := p) rfl (dk rfl) Vx i59 rfl rfl rfl q ?_)
 refine sp rfl (Ue rfl (dk rfl) Uh rfl i56 (by decide) rfl ?_)
 refine sp rfl (OpT.loadHM (i := 3) (xs := x1) (f := Q1) (old := p) rfl (dk rfl) Yo rfl rfl rfl (Z7 q).2 (by decide) rfl ?_)
 refine sp rfl (Qn (xs := p.2.R) (f := (cI .i64)) rfl (dk rfl) Yo rfl ?_)
 obtain ⟨g, u, h⟩ := bind_some h
 refine sp rfl (Q6 (is := [2]) (ph := []) rfl (dk rfl) Try.func29 rfl rfl (Q5.cons rfl (Q5.cons rfl Q5.nil)) (E7 K (bx0 := bx0) u) (.cons rfl rfl (.nil)) (fun _ => rfl) (fun aa => ?_))
 refine nm (.c (.c (.c (.c (.c (.c (.n))))))) ?_
 obtain ⟨v, h⟩ := Zm h
 refine sp rfl (Px rfl (dk rfl) ul9 Vj ul5 rfl v ?_)
 refine sp rfl (Ql rfl (dk rfl) Mf rfl i29 (by decide) rfl ?_)
 refine sp rfl (Ug (i := 0) (cells' := [.d (.int .i64 (wI (a.1 - (1:Int)))), .d (.sl false 1 ((Zw g.1).map (cI .u8)))]) rfl rfl i29 rfl rfl rfl (nb rfl) rfl ?_)
 refine TL'.nil (Qe (tN ?_))
 refine T.seq (Qr ?_)
 refine sp rfl (Zc (i := 0) (l := [.int .i64 (wI (a.1 - (1:Int))), .sl false 1 ((Zw g.1).map (cI .u8))]) rfl (dk rfl) Mf rfl i63 rfl rfl rfl rfl ?_)
 refine sp rfl (Qz (i := 1) (cells' := [.d (.int .i64 (wI (a.1 - (1:Int)))), .d (.sl false 1 ((Zw g.1).map (cI .u8)))]) rfl rfl i63 rfl rfl rfl rfl (nb rfl) rfl ?_)
 refine TL'.nil (tN ?_)
 refine T.ret ?_
 exact Q8 (.cons _ _ _ _ (.cellAgg 4 63 _ 0 1 63 _ [.int .i64 (wI (a.1 - (1:Int))), .sl false 1 ((Zw g.1).map (cI .u8))] _ _ 2 _ rfl rfl rfl rfl Mf rfl i63) .nil) (.cons 2 rfl (.cons 2 rfl (.cons 2 rfl (.cons 2 rfl (.nil _))))) (by cases h; exact ⟨gl [wx1c7, wx1c8], rfl, rfl⟩)
 refine Qp rfl m ?_
 refine T.skip (Qe (tN ?_))
 refine T.seq (Qr ?_)
 refine sp rfl (Zc (i := 0) (l := [.int .i64 (wI (a.1 - (1:Int))), .sl false 1 (([] : List Int).map (cI .u8))]) rfl (dk rfl) Mf rfl i63 rfl rfl rfl rfl ?_)
 refine sp rfl (Qz (i := 1) (cells' := [.d (.int .i64 (wI (a.1 - (1:Int)))), .d (.sl false 1 (([] : List Int).map (cI .u8)))]) rfl rfl i63 rfl rfl rfl rfl (nb rfl) rfl ?_)
 refine TL'.nil (tN ?_)
 refine T.ret ?_
 exact Q8 (.cons _ _ _ _ (.cellAgg 4 63 _ 0 1 63 _ [.int .i64 (wI (a.1 - (1:Int))), .sl false 1 (([] : List Int).map (cI .u8))] _ _ 2 _ rfl rfl rfl rfl Mf rfl i63) .nil) (.cons 2 rfl (.cons 2 rfl (.cons 2 rfl (.cons 2 rfl (.nil _))))) (by cases h; exact ⟨gl [wx1c7, wx1c8], rfl, rfl⟩)
abbrev P6 (bx0 bx1 : Nat) (bx1_p bx2 : Nat) (wx2c2 : Value) (x2c0 : aSp) (x2c1 : List Ze) (x2c2 : List (Bool × aSt)) (x2c2c9 : Int) (x2c2c7 : List Int) (x2c2c8 : List (List aMv)) (r : (List aMv) × tbr) : ES := Jt tp Try.f38 (fun y t => ∃ γ : Nat → Value, y = (.tup []) ∧ t = [(Kb bx0 (γ 0)), .arrA (γ 0) 63 2 (r.1.map Qw), (Zi bx1 bx1_p), (Q3 bx1_p r.2.b r.2.bad), (Z6 bx2 x2c0.Of x2c0.Many (γ 1) wx2c2), .arrA (γ 1) 42 2 (mA x2c1), .arrX wx2c2 59 4 0 (Wf (x2c2.map Q1) (Int.toNat x2c2c9) (γ 2) (γ 3)), .arrA (γ 2) 3 1 (mI x2c2c7), .arrA (γ 3) 61 1 (x2c2c8.map (cL 2 Qw))])
theorem P7 (K : Nat) {x0 : List aMv} {x1_p : tbr} {x2c0 : aSp} {x2c1 : List Ze} {x2c2 : List (Bool × aSt)} {x2c2c9 : Int} {x2c2c7 : List Int} {x2c2c8 : List (List aMv)} {bx0 : Nat} {wx0 : Value} {bx1 bx1_p bx2 : Nat} {wx2c1 wx2c2 : Value} {wx2c2c7 wx2c2c8 : Value} {r : (List aMv) × tbr} (h : Kc K x0 x1_p x2c0 x2c1 x2c2 x2c2c9 x2c2c7 x2c2c8 = some r) : J2 tp 38 [.ptr bx0 0, .ptr bx1 0, .ptr bx2 0] [(Kb bx0 wx0), .arrA wx0 63 2 (x0.map Qw), (Zi bx1 bx1_p), (Q3 bx1_p x1_p.b x1_p.bad), (Z6 bx2 x2c0.Of x2c0.Many wx2c1 wx2c2), .arrA wx2c1 42 2 (mA x2c1), .arrX wx2c2 59 4 0 (Wf (x2c2.map Q1) (Int.toNat x2c2c9) wx2c2c7 wx2c2c8), .arrA wx2c2c7 3 1 (mI x2c2c7), .arrA wx2c2c8 61 1 (x2c2c8.map (cL 2 Qw))] (fun γ => (.tup [])) (fun γ => [(Kb bx0 (γ 0)), .arrA (γ 0) 63 2 (r.1.map Qw), (Zi bx1 bx1_p), (Q3 bx1_p r.2.b r.2.bad), (Z6 bx2 x2c0.Of x2c0.Many (γ 1) wx2c2), .arrA (γ 1) 42 2 (mA x2c1), .arrX wx2c2 59 4 0 (Wf (x2c2.map Q1) (Int.toNat x2c2c9) (γ 2) (γ 3)), .arrA (γ 2) 3 1 (mI x2c2c7), .arrA (γ 3) 61 1 (x2c2c8.map (cL 2 Qw))]) := by
 refine Qs Try.func38 rfl (nb rfl) ?_
 show T tp 10 (ca [] Try.f38) ⟨Qv 0 [.ptr bx0 0, .ptr bx1 0, .ptr bx2 0], [(Kb bx0 wx0), .arrA wx0 63 2 (x0.map Qw), (Zi bx1 bx1_p), (Q3 bx1_p x1_p.b x1_p.bad), (Z6 bx2 x2c0.Of x2c0.Many wx2c1 wx2c2), .arrA wx2c1 42 2 (mA x2c1), .arrX wx2c2 59 4 0 (Wf (x2c2.map Q1) (Int.toNat x2c2c9) wx2c2c7 wx2c2c8), .arrA wx2c2c7 3 1 (mI x2c2c7), .arrA wx2c2c8 61 1 (x2c2c8.map (cL 2 Qw))]⟩ (P6 bx0 bx1 bx1_p bx2 wx2c2 x2c0 x2c1 x2c2 x2c2c9 x2c2c7 x2c2c8 r)
 unfold Kc at h
 refine Qd Zt ?_
 refine Xi ?_
 refine dC (c := ⟨some 3, .c (.ex wx0), [(0, .ptr bx0 0)], [(1, (Kb bx0 wx0))], []⟩) (fun t hm => oF rfl rfl (Qo (i := 1) rfl (dk rfl) I8 rfl hm.s0 hm.o0 rfl ⟨u0, rfl⟩)) (fun _ => rfl) (fun _ => rfl) ?_
 refine dC (c := ⟨some 4, .ptr bx1_p 0, [(1, .ptr bx1 0)], [(3, (Zi bx1 bx1_p))], []⟩) (fun t hm => oF rfl rfl (Qo (i := 3) rfl (dk rfl) ul73 rfl hm.s0 hm.o0 rfl ⟨u0, rfl⟩)) (fun _ => rfl) (fun _ => rfl) ?_
 refine dC (c := ⟨some 5, .ptr bx2 (0 + 258), [(2, .ptr bx2 0)], [], []⟩) (fun t hm => oF rfl rfl (Ql rfl (dk rfl) Xu rfl i26 (by decide) hm.s0 ⟨u0, rfl⟩)) (fun _ => rfl) (fun _ => rfl) ?_
 refine dC (c := ⟨some 6, .c (.ex wx2c2), [(5, .ptr bx2 (0 + 258))], [(5, (Z6 bx2 x2c0.Of x2c0.Many wx2c1 wx2c2))], []⟩) (fun t hm => oF rfl rfl (Qo (i := 5) rfl (dk rfl) Vx rfl hm.s0 hm.o0 rfl ⟨u0, rfl⟩)) (fun _ => rfl) (fun _ => rfl) ?_
 obtain ⟨j, l, h⟩ := bind_some h
 refine DGG.step (c := fun a => ⟨some 7, .agg [.int .i64 j.1.To, .sl false 1 (mU j.1.Ops)], [(4, .ptr bx1_p 0), (6, .c (.ex wx2c2))], [(9, .arrA wx2c2c8 61 1 (x2c2c8.map (cL 2 Qw))), (8, .arrA wx2c2c7 3 1 (mI x2c2c7)), (7, .arrX wx2c2 59 4 0 (Wf (x2c2.map Q1) (Int.toNat x2c2c9) wx2c2c7 wx2c2c8)), (4, (Q3 bx1_p x1_p.b x1_p.bad))], [(4, (Q3 bx1_p j.2.b j.2.bad)), (7, .arrX wx2c2 59 4 0 (Wf (x2c2.map Q1) (Int.toNat x2c2c9) ((a 4).1 0) ((a 4).1 1))), (8, .arrA ((a 4).1 0) 3 1 (mI x2c2c7)), (9, .arrA ((a 4).1 1) 61 1 (x2c2c8.map (cL 2 Qw)))]⟩) [4] (fun a γ' h => by simp only [h 4 (by decide)]) (fun a t hm => oF rfl rfl (Q6 (is := [4, 7, 8, 9]) (ph := []) rfl (dk rfl) Try.func39 rfl rfl (Q5.cons hm.s0 (Q5.cons hm.s1 Q5.nil)) (tbr_move_T K (bx0 := bx1_p) (wx1 := wx2c2) (wx1c7 := wx2c2c7) (wx1c8 := wx2c2c8) l) (.cons (hm.objs (4, _) (.tail _ (.tail _ (.tail _ (.head _))))) rfl (.cons hm.o2 rfl (.cons hm.o1 rfl (.cons hm.o0 rfl (.nil))))) (fun _ => rfl) (fun g => ⟨(g, 0), rfl⟩))) (fun a => Zq rfl rfl) ?_
 refine dC (c := ⟨some 8, .sl true 2 ([j.1].map Qw), [(7, .agg [.int .i64 j.1.To, .sl false 1 (mU j.1.Ops)])], [], []⟩) (fun t hm => oF rfl rfl (OpT.buildSlice (elems := ([j.1] : List aMv).map Qw) rfl (dk rfl) I8 i63 (by decide) rfl (Ho rfl) (Xj hm.s0 rfl Ux) rfl rfl (Xc rfl) (by decide) ⟨u0, rfl⟩)) (fun _ => rfl) (fun _ => rfl) ?_
 obtain ⟨m, h⟩ := Zm h
 refine DGG.step (c := fun a => ⟨some 9, .c (.ex ((a 6).1 0)), [(8, .sl true 2 ([j.1].map Qw)), (3, .c (.ex wx0))], [(2, .arrA wx0 63 2 (x0.map Qw))], [(2, .arrA ((a 6).1 0) 63 2 ((x0 ++ [j.1]).map Qw))]⟩) [6] (fun a γ' h => by simp only [h 6 (by decide)]) (fun a t hm => oF rfl rfl (Zf (i := 2) (xs := x0) (ys := [j.1]) (f := Qw) rfl (dk rfl) I8 i63 rfl hm.s1 hm.o0 hm.s0 m (fun w => ⟨(fun _ => w, 0), rfl⟩))) (fun a => Zq rfl rfl) ?_
 refine DGG.step (c := fun a => ⟨none, .any, [(0, .ptr bx0 0), (9, .c (.ex ((a 6).1 0)))], [(1, (Kb bx0 wx0))], [(1, (Kb bx0 ((a 6).1 0)))]⟩) [6] (fun a γ' h => by simp only [h 6 (by decide)]) (fun a t hm => oF rfl rfl (Ug (i := 1) (cells' := [.d (.ex ((a 6).1 0))]) rfl rfl i61 hm.s0 hm.s1 hm.o0 (nb rfl) rfl ⟨u0, rfl⟩)) (fun a => Zq rfl rfl) ?_
 refine Vz (s1 := fun a => ⟨[], [.ro 0 [], (Kb bx0 ((a 6).1 0)), .arrA ((a 6).1 0) 63 2 ((x0 ++ [j.1]).map Qw), (Zi bx1 bx1_p), (Q3 bx1_p j.2.b j.2.bad), (Z6 bx2 x2c0.Of x2c0.Many wx2c1 wx2c2), .arrA wx2c1 42 2 (mA x2c1), .arrX wx2c2 59 4 0 (Wf (x2c2.map Q1) (Int.toNat x2c2c9) ((a 4).1 0) ((a 4).1 1)), .arrA ((a 4).1 0) 3 1 (mI x2c2c7), .arrA ((a 4).1 1) 61 1 (x2c2c8.map (cL 2 Qw))]⟩) (ms := [0, 0, 0, 4, 14, 30, 63, 127]) Q7 rfl (by kernel_rfl) (by kernel_rfl) (by kernel_rfl) (fun a => by kernel_rfl) (fun a => .nil _) (fun _ => rfl) (fun a u hu => (Vd hu ?_))
 exact Q8 (.nil) (.cons 1 rfl (.cons 1 rfl (.cons 1 rfl (.cons 1 rfl (.cons 1 rfl (.cons 1 rfl (.cons 1 rfl (.cons 1 rfl (.cons 1 rfl (.nil _)))))))))) (by cases h; exact ⟨gl [(a 6).1 0, wx2c1, (a 4).1 0, (a 4).1 1], rfl, rfl⟩)
abbrev Fz (bx0 bx2c0 : Nat) (bx2c1 bx2c2 : Nat) (wx2c2c2 : Value) (x2c2c0 : aSp) (x2c2c1 : List Ze) (x2c2c2 : List (Bool × aSt)) (x2c2c2c9 : Int) (x2c2c2c7 : List Int) (x2c2c2c8 : List (List aMv)) (r : tbr × (List aMv)) : ES := Jt tp Try.f31 (fun y t => ∃ γ : Nat → Value, y = (.tup []) ∧ t = [(Q3 bx0 r.1.b r.1.bad), (Kb bx2c0 (γ 0)), .arrA (γ 0) 63 2 (r.2.map Qw), (Zi bx2c1 bx0), (Z6 bx2c2 x2c2c0.Of x2c2c0.Many (γ 1) wx2c2c2), .arrA (γ 1) 42 2 (mA x2c2c1), .arrX wx2c2c2 59 4 0 (Wf (x2c2c2.map Q1) (Int.toNat x2c2c2c9) (γ 2) (γ 3)), .arrA (γ 2) 3 1 (mI x2c2c2c7), .arrA (γ 3) 61 1 (x2c2c2c8.map (cL 2 Qw))])
abbrev Gi (bx0 bx2c0 : Nat) (bx2c1 bx2c2 : Nat) (wx2c2c2 : Value) (x2c2c0 : aSp) (x2c2c1 : List Ze) (x2c2c2 : List (Bool × aSt)) (x2c2c2c9 : Int) (x2c2c2c7 : List Int) (x2c2c2c8 : List (List aMv)) (r : tbr × (List aMv)) : ES := Q0 0 ((Fz bx0 bx2c0 bx2c1 bx2c2 wx2c2c2 x2c2c0 x2c2c1 x2c2c2 x2c2c2c9 x2c2c2c7 x2c2c2c8 r))
abbrev Bm (bx0 bx2c0 : Nat) (bx2c1 bx2c2 : Nat) (wx2c2c2 : Value) (x2c2c0 : aSp) (x2c2c1 : List Ze) (x2c2c2 : List (Bool × aSt)) (x2c2c2c9 : Int) (x2c2c2c7 : List Int) (x2c2c2c8 : List (List aMv)) (r : tbr × (List aMv)) : ES := thenS (fun s' => TL tp 21 (ca [1,0,0] Try.f31) s' ((Gi bx0 bx2c0 bx2c1 bx2c2 wx2c2c2 x2c2c0 x2c2c1 x2c2c2 x2c2c2c9 x2c2c2c7 x2c2c2c8 r))) ((Gi bx0 bx2c0 bx2c1 bx2c2 wx2c2c2 x2c2c0 x2c2c1 x2c2c2 x2c2c2c9 x2c2c2c7 x2c2c2c8 r))
abbrev F8 (bx0 bx2c0 : Nat) (bx2c1 bx2c2 : Nat) (wx2c2c2 : Value) (x2c2c0 : aSp) (x2c2c1 : List Ze) (x2c2c2 : List (Bool × aSt)) (x2c2c2c9 : Int) (x2c2c2c7 : List Int) (x2c2c2c8 : List (List aMv)) (r : tbr × (List aMv)) : ES := thenS (fun s' => T tp 21 (ca [1,0,0,1] Try.f31) s' ((Bm bx0 bx2c0 bx2c1 bx2c2 wx2c2c2 x2c2c0 x2c2c1 x2c2c2 x2c2c2c9 x2c2c2c7 x2c2c2c8 r))) ((Bm bx0 bx2c0 bx2c1 bx2c2 wx2c2c2 x2c2c0 x2c2c1 x2c2c2 x2c2c2c9 x2c2c2c7 x2c2c2c8 r))
theorem Bn {r : tbr × (List aMv)} (K bx0 : Nat) (bx2c0 bx2c1 bx2c2 : Nat) (wx2c2c2 : Value) (x2c2c0 : aSp) (x2c2c1 : List Ze) (x2c2c2 : List (Bool × aSt)) (x2c2c2c9 : Int) (x2c2c2c7 : List Int) (x2c2c2c8 : List (List aMv)) (f : ByteArray) (g : Bool) (i : List aMv) (x2c2c0 : aSp) (x2c2c1 : List Ze) (x2c2c2 : List (Bool × aSt)) (x2c2c2c9 : Int) (x2c2c2c7 : List Int) (x2c2c2c8 : List (List aMv)) (a b : Value) (c w9003_1aa : Value) (h : Hp K f g i x2c2c0 x2c2c1 x2c2c2 x2c2c2c9 x2c2c2c7 x2c2c2c8 = some r) : T tp 21 (ca [1,0,0,0,1,1] Try.f31) ⟨[], [(Q3 bx0 f g), (Kb bx2c0 a), .arrA a 63 2 (i.map Qw), (Zi bx2c1 bx0), (Z6 bx2c2 x2c2c0.Of x2c2c0.Many b wx2c2c2), .arrA b 42 2 (mA x2c2c1), .arrX wx2c2c2 59 4 0 (Wf (x2c2c2.map Q1) (Int.toNat x2c2c2c9) c w9003_1aa), .arrA c 3 1 (mI x2c2c2c7), .arrA w9003_1aa 61 1 (x2c2c2c8.map (cL 2 Qw))]⟩ (F8 bx0 bx2c0 bx2c1 bx2c2 wx2c2c2 x2c2c0 x2c2c1 x2c2c2 x2c2c2c9 x2c2c2c7 x2c2c2c8 r) := by
 unfold Hp at h
 refine T.exit (Qh (Qh (Qq ?_)))
 exact Q8 (.nil) (.cons 0 rfl (.cons 0 rfl (.cons 0 rfl (.cons 0 rfl (.cons 0 rfl (.cons 0 rfl (.cons 0 rfl (.cons 0 rfl (.cons 0 rfl (.nil _)))))))))) (by cases h; exact ⟨gl [a, b, c, w9003_1aa], rfl, rfl⟩)
theorem Oc {r : tbr × (List aMv)} (K bx0 : Nat) (bx2c0 bx2c1 bx2c2 : Nat) (wx2c2c2 : Value) (x2c2c0 : aSp) (x2c2c1 : List Ze) (x2c2c2 : List (Bool × aSt)) (x2c2c2c9 : Int) (x2c2c2c7 : List Int) (x2c2c2c8 : List (List aMv)) : ∀ (k : Nat), ∀ (x1 q : Int) (l : ByteArray) (m : Bool) (p : List aMv) (x2c2c0 : aSp) (x2c2c1 : List Ze) (x2c2c2 : List (Bool × aSt)) (x2c2c2c9 : Int) (x2c2c2c7 : List Int) (x2c2c2c8 : List (List aMv)) (g j : Value) (w2_0aa w2_0aaa : Value), Yt K k x1 q l m p x2c2c0 x2c2c1 x2c2c2 x2c2c2c9 x2c2c2c7 x2c2c2c8 = some r → TL tp 21 (ca [1,0,0] Try.f31) ⟨[(0, .ptr bx0 0), (1, .int .i64 x1), (2, .c (.ex (.func (.func 38) #[] #[.pointer (some ⟨bx2c0, 0, none⟩), .pointer (some ⟨bx2c1, 0, none⟩), .pointer (some ⟨bx2c2, 0, none⟩)]))), (6, .int .i64 q)], [(Q3 bx0 l m), (Kb bx2c0 g), .arrA g 63 2 (p.map Qw), (Zi bx2c1 bx0), (Z6 bx2c2 x2c2c0.Of x2c2c0.Many j wx2c2c2), .arrA j 42 2 (mA x2c2c1), .arrX wx2c2c2 59 4 0 (Wf (x2c2c2.map Q1) (Int.toNat x2c2c2c9) w2_0aa w2_0aaa), .arrA w2_0aa 3 1 (mI x2c2c2c7), .arrA w2_0aaa 61 1 (x2c2c2c8.map (cL 2 Qw))]⟩ (Gi bx0 bx2c0 bx2c1 bx2c2 wx2c2c2 x2c2c0 x2c2c1 x2c2c2 x2c2c2c9 x2c2c2c7 x2c2c2c8 r) := by
 intro k
 induction k with
 | zero =>
  intro x1 q l m p x2c2c0 x2c2c1 x2c2c2 x2c2c2c9 x2c2c2c7 x2c2c2c8 g j w2_0aa w2_0aaa h
  cases (show (none : Option (tbr × (List aMv))) = some r from h)
 | succ k ih =>
  intro x1 q l m p x2c2c0 x2c2c1 x2c2c2 x2c2c2c9 x2c2c2c7 x2c2c2c8 g j w2_0aa w2_0aaa h
  rw [Yt] at h
  refine Za ?_
  refine T.seq ?_
  refine T.seq (Qr ?_)
  refine mw rfl ?_
  refine mw rfl ?_
  refine sp rfl (Qa rfl rfl (dk rfl) rfl rfl ?_)
  refine mw rfl ?_
  rcases Qb h with ⟨a, h⟩ | ⟨a, h⟩
  refine sn rfl a (OpT.move rfl (dk rfl) rfl ?_)
  refine sn rfl a (OpT.nilCheck rfl (dk rfl) rfl rfl ?_)
  refine sn rfl a (Ql rfl (dk rfl) ul75 rfl i4 (by decide) rfl ?_)
  refine sn rfl a (Qo (i := 0) rfl (dk rfl) ul4 rfl rfl rfl rfl ?_)
  refine sn rfl a (OpT.not rfl (dk rfl) rfl ?_)
  refine sp rfl (Qf rfl (dk rfl) rfl a rfl ?_)
  refine TL'.nil (tN ?_)
  rcases Qb h with ⟨u, h⟩ | ⟨u, h⟩
  refine Qk rfl u ?_
  refine T.skip (tN ?_)
  refine T.seq ?_
  refine T.block ?_
  refine Qr ?_
  refine mw rfl ?_
  obtain ⟨v, w, h⟩ := bind_some h
  refine sp rfl (C7 (f := 38) (vs := [.pointer (some ⟨bx2c0, 0, none⟩), .pointer (some ⟨bx2c1, 0, none⟩), .pointer (some ⟨bx2c2, 0, none⟩)]) rfl rfl (dk rfl) Try.func38 rfl rfl (Q6 (is := [1, 2, 3, 0, 4, 5, 6, 7, 8]) (ph := []) rfl (dk rfl) Try.func38 rfl rfl (Q5.cons rfl (Q5.cons rfl (Q5.cons rfl Q5.nil))) (P7 K (bx0 := bx2c0) (wx0 := g) (bx1 := bx2c1) (bx1_p := bx0) (bx2 := bx2c2) (wx2c1 := j) (wx2c2 := wx2c2c2) (wx2c2c7 := w2_0aa) (wx2c2c8 := w2_0aaa) w) (.cons rfl rfl (.cons rfl rfl (.cons rfl rfl (.cons rfl rfl (.cons rfl rfl (.cons rfl rfl (.cons rfl rfl (.cons rfl rfl (.cons rfl rfl (.nil)))))))))) (fun _ => rfl) (fun s => ?_)))
  refine nm (.c (.c (.c (.c (.c (.c (.c (.c (.c (.n)))))))))) ?_
  refine TL'.nil (Qe (tN ?_))
  refine Qr ?_
  refine mw rfl ?_
  refine sp rfl (Qa rfl rfl (dk rfl) rfl rfl ?_)
  refine aw rfl ?_
  refine TL'.nil (tN ?_)
  refine Qc ?_ (ih x1 (wI (q + (1:Int))) v.2.b v.2.bad v.1 x2c2c0 x2c2c1 x2c2c2 x2c2c2c9 x2c2c2c7 x2c2c2c8 (s 0) (s 1) (s 2) (s 3) h)
  exact tq rfl rfl
  refine Qp rfl u ?_
  refine Qd ?_ (Bn K bx0 bx2c0 bx2c1 bx2c2 wx2c2c2 x2c2c0 x2c2c1 x2c2c2 x2c2c2c9 x2c2c2c7 x2c2c2c8 l m p x2c2c0 x2c2c1 x2c2c2 x2c2c2c9 x2c2c2c7 x2c2c2c8 g j w2_0aa w2_0aaa h)
  exact tq rfl rfl
  refine pf rfl a ?_
  refine pf rfl a ?_
  refine pf rfl a ?_
  refine pf rfl a ?_
  refine pf rfl a ?_
  refine sp rfl (Qm rfl (dk rfl) rfl a rfl ?_)
  refine TL'.nil (tN ?_)
  refine Qp rfl rfl ?_
  refine Qd ?_ (Bn K bx0 bx2c0 bx2c1 bx2c2 wx2c2c2 x2c2c0 x2c2c1 x2c2c2 x2c2c2c9 x2c2c2c7 x2c2c2c8 l m p x2c2c0 x2c2c1 x2c2c2 x2c2c2c9 x2c2c2c7 x2c2c2c8 g j w2_0aa w2_0aaa h)
  exact tq rfl rfl
theorem tbr_times_i4_T (K : Nat) {x0 : tbr} {x1 : Int} {x2c0 : List aMv} {x2c2c0 : aSp} {x2c2c1 : List Ze} {x2c2c2 : List (Bool × aSt)} {x2c2c2c9 : Int} {x2c2c2c7 : List Int} {x2c2c2c8 : List (List aMv)} {bx0 bx2c0 : Nat} {wx2c0 : Value} {bx2c1 bx2c2 : Nat} {wx2c2c1 wx2c2c2 : Value} {wx2c2c2c7 wx2c2c2c8 : Value} {r : tbr × (List aMv)} (h : G8 K x0 x1 x2c0 x2c2c0 x2c2c1 x2c2c2 x2c2c2c9 x2c2c2c7 x2c2c2c8 = some r) : J2 tp 31 [.ptr bx0 0, .int .i64 x1, .c (.ex (.func (.func 38) #[] #[.pointer (some ⟨bx2c0, 0, none⟩), .pointer (some ⟨bx2c1, 0, none⟩), .pointer (some ⟨bx2c2, 0, none⟩)]))] [(Q3 bx0 x0.b x0.bad), (Kb bx2c0 wx2c0), .arrA wx2c0 63 2 (x2c0.map Qw), (Zi bx2c1 bx0), (Z6 bx2c2 x2c2c0.Of x2c2c0.Many wx2c2c1 wx2c2c2), .arrA wx2c2c1 42 2 (mA x2c2c1), .arrX wx2c2c2 59 4 0 (Wf (x2c2c2.map Q1) (Int.toNat x2c2c2c9) wx2c2c2c7 wx2c2c2c8), .arrA wx2c2c2c7 3 1 (mI x2c2c2c7), .arrA wx2c2c2c8 61 1 (x2c2c2c8.map (cL 2 Qw))] (fun γ => (.tup [])) (fun γ => [(Q3 bx0 r.1.b r.1.bad), (Kb bx2c0 (γ 0)), .arrA (γ 0) 63 2 (r.2.map Qw), (Zi bx2c1 bx0), (Z6 bx2c2 x2c2c0.Of x2c2c0.Many (γ 1) wx2c2c2), .arrA (γ 1) 42 2 (mA x2c2c1), .arrX wx2c2c2 59 4 0 (Wf (x2c2c2.map Q1) (Int.toNat x2c2c2c9) (γ 2) (γ 3)), .arrA (γ 2) 3 1 (mI x2c2c2c7), .arrA (γ 3) 61 1 (x2c2c2c8.map (cL 2 Qw))]) := by
 refine Qs Try.func31 rfl (nb rfl) ?_
 show T tp 21 (ca [] Try.f31) ⟨Qv 0 [.ptr bx0 0, .int .i64 x1, .c (.ex (.func (.func 38) #[] #[.pointer (some ⟨bx2c0, 0, none⟩), .pointer (some ⟨bx2c1, 0, none⟩), .pointer (some ⟨bx2c2, 0, none⟩)]))], [(Q3 bx0 x0.b x0.bad), (Kb bx2c0 wx2c0), .arrA wx2c0 63 2 (x2c0.map Qw), (Zi bx2c1 bx0), (Z6 bx2c2 x2c2c0.Of x2c2c0.Many wx2c2c1 wx2c2c2), .arrA wx2c2c1 42 2 (mA x2c2c1), .arrX wx2c2c2 59 4 0 (Wf (x2c2c2.map Q1) (Int.toNat x2c2c2c9) wx2c2c2c7 wx2c2c2c8), .arrA wx2c2c2c7 3 1 (mI x2c2c2c7), .arrA wx2c2c2c8 61 1 (x2c2c2c8.map (cL 2 Qw))]⟩ (Fz bx0 bx2c0 bx2c1 bx2c2 wx2c2c2 x2c2c0 x2c2c1 x2c2c2 x2c2c2c9 x2c2c2c7 x2c2c2c8 r)
 unfold G8 at h
 refine T.seq (Qr ?_)
 refine aw rfl ?_
 refine TL'.nil (tN ?_)
 refine T.block ?_
 refine T.loop ?_
 refine Qc ?_ (Oc K bx0 bx2c0 bx2c1 bx2c2 wx2c2c2 x2c2c0 x2c2c1 x2c2c2 x2c2c2c9 x2c2c2c7 x2c2c2c8 K x1 (0:Int) x0.b x0.bad x2c0 x2c2c0 x2c2c1 x2c2c2 x2c2c2c9 x2c2c2c7 x2c2c2c8 wx2c0 wx2c2c1 wx2c2c2c7 wx2c2c2c8 h)
 exact tq rfl rfl
abbrev tb_Decode_3_q (bx0 : Nat) (wx0_p : Value) (bx1 bx1_p bx2 : Nat) (x0_p : List (Bool × aSt)) (x0_pc9 : Int) (x2c0 : aSp) (x2c1 : List Ze) (r : (List Int) × (List (List aMv)) × tbr) : ES := Jt tp Try.f37 (fun y t => ∃ γ : Nat → Value, y = (.tup []) ∧ t = [(Hg bx0 (elP wx0_p 4 (Int.toNat x0_pc9) 0)), .arrX wx0_p 59 4 0 (Wf (x0_p.map Q1) (Int.toNat x0_pc9) (γ 0) (γ 1)), .arrA (γ 0) 3 1 (mI r.1), .arrA (γ 1) 61 1 (r.2.1.map (cL 2 Qw)), (Zi bx1 bx1_p), (Q3 bx1_p r.2.2.b r.2.2.bad), (Z6 bx2 x2c0.Of x2c0.Many (γ 2) wx0_p), .arrA (γ 2) 42 2 (mA x2c1)])
theorem tb_Decode_3_T (K : Nat) {x0_p : List (Bool × aSt)} {x0_pc9 : Int} {x0_pc7 : List Int} {x0_pc8 : List (List aMv)} {x1_p : tbr} {x2c0 : aSp} {x2c1 : List Ze} {bx0 : Nat} {wx0_p wx0_pc7 wx0_pc8 : Value} {bx1 bx1_p bx2 : Nat} {wx2c1 : Value} {r : (List Int) × (List (List aMv)) × tbr} (h : Km K x0_p x0_pc9 x0_pc7 x0_pc8 x1_p x2c0 x2c1 = some r) : J2 tp 37 [.ptr bx0 0, .ptr bx1 0, .ptr bx2 0] [(Hg bx0 (elP wx0_p 4 (Int.toNat x0_pc9) 0)), .arrX wx0_p 59 4 0 (Wf (x0_p.map Q1) (Int.toNat x0_pc9) wx0_pc7 wx0_pc8), .arrA wx0_pc7 3 1 (mI x0_pc7), .arrA wx0_pc8 61 1 (x0_pc8.map (cL 2 Qw)), (Zi bx1 bx1_p), (Q3 bx1_p x1_p.b x1_p.bad), (Z6 bx2 x2c0.Of x2c0.Many wx2c1 wx0_p), .arrA wx2c1 42 2 (mA x2c1)] (fun γ => (.tup [])) (fun γ => [(Hg bx0 (elP wx0_p 4 (Int.toNat x0_pc9) 0)), .arrX wx0_p 59 4 0 (Wf (x0_p.map Q1) (Int.toNat x0_pc9) (γ 0) (γ 1)), .arrA (γ 0) 3 1 (mI r.1), .arrA (γ 1) 61 1 (r.2.1.map (cL 2 Qw)), (Zi bx1 bx1_p), (Q3 bx1_p r.2.2.b r.2.2.bad), (Z6 bx2 x2c0.Of x2c0.Many (γ 2) wx0_p), .arrA (γ 2) 42 2 (mA x2c1)]) := by
 refine Qs Try.func37 rfl (nb rfl) ?_
 show T tp 32 (ca [] Try.f37) ⟨Qv 0 [.ptr bx0 0, .ptr bx1 0, .ptr bx2 0], [(Hg bx0 (elP wx0_p 4 (Int.toNat x0_pc9) 0)), .arrX wx0_p 59 4 0 (Wf (x0_p.map Q1) (Int.toNat x0_pc9) wx0_pc7 wx0_pc8), .arrA wx0_pc7 3 1 (mI x0_pc7), .arrA wx0_pc8 61 1 (x0_pc8.map (cL 2 Qw)), (Zi bx1 bx1_p), (Q3 bx1_p x1_p.b x1_p.bad), (Z6 bx2 x2c0.Of x2c0.Many wx2c1 wx0_p), .arrA wx2c1 42 2 (mA x2c1)]⟩ (tb_Decode_3_q bx0 wx0_p bx1 bx1_p bx2 x0_p x0_pc9 x2c0 x2c1 r)
 unfold Km at h
 refine T.seq ?_
 refine Qd Zt ?_
 refine Xi ?_
 obtain ⟨v, q, h⟩ := bind_some h
 refine dC (c := ⟨some 4, .el wx0_p 4 (Int.toNat x0_pc9) 0, [(0, .ptr bx0 0)], [(1, (Hg bx0 (elP wx0_p 4 (Int.toNat x0_pc9) 0))), (2, .arrX wx0_p 59 4 0 (Wf (x0_p.map Q1) (Int.toNat x0_pc9) wx0_pc7 wx0_pc8))], []⟩) (fun t hm => oF rfl rfl (Zo (Qo (i := 1) rfl (dk rfl) ul81 rfl hm.s0 hm.o0 rfl rfl) (Ca 4 2 hm.o1 (Rr (Z7 q).2)) ⟨u0, rfl⟩)) (fun _ => rfl) (fun _ => rfl) ?_
 refine dC (c := ⟨some 5, .el wx0_p 4 (Int.toNat x0_pc9) 0, [(0, .ptr bx0 0)], [(1, (Hg bx0 (elP wx0_p 4 (Int.toNat x0_pc9) 0))), (2, .arrX wx0_p 59 4 0 (Wf (x0_p.map Q1) (Int.toNat x0_pc9) wx0_pc7 wx0_pc8))], []⟩) (fun t hm => oF rfl rfl (Zo (Qo (i := 1) rfl (dk rfl) ul81 rfl hm.s0 hm.o0 rfl rfl) (Ca 5 2 hm.o1 (Rr (Z7 q).2)) ⟨u0, rfl⟩)) (fun _ => rfl) (fun _ => rfl) ?_
 refine dC (c := ⟨some 6, .el wx0_p 4 (Int.toNat x0_pc9) 0, [(5, .el wx0_p 4 (Int.toNat x0_pc9) 0)], [], []⟩) (fun t hm => oF rfl rfl (Wn rfl (dk rfl) hm.s0 ⟨u0, rfl⟩)) (fun _ => rfl) (fun _ => rfl) ?_
 refine dC (c := ⟨some 7, .el wx0_p 4 (Int.toNat x0_pc9) 2, [(6, .el wx0_p 4 (Int.toNat x0_pc9) 0)], [], []⟩) (fun t hm => oF rfl rfl (Ue rfl (dk rfl) Uh rfl i56 (by decide) hm.s0 ⟨u0, rfl⟩)) (fun _ => rfl) (fun _ => rfl) ?_
 refine dC (c := ⟨some 8, .c (.ex wx0_pc7), [(7, .el wx0_p 4 (Int.toNat x0_pc9) 2)], [(2, .arrX wx0_p 59 4 0 (Wf (x0_p.map Q1) (Int.toNat x0_pc9) wx0_pc7 wx0_pc8))], []⟩) (fun t hm => oF rfl rfl (OpT.loadHA (i := 2) (xs := x0_p) (f := Q1) (old := v) rfl (dk rfl) Yo rfl hm.s0 hm.o0 (Z7 q).2 rfl ⟨u0, rfl⟩)) (fun _ => rfl) (fun _ => rfl) ?_
 refine dC (c := ⟨some 9, .ptr bx1_p 0, [(1, .ptr bx1 0)], [(5, (Zi bx1 bx1_p))], []⟩) (fun t hm => oF rfl rfl (Qo (i := 5) rfl (dk rfl) ul73 rfl hm.s0 hm.o0 rfl ⟨u0, rfl⟩)) (fun _ => rfl) (fun _ => rfl) ?_
 obtain ⟨m, y, h⟩ := bind_some h
 refine dC (c := ⟨some 10, .int .i64 m.1, [(9, .ptr bx1_p 0)], [(6, (Q3 bx1_p x1_p.b x1_p.bad))], [(6, (Q3 bx1_p m.2.b m.2.bad))]⟩) (fun t hm => oF rfl rfl (Q6 (is := [6]) (ph := []) rfl (dk rfl) Try.func32 rfl rfl (Q5.cons hm.s0 Q5.nil) (La K (bx0 := bx1_p) y) (.cons hm.o0 rfl (.nil)) (fun _ => rfl) (fun g => ⟨(g, 0), rfl⟩))) (fun _ => rfl) (fun _ => rfl) ?_
 refine dC (c := ⟨some 11, .int .i64 (wI (m.1 - (1:Int))), [(10, .int .i64 m.1)], [], []⟩) (fun t hm => oF rfl rfl (Qa rfl rfl (dk rfl) hm.s0 rfl ⟨u0, rfl⟩)) (fun _ => rfl) (fun _ => rfl) ?_
 refine dC (c := ⟨some 12, .sl true 1 ([(wI (m.1 - (1:Int)))].map (cI .i64)), [(11, .int .i64 (wI (m.1 - (1:Int))))], [], []⟩) (fun t hm => oF rfl rfl (OpT.buildSlice (elems := ([(wI (m.1 - (1:Int)))] : List Int).map (cI .i64)) rfl (dk rfl) Yo i3 (by decide) rfl (Ho rfl) (Xj hm.s0 rfl Ux) rfl rfl (Xc rfl) (by decide) ⟨u0, rfl⟩)) (fun _ => rfl) (fun _ => rfl) ?_
 obtain ⟨z, h⟩ := Zm h
 refine DGG.step (c := fun a => ⟨some 13, .c (.ex ((a 9).1 0)), [(12, .sl true 1 ([(wI (m.1 - (1:Int)))].map (cI .i64))), (8, .c (.ex wx0_pc7))], [(3, .arrA wx0_pc7 3 1 (mI x0_pc7))], [(3, .arrA ((a 9).1 0) 3 1 ((x0_pc7 ++ [(wI (m.1 - (1:Int)))]).map (cI .i64)))]⟩) [9] (fun a γ' h => by simp only [h 9 (by decide)]) (fun a t hm => oF rfl rfl (Zf (i := 3) (xs := x0_pc7) (ys := [(wI (m.1 - (1:Int)))]) (f := (cI .i64)) rfl (dk rfl) Yo i3 rfl hm.s1 hm.o0 hm.s0 z (fun w => ⟨(fun _ => w, 0), rfl⟩))) (fun a => Zq rfl rfl) ?_
 refine dC (c := ⟨some 14, .el wx0_p 4 (Int.toNat x0_pc9) 0, [(4, .el wx0_p 4 (Int.toNat x0_pc9) 0)], [], []⟩) (fun t hm => oF rfl rfl (Wn rfl (dk rfl) hm.s0 ⟨u0, rfl⟩)) (fun _ => rfl) (fun _ => rfl) ?_
 refine dC (c := ⟨some 15, .el wx0_p 4 (Int.toNat x0_pc9) 2, [(14, .el wx0_p 4 (Int.toNat x0_pc9) 0)], [], []⟩) (fun t hm => oF rfl rfl (Ue rfl (dk rfl) Uh rfl i56 (by decide) hm.s0 ⟨u0, rfl⟩)) (fun _ => rfl) (fun _ => rfl) ?_
 refine DGG.step (c := fun a => ⟨none, .any, [(15, .el wx0_p 4 (Int.toNat x0_pc9) 2), (13, .c (.ex ((a 9).1 0)))], [(2, .arrX wx0_p 59 4 0 (Wf (x0_p.map Q1) (Int.toNat x0_pc9) wx0_pc7 wx0_pc8))], [(2, .arrX wx0_p 59 4 0 (Wf (x0_p.map Q1) (Int.toNat x0_pc9) ((a 9).1 0) wx0_pc8))]⟩) [9] (fun a γ' h => by simp only [h 9 (by decide)]) (fun a t hm => oF rfl rfl (OpT.storeHA (i := 2) (xs := x0_p) (f := Q1) (old := v) rfl rfl i56 hm.s0 hm.s1 hm.o0 (Z7 q).2 (Nat.zero_le _) rfl ⟨u0, rfl⟩)) (fun a => Zq rfl rfl) ?_
 refine Vz (s1 := fun a => ⟨[(0, .ptr bx0 0), (1, .ptr bx1 0), (2, .ptr bx2 0)], [.ro 0 [], (Hg bx0 (elP wx0_p 4 (Int.toNat x0_pc9) 0)), .arrX wx0_p 59 4 0 (Wf (x0_p.map Q1) (Int.toNat x0_pc9) ((a 9).1 0) wx0_pc8), .arrA ((a 9).1 0) 3 1 ((x0_pc7 ++ [(wI (m.1 - (1:Int)))]).map (cI .i64)), .arrA wx0_pc8 61 1 (x0_pc8.map (cL 2 Qw)), (Zi bx1 bx1_p), (Q3 bx1_p m.2.b m.2.bad), (Z6 bx2 x2c0.Of x2c0.Many wx2c1 wx0_p), .arrA wx2c1 42 2 (mA x2c1)]⟩) (ms := [0, 0, 2, 6, 14, 0, 32, 96, 224, 510, 1023, 2047, 4095]) Q7 rfl (by kernel_rfl) (by kernel_rfl) (by kernel_rfl) (fun a => by kernel_rfl) (fun a => sf rfl) (fun _ => rfl) (fun a u hu => (tN (Qd hu ?_)))
 refine T.seq (Qr ?_)
 refine sp rfl (Zj rfl (dk rfl) i61 rfl (fun s => ?_))
 refine TL'.nil (tN (T.seq (Qr ?_)))
 refine sp rfl (Qo (i := 6) rfl (dk rfl) ul73 rfl rfl rfl rfl ?_)
 refine sp rfl (Ql rfl (dk rfl) Xu rfl i24 (by decide) rfl ?_)
 refine sp rfl (Ql rfl (dk rfl) F7 rfl i3 (by decide) rfl ?_)
 refine sp rfl (Qo (i := 8) rfl (dk rfl) ul3 rfl rfl rfl rfl ?_)
 refine sp rfl (OpT.makeFunc (vs := [.pointer (some ⟨s, 0, none⟩), .pointer (some ⟨bx1, 0, none⟩), .pointer (some ⟨bx2, 0, none⟩)]) rfl (dk rfl) rfl ?_)
 refine Xk (Y7 63 2) ?_
 obtain ⟨p, aa, h⟩ := bind_some h
 refine sp rfl (Q6 (is := [8, 1, 0, 7, 9, 10, 4, 5, 6]) (ph := []) rfl (dk rfl) Try.func31 rfl rfl (Q5.cons rfl (Q5.cons rfl (Q5.cons rfl Q5.nil))) (tbr_times_i4_T K (bx0 := bx1_p) (bx2c0 := s) (wx2c0 := (Df 4)) (bx2c1 := bx1) (bx2c2 := bx2) (wx2c2c1 := wx2c1) (wx2c2c2 := wx0_p) (wx2c2c2c7 := ((a 9).1 0)) (wx2c2c2c8 := wx0_pc8) aa) (.cons rfl rfl (.cons rfl rfl (.cons rfl rfl (.cons rfl rfl (.cons rfl rfl (.cons rfl rfl (.cons rfl rfl (.cons rfl rfl (.cons rfl rfl (.nil)))))))))) (fun _ => rfl) (fun l => ?_))
 refine nm (.c (.c (.c (.c (.c (.c (.c (.c (.c (.c (.c (.n)))))))))))) ?_
 refine TL'.nil (tN ?_)
 refine Qd Zt ?_
 refine Xi ?_
 refine dC (c := ⟨some 22, .el wx0_p 4 (Int.toNat x0_pc9) 0, [(0, .ptr bx0 0)], [(4, (Hg bx0 (elP wx0_p 4 (Int.toNat x0_pc9) 0))), (5, .arrX wx0_p 59 4 0 (Wf (x0_p.map Q1) (Int.toNat x0_pc9) (l 2) (l 3)))], []⟩) (fun t hm => oF rfl rfl (Zo (Qo (i := 4) rfl (dk rfl) ul81 rfl hm.s0 hm.o0 rfl rfl) (Ca 22 5 hm.o1 (Rr (Z7 q).2)) ⟨u0, rfl⟩)) (fun _ => rfl) (fun _ => rfl) ?_
 refine dC (c := ⟨some 23, .el wx0_p 4 (Int.toNat x0_pc9) 0, [(0, .ptr bx0 0)], [(4, (Hg bx0 (elP wx0_p 4 (Int.toNat x0_pc9) 0))), (5, .arrX wx0_p 59 4 0 (Wf (x0_p.map Q1) (Int.toNat x0_pc9) (l 2) (l 3)))], []⟩) (fun t hm => oF rfl rfl (Zo (Qo (i := 4) rfl (dk rfl) ul81 rfl hm.s0 hm.o0 rfl rfl) (Ca 23 5 hm.o1 (Rr (Z7 q).2)) ⟨u0, rfl⟩)) (fun _ => rfl) (fun _ => rfl) ?_
 refine dC (c := ⟨some 24, .el wx0_p 4 (Int.toNat x0_pc9) 0, [(23, .el wx0_p 4 (Int.toNat x0_pc9) 0)], [], []⟩) (fun t hm => oF rfl rfl (Wn rfl (dk rfl) hm.s0 ⟨u0, rfl⟩)) (fun _ => rfl) (fun _ => rfl) ?_
 refine dC (c := ⟨some 25, .el wx0_p 4 (Int.toNat x0_pc9) 3, [(24, .el wx0_p 4 (Int.toNat x0_pc9) 0)], [], []⟩) (fun t hm => oF rfl rfl (Ue rfl (dk rfl) Uh rfl i57 (by decide) hm.s0 ⟨u0, rfl⟩)) (fun _ => rfl) (fun _ => rfl) ?_
 refine dC (c := ⟨some 26, .c (.ex (l 3)), [(25, .el wx0_p 4 (Int.toNat x0_pc9) 3)], [(5, .arrX wx0_p 59 4 0 (Wf (x0_p.map Q1) (Int.toNat x0_pc9) (l 2) (l 3)))], []⟩) (fun t hm => oF rfl rfl (OpT.loadHB (i := 5) (xs := x0_p) (f := Q1) (old := v) rfl (dk rfl) Dh rfl hm.s0 hm.o0 (Z7 q).2 rfl ⟨u0, rfl⟩)) (fun _ => rfl) (fun _ => rfl) ?_
 refine dC (c := ⟨some 27, .sl false 2 (p.2.map Qw), [(3, .ptr s 0)], [(2, (Kb s (l 0))), (1, .arrA (l 0) 63 2 (p.2.map Qw))], []⟩) (fun t hm => oF rfl rfl (Zo (Qo (i := 2) rfl (dk rfl) I8 rfl hm.s0 hm.o0 rfl rfl) (G4 27 1 hm.o1) ⟨u0, rfl⟩)) (fun _ => rfl) (fun _ => rfl) ?_
 refine dC (c := ⟨some 28, .sl true 1 ([p.2].map (cL 2 Qw)), [(27, .sl false 2 (p.2.map Qw))], [], []⟩) (fun t hm => oF rfl rfl (OpT.buildSlice (elems := ([p.2] : List (List aMv)).map (cL 2 Qw)) rfl (dk rfl) Dh i61 (by decide) rfl (Ho rfl) (Xj hm.s0 rfl Ux) rfl rfl (Xc rfl) (by decide) ⟨u0, rfl⟩)) (fun _ => rfl) (fun _ => rfl) ?_
 obtain ⟨ab, h⟩ := Zm h
 refine DGG.step (c := fun j => ⟨some 29, .c (.ex ((j 7).1 0)), [(28, .sl true 1 ([p.2].map (cL 2 Qw))), (26, .c (.ex (l 3)))], [(7, .arrA (l 3) 61 1 (x0_pc8.map (cL 2 Qw)))], [(7, .arrA ((j 7).1 0) 61 1 ((x0_pc8 ++ [p.2]).map (cL 2 Qw)))]⟩) [7] (fun j γ' h => by simp only [h 7 (by decide)]) (fun j t hm => oF rfl rfl (Zf (i := 7) (xs := x0_pc8) (ys := [p.2]) (f := (cL 2 Qw)) rfl (dk rfl) Dh i61 rfl hm.s1 hm.o0 hm.s0 ab (fun w => ⟨(fun _ => w, 0), rfl⟩))) (fun j => Zq rfl rfl) ?_
 refine dC (c := ⟨some 30, .el wx0_p 4 (Int.toNat x0_pc9) 0, [(22, .el wx0_p 4 (Int.toNat x0_pc9) 0)], [], []⟩) (fun t hm => oF rfl rfl (Wn rfl (dk rfl) hm.s0 ⟨u0, rfl⟩)) (fun _ => rfl) (fun _ => rfl) ?_
 refine dC (c := ⟨some 31, .el wx0_p 4 (Int.toNat x0_pc9) 3, [(30, .el wx0_p 4 (Int.toNat x0_pc9) 0)], [], []⟩) (fun t hm => oF rfl rfl (Ue rfl (dk rfl) Uh rfl i57 (by decide) hm.s0 ⟨u0, rfl⟩)) (fun _ => rfl) (fun _ => rfl) ?_
 refine DGG.step (c := fun j => ⟨none, .any, [(31, .el wx0_p 4 (Int.toNat x0_pc9) 3), (29, .c (.ex ((j 7).1 0)))], [(5, .arrX wx0_p 59 4 0 (Wf (x0_p.map Q1) (Int.toNat x0_pc9) (l 2) (l 3)))], [(5, .arrX wx0_p 59 4 0 (Wf (x0_p.map Q1) (Int.toNat x0_pc9) (l 2) ((j 7).1 0)))]⟩) [7] (fun j γ' h => by simp only [h 7 (by decide)]) (fun j t hm => oF rfl rfl (OpT.storeHB (i := 5) (xs := x0_p) (f := Q1) (old := v) rfl rfl i57 hm.s0 hm.s1 hm.o0 (Z7 q).2 (Nat.zero_le _) rfl ⟨u0, rfl⟩)) (fun j => Zq rfl rfl) ?_
 refine Vz (s1 := fun j => ⟨[], [.ro 0 [], .arrA (l 0) 63 2 (p.2.map Qw), (Kb s (l 0)), .ro 0 [], (Hg bx0 (elP wx0_p 4 (Int.toNat x0_pc9) 0)), .arrX wx0_p 59 4 0 (Wf (x0_p.map Q1) (Int.toNat x0_pc9) (l 2) ((j 7).1 0)), .arrA (l 2) 3 1 ((x0_pc7 ++ [(wI (m.1 - (1:Int)))]).map (cI .i64)), .arrA ((j 7).1 0) 61 1 ((x0_pc8 ++ [p.2]).map (cL 2 Qw)), (Zi bx1 bx1_p), (Q3 bx1_p p.1.b p.1.bad), (Z6 bx2 x2c0.Of x2c0.Many (l 1) wx0_p), .arrA (l 1) 42 2 (mA x2c1)]⟩) (ms := [0, 0, 2, 6, 14, 0, 32, 126, 255, 511, 1023]) Q7 rfl (by kernel_rfl) (by kernel_rfl) (by kernel_rfl) (fun j => by kernel_rfl) (fun j => .nil _) (fun _ => rfl) (fun j u hu => (Vd hu ?_))
 exact Q8 (.nil) (.cons 4 rfl (.cons 4 rfl (.cons 4 rfl (.cons 4 rfl (.cons 4 rfl (.cons 4 rfl (.cons 4 rfl (.cons 4 rfl (.nil _))))))))) (by cases h; exact ⟨gl [l 2, (j 7).1 0, l 1], rfl, rfl⟩)
abbrev F0 (bx0 bx2c0 : Nat) (wx2c0_p : Value) (bx2c1 bx2c2 : Nat) (x2c0_p : List (Bool × aSt)) (x2c0_pc9 : Int) (x2c2c0 : aSp) (x2c2c1 : List Ze) (r : tbr × (List Int) × (List (List aMv))) : ES := Jt tp Try.f31 (fun y t => ∃ γ : Nat → Value, y = (.tup []) ∧ t = [(Q3 bx0 r.1.b r.1.bad), (Hg bx2c0 (elP wx2c0_p 4 (Int.toNat x2c0_pc9) 0)), .arrX wx2c0_p 59 4 0 (Wf (x2c0_p.map Q1) (Int.toNat x2c0_pc9) (γ 0) (γ 1)), .arrA (γ 0) 3 1 (mI r.2.1), .arrA (γ 1) 61 1 (r.2.2.map (cL 2 Qw)), (Zi bx2c1 bx0), (Z6 bx2c2 x2c2c0.Of x2c2c0.Many (γ 2) wx2c0_p), .arrA (γ 2) 42 2 (mA x2c2c1)])
abbrev Gj (bx0 bx2c0 : Nat) (wx2c0_p : Value) (bx2c1 bx2c2 : Nat) (x2c0_p : List (Bool × aSt)) (x2c0_pc9 : Int) (x2c2c0 : aSp) (x2c2c1 : List Ze) (r : tbr × (List Int) × (List (List aMv))) : ES := Q0 0 ((F0 bx0 bx2c0 wx2c0_p bx2c1 bx2c2 x2c0_p x2c0_pc9 x2c2c0 x2c2c1 r))
abbrev Bo (bx0 bx2c0 : Nat) (wx2c0_p : Value) (bx2c1 bx2c2 : Nat) (x2c0_p : List (Bool × aSt)) (x2c0_pc9 : Int) (x2c2c0 : aSp) (x2c2c1 : List Ze) (r : tbr × (List Int) × (List (List aMv))) : ES := thenS (fun s' => TL tp 21 (ca [1,0,0] Try.f31) s' ((Gj bx0 bx2c0 wx2c0_p bx2c1 bx2c2 x2c0_p x2c0_pc9 x2c2c0 x2c2c1 r))) ((Gj bx0 bx2c0 wx2c0_p bx2c1 bx2c2 x2c0_p x2c0_pc9 x2c2c0 x2c2c1 r))
abbrev F9 (bx0 bx2c0 : Nat) (wx2c0_p : Value) (bx2c1 bx2c2 : Nat) (x2c0_p : List (Bool × aSt)) (x2c0_pc9 : Int) (x2c2c0 : aSp) (x2c2c1 : List Ze) (r : tbr × (List Int) × (List (List aMv))) : ES := thenS (fun s' => T tp 21 (ca [1,0,0,1] Try.f31) s' ((Bo bx0 bx2c0 wx2c0_p bx2c1 bx2c2 x2c0_p x2c0_pc9 x2c2c0 x2c2c1 r))) ((Bo bx0 bx2c0 wx2c0_p bx2c1 bx2c2 x2c0_p x2c0_pc9 x2c2c0 x2c2c1 r))
theorem Bp {r : tbr × (List Int) × (List (List aMv))} (K bx0 bx2c0 : Nat) (wx2c0_p : Value) (bx2c1 bx2c2 : Nat) (x2c0_p : List (Bool × aSt)) (x2c0_pc9 : Int) (x2c2c0 : aSp) (x2c2c1 : List Ze) (f : ByteArray) (g : Bool) (x2c0_pc9 : Int) (x2c0_p : List (Bool × aSt)) (i : List Int) (j : List (List aMv)) (x2c2c0 : aSp) (x2c2c1 : List Ze) (a b c : Value) (h : Hq K f g x2c0_pc9 x2c0_p i j x2c2c0 x2c2c1 = some r) : T tp 21 (ca [1,0,0,0,1,1] Try.f31) ⟨[], [(Q3 bx0 f g), (Hg bx2c0 (elP wx2c0_p 4 (Int.toNat x2c0_pc9) 0)), .arrX wx2c0_p 59 4 0 (Wf (x2c0_p.map Q1) (Int.toNat x2c0_pc9) a b), .arrA a 3 1 (mI i), .arrA b 61 1 (j.map (cL 2 Qw)), (Zi bx2c1 bx0), (Z6 bx2c2 x2c2c0.Of x2c2c0.Many c wx2c0_p), .arrA c 42 2 (mA x2c2c1)]⟩ (F9 bx0 bx2c0 wx2c0_p bx2c1 bx2c2 x2c0_p x2c0_pc9 x2c2c0 x2c2c1 r) := by
 unfold Hq at h
 refine T.exit (Qh (Qh (Qq ?_)))
 exact Q8 (.nil) (.cons 0 rfl (.cons 0 rfl (.cons 0 rfl (.cons 0 rfl (.cons 0 rfl (.cons 0 rfl (.cons 0 rfl (.cons 0 rfl (.nil _))))))))) (by cases h; exact ⟨gl [a, b, c], rfl, rfl⟩)
theorem Od {r : tbr × (List Int) × (List (List aMv))} (K bx0 bx2c0 : Nat) (wx2c0_p : Value) (bx2c1 bx2c2 : Nat) (x2c0_p : List (Bool × aSt)) (x2c0_pc9 : Int) (x2c2c0 : aSp) (x2c2c1 : List Ze) : ∀ (k : Nat), ∀ (x1 s : Int) (l : ByteArray) (m : Bool) (x2c0_pc9 : Int) (x2c0_p : List (Bool × aSt)) (p : List Int) (q : List (List aMv)) (x2c2c0 : aSp) (x2c2c1 : List Ze) (g j w2_0aa : Value), Yu K k x1 s l m x2c0_pc9 x2c0_p p q x2c2c0 x2c2c1 = some r → TL tp 21 (ca [1,0,0] Try.f31) ⟨[(0, .ptr bx0 0), (1, .int .i64 x1), (2, .c (.ex (.func (.func 37) #[] #[.pointer (some ⟨bx2c0, 0, none⟩), .pointer (some ⟨bx2c1, 0, none⟩), .pointer (some ⟨bx2c2, 0, none⟩)]))), (6, .int .i64 s)], [(Q3 bx0 l m), (Hg bx2c0 (elP wx2c0_p 4 (Int.toNat x2c0_pc9) 0)), .arrX wx2c0_p 59 4 0 (Wf (x2c0_p.map Q1) (Int.toNat x2c0_pc9) g j), .arrA g 3 1 (mI p), .arrA j 61 1 (q.map (cL 2 Qw)), (Zi bx2c1 bx0), (Z6 bx2c2 x2c2c0.Of x2c2c0.Many w2_0aa wx2c0_p), .arrA w2_0aa 42 2 (mA x2c2c1)]⟩ (Gj bx0 bx2c0 wx2c0_p bx2c1 bx2c2 x2c0_p x2c0_pc9 x2c2c0 x2c2c1 r) := by
 intro k
 induction k with
 | zero =>
  intro x1 s l m x2c0_pc9 x2c0_p p q x2c2c0 x2c2c1 g j w2_0aa h
  cases (show (none : Option (tbr × (List Int) × (List (List aMv)))) = some r from h)
 | succ k ih =>
  intro x1 s l m x2c0_pc9 x2c0_p p q x2c2c0 x2c2c1 g j w2_0aa h
  rw [Yu] at h
  refine Za ?_
  refine T.seq ?_
  refine T.seq (Qr ?_)
  refine mw rfl ?_
  refine mw rfl ?_
  refine sp rfl (Qa rfl rfl (dk rfl) rfl rfl ?_)
  refine mw rfl ?_
  rcases Qb h with ⟨a, h⟩ | ⟨a, h⟩
  refine sn rfl a (OpT.move rfl (dk rfl) rfl ?_)
  refine sn rfl a (OpT.nilCheck rfl (dk rfl) rfl rfl ?_)
  refine sn rfl a (Ql rfl (dk rfl) ul75 rfl i4 (by decide) rfl ?_)
  refine sn rfl a (Qo (i := 0) rfl (dk rfl) ul4 rfl rfl rfl rfl ?_)
  refine sn rfl a (OpT.not rfl (dk rfl) rfl ?_)
  refine sp rfl (Qf rfl (dk rfl) rfl a rfl ?_)
  refine TL'.nil (tN ?_)
  rcases Qb h with ⟨v, h⟩ | ⟨v, h⟩
  refine Qk rfl v ?_
  refine T.skip (tN ?_)
  refine T.seq ?_
  refine T.block ?_
  refine Qr ?_
  refine mw rfl ?_
  obtain ⟨u, y, h⟩ := bind_some h
  refine sp rfl (C7 (f := 37) (vs := [.pointer (some ⟨bx2c0, 0, none⟩), .pointer (some ⟨bx2c1, 0, none⟩), .pointer (some ⟨bx2c2, 0, none⟩)]) rfl rfl (dk rfl) Try.func37 rfl rfl (Q6 (is := [1, 2, 3, 4, 5, 0, 6, 7]) (ph := []) rfl (dk rfl) Try.func37 rfl rfl (Q5.cons rfl (Q5.cons rfl (Q5.cons rfl Q5.nil))) (tb_Decode_3_T K (bx0 := bx2c0) (wx0_p := wx2c0_p) (wx0_pc7 := g) (wx0_pc8 := j) (bx1 := bx2c1) (bx1_p := bx0) (bx2 := bx2c2) (wx2c1 := w2_0aa) y) (.cons rfl rfl (.cons rfl rfl (.cons rfl rfl (.cons rfl rfl (.cons rfl rfl (.cons rfl rfl (.cons rfl rfl (.cons rfl rfl (.nil))))))))) (fun _ => rfl) (fun w => ?_)))
  refine nm (.c (.c (.c (.c (.c (.c (.c (.c (.n))))))))) ?_
  refine TL'.nil (Qe (tN ?_))
  refine Qr ?_
  refine mw rfl ?_
  refine sp rfl (Qa rfl rfl (dk rfl) rfl rfl ?_)
  refine aw rfl ?_
  refine TL'.nil (tN ?_)
  refine Qc ?_ (ih x1 (wI (s + (1:Int))) u.2.2.b u.2.2.bad x2c0_pc9 x2c0_p u.1 u.2.1 x2c2c0 x2c2c1 (w 0) (w 1) (w 2) h)
  exact tq rfl rfl
  refine Qp rfl v ?_
  refine Qd ?_ (Bp K bx0 bx2c0 wx2c0_p bx2c1 bx2c2 x2c0_p x2c0_pc9 x2c2c0 x2c2c1 l m x2c0_pc9 x2c0_p p q x2c2c0 x2c2c1 g j w2_0aa h)
  exact tq rfl rfl
  refine pf rfl a ?_
  refine pf rfl a ?_
  refine pf rfl a ?_
  refine pf rfl a ?_
  refine pf rfl a ?_
  refine sp rfl (Qm rfl (dk rfl) rfl a rfl ?_)
  refine TL'.nil (tN ?_)
  refine Qp rfl rfl ?_
  refine Qd ?_ (Bp K bx0 bx2c0 wx2c0_p bx2c1 bx2c2 x2c0_p x2c0_pc9 x2c2c0 x2c2c1 l m x2c0_pc9 x2c0_p p q x2c2c0 x2c2c1 g j w2_0aa h)
  exact tq rfl rfl
theorem tbr_times_i3_T (K : Nat) {x0 : tbr} {x1 : Int} {x2c0_p : List (Bool × aSt)} {x2c0_pc9 : Int} {x2c0_pc7 : List Int} {x2c0_pc8 : List (List aMv)} {x2c2c0 : aSp} {x2c2c1 : List Ze} {bx0 bx2c0 : Nat} {wx2c0_p wx2c0_pc7 wx2c0_pc8 : Value} {bx2c1 bx2c2 : Nat} {wx2c2c1 : Value} {r : tbr × (List Int) × (List (List aMv))} (h : W6 K x0 x1 x2c0_p x2c0_pc9 x2c0_pc7 x2c0_pc8 x2c2c0 x2c2c1 = some r) : J2 tp 31 [.ptr bx0 0, .int .i64 x1, .c (.ex (.func (.func 37) #[] #[.pointer (some ⟨bx2c0, 0, none⟩), .pointer (some ⟨bx2c1, 0, none⟩), .pointer (some ⟨bx2c2, 0, none⟩)]))] [(Q3 bx0 x0.b x0.bad), (Hg bx2c0 (elP wx2c0_p 4 (Int.toNat x2c0_pc9) 0)), .arrX wx2c0_p 59 4 0 (Wf (x2c0_p.map Q1) (Int.toNat x2c0_pc9) wx2c0_pc7 wx2c0_pc8), .arrA wx2c0_pc7 3 1 (mI x2c0_pc7), .arrA wx2c0_pc8 61 1 (x2c0_pc8.map (cL 2 Qw)), (Zi bx2c1 bx0), (Z6 bx2c2 x2c2c0.Of x2c2c0.Many wx2c2c1 wx2c0_p), .arrA wx2c2c1 42 2 (mA x2c2c1)] (fun γ => (.tup [])) (fun γ => [(Q3 bx0 r.1.b r.1.bad), (Hg bx2c0 (elP wx2c0_p 4 (Int.toNat x2c0_pc9) 0)), .arrX wx2c0_p 59 4 0 (Wf (x2c0_p.map Q1) (Int.toNat x2c0_pc9) (γ 0) (γ 1)), .arrA (γ 0) 3 1 (mI r.2.1), .arrA (γ 1) 61 1 (r.2.2.map (cL 2 Qw)), (Zi bx2c1 bx0), (Z6 bx2c2 x2c2c0.Of x2c2c0.Many (γ 2) wx2c0_p), .arrA (γ 2) 42 2 (mA x2c2c1)]) := by
 refine Qs Try.func31 rfl (nb rfl) ?_
 show T tp 21 (ca [] Try.f31) ⟨Qv 0 [.ptr bx0 0, .int .i64 x1, .c (.ex (.func (.func 37) #[] #[.pointer (some ⟨bx2c0, 0, none⟩), .pointer (some ⟨bx2c1, 0, none⟩), .pointer (some ⟨bx2c2, 0, none⟩)]))], [(Q3 bx0 x0.b x0.bad), (Hg bx2c0 (elP wx2c0_p 4 (Int.toNat x2c0_pc9) 0)), .arrX wx2c0_p 59 4 0 (Wf (x2c0_p.map Q1) (Int.toNat x2c0_pc9) wx2c0_pc7 wx2c0_pc8), .arrA wx2c0_pc7 3 1 (mI x2c0_pc7), .arrA wx2c0_pc8 61 1 (x2c0_pc8.map (cL 2 Qw)), (Zi bx2c1 bx0), (Z6 bx2c2 x2c2c0.Of x2c2c0.Many wx2c2c1 wx2c0_p), .arrA wx2c2c1 42 2 (mA x2c2c1)]⟩ (F0 bx0 bx2c0 wx2c0_p bx2c1 bx2c2 x2c0_p x2c0_pc9 x2c2c0 x2c2c1 r)
 unfold W6 at h
 refine T.seq (Qr ?_)
 refine aw rfl ?_
 refine TL'.nil (tN ?_)
 refine T.block ?_
 refine T.loop ?_
 refine Qc ?_ (Od K bx0 bx2c0 wx2c0_p bx2c1 bx2c2 x2c0_p x2c0_pc9 x2c2c0 x2c2c1 K x1 (0:Int) x0.b x0.bad x2c0_pc9 x2c0_p x2c0_pc7 x2c0_pc8 x2c2c0 x2c2c1 wx2c0_pc7 wx2c0_pc8 wx2c2c1 h)
 exact tq rfl rfl
abbrev Kl (r : aAu × Int) : ES := Jt tp Try.f17 (fun y t => y = (.tup [.agg ((Qy.dc 256 .u8 r.1.Split.Of) ++ (([.int .i64 r.1.Split.Many, .sl false 2 (mA r.1.Counts), .sl false 4 (r.1.States.map Qx)] : List DC))), .int .i64 r.2]) ∧ t = [])
abbrev Ff (r : aAu × Int) : ES := thenS (fun s' => T tp 68 (ca [1,1,1,1,1,1,1,1] Try.f17) s' ((Kl r))) ((Kl r))
abbrev Ii (r : aAu × Int) : ES := thenS (fun s' => T tp 68 (ca [1,1,1,1,1,1,1] Try.f17) s' ((Kl r))) ((Kl r))
abbrev Ec (r : aAu × Int) : ES := Q0 0 ((Ii r))
theorem M9 {r : aAu × Int} (K : Nat) (a : Qy) (b : List aSt) (c : Nat) (f g : Value) (h : Ld K a b = some r) : T tp 68 (ca [1,1,1,1,1,1,1,0,1,0] Try.f17) ⟨[(2, .ptr c 0)], [(Z6 c a (0:Int) f g), .arrA f 42 2 (([] : List Ze).map (Ze.dc .i64)), .arrX g 59 4 0 (b.map Qx)]⟩ (Ff r) := by
 unfold Ld at h
 refine T.seq (Qr ?_)
 refine sp rfl (OpT.build (l := ((Qy.dc 256 .u8 (Qy.mk fun _ => 0)) ++ (([.int .i64 (0:Int), .ex (.slice none 0 0), .ex (.slice none 0 0)] : List DC)))) rfl (dk rfl) (Zx (pl := [(0, 257), (257, 1), (258, 1)]) Xu i28 rfl) (Ho rfl) rfl rfl ?_)
 refine sp rfl (Qz (i := 0) (cells' := ((Qy.oc 256 .u8 (Qy.mk fun _ => 0)) ++ (([.d (.int .i64 (0:Int)), .d (.ex (.slice none 0 0)), .d (.ex (.slice none 0 0))]:List OC)))) rfl rfl i28 rfl rfl rfl rfl (nb rfl) rfl ?_)
 refine aw rfl ?_
 refine TL'.nil (tN ?_)
 refine T.ret (Qj ?_)
 refine Vd (Ln 0 (l := ((Qy.dc 256 .u8 (Qy.mk fun _ => 0)) ++ (([.int .i64 (0:Int), .ex (.slice none 0 0), .ex (.slice none 0 0)] : List DC)))) (l' := ((Qy.dc 256 .u8 (Qy.mk fun _ => 0)) ++ (([.int .i64 (0:Int), .sl false 2 (([] : List Ze).map (Ze.dc .i64)), .sl false 4 (([] : List aSt).map Qx)] : List DC)))) rfl (.app _ (.cons (.same _) (.cons (.nil _ _) (.cons (.nil _ _) (.refl _)))))) ?_
 exact Fin.done (.cons _ _ _ _ (.cellAgg 2 28 _ 0 0 28 _ ((Qy.dc 256 .u8 (Qy.mk fun _ => 0)) ++ (([.int .i64 (0:Int), .sl false 2 (([] : List Ze).map (Ze.dc .i64)), .sl false 4 (([] : List aSt).map Qx)] : List DC))) _ _ 259 _ rfl rfl rfl rfl Xu rfl i28) (.cons _ _ _ _ (.tmp 3 _ rfl) .nil)) (by cases h; exact ⟨rfl, rfl⟩)
theorem tb_Decode_l0_T {r : aAu × Int} (K : Nat) : ∀ (k : Nat), ∀ (ay m : Int) (au : Qy) (az : ByteArray) (a0 : Bool) (w : Qy) (aa : Int) (ai : List Ze) (v : List (Bool × aSt)) (al : Nat) (am an : Value) (ab ac af : Nat) (aj j : Value), Xo K k ay m au az a0 w aa ai v = some r → TL tp 68 (ca [1,1,1,1,1,1,0,1,0,0] Try.f17) ⟨[(2, .ptr al 0), (4, .ptr ab 0), (5, .ptr af 0), (31, .int .i64 ay), (32, .int .i64 m)], [(Z6 al au (0:Int) am an), .arrA am 42 2 (([] : List Ze).map (Ze.dc .i64)), .arrX an 59 4 0 (([] : List (Bool × aSt)).map Q1), (Zi ab ac), (Q3 ac az a0), (Z6 af w aa aj j), .arrA aj 42 2 (mA ai), .arrX j 59 4 0 (v.map Q1)]⟩ (Ec r) := by
 intro k
 induction k with
 | zero =>
  intro ay m au az a0 w aa ai v al am an ab ac af aj j h
  cases (show (none : Option (aAu × Int)) = some r from h)
 | succ k ih =>
  intro ay m au az a0 w aa ai v al am an ab ac af aj j h
  rw [Xo] at h
  refine Za ?_
  refine T.seq (Qr ?_)
  refine sp rfl (Qa rfl rfl (dk rfl) rfl rfl ?_)
  refine TL'.nil (tN ?_)
  refine T.seq ?_
  rcases Qb h with ⟨a2, h⟩ | ⟨a2, h⟩
  refine Qk rfl a2 ?_
  refine T.skip (tN ?_)
  refine T.seq ?_
  refine T.block ?_
  refine T.seq (Qr ?_)
  refine mw rfl ?_
  refine aw rfl ?_
  refine TL'.nil (tN (T.seq (Qr ?_)))
  refine sp rfl (Ql rfl (dk rfl) Xu rfl i26 (by decide) rfl ?_)
  refine sp rfl (Qo (i := 5) rfl (dk rfl) Vx rfl rfl rfl rfl ?_)
  refine mw rfl ?_
  obtain ⟨q, a1, h⟩ := bind_some h
  refine sp rfl (W5 (n := 7) (xs := v) (f := Q1) (old := q) rfl (dk rfl) Vx i59 rfl rfl rfl a1 ?_)
  refine sp rfl (Zj rfl (dk rfl) i81 rfl (fun ap => ?_))
  refine Xk (Zn.elExact 38 rfl) ?_
  obtain ⟨a5, h⟩ := Zm h
  refine TL'.turnN (Zn.open 8 (Int.toNat m) (e1 := 3) (e2 := 61) (k1 := 1) (l1 := mI q.2.Rule) (k2 := 1) (l2 := q.2.Next.map (cL 2 Qw)) (c0 := .sl false 1 (mI q.2.L)) (c1 := .sl false 1 (mI q.2.R)) rfl ((Mc (f := Q1) (Z7 a1).2).trans (congrArg some (by obtain ⟨b, y⟩ := q; cases (show b = false from a5); rfl)))) (fun aq => ?_)
  refine sp rfl (Ug (i := 2) (cells' := [.d (.ex (elP j 4 (Int.toNat m) 0))]) rfl rfl i81 rfl rfl rfl (nb rfl) rfl ?_)
  refine TL'.nil (tN ?_)
  refine Xi ?_
  refine dC (c := ⟨some 39, .ptr ac 0, [(4, .ptr ab 0)], [(6, (Zi ab ac))], []⟩) (fun t hm => oF rfl rfl (Qo (i := 6) rfl (dk rfl) ul73 rfl hm.s0 hm.o0 rfl ⟨u0, rfl⟩)) (fun _ => rfl) (fun _ => rfl) ?_
  refine dC (c := ⟨some 40, .el j 4 (Int.toNat m) 0, [(7, .ptr ap 0)], [(2, (Hg ap (elP j 4 (Int.toNat m) 0))), (10, .arrX j 59 4 0 (Wf (v.map Q1) (Int.toNat m) (aq 0) (aq 1)))], []⟩) (fun t hm => oF rfl rfl (Zo (Qo (i := 2) rfl (dk rfl) ul81 rfl hm.s0 hm.o0 rfl rfl) (Ca 40 10 hm.o1 (Rr (Z7 a1).2)) ⟨u0, rfl⟩)) (fun _ => rfl) (fun _ => rfl) ?_
  refine dC (c := ⟨some 41, .el j 4 (Int.toNat m) 0, [(40, .el j 4 (Int.toNat m) 0)], [], []⟩) (fun t hm => oF rfl rfl (Wn rfl (dk rfl) hm.s0 ⟨u0, rfl⟩)) (fun _ => rfl) (fun _ => rfl) ?_
  refine dC (c := ⟨some 42, .el j 4 (Int.toNat m) 1, [(41, .el j 4 (Int.toNat m) 0)], [], []⟩) (fun t hm => oF rfl rfl (Ue rfl (dk rfl) Uh rfl i56 (by decide) hm.s0 ⟨u0, rfl⟩)) (fun _ => rfl) (fun _ => rfl) ?_
  refine dC (c := ⟨some 43, .sl false 1 (mI q.2.R), [(42, .el j 4 (Int.toNat m) 1)], [(10, .arrX j 59 4 0 (Wf (v.map Q1) (Int.toNat m) (aq 0) (aq 1)))], []⟩) (fun t hm => oF rfl rfl (OpT.loadHM (i := 10) (xs := v) (f := Q1) (old := q) rfl (dk rfl) Yo rfl hm.s0 hm.o0 (Z7 a1).2 (by decide) rfl ⟨u0, rfl⟩)) (fun _ => rfl) (fun _ => rfl) ?_
  refine dC (c := ⟨some 44, .int .i64 (q.2.R.length : Int), [(43, .sl false 1 (mI q.2.R))], [], []⟩) (fun t hm => oF rfl rfl (Qn (xs := q.2.R) (f := (cI .i64)) rfl (dk rfl) Yo hm.s0 ⟨u0, rfl⟩)) (fun _ => rfl) (fun _ => rfl) ?_
  obtain ⟨a4, a6, h⟩ := bind_some h
  refine dC (c := ⟨some 45, .int .i64 a4, [(44, .int .i64 (q.2.R.length : Int))], [], []⟩) (fun t hm => oF rfl rfl (Q2 rfl (dk rfl) Try.func36 rfl rfl (Q5.cons hm.s0 Q5.nil) (Zp.nil (Pi K a6)) ⟨u0, rfl⟩)) (fun _ => rfl) (fun _ => rfl) ?_
  refine dC (c := ⟨some 46, .c (.ex (.func (.func 37) #[] #[.pointer (some ⟨ap, 0, none⟩), .pointer (some ⟨ab, 0, none⟩), .pointer (some ⟨af, 0, none⟩)])), [(7, .ptr ap 0), (4, .ptr ab 0), (5, .ptr af 0)], [], []⟩) (fun t hm => oF rfl rfl (OpT.makeFunc (vs := [.pointer (some ⟨ap, 0, none⟩), .pointer (some ⟨ab, 0, none⟩), .pointer (some ⟨af, 0, none⟩)]) rfl (dk rfl) (Kh hm.s0 (Kh hm.s1 (Kh hm.s2 evs_nil))) ⟨u0, rfl⟩)) (fun _ => rfl) (fun _ => rfl) ?_
  obtain ⟨ag, a7, h⟩ := bind_some h
  refine DGG.step (c := fun a => ⟨some 47, .tup [], [(39, .ptr ac 0), (45, .int .i64 a4), (46, .c (.ex (.func (.func 37) #[] #[.pointer (some ⟨ap, 0, none⟩), .pointer (some ⟨ab, 0, none⟩), .pointer (some ⟨af, 0, none⟩)])))], [(9, .arrA aj 42 2 (mA ai)), (8, (Z6 af w aa aj j)), (6, (Zi ab ac)), (1, .arrA (aq 1) 61 1 (q.2.Next.map (cL 2 Qw))), (0, .arrA (aq 0) 3 1 (mI q.2.Rule)), (10, .arrX j 59 4 0 (Wf (v.map Q1) (Int.toNat m) (aq 0) (aq 1))), (2, (Hg ap (elP j 4 (Int.toNat m) 0))), (7, (Q3 ac az a0))], [(7, (Q3 ac ag.1.b ag.1.bad)), (2, (Hg ap (elP j 4 (Int.toNat m) 0))), (10, .arrX j 59 4 0 (Wf (v.map Q1) (Int.toNat m) ((a 8).1 0) ((a 8).1 1))), (0, .arrA ((a 8).1 0) 3 1 (mI ag.2.1)), (1, .arrA ((a 8).1 1) 61 1 (ag.2.2.map (cL 2 Qw))), (6, (Zi ab ac)), (8, (Z6 af w aa ((a 8).1 2) j)), (9, .arrA ((a 8).1 2) 42 2 (mA ai))]⟩) [8] (fun a γ' h => by simp only [h 8 (by decide)]) (fun a t hm => oF rfl rfl (Q6 (is := [7, 2, 10, 0, 1, 6, 8, 9]) (ph := []) rfl (dk rfl) Try.func31 rfl rfl (Q5.cons hm.s0 (Q5.cons hm.s1 (Q5.cons hm.s2 Q5.nil))) (tbr_times_i3_T K (bx0 := ac) (bx2c0 := ap) (wx2c0_p := j) (wx2c0_pc7 := (aq 0)) (wx2c0_pc8 := (aq 1)) (bx2c1 := ab) (bx2c2 := af) (wx2c2c1 := aj) a7) (.cons (hm.objs (7, _) (.tail _ (.tail _ (.tail _ (.tail _ (.tail _ (.tail _ (.tail _ (.head _))))))))) rfl (.cons (hm.objs (2, _) (.tail _ (.tail _ (.tail _ (.tail _ (.tail _ (.tail _ (.head _)))))))) rfl (.cons (hm.objs (10, _) (.tail _ (.tail _ (.tail _ (.tail _ (.tail _ (.head _))))))) rfl (.cons (hm.objs (0, _) (.tail _ (.tail _ (.tail _ (.tail _ (.head _)))))) rfl (.cons (hm.objs (1, _) (.tail _ (.tail _ (.tail _ (.head _))))) rfl (.cons hm.o2 rfl (.cons hm.o1 rfl (.cons hm.o0 rfl (.nil))))))))) (fun _ => rfl) (fun g => ⟨(g, 0), rfl⟩))) (fun a => Zq rfl rfl) ?_
  refine Vz (s1 := fun a => ⟨[(2, .ptr al 0), (4, .ptr ab 0), (5, .ptr af 0), (31, .int .i64 ay), (32, .int .i64 m)], [.arrA ((a 8).1 0) 3 1 (mI ag.2.1), .arrA ((a 8).1 1) 61 1 (ag.2.2.map (cL 2 Qw)), (Hg ap (elP j 4 (Int.toNat m) 0)), (Z6 al au (0:Int) am an), .arrA am 42 2 (([] : List Ze).map (Ze.dc .i64)), .arrX an 59 4 0 (([] : List (Bool × aSt)).map Q1), (Zi ab ac), (Q3 ac ag.1.b ag.1.bad), (Z6 af w aa ((a 8).1 2) j), .arrA ((a 8).1 2) 42 2 (mA ai), .arrX j 59 4 0 (Wf (v.map Q1) (Int.toNat m) ((a 8).1 0) ((a 8).1 1))]⟩) (ms := [0, 0, 2, 6, 14, 30, 62, 0, 255]) Q7 rfl (by kernel_rfl) (by kernel_rfl) (by kernel_rfl) (fun a => by kernel_rfl) (fun a => sf rfl) (fun _ => rfl) (fun a u hu => (Qe (tN (Qd hu ?_))))
  refine Qr ?_
  refine sp rfl (Qa rfl rfl (dk rfl) rfl rfl ?_)
  refine mw rfl ?_
  refine TL'.nil (tN ?_)
  refine Qc (Zn.closeM 10 0 1 (Int.toNat m) (xs := v) (f := Q1) (old := q) (new := (true, (aSt.mk q.2.L q.2.R ag.2.1 ag.2.2))) rfl (Z7 a1).2 rfl rfl rfl rfl) ?_
  refine Qc ?_ (ih ay (wI (m + (1:Int))) au ag.1.b ag.1.bad w aa ai (List.set v (Int.toNat m) (true, (aSt.mk q.2.L q.2.R ag.2.1 ag.2.2))) al am an ab ac af ((a 8).1 2) j h)
  exact tr rfl (.c (.s (.s (.s .z))) (.c (.s (.s (.s .z))) (.c (.s (.s (.s .z))) (.c (.s (.s (.s .z))) (.c (.s (.s (.s .z))) (.c (.s (.s (.s .z))) (.c (.s (.s (.s .z))) (.c (.s (.s (.s .z))) (.n _)))))))))
  refine Qp rfl a2 ?_
  refine T.exit (Qh (Qh (Qq (tN ?_))))
  refine T.seq ?_
  refine T.seq ?_
  refine Qd (Zn.weakX 2 (xs := ([] : List (Bool × aSt))) (f := Q1) (g := Qx) (p := Prod.snd) rfl (fun x => (.cons (.same _) (.cons (.same _) (.cons (.full _ _ _) (.cons (.full _ _ _) (.refl _)))))) (fun _ => rfl)) ?_
  refine Qd (Zn.weakX 7 (xs := v) (f := Q1) (g := Qx) (p := Prod.snd) rfl (fun x => (.cons (.same _) (.cons (.same _) (.cons (.full _ _ _) (.cons (.full _ _ _) (.refl _)))))) (fun _ => rfl)) ?_
  refine Qr ?_
  refine sp rfl (Qo (i := 3) rfl (dk rfl) ul73 rfl rfl rfl rfl ?_)
  refine sp rfl (OpT.nilCheck rfl (dk rfl) rfl rfl ?_)
  refine sp rfl (Ql rfl (dk rfl) ul75 rfl i4 (by decide) rfl ?_)
  refine sp rfl (Qo (i := 4) rfl (dk rfl) ul4 rfl rfl rfl rfl ?_)
  refine mw rfl ?_
  rcases Qb h with ⟨ad, h⟩ | ⟨ad, h⟩
  refine pf rfl ad ?_
  refine pf rfl ad ?_
  refine pf rfl ad ?_
  refine pf rfl ad ?_
  refine pf rfl ad ?_
  refine pf rfl ad ?_
  refine sp rfl (Qf rfl (dk rfl) rfl ad rfl ?_)
  refine mw rfl ?_
  refine pf rfl rfl ?_
  refine pf rfl rfl ?_
  refine pf rfl rfl ?_
  refine sp rfl (Qf rfl (dk rfl) rfl rfl rfl ?_)
  refine TL'.nil (tN ?_)
  refine Qk rfl rfl ?_
  refine Qd ?_ (M9 K au (([] : List (Bool × aSt)).map Prod.snd) al am an h)
  exact tq rfl rfl
  refine sn rfl ad (Qo (i := 3) rfl (dk rfl) ul73 rfl rfl rfl rfl ?_)
  refine sn rfl ad (OpT.nilCheck rfl (dk rfl) rfl rfl ?_)
  refine sn rfl ad (Ql rfl (dk rfl) ul75 rfl i9 (by decide) rfl ?_)
  refine sn rfl ad (Qo (i := 4) rfl (dk rfl) ul9 rfl rfl rfl rfl ?_)
  refine sn rfl ad (OpT.lenStr rfl (dk rfl) ul9 rfl ?_)
  refine sn rfl ad (Qa rfl rfl (dk rfl) rfl rfl ?_)
  refine sp rfl (Qm rfl (dk rfl) rfl ad rfl ?_)
  refine mw rfl ?_
  rcases Qb h with ⟨av, h⟩ | ⟨av, h⟩
  refine pf rfl av ?_
  refine pf rfl av ?_
  refine pf rfl av ?_
  refine sp rfl (Qf rfl (dk rfl) rfl av rfl ?_)
  refine TL'.nil (tN ?_)
  refine Qk rfl rfl ?_
  refine Qd ?_ (M9 K au (([] : List (Bool × aSt)).map Prod.snd) al am an h)
  exact tq rfl rfl
  refine Xk (O9 7 rfl) ?_
  refine sn rfl av (Zo (Zc (i := 5) (l := ((Qy.dc 256 .u8 w) ++ (([.int .i64 aa, .ex aj, .ex j] : List DC)))) rfl (dk rfl) Xu rfl i28 rfl rfl rfl rfl rfl) (Y9 62 (l := ((Qy.dc 256 .u8 w) ++ (([.int .i64 aa, .ex aj, .ex j] : List DC)))) (l' := ((Qy.dc 256 .u8 w) ++ (([.int .i64 aa, .sl false 2 (mA ai), .sl false 4 ((v.map Prod.snd).map Qx)] : List DC)))) (.app _ (.cons (.same _) (.cons (.view 6 rfl) (.cons (.view 7 rfl) (.refl _)))))) ?_)
  obtain ⟨a9, a8, h⟩ := bind_some h
  refine sn rfl av (Q2 rfl (dk rfl) Try.func20 rfl rfl (Q5.cons rfl Q5.nil) (Zp.nil (Ph K a8)) ?_)
  refine sn rfl av (OpT.not rfl (dk rfl) rfl ?_)
  refine sp rfl (Qm rfl (dk rfl) rfl av rfl ?_)
  refine TL'.nil (tN ?_)
  rcases Qb h with ⟨a3, h⟩ | ⟨a3, h⟩
  refine Qk rfl a3 ?_
  refine Qd ?_ (M9 K au (([] : List (Bool × aSt)).map Prod.snd) al am an h)
  exact tq rfl rfl
  refine Qp rfl a3 ?_
  refine T.skip (tN ?_)
  refine T.seq (Qr ?_)
  refine sp rfl (Zo (Zc (i := 5) (l := ((Qy.dc 256 .u8 w) ++ (([.int .i64 aa, .ex aj, .ex j] : List DC)))) rfl (dk rfl) Xu rfl i28 rfl rfl rfl rfl rfl) (Y9 67 (l := ((Qy.dc 256 .u8 w) ++ (([.int .i64 aa, .ex aj, .ex j] : List DC)))) (l' := ((Qy.dc 256 .u8 w) ++ (([.int .i64 aa, .sl false 2 (mA ai), .sl false 4 ((v.map Prod.snd).map Qx)] : List DC)))) (.app _ (.cons (.same _) (.cons (.view 6 rfl) (.cons (.view 7 rfl) (.refl _)))))) ?_)
  refine sp rfl (Qz (i := 0) (cells' := ((Qy.oc 256 .u8 w) ++ (([.d (.int .i64 aa), .d (.sl false 2 (mA ai)), .d (.sl false 4 ((v.map Prod.snd).map Qx))]:List OC)))) rfl rfl i28 rfl rfl rfl rfl (nb rfl) rfl ?_)
  refine aw rfl ?_
  refine TL'.nil (tN ?_)
  refine T.ret ?_
  exact Fin.done (.cons _ _ _ _ (.cellAgg 2 28 _ 0 0 28 _ ((Qy.dc 256 .u8 w) ++ (([.int .i64 aa, .sl false 2 (mA ai), .sl false 4 ((v.map Prod.snd).map Qx)] : List DC))) _ _ 259 _ rfl rfl rfl rfl Xu rfl i28) (.cons _ _ _ _ (.tmp 3 _ rfl) .nil)) (by cases h; exact ⟨rfl, rfl⟩)
theorem Ij (K : Nat) {x0 : List Int} {flx0 : Bool} {r : aAu × Int} (h : Kp K x0 = some r) : Zp tp 17 [.sl flx0 1 (mU x0)] [] (.tup [.agg ((Qy.dc 256 .u8 r.1.Split.Of) ++ (([.int .i64 r.1.Split.Many, .sl false 2 (mA r.1.Counts), .sl false 4 (r.1.States.map Qx)] : List DC))), .int .i64 r.2]) := by
 refine Qs Try.func17 rfl (nb rfl) ?_
 show T tp 68 (ca [] Try.f17) ⟨Qv 0 [.sl flx0 1 (mU x0)], []⟩ (Kl r)
 unfold Kp at h
 refine T.seq (Qr ?_)
 refine sp rfl (Zj rfl (dk rfl) i28 rfl (fun ac => ?_))
 refine aw rfl ?_
 refine TL'.nil (tN (T.seq (Qr ?_)))
 refine mw rfl ?_
 refine sp rfl (Wb (xs := x0) rfl (dk rfl) Vj ul5 ul9 rfl ?_)
 refine sp rfl (OpT.build (l := [.str (ofBytes x0), .bool false]) rfl (dk rfl) (Zx (pl := [(0, 1), (1, 1)]) ul75 i75 rfl) (Ho rfl) rfl rfl ?_)
 refine sp rfl (Zb rfl (dk rfl) rfl (fun a => ?_))
 refine sp rfl (Zj rfl (dk rfl) i73 rfl (fun p => ?_))
 refine sp rfl (Ug (i := 0) (cells' := [.d (.ptr a 0)]) rfl rfl i73 rfl rfl rfl (nb rfl) rfl ?_)
 refine TL'.nil (tN ?_)
 refine T.seq ?_
 refine T.seq (Qr ?_)
 refine sp rfl (Qo (i := 0) rfl (dk rfl) ul73 rfl rfl rfl rfl ?_)
 obtain ⟨an, af, h⟩ := bind_some h
 refine sp rfl (Q6 (is := [1]) (ph := []) rfl (dk rfl) Try.func29 rfl rfl (Q5.cons rfl (Q5.cons rfl Q5.nil)) (E7 K (bx0 := a) af) (.cons rfl rfl (.nil)) (fun _ => rfl) (fun ap => ?_))
 refine nm (.c (.c (.c (.n)))) ?_
 refine sp rfl (OpT.str_neq rfl (dk rfl) rfl rfl ?_)
 refine TL'.nil (tN ?_)
 rcases Qb h with ⟨ad, h⟩ | ⟨ad, h⟩
 refine Qk rfl ad ?_
 refine T.seq (Qr ?_)
 refine sp rfl (OpT.build (l := ((Qy.dc 256 .u8 (Qy.mk fun _ => 0)) ++ (([.int .i64 (0:Int), .ex (.slice none 0 0), .ex (.slice none 0 0)] : List DC)))) rfl (dk rfl) (Zx (pl := [(0, 257), (257, 1), (258, 1)]) Xu i28 rfl) (Ho rfl) rfl rfl ?_)
 refine sp rfl (Qz (i := 2) (cells' := ((Qy.oc 256 .u8 (Qy.mk fun _ => 0)) ++ (([.d (.int .i64 (0:Int)), .d (.ex (.slice none 0 0)), .d (.ex (.slice none 0 0))]:List OC)))) rfl rfl i28 rfl rfl rfl rfl (nb rfl) rfl ?_)
 refine aw rfl ?_
 refine TL'.nil (tN ?_)
 refine T.ret (Qj ?_)
 refine Vd (Ln 2 (l := ((Qy.dc 256 .u8 (Qy.mk fun _ => 0)) ++ (([.int .i64 (0:Int), .ex (.slice none 0 0), .ex (.slice none 0 0)] : List DC)))) (l' := ((Qy.dc 256 .u8 (Qy.mk fun _ => 0)) ++ (([.int .i64 (0:Int), .sl false 2 (([] : List Ze).map (Ze.dc .i64)), .sl false 4 (([] : List aSt).map Qx)] : List DC)))) rfl (.app _ (.cons (.same _) (.cons (.nil _ _) (.cons (.nil _ _) (.refl _)))))) ?_
 exact Fin.done (.cons _ _ _ _ (.cellAgg 2 28 _ 0 2 28 _ ((Qy.dc 256 .u8 (Qy.mk fun _ => 0)) ++ (([.int .i64 (0:Int), .sl false 2 (([] : List Ze).map (Ze.dc .i64)), .sl false 4 (([] : List aSt).map Qx)] : List DC))) _ _ 259 _ rfl rfl rfl rfl Xu rfl i28) (.cons _ _ _ _ (.tmp 3 _ rfl) .nil)) (by cases h; exact ⟨rfl, rfl⟩)
 refine Qp rfl ad ?_
 refine T.skip (tN ?_)
 refine T.seq (Qr ?_)
 refine sp rfl (Qo (i := 0) rfl (dk rfl) ul73 rfl rfl rfl rfl ?_)
 obtain ⟨q, ag, h⟩ := bind_some h
 refine sp rfl (Q6 (is := [1]) (ph := []) rfl (dk rfl) Try.func30 rfl rfl (Q5.cons rfl Q5.nil) (tbr_split_T K (bx0 := a) ag) (.cons rfl rfl (.nil)) (fun _ => rfl) (fun aq => ?_))
 refine nm (.c (.c (.c (.n)))) ?_
 refine sp rfl (OpT.build (l := ((Qy.dc 256 .u8 q.1.Of) ++ (([.int .i64 q.1.Many, .ex (.slice none 0 0), .ex (.slice none 0 0)] : List DC)))) rfl (dk rfl) (Zx (pl := [(0, 257), (257, 1), (258, 1)]) Xu i28 rfl) (Ho rfl) rfl rfl ?_)
 refine sp rfl (Zj rfl (dk rfl) i28 rfl (fun v => ?_))
 refine sp rfl (Qz (i := 0) (cells' := ((Qy.oc 256 .u8 q.1.Of) ++ (([.d (.int .i64 q.1.Many), .d (.ex (.slice none 0 0)), .d (.ex (.slice none 0 0))]:List OC)))) rfl rfl i28 rfl rfl rfl rfl (nb rfl) rfl ?_)
 refine TL'.nil (tN ?_)
 refine T.seq ?_
 refine Qd (Y7 42 2) ?_
 refine Qd (N4 59 4) ?_
 refine Qd (Y7 42 2) ?_
 refine Qd (N4 59 4) ?_
 refine Xi ?_
 refine dC (c := ⟨some 19, .ptr a 0, [(4, .ptr p 0)], [(5, (Zi p a))], []⟩) (fun t hm => oF rfl rfl (Qo (i := 5) rfl (dk rfl) ul73 rfl hm.s0 hm.o0 rfl ⟨u0, rfl⟩)) (fun _ => rfl) (fun _ => rfl) ?_
 refine dC (c := ⟨some 20, .ptr a 0, [(4, .ptr p 0)], [(5, (Zi p a))], []⟩) (fun t hm => oF rfl rfl (Qo (i := 5) rfl (dk rfl) ul73 rfl hm.s0 hm.o0 rfl ⟨u0, rfl⟩)) (fun _ => rfl) (fun _ => rfl) ?_
 obtain ⟨aa, ai, h⟩ := bind_some h
 refine dC (c := ⟨some 21, .int .i64 aa.1, [(20, .ptr a 0)], [(6, (Q3 a q.2.b q.2.bad))], [(6, (Q3 a aa.2.b aa.2.bad))]⟩) (fun t hm => oF rfl rfl (Q6 (is := [6]) (ph := []) rfl (dk rfl) Try.func32 rfl rfl (Q5.cons hm.s0 Q5.nil) (La K (bx0 := a) ai) (.cons hm.o0 rfl (.nil)) (fun _ => rfl) (fun g => ⟨(g, 0), rfl⟩))) (fun _ => rfl) (fun _ => rfl) ?_
 refine dC (c := ⟨some 22, .c (.ex (.func (.func 33) #[] #[.pointer (some ⟨v, 0, none⟩), .pointer (some ⟨p, 0, none⟩)])), [(5, .ptr v 0), (4, .ptr p 0)], [], []⟩) (fun t hm => oF rfl rfl (OpT.makeFunc (vs := [.pointer (some ⟨v, 0, none⟩), .pointer (some ⟨p, 0, none⟩)]) rfl (dk rfl) (Kh hm.s0 (Kh hm.s1 evs_nil)) ⟨u0, rfl⟩)) (fun _ => rfl) (fun _ => rfl) ?_
 obtain ⟨w, aj, h⟩ := bind_some h
 refine DGG.step (c := fun j => ⟨some 23, .tup [], [(19, .ptr a 0), (21, .int .i64 aa.1), (22, .c (.ex (.func (.func 33) #[] #[.pointer (some ⟨v, 0, none⟩), .pointer (some ⟨p, 0, none⟩)])))], [(5, (Zi p a)), (2, .arrX (Df 34) 59 4 0 (([] : List (Bool × aSt)).map Q1)), (3, .arrA (Df 33) 42 2 (([] : List Ze).map (Ze.dc .i64))), (4, (Z6 v q.1.Of q.1.Many (Df 33) (Df 34))), (6, (Q3 a aa.2.b aa.2.bad))], [(6, (Q3 a w.1.b w.1.bad)), (4, (Z6 v q.1.Of q.1.Many ((j 4).1 0) ((j 4).1 1))), (3, .arrA ((j 4).1 0) 42 2 (mA w.2)), (2, .arrX ((j 4).1 1) 59 4 0 (([] : List (Bool × aSt)).map Q1)), (5, (Zi p a))]⟩) [4] (fun j γ' h => by simp only [h 4 (by decide)]) (fun j t hm => oF rfl rfl (Q6 (is := [6, 4, 3, 2, 5]) (ph := []) rfl (dk rfl) Try.func31 rfl rfl (Q5.cons hm.s0 (Q5.cons hm.s1 (Q5.cons hm.s2 Q5.nil))) (tbr_times_T K (bx0 := a) (bx2c0 := v) (wx2c0c1 := (Df 33)) (wx2c0c2 := (Df 34)) (bx2c1 := p) aj) (.cons (hm.objs (6, _) (.tail _ (.tail _ (.tail _ (.tail _ (.head _)))))) rfl (.cons (hm.objs (4, _) (.tail _ (.tail _ (.tail _ (.head _))))) rfl (.cons hm.o2 rfl (.cons hm.o1 rfl (.cons hm.o0 rfl (.nil)))))) (fun _ => rfl) (fun g => ⟨(g, 0), rfl⟩))) (fun j => Zq rfl rfl) ?_
 refine Vz (s1 := fun j => ⟨[(2, .ptr ac 0), (4, .ptr p 0), (5, .ptr v 0)], [.arrX (Df 36) 59 4 0 (([] : List (Bool × aSt)).map Q1), .arrA (Df 35) 42 2 (([] : List Ze).map (Ze.dc .i64)), .arrX ((j 4).1 1) 59 4 0 (([] : List (Bool × aSt)).map Q1), .arrA ((j 4).1 0) 42 2 (mA w.2), (Z6 v q.1.Of q.1.Many ((j 4).1 0) ((j 4).1 1)), (Zi p a), (Q3 a w.1.b w.1.bad), (Z6 ac (Qy.mk fun _ => 0) (0:Int) (Df 35) (Df 36))]⟩) (ms := [0, 0, 2, 0, 15]) Q7 rfl (by kernel_rfl) (by kernel_rfl) (by kernel_rfl) (fun j => by kernel_rfl) (fun j => sf rfl) (fun _ => rfl) (fun j u hu => (tN (Qd hu ?_)))
 refine T.seq ?_
 refine Xi ?_
 refine dC (c := ⟨some 24, .ptr a 0, [(4, .ptr p 0)], [(5, (Zi p a))], []⟩) (fun t hm => oF rfl rfl (Qo (i := 5) rfl (dk rfl) ul73 rfl hm.s0 hm.o0 rfl ⟨u0, rfl⟩)) (fun _ => rfl) (fun _ => rfl) ?_
 refine dC (c := ⟨some 25, .ptr a 0, [(4, .ptr p 0)], [(5, (Zi p a))], []⟩) (fun t hm => oF rfl rfl (Qo (i := 5) rfl (dk rfl) ul73 rfl hm.s0 hm.o0 rfl ⟨u0, rfl⟩)) (fun _ => rfl) (fun _ => rfl) ?_
 obtain ⟨ab, al, h⟩ := bind_some h
 refine dC (c := ⟨some 26, .int .i64 ab.1, [(25, .ptr a 0)], [(6, (Q3 a w.1.b w.1.bad))], [(6, (Q3 a ab.2.b ab.2.bad))]⟩) (fun t hm => oF rfl rfl (Q6 (is := [6]) (ph := []) rfl (dk rfl) Try.func32 rfl rfl (Q5.cons hm.s0 Q5.nil) (La K (bx0 := a) al) (.cons hm.o0 rfl (.nil)) (fun _ => rfl) (fun g => ⟨(g, 0), rfl⟩))) (fun _ => rfl) (fun _ => rfl) ?_
 refine dC (c := ⟨some 27, .c (.ex (.func (.func 34) #[] #[.pointer (some ⟨v, 0, none⟩), .pointer (some ⟨p, 0, none⟩)])), [(5, .ptr v 0), (4, .ptr p 0)], [], []⟩) (fun t hm => oF rfl rfl (OpT.makeFunc (vs := [.pointer (some ⟨v, 0, none⟩), .pointer (some ⟨p, 0, none⟩)]) rfl (dk rfl) (Kh hm.s0 (Kh hm.s1 evs_nil)) ⟨u0, rfl⟩)) (fun _ => rfl) (fun _ => rfl) ?_
 obtain ⟨y, am, h⟩ := bind_some h
 refine DGG.step (c := fun m => ⟨some 28, .tup [], [(24, .ptr a 0), (26, .int .i64 ab.1), (27, .c (.ex (.func (.func 34) #[] #[.pointer (some ⟨v, 0, none⟩), .pointer (some ⟨p, 0, none⟩)])))], [(5, (Zi p a)), (2, .arrX ((j 4).1 1) 59 4 0 (([] : List (Bool × aSt)).map Q1)), (3, .arrA ((j 4).1 0) 42 2 (mA w.2)), (4, (Z6 v q.1.Of q.1.Many ((j 4).1 0) ((j 4).1 1))), (6, (Q3 a ab.2.b ab.2.bad))], [(6, (Q3 a y.1.b y.1.bad)), (4, (Z6 v q.1.Of q.1.Many ((m 4).1 0) ((m 4).1 1))), (3, .arrA ((m 4).1 0) 42 2 (mA w.2)), (2, .arrX ((m 4).1 1) 59 4 0 (y.2.map Q1)), (5, (Zi p a))]⟩) [4] (fun m γ' h => by simp only [h 4 (by decide)]) (fun m t hm => oF rfl rfl (Q6 (is := [6, 4, 3, 2, 5]) (ph := []) rfl (dk rfl) Try.func31 rfl rfl (Q5.cons hm.s0 (Q5.cons hm.s1 (Q5.cons hm.s2 Q5.nil))) (tbr_times_i1_T K (bx0 := a) (bx2c0 := v) (wx2c0c1 := ((j 4).1 0)) (wx2c0c2 := ((j 4).1 1)) (bx2c1 := p) am) (.cons (hm.objs (6, _) (.tail _ (.tail _ (.tail _ (.tail _ (.head _)))))) rfl (.cons (hm.objs (4, _) (.tail _ (.tail _ (.tail _ (.head _))))) rfl (.cons hm.o2 rfl (.cons hm.o1 rfl (.cons hm.o0 rfl (.nil)))))) (fun _ => rfl) (fun g => ⟨(g, 0), rfl⟩))) (fun m => Zq rfl rfl) ?_
 refine Vz (s1 := fun m => ⟨[(2, .ptr ac 0), (4, .ptr p 0), (5, .ptr v 0)], [.arrX (Df 36) 59 4 0 (([] : List (Bool × aSt)).map Q1), .arrA (Df 35) 42 2 (([] : List Ze).map (Ze.dc .i64)), .arrX ((m 4).1 1) 59 4 0 (y.2.map Q1), .arrA ((m 4).1 0) 42 2 (mA w.2), (Z6 v q.1.Of q.1.Many ((m 4).1 0) ((m 4).1 1)), (Zi p a), (Q3 a y.1.b y.1.bad), (Z6 ac (Qy.mk fun _ => 0) (0:Int) (Df 35) (Df 36))]⟩) (ms := [0, 0, 2, 0, 15]) Q7 rfl (by kernel_rfl) (by kernel_rfl) (by kernel_rfl) (fun m => by kernel_rfl) (fun m => sf rfl) (fun _ => rfl) (fun m u hu => (tN (Qd hu ?_)))
 refine T.seq ?_
 refine T.seq (Qr ?_)
 refine sp rfl (Ql rfl (dk rfl) Xu rfl i26 (by decide) rfl ?_)
 refine sp rfl (Qo (i := 4) rfl (dk rfl) Vx rfl rfl rfl rfl ?_)
 refine sp rfl (E3 (i := 2) (xs := y.2) (f := Q1) rfl (dk rfl) Vx rfl rfl ?_)
 refine mw rfl ?_
 refine TL'.nil (tN ?_)
 refine T.block ?_
 refine T.loop ?_
 refine Qc ?_ (tb_Decode_l0_T K K (y.2.length : Int) (0:Int) (Qy.mk fun _ => 0) y.1.b y.1.bad q.1.Of q.1.Many w.2 y.2 ac (Df 35) (Df 36) p a v ((m 4).1 0) ((m 4).1 1) h)
 exact tr rfl (.c (.s (.s (.s (.s (.s (.s (.s .z))))))) (.c (.s .z) (.c .z (.c (.s (.s (.s .z))) (.c (.s (.s (.s .z))) (.c (.s (.s .z)) (.c (.s .z) (.c .z (.n _)))))))))
end Go.Rv

/- Each function computes what its plain text says: printed by a program of ours. -/
import Derived.Test.YtcmfaclkgdmpbaaGreatDoorRgW7
namespace Go.Rv
open Go.Proofs
set_option maxRecDepth 100000
set_option maxHeartbeats 4000000
set_option linter.unusedVariables false
abbrev Dr (r : List Int) : ES := J9 tp Tryz.f114 (fun y t => y = (.sl false 1 (mU r)) ∧ t = [])
abbrev Qbe (r : List Int) : ES := thenS (fun s' => T tp 19 (ca [1,1,1] Tryz.f114) s' ((Dr r))) ((Dr r))
abbrev Sj (r : List Int) : ES := Qz 0 ((Qbe r))
theorem Qcd {r : List Int} (K : Nat) : ∀ (k : Nat), ∀ (a : Int) (x0 : Z5) (b : List Int) (d : Nat) (g : Value), Wx K k a x0 b = some r → TL tp 19 (ca [1,1,0,1,0,0] Tryz.f114) ⟨[(1, .ptr d 0), (3, .c (.ex g)), (4, .int .i64 a)], [.box d 63 (Z5.oc .u64 x0), .arrA g 5 1 (mU b)]⟩ (Sj r) := by
 intro k
 induction k with
 | zero =>
  intro a x0 b d g h
  exact zn h
 | succ k ih =>
  intro a x0 b d g h
  rw [Wx] at h
  refine Q6 ?_
  refine T.seq ?_
  refine T.seq (Qr ?_)
  refine mw rfl ?_
  refine oI rfl ?_
  refine TL'.nil (tN ?_)
  rcases Qd h with ⟨j, h⟩ | ⟨j, h⟩
  refine Qq rfl j ?_
  refine T.skip (tN ?_)
  refine T.seq ?_
  refine T.block ?_
  refine T.seq (Qr ?_)
  refine oA 0 (Z5.dc .u64 x0) Qhp i63 rfl ?_
  refine mw rfl ?_
  refine sp rfl (V0 rfl (dk rfl) ul3 ul5 rfl ?_)
  obtain ⟨u, p, h⟩ := bind_some h
  refine sp rfl (Q0 rfl (dk rfl) Tryz.func81 rfl rfl (Q5.cons rfl (Q5.cons rfl Q5.nil)) (Zm.nil (Lh K p)) ?_)
  refine TL'.nil (tN ?_)
  rcases Qd h with ⟨m, h⟩ | ⟨m, h⟩
  refine Qq rfl m ?_
  refine Qr ?_
  refine mw rfl ?_
  refine mw rfl ?_
  refine sp rfl (V0 rfl (dk rfl) ul3 ul5 rfl ?_)
  refine sp rfl (OpT.buildSlice (elems := ([(IntKind.u8.wrap a)] : List Int).map (cI .u8)) rfl (dk rfl) C8 i5 (by decide) rfl (M1 rfl) rfl rfl rfl (Uf rfl) (by decide) ?_)
  obtain ⟨q, h⟩ := Zf h
  refine sp rfl (Zy (i := 1) (xs := b) (ys := [(IntKind.u8.wrap a)]) (f := (cI .u8)) rfl (dk rfl) C8 i5 rfl rfl rfl rfl q (fun s => ?_))
  refine aw rfl ?_
  refine TL'.nil (Qn (tN ?_))
  refine Qr ?_
  refine mw rfl ?_
  refine oI rfl ?_
  refine aw rfl ?_
  refine TL'.nil (tN ?_)
  refine Qh ?_ (ih (wI (a + (1:Int))) x0 (b ++ [(IntKind.u8.wrap a)]) d s h)
  exact tq rfl rfl
  refine Qp rfl m ?_
  refine T.skip (Qn (tN ?_))
  refine Qr ?_
  refine mw rfl ?_
  refine oI rfl ?_
  refine aw rfl ?_
  refine TL'.nil (tN ?_)
  refine Qh ?_ (ih (wI (a + (1:Int))) x0 b d g h)
  exact tq rfl rfl
  refine Qp rfl j ?_
  refine T.exit (Qj (Qj (Qs (tN ?_))))
  refine T.seq (Qr ?_)
  refine mw rfl ?_
  refine aw rfl ?_
  refine TL'.nil (tN ?_)
  refine T.ret ?_
  refine X7 (Z6.view 2 1 rfl rfl) ?_
  exact fd rfl (by cases h; exact ⟨rfl, rfl⟩)
theorem Qfi (K : Nat) {x0 : Z5} {r : List Int} (h : Iq K x0 = some r) : Zm tp 114 [.agg (Z5.dc .u64 x0)] [] (.sl false 1 (mU r)) := by
 refine Qt Tryz.func114 rfl (nb rfl) ?_
 show T tp 19 (ca [] Tryz.f114) ⟨Qw 0 [.agg (Z5.dc .u64 x0)], []⟩ (Dr r)
 unfold Iq at h
 refine T.seq (Qr ?_)
 refine sp rfl (Zb rfl (dk rfl) rfl (fun a => ?_))
 refine aw rfl ?_
 refine TL'.nil (tN (T.seq (Qr ?_)))
 refine aw rfl ?_
 refine TL'.nil (tN ?_)
 refine T.seq ?_
 refine T.seq (Qr ?_)
 refine aw rfl ?_
 refine TL'.nil (tN ?_)
 refine T.block ?_
 refine T.loop ?_
 refine Qh (Xy 5 1) ?_
 refine Qh ?_ (Qcd K K (0:Int) x0 [] a (Qf1 2) h)
 exact tr rfl (.c (.s .z) (.c .z (.n _)))
abbrev Cn (r : List Int) : ES := J9 tp Tryz.f80 (fun y t => y = (.sl false 1 (mU r)) ∧ t = [])
abbrev Si (r : List Int) : ES := thenS (fun s' => T tp 37 (ca [1,1,1,1] Tryz.f80) s' ((Cn r))) ((Cn r))
abbrev Pj (r : List Int) : ES := Qz 0 ((Si r))
theorem Qbc {r : List Int} (K : Nat) : ∀ (k : Nat), ∀ (b : Int) (x0 : Q9) (a : List Int) (g : Nat) (j : Value), Gu K k b x0 a = some r → TL tp 37 (ca [1,1,1,0,1,0,0] Tryz.f80) ⟨[(1, .ptr g 0), (3, .c (.ex j)), (4, .int .i64 b)], [(Qhd g x0.Of x0.Many), .arrA j 5 1 (mU a)]⟩ (Pj r) := by
 intro k
 induction k with
 | zero =>
  intro b x0 a g j h
  exact zn h
 | succ k ih =>
  intro b x0 a g j h
  rw [Gu] at h
  refine Q6 ?_
  refine T.seq ?_
  refine T.seq (Qr ?_)
  refine mw rfl ?_
  refine oP Qhi i3 rfl ?_
  refine oL 0 ul3 rfl ?_
  refine oI rfl ?_
  refine TL'.nil (tN ?_)
  rcases Qd h with ⟨p, h⟩ | ⟨p, h⟩
  refine Qq rfl p ?_
  refine T.skip (tN ?_)
  refine T.seq ?_
  refine T.block ?_
  refine T.seq (Qr ?_)
  refine oA 0 ((Zi.dc 256 .u8 x0.Of) ++ (([.int .i64 x0.Many] : List DC))) Qhi i24 rfl ?_
  refine mw rfl ?_
  obtain ⟨ac, u, h⟩ := bind_some h
  refine sp rfl (Q0 rfl (dk rfl) Tryz.func115 rfl rfl (Q5.cons rfl (Q5.cons rfl Q5.nil)) (Zm.nil (Qf8 K u)) ?_)
  obtain ⟨q, w, h⟩ := bind_some h
  refine sp rfl (Q0 rfl (dk rfl) Tryz.func114 rfl rfl (Q5.cons rfl Q5.nil) (Zm.nil (Qfi K w)) ?_)
  refine aw rfl ?_
  refine TL'.nil (tN (T.seq (Qr ?_)))
  refine mw rfl ?_
  refine oU q (cI .u8) C8 rfl ?_
  refine oI rfl ?_
  refine TL'.nil (tN ?_)
  rcases Qd h with ⟨s, h⟩ | ⟨s, h⟩
  cases h
  refine Qp rfl s ?_
  refine Qr ?_
  refine mw rfl ?_
  refine mw rfl ?_
  obtain ⟨m, y, h⟩ := bind_some h
  refine oX q (cI .u8) C8 i5 y rfl ?_
  refine oR ul5 rfl ?_
  refine sp rfl (OpT.buildSlice (elems := ([m] : List Int).map (cI .u8)) rfl (dk rfl) C8 i5 (by decide) rfl (M1 rfl) rfl rfl rfl (Uf rfl) (by decide) ?_)
  obtain ⟨aa, h⟩ := Zf h
  refine sp rfl (Zy (i := 1) (xs := a) (ys := [m]) (f := (cI .u8)) rfl (dk rfl) C8 i5 rfl rfl rfl rfl aa (fun ab => ?_))
  refine aw rfl ?_
  refine TL'.nil (Qn (tN ?_))
  refine Qr ?_
  refine mw rfl ?_
  refine oI rfl ?_
  refine aw rfl ?_
  refine TL'.nil (tN ?_)
  refine Qh ?_ (ih (wI (b + (1:Int))) x0 (a ++ [m]) g ab h)
  exact tq rfl rfl
  refine Qp rfl p ?_
  refine T.exit (Qj (Qj (Qs (tN ?_))))
  refine T.seq (Qr ?_)
  refine mw rfl ?_
  refine aw rfl ?_
  refine TL'.nil (tN ?_)
  refine T.ret ?_
  refine X7 (Z6.view 2 1 rfl rfl) ?_
  exact fd rfl (by cases h; exact ⟨rfl, rfl⟩)
theorem Qei (K : Nat) {x0 : Q9} {r : List Int} (h : E0 K x0 = some r) : Zm tp 80 [.agg ((Zi.dc 256 .u8 x0.Of) ++ (([.int .i64 x0.Many] : List DC)))] [] (.sl false 1 (mU r)) := by
 refine Qt Tryz.func80 rfl (nb rfl) ?_
 show T tp 37 (ca [] Tryz.f80) ⟨Qw 0 [.agg ((Zi.dc 256 .u8 x0.Of) ++ (([.int .i64 x0.Many] : List DC)))], []⟩ (Cn r)
 unfold E0 at h
 refine T.seq (Qr ?_)
 refine sp rfl (Zb rfl (dk rfl) rfl (fun d => ?_))
 refine aw rfl ?_
 refine TL'.nil (tN ?_)
 refine T.seq ?_
 refine T.seq (Qr ?_)
 refine oP Qhi i3 rfl ?_
 refine oL 0 ul3 rfl ?_
 refine oI rfl ?_
 refine mw rfl ?_
 rcases Qd h with ⟨a, h⟩ | ⟨a, h⟩
 cases h
 refine sn rfl a (Zs rfl (dk rfl) Qhi rfl i3 (by decide) rfl ?_)
 refine sn rfl a (Zn (i := 0) rfl (dk rfl) ul3 rfl rfl rfl rfl ?_)
 refine sn rfl a (Zj rfl rfl (dk rfl) rfl rfl ?_)
 refine oZ a rfl ?_
 refine TL'.nil (tN ?_)
 rcases Qd h with ⟨b, h⟩ | ⟨b, h⟩
 cases h
 refine Qp rfl b ?_
 refine T.skip (tN ?_)
 refine T.seq (Qr ?_)
 refine aw rfl ?_
 refine TL'.nil (tN ?_)
 refine T.seq ?_
 refine T.seq (Qr ?_)
 refine aw rfl ?_
 refine TL'.nil (tN ?_)
 refine T.block ?_
 refine T.loop ?_
 refine Qh (Xy 5 1) ?_
 refine Qh ?_ (Qbc K K (0:Int) x0 [] d (Qf1 2) h)
 exact tr rfl (.c (.s .z) (.c .z (.n _)))
abbrev Wb (bx0 : Nat) (x0 : Qi) (r : Bool) : ES := J9 tp Tryz.f82 (fun y t => ∃ γ : Nat → Value, y = (.bool r) ∧ t = [(Xn bx0 x0.g.First x0.g.P (γ 0) x0.a.Split.Of x0.a.Split.Many (γ 1) (γ 2) x0.e), .arrA (γ 0) 3 1 (mI x0.number), .arrA (γ 1) 59 2 (mA x0.a.Counts), .arrX (γ 2) 51 4 0 (x0.a.States.map Qb)])
abbrev D7 (bx0 : Nat) (x0 : Qi) (r : Bool) : ES := thenS (fun s' => T tp 54 (ca [1,1,1] Tryz.f82) s' ((Wb bx0 x0 r))) ((Wb bx0 x0 r))
abbrev C0 (bx0 : Nat) (x0 : Qi) (r : Bool) : ES := Qz 0 ((D7 bx0 x0 r))
theorem Er {r : Bool} (K bx0 : Nat) (x0 : Qi) : ∀ (k : Nat), ∀ (x3 x4 s : Int) (x0 : Qi) (x2 : Qa) (y aa w0_0aa : Value) (p : Nat), Vt K k x3 x4 s x0 x2 = some r → TL tp 54 (ca [1,1,0,1,0,0] Tryz.f82) ⟨[(0, .ptr bx0 0), (3, .int .i64 x3), (4, .int .i64 x4), (7, .ptr p 0), (11, .int .i64 s)], [(Xn bx0 x0.g.First x0.g.P y x0.a.Split.Of x0.a.Split.Many aa w0_0aa x0.e), .arrA y 3 1 (mI x0.number), .arrA aa 59 2 (mA x0.a.Counts), .arrX w0_0aa 51 4 0 (x0.a.States.map Qb), (Jz p x2.L x2.R x2.Rule x2.Next)]⟩ (C0 bx0 x0 r) := by
 intro k
 induction k with
 | zero =>
  intro x3 x4 s x0 x2 y aa w0_0aa p h
  exact zn h
 | succ k ih =>
  intro x3 x4 s x0 x2 y aa w0_0aa p h
  rw [Vt] at h
  refine Q6 ?_
  refine T.seq ?_
  refine T.seq (Qr ?_)
  refine mw rfl ?_
  refine oP Wi i38 rfl ?_
  refine oL 4 Zx rfl ?_
  refine oU x2.L (cI .i64) Zx rfl ?_
  refine oI rfl ?_
  refine TL'.nil (tN ?_)
  rcases Qd h with ⟨ac, h⟩ | ⟨ac, h⟩
  refine Qq rfl ac ?_
  refine T.skip (tN ?_)
  refine T.seq ?_
  refine T.block ?_
  refine T.seq ?_
  refine H1 ?_
  refine dC (c := ⟨some 28, .ptr bx0 0, [(0, .ptr bx0 0)], [], []⟩) (fun t hm => oF rfl rfl (OpT.move rfl (dk rfl) hm.s0 ⟨u0, rfl⟩)) (fun _ => rfl) (fun _ => rfl) ?_
  refine dC (c := ⟨some 29, .agg [.sl false 1 (mI x2.L), .sl false 1 (mI x2.R), .sl false 1 (mI x2.Rule), .sl false 1 (x2.Next.map (cL 2 Qf))], [(7, .ptr p 0)], [(4, (Jz p x2.L x2.R x2.Rule x2.Next))], []⟩) (fun t hm => oF rfl rfl (Uh (i := 4) (l := [.sl false 1 (mI x2.L), .sl false 1 (mI x2.R), .sl false 1 (mI x2.Rule), .sl false 1 (x2.Next.map (cL 2 Qf))]) rfl (dk rfl) Wi rfl i51 hm.s0 hm.o0 rfl rfl ⟨u0, rfl⟩)) (fun _ => rfl) (fun _ => rfl) ?_
  refine dC (c := ⟨some 30, .int .i64 x3, [(3, .int .i64 x3)], [], []⟩) (fun t hm => oF rfl rfl (OpT.move rfl (dk rfl) hm.s0 ⟨u0, rfl⟩)) (fun _ => rfl) (fun _ => rfl) ?_
  refine dC (c := ⟨some 31, .ptr p (0 + 0), [(7, .ptr p 0)], [], []⟩) (fun t hm => oF rfl rfl (Zs rfl (dk rfl) Wi rfl i38 (by decide) hm.s0 ⟨u0, rfl⟩)) (fun _ => rfl) (fun _ => rfl) ?_
  refine dC (c := ⟨some 32, .sl false 1 (mI x2.L), [(31, .ptr p (0 + 0))], [(4, (Jz p x2.L x2.R x2.Rule x2.Next))], []⟩) (fun t hm => oF rfl rfl (Zn (i := 4) rfl (dk rfl) Zx rfl hm.s0 hm.o0 rfl ⟨u0, rfl⟩)) (fun _ => rfl) (fun _ => rfl) ?_
  refine dC (c := ⟨some 33, .int .i64 s, [(11, .int .i64 s)], [], []⟩) (fun t hm => oF rfl rfl (OpT.move rfl (dk rfl) hm.s0 ⟨u0, rfl⟩)) (fun _ => rfl) (fun _ => rfl) ?_
  obtain ⟨w, af, h⟩ := bind_some h
  refine dC (c := ⟨some 34, .ref [.int .i64 w], [(32, .sl false 1 (mI x2.L)), (33, .int .i64 s)], [], []⟩) (fun t hm => oF rfl rfl (Y7 (xs := x2.L) (f := (cI .i64)) (v := w) rfl (dk rfl) Zx i3 hm.s0 hm.s1 af ⟨u0, rfl⟩)) (fun _ => rfl) (fun _ => rfl) ?_
  refine dC (c := ⟨some 35, .int .i64 w, [(34, .ref [.int .i64 w])], [], []⟩) (fun t hm => oF rfl rfl (Vi rfl (dk rfl) ul3 rfl hm.s0 rfl ⟨u0, rfl⟩)) (fun _ => rfl) (fun _ => rfl) ?_
  obtain ⟨m, ag, h⟩ := bind_some h
  refine DGG.step (c := fun b => ⟨some 36, .bool m, [(28, .ptr bx0 0), (29, .agg [.sl false 1 (mI x2.L), .sl false 1 (mI x2.R), .sl false 1 (mI x2.Rule), .sl false 1 (x2.Next.map (cL 2 Qf))]), (30, .int .i64 x3), (35, .int .i64 w)], [(3, .arrX w0_0aa 51 4 0 (x0.a.States.map Qb)), (2, .arrA aa 59 2 (mA x0.a.Counts)), (1, .arrA y 3 1 (mI x0.number)), (0, (Xn bx0 x0.g.First x0.g.P y x0.a.Split.Of x0.a.Split.Many aa w0_0aa x0.e))], [(0, (Xn bx0 x0.g.First x0.g.P ((b 8).1 0) x0.a.Split.Of x0.a.Split.Many ((b 8).1 1) ((b 8).1 2) x0.e)), (1, .arrA ((b 8).1 0) 3 1 (mI x0.number)), (2, .arrA ((b 8).1 1) 59 2 (mA x0.a.Counts)), (3, .arrX ((b 8).1 2) 51 4 0 (x0.a.States.map Qb))]⟩) [8] (fun b γ' h => by simp only [h 8 (by decide)]) (fun b t hm => oF rfl rfl (Q8 (is := [0, 1, 2, 3]) (ph := []) rfl (dk rfl) Tryz.func79 rfl rfl (Q5.cons hm.s0 (Q5.cons hm.s1 (Q5.cons hm.s2 (Q5.cons hm.s3 Q5.nil)))) (M7 K (bx0 := bx0) (wx0c1 := y) (wx0c2c1 := aa) (wx0c2c2 := w0_0aa) ag) (.cons (hm.objs (0, _) (.tail _ (.tail _ (.tail _ (.head _))))) rfl (.cons hm.o2 rfl (.cons hm.o1 rfl (.cons hm.o0 rfl (.nil))))) (fun _ => rfl) (fun g => ⟨(g, 0), rfl⟩))) (fun b => Z3 rfl rfl) ?_
  refine dC (c := ⟨some 37, .bool m, [(36, .bool m)], [], []⟩) (fun t hm => oF rfl rfl (OpT.move rfl (dk rfl) hm.s0 ⟨u0, rfl⟩)) (fun _ => rfl) (fun _ => rfl) ?_
  rcases Qd h with ⟨q, h⟩ | ⟨q, h⟩
  refine dC (c := ⟨some 38, .ptr bx0 0, [(0, .ptr bx0 0), (37, .bool m)], [], []⟩) (fun t hm => oN rfl rfl rfl hm.s1 q (OpT.move rfl (dk rfl) hm.s0 ⟨u0, rfl⟩)) (fun _ => rfl) (fun _ => rfl) ?_
  refine dC (c := ⟨some 39, .ptr bx0 0, [(38, .ptr bx0 0), (37, .bool m)], [], []⟩) (fun t hm => oN rfl rfl rfl hm.s1 q (OpT.nilCheck rfl (dk rfl) hm.s0 rfl ⟨u0, rfl⟩)) (fun _ => rfl) (fun _ => rfl) ?_
  refine dC (c := ⟨some 40, .ptr bx0 (0 + 0), [(39, .ptr bx0 0), (37, .bool m)], [], []⟩) (fun t hm => oN rfl rfl rfl hm.s1 q (Zs rfl (dk rfl) Qf0 rfl i43 (by decide) hm.s0 ⟨u0, rfl⟩)) (fun _ => rfl) (fun _ => rfl) ?_
  refine dC (c := ⟨some 41, .ptr bx0 (0 + 0 + 1), [(40, .ptr bx0 (0 + 0)), (37, .bool m)], [], []⟩) (fun t hm => oN rfl rfl rfl hm.s1 q (Zs rfl (dk rfl) Qhq rfl i41 (by decide) hm.s0 ⟨u0, rfl⟩)) (fun _ => rfl) (fun _ => rfl) ?_
  refine DGG.step (c := fun b => ⟨some 42, .sl false 9 (x0.g.P.map Q1), [(41, .ptr bx0 (0 + 0 + 1)), (37, .bool m)], [(0, (Xn bx0 x0.g.First x0.g.P ((b 8).1 0) x0.a.Split.Of x0.a.Split.Many ((b 8).1 1) ((b 8).1 2) x0.e))], []⟩) [8] (fun b γ' h => by simp only [h 8 (by decide)]) (fun b t hm => oN rfl rfl rfl hm.s1 q (Zn (i := 0) rfl (dk rfl) Tu rfl hm.s0 hm.o0 rfl ⟨u0, rfl⟩)) (fun b => Z3 rfl rfl) ?_
  refine dC (c := ⟨some 43, .ptr p (0 + 0), [(7, .ptr p 0), (37, .bool m)], [], []⟩) (fun t hm => oN rfl rfl rfl hm.s1 q (Zs rfl (dk rfl) Wi rfl i38 (by decide) hm.s0 ⟨u0, rfl⟩)) (fun _ => rfl) (fun _ => rfl) ?_
  refine dC (c := ⟨some 44, .sl false 1 (mI x2.L), [(43, .ptr p (0 + 0)), (37, .bool m)], [(4, (Jz p x2.L x2.R x2.Rule x2.Next))], []⟩) (fun t hm => oN rfl rfl rfl hm.s1 q (Zn (i := 4) rfl (dk rfl) Zx rfl hm.s0 hm.o0 rfl ⟨u0, rfl⟩)) (fun _ => rfl) (fun _ => rfl) ?_
  refine dC (c := ⟨some 45, .int .i64 s, [(11, .int .i64 s), (37, .bool m)], [], []⟩) (fun t hm => oN rfl rfl rfl hm.s1 q (OpT.move rfl (dk rfl) hm.s0 ⟨u0, rfl⟩)) (fun _ => rfl) (fun _ => rfl) ?_
  refine dC (c := ⟨some 46, .ref [.int .i64 w], [(44, .sl false 1 (mI x2.L)), (45, .int .i64 s), (37, .bool m)], [], []⟩) (fun t hm => oN rfl rfl rfl hm.s2 q (Y7 (xs := x2.L) (f := (cI .i64)) (v := w) rfl (dk rfl) Zx i3 hm.s0 hm.s1 af ⟨u0, rfl⟩)) (fun _ => rfl) (fun _ => rfl) ?_
  refine dC (c := ⟨some 47, .int .i64 w, [(46, .ref [.int .i64 w]), (37, .bool m)], [], []⟩) (fun t hm => oN rfl rfl rfl hm.s1 q (Vi rfl (dk rfl) ul3 rfl hm.s0 rfl ⟨u0, rfl⟩)) (fun _ => rfl) (fun _ => rfl) ?_
  obtain ⟨j, ai, h⟩ := bind_some h
  refine dC (c := ⟨some 48, .ref [.int .u64 j.S.a0, .int .u64 j.S.a1, .int .u64 j.S.a2, .int .u64 j.S.a3, .int .i64 j.Lo, .int .i64 j.Hi, .int .i64 j.Rule, .bool j.Last, .sl false 1 (mI j.Next)], [(42, .sl false 9 (x0.g.P.map Q1)), (47, .int .i64 w), (37, .bool m)], [], []⟩) (fun t hm => oN rfl rfl rfl hm.s2 q (Y7 (xs := x0.g.P) (f := Q1) (v := j) rfl (dk rfl) Tu i65 hm.s0 hm.s1 ai ⟨u0, rfl⟩)) (fun _ => rfl) (fun _ => rfl) ?_
  refine dC (c := ⟨some 49, .ref [.sl false 1 (mI j.Next)], [(48, .ref [.int .u64 j.S.a0, .int .u64 j.S.a1, .int .u64 j.S.a2, .int .u64 j.S.a3, .int .i64 j.Lo, .int .i64 j.Hi, .int .i64 j.Rule, .bool j.Last, .sl false 1 (mI j.Next)]), (37, .bool m)], [], []⟩) (fun t hm => oN rfl rfl rfl hm.s1 q (Ur rfl (dk rfl) ul65 rfl i38 (by decide) hm.s0 ⟨u0, rfl⟩)) (fun _ => rfl) (fun _ => rfl) ?_
  refine dC (c := ⟨some 50, .sl false 1 (mI j.Next), [(49, .ref [.sl false 1 (mI j.Next)]), (37, .bool m)], [], []⟩) (fun t hm => oN rfl rfl rfl hm.s1 q (Vi rfl (dk rfl) Zx rfl hm.s0 rfl ⟨u0, rfl⟩)) (fun _ => rfl) (fun _ => rfl) ?_
  refine dC (c := ⟨some 51, .int .i64 x4, [(4, .int .i64 x4), (37, .bool m)], [], []⟩) (fun t hm => oN rfl rfl rfl hm.s1 q (OpT.move rfl (dk rfl) hm.s0 ⟨u0, rfl⟩)) (fun _ => rfl) (fun _ => rfl) ?_
  obtain ⟨ab, aj, h⟩ := bind_some h
  refine dC (c := ⟨some 52, .bool ab, [(50, .sl false 1 (mI j.Next)), (51, .int .i64 x4), (37, .bool m)], [], []⟩) (fun t hm => oN rfl rfl rfl hm.s2 q (Q0 rfl (dk rfl) Tryz.func112 rfl rfl (Q5.cons hm.s0 (Q5.cons hm.s1 Q5.nil)) (Zm.nil (B0 K (flx0 := false) aj)) ⟨u0, rfl⟩)) (fun _ => rfl) (fun _ => rfl) ?_
  refine dC (c := ⟨some 53, .bool ab, [(37, .bool m), (52, .bool ab)], [], []⟩) (fun t hm => oF rfl rfl (Bw rfl (dk rfl) hm.s0 q hm.s1 ⟨u0, rfl⟩)) (fun _ => rfl) (fun _ => rfl) ?_
  refine gF [0,0,0,0,8,0,56,120,255,511,1023,2047,4095,8191,16383,1023,33791,1023,230399,492543,1048575,2097151,4194303,1023,16777215,33554431] Q3 rfl (by kernel_rfl) (fun _ => by kernel_rfl) (fun b u hu => (tN (Qm hu ?_)))
  rcases Qd h with ⟨ad, h⟩ | ⟨ad, h⟩
  refine Qq rfl ad ?_
  refine T.seq (Qr ?_)
  refine aw rfl ?_
  refine TL'.nil (tN ?_)
  refine T.ret (Q2 (Qv (Qv (Q2 (Qv ?_)))))
  exact Q7 (.cons _ _ _ _ (.tmp 10 _ rfl) .nil) (.cons 0 rfl (.cons 0 rfl (.cons 0 rfl (.cons 0 rfl (.nil _))))) (by cases h; exact ⟨gl [(b 8).1 0, (b 8).1 1, (b 8).1 2], rfl, rfl⟩)
  refine Qp rfl ad ?_
  refine T.skip (Qn (tN ?_))
  refine Qr ?_
  refine mw rfl ?_
  refine oI rfl ?_
  refine aw rfl ?_
  refine TL'.nil (tN ?_)
  refine Qh ?_ (ih x3 x4 (wI (s + (1:Int))) x0 x2 ((b 8).1 0) ((b 8).1 1) ((b 8).1 2) p h)
  exact tq rfl rfl
  cases h
  refine Qp rfl ac ?_
  refine T.exit (Qj (Qj (Qs (tN ?_))))
  refine T.seq (Qr ?_)
  refine aw rfl ?_
  refine TL'.nil (tN ?_)
  refine T.ret ?_
  exact Q7 (.cons _ _ _ _ (.tmp 10 _ rfl) .nil) (.cons 0 rfl (.cons 0 rfl (.cons 0 rfl (.cons 0 rfl (.nil _))))) (by cases h; exact ⟨gl [y, aa, w0_0aa], rfl, rfl⟩)
theorem I5 (K : Nat) {x0 : Qi} {x1 : Int} {x2 : Qa} {x3 x4 : Int} {bx0 : Nat} {wx0c1 wx0c2c1 wx0c2c2 : Value} {r : Bool} (h : Hf K x0 x1 x2 x3 x4 = some r) : U7 tp 82 [.ptr bx0 0, .int .i64 x1, .agg [.sl false 1 (mI x2.L), .sl false 1 (mI x2.R), .sl false 1 (mI x2.Rule), .sl false 1 (x2.Next.map (cL 2 Qf))], .int .i64 x3, .int .i64 x4] [(Xn bx0 x0.g.First x0.g.P wx0c1 x0.a.Split.Of x0.a.Split.Many wx0c2c1 wx0c2c2 x0.e), .arrA wx0c1 3 1 (mI x0.number), .arrA wx0c2c1 59 2 (mA x0.a.Counts), .arrX wx0c2c2 51 4 0 (x0.a.States.map Qb)] (fun γ => (.bool r)) (fun γ => [(Xn bx0 x0.g.First x0.g.P (γ 0) x0.a.Split.Of x0.a.Split.Many (γ 1) (γ 2) x0.e), .arrA (γ 0) 3 1 (mI x0.number), .arrA (γ 1) 59 2 (mA x0.a.Counts), .arrX (γ 2) 51 4 0 (x0.a.States.map Qb)]) := by
 refine Qt Tryz.func82 rfl (nb rfl) ?_
 show T tp 54 (ca [] Tryz.f82) ⟨Qw 0 [.ptr bx0 0, .int .i64 x1, .agg [.sl false 1 (mI x2.L), .sl false 1 (mI x2.R), .sl false 1 (mI x2.Rule), .sl false 1 (x2.Next.map (cL 2 Qf))], .int .i64 x3, .int .i64 x4], [(Xn bx0 x0.g.First x0.g.P wx0c1 x0.a.Split.Of x0.a.Split.Many wx0c2c1 wx0c2c2 x0.e), .arrA wx0c1 3 1 (mI x0.number), .arrA wx0c2c1 59 2 (mA x0.a.Counts), .arrX wx0c2c2 51 4 0 (x0.a.States.map Qb)]⟩ (Wb bx0 x0 r)
 unfold Hf at h
 refine T.seq (Qr ?_)
 refine sp rfl (Zb rfl (dk rfl) rfl (fun f => ?_))
 refine aw rfl ?_
 refine TL'.nil (tN ?_)
 refine T.seq ?_
 refine T.seq (Qr ?_)
 refine mw rfl ?_
 refine oI rfl ?_
 refine TL'.nil (tN ?_)
 rcases Qd h with ⟨b, h⟩ | ⟨b, h⟩
 refine Qq rfl b ?_
 refine T.seq (Qr ?_)
 refine mw rfl ?_
 refine oK rfl ?_
 refine oP Qf0 i43 rfl ?_
 refine oP Qhq i38 rfl ?_
 refine oL 1 Zx rfl ?_
 refine mw rfl ?_
 obtain ⟨l, j, h⟩ := bind_some h
 refine sp rfl (Q0 rfl (dk rfl) Tryz.func112 rfl rfl (Q5.cons rfl (Q5.cons rfl Q5.nil)) (Zm.nil (B0 K (flx0 := false) j)) ?_)
 refine aw rfl ?_
 refine TL'.nil (tN ?_)
 refine T.ret (Qv ?_)
 exact Q7 (.cons _ _ _ _ (.tmp 10 _ rfl) .nil) (.cons 1 rfl (.cons 1 rfl (.cons 1 rfl (.cons 1 rfl (.nil _))))) (by cases h; exact ⟨gl [wx0c1, wx0c2c1, wx0c2c2], rfl, rfl⟩)
 refine Qp rfl b ?_
 refine T.skip (tN ?_)
 refine T.seq ?_
 refine T.seq (Qr ?_)
 refine aw rfl ?_
 refine TL'.nil (tN ?_)
 refine T.block ?_
 refine T.loop ?_
 refine Qh ?_ (Er K bx0 x0 K x3 x4 (0:Int) x0 x2 wx0c1 wx0c2c1 wx0c2c2 f h)
 exact tr rfl (.c (.s .z) (.c (.s .z) (.c (.s .z) (.c (.s .z) (.c .z (.n _))))))
abbrev N5 (bx0 : Nat) (x0 : Qi) (r : Bool) : ES := J9 tp Tryz.f83 (fun y t => ∃ γ : Nat → Value, y = (.bool r) ∧ t = [(Xn bx0 x0.g.First x0.g.P (γ 0) x0.a.Split.Of x0.a.Split.Many (γ 1) (γ 2) x0.e), .arrA (γ 0) 3 1 (mI x0.number), .arrA (γ 1) 59 2 (mA x0.a.Counts), .arrX (γ 2) 51 4 0 (x0.a.States.map Qb)])
theorem N6 (K : Nat) {x0 : Qi} {x1 : Qa} {x2 x3 : Int} {bx0 : Nat} {wx0c1 wx0c2c1 wx0c2c2 : Value} {r : Bool} (h : H4 K x0 x1 x2 x3 = some r) : U7 tp 83 [.ptr bx0 0, .agg [.sl false 1 (mI x1.L), .sl false 1 (mI x1.R), .sl false 1 (mI x1.Rule), .sl false 1 (x1.Next.map (cL 2 Qf))], .int .i64 x2, .int .i64 x3] [(Xn bx0 x0.g.First x0.g.P wx0c1 x0.a.Split.Of x0.a.Split.Many wx0c2c1 wx0c2c2 x0.e), .arrA wx0c1 3 1 (mI x0.number), .arrA wx0c2c1 59 2 (mA x0.a.Counts), .arrX wx0c2c2 51 4 0 (x0.a.States.map Qb)] (fun γ => (.bool r)) (fun γ => [(Xn bx0 x0.g.First x0.g.P (γ 0) x0.a.Split.Of x0.a.Split.Many (γ 1) (γ 2) x0.e), .arrA (γ 0) 3 1 (mI x0.number), .arrA (γ 1) 59 2 (mA x0.a.Counts), .arrX (γ 2) 51 4 0 (x0.a.States.map Qb)]) := by
 refine Qt Tryz.func83 rfl (nb rfl) ?_
 show T tp 27 (ca [] Tryz.f83) ⟨Qw 0 [.ptr bx0 0, .agg [.sl false 1 (mI x1.L), .sl false 1 (mI x1.R), .sl false 1 (mI x1.Rule), .sl false 1 (x1.Next.map (cL 2 Qf))], .int .i64 x2, .int .i64 x3], [(Xn bx0 x0.g.First x0.g.P wx0c1 x0.a.Split.Of x0.a.Split.Many wx0c2c1 wx0c2c2 x0.e), .arrA wx0c1 3 1 (mI x0.number), .arrA wx0c2c1 59 2 (mA x0.a.Counts), .arrX wx0c2c2 51 4 0 (x0.a.States.map Qb)]⟩ (N5 bx0 x0 r)
 unfold H4 at h
 refine T.seq (Qr ?_)
 refine sp rfl (Zb rfl (dk rfl) rfl (fun q => ?_))
 refine aw rfl ?_
 refine TL'.nil (tN (T.seq (Qr ?_)))
 refine mw rfl ?_
 refine oA 0 [.sl false 1 (mI x1.L), .sl false 1 (mI x1.R), .sl false 1 (mI x1.Rule), .sl false 1 (x1.Next.map (cL 2 Qf))] Wi i51 rfl ?_
 refine mw rfl ?_
 refine mw rfl ?_
 obtain ⟨s, m, h⟩ := bind_some h
 refine sp rfl (Q8 (is := [1, 2, 3, 4]) (ph := []) rfl (dk rfl) Tryz.func113 rfl rfl (Q5.cons rfl (Q5.cons rfl (Q5.cons rfl (Q5.cons rfl Q5.nil)))) (Mb K (bx0 := bx0) (wx0c1 := wx0c1) (wx0c2c1 := wx0c2c1) (wx0c2c2 := wx0c2c2) m) (.cons rfl rfl (.cons rfl rfl (.cons rfl rfl (.cons rfl rfl (.nil))))) (fun _ => rfl) (fun f => ?_))
 refine nm (.c (.c (.c (.c (.c (.n)))))) ?_
 refine aw rfl ?_
 refine TL'.nil (tN (T.seq (Qr ?_)))
 refine oP Wi i38 rfl ?_
 refine oL 0 Zx rfl ?_
 refine mw rfl ?_
 obtain ⟨u, p, h⟩ := bind_some h
 refine sp rfl (Q0 rfl (dk rfl) Tryz.func112 rfl rfl (Q5.cons rfl (Q5.cons rfl Q5.nil)) (Zm.nil (B0 K (flx0 := false) p)) ?_)
 refine mw rfl ?_
 rcases Qd h with ⟨b, h⟩ | ⟨b, h⟩
 refine sn rfl b (OpT.move rfl (dk rfl) rfl ?_)
 refine sn rfl b (Zj rfl rfl (dk rfl) rfl rfl ?_)
 refine sn rfl b (OpT.move rfl (dk rfl) rfl ?_)
 rcases Qd h with ⟨j, h⟩ | ⟨j, h⟩
 cases h
 refine sn rfl j (OpT.move rfl (dk rfl) rfl ?_)
 refine sn rfl j (Zj rfl rfl (dk rfl) rfl rfl ?_)
 refine sn rfl b (Bx rfl (dk rfl) rfl j rfl ?_)
 refine oY b rfl ?_
 refine aw rfl ?_
 refine TL'.nil (tN ?_)
 refine T.ret ?_
 exact Q7 (.cons _ _ _ _ (.tmp 8 _ rfl) .nil) (.cons 1 rfl (.cons 1 rfl (.cons 1 rfl (.cons 1 rfl (.nil _))))) (by cases h; exact ⟨gl [f 0, f 1, f 2], rfl, rfl⟩)
 refine pf rfl b ?_
 refine pf rfl b ?_
 refine pf rfl b ?_
 refine TL'.pU (.gone _ _ _ rfl rfl rfl) (dk rfl) ?_
 refine TL'.pU (.gone _ _ _ rfl rfl rfl) (dk rfl) ?_
 refine pf rfl b ?_
 refine oZ b rfl ?_
 refine aw rfl ?_
 refine TL'.nil (tN ?_)
 refine T.ret ?_
 exact Q7 (.cons _ _ _ _ (.tmp 8 _ rfl) .nil) (.cons 1 rfl (.cons 1 rfl (.cons 1 rfl (.cons 1 rfl (.nil _))))) (by cases h; exact ⟨gl [f 0, f 1, f 2], rfl, rfl⟩)
abbrev X8 (bx0 : Nat) (r : Int × Qi) : ES := J9 tp Tryz.f84 (fun y t => ∃ γ : Nat → Value, y = (.int .i64 r.1) ∧ t = [(Xn bx0 r.2.g.First r.2.g.P (γ 0) r.2.a.Split.Of r.2.a.Split.Many (γ 1) (γ 2) r.2.e), .arrA (γ 0) 3 1 (mI r.2.number), .arrA (γ 1) 59 2 (mA r.2.a.Counts), .arrX (γ 2) 51 4 0 (r.2.a.States.map Qb)])
abbrev F5 (bx0 : Nat) (r : Int × Qi) : ES := thenS (fun s' => T tp 122 (ca [1,1] Tryz.f84) s' ((X8 bx0 r))) ((X8 bx0 r))
abbrev X2 (bx0 : Nat) (r : Int × Qi) : ES := Qz 0 ((F5 bx0 r))
abbrev G6 (bx0 : Nat) (r : Int × Qi) : ES := thenS (fun s' => TL tp 122 (ca [1,0,1,0,0] Tryz.f84) s' ((X2 bx0 r))) ((X2 bx0 r))
abbrev Cz (bx0 : Nat) (r : Int × Qi) : ES := thenS (fun s' => T tp 122 (ca [1,0,1,0,0,1,1] Tryz.f84) s' ((G6 bx0 r))) ((G6 bx0 r))
abbrev Ju (bx0 : Nat) (r : Int × Qi) : ES := Qz 1 ((Cz bx0 r))
abbrev K3 (bx0 : Nat) (r : Int × Qi) : ES := thenS (fun s' => T tp 122 (ca [1,0,1,0,0,1,0,0,1,1,0,1,1] Tryz.f84) s' ((Ju bx0 r))) ((Ju bx0 r))
abbrev Gi (bx0 : Nat) (r : Int × Qi) : ES := Qz 2 ((K3 bx0 r))
abbrev Ep (bx0 : Nat) (r : Int × Qi) : ES := thenS (fun s' => T tp 122 (ca [1,1,1,1] Tryz.f84) s' ((X8 bx0 r))) ((X8 bx0 r))
abbrev Dj (bx0 : Nat) (r : Int × Qi) : ES := Qz 4 ((Ep bx0 r))
abbrev F9 (bx0 : Nat) (r : Int × Qi) (go : (List Int) → Int → Qi → Option (Int × Qi)) : Prop := ∀ (x1 : List Int) (b : Int) (x0 : Qi) (flx1 : Bool) (c f w0_0aa : Value), go x1 b x0 = some r → TL tp 122 (ca [1,0,1,0,0] Tryz.f84) ⟨[(0, .ptr bx0 0), (1, .sl flx1 1 (mI x1)), (5, .int .i64 b)], [(Xn bx0 x0.g.First x0.g.P c x0.a.Split.Of x0.a.Split.Many f w0_0aa x0.e), .arrA c 3 1 (mI x0.number), .arrA f 59 2 (mA x0.a.Counts), .arrX w0_0aa 51 4 0 (x0.a.States.map Qb)]⟩ (X2 bx0 r)
theorem F7 {r : Int × Qi} (K bx0 : Nat) (go0 : (List Int) → Int → Qi → Option (Int × Qi)) (hgo0 : F9 bx0 r go0) : ∀ (k : Nat), ∀ (x1 : List Int) (w : Int) (m : List Int) (j : Bool) (l : Int) (x0 : Qi) (flx1 : Bool) (q s w0_1aa : Value), V9 K go0 k x1 w m j l x0 = some r → TL tp 122 (ca [1,0,1,0,0,1,0,0,1,1,0,1,0,1,0,0] Tryz.f84) ⟨[(0, .ptr bx0 0), (1, .sl flx1 1 (mI x1)), (5, .int .i64 w), (6, .sl false 1 (mI m)), (7, .bool j), (8, .int .i64 l)], [(Xn bx0 x0.g.First x0.g.P q x0.a.Split.Of x0.a.Split.Many s w0_1aa x0.e), .arrA q 3 1 (mI x0.number), .arrA s 59 2 (mA x0.a.Counts), .arrX w0_1aa 51 4 0 (x0.a.States.map Qb)]⟩ (Gi bx0 r) := by
 intro k
 induction k with
 | zero =>
  intro x1 w m j l x0 flx1 q s w0_1aa h
  exact zn h
 | succ k ih =>
  intro x1 w m j l x0 flx1 q s w0_1aa h
  rw [V9] at h
  refine Q6 ?_
  refine T.seq ?_
  refine T.seq (Qr ?_)
  refine mw rfl ?_
  refine mw rfl ?_
  refine oU x1 (cI .i64) Zx rfl ?_
  refine oI rfl ?_
  refine TL'.nil (tN ?_)
  rcases Qd h with ⟨y, h⟩ | ⟨y, h⟩
  refine Qq rfl y ?_
  refine T.skip (tN ?_)
  refine T.seq ?_
  refine T.block ?_
  refine Yk ?_
  refine dV rfl rfl ?_
  refine dV rfl rfl ?_
  rcases Qd h with ⟨p, h⟩ | ⟨p, h⟩
  refine dM rfl (.n p rfl) rfl ?_
  refine dM rfl (.n p rfl) rfl ?_
  obtain ⟨b, ab, h⟩ := bind_some h
  refine dX m (cI .i64) rfl (.n p rfl) Zx i3 ab rfl ?_
  refine dR rfl (.n p rfl) ul3 rfl ?_
  refine dM rfl (.n p rfl) rfl ?_
  refine dM rfl (.n p rfl) rfl ?_
  obtain ⟨i, ac, h⟩ := bind_some h
  refine dX x1 (cI .i64) rfl (.n p rfl) Zx i3 ac rfl ?_
  refine dR rfl (.n p rfl) ul3 rfl ?_
  refine dI rfl (.n p rfl) rfl ?_
  refine dY rfl (.f rfl) p rfl ?_
  refine dS (c := ⟨some 7, .bool (b == i), [(52, .bool (b == i))], [], []⟩) (fun t hm => oF rfl rfl (OpT.assign rfl (dk rfl) hm.s0 rfl)) rfl rfl ?_
  refine dF [0,1,3,3,15,31,3,3,195,451,1023,2047,4095] Q3 rfl (by kernel_rfl) (fun u hu => (Qn (tN (Qm hu ?_))))
  refine Qr ?_
  refine mw rfl ?_
  refine oI rfl ?_
  refine aw rfl ?_
  refine TL'.nil (tN ?_)
  refine Qh ?_ (ih x1 w m (b == i) (wI (l + (1:Int))) x0 flx1 q s w0_1aa h)
  exact tq rfl rfl
  cases h
  refine Qp rfl y ?_
  refine T.exit (Qj (Qj (Qs (tN ?_))))
  refine T.seq (Qr ?_)
  refine mw rfl ?_
  refine TL'.nil (tN ?_)
  rcases Qd h with ⟨aa, h⟩ | ⟨aa, h⟩
  cases h
  refine Qp rfl aa ?_
  refine T.skip (Qn (tN ?_))
  refine Qr ?_
  refine mw rfl ?_
  refine oI rfl ?_
  refine aw rfl ?_
  refine TL'.nil (tN ?_)
  refine Qh ?_ (hgo0 x1 (wI (w + (1:Int))) x0 flx1 q s w0_1aa h)
  exact tq rfl rfl
theorem F6 {r : Int × Qi} (K bx0 : Nat) : ∀ (k : Nat), ∀ (x1 : List Int) (m : Int) (x0 : Qi) (flx1 : Bool) (b j w0_2aa : Value), V8 K k x1 m x0 = some r → TL tp 122 (ca [1,1,1,0,1,0,0] Tryz.f84) ⟨[(0, .ptr bx0 0), (1, .sl flx1 1 (mI x1)), (9, .c (.ex (.slice none 0 0))), (10, .int .i64 m)], [(Xn bx0 x0.g.First x0.g.P b x0.a.Split.Of x0.a.Split.Many j w0_2aa x0.e), .arrA b 3 1 (mI x0.number), .arrA j 59 2 (mA x0.a.Counts), .arrX w0_2aa 51 4 0 (x0.a.States.map Qb)]⟩ (Dj bx0 r) := by
 intro k
 induction k with
 | zero =>
  intro x1 m x0 flx1 b j w0_2aa h
  exact zn h
 | succ k ih =>
  intro x1 m x0 flx1 b j w0_2aa h
  rw [V8] at h
  refine Q6 ?_
  refine T.seq ?_
  refine T.seq (Qr ?_)
  refine mw rfl ?_
  refine mw rfl ?_
  refine oU x1 (cI .i64) Zx rfl ?_
  refine oI rfl ?_
  refine TL'.nil (tN ?_)
  rcases Qd h with ⟨s, h⟩ | ⟨s, h⟩
  refine Qq rfl s ?_
  refine T.skip (tN ?_)
  refine T.seq ?_
  refine T.block ?_
  refine T.seq ?_
  refine Yk ?_
  refine dV rfl rfl ?_
  refine dK rfl (.f rfl) rfl ?_
  refine dP rfl (.f rfl) Qf0 i38 rfl ?_
  refine dS (c := ⟨some 64, .sl false 1 (mI x0.number), [(63, .ptr bx0 (0 + 2))], [(0, (Xn bx0 x0.g.First x0.g.P b x0.a.Split.Of x0.a.Split.Many j w0_2aa x0.e)), (1, .arrA b 3 1 (mI x0.number))], []⟩) (fun t hm => oF rfl rfl (Zq (Zn (i := 0) rfl (dk rfl) Zx rfl hm.s0 hm.o0 rfl rfl) (M2 64 1 hm.o1) rfl)) rfl rfl ?_
  refine dV rfl rfl ?_
  refine dV rfl rfl ?_
  obtain ⟨q, ab, h⟩ := bind_some h
  refine dX x1 (cI .i64) rfl (.f rfl) Zx i3 ab rfl ?_
  refine dR rfl (.f rfl) ul3 rfl ?_
  obtain ⟨p, ac, h⟩ := bind_some h
  refine dX x0.number (cI .i64) rfl (.f rfl) Zx i3 ac rfl ?_
  refine dR rfl (.f rfl) ul3 rfl ?_
  refine dI rfl (.f rfl) rfl ?_
  refine dF [0,1,3,7,0,0,48,112,255,511,1023] Q3 rfl (by kernel_rfl) (fun u hu => (tN (Qm hu ?_)))
  rcases Qd h with ⟨w, h⟩ | ⟨w, h⟩
  cases h
  refine Qp rfl w ?_
  refine T.skip (Qn (tN ?_))
  refine Qr ?_
  refine mw rfl ?_
  refine oI rfl ?_
  refine aw rfl ?_
  refine TL'.nil (tN ?_)
  refine Qh ?_ (ih x1 (wI (m + (1:Int))) x0 flx1 b j w0_2aa h)
  exact tq rfl rfl
  refine Qp rfl s ?_
  refine T.exit (Qj (Qj (Qs (tN ?_))))
  refine T.seq ?_
  refine T.seq (Qr ?_)
  refine mw rfl ?_
  refine sp rfl (Qif rfl (dk rfl) Zx rfl ?_)
  refine oI rfl ?_
  refine TL'.nil (tN ?_)
  refine Qp rfl rfl ?_
  refine T.skip (tN ?_)
  refine T.seq ?_
  refine T.seq (Qr ?_)
  refine mw rfl ?_
  refine oK rfl ?_
  refine oP Qf0 i28 rfl ?_
  refine oP Uv i26 rfl ?_
  refine oL 0 Us rfl ?_
  refine sp rfl (H0 (i := 3) (xs := x0.a.States) (f := Qb) rfl (dk rfl) Us rfl rfl ?_)
  refine oI rfl ?_
  refine TL'.nil (tN ?_)
  rcases Qd h with ⟨y, h⟩ | ⟨y, h⟩
  cases h
  refine Qp rfl y ?_
  refine T.skip (tN ?_)
  refine T.seq (Qr ?_)
  refine mw rfl ?_
  refine mw rfl ?_
  refine oK rfl ?_
  refine oP Qf0 i28 rfl ?_
  refine oP Uv i26 rfl ?_
  refine oL 0 Us rfl ?_
  refine mw rfl ?_
  refine mw rfl ?_
  refine sp rfl (Zq (OpT.build (l := [.sl flx1 1 (mI x1), .ex (.slice none 0 0), .ex (.slice none 0 0), .ex (.slice none 0 0)]) rfl (dk rfl) (Zv (pl := [(0, 1), (1, 1), (2, 1), (3, 1)]) Wi i51 rfl) (M1 rfl) rfl rfl rfl) (Ye 109 (l := [.sl flx1 1 (mI x1), .ex (.slice none 0 0), .ex (.slice none 0 0), .ex (.slice none 0 0)]) (l' := [.sl false 1 (mI x1), .sl false 1 (([] : List Int).map (cI .i64)), .sl false 1 (([] : List Int).map (cI .i64)), .sl false 1 (([] : List (List Qe)).map (cL 2 Qf))]) (.cons (.full _ _ _) (.cons (.nil _ _) (.cons (.nil _ _) (.cons (.nil _ _) (.refl _)))))) ?_)
  refine sp rfl (OpT.buildSlice (elems := ([(Qa.mk x1 [] [] [])] : List Qa).map Qb) rfl (dk rfl) Us i51 (by decide) rfl (M1 rfl) rfl rfl rfl (Uf rfl) (by decide) ?_)
  obtain ⟨ad, h⟩ := Zf h
  refine sp rfl (Fo (i := 3) (xs := x0.a.States) (ys := [(Qa.mk x1 [] [] [])]) (f := Qb) rfl (dk rfl) Us i51 rfl rfl rfl rfl ad (fun aa => ?_))
  refine oK rfl ?_
  refine oP Qf0 i28 rfl ?_
  refine oP Uv i26 rfl ?_
  refine sp rfl (W2 (i := 0) (cells' := (([.d (.sl false 1 (mI x0.g.First)), .d (.sl false 9 (x0.g.P.map Q1)), .d (.ex b)]:List OC) ++ ((Zi.oc 256 .u8 x0.a.Split.Of) ++ (([.d (.int .i64 x0.a.Split.Many), .d (.ex j), .d (.ex aa), .d (.int .i64 x0.e)]:List OC))))) rfl rfl i26 rfl rfl rfl (nb rfl) rfl ?_)
  refine TL'.nil (tN (T.seq (Qr ?_)))
  refine mw rfl ?_
  refine oK rfl ?_
  refine oP Qf0 i28 rfl ?_
  refine oP Uv i26 rfl ?_
  refine oL 0 Us rfl ?_
  refine sp rfl (H0 (i := 3) (xs := (x0.a.States ++ [(Qa.mk x1 [] [] [])])) (f := Qb) rfl (dk rfl) Us rfl rfl ?_)
  refine oI rfl ?_
  refine aw rfl ?_
  refine TL'.nil (tN ?_)
  refine T.ret ?_
  exact Q7 (.cons _ _ _ _ (.tmp 4 _ rfl) .nil) (.cons 0 rfl (.cons 0 rfl (.cons 0 rfl (.cons 0 rfl (.nil _))))) (by cases h; exact ⟨gl [b, j, aa], rfl, rfl⟩)
theorem F8 {r : Int × Qi} (K bx0 : Nat) : ∀ (k : Nat), ∀ (x1 : List Int) (l : Int) (x0 : Qi) (flx1 : Bool) (b j w0_0aa : Value), Xv K k x1 l x0 = some r → TL tp 122 (ca [1,0,1,0,0] Tryz.f84) ⟨[(0, .ptr bx0 0), (1, .sl flx1 1 (mI x1)), (5, .int .i64 l)], [(Xn bx0 x0.g.First x0.g.P b x0.a.Split.Of x0.a.Split.Many j w0_0aa x0.e), .arrA b 3 1 (mI x0.number), .arrA j 59 2 (mA x0.a.Counts), .arrX w0_0aa 51 4 0 (x0.a.States.map Qb)]⟩ (X2 bx0 r) := by
 intro k
 induction k with
 | zero =>
  intro x1 l x0 flx1 b j w0_0aa h
  exact zn h
 | succ k ih =>
  intro x1 l x0 flx1 b j w0_0aa h
  rw [Xv] at h
  refine Q6 ?_
  refine T.seq ?_
  refine T.seq (Qr ?_)
  refine mw rfl ?_
  refine mw rfl ?_
  refine oK rfl ?_
  refine oP Qf0 i28 rfl ?_
  refine oP Uv i26 rfl ?_
  refine oL 0 Us rfl ?_
  refine sp rfl (H0 (i := 3) (xs := x0.a.States) (f := Qb) rfl (dk rfl) Us rfl rfl ?_)
  refine oI rfl ?_
  refine TL'.nil (tN ?_)
  rcases Qd h with ⟨p, h⟩ | ⟨p, h⟩
  refine Qq rfl p ?_
  refine T.skip (tN ?_)
  refine T.seq ?_
  refine T.block ?_
  refine T.seq (Qr ?_)
  refine mw rfl ?_
  refine oK rfl ?_
  refine oP Qf0 i28 rfl ?_
  refine oP Uv i26 rfl ?_
  refine oL 0 Us rfl ?_
  refine mw rfl ?_
  obtain ⟨m, q, h⟩ := bind_some h
  refine sp rfl (Yb (n := 3) (xs := x0.a.States) (f := Qb) (old := m) rfl (dk rfl) Us i51 rfl rfl rfl q ?_)
  refine sp rfl (Co rfl (dk rfl) Wi rfl i38 (by decide) rfl ?_)
  refine sp rfl (Hq (i := 3) (xs := x0.a.States) (f := Qb) (old := m) rfl (dk rfl) Zx rfl rfl rfl (Zu q).2 rfl ?_)
  refine aw rfl ?_
  refine TL'.nil (tN (T.seq (Qr ?_)))
  refine mw rfl ?_
  refine oU m.L (cI .i64) Zx rfl ?_
  refine mw rfl ?_
  refine oU x1 (cI .i64) Zx rfl ?_
  refine oI rfl ?_
  refine TL'.nil (tN ?_)
  rcases Qd h with ⟨s, h⟩ | ⟨s, h⟩
  refine Qq rfl s ?_
  refine T.seq (Qr ?_)
  refine aw rfl ?_
  refine TL'.nil (tN ?_)
  refine T.seq ?_
  refine T.seq (Qr ?_)
  refine aw rfl ?_
  refine TL'.nil (tN ?_)
  refine T.block ?_
  refine T.loop ?_
  refine Qh ?_ (F7 K bx0 (Xv K k) ih K x1 l m.L true (0:Int) x0 flx1 b j w0_0aa h)
  exact tq rfl rfl
  cases h
  refine Qp rfl p ?_
  refine T.exit (Qj (Qj (Qs (tN ?_))))
  refine T.seq (Qr ?_)
  refine aw rfl ?_
  refine TL'.nil (tN ?_)
  refine T.seq ?_
  refine T.seq (Qr ?_)
  refine aw rfl ?_
  refine TL'.nil (tN ?_)
  refine T.block ?_
  refine T.loop ?_
  refine Qh ?_ (F6 K bx0 K x1 (0:Int) x0 flx1 b j w0_0aa h)
  exact tq rfl rfl
theorem Pb (K : Nat) {x0 : Qi} {x1 : List Int} {bx0 : Nat} {wx0c1 wx0c2c1 wx0c2c2 : Value} {flx1 : Bool} {r : Int × Qi} (h : G7 K x0 x1 = some r) : U7 tp 84 [.ptr bx0 0, .sl flx1 1 (mI x1)] [(Xn bx0 x0.g.First x0.g.P wx0c1 x0.a.Split.Of x0.a.Split.Many wx0c2c1 wx0c2c2 x0.e), .arrA wx0c1 3 1 (mI x0.number), .arrA wx0c2c1 59 2 (mA x0.a.Counts), .arrX wx0c2c2 51 4 0 (x0.a.States.map Qb)] (fun γ => (.int .i64 r.1)) (fun γ => [(Xn bx0 r.2.g.First r.2.g.P (γ 0) r.2.a.Split.Of r.2.a.Split.Many (γ 1) (γ 2) r.2.e), .arrA (γ 0) 3 1 (mI r.2.number), .arrA (γ 1) 59 2 (mA r.2.a.Counts), .arrX (γ 2) 51 4 0 (r.2.a.States.map Qb)]) := by
 refine Qt Tryz.func84 rfl (nb rfl) ?_
 show T tp 122 (ca [] Tryz.f84) ⟨Qw 0 [.ptr bx0 0, .sl flx1 1 (mI x1)], [(Xn bx0 x0.g.First x0.g.P wx0c1 x0.a.Split.Of x0.a.Split.Many wx0c2c1 wx0c2c2 x0.e), .arrA wx0c1 3 1 (mI x0.number), .arrA wx0c2c1 59 2 (mA x0.a.Counts), .arrX wx0c2c2 51 4 0 (x0.a.States.map Qb)]⟩ (X8 bx0 r)
 unfold G7 at h
 refine T.seq (Qr ?_)
 refine aw rfl ?_
 refine TL'.nil (tN ?_)
 refine T.seq ?_
 refine T.seq (Qr ?_)
 refine aw rfl ?_
 refine TL'.nil (tN ?_)
 refine T.block ?_
 refine T.loop ?_
 refine Qh ?_ (F8 K bx0 K x1 (1:Int) x0 flx1 wx0c1 wx0c2c1 wx0c2c2 h)
 exact tq rfl rfl
abbrev He (bx0 : Nat) (r : Qe × Qi) : ES := J9 tp Tryz.f48 (fun y t => ∃ γ : Nat → Value, y = (.agg [.int .i64 r.1.To, .sl false 1 (mU r.1.Ops)]) ∧ t = [(Xn bx0 r.2.g.First r.2.g.P (γ 0) r.2.a.Split.Of r.2.a.Split.Many (γ 1) (γ 2) r.2.e), .arrA (γ 0) 3 1 (mI r.2.number), .arrA (γ 1) 59 2 (mA r.2.a.Counts), .arrX (γ 2) 51 4 0 (r.2.a.States.map Qb)])
abbrev Di (bx0 : Nat) (r : Qe × Qi) : ES := thenS (fun s' => T tp 109 (ca [1,1,1,1,1,1] Tryz.f48) s' ((He bx0 r))) ((He bx0 r))
abbrev Ca (bx0 : Nat) (r : Qe × Qi) : ES := Qz 0 ((Di bx0 r))
theorem F4 {r : Qe × Qi} (K bx0 : Nat) : ∀ (k : Nat), ∀ (x1 x2 : Int) (y b : Int) (x0 : Qi) (j m p : List Int) (q : List (List Qe)) (s : List Int) (u w w0_0aa : Value) (aa ab : Nat) (ad : Value), Y0 K k x1 x2 y b x0 j m p q s = some r → TL tp 109 (ca [1,1,1,1,1,0,1,0,0] Tryz.f48) ⟨[(0, .ptr bx0 0), (1, .int .i64 x1), (2, .int .i64 x2), (8, .ptr aa 0), (9, .ptr ab 0), (10, .int .u8 y), (11, .c (.ex ad)), (12, .c (.ex (.slice none 0 0))), (13, .int .i64 b)], [(Xn bx0 x0.g.First x0.g.P u x0.a.Split.Of x0.a.Split.Many w w0_0aa x0.e), .arrA u 3 1 (mI x0.number), .arrA w 59 2 (mA x0.a.Counts), .arrX w0_0aa 51 4 0 (x0.a.States.map Qb), .box aa 54 [.d (.int .i64 (0:Int)), .d (.ex (.slice none 0 0))], (Jz ab j m p q), .arrA ad 3 1 (mI s)]⟩ (Ca bx0 r) := by
 intro k
 induction k with
 | zero =>
  intro x1 x2 y b x0 j m p q s u w w0_0aa aa ab ad h
  exact zn h
 | succ k ih =>
  intro x1 x2 y b x0 j m p q s u w w0_0aa aa ab ad h
  rw [Y0] at h
  refine Q6 ?_
  refine T.seq ?_
  refine T.seq (Qr ?_)
  refine mw rfl ?_
  refine mw rfl ?_
  refine oK rfl ?_
  refine oP Qf0 i43 rfl ?_
  refine oP Qhq i41 rfl ?_
  refine oL 0 Tu rfl ?_
  refine oU x0.g.P Q1 Tu rfl ?_
  refine oI rfl ?_
  refine TL'.nil (tN ?_)
  rcases Qd h with ⟨ai, h⟩ | ⟨ai, h⟩
  refine Qq rfl ai ?_
  refine T.skip (tN ?_)
  refine T.seq ?_
  refine T.block ?_
  refine T.seq ?_
  refine T.seq (Qr ?_)
  refine mw rfl ?_
  refine oK rfl ?_
  refine oP Qf0 i43 rfl ?_
  refine oP Qhq i41 rfl ?_
  refine oL 0 Tu rfl ?_
  refine mw rfl ?_
  obtain ⟨au, av, h⟩ := bind_some h
  refine oX x0.g.P Q1 Tu i65 av rfl ?_
  refine sp rfl (Ur rfl (dk rfl) ul65 rfl i63 (by decide) rfl ?_)
  refine sp rfl (Za rfl (dk rfl) Qhp rfl i63 rfl (nb rfl) ?_)
  refine mw rfl ?_
  obtain ⟨a6, ay, h⟩ := bind_some h
  refine sp rfl (Q0 rfl (dk rfl) Tryz.func81 rfl rfl (Q5.cons rfl (Q5.cons rfl Q5.nil)) (Zm.nil (Lh K ay)) ?_)
  refine oT rfl ?_
  refine TL'.nil (tN ?_)
  rcases Qd h with ⟨aj, h⟩ | ⟨aj, h⟩
  refine Qq rfl aj ?_
  refine T.exit (Qj (Qs (tN ?_)))
  refine Qr ?_
  refine mw rfl ?_
  refine oI rfl ?_
  refine aw rfl ?_
  refine TL'.nil (tN ?_)
  refine Qh ?_ (ih x1 x2 y (wI (b + (1:Int))) x0 j m p q s u w w0_0aa aa ab ad h)
  exact tq rfl rfl
  refine Qp rfl aj ?_
  refine T.skip (tN ?_)
  refine T.seq (Qr ?_)
  refine mw rfl ?_
  refine mw rfl ?_
  refine oA 5 [.sl false 1 (mI j), .sl false 1 (mI m), .sl false 1 (mI p), .sl false 1 (q.map (cL 2 Qf))] Wi i51 rfl ?_
  refine mw rfl ?_
  refine mw rfl ?_
  obtain ⟨a7, az, h⟩ := bind_some h
  refine sp rfl (Q8 (is := [0, 1, 2, 3]) (ph := []) rfl (dk rfl) Tryz.func82 rfl rfl (Q5.cons rfl (Q5.cons rfl (Q5.cons rfl (Q5.cons rfl (Q5.cons rfl Q5.nil))))) (I5 K (bx0 := bx0) (wx0c1 := u) (wx0c2c1 := w) (wx0c2c2 := w0_0aa) az) (.cons rfl rfl (.cons rfl rfl (.cons rfl rfl (.cons rfl rfl (.nil))))) (fun _ => rfl) (fun al => ?_))
  refine nm (.c (.c (.c (.c (.c (.c (.c (.n)))))))) ?_
  refine aw rfl ?_
  refine TL'.nil (tN (T.seq (Qr ?_)))
  refine mw rfl ?_
  refine oA 5 [.sl false 1 (mI j), .sl false 1 (mI m), .sl false 1 (mI p), .sl false 1 (q.map (cL 2 Qf))] Wi i51 rfl ?_
  refine mw rfl ?_
  refine mw rfl ?_
  obtain ⟨a8, a0, h⟩ := bind_some h
  refine sp rfl (Q8 (is := [0, 1, 2, 3]) (ph := []) rfl (dk rfl) Tryz.func83 rfl rfl (Q5.cons rfl (Q5.cons rfl (Q5.cons rfl (Q5.cons rfl Q5.nil)))) (N6 K (bx0 := bx0) (wx0c1 := (al 0)) (wx0c2c1 := (al 1)) (wx0c2c2 := (al 2)) a0) (.cons rfl rfl (.cons rfl rfl (.cons rfl rfl (.cons rfl rfl (.nil))))) (fun _ => rfl) (fun af => ?_))
  refine nm (.c (.c (.c (.c (.c (.c (.c (.n)))))))) ?_
  refine aw rfl ?_
  refine TL'.nil (tN ?_)
  refine T.seq ?_
  refine T.seq (Qr ?_)
  refine mw rfl ?_
  refine oT rfl ?_
  refine mw rfl ?_
  rcases Qd h with ⟨ac, h⟩ | ⟨ac, h⟩
  refine sn rfl ac (OpT.move rfl (dk rfl) rfl ?_)
  refine sn rfl ac (OpT.not rfl (dk rfl) rfl ?_)
  refine oY ac rfl ?_
  refine TL'.nil (tN ?_)
  rcases Qd h with ⟨ap, h⟩ | ⟨ap, h⟩
  refine Qq rfl ap ?_
  refine T.exit (Qj (Qs (tN ?_)))
  refine Qr ?_
  refine mw rfl ?_
  refine oI rfl ?_
  refine aw rfl ?_
  refine TL'.nil (tN ?_)
  refine Qh ?_ (ih x1 x2 y (wI (b + (1:Int))) x0 j m p q s (af 0) (af 1) (af 2) aa ab ad h)
  exact tq rfl rfl
  cases h
  refine pf rfl ac ?_
  refine pf rfl ac ?_
  refine oZ ac rfl ?_
  refine TL'.nil (tN ?_)
  refine Qp rfl rfl ?_
  refine T.skip (tN ?_)
  refine T.seq (Qr ?_)
  refine mw rfl ?_
  refine mw rfl ?_
  refine sp rfl (OpT.buildSlice (elems := ([b] : List Int).map (cI .i64)) rfl (dk rfl) Zx i3 (by decide) rfl (M1 rfl) rfl rfl rfl (Uf rfl) (by decide) ?_)
  obtain ⟨a1, h⟩ := Zf h
  refine sp rfl (Zy (i := 6) (xs := s) (ys := [b]) (f := (cI .i64)) rfl (dk rfl) Zx i3 rfl rfl rfl rfl a1 (fun a2 => ?_))
  refine aw rfl ?_
  refine TL'.nil (tN ?_)
  refine T.seq ?_
  refine T.seq (Qr ?_)
  refine mw rfl ?_
  refine oK rfl ?_
  refine oP Qf0 i38 rfl ?_
  refine sp rfl (Zq (Zn (i := 0) rfl (dk rfl) Zx rfl rfl rfl rfl rfl) (M2 79 1 rfl) ?_)
  refine mw rfl ?_
  obtain ⟨a3, a4, h⟩ := bind_some h
  refine oX x0.number (cI .i64) Zx i3 a4 rfl ?_
  refine oR ul3 rfl ?_
  refine oI rfl ?_
  refine TL'.nil (tN ?_)
  rcases Qd h with ⟨aq, h⟩ | ⟨aq, h⟩
  refine Qq rfl aq ?_
  refine T.exit (Qj (Qs (tN ?_)))
  refine Qr ?_
  refine mw rfl ?_
  refine oI rfl ?_
  refine aw rfl ?_
  refine TL'.nil (tN ?_)
  refine Qh ?_ (ih x1 x2 y (wI (b + (1:Int))) x0 j m p q (s ++ [b]) (af 0) (af 1) (af 2) aa ab a2 h)
  exact tq rfl rfl
  cases h
  refine Qp rfl ai ?_
  refine T.exit (Qj (Qj (Qs (tN ?_))))
  refine T.seq ?_
  refine T.seq (Qr ?_)
  refine mw rfl ?_
  refine sp rfl (Kk (i := 6) (xs := s) (f := (cI .i64)) rfl (dk rfl) Zx rfl rfl ?_)
  refine oI rfl ?_
  refine TL'.nil (tN ?_)
  rcases Qd h with ⟨am, h⟩ | ⟨am, h⟩
  refine Qq rfl am ?_
  refine T.seq (Qr ?_)
  refine sp rfl (Zq (OpT.build (l := [.int .i64 (-1:Int), .ex (.slice none 0 0)]) rfl (dk rfl) (Zv (pl := [(0, 1), (1, 1)]) Cp i54 rfl) (M1 rfl) rfl rfl rfl) (Ye 103 (l := [.int .i64 (-1:Int), .ex (.slice none 0 0)]) (l' := [.int .i64 (-1:Int), .sl false 1 (([] : List Int).map (cI .u8))]) (.cons (.same _) (.cons (.nil _ _) (.refl _)))) ?_)
  refine sp rfl (Qy (i := 4) (cells' := [.d (.int .i64 (-1:Int)), .d (.sl false 1 (([] : List Int).map (cI .u8)))]) rfl rfl i54 rfl rfl rfl rfl (nb rfl) rfl ?_)
  refine TL'.nil (tN ?_)
  refine T.ret (Qv ?_)
  exact Q7 (.cons _ _ _ _ (.cellAgg 8 54 _ 0 4 54 _ [.int .i64 (-1:Int), .sl false 1 (([] : List Int).map (cI .u8))] _ _ 2 _ rfl rfl rfl rfl Cp rfl i54) .nil) (.cons 0 rfl (.cons 0 rfl (.cons 0 rfl (.cons 0 rfl (.nil _))))) (by cases h; exact ⟨gl [u, w, w0_0aa], rfl, rfl⟩)
  refine Qp rfl am ?_
  refine T.skip (tN ?_)
  refine T.seq (Qr ?_)
  refine mw rfl ?_
  refine mw rfl ?_
  obtain ⟨ag, a5, h⟩ := bind_some h
  refine sp rfl (Q8 (is := [0, 1, 2, 3]) (ph := []) rfl (dk rfl) Tryz.func84 rfl rfl (Q5.cons rfl (Q5.view (i := 6) rfl rfl Q5.nil)) (Pb K (bx0 := bx0) (wx0c1 := u) (wx0c2c1 := w) (wx0c2c2 := w0_0aa) (flx1 := false) a5) (.cons rfl rfl (.cons rfl rfl (.cons rfl rfl (.cons rfl rfl (.nil))))) (fun _ => rfl) (fun an => ?_))
  refine nm (.c (.c (.c (.c (.c (.c (.c (.n)))))))) ?_
  refine mw rfl ?_
  refine sp rfl (Zq (OpT.build (l := [.int .i64 ag.1, .ex (.slice none 0 0)]) rfl (dk rfl) (Zv (pl := [(0, 1), (1, 1)]) Cp i54 rfl) (M1 rfl) rfl rfl rfl) (Ye 108 (l := [.int .i64 ag.1, .ex (.slice none 0 0)]) (l' := [.int .i64 ag.1, .sl false 1 (([] : List Int).map (cI .u8))]) (.cons (.same _) (.cons (.nil _ _) (.refl _)))) ?_)
  refine sp rfl (Qy (i := 4) (cells' := [.d (.int .i64 ag.1), .d (.sl false 1 (([] : List Int).map (cI .u8)))]) rfl rfl i54 rfl rfl rfl rfl (nb rfl) rfl ?_)
  refine TL'.nil (tN ?_)
  refine T.ret ?_
  exact Q7 (.cons _ _ _ _ (.cellAgg 8 54 _ 0 4 54 _ [.int .i64 ag.1, .sl false 1 (([] : List Int).map (cI .u8))] _ _ 2 _ rfl rfl rfl rfl Cp rfl i54) .nil) (.cons 0 rfl (.cons 0 rfl (.cons 0 rfl (.cons 0 rfl (.nil _))))) (by cases h; exact ⟨gl [an 0, an 1, an 2], rfl, rfl⟩)
theorem Pa (K : Nat) {x0 : Qi} {x1 x2 x3 : Int} {bx0 : Nat} {wx0c1 wx0c2c1 wx0c2c2 : Value} {r : Qe × Qi} (h : G5 K x0 x1 x2 x3 = some r) : U7 tp 48 [.ptr bx0 0, .int .i64 x1, .int .i64 x2, .int .i64 x3] [(Xn bx0 x0.g.First x0.g.P wx0c1 x0.a.Split.Of x0.a.Split.Many wx0c2c1 wx0c2c2 x0.e), .arrA wx0c1 3 1 (mI x0.number), .arrA wx0c2c1 59 2 (mA x0.a.Counts), .arrX wx0c2c2 51 4 0 (x0.a.States.map Qb)] (fun γ => (.agg [.int .i64 r.1.To, .sl false 1 (mU r.1.Ops)])) (fun γ => [(Xn bx0 r.2.g.First r.2.g.P (γ 0) r.2.a.Split.Of r.2.a.Split.Many (γ 1) (γ 2) r.2.e), .arrA (γ 0) 3 1 (mI r.2.number), .arrA (γ 1) 59 2 (mA r.2.a.Counts), .arrX (γ 2) 51 4 0 (r.2.a.States.map Qb)]) := by
 refine Qt Tryz.func48 rfl (nb rfl) ?_
 show T tp 109 (ca [] Tryz.f48) ⟨Qw 0 [.ptr bx0 0, .int .i64 x1, .int .i64 x2, .int .i64 x3], [(Xn bx0 x0.g.First x0.g.P wx0c1 x0.a.Split.Of x0.a.Split.Many wx0c2c1 wx0c2c2 x0.e), .arrA wx0c1 3 1 (mI x0.number), .arrA wx0c2c1 59 2 (mA x0.a.Counts), .arrX wx0c2c2 51 4 0 (x0.a.States.map Qb)]⟩ (He bx0 r)
 unfold G5 at h
 refine T.seq (Qr ?_)
 refine sp rfl (Zh rfl (dk rfl) i54 rfl (fun p => ?_))
 refine TL'.nil (tN (T.seq (Qr ?_)))
 refine mw rfl ?_
 refine oK rfl ?_
 refine oP Qf0 i28 rfl ?_
 refine oP Uv i26 rfl ?_
 refine oL 1 Us rfl ?_
 refine mw rfl ?_
 obtain ⟨b, j, h⟩ := bind_some h
 refine sp rfl (Yb (n := 4) (xs := x0.a.States) (f := Qb) (old := b) rfl (dk rfl) Us i51 rfl rfl rfl j ?_)
 refine sp rfl (Qfx (i := 4) (xs := x0.a.States) (f := Qb) (old := b) (l := [.sl false 1 (mI b.L), .sl false 1 (mI b.R), .sl false 1 (mI b.Rule), .sl false 1 (b.Next.map (cL 2 Qf))]) rfl (dk rfl) Wi rfl i51 rfl rfl (Zu j).2 rfl rfl ?_)
 refine sp rfl (Zh rfl (dk rfl) i51 rfl (fun q => ?_))
 refine sp rfl (Qy (i := 0) (cells' := [.d (.sl false 1 (mI b.L)), .d (.sl false 1 (mI b.R)), .d (.sl false 1 (mI b.Rule)), .d (.sl false 1 (b.Next.map (cL 2 Qf)))]) rfl rfl i51 rfl rfl rfl rfl (nb rfl) rfl ?_)
 refine TL'.nil (tN (T.seq (Qr ?_)))
 refine mw rfl ?_
 refine oK rfl ?_
 refine oP Qf0 i28 rfl ?_
 refine oP Uv i24 rfl ?_
 refine oA 2 ((Zi.dc 256 .u8 x0.a.Split.Of) ++ (([.int .i64 x0.a.Split.Many] : List DC))) Qhi i24 rfl ?_
 obtain ⟨u, w, h⟩ := bind_some h
 refine sp rfl (Q0 rfl (dk rfl) Tryz.func80 rfl rfl (Q5.cons rfl Q5.nil) (Zm.nil (Qei K w)) ?_)
 refine mw rfl ?_
 obtain ⟨m, y, h⟩ := bind_some h
 refine oX u (cI .u8) C8 i5 y rfl ?_
 refine oR ul5 rfl ?_
 refine aw rfl ?_
 refine TL'.nil (tN (T.seq (Qr ?_)))
 refine aw rfl ?_
 refine TL'.nil (tN (T.seq (Qr ?_)))
 refine aw rfl ?_
 refine TL'.nil (tN ?_)
 refine T.seq ?_
 refine T.seq (Qr ?_)
 refine aw rfl ?_
 refine TL'.nil (tN ?_)
 refine T.block ?_
 refine T.loop ?_
 refine Qh (Xy 3 1) ?_
 refine Qh ?_ (F4 K bx0 K x1 x2 m (0:Int) x0 b.L b.R b.Rule b.Next [] wx0c1 wx0c2c1 wx0c2c2 p q (Qf1 2) h)
 exact tr rfl (.c (.s (.s (.s .z))) (.c (.s (.s (.s .z))) (.c (.s (.s (.s .z))) (.c (.s (.s (.s .z))) (.c (.s (.s .z)) (.c (.s .z) (.c .z (.n _))))))))
abbrev Kf (r : Ql × Int) : ES := J9 tp Tryz.f20 (fun y t => y = (.tup [.agg ((Zi.dc 256 .u8 r.1.Split.Of) ++ (([.int .i64 r.1.Split.Many, .sl false 2 (mA r.1.Counts), .sl false 4 (r.1.States.map Qb)] : List DC))), .int .i64 r.2]) ∧ t = [])
abbrev P3 (r : Ql × Int) : ES := thenS (fun s' => T tp 198 (ca [1,1,1,1,1,1,1,1] Tryz.f20) s' ((Kf r))) ((Kf r))
abbrev Ua (r : Ql × Int) : ES := Qz 2 ((P3 r))
abbrev Mc (r : Ql × Int) : ES := thenS (fun s' => TL tp 198 (ca [1,1,1,1,1,1,1,0,1,0,0] Tryz.f20) s' ((Ua r))) ((Ua r))
abbrev Fg (r : Ql × Int) : ES := thenS (fun s' => T tp 198 (ca [1,1,1,1,1,1,1,0,1,0,0,1,1] Tryz.f20) s' ((Mc r))) ((Mc r))
abbrev Ha (r : Ql × Int) : ES := Qz 3 ((Fg r))
abbrev Cb (r : Ql × Int) : ES := thenS (fun s' => T tp 198 (ca [1,1,1,1,1,1,1,0,1,0,0,1,0,0,1,1,1,1] Tryz.f20) s' ((Ha r))) ((Ha r))
abbrev Ym (r : Ql × Int) : ES := Qz 4 ((Cb r))
abbrev J3 (r : Ql × Int) : ES := thenS (fun s' => TL tp 198 (ca [1,1,1,1,1,1,1,0,1,0,0,1,0,0,1,1,1,0,1,0,0] Tryz.f20) s' ((Ym r))) ((Ym r))
abbrev K4 (r : Ql × Int) : ES := thenS (fun s' => T tp 198 (ca [1,1,1,1,1,1,1,0,1,0,0,1,0,0,1,1,1,0,1,0,0,1,1] Tryz.f20) s' ((J3 r))) ((J3 r))
abbrev Vl (r : Ql × Int) : ES := Qz 5 ((K4 r))
abbrev Ll (r : Ql × Int) : ES := thenS (fun s' => T tp 198 (ca [1,1,1,1,1,1,1,0,1,0,0,1,0,0,1,1,1,0,1,0,0,1,0,0,1,1,1] Tryz.f20) s' ((Vl r))) ((Vl r))
abbrev J4 (r : Ql × Int) : ES := Qz 6 ((Ll r))
abbrev Qaw (r : Ql × Int) : ES := thenS (fun s' => T tp 198 (ca [1,1,1,1,1] Tryz.f20) s' ((Kf r))) ((Kf r))
abbrev R8 (r : Ql × Int) : ES := Qz 0 ((Qaw r))
abbrev Qdz (r : Ql × Int) (go : Int → Int → Int → Zi → (List Int) → (List Zp) → Zi → Int → Int → (List Int) → (List Vr) → (List Qa) → (List Int) → (List (List Qe)) → Option (Ql × Int)) : Prop := ∀ (a b f : Int) (g : Zi) (i : List Int) (j : List Zp) (l : Zi) (m n : Int) (p : List Int) (q : List Vr) (s : List Qa) (u : List Int) (v : List (List Qe)) (w y : Nat) (z aa : Value) (w4_2aa ab ac : Value), go a b f g i j l m n p q s u v = some r → TL tp 198 (ca [1,1,1,1,1,1,1,0,1,0,0,1,0,0,1,1,1,0,1,0,0] Tryz.f20) ⟨[(2, .ptr w 0), (4, .ptr y 0), (7, .int .i64 a), (8, .int .i64 b), (9, .c (.ex ab)), (10, .c (.ex ac)), (11, .int .i64 f)], [(Qh6 w g (0:Int) (.slice none 0 0) (.slice none 0 0)), (Xn y i j z l m aa w4_2aa n), .arrA z 3 1 (mI p), .arrA aa 59 2 (mA q), .arrX w4_2aa 51 4 0 (s.map Qb), .arrA ab 3 1 (mI u), .arrA ac 55 1 (v.map (cL 2 Qf))]⟩ (Ym r)
theorem Qdx {r : Ql × Int} (K : Nat) (go2 : Int → Int → Int → Zi → (List Int) → (List Zp) → Zi → Int → Int → (List Int) → (List Vr) → (List Qa) → (List Int) → (List (List Qe)) → Option (Ql × Int)) (hgo2 : Qdz r go2) : ∀ (k : Nat), ∀ (p q : Int) (s ac : Int) (u : Zi) (ad : List Int) (af : List Zp) (ag : Zi) (ai aj : Int) (al : List Int) (am : List Vr) (an : List Qa) (v : List Int) (l : List (List Qe)) (j : List Qe) (w m : Nat) (y aa : Value) (w4_3aa ab : Value) (ap aq : Value), Mo K go2 k p q s ac u ad af ag ai aj al am an v l j = some r → TL tp 198 (ca [1,1,1,1,1,1,1,0,1,0,0,1,0,0,1,1,1,0,1,0,0,1,0,0,1,1,0,1,0,0] Tryz.f20) ⟨[(2, .ptr w 0), (4, .ptr m 0), (7, .int .i64 p), (8, .int .i64 q), (9, .c (.ex ab)), (10, .c (.ex ap)), (11, .int .i64 s), (12, .c (.ex aq)), (13, .int .i64 ac)], [(Qh6 w u (0:Int) (.slice none 0 0) (.slice none 0 0)), (Xn m ad af y ag ai aa w4_3aa aj), .arrA y 3 1 (mI al), .arrA aa 59 2 (mA am), .arrX w4_3aa 51 4 0 (an.map Qb), .arrA ab 3 1 (mI v), .arrA ap 55 1 (l.map (cL 2 Qf)), .arrA aq 54 2 (j.map Qf)]⟩ (J4 r) := by
 intro k
 induction k with
 | zero =>
  intro p q s ac u ad af ag ai aj al am an v l j w m y aa w4_3aa ab ap aq h
  exact zn h
 | succ k ih =>
  intro p q s ac u ad af ag ai aj al am an v l j w m y aa w4_3aa ab ap aq h
  rw [Mo] at h
  refine Q6 ?_
  refine T.seq ?_
  refine T.seq (Qr ?_)
  refine mw rfl ?_
  refine mw rfl ?_
  refine oK rfl ?_
  refine oP Qf0 i28 rfl ?_
  refine oP Uv i24 rfl ?_
  refine oP Qhi i3 rfl ?_
  refine oL 1 ul3 rfl ?_
  refine oI rfl ?_
  refine TL'.nil (tN ?_)
  rcases Qd h with ⟨au, h⟩ | ⟨au, h⟩
  refine Qq rfl au ?_
  refine T.skip (tN ?_)
  refine T.seq ?_
  refine T.block ?_
  refine T.seq (Qr ?_)
  iterate 5 refine mw rfl ?_
  obtain ⟨b, az, h⟩ := bind_some h
  refine sp rfl (Q8 (is := [1, 2, 3, 4]) (ph := []) rfl (dk rfl) Tryz.func48 rfl rfl (Q5.cons rfl (Q5.cons rfl (Q5.cons rfl (Q5.cons rfl Q5.nil)))) (Pa K (bx0 := m) (wx0c1 := y) (wx0c2c1 := aa) (wx0c2c2 := w4_3aa) az) (.cons rfl rfl (.cons rfl rfl (.cons rfl rfl (.cons rfl rfl (.nil))))) (fun _ => rfl) (fun av => ?_))
  refine nm (.c (.c (.c (.c (.c (.c (.c (.c (.n))))))))) ?_
  refine sp rfl (OpT.buildSlice (elems := ([b.1] : List Qe).map Qf) rfl (dk rfl) Fq i54 (by decide) rfl (M1 rfl) rfl rfl rfl (Uf rfl) (by decide) ?_)
  obtain ⟨a0, h⟩ := Zf h
  refine sp rfl (Zy (i := 7) (xs := j) (ys := [b.1]) (f := Qf) rfl (dk rfl) Fq i54 rfl rfl rfl rfl a0 (fun a1 => ?_))
  refine aw rfl ?_
  refine TL'.nil (tN (T.seq (Qr ?_)))
  refine mw rfl ?_
  refine oK rfl ?_
  refine oP Qf0 i30 rfl ?_
  refine oL 1 ul30 rfl ?_
  refine oI rfl ?_
  refine TL'.nil (tN ?_)
  rcases Qd h with ⟨ay, h⟩ | ⟨ay, h⟩
  cases h
  refine Qp rfl ay ?_
  refine T.skip (Qn (tN ?_))
  refine Qr ?_
  refine mw rfl ?_
  refine oI rfl ?_
  refine aw rfl ?_
  refine TL'.nil (tN ?_)
  refine Qh ?_ (ih p q s (wI (ac + (1:Int))) u b.2.g.First b.2.g.P b.2.a.Split.Of b.2.a.Split.Many b.2.e b.2.number b.2.a.Counts b.2.a.States v l (j ++ [b.1]) w m (av 0) (av 1) (av 2) ab ap a1 h)
  exact tq rfl rfl
  refine Qp rfl au ?_
  refine T.exit (Qj (Qj (Qs (tN ?_))))
  refine Qr ?_
  refine mw rfl ?_
  refine mw rfl ?_
  refine Hz (Z6.view 173 7 rfl rfl) ?_
  refine sp rfl (OpT.buildSlice (elems := ([j] : List (List Qe)).map (cL 2 Qf)) rfl (dk rfl) Fp i55 (by decide) rfl (M1 rfl) rfl rfl rfl (Uf rfl) (by decide) ?_)
  obtain ⟨a2, h⟩ := Zf h
  refine sp rfl (Zy (i := 6) (xs := l) (ys := [j]) (f := (cL 2 Qf)) rfl (dk rfl) Fp i55 rfl rfl rfl rfl a2 (fun a3 => ?_))
  refine aw rfl ?_
  refine TL'.nil (Qn (tN ?_))
  refine Qr ?_
  refine mw rfl ?_
  refine oI rfl ?_
  refine aw rfl ?_
  refine TL'.nil (tN ?_)
  refine Qh ?_ (hgo2 p q (wI (s + (1:Int))) u ad af ag ai aj al am an v (l ++ [j]) w m y aa w4_3aa ab a3 h)
  exact tq rfl rfl
abbrev Qd1 (r : Ql × Int) (go : Int → Zi → (List Int) → (List Zp) → Zi → Int → Int → (List Int) → (List Vr) → (List Qa) → Option (Ql × Int)) : Prop := ∀ (a : Int) (b : Zi) (c : List Int) (f : List Zp) (g : Zi) (i j : Int) (l : List Int) (m : List Vr) (n : List Qa) (p q : Nat) (s u w4_1aa : Value), go a b c f g i j l m n = some r → TL tp 198 (ca [1,1,1,1,1,1,1,0,1,0,0] Tryz.f20) ⟨[(2, .ptr p 0), (4, .ptr q 0), (7, .int .i64 a)], [(Qh6 p b (0:Int) (.slice none 0 0) (.slice none 0 0)), (Xn q c f s g i u w4_1aa j), .arrA s 3 1 (mI l), .arrA u 59 2 (mA m), .arrX w4_1aa 51 4 0 (n.map Qb)]⟩ (Ua r)
theorem Qdy {r : Ql × Int} (K : Nat) (go1 : Int → Zi → (List Int) → (List Zp) → Zi → Int → Int → (List Int) → (List Vr) → (List Qa) → Option (Ql × Int)) (hgo1 : Qd1 r go1) : ∀ (k : Nat), ∀ (g al am : Int) (u : Zi) (v : List Int) (w : List Zp) (y : Zi) (aa ab : Int) (ac : List Int) (ad : List Vr) (b : List Qa) (j : List Int) (p : List (List Qe)) (af q : Nat) (ag ai : Value) (w4_2aa ap an : Value), G8 K go1 k g al am u v w y aa ab ac ad b j p = some r → TL tp 198 (ca [1,1,1,1,1,1,1,0,1,0,0,1,0,0,1,1,1,0,1,0,0] Tryz.f20) ⟨[(2, .ptr af 0), (4, .ptr q 0), (7, .int .i64 g), (8, .int .i64 al), (9, .c (.ex ap)), (10, .c (.ex an)), (11, .int .i64 am)], [(Qh6 af u (0:Int) (.slice none 0 0) (.slice none 0 0)), (Xn q v w ag y aa ai w4_2aa ab), .arrA ag 3 1 (mI ac), .arrA ai 59 2 (mA ad), .arrX w4_2aa 51 4 0 (b.map Qb), .arrA ap 3 1 (mI j), .arrA an 55 1 (p.map (cL 2 Qf))]⟩ (Ym r) := by
 intro k
 induction k with
 | zero =>
  intro g al am u v w y aa ab ac ad b j p af q ag ai w4_2aa ap an h
  exact zn h
 | succ k ih =>
  intro g al am u v w y aa ab ac ad b j p af q ag ai w4_2aa ap an h
  rw [G8] at h
  refine Q6 ?_
  refine T.seq ?_
  refine T.seq (Qr ?_)
  refine mw rfl ?_
  refine mw rfl ?_
  refine oI rfl ?_
  refine TL'.nil (tN ?_)
  rcases Qd h with ⟨aq, h⟩ | ⟨aq, h⟩
  refine Qq rfl aq ?_
  refine T.skip (tN ?_)
  refine T.seq ?_
  refine T.block ?_
  refine T.seq (Qr ?_)
  iterate 3 refine mw rfl ?_
  refine oK rfl ?_
  refine oP Qf0 i28 rfl ?_
  refine oP Uv i26 rfl ?_
  refine oL 1 Us rfl ?_
  refine mw rfl ?_
  obtain ⟨aj, ay, h⟩ := bind_some h
  refine sp rfl (Yb (n := 4) (xs := b) (f := Qb) (old := aj) rfl (dk rfl) Us i51 rfl rfl rfl ay ?_)
  refine sp rfl (Qfx (i := 4) (xs := b) (f := Qb) (old := aj) (l := [.sl false 1 (mI aj.L), .sl false 1 (mI aj.R), .sl false 1 (mI aj.Rule), .sl false 1 (aj.Next.map (cL 2 Qf))]) rfl (dk rfl) Wi rfl i51 rfl rfl (Zu ay).2 rfl rfl ?_)
  refine mw rfl ?_
  obtain ⟨au, a1, h⟩ := bind_some h
  refine sp rfl (Q8 (is := [1, 2, 3, 4]) (ph := []) rfl (dk rfl) Tryz.func47 rfl rfl (Q5.cons rfl (Q5.cons rfl (Q5.cons rfl Q5.nil))) (O8 K (bx0 := q) (wx0c1 := ag) (wx0c2c1 := ai) (wx0c2c2 := w4_2aa) a1) (.cons rfl rfl (.cons rfl rfl (.cons rfl rfl (.cons rfl rfl (.nil))))) (fun _ => rfl) (fun av => ?_))
  refine nm (.c (.c (.c (.c (.c (.c (.c (.n)))))))) ?_
  refine sp rfl (OpT.buildSlice (elems := ([au] : List Int).map (cI .i64)) rfl (dk rfl) Zx i3 (by decide) rfl (M1 rfl) rfl rfl rfl (Uf rfl) (by decide) ?_)
  obtain ⟨a2, h⟩ := Zf h
  refine sp rfl (Zy (i := 5) (xs := j) (ys := [au]) (f := (cI .i64)) rfl (dk rfl) Zx i3 rfl rfl rfl rfl a2 (fun a3 => ?_))
  refine aw rfl ?_
  refine TL'.nil (tN (T.seq (Qr ?_)))
  refine aw rfl ?_
  refine TL'.nil (tN ?_)
  refine T.seq ?_
  refine T.seq (Qr ?_)
  refine aw rfl ?_
  refine TL'.nil (tN ?_)
  refine T.block ?_
  refine T.loop ?_
  refine Qh (Xy 54 2) ?_
  refine Qh ?_ (Qdx K (G8 K go1 k) ih K g al am (0:Int) u v w y aa ab ac ad b (j ++ [au]) p [] af q (av 0) (av 1) (av 2) a3 an (Qf1 20) h)
  exact tr rfl (.c (.s .z) (.c (.s .z) (.c (.s .z) (.c (.s .z) (.c (.s .z) (.c (.s .z) (.c (.s .z) (.c .z (.n _)))))))))
  refine Qp rfl aq ?_
  refine T.exit (Qj (Qj (Qs (tN ?_))))
  refine T.seq (Qr ?_)
  refine mw rfl ?_
  refine oK rfl ?_
  refine oP Qf0 i28 rfl ?_
  refine oP Uv i26 rfl ?_
  refine oL 1 Us rfl ?_
  refine mw rfl ?_
  refine mw rfl ?_
  obtain ⟨a, az, h⟩ := bind_some h
  refine sp rfl (Yb (n := 4) (xs := b) (f := Qb) (old := a) rfl (dk rfl) Us i51 rfl rfl rfl az ?_)
  refine sp rfl (Co rfl (dk rfl) Wi rfl i38 (by decide) rfl ?_)
  refine Hz (Z6.view 182 5 rfl rfl) ?_
  refine sp rfl (H8 (i := 4) (xs := b) (f := Qb) (old := a) (new := (Qa.mk a.L a.R j a.Next)) rfl rfl i38 rfl rfl rfl (Zu az).2 (Nat.zero_le _) (nb rfl) rfl ?_)
  refine TL'.nil (tN ?_)
  refine Qr ?_
  refine mw rfl ?_
  refine oK rfl ?_
  refine oP Qf0 i28 rfl ?_
  refine oP Uv i26 rfl ?_
  refine oL 1 Us rfl ?_
  refine mw rfl ?_
  refine mw rfl ?_
  obtain ⟨m, a0, h⟩ := bind_some h
  refine sp rfl (Yb (n := 4) (xs := (List.set b (Int.toNat g) (Qa.mk a.L a.R j a.Next))) (f := Qb) (old := m) rfl (dk rfl) Us i51 rfl rfl rfl a0 ?_)
  refine sp rfl (Co rfl (dk rfl) Wi rfl i49 (by decide) rfl ?_)
  refine Hz (Z6.view 191 6 rfl rfl) ?_
  refine sp rfl (H8 (i := 4) (xs := (List.set b (Int.toNat g) (Qa.mk a.L a.R j a.Next))) (f := Qb) (old := m) (new := (Qa.mk m.L m.R m.Rule p)) rfl rfl i49 rfl rfl rfl (Zu a0).2 (Nat.zero_le _) (nb rfl) rfl ?_)
  refine TL'.nil (Qn (tN ?_))
  refine Qr ?_
  refine mw rfl ?_
  refine oI rfl ?_
  refine aw rfl ?_
  refine TL'.nil (tN ?_)
  refine Qh ?_ (hgo1 (wI (g + (1:Int))) u v w y aa ab ac ad (List.set (List.set b (Int.toNat g) (Qa.mk a.L a.R j a.Next)) (Int.toNat g) (Qa.mk m.L m.R m.Rule p)) af q ag ai w4_2aa h)
  exact tq rfl rfl
theorem Qd0 {r : Ql × Int} (K : Nat) : ∀ (k : Nat), ∀ (p : Int) (q : Zi) (u : List Int) (v : List Zp) (b : Zi) (g w : Int) (y : List Int) (j : List Vr) (a : List Qa) (aa ab : Nat) (ac m w4_1aa : Value), G9 K k p q u v b g w y j a = some r → TL tp 198 (ca [1,1,1,1,1,1,1,0,1,0,0] Tryz.f20) ⟨[(2, .ptr aa 0), (4, .ptr ab 0), (7, .int .i64 p)], [(Qh6 aa q (0:Int) (.slice none 0 0) (.slice none 0 0)), (Xn ab u v ac b g m w4_1aa w), .arrA ac 3 1 (mI y), .arrA m 59 2 (mA j), .arrX w4_1aa 51 4 0 (a.map Qb)]⟩ (Ua r) := by
 intro k
 induction k with
 | zero =>
  intro p q u v b g w y j a aa ab ac m w4_1aa h
  exact zn h
 | succ k ih =>
  intro p q u v b g w y j a aa ab ac m w4_1aa h
  rw [G9] at h
  refine Q6 ?_
  refine T.seq ?_
  refine T.seq (Qr ?_)
  refine mw rfl ?_
  refine mw rfl ?_
  refine oK rfl ?_
  refine oP Qf0 i28 rfl ?_
  refine oP Uv i26 rfl ?_
  refine oL 1 Us rfl ?_
  refine sp rfl (H0 (i := 4) (xs := a) (f := Qb) rfl (dk rfl) Us rfl rfl ?_)
  refine oI rfl ?_
  refine TL'.nil (tN ?_)
  rcases Qd h with ⟨ad, h⟩ | ⟨ad, h⟩
  refine Qq rfl ad ?_
  refine T.skip (tN ?_)
  refine T.seq ?_
  refine T.block ?_
  refine T.seq (Qr ?_)
  refine mw rfl ?_
  refine oK rfl ?_
  refine oP Qf0 i28 rfl ?_
  refine oP Uv i26 rfl ?_
  refine oL 1 Us rfl ?_
  refine mw rfl ?_
  obtain ⟨af, ag, h⟩ := bind_some h
  refine sp rfl (Yb (n := 4) (xs := a) (f := Qb) (old := af) rfl (dk rfl) Us i51 rfl rfl rfl ag ?_)
  refine sp rfl (Co rfl (dk rfl) Wi rfl i38 (by decide) rfl ?_)
  refine sp rfl (Hq (i := 4) (xs := a) (f := Qb) (old := af) rfl (dk rfl) Zx rfl rfl rfl (Zu ag).2 rfl ?_)
  refine oU af.R (cI .i64) Zx rfl ?_
  obtain ⟨ai, aj, h⟩ := bind_some h
  refine sp rfl (Q0 rfl (dk rfl) Tryz.func46 rfl rfl (Q5.cons rfl Q5.nil) (Zm.nil (Oa K aj)) ?_)
  refine aw rfl ?_
  refine TL'.nil (tN (T.seq (Qr ?_)))
  refine aw rfl ?_
  refine TL'.nil (tN (T.seq (Qr ?_)))
  refine aw rfl ?_
  refine TL'.nil (tN ?_)
  refine T.seq ?_
  refine T.seq (Qr ?_)
  refine aw rfl ?_
  refine TL'.nil (tN ?_)
  refine T.block ?_
  refine T.loop ?_
  refine Qh (Xy 3 1) ?_
  refine Qh (Xy 55 1) ?_
  refine Qh ?_ (Qdy K (G9 K k) ih K p ai (0:Int) q u v b g w y j a [] [] aa ab ac m w4_1aa (Qf1 18) (Qf1 19) h)
  exact tr rfl (.c (.s (.s .z)) (.c (.s (.s .z)) (.c (.s (.s .z)) (.c (.s (.s .z)) (.c (.s (.s .z)) (.c (.s .z) (.c .z (.n _))))))))
  refine Qp rfl ad ?_
  refine T.exit (Qj (Qj (Qs (tN ?_))))
  refine T.seq (Qr ?_)
  refine mw rfl ?_
  refine oK rfl ?_
  refine oP Qf0 i28 rfl ?_
  refine Hz (Ko 4 rfl) ?_
  refine sp rfl (Zq (Uh (i := 1) (l := ((Zi.dc 256 .u8 b) ++ (([.int .i64 g, .ex m, .ex w4_1aa] : List DC)))) rfl (dk rfl) Uv rfl i28 rfl rfl rfl rfl rfl) (Ye 197 (l := ((Zi.dc 256 .u8 b) ++ (([.int .i64 g, .ex m, .ex w4_1aa] : List DC)))) (l' := ((Zi.dc 256 .u8 b) ++ (([.int .i64 g, .sl false 2 (mA j), .sl false 4 (a.map Qb)] : List DC)))) (.app _ (.cons (.same _) (.cons (.view 3 rfl) (.cons (.view 4 rfl) (.refl _)))))) ?_)
  refine sp rfl (Qy (i := 0) (cells' := ((Zi.oc 256 .u8 b) ++ (([.d (.int .i64 g), .d (.sl false 2 (mA j)), .d (.sl false 4 (a.map Qb))]:List OC)))) rfl rfl i28 rfl rfl rfl rfl (nb rfl) rfl ?_)
  refine aw rfl ?_
  refine TL'.nil (tN ?_)
  refine T.ret ?_
  exact Fin.done (.cons _ _ _ _ (.cellAgg 2 28 _ 0 0 28 _ ((Zi.dc 256 .u8 b) ++ (([.int .i64 g, .sl false 2 (mA j), .sl false 4 (a.map Qb)] : List DC))) _ _ 259 _ rfl rfl rfl rfl Uv rfl i28) (.cons _ _ _ _ (.tmp 3 _ rfl) .nil)) (by cases h; exact ⟨rfl, rfl⟩)
theorem Qd2 {r : Ql × Int} (K : Nat) : ∀ (k : Nat), ∀ (w : Int) (x0 : Zr) (g j : Zi) (a : List Int) (m : List Z5) (y p q : Nat) (b ab : Value), Mp K k w x0 g j a m = some r → TL tp 198 (ca [1,1,1,1,0,1,0,0] Tryz.f20) ⟨[(1, .ptr y 0), (2, .ptr p 0), (4, .ptr q 0), (5, .c (.ex ab)), (6, .int .i64 w)], [.box y 43 [.d (.sl false 1 (mI x0.First)), .d (.sl false 9 (x0.P.map Q1))], (Qh6 p g (0:Int) (.slice none 0 0) (.slice none 0 0)), (Xn q x0.First x0.P b j (0:Int) (.slice none 0 0) (.slice none 0 0) (0:Int)), .arrA b 3 1 (mI a), .arrA ab 63 4 (m.map (Z5.dc .u64))]⟩ (R8 r) := by
 intro k
 induction k with
 | zero =>
  intro w x0 g j a m y p q b ab h
  exact zn h
 | succ k ih =>
  intro w x0 g j a m y p q b ab h
  rw [Mp] at h
  refine Q6 ?_
  refine T.seq ?_
  refine T.seq (Qr ?_)
  refine mw rfl ?_
  refine oP Qhq i41 rfl ?_
  refine oL 0 Tu rfl ?_
  refine oU x0.P Q1 Tu rfl ?_
  refine oI rfl ?_
  refine TL'.nil (tN ?_)
  rcases Qd h with ⟨ac, h⟩ | ⟨ac, h⟩
  refine Qq rfl ac ?_
  refine T.skip (tN ?_)
  refine T.seq ?_
  refine T.block ?_
  refine T.seq (Qr ?_)
  refine mw rfl ?_
  refine oP Qhq i41 rfl ?_
  refine oL 0 Tu rfl ?_
  refine mw rfl ?_
  obtain ⟨aa, ad, h⟩ := bind_some h
  refine oX x0.P Q1 Tu i65 ad rfl ?_
  refine sp rfl (Ur rfl (dk rfl) ul65 rfl i63 (by decide) rfl ?_)
  refine sp rfl (Za rfl (dk rfl) Qhp rfl i63 rfl (nb rfl) ?_)
  refine sp rfl (OpT.buildSlice (elems := ([aa.S] : List Z5).map (Z5.dc .u64)) rfl (dk rfl) ul99 i63 (by decide) rfl (M1 rfl) rfl rfl rfl (Uf rfl) (by decide) ?_)
  obtain ⟨aj, h⟩ := Zf h
  refine sp rfl (Zy (i := 4) (xs := m) (ys := [aa.S]) (f := (Z5.dc .u64)) rfl (dk rfl) ul99 i63 rfl rfl rfl rfl aj (fun al => ?_))
  refine aw rfl ?_
  refine TL'.nil (tN (T.seq (Qr ?_)))
  refine oP Qhq i41 rfl ?_
  refine oL 0 Tu rfl ?_
  refine mw rfl ?_
  refine oX x0.P Q1 Tu i65 ad rfl ?_
  refine sp rfl (Ur rfl (dk rfl) ul65 rfl i3 (by decide) rfl ?_)
  refine oR ul3 rfl ?_
  refine oI rfl ?_
  refine TL'.nil (tN ?_)
  rcases Qd h with ⟨af, h⟩ | ⟨af, h⟩
  cases h
  refine Qp rfl af ?_
  refine Qr ?_
  refine mw rfl ?_
  refine mw rfl ?_
  refine oK rfl ?_
  refine oP Qf0 i38 rfl ?_
  refine oL 2 Zx rfl ?_
  refine sp rfl (OpT.buildSlice (elems := ([(-1:Int)] : List Int).map (cI .i64)) rfl (dk rfl) Zx i3 (by decide) rfl (M1 rfl) rfl rfl rfl (Uf rfl) (by decide) ?_)
  obtain ⟨am, h⟩ := Zf h
  refine sp rfl (Zy (i := 3) (xs := a) (ys := [(-1:Int)]) (f := (cI .i64)) rfl (dk rfl) Zx i3 rfl rfl rfl rfl am (fun ag => ?_))
  refine oK rfl ?_
  refine oP Qf0 i38 rfl ?_
  refine sp rfl (W2 (i := 2) (cells' := (([.d (.sl false 1 (mI x0.First)), .d (.sl false 9 (x0.P.map Q1)), .d (.ex ag)]:List OC) ++ ((Zi.oc 256 .u8 j) ++ (([.d (.int .i64 (0:Int)), .d (.ex (.slice none 0 0)), .d (.ex (.slice none 0 0)), .d (.int .i64 (0:Int))]:List OC))))) rfl rfl i38 rfl rfl rfl (nb rfl) rfl ?_)
  refine TL'.nil (Qn (tN ?_))
  refine Qr ?_
  refine mw rfl ?_
  refine oI rfl ?_
  refine aw rfl ?_
  refine TL'.nil (tN ?_)
  refine Qh ?_ (ih (wI (w + (1:Int))) x0 g j (a ++ [(-1:Int)]) (m ++ [aa.S]) y p q ag al h)
  exact tq rfl rfl
  refine Qp rfl ac ?_
  refine T.exit (Qj (Qj (Qs (tN ?_))))
  refine T.seq (Qr ?_)
  refine mw rfl ?_
  refine mw rfl ?_
  obtain ⟨u, an, h⟩ := bind_some h
  refine sp rfl (Q0 rfl (dk rfl) Tryz.func45 rfl rfl (Q5.view (i := 4) rfl rfl Q5.nil) (Zm.nil (Qha K (flx0 := false) an)) ?_)
  refine oK rfl ?_
  refine oP Qf0 i28 rfl ?_
  refine oP Uv i24 rfl ?_
  refine sp rfl (Qy (i := 2) (cells' := (([.d (.sl false 1 (mI x0.First)), .d (.sl false 9 (x0.P.map Q1)), .d (.ex b)]:List OC) ++ ((Zi.oc 256 .u8 u.Of) ++ (([.d (.int .i64 u.Many), .d (.ex (.slice none 0 0)), .d (.ex (.slice none 0 0)), .d (.int .i64 (0:Int))]:List OC))))) rfl rfl i24 rfl rfl rfl rfl (nb rfl) rfl ?_)
  refine TL'.nil (tN (T.seq (Qr ?_)))
  refine mw rfl ?_
  refine sp rfl (Zq (OpT.build (l := [.ex (.slice none 0 0), .ex (.slice none 0 0), .ex (.slice none 0 0), .ex (.slice none 0 0)]) rfl (dk rfl) (Zv (pl := [(0, 1), (1, 1), (2, 1), (3, 1)]) Wi i51 rfl) (M1 rfl) rfl rfl rfl) (Ye 99 (l := [.ex (.slice none 0 0), .ex (.slice none 0 0), .ex (.slice none 0 0), .ex (.slice none 0 0)]) (l' := [.sl false 1 (([] : List Int).map (cI .i64)), .sl false 1 (([] : List Int).map (cI .i64)), .sl false 1 (([] : List Int).map (cI .i64)), .sl false 1 (([] : List (List Qe)).map (cL 2 Qf))]) (.cons (.nil _ _) (.cons (.nil _ _) (.cons (.nil _ _) (.cons (.nil _ _) (.refl _)))))) ?_)
  refine sp rfl (Ov (elems := ([(Qa.mk [] [] [] [])] : List Qa).map Qb) rfl (dk rfl) Us i51 (by decide) rfl (M1 rfl) rfl rfl rfl (Uf rfl) (by decide) (fun ai => ?_))
  refine oK rfl ?_
  refine oP Qf0 i28 rfl ?_
  refine oP Uv i26 rfl ?_
  refine sp rfl (W2 (i := 3) (cells' := (([.d (.sl false 1 (mI x0.First)), .d (.sl false 9 (x0.P.map Q1)), .d (.ex b)]:List OC) ++ ((Zi.oc 256 .u8 u.Of) ++ (([.d (.int .i64 u.Many), .d (.ex (.slice none 0 0)), .d (.ex (.slice (some ⟨ai, 0, none⟩) 1 1)), .d (.int .i64 (0:Int))]:List OC))))) rfl rfl i26 rfl rfl rfl (nb rfl) rfl ?_)
  refine TL'.nil (tN ?_)
  refine T.seq ?_
  refine T.seq (Qr ?_)
  refine aw rfl ?_
  refine TL'.nil (tN ?_)
  refine T.block ?_
  refine T.loop ?_
  refine Qh (Xy 59 2) ?_
  refine Qh ?_ (Qd0 K K (0:Int) g x0.First x0.P u.Of u.Many (0:Int) a [] [(Qa.mk [] [] [] [])] p q b (Qf1 17) (.slice (some ⟨ai, 0, none⟩) 1 1) h)
  exact tr rfl (.c (.s (.s (.s .z))) (.c (.s (.s (.s .z))) (.c (.s (.s (.s .z))) (.c .z (.c .z (.n _))))))
theorem Qg7 (K : Nat) {x0 : Zr} {r : Ql × Int} (h : P4 K x0 = some r) : Zm tp 20 [.agg [.sl false 1 (mI x0.First), .sl false 9 (x0.P.map Q1)]] [] (.tup [.agg ((Zi.dc 256 .u8 r.1.Split.Of) ++ (([.int .i64 r.1.Split.Many, .sl false 2 (mA r.1.Counts), .sl false 4 (r.1.States.map Qb)] : List DC))), .int .i64 r.2]) := by
 refine Qt Tryz.func20 rfl (nb rfl) ?_
 show T tp 198 (ca [] Tryz.f20) ⟨Qw 0 [.agg [.sl false 1 (mI x0.First), .sl false 9 (x0.P.map Q1)]], []⟩ (Kf r)
 unfold P4 at h
 refine T.seq (Qr ?_)
 refine sp rfl (Zb rfl (dk rfl) rfl (fun b => ?_))
 refine sp rfl (Zh rfl (dk rfl) i28 rfl (fun d => ?_))
 refine aw rfl ?_
 refine TL'.nil (tN ?_)
 refine T.seq ?_
 refine T.seq (Qr ?_)
 refine oA 1 [.sl false 1 (mI x0.First), .sl false 9 (x0.P.map Q1)] Qhq i43 rfl ?_
 obtain ⟨j, f, h⟩ := bind_some h
 refine sp rfl (Q0 rfl (dk rfl) Tryz.func44 rfl rfl (Q5.cons rfl Q5.nil) (Zm.nil (Qd3 K f)) ?_)
 refine oT rfl ?_
 refine TL'.nil (tN ?_)
 rcases Qd h with ⟨a, h⟩ | ⟨a, h⟩
 cases h
 refine Qp rfl a ?_
 refine T.skip (tN ?_)
 refine T.seq (Qr ?_)
 refine oA 1 [.sl false 1 (mI x0.First), .sl false 9 (x0.P.map Q1)] Qhq i43 rfl ?_
 refine sp rfl (OpT.build (l := (([.sl false 1 (mI x0.First), .sl false 9 (x0.P.map Q1), .ex (.slice none 0 0)] : List DC) ++ ((Zi.dc 256 .u8 (Zi.mk fun _ => 0)) ++ (([.int .i64 (0:Int), .ex (.slice none 0 0), .ex (.slice none 0 0), .int .i64 (0:Int)] : List DC))))) rfl (dk rfl) (Zv (pl := [(0, 2), (2, 1), (3, 259), (262, 1)]) Qf0 i98 rfl) (M1 rfl) rfl rfl ?_)
 refine sp rfl (Zb rfl (dk rfl) rfl (fun g => ?_))
 refine aw rfl ?_
 refine TL'.nil (tN (T.seq (Qr ?_)))
 refine aw rfl ?_
 refine TL'.nil (tN ?_)
 refine T.seq ?_
 refine T.seq (Qr ?_)
 refine aw rfl ?_
 refine TL'.nil (tN ?_)
 refine T.block ?_
 refine T.loop ?_
 refine Qh (Xy 63 4) ?_
 refine Qh (Xy 3 1) ?_
 refine Qh ?_ (Qd2 K K (0:Int) x0 (Zi.mk fun _ => 0) (Zi.mk fun _ => 0) [] [] b d g (Qf1 16) (Qf1 15) h)
 exact tr rfl (.c (.s (.s (.s (.s .z)))) (.c (.s (.s (.s .z))) (.c (.s (.s .z)) (.c .z (.c .z (.n _))))))
abbrev Qek (r : Bool) : ES := J9 tp Tryz.f14 (fun y t => y = (.bool r) ∧ t = [.tab 0 Y9])
theorem Qel (K : Nat) {r : Bool} (h : Li K = some r) : Zm tp 14 [] [.tab 0 Y9] (.bool r) := by
 refine Qt Tryz.func14 rfl (nb rfl) ?_
 show T tp 46 (ca [] Tryz.f14) ⟨Qw 0 [], [.tab 0 Y9]⟩ (Qek r)
 unfold Li at h
 refine T.seq (Qr ?_)
 refine aw rfl ?_
 refine TL'.nil (tN (T.seq (Qr ?_)))
 obtain ⟨u, j, h⟩ := bind_some h
 refine sp rfl (Q0 rfl (dk rfl) Tryz.func35 rfl rfl (Q5.cons rfl Q5.nil) (Zm.nil (Qed K j)) ?_)
 refine mw rfl ?_
 refine oE rfl ?_
 refine oE rfl ?_
 refine oE rfl ?_
 refine aw rfl ?_
 refine aw rfl ?_
 refine aw rfl ?_
 refine TL'.nil (tN (T.seq (Qr ?_)))
 refine mw rfl ?_
 obtain ⟨m, n, h⟩ := bind_some h
 refine sp rfl (Q0 rfl (dk rfl) Tryz.func36 rfl rfl (Q5.cons rfl (Q5.cons rfl Q5.nil)) (Zm.nil (Qfe K (flx0 := false) n)) ?_)
 refine mw rfl ?_
 refine oE rfl ?_
 refine oE rfl ?_
 refine aw rfl ?_
 refine aw rfl ?_
 refine TL'.nil (tN (T.seq (Qr ?_)))
 refine mw rfl ?_
 refine sp rfl (OpT.buildSlice (elems := ([m.1] : List (List Q4)).map (cL 9 Qo)) rfl (dk rfl) ul87 i80 (by decide) rfl (M1 rfl) rfl rfl rfl (Uf rfl) (by decide) ?_)
 obtain ⟨g, p, h⟩ := bind_some h
 refine sp rfl (Q0 rfl (dk rfl) Tryz.func37 rfl rfl (Q5.cons rfl Q5.nil) (Zm.nil (Qg8 K (flx0 := true) p)) ?_)
 refine mw rfl ?_
 refine oE rfl ?_
 refine oE rfl ?_
 refine sp rfl (Zh rfl (dk rfl) i43 rfl (fun v => ?_))
 refine sp rfl (Qy (i := 0) (cells' := [.d (.sl false 1 (mI g.1.First)), .d (.sl false 9 (g.1.P.map Q1))]) rfl rfl i43 rfl rfl rfl rfl (nb rfl) rfl ?_)
 refine aw rfl ?_
 refine TL'.nil (tN (T.seq (Qr ?_)))
 refine oA 0 [.sl false 1 (mI g.1.First), .sl false 9 (g.1.P.map Q1)] Qhq i43 rfl ?_
 obtain ⟨b, q, h⟩ := bind_some h
 refine sp rfl (Q0 rfl (dk rfl) Tryz.func20 rfl rfl (Q5.cons rfl Q5.nil) (Zm.nil (Qg7 K q)) ?_)
 refine mw rfl ?_
 refine oE rfl ?_
 refine oE rfl ?_
 refine sp rfl (Zh rfl (dk rfl) i28 rfl (fun w => ?_))
 refine sp rfl (Qy (i := 0) (cells' := ((Zi.oc 256 .u8 b.1.Split.Of) ++ (([.d (.int .i64 b.1.Split.Many), .d (.sl false 2 (mA b.1.Counts)), .d (.sl false 4 (b.1.States.map Qb))]:List OC)))) rfl rfl i28 rfl rfl rfl rfl (nb rfl) rfl ?_)
 refine aw rfl ?_
 refine TL'.nil (tN (T.seq (Qr ?_)))
 refine oA 0 ((Zi.dc 256 .u8 b.1.Split.Of) ++ (([.int .i64 b.1.Split.Many, .sl false 2 (mA b.1.Counts), .sl false 4 (b.1.States.map Qb)] : List DC))) Uv i28 rfl ?_
 obtain ⟨c, s, h⟩ := bind_some h
 refine sp rfl (H9 rfl (dk rfl) Tryz.func10 rfl rfl (Q5.cons rfl Q5.nil) (.tab 2 rfl (.nil)) (Qhr K s) ?_)
 refine mw rfl ?_
 refine oE rfl ?_
 refine oE rfl ?_
 refine sp rfl (Zh rfl (dk rfl) i28 rfl (fun y => ?_))
 refine sp rfl (Qy (i := 0) (cells' := ((Zi.oc 256 .u8 c.1.Split.Of) ++ (([.d (.int .i64 c.1.Split.Many), .d (.sl false 2 (mA c.1.Counts)), .d (.sl false 4 (c.1.States.map Qb))]:List OC)))) rfl rfl i28 rfl rfl rfl rfl (nb rfl) rfl ?_)
 refine aw rfl ?_
 refine TL'.nil (tN (T.seq (Qr ?_)))
 refine mw rfl ?_
 refine oI rfl ?_
 refine mw rfl ?_
 rcases Qd h with ⟨a, h⟩ | ⟨a, h⟩
 refine sn rfl a (Zs rfl (dk rfl) Uv rfl i26 (by decide) rfl ?_)
 refine sn rfl a (Zn (i := 0) rfl (dk rfl) Us rfl rfl rfl rfl ?_)
 refine sn rfl a (Zw (xs := c.1.States) (f := Qb) rfl (dk rfl) Us rfl ?_)
 refine sn rfl a (Zj rfl rfl (dk rfl) rfl rfl ?_)
 refine oY a rfl ?_
 refine aw rfl ?_
 refine TL'.nil (tN ?_)
 refine T.ret ?_
 exact Q7 (.cons _ _ _ _ (.tmp 0 _ rfl) .nil) (.cons 3 rfl (.nil _)) (by cases h; exact ⟨rfl, rfl⟩)
 refine pf rfl a ?_
 refine pf rfl a ?_
 refine pf rfl a ?_
 refine pf rfl a ?_
 refine oZ a rfl ?_
 refine aw rfl ?_
 refine TL'.nil (tN ?_)
 refine T.ret ?_
 exact Q7 (.cons _ _ _ _ (.tmp 0 _ rfl) .nil) (.cons 3 rfl (.nil _)) (by cases h; exact ⟨rfl, rfl⟩)
abbrev Dg (r : Bool) : ES := J9 tp Tryz.f108 (fun y t => y = (.bool r) ∧ t = [])
abbrev Qar (r : Bool) : ES := thenS (fun s' => T tp 26 (ca [1,1,1] Tryz.f108) s' ((Dg r))) ((Dg r))
abbrev R4 (r : Bool) : ES := Qz 0 ((Qar r))
theorem Qb2 {r : Bool} (K : Nat) : ∀ (k : Nat), ∀ (x0 x1 : List Int) (a : Int) (flx0 flx1 : Bool), Vw K k x0 x1 a = some r → TL tp 26 (ca [1,1,0,1,0,0] Tryz.f108) ⟨[(0, .sl flx0 1 (mI x0)), (1, .sl flx1 1 (mI x1)), (5, .int .i64 a)], []⟩ (R4 r) := by
 intro k
 induction k with
 | zero =>
  intro x0 x1 a flx0 flx1 h
  exact zn h
 | succ k ih =>
  intro x0 x1 a flx0 flx1 h
  rw [Vw] at h
  refine Q6 ?_
  refine T.seq ?_
  refine T.seq (Qr ?_)
  refine mw rfl ?_
  refine mw rfl ?_
  refine oU x0 (cI .i64) Zx rfl ?_
  refine oI rfl ?_
  refine TL'.nil (tN ?_)
  rcases Qd h with ⟨g, h⟩ | ⟨g, h⟩
  refine Qq rfl g ?_
  refine T.skip (tN ?_)
  refine T.seq ?_
  refine T.block ?_
  refine T.seq ?_
  refine Yk ?_
  refine dV rfl rfl ?_
  refine dV rfl rfl ?_
  obtain ⟨b, j, h⟩ := bind_some h
  refine dX x0 (cI .i64) rfl (.f rfl) Zx i3 j rfl ?_
  refine dR rfl (.f rfl) ul3 rfl ?_
  refine dV rfl rfl ?_
  refine dV rfl rfl ?_
  obtain ⟨d, l, h⟩ := bind_some h
  refine dX x1 (cI .i64) rfl (.f rfl) Zx i3 l rfl ?_
  refine dR rfl (.f rfl) ul3 rfl ?_
  refine dI rfl (.f rfl) rfl ?_
  refine dF [0,0,3,7,0,0,48,112,255] Q3 rfl (by kernel_rfl) (fun u hu => (tN (Qm hu ?_)))
  rcases Qd h with ⟨i, h⟩ | ⟨i, h⟩
  refine Qq rfl i ?_
  refine T.seq (Qr ?_)
  refine aw rfl ?_
  refine TL'.nil (tN ?_)
  refine T.ret (Q2 (Qv (Qv (Q2 (Qv ?_)))))
  exact fd rfl (by cases h; exact ⟨rfl, rfl⟩)
  refine Qp rfl i ?_
  refine T.skip (Qn (tN ?_))
  refine Qr ?_
  refine mw rfl ?_
  refine oI rfl ?_
  refine aw rfl ?_
  refine TL'.nil (tN ?_)
  refine Qh ?_ (ih x0 x1 (wI (a + (1:Int))) flx0 flx1 h)
  exact tq rfl rfl
  refine Qp rfl g ?_
  refine T.exit (Qj (Qj (Qs (tN ?_))))
  refine T.seq (Qr ?_)
  refine aw rfl ?_
  refine TL'.nil (tN ?_)
  refine T.ret ?_
  exact fd rfl (by cases h; exact ⟨rfl, rfl⟩)
theorem Dh (K : Nat) {x0 x1 : List Int} {flx0 flx1 r : Bool} (h : Jw K x0 x1 = some r) : Zm tp 108 [.sl flx0 1 (mI x0), .sl flx1 1 (mI x1)] [] (.bool r) := by
 refine Qt Tryz.func108 rfl (nb rfl) ?_
 show T tp 26 (ca [] Tryz.f108) ⟨Qw 0 [.sl flx0 1 (mI x0), .sl flx1 1 (mI x1)], []⟩ (Dg r)
 unfold Jw at h
 refine T.seq (Qr ?_)
 refine aw rfl ?_
 refine TL'.nil (tN ?_)
 refine T.seq ?_
 refine T.seq (Qr ?_)
 refine mw rfl ?_
 refine oU x0 (cI .i64) Zx rfl ?_
 refine mw rfl ?_
 refine oU x1 (cI .i64) Zx rfl ?_
 refine oI rfl ?_
 refine TL'.nil (tN ?_)
 rcases Qd h with ⟨a, h⟩ | ⟨a, h⟩
 refine Qq rfl a ?_
 refine T.seq (Qr ?_)
 refine aw rfl ?_
 refine TL'.nil (tN ?_)
 refine T.ret (Qv ?_)
 exact fd rfl (by cases h; exact ⟨rfl, rfl⟩)
 refine Qp rfl a ?_
 refine T.skip (tN ?_)
 refine T.seq ?_
 refine T.seq (Qr ?_)
 refine aw rfl ?_
 refine TL'.nil (tN ?_)
 refine T.block ?_
 refine T.loop ?_
 refine Qh ?_ (Qb2 K K x0 x1 (0:Int) flx0 flx1 h)
 exact tq rfl rfl
abbrev Qam (r : Bool) : ES := J9 tp Tryz.f109 (fun y t => y = (.bool r) ∧ t = [])
theorem Qan (K : Nat) {x0 x1 : Qe} {r : Bool} (h : Gl K x0 x1 = some r) : Zm tp 109 [.agg [.int .i64 x0.To, .sl false 1 (mU x0.Ops)], .agg [.int .i64 x1.To, .sl false 1 (mU x1.Ops)]] [] (.bool r) := by
 refine Qt Tryz.func109 rfl (nb rfl) ?_
 show T tp 19 (ca [] Tryz.f109) ⟨Qw 0 [.agg [.int .i64 x0.To, .sl false 1 (mU x0.Ops)], .agg [.int .i64 x1.To, .sl false 1 (mU x1.Ops)]], []⟩ (Qam r)
 unfold Gl at h
 refine T.seq (Qr ?_)
 refine sp rfl (Zb rfl (dk rfl) rfl (fun b => ?_))
 refine sp rfl (Zb rfl (dk rfl) rfl (fun c => ?_))
 refine aw rfl ?_
 refine TL'.nil (tN (T.seq (Qr ?_)))
 refine oP Cp i3 rfl ?_
 refine oL 1 ul3 rfl ?_
 refine oP Cp i3 rfl ?_
 refine oL 0 ul3 rfl ?_
 refine oI rfl ?_
 refine mw rfl ?_
 rcases Qd h with ⟨a, h⟩ | ⟨a, h⟩
 refine sn rfl a (Zs rfl (dk rfl) Cp rfl i52 (by decide) rfl ?_)
 refine sn rfl a (Zn (i := 1) rfl (dk rfl) C8 rfl rfl rfl rfl ?_)
 refine sn rfl a (Qfy (xs := x0.Ops) rfl (dk rfl) C8 ul5 ul9 rfl ?_)
 refine sn rfl a (Zs rfl (dk rfl) Cp rfl i52 (by decide) rfl ?_)
 refine sn rfl a (Zn (i := 0) rfl (dk rfl) C8 rfl rfl rfl rfl ?_)
 refine sn rfl a (Qfy (xs := x1.Ops) rfl (dk rfl) C8 ul5 ul9 rfl ?_)
 refine sn rfl a (OpT.str_eql rfl (dk rfl) rfl rfl ?_)
 refine oY a rfl ?_
 refine aw rfl ?_
 refine TL'.nil (tN ?_)
 refine T.ret ?_
 exact fd rfl (by cases h; exact ⟨rfl, rfl⟩)
 refine pf rfl a ?_
 refine pf rfl a ?_
 refine pf rfl a ?_
 refine pf rfl a ?_
 refine pf rfl a ?_
 refine pf rfl a ?_
 refine pf rfl a ?_
 refine oZ a rfl ?_
 refine aw rfl ?_
 refine TL'.nil (tN ?_)
 refine T.ret ?_
 exact fd rfl (by cases h; exact ⟨rfl, rfl⟩)
abbrev V7 (r : Bool) : ES := J9 tp Tryz.f68 (fun y t => y = (.bool r) ∧ t = [])
abbrev O4 (r : Bool) : ES := thenS (fun s' => T tp 86 (ca [1,1] Tryz.f68) s' ((V7 r))) ((V7 r))
abbrev N2 (r : Bool) : ES := thenS (fun s' => T tp 86 (ca [1,1,1] Tryz.f68) s' ((V7 r))) ((V7 r))
abbrev Vs (r : Bool) : ES := Qz 0 ((N2 r))
abbrev Kd (r : Bool) : ES := thenS (fun s' => TL tp 86 (ca [1,1,0,1,0,0] Tryz.f68) s' ((Vs r))) ((Vs r))
abbrev D4 (r : Bool) : ES := thenS (fun s' => T tp 86 (ca [1,1,0,1,0,0,1,1] Tryz.f68) s' ((Kd r))) ((Kd r))
abbrev Bl (r : Bool) : ES := Qz 1 ((D4 r))
abbrev Mn (r : Bool) : ES := Qz 2 ((Bl r))
theorem Uy {r : Bool} (K : Nat) (h : Xo K = some r) : T tp 86 (ca [1,0,1,0] Tryz.f68) ⟨[], []⟩ (O4 r) := by
 unfold Xo at h
 refine T.seq (Qr ?_)
 refine aw rfl ?_
 refine TL'.nil (tN ?_)
 refine T.ret (Qv ?_)
 exact fd rfl (by cases h; exact ⟨rfl, rfl⟩)
abbrev O7 (r : Bool) (go : Int → Qa → Qa → Option Bool) : Prop := ∀ (a : Int) (x0 x1 : Qa) (b c : Nat), go a x0 x1 = some r → TL tp 86 (ca [1,1,0,1,0,0] Tryz.f68) ⟨[(2, .ptr b 0), (3, .ptr c 0), (5, .int .i64 a)], [(Jz b x0.L x0.R x0.Rule x0.Next), (Jz c x1.L x1.R x1.Rule x1.Next)]⟩ (Vs r)
theorem O5 {r : Bool} (K : Nat) (go1 : Int → Qa → Qa → Option Bool) (hgo1 : O7 r go1) : ∀ (k : Nat), ∀ (g m : Int) (x0 x1 : Qa) (a b : Nat), Yz K go1 k g m x0 x1 = some r → TL tp 86 (ca [1,1,0,1,0,0,1,0,0,1,1,0,0] Tryz.f68) ⟨[(2, .ptr a 0), (3, .ptr b 0), (5, .int .i64 g), (6, .int .i64 m)], [(Jz a x0.L x0.R x0.Rule x0.Next), (Jz b x1.L x1.R x1.Rule x1.Next)]⟩ (Mn r) := by
 intro k
 induction k with
 | zero =>
  intro g m x0 x1 a b h
  exact zn h
 | succ k ih =>
  intro g m x0 x1 a b h
  rw [Yz] at h
  refine Q6 ?_
  refine T.seq ?_
  refine T.seq (Qr ?_)
  refine mw rfl ?_
  refine oP Wi i49 rfl ?_
  refine oL 0 Fp rfl ?_
  refine mw rfl ?_
  obtain ⟨p, aa, h⟩ := bind_some h
  refine oX x0.Next (cL 2 Qf) Fp i55 aa rfl ?_
  refine oR Fq rfl ?_
  refine oU p Qf Fq rfl ?_
  refine oI rfl ?_
  refine TL'.nil (tN ?_)
  rcases Qd h with ⟨w, h⟩ | ⟨w, h⟩
  refine Qq rfl w ?_
  refine T.skip (tN ?_)
  refine T.seq ?_
  refine T.block ?_
  refine T.seq ?_
  refine Yk ?_
  refine dP rfl (.f rfl) Wi i49 rfl ?_
  refine dL 0 rfl (.f rfl) Fp rfl ?_
  refine dV rfl rfl ?_
  refine dX x0.Next (cL 2 Qf) rfl (.f rfl) Fp i55 aa rfl ?_
  refine dR rfl (.f rfl) Fq rfl ?_
  refine dV rfl rfl ?_
  obtain ⟨j, ab, h⟩ := bind_some h
  refine dX p Qf rfl (.f rfl) Fq i54 ab rfl ?_
  refine dS (c := ⟨some 75, .agg [.int .i64 j.To, .sl false 1 (mU j.Ops)], [(74, .ref [.int .i64 j.To, .sl false 1 (mU j.Ops)])], [], []⟩) (fun t hm => oF rfl rfl (Za rfl (dk rfl) Cp rfl i54 hm.s0 (nb rfl) rfl)) rfl rfl ?_
  refine dP rfl (.f rfl) Wi i49 rfl ?_
  refine dL 1 rfl (.f rfl) Fp rfl ?_
  refine dV rfl rfl ?_
  obtain ⟨q, ac, h⟩ := bind_some h
  refine dX x1.Next (cL 2 Qf) rfl (.f rfl) Fp i55 ac rfl ?_
  refine dR rfl (.f rfl) Fq rfl ?_
  refine dV rfl rfl ?_
  obtain ⟨l, ad, h⟩ := bind_some h
  refine dX q Qf rfl (.f rfl) Fq i54 ad rfl ?_
  refine dS (c := ⟨some 83, .agg [.int .i64 l.To, .sl false 1 (mU l.Ops)], [(82, .ref [.int .i64 l.To, .sl false 1 (mU l.Ops)])], [], []⟩) (fun t hm => oF rfl rfl (Za rfl (dk rfl) Cp rfl i54 hm.s0 (nb rfl) rfl)) rfl rfl ?_
  obtain ⟨s, af, h⟩ := bind_some h
  refine dS (c := ⟨some 84, .bool s, [(75, .agg [.int .i64 j.To, .sl false 1 (mU j.Ops)]), (83, .agg [.int .i64 l.To, .sl false 1 (mU l.Ops)])], [], []⟩) (fun t hm => oF rfl rfl (Q0 rfl (dk rfl) Tryz.func109 rfl rfl (Q5.cons hm.s0 (Q5.cons hm.s1 Q5.nil)) (Zm.nil (Qan K af)) rfl)) rfl rfl ?_
  refine dS (c := ⟨some 85, .bool (!s), [(84, .bool s)], [], []⟩) (fun t hm => oF rfl rfl (OpT.not rfl (dk rfl) hm.s0 rfl)) rfl rfl ?_
  refine dF [0,1,0,7,15,0,63,127,0,256,0,1792,3840,0,16128,32512,65535,131071] Q3 rfl (by kernel_rfl) (fun u hu => (tN (Qm hu ?_)))
  rcases Qd h with ⟨y, h⟩ | ⟨y, h⟩
  refine Qq rfl y ?_
  refine T.seq (Qr ?_)
  refine aw rfl ?_
  refine TL'.nil (tN ?_)
  refine T.ret (Q2 (Qv (Qv (Q2 (Q2 (Qv (Qv (Q2 (Qv ?_)))))))))
  exact fd rfl (by cases h; exact ⟨rfl, rfl⟩)
  refine Qp rfl y ?_
  refine T.skip (Qn (tN ?_))
  refine Qr ?_
  refine mw rfl ?_
  refine oI rfl ?_
  refine aw rfl ?_
  refine TL'.nil (tN ?_)
  refine Qh ?_ (ih g (wI (m + (1:Int))) x0 x1 a b h)
  exact tq rfl rfl
  refine Qp rfl w ?_
  refine T.exit (Qj (Qj (Qs (Qn (tN ?_)))))
  refine Qr ?_
  refine mw rfl ?_
  refine oI rfl ?_
  refine aw rfl ?_
  refine TL'.nil (tN ?_)
  refine Qh ?_ (hgo1 (wI (g + (1:Int))) x0 x1 a b h)
  exact tq rfl rfl
theorem O6 {r : Bool} (K : Nat) : ∀ (k : Nat), ∀ (l : Int) (x0 x1 : Qa) (a b : Nat), Yc K k l x0 x1 = some r → TL tp 86 (ca [1,1,0,1,0,0] Tryz.f68) ⟨[(2, .ptr a 0), (3, .ptr b 0), (5, .int .i64 l)], [(Jz a x0.L x0.R x0.Rule x0.Next), (Jz b x1.L x1.R x1.Rule x1.Next)]⟩ (Vs r) := by
 intro k
 induction k with
 | zero =>
  intro l x0 x1 a b h
  exact zn h
 | succ k ih =>
  intro l x0 x1 a b h
  rw [Yc] at h
  refine Q6 ?_
  refine T.seq ?_
  refine T.seq (Qr ?_)
  refine mw rfl ?_
  refine oP Wi i49 rfl ?_
  refine oL 0 Fp rfl ?_
  refine oU x0.Next (cL 2 Qf) Fp rfl ?_
  refine oI rfl ?_
  refine TL'.nil (tN ?_)
  rcases Qd h with ⟨m, h⟩ | ⟨m, h⟩
  refine Qq rfl m ?_
  refine T.skip (tN ?_)
  refine T.seq ?_
  refine T.block ?_
  refine T.seq ?_
  refine T.seq ?_
  refine Yk ?_
  refine dP rfl (.f rfl) Wi i49 rfl ?_
  refine dL 0 rfl (.f rfl) Fp rfl ?_
  refine dV rfl rfl ?_
  obtain ⟨g, q, h⟩ := bind_some h
  refine dX x0.Next (cL 2 Qf) rfl (.f rfl) Fp i55 q rfl ?_
  refine dR rfl (.f rfl) Fq rfl ?_
  refine dN g Qf rfl (.f rfl) Fq rfl ?_
  refine dP rfl (.f rfl) Wi i49 rfl ?_
  refine dL 1 rfl (.f rfl) Fp rfl ?_
  refine dV rfl rfl ?_
  obtain ⟨j, s, h⟩ := bind_some h
  refine dX x1.Next (cL 2 Qf) rfl (.f rfl) Fp i55 s rfl ?_
  refine dR rfl (.f rfl) Fq rfl ?_
  refine dN j Qf rfl (.f rfl) Fq rfl ?_
  refine dI rfl (.f rfl) rfl ?_
  refine dF [0,1,0,7,15,31,0,64,0,448,960,1984,4095] Q3 rfl (by kernel_rfl) (fun u hu => (tN (Qm hu ?_)))
  rcases Qd h with ⟨p, h⟩ | ⟨p, h⟩
  refine Qq rfl p ?_
  refine T.seq (Qr ?_)
  refine aw rfl ?_
  refine TL'.nil (tN ?_)
  refine T.ret (Qv (Q2 (Qv (Qv (Q2 (Qv ?_))))))
  exact fd rfl (by cases h; exact ⟨rfl, rfl⟩)
  refine Qp rfl p ?_
  refine T.skip (tN ?_)
  refine T.seq (Qr ?_)
  refine aw rfl ?_
  refine TL'.nil (tN ?_)
  refine T.block ?_
  refine T.loop ?_
  refine Qh ?_ (O5 K (Yc K k) ih K l (0:Int) x0 x1 a b h)
  exact tq rfl rfl
  refine Qp rfl m ?_
  refine T.exit (Qj (Qj (Qs (tN ?_))))
  refine T.seq (Qr ?_)
  refine aw rfl ?_
  refine TL'.nil (tN ?_)
  refine T.ret ?_
  exact fd rfl (by cases h; exact ⟨rfl, rfl⟩)
theorem S7 (K : Nat) {x0 x1 : Qa} {r : Bool} (h : Jk K x0 x1 = some r) : Zm tp 68 [.agg [.sl false 1 (mI x0.L), .sl false 1 (mI x0.R), .sl false 1 (mI x0.Rule), .sl false 1 (x0.Next.map (cL 2 Qf))], .agg [.sl false 1 (mI x1.L), .sl false 1 (mI x1.R), .sl false 1 (mI x1.Rule), .sl false 1 (x1.Next.map (cL 2 Qf))]] [] (.bool r) := by
 refine Qt Tryz.func68 rfl (nb rfl) ?_
 show T tp 86 (ca [] Tryz.f68) ⟨Qw 0 [.agg [.sl false 1 (mI x0.L), .sl false 1 (mI x0.R), .sl false 1 (mI x0.Rule), .sl false 1 (x0.Next.map (cL 2 Qf))], .agg [.sl false 1 (mI x1.L), .sl false 1 (mI x1.R), .sl false 1 (mI x1.Rule), .sl false 1 (x1.Next.map (cL 2 Qf))]], []⟩ (V7 r)
 unfold Jk at h
 refine T.seq (Qr ?_)
 refine sp rfl (Zb rfl (dk rfl) rfl (fun j => ?_))
 refine sp rfl (Zb rfl (dk rfl) rfl (fun l => ?_))
 refine aw rfl ?_
 refine TL'.nil (tN ?_)
 refine T.seq ?_
 refine T.seq (Qr ?_)
 refine oP Wi i38 rfl ?_
 refine oL 1 Zx rfl ?_
 refine oP Wi i38 rfl ?_
 refine oL 0 Zx rfl ?_
 obtain ⟨u, m, h⟩ := bind_some h
 refine sp rfl (Q0 rfl (dk rfl) Tryz.func108 rfl rfl (Q5.cons rfl (Q5.cons rfl Q5.nil)) (Zm.nil (Dh K (flx0 := false) (flx1 := false) m)) ?_)
 refine oT rfl ?_
 refine mw rfl ?_
 rcases Qd h with ⟨b, h⟩ | ⟨b, h⟩
 refine pf rfl b ?_
 refine pf rfl b ?_
 refine pf rfl b ?_
 refine pf rfl b ?_
 refine pf rfl b ?_
 refine pf rfl b ?_
 refine oY b rfl ?_
 refine mw rfl ?_
 refine pf rfl rfl ?_
 refine pf rfl rfl ?_
 refine pf rfl rfl ?_
 refine pf rfl rfl ?_
 refine pf rfl rfl ?_
 refine pf rfl rfl ?_
 refine oY rfl rfl ?_
 refine mw rfl ?_
 refine pf rfl rfl ?_
 refine pf rfl rfl ?_
 refine pf rfl rfl ?_
 refine pf rfl rfl ?_
 refine pf rfl rfl ?_
 refine pf rfl rfl ?_
 refine pf rfl rfl ?_
 refine oY rfl rfl ?_
 refine TL'.nil (tN ?_)
 refine Qq rfl rfl ?_
 refine Qm ?_ (Uy K h)
 exact tq rfl rfl
 refine sn rfl b (Zs rfl (dk rfl) Wi rfl i38 (by decide) rfl ?_)
 refine sn rfl b (Zn (i := 1) rfl (dk rfl) Zx rfl rfl rfl rfl ?_)
 refine sn rfl b (Zs rfl (dk rfl) Wi rfl i38 (by decide) rfl ?_)
 refine sn rfl b (Zn (i := 0) rfl (dk rfl) Zx rfl rfl rfl rfl ?_)
 obtain ⟨v, p, h⟩ := bind_some h
 refine sn rfl b (Q0 rfl (dk rfl) Tryz.func108 rfl rfl (Q5.cons rfl (Q5.cons rfl Q5.nil)) (Zm.nil (Dh K (flx0 := false) (flx1 := false) p)) ?_)
 refine sn rfl b (OpT.not rfl (dk rfl) rfl ?_)
 refine oZ b rfl ?_
 refine mw rfl ?_
 rcases Qd h with ⟨d, h⟩ | ⟨d, h⟩
 refine pf rfl d ?_
 refine pf rfl d ?_
 refine pf rfl d ?_
 refine pf rfl d ?_
 refine pf rfl d ?_
 refine pf rfl d ?_
 refine oY d rfl ?_
 refine mw rfl ?_
 refine pf rfl rfl ?_
 refine pf rfl rfl ?_
 refine pf rfl rfl ?_
 refine pf rfl rfl ?_
 refine pf rfl rfl ?_
 refine pf rfl rfl ?_
 refine pf rfl rfl ?_
 refine oY rfl rfl ?_
 refine TL'.nil (tN ?_)
 refine Qq rfl rfl ?_
 refine Qm ?_ (Uy K h)
 exact tq rfl rfl
 refine sn rfl d (Zs rfl (dk rfl) Wi rfl i38 (by decide) rfl ?_)
 refine sn rfl d (Zn (i := 1) rfl (dk rfl) Zx rfl rfl rfl rfl ?_)
 refine sn rfl d (Zs rfl (dk rfl) Wi rfl i38 (by decide) rfl ?_)
 refine sn rfl d (Zn (i := 0) rfl (dk rfl) Zx rfl rfl rfl rfl ?_)
 obtain ⟨w, q, h⟩ := bind_some h
 refine sn rfl d (Q0 rfl (dk rfl) Tryz.func108 rfl rfl (Q5.cons rfl (Q5.cons rfl Q5.nil)) (Zm.nil (Dh K (flx0 := false) (flx1 := false) q)) ?_)
 refine sn rfl d (OpT.not rfl (dk rfl) rfl ?_)
 refine oZ d rfl ?_
 refine mw rfl ?_
 rcases Qd h with ⟨a, h⟩ | ⟨a, h⟩
 refine pf rfl a ?_
 refine pf rfl a ?_
 refine pf rfl a ?_
 refine pf rfl a ?_
 refine pf rfl a ?_
 refine pf rfl a ?_
 refine pf rfl a ?_
 refine oY a rfl ?_
 refine TL'.nil (tN ?_)
 refine Qq rfl rfl ?_
 refine Qm ?_ (Uy K h)
 exact tq rfl rfl
 refine sn rfl a (Zs rfl (dk rfl) Wi rfl i49 (by decide) rfl ?_)
 refine sn rfl a (Zn (i := 1) rfl (dk rfl) Fp rfl rfl rfl rfl ?_)
 refine sn rfl a (Zw (xs := x0.Next) (f := (cL 2 Qf)) rfl (dk rfl) Fp rfl ?_)
 refine sn rfl a (Zs rfl (dk rfl) Wi rfl i49 (by decide) rfl ?_)
 refine sn rfl a (Zn (i := 0) rfl (dk rfl) Fp rfl rfl rfl rfl ?_)
 refine sn rfl a (Zw (xs := x1.Next) (f := (cL 2 Qf)) rfl (dk rfl) Fp rfl ?_)
 refine sn rfl a (Zj rfl rfl (dk rfl) rfl rfl ?_)
 refine oZ a rfl ?_
 refine TL'.nil (tN ?_)
 rcases Qd h with ⟨g, h⟩ | ⟨g, h⟩
 refine Qq rfl g ?_
 refine Qm ?_ (Uy K h)
 exact tq rfl rfl
 refine Qp rfl g ?_
 refine T.skip (tN ?_)
 refine T.seq ?_
 refine T.seq (Qr ?_)
 refine aw rfl ?_
 refine TL'.nil (tN ?_)
 refine T.block ?_
 refine T.loop ?_
 refine Qh ?_ (O6 K K (0:Int) x0 x1 j l h)
 exact tr rfl (.c (.s .z) (.c .z (.n _)))
abbrev V4 (r : Bool) : ES := J9 tp Tryz.f38 (fun y t => y = (.bool r) ∧ t = [])
abbrev N7 (r : Bool) : ES := thenS (fun s' => T tp 48 (ca [1,1] Tryz.f38) s' ((V4 r))) ((V4 r))
abbrev I6 (r : Bool) : ES := thenS (fun s' => T tp 48 (ca [1,1,1] Tryz.f38) s' ((V4 r))) ((V4 r))
abbrev Ff (r : Bool) : ES := Qz 0 ((I6 r))
theorem Wu {r : Bool} (K : Nat) (h : Vq K = some r) : T tp 48 (ca [1,0,1,0] Tryz.f38) ⟨[], []⟩ (N7 r) := by
 unfold Vq at h
 refine T.seq (Qr ?_)
 refine aw rfl ?_
 refine TL'.nil (tN ?_)
 refine T.ret (Qv ?_)
 exact fd rfl (by cases h; exact ⟨rfl, rfl⟩)
theorem N8 {r : Bool} (K : Nat) : ∀ (k : Nat), ∀ (l : Int) (x0 x1 : Ql) (g j : Nat), Ys K k l x0 x1 = some r → TL tp 48 (ca [1,1,0,1,0,0] Tryz.f38) ⟨[(2, .ptr g 0), (3, .ptr j 0), (5, .int .i64 l)], [(Qbg g x0.Split.Of x0.Split.Many x0.Counts x0.States), (Qbg j x1.Split.Of x1.Split.Many x1.Counts x1.States)]⟩ (Ff r) := by
 intro k
 induction k with
 | zero =>
  intro l x0 x1 g j h
  exact zn h
 | succ k ih =>
  intro l x0 x1 g j h
  rw [Ys] at h
  refine Q6 ?_
  refine T.seq ?_
  refine T.seq (Qr ?_)
  refine mw rfl ?_
  refine oP Uv i26 rfl ?_
  refine oL 0 Us rfl ?_
  refine oU x0.States Qb Us rfl ?_
  refine oI rfl ?_
  refine TL'.nil (tN ?_)
  rcases Qd h with ⟨p, h⟩ | ⟨p, h⟩
  refine Qq rfl p ?_
  refine T.skip (tN ?_)
  refine T.seq ?_
  refine T.block ?_
  refine T.seq ?_
  refine Yk ?_
  refine dP rfl (.f rfl) Uv i26 rfl ?_
  refine dL 0 rfl (.f rfl) Us rfl ?_
  refine dV rfl rfl ?_
  obtain ⟨a, s, h⟩ := bind_some h
  refine dX x0.States Qb rfl (.f rfl) Us i51 s rfl ?_
  refine dS (c := ⟨some 40, .agg [.sl false 1 (mI a.L), .sl false 1 (mI a.R), .sl false 1 (mI a.Rule), .sl false 1 (a.Next.map (cL 2 Qf))], [(39, .ref [.sl false 1 (mI a.L), .sl false 1 (mI a.R), .sl false 1 (mI a.Rule), .sl false 1 (a.Next.map (cL 2 Qf))])], [], []⟩) (fun t hm => oF rfl rfl (Za rfl (dk rfl) Wi rfl i51 hm.s0 (nb rfl) rfl)) rfl rfl ?_
  refine dP rfl (.f rfl) Uv i26 rfl ?_
  refine dL 1 rfl (.f rfl) Us rfl ?_
  refine dV rfl rfl ?_
  obtain ⟨b, w, h⟩ := bind_some h
  refine dX x1.States Qb rfl (.f rfl) Us i51 w rfl ?_
  refine dS (c := ⟨some 45, .agg [.sl false 1 (mI b.L), .sl false 1 (mI b.R), .sl false 1 (mI b.Rule), .sl false 1 (b.Next.map (cL 2 Qf))], [(44, .ref [.sl false 1 (mI b.L), .sl false 1 (mI b.R), .sl false 1 (mI b.Rule), .sl false 1 (b.Next.map (cL 2 Qf))])], [], []⟩) (fun t hm => oF rfl rfl (Za rfl (dk rfl) Wi rfl i51 hm.s0 (nb rfl) rfl)) rfl rfl ?_
  obtain ⟨m, y, h⟩ := bind_some h
  refine dS (c := ⟨some 46, .bool m, [(40, .agg [.sl false 1 (mI a.L), .sl false 1 (mI a.R), .sl false 1 (mI a.Rule), .sl false 1 (a.Next.map (cL 2 Qf))]), (45, .agg [.sl false 1 (mI b.L), .sl false 1 (mI b.R), .sl false 1 (mI b.Rule), .sl false 1 (b.Next.map (cL 2 Qf))])], [], []⟩) (fun t hm => oF rfl rfl (Q0 rfl (dk rfl) Tryz.func68 rfl rfl (Q5.cons hm.s0 (Q5.cons hm.s1 Q5.nil)) (Zm.nil (S7 K y)) rfl)) rfl rfl ?_
  refine dS (c := ⟨some 47, .bool (!m), [(46, .bool m)], [], []⟩) (fun t hm => oF rfl rfl (OpT.not rfl (dk rfl) hm.s0 rfl)) rfl rfl ?_
  refine dF [0,1,0,7,15,0,32,0,224,480,1023,2047] Q3 rfl (by kernel_rfl) (fun u hu => (tN (Qm hu ?_)))
  rcases Qd h with ⟨q, h⟩ | ⟨q, h⟩
  refine Qq rfl q ?_
  refine T.seq (Qr ?_)
  refine aw rfl ?_
  refine TL'.nil (tN ?_)
  refine T.ret (Q2 (Qv (Qv (Q2 (Qv ?_)))))
  exact fd rfl (by cases h; exact ⟨rfl, rfl⟩)
  refine Qp rfl q ?_
  refine T.skip (Qn (tN ?_))
  refine Qr ?_
  refine mw rfl ?_
  refine oI rfl ?_
  refine aw rfl ?_
  refine TL'.nil (tN ?_)
  refine Qh ?_ (ih (wI (l + (1:Int))) x0 x1 g j h)
  exact tq rfl rfl
  refine Qp rfl p ?_
  refine T.exit (Qj (Qj (Qs (tN ?_))))
  refine T.seq (Qr ?_)
  refine aw rfl ?_
  refine TL'.nil (tN ?_)
  refine T.ret ?_
  exact fd rfl (by cases h; exact ⟨rfl, rfl⟩)
theorem R6 (K : Nat) {x0 x1 : Ql} {r : Bool} (h : W5 K x0 x1 = some r) : Zm tp 38 [.agg ((Zi.dc 256 .u8 x0.Split.Of) ++ (([.int .i64 x0.Split.Many, .sl false 2 (mA x0.Counts), .sl false 4 (x0.States.map Qb)] : List DC))), .agg ((Zi.dc 256 .u8 x1.Split.Of) ++ (([.int .i64 x1.Split.Many, .sl false 2 (mA x1.Counts), .sl false 4 (x1.States.map Qb)] : List DC)))] [] (.bool r) := by
 refine Qt Tryz.func38 rfl (nb rfl) ?_
 show T tp 48 (ca [] Tryz.f38) ⟨Qw 0 [.agg ((Zi.dc 256 .u8 x0.Split.Of) ++ (([.int .i64 x0.Split.Many, .sl false 2 (mA x0.Counts), .sl false 4 (x0.States.map Qb)] : List DC))), .agg ((Zi.dc 256 .u8 x1.Split.Of) ++ (([.int .i64 x1.Split.Many, .sl false 2 (mA x1.Counts), .sl false 4 (x1.States.map Qb)] : List DC)))], []⟩ (V4 r)
 unfold W5 at h
 refine T.seq (Qr ?_)
 refine sp rfl (Zb rfl (dk rfl) rfl (fun g => ?_))
 refine sp rfl (Zb rfl (dk rfl) rfl (fun j => ?_))
 refine aw rfl ?_
 refine TL'.nil (tN ?_)
 refine T.seq ?_
 refine T.seq (Qr ?_)
 refine oP Uv i24 rfl ?_
 refine oA 1 ((Zi.dc 256 .u8 x0.Split.Of) ++ (([.int .i64 x0.Split.Many] : List DC))) Qhi i24 rfl ?_
 refine oP Uv i24 rfl ?_
 refine oA 0 ((Zi.dc 256 .u8 x1.Split.Of) ++ (([.int .i64 x1.Split.Many] : List DC))) Qhi i24 rfl ?_
 refine sp rfl (OpT.segsNeq (ms := [256, 1]) (us := [(.u8, Zi.list 256 x0.Split.Of), (.i64, [x0.Split.Many])]) (ys := [(.u8, Zi.list 256 x1.Split.Of), (.i64, [x1.Split.Many])]) rfl (dk rfl) Qhi Tryz.stoodInHeld24 (by kernel_rfl) Tryz.eqGuardType24 rfl rfl (.arr (.one (.nil))) (.arr (.one (.nil))) (by simp [Zi.list]) (by simp [Zi.list]) rfl rfl ?_)
 refine mw rfl ?_
 rcases Qd h with ⟨a, h⟩ | ⟨a, h⟩
 refine pf rfl a ?_
 refine pf rfl a ?_
 refine pf rfl a ?_
 refine pf rfl a ?_
 refine pf rfl a ?_
 refine pf rfl a ?_
 refine pf rfl a ?_
 refine oY a rfl ?_
 refine mw rfl ?_
 refine pf rfl rfl ?_
 refine pf rfl rfl ?_
 refine pf rfl rfl ?_
 refine pf rfl rfl ?_
 refine pf rfl rfl ?_
 refine pf rfl rfl ?_
 refine pf rfl rfl ?_
 refine oY rfl rfl ?_
 refine TL'.nil (tN ?_)
 refine Qq rfl rfl ?_
 refine Qm ?_ (Wu K h)
 exact tq rfl rfl
 refine sn rfl a (Zs rfl (dk rfl) Uv rfl i26 (by decide) rfl ?_)
 refine sn rfl a (Zn (i := 1) rfl (dk rfl) Us rfl rfl rfl rfl ?_)
 refine sn rfl a (Zw (xs := x0.States) (f := Qb) rfl (dk rfl) Us rfl ?_)
 refine sn rfl a (Zs rfl (dk rfl) Uv rfl i26 (by decide) rfl ?_)
 refine sn rfl a (Zn (i := 0) rfl (dk rfl) Us rfl rfl rfl rfl ?_)
 refine sn rfl a (Zw (xs := x1.States) (f := Qb) rfl (dk rfl) Us rfl ?_)
 refine sn rfl a (Zj rfl rfl (dk rfl) rfl rfl ?_)
 refine oZ a rfl ?_
 refine mw rfl ?_
 rcases Qd h with ⟨b, h⟩ | ⟨b, h⟩
 refine pf rfl b ?_
 refine pf rfl b ?_
 refine pf rfl b ?_
 refine pf rfl b ?_
 refine pf rfl b ?_
 refine pf rfl b ?_
 refine pf rfl b ?_
 refine oY b rfl ?_
 refine TL'.nil (tN ?_)
 refine Qq rfl rfl ?_
 refine Qm ?_ (Wu K h)
 exact tq rfl rfl
 refine sn rfl b (Zs rfl (dk rfl) Uv rfl i25 (by decide) rfl ?_)
 refine sn rfl b (Zn (i := 1) rfl (dk rfl) Qcw rfl rfl rfl rfl ?_)
 refine sn rfl b (Zw (xs := x0.Counts) (f := (Vr.dc .i64)) rfl (dk rfl) Qcw rfl ?_)
 refine sn rfl b (Zs rfl (dk rfl) Uv rfl i25 (by decide) rfl ?_)
 refine sn rfl b (Zn (i := 0) rfl (dk rfl) Qcw rfl rfl rfl rfl ?_)
 refine sn rfl b (Zw (xs := x1.Counts) (f := (Vr.dc .i64)) rfl (dk rfl) Qcw rfl ?_)
 refine sn rfl b (Zj rfl rfl (dk rfl) rfl rfl ?_)
 refine oZ b rfl ?_
 refine TL'.nil (tN ?_)
 rcases Qd h with ⟨d, h⟩ | ⟨d, h⟩
 refine Qq rfl d ?_
 refine Qm ?_ (Wu K h)
 exact tq rfl rfl
 refine Qp rfl d ?_
 refine T.skip (tN ?_)
 refine T.seq ?_
 refine T.seq (Qr ?_)
 refine aw rfl ?_
 refine TL'.nil (tN ?_)
 refine T.block ?_
 refine T.loop ?_
 refine Qh ?_ (N8 K K (0:Int) x0 x1 g j h)
 exact tr rfl (.c (.s .z) (.c .z (.n _)))
end Go.Rv

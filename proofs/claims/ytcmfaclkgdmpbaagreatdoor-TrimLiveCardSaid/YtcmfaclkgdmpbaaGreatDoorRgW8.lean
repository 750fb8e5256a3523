/- Each function computes what its plain text says: printed by a program of ours. -/
import Derived.Test.YtcmfaclkgdmpbaaGreatDoorRgW7
namespace Go.Rv
open Go.Proofs
set_option maxRecDepth 100000
set_option maxHeartbeats 4000000
set_option linter.unusedVariables false
abbrev Cz (r : List Int) : ES := Wb tp Tryz.f114 (fun y t => y = (.sl false 1 (mU r)) ∧ t = [])
abbrev T0 (r : List Int) : ES := thenS (fun s' => T tp 19 (ca [1,1,1] Tryz.f114) s' ((Cz r))) ((Cz r))
abbrev P9 (r : List Int) : ES := Qz 0 ((T0 r))
theorem Qav {r : List Int} (K : Nat) : ∀ (k : Nat), ∀ (a : Int) (x0 : Z4) (b : List Int) (d : Nat) (g : Value), Wg K k a x0 b = some r → TL tp 19 (ca [1,1,0,1,0,0] Tryz.f114) ⟨[(1, .ptr d 0), (3, .c (.ex g)), (4, .int .i64 a)], [.box d 63 (Z4.oc .u64 x0), .arrA g 5 1 (mU b)]⟩ (P9 r) := by
 intro k
 induction k with
 | zero =>
  intro a x0 b d g h
  exact zn h
 | succ k ih =>
  intro a x0 b d g h
  rw [Wg] at h
  refine Q6 ?_
  refine T.seq ?_
  refine T.seq (Qq ?_)
  refine mw rfl ?_
  refine oI rfl ?_
  refine TL'.nil (tN ?_)
  rcases Qe h with ⟨j, h⟩ | ⟨j, h⟩
  refine Qr rfl j ?_
  refine T.skip (tN ?_)
  refine T.seq ?_
  refine T.block ?_
  refine T.seq (Qq ?_)
  refine oA 0 (Z4.dc .u64 x0) Qfx i63 rfl ?_
  refine mw rfl ?_
  refine sp rfl (Vq rfl (dk rfl) ul3 ul5 rfl ?_)
  obtain ⟨u, p, h⟩ := bind_some h
  refine sp rfl (Q1 rfl (dk rfl) Tryz.func81 rfl rfl (Q7.cons rfl (Q7.cons rfl Q7.nil)) (Zn.nil (G1 K p)) ?_)
  refine TL'.nil (tN ?_)
  rcases Qe h with ⟨m, h⟩ | ⟨m, h⟩
  refine Qr rfl m ?_
  refine Qq ?_
  refine mw rfl ?_
  refine mw rfl ?_
  refine sp rfl (Vq rfl (dk rfl) ul3 ul5 rfl ?_)
  refine sp rfl (OpT.buildSlice (elems := ([(IntKind.u8.wrap a)] : List Int).map (cI .u8)) rfl (dk rfl) Dp i5 (by decide) rfl (Mi rfl) rfl rfl rfl (V4 rfl) (by decide) ?_)
  obtain ⟨q, h⟩ := Zc h
  refine sp rfl (Zv (i := 1) (xs := b) (ys := [(IntKind.u8.wrap a)]) (f := (cI .u8)) rfl (dk rfl) Dp i5 rfl rfl rfl rfl q (fun s => ?_))
  refine aw rfl ?_
  refine TL'.nil (Ql (tN ?_))
  refine Qq ?_
  refine mw rfl ?_
  refine oI rfl ?_
  refine aw rfl ?_
  refine TL'.nil (tN ?_)
  refine Qh ?_ (ih (wI (a + (1:Int))) x0 (b ++ [(IntKind.u8.wrap a)]) d s h)
  exact tq rfl rfl
  refine Qp rfl m ?_
  refine T.skip (Ql (tN ?_))
  refine Qq ?_
  refine mw rfl ?_
  refine oI rfl ?_
  refine aw rfl ?_
  refine TL'.nil (tN ?_)
  refine Qh ?_ (ih (wI (a + (1:Int))) x0 b d g h)
  exact tq rfl rfl
  refine Qp rfl j ?_
  refine T.exit (Qk (Qk (Qt (tN ?_))))
  refine T.seq (Qq ?_)
  refine mw rfl ?_
  refine aw rfl ?_
  refine TL'.nil (tN ?_)
  refine T.ret ?_
  refine X3 (Z5.view 2 1 rfl rfl) ?_
  exact fd rfl (by cases h; exact ⟨rfl, rfl⟩)
theorem Qdv (K : Nat) {x0 : Z4} {r : List Int} (h : Fs K x0 = some r) : Zn tp 114 [.agg (Z4.dc .u64 x0)] [] (.sl false 1 (mU r)) := by
 refine Qu Tryz.func114 rfl (nb rfl) ?_
 show T tp 19 (ca [] Tryz.f114) ⟨Qv 0 [.agg (Z4.dc .u64 x0)], []⟩ (Cz r)
 unfold Fs at h
 refine T.seq (Qq ?_)
 refine sp rfl (Zi rfl (dk rfl) rfl (fun a => ?_))
 refine aw rfl ?_
 refine TL'.nil (tN (T.seq (Qq ?_)))
 refine aw rfl ?_
 refine TL'.nil (tN ?_)
 refine T.seq ?_
 refine T.seq (Qq ?_)
 refine aw rfl ?_
 refine TL'.nil (tN ?_)
 refine T.block ?_
 refine T.loop ?_
 refine Qh (Xu 5 1) ?_
 refine Qh ?_ (Qav K K (0:Int) x0 [] a (Qeb 2) h)
 exact tr rfl (.c (.s .z) (.c .z (.n _)))
abbrev B4 (r : List Int) : ES := Wb tp Tryz.f80 (fun y t => y = (.sl false 1 (mU r)) ∧ t = [])
abbrev P8 (r : List Int) : ES := thenS (fun s' => T tp 37 (ca [1,1,1,1] Tryz.f80) s' ((B4 r))) ((B4 r))
abbrev N7 (r : List Int) : ES := Qz 0 ((P8 r))
theorem Ty {r : List Int} (K : Nat) : ∀ (k : Nat), ∀ (b : Int) (x0 : Q9) (a : List Int) (g : Nat) (j : Value), Gb K k b x0 a = some r → TL tp 37 (ca [1,1,1,0,1,0,0] Tryz.f80) ⟨[(1, .ptr g 0), (3, .c (.ex j)), (4, .int .i64 b)], [(Qfn g x0.Of x0.Many), .arrA j 5 1 (mU a)]⟩ (N7 r) := by
 intro k
 induction k with
 | zero =>
  intro b x0 a g j h
  exact zn h
 | succ k ih =>
  intro b x0 a g j h
  rw [Gb] at h
  refine Q6 ?_
  refine T.seq ?_
  refine T.seq (Qq ?_)
  refine mw rfl ?_
  refine oP Qfs i3 rfl ?_
  refine oL 0 ul3 rfl ?_
  refine oI rfl ?_
  refine TL'.nil (tN ?_)
  rcases Qe h with ⟨p, h⟩ | ⟨p, h⟩
  refine Qr rfl p ?_
  refine T.skip (tN ?_)
  refine T.seq ?_
  refine T.block ?_
  refine T.seq (Qq ?_)
  refine oA 0 ((Zg.dc 256 .u8 x0.Of) ++ (([.int .i64 x0.Many] : List DC))) Qfs i24 rfl ?_
  refine mw rfl ?_
  obtain ⟨ac, u, h⟩ := bind_some h
  refine sp rfl (Q1 rfl (dk rfl) Tryz.func115 rfl rfl (Q7.cons rfl (Q7.cons rfl Q7.nil)) (Zn.nil (Qej K u)) ?_)
  obtain ⟨q, w, h⟩ := bind_some h
  refine sp rfl (Q1 rfl (dk rfl) Tryz.func114 rfl rfl (Q7.cons rfl Q7.nil) (Zn.nil (Qdv K w)) ?_)
  refine aw rfl ?_
  refine TL'.nil (tN (T.seq (Qq ?_)))
  refine mw rfl ?_
  refine oU q (cI .u8) Dp rfl ?_
  refine oI rfl ?_
  refine TL'.nil (tN ?_)
  rcases Qe h with ⟨s, h⟩ | ⟨s, h⟩
  cases h
  refine Qp rfl s ?_
  refine Qq ?_
  refine mw rfl ?_
  refine mw rfl ?_
  obtain ⟨m, y, h⟩ := bind_some h
  refine oX q (cI .u8) Dp i5 y rfl ?_
  refine oR ul5 rfl ?_
  refine sp rfl (OpT.buildSlice (elems := ([m] : List Int).map (cI .u8)) rfl (dk rfl) Dp i5 (by decide) rfl (Mi rfl) rfl rfl rfl (V4 rfl) (by decide) ?_)
  obtain ⟨aa, h⟩ := Zc h
  refine sp rfl (Zv (i := 1) (xs := a) (ys := [m]) (f := (cI .u8)) rfl (dk rfl) Dp i5 rfl rfl rfl rfl aa (fun ab => ?_))
  refine aw rfl ?_
  refine TL'.nil (Ql (tN ?_))
  refine Qq ?_
  refine mw rfl ?_
  refine oI rfl ?_
  refine aw rfl ?_
  refine TL'.nil (tN ?_)
  refine Qh ?_ (ih (wI (b + (1:Int))) x0 (a ++ [m]) g ab h)
  exact tq rfl rfl
  refine Qp rfl p ?_
  refine T.exit (Qk (Qk (Qt (tN ?_))))
  refine T.seq (Qq ?_)
  refine mw rfl ?_
  refine aw rfl ?_
  refine TL'.nil (tN ?_)
  refine T.ret ?_
  refine X3 (Z5.view 2 1 rfl rfl) ?_
  exact fd rfl (by cases h; exact ⟨rfl, rfl⟩)
theorem Qcy (K : Nat) {x0 : Q9} {r : List Int} (h : D6 K x0 = some r) : Zn tp 80 [.agg ((Zg.dc 256 .u8 x0.Of) ++ (([.int .i64 x0.Many] : List DC)))] [] (.sl false 1 (mU r)) := by
 refine Qu Tryz.func80 rfl (nb rfl) ?_
 show T tp 37 (ca [] Tryz.f80) ⟨Qv 0 [.agg ((Zg.dc 256 .u8 x0.Of) ++ (([.int .i64 x0.Many] : List DC)))], []⟩ (B4 r)
 unfold D6 at h
 refine T.seq (Qq ?_)
 refine sp rfl (Zi rfl (dk rfl) rfl (fun d => ?_))
 refine aw rfl ?_
 refine TL'.nil (tN ?_)
 refine T.seq ?_
 refine T.seq (Qq ?_)
 refine oP Qfs i3 rfl ?_
 refine oL 0 ul3 rfl ?_
 refine oI rfl ?_
 refine mw rfl ?_
 rcases Qe h with ⟨a, h⟩ | ⟨a, h⟩
 cases h
 refine sn rfl a (Z0 rfl (dk rfl) Qfs rfl i3 (by decide) rfl ?_)
 refine sn rfl a (Zo (i := 0) rfl (dk rfl) ul3 rfl rfl rfl rfl ?_)
 refine sn rfl a (Zj rfl rfl (dk rfl) rfl rfl ?_)
 refine oZ a rfl ?_
 refine TL'.nil (tN ?_)
 rcases Qe h with ⟨b, h⟩ | ⟨b, h⟩
 cases h
 refine Qp rfl b ?_
 refine T.skip (tN ?_)
 refine T.seq (Qq ?_)
 refine aw rfl ?_
 refine TL'.nil (tN ?_)
 refine T.seq ?_
 refine T.seq (Qq ?_)
 refine aw rfl ?_
 refine TL'.nil (tN ?_)
 refine T.block ?_
 refine T.loop ?_
 refine Qh (Xu 5 1) ?_
 refine Qh ?_ (Ty K K (0:Int) x0 [] d (Qeb 2) h)
 exact tr rfl (.c (.s .z) (.c .z (.n _)))
abbrev Jv (bx0 : Nat) (x0 : Qi) (r : Bool) : ES := Wb tp Tryz.f82 (fun y t => ∃ γ : Nat → Value, y = (.bool r) ∧ t = [(Xl bx0 x0.g.First x0.g.P (γ 0) x0.a.Split.Of x0.a.Split.Many (γ 1) (γ 2) x0.e), .arrA (γ 0) 3 1 (mI x0.number), .arrA (γ 1) 59 2 (mA x0.a.Counts), .arrX (γ 2) 51 4 0 (x0.a.States.map Qc)])
abbrev Dd (bx0 : Nat) (x0 : Qi) (r : Bool) : ES := thenS (fun s' => T tp 54 (ca [1,1,1] Tryz.f82) s' ((Jv bx0 x0 r))) ((Jv bx0 x0 r))
abbrev Cg (bx0 : Nat) (x0 : Qi) (r : Bool) : ES := Qz 0 ((Dd bx0 x0 r))
theorem Dx {r : Bool} (K bx0 : Nat) (x0 : Qi) : ∀ (k : Nat), ∀ (x3 x4 s : Int) (x0 : Qi) (x2 : Qa) (y aa w0_0aa : Value) (p : Nat), Vl K k x3 x4 s x0 x2 = some r → TL tp 54 (ca [1,1,0,1,0,0] Tryz.f82) ⟨[(0, .ptr bx0 0), (3, .int .i64 x3), (4, .int .i64 x4), (7, .ptr p 0), (11, .int .i64 s)], [(Xl bx0 x0.g.First x0.g.P y x0.a.Split.Of x0.a.Split.Many aa w0_0aa x0.e), .arrA y 3 1 (mI x0.number), .arrA aa 59 2 (mA x0.a.Counts), .arrX w0_0aa 51 4 0 (x0.a.States.map Qc), (Jz p x2.L x2.R x2.Rule x2.Next)]⟩ (Cg bx0 x0 r) := by
 intro k
 induction k with
 | zero =>
  intro x3 x4 s x0 x2 y aa w0_0aa p h
  exact zn h
 | succ k ih =>
  intro x3 x4 s x0 x2 y aa w0_0aa p h
  rw [Vl] at h
  refine Q6 ?_
  refine T.seq ?_
  refine T.seq (Qq ?_)
  refine mw rfl ?_
  refine oP H1 i38 rfl ?_
  refine oL 4 Zy rfl ?_
  refine oU x2.L (cI .i64) Zy rfl ?_
  refine oI rfl ?_
  refine TL'.nil (tN ?_)
  rcases Qe h with ⟨ac, h⟩ | ⟨ac, h⟩
  refine Qr rfl ac ?_
  refine T.skip (tN ?_)
  refine T.seq ?_
  refine T.block ?_
  refine T.seq ?_
  refine Hl ?_
  refine dC (c := ⟨some 28, .ptr bx0 0, [(0, .ptr bx0 0)], [], []⟩) (fun t hm => oF rfl rfl (OpT.move rfl (dk rfl) hm.s0 ⟨u0, rfl⟩)) (fun _ => rfl) (fun _ => rfl) ?_
  refine dC (c := ⟨some 29, .agg [.sl false 1 (mI x2.L), .sl false 1 (mI x2.R), .sl false 1 (mI x2.Rule), .sl false 1 (x2.Next.map (cL 2 Qg))], [(7, .ptr p 0)], [(4, (Jz p x2.L x2.R x2.Rule x2.Next))], []⟩) (fun t hm => oF rfl rfl (Jt (i := 4) (l := [.sl false 1 (mI x2.L), .sl false 1 (mI x2.R), .sl false 1 (mI x2.Rule), .sl false 1 (x2.Next.map (cL 2 Qg))]) rfl (dk rfl) H1 rfl i51 hm.s0 hm.o0 rfl rfl ⟨u0, rfl⟩)) (fun _ => rfl) (fun _ => rfl) ?_
  refine dC (c := ⟨some 30, .int .i64 x3, [(3, .int .i64 x3)], [], []⟩) (fun t hm => oF rfl rfl (OpT.move rfl (dk rfl) hm.s0 ⟨u0, rfl⟩)) (fun _ => rfl) (fun _ => rfl) ?_
  refine dC (c := ⟨some 31, .ptr p (0 + 0), [(7, .ptr p 0)], [], []⟩) (fun t hm => oF rfl rfl (Z0 rfl (dk rfl) H1 rfl i38 (by decide) hm.s0 ⟨u0, rfl⟩)) (fun _ => rfl) (fun _ => rfl) ?_
  refine dC (c := ⟨some 32, .sl false 1 (mI x2.L), [(31, .ptr p (0 + 0))], [(4, (Jz p x2.L x2.R x2.Rule x2.Next))], []⟩) (fun t hm => oF rfl rfl (Zo (i := 4) rfl (dk rfl) Zy rfl hm.s0 hm.o0 rfl ⟨u0, rfl⟩)) (fun _ => rfl) (fun _ => rfl) ?_
  refine dC (c := ⟨some 33, .int .i64 s, [(11, .int .i64 s)], [], []⟩) (fun t hm => oF rfl rfl (OpT.move rfl (dk rfl) hm.s0 ⟨u0, rfl⟩)) (fun _ => rfl) (fun _ => rfl) ?_
  obtain ⟨w, af, h⟩ := bind_some h
  refine dC (c := ⟨some 34, .ref [.int .i64 w], [(32, .sl false 1 (mI x2.L)), (33, .int .i64 s)], [], []⟩) (fun t hm => oF rfl rfl (Yq (xs := x2.L) (f := (cI .i64)) (v := w) rfl (dk rfl) Zy i3 hm.s0 hm.s1 af ⟨u0, rfl⟩)) (fun _ => rfl) (fun _ => rfl) ?_
  refine dC (c := ⟨some 35, .int .i64 w, [(34, .ref [.int .i64 w])], [], []⟩) (fun t hm => oF rfl rfl (Xi rfl (dk rfl) ul3 rfl hm.s0 rfl ⟨u0, rfl⟩)) (fun _ => rfl) (fun _ => rfl) ?_
  obtain ⟨m, ag, h⟩ := bind_some h
  refine DGG.step (c := fun b => ⟨some 36, .bool m, [(28, .ptr bx0 0), (29, .agg [.sl false 1 (mI x2.L), .sl false 1 (mI x2.R), .sl false 1 (mI x2.Rule), .sl false 1 (x2.Next.map (cL 2 Qg))]), (30, .int .i64 x3), (35, .int .i64 w)], [(3, .arrX w0_0aa 51 4 0 (x0.a.States.map Qc)), (2, .arrA aa 59 2 (mA x0.a.Counts)), (1, .arrA y 3 1 (mI x0.number)), (0, (Xl bx0 x0.g.First x0.g.P y x0.a.Split.Of x0.a.Split.Many aa w0_0aa x0.e))], [(0, (Xl bx0 x0.g.First x0.g.P ((b 8).1 0) x0.a.Split.Of x0.a.Split.Many ((b 8).1 1) ((b 8).1 2) x0.e)), (1, .arrA ((b 8).1 0) 3 1 (mI x0.number)), (2, .arrA ((b 8).1 1) 59 2 (mA x0.a.Counts)), (3, .arrX ((b 8).1 2) 51 4 0 (x0.a.States.map Qc))]⟩) [8] (fun b γ' h => by simp only [h 8 (by decide)]) (fun b t hm => oF rfl rfl (Q8 (is := [0, 1, 2, 3]) (ph := []) rfl (dk rfl) Tryz.func79 rfl rfl (Q7.cons hm.s0 (Q7.cons hm.s1 (Q7.cons hm.s2 (Q7.cons hm.s3 Q7.nil)))) (Mn K (bx0 := bx0) (wx0c1 := y) (wx0c2c1 := aa) (wx0c2c2 := w0_0aa) ag) (.cons (hm.objs (0, _) (.tail _ (.tail _ (.tail _ (.head _))))) rfl (.cons hm.o2 rfl (.cons hm.o1 rfl (.cons hm.o0 rfl (.nil))))) (fun _ => rfl) (fun g => ⟨(g, 0), rfl⟩))) (fun b => Z2 rfl rfl) ?_
  refine dC (c := ⟨some 37, .bool m, [(36, .bool m)], [], []⟩) (fun t hm => oF rfl rfl (OpT.move rfl (dk rfl) hm.s0 ⟨u0, rfl⟩)) (fun _ => rfl) (fun _ => rfl) ?_
  rcases Qe h with ⟨q, h⟩ | ⟨q, h⟩
  refine dC (c := ⟨some 38, .ptr bx0 0, [(0, .ptr bx0 0), (37, .bool m)], [], []⟩) (fun t hm => oN rfl rfl rfl hm.s1 q (OpT.move rfl (dk rfl) hm.s0 ⟨u0, rfl⟩)) (fun _ => rfl) (fun _ => rfl) ?_
  refine dC (c := ⟨some 39, .ptr bx0 0, [(38, .ptr bx0 0), (37, .bool m)], [], []⟩) (fun t hm => oN rfl rfl rfl hm.s1 q (OpT.nilCheck rfl (dk rfl) hm.s0 rfl ⟨u0, rfl⟩)) (fun _ => rfl) (fun _ => rfl) ?_
  refine dC (c := ⟨some 40, .ptr bx0 (0 + 0), [(39, .ptr bx0 0), (37, .bool m)], [], []⟩) (fun t hm => oN rfl rfl rfl hm.s1 q (Z0 rfl (dk rfl) Qea rfl i43 (by decide) hm.s0 ⟨u0, rfl⟩)) (fun _ => rfl) (fun _ => rfl) ?_
  refine dC (c := ⟨some 41, .ptr bx0 (0 + 0 + 1), [(40, .ptr bx0 (0 + 0)), (37, .bool m)], [], []⟩) (fun t hm => oN rfl rfl rfl hm.s1 q (Z0 rfl (dk rfl) Qfy rfl i41 (by decide) hm.s0 ⟨u0, rfl⟩)) (fun _ => rfl) (fun _ => rfl) ?_
  refine DGG.step (c := fun b => ⟨some 42, .sl false 9 (x0.g.P.map Q0), [(41, .ptr bx0 (0 + 0 + 1)), (37, .bool m)], [(0, (Xl bx0 x0.g.First x0.g.P ((b 8).1 0) x0.a.Split.Of x0.a.Split.Many ((b 8).1 1) ((b 8).1 2) x0.e))], []⟩) [8] (fun b γ' h => by simp only [h 8 (by decide)]) (fun b t hm => oN rfl rfl rfl hm.s1 q (Zo (i := 0) rfl (dk rfl) Sg rfl hm.s0 hm.o0 rfl ⟨u0, rfl⟩)) (fun b => Z2 rfl rfl) ?_
  refine dC (c := ⟨some 43, .ptr p (0 + 0), [(7, .ptr p 0), (37, .bool m)], [], []⟩) (fun t hm => oN rfl rfl rfl hm.s1 q (Z0 rfl (dk rfl) H1 rfl i38 (by decide) hm.s0 ⟨u0, rfl⟩)) (fun _ => rfl) (fun _ => rfl) ?_
  refine dC (c := ⟨some 44, .sl false 1 (mI x2.L), [(43, .ptr p (0 + 0)), (37, .bool m)], [(4, (Jz p x2.L x2.R x2.Rule x2.Next))], []⟩) (fun t hm => oN rfl rfl rfl hm.s1 q (Zo (i := 4) rfl (dk rfl) Zy rfl hm.s0 hm.o0 rfl ⟨u0, rfl⟩)) (fun _ => rfl) (fun _ => rfl) ?_
  refine dC (c := ⟨some 45, .int .i64 s, [(11, .int .i64 s), (37, .bool m)], [], []⟩) (fun t hm => oN rfl rfl rfl hm.s1 q (OpT.move rfl (dk rfl) hm.s0 ⟨u0, rfl⟩)) (fun _ => rfl) (fun _ => rfl) ?_
  refine dC (c := ⟨some 46, .ref [.int .i64 w], [(44, .sl false 1 (mI x2.L)), (45, .int .i64 s), (37, .bool m)], [], []⟩) (fun t hm => oN rfl rfl rfl hm.s2 q (Yq (xs := x2.L) (f := (cI .i64)) (v := w) rfl (dk rfl) Zy i3 hm.s0 hm.s1 af ⟨u0, rfl⟩)) (fun _ => rfl) (fun _ => rfl) ?_
  refine dC (c := ⟨some 47, .int .i64 w, [(46, .ref [.int .i64 w]), (37, .bool m)], [], []⟩) (fun t hm => oN rfl rfl rfl hm.s1 q (Xi rfl (dk rfl) ul3 rfl hm.s0 rfl ⟨u0, rfl⟩)) (fun _ => rfl) (fun _ => rfl) ?_
  obtain ⟨j, ai, h⟩ := bind_some h
  refine dC (c := ⟨some 48, .ref [.int .u64 j.S.a0, .int .u64 j.S.a1, .int .u64 j.S.a2, .int .u64 j.S.a3, .int .i64 j.Lo, .int .i64 j.Hi, .int .i64 j.Rule, .bool j.Last, .sl false 1 (mI j.Next)], [(42, .sl false 9 (x0.g.P.map Q0)), (47, .int .i64 w), (37, .bool m)], [], []⟩) (fun t hm => oN rfl rfl rfl hm.s2 q (Yq (xs := x0.g.P) (f := Q0) (v := j) rfl (dk rfl) Sg i65 hm.s0 hm.s1 ai ⟨u0, rfl⟩)) (fun _ => rfl) (fun _ => rfl) ?_
  refine dC (c := ⟨some 49, .ref [.sl false 1 (mI j.Next)], [(48, .ref [.int .u64 j.S.a0, .int .u64 j.S.a1, .int .u64 j.S.a2, .int .u64 j.S.a3, .int .i64 j.Lo, .int .i64 j.Hi, .int .i64 j.Rule, .bool j.Last, .sl false 1 (mI j.Next)]), (37, .bool m)], [], []⟩) (fun t hm => oN rfl rfl rfl hm.s1 q (Uf rfl (dk rfl) ul65 rfl i38 (by decide) hm.s0 ⟨u0, rfl⟩)) (fun _ => rfl) (fun _ => rfl) ?_
  refine dC (c := ⟨some 50, .sl false 1 (mI j.Next), [(49, .ref [.sl false 1 (mI j.Next)]), (37, .bool m)], [], []⟩) (fun t hm => oN rfl rfl rfl hm.s1 q (Xi rfl (dk rfl) Zy rfl hm.s0 rfl ⟨u0, rfl⟩)) (fun _ => rfl) (fun _ => rfl) ?_
  refine dC (c := ⟨some 51, .int .i64 x4, [(4, .int .i64 x4), (37, .bool m)], [], []⟩) (fun t hm => oN rfl rfl rfl hm.s1 q (OpT.move rfl (dk rfl) hm.s0 ⟨u0, rfl⟩)) (fun _ => rfl) (fun _ => rfl) ?_
  obtain ⟨ab, aj, h⟩ := bind_some h
  refine dC (c := ⟨some 52, .bool ab, [(50, .sl false 1 (mI j.Next)), (51, .int .i64 x4), (37, .bool m)], [], []⟩) (fun t hm => oN rfl rfl rfl hm.s2 q (Q1 rfl (dk rfl) Tryz.func112 rfl rfl (Q7.cons hm.s0 (Q7.cons hm.s1 Q7.nil)) (Zn.nil (Bi K (flx0 := false) aj)) ⟨u0, rfl⟩)) (fun _ => rfl) (fun _ => rfl) ?_
  refine dC (c := ⟨some 53, .bool ab, [(37, .bool m), (52, .bool ab)], [], []⟩) (fun t hm => oF rfl rfl (Ky rfl (dk rfl) hm.s0 q hm.s1 ⟨u0, rfl⟩)) (fun _ => rfl) (fun _ => rfl) ?_
  refine gF [0,0,0,0,8,0,56,120,255,511,1023,2047,4095,8191,16383,1023,33791,1023,230399,492543,1048575,2097151,4194303,1023,16777215,33554431] Q3 rfl (by kernel_rfl) (fun _ => by kernel_rfl) (fun b u hu => (tN (Qm hu ?_)))
  rcases Qe h with ⟨ad, h⟩ | ⟨ad, h⟩
  refine Qr rfl ad ?_
  refine T.seq (Qq ?_)
  refine aw rfl ?_
  refine TL'.nil (tN ?_)
  refine T.ret (Q5 (Qw (Qw (Q5 (Qw ?_)))))
  exact Q4 (.cons _ _ _ _ (.tmp 10 _ rfl) .nil) (.cons 0 rfl (.cons 0 rfl (.cons 0 rfl (.cons 0 rfl (.nil _))))) (by cases h; exact ⟨gl [(b 8).1 0, (b 8).1 1, (b 8).1 2], rfl, rfl⟩)
  refine Qp rfl ad ?_
  refine T.skip (Ql (tN ?_))
  refine Qq ?_
  refine mw rfl ?_
  refine oI rfl ?_
  refine aw rfl ?_
  refine TL'.nil (tN ?_)
  refine Qh ?_ (ih x3 x4 (wI (s + (1:Int))) x0 x2 ((b 8).1 0) ((b 8).1 1) ((b 8).1 2) p h)
  exact tq rfl rfl
  cases h
  refine Qp rfl ac ?_
  refine T.exit (Qk (Qk (Qt (tN ?_))))
  refine T.seq (Qq ?_)
  refine aw rfl ?_
  refine TL'.nil (tN ?_)
  refine T.ret ?_
  exact Q4 (.cons _ _ _ _ (.tmp 10 _ rfl) .nil) (.cons 0 rfl (.cons 0 rfl (.cons 0 rfl (.cons 0 rfl (.nil _))))) (by cases h; exact ⟨gl [y, aa, w0_0aa], rfl, rfl⟩)
theorem F4 (K : Nat) {x0 : Qi} {x1 : Int} {x2 : Qa} {x3 x4 : Int} {bx0 : Nat} {wx0c1 wx0c2c1 wx0c2c2 : Value} {r : Bool} (h : Wz K x0 x1 x2 x3 x4 = some r) : Us tp 82 [.ptr bx0 0, .int .i64 x1, .agg [.sl false 1 (mI x2.L), .sl false 1 (mI x2.R), .sl false 1 (mI x2.Rule), .sl false 1 (x2.Next.map (cL 2 Qg))], .int .i64 x3, .int .i64 x4] [(Xl bx0 x0.g.First x0.g.P wx0c1 x0.a.Split.Of x0.a.Split.Many wx0c2c1 wx0c2c2 x0.e), .arrA wx0c1 3 1 (mI x0.number), .arrA wx0c2c1 59 2 (mA x0.a.Counts), .arrX wx0c2c2 51 4 0 (x0.a.States.map Qc)] (fun γ => (.bool r)) (fun γ => [(Xl bx0 x0.g.First x0.g.P (γ 0) x0.a.Split.Of x0.a.Split.Many (γ 1) (γ 2) x0.e), .arrA (γ 0) 3 1 (mI x0.number), .arrA (γ 1) 59 2 (mA x0.a.Counts), .arrX (γ 2) 51 4 0 (x0.a.States.map Qc)]) := by
 refine Qu Tryz.func82 rfl (nb rfl) ?_
 show T tp 54 (ca [] Tryz.f82) ⟨Qv 0 [.ptr bx0 0, .int .i64 x1, .agg [.sl false 1 (mI x2.L), .sl false 1 (mI x2.R), .sl false 1 (mI x2.Rule), .sl false 1 (x2.Next.map (cL 2 Qg))], .int .i64 x3, .int .i64 x4], [(Xl bx0 x0.g.First x0.g.P wx0c1 x0.a.Split.Of x0.a.Split.Many wx0c2c1 wx0c2c2 x0.e), .arrA wx0c1 3 1 (mI x0.number), .arrA wx0c2c1 59 2 (mA x0.a.Counts), .arrX wx0c2c2 51 4 0 (x0.a.States.map Qc)]⟩ (Jv bx0 x0 r)
 unfold Wz at h
 refine T.seq (Qq ?_)
 refine sp rfl (Zi rfl (dk rfl) rfl (fun f => ?_))
 refine aw rfl ?_
 refine TL'.nil (tN ?_)
 refine T.seq ?_
 refine T.seq (Qq ?_)
 refine mw rfl ?_
 refine oI rfl ?_
 refine TL'.nil (tN ?_)
 rcases Qe h with ⟨b, h⟩ | ⟨b, h⟩
 refine Qr rfl b ?_
 refine T.seq (Qq ?_)
 refine mw rfl ?_
 refine oK rfl ?_
 refine oP Qea i43 rfl ?_
 refine oP Qfy i38 rfl ?_
 refine oL 1 Zy rfl ?_
 refine mw rfl ?_
 obtain ⟨l, j, h⟩ := bind_some h
 refine sp rfl (Q1 rfl (dk rfl) Tryz.func112 rfl rfl (Q7.cons rfl (Q7.cons rfl Q7.nil)) (Zn.nil (Bi K (flx0 := false) j)) ?_)
 refine aw rfl ?_
 refine TL'.nil (tN ?_)
 refine T.ret (Qw ?_)
 exact Q4 (.cons _ _ _ _ (.tmp 10 _ rfl) .nil) (.cons 1 rfl (.cons 1 rfl (.cons 1 rfl (.cons 1 rfl (.nil _))))) (by cases h; exact ⟨gl [wx0c1, wx0c2c1, wx0c2c2], rfl, rfl⟩)
 refine Qp rfl b ?_
 refine T.skip (tN ?_)
 refine T.seq ?_
 refine T.seq (Qq ?_)
 refine aw rfl ?_
 refine TL'.nil (tN ?_)
 refine T.block ?_
 refine T.loop ?_
 refine Qh ?_ (Dx K bx0 x0 K x3 x4 (0:Int) x0 x2 wx0c1 wx0c2c1 wx0c2c2 f h)
 exact tr rfl (.c (.s .z) (.c (.s .z) (.c (.s .z) (.c (.s .z) (.c .z (.n _))))))
abbrev I6 (bx0 : Nat) (x0 : Qi) (r : Bool) : ES := Wb tp Tryz.f83 (fun y t => ∃ γ : Nat → Value, y = (.bool r) ∧ t = [(Xl bx0 x0.g.First x0.g.P (γ 0) x0.a.Split.Of x0.a.Split.Many (γ 1) (γ 2) x0.e), .arrA (γ 0) 3 1 (mI x0.number), .arrA (γ 1) 59 2 (mA x0.a.Counts), .arrX (γ 2) 51 4 0 (x0.a.States.map Qc)])
theorem I7 (K : Nat) {x0 : Qi} {x1 : Qa} {x2 x3 : Int} {bx0 : Nat} {wx0c1 wx0c2c1 wx0c2c2 : Value} {r : Bool} (h : Ho K x0 x1 x2 x3 = some r) : Us tp 83 [.ptr bx0 0, .agg [.sl false 1 (mI x1.L), .sl false 1 (mI x1.R), .sl false 1 (mI x1.Rule), .sl false 1 (x1.Next.map (cL 2 Qg))], .int .i64 x2, .int .i64 x3] [(Xl bx0 x0.g.First x0.g.P wx0c1 x0.a.Split.Of x0.a.Split.Many wx0c2c1 wx0c2c2 x0.e), .arrA wx0c1 3 1 (mI x0.number), .arrA wx0c2c1 59 2 (mA x0.a.Counts), .arrX wx0c2c2 51 4 0 (x0.a.States.map Qc)] (fun γ => (.bool r)) (fun γ => [(Xl bx0 x0.g.First x0.g.P (γ 0) x0.a.Split.Of x0.a.Split.Many (γ 1) (γ 2) x0.e), .arrA (γ 0) 3 1 (mI x0.number), .arrA (γ 1) 59 2 (mA x0.a.Counts), .arrX (γ 2) 51 4 0 (x0.a.States.map Qc)]) := by
 refine Qu Tryz.func83 rfl (nb rfl) ?_
 show T tp 27 (ca [] Tryz.f83) ⟨Qv 0 [.ptr bx0 0, .agg [.sl false 1 (mI x1.L), .sl false 1 (mI x1.R), .sl false 1 (mI x1.Rule), .sl false 1 (x1.Next.map (cL 2 Qg))], .int .i64 x2, .int .i64 x3], [(Xl bx0 x0.g.First x0.g.P wx0c1 x0.a.Split.Of x0.a.Split.Many wx0c2c1 wx0c2c2 x0.e), .arrA wx0c1 3 1 (mI x0.number), .arrA wx0c2c1 59 2 (mA x0.a.Counts), .arrX wx0c2c2 51 4 0 (x0.a.States.map Qc)]⟩ (I6 bx0 x0 r)
 unfold Ho at h
 refine T.seq (Qq ?_)
 refine sp rfl (Zi rfl (dk rfl) rfl (fun q => ?_))
 refine aw rfl ?_
 refine TL'.nil (tN (T.seq (Qq ?_)))
 refine mw rfl ?_
 refine oA 0 [.sl false 1 (mI x1.L), .sl false 1 (mI x1.R), .sl false 1 (mI x1.Rule), .sl false 1 (x1.Next.map (cL 2 Qg))] H1 i51 rfl ?_
 refine mw rfl ?_
 refine mw rfl ?_
 obtain ⟨s, m, h⟩ := bind_some h
 refine sp rfl (Q8 (is := [1, 2, 3, 4]) (ph := []) rfl (dk rfl) Tryz.func113 rfl rfl (Q7.cons rfl (Q7.cons rfl (Q7.cons rfl (Q7.cons rfl Q7.nil)))) (Kr K (bx0 := bx0) (wx0c1 := wx0c1) (wx0c2c1 := wx0c2c1) (wx0c2c2 := wx0c2c2) m) (.cons rfl rfl (.cons rfl rfl (.cons rfl rfl (.cons rfl rfl (.nil))))) (fun _ => rfl) (fun f => ?_))
 refine nm (.c (.c (.c (.c (.c (.n)))))) ?_
 refine aw rfl ?_
 refine TL'.nil (tN (T.seq (Qq ?_)))
 refine oP H1 i38 rfl ?_
 refine oL 0 Zy rfl ?_
 refine mw rfl ?_
 obtain ⟨u, p, h⟩ := bind_some h
 refine sp rfl (Q1 rfl (dk rfl) Tryz.func112 rfl rfl (Q7.cons rfl (Q7.cons rfl Q7.nil)) (Zn.nil (Bi K (flx0 := false) p)) ?_)
 refine mw rfl ?_
 rcases Qe h with ⟨b, h⟩ | ⟨b, h⟩
 refine sn rfl b (OpT.move rfl (dk rfl) rfl ?_)
 refine sn rfl b (Zj rfl rfl (dk rfl) rfl rfl ?_)
 refine sn rfl b (OpT.move rfl (dk rfl) rfl ?_)
 rcases Qe h with ⟨j, h⟩ | ⟨j, h⟩
 cases h
 refine sn rfl j (OpT.move rfl (dk rfl) rfl ?_)
 refine sn rfl j (Zj rfl rfl (dk rfl) rfl rfl ?_)
 refine sn rfl b (Kz rfl (dk rfl) rfl j rfl ?_)
 refine oY b rfl ?_
 refine aw rfl ?_
 refine TL'.nil (tN ?_)
 refine T.ret ?_
 exact Q4 (.cons _ _ _ _ (.tmp 8 _ rfl) .nil) (.cons 1 rfl (.cons 1 rfl (.cons 1 rfl (.cons 1 rfl (.nil _))))) (by cases h; exact ⟨gl [f 0, f 1, f 2], rfl, rfl⟩)
 refine pf rfl b ?_
 refine pf rfl b ?_
 refine pf rfl b ?_
 refine Qa4 (.gone _ _ _ rfl rfl rfl) (dk rfl) ?_
 refine Qa4 (.gone _ _ _ rfl rfl rfl) (dk rfl) ?_
 refine pf rfl b ?_
 refine oZ b rfl ?_
 refine aw rfl ?_
 refine TL'.nil (tN ?_)
 refine T.ret ?_
 exact Q4 (.cons _ _ _ _ (.tmp 8 _ rfl) .nil) (.cons 1 rfl (.cons 1 rfl (.cons 1 rfl (.cons 1 rfl (.nil _))))) (by cases h; exact ⟨gl [f 0, f 1, f 2], rfl, rfl⟩)
abbrev X4 (bx0 : Nat) (r : Int × Qi) : ES := Wb tp Tryz.f84 (fun y t => ∃ γ : Nat → Value, y = (.int .i64 r.1) ∧ t = [(Xl bx0 r.2.g.First r.2.g.P (γ 0) r.2.a.Split.Of r.2.a.Split.Many (γ 1) (γ 2) r.2.e), .arrA (γ 0) 3 1 (mI r.2.number), .arrA (γ 1) 59 2 (mA r.2.a.Counts), .arrX (γ 2) 51 4 0 (r.2.a.States.map Qc)])
abbrev E7 (bx0 : Nat) (r : Int × Qi) : ES := thenS (fun s' => T tp 122 (ca [1,1] Tryz.f84) s' ((X4 bx0 r))) ((X4 bx0 r))
abbrev Xy (bx0 : Nat) (r : Int × Qi) : ES := Qz 0 ((E7 bx0 r))
abbrev Gq (bx0 : Nat) (r : Int × Qi) : ES := thenS (fun s' => TL tp 122 (ca [1,0,1,0,0] Tryz.f84) s' ((Xy bx0 r))) ((Xy bx0 r))
abbrev Cf (bx0 : Nat) (r : Int × Qi) : ES := thenS (fun s' => T tp 122 (ca [1,0,1,0,0,1,1] Tryz.f84) s' ((Gq bx0 r))) ((Gq bx0 r))
abbrev Jh (bx0 : Nat) (r : Int × Qi) : ES := Qz 1 ((Cf bx0 r))
abbrev Kk (bx0 : Nat) (r : Int × Qi) : ES := thenS (fun s' => T tp 122 (ca [1,0,1,0,0,1,0,0,1,1,0,1,1] Tryz.f84) s' ((Jh bx0 r))) ((Jh bx0 r))
abbrev H0 (bx0 : Nat) (r : Int × Qi) : ES := Qz 2 ((Kk bx0 r))
abbrev Dw (bx0 : Nat) (r : Int × Qi) : ES := thenS (fun s' => T tp 122 (ca [1,1,1,1] Tryz.f84) s' ((X4 bx0 r))) ((X4 bx0 r))
abbrev Cr (bx0 : Nat) (r : Int × Qi) : ES := Qz 4 ((Dw bx0 r))
abbrev Fb (bx0 : Nat) (r : Int × Qi) (go : (List Int) → Int → Qi → Option (Int × Qi)) : Prop := ∀ (x1 : List Int) (b : Int) (x0 : Qi) (flx1 : Bool) (c f w0_0aa : Value), go x1 b x0 = some r → TL tp 122 (ca [1,0,1,0,0] Tryz.f84) ⟨[(0, .ptr bx0 0), (1, .sl flx1 1 (mI x1)), (5, .int .i64 b)], [(Xl bx0 x0.g.First x0.g.P c x0.a.Split.Of x0.a.Split.Many f w0_0aa x0.e), .arrA c 3 1 (mI x0.number), .arrA f 59 2 (mA x0.a.Counts), .arrX w0_0aa 51 4 0 (x0.a.States.map Qc)]⟩ (Xy bx0 r)
theorem E9 {r : Int × Qi} (K bx0 : Nat) (go0 : (List Int) → Int → Qi → Option (Int × Qi)) (hgo0 : Fb bx0 r go0) : ∀ (k : Nat), ∀ (x1 : List Int) (w : Int) (m : List Int) (j : Bool) (l : Int) (x0 : Qi) (flx1 : Bool) (q s w0_1aa : Value), Vx K go0 k x1 w m j l x0 = some r → TL tp 122 (ca [1,0,1,0,0,1,0,0,1,1,0,1,0,1,0,0] Tryz.f84) ⟨[(0, .ptr bx0 0), (1, .sl flx1 1 (mI x1)), (5, .int .i64 w), (6, .sl false 1 (mI m)), (7, .bool j), (8, .int .i64 l)], [(Xl bx0 x0.g.First x0.g.P q x0.a.Split.Of x0.a.Split.Many s w0_1aa x0.e), .arrA q 3 1 (mI x0.number), .arrA s 59 2 (mA x0.a.Counts), .arrX w0_1aa 51 4 0 (x0.a.States.map Qc)]⟩ (H0 bx0 r) := by
 intro k
 induction k with
 | zero =>
  intro x1 w m j l x0 flx1 q s w0_1aa h
  exact zn h
 | succ k ih =>
  intro x1 w m j l x0 flx1 q s w0_1aa h
  rw [Vx] at h
  refine Q6 ?_
  refine T.seq ?_
  refine T.seq (Qq ?_)
  refine mw rfl ?_
  refine mw rfl ?_
  refine oU x1 (cI .i64) Zy rfl ?_
  refine oI rfl ?_
  refine TL'.nil (tN ?_)
  rcases Qe h with ⟨y, h⟩ | ⟨y, h⟩
  refine Qr rfl y ?_
  refine T.skip (tN ?_)
  refine T.seq ?_
  refine T.block ?_
  refine Yx ?_
  refine dV rfl rfl ?_
  refine dV rfl rfl ?_
  rcases Qe h with ⟨p, h⟩ | ⟨p, h⟩
  refine dM rfl (.n p rfl) rfl ?_
  refine dM rfl (.n p rfl) rfl ?_
  obtain ⟨b, ab, h⟩ := bind_some h
  refine dX m (cI .i64) rfl (.n p rfl) Zy i3 ab rfl ?_
  refine dR rfl (.n p rfl) ul3 rfl ?_
  refine dM rfl (.n p rfl) rfl ?_
  refine dM rfl (.n p rfl) rfl ?_
  obtain ⟨i, ac, h⟩ := bind_some h
  refine dX x1 (cI .i64) rfl (.n p rfl) Zy i3 ac rfl ?_
  refine dR rfl (.n p rfl) ul3 rfl ?_
  refine dI rfl (.n p rfl) rfl ?_
  refine dY rfl (.f rfl) p rfl ?_
  refine dS (c := ⟨some 7, .bool (b == i), [(52, .bool (b == i))], [], []⟩) (fun t hm => oF rfl rfl (OpT.assign rfl (dk rfl) hm.s0 rfl)) rfl rfl ?_
  refine dF [0,1,3,3,15,31,3,3,195,451,1023,2047,4095] Q3 rfl (by kernel_rfl) (fun u hu => (Ql (tN (Qm hu ?_))))
  refine Qq ?_
  refine mw rfl ?_
  refine oI rfl ?_
  refine aw rfl ?_
  refine TL'.nil (tN ?_)
  refine Qh ?_ (ih x1 w m (b == i) (wI (l + (1:Int))) x0 flx1 q s w0_1aa h)
  exact tq rfl rfl
  cases h
  refine Qp rfl y ?_
  refine T.exit (Qk (Qk (Qt (tN ?_))))
  refine T.seq (Qq ?_)
  refine mw rfl ?_
  refine TL'.nil (tN ?_)
  rcases Qe h with ⟨aa, h⟩ | ⟨aa, h⟩
  cases h
  refine Qp rfl aa ?_
  refine T.skip (Ql (tN ?_))
  refine Qq ?_
  refine mw rfl ?_
  refine oI rfl ?_
  refine aw rfl ?_
  refine TL'.nil (tN ?_)
  refine Qh ?_ (hgo0 x1 (wI (w + (1:Int))) x0 flx1 q s w0_1aa h)
  exact tq rfl rfl
theorem E8 {r : Int × Qi} (K bx0 : Nat) : ∀ (k : Nat), ∀ (x1 : List Int) (m : Int) (x0 : Qi) (flx1 : Bool) (b j w0_2aa : Value), Vw K k x1 m x0 = some r → TL tp 122 (ca [1,1,1,0,1,0,0] Tryz.f84) ⟨[(0, .ptr bx0 0), (1, .sl flx1 1 (mI x1)), (9, .c (.ex (.slice none 0 0))), (10, .int .i64 m)], [(Xl bx0 x0.g.First x0.g.P b x0.a.Split.Of x0.a.Split.Many j w0_2aa x0.e), .arrA b 3 1 (mI x0.number), .arrA j 59 2 (mA x0.a.Counts), .arrX w0_2aa 51 4 0 (x0.a.States.map Qc)]⟩ (Cr bx0 r) := by
 intro k
 induction k with
 | zero =>
  intro x1 m x0 flx1 b j w0_2aa h
  exact zn h
 | succ k ih =>
  intro x1 m x0 flx1 b j w0_2aa h
  rw [Vw] at h
  refine Q6 ?_
  refine T.seq ?_
  refine T.seq (Qq ?_)
  refine mw rfl ?_
  refine mw rfl ?_
  refine oU x1 (cI .i64) Zy rfl ?_
  refine oI rfl ?_
  refine TL'.nil (tN ?_)
  rcases Qe h with ⟨s, h⟩ | ⟨s, h⟩
  refine Qr rfl s ?_
  refine T.skip (tN ?_)
  refine T.seq ?_
  refine T.block ?_
  refine T.seq ?_
  refine Yx ?_
  refine dV rfl rfl ?_
  refine dK rfl (.f rfl) rfl ?_
  refine dP rfl (.f rfl) Qea i38 rfl ?_
  refine dS (c := ⟨some 64, .sl false 1 (mI x0.number), [(63, .ptr bx0 (0 + 2))], [(0, (Xl bx0 x0.g.First x0.g.P b x0.a.Split.Of x0.a.Split.Many j w0_2aa x0.e)), (1, .arrA b 3 1 (mI x0.number))], []⟩) (fun t hm => oF rfl rfl (Zq (Zo (i := 0) rfl (dk rfl) Zy rfl hm.s0 hm.o0 rfl rfl) (Mj 64 1 hm.o1) rfl)) rfl rfl ?_
  refine dV rfl rfl ?_
  refine dV rfl rfl ?_
  obtain ⟨q, ab, h⟩ := bind_some h
  refine dX x1 (cI .i64) rfl (.f rfl) Zy i3 ab rfl ?_
  refine dR rfl (.f rfl) ul3 rfl ?_
  obtain ⟨p, ac, h⟩ := bind_some h
  refine dX x0.number (cI .i64) rfl (.f rfl) Zy i3 ac rfl ?_
  refine dR rfl (.f rfl) ul3 rfl ?_
  refine dI rfl (.f rfl) rfl ?_
  refine dF [0,1,3,7,0,0,48,112,255,511,1023] Q3 rfl (by kernel_rfl) (fun u hu => (tN (Qm hu ?_)))
  rcases Qe h with ⟨w, h⟩ | ⟨w, h⟩
  cases h
  refine Qp rfl w ?_
  refine T.skip (Ql (tN ?_))
  refine Qq ?_
  refine mw rfl ?_
  refine oI rfl ?_
  refine aw rfl ?_
  refine TL'.nil (tN ?_)
  refine Qh ?_ (ih x1 (wI (m + (1:Int))) x0 flx1 b j w0_2aa h)
  exact tq rfl rfl
  refine Qp rfl s ?_
  refine T.exit (Qk (Qk (Qt (tN ?_))))
  refine T.seq ?_
  refine T.seq (Qq ?_)
  refine mw rfl ?_
  refine sp rfl (Qgn rfl (dk rfl) Zy rfl ?_)
  refine oI rfl ?_
  refine TL'.nil (tN ?_)
  refine Qp rfl rfl ?_
  refine T.skip (tN ?_)
  refine T.seq ?_
  refine T.seq (Qq ?_)
  refine mw rfl ?_
  refine oK rfl ?_
  refine oP Qea i28 rfl ?_
  refine oP J5 i26 rfl ?_
  refine oL 0 Ja rfl ?_
  refine sp rfl (Hk (i := 3) (xs := x0.a.States) (f := Qc) rfl (dk rfl) Ja rfl rfl ?_)
  refine oI rfl ?_
  refine TL'.nil (tN ?_)
  rcases Qe h with ⟨y, h⟩ | ⟨y, h⟩
  cases h
  refine Qp rfl y ?_
  refine T.skip (tN ?_)
  refine T.seq (Qq ?_)
  refine mw rfl ?_
  refine mw rfl ?_
  refine oK rfl ?_
  refine oP Qea i28 rfl ?_
  refine oP J5 i26 rfl ?_
  refine oL 0 Ja rfl ?_
  refine mw rfl ?_
  refine mw rfl ?_
  refine sp rfl (Zq (OpT.build (l := [.sl flx1 1 (mI x1), .ex (.slice none 0 0), .ex (.slice none 0 0), .ex (.slice none 0 0)]) rfl (dk rfl) (Zu (pl := [(0, 1), (1, 1), (2, 1), (3, 1)]) H1 i51 rfl) (Mi rfl) rfl rfl rfl) (Yd 109 (l := [.sl flx1 1 (mI x1), .ex (.slice none 0 0), .ex (.slice none 0 0), .ex (.slice none 0 0)]) (l' := [.sl false 1 (mI x1), .sl false 1 (([] : List Int).map (cI .i64)), .sl false 1 (([] : List Int).map (cI .i64)), .sl false 1 (([] : List (List Qd)).map (cL 2 Qg))]) (.cons (.full _ _ _) (.cons (.nil _ _) (.cons (.nil _ _) (.cons (.nil _ _) (.refl _)))))) ?_)
  refine sp rfl (OpT.buildSlice (elems := ([(Qa.mk x1 [] [] [])] : List Qa).map Qc) rfl (dk rfl) Ja i51 (by decide) rfl (Mi rfl) rfl rfl rfl (V4 rfl) (by decide) ?_)
  obtain ⟨ad, h⟩ := Zc h
  refine sp rfl (Et (i := 3) (xs := x0.a.States) (ys := [(Qa.mk x1 [] [] [])]) (f := Qc) rfl (dk rfl) Ja i51 rfl rfl rfl rfl ad (fun aa => ?_))
  refine oK rfl ?_
  refine oP Qea i28 rfl ?_
  refine oP J5 i26 rfl ?_
  refine sp rfl (Wl (i := 0) (cells' := (([.d (.sl false 1 (mI x0.g.First)), .d (.sl false 9 (x0.g.P.map Q0)), .d (.ex b)]:List OC) ++ ((Zg.oc 256 .u8 x0.a.Split.Of) ++ (([.d (.int .i64 x0.a.Split.Many), .d (.ex j), .d (.ex aa), .d (.int .i64 x0.e)]:List OC))))) rfl rfl i26 rfl rfl rfl (nb rfl) rfl ?_)
  refine TL'.nil (tN (T.seq (Qq ?_)))
  refine mw rfl ?_
  refine oK rfl ?_
  refine oP Qea i28 rfl ?_
  refine oP J5 i26 rfl ?_
  refine oL 0 Ja rfl ?_
  refine sp rfl (Hk (i := 3) (xs := (x0.a.States ++ [(Qa.mk x1 [] [] [])])) (f := Qc) rfl (dk rfl) Ja rfl rfl ?_)
  refine oI rfl ?_
  refine aw rfl ?_
  refine TL'.nil (tN ?_)
  refine T.ret ?_
  exact Q4 (.cons _ _ _ _ (.tmp 4 _ rfl) .nil) (.cons 0 rfl (.cons 0 rfl (.cons 0 rfl (.cons 0 rfl (.nil _))))) (by cases h; exact ⟨gl [b, j, aa], rfl, rfl⟩)
theorem Fa {r : Int × Qi} (K bx0 : Nat) : ∀ (k : Nat), ∀ (x1 : List Int) (l : Int) (x0 : Qi) (flx1 : Bool) (b j w0_0aa : Value), Xs K k x1 l x0 = some r → TL tp 122 (ca [1,0,1,0,0] Tryz.f84) ⟨[(0, .ptr bx0 0), (1, .sl flx1 1 (mI x1)), (5, .int .i64 l)], [(Xl bx0 x0.g.First x0.g.P b x0.a.Split.Of x0.a.Split.Many j w0_0aa x0.e), .arrA b 3 1 (mI x0.number), .arrA j 59 2 (mA x0.a.Counts), .arrX w0_0aa 51 4 0 (x0.a.States.map Qc)]⟩ (Xy bx0 r) := by
 intro k
 induction k with
 | zero =>
  intro x1 l x0 flx1 b j w0_0aa h
  exact zn h
 | succ k ih =>
  intro x1 l x0 flx1 b j w0_0aa h
  rw [Xs] at h
  refine Q6 ?_
  refine T.seq ?_
  refine T.seq (Qq ?_)
  refine mw rfl ?_
  refine mw rfl ?_
  refine oK rfl ?_
  refine oP Qea i28 rfl ?_
  refine oP J5 i26 rfl ?_
  refine oL 0 Ja rfl ?_
  refine sp rfl (Hk (i := 3) (xs := x0.a.States) (f := Qc) rfl (dk rfl) Ja rfl rfl ?_)
  refine oI rfl ?_
  refine TL'.nil (tN ?_)
  rcases Qe h with ⟨p, h⟩ | ⟨p, h⟩
  refine Qr rfl p ?_
  refine T.skip (tN ?_)
  refine T.seq ?_
  refine T.block ?_
  refine T.seq (Qq ?_)
  refine mw rfl ?_
  refine oK rfl ?_
  refine oP Qea i28 rfl ?_
  refine oP J5 i26 rfl ?_
  refine oL 0 Ja rfl ?_
  refine mw rfl ?_
  obtain ⟨m, q, h⟩ := bind_some h
  refine sp rfl (Ya (n := 3) (xs := x0.a.States) (f := Qc) (old := m) rfl (dk rfl) Ja i51 rfl rfl rfl q ?_)
  refine sp rfl (B5 rfl (dk rfl) H1 rfl i38 (by decide) rfl ?_)
  refine sp rfl (W8 (i := 3) (xs := x0.a.States) (f := Qc) (old := m) rfl (dk rfl) Zy rfl rfl rfl (Zt q).2 rfl ?_)
  refine aw rfl ?_
  refine TL'.nil (tN (T.seq (Qq ?_)))
  refine mw rfl ?_
  refine oU m.L (cI .i64) Zy rfl ?_
  refine mw rfl ?_
  refine oU x1 (cI .i64) Zy rfl ?_
  refine oI rfl ?_
  refine TL'.nil (tN ?_)
  rcases Qe h with ⟨s, h⟩ | ⟨s, h⟩
  refine Qr rfl s ?_
  refine T.seq (Qq ?_)
  refine aw rfl ?_
  refine TL'.nil (tN ?_)
  refine T.seq ?_
  refine T.seq (Qq ?_)
  refine aw rfl ?_
  refine TL'.nil (tN ?_)
  refine T.block ?_
  refine T.loop ?_
  refine Qh ?_ (E9 K bx0 (Xs K k) ih K x1 l m.L true (0:Int) x0 flx1 b j w0_0aa h)
  exact tq rfl rfl
  cases h
  refine Qp rfl p ?_
  refine T.exit (Qk (Qk (Qt (tN ?_))))
  refine T.seq (Qq ?_)
  refine aw rfl ?_
  refine TL'.nil (tN ?_)
  refine T.seq ?_
  refine T.seq (Qq ?_)
  refine aw rfl ?_
  refine TL'.nil (tN ?_)
  refine T.block ?_
  refine T.loop ?_
  refine Qh ?_ (E8 K bx0 K x1 (0:Int) x0 flx1 b j w0_0aa h)
  exact tq rfl rfl
theorem Nz (K : Nat) {x0 : Qi} {x1 : List Int} {bx0 : Nat} {wx0c1 wx0c2c1 wx0c2c2 : Value} {flx1 : Bool} {r : Int × Qi} (h : Gr K x0 x1 = some r) : Us tp 84 [.ptr bx0 0, .sl flx1 1 (mI x1)] [(Xl bx0 x0.g.First x0.g.P wx0c1 x0.a.Split.Of x0.a.Split.Many wx0c2c1 wx0c2c2 x0.e), .arrA wx0c1 3 1 (mI x0.number), .arrA wx0c2c1 59 2 (mA x0.a.Counts), .arrX wx0c2c2 51 4 0 (x0.a.States.map Qc)] (fun γ => (.int .i64 r.1)) (fun γ => [(Xl bx0 r.2.g.First r.2.g.P (γ 0) r.2.a.Split.Of r.2.a.Split.Many (γ 1) (γ 2) r.2.e), .arrA (γ 0) 3 1 (mI r.2.number), .arrA (γ 1) 59 2 (mA r.2.a.Counts), .arrX (γ 2) 51 4 0 (r.2.a.States.map Qc)]) := by
 refine Qu Tryz.func84 rfl (nb rfl) ?_
 show T tp 122 (ca [] Tryz.f84) ⟨Qv 0 [.ptr bx0 0, .sl flx1 1 (mI x1)], [(Xl bx0 x0.g.First x0.g.P wx0c1 x0.a.Split.Of x0.a.Split.Many wx0c2c1 wx0c2c2 x0.e), .arrA wx0c1 3 1 (mI x0.number), .arrA wx0c2c1 59 2 (mA x0.a.Counts), .arrX wx0c2c2 51 4 0 (x0.a.States.map Qc)]⟩ (X4 bx0 r)
 unfold Gr at h
 refine T.seq (Qq ?_)
 refine aw rfl ?_
 refine TL'.nil (tN ?_)
 refine T.seq ?_
 refine T.seq (Qq ?_)
 refine aw rfl ?_
 refine TL'.nil (tN ?_)
 refine T.block ?_
 refine T.loop ?_
 refine Qh ?_ (Fa K bx0 K x1 (1:Int) x0 flx1 wx0c1 wx0c2c1 wx0c2c2 h)
 exact tq rfl rfl
abbrev Wy (bx0 : Nat) (r : Qd × Qi) : ES := Wb tp Tryz.f48 (fun y t => ∃ γ : Nat → Value, y = (.agg [.int .i64 r.1.To, .sl false 1 (mU r.1.Ops)]) ∧ t = [(Xl bx0 r.2.g.First r.2.g.P (γ 0) r.2.a.Split.Of r.2.a.Split.Many (γ 1) (γ 2) r.2.e), .arrA (γ 0) 3 1 (mI r.2.number), .arrA (γ 1) 59 2 (mA r.2.a.Counts), .arrX (γ 2) 51 4 0 (r.2.a.States.map Qc)])
abbrev Cq (bx0 : Nat) (r : Qd × Qi) : ES := thenS (fun s' => T tp 109 (ca [1,1,1,1,1,1] Tryz.f48) s' ((Wy bx0 r))) ((Wy bx0 r))
abbrev Br (bx0 : Nat) (r : Qd × Qi) : ES := Qz 0 ((Cq bx0 r))
theorem E6 {r : Qd × Qi} (K bx0 : Nat) : ∀ (k : Nat), ∀ (x1 x2 : Int) (y b : Int) (x0 : Qi) (j m p : List Int) (q : List (List Qd)) (s : List Int) (u w w0_0aa : Value) (aa ab : Nat) (ad : Value), Yz K k x1 x2 y b x0 j m p q s = some r → TL tp 109 (ca [1,1,1,1,1,0,1,0,0] Tryz.f48) ⟨[(0, .ptr bx0 0), (1, .int .i64 x1), (2, .int .i64 x2), (8, .ptr aa 0), (9, .ptr ab 0), (10, .int .u8 y), (11, .c (.ex ad)), (12, .c (.ex (.slice none 0 0))), (13, .int .i64 b)], [(Xl bx0 x0.g.First x0.g.P u x0.a.Split.Of x0.a.Split.Many w w0_0aa x0.e), .arrA u 3 1 (mI x0.number), .arrA w 59 2 (mA x0.a.Counts), .arrX w0_0aa 51 4 0 (x0.a.States.map Qc), .box aa 54 [.d (.int .i64 (0:Int)), .d (.ex (.slice none 0 0))], (Jz ab j m p q), .arrA ad 3 1 (mI s)]⟩ (Br bx0 r) := by
 intro k
 induction k with
 | zero =>
  intro x1 x2 y b x0 j m p q s u w w0_0aa aa ab ad h
  exact zn h
 | succ k ih =>
  intro x1 x2 y b x0 j m p q s u w w0_0aa aa ab ad h
  rw [Yz] at h
  refine Q6 ?_
  refine T.seq ?_
  refine T.seq (Qq ?_)
  refine mw rfl ?_
  refine mw rfl ?_
  refine oK rfl ?_
  refine oP Qea i43 rfl ?_
  refine oP Qfy i41 rfl ?_
  refine oL 0 Sg rfl ?_
  refine oU x0.g.P Q0 Sg rfl ?_
  refine oI rfl ?_
  refine TL'.nil (tN ?_)
  rcases Qe h with ⟨ai, h⟩ | ⟨ai, h⟩
  refine Qr rfl ai ?_
  refine T.skip (tN ?_)
  refine T.seq ?_
  refine T.block ?_
  refine T.seq ?_
  refine T.seq (Qq ?_)
  refine mw rfl ?_
  refine oK rfl ?_
  refine oP Qea i43 rfl ?_
  refine oP Qfy i41 rfl ?_
  refine oL 0 Sg rfl ?_
  refine mw rfl ?_
  obtain ⟨au, av, h⟩ := bind_some h
  refine oX x0.g.P Q0 Sg i65 av rfl ?_
  refine sp rfl (Uf rfl (dk rfl) ul65 rfl i63 (by decide) rfl ?_)
  refine sp rfl (Zb rfl (dk rfl) Qfx rfl i63 rfl (nb rfl) ?_)
  refine mw rfl ?_
  obtain ⟨a6, ay, h⟩ := bind_some h
  refine sp rfl (Q1 rfl (dk rfl) Tryz.func81 rfl rfl (Q7.cons rfl (Q7.cons rfl Q7.nil)) (Zn.nil (G1 K ay)) ?_)
  refine oT rfl ?_
  refine TL'.nil (tN ?_)
  rcases Qe h with ⟨aj, h⟩ | ⟨aj, h⟩
  refine Qr rfl aj ?_
  refine T.exit (Qk (Qt (tN ?_)))
  refine Qq ?_
  refine mw rfl ?_
  refine oI rfl ?_
  refine aw rfl ?_
  refine TL'.nil (tN ?_)
  refine Qh ?_ (ih x1 x2 y (wI (b + (1:Int))) x0 j m p q s u w w0_0aa aa ab ad h)
  exact tq rfl rfl
  refine Qp rfl aj ?_
  refine T.skip (tN ?_)
  refine T.seq (Qq ?_)
  refine mw rfl ?_
  refine mw rfl ?_
  refine oA 5 [.sl false 1 (mI j), .sl false 1 (mI m), .sl false 1 (mI p), .sl false 1 (q.map (cL 2 Qg))] H1 i51 rfl ?_
  refine mw rfl ?_
  refine mw rfl ?_
  obtain ⟨a7, az, h⟩ := bind_some h
  refine sp rfl (Q8 (is := [0, 1, 2, 3]) (ph := []) rfl (dk rfl) Tryz.func82 rfl rfl (Q7.cons rfl (Q7.cons rfl (Q7.cons rfl (Q7.cons rfl (Q7.cons rfl Q7.nil))))) (F4 K (bx0 := bx0) (wx0c1 := u) (wx0c2c1 := w) (wx0c2c2 := w0_0aa) az) (.cons rfl rfl (.cons rfl rfl (.cons rfl rfl (.cons rfl rfl (.nil))))) (fun _ => rfl) (fun al => ?_))
  refine nm (.c (.c (.c (.c (.c (.c (.c (.n)))))))) ?_
  refine aw rfl ?_
  refine TL'.nil (tN (T.seq (Qq ?_)))
  refine mw rfl ?_
  refine oA 5 [.sl false 1 (mI j), .sl false 1 (mI m), .sl false 1 (mI p), .sl false 1 (q.map (cL 2 Qg))] H1 i51 rfl ?_
  refine mw rfl ?_
  refine mw rfl ?_
  obtain ⟨a8, a0, h⟩ := bind_some h
  refine sp rfl (Q8 (is := [0, 1, 2, 3]) (ph := []) rfl (dk rfl) Tryz.func83 rfl rfl (Q7.cons rfl (Q7.cons rfl (Q7.cons rfl (Q7.cons rfl Q7.nil)))) (I7 K (bx0 := bx0) (wx0c1 := (al 0)) (wx0c2c1 := (al 1)) (wx0c2c2 := (al 2)) a0) (.cons rfl rfl (.cons rfl rfl (.cons rfl rfl (.cons rfl rfl (.nil))))) (fun _ => rfl) (fun af => ?_))
  refine nm (.c (.c (.c (.c (.c (.c (.c (.n)))))))) ?_
  refine aw rfl ?_
  refine TL'.nil (tN ?_)
  refine T.seq ?_
  refine T.seq (Qq ?_)
  refine mw rfl ?_
  refine oT rfl ?_
  refine mw rfl ?_
  rcases Qe h with ⟨ac, h⟩ | ⟨ac, h⟩
  refine sn rfl ac (OpT.move rfl (dk rfl) rfl ?_)
  refine sn rfl ac (OpT.not rfl (dk rfl) rfl ?_)
  refine oY ac rfl ?_
  refine TL'.nil (tN ?_)
  rcases Qe h with ⟨ap, h⟩ | ⟨ap, h⟩
  refine Qr rfl ap ?_
  refine T.exit (Qk (Qt (tN ?_)))
  refine Qq ?_
  refine mw rfl ?_
  refine oI rfl ?_
  refine aw rfl ?_
  refine TL'.nil (tN ?_)
  refine Qh ?_ (ih x1 x2 y (wI (b + (1:Int))) x0 j m p q s (af 0) (af 1) (af 2) aa ab ad h)
  exact tq rfl rfl
  cases h
  refine pf rfl ac ?_
  refine pf rfl ac ?_
  refine oZ ac rfl ?_
  refine TL'.nil (tN ?_)
  refine Qp rfl rfl ?_
  refine T.skip (tN ?_)
  refine T.seq (Qq ?_)
  refine mw rfl ?_
  refine mw rfl ?_
  refine sp rfl (OpT.buildSlice (elems := ([b] : List Int).map (cI .i64)) rfl (dk rfl) Zy i3 (by decide) rfl (Mi rfl) rfl rfl rfl (V4 rfl) (by decide) ?_)
  obtain ⟨a1, h⟩ := Zc h
  refine sp rfl (Zv (i := 6) (xs := s) (ys := [b]) (f := (cI .i64)) rfl (dk rfl) Zy i3 rfl rfl rfl rfl a1 (fun a2 => ?_))
  refine aw rfl ?_
  refine TL'.nil (tN ?_)
  refine T.seq ?_
  refine T.seq (Qq ?_)
  refine mw rfl ?_
  refine oK rfl ?_
  refine oP Qea i38 rfl ?_
  refine sp rfl (Zq (Zo (i := 0) rfl (dk rfl) Zy rfl rfl rfl rfl rfl) (Mj 79 1 rfl) ?_)
  refine mw rfl ?_
  obtain ⟨a3, a4, h⟩ := bind_some h
  refine oX x0.number (cI .i64) Zy i3 a4 rfl ?_
  refine oR ul3 rfl ?_
  refine oI rfl ?_
  refine TL'.nil (tN ?_)
  rcases Qe h with ⟨aq, h⟩ | ⟨aq, h⟩
  refine Qr rfl aq ?_
  refine T.exit (Qk (Qt (tN ?_)))
  refine Qq ?_
  refine mw rfl ?_
  refine oI rfl ?_
  refine aw rfl ?_
  refine TL'.nil (tN ?_)
  refine Qh ?_ (ih x1 x2 y (wI (b + (1:Int))) x0 j m p q (s ++ [b]) (af 0) (af 1) (af 2) aa ab a2 h)
  exact tq rfl rfl
  cases h
  refine Qp rfl ai ?_
  refine T.exit (Qk (Qk (Qt (tN ?_))))
  refine T.seq ?_
  refine T.seq (Qq ?_)
  refine mw rfl ?_
  refine sp rfl (Lx (i := 6) (xs := s) (f := (cI .i64)) rfl (dk rfl) Zy rfl rfl ?_)
  refine oI rfl ?_
  refine TL'.nil (tN ?_)
  rcases Qe h with ⟨am, h⟩ | ⟨am, h⟩
  refine Qr rfl am ?_
  refine T.seq (Qq ?_)
  refine sp rfl (Zq (OpT.build (l := [.int .i64 (-1:Int), .ex (.slice none 0 0)]) rfl (dk rfl) (Zu (pl := [(0, 1), (1, 1)]) Cl i54 rfl) (Mi rfl) rfl rfl rfl) (Yd 103 (l := [.int .i64 (-1:Int), .ex (.slice none 0 0)]) (l' := [.int .i64 (-1:Int), .sl false 1 (([] : List Int).map (cI .u8))]) (.cons (.same _) (.cons (.nil _ _) (.refl _)))) ?_)
  refine sp rfl (Qx (i := 4) (cells' := [.d (.int .i64 (-1:Int)), .d (.sl false 1 (([] : List Int).map (cI .u8)))]) rfl rfl i54 rfl rfl rfl rfl (nb rfl) rfl ?_)
  refine TL'.nil (tN ?_)
  refine T.ret (Qw ?_)
  exact Q4 (.cons _ _ _ _ (.cellAgg 8 54 _ 0 4 54 _ [.int .i64 (-1:Int), .sl false 1 (([] : List Int).map (cI .u8))] _ _ 2 _ rfl rfl rfl rfl Cl rfl i54) .nil) (.cons 0 rfl (.cons 0 rfl (.cons 0 rfl (.cons 0 rfl (.nil _))))) (by cases h; exact ⟨gl [u, w, w0_0aa], rfl, rfl⟩)
  refine Qp rfl am ?_
  refine T.skip (tN ?_)
  refine T.seq (Qq ?_)
  refine mw rfl ?_
  refine mw rfl ?_
  obtain ⟨ag, a5, h⟩ := bind_some h
  refine sp rfl (Q8 (is := [0, 1, 2, 3]) (ph := []) rfl (dk rfl) Tryz.func84 rfl rfl (Q7.cons rfl (Q7.view (i := 6) rfl rfl Q7.nil)) (Nz K (bx0 := bx0) (wx0c1 := u) (wx0c2c1 := w) (wx0c2c2 := w0_0aa) (flx1 := false) a5) (.cons rfl rfl (.cons rfl rfl (.cons rfl rfl (.cons rfl rfl (.nil))))) (fun _ => rfl) (fun an => ?_))
  refine nm (.c (.c (.c (.c (.c (.c (.c (.n)))))))) ?_
  refine mw rfl ?_
  refine sp rfl (Zq (OpT.build (l := [.int .i64 ag.1, .ex (.slice none 0 0)]) rfl (dk rfl) (Zu (pl := [(0, 1), (1, 1)]) Cl i54 rfl) (Mi rfl) rfl rfl rfl) (Yd 108 (l := [.int .i64 ag.1, .ex (.slice none 0 0)]) (l' := [.int .i64 ag.1, .sl false 1 (([] : List Int).map (cI .u8))]) (.cons (.same _) (.cons (.nil _ _) (.refl _)))) ?_)
  refine sp rfl (Qx (i := 4) (cells' := [.d (.int .i64 ag.1), .d (.sl false 1 (([] : List Int).map (cI .u8)))]) rfl rfl i54 rfl rfl rfl rfl (nb rfl) rfl ?_)
  refine TL'.nil (tN ?_)
  refine T.ret ?_
  exact Q4 (.cons _ _ _ _ (.cellAgg 8 54 _ 0 4 54 _ [.int .i64 ag.1, .sl false 1 (([] : List Int).map (cI .u8))] _ _ 2 _ rfl rfl rfl rfl Cl rfl i54) .nil) (.cons 0 rfl (.cons 0 rfl (.cons 0 rfl (.cons 0 rfl (.nil _))))) (by cases h; exact ⟨gl [an 0, an 1, an 2], rfl, rfl⟩)
theorem Ny (K : Nat) {x0 : Qi} {x1 x2 x3 : Int} {bx0 : Nat} {wx0c1 wx0c2c1 wx0c2c2 : Value} {r : Qd × Qi} (h : Gp K x0 x1 x2 x3 = some r) : Us tp 48 [.ptr bx0 0, .int .i64 x1, .int .i64 x2, .int .i64 x3] [(Xl bx0 x0.g.First x0.g.P wx0c1 x0.a.Split.Of x0.a.Split.Many wx0c2c1 wx0c2c2 x0.e), .arrA wx0c1 3 1 (mI x0.number), .arrA wx0c2c1 59 2 (mA x0.a.Counts), .arrX wx0c2c2 51 4 0 (x0.a.States.map Qc)] (fun γ => (.agg [.int .i64 r.1.To, .sl false 1 (mU r.1.Ops)])) (fun γ => [(Xl bx0 r.2.g.First r.2.g.P (γ 0) r.2.a.Split.Of r.2.a.Split.Many (γ 1) (γ 2) r.2.e), .arrA (γ 0) 3 1 (mI r.2.number), .arrA (γ 1) 59 2 (mA r.2.a.Counts), .arrX (γ 2) 51 4 0 (r.2.a.States.map Qc)]) := by
 refine Qu Tryz.func48 rfl (nb rfl) ?_
 show T tp 109 (ca [] Tryz.f48) ⟨Qv 0 [.ptr bx0 0, .int .i64 x1, .int .i64 x2, .int .i64 x3], [(Xl bx0 x0.g.First x0.g.P wx0c1 x0.a.Split.Of x0.a.Split.Many wx0c2c1 wx0c2c2 x0.e), .arrA wx0c1 3 1 (mI x0.number), .arrA wx0c2c1 59 2 (mA x0.a.Counts), .arrX wx0c2c2 51 4 0 (x0.a.States.map Qc)]⟩ (Wy bx0 r)
 unfold Gp at h
 refine T.seq (Qq ?_)
 refine sp rfl (Ze rfl (dk rfl) i54 rfl (fun p => ?_))
 refine TL'.nil (tN (T.seq (Qq ?_)))
 refine mw rfl ?_
 refine oK rfl ?_
 refine oP Qea i28 rfl ?_
 refine oP J5 i26 rfl ?_
 refine oL 1 Ja rfl ?_
 refine mw rfl ?_
 obtain ⟨b, j, h⟩ := bind_some h
 refine sp rfl (Ya (n := 4) (xs := x0.a.States) (f := Qc) (old := b) rfl (dk rfl) Ja i51 rfl rfl rfl j ?_)
 refine sp rfl (Qd7 (i := 4) (xs := x0.a.States) (f := Qc) (old := b) (l := [.sl false 1 (mI b.L), .sl false 1 (mI b.R), .sl false 1 (mI b.Rule), .sl false 1 (b.Next.map (cL 2 Qg))]) rfl (dk rfl) H1 rfl i51 rfl rfl (Zt j).2 rfl rfl ?_)
 refine sp rfl (Ze rfl (dk rfl) i51 rfl (fun q => ?_))
 refine sp rfl (Qx (i := 0) (cells' := [.d (.sl false 1 (mI b.L)), .d (.sl false 1 (mI b.R)), .d (.sl false 1 (mI b.Rule)), .d (.sl false 1 (b.Next.map (cL 2 Qg)))]) rfl rfl i51 rfl rfl rfl rfl (nb rfl) rfl ?_)
 refine TL'.nil (tN (T.seq (Qq ?_)))
 refine mw rfl ?_
 refine oK rfl ?_
 refine oP Qea i28 rfl ?_
 refine oP J5 i24 rfl ?_
 refine oA 2 ((Zg.dc 256 .u8 x0.a.Split.Of) ++ (([.int .i64 x0.a.Split.Many] : List DC))) Qfs i24 rfl ?_
 obtain ⟨u, w, h⟩ := bind_some h
 refine sp rfl (Q1 rfl (dk rfl) Tryz.func80 rfl rfl (Q7.cons rfl Q7.nil) (Zn.nil (Qcy K w)) ?_)
 refine mw rfl ?_
 obtain ⟨m, y, h⟩ := bind_some h
 refine oX u (cI .u8) Dp i5 y rfl ?_
 refine oR ul5 rfl ?_
 refine aw rfl ?_
 refine TL'.nil (tN (T.seq (Qq ?_)))
 refine aw rfl ?_
 refine TL'.nil (tN (T.seq (Qq ?_)))
 refine aw rfl ?_
 refine TL'.nil (tN ?_)
 refine T.seq ?_
 refine T.seq (Qq ?_)
 refine aw rfl ?_
 refine TL'.nil (tN ?_)
 refine T.block ?_
 refine T.loop ?_
 refine Qh (Xu 3 1) ?_
 refine Qh ?_ (E6 K bx0 K x1 x2 m (0:Int) x0 b.L b.R b.Rule b.Next [] wx0c1 wx0c2c1 wx0c2c2 p q (Qeb 2) h)
 exact tr rfl (.c (.s (.s (.s .z))) (.c (.s (.s (.s .z))) (.c (.s (.s (.s .z))) (.c (.s (.s (.s .z))) (.c (.s (.s .z)) (.c (.s .z) (.c .z (.n _))))))))
abbrev Ls (r : Qn × Int) : ES := Wb tp Tryz.f20 (fun y t => y = (.tup [.agg ((Zg.dc 256 .u8 r.1.Split.Of) ++ (([.int .i64 r.1.Split.Many, .sl false 2 (mA r.1.Counts), .sl false 4 (r.1.States.map Qc)] : List DC))), .int .i64 r.2]) ∧ t = [])
abbrev Oq (r : Qn × Int) : ES := thenS (fun s' => T tp 198 (ca [1,1,1,1,1,1,1,1] Tryz.f20) s' ((Ls r))) ((Ls r))
abbrev Vy (r : Qn × Int) : ES := Qz 2 ((Oq r))
abbrev Ks (r : Qn × Int) : ES := thenS (fun s' => TL tp 198 (ca [1,1,1,1,1,1,1,0,1,0,0] Tryz.f20) s' ((Vy r))) ((Vy r))
abbrev El (r : Qn × Int) : ES := thenS (fun s' => T tp 198 (ca [1,1,1,1,1,1,1,0,1,0,0,1,1] Tryz.f20) s' ((Ks r))) ((Ks r))
abbrev Wu (r : Qn × Int) : ES := Qz 3 ((El r))
abbrev Bs (r : Qn × Int) : ES := thenS (fun s' => T tp 198 (ca [1,1,1,1,1,1,1,0,1,0,0,1,0,0,1,1,1,1] Tryz.f20) s' ((Wu r))) ((Wu r))
abbrev Ym (r : Qn × Int) : ES := Qz 4 ((Bs r))
abbrev Jn (r : Qn × Int) : ES := thenS (fun s' => TL tp 198 (ca [1,1,1,1,1,1,1,0,1,0,0,1,0,0,1,1,1,0,1,0,0] Tryz.f20) s' ((Ym r))) ((Ym r))
abbrev Kl (r : Qn × Int) : ES := thenS (fun s' => T tp 198 (ca [1,1,1,1,1,1,1,0,1,0,0,1,0,0,1,1,1,0,1,0,0,1,1] Tryz.f20) s' ((Jn r))) ((Jn r))
abbrev Vf (r : Qn × Int) : ES := Qz 5 ((Kl r))
abbrev G6 (r : Qn × Int) : ES := thenS (fun s' => T tp 198 (ca [1,1,1,1,1,1,1,0,1,0,0,1,0,0,1,1,1,0,1,0,0,1,0,0,1,1,1] Tryz.f20) s' ((Vf r))) ((Vf r))
abbrev Jo (r : Qn × Int) : ES := Qz 6 ((G6 r))
abbrev Tg (r : Qn × Int) : ES := thenS (fun s' => T tp 198 (ca [1,1,1,1,1] Tryz.f20) s' ((Ls r))) ((Ls r))
abbrev Py (r : Qn × Int) : ES := Qz 0 ((Tg r))
abbrev Qcf (r : Qn × Int) (go : Int → Int → Int → Zg → (List Int) → (List Zp) → Zg → Int → Int → (List Int) → (List Vg) → (List Qa) → (List Int) → (List (List Qd)) → Option (Qn × Int)) : Prop := ∀ (a b f : Int) (g : Zg) (i : List Int) (j : List Zp) (l : Zg) (m n : Int) (p : List Int) (q : List Vg) (s : List Qa) (u : List Int) (v : List (List Qd)) (w y : Nat) (z aa : Value) (w4_2aa ab ac : Value), go a b f g i j l m n p q s u v = some r → TL tp 198 (ca [1,1,1,1,1,1,1,0,1,0,0,1,0,0,1,1,1,0,1,0,0] Tryz.f20) ⟨[(2, .ptr w 0), (4, .ptr y 0), (7, .int .i64 a), (8, .int .i64 b), (9, .c (.ex ab)), (10, .c (.ex ac)), (11, .int .i64 f)], [(Qgf w g (0:Int) (.slice none 0 0) (.slice none 0 0)), (Xl y i j z l m aa w4_2aa n), .arrA z 3 1 (mI p), .arrA aa 59 2 (mA q), .arrX w4_2aa 51 4 0 (s.map Qc), .arrA ab 3 1 (mI u), .arrA ac 55 1 (v.map (cL 2 Qg))]⟩ (Ym r)
theorem Qcd {r : Qn × Int} (K : Nat) (go2 : Int → Int → Int → Zg → (List Int) → (List Zp) → Zg → Int → Int → (List Int) → (List Vg) → (List Qa) → (List Int) → (List (List Qd)) → Option (Qn × Int)) (hgo2 : Qcf r go2) : ∀ (k : Nat), ∀ (p q : Int) (s ac : Int) (u : Zg) (ad : List Int) (af : List Zp) (ag : Zg) (ai aj : Int) (al : List Int) (am : List Vg) (an : List Qa) (v : List Int) (l : List (List Qd)) (j : List Qd) (w m : Nat) (y aa : Value) (w4_3aa ab : Value) (ap aq : Value), K5 K go2 k p q s ac u ad af ag ai aj al am an v l j = some r → TL tp 198 (ca [1,1,1,1,1,1,1,0,1,0,0,1,0,0,1,1,1,0,1,0,0,1,0,0,1,1,0,1,0,0] Tryz.f20) ⟨[(2, .ptr w 0), (4, .ptr m 0), (7, .int .i64 p), (8, .int .i64 q), (9, .c (.ex ab)), (10, .c (.ex ap)), (11, .int .i64 s), (12, .c (.ex aq)), (13, .int .i64 ac)], [(Qgf w u (0:Int) (.slice none 0 0) (.slice none 0 0)), (Xl m ad af y ag ai aa w4_3aa aj), .arrA y 3 1 (mI al), .arrA aa 59 2 (mA am), .arrX w4_3aa 51 4 0 (an.map Qc), .arrA ab 3 1 (mI v), .arrA ap 55 1 (l.map (cL 2 Qg)), .arrA aq 54 2 (j.map Qg)]⟩ (Jo r) := by
 intro k
 induction k with
 | zero =>
  intro p q s ac u ad af ag ai aj al am an v l j w m y aa w4_3aa ab ap aq h
  exact zn h
 | succ k ih =>
  intro p q s ac u ad af ag ai aj al am an v l j w m y aa w4_3aa ab ap aq h
  rw [K5] at h
  refine Q6 ?_
  refine T.seq ?_
  refine T.seq (Qq ?_)
  refine mw rfl ?_
  refine mw rfl ?_
  refine oK rfl ?_
  refine oP Qea i28 rfl ?_
  refine oP J5 i24 rfl ?_
  refine oP Qfs i3 rfl ?_
  refine oL 1 ul3 rfl ?_
  refine oI rfl ?_
  refine TL'.nil (tN ?_)
  rcases Qe h with ⟨au, h⟩ | ⟨au, h⟩
  refine Qr rfl au ?_
  refine T.skip (tN ?_)
  refine T.seq ?_
  refine T.block ?_
  refine T.seq (Qq ?_)
  iterate 5 refine mw rfl ?_
  obtain ⟨b, az, h⟩ := bind_some h
  refine sp rfl (Q8 (is := [1, 2, 3, 4]) (ph := []) rfl (dk rfl) Tryz.func48 rfl rfl (Q7.cons rfl (Q7.cons rfl (Q7.cons rfl (Q7.cons rfl Q7.nil)))) (Ny K (bx0 := m) (wx0c1 := y) (wx0c2c1 := aa) (wx0c2c2 := w4_3aa) az) (.cons rfl rfl (.cons rfl rfl (.cons rfl rfl (.cons rfl rfl (.nil))))) (fun _ => rfl) (fun av => ?_))
  refine nm (.c (.c (.c (.c (.c (.c (.c (.c (.n))))))))) ?_
  refine sp rfl (OpT.buildSlice (elems := ([b.1] : List Qd).map Qg) rfl (dk rfl) Oa i54 (by decide) rfl (Mi rfl) rfl rfl rfl (V4 rfl) (by decide) ?_)
  obtain ⟨a0, h⟩ := Zc h
  refine sp rfl (Zv (i := 7) (xs := j) (ys := [b.1]) (f := Qg) rfl (dk rfl) Oa i54 rfl rfl rfl rfl a0 (fun a1 => ?_))
  refine aw rfl ?_
  refine TL'.nil (tN (T.seq (Qq ?_)))
  refine mw rfl ?_
  refine oK rfl ?_
  refine oP Qea i30 rfl ?_
  refine oL 1 ul30 rfl ?_
  refine oI rfl ?_
  refine TL'.nil (tN ?_)
  rcases Qe h with ⟨ay, h⟩ | ⟨ay, h⟩
  cases h
  refine Qp rfl ay ?_
  refine T.skip (Ql (tN ?_))
  refine Qq ?_
  refine mw rfl ?_
  refine oI rfl ?_
  refine aw rfl ?_
  refine TL'.nil (tN ?_)
  refine Qh ?_ (ih p q s (wI (ac + (1:Int))) u b.2.g.First b.2.g.P b.2.a.Split.Of b.2.a.Split.Many b.2.e b.2.number b.2.a.Counts b.2.a.States v l (j ++ [b.1]) w m (av 0) (av 1) (av 2) ab ap a1 h)
  exact tq rfl rfl
  refine Qp rfl au ?_
  refine T.exit (Qk (Qk (Qt (tN ?_))))
  refine Qq ?_
  refine mw rfl ?_
  refine mw rfl ?_
  refine Hj (Z5.view 173 7 rfl rfl) ?_
  refine sp rfl (OpT.buildSlice (elems := ([j] : List (List Qd)).map (cL 2 Qg)) rfl (dk rfl) Rg i55 (by decide) rfl (Mi rfl) rfl rfl rfl (V4 rfl) (by decide) ?_)
  obtain ⟨a2, h⟩ := Zc h
  refine sp rfl (Zv (i := 6) (xs := l) (ys := [j]) (f := (cL 2 Qg)) rfl (dk rfl) Rg i55 rfl rfl rfl rfl a2 (fun a3 => ?_))
  refine aw rfl ?_
  refine TL'.nil (Ql (tN ?_))
  refine Qq ?_
  refine mw rfl ?_
  refine oI rfl ?_
  refine aw rfl ?_
  refine TL'.nil (tN ?_)
  refine Qh ?_ (hgo2 p q (wI (s + (1:Int))) u ad af ag ai aj al am an v (l ++ [j]) w m y aa w4_3aa ab a3 h)
  exact tq rfl rfl
abbrev Qch (r : Qn × Int) (go : Int → Zg → (List Int) → (List Zp) → Zg → Int → Int → (List Int) → (List Vg) → (List Qa) → Option (Qn × Int)) : Prop := ∀ (a : Int) (b : Zg) (c : List Int) (f : List Zp) (g : Zg) (i j : Int) (l : List Int) (m : List Vg) (n : List Qa) (p q : Nat) (s u w4_1aa : Value), go a b c f g i j l m n = some r → TL tp 198 (ca [1,1,1,1,1,1,1,0,1,0,0] Tryz.f20) ⟨[(2, .ptr p 0), (4, .ptr q 0), (7, .int .i64 a)], [(Qgf p b (0:Int) (.slice none 0 0) (.slice none 0 0)), (Xl q c f s g i u w4_1aa j), .arrA s 3 1 (mI l), .arrA u 59 2 (mA m), .arrX w4_1aa 51 4 0 (n.map Qc)]⟩ (Vy r)
theorem Qce {r : Qn × Int} (K : Nat) (go1 : Int → Zg → (List Int) → (List Zp) → Zg → Int → Int → (List Int) → (List Vg) → (List Qa) → Option (Qn × Int)) (hgo1 : Qch r go1) : ∀ (k : Nat), ∀ (g al am : Int) (u : Zg) (v : List Int) (w : List Zp) (y : Zg) (aa ab : Int) (ac : List Int) (ad : List Vg) (b : List Qa) (j : List Int) (p : List (List Qd)) (af q : Nat) (ag ai : Value) (w4_2aa ap an : Value), Gs K go1 k g al am u v w y aa ab ac ad b j p = some r → TL tp 198 (ca [1,1,1,1,1,1,1,0,1,0,0,1,0,0,1,1,1,0,1,0,0] Tryz.f20) ⟨[(2, .ptr af 0), (4, .ptr q 0), (7, .int .i64 g), (8, .int .i64 al), (9, .c (.ex ap)), (10, .c (.ex an)), (11, .int .i64 am)], [(Qgf af u (0:Int) (.slice none 0 0) (.slice none 0 0)), (Xl q v w ag y aa ai w4_2aa ab), .arrA ag 3 1 (mI ac), .arrA ai 59 2 (mA ad), .arrX w4_2aa 51 4 0 (b.map Qc), .arrA ap 3 1 (mI j), .arrA an 55 1 (p.map (cL 2 Qg))]⟩ (Ym r) := by
 intro k
 induction k with
 | zero =>
  intro g al am u v w y aa ab ac ad b j p af q ag ai w4_2aa ap an h
  exact zn h
 | succ k ih =>
  intro g al am u v w y aa ab ac ad b j p af q ag ai w4_2aa ap an h
  rw [Gs] at h
  refine Q6 ?_
  refine T.seq ?_
  refine T.seq (Qq ?_)
  refine mw rfl ?_
  refine mw rfl ?_
  refine oI rfl ?_
  refine TL'.nil (tN ?_)
  rcases Qe h with ⟨aq, h⟩ | ⟨aq, h⟩
  refine Qr rfl aq ?_
  refine T.skip (tN ?_)
  refine T.seq ?_
  refine T.block ?_
  refine T.seq (Qq ?_)
  iterate 3 refine mw rfl ?_
  refine oK rfl ?_
  refine oP Qea i28 rfl ?_
  refine oP J5 i26 rfl ?_
  refine oL 1 Ja rfl ?_
  refine mw rfl ?_
  obtain ⟨aj, ay, h⟩ := bind_some h
  refine sp rfl (Ya (n := 4) (xs := b) (f := Qc) (old := aj) rfl (dk rfl) Ja i51 rfl rfl rfl ay ?_)
  refine sp rfl (Qd7 (i := 4) (xs := b) (f := Qc) (old := aj) (l := [.sl false 1 (mI aj.L), .sl false 1 (mI aj.R), .sl false 1 (mI aj.Rule), .sl false 1 (aj.Next.map (cL 2 Qg))]) rfl (dk rfl) H1 rfl i51 rfl rfl (Zt ay).2 rfl rfl ?_)
  refine mw rfl ?_
  obtain ⟨au, a1, h⟩ := bind_some h
  refine sp rfl (Q8 (is := [1, 2, 3, 4]) (ph := []) rfl (dk rfl) Tryz.func47 rfl rfl (Q7.cons rfl (Q7.cons rfl (Q7.cons rfl Q7.nil))) (Nw K (bx0 := q) (wx0c1 := ag) (wx0c2c1 := ai) (wx0c2c2 := w4_2aa) a1) (.cons rfl rfl (.cons rfl rfl (.cons rfl rfl (.cons rfl rfl (.nil))))) (fun _ => rfl) (fun av => ?_))
  refine nm (.c (.c (.c (.c (.c (.c (.c (.n)))))))) ?_
  refine sp rfl (OpT.buildSlice (elems := ([au] : List Int).map (cI .i64)) rfl (dk rfl) Zy i3 (by decide) rfl (Mi rfl) rfl rfl rfl (V4 rfl) (by decide) ?_)
  obtain ⟨a2, h⟩ := Zc h
  refine sp rfl (Zv (i := 5) (xs := j) (ys := [au]) (f := (cI .i64)) rfl (dk rfl) Zy i3 rfl rfl rfl rfl a2 (fun a3 => ?_))
  refine aw rfl ?_
  refine TL'.nil (tN (T.seq (Qq ?_)))
  refine aw rfl ?_
  refine TL'.nil (tN ?_)
  refine T.seq ?_
  refine T.seq (Qq ?_)
  refine aw rfl ?_
  refine TL'.nil (tN ?_)
  refine T.block ?_
  refine T.loop ?_
  refine Qh (Xu 54 2) ?_
  refine Qh ?_ (Qcd K (Gs K go1 k) ih K g al am (0:Int) u v w y aa ab ac ad b (j ++ [au]) p [] af q (av 0) (av 1) (av 2) a3 an (Qeb 20) h)
  exact tr rfl (.c (.s .z) (.c (.s .z) (.c (.s .z) (.c (.s .z) (.c (.s .z) (.c (.s .z) (.c (.s .z) (.c .z (.n _)))))))))
  refine Qp rfl aq ?_
  refine T.exit (Qk (Qk (Qt (tN ?_))))
  refine T.seq (Qq ?_)
  refine mw rfl ?_
  refine oK rfl ?_
  refine oP Qea i28 rfl ?_
  refine oP J5 i26 rfl ?_
  refine oL 1 Ja rfl ?_
  refine mw rfl ?_
  refine mw rfl ?_
  obtain ⟨a, az, h⟩ := bind_some h
  refine sp rfl (Ya (n := 4) (xs := b) (f := Qc) (old := a) rfl (dk rfl) Ja i51 rfl rfl rfl az ?_)
  refine sp rfl (B5 rfl (dk rfl) H1 rfl i38 (by decide) rfl ?_)
  refine Hj (Z5.view 182 5 rfl rfl) ?_
  refine sp rfl (Ht (i := 4) (xs := b) (f := Qc) (old := a) (new := (Qa.mk a.L a.R j a.Next)) rfl rfl i38 rfl rfl rfl (Zt az).2 (Nat.zero_le _) (nb rfl) rfl ?_)
  refine TL'.nil (tN ?_)
  refine Qq ?_
  refine mw rfl ?_
  refine oK rfl ?_
  refine oP Qea i28 rfl ?_
  refine oP J5 i26 rfl ?_
  refine oL 1 Ja rfl ?_
  refine mw rfl ?_
  refine mw rfl ?_
  obtain ⟨m, a0, h⟩ := bind_some h
  refine sp rfl (Ya (n := 4) (xs := (List.set b (Int.toNat g) (Qa.mk a.L a.R j a.Next))) (f := Qc) (old := m) rfl (dk rfl) Ja i51 rfl rfl rfl a0 ?_)
  refine sp rfl (B5 rfl (dk rfl) H1 rfl i49 (by decide) rfl ?_)
  refine Hj (Z5.view 191 6 rfl rfl) ?_
  refine sp rfl (Ht (i := 4) (xs := (List.set b (Int.toNat g) (Qa.mk a.L a.R j a.Next))) (f := Qc) (old := m) (new := (Qa.mk m.L m.R m.Rule p)) rfl rfl i49 rfl rfl rfl (Zt a0).2 (Nat.zero_le _) (nb rfl) rfl ?_)
  refine TL'.nil (Ql (tN ?_))
  refine Qq ?_
  refine mw rfl ?_
  refine oI rfl ?_
  refine aw rfl ?_
  refine TL'.nil (tN ?_)
  refine Qh ?_ (hgo1 (wI (g + (1:Int))) u v w y aa ab ac ad (List.set (List.set b (Int.toNat g) (Qa.mk a.L a.R j a.Next)) (Int.toNat g) (Qa.mk m.L m.R m.Rule p)) af q ag ai w4_2aa h)
  exact tq rfl rfl
theorem Qcg {r : Qn × Int} (K : Nat) : ∀ (k : Nat), ∀ (p : Int) (q : Zg) (u : List Int) (v : List Zp) (b : Zg) (g w : Int) (y : List Int) (j : List Vg) (a : List Qa) (aa ab : Nat) (ac m w4_1aa : Value), Gt K k p q u v b g w y j a = some r → TL tp 198 (ca [1,1,1,1,1,1,1,0,1,0,0] Tryz.f20) ⟨[(2, .ptr aa 0), (4, .ptr ab 0), (7, .int .i64 p)], [(Qgf aa q (0:Int) (.slice none 0 0) (.slice none 0 0)), (Xl ab u v ac b g m w4_1aa w), .arrA ac 3 1 (mI y), .arrA m 59 2 (mA j), .arrX w4_1aa 51 4 0 (a.map Qc)]⟩ (Vy r) := by
 intro k
 induction k with
 | zero =>
  intro p q u v b g w y j a aa ab ac m w4_1aa h
  exact zn h
 | succ k ih =>
  intro p q u v b g w y j a aa ab ac m w4_1aa h
  rw [Gt] at h
  refine Q6 ?_
  refine T.seq ?_
  refine T.seq (Qq ?_)
  refine mw rfl ?_
  refine mw rfl ?_
  refine oK rfl ?_
  refine oP Qea i28 rfl ?_
  refine oP J5 i26 rfl ?_
  refine oL 1 Ja rfl ?_
  refine sp rfl (Hk (i := 4) (xs := a) (f := Qc) rfl (dk rfl) Ja rfl rfl ?_)
  refine oI rfl ?_
  refine TL'.nil (tN ?_)
  rcases Qe h with ⟨ad, h⟩ | ⟨ad, h⟩
  refine Qr rfl ad ?_
  refine T.skip (tN ?_)
  refine T.seq ?_
  refine T.block ?_
  refine T.seq (Qq ?_)
  refine mw rfl ?_
  refine oK rfl ?_
  refine oP Qea i28 rfl ?_
  refine oP J5 i26 rfl ?_
  refine oL 1 Ja rfl ?_
  refine mw rfl ?_
  obtain ⟨af, ag, h⟩ := bind_some h
  refine sp rfl (Ya (n := 4) (xs := a) (f := Qc) (old := af) rfl (dk rfl) Ja i51 rfl rfl rfl ag ?_)
  refine sp rfl (B5 rfl (dk rfl) H1 rfl i38 (by decide) rfl ?_)
  refine sp rfl (W8 (i := 4) (xs := a) (f := Qc) (old := af) rfl (dk rfl) Zy rfl rfl rfl (Zt ag).2 rfl ?_)
  refine oU af.R (cI .i64) Zy rfl ?_
  obtain ⟨ai, aj, h⟩ := bind_some h
  refine sp rfl (Q1 rfl (dk rfl) Tryz.func46 rfl rfl (Q7.cons rfl Q7.nil) (Zn.nil (I8 K aj)) ?_)
  refine aw rfl ?_
  refine TL'.nil (tN (T.seq (Qq ?_)))
  refine aw rfl ?_
  refine TL'.nil (tN (T.seq (Qq ?_)))
  refine aw rfl ?_
  refine TL'.nil (tN ?_)
  refine T.seq ?_
  refine T.seq (Qq ?_)
  refine aw rfl ?_
  refine TL'.nil (tN ?_)
  refine T.block ?_
  refine T.loop ?_
  refine Qh (Xu 3 1) ?_
  refine Qh (Xu 55 1) ?_
  refine Qh ?_ (Qce K (Gt K k) ih K p ai (0:Int) q u v b g w y j a [] [] aa ab ac m w4_1aa (Qeb 18) (Qeb 19) h)
  exact tr rfl (.c (.s (.s .z)) (.c (.s (.s .z)) (.c (.s (.s .z)) (.c (.s (.s .z)) (.c (.s (.s .z)) (.c (.s .z) (.c .z (.n _))))))))
  refine Qp rfl ad ?_
  refine T.exit (Qk (Qk (Qt (tN ?_))))
  refine T.seq (Qq ?_)
  refine mw rfl ?_
  refine oK rfl ?_
  refine oP Qea i28 rfl ?_
  refine Hj (L4 4 rfl) ?_
  refine sp rfl (Zq (Jt (i := 1) (l := ((Zg.dc 256 .u8 b) ++ (([.int .i64 g, .ex m, .ex w4_1aa] : List DC)))) rfl (dk rfl) J5 rfl i28 rfl rfl rfl rfl rfl) (Yd 197 (l := ((Zg.dc 256 .u8 b) ++ (([.int .i64 g, .ex m, .ex w4_1aa] : List DC)))) (l' := ((Zg.dc 256 .u8 b) ++ (([.int .i64 g, .sl false 2 (mA j), .sl false 4 (a.map Qc)] : List DC)))) (.app _ (.cons (.same _) (.cons (.view 3 rfl) (.cons (.view 4 rfl) (.refl _)))))) ?_)
  refine sp rfl (Qx (i := 0) (cells' := ((Zg.oc 256 .u8 b) ++ (([.d (.int .i64 g), .d (.sl false 2 (mA j)), .d (.sl false 4 (a.map Qc))]:List OC)))) rfl rfl i28 rfl rfl rfl rfl (nb rfl) rfl ?_)
  refine aw rfl ?_
  refine TL'.nil (tN ?_)
  refine T.ret ?_
  exact Fin.done (.cons _ _ _ _ (.cellAgg 2 28 _ 0 0 28 _ ((Zg.dc 256 .u8 b) ++ (([.int .i64 g, .sl false 2 (mA j), .sl false 4 (a.map Qc)] : List DC))) _ _ 259 _ rfl rfl rfl rfl J5 rfl i28) (.cons _ _ _ _ (.tmp 3 _ rfl) .nil)) (by cases h; exact ⟨rfl, rfl⟩)
theorem Qci {r : Qn × Int} (K : Nat) : ∀ (k : Nat), ∀ (w : Int) (x0 : Zr) (g j : Zg) (a : List Int) (m : List Z4) (y p q : Nat) (b ab : Value), K6 K k w x0 g j a m = some r → TL tp 198 (ca [1,1,1,1,0,1,0,0] Tryz.f20) ⟨[(1, .ptr y 0), (2, .ptr p 0), (4, .ptr q 0), (5, .c (.ex ab)), (6, .int .i64 w)], [.box y 43 [.d (.sl false 1 (mI x0.First)), .d (.sl false 9 (x0.P.map Q0))], (Qgf p g (0:Int) (.slice none 0 0) (.slice none 0 0)), (Xl q x0.First x0.P b j (0:Int) (.slice none 0 0) (.slice none 0 0) (0:Int)), .arrA b 3 1 (mI a), .arrA ab 63 4 (m.map (Z4.dc .u64))]⟩ (Py r) := by
 intro k
 induction k with
 | zero =>
  intro w x0 g j a m y p q b ab h
  exact zn h
 | succ k ih =>
  intro w x0 g j a m y p q b ab h
  rw [K6] at h
  refine Q6 ?_
  refine T.seq ?_
  refine T.seq (Qq ?_)
  refine mw rfl ?_
  refine oP Qfy i41 rfl ?_
  refine oL 0 Sg rfl ?_
  refine oU x0.P Q0 Sg rfl ?_
  refine oI rfl ?_
  refine TL'.nil (tN ?_)
  rcases Qe h with ⟨ac, h⟩ | ⟨ac, h⟩
  refine Qr rfl ac ?_
  refine T.skip (tN ?_)
  refine T.seq ?_
  refine T.block ?_
  refine T.seq (Qq ?_)
  refine mw rfl ?_
  refine oP Qfy i41 rfl ?_
  refine oL 0 Sg rfl ?_
  refine mw rfl ?_
  obtain ⟨aa, ad, h⟩ := bind_some h
  refine oX x0.P Q0 Sg i65 ad rfl ?_
  refine sp rfl (Uf rfl (dk rfl) ul65 rfl i63 (by decide) rfl ?_)
  refine sp rfl (Zb rfl (dk rfl) Qfx rfl i63 rfl (nb rfl) ?_)
  refine sp rfl (OpT.buildSlice (elems := ([aa.S] : List Z4).map (Z4.dc .u64)) rfl (dk rfl) ul99 i63 (by decide) rfl (Mi rfl) rfl rfl rfl (V4 rfl) (by decide) ?_)
  obtain ⟨aj, h⟩ := Zc h
  refine sp rfl (Zv (i := 4) (xs := m) (ys := [aa.S]) (f := (Z4.dc .u64)) rfl (dk rfl) ul99 i63 rfl rfl rfl rfl aj (fun al => ?_))
  refine aw rfl ?_
  refine TL'.nil (tN (T.seq (Qq ?_)))
  refine oP Qfy i41 rfl ?_
  refine oL 0 Sg rfl ?_
  refine mw rfl ?_
  refine oX x0.P Q0 Sg i65 ad rfl ?_
  refine sp rfl (Uf rfl (dk rfl) ul65 rfl i3 (by decide) rfl ?_)
  refine oR ul3 rfl ?_
  refine oI rfl ?_
  refine TL'.nil (tN ?_)
  rcases Qe h with ⟨af, h⟩ | ⟨af, h⟩
  cases h
  refine Qp rfl af ?_
  refine Qq ?_
  refine mw rfl ?_
  refine mw rfl ?_
  refine oK rfl ?_
  refine oP Qea i38 rfl ?_
  refine oL 2 Zy rfl ?_
  refine sp rfl (OpT.buildSlice (elems := ([(-1:Int)] : List Int).map (cI .i64)) rfl (dk rfl) Zy i3 (by decide) rfl (Mi rfl) rfl rfl rfl (V4 rfl) (by decide) ?_)
  obtain ⟨am, h⟩ := Zc h
  refine sp rfl (Zv (i := 3) (xs := a) (ys := [(-1:Int)]) (f := (cI .i64)) rfl (dk rfl) Zy i3 rfl rfl rfl rfl am (fun ag => ?_))
  refine oK rfl ?_
  refine oP Qea i38 rfl ?_
  refine sp rfl (Wl (i := 2) (cells' := (([.d (.sl false 1 (mI x0.First)), .d (.sl false 9 (x0.P.map Q0)), .d (.ex ag)]:List OC) ++ ((Zg.oc 256 .u8 j) ++ (([.d (.int .i64 (0:Int)), .d (.ex (.slice none 0 0)), .d (.ex (.slice none 0 0)), .d (.int .i64 (0:Int))]:List OC))))) rfl rfl i38 rfl rfl rfl (nb rfl) rfl ?_)
  refine TL'.nil (Ql (tN ?_))
  refine Qq ?_
  refine mw rfl ?_
  refine oI rfl ?_
  refine aw rfl ?_
  refine TL'.nil (tN ?_)
  refine Qh ?_ (ih (wI (w + (1:Int))) x0 g j (a ++ [(-1:Int)]) (m ++ [aa.S]) y p q ag al h)
  exact tq rfl rfl
  refine Qp rfl ac ?_
  refine T.exit (Qk (Qk (Qt (tN ?_))))
  refine T.seq (Qq ?_)
  refine mw rfl ?_
  refine mw rfl ?_
  obtain ⟨u, an, h⟩ := bind_some h
  refine sp rfl (Q1 rfl (dk rfl) Tryz.func45 rfl rfl (Q7.view (i := 4) rfl rfl Q7.nil) (Zn.nil (Qfk K (flx0 := false) an)) ?_)
  refine oK rfl ?_
  refine oP Qea i28 rfl ?_
  refine oP J5 i24 rfl ?_
  refine sp rfl (Qx (i := 2) (cells' := (([.d (.sl false 1 (mI x0.First)), .d (.sl false 9 (x0.P.map Q0)), .d (.ex b)]:List OC) ++ ((Zg.oc 256 .u8 u.Of) ++ (([.d (.int .i64 u.Many), .d (.ex (.slice none 0 0)), .d (.ex (.slice none 0 0)), .d (.int .i64 (0:Int))]:List OC))))) rfl rfl i24 rfl rfl rfl rfl (nb rfl) rfl ?_)
  refine TL'.nil (tN (T.seq (Qq ?_)))
  refine mw rfl ?_
  refine sp rfl (Zq (OpT.build (l := [.ex (.slice none 0 0), .ex (.slice none 0 0), .ex (.slice none 0 0), .ex (.slice none 0 0)]) rfl (dk rfl) (Zu (pl := [(0, 1), (1, 1), (2, 1), (3, 1)]) H1 i51 rfl) (Mi rfl) rfl rfl rfl) (Yd 99 (l := [.ex (.slice none 0 0), .ex (.slice none 0 0), .ex (.slice none 0 0), .ex (.slice none 0 0)]) (l' := [.sl false 1 (([] : List Int).map (cI .i64)), .sl false 1 (([] : List Int).map (cI .i64)), .sl false 1 (([] : List Int).map (cI .i64)), .sl false 1 (([] : List (List Qd)).map (cL 2 Qg))]) (.cons (.nil _ _) (.cons (.nil _ _) (.cons (.nil _ _) (.cons (.nil _ _) (.refl _)))))) ?_)
  refine sp rfl (Np (elems := ([(Qa.mk [] [] [] [])] : List Qa).map Qc) rfl (dk rfl) Ja i51 (by decide) rfl (Mi rfl) rfl rfl rfl (V4 rfl) (by decide) (fun ai => ?_))
  refine oK rfl ?_
  refine oP Qea i28 rfl ?_
  refine oP J5 i26 rfl ?_
  refine sp rfl (Wl (i := 3) (cells' := (([.d (.sl false 1 (mI x0.First)), .d (.sl false 9 (x0.P.map Q0)), .d (.ex b)]:List OC) ++ ((Zg.oc 256 .u8 u.Of) ++ (([.d (.int .i64 u.Many), .d (.ex (.slice none 0 0)), .d (.ex (.slice (some ⟨ai, 0, none⟩) 1 1)), .d (.int .i64 (0:Int))]:List OC))))) rfl rfl i26 rfl rfl rfl (nb rfl) rfl ?_)
  refine TL'.nil (tN ?_)
  refine T.seq ?_
  refine T.seq (Qq ?_)
  refine aw rfl ?_
  refine TL'.nil (tN ?_)
  refine T.block ?_
  refine T.loop ?_
  refine Qh (Xu 59 2) ?_
  refine Qh ?_ (Qcg K K (0:Int) g x0.First x0.P u.Of u.Many (0:Int) a [] [(Qa.mk [] [] [] [])] p q b (Qeb 17) (.slice (some ⟨ai, 0, none⟩) 1 1) h)
  exact tr rfl (.c (.s (.s (.s .z))) (.c (.s (.s (.s .z))) (.c (.s (.s (.s .z))) (.c .z (.c .z (.n _))))))
theorem Qfh (K : Nat) {x0 : Zr} {r : Qn × Int} (h : Ot K x0 = some r) : Zn tp 20 [.agg [.sl false 1 (mI x0.First), .sl false 9 (x0.P.map Q0)]] [] (.tup [.agg ((Zg.dc 256 .u8 r.1.Split.Of) ++ (([.int .i64 r.1.Split.Many, .sl false 2 (mA r.1.Counts), .sl false 4 (r.1.States.map Qc)] : List DC))), .int .i64 r.2]) := by
 refine Qu Tryz.func20 rfl (nb rfl) ?_
 show T tp 198 (ca [] Tryz.f20) ⟨Qv 0 [.agg [.sl false 1 (mI x0.First), .sl false 9 (x0.P.map Q0)]], []⟩ (Ls r)
 unfold Ot at h
 refine T.seq (Qq ?_)
 refine sp rfl (Zi rfl (dk rfl) rfl (fun b => ?_))
 refine sp rfl (Ze rfl (dk rfl) i28 rfl (fun d => ?_))
 refine aw rfl ?_
 refine TL'.nil (tN ?_)
 refine T.seq ?_
 refine T.seq (Qq ?_)
 refine oA 1 [.sl false 1 (mI x0.First), .sl false 9 (x0.P.map Q0)] Qfy i43 rfl ?_
 obtain ⟨j, f, h⟩ := bind_some h
 refine sp rfl (Q1 rfl (dk rfl) Tryz.func44 rfl rfl (Q7.cons rfl Q7.nil) (Zn.nil (Qcj K f)) ?_)
 refine oT rfl ?_
 refine TL'.nil (tN ?_)
 rcases Qe h with ⟨a, h⟩ | ⟨a, h⟩
 cases h
 refine Qp rfl a ?_
 refine T.skip (tN ?_)
 refine T.seq (Qq ?_)
 refine oA 1 [.sl false 1 (mI x0.First), .sl false 9 (x0.P.map Q0)] Qfy i43 rfl ?_
 refine sp rfl (OpT.build (l := (([.sl false 1 (mI x0.First), .sl false 9 (x0.P.map Q0), .ex (.slice none 0 0)] : List DC) ++ ((Zg.dc 256 .u8 (Zg.mk fun _ => 0)) ++ (([.int .i64 (0:Int), .ex (.slice none 0 0), .ex (.slice none 0 0), .int .i64 (0:Int)] : List DC))))) rfl (dk rfl) (Zu (pl := [(0, 2), (2, 1), (3, 259), (262, 1)]) Qea i98 rfl) (Mi rfl) rfl rfl ?_)
 refine sp rfl (Zi rfl (dk rfl) rfl (fun g => ?_))
 refine aw rfl ?_
 refine TL'.nil (tN (T.seq (Qq ?_)))
 refine aw rfl ?_
 refine TL'.nil (tN ?_)
 refine T.seq ?_
 refine T.seq (Qq ?_)
 refine aw rfl ?_
 refine TL'.nil (tN ?_)
 refine T.block ?_
 refine T.loop ?_
 refine Qh (Xu 63 4) ?_
 refine Qh (Xu 3 1) ?_
 refine Qh ?_ (Qci K K (0:Int) x0 (Zg.mk fun _ => 0) (Zg.mk fun _ => 0) [] [] b d g (Qeb 16) (Qeb 15) h)
 exact tr rfl (.c (.s (.s (.s (.s .z)))) (.c (.s (.s (.s .z))) (.c (.s (.s .z)) (.c .z (.c .z (.n _))))))
abbrev Qc0 (r : Bool) : ES := Wb tp Tryz.f14 (fun y t => y = (.bool r) ∧ t = [.tab 0 Y0])
theorem Qc1 (K : Nat) {r : Bool} (h : G2 K = some r) : Zn tp 14 [] [.tab 0 Y0] (.bool r) := by
 refine Qu Tryz.func14 rfl (nb rfl) ?_
 show T tp 46 (ca [] Tryz.f14) ⟨Qv 0 [], [.tab 0 Y0]⟩ (Qc0 r)
 unfold G2 at h
 refine T.seq (Qq ?_)
 refine aw rfl ?_
 refine TL'.nil (tN (T.seq (Qq ?_)))
 obtain ⟨u, j, h⟩ := bind_some h
 refine sp rfl (Q1 rfl (dk rfl) Tryz.func35 rfl rfl (Q7.cons rfl Q7.nil) (Zn.nil (Qct K j)) ?_)
 refine mw rfl ?_
 refine oE rfl ?_
 refine oE rfl ?_
 refine oE rfl ?_
 refine aw rfl ?_
 refine aw rfl ?_
 refine aw rfl ?_
 refine TL'.nil (tN (T.seq (Qq ?_)))
 refine mw rfl ?_
 obtain ⟨m, n, h⟩ := bind_some h
 refine sp rfl (Q1 rfl (dk rfl) Tryz.func36 rfl rfl (Q7.cons rfl (Q7.cons rfl Q7.nil)) (Zn.nil (Qdr K (flx0 := false) n)) ?_)
 refine mw rfl ?_
 refine oE rfl ?_
 refine oE rfl ?_
 refine aw rfl ?_
 refine aw rfl ?_
 refine TL'.nil (tN (T.seq (Qq ?_)))
 refine mw rfl ?_
 refine sp rfl (OpT.buildSlice (elems := ([m.1] : List (List Q2)).map (cL 9 Qo)) rfl (dk rfl) ul87 i80 (by decide) rfl (Mi rfl) rfl rfl rfl (V4 rfl) (by decide) ?_)
 obtain ⟨g, p, h⟩ := bind_some h
 refine sp rfl (Q1 rfl (dk rfl) Tryz.func37 rfl rfl (Q7.cons rfl Q7.nil) (Zn.nil (Qfi K (flx0 := true) p)) ?_)
 refine mw rfl ?_
 refine oE rfl ?_
 refine oE rfl ?_
 refine sp rfl (Ze rfl (dk rfl) i43 rfl (fun v => ?_))
 refine sp rfl (Qx (i := 0) (cells' := [.d (.sl false 1 (mI g.1.First)), .d (.sl false 9 (g.1.P.map Q0))]) rfl rfl i43 rfl rfl rfl rfl (nb rfl) rfl ?_)
 refine aw rfl ?_
 refine TL'.nil (tN (T.seq (Qq ?_)))
 refine oA 0 [.sl false 1 (mI g.1.First), .sl false 9 (g.1.P.map Q0)] Qfy i43 rfl ?_
 obtain ⟨b, q, h⟩ := bind_some h
 refine sp rfl (Q1 rfl (dk rfl) Tryz.func20 rfl rfl (Q7.cons rfl Q7.nil) (Zn.nil (Qfh K q)) ?_)
 refine mw rfl ?_
 refine oE rfl ?_
 refine oE rfl ?_
 refine sp rfl (Ze rfl (dk rfl) i28 rfl (fun w => ?_))
 refine sp rfl (Qx (i := 0) (cells' := ((Zg.oc 256 .u8 b.1.Split.Of) ++ (([.d (.int .i64 b.1.Split.Many), .d (.sl false 2 (mA b.1.Counts)), .d (.sl false 4 (b.1.States.map Qc))]:List OC)))) rfl rfl i28 rfl rfl rfl rfl (nb rfl) rfl ?_)
 refine aw rfl ?_
 refine TL'.nil (tN (T.seq (Qq ?_)))
 refine oA 0 ((Zg.dc 256 .u8 b.1.Split.Of) ++ (([.int .i64 b.1.Split.Many, .sl false 2 (mA b.1.Counts), .sl false 4 (b.1.States.map Qc)] : List DC))) J5 i28 rfl ?_
 obtain ⟨c, s, h⟩ := bind_some h
 refine sp rfl (B6 rfl (dk rfl) Tryz.func10 rfl rfl (Q7.cons rfl Q7.nil) (.tab 2 rfl (.nil)) (trim_Of_T K s) ?_)
 refine mw rfl ?_
 refine oE rfl ?_
 refine oE rfl ?_
 refine sp rfl (Ze rfl (dk rfl) i28 rfl (fun y => ?_))
 refine sp rfl (Qx (i := 0) (cells' := ((Zg.oc 256 .u8 c.1.Split.Of) ++ (([.d (.int .i64 c.1.Split.Many), .d (.sl false 2 (mA c.1.Counts)), .d (.sl false 4 (c.1.States.map Qc))]:List OC)))) rfl rfl i28 rfl rfl rfl rfl (nb rfl) rfl ?_)
 refine aw rfl ?_
 refine TL'.nil (tN (T.seq (Qq ?_)))
 refine mw rfl ?_
 refine oI rfl ?_
 refine mw rfl ?_
 rcases Qe h with ⟨a, h⟩ | ⟨a, h⟩
 refine sn rfl a (Z0 rfl (dk rfl) J5 rfl i26 (by decide) rfl ?_)
 refine sn rfl a (Zo (i := 0) rfl (dk rfl) Ja rfl rfl rfl rfl ?_)
 refine sn rfl a (Yg (xs := c.1.States) (f := Qc) rfl (dk rfl) Ja rfl ?_)
 refine sn rfl a (Zj rfl rfl (dk rfl) rfl rfl ?_)
 refine oY a rfl ?_
 refine aw rfl ?_
 refine TL'.nil (tN ?_)
 refine T.ret ?_
 exact Q4 (.cons _ _ _ _ (.tmp 0 _ rfl) .nil) (.cons 3 rfl (.nil _)) (by cases h; exact ⟨rfl, rfl⟩)
 refine pf rfl a ?_
 refine pf rfl a ?_
 refine pf rfl a ?_
 refine pf rfl a ?_
 refine oZ a rfl ?_
 refine aw rfl ?_
 refine TL'.nil (tN ?_)
 refine T.ret ?_
 exact Q4 (.cons _ _ _ _ (.tmp 0 _ rfl) .nil) (.cons 3 rfl (.nil _)) (by cases h; exact ⟨rfl, rfl⟩)
end Go.Rv

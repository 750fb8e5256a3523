/- Each function computes what its plain text says: printed by a program of ours. -/
import Derived.Test.YtcmfaclkgdmpbaaGreatDoorRgW4
namespace Go.Rv
open Go.Proofs
set_option maxRecDepth 100000
set_option maxHeartbeats 4000000
set_option linter.unusedVariables false
abbrev Rg (bx0 : Nat) (x0 : Qg) (r : Bool) : ES := J9 tp Tryz.f60 (fun y t => ∃ γ : Nat → Value, y = (.bool r) ∧ t = [(Pn bx0 x0.s x0.at_ (γ 0) x0.deep x0.e x0.where_), .arrA (γ 0) 165 9 (x0.nodes.map Qo)])
theorem Ji (K : Nat) {x0 : Qg} {bx0 : Nat} {wx0c2 : Value} {r : Bool} (h : X5 K x0 = some r) : U7 tp 60 [.ptr bx0 0] [(Pn bx0 x0.s x0.at_ wx0c2 x0.deep x0.e x0.where_), .arrA wx0c2 165 9 (x0.nodes.map Qo)] (fun γ => (.bool r)) (fun γ => [(Pn bx0 x0.s x0.at_ (γ 0) x0.deep x0.e x0.where_), .arrA (γ 0) 165 9 (x0.nodes.map Qo)]) := by
 refine Qt Tryz.func60 rfl (nb rfl) ?_
 show T tp 20 (ca [] Tryz.f60) ⟨Qw 0 [.ptr bx0 0], [(Pn bx0 x0.s x0.at_ wx0c2 x0.deep x0.e x0.where_), .arrA wx0c2 165 9 (x0.nodes.map Qo)]⟩ (Rg bx0 x0 r)
 unfold X5 at h
 refine T.seq (Qr ?_)
 refine aw rfl ?_
 refine TL'.nil (tN ?_)
 refine T.seq ?_
 refine Yk ?_
 refine dV rfl rfl ?_
 refine dK rfl (.f rfl) rfl ?_
 refine dP rfl (.f rfl) Cy i3 rfl ?_
 refine dL 0 rfl (.f rfl) ul3 rfl ?_
 refine dV rfl rfl ?_
 refine dK rfl (.f rfl) rfl ?_
 refine dP rfl (.f rfl) Cy i9 rfl ?_
 refine dL 0 rfl (.f rfl) ul9 rfl ?_
 refine dS (c := ⟨some 11, .int .i64 (x0.s.size : Int), [(10, .str x0.s)], [], []⟩) (fun t hm => oF rfl rfl (Sp rfl (dk rfl) ul9 hm.s0 rfl)) rfl rfl ?_
 refine dI rfl (.f rfl) rfl ?_
 refine dV rfl rfl ?_
 rcases Qd h with ⟨a, h⟩ | ⟨a, h⟩
 refine dO a rfl rfl ?_
 refine dO a rfl rfl ?_
 refine dO a rfl rfl ?_
 refine dO a rfl rfl ?_
 refine dO a rfl rfl ?_
 refine dY rfl (.f rfl) a rfl ?_
 refine dS (c := ⟨some 2, .bool true, [(19, .bool true)], [], []⟩) (fun t hm => oF rfl rfl (OpT.assign rfl (dk rfl) hm.s0 rfl)) rfl rfl ?_
 refine dF [0,1,3,7,0,16,48,112,240,511,1023,2047,4095,8191,16383,32767,65535,131071] Q3 rfl (by kernel_rfl) (fun u hu => (tN (Qm hu ?_)))
 refine T.ret ?_
 exact Q7 (.cons _ _ _ _ (.tmp 2 _ rfl) .nil) (.cons 0 rfl (.cons 0 rfl (.nil _))) (by cases h; exact ⟨gl [wx0c2], rfl, rfl⟩)
 refine dM rfl (.n a rfl) rfl ?_
 refine dK rfl (.n a rfl) rfl ?_
 refine dP rfl (.n a rfl) Cy i30 rfl ?_
 refine dL 0 rfl (.n a rfl) ul30 rfl ?_
 refine dI rfl (.n a rfl) rfl ?_
 refine dZ rfl (.f rfl) a rfl ?_
 refine dS (c := ⟨some 2, .bool (x0.e != (0:Int)), [(19, .bool (x0.e != (0:Int)))], [], []⟩) (fun t hm => oF rfl rfl (OpT.assign rfl (dk rfl) hm.s0 rfl)) rfl rfl ?_
 refine dF [0,1,3,7,0,16,48,112,240,511,1023,2047,4095,8191,16383,32767,65535,131071] Q3 rfl (by kernel_rfl) (fun u hu => (tN (Qm hu ?_)))
 refine T.ret ?_
 exact Q7 (.cons _ _ _ _ (.tmp 2 _ rfl) .nil) (.cons 0 rfl (.cons 0 rfl (.nil _))) (by cases h; exact ⟨gl [wx0c2], rfl, rfl⟩)
abbrev Se (bx0 : Nat) (r : Int × Qg) : ES := J9 tp Tryz.f99 (fun y t => ∃ γ : Nat → Value, y = (.int .i64 r.1) ∧ t = [(Pn bx0 r.2.s r.2.at_ (γ 0) r.2.deep r.2.e r.2.where_), .arrA (γ 0) 165 9 (r.2.nodes.map Qo)])
theorem Le (K : Nat) {x0 : Qg} {x1 : Q4} {bx0 : Nat} {wx0c2 : Value} {r : Int × Qg} (h : U6 K x0 x1 = some r) : U7 tp 99 [.ptr bx0 0, .agg [.int .u8 x1.Op, .int .u64 x1.S.a0, .int .u64 x1.S.a1, .int .u64 x1.S.a2, .int .u64 x1.S.a3, .sl false 1 (mI x1.L), .int .i64 x1.Lo, .int .i64 x1.Hi, .str x1.Name]] [(Pn bx0 x0.s x0.at_ wx0c2 x0.deep x0.e x0.where_), .arrA wx0c2 165 9 (x0.nodes.map Qo)] (fun γ => (.int .i64 r.1)) (fun γ => [(Pn bx0 r.2.s r.2.at_ (γ 0) r.2.deep r.2.e r.2.where_), .arrA (γ 0) 165 9 (r.2.nodes.map Qo)]) := by
 refine Qt Tryz.func99 rfl (nb rfl) ?_
 show T tp 21 (ca [] Tryz.f99) ⟨Qw 0 [.ptr bx0 0, .agg [.int .u8 x1.Op, .int .u64 x1.S.a0, .int .u64 x1.S.a1, .int .u64 x1.S.a2, .int .u64 x1.S.a3, .sl false 1 (mI x1.L), .int .i64 x1.Lo, .int .i64 x1.Hi, .str x1.Name]], [(Pn bx0 x0.s x0.at_ wx0c2 x0.deep x0.e x0.where_), .arrA wx0c2 165 9 (x0.nodes.map Qo)]⟩ (Se bx0 r)
 unfold U6 at h
 refine T.seq (Qr ?_)
 refine sp rfl (Zb rfl (dk rfl) rfl (fun b => ?_))
 refine aw rfl ?_
 refine TL'.nil (tN ?_)
 refine T.seq ?_
 refine Qm Y4 ?_
 refine H1 ?_
 refine dC (c := ⟨some 5, .ptr bx0 0, [(0, .ptr bx0 0)], [], []⟩) (fun t hm => oF rfl rfl (OpT.move rfl (dk rfl) hm.s0 ⟨u0, rfl⟩)) (fun _ => rfl) (fun _ => rfl) ?_
 refine dC (c := ⟨some 6, .ptr bx0 0, [(0, .ptr bx0 0)], [], []⟩) (fun t hm => oF rfl rfl (OpT.move rfl (dk rfl) hm.s0 ⟨u0, rfl⟩)) (fun _ => rfl) (fun _ => rfl) ?_
 refine dC (c := ⟨some 7, .ptr bx0 0, [(6, .ptr bx0 0)], [], []⟩) (fun t hm => oF rfl rfl (OpT.nilCheck rfl (dk rfl) hm.s0 rfl ⟨u0, rfl⟩)) (fun _ => rfl) (fun _ => rfl) ?_
 refine dC (c := ⟨some 8, .ptr bx0 (0 + 2), [(7, .ptr bx0 0)], [], []⟩) (fun t hm => oF rfl rfl (Zs rfl (dk rfl) Cy rfl i80 (by decide) hm.s0 ⟨u0, rfl⟩)) (fun _ => rfl) (fun _ => rfl) ?_
 refine dC (c := ⟨some 9, .c (.ex wx0c2), [(8, .ptr bx0 (0 + 2))], [(2, (Pn bx0 x0.s x0.at_ wx0c2 x0.deep x0.e x0.where_))], []⟩) (fun t hm => oF rfl rfl (Zn (i := 2) rfl (dk rfl) Tt rfl hm.s0 hm.o0 rfl ⟨u0, rfl⟩)) (fun _ => rfl) (fun _ => rfl) ?_
 refine dC (c := ⟨some 10, .agg [.int .u8 x1.Op, .int .u64 x1.S.a0, .int .u64 x1.S.a1, .int .u64 x1.S.a2, .int .u64 x1.S.a3, .sl false 1 (mI x1.L), .int .i64 x1.Lo, .int .i64 x1.Hi, .str x1.Name], [(3, .ptr b 0)], [(1, (Qgm b x1.Op x1.S.a0 x1.S.a1 x1.S.a2 x1.S.a3 x1.L x1.Lo x1.Hi x1.Name))], []⟩) (fun t hm => oF rfl rfl (Uh (i := 1) (l := [.int .u8 x1.Op, .int .u64 x1.S.a0, .int .u64 x1.S.a1, .int .u64 x1.S.a2, .int .u64 x1.S.a3, .sl false 1 (mI x1.L), .int .i64 x1.Lo, .int .i64 x1.Hi, .str x1.Name]) rfl (dk rfl) Mk rfl i165 hm.s0 hm.o0 rfl rfl ⟨u0, rfl⟩)) (fun _ => rfl) (fun _ => rfl) ?_
 refine dC (c := ⟨some 11, .sl true 9 ([x1].map Qo), [(10, .agg [.int .u8 x1.Op, .int .u64 x1.S.a0, .int .u64 x1.S.a1, .int .u64 x1.S.a2, .int .u64 x1.S.a3, .sl false 1 (mI x1.L), .int .i64 x1.Lo, .int .i64 x1.Hi, .str x1.Name])], [], []⟩) (fun t hm => oF rfl rfl (OpT.buildSlice (elems := ([x1] : List Q4).map Qo) rfl (dk rfl) Tt i165 (by decide) rfl (M1 rfl) (Vn hm.s0 rfl Bt) rfl rfl (Uf rfl) (by decide) ⟨u0, rfl⟩)) (fun _ => rfl) (fun _ => rfl) ?_
 obtain ⟨g, h⟩ := Zf h
 refine DGG.step (c := fun a => ⟨some 12, .c (.ex ((a 7).1 0)), [(11, .sl true 9 ([x1].map Qo)), (9, .c (.ex wx0c2))], [(3, .arrA wx0c2 165 9 (x0.nodes.map Qo))], [(3, .arrA ((a 7).1 0) 165 9 ((x0.nodes ++ [x1]).map Qo))]⟩) [7] (fun a γ' h => by simp only [h 7 (by decide)]) (fun a t hm => oF rfl rfl (Zy (i := 3) (xs := x0.nodes) (ys := [x1]) (f := Qo) rfl (dk rfl) Tt i165 rfl hm.s1 hm.o0 hm.s0 g (fun w => ⟨(fun _ => w, 0), rfl⟩))) (fun a => Z3 rfl rfl) ?_
 refine dC (c := ⟨some 13, .ptr bx0 0, [(5, .ptr bx0 0)], [], []⟩) (fun t hm => oF rfl rfl (OpT.nilCheck rfl (dk rfl) hm.s0 rfl ⟨u0, rfl⟩)) (fun _ => rfl) (fun _ => rfl) ?_
 refine dC (c := ⟨some 14, .ptr bx0 (0 + 2), [(13, .ptr bx0 0)], [], []⟩) (fun t hm => oF rfl rfl (Zs rfl (dk rfl) Cy rfl i80 (by decide) hm.s0 ⟨u0, rfl⟩)) (fun _ => rfl) (fun _ => rfl) ?_
 refine DGG.step (c := fun a => ⟨none, .any, [(14, .ptr bx0 (0 + 2)), (12, .c (.ex ((a 7).1 0)))], [(2, (Pn bx0 x0.s x0.at_ wx0c2 x0.deep x0.e x0.where_))], [(2, (Pn bx0 x0.s x0.at_ ((a 7).1 0) x0.deep x0.e x0.where_))]⟩) [7] (fun a γ' h => by simp only [h 7 (by decide)]) (fun a t hm => oF rfl rfl (W2 (i := 2) (cells' := [.d (.str x0.s), .d (.int .i64 x0.at_), .d (.ex ((a 7).1 0)), .d (.int .i64 x0.deep), .d (.int .i64 x0.e), .d (.int .i64 x0.where_)]) rfl rfl i80 hm.s0 hm.s1 hm.o0 (nb rfl) rfl ⟨u0, rfl⟩)) (fun a => Z3 rfl rfl) ?_
 refine gF [0,0,2,6,14,0,32,126,255,511,1023] Q3 rfl (by kernel_rfl) (fun _ => by kernel_rfl) (fun a u hu => (tN (Qm hu ?_)))
 refine T.seq (Qr ?_)
 refine mw rfl ?_
 refine oK rfl ?_
 refine oP Cy i80 rfl ?_
 refine sp rfl (Zq (Zn (i := 2) rfl (dk rfl) Tt rfl rfl rfl rfl rfl) (M2 18 3 rfl) ?_)
 refine oU (x0.nodes ++ [x1]) Qo Tt rfl ?_
 refine oI rfl ?_
 refine aw rfl ?_
 refine TL'.nil (tN ?_)
 refine T.ret ?_
 exact Q7 (.cons _ _ _ _ (.tmp 4 _ rfl) .nil) (.cons 2 rfl (.cons 2 rfl (.nil _))) (by cases h; exact ⟨gl [(a 7).1 0], rfl, rfl⟩)
abbrev Qb8 (r : ByteArray) : ES := J9 tp Tryz.f148 (fun y t => y = (.str r) ∧ t = [])
theorem Qb9 (K : Nat) {r : ByteArray} (h : Ch K = some r) : Zm tp 148 [] [] (.str r) := by
 refine Qt Tryz.func148 rfl (nb rfl) ?_
 show T tp 1 (ca [] Tryz.f148) ⟨Qw 0 [], []⟩ (Qb8 r)
 unfold Ch at h
 refine T.seq (Qr ?_)
 refine aw rfl ?_
 refine TL'.nil (tN (T.seq (Qr ?_)))
 refine aw rfl ?_
 refine TL'.nil (tN ?_)
 refine T.ret ?_
 exact fd rfl (by cases h; exact ⟨rfl, rfl⟩)
abbrev Ik (r : Bool) : ES := J9 tp Tryz.f147 (fun y t => y = (.bool r) ∧ t = [])
abbrev Qea (r : Bool) : ES := thenS (fun s' => T tp 17 (ca [1,1] Tryz.f147) s' ((Ik r))) ((Ik r))
abbrev Qca (r : Bool) : ES := Qz 0 ((Qea r))
theorem Qeb {r : Bool} (K : Nat) : ∀ (k : Nat), ∀ (x0 : Int) (x1 : ByteArray) (a : Int), Mx K k x0 x1 a = some r → TL tp 17 (ca [1,0,1,0,0] Tryz.f147) ⟨[(0, .int .u8 x0), (1, .str x1), (5, .int .i64 a)], []⟩ (Qca r) := by
 intro k
 induction k with
 | zero =>
  intro x0 x1 a h
  exact zn h
 | succ k ih =>
  intro x0 x1 a h
  rw [Mx] at h
  refine Q6 ?_
  refine T.seq ?_
  refine T.seq (Qr ?_)
  refine mw rfl ?_
  refine mw rfl ?_
  refine sp rfl (Sp rfl (dk rfl) ul9 rfl ?_)
  refine oI rfl ?_
  refine TL'.nil (tN ?_)
  rcases Qd h with ⟨b, h⟩ | ⟨b, h⟩
  refine Qq rfl b ?_
  refine T.skip (tN ?_)
  refine T.seq ?_
  refine T.block ?_
  refine T.seq (Qr ?_)
  refine mw rfl ?_
  refine mw rfl ?_
  obtain ⟨c, h⟩ := Zf h
  refine sp rfl (Mi rfl (dk rfl) ul9 rfl rfl c.1 c.2 ?_)
  refine mw rfl ?_
  refine oI rfl ?_
  refine TL'.nil (tN ?_)
  rcases Qd h with ⟨d, h⟩ | ⟨d, h⟩
  cases h
  refine Qp rfl d ?_
  refine T.skip (Qn (tN ?_))
  refine Qr ?_
  refine mw rfl ?_
  refine oI rfl ?_
  refine aw rfl ?_
  refine TL'.nil (tN ?_)
  refine Qh ?_ (ih x0 x1 (wI (a + (1:Int))) h)
  exact tq rfl rfl
  refine Qp rfl b ?_
  refine T.exit (Qj (Qj (Qs (tN ?_))))
  refine T.seq (Qr ?_)
  refine aw rfl ?_
  refine TL'.nil (tN ?_)
  refine T.ret ?_
  exact fd rfl (by cases h; exact ⟨rfl, rfl⟩)
theorem Qg9 (K : Nat) {x0 : Int} {x1 : ByteArray} {r : Bool} (h : Rj K x0 x1 = some r) : Zm tp 147 [.int .u8 x0, .str x1] [] (.bool r) := by
 refine Qt Tryz.func147 rfl (nb rfl) ?_
 show T tp 17 (ca [] Tryz.f147) ⟨Qw 0 [.int .u8 x0, .str x1], []⟩ (Ik r)
 unfold Rj at h
 refine T.seq (Qr ?_)
 refine aw rfl ?_
 refine TL'.nil (tN ?_)
 refine T.seq ?_
 refine T.seq (Qr ?_)
 refine aw rfl ?_
 refine TL'.nil (tN ?_)
 refine T.block ?_
 refine T.loop ?_
 refine Qh ?_ (Qeb K K x0 x1 (0:Int) h)
 exact tq rfl rfl
abbrev Sf (bx0 : Nat) (r : Int × Qg) : ES := J9 tp Tryz.f149 (fun y t => ∃ γ : Nat → Value, y = (.int .u8 r.1) ∧ t = [(Pn bx0 r.2.s r.2.at_ (γ 0) r.2.deep r.2.e r.2.where_), .arrA (γ 0) 165 9 (r.2.nodes.map Qo)])
theorem Sg (K : Nat) {x0 : Qg} {bx0 : Nat} {wx0c2 : Value} {r : Int × Qg} (h : Ku K x0 = some r) : U7 tp 149 [.ptr bx0 0] [(Pn bx0 x0.s x0.at_ wx0c2 x0.deep x0.e x0.where_), .arrA wx0c2 165 9 (x0.nodes.map Qo)] (fun γ => (.int .u8 r.1)) (fun γ => [(Pn bx0 r.2.s r.2.at_ (γ 0) r.2.deep r.2.e r.2.where_), .arrA (γ 0) 165 9 (r.2.nodes.map Qo)]) := by
 refine Qt Tryz.func149 rfl (nb rfl) ?_
 show T tp 138 (ca [] Tryz.f149) ⟨Qw 0 [.ptr bx0 0], [(Pn bx0 x0.s x0.at_ wx0c2 x0.deep x0.e x0.where_), .arrA wx0c2 165 9 (x0.nodes.map Qo)]⟩ (Sf bx0 r)
 unfold Ku at h
 refine T.seq (Qr ?_)
 refine aw rfl ?_
 refine TL'.nil (tN ?_)
 refine T.seq ?_
 refine Yk ?_
 refine dV rfl rfl ?_
 refine dK rfl (.f rfl) rfl ?_
 refine dP rfl (.f rfl) Cy i9 rfl ?_
 refine dL 0 rfl (.f rfl) ul9 rfl ?_
 refine dV rfl rfl ?_
 refine dK rfl (.f rfl) rfl ?_
 refine dP rfl (.f rfl) Cy i3 rfl ?_
 refine dL 0 rfl (.f rfl) ul3 rfl ?_
 obtain ⟨a, h⟩ := Zf h
 refine dS (c := ⟨some 16, .int .u8 (bt x0.s x0.at_), [(11, .str x0.s), (15, .int .i64 x0.at_)], [], []⟩) (fun t hm => oF rfl rfl (Mi rfl (dk rfl) ul9 hm.s0 hm.s1 a.1 a.2 rfl)) rfl rfl ?_
 refine dS (c := ⟨some 3, .int .u8 (bt x0.s x0.at_), [(16, .int .u8 (bt x0.s x0.at_))], [], []⟩) (fun t hm => oF rfl rfl (OpT.assign rfl (dk rfl) hm.s0 rfl)) rfl rfl ?_
 refine dF [0,1,3,7,0,16,48,112,255,511] Q3 rfl (by kernel_rfl) (fun u hu => (tN (Qm hu ?_)))
 refine T.seq (Qr ?_)
 refine mw rfl ?_
 refine oK rfl ?_
 refine oP Cy i3 rfl ?_
 refine oL 0 ul3 rfl ?_
 refine aw rfl ?_
 refine TL'.nil (tN (T.seq (Qr ?_)))
 refine mw rfl ?_
 refine oK rfl ?_
 refine oP Cy i3 rfl ?_
 refine oL 0 ul3 rfl ?_
 refine oI rfl ?_
 refine oK rfl ?_
 refine oP Cy i3 rfl ?_
 refine sp rfl (W2 (i := 0) (cells' := [.d (.str x0.s), .d (.int .i64 (wI (x0.at_ + (1:Int)))), .d (.ex wx0c2), .d (.int .i64 x0.deep), .d (.int .i64 x0.e), .d (.int .i64 x0.where_)]) rfl rfl i3 rfl rfl rfl (nb rfl) rfl ?_)
 refine TL'.nil (tN ?_)
 refine T.seq ?_
 refine T.seq (Qr ?_)
 refine mw rfl ?_
 refine oI rfl ?_
 refine TL'.nil (tN ?_)
 rcases Qd h with ⟨b, h⟩ | ⟨b, h⟩
 refine Qq rfl b ?_
 refine T.seq (Qr ?_)
 refine mw rfl ?_
 refine aw rfl ?_
 refine TL'.nil (tN ?_)
 refine T.ret (Qv ?_)
 exact Q7 (.cons _ _ _ _ (.tmp 2 _ rfl) .nil) (.cons 0 rfl (.cons 0 rfl (.nil _))) (by cases h; exact ⟨gl [wx0c2], rfl, rfl⟩)
 cases h
abbrev Qf9 (r : Bool) : ES := J9 tp Tryz.f81 (fun y t => y = (.bool r) ∧ t = [])
theorem Lh (K : Nat) {x0 : Z5} {x1 : Int} {r : Bool} (h : Wy K x0 x1 = some r) : Zm tp 81 [.agg (Z5.dc .u64 x0), .int .u8 x1] [] (.bool r) := by
 refine Qt Tryz.func81 rfl (nb rfl) ?_
 show T tp 14 (ca [] Tryz.f81) ⟨Qw 0 [.agg (Z5.dc .u64 x0), .int .u8 x1], []⟩ (Qf9 r)
 unfold Wy at h
 refine T.seq (Qr ?_)
 refine sp rfl (Zb rfl (dk rfl) rfl (fun d => ?_))
 refine aw rfl ?_
 refine TL'.nil (tN (T.seq (Qr ?_)))
 refine mw rfl ?_
 refine sp rfl (OpT.quo rfl (dk rfl) rfl rfl (by decide) ?_)
 obtain ⟨b, h⟩ := Zf h
 refine sp rfl (Y8 rfl (dk rfl) Qhp i61 rfl rfl b.1 b.2 ?_)
 refine sp rfl (Zn (i := 0) rfl (dk rfl) ul61 rfl rfl rfl (Qil (k := .u64) (a := x0) (pre := []) (post := []) b.1 b.2) ?_)
 refine mw rfl ?_
 refine sp rfl (OpT.rem rfl (dk rfl) rfl rfl (by decide) ?_)
 obtain ⟨c, h⟩ := Zf h
 refine sp rfl (OpT.shr rfl (dk rfl) rfl rfl c ?_)
 refine sp rfl (OpT.rem rfl (dk rfl) rfl rfl (by decide) ?_)
 refine oI rfl ?_
 refine aw rfl ?_
 refine TL'.nil (tN ?_)
 refine T.ret ?_
 exact fd rfl (by cases h; exact ⟨rfl, rfl⟩)
end Go.Rv

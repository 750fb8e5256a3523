/- Each function computes what its plain text says: printed by a program of ours. -/
import Derived.Test.YtaipjabggdifoaaRgW2
namespace Go.Rv
open Go.Proofs
set_option maxRecDepth 100000
set_option maxHeartbeats 4000000
set_option linter.unusedVariables false
abbrev Wu (r : Bool) : ES := Jt tp Try.f68 (fun y t => y = (.bool r) ∧ t = [])
abbrev Di (r : Bool) : ES := thenS (fun s' => T tp 41 (ca [1,1] Try.f68) s' ((Wu r))) ((Wu r))
abbrev Up (r : Bool) : ES := Q0 0 ((Di r))
abbrev W9 (r : Bool) : ES := thenS (fun s' => TL tp 41 (ca [1,0,1,0,0] Try.f68) s' ((Up r))) ((Up r))
abbrev Ky (r : Bool) : ES := thenS (fun s' => T tp 41 (ca [1,0,1,0,0,1,1] Try.f68) s' ((W9 r))) ((W9 r))
abbrev Gn (r : Bool) : ES := Q0 1 ((Ky r))
theorem Jk {r : Bool} (K : Nat) (h : X4 K = some r) : T tp 41 (ca [1,0,1,0,0,1,0,0,1,0] Try.f68) ⟨[], []⟩ (Gn r) := by
 unfold X4 at h
 refine T.seq (Qr ?_)
 refine aw rfl ?_
 refine TL'.nil (tN ?_)
 refine T.ret (Qt (Qj (Qj (Qt (Qj ?_)))))
 exact Fin.done (.cons _ _ _ _ (.tmp 4 _ rfl) .nil) (by cases h; exact ⟨rfl, rfl⟩)
theorem Dj {r : Bool} (K : Nat) : ∀ (k : Nat), ∀ (x0 : List Int) (x1 b : Int) (flx0 : Bool), X3 K k x0 x1 b = some r → TL tp 41 (ca [1,0,1,0,0] Try.f68) ⟨[(0, .sl flx0 1 (mI x0)), (1, .int .i64 x1), (5, .int .i64 b)], []⟩ (Up r) := by
 intro k
 induction k with
 | zero =>
  intro x0 x1 b flx0 h
  cases (show (none : Option Bool) = some r from h)
 | succ k ih =>
  intro x0 x1 b flx0 h
  rw [X3] at h
  refine Za ?_
  refine T.seq ?_
  refine T.seq (Qr ?_)
  refine mw rfl ?_
  refine mw rfl ?_
  refine sp rfl (Qn (xs := x0) (f := (cI .i64)) rfl (dk rfl) Yo rfl ?_)
  refine sp rfl (Qa rfl rfl (dk rfl) rfl rfl ?_)
  refine TL'.nil (tN ?_)
  rcases Qb h with ⟨l, h⟩ | ⟨l, h⟩
  refine Qk rfl l ?_
  refine T.skip (tN ?_)
  refine T.seq ?_
  refine T.block ?_
  refine T.seq ?_
  refine Xl ?_
  refine Yg rfl rfl rfl rfl rfl rfl ?_
  refine Yg rfl rfl rfl rfl rfl rfl ?_
  obtain ⟨a, m, h⟩ := bind_some h
  refine dS (c := ⟨some 14, .ref [.int .i64 a], [(12, .sl flx0 1 (mI x0)), (13, .int .i64 b)], [], []⟩) (fun t hm => oF rfl rfl (Qi (xs := x0) (f := (cI .i64)) (v := a) rfl (dk rfl) Yo i3 hm.s0 hm.s1 m rfl)) rfl rfl ?_
  refine dS (c := ⟨some 15, .int .i64 a, [(14, .ref [.int .i64 a])], [], []⟩) (fun t hm => oF rfl rfl (Qu rfl (dk rfl) ul3 rfl hm.s0 rfl rfl)) rfl rfl ?_
  refine dS (c := ⟨some 16, .bool (decide (a < (0:Int))), [(15, .int .i64 a)], [], []⟩) (fun t hm => oF rfl rfl (Qa rfl rfl (dk rfl) hm.s0 rfl rfl)) rfl rfl ?_
  refine Yg rfl rfl rfl rfl rfl rfl ?_
  rcases Qb h with ⟨g, h⟩ | ⟨g, h⟩
  refine dO g rfl rfl ?_
  refine dO g rfl rfl ?_
  refine dO g rfl rfl ?_
  refine dO g rfl rfl ?_
  refine dO g rfl rfl ?_
  refine dO g rfl rfl ?_
  refine dS (c := ⟨some 24, .bool true, [(17, .bool (decide (a < (0:Int))))], [], []⟩) (fun t hm => oF rfl rfl (Qf rfl (dk rfl) hm.s0 g rfl rfl)) rfl rfl ?_
  refine Yg rfl rfl rfl rfl rfl rfl ?_
  refine dO rfl rfl rfl ?_
  refine dO rfl rfl rfl ?_
  refine dO rfl rfl rfl ?_
  refine DG.gone rfl rfl rfl rfl rfl rfl ?_
  refine DG.gone rfl rfl rfl rfl rfl rfl ?_
  refine DG.gone rfl rfl rfl rfl rfl rfl ?_
  refine DG.gone rfl rfl rfl rfl rfl rfl ?_
  refine DG.gone rfl rfl rfl rfl rfl rfl ?_
  refine DG.gone rfl rfl rfl rfl rfl rfl ?_
  refine DG.gone rfl rfl rfl rfl rfl rfl ?_
  refine DG.gone rfl rfl rfl rfl rfl rfl ?_
  refine DG.gone rfl rfl rfl rfl rfl rfl ?_
  refine DG.gone rfl rfl rfl rfl rfl rfl ?_
  refine dO rfl rfl rfl ?_
  refine dS (c := ⟨some 40, .bool true, [(25, .bool true)], [], []⟩) (fun t hm => oF rfl rfl (Qf rfl (dk rfl) hm.s0 rfl rfl rfl)) rfl rfl ?_
  refine Ys (s1 := ⟨[(0, .sl flx0 1 (mI x0)), (1, .int .i64 x1), (5, .int .i64 b), (18, .tup []), (19, .tup []), (20, .tup []), (21, .tup []), (22, .tup []), (23, .tup []), (26, .tup []), (27, .tup []), (28, .tup []), (29, .tup []), (30, .tup []), (31, .tup []), (32, .tup []), (33, .tup []), (34, .tup []), (35, .tup []), (36, .tup []), (37, .tup []), (38, .tup []), (39, .tup []), (40, .bool true)], []⟩) (ms := [0, 0, 3, 7, 15, 31, 63, 63, 255, 511, 63, 2047, 4095, 8191, 16383, 32767, 65535, 131071, 131071, 393215, 1048575, 2097151, 131071, 131071, 12713983, 29491199, 67108863, 134217727, 268435455]) Q7 rfl (by kernel_rfl) (by kernel_rfl) (by kernel_rfl) (sf rfl) rfl (fun u hu => (tN (Qd hu ?_)))
  refine Qk rfl rfl ?_
  refine Qd ?_ (Jk K h)
  exact tq rfl rfl
  refine dS (c := ⟨some 18, .sl flx0 1 (mI x0), [(0, .sl flx0 1 (mI x0)), (17, .bool (decide (a < (0:Int))))], [], []⟩) (fun t hm => oN rfl rfl rfl hm.s1 g (OpT.move rfl (dk rfl) hm.s0 rfl)) rfl rfl ?_
  refine dS (c := ⟨some 19, .int .i64 b, [(5, .int .i64 b), (17, .bool (decide (a < (0:Int))))], [], []⟩) (fun t hm => oN rfl rfl rfl hm.s1 g (OpT.move rfl (dk rfl) hm.s0 rfl)) rfl rfl ?_
  refine dS (c := ⟨some 20, .ref [.int .i64 a], [(18, .sl flx0 1 (mI x0)), (19, .int .i64 b), (17, .bool (decide (a < (0:Int))))], [], []⟩) (fun t hm => oN rfl rfl rfl hm.s2 g (Qi (xs := x0) (f := (cI .i64)) (v := a) rfl (dk rfl) Yo i3 hm.s0 hm.s1 m rfl)) rfl rfl ?_
  refine dS (c := ⟨some 21, .int .i64 a, [(20, .ref [.int .i64 a]), (17, .bool (decide (a < (0:Int))))], [], []⟩) (fun t hm => oN rfl rfl rfl hm.s1 g (Qu rfl (dk rfl) ul3 rfl hm.s0 rfl rfl)) rfl rfl ?_
  refine dS (c := ⟨some 22, .int .i64 x1, [(1, .int .i64 x1), (17, .bool (decide (a < (0:Int))))], [], []⟩) (fun t hm => oN rfl rfl rfl hm.s1 g (OpT.move rfl (dk rfl) hm.s0 rfl)) rfl rfl ?_
  refine dS (c := ⟨some 23, .bool (decide (a ≥ x1)), [(21, .int .i64 a), (22, .int .i64 x1), (17, .bool (decide (a < (0:Int))))], [], []⟩) (fun t hm => oN rfl rfl rfl hm.s2 g (Qa rfl rfl (dk rfl) hm.s0 hm.s1 rfl)) rfl rfl ?_
  refine dS (c := ⟨some 24, .bool (decide (a ≥ x1)), [(17, .bool (decide (a < (0:Int)))), (23, .bool (decide (a ≥ x1)))], [], []⟩) (fun t hm => oF rfl rfl (Qm rfl (dk rfl) hm.s0 g hm.s1 rfl)) rfl rfl ?_
  refine Yg rfl rfl rfl rfl rfl rfl ?_
  rcases Qb h with ⟨j, h⟩ | ⟨j, h⟩
  refine dO j rfl rfl ?_
  refine dO j rfl rfl ?_
  refine dO j rfl rfl ?_
  refine DG.gone rfl rfl rfl rfl rfl rfl ?_
  refine DG.gone rfl rfl rfl rfl rfl rfl ?_
  refine DG.gone rfl rfl rfl rfl rfl rfl ?_
  refine DG.gone rfl rfl rfl rfl rfl rfl ?_
  refine DG.gone rfl rfl rfl rfl rfl rfl ?_
  refine DG.gone rfl rfl rfl rfl rfl rfl ?_
  refine DG.gone rfl rfl rfl rfl rfl rfl ?_
  refine DG.gone rfl rfl rfl rfl rfl rfl ?_
  refine DG.gone rfl rfl rfl rfl rfl rfl ?_
  refine DG.gone rfl rfl rfl rfl rfl rfl ?_
  refine dO j rfl rfl ?_
  refine dS (c := ⟨some 40, .bool true, [(25, .bool (decide (a ≥ x1)))], [], []⟩) (fun t hm => oF rfl rfl (Qf rfl (dk rfl) hm.s0 j rfl rfl)) rfl rfl ?_
  refine Ys (s1 := ⟨[(0, .sl flx0 1 (mI x0)), (1, .int .i64 x1), (5, .int .i64 b), (18, .sl flx0 1 (mI x0)), (19, .int .i64 b), (20, .ref [.int .i64 a]), (21, .int .i64 a), (22, .int .i64 x1), (23, .bool (decide (a ≥ x1))), (26, .tup []), (27, .tup []), (28, .tup []), (29, .tup []), (30, .tup []), (31, .tup []), (32, .tup []), (33, .tup []), (34, .tup []), (35, .tup []), (36, .tup []), (37, .tup []), (38, .tup []), (39, .tup []), (40, .bool true)], []⟩) (ms := [0, 0, 3, 7, 15, 31, 63, 63, 255, 511, 63, 2047, 4095, 8191, 16383, 32767, 65535, 131071, 131071, 393215, 1048575, 2097151, 131071, 131071, 12713983, 29491199, 67108863, 134217727, 268435455]) Q7 rfl (by kernel_rfl) (by kernel_rfl) (by kernel_rfl) (sf rfl) rfl (fun u hu => (tN (Qd hu ?_)))
  refine Qk rfl rfl ?_
  refine Qd ?_ (Jk K h)
  exact tq rfl rfl
  refine dS (c := ⟨some 26, .int .i64 b, [(5, .int .i64 b), (25, .bool (decide (a ≥ x1)))], [], []⟩) (fun t hm => oN rfl rfl rfl hm.s1 j (OpT.move rfl (dk rfl) hm.s0 rfl)) rfl rfl ?_
  refine dS (c := ⟨some 27, .bool (decide (b > (0:Int))), [(26, .int .i64 b), (25, .bool (decide (a ≥ x1)))], [], []⟩) (fun t hm => oN rfl rfl rfl hm.s1 j (Qa rfl rfl (dk rfl) hm.s0 rfl rfl)) rfl rfl ?_
  refine dS (c := ⟨some 28, .bool (decide (b > (0:Int))), [(27, .bool (decide (b > (0:Int)))), (25, .bool (decide (a ≥ x1)))], [], []⟩) (fun t hm => oN rfl rfl rfl hm.s1 j (OpT.move rfl (dk rfl) hm.s0 rfl)) rfl rfl ?_
  rcases Qb h with ⟨d, h⟩ | ⟨d, h⟩
  refine dS (c := ⟨some 29, .sl flx0 1 (mI x0), [(0, .sl flx0 1 (mI x0)), (28, .bool (decide (b > (0:Int))))], [], []⟩) (fun t hm => oN rfl rfl rfl hm.s1 d (OpT.move rfl (dk rfl) hm.s0 rfl)) rfl rfl ?_
  refine dS (c := ⟨some 30, .int .i64 b, [(5, .int .i64 b), (28, .bool (decide (b > (0:Int))))], [], []⟩) (fun t hm => oN rfl rfl rfl hm.s1 d (OpT.move rfl (dk rfl) hm.s0 rfl)) rfl rfl ?_
  refine dS (c := ⟨some 31, .int .i64 (wI (b - (1:Int))), [(30, .int .i64 b), (28, .bool (decide (b > (0:Int))))], [], []⟩) (fun t hm => oN rfl rfl rfl hm.s1 d (Qa rfl rfl (dk rfl) hm.s0 rfl rfl)) rfl rfl ?_
  obtain ⟨i, q, h⟩ := bind_some h
  refine dS (c := ⟨some 32, .ref [.int .i64 i], [(29, .sl flx0 1 (mI x0)), (31, .int .i64 (wI (b - (1:Int)))), (28, .bool (decide (b > (0:Int))))], [], []⟩) (fun t hm => oN rfl rfl rfl hm.s2 d (Qi (xs := x0) (f := (cI .i64)) (v := i) rfl (dk rfl) Yo i3 hm.s0 hm.s1 q rfl)) rfl rfl ?_
  refine dS (c := ⟨some 33, .int .i64 i, [(32, .ref [.int .i64 i]), (28, .bool (decide (b > (0:Int))))], [], []⟩) (fun t hm => oN rfl rfl rfl hm.s1 d (Qu rfl (dk rfl) ul3 rfl hm.s0 rfl rfl)) rfl rfl ?_
  refine dS (c := ⟨some 34, .sl flx0 1 (mI x0), [(0, .sl flx0 1 (mI x0)), (28, .bool (decide (b > (0:Int))))], [], []⟩) (fun t hm => oN rfl rfl rfl hm.s1 d (OpT.move rfl (dk rfl) hm.s0 rfl)) rfl rfl ?_
  refine dS (c := ⟨some 35, .int .i64 b, [(5, .int .i64 b), (28, .bool (decide (b > (0:Int))))], [], []⟩) (fun t hm => oN rfl rfl rfl hm.s1 d (OpT.move rfl (dk rfl) hm.s0 rfl)) rfl rfl ?_
  refine dS (c := ⟨some 36, .ref [.int .i64 a], [(34, .sl flx0 1 (mI x0)), (35, .int .i64 b), (28, .bool (decide (b > (0:Int))))], [], []⟩) (fun t hm => oN rfl rfl rfl hm.s2 d (Qi (xs := x0) (f := (cI .i64)) (v := a) rfl (dk rfl) Yo i3 hm.s0 hm.s1 m rfl)) rfl rfl ?_
  refine dS (c := ⟨some 37, .int .i64 a, [(36, .ref [.int .i64 a]), (28, .bool (decide (b > (0:Int))))], [], []⟩) (fun t hm => oN rfl rfl rfl hm.s1 d (Qu rfl (dk rfl) ul3 rfl hm.s0 rfl rfl)) rfl rfl ?_
  refine dS (c := ⟨some 38, .bool (decide (i ≥ a)), [(33, .int .i64 i), (37, .int .i64 a), (28, .bool (decide (b > (0:Int))))], [], []⟩) (fun t hm => oN rfl rfl rfl hm.s2 d (Qa rfl rfl (dk rfl) hm.s0 hm.s1 rfl)) rfl rfl ?_
  refine dS (c := ⟨some 39, .bool (decide (i ≥ a)), [(28, .bool (decide (b > (0:Int)))), (38, .bool (decide (i ≥ a))), (25, .bool (decide (a ≥ x1)))], [], []⟩) (fun t hm => oN rfl rfl rfl hm.s2 j (Qf rfl (dk rfl) hm.s0 d hm.s1 rfl)) rfl rfl ?_
  refine dS (c := ⟨some 40, .bool (decide (i ≥ a)), [(25, .bool (decide (a ≥ x1))), (39, .bool (decide (i ≥ a)))], [], []⟩) (fun t hm => oF rfl rfl (Qm rfl (dk rfl) hm.s0 j hm.s1 rfl)) rfl rfl ?_
  refine Ys (s1 := ⟨[(0, .sl flx0 1 (mI x0)), (1, .int .i64 x1), (5, .int .i64 b), (18, .sl flx0 1 (mI x0)), (19, .int .i64 b), (20, .ref [.int .i64 a]), (21, .int .i64 a), (22, .int .i64 x1), (23, .bool (decide (a ≥ x1))), (26, .int .i64 b), (27, .bool (decide (b > (0:Int)))), (28, .bool (decide (b > (0:Int)))), (29, .sl flx0 1 (mI x0)), (30, .int .i64 b), (31, .int .i64 (wI (b - (1:Int)))), (32, .ref [.int .i64 i]), (33, .int .i64 i), (34, .sl flx0 1 (mI x0)), (35, .int .i64 b), (36, .ref [.int .i64 a]), (37, .int .i64 a), (38, .bool (decide (i ≥ a))), (39, .bool (decide (i ≥ a))), (40, .bool (decide (i ≥ a)))], []⟩) (ms := [0, 0, 3, 7, 15, 31, 63, 63, 255, 511, 63, 2047, 4095, 8191, 16383, 32767, 65535, 131071, 131071, 393215, 1048575, 2097151, 131071, 131071, 12713983, 29491199, 67108863, 134217727, 268435455]) Q7 rfl (by kernel_rfl) (by kernel_rfl) (by kernel_rfl) (sf rfl) rfl (fun u hu => (tN (Qd hu ?_)))
  rcases Qb h with ⟨p, h⟩ | ⟨p, h⟩
  refine Qk rfl p ?_
  refine Qd ?_ (Jk K h)
  exact tq rfl rfl
  refine Qp rfl p ?_
  refine T.skip (Qe (tN ?_))
  refine Qr ?_
  refine mw rfl ?_
  refine sp rfl (Qa rfl rfl (dk rfl) rfl rfl ?_)
  refine aw rfl ?_
  refine TL'.nil (tN ?_)
  refine Qc ?_ (ih x0 x1 (wI (b + (1:Int))) flx0 h)
  exact tq rfl rfl
  refine dO d rfl rfl ?_
  refine dO d rfl rfl ?_
  refine dO d rfl rfl ?_
  refine dO d rfl rfl ?_
  refine dO d rfl rfl ?_
  refine dO d rfl rfl ?_
  refine dO d rfl rfl ?_
  refine dO d rfl rfl ?_
  refine dO d rfl rfl ?_
  refine dO d rfl rfl ?_
  refine dS (c := ⟨some 39, .bool false, [(28, .bool (decide (b > (0:Int)))), (25, .bool (decide (a ≥ x1)))], [], []⟩) (fun t hm => oN rfl rfl rfl hm.s1 j (Qm rfl (dk rfl) hm.s0 d rfl rfl)) rfl rfl ?_
  refine dS (c := ⟨some 40, .bool false, [(25, .bool (decide (a ≥ x1))), (39, .bool false)], [], []⟩) (fun t hm => oF rfl rfl (Qm rfl (dk rfl) hm.s0 j hm.s1 rfl)) rfl rfl ?_
  refine Ys (s1 := ⟨[(0, .sl flx0 1 (mI x0)), (1, .int .i64 x1), (5, .int .i64 b), (18, .sl flx0 1 (mI x0)), (19, .int .i64 b), (20, .ref [.int .i64 a]), (21, .int .i64 a), (22, .int .i64 x1), (23, .bool (decide (a ≥ x1))), (26, .int .i64 b), (27, .bool (decide (b > (0:Int)))), (28, .bool (decide (b > (0:Int)))), (29, .tup []), (30, .tup []), (31, .tup []), (32, .tup []), (33, .tup []), (34, .tup []), (35, .tup []), (36, .tup []), (37, .tup []), (38, .tup []), (39, .bool false), (40, .bool false)], []⟩) (ms := [0, 0, 3, 7, 15, 31, 63, 63, 255, 511, 63, 2047, 4095, 8191, 16383, 32767, 65535, 131071, 131071, 393215, 1048575, 2097151, 131071, 131071, 12713983, 29491199, 67108863, 134217727, 268435455]) Q7 rfl (by kernel_rfl) (by kernel_rfl) (by kernel_rfl) (sf rfl) rfl (fun u hu => (tN (Qd hu ?_)))
  refine Qp rfl rfl ?_
  refine T.skip (Qe (tN ?_))
  refine Qr ?_
  refine mw rfl ?_
  refine sp rfl (Qa rfl rfl (dk rfl) rfl rfl ?_)
  refine aw rfl ?_
  refine TL'.nil (tN ?_)
  refine Qc ?_ (ih x0 x1 (wI (b + (1:Int))) flx0 h)
  exact tq rfl rfl
  refine Qp rfl l ?_
  refine T.exit (Qh (Qh (Qq (tN ?_))))
  refine T.seq (Qr ?_)
  refine aw rfl ?_
  refine TL'.nil (tN ?_)
  refine T.ret ?_
  exact Fin.done (.cons _ _ _ _ (.tmp 4 _ rfl) .nil) (by cases h; exact ⟨rfl, rfl⟩)
theorem Kz (K : Nat) {x0 : List Int} {x1 : Int} {flx0 r : Bool} (h : J4 K x0 x1 = some r) : Zp tp 68 [.sl flx0 1 (mI x0), .int .i64 x1] [] (.bool r) := by
 refine Qs Try.func68 rfl (nb rfl) ?_
 show T tp 41 (ca [] Try.f68) ⟨Qv 0 [.sl flx0 1 (mI x0), .int .i64 x1], []⟩ (Wu r)
 unfold J4 at h
 refine T.seq (Qr ?_)
 refine aw rfl ?_
 refine TL'.nil (tN ?_)
 refine T.seq ?_
 refine T.seq (Qr ?_)
 refine aw rfl ?_
 refine TL'.nil (tN ?_)
 refine T.block ?_
 refine T.loop ?_
 refine Qc ?_ (Dj K K x0 x1 (0:Int) flx0 h)
 exact tq rfl rfl
abbrev Vm (r : Bool) : ES := Jt tp Try.f48 (fun y t => y = (.bool r) ∧ t = [])
abbrev Dk (r : Bool) : ES := thenS (fun s' => T tp 70 (ca [1,1] Try.f48) s' ((Vm r))) ((Vm r))
abbrev Cn (r : Bool) : ES := thenS (fun s' => T tp 70 (ca [1,1,1] Try.f48) s' ((Vm r))) ((Vm r))
abbrev Uc (r : Bool) : ES := Q0 0 ((Cn r))
abbrev Wk (r : Bool) : ES := thenS (fun s' => TL tp 70 (ca [1,1,0,1,0,0] Try.f48) s' ((Uc r))) ((Uc r))
abbrev Kf (r : Bool) : ES := thenS (fun s' => T tp 70 (ca [1,1,0,1,0,0,1,1] Try.f48) s' ((Wk r))) ((Wk r))
abbrev Gb (r : Bool) : ES := Q0 1 ((Kf r))
theorem Gd {r : Bool} (K : Nat) (h : Uj K = some r) : T tp 70 (ca [1,0,1,0] Try.f48) ⟨[], []⟩ (Dk r) := by
 unfold Uj at h
 refine T.seq (Qr ?_)
 refine aw rfl ?_
 refine TL'.nil (tN ?_)
 refine T.ret (Qj ?_)
 exact Fin.done (.cons _ _ _ _ (.tmp 2 _ rfl) .nil) (by cases h; exact ⟨rfl, rfl⟩)
theorem Yd {r : Bool} (K : Nat) (h : Zy K = some r) : T tp 70 (ca [1,1,0,1,0,0,1,0,0,1,1,0] Try.f48) ⟨[], []⟩ (Gb r) := by
 unfold Zy at h
 refine T.seq (Qr ?_)
 refine aw rfl ?_
 refine TL'.nil (tN ?_)
 refine T.ret (Qt (Qj (Qj (Qt (Qj ?_)))))
 exact Fin.done (.cons _ _ _ _ (.tmp 2 _ rfl) .nil) (by cases h; exact ⟨rfl, rfl⟩)
theorem Dl {r : Bool} (K : Nat) : ∀ (k : Nat), ∀ (u : Int) (x0 : Y6) (w : Nat), Ui K k u x0 = some r → TL tp 70 (ca [1,1,0,1,0,0] Try.f48) ⟨[(1, .ptr w 0), (3, .int .i64 u)], [(b71x6 w x0.First x0.P)]⟩ (Uc r) := by
 intro k
 induction k with
 | zero =>
  intro u x0 w h
  cases (show (none : Option Bool) = some r from h)
 | succ k ih =>
  intro u x0 w h
  rw [Ui] at h
  refine Za ?_
  refine T.seq ?_
  refine T.seq (Qr ?_)
  refine mw rfl ?_
  refine sp rfl (Ql rfl (dk rfl) ul71 rfl i69 (by decide) rfl ?_)
  refine sp rfl (Qo (i := 0) rfl (dk rfl) N9 rfl rfl rfl rfl ?_)
  refine sp rfl (Qn (xs := x0.P) (f := Zh) rfl (dk rfl) N9 rfl ?_)
  refine sp rfl (Qa rfl rfl (dk rfl) rfl rfl ?_)
  refine TL'.nil (tN ?_)
  rcases Qb h with ⟨y, h⟩ | ⟨y, h⟩
  refine Qk rfl y ?_
  refine T.skip (tN ?_)
  refine T.seq ?_
  refine T.block ?_
  refine T.seq (Qr ?_)
  refine sp rfl (Ql rfl (dk rfl) ul71 rfl i69 (by decide) rfl ?_)
  refine sp rfl (Qo (i := 0) rfl (dk rfl) N9 rfl rfl rfl rfl ?_)
  refine mw rfl ?_
  obtain ⟨b, ab, h⟩ := bind_some h
  refine sp rfl (Qi (xs := x0.P) (f := Zh) (v := b) rfl (dk rfl) N9 i104 rfl rfl ab ?_)
  refine sp rfl (Zg rfl (dk rfl) Ce rfl i104 rfl (nb rfl) ?_)
  refine sp rfl (Zj rfl (dk rfl) i104 rfl (fun ad => ?_))
  refine sp rfl (Qz (i := 0) (cells' := [.d (.int .u64 b.S.a0), .d (.int .u64 b.S.a1), .d (.int .u64 b.S.a2), .d (.int .u64 b.S.a3), .d (.int .i64 b.Lo), .d (.int .i64 b.Hi), .d (.int .i64 b.Rule), .d (.bool b.Last), .d (.sl false 1 (mI b.Next))]) rfl rfl i104 rfl rfl rfl rfl (nb rfl) rfl ?_)
  refine TL'.nil (tN (T.seq (Qr ?_)))
  refine sp rfl (Ql rfl (dk rfl) Ce rfl i102 (by decide) rfl ?_)
  refine sp rfl (Zc (i := 0) (l := (Zr.dc .u64 b.S)) rfl (dk rfl) M7 rfl i102 rfl rfl rfl rfl ?_)
  refine sp rfl (OpT.build (l := (Zr.dc .u64 (Zr.mk 0 0 0 0))) rfl (dk rfl) (N1 M7 i102 i100) (Ho rfl) rfl rfl ?_)
  refine sp rfl (OpT.intsEql (k := .u64) (xs := [b.S.a0, b.S.a1, b.S.a2, b.S.a3]) (ys := [(Zr.mk 0 0 0 0).a0, (Zr.mk 0 0 0 0).a1, (Zr.mk 0 0 0 0).a2, (Zr.mk 0 0 0 0).a3]) rfl (dk rfl) M7 ul100 i100 Try.eqGuardType102 rfl rfl rfl rfl rfl rfl (Zr.same_eq b.S (Zr.mk 0 0 0 0)) ?_)
  refine mw rfl ?_
  rcases Qb h with ⟨j, h⟩ | ⟨j, h⟩
  refine pf rfl j ?_
  refine pf rfl j ?_
  refine pf rfl j ?_
  refine sp rfl (Qf rfl (dk rfl) rfl j rfl ?_)
  refine mw rfl ?_
  refine pf rfl rfl ?_
  refine pf rfl rfl ?_
  refine pf rfl rfl ?_
  refine pf rfl rfl ?_
  refine pf rfl rfl ?_
  refine sp rfl (Qf rfl (dk rfl) rfl rfl rfl ?_)
  refine mw rfl ?_
  refine pf rfl rfl ?_
  refine pf rfl rfl ?_
  refine pf rfl rfl ?_
  refine sp rfl (Qf rfl (dk rfl) rfl rfl rfl ?_)
  refine mw rfl ?_
  refine pf rfl rfl ?_
  refine pf rfl rfl ?_
  refine pf rfl rfl ?_
  refine sp rfl (Qf rfl (dk rfl) rfl rfl rfl ?_)
  refine mw rfl ?_
  refine pf rfl rfl ?_
  refine pf rfl rfl ?_
  refine pf rfl rfl ?_
  refine sp rfl (Qf rfl (dk rfl) rfl rfl rfl ?_)
  refine mw rfl ?_
  refine pf rfl rfl ?_
  refine pf rfl rfl ?_
  refine pf rfl rfl ?_
  refine pf rfl rfl ?_
  refine pf rfl rfl ?_
  refine pf rfl rfl ?_
  refine pf rfl rfl ?_
  refine sp rfl (Qf rfl (dk rfl) rfl rfl rfl ?_)
  refine TL'.nil (tN ?_)
  refine Qk rfl rfl ?_
  refine Qd ?_ (Yd K h)
  exact tq rfl rfl
  refine sn rfl j (Ql rfl (dk rfl) Ce rfl i3 (by decide) rfl ?_)
  refine sn rfl j (Qo (i := 0) rfl (dk rfl) ul3 rfl rfl rfl rfl ?_)
  refine sn rfl j (Qa rfl rfl (dk rfl) rfl rfl ?_)
  refine sp rfl (Qm rfl (dk rfl) rfl j rfl ?_)
  refine mw rfl ?_
  rcases Qb h with ⟨g, h⟩ | ⟨g, h⟩
  refine pf rfl g ?_
  refine pf rfl g ?_
  refine pf rfl g ?_
  refine pf rfl g ?_
  refine pf rfl g ?_
  refine sp rfl (Qf rfl (dk rfl) rfl g rfl ?_)
  refine mw rfl ?_
  refine pf rfl rfl ?_
  refine pf rfl rfl ?_
  refine pf rfl rfl ?_
  refine sp rfl (Qf rfl (dk rfl) rfl rfl rfl ?_)
  refine mw rfl ?_
  refine pf rfl rfl ?_
  refine pf rfl rfl ?_
  refine pf rfl rfl ?_
  refine sp rfl (Qf rfl (dk rfl) rfl rfl rfl ?_)
  refine mw rfl ?_
  refine pf rfl rfl ?_
  refine pf rfl rfl ?_
  refine pf rfl rfl ?_
  refine sp rfl (Qf rfl (dk rfl) rfl rfl rfl ?_)
  refine mw rfl ?_
  refine pf rfl rfl ?_
  refine pf rfl rfl ?_
  refine pf rfl rfl ?_
  refine pf rfl rfl ?_
  refine pf rfl rfl ?_
  refine pf rfl rfl ?_
  refine pf rfl rfl ?_
  refine sp rfl (Qf rfl (dk rfl) rfl rfl rfl ?_)
  refine TL'.nil (tN ?_)
  refine Qk rfl rfl ?_
  refine Qd ?_ (Yd K h)
  exact tq rfl rfl
  refine sn rfl g (Ql rfl (dk rfl) Ce rfl i3 (by decide) rfl ?_)
  refine sn rfl g (Qo (i := 0) rfl (dk rfl) ul3 rfl rfl rfl rfl ?_)
  refine sn rfl g (Ql rfl (dk rfl) Ce rfl i3 (by decide) rfl ?_)
  refine sn rfl g (Qo (i := 0) rfl (dk rfl) ul3 rfl rfl rfl rfl ?_)
  refine sn rfl g (Qa rfl rfl (dk rfl) rfl rfl ?_)
  refine sp rfl (Qm rfl (dk rfl) rfl g rfl ?_)
  refine mw rfl ?_
  rcases Qb h with ⟨m, h⟩ | ⟨m, h⟩
  refine pf rfl m ?_
  refine pf rfl m ?_
  refine pf rfl m ?_
  refine sp rfl (Qf rfl (dk rfl) rfl m rfl ?_)
  refine mw rfl ?_
  refine pf rfl rfl ?_
  refine pf rfl rfl ?_
  refine pf rfl rfl ?_
  refine sp rfl (Qf rfl (dk rfl) rfl rfl rfl ?_)
  refine mw rfl ?_
  refine pf rfl rfl ?_
  refine pf rfl rfl ?_
  refine pf rfl rfl ?_
  refine sp rfl (Qf rfl (dk rfl) rfl rfl rfl ?_)
  refine mw rfl ?_
  refine pf rfl rfl ?_
  refine pf rfl rfl ?_
  refine pf rfl rfl ?_
  refine pf rfl rfl ?_
  refine pf rfl rfl ?_
  refine pf rfl rfl ?_
  refine pf rfl rfl ?_
  refine sp rfl (Qf rfl (dk rfl) rfl rfl rfl ?_)
  refine TL'.nil (tN ?_)
  refine Qk rfl rfl ?_
  refine Qd ?_ (Yd K h)
  exact tq rfl rfl
  refine sn rfl m (Ql rfl (dk rfl) Ce rfl i3 (by decide) rfl ?_)
  refine sn rfl m (Qo (i := 0) rfl (dk rfl) ul3 rfl rfl rfl rfl ?_)
  refine sn rfl m (Qa rfl rfl (dk rfl) rfl rfl ?_)
  refine sp rfl (Qm rfl (dk rfl) rfl m rfl ?_)
  refine mw rfl ?_
  rcases Qb h with ⟨p, h⟩ | ⟨p, h⟩
  refine pf rfl p ?_
  refine pf rfl p ?_
  refine pf rfl p ?_
  refine sp rfl (Qf rfl (dk rfl) rfl p rfl ?_)
  refine mw rfl ?_
  refine pf rfl rfl ?_
  refine pf rfl rfl ?_
  refine pf rfl rfl ?_
  refine sp rfl (Qf rfl (dk rfl) rfl rfl rfl ?_)
  refine mw rfl ?_
  refine pf rfl rfl ?_
  refine pf rfl rfl ?_
  refine pf rfl rfl ?_
  refine pf rfl rfl ?_
  refine pf rfl rfl ?_
  refine pf rfl rfl ?_
  refine pf rfl rfl ?_
  refine sp rfl (Qf rfl (dk rfl) rfl rfl rfl ?_)
  refine TL'.nil (tN ?_)
  refine Qk rfl rfl ?_
  refine Qd ?_ (Yd K h)
  exact tq rfl rfl
  refine sn rfl p (Ql rfl (dk rfl) Ce rfl i3 (by decide) rfl ?_)
  refine sn rfl p (Qo (i := 0) rfl (dk rfl) ul3 rfl rfl rfl rfl ?_)
  refine sn rfl p (Qa rfl rfl (dk rfl) rfl rfl ?_)
  refine sp rfl (Qm rfl (dk rfl) rfl p rfl ?_)
  refine mw rfl ?_
  rcases Qb h with ⟨q, h⟩ | ⟨q, h⟩
  refine pf rfl q ?_
  refine pf rfl q ?_
  refine pf rfl q ?_
  refine sp rfl (Qf rfl (dk rfl) rfl q rfl ?_)
  refine mw rfl ?_
  refine pf rfl rfl ?_
  refine pf rfl rfl ?_
  refine pf rfl rfl ?_
  refine pf rfl rfl ?_
  refine pf rfl rfl ?_
  refine pf rfl rfl ?_
  refine pf rfl rfl ?_
  refine sp rfl (Qf rfl (dk rfl) rfl rfl rfl ?_)
  refine TL'.nil (tN ?_)
  refine Qk rfl rfl ?_
  refine Qd ?_ (Yd K h)
  exact tq rfl rfl
  refine sn rfl q (Ql rfl (dk rfl) Ce rfl i3 (by decide) rfl ?_)
  refine sn rfl q (Qo (i := 0) rfl (dk rfl) ul3 rfl rfl rfl rfl ?_)
  refine sn rfl q (Qa rfl rfl (dk rfl) rfl rfl ?_)
  refine sp rfl (Qm rfl (dk rfl) rfl q rfl ?_)
  refine mw rfl ?_
  rcases Qb h with ⟨a, h⟩ | ⟨a, h⟩
  refine pf rfl a ?_
  refine pf rfl a ?_
  refine pf rfl a ?_
  refine pf rfl a ?_
  refine pf rfl a ?_
  refine pf rfl a ?_
  refine pf rfl a ?_
  refine sp rfl (Qf rfl (dk rfl) rfl a rfl ?_)
  refine TL'.nil (tN ?_)
  refine Qk rfl rfl ?_
  refine Qd ?_ (Yd K h)
  exact tq rfl rfl
  refine sn rfl a (Ql rfl (dk rfl) Ce rfl i56 (by decide) rfl ?_)
  refine sn rfl a (Qo (i := 0) rfl (dk rfl) Yo rfl rfl rfl rfl ?_)
  refine sn rfl a (Ql rfl (dk rfl) ul71 rfl i69 (by decide) rfl ?_)
  refine sn rfl a (Qo (i := 1) rfl (dk rfl) N9 rfl rfl rfl rfl ?_)
  refine sn rfl a (Qn (xs := x0.P) (f := Zh) rfl (dk rfl) N9 rfl ?_)
  obtain ⟨af, ac, h⟩ := bind_some h
  refine sn rfl a (Q2 rfl (dk rfl) Try.func68 rfl rfl (Q5.cons rfl (Q5.cons rfl Q5.nil)) (Zp.nil (Kz K (flx0 := false) ac)) ?_)
  refine sn rfl a (OpT.not rfl (dk rfl) rfl ?_)
  refine sp rfl (Qm rfl (dk rfl) rfl a rfl ?_)
  refine TL'.nil (tN ?_)
  rcases Qb h with ⟨aa, h⟩ | ⟨aa, h⟩
  refine Qk rfl aa ?_
  refine Qd ?_ (Yd K h)
  exact tq rfl rfl
  refine Qp rfl aa ?_
  refine T.skip (Qe (tN ?_))
  refine Qr ?_
  refine mw rfl ?_
  refine sp rfl (Qa rfl rfl (dk rfl) rfl rfl ?_)
  refine aw rfl ?_
  refine TL'.nil (tN ?_)
  refine Qc ?_ (ih (wI (u + (1:Int))) x0 w h)
  exact tr rfl (.c (.s .z) (.n _))
  refine Qp rfl y ?_
  refine T.exit (Qh (Qh (Qq (tN ?_))))
  refine T.seq (Qr ?_)
  refine aw rfl ?_
  refine TL'.nil (tN ?_)
  refine T.ret ?_
  exact Fin.done (.cons _ _ _ _ (.tmp 2 _ rfl) .nil) (by cases h; exact ⟨rfl, rfl⟩)
theorem Io (K : Nat) {x0 : Y6} {r : Bool} (h : Gp K x0 = some r) : Zp tp 48 [.agg [.sl false 1 (mI x0.First), .sl false 9 (x0.P.map Zh)]] [] (.bool r) := by
 refine Qs Try.func48 rfl (nb rfl) ?_
 show T tp 70 (ca [] Try.f48) ⟨Qv 0 [.agg [.sl false 1 (mI x0.First), .sl false 9 (x0.P.map Zh)]], []⟩ (Vm r)
 unfold Gp at h
 refine T.seq (Qr ?_)
 refine sp rfl (Zb rfl (dk rfl) rfl (fun d => ?_))
 refine aw rfl ?_
 refine TL'.nil (tN ?_)
 refine T.seq ?_
 refine T.seq (Qr ?_)
 refine sp rfl (Ql rfl (dk rfl) ul71 rfl i69 (by decide) rfl ?_)
 refine sp rfl (Qo (i := 0) rfl (dk rfl) N9 rfl rfl rfl rfl ?_)
 refine sp rfl (Qn (xs := x0.P) (f := Zh) rfl (dk rfl) N9 rfl ?_)
 refine sp rfl (Qa rfl rfl (dk rfl) rfl rfl ?_)
 refine mw rfl ?_
 rcases Qb h with ⟨a, h⟩ | ⟨a, h⟩
 refine pf rfl a ?_
 refine pf rfl a ?_
 refine pf rfl a ?_
 refine pf rfl a ?_
 refine pf rfl a ?_
 refine pf rfl a ?_
 refine pf rfl a ?_
 refine sp rfl (Qf rfl (dk rfl) rfl a rfl ?_)
 refine TL'.nil (tN ?_)
 refine Qk rfl rfl ?_
 refine Qd ?_ (Gd K h)
 exact tq rfl rfl
 refine sn rfl a (Ql rfl (dk rfl) ul71 rfl i56 (by decide) rfl ?_)
 refine sn rfl a (Qo (i := 0) rfl (dk rfl) Yo rfl rfl rfl rfl ?_)
 refine sn rfl a (Ql rfl (dk rfl) ul71 rfl i69 (by decide) rfl ?_)
 refine sn rfl a (Qo (i := 0) rfl (dk rfl) N9 rfl rfl rfl rfl ?_)
 refine sn rfl a (Qn (xs := x0.P) (f := Zh) rfl (dk rfl) N9 rfl ?_)
 obtain ⟨j, g, h⟩ := bind_some h
 refine sn rfl a (Q2 rfl (dk rfl) Try.func68 rfl rfl (Q5.cons rfl (Q5.cons rfl Q5.nil)) (Zp.nil (Kz K (flx0 := false) g)) ?_)
 refine sn rfl a (OpT.not rfl (dk rfl) rfl ?_)
 refine sp rfl (Qm rfl (dk rfl) rfl a rfl ?_)
 refine TL'.nil (tN ?_)
 rcases Qb h with ⟨b, h⟩ | ⟨b, h⟩
 refine Qk rfl b ?_
 refine Qd ?_ (Gd K h)
 exact tq rfl rfl
 refine Qp rfl b ?_
 refine T.skip (tN ?_)
 refine T.seq ?_
 refine T.seq (Qr ?_)
 refine aw rfl ?_
 refine TL'.nil (tN ?_)
 refine T.block ?_
 refine T.loop ?_
 refine Qc ?_ (Dl K K (0:Int) x0 d h)
 exact tq rfl rfl
abbrev Oo (r : Bool) : ES := Jt tp Try.f72 (fun y t => y = (.bool r) ∧ t = [])
theorem Us (K : Nat) {x0 : Zr} {x1 : Int} {r : Bool} (h : Vp K x0 x1 = some r) : Zp tp 72 [.agg (Zr.dc .u64 x0), .int .u8 x1] [] (.bool r) := by
 refine Qs Try.func72 rfl (nb rfl) ?_
 show T tp 14 (ca [] Try.f72) ⟨Qv 0 [.agg (Zr.dc .u64 x0), .int .u8 x1], []⟩ (Oo r)
 unfold Vp at h
 refine T.seq (Qr ?_)
 refine sp rfl (Zb rfl (dk rfl) rfl (fun d => ?_))
 refine aw rfl ?_
 refine TL'.nil (tN (T.seq (Qr ?_)))
 refine mw rfl ?_
 refine sp rfl (OpT.quo rfl (dk rfl) rfl rfl (by decide) ?_)
 obtain ⟨b, h⟩ := Zm h
 refine sp rfl (Z3 rfl (dk rfl) M7 i100 rfl rfl b.1 b.2 ?_)
 refine sp rfl (Qo (i := 0) rfl (dk rfl) ul100 rfl rfl rfl (R5 (k := .u64) (a := x0) (pre := []) (post := []) b.1 b.2) ?_)
 refine mw rfl ?_
 refine sp rfl (OpT.rem rfl (dk rfl) rfl rfl (by decide) ?_)
 obtain ⟨c, h⟩ := Zm h
 refine sp rfl (OpT.shr rfl (dk rfl) rfl rfl c ?_)
 refine sp rfl (OpT.rem rfl (dk rfl) rfl rfl (by decide) ?_)
 refine sp rfl (Qa rfl rfl (dk rfl) rfl rfl ?_)
 refine aw rfl ?_
 refine TL'.nil (tN ?_)
 refine T.ret ?_
 exact Fin.done (.cons _ _ _ _ (.tmp 4 _ rfl) .nil) (by cases h; exact ⟨rfl, rfl⟩)
abbrev Wv (r : Bool) : ES := Jt tp Try.f69 (fun y t => y = (.bool r) ∧ t = [])
abbrev Dm (r : Bool) : ES := thenS (fun s' => T tp 27 (ca [1,1] Try.f69) s' ((Wv r))) ((Wv r))
abbrev By (r : Bool) : ES := Q0 0 ((Dm r))
theorem Dn {r : Bool} (K : Nat) : ∀ (k : Nat), ∀ (x0 : List Zr) (x1 x2 b : Int) (flx0 : Bool), Uk K k x0 x1 x2 b = some r → TL tp 27 (ca [1,0,1,0,0] Try.f69) ⟨[(0, .sl flx0 4 (x0.map (Zr.dc .u64))), (1, .int .u8 x1), (2, .int .u8 x2), (7, .int .i64 b)], []⟩ (By r) := by
 intro k
 induction k with
 | zero =>
  intro x0 x1 x2 b flx0 h
  cases (show (none : Option Bool) = some r from h)
 | succ k ih =>
  intro x0 x1 x2 b flx0 h
  rw [Uk] at h
  refine Za ?_
  refine T.seq ?_
  refine T.seq (Qr ?_)
  refine mw rfl ?_
  refine mw rfl ?_
  refine sp rfl (Qn (xs := x0) (f := (Zr.dc .u64)) rfl (dk rfl) ul99 rfl ?_)
  refine sp rfl (Qa rfl rfl (dk rfl) rfl rfl ?_)
  refine TL'.nil (tN ?_)
  rcases Qb h with ⟨i, h⟩ | ⟨i, h⟩
  refine Qk rfl i ?_
  refine T.skip (tN ?_)
  refine T.seq ?_
  refine T.block ?_
  refine T.seq ?_
  refine Xl ?_
  refine Yg rfl rfl rfl rfl rfl rfl ?_
  refine Yg rfl rfl rfl rfl rfl rfl ?_
  obtain ⟨a, l, h⟩ := bind_some h
  refine dS (c := ⟨some 16, .ref [.int .u64 a.a0, .int .u64 a.a1, .int .u64 a.a2, .int .u64 a.a3], [(14, .sl flx0 4 (x0.map (Zr.dc .u64))), (15, .int .i64 b)], [], []⟩) (fun t hm => oF rfl rfl (Qi (xs := x0) (f := (Zr.dc .u64)) (v := a) rfl (dk rfl) ul99 i102 hm.s0 hm.s1 l rfl)) rfl rfl ?_
  refine dS (c := ⟨some 17, .agg (Zr.dc .u64 a), [(16, .ref [.int .u64 a.a0, .int .u64 a.a1, .int .u64 a.a2, .int .u64 a.a3])], [], []⟩) (fun t hm => oF rfl rfl (Zg rfl (dk rfl) M7 rfl i102 hm.s0 (nb rfl) rfl)) rfl rfl ?_
  refine Yg rfl rfl rfl rfl rfl rfl ?_
  obtain ⟨d, m, h⟩ := bind_some h
  refine dS (c := ⟨some 19, .bool d, [(17, .agg (Zr.dc .u64 a)), (18, .int .u8 x1)], [], []⟩) (fun t hm => oF rfl rfl (Q2 rfl (dk rfl) Try.func72 rfl rfl (Q5.cons hm.s0 (Q5.cons hm.s1 Q5.nil)) (Zp.nil (Us K m)) rfl)) rfl rfl ?_
  refine Yg rfl rfl rfl rfl rfl rfl ?_
  refine Yg rfl rfl rfl rfl rfl rfl ?_
  refine dS (c := ⟨some 22, .ref [.int .u64 a.a0, .int .u64 a.a1, .int .u64 a.a2, .int .u64 a.a3], [(20, .sl flx0 4 (x0.map (Zr.dc .u64))), (21, .int .i64 b)], [], []⟩) (fun t hm => oF rfl rfl (Qi (xs := x0) (f := (Zr.dc .u64)) (v := a) rfl (dk rfl) ul99 i102 hm.s0 hm.s1 l rfl)) rfl rfl ?_
  refine dS (c := ⟨some 23, .agg (Zr.dc .u64 a), [(22, .ref [.int .u64 a.a0, .int .u64 a.a1, .int .u64 a.a2, .int .u64 a.a3])], [], []⟩) (fun t hm => oF rfl rfl (Zg rfl (dk rfl) M7 rfl i102 hm.s0 (nb rfl) rfl)) rfl rfl ?_
  refine Yg rfl rfl rfl rfl rfl rfl ?_
  obtain ⟨g, p, h⟩ := bind_some h
  refine dS (c := ⟨some 25, .bool g, [(23, .agg (Zr.dc .u64 a)), (24, .int .u8 x2)], [], []⟩) (fun t hm => oF rfl rfl (Q2 rfl (dk rfl) Try.func72 rfl rfl (Q5.cons hm.s0 (Q5.cons hm.s1 Q5.nil)) (Zp.nil (Us K p)) rfl)) rfl rfl ?_
  refine dS (c := ⟨some 26, .bool (!(d == g)), [(19, .bool d), (25, .bool g)], [], []⟩) (fun t hm => oF rfl rfl (OpT.bool_neq rfl (dk rfl) ul4 hm.s0 hm.s1 rfl)) rfl rfl ?_
  refine Ys (s1 := ⟨[(0, .sl flx0 4 (x0.map (Zr.dc .u64))), (1, .int .u8 x1), (2, .int .u8 x2), (7, .int .i64 b), (26, .bool (!(d == g)))], []⟩) (ms := [0, 0, 3, 7, 0, 31, 0, 0, 192, 448, 0, 2047, 4095]) Q7 rfl (by kernel_rfl) (by kernel_rfl) (by kernel_rfl) (sf rfl) rfl (fun u hu => (tN (Qd hu ?_)))
  rcases Qb h with ⟨j, h⟩ | ⟨j, h⟩
  refine Qk rfl j ?_
  refine T.seq (Qr ?_)
  refine aw rfl ?_
  refine TL'.nil (tN ?_)
  refine T.ret (Qt (Qj (Qj (Qt (Qj ?_)))))
  exact Fin.done (.cons _ _ _ _ (.tmp 6 _ rfl) .nil) (by cases h; exact ⟨rfl, rfl⟩)
  refine Qp rfl j ?_
  refine T.skip (Qe (tN ?_))
  refine Qr ?_
  refine mw rfl ?_
  refine sp rfl (Qa rfl rfl (dk rfl) rfl rfl ?_)
  refine aw rfl ?_
  refine TL'.nil (tN ?_)
  refine Qc ?_ (ih x0 x1 x2 (wI (b + (1:Int))) flx0 h)
  exact tq rfl rfl
  refine Qp rfl i ?_
  refine T.exit (Qh (Qh (Qq (tN ?_))))
  refine T.seq (Qr ?_)
  refine aw rfl ?_
  refine TL'.nil (tN ?_)
  refine T.ret ?_
  exact Fin.done (.cons _ _ _ _ (.tmp 6 _ rfl) .nil) (by cases h; exact ⟨rfl, rfl⟩)
theorem Ip (K : Nat) {x0 : List Zr} {x1 x2 : Int} {flx0 r : Bool} (h : Gq K x0 x1 x2 = some r) : Zp tp 69 [.sl flx0 4 (x0.map (Zr.dc .u64)), .int .u8 x1, .int .u8 x2] [] (.bool r) := by
 refine Qs Try.func69 rfl (nb rfl) ?_
 show T tp 27 (ca [] Try.f69) ⟨Qv 0 [.sl flx0 4 (x0.map (Zr.dc .u64)), .int .u8 x1, .int .u8 x2], []⟩ (Wv r)
 unfold Gq at h
 refine T.seq (Qr ?_)
 refine aw rfl ?_
 refine TL'.nil (tN ?_)
 refine T.seq ?_
 refine T.seq (Qr ?_)
 refine aw rfl ?_
 refine TL'.nil (tN ?_)
 refine T.block ?_
 refine T.loop ?_
 refine Qc ?_ (Dn K K x0 x1 x2 (0:Int) flx0 h)
 exact tq rfl rfl
abbrev Ls (r : aSp) : ES := Jt tp Try.f49 (fun y t => y = (.agg ((Qy.dc 256 .u8 r.Of) ++ (([.int .i64 r.Many] : List DC)))) ∧ t = [])
abbrev El (r : aSp) : ES := thenS (fun s' => T tp 47 (ca [1,1,1,1] Try.f49) s' ((Ls r))) ((Ls r))
abbrev X9 (r : aSp) : ES := Q0 0 ((El r))
abbrev Hv (r : aSp) : ES := thenS (fun s' => TL tp 47 (ca [1,1,1,0,1,0,0] Try.f49) s' ((X9 r))) ((X9 r))
abbrev Mn (r : aSp) : ES := thenS (fun s' => T tp 47 (ca [1,1,1,0,1,0,0,1,1] Try.f49) s' ((Hv r))) ((Hv r))
abbrev Xs (r : aSp) : ES := Q0 1 ((Mn r))
abbrev Lr (r : aSp) : ES := thenS (fun s' => T tp 47 (ca [1,1,1,0,1,0,0,1,0,0,1,1] Try.f49) s' ((Xs r))) ((Xs r))
abbrev Wx (r : aSp) : ES := Q0 2 ((Lr r))
abbrev K1 (r : aSp) (go : (List Zr) → Int → Qy → Qy → (List Int) → Option aSp) : Prop := ∀ (x0 : List Zr) (a : Int) (b f : Qy) (g : List Int) (flx0 : Bool) (i j : Nat) (l : Value), go x0 a b f g = some r → TL tp 47 (ca [1,1,1,0,1,0,0] Try.f49) ⟨[(0, .sl flx0 4 (x0.map (Zr.dc .u64))), (2, .ptr i 0), (3, .ptr j 0), (4, .c (.ex l)), (5, .int .i64 a)], [(Fv i b (0:Int)), (Fv j f (0:Int)), .arrA l 5 1 (mU g)]⟩ (X9 r)
theorem U4 {r : aSp} (K : Nat) (go0 : (List Zr) → Int → Qy → Qy → (List Int) → Option aSp) (hgo0 : K1 r go0) (x0 : List Zr) (g j : Int) (l b : Qy) (m : List Int) (flx0 : Bool) (p q : Nat) (s : Value) (h : Vk K go0 x0 g j l b m = some r) : T tp 47 (ca [1,1,1,0,1,0,0,1,0,0,1,1,1] Try.f49) ⟨[(0, .sl flx0 4 (x0.map (Zr.dc .u64))), (2, .ptr p 0), (3, .ptr q 0), (4, .c (.ex s)), (5, .int .i64 g), (6, .int .i64 j)], [(Fv p l (0:Int)), (Fv q b (0:Int)), .arrA s 5 1 (mU m)]⟩ (Xs r) := by
 unfold Vk at h
 refine Qr ?_
 refine mw rfl ?_
 refine mw rfl ?_
 refine sp rfl (Yn rfl (dk rfl) ul3 ul5 rfl ?_)
 refine sp rfl (Ql rfl (dk rfl) F7 rfl i22 (by decide) rfl ?_)
 obtain ⟨f, h⟩ := Zm h
 refine sp rfl (Z3 rfl (dk rfl) ul22 i5 rfl rfl f.1 f.2 ?_)
 refine sp rfl (Ug (i := 1) (cells' := ((Qy.oc 256 .u8 (Qy.set b g (IntKind.u8.wrap j))) ++ (([.d (.int .i64 (0:Int))]:List OC)))) rfl rfl i5 rfl rfl rfl (Qy.oc_lt (n := 256) (k := .u8) (a := b) (pre := []) (post := [.d (.int .i64 (0:Int))]) f.1 f.2) (Qy.oc_set (n := 256) (k := .u8) (a := b) (pre := []) (post := [.d (.int .i64 (0:Int))]) f.1 f.2) ?_)
 refine TL'.nil (Qe (tN ?_))
 refine Qr ?_
 refine mw rfl ?_
 refine sp rfl (Qa rfl rfl (dk rfl) rfl rfl ?_)
 refine aw rfl ?_
 refine TL'.nil (tN ?_)
 refine Qc ?_ (hgo0 x0 (wI (g + (1:Int))) l (Qy.set b g (IntKind.u8.wrap j)) m flx0 p q s h)
 exact tq rfl rfl
theorem Ir {r : aSp} (K : Nat) (go0 : (List Zr) → Int → Qy → Qy → (List Int) → Option aSp) (hgo0 : K1 r go0) : ∀ (k : Nat), ∀ (x0 : List Zr) (b j : Int) (l m : Qy) (g : List Int) (flx0 : Bool) (p q : Nat) (s : Value), J5 K go0 k x0 b j l m g = some r → TL tp 47 (ca [1,1,1,0,1,0,0,1,0,0,1,0,0,0] Try.f49) ⟨[(0, .sl flx0 4 (x0.map (Zr.dc .u64))), (2, .ptr p 0), (3, .ptr q 0), (4, .c (.ex s)), (5, .int .i64 b), (6, .int .i64 j)], [(Fv p l (0:Int)), (Fv q m (0:Int)), .arrA s 5 1 (mU g)]⟩ (Wx r) := by
 intro k
 induction k with
 | zero =>
  intro x0 b j l m g flx0 p q s h
  cases (show (none : Option aSp) = some r from h)
 | succ k ih =>
  intro x0 b j l m g flx0 p q s h
  rw [J5] at h
  refine Za ?_
  refine T.seq ?_
  refine T.seq (Qr ?_)
  refine mw rfl ?_
  refine mw rfl ?_
  refine sp rfl (Cc (i := 2) (xs := g) (f := (cI .u8)) rfl (dk rfl) Vj rfl rfl ?_)
  refine sp rfl (Qa rfl rfl (dk rfl) rfl rfl ?_)
  refine mw rfl ?_
  rcases Qb h with ⟨a, h⟩ | ⟨a, h⟩
  refine sn rfl a (OpT.move rfl (dk rfl) rfl ?_)
  refine sn rfl a (OpT.move rfl (dk rfl) rfl ?_)
  refine sn rfl a (OpT.move rfl (dk rfl) rfl ?_)
  refine Xk (Zn.view 18 2 rfl rfl) ?_
  obtain ⟨aa, ab, h⟩ := bind_some h
  refine sn rfl a (Qi (xs := g) (f := (cI .u8)) (v := aa) rfl (dk rfl) Vj i5 rfl rfl ab ?_)
  refine sn rfl a (Qu rfl (dk rfl) ul5 rfl rfl rfl ?_)
  refine sn rfl a (OpT.move rfl (dk rfl) rfl ?_)
  refine sn rfl a (Yn rfl (dk rfl) ul3 ul5 rfl ?_)
  obtain ⟨aj, ac, h⟩ := bind_some h
  refine sn rfl a (Q2 rfl (dk rfl) Try.func69 rfl rfl (Q5.cons rfl (Q5.cons rfl (Q5.cons rfl Q5.nil))) (Zp.nil (Ip K (flx0 := flx0) ac)) ?_)
  refine sn rfl a (OpT.not rfl (dk rfl) rfl ?_)
  refine sp rfl (Qf rfl (dk rfl) rfl a rfl ?_)
  refine TL'.nil (tN ?_)
  rcases Qb h with ⟨u, h⟩ | ⟨u, h⟩
  refine Qk rfl u ?_
  refine T.skip (tN ?_)
  refine T.block ?_
  refine Qr ?_
  refine mw rfl ?_
  refine sp rfl (Qa rfl rfl (dk rfl) rfl rfl ?_)
  refine aw rfl ?_
  refine TL'.nil (Qe (tN ?_))
  refine Qc ?_ (ih x0 b (wI (j + (1:Int))) l m g flx0 p q s h)
  exact tq rfl rfl
  refine Qp rfl u ?_
  refine T.exit (Qh (Qh (Qq (tN ?_))))
  refine T.seq ?_
  refine T.seq (Qr ?_)
  refine mw rfl ?_
  refine mw rfl ?_
  refine sp rfl (Cc (i := 2) (xs := g) (f := (cI .u8)) rfl (dk rfl) Vj rfl rfl ?_)
  refine sp rfl (Qa rfl rfl (dk rfl) rfl rfl ?_)
  refine TL'.nil (tN ?_)
  rcases Qb h with ⟨w, h⟩ | ⟨w, h⟩
  refine Qk rfl w ?_
  refine Qr ?_
  refine mw rfl ?_
  refine mw rfl ?_
  refine sp rfl (Yn rfl (dk rfl) ul3 ul5 rfl ?_)
  refine sp rfl (OpT.buildSlice (elems := ([(IntKind.u8.wrap b)] : List Int).map (cI .u8)) rfl (dk rfl) Vj i5 (by decide) rfl (Ho rfl) rfl rfl rfl (Xc rfl) (by decide) ?_)
  obtain ⟨ad, h⟩ := Zm h
  refine sp rfl (Zf (i := 2) (xs := g) (ys := [(IntKind.u8.wrap b)]) (f := (cI .u8)) rfl (dk rfl) Vj i5 rfl rfl rfl rfl ad (fun af => ?_))
  refine aw rfl ?_
  refine TL'.nil (tN ?_)
  refine Qd ?_ (U4 K go0 hgo0 x0 b j l m (g ++ [(IntKind.u8.wrap b)]) flx0 p q af h)
  exact tq rfl rfl
  refine Qp rfl w ?_
  refine T.skip (tN ?_)
  refine Qd ?_ (U4 K go0 hgo0 x0 b j l m g flx0 p q s h)
  exact tq rfl rfl
  refine pf rfl a ?_
  refine pf rfl a ?_
  refine pf rfl a ?_
  refine pf rfl a ?_
  refine pf rfl a ?_
  refine pf rfl a ?_
  refine pf rfl a ?_
  refine pf rfl a ?_
  refine pf rfl a ?_
  refine sp rfl (Qm rfl (dk rfl) rfl a rfl ?_)
  refine TL'.nil (tN ?_)
  refine Qp rfl rfl ?_
  refine T.exit (Qh (Qh (Qq (tN ?_))))
  refine T.seq ?_
  refine T.seq (Qr ?_)
  refine mw rfl ?_
  refine mw rfl ?_
  refine sp rfl (Cc (i := 2) (xs := g) (f := (cI .u8)) rfl (dk rfl) Vj rfl rfl ?_)
  refine sp rfl (Qa rfl rfl (dk rfl) rfl rfl ?_)
  refine TL'.nil (tN ?_)
  rcases Qb h with ⟨y, h⟩ | ⟨y, h⟩
  refine Qk rfl y ?_
  refine Qr ?_
  refine mw rfl ?_
  refine mw rfl ?_
  refine sp rfl (Yn rfl (dk rfl) ul3 ul5 rfl ?_)
  refine sp rfl (OpT.buildSlice (elems := ([(IntKind.u8.wrap b)] : List Int).map (cI .u8)) rfl (dk rfl) Vj i5 (by decide) rfl (Ho rfl) rfl rfl rfl (Xc rfl) (by decide) ?_)
  obtain ⟨ag, h⟩ := Zm h
  refine sp rfl (Zf (i := 2) (xs := g) (ys := [(IntKind.u8.wrap b)]) (f := (cI .u8)) rfl (dk rfl) Vj i5 rfl rfl rfl rfl ag (fun ai => ?_))
  refine aw rfl ?_
  refine TL'.nil (tN ?_)
  refine Qd ?_ (U4 K go0 hgo0 x0 b j l m (g ++ [(IntKind.u8.wrap b)]) flx0 p q ai h)
  exact tq rfl rfl
  refine Qp rfl y ?_
  refine T.skip (tN ?_)
  refine Qd ?_ (U4 K go0 hgo0 x0 b j l m g flx0 p q s h)
  exact tq rfl rfl
theorem It {r : aSp} (K : Nat) : ∀ (k : Nat), ∀ (x0 : List Zr) (g : Int) (j b : Qy) (a : List Int) (flx0 : Bool) (m p : Nat) (q : Value), Ur K k x0 g j b a = some r → TL tp 47 (ca [1,1,1,0,1,0,0] Try.f49) ⟨[(0, .sl flx0 4 (x0.map (Zr.dc .u64))), (2, .ptr m 0), (3, .ptr p 0), (4, .c (.ex q)), (5, .int .i64 g)], [(Fv m j (0:Int)), (Fv p b (0:Int)), .arrA q 5 1 (mU a)]⟩ (X9 r) := by
 intro k
 induction k with
 | zero =>
  intro x0 g j b a flx0 m p q h
  cases (show (none : Option aSp) = some r from h)
 | succ k ih =>
  intro x0 g j b a flx0 m p q h
  rw [Ur] at h
  refine Za ?_
  refine T.seq ?_
  refine T.seq (Qr ?_)
  refine mw rfl ?_
  refine sp rfl (Qa rfl rfl (dk rfl) rfl rfl ?_)
  refine TL'.nil (tN ?_)
  rcases Qb h with ⟨s, h⟩ | ⟨s, h⟩
  refine Qk rfl s ?_
  refine T.skip (tN ?_)
  refine T.seq ?_
  refine T.block ?_
  refine T.seq (Qr ?_)
  refine aw rfl ?_
  refine TL'.nil (tN ?_)
  refine T.seq ?_
  refine T.block ?_
  refine T.loop ?_
  refine Qc ?_ (Ir K (Ur K k) ih K x0 g (0:Int) j b a flx0 m p q h)
  exact tq rfl rfl
  refine Qp rfl s ?_
  refine T.exit (Qh (Qh (Qq (tN ?_))))
  refine T.seq (Qr ?_)
  refine mw rfl ?_
  refine sp rfl (Cc (i := 2) (xs := a) (f := (cI .u8)) rfl (dk rfl) Vj rfl rfl ?_)
  refine sp rfl (Ql rfl (dk rfl) F7 rfl i3 (by decide) rfl ?_)
  refine sp rfl (Ug (i := 1) (cells' := ((Qy.oc 256 .u8 b) ++ (([.d (.int .i64 (a.length : Int))]:List OC)))) rfl rfl i3 rfl rfl rfl (nb rfl) rfl ?_)
  refine TL'.nil (tN (T.seq (Qr ?_)))
  refine sp rfl (Zc (i := 1) (l := ((Qy.dc 256 .u8 b) ++ (([.int .i64 (a.length : Int)] : List DC)))) rfl (dk rfl) F7 rfl i24 rfl rfl rfl rfl ?_)
  refine sp rfl (Qz (i := 0) (cells' := ((Qy.oc 256 .u8 b) ++ (([.d (.int .i64 (a.length : Int))]:List OC)))) rfl rfl i24 rfl rfl rfl rfl (nb rfl) rfl ?_)
  refine TL'.nil (tN ?_)
  refine T.ret ?_
  exact Fin.done (.cons _ _ _ _ (.cellAgg 2 24 _ 0 0 24 _ ((Qy.dc 256 .u8 b) ++ (([.int .i64 (a.length : Int)] : List DC))) _ _ 257 _ rfl rfl rfl rfl F7 rfl i24) .nil) (by cases h; exact ⟨rfl, rfl⟩)
theorem Pr (K : Nat) {x0 : List Zr} {flx0 : Bool} {r : aSp} (h : Bc K x0 = some r) : Zp tp 49 [.sl flx0 4 (x0.map (Zr.dc .u64))] [] (.agg ((Qy.dc 256 .u8 r.Of) ++ (([.int .i64 r.Many] : List DC)))) := by
 refine Qs Try.func49 rfl (nb rfl) ?_
 show T tp 47 (ca [] Try.f49) ⟨Qv 0 [.sl flx0 4 (x0.map (Zr.dc .u64))], []⟩ (Ls r)
 unfold Bc at h
 refine T.seq (Qr ?_)
 refine sp rfl (Zj rfl (dk rfl) i24 rfl (fun a => ?_))
 refine TL'.nil (tN (T.seq (Qr ?_)))
 refine sp rfl (OpT.build (l := ((Qy.dc 256 .u8 (Qy.mk fun _ => 0)) ++ (([.int .i64 (0:Int)] : List DC)))) rfl (dk rfl) (Zx (pl := [(0, 256), (256, 1)]) F7 i24 rfl) (Ho rfl) rfl rfl ?_)
 refine sp rfl (Zj rfl (dk rfl) i24 rfl (fun b => ?_))
 refine sp rfl (Qz (i := 0) (cells' := ((Qy.oc 256 .u8 (Qy.mk fun _ => 0)) ++ (([.d (.int .i64 (0:Int))]:List OC)))) rfl rfl i24 rfl rfl rfl rfl (nb rfl) rfl ?_)
 refine TL'.nil (tN (T.seq (Qr ?_)))
 refine aw rfl ?_
 refine TL'.nil (tN ?_)
 refine T.seq ?_
 refine T.seq (Qr ?_)
 refine aw rfl ?_
 refine TL'.nil (tN ?_)
 refine T.block ?_
 refine T.loop ?_
 refine Qc (Y7 5 1) ?_
 refine Qc ?_ (It K K x0 (0:Int) (Qy.mk fun _ => 0) (Qy.mk fun _ => 0) [] flx0 a b (Df 2) h)
 exact tr rfl (.c (.s (.s .z)) (.c (.s .z) (.c .z (.n _))))
abbrev H0 (bx0 : Nat) (x0 : Qg) (r : Int) : ES := Jt tp Try.f87 (fun y t => ∃ γ : Nat → Value, y = (.int .i64 r) ∧ t = [(Z5 bx0 x0.g.First x0.g.P (γ 0) x0.a.Split.Of x0.a.Split.Many (γ 1) (γ 2) x0.e), .arrA (γ 0) 3 1 (mI x0.number), .arrA (γ 1) 42 2 (mA x0.a.Counts), .arrX (γ 2) 59 4 0 (x0.a.States.map Qx)])
abbrev Et (bx0 : Nat) (x0 : Qg) (r : Int) : ES := thenS (fun s' => T tp 34 (ca [1,1] Try.f87) s' ((H0 bx0 x0 r))) ((H0 bx0 x0 r))
abbrev Cx (bx0 : Nat) (x0 : Qg) (r : Int) : ES := Q0 0 ((Et bx0 x0 r))
theorem Eu {r : Int} (K bx0 : Nat) (x0 : Qg) : ∀ (k : Nat), ∀ (s x3 m : Int) (x0 : Qg) (x1 : aSt) (b l w0_0aa : Value) (j : Nat), U5 K k s x3 m x0 x1 = some r → TL tp 34 (ca [1,0,1,0,0] Try.f87) ⟨[(0, .ptr bx0 0), (2, .int .i64 s), (3, .int .i64 x3), (5, .ptr j 0), (9, .int .i64 m)], [(Z5 bx0 x0.g.First x0.g.P b x0.a.Split.Of x0.a.Split.Many l w0_0aa x0.e), .arrA b 3 1 (mI x0.number), .arrA l 42 2 (mA x0.a.Counts), .arrX w0_0aa 59 4 0 (x0.a.States.map Qx), (Zu j x1.L x1.R x1.Rule x1.Next)]⟩ (Cx bx0 x0 r) := by
 intro k
 induction k with
 | zero =>
  intro s x3 m x0 x1 b l w0_0aa j h
  cases (show (none : Option Int) = some r from h)
 | succ k ih =>
  intro s x3 m x0 x1 b l w0_0aa j h
  rw [U5] at h
  refine Za ?_
  refine T.seq ?_
  refine T.seq (Qr ?_)
  refine mw rfl ?_
  refine sp rfl (Ql rfl (dk rfl) Uh rfl i56 (by decide) rfl ?_)
  refine sp rfl (Qo (i := 4) rfl (dk rfl) Yo rfl rfl rfl rfl ?_)
  refine sp rfl (Qn (xs := x1.R) (f := (cI .i64)) rfl (dk rfl) Yo rfl ?_)
  refine sp rfl (Qa rfl rfl (dk rfl) rfl rfl ?_)
  refine TL'.nil (tN ?_)
  rcases Qb h with ⟨w, h⟩ | ⟨w, h⟩
  refine Qk rfl w ?_
  refine T.skip (tN ?_)
  refine T.seq ?_
  refine T.block ?_
  refine T.seq ?_
  refine T.seq ?_
  refine Xl ?_
  refine dS (c := ⟨some 17, .ptr j (0 + 1), [(5, .ptr j 0)], [], []⟩) (fun t hm => oF rfl rfl (Ql rfl (dk rfl) Uh rfl i56 (by decide) hm.s0 rfl)) rfl rfl ?_
  refine dS (c := ⟨some 18, .sl false 1 (mI x1.R), [(17, .ptr j (0 + 1))], [(4, (Zu j x1.L x1.R x1.Rule x1.Next))], []⟩) (fun t hm => oF rfl rfl (Qo (i := 4) rfl (dk rfl) Yo rfl hm.s0 hm.o0 rfl rfl)) rfl rfl ?_
  refine Yg rfl rfl rfl rfl rfl rfl ?_
  obtain ⟨p, aa, h⟩ := bind_some h
  refine dS (c := ⟨some 20, .ref [.int .i64 p], [(18, .sl false 1 (mI x1.R)), (19, .int .i64 m)], [], []⟩) (fun t hm => oF rfl rfl (Qi (xs := x1.R) (f := (cI .i64)) (v := p) rfl (dk rfl) Yo i3 hm.s0 hm.s1 aa rfl)) rfl rfl ?_
  refine dS (c := ⟨some 21, .int .i64 p, [(20, .ref [.int .i64 p])], [], []⟩) (fun t hm => oF rfl rfl (Qu rfl (dk rfl) ul3 rfl hm.s0 rfl rfl)) rfl rfl ?_
  refine Yg rfl rfl rfl rfl rfl rfl ?_
  refine dS (c := ⟨some 23, .ptr bx0 0, [(22, .ptr bx0 0)], [], []⟩) (fun t hm => oF rfl rfl (OpT.nilCheck rfl (dk rfl) hm.s0 rfl rfl)) rfl rfl ?_
  refine dS (c := ⟨some 24, .ptr bx0 (0 + 2), [(23, .ptr bx0 0)], [], []⟩) (fun t hm => oF rfl rfl (Ql rfl (dk rfl) C9 rfl i56 (by decide) hm.s0 rfl)) rfl rfl ?_
  refine dS (c := ⟨some 25, .sl false 1 (mI x0.number), [(24, .ptr bx0 (0 + 2))], [(0, (Z5 bx0 x0.g.First x0.g.P b x0.a.Split.Of x0.a.Split.Many l w0_0aa x0.e)), (1, .arrA b 3 1 (mI x0.number))], []⟩) (fun t hm => oF rfl rfl (Zo (Qo (i := 0) rfl (dk rfl) Yo rfl hm.s0 hm.o0 rfl rfl) (G4 25 1 hm.o1) rfl)) rfl rfl ?_
  refine Yg rfl rfl rfl rfl rfl rfl ?_
  obtain ⟨q, ab, h⟩ := bind_some h
  refine dS (c := ⟨some 27, .ref [.int .i64 q], [(25, .sl false 1 (mI x0.number)), (26, .int .i64 x3)], [], []⟩) (fun t hm => oF rfl rfl (Qi (xs := x0.number) (f := (cI .i64)) (v := q) rfl (dk rfl) Yo i3 hm.s0 hm.s1 ab rfl)) rfl rfl ?_
  refine dS (c := ⟨some 28, .int .i64 q, [(27, .ref [.int .i64 q])], [], []⟩) (fun t hm => oF rfl rfl (Qu rfl (dk rfl) ul3 rfl hm.s0 rfl rfl)) rfl rfl ?_
  refine dS (c := ⟨some 29, .bool (p == q), [(21, .int .i64 p), (28, .int .i64 q)], [], []⟩) (fun t hm => oF rfl rfl (Qa rfl rfl (dk rfl) hm.s0 hm.s1 rfl)) rfl rfl ?_
  refine Ys (s1 := ⟨[(0, .ptr bx0 0), (2, .int .i64 s), (3, .int .i64 x3), (5, .ptr j 0), (9, .int .i64 m), (29, .bool (p == q))], [(Z5 bx0 x0.g.First x0.g.P b x0.a.Split.Of x0.a.Split.Many l w0_0aa x0.e), .arrA b 3 1 (mI x0.number), .arrA l 42 2 (mA x0.a.Counts), .arrX w0_0aa 59 4 0 (x0.a.States.map Qx), (Zu j x1.L x1.R x1.Rule x1.Next)]⟩) (ms := [0, 1, 0, 7, 15, 0, 32, 96, 224, 0, 992, 2016, 4095]) Q7 rfl (by kernel_rfl) (by kernel_rfl) (by kernel_rfl) (sf rfl) rfl (fun u hu => (tN (Qd hu ?_)))
  rcases Qb h with ⟨y, h⟩ | ⟨y, h⟩
  refine Qk rfl y ?_
  refine T.seq (Qr ?_)
  refine mw rfl ?_
  refine sp rfl (OpT.rem rfl (dk rfl) rfl rfl (by decide) ?_)
  refine aw rfl ?_
  refine TL'.nil (tN ?_)
  refine T.ret (Qj (Qt (Qj (Qj (Qt (Qj ?_))))))
  exact Q8 (.cons _ _ _ _ (.tmp 8 _ rfl) .nil) (.cons 0 rfl (.cons 0 rfl (.cons 0 rfl (.cons 0 rfl (.nil _))))) (by cases h; exact ⟨gl [b, l, w0_0aa], rfl, rfl⟩)
  refine Qp rfl y ?_
  refine T.skip (tN ?_)
  refine Qr ?_
  refine mw rfl ?_
  refine sp rfl (OpT.quo rfl (dk rfl) rfl rfl (by decide) ?_)
  refine aw rfl ?_
  refine TL'.nil (Qe (tN ?_))
  refine Qr ?_
  refine mw rfl ?_
  refine sp rfl (Qa rfl rfl (dk rfl) rfl rfl ?_)
  refine aw rfl ?_
  refine TL'.nil (tN ?_)
  refine Qc ?_ (ih (wI (Int.tdiv s (3:Int))) x3 (wI (m + (1:Int))) x0 x1 b l w0_0aa j h)
  exact tq rfl rfl
  refine Qp rfl w ?_
  refine T.exit (Qh (Qh (Qq (tN ?_))))
  refine T.seq (Qr ?_)
  refine aw rfl ?_
  refine TL'.nil (tN ?_)
  refine T.ret ?_
  exact Q8 (.cons _ _ _ _ (.tmp 8 _ rfl) .nil) (.cons 0 rfl (.cons 0 rfl (.cons 0 rfl (.cons 0 rfl (.nil _))))) (by cases h; exact ⟨gl [b, l, w0_0aa], rfl, rfl⟩)
theorem Mw (K : Nat) {x0 : Qg} {x1 : aSt} {x2 x3 : Int} {bx0 : Nat} {wx0c1 wx0c2c1 wx0c2c2 : Value} {r : Int} (h : Wp K x0 x1 x2 x3 = some r) : J2 tp 87 [.ptr bx0 0, .agg [.sl false 1 (mI x1.L), .sl false 1 (mI x1.R), .sl false 1 (mI x1.Rule), .sl false 1 (x1.Next.map (cL 2 Qw))], .int .i64 x2, .int .i64 x3] [(Z5 bx0 x0.g.First x0.g.P wx0c1 x0.a.Split.Of x0.a.Split.Many wx0c2c1 wx0c2c2 x0.e), .arrA wx0c1 3 1 (mI x0.number), .arrA wx0c2c1 42 2 (mA x0.a.Counts), .arrX wx0c2c2 59 4 0 (x0.a.States.map Qx)] (fun γ => (.int .i64 r)) (fun γ => [(Z5 bx0 x0.g.First x0.g.P (γ 0) x0.a.Split.Of x0.a.Split.Many (γ 1) (γ 2) x0.e), .arrA (γ 0) 3 1 (mI x0.number), .arrA (γ 1) 42 2 (mA x0.a.Counts), .arrX (γ 2) 59 4 0 (x0.a.States.map Qx)]) := by
 refine Qs Try.func87 rfl (nb rfl) ?_
 show T tp 34 (ca [] Try.f87) ⟨Qv 0 [.ptr bx0 0, .agg [.sl false 1 (mI x1.L), .sl false 1 (mI x1.R), .sl false 1 (mI x1.Rule), .sl false 1 (x1.Next.map (cL 2 Qw))], .int .i64 x2, .int .i64 x3], [(Z5 bx0 x0.g.First x0.g.P wx0c1 x0.a.Split.Of x0.a.Split.Many wx0c2c1 wx0c2c2 x0.e), .arrA wx0c1 3 1 (mI x0.number), .arrA wx0c2c1 42 2 (mA x0.a.Counts), .arrX wx0c2c2 59 4 0 (x0.a.States.map Qx)]⟩ (H0 bx0 x0 r)
 unfold Wp at h
 refine T.seq (Qr ?_)
 refine sp rfl (Zb rfl (dk rfl) rfl (fun b => ?_))
 refine aw rfl ?_
 refine TL'.nil (tN ?_)
 refine T.seq ?_
 refine T.seq (Qr ?_)
 refine aw rfl ?_
 refine TL'.nil (tN ?_)
 refine T.block ?_
 refine T.loop ?_
 refine Qc ?_ (Eu K bx0 x0 K x2 x3 (0:Int) x0 x1 wx0c1 wx0c2c1 wx0c2c2 b h)
 exact tr rfl (.c (.s .z) (.c (.s .z) (.c (.s .z) (.c (.s .z) (.c .z (.n _))))))
abbrev Oy (bx0 : Nat) (x0 : Qg) (r : Bool) : ES := Jt tp Try.f70 (fun y t => ∃ γ : Nat → Value, y = (.bool r) ∧ t = [(Z5 bx0 x0.g.First x0.g.P (γ 0) x0.a.Split.Of x0.a.Split.Many (γ 1) (γ 2) x0.e), .arrA (γ 0) 3 1 (mI x0.number), .arrA (γ 1) 42 2 (mA x0.a.Counts), .arrX (γ 2) 59 4 0 (x0.a.States.map Qx)])
theorem B3 (K : Nat) {x0 : Qg} {x1 : aSt} {x2 x3 : Int} {bx0 : Nat} {wx0c1 wx0c2c1 wx0c2c2 : Value} {r : Bool} (h : Hz K x0 x1 x2 x3 = some r) : J2 tp 70 [.ptr bx0 0, .agg [.sl false 1 (mI x1.L), .sl false 1 (mI x1.R), .sl false 1 (mI x1.Rule), .sl false 1 (x1.Next.map (cL 2 Qw))], .int .i64 x2, .int .i64 x3] [(Z5 bx0 x0.g.First x0.g.P wx0c1 x0.a.Split.Of x0.a.Split.Many wx0c2c1 wx0c2c2 x0.e), .arrA wx0c1 3 1 (mI x0.number), .arrA wx0c2c1 42 2 (mA x0.a.Counts), .arrX wx0c2c2 59 4 0 (x0.a.States.map Qx)] (fun γ => (.bool r)) (fun γ => [(Z5 bx0 x0.g.First x0.g.P (γ 0) x0.a.Split.Of x0.a.Split.Many (γ 1) (γ 2) x0.e), .arrA (γ 0) 3 1 (mI x0.number), .arrA (γ 1) 42 2 (mA x0.a.Counts), .arrX (γ 2) 59 4 0 (x0.a.States.map Qx)]) := by
 refine Qs Try.func70 rfl (nb rfl) ?_
 show T tp 15 (ca [] Try.f70) ⟨Qv 0 [.ptr bx0 0, .agg [.sl false 1 (mI x1.L), .sl false 1 (mI x1.R), .sl false 1 (mI x1.Rule), .sl false 1 (x1.Next.map (cL 2 Qw))], .int .i64 x2, .int .i64 x3], [(Z5 bx0 x0.g.First x0.g.P wx0c1 x0.a.Split.Of x0.a.Split.Many wx0c2c1 wx0c2c2 x0.e), .arrA wx0c1 3 1 (mI x0.number), .arrA wx0c2c1 42 2 (mA x0.a.Counts), .arrX wx0c2c2 59 4 0 (x0.a.States.map Qx)]⟩ (Oy bx0 x0 r)
 unfold Hz at h
 refine T.seq (Qr ?_)
 refine sp rfl (Zb rfl (dk rfl) rfl (fun j => ?_))
 refine aw rfl ?_
 refine TL'.nil (tN (T.seq (Qr ?_)))
 refine mw rfl ?_
 refine sp rfl (Zc (i := 0) (l := [.sl false 1 (mI x1.L), .sl false 1 (mI x1.R), .sl false 1 (mI x1.Rule), .sl false 1 (x1.Next.map (cL 2 Qw))]) rfl (dk rfl) Uh rfl i59 rfl rfl rfl rfl ?_)
 refine mw rfl ?_
 refine mw rfl ?_
 obtain ⟨m, f, h⟩ := bind_some h
 refine sp rfl (Q6 (is := [1, 2, 3, 4]) (ph := []) rfl (dk rfl) Try.func87 rfl rfl (Q5.cons rfl (Q5.cons rfl (Q5.cons rfl (Q5.cons rfl Q5.nil)))) (Mw K (bx0 := bx0) (wx0c1 := wx0c1) (wx0c2c1 := wx0c2c1) (wx0c2c2 := wx0c2c2) f) (.cons rfl rfl (.cons rfl rfl (.cons rfl rfl (.cons rfl rfl (.nil))))) (fun _ => rfl) (fun b => ?_))
 refine nm (.c (.c (.c (.c (.c (.n)))))) ?_
 refine sp rfl (Qa rfl rfl (dk rfl) rfl rfl ?_)
 refine aw rfl ?_
 refine TL'.nil (tN ?_)
 refine T.ret ?_
 exact Q8 (.cons _ _ _ _ (.tmp 8 _ rfl) .nil) (.cons 1 rfl (.cons 1 rfl (.cons 1 rfl (.cons 1 rfl (.nil _))))) (by cases h; exact ⟨gl [b 0, b 1, b 2], rfl, rfl⟩)
abbrev Gu (bx0 : Nat) (x0 : Qg) (r : Int) : ES := Jt tp Try.f51 (fun y t => ∃ γ : Nat → Value, y = (.int .i64 r) ∧ t = [(Z5 bx0 x0.g.First x0.g.P (γ 0) x0.a.Split.Of x0.a.Split.Many (γ 1) (γ 2) x0.e), .arrA (γ 0) 3 1 (mI x0.number), .arrA (γ 1) 42 2 (mA x0.a.Counts), .arrX (γ 2) 59 4 0 (x0.a.States.map Qx)])
abbrev Es (bx0 : Nat) (x0 : Qg) (r : Int) : ES := thenS (fun s' => T tp 55 (ca [1,1,1] Try.f51) s' ((Gu bx0 x0 r))) ((Gu bx0 x0 r))
abbrev Va (bx0 : Nat) (x0 : Qg) (r : Int) : ES := Q0 0 ((Es bx0 x0 r))
abbrev Hy (bx0 : Nat) (x0 : Qg) (r : Int) : ES := thenS (fun s' => TL tp 55 (ca [1,1,0,1,0,0] Try.f51) s' ((Va bx0 x0 r))) ((Va bx0 x0 r))
abbrev Mq (bx0 : Nat) (x0 : Qg) (r : Int) : ES := thenS (fun s' => T tp 55 (ca [1,1,0,1,0,0,1,1] Try.f51) s' ((Hy bx0 x0 r))) ((Hy bx0 x0 r))
abbrev Lf (bx0 : Nat) (x0 : Qg) (r : Int) : ES := Q0 1 ((Mq bx0 x0 r))
abbrev Fl (bx0 : Nat) (x0 : Qg) (r : Int) (go : Int → Int → Int → Qg → aSt → Option Int) : Prop := ∀ (x2 b c : Int) (x0 : Qg) (x1 : aSt) (f i w0_0aa : Value) (j : Nat), go x2 b c x0 x1 = some r → TL tp 55 (ca [1,1,0,1,0,0] Try.f51) ⟨[(0, .ptr bx0 0), (2, .int .i64 x2), (4, .ptr j 0), (7, .int .i64 b), (8, .int .i64 c)], [(Z5 bx0 x0.g.First x0.g.P f x0.a.Split.Of x0.a.Split.Many i w0_0aa x0.e), .arrA f 3 1 (mI x0.number), .arrA i 42 2 (mA x0.a.Counts), .arrX w0_0aa 59 4 0 (x0.a.States.map Qx), (Zu j x1.L x1.R x1.Rule x1.Next)]⟩ (Va bx0 x0 r)
theorem L7 {r : Int} (K bx0 : Nat) (x0 : Qg) (go0 : Int → Int → Int → Qg → aSt → Option Int) (hgo0 : Fl bx0 x0 r go0) (x2 j : Int) (x1 : aSt) (q s u : Int) (v : Bool) (w : Int) (y aa ab : Bool) (x0 : Qg) (b : Zr) (ac ad l : Int) (af : Bool) (ag : List Int) (m p w0_1aa : Value) (f ai : Nat) (h : Jo K go0 x2 j x1 q s u v w y aa ab x0 b ac ad l af ag = some r) : T tp 55 (ca [1,1,0,1,0,0,1,0,0,1,1,0] Try.f51) ⟨[(0, .ptr bx0 0), (2, .int .i64 x2), (4, .ptr f 0), (8, .int .i64 j), (9, .ptr ai 0), (32, .ptr bx0 0), (33, .agg [.sl false 1 (mI x1.L), .sl false 1 (mI x1.R), .sl false 1 (mI x1.Rule), .sl false 1 (x1.Next.map (cL 2 Qw))]), (34, .int .i64 x2), (35, .ptr f (0 + 0)), (36, .sl false 1 (mI x1.L)), (37, .int .i64 q), (38, .ref [.int .i64 s]), (39, .int .i64 u), (40, .bool v), (43, .int .i64 w), (44, .bool y), (45, .bool aa), (50, .bool ab)], [(Z5 bx0 x0.g.First x0.g.P m x0.a.Split.Of x0.a.Split.Many p w0_1aa x0.e), .arrA m 3 1 (mI x0.number), .arrA p 42 2 (mA x0.a.Counts), .arrX w0_1aa 59 4 0 (x0.a.States.map Qx), (Zu f x1.L x1.R x1.Rule x1.Next), .box ai 104 [.d (.int .u64 b.a0), .d (.int .u64 b.a1), .d (.int .u64 b.a2), .d (.int .u64 b.a3), .d (.int .i64 ac), .d (.int .i64 ad), .d (.int .i64 l), .d (.bool af), .d (.sl false 1 (mI ag))]]⟩ (Lf bx0 x0 r) := by
 unfold Jo at h
 refine Qr ?_
 refine sp rfl (Ql rfl (dk rfl) Ce rfl i3 (by decide) rfl ?_)
 refine sp rfl (Qo (i := 5) rfl (dk rfl) ul3 rfl rfl rfl rfl ?_)
 refine aw rfl ?_
 refine TL'.nil (Qe (tN ?_))
 refine Qr ?_
 refine mw rfl ?_
 refine sp rfl (Qa rfl rfl (dk rfl) rfl rfl ?_)
 refine aw rfl ?_
 refine TL'.nil (tN ?_)
 refine Qc ?_ (hgo0 x2 l (wI (j + (1:Int))) x0 x1 m p w0_1aa f h)
 exact tq rfl rfl
theorem Fk {r : Int} (K bx0 : Nat) (x0 : Qg) : ∀ (k : Nat), ∀ (x2 q y : Int) (x0 : Qg) (x1 : aSt) (ad af w0_0aa : Value) (w : Nat), Z1 K k x2 q y x0 x1 = some r → TL tp 55 (ca [1,1,0,1,0,0] Try.f51) ⟨[(0, .ptr bx0 0), (2, .int .i64 x2), (4, .ptr w 0), (7, .int .i64 q), (8, .int .i64 y)], [(Z5 bx0 x0.g.First x0.g.P ad x0.a.Split.Of x0.a.Split.Many af w0_0aa x0.e), .arrA ad 3 1 (mI x0.number), .arrA af 42 2 (mA x0.a.Counts), .arrX w0_0aa 59 4 0 (x0.a.States.map Qx), (Zu w x1.L x1.R x1.Rule x1.Next)]⟩ (Va bx0 x0 r) := by
 intro k
 induction k with
 | zero =>
  intro x2 q y x0 x1 ad af w0_0aa w h
  cases (show (none : Option Int) = some r from h)
 | succ k ih =>
  intro x2 q y x0 x1 ad af w0_0aa w h
  rw [Z1] at h
  refine Za ?_
  refine T.seq ?_
  refine T.seq (Qr ?_)
  refine mw rfl ?_
  refine sp rfl (Ql rfl (dk rfl) Uh rfl i56 (by decide) rfl ?_)
  refine sp rfl (Qo (i := 4) rfl (dk rfl) Yo rfl rfl rfl rfl ?_)
  refine sp rfl (Qn (xs := x1.L) (f := (cI .i64)) rfl (dk rfl) Yo rfl ?_)
  refine sp rfl (Qa rfl rfl (dk rfl) rfl rfl ?_)
  refine TL'.nil (tN ?_)
  rcases Qb h with ⟨aj, h⟩ | ⟨aj, h⟩
  refine Qk rfl aj ?_
  refine T.skip (tN ?_)
  refine T.seq ?_
  refine T.block ?_
  refine T.seq ?_
  refine Qd Zt ?_
  refine Xi ?_
  refine dC (c := ⟨some 17, .ptr bx0 0, [(0, .ptr bx0 0)], [], []⟩) (fun t hm => oF rfl rfl (OpT.move rfl (dk rfl) hm.s0 ⟨u0, rfl⟩)) (fun _ => rfl) (fun _ => rfl) ?_
  refine dC (c := ⟨some 18, .ptr bx0 0, [(17, .ptr bx0 0)], [], []⟩) (fun t hm => oF rfl rfl (OpT.nilCheck rfl (dk rfl) hm.s0 rfl ⟨u0, rfl⟩)) (fun _ => rfl) (fun _ => rfl) ?_
  refine dC (c := ⟨some 19, .ptr bx0 (0 + 0), [(18, .ptr bx0 0)], [], []⟩) (fun t hm => oF rfl rfl (Ql rfl (dk rfl) C9 rfl i71 (by decide) hm.s0 ⟨u0, rfl⟩)) (fun _ => rfl) (fun _ => rfl) ?_
  refine dC (c := ⟨some 20, .ptr bx0 (0 + 0 + 1), [(19, .ptr bx0 (0 + 0))], [], []⟩) (fun t hm => oF rfl rfl (Ql rfl (dk rfl) ul71 rfl i69 (by decide) hm.s0 ⟨u0, rfl⟩)) (fun _ => rfl) (fun _ => rfl) ?_
  refine dC (c := ⟨some 21, .sl false 9 (x0.g.P.map Zh), [(20, .ptr bx0 (0 + 0 + 1))], [(1, (Z5 bx0 x0.g.First x0.g.P ad x0.a.Split.Of x0.a.Split.Many af w0_0aa x0.e))], []⟩) (fun t hm => oF rfl rfl (Qo (i := 1) rfl (dk rfl) N9 rfl hm.s0 hm.o0 rfl ⟨u0, rfl⟩)) (fun _ => rfl) (fun _ => rfl) ?_
  refine dC (c := ⟨some 22, .ptr w (0 + 0), [(4, .ptr w 0)], [], []⟩) (fun t hm => oF rfl rfl (Ql rfl (dk rfl) Uh rfl i56 (by decide) hm.s0 ⟨u0, rfl⟩)) (fun _ => rfl) (fun _ => rfl) ?_
  refine dC (c := ⟨some 23, .sl false 1 (mI x1.L), [(22, .ptr w (0 + 0))], [(5, (Zu w x1.L x1.R x1.Rule x1.Next))], []⟩) (fun t hm => oF rfl rfl (Qo (i := 5) rfl (dk rfl) Yo rfl hm.s0 hm.o0 rfl ⟨u0, rfl⟩)) (fun _ => rfl) (fun _ => rfl) ?_
  refine dC (c := ⟨some 24, .int .i64 y, [(8, .int .i64 y)], [], []⟩) (fun t hm => oF rfl rfl (OpT.move rfl (dk rfl) hm.s0 ⟨u0, rfl⟩)) (fun _ => rfl) (fun _ => rfl) ?_
  obtain ⟨ab, am, h⟩ := bind_some h
  refine dC (c := ⟨some 25, .ref [.int .i64 ab], [(23, .sl false 1 (mI x1.L)), (24, .int .i64 y)], [], []⟩) (fun t hm => oF rfl rfl (Qi (xs := x1.L) (f := (cI .i64)) (v := ab) rfl (dk rfl) Yo i3 hm.s0 hm.s1 am ⟨u0, rfl⟩)) (fun _ => rfl) (fun _ => rfl) ?_
  refine dC (c := ⟨some 26, .int .i64 ab, [(25, .ref [.int .i64 ab])], [], []⟩) (fun t hm => oF rfl rfl (Qu rfl (dk rfl) ul3 rfl hm.s0 rfl ⟨u0, rfl⟩)) (fun _ => rfl) (fun _ => rfl) ?_
  obtain ⟨j, an, h⟩ := bind_some h
  refine dC (c := ⟨some 27, .ref [.int .u64 j.S.a0, .int .u64 j.S.a1, .int .u64 j.S.a2, .int .u64 j.S.a3, .int .i64 j.Lo, .int .i64 j.Hi, .int .i64 j.Rule, .bool j.Last, .sl false 1 (mI j.Next)], [(21, .sl false 9 (x0.g.P.map Zh)), (26, .int .i64 ab)], [], []⟩) (fun t hm => oF rfl rfl (Qi (xs := x0.g.P) (f := Zh) (v := j) rfl (dk rfl) N9 i104 hm.s0 hm.s1 an ⟨u0, rfl⟩)) (fun _ => rfl) (fun _ => rfl) ?_
  refine dC (c := ⟨some 28, .agg [.int .u64 j.S.a0, .int .u64 j.S.a1, .int .u64 j.S.a2, .int .u64 j.S.a3, .int .i64 j.Lo, .int .i64 j.Hi, .int .i64 j.Rule, .bool j.Last, .sl false 1 (mI j.Next)], [(27, .ref [.int .u64 j.S.a0, .int .u64 j.S.a1, .int .u64 j.S.a2, .int .u64 j.S.a3, .int .i64 j.Lo, .int .i64 j.Hi, .int .i64 j.Rule, .bool j.Last, .sl false 1 (mI j.Next)])], [], []⟩) (fun t hm => oF rfl rfl (Zg rfl (dk rfl) Ce rfl i104 hm.s0 (nb rfl) ⟨u0, rfl⟩)) (fun _ => rfl) (fun _ => rfl) ?_
  refine DGG.step (c := fun p => ⟨some 9, .ptr ((p 12).2) 0, [], [(0, .ro 0 [])], [(0, .box ((p 12).2) 104 [.d (.int .u64 (Zr.mk 0 0 0 0).a0), .d (.int .u64 (Zr.mk 0 0 0 0).a1), .d (.int .u64 (Zr.mk 0 0 0 0).a2), .d (.int .u64 (Zr.mk 0 0 0 0).a3), .d (.int .i64 (0:Int)), .d (.int .i64 (0:Int)), .d (.int .i64 (0:Int)), .d (.bool false), .d (.ex (.slice none 0 0))])]⟩) [12] (fun p γ' h => by simp only [h 12 (by decide)]) (fun p t hm => oF rfl rfl (OpT.allocAt 0 rfl (dk rfl) i104 rfl hm.o0 (fun b => ⟨(fun _ => undef, b), rfl⟩))) (fun p => Zq rfl rfl) ?_
  refine DGG.step (c := fun p => ⟨none, .any, [(9, .ptr ((p 12).2) 0), (28, .agg [.int .u64 j.S.a0, .int .u64 j.S.a1, .int .u64 j.S.a2, .int .u64 j.S.a3, .int .i64 j.Lo, .int .i64 j.Hi, .int .i64 j.Rule, .bool j.Last, .sl false 1 (mI j.Next)])], [(0, .box ((p 12).2) 104 [.d (.int .u64 (Zr.mk 0 0 0 0).a0), .d (.int .u64 (Zr.mk 0 0 0 0).a1), .d (.int .u64 (Zr.mk 0 0 0 0).a2), .d (.int .u64 (Zr.mk 0 0 0 0).a3), .d (.int .i64 (0:Int)), .d (.int .i64 (0:Int)), .d (.int .i64 (0:Int)), .d (.bool false), .d (.ex (.slice none 0 0))])], [(0, .box ((p 12).2) 104 [.d (.int .u64 j.S.a0), .d (.int .u64 j.S.a1), .d (.int .u64 j.S.a2), .d (.int .u64 j.S.a3), .d (.int .i64 j.Lo), .d (.int .i64 j.Hi), .d (.int .i64 j.Rule), .d (.bool j.Last), .d (.sl false 1 (mI j.Next))])]⟩) [12] (fun p γ' h => by simp only [h 12 (by decide)]) (fun p t hm => oF rfl rfl (Qz (i := 0) (cells' := [.d (.int .u64 j.S.a0), .d (.int .u64 j.S.a1), .d (.int .u64 j.S.a2), .d (.int .u64 j.S.a3), .d (.int .i64 j.Lo), .d (.int .i64 j.Hi), .d (.int .i64 j.Rule), .d (.bool j.Last), .d (.sl false 1 (mI j.Next))]) rfl rfl i104 hm.s0 hm.s1 rfl hm.o0 (nb rfl) rfl ⟨u0, rfl⟩)) (fun p => Zq rfl rfl) ?_
  refine Vz (s1 := fun p => ⟨[(0, .ptr bx0 0), (2, .int .i64 x2), (4, .ptr w 0), (7, .int .i64 q), (8, .int .i64 y), (9, .ptr ((p 12).2) 0)], [.box ((p 12).2) 104 [.d (.int .u64 j.S.a0), .d (.int .u64 j.S.a1), .d (.int .u64 j.S.a2), .d (.int .u64 j.S.a3), .d (.int .i64 j.Lo), .d (.int .i64 j.Hi), .d (.int .i64 j.Rule), .d (.bool j.Last), .d (.sl false 1 (mI j.Next))], (Z5 bx0 x0.g.First x0.g.P ad x0.a.Split.Of x0.a.Split.Many af w0_0aa x0.e), .arrA ad 3 1 (mI x0.number), .arrA af 42 2 (mA x0.a.Counts), .arrX w0_0aa 59 4 0 (x0.a.States.map Qx), (Zu w x1.L x1.R x1.Rule x1.Next)]⟩) (ms := [0, 1, 3, 7, 15, 0, 32, 0, 224, 480, 1023, 2047, 0, 8191]) Q7 rfl (by kernel_rfl) (by kernel_rfl) (by kernel_rfl) (fun p => by kernel_rfl) (fun p => sf rfl) (fun _ => rfl) (fun p u hu => (tN (Qd hu ?_)))
  refine T.seq ?_
  refine Xi ?_
  refine dC (c := ⟨some 29, .ptr ((p 12).2) (0 + 7), [(9, .ptr ((p 12).2) 0)], [], []⟩) (fun t hm => oF rfl rfl (Ql rfl (dk rfl) Ce rfl i4 (by decide) hm.s0 ⟨u0, rfl⟩)) (fun _ => rfl) (fun _ => rfl) ?_
  refine dC (c := ⟨some 30, .bool j.Last, [(29, .ptr ((p 12).2) (0 + 7))], [(0, .box ((p 12).2) 104 [.d (.int .u64 j.S.a0), .d (.int .u64 j.S.a1), .d (.int .u64 j.S.a2), .d (.int .u64 j.S.a3), .d (.int .i64 j.Lo), .d (.int .i64 j.Hi), .d (.int .i64 j.Rule), .d (.bool j.Last), .d (.sl false 1 (mI j.Next))])], []⟩) (fun t hm => oF rfl rfl (Qo (i := 0) rfl (dk rfl) ul4 rfl hm.s0 hm.o0 rfl ⟨u0, rfl⟩)) (fun _ => rfl) (fun _ => rfl) ?_
  refine dC (c := ⟨some 31, .bool j.Last, [(30, .bool j.Last)], [], []⟩) (fun t hm => oF rfl rfl (OpT.move rfl (dk rfl) hm.s0 ⟨u0, rfl⟩)) (fun _ => rfl) (fun _ => rfl) ?_
  rcases Qb h with ⟨aa, h⟩ | ⟨aa, h⟩
  refine dC (c := ⟨some 32, .ptr bx0 0, [(0, .ptr bx0 0), (31, .bool j.Last)], [], []⟩) (fun t hm => oN rfl rfl rfl hm.s1 aa (OpT.move rfl (dk rfl) hm.s0 ⟨u0, rfl⟩)) (fun _ => rfl) (fun _ => rfl) ?_
  refine dC (c := ⟨some 33, .agg [.sl false 1 (mI x1.L), .sl false 1 (mI x1.R), .sl false 1 (mI x1.Rule), .sl false 1 (x1.Next.map (cL 2 Qw))], [(4, .ptr w 0), (31, .bool j.Last)], [(5, (Zu w x1.L x1.R x1.Rule x1.Next))], []⟩) (fun t hm => oN rfl rfl rfl hm.s1 aa (Zc (i := 5) (l := [.sl false 1 (mI x1.L), .sl false 1 (mI x1.R), .sl false 1 (mI x1.Rule), .sl false 1 (x1.Next.map (cL 2 Qw))]) rfl (dk rfl) Uh rfl i59 hm.s0 hm.o0 rfl rfl ⟨u0, rfl⟩)) (fun _ => rfl) (fun _ => rfl) ?_
  refine dC (c := ⟨some 34, .int .i64 x2, [(2, .int .i64 x2), (31, .bool j.Last)], [], []⟩) (fun t hm => oN rfl rfl rfl hm.s1 aa (OpT.move rfl (dk rfl) hm.s0 ⟨u0, rfl⟩)) (fun _ => rfl) (fun _ => rfl) ?_
  refine dC (c := ⟨some 35, .ptr w (0 + 0), [(4, .ptr w 0), (31, .bool j.Last)], [], []⟩) (fun t hm => oN rfl rfl rfl hm.s1 aa (Ql rfl (dk rfl) Uh rfl i56 (by decide) hm.s0 ⟨u0, rfl⟩)) (fun _ => rfl) (fun _ => rfl) ?_
  refine dC (c := ⟨some 36, .sl false 1 (mI x1.L), [(35, .ptr w (0 + 0)), (31, .bool j.Last)], [(5, (Zu w x1.L x1.R x1.Rule x1.Next))], []⟩) (fun t hm => oN rfl rfl rfl hm.s1 aa (Qo (i := 5) rfl (dk rfl) Yo rfl hm.s0 hm.o0 rfl ⟨u0, rfl⟩)) (fun _ => rfl) (fun _ => rfl) ?_
  refine dC (c := ⟨some 37, .int .i64 y, [(8, .int .i64 y), (31, .bool j.Last)], [], []⟩) (fun t hm => oN rfl rfl rfl hm.s1 aa (OpT.move rfl (dk rfl) hm.s0 ⟨u0, rfl⟩)) (fun _ => rfl) (fun _ => rfl) ?_
  refine dC (c := ⟨some 38, .ref [.int .i64 ab], [(36, .sl false 1 (mI x1.L)), (37, .int .i64 y), (31, .bool j.Last)], [], []⟩) (fun t hm => oN rfl rfl rfl hm.s2 aa (Qi (xs := x1.L) (f := (cI .i64)) (v := ab) rfl (dk rfl) Yo i3 hm.s0 hm.s1 am ⟨u0, rfl⟩)) (fun _ => rfl) (fun _ => rfl) ?_
  refine dC (c := ⟨some 39, .int .i64 ab, [(38, .ref [.int .i64 ab]), (31, .bool j.Last)], [], []⟩) (fun t hm => oN rfl rfl rfl hm.s1 aa (Qu rfl (dk rfl) ul3 rfl hm.s0 rfl ⟨u0, rfl⟩)) (fun _ => rfl) (fun _ => rfl) ?_
  obtain ⟨ac, ap, h⟩ := bind_some h
  refine DGG.step (c := fun m => ⟨some 40, .bool ac, [(32, .ptr bx0 0), (33, .agg [.sl false 1 (mI x1.L), .sl false 1 (mI x1.R), .sl false 1 (mI x1.Rule), .sl false 1 (x1.Next.map (cL 2 Qw))]), (34, .int .i64 x2), (39, .int .i64 ab), (31, .bool j.Last)], [(4, .arrX w0_0aa 59 4 0 (x0.a.States.map Qx)), (3, .arrA af 42 2 (mA x0.a.Counts)), (2, .arrA ad 3 1 (mI x0.number)), (1, (Z5 bx0 x0.g.First x0.g.P ad x0.a.Split.Of x0.a.Split.Many af w0_0aa x0.e))], [(1, (Z5 bx0 x0.g.First x0.g.P ((m 11).1 0) x0.a.Split.Of x0.a.Split.Many ((m 11).1 1) ((m 11).1 2) x0.e)), (2, .arrA ((m 11).1 0) 3 1 (mI x0.number)), (3, .arrA ((m 11).1 1) 42 2 (mA x0.a.Counts)), (4, .arrX ((m 11).1 2) 59 4 0 (x0.a.States.map Qx))]⟩) [11] (fun m γ' h => by simp only [h 11 (by decide)]) (fun m t hm => One.step rfl (.on rfl rfl (hm.slots (31, _) (.tail _ (.tail _ (.tail _ (.tail _ (.head _)))))) aa) (Q6 (is := [1, 2, 3, 4]) (ph := []) rfl (dk rfl) Try.func70 rfl rfl (Q5.cons hm.s0 (Q5.cons hm.s1 (Q5.cons hm.s2 (Q5.cons hm.s3 Q5.nil)))) (B3 K (bx0 := bx0) (wx0c1 := ad) (wx0c2c1 := af) (wx0c2c2 := w0_0aa) ap) (.cons (hm.objs (1, _) (.tail _ (.tail _ (.tail _ (.head _))))) rfl (.cons hm.o2 rfl (.cons hm.o1 rfl (.cons hm.o0 rfl (.nil))))) (fun _ => rfl) (fun g => ⟨(g, 0), rfl⟩))) (fun m => Zq rfl rfl) ?_
  refine dC (c := ⟨some 41, .bool ac, [(31, .bool j.Last), (40, .bool ac)], [], []⟩) (fun t hm => oF rfl rfl (Qf rfl (dk rfl) hm.s0 aa hm.s1 ⟨u0, rfl⟩)) (fun _ => rfl) (fun _ => rfl) ?_
  refine dC (c := ⟨some 42, .bool ac, [(41, .bool ac)], [], []⟩) (fun t hm => oF rfl rfl (OpT.move rfl (dk rfl) hm.s0 ⟨u0, rfl⟩)) (fun _ => rfl) (fun _ => rfl) ?_
  rcases Qb h with ⟨ag, h⟩ | ⟨ag, h⟩
  refine dC (c := ⟨some 43, .int .i64 q, [(7, .int .i64 q), (42, .bool ac)], [], []⟩) (fun t hm => oN rfl rfl rfl hm.s1 ag (OpT.move rfl (dk rfl) hm.s0 ⟨u0, rfl⟩)) (fun _ => rfl) (fun _ => rfl) ?_
  refine dC (c := ⟨some 44, .bool (decide (q < (0:Int))), [(43, .int .i64 q), (42, .bool ac)], [], []⟩) (fun t hm => oN rfl rfl rfl hm.s1 ag (Qa rfl rfl (dk rfl) hm.s0 rfl ⟨u0, rfl⟩)) (fun _ => rfl) (fun _ => rfl) ?_
  refine dC (c := ⟨some 45, .bool (decide (q < (0:Int))), [(44, .bool (decide (q < (0:Int)))), (42, .bool ac)], [], []⟩) (fun t hm => oN rfl rfl rfl hm.s1 ag (OpT.move rfl (dk rfl) hm.s0 ⟨u0, rfl⟩)) (fun _ => rfl) (fun _ => rfl) ?_
  rcases Qb h with ⟨ai, h⟩ | ⟨ai, h⟩
  refine DGG.off ai rfl rfl rfl rfl rfl (fun _ => rfl) ?_
  refine DGG.off ai rfl rfl rfl rfl rfl (fun _ => rfl) ?_
  refine DGG.off ai rfl rfl rfl rfl rfl (fun _ => rfl) ?_
  refine DGG.off ai rfl rfl rfl rfl rfl (fun _ => rfl) ?_
  refine dC (c := ⟨some 50, .bool true, [(45, .bool (decide (q < (0:Int)))), (42, .bool ac)], [], []⟩) (fun t hm => oN rfl rfl rfl hm.s1 ag (Qf rfl (dk rfl) hm.s0 ai rfl ⟨u0, rfl⟩)) (fun _ => rfl) (fun _ => rfl) ?_
  refine dC (c := ⟨some 51, .bool true, [(42, .bool ac), (50, .bool true)], [], []⟩) (fun t hm => oF rfl rfl (Qf rfl (dk rfl) hm.s0 ag hm.s1 ⟨u0, rfl⟩)) (fun _ => rfl) (fun _ => rfl) ?_
  refine Vz (s1 := fun m => ⟨[(0, .ptr bx0 0), (2, .int .i64 x2), (4, .ptr w 0), (7, .int .i64 q), (8, .int .i64 y), (9, .ptr ((p 12).2) 0), (32, .ptr bx0 0), (33, .agg [.sl false 1 (mI x1.L), .sl false 1 (mI x1.R), .sl false 1 (mI x1.Rule), .sl false 1 (x1.Next.map (cL 2 Qw))]), (34, .int .i64 x2), (35, .ptr w (0 + 0)), (36, .sl false 1 (mI x1.L)), (37, .int .i64 y), (38, .ref [.int .i64 ab]), (39, .int .i64 ab), (40, .bool ac), (43, .int .i64 q), (44, .bool (decide (q < (0:Int)))), (45, .bool (decide (q < (0:Int)))), (46, .tup []), (47, .tup []), (48, .tup []), (49, .tup []), (50, .bool true), (51, .bool true)], [.box ((p 12).2) 104 [.d (.int .u64 j.S.a0), .d (.int .u64 j.S.a1), .d (.int .u64 j.S.a2), .d (.int .u64 j.S.a3), .d (.int .i64 j.Lo), .d (.int .i64 j.Hi), .d (.int .i64 j.Rule), .d (.bool j.Last), .d (.sl false 1 (mI j.Next))], (Z5 bx0 x0.g.First x0.g.P ((m 11).1 0) x0.a.Split.Of x0.a.Split.Many ((m 11).1 1) ((m 11).1 2) x0.e), .arrA ((m 11).1 0) 3 1 (mI x0.number), .arrA ((m 11).1 1) 42 2 (mA x0.a.Counts), .arrX ((m 11).1 2) 59 4 0 (x0.a.States.map Qx), (Zu w x1.L x1.R x1.Rule x1.Next)]⟩) (ms := [0, 1, 3, 7, 7, 7, 7, 71, 7, 455, 967, 2047, 4095, 8191, 16383, 32767, 65535, 131071, 262143, 131071, 1048575, 2097151, 4194303]) Q7 rfl (by kernel_rfl) (by kernel_rfl) (by kernel_rfl) (fun m => by kernel_rfl) (fun m => sf rfl) (fun _ => rfl) (fun m u hu => (tN (Qd hu ?_)))
  refine Qk rfl rfl ?_
  refine Qd ?_ (L7 K bx0 x0 (Z1 K k) ih x2 y x1 y ab ab ac q (decide (q < (0:Int))) (decide (q < (0:Int))) true x0 j.S j.Lo j.Hi j.Rule j.Last j.Next ((m 11).1 0) ((m 11).1 1) ((m 11).1 2) w ((p 12).2) h)
  exact tr rfl (.c (.s .z) (.c (.s .z) (.c (.s .z) (.c (.s .z) (.c (.s .z) (.c .z (.n _)))))))
  refine dC (c := ⟨some 46, .ptr ((p 12).2) (0 + 6), [(9, .ptr ((p 12).2) 0), (45, .bool (decide (q < (0:Int))))], [], []⟩) (fun t hm => oN rfl rfl rfl hm.s1 ai (Ql rfl (dk rfl) Ce rfl i3 (by decide) hm.s0 ⟨u0, rfl⟩)) (fun _ => rfl) (fun _ => rfl) ?_
  refine dC (c := ⟨some 47, .int .i64 j.Rule, [(46, .ptr ((p 12).2) (0 + 6)), (45, .bool (decide (q < (0:Int))))], [(0, .box ((p 12).2) 104 [.d (.int .u64 j.S.a0), .d (.int .u64 j.S.a1), .d (.int .u64 j.S.a2), .d (.int .u64 j.S.a3), .d (.int .i64 j.Lo), .d (.int .i64 j.Hi), .d (.int .i64 j.Rule), .d (.bool j.Last), .d (.sl false 1 (mI j.Next))])], []⟩) (fun t hm => oN rfl rfl rfl hm.s1 ai (Qo (i := 0) rfl (dk rfl) ul3 rfl hm.s0 hm.o0 rfl ⟨u0, rfl⟩)) (fun _ => rfl) (fun _ => rfl) ?_
  refine dC (c := ⟨some 48, .int .i64 q, [(7, .int .i64 q), (45, .bool (decide (q < (0:Int))))], [], []⟩) (fun t hm => oN rfl rfl rfl hm.s1 ai (OpT.move rfl (dk rfl) hm.s0 ⟨u0, rfl⟩)) (fun _ => rfl) (fun _ => rfl) ?_
  refine dC (c := ⟨some 49, .bool (decide (j.Rule < q)), [(47, .int .i64 j.Rule), (48, .int .i64 q), (45, .bool (decide (q < (0:Int))))], [], []⟩) (fun t hm => oN rfl rfl rfl hm.s2 ai (Qa rfl rfl (dk rfl) hm.s0 hm.s1 ⟨u0, rfl⟩)) (fun _ => rfl) (fun _ => rfl) ?_
  refine dC (c := ⟨some 50, .bool (decide (j.Rule < q)), [(45, .bool (decide (q < (0:Int)))), (49, .bool (decide (j.Rule < q))), (42, .bool ac)], [], []⟩) (fun t hm => oN rfl rfl rfl hm.s2 ag (Qm rfl (dk rfl) hm.s0 ai hm.s1 ⟨u0, rfl⟩)) (fun _ => rfl) (fun _ => rfl) ?_
  refine dC (c := ⟨some 51, .bool (decide (j.Rule < q)), [(42, .bool ac), (50, .bool (decide (j.Rule < q)))], [], []⟩) (fun t hm => oF rfl rfl (Qf rfl (dk rfl) hm.s0 ag hm.s1 ⟨u0, rfl⟩)) (fun _ => rfl) (fun _ => rfl) ?_
  refine Vz (s1 := fun m => ⟨[(0, .ptr bx0 0), (2, .int .i64 x2), (4, .ptr w 0), (7, .int .i64 q), (8, .int .i64 y), (9, .ptr ((p 12).2) 0), (32, .ptr bx0 0), (33, .agg [.sl false 1 (mI x1.L), .sl false 1 (mI x1.R), .sl false 1 (mI x1.Rule), .sl false 1 (x1.Next.map (cL 2 Qw))]), (34, .int .i64 x2), (35, .ptr w (0 + 0)), (36, .sl false 1 (mI x1.L)), (37, .int .i64 y), (38, .ref [.int .i64 ab]), (39, .int .i64 ab), (40, .bool ac), (43, .int .i64 q), (44, .bool (decide (q < (0:Int)))), (45, .bool (decide (q < (0:Int)))), (46, .ptr ((p 12).2) (0 + 6)), (47, .int .i64 j.Rule), (48, .int .i64 q), (49, .bool (decide (j.Rule < q))), (50, .bool (decide (j.Rule < q))), (51, .bool (decide (j.Rule < q)))], [.box ((p 12).2) 104 [.d (.int .u64 j.S.a0), .d (.int .u64 j.S.a1), .d (.int .u64 j.S.a2), .d (.int .u64 j.S.a3), .d (.int .i64 j.Lo), .d (.int .i64 j.Hi), .d (.int .i64 j.Rule), .d (.bool j.Last), .d (.sl false 1 (mI j.Next))], (Z5 bx0 x0.g.First x0.g.P ((m 11).1 0) x0.a.Split.Of x0.a.Split.Many ((m 11).1 1) ((m 11).1 2) x0.e), .arrA ((m 11).1 0) 3 1 (mI x0.number), .arrA ((m 11).1 1) 42 2 (mA x0.a.Counts), .arrX ((m 11).1 2) 59 4 0 (x0.a.States.map Qx), (Zu w x1.L x1.R x1.Rule x1.Next)]⟩) (ms := [0, 1, 3, 7, 7, 7, 7, 71, 7, 455, 967, 2047, 4095, 8191, 16383, 32767, 65535, 131071, 262143, 131071, 1048575, 2097151, 4194303]) Q7 rfl (by kernel_rfl) (by kernel_rfl) (by kernel_rfl) (fun m => by kernel_rfl) (fun m => sf rfl) (fun _ => rfl) (fun m u hu => (tN (Qd hu ?_)))
  rcases Qb h with ⟨al, h⟩ | ⟨al, h⟩
  refine Qk rfl al ?_
  refine Qd ?_ (L7 K bx0 x0 (Z1 K k) ih x2 y x1 y ab ab ac q (decide (q < (0:Int))) (decide (q < (0:Int))) (decide (j.Rule < q)) x0 j.S j.Lo j.Hi j.Rule j.Last j.Next ((m 11).1 0) ((m 11).1 1) ((m 11).1 2) w ((p 12).2) h)
  exact tr rfl (.c (.s .z) (.c (.s .z) (.c (.s .z) (.c (.s .z) (.c (.s .z) (.c .z (.n _)))))))
  refine Qp rfl al ?_
  refine T.skip (Qe (tN ?_))
  refine Qr ?_
  refine mw rfl ?_
  refine sp rfl (Qa rfl rfl (dk rfl) rfl rfl ?_)
  refine aw rfl ?_
  refine TL'.nil (tN ?_)
  refine Qc ?_ (ih x2 q (wI (y + (1:Int))) x0 x1 ((m 11).1 0) ((m 11).1 1) ((m 11).1 2) w h)
  exact tr rfl (.c (.s .z) (.c (.s .z) (.c (.s .z) (.c (.s .z) (.c (.s .z) (.n _))))))
  refine DGG.off ag rfl rfl rfl rfl rfl (fun _ => rfl) ?_
  refine DGG.off ag rfl rfl rfl rfl rfl (fun _ => rfl) ?_
  refine DGG.off ag rfl rfl rfl rfl rfl (fun _ => rfl) ?_
  refine DGG.gone rfl rfl rfl rfl rfl (fun _ => rfl) ?_
  refine DGG.gone rfl rfl rfl rfl rfl (fun _ => rfl) ?_
  refine DGG.gone rfl rfl rfl rfl rfl (fun _ => rfl) ?_
  refine DGG.gone rfl rfl rfl rfl rfl (fun _ => rfl) ?_
  refine DGG.off ag rfl rfl rfl rfl rfl (fun _ => rfl) ?_
  refine dC (c := ⟨some 51, .bool false, [(42, .bool ac)], [], []⟩) (fun t hm => oF rfl rfl (Qm rfl (dk rfl) hm.s0 ag rfl ⟨u0, rfl⟩)) (fun _ => rfl) (fun _ => rfl) ?_
  refine Vz (s1 := fun m => ⟨[(0, .ptr bx0 0), (2, .int .i64 x2), (4, .ptr w 0), (7, .int .i64 q), (8, .int .i64 y), (9, .ptr ((p 12).2) 0), (32, .ptr bx0 0), (33, .agg [.sl false 1 (mI x1.L), .sl false 1 (mI x1.R), .sl false 1 (mI x1.Rule), .sl false 1 (x1.Next.map (cL 2 Qw))]), (34, .int .i64 x2), (35, .ptr w (0 + 0)), (36, .sl false 1 (mI x1.L)), (37, .int .i64 y), (38, .ref [.int .i64 ab]), (39, .int .i64 ab), (40, .bool ac), (43, .tup []), (44, .tup []), (45, .tup []), (46, .tup []), (47, .tup []), (48, .tup []), (49, .tup []), (50, .tup []), (51, .bool false)], [.box ((p 12).2) 104 [.d (.int .u64 j.S.a0), .d (.int .u64 j.S.a1), .d (.int .u64 j.S.a2), .d (.int .u64 j.S.a3), .d (.int .i64 j.Lo), .d (.int .i64 j.Hi), .d (.int .i64 j.Rule), .d (.bool j.Last), .d (.sl false 1 (mI j.Next))], (Z5 bx0 x0.g.First x0.g.P ((m 11).1 0) x0.a.Split.Of x0.a.Split.Many ((m 11).1 1) ((m 11).1 2) x0.e), .arrA ((m 11).1 0) 3 1 (mI x0.number), .arrA ((m 11).1 1) 42 2 (mA x0.a.Counts), .arrX ((m 11).1 2) 59 4 0 (x0.a.States.map Qx), (Zu w x1.L x1.R x1.Rule x1.Next)]⟩) (ms := [0, 1, 3, 7, 7, 7, 7, 71, 7, 455, 967, 2047, 4095, 8191, 16383, 32767, 65535, 131071, 262143, 131071, 1048575, 2097151, 4194303]) Q7 rfl (by kernel_rfl) (by kernel_rfl) (by kernel_rfl) (fun m => by kernel_rfl) (fun m => sf rfl) (fun _ => rfl) (fun m u hu => (tN (Qd hu ?_)))
  refine Qp rfl rfl ?_
  refine T.skip (Qe (tN ?_))
  refine Qr ?_
  refine mw rfl ?_
  refine sp rfl (Qa rfl rfl (dk rfl) rfl rfl ?_)
  refine aw rfl ?_
  refine TL'.nil (tN ?_)
  refine Qc ?_ (ih x2 q (wI (y + (1:Int))) x0 x1 ((m 11).1 0) ((m 11).1 1) ((m 11).1 2) w h)
  exact tr rfl (.c (.s .z) (.c (.s .z) (.c (.s .z) (.c (.s .z) (.c (.s .z) (.n _))))))
  refine DGG.off aa rfl rfl rfl rfl rfl (fun _ => rfl) ?_
  refine DGG.off aa rfl rfl rfl rfl rfl (fun _ => rfl) ?_
  refine DGG.off aa rfl rfl rfl rfl rfl (fun _ => rfl) ?_
  refine DGG.off aa rfl rfl rfl rfl rfl (fun _ => rfl) ?_
  refine DGG.off aa rfl rfl rfl rfl rfl (fun _ => rfl) ?_
  refine DGG.off aa rfl rfl rfl rfl rfl (fun _ => rfl) ?_
  refine DGG.off aa rfl rfl rfl rfl rfl (fun _ => rfl) ?_
  refine DGG.off aa rfl rfl rfl rfl rfl (fun _ => rfl) ?_
  refine DGG.off aa rfl rfl rfl rfl rfl (fun _ => rfl) ?_
  refine dC (c := ⟨some 41, .bool false, [(31, .bool j.Last)], [], []⟩) (fun t hm => oF rfl rfl (Qm rfl (dk rfl) hm.s0 aa rfl ⟨u0, rfl⟩)) (fun _ => rfl) (fun _ => rfl) ?_
  refine dC (c := ⟨some 42, .bool false, [(41, .bool false)], [], []⟩) (fun t hm => oF rfl rfl (OpT.move rfl (dk rfl) hm.s0 ⟨u0, rfl⟩)) (fun _ => rfl) (fun _ => rfl) ?_
  refine DGG.off rfl rfl rfl rfl rfl rfl (fun _ => rfl) ?_
  refine DGG.off rfl rfl rfl rfl rfl rfl (fun _ => rfl) ?_
  refine DGG.off rfl rfl rfl rfl rfl rfl (fun _ => rfl) ?_
  refine DGG.gone rfl rfl rfl rfl rfl (fun _ => rfl) ?_
  refine DGG.gone rfl rfl rfl rfl rfl (fun _ => rfl) ?_
  refine DGG.gone rfl rfl rfl rfl rfl (fun _ => rfl) ?_
  refine DGG.gone rfl rfl rfl rfl rfl (fun _ => rfl) ?_
  refine DGG.off rfl rfl rfl rfl rfl rfl (fun _ => rfl) ?_
  refine dC (c := ⟨some 51, .bool false, [(42, .bool false)], [], []⟩) (fun t hm => oF rfl rfl (Qm rfl (dk rfl) hm.s0 rfl rfl ⟨u0, rfl⟩)) (fun _ => rfl) (fun _ => rfl) ?_
  refine Vz (s1 := fun m => ⟨[(0, .ptr bx0 0), (2, .int .i64 x2), (4, .ptr w 0), (7, .int .i64 q), (8, .int .i64 y), (9, .ptr ((p 12).2) 0), (32, .tup []), (33, .tup []), (34, .tup []), (35, .tup []), (36, .tup []), (37, .tup []), (38, .tup []), (39, .tup []), (40, .tup []), (43, .tup []), (44, .tup []), (45, .tup []), (46, .tup []), (47, .tup []), (48, .tup []), (49, .tup []), (50, .tup []), (51, .bool false)], [.box ((p 12).2) 104 [.d (.int .u64 j.S.a0), .d (.int .u64 j.S.a1), .d (.int .u64 j.S.a2), .d (.int .u64 j.S.a3), .d (.int .i64 j.Lo), .d (.int .i64 j.Hi), .d (.int .i64 j.Rule), .d (.bool j.Last), .d (.sl false 1 (mI j.Next))], (Z5 bx0 x0.g.First x0.g.P ad x0.a.Split.Of x0.a.Split.Many af w0_0aa x0.e), .arrA ad 3 1 (mI x0.number), .arrA af 42 2 (mA x0.a.Counts), .arrX w0_0aa 59 4 0 (x0.a.States.map Qx), (Zu w x1.L x1.R x1.Rule x1.Next)]⟩) (ms := [0, 1, 3, 7, 7, 7, 7, 71, 7, 455, 967, 2047, 4095, 8191, 16383, 32767, 65535, 131071, 262143, 131071, 1048575, 2097151, 4194303]) Q7 rfl (by kernel_rfl) (by kernel_rfl) (by kernel_rfl) (fun m => by kernel_rfl) (fun m => sf rfl) (fun _ => rfl) (fun m u hu => (tN (Qd hu ?_)))
  refine Qp rfl rfl ?_
  refine T.skip (Qe (tN ?_))
  refine Qr ?_
  refine mw rfl ?_
  refine sp rfl (Qa rfl rfl (dk rfl) rfl rfl ?_)
  refine aw rfl ?_
  refine TL'.nil (tN ?_)
  refine Qc ?_ (ih x2 q (wI (y + (1:Int))) x0 x1 ad af w0_0aa w h)
  exact tr rfl (.c (.s .z) (.c (.s .z) (.c (.s .z) (.c (.s .z) (.c (.s .z) (.n _))))))
  refine Qp rfl aj ?_
  refine T.exit (Qh (Qh (Qq (tN ?_))))
  refine T.seq (Qr ?_)
  refine mw rfl ?_
  refine aw rfl ?_
  refine TL'.nil (tN ?_)
  refine T.ret ?_
  exact Q8 (.cons _ _ _ _ (.tmp 6 _ rfl) .nil) (.cons 0 rfl (.cons 0 rfl (.cons 0 rfl (.cons 0 rfl (.nil _))))) (by cases h; exact ⟨gl [ad, af, w0_0aa], rfl, rfl⟩)
theorem Ox (K : Nat) {x0 : Qg} {x1 : aSt} {x2 : Int} {bx0 : Nat} {wx0c1 wx0c2c1 wx0c2c2 : Value} {r : Int} (h : K5 K x0 x1 x2 = some r) : J2 tp 51 [.ptr bx0 0, .agg [.sl false 1 (mI x1.L), .sl false 1 (mI x1.R), .sl false 1 (mI x1.Rule), .sl false 1 (x1.Next.map (cL 2 Qw))], .int .i64 x2] [(Z5 bx0 x0.g.First x0.g.P wx0c1 x0.a.Split.Of x0.a.Split.Many wx0c2c1 wx0c2c2 x0.e), .arrA wx0c1 3 1 (mI x0.number), .arrA wx0c2c1 42 2 (mA x0.a.Counts), .arrX wx0c2c2 59 4 0 (x0.a.States.map Qx)] (fun γ => (.int .i64 r)) (fun γ => [(Z5 bx0 x0.g.First x0.g.P (γ 0) x0.a.Split.Of x0.a.Split.Many (γ 1) (γ 2) x0.e), .arrA (γ 0) 3 1 (mI x0.number), .arrA (γ 1) 42 2 (mA x0.a.Counts), .arrX (γ 2) 59 4 0 (x0.a.States.map Qx)]) := by
 refine Qs Try.func51 rfl (nb rfl) ?_
 show T tp 55 (ca [] Try.f51) ⟨Qv 0 [.ptr bx0 0, .agg [.sl false 1 (mI x1.L), .sl false 1 (mI x1.R), .sl false 1 (mI x1.Rule), .sl false 1 (x1.Next.map (cL 2 Qw))], .int .i64 x2], [(Z5 bx0 x0.g.First x0.g.P wx0c1 x0.a.Split.Of x0.a.Split.Many wx0c2c1 wx0c2c2 x0.e), .arrA wx0c1 3 1 (mI x0.number), .arrA wx0c2c1 42 2 (mA x0.a.Counts), .arrX wx0c2c2 59 4 0 (x0.a.States.map Qx)]⟩ (Gu bx0 x0 r)
 unfold K5 at h
 refine T.seq (Qr ?_)
 refine sp rfl (Zb rfl (dk rfl) rfl (fun b => ?_))
 refine aw rfl ?_
 refine TL'.nil (tN (T.seq (Qr ?_)))
 refine aw rfl ?_
 refine TL'.nil (tN ?_)
 refine T.seq ?_
 refine T.seq (Qr ?_)
 refine aw rfl ?_
 refine TL'.nil (tN ?_)
 refine T.block ?_
 refine T.loop ?_
 refine Qc ?_ (Fk K bx0 x0 K x2 (-1:Int) (0:Int) x0 x1 wx0c1 wx0c2c1 wx0c2c2 b h)
 exact tr rfl (.c (.s .z) (.c (.s .z) (.c (.s .z) (.c (.s .z) (.c .z (.n _))))))
end Go.Rv

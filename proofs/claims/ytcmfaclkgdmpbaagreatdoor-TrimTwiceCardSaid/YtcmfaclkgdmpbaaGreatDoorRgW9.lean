/- Each function computes what its plain text says: printed by a program of ours. -/
import Derived.Test.YtcmfaclkgdmpbaaGreatDoorRgW8
namespace Go.Rv
open Go.Proofs
set_option maxRecDepth 100000
set_option maxHeartbeats 4000000
set_option linter.unusedVariables false
abbrev Dk (r : Bool) : ES := J9 tp Tryz.f15 (fun y t => y = (.bool r) ∧ t = [])
abbrev Qas (r : Bool) : ES := thenS (fun s' => T tp 28 (ca [1,1,1] Tryz.f15) s' ((Dk r))) ((Dk r))
abbrev R5 (r : Bool) : ES := Qz 0 ((Qas r))
theorem Qb4 {r : Bool} (K : Nat) : ∀ (k : Nat), ∀ (l : Int) (x0 x1 : Ql) (g j : Nat), Vx K k l x0 x1 = some r → TL tp 28 (ca [1,1,0,1,0,0] Tryz.f15) ⟨[(2, .ptr g 0), (3, .ptr j 0), (5, .int .i64 l)], [(Qbg g x0.Split.Of x0.Split.Many x0.Counts x0.States), (Qbg j x1.Split.Of x1.Split.Many x1.Counts x1.States)]⟩ (R5 r) := by
 intro k
 induction k with
 | zero =>
  intro l x0 x1 g j h
  exact zn h
 | succ k ih =>
  intro l x0 x1 g j h
  rw [Vx] at h
  refine Q6 ?_
  refine T.seq ?_
  refine T.seq (Qr ?_)
  refine mw rfl ?_
  refine oP Uv i25 rfl ?_
  refine oL 0 Qcw rfl ?_
  refine oU x0.Counts (Vr.dc .i64) Qcw rfl ?_
  refine oI rfl ?_
  refine TL'.nil (tN ?_)
  rcases Qd h with ⟨m, h⟩ | ⟨m, h⟩
  refine Qq rfl m ?_
  refine T.skip (tN ?_)
  refine T.seq ?_
  refine T.block ?_
  refine T.seq ?_
  refine Yk ?_
  refine dP rfl (.f rfl) Uv i25 rfl ?_
  refine dL 0 rfl (.f rfl) Qcw rfl ?_
  refine dV rfl rfl ?_
  obtain ⟨a, q, h⟩ := bind_some h
  refine dX x0.Counts (Vr.dc .i64) rfl (.f rfl) Qcw i59 q rfl ?_
  refine dS (c := ⟨some 21, .agg (Vr.dc .i64 a), [(20, .ref [.int .i64 a.a0, .int .i64 a.a1])], [], []⟩) (fun t hm => oF rfl rfl (Za rfl (dk rfl) ul59 rfl i59 hm.s0 (nb rfl) rfl)) rfl rfl ?_
  refine dP rfl (.f rfl) Uv i25 rfl ?_
  refine dL 1 rfl (.f rfl) Qcw rfl ?_
  refine dV rfl rfl ?_
  obtain ⟨b, s, h⟩ := bind_some h
  refine dX x1.Counts (Vr.dc .i64) rfl (.f rfl) Qcw i59 s rfl ?_
  refine dS (c := ⟨some 26, .agg (Vr.dc .i64 b), [(25, .ref [.int .i64 b.a0, .int .i64 b.a1])], [], []⟩) (fun t hm => oF rfl rfl (Za rfl (dk rfl) ul59 rfl i59 hm.s0 (nb rfl) rfl)) rfl rfl ?_
  refine dS (c := ⟨some 27, .bool (!(Vr.same a b)), [(21, .agg (Vr.dc .i64 a)), (26, .agg (Vr.dc .i64 b))], [], []⟩) (fun t hm => oF rfl rfl (Qig (k := .i64) (xs := [a.a0, a.a1]) (ys := [b.a0, b.a1]) rfl (dk rfl) ul59 ul3 i3 Tryz.eqGuardType59 hm.s0 hm.s1 rfl rfl rfl rfl (Vr.same_eq a b) rfl)) rfl rfl ?_
  refine dF [0,1,0,7,15,0,32,0,224,480,1023] Q3 rfl (by kernel_rfl) (fun u hu => (tN (Qm hu ?_)))
  rcases Qd h with ⟨p, h⟩ | ⟨p, h⟩
  refine Qq rfl p ?_
  refine T.seq (Qr ?_)
  refine aw rfl ?_
  refine TL'.nil (tN ?_)
  refine T.ret (Q2 (Qv (Qv (Q2 (Qv ?_)))))
  exact fd rfl (by cases h; exact ⟨rfl, rfl⟩)
  refine Qp rfl p ?_
  refine T.skip (Qn (tN ?_))
  refine Qr ?_
  refine mw rfl ?_
  refine oI rfl ?_
  refine aw rfl ?_
  refine TL'.nil (tN ?_)
  refine Qh ?_ (ih (wI (l + (1:Int))) x0 x1 g j h)
  exact tq rfl rfl
  refine Qp rfl m ?_
  refine T.exit (Qj (Qj (Qs (tN ?_))))
  refine T.seq (Qr ?_)
  refine aw rfl ?_
  refine TL'.nil (tN ?_)
  refine T.ret ?_
  exact fd rfl (by cases h; exact ⟨rfl, rfl⟩)
theorem Qfc (K : Nat) {x0 x1 : Ql} {r : Bool} (h : Hp K x0 x1 = some r) : Zm tp 15 [.agg ((Zi.dc 256 .u8 x0.Split.Of) ++ (([.int .i64 x0.Split.Many, .sl false 2 (mA x0.Counts), .sl false 4 (x0.States.map Qb)] : List DC))), .agg ((Zi.dc 256 .u8 x1.Split.Of) ++ (([.int .i64 x1.Split.Many, .sl false 2 (mA x1.Counts), .sl false 4 (x1.States.map Qb)] : List DC)))] [] (.bool r) := by
 refine Qt Tryz.func15 rfl (nb rfl) ?_
 show T tp 28 (ca [] Tryz.f15) ⟨Qw 0 [.agg ((Zi.dc 256 .u8 x0.Split.Of) ++ (([.int .i64 x0.Split.Many, .sl false 2 (mA x0.Counts), .sl false 4 (x0.States.map Qb)] : List DC))), .agg ((Zi.dc 256 .u8 x1.Split.Of) ++ (([.int .i64 x1.Split.Many, .sl false 2 (mA x1.Counts), .sl false 4 (x1.States.map Qb)] : List DC)))], []⟩ (Dk r)
 unfold Hp at h
 refine T.seq (Qr ?_)
 refine sp rfl (Zb rfl (dk rfl) rfl (fun b => ?_))
 refine sp rfl (Zb rfl (dk rfl) rfl (fun d => ?_))
 refine aw rfl ?_
 refine TL'.nil (tN ?_)
 refine T.seq ?_
 refine T.seq (Qr ?_)
 refine oA 1 ((Zi.dc 256 .u8 x0.Split.Of) ++ (([.int .i64 x0.Split.Many, .sl false 2 (mA x0.Counts), .sl false 4 (x0.States.map Qb)] : List DC))) Uv i28 rfl ?_
 refine oA 0 ((Zi.dc 256 .u8 x1.Split.Of) ++ (([.int .i64 x1.Split.Many, .sl false 2 (mA x1.Counts), .sl false 4 (x1.States.map Qb)] : List DC))) Uv i28 rfl ?_
 obtain ⟨g, f, h⟩ := bind_some h
 refine sp rfl (Q0 rfl (dk rfl) Tryz.func38 rfl rfl (Q5.cons rfl (Q5.cons rfl Q5.nil)) (Zm.nil (R6 K f)) ?_)
 refine oT rfl ?_
 refine TL'.nil (tN ?_)
 rcases Qd h with ⟨a, h⟩ | ⟨a, h⟩
 refine Qq rfl a ?_
 refine T.seq (Qr ?_)
 refine aw rfl ?_
 refine TL'.nil (tN ?_)
 refine T.ret (Qv ?_)
 exact fd rfl (by cases h; exact ⟨rfl, rfl⟩)
 refine Qp rfl a ?_
 refine T.skip (tN ?_)
 refine T.seq ?_
 refine T.seq (Qr ?_)
 refine aw rfl ?_
 refine TL'.nil (tN ?_)
 refine T.block ?_
 refine T.loop ?_
 refine Qh ?_ (Qb4 K K (0:Int) x0 x1 b d h)
 exact tr rfl (.c (.s .z) (.c .z (.n _)))
end Go.Rv

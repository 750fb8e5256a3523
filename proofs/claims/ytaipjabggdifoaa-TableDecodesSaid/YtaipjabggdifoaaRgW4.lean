/- Each function computes what its plain text says: printed by a program of ours. -/
import Derived.Test.YtaipjabggdifoaaRgW3
namespace Go.Rv
open Go.Proofs
set_option maxRecDepth 100000
set_option maxHeartbeats 4000000
set_option linter.unusedVariables false
abbrev Ro (r : Zu) : ES := Jk tp Try.f99 (fun y t => y = (.agg (Zu.dc .u64 r)) ∧ t = [])
theorem Rp (K : Nat) {x0 : Zu} {x1 : Int} {r : Zu} (h : K5 K x0 x1 = some r) : Zt tp 99 [.agg (Zu.dc .u64 x0), .int .u8 x1] [] (.agg (Zu.dc .u64 r)) := by
 refine Qt Try.func99 rfl (nb rfl) ?_
 show T tp 21 (ca [] Try.f99) ⟨Qv 0 [.agg (Zu.dc .u64 x0), .int .u8 x1], []⟩ (Ro r)
 unfold K5 at h
 refine T.seq (Qq ?_)
 refine sp rfl (Zg rfl (dk rfl) rfl (fun g => ?_))
 refine sp rfl (Zi rfl (dk rfl) i102 rfl (fun j => ?_))
 refine TL'.nil (tN ?_)
 refine T.seq ?_
 refine T.seq (Qq ?_)
 refine sp rfl (Ze (i := 1) (l := (Zu.dc .u64 x0)) rfl (dk rfl) Cw rfl i102 rfl rfl rfl rfl ?_)
 refine mw rfl ?_
 obtain ⟨m, d, h⟩ := bind_some h
 refine sp rfl (Q5 rfl (dk rfl) Try.func72 rfl rfl (Q3.cons rfl (Q3.cons rfl Q3.nil)) (Zt.nil (Jc K d)) ?_)
 refine sp rfl (OpT.not rfl (dk rfl) rfl ?_)
 refine TL'.nil (tN ?_)
 rcases Qd h with ⟨c, h⟩ | ⟨c, h⟩
 refine Qk rfl c ?_
 refine Qq ?_
 refine mw rfl ?_
 refine sp rfl (OpT.quo rfl (dk rfl) rfl rfl (by decide) ?_)
 refine mw rfl ?_
 refine sp rfl (OpT.quo rfl (dk rfl) rfl rfl (by decide) ?_)
 obtain ⟨b, h⟩ := Zh h
 refine sp rfl (Zx rfl (dk rfl) Cw i100 rfl rfl b.1 b.2 ?_)
 refine sp rfl (Qm (i := 1) rfl (dk rfl) ul100 rfl rfl rfl (Qbr (k := .u64) (a := x0) (pre := []) (post := []) b.1 b.2) ?_)
 refine mw rfl ?_
 refine sp rfl (OpT.rem rfl (dk rfl) rfl rfl (by decide) ?_)
 obtain ⟨f, h⟩ := Zh h
 refine sp rfl (OpT.shl rfl (dk rfl) rfl rfl f ?_)
 refine sp rfl (Qa rfl rfl (dk rfl) rfl rfl ?_)
 refine sp rfl (Zx rfl (dk rfl) Cw i100 rfl rfl b.1 b.2 ?_)
 refine sp rfl (Xd (i := 1) (cells' := (Zu.oc .u64 (Zu.set x0 (IntKind.u8.wrap (Int.tdiv x1 (64:Int))) (IntKind.u64.wrap ((Zu.get x0 (IntKind.u8.wrap (Int.tdiv x1 (64:Int)))) + (IntKind.u64.wrap ((1:Int) * 2 ^ min (Int.toNat (Int.tmod x1 (64:Int))) IntKind.u64.bits))))))) rfl rfl i100 rfl rfl rfl (Zu.oc_lt (k := .u64) (a := x0) (pre := []) (post := []) b.1 b.2) (Zu.oc_set (k := .u64) (a := x0) (pre := []) (post := []) b.1 b.2) ?_)
 refine TL'.nil (tN (T.seq (Qq ?_)))
 refine sp rfl (Ze (i := 1) (l := (Zu.dc .u64 (Zu.set x0 (IntKind.u8.wrap (Int.tdiv x1 (64:Int))) (IntKind.u64.wrap ((Zu.get x0 (IntKind.u8.wrap (Int.tdiv x1 (64:Int)))) + (IntKind.u64.wrap ((1:Int) * 2 ^ min (Int.toNat (Int.tmod x1 (64:Int))) IntKind.u64.bits))))))) rfl (dk rfl) Cw rfl i102 rfl rfl rfl rfl ?_)
 refine sp rfl (Q1 (i := 0) (cells' := (Zu.oc .u64 (Zu.set x0 (IntKind.u8.wrap (Int.tdiv x1 (64:Int))) (IntKind.u64.wrap ((Zu.get x0 (IntKind.u8.wrap (Int.tdiv x1 (64:Int)))) + (IntKind.u64.wrap ((1:Int) * 2 ^ min (Int.toNat (Int.tmod x1 (64:Int))) IntKind.u64.bits))))))) rfl rfl i102 rfl rfl rfl rfl (nb rfl) rfl ?_)
 refine TL'.nil (tN ?_)
 refine T.ret ?_
 exact Fin.done (.cons _ _ _ _ (.cellAgg 4 102 _ 0 0 102 _ (Zu.dc .u64 (Zu.set x0 (IntKind.u8.wrap (Int.tdiv x1 (64:Int))) (IntKind.u64.wrap ((Zu.get x0 (IntKind.u8.wrap (Int.tdiv x1 (64:Int)))) + (IntKind.u64.wrap ((1:Int) * 2 ^ min (Int.toNat (Int.tmod x1 (64:Int))) IntKind.u64.bits)))))) _ _ 4 _ rfl rfl rfl rfl Cw rfl i102) .nil) (by cases h; exact ⟨rfl, rfl⟩)
 refine Qo rfl c ?_
 refine T.skip (tN ?_)
 refine T.seq (Qq ?_)
 refine sp rfl (Ze (i := 1) (l := (Zu.dc .u64 x0)) rfl (dk rfl) Cw rfl i102 rfl rfl rfl rfl ?_)
 refine sp rfl (Q1 (i := 0) (cells' := (Zu.oc .u64 x0)) rfl rfl i102 rfl rfl rfl rfl (nb rfl) rfl ?_)
 refine TL'.nil (tN ?_)
 refine T.ret ?_
 exact Fin.done (.cons _ _ _ _ (.cellAgg 4 102 _ 0 0 102 _ (Zu.dc .u64 x0) _ _ 4 _ rfl rfl rfl rfl Cw rfl i102) .nil) (by cases h; exact ⟨rfl, rfl⟩)
abbrev K6 (r : Zu) : ES := Jk tp Try.f96 (fun y t => y = (.agg (Zu.dc .u64 r)) ∧ t = [])
abbrev N7 (r : Zu) : ES := thenS (fun s' => T tp 19 (ca [1,1,1] Try.f96) s' ((K6 r))) ((K6 r))
abbrev F1 (r : Zu) : ES := Qz 0 ((N7 r))
theorem Ps {r : Zu} (K : Nat) : ∀ (k : Nat), ∀ (x0 : List Int) (d : Int) (j a : Zu) (flx0 : Bool) (g b : Nat), W2 K k x0 d j a = some r → TL tp 19 (ca [1,1,0,1,0,0] Try.f96) ⟨[(0, .sl flx0 1 (mU x0)), (2, .ptr g 0), (3, .ptr b 0), (4, .int .i64 d)], [.box g 102 (Zu.oc .u64 j), .box b 102 (Zu.oc .u64 a)]⟩ (F1 r) := by
 intro k
 induction k with
 | zero =>
  intro x0 d j a flx0 g b h
  cases (show (none : Option Zu) = some r from h)
 | succ k ih =>
  intro x0 d j a flx0 g b h
  rw [W2] at h
  refine Q4 ?_
  refine T.seq ?_
  refine T.seq (Qq ?_)
  refine mw rfl ?_
  refine mw rfl ?_
  refine sp rfl (Qn (xs := x0) (f := (cI .u8)) rfl (dk rfl) Xg rfl ?_)
  refine sp rfl (Qa rfl rfl (dk rfl) rfl rfl ?_)
  refine TL'.nil (tN ?_)
  rcases Qd h with ⟨q, h⟩ | ⟨q, h⟩
  refine Qk rfl q ?_
  refine T.skip (tN ?_)
  refine T.seq ?_
  refine T.block ?_
  refine X3 ?_
  refine dS (c := ⟨some 12, .agg (Zu.dc .u64 a), [(3, .ptr b 0)], [(1, .box b 102 (Zu.oc .u64 a))], []⟩) (fun t hm => oF rfl rfl (Ze (i := 1) (l := (Zu.dc .u64 a)) rfl (dk rfl) Cw rfl i102 hm.s0 hm.o0 rfl rfl rfl)) rfl rfl ?_
  refine Yr rfl rfl rfl rfl rfl rfl ?_
  refine Yr rfl rfl rfl rfl rfl rfl ?_
  obtain ⟨p, s, h⟩ := bind_some h
  refine dS (c := ⟨some 15, .ref [.int .u8 p], [(13, .sl flx0 1 (mU x0)), (14, .int .i64 d)], [], []⟩) (fun t hm => oF rfl rfl (Qh (xs := x0) (f := (cI .u8)) (v := p) rfl (dk rfl) Xg i5 hm.s0 hm.s1 s rfl)) rfl rfl ?_
  refine dS (c := ⟨some 16, .int .u8 p, [(15, .ref [.int .u8 p])], [], []⟩) (fun t hm => oF rfl rfl (Qr rfl (dk rfl) ul5 rfl hm.s0 rfl rfl)) rfl rfl ?_
  obtain ⟨m, w, h⟩ := bind_some h
  refine dS (c := ⟨some 17, .agg (Zu.dc .u64 m), [(12, .agg (Zu.dc .u64 a)), (16, .int .u8 p)], [], []⟩) (fun t hm => oF rfl rfl (Q5 rfl (dk rfl) Try.func99 rfl rfl (Q3.cons hm.s0 (Q3.cons hm.s1 Q3.nil)) (Zt.nil (Rp K w)) rfl)) rfl rfl ?_
  refine dS (c := ⟨none, .any, [(3, .ptr b 0), (17, .agg (Zu.dc .u64 m))], [(1, .box b 102 (Zu.oc .u64 a))], [(1, .box b 102 (Zu.oc .u64 m))]⟩) (fun t hm => oF rfl rfl (Q1 (i := 1) (cells' := (Zu.oc .u64 m)) rfl rfl i102 hm.s0 hm.s1 rfl hm.o0 (nb rfl) rfl rfl)) rfl rfl ?_
  refine Y4 (s1 := ⟨[(0, .sl flx0 1 (mU x0)), (2, .ptr g 0), (3, .ptr b 0), (4, .int .i64 d)], [.box g 102 (Zu.oc .u64 j), .box b 102 (Zu.oc .u64 m)]⟩) (ms := [0, 0, 0, 6, 14, 31, 63]) Q7 rfl (by kernel_rfl) (by kernel_rfl) (by kernel_rfl) (sf rfl) rfl (fun u hu => (Qe (tN (Qc hu ?_))))
  refine Qq ?_
  refine mw rfl ?_
  refine sp rfl (Qa rfl rfl (dk rfl) rfl rfl ?_)
  refine aw rfl ?_
  refine TL'.nil (tN ?_)
  refine Qb ?_ (ih x0 (wI (d + (1:Int))) j m flx0 g b h)
  exact tq rfl rfl
  refine Qo rfl q ?_
  refine T.exit (Qf (Qf (Qp (tN ?_))))
  refine T.seq (Qq ?_)
  refine sp rfl (Ze (i := 1) (l := (Zu.dc .u64 a)) rfl (dk rfl) Cw rfl i102 rfl rfl rfl rfl ?_)
  refine sp rfl (Q1 (i := 0) (cells' := (Zu.oc .u64 a)) rfl rfl i102 rfl rfl rfl rfl (nb rfl) rfl ?_)
  refine TL'.nil (tN ?_)
  refine T.ret ?_
  exact Fin.done (.cons _ _ _ _ (.cellAgg 2 102 _ 0 0 102 _ (Zu.dc .u64 a) _ _ 4 _ rfl rfl rfl rfl Cw rfl i102) .nil) (by cases h; exact ⟨rfl, rfl⟩)
theorem T6 (K : Nat) {x0 : List Int} {flx0 : Bool} {r : Zu} (h : C2 K x0 = some r) : Zt tp 96 [.sl flx0 1 (mU x0)] [] (.agg (Zu.dc .u64 r)) := by
 refine Qt Try.func96 rfl (nb rfl) ?_
 show T tp 19 (ca [] Try.f96) ⟨Qv 0 [.sl flx0 1 (mU x0)], []⟩ (K6 r)
 unfold C2 at h
 refine T.seq (Qq ?_)
 refine sp rfl (Zi rfl (dk rfl) i102 rfl (fun a => ?_))
 refine TL'.nil (tN (T.seq (Qq ?_)))
 refine sp rfl (OpT.build (l := (Zu.dc .u64 (Zu.mk 0 0 0 0))) rfl (dk rfl) (Nh Cw i102 i100) (J6 rfl) rfl rfl ?_)
 refine sp rfl (Zi rfl (dk rfl) i102 rfl (fun b => ?_))
 refine sp rfl (Q1 (i := 0) (cells' := (Zu.oc .u64 (Zu.mk 0 0 0 0))) rfl rfl i102 rfl rfl rfl rfl (nb rfl) rfl ?_)
 refine TL'.nil (tN ?_)
 refine T.seq ?_
 refine T.seq (Qq ?_)
 refine aw rfl ?_
 refine TL'.nil (tN ?_)
 refine T.block ?_
 refine T.loop ?_
 refine Qb ?_ (Ps K K x0 (0:Int) (Zu.mk 0 0 0 0) (Zu.mk 0 0 0 0) flx0 a b h)
 exact tr rfl (.c (.s .z) (.c .z (.n _)))
abbrev Lt (r : Zu) : ES := Jk tp Try.f89 (fun y t => y = (.agg (Zu.dc .u64 r)) ∧ t = [])
abbrev Iz (r : Zu) : ES := thenS (fun s' => T tp 25 (ca [1,1,1] Try.f89) s' ((Lt r))) ((Lt r))
abbrev En (r : Zu) : ES := Qz 0 ((Iz r))
theorem N6 {r : Zu} (K : Nat) : ∀ (k : Nat), ∀ (x1 b : Int) (x0 : aSp) (j : Zu) (g : List Int) (l m : Nat) (p : Value), Uk K k x1 b x0 j g = some r → TL tp 25 (ca [1,1,0,1,0,0] Try.f89) ⟨[(1, .int .i64 x1), (2, .ptr l 0), (4, .ptr m 0), (5, .c (.ex p)), (6, .int .i64 b)], [(On l x0.Of x0.Many), .box m 102 (Zu.oc .u64 j), .arrA p 5 1 (mU g)]⟩ (En r) := by
 intro k
 induction k with
 | zero =>
  intro x1 b x0 j g l m p h
  cases (show (none : Option Zu) = some r from h)
 | succ k ih =>
  intro x1 b x0 j g l m p h
  rw [Uk] at h
  refine Q4 ?_
  refine T.seq ?_
  refine T.seq (Qq ?_)
  refine mw rfl ?_
  refine sp rfl (Qa rfl rfl (dk rfl) rfl rfl ?_)
  refine TL'.nil (tN ?_)
  rcases Qd h with ⟨s, h⟩ | ⟨s, h⟩
  refine Qk rfl s ?_
  refine T.skip (tN ?_)
  refine T.seq ?_
  refine T.block ?_
  refine T.seq (Qq ?_)
  refine mw rfl ?_
  refine sp rfl (Qg rfl (dk rfl) Ig rfl i22 (by decide) rfl ?_)
  obtain ⟨q, h⟩ := Zh h
  refine sp rfl (Zx rfl (dk rfl) ul22 i5 rfl rfl q.1 q.2 ?_)
  refine sp rfl (Qm (i := 0) rfl (dk rfl) ul5 rfl rfl rfl (Ff (n := 256) (k := .u8) (a := x0.Of) (pre := []) (post := [.d (.int .i64 x0.Many)]) q.1 q.2) ?_)
  refine sp rfl (Z9 rfl (dk rfl) ul5 ul3 rfl ?_)
  refine mw rfl ?_
  refine sp rfl (Qa rfl rfl (dk rfl) rfl rfl ?_)
  refine TL'.nil (tN ?_)
  rcases Qd h with ⟨u, h⟩ | ⟨u, h⟩
  refine Qk rfl u ?_
  refine Qq ?_
  refine mw rfl ?_
  refine mw rfl ?_
  refine sp rfl (Z9 rfl (dk rfl) ul3 ul5 rfl ?_)
  refine sp rfl (OpT.buildSlice (elems := ([(IntKind.u8.wrap b)] : List Int).map (cI .u8)) rfl (dk rfl) Xg i5 (by decide) rfl (J6 rfl) rfl rfl rfl (Yp rfl) (by decide) ?_)
  obtain ⟨w, h⟩ := Zh h
  refine sp rfl (Za (i := 2) (xs := g) (ys := [(IntKind.u8.wrap b)]) (f := (cI .u8)) rfl (dk rfl) Xg i5 rfl rfl rfl rfl w (fun y => ?_))
  refine aw rfl ?_
  refine TL'.nil (Qe (tN ?_))
  refine Qq ?_
  refine mw rfl ?_
  refine sp rfl (Qa rfl rfl (dk rfl) rfl rfl ?_)
  refine aw rfl ?_
  refine TL'.nil (tN ?_)
  refine Qb ?_ (ih x1 (wI (b + (1:Int))) x0 j (g ++ [(IntKind.u8.wrap b)]) l m y h)
  exact tq rfl rfl
  refine Qo rfl u ?_
  refine T.skip (Qe (tN ?_))
  refine Qq ?_
  refine mw rfl ?_
  refine sp rfl (Qa rfl rfl (dk rfl) rfl rfl ?_)
  refine aw rfl ?_
  refine TL'.nil (tN ?_)
  refine Qb ?_ (ih x1 (wI (b + (1:Int))) x0 j g l m p h)
  exact tq rfl rfl
  refine Qo rfl s ?_
  refine T.exit (Qf (Qf (Qp (tN ?_))))
  refine T.seq (Qq ?_)
  refine mw rfl ?_
  obtain ⟨v, aa, h⟩ := bind_some h
  refine sp rfl (Q5 rfl (dk rfl) Try.func96 rfl rfl (Q3.view (i := 2) rfl rfl Q3.nil) (Zt.nil (T6 K (flx0 := false) aa)) ?_)
  refine sp rfl (Q1 (i := 1) (cells' := (Zu.oc .u64 v)) rfl rfl i102 rfl rfl rfl rfl (nb rfl) rfl ?_)
  refine TL'.nil (tN ?_)
  refine T.ret ?_
  exact Fin.done (.cons _ _ _ _ (.cellAgg 4 102 _ 0 1 102 _ (Zu.dc .u64 v) _ _ 4 _ rfl rfl rfl rfl Cw rfl i102) .nil) (by cases h; exact ⟨rfl, rfl⟩)
theorem Sx (K : Nat) {x0 : aSp} {x1 : Int} {r : Zu} (h : Bj K x0 x1 = some r) : Zt tp 89 [.agg ((Qx.dc 256 .u8 x0.Of) ++ (([.int .i64 x0.Many] : List DC))), .int .i64 x1] [] (.agg (Zu.dc .u64 r)) := by
 refine Qt Try.func89 rfl (nb rfl) ?_
 show T tp 25 (ca [] Try.f89) ⟨Qv 0 [.agg ((Qx.dc 256 .u8 x0.Of) ++ (([.int .i64 x0.Many] : List DC))), .int .i64 x1], []⟩ (Lt r)
 unfold Bj at h
 refine T.seq (Qq ?_)
 refine sp rfl (Zg rfl (dk rfl) rfl (fun a => ?_))
 refine sp rfl (Zi rfl (dk rfl) i102 rfl (fun b => ?_))
 refine TL'.nil (tN (T.seq (Qq ?_)))
 refine aw rfl ?_
 refine TL'.nil (tN ?_)
 refine T.seq ?_
 refine T.seq (Qq ?_)
 refine aw rfl ?_
 refine TL'.nil (tN ?_)
 refine T.block ?_
 refine T.loop ?_
 refine Qb (Yc 5 1) ?_
 refine Qb ?_ (N6 K K x1 (0:Int) x0 (Zu.mk 0 0 0 0) [] a b (Mn 2) h)
 exact tr rfl (.c (.s (.s .z)) (.c (.s .z) (.c .z (.n _))))
abbrev Gu (r : List Int) : ES := Jk tp Try.f88 (fun y t => y = (.sl false 1 (mU r)) ∧ t = [])
abbrev F2 (r : List Int) : ES := thenS (fun s' => T tp 19 (ca [1,1,1] Try.f88) s' ((Gu r))) ((Gu r))
abbrev Dq (r : List Int) : ES := Qz 0 ((F2 r))
theorem I1 {r : List Int} (K : Nat) : ∀ (k : Nat), ∀ (a : Int) (x0 : Zu) (b : List Int) (d : Nat) (g : Value), V4 K k a x0 b = some r → TL tp 19 (ca [1,1,0,1,0,0] Try.f88) ⟨[(1, .ptr d 0), (3, .c (.ex g)), (4, .int .i64 a)], [.box d 102 (Zu.oc .u64 x0), .arrA g 5 1 (mU b)]⟩ (Dq r) := by
 intro k
 induction k with
 | zero =>
  intro a x0 b d g h
  cases (show (none : Option (List Int)) = some r from h)
 | succ k ih =>
  intro a x0 b d g h
  rw [V4] at h
  refine Q4 ?_
  refine T.seq ?_
  refine T.seq (Qq ?_)
  refine mw rfl ?_
  refine sp rfl (Qa rfl rfl (dk rfl) rfl rfl ?_)
  refine TL'.nil (tN ?_)
  rcases Qd h with ⟨j, h⟩ | ⟨j, h⟩
  refine Qk rfl j ?_
  refine T.skip (tN ?_)
  refine T.seq ?_
  refine T.block ?_
  refine T.seq (Qq ?_)
  refine sp rfl (Ze (i := 0) (l := (Zu.dc .u64 x0)) rfl (dk rfl) Cw rfl i102 rfl rfl rfl rfl ?_)
  refine mw rfl ?_
  refine sp rfl (Z9 rfl (dk rfl) ul3 ul5 rfl ?_)
  obtain ⟨u, p, h⟩ := bind_some h
  refine sp rfl (Q5 rfl (dk rfl) Try.func72 rfl rfl (Q3.cons rfl (Q3.cons rfl Q3.nil)) (Zt.nil (Jc K p)) ?_)
  refine TL'.nil (tN ?_)
  rcases Qd h with ⟨m, h⟩ | ⟨m, h⟩
  refine Qk rfl m ?_
  refine Qq ?_
  refine mw rfl ?_
  refine mw rfl ?_
  refine sp rfl (Z9 rfl (dk rfl) ul3 ul5 rfl ?_)
  refine sp rfl (OpT.buildSlice (elems := ([(IntKind.u8.wrap a)] : List Int).map (cI .u8)) rfl (dk rfl) Xg i5 (by decide) rfl (J6 rfl) rfl rfl rfl (Yp rfl) (by decide) ?_)
  obtain ⟨q, h⟩ := Zh h
  refine sp rfl (Za (i := 1) (xs := b) (ys := [(IntKind.u8.wrap a)]) (f := (cI .u8)) rfl (dk rfl) Xg i5 rfl rfl rfl rfl q (fun s => ?_))
  refine aw rfl ?_
  refine TL'.nil (Qe (tN ?_))
  refine Qq ?_
  refine mw rfl ?_
  refine sp rfl (Qa rfl rfl (dk rfl) rfl rfl ?_)
  refine aw rfl ?_
  refine TL'.nil (tN ?_)
  refine Qb ?_ (ih (wI (a + (1:Int))) x0 (b ++ [(IntKind.u8.wrap a)]) d s h)
  exact tq rfl rfl
  refine Qo rfl m ?_
  refine T.skip (Qe (tN ?_))
  refine Qq ?_
  refine mw rfl ?_
  refine sp rfl (Qa rfl rfl (dk rfl) rfl rfl ?_)
  refine aw rfl ?_
  refine TL'.nil (tN ?_)
  refine Qb ?_ (ih (wI (a + (1:Int))) x0 b d g h)
  exact tq rfl rfl
  refine Qo rfl j ?_
  refine T.exit (Qf (Qf (Qp (tN ?_))))
  refine T.seq (Qq ?_)
  refine mw rfl ?_
  refine aw rfl ?_
  refine TL'.nil (tN ?_)
  refine T.ret ?_
  refine Xf (Zn.view 2 1 rfl rfl) ?_
  exact Fin.done (.cons _ _ _ _ (.tmp 2 _ rfl) .nil) (by cases h; exact ⟨rfl, rfl⟩)
theorem Rq (K : Nat) {x0 : Zu} {r : List Int} (h : K7 K x0 = some r) : Zt tp 88 [.agg (Zu.dc .u64 x0)] [] (.sl false 1 (mU r)) := by
 refine Qt Try.func88 rfl (nb rfl) ?_
 show T tp 19 (ca [] Try.f88) ⟨Qv 0 [.agg (Zu.dc .u64 x0)], []⟩ (Gu r)
 unfold K7 at h
 refine T.seq (Qq ?_)
 refine sp rfl (Zg rfl (dk rfl) rfl (fun a => ?_))
 refine aw rfl ?_
 refine TL'.nil (tN (T.seq (Qq ?_)))
 refine aw rfl ?_
 refine TL'.nil (tN ?_)
 refine T.seq ?_
 refine T.seq (Qq ?_)
 refine aw rfl ?_
 refine TL'.nil (tN ?_)
 refine T.block ?_
 refine T.loop ?_
 refine Qb (Yc 5 1) ?_
 refine Qb ?_ (I1 K K (0:Int) x0 [] a (Mn 2) h)
 exact tr rfl (.c (.s .z) (.c .z (.n _)))
abbrev V3 (r : List Int) : ES := Jk tp Try.f71 (fun y t => y = (.sl false 1 (mU r)) ∧ t = [])
abbrev Fz (r : List Int) : ES := thenS (fun s' => T tp 37 (ca [1,1] Try.f71) s' ((V3 r))) ((V3 r))
abbrev Dp (r : List Int) : ES := thenS (fun s' => T tp 37 (ca [1,1,1,1] Try.f71) s' ((V3 r))) ((V3 r))
abbrev B9 (r : List Int) : ES := Qz 0 ((Dp r))
theorem Lg {r : List Int} (K : Nat) (h : U5 K = some r) : T tp 37 (ca [1,0,1,0] Try.f71) ⟨[], []⟩ (Fz r) := by
 unfold U5 at h
 refine T.seq (Qq ?_)
 refine aw rfl ?_
 refine TL'.nil (tN ?_)
 refine T.ret (Ql ?_)
 refine Xf (N1 2 false 1 rfl) ?_
 exact Fin.done (.cons _ _ _ _ (.tmp 2 _ rfl) .nil) (by cases h; exact ⟨rfl, rfl⟩)
theorem F0 {r : List Int} (K : Nat) : ∀ (k : Nat), ∀ (b : Int) (x0 : aSp) (a : List Int) (g : Nat) (j : Value), Vs K k b x0 a = some r → TL tp 37 (ca [1,1,1,0,1,0,0] Try.f71) ⟨[(1, .ptr g 0), (3, .c (.ex j)), (4, .int .i64 b)], [(On g x0.Of x0.Many), .arrA j 5 1 (mU a)]⟩ (B9 r) := by
 intro k
 induction k with
 | zero =>
  intro b x0 a g j h
  cases (show (none : Option (List Int)) = some r from h)
 | succ k ih =>
  intro b x0 a g j h
  rw [Vs] at h
  refine Q4 ?_
  refine T.seq ?_
  refine T.seq (Qq ?_)
  refine mw rfl ?_
  refine sp rfl (Qg rfl (dk rfl) Ig rfl i3 (by decide) rfl ?_)
  refine sp rfl (Qm (i := 0) rfl (dk rfl) ul3 rfl rfl rfl rfl ?_)
  refine sp rfl (Qa rfl rfl (dk rfl) rfl rfl ?_)
  refine TL'.nil (tN ?_)
  rcases Qd h with ⟨p, h⟩ | ⟨p, h⟩
  refine Qk rfl p ?_
  refine T.skip (tN ?_)
  refine T.seq ?_
  refine T.block ?_
  refine T.seq (Qq ?_)
  refine sp rfl (Ze (i := 0) (l := ((Qx.dc 256 .u8 x0.Of) ++ (([.int .i64 x0.Many] : List DC)))) rfl (dk rfl) Ig rfl i24 rfl rfl rfl rfl ?_)
  refine mw rfl ?_
  obtain ⟨af, u, h⟩ := bind_some h
  refine sp rfl (Q5 rfl (dk rfl) Try.func89 rfl rfl (Q3.cons rfl (Q3.cons rfl Q3.nil)) (Zt.nil (Sx K u)) ?_)
  obtain ⟨s, w, h⟩ := bind_some h
  refine sp rfl (Q5 rfl (dk rfl) Try.func88 rfl rfl (Q3.cons rfl Q3.nil) (Zt.nil (Rq K w)) ?_)
  refine aw rfl ?_
  refine TL'.nil (tN (T.seq (Qq ?_)))
  refine mw rfl ?_
  refine sp rfl (Qn (xs := s) (f := (cI .u8)) rfl (dk rfl) Xg rfl ?_)
  refine sp rfl (Qa rfl rfl (dk rfl) rfl rfl ?_)
  refine TL'.nil (tN ?_)
  rcases Qd h with ⟨q, h⟩ | ⟨q, h⟩
  refine Qk rfl q ?_
  refine Qq ?_
  refine mw rfl ?_
  refine sp rfl (OpT.buildSlice (elems := ([(0:Int)] : List Int).map (cI .u8)) rfl (dk rfl) Xg i5 (by decide) rfl (J6 rfl) rfl rfl rfl (Yp rfl) (by decide) ?_)
  obtain ⟨y, h⟩ := Zh h
  refine sp rfl (Za (i := 1) (xs := a) (ys := [(0:Int)]) (f := (cI .u8)) rfl (dk rfl) Xg i5 rfl rfl rfl rfl y (fun aa => ?_))
  refine aw rfl ?_
  refine TL'.nil (Qe (tN ?_))
  refine Qq ?_
  refine mw rfl ?_
  refine sp rfl (Qa rfl rfl (dk rfl) rfl rfl ?_)
  refine aw rfl ?_
  refine TL'.nil (tN ?_)
  refine Qb ?_ (ih (wI (b + (1:Int))) x0 (a ++ [(0:Int)]) g aa h)
  exact tq rfl rfl
  refine Qo rfl q ?_
  refine Qq ?_
  refine mw rfl ?_
  refine mw rfl ?_
  obtain ⟨m, ab, h⟩ := bind_some h
  refine sp rfl (Qh (xs := s) (f := (cI .u8)) (v := m) rfl (dk rfl) Xg i5 rfl rfl ab ?_)
  refine sp rfl (Qr rfl (dk rfl) ul5 rfl rfl rfl ?_)
  refine sp rfl (OpT.buildSlice (elems := ([m] : List Int).map (cI .u8)) rfl (dk rfl) Xg i5 (by decide) rfl (J6 rfl) rfl rfl rfl (Yp rfl) (by decide) ?_)
  obtain ⟨ac, h⟩ := Zh h
  refine sp rfl (Za (i := 1) (xs := a) (ys := [m]) (f := (cI .u8)) rfl (dk rfl) Xg i5 rfl rfl rfl rfl ac (fun ad => ?_))
  refine aw rfl ?_
  refine TL'.nil (Qe (tN ?_))
  refine Qq ?_
  refine mw rfl ?_
  refine sp rfl (Qa rfl rfl (dk rfl) rfl rfl ?_)
  refine aw rfl ?_
  refine TL'.nil (tN ?_)
  refine Qb ?_ (ih (wI (b + (1:Int))) x0 (a ++ [m]) g ad h)
  exact tq rfl rfl
  refine Qo rfl p ?_
  refine T.exit (Qf (Qf (Qp (tN ?_))))
  refine T.seq (Qq ?_)
  refine mw rfl ?_
  refine aw rfl ?_
  refine TL'.nil (tN ?_)
  refine T.ret ?_
  refine Xf (Zn.view 2 1 rfl rfl) ?_
  exact Fin.done (.cons _ _ _ _ (.tmp 2 _ rfl) .nil) (by cases h; exact ⟨rfl, rfl⟩)
theorem Pr (K : Nat) {x0 : aSp} {r : List Int} (h : Lu K x0 = some r) : Zt tp 71 [.agg ((Qx.dc 256 .u8 x0.Of) ++ (([.int .i64 x0.Many] : List DC)))] [] (.sl false 1 (mU r)) := by
 refine Qt Try.func71 rfl (nb rfl) ?_
 show T tp 37 (ca [] Try.f71) ⟨Qv 0 [.agg ((Qx.dc 256 .u8 x0.Of) ++ (([.int .i64 x0.Many] : List DC)))], []⟩ (V3 r)
 unfold Lu at h
 refine T.seq (Qq ?_)
 refine sp rfl (Zg rfl (dk rfl) rfl (fun d => ?_))
 refine aw rfl ?_
 refine TL'.nil (tN ?_)
 refine T.seq ?_
 refine T.seq (Qq ?_)
 refine sp rfl (Qg rfl (dk rfl) Ig rfl i3 (by decide) rfl ?_)
 refine sp rfl (Qm (i := 0) rfl (dk rfl) ul3 rfl rfl rfl rfl ?_)
 refine sp rfl (Qa rfl rfl (dk rfl) rfl rfl ?_)
 refine mw rfl ?_
 rcases Qd h with ⟨a, h⟩ | ⟨a, h⟩
 refine pf rfl a ?_
 refine pf rfl a ?_
 refine pf rfl a ?_
 refine sp rfl (Qi rfl (dk rfl) rfl a rfl ?_)
 refine TL'.nil (tN ?_)
 refine Qk rfl rfl ?_
 refine Qc ?_ (Lg K h)
 exact tq rfl rfl
 refine sn rfl a (Qg rfl (dk rfl) Ig rfl i3 (by decide) rfl ?_)
 refine sn rfl a (Qm (i := 0) rfl (dk rfl) ul3 rfl rfl rfl rfl ?_)
 refine sn rfl a (Qa rfl rfl (dk rfl) rfl rfl ?_)
 refine sp rfl (Qs rfl (dk rfl) rfl a rfl ?_)
 refine TL'.nil (tN ?_)
 rcases Qd h with ⟨b, h⟩ | ⟨b, h⟩
 refine Qk rfl b ?_
 refine Qc ?_ (Lg K h)
 exact tq rfl rfl
 refine Qo rfl b ?_
 refine T.skip (tN ?_)
 refine T.seq (Qq ?_)
 refine aw rfl ?_
 refine TL'.nil (tN ?_)
 refine T.seq ?_
 refine T.seq (Qq ?_)
 refine aw rfl ?_
 refine TL'.nil (tN ?_)
 refine T.block ?_
 refine T.loop ?_
 refine Qb (Yc 5 1) ?_
 refine Qb ?_ (F0 K K (0:Int) x0 [] d (Mn 2) h)
 exact tr rfl (.c (.s .z) (.c .z (.n _)))
abbrev H0 (bx0 : Nat) (x0 : Qj) (r : Bool) : ES := Jk tp Try.f73 (fun y t => ∃ γ : Nat → Value, y = (.bool r) ∧ t = [(Yf bx0 x0.g.First x0.g.P (γ 0) x0.a.Split.Of x0.a.Split.Many (γ 1) (γ 2) x0.e), .arrA (γ 0) 3 1 (mI x0.number), .arrA (γ 1) 42 2 (mA x0.a.Counts), .arrX (γ 2) 59 4 0 (x0.a.States.map Q0)])
abbrev Ey (bx0 : Nat) (x0 : Qj) (r : Bool) : ES := thenS (fun s' => T tp 54 (ca [1,1,1] Try.f73) s' ((H0 bx0 x0 r))) ((H0 bx0 x0 r))
abbrev C5 (bx0 : Nat) (x0 : Qj) (r : Bool) : ES := Qz 0 ((Ey bx0 x0 r))
theorem F7 {r : Bool} (K bx0 : Nat) (x0 : Qj) : ∀ (k : Nat), ∀ (x3 x4 s : Int) (x0 : Qj) (x2 : aSt) (y aa w0_0aa : Value) (p : Nat), Vt K k x3 x4 s x0 x2 = some r → TL tp 54 (ca [1,1,0,1,0,0] Try.f73) ⟨[(0, .ptr bx0 0), (3, .int .i64 x3), (4, .int .i64 x4), (7, .ptr p 0), (11, .int .i64 s)], [(Yf bx0 x0.g.First x0.g.P y x0.a.Split.Of x0.a.Split.Many aa w0_0aa x0.e), .arrA y 3 1 (mI x0.number), .arrA aa 42 2 (mA x0.a.Counts), .arrX w0_0aa 59 4 0 (x0.a.States.map Q0), (Zw p x2.L x2.R x2.Rule x2.Next)]⟩ (C5 bx0 x0 r) := by
 intro k
 induction k with
 | zero =>
  intro x3 x4 s x0 x2 y aa w0_0aa p h
  cases (show (none : Option Bool) = some r from h)
 | succ k ih =>
  intro x3 x4 s x0 x2 y aa w0_0aa p h
  rw [Vt] at h
  refine Q4 ?_
  refine T.seq ?_
  refine T.seq (Qq ?_)
  refine mw rfl ?_
  refine sp rfl (Qg rfl (dk rfl) Vm rfl i56 (by decide) rfl ?_)
  refine sp rfl (Qm (i := 4) rfl (dk rfl) Yd rfl rfl rfl rfl ?_)
  refine sp rfl (Qn (xs := x2.L) (f := (cI .i64)) rfl (dk rfl) Yd rfl ?_)
  refine sp rfl (Qa rfl rfl (dk rfl) rfl rfl ?_)
  refine TL'.nil (tN ?_)
  rcases Qd h with ⟨ac, h⟩ | ⟨ac, h⟩
  refine Qk rfl ac ?_
  refine T.skip (tN ?_)
  refine T.seq ?_
  refine T.block ?_
  refine T.seq ?_
  refine Y3 ?_
  refine dC (c := ⟨some 28, .ptr bx0 0, [(0, .ptr bx0 0)], [], []⟩) (fun t hm => oF rfl rfl (OpT.move rfl (dk rfl) hm.s0 ⟨u0, rfl⟩)) (fun _ => rfl) (fun _ => rfl) ?_
  refine dC (c := ⟨some 29, .agg [.sl false 1 (mI x2.L), .sl false 1 (mI x2.R), .sl false 1 (mI x2.Rule), .sl false 1 (x2.Next.map (cL 2 Qu))], [(7, .ptr p 0)], [(4, (Zw p x2.L x2.R x2.Rule x2.Next))], []⟩) (fun t hm => oF rfl rfl (Ze (i := 4) (l := [.sl false 1 (mI x2.L), .sl false 1 (mI x2.R), .sl false 1 (mI x2.Rule), .sl false 1 (x2.Next.map (cL 2 Qu))]) rfl (dk rfl) Vm rfl i59 hm.s0 hm.o0 rfl rfl ⟨u0, rfl⟩)) (fun _ => rfl) (fun _ => rfl) ?_
  refine dC (c := ⟨some 30, .int .i64 x3, [(3, .int .i64 x3)], [], []⟩) (fun t hm => oF rfl rfl (OpT.move rfl (dk rfl) hm.s0 ⟨u0, rfl⟩)) (fun _ => rfl) (fun _ => rfl) ?_
  refine dC (c := ⟨some 31, .ptr p (0 + 0), [(7, .ptr p 0)], [], []⟩) (fun t hm => oF rfl rfl (Qg rfl (dk rfl) Vm rfl i56 (by decide) hm.s0 ⟨u0, rfl⟩)) (fun _ => rfl) (fun _ => rfl) ?_
  refine dC (c := ⟨some 32, .sl false 1 (mI x2.L), [(31, .ptr p (0 + 0))], [(4, (Zw p x2.L x2.R x2.Rule x2.Next))], []⟩) (fun t hm => oF rfl rfl (Qm (i := 4) rfl (dk rfl) Yd rfl hm.s0 hm.o0 rfl ⟨u0, rfl⟩)) (fun _ => rfl) (fun _ => rfl) ?_
  refine dC (c := ⟨some 33, .int .i64 s, [(11, .int .i64 s)], [], []⟩) (fun t hm => oF rfl rfl (OpT.move rfl (dk rfl) hm.s0 ⟨u0, rfl⟩)) (fun _ => rfl) (fun _ => rfl) ?_
  obtain ⟨w, af, h⟩ := bind_some h
  refine dC (c := ⟨some 34, .ref [.int .i64 w], [(32, .sl false 1 (mI x2.L)), (33, .int .i64 s)], [], []⟩) (fun t hm => oF rfl rfl (Qh (xs := x2.L) (f := (cI .i64)) (v := w) rfl (dk rfl) Yd i3 hm.s0 hm.s1 af ⟨u0, rfl⟩)) (fun _ => rfl) (fun _ => rfl) ?_
  refine dC (c := ⟨some 35, .int .i64 w, [(34, .ref [.int .i64 w])], [], []⟩) (fun t hm => oF rfl rfl (Qr rfl (dk rfl) ul3 rfl hm.s0 rfl ⟨u0, rfl⟩)) (fun _ => rfl) (fun _ => rfl) ?_
  obtain ⟨q, ag, h⟩ := bind_some h
  refine DGG.step (c := fun b => ⟨some 36, .bool q, [(28, .ptr bx0 0), (29, .agg [.sl false 1 (mI x2.L), .sl false 1 (mI x2.R), .sl false 1 (mI x2.Rule), .sl false 1 (x2.Next.map (cL 2 Qu))]), (30, .int .i64 x3), (35, .int .i64 w)], [(3, .arrX w0_0aa 59 4 0 (x0.a.States.map Q0)), (2, .arrA aa 42 2 (mA x0.a.Counts)), (1, .arrA y 3 1 (mI x0.number)), (0, (Yf bx0 x0.g.First x0.g.P y x0.a.Split.Of x0.a.Split.Many aa w0_0aa x0.e))], [(0, (Yf bx0 x0.g.First x0.g.P ((b 8).1 0) x0.a.Split.Of x0.a.Split.Many ((b 8).1 1) ((b 8).1 2) x0.e)), (1, .arrA ((b 8).1 0) 3 1 (mI x0.number)), (2, .arrA ((b 8).1 1) 42 2 (mA x0.a.Counts)), (3, .arrX ((b 8).1 2) 59 4 0 (x0.a.States.map Q0))]⟩) [8] (fun b γ' h => by simp only [h 8 (by decide)]) (fun b t hm => oF rfl rfl (Q2 (is := [0, 1, 2, 3]) (ph := []) rfl (dk rfl) Try.func70 rfl rfl (Q3.cons hm.s0 (Q3.cons hm.s1 (Q3.cons hm.s2 (Q3.cons hm.s3 Q3.nil)))) (Dz K (bx0 := bx0) (wx0c1 := y) (wx0c2c1 := aa) (wx0c2c2 := w0_0aa) ag) (.cons (hm.objs (0, _) (.tail _ (.tail _ (.tail _ (.head _))))) rfl (.cons hm.o2 rfl (.cons hm.o1 rfl (.cons hm.o0 rfl (.nil))))) (fun _ => rfl) (fun g => ⟨(g, 0), rfl⟩))) (fun b => Zq rfl rfl) ?_
  refine dC (c := ⟨some 37, .bool q, [(36, .bool q)], [], []⟩) (fun t hm => oF rfl rfl (OpT.move rfl (dk rfl) hm.s0 ⟨u0, rfl⟩)) (fun _ => rfl) (fun _ => rfl) ?_
  rcases Qd h with ⟨m, h⟩ | ⟨m, h⟩
  refine dC (c := ⟨some 38, .ptr bx0 0, [(0, .ptr bx0 0), (37, .bool q)], [], []⟩) (fun t hm => oN rfl rfl rfl hm.s1 m (OpT.move rfl (dk rfl) hm.s0 ⟨u0, rfl⟩)) (fun _ => rfl) (fun _ => rfl) ?_
  refine dC (c := ⟨some 39, .ptr bx0 0, [(38, .ptr bx0 0), (37, .bool q)], [], []⟩) (fun t hm => oN rfl rfl rfl hm.s1 m (OpT.nilCheck rfl (dk rfl) hm.s0 rfl ⟨u0, rfl⟩)) (fun _ => rfl) (fun _ => rfl) ?_
  refine dC (c := ⟨some 40, .ptr bx0 (0 + 0), [(39, .ptr bx0 0), (37, .bool q)], [], []⟩) (fun t hm => oN rfl rfl rfl hm.s1 m (Qg rfl (dk rfl) Fg rfl i71 (by decide) hm.s0 ⟨u0, rfl⟩)) (fun _ => rfl) (fun _ => rfl) ?_
  refine dC (c := ⟨some 41, .ptr bx0 (0 + 0 + 1), [(40, .ptr bx0 (0 + 0)), (37, .bool q)], [], []⟩) (fun t hm => oN rfl rfl rfl hm.s1 m (Qg rfl (dk rfl) ul71 rfl i69 (by decide) hm.s0 ⟨u0, rfl⟩)) (fun _ => rfl) (fun _ => rfl) ?_
  refine DGG.step (c := fun b => ⟨some 42, .sl false 9 (x0.g.P.map Zk), [(41, .ptr bx0 (0 + 0 + 1)), (37, .bool q)], [(0, (Yf bx0 x0.g.First x0.g.P ((b 8).1 0) x0.a.Split.Of x0.a.Split.Many ((b 8).1 1) ((b 8).1 2) x0.e))], []⟩) [8] (fun b γ' h => by simp only [h 8 (by decide)]) (fun b t hm => oN rfl rfl rfl hm.s1 m (Qm (i := 0) rfl (dk rfl) Sk rfl hm.s0 hm.o0 rfl ⟨u0, rfl⟩)) (fun b => Zq rfl rfl) ?_
  refine dC (c := ⟨some 43, .ptr p (0 + 0), [(7, .ptr p 0), (37, .bool q)], [], []⟩) (fun t hm => oN rfl rfl rfl hm.s1 m (Qg rfl (dk rfl) Vm rfl i56 (by decide) hm.s0 ⟨u0, rfl⟩)) (fun _ => rfl) (fun _ => rfl) ?_
  refine dC (c := ⟨some 44, .sl false 1 (mI x2.L), [(43, .ptr p (0 + 0)), (37, .bool q)], [(4, (Zw p x2.L x2.R x2.Rule x2.Next))], []⟩) (fun t hm => oN rfl rfl rfl hm.s1 m (Qm (i := 4) rfl (dk rfl) Yd rfl hm.s0 hm.o0 rfl ⟨u0, rfl⟩)) (fun _ => rfl) (fun _ => rfl) ?_
  refine dC (c := ⟨some 45, .int .i64 s, [(11, .int .i64 s), (37, .bool q)], [], []⟩) (fun t hm => oN rfl rfl rfl hm.s1 m (OpT.move rfl (dk rfl) hm.s0 ⟨u0, rfl⟩)) (fun _ => rfl) (fun _ => rfl) ?_
  refine dC (c := ⟨some 46, .ref [.int .i64 w], [(44, .sl false 1 (mI x2.L)), (45, .int .i64 s), (37, .bool q)], [], []⟩) (fun t hm => oN rfl rfl rfl hm.s2 m (Qh (xs := x2.L) (f := (cI .i64)) (v := w) rfl (dk rfl) Yd i3 hm.s0 hm.s1 af ⟨u0, rfl⟩)) (fun _ => rfl) (fun _ => rfl) ?_
  refine dC (c := ⟨some 47, .int .i64 w, [(46, .ref [.int .i64 w]), (37, .bool q)], [], []⟩) (fun t hm => oN rfl rfl rfl hm.s1 m (Qr rfl (dk rfl) ul3 rfl hm.s0 rfl ⟨u0, rfl⟩)) (fun _ => rfl) (fun _ => rfl) ?_
  obtain ⟨j, ai, h⟩ := bind_some h
  refine dC (c := ⟨some 48, .ref [.int .u64 j.S.a0, .int .u64 j.S.a1, .int .u64 j.S.a2, .int .u64 j.S.a3, .int .i64 j.Lo, .int .i64 j.Hi, .int .i64 j.Rule, .bool j.Last, .sl false 1 (mI j.Next)], [(42, .sl false 9 (x0.g.P.map Zk)), (47, .int .i64 w), (37, .bool q)], [], []⟩) (fun t hm => oN rfl rfl rfl hm.s2 m (Qh (xs := x0.g.P) (f := Zk) (v := j) rfl (dk rfl) Sk i104 hm.s0 hm.s1 ai ⟨u0, rfl⟩)) (fun _ => rfl) (fun _ => rfl) ?_
  refine dC (c := ⟨some 49, .ref [.sl false 1 (mI j.Next)], [(48, .ref [.int .u64 j.S.a0, .int .u64 j.S.a1, .int .u64 j.S.a2, .int .u64 j.S.a3, .int .i64 j.Lo, .int .i64 j.Hi, .int .i64 j.Rule, .bool j.Last, .sl false 1 (mI j.Next)]), (37, .bool q)], [], []⟩) (fun t hm => oN rfl rfl rfl hm.s1 m (Z4 rfl (dk rfl) Ed rfl i56 (by decide) hm.s0 ⟨u0, rfl⟩)) (fun _ => rfl) (fun _ => rfl) ?_
  refine dC (c := ⟨some 50, .sl false 1 (mI j.Next), [(49, .ref [.sl false 1 (mI j.Next)]), (37, .bool q)], [], []⟩) (fun t hm => oN rfl rfl rfl hm.s1 m (Qr rfl (dk rfl) Yd rfl hm.s0 rfl ⟨u0, rfl⟩)) (fun _ => rfl) (fun _ => rfl) ?_
  refine dC (c := ⟨some 51, .int .i64 x4, [(4, .int .i64 x4), (37, .bool q)], [], []⟩) (fun t hm => oN rfl rfl rfl hm.s1 m (OpT.move rfl (dk rfl) hm.s0 ⟨u0, rfl⟩)) (fun _ => rfl) (fun _ => rfl) ?_
  obtain ⟨ab, aj, h⟩ := bind_some h
  refine dC (c := ⟨some 52, .bool ab, [(50, .sl false 1 (mI j.Next)), (51, .int .i64 x4), (37, .bool q)], [], []⟩) (fun t hm => oN rfl rfl rfl hm.s2 m (Q5 rfl (dk rfl) Try.func84 rfl rfl (Q3.cons hm.s0 (Q3.cons hm.s1 Q3.nil)) (Zt.nil (r1_in_T K (flx0 := false) aj)) ⟨u0, rfl⟩)) (fun _ => rfl) (fun _ => rfl) ?_
  refine dC (c := ⟨some 53, .bool ab, [(37, .bool q), (52, .bool ab)], [], []⟩) (fun t hm => oF rfl rfl (Qi rfl (dk rfl) hm.s0 m hm.s1 ⟨u0, rfl⟩)) (fun _ => rfl) (fun _ => rfl) ?_
  refine Vi (s1 := fun b => ⟨[(0, .ptr bx0 0), (3, .int .i64 x3), (4, .int .i64 x4), (7, .ptr p 0), (11, .int .i64 s), (38, .ptr bx0 0), (39, .ptr bx0 0), (40, .ptr bx0 (0 + 0)), (41, .ptr bx0 (0 + 0 + 1)), (42, .sl false 9 (x0.g.P.map Zk)), (43, .ptr p (0 + 0)), (44, .sl false 1 (mI x2.L)), (45, .int .i64 s), (46, .ref [.int .i64 w]), (47, .int .i64 w), (48, .ref [.int .u64 j.S.a0, .int .u64 j.S.a1, .int .u64 j.S.a2, .int .u64 j.S.a3, .int .i64 j.Lo, .int .i64 j.Hi, .int .i64 j.Rule, .bool j.Last, .sl false 1 (mI j.Next)]), (49, .ref [.sl false 1 (mI j.Next)]), (50, .sl false 1 (mI j.Next)), (51, .int .i64 x4), (52, .bool ab), (53, .bool ab)], [(Yf bx0 x0.g.First x0.g.P ((b 8).1 0) x0.a.Split.Of x0.a.Split.Many ((b 8).1 1) ((b 8).1 2) x0.e), .arrA ((b 8).1 0) 3 1 (mI x0.number), .arrA ((b 8).1 1) 42 2 (mA x0.a.Counts), .arrX ((b 8).1 2) 59 4 0 (x0.a.States.map Q0), (Zw p x2.L x2.R x2.Rule x2.Next)]⟩) (ms := [0, 0, 0, 0, 8, 0, 56, 120, 255, 511, 1023, 2047, 4095, 8191, 16383, 1023, 33791, 1023, 230399, 492543, 1048575, 2097151, 4194303, 1023, 16777215, 33554431]) Q7 rfl (by kernel_rfl) (by kernel_rfl) (by kernel_rfl) (fun b => by kernel_rfl) (fun b => sf rfl) (fun _ => rfl) (fun b u hu => (tN (Qc hu ?_)))
  rcases Qd h with ⟨ad, h⟩ | ⟨ad, h⟩
  refine Qk rfl ad ?_
  refine T.seq (Qq ?_)
  refine aw rfl ?_
  refine TL'.nil (tN ?_)
  refine T.ret (Qy (Ql (Ql (Qy (Ql ?_)))))
  exact Q6 (.cons _ _ _ _ (.tmp 10 _ rfl) .nil) (.cons 0 rfl (.cons 0 rfl (.cons 0 rfl (.cons 0 rfl (.nil _))))) (by cases h; exact ⟨gl [(b 8).1 0, (b 8).1 1, (b 8).1 2], rfl, rfl⟩)
  refine Qo rfl ad ?_
  refine T.skip (Qe (tN ?_))
  refine Qq ?_
  refine mw rfl ?_
  refine sp rfl (Qa rfl rfl (dk rfl) rfl rfl ?_)
  refine aw rfl ?_
  refine TL'.nil (tN ?_)
  refine Qb ?_ (ih x3 x4 (wI (s + (1:Int))) x0 x2 ((b 8).1 0) ((b 8).1 1) ((b 8).1 2) p h)
  exact tq rfl rfl
  refine DGG.off m rfl rfl rfl rfl rfl (fun _ => rfl) ?_
  refine DGG.off m rfl rfl rfl rfl rfl (fun _ => rfl) ?_
  refine DGG.off m rfl rfl rfl rfl rfl (fun _ => rfl) ?_
  refine DGG.off m rfl rfl rfl rfl rfl (fun _ => rfl) ?_
  refine DGG.off m rfl rfl rfl rfl rfl (fun _ => rfl) ?_
  refine DGG.off m rfl rfl rfl rfl rfl (fun _ => rfl) ?_
  refine DGG.off m rfl rfl rfl rfl rfl (fun _ => rfl) ?_
  refine DGG.off m rfl rfl rfl rfl rfl (fun _ => rfl) ?_
  refine DGG.off m rfl rfl rfl rfl rfl (fun _ => rfl) ?_
  refine DGG.off m rfl rfl rfl rfl rfl (fun _ => rfl) ?_
  refine DGG.off m rfl rfl rfl rfl rfl (fun _ => rfl) ?_
  refine DGG.off m rfl rfl rfl rfl rfl (fun _ => rfl) ?_
  refine DGG.off m rfl rfl rfl rfl rfl (fun _ => rfl) ?_
  refine DGG.off m rfl rfl rfl rfl rfl (fun _ => rfl) ?_
  refine DGG.off m rfl rfl rfl rfl rfl (fun _ => rfl) ?_
  refine dC (c := ⟨some 53, .bool false, [(37, .bool q)], [], []⟩) (fun t hm => oF rfl rfl (Qs rfl (dk rfl) hm.s0 m rfl ⟨u0, rfl⟩)) (fun _ => rfl) (fun _ => rfl) ?_
  refine Vi (s1 := fun b => ⟨[(0, .ptr bx0 0), (3, .int .i64 x3), (4, .int .i64 x4), (7, .ptr p 0), (11, .int .i64 s), (38, .tup []), (39, .tup []), (40, .tup []), (41, .tup []), (42, .tup []), (43, .tup []), (44, .tup []), (45, .tup []), (46, .tup []), (47, .tup []), (48, .tup []), (49, .tup []), (50, .tup []), (51, .tup []), (52, .tup []), (53, .bool false)], [(Yf bx0 x0.g.First x0.g.P ((b 8).1 0) x0.a.Split.Of x0.a.Split.Many ((b 8).1 1) ((b 8).1 2) x0.e), .arrA ((b 8).1 0) 3 1 (mI x0.number), .arrA ((b 8).1 1) 42 2 (mA x0.a.Counts), .arrX ((b 8).1 2) 59 4 0 (x0.a.States.map Q0), (Zw p x2.L x2.R x2.Rule x2.Next)]⟩) (ms := [0, 0, 0, 0, 8, 0, 56, 120, 255, 511, 1023, 2047, 4095, 8191, 16383, 1023, 33791, 1023, 230399, 492543, 1048575, 2097151, 4194303, 1023, 16777215, 33554431]) Q7 rfl (by kernel_rfl) (by kernel_rfl) (by kernel_rfl) (fun b => by kernel_rfl) (fun b => sf rfl) (fun _ => rfl) (fun b u hu => (tN (Qc hu ?_)))
  refine Qo rfl rfl ?_
  refine T.skip (Qe (tN ?_))
  refine Qq ?_
  refine mw rfl ?_
  refine sp rfl (Qa rfl rfl (dk rfl) rfl rfl ?_)
  refine aw rfl ?_
  refine TL'.nil (tN ?_)
  refine Qb ?_ (ih x3 x4 (wI (s + (1:Int))) x0 x2 ((b 8).1 0) ((b 8).1 1) ((b 8).1 2) p h)
  exact tq rfl rfl
  refine Qo rfl ac ?_
  refine T.exit (Qf (Qf (Qp (tN ?_))))
  refine T.seq (Qq ?_)
  refine aw rfl ?_
  refine TL'.nil (tN ?_)
  refine T.ret ?_
  exact Q6 (.cons _ _ _ _ (.tmp 10 _ rfl) .nil) (.cons 0 rfl (.cons 0 rfl (.cons 0 rfl (.cons 0 rfl (.nil _))))) (by cases h; exact ⟨gl [y, aa, w0_0aa], rfl, rfl⟩)
theorem P4 (K : Nat) {x0 : Qj} {x1 : Int} {x2 : aSt} {x3 x4 : Int} {bx0 : Nat} {wx0c1 wx0c2c1 wx0c2c2 : Value} {r : Bool} (h : L6 K x0 x1 x2 x3 x4 = some r) : Uz tp 73 [.ptr bx0 0, .int .i64 x1, .agg [.sl false 1 (mI x2.L), .sl false 1 (mI x2.R), .sl false 1 (mI x2.Rule), .sl false 1 (x2.Next.map (cL 2 Qu))], .int .i64 x3, .int .i64 x4] [(Yf bx0 x0.g.First x0.g.P wx0c1 x0.a.Split.Of x0.a.Split.Many wx0c2c1 wx0c2c2 x0.e), .arrA wx0c1 3 1 (mI x0.number), .arrA wx0c2c1 42 2 (mA x0.a.Counts), .arrX wx0c2c2 59 4 0 (x0.a.States.map Q0)] (fun γ => (.bool r)) (fun γ => [(Yf bx0 x0.g.First x0.g.P (γ 0) x0.a.Split.Of x0.a.Split.Many (γ 1) (γ 2) x0.e), .arrA (γ 0) 3 1 (mI x0.number), .arrA (γ 1) 42 2 (mA x0.a.Counts), .arrX (γ 2) 59 4 0 (x0.a.States.map Q0)]) := by
 refine Qt Try.func73 rfl (nb rfl) ?_
 show T tp 54 (ca [] Try.f73) ⟨Qv 0 [.ptr bx0 0, .int .i64 x1, .agg [.sl false 1 (mI x2.L), .sl false 1 (mI x2.R), .sl false 1 (mI x2.Rule), .sl false 1 (x2.Next.map (cL 2 Qu))], .int .i64 x3, .int .i64 x4], [(Yf bx0 x0.g.First x0.g.P wx0c1 x0.a.Split.Of x0.a.Split.Many wx0c2c1 wx0c2c2 x0.e), .arrA wx0c1 3 1 (mI x0.number), .arrA wx0c2c1 42 2 (mA x0.a.Counts), .arrX wx0c2c2 59 4 0 (x0.a.States.map Q0)]⟩ (H0 bx0 x0 r)
 unfold L6 at h
 refine T.seq (Qq ?_)
 refine sp rfl (Zg rfl (dk rfl) rfl (fun f => ?_))
 refine aw rfl ?_
 refine TL'.nil (tN ?_)
 refine T.seq ?_
 refine T.seq (Qq ?_)
 refine mw rfl ?_
 refine sp rfl (Qa rfl rfl (dk rfl) rfl rfl ?_)
 refine TL'.nil (tN ?_)
 rcases Qd h with ⟨b, h⟩ | ⟨b, h⟩
 refine Qk rfl b ?_
 refine T.seq (Qq ?_)
 refine mw rfl ?_
 refine sp rfl (OpT.nilCheck rfl (dk rfl) rfl rfl ?_)
 refine sp rfl (Qg rfl (dk rfl) Fg rfl i71 (by decide) rfl ?_)
 refine sp rfl (Qg rfl (dk rfl) ul71 rfl i56 (by decide) rfl ?_)
 refine sp rfl (Qm (i := 1) rfl (dk rfl) Yd rfl rfl rfl rfl ?_)
 refine mw rfl ?_
 obtain ⟨l, j, h⟩ := bind_some h
 refine sp rfl (Q5 rfl (dk rfl) Try.func84 rfl rfl (Q3.cons rfl (Q3.cons rfl Q3.nil)) (Zt.nil (r1_in_T K (flx0 := false) j)) ?_)
 refine aw rfl ?_
 refine TL'.nil (tN ?_)
 refine T.ret (Ql ?_)
 exact Q6 (.cons _ _ _ _ (.tmp 10 _ rfl) .nil) (.cons 1 rfl (.cons 1 rfl (.cons 1 rfl (.cons 1 rfl (.nil _))))) (by cases h; exact ⟨gl [wx0c1, wx0c2c1, wx0c2c2], rfl, rfl⟩)
 refine Qo rfl b ?_
 refine T.skip (tN ?_)
 refine T.seq ?_
 refine T.seq (Qq ?_)
 refine aw rfl ?_
 refine TL'.nil (tN ?_)
 refine T.block ?_
 refine T.loop ?_
 refine Qb ?_ (F7 K bx0 x0 K x3 x4 (0:Int) x0 x2 wx0c1 wx0c2c1 wx0c2c2 f h)
 exact tr rfl (.c (.s .z) (.c (.s .z) (.c (.s .z) (.c (.s .z) (.c .z (.n _))))))
abbrev R5 (bx0 : Nat) (x0 : Qj) (r : Bool) : ES := Jk tp Try.f74 (fun y t => ∃ γ : Nat → Value, y = (.bool r) ∧ t = [(Yf bx0 x0.g.First x0.g.P (γ 0) x0.a.Split.Of x0.a.Split.Many (γ 1) (γ 2) x0.e), .arrA (γ 0) 3 1 (mI x0.number), .arrA (γ 1) 42 2 (mA x0.a.Counts), .arrX (γ 2) 59 4 0 (x0.a.States.map Q0)])
theorem R6 (K : Nat) {x0 : Qj} {x1 : aSt} {x2 x3 : Int} {bx0 : Nat} {wx0c1 wx0c2c1 wx0c2c2 : Value} {r : Bool} (h : Md K x0 x1 x2 x3 = some r) : Uz tp 74 [.ptr bx0 0, .agg [.sl false 1 (mI x1.L), .sl false 1 (mI x1.R), .sl false 1 (mI x1.Rule), .sl false 1 (x1.Next.map (cL 2 Qu))], .int .i64 x2, .int .i64 x3] [(Yf bx0 x0.g.First x0.g.P wx0c1 x0.a.Split.Of x0.a.Split.Many wx0c2c1 wx0c2c2 x0.e), .arrA wx0c1 3 1 (mI x0.number), .arrA wx0c2c1 42 2 (mA x0.a.Counts), .arrX wx0c2c2 59 4 0 (x0.a.States.map Q0)] (fun γ => (.bool r)) (fun γ => [(Yf bx0 x0.g.First x0.g.P (γ 0) x0.a.Split.Of x0.a.Split.Many (γ 1) (γ 2) x0.e), .arrA (γ 0) 3 1 (mI x0.number), .arrA (γ 1) 42 2 (mA x0.a.Counts), .arrX (γ 2) 59 4 0 (x0.a.States.map Q0)]) := by
 refine Qt Try.func74 rfl (nb rfl) ?_
 show T tp 27 (ca [] Try.f74) ⟨Qv 0 [.ptr bx0 0, .agg [.sl false 1 (mI x1.L), .sl false 1 (mI x1.R), .sl false 1 (mI x1.Rule), .sl false 1 (x1.Next.map (cL 2 Qu))], .int .i64 x2, .int .i64 x3], [(Yf bx0 x0.g.First x0.g.P wx0c1 x0.a.Split.Of x0.a.Split.Many wx0c2c1 wx0c2c2 x0.e), .arrA wx0c1 3 1 (mI x0.number), .arrA wx0c2c1 42 2 (mA x0.a.Counts), .arrX wx0c2c2 59 4 0 (x0.a.States.map Q0)]⟩ (R5 bx0 x0 r)
 unfold Md at h
 refine T.seq (Qq ?_)
 refine sp rfl (Zg rfl (dk rfl) rfl (fun q => ?_))
 refine aw rfl ?_
 refine TL'.nil (tN (T.seq (Qq ?_)))
 refine mw rfl ?_
 refine sp rfl (Ze (i := 0) (l := [.sl false 1 (mI x1.L), .sl false 1 (mI x1.R), .sl false 1 (mI x1.Rule), .sl false 1 (x1.Next.map (cL 2 Qu))]) rfl (dk rfl) Vm rfl i59 rfl rfl rfl rfl ?_)
 refine mw rfl ?_
 refine mw rfl ?_
 obtain ⟨s, m, h⟩ := bind_some h
 refine sp rfl (Q2 (is := [1, 2, 3, 4]) (ph := []) rfl (dk rfl) Try.func87 rfl rfl (Q3.cons rfl (Q3.cons rfl (Q3.cons rfl (Q3.cons rfl Q3.nil)))) (Cl K (bx0 := bx0) (wx0c1 := wx0c1) (wx0c2c1 := wx0c2c1) (wx0c2c2 := wx0c2c2) m) (.cons rfl rfl (.cons rfl rfl (.cons rfl rfl (.cons rfl rfl (.nil))))) (fun _ => rfl) (fun f => ?_))
 refine nm (.c (.c (.c (.c (.c (.n)))))) ?_
 refine aw rfl ?_
 refine TL'.nil (tN (T.seq (Qq ?_)))
 refine sp rfl (Qg rfl (dk rfl) Vm rfl i56 (by decide) rfl ?_)
 refine sp rfl (Qm (i := 0) rfl (dk rfl) Yd rfl rfl rfl rfl ?_)
 refine mw rfl ?_
 obtain ⟨u, p, h⟩ := bind_some h
 refine sp rfl (Q5 rfl (dk rfl) Try.func84 rfl rfl (Q3.cons rfl (Q3.cons rfl Q3.nil)) (Zt.nil (r1_in_T K (flx0 := false) p)) ?_)
 refine mw rfl ?_
 rcases Qd h with ⟨b, h⟩ | ⟨b, h⟩
 refine sn rfl b (OpT.move rfl (dk rfl) rfl ?_)
 refine sn rfl b (Qa rfl rfl (dk rfl) rfl rfl ?_)
 refine sn rfl b (OpT.move rfl (dk rfl) rfl ?_)
 rcases Qd h with ⟨j, h⟩ | ⟨j, h⟩
 refine pf rfl j ?_
 refine pf rfl j ?_
 refine sn rfl b (Qi rfl (dk rfl) rfl j rfl ?_)
 refine sp rfl (Qi rfl (dk rfl) rfl b rfl ?_)
 refine aw rfl ?_
 refine TL'.nil (tN ?_)
 refine T.ret ?_
 exact Q6 (.cons _ _ _ _ (.tmp 8 _ rfl) .nil) (.cons 1 rfl (.cons 1 rfl (.cons 1 rfl (.cons 1 rfl (.nil _))))) (by cases h; exact ⟨gl [f 0, f 1, f 2], rfl, rfl⟩)
 refine sn rfl j (OpT.move rfl (dk rfl) rfl ?_)
 refine sn rfl j (Qa rfl rfl (dk rfl) rfl rfl ?_)
 refine sn rfl b (Qs rfl (dk rfl) rfl j rfl ?_)
 refine sp rfl (Qi rfl (dk rfl) rfl b rfl ?_)
 refine aw rfl ?_
 refine TL'.nil (tN ?_)
 refine T.ret ?_
 exact Q6 (.cons _ _ _ _ (.tmp 8 _ rfl) .nil) (.cons 1 rfl (.cons 1 rfl (.cons 1 rfl (.cons 1 rfl (.nil _))))) (by cases h; exact ⟨gl [f 0, f 1, f 2], rfl, rfl⟩)
 refine pf rfl b ?_
 refine pf rfl b ?_
 refine pf rfl b ?_
 refine TL'.pU (.gone _ _ _ rfl rfl rfl) (dk rfl) ?_
 refine TL'.pU (.gone _ _ _ rfl rfl rfl) (dk rfl) ?_
 refine pf rfl b ?_
 refine sp rfl (Qs rfl (dk rfl) rfl b rfl ?_)
 refine aw rfl ?_
 refine TL'.nil (tN ?_)
 refine T.ret ?_
 exact Q6 (.cons _ _ _ _ (.tmp 8 _ rfl) .nil) (.cons 1 rfl (.cons 1 rfl (.cons 1 rfl (.cons 1 rfl (.nil _))))) (by cases h; exact ⟨gl [f 0, f 1, f 2], rfl, rfl⟩)
abbrev Jf (bx0 : Nat) (r : Int × Qj) : ES := Jk tp Try.f75 (fun y t => ∃ γ : Nat → Value, y = (.int .i64 r.1) ∧ t = [(Yf bx0 r.2.g.First r.2.g.P (γ 0) r.2.a.Split.Of r.2.a.Split.Many (γ 1) (γ 2) r.2.e), .arrA (γ 0) 3 1 (mI r.2.number), .arrA (γ 1) 42 2 (mA r.2.a.Counts), .arrX (γ 2) 59 4 0 (r.2.a.States.map Q0)])
abbrev Oi (bx0 : Nat) (r : Int × Qj) : ES := thenS (fun s' => T tp 122 (ca [1,1] Try.f75) s' ((Jf bx0 r))) ((Jf bx0 r))
abbrev Ue (bx0 : Nat) (r : Int × Qj) : ES := Qz 0 ((Oi bx0 r))
abbrev Li (bx0 : Nat) (r : Int × Qj) : ES := thenS (fun s' => TL tp 122 (ca [1,0,1,0,0] Try.f75) s' ((Ue bx0 r))) ((Ue bx0 r))
abbrev C4 (bx0 : Nat) (r : Int × Qj) : ES := thenS (fun s' => T tp 122 (ca [1,0,1,0,0,1,1] Try.f75) s' ((Li bx0 r))) ((Li bx0 r))
abbrev J3 (bx0 : Nat) (r : Int × Qj) : ES := Qz 1 ((C4 bx0 r))
abbrev L5 (bx0 : Nat) (r : Int × Qj) : ES := thenS (fun s' => T tp 122 (ca [1,0,1,0,0,1,0,0,1,1,0,1,1] Try.f75) s' ((J3 bx0 r))) ((J3 bx0 r))
abbrev Hg (bx0 : Nat) (r : Int × Qj) : ES := Qz 2 ((L5 bx0 r))
abbrev F6 (bx0 : Nat) (r : Int × Qj) : ES := thenS (fun s' => T tp 122 (ca [1,1,1,1] Try.f75) s' ((Jf bx0 r))) ((Jf bx0 r))
abbrev D1 (bx0 : Nat) (r : Int × Qj) : ES := Qz 4 ((F6 bx0 r))
abbrev Om (bx0 : Nat) (r : Int × Qj) (go : (List Int) → Int → Qj → Option (Int × Qj)) : Prop := ∀ (x1 : List Int) (b : Int) (x0 : Qj) (flx1 : Bool) (c f w0_0aa : Value), go x1 b x0 = some r → TL tp 122 (ca [1,0,1,0,0] Try.f75) ⟨[(0, .ptr bx0 0), (1, .sl flx1 1 (mI x1)), (5, .int .i64 b)], [(Yf bx0 x0.g.First x0.g.P c x0.a.Split.Of x0.a.Split.Many f w0_0aa x0.e), .arrA c 3 1 (mI x0.number), .arrA f 42 2 (mA x0.a.Counts), .arrX w0_0aa 59 4 0 (x0.a.States.map Q0)]⟩ (Ue bx0 r)
theorem Ok {r : Int × Qj} (K bx0 : Nat) (go0 : (List Int) → Int → Qj → Option (Int × Qj)) (hgo0 : Om bx0 r go0) : ∀ (k : Nat), ∀ (x1 : List Int) (w : Int) (p : List Int) (j : Bool) (i : Int) (x0 : Qj) (flx1 : Bool) (q s w0_1aa : Value), Uo K go0 k x1 w p j i x0 = some r → TL tp 122 (ca [1,0,1,0,0,1,0,0,1,1,0,1,0,1,0,0] Try.f75) ⟨[(0, .ptr bx0 0), (1, .sl flx1 1 (mI x1)), (5, .int .i64 w), (6, .sl false 1 (mI p)), (7, .bool j), (8, .int .i64 i)], [(Yf bx0 x0.g.First x0.g.P q x0.a.Split.Of x0.a.Split.Many s w0_1aa x0.e), .arrA q 3 1 (mI x0.number), .arrA s 42 2 (mA x0.a.Counts), .arrX w0_1aa 59 4 0 (x0.a.States.map Q0)]⟩ (Hg bx0 r) := by
 intro k
 induction k with
 | zero =>
  intro x1 w p j i x0 flx1 q s w0_1aa h
  cases (show (none : Option (Int × Qj)) = some r from h)
 | succ k ih =>
  intro x1 w p j i x0 flx1 q s w0_1aa h
  rw [Uo] at h
  refine Q4 ?_
  refine T.seq ?_
  refine T.seq (Qq ?_)
  refine mw rfl ?_
  refine mw rfl ?_
  refine sp rfl (Qn (xs := x1) (f := (cI .i64)) rfl (dk rfl) Yd rfl ?_)
  refine sp rfl (Qa rfl rfl (dk rfl) rfl rfl ?_)
  refine TL'.nil (tN ?_)
  rcases Qd h with ⟨y, h⟩ | ⟨y, h⟩
  refine Qk rfl y ?_
  refine T.skip (tN ?_)
  refine T.seq ?_
  refine T.block ?_
  refine X3 ?_
  refine Yr rfl rfl rfl rfl rfl rfl ?_
  refine Yr rfl rfl rfl rfl rfl rfl ?_
  rcases Qd h with ⟨b, h⟩ | ⟨b, h⟩
  refine dS (c := ⟨some 43, .sl false 1 (mI p), [(6, .sl false 1 (mI p)), (42, .bool j)], [], []⟩) (fun t hm => oN rfl rfl rfl hm.s1 b (OpT.move rfl (dk rfl) hm.s0 rfl)) rfl rfl ?_
  refine dS (c := ⟨some 44, .int .i64 i, [(8, .int .i64 i), (42, .bool j)], [], []⟩) (fun t hm => oN rfl rfl rfl hm.s1 b (OpT.move rfl (dk rfl) hm.s0 rfl)) rfl rfl ?_
  obtain ⟨l, ab, h⟩ := bind_some h
  refine dS (c := ⟨some 45, .ref [.int .i64 l], [(43, .sl false 1 (mI p)), (44, .int .i64 i), (42, .bool j)], [], []⟩) (fun t hm => oN rfl rfl rfl hm.s2 b (Qh (xs := p) (f := (cI .i64)) (v := l) rfl (dk rfl) Yd i3 hm.s0 hm.s1 ab rfl)) rfl rfl ?_
  refine dS (c := ⟨some 46, .int .i64 l, [(45, .ref [.int .i64 l]), (42, .bool j)], [], []⟩) (fun t hm => oN rfl rfl rfl hm.s1 b (Qr rfl (dk rfl) ul3 rfl hm.s0 rfl rfl)) rfl rfl ?_
  refine dS (c := ⟨some 47, .sl flx1 1 (mI x1), [(1, .sl flx1 1 (mI x1)), (42, .bool j)], [], []⟩) (fun t hm => oN rfl rfl rfl hm.s1 b (OpT.move rfl (dk rfl) hm.s0 rfl)) rfl rfl ?_
  refine dS (c := ⟨some 48, .int .i64 i, [(8, .int .i64 i), (42, .bool j)], [], []⟩) (fun t hm => oN rfl rfl rfl hm.s1 b (OpT.move rfl (dk rfl) hm.s0 rfl)) rfl rfl ?_
  obtain ⟨m, ac, h⟩ := bind_some h
  refine dS (c := ⟨some 49, .ref [.int .i64 m], [(47, .sl flx1 1 (mI x1)), (48, .int .i64 i), (42, .bool j)], [], []⟩) (fun t hm => oN rfl rfl rfl hm.s2 b (Qh (xs := x1) (f := (cI .i64)) (v := m) rfl (dk rfl) Yd i3 hm.s0 hm.s1 ac rfl)) rfl rfl ?_
  refine dS (c := ⟨some 50, .int .i64 m, [(49, .ref [.int .i64 m]), (42, .bool j)], [], []⟩) (fun t hm => oN rfl rfl rfl hm.s1 b (Qr rfl (dk rfl) ul3 rfl hm.s0 rfl rfl)) rfl rfl ?_
  refine dS (c := ⟨some 51, .bool (l == m), [(46, .int .i64 l), (50, .int .i64 m), (42, .bool j)], [], []⟩) (fun t hm => oN rfl rfl rfl hm.s2 b (Qa rfl rfl (dk rfl) hm.s0 hm.s1 rfl)) rfl rfl ?_
  refine dS (c := ⟨some 52, .bool (l == m), [(42, .bool j), (51, .bool (l == m))], [], []⟩) (fun t hm => oF rfl rfl (Qi rfl (dk rfl) hm.s0 b hm.s1 rfl)) rfl rfl ?_
  refine dS (c := ⟨some 7, .bool (l == m), [(52, .bool (l == m))], [], []⟩) (fun t hm => oF rfl rfl (OpT.assign rfl (dk rfl) hm.s0 rfl)) rfl rfl ?_
  refine Y4 (s1 := ⟨[(0, .ptr bx0 0), (1, .sl flx1 1 (mI x1)), (5, .int .i64 w), (6, .sl false 1 (mI p)), (7, .bool (l == m)), (8, .int .i64 i), (43, .sl false 1 (mI p)), (44, .int .i64 i), (45, .ref [.int .i64 l]), (46, .int .i64 l), (47, .sl flx1 1 (mI x1)), (48, .int .i64 i), (49, .ref [.int .i64 m]), (50, .int .i64 m), (51, .bool (l == m))], [(Yf bx0 x0.g.First x0.g.P q x0.a.Split.Of x0.a.Split.Many s w0_1aa x0.e), .arrA q 3 1 (mI x0.number), .arrA s 42 2 (mA x0.a.Counts), .arrX w0_1aa 59 4 0 (x0.a.States.map Q0)]⟩) (ms := [0, 1, 3, 3, 15, 31, 3, 3, 195, 451, 1023, 2047, 4095]) Q7 rfl (by kernel_rfl) (by kernel_rfl) (by kernel_rfl) (sf rfl) rfl (fun u hu => (Qe (tN (Qc hu ?_))))
  refine Qq ?_
  refine mw rfl ?_
  refine sp rfl (Qa rfl rfl (dk rfl) rfl rfl ?_)
  refine aw rfl ?_
  refine TL'.nil (tN ?_)
  refine Qb ?_ (ih x1 w p (l == m) (wI (i + (1:Int))) x0 flx1 q s w0_1aa h)
  exact tq rfl rfl
  refine dO b rfl rfl ?_
  refine dO b rfl rfl ?_
  refine dO b rfl rfl ?_
  refine dO b rfl rfl ?_
  refine dO b rfl rfl ?_
  refine dO b rfl rfl ?_
  refine dO b rfl rfl ?_
  refine dO b rfl rfl ?_
  refine dO b rfl rfl ?_
  refine dS (c := ⟨some 52, .bool false, [(42, .bool j)], [], []⟩) (fun t hm => oF rfl rfl (Qs rfl (dk rfl) hm.s0 b rfl rfl)) rfl rfl ?_
  refine dS (c := ⟨some 7, .bool false, [(52, .bool false)], [], []⟩) (fun t hm => oF rfl rfl (OpT.assign rfl (dk rfl) hm.s0 rfl)) rfl rfl ?_
  refine Y4 (s1 := ⟨[(0, .ptr bx0 0), (1, .sl flx1 1 (mI x1)), (5, .int .i64 w), (6, .sl false 1 (mI p)), (7, .bool false), (8, .int .i64 i), (43, .tup []), (44, .tup []), (45, .tup []), (46, .tup []), (47, .tup []), (48, .tup []), (49, .tup []), (50, .tup []), (51, .tup [])], [(Yf bx0 x0.g.First x0.g.P q x0.a.Split.Of x0.a.Split.Many s w0_1aa x0.e), .arrA q 3 1 (mI x0.number), .arrA s 42 2 (mA x0.a.Counts), .arrX w0_1aa 59 4 0 (x0.a.States.map Q0)]⟩) (ms := [0, 1, 3, 3, 15, 31, 3, 3, 195, 451, 1023, 2047, 4095]) Q7 rfl (by kernel_rfl) (by kernel_rfl) (by kernel_rfl) (sf rfl) rfl (fun u hu => (Qe (tN (Qc hu ?_))))
  refine Qq ?_
  refine mw rfl ?_
  refine sp rfl (Qa rfl rfl (dk rfl) rfl rfl ?_)
  refine aw rfl ?_
  refine TL'.nil (tN ?_)
  refine Qb ?_ (ih x1 w p false (wI (i + (1:Int))) x0 flx1 q s w0_1aa h)
  exact tq rfl rfl
  refine Qo rfl y ?_
  refine T.exit (Qf (Qf (Qp (tN ?_))))
  refine T.seq (Qq ?_)
  refine mw rfl ?_
  refine TL'.nil (tN ?_)
  rcases Qd h with ⟨aa, h⟩ | ⟨aa, h⟩
  refine Qk rfl aa ?_
  refine T.seq (Qq ?_)
  refine mw rfl ?_
  refine aw rfl ?_
  refine TL'.nil (tN ?_)
  refine T.ret (Qy (Ql (Ql (Qy (Ql ?_)))))
  exact Q6 (.cons _ _ _ _ (.tmp 4 _ rfl) .nil) (.cons 0 rfl (.cons 0 rfl (.cons 0 rfl (.cons 0 rfl (.nil _))))) (by cases h; exact ⟨gl [q, s, w0_1aa], rfl, rfl⟩)
  refine Qo rfl aa ?_
  refine T.skip (Qe (tN ?_))
  refine Qq ?_
  refine mw rfl ?_
  refine sp rfl (Qa rfl rfl (dk rfl) rfl rfl ?_)
  refine aw rfl ?_
  refine TL'.nil (tN ?_)
  refine Qb ?_ (hgo0 x1 (wI (w + (1:Int))) x0 flx1 q s w0_1aa h)
  exact tq rfl rfl
theorem Oj {r : Int × Qj} (K bx0 : Nat) : ∀ (k : Nat), ∀ (x1 : List Int) (y : Int) (x0 : Qj) (p : List Int) (flx1 : Bool) (j q : Value) (w0_2aa s : Value), Un K k x1 y x0 p = some r → TL tp 122 (ca [1,1,1,0,1,0,0] Try.f75) ⟨[(0, .ptr bx0 0), (1, .sl flx1 1 (mI x1)), (9, .c (.ex s)), (10, .int .i64 y)], [(Yf bx0 x0.g.First x0.g.P j x0.a.Split.Of x0.a.Split.Many q w0_2aa x0.e), .arrA j 3 1 (mI x0.number), .arrA q 42 2 (mA x0.a.Counts), .arrX w0_2aa 59 4 0 (x0.a.States.map Q0), .arrA s 3 1 (mI p)]⟩ (D1 bx0 r) := by
 intro k
 induction k with
 | zero =>
  intro x1 y x0 p flx1 j q w0_2aa s h
  cases (show (none : Option (Int × Qj)) = some r from h)
 | succ k ih =>
  intro x1 y x0 p flx1 j q w0_2aa s h
  rw [Un] at h
  refine Q4 ?_
  refine T.seq ?_
  refine T.seq (Qq ?_)
  refine mw rfl ?_
  refine mw rfl ?_
  refine sp rfl (Qn (xs := x1) (f := (cI .i64)) rfl (dk rfl) Yd rfl ?_)
  refine sp rfl (Qa rfl rfl (dk rfl) rfl rfl ?_)
  refine TL'.nil (tN ?_)
  rcases Qd h with ⟨ab, h⟩ | ⟨ab, h⟩
  refine Qk rfl ab ?_
  refine T.skip (tN ?_)
  refine T.seq ?_
  refine T.block ?_
  refine T.seq ?_
  refine X3 ?_
  refine Yr rfl rfl rfl rfl rfl rfl ?_
  refine dS (c := ⟨some 62, .ptr bx0 0, [(61, .ptr bx0 0)], [], []⟩) (fun t hm => oF rfl rfl (OpT.nilCheck rfl (dk rfl) hm.s0 rfl rfl)) rfl rfl ?_
  refine dS (c := ⟨some 63, .ptr bx0 (0 + 2), [(62, .ptr bx0 0)], [], []⟩) (fun t hm => oF rfl rfl (Qg rfl (dk rfl) Fg rfl i56 (by decide) hm.s0 rfl)) rfl rfl ?_
  refine dS (c := ⟨some 64, .sl false 1 (mI x0.number), [(63, .ptr bx0 (0 + 2))], [(0, (Yf bx0 x0.g.First x0.g.P j x0.a.Split.Of x0.a.Split.Many q w0_2aa x0.e)), (1, .arrA j 3 1 (mI x0.number))], []⟩) (fun t hm => oF rfl rfl (Zm (Qm (i := 0) rfl (dk rfl) Yd rfl hm.s0 hm.o0 rfl rfl) (Ke 64 1 hm.o1) rfl)) rfl rfl ?_
  refine Yr rfl rfl rfl rfl rfl rfl ?_
  refine Yr rfl rfl rfl rfl rfl rfl ?_
  obtain ⟨aa, ag, h⟩ := bind_some h
  refine dS (c := ⟨some 67, .ref [.int .i64 aa], [(65, .sl flx1 1 (mI x1)), (66, .int .i64 y)], [], []⟩) (fun t hm => oF rfl rfl (Qh (xs := x1) (f := (cI .i64)) (v := aa) rfl (dk rfl) Yd i3 hm.s0 hm.s1 ag rfl)) rfl rfl ?_
  refine dS (c := ⟨some 68, .int .i64 aa, [(67, .ref [.int .i64 aa])], [], []⟩) (fun t hm => oF rfl rfl (Qr rfl (dk rfl) ul3 rfl hm.s0 rfl rfl)) rfl rfl ?_
  obtain ⟨m, ai, h⟩ := bind_some h
  refine dS (c := ⟨some 69, .ref [.int .i64 m], [(64, .sl false 1 (mI x0.number)), (68, .int .i64 aa)], [], []⟩) (fun t hm => oF rfl rfl (Qh (xs := x0.number) (f := (cI .i64)) (v := m) rfl (dk rfl) Yd i3 hm.s0 hm.s1 ai rfl)) rfl rfl ?_
  refine dS (c := ⟨some 70, .int .i64 m, [(69, .ref [.int .i64 m])], [], []⟩) (fun t hm => oF rfl rfl (Qr rfl (dk rfl) ul3 rfl hm.s0 rfl rfl)) rfl rfl ?_
  refine dS (c := ⟨some 71, .bool (decide (m ≥ (0:Int))), [(70, .int .i64 m)], [], []⟩) (fun t hm => oF rfl rfl (Qa rfl rfl (dk rfl) hm.s0 rfl rfl)) rfl rfl ?_
  refine Y4 (s1 := ⟨[(0, .ptr bx0 0), (1, .sl flx1 1 (mI x1)), (9, .c (.ex s)), (10, .int .i64 y), (71, .bool (decide (m ≥ (0:Int))))], [(Yf bx0 x0.g.First x0.g.P j x0.a.Split.Of x0.a.Split.Many q w0_2aa x0.e), .arrA j 3 1 (mI x0.number), .arrA q 42 2 (mA x0.a.Counts), .arrX w0_2aa 59 4 0 (x0.a.States.map Q0), .arrA s 3 1 (mI p)]⟩) (ms := [0, 1, 3, 7, 0, 0, 48, 112, 255, 511, 1023]) Q7 rfl (by kernel_rfl) (by kernel_rfl) (by kernel_rfl) (sf rfl) rfl (fun u hu => (tN (Qc hu ?_)))
  rcases Qd h with ⟨ac, h⟩ | ⟨ac, h⟩
  refine Qk rfl ac ?_
  refine Y3 ?_
  refine dC (c := ⟨some 72, .c (.ex s), [(9, .c (.ex s))], [], []⟩) (fun t hm => oF rfl rfl (OpT.move rfl (dk rfl) hm.s0 ⟨u0, rfl⟩)) (fun _ => rfl) (fun _ => rfl) ?_
  refine dC (c := ⟨some 73, .ptr bx0 0, [(0, .ptr bx0 0)], [], []⟩) (fun t hm => oF rfl rfl (OpT.move rfl (dk rfl) hm.s0 ⟨u0, rfl⟩)) (fun _ => rfl) (fun _ => rfl) ?_
  refine dC (c := ⟨some 74, .ptr bx0 0, [(73, .ptr bx0 0)], [], []⟩) (fun t hm => oF rfl rfl (OpT.nilCheck rfl (dk rfl) hm.s0 rfl ⟨u0, rfl⟩)) (fun _ => rfl) (fun _ => rfl) ?_
  refine dC (c := ⟨some 75, .ptr bx0 (0 + 2), [(74, .ptr bx0 0)], [], []⟩) (fun t hm => oF rfl rfl (Qg rfl (dk rfl) Fg rfl i56 (by decide) hm.s0 ⟨u0, rfl⟩)) (fun _ => rfl) (fun _ => rfl) ?_
  refine dC (c := ⟨some 76, .sl false 1 (mI x0.number), [(75, .ptr bx0 (0 + 2))], [(0, (Yf bx0 x0.g.First x0.g.P j x0.a.Split.Of x0.a.Split.Many q w0_2aa x0.e)), (1, .arrA j 3 1 (mI x0.number))], []⟩) (fun t hm => oF rfl rfl (Zm (Qm (i := 0) rfl (dk rfl) Yd rfl hm.s0 hm.o0 rfl rfl) (Ke 76 1 hm.o1) ⟨u0, rfl⟩)) (fun _ => rfl) (fun _ => rfl) ?_
  refine dC (c := ⟨some 77, .sl flx1 1 (mI x1), [(1, .sl flx1 1 (mI x1))], [], []⟩) (fun t hm => oF rfl rfl (OpT.move rfl (dk rfl) hm.s0 ⟨u0, rfl⟩)) (fun _ => rfl) (fun _ => rfl) ?_
  refine dC (c := ⟨some 78, .int .i64 y, [(10, .int .i64 y)], [], []⟩) (fun t hm => oF rfl rfl (OpT.move rfl (dk rfl) hm.s0 ⟨u0, rfl⟩)) (fun _ => rfl) (fun _ => rfl) ?_
  refine dC (c := ⟨some 79, .ref [.int .i64 aa], [(77, .sl flx1 1 (mI x1)), (78, .int .i64 y)], [], []⟩) (fun t hm => oF rfl rfl (Qh (xs := x1) (f := (cI .i64)) (v := aa) rfl (dk rfl) Yd i3 hm.s0 hm.s1 ag ⟨u0, rfl⟩)) (fun _ => rfl) (fun _ => rfl) ?_
  refine dC (c := ⟨some 80, .int .i64 aa, [(79, .ref [.int .i64 aa])], [], []⟩) (fun t hm => oF rfl rfl (Qr rfl (dk rfl) ul3 rfl hm.s0 rfl ⟨u0, rfl⟩)) (fun _ => rfl) (fun _ => rfl) ?_
  refine dC (c := ⟨some 81, .ref [.int .i64 m], [(76, .sl false 1 (mI x0.number)), (80, .int .i64 aa)], [], []⟩) (fun t hm => oF rfl rfl (Qh (xs := x0.number) (f := (cI .i64)) (v := m) rfl (dk rfl) Yd i3 hm.s0 hm.s1 ai ⟨u0, rfl⟩)) (fun _ => rfl) (fun _ => rfl) ?_
  refine dC (c := ⟨some 82, .int .i64 m, [(81, .ref [.int .i64 m])], [], []⟩) (fun t hm => oF rfl rfl (Qr rfl (dk rfl) ul3 rfl hm.s0 rfl ⟨u0, rfl⟩)) (fun _ => rfl) (fun _ => rfl) ?_
  refine dC (c := ⟨some 83, .sl true 1 ([m].map (cI .i64)), [(82, .int .i64 m)], [], []⟩) (fun t hm => oF rfl rfl (OpT.buildSlice (elems := ([m] : List Int).map (cI .i64)) rfl (dk rfl) Yd i3 (by decide) rfl (J6 rfl) (Xm hm.s0 rfl V6) rfl rfl (Yp rfl) (by decide) ⟨u0, rfl⟩)) (fun _ => rfl) (fun _ => rfl) ?_
  obtain ⟨al, h⟩ := Zh h
  refine DGG.step (c := fun b => ⟨some 84, .c (.ex ((b 12).1 0)), [(83, .sl true 1 ([m].map (cI .i64))), (72, .c (.ex s))], [(4, .arrA s 3 1 (mI p))], [(4, .arrA ((b 12).1 0) 3 1 ((p ++ [m]).map (cI .i64)))]⟩) [12] (fun b γ' h => by simp only [h 12 (by decide)]) (fun b t hm => oF rfl rfl (Za (i := 4) (xs := p) (ys := [m]) (f := (cI .i64)) rfl (dk rfl) Yd i3 rfl hm.s1 hm.o0 hm.s0 al (fun w => ⟨(fun _ => w, 0), rfl⟩))) (fun b => Zq rfl rfl) ?_
  refine DGG.step (c := fun b => ⟨some 9, .c (.ex ((b 12).1 0)), [(84, .c (.ex ((b 12).1 0)))], [], []⟩) [12] (fun b γ' h => by simp only [h 12 (by decide)]) (fun b t hm => oF rfl rfl (OpT.assign rfl (dk rfl) hm.s0 ⟨u0, rfl⟩)) (fun b => Zq rfl rfl) ?_
  refine Vi (s1 := fun b => ⟨[(0, .ptr bx0 0), (1, .sl flx1 1 (mI x1)), (9, .c (.ex ((b 12).1 0))), (10, .int .i64 y)], [(Yf bx0 x0.g.First x0.g.P j x0.a.Split.Of x0.a.Split.Many q w0_2aa x0.e), .arrA j 3 1 (mI x0.number), .arrA q 42 2 (mA x0.a.Counts), .arrX w0_2aa 59 4 0 (x0.a.States.map Q0), .arrA ((b 12).1 0) 3 1 ((p ++ [m]).map (cI .i64))]⟩) (ms := [0, 0, 2, 6, 14, 0, 0, 96, 224, 510, 1022, 2046, 4095, 8191]) Q7 rfl (by kernel_rfl) (by kernel_rfl) (by kernel_rfl) (fun b => by kernel_rfl) (fun b => sf rfl) (fun _ => rfl) (fun b u hu => (Qe (tN (Qc hu ?_))))
  refine Qq ?_
  refine mw rfl ?_
  refine sp rfl (Qa rfl rfl (dk rfl) rfl rfl ?_)
  refine aw rfl ?_
  refine TL'.nil (tN ?_)
  refine Qb ?_ (ih x1 (wI (y + (1:Int))) x0 (p ++ [m]) flx1 j q w0_2aa ((b 12).1 0) h)
  exact tq rfl rfl
  refine Qo rfl ac ?_
  refine T.skip (Qe (tN ?_))
  refine Qq ?_
  refine mw rfl ?_
  refine sp rfl (Qa rfl rfl (dk rfl) rfl rfl ?_)
  refine aw rfl ?_
  refine TL'.nil (tN ?_)
  refine Qb ?_ (ih x1 (wI (y + (1:Int))) x0 p flx1 j q w0_2aa s h)
  exact tq rfl rfl
  refine Qo rfl ab ?_
  refine T.exit (Qf (Qf (Qp (tN ?_))))
  refine T.seq ?_
  refine T.seq (Qq ?_)
  refine mw rfl ?_
  refine sp rfl (Ec (i := 4) (xs := p) (f := (cI .i64)) rfl (dk rfl) Yd rfl rfl ?_)
  refine sp rfl (Qa rfl rfl (dk rfl) rfl rfl ?_)
  refine TL'.nil (tN ?_)
  rcases Qd h with ⟨ad, h⟩ | ⟨ad, h⟩
  refine Qk rfl ad ?_
  refine T.seq (Qq ?_)
  refine mw rfl ?_
  refine sp rfl (OpT.nilCheck rfl (dk rfl) rfl rfl ?_)
  refine sp rfl (Qg rfl (dk rfl) Fg rfl i30 (by decide) rfl ?_)
  refine sp rfl (Xd (i := 0) (cells' := (([.d (.sl false 1 (mI x0.g.First)), .d (.sl false 9 (x0.g.P.map Zk)), .d (.ex j)]:List OC) ++ ((Qx.oc 256 .u8 x0.a.Split.Of) ++ (([.d (.int .i64 x0.a.Split.Many), .d (.ex q), .d (.ex w0_2aa), .d (.int .i64 (110:Int))]:List OC))))) rfl rfl i30 rfl rfl rfl (nb rfl) rfl ?_)
  refine TL'.nil (tN (T.seq (Qq ?_)))
  refine aw rfl ?_
  refine TL'.nil (tN ?_)
  refine T.ret (Ql ?_)
  exact Q6 (.cons _ _ _ _ (.tmp 4 _ rfl) .nil) (.cons 0 rfl (.cons 0 rfl (.cons 0 rfl (.cons 0 rfl (.nil _))))) (by cases h; exact ⟨gl [j, q, w0_2aa], rfl, rfl⟩)
  refine Qo rfl ad ?_
  refine T.skip (tN ?_)
  refine T.seq ?_
  refine T.seq (Qq ?_)
  refine mw rfl ?_
  refine sp rfl (OpT.nilCheck rfl (dk rfl) rfl rfl ?_)
  refine sp rfl (Qg rfl (dk rfl) Fg rfl i28 (by decide) rfl ?_)
  refine sp rfl (Qg rfl (dk rfl) Xe rfl i26 (by decide) rfl ?_)
  refine sp rfl (Qm (i := 0) rfl (dk rfl) X5 rfl rfl rfl rfl ?_)
  refine sp rfl (By (i := 3) (xs := x0.a.States) (f := Q0) rfl (dk rfl) X5 rfl rfl ?_)
  refine sp rfl (Qa rfl rfl (dk rfl) rfl rfl ?_)
  refine TL'.nil (tN ?_)
  rcases Qd h with ⟨af, h⟩ | ⟨af, h⟩
  refine Qk rfl af ?_
  refine T.seq (Qq ?_)
  refine mw rfl ?_
  refine sp rfl (OpT.nilCheck rfl (dk rfl) rfl rfl ?_)
  refine sp rfl (Qg rfl (dk rfl) Fg rfl i30 (by decide) rfl ?_)
  refine sp rfl (Xd (i := 0) (cells' := (([.d (.sl false 1 (mI x0.g.First)), .d (.sl false 9 (x0.g.P.map Zk)), .d (.ex j)]:List OC) ++ ((Qx.oc 256 .u8 x0.a.Split.Of) ++ (([.d (.int .i64 x0.a.Split.Many), .d (.ex q), .d (.ex w0_2aa), .d (.int .i64 (3:Int))]:List OC))))) rfl rfl i30 rfl rfl rfl (nb rfl) rfl ?_)
  refine TL'.nil (tN (T.seq (Qq ?_)))
  refine aw rfl ?_
  refine TL'.nil (tN ?_)
  refine T.ret (Ql ?_)
  exact Q6 (.cons _ _ _ _ (.tmp 4 _ rfl) .nil) (.cons 0 rfl (.cons 0 rfl (.cons 0 rfl (.cons 0 rfl (.nil _))))) (by cases h; exact ⟨gl [j, q, w0_2aa], rfl, rfl⟩)
  refine Qo rfl af ?_
  refine T.skip (tN ?_)
  refine T.seq (Qq ?_)
  refine mw rfl ?_
  refine mw rfl ?_
  refine sp rfl (OpT.nilCheck rfl (dk rfl) rfl rfl ?_)
  refine sp rfl (Qg rfl (dk rfl) Fg rfl i28 (by decide) rfl ?_)
  refine sp rfl (Qg rfl (dk rfl) Xe rfl i26 (by decide) rfl ?_)
  refine sp rfl (Qm (i := 0) rfl (dk rfl) X5 rfl rfl rfl rfl ?_)
  refine mw rfl ?_
  refine mw rfl ?_
  refine sp rfl (Zm (OpT.build (l := [.sl flx1 1 (mI x1), .ex s, .ex (.slice none 0 0), .ex (.slice none 0 0)]) rfl (dk rfl) (Zr (pl := [(0, 1), (1, 1), (2, 1), (3, 1)]) Vm i59 rfl) (J6 rfl) rfl rfl rfl) (Zz 109 (l := [.sl flx1 1 (mI x1), .ex s, .ex (.slice none 0 0), .ex (.slice none 0 0)]) (l' := [.sl false 1 (mI x1), .sl false 1 (mI p), .ex (.slice none 0 0), .ex (.slice none 0 0)]) (.cons (.full _ _ _) (.cons (.view 4 rfl) (.cons (.same _) (.cons (.same _) (.refl _)))))) ?_)
  refine Y7 (E8 109 (l := [.sl false 1 (mI x1), .sl false 1 (mI p), .ex (.slice none 0 0), .ex (.slice none 0 0)]) (l' := [.sl false 1 (mI x1), .sl false 1 (mI p), .sl false 1 (([] : List Int).map (cI .i64)), .sl false 1 (([] : List (List aMv)).map (cL 2 Qu))]) rfl (.cons (.same _) (.cons (.same _) (.cons (.nil _ _) (.cons (.nil _ _) (.refl _)))))) ?_
  refine sp rfl (OpT.buildSlice (elems := ([(aSt.mk x1 p [] [])] : List aSt).map Q0) rfl (dk rfl) X5 i59 (by decide) rfl (J6 rfl) rfl rfl rfl (Yp rfl) (by decide) ?_)
  obtain ⟨am, h⟩ := Zh h
  refine sp rfl (Nn (i := 3) (xs := x0.a.States) (ys := [(aSt.mk x1 p [] [])]) (f := Q0) rfl (dk rfl) X5 i59 rfl rfl rfl rfl am (fun aj => ?_))
  refine sp rfl (OpT.nilCheck rfl (dk rfl) rfl rfl ?_)
  refine sp rfl (Qg rfl (dk rfl) Fg rfl i28 (by decide) rfl ?_)
  refine sp rfl (Qg rfl (dk rfl) Xe rfl i26 (by decide) rfl ?_)
  refine sp rfl (Xd (i := 0) (cells' := (([.d (.sl false 1 (mI x0.g.First)), .d (.sl false 9 (x0.g.P.map Zk)), .d (.ex j)]:List OC) ++ ((Qx.oc 256 .u8 x0.a.Split.Of) ++ (([.d (.int .i64 x0.a.Split.Many), .d (.ex q), .d (.ex aj), .d (.int .i64 x0.e)]:List OC))))) rfl rfl i26 rfl rfl rfl (nb rfl) rfl ?_)
  refine TL'.nil (tN (T.seq (Qq ?_)))
  refine mw rfl ?_
  refine sp rfl (OpT.nilCheck rfl (dk rfl) rfl rfl ?_)
  refine sp rfl (Qg rfl (dk rfl) Fg rfl i28 (by decide) rfl ?_)
  refine sp rfl (Qg rfl (dk rfl) Xe rfl i26 (by decide) rfl ?_)
  refine sp rfl (Qm (i := 0) rfl (dk rfl) X5 rfl rfl rfl rfl ?_)
  refine sp rfl (By (i := 3) (xs := (x0.a.States ++ [(aSt.mk x1 p [] [])])) (f := Q0) rfl (dk rfl) X5 rfl rfl ?_)
  refine sp rfl (Qa rfl rfl (dk rfl) rfl rfl ?_)
  refine aw rfl ?_
  refine TL'.nil (tN ?_)
  refine T.ret ?_
  exact Q6 (.cons _ _ _ _ (.tmp 4 _ rfl) .nil) (.cons 0 rfl (.cons 0 rfl (.cons 0 rfl (.cons 0 rfl (.nil _))))) (by cases h; exact ⟨gl [j, q, aj], rfl, rfl⟩)
theorem Ol {r : Int × Qj} (K bx0 : Nat) : ∀ (k : Nat), ∀ (x1 : List Int) (l : Int) (x0 : Qj) (flx1 : Bool) (b j w0_0aa : Value), Vl K k x1 l x0 = some r → TL tp 122 (ca [1,0,1,0,0] Try.f75) ⟨[(0, .ptr bx0 0), (1, .sl flx1 1 (mI x1)), (5, .int .i64 l)], [(Yf bx0 x0.g.First x0.g.P b x0.a.Split.Of x0.a.Split.Many j w0_0aa x0.e), .arrA b 3 1 (mI x0.number), .arrA j 42 2 (mA x0.a.Counts), .arrX w0_0aa 59 4 0 (x0.a.States.map Q0)]⟩ (Ue bx0 r) := by
 intro k
 induction k with
 | zero =>
  intro x1 l x0 flx1 b j w0_0aa h
  cases (show (none : Option (Int × Qj)) = some r from h)
 | succ k ih =>
  intro x1 l x0 flx1 b j w0_0aa h
  rw [Vl] at h
  refine Q4 ?_
  refine T.seq ?_
  refine T.seq (Qq ?_)
  refine mw rfl ?_
  refine mw rfl ?_
  refine sp rfl (OpT.nilCheck rfl (dk rfl) rfl rfl ?_)
  refine sp rfl (Qg rfl (dk rfl) Fg rfl i28 (by decide) rfl ?_)
  refine sp rfl (Qg rfl (dk rfl) Xe rfl i26 (by decide) rfl ?_)
  refine sp rfl (Qm (i := 0) rfl (dk rfl) X5 rfl rfl rfl rfl ?_)
  refine sp rfl (By (i := 3) (xs := x0.a.States) (f := Q0) rfl (dk rfl) X5 rfl rfl ?_)
  refine sp rfl (Qa rfl rfl (dk rfl) rfl rfl ?_)
  refine TL'.nil (tN ?_)
  rcases Qd h with ⟨p, h⟩ | ⟨p, h⟩
  refine Qk rfl p ?_
  refine T.skip (tN ?_)
  refine T.seq ?_
  refine T.block ?_
  refine T.seq (Qq ?_)
  refine mw rfl ?_
  refine sp rfl (OpT.nilCheck rfl (dk rfl) rfl rfl ?_)
  refine sp rfl (Qg rfl (dk rfl) Fg rfl i28 (by decide) rfl ?_)
  refine sp rfl (Qg rfl (dk rfl) Xe rfl i26 (by decide) rfl ?_)
  refine sp rfl (Qm (i := 0) rfl (dk rfl) X5 rfl rfl rfl rfl ?_)
  refine mw rfl ?_
  obtain ⟨m, u, h⟩ := bind_some h
  refine sp rfl (Uy (n := 3) (xs := x0.a.States) (f := Q0) (old := m) rfl (dk rfl) X5 i59 rfl rfl rfl u ?_)
  refine sp rfl (Ua rfl (dk rfl) Vm rfl i56 (by decide) rfl ?_)
  refine sp rfl (Tn (i := 3) (xs := x0.a.States) (f := Q0) (old := m) rfl (dk rfl) Yd rfl rfl rfl (Z0 u).2 rfl ?_)
  refine aw rfl ?_
  refine TL'.nil (tN (T.seq (Qq ?_)))
  refine mw rfl ?_
  refine sp rfl (Qn (xs := m.L) (f := (cI .i64)) rfl (dk rfl) Yd rfl ?_)
  refine mw rfl ?_
  refine sp rfl (Qn (xs := x1) (f := (cI .i64)) rfl (dk rfl) Yd rfl ?_)
  refine sp rfl (Qa rfl rfl (dk rfl) rfl rfl ?_)
  refine TL'.nil (tN ?_)
  rcases Qd h with ⟨q, h⟩ | ⟨q, h⟩
  refine Qk rfl q ?_
  refine T.seq (Qq ?_)
  refine aw rfl ?_
  refine TL'.nil (tN ?_)
  refine T.seq ?_
  refine T.seq (Qq ?_)
  refine aw rfl ?_
  refine TL'.nil (tN ?_)
  refine T.block ?_
  refine T.loop ?_
  refine Qb ?_ (Ok K bx0 (Vl K k) ih K x1 l m.L true (0:Int) x0 flx1 b j w0_0aa h)
  exact tq rfl rfl
  refine Qo rfl q ?_
  refine T.skip (Qe (tN ?_))
  refine Qq ?_
  refine mw rfl ?_
  refine sp rfl (Qa rfl rfl (dk rfl) rfl rfl ?_)
  refine aw rfl ?_
  refine TL'.nil (tN ?_)
  refine Qb ?_ (ih x1 (wI (l + (1:Int))) x0 flx1 b j w0_0aa h)
  exact tq rfl rfl
  refine Qo rfl p ?_
  refine T.exit (Qf (Qf (Qp (tN ?_))))
  refine T.seq (Qq ?_)
  refine aw rfl ?_
  refine TL'.nil (tN ?_)
  refine T.seq ?_
  refine T.seq (Qq ?_)
  refine aw rfl ?_
  refine TL'.nil (tN ?_)
  refine T.block ?_
  refine T.loop ?_
  refine Qb (Yc 3 1) ?_
  refine Qb ?_ (Oj K bx0 K x1 (0:Int) x0 [] flx1 b j w0_0aa (Mn 7) h)
  exact tr rfl (.c (.s .z) (.c (.s .z) (.c (.s .z) (.c (.s .z) (.c .z (.n _))))))
theorem S9 (K : Nat) {x0 : Qj} {x1 : List Int} {bx0 : Nat} {wx0c1 wx0c2c1 wx0c2c2 : Value} {flx1 : Bool} {r : Int × Qj} (h : Bs K x0 x1 = some r) : Uz tp 75 [.ptr bx0 0, .sl flx1 1 (mI x1)] [(Yf bx0 x0.g.First x0.g.P wx0c1 x0.a.Split.Of x0.a.Split.Many wx0c2c1 wx0c2c2 x0.e), .arrA wx0c1 3 1 (mI x0.number), .arrA wx0c2c1 42 2 (mA x0.a.Counts), .arrX wx0c2c2 59 4 0 (x0.a.States.map Q0)] (fun γ => (.int .i64 r.1)) (fun γ => [(Yf bx0 r.2.g.First r.2.g.P (γ 0) r.2.a.Split.Of r.2.a.Split.Many (γ 1) (γ 2) r.2.e), .arrA (γ 0) 3 1 (mI r.2.number), .arrA (γ 1) 42 2 (mA r.2.a.Counts), .arrX (γ 2) 59 4 0 (r.2.a.States.map Q0)]) := by
 refine Qt Try.func75 rfl (nb rfl) ?_
 show T tp 122 (ca [] Try.f75) ⟨Qv 0 [.ptr bx0 0, .sl flx1 1 (mI x1)], [(Yf bx0 x0.g.First x0.g.P wx0c1 x0.a.Split.Of x0.a.Split.Many wx0c2c1 wx0c2c2 x0.e), .arrA wx0c1 3 1 (mI x0.number), .arrA wx0c2c1 42 2 (mA x0.a.Counts), .arrX wx0c2c2 59 4 0 (x0.a.States.map Q0)]⟩ (Jf bx0 r)
 unfold Bs at h
 refine T.seq (Qq ?_)
 refine aw rfl ?_
 refine TL'.nil (tN ?_)
 refine T.seq ?_
 refine T.seq (Qq ?_)
 refine aw rfl ?_
 refine TL'.nil (tN ?_)
 refine T.block ?_
 refine T.loop ?_
 refine Qb ?_ (Ol K bx0 K x1 (1:Int) x0 flx1 wx0c1 wx0c2c1 wx0c2c2 h)
 exact tq rfl rfl
abbrev L4 (bx0 : Nat) (r : aMv × Qj) : ES := Jk tp Try.f52 (fun y t => ∃ γ : Nat → Value, y = (.agg [.int .i64 r.1.To, .sl false 1 (mU r.1.Ops)]) ∧ t = [(Yf bx0 r.2.g.First r.2.g.P (γ 0) r.2.a.Split.Of r.2.a.Split.Many (γ 1) (γ 2) r.2.e), .arrA (γ 0) 3 1 (mI r.2.number), .arrA (γ 1) 42 2 (mA r.2.a.Counts), .arrX (γ 2) 59 4 0 (r.2.a.States.map Q0)])
abbrev D0 (bx0 : Nat) (r : aMv × Qj) : ES := thenS (fun s' => T tp 109 (ca [1,1,1,1,1,1] Try.f52) s' ((L4 bx0 r))) ((L4 bx0 r))
abbrev X1 (bx0 : Nat) (r : aMv × Qj) : ES := Qz 0 ((D0 bx0 r))
abbrev Hc (bx0 : Nat) (r : aMv × Qj) : ES := thenS (fun s' => TL tp 109 (ca [1,1,1,1,1,0,1,0,0] Try.f52) s' ((X1 bx0 r))) ((X1 bx0 r))
abbrev Me (bx0 : Nat) (r : aMv × Qj) : ES := thenS (fun s' => T tp 109 (ca [1,1,1,1,1,0,1,0,0,1,1] Try.f52) s' ((Hc bx0 r))) ((Hc bx0 r))
abbrev Xq (bx0 : Nat) (r : aMv × Qj) : ES := Qz 1 ((Me bx0 r))
abbrev Hz (bx0 : Nat) (r : aMv × Qj) : ES := Qz 2 ((Xq bx0 r))
abbrev Gj (bx0 : Nat) (r : aMv × Qj) : ES := thenS (fun s' => T tp 109 (ca [1,1,1,1,1,0,1,0,0,1,0,0,1,1,1,1] Try.f52) s' ((Xq bx0 r))) ((Xq bx0 r))
abbrev Mk (bx0 : Nat) (r : aMv × Qj) (go : Int → Int → Int → Int → Qj → (List Int) → (List Int) → (List Int) → (List (List aMv)) → (List Int) → (List Int) → Option (aMv × Qj)) : Prop := ∀ (x1 x2 : Int) (b f : Int) (x0 : Qj) (i j l : List Int) (m : List (List aMv)) (n p : List Int) (q s w0_0aa : Value) (u v : Nat) (w y : Value), go x1 x2 b f x0 i j l m n p = some r → TL tp 109 (ca [1,1,1,1,1,0,1,0,0] Try.f52) ⟨[(0, .ptr bx0 0), (1, .int .i64 x1), (2, .int .i64 x2), (8, .ptr u 0), (9, .ptr v 0), (10, .int .u8 b), (11, .c (.ex w)), (12, .c (.ex y)), (13, .int .i64 f)], [(Yf bx0 x0.g.First x0.g.P q x0.a.Split.Of x0.a.Split.Many s w0_0aa x0.e), .arrA q 3 1 (mI x0.number), .arrA s 42 2 (mA x0.a.Counts), .arrX w0_0aa 59 4 0 (x0.a.States.map Q0), (b63x9 u (0:Int) (.slice none 0 0)), (Zw v i j l m), .arrA w 3 1 (mI n), .arrA y 5 1 (mU p)]⟩ (X1 bx0 r)
theorem Ml {r : aMv × Qj} (K bx0 : Nat) (go0 : Int → Int → Int → Int → Qj → (List Int) → (List Int) → (List Int) → (List (List aMv)) → (List Int) → (List Int) → Option (aMv × Qj)) (hgo0 : Mk bx0 r go0) (x1 x2 : Int) (j l : Int) (ad : Bool) (x0 : Qj) (m p q : List Int) (s : List (List aMv)) (u b : List Int) (v w w0_2aa : Value) (y aa : Nat) (ab af : Value) (h : Wi K go0 x1 x2 j l ad x0 m p q s u b = some r) : T tp 109 (ca [1,1,1,1,1,0,1,0,0,1,0,0,1,1,1,1,1,1,0,1,1] Try.f52) ⟨[(0, .ptr bx0 0), (1, .int .i64 x1), (2, .int .i64 x2), (8, .ptr y 0), (9, .ptr aa 0), (10, .int .u8 j), (11, .c (.ex ab)), (12, .c (.ex af)), (13, .int .i64 l), (15, .bool ad)], [(Yf bx0 x0.g.First x0.g.P v x0.a.Split.Of x0.a.Split.Many w w0_2aa x0.e), .arrA v 3 1 (mI x0.number), .arrA w 42 2 (mA x0.a.Counts), .arrX w0_2aa 59 4 0 (x0.a.States.map Q0), (b63x9 y (0:Int) (.slice none 0 0)), (Zw aa m p q s), .arrA ab 3 1 (mI u), .arrA af 5 1 (mU b)]⟩ (Hz bx0 r) := by
 unfold Wi at h
 refine T.seq (Qq ?_)
 refine mw rfl ?_
 refine aw rfl ?_
 refine TL'.nil (tN ?_)
 rcases Qd h with ⟨ac, h⟩ | ⟨ac, h⟩
 refine Qk rfl ac ?_
 refine Qq ?_
 refine mw rfl ?_
 refine sp rfl (OpT.buildSlice (elems := ([(1:Int)] : List Int).map (cI .u8)) rfl (dk rfl) Xg i5 (by decide) rfl (J6 rfl) rfl rfl rfl (Yp rfl) (by decide) ?_)
 obtain ⟨ag, h⟩ := Zh h
 refine sp rfl (Za (i := 7) (xs := b) (ys := [(1:Int)]) (f := (cI .u8)) rfl (dk rfl) Xg i5 rfl rfl rfl rfl ag (fun ai => ?_))
 refine aw rfl ?_
 refine TL'.nil (Qe (Qe (tN ?_)))
 refine Qq ?_
 refine mw rfl ?_
 refine sp rfl (Qa rfl rfl (dk rfl) rfl rfl ?_)
 refine aw rfl ?_
 refine TL'.nil (tN ?_)
 refine Qb ?_ (hgo0 x1 x2 j (wI (l + (1:Int))) x0 m p q s u (b ++ [(1:Int)]) v w w0_2aa y aa ab ai h)
 exact tq rfl rfl
 refine Qo rfl ac ?_
 refine Qq ?_
 refine mw rfl ?_
 refine sp rfl (OpT.buildSlice (elems := ([(3:Int)] : List Int).map (cI .u8)) rfl (dk rfl) Xg i5 (by decide) rfl (J6 rfl) rfl rfl rfl (Yp rfl) (by decide) ?_)
 obtain ⟨aj, h⟩ := Zh h
 refine sp rfl (Za (i := 7) (xs := b) (ys := [(3:Int)]) (f := (cI .u8)) rfl (dk rfl) Xg i5 rfl rfl rfl rfl aj (fun al => ?_))
 refine aw rfl ?_
 refine TL'.nil (Qe (Qe (tN ?_)))
 refine Qq ?_
 refine mw rfl ?_
 refine sp rfl (Qa rfl rfl (dk rfl) rfl rfl ?_)
 refine aw rfl ?_
 refine TL'.nil (tN ?_)
 refine Qb ?_ (hgo0 x1 x2 j (wI (l + (1:Int))) x0 m p q s u (b ++ [(3:Int)]) v w w0_2aa y aa ab al h)
 exact tq rfl rfl
theorem Mm {r : aMv × Qj} (K bx0 : Nat) (go0 : Int → Int → Int → Int → Qj → (List Int) → (List Int) → (List Int) → (List (List aMv)) → (List Int) → (List Int) → Option (aMv × Qj)) (hgo0 : Mk bx0 r go0) (x1 x2 : Int) (m b : Int) (al af : Bool) (x0 : Qj) (p q s : List Int) (u : List (List aMv)) (j l : List Int) (w y w0_1aa : Value) (aa ab : Nat) (am ac : Value) (h : Wj K go0 x1 x2 m b al af x0 p q s u j l = some r) : T tp 109 (ca [1,1,1,1,1,0,1,0,0,1,0,0,1,1,1,0,1,1] Try.f52) ⟨[(0, .ptr bx0 0), (1, .int .i64 x1), (2, .int .i64 x2), (8, .ptr aa 0), (9, .ptr ab 0), (10, .int .u8 m), (11, .c (.ex am)), (12, .c (.ex ac)), (13, .int .i64 b), (14, .bool al), (15, .bool af)], [(Yf bx0 x0.g.First x0.g.P w x0.a.Split.Of x0.a.Split.Many y w0_1aa x0.e), .arrA w 3 1 (mI x0.number), .arrA y 42 2 (mA x0.a.Counts), .arrX w0_1aa 59 4 0 (x0.a.States.map Q0), (b63x9 aa (0:Int) (.slice none 0 0)), (Zw ab p q s u), .arrA am 3 1 (mI j), .arrA ac 5 1 (mU l)]⟩ (Gj bx0 r) := by
 unfold Wj at h
 refine T.skip (tN ?_)
 refine T.seq (Qq ?_)
 refine mw rfl ?_
 refine mw rfl ?_
 refine sp rfl (OpT.buildSlice (elems := ([b] : List Int).map (cI .i64)) rfl (dk rfl) Yd i3 (by decide) rfl (J6 rfl) rfl rfl rfl (Yp rfl) (by decide) ?_)
 obtain ⟨an, h⟩ := Zh h
 refine sp rfl (Za (i := 6) (xs := j) (ys := [b]) (f := (cI .i64)) rfl (dk rfl) Yd i3 rfl rfl rfl rfl an (fun ag => ?_))
 refine aw rfl ?_
 refine TL'.nil (tN ?_)
 refine T.seq ?_
 refine T.seq (Qq ?_)
 refine mw rfl ?_
 refine sp rfl (OpT.nilCheck rfl (dk rfl) rfl rfl ?_)
 refine sp rfl (Qg rfl (dk rfl) Fg rfl i56 (by decide) rfl ?_)
 refine sp rfl (Zm (Qm (i := 0) rfl (dk rfl) Yd rfl rfl rfl rfl rfl) (Ke 79 1 rfl) ?_)
 refine mw rfl ?_
 obtain ⟨ap, aq, h⟩ := bind_some h
 refine sp rfl (Qh (xs := x0.number) (f := (cI .i64)) (v := ap) rfl (dk rfl) Yd i3 rfl rfl aq ?_)
 refine sp rfl (Qr rfl (dk rfl) ul3 rfl rfl rfl ?_)
 refine sp rfl (Qa rfl rfl (dk rfl) rfl rfl ?_)
 refine TL'.nil (tN ?_)
 rcases Qd h with ⟨ai, h⟩ | ⟨ai, h⟩
 refine Qk rfl ai ?_
 refine T.exit (Qf (Qp (tN ?_)))
 refine Qq ?_
 refine mw rfl ?_
 refine sp rfl (Qa rfl rfl (dk rfl) rfl rfl ?_)
 refine aw rfl ?_
 refine TL'.nil (tN ?_)
 refine Qb ?_ (hgo0 x1 x2 m (wI (b + (1:Int))) x0 p q s u (j ++ [b]) l w y w0_1aa aa ab ag ac h)
 exact tq rfl rfl
 refine Qo rfl ai ?_
 refine T.skip (tN ?_)
 refine T.block ?_
 refine T.seq (Qq ?_)
 refine mw rfl ?_
 refine mw rfl ?_
 rcases Qd h with ⟨ad, h⟩ | ⟨ad, h⟩
 refine sn rfl ad (OpT.move rfl (dk rfl) rfl ?_)
 refine sp rfl (Qi rfl (dk rfl) rfl ad rfl ?_)
 refine aw rfl ?_
 refine TL'.nil (tN ?_)
 rcases Qd h with ⟨aj, h⟩ | ⟨aj, h⟩
 refine Qk rfl aj ?_
 refine Qq ?_
 refine mw rfl ?_
 refine sp rfl (OpT.buildSlice (elems := ([(2:Int)] : List Int).map (cI .u8)) rfl (dk rfl) Xg i5 (by decide) rfl (J6 rfl) rfl rfl rfl (Yp rfl) (by decide) ?_)
 obtain ⟨au, h⟩ := Zh h
 refine sp rfl (Za (i := 7) (xs := l) (ys := [(2:Int)]) (f := (cI .u8)) rfl (dk rfl) Xg i5 rfl rfl rfl rfl au (fun av => ?_))
 refine aw rfl ?_
 refine TL'.nil (Qe (Qe (tN ?_)))
 refine Qq ?_
 refine mw rfl ?_
 refine sp rfl (Qa rfl rfl (dk rfl) rfl rfl ?_)
 refine aw rfl ?_
 refine TL'.nil (tN ?_)
 refine Qb ?_ (hgo0 x1 x2 m (wI (b + (1:Int))) x0 p q s u (j ++ [b]) (l ++ [(2:Int)]) w y w0_1aa aa ab ag av h)
 exact tq rfl rfl
 refine Qo rfl aj ?_
 refine Qc ?_ (Ml K bx0 go0 hgo0 x1 x2 m b af x0 p q s u (j ++ [b]) l w y w0_1aa aa ab ag ac h)
 exact tq rfl rfl
 refine pf rfl ad ?_
 refine sp rfl (Qs rfl (dk rfl) rfl ad rfl ?_)
 refine aw rfl ?_
 refine TL'.nil (tN ?_)
 refine Qo rfl rfl ?_
 refine Qc ?_ (Ml K bx0 go0 hgo0 x1 x2 m b af x0 p q s u (j ++ [b]) l w y w0_1aa aa ab ag ac h)
 exact tq rfl rfl
theorem Oh {r : aMv × Qj} (K bx0 : Nat) : ∀ (k : Nat), ∀ (x1 x2 : Int) (y aa : Int) (x0 : Qj) (j m p : List Int) (q : List (List aMv)) (u b : List Int) (ab ac w0_0aa : Value) (ad af : Nat) (ag s : Value), Yo K k x1 x2 y aa x0 j m p q u b = some r → TL tp 109 (ca [1,1,1,1,1,0,1,0,0] Try.f52) ⟨[(0, .ptr bx0 0), (1, .int .i64 x1), (2, .int .i64 x2), (8, .ptr ad 0), (9, .ptr af 0), (10, .int .u8 y), (11, .c (.ex ag)), (12, .c (.ex s)), (13, .int .i64 aa)], [(Yf bx0 x0.g.First x0.g.P ab x0.a.Split.Of x0.a.Split.Many ac w0_0aa x0.e), .arrA ab 3 1 (mI x0.number), .arrA ac 42 2 (mA x0.a.Counts), .arrX w0_0aa 59 4 0 (x0.a.States.map Q0), (b63x9 ad (0:Int) (.slice none 0 0)), (Zw af j m p q), .arrA ag 3 1 (mI u), .arrA s 5 1 (mU b)]⟩ (X1 bx0 r) := by
 intro k
 induction k with
 | zero =>
  intro x1 x2 y aa x0 j m p q u b ab ac w0_0aa ad af ag s h
  cases (show (none : Option (aMv × Qj)) = some r from h)
 | succ k ih =>
  intro x1 x2 y aa x0 j m p q u b ab ac w0_0aa ad af ag s h
  rw [Yo] at h
  refine Q4 ?_
  refine T.seq ?_
  refine T.seq (Qq ?_)
  refine mw rfl ?_
  refine mw rfl ?_
  refine sp rfl (OpT.nilCheck rfl (dk rfl) rfl rfl ?_)
  refine sp rfl (Qg rfl (dk rfl) Fg rfl i71 (by decide) rfl ?_)
  refine sp rfl (Qg rfl (dk rfl) ul71 rfl i69 (by decide) rfl ?_)
  refine sp rfl (Qm (i := 0) rfl (dk rfl) Sk rfl rfl rfl rfl ?_)
  refine sp rfl (Qn (xs := x0.g.P) (f := Zk) rfl (dk rfl) Sk rfl ?_)
  refine sp rfl (Qa rfl rfl (dk rfl) rfl rfl ?_)
  refine TL'.nil (tN ?_)
  rcases Qd h with ⟨al, h⟩ | ⟨al, h⟩
  refine Qk rfl al ?_
  refine T.skip (tN ?_)
  refine T.seq ?_
  refine T.block ?_
  refine T.seq ?_
  refine T.seq (Qq ?_)
  refine mw rfl ?_
  refine sp rfl (OpT.nilCheck rfl (dk rfl) rfl rfl ?_)
  refine sp rfl (Qg rfl (dk rfl) Fg rfl i71 (by decide) rfl ?_)
  refine sp rfl (Qg rfl (dk rfl) ul71 rfl i69 (by decide) rfl ?_)
  refine sp rfl (Qm (i := 0) rfl (dk rfl) Sk rfl rfl rfl rfl ?_)
  refine mw rfl ?_
  obtain ⟨az, a0, h⟩ := bind_some h
  refine sp rfl (Qh (xs := x0.g.P) (f := Zk) (v := az) rfl (dk rfl) Sk i104 rfl rfl a0 ?_)
  refine sp rfl (Z4 rfl (dk rfl) Ed rfl i102 (by decide) rfl ?_)
  refine sp rfl (Zj rfl (dk rfl) Cw rfl i102 rfl (nb rfl) ?_)
  refine mw rfl ?_
  obtain ⟨a5, a1, h⟩ := bind_some h
  refine sp rfl (Q5 rfl (dk rfl) Try.func72 rfl rfl (Q3.cons rfl (Q3.cons rfl Q3.nil)) (Zt.nil (Jc K a1)) ?_)
  refine sp rfl (OpT.not rfl (dk rfl) rfl ?_)
  refine TL'.nil (tN ?_)
  rcases Qd h with ⟨am, h⟩ | ⟨am, h⟩
  refine Qk rfl am ?_
  refine T.exit (Qf (Qp (tN ?_)))
  refine Qq ?_
  refine mw rfl ?_
  refine sp rfl (Qa rfl rfl (dk rfl) rfl rfl ?_)
  refine aw rfl ?_
  refine TL'.nil (tN ?_)
  refine Qb ?_ (ih x1 x2 y (wI (aa + (1:Int))) x0 j m p q u b ab ac w0_0aa ad af ag s h)
  exact tq rfl rfl
  refine Qo rfl am ?_
  refine T.skip (tN ?_)
  refine T.seq (Qq ?_)
  refine mw rfl ?_
  refine mw rfl ?_
  refine sp rfl (Ze (i := 5) (l := [.sl false 1 (mI j), .sl false 1 (mI m), .sl false 1 (mI p), .sl false 1 (q.map (cL 2 Qu))]) rfl (dk rfl) Vm rfl i59 rfl rfl rfl rfl ?_)
  refine mw rfl ?_
  refine mw rfl ?_
  obtain ⟨av, a2, h⟩ := bind_some h
  refine sp rfl (Q2 (is := [0, 1, 2, 3]) (ph := []) rfl (dk rfl) Try.func73 rfl rfl (Q3.cons rfl (Q3.cons rfl (Q3.cons rfl (Q3.cons rfl (Q3.cons rfl Q3.nil))))) (P4 K (bx0 := bx0) (wx0c1 := ab) (wx0c2c1 := ac) (wx0c2c2 := w0_0aa) a2) (.cons rfl rfl (.cons rfl rfl (.cons rfl rfl (.cons rfl rfl (.nil))))) (fun _ => rfl) (fun an => ?_))
  refine nm (.c (.c (.c (.c (.c (.c (.c (.c (.n))))))))) ?_
  refine aw rfl ?_
  refine TL'.nil (tN (T.seq (Qq ?_)))
  refine mw rfl ?_
  refine sp rfl (Ze (i := 5) (l := [.sl false 1 (mI j), .sl false 1 (mI m), .sl false 1 (mI p), .sl false 1 (q.map (cL 2 Qu))]) rfl (dk rfl) Vm rfl i59 rfl rfl rfl rfl ?_)
  refine mw rfl ?_
  refine mw rfl ?_
  obtain ⟨ay, a3, h⟩ := bind_some h
  refine sp rfl (Q2 (is := [0, 1, 2, 3]) (ph := []) rfl (dk rfl) Try.func74 rfl rfl (Q3.cons rfl (Q3.cons rfl (Q3.cons rfl (Q3.cons rfl Q3.nil)))) (R6 K (bx0 := bx0) (wx0c1 := (an 0)) (wx0c2c1 := (an 1)) (wx0c2c2 := (an 2)) a3) (.cons rfl rfl (.cons rfl rfl (.cons rfl rfl (.cons rfl rfl (.nil))))) (fun _ => rfl) (fun w => ?_))
  refine nm (.c (.c (.c (.c (.c (.c (.c (.c (.n))))))))) ?_
  refine aw rfl ?_
  refine TL'.nil (tN ?_)
  refine T.seq ?_
  refine T.seq (Qq ?_)
  refine mw rfl ?_
  refine sp rfl (OpT.not rfl (dk rfl) rfl ?_)
  refine mw rfl ?_
  rcases Qd h with ⟨ai, h⟩ | ⟨ai, h⟩
  refine sn rfl ai (OpT.move rfl (dk rfl) rfl ?_)
  refine sn rfl ai (OpT.not rfl (dk rfl) rfl ?_)
  refine sp rfl (Qi rfl (dk rfl) rfl ai rfl ?_)
  refine TL'.nil (tN ?_)
  rcases Qd h with ⟨ap, h⟩ | ⟨ap, h⟩
  refine Qk rfl ap ?_
  refine T.exit (Qf (Qp (tN ?_)))
  refine Qq ?_
  refine mw rfl ?_
  refine sp rfl (Qa rfl rfl (dk rfl) rfl rfl ?_)
  refine aw rfl ?_
  refine TL'.nil (tN ?_)
  refine Qb ?_ (ih x1 x2 y (wI (aa + (1:Int))) x0 j m p q u b (w 0) (w 1) (w 2) ad af ag s h)
  exact tq rfl rfl
  refine Qo rfl ap ?_
  refine Qc ?_ (Mm K bx0 (Yo K k) ih x1 x2 y aa av ay x0 j m p q u b (w 0) (w 1) (w 2) ad af ag s h)
  exact tq rfl rfl
  refine pf rfl ai ?_
  refine pf rfl ai ?_
  refine sp rfl (Qs rfl (dk rfl) rfl ai rfl ?_)
  refine TL'.nil (tN ?_)
  refine Qo rfl rfl ?_
  refine Qc ?_ (Mm K bx0 (Yo K k) ih x1 x2 y aa av ay x0 j m p q u b (w 0) (w 1) (w 2) ad af ag s h)
  exact tq rfl rfl
  refine Qo rfl al ?_
  refine T.exit (Qf (Qf (Qp (tN ?_))))
  refine T.seq ?_
  refine T.seq (Qq ?_)
  refine mw rfl ?_
  refine sp rfl (Ec (i := 6) (xs := u) (f := (cI .i64)) rfl (dk rfl) Yd rfl rfl ?_)
  refine sp rfl (Qa rfl rfl (dk rfl) rfl rfl ?_)
  refine TL'.nil (tN ?_)
  rcases Qd h with ⟨aq, h⟩ | ⟨aq, h⟩
  refine Qk rfl aq ?_
  refine T.seq (Qq ?_)
  refine sp rfl (Zm (OpT.build (l := [.int .i64 (-1:Int), .ex (.slice none 0 0)]) rfl (dk rfl) (Zr (pl := [(0, 1), (1, 1)]) Kg i63 rfl) (J6 rfl) rfl rfl rfl) (Zz 103 (l := [.int .i64 (-1:Int), .ex (.slice none 0 0)]) (l' := [.int .i64 (-1:Int), .sl false 1 (([] : List Int).map (cI .u8))]) (.cons (.same _) (.cons (.nil _ _) (.refl _)))) ?_)
  refine sp rfl (Q1 (i := 4) (cells' := [.d (.int .i64 (-1:Int)), .d (.sl false 1 (([] : List Int).map (cI .u8)))]) rfl rfl i63 rfl rfl rfl rfl (nb rfl) rfl ?_)
  refine TL'.nil (tN ?_)
  refine T.ret (Ql ?_)
  exact Q6 (.cons _ _ _ _ (.cellAgg 8 63 _ 0 4 63 _ [.int .i64 (-1:Int), .sl false 1 (([] : List Int).map (cI .u8))] _ _ 2 _ rfl rfl rfl rfl Kg rfl i63) .nil) (.cons 0 rfl (.cons 0 rfl (.cons 0 rfl (.cons 0 rfl (.nil _))))) (by cases h; exact ⟨gl [ab, ac, w0_0aa], rfl, rfl⟩)
  refine Qo rfl aq ?_
  refine T.skip (tN ?_)
  refine T.seq (Qq ?_)
  refine mw rfl ?_
  refine mw rfl ?_
  obtain ⟨aj, a4, h⟩ := bind_some h
  refine sp rfl (Q2 (is := [0, 1, 2, 3]) (ph := []) rfl (dk rfl) Try.func75 rfl rfl (Q3.cons rfl (Q3.view (i := 6) rfl rfl Q3.nil)) (S9 K (bx0 := bx0) (wx0c1 := ab) (wx0c2c1 := ac) (wx0c2c2 := w0_0aa) (flx1 := false) a4) (.cons rfl rfl (.cons rfl rfl (.cons rfl rfl (.cons rfl rfl (.nil))))) (fun _ => rfl) (fun au => ?_))
  refine nm (.c (.c (.c (.c (.c (.c (.c (.c (.n))))))))) ?_
  refine mw rfl ?_
  refine sp rfl (Zm (OpT.build (l := [.int .i64 aj.1, .ex s]) rfl (dk rfl) (Zr (pl := [(0, 1), (1, 1)]) Kg i63 rfl) (J6 rfl) rfl rfl rfl) (Zz 108 (l := [.int .i64 aj.1, .ex s]) (l' := [.int .i64 aj.1, .sl false 1 (mU b)]) (.cons (.same _) (.cons (.view 7 rfl) (.refl _)))) ?_)
  refine sp rfl (Q1 (i := 4) (cells' := [.d (.int .i64 aj.1), .d (.sl false 1 (mU b))]) rfl rfl i63 rfl rfl rfl rfl (nb rfl) rfl ?_)
  refine TL'.nil (tN ?_)
  refine T.ret ?_
  exact Q6 (.cons _ _ _ _ (.cellAgg 8 63 _ 0 4 63 _ [.int .i64 aj.1, .sl false 1 (mU b)] _ _ 2 _ rfl rfl rfl rfl Kg rfl i63) .nil) (.cons 0 rfl (.cons 0 rfl (.cons 0 rfl (.cons 0 rfl (.nil _))))) (by cases h; exact ⟨gl [au 0, au 1, au 2], rfl, rfl⟩)
theorem S8 (K : Nat) {x0 : Qj} {x1 x2 x3 : Int} {bx0 : Nat} {wx0c1 wx0c2c1 wx0c2c2 : Value} {r : aMv × Qj} (h : Br K x0 x1 x2 x3 = some r) : Uz tp 52 [.ptr bx0 0, .int .i64 x1, .int .i64 x2, .int .i64 x3] [(Yf bx0 x0.g.First x0.g.P wx0c1 x0.a.Split.Of x0.a.Split.Many wx0c2c1 wx0c2c2 x0.e), .arrA wx0c1 3 1 (mI x0.number), .arrA wx0c2c1 42 2 (mA x0.a.Counts), .arrX wx0c2c2 59 4 0 (x0.a.States.map Q0)] (fun γ => (.agg [.int .i64 r.1.To, .sl false 1 (mU r.1.Ops)])) (fun γ => [(Yf bx0 r.2.g.First r.2.g.P (γ 0) r.2.a.Split.Of r.2.a.Split.Many (γ 1) (γ 2) r.2.e), .arrA (γ 0) 3 1 (mI r.2.number), .arrA (γ 1) 42 2 (mA r.2.a.Counts), .arrX (γ 2) 59 4 0 (r.2.a.States.map Q0)]) := by
 refine Qt Try.func52 rfl (nb rfl) ?_
 show T tp 109 (ca [] Try.f52) ⟨Qv 0 [.ptr bx0 0, .int .i64 x1, .int .i64 x2, .int .i64 x3], [(Yf bx0 x0.g.First x0.g.P wx0c1 x0.a.Split.Of x0.a.Split.Many wx0c2c1 wx0c2c2 x0.e), .arrA wx0c1 3 1 (mI x0.number), .arrA wx0c2c1 42 2 (mA x0.a.Counts), .arrX wx0c2c2 59 4 0 (x0.a.States.map Q0)]⟩ (L4 bx0 r)
 unfold Br at h
 refine T.seq (Qq ?_)
 refine sp rfl (Zi rfl (dk rfl) i63 rfl (fun p => ?_))
 refine TL'.nil (tN (T.seq (Qq ?_)))
 refine mw rfl ?_
 refine sp rfl (OpT.nilCheck rfl (dk rfl) rfl rfl ?_)
 refine sp rfl (Qg rfl (dk rfl) Fg rfl i28 (by decide) rfl ?_)
 refine sp rfl (Qg rfl (dk rfl) Xe rfl i26 (by decide) rfl ?_)
 refine sp rfl (Qm (i := 1) rfl (dk rfl) X5 rfl rfl rfl rfl ?_)
 refine mw rfl ?_
 obtain ⟨b, j, h⟩ := bind_some h
 refine sp rfl (Uy (n := 4) (xs := x0.a.States) (f := Q0) (old := b) rfl (dk rfl) X5 i59 rfl rfl rfl j ?_)
 refine sp rfl (Fc (i := 4) (xs := x0.a.States) (f := Q0) (old := b) (l := [.sl false 1 (mI b.L), .sl false 1 (mI b.R), .sl false 1 (mI b.Rule), .sl false 1 (b.Next.map (cL 2 Qu))]) rfl (dk rfl) Vm rfl i59 rfl rfl (Z0 j).2 rfl rfl ?_)
 refine sp rfl (Zi rfl (dk rfl) i59 rfl (fun q => ?_))
 refine sp rfl (Q1 (i := 0) (cells' := [.d (.sl false 1 (mI b.L)), .d (.sl false 1 (mI b.R)), .d (.sl false 1 (mI b.Rule)), .d (.sl false 1 (b.Next.map (cL 2 Qu)))]) rfl rfl i59 rfl rfl rfl rfl (nb rfl) rfl ?_)
 refine TL'.nil (tN (T.seq (Qq ?_)))
 refine mw rfl ?_
 refine sp rfl (OpT.nilCheck rfl (dk rfl) rfl rfl ?_)
 refine sp rfl (Qg rfl (dk rfl) Fg rfl i28 (by decide) rfl ?_)
 refine sp rfl (Qg rfl (dk rfl) Xe rfl i24 (by decide) rfl ?_)
 refine sp rfl (Ze (i := 2) (l := ((Qx.dc 256 .u8 x0.a.Split.Of) ++ (([.int .i64 x0.a.Split.Many] : List DC)))) rfl (dk rfl) Ig rfl i24 rfl rfl rfl rfl ?_)
 obtain ⟨u, w, h⟩ := bind_some h
 refine sp rfl (Q5 rfl (dk rfl) Try.func71 rfl rfl (Q3.cons rfl Q3.nil) (Zt.nil (Pr K w)) ?_)
 refine mw rfl ?_
 obtain ⟨m, y, h⟩ := bind_some h
 refine sp rfl (Qh (xs := u) (f := (cI .u8)) (v := m) rfl (dk rfl) Xg i5 rfl rfl y ?_)
 refine sp rfl (Qr rfl (dk rfl) ul5 rfl rfl rfl ?_)
 refine aw rfl ?_
 refine TL'.nil (tN (T.seq (Qq ?_)))
 refine aw rfl ?_
 refine TL'.nil (tN (T.seq (Qq ?_)))
 refine aw rfl ?_
 refine TL'.nil (tN ?_)
 refine T.seq ?_
 refine T.seq (Qq ?_)
 refine aw rfl ?_
 refine TL'.nil (tN ?_)
 refine T.block ?_
 refine T.loop ?_
 refine Qb (Yc 3 1) ?_
 refine Qb (Yc 5 1) ?_
 refine Qb ?_ (Oh K bx0 K x1 x2 m (0:Int) x0 b.L b.R b.Rule b.Next [] [] wx0c1 wx0c2c1 wx0c2c2 p q (Mn 3) (Mn 4) h)
 exact tr rfl (.c (.s (.s (.s (.s .z)))) (.c (.s (.s (.s (.s .z)))) (.c (.s (.s (.s (.s .z)))) (.c (.s (.s (.s (.s .z)))) (.c (.s (.s (.s .z))) (.c (.s (.s .z)) (.c (.s .z) (.c .z (.n _)))))))))
end Go.Rv

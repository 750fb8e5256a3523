/- Each function computes what its plain text says: printed by a program of ours. -/
import Derived.Test.YtcmfaclkgdmpbaaGreatDoorRgW6
namespace Go.Rv
open Go.Proofs
set_option maxRecDepth 100000
set_option maxHeartbeats 4000000
set_option linter.unusedVariables false
abbrev H6 (bx0 : Nat) (r : Qu × Qk) : ES := J9 tp Tryz.f106 (fun y t => ∃ γ : Nat → Value, y = (.agg [.bool r.1.null, .sl false 1 (mI r.1.first), .sl false 1 (mI r.1.last)]) ∧ t = [(Jv bx0 (γ 0)), .arrX (γ 0) 65 9 0 (r.2.p.map Q1)])
abbrev Ig (bx0 : Nat) (r : Qu × Qk) : ES := thenS (fun s' => T tp 52 (ca [1,1,1] Tryz.f106) s' ((H6 bx0 r))) ((H6 bx0 r))
abbrev X4 (bx0 : Nat) (r : Qu × Qk) : ES := Qz 0 ((Ig bx0 r))
abbrev Lb (bx0 : Nat) (r : Qu × Qk) : ES := thenS (fun s' => TL tp 52 (ca [1,1,0,1,0,0] Tryz.f106) s' ((X4 bx0 r))) ((X4 bx0 r))
abbrev C2 (bx0 : Nat) (r : Qu × Qk) : ES := thenS (fun s' => T tp 52 (ca [1,1,0,1,0,0,1,1] Tryz.f106) s' ((Lb bx0 r))) ((Lb bx0 r))
abbrev Mr (bx0 : Nat) (r : Qu × Qk) : ES := Qz 1 ((C2 bx0 r))
abbrev Nb (bx0 : Nat) (r : Qu × Qk) (go : (List Qu) → Int → (List Zp) → Bool → (List Int) → (List Int) → Option (Qu × Qk)) : Prop := ∀ (x1 : List Qu) (a : Int) (b : List Zp) (c : Bool) (f g : List Int) (flx1 : Bool) (i : Value) (j l : Nat), go x1 a b c f g = some r → TL tp 52 (ca [1,1,0,1,0,0] Tryz.f106) ⟨[(0, .ptr bx0 0), (1, .sl flx1 3 (x1.map Zk)), (4, .ptr j 0), (5, .ptr l 0), (6, .int .i64 a)], [(Jv bx0 i), .arrX i 65 9 0 (b.map Q1), (o128 j false (.slice none 0 0) (.slice none 0 0)), (Oo l c f g)]⟩ (X4 bx0 r)
theorem Kz {r : Qu × Qk} (K bx0 : Nat) (go0 : (List Qu) → Int → (List Zp) → Bool → (List Int) → (List Int) → Option (Qu × Qk)) (hgo0 : Nb bx0 r go0) (x1 : List Qu) (g : Int) (j : List Zp) (s : Bool) (a u : List Int) (l : Bool) (v b : List Int) (flx1 : Bool) (m : Value) (p q w : Nat) (h : U1 K go0 x1 g j s a u l v b = some r) : T tp 52 (ca [1,1,0,1,0,0,1,0,0,1,1,1] Tryz.f106) ⟨[(0, .ptr bx0 0), (1, .sl flx1 3 (x1.map Zk)), (4, .ptr p 0), (5, .ptr q 0), (6, .int .i64 g), (7, .ptr w 0)], [(Jv bx0 m), .arrX m 65 9 0 (j.map Q1), (o128 p false (.slice none 0 0) (.slice none 0 0)), (Oo q s a u), (Oo w l v b)]⟩ (Mr bx0 r) := by
 unfold U1 at h
 refine T.seq ?_
 refine T.seq (Qr ?_)
 refine oP K2 i4 rfl ?_
 refine oL 4 ul4 rfl ?_
 refine TL'.nil (tN ?_)
 rcases Qd h with ⟨y, h⟩ | ⟨y, h⟩
 cases h
 refine Qp rfl y ?_
 refine Qr ?_
 refine oP K2 i38 rfl ?_
 refine oL 4 Zx rfl ?_
 refine oP K2 i38 rfl ?_
 refine sp rfl (W2 (i := 3) (cells' := [.d (.bool s), .d (.sl false 1 (mI a)), .d (.sl false 1 (mI b))]) rfl rfl i38 rfl rfl rfl (nb rfl) rfl ?_)
 refine TL'.nil (tN ?_)
 refine Qr ?_
 refine oP K2 i4 rfl ?_
 refine oL 3 ul4 rfl ?_
 refine mw rfl ?_
 rcases Qd h with ⟨f, h⟩ | ⟨f, h⟩
 refine sn rfl f (Zs rfl (dk rfl) K2 rfl i4 (by decide) rfl ?_)
 refine sn rfl f (Zn (i := 4) rfl (dk rfl) ul4 rfl rfl rfl rfl ?_)
 refine oY f rfl ?_
 refine oP K2 i4 rfl ?_
 refine sp rfl (W2 (i := 3) (cells' := [.d (.bool l), .d (.sl false 1 (mI a)), .d (.sl false 1 (mI b))]) rfl rfl i4 rfl rfl rfl (nb rfl) rfl ?_)
 refine TL'.nil (Qn (tN ?_))
 refine Qr ?_
 refine mw rfl ?_
 refine oI rfl ?_
 refine aw rfl ?_
 refine TL'.nil (tN ?_)
 refine Qh ?_ (hgo0 x1 (wI (g + (1:Int))) j l a b flx1 m p q h)
 exact tq rfl rfl
 refine pf rfl f ?_
 refine pf rfl f ?_
 refine oZ f rfl ?_
 refine oP K2 i4 rfl ?_
 refine sp rfl (W2 (i := 3) (cells' := [.d (.bool false), .d (.sl false 1 (mI a)), .d (.sl false 1 (mI b))]) rfl rfl i4 rfl rfl rfl (nb rfl) rfl ?_)
 refine TL'.nil (Qn (tN ?_))
 refine Qr ?_
 refine mw rfl ?_
 refine oI rfl ?_
 refine aw rfl ?_
 refine TL'.nil (tN ?_)
 refine Qh ?_ (hgo0 x1 (wI (g + (1:Int))) j false a b flx1 m p q h)
 exact tq rfl rfl
theorem Na {r : Qu × Qk} (K bx0 : Nat) : ∀ (k : Nat), ∀ (x1 : List Qu) (m : Int) (y : List Zp) (a : Bool) (j b : List Int) (flx1 : Bool) (q : Value) (u w : Nat), Yq K k x1 m y a j b = some r → TL tp 52 (ca [1,1,0,1,0,0] Tryz.f106) ⟨[(0, .ptr bx0 0), (1, .sl flx1 3 (x1.map Zk)), (4, .ptr u 0), (5, .ptr w 0), (6, .int .i64 m)], [(Jv bx0 q), .arrX q 65 9 0 (y.map Q1), (o128 u false (.slice none 0 0) (.slice none 0 0)), (Oo w a j b)]⟩ (X4 bx0 r) := by
 intro k
 induction k with
 | zero =>
  intro x1 m y a j b flx1 q u w h
  exact zn h
 | succ k ih =>
  intro x1 m y a j b flx1 q u w h
  rw [Yq] at h
  refine Q6 ?_
  refine T.seq ?_
  refine T.seq (Qr ?_)
  refine mw rfl ?_
  refine mw rfl ?_
  refine oU x1 Zk ul171 rfl ?_
  refine oI rfl ?_
  refine TL'.nil (tN ?_)
  rcases Qd h with ⟨aa, h⟩ | ⟨aa, h⟩
  refine Qq rfl aa ?_
  refine T.skip (tN ?_)
  refine T.seq ?_
  refine T.block ?_
  refine T.seq (Qr ?_)
  refine mw rfl ?_
  refine mw rfl ?_
  obtain ⟨g, ai, h⟩ := bind_some h
  refine oX x1 Zk ul171 i128 ai rfl ?_
  refine sp rfl (Za rfl (dk rfl) K2 rfl i128 rfl (nb rfl) ?_)
  refine sp rfl (Zh rfl (dk rfl) i128 rfl (fun ac => ?_))
  refine sp rfl (Qy (i := 0) (cells' := [.d (.bool g.null), .d (.sl false 1 (mI g.first)), .d (.sl false 1 (mI g.last))]) rfl rfl i128 rfl rfl rfl rfl (nb rfl) rfl ?_)
  refine TL'.nil (tN (T.seq (Qr ?_)))
  refine mw rfl ?_
  refine oP K2 i38 rfl ?_
  refine oL 4 Zx rfl ?_
  refine oP K2 i38 rfl ?_
  refine oL 0 Zx rfl ?_
  obtain ⟨ad, aj, h⟩ := bind_some h
  refine sp rfl (Q8 (is := [1, 2]) (ph := []) rfl (dk rfl) Tryz.func107 rfl rfl (Q5.cons rfl (Q5.cons rfl (Q5.cons rfl Q5.nil))) (Pf K (bx0 := bx0) (wx0c0 := q) (flx1 := false) (flx2 := false) aj) (.cons rfl rfl (.cons rfl rfl (.nil))) (fun _ => rfl) (fun af => ?_))
  refine nm (.c (.c (.c (.c (.c (.n)))))) ?_
  refine TL'.nil (tN ?_)
  refine T.seq ?_
  refine T.seq (Qr ?_)
  refine oP K2 i4 rfl ?_
  refine oL 4 ul4 rfl ?_
  refine TL'.nil (tN ?_)
  rcases Qd h with ⟨ab, h⟩ | ⟨ab, h⟩
  refine Qq rfl ab ?_
  refine Qr ?_
  refine oP K2 i38 rfl ?_
  refine oL 4 Zx rfl ?_
  refine oP K2 i38 rfl ?_
  refine oL 0 Zx rfl ?_
  obtain ⟨ag, al, h⟩ := bind_some h
  refine sp rfl (Q0 rfl (dk rfl) Tryz.func67 rfl rfl (Q5.cons rfl (Q5.cons rfl Q5.nil)) (Zm.nil (Hv K (flx0 := false) (flx1 := false) al)) ?_)
  refine oP K2 i38 rfl ?_
  refine sp rfl (W2 (i := 4) (cells' := [.d (.bool a), .d (.sl false 1 (mI ag)), .d (.sl false 1 (mI b))]) rfl rfl i38 rfl rfl rfl (nb rfl) rfl ?_)
  refine TL'.nil (tN ?_)
  refine Qm ?_ (Kz K bx0 (Yq K k) ih x1 m ad.p a ag b g.null g.first g.last flx1 (af 0) u w ac h)
  exact tr rfl (.c (.s .z) (.c (.s .z) (.c (.s .z) (.c (.s .z) (.c .z (.n _))))))
  refine Qp rfl ab ?_
  refine T.skip (tN ?_)
  refine Qm ?_ (Kz K bx0 (Yq K k) ih x1 m ad.p a j b g.null g.first g.last flx1 (af 0) u w ac h)
  exact tr rfl (.c (.s .z) (.c (.s .z) (.c (.s .z) (.c (.s .z) (.c .z (.n _))))))
  refine Qp rfl aa ?_
  refine T.exit (Qj (Qj (Qs (tN ?_))))
  refine T.seq (Qr ?_)
  refine oA 3 [.bool a, .sl false 1 (mI j), .sl false 1 (mI b)] K2 i128 rfl ?_
  refine sp rfl (Qy (i := 2) (cells' := [.d (.bool a), .d (.sl false 1 (mI j)), .d (.sl false 1 (mI b))]) rfl rfl i128 rfl rfl rfl rfl (nb rfl) rfl ?_)
  refine TL'.nil (tN ?_)
  refine T.ret ?_
  exact Q7 (.cons _ _ _ _ (.cellAgg 4 128 _ 0 2 128 _ [.bool a, .sl false 1 (mI j), .sl false 1 (mI b)] _ _ 3 _ rfl rfl rfl rfl K2 rfl i128) .nil) (.cons 0 rfl (.cons 0 rfl (.nil _))) (by cases h; exact ⟨gl [q], rfl, rfl⟩)
theorem P7 (K : Nat) {x0 : Qk} {x1 : List Qu} {bx0 : Nat} {wx0c0 : Value} {flx1 : Bool} {r : Qu × Qk} (h : Lw K x0 x1 = some r) : U7 tp 106 [.ptr bx0 0, .sl flx1 3 (x1.map Zk)] [(Jv bx0 wx0c0), .arrX wx0c0 65 9 0 (x0.p.map Q1)] (fun γ => (.agg [.bool r.1.null, .sl false 1 (mI r.1.first), .sl false 1 (mI r.1.last)])) (fun γ => [(Jv bx0 (γ 0)), .arrX (γ 0) 65 9 0 (r.2.p.map Q1)]) := by
 refine Qt Tryz.func106 rfl (nb rfl) ?_
 show T tp 52 (ca [] Tryz.f106) ⟨Qw 0 [.ptr bx0 0, .sl flx1 3 (x1.map Zk)], [(Jv bx0 wx0c0), .arrX wx0c0 65 9 0 (x0.p.map Q1)]⟩ (H6 bx0 r)
 unfold Lw at h
 refine T.seq (Qr ?_)
 refine sp rfl (Zh rfl (dk rfl) i128 rfl (fun a => ?_))
 refine TL'.nil (tN (T.seq (Qr ?_)))
 refine sp rfl (Zq (OpT.build (l := [.bool true, .ex (.slice none 0 0), .ex (.slice none 0 0)]) rfl (dk rfl) (Zv (pl := [(0, 1), (1, 1), (2, 1)]) K2 i128 rfl) (M1 rfl) rfl rfl rfl) (Ye 8 (l := [.bool true, .ex (.slice none 0 0), .ex (.slice none 0 0)]) (l' := [.bool true, .sl false 1 (([] : List Int).map (cI .i64)), .sl false 1 (([] : List Int).map (cI .i64))]) (.cons (.same _) (.cons (.nil _ _) (.cons (.nil _ _) (.refl _))))) ?_)
 refine sp rfl (Zh rfl (dk rfl) i128 rfl (fun b => ?_))
 refine sp rfl (Qy (i := 0) (cells' := [.d (.bool true), .d (.sl false 1 (([] : List Int).map (cI .i64))), .d (.sl false 1 (([] : List Int).map (cI .i64)))]) rfl rfl i128 rfl rfl rfl rfl (nb rfl) rfl ?_)
 refine TL'.nil (tN ?_)
 refine T.seq ?_
 refine T.seq (Qr ?_)
 refine aw rfl ?_
 refine TL'.nil (tN ?_)
 refine T.block ?_
 refine T.loop ?_
 refine Qh ?_ (Na K bx0 K x1 (0:Int) x0.p true [] [] flx1 wx0c0 a b h)
 exact tr rfl (.c (.s (.s .z)) (.c (.s (.s .z)) (.c (.s .z) (.c .z (.n _)))))
abbrev P5 (bx0 : Nat) (r : Qu × Qk) : ES := J9 tp Tryz.f105 (fun y t => ∃ γ : Nat → Value, y = (.agg [.bool r.1.null, .sl false 1 (mI r.1.first), .sl false 1 (mI r.1.last)]) ∧ t = [(Jv bx0 (γ 0)), .arrX (γ 0) 65 9 0 (r.2.p.map Q1)])
theorem P6 (K : Nat) {x0 : Qk} {x1 : Zp} {bx0 : Nat} {wx0c0 : Value} {r : Qu × Qk} (h : Lv K x0 x1 = some r) : U7 tp 105 [.ptr bx0 0, .agg [.int .u64 x1.S.a0, .int .u64 x1.S.a1, .int .u64 x1.S.a2, .int .u64 x1.S.a3, .int .i64 x1.Lo, .int .i64 x1.Hi, .int .i64 x1.Rule, .bool x1.Last, .sl false 1 (mI x1.Next)]] [(Jv bx0 wx0c0), .arrX wx0c0 65 9 0 (x0.p.map Q1)] (fun γ => (.agg [.bool r.1.null, .sl false 1 (mI r.1.first), .sl false 1 (mI r.1.last)])) (fun γ => [(Jv bx0 (γ 0)), .arrX (γ 0) 65 9 0 (r.2.p.map Q1)]) := by
 refine Qt Tryz.func105 rfl (nb rfl) ?_
 show T tp 26 (ca [] Tryz.f105) ⟨Qw 0 [.ptr bx0 0, .agg [.int .u64 x1.S.a0, .int .u64 x1.S.a1, .int .u64 x1.S.a2, .int .u64 x1.S.a3, .int .i64 x1.Lo, .int .i64 x1.Hi, .int .i64 x1.Rule, .bool x1.Last, .sl false 1 (mI x1.Next)]], [(Jv bx0 wx0c0), .arrX wx0c0 65 9 0 (x0.p.map Q1)]⟩ (P5 bx0 r)
 unfold Lv at h
 refine T.seq (Qr ?_)
 refine sp rfl (Zb rfl (dk rfl) rfl (fun b => ?_))
 refine sp rfl (Zh rfl (dk rfl) i128 rfl (fun g => ?_))
 refine TL'.nil (tN ?_)
 refine T.seq ?_
 refine Qm (Lq 0 (l := [.bool false, .ex (.slice none 0 0), .ex (.slice none 0 0)]) (l' := [.bool false, .sl false 1 (([] : List Int).map (cI .i64)), .sl false 1 (([] : List Int).map (cI .i64))]) rfl (.cons (.same _) (.cons (.nil _ _) (.cons (.nil _ _) (.refl _))))) ?_
 refine Qm Y4 ?_
 refine H1 ?_
 refine dC (c := ⟨some 6, .ptr bx0 0, [(0, .ptr bx0 0)], [], []⟩) (fun t hm => oF rfl rfl (OpT.move rfl (dk rfl) hm.s0 ⟨u0, rfl⟩)) (fun _ => rfl) (fun _ => rfl) ?_
 refine dC (c := ⟨some 7, .ptr bx0 0, [(0, .ptr bx0 0)], [], []⟩) (fun t hm => oF rfl rfl (OpT.move rfl (dk rfl) hm.s0 ⟨u0, rfl⟩)) (fun _ => rfl) (fun _ => rfl) ?_
 refine dC (c := ⟨some 8, .ptr bx0 0, [(7, .ptr bx0 0)], [], []⟩) (fun t hm => oF rfl rfl (OpT.nilCheck rfl (dk rfl) hm.s0 rfl ⟨u0, rfl⟩)) (fun _ => rfl) (fun _ => rfl) ?_
 refine dC (c := ⟨some 9, .ptr bx0 (0 + 0), [(8, .ptr bx0 0)], [], []⟩) (fun t hm => oF rfl rfl (Zs rfl (dk rfl) ul126 rfl i41 (by decide) hm.s0 ⟨u0, rfl⟩)) (fun _ => rfl) (fun _ => rfl) ?_
 refine dC (c := ⟨some 10, .c (.ex wx0c0), [(9, .ptr bx0 (0 + 0))], [(3, (Jv bx0 wx0c0))], []⟩) (fun t hm => oF rfl rfl (Zn (i := 3) rfl (dk rfl) Tu rfl hm.s0 hm.o0 rfl ⟨u0, rfl⟩)) (fun _ => rfl) (fun _ => rfl) ?_
 refine dC (c := ⟨some 11, .agg [.int .u64 x1.S.a0, .int .u64 x1.S.a1, .int .u64 x1.S.a2, .int .u64 x1.S.a3, .int .i64 x1.Lo, .int .i64 x1.Hi, .int .i64 x1.Rule, .bool x1.Last, .sl false 1 (mI x1.Next)], [(3, .ptr b 0)], [(2, .box b 65 [.d (.int .u64 x1.S.a0), .d (.int .u64 x1.S.a1), .d (.int .u64 x1.S.a2), .d (.int .u64 x1.S.a3), .d (.int .i64 x1.Lo), .d (.int .i64 x1.Hi), .d (.int .i64 x1.Rule), .d (.bool x1.Last), .d (.sl false 1 (mI x1.Next))])], []⟩) (fun t hm => oF rfl rfl (Uh (i := 2) (l := [.int .u64 x1.S.a0, .int .u64 x1.S.a1, .int .u64 x1.S.a2, .int .u64 x1.S.a3, .int .i64 x1.Lo, .int .i64 x1.Hi, .int .i64 x1.Rule, .bool x1.Last, .sl false 1 (mI x1.Next)]) rfl (dk rfl) ul65 rfl i65 hm.s0 hm.o0 rfl rfl ⟨u0, rfl⟩)) (fun _ => rfl) (fun _ => rfl) ?_
 refine dC (c := ⟨some 12, .sl true 9 ([x1].map Q1), [(11, .agg [.int .u64 x1.S.a0, .int .u64 x1.S.a1, .int .u64 x1.S.a2, .int .u64 x1.S.a3, .int .i64 x1.Lo, .int .i64 x1.Hi, .int .i64 x1.Rule, .bool x1.Last, .sl false 1 (mI x1.Next)])], [], []⟩) (fun t hm => oF rfl rfl (OpT.buildSlice (elems := ([x1] : List Zp).map Q1) rfl (dk rfl) Tu i65 (by decide) rfl (M1 rfl) (Vn hm.s0 rfl Bt) rfl rfl (Uf rfl) (by decide) ⟨u0, rfl⟩)) (fun _ => rfl) (fun _ => rfl) ?_
 obtain ⟨j, h⟩ := Zf h
 refine DGG.step (c := fun a => ⟨some 13, .c (.ex ((a 7).1 0)), [(12, .sl true 9 ([x1].map Q1)), (10, .c (.ex wx0c0))], [(4, .arrX wx0c0 65 9 0 (x0.p.map Q1))], [(4, .arrX ((a 7).1 0) 65 9 0 ((x0.p ++ [x1]).map Q1))]⟩) [7] (fun a γ' h => by simp only [h 7 (by decide)]) (fun a t hm => oF rfl rfl (Fo (i := 4) (xs := x0.p) (ys := [x1]) (f := Q1) rfl (dk rfl) Tu i65 rfl hm.s1 hm.o0 hm.s0 j (fun w => ⟨(fun _ => w, 0), rfl⟩))) (fun a => Z3 rfl rfl) ?_
 refine dC (c := ⟨some 14, .ptr bx0 0, [(6, .ptr bx0 0)], [], []⟩) (fun t hm => oF rfl rfl (OpT.nilCheck rfl (dk rfl) hm.s0 rfl ⟨u0, rfl⟩)) (fun _ => rfl) (fun _ => rfl) ?_
 refine dC (c := ⟨some 15, .ptr bx0 (0 + 0), [(14, .ptr bx0 0)], [], []⟩) (fun t hm => oF rfl rfl (Zs rfl (dk rfl) ul126 rfl i41 (by decide) hm.s0 ⟨u0, rfl⟩)) (fun _ => rfl) (fun _ => rfl) ?_
 refine DGG.step (c := fun a => ⟨none, .any, [(15, .ptr bx0 (0 + 0)), (13, .c (.ex ((a 7).1 0)))], [(3, (Jv bx0 wx0c0))], [(3, (Jv bx0 ((a 7).1 0)))]⟩) [7] (fun a γ' h => by simp only [h 7 (by decide)]) (fun a t hm => oF rfl rfl (W2 (i := 3) (cells' := [.d (.ex ((a 7).1 0))]) rfl rfl i41 hm.s0 hm.s1 hm.o0 (nb rfl) rfl ⟨u0, rfl⟩)) (fun a => Z3 rfl rfl) ?_
 refine gF [0,0,2,6,14,0,32,126,255,511,1023] Q3 rfl (by kernel_rfl) (fun _ => by kernel_rfl) (fun a u hu => (tN (Qm hu ?_)))
 refine T.seq (Qr ?_)
 refine mw rfl ?_
 refine oK rfl ?_
 refine oP ul126 i41 rfl ?_
 refine oL 3 Tu rfl ?_
 refine sp rfl (H0 (i := 4) (xs := (x0.p ++ [x1])) (f := Q1) rfl (dk rfl) Tu rfl rfl ?_)
 refine oI rfl ?_
 refine sp rfl (OpT.buildSlice (elems := ([(wI (((x0.p ++ [x1]).length : Int) - (1:Int)))] : List Int).map (cI .i64)) rfl (dk rfl) Zx i3 (by decide) rfl (M1 rfl) rfl rfl rfl (Uf rfl) (by decide) ?_)
 refine aw rfl ?_
 refine TL'.nil (tN (T.seq (Qr ?_)))
 refine mw rfl ?_
 refine mw rfl ?_
 refine sp rfl (Zq (OpT.build (l := [.bool false, .sl true 1 ([(wI (((x0.p ++ [x1]).length : Int) - (1:Int)))].map (cI .i64)), .sl true 1 ([(wI (((x0.p ++ [x1]).length : Int) - (1:Int)))].map (cI .i64))]) rfl (dk rfl) (Zv (pl := [(0, 1), (1, 1), (2, 1)]) K2 i128 rfl) (M1 rfl) rfl rfl rfl) (Ye 25 (l := [.bool false, .sl true 1 ([(wI (((x0.p ++ [x1]).length : Int) - (1:Int)))].map (cI .i64)), .sl true 1 ([(wI (((x0.p ++ [x1]).length : Int) - (1:Int)))].map (cI .i64))]) (l' := [.bool false, .sl false 1 ([(wI (((x0.p ++ [x1]).length : Int) - (1:Int)))].map (cI .i64)), .sl false 1 ([(wI (((x0.p ++ [x1]).length : Int) - (1:Int)))].map (cI .i64))]) (.cons (.same _) (.cons (.full _ _ _) (.cons (.full _ _ _) (.refl _))))) ?_)
 refine sp rfl (Qy (i := 1) (cells' := [.d (.bool false), .d (.sl false 1 ([(wI (((x0.p ++ [x1]).length : Int) - (1:Int)))].map (cI .i64))), .d (.sl false 1 ([(wI (((x0.p ++ [x1]).length : Int) - (1:Int)))].map (cI .i64)))]) rfl rfl i128 rfl rfl rfl rfl (nb rfl) rfl ?_)
 refine TL'.nil (tN ?_)
 refine T.ret ?_
 exact Q7 (.cons _ _ _ _ (.cellAgg 4 128 _ 0 1 128 _ [.bool false, .sl false 1 ([(wI (((x0.p ++ [x1]).length : Int) - (1:Int)))].map (cI .i64)), .sl false 1 ([(wI (((x0.p ++ [x1]).length : Int) - (1:Int)))].map (cI .i64))] _ _ 3 _ rfl rfl rfl rfl K2 rfl i128) .nil) (.cons 3 rfl (.cons 3 rfl (.nil _))) (by cases h; exact ⟨gl [(a 7).1 0], rfl, rfl⟩)
abbrev X9 (bx0 : Nat) (r : Qu × Qk) : ES := J9 tp Tryz.f66 (fun y t => ∃ γ : Nat → Value, y = (.agg [.bool r.1.null, .sl false 1 (mI r.1.first), .sl false 1 (mI r.1.last)]) ∧ t = [(Jv bx0 (γ 0)), .arrX (γ 0) 65 9 0 (r.2.p.map Q1)])
abbrev Bc (bx0 : Nat) (r : Qu × Qk) : ES := thenS (fun s' => T tp 128 (ca [1,1,1,1,1,1,1,1,1,1] Tryz.f66) s' ((X9 bx0 r))) ((X9 bx0 r))
abbrev Md (bx0 : Nat) (r : Qu × Qk) : ES := Qz 2 ((Bc bx0 r))
abbrev C1 (bx0 : Nat) (r : Qu × Qk) : ES := thenS (fun s' => T tp 128 (ca [1,1,1,1,1,1,1] Tryz.f66) s' ((X9 bx0 r))) ((X9 bx0 r))
abbrev Bo (bx0 : Nat) (r : Qu × Qk) : ES := Qz 0 ((C1 bx0 r))
theorem Ib {r : Qu × Qk} (K : Nat) (rec_raddleref09_builder_node : Qk → (List Q4) → Int → Int → Option (Qu × Qk)) (hrec_raddleref09_builder_node : U0 rec_raddleref09_builder_node) (bx0 : Nat) : ∀ (k : Nat), ∀ (s : Int) (ac : List Zp) (ad af : List Int) (ag : Int) (m : Z5) (ai : List Int) (aj al : Int) (am : ByteArray) (g : List Qu) (an : Bool) (q j : List Int) (y : Value) (aa ab : Nat) (p : Value) (b : Nat), Ub K rec_raddleref09_builder_node k s ac ad af ag m ai aj al am g an q j = some r → TL tp 128 (ca [1,1,1,1,1,1,1,1,1,0,1,0,0] Tryz.f66) ⟨[(0, .ptr bx0 0), (8, .ptr aa 0), (9, .ptr ab 0), (10, .c (.ex p)), (12, .ptr b 0), (13, .int .i64 s)], [(Jv bx0 y), .arrX y 65 9 0 (ac.map Q1), (Oo aa false ad af), (Qgm ab ag m.a0 m.a1 m.a2 m.a3 ai aj al am), .arrA p 128 3 (g.map Zk), (Oo b an q j)]⟩ (Md bx0 r) := by
 intro k
 induction k with
 | zero =>
  intro s ac ad af ag m ai aj al am g an q j y aa ab p b h
  exact zn h
 | succ k ih =>
  intro s ac ad af ag m ai aj al am g an q j y aa ab p b h
  rw [Ub] at h
  refine Q6 ?_
  refine T.seq ?_
  refine T.seq (Qr ?_)
  refine mw rfl ?_
  refine mw rfl ?_
  refine sp rfl (Kk (i := 4) (xs := g) (f := Zk) rfl (dk rfl) ul171 rfl rfl ?_)
  refine oI rfl ?_
  refine TL'.nil (tN ?_)
  rcases Qd h with ⟨au, h⟩ | ⟨au, h⟩
  refine Qq rfl au ?_
  refine T.skip (tN ?_)
  refine T.seq ?_
  refine T.block ?_
  refine T.seq (Qr ?_)
  refine oP K2 i4 rfl ?_
  refine oL 5 ul4 rfl ?_
  refine mw rfl ?_
  rcases Qd h with ⟨ap, h⟩ | ⟨ap, h⟩
  cases h
  refine sn rfl ap (OpT.move rfl (dk rfl) rfl ?_)
  refine sn rfl ap (OpT.move rfl (dk rfl) rfl ?_)
  refine Hz (Z6.view 93 4 rfl rfl) ?_
  obtain ⟨a, av, h⟩ := bind_some h
  refine sn rfl ap (Y7 (xs := g) (f := Zk) (v := a) rfl (dk rfl) ul171 i128 rfl rfl av ?_)
  refine sn rfl ap (Ur rfl (dk rfl) K2 rfl i4 (by decide) rfl ?_)
  refine sn rfl ap (Vi rfl (dk rfl) ul4 rfl rfl rfl ?_)
  refine oZ ap rfl ?_
  refine oP K2 i4 rfl ?_
  refine sp rfl (W2 (i := 5) (cells' := [.d (.bool a.null), .d (.sl false 1 (mI q)), .d (.sl false 1 (mI j))]) rfl rfl i4 rfl rfl rfl (nb rfl) rfl ?_)
  refine TL'.nil (tN ?_)
  refine T.seq ?_
  refine Yk ?_
  refine dP rfl (.f rfl) K2 i38 rfl ?_
  refine dL 5 rfl (.f rfl) Zx rfl ?_
  refine dS (c := ⟨some 102, .sl false 3 (g.map Zk), [(10, .c (.ex p))], [(4, .arrA p 128 3 (g.map Zk))], []⟩) (fun t hm => oF rfl rfl (Zq (OpT.move rfl (dk rfl) hm.s0 rfl) (M2 102 4 hm.o0) rfl)) rfl rfl ?_
  refine dV rfl rfl ?_
  refine dX g Zk rfl (.f rfl) ul171 i128 av rfl ?_
  refine dQ rfl (.f rfl) K2 i38 rfl ?_
  refine dR rfl (.f rfl) Zx rfl ?_
  obtain ⟨w, az, h⟩ := bind_some h
  refine dS (c := ⟨some 107, .sl false 1 (mI w), [(101, .sl false 1 (mI q)), (106, .sl false 1 (mI a.first))], [], []⟩) (fun t hm => oF rfl rfl (Q0 rfl (dk rfl) Tryz.func67 rfl rfl (Q5.cons hm.s0 (Q5.cons hm.s1 Q5.nil)) (Zm.nil (Hv K (flx0 := false) (flx1 := false) az)) rfl)) rfl rfl ?_
  refine dP rfl (.f rfl) K2 i38 rfl ?_
  refine dS (c := ⟨none, .any, [(108, .ptr b (0 + 1)), (107, .sl false 1 (mI w))], [(5, (Oo b a.null q j))], [(5, (Oo b a.null w j))]⟩) (fun t hm => oF rfl rfl (W2 (i := 5) (cells' := [.d (.bool a.null), .d (.sl false 1 (mI w)), .d (.sl false 1 (mI j))]) rfl rfl i38 hm.s0 hm.s1 hm.o0 (nb rfl) rfl rfl)) rfl rfl ?_
  refine dF [0,1,0,0,12,28,60,127,255,511] Q3 rfl (by kernel_rfl) (fun u hu => (tN (Qm hu ?_)))
  refine Yk ?_
  refine dP rfl (.f rfl) K2 i38 rfl ?_
  refine dL 5 rfl (.f rfl) Zx rfl ?_
  refine dS (c := ⟨some 111, .sl false 3 (g.map Zk), [(10, .c (.ex p))], [(4, .arrA p 128 3 (g.map Zk))], []⟩) (fun t hm => oF rfl rfl (Zq (OpT.move rfl (dk rfl) hm.s0 rfl) (M2 111 4 hm.o0) rfl)) rfl rfl ?_
  refine dV rfl rfl ?_
  refine dX g Zk rfl (.f rfl) ul171 i128 av rfl ?_
  refine dQ rfl (.f rfl) K2 i38 rfl ?_
  refine dR rfl (.f rfl) Zx rfl ?_
  obtain ⟨aq, a4, h⟩ := bind_some h
  refine dS (c := ⟨some 116, .sl false 1 (mI aq), [(110, .sl false 1 (mI j)), (115, .sl false 1 (mI a.last))], [], []⟩) (fun t hm => oF rfl rfl (Q0 rfl (dk rfl) Tryz.func67 rfl rfl (Q5.cons hm.s0 (Q5.cons hm.s1 Q5.nil)) (Zm.nil (Hv K (flx0 := false) (flx1 := false) a4)) rfl)) rfl rfl ?_
  refine dP rfl (.f rfl) K2 i38 rfl ?_
  refine dS (c := ⟨none, .any, [(117, .ptr b (0 + 2)), (116, .sl false 1 (mI aq))], [(5, (Oo b a.null w j))], [(5, (Oo b a.null w aq))]⟩) (fun t hm => oF rfl rfl (W2 (i := 5) (cells' := [.d (.bool a.null), .d (.sl false 1 (mI w)), .d (.sl false 1 (mI aq))]) rfl rfl i38 hm.s0 hm.s1 hm.o0 (nb rfl) rfl rfl)) rfl rfl ?_
  refine dF [0,1,0,0,12,28,60,127,255,511] Q3 rfl (by kernel_rfl) (fun u hu => (Qn (tN (Qm hu ?_))))
  refine Qr ?_
  refine mw rfl ?_
  refine oI rfl ?_
  refine aw rfl ?_
  refine TL'.nil (tN ?_)
  refine Qh ?_ (ih (wI (s + (1:Int))) ac ad af ag m ai aj al am g a.null w aq y aa ab p b h)
  exact tq rfl rfl
  refine Qp rfl au ?_
  refine T.exit (Qj (Qj (Qs (tN ?_))))
  refine T.seq ?_
  refine T.seq (Qr ?_)
  refine oP Mk i5 rfl ?_
  refine oL 3 ul5 rfl ?_
  refine oI rfl ?_
  refine TL'.nil (tN ?_)
  rcases Qd h with ⟨ay, h⟩ | ⟨ay, h⟩
  cases h
  refine Qp rfl ay ?_
  refine T.skip (tN ?_)
  refine T.seq (Qr ?_)
  refine oA 5 [.bool an, .sl false 1 (mI q), .sl false 1 (mI j)] K2 i128 rfl ?_
  refine sp rfl (Qy (i := 2) (cells' := [.d (.bool an), .d (.sl false 1 (mI q)), .d (.sl false 1 (mI j))]) rfl rfl i128 rfl rfl rfl rfl (nb rfl) rfl ?_)
  refine TL'.nil (tN ?_)
  refine T.ret ?_
  exact Q7 (.cons _ _ _ _ (.cellAgg 8 128 _ 0 2 128 _ [.bool an, .sl false 1 (mI q), .sl false 1 (mI j)] _ _ 3 _ rfl rfl rfl rfl K2 rfl i128) .nil) (.cons 0 rfl (.cons 0 rfl (.nil _))) (by cases h; exact ⟨gl [y], rfl, rfl⟩)
theorem Ic {r : Qu × Qk} (K : Nat) (rec_raddleref09_builder_node : Qk → (List Q4) → Int → Int → Option (Qu × Qk)) (hrec_raddleref09_builder_node : U0 rec_raddleref09_builder_node) (bx0 : Nat) : ∀ (k : Nat), ∀ (x1 : List Q4) (x3 ad : Int) (q : List Zp) (a : Int) (b : Z5) (g : List Int) (u w : Int) (y : ByteArray) (j : List Qu) (flx1 : Bool) (m : Value) (aa ab : Nat) (af : Value), Uc K rec_raddleref09_builder_node k x1 x3 ad q a b g u w y j = some r → TL tp 128 (ca [1,1,1,1,1,1,0,1,0,0] Tryz.f66) ⟨[(0, .ptr bx0 0), (1, .sl flx1 9 (x1.map Qo)), (3, .int .i64 x3), (8, .ptr aa 0), (9, .ptr ab 0), (10, .c (.ex af)), (11, .int .i64 ad)], [(Jv bx0 m), .arrX m 65 9 0 (q.map Q1), (o128 aa false (.slice none 0 0) (.slice none 0 0)), (Qgm ab a b.a0 b.a1 b.a2 b.a3 g u w y), .arrA af 128 3 (j.map Zk)]⟩ (Bo bx0 r) := by
 intro k
 induction k with
 | zero =>
  intro x1 x3 ad q a b g u w y j flx1 m aa ab af h
  exact zn h
 | succ k ih =>
  intro x1 x3 ad q a b g u w y j flx1 m aa ab af h
  rw [Uc] at h
  refine Q6 ?_
  refine T.seq ?_
  refine T.seq (Qr ?_)
  refine mw rfl ?_
  refine oP Mk i38 rfl ?_
  refine oL 3 Zx rfl ?_
  refine oU g (cI .i64) Zx rfl ?_
  refine oI rfl ?_
  refine TL'.nil (tN ?_)
  rcases Qd h with ⟨ai, h⟩ | ⟨ai, h⟩
  refine Qq rfl ai ?_
  refine T.skip (tN ?_)
  refine T.seq ?_
  refine T.block ?_
  refine Qr ?_
  iterate 3 refine mw rfl ?_
  refine oP Mk i38 rfl ?_
  refine oL 3 Zx rfl ?_
  refine mw rfl ?_
  obtain ⟨al, am, h⟩ := bind_some h
  refine oX g (cI .i64) Zx i3 am rfl ?_
  refine oR ul3 rfl ?_
  refine mw rfl ?_
  obtain ⟨ag, an, h⟩ := bind_some h
  refine sp rfl (Q8 (is := [0, 1]) (ph := []) rfl (dk rfl) Tryz.func66 rfl rfl (Q5.cons rfl (Q5.cons rfl (Q5.cons rfl (Q5.cons rfl Q5.nil)))) (hrec_raddleref09_builder_node (Qk.mk q) x1 al x3 bx0 m flx1 _ an) (.cons rfl rfl (.cons rfl rfl (.nil))) (fun _ => rfl) (fun ap => ?_))
  refine nm (.c (.c (.c (.c (.c (.n)))))) ?_
  refine sp rfl (OpT.buildSlice (elems := ([ag.1] : List Qu).map Zk) rfl (dk rfl) ul171 i128 (by decide) rfl (M1 rfl) rfl rfl rfl (Uf rfl) (by decide) ?_)
  obtain ⟨aq, h⟩ := Zf h
  refine sp rfl (Zy (i := 4) (xs := j) (ys := [ag.1]) (f := Zk) rfl (dk rfl) ul171 i128 rfl rfl rfl rfl aq (fun au => ?_))
  refine aw rfl ?_
  refine TL'.nil (Qn (tN ?_))
  refine Qr ?_
  refine mw rfl ?_
  refine oI rfl ?_
  refine aw rfl ?_
  refine TL'.nil (tN ?_)
  refine Qh ?_ (ih x1 x3 (wI (ad + (1:Int))) ag.2.p a b g u w y (j ++ [ag.1]) flx1 (ap 0) aa ab au h)
  exact tq rfl rfl
  refine Qp rfl ai ?_
  refine T.exit (Qj (Qj (Qs (tN ?_))))
  refine T.seq ?_
  refine T.seq (Qr ?_)
  refine oP Mk i5 rfl ?_
  refine oL 3 ul5 rfl ?_
  refine oI rfl ?_
  refine TL'.nil (tN ?_)
  rcases Qd h with ⟨aj, h⟩ | ⟨aj, h⟩
  refine Qq rfl aj ?_
  refine T.seq (Qr ?_)
  refine mw rfl ?_
  refine mw rfl ?_
  obtain ⟨ac, av, h⟩ := bind_some h
  refine sp rfl (Q8 (is := [0, 1]) (ph := []) rfl (dk rfl) Tryz.func106 rfl rfl (Q5.cons rfl (Q5.view (i := 4) rfl rfl Q5.nil)) (P7 K (bx0 := bx0) (wx0c0 := m) (flx1 := false) av) (.cons rfl rfl (.cons rfl rfl (.nil))) (fun _ => rfl) (fun ay => ?_))
  refine nm (.c (.c (.c (.c (.c (.n)))))) ?_
  refine sp rfl (Qy (i := 2) (cells' := [.d (.bool ac.1.null), .d (.sl false 1 (mI ac.1.first)), .d (.sl false 1 (mI ac.1.last))]) rfl rfl i128 rfl rfl rfl rfl (nb rfl) rfl ?_)
  refine TL'.nil (tN ?_)
  refine T.ret (Qv ?_)
  exact Q7 (.cons _ _ _ _ (.cellAgg 8 128 _ 0 2 128 _ [.bool ac.1.null, .sl false 1 (mI ac.1.first), .sl false 1 (mI ac.1.last)] _ _ 3 _ rfl rfl rfl rfl K2 rfl i128) .nil) (.cons 0 rfl (.cons 0 rfl (.nil _))) (by cases h; exact ⟨gl [ay 0], rfl, rfl⟩)
  refine Qp rfl aj ?_
  refine T.skip (tN ?_)
  refine T.seq (Qr ?_)
  refine oP Mk i5 rfl ?_
  refine oL 3 ul5 rfl ?_
  refine oI rfl ?_
  refine sp rfl (Zq (OpT.build (l := [.bool (a == (5:Int)), .ex (.slice none 0 0), .ex (.slice none 0 0)]) rfl (dk rfl) (Zv (pl := [(0, 1), (1, 1), (2, 1)]) K2 i128 rfl) (M1 rfl) rfl rfl rfl) (Ye 83 (l := [.bool (a == (5:Int)), .ex (.slice none 0 0), .ex (.slice none 0 0)]) (l' := [.bool (a == (5:Int)), .sl false 1 (([] : List Int).map (cI .i64)), .sl false 1 (([] : List Int).map (cI .i64))]) (.cons (.same _) (.cons (.nil _ _) (.cons (.nil _ _) (.refl _))))) ?_)
  refine sp rfl (Zh rfl (dk rfl) i128 rfl (fun az => ?_))
  refine sp rfl (Qy (i := 0) (cells' := [.d (.bool (a == (5:Int))), .d (.sl false 1 (([] : List Int).map (cI .i64))), .d (.sl false 1 (([] : List Int).map (cI .i64)))]) rfl rfl i128 rfl rfl rfl rfl (nb rfl) rfl ?_)
  refine TL'.nil (tN ?_)
  refine T.seq ?_
  refine T.seq (Qr ?_)
  refine aw rfl ?_
  refine TL'.nil (tN ?_)
  refine T.block ?_
  refine T.loop ?_
  refine Qh (Lq 3 (l := [.bool false, .ex (.slice none 0 0), .ex (.slice none 0 0)]) (l' := [.bool false, .sl false 1 (([] : List Int).map (cI .i64)), .sl false 1 (([] : List Int).map (cI .i64))]) rfl (.cons (.same _) (.cons (.nil _ _) (.cons (.nil _ _) (.refl _))))) ?_
  refine Qh ?_ (Ib K rec_raddleref09_builder_node hrec_raddleref09_builder_node bx0 K (0:Int) q [] [] a b g u w y j (a == (5:Int)) [] [] m aa ab af az h)
  exact tr rfl (.c (.s .z) (.c (.s .z) (.c (.s .z) (.c (.s .z) (.c (.s .z) (.c .z (.n _)))))))
theorem I9 (K : Nat) (rec_raddleref09_builder_node : Qk → (List Q4) → Int → Int → Option (Qu × Qk)) (hrec_raddleref09_builder_node : U0 rec_raddleref09_builder_node) {x0 : Qk} {x1 : List Q4} {x2 x3 : Int} {bx0 : Nat} {wx0c0 : Value} {flx1 : Bool} {r : Qu × Qk} (h : Hg K rec_raddleref09_builder_node x0 x1 x2 x3 = some r) : U7 tp 66 [.ptr bx0 0, .sl flx1 9 (x1.map Qo), .int .i64 x2, .int .i64 x3] [(Jv bx0 wx0c0), .arrX wx0c0 65 9 0 (x0.p.map Q1)] (fun γ => (.agg [.bool r.1.null, .sl false 1 (mI r.1.first), .sl false 1 (mI r.1.last)])) (fun γ => [(Jv bx0 (γ 0)), .arrX (γ 0) 65 9 0 (r.2.p.map Q1)]) := by
 refine Qt Tryz.func66 rfl (nb rfl) ?_
 show T tp 128 (ca [] Tryz.f66) ⟨Qw 0 [.ptr bx0 0, .sl flx1 9 (x1.map Qo), .int .i64 x2, .int .i64 x3], [(Jv bx0 wx0c0), .arrX wx0c0 65 9 0 (x0.p.map Q1)]⟩ (X9 bx0 r)
 unfold Hg at h
 refine T.seq (Qr ?_)
 refine sp rfl (Zh rfl (dk rfl) i128 rfl (fun q => ?_))
 refine TL'.nil (tN (T.seq (Qr ?_)))
 refine mw rfl ?_
 refine mw rfl ?_
 obtain ⟨a, u, h⟩ := bind_some h
 refine oX x1 Qo Tt i165 u rfl ?_
 refine sp rfl (Za rfl (dk rfl) Mk rfl i165 rfl (nb rfl) ?_)
 refine sp rfl (Zh rfl (dk rfl) i165 rfl (fun w => ?_))
 refine sp rfl (Qy (i := 0) (cells' := [.d (.int .u8 a.Op), .d (.int .u64 a.S.a0), .d (.int .u64 a.S.a1), .d (.int .u64 a.S.a2), .d (.int .u64 a.S.a3), .d (.sl false 1 (mI a.L)), .d (.int .i64 a.Lo), .d (.int .i64 a.Hi), .d (.str a.Name)]) rfl rfl i165 rfl rfl rfl rfl (nb rfl) rfl ?_)
 refine TL'.nil (tN ?_)
 refine T.seq ?_
 refine T.seq (Qr ?_)
 refine oP Mk i5 rfl ?_
 refine oL 0 ul5 rfl ?_
 refine oI rfl ?_
 refine TL'.nil (tN ?_)
 rcases Qd h with ⟨m, h⟩ | ⟨m, h⟩
 cases h
 refine Qp rfl m ?_
 refine T.skip (tN ?_)
 refine T.seq ?_
 refine T.seq (Qr ?_)
 refine oP Mk i5 rfl ?_
 refine oL 0 ul5 rfl ?_
 refine oI rfl ?_
 refine TL'.nil (tN ?_)
 rcases Qd h with ⟨j, h⟩ | ⟨j, h⟩
 refine Qq rfl j ?_
 refine T.seq (Qr ?_)
 refine mw rfl ?_
 refine oP Mk i63 rfl ?_
 refine oA 0 (Z5.dc .u64 a.S) Qhp i63 rfl ?_
 refine mw rfl ?_
 refine sp rfl (Zq (OpT.build (l := [.int .u64 a.S.a0, .int .u64 a.S.a1, .int .u64 a.S.a2, .int .u64 a.S.a3, .int .i64 (1:Int), .int .i64 (1:Int), .int .i64 x3, .bool false, .ex (.slice none 0 0)]) rfl (dk rfl) (Zv (pl := [(0, 4), (4, 1), (5, 1), (6, 1), (7, 1), (8, 1)]) ul65 i65 rfl) (M1 rfl) rfl rfl rfl) (Ye 29 (l := [.int .u64 a.S.a0, .int .u64 a.S.a1, .int .u64 a.S.a2, .int .u64 a.S.a3, .int .i64 (1:Int), .int .i64 (1:Int), .int .i64 x3, .bool false, .ex (.slice none 0 0)]) (l' := [.int .u64 a.S.a0, .int .u64 a.S.a1, .int .u64 a.S.a2, .int .u64 a.S.a3, .int .i64 (1:Int), .int .i64 (1:Int), .int .i64 x3, .bool false, .sl false 1 (([] : List Int).map (cI .i64))]) (.cons (.same _) (.cons (.same _) (.cons (.same _) (.cons (.same _) (.cons (.same _) (.cons (.same _) (.cons (.same _) (.cons (.same _) (.cons (.nil _ _) (.refl _))))))))))) ?_)
 obtain ⟨b, y, h⟩ := bind_some h
 refine sp rfl (Q8 (is := [2, 3]) (ph := []) rfl (dk rfl) Tryz.func105 rfl rfl (Q5.cons rfl (Q5.cons rfl Q5.nil)) (P6 K (bx0 := bx0) (wx0c0 := wx0c0) y) (.cons rfl rfl (.cons rfl rfl (.nil))) (fun _ => rfl) (fun aa => ?_))
 refine nm (.c (.c (.c (.c (.n))))) ?_
 refine sp rfl (Qy (i := 1) (cells' := [.d (.bool b.1.null), .d (.sl false 1 (mI b.1.first)), .d (.sl false 1 (mI b.1.last))]) rfl rfl i128 rfl rfl rfl rfl (nb rfl) rfl ?_)
 refine TL'.nil (tN ?_)
 refine T.ret (Qv ?_)
 exact Q7 (.cons _ _ _ _ (.cellAgg 8 128 _ 0 1 128 _ [.bool b.1.null, .sl false 1 (mI b.1.first), .sl false 1 (mI b.1.last)] _ _ 3 _ rfl rfl rfl rfl K2 rfl i128) .nil) (.cons 2 rfl (.cons 2 rfl (.nil _))) (by cases h; exact ⟨gl [aa 0], rfl, rfl⟩)
 refine Qp rfl j ?_
 refine T.skip (tN ?_)
 refine T.seq ?_
 refine T.seq (Qr ?_)
 refine oP Mk i5 rfl ?_
 refine oL 0 ul5 rfl ?_
 refine oI rfl ?_
 refine mw rfl ?_
 rcases Qd h with ⟨g, h⟩ | ⟨g, h⟩
 cases h
 refine pf rfl g ?_
 refine pf rfl g ?_
 refine pf rfl g ?_
 refine oZ g rfl ?_
 refine TL'.nil (tN ?_)
 refine Qp rfl rfl ?_
 refine T.skip (tN ?_)
 refine T.seq (Qr ?_)
 refine aw rfl ?_
 refine TL'.nil (tN ?_)
 refine T.seq ?_
 refine T.seq (Qr ?_)
 refine aw rfl ?_
 refine TL'.nil (tN ?_)
 refine T.block ?_
 refine T.loop ?_
 refine Qh (Xy 128 3) ?_
 refine Qh ?_ (Ic K rec_raddleref09_builder_node hrec_raddleref09_builder_node bx0 K x1 x3 (0:Int) x0.p a.Op a.S a.L a.Lo a.Hi a.Name [] flx1 wx0c0 q w (Qf1 2) h)
 exact tr rfl (.c (.s (.s (.s .z))) (.c (.s (.s (.s .z))) (.c (.s (.s .z)) (.c (.s .z) (.c .z (.n _))))))
theorem I8 (K : Nat) : ∀ n, U0 (Uz K n) := by
 intro n
 induction n with
 | zero =>
  intro x0 x1 x2 x3 bx0 wx0c0 flx1 r h
  exact zn h
 | succ n ih =>
  intro x0 x1 x2 x3 bx0 wx0c0 flx1 r h
  exact I9 K (Uz K n) ih h
theorem Pe (K : Nat) {x0 : Qk} {x1 : List Q4} {x2 x3 : Int} {bx0 : Nat} {wx0c0 : Value} {flx1 : Bool} {r : Qu × Qk} (h : Cu K x0 x1 x2 x3 = some r) : U7 tp 66 [.ptr bx0 0, .sl flx1 9 (x1.map Qo), .int .i64 x2, .int .i64 x3] [(Jv bx0 wx0c0), .arrX wx0c0 65 9 0 (x0.p.map Q1)] (fun γ => (.agg [.bool r.1.null, .sl false 1 (mI r.1.first), .sl false 1 (mI r.1.last)])) (fun γ => [(Jv bx0 (γ 0)), .arrX (γ 0) 65 9 0 (r.2.p.map Q1)]) := I8 K K x0 x1 x2 x3 bx0 wx0c0 flx1 r h
abbrev Cf (r : Bool) : ES := J9 tp Tryz.f65 (fun y t => y = (.bool r) ∧ t = [])
abbrev Tc (r : Bool) : ES := thenS (fun s' => T tp 37 (ca [1,1,1] Tryz.f65) s' ((Cf r))) ((Cf r))
abbrev Rc (r : Bool) : ES := Qz 0 ((Tc r))
theorem Qa3 {r : Bool} (K : Nat) : ∀ (k : Nat), ∀ (x0 : List Q4) (c : Int) (flx0 : Bool), Gn K k x0 c = some r → TL tp 37 (ca [1,1,0,1,0,0] Tryz.f65) ⟨[(0, .sl flx0 9 (x0.map Qo)), (3, .int .i64 c)], []⟩ (Rc r) := by
 intro k
 induction k with
 | zero =>
  intro x0 c flx0 h
  exact zn h
 | succ k ih =>
  intro x0 c flx0 h
  rw [Gn] at h
  refine Q6 ?_
  refine T.seq ?_
  refine T.seq (Qr ?_)
  refine mw rfl ?_
  refine mw rfl ?_
  refine oU x0 Qo Tt rfl ?_
  refine oI rfl ?_
  refine TL'.nil (tN ?_)
  rcases Qd h with ⟨g, h⟩ | ⟨g, h⟩
  refine Qq rfl g ?_
  refine T.skip (tN ?_)
  refine T.seq ?_
  refine T.block ?_
  refine T.seq (Qr ?_)
  refine mw rfl ?_
  refine mw rfl ?_
  obtain ⟨a, j, h⟩ := bind_some h
  refine oX x0 Qo Tt i165 j rfl ?_
  refine sp rfl (Za rfl (dk rfl) Mk rfl i165 rfl (nb rfl) ?_)
  refine sp rfl (Zh rfl (dk rfl) i165 rfl (fun l => ?_))
  refine sp rfl (Qy (i := 0) (cells' := [.d (.int .u8 a.Op), .d (.int .u64 a.S.a0), .d (.int .u64 a.S.a1), .d (.int .u64 a.S.a2), .d (.int .u64 a.S.a3), .d (.sl false 1 (mI a.L)), .d (.int .i64 a.Lo), .d (.int .i64 a.Hi), .d (.str a.Name)]) rfl rfl i165 rfl rfl rfl rfl (nb rfl) rfl ?_)
  refine TL'.nil (tN (T.seq (Qr ?_)))
  refine oP Mk i5 rfl ?_
  refine oL 0 ul5 rfl ?_
  refine oI rfl ?_
  refine mw rfl ?_
  rcases Qd h with ⟨b, h⟩ | ⟨b, h⟩
  cases h
  refine pf rfl b ?_
  refine pf rfl b ?_
  refine pf rfl b ?_
  refine pf rfl b ?_
  refine TL'.pU (.gone _ _ _ rfl rfl rfl) (dk rfl) ?_
  refine TL'.pU (.gone _ _ _ rfl rfl rfl) (dk rfl) ?_
  refine TL'.pU (.gone _ _ _ rfl rfl rfl) (dk rfl) ?_
  refine pf rfl b ?_
  refine oZ b rfl ?_
  refine mw rfl ?_
  refine pf rfl rfl ?_
  refine pf rfl rfl ?_
  refine pf rfl rfl ?_
  refine pf rfl rfl ?_
  refine oZ rfl rfl ?_
  refine TL'.nil (tN ?_)
  refine Qp rfl rfl ?_
  refine T.skip (Qn (tN ?_))
  refine Qr ?_
  refine mw rfl ?_
  refine oI rfl ?_
  refine aw rfl ?_
  refine TL'.nil (tN ?_)
  refine Qh ?_ (ih x0 (wI (c + (1:Int))) flx0 h)
  exact tq rfl rfl
  refine Qp rfl g ?_
  refine T.exit (Qj (Qj (Qs (tN ?_))))
  refine T.seq (Qr ?_)
  refine aw rfl ?_
  refine TL'.nil (tN ?_)
  refine T.ret ?_
  exact fd rfl (by cases h; exact ⟨rfl, rfl⟩)
theorem Qd8 (K : Nat) {x0 : List Q4} {flx0 r : Bool} (h : Et K x0 = some r) : Zm tp 65 [.sl flx0 9 (x0.map Qo)] [] (.bool r) := by
 refine Qt Tryz.func65 rfl (nb rfl) ?_
 show T tp 37 (ca [] Tryz.f65) ⟨Qw 0 [.sl flx0 9 (x0.map Qo)], []⟩ (Cf r)
 unfold Et at h
 refine T.seq (Qr ?_)
 refine aw rfl ?_
 refine TL'.nil (tN ?_)
 refine T.seq ?_
 refine T.seq (Qr ?_)
 refine mw rfl ?_
 obtain ⟨c, b, h⟩ := bind_some h
 refine sp rfl (Q0 rfl (dk rfl) Tryz.func62 rfl rfl (Q5.cons rfl Q5.nil) (Zm.nil (Oe K (flx0 := flx0) b)) ?_)
 refine oT rfl ?_
 refine TL'.nil (tN ?_)
 rcases Qd h with ⟨a, h⟩ | ⟨a, h⟩
 cases h
 refine Qp rfl a ?_
 refine T.skip (tN ?_)
 refine T.seq ?_
 refine T.seq (Qr ?_)
 refine aw rfl ?_
 refine TL'.nil (tN ?_)
 refine T.block ?_
 refine T.loop ?_
 refine Qh ?_ (Qa3 K K x0 (0:Int) flx0 h)
 exact tq rfl rfl
abbrev Kg (r : Zr × Int) : ES := J9 tp Tryz.f37 (fun y t => y = (.tup [.agg [.sl false 1 (mI r.1.First), .sl false 9 (r.1.P.map Q1)], .int .i64 r.2]) ∧ t = [])
abbrev Tb (r : Zr × Int) : ES := thenS (fun s' => T tp 86 (ca [1,1,1,1,1,1] Tryz.f37) s' ((Kg r))) ((Kg r))
abbrev Jf (r : Zr × Int) : ES := Qz 2 ((Tb r))
abbrev Bq (r : Zr × Int) : ES := thenS (fun s' => TL tp 86 (ca [1,1,1,1,1,0,1,0,0] Tryz.f37) s' ((Jf r))) ((Jf r))
abbrev Nc (r : Zr × Int) : ES := thenS (fun s' => T tp 86 (ca [1,1,1,1,1,0,1,0,0,1,1] Tryz.f37) s' ((Bq r))) ((Bq r))
abbrev Gc (r : Zr × Int) : ES := Qz 3 ((Nc r))
abbrev Ea (r : Zr × Int) : ES := thenS (fun s' => T tp 86 (ca [1,1,1,1,1,0,1,0,0,1,0,0,1,1,1] Tryz.f37) s' ((Gc r))) ((Gc r))
abbrev Ms (r : Zr × Int) : ES := Qz 4 ((Ea r))
abbrev Qc2 (r : Zr × Int) : ES := thenS (fun s' => T tp 86 (ca [1,1,1] Tryz.f37) s' ((Kg r))) ((Kg r))
abbrev Qa2 (r : Zr × Int) : ES := Qz 0 ((Qc2 r))
abbrev Qd6 (r : Zr × Int) (go : (List (List Q4)) → Int → (List Int) → (List Zp) → (List Zp) → (List Int) → (List Zp) → Option (Zr × Int)) : Prop := ∀ (x0 : List (List Q4)) (a : Int) (b : List Int) (c f : List Zp) (g : List Int) (i : List Zp) (flx0 : Bool) (j : Nat) (l : Value) (m : Nat) (n : Value) (p : Nat) (q : Value), go x0 a b c f g i = some r → TL tp 86 (ca [1,1,1,1,1,0,1,0,0] Tryz.f37) ⟨[(0, .sl flx0 1 (x0.map (cL 9 Qo))), (2, .ptr j 0), (5, .ptr m 0), (6, .ptr p 0), (7, .int .i64 a)], [(b43x14 j b l), .arrA l 65 9 (c.map Q1), (Jv m n), .arrX n 65 9 0 (f.map Q1), (b43x14 p g q), .arrA q 65 9 (i.map Q1)]⟩ (Jf r)
theorem Qd4 {r : Zr × Int} (K : Nat) (go1 : (List (List Q4)) → Int → (List Int) → (List Zp) → (List Zp) → (List Int) → (List Zp) → Option (Zr × Int)) (hgo1 : Qd6 r go1) : ∀ (k : Nat), ∀ (x0 : List (List Q4)) (aa ab : Int) (ac : List Int) (ad j : List Zp) (af : List Int) (ag : List Zp) (ai : Bool) (aj m : List Int) (flx0 : Bool) (q : Nat) (s : Value) (g : Nat) (b : Value) (w : Nat) (y : Value) (p : Nat), Mt K go1 k x0 aa ab ac ad j af ag ai aj m = some r → TL tp 86 (ca [1,1,1,1,1,0,1,0,0,1,0,0,1,1,0,1,0,0] Tryz.f37) ⟨[(0, .sl flx0 1 (x0.map (cL 9 Qo))), (2, .ptr q 0), (5, .ptr g 0), (6, .ptr w 0), (7, .int .i64 aa), (8, .ptr p 0), (9, .int .i64 ab)], [(b43x14 q ac s), .arrA s 65 9 (ad.map Q1), (Jv g b), .arrX b 65 9 0 (j.map Q1), (b43x14 w af y), .arrA y 65 9 (ag.map Q1), (Oo p ai aj m)]⟩ (Ms r) := by
 intro k
 induction k with
 | zero =>
  intro x0 aa ab ac ad j af ag ai aj m flx0 q s g b w y p h
  exact zn h
 | succ k ih =>
  intro x0 aa ab ac ad j af ag ai aj m flx0 q s g b w y p h
  rw [Mt] at h
  refine Q6 ?_
  refine T.seq ?_
  refine T.seq (Qr ?_)
  refine mw rfl ?_
  refine oP K2 i38 rfl ?_
  refine oL 6 Zx rfl ?_
  refine oU m (cI .i64) Zx rfl ?_
  refine oI rfl ?_
  refine TL'.nil (tN ?_)
  rcases Qd h with ⟨al, h⟩ | ⟨al, h⟩
  refine Qq rfl al ?_
  refine T.skip (tN ?_)
  refine T.seq ?_
  refine T.block ?_
  refine Yk ?_
  refine dV rfl rfl ?_
  refine dK rfl (.f rfl) rfl ?_
  refine dP rfl (.f rfl) ul126 i41 rfl ?_
  refine dL 2 rfl (.f rfl) Tu rfl ?_
  refine dP rfl (.f rfl) K2 i38 rfl ?_
  refine dL 6 rfl (.f rfl) Zx rfl ?_
  refine dV rfl rfl ?_
  obtain ⟨l, ap, h⟩ := bind_some h
  refine dX m (cI .i64) rfl (.f rfl) Zx i3 ap rfl ?_
  refine dR rfl (.f rfl) ul3 rfl ?_
  obtain ⟨a, am, h⟩ := bind_some h
  refine dS (c := ⟨some 71, .el b 9 (Int.toNat l) 0, [(65, .c (.ex b)), (70, .int .i64 l)], [(3, .arrX b 65 9 0 (j.map Q1))], []⟩) (fun t hm => oF rfl rfl (Yb (n := 3) (xs := j) (f := Q1) (old := a) rfl (dk rfl) Tu i65 hm.s0 hm.o0 hm.s1 am rfl)) rfl rfl ?_
  refine dS (c := ⟨some 72, .el b 9 (Int.toNat l) 7, [(71, .el b 9 (Int.toNat l) 0)], [], []⟩) (fun t hm => oF rfl rfl (Co rfl (dk rfl) ul65 rfl i4 (by decide) hm.s0 rfl)) rfl rfl ?_
  refine dS (c := ⟨none, .any, [(72, .el b 9 (Int.toNat l) 7)], [(3, .arrX b 65 9 0 (j.map Q1))], [(3, .arrX b 65 9 0 ((List.set j (Int.toNat l) (Zp.mk a.S a.Lo a.Hi a.Rule true a.Next)).map Q1))]⟩) (fun t hm => oF rfl rfl (H8 (i := 3) (xs := j) (f := Q1) (old := a) (new := (Zp.mk a.S a.Lo a.Hi a.Rule true a.Next)) rfl rfl i4 hm.s0 rfl hm.o0 (Zu am).2 (Nat.zero_le _) (nb rfl) rfl rfl)) rfl rfl ?_
  refine dF [0,1,3,7,0,16,0,112,240,511,1023,2047] Q3 rfl (by kernel_rfl) (fun u hu => (Qn (tN (Qm hu ?_))))
  refine Qr ?_
  refine mw rfl ?_
  refine oI rfl ?_
  refine aw rfl ?_
  refine TL'.nil (tN ?_)
  refine Qh ?_ (ih x0 aa (wI (ab + (1:Int))) ac ad (List.set j (Int.toNat l) (Zp.mk a.S a.Lo a.Hi a.Rule true a.Next)) af ag ai aj m flx0 q s g b w y p h)
  exact tq rfl rfl
  refine Qp rfl al ?_
  refine T.exit (Qj (Qj (Qs (tN ?_))))
  refine T.seq (Qr ?_)
  refine mw rfl ?_
  refine oK rfl ?_
  refine oP ul126 i41 rfl ?_
  refine oL 2 Tu rfl ?_
  refine sp rfl (H0 (i := 3) (xs := j) (f := Q1) rfl (dk rfl) Tu rfl rfl ?_)
  refine oI rfl ?_
  refine TL'.nil (tN ?_)
  rcases Qd h with ⟨an, h⟩ | ⟨an, h⟩
  cases h
  refine Qp rfl an ?_
  refine T.skip (Qn (tN ?_))
  refine Qr ?_
  refine mw rfl ?_
  refine oI rfl ?_
  refine aw rfl ?_
  refine TL'.nil (tN ?_)
  refine Qh ?_ (hgo1 x0 (wI (aa + (1:Int))) ac ad j af ag flx0 q s g b w y h)
  exact tq rfl rfl
theorem Qd5 {r : Zr × Int} (K : Nat) : ∀ (k : Nat), ∀ (x0 : List (List Q4)) (m : Int) (ai : List Int) (aj ab : List Zp) (y : List Int) (al : List Zp) (flx0 : Bool) (ad : Nat) (af : Value) (w : Nat) (aa : Value) (ag : Nat) (ac : Value), Lc K k x0 m ai aj ab y al = some r → TL tp 86 (ca [1,1,1,1,1,0,1,0,0] Tryz.f37) ⟨[(0, .sl flx0 1 (x0.map (cL 9 Qo))), (2, .ptr ad 0), (5, .ptr w 0), (6, .ptr ag 0), (7, .int .i64 m)], [(b43x14 ad ai af), .arrA af 65 9 (aj.map Q1), (Jv w aa), .arrX aa 65 9 0 (ab.map Q1), (b43x14 ag y ac), .arrA ac 65 9 (al.map Q1)]⟩ (Jf r) := by
 intro k
 induction k with
 | zero =>
  intro x0 m ai aj ab y al flx0 ad af w aa ag ac h
  exact zn h
 | succ k ih =>
  intro x0 m ai aj ab y al flx0 ad af w aa ag ac h
  rw [Lc] at h
  refine Q6 ?_
  refine T.seq ?_
  refine T.seq (Qr ?_)
  refine mw rfl ?_
  refine mw rfl ?_
  refine oU x0 (cL 9 Qo) ul87 rfl ?_
  refine oI rfl ?_
  refine TL'.nil (tN ?_)
  rcases Qd h with ⟨am, h⟩ | ⟨am, h⟩
  refine Qq rfl am ?_
  refine T.skip (tN ?_)
  refine T.seq ?_
  refine T.block ?_
  refine T.seq ?_
  refine Qm Y4 ?_
  refine H1 ?_
  refine dC (c := ⟨some 36, .ptr w 0, [(5, .ptr w 0)], [], []⟩) (fun t hm => oF rfl rfl (OpT.move rfl (dk rfl) hm.s0 ⟨u0, rfl⟩)) (fun _ => rfl) (fun _ => rfl) ?_
  refine dC (c := ⟨some 37, .sl flx0 1 (x0.map (cL 9 Qo)), [(0, .sl flx0 1 (x0.map (cL 9 Qo)))], [], []⟩) (fun t hm => oF rfl rfl (OpT.move rfl (dk rfl) hm.s0 ⟨u0, rfl⟩)) (fun _ => rfl) (fun _ => rfl) ?_
  refine dC (c := ⟨some 38, .int .i64 m, [(7, .int .i64 m)], [], []⟩) (fun t hm => oF rfl rfl (OpT.move rfl (dk rfl) hm.s0 ⟨u0, rfl⟩)) (fun _ => rfl) (fun _ => rfl) ?_
  obtain ⟨q, an, h⟩ := bind_some h
  refine dC (c := ⟨some 39, .ref [.sl false 9 (q.map Qo)], [(37, .sl flx0 1 (x0.map (cL 9 Qo))), (38, .int .i64 m)], [], []⟩) (fun t hm => oF rfl rfl (Y7 (xs := x0) (f := (cL 9 Qo)) (v := q) rfl (dk rfl) ul87 i80 hm.s0 hm.s1 an ⟨u0, rfl⟩)) (fun _ => rfl) (fun _ => rfl) ?_
  refine dC (c := ⟨some 40, .sl false 9 (q.map Qo), [(39, .ref [.sl false 9 (q.map Qo)])], [], []⟩) (fun t hm => oF rfl rfl (Vi rfl (dk rfl) Tt rfl hm.s0 rfl ⟨u0, rfl⟩)) (fun _ => rfl) (fun _ => rfl) ?_
  refine dC (c := ⟨some 41, .sl flx0 1 (x0.map (cL 9 Qo)), [(0, .sl flx0 1 (x0.map (cL 9 Qo)))], [], []⟩) (fun t hm => oF rfl rfl (OpT.move rfl (dk rfl) hm.s0 ⟨u0, rfl⟩)) (fun _ => rfl) (fun _ => rfl) ?_
  refine dC (c := ⟨some 42, .int .i64 m, [(7, .int .i64 m)], [], []⟩) (fun t hm => oF rfl rfl (OpT.move rfl (dk rfl) hm.s0 ⟨u0, rfl⟩)) (fun _ => rfl) (fun _ => rfl) ?_
  refine dC (c := ⟨some 43, .ref [.sl false 9 (q.map Qo)], [(41, .sl flx0 1 (x0.map (cL 9 Qo))), (42, .int .i64 m)], [], []⟩) (fun t hm => oF rfl rfl (Y7 (xs := x0) (f := (cL 9 Qo)) (v := q) rfl (dk rfl) ul87 i80 hm.s0 hm.s1 an ⟨u0, rfl⟩)) (fun _ => rfl) (fun _ => rfl) ?_
  refine dC (c := ⟨some 44, .sl false 9 (q.map Qo), [(43, .ref [.sl false 9 (q.map Qo)])], [], []⟩) (fun t hm => oF rfl rfl (Vi rfl (dk rfl) Tt rfl hm.s0 rfl ⟨u0, rfl⟩)) (fun _ => rfl) (fun _ => rfl) ?_
  refine dC (c := ⟨some 45, .int .i64 (q.length : Int), [(44, .sl false 9 (q.map Qo))], [], []⟩) (fun t hm => oF rfl rfl (Zw (xs := q) (f := Qo) rfl (dk rfl) Tt hm.s0 ⟨u0, rfl⟩)) (fun _ => rfl) (fun _ => rfl) ?_
  refine dC (c := ⟨some 46, .int .i64 (wI ((q.length : Int) - (1:Int))), [(45, .int .i64 (q.length : Int))], [], []⟩) (fun t hm => oF rfl rfl (Zj rfl rfl (dk rfl) hm.s0 rfl ⟨u0, rfl⟩)) (fun _ => rfl) (fun _ => rfl) ?_
  refine dC (c := ⟨some 47, .int .i64 m, [(7, .int .i64 m)], [], []⟩) (fun t hm => oF rfl rfl (OpT.move rfl (dk rfl) hm.s0 ⟨u0, rfl⟩)) (fun _ => rfl) (fun _ => rfl) ?_
  obtain ⟨j, aq, h⟩ := bind_some h
  refine DGG.step (c := fun a => ⟨some 48, .agg [.bool j.1.null, .sl false 1 (mI j.1.first), .sl false 1 (mI j.1.last)], [(36, .ptr w 0), (40, .sl false 9 (q.map Qo)), (46, .int .i64 (wI ((q.length : Int) - (1:Int)))), (47, .int .i64 m)], [(4, .arrX aa 65 9 0 (ab.map Q1)), (3, (Jv w aa))], [(3, (Jv w ((a 12).1 0))), (4, .arrX ((a 12).1 0) 65 9 0 (j.2.p.map Q1))]⟩) [12] (fun a γ' h => by simp only [h 12 (by decide)]) (fun a t hm => oF rfl rfl (Q8 (is := [3, 4]) (ph := []) rfl (dk rfl) Tryz.func66 rfl rfl (Q5.cons hm.s0 (Q5.cons hm.s1 (Q5.cons hm.s2 (Q5.cons hm.s3 Q5.nil)))) (Pe K (bx0 := w) (wx0c0 := aa) (flx1 := false) aq) (.cons hm.o1 rfl (.cons hm.o0 rfl (.nil))) (fun _ => rfl) (fun g => ⟨(g, 0), rfl⟩))) (fun a => Z3 rfl rfl) ?_
  refine DGG.step (c := fun a => ⟨some 8, .ptr ((a 13).2) 0, [], [(0, .ro 0 [])], [(0, .box ((a 13).2) 128 [.d (.bool false), .d (.ex (.slice none 0 0)), .d (.ex (.slice none 0 0))])]⟩) [13] (fun a γ' h => by simp only [h 13 (by decide)]) (fun a t hm => oF rfl rfl (Qij 0 rfl (dk rfl) i128 rfl hm.o0 (fun b => ⟨(fun _ => undef, b), rfl⟩))) (fun a => Z3 rfl rfl) ?_
  refine DGG.step (c := fun a => ⟨none, .any, [(8, .ptr ((a 13).2) 0), (48, .agg [.bool j.1.null, .sl false 1 (mI j.1.first), .sl false 1 (mI j.1.last)])], [(0, .box ((a 13).2) 128 [.d (.bool false), .d (.ex (.slice none 0 0)), .d (.ex (.slice none 0 0))])], [(0, .box ((a 13).2) 128 [.d (.bool j.1.null), .d (.sl false 1 (mI j.1.first)), .d (.sl false 1 (mI j.1.last))])]⟩) [13] (fun a γ' h => by simp only [h 13 (by decide)]) (fun a t hm => oF rfl rfl (Qy (i := 0) (cells' := [.d (.bool j.1.null), .d (.sl false 1 (mI j.1.first)), .d (.sl false 1 (mI j.1.last))]) rfl rfl i128 hm.s0 hm.s1 rfl hm.o0 (nb rfl) rfl ⟨u0, rfl⟩)) (fun a => Z3 rfl rfl) ?_
  refine gF [0,0,0,6,14,0,0,96,224,480,992,0,4095,0,16383] Q3 rfl (by kernel_rfl) (fun _ => by kernel_rfl) (fun a u hu => (tN (Qm hu ?_)))
  refine T.seq (Qr ?_)
  refine oP Qhq i38 rfl ?_
  refine oL 5 Zx rfl ?_
  refine oP K2 i38 rfl ?_
  refine oL 0 Zx rfl ?_
  obtain ⟨ap, au, h⟩ := bind_some h
  refine sp rfl (Q0 rfl (dk rfl) Tryz.func67 rfl rfl (Q5.cons rfl (Q5.cons rfl Q5.nil)) (Zm.nil (Hv K (flx0 := false) (flx1 := false) au)) ?_)
  refine oP Qhq i38 rfl ?_
  refine sp rfl (W2 (i := 5) (cells' := [.d (.sl false 1 (mI ap)), .d (.ex ac)]) rfl rfl i38 rfl rfl rfl (nb rfl) rfl ?_)
  refine TL'.nil (tN ?_)
  refine T.seq ?_
  refine T.seq (Qr ?_)
  refine aw rfl ?_
  refine TL'.nil (tN ?_)
  refine T.block ?_
  refine T.loop ?_
  refine Qh ?_ (Qd4 K (Lc K k) ih K x0 m (0:Int) ai aj j.2.p ap al j.1.null j.1.first j.1.last flx0 ad af w ((a 12).1 0) ag ac ((a 13).2) h)
  exact tr rfl (.c (.s .z) (.c (.s .z) (.c (.s .z) (.c (.s .z) (.c (.s .z) (.c (.s .z) (.c .z (.n _))))))))
  refine Qp rfl am ?_
  refine T.exit (Qj (Qj (Qs (tN ?_))))
  refine T.seq (Qr ?_)
  refine mw rfl ?_
  refine oK rfl ?_
  refine oP ul126 i41 rfl ?_
  refine oL 2 Tu rfl ?_
  refine oP Qhq i41 rfl ?_
  refine sp rfl (W2 (i := 4) (cells' := [.d (.sl false 1 (mI y)), .d (.ex aa)]) rfl rfl i41 rfl rfl rfl (nb rfl) rfl ?_)
  refine TL'.nil (tN (T.seq (Qr ?_)))
  refine Hz (Ko 3 rfl) ?_
  refine sp rfl (Zq (Uh (i := 4) (l := [.sl false 1 (mI y), .ex aa]) rfl (dk rfl) Qhq rfl i43 rfl rfl rfl rfl rfl) (Ye 85 (l := [.sl false 1 (mI y), .ex aa]) (l' := [.sl false 1 (mI y), .sl false 9 (ab.map Q1)]) (.cons (.same _) (.cons (.view 3 rfl) (.refl _)))) ?_)
  refine sp rfl (Qy (i := 0) (cells' := [.d (.sl false 1 (mI y)), .d (.sl false 9 (ab.map Q1))]) rfl rfl i43 rfl rfl rfl rfl (nb rfl) rfl ?_)
  refine aw rfl ?_
  refine TL'.nil (tN ?_)
  refine T.ret ?_
  exact Fin.done (.cons _ _ _ _ (.cellAgg 2 43 _ 0 0 43 _ [.sl false 1 (mI y), .sl false 9 (ab.map Q1)] _ _ 2 _ rfl rfl rfl rfl Qhq rfl i43) (.cons _ _ _ _ (.tmp 3 _ rfl) .nil)) (by cases h; exact ⟨rfl, rfl⟩)
theorem Qd7 {r : Zr × Int} (K : Nat) : ∀ (k : Nat), ∀ (x0 : List (List Q4)) (b : Int) (flx0 : Bool) (a : Nat), Mu K k x0 b = some r → TL tp 86 (ca [1,1,0,1,0,0] Tryz.f37) ⟨[(0, .sl flx0 1 (x0.map (cL 9 Qo))), (2, .ptr a 0), (4, .int .i64 b)], [.box a 43 [.d (.ex (.slice none 0 0)), .d (.ex (.slice none 0 0))]]⟩ (Qa2 r) := by
 intro k
 induction k with
 | zero =>
  intro x0 b flx0 a h
  exact zn h
 | succ k ih =>
  intro x0 b flx0 a h
  rw [Mu] at h
  refine Q6 ?_
  refine T.seq ?_
  refine T.seq (Qr ?_)
  refine mw rfl ?_
  refine mw rfl ?_
  refine oU x0 (cL 9 Qo) ul87 rfl ?_
  refine oI rfl ?_
  refine TL'.nil (tN ?_)
  rcases Qd h with ⟨g, h⟩ | ⟨g, h⟩
  refine Qq rfl g ?_
  refine T.skip (tN ?_)
  refine T.seq ?_
  refine T.block ?_
  refine T.seq (Qr ?_)
  refine mw rfl ?_
  refine mw rfl ?_
  obtain ⟨m, p, h⟩ := bind_some h
  refine oX x0 (cL 9 Qo) ul87 i80 p rfl ?_
  refine oR Tt rfl ?_
  obtain ⟨y, q, h⟩ := bind_some h
  refine sp rfl (Q0 rfl (dk rfl) Tryz.func65 rfl rfl (Q5.cons rfl Q5.nil) (Zm.nil (Qd8 K (flx0 := false) q)) ?_)
  refine oT rfl ?_
  refine TL'.nil (tN ?_)
  rcases Qd h with ⟨j, h⟩ | ⟨j, h⟩
  cases h
  refine Qp rfl j ?_
  refine T.skip (Qn (tN ?_))
  refine Qr ?_
  refine mw rfl ?_
  refine oI rfl ?_
  refine aw rfl ?_
  refine TL'.nil (tN ?_)
  refine Qh ?_ (ih x0 (wI (b + (1:Int))) flx0 a h)
  exact tq rfl rfl
  refine Qp rfl g ?_
  refine T.exit (Qj (Qj (Qs (tN ?_))))
  refine T.seq (Qr ?_)
  refine sp rfl (OpT.build (l := [.ex (.slice none 0 0)]) rfl (dk rfl) (Zv (pl := [(0, 1)]) ul126 i126 rfl) (M1 rfl) rfl rfl ?_)
  refine sp rfl (Zb rfl (dk rfl) rfl (fun u => ?_))
  refine aw rfl ?_
  refine TL'.nil (tN (T.seq (Qr ?_)))
  refine sp rfl (Zq (OpT.build (l := [.ex (.slice none 0 0), .ex (.slice none 0 0)]) rfl (dk rfl) (Zv (pl := [(0, 1), (1, 1)]) Qhq i43 rfl) (M1 rfl) rfl rfl rfl) (Ye 29 (l := [.ex (.slice none 0 0), .ex (.slice none 0 0)]) (l' := [.sl false 1 (([] : List Int).map (cI .i64)), .ex (.slice none 0 0)]) (.cons (.nil _ _) (.cons (.same _) (.refl _)))) ?_)
  refine sp rfl (Zh rfl (dk rfl) i43 rfl (fun w => ?_))
  refine sp rfl (Qy (i := 0) (cells' := [.d (.sl false 1 (([] : List Int).map (cI .i64))), .d (.ex (.slice none 0 0))]) rfl rfl i43 rfl rfl rfl rfl (nb rfl) rfl ?_)
  refine TL'.nil (tN ?_)
  refine T.seq ?_
  refine T.seq (Qr ?_)
  refine aw rfl ?_
  refine TL'.nil (tN ?_)
  refine T.block ?_
  refine T.loop ?_
  refine Qh (Xy 65 9) ?_
  refine Qh (Lq 3 (l := [.ex (.slice none 0 0), .ex (Qf1 16)]) (l' := [.sl false 1 (([] : List Int).map (cI .i64)), .ex (Qf1 16)]) rfl (.cons (.nil _ _) (.cons (.same _) (.refl _)))) ?_
  refine Qh (Qid 65 9) ?_
  refine Qh (Xy 65 9) ?_
  refine Qh ?_ (Qd5 K K x0 (0:Int) [] [] [] [] [] flx0 a (Qf1 16) u (Qf1 17) w (Qf1 18) h)
  exact tr rfl (.c (.s (.s (.s (.s (.s .z))))) (.c (.s (.s .z)) (.c (.s (.s (.s .z))) (.c (.s .z) (.c (.s .z) (.c .z (.n _)))))))
theorem Qg8 (K : Nat) {x0 : List (List Q4)} {flx0 : Bool} {r : Zr × Int} (h : P9 K x0 = some r) : Zm tp 37 [.sl flx0 1 (x0.map (cL 9 Qo))] [] (.tup [.agg [.sl false 1 (mI r.1.First), .sl false 9 (r.1.P.map Q1)], .int .i64 r.2]) := by
 refine Qt Tryz.func37 rfl (nb rfl) ?_
 show T tp 86 (ca [] Tryz.f37) ⟨Qw 0 [.sl flx0 1 (x0.map (cL 9 Qo))], []⟩ (Kg r)
 unfold P9 at h
 refine T.seq (Qr ?_)
 refine sp rfl (Zh rfl (dk rfl) i43 rfl (fun b => ?_))
 refine aw rfl ?_
 refine TL'.nil (tN ?_)
 refine T.seq ?_
 refine T.seq (Qr ?_)
 refine mw rfl ?_
 refine oU x0 (cL 9 Qo) ul87 rfl ?_
 refine oI rfl ?_
 refine TL'.nil (tN ?_)
 rcases Qd h with ⟨a, h⟩ | ⟨a, h⟩
 cases h
 refine Qp rfl a ?_
 refine T.skip (tN ?_)
 refine T.seq ?_
 refine T.seq (Qr ?_)
 refine aw rfl ?_
 refine TL'.nil (tN ?_)
 refine T.block ?_
 refine T.loop ?_
 refine Qh ?_ (Qd7 K K x0 (0:Int) flx0 b h)
 exact tq rfl rfl
abbrev Cc (r : Bool) : ES := J9 tp Tryz.f77 (fun y t => y = (.bool r) ∧ t = [])
abbrev Qaz (r : Bool) : ES := thenS (fun s' => T tp 41 (ca [1,1] Tryz.f77) s' ((Cc r))) ((Cc r))
abbrev Sa (r : Bool) : ES := Qz 0 ((Qaz r))
theorem Qa0 {r : Bool} (K : Nat) : ∀ (k : Nat), ∀ (x0 : List Int) (x1 a : Int) (flx0 : Bool), J7 K k x0 x1 a = some r → TL tp 41 (ca [1,0,1,0,0] Tryz.f77) ⟨[(0, .sl flx0 1 (mI x0)), (1, .int .i64 x1), (5, .int .i64 a)], []⟩ (Sa r) := by
 intro k
 induction k with
 | zero =>
  intro x0 x1 a flx0 h
  exact zn h
 | succ k ih =>
  intro x0 x1 a flx0 h
  rw [J7] at h
  refine Q6 ?_
  refine T.seq ?_
  refine T.seq (Qr ?_)
  refine mw rfl ?_
  refine mw rfl ?_
  refine oU x0 (cI .i64) Zx rfl ?_
  refine oI rfl ?_
  refine TL'.nil (tN ?_)
  rcases Qd h with ⟨l, h⟩ | ⟨l, h⟩
  refine Qq rfl l ?_
  refine T.skip (tN ?_)
  refine T.seq ?_
  refine T.block ?_
  refine T.seq ?_
  refine Yk ?_
  refine dV rfl rfl ?_
  refine dV rfl rfl ?_
  obtain ⟨b, m, h⟩ := bind_some h
  refine dX x0 (cI .i64) rfl (.f rfl) Zx i3 m rfl ?_
  refine dR rfl (.f rfl) ul3 rfl ?_
  refine dI rfl (.f rfl) rfl ?_
  refine dV rfl rfl ?_
  rcases Qd h with ⟨i, h⟩ | ⟨i, h⟩
  cases h
  refine dM rfl (.n i rfl) rfl ?_
  refine dM rfl (.n i rfl) rfl ?_
  refine dX x0 (cI .i64) rfl (.n i rfl) Zx i3 m rfl ?_
  refine dR rfl (.n i rfl) ul3 rfl ?_
  refine dM rfl (.n i rfl) rfl ?_
  refine dI rfl (.n i rfl) rfl ?_
  refine dZ rfl (.f rfl) i rfl ?_
  refine dV rfl rfl ?_
  rcases Qd h with ⟨j, h⟩ | ⟨j, h⟩
  cases h
  refine dM rfl (.n j rfl) rfl ?_
  refine dI rfl (.n j rfl) rfl ?_
  refine dM rfl (.n j rfl) rfl ?_
  rcases Qd h with ⟨d, h⟩ | ⟨d, h⟩
  refine dM rfl (.n d rfl) rfl ?_
  refine dM rfl (.n d rfl) rfl ?_
  refine dI rfl (.n d rfl) rfl ?_
  obtain ⟨g, q, h⟩ := bind_some h
  refine dX x0 (cI .i64) rfl (.n d rfl) Zx i3 q rfl ?_
  refine dR rfl (.n d rfl) ul3 rfl ?_
  refine dM rfl (.n d rfl) rfl ?_
  refine dM rfl (.n d rfl) rfl ?_
  refine dX x0 (cI .i64) rfl (.n d rfl) Zx i3 m rfl ?_
  refine dR rfl (.n d rfl) ul3 rfl ?_
  refine dI rfl (.n d rfl) rfl ?_
  refine dY rfl (.n j rfl) d rfl ?_
  refine dZ rfl (.f rfl) j rfl ?_
  refine dF [0,0,3,7,15,31,63,63,255,511,63,2047,4095,8191,16383,32767,65535,131071,131071,393215,1048575,2097151,131071,131071,12713983,29491199,67108863,134217727,268435455] Q3 rfl (by kernel_rfl) (fun u hu => (tN (Qm hu ?_)))
  rcases Qd h with ⟨p, h⟩ | ⟨p, h⟩
  cases h
  refine Qp rfl p ?_
  refine T.skip (Qn (tN ?_))
  refine Qr ?_
  refine mw rfl ?_
  refine oI rfl ?_
  refine aw rfl ?_
  refine TL'.nil (tN ?_)
  refine Qh ?_ (ih x0 x1 (wI (a + (1:Int))) flx0 h)
  exact tq rfl rfl
  refine dO d rfl rfl ?_
  refine dO d rfl rfl ?_
  refine dO d rfl rfl ?_
  refine dO d rfl rfl ?_
  refine dO d rfl rfl ?_
  refine dO d rfl rfl ?_
  refine dO d rfl rfl ?_
  refine dO d rfl rfl ?_
  refine dO d rfl rfl ?_
  refine dO d rfl rfl ?_
  refine dZ rfl (.n j rfl) d rfl ?_
  refine dZ rfl (.f rfl) j rfl ?_
  refine dF [0,0,3,7,15,31,63,63,255,511,63,2047,4095,8191,16383,32767,65535,131071,131071,393215,1048575,2097151,131071,131071,12713983,29491199,67108863,134217727,268435455] Q3 rfl (by kernel_rfl) (fun u hu => (tN (Qm hu ?_)))
  refine Qp rfl rfl ?_
  refine T.skip (Qn (tN ?_))
  refine Qr ?_
  refine mw rfl ?_
  refine oI rfl ?_
  refine aw rfl ?_
  refine TL'.nil (tN ?_)
  refine Qh ?_ (ih x0 x1 (wI (a + (1:Int))) flx0 h)
  exact tq rfl rfl
  refine Qp rfl l ?_
  refine T.exit (Qj (Qj (Qs (tN ?_))))
  refine T.seq (Qr ?_)
  refine aw rfl ?_
  refine TL'.nil (tN ?_)
  refine T.ret ?_
  exact fd rfl (by cases h; exact ⟨rfl, rfl⟩)
theorem Oc (K : Nat) {x0 : List Int} {x1 : Int} {flx0 r : Bool} (h : Mq K x0 x1 = some r) : Zm tp 77 [.sl flx0 1 (mI x0), .int .i64 x1] [] (.bool r) := by
 refine Qt Tryz.func77 rfl (nb rfl) ?_
 show T tp 41 (ca [] Tryz.f77) ⟨Qw 0 [.sl flx0 1 (mI x0), .int .i64 x1], []⟩ (Cc r)
 unfold Mq at h
 refine T.seq (Qr ?_)
 refine aw rfl ?_
 refine TL'.nil (tN ?_)
 refine T.seq ?_
 refine T.seq (Qr ?_)
 refine aw rfl ?_
 refine TL'.nil (tN ?_)
 refine T.block ?_
 refine T.loop ?_
 refine Qh ?_ (Qa0 K K x0 x1 (0:Int) flx0 h)
 exact tq rfl rfl
abbrev Cd (r : Bool) : ES := J9 tp Tryz.f44 (fun y t => y = (.bool r) ∧ t = [])
abbrev Ta (r : Bool) : ES := thenS (fun s' => T tp 70 (ca [1,1,1] Tryz.f44) s' ((Cd r))) ((Cd r))
abbrev P8 (r : Bool) : ES := Qz 0 ((Ta r))
theorem Qa1 {r : Bool} (K : Nat) : ∀ (k : Nat), ∀ (j : Int) (x0 : Zr) (m : Nat), Gm K k j x0 = some r → TL tp 70 (ca [1,1,0,1,0,0] Tryz.f44) ⟨[(1, .ptr m 0), (3, .int .i64 j)], [.box m 43 [.d (.sl false 1 (mI x0.First)), .d (.sl false 9 (x0.P.map Q1))]]⟩ (P8 r) := by
 intro k
 induction k with
 | zero =>
  intro j x0 m h
  exact zn h
 | succ k ih =>
  intro j x0 m h
  rw [Gm] at h
  refine Q6 ?_
  refine T.seq ?_
  refine T.seq (Qr ?_)
  refine mw rfl ?_
  refine oP Qhq i41 rfl ?_
  refine oL 0 Tu rfl ?_
  refine oU x0.P Q1 Tu rfl ?_
  refine oI rfl ?_
  refine TL'.nil (tN ?_)
  rcases Qd h with ⟨y, h⟩ | ⟨y, h⟩
  refine Qq rfl y ?_
  refine T.skip (tN ?_)
  refine T.seq ?_
  refine T.block ?_
  refine T.seq (Qr ?_)
  refine oP Qhq i41 rfl ?_
  refine oL 0 Tu rfl ?_
  refine mw rfl ?_
  obtain ⟨a, ab, h⟩ := bind_some h
  refine oX x0.P Q1 Tu i65 ab rfl ?_
  refine sp rfl (Za rfl (dk rfl) ul65 rfl i65 rfl (nb rfl) ?_)
  refine sp rfl (Zh rfl (dk rfl) i65 rfl (fun ad => ?_))
  refine sp rfl (Qy (i := 0) (cells' := [.d (.int .u64 a.S.a0), .d (.int .u64 a.S.a1), .d (.int .u64 a.S.a2), .d (.int .u64 a.S.a3), .d (.int .i64 a.Lo), .d (.int .i64 a.Hi), .d (.int .i64 a.Rule), .d (.bool a.Last), .d (.sl false 1 (mI a.Next))]) rfl rfl i65 rfl rfl rfl rfl (nb rfl) rfl ?_)
  refine TL'.nil (tN (T.seq (Qr ?_)))
  refine oP ul65 i63 rfl ?_
  refine oA 0 (Z5.dc .u64 a.S) Qhp i63 rfl ?_
  refine sp rfl (OpT.build (l := (Z5.dc .u64 (Z5.mk 0 0 0 0))) rfl (dk rfl) (Qh4 Qhp i63 i61) (M1 rfl) rfl rfl ?_)
  refine sp rfl (OpT.intsEql (k := .u64) (xs := [a.S.a0, a.S.a1, a.S.a2, a.S.a3]) (ys := [(Z5.mk 0 0 0 0).a0, (Z5.mk 0 0 0 0).a1, (Z5.mk 0 0 0 0).a2, (Z5.mk 0 0 0 0).a3]) rfl (dk rfl) Qhp ul61 i61 Tryz.eqGuardType63 rfl rfl rfl rfl rfl rfl (Qgz a.S (Z5.mk 0 0 0 0)) ?_)
  refine mw rfl ?_
  rcases Qd h with ⟨p, h⟩ | ⟨p, h⟩
  cases h
  refine sn rfl p (Zs rfl (dk rfl) ul65 rfl i3 (by decide) rfl ?_)
  refine sn rfl p (Zn (i := 0) rfl (dk rfl) ul3 rfl rfl rfl rfl ?_)
  refine sn rfl p (Zj rfl rfl (dk rfl) rfl rfl ?_)
  refine oZ p rfl ?_
  refine mw rfl ?_
  rcases Qd h with ⟨g, h⟩ | ⟨g, h⟩
  cases h
  refine sn rfl g (Zs rfl (dk rfl) ul65 rfl i3 (by decide) rfl ?_)
  refine sn rfl g (Zn (i := 0) rfl (dk rfl) ul3 rfl rfl rfl rfl ?_)
  refine sn rfl g (Zs rfl (dk rfl) ul65 rfl i3 (by decide) rfl ?_)
  refine sn rfl g (Zn (i := 0) rfl (dk rfl) ul3 rfl rfl rfl rfl ?_)
  refine sn rfl g (Zj rfl rfl (dk rfl) rfl rfl ?_)
  refine oZ g rfl ?_
  refine mw rfl ?_
  rcases Qd h with ⟨q, h⟩ | ⟨q, h⟩
  cases h
  refine sn rfl q (Zs rfl (dk rfl) ul65 rfl i3 (by decide) rfl ?_)
  refine sn rfl q (Zn (i := 0) rfl (dk rfl) ul3 rfl rfl rfl rfl ?_)
  refine sn rfl q (Zj rfl rfl (dk rfl) rfl rfl ?_)
  refine oZ q rfl ?_
  refine mw rfl ?_
  rcases Qd h with ⟨u, h⟩ | ⟨u, h⟩
  cases h
  refine sn rfl u (Zs rfl (dk rfl) ul65 rfl i3 (by decide) rfl ?_)
  refine sn rfl u (Zn (i := 0) rfl (dk rfl) ul3 rfl rfl rfl rfl ?_)
  refine sn rfl u (Zj rfl rfl (dk rfl) rfl rfl ?_)
  refine oZ u rfl ?_
  refine mw rfl ?_
  rcases Qd h with ⟨w, h⟩ | ⟨w, h⟩
  cases h
  refine sn rfl w (Zs rfl (dk rfl) ul65 rfl i3 (by decide) rfl ?_)
  refine sn rfl w (Zn (i := 0) rfl (dk rfl) ul3 rfl rfl rfl rfl ?_)
  refine sn rfl w (Zj rfl rfl (dk rfl) rfl rfl ?_)
  refine oZ w rfl ?_
  refine mw rfl ?_
  rcases Qd h with ⟨b, h⟩ | ⟨b, h⟩
  cases h
  refine sn rfl b (Zs rfl (dk rfl) ul65 rfl i38 (by decide) rfl ?_)
  refine sn rfl b (Zn (i := 0) rfl (dk rfl) Zx rfl rfl rfl rfl ?_)
  refine sn rfl b (Zs rfl (dk rfl) Qhq rfl i41 (by decide) rfl ?_)
  refine sn rfl b (Zn (i := 1) rfl (dk rfl) Tu rfl rfl rfl rfl ?_)
  refine sn rfl b (Zw (xs := x0.P) (f := Q1) rfl (dk rfl) Tu rfl ?_)
  obtain ⟨af, ac, h⟩ := bind_some h
  refine sn rfl b (Q0 rfl (dk rfl) Tryz.func77 rfl rfl (Q5.cons rfl (Q5.cons rfl Q5.nil)) (Zm.nil (Oc K (flx0 := false) ac)) ?_)
  refine sn rfl b (OpT.not rfl (dk rfl) rfl ?_)
  refine oZ b rfl ?_
  refine TL'.nil (tN ?_)
  rcases Qd h with ⟨aa, h⟩ | ⟨aa, h⟩
  cases h
  refine Qp rfl aa ?_
  refine T.skip (Qn (tN ?_))
  refine Qr ?_
  refine mw rfl ?_
  refine oI rfl ?_
  refine aw rfl ?_
  refine TL'.nil (tN ?_)
  refine Qh ?_ (ih (wI (j + (1:Int))) x0 m h)
  exact tr rfl (.c (.s .z) (.n _))
  refine Qp rfl y ?_
  refine T.exit (Qj (Qj (Qs (tN ?_))))
  refine T.seq (Qr ?_)
  refine aw rfl ?_
  refine TL'.nil (tN ?_)
  refine T.ret ?_
  exact fd rfl (by cases h; exact ⟨rfl, rfl⟩)
theorem Qd3 (K : Nat) {x0 : Zr} {r : Bool} (h : Es K x0 = some r) : Zm tp 44 [.agg [.sl false 1 (mI x0.First), .sl false 9 (x0.P.map Q1)]] [] (.bool r) := by
 refine Qt Tryz.func44 rfl (nb rfl) ?_
 show T tp 70 (ca [] Tryz.f44) ⟨Qw 0 [.agg [.sl false 1 (mI x0.First), .sl false 9 (x0.P.map Q1)]], []⟩ (Cd r)
 unfold Es at h
 refine T.seq (Qr ?_)
 refine sp rfl (Zb rfl (dk rfl) rfl (fun d => ?_))
 refine aw rfl ?_
 refine TL'.nil (tN ?_)
 refine T.seq ?_
 refine T.seq (Qr ?_)
 refine oP Qhq i41 rfl ?_
 refine oL 0 Tu rfl ?_
 refine oU x0.P Q1 Tu rfl ?_
 refine oI rfl ?_
 refine mw rfl ?_
 rcases Qd h with ⟨a, h⟩ | ⟨a, h⟩
 cases h
 refine sn rfl a (Zs rfl (dk rfl) Qhq rfl i38 (by decide) rfl ?_)
 refine sn rfl a (Zn (i := 0) rfl (dk rfl) Zx rfl rfl rfl rfl ?_)
 refine sn rfl a (Zs rfl (dk rfl) Qhq rfl i41 (by decide) rfl ?_)
 refine sn rfl a (Zn (i := 0) rfl (dk rfl) Tu rfl rfl rfl rfl ?_)
 refine sn rfl a (Zw (xs := x0.P) (f := Q1) rfl (dk rfl) Tu rfl ?_)
 obtain ⟨j, g, h⟩ := bind_some h
 refine sn rfl a (Q0 rfl (dk rfl) Tryz.func77 rfl rfl (Q5.cons rfl (Q5.cons rfl Q5.nil)) (Zm.nil (Oc K (flx0 := false) g)) ?_)
 refine sn rfl a (OpT.not rfl (dk rfl) rfl ?_)
 refine oZ a rfl ?_
 refine TL'.nil (tN ?_)
 rcases Qd h with ⟨b, h⟩ | ⟨b, h⟩
 cases h
 refine Qp rfl b ?_
 refine T.skip (tN ?_)
 refine T.seq ?_
 refine T.seq (Qr ?_)
 refine aw rfl ?_
 refine TL'.nil (tN ?_)
 refine T.block ?_
 refine T.loop ?_
 refine Qh ?_ (Qa1 K K (0:Int) x0 d h)
 exact tq rfl rfl
abbrev Ck (r : Bool) : ES := J9 tp Tryz.f78 (fun y t => y = (.bool r) ∧ t = [])
abbrev Qa9 (r : Bool) : ES := thenS (fun s' => T tp 27 (ca [1,1] Tryz.f78) s' ((Ck r))) ((Ck r))
abbrev Sh (r : Bool) : ES := Qz 0 ((Qa9 r))
theorem Qba {r : Bool} (K : Nat) : ∀ (k : Nat), ∀ (x0 : List Z5) (x1 x2 b : Int) (flx0 : Bool), Gt K k x0 x1 x2 b = some r → TL tp 27 (ca [1,0,1,0,0] Tryz.f78) ⟨[(0, .sl flx0 4 (x0.map (Z5.dc .u64))), (1, .int .u8 x1), (2, .int .u8 x2), (7, .int .i64 b)], []⟩ (Sh r) := by
 intro k
 induction k with
 | zero =>
  intro x0 x1 x2 b flx0 h
  exact zn h
 | succ k ih =>
  intro x0 x1 x2 b flx0 h
  rw [Gt] at h
  refine Q6 ?_
  refine T.seq ?_
  refine T.seq (Qr ?_)
  refine mw rfl ?_
  refine mw rfl ?_
  refine oU x0 (Z5.dc .u64) ul99 rfl ?_
  refine oI rfl ?_
  refine TL'.nil (tN ?_)
  rcases Qd h with ⟨i, h⟩ | ⟨i, h⟩
  refine Qq rfl i ?_
  refine T.skip (tN ?_)
  refine T.seq ?_
  refine T.block ?_
  refine T.seq ?_
  refine Yk ?_
  refine dV rfl rfl ?_
  refine dV rfl rfl ?_
  obtain ⟨a, l, h⟩ := bind_some h
  refine dX x0 (Z5.dc .u64) rfl (.f rfl) ul99 i63 l rfl ?_
  refine dS (c := ⟨some 17, .agg (Z5.dc .u64 a), [(16, .ref [.int .u64 a.a0, .int .u64 a.a1, .int .u64 a.a2, .int .u64 a.a3])], [], []⟩) (fun t hm => oF rfl rfl (Za rfl (dk rfl) Qhp rfl i63 hm.s0 (nb rfl) rfl)) rfl rfl ?_
  refine dV rfl rfl ?_
  obtain ⟨d, m, h⟩ := bind_some h
  refine dS (c := ⟨some 19, .bool d, [(17, .agg (Z5.dc .u64 a)), (18, .int .u8 x1)], [], []⟩) (fun t hm => oF rfl rfl (Q0 rfl (dk rfl) Tryz.func81 rfl rfl (Q5.cons hm.s0 (Q5.cons hm.s1 Q5.nil)) (Zm.nil (Lh K m)) rfl)) rfl rfl ?_
  refine dV rfl rfl ?_
  refine dV rfl rfl ?_
  refine dX x0 (Z5.dc .u64) rfl (.f rfl) ul99 i63 l rfl ?_
  refine dS (c := ⟨some 23, .agg (Z5.dc .u64 a), [(22, .ref [.int .u64 a.a0, .int .u64 a.a1, .int .u64 a.a2, .int .u64 a.a3])], [], []⟩) (fun t hm => oF rfl rfl (Za rfl (dk rfl) Qhp rfl i63 hm.s0 (nb rfl) rfl)) rfl rfl ?_
  refine dV rfl rfl ?_
  obtain ⟨g, p, h⟩ := bind_some h
  refine dS (c := ⟨some 25, .bool g, [(23, .agg (Z5.dc .u64 a)), (24, .int .u8 x2)], [], []⟩) (fun t hm => oF rfl rfl (Q0 rfl (dk rfl) Tryz.func81 rfl rfl (Q5.cons hm.s0 (Q5.cons hm.s1 Q5.nil)) (Zm.nil (Lh K p)) rfl)) rfl rfl ?_
  refine dS (c := ⟨some 26, .bool (!(d == g)), [(19, .bool d), (25, .bool g)], [], []⟩) (fun t hm => oF rfl rfl (OpT.bool_neq rfl (dk rfl) ul4 hm.s0 hm.s1 rfl)) rfl rfl ?_
  refine dF [0,0,3,7,0,31,0,0,192,448,0,2047,4095] Q3 rfl (by kernel_rfl) (fun u hu => (tN (Qm hu ?_)))
  rcases Qd h with ⟨j, h⟩ | ⟨j, h⟩
  refine Qq rfl j ?_
  refine T.seq (Qr ?_)
  refine aw rfl ?_
  refine TL'.nil (tN ?_)
  refine T.ret (Q2 (Qv (Qv (Q2 (Qv ?_)))))
  exact fd rfl (by cases h; exact ⟨rfl, rfl⟩)
  refine Qp rfl j ?_
  refine T.skip (Qn (tN ?_))
  refine Qr ?_
  refine mw rfl ?_
  refine oI rfl ?_
  refine aw rfl ?_
  refine TL'.nil (tN ?_)
  refine Qh ?_ (ih x0 x1 x2 (wI (b + (1:Int))) flx0 h)
  exact tq rfl rfl
  refine Qp rfl i ?_
  refine T.exit (Qj (Qj (Qs (tN ?_))))
  refine T.seq (Qr ?_)
  refine aw rfl ?_
  refine TL'.nil (tN ?_)
  refine T.ret ?_
  exact fd rfl (by cases h; exact ⟨rfl, rfl⟩)
theorem Qee (K : Nat) {x0 : List Z5} {x1 x2 : Int} {flx0 r : Bool} (h : Ey K x0 x1 x2 = some r) : Zm tp 78 [.sl flx0 4 (x0.map (Z5.dc .u64)), .int .u8 x1, .int .u8 x2] [] (.bool r) := by
 refine Qt Tryz.func78 rfl (nb rfl) ?_
 show T tp 27 (ca [] Tryz.f78) ⟨Qw 0 [.sl flx0 4 (x0.map (Z5.dc .u64)), .int .u8 x1, .int .u8 x2], []⟩ (Ck r)
 unfold Ey at h
 refine T.seq (Qr ?_)
 refine aw rfl ?_
 refine TL'.nil (tN ?_)
 refine T.seq ?_
 refine T.seq (Qr ?_)
 refine aw rfl ?_
 refine TL'.nil (tN ?_)
 refine T.block ?_
 refine T.loop ?_
 refine Qh ?_ (Qba K K x0 x1 x2 (0:Int) flx0 h)
 exact tq rfl rfl
abbrev Im (r : Q9) : ES := J9 tp Tryz.f45 (fun y t => y = (.agg ((Zi.dc 256 .u8 r.Of) ++ (([.int .i64 r.Many] : List DC)))) ∧ t = [])
abbrev Qcc (r : Q9) : ES := thenS (fun s' => T tp 47 (ca [1,1,1,1] Tryz.f45) s' ((Im r))) ((Im r))
abbrev Wd (r : Q9) : ES := Qz 0 ((Qcc r))
abbrev Dq (r : Q9) : ES := thenS (fun s' => TL tp 47 (ca [1,1,1,0,1,0,0] Tryz.f45) s' ((Wd r))) ((Wd r))
abbrev Pi (r : Q9) : ES := thenS (fun s' => T tp 47 (ca [1,1,1,0,1,0,0,1,1] Tryz.f45) s' ((Dq r))) ((Dq r))
abbrev Jn (r : Q9) : ES := Qz 1 ((Pi r))
abbrev Il (r : Q9) : ES := thenS (fun s' => T tp 47 (ca [1,1,1,0,1,0,0,1,0,0,1,1] Tryz.f45) s' ((Jn r))) ((Jn r))
abbrev Cm (r : Q9) : ES := Qz 2 ((Il r))
abbrev Ok (r : Q9) (go : (List Z5) → Int → Zi → Zi → (List Int) → Option Q9) : Prop := ∀ (x0 : List Z5) (a : Int) (b f : Zi) (g : List Int) (flx0 : Bool) (i j : Nat) (l : Value), go x0 a b f g = some r → TL tp 47 (ca [1,1,1,0,1,0,0] Tryz.f45) ⟨[(0, .sl flx0 4 (x0.map (Z5.dc .u64))), (2, .ptr i 0), (3, .ptr j 0), (4, .c (.ex l)), (5, .int .i64 a)], [(Qhd i b (0:Int)), (Qhd j f (0:Int)), .arrA l 5 1 (mU g)]⟩ (Wd r)
theorem L6 {r : Q9} (K : Nat) (go0 : (List Z5) → Int → Zi → Zi → (List Int) → Option Q9) (hgo0 : Ok r go0) (x0 : List Z5) (g j : Int) (l b : Zi) (m : List Int) (flx0 : Bool) (p q : Nat) (s : Value) (h : Wk K go0 x0 g j l b m = some r) : T tp 47 (ca [1,1,1,0,1,0,0,1,0,0,1,1,1] Tryz.f45) ⟨[(0, .sl flx0 4 (x0.map (Z5.dc .u64))), (2, .ptr p 0), (3, .ptr q 0), (4, .c (.ex s)), (5, .int .i64 g), (6, .int .i64 j)], [(Qhd p l (0:Int)), (Qhd q b (0:Int)), .arrA s 5 1 (mU m)]⟩ (Jn r) := by
 unfold Wk at h
 refine Qr ?_
 refine mw rfl ?_
 refine mw rfl ?_
 refine sp rfl (V0 rfl (dk rfl) ul3 ul5 rfl ?_)
 refine oP Qhi i22 rfl ?_
 obtain ⟨f, h⟩ := Zf h
 refine sp rfl (Y8 rfl (dk rfl) ul22 i5 rfl rfl f.1 f.2 ?_)
 refine sp rfl (W2 (i := 1) (cells' := ((Zi.oc 256 .u8 (Zi.set b g (IntKind.u8.wrap j))) ++ (([.d (.int .i64 (0:Int))]:List OC)))) rfl rfl i5 rfl rfl rfl (Zi.oc_lt (n := 256) (k := .u8) (a := b) (pre := []) (post := [.d (.int .i64 (0:Int))]) f.1 f.2) (Zi.oc_set (n := 256) (k := .u8) (a := b) (pre := []) (post := [.d (.int .i64 (0:Int))]) f.1 f.2) ?_)
 refine TL'.nil (Qn (tN ?_))
 refine Qr ?_
 refine mw rfl ?_
 refine oI rfl ?_
 refine aw rfl ?_
 refine TL'.nil (tN ?_)
 refine Qh ?_ (hgo0 x0 (wI (g + (1:Int))) l (Zi.set b g (IntKind.u8.wrap j)) m flx0 p q s h)
 exact tq rfl rfl
theorem Qeg {r : Q9} (K : Nat) (go0 : (List Z5) → Int → Zi → Zi → (List Int) → Option Q9) (hgo0 : Ok r go0) : ∀ (k : Nat), ∀ (x0 : List Z5) (b j : Int) (l m : Zi) (g : List Int) (flx0 : Bool) (p q : Nat) (s : Value), Mz K go0 k x0 b j l m g = some r → TL tp 47 (ca [1,1,1,0,1,0,0,1,0,0,1,0,0,0] Tryz.f45) ⟨[(0, .sl flx0 4 (x0.map (Z5.dc .u64))), (2, .ptr p 0), (3, .ptr q 0), (4, .c (.ex s)), (5, .int .i64 b), (6, .int .i64 j)], [(Qhd p l (0:Int)), (Qhd q m (0:Int)), .arrA s 5 1 (mU g)]⟩ (Cm r) := by
 intro k
 induction k with
 | zero =>
  intro x0 b j l m g flx0 p q s h
  exact zn h
 | succ k ih =>
  intro x0 b j l m g flx0 p q s h
  rw [Mz] at h
  refine Q6 ?_
  refine T.seq ?_
  refine T.seq (Qr ?_)
  refine mw rfl ?_
  refine mw rfl ?_
  refine sp rfl (Kk (i := 2) (xs := g) (f := (cI .u8)) rfl (dk rfl) C8 rfl rfl ?_)
  refine oI rfl ?_
  refine mw rfl ?_
  rcases Qd h with ⟨a, h⟩ | ⟨a, h⟩
  refine sn rfl a (OpT.move rfl (dk rfl) rfl ?_)
  refine sn rfl a (OpT.move rfl (dk rfl) rfl ?_)
  refine sn rfl a (OpT.move rfl (dk rfl) rfl ?_)
  refine Hz (Z6.view 18 2 rfl rfl) ?_
  obtain ⟨aa, ab, h⟩ := bind_some h
  refine sn rfl a (Y7 (xs := g) (f := (cI .u8)) (v := aa) rfl (dk rfl) C8 i5 rfl rfl ab ?_)
  refine sn rfl a (Vi rfl (dk rfl) ul5 rfl rfl rfl ?_)
  refine sn rfl a (OpT.move rfl (dk rfl) rfl ?_)
  refine sn rfl a (V0 rfl (dk rfl) ul3 ul5 rfl ?_)
  obtain ⟨aj, ac, h⟩ := bind_some h
  refine sn rfl a (Q0 rfl (dk rfl) Tryz.func78 rfl rfl (Q5.cons rfl (Q5.cons rfl (Q5.cons rfl Q5.nil))) (Zm.nil (Qee K (flx0 := flx0) ac)) ?_)
  refine sn rfl a (OpT.not rfl (dk rfl) rfl ?_)
  refine oY a rfl ?_
  refine TL'.nil (tN ?_)
  rcases Qd h with ⟨u, h⟩ | ⟨u, h⟩
  refine Qq rfl u ?_
  refine T.skip (tN ?_)
  refine T.block ?_
  refine Qr ?_
  refine mw rfl ?_
  refine oI rfl ?_
  refine aw rfl ?_
  refine TL'.nil (Qn (tN ?_))
  refine Qh ?_ (ih x0 b (wI (j + (1:Int))) l m g flx0 p q s h)
  exact tq rfl rfl
  refine Qp rfl u ?_
  refine T.exit (Qj (Qj (Qs (tN ?_))))
  refine T.seq ?_
  refine T.seq (Qr ?_)
  refine mw rfl ?_
  refine mw rfl ?_
  refine sp rfl (Kk (i := 2) (xs := g) (f := (cI .u8)) rfl (dk rfl) C8 rfl rfl ?_)
  refine oI rfl ?_
  refine TL'.nil (tN ?_)
  rcases Qd h with ⟨w, h⟩ | ⟨w, h⟩
  refine Qq rfl w ?_
  refine Qr ?_
  refine mw rfl ?_
  refine mw rfl ?_
  refine sp rfl (V0 rfl (dk rfl) ul3 ul5 rfl ?_)
  refine sp rfl (OpT.buildSlice (elems := ([(IntKind.u8.wrap b)] : List Int).map (cI .u8)) rfl (dk rfl) C8 i5 (by decide) rfl (M1 rfl) rfl rfl rfl (Uf rfl) (by decide) ?_)
  obtain ⟨ad, h⟩ := Zf h
  refine sp rfl (Zy (i := 2) (xs := g) (ys := [(IntKind.u8.wrap b)]) (f := (cI .u8)) rfl (dk rfl) C8 i5 rfl rfl rfl rfl ad (fun af => ?_))
  refine aw rfl ?_
  refine TL'.nil (tN ?_)
  refine Qm ?_ (L6 K go0 hgo0 x0 b j l m (g ++ [(IntKind.u8.wrap b)]) flx0 p q af h)
  exact tq rfl rfl
  refine Qp rfl w ?_
  refine T.skip (tN ?_)
  refine Qm ?_ (L6 K go0 hgo0 x0 b j l m g flx0 p q s h)
  exact tq rfl rfl
  refine pf rfl a ?_
  refine pf rfl a ?_
  refine pf rfl a ?_
  refine pf rfl a ?_
  refine pf rfl a ?_
  refine pf rfl a ?_
  refine pf rfl a ?_
  refine pf rfl a ?_
  refine pf rfl a ?_
  refine oZ a rfl ?_
  refine TL'.nil (tN ?_)
  refine Qp rfl rfl ?_
  refine T.exit (Qj (Qj (Qs (tN ?_))))
  refine T.seq ?_
  refine T.seq (Qr ?_)
  refine mw rfl ?_
  refine mw rfl ?_
  refine sp rfl (Kk (i := 2) (xs := g) (f := (cI .u8)) rfl (dk rfl) C8 rfl rfl ?_)
  refine oI rfl ?_
  refine TL'.nil (tN ?_)
  rcases Qd h with ⟨y, h⟩ | ⟨y, h⟩
  refine Qq rfl y ?_
  refine Qr ?_
  refine mw rfl ?_
  refine mw rfl ?_
  refine sp rfl (V0 rfl (dk rfl) ul3 ul5 rfl ?_)
  refine sp rfl (OpT.buildSlice (elems := ([(IntKind.u8.wrap b)] : List Int).map (cI .u8)) rfl (dk rfl) C8 i5 (by decide) rfl (M1 rfl) rfl rfl rfl (Uf rfl) (by decide) ?_)
  obtain ⟨ag, h⟩ := Zf h
  refine sp rfl (Zy (i := 2) (xs := g) (ys := [(IntKind.u8.wrap b)]) (f := (cI .u8)) rfl (dk rfl) C8 i5 rfl rfl rfl rfl ag (fun ai => ?_))
  refine aw rfl ?_
  refine TL'.nil (tN ?_)
  refine Qm ?_ (L6 K go0 hgo0 x0 b j l m (g ++ [(IntKind.u8.wrap b)]) flx0 p q ai h)
  exact tq rfl rfl
  refine Qp rfl y ?_
  refine T.skip (tN ?_)
  refine Qm ?_ (L6 K go0 hgo0 x0 b j l m g flx0 p q s h)
  exact tq rfl rfl
theorem Qeh {r : Q9} (K : Nat) : ∀ (k : Nat), ∀ (x0 : List Z5) (g : Int) (j b : Zi) (a : List Int) (flx0 : Bool) (m p : Nat) (q : Value), Lg K k x0 g j b a = some r → TL tp 47 (ca [1,1,1,0,1,0,0] Tryz.f45) ⟨[(0, .sl flx0 4 (x0.map (Z5.dc .u64))), (2, .ptr m 0), (3, .ptr p 0), (4, .c (.ex q)), (5, .int .i64 g)], [(Qhd m j (0:Int)), (Qhd p b (0:Int)), .arrA q 5 1 (mU a)]⟩ (Wd r) := by
 intro k
 induction k with
 | zero =>
  intro x0 g j b a flx0 m p q h
  exact zn h
 | succ k ih =>
  intro x0 g j b a flx0 m p q h
  rw [Lg] at h
  refine Q6 ?_
  refine T.seq ?_
  refine T.seq (Qr ?_)
  refine mw rfl ?_
  refine oI rfl ?_
  refine TL'.nil (tN ?_)
  rcases Qd h with ⟨s, h⟩ | ⟨s, h⟩
  refine Qq rfl s ?_
  refine T.skip (tN ?_)
  refine T.seq ?_
  refine T.block ?_
  refine T.seq (Qr ?_)
  refine aw rfl ?_
  refine TL'.nil (tN ?_)
  refine T.seq ?_
  refine T.block ?_
  refine T.loop ?_
  refine Qh ?_ (Qeg K (Lg K k) ih K x0 g (0:Int) j b a flx0 m p q h)
  exact tq rfl rfl
  refine Qp rfl s ?_
  refine T.exit (Qj (Qj (Qs (tN ?_))))
  refine T.seq (Qr ?_)
  refine mw rfl ?_
  refine sp rfl (Kk (i := 2) (xs := a) (f := (cI .u8)) rfl (dk rfl) C8 rfl rfl ?_)
  refine oP Qhi i3 rfl ?_
  refine sp rfl (W2 (i := 1) (cells' := ((Zi.oc 256 .u8 b) ++ (([.d (.int .i64 (a.length : Int))]:List OC)))) rfl rfl i3 rfl rfl rfl (nb rfl) rfl ?_)
  refine TL'.nil (tN (T.seq (Qr ?_)))
  refine oA 1 ((Zi.dc 256 .u8 b) ++ (([.int .i64 (a.length : Int)] : List DC))) Qhi i24 rfl ?_
  refine sp rfl (Qy (i := 0) (cells' := ((Zi.oc 256 .u8 b) ++ (([.d (.int .i64 (a.length : Int))]:List OC)))) rfl rfl i24 rfl rfl rfl rfl (nb rfl) rfl ?_)
  refine TL'.nil (tN ?_)
  refine T.ret ?_
  exact Fin.done (.cons _ _ _ _ (.cellAgg 2 24 _ 0 0 24 _ ((Zi.dc 256 .u8 b) ++ (([.int .i64 (a.length : Int)] : List DC))) _ _ 257 _ rfl rfl rfl rfl Qhi rfl i24) .nil) (by cases h; exact ⟨rfl, rfl⟩)
theorem Qha (K : Nat) {x0 : List Z5} {flx0 : Bool} {r : Q9} (h : Rm K x0 = some r) : Zm tp 45 [.sl flx0 4 (x0.map (Z5.dc .u64))] [] (.agg ((Zi.dc 256 .u8 r.Of) ++ (([.int .i64 r.Many] : List DC)))) := by
 refine Qt Tryz.func45 rfl (nb rfl) ?_
 show T tp 47 (ca [] Tryz.f45) ⟨Qw 0 [.sl flx0 4 (x0.map (Z5.dc .u64))], []⟩ (Im r)
 unfold Rm at h
 refine T.seq (Qr ?_)
 refine sp rfl (Zh rfl (dk rfl) i24 rfl (fun a => ?_))
 refine TL'.nil (tN (T.seq (Qr ?_)))
 refine sp rfl (OpT.build (l := ((Zi.dc 256 .u8 (Zi.mk fun _ => 0)) ++ (([.int .i64 (0:Int)] : List DC)))) rfl (dk rfl) (Zv (pl := [(0, 256), (256, 1)]) Qhi i24 rfl) (M1 rfl) rfl rfl ?_)
 refine sp rfl (Zh rfl (dk rfl) i24 rfl (fun b => ?_))
 refine sp rfl (Qy (i := 0) (cells' := ((Zi.oc 256 .u8 (Zi.mk fun _ => 0)) ++ (([.d (.int .i64 (0:Int))]:List OC)))) rfl rfl i24 rfl rfl rfl rfl (nb rfl) rfl ?_)
 refine TL'.nil (tN (T.seq (Qr ?_)))
 refine aw rfl ?_
 refine TL'.nil (tN ?_)
 refine T.seq ?_
 refine T.seq (Qr ?_)
 refine aw rfl ?_
 refine TL'.nil (tN ?_)
 refine T.block ?_
 refine T.loop ?_
 refine Qh (Xy 5 1) ?_
 refine Qh ?_ (Qeh K K x0 (0:Int) (Zi.mk fun _ => 0) (Zi.mk fun _ => 0) [] flx0 a b (Qf1 2) h)
 exact tr rfl (.c (.s (.s .z)) (.c (.s .z) (.c .z (.n _))))
abbrev Wt (bx0 : Nat) (x0 : Qi) (r : Int) : ES := J9 tp Tryz.f113 (fun y t => ∃ γ : Nat → Value, y = (.int .i64 r) ∧ t = [(Xn bx0 x0.g.First x0.g.P (γ 0) x0.a.Split.Of x0.a.Split.Many (γ 1) (γ 2) x0.e), .arrA (γ 0) 3 1 (mI x0.number), .arrA (γ 1) 59 2 (mA x0.a.Counts), .arrX (γ 2) 51 4 0 (x0.a.States.map Qb)])
abbrev Fc (bx0 : Nat) (x0 : Qi) (r : Int) : ES := thenS (fun s' => T tp 34 (ca [1,1] Tryz.f113) s' ((Wt bx0 x0 r))) ((Wt bx0 x0 r))
abbrev D8 (bx0 : Nat) (x0 : Qi) (r : Int) : ES := Qz 0 ((Fc bx0 x0 r))
theorem Fe {r : Int} (K bx0 : Nat) (x0 : Qi) : ∀ (k : Nat), ∀ (x2 x3 : Int) (x0 : Qi) (x1 : Qa) (b c w0_0aa : Value) (j : Nat), Wc K k x2 x3 x0 x1 = some r → TL tp 34 (ca [1,0,1,0,0] Tryz.f113) ⟨[(0, .ptr bx0 0), (2, .int .i64 x2), (3, .int .i64 x3), (5, .ptr j 0), (9, .int .i64 (0:Int))], [(Xn bx0 x0.g.First x0.g.P b x0.a.Split.Of x0.a.Split.Many c w0_0aa x0.e), .arrA b 3 1 (mI x0.number), .arrA c 59 2 (mA x0.a.Counts), .arrX w0_0aa 51 4 0 (x0.a.States.map Qb), (Jz j x1.L x1.R x1.Rule x1.Next)]⟩ (D8 bx0 x0 r) := by
 intro k
 induction k with
 | zero =>
  intro x2 x3 x0 x1 b c w0_0aa j h
  exact zn h
 | succ k ih =>
  intro x2 x3 x0 x1 b c w0_0aa j h
  rw [Wc] at h
  refine Q6 ?_
  refine T.seq ?_
  refine T.seq (Qr ?_)
  refine mw rfl ?_
  refine oP Wi i38 rfl ?_
  refine oL 4 Zx rfl ?_
  refine oU x1.R (cI .i64) Zx rfl ?_
  refine oI rfl ?_
  refine TL'.nil (tN ?_)
  rcases Qd h with ⟨l, h⟩ | ⟨l, h⟩
  cases h
  refine Qp rfl l ?_
  refine T.exit (Qj (Qj (Qs (tN ?_))))
  refine T.seq (Qr ?_)
  refine aw rfl ?_
  refine TL'.nil (tN ?_)
  refine T.ret ?_
  exact Q7 (.cons _ _ _ _ (.tmp 8 _ rfl) .nil) (.cons 0 rfl (.cons 0 rfl (.cons 0 rfl (.cons 0 rfl (.nil _))))) (by cases h; exact ⟨gl [b, c, w0_0aa], rfl, rfl⟩)
theorem Mb (K : Nat) {x0 : Qi} {x1 : Qa} {x2 x3 : Int} {bx0 : Nat} {wx0c1 wx0c2c1 wx0c2c2 : Value} {r : Int} (h : Je K x0 x1 x2 x3 = some r) : U7 tp 113 [.ptr bx0 0, .agg [.sl false 1 (mI x1.L), .sl false 1 (mI x1.R), .sl false 1 (mI x1.Rule), .sl false 1 (x1.Next.map (cL 2 Qf))], .int .i64 x2, .int .i64 x3] [(Xn bx0 x0.g.First x0.g.P wx0c1 x0.a.Split.Of x0.a.Split.Many wx0c2c1 wx0c2c2 x0.e), .arrA wx0c1 3 1 (mI x0.number), .arrA wx0c2c1 59 2 (mA x0.a.Counts), .arrX wx0c2c2 51 4 0 (x0.a.States.map Qb)] (fun γ => (.int .i64 r)) (fun γ => [(Xn bx0 x0.g.First x0.g.P (γ 0) x0.a.Split.Of x0.a.Split.Many (γ 1) (γ 2) x0.e), .arrA (γ 0) 3 1 (mI x0.number), .arrA (γ 1) 59 2 (mA x0.a.Counts), .arrX (γ 2) 51 4 0 (x0.a.States.map Qb)]) := by
 refine Qt Tryz.func113 rfl (nb rfl) ?_
 show T tp 34 (ca [] Tryz.f113) ⟨Qw 0 [.ptr bx0 0, .agg [.sl false 1 (mI x1.L), .sl false 1 (mI x1.R), .sl false 1 (mI x1.Rule), .sl false 1 (x1.Next.map (cL 2 Qf))], .int .i64 x2, .int .i64 x3], [(Xn bx0 x0.g.First x0.g.P wx0c1 x0.a.Split.Of x0.a.Split.Many wx0c2c1 wx0c2c2 x0.e), .arrA wx0c1 3 1 (mI x0.number), .arrA wx0c2c1 59 2 (mA x0.a.Counts), .arrX wx0c2c2 51 4 0 (x0.a.States.map Qb)]⟩ (Wt bx0 x0 r)
 unfold Je at h
 refine T.seq (Qr ?_)
 refine sp rfl (Zb rfl (dk rfl) rfl (fun b => ?_))
 refine aw rfl ?_
 refine TL'.nil (tN ?_)
 refine T.seq ?_
 refine T.seq (Qr ?_)
 refine aw rfl ?_
 refine TL'.nil (tN ?_)
 refine T.block ?_
 refine T.loop ?_
 refine Qh ?_ (Fe K bx0 x0 K x2 x3 x0 x1 wx0c1 wx0c2c1 wx0c2c2 b h)
 exact tr rfl (.c (.s .z) (.c (.s .z) (.c (.s .z) (.c (.s .z) (.c .z (.n _))))))
abbrev O9 (bx0 : Nat) (x0 : Qi) (r : Bool) : ES := J9 tp Tryz.f79 (fun y t => ∃ γ : Nat → Value, y = (.bool r) ∧ t = [(Xn bx0 x0.g.First x0.g.P (γ 0) x0.a.Split.Of x0.a.Split.Many (γ 1) (γ 2) x0.e), .arrA (γ 0) 3 1 (mI x0.number), .arrA (γ 1) 59 2 (mA x0.a.Counts), .arrX (γ 2) 51 4 0 (x0.a.States.map Qb)])
theorem M7 (K : Nat) {x0 : Qi} {x1 : Qa} {x2 x3 : Int} {bx0 : Nat} {wx0c1 wx0c2c1 wx0c2c2 : Value} {r : Bool} (h : Jt K x0 x1 x2 x3 = some r) : U7 tp 79 [.ptr bx0 0, .agg [.sl false 1 (mI x1.L), .sl false 1 (mI x1.R), .sl false 1 (mI x1.Rule), .sl false 1 (x1.Next.map (cL 2 Qf))], .int .i64 x2, .int .i64 x3] [(Xn bx0 x0.g.First x0.g.P wx0c1 x0.a.Split.Of x0.a.Split.Many wx0c2c1 wx0c2c2 x0.e), .arrA wx0c1 3 1 (mI x0.number), .arrA wx0c2c1 59 2 (mA x0.a.Counts), .arrX wx0c2c2 51 4 0 (x0.a.States.map Qb)] (fun γ => (.bool r)) (fun γ => [(Xn bx0 x0.g.First x0.g.P (γ 0) x0.a.Split.Of x0.a.Split.Many (γ 1) (γ 2) x0.e), .arrA (γ 0) 3 1 (mI x0.number), .arrA (γ 1) 59 2 (mA x0.a.Counts), .arrX (γ 2) 51 4 0 (x0.a.States.map Qb)]) := by
 refine Qt Tryz.func79 rfl (nb rfl) ?_
 show T tp 15 (ca [] Tryz.f79) ⟨Qw 0 [.ptr bx0 0, .agg [.sl false 1 (mI x1.L), .sl false 1 (mI x1.R), .sl false 1 (mI x1.Rule), .sl false 1 (x1.Next.map (cL 2 Qf))], .int .i64 x2, .int .i64 x3], [(Xn bx0 x0.g.First x0.g.P wx0c1 x0.a.Split.Of x0.a.Split.Many wx0c2c1 wx0c2c2 x0.e), .arrA wx0c1 3 1 (mI x0.number), .arrA wx0c2c1 59 2 (mA x0.a.Counts), .arrX wx0c2c2 51 4 0 (x0.a.States.map Qb)]⟩ (O9 bx0 x0 r)
 unfold Jt at h
 refine T.seq (Qr ?_)
 refine sp rfl (Zb rfl (dk rfl) rfl (fun j => ?_))
 refine aw rfl ?_
 refine TL'.nil (tN (T.seq (Qr ?_)))
 refine mw rfl ?_
 refine oA 0 [.sl false 1 (mI x1.L), .sl false 1 (mI x1.R), .sl false 1 (mI x1.Rule), .sl false 1 (x1.Next.map (cL 2 Qf))] Wi i51 rfl ?_
 refine mw rfl ?_
 refine mw rfl ?_
 obtain ⟨m, f, h⟩ := bind_some h
 refine sp rfl (Q8 (is := [1, 2, 3, 4]) (ph := []) rfl (dk rfl) Tryz.func113 rfl rfl (Q5.cons rfl (Q5.cons rfl (Q5.cons rfl (Q5.cons rfl Q5.nil)))) (Mb K (bx0 := bx0) (wx0c1 := wx0c1) (wx0c2c1 := wx0c2c1) (wx0c2c2 := wx0c2c2) f) (.cons rfl rfl (.cons rfl rfl (.cons rfl rfl (.cons rfl rfl (.nil))))) (fun _ => rfl) (fun b => ?_))
 refine nm (.c (.c (.c (.c (.c (.n)))))) ?_
 refine oI rfl ?_
 refine aw rfl ?_
 refine TL'.nil (tN ?_)
 refine T.ret ?_
 exact Q7 (.cons _ _ _ _ (.tmp 8 _ rfl) .nil) (.cons 1 rfl (.cons 1 rfl (.cons 1 rfl (.cons 1 rfl (.nil _))))) (by cases h; exact ⟨gl [b 0, b 1, b 2], rfl, rfl⟩)
abbrev Hd (bx0 : Nat) (x0 : Qi) (r : Int) : ES := J9 tp Tryz.f47 (fun y t => ∃ γ : Nat → Value, y = (.int .i64 r) ∧ t = [(Xn bx0 x0.g.First x0.g.P (γ 0) x0.a.Split.Of x0.a.Split.Many (γ 1) (γ 2) x0.e), .arrA (γ 0) 3 1 (mI x0.number), .arrA (γ 1) 59 2 (mA x0.a.Counts), .arrX (γ 2) 51 4 0 (x0.a.States.map Qb)])
abbrev Fb (bx0 : Nat) (x0 : Qi) (r : Int) : ES := thenS (fun s' => T tp 55 (ca [1,1,1] Tryz.f47) s' ((Hd bx0 x0 r))) ((Hd bx0 x0 r))
abbrev D6 (bx0 : Nat) (x0 : Qi) (r : Int) : ES := Qz 0 ((Fb bx0 x0 r))
theorem F3 {r : Int} (K bx0 : Nat) (x0 : Qi) : ∀ (k : Nat), ∀ (x2 y aa : Int) (x0 : Qi) (x1 : Qa) (ab ac w0_0aa : Value) (q : Nat), Xu K k x2 y aa x0 x1 = some r → TL tp 55 (ca [1,1,0,1,0,0] Tryz.f47) ⟨[(0, .ptr bx0 0), (2, .int .i64 x2), (4, .ptr q 0), (7, .int .i64 y), (8, .int .i64 aa)], [(Xn bx0 x0.g.First x0.g.P ab x0.a.Split.Of x0.a.Split.Many ac w0_0aa x0.e), .arrA ab 3 1 (mI x0.number), .arrA ac 59 2 (mA x0.a.Counts), .arrX w0_0aa 51 4 0 (x0.a.States.map Qb), (Jz q x1.L x1.R x1.Rule x1.Next)]⟩ (D6 bx0 x0 r) := by
 intro k
 induction k with
 | zero =>
  intro x2 y aa x0 x1 ab ac w0_0aa q h
  exact zn h
 | succ k ih =>
  intro x2 y aa x0 x1 ab ac w0_0aa q h
  rw [Xu] at h
  refine Q6 ?_
  refine T.seq ?_
  refine T.seq (Qr ?_)
  refine mw rfl ?_
  refine oP Wi i38 rfl ?_
  refine oL 4 Zx rfl ?_
  refine oU x1.L (cI .i64) Zx rfl ?_
  refine oI rfl ?_
  refine TL'.nil (tN ?_)
  rcases Qd h with ⟨aj, h⟩ | ⟨aj, h⟩
  refine Qq rfl aj ?_
  refine T.skip (tN ?_)
  refine T.seq ?_
  refine T.block ?_
  refine T.seq ?_
  refine Qm Y4 ?_
  refine H1 ?_
  refine dC (c := ⟨some 17, .ptr bx0 0, [(0, .ptr bx0 0)], [], []⟩) (fun t hm => oF rfl rfl (OpT.move rfl (dk rfl) hm.s0 ⟨u0, rfl⟩)) (fun _ => rfl) (fun _ => rfl) ?_
  refine dC (c := ⟨some 18, .ptr bx0 0, [(17, .ptr bx0 0)], [], []⟩) (fun t hm => oF rfl rfl (OpT.nilCheck rfl (dk rfl) hm.s0 rfl ⟨u0, rfl⟩)) (fun _ => rfl) (fun _ => rfl) ?_
  refine dC (c := ⟨some 19, .ptr bx0 (0 + 0), [(18, .ptr bx0 0)], [], []⟩) (fun t hm => oF rfl rfl (Zs rfl (dk rfl) Qf0 rfl i43 (by decide) hm.s0 ⟨u0, rfl⟩)) (fun _ => rfl) (fun _ => rfl) ?_
  refine dC (c := ⟨some 20, .ptr bx0 (0 + 0 + 1), [(19, .ptr bx0 (0 + 0))], [], []⟩) (fun t hm => oF rfl rfl (Zs rfl (dk rfl) Qhq rfl i41 (by decide) hm.s0 ⟨u0, rfl⟩)) (fun _ => rfl) (fun _ => rfl) ?_
  refine dC (c := ⟨some 21, .sl false 9 (x0.g.P.map Q1), [(20, .ptr bx0 (0 + 0 + 1))], [(1, (Xn bx0 x0.g.First x0.g.P ab x0.a.Split.Of x0.a.Split.Many ac w0_0aa x0.e))], []⟩) (fun t hm => oF rfl rfl (Zn (i := 1) rfl (dk rfl) Tu rfl hm.s0 hm.o0 rfl ⟨u0, rfl⟩)) (fun _ => rfl) (fun _ => rfl) ?_
  refine dC (c := ⟨some 22, .ptr q (0 + 0), [(4, .ptr q 0)], [], []⟩) (fun t hm => oF rfl rfl (Zs rfl (dk rfl) Wi rfl i38 (by decide) hm.s0 ⟨u0, rfl⟩)) (fun _ => rfl) (fun _ => rfl) ?_
  refine dC (c := ⟨some 23, .sl false 1 (mI x1.L), [(22, .ptr q (0 + 0))], [(5, (Jz q x1.L x1.R x1.Rule x1.Next))], []⟩) (fun t hm => oF rfl rfl (Zn (i := 5) rfl (dk rfl) Zx rfl hm.s0 hm.o0 rfl ⟨u0, rfl⟩)) (fun _ => rfl) (fun _ => rfl) ?_
  refine dC (c := ⟨some 24, .int .i64 aa, [(8, .int .i64 aa)], [], []⟩) (fun t hm => oF rfl rfl (OpT.move rfl (dk rfl) hm.s0 ⟨u0, rfl⟩)) (fun _ => rfl) (fun _ => rfl) ?_
  obtain ⟨ad, al, h⟩ := bind_some h
  refine dC (c := ⟨some 25, .ref [.int .i64 ad], [(23, .sl false 1 (mI x1.L)), (24, .int .i64 aa)], [], []⟩) (fun t hm => oF rfl rfl (Y7 (xs := x1.L) (f := (cI .i64)) (v := ad) rfl (dk rfl) Zx i3 hm.s0 hm.s1 al ⟨u0, rfl⟩)) (fun _ => rfl) (fun _ => rfl) ?_
  refine dC (c := ⟨some 26, .int .i64 ad, [(25, .ref [.int .i64 ad])], [], []⟩) (fun t hm => oF rfl rfl (Vi rfl (dk rfl) ul3 rfl hm.s0 rfl ⟨u0, rfl⟩)) (fun _ => rfl) (fun _ => rfl) ?_
  obtain ⟨j, am, h⟩ := bind_some h
  refine dC (c := ⟨some 27, .ref [.int .u64 j.S.a0, .int .u64 j.S.a1, .int .u64 j.S.a2, .int .u64 j.S.a3, .int .i64 j.Lo, .int .i64 j.Hi, .int .i64 j.Rule, .bool j.Last, .sl false 1 (mI j.Next)], [(21, .sl false 9 (x0.g.P.map Q1)), (26, .int .i64 ad)], [], []⟩) (fun t hm => oF rfl rfl (Y7 (xs := x0.g.P) (f := Q1) (v := j) rfl (dk rfl) Tu i65 hm.s0 hm.s1 am ⟨u0, rfl⟩)) (fun _ => rfl) (fun _ => rfl) ?_
  refine dC (c := ⟨some 28, .agg [.int .u64 j.S.a0, .int .u64 j.S.a1, .int .u64 j.S.a2, .int .u64 j.S.a3, .int .i64 j.Lo, .int .i64 j.Hi, .int .i64 j.Rule, .bool j.Last, .sl false 1 (mI j.Next)], [(27, .ref [.int .u64 j.S.a0, .int .u64 j.S.a1, .int .u64 j.S.a2, .int .u64 j.S.a3, .int .i64 j.Lo, .int .i64 j.Hi, .int .i64 j.Rule, .bool j.Last, .sl false 1 (mI j.Next)])], [], []⟩) (fun t hm => oF rfl rfl (Za rfl (dk rfl) ul65 rfl i65 hm.s0 (nb rfl) ⟨u0, rfl⟩)) (fun _ => rfl) (fun _ => rfl) ?_
  refine DGG.step (c := fun p => ⟨some 9, .ptr ((p 12).2) 0, [], [(0, .ro 0 [])], [(0, .box ((p 12).2) 65 [.d (.int .u64 (Z5.mk 0 0 0 0).a0), .d (.int .u64 (Z5.mk 0 0 0 0).a1), .d (.int .u64 (Z5.mk 0 0 0 0).a2), .d (.int .u64 (Z5.mk 0 0 0 0).a3), .d (.int .i64 (0:Int)), .d (.int .i64 (0:Int)), .d (.int .i64 (0:Int)), .d (.bool false), .d (.ex (.slice none 0 0))])]⟩) [12] (fun p γ' h => by simp only [h 12 (by decide)]) (fun p t hm => oF rfl rfl (Qij 0 rfl (dk rfl) i65 rfl hm.o0 (fun b => ⟨(fun _ => undef, b), rfl⟩))) (fun p => Z3 rfl rfl) ?_
  refine DGG.step (c := fun p => ⟨none, .any, [(9, .ptr ((p 12).2) 0), (28, .agg [.int .u64 j.S.a0, .int .u64 j.S.a1, .int .u64 j.S.a2, .int .u64 j.S.a3, .int .i64 j.Lo, .int .i64 j.Hi, .int .i64 j.Rule, .bool j.Last, .sl false 1 (mI j.Next)])], [(0, .box ((p 12).2) 65 [.d (.int .u64 (Z5.mk 0 0 0 0).a0), .d (.int .u64 (Z5.mk 0 0 0 0).a1), .d (.int .u64 (Z5.mk 0 0 0 0).a2), .d (.int .u64 (Z5.mk 0 0 0 0).a3), .d (.int .i64 (0:Int)), .d (.int .i64 (0:Int)), .d (.int .i64 (0:Int)), .d (.bool false), .d (.ex (.slice none 0 0))])], [(0, .box ((p 12).2) 65 [.d (.int .u64 j.S.a0), .d (.int .u64 j.S.a1), .d (.int .u64 j.S.a2), .d (.int .u64 j.S.a3), .d (.int .i64 j.Lo), .d (.int .i64 j.Hi), .d (.int .i64 j.Rule), .d (.bool j.Last), .d (.sl false 1 (mI j.Next))])]⟩) [12] (fun p γ' h => by simp only [h 12 (by decide)]) (fun p t hm => oF rfl rfl (Qy (i := 0) (cells' := [.d (.int .u64 j.S.a0), .d (.int .u64 j.S.a1), .d (.int .u64 j.S.a2), .d (.int .u64 j.S.a3), .d (.int .i64 j.Lo), .d (.int .i64 j.Hi), .d (.int .i64 j.Rule), .d (.bool j.Last), .d (.sl false 1 (mI j.Next))]) rfl rfl i65 hm.s0 hm.s1 rfl hm.o0 (nb rfl) rfl ⟨u0, rfl⟩)) (fun p => Z3 rfl rfl) ?_
  refine gF [0,1,3,7,15,0,32,0,224,480,1023,2047,0,8191] Q3 rfl (by kernel_rfl) (fun _ => by kernel_rfl) (fun p u hu => (tN (Qm hu ?_)))
  refine T.seq ?_
  refine H1 ?_
  refine dC (c := ⟨some 29, .ptr ((p 12).2) (0 + 7), [(9, .ptr ((p 12).2) 0)], [], []⟩) (fun t hm => oF rfl rfl (Zs rfl (dk rfl) ul65 rfl i4 (by decide) hm.s0 ⟨u0, rfl⟩)) (fun _ => rfl) (fun _ => rfl) ?_
  refine dC (c := ⟨some 30, .bool j.Last, [(29, .ptr ((p 12).2) (0 + 7))], [(0, .box ((p 12).2) 65 [.d (.int .u64 j.S.a0), .d (.int .u64 j.S.a1), .d (.int .u64 j.S.a2), .d (.int .u64 j.S.a3), .d (.int .i64 j.Lo), .d (.int .i64 j.Hi), .d (.int .i64 j.Rule), .d (.bool j.Last), .d (.sl false 1 (mI j.Next))])], []⟩) (fun t hm => oF rfl rfl (Zn (i := 0) rfl (dk rfl) ul4 rfl hm.s0 hm.o0 rfl ⟨u0, rfl⟩)) (fun _ => rfl) (fun _ => rfl) ?_
  refine dC (c := ⟨some 31, .bool j.Last, [(30, .bool j.Last)], [], []⟩) (fun t hm => oF rfl rfl (OpT.move rfl (dk rfl) hm.s0 ⟨u0, rfl⟩)) (fun _ => rfl) (fun _ => rfl) ?_
  rcases Qd h with ⟨w, h⟩ | ⟨w, h⟩
  refine dC (c := ⟨some 32, .ptr bx0 0, [(0, .ptr bx0 0), (31, .bool j.Last)], [], []⟩) (fun t hm => oN rfl rfl rfl hm.s1 w (OpT.move rfl (dk rfl) hm.s0 ⟨u0, rfl⟩)) (fun _ => rfl) (fun _ => rfl) ?_
  refine dC (c := ⟨some 33, .agg [.sl false 1 (mI x1.L), .sl false 1 (mI x1.R), .sl false 1 (mI x1.Rule), .sl false 1 (x1.Next.map (cL 2 Qf))], [(4, .ptr q 0), (31, .bool j.Last)], [(5, (Jz q x1.L x1.R x1.Rule x1.Next))], []⟩) (fun t hm => oN rfl rfl rfl hm.s1 w (Uh (i := 5) (l := [.sl false 1 (mI x1.L), .sl false 1 (mI x1.R), .sl false 1 (mI x1.Rule), .sl false 1 (x1.Next.map (cL 2 Qf))]) rfl (dk rfl) Wi rfl i51 hm.s0 hm.o0 rfl rfl ⟨u0, rfl⟩)) (fun _ => rfl) (fun _ => rfl) ?_
  refine dC (c := ⟨some 34, .int .i64 x2, [(2, .int .i64 x2), (31, .bool j.Last)], [], []⟩) (fun t hm => oN rfl rfl rfl hm.s1 w (OpT.move rfl (dk rfl) hm.s0 ⟨u0, rfl⟩)) (fun _ => rfl) (fun _ => rfl) ?_
  refine dC (c := ⟨some 35, .ptr q (0 + 0), [(4, .ptr q 0), (31, .bool j.Last)], [], []⟩) (fun t hm => oN rfl rfl rfl hm.s1 w (Zs rfl (dk rfl) Wi rfl i38 (by decide) hm.s0 ⟨u0, rfl⟩)) (fun _ => rfl) (fun _ => rfl) ?_
  refine dC (c := ⟨some 36, .sl false 1 (mI x1.L), [(35, .ptr q (0 + 0)), (31, .bool j.Last)], [(5, (Jz q x1.L x1.R x1.Rule x1.Next))], []⟩) (fun t hm => oN rfl rfl rfl hm.s1 w (Zn (i := 5) rfl (dk rfl) Zx rfl hm.s0 hm.o0 rfl ⟨u0, rfl⟩)) (fun _ => rfl) (fun _ => rfl) ?_
  refine dC (c := ⟨some 37, .int .i64 aa, [(8, .int .i64 aa), (31, .bool j.Last)], [], []⟩) (fun t hm => oN rfl rfl rfl hm.s1 w (OpT.move rfl (dk rfl) hm.s0 ⟨u0, rfl⟩)) (fun _ => rfl) (fun _ => rfl) ?_
  refine dC (c := ⟨some 38, .ref [.int .i64 ad], [(36, .sl false 1 (mI x1.L)), (37, .int .i64 aa), (31, .bool j.Last)], [], []⟩) (fun t hm => oN rfl rfl rfl hm.s2 w (Y7 (xs := x1.L) (f := (cI .i64)) (v := ad) rfl (dk rfl) Zx i3 hm.s0 hm.s1 al ⟨u0, rfl⟩)) (fun _ => rfl) (fun _ => rfl) ?_
  refine dC (c := ⟨some 39, .int .i64 ad, [(38, .ref [.int .i64 ad]), (31, .bool j.Last)], [], []⟩) (fun t hm => oN rfl rfl rfl hm.s1 w (Vi rfl (dk rfl) ul3 rfl hm.s0 rfl ⟨u0, rfl⟩)) (fun _ => rfl) (fun _ => rfl) ?_
  obtain ⟨af, an, h⟩ := bind_some h
  refine DGG.step (c := fun m => ⟨some 40, .bool af, [(32, .ptr bx0 0), (33, .agg [.sl false 1 (mI x1.L), .sl false 1 (mI x1.R), .sl false 1 (mI x1.Rule), .sl false 1 (x1.Next.map (cL 2 Qf))]), (34, .int .i64 x2), (39, .int .i64 ad), (31, .bool j.Last)], [(4, .arrX w0_0aa 51 4 0 (x0.a.States.map Qb)), (3, .arrA ac 59 2 (mA x0.a.Counts)), (2, .arrA ab 3 1 (mI x0.number)), (1, (Xn bx0 x0.g.First x0.g.P ab x0.a.Split.Of x0.a.Split.Many ac w0_0aa x0.e))], [(1, (Xn bx0 x0.g.First x0.g.P ((m 11).1 0) x0.a.Split.Of x0.a.Split.Many ((m 11).1 1) ((m 11).1 2) x0.e)), (2, .arrA ((m 11).1 0) 3 1 (mI x0.number)), (3, .arrA ((m 11).1 1) 59 2 (mA x0.a.Counts)), (4, .arrX ((m 11).1 2) 51 4 0 (x0.a.States.map Qb))]⟩) [11] (fun m γ' h => by simp only [h 11 (by decide)]) (fun m t hm => One.step rfl (.on rfl rfl (hm.slots (31, _) (.tail _ (.tail _ (.tail _ (.tail _ (.head _)))))) w) (Q8 (is := [1, 2, 3, 4]) (ph := []) rfl (dk rfl) Tryz.func79 rfl rfl (Q5.cons hm.s0 (Q5.cons hm.s1 (Q5.cons hm.s2 (Q5.cons hm.s3 Q5.nil)))) (M7 K (bx0 := bx0) (wx0c1 := ab) (wx0c2c1 := ac) (wx0c2c2 := w0_0aa) an) (.cons (hm.objs (1, _) (.tail _ (.tail _ (.tail _ (.head _))))) rfl (.cons hm.o2 rfl (.cons hm.o1 rfl (.cons hm.o0 rfl (.nil))))) (fun _ => rfl) (fun g => ⟨(g, 0), rfl⟩))) (fun m => Z3 rfl rfl) ?_
  refine dC (c := ⟨some 41, .bool af, [(31, .bool j.Last), (40, .bool af)], [], []⟩) (fun t hm => oF rfl rfl (Bw rfl (dk rfl) hm.s0 w hm.s1 ⟨u0, rfl⟩)) (fun _ => rfl) (fun _ => rfl) ?_
  refine dC (c := ⟨some 42, .bool af, [(41, .bool af)], [], []⟩) (fun t hm => oF rfl rfl (OpT.move rfl (dk rfl) hm.s0 ⟨u0, rfl⟩)) (fun _ => rfl) (fun _ => rfl) ?_
  rcases Qd h with ⟨ag, h⟩ | ⟨ag, h⟩
  refine dC (c := ⟨some 43, .int .i64 y, [(7, .int .i64 y), (42, .bool af)], [], []⟩) (fun t hm => oN rfl rfl rfl hm.s1 ag (OpT.move rfl (dk rfl) hm.s0 ⟨u0, rfl⟩)) (fun _ => rfl) (fun _ => rfl) ?_
  refine dC (c := ⟨some 44, .bool (decide (y < (0:Int))), [(43, .int .i64 y), (42, .bool af)], [], []⟩) (fun t hm => oN rfl rfl rfl hm.s1 ag (Zj rfl rfl (dk rfl) hm.s0 rfl ⟨u0, rfl⟩)) (fun _ => rfl) (fun _ => rfl) ?_
  refine dC (c := ⟨some 45, .bool (decide (y < (0:Int))), [(44, .bool (decide (y < (0:Int)))), (42, .bool af)], [], []⟩) (fun t hm => oN rfl rfl rfl hm.s1 ag (OpT.move rfl (dk rfl) hm.s0 ⟨u0, rfl⟩)) (fun _ => rfl) (fun _ => rfl) ?_
  rcases Qd h with ⟨ai, h⟩ | ⟨ai, h⟩
  refine DGG.off ai rfl rfl rfl rfl rfl (fun _ => rfl) ?_
  refine DGG.off ai rfl rfl rfl rfl rfl (fun _ => rfl) ?_
  refine DGG.off ai rfl rfl rfl rfl rfl (fun _ => rfl) ?_
  refine DGG.off ai rfl rfl rfl rfl rfl (fun _ => rfl) ?_
  refine dC (c := ⟨some 50, .bool true, [(45, .bool (decide (y < (0:Int)))), (42, .bool af)], [], []⟩) (fun t hm => oN rfl rfl rfl hm.s1 ag (Bw rfl (dk rfl) hm.s0 ai rfl ⟨u0, rfl⟩)) (fun _ => rfl) (fun _ => rfl) ?_
  refine dC (c := ⟨some 51, .bool true, [(42, .bool af), (50, .bool true)], [], []⟩) (fun t hm => oF rfl rfl (Bw rfl (dk rfl) hm.s0 ag hm.s1 ⟨u0, rfl⟩)) (fun _ => rfl) (fun _ => rfl) ?_
  refine gF [0,1,3,7,7,7,7,71,7,455,967,2047,4095,8191,16383,32767,65535,131071,262143,131071,1048575,2097151,4194303] Q3 rfl (by kernel_rfl) (fun _ => by kernel_rfl) (fun m u hu => (tN (Qm hu ?_)))
  refine Qq rfl rfl ?_
  refine Qr ?_
  refine oP ul65 i3 rfl ?_
  refine oL 0 ul3 rfl ?_
  refine aw rfl ?_
  refine TL'.nil (Qn (tN ?_))
  refine Qr ?_
  refine mw rfl ?_
  refine oI rfl ?_
  refine aw rfl ?_
  refine TL'.nil (tN ?_)
  refine Qh ?_ (ih x2 j.Rule (wI (aa + (1:Int))) x0 x1 ((m 11).1 0) ((m 11).1 1) ((m 11).1 2) q h)
  exact tr rfl (.c (.s .z) (.c (.s .z) (.c (.s .z) (.c (.s .z) (.c (.s .z) (.n _))))))
  cases h
  cases h
  refine DGG.off w rfl rfl rfl rfl rfl (fun _ => rfl) ?_
  refine DGG.off w rfl rfl rfl rfl rfl (fun _ => rfl) ?_
  refine DGG.off w rfl rfl rfl rfl rfl (fun _ => rfl) ?_
  refine DGG.off w rfl rfl rfl rfl rfl (fun _ => rfl) ?_
  refine DGG.off w rfl rfl rfl rfl rfl (fun _ => rfl) ?_
  refine DGG.off w rfl rfl rfl rfl rfl (fun _ => rfl) ?_
  refine DGG.off w rfl rfl rfl rfl rfl (fun _ => rfl) ?_
  refine DGG.off w rfl rfl rfl rfl rfl (fun _ => rfl) ?_
  refine DGG.off w rfl rfl rfl rfl rfl (fun _ => rfl) ?_
  refine dC (c := ⟨some 41, .bool false, [(31, .bool j.Last)], [], []⟩) (fun t hm => oF rfl rfl (Bx rfl (dk rfl) hm.s0 w rfl ⟨u0, rfl⟩)) (fun _ => rfl) (fun _ => rfl) ?_
  refine dC (c := ⟨some 42, .bool false, [(41, .bool false)], [], []⟩) (fun t hm => oF rfl rfl (OpT.move rfl (dk rfl) hm.s0 ⟨u0, rfl⟩)) (fun _ => rfl) (fun _ => rfl) ?_
  refine DGG.off rfl rfl rfl rfl rfl rfl (fun _ => rfl) ?_
  refine DGG.off rfl rfl rfl rfl rfl rfl (fun _ => rfl) ?_
  refine DGG.off rfl rfl rfl rfl rfl rfl (fun _ => rfl) ?_
  refine DGG.gone rfl rfl rfl rfl rfl (fun _ => rfl) ?_
  refine DGG.gone rfl rfl rfl rfl rfl (fun _ => rfl) ?_
  refine DGG.gone rfl rfl rfl rfl rfl (fun _ => rfl) ?_
  refine DGG.gone rfl rfl rfl rfl rfl (fun _ => rfl) ?_
  refine DGG.off rfl rfl rfl rfl rfl rfl (fun _ => rfl) ?_
  refine dC (c := ⟨some 51, .bool false, [(42, .bool false)], [], []⟩) (fun t hm => oF rfl rfl (Bx rfl (dk rfl) hm.s0 rfl rfl ⟨u0, rfl⟩)) (fun _ => rfl) (fun _ => rfl) ?_
  refine gF [0,1,3,7,7,7,7,71,7,455,967,2047,4095,8191,16383,32767,65535,131071,262143,131071,1048575,2097151,4194303] Q3 rfl (by kernel_rfl) (fun _ => by kernel_rfl) (fun m u hu => (tN (Qm hu ?_)))
  refine Qp rfl rfl ?_
  refine T.skip (Qn (tN ?_))
  refine Qr ?_
  refine mw rfl ?_
  refine oI rfl ?_
  refine aw rfl ?_
  refine TL'.nil (tN ?_)
  refine Qh ?_ (ih x2 y (wI (aa + (1:Int))) x0 x1 ab ac w0_0aa q h)
  exact tr rfl (.c (.s .z) (.c (.s .z) (.c (.s .z) (.c (.s .z) (.c (.s .z) (.n _))))))
  refine Qp rfl aj ?_
  refine T.exit (Qj (Qj (Qs (tN ?_))))
  refine T.seq (Qr ?_)
  refine mw rfl ?_
  refine aw rfl ?_
  refine TL'.nil (tN ?_)
  refine T.ret ?_
  exact Q7 (.cons _ _ _ _ (.tmp 6 _ rfl) .nil) (.cons 0 rfl (.cons 0 rfl (.cons 0 rfl (.cons 0 rfl (.nil _))))) (by cases h; exact ⟨gl [ab, ac, w0_0aa], rfl, rfl⟩)
theorem O8 (K : Nat) {x0 : Qi} {x1 : Qa} {x2 : Int} {bx0 : Nat} {wx0c1 wx0c2c1 wx0c2c2 : Value} {r : Int} (h : G4 K x0 x1 x2 = some r) : U7 tp 47 [.ptr bx0 0, .agg [.sl false 1 (mI x1.L), .sl false 1 (mI x1.R), .sl false 1 (mI x1.Rule), .sl false 1 (x1.Next.map (cL 2 Qf))], .int .i64 x2] [(Xn bx0 x0.g.First x0.g.P wx0c1 x0.a.Split.Of x0.a.Split.Many wx0c2c1 wx0c2c2 x0.e), .arrA wx0c1 3 1 (mI x0.number), .arrA wx0c2c1 59 2 (mA x0.a.Counts), .arrX wx0c2c2 51 4 0 (x0.a.States.map Qb)] (fun γ => (.int .i64 r)) (fun γ => [(Xn bx0 x0.g.First x0.g.P (γ 0) x0.a.Split.Of x0.a.Split.Many (γ 1) (γ 2) x0.e), .arrA (γ 0) 3 1 (mI x0.number), .arrA (γ 1) 59 2 (mA x0.a.Counts), .arrX (γ 2) 51 4 0 (x0.a.States.map Qb)]) := by
 refine Qt Tryz.func47 rfl (nb rfl) ?_
 show T tp 55 (ca [] Tryz.f47) ⟨Qw 0 [.ptr bx0 0, .agg [.sl false 1 (mI x1.L), .sl false 1 (mI x1.R), .sl false 1 (mI x1.Rule), .sl false 1 (x1.Next.map (cL 2 Qf))], .int .i64 x2], [(Xn bx0 x0.g.First x0.g.P wx0c1 x0.a.Split.Of x0.a.Split.Many wx0c2c1 wx0c2c2 x0.e), .arrA wx0c1 3 1 (mI x0.number), .arrA wx0c2c1 59 2 (mA x0.a.Counts), .arrX wx0c2c2 51 4 0 (x0.a.States.map Qb)]⟩ (Hd bx0 x0 r)
 unfold G4 at h
 refine T.seq (Qr ?_)
 refine sp rfl (Zb rfl (dk rfl) rfl (fun b => ?_))
 refine aw rfl ?_
 refine TL'.nil (tN (T.seq (Qr ?_)))
 refine aw rfl ?_
 refine TL'.nil (tN ?_)
 refine T.seq ?_
 refine T.seq (Qr ?_)
 refine aw rfl ?_
 refine TL'.nil (tN ?_)
 refine T.block ?_
 refine T.loop ?_
 refine Qh ?_ (F3 K bx0 x0 K x2 (-1:Int) (0:Int) x0 x1 wx0c1 wx0c2c1 wx0c2c2 b h)
 exact tr rfl (.c (.s .z) (.c (.s .z) (.c (.s .z) (.c (.s .z) (.c .z (.n _))))))
abbrev Ez (r : Z5) : ES := J9 tp Tryz.f115 (fun y t => y = (.agg (Z5.dc .u64 r)) ∧ t = [])
abbrev Qcb (r : Z5) : ES := thenS (fun s' => T tp 25 (ca [1,1,1] Tryz.f115) s' ((Ez r))) ((Ez r))
abbrev Te (r : Z5) : ES := Qz 0 ((Qcb r))
theorem Qc5 {r : Z5} (K : Nat) : ∀ (k : Nat), ∀ (x1 b : Int) (x0 : Q9) (j : Z5) (g : List Int) (l m : Nat) (p : Value), Hw K k x1 b x0 j g = some r → TL tp 25 (ca [1,1,0,1,0,0] Tryz.f115) ⟨[(1, .int .i64 x1), (2, .ptr l 0), (4, .ptr m 0), (5, .c (.ex p)), (6, .int .i64 b)], [(Qhd l x0.Of x0.Many), .box m 63 (Z5.oc .u64 j), .arrA p 5 1 (mU g)]⟩ (Te r) := by
 intro k
 induction k with
 | zero =>
  intro x1 b x0 j g l m p h
  exact zn h
 | succ k ih =>
  intro x1 b x0 j g l m p h
  rw [Hw] at h
  refine Q6 ?_
  refine T.seq ?_
  refine T.seq (Qr ?_)
  refine mw rfl ?_
  refine oI rfl ?_
  refine TL'.nil (tN ?_)
  rcases Qd h with ⟨s, h⟩ | ⟨s, h⟩
  refine Qq rfl s ?_
  refine T.skip (tN ?_)
  refine T.seq ?_
  refine T.block ?_
  refine T.seq (Qr ?_)
  refine mw rfl ?_
  refine oP Qhi i22 rfl ?_
  obtain ⟨q, h⟩ := Zf h
  refine sp rfl (Y8 rfl (dk rfl) ul22 i5 rfl rfl q.1 q.2 ?_)
  refine sp rfl (Zn (i := 0) rfl (dk rfl) ul5 rfl rfl rfl (Qev (n := 256) (k := .u8) (a := x0.Of) (pre := []) (post := [.d (.int .i64 x0.Many)]) q.1 q.2) ?_)
  refine sp rfl (V0 rfl (dk rfl) ul5 ul3 rfl ?_)
  refine mw rfl ?_
  refine oI rfl ?_
  refine TL'.nil (tN ?_)
  rcases Qd h with ⟨u, h⟩ | ⟨u, h⟩
  refine Qq rfl u ?_
  refine Qr ?_
  refine mw rfl ?_
  refine mw rfl ?_
  refine sp rfl (V0 rfl (dk rfl) ul3 ul5 rfl ?_)
  refine sp rfl (OpT.buildSlice (elems := ([(IntKind.u8.wrap b)] : List Int).map (cI .u8)) rfl (dk rfl) C8 i5 (by decide) rfl (M1 rfl) rfl rfl rfl (Uf rfl) (by decide) ?_)
  obtain ⟨w, h⟩ := Zf h
  refine sp rfl (Zy (i := 2) (xs := g) (ys := [(IntKind.u8.wrap b)]) (f := (cI .u8)) rfl (dk rfl) C8 i5 rfl rfl rfl rfl w (fun y => ?_))
  refine aw rfl ?_
  refine TL'.nil (Qn (tN ?_))
  refine Qr ?_
  refine mw rfl ?_
  refine oI rfl ?_
  refine aw rfl ?_
  refine TL'.nil (tN ?_)
  refine Qh ?_ (ih x1 (wI (b + (1:Int))) x0 j (g ++ [(IntKind.u8.wrap b)]) l m y h)
  exact tq rfl rfl
  refine Qp rfl u ?_
  refine T.skip (Qn (tN ?_))
  refine Qr ?_
  refine mw rfl ?_
  refine oI rfl ?_
  refine aw rfl ?_
  refine TL'.nil (tN ?_)
  refine Qh ?_ (ih x1 (wI (b + (1:Int))) x0 j g l m p h)
  exact tq rfl rfl
  refine Qp rfl s ?_
  refine T.exit (Qj (Qj (Qs (tN ?_))))
  refine T.seq (Qr ?_)
  refine mw rfl ?_
  obtain ⟨v, aa, h⟩ := bind_some h
  refine sp rfl (Q0 rfl (dk rfl) Tryz.func131 rfl rfl (Q5.view (i := 2) rfl rfl Q5.nil) (Zm.nil (T2 K (flx0 := false) aa)) ?_)
  refine sp rfl (Qy (i := 1) (cells' := (Z5.oc .u64 v)) rfl rfl i63 rfl rfl rfl rfl (nb rfl) rfl ?_)
  refine TL'.nil (tN ?_)
  refine T.ret ?_
  exact Fin.done (.cons _ _ _ _ (.cellAgg 4 63 _ 0 1 63 _ (Z5.dc .u64 v) _ _ 4 _ rfl rfl rfl rfl Qhp rfl i63) .nil) (by cases h; exact ⟨rfl, rfl⟩)
theorem Qf8 (K : Nat) {x0 : Q9} {x1 : Int} {r : Z5} (h : Oj K x0 x1 = some r) : Zm tp 115 [.agg ((Zi.dc 256 .u8 x0.Of) ++ (([.int .i64 x0.Many] : List DC))), .int .i64 x1] [] (.agg (Z5.dc .u64 r)) := by
 refine Qt Tryz.func115 rfl (nb rfl) ?_
 show T tp 25 (ca [] Tryz.f115) ⟨Qw 0 [.agg ((Zi.dc 256 .u8 x0.Of) ++ (([.int .i64 x0.Many] : List DC))), .int .i64 x1], []⟩ (Ez r)
 unfold Oj at h
 refine T.seq (Qr ?_)
 refine sp rfl (Zb rfl (dk rfl) rfl (fun a => ?_))
 refine sp rfl (Zh rfl (dk rfl) i63 rfl (fun b => ?_))
 refine TL'.nil (tN (T.seq (Qr ?_)))
 refine aw rfl ?_
 refine TL'.nil (tN ?_)
 refine T.seq ?_
 refine T.seq (Qr ?_)
 refine aw rfl ?_
 refine TL'.nil (tN ?_)
 refine T.block ?_
 refine T.loop ?_
 refine Qh (Xy 5 1) ?_
 refine Qh ?_ (Qc5 K K x1 (0:Int) x0 (Z5.mk 0 0 0 0) [] a b (Qf1 2) h)
 exact tr rfl (.c (.s (.s .z)) (.c (.s .z) (.c .z (.n _))))
end Go.Rv

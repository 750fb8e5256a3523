/- Each function computes what its plain text says: printed by a program of ours. -/
import Derived.Test.YtcmfaclkgdmpbaaGreatDoorRgW6
namespace Go.Rv
open Go.Proofs
set_option maxRecDepth 100000
set_option maxHeartbeats 4000000
set_option linter.unusedVariables false
abbrev Hq (bx0 : Nat) (r : Qs × Qj) : ES := Wb tp Tryz.f106 (fun y t => ∃ γ : Nat → Value, y = (.agg [.bool r.1.null, .sl false 1 (mI r.1.first), .sl false 1 (mI r.1.last)]) ∧ t = [(Ji bx0 (γ 0)), .arrX (γ 0) 65 9 0 (r.2.p.map Q0)])
abbrev Fh (bx0 : Nat) (r : Qs × Qj) : ES := thenS (fun s' => T tp 52 (ca [1,1,1] Tryz.f106) s' ((Hq bx0 r))) ((Hq bx0 r))
abbrev Xz (bx0 : Nat) (r : Qs × Qj) : ES := Qz 0 ((Fh bx0 r))
abbrev Gv (bx0 : Nat) (r : Qs × Qj) : ES := thenS (fun s' => TL tp 52 (ca [1,1,0,1,0,0] Tryz.f106) s' ((Xz bx0 r))) ((Xz bx0 r))
abbrev Ci (bx0 : Nat) (r : Qs × Qj) : ES := thenS (fun s' => T tp 52 (ca [1,1,0,1,0,0,1,1] Tryz.f106) s' ((Gv bx0 r))) ((Gv bx0 r))
abbrev K8 (bx0 : Nat) (r : Qs × Qj) : ES := Qz 1 ((Ci bx0 r))
abbrev F9 (bx0 : Nat) (r : Qs × Qj) (go : (List Qs) → Int → (List Zp) → Bool → (List Int) → (List Int) → Option (Qs × Qj)) : Prop := ∀ (x1 : List Qs) (a : Int) (b : List Zp) (c : Bool) (f g : List Int) (flx1 : Bool) (i : Value) (j l : Nat), go x1 a b c f g = some r → TL tp 52 (ca [1,1,0,1,0,0] Tryz.f106) ⟨[(0, .ptr bx0 0), (1, .sl flx1 3 (x1.map Zk)), (4, .ptr j 0), (5, .ptr l 0), (6, .int .i64 a)], [(Ji bx0 i), .arrX i 65 9 0 (b.map Q0), (o128 j false (.slice none 0 0) (.slice none 0 0)), (Nl l c f g)]⟩ (Xz bx0 r)
theorem Kg {r : Qs × Qj} (K bx0 : Nat) (go0 : (List Qs) → Int → (List Zp) → Bool → (List Int) → (List Int) → Option (Qs × Qj)) (hgo0 : F9 bx0 r go0) (x1 : List Qs) (g : Int) (j : List Zp) (s : Bool) (a u : List Int) (l : Bool) (v b : List Int) (flx1 : Bool) (m : Value) (p q w : Nat) (h : Ul K go0 x1 g j s a u l v b = some r) : T tp 52 (ca [1,1,0,1,0,0,1,0,0,1,1,1] Tryz.f106) ⟨[(0, .ptr bx0 0), (1, .sl flx1 3 (x1.map Zk)), (4, .ptr p 0), (5, .ptr q 0), (6, .int .i64 g), (7, .ptr w 0)], [(Ji bx0 m), .arrX m 65 9 0 (j.map Q0), (o128 p false (.slice none 0 0) (.slice none 0 0)), (Nl q s a u), (Nl w l v b)]⟩ (K8 bx0 r) := by
 unfold Ul at h
 refine T.seq ?_
 refine T.seq (Qq ?_)
 refine oP Kj i4 rfl ?_
 refine oL 4 ul4 rfl ?_
 refine TL'.nil (tN ?_)
 rcases Qe h with ⟨y, h⟩ | ⟨y, h⟩
 cases h
 refine Qp rfl y ?_
 refine Qq ?_
 refine oP Kj i38 rfl ?_
 refine oL 4 Zy rfl ?_
 refine oP Kj i38 rfl ?_
 refine sp rfl (Wl (i := 3) (cells' := [.d (.bool s), .d (.sl false 1 (mI a)), .d (.sl false 1 (mI b))]) rfl rfl i38 rfl rfl rfl (nb rfl) rfl ?_)
 refine TL'.nil (tN ?_)
 refine Qq ?_
 refine oP Kj i4 rfl ?_
 refine oL 3 ul4 rfl ?_
 refine mw rfl ?_
 rcases Qe h with ⟨f, h⟩ | ⟨f, h⟩
 refine sn rfl f (Z0 rfl (dk rfl) Kj rfl i4 (by decide) rfl ?_)
 refine sn rfl f (Zo (i := 4) rfl (dk rfl) ul4 rfl rfl rfl rfl ?_)
 refine oY f rfl ?_
 refine oP Kj i4 rfl ?_
 refine sp rfl (Wl (i := 3) (cells' := [.d (.bool l), .d (.sl false 1 (mI a)), .d (.sl false 1 (mI b))]) rfl rfl i4 rfl rfl rfl (nb rfl) rfl ?_)
 refine TL'.nil (Ql (tN ?_))
 refine Qq ?_
 refine mw rfl ?_
 refine oI rfl ?_
 refine aw rfl ?_
 refine TL'.nil (tN ?_)
 refine Qh ?_ (hgo0 x1 (wI (g + (1:Int))) j l a b flx1 m p q h)
 exact tq rfl rfl
 refine pf rfl f ?_
 refine pf rfl f ?_
 refine oZ f rfl ?_
 refine oP Kj i4 rfl ?_
 refine sp rfl (Wl (i := 3) (cells' := [.d (.bool false), .d (.sl false 1 (mI a)), .d (.sl false 1 (mI b))]) rfl rfl i4 rfl rfl rfl (nb rfl) rfl ?_)
 refine TL'.nil (Ql (tN ?_))
 refine Qq ?_
 refine mw rfl ?_
 refine oI rfl ?_
 refine aw rfl ?_
 refine TL'.nil (tN ?_)
 refine Qh ?_ (hgo0 x1 (wI (g + (1:Int))) j false a b flx1 m p q h)
 exact tq rfl rfl
theorem F8 {r : Qs × Qj} (K bx0 : Nat) : ∀ (k : Nat), ∀ (x1 : List Qs) (m : Int) (y : List Zp) (a : Bool) (j b : List Int) (flx1 : Bool) (q : Value) (u w : Nat), Yp K k x1 m y a j b = some r → TL tp 52 (ca [1,1,0,1,0,0] Tryz.f106) ⟨[(0, .ptr bx0 0), (1, .sl flx1 3 (x1.map Zk)), (4, .ptr u 0), (5, .ptr w 0), (6, .int .i64 m)], [(Ji bx0 q), .arrX q 65 9 0 (y.map Q0), (o128 u false (.slice none 0 0) (.slice none 0 0)), (Nl w a j b)]⟩ (Xz bx0 r) := by
 intro k
 induction k with
 | zero =>
  intro x1 m y a j b flx1 q u w h
  exact zn h
 | succ k ih =>
  intro x1 m y a j b flx1 q u w h
  rw [Yp] at h
  refine Q6 ?_
  refine T.seq ?_
  refine T.seq (Qq ?_)
  refine mw rfl ?_
  refine mw rfl ?_
  refine oU x1 Zk ul171 rfl ?_
  refine oI rfl ?_
  refine TL'.nil (tN ?_)
  rcases Qe h with ⟨aa, h⟩ | ⟨aa, h⟩
  refine Qr rfl aa ?_
  refine T.skip (tN ?_)
  refine T.seq ?_
  refine T.block ?_
  refine T.seq (Qq ?_)
  refine mw rfl ?_
  refine mw rfl ?_
  obtain ⟨g, ai, h⟩ := bind_some h
  refine oX x1 Zk ul171 i128 ai rfl ?_
  refine sp rfl (Zb rfl (dk rfl) Kj rfl i128 rfl (nb rfl) ?_)
  refine sp rfl (Ze rfl (dk rfl) i128 rfl (fun ac => ?_))
  refine sp rfl (Qx (i := 0) (cells' := [.d (.bool g.null), .d (.sl false 1 (mI g.first)), .d (.sl false 1 (mI g.last))]) rfl rfl i128 rfl rfl rfl rfl (nb rfl) rfl ?_)
  refine TL'.nil (tN (T.seq (Qq ?_)))
  refine mw rfl ?_
  refine oP Kj i38 rfl ?_
  refine oL 4 Zy rfl ?_
  refine oP Kj i38 rfl ?_
  refine oL 0 Zy rfl ?_
  obtain ⟨ad, aj, h⟩ := bind_some h
  refine sp rfl (Q8 (is := [1, 2]) (ph := []) rfl (dk rfl) Tryz.func107 rfl rfl (Q7.cons rfl (Q7.cons rfl (Q7.cons rfl Q7.nil))) (N3 K (bx0 := bx0) (wx0c0 := q) (flx1 := false) (flx2 := false) aj) (.cons rfl rfl (.cons rfl rfl (.nil))) (fun _ => rfl) (fun af => ?_))
  refine nm (.c (.c (.c (.c (.c (.n)))))) ?_
  refine TL'.nil (tN ?_)
  refine T.seq ?_
  refine T.seq (Qq ?_)
  refine oP Kj i4 rfl ?_
  refine oL 4 ul4 rfl ?_
  refine TL'.nil (tN ?_)
  rcases Qe h with ⟨ab, h⟩ | ⟨ab, h⟩
  refine Qr rfl ab ?_
  refine Qq ?_
  refine oP Kj i38 rfl ?_
  refine oL 4 Zy rfl ?_
  refine oP Kj i38 rfl ?_
  refine oL 0 Zy rfl ?_
  obtain ⟨ag, al, h⟩ := bind_some h
  refine sp rfl (Q1 rfl (dk rfl) Tryz.func67 rfl rfl (Q7.cons rfl (Q7.cons rfl Q7.nil)) (Zn.nil (Hd K (flx0 := false) (flx1 := false) al)) ?_)
  refine oP Kj i38 rfl ?_
  refine sp rfl (Wl (i := 4) (cells' := [.d (.bool a), .d (.sl false 1 (mI ag)), .d (.sl false 1 (mI b))]) rfl rfl i38 rfl rfl rfl (nb rfl) rfl ?_)
  refine TL'.nil (tN ?_)
  refine Qm ?_ (Kg K bx0 (Yp K k) ih x1 m ad.p a ag b g.null g.first g.last flx1 (af 0) u w ac h)
  exact tr rfl (.c (.s .z) (.c (.s .z) (.c (.s .z) (.c (.s .z) (.c .z (.n _))))))
  refine Qp rfl ab ?_
  refine T.skip (tN ?_)
  refine Qm ?_ (Kg K bx0 (Yp K k) ih x1 m ad.p a j b g.null g.first g.last flx1 (af 0) u w ac h)
  exact tr rfl (.c (.s .z) (.c (.s .z) (.c (.s .z) (.c (.s .z) (.c .z (.n _))))))
  refine Qp rfl aa ?_
  refine T.exit (Qk (Qk (Qt (tN ?_))))
  refine T.seq (Qq ?_)
  refine oA 3 [.bool a, .sl false 1 (mI j), .sl false 1 (mI b)] Kj i128 rfl ?_
  refine sp rfl (Qx (i := 2) (cells' := [.d (.bool a), .d (.sl false 1 (mI j)), .d (.sl false 1 (mI b))]) rfl rfl i128 rfl rfl rfl rfl (nb rfl) rfl ?_)
  refine TL'.nil (tN ?_)
  refine T.ret ?_
  exact Q4 (.cons _ _ _ _ (.cellAgg 4 128 _ 0 2 128 _ [.bool a, .sl false 1 (mI j), .sl false 1 (mI b)] _ _ 3 _ rfl rfl rfl rfl Kj rfl i128) .nil) (.cons 0 rfl (.cons 0 rfl (.nil _))) (by cases h; exact ⟨gl [q], rfl, rfl⟩)
theorem Ow (K : Nat) {x0 : Qj} {x1 : List Qs} {bx0 : Nat} {wx0c0 : Value} {flx1 : Bool} {r : Qs × Qj} (h : Le K x0 x1 = some r) : Us tp 106 [.ptr bx0 0, .sl flx1 3 (x1.map Zk)] [(Ji bx0 wx0c0), .arrX wx0c0 65 9 0 (x0.p.map Q0)] (fun γ => (.agg [.bool r.1.null, .sl false 1 (mI r.1.first), .sl false 1 (mI r.1.last)])) (fun γ => [(Ji bx0 (γ 0)), .arrX (γ 0) 65 9 0 (r.2.p.map Q0)]) := by
 refine Qu Tryz.func106 rfl (nb rfl) ?_
 show T tp 52 (ca [] Tryz.f106) ⟨Qv 0 [.ptr bx0 0, .sl flx1 3 (x1.map Zk)], [(Ji bx0 wx0c0), .arrX wx0c0 65 9 0 (x0.p.map Q0)]⟩ (Hq bx0 r)
 unfold Le at h
 refine T.seq (Qq ?_)
 refine sp rfl (Ze rfl (dk rfl) i128 rfl (fun a => ?_))
 refine TL'.nil (tN (T.seq (Qq ?_)))
 refine sp rfl (Zq (OpT.build (l := [.bool true, .ex (.slice none 0 0), .ex (.slice none 0 0)]) rfl (dk rfl) (Zu (pl := [(0, 1), (1, 1), (2, 1)]) Kj i128 rfl) (Mi rfl) rfl rfl rfl) (Yd 8 (l := [.bool true, .ex (.slice none 0 0), .ex (.slice none 0 0)]) (l' := [.bool true, .sl false 1 (([] : List Int).map (cI .i64)), .sl false 1 (([] : List Int).map (cI .i64))]) (.cons (.same _) (.cons (.nil _ _) (.cons (.nil _ _) (.refl _))))) ?_)
 refine sp rfl (Ze rfl (dk rfl) i128 rfl (fun b => ?_))
 refine sp rfl (Qx (i := 0) (cells' := [.d (.bool true), .d (.sl false 1 (([] : List Int).map (cI .i64))), .d (.sl false 1 (([] : List Int).map (cI .i64)))]) rfl rfl i128 rfl rfl rfl rfl (nb rfl) rfl ?_)
 refine TL'.nil (tN ?_)
 refine T.seq ?_
 refine T.seq (Qq ?_)
 refine aw rfl ?_
 refine TL'.nil (tN ?_)
 refine T.block ?_
 refine T.loop ?_
 refine Qh ?_ (F8 K bx0 K x1 (0:Int) x0.p true [] [] flx1 wx0c0 a b h)
 exact tr rfl (.c (.s (.s .z)) (.c (.s (.s .z)) (.c (.s .z) (.c .z (.n _)))))
abbrev Ou (bx0 : Nat) (r : Qs × Qj) : ES := Wb tp Tryz.f105 (fun y t => ∃ γ : Nat → Value, y = (.agg [.bool r.1.null, .sl false 1 (mI r.1.first), .sl false 1 (mI r.1.last)]) ∧ t = [(Ji bx0 (γ 0)), .arrX (γ 0) 65 9 0 (r.2.p.map Q0)])
theorem Ov (K : Nat) {x0 : Qj} {x1 : Zp} {bx0 : Nat} {wx0c0 : Value} {r : Qs × Qj} (h : Ld K x0 x1 = some r) : Us tp 105 [.ptr bx0 0, .agg [.int .u64 x1.S.a0, .int .u64 x1.S.a1, .int .u64 x1.S.a2, .int .u64 x1.S.a3, .int .i64 x1.Lo, .int .i64 x1.Hi, .int .i64 x1.Rule, .bool x1.Last, .sl false 1 (mI x1.Next)]] [(Ji bx0 wx0c0), .arrX wx0c0 65 9 0 (x0.p.map Q0)] (fun γ => (.agg [.bool r.1.null, .sl false 1 (mI r.1.first), .sl false 1 (mI r.1.last)])) (fun γ => [(Ji bx0 (γ 0)), .arrX (γ 0) 65 9 0 (r.2.p.map Q0)]) := by
 refine Qu Tryz.func105 rfl (nb rfl) ?_
 show T tp 26 (ca [] Tryz.f105) ⟨Qv 0 [.ptr bx0 0, .agg [.int .u64 x1.S.a0, .int .u64 x1.S.a1, .int .u64 x1.S.a2, .int .u64 x1.S.a3, .int .i64 x1.Lo, .int .i64 x1.Hi, .int .i64 x1.Rule, .bool x1.Last, .sl false 1 (mI x1.Next)]], [(Ji bx0 wx0c0), .arrX wx0c0 65 9 0 (x0.p.map Q0)]⟩ (Ou bx0 r)
 unfold Ld at h
 refine T.seq (Qq ?_)
 refine sp rfl (Zi rfl (dk rfl) rfl (fun b => ?_))
 refine sp rfl (Ze rfl (dk rfl) i128 rfl (fun g => ?_))
 refine TL'.nil (tN ?_)
 refine T.seq ?_
 refine Qm (La 0 (l := [.bool false, .ex (.slice none 0 0), .ex (.slice none 0 0)]) (l' := [.bool false, .sl false 1 (([] : List Int).map (cI .i64)), .sl false 1 (([] : List Int).map (cI .i64))]) rfl (.cons (.same _) (.cons (.nil _ _) (.cons (.nil _ _) (.refl _))))) ?_
 refine Qm Y2 ?_
 refine Hl ?_
 refine dC (c := ⟨some 6, .ptr bx0 0, [(0, .ptr bx0 0)], [], []⟩) (fun t hm => oF rfl rfl (OpT.move rfl (dk rfl) hm.s0 ⟨u0, rfl⟩)) (fun _ => rfl) (fun _ => rfl) ?_
 refine dC (c := ⟨some 7, .ptr bx0 0, [(0, .ptr bx0 0)], [], []⟩) (fun t hm => oF rfl rfl (OpT.move rfl (dk rfl) hm.s0 ⟨u0, rfl⟩)) (fun _ => rfl) (fun _ => rfl) ?_
 refine dC (c := ⟨some 8, .ptr bx0 0, [(7, .ptr bx0 0)], [], []⟩) (fun t hm => oF rfl rfl (OpT.nilCheck rfl (dk rfl) hm.s0 rfl ⟨u0, rfl⟩)) (fun _ => rfl) (fun _ => rfl) ?_
 refine dC (c := ⟨some 9, .ptr bx0 (0 + 0), [(8, .ptr bx0 0)], [], []⟩) (fun t hm => oF rfl rfl (Z0 rfl (dk rfl) ul126 rfl i41 (by decide) hm.s0 ⟨u0, rfl⟩)) (fun _ => rfl) (fun _ => rfl) ?_
 refine dC (c := ⟨some 10, .c (.ex wx0c0), [(9, .ptr bx0 (0 + 0))], [(3, (Ji bx0 wx0c0))], []⟩) (fun t hm => oF rfl rfl (Zo (i := 3) rfl (dk rfl) Sg rfl hm.s0 hm.o0 rfl ⟨u0, rfl⟩)) (fun _ => rfl) (fun _ => rfl) ?_
 refine dC (c := ⟨some 11, .agg [.int .u64 x1.S.a0, .int .u64 x1.S.a1, .int .u64 x1.S.a2, .int .u64 x1.S.a3, .int .i64 x1.Lo, .int .i64 x1.Hi, .int .i64 x1.Rule, .bool x1.Last, .sl false 1 (mI x1.Next)], [(3, .ptr b 0)], [(2, .box b 65 [.d (.int .u64 x1.S.a0), .d (.int .u64 x1.S.a1), .d (.int .u64 x1.S.a2), .d (.int .u64 x1.S.a3), .d (.int .i64 x1.Lo), .d (.int .i64 x1.Hi), .d (.int .i64 x1.Rule), .d (.bool x1.Last), .d (.sl false 1 (mI x1.Next))])], []⟩) (fun t hm => oF rfl rfl (Jt (i := 2) (l := [.int .u64 x1.S.a0, .int .u64 x1.S.a1, .int .u64 x1.S.a2, .int .u64 x1.S.a3, .int .i64 x1.Lo, .int .i64 x1.Hi, .int .i64 x1.Rule, .bool x1.Last, .sl false 1 (mI x1.Next)]) rfl (dk rfl) ul65 rfl i65 hm.s0 hm.o0 rfl rfl ⟨u0, rfl⟩)) (fun _ => rfl) (fun _ => rfl) ?_
 refine dC (c := ⟨some 12, .sl true 9 ([x1].map Q0), [(11, .agg [.int .u64 x1.S.a0, .int .u64 x1.S.a1, .int .u64 x1.S.a2, .int .u64 x1.S.a3, .int .i64 x1.Lo, .int .i64 x1.Hi, .int .i64 x1.Rule, .bool x1.Last, .sl false 1 (mI x1.Next)])], [], []⟩) (fun t hm => oF rfl rfl (OpT.buildSlice (elems := ([x1] : List Zp).map Q0) rfl (dk rfl) Sg i65 (by decide) rfl (Mi rfl) (Vi hm.s0 rfl Bb) rfl rfl (V4 rfl) (by decide) ⟨u0, rfl⟩)) (fun _ => rfl) (fun _ => rfl) ?_
 obtain ⟨j, h⟩ := Zc h
 refine DGG.step (c := fun a => ⟨some 13, .c (.ex ((a 7).1 0)), [(12, .sl true 9 ([x1].map Q0)), (10, .c (.ex wx0c0))], [(4, .arrX wx0c0 65 9 0 (x0.p.map Q0))], [(4, .arrX ((a 7).1 0) 65 9 0 ((x0.p ++ [x1]).map Q0))]⟩) [7] (fun a γ' h => by simp only [h 7 (by decide)]) (fun a t hm => oF rfl rfl (Et (i := 4) (xs := x0.p) (ys := [x1]) (f := Q0) rfl (dk rfl) Sg i65 rfl hm.s1 hm.o0 hm.s0 j (fun w => ⟨(fun _ => w, 0), rfl⟩))) (fun a => Z2 rfl rfl) ?_
 refine dC (c := ⟨some 14, .ptr bx0 0, [(6, .ptr bx0 0)], [], []⟩) (fun t hm => oF rfl rfl (OpT.nilCheck rfl (dk rfl) hm.s0 rfl ⟨u0, rfl⟩)) (fun _ => rfl) (fun _ => rfl) ?_
 refine dC (c := ⟨some 15, .ptr bx0 (0 + 0), [(14, .ptr bx0 0)], [], []⟩) (fun t hm => oF rfl rfl (Z0 rfl (dk rfl) ul126 rfl i41 (by decide) hm.s0 ⟨u0, rfl⟩)) (fun _ => rfl) (fun _ => rfl) ?_
 refine DGG.step (c := fun a => ⟨none, .any, [(15, .ptr bx0 (0 + 0)), (13, .c (.ex ((a 7).1 0)))], [(3, (Ji bx0 wx0c0))], [(3, (Ji bx0 ((a 7).1 0)))]⟩) [7] (fun a γ' h => by simp only [h 7 (by decide)]) (fun a t hm => oF rfl rfl (Wl (i := 3) (cells' := [.d (.ex ((a 7).1 0))]) rfl rfl i41 hm.s0 hm.s1 hm.o0 (nb rfl) rfl ⟨u0, rfl⟩)) (fun a => Z2 rfl rfl) ?_
 refine gF [0,0,2,6,14,0,32,126,255,511,1023] Q3 rfl (by kernel_rfl) (fun _ => by kernel_rfl) (fun a u hu => (tN (Qm hu ?_)))
 refine T.seq (Qq ?_)
 refine mw rfl ?_
 refine oK rfl ?_
 refine oP ul126 i41 rfl ?_
 refine oL 3 Sg rfl ?_
 refine sp rfl (Hk (i := 4) (xs := (x0.p ++ [x1])) (f := Q0) rfl (dk rfl) Sg rfl rfl ?_)
 refine oI rfl ?_
 refine sp rfl (OpT.buildSlice (elems := ([(wI (((x0.p ++ [x1]).length : Int) - (1:Int)))] : List Int).map (cI .i64)) rfl (dk rfl) Zy i3 (by decide) rfl (Mi rfl) rfl rfl rfl (V4 rfl) (by decide) ?_)
 refine aw rfl ?_
 refine TL'.nil (tN (T.seq (Qq ?_)))
 refine mw rfl ?_
 refine mw rfl ?_
 refine sp rfl (Zq (OpT.build (l := [.bool false, .sl true 1 ([(wI (((x0.p ++ [x1]).length : Int) - (1:Int)))].map (cI .i64)), .sl true 1 ([(wI (((x0.p ++ [x1]).length : Int) - (1:Int)))].map (cI .i64))]) rfl (dk rfl) (Zu (pl := [(0, 1), (1, 1), (2, 1)]) Kj i128 rfl) (Mi rfl) rfl rfl rfl) (Yd 25 (l := [.bool false, .sl true 1 ([(wI (((x0.p ++ [x1]).length : Int) - (1:Int)))].map (cI .i64)), .sl true 1 ([(wI (((x0.p ++ [x1]).length : Int) - (1:Int)))].map (cI .i64))]) (l' := [.bool false, .sl false 1 ([(wI (((x0.p ++ [x1]).length : Int) - (1:Int)))].map (cI .i64)), .sl false 1 ([(wI (((x0.p ++ [x1]).length : Int) - (1:Int)))].map (cI .i64))]) (.cons (.same _) (.cons (.full _ _ _) (.cons (.full _ _ _) (.refl _))))) ?_)
 refine sp rfl (Qx (i := 1) (cells' := [.d (.bool false), .d (.sl false 1 ([(wI (((x0.p ++ [x1]).length : Int) - (1:Int)))].map (cI .i64))), .d (.sl false 1 ([(wI (((x0.p ++ [x1]).length : Int) - (1:Int)))].map (cI .i64)))]) rfl rfl i128 rfl rfl rfl rfl (nb rfl) rfl ?_)
 refine TL'.nil (tN ?_)
 refine T.ret ?_
 exact Q4 (.cons _ _ _ _ (.cellAgg 4 128 _ 0 1 128 _ [.bool false, .sl false 1 ([(wI (((x0.p ++ [x1]).length : Int) - (1:Int)))].map (cI .i64)), .sl false 1 ([(wI (((x0.p ++ [x1]).length : Int) - (1:Int)))].map (cI .i64))] _ _ 3 _ rfl rfl rfl rfl Kj rfl i128) .nil) (.cons 3 rfl (.cons 3 rfl (.nil _))) (by cases h; exact ⟨gl [(a 7).1 0], rfl, rfl⟩)
abbrev X5 (bx0 : Nat) (r : Qs × Qj) : ES := Wb tp Tryz.f66 (fun y t => ∃ γ : Nat → Value, y = (.agg [.bool r.1.null, .sl false 1 (mI r.1.first), .sl false 1 (mI r.1.last)]) ∧ t = [(Ji bx0 (γ 0)), .arrX (γ 0) 65 9 0 (r.2.p.map Q0)])
abbrev Mr (bx0 : Nat) (r : Qs × Qj) : ES := thenS (fun s' => T tp 128 (ca [1,1,1,1,1,1,1,1,1,1] Tryz.f66) s' ((X5 bx0 r))) ((X5 bx0 r))
abbrev Kt (bx0 : Nat) (r : Qs × Qj) : ES := Qz 2 ((Mr bx0 r))
abbrev Ch (bx0 : Nat) (r : Qs × Qj) : ES := thenS (fun s' => T tp 128 (ca [1,1,1,1,1,1,1] Tryz.f66) s' ((X5 bx0 r))) ((X5 bx0 r))
abbrev M4 (bx0 : Nat) (r : Qs × Qj) : ES := Qz 0 ((Ch bx0 r))
theorem Fc {r : Qs × Qj} (K : Nat) (rec_raddleref09_builder_node : Qj → (List Q2) → Int → Int → Option (Qs × Qj)) (hrec_raddleref09_builder_node : Uk rec_raddleref09_builder_node) (bx0 : Nat) : ∀ (k : Nat), ∀ (s : Int) (ac : List Zp) (ad af : List Int) (ag : Int) (m : Z4) (ai : List Int) (aj al : Int) (am : ByteArray) (g : List Qs) (an : Bool) (q j : List Int) (y : Value) (aa ab : Nat) (p : Value) (b : Nat), Vz K rec_raddleref09_builder_node k s ac ad af ag m ai aj al am g an q j = some r → TL tp 128 (ca [1,1,1,1,1,1,1,1,1,0,1,0,0] Tryz.f66) ⟨[(0, .ptr bx0 0), (8, .ptr aa 0), (9, .ptr ab 0), (10, .c (.ex p)), (12, .ptr b 0), (13, .int .i64 s)], [(Ji bx0 y), .arrX y 65 9 0 (ac.map Q0), (Nl aa false ad af), (Qev ab ag m.a0 m.a1 m.a2 m.a3 ai aj al am), .arrA p 128 3 (g.map Zk), (Nl b an q j)]⟩ (Kt bx0 r) := by
 intro k
 induction k with
 | zero =>
  intro s ac ad af ag m ai aj al am g an q j y aa ab p b h
  exact zn h
 | succ k ih =>
  intro s ac ad af ag m ai aj al am g an q j y aa ab p b h
  rw [Vz] at h
  refine Q6 ?_
  refine T.seq ?_
  refine T.seq (Qq ?_)
  refine mw rfl ?_
  refine mw rfl ?_
  refine sp rfl (Lx (i := 4) (xs := g) (f := Zk) rfl (dk rfl) ul171 rfl rfl ?_)
  refine oI rfl ?_
  refine TL'.nil (tN ?_)
  rcases Qe h with ⟨au, h⟩ | ⟨au, h⟩
  refine Qr rfl au ?_
  refine T.skip (tN ?_)
  refine T.seq ?_
  refine T.block ?_
  refine T.seq (Qq ?_)
  refine oP Kj i4 rfl ?_
  refine oL 5 ul4 rfl ?_
  refine mw rfl ?_
  rcases Qe h with ⟨ap, h⟩ | ⟨ap, h⟩
  cases h
  refine sn rfl ap (OpT.move rfl (dk rfl) rfl ?_)
  refine sn rfl ap (OpT.move rfl (dk rfl) rfl ?_)
  refine Hj (Z5.view 93 4 rfl rfl) ?_
  obtain ⟨a, av, h⟩ := bind_some h
  refine sn rfl ap (Yq (xs := g) (f := Zk) (v := a) rfl (dk rfl) ul171 i128 rfl rfl av ?_)
  refine sn rfl ap (Uf rfl (dk rfl) Kj rfl i4 (by decide) rfl ?_)
  refine sn rfl ap (Xi rfl (dk rfl) ul4 rfl rfl rfl ?_)
  refine oZ ap rfl ?_
  refine oP Kj i4 rfl ?_
  refine sp rfl (Wl (i := 5) (cells' := [.d (.bool a.null), .d (.sl false 1 (mI q)), .d (.sl false 1 (mI j))]) rfl rfl i4 rfl rfl rfl (nb rfl) rfl ?_)
  refine TL'.nil (tN ?_)
  refine T.seq ?_
  refine Yx ?_
  refine dP rfl (.f rfl) Kj i38 rfl ?_
  refine dL 5 rfl (.f rfl) Zy rfl ?_
  refine dS (c := ⟨some 102, .sl false 3 (g.map Zk), [(10, .c (.ex p))], [(4, .arrA p 128 3 (g.map Zk))], []⟩) (fun t hm => oF rfl rfl (Zq (OpT.move rfl (dk rfl) hm.s0 rfl) (Mj 102 4 hm.o0) rfl)) rfl rfl ?_
  refine dV rfl rfl ?_
  refine dX g Zk rfl (.f rfl) ul171 i128 av rfl ?_
  refine dQ rfl (.f rfl) Kj i38 rfl ?_
  refine dR rfl (.f rfl) Zy rfl ?_
  obtain ⟨w, az, h⟩ := bind_some h
  refine dS (c := ⟨some 107, .sl false 1 (mI w), [(101, .sl false 1 (mI q)), (106, .sl false 1 (mI a.first))], [], []⟩) (fun t hm => oF rfl rfl (Q1 rfl (dk rfl) Tryz.func67 rfl rfl (Q7.cons hm.s0 (Q7.cons hm.s1 Q7.nil)) (Zn.nil (Hd K (flx0 := false) (flx1 := false) az)) rfl)) rfl rfl ?_
  refine dP rfl (.f rfl) Kj i38 rfl ?_
  refine dS (c := ⟨none, .any, [(108, .ptr b (0 + 1)), (107, .sl false 1 (mI w))], [(5, (Nl b a.null q j))], [(5, (Nl b a.null w j))]⟩) (fun t hm => oF rfl rfl (Wl (i := 5) (cells' := [.d (.bool a.null), .d (.sl false 1 (mI w)), .d (.sl false 1 (mI j))]) rfl rfl i38 hm.s0 hm.s1 hm.o0 (nb rfl) rfl rfl)) rfl rfl ?_
  refine dF [0,1,0,0,12,28,60,127,255,511] Q3 rfl (by kernel_rfl) (fun u hu => (tN (Qm hu ?_)))
  refine Yx ?_
  refine dP rfl (.f rfl) Kj i38 rfl ?_
  refine dL 5 rfl (.f rfl) Zy rfl ?_
  refine dS (c := ⟨some 111, .sl false 3 (g.map Zk), [(10, .c (.ex p))], [(4, .arrA p 128 3 (g.map Zk))], []⟩) (fun t hm => oF rfl rfl (Zq (OpT.move rfl (dk rfl) hm.s0 rfl) (Mj 111 4 hm.o0) rfl)) rfl rfl ?_
  refine dV rfl rfl ?_
  refine dX g Zk rfl (.f rfl) ul171 i128 av rfl ?_
  refine dQ rfl (.f rfl) Kj i38 rfl ?_
  refine dR rfl (.f rfl) Zy rfl ?_
  obtain ⟨aq, a4, h⟩ := bind_some h
  refine dS (c := ⟨some 116, .sl false 1 (mI aq), [(110, .sl false 1 (mI j)), (115, .sl false 1 (mI a.last))], [], []⟩) (fun t hm => oF rfl rfl (Q1 rfl (dk rfl) Tryz.func67 rfl rfl (Q7.cons hm.s0 (Q7.cons hm.s1 Q7.nil)) (Zn.nil (Hd K (flx0 := false) (flx1 := false) a4)) rfl)) rfl rfl ?_
  refine dP rfl (.f rfl) Kj i38 rfl ?_
  refine dS (c := ⟨none, .any, [(117, .ptr b (0 + 2)), (116, .sl false 1 (mI aq))], [(5, (Nl b a.null w j))], [(5, (Nl b a.null w aq))]⟩) (fun t hm => oF rfl rfl (Wl (i := 5) (cells' := [.d (.bool a.null), .d (.sl false 1 (mI w)), .d (.sl false 1 (mI aq))]) rfl rfl i38 hm.s0 hm.s1 hm.o0 (nb rfl) rfl rfl)) rfl rfl ?_
  refine dF [0,1,0,0,12,28,60,127,255,511] Q3 rfl (by kernel_rfl) (fun u hu => (Ql (tN (Qm hu ?_))))
  refine Qq ?_
  refine mw rfl ?_
  refine oI rfl ?_
  refine aw rfl ?_
  refine TL'.nil (tN ?_)
  refine Qh ?_ (ih (wI (s + (1:Int))) ac ad af ag m ai aj al am g a.null w aq y aa ab p b h)
  exact tq rfl rfl
  refine Qp rfl au ?_
  refine T.exit (Qk (Qk (Qt (tN ?_))))
  refine T.seq ?_
  refine T.seq (Qq ?_)
  refine oP K2 i5 rfl ?_
  refine oL 3 ul5 rfl ?_
  refine oI rfl ?_
  refine TL'.nil (tN ?_)
  rcases Qe h with ⟨ay, h⟩ | ⟨ay, h⟩
  cases h
  refine Qp rfl ay ?_
  refine T.skip (tN ?_)
  refine T.seq (Qq ?_)
  refine oA 5 [.bool an, .sl false 1 (mI q), .sl false 1 (mI j)] Kj i128 rfl ?_
  refine sp rfl (Qx (i := 2) (cells' := [.d (.bool an), .d (.sl false 1 (mI q)), .d (.sl false 1 (mI j))]) rfl rfl i128 rfl rfl rfl rfl (nb rfl) rfl ?_)
  refine TL'.nil (tN ?_)
  refine T.ret ?_
  exact Q4 (.cons _ _ _ _ (.cellAgg 8 128 _ 0 2 128 _ [.bool an, .sl false 1 (mI q), .sl false 1 (mI j)] _ _ 3 _ rfl rfl rfl rfl Kj rfl i128) .nil) (.cons 0 rfl (.cons 0 rfl (.nil _))) (by cases h; exact ⟨gl [y], rfl, rfl⟩)
theorem Fe {r : Qs × Qj} (K : Nat) (rec_raddleref09_builder_node : Qj → (List Q2) → Int → Int → Option (Qs × Qj)) (hrec_raddleref09_builder_node : Uk rec_raddleref09_builder_node) (bx0 : Nat) : ∀ (k : Nat), ∀ (x1 : List Q2) (x3 ad : Int) (q : List Zp) (a : Int) (b : Z4) (g : List Int) (u w : Int) (y : ByteArray) (j : List Qs) (flx1 : Bool) (m : Value) (aa ab : Nat) (af : Value), V0 K rec_raddleref09_builder_node k x1 x3 ad q a b g u w y j = some r → TL tp 128 (ca [1,1,1,1,1,1,0,1,0,0] Tryz.f66) ⟨[(0, .ptr bx0 0), (1, .sl flx1 9 (x1.map Qo)), (3, .int .i64 x3), (8, .ptr aa 0), (9, .ptr ab 0), (10, .c (.ex af)), (11, .int .i64 ad)], [(Ji bx0 m), .arrX m 65 9 0 (q.map Q0), (o128 aa false (.slice none 0 0) (.slice none 0 0)), (Qev ab a b.a0 b.a1 b.a2 b.a3 g u w y), .arrA af 128 3 (j.map Zk)]⟩ (M4 bx0 r) := by
 intro k
 induction k with
 | zero =>
  intro x1 x3 ad q a b g u w y j flx1 m aa ab af h
  exact zn h
 | succ k ih =>
  intro x1 x3 ad q a b g u w y j flx1 m aa ab af h
  rw [V0] at h
  refine Q6 ?_
  refine T.seq ?_
  refine T.seq (Qq ?_)
  refine mw rfl ?_
  refine oP K2 i38 rfl ?_
  refine oL 3 Zy rfl ?_
  refine oU g (cI .i64) Zy rfl ?_
  refine oI rfl ?_
  refine TL'.nil (tN ?_)
  rcases Qe h with ⟨ai, h⟩ | ⟨ai, h⟩
  refine Qr rfl ai ?_
  refine T.skip (tN ?_)
  refine T.seq ?_
  refine T.block ?_
  refine Qq ?_
  iterate 3 refine mw rfl ?_
  refine oP K2 i38 rfl ?_
  refine oL 3 Zy rfl ?_
  refine mw rfl ?_
  obtain ⟨al, am, h⟩ := bind_some h
  refine oX g (cI .i64) Zy i3 am rfl ?_
  refine oR ul3 rfl ?_
  refine mw rfl ?_
  obtain ⟨ag, an, h⟩ := bind_some h
  refine sp rfl (Q8 (is := [0, 1]) (ph := []) rfl (dk rfl) Tryz.func66 rfl rfl (Q7.cons rfl (Q7.cons rfl (Q7.cons rfl (Q7.cons rfl Q7.nil)))) (hrec_raddleref09_builder_node (Qj.mk q) x1 al x3 bx0 m flx1 _ an) (.cons rfl rfl (.cons rfl rfl (.nil))) (fun _ => rfl) (fun ap => ?_))
  refine nm (.c (.c (.c (.c (.c (.n)))))) ?_
  refine sp rfl (OpT.buildSlice (elems := ([ag.1] : List Qs).map Zk) rfl (dk rfl) ul171 i128 (by decide) rfl (Mi rfl) rfl rfl rfl (V4 rfl) (by decide) ?_)
  obtain ⟨aq, h⟩ := Zc h
  refine sp rfl (Zv (i := 4) (xs := j) (ys := [ag.1]) (f := Zk) rfl (dk rfl) ul171 i128 rfl rfl rfl rfl aq (fun au => ?_))
  refine aw rfl ?_
  refine TL'.nil (Ql (tN ?_))
  refine Qq ?_
  refine mw rfl ?_
  refine oI rfl ?_
  refine aw rfl ?_
  refine TL'.nil (tN ?_)
  refine Qh ?_ (ih x1 x3 (wI (ad + (1:Int))) ag.2.p a b g u w y (j ++ [ag.1]) flx1 (ap 0) aa ab au h)
  exact tq rfl rfl
  refine Qp rfl ai ?_
  refine T.exit (Qk (Qk (Qt (tN ?_))))
  refine T.seq ?_
  refine T.seq (Qq ?_)
  refine oP K2 i5 rfl ?_
  refine oL 3 ul5 rfl ?_
  refine oI rfl ?_
  refine TL'.nil (tN ?_)
  rcases Qe h with ⟨aj, h⟩ | ⟨aj, h⟩
  refine Qr rfl aj ?_
  refine T.seq (Qq ?_)
  refine mw rfl ?_
  refine mw rfl ?_
  obtain ⟨ac, av, h⟩ := bind_some h
  refine sp rfl (Q8 (is := [0, 1]) (ph := []) rfl (dk rfl) Tryz.func106 rfl rfl (Q7.cons rfl (Q7.view (i := 4) rfl rfl Q7.nil)) (Ow K (bx0 := bx0) (wx0c0 := m) (flx1 := false) av) (.cons rfl rfl (.cons rfl rfl (.nil))) (fun _ => rfl) (fun ay => ?_))
  refine nm (.c (.c (.c (.c (.c (.n)))))) ?_
  refine sp rfl (Qx (i := 2) (cells' := [.d (.bool ac.1.null), .d (.sl false 1 (mI ac.1.first)), .d (.sl false 1 (mI ac.1.last))]) rfl rfl i128 rfl rfl rfl rfl (nb rfl) rfl ?_)
  refine TL'.nil (tN ?_)
  refine T.ret (Qw ?_)
  exact Q4 (.cons _ _ _ _ (.cellAgg 8 128 _ 0 2 128 _ [.bool ac.1.null, .sl false 1 (mI ac.1.first), .sl false 1 (mI ac.1.last)] _ _ 3 _ rfl rfl rfl rfl Kj rfl i128) .nil) (.cons 0 rfl (.cons 0 rfl (.nil _))) (by cases h; exact ⟨gl [ay 0], rfl, rfl⟩)
  refine Qp rfl aj ?_
  refine T.skip (tN ?_)
  refine T.seq (Qq ?_)
  refine oP K2 i5 rfl ?_
  refine oL 3 ul5 rfl ?_
  refine oI rfl ?_
  refine sp rfl (Zq (OpT.build (l := [.bool (a == (5:Int)), .ex (.slice none 0 0), .ex (.slice none 0 0)]) rfl (dk rfl) (Zu (pl := [(0, 1), (1, 1), (2, 1)]) Kj i128 rfl) (Mi rfl) rfl rfl rfl) (Yd 83 (l := [.bool (a == (5:Int)), .ex (.slice none 0 0), .ex (.slice none 0 0)]) (l' := [.bool (a == (5:Int)), .sl false 1 (([] : List Int).map (cI .i64)), .sl false 1 (([] : List Int).map (cI .i64))]) (.cons (.same _) (.cons (.nil _ _) (.cons (.nil _ _) (.refl _))))) ?_)
  refine sp rfl (Ze rfl (dk rfl) i128 rfl (fun az => ?_))
  refine sp rfl (Qx (i := 0) (cells' := [.d (.bool (a == (5:Int))), .d (.sl false 1 (([] : List Int).map (cI .i64))), .d (.sl false 1 (([] : List Int).map (cI .i64)))]) rfl rfl i128 rfl rfl rfl rfl (nb rfl) rfl ?_)
  refine TL'.nil (tN ?_)
  refine T.seq ?_
  refine T.seq (Qq ?_)
  refine aw rfl ?_
  refine TL'.nil (tN ?_)
  refine T.block ?_
  refine T.loop ?_
  refine Qh (La 3 (l := [.bool false, .ex (.slice none 0 0), .ex (.slice none 0 0)]) (l' := [.bool false, .sl false 1 (([] : List Int).map (cI .i64)), .sl false 1 (([] : List Int).map (cI .i64))]) rfl (.cons (.same _) (.cons (.nil _ _) (.cons (.nil _ _) (.refl _))))) ?_
  refine Qh ?_ (Fc K rec_raddleref09_builder_node hrec_raddleref09_builder_node bx0 K (0:Int) q [] [] a b g u w y j (a == (5:Int)) [] [] m aa ab af az h)
  exact tr rfl (.c (.s .z) (.c (.s .z) (.c (.s .z) (.c (.s .z) (.c (.s .z) (.c .z (.n _)))))))
theorem F7 (K : Nat) (rec_raddleref09_builder_node : Qj → (List Q2) → Int → Int → Option (Qs × Qj)) (hrec_raddleref09_builder_node : Uk rec_raddleref09_builder_node) {x0 : Qj} {x1 : List Q2} {x2 x3 : Int} {bx0 : Nat} {wx0c0 : Value} {flx1 : Bool} {r : Qs × Qj} (h : W0 K rec_raddleref09_builder_node x0 x1 x2 x3 = some r) : Us tp 66 [.ptr bx0 0, .sl flx1 9 (x1.map Qo), .int .i64 x2, .int .i64 x3] [(Ji bx0 wx0c0), .arrX wx0c0 65 9 0 (x0.p.map Q0)] (fun γ => (.agg [.bool r.1.null, .sl false 1 (mI r.1.first), .sl false 1 (mI r.1.last)])) (fun γ => [(Ji bx0 (γ 0)), .arrX (γ 0) 65 9 0 (r.2.p.map Q0)]) := by
 refine Qu Tryz.func66 rfl (nb rfl) ?_
 show T tp 128 (ca [] Tryz.f66) ⟨Qv 0 [.ptr bx0 0, .sl flx1 9 (x1.map Qo), .int .i64 x2, .int .i64 x3], [(Ji bx0 wx0c0), .arrX wx0c0 65 9 0 (x0.p.map Q0)]⟩ (X5 bx0 r)
 unfold W0 at h
 refine T.seq (Qq ?_)
 refine sp rfl (Ze rfl (dk rfl) i128 rfl (fun q => ?_))
 refine TL'.nil (tN (T.seq (Qq ?_)))
 refine mw rfl ?_
 refine mw rfl ?_
 obtain ⟨a, u, h⟩ := bind_some h
 refine oX x1 Qo Sf i165 u rfl ?_
 refine sp rfl (Zb rfl (dk rfl) K2 rfl i165 rfl (nb rfl) ?_)
 refine sp rfl (Ze rfl (dk rfl) i165 rfl (fun w => ?_))
 refine sp rfl (Qx (i := 0) (cells' := [.d (.int .u8 a.Op), .d (.int .u64 a.S.a0), .d (.int .u64 a.S.a1), .d (.int .u64 a.S.a2), .d (.int .u64 a.S.a3), .d (.sl false 1 (mI a.L)), .d (.int .i64 a.Lo), .d (.int .i64 a.Hi), .d (.str a.Name)]) rfl rfl i165 rfl rfl rfl rfl (nb rfl) rfl ?_)
 refine TL'.nil (tN ?_)
 refine T.seq ?_
 refine T.seq (Qq ?_)
 refine oP K2 i5 rfl ?_
 refine oL 0 ul5 rfl ?_
 refine oI rfl ?_
 refine TL'.nil (tN ?_)
 rcases Qe h with ⟨m, h⟩ | ⟨m, h⟩
 cases h
 refine Qp rfl m ?_
 refine T.skip (tN ?_)
 refine T.seq ?_
 refine T.seq (Qq ?_)
 refine oP K2 i5 rfl ?_
 refine oL 0 ul5 rfl ?_
 refine oI rfl ?_
 refine TL'.nil (tN ?_)
 rcases Qe h with ⟨j, h⟩ | ⟨j, h⟩
 refine Qr rfl j ?_
 refine T.seq (Qq ?_)
 refine mw rfl ?_
 refine oP K2 i63 rfl ?_
 refine oA 0 (Z4.dc .u64 a.S) Qfx i63 rfl ?_
 refine mw rfl ?_
 refine sp rfl (Zq (OpT.build (l := [.int .u64 a.S.a0, .int .u64 a.S.a1, .int .u64 a.S.a2, .int .u64 a.S.a3, .int .i64 (1:Int), .int .i64 (1:Int), .int .i64 x3, .bool false, .ex (.slice none 0 0)]) rfl (dk rfl) (Zu (pl := [(0, 4), (4, 1), (5, 1), (6, 1), (7, 1), (8, 1)]) ul65 i65 rfl) (Mi rfl) rfl rfl rfl) (Yd 29 (l := [.int .u64 a.S.a0, .int .u64 a.S.a1, .int .u64 a.S.a2, .int .u64 a.S.a3, .int .i64 (1:Int), .int .i64 (1:Int), .int .i64 x3, .bool false, .ex (.slice none 0 0)]) (l' := [.int .u64 a.S.a0, .int .u64 a.S.a1, .int .u64 a.S.a2, .int .u64 a.S.a3, .int .i64 (1:Int), .int .i64 (1:Int), .int .i64 x3, .bool false, .sl false 1 (([] : List Int).map (cI .i64))]) (.cons (.same _) (.cons (.same _) (.cons (.same _) (.cons (.same _) (.cons (.same _) (.cons (.same _) (.cons (.same _) (.cons (.same _) (.cons (.nil _ _) (.refl _))))))))))) ?_)
 obtain ⟨b, y, h⟩ := bind_some h
 refine sp rfl (Q8 (is := [2, 3]) (ph := []) rfl (dk rfl) Tryz.func105 rfl rfl (Q7.cons rfl (Q7.cons rfl Q7.nil)) (Ov K (bx0 := bx0) (wx0c0 := wx0c0) y) (.cons rfl rfl (.cons rfl rfl (.nil))) (fun _ => rfl) (fun aa => ?_))
 refine nm (.c (.c (.c (.c (.n))))) ?_
 refine sp rfl (Qx (i := 1) (cells' := [.d (.bool b.1.null), .d (.sl false 1 (mI b.1.first)), .d (.sl false 1 (mI b.1.last))]) rfl rfl i128 rfl rfl rfl rfl (nb rfl) rfl ?_)
 refine TL'.nil (tN ?_)
 refine T.ret (Qw ?_)
 exact Q4 (.cons _ _ _ _ (.cellAgg 8 128 _ 0 1 128 _ [.bool b.1.null, .sl false 1 (mI b.1.first), .sl false 1 (mI b.1.last)] _ _ 3 _ rfl rfl rfl rfl Kj rfl i128) .nil) (.cons 2 rfl (.cons 2 rfl (.nil _))) (by cases h; exact ⟨gl [aa 0], rfl, rfl⟩)
 refine Qp rfl j ?_
 refine T.skip (tN ?_)
 refine T.seq ?_
 refine T.seq (Qq ?_)
 refine oP K2 i5 rfl ?_
 refine oL 0 ul5 rfl ?_
 refine oI rfl ?_
 refine mw rfl ?_
 rcases Qe h with ⟨g, h⟩ | ⟨g, h⟩
 cases h
 refine pf rfl g ?_
 refine pf rfl g ?_
 refine pf rfl g ?_
 refine oZ g rfl ?_
 refine TL'.nil (tN ?_)
 refine Qp rfl rfl ?_
 refine T.skip (tN ?_)
 refine T.seq (Qq ?_)
 refine aw rfl ?_
 refine TL'.nil (tN ?_)
 refine T.seq ?_
 refine T.seq (Qq ?_)
 refine aw rfl ?_
 refine TL'.nil (tN ?_)
 refine T.block ?_
 refine T.loop ?_
 refine Qh (Xu 128 3) ?_
 refine Qh ?_ (Fe K rec_raddleref09_builder_node hrec_raddleref09_builder_node bx0 K x1 x3 (0:Int) x0.p a.Op a.S a.L a.Lo a.Hi a.Name [] flx1 wx0c0 q w (Qeb 2) h)
 exact tr rfl (.c (.s (.s (.s .z))) (.c (.s (.s (.s .z))) (.c (.s (.s .z)) (.c (.s .z) (.c .z (.n _))))))
theorem F6 (K : Nat) : ∀ n, Uk (Uj K n) := by
 intro n
 induction n with
 | zero =>
  intro x0 x1 x2 x3 bx0 wx0c0 flx1 r h
  exact zn h
 | succ n ih =>
  intro x0 x1 x2 x3 bx0 wx0c0 flx1 r h
  exact F7 K (Uj K n) ih h
theorem N2 (K : Nat) {x0 : Qj} {x1 : List Q2} {x2 x3 : Int} {bx0 : Nat} {wx0c0 : Value} {flx1 : Bool} {r : Qs × Qj} (h : Ca K x0 x1 x2 x3 = some r) : Us tp 66 [.ptr bx0 0, .sl flx1 9 (x1.map Qo), .int .i64 x2, .int .i64 x3] [(Ji bx0 wx0c0), .arrX wx0c0 65 9 0 (x0.p.map Q0)] (fun γ => (.agg [.bool r.1.null, .sl false 1 (mI r.1.first), .sl false 1 (mI r.1.last)])) (fun γ => [(Ji bx0 (γ 0)), .arrX (γ 0) 65 9 0 (r.2.p.map Q0)]) := F6 K K x0 x1 x2 x3 bx0 wx0c0 flx1 r h
abbrev Bw (r : Bool) : ES := Wb tp Tryz.f65 (fun y t => y = (.bool r) ∧ t = [])
abbrev R0 (r : Bool) : ES := thenS (fun s' => T tp 37 (ca [1,1,1] Tryz.f65) s' ((Bw r))) ((Bw r))
abbrev O1 (r : Bool) : ES := Qz 0 ((R0 r))
theorem Tp {r : Bool} (K : Nat) : ∀ (k : Nat), ∀ (x0 : List Q2) (c : Int) (flx0 : Bool), H5 K k x0 c = some r → TL tp 37 (ca [1,1,0,1,0,0] Tryz.f65) ⟨[(0, .sl flx0 9 (x0.map Qo)), (3, .int .i64 c)], []⟩ (O1 r) := by
 intro k
 induction k with
 | zero =>
  intro x0 c flx0 h
  exact zn h
 | succ k ih =>
  intro x0 c flx0 h
  rw [H5] at h
  refine Q6 ?_
  refine T.seq ?_
  refine T.seq (Qq ?_)
  refine mw rfl ?_
  refine mw rfl ?_
  refine oU x0 Qo Sf rfl ?_
  refine oI rfl ?_
  refine TL'.nil (tN ?_)
  rcases Qe h with ⟨g, h⟩ | ⟨g, h⟩
  refine Qr rfl g ?_
  refine T.skip (tN ?_)
  refine T.seq ?_
  refine T.block ?_
  refine T.seq (Qq ?_)
  refine mw rfl ?_
  refine mw rfl ?_
  obtain ⟨a, j, h⟩ := bind_some h
  refine oX x0 Qo Sf i165 j rfl ?_
  refine sp rfl (Zb rfl (dk rfl) K2 rfl i165 rfl (nb rfl) ?_)
  refine sp rfl (Ze rfl (dk rfl) i165 rfl (fun l => ?_))
  refine sp rfl (Qx (i := 0) (cells' := [.d (.int .u8 a.Op), .d (.int .u64 a.S.a0), .d (.int .u64 a.S.a1), .d (.int .u64 a.S.a2), .d (.int .u64 a.S.a3), .d (.sl false 1 (mI a.L)), .d (.int .i64 a.Lo), .d (.int .i64 a.Hi), .d (.str a.Name)]) rfl rfl i165 rfl rfl rfl rfl (nb rfl) rfl ?_)
  refine TL'.nil (tN (T.seq (Qq ?_)))
  refine oP K2 i5 rfl ?_
  refine oL 0 ul5 rfl ?_
  refine oI rfl ?_
  refine mw rfl ?_
  rcases Qe h with ⟨b, h⟩ | ⟨b, h⟩
  cases h
  refine pf rfl b ?_
  refine pf rfl b ?_
  refine pf rfl b ?_
  refine pf rfl b ?_
  refine Qa4 (.gone _ _ _ rfl rfl rfl) (dk rfl) ?_
  refine Qa4 (.gone _ _ _ rfl rfl rfl) (dk rfl) ?_
  refine Qa4 (.gone _ _ _ rfl rfl rfl) (dk rfl) ?_
  refine pf rfl b ?_
  refine oZ b rfl ?_
  refine mw rfl ?_
  refine pf rfl rfl ?_
  refine pf rfl rfl ?_
  refine pf rfl rfl ?_
  refine pf rfl rfl ?_
  refine oZ rfl rfl ?_
  refine TL'.nil (tN ?_)
  refine Qp rfl rfl ?_
  refine T.skip (Ql (tN ?_))
  refine Qq ?_
  refine mw rfl ?_
  refine oI rfl ?_
  refine aw rfl ?_
  refine TL'.nil (tN ?_)
  refine Qh ?_ (ih x0 (wI (c + (1:Int))) flx0 h)
  exact tq rfl rfl
  refine Qp rfl g ?_
  refine T.exit (Qk (Qk (Qt (tN ?_))))
  refine T.seq (Qq ?_)
  refine aw rfl ?_
  refine TL'.nil (tN ?_)
  refine T.ret ?_
  exact fd rfl (by cases h; exact ⟨rfl, rfl⟩)
theorem Qco (K : Nat) {x0 : List Q2} {flx0 r : Bool} (h : Dz K x0 = some r) : Zn tp 65 [.sl flx0 9 (x0.map Qo)] [] (.bool r) := by
 refine Qu Tryz.func65 rfl (nb rfl) ?_
 show T tp 37 (ca [] Tryz.f65) ⟨Qv 0 [.sl flx0 9 (x0.map Qo)], []⟩ (Bw r)
 unfold Dz at h
 refine T.seq (Qq ?_)
 refine aw rfl ?_
 refine TL'.nil (tN ?_)
 refine T.seq ?_
 refine T.seq (Qq ?_)
 refine mw rfl ?_
 obtain ⟨c, b, h⟩ := bind_some h
 refine sp rfl (Q1 rfl (dk rfl) Tryz.func62 rfl rfl (Q7.cons rfl Q7.nil) (Zn.nil (Nb K (flx0 := flx0) b)) ?_)
 refine oT rfl ?_
 refine TL'.nil (tN ?_)
 rcases Qe h with ⟨a, h⟩ | ⟨a, h⟩
 cases h
 refine Qp rfl a ?_
 refine T.skip (tN ?_)
 refine T.seq ?_
 refine T.seq (Qq ?_)
 refine aw rfl ?_
 refine TL'.nil (tN ?_)
 refine T.block ?_
 refine T.loop ?_
 refine Qh ?_ (Tp K K x0 (0:Int) flx0 h)
 exact tq rfl rfl
abbrev Lt (r : Zr × Int) : ES := Wb tp Tryz.f37 (fun y t => y = (.tup [.agg [.sl false 1 (mI r.1.First), .sl false 9 (r.1.P.map Q0)], .int .i64 r.2]) ∧ t = [])
abbrev Rz (r : Zr × Int) : ES := thenS (fun s' => T tp 86 (ca [1,1,1,1,1,1] Tryz.f37) s' ((Lt r))) ((Lt r))
abbrev U1 (r : Zr × Int) : ES := Qz 2 ((Rz r))
abbrev M6 (r : Zr × Int) : ES := thenS (fun s' => TL tp 86 (ca [1,1,1,1,1,0,1,0,0] Tryz.f37) s' ((U1 r))) ((U1 r))
abbrev Ib (r : Zr × Int) : ES := thenS (fun s' => T tp 86 (ca [1,1,1,1,1,0,1,0,0,1,1] Tryz.f37) s' ((M6 r))) ((M6 r))
abbrev Hw (r : Zr × Int) : ES := Qz 3 ((Ib r))
abbrev Dg (r : Zr × Int) : ES := thenS (fun s' => T tp 86 (ca [1,1,1,1,1,0,1,0,0,1,0,0,1,1,1] Tryz.f37) s' ((Hw r))) ((Hw r))
abbrev K9 (r : Zr × Int) : ES := Qz 4 ((Dg r))
abbrev Qbh (r : Zr × Int) : ES := thenS (fun s' => T tp 86 (ca [1,1,1] Tryz.f37) s' ((Lt r))) ((Lt r))
abbrev Tn (r : Zr × Int) : ES := Qz 0 ((Qbh r))
abbrev Qcm (r : Zr × Int) (go : (List (List Q2)) → Int → (List Int) → (List Zp) → (List Zp) → (List Int) → (List Zp) → Option (Zr × Int)) : Prop := ∀ (x0 : List (List Q2)) (a : Int) (b : List Int) (c f : List Zp) (g : List Int) (i : List Zp) (flx0 : Bool) (j : Nat) (l : Value) (m : Nat) (n : Value) (p : Nat) (q : Value), go x0 a b c f g i = some r → TL tp 86 (ca [1,1,1,1,1,0,1,0,0] Tryz.f37) ⟨[(0, .sl flx0 1 (x0.map (cL 9 Qo))), (2, .ptr j 0), (5, .ptr m 0), (6, .ptr p 0), (7, .int .i64 a)], [(b43x14 j b l), .arrA l 65 9 (c.map Q0), (Ji m n), .arrX n 65 9 0 (f.map Q0), (b43x14 p g q), .arrA q 65 9 (i.map Q0)]⟩ (U1 r)
theorem Qck {r : Zr × Int} (K : Nat) (go1 : (List (List Q2)) → Int → (List Int) → (List Zp) → (List Zp) → (List Int) → (List Zp) → Option (Zr × Int)) (hgo1 : Qcm r go1) : ∀ (k : Nat), ∀ (x0 : List (List Q2)) (aa ab : Int) (ac : List Int) (ad j : List Zp) (af : List Int) (ag : List Zp) (ai : Bool) (aj m : List Int) (flx0 : Bool) (q : Nat) (s : Value) (g : Nat) (b : Value) (w : Nat) (y : Value) (p : Nat), Ma K go1 k x0 aa ab ac ad j af ag ai aj m = some r → TL tp 86 (ca [1,1,1,1,1,0,1,0,0,1,0,0,1,1,0,1,0,0] Tryz.f37) ⟨[(0, .sl flx0 1 (x0.map (cL 9 Qo))), (2, .ptr q 0), (5, .ptr g 0), (6, .ptr w 0), (7, .int .i64 aa), (8, .ptr p 0), (9, .int .i64 ab)], [(b43x14 q ac s), .arrA s 65 9 (ad.map Q0), (Ji g b), .arrX b 65 9 0 (j.map Q0), (b43x14 w af y), .arrA y 65 9 (ag.map Q0), (Nl p ai aj m)]⟩ (K9 r) := by
 intro k
 induction k with
 | zero =>
  intro x0 aa ab ac ad j af ag ai aj m flx0 q s g b w y p h
  exact zn h
 | succ k ih =>
  intro x0 aa ab ac ad j af ag ai aj m flx0 q s g b w y p h
  rw [Ma] at h
  refine Q6 ?_
  refine T.seq ?_
  refine T.seq (Qq ?_)
  refine mw rfl ?_
  refine oP Kj i38 rfl ?_
  refine oL 6 Zy rfl ?_
  refine oU m (cI .i64) Zy rfl ?_
  refine oI rfl ?_
  refine TL'.nil (tN ?_)
  rcases Qe h with ⟨al, h⟩ | ⟨al, h⟩
  refine Qr rfl al ?_
  refine T.skip (tN ?_)
  refine T.seq ?_
  refine T.block ?_
  refine Yx ?_
  refine dV rfl rfl ?_
  refine dK rfl (.f rfl) rfl ?_
  refine dP rfl (.f rfl) ul126 i41 rfl ?_
  refine dL 2 rfl (.f rfl) Sg rfl ?_
  refine dP rfl (.f rfl) Kj i38 rfl ?_
  refine dL 6 rfl (.f rfl) Zy rfl ?_
  refine dV rfl rfl ?_
  obtain ⟨l, ap, h⟩ := bind_some h
  refine dX m (cI .i64) rfl (.f rfl) Zy i3 ap rfl ?_
  refine dR rfl (.f rfl) ul3 rfl ?_
  obtain ⟨a, am, h⟩ := bind_some h
  refine dS (c := ⟨some 71, .el b 9 (Int.toNat l) 0, [(65, .c (.ex b)), (70, .int .i64 l)], [(3, .arrX b 65 9 0 (j.map Q0))], []⟩) (fun t hm => oF rfl rfl (Ya (n := 3) (xs := j) (f := Q0) (old := a) rfl (dk rfl) Sg i65 hm.s0 hm.o0 hm.s1 am rfl)) rfl rfl ?_
  refine dS (c := ⟨some 72, .el b 9 (Int.toNat l) 7, [(71, .el b 9 (Int.toNat l) 0)], [], []⟩) (fun t hm => oF rfl rfl (B5 rfl (dk rfl) ul65 rfl i4 (by decide) hm.s0 rfl)) rfl rfl ?_
  refine dS (c := ⟨none, .any, [(72, .el b 9 (Int.toNat l) 7)], [(3, .arrX b 65 9 0 (j.map Q0))], [(3, .arrX b 65 9 0 ((List.set j (Int.toNat l) (Zp.mk a.S a.Lo a.Hi a.Rule true a.Next)).map Q0))]⟩) (fun t hm => oF rfl rfl (Ht (i := 3) (xs := j) (f := Q0) (old := a) (new := (Zp.mk a.S a.Lo a.Hi a.Rule true a.Next)) rfl rfl i4 hm.s0 rfl hm.o0 (Zt am).2 (Nat.zero_le _) (nb rfl) rfl rfl)) rfl rfl ?_
  refine dF [0,1,3,7,0,16,0,112,240,511,1023,2047] Q3 rfl (by kernel_rfl) (fun u hu => (Ql (tN (Qm hu ?_))))
  refine Qq ?_
  refine mw rfl ?_
  refine oI rfl ?_
  refine aw rfl ?_
  refine TL'.nil (tN ?_)
  refine Qh ?_ (ih x0 aa (wI (ab + (1:Int))) ac ad (List.set j (Int.toNat l) (Zp.mk a.S a.Lo a.Hi a.Rule true a.Next)) af ag ai aj m flx0 q s g b w y p h)
  exact tq rfl rfl
  refine Qp rfl al ?_
  refine T.exit (Qk (Qk (Qt (tN ?_))))
  refine T.seq (Qq ?_)
  refine mw rfl ?_
  refine oK rfl ?_
  refine oP ul126 i41 rfl ?_
  refine oL 2 Sg rfl ?_
  refine sp rfl (Hk (i := 3) (xs := j) (f := Q0) rfl (dk rfl) Sg rfl rfl ?_)
  refine oI rfl ?_
  refine TL'.nil (tN ?_)
  rcases Qe h with ⟨an, h⟩ | ⟨an, h⟩
  cases h
  refine Qp rfl an ?_
  refine T.skip (Ql (tN ?_))
  refine Qq ?_
  refine mw rfl ?_
  refine oI rfl ?_
  refine aw rfl ?_
  refine TL'.nil (tN ?_)
  refine Qh ?_ (hgo1 x0 (wI (aa + (1:Int))) ac ad j af ag flx0 q s g b w y h)
  exact tq rfl rfl
theorem Qcl {r : Zr × Int} (K : Nat) : ∀ (k : Nat), ∀ (x0 : List (List Q2)) (m : Int) (ai : List Int) (aj ab : List Zp) (y : List Int) (al : List Zp) (flx0 : Bool) (ad : Nat) (af : Value) (w : Nat) (aa : Value) (ag : Nat) (ac : Value), Gw K k x0 m ai aj ab y al = some r → TL tp 86 (ca [1,1,1,1,1,0,1,0,0] Tryz.f37) ⟨[(0, .sl flx0 1 (x0.map (cL 9 Qo))), (2, .ptr ad 0), (5, .ptr w 0), (6, .ptr ag 0), (7, .int .i64 m)], [(b43x14 ad ai af), .arrA af 65 9 (aj.map Q0), (Ji w aa), .arrX aa 65 9 0 (ab.map Q0), (b43x14 ag y ac), .arrA ac 65 9 (al.map Q0)]⟩ (U1 r) := by
 intro k
 induction k with
 | zero =>
  intro x0 m ai aj ab y al flx0 ad af w aa ag ac h
  exact zn h
 | succ k ih =>
  intro x0 m ai aj ab y al flx0 ad af w aa ag ac h
  rw [Gw] at h
  refine Q6 ?_
  refine T.seq ?_
  refine T.seq (Qq ?_)
  refine mw rfl ?_
  refine mw rfl ?_
  refine oU x0 (cL 9 Qo) ul87 rfl ?_
  refine oI rfl ?_
  refine TL'.nil (tN ?_)
  rcases Qe h with ⟨am, h⟩ | ⟨am, h⟩
  refine Qr rfl am ?_
  refine T.skip (tN ?_)
  refine T.seq ?_
  refine T.block ?_
  refine T.seq ?_
  refine Qm Y2 ?_
  refine Hl ?_
  refine dC (c := ⟨some 36, .ptr w 0, [(5, .ptr w 0)], [], []⟩) (fun t hm => oF rfl rfl (OpT.move rfl (dk rfl) hm.s0 ⟨u0, rfl⟩)) (fun _ => rfl) (fun _ => rfl) ?_
  refine dC (c := ⟨some 37, .sl flx0 1 (x0.map (cL 9 Qo)), [(0, .sl flx0 1 (x0.map (cL 9 Qo)))], [], []⟩) (fun t hm => oF rfl rfl (OpT.move rfl (dk rfl) hm.s0 ⟨u0, rfl⟩)) (fun _ => rfl) (fun _ => rfl) ?_
  refine dC (c := ⟨some 38, .int .i64 m, [(7, .int .i64 m)], [], []⟩) (fun t hm => oF rfl rfl (OpT.move rfl (dk rfl) hm.s0 ⟨u0, rfl⟩)) (fun _ => rfl) (fun _ => rfl) ?_
  obtain ⟨q, an, h⟩ := bind_some h
  refine dC (c := ⟨some 39, .ref [.sl false 9 (q.map Qo)], [(37, .sl flx0 1 (x0.map (cL 9 Qo))), (38, .int .i64 m)], [], []⟩) (fun t hm => oF rfl rfl (Yq (xs := x0) (f := (cL 9 Qo)) (v := q) rfl (dk rfl) ul87 i80 hm.s0 hm.s1 an ⟨u0, rfl⟩)) (fun _ => rfl) (fun _ => rfl) ?_
  refine dC (c := ⟨some 40, .sl false 9 (q.map Qo), [(39, .ref [.sl false 9 (q.map Qo)])], [], []⟩) (fun t hm => oF rfl rfl (Xi rfl (dk rfl) Sf rfl hm.s0 rfl ⟨u0, rfl⟩)) (fun _ => rfl) (fun _ => rfl) ?_
  refine dC (c := ⟨some 41, .sl flx0 1 (x0.map (cL 9 Qo)), [(0, .sl flx0 1 (x0.map (cL 9 Qo)))], [], []⟩) (fun t hm => oF rfl rfl (OpT.move rfl (dk rfl) hm.s0 ⟨u0, rfl⟩)) (fun _ => rfl) (fun _ => rfl) ?_
  refine dC (c := ⟨some 42, .int .i64 m, [(7, .int .i64 m)], [], []⟩) (fun t hm => oF rfl rfl (OpT.move rfl (dk rfl) hm.s0 ⟨u0, rfl⟩)) (fun _ => rfl) (fun _ => rfl) ?_
  refine dC (c := ⟨some 43, .ref [.sl false 9 (q.map Qo)], [(41, .sl flx0 1 (x0.map (cL 9 Qo))), (42, .int .i64 m)], [], []⟩) (fun t hm => oF rfl rfl (Yq (xs := x0) (f := (cL 9 Qo)) (v := q) rfl (dk rfl) ul87 i80 hm.s0 hm.s1 an ⟨u0, rfl⟩)) (fun _ => rfl) (fun _ => rfl) ?_
  refine dC (c := ⟨some 44, .sl false 9 (q.map Qo), [(43, .ref [.sl false 9 (q.map Qo)])], [], []⟩) (fun t hm => oF rfl rfl (Xi rfl (dk rfl) Sf rfl hm.s0 rfl ⟨u0, rfl⟩)) (fun _ => rfl) (fun _ => rfl) ?_
  refine dC (c := ⟨some 45, .int .i64 (q.length : Int), [(44, .sl false 9 (q.map Qo))], [], []⟩) (fun t hm => oF rfl rfl (Yg (xs := q) (f := Qo) rfl (dk rfl) Sf hm.s0 ⟨u0, rfl⟩)) (fun _ => rfl) (fun _ => rfl) ?_
  refine dC (c := ⟨some 46, .int .i64 (wI ((q.length : Int) - (1:Int))), [(45, .int .i64 (q.length : Int))], [], []⟩) (fun t hm => oF rfl rfl (Zj rfl rfl (dk rfl) hm.s0 rfl ⟨u0, rfl⟩)) (fun _ => rfl) (fun _ => rfl) ?_
  refine dC (c := ⟨some 47, .int .i64 m, [(7, .int .i64 m)], [], []⟩) (fun t hm => oF rfl rfl (OpT.move rfl (dk rfl) hm.s0 ⟨u0, rfl⟩)) (fun _ => rfl) (fun _ => rfl) ?_
  obtain ⟨j, aq, h⟩ := bind_some h
  refine DGG.step (c := fun a => ⟨some 48, .agg [.bool j.1.null, .sl false 1 (mI j.1.first), .sl false 1 (mI j.1.last)], [(36, .ptr w 0), (40, .sl false 9 (q.map Qo)), (46, .int .i64 (wI ((q.length : Int) - (1:Int)))), (47, .int .i64 m)], [(4, .arrX aa 65 9 0 (ab.map Q0)), (3, (Ji w aa))], [(3, (Ji w ((a 12).1 0))), (4, .arrX ((a 12).1 0) 65 9 0 (j.2.p.map Q0))]⟩) [12] (fun a γ' h => by simp only [h 12 (by decide)]) (fun a t hm => oF rfl rfl (Q8 (is := [3, 4]) (ph := []) rfl (dk rfl) Tryz.func66 rfl rfl (Q7.cons hm.s0 (Q7.cons hm.s1 (Q7.cons hm.s2 (Q7.cons hm.s3 Q7.nil)))) (N2 K (bx0 := w) (wx0c0 := aa) (flx1 := false) aq) (.cons hm.o1 rfl (.cons hm.o0 rfl (.nil))) (fun _ => rfl) (fun g => ⟨(g, 0), rfl⟩))) (fun a => Z2 rfl rfl) ?_
  refine DGG.step (c := fun a => ⟨some 8, .ptr ((a 13).2) 0, [], [(0, .ro 0 [])], [(0, .box ((a 13).2) 128 [.d (.bool false), .d (.ex (.slice none 0 0)), .d (.ex (.slice none 0 0))])]⟩) [13] (fun a γ' h => by simp only [h 13 (by decide)]) (fun a t hm => oF rfl rfl (Qgq 0 rfl (dk rfl) i128 rfl hm.o0 (fun b => ⟨(fun _ => undef, b), rfl⟩))) (fun a => Z2 rfl rfl) ?_
  refine DGG.step (c := fun a => ⟨none, .any, [(8, .ptr ((a 13).2) 0), (48, .agg [.bool j.1.null, .sl false 1 (mI j.1.first), .sl false 1 (mI j.1.last)])], [(0, .box ((a 13).2) 128 [.d (.bool false), .d (.ex (.slice none 0 0)), .d (.ex (.slice none 0 0))])], [(0, .box ((a 13).2) 128 [.d (.bool j.1.null), .d (.sl false 1 (mI j.1.first)), .d (.sl false 1 (mI j.1.last))])]⟩) [13] (fun a γ' h => by simp only [h 13 (by decide)]) (fun a t hm => oF rfl rfl (Qx (i := 0) (cells' := [.d (.bool j.1.null), .d (.sl false 1 (mI j.1.first)), .d (.sl false 1 (mI j.1.last))]) rfl rfl i128 hm.s0 hm.s1 rfl hm.o0 (nb rfl) rfl ⟨u0, rfl⟩)) (fun a => Z2 rfl rfl) ?_
  refine gF [0,0,0,6,14,0,0,96,224,480,992,0,4095,0,16383] Q3 rfl (by kernel_rfl) (fun _ => by kernel_rfl) (fun a u hu => (tN (Qm hu ?_)))
  refine T.seq (Qq ?_)
  refine oP Qfy i38 rfl ?_
  refine oL 5 Zy rfl ?_
  refine oP Kj i38 rfl ?_
  refine oL 0 Zy rfl ?_
  obtain ⟨ap, au, h⟩ := bind_some h
  refine sp rfl (Q1 rfl (dk rfl) Tryz.func67 rfl rfl (Q7.cons rfl (Q7.cons rfl Q7.nil)) (Zn.nil (Hd K (flx0 := false) (flx1 := false) au)) ?_)
  refine oP Qfy i38 rfl ?_
  refine sp rfl (Wl (i := 5) (cells' := [.d (.sl false 1 (mI ap)), .d (.ex ac)]) rfl rfl i38 rfl rfl rfl (nb rfl) rfl ?_)
  refine TL'.nil (tN ?_)
  refine T.seq ?_
  refine T.seq (Qq ?_)
  refine aw rfl ?_
  refine TL'.nil (tN ?_)
  refine T.block ?_
  refine T.loop ?_
  refine Qh ?_ (Qck K (Gw K k) ih K x0 m (0:Int) ai aj j.2.p ap al j.1.null j.1.first j.1.last flx0 ad af w ((a 12).1 0) ag ac ((a 13).2) h)
  exact tr rfl (.c (.s .z) (.c (.s .z) (.c (.s .z) (.c (.s .z) (.c (.s .z) (.c (.s .z) (.c .z (.n _))))))))
  refine Qp rfl am ?_
  refine T.exit (Qk (Qk (Qt (tN ?_))))
  refine T.seq (Qq ?_)
  refine mw rfl ?_
  refine oK rfl ?_
  refine oP ul126 i41 rfl ?_
  refine oL 2 Sg rfl ?_
  refine oP Qfy i41 rfl ?_
  refine sp rfl (Wl (i := 4) (cells' := [.d (.sl false 1 (mI y)), .d (.ex aa)]) rfl rfl i41 rfl rfl rfl (nb rfl) rfl ?_)
  refine TL'.nil (tN (T.seq (Qq ?_)))
  refine Hj (L4 3 rfl) ?_
  refine sp rfl (Zq (Jt (i := 4) (l := [.sl false 1 (mI y), .ex aa]) rfl (dk rfl) Qfy rfl i43 rfl rfl rfl rfl rfl) (Yd 85 (l := [.sl false 1 (mI y), .ex aa]) (l' := [.sl false 1 (mI y), .sl false 9 (ab.map Q0)]) (.cons (.same _) (.cons (.view 3 rfl) (.refl _)))) ?_)
  refine sp rfl (Qx (i := 0) (cells' := [.d (.sl false 1 (mI y)), .d (.sl false 9 (ab.map Q0))]) rfl rfl i43 rfl rfl rfl rfl (nb rfl) rfl ?_)
  refine aw rfl ?_
  refine TL'.nil (tN ?_)
  refine T.ret ?_
  exact Fin.done (.cons _ _ _ _ (.cellAgg 2 43 _ 0 0 43 _ [.sl false 1 (mI y), .sl false 9 (ab.map Q0)] _ _ 2 _ rfl rfl rfl rfl Qfy rfl i43) (.cons _ _ _ _ (.tmp 3 _ rfl) .nil)) (by cases h; exact ⟨rfl, rfl⟩)
theorem Qcn {r : Zr × Int} (K : Nat) : ∀ (k : Nat), ∀ (x0 : List (List Q2)) (b : Int) (flx0 : Bool) (a : Nat), Mb K k x0 b = some r → TL tp 86 (ca [1,1,0,1,0,0] Tryz.f37) ⟨[(0, .sl flx0 1 (x0.map (cL 9 Qo))), (2, .ptr a 0), (4, .int .i64 b)], [.box a 43 [.d (.ex (.slice none 0 0)), .d (.ex (.slice none 0 0))]]⟩ (Tn r) := by
 intro k
 induction k with
 | zero =>
  intro x0 b flx0 a h
  exact zn h
 | succ k ih =>
  intro x0 b flx0 a h
  rw [Mb] at h
  refine Q6 ?_
  refine T.seq ?_
  refine T.seq (Qq ?_)
  refine mw rfl ?_
  refine mw rfl ?_
  refine oU x0 (cL 9 Qo) ul87 rfl ?_
  refine oI rfl ?_
  refine TL'.nil (tN ?_)
  rcases Qe h with ⟨g, h⟩ | ⟨g, h⟩
  refine Qr rfl g ?_
  refine T.skip (tN ?_)
  refine T.seq ?_
  refine T.block ?_
  refine T.seq (Qq ?_)
  refine mw rfl ?_
  refine mw rfl ?_
  obtain ⟨m, p, h⟩ := bind_some h
  refine oX x0 (cL 9 Qo) ul87 i80 p rfl ?_
  refine oR Sf rfl ?_
  obtain ⟨y, q, h⟩ := bind_some h
  refine sp rfl (Q1 rfl (dk rfl) Tryz.func65 rfl rfl (Q7.cons rfl Q7.nil) (Zn.nil (Qco K (flx0 := false) q)) ?_)
  refine oT rfl ?_
  refine TL'.nil (tN ?_)
  rcases Qe h with ⟨j, h⟩ | ⟨j, h⟩
  cases h
  refine Qp rfl j ?_
  refine T.skip (Ql (tN ?_))
  refine Qq ?_
  refine mw rfl ?_
  refine oI rfl ?_
  refine aw rfl ?_
  refine TL'.nil (tN ?_)
  refine Qh ?_ (ih x0 (wI (b + (1:Int))) flx0 a h)
  exact tq rfl rfl
  refine Qp rfl g ?_
  refine T.exit (Qk (Qk (Qt (tN ?_))))
  refine T.seq (Qq ?_)
  refine sp rfl (OpT.build (l := [.ex (.slice none 0 0)]) rfl (dk rfl) (Zu (pl := [(0, 1)]) ul126 i126 rfl) (Mi rfl) rfl rfl ?_)
  refine sp rfl (Zi rfl (dk rfl) rfl (fun u => ?_))
  refine aw rfl ?_
  refine TL'.nil (tN (T.seq (Qq ?_)))
  refine sp rfl (Zq (OpT.build (l := [.ex (.slice none 0 0), .ex (.slice none 0 0)]) rfl (dk rfl) (Zu (pl := [(0, 1), (1, 1)]) Qfy i43 rfl) (Mi rfl) rfl rfl rfl) (Yd 29 (l := [.ex (.slice none 0 0), .ex (.slice none 0 0)]) (l' := [.sl false 1 (([] : List Int).map (cI .i64)), .ex (.slice none 0 0)]) (.cons (.nil _ _) (.cons (.same _) (.refl _)))) ?_)
  refine sp rfl (Ze rfl (dk rfl) i43 rfl (fun w => ?_))
  refine sp rfl (Qx (i := 0) (cells' := [.d (.sl false 1 (([] : List Int).map (cI .i64))), .d (.ex (.slice none 0 0))]) rfl rfl i43 rfl rfl rfl rfl (nb rfl) rfl ?_)
  refine TL'.nil (tN ?_)
  refine T.seq ?_
  refine T.seq (Qq ?_)
  refine aw rfl ?_
  refine TL'.nil (tN ?_)
  refine T.block ?_
  refine T.loop ?_
  refine Qh (Xu 65 9) ?_
  refine Qh (La 3 (l := [.ex (.slice none 0 0), .ex (Qeb 16)]) (l' := [.sl false 1 (([] : List Int).map (cI .i64)), .ex (Qeb 16)]) rfl (.cons (.nil _ _) (.cons (.same _) (.refl _)))) ?_
  refine Qh (Qgl 65 9) ?_
  refine Qh (Xu 65 9) ?_
  refine Qh ?_ (Qcl K K x0 (0:Int) [] [] [] [] [] flx0 a (Qeb 16) u (Qeb 17) w (Qeb 18) h)
  exact tr rfl (.c (.s (.s (.s (.s (.s .z))))) (.c (.s (.s .z)) (.c (.s (.s (.s .z))) (.c (.s .z) (.c (.s .z) (.c .z (.n _)))))))
theorem Qfi (K : Nat) {x0 : List (List Q2)} {flx0 : Bool} {r : Zr × Int} (h : Oy K x0 = some r) : Zn tp 37 [.sl flx0 1 (x0.map (cL 9 Qo))] [] (.tup [.agg [.sl false 1 (mI r.1.First), .sl false 9 (r.1.P.map Q0)], .int .i64 r.2]) := by
 refine Qu Tryz.func37 rfl (nb rfl) ?_
 show T tp 86 (ca [] Tryz.f37) ⟨Qv 0 [.sl flx0 1 (x0.map (cL 9 Qo))], []⟩ (Lt r)
 unfold Oy at h
 refine T.seq (Qq ?_)
 refine sp rfl (Ze rfl (dk rfl) i43 rfl (fun b => ?_))
 refine aw rfl ?_
 refine TL'.nil (tN ?_)
 refine T.seq ?_
 refine T.seq (Qq ?_)
 refine mw rfl ?_
 refine oU x0 (cL 9 Qo) ul87 rfl ?_
 refine oI rfl ?_
 refine TL'.nil (tN ?_)
 rcases Qe h with ⟨a, h⟩ | ⟨a, h⟩
 cases h
 refine Qp rfl a ?_
 refine T.skip (tN ?_)
 refine T.seq ?_
 refine T.seq (Qq ?_)
 refine aw rfl ?_
 refine TL'.nil (tN ?_)
 refine T.block ?_
 refine T.loop ?_
 refine Qh ?_ (Qcn K K x0 (0:Int) flx0 b h)
 exact tq rfl rfl
abbrev Bt (r : Bool) : ES := Wb tp Tryz.f77 (fun y t => y = (.bool r) ∧ t = [])
abbrev Tj (r : Bool) : ES := thenS (fun s' => T tp 41 (ca [1,1] Tryz.f77) s' ((Bt r))) ((Bt r))
abbrev P0 (r : Bool) : ES := Qz 0 ((Tj r))
theorem Tl {r : Bool} (K : Nat) : ∀ (k : Nat), ∀ (x0 : List Int) (x1 a : Int) (flx0 : Bool), Jr K k x0 x1 a = some r → TL tp 41 (ca [1,0,1,0,0] Tryz.f77) ⟨[(0, .sl flx0 1 (mI x0)), (1, .int .i64 x1), (5, .int .i64 a)], []⟩ (P0 r) := by
 intro k
 induction k with
 | zero =>
  intro x0 x1 a flx0 h
  exact zn h
 | succ k ih =>
  intro x0 x1 a flx0 h
  rw [Jr] at h
  refine Q6 ?_
  refine T.seq ?_
  refine T.seq (Qq ?_)
  refine mw rfl ?_
  refine mw rfl ?_
  refine oU x0 (cI .i64) Zy rfl ?_
  refine oI rfl ?_
  refine TL'.nil (tN ?_)
  rcases Qe h with ⟨l, h⟩ | ⟨l, h⟩
  refine Qr rfl l ?_
  refine T.skip (tN ?_)
  refine T.seq ?_
  refine T.block ?_
  refine T.seq ?_
  refine Yx ?_
  refine dV rfl rfl ?_
  refine dV rfl rfl ?_
  obtain ⟨b, m, h⟩ := bind_some h
  refine dX x0 (cI .i64) rfl (.f rfl) Zy i3 m rfl ?_
  refine dR rfl (.f rfl) ul3 rfl ?_
  refine dI rfl (.f rfl) rfl ?_
  refine dV rfl rfl ?_
  rcases Qe h with ⟨i, h⟩ | ⟨i, h⟩
  cases h
  refine dM rfl (.n i rfl) rfl ?_
  refine dM rfl (.n i rfl) rfl ?_
  refine dX x0 (cI .i64) rfl (.n i rfl) Zy i3 m rfl ?_
  refine dR rfl (.n i rfl) ul3 rfl ?_
  refine dM rfl (.n i rfl) rfl ?_
  refine dI rfl (.n i rfl) rfl ?_
  refine dZ rfl (.f rfl) i rfl ?_
  refine dV rfl rfl ?_
  rcases Qe h with ⟨j, h⟩ | ⟨j, h⟩
  cases h
  refine dM rfl (.n j rfl) rfl ?_
  refine dI rfl (.n j rfl) rfl ?_
  refine dM rfl (.n j rfl) rfl ?_
  rcases Qe h with ⟨d, h⟩ | ⟨d, h⟩
  refine dM rfl (.n d rfl) rfl ?_
  refine dM rfl (.n d rfl) rfl ?_
  refine dI rfl (.n d rfl) rfl ?_
  obtain ⟨g, q, h⟩ := bind_some h
  refine dX x0 (cI .i64) rfl (.n d rfl) Zy i3 q rfl ?_
  refine dR rfl (.n d rfl) ul3 rfl ?_
  refine dM rfl (.n d rfl) rfl ?_
  refine dM rfl (.n d rfl) rfl ?_
  refine dX x0 (cI .i64) rfl (.n d rfl) Zy i3 m rfl ?_
  refine dR rfl (.n d rfl) ul3 rfl ?_
  refine dI rfl (.n d rfl) rfl ?_
  refine dY rfl (.n j rfl) d rfl ?_
  refine dZ rfl (.f rfl) j rfl ?_
  refine dF [0,0,3,7,15,31,63,63,255,511,63,2047,4095,8191,16383,32767,65535,131071,131071,393215,1048575,2097151,131071,131071,12713983,29491199,67108863,134217727,268435455] Q3 rfl (by kernel_rfl) (fun u hu => (tN (Qm hu ?_)))
  rcases Qe h with ⟨p, h⟩ | ⟨p, h⟩
  cases h
  refine Qp rfl p ?_
  refine T.skip (Ql (tN ?_))
  refine Qq ?_
  refine mw rfl ?_
  refine oI rfl ?_
  refine aw rfl ?_
  refine TL'.nil (tN ?_)
  refine Qh ?_ (ih x0 x1 (wI (a + (1:Int))) flx0 h)
  exact tq rfl rfl
  refine dO d rfl rfl ?_
  refine dO d rfl rfl ?_
  refine dO d rfl rfl ?_
  refine dO d rfl rfl ?_
  refine dO d rfl rfl ?_
  refine dO d rfl rfl ?_
  refine dO d rfl rfl ?_
  refine dO d rfl rfl ?_
  refine dO d rfl rfl ?_
  refine dO d rfl rfl ?_
  refine dZ rfl (.n j rfl) d rfl ?_
  refine dZ rfl (.f rfl) j rfl ?_
  refine dF [0,0,3,7,15,31,63,63,255,511,63,2047,4095,8191,16383,32767,65535,131071,131071,393215,1048575,2097151,131071,131071,12713983,29491199,67108863,134217727,268435455] Q3 rfl (by kernel_rfl) (fun u hu => (tN (Qm hu ?_)))
  refine Qp rfl rfl ?_
  refine T.skip (Ql (tN ?_))
  refine Qq ?_
  refine mw rfl ?_
  refine oI rfl ?_
  refine aw rfl ?_
  refine TL'.nil (tN ?_)
  refine Qh ?_ (ih x0 x1 (wI (a + (1:Int))) flx0 h)
  exact tq rfl rfl
  refine Qp rfl l ?_
  refine T.exit (Qk (Qk (Qt (tN ?_))))
  refine T.seq (Qq ?_)
  refine aw rfl ?_
  refine TL'.nil (tN ?_)
  refine T.ret ?_
  exact fd rfl (by cases h; exact ⟨rfl, rfl⟩)
theorem I9 (K : Nat) {x0 : List Int} {x1 : Int} {flx0 r : Bool} (h : K7 K x0 x1 = some r) : Zn tp 77 [.sl flx0 1 (mI x0), .int .i64 x1] [] (.bool r) := by
 refine Qu Tryz.func77 rfl (nb rfl) ?_
 show T tp 41 (ca [] Tryz.f77) ⟨Qv 0 [.sl flx0 1 (mI x0), .int .i64 x1], []⟩ (Bt r)
 unfold K7 at h
 refine T.seq (Qq ?_)
 refine aw rfl ?_
 refine TL'.nil (tN ?_)
 refine T.seq ?_
 refine T.seq (Qq ?_)
 refine aw rfl ?_
 refine TL'.nil (tN ?_)
 refine T.block ?_
 refine T.loop ?_
 refine Qh ?_ (Tl K K x0 x1 (0:Int) flx0 h)
 exact tq rfl rfl
abbrev Bu (r : Bool) : ES := Wb tp Tryz.f44 (fun y t => y = (.bool r) ∧ t = [])
abbrev Ry (r : Bool) : ES := thenS (fun s' => T tp 70 (ca [1,1,1] Tryz.f44) s' ((Bu r))) ((Bu r))
abbrev Ox (r : Bool) : ES := Qz 0 ((Ry r))
theorem Tm {r : Bool} (K : Nat) : ∀ (k : Nat), ∀ (j : Int) (x0 : Zr) (m : Nat), H4 K k j x0 = some r → TL tp 70 (ca [1,1,0,1,0,0] Tryz.f44) ⟨[(1, .ptr m 0), (3, .int .i64 j)], [.box m 43 [.d (.sl false 1 (mI x0.First)), .d (.sl false 9 (x0.P.map Q0))]]⟩ (Ox r) := by
 intro k
 induction k with
 | zero =>
  intro j x0 m h
  exact zn h
 | succ k ih =>
  intro j x0 m h
  rw [H4] at h
  refine Q6 ?_
  refine T.seq ?_
  refine T.seq (Qq ?_)
  refine mw rfl ?_
  refine oP Qfy i41 rfl ?_
  refine oL 0 Sg rfl ?_
  refine oU x0.P Q0 Sg rfl ?_
  refine oI rfl ?_
  refine TL'.nil (tN ?_)
  rcases Qe h with ⟨y, h⟩ | ⟨y, h⟩
  refine Qr rfl y ?_
  refine T.skip (tN ?_)
  refine T.seq ?_
  refine T.block ?_
  refine T.seq (Qq ?_)
  refine oP Qfy i41 rfl ?_
  refine oL 0 Sg rfl ?_
  refine mw rfl ?_
  obtain ⟨a, ab, h⟩ := bind_some h
  refine oX x0.P Q0 Sg i65 ab rfl ?_
  refine sp rfl (Zb rfl (dk rfl) ul65 rfl i65 rfl (nb rfl) ?_)
  refine sp rfl (Ze rfl (dk rfl) i65 rfl (fun ad => ?_))
  refine sp rfl (Qx (i := 0) (cells' := [.d (.int .u64 a.S.a0), .d (.int .u64 a.S.a1), .d (.int .u64 a.S.a2), .d (.int .u64 a.S.a3), .d (.int .i64 a.Lo), .d (.int .i64 a.Hi), .d (.int .i64 a.Rule), .d (.bool a.Last), .d (.sl false 1 (mI a.Next))]) rfl rfl i65 rfl rfl rfl rfl (nb rfl) rfl ?_)
  refine TL'.nil (tN (T.seq (Qq ?_)))
  refine oP ul65 i63 rfl ?_
  refine oA 0 (Z4.dc .u64 a.S) Qfx i63 rfl ?_
  refine sp rfl (OpT.build (l := (Z4.dc .u64 (Z4.mk 0 0 0 0))) rfl (dk rfl) (Qgd Qfx i63 i61) (Mi rfl) rfl rfl ?_)
  refine sp rfl (OpT.intsEql (k := .u64) (xs := [a.S.a0, a.S.a1, a.S.a2, a.S.a3]) (ys := [(Z4.mk 0 0 0 0).a0, (Z4.mk 0 0 0 0).a1, (Z4.mk 0 0 0 0).a2, (Z4.mk 0 0 0 0).a3]) rfl (dk rfl) Qfx ul61 i61 Tryz.eqGuardType63 rfl rfl rfl rfl rfl rfl (Qe9 a.S (Z4.mk 0 0 0 0)) ?_)
  refine mw rfl ?_
  rcases Qe h with ⟨p, h⟩ | ⟨p, h⟩
  cases h
  refine sn rfl p (Z0 rfl (dk rfl) ul65 rfl i3 (by decide) rfl ?_)
  refine sn rfl p (Zo (i := 0) rfl (dk rfl) ul3 rfl rfl rfl rfl ?_)
  refine sn rfl p (Zj rfl rfl (dk rfl) rfl rfl ?_)
  refine oZ p rfl ?_
  refine mw rfl ?_
  rcases Qe h with ⟨g, h⟩ | ⟨g, h⟩
  cases h
  refine sn rfl g (Z0 rfl (dk rfl) ul65 rfl i3 (by decide) rfl ?_)
  refine sn rfl g (Zo (i := 0) rfl (dk rfl) ul3 rfl rfl rfl rfl ?_)
  refine sn rfl g (Z0 rfl (dk rfl) ul65 rfl i3 (by decide) rfl ?_)
  refine sn rfl g (Zo (i := 0) rfl (dk rfl) ul3 rfl rfl rfl rfl ?_)
  refine sn rfl g (Zj rfl rfl (dk rfl) rfl rfl ?_)
  refine oZ g rfl ?_
  refine mw rfl ?_
  rcases Qe h with ⟨q, h⟩ | ⟨q, h⟩
  cases h
  refine sn rfl q (Z0 rfl (dk rfl) ul65 rfl i3 (by decide) rfl ?_)
  refine sn rfl q (Zo (i := 0) rfl (dk rfl) ul3 rfl rfl rfl rfl ?_)
  refine sn rfl q (Zj rfl rfl (dk rfl) rfl rfl ?_)
  refine oZ q rfl ?_
  refine mw rfl ?_
  rcases Qe h with ⟨u, h⟩ | ⟨u, h⟩
  cases h
  refine sn rfl u (Z0 rfl (dk rfl) ul65 rfl i3 (by decide) rfl ?_)
  refine sn rfl u (Zo (i := 0) rfl (dk rfl) ul3 rfl rfl rfl rfl ?_)
  refine sn rfl u (Zj rfl rfl (dk rfl) rfl rfl ?_)
  refine oZ u rfl ?_
  refine mw rfl ?_
  rcases Qe h with ⟨w, h⟩ | ⟨w, h⟩
  cases h
  refine sn rfl w (Z0 rfl (dk rfl) ul65 rfl i3 (by decide) rfl ?_)
  refine sn rfl w (Zo (i := 0) rfl (dk rfl) ul3 rfl rfl rfl rfl ?_)
  refine sn rfl w (Zj rfl rfl (dk rfl) rfl rfl ?_)
  refine oZ w rfl ?_
  refine mw rfl ?_
  rcases Qe h with ⟨b, h⟩ | ⟨b, h⟩
  cases h
  refine sn rfl b (Z0 rfl (dk rfl) ul65 rfl i38 (by decide) rfl ?_)
  refine sn rfl b (Zo (i := 0) rfl (dk rfl) Zy rfl rfl rfl rfl ?_)
  refine sn rfl b (Z0 rfl (dk rfl) Qfy rfl i41 (by decide) rfl ?_)
  refine sn rfl b (Zo (i := 1) rfl (dk rfl) Sg rfl rfl rfl rfl ?_)
  refine sn rfl b (Yg (xs := x0.P) (f := Q0) rfl (dk rfl) Sg rfl ?_)
  obtain ⟨af, ac, h⟩ := bind_some h
  refine sn rfl b (Q1 rfl (dk rfl) Tryz.func77 rfl rfl (Q7.cons rfl (Q7.cons rfl Q7.nil)) (Zn.nil (I9 K (flx0 := false) ac)) ?_)
  refine sn rfl b (OpT.not rfl (dk rfl) rfl ?_)
  refine oZ b rfl ?_
  refine TL'.nil (tN ?_)
  rcases Qe h with ⟨aa, h⟩ | ⟨aa, h⟩
  cases h
  refine Qp rfl aa ?_
  refine T.skip (Ql (tN ?_))
  refine Qq ?_
  refine mw rfl ?_
  refine oI rfl ?_
  refine aw rfl ?_
  refine TL'.nil (tN ?_)
  refine Qh ?_ (ih (wI (j + (1:Int))) x0 m h)
  exact tr rfl (.c (.s .z) (.n _))
  refine Qp rfl y ?_
  refine T.exit (Qk (Qk (Qt (tN ?_))))
  refine T.seq (Qq ?_)
  refine aw rfl ?_
  refine TL'.nil (tN ?_)
  refine T.ret ?_
  exact fd rfl (by cases h; exact ⟨rfl, rfl⟩)
theorem Qcj (K : Nat) {x0 : Zr} {r : Bool} (h : Dy K x0 = some r) : Zn tp 44 [.agg [.sl false 1 (mI x0.First), .sl false 9 (x0.P.map Q0)]] [] (.bool r) := by
 refine Qu Tryz.func44 rfl (nb rfl) ?_
 show T tp 70 (ca [] Tryz.f44) ⟨Qv 0 [.agg [.sl false 1 (mI x0.First), .sl false 9 (x0.P.map Q0)]], []⟩ (Bu r)
 unfold Dy at h
 refine T.seq (Qq ?_)
 refine sp rfl (Zi rfl (dk rfl) rfl (fun d => ?_))
 refine aw rfl ?_
 refine TL'.nil (tN ?_)
 refine T.seq ?_
 refine T.seq (Qq ?_)
 refine oP Qfy i41 rfl ?_
 refine oL 0 Sg rfl ?_
 refine oU x0.P Q0 Sg rfl ?_
 refine oI rfl ?_
 refine mw rfl ?_
 rcases Qe h with ⟨a, h⟩ | ⟨a, h⟩
 cases h
 refine sn rfl a (Z0 rfl (dk rfl) Qfy rfl i38 (by decide) rfl ?_)
 refine sn rfl a (Zo (i := 0) rfl (dk rfl) Zy rfl rfl rfl rfl ?_)
 refine sn rfl a (Z0 rfl (dk rfl) Qfy rfl i41 (by decide) rfl ?_)
 refine sn rfl a (Zo (i := 0) rfl (dk rfl) Sg rfl rfl rfl rfl ?_)
 refine sn rfl a (Yg (xs := x0.P) (f := Q0) rfl (dk rfl) Sg rfl ?_)
 obtain ⟨j, g, h⟩ := bind_some h
 refine sn rfl a (Q1 rfl (dk rfl) Tryz.func77 rfl rfl (Q7.cons rfl (Q7.cons rfl Q7.nil)) (Zn.nil (I9 K (flx0 := false) g)) ?_)
 refine sn rfl a (OpT.not rfl (dk rfl) rfl ?_)
 refine oZ a rfl ?_
 refine TL'.nil (tN ?_)
 rcases Qe h with ⟨b, h⟩ | ⟨b, h⟩
 cases h
 refine Qp rfl b ?_
 refine T.skip (tN ?_)
 refine T.seq ?_
 refine T.seq (Qq ?_)
 refine aw rfl ?_
 refine TL'.nil (tN ?_)
 refine T.block ?_
 refine T.loop ?_
 refine Qh ?_ (Tm K K (0:Int) x0 d h)
 exact tq rfl rfl
abbrev B1 (r : Bool) : ES := Wb tp Tryz.f78 (fun y t => y = (.bool r) ∧ t = [])
abbrev Tv (r : Bool) : ES := thenS (fun s' => T tp 27 (ca [1,1] Tryz.f78) s' ((B1 r))) ((B1 r))
abbrev P7 (r : Bool) : ES := Qz 0 ((Tv r))
theorem Tw {r : Bool} (K : Nat) : ∀ (k : Nat), ∀ (x0 : List Z4) (x1 x2 b : Int) (flx0 : Bool), Ga K k x0 x1 x2 b = some r → TL tp 27 (ca [1,0,1,0,0] Tryz.f78) ⟨[(0, .sl flx0 4 (x0.map (Z4.dc .u64))), (1, .int .u8 x1), (2, .int .u8 x2), (7, .int .i64 b)], []⟩ (P7 r) := by
 intro k
 induction k with
 | zero =>
  intro x0 x1 x2 b flx0 h
  exact zn h
 | succ k ih =>
  intro x0 x1 x2 b flx0 h
  rw [Ga] at h
  refine Q6 ?_
  refine T.seq ?_
  refine T.seq (Qq ?_)
  refine mw rfl ?_
  refine mw rfl ?_
  refine oU x0 (Z4.dc .u64) ul99 rfl ?_
  refine oI rfl ?_
  refine TL'.nil (tN ?_)
  rcases Qe h with ⟨i, h⟩ | ⟨i, h⟩
  refine Qr rfl i ?_
  refine T.skip (tN ?_)
  refine T.seq ?_
  refine T.block ?_
  refine T.seq ?_
  refine Yx ?_
  refine dV rfl rfl ?_
  refine dV rfl rfl ?_
  obtain ⟨a, l, h⟩ := bind_some h
  refine dX x0 (Z4.dc .u64) rfl (.f rfl) ul99 i63 l rfl ?_
  refine dS (c := ⟨some 17, .agg (Z4.dc .u64 a), [(16, .ref [.int .u64 a.a0, .int .u64 a.a1, .int .u64 a.a2, .int .u64 a.a3])], [], []⟩) (fun t hm => oF rfl rfl (Zb rfl (dk rfl) Qfx rfl i63 hm.s0 (nb rfl) rfl)) rfl rfl ?_
  refine dV rfl rfl ?_
  obtain ⟨d, m, h⟩ := bind_some h
  refine dS (c := ⟨some 19, .bool d, [(17, .agg (Z4.dc .u64 a)), (18, .int .u8 x1)], [], []⟩) (fun t hm => oF rfl rfl (Q1 rfl (dk rfl) Tryz.func81 rfl rfl (Q7.cons hm.s0 (Q7.cons hm.s1 Q7.nil)) (Zn.nil (G1 K m)) rfl)) rfl rfl ?_
  refine dV rfl rfl ?_
  refine dV rfl rfl ?_
  refine dX x0 (Z4.dc .u64) rfl (.f rfl) ul99 i63 l rfl ?_
  refine dS (c := ⟨some 23, .agg (Z4.dc .u64 a), [(22, .ref [.int .u64 a.a0, .int .u64 a.a1, .int .u64 a.a2, .int .u64 a.a3])], [], []⟩) (fun t hm => oF rfl rfl (Zb rfl (dk rfl) Qfx rfl i63 hm.s0 (nb rfl) rfl)) rfl rfl ?_
  refine dV rfl rfl ?_
  obtain ⟨g, p, h⟩ := bind_some h
  refine dS (c := ⟨some 25, .bool g, [(23, .agg (Z4.dc .u64 a)), (24, .int .u8 x2)], [], []⟩) (fun t hm => oF rfl rfl (Q1 rfl (dk rfl) Tryz.func81 rfl rfl (Q7.cons hm.s0 (Q7.cons hm.s1 Q7.nil)) (Zn.nil (G1 K p)) rfl)) rfl rfl ?_
  refine dS (c := ⟨some 26, .bool (!(d == g)), [(19, .bool d), (25, .bool g)], [], []⟩) (fun t hm => oF rfl rfl (Qe8 rfl (dk rfl) ul4 hm.s0 hm.s1 rfl)) rfl rfl ?_
  refine dF [0,0,3,7,0,31,0,0,192,448,0,2047,4095] Q3 rfl (by kernel_rfl) (fun u hu => (tN (Qm hu ?_)))
  rcases Qe h with ⟨j, h⟩ | ⟨j, h⟩
  refine Qr rfl j ?_
  refine T.seq (Qq ?_)
  refine aw rfl ?_
  refine TL'.nil (tN ?_)
  refine T.ret (Q5 (Qw (Qw (Q5 (Qw ?_)))))
  exact fd rfl (by cases h; exact ⟨rfl, rfl⟩)
  refine Qp rfl j ?_
  refine T.skip (Ql (tN ?_))
  refine Qq ?_
  refine mw rfl ?_
  refine oI rfl ?_
  refine aw rfl ?_
  refine TL'.nil (tN ?_)
  refine Qh ?_ (ih x0 x1 x2 (wI (b + (1:Int))) flx0 h)
  exact tq rfl rfl
  refine Qp rfl i ?_
  refine T.exit (Qk (Qk (Qt (tN ?_))))
  refine T.seq (Qq ?_)
  refine aw rfl ?_
  refine TL'.nil (tN ?_)
  refine T.ret ?_
  exact fd rfl (by cases h; exact ⟨rfl, rfl⟩)
theorem Qcu (K : Nat) {x0 : List Z4} {x1 x2 : Int} {flx0 r : Bool} (h : D4 K x0 x1 x2 = some r) : Zn tp 78 [.sl flx0 4 (x0.map (Z4.dc .u64)), .int .u8 x1, .int .u8 x2] [] (.bool r) := by
 refine Qu Tryz.func78 rfl (nb rfl) ?_
 show T tp 27 (ca [] Tryz.f78) ⟨Qv 0 [.sl flx0 4 (x0.map (Z4.dc .u64)), .int .u8 x1, .int .u8 x2], []⟩ (B1 r)
 unfold D4 at h
 refine T.seq (Qq ?_)
 refine aw rfl ?_
 refine TL'.nil (tN ?_)
 refine T.seq ?_
 refine T.seq (Qq ?_)
 refine aw rfl ?_
 refine TL'.nil (tN ?_)
 refine T.block ?_
 refine T.loop ?_
 refine Qh ?_ (Tw K K x0 x1 x2 (0:Int) flx0 h)
 exact tq rfl rfl
abbrev Fo (r : Q9) : ES := Wb tp Tryz.f45 (fun y t => y = (.agg ((Zg.dc 256 .u8 r.Of) ++ (([.int .i64 r.Many] : List DC)))) ∧ t = [])
abbrev Qau (r : Q9) : ES := thenS (fun s' => T tp 47 (ca [1,1,1,1] Tryz.f45) s' ((Fo r))) ((Fo r))
abbrev Jx (r : Q9) : ES := Qz 0 ((Qau r))
abbrev Cy (r : Q9) : ES := thenS (fun s' => TL tp 47 (ca [1,1,1,0,1,0,0] Tryz.f45) s' ((Jx r))) ((Jx r))
abbrev N6 (r : Q9) : ES := thenS (fun s' => T tp 47 (ca [1,1,1,0,1,0,0,1,1] Tryz.f45) s' ((Cy r))) ((Cy r))
abbrev U8 (r : Q9) : ES := Qz 1 ((N6 r))
abbrev Fm (r : Q9) : ES := thenS (fun s' => T tp 47 (ca [1,1,1,0,1,0,0,1,0,0,1,1] Tryz.f45) s' ((U8 r))) ((U8 r))
abbrev B3 (r : Q9) : ES := Qz 2 ((Fm r))
abbrev Nh (r : Q9) (go : (List Z4) → Int → Zg → Zg → (List Int) → Option Q9) : Prop := ∀ (x0 : List Z4) (a : Int) (b f : Zg) (g : List Int) (flx0 : Bool) (i j : Nat) (l : Value), go x0 a b f g = some r → TL tp 47 (ca [1,1,1,0,1,0,0] Tryz.f45) ⟨[(0, .sl flx0 4 (x0.map (Z4.dc .u64))), (2, .ptr i 0), (3, .ptr j 0), (4, .c (.ex l)), (5, .int .i64 a)], [(Qfn i b (0:Int)), (Qfn j f (0:Int)), .arrA l 5 1 (mU g)]⟩ (Jx r)
theorem Lk {r : Q9} (K : Nat) (go0 : (List Z4) → Int → Zg → Zg → (List Int) → Option Q9) (hgo0 : Nh r go0) (x0 : List Z4) (g j : Int) (l b : Zg) (m : List Int) (flx0 : Bool) (p q : Nat) (s : Value) (h : J4 K go0 x0 g j l b m = some r) : T tp 47 (ca [1,1,1,0,1,0,0,1,0,0,1,1,1] Tryz.f45) ⟨[(0, .sl flx0 4 (x0.map (Z4.dc .u64))), (2, .ptr p 0), (3, .ptr q 0), (4, .c (.ex s)), (5, .int .i64 g), (6, .int .i64 j)], [(Qfn p l (0:Int)), (Qfn q b (0:Int)), .arrA s 5 1 (mU m)]⟩ (U8 r) := by
 unfold J4 at h
 refine Qq ?_
 refine mw rfl ?_
 refine mw rfl ?_
 refine sp rfl (Vq rfl (dk rfl) ul3 ul5 rfl ?_)
 refine oP Qfs i22 rfl ?_
 obtain ⟨f, h⟩ := Zc h
 refine sp rfl (Y5 rfl (dk rfl) ul22 i5 rfl rfl f.1 f.2 ?_)
 refine sp rfl (Wl (i := 1) (cells' := ((Zg.oc 256 .u8 (Zg.set b g (IntKind.u8.wrap j))) ++ (([.d (.int .i64 (0:Int))]:List OC)))) rfl rfl i5 rfl rfl rfl (Zg.oc_lt (n := 256) (k := .u8) (a := b) (pre := []) (post := [.d (.int .i64 (0:Int))]) f.1 f.2) (Zg.oc_set (n := 256) (k := .u8) (a := b) (pre := []) (post := [.d (.int .i64 (0:Int))]) f.1 f.2) ?_)
 refine TL'.nil (Ql (tN ?_))
 refine Qq ?_
 refine mw rfl ?_
 refine oI rfl ?_
 refine aw rfl ?_
 refine TL'.nil (tN ?_)
 refine Qh ?_ (hgo0 x0 (wI (g + (1:Int))) l (Zg.set b g (IntKind.u8.wrap j)) m flx0 p q s h)
 exact tq rfl rfl
theorem Qcw {r : Q9} (K : Nat) (go0 : (List Z4) → Int → Zg → Zg → (List Int) → Option Q9) (hgo0 : Nh r go0) : ∀ (k : Nat), ∀ (x0 : List Z4) (b j : Int) (l m : Zg) (g : List Int) (flx0 : Bool) (p q : Nat) (s : Value), Mg K go0 k x0 b j l m g = some r → TL tp 47 (ca [1,1,1,0,1,0,0,1,0,0,1,0,0,0] Tryz.f45) ⟨[(0, .sl flx0 4 (x0.map (Z4.dc .u64))), (2, .ptr p 0), (3, .ptr q 0), (4, .c (.ex s)), (5, .int .i64 b), (6, .int .i64 j)], [(Qfn p l (0:Int)), (Qfn q m (0:Int)), .arrA s 5 1 (mU g)]⟩ (B3 r) := by
 intro k
 induction k with
 | zero =>
  intro x0 b j l m g flx0 p q s h
  exact zn h
 | succ k ih =>
  intro x0 b j l m g flx0 p q s h
  rw [Mg] at h
  refine Q6 ?_
  refine T.seq ?_
  refine T.seq (Qq ?_)
  refine mw rfl ?_
  refine mw rfl ?_
  refine sp rfl (Lx (i := 2) (xs := g) (f := (cI .u8)) rfl (dk rfl) Dp rfl rfl ?_)
  refine oI rfl ?_
  refine mw rfl ?_
  rcases Qe h with ⟨a, h⟩ | ⟨a, h⟩
  refine sn rfl a (OpT.move rfl (dk rfl) rfl ?_)
  refine sn rfl a (OpT.move rfl (dk rfl) rfl ?_)
  refine sn rfl a (OpT.move rfl (dk rfl) rfl ?_)
  refine Hj (Z5.view 18 2 rfl rfl) ?_
  obtain ⟨aa, ab, h⟩ := bind_some h
  refine sn rfl a (Yq (xs := g) (f := (cI .u8)) (v := aa) rfl (dk rfl) Dp i5 rfl rfl ab ?_)
  refine sn rfl a (Xi rfl (dk rfl) ul5 rfl rfl rfl ?_)
  refine sn rfl a (OpT.move rfl (dk rfl) rfl ?_)
  refine sn rfl a (Vq rfl (dk rfl) ul3 ul5 rfl ?_)
  obtain ⟨aj, ac, h⟩ := bind_some h
  refine sn rfl a (Q1 rfl (dk rfl) Tryz.func78 rfl rfl (Q7.cons rfl (Q7.cons rfl (Q7.cons rfl Q7.nil))) (Zn.nil (Qcu K (flx0 := flx0) ac)) ?_)
  refine sn rfl a (OpT.not rfl (dk rfl) rfl ?_)
  refine oY a rfl ?_
  refine TL'.nil (tN ?_)
  rcases Qe h with ⟨u, h⟩ | ⟨u, h⟩
  refine Qr rfl u ?_
  refine T.skip (tN ?_)
  refine T.block ?_
  refine Qq ?_
  refine mw rfl ?_
  refine oI rfl ?_
  refine aw rfl ?_
  refine TL'.nil (Ql (tN ?_))
  refine Qh ?_ (ih x0 b (wI (j + (1:Int))) l m g flx0 p q s h)
  exact tq rfl rfl
  refine Qp rfl u ?_
  refine T.exit (Qk (Qk (Qt (tN ?_))))
  refine T.seq ?_
  refine T.seq (Qq ?_)
  refine mw rfl ?_
  refine mw rfl ?_
  refine sp rfl (Lx (i := 2) (xs := g) (f := (cI .u8)) rfl (dk rfl) Dp rfl rfl ?_)
  refine oI rfl ?_
  refine TL'.nil (tN ?_)
  rcases Qe h with ⟨w, h⟩ | ⟨w, h⟩
  refine Qr rfl w ?_
  refine Qq ?_
  refine mw rfl ?_
  refine mw rfl ?_
  refine sp rfl (Vq rfl (dk rfl) ul3 ul5 rfl ?_)
  refine sp rfl (OpT.buildSlice (elems := ([(IntKind.u8.wrap b)] : List Int).map (cI .u8)) rfl (dk rfl) Dp i5 (by decide) rfl (Mi rfl) rfl rfl rfl (V4 rfl) (by decide) ?_)
  obtain ⟨ad, h⟩ := Zc h
  refine sp rfl (Zv (i := 2) (xs := g) (ys := [(IntKind.u8.wrap b)]) (f := (cI .u8)) rfl (dk rfl) Dp i5 rfl rfl rfl rfl ad (fun af => ?_))
  refine aw rfl ?_
  refine TL'.nil (tN ?_)
  refine Qm ?_ (Lk K go0 hgo0 x0 b j l m (g ++ [(IntKind.u8.wrap b)]) flx0 p q af h)
  exact tq rfl rfl
  refine Qp rfl w ?_
  refine T.skip (tN ?_)
  refine Qm ?_ (Lk K go0 hgo0 x0 b j l m g flx0 p q s h)
  exact tq rfl rfl
  refine pf rfl a ?_
  refine pf rfl a ?_
  refine pf rfl a ?_
  refine pf rfl a ?_
  refine pf rfl a ?_
  refine pf rfl a ?_
  refine pf rfl a ?_
  refine pf rfl a ?_
  refine pf rfl a ?_
  refine oZ a rfl ?_
  refine TL'.nil (tN ?_)
  refine Qp rfl rfl ?_
  refine T.exit (Qk (Qk (Qt (tN ?_))))
  refine T.seq ?_
  refine T.seq (Qq ?_)
  refine mw rfl ?_
  refine mw rfl ?_
  refine sp rfl (Lx (i := 2) (xs := g) (f := (cI .u8)) rfl (dk rfl) Dp rfl rfl ?_)
  refine oI rfl ?_
  refine TL'.nil (tN ?_)
  rcases Qe h with ⟨y, h⟩ | ⟨y, h⟩
  refine Qr rfl y ?_
  refine Qq ?_
  refine mw rfl ?_
  refine mw rfl ?_
  refine sp rfl (Vq rfl (dk rfl) ul3 ul5 rfl ?_)
  refine sp rfl (OpT.buildSlice (elems := ([(IntKind.u8.wrap b)] : List Int).map (cI .u8)) rfl (dk rfl) Dp i5 (by decide) rfl (Mi rfl) rfl rfl rfl (V4 rfl) (by decide) ?_)
  obtain ⟨ag, h⟩ := Zc h
  refine sp rfl (Zv (i := 2) (xs := g) (ys := [(IntKind.u8.wrap b)]) (f := (cI .u8)) rfl (dk rfl) Dp i5 rfl rfl rfl rfl ag (fun ai => ?_))
  refine aw rfl ?_
  refine TL'.nil (tN ?_)
  refine Qm ?_ (Lk K go0 hgo0 x0 b j l m (g ++ [(IntKind.u8.wrap b)]) flx0 p q ai h)
  exact tq rfl rfl
  refine Qp rfl y ?_
  refine T.skip (tN ?_)
  refine Qm ?_ (Lk K go0 hgo0 x0 b j l m g flx0 p q s h)
  exact tq rfl rfl
theorem Qcx {r : Q9} (K : Nat) : ∀ (k : Nat), ∀ (x0 : List Z4) (g : Int) (j b : Zg) (a : List Int) (flx0 : Bool) (m p : Nat) (q : Value), G0 K k x0 g j b a = some r → TL tp 47 (ca [1,1,1,0,1,0,0] Tryz.f45) ⟨[(0, .sl flx0 4 (x0.map (Z4.dc .u64))), (2, .ptr m 0), (3, .ptr p 0), (4, .c (.ex q)), (5, .int .i64 g)], [(Qfn m j (0:Int)), (Qfn p b (0:Int)), .arrA q 5 1 (mU a)]⟩ (Jx r) := by
 intro k
 induction k with
 | zero =>
  intro x0 g j b a flx0 m p q h
  exact zn h
 | succ k ih =>
  intro x0 g j b a flx0 m p q h
  rw [G0] at h
  refine Q6 ?_
  refine T.seq ?_
  refine T.seq (Qq ?_)
  refine mw rfl ?_
  refine oI rfl ?_
  refine TL'.nil (tN ?_)
  rcases Qe h with ⟨s, h⟩ | ⟨s, h⟩
  refine Qr rfl s ?_
  refine T.skip (tN ?_)
  refine T.seq ?_
  refine T.block ?_
  refine T.seq (Qq ?_)
  refine aw rfl ?_
  refine TL'.nil (tN ?_)
  refine T.seq ?_
  refine T.block ?_
  refine T.loop ?_
  refine Qh ?_ (Qcw K (G0 K k) ih K x0 g (0:Int) j b a flx0 m p q h)
  exact tq rfl rfl
  refine Qp rfl s ?_
  refine T.exit (Qk (Qk (Qt (tN ?_))))
  refine T.seq (Qq ?_)
  refine mw rfl ?_
  refine sp rfl (Lx (i := 2) (xs := a) (f := (cI .u8)) rfl (dk rfl) Dp rfl rfl ?_)
  refine oP Qfs i3 rfl ?_
  refine sp rfl (Wl (i := 1) (cells' := ((Zg.oc 256 .u8 b) ++ (([.d (.int .i64 (a.length : Int))]:List OC)))) rfl rfl i3 rfl rfl rfl (nb rfl) rfl ?_)
  refine TL'.nil (tN (T.seq (Qq ?_)))
  refine oA 1 ((Zg.dc 256 .u8 b) ++ (([.int .i64 (a.length : Int)] : List DC))) Qfs i24 rfl ?_
  refine sp rfl (Qx (i := 0) (cells' := ((Zg.oc 256 .u8 b) ++ (([.d (.int .i64 (a.length : Int))]:List OC)))) rfl rfl i24 rfl rfl rfl rfl (nb rfl) rfl ?_)
  refine TL'.nil (tN ?_)
  refine T.ret ?_
  exact Fin.done (.cons _ _ _ _ (.cellAgg 2 24 _ 0 0 24 _ ((Zg.dc 256 .u8 b) ++ (([.int .i64 (a.length : Int)] : List DC))) _ _ 257 _ rfl rfl rfl rfl Qfs rfl i24) .nil) (by cases h; exact ⟨rfl, rfl⟩)
theorem Qfk (K : Nat) {x0 : List Z4} {flx0 : Bool} {r : Q9} (h : Pa K x0 = some r) : Zn tp 45 [.sl flx0 4 (x0.map (Z4.dc .u64))] [] (.agg ((Zg.dc 256 .u8 r.Of) ++ (([.int .i64 r.Many] : List DC)))) := by
 refine Qu Tryz.func45 rfl (nb rfl) ?_
 show T tp 47 (ca [] Tryz.f45) ⟨Qv 0 [.sl flx0 4 (x0.map (Z4.dc .u64))], []⟩ (Fo r)
 unfold Pa at h
 refine T.seq (Qq ?_)
 refine sp rfl (Ze rfl (dk rfl) i24 rfl (fun a => ?_))
 refine TL'.nil (tN (T.seq (Qq ?_)))
 refine sp rfl (OpT.build (l := ((Zg.dc 256 .u8 (Zg.mk fun _ => 0)) ++ (([.int .i64 (0:Int)] : List DC)))) rfl (dk rfl) (Zu (pl := [(0, 256), (256, 1)]) Qfs i24 rfl) (Mi rfl) rfl rfl ?_)
 refine sp rfl (Ze rfl (dk rfl) i24 rfl (fun b => ?_))
 refine sp rfl (Qx (i := 0) (cells' := ((Zg.oc 256 .u8 (Zg.mk fun _ => 0)) ++ (([.d (.int .i64 (0:Int))]:List OC)))) rfl rfl i24 rfl rfl rfl rfl (nb rfl) rfl ?_)
 refine TL'.nil (tN (T.seq (Qq ?_)))
 refine aw rfl ?_
 refine TL'.nil (tN ?_)
 refine T.seq ?_
 refine T.seq (Qq ?_)
 refine aw rfl ?_
 refine TL'.nil (tN ?_)
 refine T.block ?_
 refine T.loop ?_
 refine Qh (Xu 5 1) ?_
 refine Qh ?_ (Qcx K K x0 (0:Int) (Zg.mk fun _ => 0) (Zg.mk fun _ => 0) [] flx0 a b (Qeb 2) h)
 exact tr rfl (.c (.s (.s .z)) (.c (.s .z) (.c .z (.n _))))
abbrev Wd (bx0 : Nat) (x0 : Qi) (r : Int) : ES := Wb tp Tryz.f113 (fun y t => ∃ γ : Nat → Value, y = (.int .i64 r) ∧ t = [(Xl bx0 x0.g.First x0.g.P (γ 0) x0.a.Split.Of x0.a.Split.Many (γ 1) (γ 2) x0.e), .arrA (γ 0) 3 1 (mI x0.number), .arrA (γ 1) 59 2 (mA x0.a.Counts), .arrX (γ 2) 51 4 0 (x0.a.States.map Qc)])
abbrev Ej (bx0 : Nat) (x0 : Qi) (r : Int) : ES := thenS (fun s' => T tp 34 (ca [1,1] Tryz.f113) s' ((Wd bx0 x0 r))) ((Wd bx0 x0 r))
abbrev De (bx0 : Nat) (x0 : Qi) (r : Int) : ES := Qz 0 ((Ej bx0 x0 r))
theorem Ek {r : Int} (K bx0 : Nat) (x0 : Qi) : ∀ (k : Nat), ∀ (x2 x3 : Int) (x0 : Qi) (x1 : Qa) (b c w0_0aa : Value) (j : Nat), Jw K k x2 x3 x0 x1 = some r → TL tp 34 (ca [1,0,1,0,0] Tryz.f113) ⟨[(0, .ptr bx0 0), (2, .int .i64 x2), (3, .int .i64 x3), (5, .ptr j 0), (9, .int .i64 (0:Int))], [(Xl bx0 x0.g.First x0.g.P b x0.a.Split.Of x0.a.Split.Many c w0_0aa x0.e), .arrA b 3 1 (mI x0.number), .arrA c 59 2 (mA x0.a.Counts), .arrX w0_0aa 51 4 0 (x0.a.States.map Qc), (Jz j x1.L x1.R x1.Rule x1.Next)]⟩ (De bx0 x0 r) := by
 intro k
 induction k with
 | zero =>
  intro x2 x3 x0 x1 b c w0_0aa j h
  exact zn h
 | succ k ih =>
  intro x2 x3 x0 x1 b c w0_0aa j h
  rw [Jw] at h
  refine Q6 ?_
  refine T.seq ?_
  refine T.seq (Qq ?_)
  refine mw rfl ?_
  refine oP H1 i38 rfl ?_
  refine oL 4 Zy rfl ?_
  refine oU x1.R (cI .i64) Zy rfl ?_
  refine oI rfl ?_
  refine TL'.nil (tN ?_)
  rcases Qe h with ⟨l, h⟩ | ⟨l, h⟩
  cases h
  refine Qp rfl l ?_
  refine T.exit (Qk (Qk (Qt (tN ?_))))
  refine T.seq (Qq ?_)
  refine aw rfl ?_
  refine TL'.nil (tN ?_)
  refine T.ret ?_
  exact Q4 (.cons _ _ _ _ (.tmp 8 _ rfl) .nil) (.cons 0 rfl (.cons 0 rfl (.cons 0 rfl (.cons 0 rfl (.nil _))))) (by cases h; exact ⟨gl [b, c, w0_0aa], rfl, rfl⟩)
theorem Kr (K : Nat) {x0 : Qi} {x1 : Qa} {x2 x3 : Int} {bx0 : Nat} {wx0c1 wx0c2c1 wx0c2c2 : Value} {r : Int} (h : U0 K x0 x1 x2 x3 = some r) : Us tp 113 [.ptr bx0 0, .agg [.sl false 1 (mI x1.L), .sl false 1 (mI x1.R), .sl false 1 (mI x1.Rule), .sl false 1 (x1.Next.map (cL 2 Qg))], .int .i64 x2, .int .i64 x3] [(Xl bx0 x0.g.First x0.g.P wx0c1 x0.a.Split.Of x0.a.Split.Many wx0c2c1 wx0c2c2 x0.e), .arrA wx0c1 3 1 (mI x0.number), .arrA wx0c2c1 59 2 (mA x0.a.Counts), .arrX wx0c2c2 51 4 0 (x0.a.States.map Qc)] (fun γ => (.int .i64 r)) (fun γ => [(Xl bx0 x0.g.First x0.g.P (γ 0) x0.a.Split.Of x0.a.Split.Many (γ 1) (γ 2) x0.e), .arrA (γ 0) 3 1 (mI x0.number), .arrA (γ 1) 59 2 (mA x0.a.Counts), .arrX (γ 2) 51 4 0 (x0.a.States.map Qc)]) := by
 refine Qu Tryz.func113 rfl (nb rfl) ?_
 show T tp 34 (ca [] Tryz.f113) ⟨Qv 0 [.ptr bx0 0, .agg [.sl false 1 (mI x1.L), .sl false 1 (mI x1.R), .sl false 1 (mI x1.Rule), .sl false 1 (x1.Next.map (cL 2 Qg))], .int .i64 x2, .int .i64 x3], [(Xl bx0 x0.g.First x0.g.P wx0c1 x0.a.Split.Of x0.a.Split.Many wx0c2c1 wx0c2c2 x0.e), .arrA wx0c1 3 1 (mI x0.number), .arrA wx0c2c1 59 2 (mA x0.a.Counts), .arrX wx0c2c2 51 4 0 (x0.a.States.map Qc)]⟩ (Wd bx0 x0 r)
 unfold U0 at h
 refine T.seq (Qq ?_)
 refine sp rfl (Zi rfl (dk rfl) rfl (fun b => ?_))
 refine aw rfl ?_
 refine TL'.nil (tN ?_)
 refine T.seq ?_
 refine T.seq (Qq ?_)
 refine aw rfl ?_
 refine TL'.nil (tN ?_)
 refine T.block ?_
 refine T.loop ?_
 refine Qh ?_ (Ek K bx0 x0 K x2 x3 x0 x1 wx0c1 wx0c2c1 wx0c2c2 b h)
 exact tr rfl (.c (.s .z) (.c (.s .z) (.c (.s .z) (.c (.s .z) (.c .z (.n _))))))
abbrev Nx (bx0 : Nat) (x0 : Qi) (r : Bool) : ES := Wb tp Tryz.f79 (fun y t => ∃ γ : Nat → Value, y = (.bool r) ∧ t = [(Xl bx0 x0.g.First x0.g.P (γ 0) x0.a.Split.Of x0.a.Split.Many (γ 1) (γ 2) x0.e), .arrA (γ 0) 3 1 (mI x0.number), .arrA (γ 1) 59 2 (mA x0.a.Counts), .arrX (γ 2) 51 4 0 (x0.a.States.map Qc)])
theorem Mn (K : Nat) {x0 : Qi} {x1 : Qa} {x2 x3 : Int} {bx0 : Nat} {wx0c1 wx0c2c1 wx0c2c2 : Value} {r : Bool} (h : Jg K x0 x1 x2 x3 = some r) : Us tp 79 [.ptr bx0 0, .agg [.sl false 1 (mI x1.L), .sl false 1 (mI x1.R), .sl false 1 (mI x1.Rule), .sl false 1 (x1.Next.map (cL 2 Qg))], .int .i64 x2, .int .i64 x3] [(Xl bx0 x0.g.First x0.g.P wx0c1 x0.a.Split.Of x0.a.Split.Many wx0c2c1 wx0c2c2 x0.e), .arrA wx0c1 3 1 (mI x0.number), .arrA wx0c2c1 59 2 (mA x0.a.Counts), .arrX wx0c2c2 51 4 0 (x0.a.States.map Qc)] (fun γ => (.bool r)) (fun γ => [(Xl bx0 x0.g.First x0.g.P (γ 0) x0.a.Split.Of x0.a.Split.Many (γ 1) (γ 2) x0.e), .arrA (γ 0) 3 1 (mI x0.number), .arrA (γ 1) 59 2 (mA x0.a.Counts), .arrX (γ 2) 51 4 0 (x0.a.States.map Qc)]) := by
 refine Qu Tryz.func79 rfl (nb rfl) ?_
 show T tp 15 (ca [] Tryz.f79) ⟨Qv 0 [.ptr bx0 0, .agg [.sl false 1 (mI x1.L), .sl false 1 (mI x1.R), .sl false 1 (mI x1.Rule), .sl false 1 (x1.Next.map (cL 2 Qg))], .int .i64 x2, .int .i64 x3], [(Xl bx0 x0.g.First x0.g.P wx0c1 x0.a.Split.Of x0.a.Split.Many wx0c2c1 wx0c2c2 x0.e), .arrA wx0c1 3 1 (mI x0.number), .arrA wx0c2c1 59 2 (mA x0.a.Counts), .arrX wx0c2c2 51 4 0 (x0.a.States.map Qc)]⟩ (Nx bx0 x0 r)
 unfold Jg at h
 refine T.seq (Qq ?_)
 refine sp rfl (Zi rfl (dk rfl) rfl (fun j => ?_))
 refine aw rfl ?_
 refine TL'.nil (tN (T.seq (Qq ?_)))
 refine mw rfl ?_
 refine oA 0 [.sl false 1 (mI x1.L), .sl false 1 (mI x1.R), .sl false 1 (mI x1.Rule), .sl false 1 (x1.Next.map (cL 2 Qg))] H1 i51 rfl ?_
 refine mw rfl ?_
 refine mw rfl ?_
 obtain ⟨m, f, h⟩ := bind_some h
 refine sp rfl (Q8 (is := [1, 2, 3, 4]) (ph := []) rfl (dk rfl) Tryz.func113 rfl rfl (Q7.cons rfl (Q7.cons rfl (Q7.cons rfl (Q7.cons rfl Q7.nil)))) (Kr K (bx0 := bx0) (wx0c1 := wx0c1) (wx0c2c1 := wx0c2c1) (wx0c2c2 := wx0c2c2) f) (.cons rfl rfl (.cons rfl rfl (.cons rfl rfl (.cons rfl rfl (.nil))))) (fun _ => rfl) (fun b => ?_))
 refine nm (.c (.c (.c (.c (.c (.n)))))) ?_
 refine oI rfl ?_
 refine aw rfl ?_
 refine TL'.nil (tN ?_)
 refine T.ret ?_
 exact Q4 (.cons _ _ _ _ (.tmp 8 _ rfl) .nil) (.cons 1 rfl (.cons 1 rfl (.cons 1 rfl (.cons 1 rfl (.nil _))))) (by cases h; exact ⟨gl [b 0, b 1, b 2], rfl, rfl⟩)
abbrev Wx (bx0 : Nat) (x0 : Qi) (r : Int) : ES := Wb tp Tryz.f47 (fun y t => ∃ γ : Nat → Value, y = (.int .i64 r) ∧ t = [(Xl bx0 x0.g.First x0.g.P (γ 0) x0.a.Split.Of x0.a.Split.Many (γ 1) (γ 2) x0.e), .arrA (γ 0) 3 1 (mI x0.number), .arrA (γ 1) 59 2 (mA x0.a.Counts), .arrX (γ 2) 51 4 0 (x0.a.States.map Qc)])
abbrev Ei (bx0 : Nat) (x0 : Qi) (r : Int) : ES := thenS (fun s' => T tp 55 (ca [1,1,1] Tryz.f47) s' ((Wx bx0 x0 r))) ((Wx bx0 x0 r))
abbrev Dc (bx0 : Nat) (x0 : Qi) (r : Int) : ES := Qz 0 ((Ei bx0 x0 r))
theorem E5 {r : Int} (K bx0 : Nat) (x0 : Qi) : ∀ (k : Nat), ∀ (x2 y aa : Int) (x0 : Qi) (x1 : Qa) (ab ac w0_0aa : Value) (q : Nat), Xr K k x2 y aa x0 x1 = some r → TL tp 55 (ca [1,1,0,1,0,0] Tryz.f47) ⟨[(0, .ptr bx0 0), (2, .int .i64 x2), (4, .ptr q 0), (7, .int .i64 y), (8, .int .i64 aa)], [(Xl bx0 x0.g.First x0.g.P ab x0.a.Split.Of x0.a.Split.Many ac w0_0aa x0.e), .arrA ab 3 1 (mI x0.number), .arrA ac 59 2 (mA x0.a.Counts), .arrX w0_0aa 51 4 0 (x0.a.States.map Qc), (Jz q x1.L x1.R x1.Rule x1.Next)]⟩ (Dc bx0 x0 r) := by
 intro k
 induction k with
 | zero =>
  intro x2 y aa x0 x1 ab ac w0_0aa q h
  exact zn h
 | succ k ih =>
  intro x2 y aa x0 x1 ab ac w0_0aa q h
  rw [Xr] at h
  refine Q6 ?_
  refine T.seq ?_
  refine T.seq (Qq ?_)
  refine mw rfl ?_
  refine oP H1 i38 rfl ?_
  refine oL 4 Zy rfl ?_
  refine oU x1.L (cI .i64) Zy rfl ?_
  refine oI rfl ?_
  refine TL'.nil (tN ?_)
  rcases Qe h with ⟨aj, h⟩ | ⟨aj, h⟩
  refine Qr rfl aj ?_
  refine T.skip (tN ?_)
  refine T.seq ?_
  refine T.block ?_
  refine T.seq ?_
  refine Qm Y2 ?_
  refine Hl ?_
  refine dC (c := ⟨some 17, .ptr bx0 0, [(0, .ptr bx0 0)], [], []⟩) (fun t hm => oF rfl rfl (OpT.move rfl (dk rfl) hm.s0 ⟨u0, rfl⟩)) (fun _ => rfl) (fun _ => rfl) ?_
  refine dC (c := ⟨some 18, .ptr bx0 0, [(17, .ptr bx0 0)], [], []⟩) (fun t hm => oF rfl rfl (OpT.nilCheck rfl (dk rfl) hm.s0 rfl ⟨u0, rfl⟩)) (fun _ => rfl) (fun _ => rfl) ?_
  refine dC (c := ⟨some 19, .ptr bx0 (0 + 0), [(18, .ptr bx0 0)], [], []⟩) (fun t hm => oF rfl rfl (Z0 rfl (dk rfl) Qea rfl i43 (by decide) hm.s0 ⟨u0, rfl⟩)) (fun _ => rfl) (fun _ => rfl) ?_
  refine dC (c := ⟨some 20, .ptr bx0 (0 + 0 + 1), [(19, .ptr bx0 (0 + 0))], [], []⟩) (fun t hm => oF rfl rfl (Z0 rfl (dk rfl) Qfy rfl i41 (by decide) hm.s0 ⟨u0, rfl⟩)) (fun _ => rfl) (fun _ => rfl) ?_
  refine dC (c := ⟨some 21, .sl false 9 (x0.g.P.map Q0), [(20, .ptr bx0 (0 + 0 + 1))], [(1, (Xl bx0 x0.g.First x0.g.P ab x0.a.Split.Of x0.a.Split.Many ac w0_0aa x0.e))], []⟩) (fun t hm => oF rfl rfl (Zo (i := 1) rfl (dk rfl) Sg rfl hm.s0 hm.o0 rfl ⟨u0, rfl⟩)) (fun _ => rfl) (fun _ => rfl) ?_
  refine dC (c := ⟨some 22, .ptr q (0 + 0), [(4, .ptr q 0)], [], []⟩) (fun t hm => oF rfl rfl (Z0 rfl (dk rfl) H1 rfl i38 (by decide) hm.s0 ⟨u0, rfl⟩)) (fun _ => rfl) (fun _ => rfl) ?_
  refine dC (c := ⟨some 23, .sl false 1 (mI x1.L), [(22, .ptr q (0 + 0))], [(5, (Jz q x1.L x1.R x1.Rule x1.Next))], []⟩) (fun t hm => oF rfl rfl (Zo (i := 5) rfl (dk rfl) Zy rfl hm.s0 hm.o0 rfl ⟨u0, rfl⟩)) (fun _ => rfl) (fun _ => rfl) ?_
  refine dC (c := ⟨some 24, .int .i64 aa, [(8, .int .i64 aa)], [], []⟩) (fun t hm => oF rfl rfl (OpT.move rfl (dk rfl) hm.s0 ⟨u0, rfl⟩)) (fun _ => rfl) (fun _ => rfl) ?_
  obtain ⟨ad, al, h⟩ := bind_some h
  refine dC (c := ⟨some 25, .ref [.int .i64 ad], [(23, .sl false 1 (mI x1.L)), (24, .int .i64 aa)], [], []⟩) (fun t hm => oF rfl rfl (Yq (xs := x1.L) (f := (cI .i64)) (v := ad) rfl (dk rfl) Zy i3 hm.s0 hm.s1 al ⟨u0, rfl⟩)) (fun _ => rfl) (fun _ => rfl) ?_
  refine dC (c := ⟨some 26, .int .i64 ad, [(25, .ref [.int .i64 ad])], [], []⟩) (fun t hm => oF rfl rfl (Xi rfl (dk rfl) ul3 rfl hm.s0 rfl ⟨u0, rfl⟩)) (fun _ => rfl) (fun _ => rfl) ?_
  obtain ⟨j, am, h⟩ := bind_some h
  refine dC (c := ⟨some 27, .ref [.int .u64 j.S.a0, .int .u64 j.S.a1, .int .u64 j.S.a2, .int .u64 j.S.a3, .int .i64 j.Lo, .int .i64 j.Hi, .int .i64 j.Rule, .bool j.Last, .sl false 1 (mI j.Next)], [(21, .sl false 9 (x0.g.P.map Q0)), (26, .int .i64 ad)], [], []⟩) (fun t hm => oF rfl rfl (Yq (xs := x0.g.P) (f := Q0) (v := j) rfl (dk rfl) Sg i65 hm.s0 hm.s1 am ⟨u0, rfl⟩)) (fun _ => rfl) (fun _ => rfl) ?_
  refine dC (c := ⟨some 28, .agg [.int .u64 j.S.a0, .int .u64 j.S.a1, .int .u64 j.S.a2, .int .u64 j.S.a3, .int .i64 j.Lo, .int .i64 j.Hi, .int .i64 j.Rule, .bool j.Last, .sl false 1 (mI j.Next)], [(27, .ref [.int .u64 j.S.a0, .int .u64 j.S.a1, .int .u64 j.S.a2, .int .u64 j.S.a3, .int .i64 j.Lo, .int .i64 j.Hi, .int .i64 j.Rule, .bool j.Last, .sl false 1 (mI j.Next)])], [], []⟩) (fun t hm => oF rfl rfl (Zb rfl (dk rfl) ul65 rfl i65 hm.s0 (nb rfl) ⟨u0, rfl⟩)) (fun _ => rfl) (fun _ => rfl) ?_
  refine DGG.step (c := fun p => ⟨some 9, .ptr ((p 12).2) 0, [], [(0, .ro 0 [])], [(0, .box ((p 12).2) 65 [.d (.int .u64 (Z4.mk 0 0 0 0).a0), .d (.int .u64 (Z4.mk 0 0 0 0).a1), .d (.int .u64 (Z4.mk 0 0 0 0).a2), .d (.int .u64 (Z4.mk 0 0 0 0).a3), .d (.int .i64 (0:Int)), .d (.int .i64 (0:Int)), .d (.int .i64 (0:Int)), .d (.bool false), .d (.ex (.slice none 0 0))])]⟩) [12] (fun p γ' h => by simp only [h 12 (by decide)]) (fun p t hm => oF rfl rfl (Qgq 0 rfl (dk rfl) i65 rfl hm.o0 (fun b => ⟨(fun _ => undef, b), rfl⟩))) (fun p => Z2 rfl rfl) ?_
  refine DGG.step (c := fun p => ⟨none, .any, [(9, .ptr ((p 12).2) 0), (28, .agg [.int .u64 j.S.a0, .int .u64 j.S.a1, .int .u64 j.S.a2, .int .u64 j.S.a3, .int .i64 j.Lo, .int .i64 j.Hi, .int .i64 j.Rule, .bool j.Last, .sl false 1 (mI j.Next)])], [(0, .box ((p 12).2) 65 [.d (.int .u64 (Z4.mk 0 0 0 0).a0), .d (.int .u64 (Z4.mk 0 0 0 0).a1), .d (.int .u64 (Z4.mk 0 0 0 0).a2), .d (.int .u64 (Z4.mk 0 0 0 0).a3), .d (.int .i64 (0:Int)), .d (.int .i64 (0:Int)), .d (.int .i64 (0:Int)), .d (.bool false), .d (.ex (.slice none 0 0))])], [(0, .box ((p 12).2) 65 [.d (.int .u64 j.S.a0), .d (.int .u64 j.S.a1), .d (.int .u64 j.S.a2), .d (.int .u64 j.S.a3), .d (.int .i64 j.Lo), .d (.int .i64 j.Hi), .d (.int .i64 j.Rule), .d (.bool j.Last), .d (.sl false 1 (mI j.Next))])]⟩) [12] (fun p γ' h => by simp only [h 12 (by decide)]) (fun p t hm => oF rfl rfl (Qx (i := 0) (cells' := [.d (.int .u64 j.S.a0), .d (.int .u64 j.S.a1), .d (.int .u64 j.S.a2), .d (.int .u64 j.S.a3), .d (.int .i64 j.Lo), .d (.int .i64 j.Hi), .d (.int .i64 j.Rule), .d (.bool j.Last), .d (.sl false 1 (mI j.Next))]) rfl rfl i65 hm.s0 hm.s1 rfl hm.o0 (nb rfl) rfl ⟨u0, rfl⟩)) (fun p => Z2 rfl rfl) ?_
  refine gF [0,1,3,7,15,0,32,0,224,480,1023,2047,0,8191] Q3 rfl (by kernel_rfl) (fun _ => by kernel_rfl) (fun p u hu => (tN (Qm hu ?_)))
  refine T.seq ?_
  refine Hl ?_
  refine dC (c := ⟨some 29, .ptr ((p 12).2) (0 + 7), [(9, .ptr ((p 12).2) 0)], [], []⟩) (fun t hm => oF rfl rfl (Z0 rfl (dk rfl) ul65 rfl i4 (by decide) hm.s0 ⟨u0, rfl⟩)) (fun _ => rfl) (fun _ => rfl) ?_
  refine dC (c := ⟨some 30, .bool j.Last, [(29, .ptr ((p 12).2) (0 + 7))], [(0, .box ((p 12).2) 65 [.d (.int .u64 j.S.a0), .d (.int .u64 j.S.a1), .d (.int .u64 j.S.a2), .d (.int .u64 j.S.a3), .d (.int .i64 j.Lo), .d (.int .i64 j.Hi), .d (.int .i64 j.Rule), .d (.bool j.Last), .d (.sl false 1 (mI j.Next))])], []⟩) (fun t hm => oF rfl rfl (Zo (i := 0) rfl (dk rfl) ul4 rfl hm.s0 hm.o0 rfl ⟨u0, rfl⟩)) (fun _ => rfl) (fun _ => rfl) ?_
  refine dC (c := ⟨some 31, .bool j.Last, [(30, .bool j.Last)], [], []⟩) (fun t hm => oF rfl rfl (OpT.move rfl (dk rfl) hm.s0 ⟨u0, rfl⟩)) (fun _ => rfl) (fun _ => rfl) ?_
  rcases Qe h with ⟨w, h⟩ | ⟨w, h⟩
  refine dC (c := ⟨some 32, .ptr bx0 0, [(0, .ptr bx0 0), (31, .bool j.Last)], [], []⟩) (fun t hm => oN rfl rfl rfl hm.s1 w (OpT.move rfl (dk rfl) hm.s0 ⟨u0, rfl⟩)) (fun _ => rfl) (fun _ => rfl) ?_
  refine dC (c := ⟨some 33, .agg [.sl false 1 (mI x1.L), .sl false 1 (mI x1.R), .sl false 1 (mI x1.Rule), .sl false 1 (x1.Next.map (cL 2 Qg))], [(4, .ptr q 0), (31, .bool j.Last)], [(5, (Jz q x1.L x1.R x1.Rule x1.Next))], []⟩) (fun t hm => oN rfl rfl rfl hm.s1 w (Jt (i := 5) (l := [.sl false 1 (mI x1.L), .sl false 1 (mI x1.R), .sl false 1 (mI x1.Rule), .sl false 1 (x1.Next.map (cL 2 Qg))]) rfl (dk rfl) H1 rfl i51 hm.s0 hm.o0 rfl rfl ⟨u0, rfl⟩)) (fun _ => rfl) (fun _ => rfl) ?_
  refine dC (c := ⟨some 34, .int .i64 x2, [(2, .int .i64 x2), (31, .bool j.Last)], [], []⟩) (fun t hm => oN rfl rfl rfl hm.s1 w (OpT.move rfl (dk rfl) hm.s0 ⟨u0, rfl⟩)) (fun _ => rfl) (fun _ => rfl) ?_
  refine dC (c := ⟨some 35, .ptr q (0 + 0), [(4, .ptr q 0), (31, .bool j.Last)], [], []⟩) (fun t hm => oN rfl rfl rfl hm.s1 w (Z0 rfl (dk rfl) H1 rfl i38 (by decide) hm.s0 ⟨u0, rfl⟩)) (fun _ => rfl) (fun _ => rfl) ?_
  refine dC (c := ⟨some 36, .sl false 1 (mI x1.L), [(35, .ptr q (0 + 0)), (31, .bool j.Last)], [(5, (Jz q x1.L x1.R x1.Rule x1.Next))], []⟩) (fun t hm => oN rfl rfl rfl hm.s1 w (Zo (i := 5) rfl (dk rfl) Zy rfl hm.s0 hm.o0 rfl ⟨u0, rfl⟩)) (fun _ => rfl) (fun _ => rfl) ?_
  refine dC (c := ⟨some 37, .int .i64 aa, [(8, .int .i64 aa), (31, .bool j.Last)], [], []⟩) (fun t hm => oN rfl rfl rfl hm.s1 w (OpT.move rfl (dk rfl) hm.s0 ⟨u0, rfl⟩)) (fun _ => rfl) (fun _ => rfl) ?_
  refine dC (c := ⟨some 38, .ref [.int .i64 ad], [(36, .sl false 1 (mI x1.L)), (37, .int .i64 aa), (31, .bool j.Last)], [], []⟩) (fun t hm => oN rfl rfl rfl hm.s2 w (Yq (xs := x1.L) (f := (cI .i64)) (v := ad) rfl (dk rfl) Zy i3 hm.s0 hm.s1 al ⟨u0, rfl⟩)) (fun _ => rfl) (fun _ => rfl) ?_
  refine dC (c := ⟨some 39, .int .i64 ad, [(38, .ref [.int .i64 ad]), (31, .bool j.Last)], [], []⟩) (fun t hm => oN rfl rfl rfl hm.s1 w (Xi rfl (dk rfl) ul3 rfl hm.s0 rfl ⟨u0, rfl⟩)) (fun _ => rfl) (fun _ => rfl) ?_
  obtain ⟨af, an, h⟩ := bind_some h
  refine DGG.step (c := fun m => ⟨some 40, .bool af, [(32, .ptr bx0 0), (33, .agg [.sl false 1 (mI x1.L), .sl false 1 (mI x1.R), .sl false 1 (mI x1.Rule), .sl false 1 (x1.Next.map (cL 2 Qg))]), (34, .int .i64 x2), (39, .int .i64 ad), (31, .bool j.Last)], [(4, .arrX w0_0aa 51 4 0 (x0.a.States.map Qc)), (3, .arrA ac 59 2 (mA x0.a.Counts)), (2, .arrA ab 3 1 (mI x0.number)), (1, (Xl bx0 x0.g.First x0.g.P ab x0.a.Split.Of x0.a.Split.Many ac w0_0aa x0.e))], [(1, (Xl bx0 x0.g.First x0.g.P ((m 11).1 0) x0.a.Split.Of x0.a.Split.Many ((m 11).1 1) ((m 11).1 2) x0.e)), (2, .arrA ((m 11).1 0) 3 1 (mI x0.number)), (3, .arrA ((m 11).1 1) 59 2 (mA x0.a.Counts)), (4, .arrX ((m 11).1 2) 51 4 0 (x0.a.States.map Qc))]⟩) [11] (fun m γ' h => by simp only [h 11 (by decide)]) (fun m t hm => One.step rfl (.on rfl rfl (hm.slots (31, _) (.tail _ (.tail _ (.tail _ (.tail _ (.head _)))))) w) (Q8 (is := [1, 2, 3, 4]) (ph := []) rfl (dk rfl) Tryz.func79 rfl rfl (Q7.cons hm.s0 (Q7.cons hm.s1 (Q7.cons hm.s2 (Q7.cons hm.s3 Q7.nil)))) (Mn K (bx0 := bx0) (wx0c1 := ab) (wx0c2c1 := ac) (wx0c2c2 := w0_0aa) an) (.cons (hm.objs (1, _) (.tail _ (.tail _ (.tail _ (.head _))))) rfl (.cons hm.o2 rfl (.cons hm.o1 rfl (.cons hm.o0 rfl (.nil))))) (fun _ => rfl) (fun g => ⟨(g, 0), rfl⟩))) (fun m => Z2 rfl rfl) ?_
  refine dC (c := ⟨some 41, .bool af, [(31, .bool j.Last), (40, .bool af)], [], []⟩) (fun t hm => oF rfl rfl (Ky rfl (dk rfl) hm.s0 w hm.s1 ⟨u0, rfl⟩)) (fun _ => rfl) (fun _ => rfl) ?_
  refine dC (c := ⟨some 42, .bool af, [(41, .bool af)], [], []⟩) (fun t hm => oF rfl rfl (OpT.move rfl (dk rfl) hm.s0 ⟨u0, rfl⟩)) (fun _ => rfl) (fun _ => rfl) ?_
  rcases Qe h with ⟨ag, h⟩ | ⟨ag, h⟩
  refine dC (c := ⟨some 43, .int .i64 y, [(7, .int .i64 y), (42, .bool af)], [], []⟩) (fun t hm => oN rfl rfl rfl hm.s1 ag (OpT.move rfl (dk rfl) hm.s0 ⟨u0, rfl⟩)) (fun _ => rfl) (fun _ => rfl) ?_
  refine dC (c := ⟨some 44, .bool (decide (y < (0:Int))), [(43, .int .i64 y), (42, .bool af)], [], []⟩) (fun t hm => oN rfl rfl rfl hm.s1 ag (Zj rfl rfl (dk rfl) hm.s0 rfl ⟨u0, rfl⟩)) (fun _ => rfl) (fun _ => rfl) ?_
  refine dC (c := ⟨some 45, .bool (decide (y < (0:Int))), [(44, .bool (decide (y < (0:Int)))), (42, .bool af)], [], []⟩) (fun t hm => oN rfl rfl rfl hm.s1 ag (OpT.move rfl (dk rfl) hm.s0 ⟨u0, rfl⟩)) (fun _ => rfl) (fun _ => rfl) ?_
  rcases Qe h with ⟨ai, h⟩ | ⟨ai, h⟩
  refine DGG.off ai rfl rfl rfl rfl rfl (fun _ => rfl) ?_
  refine DGG.off ai rfl rfl rfl rfl rfl (fun _ => rfl) ?_
  refine DGG.off ai rfl rfl rfl rfl rfl (fun _ => rfl) ?_
  refine DGG.off ai rfl rfl rfl rfl rfl (fun _ => rfl) ?_
  refine dC (c := ⟨some 50, .bool true, [(45, .bool (decide (y < (0:Int)))), (42, .bool af)], [], []⟩) (fun t hm => oN rfl rfl rfl hm.s1 ag (Ky rfl (dk rfl) hm.s0 ai rfl ⟨u0, rfl⟩)) (fun _ => rfl) (fun _ => rfl) ?_
  refine dC (c := ⟨some 51, .bool true, [(42, .bool af), (50, .bool true)], [], []⟩) (fun t hm => oF rfl rfl (Ky rfl (dk rfl) hm.s0 ag hm.s1 ⟨u0, rfl⟩)) (fun _ => rfl) (fun _ => rfl) ?_
  refine gF [0,1,3,7,7,7,7,71,7,455,967,2047,4095,8191,16383,32767,65535,131071,262143,131071,1048575,2097151,4194303] Q3 rfl (by kernel_rfl) (fun _ => by kernel_rfl) (fun m u hu => (tN (Qm hu ?_)))
  refine Qr rfl rfl ?_
  refine Qq ?_
  refine oP ul65 i3 rfl ?_
  refine oL 0 ul3 rfl ?_
  refine aw rfl ?_
  refine TL'.nil (Ql (tN ?_))
  refine Qq ?_
  refine mw rfl ?_
  refine oI rfl ?_
  refine aw rfl ?_
  refine TL'.nil (tN ?_)
  refine Qh ?_ (ih x2 j.Rule (wI (aa + (1:Int))) x0 x1 ((m 11).1 0) ((m 11).1 1) ((m 11).1 2) q h)
  exact tr rfl (.c (.s .z) (.c (.s .z) (.c (.s .z) (.c (.s .z) (.c (.s .z) (.n _))))))
  cases h
  cases h
  refine DGG.off w rfl rfl rfl rfl rfl (fun _ => rfl) ?_
  refine DGG.off w rfl rfl rfl rfl rfl (fun _ => rfl) ?_
  refine DGG.off w rfl rfl rfl rfl rfl (fun _ => rfl) ?_
  refine DGG.off w rfl rfl rfl rfl rfl (fun _ => rfl) ?_
  refine DGG.off w rfl rfl rfl rfl rfl (fun _ => rfl) ?_
  refine DGG.off w rfl rfl rfl rfl rfl (fun _ => rfl) ?_
  refine DGG.off w rfl rfl rfl rfl rfl (fun _ => rfl) ?_
  refine DGG.off w rfl rfl rfl rfl rfl (fun _ => rfl) ?_
  refine DGG.off w rfl rfl rfl rfl rfl (fun _ => rfl) ?_
  refine dC (c := ⟨some 41, .bool false, [(31, .bool j.Last)], [], []⟩) (fun t hm => oF rfl rfl (Kz rfl (dk rfl) hm.s0 w rfl ⟨u0, rfl⟩)) (fun _ => rfl) (fun _ => rfl) ?_
  refine dC (c := ⟨some 42, .bool false, [(41, .bool false)], [], []⟩) (fun t hm => oF rfl rfl (OpT.move rfl (dk rfl) hm.s0 ⟨u0, rfl⟩)) (fun _ => rfl) (fun _ => rfl) ?_
  refine DGG.off rfl rfl rfl rfl rfl rfl (fun _ => rfl) ?_
  refine DGG.off rfl rfl rfl rfl rfl rfl (fun _ => rfl) ?_
  refine DGG.off rfl rfl rfl rfl rfl rfl (fun _ => rfl) ?_
  refine DGG.gone rfl rfl rfl rfl rfl (fun _ => rfl) ?_
  refine DGG.gone rfl rfl rfl rfl rfl (fun _ => rfl) ?_
  refine DGG.gone rfl rfl rfl rfl rfl (fun _ => rfl) ?_
  refine DGG.gone rfl rfl rfl rfl rfl (fun _ => rfl) ?_
  refine DGG.off rfl rfl rfl rfl rfl rfl (fun _ => rfl) ?_
  refine dC (c := ⟨some 51, .bool false, [(42, .bool false)], [], []⟩) (fun t hm => oF rfl rfl (Kz rfl (dk rfl) hm.s0 rfl rfl ⟨u0, rfl⟩)) (fun _ => rfl) (fun _ => rfl) ?_
  refine gF [0,1,3,7,7,7,7,71,7,455,967,2047,4095,8191,16383,32767,65535,131071,262143,131071,1048575,2097151,4194303] Q3 rfl (by kernel_rfl) (fun _ => by kernel_rfl) (fun m u hu => (tN (Qm hu ?_)))
  refine Qp rfl rfl ?_
  refine T.skip (Ql (tN ?_))
  refine Qq ?_
  refine mw rfl ?_
  refine oI rfl ?_
  refine aw rfl ?_
  refine TL'.nil (tN ?_)
  refine Qh ?_ (ih x2 y (wI (aa + (1:Int))) x0 x1 ab ac w0_0aa q h)
  exact tr rfl (.c (.s .z) (.c (.s .z) (.c (.s .z) (.c (.s .z) (.c (.s .z) (.n _))))))
  refine Qp rfl aj ?_
  refine T.exit (Qk (Qk (Qt (tN ?_))))
  refine T.seq (Qq ?_)
  refine mw rfl ?_
  refine aw rfl ?_
  refine TL'.nil (tN ?_)
  refine T.ret ?_
  exact Q4 (.cons _ _ _ _ (.tmp 6 _ rfl) .nil) (.cons 0 rfl (.cons 0 rfl (.cons 0 rfl (.cons 0 rfl (.nil _))))) (by cases h; exact ⟨gl [ab, ac, w0_0aa], rfl, rfl⟩)
theorem Nw (K : Nat) {x0 : Qi} {x1 : Qa} {x2 : Int} {bx0 : Nat} {wx0c1 wx0c2c1 wx0c2c2 : Value} {r : Int} (h : Gn K x0 x1 x2 = some r) : Us tp 47 [.ptr bx0 0, .agg [.sl false 1 (mI x1.L), .sl false 1 (mI x1.R), .sl false 1 (mI x1.Rule), .sl false 1 (x1.Next.map (cL 2 Qg))], .int .i64 x2] [(Xl bx0 x0.g.First x0.g.P wx0c1 x0.a.Split.Of x0.a.Split.Many wx0c2c1 wx0c2c2 x0.e), .arrA wx0c1 3 1 (mI x0.number), .arrA wx0c2c1 59 2 (mA x0.a.Counts), .arrX wx0c2c2 51 4 0 (x0.a.States.map Qc)] (fun γ => (.int .i64 r)) (fun γ => [(Xl bx0 x0.g.First x0.g.P (γ 0) x0.a.Split.Of x0.a.Split.Many (γ 1) (γ 2) x0.e), .arrA (γ 0) 3 1 (mI x0.number), .arrA (γ 1) 59 2 (mA x0.a.Counts), .arrX (γ 2) 51 4 0 (x0.a.States.map Qc)]) := by
 refine Qu Tryz.func47 rfl (nb rfl) ?_
 show T tp 55 (ca [] Tryz.f47) ⟨Qv 0 [.ptr bx0 0, .agg [.sl false 1 (mI x1.L), .sl false 1 (mI x1.R), .sl false 1 (mI x1.Rule), .sl false 1 (x1.Next.map (cL 2 Qg))], .int .i64 x2], [(Xl bx0 x0.g.First x0.g.P wx0c1 x0.a.Split.Of x0.a.Split.Many wx0c2c1 wx0c2c2 x0.e), .arrA wx0c1 3 1 (mI x0.number), .arrA wx0c2c1 59 2 (mA x0.a.Counts), .arrX wx0c2c2 51 4 0 (x0.a.States.map Qc)]⟩ (Wx bx0 x0 r)
 unfold Gn at h
 refine T.seq (Qq ?_)
 refine sp rfl (Zi rfl (dk rfl) rfl (fun b => ?_))
 refine aw rfl ?_
 refine TL'.nil (tN (T.seq (Qq ?_)))
 refine aw rfl ?_
 refine TL'.nil (tN ?_)
 refine T.seq ?_
 refine T.seq (Qq ?_)
 refine aw rfl ?_
 refine TL'.nil (tN ?_)
 refine T.block ?_
 refine T.loop ?_
 refine Qh ?_ (E5 K bx0 x0 K x2 (-1:Int) (0:Int) x0 x1 wx0c1 wx0c2c1 wx0c2c2 b h)
 exact tr rfl (.c (.s .z) (.c (.s .z) (.c (.s .z) (.c (.s .z) (.c .z (.n _))))))
abbrev D5 (r : Z4) : ES := Wb tp Tryz.f115 (fun y t => y = (.agg (Z4.dc .u64 r)) ∧ t = [])
abbrev Qat (r : Z4) : ES := thenS (fun s' => T tp 25 (ca [1,1,1] Tryz.f115) s' ((D5 r))) ((D5 r))
abbrev R2 (r : Z4) : ES := Qz 0 ((Qat r))
theorem Qbk {r : Z4} (K : Nat) : ∀ (k : Nat), ∀ (x1 b : Int) (x0 : Q9) (j : Z4) (g : List Int) (l m : Nat) (p : Value), He K k x1 b x0 j g = some r → TL tp 25 (ca [1,1,0,1,0,0] Tryz.f115) ⟨[(1, .int .i64 x1), (2, .ptr l 0), (4, .ptr m 0), (5, .c (.ex p)), (6, .int .i64 b)], [(Qfn l x0.Of x0.Many), .box m 63 (Z4.oc .u64 j), .arrA p 5 1 (mU g)]⟩ (R2 r) := by
 intro k
 induction k with
 | zero =>
  intro x1 b x0 j g l m p h
  exact zn h
 | succ k ih =>
  intro x1 b x0 j g l m p h
  rw [He] at h
  refine Q6 ?_
  refine T.seq ?_
  refine T.seq (Qq ?_)
  refine mw rfl ?_
  refine oI rfl ?_
  refine TL'.nil (tN ?_)
  rcases Qe h with ⟨s, h⟩ | ⟨s, h⟩
  refine Qr rfl s ?_
  refine T.skip (tN ?_)
  refine T.seq ?_
  refine T.block ?_
  refine T.seq (Qq ?_)
  refine mw rfl ?_
  refine oP Qfs i22 rfl ?_
  obtain ⟨q, h⟩ := Zc h
  refine sp rfl (Y5 rfl (dk rfl) ul22 i5 rfl rfl q.1 q.2 ?_)
  refine sp rfl (Zo (i := 0) rfl (dk rfl) ul5 rfl rfl rfl (Qdb (n := 256) (k := .u8) (a := x0.Of) (pre := []) (post := [.d (.int .i64 x0.Many)]) q.1 q.2) ?_)
  refine sp rfl (Vq rfl (dk rfl) ul5 ul3 rfl ?_)
  refine mw rfl ?_
  refine oI rfl ?_
  refine TL'.nil (tN ?_)
  rcases Qe h with ⟨u, h⟩ | ⟨u, h⟩
  refine Qr rfl u ?_
  refine Qq ?_
  refine mw rfl ?_
  refine mw rfl ?_
  refine sp rfl (Vq rfl (dk rfl) ul3 ul5 rfl ?_)
  refine sp rfl (OpT.buildSlice (elems := ([(IntKind.u8.wrap b)] : List Int).map (cI .u8)) rfl (dk rfl) Dp i5 (by decide) rfl (Mi rfl) rfl rfl rfl (V4 rfl) (by decide) ?_)
  obtain ⟨w, h⟩ := Zc h
  refine sp rfl (Zv (i := 2) (xs := g) (ys := [(IntKind.u8.wrap b)]) (f := (cI .u8)) rfl (dk rfl) Dp i5 rfl rfl rfl rfl w (fun y => ?_))
  refine aw rfl ?_
  refine TL'.nil (Ql (tN ?_))
  refine Qq ?_
  refine mw rfl ?_
  refine oI rfl ?_
  refine aw rfl ?_
  refine TL'.nil (tN ?_)
  refine Qh ?_ (ih x1 (wI (b + (1:Int))) x0 j (g ++ [(IntKind.u8.wrap b)]) l m y h)
  exact tq rfl rfl
  refine Qp rfl u ?_
  refine T.skip (Ql (tN ?_))
  refine Qq ?_
  refine mw rfl ?_
  refine oI rfl ?_
  refine aw rfl ?_
  refine TL'.nil (tN ?_)
  refine Qh ?_ (ih x1 (wI (b + (1:Int))) x0 j g l m p h)
  exact tq rfl rfl
  refine Qp rfl s ?_
  refine T.exit (Qk (Qk (Qt (tN ?_))))
  refine T.seq (Qq ?_)
  refine mw rfl ?_
  obtain ⟨v, aa, h⟩ := bind_some h
  refine sp rfl (Q1 rfl (dk rfl) Tryz.func131 rfl rfl (Q7.view (i := 2) rfl rfl Q7.nil) (Zn.nil (So K (flx0 := false) aa)) ?_)
  refine sp rfl (Qx (i := 1) (cells' := (Z4.oc .u64 v)) rfl rfl i63 rfl rfl rfl rfl (nb rfl) rfl ?_)
  refine TL'.nil (tN ?_)
  refine T.ret ?_
  exact Fin.done (.cons _ _ _ _ (.cellAgg 4 63 _ 0 1 63 _ (Z4.dc .u64 v) _ _ 4 _ rfl rfl rfl rfl Qfx rfl i63) .nil) (by cases h; exact ⟨rfl, rfl⟩)
theorem Qej (K : Nat) {x0 : Q9} {x1 : Int} {r : Z4} (h : Ng K x0 x1 = some r) : Zn tp 115 [.agg ((Zg.dc 256 .u8 x0.Of) ++ (([.int .i64 x0.Many] : List DC))), .int .i64 x1] [] (.agg (Z4.dc .u64 r)) := by
 refine Qu Tryz.func115 rfl (nb rfl) ?_
 show T tp 25 (ca [] Tryz.f115) ⟨Qv 0 [.agg ((Zg.dc 256 .u8 x0.Of) ++ (([.int .i64 x0.Many] : List DC))), .int .i64 x1], []⟩ (D5 r)
 unfold Ng at h
 refine T.seq (Qq ?_)
 refine sp rfl (Zi rfl (dk rfl) rfl (fun a => ?_))
 refine sp rfl (Ze rfl (dk rfl) i63 rfl (fun b => ?_))
 refine TL'.nil (tN (T.seq (Qq ?_)))
 refine aw rfl ?_
 refine TL'.nil (tN ?_)
 refine T.seq ?_
 refine T.seq (Qq ?_)
 refine aw rfl ?_
 refine TL'.nil (tN ?_)
 refine T.block ?_
 refine T.loop ?_
 refine Qh (Xu 5 1) ?_
 refine Qh ?_ (Qbk K K x1 (0:Int) x0 (Z4.mk 0 0 0 0) [] a b (Qeb 2) h)
 exact tr rfl (.c (.s (.s .z)) (.c (.s .z) (.c .z (.n _))))
end Go.Rv

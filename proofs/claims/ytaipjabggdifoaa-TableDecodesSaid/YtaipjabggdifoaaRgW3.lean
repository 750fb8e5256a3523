/- Each function computes what its plain text says: printed by a program of ours. -/
import Derived.Test.YtaipjabggdifoaaRgW2
namespace Go.Rv
open Go.Proofs
set_option maxRecDepth 100000
set_option maxHeartbeats 4000000
set_option linter.unusedVariables false
abbrev P0 (r : List Int) : ES := Jk tp Try.f15 (fun y t => ∃ γ : Nat → Value, y = (.c (.ex (γ 0))) ∧ t = [.arrA (γ 0) 5 1 (mU r)])
abbrev T7 (r : List Int) : ES := thenS (fun s' => T tp 27 (ca [1,1,1,1] Try.f15) s' ((P0 r))) ((P0 r))
abbrev Ry (r : List Int) : ES := Qz 0 ((T7 r))
theorem r4_Number_l0_T {r : List Int} (K : Nat) : ∀ (k : Nat), ∀ (a : Int) (b : List Int) (d : Value), Jo K k a b = some r → TL tp 27 (ca [1,1,1,0,0,0] Try.f15) ⟨[(1, .int .i64 a), (5, .c (.ex d))], [.arrA d 5 1 (mU b)]⟩ (Ry r) := by
 intro k
 induction k with
 | zero =>
  intro a b d h
  cases (show (none : Option (List Int)) = some r from h)
 | succ k ih =>
  intro a b d h
  rw [Jo] at h
  refine Q4 ?_
  refine T.seq ?_
  refine T.seq (Qq ?_)
  refine mw rfl ?_
  refine sp rfl (Qa rfl rfl (dk rfl) rfl rfl ?_)
  refine TL'.nil (tN ?_)
  rcases Qd h with ⟨g, h⟩ | ⟨g, h⟩
  refine Qk rfl g ?_
  refine T.skip (tN ?_)
  refine T.block ?_
  refine T.seq (Qq ?_)
  refine mw rfl ?_
  refine mw rfl ?_
  refine sp rfl (OpT.rem rfl (dk rfl) rfl rfl (by decide) ?_)
  refine sp rfl (Z9 rfl (dk rfl) ul3 ul5 rfl ?_)
  refine sp rfl (Qa rfl rfl (dk rfl) rfl rfl ?_)
  refine sp rfl (OpT.buildSlice (elems := ([(IntKind.u8.wrap ((IntKind.u8.wrap (Int.tmod a (128:Int))) + (128:Int)))] : List Int).map (cI .u8)) rfl (dk rfl) Xg i5 (by decide) rfl (J6 rfl) rfl rfl rfl (Yp rfl) (by decide) ?_)
  obtain ⟨j, h⟩ := Zh h
  refine sp rfl (Za (i := 0) (xs := b) (ys := [(IntKind.u8.wrap ((IntKind.u8.wrap (Int.tmod a (128:Int))) + (128:Int)))]) (f := (cI .u8)) rfl (dk rfl) Xg i5 rfl rfl rfl rfl j (fun l => ?_))
  refine aw rfl ?_
  refine TL'.nil (tN ?_)
  refine Qq ?_
  refine mw rfl ?_
  refine sp rfl (OpT.quo rfl (dk rfl) rfl rfl (by decide) ?_)
  refine aw rfl ?_
  refine TL'.nil (Qe (tN ?_))
  refine Qb ?_ (ih (wI (Int.tdiv a (128:Int))) (b ++ [(IntKind.u8.wrap ((IntKind.u8.wrap (Int.tmod a (128:Int))) + (128:Int)))]) l h)
  exact tq rfl rfl
  refine Qo rfl g ?_
  refine T.exit (Qf (Qf (Qp (tN ?_))))
  refine T.seq (Qq ?_)
  refine mw rfl ?_
  refine mw rfl ?_
  refine sp rfl (Z9 rfl (dk rfl) ul3 ul5 rfl ?_)
  refine sp rfl (OpT.buildSlice (elems := ([(IntKind.u8.wrap a)] : List Int).map (cI .u8)) rfl (dk rfl) Xg i5 (by decide) rfl (J6 rfl) rfl rfl rfl (Yp rfl) (by decide) ?_)
  obtain ⟨m, h⟩ := Zh h
  refine sp rfl (Za (i := 0) (xs := b) (ys := [(IntKind.u8.wrap a)]) (f := (cI .u8)) rfl (dk rfl) Xg i5 rfl rfl rfl rfl m (fun p => ?_))
  refine aw rfl ?_
  refine TL'.nil (tN ?_)
  refine T.ret ?_
  exact Q6 (.cons _ _ _ _ (.tmp 4 _ rfl) .nil) (.cons 0 rfl (.nil _)) (by cases h; exact ⟨gl [p], rfl, rfl⟩)
theorem r4_Number_T (K : Nat) {x0 : List Int} {x1 : Int} {flx0 : Bool} {r : List Int} (h : I4 K x0 x1 = some r) : Uz tp 15 [.sl flx0 1 (mU x0), .int .i64 x1] [] (fun γ => (.c (.ex (γ 0)))) (fun γ => [.arrA (γ 0) 5 1 (mU r)]) := by
 refine Qt Try.func15 rfl (nb rfl) ?_
 show T tp 27 (ca [] Try.f15) ⟨Qv 0 [.sl flx0 1 (mU x0), .int .i64 x1], []⟩ (P0 r)
 unfold I4 at h
 refine T.seq (Qq ?_)
 refine aw rfl ?_
 refine TL'.nil (tN (T.seq (Qq ?_)))
 refine sp rfl (OpT.buildSlice (elems := ([] : List Int).map (cI .u8)) rfl (dk rfl) Xg i5 (by decide) rfl (J6 rfl) rfl rfl rfl (Yp rfl) (by decide) ?_)
 refine mw rfl ?_
 obtain ⟨a, h⟩ := Zh h
 refine sp rfl (C9 (xs := ([] : List Int)) (ys := x0) (f := (cI .u8)) rfl (dk rfl) Xg i5 rfl rfl rfl (.inr rfl) a (fun b => ?_))
 refine aw rfl ?_
 refine TL'.nil (tN (T.seq (Qq ?_)))
 refine mw rfl ?_
 refine sp rfl (OpT.max2 rfl (dk rfl) rfl rfl ?_)
 refine aw rfl ?_
 refine TL'.nil (tN ?_)
 refine T.seq ?_
 refine T.block ?_
 refine T.loop ?_
 refine Qb ?_ (r4_Number_l0_T K K (if (0:Int) > x1 then (0:Int) else x1) (([] : List Int) ++ x0) b h)
 exact tq rfl rfl
abbrev Qau (bx0 : Nat) (r : Yg) : ES := Jk tp Try.f24 (fun y t => ∃ γ : Nat → Value, y = (.tup []) ∧ t = [(Mh bx0 (γ 0)), .arrA (γ 0) 5 1 (mU r.b)])
theorem Ve (K : Nat) {x0 : Yg} {x1 : Int} {bx0 : Nat} {wx0c0 : Value} {r : Yg} (h : Yn K x0 x1 = some r) : Uz tp 24 [.ptr bx0 0, .int .i64 x1] [(Mh bx0 wx0c0), .arrA wx0c0 5 1 (mU x0.b)] (fun γ => (.tup [])) (fun γ => [(Mh bx0 (γ 0)), .arrA (γ 0) 5 1 (mU r.b)]) := by
 refine Qt Try.func24 rfl (nb rfl) ?_
 show T tp 16 (ca [] Try.f24) ⟨Qv 0 [.ptr bx0 0, .int .i64 x1], [(Mh bx0 wx0c0), .arrA wx0c0 5 1 (mU x0.b)]⟩ (Qau bx0 r)
 unfold Yn at h
 refine T.seq (Qq ?_)
 refine mw rfl ?_
 refine Y7 Zs ?_
 obtain ⟨g, j, h⟩ := bind_some h
 refine sp rfl (Q2 (is := [0]) (ph := [.ro 0 []]) rfl (dk rfl) Try.func15 rfl rfl (Q3.nilSl rfl (Q3.cons rfl Q3.nil)) (r4_Number_T K (flx0 := false) j) (.cons rfl rfl (.nil)) (fun _ => rfl) (fun m => ?_))
 refine nm (.c (.c (.c (.n)))) ?_
 refine aw rfl ?_
 refine TL'.nil (tN ?_)
 refine Qq ?_
 refine mw rfl ?_
 refine mw rfl ?_
 refine sp rfl (OpT.nilCheck rfl (dk rfl) rfl rfl ?_)
 refine sp rfl (Qg rfl (dk rfl) ul66 rfl i29 (by decide) rfl ?_)
 refine sp rfl (Qm (i := 1) rfl (dk rfl) Xg rfl rfl rfl rfl ?_)
 refine mw rfl ?_
 refine Y7 (Zn.view 12 0 rfl rfl) ?_
 obtain ⟨l, h⟩ := Zh h
 refine sp rfl (Za (i := 2) (xs := x0.b) (ys := g) (f := (cI .u8)) rfl (dk rfl) Xg i5 rfl rfl rfl rfl l (fun a => ?_))
 refine sp rfl (OpT.nilCheck rfl (dk rfl) rfl rfl ?_)
 refine sp rfl (Qg rfl (dk rfl) ul66 rfl i29 (by decide) rfl ?_)
 refine sp rfl (Xd (i := 1) (cells' := [.d (.ex a)]) rfl rfl i29 rfl rfl rfl (nb rfl) rfl ?_)
 refine TL'.nil ?_
 exact Q6 (.nil) (.cons 1 rfl (.cons 1 rfl (.nil _))) (by cases h; exact ⟨gl [a], rfl, rfl⟩)
abbrev Fk (bx0 : Nat) (r : Yg) : ES := Jk tp Try.f25 (fun y t => ∃ γ : Nat → Value, y = (.tup []) ∧ t = [(Mh bx0 (γ 0)), .arrA (γ 0) 5 1 (mU r.b)])
abbrev Py (bx0 : Nat) (r : Yg) : ES := Qz 0 ((Fk bx0 r))
theorem Pz {r : Yg} (K bx0 : Nat) : ∀ (k : Nat), ∀ (x1 : List Int) (g : Int) (i : List Int) (flx1 : Bool) (a : Value), Yh K k x1 g i = some r → TL tp 21 (ca [1,1,0,0] Try.f25) ⟨[(0, .ptr bx0 0), (1, .sl flx1 1 (mI x1)), (4, .int .i64 g)], [(Mh bx0 a), .arrA a 5 1 (mU i)]⟩ (Py bx0 r) := by
 intro k
 induction k with
 | zero =>
  intro x1 g i flx1 a h
  cases (show (none : Option Yg) = some r from h)
 | succ k ih =>
  intro x1 g i flx1 a h
  rw [Yh] at h
  refine Q4 ?_
  refine T.seq ?_
  refine T.seq (Qq ?_)
  refine mw rfl ?_
  refine mw rfl ?_
  refine sp rfl (Qn (xs := x1) (f := (cI .i64)) rfl (dk rfl) Yd rfl ?_)
  refine sp rfl (Qa rfl rfl (dk rfl) rfl rfl ?_)
  refine TL'.nil (tN ?_)
  rcases Qd h with ⟨j, h⟩ | ⟨j, h⟩
  refine Qk rfl j ?_
  refine T.skip (tN ?_)
  refine T.seq ?_
  refine T.block ?_
  refine Qq ?_
  iterate 3 refine mw rfl ?_
  obtain ⟨l, m, h⟩ := bind_some h
  refine sp rfl (Qh (xs := x1) (f := (cI .i64)) (v := l) rfl (dk rfl) Yd i3 rfl rfl m ?_)
  refine sp rfl (Qr rfl (dk rfl) ul3 rfl rfl rfl ?_)
  obtain ⟨p, q, h⟩ := bind_some h
  refine sp rfl (Q2 (is := [0, 1]) (ph := []) rfl (dk rfl) Try.func24 rfl rfl (Q3.cons rfl (Q3.cons rfl Q3.nil)) (Ve K (bx0 := bx0) (wx0c0 := a) q) (.cons rfl rfl (.cons rfl rfl (.nil))) (fun _ => rfl) (fun s => ?_))
  refine nm (.c (.c (.n))) ?_
  refine TL'.nil (Qe (tN ?_))
  refine Qq ?_
  refine mw rfl ?_
  refine sp rfl (Qa rfl rfl (dk rfl) rfl rfl ?_)
  refine aw rfl ?_
  refine TL'.nil (tN ?_)
  refine Qb ?_ (ih x1 (wI (g + (1:Int))) p.b flx1 (s 0) h)
  exact tq rfl rfl
  refine Qo rfl j ?_
  refine T.exit (Qf (Qf (Qp ?_)))
  exact Q6 (.nil) (.cons 0 rfl (.cons 0 rfl (.nil _))) (by cases h; exact ⟨gl [a], rfl, rfl⟩)
theorem Fl (K : Nat) {x0 : Yg} {x1 : List Int} {bx0 : Nat} {wx0c0 : Value} {flx1 : Bool} {r : Yg} (h : J8 K x0 x1 = some r) : Uz tp 25 [.ptr bx0 0, .sl flx1 1 (mI x1)] [(Mh bx0 wx0c0), .arrA wx0c0 5 1 (mU x0.b)] (fun γ => (.tup [])) (fun γ => [(Mh bx0 (γ 0)), .arrA (γ 0) 5 1 (mU r.b)]) := by
 refine Qt Try.func25 rfl (nb rfl) ?_
 show T tp 21 (ca [] Try.f25) ⟨Qv 0 [.ptr bx0 0, .sl flx1 1 (mI x1)], [(Mh bx0 wx0c0), .arrA wx0c0 5 1 (mU x0.b)]⟩ (Fk bx0 r)
 unfold J8 at h
 refine T.seq (Qq ?_)
 refine mw rfl ?_
 refine mw rfl ?_
 refine sp rfl (Qn (xs := x1) (f := (cI .i64)) rfl (dk rfl) Yd rfl ?_)
 obtain ⟨a, g, h⟩ := bind_some h
 refine sp rfl (Q2 (is := [0, 1]) (ph := []) rfl (dk rfl) Try.func24 rfl rfl (Q3.cons rfl (Q3.cons rfl Q3.nil)) (Ve K (bx0 := bx0) (wx0c0 := wx0c0) g) (.cons rfl rfl (.cons rfl rfl (.nil))) (fun _ => rfl) (fun i => ?_))
 refine nm (.c (.c (.n))) ?_
 refine TL'.nil (tN (T.seq (Qq ?_)))
 refine aw rfl ?_
 refine TL'.nil (tN ?_)
 refine T.block ?_
 refine T.loop ?_
 refine Qb ?_ (Pz K bx0 K x1 (0:Int) a.b flx1 (i 0) h)
 exact tq rfl rfl
abbrev Jt (r : (List Int) × Int) : ES := Jk tp Try.f12 (fun y t => y = (.tup [.sl false 1 (mU r.1), .int .i64 r.2]) ∧ t = [])
abbrev I5 (r : (List Int) × Int) : ES := thenS (fun s' => T tp 163 (ca [1,1,1,1,1,1,1,1,1] Try.f12) s' ((Jt r))) ((Jt r))
abbrev Vw (r : (List Int) × Int) : ES := Qz 6 ((I5 r))
abbrev Gx (r : (List Int) × Int) : ES := thenS (fun s' => TL tp 163 (ca [1,1,1,1,1,1,1,1,0,1,0,0] Try.f12) s' ((Vw r))) ((Vw r))
abbrev Ca (r : (List Int) × Int) : ES := thenS (fun s' => T tp 163 (ca [1,1,1,1,1,1,1,1,0,1,0,0,1,1] Try.f12) s' ((Gx r))) ((Gx r))
abbrev Kq (r : (List Int) × Int) : ES := Qz 7 ((Ca r))
abbrev Yv (r : (List Int) × Int) : ES := Qz 8 ((Kq r))
abbrev Jp (r : (List Int) × Int) : ES := thenS (fun s' => TL tp 163 (ca [1,1,1,1,1,1,1,1,0,1,0,0,1,0,0,1,1,0,0] Try.f12) s' ((Yv r))) ((Yv r))
abbrev Gw (r : (List Int) × Int) : ES := thenS (fun s' => T tp 163 (ca [1,1,1,1,1,1,1,1,0,1,0,0,1,0,0,1,1,0,0,1,1] Try.f12) s' ((Jp r))) ((Jp r))
abbrev Wd (r : (List Int) × Int) : ES := Qz 9 ((Gw r))
abbrev Jl (r : (List Int) × Int) : ES := Qz 10 ((Wd r))
abbrev Oa (r : (List Int) × Int) : ES := thenS (fun s' => T tp 163 (ca [1,1,1,1,1,1,1,1] Try.f12) s' ((Jt r))) ((Jt r))
abbrev F3 (r : (List Int) × Int) : ES := Qz 4 ((Oa r))
abbrev Rz (r : (List Int) × Int) : ES := thenS (fun s' => T tp 163 (ca [1,1,1,1,1,1] Try.f12) s' ((Jt r))) ((Jt r))
abbrev Oc (r : (List Int) × Int) : ES := Qz 2 ((Rz r))
abbrev T8 (r : (List Int) × Int) : ES := thenS (fun s' => T tp 163 (ca [1,1,1,1] Try.f12) s' ((Jt r))) ((Jt r))
abbrev R0 (r : (List Int) × Int) : ES := Qz 0 ((T8 r))
abbrev r4_Encode_l4_H (r : (List Int) × Int) (go : Int → Int → aAu → (List Int) → (List Int) → (List Int) → (List Int) → (List (List aMv)) → Option ((List Int) × Int)) : Prop := ∀ (a b : Int) (x0 : aAu) (c f : List Int) (g i : List Int) (j : List (List aMv)) (l m : Nat) (n : Value) (p : Nat), go a b x0 c f g i j = some r → TL tp 163 (ca [1,1,1,1,1,1,1,1,0,1,0,0,1,0,0,1,1,0,0] Try.f12) ⟨[(1, .ptr l 0), (4, .ptr m 0), (8, .int .i64 a), (9, .ptr p 0), (10, .int .i64 b)], [(Xo l x0.Split.Of x0.Split.Many x0.Counts x0.States), (Mh m n), .arrA n 5 1 (mU c), (Zw p f g i j)]⟩ (Yv r)
theorem r4_Encode_l5_T {r : (List Int) × Int} (K : Nat) (go4 : Int → Int → aAu → (List Int) → (List Int) → (List Int) → (List Int) → (List (List aMv)) → Option ((List Int) × Int)) (hgo4 : r4_Encode_l4_H r go4) : ∀ (k : Nat), ∀ (af p y : Int) (x0 : aAu) (ai aa : List Int) (ab ac : List Int) (l : List (List aMv)) (ad g : Nat) (ag : Value) (m : Nat), Vf K go4 k af p y x0 ai aa ab ac l = some r → TL tp 163 (ca [1,1,1,1,1,1,1,1,0,1,0,0,1,0,0,1,1,0,0,1,0,0,1,1,0,0] Try.f12) ⟨[(1, .ptr ad 0), (4, .ptr g 0), (8, .int .i64 af), (9, .ptr m 0), (10, .int .i64 p), (11, .int .i64 y)], [(Xo ad x0.Split.Of x0.Split.Many x0.Counts x0.States), (Mh g ag), .arrA ag 5 1 (mU ai), (Zw m aa ab ac l)]⟩ (Jl r) := by
 intro k
 induction k with
 | zero =>
  intro af p y x0 ai aa ab ac l ad g ag m h
  cases (show (none : Option ((List Int) × Int)) = some r from h)
 | succ k ih =>
  intro af p y x0 ai aa ab ac l ad g ag m h
  rw [Vf] at h
  refine Q4 ?_
  refine T.seq ?_
  refine T.seq (Qq ?_)
  refine mw rfl ?_
  refine sp rfl (Qg rfl (dk rfl) Vm rfl i57 (by decide) rfl ?_)
  refine sp rfl (Qm (i := 3) rfl (dk rfl) B0 rfl rfl rfl rfl ?_)
  refine mw rfl ?_
  obtain ⟨q, am, h⟩ := bind_some h
  refine sp rfl (Qh (xs := l) (f := (cL 2 Qu)) (v := q) rfl (dk rfl) B0 i61 rfl rfl am ?_)
  refine sp rfl (Qr rfl (dk rfl) Fq rfl rfl rfl ?_)
  refine sp rfl (Qn (xs := q) (f := Qu) rfl (dk rfl) Fq rfl ?_)
  refine sp rfl (Qa rfl rfl (dk rfl) rfl rfl ?_)
  refine TL'.nil (tN ?_)
  rcases Qd h with ⟨an, h⟩ | ⟨an, h⟩
  refine Qk rfl an ?_
  refine T.skip (tN ?_)
  refine T.seq ?_
  refine T.block ?_
  refine T.seq (Qq ?_)
  refine mw rfl ?_
  refine sp rfl (Qg rfl (dk rfl) Vm rfl i57 (by decide) rfl ?_)
  refine sp rfl (Qm (i := 3) rfl (dk rfl) B0 rfl rfl rfl rfl ?_)
  refine mw rfl ?_
  refine sp rfl (Qh (xs := l) (f := (cL 2 Qu)) (v := q) rfl (dk rfl) B0 i61 rfl rfl am ?_)
  refine sp rfl (Qr rfl (dk rfl) Fq rfl rfl rfl ?_)
  refine mw rfl ?_
  obtain ⟨j, ap, h⟩ := bind_some h
  refine sp rfl (Qh (xs := q) (f := Qu) (v := j) rfl (dk rfl) Fq i63 rfl rfl ap ?_)
  refine sp rfl (Z4 rfl (dk rfl) Kg rfl i3 (by decide) rfl ?_)
  refine sp rfl (Qr rfl (dk rfl) ul3 rfl rfl rfl ?_)
  refine sp rfl (Qa rfl rfl (dk rfl) rfl rfl ?_)
  obtain ⟨aj, aq, h⟩ := bind_some h
  refine sp rfl (Q2 (is := [1, 2]) (ph := []) rfl (dk rfl) Try.func24 rfl rfl (Q3.cons rfl (Q3.cons rfl Q3.nil)) (Ve K (bx0 := g) (wx0c0 := ag) aq) (.cons rfl rfl (.cons rfl rfl (.nil))) (fun _ => rfl) (fun al => ?_))
  refine nm (.c (.c (.c (.c (.n))))) ?_
  refine TL'.nil (tN ?_)
  refine Qc Zs ?_
  refine Y3 ?_
  refine dC (c := ⟨some 142, .ptr g 0, [(4, .ptr g 0)], [], []⟩) (fun t hm => oF rfl rfl (OpT.move rfl (dk rfl) hm.s0 ⟨u0, rfl⟩)) (fun _ => rfl) (fun _ => rfl) ?_
  refine dC (c := ⟨some 143, .ptr g 0, [(4, .ptr g 0)], [], []⟩) (fun t hm => oF rfl rfl (OpT.move rfl (dk rfl) hm.s0 ⟨u0, rfl⟩)) (fun _ => rfl) (fun _ => rfl) ?_
  refine dC (c := ⟨some 144, .ptr g 0, [(143, .ptr g 0)], [], []⟩) (fun t hm => oF rfl rfl (OpT.nilCheck rfl (dk rfl) hm.s0 rfl ⟨u0, rfl⟩)) (fun _ => rfl) (fun _ => rfl) ?_
  refine dC (c := ⟨some 145, .ptr g (0 + 0), [(144, .ptr g 0)], [], []⟩) (fun t hm => oF rfl rfl (Qg rfl (dk rfl) ul66 rfl i29 (by decide) hm.s0 ⟨u0, rfl⟩)) (fun _ => rfl) (fun _ => rfl) ?_
  refine dC (c := ⟨some 146, .c (.ex (al 0)), [(145, .ptr g (0 + 0))], [(2, (Mh g (al 0)))], []⟩) (fun t hm => oF rfl rfl (Qm (i := 2) rfl (dk rfl) Xg rfl hm.s0 hm.o0 rfl ⟨u0, rfl⟩)) (fun _ => rfl) (fun _ => rfl) ?_
  refine dC (c := ⟨some 147, .ptr m (0 + 3), [(9, .ptr m 0)], [], []⟩) (fun t hm => oF rfl rfl (Qg rfl (dk rfl) Vm rfl i57 (by decide) hm.s0 ⟨u0, rfl⟩)) (fun _ => rfl) (fun _ => rfl) ?_
  refine dC (c := ⟨some 148, .sl false 1 (l.map (cL 2 Qu)), [(147, .ptr m (0 + 3))], [(4, (Zw m aa ab ac l))], []⟩) (fun t hm => oF rfl rfl (Qm (i := 4) rfl (dk rfl) B0 rfl hm.s0 hm.o0 rfl ⟨u0, rfl⟩)) (fun _ => rfl) (fun _ => rfl) ?_
  refine dC (c := ⟨some 149, .int .i64 p, [(10, .int .i64 p)], [], []⟩) (fun t hm => oF rfl rfl (OpT.move rfl (dk rfl) hm.s0 ⟨u0, rfl⟩)) (fun _ => rfl) (fun _ => rfl) ?_
  refine dC (c := ⟨some 150, .ref [.sl false 2 (q.map Qu)], [(148, .sl false 1 (l.map (cL 2 Qu))), (149, .int .i64 p)], [], []⟩) (fun t hm => oF rfl rfl (Qh (xs := l) (f := (cL 2 Qu)) (v := q) rfl (dk rfl) B0 i61 hm.s0 hm.s1 am ⟨u0, rfl⟩)) (fun _ => rfl) (fun _ => rfl) ?_
  refine dC (c := ⟨some 151, .sl false 2 (q.map Qu), [(150, .ref [.sl false 2 (q.map Qu)])], [], []⟩) (fun t hm => oF rfl rfl (Qr rfl (dk rfl) Fq rfl hm.s0 rfl ⟨u0, rfl⟩)) (fun _ => rfl) (fun _ => rfl) ?_
  refine dC (c := ⟨some 152, .int .i64 y, [(11, .int .i64 y)], [], []⟩) (fun t hm => oF rfl rfl (OpT.move rfl (dk rfl) hm.s0 ⟨u0, rfl⟩)) (fun _ => rfl) (fun _ => rfl) ?_
  refine dC (c := ⟨some 153, .ref [.int .i64 j.To, .sl false 1 (mU j.Ops)], [(151, .sl false 2 (q.map Qu)), (152, .int .i64 y)], [], []⟩) (fun t hm => oF rfl rfl (Qh (xs := q) (f := Qu) (v := j) rfl (dk rfl) Fq i63 hm.s0 hm.s1 ap ⟨u0, rfl⟩)) (fun _ => rfl) (fun _ => rfl) ?_
  refine dC (c := ⟨some 154, .ref [.sl false 1 (mU j.Ops)], [(153, .ref [.int .i64 j.To, .sl false 1 (mU j.Ops)])], [], []⟩) (fun t hm => oF rfl rfl (Z4 rfl (dk rfl) Kg rfl i29 (by decide) hm.s0 ⟨u0, rfl⟩)) (fun _ => rfl) (fun _ => rfl) ?_
  refine dC (c := ⟨some 155, .sl false 1 (mU j.Ops), [(154, .ref [.sl false 1 (mU j.Ops)])], [], []⟩) (fun t hm => oF rfl rfl (Qr rfl (dk rfl) Xg rfl hm.s0 rfl ⟨u0, rfl⟩)) (fun _ => rfl) (fun _ => rfl) ?_
  obtain ⟨au, h⟩ := Zh h
  refine DGG.step (c := fun a => ⟨some 156, .c (.ex ((a 14).1 0)), [(155, .sl false 1 (mU j.Ops)), (146, .c (.ex (al 0)))], [(3, .arrA (al 0) 5 1 (mU aj.b))], [(3, .arrA ((a 14).1 0) 5 1 ((aj.b ++ j.Ops).map (cI .u8)))]⟩) [14] (fun a γ' h => by simp only [h 14 (by decide)]) (fun a t hm => oF rfl rfl (Za (i := 3) (xs := aj.b) (ys := j.Ops) (f := (cI .u8)) rfl (dk rfl) Xg i5 rfl hm.s1 hm.o0 hm.s0 au (fun w => ⟨(fun _ => w, 0), rfl⟩))) (fun a => Zq rfl rfl) ?_
  refine dC (c := ⟨some 157, .ptr g 0, [(142, .ptr g 0)], [], []⟩) (fun t hm => oF rfl rfl (OpT.nilCheck rfl (dk rfl) hm.s0 rfl ⟨u0, rfl⟩)) (fun _ => rfl) (fun _ => rfl) ?_
  refine dC (c := ⟨some 158, .ptr g (0 + 0), [(157, .ptr g 0)], [], []⟩) (fun t hm => oF rfl rfl (Qg rfl (dk rfl) ul66 rfl i29 (by decide) hm.s0 ⟨u0, rfl⟩)) (fun _ => rfl) (fun _ => rfl) ?_
  refine DGG.step (c := fun a => ⟨none, .any, [(158, .ptr g (0 + 0)), (156, .c (.ex ((a 14).1 0)))], [(2, (Mh g (al 0)))], [(2, (Mh g ((a 14).1 0)))]⟩) [14] (fun a γ' h => by simp only [h 14 (by decide)]) (fun a t hm => oF rfl rfl (Xd (i := 2) (cells' := [.d (.ex ((a 14).1 0))]) rfl rfl i29 hm.s0 hm.s1 hm.o0 (nb rfl) rfl ⟨u0, rfl⟩)) (fun a => Zq rfl rfl) ?_
  refine Vi (s1 := fun a => ⟨[(1, .ptr ad 0), (4, .ptr g 0), (8, .int .i64 af), (9, .ptr m 0), (10, .int .i64 p), (11, .int .i64 y)], [.ro 0 [], (Xo ad x0.Split.Of x0.Split.Many x0.Counts x0.States), (Mh g ((a 14).1 0)), .arrA ((a 14).1 0) 5 1 ((aj.b ++ j.Ops).map (cI .u8)), (Zw m aa ab ac l)]⟩) (ms := [0, 0, 2, 6, 14, 0, 32, 0, 224, 480, 0, 2016, 4064, 8160, 16382, 32767, 65535, 131071]) Q7 rfl (by kernel_rfl) (by kernel_rfl) (by kernel_rfl) (fun a => by kernel_rfl) (fun a => sf rfl) (fun _ => rfl) (fun a u hu => (Qe (tN (Qc hu ?_))))
  refine Qq ?_
  refine mw rfl ?_
  refine sp rfl (Qa rfl rfl (dk rfl) rfl rfl ?_)
  refine aw rfl ?_
  refine TL'.nil (tN ?_)
  refine Qb ?_ (ih af p (wI (y + (1:Int))) x0 (aj.b ++ j.Ops) aa ab ac l ad g ((a 14).1 0) m h)
  exact tr rfl (.c (.s .z) (.c (.s .z) (.c (.s .z) (.c (.s .z) (.n _)))))
  refine Qo rfl an ?_
  refine T.exit (Qf (Qf (Qp (Qe (tN ?_)))))
  refine Qq ?_
  refine mw rfl ?_
  refine sp rfl (Qa rfl rfl (dk rfl) rfl rfl ?_)
  refine aw rfl ?_
  refine TL'.nil (tN ?_)
  refine Qb ?_ (hgo4 af (wI (p + (1:Int))) x0 ai aa ab ac l ad g ag m h)
  exact tq rfl rfl
abbrev r4_Encode_l3_H (r : (List Int) × Int) (go : Int → aAu → (List Int) → Option ((List Int) × Int)) : Prop := ∀ (a : Int) (x0 : aAu) (b : List Int) (c f : Nat) (g : Value), go a x0 b = some r → TL tp 163 (ca [1,1,1,1,1,1,1,1,0,1,0,0] Try.f12) ⟨[(1, .ptr c 0), (4, .ptr f 0), (8, .int .i64 a)], [(Xo c x0.Split.Of x0.Split.Many x0.Counts x0.States), (Mh f g), .arrA g 5 1 (mU b)]⟩ (Vw r)
theorem r4_Encode_l4_T {r : (List Int) × Int} (K : Nat) (go3 : Int → aAu → (List Int) → Option ((List Int) × Int)) (hgo3 : r4_Encode_l3_H r go3) : ∀ (k : Nat), ∀ (j p : Int) (x0 : aAu) (q s : List Int) (u a : List Int) (w : List (List aMv)) (l g : Nat) (m : Value) (y : Nat), Xw K go3 k j p x0 q s u a w = some r → TL tp 163 (ca [1,1,1,1,1,1,1,1,0,1,0,0,1,0,0,1,1,0,0] Try.f12) ⟨[(1, .ptr l 0), (4, .ptr g 0), (8, .int .i64 j), (9, .ptr y 0), (10, .int .i64 p)], [(Xo l x0.Split.Of x0.Split.Many x0.Counts x0.States), (Mh g m), .arrA m 5 1 (mU q), (Zw y s u a w)]⟩ (Yv r) := by
 intro k
 induction k with
 | zero =>
  intro j p x0 q s u a w l g m y h
  cases (show (none : Option ((List Int) × Int)) = some r from h)
 | succ k ih =>
  intro j p x0 q s u a w l g m y h
  rw [Xw] at h
  refine Q4 ?_
  refine T.seq ?_
  refine T.seq (Qq ?_)
  refine mw rfl ?_
  refine sp rfl (Qg rfl (dk rfl) Vm rfl i56 (by decide) rfl ?_)
  refine sp rfl (Qm (i := 3) rfl (dk rfl) Yd rfl rfl rfl rfl ?_)
  refine sp rfl (Qn (xs := a) (f := (cI .i64)) rfl (dk rfl) Yd rfl ?_)
  refine sp rfl (Qa rfl rfl (dk rfl) rfl rfl ?_)
  refine TL'.nil (tN ?_)
  rcases Qd h with ⟨aa, h⟩ | ⟨aa, h⟩
  refine Qk rfl aa ?_
  refine T.skip (tN ?_)
  refine T.seq ?_
  refine T.block ?_
  refine T.seq (Qq ?_)
  refine mw rfl ?_
  refine sp rfl (Qg rfl (dk rfl) Vm rfl i56 (by decide) rfl ?_)
  refine sp rfl (Qm (i := 3) rfl (dk rfl) Yd rfl rfl rfl rfl ?_)
  refine mw rfl ?_
  obtain ⟨ab, ac, h⟩ := bind_some h
  refine sp rfl (Qh (xs := a) (f := (cI .i64)) (v := ab) rfl (dk rfl) Yd i3 rfl rfl ac ?_)
  refine sp rfl (Qr rfl (dk rfl) ul3 rfl rfl rfl ?_)
  refine sp rfl (Qa rfl rfl (dk rfl) rfl rfl ?_)
  obtain ⟨ad, af, h⟩ := bind_some h
  refine sp rfl (Q2 (is := [1, 2]) (ph := []) rfl (dk rfl) Try.func24 rfl rfl (Q3.cons rfl (Q3.cons rfl Q3.nil)) (Ve K (bx0 := g) (wx0c0 := m) af) (.cons rfl rfl (.cons rfl rfl (.nil))) (fun _ => rfl) (fun ag => ?_))
  refine nm (.c (.c (.c (.c (.n))))) ?_
  refine TL'.nil (tN (T.seq (Qq ?_)))
  refine aw rfl ?_
  refine TL'.nil (tN ?_)
  refine T.block ?_
  refine T.loop ?_
  refine Qb ?_ (r4_Encode_l5_T K (Xw K go3 k) ih K j p (0:Int) x0 ad.b s u a w l g (ag 0) y h)
  exact tq rfl rfl
  refine Qo rfl aa ?_
  refine T.exit (Qf (Qf (Qp (Qe (tN ?_)))))
  refine Qq ?_
  refine mw rfl ?_
  refine sp rfl (Qa rfl rfl (dk rfl) rfl rfl ?_)
  refine aw rfl ?_
  refine TL'.nil (tN ?_)
  refine Qb ?_ (hgo3 (wI (j + (1:Int))) x0 q l g m h)
  exact tq rfl rfl
theorem r4_Encode_l3_T {r : (List Int) × Int} (K : Nat) : ∀ (k : Nat), ∀ (b : Int) (x0 : aAu) (g : List Int) (j l : Nat) (m : Value), Xl K k b x0 g = some r → TL tp 163 (ca [1,1,1,1,1,1,1,1,0,1,0,0] Try.f12) ⟨[(1, .ptr j 0), (4, .ptr l 0), (8, .int .i64 b)], [(Xo j x0.Split.Of x0.Split.Many x0.Counts x0.States), (Mh l m), .arrA m 5 1 (mU g)]⟩ (Vw r) := by
 intro k
 induction k with
 | zero =>
  intro b x0 g j l m h
  cases (show (none : Option ((List Int) × Int)) = some r from h)
 | succ k ih =>
  intro b x0 g j l m h
  rw [Xl] at h
  refine Q4 ?_
  refine T.seq ?_
  refine T.seq (Qq ?_)
  refine mw rfl ?_
  refine sp rfl (Qg rfl (dk rfl) Xe rfl i26 (by decide) rfl ?_)
  refine sp rfl (Qm (i := 0) rfl (dk rfl) X5 rfl rfl rfl rfl ?_)
  refine sp rfl (Qn (xs := x0.States) (f := Q0) rfl (dk rfl) X5 rfl ?_)
  refine sp rfl (Qa rfl rfl (dk rfl) rfl rfl ?_)
  refine TL'.nil (tN ?_)
  rcases Qd h with ⟨p, h⟩ | ⟨p, h⟩
  refine Qk rfl p ?_
  refine T.skip (tN ?_)
  refine T.seq ?_
  refine T.block ?_
  refine T.seq (Qq ?_)
  refine sp rfl (Qg rfl (dk rfl) Xe rfl i26 (by decide) rfl ?_)
  refine sp rfl (Qm (i := 0) rfl (dk rfl) X5 rfl rfl rfl rfl ?_)
  refine mw rfl ?_
  obtain ⟨a, q, h⟩ := bind_some h
  refine sp rfl (Qh (xs := x0.States) (f := Q0) (v := a) rfl (dk rfl) X5 i59 rfl rfl q ?_)
  refine sp rfl (Zj rfl (dk rfl) Vm rfl i59 rfl (nb rfl) ?_)
  refine sp rfl (Zi rfl (dk rfl) i59 rfl (fun u => ?_))
  refine sp rfl (Q1 (i := 0) (cells' := [.d (.sl false 1 (mI a.L)), .d (.sl false 1 (mI a.R)), .d (.sl false 1 (mI a.Rule)), .d (.sl false 1 (a.Next.map (cL 2 Qu)))]) rfl rfl i59 rfl rfl rfl rfl (nb rfl) rfl ?_)
  refine TL'.nil (tN (T.seq (Qq ?_)))
  refine aw rfl ?_
  refine TL'.nil (tN ?_)
  refine T.block ?_
  refine T.loop ?_
  refine Qb ?_ (r4_Encode_l4_T K (Xl K k) ih K b (0:Int) x0 g a.L a.R a.Rule a.Next j l m u h)
  exact tr rfl (.c (.s .z) (.c (.s .z) (.c (.s .z) (.c .z (.n _)))))
  refine Qo rfl p ?_
  refine T.exit (Qf (Qf (Qp (tN ?_))))
  refine T.seq (Qq ?_)
  refine mw rfl ?_
  refine sp rfl (OpT.nilCheck rfl (dk rfl) rfl rfl ?_)
  refine sp rfl (Qg rfl (dk rfl) ul66 rfl i29 (by decide) rfl ?_)
  refine sp rfl (Qm (i := 1) rfl (dk rfl) Xg rfl rfl rfl rfl ?_)
  refine aw rfl ?_
  refine aw rfl ?_
  refine TL'.nil (tN ?_)
  refine T.ret ?_
  refine Xf (Zn.view 2 2 rfl rfl) ?_
  exact Fin.done (.cons _ _ _ _ (.tmp 2 _ rfl) (.cons _ _ _ _ (.tmp 3 _ rfl) .nil)) (by cases h; exact ⟨rfl, rfl⟩)
theorem r4_Encode_l2_T {r : (List Int) × Int} (K : Nat) : ∀ (k : Nat), ∀ (l : Int) (x0 : aAu) (m : List Int) (g a : Nat) (j : Value), Xx K k l x0 m = some r → TL tp 163 (ca [1,1,1,1,1,1,1,0,1,0,0] Try.f12) ⟨[(1, .ptr g 0), (4, .ptr a 0), (7, .int .i64 l)], [(Xo g x0.Split.Of x0.Split.Many x0.Counts x0.States), (Mh a j), .arrA j 5 1 (mU m)]⟩ (F3 r) := by
 intro k
 induction k with
 | zero =>
  intro l x0 m g a j h
  cases (show (none : Option ((List Int) × Int)) = some r from h)
 | succ k ih =>
  intro l x0 m g a j h
  rw [Xx] at h
  refine Q4 ?_
  refine T.seq ?_
  refine T.seq (Qq ?_)
  refine mw rfl ?_
  refine sp rfl (Qg rfl (dk rfl) Xe rfl i26 (by decide) rfl ?_)
  refine sp rfl (Qm (i := 0) rfl (dk rfl) X5 rfl rfl rfl rfl ?_)
  refine sp rfl (Qn (xs := x0.States) (f := Q0) rfl (dk rfl) X5 rfl ?_)
  refine sp rfl (Qa rfl rfl (dk rfl) rfl rfl ?_)
  refine TL'.nil (tN ?_)
  rcases Qd h with ⟨p, h⟩ | ⟨p, h⟩
  refine Qk rfl p ?_
  refine T.skip (tN ?_)
  refine T.seq ?_
  refine T.block ?_
  refine T.seq (Qq ?_)
  refine mw rfl ?_
  refine sp rfl (Qg rfl (dk rfl) Xe rfl i26 (by decide) rfl ?_)
  refine sp rfl (Qm (i := 0) rfl (dk rfl) X5 rfl rfl rfl rfl ?_)
  refine mw rfl ?_
  obtain ⟨q, s, h⟩ := bind_some h
  refine sp rfl (Qh (xs := x0.States) (f := Q0) (v := q) rfl (dk rfl) X5 i59 rfl rfl s ?_)
  refine sp rfl (Z4 rfl (dk rfl) Vm rfl i56 (by decide) rfl ?_)
  refine sp rfl (Qr rfl (dk rfl) Yd rfl rfl rfl ?_)
  obtain ⟨ac, u, h⟩ := bind_some h
  refine sp rfl (Q2 (is := [1, 2]) (ph := []) rfl (dk rfl) Try.func25 rfl rfl (Q3.cons rfl (Q3.cons rfl Q3.nil)) (Fl K (bx0 := a) (wx0c0 := j) (flx1 := false) u) (.cons rfl rfl (.cons rfl rfl (.nil))) (fun _ => rfl) (fun w => ?_))
  refine nm (.c (.c (.c (.n)))) ?_
  refine TL'.nil (tN ?_)
  refine Qq ?_
  refine mw rfl ?_
  refine sp rfl (Qg rfl (dk rfl) Xe rfl i26 (by decide) rfl ?_)
  refine sp rfl (Qm (i := 0) rfl (dk rfl) X5 rfl rfl rfl rfl ?_)
  refine mw rfl ?_
  refine sp rfl (Qh (xs := x0.States) (f := Q0) (v := q) rfl (dk rfl) X5 i59 rfl rfl s ?_)
  refine sp rfl (Z4 rfl (dk rfl) Vm rfl i56 (by decide) rfl ?_)
  refine sp rfl (Qr rfl (dk rfl) Yd rfl rfl rfl ?_)
  obtain ⟨y, aa, h⟩ := bind_some h
  refine sp rfl (Q2 (is := [1, 2]) (ph := []) rfl (dk rfl) Try.func25 rfl rfl (Q3.cons rfl (Q3.cons rfl Q3.nil)) (Fl K (bx0 := a) (wx0c0 := (w 0)) (flx1 := false) aa) (.cons rfl rfl (.cons rfl rfl (.nil))) (fun _ => rfl) (fun ab => ?_))
  refine nm (.c (.c (.c (.n)))) ?_
  refine TL'.nil (Qe (tN ?_))
  refine Qq ?_
  refine mw rfl ?_
  refine sp rfl (Qa rfl rfl (dk rfl) rfl rfl ?_)
  refine aw rfl ?_
  refine TL'.nil (tN ?_)
  refine Qb ?_ (ih (wI (l + (1:Int))) x0 y.b g a (ab 0) h)
  exact tq rfl rfl
  refine Qo rfl p ?_
  refine T.exit (Qf (Qf (Qp (tN ?_))))
  refine T.seq ?_
  refine T.seq (Qq ?_)
  refine aw rfl ?_
  refine TL'.nil (tN ?_)
  refine T.block ?_
  refine T.loop ?_
  refine Qb ?_ (r4_Encode_l3_T K K (0:Int) x0 m g a j h)
  exact tq rfl rfl
theorem r4_Encode_l1_T {r : (List Int) × Int} (K : Nat) : ∀ (k : Nat), ∀ (l : Int) (x0 : aAu) (m : List Int) (g a : Nat) (j : Value), Xy K k l x0 m = some r → TL tp 163 (ca [1,1,1,1,1,0,1,0,0] Try.f12) ⟨[(1, .ptr g 0), (4, .ptr a 0), (6, .int .i64 l)], [(Xo g x0.Split.Of x0.Split.Many x0.Counts x0.States), (Mh a j), .arrA j 5 1 (mU m)]⟩ (Oc r) := by
 intro k
 induction k with
 | zero =>
  intro l x0 m g a j h
  cases (show (none : Option ((List Int) × Int)) = some r from h)
 | succ k ih =>
  intro l x0 m g a j h
  rw [Xy] at h
  refine Q4 ?_
  refine T.seq ?_
  refine T.seq (Qq ?_)
  refine mw rfl ?_
  refine sp rfl (Qg rfl (dk rfl) Xe rfl i25 (by decide) rfl ?_)
  refine sp rfl (Qm (i := 0) rfl (dk rfl) Mq rfl rfl rfl rfl ?_)
  refine sp rfl (Qn (xs := x0.Counts) (f := (Zb.dc .i64)) rfl (dk rfl) Mq rfl ?_)
  refine sp rfl (Qa rfl rfl (dk rfl) rfl rfl ?_)
  refine TL'.nil (tN ?_)
  rcases Qd h with ⟨p, h⟩ | ⟨p, h⟩
  refine Qk rfl p ?_
  refine T.skip (tN ?_)
  refine T.seq ?_
  refine T.block ?_
  refine T.seq (Qq ?_)
  refine mw rfl ?_
  refine sp rfl (Qg rfl (dk rfl) Xe rfl i25 (by decide) rfl ?_)
  refine sp rfl (Qm (i := 0) rfl (dk rfl) Mq rfl rfl rfl rfl ?_)
  refine mw rfl ?_
  obtain ⟨q, s, h⟩ := bind_some h
  refine sp rfl (Qh (xs := x0.Counts) (f := (Zb.dc .i64)) (v := q) rfl (dk rfl) Mq i42 rfl rfl s ?_)
  refine sp rfl (T0 rfl (dk rfl) ul42 i3 rfl rfl (by decide) (by decide) ?_)
  refine sp rfl (Qr rfl (dk rfl) ul3 rfl rfl rfl ?_)
  obtain ⟨ag, u, h⟩ := bind_some h
  refine sp rfl (Q2 (is := [1, 2]) (ph := []) rfl (dk rfl) Try.func24 rfl rfl (Q3.cons rfl (Q3.cons rfl Q3.nil)) (Ve K (bx0 := a) (wx0c0 := j) u) (.cons rfl rfl (.cons rfl rfl (.nil))) (fun _ => rfl) (fun w => ?_))
  refine nm (.c (.c (.c (.n)))) ?_
  refine TL'.nil (tN ?_)
  refine Qq ?_
  refine mw rfl ?_
  refine sp rfl (Qg rfl (dk rfl) Xe rfl i25 (by decide) rfl ?_)
  refine sp rfl (Qm (i := 0) rfl (dk rfl) Mq rfl rfl rfl rfl ?_)
  refine mw rfl ?_
  refine sp rfl (Qh (xs := x0.Counts) (f := (Zb.dc .i64)) (v := q) rfl (dk rfl) Mq i42 rfl rfl s ?_)
  refine sp rfl (T0 rfl (dk rfl) ul42 i3 rfl rfl (by decide) (by decide) ?_)
  refine sp rfl (Qr rfl (dk rfl) ul3 rfl rfl rfl ?_)
  obtain ⟨y, aa, h⟩ := bind_some h
  refine sp rfl (Q2 (is := [1, 2]) (ph := []) rfl (dk rfl) Try.func24 rfl rfl (Q3.cons rfl (Q3.cons rfl Q3.nil)) (Ve K (bx0 := a) (wx0c0 := (w 0)) aa) (.cons rfl rfl (.cons rfl rfl (.nil))) (fun _ => rfl) (fun ab => ?_))
  refine nm (.c (.c (.c (.n)))) ?_
  refine TL'.nil (Qe (tN ?_))
  refine Qq ?_
  refine mw rfl ?_
  refine sp rfl (Qa rfl rfl (dk rfl) rfl rfl ?_)
  refine aw rfl ?_
  refine TL'.nil (tN ?_)
  refine Qb ?_ (ih (wI (l + (1:Int))) x0 y.b g a (ab 0) h)
  exact tq rfl rfl
  refine Qo rfl p ?_
  refine T.exit (Qf (Qf (Qp (tN ?_))))
  refine T.seq (Qq ?_)
  refine mw rfl ?_
  refine sp rfl (Qg rfl (dk rfl) Xe rfl i26 (by decide) rfl ?_)
  refine sp rfl (Qm (i := 0) rfl (dk rfl) X5 rfl rfl rfl rfl ?_)
  refine sp rfl (Qn (xs := x0.States) (f := Q0) rfl (dk rfl) X5 rfl ?_)
  obtain ⟨ac, ad, h⟩ := bind_some h
  refine sp rfl (Q2 (is := [1, 2]) (ph := []) rfl (dk rfl) Try.func24 rfl rfl (Q3.cons rfl (Q3.cons rfl Q3.nil)) (Ve K (bx0 := a) (wx0c0 := j) ad) (.cons rfl rfl (.cons rfl rfl (.nil))) (fun _ => rfl) (fun af => ?_))
  refine nm (.c (.c (.c (.n)))) ?_
  refine TL'.nil (tN ?_)
  refine T.seq ?_
  refine T.seq (Qq ?_)
  refine aw rfl ?_
  refine TL'.nil (tN ?_)
  refine T.block ?_
  refine T.loop ?_
  refine Qb ?_ (r4_Encode_l2_T K K (0:Int) x0 ac.b g a (af 0) h)
  exact tq rfl rfl
theorem r4_Encode_l0_T {r : (List Int) × Int} (K : Nat) : ∀ (k : Nat), ∀ (l : Int) (x0 : aAu) (q : List Int) (m j : Nat) (p : Value), Vg K k l x0 q = some r → TL tp 163 (ca [1,1,1,0,1,0,0] Try.f12) ⟨[(1, .ptr m 0), (4, .ptr j 0), (5, .int .i64 l)], [(Xo m x0.Split.Of x0.Split.Many x0.Counts x0.States), (Mh j p), .arrA p 5 1 (mU q)]⟩ (R0 r) := by
 intro k
 induction k with
 | zero =>
  intro l x0 q m j p h
  cases (show (none : Option ((List Int) × Int)) = some r from h)
 | succ k ih =>
  intro l x0 q m j p h
  rw [Vg] at h
  refine Q4 ?_
  refine T.seq ?_
  refine T.seq (Qq ?_)
  refine mw rfl ?_
  refine sp rfl (Qa rfl rfl (dk rfl) rfl rfl ?_)
  refine TL'.nil (tN ?_)
  rcases Qd h with ⟨y, h⟩ | ⟨y, h⟩
  refine Qk rfl y ?_
  refine T.skip (tN ?_)
  refine T.seq ?_
  refine T.block ?_
  refine Qc Zs ?_
  refine Y3 ?_
  refine dC (c := ⟨some 23, .ptr j 0, [(4, .ptr j 0)], [], []⟩) (fun t hm => oF rfl rfl (OpT.move rfl (dk rfl) hm.s0 ⟨u0, rfl⟩)) (fun _ => rfl) (fun _ => rfl) ?_
  refine dC (c := ⟨some 24, .ptr j 0, [(4, .ptr j 0)], [], []⟩) (fun t hm => oF rfl rfl (OpT.move rfl (dk rfl) hm.s0 ⟨u0, rfl⟩)) (fun _ => rfl) (fun _ => rfl) ?_
  refine dC (c := ⟨some 25, .ptr j 0, [(24, .ptr j 0)], [], []⟩) (fun t hm => oF rfl rfl (OpT.nilCheck rfl (dk rfl) hm.s0 rfl ⟨u0, rfl⟩)) (fun _ => rfl) (fun _ => rfl) ?_
  refine dC (c := ⟨some 26, .ptr j (0 + 0), [(25, .ptr j 0)], [], []⟩) (fun t hm => oF rfl rfl (Qg rfl (dk rfl) ul66 rfl i29 (by decide) hm.s0 ⟨u0, rfl⟩)) (fun _ => rfl) (fun _ => rfl) ?_
  refine dC (c := ⟨some 27, .c (.ex p), [(26, .ptr j (0 + 0))], [(2, (Mh j p))], []⟩) (fun t hm => oF rfl rfl (Qm (i := 2) rfl (dk rfl) Xg rfl hm.s0 hm.o0 rfl ⟨u0, rfl⟩)) (fun _ => rfl) (fun _ => rfl) ?_
  refine dC (c := ⟨some 28, .int .i64 l, [(5, .int .i64 l)], [], []⟩) (fun t hm => oF rfl rfl (OpT.move rfl (dk rfl) hm.s0 ⟨u0, rfl⟩)) (fun _ => rfl) (fun _ => rfl) ?_
  refine dC (c := ⟨some 29, .ptr m (0 + 0), [(1, .ptr m 0)], [], []⟩) (fun t hm => oF rfl rfl (Qg rfl (dk rfl) Xe rfl i24 (by decide) hm.s0 ⟨u0, rfl⟩)) (fun _ => rfl) (fun _ => rfl) ?_
  refine dC (c := ⟨some 30, .ptr m (0 + 0 + 0), [(29, .ptr m (0 + 0))], [], []⟩) (fun t hm => oF rfl rfl (Qg rfl (dk rfl) Ig rfl i22 (by decide) hm.s0 ⟨u0, rfl⟩)) (fun _ => rfl) (fun _ => rfl) ?_
  obtain ⟨v, h⟩ := Zh h
  refine dC (c := ⟨some 31, .ptr m (0 + 0 + 0 + (Int.toNat l) * 1), [(30, .ptr m (0 + 0 + 0)), (28, .int .i64 l)], [], []⟩) (fun t hm => oF rfl rfl (Zx rfl (dk rfl) ul22 i5 hm.s0 hm.s1 v.1 v.2 ⟨u0, rfl⟩)) (fun _ => rfl) (fun _ => rfl) ?_
  refine dC (c := ⟨some 32, .int .u8 (Qx.get x0.Split.Of l), [(31, .ptr m (0 + 0 + 0 + (Int.toNat l) * 1))], [(1, (Xo m x0.Split.Of x0.Split.Many x0.Counts x0.States))], []⟩) (fun t hm => oF rfl rfl (Qm (i := 1) rfl (dk rfl) ul5 rfl hm.s0 hm.o0 (Ff (n := 256) (k := .u8) (a := x0.Split.Of) (pre := []) (post := [.d (.int .i64 x0.Split.Many), .d (.sl false 2 (mA x0.Counts)), .d (.sl false 4 (x0.States.map Q0))]) v.1 v.2) ⟨u0, rfl⟩)) (fun _ => rfl) (fun _ => rfl) ?_
  refine dC (c := ⟨some 33, .sl true 1 ([(Qx.get x0.Split.Of l)].map (cI .u8)), [(32, .int .u8 (Qx.get x0.Split.Of l))], [], []⟩) (fun t hm => oF rfl rfl (OpT.buildSlice (elems := ([(Qx.get x0.Split.Of l)] : List Int).map (cI .u8)) rfl (dk rfl) Xg i5 (by decide) rfl (J6 rfl) (Xm hm.s0 rfl V6) rfl rfl (Yp rfl) (by decide) ⟨u0, rfl⟩)) (fun _ => rfl) (fun _ => rfl) ?_
  obtain ⟨aa, h⟩ := Zh h
  refine DGG.step (c := fun g => ⟨some 34, .c (.ex ((g 11).1 0)), [(33, .sl true 1 ([(Qx.get x0.Split.Of l)].map (cI .u8))), (27, .c (.ex p))], [(3, .arrA p 5 1 (mU q))], [(3, .arrA ((g 11).1 0) 5 1 ((q ++ [(Qx.get x0.Split.Of l)]).map (cI .u8)))]⟩) [11] (fun g γ' h => by simp only [h 11 (by decide)]) (fun g t hm => oF rfl rfl (Za (i := 3) (xs := q) (ys := [(Qx.get x0.Split.Of l)]) (f := (cI .u8)) rfl (dk rfl) Xg i5 rfl hm.s1 hm.o0 hm.s0 aa (fun w => ⟨(fun _ => w, 0), rfl⟩))) (fun g => Zq rfl rfl) ?_
  refine dC (c := ⟨some 35, .ptr j 0, [(23, .ptr j 0)], [], []⟩) (fun t hm => oF rfl rfl (OpT.nilCheck rfl (dk rfl) hm.s0 rfl ⟨u0, rfl⟩)) (fun _ => rfl) (fun _ => rfl) ?_
  refine dC (c := ⟨some 36, .ptr j (0 + 0), [(35, .ptr j 0)], [], []⟩) (fun t hm => oF rfl rfl (Qg rfl (dk rfl) ul66 rfl i29 (by decide) hm.s0 ⟨u0, rfl⟩)) (fun _ => rfl) (fun _ => rfl) ?_
  refine DGG.step (c := fun g => ⟨none, .any, [(36, .ptr j (0 + 0)), (34, .c (.ex ((g 11).1 0)))], [(2, (Mh j p))], [(2, (Mh j ((g 11).1 0)))]⟩) [11] (fun g γ' h => by simp only [h 11 (by decide)]) (fun g t hm => oF rfl rfl (Xd (i := 2) (cells' := [.d (.ex ((g 11).1 0))]) rfl rfl i29 hm.s0 hm.s1 hm.o0 (nb rfl) rfl ⟨u0, rfl⟩)) (fun g => Zq rfl rfl) ?_
  refine Vi (s1 := fun g => ⟨[(1, .ptr m 0), (4, .ptr j 0), (5, .int .i64 l)], [.ro 0 [], (Xo m x0.Split.Of x0.Split.Many x0.Counts x0.States), (Mh j ((g 11).1 0)), .arrA ((g 11).1 0) 5 1 ((q ++ [(Qx.get x0.Split.Of l)]).map (cI .u8))]⟩) (ms := [0, 0, 2, 6, 14, 0, 0, 64, 224, 480, 992, 2046, 4095, 8191, 16383]) Q7 rfl (by kernel_rfl) (by kernel_rfl) (by kernel_rfl) (fun g => by kernel_rfl) (fun g => sf rfl) (fun _ => rfl) (fun g u hu => (Qe (tN (Qc hu ?_))))
  refine Qq ?_
  refine mw rfl ?_
  refine sp rfl (Qa rfl rfl (dk rfl) rfl rfl ?_)
  refine aw rfl ?_
  refine TL'.nil (tN ?_)
  refine Qb ?_ (ih (wI (l + (1:Int))) x0 (q ++ [(Qx.get x0.Split.Of l)]) m j ((g 11).1 0) h)
  exact tr rfl (.c (.s .z) (.c (.s .z) (.c (.s .z) (.n _))))
  refine Qo rfl y ?_
  refine T.exit (Qf (Qf (Qp (tN ?_))))
  refine T.seq (Qq ?_)
  refine mw rfl ?_
  refine sp rfl (Qg rfl (dk rfl) Xe rfl i25 (by decide) rfl ?_)
  refine sp rfl (Qm (i := 0) rfl (dk rfl) Mq rfl rfl rfl rfl ?_)
  refine sp rfl (Qn (xs := x0.Counts) (f := (Zb.dc .i64)) rfl (dk rfl) Mq rfl ?_)
  obtain ⟨ab, ac, h⟩ := bind_some h
  refine sp rfl (Q2 (is := [1, 2]) (ph := []) rfl (dk rfl) Try.func24 rfl rfl (Q3.cons rfl (Q3.cons rfl Q3.nil)) (Ve K (bx0 := j) (wx0c0 := p) ac) (.cons rfl rfl (.cons rfl rfl (.nil))) (fun _ => rfl) (fun ad => ?_))
  refine nm (.c (.c (.c (.n)))) ?_
  refine TL'.nil (tN ?_)
  refine T.seq ?_
  refine T.seq (Qq ?_)
  refine aw rfl ?_
  refine TL'.nil (tN ?_)
  refine T.block ?_
  refine T.loop ?_
  refine Qb ?_ (r4_Encode_l1_T K K (0:Int) x0 ab.b m j (ad 0) h)
  exact tq rfl rfl
theorem r4_Encode_T (K : Nat) {x0 : aAu} {r : (List Int) × Int} (h : Bm K x0 = some r) : Zt tp 12 [.agg ((Qx.dc 256 .u8 x0.Split.Of) ++ (([.int .i64 x0.Split.Many, .sl false 2 (mA x0.Counts), .sl false 4 (x0.States.map Q0)] : List DC)))] [] (.tup [.sl false 1 (mU r.1), .int .i64 r.2]) := by
 refine Qt Try.func12 rfl (nb rfl) ?_
 show T tp 163 (ca [] Try.f12) ⟨Qv 0 [.agg ((Qx.dc 256 .u8 x0.Split.Of) ++ (([.int .i64 x0.Split.Many, .sl false 2 (mA x0.Counts), .sl false 4 (x0.States.map Q0)] : List DC)))], []⟩ (Jt r)
 unfold Bm at h
 refine T.seq (Qq ?_)
 refine sp rfl (Zg rfl (dk rfl) rfl (fun d => ?_))
 refine aw rfl ?_
 refine aw rfl ?_
 refine TL'.nil (tN ?_)
 refine T.seq ?_
 refine T.seq (Qq ?_)
 refine sp rfl (Ze (i := 0) (l := ((Qx.dc 256 .u8 x0.Split.Of) ++ (([.int .i64 x0.Split.Many, .sl false 2 (mA x0.Counts), .sl false 4 (x0.States.map Q0)] : List DC)))) rfl (dk rfl) Xe rfl i28 rfl rfl rfl rfl ?_)
 obtain ⟨m, g, h⟩ := bind_some h
 refine sp rfl (Q5 rfl (dk rfl) Try.func19 rfl rfl (Q3.cons rfl Q3.nil) (Zt.nil (r1_Right_T K g)) ?_)
 refine sp rfl (OpT.not rfl (dk rfl) rfl ?_)
 refine TL'.nil (tN ?_)
 rcases Qd h with ⟨a, h⟩ | ⟨a, h⟩
 refine Qk rfl a ?_
 refine T.seq (Qq ?_)
 refine aw rfl ?_
 refine aw rfl ?_
 refine TL'.nil (tN ?_)
 refine T.ret (Ql ?_)
 refine Xf (N1 2 false 1 rfl) ?_
 exact Fin.done (.cons _ _ _ _ (.tmp 2 _ rfl) (.cons _ _ _ _ (.tmp 3 _ rfl) .nil)) (by cases h; exact ⟨rfl, rfl⟩)
 refine Qo rfl a ?_
 refine T.skip (tN ?_)
 refine T.seq (Qq ?_)
 refine sp rfl (Lc (elems := ([(114:Int), (100:Int), (100:Int), (108:Int)] : List Int).map (cI .u8)) rfl (dk rfl) Xg i5 (by decide) rfl (J6 rfl) rfl rfl rfl (Yp rfl) (by decide) (fun p => ?_))
 refine sp rfl (T1 (i := 0) (xs := [(114:Int), (100:Int), (100:Int), (108:Int)]) (f := (cI .u8)) rfl (dk rfl) Xg ul5 rfl rfl rfl (by decide) ?_)
 refine TL'.turnG (TurnG.ownFull 16 5 rfl) (fun b => ?_)
 refine sp rfl (OpT.build (l := [.ex b]) rfl (dk rfl) (Zr (pl := [(0, 1)]) ul66 i66 rfl) (J6 rfl) rfl rfl ?_)
 refine sp rfl (Zg rfl (dk rfl) rfl (fun j => ?_))
 refine aw rfl ?_
 refine TL'.nil (tN ?_)
 refine T.seq ?_
 refine T.seq (Qq ?_)
 refine aw rfl ?_
 refine TL'.nil (tN ?_)
 refine T.block ?_
 refine T.loop ?_
 refine Qb ?_ (r4_Encode_l0_T K K (0:Int) x0 [(114:Int), (100:Int), (100:Int), (108:Int)] d j b h)
 exact tr rfl (.c (.s (.s (.s .z))) (.c .z (.c .z (.n _))))
abbrev Ht (r : Bool) : ES := Jk tp Try.f68 (fun y t => y = (.bool r) ∧ t = [])
abbrev Fs (r : Bool) : ES := thenS (fun s' => T tp 41 (ca [1,1] Try.f68) s' ((Ht r))) ((Ht r))
abbrev U9 (r : Bool) : ES := Qz 0 ((Fs r))
abbrev H7 (r : Bool) : ES := thenS (fun s' => TL tp 41 (ca [1,0,1,0,0] Try.f68) s' ((U9 r))) ((U9 r))
abbrev Bh (r : Bool) : ES := thenS (fun s' => T tp 41 (ca [1,0,1,0,0,1,1] Try.f68) s' ((H7 r))) ((H7 r))
abbrev Lq (r : Bool) : ES := Qz 1 ((Bh r))
theorem Wb {r : Bool} (K : Nat) (h : Vr K = some r) : T tp 41 (ca [1,0,1,0,0,1,0,0,1,0] Try.f68) ⟨[], []⟩ (Lq r) := by
 unfold Vr at h
 refine T.seq (Qq ?_)
 refine aw rfl ?_
 refine TL'.nil (tN ?_)
 refine T.ret (Qy (Ql (Ql (Qy (Ql ?_)))))
 exact Fin.done (.cons _ _ _ _ (.tmp 4 _ rfl) .nil) (by cases h; exact ⟨rfl, rfl⟩)
theorem Ft {r : Bool} (K : Nat) : ∀ (k : Nat), ∀ (x0 : List Int) (x1 b : Int) (flx0 : Bool), Vq K k x0 x1 b = some r → TL tp 41 (ca [1,0,1,0,0] Try.f68) ⟨[(0, .sl flx0 1 (mI x0)), (1, .int .i64 x1), (5, .int .i64 b)], []⟩ (U9 r) := by
 intro k
 induction k with
 | zero =>
  intro x0 x1 b flx0 h
  cases (show (none : Option Bool) = some r from h)
 | succ k ih =>
  intro x0 x1 b flx0 h
  rw [Vq] at h
  refine Q4 ?_
  refine T.seq ?_
  refine T.seq (Qq ?_)
  refine mw rfl ?_
  refine mw rfl ?_
  refine sp rfl (Qn (xs := x0) (f := (cI .i64)) rfl (dk rfl) Yd rfl ?_)
  refine sp rfl (Qa rfl rfl (dk rfl) rfl rfl ?_)
  refine TL'.nil (tN ?_)
  rcases Qd h with ⟨l, h⟩ | ⟨l, h⟩
  refine Qk rfl l ?_
  refine T.skip (tN ?_)
  refine T.seq ?_
  refine T.block ?_
  refine T.seq ?_
  refine X3 ?_
  refine Yr rfl rfl rfl rfl rfl rfl ?_
  refine Yr rfl rfl rfl rfl rfl rfl ?_
  obtain ⟨a, m, h⟩ := bind_some h
  refine dS (c := ⟨some 14, .ref [.int .i64 a], [(12, .sl flx0 1 (mI x0)), (13, .int .i64 b)], [], []⟩) (fun t hm => oF rfl rfl (Qh (xs := x0) (f := (cI .i64)) (v := a) rfl (dk rfl) Yd i3 hm.s0 hm.s1 m rfl)) rfl rfl ?_
  refine dS (c := ⟨some 15, .int .i64 a, [(14, .ref [.int .i64 a])], [], []⟩) (fun t hm => oF rfl rfl (Qr rfl (dk rfl) ul3 rfl hm.s0 rfl rfl)) rfl rfl ?_
  refine dS (c := ⟨some 16, .bool (decide (a < (0:Int))), [(15, .int .i64 a)], [], []⟩) (fun t hm => oF rfl rfl (Qa rfl rfl (dk rfl) hm.s0 rfl rfl)) rfl rfl ?_
  refine Yr rfl rfl rfl rfl rfl rfl ?_
  rcases Qd h with ⟨g, h⟩ | ⟨g, h⟩
  refine dO g rfl rfl ?_
  refine dO g rfl rfl ?_
  refine dO g rfl rfl ?_
  refine dO g rfl rfl ?_
  refine dO g rfl rfl ?_
  refine dO g rfl rfl ?_
  refine dS (c := ⟨some 24, .bool true, [(17, .bool (decide (a < (0:Int))))], [], []⟩) (fun t hm => oF rfl rfl (Qi rfl (dk rfl) hm.s0 g rfl rfl)) rfl rfl ?_
  refine Yr rfl rfl rfl rfl rfl rfl ?_
  refine dO rfl rfl rfl ?_
  refine dO rfl rfl rfl ?_
  refine dO rfl rfl rfl ?_
  refine DG.gone rfl rfl rfl rfl rfl rfl ?_
  refine DG.gone rfl rfl rfl rfl rfl rfl ?_
  refine DG.gone rfl rfl rfl rfl rfl rfl ?_
  refine DG.gone rfl rfl rfl rfl rfl rfl ?_
  refine DG.gone rfl rfl rfl rfl rfl rfl ?_
  refine DG.gone rfl rfl rfl rfl rfl rfl ?_
  refine DG.gone rfl rfl rfl rfl rfl rfl ?_
  refine DG.gone rfl rfl rfl rfl rfl rfl ?_
  refine DG.gone rfl rfl rfl rfl rfl rfl ?_
  refine DG.gone rfl rfl rfl rfl rfl rfl ?_
  refine dO rfl rfl rfl ?_
  refine dS (c := ⟨some 40, .bool true, [(25, .bool true)], [], []⟩) (fun t hm => oF rfl rfl (Qi rfl (dk rfl) hm.s0 rfl rfl rfl)) rfl rfl ?_
  refine Y4 (s1 := ⟨[(0, .sl flx0 1 (mI x0)), (1, .int .i64 x1), (5, .int .i64 b), (18, .tup []), (19, .tup []), (20, .tup []), (21, .tup []), (22, .tup []), (23, .tup []), (26, .tup []), (27, .tup []), (28, .tup []), (29, .tup []), (30, .tup []), (31, .tup []), (32, .tup []), (33, .tup []), (34, .tup []), (35, .tup []), (36, .tup []), (37, .tup []), (38, .tup []), (39, .tup []), (40, .bool true)], []⟩) (ms := [0, 0, 3, 7, 15, 31, 63, 63, 255, 511, 63, 2047, 4095, 8191, 16383, 32767, 65535, 131071, 131071, 393215, 1048575, 2097151, 131071, 131071, 12713983, 29491199, 67108863, 134217727, 268435455]) Q7 rfl (by kernel_rfl) (by kernel_rfl) (by kernel_rfl) (sf rfl) rfl (fun u hu => (tN (Qc hu ?_)))
  refine Qk rfl rfl ?_
  refine Qc ?_ (Wb K h)
  exact tq rfl rfl
  refine dS (c := ⟨some 18, .sl flx0 1 (mI x0), [(0, .sl flx0 1 (mI x0)), (17, .bool (decide (a < (0:Int))))], [], []⟩) (fun t hm => oN rfl rfl rfl hm.s1 g (OpT.move rfl (dk rfl) hm.s0 rfl)) rfl rfl ?_
  refine dS (c := ⟨some 19, .int .i64 b, [(5, .int .i64 b), (17, .bool (decide (a < (0:Int))))], [], []⟩) (fun t hm => oN rfl rfl rfl hm.s1 g (OpT.move rfl (dk rfl) hm.s0 rfl)) rfl rfl ?_
  refine dS (c := ⟨some 20, .ref [.int .i64 a], [(18, .sl flx0 1 (mI x0)), (19, .int .i64 b), (17, .bool (decide (a < (0:Int))))], [], []⟩) (fun t hm => oN rfl rfl rfl hm.s2 g (Qh (xs := x0) (f := (cI .i64)) (v := a) rfl (dk rfl) Yd i3 hm.s0 hm.s1 m rfl)) rfl rfl ?_
  refine dS (c := ⟨some 21, .int .i64 a, [(20, .ref [.int .i64 a]), (17, .bool (decide (a < (0:Int))))], [], []⟩) (fun t hm => oN rfl rfl rfl hm.s1 g (Qr rfl (dk rfl) ul3 rfl hm.s0 rfl rfl)) rfl rfl ?_
  refine dS (c := ⟨some 22, .int .i64 x1, [(1, .int .i64 x1), (17, .bool (decide (a < (0:Int))))], [], []⟩) (fun t hm => oN rfl rfl rfl hm.s1 g (OpT.move rfl (dk rfl) hm.s0 rfl)) rfl rfl ?_
  refine dS (c := ⟨some 23, .bool (decide (a ≥ x1)), [(21, .int .i64 a), (22, .int .i64 x1), (17, .bool (decide (a < (0:Int))))], [], []⟩) (fun t hm => oN rfl rfl rfl hm.s2 g (Qa rfl rfl (dk rfl) hm.s0 hm.s1 rfl)) rfl rfl ?_
  refine dS (c := ⟨some 24, .bool (decide (a ≥ x1)), [(17, .bool (decide (a < (0:Int)))), (23, .bool (decide (a ≥ x1)))], [], []⟩) (fun t hm => oF rfl rfl (Qs rfl (dk rfl) hm.s0 g hm.s1 rfl)) rfl rfl ?_
  refine Yr rfl rfl rfl rfl rfl rfl ?_
  rcases Qd h with ⟨j, h⟩ | ⟨j, h⟩
  refine dO j rfl rfl ?_
  refine dO j rfl rfl ?_
  refine dO j rfl rfl ?_
  refine DG.gone rfl rfl rfl rfl rfl rfl ?_
  refine DG.gone rfl rfl rfl rfl rfl rfl ?_
  refine DG.gone rfl rfl rfl rfl rfl rfl ?_
  refine DG.gone rfl rfl rfl rfl rfl rfl ?_
  refine DG.gone rfl rfl rfl rfl rfl rfl ?_
  refine DG.gone rfl rfl rfl rfl rfl rfl ?_
  refine DG.gone rfl rfl rfl rfl rfl rfl ?_
  refine DG.gone rfl rfl rfl rfl rfl rfl ?_
  refine DG.gone rfl rfl rfl rfl rfl rfl ?_
  refine DG.gone rfl rfl rfl rfl rfl rfl ?_
  refine dO j rfl rfl ?_
  refine dS (c := ⟨some 40, .bool true, [(25, .bool (decide (a ≥ x1)))], [], []⟩) (fun t hm => oF rfl rfl (Qi rfl (dk rfl) hm.s0 j rfl rfl)) rfl rfl ?_
  refine Y4 (s1 := ⟨[(0, .sl flx0 1 (mI x0)), (1, .int .i64 x1), (5, .int .i64 b), (18, .sl flx0 1 (mI x0)), (19, .int .i64 b), (20, .ref [.int .i64 a]), (21, .int .i64 a), (22, .int .i64 x1), (23, .bool (decide (a ≥ x1))), (26, .tup []), (27, .tup []), (28, .tup []), (29, .tup []), (30, .tup []), (31, .tup []), (32, .tup []), (33, .tup []), (34, .tup []), (35, .tup []), (36, .tup []), (37, .tup []), (38, .tup []), (39, .tup []), (40, .bool true)], []⟩) (ms := [0, 0, 3, 7, 15, 31, 63, 63, 255, 511, 63, 2047, 4095, 8191, 16383, 32767, 65535, 131071, 131071, 393215, 1048575, 2097151, 131071, 131071, 12713983, 29491199, 67108863, 134217727, 268435455]) Q7 rfl (by kernel_rfl) (by kernel_rfl) (by kernel_rfl) (sf rfl) rfl (fun u hu => (tN (Qc hu ?_)))
  refine Qk rfl rfl ?_
  refine Qc ?_ (Wb K h)
  exact tq rfl rfl
  refine dS (c := ⟨some 26, .int .i64 b, [(5, .int .i64 b), (25, .bool (decide (a ≥ x1)))], [], []⟩) (fun t hm => oN rfl rfl rfl hm.s1 j (OpT.move rfl (dk rfl) hm.s0 rfl)) rfl rfl ?_
  refine dS (c := ⟨some 27, .bool (decide (b > (0:Int))), [(26, .int .i64 b), (25, .bool (decide (a ≥ x1)))], [], []⟩) (fun t hm => oN rfl rfl rfl hm.s1 j (Qa rfl rfl (dk rfl) hm.s0 rfl rfl)) rfl rfl ?_
  refine dS (c := ⟨some 28, .bool (decide (b > (0:Int))), [(27, .bool (decide (b > (0:Int)))), (25, .bool (decide (a ≥ x1)))], [], []⟩) (fun t hm => oN rfl rfl rfl hm.s1 j (OpT.move rfl (dk rfl) hm.s0 rfl)) rfl rfl ?_
  rcases Qd h with ⟨d, h⟩ | ⟨d, h⟩
  refine dS (c := ⟨some 29, .sl flx0 1 (mI x0), [(0, .sl flx0 1 (mI x0)), (28, .bool (decide (b > (0:Int))))], [], []⟩) (fun t hm => oN rfl rfl rfl hm.s1 d (OpT.move rfl (dk rfl) hm.s0 rfl)) rfl rfl ?_
  refine dS (c := ⟨some 30, .int .i64 b, [(5, .int .i64 b), (28, .bool (decide (b > (0:Int))))], [], []⟩) (fun t hm => oN rfl rfl rfl hm.s1 d (OpT.move rfl (dk rfl) hm.s0 rfl)) rfl rfl ?_
  refine dS (c := ⟨some 31, .int .i64 (wI (b - (1:Int))), [(30, .int .i64 b), (28, .bool (decide (b > (0:Int))))], [], []⟩) (fun t hm => oN rfl rfl rfl hm.s1 d (Qa rfl rfl (dk rfl) hm.s0 rfl rfl)) rfl rfl ?_
  obtain ⟨i, q, h⟩ := bind_some h
  refine dS (c := ⟨some 32, .ref [.int .i64 i], [(29, .sl flx0 1 (mI x0)), (31, .int .i64 (wI (b - (1:Int)))), (28, .bool (decide (b > (0:Int))))], [], []⟩) (fun t hm => oN rfl rfl rfl hm.s2 d (Qh (xs := x0) (f := (cI .i64)) (v := i) rfl (dk rfl) Yd i3 hm.s0 hm.s1 q rfl)) rfl rfl ?_
  refine dS (c := ⟨some 33, .int .i64 i, [(32, .ref [.int .i64 i]), (28, .bool (decide (b > (0:Int))))], [], []⟩) (fun t hm => oN rfl rfl rfl hm.s1 d (Qr rfl (dk rfl) ul3 rfl hm.s0 rfl rfl)) rfl rfl ?_
  refine dS (c := ⟨some 34, .sl flx0 1 (mI x0), [(0, .sl flx0 1 (mI x0)), (28, .bool (decide (b > (0:Int))))], [], []⟩) (fun t hm => oN rfl rfl rfl hm.s1 d (OpT.move rfl (dk rfl) hm.s0 rfl)) rfl rfl ?_
  refine dS (c := ⟨some 35, .int .i64 b, [(5, .int .i64 b), (28, .bool (decide (b > (0:Int))))], [], []⟩) (fun t hm => oN rfl rfl rfl hm.s1 d (OpT.move rfl (dk rfl) hm.s0 rfl)) rfl rfl ?_
  refine dS (c := ⟨some 36, .ref [.int .i64 a], [(34, .sl flx0 1 (mI x0)), (35, .int .i64 b), (28, .bool (decide (b > (0:Int))))], [], []⟩) (fun t hm => oN rfl rfl rfl hm.s2 d (Qh (xs := x0) (f := (cI .i64)) (v := a) rfl (dk rfl) Yd i3 hm.s0 hm.s1 m rfl)) rfl rfl ?_
  refine dS (c := ⟨some 37, .int .i64 a, [(36, .ref [.int .i64 a]), (28, .bool (decide (b > (0:Int))))], [], []⟩) (fun t hm => oN rfl rfl rfl hm.s1 d (Qr rfl (dk rfl) ul3 rfl hm.s0 rfl rfl)) rfl rfl ?_
  refine dS (c := ⟨some 38, .bool (decide (i ≥ a)), [(33, .int .i64 i), (37, .int .i64 a), (28, .bool (decide (b > (0:Int))))], [], []⟩) (fun t hm => oN rfl rfl rfl hm.s2 d (Qa rfl rfl (dk rfl) hm.s0 hm.s1 rfl)) rfl rfl ?_
  refine dS (c := ⟨some 39, .bool (decide (i ≥ a)), [(28, .bool (decide (b > (0:Int)))), (38, .bool (decide (i ≥ a))), (25, .bool (decide (a ≥ x1)))], [], []⟩) (fun t hm => oN rfl rfl rfl hm.s2 j (Qi rfl (dk rfl) hm.s0 d hm.s1 rfl)) rfl rfl ?_
  refine dS (c := ⟨some 40, .bool (decide (i ≥ a)), [(25, .bool (decide (a ≥ x1))), (39, .bool (decide (i ≥ a)))], [], []⟩) (fun t hm => oF rfl rfl (Qs rfl (dk rfl) hm.s0 j hm.s1 rfl)) rfl rfl ?_
  refine Y4 (s1 := ⟨[(0, .sl flx0 1 (mI x0)), (1, .int .i64 x1), (5, .int .i64 b), (18, .sl flx0 1 (mI x0)), (19, .int .i64 b), (20, .ref [.int .i64 a]), (21, .int .i64 a), (22, .int .i64 x1), (23, .bool (decide (a ≥ x1))), (26, .int .i64 b), (27, .bool (decide (b > (0:Int)))), (28, .bool (decide (b > (0:Int)))), (29, .sl flx0 1 (mI x0)), (30, .int .i64 b), (31, .int .i64 (wI (b - (1:Int)))), (32, .ref [.int .i64 i]), (33, .int .i64 i), (34, .sl flx0 1 (mI x0)), (35, .int .i64 b), (36, .ref [.int .i64 a]), (37, .int .i64 a), (38, .bool (decide (i ≥ a))), (39, .bool (decide (i ≥ a))), (40, .bool (decide (i ≥ a)))], []⟩) (ms := [0, 0, 3, 7, 15, 31, 63, 63, 255, 511, 63, 2047, 4095, 8191, 16383, 32767, 65535, 131071, 131071, 393215, 1048575, 2097151, 131071, 131071, 12713983, 29491199, 67108863, 134217727, 268435455]) Q7 rfl (by kernel_rfl) (by kernel_rfl) (by kernel_rfl) (sf rfl) rfl (fun u hu => (tN (Qc hu ?_)))
  rcases Qd h with ⟨p, h⟩ | ⟨p, h⟩
  refine Qk rfl p ?_
  refine Qc ?_ (Wb K h)
  exact tq rfl rfl
  refine Qo rfl p ?_
  refine T.skip (Qe (tN ?_))
  refine Qq ?_
  refine mw rfl ?_
  refine sp rfl (Qa rfl rfl (dk rfl) rfl rfl ?_)
  refine aw rfl ?_
  refine TL'.nil (tN ?_)
  refine Qb ?_ (ih x0 x1 (wI (b + (1:Int))) flx0 h)
  exact tq rfl rfl
  refine dO d rfl rfl ?_
  refine dO d rfl rfl ?_
  refine dO d rfl rfl ?_
  refine dO d rfl rfl ?_
  refine dO d rfl rfl ?_
  refine dO d rfl rfl ?_
  refine dO d rfl rfl ?_
  refine dO d rfl rfl ?_
  refine dO d rfl rfl ?_
  refine dO d rfl rfl ?_
  refine dS (c := ⟨some 39, .bool false, [(28, .bool (decide (b > (0:Int)))), (25, .bool (decide (a ≥ x1)))], [], []⟩) (fun t hm => oN rfl rfl rfl hm.s1 j (Qs rfl (dk rfl) hm.s0 d rfl rfl)) rfl rfl ?_
  refine dS (c := ⟨some 40, .bool false, [(25, .bool (decide (a ≥ x1))), (39, .bool false)], [], []⟩) (fun t hm => oF rfl rfl (Qs rfl (dk rfl) hm.s0 j hm.s1 rfl)) rfl rfl ?_
  refine Y4 (s1 := ⟨[(0, .sl flx0 1 (mI x0)), (1, .int .i64 x1), (5, .int .i64 b), (18, .sl flx0 1 (mI x0)), (19, .int .i64 b), (20, .ref [.int .i64 a]), (21, .int .i64 a), (22, .int .i64 x1), (23, .bool (decide (a ≥ x1))), (26, .int .i64 b), (27, .bool (decide (b > (0:Int)))), (28, .bool (decide (b > (0:Int)))), (29, .tup []), (30, .tup []), (31, .tup []), (32, .tup []), (33, .tup []), (34, .tup []), (35, .tup []), (36, .tup []), (37, .tup []), (38, .tup []), (39, .bool false), (40, .bool false)], []⟩) (ms := [0, 0, 3, 7, 15, 31, 63, 63, 255, 511, 63, 2047, 4095, 8191, 16383, 32767, 65535, 131071, 131071, 393215, 1048575, 2097151, 131071, 131071, 12713983, 29491199, 67108863, 134217727, 268435455]) Q7 rfl (by kernel_rfl) (by kernel_rfl) (by kernel_rfl) (sf rfl) rfl (fun u hu => (tN (Qc hu ?_)))
  refine Qo rfl rfl ?_
  refine T.skip (Qe (tN ?_))
  refine Qq ?_
  refine mw rfl ?_
  refine sp rfl (Qa rfl rfl (dk rfl) rfl rfl ?_)
  refine aw rfl ?_
  refine TL'.nil (tN ?_)
  refine Qb ?_ (ih x0 x1 (wI (b + (1:Int))) flx0 h)
  exact tq rfl rfl
  refine Qo rfl l ?_
  refine T.exit (Qf (Qf (Qp (tN ?_))))
  refine T.seq (Qq ?_)
  refine aw rfl ?_
  refine TL'.nil (tN ?_)
  refine T.ret ?_
  exact Fin.done (.cons _ _ _ _ (.tmp 4 _ rfl) .nil) (by cases h; exact ⟨rfl, rfl⟩)
theorem Bi (K : Nat) {x0 : List Int} {x1 : Int} {flx0 r : Bool} (h : W0 K x0 x1 = some r) : Zt tp 68 [.sl flx0 1 (mI x0), .int .i64 x1] [] (.bool r) := by
 refine Qt Try.func68 rfl (nb rfl) ?_
 show T tp 41 (ca [] Try.f68) ⟨Qv 0 [.sl flx0 1 (mI x0), .int .i64 x1], []⟩ (Ht r)
 unfold W0 at h
 refine T.seq (Qq ?_)
 refine aw rfl ?_
 refine TL'.nil (tN ?_)
 refine T.seq ?_
 refine T.seq (Qq ?_)
 refine aw rfl ?_
 refine TL'.nil (tN ?_)
 refine T.block ?_
 refine T.loop ?_
 refine Qb ?_ (Ft K K x0 x1 (0:Int) flx0 h)
 exact tq rfl rfl
abbrev V2 (r : Bool) : ES := Jk tp Try.f48 (fun y t => y = (.bool r) ∧ t = [])
abbrev Fu (r : Bool) : ES := thenS (fun s' => T tp 70 (ca [1,1] Try.f48) s' ((V2 r))) ((V2 r))
abbrev Em (r : Bool) : ES := thenS (fun s' => T tp 70 (ca [1,1,1] Try.f48) s' ((V2 r))) ((V2 r))
abbrev Us (r : Bool) : ES := Qz 0 ((Em r))
abbrev Hj (r : Bool) : ES := thenS (fun s' => TL tp 70 (ca [1,1,0,1,0,0] Try.f48) s' ((Us r))) ((Us r))
abbrev Mu (r : Bool) : ES := thenS (fun s' => T tp 70 (ca [1,1,0,1,0,0,1,1] Try.f48) s' ((Hj r))) ((Hj r))
abbrev Ld (r : Bool) : ES := Qz 1 ((Mu r))
theorem Lf {r : Bool} (K : Nat) (h : U3 K = some r) : T tp 70 (ca [1,0,1,0] Try.f48) ⟨[], []⟩ (Fu r) := by
 unfold U3 at h
 refine T.seq (Qq ?_)
 refine aw rfl ?_
 refine TL'.nil (tN ?_)
 refine T.ret (Ql ?_)
 exact Fin.done (.cons _ _ _ _ (.tmp 2 _ rfl) .nil) (by cases h; exact ⟨rfl, rfl⟩)
theorem Ym {r : Bool} (K : Nat) (h : Z5 K = some r) : T tp 70 (ca [1,1,0,1,0,0,1,0,0,1,1,0] Try.f48) ⟨[], []⟩ (Ld r) := by
 unfold Z5 at h
 refine T.seq (Qq ?_)
 refine aw rfl ?_
 refine TL'.nil (tN ?_)
 refine T.ret (Qy (Ql (Ql (Qy (Ql ?_)))))
 exact Fin.done (.cons _ _ _ _ (.tmp 2 _ rfl) .nil) (by cases h; exact ⟨rfl, rfl⟩)
theorem Fv {r : Bool} (K : Nat) : ∀ (k : Nat), ∀ (u : Int) (x0 : Xn) (w : Nat), U2 K k u x0 = some r → TL tp 70 (ca [1,1,0,1,0,0] Try.f48) ⟨[(1, .ptr w 0), (3, .int .i64 u)], [(b71x7 w x0.First x0.P)]⟩ (Us r) := by
 intro k
 induction k with
 | zero =>
  intro u x0 w h
  cases (show (none : Option Bool) = some r from h)
 | succ k ih =>
  intro u x0 w h
  rw [U2] at h
  refine Q4 ?_
  refine T.seq ?_
  refine T.seq (Qq ?_)
  refine mw rfl ?_
  refine sp rfl (Qg rfl (dk rfl) ul71 rfl i69 (by decide) rfl ?_)
  refine sp rfl (Qm (i := 0) rfl (dk rfl) Sk rfl rfl rfl rfl ?_)
  refine sp rfl (Qn (xs := x0.P) (f := Zk) rfl (dk rfl) Sk rfl ?_)
  refine sp rfl (Qa rfl rfl (dk rfl) rfl rfl ?_)
  refine TL'.nil (tN ?_)
  rcases Qd h with ⟨y, h⟩ | ⟨y, h⟩
  refine Qk rfl y ?_
  refine T.skip (tN ?_)
  refine T.seq ?_
  refine T.block ?_
  refine T.seq (Qq ?_)
  refine sp rfl (Qg rfl (dk rfl) ul71 rfl i69 (by decide) rfl ?_)
  refine sp rfl (Qm (i := 0) rfl (dk rfl) Sk rfl rfl rfl rfl ?_)
  refine mw rfl ?_
  obtain ⟨b, ab, h⟩ := bind_some h
  refine sp rfl (Qh (xs := x0.P) (f := Zk) (v := b) rfl (dk rfl) Sk i104 rfl rfl ab ?_)
  refine sp rfl (Zj rfl (dk rfl) Ed rfl i104 rfl (nb rfl) ?_)
  refine sp rfl (Zi rfl (dk rfl) i104 rfl (fun ad => ?_))
  refine sp rfl (Q1 (i := 0) (cells' := [.d (.int .u64 b.S.a0), .d (.int .u64 b.S.a1), .d (.int .u64 b.S.a2), .d (.int .u64 b.S.a3), .d (.int .i64 b.Lo), .d (.int .i64 b.Hi), .d (.int .i64 b.Rule), .d (.bool b.Last), .d (.sl false 1 (mI b.Next))]) rfl rfl i104 rfl rfl rfl rfl (nb rfl) rfl ?_)
  refine TL'.nil (tN (T.seq (Qq ?_)))
  refine sp rfl (Qg rfl (dk rfl) Ed rfl i102 (by decide) rfl ?_)
  refine sp rfl (Ze (i := 0) (l := (Zu.dc .u64 b.S)) rfl (dk rfl) Cw rfl i102 rfl rfl rfl rfl ?_)
  refine sp rfl (OpT.build (l := (Zu.dc .u64 (Zu.mk 0 0 0 0))) rfl (dk rfl) (Nh Cw i102 i100) (J6 rfl) rfl rfl ?_)
  refine sp rfl (OpT.intsEql (k := .u64) (xs := [b.S.a0, b.S.a1, b.S.a2, b.S.a3]) (ys := [(Zu.mk 0 0 0 0).a0, (Zu.mk 0 0 0 0).a1, (Zu.mk 0 0 0 0).a2, (Zu.mk 0 0 0 0).a3]) rfl (dk rfl) Cw ul100 i100 Try.eqGuardType102 rfl rfl rfl rfl rfl rfl (Zu.same_eq b.S (Zu.mk 0 0 0 0)) ?_)
  refine mw rfl ?_
  rcases Qd h with ⟨j, h⟩ | ⟨j, h⟩
  refine pf rfl j ?_
  refine pf rfl j ?_
  refine pf rfl j ?_
  refine sp rfl (Qi rfl (dk rfl) rfl j rfl ?_)
  refine mw rfl ?_
  refine pf rfl rfl ?_
  refine pf rfl rfl ?_
  refine pf rfl rfl ?_
  refine pf rfl rfl ?_
  refine pf rfl rfl ?_
  refine sp rfl (Qi rfl (dk rfl) rfl rfl rfl ?_)
  refine mw rfl ?_
  refine pf rfl rfl ?_
  refine pf rfl rfl ?_
  refine pf rfl rfl ?_
  refine sp rfl (Qi rfl (dk rfl) rfl rfl rfl ?_)
  refine mw rfl ?_
  refine pf rfl rfl ?_
  refine pf rfl rfl ?_
  refine pf rfl rfl ?_
  refine sp rfl (Qi rfl (dk rfl) rfl rfl rfl ?_)
  refine mw rfl ?_
  refine pf rfl rfl ?_
  refine pf rfl rfl ?_
  refine pf rfl rfl ?_
  refine sp rfl (Qi rfl (dk rfl) rfl rfl rfl ?_)
  refine mw rfl ?_
  refine pf rfl rfl ?_
  refine pf rfl rfl ?_
  refine pf rfl rfl ?_
  refine pf rfl rfl ?_
  refine pf rfl rfl ?_
  refine pf rfl rfl ?_
  refine pf rfl rfl ?_
  refine sp rfl (Qi rfl (dk rfl) rfl rfl rfl ?_)
  refine TL'.nil (tN ?_)
  refine Qk rfl rfl ?_
  refine Qc ?_ (Ym K h)
  exact tq rfl rfl
  refine sn rfl j (Qg rfl (dk rfl) Ed rfl i3 (by decide) rfl ?_)
  refine sn rfl j (Qm (i := 0) rfl (dk rfl) ul3 rfl rfl rfl rfl ?_)
  refine sn rfl j (Qa rfl rfl (dk rfl) rfl rfl ?_)
  refine sp rfl (Qs rfl (dk rfl) rfl j rfl ?_)
  refine mw rfl ?_
  rcases Qd h with ⟨g, h⟩ | ⟨g, h⟩
  refine pf rfl g ?_
  refine pf rfl g ?_
  refine pf rfl g ?_
  refine pf rfl g ?_
  refine pf rfl g ?_
  refine sp rfl (Qi rfl (dk rfl) rfl g rfl ?_)
  refine mw rfl ?_
  refine pf rfl rfl ?_
  refine pf rfl rfl ?_
  refine pf rfl rfl ?_
  refine sp rfl (Qi rfl (dk rfl) rfl rfl rfl ?_)
  refine mw rfl ?_
  refine pf rfl rfl ?_
  refine pf rfl rfl ?_
  refine pf rfl rfl ?_
  refine sp rfl (Qi rfl (dk rfl) rfl rfl rfl ?_)
  refine mw rfl ?_
  refine pf rfl rfl ?_
  refine pf rfl rfl ?_
  refine pf rfl rfl ?_
  refine sp rfl (Qi rfl (dk rfl) rfl rfl rfl ?_)
  refine mw rfl ?_
  refine pf rfl rfl ?_
  refine pf rfl rfl ?_
  refine pf rfl rfl ?_
  refine pf rfl rfl ?_
  refine pf rfl rfl ?_
  refine pf rfl rfl ?_
  refine pf rfl rfl ?_
  refine sp rfl (Qi rfl (dk rfl) rfl rfl rfl ?_)
  refine TL'.nil (tN ?_)
  refine Qk rfl rfl ?_
  refine Qc ?_ (Ym K h)
  exact tq rfl rfl
  refine sn rfl g (Qg rfl (dk rfl) Ed rfl i3 (by decide) rfl ?_)
  refine sn rfl g (Qm (i := 0) rfl (dk rfl) ul3 rfl rfl rfl rfl ?_)
  refine sn rfl g (Qg rfl (dk rfl) Ed rfl i3 (by decide) rfl ?_)
  refine sn rfl g (Qm (i := 0) rfl (dk rfl) ul3 rfl rfl rfl rfl ?_)
  refine sn rfl g (Qa rfl rfl (dk rfl) rfl rfl ?_)
  refine sp rfl (Qs rfl (dk rfl) rfl g rfl ?_)
  refine mw rfl ?_
  rcases Qd h with ⟨m, h⟩ | ⟨m, h⟩
  refine pf rfl m ?_
  refine pf rfl m ?_
  refine pf rfl m ?_
  refine sp rfl (Qi rfl (dk rfl) rfl m rfl ?_)
  refine mw rfl ?_
  refine pf rfl rfl ?_
  refine pf rfl rfl ?_
  refine pf rfl rfl ?_
  refine sp rfl (Qi rfl (dk rfl) rfl rfl rfl ?_)
  refine mw rfl ?_
  refine pf rfl rfl ?_
  refine pf rfl rfl ?_
  refine pf rfl rfl ?_
  refine sp rfl (Qi rfl (dk rfl) rfl rfl rfl ?_)
  refine mw rfl ?_
  refine pf rfl rfl ?_
  refine pf rfl rfl ?_
  refine pf rfl rfl ?_
  refine pf rfl rfl ?_
  refine pf rfl rfl ?_
  refine pf rfl rfl ?_
  refine pf rfl rfl ?_
  refine sp rfl (Qi rfl (dk rfl) rfl rfl rfl ?_)
  refine TL'.nil (tN ?_)
  refine Qk rfl rfl ?_
  refine Qc ?_ (Ym K h)
  exact tq rfl rfl
  refine sn rfl m (Qg rfl (dk rfl) Ed rfl i3 (by decide) rfl ?_)
  refine sn rfl m (Qm (i := 0) rfl (dk rfl) ul3 rfl rfl rfl rfl ?_)
  refine sn rfl m (Qa rfl rfl (dk rfl) rfl rfl ?_)
  refine sp rfl (Qs rfl (dk rfl) rfl m rfl ?_)
  refine mw rfl ?_
  rcases Qd h with ⟨p, h⟩ | ⟨p, h⟩
  refine pf rfl p ?_
  refine pf rfl p ?_
  refine pf rfl p ?_
  refine sp rfl (Qi rfl (dk rfl) rfl p rfl ?_)
  refine mw rfl ?_
  refine pf rfl rfl ?_
  refine pf rfl rfl ?_
  refine pf rfl rfl ?_
  refine sp rfl (Qi rfl (dk rfl) rfl rfl rfl ?_)
  refine mw rfl ?_
  refine pf rfl rfl ?_
  refine pf rfl rfl ?_
  refine pf rfl rfl ?_
  refine pf rfl rfl ?_
  refine pf rfl rfl ?_
  refine pf rfl rfl ?_
  refine pf rfl rfl ?_
  refine sp rfl (Qi rfl (dk rfl) rfl rfl rfl ?_)
  refine TL'.nil (tN ?_)
  refine Qk rfl rfl ?_
  refine Qc ?_ (Ym K h)
  exact tq rfl rfl
  refine sn rfl p (Qg rfl (dk rfl) Ed rfl i3 (by decide) rfl ?_)
  refine sn rfl p (Qm (i := 0) rfl (dk rfl) ul3 rfl rfl rfl rfl ?_)
  refine sn rfl p (Qa rfl rfl (dk rfl) rfl rfl ?_)
  refine sp rfl (Qs rfl (dk rfl) rfl p rfl ?_)
  refine mw rfl ?_
  rcases Qd h with ⟨q, h⟩ | ⟨q, h⟩
  refine pf rfl q ?_
  refine pf rfl q ?_
  refine pf rfl q ?_
  refine sp rfl (Qi rfl (dk rfl) rfl q rfl ?_)
  refine mw rfl ?_
  refine pf rfl rfl ?_
  refine pf rfl rfl ?_
  refine pf rfl rfl ?_
  refine pf rfl rfl ?_
  refine pf rfl rfl ?_
  refine pf rfl rfl ?_
  refine pf rfl rfl ?_
  refine sp rfl (Qi rfl (dk rfl) rfl rfl rfl ?_)
  refine TL'.nil (tN ?_)
  refine Qk rfl rfl ?_
  refine Qc ?_ (Ym K h)
  exact tq rfl rfl
  refine sn rfl q (Qg rfl (dk rfl) Ed rfl i3 (by decide) rfl ?_)
  refine sn rfl q (Qm (i := 0) rfl (dk rfl) ul3 rfl rfl rfl rfl ?_)
  refine sn rfl q (Qa rfl rfl (dk rfl) rfl rfl ?_)
  refine sp rfl (Qs rfl (dk rfl) rfl q rfl ?_)
  refine mw rfl ?_
  rcases Qd h with ⟨a, h⟩ | ⟨a, h⟩
  refine pf rfl a ?_
  refine pf rfl a ?_
  refine pf rfl a ?_
  refine pf rfl a ?_
  refine pf rfl a ?_
  refine pf rfl a ?_
  refine pf rfl a ?_
  refine sp rfl (Qi rfl (dk rfl) rfl a rfl ?_)
  refine TL'.nil (tN ?_)
  refine Qk rfl rfl ?_
  refine Qc ?_ (Ym K h)
  exact tq rfl rfl
  refine sn rfl a (Qg rfl (dk rfl) Ed rfl i56 (by decide) rfl ?_)
  refine sn rfl a (Qm (i := 0) rfl (dk rfl) Yd rfl rfl rfl rfl ?_)
  refine sn rfl a (Qg rfl (dk rfl) ul71 rfl i69 (by decide) rfl ?_)
  refine sn rfl a (Qm (i := 1) rfl (dk rfl) Sk rfl rfl rfl rfl ?_)
  refine sn rfl a (Qn (xs := x0.P) (f := Zk) rfl (dk rfl) Sk rfl ?_)
  obtain ⟨af, ac, h⟩ := bind_some h
  refine sn rfl a (Q5 rfl (dk rfl) Try.func68 rfl rfl (Q3.cons rfl (Q3.cons rfl Q3.nil)) (Zt.nil (Bi K (flx0 := false) ac)) ?_)
  refine sn rfl a (OpT.not rfl (dk rfl) rfl ?_)
  refine sp rfl (Qs rfl (dk rfl) rfl a rfl ?_)
  refine TL'.nil (tN ?_)
  rcases Qd h with ⟨aa, h⟩ | ⟨aa, h⟩
  refine Qk rfl aa ?_
  refine Qc ?_ (Ym K h)
  exact tq rfl rfl
  refine Qo rfl aa ?_
  refine T.skip (Qe (tN ?_))
  refine Qq ?_
  refine mw rfl ?_
  refine sp rfl (Qa rfl rfl (dk rfl) rfl rfl ?_)
  refine aw rfl ?_
  refine TL'.nil (tN ?_)
  refine Qb ?_ (ih (wI (u + (1:Int))) x0 w h)
  exact tr rfl (.c (.s .z) (.n _))
  refine Qo rfl y ?_
  refine T.exit (Qf (Qf (Qp (tN ?_))))
  refine T.seq (Qq ?_)
  refine aw rfl ?_
  refine TL'.nil (tN ?_)
  refine T.ret ?_
  exact Fin.done (.cons _ _ _ _ (.tmp 2 _ rfl) .nil) (by cases h; exact ⟨rfl, rfl⟩)
theorem Pm (K : Nat) {x0 : Xn} {r : Bool} (h : Lr K x0 = some r) : Zt tp 48 [.agg [.sl false 1 (mI x0.First), .sl false 9 (x0.P.map Zk)]] [] (.bool r) := by
 refine Qt Try.func48 rfl (nb rfl) ?_
 show T tp 70 (ca [] Try.f48) ⟨Qv 0 [.agg [.sl false 1 (mI x0.First), .sl false 9 (x0.P.map Zk)]], []⟩ (V2 r)
 unfold Lr at h
 refine T.seq (Qq ?_)
 refine sp rfl (Zg rfl (dk rfl) rfl (fun d => ?_))
 refine aw rfl ?_
 refine TL'.nil (tN ?_)
 refine T.seq ?_
 refine T.seq (Qq ?_)
 refine sp rfl (Qg rfl (dk rfl) ul71 rfl i69 (by decide) rfl ?_)
 refine sp rfl (Qm (i := 0) rfl (dk rfl) Sk rfl rfl rfl rfl ?_)
 refine sp rfl (Qn (xs := x0.P) (f := Zk) rfl (dk rfl) Sk rfl ?_)
 refine sp rfl (Qa rfl rfl (dk rfl) rfl rfl ?_)
 refine mw rfl ?_
 rcases Qd h with ⟨a, h⟩ | ⟨a, h⟩
 refine pf rfl a ?_
 refine pf rfl a ?_
 refine pf rfl a ?_
 refine pf rfl a ?_
 refine pf rfl a ?_
 refine pf rfl a ?_
 refine pf rfl a ?_
 refine sp rfl (Qi rfl (dk rfl) rfl a rfl ?_)
 refine TL'.nil (tN ?_)
 refine Qk rfl rfl ?_
 refine Qc ?_ (Lf K h)
 exact tq rfl rfl
 refine sn rfl a (Qg rfl (dk rfl) ul71 rfl i56 (by decide) rfl ?_)
 refine sn rfl a (Qm (i := 0) rfl (dk rfl) Yd rfl rfl rfl rfl ?_)
 refine sn rfl a (Qg rfl (dk rfl) ul71 rfl i69 (by decide) rfl ?_)
 refine sn rfl a (Qm (i := 0) rfl (dk rfl) Sk rfl rfl rfl rfl ?_)
 refine sn rfl a (Qn (xs := x0.P) (f := Zk) rfl (dk rfl) Sk rfl ?_)
 obtain ⟨j, g, h⟩ := bind_some h
 refine sn rfl a (Q5 rfl (dk rfl) Try.func68 rfl rfl (Q3.cons rfl (Q3.cons rfl Q3.nil)) (Zt.nil (Bi K (flx0 := false) g)) ?_)
 refine sn rfl a (OpT.not rfl (dk rfl) rfl ?_)
 refine sp rfl (Qs rfl (dk rfl) rfl a rfl ?_)
 refine TL'.nil (tN ?_)
 rcases Qd h with ⟨b, h⟩ | ⟨b, h⟩
 refine Qk rfl b ?_
 refine Qc ?_ (Lf K h)
 exact tq rfl rfl
 refine Qo rfl b ?_
 refine T.skip (tN ?_)
 refine T.seq ?_
 refine T.seq (Qq ?_)
 refine aw rfl ?_
 refine TL'.nil (tN ?_)
 refine T.block ?_
 refine T.loop ?_
 refine Qb ?_ (Fv K K (0:Int) x0 d h)
 exact tq rfl rfl
abbrev Sy (r : Bool) : ES := Jk tp Try.f72 (fun y t => y = (.bool r) ∧ t = [])
theorem Jc (K : Nat) {x0 : Zu} {x1 : Int} {r : Bool} (h : V5 K x0 x1 = some r) : Zt tp 72 [.agg (Zu.dc .u64 x0), .int .u8 x1] [] (.bool r) := by
 refine Qt Try.func72 rfl (nb rfl) ?_
 show T tp 14 (ca [] Try.f72) ⟨Qv 0 [.agg (Zu.dc .u64 x0), .int .u8 x1], []⟩ (Sy r)
 unfold V5 at h
 refine T.seq (Qq ?_)
 refine sp rfl (Zg rfl (dk rfl) rfl (fun d => ?_))
 refine aw rfl ?_
 refine TL'.nil (tN (T.seq (Qq ?_)))
 refine mw rfl ?_
 refine sp rfl (OpT.quo rfl (dk rfl) rfl rfl (by decide) ?_)
 obtain ⟨b, h⟩ := Zh h
 refine sp rfl (Zx rfl (dk rfl) Cw i100 rfl rfl b.1 b.2 ?_)
 refine sp rfl (Qm (i := 0) rfl (dk rfl) ul100 rfl rfl rfl (Qbr (k := .u64) (a := x0) (pre := []) (post := []) b.1 b.2) ?_)
 refine mw rfl ?_
 refine sp rfl (OpT.rem rfl (dk rfl) rfl rfl (by decide) ?_)
 obtain ⟨c, h⟩ := Zh h
 refine sp rfl (OpT.shr rfl (dk rfl) rfl rfl c ?_)
 refine sp rfl (OpT.rem rfl (dk rfl) rfl rfl (by decide) ?_)
 refine sp rfl (Qa rfl rfl (dk rfl) rfl rfl ?_)
 refine aw rfl ?_
 refine TL'.nil (tN ?_)
 refine T.ret ?_
 exact Fin.done (.cons _ _ _ _ (.tmp 4 _ rfl) .nil) (by cases h; exact ⟨rfl, rfl⟩)
abbrev Hu (r : Bool) : ES := Jk tp Try.f69 (fun y t => y = (.bool r) ∧ t = [])
abbrev Fw (r : Bool) : ES := thenS (fun s' => T tp 27 (ca [1,1] Try.f69) s' ((Hu r))) ((Hu r))
abbrev Do (r : Bool) : ES := Qz 0 ((Fw r))
theorem Fx {r : Bool} (K : Nat) : ∀ (k : Nat), ∀ (x0 : List Zu) (x1 x2 b : Int) (flx0 : Bool), U4 K k x0 x1 x2 b = some r → TL tp 27 (ca [1,0,1,0,0] Try.f69) ⟨[(0, .sl flx0 4 (x0.map (Zu.dc .u64))), (1, .int .u8 x1), (2, .int .u8 x2), (7, .int .i64 b)], []⟩ (Do r) := by
 intro k
 induction k with
 | zero =>
  intro x0 x1 x2 b flx0 h
  cases (show (none : Option Bool) = some r from h)
 | succ k ih =>
  intro x0 x1 x2 b flx0 h
  rw [U4] at h
  refine Q4 ?_
  refine T.seq ?_
  refine T.seq (Qq ?_)
  refine mw rfl ?_
  refine mw rfl ?_
  refine sp rfl (Qn (xs := x0) (f := (Zu.dc .u64)) rfl (dk rfl) ul99 rfl ?_)
  refine sp rfl (Qa rfl rfl (dk rfl) rfl rfl ?_)
  refine TL'.nil (tN ?_)
  rcases Qd h with ⟨i, h⟩ | ⟨i, h⟩
  refine Qk rfl i ?_
  refine T.skip (tN ?_)
  refine T.seq ?_
  refine T.block ?_
  refine T.seq ?_
  refine X3 ?_
  refine Yr rfl rfl rfl rfl rfl rfl ?_
  refine Yr rfl rfl rfl rfl rfl rfl ?_
  obtain ⟨a, l, h⟩ := bind_some h
  refine dS (c := ⟨some 16, .ref [.int .u64 a.a0, .int .u64 a.a1, .int .u64 a.a2, .int .u64 a.a3], [(14, .sl flx0 4 (x0.map (Zu.dc .u64))), (15, .int .i64 b)], [], []⟩) (fun t hm => oF rfl rfl (Qh (xs := x0) (f := (Zu.dc .u64)) (v := a) rfl (dk rfl) ul99 i102 hm.s0 hm.s1 l rfl)) rfl rfl ?_
  refine dS (c := ⟨some 17, .agg (Zu.dc .u64 a), [(16, .ref [.int .u64 a.a0, .int .u64 a.a1, .int .u64 a.a2, .int .u64 a.a3])], [], []⟩) (fun t hm => oF rfl rfl (Zj rfl (dk rfl) Cw rfl i102 hm.s0 (nb rfl) rfl)) rfl rfl ?_
  refine Yr rfl rfl rfl rfl rfl rfl ?_
  obtain ⟨d, m, h⟩ := bind_some h
  refine dS (c := ⟨some 19, .bool d, [(17, .agg (Zu.dc .u64 a)), (18, .int .u8 x1)], [], []⟩) (fun t hm => oF rfl rfl (Q5 rfl (dk rfl) Try.func72 rfl rfl (Q3.cons hm.s0 (Q3.cons hm.s1 Q3.nil)) (Zt.nil (Jc K m)) rfl)) rfl rfl ?_
  refine Yr rfl rfl rfl rfl rfl rfl ?_
  refine Yr rfl rfl rfl rfl rfl rfl ?_
  refine dS (c := ⟨some 22, .ref [.int .u64 a.a0, .int .u64 a.a1, .int .u64 a.a2, .int .u64 a.a3], [(20, .sl flx0 4 (x0.map (Zu.dc .u64))), (21, .int .i64 b)], [], []⟩) (fun t hm => oF rfl rfl (Qh (xs := x0) (f := (Zu.dc .u64)) (v := a) rfl (dk rfl) ul99 i102 hm.s0 hm.s1 l rfl)) rfl rfl ?_
  refine dS (c := ⟨some 23, .agg (Zu.dc .u64 a), [(22, .ref [.int .u64 a.a0, .int .u64 a.a1, .int .u64 a.a2, .int .u64 a.a3])], [], []⟩) (fun t hm => oF rfl rfl (Zj rfl (dk rfl) Cw rfl i102 hm.s0 (nb rfl) rfl)) rfl rfl ?_
  refine Yr rfl rfl rfl rfl rfl rfl ?_
  obtain ⟨g, p, h⟩ := bind_some h
  refine dS (c := ⟨some 25, .bool g, [(23, .agg (Zu.dc .u64 a)), (24, .int .u8 x2)], [], []⟩) (fun t hm => oF rfl rfl (Q5 rfl (dk rfl) Try.func72 rfl rfl (Q3.cons hm.s0 (Q3.cons hm.s1 Q3.nil)) (Zt.nil (Jc K p)) rfl)) rfl rfl ?_
  refine dS (c := ⟨some 26, .bool (!(d == g)), [(19, .bool d), (25, .bool g)], [], []⟩) (fun t hm => oF rfl rfl (OpT.bool_neq rfl (dk rfl) ul4 hm.s0 hm.s1 rfl)) rfl rfl ?_
  refine Y4 (s1 := ⟨[(0, .sl flx0 4 (x0.map (Zu.dc .u64))), (1, .int .u8 x1), (2, .int .u8 x2), (7, .int .i64 b), (26, .bool (!(d == g)))], []⟩) (ms := [0, 0, 3, 7, 0, 31, 0, 0, 192, 448, 0, 2047, 4095]) Q7 rfl (by kernel_rfl) (by kernel_rfl) (by kernel_rfl) (sf rfl) rfl (fun u hu => (tN (Qc hu ?_)))
  rcases Qd h with ⟨j, h⟩ | ⟨j, h⟩
  refine Qk rfl j ?_
  refine T.seq (Qq ?_)
  refine aw rfl ?_
  refine TL'.nil (tN ?_)
  refine T.ret (Qy (Ql (Ql (Qy (Ql ?_)))))
  exact Fin.done (.cons _ _ _ _ (.tmp 6 _ rfl) .nil) (by cases h; exact ⟨rfl, rfl⟩)
  refine Qo rfl j ?_
  refine T.skip (Qe (tN ?_))
  refine Qq ?_
  refine mw rfl ?_
  refine sp rfl (Qa rfl rfl (dk rfl) rfl rfl ?_)
  refine aw rfl ?_
  refine TL'.nil (tN ?_)
  refine Qb ?_ (ih x0 x1 x2 (wI (b + (1:Int))) flx0 h)
  exact tq rfl rfl
  refine Qo rfl i ?_
  refine T.exit (Qf (Qf (Qp (tN ?_))))
  refine T.seq (Qq ?_)
  refine aw rfl ?_
  refine TL'.nil (tN ?_)
  refine T.ret ?_
  exact Fin.done (.cons _ _ _ _ (.tmp 6 _ rfl) .nil) (by cases h; exact ⟨rfl, rfl⟩)
theorem Pn (K : Nat) {x0 : List Zu} {x1 x2 : Int} {flx0 r : Bool} (h : Ls K x0 x1 x2 = some r) : Zt tp 69 [.sl flx0 4 (x0.map (Zu.dc .u64)), .int .u8 x1, .int .u8 x2] [] (.bool r) := by
 refine Qt Try.func69 rfl (nb rfl) ?_
 show T tp 27 (ca [] Try.f69) ⟨Qv 0 [.sl flx0 4 (x0.map (Zu.dc .u64)), .int .u8 x1, .int .u8 x2], []⟩ (Hu r)
 unfold Ls at h
 refine T.seq (Qq ?_)
 refine aw rfl ?_
 refine TL'.nil (tN ?_)
 refine T.seq ?_
 refine T.seq (Qq ?_)
 refine aw rfl ?_
 refine TL'.nil (tN ?_)
 refine T.block ?_
 refine T.loop ?_
 refine Qb ?_ (Fx K K x0 x1 x2 (0:Int) flx0 h)
 exact tq rfl rfl
abbrev K4 (r : aSp) : ES := Jk tp Try.f49 (fun y t => y = (.agg ((Qx.dc 256 .u8 r.Of) ++ (([.int .i64 r.Many] : List DC)))) ∧ t = [])
abbrev I0 (r : aSp) : ES := thenS (fun s' => T tp 47 (ca [1,1,1,1] Try.f49) s' ((K4 r))) ((K4 r))
abbrev Vv (r : aSp) : ES := Qz 0 ((I0 r))
abbrev Gt (r : aSp) : ES := thenS (fun s' => TL tp 47 (ca [1,1,1,0,1,0,0] Try.f49) s' ((Vv r))) ((Vv r))
abbrev B8 (r : aSp) : ES := thenS (fun s' => T tp 47 (ca [1,1,1,0,1,0,0,1,1] Try.f49) s' ((Gt r))) ((Gt r))
abbrev Vd (r : aSp) : ES := Qz 1 ((B8 r))
abbrev K3 (r : aSp) : ES := thenS (fun s' => T tp 47 (ca [1,1,1,0,1,0,0,1,0,0,1,1] Try.f49) s' ((Vd r))) ((Vd r))
abbrev Hw (r : aSp) : ES := Qz 2 ((K3 r))
abbrev Bk (r : aSp) (go : (List Zu) → Int → Qx → Qx → (List Int) → Option aSp) : Prop := ∀ (x0 : List Zu) (a : Int) (b f : Qx) (g : List Int) (flx0 : Bool) (i j : Nat) (l : Value), go x0 a b f g = some r → TL tp 47 (ca [1,1,1,0,1,0,0] Try.f49) ⟨[(0, .sl flx0 4 (x0.map (Zu.dc .u64))), (2, .ptr i 0), (3, .ptr j 0), (4, .c (.ex l)), (5, .int .i64 a)], [(On i b (0:Int)), (On j f (0:Int)), .arrA l 5 1 (mU g)]⟩ (Vv r)
theorem Jr {r : aSp} (K : Nat) (go0 : (List Zu) → Int → Qx → Qx → (List Int) → Option aSp) (hgo0 : Bk r go0) (x0 : List Zu) (g j : Int) (l b : Qx) (m : List Int) (flx0 : Bool) (p q : Nat) (s : Value) (h : V0 K go0 x0 g j l b m = some r) : T tp 47 (ca [1,1,1,0,1,0,0,1,0,0,1,1,1] Try.f49) ⟨[(0, .sl flx0 4 (x0.map (Zu.dc .u64))), (2, .ptr p 0), (3, .ptr q 0), (4, .c (.ex s)), (5, .int .i64 g), (6, .int .i64 j)], [(On p l (0:Int)), (On q b (0:Int)), .arrA s 5 1 (mU m)]⟩ (Vd r) := by
 unfold V0 at h
 refine Qq ?_
 refine mw rfl ?_
 refine mw rfl ?_
 refine sp rfl (Z9 rfl (dk rfl) ul3 ul5 rfl ?_)
 refine sp rfl (Qg rfl (dk rfl) Ig rfl i22 (by decide) rfl ?_)
 obtain ⟨f, h⟩ := Zh h
 refine sp rfl (Zx rfl (dk rfl) ul22 i5 rfl rfl f.1 f.2 ?_)
 refine sp rfl (Xd (i := 1) (cells' := ((Qx.oc 256 .u8 (Qx.set b g (IntKind.u8.wrap j))) ++ (([.d (.int .i64 (0:Int))]:List OC)))) rfl rfl i5 rfl rfl rfl (Qx.oc_lt (n := 256) (k := .u8) (a := b) (pre := []) (post := [.d (.int .i64 (0:Int))]) f.1 f.2) (Qbq (n := 256) (k := .u8) (a := b) (pre := []) (post := [.d (.int .i64 (0:Int))]) f.1 f.2) ?_)
 refine TL'.nil (Qe (tN ?_))
 refine Qq ?_
 refine mw rfl ?_
 refine sp rfl (Qa rfl rfl (dk rfl) rfl rfl ?_)
 refine aw rfl ?_
 refine TL'.nil (tN ?_)
 refine Qb ?_ (hgo0 x0 (wI (g + (1:Int))) l (Qx.set b g (IntKind.u8.wrap j)) m flx0 p q s h)
 exact tq rfl rfl
theorem Pp {r : aSp} (K : Nat) (go0 : (List Zu) → Int → Qx → Qx → (List Int) → Option aSp) (hgo0 : Bk r go0) : ∀ (k : Nat), ∀ (x0 : List Zu) (b j : Int) (l m : Qx) (g : List Int) (flx0 : Bool) (p q : Nat) (s : Value), W1 K go0 k x0 b j l m g = some r → TL tp 47 (ca [1,1,1,0,1,0,0,1,0,0,1,0,0,0] Try.f49) ⟨[(0, .sl flx0 4 (x0.map (Zu.dc .u64))), (2, .ptr p 0), (3, .ptr q 0), (4, .c (.ex s)), (5, .int .i64 b), (6, .int .i64 j)], [(On p l (0:Int)), (On q m (0:Int)), .arrA s 5 1 (mU g)]⟩ (Hw r) := by
 intro k
 induction k with
 | zero =>
  intro x0 b j l m g flx0 p q s h
  cases (show (none : Option aSp) = some r from h)
 | succ k ih =>
  intro x0 b j l m g flx0 p q s h
  rw [W1] at h
  refine Q4 ?_
  refine T.seq ?_
  refine T.seq (Qq ?_)
  refine mw rfl ?_
  refine mw rfl ?_
  refine sp rfl (Ec (i := 2) (xs := g) (f := (cI .u8)) rfl (dk rfl) Xg rfl rfl ?_)
  refine sp rfl (Qa rfl rfl (dk rfl) rfl rfl ?_)
  refine mw rfl ?_
  rcases Qd h with ⟨a, h⟩ | ⟨a, h⟩
  refine sn rfl a (OpT.move rfl (dk rfl) rfl ?_)
  refine sn rfl a (OpT.move rfl (dk rfl) rfl ?_)
  refine sn rfl a (OpT.move rfl (dk rfl) rfl ?_)
  refine Y7 (Zn.view 18 2 rfl rfl) ?_
  obtain ⟨aa, ab, h⟩ := bind_some h
  refine sn rfl a (Qh (xs := g) (f := (cI .u8)) (v := aa) rfl (dk rfl) Xg i5 rfl rfl ab ?_)
  refine sn rfl a (Qr rfl (dk rfl) ul5 rfl rfl rfl ?_)
  refine sn rfl a (OpT.move rfl (dk rfl) rfl ?_)
  refine sn rfl a (Z9 rfl (dk rfl) ul3 ul5 rfl ?_)
  obtain ⟨aj, ac, h⟩ := bind_some h
  refine sn rfl a (Q5 rfl (dk rfl) Try.func69 rfl rfl (Q3.cons rfl (Q3.cons rfl (Q3.cons rfl Q3.nil))) (Zt.nil (Pn K (flx0 := flx0) ac)) ?_)
  refine sn rfl a (OpT.not rfl (dk rfl) rfl ?_)
  refine sp rfl (Qi rfl (dk rfl) rfl a rfl ?_)
  refine TL'.nil (tN ?_)
  rcases Qd h with ⟨u, h⟩ | ⟨u, h⟩
  refine Qk rfl u ?_
  refine T.skip (tN ?_)
  refine T.block ?_
  refine Qq ?_
  refine mw rfl ?_
  refine sp rfl (Qa rfl rfl (dk rfl) rfl rfl ?_)
  refine aw rfl ?_
  refine TL'.nil (Qe (tN ?_))
  refine Qb ?_ (ih x0 b (wI (j + (1:Int))) l m g flx0 p q s h)
  exact tq rfl rfl
  refine Qo rfl u ?_
  refine T.exit (Qf (Qf (Qp (tN ?_))))
  refine T.seq ?_
  refine T.seq (Qq ?_)
  refine mw rfl ?_
  refine mw rfl ?_
  refine sp rfl (Ec (i := 2) (xs := g) (f := (cI .u8)) rfl (dk rfl) Xg rfl rfl ?_)
  refine sp rfl (Qa rfl rfl (dk rfl) rfl rfl ?_)
  refine TL'.nil (tN ?_)
  rcases Qd h with ⟨w, h⟩ | ⟨w, h⟩
  refine Qk rfl w ?_
  refine Qq ?_
  refine mw rfl ?_
  refine mw rfl ?_
  refine sp rfl (Z9 rfl (dk rfl) ul3 ul5 rfl ?_)
  refine sp rfl (OpT.buildSlice (elems := ([(IntKind.u8.wrap b)] : List Int).map (cI .u8)) rfl (dk rfl) Xg i5 (by decide) rfl (J6 rfl) rfl rfl rfl (Yp rfl) (by decide) ?_)
  obtain ⟨ad, h⟩ := Zh h
  refine sp rfl (Za (i := 2) (xs := g) (ys := [(IntKind.u8.wrap b)]) (f := (cI .u8)) rfl (dk rfl) Xg i5 rfl rfl rfl rfl ad (fun af => ?_))
  refine aw rfl ?_
  refine TL'.nil (tN ?_)
  refine Qc ?_ (Jr K go0 hgo0 x0 b j l m (g ++ [(IntKind.u8.wrap b)]) flx0 p q af h)
  exact tq rfl rfl
  refine Qo rfl w ?_
  refine T.skip (tN ?_)
  refine Qc ?_ (Jr K go0 hgo0 x0 b j l m g flx0 p q s h)
  exact tq rfl rfl
  refine pf rfl a ?_
  refine pf rfl a ?_
  refine pf rfl a ?_
  refine pf rfl a ?_
  refine pf rfl a ?_
  refine pf rfl a ?_
  refine pf rfl a ?_
  refine pf rfl a ?_
  refine pf rfl a ?_
  refine sp rfl (Qs rfl (dk rfl) rfl a rfl ?_)
  refine TL'.nil (tN ?_)
  refine Qo rfl rfl ?_
  refine T.exit (Qf (Qf (Qp (tN ?_))))
  refine T.seq ?_
  refine T.seq (Qq ?_)
  refine mw rfl ?_
  refine mw rfl ?_
  refine sp rfl (Ec (i := 2) (xs := g) (f := (cI .u8)) rfl (dk rfl) Xg rfl rfl ?_)
  refine sp rfl (Qa rfl rfl (dk rfl) rfl rfl ?_)
  refine TL'.nil (tN ?_)
  rcases Qd h with ⟨y, h⟩ | ⟨y, h⟩
  refine Qk rfl y ?_
  refine Qq ?_
  refine mw rfl ?_
  refine mw rfl ?_
  refine sp rfl (Z9 rfl (dk rfl) ul3 ul5 rfl ?_)
  refine sp rfl (OpT.buildSlice (elems := ([(IntKind.u8.wrap b)] : List Int).map (cI .u8)) rfl (dk rfl) Xg i5 (by decide) rfl (J6 rfl) rfl rfl rfl (Yp rfl) (by decide) ?_)
  obtain ⟨ag, h⟩ := Zh h
  refine sp rfl (Za (i := 2) (xs := g) (ys := [(IntKind.u8.wrap b)]) (f := (cI .u8)) rfl (dk rfl) Xg i5 rfl rfl rfl rfl ag (fun ai => ?_))
  refine aw rfl ?_
  refine TL'.nil (tN ?_)
  refine Qc ?_ (Jr K go0 hgo0 x0 b j l m (g ++ [(IntKind.u8.wrap b)]) flx0 p q ai h)
  exact tq rfl rfl
  refine Qo rfl y ?_
  refine T.skip (tN ?_)
  refine Qc ?_ (Jr K go0 hgo0 x0 b j l m g flx0 p q s h)
  exact tq rfl rfl
theorem Pq {r : aSp} (K : Nat) : ∀ (k : Nat), ∀ (x0 : List Zu) (g : Int) (j b : Qx) (a : List Int) (flx0 : Bool) (m p : Nat) (q : Value), Jb K k x0 g j b a = some r → TL tp 47 (ca [1,1,1,0,1,0,0] Try.f49) ⟨[(0, .sl flx0 4 (x0.map (Zu.dc .u64))), (2, .ptr m 0), (3, .ptr p 0), (4, .c (.ex q)), (5, .int .i64 g)], [(On m j (0:Int)), (On p b (0:Int)), .arrA q 5 1 (mU a)]⟩ (Vv r) := by
 intro k
 induction k with
 | zero =>
  intro x0 g j b a flx0 m p q h
  cases (show (none : Option aSp) = some r from h)
 | succ k ih =>
  intro x0 g j b a flx0 m p q h
  rw [Jb] at h
  refine Q4 ?_
  refine T.seq ?_
  refine T.seq (Qq ?_)
  refine mw rfl ?_
  refine sp rfl (Qa rfl rfl (dk rfl) rfl rfl ?_)
  refine TL'.nil (tN ?_)
  rcases Qd h with ⟨s, h⟩ | ⟨s, h⟩
  refine Qk rfl s ?_
  refine T.skip (tN ?_)
  refine T.seq ?_
  refine T.block ?_
  refine T.seq (Qq ?_)
  refine aw rfl ?_
  refine TL'.nil (tN ?_)
  refine T.seq ?_
  refine T.block ?_
  refine T.loop ?_
  refine Qb ?_ (Pp K (Jb K k) ih K x0 g (0:Int) j b a flx0 m p q h)
  exact tq rfl rfl
  refine Qo rfl s ?_
  refine T.exit (Qf (Qf (Qp (tN ?_))))
  refine T.seq (Qq ?_)
  refine mw rfl ?_
  refine sp rfl (Ec (i := 2) (xs := a) (f := (cI .u8)) rfl (dk rfl) Xg rfl rfl ?_)
  refine sp rfl (Qg rfl (dk rfl) Ig rfl i3 (by decide) rfl ?_)
  refine sp rfl (Xd (i := 1) (cells' := ((Qx.oc 256 .u8 b) ++ (([.d (.int .i64 (a.length : Int))]:List OC)))) rfl rfl i3 rfl rfl rfl (nb rfl) rfl ?_)
  refine TL'.nil (tN (T.seq (Qq ?_)))
  refine sp rfl (Ze (i := 1) (l := ((Qx.dc 256 .u8 b) ++ (([.int .i64 (a.length : Int)] : List DC)))) rfl (dk rfl) Ig rfl i24 rfl rfl rfl rfl ?_)
  refine sp rfl (Q1 (i := 0) (cells' := ((Qx.oc 256 .u8 b) ++ (([.d (.int .i64 (a.length : Int))]:List OC)))) rfl rfl i24 rfl rfl rfl rfl (nb rfl) rfl ?_)
  refine TL'.nil (tN ?_)
  refine T.ret ?_
  exact Fin.done (.cons _ _ _ _ (.cellAgg 2 24 _ 0 0 24 _ ((Qx.dc 256 .u8 b) ++ (([.int .i64 (a.length : Int)] : List DC))) _ _ 257 _ rfl rfl rfl rfl Ig rfl i24) .nil) (by cases h; exact ⟨rfl, rfl⟩)
theorem T5 (K : Nat) {x0 : List Zu} {flx0 : Bool} {r : aSp} (h : C1 K x0 = some r) : Zt tp 49 [.sl flx0 4 (x0.map (Zu.dc .u64))] [] (.agg ((Qx.dc 256 .u8 r.Of) ++ (([.int .i64 r.Many] : List DC)))) := by
 refine Qt Try.func49 rfl (nb rfl) ?_
 show T tp 47 (ca [] Try.f49) ⟨Qv 0 [.sl flx0 4 (x0.map (Zu.dc .u64))], []⟩ (K4 r)
 unfold C1 at h
 refine T.seq (Qq ?_)
 refine sp rfl (Zi rfl (dk rfl) i24 rfl (fun a => ?_))
 refine TL'.nil (tN (T.seq (Qq ?_)))
 refine sp rfl (OpT.build (l := ((Qx.dc 256 .u8 (Qx.mk fun _ => 0)) ++ (([.int .i64 (0:Int)] : List DC)))) rfl (dk rfl) (Zr (pl := [(0, 256), (256, 1)]) Ig i24 rfl) (J6 rfl) rfl rfl ?_)
 refine sp rfl (Zi rfl (dk rfl) i24 rfl (fun b => ?_))
 refine sp rfl (Q1 (i := 0) (cells' := ((Qx.oc 256 .u8 (Qx.mk fun _ => 0)) ++ (([.d (.int .i64 (0:Int))]:List OC)))) rfl rfl i24 rfl rfl rfl rfl (nb rfl) rfl ?_)
 refine TL'.nil (tN (T.seq (Qq ?_)))
 refine aw rfl ?_
 refine TL'.nil (tN ?_)
 refine T.seq ?_
 refine T.seq (Qq ?_)
 refine aw rfl ?_
 refine TL'.nil (tN ?_)
 refine T.block ?_
 refine T.loop ?_
 refine Qb (Yc 5 1) ?_
 refine Qb ?_ (Pq K K x0 (0:Int) (Qx.mk fun _ => 0) (Qx.mk fun _ => 0) [] flx0 a b (Mn 2) h)
 exact tr rfl (.c (.s (.s .z)) (.c (.s .z) (.c .z (.n _))))
abbrev G1 (bx0 : Nat) (x0 : Qj) (r : Int) : ES := Jk tp Try.f87 (fun y t => ∃ γ : Nat → Value, y = (.int .i64 r) ∧ t = [(Yf bx0 x0.g.First x0.g.P (γ 0) x0.a.Split.Of x0.a.Split.Many (γ 1) (γ 2) x0.e), .arrA (γ 0) 3 1 (mI x0.number), .arrA (γ 1) 42 2 (mA x0.a.Counts), .arrX (γ 2) 59 4 0 (x0.a.States.map Q0)])
abbrev Nb (bx0 : Nat) (x0 : Qj) (r : Int) : ES := thenS (fun s' => T tp 34 (ca [1,1] Try.f87) s' ((G1 bx0 x0 r))) ((G1 bx0 x0 r))
abbrev Ez (bx0 : Nat) (x0 : Qj) (r : Int) : ES := Qz 0 ((Nb bx0 x0 r))
theorem Nc {r : Int} (K bx0 : Nat) (x0 : Qj) : ∀ (k : Nat), ∀ (s x3 m : Int) (x0 : Qj) (x1 : aSt) (b l w0_0aa : Value) (j : Nat), Ju K k s x3 m x0 x1 = some r → TL tp 34 (ca [1,0,1,0,0] Try.f87) ⟨[(0, .ptr bx0 0), (2, .int .i64 s), (3, .int .i64 x3), (5, .ptr j 0), (9, .int .i64 m)], [(Yf bx0 x0.g.First x0.g.P b x0.a.Split.Of x0.a.Split.Many l w0_0aa x0.e), .arrA b 3 1 (mI x0.number), .arrA l 42 2 (mA x0.a.Counts), .arrX w0_0aa 59 4 0 (x0.a.States.map Q0), (Zw j x1.L x1.R x1.Rule x1.Next)]⟩ (Ez bx0 x0 r) := by
 intro k
 induction k with
 | zero =>
  intro s x3 m x0 x1 b l w0_0aa j h
  cases (show (none : Option Int) = some r from h)
 | succ k ih =>
  intro s x3 m x0 x1 b l w0_0aa j h
  rw [Ju] at h
  refine Q4 ?_
  refine T.seq ?_
  refine T.seq (Qq ?_)
  refine mw rfl ?_
  refine sp rfl (Qg rfl (dk rfl) Vm rfl i56 (by decide) rfl ?_)
  refine sp rfl (Qm (i := 4) rfl (dk rfl) Yd rfl rfl rfl rfl ?_)
  refine sp rfl (Qn (xs := x1.R) (f := (cI .i64)) rfl (dk rfl) Yd rfl ?_)
  refine sp rfl (Qa rfl rfl (dk rfl) rfl rfl ?_)
  refine TL'.nil (tN ?_)
  rcases Qd h with ⟨w, h⟩ | ⟨w, h⟩
  refine Qk rfl w ?_
  refine T.skip (tN ?_)
  refine T.seq ?_
  refine T.block ?_
  refine T.seq ?_
  refine T.seq ?_
  refine X3 ?_
  refine dS (c := ⟨some 17, .ptr j (0 + 1), [(5, .ptr j 0)], [], []⟩) (fun t hm => oF rfl rfl (Qg rfl (dk rfl) Vm rfl i56 (by decide) hm.s0 rfl)) rfl rfl ?_
  refine dS (c := ⟨some 18, .sl false 1 (mI x1.R), [(17, .ptr j (0 + 1))], [(4, (Zw j x1.L x1.R x1.Rule x1.Next))], []⟩) (fun t hm => oF rfl rfl (Qm (i := 4) rfl (dk rfl) Yd rfl hm.s0 hm.o0 rfl rfl)) rfl rfl ?_
  refine Yr rfl rfl rfl rfl rfl rfl ?_
  obtain ⟨p, aa, h⟩ := bind_some h
  refine dS (c := ⟨some 20, .ref [.int .i64 p], [(18, .sl false 1 (mI x1.R)), (19, .int .i64 m)], [], []⟩) (fun t hm => oF rfl rfl (Qh (xs := x1.R) (f := (cI .i64)) (v := p) rfl (dk rfl) Yd i3 hm.s0 hm.s1 aa rfl)) rfl rfl ?_
  refine dS (c := ⟨some 21, .int .i64 p, [(20, .ref [.int .i64 p])], [], []⟩) (fun t hm => oF rfl rfl (Qr rfl (dk rfl) ul3 rfl hm.s0 rfl rfl)) rfl rfl ?_
  refine Yr rfl rfl rfl rfl rfl rfl ?_
  refine dS (c := ⟨some 23, .ptr bx0 0, [(22, .ptr bx0 0)], [], []⟩) (fun t hm => oF rfl rfl (OpT.nilCheck rfl (dk rfl) hm.s0 rfl rfl)) rfl rfl ?_
  refine dS (c := ⟨some 24, .ptr bx0 (0 + 2), [(23, .ptr bx0 0)], [], []⟩) (fun t hm => oF rfl rfl (Qg rfl (dk rfl) Fg rfl i56 (by decide) hm.s0 rfl)) rfl rfl ?_
  refine dS (c := ⟨some 25, .sl false 1 (mI x0.number), [(24, .ptr bx0 (0 + 2))], [(0, (Yf bx0 x0.g.First x0.g.P b x0.a.Split.Of x0.a.Split.Many l w0_0aa x0.e)), (1, .arrA b 3 1 (mI x0.number))], []⟩) (fun t hm => oF rfl rfl (Zm (Qm (i := 0) rfl (dk rfl) Yd rfl hm.s0 hm.o0 rfl rfl) (Ke 25 1 hm.o1) rfl)) rfl rfl ?_
  refine Yr rfl rfl rfl rfl rfl rfl ?_
  obtain ⟨q, ab, h⟩ := bind_some h
  refine dS (c := ⟨some 27, .ref [.int .i64 q], [(25, .sl false 1 (mI x0.number)), (26, .int .i64 x3)], [], []⟩) (fun t hm => oF rfl rfl (Qh (xs := x0.number) (f := (cI .i64)) (v := q) rfl (dk rfl) Yd i3 hm.s0 hm.s1 ab rfl)) rfl rfl ?_
  refine dS (c := ⟨some 28, .int .i64 q, [(27, .ref [.int .i64 q])], [], []⟩) (fun t hm => oF rfl rfl (Qr rfl (dk rfl) ul3 rfl hm.s0 rfl rfl)) rfl rfl ?_
  refine dS (c := ⟨some 29, .bool (p == q), [(21, .int .i64 p), (28, .int .i64 q)], [], []⟩) (fun t hm => oF rfl rfl (Qa rfl rfl (dk rfl) hm.s0 hm.s1 rfl)) rfl rfl ?_
  refine Y4 (s1 := ⟨[(0, .ptr bx0 0), (2, .int .i64 s), (3, .int .i64 x3), (5, .ptr j 0), (9, .int .i64 m), (29, .bool (p == q))], [(Yf bx0 x0.g.First x0.g.P b x0.a.Split.Of x0.a.Split.Many l w0_0aa x0.e), .arrA b 3 1 (mI x0.number), .arrA l 42 2 (mA x0.a.Counts), .arrX w0_0aa 59 4 0 (x0.a.States.map Q0), (Zw j x1.L x1.R x1.Rule x1.Next)]⟩) (ms := [0, 1, 0, 7, 15, 0, 32, 96, 224, 0, 992, 2016, 4095]) Q7 rfl (by kernel_rfl) (by kernel_rfl) (by kernel_rfl) (sf rfl) rfl (fun u hu => (tN (Qc hu ?_)))
  rcases Qd h with ⟨y, h⟩ | ⟨y, h⟩
  refine Qk rfl y ?_
  refine T.seq (Qq ?_)
  refine mw rfl ?_
  refine sp rfl (OpT.rem rfl (dk rfl) rfl rfl (by decide) ?_)
  refine aw rfl ?_
  refine TL'.nil (tN ?_)
  refine T.ret (Ql (Qy (Ql (Ql (Qy (Ql ?_))))))
  exact Q6 (.cons _ _ _ _ (.tmp 8 _ rfl) .nil) (.cons 0 rfl (.cons 0 rfl (.cons 0 rfl (.cons 0 rfl (.nil _))))) (by cases h; exact ⟨gl [b, l, w0_0aa], rfl, rfl⟩)
  refine Qo rfl y ?_
  refine T.skip (tN ?_)
  refine Qq ?_
  refine mw rfl ?_
  refine sp rfl (OpT.quo rfl (dk rfl) rfl rfl (by decide) ?_)
  refine aw rfl ?_
  refine TL'.nil (Qe (tN ?_))
  refine Qq ?_
  refine mw rfl ?_
  refine sp rfl (Qa rfl rfl (dk rfl) rfl rfl ?_)
  refine aw rfl ?_
  refine TL'.nil (tN ?_)
  refine Qb ?_ (ih (wI (Int.tdiv s (3:Int))) x3 (wI (m + (1:Int))) x0 x1 b l w0_0aa j h)
  exact tq rfl rfl
  refine Qo rfl w ?_
  refine T.exit (Qf (Qf (Qp (tN ?_))))
  refine T.seq (Qq ?_)
  refine aw rfl ?_
  refine TL'.nil (tN ?_)
  refine T.ret ?_
  exact Q6 (.cons _ _ _ _ (.tmp 8 _ rfl) .nil) (.cons 0 rfl (.cons 0 rfl (.cons 0 rfl (.cons 0 rfl (.nil _))))) (by cases h; exact ⟨gl [b, l, w0_0aa], rfl, rfl⟩)
theorem Cl (K : Nat) {x0 : Qj} {x1 : aSt} {x2 x3 : Int} {bx0 : Nat} {wx0c1 wx0c2c1 wx0c2c2 : Value} {r : Int} (h : Hp K x0 x1 x2 x3 = some r) : Uz tp 87 [.ptr bx0 0, .agg [.sl false 1 (mI x1.L), .sl false 1 (mI x1.R), .sl false 1 (mI x1.Rule), .sl false 1 (x1.Next.map (cL 2 Qu))], .int .i64 x2, .int .i64 x3] [(Yf bx0 x0.g.First x0.g.P wx0c1 x0.a.Split.Of x0.a.Split.Many wx0c2c1 wx0c2c2 x0.e), .arrA wx0c1 3 1 (mI x0.number), .arrA wx0c2c1 42 2 (mA x0.a.Counts), .arrX wx0c2c2 59 4 0 (x0.a.States.map Q0)] (fun γ => (.int .i64 r)) (fun γ => [(Yf bx0 x0.g.First x0.g.P (γ 0) x0.a.Split.Of x0.a.Split.Many (γ 1) (γ 2) x0.e), .arrA (γ 0) 3 1 (mI x0.number), .arrA (γ 1) 42 2 (mA x0.a.Counts), .arrX (γ 2) 59 4 0 (x0.a.States.map Q0)]) := by
 refine Qt Try.func87 rfl (nb rfl) ?_
 show T tp 34 (ca [] Try.f87) ⟨Qv 0 [.ptr bx0 0, .agg [.sl false 1 (mI x1.L), .sl false 1 (mI x1.R), .sl false 1 (mI x1.Rule), .sl false 1 (x1.Next.map (cL 2 Qu))], .int .i64 x2, .int .i64 x3], [(Yf bx0 x0.g.First x0.g.P wx0c1 x0.a.Split.Of x0.a.Split.Many wx0c2c1 wx0c2c2 x0.e), .arrA wx0c1 3 1 (mI x0.number), .arrA wx0c2c1 42 2 (mA x0.a.Counts), .arrX wx0c2c2 59 4 0 (x0.a.States.map Q0)]⟩ (G1 bx0 x0 r)
 unfold Hp at h
 refine T.seq (Qq ?_)
 refine sp rfl (Zg rfl (dk rfl) rfl (fun b => ?_))
 refine aw rfl ?_
 refine TL'.nil (tN ?_)
 refine T.seq ?_
 refine T.seq (Qq ?_)
 refine aw rfl ?_
 refine TL'.nil (tN ?_)
 refine T.block ?_
 refine T.loop ?_
 refine Qb ?_ (Nc K bx0 x0 K x2 x3 (0:Int) x0 x1 wx0c1 wx0c2c1 wx0c2c2 b h)
 exact tr rfl (.c (.s .z) (.c (.s .z) (.c (.s .z) (.c (.s .z) (.c .z (.n _))))))
abbrev S7 (bx0 : Nat) (x0 : Qj) (r : Bool) : ES := Jk tp Try.f70 (fun y t => ∃ γ : Nat → Value, y = (.bool r) ∧ t = [(Yf bx0 x0.g.First x0.g.P (γ 0) x0.a.Split.Of x0.a.Split.Many (γ 1) (γ 2) x0.e), .arrA (γ 0) 3 1 (mI x0.number), .arrA (γ 1) 42 2 (mA x0.a.Counts), .arrX (γ 2) 59 4 0 (x0.a.States.map Q0)])
theorem Dz (K : Nat) {x0 : Qj} {x1 : aSt} {x2 x3 : Int} {bx0 : Nat} {wx0c1 wx0c2c1 wx0c2c2 : Value} {r : Bool} (h : G0 K x0 x1 x2 x3 = some r) : Uz tp 70 [.ptr bx0 0, .agg [.sl false 1 (mI x1.L), .sl false 1 (mI x1.R), .sl false 1 (mI x1.Rule), .sl false 1 (x1.Next.map (cL 2 Qu))], .int .i64 x2, .int .i64 x3] [(Yf bx0 x0.g.First x0.g.P wx0c1 x0.a.Split.Of x0.a.Split.Many wx0c2c1 wx0c2c2 x0.e), .arrA wx0c1 3 1 (mI x0.number), .arrA wx0c2c1 42 2 (mA x0.a.Counts), .arrX wx0c2c2 59 4 0 (x0.a.States.map Q0)] (fun γ => (.bool r)) (fun γ => [(Yf bx0 x0.g.First x0.g.P (γ 0) x0.a.Split.Of x0.a.Split.Many (γ 1) (γ 2) x0.e), .arrA (γ 0) 3 1 (mI x0.number), .arrA (γ 1) 42 2 (mA x0.a.Counts), .arrX (γ 2) 59 4 0 (x0.a.States.map Q0)]) := by
 refine Qt Try.func70 rfl (nb rfl) ?_
 show T tp 15 (ca [] Try.f70) ⟨Qv 0 [.ptr bx0 0, .agg [.sl false 1 (mI x1.L), .sl false 1 (mI x1.R), .sl false 1 (mI x1.Rule), .sl false 1 (x1.Next.map (cL 2 Qu))], .int .i64 x2, .int .i64 x3], [(Yf bx0 x0.g.First x0.g.P wx0c1 x0.a.Split.Of x0.a.Split.Many wx0c2c1 wx0c2c2 x0.e), .arrA wx0c1 3 1 (mI x0.number), .arrA wx0c2c1 42 2 (mA x0.a.Counts), .arrX wx0c2c2 59 4 0 (x0.a.States.map Q0)]⟩ (S7 bx0 x0 r)
 unfold G0 at h
 refine T.seq (Qq ?_)
 refine sp rfl (Zg rfl (dk rfl) rfl (fun j => ?_))
 refine aw rfl ?_
 refine TL'.nil (tN (T.seq (Qq ?_)))
 refine mw rfl ?_
 refine sp rfl (Ze (i := 0) (l := [.sl false 1 (mI x1.L), .sl false 1 (mI x1.R), .sl false 1 (mI x1.Rule), .sl false 1 (x1.Next.map (cL 2 Qu))]) rfl (dk rfl) Vm rfl i59 rfl rfl rfl rfl ?_)
 refine mw rfl ?_
 refine mw rfl ?_
 obtain ⟨m, f, h⟩ := bind_some h
 refine sp rfl (Q2 (is := [1, 2, 3, 4]) (ph := []) rfl (dk rfl) Try.func87 rfl rfl (Q3.cons rfl (Q3.cons rfl (Q3.cons rfl (Q3.cons rfl Q3.nil)))) (Cl K (bx0 := bx0) (wx0c1 := wx0c1) (wx0c2c1 := wx0c2c1) (wx0c2c2 := wx0c2c2) f) (.cons rfl rfl (.cons rfl rfl (.cons rfl rfl (.cons rfl rfl (.nil))))) (fun _ => rfl) (fun b => ?_))
 refine nm (.c (.c (.c (.c (.c (.n)))))) ?_
 refine sp rfl (Qa rfl rfl (dk rfl) rfl rfl ?_)
 refine aw rfl ?_
 refine TL'.nil (tN ?_)
 refine T.ret ?_
 exact Q6 (.cons _ _ _ _ (.tmp 8 _ rfl) .nil) (.cons 1 rfl (.cons 1 rfl (.cons 1 rfl (.cons 1 rfl (.nil _))))) (by cases h; exact ⟨gl [b 0, b 1, b 2], rfl, rfl⟩)
abbrev L3 (bx0 : Nat) (x0 : Qj) (r : Int) : ES := Jk tp Try.f51 (fun y t => ∃ γ : Nat → Value, y = (.int .i64 r) ∧ t = [(Yf bx0 x0.g.First x0.g.P (γ 0) x0.a.Split.Of x0.a.Split.Many (γ 1) (γ 2) x0.e), .arrA (γ 0) 3 1 (mI x0.number), .arrA (γ 1) 42 2 (mA x0.a.Counts), .arrX (γ 2) 59 4 0 (x0.a.States.map Q0)])
abbrev Na (bx0 : Nat) (x0 : Qj) (r : Int) : ES := thenS (fun s' => T tp 55 (ca [1,1,1] Try.f51) s' ((L3 bx0 x0 r))) ((L3 bx0 x0 r))
abbrev Vx (bx0 : Nat) (x0 : Qj) (r : Int) : ES := Qz 0 ((Na bx0 x0 r))
abbrev Gz (bx0 : Nat) (x0 : Qj) (r : Int) : ES := thenS (fun s' => TL tp 55 (ca [1,1,0,1,0,0] Try.f51) s' ((Vx bx0 x0 r))) ((Vx bx0 x0 r))
abbrev Cc (bx0 : Nat) (x0 : Qj) (r : Int) : ES := thenS (fun s' => T tp 55 (ca [1,1,0,1,0,0,1,1] Try.f51) s' ((Gz bx0 x0 r))) ((Gz bx0 x0 r))
abbrev Ks (bx0 : Nat) (x0 : Qj) (r : Int) : ES := Qz 1 ((Cc bx0 x0 r))
abbrev Og (bx0 : Nat) (x0 : Qj) (r : Int) (go : Int → Int → Int → Qj → aSt → Option Int) : Prop := ∀ (x2 b c : Int) (x0 : Qj) (x1 : aSt) (f i w0_0aa : Value) (j : Nat), go x2 b c x0 x1 = some r → TL tp 55 (ca [1,1,0,1,0,0] Try.f51) ⟨[(0, .ptr bx0 0), (2, .int .i64 x2), (4, .ptr j 0), (7, .int .i64 b), (8, .int .i64 c)], [(Yf bx0 x0.g.First x0.g.P f x0.a.Split.Of x0.a.Split.Many i w0_0aa x0.e), .arrA f 3 1 (mI x0.number), .arrA i 42 2 (mA x0.a.Counts), .arrX w0_0aa 59 4 0 (x0.a.States.map Q0), (Zw j x1.L x1.R x1.Rule x1.Next)]⟩ (Vx bx0 x0 r)
theorem Mj {r : Int} (K bx0 : Nat) (x0 : Qj) (go0 : Int → Int → Int → Qj → aSt → Option Int) (hgo0 : Og bx0 x0 r go0) (x2 j : Int) (x1 : aSt) (q s u : Int) (v : Bool) (w : Int) (y aa ab : Bool) (x0 : Qj) (b : Zu) (ac ad l : Int) (af : Bool) (ag : List Int) (m p w0_1aa : Value) (f ai : Nat) (h : Wh K go0 x2 j x1 q s u v w y aa ab x0 b ac ad l af ag = some r) : T tp 55 (ca [1,1,0,1,0,0,1,0,0,1,1,0] Try.f51) ⟨[(0, .ptr bx0 0), (2, .int .i64 x2), (4, .ptr f 0), (8, .int .i64 j), (9, .ptr ai 0), (32, .ptr bx0 0), (33, .agg [.sl false 1 (mI x1.L), .sl false 1 (mI x1.R), .sl false 1 (mI x1.Rule), .sl false 1 (x1.Next.map (cL 2 Qu))]), (34, .int .i64 x2), (35, .ptr f (0 + 0)), (36, .sl false 1 (mI x1.L)), (37, .int .i64 q), (38, .ref [.int .i64 s]), (39, .int .i64 u), (40, .bool v), (43, .int .i64 w), (44, .bool y), (45, .bool aa), (50, .bool ab)], [(Yf bx0 x0.g.First x0.g.P m x0.a.Split.Of x0.a.Split.Many p w0_1aa x0.e), .arrA m 3 1 (mI x0.number), .arrA p 42 2 (mA x0.a.Counts), .arrX w0_1aa 59 4 0 (x0.a.States.map Q0), (Zw f x1.L x1.R x1.Rule x1.Next), .box ai 104 [.d (.int .u64 b.a0), .d (.int .u64 b.a1), .d (.int .u64 b.a2), .d (.int .u64 b.a3), .d (.int .i64 ac), .d (.int .i64 ad), .d (.int .i64 l), .d (.bool af), .d (.sl false 1 (mI ag))]]⟩ (Ks bx0 x0 r) := by
 unfold Wh at h
 refine Qq ?_
 refine sp rfl (Qg rfl (dk rfl) Ed rfl i3 (by decide) rfl ?_)
 refine sp rfl (Qm (i := 5) rfl (dk rfl) ul3 rfl rfl rfl rfl ?_)
 refine aw rfl ?_
 refine TL'.nil (Qe (tN ?_))
 refine Qq ?_
 refine mw rfl ?_
 refine sp rfl (Qa rfl rfl (dk rfl) rfl rfl ?_)
 refine aw rfl ?_
 refine TL'.nil (tN ?_)
 refine Qb ?_ (hgo0 x2 l (wI (j + (1:Int))) x0 x1 m p w0_1aa f h)
 exact tq rfl rfl
theorem Oe {r : Int} (K bx0 : Nat) (x0 : Qj) : ∀ (k : Nat), ∀ (x2 q y : Int) (x0 : Qj) (x1 : aSt) (ad af w0_0aa : Value) (w : Nat), Ya K k x2 q y x0 x1 = some r → TL tp 55 (ca [1,1,0,1,0,0] Try.f51) ⟨[(0, .ptr bx0 0), (2, .int .i64 x2), (4, .ptr w 0), (7, .int .i64 q), (8, .int .i64 y)], [(Yf bx0 x0.g.First x0.g.P ad x0.a.Split.Of x0.a.Split.Many af w0_0aa x0.e), .arrA ad 3 1 (mI x0.number), .arrA af 42 2 (mA x0.a.Counts), .arrX w0_0aa 59 4 0 (x0.a.States.map Q0), (Zw w x1.L x1.R x1.Rule x1.Next)]⟩ (Vx bx0 x0 r) := by
 intro k
 induction k with
 | zero =>
  intro x2 q y x0 x1 ad af w0_0aa w h
  cases (show (none : Option Int) = some r from h)
 | succ k ih =>
  intro x2 q y x0 x1 ad af w0_0aa w h
  rw [Ya] at h
  refine Q4 ?_
  refine T.seq ?_
  refine T.seq (Qq ?_)
  refine mw rfl ?_
  refine sp rfl (Qg rfl (dk rfl) Vm rfl i56 (by decide) rfl ?_)
  refine sp rfl (Qm (i := 4) rfl (dk rfl) Yd rfl rfl rfl rfl ?_)
  refine sp rfl (Qn (xs := x1.L) (f := (cI .i64)) rfl (dk rfl) Yd rfl ?_)
  refine sp rfl (Qa rfl rfl (dk rfl) rfl rfl ?_)
  refine TL'.nil (tN ?_)
  rcases Qd h with ⟨aj, h⟩ | ⟨aj, h⟩
  refine Qk rfl aj ?_
  refine T.skip (tN ?_)
  refine T.seq ?_
  refine T.block ?_
  refine T.seq ?_
  refine Qc Zs ?_
  refine Y3 ?_
  refine dC (c := ⟨some 17, .ptr bx0 0, [(0, .ptr bx0 0)], [], []⟩) (fun t hm => oF rfl rfl (OpT.move rfl (dk rfl) hm.s0 ⟨u0, rfl⟩)) (fun _ => rfl) (fun _ => rfl) ?_
  refine dC (c := ⟨some 18, .ptr bx0 0, [(17, .ptr bx0 0)], [], []⟩) (fun t hm => oF rfl rfl (OpT.nilCheck rfl (dk rfl) hm.s0 rfl ⟨u0, rfl⟩)) (fun _ => rfl) (fun _ => rfl) ?_
  refine dC (c := ⟨some 19, .ptr bx0 (0 + 0), [(18, .ptr bx0 0)], [], []⟩) (fun t hm => oF rfl rfl (Qg rfl (dk rfl) Fg rfl i71 (by decide) hm.s0 ⟨u0, rfl⟩)) (fun _ => rfl) (fun _ => rfl) ?_
  refine dC (c := ⟨some 20, .ptr bx0 (0 + 0 + 1), [(19, .ptr bx0 (0 + 0))], [], []⟩) (fun t hm => oF rfl rfl (Qg rfl (dk rfl) ul71 rfl i69 (by decide) hm.s0 ⟨u0, rfl⟩)) (fun _ => rfl) (fun _ => rfl) ?_
  refine dC (c := ⟨some 21, .sl false 9 (x0.g.P.map Zk), [(20, .ptr bx0 (0 + 0 + 1))], [(1, (Yf bx0 x0.g.First x0.g.P ad x0.a.Split.Of x0.a.Split.Many af w0_0aa x0.e))], []⟩) (fun t hm => oF rfl rfl (Qm (i := 1) rfl (dk rfl) Sk rfl hm.s0 hm.o0 rfl ⟨u0, rfl⟩)) (fun _ => rfl) (fun _ => rfl) ?_
  refine dC (c := ⟨some 22, .ptr w (0 + 0), [(4, .ptr w 0)], [], []⟩) (fun t hm => oF rfl rfl (Qg rfl (dk rfl) Vm rfl i56 (by decide) hm.s0 ⟨u0, rfl⟩)) (fun _ => rfl) (fun _ => rfl) ?_
  refine dC (c := ⟨some 23, .sl false 1 (mI x1.L), [(22, .ptr w (0 + 0))], [(5, (Zw w x1.L x1.R x1.Rule x1.Next))], []⟩) (fun t hm => oF rfl rfl (Qm (i := 5) rfl (dk rfl) Yd rfl hm.s0 hm.o0 rfl ⟨u0, rfl⟩)) (fun _ => rfl) (fun _ => rfl) ?_
  refine dC (c := ⟨some 24, .int .i64 y, [(8, .int .i64 y)], [], []⟩) (fun t hm => oF rfl rfl (OpT.move rfl (dk rfl) hm.s0 ⟨u0, rfl⟩)) (fun _ => rfl) (fun _ => rfl) ?_
  obtain ⟨ab, am, h⟩ := bind_some h
  refine dC (c := ⟨some 25, .ref [.int .i64 ab], [(23, .sl false 1 (mI x1.L)), (24, .int .i64 y)], [], []⟩) (fun t hm => oF rfl rfl (Qh (xs := x1.L) (f := (cI .i64)) (v := ab) rfl (dk rfl) Yd i3 hm.s0 hm.s1 am ⟨u0, rfl⟩)) (fun _ => rfl) (fun _ => rfl) ?_
  refine dC (c := ⟨some 26, .int .i64 ab, [(25, .ref [.int .i64 ab])], [], []⟩) (fun t hm => oF rfl rfl (Qr rfl (dk rfl) ul3 rfl hm.s0 rfl ⟨u0, rfl⟩)) (fun _ => rfl) (fun _ => rfl) ?_
  obtain ⟨j, an, h⟩ := bind_some h
  refine dC (c := ⟨some 27, .ref [.int .u64 j.S.a0, .int .u64 j.S.a1, .int .u64 j.S.a2, .int .u64 j.S.a3, .int .i64 j.Lo, .int .i64 j.Hi, .int .i64 j.Rule, .bool j.Last, .sl false 1 (mI j.Next)], [(21, .sl false 9 (x0.g.P.map Zk)), (26, .int .i64 ab)], [], []⟩) (fun t hm => oF rfl rfl (Qh (xs := x0.g.P) (f := Zk) (v := j) rfl (dk rfl) Sk i104 hm.s0 hm.s1 an ⟨u0, rfl⟩)) (fun _ => rfl) (fun _ => rfl) ?_
  refine dC (c := ⟨some 28, .agg [.int .u64 j.S.a0, .int .u64 j.S.a1, .int .u64 j.S.a2, .int .u64 j.S.a3, .int .i64 j.Lo, .int .i64 j.Hi, .int .i64 j.Rule, .bool j.Last, .sl false 1 (mI j.Next)], [(27, .ref [.int .u64 j.S.a0, .int .u64 j.S.a1, .int .u64 j.S.a2, .int .u64 j.S.a3, .int .i64 j.Lo, .int .i64 j.Hi, .int .i64 j.Rule, .bool j.Last, .sl false 1 (mI j.Next)])], [], []⟩) (fun t hm => oF rfl rfl (Zj rfl (dk rfl) Ed rfl i104 hm.s0 (nb rfl) ⟨u0, rfl⟩)) (fun _ => rfl) (fun _ => rfl) ?_
  refine DGG.step (c := fun p => ⟨some 9, .ptr ((p 12).2) 0, [], [(0, .ro 0 [])], [(0, .box ((p 12).2) 104 [.d (.int .u64 (Zu.mk 0 0 0 0).a0), .d (.int .u64 (Zu.mk 0 0 0 0).a1), .d (.int .u64 (Zu.mk 0 0 0 0).a2), .d (.int .u64 (Zu.mk 0 0 0 0).a3), .d (.int .i64 (0:Int)), .d (.int .i64 (0:Int)), .d (.int .i64 (0:Int)), .d (.bool false), .d (.ex (.slice none 0 0))])]⟩) [12] (fun p γ' h => by simp only [h 12 (by decide)]) (fun p t hm => oF rfl rfl (OpT.allocAt 0 rfl (dk rfl) i104 rfl hm.o0 (fun b => ⟨(fun _ => undef, b), rfl⟩))) (fun p => Zq rfl rfl) ?_
  refine DGG.step (c := fun p => ⟨none, .any, [(9, .ptr ((p 12).2) 0), (28, .agg [.int .u64 j.S.a0, .int .u64 j.S.a1, .int .u64 j.S.a2, .int .u64 j.S.a3, .int .i64 j.Lo, .int .i64 j.Hi, .int .i64 j.Rule, .bool j.Last, .sl false 1 (mI j.Next)])], [(0, .box ((p 12).2) 104 [.d (.int .u64 (Zu.mk 0 0 0 0).a0), .d (.int .u64 (Zu.mk 0 0 0 0).a1), .d (.int .u64 (Zu.mk 0 0 0 0).a2), .d (.int .u64 (Zu.mk 0 0 0 0).a3), .d (.int .i64 (0:Int)), .d (.int .i64 (0:Int)), .d (.int .i64 (0:Int)), .d (.bool false), .d (.ex (.slice none 0 0))])], [(0, .box ((p 12).2) 104 [.d (.int .u64 j.S.a0), .d (.int .u64 j.S.a1), .d (.int .u64 j.S.a2), .d (.int .u64 j.S.a3), .d (.int .i64 j.Lo), .d (.int .i64 j.Hi), .d (.int .i64 j.Rule), .d (.bool j.Last), .d (.sl false 1 (mI j.Next))])]⟩) [12] (fun p γ' h => by simp only [h 12 (by decide)]) (fun p t hm => oF rfl rfl (Q1 (i := 0) (cells' := [.d (.int .u64 j.S.a0), .d (.int .u64 j.S.a1), .d (.int .u64 j.S.a2), .d (.int .u64 j.S.a3), .d (.int .i64 j.Lo), .d (.int .i64 j.Hi), .d (.int .i64 j.Rule), .d (.bool j.Last), .d (.sl false 1 (mI j.Next))]) rfl rfl i104 hm.s0 hm.s1 rfl hm.o0 (nb rfl) rfl ⟨u0, rfl⟩)) (fun p => Zq rfl rfl) ?_
  refine Vi (s1 := fun p => ⟨[(0, .ptr bx0 0), (2, .int .i64 x2), (4, .ptr w 0), (7, .int .i64 q), (8, .int .i64 y), (9, .ptr ((p 12).2) 0)], [.box ((p 12).2) 104 [.d (.int .u64 j.S.a0), .d (.int .u64 j.S.a1), .d (.int .u64 j.S.a2), .d (.int .u64 j.S.a3), .d (.int .i64 j.Lo), .d (.int .i64 j.Hi), .d (.int .i64 j.Rule), .d (.bool j.Last), .d (.sl false 1 (mI j.Next))], (Yf bx0 x0.g.First x0.g.P ad x0.a.Split.Of x0.a.Split.Many af w0_0aa x0.e), .arrA ad 3 1 (mI x0.number), .arrA af 42 2 (mA x0.a.Counts), .arrX w0_0aa 59 4 0 (x0.a.States.map Q0), (Zw w x1.L x1.R x1.Rule x1.Next)]⟩) (ms := [0, 1, 3, 7, 15, 0, 32, 0, 224, 480, 1023, 2047, 0, 8191]) Q7 rfl (by kernel_rfl) (by kernel_rfl) (by kernel_rfl) (fun p => by kernel_rfl) (fun p => sf rfl) (fun _ => rfl) (fun p u hu => (tN (Qc hu ?_)))
  refine T.seq ?_
  refine Y3 ?_
  refine dC (c := ⟨some 29, .ptr ((p 12).2) (0 + 7), [(9, .ptr ((p 12).2) 0)], [], []⟩) (fun t hm => oF rfl rfl (Qg rfl (dk rfl) Ed rfl i4 (by decide) hm.s0 ⟨u0, rfl⟩)) (fun _ => rfl) (fun _ => rfl) ?_
  refine dC (c := ⟨some 30, .bool j.Last, [(29, .ptr ((p 12).2) (0 + 7))], [(0, .box ((p 12).2) 104 [.d (.int .u64 j.S.a0), .d (.int .u64 j.S.a1), .d (.int .u64 j.S.a2), .d (.int .u64 j.S.a3), .d (.int .i64 j.Lo), .d (.int .i64 j.Hi), .d (.int .i64 j.Rule), .d (.bool j.Last), .d (.sl false 1 (mI j.Next))])], []⟩) (fun t hm => oF rfl rfl (Qm (i := 0) rfl (dk rfl) ul4 rfl hm.s0 hm.o0 rfl ⟨u0, rfl⟩)) (fun _ => rfl) (fun _ => rfl) ?_
  refine dC (c := ⟨some 31, .bool j.Last, [(30, .bool j.Last)], [], []⟩) (fun t hm => oF rfl rfl (OpT.move rfl (dk rfl) hm.s0 ⟨u0, rfl⟩)) (fun _ => rfl) (fun _ => rfl) ?_
  rcases Qd h with ⟨aa, h⟩ | ⟨aa, h⟩
  refine dC (c := ⟨some 32, .ptr bx0 0, [(0, .ptr bx0 0), (31, .bool j.Last)], [], []⟩) (fun t hm => oN rfl rfl rfl hm.s1 aa (OpT.move rfl (dk rfl) hm.s0 ⟨u0, rfl⟩)) (fun _ => rfl) (fun _ => rfl) ?_
  refine dC (c := ⟨some 33, .agg [.sl false 1 (mI x1.L), .sl false 1 (mI x1.R), .sl false 1 (mI x1.Rule), .sl false 1 (x1.Next.map (cL 2 Qu))], [(4, .ptr w 0), (31, .bool j.Last)], [(5, (Zw w x1.L x1.R x1.Rule x1.Next))], []⟩) (fun t hm => oN rfl rfl rfl hm.s1 aa (Ze (i := 5) (l := [.sl false 1 (mI x1.L), .sl false 1 (mI x1.R), .sl false 1 (mI x1.Rule), .sl false 1 (x1.Next.map (cL 2 Qu))]) rfl (dk rfl) Vm rfl i59 hm.s0 hm.o0 rfl rfl ⟨u0, rfl⟩)) (fun _ => rfl) (fun _ => rfl) ?_
  refine dC (c := ⟨some 34, .int .i64 x2, [(2, .int .i64 x2), (31, .bool j.Last)], [], []⟩) (fun t hm => oN rfl rfl rfl hm.s1 aa (OpT.move rfl (dk rfl) hm.s0 ⟨u0, rfl⟩)) (fun _ => rfl) (fun _ => rfl) ?_
  refine dC (c := ⟨some 35, .ptr w (0 + 0), [(4, .ptr w 0), (31, .bool j.Last)], [], []⟩) (fun t hm => oN rfl rfl rfl hm.s1 aa (Qg rfl (dk rfl) Vm rfl i56 (by decide) hm.s0 ⟨u0, rfl⟩)) (fun _ => rfl) (fun _ => rfl) ?_
  refine dC (c := ⟨some 36, .sl false 1 (mI x1.L), [(35, .ptr w (0 + 0)), (31, .bool j.Last)], [(5, (Zw w x1.L x1.R x1.Rule x1.Next))], []⟩) (fun t hm => oN rfl rfl rfl hm.s1 aa (Qm (i := 5) rfl (dk rfl) Yd rfl hm.s0 hm.o0 rfl ⟨u0, rfl⟩)) (fun _ => rfl) (fun _ => rfl) ?_
  refine dC (c := ⟨some 37, .int .i64 y, [(8, .int .i64 y), (31, .bool j.Last)], [], []⟩) (fun t hm => oN rfl rfl rfl hm.s1 aa (OpT.move rfl (dk rfl) hm.s0 ⟨u0, rfl⟩)) (fun _ => rfl) (fun _ => rfl) ?_
  refine dC (c := ⟨some 38, .ref [.int .i64 ab], [(36, .sl false 1 (mI x1.L)), (37, .int .i64 y), (31, .bool j.Last)], [], []⟩) (fun t hm => oN rfl rfl rfl hm.s2 aa (Qh (xs := x1.L) (f := (cI .i64)) (v := ab) rfl (dk rfl) Yd i3 hm.s0 hm.s1 am ⟨u0, rfl⟩)) (fun _ => rfl) (fun _ => rfl) ?_
  refine dC (c := ⟨some 39, .int .i64 ab, [(38, .ref [.int .i64 ab]), (31, .bool j.Last)], [], []⟩) (fun t hm => oN rfl rfl rfl hm.s1 aa (Qr rfl (dk rfl) ul3 rfl hm.s0 rfl ⟨u0, rfl⟩)) (fun _ => rfl) (fun _ => rfl) ?_
  obtain ⟨ac, ap, h⟩ := bind_some h
  refine DGG.step (c := fun m => ⟨some 40, .bool ac, [(32, .ptr bx0 0), (33, .agg [.sl false 1 (mI x1.L), .sl false 1 (mI x1.R), .sl false 1 (mI x1.Rule), .sl false 1 (x1.Next.map (cL 2 Qu))]), (34, .int .i64 x2), (39, .int .i64 ab), (31, .bool j.Last)], [(4, .arrX w0_0aa 59 4 0 (x0.a.States.map Q0)), (3, .arrA af 42 2 (mA x0.a.Counts)), (2, .arrA ad 3 1 (mI x0.number)), (1, (Yf bx0 x0.g.First x0.g.P ad x0.a.Split.Of x0.a.Split.Many af w0_0aa x0.e))], [(1, (Yf bx0 x0.g.First x0.g.P ((m 11).1 0) x0.a.Split.Of x0.a.Split.Many ((m 11).1 1) ((m 11).1 2) x0.e)), (2, .arrA ((m 11).1 0) 3 1 (mI x0.number)), (3, .arrA ((m 11).1 1) 42 2 (mA x0.a.Counts)), (4, .arrX ((m 11).1 2) 59 4 0 (x0.a.States.map Q0))]⟩) [11] (fun m γ' h => by simp only [h 11 (by decide)]) (fun m t hm => One.step rfl (.on rfl rfl (hm.slots (31, _) (.tail _ (.tail _ (.tail _ (.tail _ (.head _)))))) aa) (Q2 (is := [1, 2, 3, 4]) (ph := []) rfl (dk rfl) Try.func70 rfl rfl (Q3.cons hm.s0 (Q3.cons hm.s1 (Q3.cons hm.s2 (Q3.cons hm.s3 Q3.nil)))) (Dz K (bx0 := bx0) (wx0c1 := ad) (wx0c2c1 := af) (wx0c2c2 := w0_0aa) ap) (.cons (hm.objs (1, _) (.tail _ (.tail _ (.tail _ (.head _))))) rfl (.cons hm.o2 rfl (.cons hm.o1 rfl (.cons hm.o0 rfl (.nil))))) (fun _ => rfl) (fun g => ⟨(g, 0), rfl⟩))) (fun m => Zq rfl rfl) ?_
  refine dC (c := ⟨some 41, .bool ac, [(31, .bool j.Last), (40, .bool ac)], [], []⟩) (fun t hm => oF rfl rfl (Qi rfl (dk rfl) hm.s0 aa hm.s1 ⟨u0, rfl⟩)) (fun _ => rfl) (fun _ => rfl) ?_
  refine dC (c := ⟨some 42, .bool ac, [(41, .bool ac)], [], []⟩) (fun t hm => oF rfl rfl (OpT.move rfl (dk rfl) hm.s0 ⟨u0, rfl⟩)) (fun _ => rfl) (fun _ => rfl) ?_
  rcases Qd h with ⟨ag, h⟩ | ⟨ag, h⟩
  refine dC (c := ⟨some 43, .int .i64 q, [(7, .int .i64 q), (42, .bool ac)], [], []⟩) (fun t hm => oN rfl rfl rfl hm.s1 ag (OpT.move rfl (dk rfl) hm.s0 ⟨u0, rfl⟩)) (fun _ => rfl) (fun _ => rfl) ?_
  refine dC (c := ⟨some 44, .bool (decide (q < (0:Int))), [(43, .int .i64 q), (42, .bool ac)], [], []⟩) (fun t hm => oN rfl rfl rfl hm.s1 ag (Qa rfl rfl (dk rfl) hm.s0 rfl ⟨u0, rfl⟩)) (fun _ => rfl) (fun _ => rfl) ?_
  refine dC (c := ⟨some 45, .bool (decide (q < (0:Int))), [(44, .bool (decide (q < (0:Int)))), (42, .bool ac)], [], []⟩) (fun t hm => oN rfl rfl rfl hm.s1 ag (OpT.move rfl (dk rfl) hm.s0 ⟨u0, rfl⟩)) (fun _ => rfl) (fun _ => rfl) ?_
  rcases Qd h with ⟨ai, h⟩ | ⟨ai, h⟩
  refine DGG.off ai rfl rfl rfl rfl rfl (fun _ => rfl) ?_
  refine DGG.off ai rfl rfl rfl rfl rfl (fun _ => rfl) ?_
  refine DGG.off ai rfl rfl rfl rfl rfl (fun _ => rfl) ?_
  refine DGG.off ai rfl rfl rfl rfl rfl (fun _ => rfl) ?_
  refine dC (c := ⟨some 50, .bool true, [(45, .bool (decide (q < (0:Int)))), (42, .bool ac)], [], []⟩) (fun t hm => oN rfl rfl rfl hm.s1 ag (Qi rfl (dk rfl) hm.s0 ai rfl ⟨u0, rfl⟩)) (fun _ => rfl) (fun _ => rfl) ?_
  refine dC (c := ⟨some 51, .bool true, [(42, .bool ac), (50, .bool true)], [], []⟩) (fun t hm => oF rfl rfl (Qi rfl (dk rfl) hm.s0 ag hm.s1 ⟨u0, rfl⟩)) (fun _ => rfl) (fun _ => rfl) ?_
  refine Vi (s1 := fun m => ⟨[(0, .ptr bx0 0), (2, .int .i64 x2), (4, .ptr w 0), (7, .int .i64 q), (8, .int .i64 y), (9, .ptr ((p 12).2) 0), (32, .ptr bx0 0), (33, .agg [.sl false 1 (mI x1.L), .sl false 1 (mI x1.R), .sl false 1 (mI x1.Rule), .sl false 1 (x1.Next.map (cL 2 Qu))]), (34, .int .i64 x2), (35, .ptr w (0 + 0)), (36, .sl false 1 (mI x1.L)), (37, .int .i64 y), (38, .ref [.int .i64 ab]), (39, .int .i64 ab), (40, .bool ac), (43, .int .i64 q), (44, .bool (decide (q < (0:Int)))), (45, .bool (decide (q < (0:Int)))), (46, .tup []), (47, .tup []), (48, .tup []), (49, .tup []), (50, .bool true), (51, .bool true)], [.box ((p 12).2) 104 [.d (.int .u64 j.S.a0), .d (.int .u64 j.S.a1), .d (.int .u64 j.S.a2), .d (.int .u64 j.S.a3), .d (.int .i64 j.Lo), .d (.int .i64 j.Hi), .d (.int .i64 j.Rule), .d (.bool j.Last), .d (.sl false 1 (mI j.Next))], (Yf bx0 x0.g.First x0.g.P ((m 11).1 0) x0.a.Split.Of x0.a.Split.Many ((m 11).1 1) ((m 11).1 2) x0.e), .arrA ((m 11).1 0) 3 1 (mI x0.number), .arrA ((m 11).1 1) 42 2 (mA x0.a.Counts), .arrX ((m 11).1 2) 59 4 0 (x0.a.States.map Q0), (Zw w x1.L x1.R x1.Rule x1.Next)]⟩) (ms := [0, 1, 3, 7, 7, 7, 7, 71, 7, 455, 967, 2047, 4095, 8191, 16383, 32767, 65535, 131071, 262143, 131071, 1048575, 2097151, 4194303]) Q7 rfl (by kernel_rfl) (by kernel_rfl) (by kernel_rfl) (fun m => by kernel_rfl) (fun m => sf rfl) (fun _ => rfl) (fun m u hu => (tN (Qc hu ?_)))
  refine Qk rfl rfl ?_
  refine Qc ?_ (Mj K bx0 x0 (Ya K k) ih x2 y x1 y ab ab ac q (decide (q < (0:Int))) (decide (q < (0:Int))) true x0 j.S j.Lo j.Hi j.Rule j.Last j.Next ((m 11).1 0) ((m 11).1 1) ((m 11).1 2) w ((p 12).2) h)
  exact tr rfl (.c (.s .z) (.c (.s .z) (.c (.s .z) (.c (.s .z) (.c (.s .z) (.c .z (.n _)))))))
  refine dC (c := ⟨some 46, .ptr ((p 12).2) (0 + 6), [(9, .ptr ((p 12).2) 0), (45, .bool (decide (q < (0:Int))))], [], []⟩) (fun t hm => oN rfl rfl rfl hm.s1 ai (Qg rfl (dk rfl) Ed rfl i3 (by decide) hm.s0 ⟨u0, rfl⟩)) (fun _ => rfl) (fun _ => rfl) ?_
  refine dC (c := ⟨some 47, .int .i64 j.Rule, [(46, .ptr ((p 12).2) (0 + 6)), (45, .bool (decide (q < (0:Int))))], [(0, .box ((p 12).2) 104 [.d (.int .u64 j.S.a0), .d (.int .u64 j.S.a1), .d (.int .u64 j.S.a2), .d (.int .u64 j.S.a3), .d (.int .i64 j.Lo), .d (.int .i64 j.Hi), .d (.int .i64 j.Rule), .d (.bool j.Last), .d (.sl false 1 (mI j.Next))])], []⟩) (fun t hm => oN rfl rfl rfl hm.s1 ai (Qm (i := 0) rfl (dk rfl) ul3 rfl hm.s0 hm.o0 rfl ⟨u0, rfl⟩)) (fun _ => rfl) (fun _ => rfl) ?_
  refine dC (c := ⟨some 48, .int .i64 q, [(7, .int .i64 q), (45, .bool (decide (q < (0:Int))))], [], []⟩) (fun t hm => oN rfl rfl rfl hm.s1 ai (OpT.move rfl (dk rfl) hm.s0 ⟨u0, rfl⟩)) (fun _ => rfl) (fun _ => rfl) ?_
  refine dC (c := ⟨some 49, .bool (decide (j.Rule < q)), [(47, .int .i64 j.Rule), (48, .int .i64 q), (45, .bool (decide (q < (0:Int))))], [], []⟩) (fun t hm => oN rfl rfl rfl hm.s2 ai (Qa rfl rfl (dk rfl) hm.s0 hm.s1 ⟨u0, rfl⟩)) (fun _ => rfl) (fun _ => rfl) ?_
  refine dC (c := ⟨some 50, .bool (decide (j.Rule < q)), [(45, .bool (decide (q < (0:Int)))), (49, .bool (decide (j.Rule < q))), (42, .bool ac)], [], []⟩) (fun t hm => oN rfl rfl rfl hm.s2 ag (Qs rfl (dk rfl) hm.s0 ai hm.s1 ⟨u0, rfl⟩)) (fun _ => rfl) (fun _ => rfl) ?_
  refine dC (c := ⟨some 51, .bool (decide (j.Rule < q)), [(42, .bool ac), (50, .bool (decide (j.Rule < q)))], [], []⟩) (fun t hm => oF rfl rfl (Qi rfl (dk rfl) hm.s0 ag hm.s1 ⟨u0, rfl⟩)) (fun _ => rfl) (fun _ => rfl) ?_
  refine Vi (s1 := fun m => ⟨[(0, .ptr bx0 0), (2, .int .i64 x2), (4, .ptr w 0), (7, .int .i64 q), (8, .int .i64 y), (9, .ptr ((p 12).2) 0), (32, .ptr bx0 0), (33, .agg [.sl false 1 (mI x1.L), .sl false 1 (mI x1.R), .sl false 1 (mI x1.Rule), .sl false 1 (x1.Next.map (cL 2 Qu))]), (34, .int .i64 x2), (35, .ptr w (0 + 0)), (36, .sl false 1 (mI x1.L)), (37, .int .i64 y), (38, .ref [.int .i64 ab]), (39, .int .i64 ab), (40, .bool ac), (43, .int .i64 q), (44, .bool (decide (q < (0:Int)))), (45, .bool (decide (q < (0:Int)))), (46, .ptr ((p 12).2) (0 + 6)), (47, .int .i64 j.Rule), (48, .int .i64 q), (49, .bool (decide (j.Rule < q))), (50, .bool (decide (j.Rule < q))), (51, .bool (decide (j.Rule < q)))], [.box ((p 12).2) 104 [.d (.int .u64 j.S.a0), .d (.int .u64 j.S.a1), .d (.int .u64 j.S.a2), .d (.int .u64 j.S.a3), .d (.int .i64 j.Lo), .d (.int .i64 j.Hi), .d (.int .i64 j.Rule), .d (.bool j.Last), .d (.sl false 1 (mI j.Next))], (Yf bx0 x0.g.First x0.g.P ((m 11).1 0) x0.a.Split.Of x0.a.Split.Many ((m 11).1 1) ((m 11).1 2) x0.e), .arrA ((m 11).1 0) 3 1 (mI x0.number), .arrA ((m 11).1 1) 42 2 (mA x0.a.Counts), .arrX ((m 11).1 2) 59 4 0 (x0.a.States.map Q0), (Zw w x1.L x1.R x1.Rule x1.Next)]⟩) (ms := [0, 1, 3, 7, 7, 7, 7, 71, 7, 455, 967, 2047, 4095, 8191, 16383, 32767, 65535, 131071, 262143, 131071, 1048575, 2097151, 4194303]) Q7 rfl (by kernel_rfl) (by kernel_rfl) (by kernel_rfl) (fun m => by kernel_rfl) (fun m => sf rfl) (fun _ => rfl) (fun m u hu => (tN (Qc hu ?_)))
  rcases Qd h with ⟨al, h⟩ | ⟨al, h⟩
  refine Qk rfl al ?_
  refine Qc ?_ (Mj K bx0 x0 (Ya K k) ih x2 y x1 y ab ab ac q (decide (q < (0:Int))) (decide (q < (0:Int))) (decide (j.Rule < q)) x0 j.S j.Lo j.Hi j.Rule j.Last j.Next ((m 11).1 0) ((m 11).1 1) ((m 11).1 2) w ((p 12).2) h)
  exact tr rfl (.c (.s .z) (.c (.s .z) (.c (.s .z) (.c (.s .z) (.c (.s .z) (.c .z (.n _)))))))
  refine Qo rfl al ?_
  refine T.skip (Qe (tN ?_))
  refine Qq ?_
  refine mw rfl ?_
  refine sp rfl (Qa rfl rfl (dk rfl) rfl rfl ?_)
  refine aw rfl ?_
  refine TL'.nil (tN ?_)
  refine Qb ?_ (ih x2 q (wI (y + (1:Int))) x0 x1 ((m 11).1 0) ((m 11).1 1) ((m 11).1 2) w h)
  exact tr rfl (.c (.s .z) (.c (.s .z) (.c (.s .z) (.c (.s .z) (.c (.s .z) (.n _))))))
  refine DGG.off ag rfl rfl rfl rfl rfl (fun _ => rfl) ?_
  refine DGG.off ag rfl rfl rfl rfl rfl (fun _ => rfl) ?_
  refine DGG.off ag rfl rfl rfl rfl rfl (fun _ => rfl) ?_
  refine DGG.gone rfl rfl rfl rfl rfl (fun _ => rfl) ?_
  refine DGG.gone rfl rfl rfl rfl rfl (fun _ => rfl) ?_
  refine DGG.gone rfl rfl rfl rfl rfl (fun _ => rfl) ?_
  refine DGG.gone rfl rfl rfl rfl rfl (fun _ => rfl) ?_
  refine DGG.off ag rfl rfl rfl rfl rfl (fun _ => rfl) ?_
  refine dC (c := ⟨some 51, .bool false, [(42, .bool ac)], [], []⟩) (fun t hm => oF rfl rfl (Qs rfl (dk rfl) hm.s0 ag rfl ⟨u0, rfl⟩)) (fun _ => rfl) (fun _ => rfl) ?_
  refine Vi (s1 := fun m => ⟨[(0, .ptr bx0 0), (2, .int .i64 x2), (4, .ptr w 0), (7, .int .i64 q), (8, .int .i64 y), (9, .ptr ((p 12).2) 0), (32, .ptr bx0 0), (33, .agg [.sl false 1 (mI x1.L), .sl false 1 (mI x1.R), .sl false 1 (mI x1.Rule), .sl false 1 (x1.Next.map (cL 2 Qu))]), (34, .int .i64 x2), (35, .ptr w (0 + 0)), (36, .sl false 1 (mI x1.L)), (37, .int .i64 y), (38, .ref [.int .i64 ab]), (39, .int .i64 ab), (40, .bool ac), (43, .tup []), (44, .tup []), (45, .tup []), (46, .tup []), (47, .tup []), (48, .tup []), (49, .tup []), (50, .tup []), (51, .bool false)], [.box ((p 12).2) 104 [.d (.int .u64 j.S.a0), .d (.int .u64 j.S.a1), .d (.int .u64 j.S.a2), .d (.int .u64 j.S.a3), .d (.int .i64 j.Lo), .d (.int .i64 j.Hi), .d (.int .i64 j.Rule), .d (.bool j.Last), .d (.sl false 1 (mI j.Next))], (Yf bx0 x0.g.First x0.g.P ((m 11).1 0) x0.a.Split.Of x0.a.Split.Many ((m 11).1 1) ((m 11).1 2) x0.e), .arrA ((m 11).1 0) 3 1 (mI x0.number), .arrA ((m 11).1 1) 42 2 (mA x0.a.Counts), .arrX ((m 11).1 2) 59 4 0 (x0.a.States.map Q0), (Zw w x1.L x1.R x1.Rule x1.Next)]⟩) (ms := [0, 1, 3, 7, 7, 7, 7, 71, 7, 455, 967, 2047, 4095, 8191, 16383, 32767, 65535, 131071, 262143, 131071, 1048575, 2097151, 4194303]) Q7 rfl (by kernel_rfl) (by kernel_rfl) (by kernel_rfl) (fun m => by kernel_rfl) (fun m => sf rfl) (fun _ => rfl) (fun m u hu => (tN (Qc hu ?_)))
  refine Qo rfl rfl ?_
  refine T.skip (Qe (tN ?_))
  refine Qq ?_
  refine mw rfl ?_
  refine sp rfl (Qa rfl rfl (dk rfl) rfl rfl ?_)
  refine aw rfl ?_
  refine TL'.nil (tN ?_)
  refine Qb ?_ (ih x2 q (wI (y + (1:Int))) x0 x1 ((m 11).1 0) ((m 11).1 1) ((m 11).1 2) w h)
  exact tr rfl (.c (.s .z) (.c (.s .z) (.c (.s .z) (.c (.s .z) (.c (.s .z) (.n _))))))
  refine DGG.off aa rfl rfl rfl rfl rfl (fun _ => rfl) ?_
  refine DGG.off aa rfl rfl rfl rfl rfl (fun _ => rfl) ?_
  refine DGG.off aa rfl rfl rfl rfl rfl (fun _ => rfl) ?_
  refine DGG.off aa rfl rfl rfl rfl rfl (fun _ => rfl) ?_
  refine DGG.off aa rfl rfl rfl rfl rfl (fun _ => rfl) ?_
  refine DGG.off aa rfl rfl rfl rfl rfl (fun _ => rfl) ?_
  refine DGG.off aa rfl rfl rfl rfl rfl (fun _ => rfl) ?_
  refine DGG.off aa rfl rfl rfl rfl rfl (fun _ => rfl) ?_
  refine DGG.off aa rfl rfl rfl rfl rfl (fun _ => rfl) ?_
  refine dC (c := ⟨some 41, .bool false, [(31, .bool j.Last)], [], []⟩) (fun t hm => oF rfl rfl (Qs rfl (dk rfl) hm.s0 aa rfl ⟨u0, rfl⟩)) (fun _ => rfl) (fun _ => rfl) ?_
  refine dC (c := ⟨some 42, .bool false, [(41, .bool false)], [], []⟩) (fun t hm => oF rfl rfl (OpT.move rfl (dk rfl) hm.s0 ⟨u0, rfl⟩)) (fun _ => rfl) (fun _ => rfl) ?_
  refine DGG.off rfl rfl rfl rfl rfl rfl (fun _ => rfl) ?_
  refine DGG.off rfl rfl rfl rfl rfl rfl (fun _ => rfl) ?_
  refine DGG.off rfl rfl rfl rfl rfl rfl (fun _ => rfl) ?_
  refine DGG.gone rfl rfl rfl rfl rfl (fun _ => rfl) ?_
  refine DGG.gone rfl rfl rfl rfl rfl (fun _ => rfl) ?_
  refine DGG.gone rfl rfl rfl rfl rfl (fun _ => rfl) ?_
  refine DGG.gone rfl rfl rfl rfl rfl (fun _ => rfl) ?_
  refine DGG.off rfl rfl rfl rfl rfl rfl (fun _ => rfl) ?_
  refine dC (c := ⟨some 51, .bool false, [(42, .bool false)], [], []⟩) (fun t hm => oF rfl rfl (Qs rfl (dk rfl) hm.s0 rfl rfl ⟨u0, rfl⟩)) (fun _ => rfl) (fun _ => rfl) ?_
  refine Vi (s1 := fun m => ⟨[(0, .ptr bx0 0), (2, .int .i64 x2), (4, .ptr w 0), (7, .int .i64 q), (8, .int .i64 y), (9, .ptr ((p 12).2) 0), (32, .tup []), (33, .tup []), (34, .tup []), (35, .tup []), (36, .tup []), (37, .tup []), (38, .tup []), (39, .tup []), (40, .tup []), (43, .tup []), (44, .tup []), (45, .tup []), (46, .tup []), (47, .tup []), (48, .tup []), (49, .tup []), (50, .tup []), (51, .bool false)], [.box ((p 12).2) 104 [.d (.int .u64 j.S.a0), .d (.int .u64 j.S.a1), .d (.int .u64 j.S.a2), .d (.int .u64 j.S.a3), .d (.int .i64 j.Lo), .d (.int .i64 j.Hi), .d (.int .i64 j.Rule), .d (.bool j.Last), .d (.sl false 1 (mI j.Next))], (Yf bx0 x0.g.First x0.g.P ad x0.a.Split.Of x0.a.Split.Many af w0_0aa x0.e), .arrA ad 3 1 (mI x0.number), .arrA af 42 2 (mA x0.a.Counts), .arrX w0_0aa 59 4 0 (x0.a.States.map Q0), (Zw w x1.L x1.R x1.Rule x1.Next)]⟩) (ms := [0, 1, 3, 7, 7, 7, 7, 71, 7, 455, 967, 2047, 4095, 8191, 16383, 32767, 65535, 131071, 262143, 131071, 1048575, 2097151, 4194303]) Q7 rfl (by kernel_rfl) (by kernel_rfl) (by kernel_rfl) (fun m => by kernel_rfl) (fun m => sf rfl) (fun _ => rfl) (fun m u hu => (tN (Qc hu ?_)))
  refine Qo rfl rfl ?_
  refine T.skip (Qe (tN ?_))
  refine Qq ?_
  refine mw rfl ?_
  refine sp rfl (Qa rfl rfl (dk rfl) rfl rfl ?_)
  refine aw rfl ?_
  refine TL'.nil (tN ?_)
  refine Qb ?_ (ih x2 q (wI (y + (1:Int))) x0 x1 ad af w0_0aa w h)
  exact tr rfl (.c (.s .z) (.c (.s .z) (.c (.s .z) (.c (.s .z) (.c (.s .z) (.n _))))))
  refine Qo rfl aj ?_
  refine T.exit (Qf (Qf (Qp (tN ?_))))
  refine T.seq (Qq ?_)
  refine mw rfl ?_
  refine aw rfl ?_
  refine TL'.nil (tN ?_)
  refine T.ret ?_
  exact Q6 (.cons _ _ _ _ (.tmp 6 _ rfl) .nil) (.cons 0 rfl (.cons 0 rfl (.cons 0 rfl (.cons 0 rfl (.nil _))))) (by cases h; exact ⟨gl [ad, af, w0_0aa], rfl, rfl⟩)
theorem S6 (K : Nat) {x0 : Qj} {x1 : aSt} {x2 : Int} {bx0 : Nat} {wx0c1 wx0c2c1 wx0c2c2 : Value} {r : Int} (h : Bq K x0 x1 x2 = some r) : Uz tp 51 [.ptr bx0 0, .agg [.sl false 1 (mI x1.L), .sl false 1 (mI x1.R), .sl false 1 (mI x1.Rule), .sl false 1 (x1.Next.map (cL 2 Qu))], .int .i64 x2] [(Yf bx0 x0.g.First x0.g.P wx0c1 x0.a.Split.Of x0.a.Split.Many wx0c2c1 wx0c2c2 x0.e), .arrA wx0c1 3 1 (mI x0.number), .arrA wx0c2c1 42 2 (mA x0.a.Counts), .arrX wx0c2c2 59 4 0 (x0.a.States.map Q0)] (fun γ => (.int .i64 r)) (fun γ => [(Yf bx0 x0.g.First x0.g.P (γ 0) x0.a.Split.Of x0.a.Split.Many (γ 1) (γ 2) x0.e), .arrA (γ 0) 3 1 (mI x0.number), .arrA (γ 1) 42 2 (mA x0.a.Counts), .arrX (γ 2) 59 4 0 (x0.a.States.map Q0)]) := by
 refine Qt Try.func51 rfl (nb rfl) ?_
 show T tp 55 (ca [] Try.f51) ⟨Qv 0 [.ptr bx0 0, .agg [.sl false 1 (mI x1.L), .sl false 1 (mI x1.R), .sl false 1 (mI x1.Rule), .sl false 1 (x1.Next.map (cL 2 Qu))], .int .i64 x2], [(Yf bx0 x0.g.First x0.g.P wx0c1 x0.a.Split.Of x0.a.Split.Many wx0c2c1 wx0c2c2 x0.e), .arrA wx0c1 3 1 (mI x0.number), .arrA wx0c2c1 42 2 (mA x0.a.Counts), .arrX wx0c2c2 59 4 0 (x0.a.States.map Q0)]⟩ (L3 bx0 x0 r)
 unfold Bq at h
 refine T.seq (Qq ?_)
 refine sp rfl (Zg rfl (dk rfl) rfl (fun b => ?_))
 refine aw rfl ?_
 refine TL'.nil (tN (T.seq (Qq ?_)))
 refine aw rfl ?_
 refine TL'.nil (tN ?_)
 refine T.seq ?_
 refine T.seq (Qq ?_)
 refine aw rfl ?_
 refine TL'.nil (tN ?_)
 refine T.block ?_
 refine T.loop ?_
 refine Qb ?_ (Oe K bx0 x0 K x2 (-1:Int) (0:Int) x0 x1 wx0c1 wx0c2c1 wx0c2c2 b h)
 exact tr rfl (.c (.s .z) (.c (.s .z) (.c (.s .z) (.c (.s .z) (.c .z (.n _))))))
end Go.Rv

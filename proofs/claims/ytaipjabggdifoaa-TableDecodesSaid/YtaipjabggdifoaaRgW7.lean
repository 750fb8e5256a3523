/- Each function computes what its plain text says: printed by a program of ours. -/
import Derived.Test.YtaipjabggdifoaaRgW6
namespace Go.Rv
open Go.Proofs
set_option maxRecDepth 100000
set_option maxHeartbeats 4000000
set_option linter.unusedVariables false
abbrev Pu (bx0 : Nat) (wx1 : Value) (x1 : List (Bool × aSt)) (r : aSt × r4r) : ES := Jk tp Try.f60 (fun y t => ∃ γ : Nat → Value, y = (.agg [.sl false 1 (mI r.1.L), .sl false 1 (mI r.1.R), .sl false 1 (mI r.1.Rule), .sl false 1 (r.1.Next.map (cL 2 Qu))]) ∧ t = [(Yt bx0 r.2.b r.2.bad), .arrX wx1 59 4 0 (x1.map Qw)])
abbrev Qaq (bx0 : Nat) (wx1 : Value) (x1 : List (Bool × aSt)) (r : aSt × r4r) : ES := thenS (fun s' => T tp 96 (ca [1,1,1] Try.f60) s' ((Pu bx0 wx1 x1 r))) ((Pu bx0 wx1 x1 r))
abbrev W4 (bx0 : Nat) (wx1 : Value) (x1 : List (Bool × aSt)) (r : aSt × r4r) : ES := Qz 0 ((Qaq bx0 wx1 x1 r))
abbrev W3 (bx0 : Nat) (wx1 : Value) (x1 : List (Bool × aSt)) (r : aSt × r4r) : ES := thenS (fun s' => TL tp 96 (ca [1,1,0,1,0,0] Try.f60) s' ((W4 bx0 wx1 x1 r))) ((W4 bx0 wx1 x1 r))
abbrev N8 (bx0 : Nat) (wx1 : Value) (x1 : List (Bool × aSt)) (r : aSt × r4r) : ES := thenS (fun s' => T tp 96 (ca [1,1,0,1,0,0,1,1] Try.f60) s' ((W3 bx0 wx1 x1 r))) ((W3 bx0 wx1 x1 r))
abbrev H8 (bx0 : Nat) (wx1 : Value) (x1 : List (Bool × aSt)) (r : aSt × r4r) : ES := Qz 1 ((N8 bx0 wx1 x1 r))
abbrev Dr (bx0 : Nat) (wx1 : Value) (x1 : List (Bool × aSt)) (r : aSt × r4r) : ES := thenS (fun s' => T tp 96 (ca [1,1,0,1,0,0,1,0,0,1,1,1] Try.f60) s' ((H8 bx0 wx1 x1 r))) ((H8 bx0 wx1 x1 r))
abbrev Y5 (bx0 : Nat) (wx1 : Value) (x1 : List (Bool × aSt)) (r : aSt × r4r) : ES := Qz 2 ((Dr bx0 wx1 x1 r))
abbrev X0 (bx0 : Nat) (wx1 : Value) (x1 : List (Bool × aSt)) (r : aSt × r4r) : ES := thenS (fun s' => TL tp 96 (ca [1,1,0,1,0,0,1,0,0,1,1,0,1,0,0] Try.f60) s' ((Y5 bx0 wx1 x1 r))) ((Y5 bx0 wx1 x1 r))
abbrev K8 (bx0 : Nat) (wx1 : Value) (x1 : List (Bool × aSt)) (r : aSt × r4r) : ES := thenS (fun s' => T tp 96 (ca [1,1,0,1,0,0,1,0,0,1,1,0,1,0,0,1,1] Try.f60) s' ((X0 bx0 wx1 x1 r))) ((X0 bx0 wx1 x1 r))
abbrev Z6 (bx0 : Nat) (wx1 : Value) (x1 : List (Bool × aSt)) (r : aSt × r4r) : ES := Qz 3 ((K8 bx0 wx1 x1 r))
abbrev Gv (bx0 : Nat) (wx1 : Value) (x1 : List (Bool × aSt)) (r : aSt × r4r) : ES := thenS (fun s' => T tp 96 (ca [1,1,0,1,0,0,1,0,0,1,1,0,1,0,0,1,0,0,1,1,1] Try.f60) s' ((Z6 bx0 wx1 x1 r))) ((Z6 bx0 wx1 x1 r))
abbrev Mv (bx0 : Nat) (wx1 : Value) (x1 : List (Bool × aSt)) (r : aSt × r4r) : ES := thenS (fun s' => T tp 96 (ca [1,1,0,1,0,0,1,0,0,1,1,0,1,0,0,1] Try.f60) s' ((X0 bx0 wx1 x1 r))) ((X0 bx0 wx1 x1 r))
abbrev Pt (bx0 : Nat) (wx1 : Value) (x1 : List (Bool × aSt)) (r : aSt × r4r) : ES := thenS (fun s' => T tp 96 (ca [1,1,0,1,0,0,1] Try.f60) s' ((W3 bx0 wx1 x1 r))) ((W3 bx0 wx1 x1 r))
abbrev C3 (bx0 : Nat) (wx1 : Value) (x1 : List (Bool × aSt)) (r : aSt × r4r) (go : Int → Int → Int → Bool → Bool → (List Int) → Bool → (List (Bool × aSt)) → (List Int) → (List Int) → (List Int) → (List (List aMv)) → (List Int) → (List Int) → (List Int) → (List (List aMv)) → (List aMv) → Option (aSt × r4r)) : Prop := ∀ (x3 a b : Int) (f g : Bool) (i : List Int) (j : Bool) (x1 : List (Bool × aSt)) (l m n : List Int) (p : List (List aMv)) (q s u : List Int) (v : List (List aMv)) (w : List aMv) (y : Nat) (z aa : Value) (ab : Nat) (ac ad af : Value), go x3 a b f g i j x1 l m n p q s u v w = some r → TL tp 96 (ca [1,1,0,1,0,0,1,0,0,1,1,0,1,0,0] Try.f60) ⟨[(0, .ptr bx0 0), (1, .c (.ex wx1)), (3, .int .i64 x3), (8, .ptr y 0), (9, .ptr ab 0), (10, .int .i64 a), (11, .c (.ex af)), (12, .int .i64 b), (25, .ptr bx0 0), (26, .ptr bx0 0), (27, .ptr bx0 (0 + 1)), (28, .bool f), (29, .bool g)], [(Yt bx0 i j), .arrX wx1 59 4 0 (x1.map Qw), (Wu y l m z aa), .arrA z 3 1 (mI n), .arrA aa 61 1 (p.map (cL 2 Qu)), (Wu ab q s ac ad), .arrA ac 3 1 (mI u), .arrA ad 61 1 (v.map (cL 2 Qu)), .arrA af 63 2 (w.map Qu)]⟩ (Y5 bx0 wx1 x1 r)
theorem O2 {r : aSt × r4r} (K bx0 : Nat) (wx1 : Value) (x1 : List (Bool × aSt)) (go1 : Int → Int → Int → Bool → Bool → (List Int) → Bool → (List (Bool × aSt)) → (List Int) → (List Int) → (List Int) → (List (List aMv)) → (List Int) → (List Int) → (List Int) → (List (List aMv)) → (List aMv) → Option (aSt × r4r)) (hgo1 : C3 bx0 wx1 x1 r go1) (x3 j m : Int) (p q : Bool) (ap aq : Bool) (s : List Int) (u : Bool) (x1 : List (Bool × aSt)) (v w y : List Int) (aa : List (List aMv)) (ab ac ad : List Int) (af : List (List aMv)) (g : List aMv) (a : Int) (b : List Int) (ag : Nat) (ai aj : Value) (al : Nat) (am an au : Value) (av : Nat) (h : Ul K go1 x3 j m p q ap aq s u x1 v w y aa ab ac ad af g a b = some r) : T tp 96 (ca [1,1,0,1,0,0,1,0,0,1,1,0,1,0,0,1,0,0,1,1,1] Try.f60) ⟨[(0, .ptr bx0 0), (1, .c (.ex wx1)), (3, .int .i64 x3), (8, .ptr ag 0), (9, .ptr al 0), (10, .int .i64 j), (11, .c (.ex au)), (12, .int .i64 m), (13, .ptr av 0), (25, .ptr bx0 0), (26, .ptr bx0 0), (27, .ptr bx0 (0 + 1)), (28, .bool p), (29, .bool q), (45, .ptr bx0 0), (46, .ptr bx0 0), (47, .ptr bx0 (0 + 1)), (48, .bool ap), (49, .bool aq)], [(Yt bx0 s u), .arrX wx1 59 4 0 (x1.map Qw), (Wu ag v w ai aj), .arrA ai 3 1 (mI y), .arrA aj 61 1 (aa.map (cL 2 Qu)), (Wu al ab ac am an), .arrA am 3 1 (mI ad), .arrA an 61 1 (af.map (cL 2 Qu)), .arrA au 63 2 (g.map Qu), (W9 av a b)]⟩ (Z6 bx0 wx1 x1 r) := by
 unfold Ul at h
 refine Qq ?_
 refine mw rfl ?_
 refine sp rfl (Ze (i := 9) (l := [.int .i64 a, .sl false 1 (mU b)]) rfl (dk rfl) Kg rfl i63 rfl rfl rfl rfl ?_)
 refine sp rfl (OpT.buildSlice (elems := ([(aMv.mk a b)] : List aMv).map Qu) rfl (dk rfl) Fq i63 (by decide) rfl (J6 rfl) rfl rfl rfl (Yp rfl) (by decide) ?_)
 obtain ⟨ay, h⟩ := Zh h
 refine sp rfl (Za (i := 8) (xs := g) (ys := [(aMv.mk a b)]) (f := Qu) rfl (dk rfl) Fq i63 rfl rfl rfl rfl ay (fun az => ?_))
 refine aw rfl ?_
 refine TL'.nil (Qe (tN ?_))
 refine Qq ?_
 refine mw rfl ?_
 refine sp rfl (Qa rfl rfl (dk rfl) rfl rfl ?_)
 refine aw rfl ?_
 refine TL'.nil (tN ?_)
 refine Qb ?_ (hgo1 x3 j (wI (m + (1:Int))) p q s u x1 v w y aa ab ac ad af (g ++ [(aMv.mk a b)]) ag ai aj al am an az h)
 exact tq rfl rfl
theorem O1 {r : aSt × r4r} (K bx0 : Nat) (wx1 : Value) (x1 : List (Bool × aSt)) (go1 : Int → Int → Int → Bool → Bool → (List Int) → Bool → (List (Bool × aSt)) → (List Int) → (List Int) → (List Int) → (List (List aMv)) → (List Int) → (List Int) → (List Int) → (List (List aMv)) → (List aMv) → Option (aSt × r4r)) (hgo1 : C3 bx0 wx1 x1 r go1) (x3 a b : Int) (f g : Bool) (i j : Bool) (l : List Int) (m : Bool) (x1 : List (Bool × aSt)) (p q s : List Int) (u : List (List aMv)) (v w y : List Int) (aa : List (List aMv)) (ab : List aMv) (ac : Int) (ad : Nat) (af ag : Value) (ai : Nat) (aj al am : Value) (an : Nat) (h : Wm K go1 x3 a b f g i j l m x1 p q s u v w y aa ab ac = some r) : T tp 96 (ca [1,1,0,1,0,0,1,0,0,1,1,0,1,0,0,1,0,0,1,1,0,1,1] Try.f60) ⟨[(0, .ptr bx0 0), (1, .c (.ex wx1)), (3, .int .i64 x3), (8, .ptr ad 0), (9, .ptr ai 0), (10, .int .i64 a), (11, .c (.ex am)), (12, .int .i64 b), (13, .ptr an 0), (25, .ptr bx0 0), (26, .ptr bx0 0), (27, .ptr bx0 (0 + 1)), (28, .bool f), (29, .bool g), (45, .ptr bx0 0), (46, .ptr bx0 0), (47, .ptr bx0 (0 + 1)), (48, .bool i), (49, .bool j)], [(Yt bx0 l m), .arrX wx1 59 4 0 (x1.map Qw), (Wu ad p q af ag), .arrA af 3 1 (mI s), .arrA ag 61 1 (u.map (cL 2 Qu)), (Wu ai v w aj al), .arrA aj 3 1 (mI y), .arrA al 61 1 (aa.map (cL 2 Qu)), .arrA am 63 2 (ab.map Qu), (W9 an ac ([] : List Int))]⟩ (Gv bx0 wx1 x1 r) := by
 unfold Wm at h
 refine T.skip (tN ?_)
 refine Qc ?_ (O2 K bx0 wx1 x1 go1 hgo1 x3 a b f g i j l m x1 p q s u v w y aa ab ac [] ad af ag ai aj al am an h)
 exact tq rfl rfl
theorem O4 {r : aSt × r4r} (K bx0 : Nat) (wx1 : Value) (x1 : List (Bool × aSt)) (go1 : Int → Int → Int → Bool → Bool → (List Int) → Bool → (List (Bool × aSt)) → (List Int) → (List Int) → (List Int) → (List (List aMv)) → (List Int) → (List Int) → (List Int) → (List (List aMv)) → (List aMv) → Option (aSt × r4r)) (hgo1 : C3 bx0 wx1 x1 r go1) (x3 j l : Int) (m p : Bool) (q s : Bool) (au : List Int) (av : Bool) (x1 : List (Bool × aSt)) (u v w : List Int) (y : List (List aMv)) (aa ab ac : List Int) (ad : List (List aMv)) (af : List aMv) (g : Int) (ag : Nat) (ai aj : Value) (al : Nat) (am an ap : Value) (aq : Nat) (h : Um K go1 x3 j l m p q s au av x1 u v w y aa ab ac ad af g = some r) : T tp 96 (ca [1,1,0,1,0,0,1,0,0,1,1,0,1,0,0,1,0,0,1,1] Try.f60) ⟨[(0, .ptr bx0 0), (1, .c (.ex wx1)), (3, .int .i64 x3), (8, .ptr ag 0), (9, .ptr al 0), (10, .int .i64 j), (11, .c (.ex ap)), (12, .int .i64 l), (13, .ptr aq 0), (25, .ptr bx0 0), (26, .ptr bx0 0), (27, .ptr bx0 (0 + 1)), (28, .bool m), (29, .bool p), (45, .ptr bx0 0), (46, .ptr bx0 0), (47, .ptr bx0 (0 + 1)), (48, .bool q), (49, .bool s)], [(Yt bx0 au av), .arrX wx1 59 4 0 (x1.map Qw), (Wu ag u v ai aj), .arrA ai 3 1 (mI w), .arrA aj 61 1 (y.map (cL 2 Qu)), (Wu al aa ab am an), .arrA am 3 1 (mI ac), .arrA an 61 1 (ad.map (cL 2 Qu)), .arrA ap 63 2 (af.map Qu), (W9 aq g ([] : List Int))]⟩ (Z6 bx0 wx1 x1 r) := by
 unfold Um at h
 refine T.seq ?_
 refine T.seq (Qq ?_)
 refine sp rfl (Qg rfl (dk rfl) Kg rfl i3 (by decide) rfl ?_)
 refine sp rfl (Qm (i := 9) rfl (dk rfl) ul3 rfl rfl rfl rfl ?_)
 refine sp rfl (Qa rfl rfl (dk rfl) rfl rfl ?_)
 refine mw rfl ?_
 rcases Qd h with ⟨a, h⟩ | ⟨a, h⟩
 refine sn rfl a (OpT.move rfl (dk rfl) rfl ?_)
 refine sn rfl a (OpT.nilCheck rfl (dk rfl) rfl rfl ?_)
 refine sn rfl a (Qg rfl (dk rfl) ul86 rfl i4 (by decide) rfl ?_)
 refine sn rfl a (Qm (i := 0) rfl (dk rfl) ul4 rfl rfl rfl rfl ?_)
 refine sn rfl a (OpT.not rfl (dk rfl) rfl ?_)
 refine sp rfl (Qi rfl (dk rfl) rfl a rfl ?_)
 refine TL'.nil (tN ?_)
 rcases Qd h with ⟨az, h⟩ | ⟨az, h⟩
 refine Qk rfl az ?_
 refine Qq ?_
 refine mw rfl ?_
 refine mw rfl ?_
 refine sp rfl (Qg rfl (dk rfl) Kg rfl i3 (by decide) rfl ?_)
 refine sp rfl (Qm (i := 9) rfl (dk rfl) ul3 rfl rfl rfl rfl ?_)
 obtain ⟨a0, a1, h⟩ := bind_some h
 refine sp rfl (Uy (n := 1) (xs := x1) (f := Qw) (old := a0) rfl (dk rfl) X5 i59 rfl rfl rfl a1 ?_)
 refine sp rfl (Ua rfl (dk rfl) Vm rfl i56 (by decide) rfl ?_)
 refine sp rfl (Tn (i := 1) (xs := x1) (f := Qw) (old := a0) rfl (dk rfl) Yd rfl rfl rfl (Z0 a1).2 rfl ?_)
 refine sp rfl (Qn (xs := a0.2.R) (f := (cI .i64)) rfl (dk rfl) Yd rfl ?_)
 obtain ⟨ay, a2, h⟩ := bind_some h
 refine sp rfl (Q2 (is := [0]) (ph := []) rfl (dk rfl) Try.func57 rfl rfl (Q3.cons rfl (Q3.cons rfl Q3.nil)) (r4r_some_T K (bx0 := bx0) a2) (.cons rfl rfl (.nil)) (fun _ => rfl) (fun a3 => ?_))
 refine nm (.c (.c (.c (.c (.c (.c (.c (.c (.c (.c (.n))))))))))) ?_
 refine sp rfl (Qg rfl (dk rfl) Kg rfl i29 (by decide) rfl ?_)
 refine sp rfl (Xd (i := 9) (cells' := [.d (.int .i64 g), .d (.sl false 1 (mU ay.1))]) rfl rfl i29 rfl rfl rfl (nb rfl) rfl ?_)
 refine TL'.nil (tN ?_)
 refine Qc ?_ (O2 K bx0 wx1 x1 go1 hgo1 x3 j l m p q s ay.2.b ay.2.bad x1 u v w y aa ab ac ad af g ay.1 ag ai aj al am an ap aq h)
 exact tq rfl rfl
 refine Qo rfl az ?_
 refine Qc ?_ (O1 K bx0 wx1 x1 go1 hgo1 x3 j l m p q s au av x1 u v w y aa ab ac ad af g ag ai aj al am an ap aq h)
 exact tq rfl rfl
 refine pf rfl a ?_
 refine pf rfl a ?_
 refine pf rfl a ?_
 refine pf rfl a ?_
 refine pf rfl a ?_
 refine sp rfl (Qs rfl (dk rfl) rfl a rfl ?_)
 refine TL'.nil (tN ?_)
 refine Qo rfl rfl ?_
 refine Qc ?_ (O1 K bx0 wx1 x1 go1 hgo1 x3 j l m p q s au av x1 u v w y aa ab ac ad af g ag ai aj al am an ap aq h)
 exact tq rfl rfl
abbrev O0 (bx0 : Nat) (wx1 : Value) (x1 : List (Bool × aSt)) (r : aSt × r4r) (go : Int → Int → (List Int) → Bool → (List (Bool × aSt)) → (List Int) → (List Int) → (List Int) → (List (List aMv)) → (List Int) → (List Int) → (List Int) → (List (List aMv)) → Option (aSt × r4r)) : Prop := ∀ (x3 a : Int) (b : List Int) (f : Bool) (x1 : List (Bool × aSt)) (g i j : List Int) (l : List (List aMv)) (m n p : List Int) (q : List (List aMv)) (s : Nat) (u v : Value) (w : Nat) (y z : Value), go x3 a b f x1 g i j l m n p q = some r → TL tp 96 (ca [1,1,0,1,0,0] Try.f60) ⟨[(0, .ptr bx0 0), (1, .c (.ex wx1)), (3, .int .i64 x3), (8, .ptr s 0), (9, .ptr w 0), (10, .int .i64 a)], [(Yt bx0 b f), .arrX wx1 59 4 0 (x1.map Qw), (Wu s g i u v), .arrA u 3 1 (mI j), .arrA v 61 1 (l.map (cL 2 Qu)), (Wu w m n y z), .arrA y 3 1 (mI p), .arrA z 61 1 (q.map (cL 2 Qu))]⟩ (W4 bx0 wx1 x1 r)
theorem O3 {r : aSt × r4r} (K bx0 : Nat) (wx1 : Value) (x1 : List (Bool × aSt)) (go0 : Int → Int → (List Int) → Bool → (List (Bool × aSt)) → (List Int) → (List Int) → (List Int) → (List (List aMv)) → (List Int) → (List Int) → (List Int) → (List (List aMv)) → Option (aSt × r4r)) (hgo0 : O0 bx0 wx1 x1 r go0) (x3 m : Int) (af ag : Bool) (p : List Int) (q : Bool) (x1 : List (Bool × aSt)) (s u v : List Int) (w : List (List aMv)) (b g y : List Int) (j : List (List aMv)) (a : List aMv) (aa : Nat) (ab ac : Value) (ad : Nat) (l ai aj : Value) (h : Ci K go0 x3 m af ag p q x1 s u v w b g y j a = some r) : T tp 96 (ca [1,1,0,1,0,0,1,0,0,1,1,0,1,0,0,0,1,1] Try.f60) ⟨[(0, .ptr bx0 0), (1, .c (.ex wx1)), (3, .int .i64 x3), (8, .ptr aa 0), (9, .ptr ad 0), (10, .int .i64 m), (11, .c (.ex aj)), (25, .ptr bx0 0), (26, .ptr bx0 0), (27, .ptr bx0 (0 + 1)), (28, .bool af), (29, .bool ag)], [(Yt bx0 p q), .arrX wx1 59 4 0 (x1.map Qw), (Wu aa s u ab ac), .arrA ab 3 1 (mI v), .arrA ac 61 1 (w.map (cL 2 Qu)), (Wu ad b g l ai), .arrA l 3 1 (mI y), .arrA ai 61 1 (j.map (cL 2 Qu)), .arrA aj 63 2 (a.map Qu)]⟩ (Mv bx0 wx1 x1 r) := by
 unfold Ci at h
 refine T.exit (Qf (Qf (Qp (tN ?_))))
 refine Qq ?_
 refine sp rfl (Qg rfl (dk rfl) Vm rfl i57 (by decide) rfl ?_)
 refine sp rfl (Qm (i := 5) rfl (dk rfl) B0 rfl rfl rfl rfl ?_)
 refine mw rfl ?_
 refine Y7 (Zn.view 91 8 rfl rfl) ?_
 refine sp rfl (OpT.buildSlice (elems := ([a] : List (List aMv)).map (cL 2 Qu)) rfl (dk rfl) B0 i61 (by decide) rfl (J6 rfl) rfl rfl rfl (Yp rfl) (by decide) ?_)
 obtain ⟨am, h⟩ := Zh h
 refine sp rfl (Za (i := 7) (xs := j) (ys := [a]) (f := (cL 2 Qu)) rfl (dk rfl) B0 i61 rfl rfl rfl rfl am (fun al => ?_))
 refine sp rfl (Qg rfl (dk rfl) Vm rfl i57 (by decide) rfl ?_)
 refine sp rfl (Xd (i := 5) (cells' := [.d (.sl false 1 (mI b)), .d (.sl false 1 (mI g)), .d (.ex l), .d (.ex al)]) rfl rfl i57 rfl rfl rfl (nb rfl) rfl ?_)
 refine TL'.nil (Qe (tN ?_))
 refine Qq ?_
 refine mw rfl ?_
 refine sp rfl (Qa rfl rfl (dk rfl) rfl rfl ?_)
 refine aw rfl ?_
 refine TL'.nil (tN ?_)
 refine Qb ?_ (hgo0 x3 (wI (m + (1:Int))) p q x1 s u v w b g y (j ++ [a]) aa ab ac ad l al h)
 exact tq rfl rfl
theorem r4r_state_l1_T {r : aSt × r4r} (K bx0 : Nat) (wx1 : Value) (x1 : List (Bool × aSt)) (go0 : Int → Int → (List Int) → Bool → (List (Bool × aSt)) → (List Int) → (List Int) → (List Int) → (List (List aMv)) → (List Int) → (List Int) → (List Int) → (List (List aMv)) → Option (aSt × r4r)) (hgo0 : O0 bx0 wx1 x1 r go0) : ∀ (k : Nat), ∀ (x3 m aq : Int) (p q : Bool) (au : List Int) (g : Bool) (x1 : List (Bool × aSt)) (u v w : List Int) (y : List (List aMv)) (aa ab ac : List Int) (ad : List (List aMv)) (af : List aMv) (ag : Nat) (ai aj : Value) (al : Nat) (am an ap : Value), Y6 K go0 k x3 m aq p q au g x1 u v w y aa ab ac ad af = some r → TL tp 96 (ca [1,1,0,1,0,0,1,0,0,1,1,0,1,0,0] Try.f60) ⟨[(0, .ptr bx0 0), (1, .c (.ex wx1)), (3, .int .i64 x3), (8, .ptr ag 0), (9, .ptr al 0), (10, .int .i64 m), (11, .c (.ex ap)), (12, .int .i64 aq), (25, .ptr bx0 0), (26, .ptr bx0 0), (27, .ptr bx0 (0 + 1)), (28, .bool p), (29, .bool q)], [(Yt bx0 au g), .arrX wx1 59 4 0 (x1.map Qw), (Wu ag u v ai aj), .arrA ai 3 1 (mI w), .arrA aj 61 1 (y.map (cL 2 Qu)), (Wu al aa ab am an), .arrA am 3 1 (mI ac), .arrA an 61 1 (ad.map (cL 2 Qu)), .arrA ap 63 2 (af.map Qu)]⟩ (Y5 bx0 wx1 x1 r) := by
 intro k
 induction k with
 | zero =>
  intro x3 m aq p q au g x1 u v w y aa ab ac ad af ag ai aj al am an ap h
  cases (show (none : Option (aSt × r4r)) = some r from h)
 | succ k ih =>
  intro x3 m aq p q au g x1 u v w y aa ab ac ad af ag ai aj al am an ap h
  rw [Y6] at h
  refine Q4 ?_
  refine T.seq ?_
  refine T.seq (Qq ?_)
  refine mw rfl ?_
  refine mw rfl ?_
  refine sp rfl (Qa rfl rfl (dk rfl) rfl rfl ?_)
  refine mw rfl ?_
  rcases Qd h with ⟨a, h⟩ | ⟨a, h⟩
  refine sn rfl a (OpT.move rfl (dk rfl) rfl ?_)
  refine sn rfl a (OpT.nilCheck rfl (dk rfl) rfl rfl ?_)
  refine sn rfl a (Qg rfl (dk rfl) ul86 rfl i4 (by decide) rfl ?_)
  refine sn rfl a (Qm (i := 0) rfl (dk rfl) ul4 rfl rfl rfl rfl ?_)
  refine sn rfl a (OpT.not rfl (dk rfl) rfl ?_)
  refine sp rfl (Qi rfl (dk rfl) rfl a rfl ?_)
  refine TL'.nil (tN ?_)
  rcases Qd h with ⟨av, h⟩ | ⟨av, h⟩
  refine Qk rfl av ?_
  refine T.skip (tN ?_)
  refine T.seq ?_
  refine T.block ?_
  refine T.seq (Qq ?_)
  refine mw rfl ?_
  obtain ⟨j, a0, h⟩ := bind_some h
  refine sp rfl (Q2 (is := [0]) (ph := []) rfl (dk rfl) Try.func58 rfl rfl (Q3.cons rfl Q3.nil) (Kp K (bx0 := bx0) a0) (.cons rfl rfl (.nil)) (fun _ => rfl) (fun a1 => ?_))
  refine nm (.c (.c (.c (.c (.c (.c (.c (.c (.c (.n)))))))))) ?_
  refine sp rfl (Qa rfl rfl (dk rfl) rfl rfl ?_)
  refine sp rfl (Zm (OpT.build (l := [.int .i64 (wI (j.1 - (1:Int))), .ex (.slice none 0 0)]) rfl (dk rfl) (Zr (pl := [(0, 1), (1, 1)]) Kg i63 rfl) (J6 rfl) rfl rfl rfl) (Zz 56 (l := [.int .i64 (wI (j.1 - (1:Int))), .ex (.slice none 0 0)]) (l' := [.int .i64 (wI (j.1 - (1:Int))), .sl false 1 (([] : List Int).map (cI .u8))]) (.cons (.same _) (.cons (.nil _ _) (.refl _)))) ?_)
  refine sp rfl (Zi rfl (dk rfl) i63 rfl (fun az => ?_))
  refine sp rfl (Q1 (i := 0) (cells' := [.d (.int .i64 (wI (j.1 - (1:Int)))), .d (.sl false 1 (([] : List Int).map (cI .u8)))]) rfl rfl i63 rfl rfl rfl rfl (nb rfl) rfl ?_)
  refine TL'.nil (tN ?_)
  refine T.seq ?_
  refine T.seq (Qq ?_)
  refine sp rfl (Qg rfl (dk rfl) Kg rfl i3 (by decide) rfl ?_)
  refine sp rfl (Qm (i := 0) rfl (dk rfl) ul3 rfl rfl rfl rfl ?_)
  refine mw rfl ?_
  refine sp rfl (By (i := 2) (xs := x1) (f := Qw) rfl (dk rfl) X5 rfl rfl ?_)
  refine sp rfl (Qa rfl rfl (dk rfl) rfl rfl ?_)
  refine TL'.nil (tN ?_)
  rcases Qd h with ⟨ay, h⟩ | ⟨ay, h⟩
  refine Qk rfl ay ?_
  refine Qq ?_
  refine mw rfl ?_
  refine sp rfl (OpT.nilCheck rfl (dk rfl) rfl rfl ?_)
  refine sp rfl (Qg rfl (dk rfl) ul86 rfl i4 (by decide) rfl ?_)
  refine sp rfl (Xd (i := 1) (cells' := [.d (.sl false 1 (mU j.2.b)), .d (.bool true)]) rfl rfl i4 rfl rfl rfl (nb rfl) rfl ?_)
  refine TL'.nil (tN ?_)
  refine Qc ?_ (O4 K bx0 wx1 x1 (Y6 K go0 k) ih x3 m aq p q g (!g) j.2.b true x1 u v w y aa ab ac ad af (wI (j.1 - (1:Int))) ag ai aj al am an ap az h)
  exact tr rfl (.c (.s .z) (.c (.s .z) (.c (.s .z) (.c (.s .z) (.c (.s .z) (.c (.s .z) (.c (.s .z) (.c (.s .z) (.c (.s .z) (.c .z (.n _)))))))))))
  refine Qo rfl ay ?_
  refine T.skip (tN ?_)
  refine Qc ?_ (O4 K bx0 wx1 x1 (Y6 K go0 k) ih x3 m aq p q g (!g) j.2.b j.2.bad x1 u v w y aa ab ac ad af (wI (j.1 - (1:Int))) ag ai aj al am an ap az h)
  exact tr rfl (.c (.s .z) (.c (.s .z) (.c (.s .z) (.c (.s .z) (.c (.s .z) (.c (.s .z) (.c (.s .z) (.c (.s .z) (.c (.s .z) (.c .z (.n _)))))))))))
  refine Qo rfl av ?_
  refine Qc ?_ (O3 K bx0 wx1 x1 go0 hgo0 x3 m p q au g x1 u v w y aa ab ac ad af ag ai aj al am an ap h)
  exact tq rfl rfl
  refine pf rfl a ?_
  refine pf rfl a ?_
  refine pf rfl a ?_
  refine pf rfl a ?_
  refine pf rfl a ?_
  refine sp rfl (Qs rfl (dk rfl) rfl a rfl ?_)
  refine TL'.nil (tN ?_)
  refine Qo rfl rfl ?_
  refine Qc ?_ (O3 K bx0 wx1 x1 go0 hgo0 x3 m p q au g x1 u v w y aa ab ac ad af ag ai aj al am an ap h)
  exact tq rfl rfl
theorem O5 {r : aSt × r4r} (K bx0 : Nat) (wx1 : Value) (x1 : List (Bool × aSt)) (m n p : List Int) (q : List (List aMv)) (a b c : List Int) (f : List (List aMv)) (s : List Int) (u : Bool) (x1 : List (Bool × aSt)) (v : Nat) (w y : Value) (z : Nat) (g j : Value) (h : Cj K m n p q a b c f s u x1 = some r) : T tp 96 (ca [1,1,0,1,0,0,0,1,1] Try.f60) ⟨[(8, .ptr v 0), (9, .ptr z 0)], [(Wu v m n w y), .arrA w 3 1 (mI p), .arrA y 61 1 (q.map (cL 2 Qu)), (Wu z a b g j), .arrA g 3 1 (mI c), .arrA j 61 1 (f.map (cL 2 Qu)), (Yt bx0 s u), .arrX wx1 59 4 0 (x1.map Qw)]⟩ (Pt bx0 wx1 x1 r) := by
 unfold Cj at h
 refine T.exit (Qf (Qf (Qp (tN ?_))))
 refine T.seq (Qq ?_)
 refine sp rfl (Zm (Ze (i := 3) (l := [.sl false 1 (mI a), .sl false 1 (mI b), .ex g, .ex j]) rfl (dk rfl) Vm rfl i59 rfl rfl rfl rfl rfl) (Zz 95 (l := [.sl false 1 (mI a), .sl false 1 (mI b), .ex g, .ex j]) (l' := [.sl false 1 (mI a), .sl false 1 (mI b), .sl false 1 (mI c), .sl false 1 (f.map (cL 2 Qu))]) (.cons (.same _) (.cons (.same _) (.cons (.view 4 rfl) (.cons (.view 5 rfl) (.refl _)))))) ?_)
 refine sp rfl (Q1 (i := 0) (cells' := [.d (.sl false 1 (mI a)), .d (.sl false 1 (mI b)), .d (.sl false 1 (mI c)), .d (.sl false 1 (f.map (cL 2 Qu)))]) rfl rfl i59 rfl rfl rfl rfl (nb rfl) rfl ?_)
 refine TL'.nil (tN ?_)
 refine T.ret ?_
 exact Q6 (.cons _ _ _ _ (.cellAgg 8 59 _ 0 0 59 _ [.sl false 1 (mI a), .sl false 1 (mI b), .sl false 1 (mI c), .sl false 1 (f.map (cL 2 Qu))] _ _ 4 _ rfl rfl rfl rfl Vm rfl i59) .nil) (.cons 6 rfl (.cons 6 rfl (.nil _))) (by cases h; exact ⟨gl [], rfl, rfl⟩)
theorem r4r_state_l0_T {r : aSt × r4r} (K bx0 : Nat) (wx1 : Value) (x1 : List (Bool × aSt)) : ∀ (k : Nat), ∀ (x3 ap : Int) (an : List Int) (y : Bool) (x1 : List (Bool × aSt)) (ag ai aj : List Int) (al : List (List aMv)) (v m aa : List Int) (am : List (List aMv)) (ac : Nat) (ad af : Value) (j : Nat) (ab p : Value), Xv K k x3 ap an y x1 ag ai aj al v m aa am = some r → TL tp 96 (ca [1,1,0,1,0,0] Try.f60) ⟨[(0, .ptr bx0 0), (1, .c (.ex wx1)), (3, .int .i64 x3), (8, .ptr ac 0), (9, .ptr j 0), (10, .int .i64 ap)], [(Yt bx0 an y), .arrX wx1 59 4 0 (x1.map Qw), (Wu ac ag ai ad af), .arrA ad 3 1 (mI aj), .arrA af 61 1 (al.map (cL 2 Qu)), (Wu j v m ab p), .arrA ab 3 1 (mI aa), .arrA p 61 1 (am.map (cL 2 Qu))]⟩ (W4 bx0 wx1 x1 r) := by
 intro k
 induction k with
 | zero =>
  intro x3 ap an y x1 ag ai aj al v m aa am ac ad af j ab p h
  cases (show (none : Option (aSt × r4r)) = some r from h)
 | succ k ih =>
  intro x3 ap an y x1 ag ai aj al v m aa am ac ad af j ab p h
  rw [Xv] at h
  refine Q4 ?_
  refine T.seq ?_
  refine T.seq (Qq ?_)
  refine mw rfl ?_
  refine sp rfl (Qg rfl (dk rfl) Vm rfl i56 (by decide) rfl ?_)
  refine sp rfl (Qm (i := 5) rfl (dk rfl) Yd rfl rfl rfl rfl ?_)
  refine sp rfl (Qn (xs := m) (f := (cI .i64)) rfl (dk rfl) Yd rfl ?_)
  obtain ⟨az, au, h⟩ := bind_some h
  refine sp rfl (Q5 rfl (dk rfl) Try.func50 rfl rfl (Q3.cons rfl Q3.nil) (Zt.nil (Tc K au)) ?_)
  refine sp rfl (Qa rfl rfl (dk rfl) rfl rfl ?_)
  refine mw rfl ?_
  rcases Qd h with ⟨q, h⟩ | ⟨q, h⟩
  refine sn rfl q (OpT.move rfl (dk rfl) rfl ?_)
  refine sn rfl q (OpT.nilCheck rfl (dk rfl) rfl rfl ?_)
  refine sn rfl q (Qg rfl (dk rfl) ul86 rfl i4 (by decide) rfl ?_)
  refine sn rfl q (Qm (i := 0) rfl (dk rfl) ul4 rfl rfl rfl rfl ?_)
  refine sn rfl q (OpT.not rfl (dk rfl) rfl ?_)
  refine sp rfl (Qi rfl (dk rfl) rfl q rfl ?_)
  refine TL'.nil (tN ?_)
  rcases Qd h with ⟨aq, h⟩ | ⟨aq, h⟩
  refine Qk rfl aq ?_
  refine T.skip (tN ?_)
  refine T.seq ?_
  refine T.block ?_
  refine T.seq ?_
  refine Qc Zs ?_
  refine Y3 ?_
  refine dC (c := ⟨some 33, .ptr j (0 + 2), [(9, .ptr j 0)], [], []⟩) (fun t hm => oF rfl rfl (Qg rfl (dk rfl) Vm rfl i56 (by decide) hm.s0 ⟨u0, rfl⟩)) (fun _ => rfl) (fun _ => rfl) ?_
  refine dC (c := ⟨some 34, .c (.ex ab), [(33, .ptr j (0 + 2))], [(6, (Wu j v m ab p))], []⟩) (fun t hm => oF rfl rfl (Qm (i := 6) rfl (dk rfl) Yd rfl hm.s0 hm.o0 rfl ⟨u0, rfl⟩)) (fun _ => rfl) (fun _ => rfl) ?_
  refine dC (c := ⟨some 35, .ptr bx0 0, [(0, .ptr bx0 0)], [], []⟩) (fun t hm => oF rfl rfl (OpT.move rfl (dk rfl) hm.s0 ⟨u0, rfl⟩)) (fun _ => rfl) (fun _ => rfl) ?_
  obtain ⟨l, av, h⟩ := bind_some h
  refine dC (c := ⟨some 36, .int .i64 l.1, [(35, .ptr bx0 0)], [(1, (Yt bx0 an y))], [(1, (Yt bx0 l.2.b l.2.bad))]⟩) (fun t hm => oF rfl rfl (Q2 (is := [1]) (ph := []) rfl (dk rfl) Try.func58 rfl rfl (Q3.cons hm.s0 Q3.nil) (Kp K (bx0 := bx0) av) (.cons hm.o0 rfl (.nil)) (fun _ => rfl) (fun g => ⟨(g, 0), rfl⟩))) (fun _ => rfl) (fun _ => rfl) ?_
  refine dC (c := ⟨some 37, .int .i64 (wI (l.1 - (1:Int))), [(36, .int .i64 l.1)], [], []⟩) (fun t hm => oF rfl rfl (Qa rfl rfl (dk rfl) hm.s0 rfl ⟨u0, rfl⟩)) (fun _ => rfl) (fun _ => rfl) ?_
  refine dC (c := ⟨some 38, .sl true 1 ([(wI (l.1 - (1:Int)))].map (cI .i64)), [(37, .int .i64 (wI (l.1 - (1:Int))))], [], []⟩) (fun t hm => oF rfl rfl (OpT.buildSlice (elems := ([(wI (l.1 - (1:Int)))] : List Int).map (cI .i64)) rfl (dk rfl) Yd i3 (by decide) rfl (J6 rfl) (Xm hm.s0 rfl V6) rfl rfl (Yp rfl) (by decide) ⟨u0, rfl⟩)) (fun _ => rfl) (fun _ => rfl) ?_
  obtain ⟨ay, h⟩ := Zh h
  refine DGG.step (c := fun a => ⟨some 39, .c (.ex ((a 6).1 0)), [(38, .sl true 1 ([(wI (l.1 - (1:Int)))].map (cI .i64))), (34, .c (.ex ab))], [(7, .arrA ab 3 1 (mI aa))], [(7, .arrA ((a 6).1 0) 3 1 ((aa ++ [(wI (l.1 - (1:Int)))]).map (cI .i64)))]⟩) [6] (fun a γ' h => by simp only [h 6 (by decide)]) (fun a t hm => oF rfl rfl (Za (i := 7) (xs := aa) (ys := [(wI (l.1 - (1:Int)))]) (f := (cI .i64)) rfl (dk rfl) Yd i3 rfl hm.s1 hm.o0 hm.s0 ay (fun w => ⟨(fun _ => w, 0), rfl⟩))) (fun a => Zq rfl rfl) ?_
  refine dC (c := ⟨some 40, .ptr j (0 + 2), [(9, .ptr j 0)], [], []⟩) (fun t hm => oF rfl rfl (Qg rfl (dk rfl) Vm rfl i56 (by decide) hm.s0 ⟨u0, rfl⟩)) (fun _ => rfl) (fun _ => rfl) ?_
  refine DGG.step (c := fun a => ⟨none, .any, [(40, .ptr j (0 + 2)), (39, .c (.ex ((a 6).1 0)))], [(6, (Wu j v m ab p))], [(6, (Wu j v m ((a 6).1 0) p))]⟩) [6] (fun a γ' h => by simp only [h 6 (by decide)]) (fun a t hm => oF rfl rfl (Xd (i := 6) (cells' := [.d (.sl false 1 (mI v)), .d (.sl false 1 (mI m)), .d (.ex ((a 6).1 0)), .d (.ex p)]) rfl rfl i56 hm.s0 hm.s1 hm.o0 (nb rfl) rfl ⟨u0, rfl⟩)) (fun a => Zq rfl rfl) ?_
  refine Vi (s1 := fun a => ⟨[(0, .ptr bx0 0), (1, .c (.ex wx1)), (3, .int .i64 x3), (8, .ptr ac 0), (9, .ptr j 0), (10, .int .i64 ap), (25, .ptr bx0 0), (26, .ptr bx0 0), (27, .ptr bx0 (0 + 1)), (28, .bool y), (29, .bool (!y))], [.ro 0 [], (Yt bx0 l.2.b l.2.bad), .arrX wx1 59 4 0 (x1.map Qw), (Wu ac ag ai ad af), .arrA ad 3 1 (mI aj), .arrA af 61 1 (al.map (cL 2 Qu)), (Wu j v m ((a 6).1 0) p), .arrA ((a 6).1 0) 3 1 ((aa ++ [(wI (l.1 - (1:Int)))]).map (cI .i64)), .arrA p 61 1 (am.map (cL 2 Qu))]⟩) (ms := [0, 1, 0, 4, 12, 28, 63, 127, 255]) Q7 rfl (by kernel_rfl) (by kernel_rfl) (by kernel_rfl) (fun a => by kernel_rfl) (fun a => sf rfl) (fun _ => rfl) (fun a u hu => (tN (Qc hu ?_)))
  refine T.seq (Qq ?_)
  refine aw rfl ?_
  refine TL'.nil (tN ?_)
  refine T.seq ?_
  refine T.seq (Qq ?_)
  refine aw rfl ?_
  refine TL'.nil (tN ?_)
  refine T.block ?_
  refine T.loop ?_
  refine Qb (Yc 63 2) ?_
  refine Qb ?_ (r4r_state_l1_T K bx0 wx1 x1 (Xv K k) ih K x3 ap (0:Int) y (!y) l.2.b l.2.bad x1 ag ai aj al v m (aa ++ [(wI (l.1 - (1:Int)))]) am [] ac ad af j ((a 6).1 0) p (Mn 14) h)
  exact tr rfl (.c (.s (.s .z)) (.c (.s (.s .z)) (.c (.s (.s .z)) (.c (.s (.s .z)) (.c (.s (.s .z)) (.c (.s (.s .z)) (.c (.s (.s .z)) (.c (.s (.s .z)) (.c .z (.n _))))))))))
  refine Qo rfl aq ?_
  refine Qc ?_ (O5 K bx0 wx1 x1 ag ai aj al v m aa am an y x1 ac ad af j ab p h)
  exact tr rfl (.c (.s (.s .z)) (.c (.s (.s .z)) (.c (.s (.s .z)) (.c (.s (.s .z)) (.c (.s (.s .z)) (.c (.s (.s .z)) (.c .z (.c .z (.n _)))))))))
  refine pf rfl q ?_
  refine pf rfl q ?_
  refine pf rfl q ?_
  refine pf rfl q ?_
  refine pf rfl q ?_
  refine sp rfl (Qs rfl (dk rfl) rfl q rfl ?_)
  refine TL'.nil (tN ?_)
  refine Qo rfl rfl ?_
  refine Qc ?_ (O5 K bx0 wx1 x1 ag ai aj al v m aa am an y x1 ac ad af j ab p h)
  exact tr rfl (.c (.s (.s .z)) (.c (.s (.s .z)) (.c (.s (.s .z)) (.c (.s (.s .z)) (.c (.s (.s .z)) (.c (.s (.s .z)) (.c .z (.c .z (.n _)))))))))
theorem r4r_state_T (K : Nat) {x0 : r4r} {x1 : List (Bool × aSt)} {x2 x3 : Int} {bx0 : Nat} {wx1 : Value} {r : aSt × r4r} (h : I2 K x0 x1 x2 x3 = some r) : Uz tp 60 [.ptr bx0 0, .c (.ex wx1), .int .i64 x2, .int .i64 x3] [(Yt bx0 x0.b x0.bad), .arrX wx1 59 4 0 (x1.map Qw)] (fun γ => (.agg [.sl false 1 (mI r.1.L), .sl false 1 (mI r.1.R), .sl false 1 (mI r.1.Rule), .sl false 1 (r.1.Next.map (cL 2 Qu))])) (fun γ => [(Yt bx0 r.2.b r.2.bad), .arrX wx1 59 4 0 (x1.map Qw)]) := by
 refine Qt Try.func60 rfl (nb rfl) ?_
 show T tp 96 (ca [] Try.f60) ⟨Qv 0 [.ptr bx0 0, .c (.ex wx1), .int .i64 x2, .int .i64 x3], [(Yt bx0 x0.b x0.bad), .arrX wx1 59 4 0 (x1.map Qw)]⟩ (Pu bx0 wx1 x1 r)
 unfold I2 at h
 refine T.seq (Qq ?_)
 refine sp rfl (Zi rfl (dk rfl) i59 rfl (fun m => ?_))
 refine TL'.nil (tN (T.seq (Qq ?_)))
 refine mw rfl ?_
 refine mw rfl ?_
 obtain ⟨a, g, h⟩ := bind_some h
 refine sp rfl (Uy (n := 2) (xs := x1) (f := Qw) (old := a) rfl (dk rfl) X5 i59 rfl rfl rfl g ?_)
 obtain ⟨p, h⟩ := Zh h
 refine sp rfl (Fc (i := 2) (xs := x1) (f := Qw) (old := a) (l := [.sl false 1 (mI a.2.L), .sl false 1 (mI a.2.R), .sl true 1 (mI a.2.Rule), .sl true 1 (a.2.Next.map (cL 2 Qu))]) rfl (dk rfl) Vm rfl i59 rfl rfl (Z0 g).2 rfl (by obtain ⟨b, y⟩ := a; cases (show b = false from p); rfl) ?_)
 refine sp rfl (Zi rfl (dk rfl) i59 rfl (fun q => ?_))
 refine sp rfl (Q1 (i := 0) (cells' := [.d (.sl false 1 (mI a.2.L)), .d (.sl false 1 (mI a.2.R)), .d (.sl true 1 (mI a.2.Rule)), .d (.sl true 1 (a.2.Next.map (cL 2 Qu)))]) rfl rfl i59 rfl rfl rfl rfl (nb rfl) rfl ?_)
 refine TL'.nil (tN ?_)
 refine T.seq ?_
 refine T.seq (Qq ?_)
 refine aw rfl ?_
 refine TL'.nil (tN ?_)
 refine T.block ?_
 refine T.loop ?_
 refine Qb (Yc 3 1) ?_
 refine Qb (Yc 61 1) ?_
 refine Qb (Wx 3 (l := [.ex (.slice none 0 0), .ex (.slice none 0 0), .ex (Mn 12), .ex (Mn 13)]) (l' := [.sl false 1 (([] : List Int).map (cI .i64)), .sl false 1 (([] : List Int).map (cI .i64)), .ex (Mn 12), .ex (Mn 13)]) rfl (.cons (.nil _ _) (.cons (.nil _ _) (.cons (.same _) (.cons (.same _) (.refl _)))))) ?_
 refine Qbk (Tx 2 3 (pre := [.sl false 1 (mI a.2.L), .sl false 1 (mI a.2.R)]) (post := [.sl true 1 (a.2.Next.map (cL 2 Qu))]) rfl) (fun j => ?_)
 refine Qbk (Tx 3 61 (pre := [.sl false 1 (mI a.2.L), .sl false 1 (mI a.2.R), .ex j]) (post := []) rfl) (fun u => ?_)
 refine Qb ?_ (r4r_state_l0_T K bx0 wx1 x1 K x3 (0:Int) x0.b x0.bad x1 [] [] [] [] a.2.L a.2.R a.2.Rule a.2.Next m (Mn 12) (Mn 13) q j u h)
 exact tr rfl (.c (.s (.s (.s (.s (.s (.s .z)))))) (.c (.s (.s (.s (.s (.s (.s .z)))))) (.c (.s (.s (.s (.s (.s .z))))) (.c (.s (.s (.s .z))) (.c (.s (.s .z)) (.c (.s (.s .z)) (.c (.s .z) (.c .z (.n _)))))))))
abbrev W5 (bx0 : Nat) (r : aAu × r4r) : ES := Jk tp Try.f40 (fun y t => ∃ γ : Nat → Value, y = (.agg ((Qx.dc 256 .u8 r.1.Split.Of) ++ (([.int .i64 r.1.Split.Many, .sl false 2 (mA r.1.Counts), .sl false 4 (r.1.States.map Q0)] : List DC)))) ∧ t = [(Yt bx0 r.2.b r.2.bad)])
abbrev N9 (bx0 : Nat) (r : aAu × r4r) : ES := thenS (fun s' => T tp 129 (ca [1,1,1,1,1,1,1,1,1] Try.f40) s' ((W5 bx0 r))) ((W5 bx0 r))
abbrev Wc (bx0 : Nat) (r : aAu × r4r) : ES := Qz 6 ((N9 bx0 r))
abbrev Lh (bx0 : Nat) (r : aAu × r4r) : ES := thenS (fun s' => TL tp 129 (ca [1,1,1,1,1,1,1,1,0,1,0,0] Try.f40) s' ((Wc bx0 r))) ((Wc bx0 r))
abbrev Dt (bx0 : Nat) (r : aAu × r4r) : ES := thenS (fun s' => T tp 129 (ca [1,1,1,1,1,1,1,1,0,1,0,0,1] Try.f40) s' ((Lh bx0 r))) ((Lh bx0 r))
abbrev Pv (bx0 : Nat) (r : aAu × r4r) : ES := thenS (fun s' => T tp 129 (ca [1,1,1,1,1,1,1,1] Try.f40) s' ((W5 bx0 r))) ((W5 bx0 r))
abbrev Wn (bx0 : Nat) (r : aAu × r4r) : ES := Qz 4 ((Pv bx0 r))
abbrev Ko (bx0 : Nat) (r : aAu × r4r) : ES := thenS (fun s' => TL tp 129 (ca [1,1,1,1,1,1,1,0,1,0,0] Try.f40) s' ((Wn bx0 r))) ((Wn bx0 r))
abbrev Ep (bx0 : Nat) (r : aAu × r4r) : ES := thenS (fun s' => T tp 129 (ca [1,1,1,1,1,1,1,0,1,0,0,1] Try.f40) s' ((Ko bx0 r))) ((Ko bx0 r))
abbrev Sz (bx0 : Nat) (r : aAu × r4r) : ES := thenS (fun s' => T tp 129 (ca [1,1,1,1,1,1] Try.f40) s' ((W5 bx0 r))) ((W5 bx0 r))
abbrev Hx (bx0 : Nat) (r : aAu × r4r) : ES := Qz 2 ((Sz bx0 r))
abbrev Bl (bx0 : Nat) (r : aAu × r4r) : ES := thenS (fun s' => TL tp 129 (ca [1,1,1,1,1,0,1,0,0] Try.f40) s' ((Hx bx0 r))) ((Hx bx0 r))
abbrev I3 (bx0 : Nat) (r : aAu × r4r) : ES := thenS (fun s' => T tp 129 (ca [1,1,1,1,1,0,1,0,0,1] Try.f40) s' ((Bl bx0 r))) ((Bl bx0 r))
abbrev Qar (bx0 : Nat) (r : aAu × r4r) : ES := thenS (fun s' => T tp 129 (ca [1,1,1,1] Try.f40) s' ((W5 bx0 r))) ((W5 bx0 r))
abbrev Lv (bx0 : Nat) (r : aAu × r4r) : ES := Qz 0 ((Qar bx0 r))
abbrev Du (bx0 : Nat) (r : aAu × r4r) : ES := thenS (fun s' => TL tp 129 (ca [1,1,1,0,1,0,0] Try.f40) s' ((Lv bx0 r))) ((Lv bx0 r))
abbrev Pw (bx0 : Nat) (r : aAu × r4r) : ES := thenS (fun s' => T tp 129 (ca [1,1,1,0,1,0,0,1] Try.f40) s' ((Du bx0 r))) ((Du bx0 r))
theorem Rr {r : aAu × r4r} (K bx0 : Nat) (s : Qx) (u : List Zb) (q : List (Bool × aSt)) (a : Qx) (b : Int) (j : List Zb) (c : List (Bool × aSt)) (v : List Int) (w : Bool) (y : Nat) (z aa : Value) (ab : Nat) (m n : Value) (h : Er K s u q a b j c v w = some r) : T tp 129 (ca [1,1,1,1,1,1,1,1,0,1,0,0,0,1,1] Try.f40) ⟨[(2, .ptr y 0), (3, .ptr ab 0)], [(Zc y s (0:Int) z aa), .arrA z 42 2 (mA u), .arrX aa 59 4 0 (q.map Qw), (Zc ab a b m n), .arrA m 42 2 (mA j), .arrX n 59 4 0 (c.map Qw), (Yt bx0 v w)]⟩ (Dt bx0 r) := by
 unfold Er at h
 refine T.exit (Qf (Qf (Qp (tN ?_))))
 refine T.seq ?_
 refine Qc (N0 2 (xs := q) (f := Qw) (g := Q0) (p := Prod.snd) rfl (fun x => (.cons (.same _) (.cons (.same _) (.cons (.full _ _ _) (.cons (.full _ _ _) (.refl _)))))) (fun _ => rfl)) ?_
 refine Qc (N0 5 (xs := c) (f := Qw) (g := Q0) (p := Prod.snd) rfl (fun x => (.cons (.same _) (.cons (.same _) (.cons (.full _ _ _) (.cons (.full _ _ _) (.refl _)))))) (fun _ => rfl)) ?_
 refine Qq ?_
 refine Y7 (D8 5 rfl) ?_
 refine sp rfl (Zm (Ze (i := 3) (l := ((Qx.dc 256 .u8 a) ++ (([.int .i64 b, .ex m, .ex n] : List DC)))) rfl (dk rfl) Xe rfl i28 rfl rfl rfl rfl rfl) (Zz 128 (l := ((Qx.dc 256 .u8 a) ++ (([.int .i64 b, .ex m, .ex n] : List DC)))) (l' := ((Qx.dc 256 .u8 a) ++ (([.int .i64 b, .sl false 2 (mA j), .sl false 4 ((c.map Prod.snd).map Q0)] : List DC)))) (.app _ (.cons (.same _) (.cons (.view 4 rfl) (.cons (.view 5 rfl) (.refl _)))))) ?_)
 refine sp rfl (Q1 (i := 0) (cells' := ((Qx.oc 256 .u8 a) ++ (([.d (.int .i64 b), .d (.sl false 2 (mA j)), .d (.sl false 4 ((c.map Prod.snd).map Q0))]:List OC)))) rfl rfl i28 rfl rfl rfl rfl (nb rfl) rfl ?_)
 refine TL'.nil (tN ?_)
 refine T.ret ?_
 exact Q6 (.cons _ _ _ _ (.cellAgg 2 28 _ 0 0 28 _ ((Qx.dc 256 .u8 a) ++ (([.int .i64 b, .sl false 2 (mA j), .sl false 4 ((c.map Prod.snd).map Q0)] : List DC))) _ _ 259 _ rfl rfl rfl rfl Xe rfl i28) .nil) (.cons 6 rfl (.nil _)) (by cases h; exact ⟨gl [], rfl, rfl⟩)
theorem r4r_read_l6_T {r : aAu × r4r} (K bx0 : Nat) : ∀ (k : Nat), ∀ (p : Int) (am : List Int) (ab : Bool) (ag : Qx) (ai : List Zb) (aj : List (Bool × aSt)) (aa : Qx) (v : Int) (al : List Zb) (q : List (Bool × aSt)) (ac : Nat) (ad af : Value) (l : Nat) (y j : Value), Ut K k p am ab ag ai aj aa v al q = some r → TL tp 129 (ca [1,1,1,1,1,1,1,1,0,1,0,0] Try.f40) ⟨[(0, .ptr bx0 0), (2, .ptr ac 0), (3, .ptr l 0), (13, .int .i64 p)], [(Yt bx0 am ab), (Zc ac ag (0:Int) ad af), .arrA ad 42 2 (mA ai), .arrX af 59 4 0 (aj.map Qw), (Zc l aa v y j), .arrA y 42 2 (mA al), .arrX j 59 4 0 (q.map Qw)]⟩ (Wc bx0 r) := by
 intro k
 induction k with
 | zero =>
  intro p am ab ag ai aj aa v al q ac ad af l y j h
  cases (show (none : Option (aAu × r4r)) = some r from h)
 | succ k ih =>
  intro p am ab ag ai aj aa v al q ac ad af l y j h
  rw [Ut] at h
  refine Q4 ?_
  refine T.seq ?_
  refine T.seq (Qq ?_)
  refine mw rfl ?_
  refine sp rfl (Qg rfl (dk rfl) Xe rfl i26 (by decide) rfl ?_)
  refine sp rfl (Qm (i := 4) rfl (dk rfl) X5 rfl rfl rfl rfl ?_)
  refine sp rfl (By (i := 6) (xs := q) (f := Qw) rfl (dk rfl) X5 rfl rfl ?_)
  refine sp rfl (Qa rfl rfl (dk rfl) rfl rfl ?_)
  refine mw rfl ?_
  rcases Qd h with ⟨w, h⟩ | ⟨w, h⟩
  refine sn rfl w (OpT.move rfl (dk rfl) rfl ?_)
  refine sn rfl w (OpT.nilCheck rfl (dk rfl) rfl rfl ?_)
  refine sn rfl w (Qg rfl (dk rfl) ul86 rfl i4 (by decide) rfl ?_)
  refine sn rfl w (Qm (i := 0) rfl (dk rfl) ul4 rfl rfl rfl rfl ?_)
  refine sn rfl w (OpT.not rfl (dk rfl) rfl ?_)
  refine sp rfl (Qi rfl (dk rfl) rfl w rfl ?_)
  refine TL'.nil (tN ?_)
  rcases Qd h with ⟨an, h⟩ | ⟨an, h⟩
  refine Qk rfl an ?_
  refine T.skip (tN ?_)
  refine T.seq ?_
  refine T.block ?_
  refine Y3 ?_
  refine dC (c := ⟨some 116, .ptr l (0 + 258), [(3, .ptr l 0)], [], []⟩) (fun t hm => oF rfl rfl (Qg rfl (dk rfl) Xe rfl i26 (by decide) hm.s0 ⟨u0, rfl⟩)) (fun _ => rfl) (fun _ => rfl) ?_
  refine dC (c := ⟨some 117, .c (.ex j), [(116, .ptr l (0 + 258))], [(4, (Zc l aa v y j))], []⟩) (fun t hm => oF rfl rfl (Qm (i := 4) rfl (dk rfl) X5 rfl hm.s0 hm.o0 rfl ⟨u0, rfl⟩)) (fun _ => rfl) (fun _ => rfl) ?_
  refine dC (c := ⟨some 118, .int .i64 p, [(13, .int .i64 p)], [], []⟩) (fun t hm => oF rfl rfl (OpT.move rfl (dk rfl) hm.s0 ⟨u0, rfl⟩)) (fun _ => rfl) (fun _ => rfl) ?_
  refine dC (c := ⟨some 119, .ptr bx0 0, [(0, .ptr bx0 0)], [], []⟩) (fun t hm => oF rfl rfl (OpT.move rfl (dk rfl) hm.s0 ⟨u0, rfl⟩)) (fun _ => rfl) (fun _ => rfl) ?_
  refine dC (c := ⟨some 120, .ptr l (0 + 258), [(3, .ptr l 0)], [], []⟩) (fun t hm => oF rfl rfl (Qg rfl (dk rfl) Xe rfl i26 (by decide) hm.s0 ⟨u0, rfl⟩)) (fun _ => rfl) (fun _ => rfl) ?_
  refine dC (c := ⟨some 121, .c (.ex j), [(120, .ptr l (0 + 258))], [(4, (Zc l aa v y j))], []⟩) (fun t hm => oF rfl rfl (Qm (i := 4) rfl (dk rfl) X5 rfl hm.s0 hm.o0 rfl ⟨u0, rfl⟩)) (fun _ => rfl) (fun _ => rfl) ?_
  refine dC (c := ⟨some 122, .int .i64 p, [(13, .int .i64 p)], [], []⟩) (fun t hm => oF rfl rfl (OpT.move rfl (dk rfl) hm.s0 ⟨u0, rfl⟩)) (fun _ => rfl) (fun _ => rfl) ?_
  refine dC (c := ⟨some 123, .ptr l (0 + 0), [(3, .ptr l 0)], [], []⟩) (fun t hm => oF rfl rfl (Qg rfl (dk rfl) Xe rfl i24 (by decide) hm.s0 ⟨u0, rfl⟩)) (fun _ => rfl) (fun _ => rfl) ?_
  refine dC (c := ⟨some 124, .ptr l (0 + 0 + 256), [(123, .ptr l (0 + 0))], [], []⟩) (fun t hm => oF rfl rfl (Qg rfl (dk rfl) Ig rfl i3 (by decide) hm.s0 ⟨u0, rfl⟩)) (fun _ => rfl) (fun _ => rfl) ?_
  refine dC (c := ⟨some 125, .int .i64 v, [(124, .ptr l (0 + 0 + 256))], [(4, (Zc l aa v y j))], []⟩) (fun t hm => oF rfl rfl (Qm (i := 4) rfl (dk rfl) ul3 rfl hm.s0 hm.o0 rfl ⟨u0, rfl⟩)) (fun _ => rfl) (fun _ => rfl) ?_
  obtain ⟨m, au, h⟩ := bind_some h
  refine dC (c := ⟨some 126, .agg [.sl false 1 (mI m.1.L), .sl false 1 (mI m.1.R), .sl false 1 (mI m.1.Rule), .sl false 1 (m.1.Next.map (cL 2 Qu))], [(119, .ptr bx0 0), (121, .c (.ex j)), (122, .int .i64 p), (125, .int .i64 v)], [(6, .arrX j 59 4 0 (q.map Qw)), (0, (Yt bx0 am ab))], [(0, (Yt bx0 m.2.b m.2.bad)), (6, .arrX j 59 4 0 (q.map Qw))]⟩) (fun t hm => oF rfl rfl (Q2 (is := [0, 6]) (ph := []) rfl (dk rfl) Try.func60 rfl rfl (Q3.cons hm.s0 (Q3.cons hm.s1 (Q3.cons hm.s2 (Q3.cons hm.s3 Q3.nil)))) (r4r_state_T K (bx0 := bx0) (wx1 := j) au) (.cons hm.o1 rfl (.cons hm.o0 rfl (.nil))) (fun _ => rfl) (fun g => ⟨(g, 0), rfl⟩))) (fun _ => rfl) (fun _ => rfl) ?_
  obtain ⟨ap, aq, h⟩ := bind_some h
  refine dC (c := ⟨some 127, .el j 4 (Int.toNat p) 0, [(117, .c (.ex j)), (118, .int .i64 p)], [(6, .arrX j 59 4 0 (q.map Qw))], []⟩) (fun t hm => oF rfl rfl (Uy (n := 6) (xs := q) (f := Qw) (old := ap) rfl (dk rfl) X5 i59 hm.s0 hm.o0 hm.s1 aq ⟨u0, rfl⟩)) (fun _ => rfl) (fun _ => rfl) ?_
  refine dC (c := ⟨none, .any, [(127, .el j 4 (Int.toNat p) 0), (126, .agg [.sl false 1 (mI m.1.L), .sl false 1 (mI m.1.R), .sl false 1 (mI m.1.Rule), .sl false 1 (m.1.Next.map (cL 2 Qu))])], [(6, .arrX j 59 4 0 (q.map Qw))], [(6, .arrX j 59 4 0 ((List.set q (Int.toNat p) (true, m.1)).map Qw))]⟩) (fun t hm => oF rfl rfl (OpT.storeXAggM (i := 6) (xs := q) (f := Qw) (old := ap) (new := (true, m.1)) rfl rfl i59 hm.s0 hm.s1 rfl hm.o0 (Z0 aq).2 (Nat.zero_le _) (nb rfl) rfl ⟨u0, rfl⟩)) (fun _ => rfl) (fun _ => rfl) ?_
  refine Vi (s1 := fun a => ⟨[(0, .ptr bx0 0), (2, .ptr ac 0), (3, .ptr l 0), (13, .int .i64 p), (108, .ptr bx0 0), (109, .ptr bx0 0), (110, .ptr bx0 (0 + 1)), (111, .bool ab), (112, .bool (!ab))], [(Yt bx0 m.2.b m.2.bad), (Zc ac ag (0:Int) ad af), .arrA ad 42 2 (mA ai), .arrX af 59 4 0 (aj.map Qw), (Zc l aa v y j), .arrA y 42 2 (mA al), .arrX j 59 4 0 ((List.set q (Int.toNat p) (true, m.1)).map Qw)]⟩) (ms := [0, 1, 0, 0, 0, 16, 0, 0, 128, 384, 1016, 2047, 4095]) Q7 rfl (by kernel_rfl) (by kernel_rfl) (by kernel_rfl) (fun a => by kernel_rfl) (fun a => sf rfl) (fun _ => rfl) (fun a u hu => (Qe (tN (Qc hu ?_))))
  refine Qq ?_
  refine mw rfl ?_
  refine sp rfl (Qa rfl rfl (dk rfl) rfl rfl ?_)
  refine aw rfl ?_
  refine TL'.nil (tN ?_)
  refine Qb ?_ (ih (wI (p + (1:Int))) m.2.b m.2.bad ag ai aj aa v al (List.set q (Int.toNat p) (true, m.1)) ac ad af l y j h)
  exact tq rfl rfl
  refine Qo rfl an ?_
  refine Qc ?_ (Rr K bx0 ag ai aj aa v al q am ab ac ad af l y j h)
  exact tr rfl (.c (.s .z) (.c (.s .z) (.c (.s .z) (.c (.s .z) (.c (.s .z) (.c (.s .z) (.c .z (.n _))))))))
  refine pf rfl w ?_
  refine pf rfl w ?_
  refine pf rfl w ?_
  refine pf rfl w ?_
  refine pf rfl w ?_
  refine sp rfl (Qs rfl (dk rfl) rfl w rfl ?_)
  refine TL'.nil (tN ?_)
  refine Qo rfl rfl ?_
  refine Qc ?_ (Rr K bx0 ag ai aj aa v al q am ab ac ad af l y j h)
  exact tr rfl (.c (.s .z) (.c (.s .z) (.c (.s .z) (.c (.s .z) (.c (.s .z) (.c (.s .z) (.c .z (.n _))))))))
theorem Rs {r : aAu × r4r} (K bx0 : Nat) (a : List Int) (b : Bool) (f : Qx) (g : List Zb) (i : List (Bool × aSt)) (j : Qx) (l : Int) (m : List Zb) (p : List (Bool × aSt)) (q : Nat) (s u : Value) (v : Nat) (w y : Value) (h : Lw K a b f g i j l m p = some r) : T tp 129 (ca [1,1,1,1,1,1,1,0,1,0,0,0,1,1] Try.f40) ⟨[(0, .ptr bx0 0), (2, .ptr q 0), (3, .ptr v 0)], [(Yt bx0 a b), (Zc q f (0:Int) s u), .arrA s 42 2 (mA g), .arrX u 59 4 0 (i.map Qw), (Zc v j l w y), .arrA w 42 2 (mA m), .arrX y 59 4 0 (p.map Qw)]⟩ (Ep bx0 r) := by
 unfold Lw at h
 refine T.exit (Qf (Qf (Qp (tN ?_))))
 refine T.seq ?_
 refine T.seq (Qq ?_)
 refine aw rfl ?_
 refine TL'.nil (tN ?_)
 refine T.block ?_
 refine T.loop ?_
 refine Qb ?_ (r4r_read_l6_T K bx0 K (0:Int) a b f g i j l m p q s u v w y h)
 exact tq rfl rfl
theorem r4r_read_l4_T {r : aAu × r4r} (K bx0 : Nat) : ∀ (k : Nat), ∀ (al am : Int) (af : List Int) (ag : Bool) (u : Qx) (v : List Zb) (w : List (Bool × aSt)) (g : Qx) (j : Int) (y : List Zb) (m : List (Bool × aSt)) (aa : Nat) (ab ac : Value) (ad : Nat) (p ai : Value), Uu K k al am af ag u v w g j y m = some r → TL tp 129 (ca [1,1,1,1,1,1,1,0,1,0,0] Try.f40) ⟨[(0, .ptr bx0 0), (2, .ptr aa 0), (3, .ptr ad 0), (6, .int .i64 al), (10, .int .i64 am)], [(Yt bx0 af ag), (Zc aa u (0:Int) ab ac), .arrA ab 42 2 (mA v), .arrX ac 59 4 0 (w.map Qw), (Zc ad g j p ai), .arrA p 42 2 (mA y), .arrX ai 59 4 0 (m.map Qw)]⟩ (Wn bx0 r) := by
 intro k
 induction k with
 | zero =>
  intro al am af ag u v w g j y m aa ab ac ad p ai h
  cases (show (none : Option (aAu × r4r)) = some r from h)
 | succ k ih =>
  intro al am af ag u v w g j y m aa ab ac ad p ai h
  rw [Uu] at h
  refine Q4 ?_
  refine T.seq ?_
  refine T.seq (Qq ?_)
  refine mw rfl ?_
  refine mw rfl ?_
  refine sp rfl (Qa rfl rfl (dk rfl) rfl rfl ?_)
  refine mw rfl ?_
  rcases Qd h with ⟨a, h⟩ | ⟨a, h⟩
  refine sn rfl a (OpT.move rfl (dk rfl) rfl ?_)
  refine sn rfl a (OpT.nilCheck rfl (dk rfl) rfl rfl ?_)
  refine sn rfl a (Qg rfl (dk rfl) ul86 rfl i4 (by decide) rfl ?_)
  refine sn rfl a (Qm (i := 0) rfl (dk rfl) ul4 rfl rfl rfl rfl ?_)
  refine sn rfl a (OpT.not rfl (dk rfl) rfl ?_)
  refine sp rfl (Qi rfl (dk rfl) rfl a rfl ?_)
  refine TL'.nil (tN ?_)
  rcases Qd h with ⟨an, h⟩ | ⟨an, h⟩
  refine Qk rfl an ?_
  refine T.skip (tN ?_)
  refine T.seq ?_
  refine T.block ?_
  refine T.seq (Qq ?_)
  refine mw rfl ?_
  obtain ⟨aj, aq, h⟩ := bind_some h
  refine sp rfl (Q2 (is := [0]) (ph := []) rfl (dk rfl) Try.func59 rfl rfl (Q3.cons rfl Q3.nil) (r4r_list_T K (bx0 := bx0) aq) (.cons rfl rfl (.nil)) (fun _ => rfl) (fun ay => ?_))
  refine nm (.c (.c (.c (.c (.c (.c (.c (.n)))))))) ?_
  refine aw rfl ?_
  refine TL'.nil (tN (T.seq (Qq ?_)))
  refine mw rfl ?_
  obtain ⟨q, au, h⟩ := bind_some h
  refine sp rfl (Q2 (is := [0]) (ph := []) rfl (dk rfl) Try.func59 rfl rfl (Q3.cons rfl Q3.nil) (r4r_list_T K (bx0 := bx0) au) (.cons rfl rfl (.nil)) (fun _ => rfl) (fun az => ?_))
  refine nm (.c (.c (.c (.c (.c (.c (.c (.n)))))))) ?_
  refine aw rfl ?_
  refine TL'.nil (tN ?_)
  refine Qq ?_
  refine sp rfl (Qg rfl (dk rfl) Xe rfl i26 (by decide) rfl ?_)
  refine sp rfl (Qm (i := 4) rfl (dk rfl) X5 rfl rfl rfl rfl ?_)
  refine mw rfl ?_
  refine mw rfl ?_
  refine sp rfl (Zm (OpT.build (l := [.sl false 1 (mI aj.1), .sl false 1 (mI q.1), .ex (.slice none 0 0), .ex (.slice none 0 0)]) rfl (dk rfl) (Zr (pl := [(0, 1), (1, 1), (2, 1), (3, 1)]) Vm i59 rfl) (J6 rfl) rfl rfl rfl) (Zz 98 (l := [.sl false 1 (mI aj.1), .sl false 1 (mI q.1), .ex (.slice none 0 0), .ex (.slice none 0 0)]) (l' := [.sl false 1 (mI aj.1), .sl false 1 (mI q.1), .sl true 1 (([] : List Int).map (cI .i64)), .sl true 1 (([] : List (List aMv)).map (cL 2 Qu))]) (.cons (.same _) (.cons (.same _) (.cons (.nil _ _) (.cons (.nil _ _) (.refl _)))))) ?_)
  refine sp rfl (Lc (elems := ([(false, (aSt.mk aj.1 q.1 [] []))] : List (Bool × aSt)).map Qw) rfl (dk rfl) X5 i59 (by decide) rfl (J6 rfl) rfl rfl rfl (Yp rfl) (by decide) (fun a0 => ?_))
  refine Y7 (D8 0 rfl) ?_
  refine Y7 (Zn.view 99 0 rfl rfl) ?_
  obtain ⟨av, h⟩ := Zh h
  refine sp rfl (Nn (i := 7) (xs := m) (ys := [(false, (aSt.mk aj.1 q.1 [] []))]) (f := Qw) rfl (dk rfl) X5 i59 rfl rfl rfl rfl av (fun ap => ?_))
  refine sp rfl (Qg rfl (dk rfl) Xe rfl i26 (by decide) rfl ?_)
  refine sp rfl (Xd (i := 5) (cells' := ((Qx.oc 256 .u8 g) ++ (([.d (.int .i64 j), .d (.ex p), .d (.ex ap)]:List OC)))) rfl rfl i26 rfl rfl rfl (nb rfl) rfl ?_)
  refine TL'.nil (Qe (tN ?_))
  refine Qq ?_
  refine mw rfl ?_
  refine sp rfl (Qa rfl rfl (dk rfl) rfl rfl ?_)
  refine aw rfl ?_
  refine TL'.nil (tN ?_)
  refine Qb ?_ (ih al (wI (am + (1:Int))) q.2.b q.2.bad u v w g j y (m ++ [(false, (aSt.mk aj.1 q.1 [] []))]) aa ab ac ad p ap h)
  exact tr rfl (.c (.s .z) (.c (.s .z) (.c (.s .z) (.c (.s .z) (.c (.s .z) (.c (.s .z) (.c (.s .z) (.n _))))))))
  refine Qo rfl an ?_
  refine Qc ?_ (Rs K bx0 af ag u v w g j y m aa ab ac ad p ai h)
  exact tq rfl rfl
  refine pf rfl a ?_
  refine pf rfl a ?_
  refine pf rfl a ?_
  refine pf rfl a ?_
  refine pf rfl a ?_
  refine sp rfl (Qs rfl (dk rfl) rfl a rfl ?_)
  refine TL'.nil (tN ?_)
  refine Qo rfl rfl ?_
  refine Qc ?_ (Rs K bx0 af ag u v w g j y m aa ab ac ad p ai h)
  exact tq rfl rfl
theorem Rt {r : aAu × r4r} (K bx0 : Nat) (aa : List Int) (ab : Bool) (a : Qx) (f : List Zb) (g : List (Bool × aSt)) (i : Qx) (j : Int) (l : List Zb) (m : List (Bool × aSt)) (p : Nat) (q s : Value) (u : Nat) (v w : Value) (h : Lx K aa ab a f g i j l m = some r) : T tp 129 (ca [1,1,1,1,1,0,1,0,0,0,1,1] Try.f40) ⟨[(0, .ptr bx0 0), (2, .ptr p 0), (3, .ptr u 0)], [(Yt bx0 aa ab), (Zc p a (0:Int) q s), .arrA q 42 2 (mA f), .arrX s 59 4 0 (g.map Qw), (Zc u i j v w), .arrA v 42 2 (mA l), .arrX w 59 4 0 (m.map Qw)]⟩ (I3 bx0 r) := by
 unfold Lx at h
 refine T.exit (Qf (Qf (Qp (tN ?_))))
 refine T.seq (Qq ?_)
 refine mw rfl ?_
 obtain ⟨y, ac, h⟩ := bind_some h
 refine sp rfl (Q2 (is := [0]) (ph := []) rfl (dk rfl) Try.func58 rfl rfl (Q3.cons rfl Q3.nil) (Kp K (bx0 := bx0) ac) (.cons rfl rfl (.nil)) (fun _ => rfl) (fun ad => ?_))
 refine nm (.c (.c (.c (.c (.c (.c (.c (.n)))))))) ?_
 refine aw rfl ?_
 refine TL'.nil (tN ?_)
 refine T.seq ?_
 refine T.seq (Qq ?_)
 refine aw rfl ?_
 refine TL'.nil (tN ?_)
 refine T.block ?_
 refine T.loop ?_
 refine Qb ?_ (r4r_read_l4_T K bx0 K y.1 (0:Int) y.2.b y.2.bad a f g i j l m p q s u v w h)
 exact tq rfl rfl
theorem r4r_read_l2_T {r : aAu × r4r} (K bx0 : Nat) : ∀ (k : Nat), ∀ (ai aj : Int) (ac : List Int) (ad : Bool) (q : Qx) (s : List Zb) (u : List (Bool × aSt)) (g : Qx) (j : Int) (m : List Zb) (v : List (Bool × aSt)) (w : Nat) (y aa : Value) (ab : Nat) (af p : Value), Uv K k ai aj ac ad q s u g j m v = some r → TL tp 129 (ca [1,1,1,1,1,0,1,0,0] Try.f40) ⟨[(0, .ptr bx0 0), (2, .ptr w 0), (3, .ptr ab 0), (6, .int .i64 ai), (7, .int .i64 aj)], [(Yt bx0 ac ad), (Zc w q (0:Int) y aa), .arrA y 42 2 (mA s), .arrX aa 59 4 0 (u.map Qw), (Zc ab g j af p), .arrA af 42 2 (mA m), .arrX p 59 4 0 (v.map Qw)]⟩ (Hx bx0 r) := by
 intro k
 induction k with
 | zero =>
  intro ai aj ac ad q s u g j m v w y aa ab af p h
  cases (show (none : Option (aAu × r4r)) = some r from h)
 | succ k ih =>
  intro ai aj ac ad q s u g j m v w y aa ab af p h
  rw [Uv] at h
  refine Q4 ?_
  refine T.seq ?_
  refine T.seq (Qq ?_)
  refine mw rfl ?_
  refine mw rfl ?_
  refine sp rfl (Qa rfl rfl (dk rfl) rfl rfl ?_)
  refine mw rfl ?_
  rcases Qd h with ⟨a, h⟩ | ⟨a, h⟩
  refine sn rfl a (OpT.move rfl (dk rfl) rfl ?_)
  refine sn rfl a (OpT.nilCheck rfl (dk rfl) rfl rfl ?_)
  refine sn rfl a (Qg rfl (dk rfl) ul86 rfl i4 (by decide) rfl ?_)
  refine sn rfl a (Qm (i := 0) rfl (dk rfl) ul4 rfl rfl rfl rfl ?_)
  refine sn rfl a (OpT.not rfl (dk rfl) rfl ?_)
  refine sp rfl (Qi rfl (dk rfl) rfl a rfl ?_)
  refine TL'.nil (tN ?_)
  rcases Qd h with ⟨am, h⟩ | ⟨am, h⟩
  refine Qk rfl am ?_
  refine T.skip (tN ?_)
  refine T.seq ?_
  refine T.block ?_
  refine T.seq (Qq ?_)
  refine mw rfl ?_
  obtain ⟨al, ap, h⟩ := bind_some h
  refine sp rfl (Q2 (is := [0]) (ph := []) rfl (dk rfl) Try.func58 rfl rfl (Q3.cons rfl Q3.nil) (Kp K (bx0 := bx0) ap) (.cons rfl rfl (.nil)) (fun _ => rfl) (fun av => ?_))
  refine nm (.c (.c (.c (.c (.c (.c (.c (.n)))))))) ?_
  refine aw rfl ?_
  refine TL'.nil (tN (T.seq (Qq ?_)))
  refine mw rfl ?_
  obtain ⟨ag, aq, h⟩ := bind_some h
  refine sp rfl (Q2 (is := [0]) (ph := []) rfl (dk rfl) Try.func58 rfl rfl (Q3.cons rfl Q3.nil) (Kp K (bx0 := bx0) aq) (.cons rfl rfl (.nil)) (fun _ => rfl) (fun ay => ?_))
  refine nm (.c (.c (.c (.c (.c (.c (.c (.n)))))))) ?_
  refine aw rfl ?_
  refine TL'.nil (tN ?_)
  refine Qq ?_
  refine sp rfl (Qg rfl (dk rfl) Xe rfl i25 (by decide) rfl ?_)
  refine sp rfl (Qm (i := 4) rfl (dk rfl) Mq rfl rfl rfl rfl ?_)
  refine mw rfl ?_
  refine mw rfl ?_
  refine sp rfl (OpT.build (l := (Zb.dc .i64 (Zb.mk al.1 ag.1))) rfl (dk rfl) (Nh ul42 i42 i3) (J6 rfl) rfl rfl ?_)
  refine sp rfl (OpT.buildSlice (elems := ([(Zb.mk al.1 ag.1)] : List Zb).map (Zb.dc .i64)) rfl (dk rfl) Mq i42 (by decide) rfl (J6 rfl) rfl rfl rfl (Yp rfl) (by decide) ?_)
  obtain ⟨au, h⟩ := Zh h
  refine sp rfl (Za (i := 5) (xs := m) (ys := [(Zb.mk al.1 ag.1)]) (f := (Zb.dc .i64)) rfl (dk rfl) Mq i42 rfl rfl rfl rfl au (fun an => ?_))
  refine sp rfl (Qg rfl (dk rfl) Xe rfl i25 (by decide) rfl ?_)
  refine sp rfl (Xd (i := 4) (cells' := ((Qx.oc 256 .u8 g) ++ (([.d (.int .i64 j), .d (.ex an), .d (.ex p)]:List OC)))) rfl rfl i25 rfl rfl rfl (nb rfl) rfl ?_)
  refine TL'.nil (Qe (tN ?_))
  refine Qq ?_
  refine mw rfl ?_
  refine sp rfl (Qa rfl rfl (dk rfl) rfl rfl ?_)
  refine aw rfl ?_
  refine TL'.nil (tN ?_)
  refine Qb ?_ (ih ai (wI (aj + (1:Int))) ag.2.b ag.2.bad q s u g j (m ++ [(Zb.mk al.1 ag.1)]) v w y aa ab an p h)
  exact tq rfl rfl
  refine Qo rfl am ?_
  refine Qc ?_ (Rt K bx0 ac ad q s u g j m v w y aa ab af p h)
  exact tq rfl rfl
  refine pf rfl a ?_
  refine pf rfl a ?_
  refine pf rfl a ?_
  refine pf rfl a ?_
  refine pf rfl a ?_
  refine sp rfl (Qs rfl (dk rfl) rfl a rfl ?_)
  refine TL'.nil (tN ?_)
  refine Qo rfl rfl ?_
  refine Qc ?_ (Rt K bx0 ac ad q s u g j m v w y aa ab af p h)
  exact tq rfl rfl
theorem Ru {r : aAu × r4r} (K bx0 : Nat) (aa : List Int) (ab : Bool) (a : Qx) (f : List Zb) (g : List (Bool × aSt)) (i : Qx) (j : Int) (l : List Zb) (m : List (Bool × aSt)) (p : Nat) (q s : Value) (u : Nat) (v w : Value) (h : Wo K aa ab a f g i j l m = some r) : T tp 129 (ca [1,1,1,0,1,0,0,0,1,1] Try.f40) ⟨[(0, .ptr bx0 0), (2, .ptr p 0), (3, .ptr u 0)], [(Yt bx0 aa ab), (Zc p a (0:Int) q s), .arrA q 42 2 (mA f), .arrX s 59 4 0 (g.map Qw), (Zc u i j v w), .arrA v 42 2 (mA l), .arrX w 59 4 0 (m.map Qw)]⟩ (Pw bx0 r) := by
 unfold Wo at h
 refine T.exit (Qf (Qf (Qp (tN ?_))))
 refine T.seq (Qq ?_)
 refine mw rfl ?_
 obtain ⟨y, ac, h⟩ := bind_some h
 refine sp rfl (Q2 (is := [0]) (ph := []) rfl (dk rfl) Try.func58 rfl rfl (Q3.cons rfl Q3.nil) (Kp K (bx0 := bx0) ac) (.cons rfl rfl (.nil)) (fun _ => rfl) (fun ad => ?_))
 refine nm (.c (.c (.c (.c (.c (.c (.c (.n)))))))) ?_
 refine aw rfl ?_
 refine TL'.nil (tN ?_)
 refine T.seq ?_
 refine T.seq (Qq ?_)
 refine aw rfl ?_
 refine TL'.nil (tN ?_)
 refine T.block ?_
 refine T.loop ?_
 refine Qb ?_ (r4r_read_l2_T K bx0 K y.1 (0:Int) y.2.b y.2.bad a f g i j l m p q s u v w h)
 exact tq rfl rfl
theorem r4r_read_l0_T {r : aAu × r4r} (K bx0 : Nat) : ∀ (k : Nat), ∀ (y : List Int) (l : Int) (ad : List Int) (w : Bool) (af : Qx) (ag : List Zb) (ai : List (Bool × aSt)) (q : Qx) (g : Int) (aj : List Zb) (al : List (Bool × aSt)) (aa : Nat) (ab ac : Value) (j : Nat) (m p : Value), Js K k y l ad w af ag ai q g aj al = some r → TL tp 129 (ca [1,1,1,0,1,0,0] Try.f40) ⟨[(0, .ptr bx0 0), (2, .ptr aa 0), (3, .ptr j 0), (4, .sl false 1 (mU y)), (5, .int .i64 l)], [(Yt bx0 ad w), (Zc aa af (0:Int) ab ac), .arrA ab 42 2 (mA ag), .arrX ac 59 4 0 (ai.map Qw), (Zc j q g m p), .arrA m 42 2 (mA aj), .arrX p 59 4 0 (al.map Qw)]⟩ (Lv bx0 r) := by
 intro k
 induction k with
 | zero =>
  intro y l ad w af ag ai q g aj al aa ab ac j m p h
  cases (show (none : Option (aAu × r4r)) = some r from h)
 | succ k ih =>
  intro y l ad w af ag ai q g aj al aa ab ac j m p h
  rw [Js] at h
  refine Q4 ?_
  refine T.seq ?_
  refine T.seq (Qq ?_)
  refine mw rfl ?_
  refine sp rfl (Qa rfl rfl (dk rfl) rfl rfl ?_)
  refine mw rfl ?_
  rcases Qd h with ⟨s, h⟩ | ⟨s, h⟩
  refine sn rfl s (OpT.move rfl (dk rfl) rfl ?_)
  refine sn rfl s (OpT.nilCheck rfl (dk rfl) rfl rfl ?_)
  refine sn rfl s (Qg rfl (dk rfl) ul86 rfl i4 (by decide) rfl ?_)
  refine sn rfl s (Qm (i := 0) rfl (dk rfl) ul4 rfl rfl rfl rfl ?_)
  refine sn rfl s (OpT.not rfl (dk rfl) rfl ?_)
  refine sp rfl (Qi rfl (dk rfl) rfl s rfl ?_)
  refine TL'.nil (tN ?_)
  rcases Qd h with ⟨an, h⟩ | ⟨an, h⟩
  refine Qk rfl an ?_
  refine T.skip (tN ?_)
  refine T.seq ?_
  refine T.block ?_
  refine T.seq (Qq ?_)
  iterate 3 refine mw rfl ?_
  refine sp rfl (Qa rfl rfl (dk rfl) rfl rfl ?_)
  obtain ⟨b, ap, h⟩ := bind_some h
  refine sp rfl (Qh (xs := y) (f := (cI .u8)) (v := b) rfl (dk rfl) Xg i5 rfl rfl ap ?_)
  refine sp rfl (Qr rfl (dk rfl) ul5 rfl rfl rfl ?_)
  refine sp rfl (Qg rfl (dk rfl) Xe rfl i24 (by decide) rfl ?_)
  refine sp rfl (Qg rfl (dk rfl) Ig rfl i22 (by decide) rfl ?_)
  obtain ⟨am, h⟩ := Zh h
  refine sp rfl (Zx rfl (dk rfl) ul22 i5 rfl rfl am.1 am.2 ?_)
  refine sp rfl (Xd (i := 4) (cells' := ((Qx.oc 256 .u8 (Qx.set q l b)) ++ (([.d (.int .i64 g), .d (.ex m), .d (.ex p)]:List OC)))) rfl rfl i5 rfl rfl rfl (Qx.oc_lt (n := 256) (k := .u8) (a := q) (pre := []) (post := [.d (.int .i64 g), .d (.ex m), .d (.ex p)]) am.1 am.2) (Qbq (n := 256) (k := .u8) (a := q) (pre := []) (post := [.d (.int .i64 g), .d (.ex m), .d (.ex p)]) am.1 am.2) ?_)
  refine TL'.nil (tN ?_)
  refine X3 ?_
  refine dS (c := ⟨some 37, .ptr j (0 + 0), [(3, .ptr j 0)], [], []⟩) (fun t hm => oF rfl rfl (Qg rfl (dk rfl) Xe rfl i24 (by decide) hm.s0 rfl)) rfl rfl ?_
  refine dS (c := ⟨some 38, .ptr j (0 + 0 + 256), [(37, .ptr j (0 + 0))], [], []⟩) (fun t hm => oF rfl rfl (Qg rfl (dk rfl) Ig rfl i3 (by decide) hm.s0 rfl)) rfl rfl ?_
  refine dS (c := ⟨some 39, .int .i64 g, [(38, .ptr j (0 + 0 + 256))], [(4, (Zc j (Qx.set q l b) g m p))], []⟩) (fun t hm => oF rfl rfl (Qm (i := 4) rfl (dk rfl) ul3 rfl hm.s0 hm.o0 rfl rfl)) rfl rfl ?_
  refine Yr rfl rfl rfl rfl rfl rfl ?_
  refine Yr rfl rfl rfl rfl rfl rfl ?_
  refine dS (c := ⟨some 42, .int .i64 (wI (l + (4:Int))), [(41, .int .i64 l)], [], []⟩) (fun t hm => oF rfl rfl (Qa rfl rfl (dk rfl) hm.s0 rfl rfl)) rfl rfl ?_
  refine dS (c := ⟨some 43, .ref [.int .u8 b], [(40, .sl false 1 (mU y)), (42, .int .i64 (wI (l + (4:Int))))], [], []⟩) (fun t hm => oF rfl rfl (Qh (xs := y) (f := (cI .u8)) (v := b) rfl (dk rfl) Xg i5 hm.s0 hm.s1 ap rfl)) rfl rfl ?_
  refine dS (c := ⟨some 44, .int .u8 b, [(43, .ref [.int .u8 b])], [], []⟩) (fun t hm => oF rfl rfl (Qr rfl (dk rfl) ul5 rfl hm.s0 rfl rfl)) rfl rfl ?_
  refine dS (c := ⟨some 45, .int .i64 (wI b), [(44, .int .u8 b)], [], []⟩) (fun t hm => oF rfl rfl (Z9 rfl (dk rfl) ul5 ul3 hm.s0 rfl)) rfl rfl ?_
  refine dS (c := ⟨some 46, .int .i64 (wI ((wI b) + (1:Int))), [(45, .int .i64 (wI b))], [], []⟩) (fun t hm => oF rfl rfl (Qa rfl rfl (dk rfl) hm.s0 rfl rfl)) rfl rfl ?_
  refine dS (c := ⟨some 47, .int .i64 (if (wI ((wI b) + (1:Int))) > g then (wI ((wI b) + (1:Int))) else g), [(39, .int .i64 g), (46, .int .i64 (wI ((wI b) + (1:Int))))], [], []⟩) (fun t hm => oF rfl rfl (OpT.max2 rfl (dk rfl) hm.s0 hm.s1 rfl)) rfl rfl ?_
  refine dS (c := ⟨some 48, .ptr j (0 + 0), [(3, .ptr j 0)], [], []⟩) (fun t hm => oF rfl rfl (Qg rfl (dk rfl) Xe rfl i24 (by decide) hm.s0 rfl)) rfl rfl ?_
  refine dS (c := ⟨some 49, .ptr j (0 + 0 + 256), [(48, .ptr j (0 + 0))], [], []⟩) (fun t hm => oF rfl rfl (Qg rfl (dk rfl) Ig rfl i3 (by decide) hm.s0 rfl)) rfl rfl ?_
  refine dS (c := ⟨none, .any, [(49, .ptr j (0 + 0 + 256)), (47, .int .i64 (if (wI ((wI b) + (1:Int))) > g then (wI ((wI b) + (1:Int))) else g))], [(4, (Zc j (Qx.set q l b) g m p))], [(4, (Zc j (Qx.set q l b) (if (wI ((wI b) + (1:Int))) > g then (wI ((wI b) + (1:Int))) else g) m p))]⟩) (fun t hm => oF rfl rfl (Xd (i := 4) (cells' := ((Qx.oc 256 .u8 (Qx.set q l b)) ++ (([.d (.int .i64 (if (wI ((wI b) + (1:Int))) > g then (wI ((wI b) + (1:Int))) else g)), .d (.ex m), .d (.ex p)]:List OC)))) rfl rfl i3 hm.s0 hm.s1 hm.o0 (nb rfl) rfl rfl)) rfl rfl ?_
  refine Y4 (s1 := ⟨[(0, .ptr bx0 0), (2, .ptr aa 0), (3, .ptr j 0), (4, .sl false 1 (mU y)), (5, .int .i64 l), (20, .ptr bx0 0), (21, .ptr bx0 0), (22, .ptr bx0 (0 + 1)), (23, .bool w), (24, .bool (!w))], [(Yt bx0 ad w), (Zc aa af (0:Int) ab ac), .arrA ab 42 2 (mA ag), .arrX ac 59 4 0 (ai.map Qw), (Zc j (Qx.set q l b) (if (wI ((wI b) + (1:Int))) > g then (wI ((wI b) + (1:Int))) else g) m p), .arrA m 42 2 (mA aj), .arrX p 59 4 0 (al.map Qw)]⟩) (ms := [0, 1, 3, 0, 0, 16, 56, 120, 248, 504, 1023, 2047, 4095, 8191]) Q7 rfl (by kernel_rfl) (by kernel_rfl) (by kernel_rfl) (sf rfl) rfl (fun u hu => (Qe (tN (Qc hu ?_))))
  refine Qq ?_
  refine mw rfl ?_
  refine sp rfl (Qa rfl rfl (dk rfl) rfl rfl ?_)
  refine aw rfl ?_
  refine TL'.nil (tN ?_)
  refine Qb ?_ (ih y (wI (l + (1:Int))) ad w af ag ai (Qx.set q l b) (if (wI ((wI b) + (1:Int))) > g then (wI ((wI b) + (1:Int))) else g) aj al aa ab ac j m p h)
  exact tq rfl rfl
  refine Qo rfl an ?_
  refine Qc ?_ (Ru K bx0 ad w af ag ai q g aj al aa ab ac j m p h)
  exact tq rfl rfl
  refine pf rfl s ?_
  refine pf rfl s ?_
  refine pf rfl s ?_
  refine pf rfl s ?_
  refine pf rfl s ?_
  refine sp rfl (Qs rfl (dk rfl) rfl s rfl ?_)
  refine TL'.nil (tN ?_)
  refine Qo rfl rfl ?_
  refine Qc ?_ (Ru K bx0 ad w af ag ai q g aj al aa ab ac j m p h)
  exact tq rfl rfl
theorem r4r_read_T (K : Nat) {x0 : r4r} {bx0 : Nat} {r : aAu × r4r} (h : Nv K x0 = some r) : Uz tp 40 [.ptr bx0 0] [(Yt bx0 x0.b x0.bad)] (fun γ => (.agg ((Qx.dc 256 .u8 r.1.Split.Of) ++ (([.int .i64 r.1.Split.Many, .sl false 2 (mA r.1.Counts), .sl false 4 (r.1.States.map Q0)] : List DC))))) (fun γ => [(Yt bx0 r.2.b r.2.bad)]) := by
 refine Qt Try.func40 rfl (nb rfl) ?_
 show T tp 129 (ca [] Try.f40) ⟨Qv 0 [.ptr bx0 0], [(Yt bx0 x0.b x0.bad)]⟩ (W5 bx0 r)
 unfold Nv at h
 refine T.seq (Qq ?_)
 refine sp rfl (Zi rfl (dk rfl) i28 rfl (fun f => ?_))
 refine TL'.nil (tN (T.seq (Qq ?_)))
 refine sp rfl (OpT.build (l := ((Qx.dc 256 .u8 (Qx.mk fun _ => 0)) ++ (([.int .i64 (0:Int), .ex (.slice none 0 0), .ex (.slice none 0 0)] : List DC)))) rfl (dk rfl) (Zr (pl := [(0, 257), (257, 1), (258, 1)]) Xe i28 rfl) (J6 rfl) rfl rfl ?_)
 refine sp rfl (Zi rfl (dk rfl) i28 rfl (fun g => ?_))
 refine sp rfl (Q1 (i := 0) (cells' := ((Qx.oc 256 .u8 (Qx.mk fun _ => 0)) ++ (([.d (.int .i64 (0:Int)), .d (.ex (.slice none 0 0)), .d (.ex (.slice none 0 0))]:List OC)))) rfl rfl i28 rfl rfl rfl rfl (nb rfl) rfl ?_)
 refine TL'.nil (tN (T.seq (Qq ?_)))
 refine mw rfl ?_
 obtain ⟨a, j, h⟩ := bind_some h
 refine sp rfl (Q2 (is := [2]) (ph := []) rfl (dk rfl) Try.func57 rfl rfl (Q3.cons rfl (Q3.cons rfl Q3.nil)) (r4r_some_T K (bx0 := bx0) j) (.cons rfl rfl (.nil)) (fun _ => rfl) (fun m => ?_))
 refine nm (.c (.c (.c (.n)))) ?_
 refine aw rfl ?_
 refine TL'.nil (tN ?_)
 refine T.seq ?_
 refine T.seq (Qq ?_)
 refine aw rfl ?_
 refine TL'.nil (tN ?_)
 refine T.block ?_
 refine T.loop ?_
 refine Qb (Yc 42 2) ?_
 refine Qb (D9 59 4) ?_
 refine Qb (Yc 42 2) ?_
 refine Qb (D9 59 4) ?_
 refine Qb ?_ (r4r_read_l0_T K bx0 K a.1 (0:Int) a.2.b a.2.bad (Qx.mk fun _ => 0) [] [] (Qx.mk fun _ => 0) (0:Int) [] [] f (Mn 33) (Mn 34) g (Mn 35) (Mn 36) h)
 exact tr rfl (.c (.s (.s (.s (.s (.s (.s .z)))))) (.c (.s (.s (.s (.s (.s .z))))) (.c (.s (.s (.s .z))) (.c (.s (.s .z)) (.c (.s (.s .z)) (.c (.s .z) (.c .z (.n _))))))))
abbrev P1 (r : aAu × Int) : ES := Jk tp Try.f18 (fun y t => y = (.tup [.agg ((Qx.dc 256 .u8 r.1.Split.Of) ++ (([.int .i64 r.1.Split.Many, .sl false 2 (mA r.1.Counts), .sl false 4 (r.1.States.map Q0)] : List DC))), .int .i64 r.2]) ∧ t = [])
abbrev R1 (r : aAu × Int) : ES := thenS (fun s' => T tp 34 (ca [1,1,1,1,1,1] Try.f18) s' ((P1 r))) ((P1 r))
theorem O6 {r : aAu × Int} (K : Nat) (a : Qx) (b : Nat) (h : Ck K a = some r) : T tp 34 (ca [1,1,1,1,1,0,1,0] Try.f18) ⟨[(2, .ptr b 0)], [(Zc b a (0:Int) (.slice none 0 0) (.slice none 0 0))]⟩ (R1 r) := by
 unfold Ck at h
 refine T.seq (Qq ?_)
 refine sp rfl (OpT.build (l := ((Qx.dc 256 .u8 (Qx.mk fun _ => 0)) ++ (([.int .i64 (0:Int), .ex (.slice none 0 0), .ex (.slice none 0 0)] : List DC)))) rfl (dk rfl) (Zr (pl := [(0, 257), (257, 1), (258, 1)]) Xe i28 rfl) (J6 rfl) rfl rfl ?_)
 refine sp rfl (Q1 (i := 0) (cells' := ((Qx.oc 256 .u8 (Qx.mk fun _ => 0)) ++ (([.d (.int .i64 (0:Int)), .d (.ex (.slice none 0 0)), .d (.ex (.slice none 0 0))]:List OC)))) rfl rfl i28 rfl rfl rfl rfl (nb rfl) rfl ?_)
 refine aw rfl ?_
 refine TL'.nil (tN ?_)
 refine T.ret (Ql ?_)
 refine Xf (Wx 0 (l := ((Qx.dc 256 .u8 (Qx.mk fun _ => 0)) ++ (([.int .i64 (0:Int), .ex (.slice none 0 0), .ex (.slice none 0 0)] : List DC)))) (l' := ((Qx.dc 256 .u8 (Qx.mk fun _ => 0)) ++ (([.int .i64 (0:Int), .sl false 2 (([] : List Zb).map (Zb.dc .i64)), .sl false 4 (([] : List aSt).map Q0)] : List DC)))) rfl (.app _ (.cons (.same _) (.cons (.nil _ _) (.cons (.nil _ _) (.refl _)))))) ?_
 exact Fin.done (.cons _ _ _ _ (.cellAgg 2 28 _ 0 0 28 _ ((Qx.dc 256 .u8 (Qx.mk fun _ => 0)) ++ (([.int .i64 (0:Int), .sl false 2 (([] : List Zb).map (Zb.dc .i64)), .sl false 4 (([] : List aSt).map Q0)] : List DC))) _ _ 259 _ rfl rfl rfl rfl Xe rfl i28) (.cons _ _ _ _ (.tmp 3 _ rfl) .nil)) (by cases h; exact ⟨rfl, rfl⟩)
theorem r4_Decode_T (K : Nat) {x0 : List Int} {flx0 : Bool} {r : aAu × Int} (h : Dw K x0 = some r) : Zt tp 18 [.sl flx0 1 (mU x0)] [] (.tup [.agg ((Qx.dc 256 .u8 r.1.Split.Of) ++ (([.int .i64 r.1.Split.Many, .sl false 2 (mA r.1.Counts), .sl false 4 (r.1.States.map Q0)] : List DC))), .int .i64 r.2]) := by
 refine Qt Try.func18 rfl (nb rfl) ?_
 show T tp 34 (ca [] Try.f18) ⟨Qv 0 [.sl flx0 1 (mU x0)], []⟩ (P1 r)
 unfold Dw at h
 refine T.seq (Qq ?_)
 refine sp rfl (Zi rfl (dk rfl) i28 rfl (fun j => ?_))
 refine aw rfl ?_
 refine TL'.nil (tN (T.seq (Qq ?_)))
 refine mw rfl ?_
 refine sp rfl (Zm (OpT.build (l := [.sl flx0 1 (mU x0), .bool false]) rfl (dk rfl) (Zr (pl := [(0, 1), (1, 1)]) ul86 i86 rfl) (J6 rfl) rfl rfl rfl) (Zz 9 (l := [.sl flx0 1 (mU x0), .bool false]) (l' := [.sl false 1 (mU x0), .bool false]) (.cons (.full _ _ _) (.cons (.same _) (.refl _)))) ?_)
 refine sp rfl (Zg rfl (dk rfl) rfl (fun m => ?_))
 refine aw rfl ?_
 refine TL'.nil (tN (T.seq (Qq ?_)))
 refine mw rfl ?_
 obtain ⟨a, p, h⟩ := bind_some h
 refine sp rfl (Q2 (is := [0]) (ph := []) rfl (dk rfl) Try.func40 rfl rfl (Q3.cons rfl Q3.nil) (r4r_read_T K (bx0 := m) p) (.cons rfl rfl (.nil)) (fun _ => rfl) (fun v => ?_))
 refine nm (.c (.c (.n))) ?_
 refine sp rfl (Zi rfl (dk rfl) i28 rfl (fun w => ?_))
 refine sp rfl (Q1 (i := 0) (cells' := ((Qx.oc 256 .u8 a.1.Split.Of) ++ (([.d (.int .i64 a.1.Split.Many), .d (.sl false 2 (mA a.1.Counts)), .d (.sl false 4 (a.1.States.map Q0))]:List OC)))) rfl rfl i28 rfl rfl rfl rfl (nb rfl) rfl ?_)
 refine TL'.nil (tN ?_)
 refine T.seq ?_
 refine T.seq (Qq ?_)
 refine mw rfl ?_
 refine sp rfl (OpT.nilCheck rfl (dk rfl) rfl rfl ?_)
 refine sp rfl (Qg rfl (dk rfl) ul86 rfl i4 (by decide) rfl ?_)
 refine sp rfl (Qm (i := 1) rfl (dk rfl) ul4 rfl rfl rfl rfl ?_)
 refine TL'.nil (tN ?_)
 rcases Qd h with ⟨f, h⟩ | ⟨f, h⟩
 refine Qk rfl f ?_
 refine T.seq (Qq ?_)
 refine sp rfl (OpT.build (l := ((Qx.dc 256 .u8 (Qx.mk fun _ => 0)) ++ (([.int .i64 (0:Int), .ex (.slice none 0 0), .ex (.slice none 0 0)] : List DC)))) rfl (dk rfl) (Zr (pl := [(0, 257), (257, 1), (258, 1)]) Xe i28 rfl) (J6 rfl) rfl rfl ?_)
 refine sp rfl (Q1 (i := 2) (cells' := ((Qx.oc 256 .u8 (Qx.mk fun _ => 0)) ++ (([.d (.int .i64 (0:Int)), .d (.ex (.slice none 0 0)), .d (.ex (.slice none 0 0))]:List OC)))) rfl rfl i28 rfl rfl rfl rfl (nb rfl) rfl ?_)
 refine aw rfl ?_
 refine TL'.nil (tN ?_)
 refine T.ret (Ql ?_)
 refine Xf (Wx 2 (l := ((Qx.dc 256 .u8 (Qx.mk fun _ => 0)) ++ (([.int .i64 (0:Int), .ex (.slice none 0 0), .ex (.slice none 0 0)] : List DC)))) (l' := ((Qx.dc 256 .u8 (Qx.mk fun _ => 0)) ++ (([.int .i64 (0:Int), .sl false 2 (([] : List Zb).map (Zb.dc .i64)), .sl false 4 (([] : List aSt).map Q0)] : List DC)))) rfl (.app _ (.cons (.same _) (.cons (.nil _ _) (.cons (.nil _ _) (.refl _)))))) ?_
 exact Fin.done (.cons _ _ _ _ (.cellAgg 2 28 _ 0 2 28 _ ((Qx.dc 256 .u8 (Qx.mk fun _ => 0)) ++ (([.int .i64 (0:Int), .sl false 2 (([] : List Zb).map (Zb.dc .i64)), .sl false 4 (([] : List aSt).map Q0)] : List DC))) _ _ 259 _ rfl rfl rfl rfl Xe rfl i28) (.cons _ _ _ _ (.tmp 3 _ rfl) .nil)) (by cases h; exact ⟨rfl, rfl⟩)
 refine Qo rfl f ?_
 refine T.skip (tN ?_)
 refine T.seq (Qq ?_)
 refine sp rfl (Ze (i := 0) (l := ((Qx.dc 256 .u8 a.1.Split.Of) ++ (([.int .i64 a.1.Split.Many, .sl false 2 (mA a.1.Counts), .sl false 4 (a.1.States.map Q0)] : List DC)))) rfl (dk rfl) Xe rfl i28 rfl rfl rfl rfl ?_)
 obtain ⟨q, u, h⟩ := bind_some h
 refine sp rfl (Q5 rfl (dk rfl) Try.func12 rfl rfl (Q3.cons rfl Q3.nil) (Zt.nil (r4_Encode_T K u)) ?_)
 refine mw rfl ?_
 refine sp rfl (OpT.extract rfl (dk rfl) rfl rfl ?_)
 refine sp rfl (OpT.extract rfl (dk rfl) rfl rfl ?_)
 refine aw rfl ?_
 refine aw rfl ?_
 refine TL'.nil (tN ?_)
 refine T.seq ?_
 refine T.seq (Qq ?_)
 refine mw rfl ?_
 refine sp rfl (Qa rfl rfl (dk rfl) rfl rfl ?_)
 refine mw rfl ?_
 rcases Qd h with ⟨b, h⟩ | ⟨b, h⟩
 refine pf rfl b ?_
 refine pf rfl b ?_
 refine pf rfl b ?_
 refine pf rfl b ?_
 refine pf rfl b ?_
 refine sp rfl (Qi rfl (dk rfl) rfl b rfl ?_)
 refine TL'.nil (tN ?_)
 refine Qk rfl rfl ?_
 refine Qc ?_ (O6 K (Qx.mk fun _ => 0) j h)
 exact tr rfl (.c (.s (.s .z)) (.n _))
 refine sn rfl b (OpT.move rfl (dk rfl) rfl ?_)
 refine sn rfl b (Ur (xs := q.1) rfl (dk rfl) Xg ul5 ul9 rfl ?_)
 refine sn rfl b (OpT.move rfl (dk rfl) rfl ?_)
 refine sn rfl b (Ur (xs := x0) rfl (dk rfl) Xg ul5 ul9 rfl ?_)
 refine sn rfl b (Qbm rfl (dk rfl) rfl rfl ?_)
 refine sp rfl (Qs rfl (dk rfl) rfl b rfl ?_)
 refine TL'.nil (tN ?_)
 rcases Qd h with ⟨g, h⟩ | ⟨g, h⟩
 refine Qk rfl g ?_
 refine Qc ?_ (O6 K (Qx.mk fun _ => 0) j h)
 exact tr rfl (.c (.s (.s .z)) (.n _))
 refine Qo rfl g ?_
 refine T.skip (tN ?_)
 refine T.seq (Qq ?_)
 refine sp rfl (Ze (i := 0) (l := ((Qx.dc 256 .u8 a.1.Split.Of) ++ (([.int .i64 a.1.Split.Many, .sl false 2 (mA a.1.Counts), .sl false 4 (a.1.States.map Q0)] : List DC)))) rfl (dk rfl) Xe rfl i28 rfl rfl rfl rfl ?_)
 refine sp rfl (Q1 (i := 2) (cells' := ((Qx.oc 256 .u8 a.1.Split.Of) ++ (([.d (.int .i64 a.1.Split.Many), .d (.sl false 2 (mA a.1.Counts)), .d (.sl false 4 (a.1.States.map Q0))]:List OC)))) rfl rfl i28 rfl rfl rfl rfl (nb rfl) rfl ?_)
 refine aw rfl ?_
 refine TL'.nil (tN ?_)
 refine T.ret ?_
 exact Fin.done (.cons _ _ _ _ (.cellAgg 2 28 _ 0 2 28 _ ((Qx.dc 256 .u8 a.1.Split.Of) ++ (([.int .i64 a.1.Split.Many, .sl false 2 (mA a.1.Counts), .sl false 4 (a.1.States.map Q0)] : List DC))) _ _ 259 _ rfl rfl rfl rfl Xe rfl i28) (.cons _ _ _ _ (.tmp 3 _ rfl) .nil)) (by cases h; exact ⟨rfl, rfl⟩)
end Go.Rv

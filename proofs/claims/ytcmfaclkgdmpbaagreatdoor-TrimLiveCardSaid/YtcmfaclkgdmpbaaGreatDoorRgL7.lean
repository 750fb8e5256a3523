/- Each function computes what its plain text says: printed by a program of ours. -/
import Derived.Test.YtcmfaclkgdmpbaaGreatDoorRgW9
namespace Go.Rv
open Go.Proofs
set_option maxRecDepth 100000
set_option maxHeartbeats 4000000
set_option linter.unusedVariables false
abbrev Ur (r : Bool) : ES := Wb tp Tryz.f7 (fun y t => y = (.bool r) ∧ t = [.tab 0 Y0])
abbrev Ii (r : Bool) : ES := thenS (fun s' => T tp 129 (ca [1,1,1,1,1] Tryz.f7) s' ((Ur r))) ((Ur r))
abbrev D7 (r : Bool) : ES := thenS (fun s' => T tp 129 (ca [1,1,1,1,1,1,1,1] Tryz.f7) s' ((Ur r))) ((Ur r))
abbrev Xk (r : Bool) : ES := Qz 0 ((D7 r))
abbrev Hf (r : Bool) : ES := thenS (fun s' => TL tp 129 (ca [1,1,1,1,1,1,1,0,1,0,0] Tryz.f7) s' ((Xk r))) ((Xk r))
abbrev Ms (r : Bool) : ES := thenS (fun s' => T tp 129 (ca [1,1,1,1,1,1,1,0,1,0,0,1,1,1] Tryz.f7) s' ((Hf r))) ((Hf r))
abbrev Uq (r : Bool) : ES := Qz 1 ((Ms r))
abbrev Kb (r : Bool) : ES := thenS (fun s' => T tp 129 (ca [1,1,1,1,1,1,1,0,1,0,0,1,1,0,0,1,1,1] Tryz.f7) s' ((Uq r))) ((Uq r))
abbrev Z9 (r : Bool) : ES := Qz 2 ((Kb r))
abbrev V3 (r : Bool) : ES := thenS (fun s' => TL tp 129 (ca [1,1,1,1,1,1,1,0,1,0,0,1,1,0,0,1,1,0,1,0,0] Tryz.f7) s' ((Z9 r))) ((Z9 r))
abbrev Hs (r : Bool) : ES := thenS (fun s' => T tp 129 (ca [1,1,1,1,1,1,1,0,1,0,0,1,1,0,0,1,1,0,1,0,0,1,1,1] Tryz.f7) s' ((V3 r))) ((V3 r))
abbrev Y6 (r : Bool) : ES := Qz 3 ((Hs r))
abbrev U9 (r : Bool) : ES := Qz 4 ((Y6 r))
theorem Ba {r : Bool} (K : Nat) (a : Bool) (h : Jy K a = some r) : T tp 129 (ca [1,1,1,1,0,1,0,1] Tryz.f7) ⟨[(2, .bool a)], [.tab 0 Y0]⟩ (Ii r) := by
 unfold Jy at h
 refine T.ret (Qw ?_)
 exact Q4 (.cons _ _ _ _ (.tmp 2 _ rfl) .nil) (.cons 0 rfl (.nil _)) (by cases h; exact ⟨rfl, rfl⟩)
abbrev M8 (r : Bool) (go : Bool → (List Bool) → Int → Int → Bool → (List Qa) → Int → Int → (List (List Qd)) → Int → Int → Zg → Int → (List Vg) → (List Qa) → (List Int) → (List Int) → (List Int) → (List (List Qd)) → Option Bool) : Prop := ∀ (a : Bool) (b : List Bool) (c f : Int) (g : Bool) (i : List Qa) (j l : Int) (m : List (List Qd)) (n p : Int) (q : Zg) (s : Int) (u : List Vg) (v : List Qa) (w y z : List Int) (aa : List (List Qd)) (ab ac : Nat), go a b c f g i j l m n p q s u v w y z aa = some r → TL tp 129 (ca [1,1,1,1,1,1,1,0,1,0,0,1,1,0,0,1,1,0,1,0,0] Tryz.f7) ⟨[(3, .bool a), (4, .ptr ab 0), (5, .sl false 1 (b.map cB)), (6, .int .i64 c), (7, .int .i64 f), (8, .ptr ac 0), (9, .bool g), (37, .sl false 4 (i.map Qc)), (38, .int .i64 j), (39, .int .i64 l), (45, .sl false 1 (m.map (cL 2 Qg))), (46, .int .i64 n), (47, .int .i64 p)], [(R8 ab q s u v), (Jz ac w y z aa), .tab 0 Y0]⟩ (Z9 r)
theorem Pb {r : Bool} (K : Nat) (go2 : Bool → (List Bool) → Int → Int → Bool → (List Qa) → Int → Int → (List (List Qd)) → Int → Int → Zg → Int → (List Vg) → (List Qa) → (List Int) → (List Int) → (List Int) → (List (List Qd)) → Option Bool) (hgo2 : M8 r go2) : ∀ (k : Nat), ∀ (j : Bool) (g : List Bool) (l m : Int) (av : Bool) (p : List Qa) (q u : Int) (w : List (List Qd)) (y aa : Int) (ab : List Qd) (aq au : Int) (ac : Zg) (ad : Int) (af : List Vg) (ag : List Qa) (ai aj al : List Int) (am : List (List Qd)) (an ap : Nat), Yj K go2 k j g l m av p q u w y aa ab aq au ac ad af ag ai aj al am = some r → TL tp 129 (ca [1,1,1,1,1,1,1,0,1,0,0,1,1,0,0,1,1,0,1,0,0,1,1,0,0,1,1,1,0,0] Tryz.f7) ⟨[(3, .bool j), (4, .ptr an 0), (5, .sl false 1 (g.map cB)), (6, .int .i64 l), (7, .int .i64 m), (8, .ptr ap 0), (9, .bool av), (37, .sl false 4 (p.map Qc)), (38, .int .i64 q), (39, .int .i64 u), (45, .sl false 1 (w.map (cL 2 Qg))), (46, .int .i64 y), (47, .int .i64 aa), (61, .sl false 2 (ab.map Qg)), (62, .int .i64 aq), (63, .int .i64 au)], [(R8 an ac ad af ag), (Jz ap ai aj al am), .tab 0 Y0]⟩ (U9 r) := by
 intro k
 induction k with
 | zero =>
  intro j g l m av p q u w y aa ab aq au ac ad af ag ai aj al am an ap h
  exact zn h
 | succ k ih =>
  intro j g l m av p q u w y aa ab aq au ac ad af ag ai aj al am an ap h
  rw [Yj] at h
  refine Q6 ?_
  refine T.seq (Qq ?_)
  refine oI rfl ?_
  refine TL'.nil (tN ?_)
  refine T.seq ?_
  rcases Qe h with ⟨ay, h⟩ | ⟨ay, h⟩
  refine Qr rfl ay ?_
  refine T.skip (tN ?_)
  refine T.seq ?_
  refine T.block ?_
  refine T.seq (Qq ?_)
  obtain ⟨az, a1, h⟩ := bind_some h
  refine oX ab Qg Oa i54 a1 rfl ?_
  refine sp rfl (Zb rfl (dk rfl) Cl rfl i54 rfl (nb rfl) ?_)
  refine sp rfl (Ze rfl (dk rfl) i54 rfl (fun a3 => ?_))
  refine sp rfl (Qx (i := 0) (cells' := [.d (.int .i64 az.To), .d (.sl false 1 (mU az.Ops))]) rfl rfl i54 rfl rfl rfl rfl (nb rfl) rfl ?_)
  refine TL'.nil (tN ?_)
  refine Qq ?_
  refine mw rfl ?_
  refine mw rfl ?_
  rcases Qe h with ⟨a, h⟩ | ⟨a, h⟩
  refine pf rfl a ?_
  refine pf rfl a ?_
  refine pf rfl a ?_
  refine pf rfl a ?_
  refine Qa4 (.gone _ _ _ rfl rfl rfl) (dk rfl) ?_
  refine Qa4 (.gone _ _ _ rfl rfl rfl) (dk rfl) ?_
  refine Qa4 (.gone _ _ _ rfl rfl rfl) (dk rfl) ?_
  refine Qa4 (.gone _ _ _ rfl rfl rfl) (dk rfl) ?_
  refine Qa4 (.gone _ _ _ rfl rfl rfl) (dk rfl) ?_
  refine pf rfl a ?_
  refine oY a rfl ?_
  refine aw rfl ?_
  refine TL'.nil (Ql (tN ?_))
  refine Qq ?_
  refine oI rfl ?_
  refine mw rfl ?_
  refine TL'.nil (tN ?_)
  refine Qh ?_ (ih j g l m true p q u w y aa ab aq (wI (au + (1:Int))) ac ad af ag ai aj al am an ap h)
  exact tr rfl (.c (.s .z) (.c (.s .z) (.c (.s .z) (.n _))))
  refine sn rfl a (Z0 rfl (dk rfl) Cl rfl i3 (by decide) rfl ?_)
  refine sn rfl a (Zo (i := 0) rfl (dk rfl) ul3 rfl rfl rfl rfl ?_)
  refine sn rfl a (Zj rfl rfl (dk rfl) rfl rfl ?_)
  refine sn rfl a (OpT.move rfl (dk rfl) rfl ?_)
  rcases Qe h with ⟨b, h⟩ | ⟨b, h⟩
  refine sn rfl b (OpT.move rfl (dk rfl) rfl ?_)
  refine sn rfl b (Z0 rfl (dk rfl) Cl rfl i3 (by decide) rfl ?_)
  refine sn rfl b (Zo (i := 0) rfl (dk rfl) ul3 rfl rfl rfl rfl ?_)
  obtain ⟨a0, a2, h⟩ := bind_some h
  refine sn rfl b (Yq (xs := g) (f := cB) (v := a0) rfl (dk rfl) ul33 i4 rfl rfl a2 ?_)
  refine sn rfl b (Xi rfl (dk rfl) ul4 rfl rfl rfl ?_)
  refine sn rfl a (Ky rfl (dk rfl) rfl b rfl ?_)
  refine oZ a rfl ?_
  refine aw rfl ?_
  refine TL'.nil (Ql (tN ?_))
  refine Qq ?_
  refine oI rfl ?_
  refine mw rfl ?_
  refine TL'.nil (tN ?_)
  refine Qh ?_ (ih j g l m a0 p q u w y aa ab aq (wI (au + (1:Int))) ac ad af ag ai aj al am an ap h)
  exact tr rfl (.c (.s .z) (.c (.s .z) (.c (.s .z) (.n _))))
  refine pf rfl b ?_
  refine pf rfl b ?_
  refine pf rfl b ?_
  refine pf rfl b ?_
  refine pf rfl b ?_
  refine sn rfl a (Kz rfl (dk rfl) rfl b rfl ?_)
  refine oZ a rfl ?_
  refine aw rfl ?_
  refine TL'.nil (Ql (tN ?_))
  refine Qq ?_
  refine oI rfl ?_
  refine mw rfl ?_
  refine TL'.nil (tN ?_)
  refine Qh ?_ (ih j g l m false p q u w y aa ab aq (wI (au + (1:Int))) ac ad af ag ai aj al am an ap h)
  exact tr rfl (.c (.s .z) (.c (.s .z) (.c (.s .z) (.n _))))
  refine Qp rfl ay ?_
  refine T.exit (Qk (Qk (Qt (Ql (tN ?_)))))
  refine Qq ?_
  refine oI rfl ?_
  refine mw rfl ?_
  refine TL'.nil (tN ?_)
  refine Qh ?_ (hgo2 j g l m av p q u w y (wI (aa + (1:Int))) ac ad af ag ai aj al am an ap h)
  exact tq rfl rfl
theorem M9 {r : Bool} (K : Nat) (go2 : Bool → (List Bool) → Int → Int → Bool → (List Qa) → Int → Int → (List (List Qd)) → Int → Int → Zg → Int → (List Vg) → (List Qa) → (List Int) → (List Int) → (List Int) → (List (List Qd)) → Option Bool) (hgo2 : M8 r go2) (b : Bool) (g : List Bool) (i j : Int) (l : Bool) (a : List Qd) (m : List Qa) (p q : Int) (s : List (List Qd)) (u v : Int) (w : Zg) (y : Int) (aa : List Vg) (ab : List Qa) (ac ad af : List Int) (ag : List (List Qd)) (ai aj : Nat) (h : X1 K go2 b g i j l a m p q s u v w y aa ab ac ad af ag = some r) : T tp 129 (ca [1,1,1,1,1,1,1,0,1,0,0,1,1,0,0,1,1,0,1,0,0,1,1,0,0,1,1] Tryz.f7) ⟨[(3, .bool b), (4, .ptr ai 0), (5, .sl false 1 (g.map cB)), (6, .int .i64 i), (7, .int .i64 j), (8, .ptr aj 0), (9, .bool l), (11, .sl false 2 (a.map Qg)), (37, .sl false 4 (m.map Qc)), (38, .int .i64 p), (39, .int .i64 q), (45, .sl false 1 (s.map (cL 2 Qg))), (46, .int .i64 u), (47, .int .i64 v)], [(R8 ai w y aa ab), (Jz aj ac ad af ag), .tab 0 Y0]⟩ (Y6 r) := by
 unfold X1 at h
 refine T.seq (Qq ?_)
 refine mw rfl ?_
 refine oU a Qg Oa rfl ?_
 refine mw rfl ?_
 refine TL'.nil (tN ?_)
 refine T.block ?_
 refine T.loop ?_
 refine Qh ?_ (Pb K go2 hgo2 K b g i j l m p q s u v a (a.length : Int) (0:Int) w y aa ab ac ad af ag ai aj h)
 exact tq rfl rfl
abbrev Pe (r : Bool) (go : Bool → (List Bool) → Int → (List Qa) → Int → Int → Zg → Int → (List Vg) → (List Qa) → Option Bool) : Prop := ∀ (a : Bool) (b : List Bool) (c : Int) (f : List Qa) (g i : Int) (j : Zg) (l : Int) (m : List Vg) (n : List Qa) (p : Nat), go a b c f g i j l m n = some r → TL tp 129 (ca [1,1,1,1,1,1,1,0,1,0,0] Tryz.f7) ⟨[(3, .bool a), (4, .ptr p 0), (5, .sl false 1 (b.map cB)), (6, .int .i64 c), (37, .sl false 4 (f.map Qc)), (38, .int .i64 g), (39, .int .i64 i)], [(R8 p j l m n), .tab 0 Y0]⟩ (Xk r)
theorem Pc {r : Bool} (K : Nat) (go1 : Bool → (List Bool) → Int → (List Qa) → Int → Int → Zg → Int → (List Vg) → (List Qa) → Option Bool) (hgo1 : Pe r go1) : ∀ (k : Nat), ∀ (g : Bool) (b : List Bool) (j af : Int) (ap : Bool) (l : List Qa) (m p : Int) (ab : List (List Qd)) (ag ai : Int) (q : Zg) (u : Int) (w : List Vg) (y : List Qa) (aj al ac : List Int) (am : List (List Qd)) (aa an : Nat), Zx K go1 k g b j af ap l m p ab ag ai q u w y aj al ac am = some r → TL tp 129 (ca [1,1,1,1,1,1,1,0,1,0,0,1,1,0,0,1,1,0,1,0,0] Tryz.f7) ⟨[(3, .bool g), (4, .ptr aa 0), (5, .sl false 1 (b.map cB)), (6, .int .i64 j), (7, .int .i64 af), (8, .ptr an 0), (9, .bool ap), (37, .sl false 4 (l.map Qc)), (38, .int .i64 m), (39, .int .i64 p), (45, .sl false 1 (ab.map (cL 2 Qg))), (46, .int .i64 ag), (47, .int .i64 ai)], [(R8 aa q u w y), (Jz an aj al ac am), .tab 0 Y0]⟩ (Z9 r) := by
 intro k
 induction k with
 | zero =>
  intro g b j af ap l m p ab ag ai q u w y aj al ac am aa an h
  exact zn h
 | succ k ih =>
  intro g b j af ap l m p ab ag ai q u w y aj al ac am aa an h
  rw [Zx] at h
  refine Q6 ?_
  refine T.seq (Qq ?_)
  refine oI rfl ?_
  refine TL'.nil (tN ?_)
  refine T.seq ?_
  rcases Qe h with ⟨aq, h⟩ | ⟨aq, h⟩
  refine Qr rfl aq ?_
  refine T.skip (tN ?_)
  refine T.seq ?_
  refine T.block ?_
  refine T.seq (Qq ?_)
  refine mw rfl ?_
  obtain ⟨au, a0, h⟩ := bind_some h
  refine oX ab (cL 2 Qg) Rg i55 a0 rfl ?_
  refine oR Oa rfl ?_
  refine aw rfl ?_
  refine aw rfl ?_
  refine TL'.nil (tN (T.seq (Qq ?_)))
  refine mw rfl ?_
  refine mw rfl ?_
  rcases Qe h with ⟨a, h⟩ | ⟨a, h⟩
  refine pf rfl a ?_
  refine pf rfl a ?_
  refine pf rfl a ?_
  refine pf rfl a ?_
  refine pf rfl a ?_
  refine pf rfl a ?_
  refine oY a rfl ?_
  refine aw rfl ?_
  refine TL'.nil (tN ?_)
  refine Qm ?_ (M9 K (Zx K go1 k) ih g b j af true au l m p ab ag ai q u w y aj al ac am aa an h)
  exact tq rfl rfl
  refine sn rfl a (Z0 rfl (dk rfl) H1 rfl i38 (by decide) rfl ?_)
  refine sn rfl a (Zo (i := 1) rfl (dk rfl) Zy rfl rfl rfl rfl ?_)
  refine sn rfl a (OpT.move rfl (dk rfl) rfl ?_)
  obtain ⟨az, a1, h⟩ := bind_some h
  refine sn rfl a (Yq (xs := ac) (f := (cI .i64)) (v := az) rfl (dk rfl) Zy i3 rfl rfl a1 ?_)
  refine sn rfl a (Xi rfl (dk rfl) ul3 rfl rfl rfl ?_)
  refine sn rfl a (Zj rfl rfl (dk rfl) rfl rfl ?_)
  refine oZ a rfl ?_
  refine aw rfl ?_
  refine TL'.nil (tN ?_)
  refine Qm ?_ (M9 K (Zx K go1 k) ih g b j af (decide (az ≥ (0:Int))) au l m p ab ag ai q u w y aj al ac am aa an h)
  exact tq rfl rfl
  refine Qp rfl aq ?_
  refine T.exit (Qk (Qk (Qt (tN ?_))))
  refine T.seq ?_
  refine T.seq (Qq ?_)
  iterate 3 refine mw rfl ?_
  obtain ⟨a2, a3, h⟩ := bind_some h
  refine oX b cB ul33 i4 a3 rfl ?_
  refine oR ul4 rfl ?_
  refine sp rfl (Qe8 rfl (dk rfl) ul4 rfl rfl ?_)
  refine TL'.nil (tN ?_)
  rcases Qe h with ⟨av, h⟩ | ⟨av, h⟩
  refine Qr rfl av ?_
  refine T.seq (Qq ?_)
  refine aw rfl ?_
  refine TL'.nil (tN ?_)
  refine T.ret (Qw (Q5 (Qw (Qw (Q5 (Qw ?_))))))
  exact Q4 (.cons _ _ _ _ (.tmp 2 _ rfl) .nil) (.cons 2 rfl (.nil _)) (by cases h; exact ⟨rfl, rfl⟩)
  refine Qp rfl av ?_
  refine T.skip (tN ?_)
  refine T.seq (Qq ?_)
  refine mw rfl ?_
  refine mw rfl ?_
  rcases Qe h with ⟨ad, h⟩ | ⟨ad, h⟩
  refine sn rfl ad (OpT.move rfl (dk rfl) rfl ?_)
  refine sn rfl ad (Zj rfl rfl (dk rfl) rfl rfl ?_)
  refine oY ad rfl ?_
  refine TL'.nil (tN ?_)
  rcases Qe h with ⟨ay, h⟩ | ⟨ay, h⟩
  refine Qr rfl ay ?_
  refine Qq ?_
  refine mw rfl ?_
  refine oI rfl ?_
  refine aw rfl ?_
  refine TL'.nil (Ql (tN ?_))
  refine Qq ?_
  refine oI rfl ?_
  refine mw rfl ?_
  refine TL'.nil (tN ?_)
  refine Qh ?_ (hgo1 g b (wI (j + (1:Int))) l m (wI (p + (1:Int))) q u w y aa h)
  exact tr rfl (.c .z (.c (.s .z) (.n _)))
  refine Qp rfl ay ?_
  refine T.skip (Ql (tN ?_))
  refine Qq ?_
  refine oI rfl ?_
  refine mw rfl ?_
  refine TL'.nil (tN ?_)
  refine Qh ?_ (hgo1 g b j l m (wI (p + (1:Int))) q u w y aa h)
  exact tr rfl (.c .z (.c (.s .z) (.n _)))
  refine pf rfl ad ?_
  refine pf rfl ad ?_
  refine oZ ad rfl ?_
  refine TL'.nil (tN ?_)
  refine Qp rfl rfl ?_
  refine T.skip (Ql (tN ?_))
  refine Qq ?_
  refine oI rfl ?_
  refine mw rfl ?_
  refine TL'.nil (tN ?_)
  refine Qh ?_ (hgo1 g b j l m (wI (p + (1:Int))) q u w y aa h)
  exact tr rfl (.c .z (.c (.s .z) (.n _)))
theorem Pd {r : Bool} (K : Nat) : ∀ (k : Nat), ∀ (ac : Bool) (ad : List Bool) (af : Int) (y : List Qa) (ag aa : Int) (p : Zg) (q : Int) (u : List Vg) (ab : List Qa) (ai : Nat), Yk K k ac ad af y ag aa p q u ab = some r → TL tp 129 (ca [1,1,1,1,1,1,1,0,1,0,0] Tryz.f7) ⟨[(3, .bool ac), (4, .ptr ai 0), (5, .sl false 1 (ad.map cB)), (6, .int .i64 af), (37, .sl false 4 (y.map Qc)), (38, .int .i64 ag), (39, .int .i64 aa)], [(R8 ai p q u ab), .tab 0 Y0]⟩ (Xk r) := by
 intro k
 induction k with
 | zero =>
  intro ac ad af y ag aa p q u ab ai h
  exact zn h
 | succ k ih =>
  intro ac ad af y ag aa p q u ab ai h
  rw [Yk] at h
  refine Q6 ?_
  refine T.seq (Qq ?_)
  refine oI rfl ?_
  refine TL'.nil (tN ?_)
  refine T.seq ?_
  rcases Qe h with ⟨aj, h⟩ | ⟨aj, h⟩
  refine Qr rfl aj ?_
  refine T.skip (tN ?_)
  refine T.seq ?_
  refine T.block ?_
  refine T.seq (Qq ?_)
  refine mw rfl ?_
  obtain ⟨j, al, h⟩ := bind_some h
  refine oX y Qc Ja i51 al rfl ?_
  refine sp rfl (Zb rfl (dk rfl) H1 rfl i51 rfl (nb rfl) ?_)
  refine sp rfl (Ze rfl (dk rfl) i51 rfl (fun am => ?_))
  refine aw rfl ?_
  refine sp rfl (Qx (i := 0) (cells' := [.d (.sl false 1 (mI j.L)), .d (.sl false 1 (mI j.R)), .d (.sl false 1 (mI j.Rule)), .d (.sl false 1 (j.Next.map (cL 2 Qg)))]) rfl rfl i51 rfl rfl rfl rfl (nb rfl) rfl ?_)
  refine TL'.nil (tN (T.seq (Qq ?_)))
  refine aw rfl ?_
  refine TL'.nil (tN ?_)
  refine T.seq ?_
  refine T.seq (Qq ?_)
  refine oP H1 i49 rfl ?_
  refine oL 0 Rg rfl ?_
  refine oU j.Next (cL 2 Qg) Rg rfl ?_
  refine mw rfl ?_
  refine TL'.nil (tN ?_)
  refine T.block ?_
  refine T.loop ?_
  refine Qh ?_ (Pc K (Yk K k) ih K ac ad af aa false y ag aa j.Next (j.Next.length : Int) (0:Int) p q u ab j.L j.R j.Rule j.Next ai am h)
  exact tr rfl (.c (.s .z) (.c .z (.c .z (.n _))))
  refine Qp rfl aj ?_
  refine T.exit (Qk (Qk (Qt (tN ?_))))
  refine T.seq (Qq ?_)
  refine oA 0 ((Zg.dc 256 .u8 p) ++ (([.int .i64 q, .sl false 2 (mA u), .sl false 4 (ab.map Qc)] : List DC))) J5 i28 rfl ?_
  obtain ⟨m, an, h⟩ := bind_some h
  refine sp rfl (B6 rfl (dk rfl) Tryz.func10 rfl rfl (Q7.cons rfl Q7.nil) (.tab 1 rfl (.nil)) (trim_Of_T K an) ?_)
  refine mw rfl ?_
  refine oE rfl ?_
  refine oE rfl ?_
  refine sp rfl (Ze rfl (dk rfl) i28 rfl (fun ap => ?_))
  refine sp rfl (Qx (i := 0) (cells' := ((Zg.oc 256 .u8 m.1.Split.Of) ++ (([.d (.int .i64 m.1.Split.Many), .d (.sl false 2 (mA m.1.Counts)), .d (.sl false 4 (m.1.States.map Qc))]:List OC)))) rfl rfl i28 rfl rfl rfl rfl (nb rfl) rfl ?_)
  refine aw rfl ?_
  refine TL'.nil (tN (T.seq (Qq ?_)))
  refine mw rfl ?_
  refine mw rfl ?_
  rcases Qe h with ⟨w, h⟩ | ⟨w, h⟩
  refine sn rfl w (OpT.move rfl (dk rfl) rfl ?_)
  refine sn rfl w (Zj rfl rfl (dk rfl) rfl rfl ?_)
  refine oY w rfl ?_
  refine mw rfl ?_
  rcases Qe h with ⟨b, h⟩ | ⟨b, h⟩
  refine sn rfl b (Z0 rfl (dk rfl) J5 rfl i26 (by decide) rfl ?_)
  refine sn rfl b (Zo (i := 0) rfl (dk rfl) Ja rfl rfl rfl rfl ?_)
  refine sn rfl b (Yg (xs := m.1.States) (f := Qc) rfl (dk rfl) Ja rfl ?_)
  refine sn rfl b (OpT.move rfl (dk rfl) rfl ?_)
  refine sn rfl b (Zj rfl rfl (dk rfl) rfl rfl ?_)
  refine oY b rfl ?_
  refine mw rfl ?_
  rcases Qe h with ⟨a, h⟩ | ⟨a, h⟩
  refine sn rfl a (Z0 rfl (dk rfl) J5 rfl i25 (by decide) rfl ?_)
  refine sn rfl a (Zo (i := 0) rfl (dk rfl) Qfa rfl rfl rfl rfl ?_)
  refine sn rfl a (Yg (xs := m.1.Counts) (f := (Vg.dc .i64)) rfl (dk rfl) Qfa rfl ?_)
  refine sn rfl a (Z0 rfl (dk rfl) J5 rfl i25 (by decide) rfl ?_)
  refine sn rfl a (Zo (i := 1) rfl (dk rfl) Qfa rfl rfl rfl rfl ?_)
  refine sn rfl a (Yg (xs := u) (f := (Vg.dc .i64)) rfl (dk rfl) Qfa rfl ?_)
  refine sn rfl a (Zj rfl rfl (dk rfl) rfl rfl ?_)
  refine oY a rfl ?_
  refine mw rfl ?_
  rcases Qe h with ⟨g, h⟩ | ⟨g, h⟩
  refine sn rfl g (Z0 rfl (dk rfl) J5 rfl i24 (by decide) rfl ?_)
  refine sn rfl g (Jt (i := 0) (l := ((Zg.dc 256 .u8 m.1.Split.Of) ++ (([.int .i64 m.1.Split.Many] : List DC)))) rfl (dk rfl) Qfs rfl i24 rfl rfl rfl rfl ?_)
  refine sn rfl g (Z0 rfl (dk rfl) J5 rfl i24 (by decide) rfl ?_)
  refine sn rfl g (Jt (i := 1) (l := ((Zg.dc 256 .u8 p) ++ (([.int .i64 q] : List DC)))) rfl (dk rfl) Qfs rfl i24 rfl rfl rfl rfl ?_)
  refine sn rfl g (OpT.segsEql (ms := [256, 1]) (us := [(.u8, Zg.list 256 m.1.Split.Of), (.i64, [m.1.Split.Many])]) (ys := [(.u8, Zg.list 256 p), (.i64, [q])]) rfl (dk rfl) Qfs Tryz.stoodInHeld24 (by kernel_rfl) Tryz.eqGuardType24 rfl rfl (.arr (.one (.nil))) (.arr (.one (.nil))) (by simp [Zg.list]) (by simp [Zg.list]) rfl rfl ?_)
  refine oY g rfl ?_
  refine aw rfl ?_
  refine TL'.nil (tN ?_)
  refine T.ret ?_
  exact Q4 (.cons _ _ _ _ (.tmp 2 _ rfl) .nil) (.cons 2 rfl (.nil _)) (by cases h; exact ⟨rfl, rfl⟩)
  refine pf rfl g ?_
  refine pf rfl g ?_
  refine pf rfl g ?_
  refine pf rfl g ?_
  refine pf rfl g ?_
  refine oZ g rfl ?_
  refine aw rfl ?_
  refine TL'.nil (tN ?_)
  refine T.ret ?_
  exact Q4 (.cons _ _ _ _ (.tmp 2 _ rfl) .nil) (.cons 2 rfl (.nil _)) (by cases h; exact ⟨rfl, rfl⟩)
  refine pf rfl a ?_
  refine pf rfl a ?_
  refine pf rfl a ?_
  refine pf rfl a ?_
  refine pf rfl a ?_
  refine pf rfl a ?_
  refine pf rfl a ?_
  refine oZ a rfl ?_
  refine mw rfl ?_
  refine pf rfl rfl ?_
  refine pf rfl rfl ?_
  refine pf rfl rfl ?_
  refine pf rfl rfl ?_
  refine pf rfl rfl ?_
  refine oZ rfl rfl ?_
  refine aw rfl ?_
  refine TL'.nil (tN ?_)
  refine T.ret ?_
  exact Q4 (.cons _ _ _ _ (.tmp 2 _ rfl) .nil) (.cons 2 rfl (.nil _)) (by cases h; exact ⟨rfl, rfl⟩)
  refine pf rfl b ?_
  refine pf rfl b ?_
  refine pf rfl b ?_
  refine pf rfl b ?_
  refine pf rfl b ?_
  refine oZ b rfl ?_
  refine mw rfl ?_
  refine pf rfl rfl ?_
  refine pf rfl rfl ?_
  refine pf rfl rfl ?_
  refine pf rfl rfl ?_
  refine pf rfl rfl ?_
  refine pf rfl rfl ?_
  refine pf rfl rfl ?_
  refine oZ rfl rfl ?_
  refine mw rfl ?_
  refine pf rfl rfl ?_
  refine pf rfl rfl ?_
  refine pf rfl rfl ?_
  refine pf rfl rfl ?_
  refine pf rfl rfl ?_
  refine oZ rfl rfl ?_
  refine aw rfl ?_
  refine TL'.nil (tN ?_)
  refine T.ret ?_
  exact Q4 (.cons _ _ _ _ (.tmp 2 _ rfl) .nil) (.cons 2 rfl (.nil _)) (by cases h; exact ⟨rfl, rfl⟩)
  refine pf rfl w ?_
  refine pf rfl w ?_
  refine oZ w rfl ?_
  refine mw rfl ?_
  refine pf rfl rfl ?_
  refine pf rfl rfl ?_
  refine pf rfl rfl ?_
  refine pf rfl rfl ?_
  refine pf rfl rfl ?_
  refine oZ rfl rfl ?_
  refine mw rfl ?_
  refine pf rfl rfl ?_
  refine pf rfl rfl ?_
  refine pf rfl rfl ?_
  refine pf rfl rfl ?_
  refine pf rfl rfl ?_
  refine pf rfl rfl ?_
  refine pf rfl rfl ?_
  refine oZ rfl rfl ?_
  refine mw rfl ?_
  refine pf rfl rfl ?_
  refine pf rfl rfl ?_
  refine pf rfl rfl ?_
  refine pf rfl rfl ?_
  refine pf rfl rfl ?_
  refine oZ rfl rfl ?_
  refine aw rfl ?_
  refine TL'.nil (tN ?_)
  refine T.ret ?_
  exact Q4 (.cons _ _ _ _ (.tmp 2 _ rfl) .nil) (.cons 2 rfl (.nil _)) (by cases h; exact ⟨rfl, rfl⟩)
theorem T1 (K : Nat) {x0 : Qn} {r : Bool} (h : Vc K x0 = some r) : Zn tp 7 [.agg ((Zg.dc 256 .u8 x0.Split.Of) ++ (([.int .i64 x0.Split.Many, .sl false 2 (mA x0.Counts), .sl false 4 (x0.States.map Qc)] : List DC)))] [.tab 0 Y0] (.bool r) := by
 refine Qu Tryz.func7 rfl (nb rfl) ?_
 show T tp 129 (ca [] Tryz.f7) ⟨Qv 0 [.agg ((Zg.dc 256 .u8 x0.Split.Of) ++ (([.int .i64 x0.Split.Many, .sl false 2 (mA x0.Counts), .sl false 4 (x0.States.map Qc)] : List DC)))], [.tab 0 Y0]⟩ (Ur r)
 unfold Vc at h
 refine T.seq (Qq ?_)
 refine sp rfl (Zi rfl (dk rfl) rfl (fun aa => ?_))
 refine aw rfl ?_
 refine TL'.nil (tN (T.seq (Qq ?_)))
 obtain ⟨p, q, h⟩ := bind_some h
 refine sp rfl (B6 rfl (dk rfl) Tryz.func14 rfl rfl Q7.nil (.tab 1 rfl (.nil)) (Qc1 K q) ?_)
 refine aw rfl ?_
 refine TL'.nil (tN (T.seq (Qq ?_)))
 refine oA 0 ((Zg.dc 256 .u8 x0.Split.Of) ++ (([.int .i64 x0.Split.Many, .sl false 2 (mA x0.Counts), .sl false 4 (x0.States.map Qc)] : List DC))) J5 i28 rfl ?_
 obtain ⟨a, u, h⟩ := bind_some h
 refine sp rfl (Q1 rfl (dk rfl) Tryz.func9 rfl rfl (Q7.cons rfl Q7.nil) (Zn.nil (Qem K u)) ?_)
 refine sp rfl (Ze rfl (dk rfl) i28 rfl (fun v => ?_))
 refine sp rfl (Qx (i := 0) (cells' := ((Zg.oc 256 .u8 a.Split.Of) ++ (([.d (.int .i64 a.Split.Many), .d (.sl false 2 (mA a.Counts)), .d (.sl false 4 (a.States.map Qc))]:List OC)))) rfl rfl i28 rfl rfl rfl rfl (nb rfl) rfl ?_)
 refine TL'.nil (tN (T.seq (Qq ?_)))
 refine oA 0 ((Zg.dc 256 .u8 a.Split.Of) ++ (([.int .i64 a.Split.Many, .sl false 2 (mA a.Counts), .sl false 4 (a.States.map Qc)] : List DC))) J5 i28 rfl ?_
 obtain ⟨g, w, h⟩ := bind_some h
 refine sp rfl (Q1 rfl (dk rfl) Tryz.func12 rfl rfl (Q7.cons rfl Q7.nil) (Zn.nil (Qfz K w)) ?_)
 refine aw rfl ?_
 refine TL'.nil (tN ?_)
 refine T.seq ?_
 refine T.seq (Qq ?_)
 refine oA 0 ((Zg.dc 256 .u8 a.Split.Of) ++ (([.int .i64 a.Split.Many, .sl false 2 (mA a.Counts), .sl false 4 (a.States.map Qc)] : List DC))) J5 i28 rfl ?_
 obtain ⟨ab, y, h⟩ := bind_some h
 refine sp rfl (Q1 rfl (dk rfl) Tryz.func19 rfl rfl (Q7.cons rfl Q7.nil) (Zn.nil (Qcc K y)) ?_)
 refine oT rfl ?_
 refine TL'.nil (tN ?_)
 rcases Qe h with ⟨j, h⟩ | ⟨j, h⟩
 refine Qr rfl j ?_
 refine T.seq (Qq ?_)
 refine mw rfl ?_
 refine mw rfl ?_
 rcases Qe h with ⟨b, h⟩ | ⟨b, h⟩
 refine sn rfl b (OpT.move rfl (dk rfl) rfl ?_)
 refine sn rfl b (Yg (xs := g) (f := cB) rfl (dk rfl) ul33 rfl ?_)
 refine sn rfl b (Zj rfl rfl (dk rfl) rfl rfl ?_)
 refine oY b rfl ?_
 refine aw rfl ?_
 refine TL'.nil (tN ?_)
 refine Qm ?_ (Ba K ((g.length : Int) == (0:Int)) h)
 exact tr rfl (.c (.s (.s .z)) (.n _))
 refine pf rfl b ?_
 refine pf rfl b ?_
 refine pf rfl b ?_
 refine oZ b rfl ?_
 refine aw rfl ?_
 refine TL'.nil (tN ?_)
 refine Qm ?_ (Ba K false h)
 exact tr rfl (.c (.s (.s .z)) (.n _))
 refine Qp rfl j ?_
 refine T.skip (tN ?_)
 refine T.seq ?_
 refine T.seq (Qq ?_)
 refine mw rfl ?_
 refine oU g cB ul33 rfl ?_
 refine oP J5 i26 rfl ?_
 refine oL 0 Ja rfl ?_
 refine oU a.States Qc Ja rfl ?_
 refine oI rfl ?_
 refine TL'.nil (tN ?_)
 rcases Qe h with ⟨m, h⟩ | ⟨m, h⟩
 refine Qr rfl m ?_
 refine T.seq (Qq ?_)
 refine aw rfl ?_
 refine TL'.nil (tN ?_)
 refine T.ret (Qw ?_)
 exact Q4 (.cons _ _ _ _ (.tmp 2 _ rfl) .nil) (.cons 2 rfl (.nil _)) (by cases h; exact ⟨rfl, rfl⟩)
 refine Qp rfl m ?_
 refine T.skip (tN ?_)
 refine T.seq (Qq ?_)
 refine aw rfl ?_
 refine TL'.nil (tN ?_)
 refine T.seq ?_
 refine T.seq (Qq ?_)
 refine oP J5 i26 rfl ?_
 refine oL 0 Ja rfl ?_
 refine oU a.States Qc Ja rfl ?_
 refine mw rfl ?_
 refine TL'.nil (tN ?_)
 refine T.block ?_
 refine T.loop ?_
 refine Qh ?_ (Pd K K p g (1:Int) a.States (a.States.length : Int) (0:Int) a.Split.Of a.Split.Many a.Counts a.States v h)
 exact tr rfl (.c .z (.c (.s .z) (.n _)))
end Go.Rv

/- Each function computes what its plain text says: printed by a program of ours. -/
import Derived.Test.YtcmfaclkgdmpbaaGreatDoorRgW4
namespace Go.Rv
open Go.Proofs
set_option maxRecDepth 100000
set_option maxHeartbeats 4000000
set_option linter.unusedVariables false
abbrev Kw (r : Bool) : ES := Jm tp ff74 (fun y t => y = (.bool r) ∧ t = [])
abbrev Sy (r : Bool) : ES := fT 149 [1,1] ff74 (Kw r)
abbrev Ih (r : Bool) : ES := fT 149 [1,1,1,1,1,1,1] ff74 (Kw r)
abbrev H4 (r : Bool) : ES := Qv 2 ((Ih r))
abbrev Em (r : Bool) : ES := fL 149 [1,1,1,1,1,1,0,1,0,0] ff74 (H4 r)
abbrev Cy (r : Bool) : ES := fT 149 [1,1,1,1,1,1,0,1,0,0,1,1] ff74 (Em r)
abbrev Mm (r : Bool) : ES := Qv 3 ((Cy r))
abbrev Ja (r : Bool) : ES := Qv 4 ((Mm r))
abbrev Ml (r : Bool) : ES := fL 149 [1,1,1,1,1,1,0,1,0,0,1,0,0,1,1,0,0] ff74 (Ja r)
abbrev Kj (r : Bool) : ES := fT 149 [1,1,1,1,1,1,0,1,0,0,1,0,0,1,1,0,0,1,1] ff74 (Ml r)
abbrev W7 (r : Bool) : ES := Qv 5 ((Kj r))
abbrev I8 (r : Bool) : ES := fT 149 [1,1,1,1,1,1] ff74 (Kw r)
abbrev Fi (r : Bool) : ES := Qv 0 ((I8 r))
theorem H0 {r : Bool} (K : Nat) (x2 x3 : Int) (h : Yu K x2 x3 = some r) : T tp 149 (ca [1,0,1,0] ff74) ⟨[(2, .int .i64 x2), (3, .int .i64 x3)], []⟩ (Sy r) := by
 unfold Yu at h
 refine sR (Qr (mw rfl (mw rfl (oI rfl (aw rfl (nL (tN (T.ret (Qs ?_)))))))))
 exact fd rfl (by cases h; exact ⟨rfl, rfl⟩)
theorem Hz {r : Bool} (K : Nat) (h : Yt K = some r) : T tp 149 (ca [1,1,1,1,1,1,0,1,0,0,1,0,0,1,1,0,0,1,0,0,1,1,1,0] ff74) ⟨[], []⟩ (W7 r) := by
 unfold Yt at h
 refine sR (Qr (aw rfl (nL (tN (T.ret (Qy (Qs (Qs (Qy (Qy (Qs (Qs (Qy (Qs (fd rfl (by cases h; exact ⟨rfl, rfl⟩))))))))))))))))
abbrev Ce (r : Bool) (go : (List Int) → Int → (List Int) → (List Int) → (List Int) → (List (List Qd)) → (List Int) → (List Int) → (List Int) → (List (List Qd)) → Option Bool) : Prop := ∀ (x1 : List Int) (a : Int) (b c f : List Int) (g : List (List Qd)) (i j l : List Int) (m : List (List Qd)) (flx1 : Bool) (n p : Nat), go x1 a b c f g i j l m = some r → TL tp 149 (ca [1,1,1,1,1,1,0,1,0,0] ff74) ⟨[(1, .sl flx1 1 (mI x1)), (9, .ptr n 0), (10, .ptr p 0), (12, .int .i64 a)], [(W0 n b c f g), (W0 p i j l m)]⟩ (H4 r)
theorem Sz {r : Bool} (K : Nat) (go2 : (List Int) → Int → (List Int) → (List Int) → (List Int) → (List (List Qd)) → (List Int) → (List Int) → (List Int) → (List (List Qd)) → Option Bool) (hgo2 : Ce r go2) : ∀ (k : Nat), ∀ (x1 : List Int) (ad an : Int) (af ag ai : List Int) (ab : List (List Qd)) (aj al am : List Int) (ac : List (List Qd)) (flx1 : Bool) (p q : Nat), Ys K go2 k x1 ad an af ag ai ab aj al am ac = some r → TL tp 149 (ca [1,1,1,1,1,1,0,1,0,0,1,0,0,1,1,0,0] ff74) ⟨[(1, .sl flx1 1 (mI x1)), (9, .ptr p 0), (10, .ptr q 0), (12, .int .i64 ad), (13, .int .i64 an)], [(W0 p af ag ai ab), (W0 q aj al am ac)]⟩ (Ja r) := by
 intro k
 induction k with
 | zero =>
  intro x1 ad an af ag ai ab aj al am ac flx1 p q h
  exact zn h
 | succ k ih =>
  intro x1 ad an af ag ai ab aj al am ac flx1 p q h
  rw [Ys] at h
  refine Q0 (T.seq (sR (Qr (mw rfl (oP V1 i49 rfl (oL 0 Lk rfl (mw rfl ?_)))))))
  obtain ⟨ap, av, h⟩ := bind_some h
  refine oX ab (cL 2 Qh) Lk i55 av rfl (oR Ma rfl (oU ap Qh Ma rfl (oI rfl (nL (tN ?_)))))
  rcases Qg h with ⟨aq, h⟩ | ⟨aq, h⟩
  refine Qp rfl aq (T.skip (tN (T.seq (T.block (sR (Qr (oP V1 i49 rfl (oL 0 Lk rfl ?_))))))))
  refine mw rfl (oX ab (cL 2 Qh) Lk i55 av rfl (oR Ma rfl (mw rfl ?_)))
  obtain ⟨a, az, h⟩ := bind_some h
  refine oX ap Qh Ma i54 az rfl (oJ Lj i54 rfl (sp rfl (Za rfl (dk rfl) i54 rfl (fun g => (sp rfl (Qt (i := 0) (cells' := [.d (.int .i64 a.To), .d (.sl false 1 (mU a.Ops))]) rfl rfl i54 rfl rfl rfl rfl (nb rfl) rfl (nL (tN (sR (Qr (oP V1 i49 rfl (oL 2 Lk rfl ?_))))))))))))
  refine mw rfl ?_
  obtain ⟨ay, a0, h⟩ := bind_some h
  refine oX ac (cL 2 Qh) Lk i55 a0 rfl (oR Ma rfl (mw rfl ?_))
  obtain ⟨b, a1, h⟩ := bind_some h
  refine oX ay Qh Ma i54 a1 rfl (oJ Lj i54 rfl (sp rfl (Za rfl (dk rfl) i54 rfl (fun l => (sp rfl (Qt (i := 0) (cells' := [.d (.int .i64 b.To), .d (.sl false 1 (mU b.Ops))]) rfl rfl i54 rfl rfl rfl rfl (nb rfl) rfl (nL (tN (T.seq (Zy ?_))))))))))
  refine dP rfl (.f rfl) Lj i52 rfl (dL 1 rfl (.f rfl) B2 rfl (dS (c := ⟨some 117, .str (ofBytes a.Ops), [(116, .sl false 1 (mU a.Ops))], [], []⟩) (fun t hm => oF rfl rfl (Oy (xs := a.Ops) rfl (dk rfl) B2 ul5 ul9 hm.s0 rfl)) rfl rfl (dP rfl (.f rfl) Lj i52 rfl (dL 0 rfl (.f rfl) B2 rfl (dS (c := ⟨some 120, .str (ofBytes b.Ops), [(119, .sl false 1 (mU b.Ops))], [], []⟩) (fun t hm => oF rfl rfl (Oy (xs := b.Ops) rfl (dk rfl) B2 ul5 ul9 hm.s0 rfl)) rfl rfl (dS (c := ⟨some 121, .bool (!((ofBytes a.Ops).toList == (ofBytes b.Ops).toList)), [(117, .str (ofBytes a.Ops)), (120, .str (ofBytes b.Ops))], [], []⟩) (fun t hm => oF rfl rfl (Ql4 rfl (dk rfl) hm.s0 hm.s1 rfl)) rfl rfl ?_))))))
  refine dV rfl rfl ?_
  rcases Qg h with ⟨m, h⟩ | ⟨m, h⟩
  refine dO m rfl rfl (dO m rfl rfl (dO m rfl rfl (dO m rfl rfl (dO m rfl rfl (dO m rfl rfl (dO m rfl rfl ?_))))))
  refine dY rfl (.f rfl) m rfl (dV rfl rfl (dO rfl rfl rfl (dO rfl rfl rfl (dO rfl rfl rfl (dO rfl rfl rfl (dG rfl rfl ?_))))))
  refine dG rfl rfl (dG rfl rfl (dG rfl rfl (dG rfl rfl (dG rfl rfl (dG rfl rfl (dG rfl rfl ?_))))))
  refine dG rfl rfl (dG rfl rfl (dG rfl rfl (dO rfl rfl rfl (dY rfl (.f rfl) rfl rfl (dF [0,1,3,0,8,24,63,127,255,511,1023,255,2303,6399,16383,32767,65535,131071,262143,524287,1048575,2097151,2097151,6291455,16777215,33554431,2097151,2097151,136314879,471859199,1008730111,2147483647,4294967295,8589934591] Qx rfl (by kernel_rfl) (fun u hu => (tN (Ql hu (Qp rfl rfl ?_)))))))))
  refine Ql ?_ (Hz K h)
  exact tq rfl rfl
  refine dP rfl (.n m rfl) Lj i3 rfl (dL 1 rfl (.n m rfl) ul3 rfl (dI rfl (.n m rfl) rfl (dP rfl (.n m rfl) Lj i3 rfl (dL 0 rfl (.n m rfl) ul3 rfl (dI rfl (.n m rfl) rfl (dS (c := ⟨some 129, .bool (!((decide (a.To < (0:Int))) == (decide (b.To < (0:Int))))), [(125, .bool (decide (a.To < (0:Int)))), (128, .bool (decide (b.To < (0:Int)))), (122, .bool (!((ofBytes a.Ops).toList == (ofBytes b.Ops).toList)))], [], []⟩) (fun t hm => oN rfl rfl rfl hm.s2 m (Qfi rfl (dk rfl) ul4 hm.s0 hm.s1 rfl)) rfl rfl ?_))))))
  refine dZ rfl (.f rfl) m rfl (dV rfl rfl ?_)
  rcases Qg h with ⟨w, h⟩ | ⟨w, h⟩
  refine dO w rfl rfl (dO w rfl rfl (dO w rfl rfl (dO w rfl rfl (dG rfl rfl (dG rfl rfl (dG rfl rfl ?_))))))
  refine dG rfl rfl (dG rfl rfl (dG rfl rfl (dG rfl rfl (dG rfl rfl (dG rfl rfl (dG rfl rfl ?_))))))
  refine dG rfl rfl (dO w rfl rfl (dY rfl (.f rfl) w rfl (dF [0,1,3,0,8,24,63,127,255,511,1023,255,2303,6399,16383,32767,65535,131071,262143,524287,1048575,2097151,2097151,6291455,16777215,33554431,2097151,2097151,136314879,471859199,1008730111,2147483647,4294967295,8589934591] Qx rfl (by kernel_rfl) (fun u hu => (tN (Ql hu (Qp rfl rfl ?_)))))))
  refine Ql ?_ (Hz K h)
  exact tq rfl rfl
  refine dP rfl (.n w rfl) Lj i3 rfl (dL 1 rfl (.n w rfl) ul3 rfl (dI rfl (.n w rfl) rfl (dM rfl (.n w rfl) rfl ?_)))
  rcases Qg h with ⟨j, h⟩ | ⟨j, h⟩
  refine dM rfl (.n j rfl) rfl (dP rfl (.n j rfl) Lj i3 rfl (dL 1 rfl (.n j rfl) ul3 rfl ?_))
  obtain ⟨y, a2, h⟩ := bind_some h
  refine dX x1 (cI .i64) rfl (.n j rfl) Zi i3 a2 rfl (dR rfl (.n j rfl) ul3 rfl (dM rfl (.n j rfl) rfl (dP rfl (.n j rfl) Lj i3 rfl (dL 0 rfl (.n j rfl) ul3 rfl ?_))))
  obtain ⟨aa, a3, h⟩ := bind_some h
  refine dX x1 (cI .i64) rfl (.n j rfl) Zi i3 a3 rfl (dR rfl (.n j rfl) ul3 rfl (dI rfl (.n j rfl) rfl (dY rfl (.n w rfl) j rfl (dZ rfl (.f rfl) w rfl (dF [0,1,3,0,8,24,63,127,255,511,1023,255,2303,6399,16383,32767,65535,131071,262143,524287,1048575,2097151,2097151,6291455,16777215,33554431,2097151,2097151,136314879,471859199,1008730111,2147483647,4294967295,8589934591] Qx rfl (by kernel_rfl) (fun u hu => (tN (Ql hu ?_))))))))
  rcases Qg h with ⟨au, h⟩ | ⟨au, h⟩
  refine Qp rfl au ?_
  refine Ql ?_ (Hz K h)
  exact tq rfl rfl
  refine Qo rfl au (T.skip (Qk (tN (Qr (mw rfl (oI rfl (aw rfl (nL (tN ?_)))))))))
  refine Qf ?_ (ih x1 ad (wI (an + (1:Int))) af ag ai ab aj al am ac flx1 p q h)
  exact tr rfl (.c (.s (.s .z)) (.c (.s (.s .z)) (.n _)))
  refine dO j rfl rfl (dO j rfl rfl (dO j rfl rfl (dO j rfl rfl (dO j rfl rfl (dO j rfl rfl (dO j rfl rfl ?_))))))
  refine dO j rfl rfl (dO j rfl rfl (dO j rfl rfl (dO j rfl rfl (dZ rfl (.n w rfl) j rfl (dZ rfl (.f rfl) w rfl (dF [0,1,3,0,8,24,63,127,255,511,1023,255,2303,6399,16383,32767,65535,131071,262143,524287,1048575,2097151,2097151,6291455,16777215,33554431,2097151,2097151,136314879,471859199,1008730111,2147483647,4294967295,8589934591] Qx rfl (by kernel_rfl) (fun u hu => (tN (Ql hu ?_)))))))))
  refine Qo rfl rfl (T.skip (Qk (tN (Qr (mw rfl (oI rfl (aw rfl (nL (tN ?_)))))))))
  refine Qf ?_ (ih x1 ad (wI (an + (1:Int))) af ag ai ab aj al am ac flx1 p q h)
  exact tr rfl (.c (.s (.s .z)) (.c (.s (.s .z)) (.n _)))
  refine Qo rfl aq (T.exit (Qj (Qj (Qq (Qk (tN (Qr (mw rfl (oI rfl (aw rfl (nL (tN ?_))))))))))))
  refine Qf ?_ (hgo2 x1 (wI (ad + (1:Int))) af ag ai ab aj al am ac flx1 p q h)
  exact tq rfl rfl
theorem S0 {r : Bool} (K : Nat) : ∀ (k : Nat), Ce r (Yi K k) := by
 intro k
 induction k with
 | zero =>
  intro x1 p s w g q y aa j ab flx1 a b h
  exact zn h
 | succ k ih =>
  intro x1 p s w g q y aa j ab flx1 a b h
  rw [Yi] at h
  refine Q0 (T.seq (sR (Qr (mw rfl (oP V1 i49 rfl (oL 0 Lk rfl (oU q (cL 2 Qh) Lk rfl ?_)))))))
  refine oI rfl (nL (tN ?_))
  rcases Qg h with ⟨ac, h⟩ | ⟨ac, h⟩
  refine Qp rfl ac (T.skip (tN (T.seq (T.block (T.seq (T.seq (Zy ?_)))))))
  refine dP rfl (.f rfl) V1 i38 rfl (dL 0 rfl (.f rfl) Zi rfl (dV rfl rfl ?_))
  obtain ⟨l, af, h⟩ := bind_some h
  refine dX g (cI .i64) rfl (.f rfl) Zi i3 af rfl (dR rfl (.f rfl) ul3 rfl (dP rfl (.f rfl) V1 i38 rfl (dL 1 rfl (.f rfl) Zi rfl (dV rfl rfl ?_))))
  obtain ⟨m, ag, h⟩ := bind_some h
  refine dX j (cI .i64) rfl (.f rfl) Zi i3 ag rfl (dR rfl (.f rfl) ul3 rfl (dI rfl (.f rfl) rfl (dF [0,1,0,7,15,0,32,0,224,480,1023] Qx rfl (by kernel_rfl) (fun u hu => (tN (Ql hu ?_))))))
  rcases Qg h with ⟨ad, h⟩ | ⟨ad, h⟩
  refine Qp rfl ad (sR (Qr (aw rfl (nL (tN (T.ret (Qs (Qy (Qs (Qs (Qy (Qs (fd rfl (by cases h; exact ⟨rfl, rfl⟩))))))))))))))
  refine Qo rfl ad (T.skip (tN (sR (Qr (aw rfl (nL (tN (T.block (T.loop ?_)))))))))
  refine Qf ?_ (Sz K (Yi K k) ih K x1 p (0:Int) s w g q y aa j ab flx1 a b h)
  exact tq rfl rfl
  refine Qo rfl ac (T.exit (Qj (Qj (Qq (tN (sR (Qr (aw rfl (nL (tN (T.ret (fd rfl (by cases h; exact ⟨rfl, rfl⟩)))))))))))))
theorem S1 {r : Bool} (K : Nat) : ∀ (k : Nat), ∀ (x1 : List Int) (l : Int) (m a p : List Int) (q : List (List Qd)) (s j w : List Int) (y : List (List Qd)) (flx1 : Bool) (b g : Nat), Xk K k x1 l m a p q s j w y = some r → TL tp 149 (ca [1,1,1,1,1,0,1,0,0] ff74) ⟨[(1, .sl flx1 1 (mI x1)), (9, .ptr b 0), (10, .ptr g 0), (11, .int .i64 l)], [(W0 b m a p q), (W0 g s j w y)]⟩ (Fi r) := by
 intro k
 induction k with
 | zero =>
  intro x1 l m a p q s j w y flx1 b g h
  exact zn h
 | succ k ih =>
  intro x1 l m a p q s j w y flx1 b g h
  rw [Xk] at h
  refine Q0 (T.seq (sR (Qr (mw rfl (oP V1 i38 rfl (oL 0 Zi rfl (oU a (cI .i64) Zi rfl ?_)))))))
  refine oI rfl (nL (tN ?_))
  rcases Qg h with ⟨ac, h⟩ | ⟨ac, h⟩
  refine Qp rfl ac (T.skip (tN (T.seq (T.block (T.seq (Zy (dP rfl (.f rfl) V1 i38 rfl ?_)))))))
  refine dL 0 rfl (.f rfl) Zi rfl (dV rfl rfl ?_)
  obtain ⟨aa, af, h⟩ := bind_some h
  refine dX a (cI .i64) rfl (.f rfl) Zi i3 af rfl (dR rfl (.f rfl) ul3 rfl (dP rfl (.f rfl) V1 i38 rfl (dL 1 rfl (.f rfl) Zi rfl (dV rfl rfl ?_))))
  obtain ⟨ab, ag, h⟩ := bind_some h
  refine dX j (cI .i64) rfl (.f rfl) Zi i3 ag rfl (dR rfl (.f rfl) ul3 rfl (dI rfl (.f rfl) rfl (dF [0,1,0,7,15,0,32,0,224,480,1023] Qx rfl (by kernel_rfl) (fun u hu => (tN (Ql hu ?_))))))
  rcases Qg h with ⟨ad, h⟩ | ⟨ad, h⟩
  refine Qp rfl ad (sR (Qr (aw rfl (nL (tN (T.ret (Qy (Qs (Qs (Qy (Qs (fd rfl (by cases h; exact ⟨rfl, rfl⟩)))))))))))))
  refine Qo rfl ad (T.skip (Qk (tN (Qr (mw rfl (oI rfl (aw rfl (nL (tN ?_)))))))))
  refine Qf ?_ (ih x1 (wI (l + (1:Int))) m a p q s j w y flx1 b g h)
  exact tq rfl rfl
  refine Qo rfl ac (T.exit (Qj (Qj (Qq (tN (T.seq (sR (Qr (aw rfl (nL (tN (T.block ?_))))))))))))
  refine T.loop ?_
  refine Qf ?_ (S0 K K x1 (0:Int) m a p q s j w y flx1 b g h)
  exact tq rfl rfl
theorem Qc9 (K : Nat) {x0 : Qc} {x1 : List Int} {x2 x3 : Int} {flx1 r : Bool} (h : Wa K x0 x1 x2 x3 = some r) : Zh tp 74 [.agg ((Q5.dc 256 .u8 x0.Split.Of) ++ (([.int .i64 x0.Split.Many, .sl false 2 (mA x0.Counts), .sl false 4 (x0.States.map Qb)] : List DC))), .sl flx1 1 (mI x1), .int .i64 x2, .int .i64 x3] [] (.bool r) := by
 refine CI 149 fu74 rfl ?_
 unfold Wa at h
 refine sR (Qr (sp rfl (Q8 rfl (dk rfl) rfl (fun p => (aw rfl (nL (tN (T.seq (T.seq (Zy ?_))))))))))
 refine dV rfl rfl (dI rfl (.f rfl) rfl (dV rfl rfl ?_))
 rcases Qg h with ⟨m, h⟩ | ⟨m, h⟩
 refine dO m rfl rfl (dO m rfl rfl (dY rfl (.f rfl) m rfl (dV rfl rfl (dO rfl rfl rfl (dO rfl rfl rfl (dO rfl rfl rfl ?_))))))
 refine dO rfl rfl rfl (dO rfl rfl rfl (dO rfl rfl rfl (dO rfl rfl rfl (dO rfl rfl rfl (dO rfl rfl rfl (dY rfl (.f rfl) rfl rfl ?_))))))
 refine dF [0,1,3,7,15,31,63,127,127,511,1023,127,127,6271,14463,32767,65535] Qx rfl (by kernel_rfl) (fun u hu => (tN (Ql hu (Qp rfl rfl ?_))))
 refine Ql ?_ (H0 K x2 x3 h)
 exact tq rfl rfl
 refine dM rfl (.n m rfl) rfl (dI rfl (.n m rfl) rfl (dZ rfl (.f rfl) m rfl (dV rfl rfl ?_)))
 rcases Qg h with ⟨a, h⟩ | ⟨a, h⟩
 refine dO a rfl rfl (dO a rfl rfl (dO a rfl rfl (dO a rfl rfl (dO a rfl rfl (dO a rfl rfl (dO a rfl rfl ?_))))))
 refine dO a rfl rfl (dO a rfl rfl (dY rfl (.f rfl) a rfl (dF [0,1,3,7,15,31,63,127,127,511,1023,127,127,6271,14463,32767,65535] Qx rfl (by kernel_rfl) (fun u hu => (tN (Ql hu (Qp rfl rfl ?_)))))))
 refine Ql ?_ (H0 K x2 x3 h)
 exact tq rfl rfl
 refine dM rfl (.n a rfl) rfl (dM rfl (.n a rfl) rfl ?_)
 obtain ⟨j, y, h⟩ := bind_some h
 refine dX x1 (cI .i64) rfl (.n a rfl) Zi i3 y rfl (dR rfl (.n a rfl) ul3 rfl (dM rfl (.n a rfl) rfl (dM rfl (.n a rfl) rfl ?_)))
 obtain ⟨l, aa, h⟩ := bind_some h
 refine dX x1 (cI .i64) rfl (.n a rfl) Zi i3 aa rfl (dR rfl (.n a rfl) ul3 rfl (dI rfl (.n a rfl) rfl (dZ rfl (.f rfl) a rfl (dF [0,1,3,7,15,31,63,127,127,511,1023,127,127,6271,14463,32767,65535] Qx rfl (by kernel_rfl) (fun u hu => (tN (Ql hu ?_)))))))
 rcases Qg h with ⟨q, h⟩ | ⟨q, h⟩
 refine Qp rfl q ?_
 refine Ql ?_ (H0 K x2 x3 h)
 exact tq rfl rfl
 refine Qo rfl q (T.skip (tN (sR (Qr (oP Xz i26 rfl (oL 0 Vj rfl (mw rfl ?_)))))))
 obtain ⟨b, ab, h⟩ := bind_some h
 refine oX x0.States Qb Vj i51 ab rfl (oJ V1 i51 rfl (sp rfl (Za rfl (dk rfl) i51 rfl (fun ac => (sp rfl (Qt (i := 0) (cells' := [.d (.sl false 1 (mI b.L)), .d (.sl false 1 (mI b.R)), .d (.sl false 1 (mI b.Rule)), .d (.sl false 1 (b.Next.map (cL 2 Qh)))]) rfl rfl i51 rfl rfl rfl rfl (nb rfl) rfl (nL (tN (sR (Qr (oP Xz i26 rfl (oL 1 Vj rfl ?_))))))))))))
 refine mw rfl ?_
 obtain ⟨g, ad, h⟩ := bind_some h
 refine oX x0.States Qb Vj i51 ad rfl (oJ V1 i51 rfl (sp rfl (Za rfl (dk rfl) i51 rfl (fun af => (sp rfl (Qt (i := 0) (cells' := [.d (.sl false 1 (mI g.L)), .d (.sl false 1 (mI g.R)), .d (.sl false 1 (mI g.Rule)), .d (.sl false 1 (g.Next.map (cL 2 Qh)))]) rfl rfl i51 rfl rfl rfl rfl (nb rfl) rfl (nL (tN (T.seq (sR (Qr ?_)))))))))))
 refine oP V1 i38 rfl (oL 1 Zi rfl (oU b.R (cI .i64) Zi rfl (oP V1 i38 rfl (oL 0 Zi rfl (oU g.R (cI .i64) Zi rfl (oI rfl ?_))))))
 refine nL (tN ?_)
 rcases Qg h with ⟨w, h⟩ | ⟨w, h⟩
 refine Qp rfl w (sR (Qr (aw rfl (nL (tN (T.ret (Qs (fd rfl (by cases h; exact ⟨rfl, rfl⟩)))))))))
 refine Qo rfl w (T.skip (tN (T.seq (sR (Qr (aw rfl (nL (tN (T.block ?_)))))))))
 refine T.loop ?_
 refine Qf ?_ (S1 K K x1 (0:Int) b.L b.R b.Rule b.Next g.L g.R g.Rule g.Next flx1 ac af h)
 exact tr rfl (.c (.s .z) (.c .z (.n _)))
abbrev Qeq (r : (List Int) × Int) : ES := Jm tp ff41 (fun y t => y = (.tup [.sl false 1 (mI r.1), .int .i64 r.2]) ∧ t = [])
abbrev Rp (r : (List Int) × Int) : ES := fT 51 [1,1,1,1] ff41 (Qeq r)
abbrev K5 (r : (List Int) × Int) : ES := Qv 0 ((Rp r))
abbrev Oa (r : (List Int) × Int) : ES := fL 51 [1,1,1,0,1,0,0] ff41 (K5 r)
abbrev Fh (r : (List Int) × Int) : ES := fT 51 [1,1,1,0,1,0,0,1,1] ff41 (Oa r)
abbrev Wu (r : (List Int) × Int) : ES := Qv 1 ((Fh r))
abbrev Do (r : (List Int) × Int) : ES := fT 51 [1,1,1,0,1,0,0,1,0,0,1,1] ff41 (Wu r)
abbrev Md (r : (List Int) × Int) : ES := Qv 2 ((Do r))
abbrev Gt (r : (List Int) × Int) (go : (List Int) → Int → Qc → (List Int) → (List Int) → Option ((List Int) × Int)) : Prop := ∀ (x1 : List Int) (a : Int) (x0 : Qc) (b f : List Int) (flx1 : Bool) (g : Nat) (i j : Value), go x1 a x0 b f = some r → TL tp 51 (ca [1,1,1,0,1,0,0] ff41) ⟨[(1, .sl flx1 1 (mI x1)), (2, .ptr g 0), (6, .c (.ex i)), (7, .c (.ex j)), (8, .int .i64 a)], [(Li g x0.Split.Of x0.Split.Many x0.Counts x0.States), .arrX i 3 1 0 (mI b), .arrX j 3 1 0 (mI f)]⟩ (K5 r)
theorem J3 {r : (List Int) × Int} (K : Nat) (go0 : (List Int) → Int → Qc → (List Int) → (List Int) → Option ((List Int) × Int)) (hgo0 : Gt r go0) (x1 : List Int) (b g : Int) (x0 : Qc) (j a : List Int) (flx1 : Bool) (l : Nat) (m p : Value) (h : Y3 K go0 x1 b g x0 j a = some r) : T tp 51 (ca [1,1,1,0,1,0,0,1,0,0,1,1,1] ff41) ⟨[(1, .sl flx1 1 (mI x1)), (2, .ptr l 0), (6, .c (.ex m)), (7, .c (.ex p)), (8, .int .i64 b), (9, .int .i64 g)], [(Li l x0.Split.Of x0.Split.Many x0.Counts x0.States), .arrX m 3 1 0 (mI j), .arrX p 3 1 0 (mI a)]⟩ (Wu r) := by
 unfold Y3 at h
 refine Qr ?_
 iterate 3 refine mw rfl ?_
 obtain ⟨q, s, h⟩ := bind_some h
 refine sp rfl (Zc (n := 2) (xs := a) (f := (cI .i64)) (old := q) rfl (dk rfl) Zi i3 rfl rfl rfl s (sp rfl (Yr (i := 2) (xs := a) (f := (cI .i64)) (old := q) (new := g) rfl rfl i3 rfl rfl rfl (Zd s).2 (Qmm _) (nb rfl) rfl (nL (Qk (tN (Qr (mw rfl (oI rfl (aw rfl ?_))))))))))
 refine nL (tN ?_)
 refine Qf ?_ (hgo0 x1 (wI (b + (1:Int))) x0 j (List.set a (Int.toNat b) g) flx1 l m p h)
 exact tq rfl rfl
theorem Qad {r : (List Int) × Int} (K : Nat) (go0 : (List Int) → Int → Qc → (List Int) → (List Int) → Option ((List Int) × Int)) (hgo0 : Gt r go0) : ∀ (k : Nat), ∀ (x1 : List Int) (j b : Int) (x0 : Qc) (a v : List Int) (flx1 : Bool) (p : Nat) (g q : Value), Xx K go0 k x1 j b x0 a v = some r → TL tp 51 (ca [1,1,1,0,1,0,0,1,0,0,1,0,0,0] ff41) ⟨[(1, .sl flx1 1 (mI x1)), (2, .ptr p 0), (6, .c (.ex g)), (7, .c (.ex q)), (8, .int .i64 j), (9, .int .i64 b)], [(Li p x0.Split.Of x0.Split.Many x0.Counts x0.States), .arrX g 3 1 0 (mI a), .arrX q 3 1 0 (mI v)]⟩ (Md r) := by
 intro k
 induction k with
 | zero =>
  intro x1 j b x0 a v flx1 p g q h
  exact zn h
 | succ k ih =>
  intro x1 j b x0 a v flx1 p g q h
  rw [Xx] at h
  refine Q0 (T.seq (T.seq (Zy (dV rfl rfl (dV rfl rfl (dS (c := ⟨some 21, .int .i64 (a.length : Int), [(20, .c (.ex g))], [(1, .arrX g 3 1 0 (mI a))], []⟩) (fun t hm => oF rfl rfl (Vz (i := 1) (xs := a) (f := (cI .i64)) rfl (dk rfl) Zi hm.s0 hm.o0 rfl)) rfl rfl ?_))))))
  refine dI rfl (.f rfl) rfl (dV rfl rfl ?_)
  rcases Qg h with ⟨m, h⟩ | ⟨m, h⟩
  refine dW 0 ((Q5.dc 256 .u8 x0.Split.Of) ++ (([.int .i64 x0.Split.Many, .sl false 2 (mA x0.Counts), .sl false 4 (x0.States.map Qb)] : List DC))) rfl (.n m rfl) Xz i28 rfl (dM rfl (.n m rfl) rfl (dM rfl (.n m rfl) rfl (dM rfl (.n m rfl) rfl ?_)))
  obtain ⟨y, ad, h⟩ := bind_some h
  refine dS (c := ⟨some 28, .el g 1 (Int.toNat b) 0, [(26, .c (.ex g)), (27, .int .i64 b), (23, .bool (decide (b < (a.length : Int))))], [(1, .arrX g 3 1 0 (mI a))], []⟩) (fun t hm => oN rfl rfl rfl hm.s2 m (Zc (n := 1) (xs := a) (f := (cI .i64)) (old := y) rfl (dk rfl) Zi i3 hm.s0 hm.o0 hm.s1 ad rfl)) rfl rfl (dS (c := ⟨some 29, .int .i64 y, [(28, .el g 1 (Int.toNat b) 0), (23, .bool (decide (b < (a.length : Int))))], [(1, .arrX g 3 1 0 (mI a))], []⟩) (fun t hm => oN rfl rfl rfl hm.s1 m (X1 (i := 1) (xs := a) (f := (cI .i64)) (old := y) rfl (dk rfl) ul3 rfl hm.s0 hm.o0 (Zd ad).2 rfl rfl)) rfl rfl (dM rfl (.n m rfl) rfl ?_))
  obtain ⟨w, af, h⟩ := bind_some h
  refine dS (c := ⟨some 31, .bool w, [(24, .agg ((Q5.dc 256 .u8 x0.Split.Of) ++ (([.int .i64 x0.Split.Many, .sl false 2 (mA x0.Counts), .sl false 4 (x0.States.map Qb)] : List DC)))), (25, .sl flx1 1 (mI x1)), (29, .int .i64 y), (30, .int .i64 j), (23, .bool (decide (b < (a.length : Int))))], [], []⟩) (fun t hm => One.step rfl (.on rfl rfl (hm.slots (23, _) (.tail _ (.tail _ (.tail _ (.tail _ (.head _)))))) m) (Vt rfl (dk rfl) fu74 rfl rfl (Zm.cons hm.s0 (Zm.cons hm.s1 (Zm.cons hm.s2 (Zm.cons hm.s3 Zm.nil)))) (Zh.nil (Qc9 K (flx1 := flx1) af)) rfl)) rfl rfl (dT rfl (.n m rfl) rfl (dY rfl (.f rfl) m rfl (dF [0,0,2,7,15,31,31,31,31,415,927,31,4095,8191,16383] Qx rfl (by kernel_rfl) (fun u hu => (tN (Ql hu ?_))))))
  rcases Qg h with ⟨aa, h⟩ | ⟨aa, h⟩
  refine Qp rfl aa (T.skip (tN (T.block (Qr (mw rfl (oI rfl (aw rfl ?_)))))))
  refine nL (Qk (tN ?_))
  refine Qf ?_ (ih x1 j (wI (b + (1:Int))) x0 a v flx1 p g q h)
  exact tq rfl rfl
  refine Qo rfl aa (T.exit (Qj (Qj (Qq (tN (T.seq (sR (Qr (mw rfl (mw rfl (sp rfl (Vz (i := 1) (xs := a) (f := (cI .i64)) rfl (dk rfl) Zi rfl rfl ?_))))))))))))
  refine oI rfl (nL (tN ?_))
  rcases Qg h with ⟨ab, h⟩ | ⟨ab, h⟩
  refine Qp rfl ab (Qr (mw rfl (mw rfl (sp rfl (M0 (elems := ([j] : List Int).map (cI .i64)) rfl (dk rfl) Zi i3 (by decide) rfl (Hs rfl) rfl rfl rfl (Xh rfl) (by decide) (fun am => (Uh (Uf 0 rfl) (Uh (Zr.view 42 0 rfl rfl) ?_))))))))
  obtain ⟨ag, h⟩ := Q6 h
  refine sp rfl (Hv (i := 2) (xs := a) (ys := [j]) (f := (cI .i64)) rfl (dk rfl) Zi i3 rfl rfl rfl rfl ag (fun ai => (aw rfl (nL (tN ?_)))))
  refine Ql ?_ (J3 K go0 hgo0 x1 j b x0 (a ++ [j]) v flx1 p ai q h)
  exact tr rfl (.c (.s .z) (.c (.s .z) (.c (.s .z) (.n _))))
  refine Qo rfl ab (T.skip (tN ?_))
  refine Ql ?_ (J3 K go0 hgo0 x1 j b x0 a v flx1 p g q h)
  exact tq rfl rfl
  refine dO m rfl rfl (dO m rfl rfl (dO m rfl rfl (dO m rfl rfl (dO m rfl rfl (dO m rfl rfl (dO m rfl rfl ?_))))))
  refine dO m rfl rfl (dO m rfl rfl (dZ rfl (.f rfl) m rfl (dF [0,0,2,7,15,31,31,31,31,415,927,31,4095,8191,16383] Qx rfl (by kernel_rfl) (fun u hu => (tN (Ql hu (Qo rfl rfl (T.exit (Qj (Qj (Qq (tN (T.seq ?_)))))))))))))
  refine sR (Qr (mw rfl (mw rfl (sp rfl (Vz (i := 1) (xs := a) (f := (cI .i64)) rfl (dk rfl) Zi rfl rfl (oI rfl (nL (tN ?_))))))))
  rcases Qg h with ⟨ac, h⟩ | ⟨ac, h⟩
  refine Qp rfl ac (Qr (mw rfl (mw rfl (sp rfl (M0 (elems := ([j] : List Int).map (cI .i64)) rfl (dk rfl) Zi i3 (by decide) rfl (Hs rfl) rfl rfl rfl (Xh rfl) (by decide) (fun an => (Uh (Uf 0 rfl) (Uh (Zr.view 42 0 rfl rfl) ?_))))))))
  obtain ⟨aj, h⟩ := Q6 h
  refine sp rfl (Hv (i := 2) (xs := a) (ys := [j]) (f := (cI .i64)) rfl (dk rfl) Zi i3 rfl rfl rfl rfl aj (fun al => (aw rfl (nL (tN ?_)))))
  refine Ql ?_ (J3 K go0 hgo0 x1 j b x0 (a ++ [j]) v flx1 p al q h)
  exact tr rfl (.c (.s .z) (.c (.s .z) (.c (.s .z) (.n _))))
  refine Qo rfl ac (T.skip (tN ?_))
  refine Ql ?_ (J3 K go0 hgo0 x1 j b x0 a v flx1 p g q h)
  exact tq rfl rfl
theorem Qae {r : (List Int) × Int} (K : Nat) : ∀ (k : Nat), Gt r (Yn K k) := by
 intro k
 induction k with
 | zero =>
  intro x1 d x0 a g flx1 j l m h
  exact zn h
 | succ k ih =>
  intro x1 d x0 a g flx1 j l m h
  rw [Yn] at h
  refine Q0 (T.seq (sR (Qr (mw rfl (mw rfl (oU x1 (cI .i64) Zi rfl (oI rfl ?_)))))))
  refine nL (tN ?_)
  rcases Qg h with ⟨b, h⟩ | ⟨b, h⟩
  refine Qp rfl b (T.skip (tN (T.seq (T.block (sR (Qr (aw rfl (nL (tN ?_)))))))))
  refine T.seq (T.block (T.loop ?_))
  refine Qf ?_ (Qad K (Yn K k) ih K x1 d (0:Int) x0 a g flx1 j l m h)
  exact tq rfl rfl
  refine Qo rfl b (T.exit (Qj (Qj (Qq (tN (sR (Qr (mw rfl (mw rfl (sp rfl (Vz (i := 1) (xs := a) (f := (cI .i64)) rfl (dk rfl) Zi rfl rfl (aw rfl ?_))))))))))))
  refine aw rfl (nL (tN (T.ret (Yw (Uf 2 rfl) (Yw (Zr.view 4 2 rfl rfl) (Fin.done (.cons _ _ _ _ (.tmp 4 _ rfl) (.cons _ _ _ _ (.tmp 5 _ rfl) .nil)) (by cases h; exact ⟨rfl, rfl⟩)))))))
theorem Qer (K : Nat) {x0 : Qc} {x1 : List Int} {flx1 : Bool} {r : (List Int) × Int} (h : Wv K x0 x1 = some r) : Zh tp 41 [.agg ((Q5.dc 256 .u8 x0.Split.Of) ++ (([.int .i64 x0.Split.Many, .sl false 2 (mA x0.Counts), .sl false 4 (x0.States.map Qb)] : List DC))), .sl flx1 1 (mI x1)] [] (.tup [.sl false 1 (mI r.1), .int .i64 r.2]) := by
 refine CI 51 fu41 rfl ?_
 unfold Wv at h
 refine sR (Qr (sp rfl (Q8 rfl (dk rfl) rfl (fun a => (aw rfl (aw rfl (nL (tN (sR (Qr (aw rfl (nL (tN (sR (Qr ?_)))))))))))))))
 refine mw rfl (oU x1 (cI .i64) Zi rfl ?_)
 obtain ⟨b, h⟩ := Q6 h
 obtain ⟨d, h⟩ := Q6 h
 refine sp rfl (Vy (f := (cI .i64)) (zv := ((0:Int) : Int)) rfl (dk rfl) Zi i3 (by decide) rfl rfl rfl rfl rfl b d (fun g => (aw rfl (nL (tN (T.seq (sR (Qr (aw rfl (nL (tN ?_)))))))))))
 refine T.block (T.loop (Qf (Iy 3 1) ?_))
 refine Qf ?_ (Qae K K x1 (0:Int) x0 [] (List.replicate (Int.toNat (x1.length : Int)) ((0:Int) : Int)) flx1 a (Qd7 2) g h)
 exact tr rfl (.c (.s (.s .z)) (.c .z (.c .z (.n _))))
abbrev Qfv (r : List Int) : ES := Jm tp ff18 (fun y t => y = (.sl false 1 (mI r)) ∧ t = [])
abbrev Qbl (r : List Int) : ES := Qv 0 ((Qfv r))
theorem Qbm {r : List Int} (K : Nat) : ∀ (k : Nat), ∀ (b : List Int) (f : Int) (x0 : Qc) (a : Nat), Ue K k b f x0 = some r → TL tp 26 (ca [1,1,1,1,0,0] ff18) ⟨[(1, .ptr a 0), (3, .sl false 1 (mI b)), (4, .int .i64 f)], [(Li a x0.Split.Of x0.Split.Many x0.Counts x0.States)]⟩ (Qbl r) := by
 intro k
 induction k with
 | zero =>
  intro b f x0 a h
  exact zn h
 | succ k ih =>
  intro b f x0 a h
  rw [Ue] at h
  refine Q0 (T.block (sR (Qr (oA 0 ((Q5.dc 256 .u8 x0.Split.Of) ++ (([.int .i64 x0.Split.Many, .sl false 2 (mA x0.Counts), .sl false 4 (x0.States.map Qb)] : List DC))) Xz i28 rfl (mw rfl ?_)))))
  obtain ⟨j, m, h⟩ := bind_some h
  refine oH fu41 (Zh.nil (Qer K (flx1 := false) m)) rfl (mw rfl (oE rfl (oE rfl (aw rfl (aw rfl (nL (tN (sR (Qr ?_)))))))))
  refine mw rfl (aw rfl (nL (tN (T.seq (sR (Qr (mw rfl (mw rfl ?_))))))))
  refine oI rfl (nL (tN ?_))
  rcases Qg h with ⟨g, h⟩ | ⟨g, h⟩
  refine Qp rfl g (sR (Qr (mw rfl (aw rfl (nL (tN (T.ret (Qs (Qy (Qs (Qy (fd rfl (by cases h; exact ⟨rfl, rfl⟩)))))))))))))
  refine Qo rfl g (T.skip (tN (Qr (mw rfl (aw rfl (nL (Qk (tN ?_))))))))
  refine Qf ?_ (ih j.1 j.2 x0 a h)
  exact tq rfl rfl
theorem N2 (K : Nat) {x0 : Qc} {r : List Int} (h : Yv K x0 = some r) : Zh tp 18 [.agg ((Q5.dc 256 .u8 x0.Split.Of) ++ (([.int .i64 x0.Split.Many, .sl false 2 (mA x0.Counts), .sl false 4 (x0.States.map Qb)] : List DC)))] [] (.sl false 1 (mI r)) := by
 refine CI 26 fu18 rfl ?_
 unfold Yv at h
 refine sR (Qr (sp rfl (Q8 rfl (dk rfl) rfl (fun b => (aw rfl (nL (tN (T.seq (sR (Qr (oA 0 ((Q5.dc 256 .u8 x0.Split.Of) ++ (([.int .i64 x0.Split.Many, .sl false 2 (mA x0.Counts), .sl false 4 (x0.States.map Qb)] : List DC))) Xz i28 rfl ?_)))))))))))
 obtain ⟨m, d, h⟩ := bind_some h
 refine oH fu19 (Zh.nil (C2 K d)) rfl (oT rfl (nL (tN ?_)))
 rcases Qg h with ⟨a, h⟩ | ⟨a, h⟩
 refine Qp rfl a (sR (Qr (aw rfl (nL (tN (T.ret (Qs (Yw (F3 2 false 1 rfl) (fd rfl (by cases h; exact ⟨rfl, rfl⟩))))))))))
 refine Qo rfl a (T.skip (tN (sR (Qr (oP Xz i26 rfl (oL 0 Vj rfl (oU x0.States Qb Vj rfl ?_)))))))
 obtain ⟨g, h⟩ := Q6 h
 obtain ⟨j, h⟩ := Q6 h
 refine sp rfl (Vy (f := (cI .i64)) (zv := ((0:Int) : Int)) rfl (dk rfl) Zi i3 (by decide) rfl rfl rfl rfl rfl g j (fun p => (aw rfl (nL (tN (sR (Qr (aw rfl (nL (tN (T.block (T.loop ?_))))))))))))
 refine Qf (Uf 0 rfl) (Qf (Zr.view 3 0 rfl rfl) ?_)
 refine Qf ?_ (Qbm K K (List.replicate (Int.toNat (x0.States.length : Int)) ((0:Int) : Int)) (0:Int) x0 b h)
 exact tr rfl (.c (.s .z) (.n _))
abbrev Hj (r : Qc × Int) : ES := Jm tp ff11 (fun y t => y = (.tup [.agg ((Q5.dc 256 .u8 r.1.Split.Of) ++ (([.int .i64 r.1.Split.Many, .sl false 2 (mA r.1.Counts), .sl false 4 (r.1.States.map Qb)] : List DC))), .int .i64 r.2]) ∧ t = [])
abbrev Qaf (r : Qc × Int) : ES := fT 133 [1,1,1,1,1,1,1] ff11 (Hj r)
abbrev Oc (r : Qc × Int) : ES := fT 133 [1,1,1,1,1,1,0,1,0,1,1] ff11 (Qaf r)
abbrev Lq (r : Qc × Int) : ES := Qv 2 ((Oc r))
abbrev Ij (r : Qc × Int) : ES := fL 133 [1,1,1,1,1,1,0,1,0,1,0,1,0,0] ff11 (Lq r)
abbrev D0 (r : Qc × Int) : ES := fT 133 [1,1,1,1,1,1,0,1,0,1,0,1,0,0,1,1] ff11 (Ij r)
abbrev By (r : Qc × Int) : ES := Qv 3 ((D0 r))
abbrev Mn (r : Qc × Int) : ES := Qv 4 ((By r))
abbrev Ii (r : Qc × Int) : ES := fT 133 [1,1,1,1,1,1,1,1,1,1,1,1,1] ff11 (Hj r)
abbrev D1 (r : Qc × Int) : ES := Qv 10 ((Ii r))
abbrev Ph (r : Qc × Int) : ES := fT 133 [1,1,1,1,1,1,1,1,1,1] ff11 (Hj r)
abbrev I9 (r : Qc × Int) : ES := Qv 8 ((Ph r))
abbrev Rq (r : Qc × Int) : ES := fT 133 [1,1,1,1,1,1,1,1,1] ff11 (Hj r)
abbrev Od (r : Qc × Int) : ES := Qv 6 ((Rq r))
abbrev Qda (r : Qc × Int) : ES := fT 133 [1,1,1,1,1] ff11 (Hj r)
abbrev Qag (r : Qc × Int) : ES := Qv 0 ((Qda r))
abbrev Pi (r : Qc × Int) (go : (List Int) → Int → Q5 → Int → (List Ye) → (List Qa) → Q5 → (List Int) → Option (Qc × Int)) : Prop := ∀ (a : List Int) (b : Int) (f : Q5) (g : Int) (i : List Ye) (j : List Qa) (l : Q5) (m : List Int) (n p : Nat) (q : Value), go a b f g i j l m = some r → TL tp 133 (ca [1,1,1,1,1,1,0,1,0,1,0,1,0,0] ff11) ⟨[(1, .ptr n 0), (2, .ptr p 0), (5, .c (.ex q)), (7, .sl false 1 (mI a)), (8, .int .i64 b)], [(Li n f g i j), (Bt p l (0:Int) (.slice none 0 0) (.slice none 0 0)), .arrX q 3 1 0 (mI m)]⟩ (Lq r)
theorem Qgw {r : Qc × Int} (K : Nat) (go1 : (List Int) → Int → Q5 → Int → (List Ye) → (List Qa) → Q5 → (List Int) → Option (Qc × Int)) (hgo1 : Pi r go1) : ∀ (k : Nat), ∀ (a : List Int) (b j : Int) (q : Q5) (s : Int) (w : List Ye) (y : List Qa) (aa : Q5) (g : List Int) (l m : Nat) (p : Value), Vg K go1 k a b j q s w y aa g = some r → TL tp 133 (ca [1,1,1,1,1,1,0,1,0,1,0,1,0,0,1,0,0,1,0,0] ff11) ⟨[(1, .ptr l 0), (2, .ptr m 0), (5, .c (.ex p)), (7, .sl false 1 (mI a)), (8, .int .i64 b), (9, .int .i64 j)], [(Li l q s w y), (Bt m aa (0:Int) (.slice none 0 0) (.slice none 0 0)), .arrX p 3 1 0 (mI g)]⟩ (Mn r) := by
 intro k
 induction k with
 | zero =>
  intro a b j q s w y aa g l m p h
  exact zn h
 | succ k ih =>
  intro a b j q s w y aa g l m p h
  rw [Vg] at h
  refine Q0 (T.seq (sR (Qr (mw rfl (mw rfl (oU a (cI .i64) Zi rfl (oI rfl ?_)))))))
  refine nL (tN ?_)
  rcases Qg h with ⟨ad, h⟩ | ⟨ad, h⟩
  refine Qp rfl ad (T.skip (tN (T.seq (T.block (T.seq (Zy (dV rfl rfl ?_)))))))
  refine dV rfl rfl ?_
  obtain ⟨ab, aj, h⟩ := bind_some h
  refine dX a (cI .i64) rfl (.f rfl) Zi i3 aj rfl (dR rfl (.f rfl) ul3 rfl (dV rfl rfl (dV rfl rfl ?_)))
  obtain ⟨ac, al, h⟩ := bind_some h
  refine dX a (cI .i64) rfl (.f rfl) Zi i3 al rfl (dR rfl (.f rfl) ul3 rfl (dI rfl (.f rfl) rfl (dF [0,0,3,7,0,0,48,112,255] Qx rfl (by kernel_rfl) (fun u hu => (tN (Ql hu ?_))))))
  rcases Qg h with ⟨af, h⟩ | ⟨af, h⟩
  refine Qp rfl af (Qr ?_)
  iterate 3 refine mw rfl ?_
  obtain ⟨ag, ai, h⟩ := bind_some h
  refine sp rfl (Zc (n := 2) (xs := g) (f := (cI .i64)) (old := ag) rfl (dk rfl) Zi i3 rfl rfl rfl ai (sp rfl (Yr (i := 2) (xs := g) (f := (cI .i64)) (old := ag) (new := b) rfl rfl i3 rfl rfl rfl (Zd ai).2 (Qmm _) (nb rfl) rfl (nL (Qk (tN (Qr (mw rfl (oI rfl (aw rfl ?_))))))))))
  refine nL (tN ?_)
  refine Qf ?_ (ih a b (wI (j + (1:Int))) q s w y aa (List.set g (Int.toNat j) b) l m p h)
  exact tq rfl rfl
  refine Qo rfl af (T.skip (Qk (tN (Qr (mw rfl (oI rfl (aw rfl (nL (tN ?_)))))))))
  refine Qf ?_ (ih a b (wI (j + (1:Int))) q s w y aa g l m p h)
  exact tq rfl rfl
  refine Qo rfl ad (T.exit (Qj (Qj (Qq (Qk (tN (Qr (mw rfl (oI rfl (aw rfl (nL (tN ?_))))))))))))
  refine Qf ?_ (hgo1 a (wI (b - (1:Int))) q s w y aa g l m p h)
  exact tq rfl rfl
theorem Qgx {r : Qc × Int} (K : Nat) : ∀ (k : Nat), ∀ (y : List Int) (ad : Int) (af : Q5) (ag : Int) (ai : List Ye) (ac : List Qa) (an : Q5) (ap : List Ye) (aq : List Qa) (j : Q5) (m : Int) (p : List Ye) (q : List Qa) (aa aj : Nat) (al am : Value) (g : Nat) (ab : Value), Jg K k y ad af ag ai ac an ap aq j m p q = some r → TL tp 133 (ca [1,1,1,1,1,1,1,1,1,1,1,1,0,1,0,0] ff11) ⟨[(1, .ptr aa 0), (2, .ptr aj 0), (10, .sl false 1 (mI y)), (13, .ptr g 0), (14, .int .i64 ad)], [(Li aa af ag ai ac), (Bt aj an (0:Int) al am), .arrA al 59 2 (mA ap), .arrX am 51 4 0 (aq.map Qb), (b28x12 g j m p ab), .arrX ab 51 4 0 (q.map Qb)]⟩ (D1 r) := by
 intro k
 induction k with
 | zero =>
  intro y ad af ag ai ac an ap aq j m p q aa aj al am g ab h
  exact zn h
 | succ k ih =>
  intro y ad af ag ai ac an ap aq j m p q aa aj al am g ab h
  rw [Jg] at h
  refine Q0 (T.seq (sR (Qr (mw rfl (mw rfl (oU y (cI .i64) Zi rfl (oI rfl ?_)))))))
  refine nL (tN ?_)
  rcases Qg h with ⟨av, h⟩ | ⟨av, h⟩
  refine Qp rfl av (T.skip (tN (T.seq (T.block (Ql Zu (Ur (gP rfl (fun _ => .f rfl) Xz i26 (fun _ => rfl) ?_)))))))
  refine gL 5 rfl (fun _ => .f rfl) Vj (fun _ => rfl) (gP rfl (fun _ => .f rfl) Xz i26 (fun _ => rfl) (gL 1 rfl (fun _ => .f rfl) Vj (fun _ => rfl) (gM rfl (fun _ => .f rfl) (fun _ => rfl) (gM rfl (fun _ => .f rfl) (fun _ => rfl) ?_))))
  obtain ⟨au, ay, h⟩ := bind_some h
  refine gX y (cI .i64) rfl (fun _ => .f rfl) Zi i3 ay (fun _ => rfl) (gR rfl (fun _ => .f rfl) ul3 (fun _ => rfl) ?_)
  obtain ⟨b, az, h⟩ := bind_some h
  refine gX ac Qb rfl (fun _ => .f rfl) Vj i51 az (fun _ => rfl) (gJ rfl (fun _ => .f rfl) V1 i51 (fun _ => rfl) (dC (c := ⟨some 129, .sl true 4 ([b].map Qb), [(128, .agg [.sl false 1 (mI b.L), .sl false 1 (mI b.R), .sl false 1 (mI b.Rule), .sl false 1 (b.Next.map (cL 2 Qh))])], [], []⟩) (fun t hm => oF rfl rfl (OpT.buildSlice (elems := ([b] : List Qa).map Qb) rfl (dk rfl) Vj i51 (by decide) rfl (Hs rfl) (Z8 hm.s0 rfl Vx) rfl rfl (Xh rfl) (by decide) ⟨u0, rfl⟩)) (fun _ => rfl) (fun _ => rfl) ?_))
  obtain ⟨a0, h⟩ := Q6 h
  refine DGG.step (c := fun a => ⟨some 130, .c (.ex ((a 11).1 0)), [(129, .sl true 4 ([b].map Qb)), (120, .c (.ex ab))], [(6, .arrX ab 51 4 0 (q.map Qb))], [(6, .arrX ((a 11).1 0) 51 4 0 ((q ++ [b]).map Qb))]⟩) [11] (fun a γ' h => by simp only [h 11 (by decide)]) (fun a t hm => oF rfl rfl (Hv (i := 6) (xs := q) (ys := [b]) (f := Qb) rfl (dk rfl) Vj i51 rfl hm.s1 hm.o0 hm.s0 a0 (fun w => ⟨(fun _ => w, 0), rfl⟩))) (fun a => Zg rfl rfl) (gP rfl (fun _ => .f rfl) Xz i26 (fun _ => rfl) (DGG.step (c := fun a => ⟨none, .any, [(131, .ptr g (0 + 258)), (130, .c (.ex ((a 11).1 0)))], [(5, (b28x12 g j m p ab))], [(5, (b28x12 g j m p ((a 11).1 0)))]⟩) [11] (fun a γ' h => by simp only [h 11 (by decide)]) (fun a t hm => oF rfl rfl (Wf (i := 5) (cells' := ((Q5.oc 256 .u8 j) ++ (([.d (.int .i64 m), .d (.sl false 2 (mA p)), .d (.ex ((a 11).1 0))]:List OC)))) rfl rfl i26 hm.s0 hm.s1 hm.o0 (nb rfl) rfl ⟨u0, rfl⟩)) (fun a => Zg rfl rfl) (gF [0,1,0,4,0,0,48,112,252,508,1020,2047,4095,8191] Qx rfl (by kernel_rfl) (fun _ => by kernel_rfl) (fun a u hu => (Qk (tN (Ql hu (Qr (mw rfl (oI rfl ?_))))))))))
  refine aw rfl (nL (tN ?_))
  refine Qf ?_ (ih y (wI (ad + (1:Int))) af ag ai ac an ap aq j m p (q ++ [b]) aa aj al am g ((a 11).1 0) h)
  exact tr rfl (.c (.s .z) (.c (.s .z) (.c (.s .z) (.c (.s .z) (.c (.s .z) (.c (.s .z) (.n _)))))))
  refine Qo rfl av (T.exit (Qj (Qj (Qq (tN (sR (Qr (Uh (Uf 5 rfl) (sp rfl (Zj (Iz (i := 4) (l := ((Q5.dc 256 .u8 j) ++ (([.int .i64 m, .sl false 2 (mA p), .ex ab] : List DC)))) rfl (dk rfl) Xz rfl i28 rfl rfl rfl rfl rfl) (Zt 132 (l := ((Q5.dc 256 .u8 j) ++ (([.int .i64 m, .sl false 2 (mA p), .ex ab] : List DC)))) (l' := ((Q5.dc 256 .u8 j) ++ (([.int .i64 m, .sl false 2 (mA p), .sl false 4 (q.map Qb)] : List DC)))) (.app _ (.cons (.same _) (.cons (.same _) (.cons (.view 5 rfl) (.refl _)))))) (sp rfl (Qt (i := 1) (cells' := ((Q5.oc 256 .u8 j) ++ (([.d (.int .i64 m), .d (.sl false 2 (mA p)), .d (.sl false 4 (q.map Qb))]:List OC)))) rfl rfl i28 rfl rfl rfl rfl (nb rfl) rfl (aw rfl ?_)))))))))))))
  refine nL (tN (T.ret (Fin.done (.cons _ _ _ _ (.cellAgg 2 28 _ 0 1 28 _ ((Q5.dc 256 .u8 j) ++ (([.int .i64 m, .sl false 2 (mA p), .sl false 4 (q.map Qb)] : List DC))) _ _ 259 _ rfl rfl rfl rfl Xz rfl i28) (.cons _ _ _ _ (.tmp 3 _ rfl) .nil)) (by cases h; exact ⟨rfl, rfl⟩))))
theorem Qgy {r : Qc × Int} (K : Nat) : ∀ (k : Nat), ∀ (b : List Int) (g : Int) (m : Q5) (p : Int) (q : List Ye) (u : List Qa) (w : Q5) (j : List Int) (y aa : Nat) (ab : Value), Ub K k b g m p q u w j = some r → TL tp 133 (ca [1,1,1,1,1,1,1,1,1,0,1,0,0] ff11) ⟨[(1, .ptr y 0), (2, .ptr aa 0), (5, .c (.ex ab)), (10, .sl false 1 (mI b)), (12, .int .i64 g)], [(Li y m p q u), (Bt aa w (0:Int) (.slice none 0 0) (.slice none 0 0)), .arrX ab 3 1 0 (mI j)]⟩ (I9 r) := by
 intro k
 induction k with
 | zero =>
  intro b g m p q u w j y aa ab h
  exact zn h
 | succ k ih =>
  intro b g m p q u w j y aa ab h
  rw [Ub] at h
  refine Q0 (T.seq (sR (Qr (mw rfl (mw rfl (oU b (cI .i64) Zi rfl (oI rfl ?_)))))))
  refine nL (tN ?_)
  rcases Qg h with ⟨ac, h⟩ | ⟨ac, h⟩
  refine Qp rfl ac (T.skip (tN (T.seq (T.block (Qr ?_)))))
  iterate 3 refine mw rfl ?_
  obtain ⟨ad, ai, h⟩ := bind_some h
  refine oX b (cI .i64) Zi i3 ai rfl (oR ul3 rfl (mw rfl ?_))
  obtain ⟨af, ag, h⟩ := bind_some h
  refine sp rfl (Zc (n := 2) (xs := j) (f := (cI .i64)) (old := af) rfl (dk rfl) Zi i3 rfl rfl rfl ag (sp rfl (Yr (i := 2) (xs := j) (f := (cI .i64)) (old := af) (new := g) rfl rfl i3 rfl rfl rfl (Zd ag).2 (Qmm _) (nb rfl) rfl (nL (Qk (tN (Qr (mw rfl (oI rfl (aw rfl ?_))))))))))
  refine nL (tN ?_)
  refine Qf ?_ (ih b (wI (g + (1:Int))) m p q u w (List.set j (Int.toNat ad) g) y aa ab h)
  exact tq rfl rfl
  refine Qo rfl ac (T.exit (Qj (Qj (Qq (tN (sR (Qr (oA 0 ((Q5.dc 256 .u8 m) ++ (([.int .i64 p, .sl false 2 (mA q), .sl false 4 (u.map Qb)] : List DC))) Xz i28 rfl (mw rfl ?_)))))))))
  obtain ⟨a, aj, h⟩ := bind_some h
  refine sp rfl (Q9 (is := [2]) (ph := []) rfl (dk rfl) fu29 rfl rfl (Zm.cons rfl (Zm.cons rfl Zm.nil)) (Cx K (wx1 := ab) aj) (.cons rfl rfl (.nil)) (fun _ => rfl) (fun am => (nm (.c (.c (.c (.n)))) (sp rfl (Qt (i := 0) (cells' := ((Q5.oc 256 .u8 a.Split.Of) ++ (([.d (.int .i64 a.Split.Many), .d (.sl false 2 (mA a.Counts)), .d (.sl false 4 (a.States.map Qb))]:List OC)))) rfl rfl i28 rfl rfl rfl rfl (nb rfl) rfl (nL (tN (sR (Qr (oP Xz i24 rfl (oA 0 ((Q5.dc 256 .u8 a.Split.Of) ++ (([.int .i64 a.Split.Many] : List DC))) Qj2 i24 rfl (oP Xz i25 rfl ?_))))))))))))
  refine oL 0 Qcs rfl (sp rfl (OpT.build (l := ((Q5.dc 256 .u8 a.Split.Of) ++ (([.int .i64 a.Split.Many, .sl false 2 (mA a.Counts), .ex (.slice none 0 0)] : List DC)))) rfl (dk rfl) (Zk (pl := [(0, 257), (257, 1), (258, 1)]) Xz i28 rfl) (Hs rfl) rfl rfl (sp rfl (Za rfl (dk rfl) i28 rfl (fun al => (sp rfl (Qt (i := 0) (cells' := ((Q5.oc 256 .u8 a.Split.Of) ++ (([.d (.int .i64 a.Split.Many), .d (.sl false 2 (mA a.Counts)), .d (.ex (.slice none 0 0))]:List OC)))) rfl rfl i28 rfl rfl rfl rfl (nb rfl) rfl (nL (tN (T.seq (sR (Qr ?_))))))))))))
  refine aw rfl (nL (tN (T.block (T.loop (Qf (Xd 59 2) (Qf (Iy 51 4) (Qf (Iy 51 4) ?_)))))))
  refine Qf ?_ (Qgx K K b (0:Int) a.Split.Of a.Split.Many a.Counts a.States w [] [] a.Split.Of a.Split.Many a.Counts [] y aa (Qd7 16) (Qd7 17) al (Qd7 18) h)
  exact tr rfl (.c (.s (.s (.s (.s .z)))) (.c (.s (.s (.s (.s .z)))) (.c (.s (.s .z)) (.c (.s .z) (.c (.s .z) (.c .z (.n _)))))))
theorem Qgz {r : Qc × Int} (K : Nat) : ∀ (k : Nat), ∀ (b : List Int) (g : Int) (j : Q5) (l : Int) (m : List Ye) (p : List Qa) (q : Q5) (a : List Int) (s u : Nat) (v : Value), Jh K k b g j l m p q a = some r → TL tp 133 (ca [1,1,1,1,1,1,1,1,0,1,0,0] ff11) ⟨[(1, .ptr s 0), (2, .ptr u 0), (5, .c (.ex v)), (10, .sl false 1 (mI b)), (11, .int .i64 g)], [(Li s j l m p), (Bt u q (0:Int) (.slice none 0 0) (.slice none 0 0)), .arrX v 3 1 0 (mI a)]⟩ (Od r) := by
 intro k
 induction k with
 | zero =>
  intro b g j l m p q a s u v h
  exact zn h
 | succ k ih =>
  intro b g j l m p q a s u v h
  rw [Jh] at h
  refine Q0 (T.seq (sR (Qr (mw rfl (mw rfl (sp rfl (Vz (i := 2) (xs := a) (f := (cI .i64)) rfl (dk rfl) Zi rfl rfl (oI rfl ?_))))))))
  refine nL (tN ?_)
  rcases Qg h with ⟨w, h⟩ | ⟨w, h⟩
  refine Qp rfl w (T.skip (tN (T.seq (T.block (Qr (mw rfl (mw rfl ?_)))))))
  obtain ⟨y, aa, h⟩ := bind_some h
  refine sp rfl (Zc (n := 2) (xs := a) (f := (cI .i64)) (old := y) rfl (dk rfl) Zi i3 rfl rfl rfl aa (sp rfl (Yr (i := 2) (xs := a) (f := (cI .i64)) (old := y) (new := (-1:Int)) rfl rfl i3 rfl rfl rfl (Zd aa).2 (Qmm _) (nb rfl) rfl (nL (Qk (tN (Qr (mw rfl (oI rfl (aw rfl ?_))))))))))
  refine nL (tN ?_)
  refine Qf ?_ (ih b (wI (g + (1:Int))) j l m p q (List.set a (Int.toNat g) (-1:Int)) s u v h)
  exact tq rfl rfl
  refine Qo rfl w (T.exit (Qj (Qj (Qq (tN (T.seq (sR (Qr (aw rfl (nL (tN (T.block ?_))))))))))))
  refine T.loop ?_
  refine Qf ?_ (Qgy K K b (0:Int) j l m p q a s u v h)
  exact tq rfl rfl
theorem Pj {r : Qc × Int} (K : Nat) (a : Q5) (b : Int) (f : List Ye) (g : List Qa) (j : Q5) (m : List Int) (p q : Nat) (s : Value) (h : Ud K a b f g j m = some r) : T tp 133 (ca [1,1,1,1,1,1,1] ff11) ⟨[(1, .ptr p 0), (2, .ptr q 0), (5, .c (.ex s))], [(Li p a b f g), (Bt q j (0:Int) (.slice none 0 0) (.slice none 0 0)), .arrX s 3 1 0 (mI m)]⟩ (Hj r) := by
 unfold Ud at h
 refine sR (Qr (oA 0 ((Q5.dc 256 .u8 a) ++ (([.int .i64 b, .sl false 2 (mA f), .sl false 4 (g.map Qb)] : List DC))) Xz i28 rfl ?_))
 obtain ⟨u, v, h⟩ := bind_some h
 refine oH fu30 (Zh.nil (Qep K v)) rfl (aw rfl (nL (tN (T.seq (sR (Qr (aw rfl (nL (tN ?_)))))))))
 refine T.block (T.loop ?_)
 refine Qf ?_ (Qgz K K u (0:Int) a b f g j m p q s h)
 exact tq rfl rfl
theorem Qg0 {r : Qc × Int} (K : Nat) : ∀ (k : Nat), Pi r (Xm K k) := by
 intro k
 induction k with
 | zero =>
  intro w y f g j m p q s u b h
  exact zn h
 | succ k ih =>
  intro w y f g j m p q s u b h
  rw [Xm] at h
  refine Q0 (T.seq (sR (Qr (mw rfl (oI rfl (nL (tN ?_)))))))
  rcases Qg h with ⟨v, h⟩ | ⟨v, h⟩
  refine Qp rfl v (T.skip (tN (T.seq (T.block (sR (Qr (aw rfl (nL (tN ?_)))))))))
  refine T.block (T.loop ?_)
  refine Qf ?_ (Qgw K (Xm K k) ih K w y (0:Int) f g j m p q s u b h)
  exact tq rfl rfl
  refine Qo rfl v (T.exit (Qj (Qj (Qq (tN (Qr (oA 0 ((Q5.dc 256 .u8 f) ++ (([.int .i64 g, .sl false 2 (mA j), .sl false 4 (m.map Qb)] : List DC))) Xz i28 rfl (mw rfl ?_))))))))
  obtain ⟨a, aa, h⟩ := bind_some h
  refine sp rfl (Q9 (is := [2]) (ph := []) rfl (dk rfl) fu29 rfl rfl (Zm.cons rfl (Zm.cons rfl Zm.nil)) (Cx K (wx1 := b) aa) (.cons rfl rfl (.nil)) (fun _ => rfl) (fun ab => (nm (.c (.c (.c (.n)))) (sp rfl (Qt (i := 0) (cells' := ((Q5.oc 256 .u8 a.Split.Of) ++ (([.d (.int .i64 a.Split.Many), .d (.sl false 2 (mA a.Counts)), .d (.sl false 4 (a.States.map Qb))]:List OC)))) rfl rfl i28 rfl rfl rfl rfl (nb rfl) rfl (nL (tN ?_)))))))
  refine Ql ?_ (Pj K a.Split.Of a.Split.Many a.Counts a.States p q s u b h)
  exact tq rfl rfl
theorem Qg1 {r : Qc × Int} (K : Nat) : ∀ (k : Nat), ∀ (s : List Bool) (b : Int) (x0 : Qc) (m : Q5) (g : List Int) (p q : Nat) (j : Value), Uc K k s b x0 m g = some r → TL tp 133 (ca [1,1,1,1,0,1,0,0] ff11) ⟨[(1, .ptr p 0), (2, .ptr q 0), (4, .sl false 1 (s.map cB)), (5, .c (.ex j)), (6, .int .i64 b)], [(Li p x0.Split.Of x0.Split.Many x0.Counts x0.States), (Bt q m (0:Int) (.slice none 0 0) (.slice none 0 0)), .arrX j 3 1 0 (mI g)]⟩ (Qag r) := by
 intro k
 induction k with
 | zero =>
  intro s b x0 m g p q j h
  exact zn h
 | succ k ih =>
  intro s b x0 m g p q j h
  rw [Uc] at h
  refine Q0 (T.seq (sR (Qr (mw rfl (mw rfl (sp rfl (Vz (i := 2) (xs := g) (f := (cI .i64)) rfl (dk rfl) Zi rfl rfl (oI rfl ?_))))))))
  refine nL (tN ?_)
  rcases Qg h with ⟨u, h⟩ | ⟨u, h⟩
  refine Qp rfl u (T.skip (tN (T.seq (T.block (sR (Qr ?_))))))
  iterate 3 refine mw rfl ?_
  obtain ⟨ab, ac, h⟩ := bind_some h
  refine sp rfl (Zc (n := 2) (xs := g) (f := (cI .i64)) (old := ab) rfl (dk rfl) Zi i3 rfl rfl rfl ac (sp rfl (Yr (i := 2) (xs := g) (f := (cI .i64)) (old := ab) (new := b) rfl rfl i3 rfl rfl rfl (Zd ac).2 (Qmm _) (nb rfl) rfl (nL (tN (sR (Qr (mw rfl (mw rfl ?_)))))))))
  obtain ⟨ag, ai, h⟩ := bind_some h
  refine oX s cB Qkd i4 ai rfl (oR ul4 rfl (oT rfl (nL (tN ?_))))
  rcases Qg h with ⟨w, h⟩ | ⟨w, h⟩
  refine Qp rfl w (Qr (mw rfl (mw rfl ?_)))
  obtain ⟨ad, af, h⟩ := bind_some h
  refine sp rfl (Zc (n := 2) (xs := (List.set g (Int.toNat b) b)) (f := (cI .i64)) (old := ad) rfl (dk rfl) Zi i3 rfl rfl rfl af (sp rfl (Yr (i := 2) (xs := (List.set g (Int.toNat b) b)) (f := (cI .i64)) (old := ad) (new := (-1:Int)) rfl rfl i3 rfl rfl rfl (Zd af).2 (Qmm _) (nb rfl) rfl (nL (Qk (tN (Qr (mw rfl (oI rfl (aw rfl ?_))))))))))
  refine nL (tN ?_)
  refine Qf ?_ (ih s (wI (b + (1:Int))) x0 m (List.set (List.set g (Int.toNat b) b) (Int.toNat b) (-1:Int)) p q j h)
  exact tq rfl rfl
  refine Qo rfl w (T.skip (Qk (tN (Qr (mw rfl (oI rfl (aw rfl (nL (tN ?_)))))))))
  refine Qf ?_ (ih s (wI (b + (1:Int))) x0 m (List.set g (Int.toNat b) b) p q j h)
  exact tq rfl rfl
  refine Qo rfl u (T.exit (Qj (Qj (Qq (tN (sR (Qr (oA 0 ((Q5.dc 256 .u8 x0.Split.Of) ++ (([.int .i64 x0.Split.Many, .sl false 2 (mA x0.Counts), .sl false 4 (x0.States.map Qb)] : List DC))) Xz i28 rfl (mw rfl ?_)))))))))
  obtain ⟨a, aj, h⟩ := bind_some h
  refine sp rfl (Q9 (is := [2]) (ph := []) rfl (dk rfl) fu29 rfl rfl (Zm.cons rfl (Zm.cons rfl Zm.nil)) (Cx K (wx1 := j) aj) (.cons rfl rfl (.nil)) (fun _ => rfl) (fun am => (nm (.c (.c (.c (.n)))) (sp rfl (Qt (i := 0) (cells' := ((Q5.oc 256 .u8 a.Split.Of) ++ (([.d (.int .i64 a.Split.Many), .d (.sl false 2 (mA a.Counts)), .d (.sl false 4 (a.States.map Qb))]:List OC)))) rfl rfl i28 rfl rfl rfl rfl (nb rfl) rfl (nL (tN (T.seq (sR (Qr (oP Xz i25 rfl ?_)))))))))))
  refine oL 0 Qcs rfl (oU a.Counts (Ye.dc .i64) Qcs rfl (oI rfl (nL (tN ?_))))
  rcases Qg h with ⟨y, h⟩ | ⟨y, h⟩
  refine Qp rfl y (sR (Qr (oA 0 ((Q5.dc 256 .u8 a.Split.Of) ++ (([.int .i64 a.Split.Many, .sl false 2 (mA a.Counts), .sl false 4 (a.States.map Qb)] : List DC))) Xz i28 rfl ?_)))
  obtain ⟨aa, al, h⟩ := bind_some h
  refine oH fu18 (Zh.nil (N2 K al)) rfl (aw rfl (nL (tN (T.seq (sR (Qr (mw rfl (oU aa (cI .i64) Zi rfl ?_))))))))
  refine oI rfl (aw rfl (nL (tN (T.block (T.loop ?_)))))
  refine Qf ?_ (Qg0 K K aa (wI ((aa.length : Int) - (1:Int))) a.Split.Of a.Split.Many a.Counts a.States m g p q j h)
  exact tq rfl rfl
  refine Qo rfl y (T.skip (tN ?_))
  refine Ql ?_ (Pj K a.Split.Of a.Split.Many a.Counts a.States m g p q j h)
  exact tq rfl rfl
theorem Qkl (K : Nat) {x0 : Qc} {r : Qc × Int} (h : H1 K x0 = some r) : Zh tp 11 [.agg ((Q5.dc 256 .u8 x0.Split.Of) ++ (([.int .i64 x0.Split.Many, .sl false 2 (mA x0.Counts), .sl false 4 (x0.States.map Qb)] : List DC)))] [] (.tup [.agg ((Q5.dc 256 .u8 r.1.Split.Of) ++ (([.int .i64 r.1.Split.Many, .sl false 2 (mA r.1.Counts), .sl false 4 (r.1.States.map Qb)] : List DC))), .int .i64 r.2]) := by
 refine CI 133 fu11 rfl ?_
 unfold H1 at h
 refine sR (Qr (sp rfl (Q8 rfl (dk rfl) rfl (fun b => (sp rfl (Za rfl (dk rfl) i28 rfl (fun g => (aw rfl (nL (tN (T.seq (sR (Qr ?_)))))))))))))
 refine oA 1 ((Q5.dc 256 .u8 x0.Split.Of) ++ (([.int .i64 x0.Split.Many, .sl false 2 (mA x0.Counts), .sl false 4 (x0.States.map Qb)] : List DC))) Xz i28 rfl ?_
 obtain ⟨w, j, h⟩ := bind_some h
 refine oH fu19 (Zh.nil (C2 K j)) rfl (oT rfl (nL (tN ?_)))
 rcases Qg h with ⟨a, h⟩ | ⟨a, h⟩
 refine Qp rfl a (sR (Qr (sp rfl (OpT.build (l := ((Q5.dc 256 .u8 (Q5.mk fun _ => 0)) ++ (([.int .i64 (0:Int), .ex (.slice none 0 0), .ex (.slice none 0 0)] : List DC)))) rfl (dk rfl) (Zk (pl := [(0, 257), (257, 1), (258, 1)]) Xz i28 rfl) (Hs rfl) rfl rfl (sp rfl (Qt (i := 0) (cells' := ((Q5.oc 256 .u8 (Q5.mk fun _ => 0)) ++ (([.d (.int .i64 (0:Int)), .d (.ex (.slice none 0 0)), .d (.ex (.slice none 0 0))]:List OC)))) rfl rfl i28 rfl rfl rfl rfl (nb rfl) rfl (aw rfl (nL (tN (T.ret (Qs ?_)))))))))))
 refine Yw (Ht 0 (l := ((Q5.dc 256 .u8 (Q5.mk fun _ => 0)) ++ (([.int .i64 (0:Int), .ex (.slice none 0 0), .ex (.slice none 0 0)] : List DC)))) (l' := ((Q5.dc 256 .u8 (Q5.mk fun _ => 0)) ++ (([.int .i64 (0:Int), .sl false 2 (([] : List Ye).map (Ye.dc .i64)), .sl false 4 (([] : List Qa).map Qb)] : List DC)))) rfl (.app _ (.cons (.same _) (.cons (.nil _ _) (.cons (.nil _ _) (.refl _)))))) ?_
 exact Fin.done (.cons _ _ _ _ (.cellAgg 2 28 _ 0 0 28 _ ((Q5.dc 256 .u8 (Q5.mk fun _ => 0)) ++ (([.int .i64 (0:Int), .sl false 2 (([] : List Ye).map (Ye.dc .i64)), .sl false 4 (([] : List Qa).map Qb)] : List DC))) _ _ 259 _ rfl rfl rfl rfl Xz rfl i28) (.cons _ _ _ _ (.tmp 3 _ rfl) .nil)) (by cases h; exact ⟨rfl, rfl⟩)
 refine Qo rfl a (T.skip (tN (sR (Qr (oA 1 ((Q5.dc 256 .u8 x0.Split.Of) ++ (([.int .i64 x0.Split.Many, .sl false 2 (mA x0.Counts), .sl false 4 (x0.States.map Qb)] : List DC))) Xz i28 rfl ?_)))))
 obtain ⟨m, p, h⟩ := bind_some h
 refine oH fu13 (Zh.nil (Si K p)) rfl (aw rfl (nL (tN (sR (Qr (oP Xz i26 rfl (oL 1 Vj rfl (oU x0.States Qb Vj rfl ?_))))))))
 obtain ⟨q, h⟩ := Q6 h
 obtain ⟨u, h⟩ := Q6 h
 refine sp rfl (Vy (f := (cI .i64)) (zv := ((0:Int) : Int)) rfl (dk rfl) Zi i3 (by decide) rfl rfl rfl rfl rfl q u (fun v => (aw rfl (nL (tN (T.seq (sR (Qr (aw rfl (nL (tN ?_)))))))))))
 refine T.block (T.loop ?_)
 refine Qf ?_ (Qg1 K K m (0:Int) x0 (Q5.mk fun _ => 0) (List.replicate (Int.toNat (x0.States.length : Int)) ((0:Int) : Int)) b g v h)
 exact tr rfl (.c (.s (.s .z)) (.c (.s .z) (.c .z (.n _))))
abbrev raddleref04_reader_ends_q (bx0 : Nat) (x0 : Qi) (r : Bool) : ES := Jm tp ff60 (fun y t => ∃ γ : Nat → Value, y = (.bool r) ∧ t = [(Qd6 bx0 x0.s x0.at_ (γ 0) x0.deep x0.e x0.where_), .arrA (γ 0) 165 9 (x0.nodes.map Qw)])
theorem Jr (K : Nat) {x0 : Qi} {bx0 : Nat} {wx0c2 : Value} {r : Bool} (h : Vh K x0 = some r) : U3 tp 60 [.ptr bx0 0] [(Qd6 bx0 x0.s x0.at_ wx0c2 x0.deep x0.e x0.where_), .arrA wx0c2 165 9 (x0.nodes.map Qw)] (fun γ => (.bool r)) (fun γ => [(Qd6 bx0 x0.s x0.at_ (γ 0) x0.deep x0.e x0.where_), .arrA (γ 0) 165 9 (x0.nodes.map Qw)]) := by
 refine CI 20 fu60 rfl ?_
 unfold Vh at h
 refine sR (Qr (aw rfl (nL (tN (T.seq (Zy (dV rfl rfl (dK rfl (.f rfl) rfl ?_))))))))
 refine dP rfl (.f rfl) Dl i3 rfl (dL 0 rfl (.f rfl) ul3 rfl (dV rfl rfl (dK rfl (.f rfl) rfl (dP rfl (.f rfl) Dl i9 rfl (dL 0 rfl (.f rfl) ul9 rfl (dS (c := ⟨some 11, .int .i64 (x0.s.size : Int), [(10, .str x0.s)], [], []⟩) (fun t hm => oF rfl rfl (Qa5 rfl (dk rfl) ul9 hm.s0 rfl)) rfl rfl ?_))))))
 refine dI rfl (.f rfl) rfl (dV rfl rfl ?_)
 rcases Qg h with ⟨a, h⟩ | ⟨a, h⟩
 refine dO a rfl rfl (dO a rfl rfl (dO a rfl rfl (dO a rfl rfl (dO a rfl rfl (dY rfl (.f rfl) a rfl (dA rfl (.f rfl) rfl ?_))))))
 refine dF [0,1,3,7,0,16,48,112,240,511,1023,2047,4095,8191,16383,32767,65535,131071] Qx rfl (by kernel_rfl) (fun u hu => (tN (Ql hu (T.ret (Q7 (.cons _ _ _ _ (.tmp 2 _ rfl) .nil) (.cons 0 rfl (.cons 0 rfl (.nil _))) (by cases h; exact ⟨gl [wx0c2], rfl, rfl⟩))))))
 refine dM rfl (.n a rfl) rfl (dK rfl (.n a rfl) rfl (dP rfl (.n a rfl) Dl i30 rfl (dL 0 rfl (.n a rfl) ul30 rfl (dI rfl (.n a rfl) rfl (dZ rfl (.f rfl) a rfl (dA rfl (.f rfl) rfl ?_))))))
 refine dF [0,1,3,7,0,16,48,112,240,511,1023,2047,4095,8191,16383,32767,65535,131071] Qx rfl (by kernel_rfl) (fun u hu => (tN (Ql hu (T.ret (Q7 (.cons _ _ _ _ (.tmp 2 _ rfl) .nil) (.cons 0 rfl (.cons 0 rfl (.nil _))) (by cases h; exact ⟨gl [wx0c2], rfl, rfl⟩))))))
abbrev raddleref04_reader_put_q (bx0 : Nat) (r : Int × Qi) : ES := Jm tp ff99 (fun y t => ∃ γ : Nat → Value, y = (.int .i64 r.1) ∧ t = [(Qd6 bx0 r.2.s r.2.at_ (γ 0) r.2.deep r.2.e r.2.where_), .arrA (γ 0) 165 9 (r.2.nodes.map Qw)])
theorem G5 (K : Nat) {x0 : Qi} {x1 : Q3} {bx0 : Nat} {wx0c2 : Value} {r : Int × Qi} (h : Jd K x0 x1 = some r) : U3 tp 99 [.ptr bx0 0, .agg [.int .u8 x1.Op, .int .u64 x1.S.a0, .int .u64 x1.S.a1, .int .u64 x1.S.a2, .int .u64 x1.S.a3, .sl false 1 (mI x1.L), .int .i64 x1.Lo, .int .i64 x1.Hi, .str x1.Name]] [(Qd6 bx0 x0.s x0.at_ wx0c2 x0.deep x0.e x0.where_), .arrA wx0c2 165 9 (x0.nodes.map Qw)] (fun γ => (.int .i64 r.1)) (fun γ => [(Qd6 bx0 r.2.s r.2.at_ (γ 0) r.2.deep r.2.e r.2.where_), .arrA (γ 0) 165 9 (r.2.nodes.map Qw)]) := by
 refine CI 21 fu99 rfl ?_
 unfold Jd at h
 refine sR (Qr (sp rfl (Q8 rfl (dk rfl) rfl (fun b => (aw rfl (nL (tN (T.seq (Ql Zu (Ur ?_))))))))))
 refine gM rfl (fun _ => .f rfl) (fun _ => rfl) (gM rfl (fun _ => .f rfl) (fun _ => rfl) (gK rfl (fun _ => .f rfl) (fun _ => rfl) (gP rfl (fun _ => .f rfl) Dl i80 (fun _ => rfl) (gL 2 rfl (fun _ => .f rfl) Qcf (fun _ => rfl) (gW 1 [.int .u8 x1.Op, .int .u64 x1.S.a0, .int .u64 x1.S.a1, .int .u64 x1.S.a2, .int .u64 x1.S.a3, .sl false 1 (mI x1.L), .int .i64 x1.Lo, .int .i64 x1.Hi, .str x1.Name] rfl (fun _ => .f rfl) M3 i165 (fun _ => rfl) (dC (c := ⟨some 11, .sl true 9 ([x1].map Qw), [(10, .agg [.int .u8 x1.Op, .int .u64 x1.S.a0, .int .u64 x1.S.a1, .int .u64 x1.S.a2, .int .u64 x1.S.a3, .sl false 1 (mI x1.L), .int .i64 x1.Lo, .int .i64 x1.Hi, .str x1.Name])], [], []⟩) (fun t hm => oF rfl rfl (OpT.buildSlice (elems := ([x1] : List Q3).map Qw) rfl (dk rfl) Qcf i165 (by decide) rfl (Hs rfl) (Z8 hm.s0 rfl Vx) rfl rfl (Xh rfl) (by decide) ⟨u0, rfl⟩)) (fun _ => rfl) (fun _ => rfl) ?_))))))
 obtain ⟨g, h⟩ := Q6 h
 refine DGG.step (c := fun a => ⟨some 12, .c (.ex ((a 7).1 0)), [(11, .sl true 9 ([x1].map Qw)), (9, .c (.ex wx0c2))], [(3, .arrA wx0c2 165 9 (x0.nodes.map Qw))], [(3, .arrA ((a 7).1 0) 165 9 ((x0.nodes ++ [x1]).map Qw))]⟩) [7] (fun a γ' h => by simp only [h 7 (by decide)]) (fun a t hm => oF rfl rfl (Zp (i := 3) (xs := x0.nodes) (ys := [x1]) (f := Qw) rfl (dk rfl) Qcf i165 rfl hm.s1 hm.o0 hm.s0 g (fun w => ⟨(fun _ => w, 0), rfl⟩))) (fun a => Zg rfl rfl) (gK rfl (fun _ => .f rfl) (fun _ => rfl) (gP rfl (fun _ => .f rfl) Dl i80 (fun _ => rfl) (DGG.step (c := fun a => ⟨none, .any, [(14, .ptr bx0 (0 + 2)), (12, .c (.ex ((a 7).1 0)))], [(2, (Qd6 bx0 x0.s x0.at_ wx0c2 x0.deep x0.e x0.where_))], [(2, (Qd6 bx0 x0.s x0.at_ ((a 7).1 0) x0.deep x0.e x0.where_))]⟩) [7] (fun a γ' h => by simp only [h 7 (by decide)]) (fun a t hm => oF rfl rfl (Wf (i := 2) (cells' := [.d (.str x0.s), .d (.int .i64 x0.at_), .d (.ex ((a 7).1 0)), .d (.int .i64 x0.deep), .d (.int .i64 x0.e), .d (.int .i64 x0.where_)]) rfl rfl i80 hm.s0 hm.s1 hm.o0 (nb rfl) rfl ⟨u0, rfl⟩)) (fun a => Zg rfl rfl) (gF [0,0,2,6,14,0,32,126,255,511,1023] Qx rfl (by kernel_rfl) (fun _ => by kernel_rfl) (fun a u hu => (tN (Ql hu (sR (Qr (mw rfl ?_))))))))))
 refine oK rfl (oP Dl i80 rfl (sp rfl (Zj (Zx (i := 2) rfl (dk rfl) Qcf rfl rfl rfl rfl rfl) (Ks 18 3 rfl) (oU (x0.nodes ++ [x1]) Qw Qcf rfl (oI rfl (aw rfl (nL (tN ?_))))))))
 refine T.ret (Q7 (.cons _ _ _ _ (.tmp 4 _ rfl) .nil) (.cons 2 rfl (.cons 2 rfl (.nil _))) (by cases h; exact ⟨gl [(a 7).1 0], rfl, rfl⟩))
abbrev raddleref04_special_q (r : ByteArray) : ES := Jm tp ff148 (fun y t => y = (.str r) ∧ t = [])
theorem Qe2 (K : Nat) {r : ByteArray} (h : C5 K = some r) : Zh tp 148 [] [] (.str r) := by
 refine CI 1 fu148 rfl ?_
 unfold C5 at h
 refine sR (Qr (aw rfl (nL (tN (sR (Qr (aw rfl (nL (tN (T.ret (fd rfl (by cases h; exact ⟨rfl, rfl⟩))))))))))))
abbrev Qkp (r : Bool) : ES := Jm tp ff147 (fun y t => y = (.bool r) ∧ t = [])
abbrev Qhl (r : Bool) : ES := fT 17 [1,1] ff147 (Qkp r)
abbrev Qe3 (r : Bool) : ES := Qv 0 ((Qhl r))
theorem Qhm {r : Bool} (K : Nat) : ∀ (k : Nat), ∀ (x0 : Int) (x1 : ByteArray) (a : Int), Bi K k x0 x1 a = some r → TL tp 17 (ca [1,0,1,0,0] ff147) ⟨[(0, .int .u8 x0), (1, .str x1), (5, .int .i64 a)], []⟩ (Qe3 r) := by
 intro k
 induction k with
 | zero =>
  intro x0 x1 a h
  exact zn h
 | succ k ih =>
  intro x0 x1 a h
  rw [Bi] at h
  refine Q0 (T.seq (sR (Qr (mw rfl (mw rfl (sp rfl (Qa5 rfl (dk rfl) ul9 rfl (oI rfl ?_))))))))
  refine nL (tN ?_)
  rcases Qg h with ⟨b, h⟩ | ⟨b, h⟩
  refine Qp rfl b (T.skip (tN (T.seq (T.block (sR (Qr (mw rfl (mw rfl ?_))))))))
  obtain ⟨c, h⟩ := Q6 h
  refine sp rfl (My rfl (dk rfl) ul9 rfl rfl c.1 c.2 (mw rfl (oI rfl (nL (tN ?_)))))
  rcases Qg h with ⟨d, h⟩ | ⟨d, h⟩
  cases h
  refine Qo rfl d (T.skip (Qk (tN (Qr (mw rfl (oI rfl (aw rfl (nL (tN ?_)))))))))
  refine Qf ?_ (ih x0 x1 (wI (a + (1:Int))) h)
  exact tq rfl rfl
  refine Qo rfl b (T.exit (Qj (Qj (Qq (tN (sR (Qr (aw rfl (nL (tN (T.ret (fd rfl (by cases h; exact ⟨rfl, rfl⟩)))))))))))))
theorem Qkq (K : Nat) {x0 : Int} {x1 : ByteArray} {r : Bool} (h : Tl K x0 x1 = some r) : Zh tp 147 [.int .u8 x0, .str x1] [] (.bool r) := by
 refine CI 17 fu147 rfl ?_
 unfold Tl at h
 refine sR (Qr (aw rfl (nL (tN (T.seq (sR (Qr (aw rfl (nL (tN ?_))))))))))
 refine T.block (T.loop ?_)
 refine Qf ?_ (Qhm K K x0 x1 (0:Int) h)
 exact tq rfl rfl
abbrev raddleref04_reader_one_q (bx0 : Nat) (r : Int × Qi) : ES := Jm tp ff149 (fun y t => ∃ γ : Nat → Value, y = (.int .u8 r.1) ∧ t = [(Qd6 bx0 r.2.s r.2.at_ (γ 0) r.2.deep r.2.e r.2.where_), .arrA (γ 0) 165 9 (r.2.nodes.map Qw)])
theorem Qau (K : Nat) {x0 : Qi} {bx0 : Nat} {wx0c2 : Value} {r : Int × Qi} (h : K0 K x0 = some r) : U3 tp 149 [.ptr bx0 0] [(Qd6 bx0 x0.s x0.at_ wx0c2 x0.deep x0.e x0.where_), .arrA wx0c2 165 9 (x0.nodes.map Qw)] (fun γ => (.int .u8 r.1)) (fun γ => [(Qd6 bx0 r.2.s r.2.at_ (γ 0) r.2.deep r.2.e r.2.where_), .arrA (γ 0) 165 9 (r.2.nodes.map Qw)]) := by
 refine CI 138 fu149 rfl ?_
 unfold K0 at h
 refine sR (Qr (aw rfl (nL (tN (T.seq (Zy (dV rfl rfl (dK rfl (.f rfl) rfl ?_))))))))
 refine dP rfl (.f rfl) Dl i9 rfl (dL 0 rfl (.f rfl) ul9 rfl (dV rfl rfl (dK rfl (.f rfl) rfl (dP rfl (.f rfl) Dl i3 rfl (dL 0 rfl (.f rfl) ul3 rfl ?_)))))
 obtain ⟨a, h⟩ := Q6 h
 refine dS (c := ⟨some 16, .int .u8 (bt x0.s x0.at_), [(11, .str x0.s), (15, .int .i64 x0.at_)], [], []⟩) (fun t hm => oF rfl rfl (My rfl (dk rfl) ul9 hm.s0 hm.s1 a.1 a.2 rfl)) rfl rfl (dA rfl (.f rfl) rfl (dF [0,1,3,7,0,16,48,112,255,511] Qx rfl (by kernel_rfl) (fun u hu => (tN (Ql hu (sR (Qr (mw rfl (oK rfl (oP Dl i3 rfl ?_))))))))))
 refine oL 0 ul3 rfl (aw rfl (nL (tN (sR (Qr (mw rfl (oK rfl (oP Dl i3 rfl (oL 0 ul3 rfl ?_)))))))))
 refine oI rfl (oK rfl (oP Dl i3 rfl (sp rfl (Wf (i := 0) (cells' := [.d (.str x0.s), .d (.int .i64 (wI (x0.at_ + (1:Int)))), .d (.ex wx0c2), .d (.int .i64 x0.deep), .d (.int .i64 x0.e), .d (.int .i64 x0.where_)]) rfl rfl i3 rfl rfl rfl (nb rfl) rfl (nL (tN (T.seq (sR (Qr ?_)))))))))
 refine mw rfl (oI rfl (nL (tN ?_)))
 rcases Qg h with ⟨b, h⟩ | ⟨b, h⟩
 refine Qp rfl b (sR (Qr (mw rfl (aw rfl (nL (tN (T.ret (Qs (Q7 (.cons _ _ _ _ (.tmp 2 _ rfl) .nil) (.cons 0 rfl (.cons 0 rfl (.nil _))) (by cases h; exact ⟨gl [wx0c2], rfl, rfl⟩))))))))))
 cases h
abbrev raddleref01_Has_q (r : Bool) : ES := Jm tp ff81 (fun y t => y = (.bool r) ∧ t = [])
theorem G8 (K : Nat) {x0 : Z6} {x1 : Int} {r : Bool} (h : Wy K x0 x1 = some r) : Zh tp 81 [.agg (Z6.dc .u64 x0), .int .u8 x1] [] (.bool r) := by
 refine CI 14 fu81 rfl ?_
 unfold Wy at h
 refine sR (Qr (sp rfl (Q8 rfl (dk rfl) rfl (fun d => (aw rfl (nL (tN (sR (Qr (mw rfl (sp rfl (OpT.quo rfl (dk rfl) rfl rfl (by decide) ?_))))))))))))
 obtain ⟨b, h⟩ := Q6 h
 refine sp rfl (Xj rfl (dk rfl) Qk8 i61 rfl rfl b.1 b.2 (sp rfl (Zx (i := 0) rfl (dk rfl) ul61 rfl rfl rfl (Qmb (k := .u64) (a := x0) (pre := []) (post := []) b.1 b.2) (mw rfl (sp rfl (OpT.rem rfl (dk rfl) rfl rfl (by decide) ?_))))))
 obtain ⟨c, h⟩ := Q6 h
 refine sp rfl (OpT.shr rfl (dk rfl) rfl rfl c (sp rfl (OpT.rem rfl (dk rfl) rfl rfl (by decide) (oI rfl (aw rfl (nL (tN (T.ret (fd rfl (by cases h; exact ⟨rfl, rfl⟩))))))))))
abbrev raddleref01_with_q (r : Z6) : ES := Jm tp ff142 (fun y t => y = (.agg (Z6.dc .u64 r)) ∧ t = [])
theorem Qiu (K : Nat) {x0 : Z6} {x1 : Int} {r : Z6} (h : Nv K x0 x1 = some r) : Zh tp 142 [.agg (Z6.dc .u64 x0), .int .u8 x1] [] (.agg (Z6.dc .u64 r)) := by
 refine CI 21 fu142 rfl ?_
 unfold Nv at h
 refine sR (Qr (sp rfl (Q8 rfl (dk rfl) rfl (fun g => (sp rfl (Za rfl (dk rfl) i63 rfl (fun j => (nL (tN (T.seq (sR (Qr (oA 1 (Z6.dc .u64 x0) Qk8 i63 rfl ?_)))))))))))))
 refine mw rfl ?_
 obtain ⟨m, d, h⟩ := bind_some h
 refine oH fu81 (Zh.nil (G8 K d)) rfl (oT rfl (nL (tN ?_)))
 rcases Qg h with ⟨c, h⟩ | ⟨c, h⟩
 refine Qp rfl c (Qr (mw rfl (sp rfl (OpT.quo rfl (dk rfl) rfl rfl (by decide) (mw rfl (sp rfl (OpT.quo rfl (dk rfl) rfl rfl (by decide) ?_)))))))
 obtain ⟨b, h⟩ := Q6 h
 refine sp rfl (Xj rfl (dk rfl) Qk8 i61 rfl rfl b.1 b.2 (sp rfl (Zx (i := 1) rfl (dk rfl) ul61 rfl rfl rfl (Qmb (k := .u64) (a := x0) (pre := []) (post := []) b.1 b.2) (mw rfl (sp rfl (OpT.rem rfl (dk rfl) rfl rfl (by decide) ?_))))))
 obtain ⟨f, h⟩ := Q6 h
 refine sp rfl (OpT.shl rfl (dk rfl) rfl rfl f (oI rfl (sp rfl (Xj rfl (dk rfl) Qk8 i61 rfl rfl b.1 b.2 (sp rfl (Wf (i := 1) (cells' := (Z6.oc .u64 (Z6.set x0 (IntKind.u8.wrap (Int.tdiv x1 (64:Int))) (IntKind.u64.wrap ((Z6.get x0 (IntKind.u8.wrap (Int.tdiv x1 (64:Int)))) + (IntKind.u64.wrap ((1:Int) * 2 ^ min (Int.toNat (Int.tmod x1 (64:Int))) IntKind.u64.bits))))))) rfl rfl i61 rfl rfl rfl (Z6.oc_lt (k := .u64) (a := x0) (pre := []) (post := []) b.1 b.2) (Z6.oc_set (k := .u64) (a := x0) (pre := []) (post := []) b.1 b.2) (nL (tN (sR (Qr (oA 1 (Z6.dc .u64 (Z6.set x0 (IntKind.u8.wrap (Int.tdiv x1 (64:Int))) (IntKind.u64.wrap ((Z6.get x0 (IntKind.u8.wrap (Int.tdiv x1 (64:Int)))) + (IntKind.u64.wrap ((1:Int) * 2 ^ min (Int.toNat (Int.tmod x1 (64:Int))) IntKind.u64.bits)))))) Qk8 i63 rfl (sp rfl (Qt (i := 0) (cells' := (Z6.oc .u64 (Z6.set x0 (IntKind.u8.wrap (Int.tdiv x1 (64:Int))) (IntKind.u64.wrap ((Z6.get x0 (IntKind.u8.wrap (Int.tdiv x1 (64:Int)))) + (IntKind.u64.wrap ((1:Int) * 2 ^ min (Int.toNat (Int.tmod x1 (64:Int))) IntKind.u64.bits))))))) rfl rfl i63 rfl rfl rfl rfl (nb rfl) rfl ?_)))))))))))))
 refine nL (tN (T.ret (Fin.done (.cons _ _ _ _ (.cellAgg 4 63 _ 0 0 63 _ (Z6.dc .u64 (Z6.set x0 (IntKind.u8.wrap (Int.tdiv x1 (64:Int))) (IntKind.u64.wrap ((Z6.get x0 (IntKind.u8.wrap (Int.tdiv x1 (64:Int)))) + (IntKind.u64.wrap ((1:Int) * 2 ^ min (Int.toNat (Int.tmod x1 (64:Int))) IntKind.u64.bits)))))) _ _ 4 _ rfl rfl rfl rfl Qk8 rfl i63) .nil) (by cases h; exact ⟨rfl, rfl⟩))))
 cases h
abbrev Qkt (r : Z6) : ES := Jm tp ff131 (fun y t => y = (.agg (Z6.dc .u64 r)) ∧ t = [])
abbrev Qf0 (r : Z6) : ES := fT 19 [1,1,1] ff131 (Qkt r)
abbrev Qd3 (r : Z6) : ES := Qv 0 ((Qf0 r))
theorem Qhw {r : Z6} (K : Nat) : ∀ (k : Nat), ∀ (x0 : List Int) (d : Int) (j a : Z6) (flx0 : Bool) (g b : Nat), Bl K k x0 d j a = some r → TL tp 19 (ca [1,1,0,1,0,0] ff131) ⟨[(0, .sl flx0 1 (mU x0)), (2, .ptr g 0), (3, .ptr b 0), (4, .int .i64 d)], [.box g 63 (Z6.oc .u64 j), .box b 63 (Z6.oc .u64 a)]⟩ (Qd3 r) := by
 intro k
 induction k with
 | zero =>
  intro x0 d j a flx0 g b h
  exact zn h
 | succ k ih =>
  intro x0 d j a flx0 g b h
  rw [Bl] at h
  refine Q0 (T.seq (sR (Qr (mw rfl (mw rfl (oU x0 (cI .u8) B2 rfl (oI rfl ?_)))))))
  refine nL (tN ?_)
  rcases Qg h with ⟨q, h⟩ | ⟨q, h⟩
  refine Qp rfl q (T.skip (tN (T.seq (T.block (Zy (dW 1 (Z6.dc .u64 a) rfl (.f rfl) Qk8 i63 rfl (dV rfl rfl ?_)))))))
  refine dV rfl rfl ?_
  obtain ⟨p, s, h⟩ := bind_some h
  refine dX x0 (cI .u8) rfl (.f rfl) B2 i5 s rfl (dR rfl (.f rfl) ul5 rfl ?_)
  obtain ⟨m, w, h⟩ := bind_some h
  refine dH fu142 (Zh.nil (Qiu K w)) rfl (.f rfl) rfl (dS (c := ⟨none, .any, [(3, .ptr b 0), (17, .agg (Z6.dc .u64 m))], [(1, .box b 63 (Z6.oc .u64 a))], [(1, .box b 63 (Z6.oc .u64 m))]⟩) (fun t hm => oF rfl rfl (Qt (i := 1) (cells' := (Z6.oc .u64 m)) rfl rfl i63 hm.s0 hm.s1 rfl hm.o0 (nb rfl) rfl rfl)) rfl rfl (dF [0,0,0,6,14,31,63] Qx rfl (by kernel_rfl) (fun u hu => (Qk (tN (Ql hu (Qr (mw rfl (oI rfl (aw rfl ?_))))))))))
  refine nL (tN ?_)
  refine Qf ?_ (ih x0 (wI (d + (1:Int))) j m flx0 g b h)
  exact tq rfl rfl
  refine Qo rfl q (T.exit (Qj (Qj (Qq (tN (sR (Qr (oA 1 (Z6.dc .u64 a) Qk8 i63 rfl (sp rfl (Qt (i := 0) (cells' := (Z6.oc .u64 a)) rfl rfl i63 rfl rfl rfl rfl (nb rfl) rfl (nL (tN (T.ret ?_)))))))))))))
  exact Fin.done (.cons _ _ _ _ (.cellAgg 2 63 _ 0 0 63 _ (Z6.dc .u64 a) _ _ 4 _ rfl rfl rfl rfl Qk8 rfl i63) .nil) (by cases h; exact ⟨rfl, rfl⟩)
theorem Qcr (K : Nat) {x0 : List Int} {flx0 : Bool} {r : Z6} (h : F5 K x0 = some r) : Zh tp 131 [.sl flx0 1 (mU x0)] [] (.agg (Z6.dc .u64 r)) := by
 refine CI 19 fu131 rfl ?_
 unfold F5 at h
 refine sR (Qr (sp rfl (Za rfl (dk rfl) i63 rfl (fun a => (nL (tN (sR (Qr (sp rfl (OpT.build (l := (Z6.dc .u64 (Z6.mk 0 0 0 0))) rfl (dk rfl) (Qlv Qk8 i63 i61) (Hs rfl) rfl rfl (sp rfl (Za rfl (dk rfl) i63 rfl (fun b => (sp rfl (Qt (i := 0) (cells' := (Z6.oc .u64 (Z6.mk 0 0 0 0))) rfl rfl i63 rfl rfl rfl rfl (nb rfl) rfl (nL (tN ?_)))))))))))))))))
 refine T.seq (sR (Qr (aw rfl (nL (tN (T.block (T.loop ?_)))))))
 refine Qf ?_ (Qhw K K x0 (0:Int) (Z6.mk 0 0 0 0) (Z6.mk 0 0 0 0) flx0 a b h)
 exact tr rfl (.c (.s .z) (.c .z (.n _)))
abbrev raddleref04_reader_atom_q (bx0 : Nat) (r : Int × Qi) : ES := Jm tp ff133 (fun y t => ∃ γ : Nat → Value, y = (.int .i64 r.1) ∧ t = [(Qd6 bx0 r.2.s r.2.at_ (γ 0) r.2.deep r.2.e r.2.where_), .arrA (γ 0) 165 9 (r.2.nodes.map Qw)])
theorem Tj (K : Nat) {x0 : Qi} {bx0 : Nat} {wx0c2 : Value} {r : Int × Qi} (h : L5 K x0 = some r) : U3 tp 133 [.ptr bx0 0] [(Qd6 bx0 x0.s x0.at_ wx0c2 x0.deep x0.e x0.where_), .arrA wx0c2 165 9 (x0.nodes.map Qw)] (fun γ => (.int .i64 r.1)) (fun γ => [(Qd6 bx0 r.2.s r.2.at_ (γ 0) r.2.deep r.2.e r.2.where_), .arrA (γ 0) 165 9 (r.2.nodes.map Qw)]) := by
 refine CI 112 fu133 rfl ?_
 unfold L5 at h
 refine sR (Qr (aw rfl (nL (tN (T.seq (Zy (dV rfl rfl (dK rfl (.f rfl) rfl ?_))))))))
 refine dP rfl (.f rfl) Dl i9 rfl (dL 0 rfl (.f rfl) ul9 rfl (dV rfl rfl (dK rfl (.f rfl) rfl (dP rfl (.f rfl) Dl i3 rfl (dL 0 rfl (.f rfl) ul3 rfl ?_)))))
 obtain ⟨g, h⟩ := Q6 h
 refine dS (c := ⟨some 13, .int .u8 (bt x0.s x0.at_), [(8, .str x0.s), (12, .int .i64 x0.at_)], [], []⟩) (fun t hm => oF rfl rfl (My rfl (dk rfl) ul9 hm.s0 hm.s1 g.1 g.2 rfl)) rfl rfl (dA rfl (.f rfl) rfl (dF [0,1,3,7,0,16,48,112,255,511] Qx rfl (by kernel_rfl) (fun u hu => (tN (Ql hu (T.seq (T.block (sR (Qr (mw rfl ?_))))))))))
 refine oI rfl (aw rfl (nL (tN ?_)))
 rcases Qg h with ⟨j, h⟩ | ⟨j, h⟩
 cases h
 refine Qo rfl j (sR (Qr (mw rfl (oI rfl (aw rfl (nL (tN ?_)))))))
 rcases Qg h with ⟨m, h⟩ | ⟨m, h⟩
 cases h
 refine Qo rfl m (sR (Qr (mw rfl (oI rfl (aw rfl (nL (tN ?_)))))))
 rcases Qg h with ⟨p, h⟩ | ⟨p, h⟩
 cases h
 refine Qo rfl p (T.seq (Zy (dV rfl rfl (dI rfl (.f rfl) rfl (dV rfl rfl ?_)))))
 rcases Qg h with ⟨a, h⟩ | ⟨a, h⟩
 cases h
 refine dO a rfl rfl (dO a rfl rfl (dO a rfl rfl (dO a rfl rfl (dO a rfl rfl (dO a rfl rfl (dO a rfl rfl ?_))))))
 refine dO a rfl rfl (dO a rfl rfl (dO a rfl rfl (dO a rfl rfl (dO a rfl rfl (dG rfl rfl (dG rfl rfl ?_))))))
 refine dG rfl rfl (dG rfl rfl (dG rfl rfl (dG rfl rfl (dG rfl rfl (dG rfl rfl (dG rfl rfl ?_))))))
 refine dG rfl rfl (dG rfl rfl (dG rfl rfl (dO a rfl rfl (dZ rfl (.f rfl) a rfl (dA rfl (.f rfl) rfl (dF [0,1,3,7,15,31,63,127,7,263,775,1799,3847,8191,16383,32767,65535,131071,262143,32767,557055,1605631,3702783,7897087,16777215,33554431,67108863,134217727,268435455,536870911] Qx rfl (by kernel_rfl) (fun u hu => (tN (Ql hu ?_)))))))))
 refine Qo rfl rfl (sR (Qr (mw rfl (oI rfl (mw rfl ?_)))))
 rcases Qg h with ⟨f, h⟩ | ⟨f, h⟩
 cases h
 refine sn rfl f (OpT.move rfl (dk rfl) rfl (sn rfl f (Zs rfl rfl (dk rfl) rfl rfl (oZ f rfl (aw rfl (nL (tN ?_)))))))
 rcases Qg h with ⟨q, h⟩ | ⟨q, h⟩
 cases h
 refine Qo rfl q (sR (Qr (mw rfl (oI rfl (mw rfl ?_)))))
 rcases Qg h with ⟨d, h⟩ | ⟨d, h⟩
 refine sn rfl d (OpT.move rfl (dk rfl) rfl ?_)
 obtain ⟨ai, y, h⟩ := bind_some h
 refine sn rfl d (Vt rfl (dk rfl) fu148 rfl rfl Zm.nil (Zh.nil (Qe2 K y)) ?_)
 obtain ⟨aj, z, h⟩ := bind_some h
 refine sn rfl d (Vt rfl (dk rfl) fu147 rfl rfl (Zm.cons rfl (Zm.cons rfl Zm.nil)) (Zh.nil (Qkq K z)) (oY d rfl (aw rfl (nL (tN ?_)))))
 rcases Qg h with ⟨v, h⟩ | ⟨v, h⟩
 cases h
 refine Qo rfl v (T.skip (Qk (tN (sR (Qr (mw rfl ?_))))))
 obtain ⟨aa, ab, h⟩ := bind_some h
 refine sp rfl (Q9 (is := [0, 1]) (ph := []) rfl (dk rfl) fu149 rfl rfl (Zm.cons rfl Zm.nil) (Qau K (bx0 := bx0) (wx0c2 := wx0c2) ab) (.cons rfl rfl (.cons rfl rfl (.nil))) (fun _ => rfl) (fun ac => (nm (.c (.c (.n))) (aw rfl (nL (tN (T.seq (sR (Qr (mw rfl ?_))))))))))
 refine oK rfl (oP Dl i30 rfl (oL 0 ul30 rfl (oI rfl (nL (tN ?_)))))
 rcases Qg h with ⟨w, h⟩ | ⟨w, h⟩
 cases h
 refine Qo rfl w (T.skip (tN (sR (Qr (mw rfl (mw rfl (sp rfl (OpT.buildSlice (elems := ([aa.1] : List Int).map (cI .u8)) rfl (dk rfl) B2 i5 (by decide) rfl (Hs rfl) rfl rfl rfl (Xh rfl) (by decide) ?_))))))))
 obtain ⟨b, ad, h⟩ := bind_some h
 refine oH fu131 (Zh.nil (Qcr K (flx0 := true) ad)) rfl (sp rfl (Zj (OpT.build (l := [.int .u8 (2:Int), .int .u64 b.a0, .int .u64 b.a1, .int .u64 b.a2, .int .u64 b.a3, .ex (.slice none 0 0), .int .i64 (0:Int), .int .i64 (0:Int), .str (⟨#[]⟩ : ByteArray)]) rfl (dk rfl) (Zk (pl := [(0, 1), (1, 4), (5, 1), (6, 1), (7, 1), (8, 1)]) M3 i165 rfl) (Hs rfl) rfl rfl rfl) (Zt 110 (l := [.int .u8 (2:Int), .int .u64 b.a0, .int .u64 b.a1, .int .u64 b.a2, .int .u64 b.a3, .ex (.slice none 0 0), .int .i64 (0:Int), .int .i64 (0:Int), .str (⟨#[]⟩ : ByteArray)]) (l' := [.int .u8 (2:Int), .int .u64 b.a0, .int .u64 b.a1, .int .u64 b.a2, .int .u64 b.a3, .sl false 1 (([] : List Int).map (cI .i64)), .int .i64 (0:Int), .int .i64 (0:Int), .str (⟨#[]⟩ : ByteArray)]) (.cons (.same _) (.cons (.same _) (.cons (.same _) (.cons (.same _) (.cons (.same _) (.cons (.nil _ _) (.cons (.same _) (.cons (.same _) (.cons (.same _) (.refl _))))))))))) ?_))
 obtain ⟨al, af, h⟩ := bind_some h
 refine sp rfl (Q9 (is := [0, 1]) (ph := []) rfl (dk rfl) fu99 rfl rfl (Zm.cons rfl (Zm.cons rfl Zm.nil)) (G5 K (bx0 := bx0) (wx0c2 := (ac 0)) af) (.cons rfl rfl (.cons rfl rfl (.nil))) (fun _ => rfl) (fun ag => (nm (.c (.c (.n))) (aw rfl (nL (tN (T.ret (Q7 (.cons _ _ _ _ (.tmp 2 _ rfl) .nil) (.cons 0 rfl (.cons 0 rfl (.nil _))) (by cases h; exact ⟨gl [ag 0], rfl, rfl⟩)))))))))
 cases h
end Go.Rv

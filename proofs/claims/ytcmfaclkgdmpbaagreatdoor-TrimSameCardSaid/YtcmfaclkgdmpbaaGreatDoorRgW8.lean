/- Each function computes what its plain text says: printed by a program of ours. -/
import Derived.Test.YtcmfaclkgdmpbaaGreatDoorRgW7
namespace Go.Rv
open Go.Proofs
set_option maxRecDepth 100000
set_option maxHeartbeats 4000000
set_option linter.unusedVariables false
abbrev O4 (r : Bool) : ES := Jq tp ff49 (fun y t => y = (.bool r) ∧ t = [])
abbrev Ej (r : Bool) : ES := fT 112 [1,1] ff49 (O4 r)
abbrev Qaj (r : Bool) : ES := fT 112 [1,1,1] ff49 (O4 r)
abbrev Bk (r : Bool) : ES := Qz 0 ((Qaj r))
abbrev R5 (r : Bool) : ES := fL 112 [1,1,0,1,0,0] ff49 (Bk r)
abbrev Nl (r : Bool) : ES := fT 112 [1,1,0,1,0,0,1,1] ff49 (R5 r)
abbrev Hz (r : Bool) : ES := Qz 1 ((Nl r))
abbrev Gq (r : Bool) : ES := fT 112 [1,1,0,1,0,0,1,0,0,1,1] ff49 (Hz r)
abbrev W0 (r : Bool) : ES := Qz 2 ((Hz r))
abbrev De (r : Bool) : ES := fL 112 [1,1,0,1,0,0,1,0,0,1,1,1,0,0] ff49 (W0 r)
abbrev Bj (r : Bool) : ES := fT 112 [1,1,0,1,0,0,1,0,0,1,1,1,0,0,1,1] ff49 (De r)
abbrev G2 (r : Bool) : ES := Qz 3 ((Bj r))
theorem Em {r : Bool} (K : Nat) (h : H7 K = some r) : T tp 112 (ca [1,0,1,0] ff49) ⟨[], []⟩ (Ej r) := by
 unfold H7 at h
 refine sR (Qs (aw rfl (nL (tN (T.ret (Qr (fd rfl (by cases h; exact ⟨rfl, rfl⟩))))))))
theorem U8 {r : Bool} (K : Nat) (h : Vx K = some r) : T tp 112 (ca [1,1,0,1,0,0,1,0,0,1,0,1,0] ff49) ⟨[], []⟩ (Gq r) := by
 unfold Vx at h
 refine sR (Qs (aw rfl (nL (tN (T.ret (Qr (Q1 (Qr (Qr (Q1 (Qr (fd rfl (by cases h; exact ⟨rfl, rfl⟩)))))))))))))
theorem Kl {r : Bool} (K : Nat) (h : J1 K = some r) : T tp 112 (ca [1,1,0,1,0,0,1,0,0,1,1,1,0,0,1,0,0,1,0] ff49) ⟨[], []⟩ (G2 r) := by
 unfold J1 at h
 refine sR (Qs (aw rfl (nL (tN (T.ret (Q1 (Qr (Qr (Q1 (Q1 (Qr (Qr (Q1 (Qr (fd rfl (by cases h; exact ⟨rfl, rfl⟩))))))))))))))))
abbrev Kk (r : Bool) (go : Int → Qj → Qt → Option Bool) : Prop := ∀ (a : Int) (x0 : Qj) (x1 : Qt) (b c : Nat), go a x0 x1 = some r → TL tp 112 (ca [1,1,0,1,0,0] ff49) ⟨[(2, .ptr b 0), (3, .ptr c 0), (5, .int .i64 a)], [(Qcv b x0.First x0.P), (Qet c x1.Begin x1.L)]⟩ (Bk r)
theorem Qb8 {r : Bool} (K : Nat) (go2 : Int → Qj → Qt → Option Bool) (hgo2 : Kk r go2) : ∀ (k : Nat), ∀ (ab g ac : Int) (x0 : Qj) (ad : Int) (af : Bool) (ag : Int) (ai aj al : Bool) (am : List Int) (an : Int) (ap : Bool) (x1 : Qt) (s : Int) (l : List Int) (p w j : Nat), Xs K go2 k ab g ac x0 ad af ag ai aj al am an ap x1 s l = some r → TL tp 112 (ca [1,1,0,1,0,0,1,0,0,1,1,1,0,0] ff49) ⟨[(2, .ptr p 0), (3, .ptr w 0), (5, .int .i64 ab), (6, .ptr j 0), (7, .int .i64 g), (37, .ptr j (0 + 0)), (38, .int .i64 ac), (39, .ptr p (0 + 1)), (40, .sl false 9 (x0.P.map Qv)), (41, .int .i64 ad), (42, .bool af), (45, .int .i64 ag), (46, .bool ai), (47, .bool aj), (58, .bool al), (61, .ptr j (0 + 1)), (62, .sl false 1 (mI am)), (63, .int .i64 an), (64, .bool ap)], [(Qcv p x0.First x0.P), (Qet w x1.Begin x1.L), .box j 105 [.d (.int .i64 s), .d (.sl false 1 (mI l))]]⟩ (W0 r) := by
 intro k
 induction k with
 | zero =>
  intro ab g ac x0 ad af ag ai aj al am an ap x1 s l p w j h
  exact zn h
 | succ k ih =>
  intro ab g ac x0 ad af ag ai aj al am an ap x1 s l p w j h
  rw [Xs] at h
  refine Q7 (T.seq (sR (Qs (mw rfl (oP Cy i38 rfl (oL 2 Zs rfl (oU l (cI .i64) Zs rfl ?_)))))))
  refine oI rfl (nL (tN ?_))
  rcases Qd h with ⟨aq, h⟩ | ⟨aq, h⟩
  refine Qp rfl aq (T.skip (tN (T.seq (T.block (T.seq (Z7 (dP rfl (.f rfl) Cy i38 rfl ?_)))))))
  refine dL 2 rfl (.f rfl) Zs rfl (dV rfl rfl ?_)
  obtain ⟨b, au, h⟩ := bind_some h
  refine dX l (cI .i64) rfl (.f rfl) Zs i3 au rfl (dR rfl (.f rfl) ul3 rfl (dI rfl (.f rfl) rfl (dV rfl rfl ?_)))
  rcases Qd h with ⟨m, h⟩ | ⟨m, h⟩
  refine dO m rfl rfl (dO m rfl rfl (dO m rfl rfl (dO m rfl rfl (dO m rfl rfl (dO m rfl rfl (dO m rfl rfl ?_))))))
  refine dO m rfl rfl (dO m rfl rfl (dO m rfl rfl (dO m rfl rfl (dO m rfl rfl (dO m rfl rfl (dY rfl (.f rfl) m rfl ?_))))))
  refine dV rfl rfl (dO rfl rfl rfl (dO rfl rfl rfl (dO rfl rfl rfl (dG rfl rfl (dG rfl rfl (dG rfl rfl ?_))))))
  refine dG rfl rfl (dG rfl rfl (dG rfl rfl (dG rfl rfl (dG rfl rfl (dG rfl rfl (dG rfl rfl ?_))))))
  refine dG rfl rfl (dG rfl rfl (dO rfl rfl rfl (dY rfl (.f rfl) rfl rfl (dF [0,1,0,7,15,31,63,127,255,127,1023,2047,127,4223,127,16511,61567,127103,258175,524287,1048575,2097151,4194303,8388607,16777215,33554431,67108863,33554431,167772159,536870911,1073741823,33554431,2181038079,33554431,15065939967,32245809151,68719476735,137438953471,274877906943] Q0 rfl (by kernel_rfl) (fun u hu => (tN (Qg hu (Qp rfl rfl ?_))))))))
  refine Qg ?_ (Kl K h)
  exact tq rfl rfl
  refine dP rfl (.n m rfl) Cy i38 rfl (dL 2 rfl (.n m rfl) Zs rfl (dM rfl (.n m rfl) rfl (dX l (cI .i64) rfl (.n m rfl) Zs i3 au rfl (dR rfl (.n m rfl) ul3 rfl (dP rfl (.n m rfl) F7 i41 rfl (dL 0 rfl (.n m rfl) Ci rfl ?_))))))
  refine dP rfl (.n m rfl) Cy i3 rfl (dL 2 rfl (.n m rfl) ul3 rfl ?_)
  obtain ⟨a, ay, h⟩ := bind_some h
  refine dX x0.P Qv rfl (.n m rfl) Ci i65 ay rfl (dQ rfl (.n m rfl) Qbf i3 rfl (dR rfl (.n m rfl) ul3 rfl (dI rfl (.n m rfl) rfl (dZ rfl (.f rfl) m rfl (dV rfl rfl ?_)))))
  rcases Qd h with ⟨aa, h⟩ | ⟨aa, h⟩
  refine dO aa rfl rfl (dO aa rfl rfl (dO aa rfl rfl (dG rfl rfl (dG rfl rfl (dG rfl rfl (dG rfl rfl ?_))))))
  refine dG rfl rfl (dG rfl rfl (dG rfl rfl (dG rfl rfl (dG rfl rfl (dG rfl rfl (dG rfl rfl ?_))))))
  refine dG rfl rfl (dO aa rfl rfl (dY rfl (.f rfl) aa rfl (dF [0,1,0,7,15,31,63,127,255,127,1023,2047,127,4223,127,16511,61567,127103,258175,524287,1048575,2097151,4194303,8388607,16777215,33554431,67108863,33554431,167772159,536870911,1073741823,33554431,2181038079,33554431,15065939967,32245809151,68719476735,137438953471,274877906943] Q0 rfl (by kernel_rfl) (fun u hu => (tN (Qg hu (Qp rfl rfl ?_)))))))
  refine Qg ?_ (Kl K h)
  exact tq rfl rfl
  refine dM rfl (.n aa rfl) rfl (dI rfl (.n aa rfl) rfl (dM rfl (.n aa rfl) rfl ?_))
  rcases Qd h with ⟨q, h⟩ | ⟨q, h⟩
  refine dP rfl (.n q rfl) Cy i38 rfl (dL 2 rfl (.n q rfl) Zs rfl (dM rfl (.n q rfl) rfl (dI rfl (.n q rfl) rfl ?_)))
  obtain ⟨y, az, h⟩ := bind_some h
  refine dX l (cI .i64) rfl (.n q rfl) Zs i3 az rfl (dR rfl (.n q rfl) ul3 rfl (dP rfl (.n q rfl) Cy i38 rfl (dL 2 rfl (.n q rfl) Zs rfl (dM rfl (.n q rfl) rfl (dX l (cI .i64) rfl (.n q rfl) Zs i3 au rfl (dR rfl (.n q rfl) ul3 rfl ?_))))))
  refine dI rfl (.n q rfl) rfl (dY rfl (.n aa rfl) q rfl (dZ rfl (.f rfl) aa rfl (dF [0,1,0,7,15,31,63,127,255,127,1023,2047,127,4223,127,16511,61567,127103,258175,524287,1048575,2097151,4194303,8388607,16777215,33554431,67108863,33554431,167772159,536870911,1073741823,33554431,2181038079,33554431,15065939967,32245809151,68719476735,137438953471,274877906943] Q0 rfl (by kernel_rfl) (fun u hu => (tN (Qg hu ?_))))))
  rcases Qd h with ⟨av, h⟩ | ⟨av, h⟩
  refine Qp rfl av ?_
  refine Qg ?_ (Kl K h)
  exact tq rfl rfl
  refine Qo rfl av (T.skip (Qk (tN (Qs (mw rfl (oI rfl (aw rfl (nL (tN ?_)))))))))
  refine Qe ?_ (ih ab (wI (g + (1:Int))) ac x0 ad af ag ai aj al am an ap x1 s l p w j h)
  exact tq rfl rfl
  refine dO q rfl rfl (dO q rfl rfl (dO q rfl rfl (dO q rfl rfl (dO q rfl rfl (dO q rfl rfl (dO q rfl rfl ?_))))))
  refine dO q rfl rfl (dO q rfl rfl (dO q rfl rfl (dO q rfl rfl (dO q rfl rfl (dZ rfl (.n aa rfl) q rfl (dZ rfl (.f rfl) aa rfl ?_))))))
  refine dF [0,1,0,7,15,31,63,127,255,127,1023,2047,127,4223,127,16511,61567,127103,258175,524287,1048575,2097151,4194303,8388607,16777215,33554431,67108863,33554431,167772159,536870911,1073741823,33554431,2181038079,33554431,15065939967,32245809151,68719476735,137438953471,274877906943] Q0 rfl (by kernel_rfl) (fun u hu => (tN (Qg hu (Qo rfl rfl (T.skip (Qk (tN (Qs (mw rfl (oI rfl (aw rfl ?_)))))))))))
  refine nL (tN ?_)
  refine Qe ?_ (ih ab (wI (g + (1:Int))) ac x0 ad af ag ai aj al am an ap x1 s l p w j h)
  exact tq rfl rfl
  refine Qo rfl aq (T.exit (Ql (Ql (Qu (Qk (tN (Qs (mw rfl (oI rfl (aw rfl (nL (tN ?_))))))))))))
  refine Qe ?_ (hgo2 (wI (ab + (1:Int))) x0 x1 p w h)
  exact tq rfl rfl
theorem Ek {r : Bool} (K : Nat) (go2 : Int → Qj → Qt → Option Bool) (hgo2 : Kk r go2) (f g : Int) (x0 : Qj) (i : Int) (j : Bool) (l : Int) (m p q : Bool) (s : List Int) (u : Int) (v : Bool) (x1 : Qt) (w : Int) (y : List Int) (b aa a : Nat) (h : J2 K go2 f g x0 i j l m p q s u v x1 w y = some r) : T tp 112 (ca [1,1,0,1,0,0,1,0,0,1,0,1,1] ff49) ⟨[(2, .ptr b 0), (3, .ptr aa 0), (5, .int .i64 f), (6, .ptr a 0), (37, .ptr a (0 + 0)), (38, .int .i64 g), (39, .ptr b (0 + 1)), (40, .sl false 9 (x0.P.map Qv)), (41, .int .i64 i), (42, .bool j), (45, .int .i64 l), (46, .bool m), (47, .bool p), (58, .bool q), (61, .ptr a (0 + 1)), (62, .sl false 1 (mI s)), (63, .int .i64 u), (64, .bool v)], [(Qcv b x0.First x0.P), (Qet aa x1.Begin x1.L), .box a 105 [.d (.int .i64 w), .d (.sl false 1 (mI y))]]⟩ (Gq r) := by
 unfold J2 at h
 refine T.skip (tN (sR (Qs (aw rfl (nL (tN (T.block (T.loop ?_))))))))
 refine Qe ?_ (Qb8 K go2 hgo2 K f (0:Int) g x0 i j l m p q s u v x1 w y b aa a h)
 exact tq rfl rfl
theorem Qb9 {r : Bool} (K : Nat) : ∀ (k : Nat), Kk r (Yl K k) := by
 intro k
 induction k with
 | zero =>
  intro b x0 x1 m p h
  exact zn h
 | succ k ih =>
  intro b x0 x1 m p h
  rw [Yl] at h
  refine Q7 (T.seq (sR (Qs (mw rfl (oP Qa4 i45 rfl (oL 1 Qc0 rfl (oU x1.L Za Qc0 rfl ?_)))))))
  refine oI rfl (nL (tN ?_))
  rcases Qd h with ⟨aa, h⟩ | ⟨aa, h⟩
  refine Qp rfl aa (T.skip (tN (T.seq (T.block (sR (Qs (oP Qa4 i45 rfl (oL 1 Qc0 rfl ?_))))))))
  refine mw rfl ?_
  obtain ⟨a, ad, h⟩ := bind_some h
  refine oX x1.L Za Qc0 i105 ad rfl (oJ Cy i105 rfl (sp rfl (Ze rfl (dk rfl) i105 rfl (fun g => (sp rfl (Qy (i := 0) (cells' := [.d (.int .i64 a.P), .d (.sl false 1 (mI a.N))]) rfl rfl i105 rfl rfl rfl rfl (nb rfl) rfl (nL (tN (T.seq (T.seq ?_))))))))))
  refine Z7 (dP rfl (.f rfl) Cy i3 rfl (dL 0 rfl (.f rfl) ul3 rfl (dI rfl (.f rfl) rfl (dV rfl rfl ?_))))
  rcases Qd h with ⟨q, h⟩ | ⟨q, h⟩
  refine dO q rfl rfl (dO q rfl rfl (dO q rfl rfl (dO q rfl rfl (dO q rfl rfl (dO q rfl rfl (dY rfl (.f rfl) q rfl ?_))))))
  refine dV rfl rfl (dO rfl rfl rfl (dO rfl rfl rfl (dO rfl rfl rfl (dG rfl rfl (dG rfl rfl (dG rfl rfl ?_))))))
  refine dG rfl rfl (dG rfl rfl (dG rfl rfl (dG rfl rfl (dG rfl rfl (dG rfl rfl (dG rfl rfl ?_))))))
  refine dO rfl rfl rfl (dY rfl (.f rfl) rfl rfl (dV rfl rfl (dO rfl rfl rfl (dO rfl rfl rfl (dO rfl rfl rfl (dO rfl rfl rfl ?_))))))
  refine dY rfl (.f rfl) rfl rfl (dF [0,1,3,7,15,31,15,79,207,511,1023,2047,4095,8191,16383,32767,65535,32767,163839,524287,1048575,2097151,32767,4227071,16777215,33554431,67108863,134217727,268435455,536870911,1073741823,2147483647,4294967295] Q0 rfl (by kernel_rfl) (fun u hu => (tN (Qg hu (Qp rfl rfl ?_)))))
  refine Qg ?_ (U8 K h)
  exact tq rfl rfl
  refine dP rfl (.n q rfl) Cy i3 rfl (dL 0 rfl (.n q rfl) ul3 rfl (dP rfl (.n q rfl) F7 i41 rfl (dL 1 rfl (.n q rfl) Ci rfl (dN x0.P Qv rfl (.n q rfl) Ci rfl (dI rfl (.n q rfl) rfl (dZ rfl (.f rfl) q rfl ?_))))))
  refine dV rfl rfl ?_
  rcases Qd h with ⟨w, h⟩ | ⟨w, h⟩
  refine dO w rfl rfl (dO w rfl rfl (dO w rfl rfl (dG rfl rfl (dG rfl rfl (dG rfl rfl (dG rfl rfl ?_))))))
  refine dG rfl rfl (dG rfl rfl (dG rfl rfl (dG rfl rfl (dG rfl rfl (dG rfl rfl (dO w rfl rfl ?_))))))
  refine dY rfl (.f rfl) w rfl (dV rfl rfl (dO rfl rfl rfl (dO rfl rfl rfl (dO rfl rfl rfl (dO rfl rfl rfl (dY rfl (.f rfl) rfl rfl ?_))))))
  refine dF [0,1,3,7,15,31,15,79,207,511,1023,2047,4095,8191,16383,32767,65535,32767,163839,524287,1048575,2097151,32767,4227071,16777215,33554431,67108863,134217727,268435455,536870911,1073741823,2147483647,4294967295] Q0 rfl (by kernel_rfl) (fun u hu => (tN (Qg hu (Qp rfl rfl ?_))))
  refine Qg ?_ (U8 K h)
  exact tq rfl rfl
  refine dM rfl (.n w rfl) rfl (dI rfl (.n w rfl) rfl (dM rfl (.n w rfl) rfl ?_))
  rcases Qd h with ⟨l, h⟩ | ⟨l, h⟩
  refine dP rfl (.n l rfl) Qa4 i45 rfl (dL 2 rfl (.n l rfl) Qc0 rfl (dM rfl (.n l rfl) rfl (dI rfl (.n l rfl) rfl ?_)))
  obtain ⟨j, af, h⟩ := bind_some h
  refine dX x1.L Za rfl (.n l rfl) Qc0 i105 af rfl (dQ rfl (.n l rfl) Cy i3 rfl (dR rfl (.n l rfl) ul3 rfl (dP rfl (.n l rfl) Cy i3 rfl (dL 0 rfl (.n l rfl) ul3 rfl (dI rfl (.n l rfl) rfl (dY rfl (.n w rfl) l rfl ?_))))))
  refine dZ rfl (.f rfl) w rfl (dV rfl rfl ?_)
  rcases Qd h with ⟨y, h⟩ | ⟨y, h⟩
  refine dO y rfl rfl (dO y rfl rfl (dO y rfl rfl (dO y rfl rfl (dY rfl (.f rfl) y rfl (dF [0,1,3,7,15,31,15,79,207,511,1023,2047,4095,8191,16383,32767,65535,32767,163839,524287,1048575,2097151,32767,4227071,16777215,33554431,67108863,134217727,268435455,536870911,1073741823,2147483647,4294967295] Q0 rfl (by kernel_rfl) (fun u hu => (tN (Qg hu (Qp rfl rfl ?_)))))))))
  refine Qg ?_ (U8 K h)
  exact tq rfl rfl
  refine dP rfl (.n y rfl) Cy i38 rfl (dL 0 rfl (.n y rfl) Zs rfl (dN a.N (cI .i64) rfl (.n y rfl) Zs rfl (dI rfl (.n y rfl) rfl (dZ rfl (.f rfl) y rfl (dF [0,1,3,7,15,31,15,79,207,511,1023,2047,4095,8191,16383,32767,65535,32767,163839,524287,1048575,2097151,32767,4227071,16777215,33554431,67108863,134217727,268435455,536870911,1073741823,2147483647,4294967295] Q0 rfl (by kernel_rfl) (fun u hu => (tN (Qg hu ?_))))))))
  rcases Qd h with ⟨ab, h⟩ | ⟨ab, h⟩
  refine Qp rfl ab ?_
  refine Qg ?_ (U8 K h)
  exact tq rfl rfl
  refine Qo rfl ab ?_
  refine Qg ?_ (Ek K (Yl K k) ih b a.P x0 (x0.P.length : Int) (decide (a.P ≥ (x0.P.length : Int))) b (decide (b > (0:Int))) (decide (b > (0:Int))) (decide (j.P ≥ a.P)) a.N (a.N.length : Int) ((a.N.length : Int) == (0:Int)) x1 a.P a.N m p g h)
  exact tr rfl (.c (.s .z) (.c (.s .z) (.c .z (.n _))))
  refine dO l rfl rfl (dO l rfl rfl (dO l rfl rfl (dO l rfl rfl (dO l rfl rfl (dO l rfl rfl (dO l rfl rfl ?_))))))
  refine dO l rfl rfl (dO l rfl rfl (dO l rfl rfl (dZ rfl (.n w rfl) l rfl (dZ rfl (.f rfl) w rfl (dV rfl rfl (dP rfl (.n rfl rfl) Cy i38 rfl ?_))))))
  refine dL 0 rfl (.n rfl rfl) Zs rfl (dN a.N (cI .i64) rfl (.n rfl rfl) Zs rfl (dI rfl (.n rfl rfl) rfl (dZ rfl (.f rfl) rfl rfl (dF [0,1,3,7,15,31,15,79,207,511,1023,2047,4095,8191,16383,32767,65535,32767,163839,524287,1048575,2097151,32767,4227071,16777215,33554431,67108863,134217727,268435455,536870911,1073741823,2147483647,4294967295] Q0 rfl (by kernel_rfl) (fun u hu => (tN (Qg hu ?_)))))))
  rcases Qd h with ⟨ac, h⟩ | ⟨ac, h⟩
  refine Qp rfl ac ?_
  refine Qg ?_ (U8 K h)
  exact tq rfl rfl
  refine Qo rfl ac ?_
  refine Qg ?_ (Ek K (Yl K k) ih b a.P x0 (x0.P.length : Int) (decide (a.P ≥ (x0.P.length : Int))) b (decide (b > (0:Int))) (decide (b > (0:Int))) false a.N (a.N.length : Int) ((a.N.length : Int) == (0:Int)) x1 a.P a.N m p g h)
  exact tr rfl (.c (.s .z) (.c (.s .z) (.c .z (.n _))))
  refine Qo rfl aa (T.exit (Ql (Ql (Qu (tN (sR (Qs (aw rfl (nL (tN (T.ret (fd rfl (by cases h; exact ⟨rfl, rfl⟩)))))))))))))
theorem El {r : Bool} (K : Nat) (x0 : Qj) (x1 : Qt) (a b : Nat) (h : J3 K x0 x1 = some r) : T tp 112 (ca [1,0,1,1] ff49) ⟨[(2, .ptr a 0), (3, .ptr b 0)], [(Qcv a x0.First x0.P), (Qet b x1.Begin x1.L)]⟩ (Ej r) := by
 unfold J3 at h
 refine T.skip (tN (T.seq (sR (Qs (aw rfl (nL (tN (T.block (T.loop ?_)))))))))
 refine Qe ?_ (Qb9 K K (0:Int) x0 x1 a b h)
 exact tq rfl rfl
theorem O5 (K : Nat) {x0 : Qj} {x1 : Qt} {r : Bool} (h : Wi K x0 x1 = some r) : Zm tp 49 [.agg [.sl false 1 (mI x0.First), .sl false 9 (x0.P.map Qv)], .agg [.bool x1.Begin, .sl false 2 (x1.L.map Za)]] [] (.bool r) := by
 refine CI 112 fu49 rfl ?_
 unfold Wi at h
 refine sR (Qs (sp rfl (Q9 rfl (dk rfl) rfl (fun g => (sp rfl (Q9 rfl (dk rfl) rfl (fun j => (aw rfl (nL (tN (T.seq (sR (Qs ?_)))))))))))))
 refine oA 1 [.sl false 1 (mI x0.First), .sl false 9 (x0.P.map Qv)] F7 i43 rfl ?_
 obtain ⟨p, m, h⟩ := bind_some h
 refine oH fu44 (Zm.nil (Pa K m)) rfl (oT rfl (mw rfl ?_))
 rcases Qd h with ⟨a, h⟩ | ⟨a, h⟩
 refine pf rfl a (pf rfl a (pf rfl a (Qe2 (.gone _ _ _ rfl rfl rfl) (dk rfl) (Qe2 (.gone _ _ _ rfl rfl rfl) (dk rfl) (Qe2 (.gone _ _ _ rfl rfl rfl) (dk rfl) (Qe2 (.gone _ _ _ rfl rfl rfl) (dk rfl) ?_))))))
 refine pf rfl a (oY a rfl (nL (tN (Qp rfl rfl ?_))))
 refine Qg ?_ (Em K h)
 exact tq rfl rfl
 refine sn rfl a (Vf rfl (dk rfl) Qa4 rfl i4 (by decide) rfl (sn rfl a (Yb (i := 0) rfl (dk rfl) ul4 rfl rfl rfl rfl (sn rfl a (OpT.move rfl (dk rfl) rfl ?_)))))
 rcases Qd h with ⟨b, h⟩ | ⟨b, h⟩
 refine sn rfl b (Vf rfl (dk rfl) Qa4 rfl i45 (by decide) rfl (sn rfl b (Yb (i := 0) rfl (dk rfl) Qc0 rfl rfl rfl rfl (sn rfl b (Yz (xs := x1.L) (f := Za) rfl (dk rfl) Qc0 rfl (sn rfl b (Z1 rfl rfl (dk rfl) rfl rfl (sn rfl a (Qd6 rfl (dk rfl) rfl b rfl (oZ a rfl (nL (tN ?_))))))))))))
 rcases Qd h with ⟨d, h⟩ | ⟨d, h⟩
 refine Qp rfl d ?_
 refine Qg ?_ (Em K h)
 exact tq rfl rfl
 refine Qo rfl d ?_
 refine Qg ?_ (El K x0 x1 g j h)
 exact tr rfl (.c (.s .z) (.c .z (.n _)))
 refine pf rfl b (pf rfl b (pf rfl b (pf rfl b (sn rfl a (Qd7 rfl (dk rfl) rfl b rfl (oZ a rfl (nL (tN ?_))))))))
 refine Qo rfl rfl ?_
 refine Qg ?_ (El K x0 x1 g j h)
 exact tr rfl (.c (.s .z) (.c .z (.n _)))
abbrev raddleref10_ripe_q (r : Bool) : ES := Jq tp ff87 (fun y t => y = (.bool r) ∧ t = [])
theorem Rn (K : Nat) {x0 : Qj} {x1 : Zg} {r : Bool} (h : Hb K x0 x1 = some r) : Zm tp 87 [.agg [.sl false 1 (mI x0.First), .sl false 9 (x0.P.map Qv)], .agg [.int .i64 x1.P, .sl false 1 (mI x1.N)]] [] (.bool r) := by
 refine CI 21 fu87 rfl ?_
 unfold Hb at h
 refine sR (Qs (sp rfl (Q9 rfl (dk rfl) rfl (fun j => (sp rfl (Q9 rfl (dk rfl) rfl (fun b => (aw rfl (nL (tN (T.seq (Z7 ?_))))))))))))
 refine dP rfl (.f rfl) Cy i38 rfl (dL 0 rfl (.f rfl) Zs rfl (dP rfl (.f rfl) Cy i38 rfl (dL 0 rfl (.f rfl) Zs rfl (dN x1.N (cI .i64) rfl (.f rfl) Zs rfl (dI rfl (.f rfl) rfl ?_)))))
 obtain ⟨g, l, h⟩ := bind_some h
 refine dX x1.N (cI .i64) rfl (.f rfl) Zs i3 l rfl (dR rfl (.f rfl) ul3 rfl (dP rfl (.f rfl) F7 i41 rfl (dL 1 rfl (.f rfl) Ci rfl (dP rfl (.f rfl) Cy i3 rfl (dL 0 rfl (.f rfl) ul3 rfl ?_)))))
 obtain ⟨a, m, h⟩ := bind_some h
 refine dX x0.P Qv rfl (.f rfl) Ci i65 m rfl (dQ rfl (.f rfl) Qbf i3 rfl (dR rfl (.f rfl) ul3 rfl (dI rfl (.f rfl) rfl (dA rfl (.f rfl) rfl (dF [0,1,0,4,12,28,63,127,0,256,0,1024,3840,7936,16128,32767,65535] Q0 rfl (by kernel_rfl) (fun u hu => (tN (Qg hu (T.ret ?_)))))))))
 exact fd rfl (by cases h; exact ⟨rfl, rfl⟩)
abbrev Qje (r : Bool) : ES := Jq tp ff116 (fun y t => y = (.bool r) ∧ t = [])
abbrev Qfw (r : Bool) : ES := fT 18 [1,1] ff116 (Qje r)
abbrev Qdm (r : Bool) : ES := Qz 0 ((Qfw r))
theorem Qfx {r : Bool} (K : Nat) : ∀ (k : Nat), ∀ (x0 : List Int) (x1 a : Int) (flx0 : Bool), Wh K k x0 x1 a = some r → TL tp 18 (ca [1,0,1,0,0] ff116) ⟨[(0, .sl flx0 1 (mI x0)), (1, .int .i64 x1), (5, .int .i64 a)], []⟩ (Qdm r) := by
 intro k
 induction k with
 | zero =>
  intro x0 x1 a flx0 h
  exact zn h
 | succ k ih =>
  intro x0 x1 a flx0 h
  rw [Wh] at h
  refine Q7 (T.seq (sR (Qs (mw rfl (mw rfl (oU x0 (cI .i64) Zs rfl (oI rfl ?_)))))))
  refine nL (tN ?_)
  rcases Qd h with ⟨b, h⟩ | ⟨b, h⟩
  refine Qp rfl b (T.skip (tN (T.seq (T.block (sR (Qs (mw rfl (mw rfl ?_))))))))
  obtain ⟨d, g, h⟩ := bind_some h
  refine oX x0 (cI .i64) Zs i3 g rfl (oR ul3 rfl (mw rfl (oI rfl (nL (tN ?_)))))
  rcases Qd h with ⟨c, h⟩ | ⟨c, h⟩
  refine Qp rfl c (sR (Qs (aw rfl (nL (tN (T.ret (Q1 (Qr (Qr (Q1 (Qr (fd rfl (by cases h; exact ⟨rfl, rfl⟩)))))))))))))
  refine Qo rfl c (T.skip (Qk (tN (Qs (mw rfl (oI rfl (aw rfl (nL (tN ?_)))))))))
  refine Qe ?_ (ih x0 x1 (wI (a + (1:Int))) flx0 h)
  exact tq rfl rfl
  refine Qo rfl b (T.exit (Ql (Ql (Qu (tN (sR (Qs (aw rfl (nL (tN (T.ret (fd rfl (by cases h; exact ⟨rfl, rfl⟩)))))))))))))
theorem Qbb (K : Nat) {x0 : List Int} {x1 : Int} {flx0 r : Bool} (h : Kc K x0 x1 = some r) : Zm tp 116 [.sl flx0 1 (mI x0), .int .i64 x1] [] (.bool r) := by
 refine CI 18 fu116 rfl ?_
 unfold Kc at h
 refine sR (Qs (aw rfl (nL (tN (T.seq (sR (Qs (aw rfl (nL (tN ?_))))))))))
 refine T.block (T.loop ?_)
 refine Qe ?_ (Qfx K K x0 x1 (0:Int) flx0 h)
 exact tq rfl rfl
abbrev Qem (r : Bool) : ES := Jq tp ff85 (fun y t => y = (.bool r) ∧ t = [])
abbrev Tf (r : Bool) : ES := fT 43 [1,1,1] ff85 (Qem r)
abbrev P6 (r : Bool) : ES := Qz 0 ((Tf r))
theorem Qai {r : Bool} (K : Nat) : ∀ (k : Nat), ∀ (x2 q : Int) (x0 : Qj) (x1 : Qt) (m j : Nat), Xj K k x2 q x0 x1 = some r → TL tp 43 (ca [1,1,0,1,0,0] ff85) ⟨[(2, .int .i64 x2), (3, .ptr m 0), (4, .ptr j 0), (7, .int .i64 q)], [(Qcv m x0.First x0.P), (Qet j x1.Begin x1.L)]⟩ (P6 r) := by
 intro k
 induction k with
 | zero =>
  intro x2 q x0 x1 m j h
  exact zn h
 | succ k ih =>
  intro x2 q x0 x1 m j h
  rw [Xj] at h
  refine Q7 (T.seq (sR (Qs (mw rfl (oP Qa4 i45 rfl (oL 1 Qc0 rfl (oU x1.L Za Qc0 rfl ?_)))))))
  refine oI rfl (nL (tN ?_))
  rcases Qd h with ⟨w, h⟩ | ⟨w, h⟩
  refine Qp rfl w (T.skip (tN (T.seq (T.block (T.seq (Z7 (dW 0 [.sl false 1 (mI x0.First), .sl false 9 (x0.P.map Qv)] rfl (.f rfl) F7 i43 rfl ?_)))))))
  refine dP rfl (.f rfl) Qa4 i45 rfl (dL 1 rfl (.f rfl) Qc0 rfl (dV rfl rfl ?_))
  obtain ⟨g, aa, h⟩ := bind_some h
  refine dX x1.L Za rfl (.f rfl) Qc0 i105 aa rfl (dJ rfl (.f rfl) Cy i105 rfl ?_)
  obtain ⟨p, ab, h⟩ := bind_some h
  refine dH fu87 (Zm.nil (Rn K ab)) rfl (.f rfl) rfl (dV rfl rfl ?_)
  rcases Qd h with ⟨b, h⟩ | ⟨b, h⟩
  refine dP rfl (.n b rfl) F7 i41 rfl (dL 0 rfl (.n b rfl) Ci rfl (dP rfl (.n b rfl) Qa4 i45 rfl (dL 1 rfl (.n b rfl) Qc0 rfl (dM rfl (.n b rfl) rfl (dX x1.L Za rfl (.n b rfl) Qc0 i105 aa rfl (dQ rfl (.n b rfl) Cy i3 rfl ?_))))))
  refine dR rfl (.n b rfl) ul3 rfl ?_
  obtain ⟨a, ac, h⟩ := bind_some h
  refine dX x0.P Qv rfl (.n b rfl) Ci i65 ac rfl (dQ rfl (.n b rfl) Qbf i38 rfl (dR rfl (.n b rfl) Zs rfl (dM rfl (.n b rfl) rfl ?_)))
  obtain ⟨s, ad, h⟩ := bind_some h
  refine dH fu116 (Zm.nil (Qbb K (flx0 := false) ad)) rfl (.n b rfl) rfl (dY rfl (.f rfl) b rfl (dF [0,0,2,0,14,30,63,127,255,511,255,1279,255,7423,15615,31999,65535,131071,262143,255,1048575,2097151] Q0 rfl (by kernel_rfl) (fun u hu => (tN (Qg hu ?_)))))
  rcases Qd h with ⟨y, h⟩ | ⟨y, h⟩
  refine Qp rfl y (sR (Qs (aw rfl (nL (tN (T.ret (Q1 (Qr (Qr (Q1 (Qr (fd rfl (by cases h; exact ⟨rfl, rfl⟩)))))))))))))
  refine Qo rfl y (T.skip (Qk (tN (Qs (mw rfl (oI rfl (aw rfl (nL (tN ?_)))))))))
  refine Qe ?_ (ih x2 (wI (q + (1:Int))) x0 x1 m j h)
  exact tq rfl rfl
  refine dO b rfl rfl (dO b rfl rfl (dO b rfl rfl (dO b rfl rfl (dO b rfl rfl (dO b rfl rfl (dO b rfl rfl ?_))))))
  refine dO b rfl rfl (dO b rfl rfl (dO b rfl rfl (dO b rfl rfl (dO b rfl rfl (dO b rfl rfl (dZ rfl (.f rfl) b rfl ?_))))))
  refine dF [0,0,2,0,14,30,63,127,255,511,255,1279,255,7423,15615,31999,65535,131071,262143,255,1048575,2097151] Q0 rfl (by kernel_rfl) (fun u hu => (tN (Qg hu (Qo rfl rfl (T.skip (Qk (tN (Qs (mw rfl (oI rfl (aw rfl ?_)))))))))))
  refine nL (tN ?_)
  refine Qe ?_ (ih x2 (wI (q + (1:Int))) x0 x1 m j h)
  exact tq rfl rfl
  refine Qo rfl w (T.exit (Ql (Ql (Qu (tN (sR (Qs (aw rfl (nL (tN (T.ret (fd rfl (by cases h; exact ⟨rfl, rfl⟩)))))))))))))
theorem Qen (K : Nat) {x0 : Qj} {x1 : Qt} {x2 : Int} {r : Bool} (h : Hj K x0 x1 x2 = some r) : Zm tp 85 [.agg [.sl false 1 (mI x0.First), .sl false 9 (x0.P.map Qv)], .agg [.bool x1.Begin, .sl false 2 (x1.L.map Za)], .int .i64 x2] [] (.bool r) := by
 refine CI 43 fu85 rfl ?_
 unfold Hj at h
 refine sR (Qs (sp rfl (Q9 rfl (dk rfl) rfl (fun b => (sp rfl (Q9 rfl (dk rfl) rfl (fun d => (aw rfl (nL (tN (T.seq (sR (Qs ?_)))))))))))))
 refine oP Qa4 i4 rfl (oL 0 ul4 rfl (nL (tN ?_)))
 rcases Qd h with ⟨a, h⟩ | ⟨a, h⟩
 refine Qp rfl a (sR (Qs (oP F7 i38 rfl (oL 1 Zs rfl (mw rfl ?_)))))
 obtain ⟨g, f, h⟩ := bind_some h
 refine oH fu116 (Zm.nil (Qbb K (flx0 := false) f)) rfl (aw rfl (nL (tN (T.ret (Qr (fd rfl (by cases h; exact ⟨rfl, rfl⟩)))))))
 refine Qo rfl a (T.skip (tN (T.seq (sR (Qs (aw rfl (nL (tN (T.block ?_)))))))))
 refine T.loop ?_
 refine Qe ?_ (Qai K K x2 (0:Int) x0 x1 b d h)
 exact tr rfl (.c (.s .z) (.c .z (.n _)))
abbrev Qfu (r : List Int) : ES := Jq tp ff86 (fun y t => y = (.sl false 1 (mI r)) ∧ t = [])
abbrev Qah (r : List Int) : ES := fT 66 [1,1,1] ff86 (Qfu r)
abbrev Bi (r : List Int) : ES := Qz 0 ((Qah r))
abbrev R4 (r : List Int) : ES := fL 66 [1,1,0,1,0,0] ff86 (Bi r)
abbrev Nk (r : List Int) : ES := fT 66 [1,1,0,1,0,0,1,1] ff86 (R4 r)
abbrev D0 (r : List Int) : ES := Qz 1 ((Nk r))
abbrev C4 (r : List Int) : ES := Qz 2 ((D0 r))
abbrev Ei (r : List Int) (go : Int → Int → Qj → Qt → (List Int) → Option (List Int)) : Prop := ∀ (x2 a : Int) (x0 : Qj) (x1 : Qt) (b : List Int) (f g : Nat) (i : Value), go x2 a x0 x1 b = some r → TL tp 66 (ca [1,1,0,1,0,0] ff86) ⟨[(2, .int .i64 x2), (3, .ptr f 0), (4, .ptr g 0), (7, .c (.ex i)), (8, .int .i64 a)], [(Qcv f x0.First x0.P), (Qet g x1.Begin x1.L), .arrA i 3 1 (mI b)]⟩ (Bi r)
theorem Qb5 {r : List Int} (K : Nat) (go0 : Int → Int → Qj → Qt → (List Int) → Option (List Int)) (hgo0 : Ei r go0) : ∀ (k : Nat), ∀ (x2 m q : Int) (x0 : Qj) (x1 : Qt) (p : List Int) (g j : Nat) (s : Value), Xr K go0 k x2 m q x0 x1 p = some r → TL tp 66 (ca [1,1,0,1,0,0,1,0,0,1,1,0,0] ff86) ⟨[(2, .int .i64 x2), (3, .ptr g 0), (4, .ptr j 0), (7, .c (.ex s)), (8, .int .i64 m), (9, .int .i64 q)], [(Qcv g x0.First x0.P), (Qet j x1.Begin x1.L), .arrA s 3 1 (mI p)]⟩ (C4 r) := by
 intro k
 induction k with
 | zero =>
  intro x2 m q x0 x1 p g j s h
  exact zn h
 | succ k ih =>
  intro x2 m q x0 x1 p g j s h
  rw [Xr] at h
  refine Q7 (T.seq (sR (Qs (mw rfl (oP Qa4 i45 rfl (oL 1 Qc0 rfl (mw rfl ?_)))))))
  obtain ⟨b, w, h⟩ := bind_some h
  refine oX x1.L Za Qc0 i105 w rfl (sp rfl (Xy rfl (dk rfl) Cy rfl i38 (by decide) rfl (oR Zs rfl (oU b.N (cI .i64) Zs rfl (oI rfl (nL (tN ?_)))))))
  rcases Qd h with ⟨y, h⟩ | ⟨y, h⟩
  refine Qp rfl y (T.skip (tN (T.seq (T.block (T.seq (Z7 (dP rfl (.f rfl) Qa4 i45 rfl ?_)))))))
  refine dL 1 rfl (.f rfl) Qc0 rfl (dV rfl rfl (dX x1.L Za rfl (.f rfl) Qc0 i105 w rfl (dQ rfl (.f rfl) Cy i38 rfl (dR rfl (.f rfl) Zs rfl (dV rfl rfl ?_)))))
  obtain ⟨l, ab, h⟩ := bind_some h
  refine dX b.N (cI .i64) rfl (.f rfl) Zs i3 ab rfl (dR rfl (.f rfl) ul3 rfl (dP rfl (.f rfl) F7 i41 rfl (dL 0 rfl (.f rfl) Ci rfl (dV rfl rfl ?_))))
  obtain ⟨a, ac, h⟩ := bind_some h
  refine dX x0.P Qv rfl (.f rfl) Ci i65 ac rfl (dQ rfl (.f rfl) Qbf i3 rfl (dR rfl (.f rfl) ul3 rfl (dI rfl (.f rfl) rfl (dF [0,1,0,7,15,31,0,127,255,0,512,0,3584,7680,15872,32767] Q0 rfl (by kernel_rfl) (fun u hu => (tN (Qg hu ?_)))))))
  rcases Qd h with ⟨aa, h⟩ | ⟨aa, h⟩
  refine Qp rfl aa (Qs (mw rfl (oP Qa4 i45 rfl (oL 1 Qc0 rfl (mw rfl (oX x1.L Za Qc0 i105 w rfl ?_))))))
  refine sp rfl (Xy rfl (dk rfl) Cy rfl i38 (by decide) rfl (oR Zs rfl (mw rfl (oX b.N (cI .i64) Zs i3 ab rfl (oR ul3 rfl (oI rfl (sp rfl (OpT.buildSlice (elems := ([(wI (l + (1:Int)))] : List Int).map (cI .i64)) rfl (dk rfl) Zs i3 (by decide) rfl (H4 rfl) rfl rfl rfl (X2 rfl) (by decide) ?_))))))))
  obtain ⟨ad, h⟩ := Zb h
  refine sp rfl (Zk (i := 2) (xs := p) (ys := [(wI (l + (1:Int)))]) (f := (cI .i64)) rfl (dk rfl) Zs i3 rfl rfl rfl rfl ad (fun af => (aw rfl (nL (Qk (tN (Qs (mw rfl (oI rfl (aw rfl ?_))))))))))
  refine nL (tN ?_)
  refine Qe ?_ (ih x2 m (wI (q + (1:Int))) x0 x1 (p ++ [(wI (l + (1:Int)))]) g j af h)
  exact tq rfl rfl
  refine Qo rfl aa (T.skip (Qk (tN (Qs (mw rfl (oI rfl (aw rfl (nL (tN ?_)))))))))
  refine Qe ?_ (ih x2 m (wI (q + (1:Int))) x0 x1 p g j s h)
  exact tq rfl rfl
  refine Qo rfl y (T.exit (Ql (Ql (Qu (Qk (tN (Qs (mw rfl (oI rfl (aw rfl (nL (tN ?_))))))))))))
  refine Qe ?_ (hgo0 x2 (wI (m + (1:Int))) x0 x1 p g j s h)
  exact tq rfl rfl
theorem Qb6 {r : List Int} (K : Nat) : ∀ (k : Nat), Ei r (Yw K k) := by
 intro k
 induction k with
 | zero =>
  intro x2 a x0 x1 b d g j h
  exact zn h
 | succ k ih =>
  intro x2 a x0 x1 b d g j h
  rw [Yw] at h
  refine Q7 (T.seq (sR (Qs (mw rfl (oP Qa4 i45 rfl (oL 1 Qc0 rfl (oU x1.L Za Qc0 rfl ?_)))))))
  refine oI rfl (nL (tN ?_))
  rcases Qd h with ⟨l, h⟩ | ⟨l, h⟩
  refine Qp rfl l (T.skip (tN (T.seq (T.block (T.seq (sR (Qs (oP Qa4 i45 rfl ?_))))))))
  refine oL 1 Qc0 rfl (mw rfl ?_)
  obtain ⟨p, q, h⟩ := bind_some h
  refine oX x1.L Za Qc0 i105 q rfl (sp rfl (Xy rfl (dk rfl) Cy rfl i3 (by decide) rfl (oR ul3 rfl (mw rfl (oI rfl (nL (tN ?_)))))))
  rcases Qd h with ⟨m, h⟩ | ⟨m, h⟩
  refine Qp rfl m (T.exit (Ql (Qu (tN (Qs (mw rfl (oI rfl (aw rfl (nL (tN ?_))))))))))
  refine Qe ?_ (ih x2 (wI (a + (1:Int))) x0 x1 b d g j h)
  exact tq rfl rfl
  refine Qo rfl m (T.skip (tN (sR (Qs (aw rfl (nL (tN (T.block (T.loop ?_)))))))))
  refine Qe ?_ (Qb5 K (Yw K k) ih K x2 a (0:Int) x0 x1 b d g j h)
  exact tq rfl rfl
  refine Qo rfl l (T.exit (Ql (Ql (Qu (tN (sR (Qs (mw rfl (aw rfl (nL (tN (T.ret ?_))))))))))))
  refine Xl (Z3.view 6 2 rfl rfl) (fd rfl (by cases h; exact ⟨rfl, rfl⟩))
theorem Qfv (K : Nat) {x0 : Qj} {x1 : Qt} {x2 : Int} {r : List Int} (h : Ml K x0 x1 x2 = some r) : Zm tp 86 [.agg [.sl false 1 (mI x0.First), .sl false 9 (x0.P.map Qv)], .agg [.bool x1.Begin, .sl false 2 (x1.L.map Za)], .int .i64 x2] [] (.sl false 1 (mI r)) := by
 refine CI 66 fu86 rfl ?_
 unfold Ml at h
 refine sR (Qs (sp rfl (Q9 rfl (dk rfl) rfl (fun a => (sp rfl (Q9 rfl (dk rfl) rfl (fun b => (aw rfl (nL (tN (sR (Qs (aw rfl (nL (tN ?_)))))))))))))))
 refine T.seq (sR (Qs (aw rfl (nL (tN (T.block (T.loop (Qe (Y0 3 1) ?_))))))))
 refine Qe ?_ (Qb6 K K x2 (0:Int) x0 x1 [] a b (Qc1 2) h)
 exact tr rfl (.c (.s (.s .z)) (.c (.s .z) (.c .z (.n _))))
abbrev Qg2 (r : Qt) : ES := Jq tp ff50 (fun y t => y = (.agg [.bool r.Begin, .sl false 2 (r.L.map Za)]) ∧ t = [])
abbrev Qb4 (r : Qt) : ES := fT 52 [1,1,1] ff50 (Qg2 r)
abbrev Cn (r : Qt) : ES := Qz 0 ((Qb4 r))
abbrev Td (r : Qt) : ES := fL 52 [1,1,0,1,0,0] ff50 (Cn r)
abbrev O2 (r : Qt) : ES := fT 52 [1,1,0,1,0,0,1,1] ff50 (Td r)
abbrev E0 (r : Qt) : ES := Qz 1 ((O2 r))
abbrev Ft (r : Qt) (go : Int → Int → Qj → Qt → (List Zg) → Option Qt) : Prop := ∀ (x2 a : Int) (x0 : Qj) (x1 : Qt) (b : List Zg) (c f : Nat) (g i : Nat) (j : Value), go x2 a x0 x1 b = some r → TL tp 52 (ca [1,1,0,1,0,0] ff50) ⟨[(2, .int .u8 x2), (3, .ptr c 0), (4, .ptr f 0), (6, .ptr g 0), (7, .ptr i 0), (8, .int .i64 a)], [(Qcv c x0.First x0.P), (Qet f x1.Begin x1.L), (b47x19 g false (.slice none 0 0)), (b47x19 i false j), .arrA j 105 2 (b.map Za)]⟩ (Cn r)
theorem Fu {r : Qt} (K : Nat) (go0 : Int → Int → Qj → Qt → (List Zg) → Option Qt) (hgo0 : Ft r go0) (x2 a : Int) (x0 : Qj) (x1 : Qt) (j : List Zg) (b : List Int) (m p : Nat) (q s : Nat) (u w : Value) (h : Ud K go0 x2 a x0 x1 j b = some r) : T tp 52 (ca [1,1,0,1,0,0,1,0,0,1,1,1] ff50) ⟨[(2, .int .u8 x2), (3, .ptr m 0), (4, .ptr p 0), (6, .ptr q 0), (7, .ptr s 0), (8, .int .i64 a), (9, .c (.ex w))], [(Qcv m x0.First x0.P), (Qet p x1.Begin x1.L), (b47x19 q false (.slice none 0 0)), (b47x19 s false u), .arrA u 105 2 (j.map Za), .arrA w 3 1 (mI b)]⟩ (E0 r) := by
 unfold Ud at h
 refine sR (Qs (mw rfl (oA 0 [.sl false 1 (mI x0.First), .sl false 9 (x0.P.map Qv)] F7 i43 rfl (oA 1 [.bool x1.Begin, .sl false 2 (x1.L.map Za)] Qa4 i47 rfl (mw rfl ?_)))))
 obtain ⟨g, ab, h⟩ := bind_some h
 refine oH fu86 (Zm.nil (Qfv K ab)) rfl ?_
 obtain ⟨ac, h⟩ := Zb h
 refine sp rfl (Zk (i := 5) (xs := b) (ys := g) (f := (cI .i64)) rfl (dk rfl) Zs i3 rfl rfl rfl rfl ac (fun y => (aw rfl (nL (tN (sR (Qs (mw rfl (sp rfl (Ho (i := 5) (xs := (b ++ g)) (f := (cI .i64)) rfl (dk rfl) Zs rfl rfl (oI rfl (nL (tN ?_)))))))))))))
 rcases Qd h with ⟨v, h⟩ | ⟨v, h⟩
 refine Qp rfl v (Qs (oP Qa4 i45 rfl (oL 3 Qc0 rfl (mw rfl (mw rfl (sp rfl (Zq (OpT.build (l := [.int .i64 a, .ex y]) rfl (dk rfl) (Zr (pl := [(0, 1), (1, 1)]) Cy i105 rfl) (H4 rfl) rfl rfl rfl) (Ya 47 (l := [.int .i64 a, .ex y]) (l' := [.int .i64 a, .sl false 1 ((b ++ g).map (cI .i64))]) (.cons (.same _) (.cons (.view 5 rfl) (.refl _)))) ?_)))))))
 refine sp rfl (OpT.buildSlice (elems := ([(Zg.mk a (b ++ g))] : List Zg).map Za) rfl (dk rfl) Qc0 i105 (by decide) rfl (H4 rfl) rfl rfl rfl (X2 rfl) (by decide) ?_)
 obtain ⟨ad, h⟩ := Zb h
 refine sp rfl (Zk (i := 4) (xs := j) (ys := [(Zg.mk a (b ++ g))]) (f := Za) rfl (dk rfl) Qc0 i105 rfl rfl rfl rfl ad (fun aa => (oP Qa4 i45 rfl (sp rfl (Jh (i := 3) (cells' := [.d (.bool false), .d (.ex aa)]) rfl rfl i45 rfl rfl rfl (nb rfl) rfl (nL (Qk (tN (Qs (mw rfl (oI rfl ?_)))))))))))
 refine aw rfl (nL (tN ?_))
 refine Qe ?_ (hgo0 x2 (wI (a + (1:Int))) x0 x1 (j ++ [(Zg.mk a (b ++ g))]) m p q s aa h)
 exact tq rfl rfl
 refine Qo rfl v (T.skip (Qk (tN (Qs (mw rfl (oI rfl (aw rfl (nL (tN ?_)))))))))
 refine Qe ?_ (hgo0 x2 (wI (a + (1:Int))) x0 x1 j m p q s u h)
 exact tq rfl rfl
theorem Qdk {r : Qt} (K : Nat) : ∀ (k : Nat), Ft r (Ye K k) := by
 intro k
 induction k with
 | zero =>
  intro x2 g x0 x1 a j m p q b h
  exact zn h
 | succ k ih =>
  intro x2 g x0 x1 a j m p q b h
  rw [Ye] at h
  refine Q7 (T.seq (sR (Qs (mw rfl (oP F7 i41 rfl (oL 0 Ci rfl (oU x0.P Qv Ci rfl ?_)))))))
  refine oI rfl (nL (tN ?_))
  rcases Qd h with ⟨u, h⟩ | ⟨u, h⟩
  refine Qp rfl u (T.skip (tN (T.seq (T.block (T.seq (sR (Qs (oP F7 i41 rfl ?_))))))))
  refine oL 0 Ci rfl (mw rfl ?_)
  obtain ⟨aa, ab, h⟩ := bind_some h
  refine oX x0.P Qv Ci i65 ab rfl (sp rfl (Xy rfl (dk rfl) Qbf rfl i63 (by decide) rfl (oJ Qit i63 rfl (mw rfl ?_))))
  obtain ⟨ai, ac, h⟩ := bind_some h
  refine oH fu81 (Zm.nil (Wl K ac)) rfl (oT rfl (nL (tN ?_)))
  rcases Qd h with ⟨w, h⟩ | ⟨w, h⟩
  refine Qp rfl w (T.exit (Ql (Qu (tN (Qs (mw rfl (oI rfl (aw rfl (nL (tN ?_))))))))))
  refine Qe ?_ (ih x2 (wI (g + (1:Int))) x0 x1 a j m p q b h)
  exact tq rfl rfl
  refine Qo rfl w (T.skip (tN (sR (Qs (aw rfl (nL (tN (T.seq (sR (Qs ?_))))))))))
  refine oA 0 [.sl false 1 (mI x0.First), .sl false 9 (x0.P.map Qv)] F7 i43 rfl (oA 1 [.bool x1.Begin, .sl false 2 (x1.L.map Za)] Qa4 i47 rfl (mw rfl ?_))
  obtain ⟨aj, ad, h⟩ := bind_some h
  refine oH fu85 (Zm.nil (Qen K ad)) rfl (nL (tN ?_))
  rcases Qd h with ⟨y, h⟩ | ⟨y, h⟩
  refine Qp rfl y (Qs (mw rfl (sp rfl (OpT.buildSlice (elems := ([(1:Int)] : List Int).map (cI .i64)) rfl (dk rfl) Zs i3 (by decide) rfl (H4 rfl) rfl rfl rfl (X2 rfl) (by decide) (Wy (Fc 31 true 1 rfl) ?_)))))
  obtain ⟨af, h⟩ := Zb h
  refine sp rfl (Fg (xs := ([] : List Int)) (ys := [(1:Int)]) (f := (cI .i64)) rfl (dk rfl) Zs i3 rfl rfl rfl (.inr rfl) af (fun ag => (aw rfl (nL (tN ?_)))))
  refine Qg ?_ (Fu K (Ye K k) ih x2 g x0 x1 a (([] : List Int) ++ [(1:Int)]) j m p q b ag h)
  exact tr rfl (.c (.s .z) (.c (.s .z) (.c (.s .z) (.c (.s .z) (.c (.s .z) (.c .z (.n _)))))))
  refine Qo rfl y (T.skip (tN (Qg (Y0 3 1) ?_)))
  refine Qg ?_ (Fu K (Ye K k) ih x2 g x0 x1 a [] j m p q b (Qc1 4) h)
  exact tr rfl (.c (.s .z) (.c (.s .z) (.c (.s .z) (.c (.s .z) (.c (.s .z) (.c .z (.n _)))))))
  refine Qo rfl u (T.exit (Ql (Ql (Qu (tN (sR (Qs (sp rfl (Zq (F5 (i := 3) (l := [.bool false, .ex b]) rfl (dk rfl) Qa4 rfl i47 rfl rfl rfl rfl rfl) (Ya 51 (l := [.bool false, .ex b]) (l' := [.bool false, .sl false 2 (a.map Za)]) (.cons (.same _) (.cons (.view 4 rfl) (.refl _)))) (sp rfl (Qy (i := 2) (cells' := [.d (.bool false), .d (.sl false 2 (a.map Za))]) rfl rfl i47 rfl rfl rfl rfl (nb rfl) rfl (nL (tN (T.ret ?_))))))))))))))
  exact Fin.done (.cons _ _ _ _ (.cellAgg 6 47 _ 0 2 47 _ [.bool false, .sl false 2 (a.map Za)] _ _ 2 _ rfl rfl rfl rfl Qa4 rfl i47) .nil) (by cases h; exact ⟨rfl, rfl⟩)
theorem Qg3 (K : Nat) {x0 : Qj} {x1 : Qt} {x2 : Int} {r : Qt} (h : By K x0 x1 x2 = some r) : Zm tp 50 [.agg [.sl false 1 (mI x0.First), .sl false 9 (x0.P.map Qv)], .agg [.bool x1.Begin, .sl false 2 (x1.L.map Za)], .int .u8 x2] [] (.agg [.bool r.Begin, .sl false 2 (r.L.map Za)]) := by
 refine CI 52 fu50 rfl ?_
 unfold By at h
 refine sR (Qs (sp rfl (Q9 rfl (dk rfl) rfl (fun a => (sp rfl (Q9 rfl (dk rfl) rfl (fun b => (sp rfl (Ze rfl (dk rfl) i47 rfl (fun f => (nL (tN (sR (Qs (sp rfl (OpT.build (l := [.bool false, .ex (.slice none 0 0)]) rfl (dk rfl) (Zr (pl := [(0, 1), (1, 1)]) Qa4 i47 rfl) (H4 rfl) rfl rfl (sp rfl (Ze rfl (dk rfl) i47 rfl (fun g => ?_)))))))))))))))))))
 refine sp rfl (Qy (i := 0) (cells' := [.d (.bool false), .d (.ex (.slice none 0 0))]) rfl rfl i47 rfl rfl rfl rfl (nb rfl) rfl (nL (tN (T.seq (sR (Qs (aw rfl (nL (tN (T.block ?_))))))))))
 refine T.loop (Qe (Y0 105 2) ?_)
 refine Qe ?_ (Qdk K K x2 (0:Int) x0 x1 [] a b f g (Qc1 3) h)
 exact tr rfl (.c (.s (.s (.s (.s .z)))) (.c (.s (.s (.s .z))) (.c (.s (.s .z)) (.c (.s .z) (.c .z (.n _))))))
abbrev raddleref10_Step_q (r : Qt) : ES := Jq tp ff22 (fun y t => y = (.agg [.bool r.Begin, .sl false 2 (r.L.map Za)]) ∧ t = [])
theorem Qg6 (K : Nat) {x0 : Qj} {x1 : Qt} {x2 : Int} {r : Qt} (h : L5 K x0 x1 x2 = some r) : Zm tp 22 [.agg [.sl false 1 (mI x0.First), .sl false 9 (x0.P.map Qv)], .agg [.bool x1.Begin, .sl false 2 (x1.L.map Za)], .int .u8 x2] [] (.agg [.bool r.Begin, .sl false 2 (r.L.map Za)]) := by
 refine CI 16 fu22 rfl ?_
 unfold L5 at h
 refine sR (Qs (sp rfl (Q9 rfl (dk rfl) rfl (fun g => (sp rfl (Q9 rfl (dk rfl) rfl (fun j => (sp rfl (Ze rfl (dk rfl) i47 rfl (fun m => (nL (tN (T.seq (sR (Qs ?_)))))))))))))))
 refine oA 2 [.sl false 1 (mI x0.First), .sl false 9 (x0.P.map Qv)] F7 i43 rfl (oA 1 [.bool x1.Begin, .sl false 2 (x1.L.map Za)] Qa4 i47 rfl ?_)
 obtain ⟨n, c, h⟩ := bind_some h
 refine oH fu49 (Zm.nil (O5 K c)) rfl (oT rfl (nL (tN ?_)))
 rcases Qd h with ⟨b, h⟩ | ⟨b, h⟩
 refine Qp rfl b (sR (Qs (sp rfl (OpT.build (l := [.bool false, .ex (.slice none 0 0)]) rfl (dk rfl) (Zr (pl := [(0, 1), (1, 1)]) Qa4 i47 rfl) (H4 rfl) rfl rfl (sp rfl (Qy (i := 0) (cells' := [.d (.bool false), .d (.ex (.slice none 0 0))]) rfl rfl i47 rfl rfl rfl rfl (nb rfl) rfl (nL (tN (T.ret (Qr (Xl (Jp 0 (l := [.bool false, .ex (.slice none 0 0)]) (l' := [.bool false, .sl false 2 (([] : List Zg).map Za)]) rfl (.cons (.same _) (.cons (.nil _ _) (.refl _)))) ?_)))))))))))
 exact Fin.done (.cons _ _ _ _ (.cellAgg 6 47 _ 0 0 47 _ [.bool false, .sl false 2 (([] : List Zg).map Za)] _ _ 2 _ rfl rfl rfl rfl Qa4 rfl i47) .nil) (by cases h; exact ⟨rfl, rfl⟩)
 refine Qo rfl b (T.skip (tN (sR (Qs (oA 2 [.sl false 1 (mI x0.First), .sl false 9 (x0.P.map Qv)] F7 i43 rfl (oA 1 [.bool x1.Begin, .sl false 2 (x1.L.map Za)] Qa4 i47 rfl (mw rfl ?_)))))))
 obtain ⟨a, f, h⟩ := bind_some h
 refine oH fu50 (Zm.nil (Qg3 K f)) rfl (sp rfl (Qy (i := 0) (cells' := [.d (.bool a.Begin), .d (.sl false 2 (a.L.map Za))]) rfl rfl i47 rfl rfl rfl rfl (nb rfl) rfl (nL (tN (T.ret (Fin.done (.cons _ _ _ _ (.cellAgg 6 47 _ 0 0 47 _ [.bool a.Begin, .sl false 2 (a.L.map Za)] _ _ 2 _ rfl rfl rfl rfl Qa4 rfl i47) .nil) (by cases h; exact ⟨rfl, rfl⟩)))))))
abbrev Qg4 (r : Int) : ES := Jq tp ff51 (fun y t => y = (.int .i64 r) ∧ t = [])
abbrev Qb7 (r : Int) : ES := fT 49 [1,1,1] ff51 (Qg4 r)
abbrev Co (r : Int) : ES := Qz 0 ((Qb7 r))
abbrev Te (r : Int) : ES := fL 49 [1,1,0,1,0,0] ff51 (Co r)
abbrev O3 (r : Int) : ES := fT 49 [1,1,0,1,0,0,1,1] ff51 (Te r)
abbrev E1 (r : Int) : ES := Qz 1 ((O3 r))
abbrev Fv (r : Int) (go : Int → Int → Qj → Qt → Option Int) : Prop := ∀ (a b : Int) (x0 : Qj) (x1 : Qt) (c f : Nat), go a b x0 x1 = some r → TL tp 49 (ca [1,1,0,1,0,0] ff51) ⟨[(2, .ptr c 0), (3, .ptr f 0), (5, .int .i64 a), (6, .int .i64 b)], [(Qcv c x0.First x0.P), (Qet f x1.Begin x1.L)]⟩ (Co r)
theorem Fw {r : Int} (K : Nat) (go0 : Int → Int → Qj → Qt → Option Int) (hgo0 : Fv r go0) (f : Int) (x0 : Qj) (x1 : Qt) (l m : Int) (p : List Int) (q : Int) (s : List Int) (u : Bool) (v : Int) (w y aa : Bool) (a : Zy) (ab ac g : Int) (ad : Bool) (af : List Int) (j b ag : Nat) (h : Ws K go0 f x0 x1 l m p q s u v w y aa a ab ac g ad af = some r) : T tp 49 (ca [1,1,0,1,0,0,1,0,0,1,1,0] ff51) ⟨[(2, .ptr j 0), (3, .ptr b 0), (6, .int .i64 f), (7, .ptr ag 0), (28, .agg [.sl false 1 (mI x0.First), .sl false 9 (x0.P.map Qv)]), (29, .ptr b (0 + 1)), (30, .sl false 2 (x1.L.map Za)), (31, .int .i64 l), (32, .ref [.int .i64 m, .sl false 1 (mI p)]), (33, .agg [.int .i64 q, .sl false 1 (mI s)]), (34, .bool u), (37, .int .i64 v), (38, .bool w), (39, .bool y), (44, .bool aa)], [(Qcv j x0.First x0.P), (Qet b x1.Begin x1.L), .box ag 65 [.d (.int .u64 a.a0), .d (.int .u64 a.a1), .d (.int .u64 a.a2), .d (.int .u64 a.a3), .d (.int .i64 ab), .d (.int .i64 ac), .d (.int .i64 g), .d (.bool ad), .d (.sl false 1 (mI af))]]⟩ (E1 r) := by
 unfold Ws at h
 refine Qs (oP Qbf i3 rfl (oL 2 ul3 rfl (aw rfl (nL (Qk (tN (Qs (mw rfl ?_))))))))
 refine oI rfl (aw rfl (nL (tN ?_)))
 refine Qe ?_ (hgo0 g (wI (f + (1:Int))) x0 x1 j b h)
 exact tq rfl rfl
theorem Qdl {r : Int} (K : Nat) : ∀ (k : Nat), Fv r (Yf K k) := by
 intro k
 induction k with
 | zero =>
  intro j q x0 x1 w p h
  exact zn h
 | succ k ih =>
  intro j q x0 x1 w p h
  rw [Yf] at h
  refine Q7 (T.seq (sR (Qs (mw rfl (oP Qa4 i45 rfl (oL 1 Qc0 rfl (oU x1.L Za Qc0 rfl ?_)))))))
  refine oI rfl (nL (tN ?_))
  rcases Qd h with ⟨ad, h⟩ | ⟨ad, h⟩
  refine Qp rfl ad (T.skip (tN (T.seq (T.block (T.seq (Qg Yp (Ja ?_)))))))
  refine gP rfl (fun _ => .f rfl) F7 i41 (fun _ => rfl) (gL 1 rfl (fun _ => .f rfl) Ci (fun _ => rfl) (gP rfl (fun _ => .f rfl) Qa4 i45 (fun _ => rfl) (gL 2 rfl (fun _ => .f rfl) Qc0 (fun _ => rfl) (gM rfl (fun _ => .f rfl) (fun _ => rfl) ?_))))
  obtain ⟨m, ag, h⟩ := bind_some h
  refine gX x1.L Za rfl (fun _ => .f rfl) Qc0 i105 ag (fun _ => rfl) (gQ rfl (fun _ => .f rfl) Cy i3 (fun _ => rfl) (gR rfl (fun _ => .f rfl) ul3 (fun _ => rfl) ?_))
  obtain ⟨a, ai, h⟩ := bind_some h
  refine gX x0.P Qv rfl (fun _ => .f rfl) Ci i65 ai (fun _ => rfl) (gJ rfl (fun _ => .f rfl) Qbf i65 (fun _ => rfl) (DGG.step (c := fun g => ⟨some 7, .ptr ((g 10).2) 0, [], [(0, .ro 0 [])], [(0, .box ((g 10).2) 65 [.d (.int .u64 (Zy.mk 0 0 0 0).a0), .d (.int .u64 (Zy.mk 0 0 0 0).a1), .d (.int .u64 (Zy.mk 0 0 0 0).a2), .d (.int .u64 (Zy.mk 0 0 0 0).a3), .d (.int .i64 (0:Int)), .d (.int .i64 (0:Int)), .d (.int .i64 (0:Int)), .d (.bool false), .d (.ex (.slice none 0 0))])]⟩) [10] (fun g γ' h => by simp only [h 10 (by decide)]) (fun g t hm => oF rfl rfl (Qgp 0 rfl (dk rfl) i65 rfl hm.o0 (fun b => ⟨(fun _ => undef, b), rfl⟩))) (fun g => Zt rfl rfl) (DGG.step (c := fun g => ⟨none, .any, [(7, .ptr ((g 10).2) 0), (24, .agg [.int .u64 a.S.a0, .int .u64 a.S.a1, .int .u64 a.S.a2, .int .u64 a.S.a3, .int .i64 a.Lo, .int .i64 a.Hi, .int .i64 a.Rule, .bool a.Last, .sl false 1 (mI a.Next)])], [(0, .box ((g 10).2) 65 [.d (.int .u64 (Zy.mk 0 0 0 0).a0), .d (.int .u64 (Zy.mk 0 0 0 0).a1), .d (.int .u64 (Zy.mk 0 0 0 0).a2), .d (.int .u64 (Zy.mk 0 0 0 0).a3), .d (.int .i64 (0:Int)), .d (.int .i64 (0:Int)), .d (.int .i64 (0:Int)), .d (.bool false), .d (.ex (.slice none 0 0))])], [(0, .box ((g 10).2) 65 [.d (.int .u64 a.S.a0), .d (.int .u64 a.S.a1), .d (.int .u64 a.S.a2), .d (.int .u64 a.S.a3), .d (.int .i64 a.Lo), .d (.int .i64 a.Hi), .d (.int .i64 a.Rule), .d (.bool a.Last), .d (.sl false 1 (mI a.Next))])]⟩) [10] (fun g γ' h => by simp only [h 10 (by decide)]) (fun g t hm => oF rfl rfl (Qy (i := 0) (cells' := [.d (.int .u64 a.S.a0), .d (.int .u64 a.S.a1), .d (.int .u64 a.S.a2), .d (.int .u64 a.S.a3), .d (.int .i64 a.Lo), .d (.int .i64 a.Hi), .d (.int .i64 a.Rule), .d (.bool a.Last), .d (.sl false 1 (mI a.Next))]) rfl rfl i65 hm.s0 hm.s1 rfl hm.o0 (nb rfl) rfl ⟨u0, rfl⟩)) (fun g => Zt rfl rfl) (gF [0,1,0,4,0,28,60,124,255,511,0,2047] Q0 rfl (by kernel_rfl) (fun _ => by kernel_rfl) (fun g u hu => (tN (Qg hu (T.seq (Z7 ?_)))))))))
  refine dP rfl (.f rfl) Qbf i4 rfl (dL 0 rfl (.f rfl) ul4 rfl (dV rfl rfl ?_))
  rcases Qd h with ⟨y, h⟩ | ⟨y, h⟩
  refine dW 1 [.sl false 1 (mI x0.First), .sl false 9 (x0.P.map Qv)] rfl (.n y rfl) F7 i43 rfl (dP rfl (.n y rfl) Qa4 i45 rfl (dL 2 rfl (.n y rfl) Qc0 rfl (dM rfl (.n y rfl) rfl (dX x1.L Za rfl (.n y rfl) Qc0 i105 ag rfl (dJ rfl (.n y rfl) Cy i105 rfl ?_)))))
  obtain ⟨aa, aj, h⟩ := bind_some h
  refine dH fu87 (Zm.nil (Rn K aj)) rfl (.n y rfl) rfl (dY rfl (.f rfl) y rfl (dV rfl rfl ?_))
  rcases Qd h with ⟨ab, h⟩ | ⟨ab, h⟩
  refine dM rfl (.n ab rfl) rfl (dI rfl (.n ab rfl) rfl (dM rfl (.n ab rfl) rfl ?_))
  rcases Qd h with ⟨ac, h⟩ | ⟨ac, h⟩
  refine dO ac rfl rfl (dO ac rfl rfl (dO ac rfl rfl (dO ac rfl rfl (dY rfl (.n ab rfl) ac rfl (dY rfl (.f rfl) ab rfl (dF [0,1,3,7,7,23,7,119,247,511,1023,2047,4095,8191,16383,32767,65535,32767,262143,524287,1048575] Q0 rfl (by kernel_rfl) (fun u hu => (tN (Qg hu ?_)))))))))
  refine Qp rfl rfl ?_
  refine Qg ?_ (Fw K (Yf K k) ih q x0 x1 q m.P m.N m.P m.N aa j (decide (j < (0:Int))) (decide (j < (0:Int))) true a.S a.Lo a.Hi a.Rule a.Last a.Next w p ((g 10).2) h)
  exact tr rfl (.c (.s .z) (.c (.s .z) (.c .z (.n _))))
  refine dP rfl (.n ac rfl) Qbf i3 rfl (dL 0 rfl (.n ac rfl) ul3 rfl (dM rfl (.n ac rfl) rfl (dI rfl (.n ac rfl) rfl (dZ rfl (.n ab rfl) ac rfl (dY rfl (.f rfl) ab rfl (dF [0,1,3,7,7,23,7,119,247,511,1023,2047,4095,8191,16383,32767,65535,32767,262143,524287,1048575] Q0 rfl (by kernel_rfl) (fun u hu => (tN (Qg hu ?_)))))))))
  rcases Qd h with ⟨af, h⟩ | ⟨af, h⟩
  refine Qp rfl af ?_
  refine Qg ?_ (Fw K (Yf K k) ih q x0 x1 q m.P m.N m.P m.N aa j (decide (j < (0:Int))) (decide (j < (0:Int))) (decide (a.Rule < j)) a.S a.Lo a.Hi a.Rule a.Last a.Next w p ((g 10).2) h)
  exact tr rfl (.c (.s .z) (.c (.s .z) (.c .z (.n _))))
  refine Qo rfl af (T.skip (Qk (tN (Qs (mw rfl (oI rfl (aw rfl (nL (tN ?_)))))))))
  refine Qe ?_ (ih j (wI (q + (1:Int))) x0 x1 w p h)
  exact tr rfl (.c (.s .z) (.c (.s .z) (.n _)))
  refine dO ab rfl rfl (dO ab rfl rfl (dO ab rfl rfl (dG rfl rfl (dG rfl rfl (dG rfl rfl (dG rfl rfl ?_))))))
  refine dO ab rfl rfl (dZ rfl (.f rfl) ab rfl (dF [0,1,3,7,7,23,7,119,247,511,1023,2047,4095,8191,16383,32767,65535,32767,262143,524287,1048575] Q0 rfl (by kernel_rfl) (fun u hu => (tN (Qg hu (Qo rfl rfl (T.skip (Qk (tN (Qs (mw rfl ?_)))))))))))
  refine oI rfl (aw rfl (nL (tN ?_)))
  refine Qe ?_ (ih j (wI (q + (1:Int))) x0 x1 w p h)
  exact tr rfl (.c (.s .z) (.c (.s .z) (.n _)))
  refine dO y rfl rfl (dO y rfl rfl (dO y rfl rfl (dO y rfl rfl (dO y rfl rfl (dO y rfl rfl (dO y rfl rfl ?_))))))
  refine dZ rfl (.f rfl) y rfl (dV rfl rfl (dO rfl rfl rfl (dO rfl rfl rfl (dO rfl rfl rfl (dG rfl rfl (dG rfl rfl ?_))))))
  refine dG rfl rfl (dG rfl rfl (dO rfl rfl rfl (dZ rfl (.f rfl) rfl rfl (dF [0,1,3,7,7,23,7,119,247,511,1023,2047,4095,8191,16383,32767,65535,32767,262143,524287,1048575] Q0 rfl (by kernel_rfl) (fun u hu => (tN (Qg hu (Qo rfl rfl (T.skip (Qk (tN ?_)))))))))))
  refine Qs (mw rfl (oI rfl (aw rfl (nL (tN ?_)))))
  refine Qe ?_ (ih j (wI (q + (1:Int))) x0 x1 w p h)
  exact tr rfl (.c (.s .z) (.c (.s .z) (.n _)))
  refine Qo rfl ad (T.exit (Ql (Ql (Qu (tN (sR (Qs (mw rfl (aw rfl (nL (tN (T.ret ?_))))))))))))
  exact fd rfl (by cases h; exact ⟨rfl, rfl⟩)
theorem Qg5 (K : Nat) {x0 : Qj} {x1 : Qt} {r : Int} (h : Bz K x0 x1 = some r) : Zm tp 51 [.agg [.sl false 1 (mI x0.First), .sl false 9 (x0.P.map Qv)], .agg [.bool x1.Begin, .sl false 2 (x1.L.map Za)]] [] (.int .i64 r) := by
 refine CI 49 fu51 rfl ?_
 unfold Bz at h
 refine sR (Qs (sp rfl (Q9 rfl (dk rfl) rfl (fun a => (sp rfl (Q9 rfl (dk rfl) rfl (fun b => (aw rfl (nL (tN (sR (Qs (aw rfl (nL (tN ?_)))))))))))))))
 refine T.seq (sR (Qs (aw rfl (nL (tN (T.block (T.loop ?_)))))))
 refine Qe ?_ (Qdl K K (-1:Int) (0:Int) x0 x1 a b h)
 exact tr rfl (.c (.s .z) (.c .z (.n _)))
abbrev raddleref10_Rule_q (r : Int) : ES := Jq tp ff23 (fun y t => y = (.int .i64 r) ∧ t = [])
theorem Qg7 (K : Nat) {x0 : Qj} {x1 : Qt} {r : Int} (h : L6 K x0 x1 = some r) : Zm tp 23 [.agg [.sl false 1 (mI x0.First), .sl false 9 (x0.P.map Qv)], .agg [.bool x1.Begin, .sl false 2 (x1.L.map Za)]] [] (.int .i64 r) := by
 refine CI 12 fu23 rfl ?_
 unfold L6 at h
 refine sR (Qs (sp rfl (Q9 rfl (dk rfl) rfl (fun d => (sp rfl (Q9 rfl (dk rfl) rfl (fun f => (aw rfl (nL (tN (T.seq (sR (Qs ?_)))))))))))))
 refine oA 1 [.sl false 1 (mI x0.First), .sl false 9 (x0.P.map Qv)] F7 i43 rfl (oA 0 [.bool x1.Begin, .sl false 2 (x1.L.map Za)] Qa4 i47 rfl ?_)
 obtain ⟨g, b, h⟩ := bind_some h
 refine oH fu49 (Zm.nil (O5 K b)) rfl (oT rfl (nL (tN ?_)))
 rcases Qd h with ⟨a, h⟩ | ⟨a, h⟩
 refine Qp rfl a (sR (Qs (aw rfl (nL (tN (T.ret (Qr (fd rfl (by cases h; exact ⟨rfl, rfl⟩)))))))))
 refine Qo rfl a (T.skip (tN (sR (Qs (oA 1 [.sl false 1 (mI x0.First), .sl false 9 (x0.P.map Qv)] F7 i43 rfl (oA 0 [.bool x1.Begin, .sl false 2 (x1.L.map Za)] Qa4 i47 rfl ?_))))))
 obtain ⟨j, c, h⟩ := bind_some h
 refine oH fu51 (Zm.nil (Qg5 K c)) rfl (aw rfl (nL (tN (T.ret (fd rfl (by cases h; exact ⟨rfl, rfl⟩))))))
end Go.Rv

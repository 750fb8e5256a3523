/- Each function computes what its plain text says: printed by a program of ours. -/
import Derived.Test.YtcmfaclkgdmpbaaGreatDoorRgW4
namespace Go.Rv
open Go.Proofs
set_option maxRecDepth 100000
set_option maxHeartbeats 4000000
set_option linter.unusedVariables false
abbrev Qi2 (r : Bool) : ES := Jq tp ff24 (fun y t => y = (.bool r) ∧ t = [])
abbrev Qkl (r : Bool) : ES := fT 79 [1,1] ff24 (Qi2 r)
abbrev Qjn (r : Bool) : ES := fT 79 [1,1,1] ff24 (Qi2 r)
abbrev Rp (r : Bool) : ES := Qz 0 ((Qjn r))
abbrev Qhy (r : Bool) : ES := fL 79 [1,1,0,1,0,0] ff24 (Rp r)
abbrev Qcz (r : Bool) : ES := fT 79 [1,1,0,1,0,0,1,1,1] ff24 (Qhy r)
abbrev Ri (r : Bool) : ES := Qz 1 ((Qcz r))
theorem Md {r : Bool} (K : Nat) (h : Vo K = some r) : T tp 79 (ca [1,0,1,0] ff24) ⟨[], []⟩ (Qkl r) := by
 unfold Vo at h
 refine sR (Qs (aw rfl (nL (tN (T.ret (Qr (fd rfl (by cases h; exact ⟨rfl, rfl⟩))))))))
theorem Dn {r : Bool} (K : Nat) (h : Lp K = some r) : T tp 79 (ca [1,1,0,1,0,0,1,1,0,0,1,1,0] ff24) ⟨[], []⟩ (Ri r) := by
 unfold Lp at h
 refine sR (Qs (aw rfl (nL (tN (T.ret (Q1 (Qr (Qr (Q1 (Qr (fd rfl (by cases h; exact ⟨rfl, rfl⟩))))))))))))
theorem Qkm {r : Bool} (K : Nat) : ∀ (k : Nat), ∀ (x0 : Qq) (p q : Int) (u : Nat), Hm K k x0 p q = some r → TL tp 79 (ca [1,1,0,1,0,0] ff24) ⟨[(1, .ptr u 0), (45, .sl false 2 (mA x0.Counts)), (46, .int .i64 p), (47, .int .i64 q)], [(Qhw u x0.Split.Of x0.Split.Many x0.Counts x0.States)]⟩ (Rp r) := by
 intro k
 induction k with
 | zero =>
  intro x0 p q u h
  exact zn h
 | succ k ih =>
  intro x0 p q u h
  rw [Hm] at h
  refine Q7 (sR (Qs (oI rfl (nL (tN (T.seq ?_))))))
  rcases Qd h with ⟨w, h⟩ | ⟨w, h⟩
  refine Qp rfl w (T.skip (tN (T.seq (T.block (sR (Qs ?_))))))
  obtain ⟨m, ab, h⟩ := bind_some h
  refine oX x0.Counts (Xf.dc .i64) Qiu i59 ab rfl (oJ ul59 i59 rfl (sp rfl (Ze rfl (dk rfl) i59 rfl (fun ad => (sp rfl (Qy (i := 0) (cells' := (Xf.oc .i64 m)) rfl rfl i59 rfl rfl rfl rfl (nb rfl) rfl (nL (tN (sR (Qs (sp rfl (Y4 rfl (dk rfl) ul59 i3 rfl rfl (by decide) (by decide) (sp rfl (Yb (i := 0) rfl (dk rfl) ul3 rfl rfl rfl (Hw (k := .i64) (a := m) (pre := []) (post := []) (by decide) (by decide)) ?_))))))))))))))
  refine oI rfl (mw rfl ?_)
  rcases Qd h with ⟨b, h⟩ | ⟨b, h⟩
  refine pf rfl b (pf rfl b (pf rfl b (pf rfl b (pf rfl b (oY b rfl (mw rfl ?_))))))
  refine pf rfl rfl (pf rfl rfl (pf rfl rfl (oY rfl rfl (mw rfl (pf rfl rfl (pf rfl rfl ?_))))))
  refine pf rfl rfl (oY rfl rfl (nL (tN (Qp rfl rfl ?_))))
  refine Qg ?_ (Dn K h)
  exact tq rfl rfl
  refine sn rfl b (Y4 rfl (dk rfl) ul59 i3 rfl rfl (by decide) (by decide) (sn rfl b (Yb (i := 0) rfl (dk rfl) ul3 rfl rfl rfl (Hw (k := .i64) (a := m) (pre := []) (post := []) (by decide) (by decide)) (sn rfl b (Y4 rfl (dk rfl) ul59 i3 rfl rfl (by decide) (by decide) (sn rfl b (Yb (i := 0) rfl (dk rfl) ul3 rfl rfl rfl (Hw (k := .i64) (a := m) (pre := []) (post := []) (by decide) (by decide)) (sn rfl b (Z1 rfl rfl (dk rfl) rfl rfl (oZ b rfl (mw rfl ?_)))))))))))
  rcases Qd h with ⟨g, h⟩ | ⟨g, h⟩
  refine pf rfl g (pf rfl g (pf rfl g (oY g rfl (mw rfl (pf rfl rfl (pf rfl rfl ?_))))))
  refine pf rfl rfl (oY rfl rfl (nL (tN (Qp rfl rfl ?_))))
  refine Qg ?_ (Dn K h)
  exact tq rfl rfl
  refine sn rfl g (Y4 rfl (dk rfl) ul59 i3 rfl rfl (by decide) (by decide) (sn rfl g (Yb (i := 0) rfl (dk rfl) ul3 rfl rfl rfl (Hw (k := .i64) (a := m) (pre := []) (post := []) (by decide) (by decide)) (sn rfl g (Z1 rfl rfl (dk rfl) rfl rfl (oZ g rfl (mw rfl ?_)))))))
  rcases Qd h with ⟨j, h⟩ | ⟨j, h⟩
  refine pf rfl j (pf rfl j (pf rfl j (oY j rfl (nL (tN (Qp rfl rfl ?_))))))
  refine Qg ?_ (Dn K h)
  exact tq rfl rfl
  refine sn rfl j (Y4 rfl (dk rfl) ul59 i3 rfl rfl (by decide) (by decide) (sn rfl j (Yb (i := 0) rfl (dk rfl) ul3 rfl rfl rfl (Hw (k := .i64) (a := m) (pre := []) (post := []) (by decide) (by decide)) (sn rfl j (Z1 rfl rfl (dk rfl) rfl rfl (oZ j rfl (nL (tN ?_))))))))
  rcases Qd h with ⟨y, h⟩ | ⟨y, h⟩
  refine Qp rfl y ?_
  refine Qg ?_ (Dn K h)
  exact tq rfl rfl
  refine Qo rfl y (T.skip (Qk (tN (Qs (oI rfl (mw rfl (nL (tN ?_))))))))
  refine Qe ?_ (ih x0 p (wI (q + (1:Int))) u h)
  exact tr rfl (.c (.s .z) (.n _))
  refine Qo rfl w (T.exit (Ql (Ql (Qu (tN (sR (Qs (oA 0 ((Zp.dc 256 .u8 x0.Split.Of) ++ (([.int .i64 x0.Split.Many, .sl false 2 (mA x0.Counts), .sl false 4 (x0.States.map Qh)] : List DC))) Wn i28 rfl (sp rfl (OpT.build (l := ((Zp.dc 256 .u8 x0.Split.Of) ++ (([.int .i64 x0.Split.Many, .sl false 2 (mA x0.Counts), .sl false 4 (x0.States.map Qh)] : List DC)))) rfl (dk rfl) (Zr (pl := [(0, 259)]) ul107 i107 rfl) (H4 rfl) rfl rfl (sp rfl (Ze rfl (dk rfl) i107 rfl (fun aa => (sp rfl (Qy (i := 0) (cells' := ((Zp.oc 256 .u8 x0.Split.Of) ++ (([.d (.int .i64 x0.Split.Many), .d (.sl false 2 (mA x0.Counts)), .d (.sl false 4 (x0.States.map Qh))]:List OC)))) rfl rfl i107 rfl rfl rfl rfl (nb rfl) rfl ?_)))))))))))))))
  refine nL (tN (sR (Qs (oP Wn i26 rfl (oL 1 Jm rfl (sp rfl (OpT.makeFunc (vs := [.pointer (some ⟨aa, 0, none⟩)]) rfl (dk rfl) rfl ?_)))))))
  obtain ⟨af, ac, h⟩ := bind_some h
  refine sp rfl (Zc (is := [0]) (ph := []) rfl (dk rfl) fu53 rfl rfl (Zw.cons rfl (Zw.cons rfl Zw.nil)) (Om K (flx0 := false) (bx1c0 := aa) ac) (.cons rfl rfl (.nil)) (fun _ => rfl) (fun ag => (nm (.c (.c (.n))) (oT rfl (aw rfl (nL (tN (T.ret (fd rfl (by cases h; exact ⟨rfl, rfl⟩))))))))))
theorem Qd0 (K : Nat) {x0 : Qq} {r : Bool} (h : Cw K x0 = some r) : Zm tp 24 [.agg ((Zp.dc 256 .u8 x0.Split.Of) ++ (([.int .i64 x0.Split.Many, .sl false 2 (mA x0.Counts), .sl false 4 (x0.States.map Qh)] : List DC)))] [] (.bool r) := by
 refine CI 79 fu24 rfl ?_
 unfold Cw at h
 refine sR (Qs (sp rfl (Q9 rfl (dk rfl) rfl (fun b => (aw rfl (nL (tN (T.seq (T.seq (Z7 ?_))))))))))
 refine dP rfl (.f rfl) Wn i24 rfl (dW 0 ((Zp.dc 256 .u8 x0.Split.Of) ++ (([.int .i64 x0.Split.Many] : List DC))) rfl (.f rfl) ul24 i24 rfl ?_)
 obtain ⟨q, y, h⟩ := bind_some h
 refine dH fu52 (Zm.nil (split_Right_T K y)) rfl (.f rfl) rfl (dT rfl (.f rfl) rfl (dV rfl rfl ?_))
 rcases Qd h with ⟨j, h⟩ | ⟨j, h⟩
 refine dO j rfl rfl (dO j rfl rfl (dO j rfl rfl (dO j rfl rfl (dY rfl (.f rfl) j rfl (dV rfl rfl (dO rfl rfl rfl ?_))))))
 refine dO rfl rfl rfl (dO rfl rfl rfl (dO rfl rfl rfl (dY rfl (.f rfl) rfl rfl (dV rfl rfl (dO rfl rfl rfl (dO rfl rfl rfl ?_))))))
 refine dO rfl rfl rfl (dO rfl rfl rfl (dY rfl (.f rfl) rfl rfl (dV rfl rfl (dO rfl rfl rfl (dO rfl rfl rfl (dO rfl rfl rfl ?_))))))
 refine dO rfl rfl rfl (dO rfl rfl rfl (dO rfl rfl rfl (dO rfl rfl rfl (dO rfl rfl rfl (dO rfl rfl rfl (dO rfl rfl rfl ?_))))))
 refine dO rfl rfl rfl (dO rfl rfl rfl (dO rfl rfl rfl (dO rfl rfl rfl (dY rfl (.f rfl) rfl rfl (dF [0,1,3,7,15,31,63,127,255,511,1023,2047,4095,8191,16383,32767,65535,131071,262143,524287,1048575,2097151,4194303,8388607,16777215,33554431,67108863,134217727,268435455,8388607,545259519,1619001343,3766484991,8061452287,16651386879,34359738367,68719476735,137438953471] Q0 rfl (by kernel_rfl) (fun u hu => (tN (Qg hu (Qp rfl rfl ?_)))))))))
 refine Qg ?_ (Md K h)
 exact tq rfl rfl
 refine dP rfl (.n j rfl) Wn i25 rfl (dL 0 rfl (.n j rfl) Qiu rfl (dN x0.Counts (Xf.dc .i64) rfl (.n j rfl) Qiu rfl (dI rfl (.n j rfl) rfl (dZ rfl (.f rfl) j rfl (dV rfl rfl ?_)))))
 rcases Qd h with ⟨m, h⟩ | ⟨m, h⟩
 refine dO m rfl rfl (dO m rfl rfl (dO m rfl rfl (dO m rfl rfl (dY rfl (.f rfl) m rfl (dV rfl rfl (dO rfl rfl rfl ?_))))))
 refine dO rfl rfl rfl (dO rfl rfl rfl (dO rfl rfl rfl (dY rfl (.f rfl) rfl rfl (dV rfl rfl (dO rfl rfl rfl (dO rfl rfl rfl ?_))))))
 refine dO rfl rfl rfl (dO rfl rfl rfl (dO rfl rfl rfl (dO rfl rfl rfl (dO rfl rfl rfl (dO rfl rfl rfl (dO rfl rfl rfl ?_))))))
 refine dO rfl rfl rfl (dO rfl rfl rfl (dO rfl rfl rfl (dO rfl rfl rfl (dO rfl rfl rfl (dY rfl (.f rfl) rfl rfl (dF [0,1,3,7,15,31,63,127,255,511,1023,2047,4095,8191,16383,32767,65535,131071,262143,524287,1048575,2097151,4194303,8388607,16777215,33554431,67108863,134217727,268435455,8388607,545259519,1619001343,3766484991,8061452287,16651386879,34359738367,68719476735,137438953471] Q0 rfl (by kernel_rfl) (fun u hu => (tN (Qg hu ?_)))))))))
 refine Qp rfl rfl ?_
 refine Qg ?_ (Md K h)
 exact tq rfl rfl
 refine dP rfl (.n m rfl) Wn i26 rfl (dL 0 rfl (.n m rfl) Jm rfl (dN x0.States Qh rfl (.n m rfl) Jm rfl (dI rfl (.n m rfl) rfl (dZ rfl (.f rfl) m rfl (dV rfl rfl ?_)))))
 rcases Qd h with ⟨p, h⟩ | ⟨p, h⟩
 refine dO p rfl rfl (dO p rfl rfl (dO p rfl rfl (dO p rfl rfl (dY rfl (.f rfl) p rfl (dV rfl rfl (dO rfl rfl rfl ?_))))))
 refine dO rfl rfl rfl (dO rfl rfl rfl (dO rfl rfl rfl (dO rfl rfl rfl (dO rfl rfl rfl (dO rfl rfl rfl (dO rfl rfl rfl ?_))))))
 refine dO rfl rfl rfl (dO rfl rfl rfl (dO rfl rfl rfl (dO rfl rfl rfl (dO rfl rfl rfl (dO rfl rfl rfl (dY rfl (.f rfl) rfl rfl ?_))))))
 refine dF [0,1,3,7,15,31,63,127,255,511,1023,2047,4095,8191,16383,32767,65535,131071,262143,524287,1048575,2097151,4194303,8388607,16777215,33554431,67108863,134217727,268435455,8388607,545259519,1619001343,3766484991,8061452287,16651386879,34359738367,68719476735,137438953471] Q0 rfl (by kernel_rfl) (fun u hu => (tN (Qg hu (Qp rfl rfl ?_))))
 refine Qg ?_ (Md K h)
 exact tq rfl rfl
 refine dP rfl (.n p rfl) Wn i26 rfl (dL 0 rfl (.n p rfl) Jm rfl (dN x0.States Qh rfl (.n p rfl) Jm rfl (dI rfl (.n p rfl) rfl (dZ rfl (.f rfl) p rfl (dV rfl rfl ?_)))))
 rcases Qd h with ⟨g, h⟩ | ⟨g, h⟩
 refine dO g rfl rfl (dO g rfl rfl (dO g rfl rfl (dO g rfl rfl (dO g rfl rfl (dO g rfl rfl (dO g rfl rfl ?_))))))
 refine dO g rfl rfl (dO g rfl rfl (dO g rfl rfl (dO g rfl rfl (dO g rfl rfl (dO g rfl rfl (dO g rfl rfl ?_))))))
 refine dY rfl (.f rfl) g rfl (dF [0,1,3,7,15,31,63,127,255,511,1023,2047,4095,8191,16383,32767,65535,131071,262143,524287,1048575,2097151,4194303,8388607,16777215,33554431,67108863,134217727,268435455,8388607,545259519,1619001343,3766484991,8061452287,16651386879,34359738367,68719476735,137438953471] Q0 rfl (by kernel_rfl) (fun u hu => (tN (Qg hu (Qp rfl rfl ?_)))))
 refine Qg ?_ (Md K h)
 exact tq rfl rfl
 refine dP rfl (.n g rfl) Wn i26 rfl (dL 0 rfl (.n g rfl) Jm rfl ?_)
 obtain ⟨a, w, h⟩ := bind_some h
 refine dX x0.States Qh rfl (.n g rfl) Jm i51 w rfl (dQ rfl (.n g rfl) Hx i38 rfl (dR rfl (.n g rfl) Zs rfl (dN a.L (cI .i64) rfl (.n g rfl) Zs rfl (dP rfl (.n g rfl) Wn i26 rfl (dL 0 rfl (.n g rfl) Jm rfl (dX x0.States Qh rfl (.n g rfl) Jm i51 w rfl ?_))))))
 refine dQ rfl (.n g rfl) Hx i38 rfl (dR rfl (.n g rfl) Zs rfl (dN a.R (cI .i64) rfl (.n g rfl) Zs rfl (dI rfl (.n g rfl) rfl (dI rfl (.n g rfl) rfl (dZ rfl (.f rfl) g rfl (dF [0,1,3,7,15,31,63,127,255,511,1023,2047,4095,8191,16383,32767,65535,131071,262143,524287,1048575,2097151,4194303,8388607,16777215,33554431,67108863,134217727,268435455,8388607,545259519,1619001343,3766484991,8061452287,16651386879,34359738367,68719476735,137438953471] Q0 rfl (by kernel_rfl) (fun u hu => (tN (Qg hu ?_)))))))))
 rcases Qd h with ⟨s, h⟩ | ⟨s, h⟩
 refine Qp rfl s ?_
 refine Qg ?_ (Md K h)
 exact tq rfl rfl
 refine Qo rfl s (T.skip (tN (T.seq (sR (Qs (oP Wn i25 rfl (oL 0 Qiu rfl (oU x0.Counts (Xf.dc .i64) Qiu rfl ?_))))))))
 refine mw rfl (nL (tN (T.block (T.loop ?_))))
 refine Qe ?_ (Qkm K K x0 (x0.Counts.length : Int) (0:Int) b h)
 exact tq rfl rfl
abbrev slices_Clone__2_int_q (r : List Xf) : ES := Jq tp ff25 (fun y t => y = (.sl false 2 (mA r)) ∧ t = [])
theorem Qde (K : Nat) {x0 : List Xf} {flx0 : Bool} {r : List Xf} (h : G9 K x0 = some r) : Zm tp 25 [.sl flx0 2 (mA x0)] [] (.sl false 2 (mA r)) := by
 refine CI 8 fu25 rfl ?_
 unfold G9 at h
 refine sR (Qs (aw rfl (nL (tN (T.seq (sR (Qs (mw rfl (sp rfl (Qkr (xs := x0) (f := (Xf.dc .i64)) rfl (dk rfl) Qiu rfl rfl (fun b c => ?_)))))))))))
 refine nL (tN ?_)
 rcases Bool.eq_false_or_eq_true b with a | a
 have hx := c a
 replace h : (some []) = some r := by first | (rw [hx] at h; exact h) | exact h
 refine Qp rfl a (sR (Qs (aw rfl (nL (tN (T.ret (Qr (Xl (Fc 2 false 2 rfl) (fd rfl (by cases h; exact ⟨rfl, rfl⟩))))))))))
 refine Qo rfl a (T.skip (tN (sR (Qs (sp rfl (OpT.buildSlice (elems := ([] : List Xf).map (Xf.dc .i64)) rfl (dk rfl) Qiu i59 (by decide) rfl (H4 rfl) rfl rfl rfl (X2 rfl) (by decide) (mw rfl ?_)))))))
 obtain ⟨d, h⟩ := Zb h
 refine sp rfl (Fg (xs := ([] : List Xf)) (ys := x0) (f := (Xf.dc .i64)) rfl (dk rfl) Qiu i59 rfl rfl rfl (.inr rfl) d (fun g => (aw rfl (nL (tN (T.ret (Xl (Z3.view 2 0 rfl rfl) (fd rfl (by cases h; exact ⟨rfl, rfl⟩)))))))))
abbrev trim_stack_int_pop_q (bx0 : Nat) (r : Int × Bool × Yk) : ES := Jq tp ff34 (fun y t => ∃ γ : Nat → Value, y = (.tup [.int .i64 r.1, .bool r.2.1]) ∧ t = [(Tu bx0 (γ 0)), .arrX (γ 0) 3 1 0 (mI r.2.2.l)])
theorem I4 (K : Nat) {x0 : Yk} {bx0 : Nat} {wx0c0 : Value} {r : Int × Bool × Yk} (h : Xh K x0 = some r) : Jb tp 34 [.ptr bx0 0] [(Tu bx0 wx0c0), .arrX wx0c0 3 1 0 (mI x0.l)] (fun γ => (.tup [.int .i64 r.1, .bool r.2.1])) (fun γ => [(Tu bx0 (γ 0)), .arrX (γ 0) 3 1 0 (mI r.2.2.l)]) := by
 refine CI 38 fu34 rfl ?_
 unfold Xh at h
 refine sR (Qs (aw rfl (aw rfl (nL (tN (T.seq (sR (Qs (mw rfl ?_)))))))))
 refine oK rfl (oP ul74 i38 rfl (oL 0 Zs rfl (sp rfl (Hn (i := 1) (xs := x0.l) (f := (cI .i64)) rfl (dk rfl) Zs rfl rfl (oI rfl (nL (tN ?_)))))))
 rcases Qd h with ⟨g, h⟩ | ⟨g, h⟩
 refine Qp rfl g (sR (Qs (mw rfl (aw rfl (aw rfl (nL (tN (T.ret (Qr ?_)))))))))
 exact Q6 (.cons _ _ _ _ (.tmp 2 _ rfl) (.cons _ _ _ _ (.tmp 3 _ rfl) .nil)) (.cons 0 rfl (.cons 0 rfl (.nil _))) (by cases h; exact ⟨gl [wx0c0], rfl, rfl⟩)
 refine Qo rfl g (T.skip (tN (T.seq (Z7 (dV rfl rfl (dK rfl (.f rfl) rfl (dP rfl (.f rfl) ul74 i38 rfl ?_)))))))
 refine dL 0 rfl (.f rfl) Zs rfl (dV rfl rfl (dK rfl (.f rfl) rfl (dP rfl (.f rfl) ul74 i38 rfl (dL 0 rfl (.f rfl) Zs rfl (dS (c := ⟨some 19, .int .i64 (x0.l.length : Int), [(18, .c (.ex wx0c0))], [(1, .arrX wx0c0 3 1 0 (mI x0.l))], []⟩) (fun t hm => oF rfl rfl (Hn (i := 1) (xs := x0.l) (f := (cI .i64)) rfl (dk rfl) Zs hm.s0 hm.o0 rfl)) rfl rfl (dI rfl (.f rfl) rfl ?_))))))
 obtain ⟨b, j, h⟩ := bind_some h
 refine dS (c := ⟨some 21, .el wx0c0 1 (Int.toNat (wI ((x0.l.length : Int) - (1:Int)))) 0, [(14, .c (.ex wx0c0)), (20, .int .i64 (wI ((x0.l.length : Int) - (1:Int))))], [(1, .arrX wx0c0 3 1 0 (mI x0.l))], []⟩) (fun t hm => oF rfl rfl (Yj (n := 1) (xs := x0.l) (f := (cI .i64)) (old := b) rfl (dk rfl) Zs i3 hm.s0 hm.o0 hm.s1 j rfl)) rfl rfl (dS (c := ⟨some 22, .int .i64 b, [(21, .el wx0c0 1 (Int.toNat (wI ((x0.l.length : Int) - (1:Int)))) 0)], [(1, .arrX wx0c0 3 1 0 (mI x0.l))], []⟩) (fun t hm => oF rfl rfl (Hd (i := 1) (xs := x0.l) (f := (cI .i64)) (old := b) rfl (dk rfl) ul3 rfl hm.s0 hm.o0 (Z2 j).2 rfl rfl)) rfl rfl (dA rfl (.f rfl) rfl (dF [0,1,3,7,0,16,48,112,240,496,1023,2047,4095] Q0 rfl (by kernel_rfl) (fun u hu => (tN (Qg hu (T.seq (Ja (gM rfl (fun _ => .f rfl) (fun _ => rfl) ?_)))))))))
 refine gM rfl (fun _ => .f rfl) (fun _ => rfl) (gK rfl (fun _ => .f rfl) (fun _ => rfl) (gP rfl (fun _ => .f rfl) ul74 i38 (fun _ => rfl) (gL 0 rfl (fun _ => .f rfl) Zs (fun _ => rfl) (gM rfl (fun _ => .f rfl) (fun _ => rfl) (gK rfl (fun _ => .f rfl) (fun _ => rfl) (gP rfl (fun _ => .f rfl) ul74 i38 (fun _ => rfl) ?_))))))
 refine gL 0 rfl (fun _ => .f rfl) Zs (fun _ => rfl) (dC (c := ⟨some 32, .int .i64 (x0.l.length : Int), [(31, .c (.ex wx0c0))], [(1, .arrX wx0c0 3 1 0 (mI x0.l))], []⟩) (fun t hm => oF rfl rfl (Hn (i := 1) (xs := x0.l) (f := (cI .i64)) rfl (dk rfl) Zs hm.s0 hm.o0 ⟨u0, rfl⟩)) (fun _ => rfl) (fun _ => rfl) (gI rfl (fun _ => .f rfl) (fun _ => rfl) ?_))
 obtain ⟨m, h⟩ := Zb h
 refine DGG.step (c := fun a => ⟨some 34, .c (.ex ((a 11).1 0)), [(27, .c (.ex wx0c0)), (33, .int .i64 (wI ((x0.l.length : Int) - (1:Int))))], [(1, .arrX wx0c0 3 1 0 (mI x0.l))], [(1, .arrX ((a 11).1 0) 3 1 0 ((x0.l.take (Int.toNat (wI ((x0.l.length : Int) - (1:Int))))).map (cI .i64)))]⟩) [11] (fun a γ' h => by simp only [h 11 (by decide)]) (fun a t hm => oF rfl rfl (OpT.sliceX (i := 1) (xs := x0.l) (f := (cI .i64)) (h := (Int.toNat (wI ((x0.l.length : Int) - (1:Int))))) rfl (dk rfl) Zs i3 hm.s0 hm.o0 (.some _ _ _ _ hm.s1 m.1) m.2 (fun w => ⟨(fun _ => w, 0), rfl⟩))) (fun a => Zt rfl rfl) (gK rfl (fun _ => .f rfl) (fun _ => rfl) (gP rfl (fun _ => .f rfl) ul74 i38 (fun _ => rfl) (DGG.step (c := fun a => ⟨none, .any, [(36, .ptr bx0 (0 + 0)), (34, .c (.ex ((a 11).1 0)))], [(0, (Tu bx0 wx0c0))], [(0, (Tu bx0 ((a 11).1 0)))]⟩) [11] (fun a γ' h => by simp only [h 11 (by decide)]) (fun a t hm => oF rfl rfl (Jh (i := 0) (cells' := [.d (.ex ((a 11).1 0))]) rfl rfl i38 hm.s0 hm.s1 hm.o0 (nb rfl) rfl ⟨u0, rfl⟩)) (fun a => Zt rfl rfl) (gF [0,0,2,6,14,0,32,96,224,480,992,2046,4095,8191,16383] Q0 rfl (by kernel_rfl) (fun _ => by kernel_rfl) (fun a u hu => (tN (Qg hu (sR (Qs (mw rfl ?_))))))))))
 refine aw rfl (aw rfl (nL (tN (T.ret (Q6 (.cons _ _ _ _ (.tmp 2 _ rfl) (.cons _ _ _ _ (.tmp 3 _ rfl) .nil)) (.cons 0 rfl (.cons 0 rfl (.nil _))) (by cases h; exact ⟨gl [(a 11).1 0], rfl, rfl⟩))))))
abbrev trim_stack_int_push_q (bx0 : Nat) (r : Yk) : ES := Jq tp ff32 (fun y t => ∃ γ : Nat → Value, y = (.tup []) ∧ t = [(Tu bx0 (γ 0)), .arrX (γ 0) 3 1 0 (mI r.l)])
theorem Fi (K : Nat) {x0 : Yk} {x1 : List Int} {bx0 : Nat} {wx0c0 : Value} {flx1 : Bool} {r : Yk} (h : Jc K x0 x1 = some r) : Jb tp 32 [.ptr bx0 0, .sl flx1 1 (mI x1)] [(Tu bx0 wx0c0), .arrX wx0c0 3 1 0 (mI x0.l)] (fun γ => (.tup [])) (fun γ => [(Tu bx0 (γ 0)), .arrX (γ 0) 3 1 0 (mI r.l)]) := by
 refine CI 13 fu32 rfl ?_
 unfold Jc at h
 refine Qs (mw rfl (mw rfl (oK rfl (oP ul74 i38 rfl (oL 0 Zs rfl (mw rfl ?_))))))
 obtain ⟨b, h⟩ := Zb h
 refine sp rfl (F6 (i := 1) (xs := x0.l) (ys := x1) (f := (cI .i64)) rfl (dk rfl) Zs i3 rfl rfl rfl rfl b (fun a => (oK rfl (oP ul74 i38 rfl (sp rfl (Jh (i := 0) (cells' := [.d (.ex a)]) rfl rfl i38 rfl rfl rfl (nb rfl) rfl (nL (Q6 (.nil) (.cons 0 rfl (.cons 0 rfl (.nil _))) (by cases h; exact ⟨gl [a], rfl, rfl⟩)))))))))
abbrev Qja (r : Int) : ES := Jq tp ff31 (fun y t => y = (.int .i64 r) ∧ t = [])
abbrev Qda (r : Int) : ES := fT 25 [1,1,1,1] ff31 (Qja r)
abbrev T6 (r : Int) : ES := Qz 0 ((Qda r))
theorem Qfk {r : Int} (K : Nat) : ∀ (k : Nat), ∀ (x0 : List Int) (a b : Int) (flx0 : Bool), Jd K k x0 a b = some r → TL tp 25 (ca [1,1,1,0,1,0,0] ff31) ⟨[(0, .sl flx0 1 (mI x0)), (3, .int .i64 a), (4, .int .i64 b)], []⟩ (T6 r) := by
 intro k
 induction k with
 | zero =>
  intro x0 a b flx0 h
  exact zn h
 | succ k ih =>
  intro x0 a b flx0 h
  rw [Jd] at h
  refine Q7 (T.seq (sR (Qs (mw rfl (mw rfl (oU x0 (cI .i64) Zs rfl (oI rfl ?_)))))))
  refine nL (tN ?_)
  rcases Qd h with ⟨c, h⟩ | ⟨c, h⟩
  refine Qp rfl c (T.skip (tN (T.seq (T.block (Qs ?_)))))
  iterate 3 refine mw rfl ?_
  obtain ⟨d, g, h⟩ := bind_some h
  refine oX x0 (cI .i64) Zs i3 g rfl (oR ul3 rfl (sp rfl (OpT.max2 rfl (dk rfl) rfl rfl (aw rfl (nL (Qk (tN (Qs (mw rfl ?_)))))))))
  refine oI rfl (aw rfl (nL (tN ?_)))
  refine Qe ?_ (ih x0 (if d > a then d else a) (wI (b + (1:Int))) flx0 h)
  exact tq rfl rfl
  refine Qo rfl c (T.exit (Ql (Ql (Qu (tN (sR (Qs (mw rfl (aw rfl (nL (tN (T.ret ?_))))))))))))
  exact fd rfl (by cases h; exact ⟨rfl, rfl⟩)
theorem Qjb (K : Nat) {x0 : List Int} {flx0 : Bool} {r : Int} (h : Be K x0 = some r) : Zm tp 31 [.sl flx0 1 (mI x0)] [] (.int .i64 r) := by
 refine CI 25 fu31 rfl ?_
 unfold Be at h
 refine sR (Qs (aw rfl (nL (tN (T.seq (sR (Qs (mw rfl (oU x0 (cI .i64) Zs rfl ?_)))))))))
 refine oI rfl (nL (tN ?_))
 rcases Qd h with ⟨a, h⟩ | ⟨a, h⟩
 refine Qp rfl a (Qs ?_)
 cases h
 refine Qo rfl a (T.skip (tN (sR (Qs (mw rfl ?_)))))
 obtain ⟨b, c, h⟩ := bind_some h
 refine oX x0 (cI .i64) Zs i3 c rfl (oR ul3 rfl (aw rfl (nL (tN (T.seq (sR (Qs (aw rfl ?_))))))))
 refine nL (tN (T.block (T.loop ?_)))
 refine Qe ?_ (Qfk K K x0 b (1:Int) flx0 h)
 exact tq rfl rfl
abbrev slices_Grow_Move_q (r : List Qf) : ES := Jq tp ff97 (fun y t => ∃ γ : Nat → Value, y = (.c (.ex (γ 0))) ∧ t = [.arrA (γ 0) 54 2 (r.map Qn)])
theorem Qgx (K : Nat) {x1 : Int} {r : List Qf} (h : Lt K x1 = some r) : Jb tp 97 [.c (.ex (.slice none 0 0)), .int .i64 x1] [] (fun γ => (.c (.ex (γ 0)))) (fun γ => [.arrA (γ 0) 54 2 (r.map Qn)]) := by
 refine CI 27 fu97 rfl ?_
 unfold Lt at h
 refine sR (Qs (aw rfl (nL (tN (T.seq (sR (Qs (mw rfl (oI rfl ?_)))))))))
 refine nL (tN ?_)
 rcases Qd h with ⟨a, h⟩ | ⟨a, h⟩
 refine Qp rfl a (Qs ?_)
 cases h
 refine Qo rfl a (T.skip (tN (T.seq (sR (Qs (mw rfl (mw rfl (sp rfl (OpT.capNil rfl (dk rfl) Rs rfl ?_)))))))))
 refine mw rfl (sp rfl (OpT.lenEx rfl (dk rfl) Rs rfl (oI rfl (oI rfl (aw rfl (nL (tN (sR (Qs (mw rfl ?_))))))))))
 refine oI rfl (nL (tN ?_))
 rcases Qd h with ⟨b, h⟩ | ⟨b, h⟩
 refine Qp rfl b (Qs (mw rfl (mw rfl (sp rfl (OpT.capNil rfl (dk rfl) Rs rfl (sp rfl (OpT.sliceNil rfl (dk rfl) Rs i54 rfl (.none _) (.some _ _ 0 _ rfl (by decide)) (mw rfl ?_))))))))
 obtain ⟨g, h⟩ := Zb h
 obtain ⟨j, h⟩ := Zb h
 refine sp rfl (Qjo (f := Qn) (zv := ((Qf.mk (0:Int) []) : Qf)) rfl (dk rfl) Rs ul3 i54 (by decide) rfl rfl (fun _ => .cons (.same _) (.cons (.nil _ _) (.refl _))) rfl rfl rfl g j (fun m => (mw rfl (sp rfl (OpT.lenEx rfl (dk rfl) Rs rfl ?_)))))
 obtain ⟨d, h⟩ := Zb h
 refine sp rfl (OpT.sliceX (i := 0) (xs := (List.replicate (Int.toNat (wI (x1 - (wI ((0:Int) - (0:Int)))))) ((Qf.mk (0:Int) []) : Qf))) (f := Qn) (h := (Int.toNat (0:Int))) rfl (dk rfl) Rs i54 rfl rfl (.some _ _ _ _ rfl d.1) d.2 (fun l => (aw rfl (nL (tN (sR (Qs (mw rfl (aw rfl (nL (tN (T.ret ?_))))))))))))
 refine Xl (Ke 0 rfl) (Q6 (.cons _ _ _ _ (.tmp 4 _ rfl) .nil) (.cons 0 rfl (.nil _)) (by cases h; exact ⟨gl [l], rfl, rfl⟩))
 refine Qo rfl b (T.skip (tN (sR (Qs (mw rfl (aw rfl (nL (tN (T.ret ?_)))))))))
 refine Xl (Y0 54 2) (Q6 (.cons _ _ _ _ (.tmp 4 _ rfl) .nil) (.cons 0 rfl (.nil _)) (by cases h; exact ⟨gl [Qc1 4], rfl, rfl⟩))
abbrev I6 (r : List Qf) : ES := Jq tp ff58 (fun y t => ∃ γ : Nat → Value, y = (.c (.ex (γ 0))) ∧ t = [.arrA (γ 0) 54 2 (r.map Qn)])
abbrev Pw (r : List Qf) : ES := fT 36 [1,1,1,1,1] ff58 (I6 r)
abbrev Nd (r : List Qf) : ES := Qz 2 ((Pw r))
abbrev S5 (r : List Qf) : ES := fT 36 [1,1,1] ff58 (I6 r)
abbrev Px (r : List Qf) : ES := Qz 0 ((S5 r))
theorem Qaa {r : List Qf} (K : Nat) : ∀ (k : Nat), ∀ (x0 : List (List Qf)) (b d : Int) (a : List Qf) (flx0 : Bool) (g : Value), X7 K k x0 b d a = some r → TL tp 36 (ca [1,1,1,1,0,1,0,0] ff58) ⟨[(6, .c (.ex g)), (25, .sl flx0 1 (x0.map (cL 2 Qn))), (26, .int .i64 b), (27, .int .i64 d)], [.arrA g 54 2 (a.map Qn)]⟩ (Nd r) := by
 intro k
 induction k with
 | zero =>
  intro x0 b d a flx0 g h
  exact zn h
 | succ k ih =>
  intro x0 b d a flx0 g h
  rw [X7] at h
  refine Q7 (sR (Qs (oI rfl (nL (tN (T.seq ?_))))))
  rcases Qd h with ⟨j, h⟩ | ⟨j, h⟩
  refine Qp rfl j (T.skip (tN (T.seq (T.block (sR (Qs ?_))))))
  obtain ⟨l, m, h⟩ := bind_some h
  refine oX x0 (cL 2 Qn) T0 i55 m rfl (oR Rs rfl (aw rfl (nL (tN (Qs (mw rfl (mw rfl ?_)))))))
  obtain ⟨p, h⟩ := Zb h
  refine sp rfl (Zk (i := 0) (xs := a) (ys := l) (f := Qn) rfl (dk rfl) Rs i54 rfl rfl rfl rfl p (fun q => (aw rfl (nL (Qk (tN (Qs (oI rfl (mw rfl (nL (tN ?_)))))))))))
  refine Qe ?_ (ih x0 b (wI (d + (1:Int))) (a ++ l) flx0 q h)
  exact tq rfl rfl
  refine Qo rfl j (T.exit (Ql (Ql (Qu (tN (sR (Qs (mw rfl (aw rfl (nL (tN (T.ret ?_))))))))))))
  exact Q6 (.cons _ _ _ _ (.tmp 2 _ rfl) .nil) (.cons 0 rfl (.nil _)) (by cases h; exact ⟨gl [g], rfl, rfl⟩)
theorem Qab {r : List Qf} (K : Nat) : ∀ (k : Nat), ∀ (x0 : List (List Qf)) (a b d : Int) (flx0 : Bool), Xi K k x0 a b d = some r → TL tp 36 (ca [1,1,0,1,0,0] ff58) ⟨[(0, .sl flx0 1 (x0.map (cL 2 Qn))), (3, .int .i64 a), (9, .sl flx0 1 (x0.map (cL 2 Qn))), (10, .int .i64 b), (11, .int .i64 d)], []⟩ (Px r) := by
 intro k
 induction k with
 | zero =>
  intro x0 a b d flx0 h
  exact zn h
 | succ k ih =>
  intro x0 a b d flx0 h
  rw [Xi] at h
  refine Q7 (sR (Qs (oI rfl (nL (tN (T.seq ?_))))))
  rcases Qd h with ⟨g, h⟩ | ⟨g, h⟩
  refine Qp rfl g (T.skip (tN (T.seq (T.block (sR (Qs ?_))))))
  obtain ⟨i, l, h⟩ := bind_some h
  refine oX x0 (cL 2 Qn) T0 i55 l rfl (oR Rs rfl (aw rfl (nL (tN (sR (Qs (mw rfl (mw rfl (oU i Qn Rs rfl ?_)))))))))
  refine oI rfl (aw rfl (nL (tN (sR (Qs (mw rfl (oI rfl (nL (tN ?_)))))))))
  rcases Qd h with ⟨j, h⟩ | ⟨j, h⟩
  refine Qp rfl j (Qs ?_)
  cases h
  refine Qo rfl j (T.skip (Qk (tN (Qs (oI rfl (mw rfl (nL (tN ?_))))))))
  refine Qe ?_ (ih x0 (wI (a + (i.length : Int))) b (wI (d + (1:Int))) flx0 h)
  exact tq rfl rfl
  refine Qo rfl g (T.exit (Ql (Ql (Qu (tN (sR (Qs (mw rfl (Wy Yp ?_)))))))))
  obtain ⟨m, p, h⟩ := bind_some h
  refine sp rfl (Zc (is := [0]) (ph := [.ro 0 []]) rfl (dk rfl) fu97 rfl rfl (Zw.cons rfl (Zw.cons rfl Zw.nil)) (Qgx K p) (.cons rfl rfl (.nil)) (fun _ => rfl) (fun q => (nm (.c (.n)) (aw rfl (nL (tN (T.seq (sR (Qs (mw rfl ?_))))))))))
  refine oU x0 (cL 2 Qn) T0 rfl (mw rfl (nL (tN (T.block (T.loop ?_)))))
  refine Qe ?_ (Qaa K K x0 (x0.length : Int) (0:Int) m flx0 (q 0) h)
  exact tq rfl rfl
theorem Qel (K : Nat) {x0 : List (List Qf)} {flx0 : Bool} {r : List Qf} (h : Ks K x0 = some r) : Jb tp 58 [.sl flx0 1 (x0.map (cL 2 Qn))] [] (fun γ => (.c (.ex (γ 0)))) (fun γ => [.arrA (γ 0) 54 2 (r.map Qn)]) := by
 refine CI 36 fu58 rfl ?_
 unfold Ks at h
 refine sR (Qs (aw rfl (nL (tN (sR (Qs (aw rfl (nL (tN (T.seq (sR (Qs ?_))))))))))))
 refine mw rfl (oU x0 (cL 2 Qn) T0 rfl (mw rfl (nL (tN (T.block (T.loop ?_))))))
 refine Qe ?_ (Qab K K x0 (0:Int) (x0.length : Int) (0:Int) flx0 h)
 exact tq rfl rfl
abbrev trim_moves_q (r : List Qf) : ES := Jq tp ff33 (fun y t => y = (.sl false 2 (r.map Qn)) ∧ t = [])
theorem Qc4 (K : Nat) {x0 : Qa} {r : List Qf} (h : Es K x0 = some r) : Zm tp 33 [.agg [.sl false 1 (mI x0.L), .sl false 1 (mI x0.R), .sl false 1 (mI x0.Rule), .sl false 1 (x0.Next.map (cL 2 Qn))]] [] (.sl false 2 (r.map Qn)) := by
 refine CI 6 fu33 rfl ?_
 unfold Es at h
 refine sR (Qs (sp rfl (Q9 rfl (dk rfl) rfl (fun b => (aw rfl (nL (tN (sR (Qs (oP Hx i49 rfl (oL 0 T0 rfl (Wy Yp ?_))))))))))))
 obtain ⟨d, a, h⟩ := bind_some h
 refine sp rfl (Zc (is := [0]) (ph := [.ro 0 []]) rfl (dk rfl) fu58 rfl rfl (Zw.cons rfl Zw.nil) (Qel K (flx0 := false) a) (.cons rfl rfl (.nil)) (fun _ => rfl) (fun f => (nm (.c (.c (.n))) (aw rfl (nL (tN (T.ret (Xl (Z3.view 2 0 rfl rfl) (fd rfl (by cases h; exact ⟨rfl, rfl⟩))))))))))
abbrev Qj0 (r : List Bool) : ES := Jq tp ff12 (fun y t => y = (.sl false 1 (r.map cB)) ∧ t = [])
abbrev Qgu (r : List Bool) : ES := fT 85 [1,1,1,1,1,1] ff12 (Qj0 r)
abbrev I5 (r : List Bool) : ES := Qz 0 ((Qgu r))
abbrev Qei (r : List Bool) : ES := fL 85 [1,1,1,1,1,0,1,0,0] ff12 (I5 r)
abbrev Sz (r : List Bool) : ES := fT 85 [1,1,1,1,1,0,1,0,0,1,1,1] ff12 (Qei r)
abbrev Kr (r : List Bool) : ES := Qz 1 ((Sz r))
abbrev Fk (r : List Bool) : ES := Qz 2 ((Kr r))
abbrev Qff (r : List Bool) : ES := fT 85 [1,1,1,1,1,1,1] ff12 (Qj0 r)
abbrev Fj (r : List Bool) : ES := Qz 4 ((Qff r))
abbrev Qc5 (r : List Bool) : ES := fL 85 [1,1,1,1,1,1,0,1,0,0] ff12 (Fj r)
abbrev Rz (r : List Bool) (go : Qq → Int → Int → (List Bool) → (List (List Int)) → (List Int) → Option (List Bool)) : Prop := ∀ (x0 : Qq) (a b : Int) (f : List Bool) (g : List (List Int)) (i : List Int) (j l : Value) (m : Nat) (n : Value), go x0 a b f g i = some r → TL tp 85 (ca [1,1,1,1,1,0,1,0,0] ff12) ⟨[(3, .c (.ex j)), (4, .c (.ex l)), (5, .ptr m 0), (24, .sl false 4 (x0.States.map Qh)), (25, .int .i64 a), (26, .int .i64 b)], [.arrX j 4 1 0 (f.map cB), .arrG l 38 (gc 3 1 (cI .i64) g), (Tu m n), .arrX n 3 1 0 (mI i)]⟩ (I5 r)
theorem trim_Live_l4_T {r : List Bool} (K : Nat) (go0 : Qq → Int → Int → (List Bool) → (List (List Int)) → (List Int) → Option (List Bool)) (hgo0 : Rz r go0) : ∀ (k : Nat), ∀ (j : Int) (x0 : Qq) (ad af : Int) (ag : List Qf) (al am : Int) (ai : List Bool) (m : List (List Int)) (aj : List Int) (q b : Value) (aa : Nat) (ab : Value), G4 K go0 k j x0 ad af ag al am ai m aj = some r → TL tp 85 (ca [1,1,1,1,1,0,1,0,0,1,1,0,0,1,1,1,0,0] ff12) ⟨[(3, .c (.ex q)), (4, .c (.ex b)), (5, .ptr aa 0), (6, .int .i64 j), (24, .sl false 4 (x0.States.map Qh)), (25, .int .i64 ad), (26, .int .i64 af), (39, .sl false 2 (ag.map Qn)), (40, .int .i64 al), (41, .int .i64 am)], [.arrX q 4 1 0 (ai.map cB), .arrG b 38 (gc 3 1 (cI .i64) m), (Tu aa ab), .arrX ab 3 1 0 (mI aj)]⟩ (Fk r) := by
 intro k
 induction k with
 | zero =>
  intro j x0 ad af ag al am ai m aj q b aa ab h
  exact zn h
 | succ k ih =>
  intro j x0 ad af ag al am ai m aj q b aa ab h
  rw [G4] at h
  refine Q7 (sR (Qs (oI rfl (nL (tN (T.seq ?_))))))
  rcases Qd h with ⟨ap, h⟩ | ⟨ap, h⟩
  refine Qp rfl ap (T.skip (tN (T.seq (T.block (sR (Qs ?_))))))
  obtain ⟨g, au, h⟩ := bind_some h
  refine oX ag Qn Rs i54 au rfl (oJ Dq i54 rfl (sp rfl (Ze rfl (dk rfl) i54 rfl (fun ac => (sp rfl (Qy (i := 0) (cells' := [.d (.int .i64 g.To), .d (.sl false 1 (mU g.Ops))]) rfl rfl i54 rfl rfl rfl rfl (nb rfl) rfl (nL (tN (sR (Qs (oP Dq i3 rfl (oL 0 ul3 rfl ?_))))))))))))
  refine oI rfl (nL (tN ?_))
  rcases Qd h with ⟨aq, h⟩ | ⟨aq, h⟩
  refine Qp rfl aq (Qg Yp (Qg Yp (Ja (gM rfl (fun _ => .f rfl) (fun _ => rfl) (gP rfl (fun _ => .f rfl) Dq i3 (fun _ => rfl) (gL 2 rfl (fun _ => .f rfl) ul3 (fun _ => rfl) ?_))))))
  refine gM rfl (fun _ => .f rfl) (fun _ => rfl) (gP rfl (fun _ => .f rfl) Dq i3 (fun _ => rfl) (gL 2 rfl (fun _ => .f rfl) ul3 (fun _ => rfl) ?_))
  obtain ⟨p, an, h⟩ := bind_some h
  refine dC (c := ⟨some 54, .el b 1 (Int.toNat g.To) 0, [(51, .c (.ex b)), (53, .int .i64 g.To)], [(4, .arrG b 38 (gc 3 1 (cI .i64) m))], []⟩) (fun t hm => oF rfl rfl (Qa0 (n := 4) (l := m) (y := p) rfl (dk rfl) ul72 i38 hm.s0 hm.o0 hm.s1 an ⟨u0, rfl⟩)) (fun _ => rfl) (fun _ => rfl) (DGG.step (c := fun a => ⟨some 55, .c (.ex ((a 7).1 0)), [(54, .el b 1 (Int.toNat g.To) 0)], [(4, .arrG b 38 (gc 3 1 (cI .i64) m)), (0, .ro 0 [])], [(4, .arrG b 38 (gh 3 1 (cI .i64) m (Int.toNat g.To) ((a 7).1 0))), (0, .arrA ((a 7).1 0) 3 1 (mI p))]⟩) [7] (fun a γ' h => by simp only [h 7 (by decide)]) (fun a t hm => oF rfl rfl (Qip (i := 4) (kk := 0) (l := m) (y := p) rfl (dk rfl) Zs rfl hm.s0 hm.o0 (Z2 an).2 hm.o1 (fun w => ⟨(fun _ => w, 0), rfl⟩))) (fun a => Zt rfl rfl) (gM rfl (fun _ => .f rfl) (fun _ => rfl) (dC (c := ⟨some 57, .sl true 1 ([j].map (cI .i64)), [(56, .int .i64 j)], [], []⟩) (fun t hm => oF rfl rfl (OpT.buildSlice (elems := ([j] : List Int).map (cI .i64)) rfl (dk rfl) Zs i3 (by decide) rfl (H4 rfl) (Xe hm.s0 rfl Wt) rfl rfl (X2 rfl) (by decide) ⟨u0, rfl⟩)) (fun _ => rfl) (fun _ => rfl) ?_)))
  obtain ⟨av, h⟩ := Zb h
  refine DGG.step (c := fun a => ⟨some 58, .c (.ex ((a 10).1 0)), [(57, .sl true 1 ([j].map (cI .i64))), (55, .c (.ex ((a 7).1 0)))], [(0, .arrA ((a 7).1 0) 3 1 (mI p))], [(0, .arrA ((a 10).1 0) 3 1 ((p ++ [j]).map (cI .i64)))]⟩) [7, 10] (fun a γ' h => by simp only [h 7 (by decide), h 10 (by decide)]) (fun a t hm => oF rfl rfl (Zk (i := 0) (xs := p) (ys := [j]) (f := (cI .i64)) rfl (dk rfl) Zs i3 rfl hm.s1 hm.o0 hm.s0 av (fun w => ⟨(fun _ => w, 0), rfl⟩))) (fun a => Zt rfl rfl) (DGG.step (c := fun a => ⟨some 59, .el b 1 (Int.toNat g.To) 0, [(48, .c (.ex b)), (50, .int .i64 g.To)], [(4, .arrG b 38 (gh 3 1 (cI .i64) m (Int.toNat g.To) ((a 7).1 0)))], []⟩) [7] (fun a γ' h => by simp only [h 7 (by decide)]) (fun a t hm => oF rfl rfl (Qgo (n := 4) (l := m) (y := p) rfl (dk rfl) ul72 i38 hm.s0 hm.o0 hm.s1 an ⟨u0, rfl⟩)) (fun a => Zt rfl rfl) (DGG.step (c := fun a => ⟨none, .any, [(59, .el b 1 (Int.toNat g.To) 0), (58, .c (.ex ((a 10).1 0)))], [(4, .arrG b 38 (gh 3 1 (cI .i64) m (Int.toNat g.To) ((a 7).1 0))), (0, .arrA ((a 10).1 0) 3 1 ((p ++ [j]).map (cI .i64)))], [(4, .arrG b 38 (gc 3 1 (cI .i64) (List.set m (Int.toNat g.To) (p ++ [j])))), (0, .ro 0 [])]⟩) [7, 10] (fun a γ' h => by simp only [h 7 (by decide), h 10 (by decide)]) (fun a t hm => oF rfl rfl (Qgn (i := 4) (kk := 0) (l := m) (old := p) (y' := (p ++ [j])) rfl rfl i38 hm.s0 hm.s1 hm.o0 (Z2 an).2 hm.o1 ⟨u0, rfl⟩)) (fun a => Zt rfl rfl) (gF [0,0,2,0,0,16,56,120,0,256,1016,2047,4095] Q0 rfl (by kernel_rfl) (fun _ => by kernel_rfl) (fun a u hu => (Qk (tN (Qg hu (Qs (oI rfl (mw rfl ?_))))))))))
  refine nL (tN ?_)
  refine Qe ?_ (ih j x0 ad af ag al (wI (am + (1:Int))) ai (List.set m (Int.toNat g.To) (p ++ [j])) aj q b aa ab h)
  exact tr rfl (.c (.s (.s (.s .z))) (.c (.s (.s (.s .z))) (.c (.s (.s (.s .z))) (.c (.s (.s (.s .z))) (.n _)))))
  refine Qo rfl aq (T.skip (Qk (tN (Qs (oI rfl (mw rfl (nL (tN ?_))))))))
  refine Qe ?_ (ih j x0 ad af ag al (wI (am + (1:Int))) ai m aj q b aa ab h)
  exact tr rfl (.c (.s .z) (.c (.s .z) (.c (.s .z) (.c (.s .z) (.n _)))))
  refine Qo rfl ap (T.exit (Ql (Ql (Qu (Qk (tN (Qs (oI rfl (mw rfl (nL (tN ?_)))))))))))
  refine Qe ?_ (hgo0 x0 ad (wI (af + (1:Int))) ai m aj q b aa ab h)
  exact tq rfl rfl
theorem Qex {r : List Bool} (K : Nat) (go0 : Qq → Int → Int → (List Bool) → (List (List Int)) → (List Int) → Option (List Bool)) (hgo0 : Rz r go0) (a : Int) (x0 : Qq) (b g : Int) (j : List Bool) (m : List (List Int)) (p q : List Int) (s u : List Int) (v : List (List Qf)) (w y : Value) (aa : Nat) (ab : Value) (ad : Nat) (h : Ck K go0 a x0 b g j m p q s u v = some r) : T tp 85 (ca [1,1,1,1,1,0,1,0,0,1,1,0,0,1,1] ff12) ⟨[(3, .c (.ex w)), (4, .c (.ex y)), (5, .ptr aa 0), (6, .int .i64 a), (7, .ptr ad 0), (24, .sl false 4 (x0.States.map Qh)), (25, .int .i64 b), (26, .int .i64 g)], [.arrX w 4 1 0 (j.map cB), .arrG y 38 (gc 3 1 (cI .i64) m), (Tu aa ab), .arrX ab 3 1 0 (mI p), (J5 ad q s u v)]⟩ (Kr r) := by
 unfold Ck at h
 refine sR (Qs (oA 4 [.sl false 1 (mI q), .sl false 1 (mI s), .sl false 1 (mI u), .sl false 1 (v.map (cL 2 Qn))] Hx i51 rfl ?_))
 obtain ⟨ac, af, h⟩ := bind_some h
 refine oH fu33 (Zm.nil (Qc4 K af)) rfl (oU ac Qn Rs rfl (mw rfl (nL (tN (T.block (T.loop ?_))))))
 refine Qe ?_ (trim_Live_l4_T K go0 hgo0 K a x0 b g ac (ac.length : Int) (0:Int) j m p w y aa ab h)
 exact tq rfl rfl
abbrev Qev (r : List Bool) (go : Int → Bool → (List Bool) → (List (List Int)) → (List Int) → Option (List Bool)) : Prop := ∀ (a : Int) (b : Bool) (f : List Bool) (g : List (List Int)) (i : List Int) (j l : Value) (m : Nat) (n : Value), go a b f g i = some r → TL tp 85 (ca [1,1,1,1,1,1,0,1,0,0] ff12) ⟨[(3, .c (.ex j)), (4, .c (.ex l)), (5, .ptr m 0), (10, .int .i64 a), (11, .bool b)], [.arrX j 4 1 0 (f.map cB), .arrG l 38 (gc 3 1 (cI .i64) g), (Tu m n), .arrX n 3 1 0 (mI i)]⟩ (Fj r)
theorem Qew {r : List Bool} (K : Nat) (go2 : Int → Bool → (List Bool) → (List (List Int)) → (List Int) → Option (List Bool)) (hgo2 : Qev r go2) (b : List Bool) (f : List (List Int)) (p : List Int) (g i : Value) (a : Nat) (j : Value) (h : Rj K go2 b f p = some r) : T tp 85 (ca [1,1,1,1,1,1,0,1,0,0,1,1] ff12) ⟨[(3, .c (.ex g)), (4, .c (.ex i)), (5, .ptr a 0)], [.arrX g 4 1 0 (b.map cB), .arrG i 38 (gc 3 1 (cI .i64) f), (Tu a j), .arrX j 3 1 0 (mI p)]⟩ (Qc5 r) := by
 unfold Rj at h
 refine Qs ?_
 obtain ⟨m, q, h⟩ := bind_some h
 refine sp rfl (Zc (is := [2, 3]) (ph := []) rfl (dk rfl) fu34 rfl rfl (Zw.cons rfl Zw.nil) (I4 K (bx0 := a) (wx0c0 := j) q) (.cons rfl rfl (.cons rfl rfl (.nil))) (fun _ => rfl) (fun s => (nm (.c (.c (.c (.c (.n))))) (mw rfl (oE rfl (oE rfl (aw rfl (aw rfl ?_))))))))
 refine nL (tN ?_)
 refine Qe ?_ (hgo2 m.1 m.2.1 b f m.2.2.l g i a (s 0) h)
 exact tq rfl rfl
theorem trim_Live_l2_T {r : List Bool} (K : Nat) : ∀ (k : Nat), Qev r (Uw K k) := by
 intro k
 induction k with
 | zero =>
  intro v ac a b w m p d q h
  exact zn h
 | succ k ih =>
  intro v ac a b w m p d q h
  rw [Uw] at h
  refine Q7 (T.seq (sR (Qs (mw rfl (nL (tN ?_))))))
  rcases Qd h with ⟨s, h⟩ | ⟨s, h⟩
  refine Qp rfl s (T.skip (tN (T.seq (T.block (sR (Qs (mw rfl (mw rfl ?_))))))))
  obtain ⟨g, j, h⟩ := bind_some h
  refine sp rfl (Yj (n := 0) (xs := a) (f := cB) (old := g) rfl (dk rfl) ul33 i4 rfl rfl rfl j (sp rfl (Hd (i := 0) (xs := a) (f := cB) (old := g) rfl (dk rfl) ul4 rfl rfl rfl (Z2 j).2 rfl (oT rfl (nL (tN ?_))))))
  rcases Qd h with ⟨u, h⟩ | ⟨u, h⟩
  refine Qp rfl u (sR (Qs (mw rfl (mw rfl (sp rfl (Yj (n := 0) (xs := a) (f := cB) (old := g) rfl (dk rfl) ul33 i4 rfl rfl rfl j (sp rfl (Hv (i := 0) (xs := a) (f := cB) (old := g) (new := true) rfl rfl i4 rfl rfl rfl (Z2 j).2 (Qla _) (nb rfl) rfl (nL (tN ?_))))))))))
  refine Qs (mw rfl (mw rfl ?_))
  obtain ⟨aa, ab, h⟩ := bind_some h
  refine sp rfl (Qa0 (n := 1) (l := b) (y := aa) rfl (dk rfl) ul72 i38 rfl rfl rfl ab (sp rfl (OpT.loadGM (i := 1) (l := b) (y := aa) rfl (dk rfl) Zs rfl rfl rfl (Z2 ab).2 ?_)))
  obtain ⟨ad, af, h⟩ := bind_some h
  refine sp rfl (Zc (is := [2, 3]) (ph := []) rfl (dk rfl) fu32 rfl rfl (Zw.cons rfl (Zw.cons rfl Zw.nil)) (Fi K (bx0 := d) (wx0c0 := q) (flx1 := false) af) (.cons rfl rfl (.cons rfl rfl (.nil))) (fun _ => rfl) (fun ag => (nm (.c (.c (.c (.c (.n))))) (nL (Qk (tN ?_))))))
  refine Qg ?_ (Qew K (Uw K k) ih (List.set a (Int.toNat v) true) b ad.l m p d (ag 0) h)
  exact tq rfl rfl
  refine Qo rfl u (T.skip (Qk (tN ?_)))
  refine Qg ?_ (Qew K (Uw K k) ih a b w m p d q h)
  exact tq rfl rfl
  refine Qo rfl s (T.exit (Ql (Ql (Qu (tN (sR (Qs (mw rfl (aw rfl (nL (tN (T.ret ?_))))))))))))
  refine Xl (Ke 0 rfl) (Xl (Z3.view 2 0 rfl rfl) (fd rfl (by cases h; exact ⟨rfl, rfl⟩)))
theorem trim_Live_l0_T {r : List Bool} (K : Nat) : ∀ (k : Nat), Rz r (Ux K k) := by
 intro k
 induction k with
 | zero =>
  intro x0 w b j m ac p q g u h
  exact zn h
 | succ k ih =>
  intro x0 w b j m ac p q g u h
  rw [Ux] at h
  refine Q7 (sR (Qs (oI rfl (nL (tN (T.seq ?_))))))
  rcases Qd h with ⟨y, h⟩ | ⟨y, h⟩
  refine Qp rfl y (T.skip (tN (T.seq (T.block (sR (Qs (mw rfl ?_)))))))
  obtain ⟨a, af, h⟩ := bind_some h
  refine oX x0.States Qh Jm i51 af rfl (oJ Hx i51 rfl (sp rfl (Ze rfl (dk rfl) i51 rfl (fun ad => (aw rfl (sp rfl (Qy (i := 0) (cells' := [.d (.sl false 1 (mI a.L)), .d (.sl false 1 (mI a.R)), .d (.sl false 1 (mI a.Rule)), .d (.sl false 1 (a.Next.map (cL 2 Qn)))]) rfl rfl i51 rfl rfl rfl rfl (nb rfl) rfl (nL (tN (T.seq ?_))))))))))
  refine sR (Qs (oP Hx i38 rfl (oL 0 Zs rfl ?_)))
  obtain ⟨ap, ag, h⟩ := bind_some h
  refine oH fu31 (Zm.nil (Qjb K (flx0 := false) ag)) rfl (oI rfl (nL (tN ?_)))
  rcases Qd h with ⟨aa, h⟩ | ⟨aa, h⟩
  refine Qp rfl aa (Qs (mw rfl (sp rfl (OpT.buildSlice (elems := ([b] : List Int).map (cI .i64)) rfl (dk rfl) Zs i3 (by decide) rfl (H4 rfl) rfl rfl rfl (X2 rfl) (by decide) ?_))))
  obtain ⟨ai, aj, h⟩ := bind_some h
  refine sp rfl (Zc (is := [3, 4]) (ph := []) rfl (dk rfl) fu32 rfl rfl (Zw.cons rfl (Zw.cons rfl Zw.nil)) (Fi K (bx0 := g) (wx0c0 := u) (flx1 := true) aj) (.cons rfl rfl (.cons rfl rfl (.nil))) (fun _ => rfl) (fun al => (nm (.c (.c (.c (.c (.c (.n)))))) (nL (tN ?_)))))
  refine Qg ?_ (Qex K (Ux K k) ih b x0 w b j m ai.l a.L a.R a.Rule a.Next p q g (al 0) ad h)
  exact tr rfl (.c (.s .z) (.c (.s .z) (.c (.s .z) (.c (.s .z) (.c .z (.n _))))))
  refine Qo rfl aa (T.skip (tN ?_))
  refine Qg ?_ (Qex K (Ux K k) ih b x0 w b j m ac a.L a.R a.Rule a.Next p q g u ad h)
  exact tr rfl (.c (.s .z) (.c (.s .z) (.c (.s .z) (.c (.s .z) (.c .z (.n _))))))
  refine Qo rfl y (T.exit (Ql (Ql (Qu (tN (T.seq (sR (Qs ?_))))))))
  obtain ⟨ab, am, h⟩ := bind_some h
  refine sp rfl (Zc (is := [2, 3]) (ph := []) rfl (dk rfl) fu34 rfl rfl (Zw.cons rfl Zw.nil) (I4 K (bx0 := g) (wx0c0 := u) am) (.cons rfl rfl (.cons rfl rfl (.nil))) (fun _ => rfl) (fun an => (nm (.c (.c (.c (.c (.n))))) (mw rfl (oE rfl (oE rfl (aw rfl (aw rfl ?_))))))))
  refine nL (tN (T.block (T.loop ?_)))
  refine Qe ?_ (trim_Live_l2_T K K ab.1 ab.2.1 j m ab.2.2.l p q g (an 0) h)
  exact tq rfl rfl
theorem trim_Live_T (K : Nat) {x0 : Qq} {r : List Bool} (h : Qc6 K x0 = some r) : Zm tp 12 [.agg ((Zp.dc 256 .u8 x0.Split.Of) ++ (([.int .i64 x0.Split.Many, .sl false 2 (mA x0.Counts), .sl false 4 (x0.States.map Qh)] : List DC)))] [] (.sl false 1 (r.map cB)) := by
 refine CI 85 fu12 rfl ?_
 unfold Qc6 at h
 refine sR (Qs (sp rfl (Q9 rfl (dk rfl) rfl (fun u => (aw rfl (nL (tN (T.seq (sR (Qs (oA 0 ((Zp.dc 256 .u8 x0.Split.Of) ++ (([.int .i64 x0.Split.Many, .sl false 2 (mA x0.Counts), .sl false 4 (x0.States.map Qh)] : List DC))) Wn i28 rfl ?_)))))))))))
 obtain ⟨v, d, h⟩ := bind_some h
 refine oH fu24 (Zm.nil (Qd0 K d)) rfl (oT rfl (nL (tN ?_)))
 rcases Qd h with ⟨a, h⟩ | ⟨a, h⟩
 refine Qp rfl a (sR (Qs (aw rfl (nL (tN (T.ret (Qr (Xl (Fc 2 false 1 rfl) (fd rfl (by cases h; exact ⟨rfl, rfl⟩))))))))))
 refine Qo rfl a (T.skip (tN (sR (Qs (oP Wn i26 rfl (oL 0 Jm rfl (oU x0.States Qh Jm rfl ?_)))))))
 obtain ⟨b, h⟩ := Zb h
 obtain ⟨g, h⟩ := Zb h
 refine sp rfl (Kf (f := cB) (zv := (false : Bool)) rfl (dk rfl) ul33 i4 (by decide) rfl rfl rfl rfl rfl b g (fun j => (aw rfl (nL (tN (sR (Qs (oP Wn i26 rfl (oL 1 Jm rfl (oU x0.States Qh Jm rfl ?_))))))))))
 obtain ⟨m, h⟩ := Zb h
 refine sp rfl (Su (e1 := 3) (esz := 1) (f := (cI .i64)) rfl (dk rfl) ul72 i38 rfl rfl b m (fun p => (aw rfl (nL (tN (sR (Qs (sp rfl (Ze rfl (dk rfl) i74 rfl (fun q => (nL (tN (T.seq (sR (Qs ?_)))))))))))))))
 refine oP Wn i26 rfl (oL 3 Jm rfl (oU x0.States Qh Jm rfl (mw rfl (nL (tN (T.block (T.loop ?_)))))))
 refine Qe (Qd4 3 1) ?_
 refine Qe ?_ (trim_Live_l0_T K K x0 (x0.States.length : Int) (0:Int) (List.replicate (Int.toNat (x0.States.length : Int)) (false : Bool)) (List.replicate (Int.toNat (x0.States.length : Int)) ([] : List Int)) [] j p q (Qc1 19) h)
 exact tr rfl (.c (.s (.s (.s .z))) (.c (.s (.s .z)) (.c (.s .z) (.c .z (.n _)))))
abbrev slices_Clone_int_q (r : List Int) : ES := Jq tp ff95 (fun y t => y = (.sl false 1 (mI r)) ∧ t = [])
theorem Ju (K : Nat) {x0 : List Int} {flx0 : Bool} {r : List Int} (h : Vg K x0 = some r) : Zm tp 95 [.sl flx0 1 (mI x0)] [] (.sl false 1 (mI r)) := by
 refine CI 8 fu95 rfl ?_
 unfold Vg at h
 refine sR (Qs (aw rfl (nL (tN (T.seq (sR (Qs (mw rfl (sp rfl (Qkr (xs := x0) (f := (cI .i64)) rfl (dk rfl) Zs rfl rfl (fun b c => ?_)))))))))))
 refine nL (tN ?_)
 rcases Bool.eq_false_or_eq_true b with a | a
 have hx := c a
 replace h : (some []) = some r := by first | (rw [hx] at h; exact h) | exact h
 refine Qp rfl a (sR (Qs (aw rfl (nL (tN (T.ret (Qr (Xl (Fc 2 false 1 rfl) (fd rfl (by cases h; exact ⟨rfl, rfl⟩))))))))))
 refine Qo rfl a (T.skip (tN (sR (Qs (sp rfl (OpT.buildSlice (elems := ([] : List Int).map (cI .i64)) rfl (dk rfl) Zs i3 (by decide) rfl (H4 rfl) rfl rfl rfl (X2 rfl) (by decide) (mw rfl ?_)))))))
 obtain ⟨d, h⟩ := Zb h
 refine sp rfl (Fg (xs := ([] : List Int)) (ys := x0) (f := (cI .i64)) rfl (dk rfl) Zs i3 rfl rfl rfl (.inr rfl) d (fun g => (aw rfl (nL (tN (T.ret (Xl (Z3.view 2 0 rfl rfl) (fd rfl (by cases h; exact ⟨rfl, rfl⟩)))))))))
abbrev slices_Clone_uint8_q (r : List Int) : ES := Jq tp ff94 (fun y t => y = (.sl false 1 (mU r)) ∧ t = [])
theorem I7 (K : Nat) {x0 : List Int} {flx0 : Bool} {r : List Int} (h : Jt K x0 = some r) : Zm tp 94 [.sl flx0 1 (mU x0)] [] (.sl false 1 (mU r)) := by
 refine CI 8 fu94 rfl ?_
 unfold Jt at h
 refine sR (Qs (aw rfl (nL (tN (T.seq (sR (Qs (mw rfl (sp rfl (Qkr (xs := x0) (f := (cI .u8)) rfl (dk rfl) B1 rfl rfl (fun b c => ?_)))))))))))
 refine nL (tN ?_)
 rcases Bool.eq_false_or_eq_true b with a | a
 have hx := c a
 replace h : (some []) = some r := by first | (rw [hx] at h; exact h) | exact h
 refine Qp rfl a (sR (Qs (aw rfl (nL (tN (T.ret (Qr (Xl (Fc 2 false 1 rfl) (fd rfl (by cases h; exact ⟨rfl, rfl⟩))))))))))
 refine Qo rfl a (T.skip (tN (sR (Qs (sp rfl (OpT.buildSlice (elems := ([] : List Int).map (cI .u8)) rfl (dk rfl) B1 i5 (by decide) rfl (H4 rfl) rfl rfl rfl (X2 rfl) (by decide) (mw rfl ?_)))))))
 obtain ⟨d, h⟩ := Zb h
 refine sp rfl (Fg (xs := ([] : List Int)) (ys := x0) (f := (cI .u8)) rfl (dk rfl) B1 i5 rfl rfl rfl (.inr rfl) d (fun g => (aw rfl (nL (tN (T.ret (Xl (Z3.view 2 0 rfl rfl) (fd rfl (by cases h; exact ⟨rfl, rfl⟩)))))))))
abbrev Qe6 (bx0 : Nat) (wx1 : Value) (x1 : List Int) (r : Qc) : ES := Jq tp Qgr (fun y t => ∃ γ : Nat → Value, y = (.tup []) ∧ t = [(We bx0 r.Auto.Split.Of r.Auto.Split.Many r.Auto.Counts r.Auto.States), .arrX wx1 3 1 0 (mI x1)])
abbrev Qbg (bx0 : Nat) (wx1 : Value) (x1 : List Int) (r : Qc) : ES := fT 102 [1,1] Qgr (Qe6 bx0 wx1 x1 r)
abbrev Cj (bx0 : Nat) (wx1 : Value) (x1 : List Int) (r : Qc) : ES := Qz 0 ((Qbg bx0 wx1 x1 r))
abbrev Sw (bx0 : Nat) (wx1 : Value) (x1 : List Int) (r : Qc) : ES := fL 102 [1,0,1,0,0] Qgr (Cj bx0 wx1 x1 r)
abbrev Nb (bx0 : Nat) (wx1 : Value) (x1 : List Int) (r : Qc) : ES := fT 102 [1,0,1,0,0,1,1,1] Qgr (Sw bx0 wx1 x1 r)
abbrev Dt (bx0 : Nat) (wx1 : Value) (x1 : List Int) (r : Qc) : ES := Qz 1 ((Nb bx0 wx1 x1 r))
abbrev Dr (bx0 : Nat) (wx1 : Value) (x1 : List Int) (r : Qc) : ES := fT 102 [1,0,1,0,0,1,1,0,0,1,1,1] Qgr (Dt bx0 wx1 x1 r)
abbrev Jr (bx0 : Nat) (wx1 : Value) (x1 : List Int) (r : Qc) : ES := Qz 2 ((Dr bx0 wx1 x1 r))
abbrev Cz (bx0 : Nat) (wx1 : Value) (x1 : List Int) (r : Qc) : ES := fL 102 [1,0,1,0,0,1,1,0,0,1,1,0,1,0,0] Qgr (Jr bx0 wx1 x1 r)
abbrev Mh (bx0 : Nat) (wx1 : Value) (x1 : List Int) (r : Qc) : ES := fT 102 [1,0,1,0,0,1,1,0,0,1,1,0,1,0,0,1,1,1] Qgr (Cz bx0 wx1 x1 r)
abbrev H1 (bx0 : Nat) (wx1 : Value) (x1 : List Int) (r : Qc) : ES := Qz 3 ((Mh bx0 wx1 x1 r))
abbrev V2 (bx0 : Nat) (wx1 : Value) (x1 : List Int) (r : Qc) : ES := Qz 4 ((H1 bx0 wx1 x1 r))
abbrev Lr (bx0 : Nat) (wx1 : Value) (x1 : List Int) (r : Qc) : ES := fL 102 [1,0,1,0,0,1,1,0,0,1,1,0,1,0,0,1,1,0,0,1,1,0,0] Qgr (V2 bx0 wx1 x1 r)
abbrev H0 (bx0 : Nat) (wx1 : Value) (x1 : List Int) (r : Qc) : ES := fT 102 [1,0,1,0,0,1,1,0,0,1,1,0,1,0,0,1,1,0,0,1,1,0,0,1,1,1] Qgr (Lr bx0 wx1 x1 r)
abbrev Xg (bx0 : Nat) (wx1 : Value) (x1 : List Int) (r : Qc) : ES := Qz 5 ((H0 bx0 wx1 x1 r))
abbrev Wz (bx0 : Nat) (wx1 : Value) (x1 : List Int) (r : Qc) : ES := fT 102 [1,0,1,0,0,1,1,0,0,1,1,0,1,0,0,1,1,0,0,1,1,0,0,1,1,0,0,1,1,1] Qgr (Xg bx0 wx1 x1 r)
abbrev Kg (bx0 : Nat) (wx1 : Value) (x1 : List Int) (r : Qc) (go : Int → Int → Qc → Int → Int → (List (List Qf)) → Int → Int → (List Qf) → Int → Int → (List Int) → (List Qa) → (List Int) → (List Int) → (List Int) → (List (List Qf)) → (List (List Qf)) → Option Qc) : Prop := ∀ (a b : Int) (x0 : Qc) (f g : Int) (i : List (List Qf)) (j l : Int) (m : List Qf) (n p : Int) (x1 : List Int) (q : List Qa) (s u v : List Int) (w y : List (List Qf)) (z : Value) (aa : Nat) (ab : Value), go a b x0 f g i j l m n p x1 q s u v w y = some r → TL tp 102 (ca [1,0,1,0,0,1,1,0,0,1,1,0,1,0,0,1,1,0,0,1,1,0,0] Qgr) ⟨[(0, .ptr bx0 0), (1, .c (.ex wx1)), (4, .c (.ex z)), (5, .int .i64 a), (6, .ptr aa 0), (7, .c (.ex ab)), (8, .int .i64 b), (24, .sl false 4 (x0.Auto.States.map Qh)), (25, .int .i64 f), (26, .int .i64 g), (36, .sl false 1 (i.map (cL 2 Qn))), (37, .int .i64 j), (38, .int .i64 l), (43, .sl false 2 (m.map Qn)), (44, .int .i64 n), (45, .int .i64 p)], [(We bx0 x0.Auto.Split.Of x0.Auto.Split.Many x0.Auto.Counts x0.Auto.States), .arrX wx1 3 1 0 (mI x1), .arrX z 51 4 0 (q.map Qh), (J5 aa s u v w), .arrG ab 55 (gc 54 2 Qn y)]⟩ (V2 bx0 wx1 x1 r)
theorem Eb {r : Qc} (K bx0 : Nat) (wx1 : Value) (x1 : List Int) (go2 : Int → Int → Qc → Int → Int → (List (List Qf)) → Int → Int → (List Qf) → Int → Int → (List Int) → (List Qa) → (List Int) → (List Int) → (List Int) → (List (List Qf)) → (List (List Qf)) → Option Qc) (hgo2 : Kg bx0 wx1 x1 r go2) (ac g : Int) (x0 : Qc) (ad af : Int) (ag : List (List Qf)) (ai aj : Int) (al : List Qf) (am an : Int) (x1 : List Int) (ap : List Qa) (aq au av : List Int) (ay p : List (List Qf)) (j : Int) (m : List Int) (v : Value) (aa : Nat) (b : Value) (ab : Nat) (h : Ur K go2 ac g x0 ad af ag ai aj al am an x1 ap aq au av ay p j m = some r) : T tp 102 (ca [1,0,1,0,0,1,1,0,0,1,1,0,1,0,0,1,1,0,0,1,1,0,0,1,1,0,0,1,1,1] Qgr) ⟨[(0, .ptr bx0 0), (1, .c (.ex wx1)), (4, .c (.ex v)), (5, .int .i64 ac), (6, .ptr aa 0), (7, .c (.ex b)), (8, .int .i64 g), (12, .ptr ab 0), (24, .sl false 4 (x0.Auto.States.map Qh)), (25, .int .i64 ad), (26, .int .i64 af), (36, .sl false 1 (ag.map (cL 2 Qn))), (37, .int .i64 ai), (38, .int .i64 aj), (43, .sl false 2 (al.map Qn)), (44, .int .i64 am), (45, .int .i64 an)], [(We bx0 x0.Auto.Split.Of x0.Auto.Split.Many x0.Auto.Counts x0.Auto.States), .arrX wx1 3 1 0 (mI x1), .arrX v 51 4 0 (ap.map Qh), (J5 aa aq au av ay), .arrG b 55 (gc 54 2 Qn p), (Qe0 ab j m)]⟩ (Xg bx0 wx1 x1 r) := by
 unfold Ur at h
 refine Qg Yp (Qg Yp (Ja (gM rfl (fun _ => .f rfl) (fun _ => rfl) (gM rfl (fun _ => .f rfl) (fun _ => rfl) (gM rfl (fun _ => .f rfl) (fun _ => rfl) (gM rfl (fun _ => .f rfl) (fun _ => rfl) ?_))))))
 obtain ⟨q, az, h⟩ := bind_some h
 refine dC (c := ⟨some 74, .el b 1 (Int.toNat g) 0, [(72, .c (.ex b)), (73, .int .i64 g)], [(6, .arrG b 55 (gc 54 2 Qn p))], []⟩) (fun t hm => oF rfl rfl (Qa0 (n := 6) (l := p) (y := q) rfl (dk rfl) T0 i55 hm.s0 hm.o0 hm.s1 az ⟨u0, rfl⟩)) (fun _ => rfl) (fun _ => rfl) (DGG.step (c := fun a => ⟨some 75, .c (.ex ((a 5).1 0)), [(74, .el b 1 (Int.toNat g) 0)], [(6, .arrG b 55 (gc 54 2 Qn p)), (0, .ro 0 [])], [(6, .arrG b 55 (gh 54 2 Qn p (Int.toNat g) ((a 5).1 0))), (0, .arrA ((a 5).1 0) 54 2 (q.map Qn))]⟩) [5] (fun a γ' h => by simp only [h 5 (by decide)]) (fun a t hm => oF rfl rfl (Qip (i := 6) (kk := 0) (l := p) (y := q) rfl (dk rfl) Rs rfl hm.s0 hm.o0 (Z2 az).2 hm.o1 (fun w => ⟨(fun _ => w, 0), rfl⟩))) (fun a => Zt rfl rfl) (gW 7 [.int .i64 j, .sl false 1 (mU m)] rfl (fun _ => .f rfl) Dq i54 (fun _ => rfl) (dC (c := ⟨some 77, .sl true 2 ([(Qf.mk j m)].map Qn), [(76, .agg [.int .i64 j, .sl false 1 (mU m)])], [], []⟩) (fun t hm => oF rfl rfl (OpT.buildSlice (elems := ([(Qf.mk j m)] : List Qf).map Qn) rfl (dk rfl) Rs i54 (by decide) rfl (H4 rfl) (Xe hm.s0 rfl Wt) rfl rfl (X2 rfl) (by decide) ⟨u0, rfl⟩)) (fun _ => rfl) (fun _ => rfl) ?_)))
 obtain ⟨a0, h⟩ := Zb h
 refine DGG.step (c := fun a => ⟨some 78, .c (.ex ((a 8).1 0)), [(77, .sl true 2 ([(Qf.mk j m)].map Qn)), (75, .c (.ex ((a 5).1 0)))], [(0, .arrA ((a 5).1 0) 54 2 (q.map Qn))], [(0, .arrA ((a 8).1 0) 54 2 ((q ++ [(Qf.mk j m)]).map Qn))]⟩) [5, 8] (fun a γ' h => by simp only [h 5 (by decide), h 8 (by decide)]) (fun a t hm => oF rfl rfl (Zk (i := 0) (xs := q) (ys := [(Qf.mk j m)]) (f := Qn) rfl (dk rfl) Rs i54 rfl hm.s1 hm.o0 hm.s0 a0 (fun w => ⟨(fun _ => w, 0), rfl⟩))) (fun a => Zt rfl rfl) (DGG.step (c := fun a => ⟨some 79, .el b 1 (Int.toNat g) 0, [(70, .c (.ex b)), (71, .int .i64 g)], [(6, .arrG b 55 (gh 54 2 Qn p (Int.toNat g) ((a 5).1 0)))], []⟩) [5] (fun a γ' h => by simp only [h 5 (by decide)]) (fun a t hm => oF rfl rfl (Qgo (n := 6) (l := p) (y := q) rfl (dk rfl) T0 i55 hm.s0 hm.o0 hm.s1 az ⟨u0, rfl⟩)) (fun a => Zt rfl rfl) (DGG.step (c := fun a => ⟨none, .any, [(79, .el b 1 (Int.toNat g) 0), (78, .c (.ex ((a 8).1 0)))], [(6, .arrG b 55 (gh 54 2 Qn p (Int.toNat g) ((a 5).1 0))), (0, .arrA ((a 8).1 0) 54 2 ((q ++ [(Qf.mk j m)]).map Qn))], [(6, .arrG b 55 (gc 54 2 Qn (List.set p (Int.toNat g) (q ++ [(Qf.mk j m)])))), (0, .ro 0 [])]⟩) [5, 8] (fun a γ' h => by simp only [h 5 (by decide), h 8 (by decide)]) (fun a t hm => oF rfl rfl (Qgn (i := 6) (kk := 0) (l := p) (old := q) (y' := (q ++ [(Qf.mk j m)])) rfl rfl i55 hm.s0 hm.s1 hm.o0 (Z2 az).2 hm.o1 ⟨u0, rfl⟩)) (fun a => Zt rfl rfl) (gF [0,0,0,0,12,28,0,64,252,511,1023] Q0 rfl (by kernel_rfl) (fun _ => by kernel_rfl) (fun a u hu => (Qk (tN (Qg hu (Qs (oI rfl (mw rfl ?_))))))))))
 refine nL (tN ?_)
 refine Qe ?_ (hgo2 ac g x0 ad af ag ai aj al am (wI (an + (1:Int))) x1 ap aq au av ay (List.set p (Int.toNat g) (q ++ [(Qf.mk j m)])) v aa b h)
 exact tr rfl (.c (.s (.s .z)) (.c (.s (.s .z)) (.c (.s (.s .z)) (.c (.s (.s .z)) (.c (.s (.s .z)) (.n _))))))
theorem Ea {r : Qc} (K bx0 : Nat) (wx1 : Value) (x1 : List Int) (go2 : Int → Int → Qc → Int → Int → (List (List Qf)) → Int → Int → (List Qf) → Int → Int → (List Int) → (List Qa) → (List Int) → (List Int) → (List Int) → (List (List Qf)) → (List (List Qf)) → Option Qc) (hgo2 : Kg bx0 wx1 x1 r go2) (a b : Int) (x0 : Qc) (f g : Int) (i : List (List Qf)) (j l : Int) (m : List Qf) (p q : Int) (x1 : List Int) (s : List Qa) (u v w : List Int) (y aa : List (List Qf)) (ab : Value) (ac : Nat) (ad : Value) (af : Nat) (h : Uq K go2 a b x0 f g i j l m p q x1 s u v w y aa = some r) : T tp 102 (ca [1,0,1,0,0,1,1,0,0,1,1,0,1,0,0,1,1,0,0,1,1,0,0,1,1,0,0,1,1,0,1,1] Qgr) ⟨[(0, .ptr bx0 0), (1, .c (.ex wx1)), (4, .c (.ex ab)), (5, .int .i64 a), (6, .ptr ac 0), (7, .c (.ex ad)), (8, .int .i64 b), (12, .ptr af 0), (24, .sl false 4 (x0.Auto.States.map Qh)), (25, .int .i64 f), (26, .int .i64 g), (36, .sl false 1 (i.map (cL 2 Qn))), (37, .int .i64 j), (38, .int .i64 l), (43, .sl false 2 (m.map Qn)), (44, .int .i64 p), (45, .int .i64 q)], [(We bx0 x0.Auto.Split.Of x0.Auto.Split.Many x0.Auto.Counts x0.Auto.States), .arrX wx1 3 1 0 (mI x1), .arrX ab 51 4 0 (s.map Qh), (J5 ac u v w y), .arrG ad 55 (gc 54 2 Qn aa), (Qe0 af (-1:Int) ([] : List Int))]⟩ (Wz bx0 wx1 x1 r) := by
 unfold Uq at h
 refine T.skip (tN ?_)
 refine Qg ?_ (Eb K bx0 wx1 x1 go2 hgo2 a b x0 f g i j l m p q x1 s u v w y aa (-1:Int) [] ab ac ad af h)
 exact tq rfl rfl
abbrev D8 (bx0 : Nat) (wx1 : Value) (x1 : List Int) (r : Qc) (go : Int → Qc → Int → Int → (List (List Qf)) → Int → Int → (List Int) → (List Qa) → (List Int) → (List Int) → (List Int) → (List (List Qf)) → (List (List Qf)) → Option Qc) : Prop := ∀ (a : Int) (x0 : Qc) (b f : Int) (g : List (List Qf)) (i j : Int) (x1 : List Int) (l : List Qa) (m n p : List Int) (q s : List (List Qf)) (u : Value) (v : Nat) (w : Value), go a x0 b f g i j x1 l m n p q s = some r → TL tp 102 (ca [1,0,1,0,0,1,1,0,0,1,1,0,1,0,0] Qgr) ⟨[(0, .ptr bx0 0), (1, .c (.ex wx1)), (4, .c (.ex u)), (5, .int .i64 a), (6, .ptr v 0), (7, .c (.ex w)), (24, .sl false 4 (x0.Auto.States.map Qh)), (25, .int .i64 b), (26, .int .i64 f), (36, .sl false 1 (g.map (cL 2 Qn))), (37, .int .i64 i), (38, .int .i64 j)], [(We bx0 x0.Auto.Split.Of x0.Auto.Split.Many x0.Auto.Counts x0.Auto.States), .arrX wx1 3 1 0 (mI x1), .arrX u 51 4 0 (l.map Qh), (J5 v m n p q), .arrG w 55 (gc 54 2 Qn s)]⟩ (Jr bx0 wx1 x1 r)
theorem Qbh {r : Qc} (K bx0 : Nat) (wx1 : Value) (x1 : List Int) (go1 : Int → Qc → Int → Int → (List (List Qf)) → Int → Int → (List Int) → (List Qa) → (List Int) → (List Int) → (List Int) → (List (List Qf)) → (List (List Qf)) → Option Qc) (hgo1 : D8 bx0 wx1 x1 r go1) : ∀ (k : Nat), Kg bx0 wx1 x1 r (Z6 K go1 k) := by
 intro k
 induction k with
 | zero =>
  intro aa au x0 ab ac ad af ag ai av ay x1 aj al am an ap aq q w y h
  exact zn h
 | succ k ih =>
  intro aa au x0 ab ac ad af ag ai av ay x1 aj al am an ap aq q w y h
  rw [Z6] at h
  refine Q7 (sR (Qs (oI rfl (nL (tN (T.seq ?_))))))
  rcases Qd h with ⟨a0, h⟩ | ⟨a0, h⟩
  refine Qp rfl a0 (T.skip (tN (T.seq (T.block (sR (Qs ?_))))))
  obtain ⟨a, a2, h⟩ := bind_some h
  refine oX ai Qn Rs i54 a2 rfl (oJ Dq i54 rfl (sp rfl (Ze rfl (dk rfl) i54 rfl (fun j => (sp rfl (Qy (i := 0) (cells' := [.d (.int .i64 a.To), .d (.sl false 1 (mU a.Ops))]) rfl rfl i54 rfl rfl rfl rfl (nb rfl) rfl (nL (tN (sR (Qs (sp rfl (Zq (OpT.build (l := [.int .i64 (-1:Int), .ex (.slice none 0 0)]) rfl (dk rfl) (Zr (pl := [(0, 1), (1, 1)]) Dq i54 rfl) (H4 rfl) rfl rfl rfl) (Ya 49 (l := [.int .i64 (-1:Int), .ex (.slice none 0 0)]) (l' := [.int .i64 (-1:Int), .sl false 1 (([] : List Int).map (cI .u8))]) (.cons (.same _) (.cons (.nil _ _) (.refl _)))) (sp rfl (Ze rfl (dk rfl) i54 rfl (fun p => ?_)))))))))))))))
  refine sp rfl (Qy (i := 0) (cells' := [.d (.int .i64 (-1:Int)), .d (.sl false 1 (([] : List Int).map (cI .u8)))]) rfl rfl i54 rfl rfl rfl rfl (nb rfl) rfl (nL (tN (T.seq (sR (Qs (oP Dq i3 rfl (oL 1 ul3 rfl (oI rfl ?_)))))))))
  refine mw rfl ?_
  rcases Qd h with ⟨b, h⟩ | ⟨b, h⟩
  refine sn rfl b (OpT.move rfl (dk rfl) rfl (sn rfl b (Vf rfl (dk rfl) Dq rfl i3 (by decide) rfl (sn rfl b (Yb (i := 1) rfl (dk rfl) ul3 rfl rfl rfl rfl ?_)))))
  obtain ⟨g, az, h⟩ := bind_some h
  refine sn rfl b (Yj (n := 3) (xs := x1) (f := (cI .i64)) (old := g) rfl (dk rfl) Zs i3 rfl rfl rfl az (sn rfl b (Hd (i := 3) (xs := x1) (f := (cI .i64)) (old := g) rfl (dk rfl) ul3 rfl rfl rfl (Z2 az).2 rfl (sn rfl b (Z1 rfl rfl (dk rfl) rfl rfl (oY b rfl (nL (tN ?_))))))))
  rcases Qd h with ⟨a1, h⟩ | ⟨a1, h⟩
  refine Qp rfl a1 (Z7 (dV rfl rfl (dP rfl (.f rfl) Dq i3 rfl (dL 1 rfl (.f rfl) ul3 rfl (dS (c := ⟨some 64, .el wx1 1 (Int.toNat a.To) 0, [(61, .c (.ex wx1)), (63, .int .i64 a.To)], [(3, .arrX wx1 3 1 0 (mI x1))], []⟩) (fun t hm => oF rfl rfl (Yj (n := 3) (xs := x1) (f := (cI .i64)) (old := g) rfl (dk rfl) Zs i3 hm.s0 hm.o0 hm.s1 az rfl)) rfl rfl (dS (c := ⟨some 65, .int .i64 g, [(64, .el wx1 1 (Int.toNat a.To) 0)], [(3, .arrX wx1 3 1 0 (mI x1))], []⟩) (fun t hm => oF rfl rfl (Hd (i := 3) (xs := x1) (f := (cI .i64)) (old := g) rfl (dk rfl) ul3 rfl hm.s0 hm.o0 (Z2 az).2 rfl rfl)) rfl rfl ?_))))))
  refine dP rfl (.f rfl) Dq i52 rfl (dL 1 rfl (.f rfl) B1 rfl ?_)
  obtain ⟨m, a3, h⟩ := bind_some h
  refine dH fu94 (Zm.nil (I7 K (flx0 := false) a3)) rfl (.f rfl) rfl (dS (c := ⟨some 69, .agg [.int .i64 g, .sl false 1 (mU m)], [(65, .int .i64 g), (68, .sl false 1 (mU m))], [], []⟩) (fun t hm => oF rfl rfl (OpT.build (l := [.int .i64 g, .sl false 1 (mU m)]) rfl (dk rfl) (Zr (pl := [(0, 1), (1, 1)]) Dq i54 rfl) (H4 rfl) (Xe hm.s0 rfl (Xe hm.s1 rfl Wt)) rfl rfl)) rfl rfl (dS (c := ⟨none, .any, [(12, .ptr p 0), (69, .agg [.int .i64 g, .sl false 1 (mU m)])], [(0, (Qe0 p (-1:Int) ([] : List Int)))], [(0, (Qe0 p g m))]⟩) (fun t hm => oF rfl rfl (Qy (i := 0) (cells' := [.d (.int .i64 g), .d (.sl false 1 (mU m))]) rfl rfl i54 hm.s0 hm.s1 rfl hm.o0 (nb rfl) rfl rfl)) rfl rfl (dF [0,0,2,7,15,0,32,96,255,511] Q0 rfl (by kernel_rfl) (fun u hu => (tN (Qg hu ?_))))))
  refine Qg ?_ (Eb K bx0 wx1 x1 (Z6 K go1 k) ih aa au x0 ab ac ad af ag ai av ay x1 aj al am an ap aq g m q w y p h)
  exact tr rfl (.c (.s (.s .z)) (.c (.s (.s .z)) (.c (.s (.s .z)) (.c (.s (.s .z)) (.c (.s (.s .z)) (.c .z (.n _)))))))
  refine Qo rfl a1 ?_
  refine Qg ?_ (Ea K bx0 wx1 x1 (Z6 K go1 k) ih aa au x0 ab ac ad af ag ai av ay x1 aj al am an ap aq q w y p h)
  exact tr rfl (.c (.s (.s .z)) (.c (.s (.s .z)) (.c (.s (.s .z)) (.c (.s (.s .z)) (.c (.s (.s .z)) (.c .z (.n _)))))))
  refine pf rfl b (pf rfl b (pf rfl b (pf rfl b (pf rfl b (pf rfl b (oZ b rfl ?_))))))
  refine nL (tN (Qo rfl rfl ?_))
  refine Qg ?_ (Ea K bx0 wx1 x1 (Z6 K go1 k) ih aa au x0 ab ac ad af ag ai av ay x1 aj al am an ap aq q w y p h)
  exact tr rfl (.c (.s (.s .z)) (.c (.s (.s .z)) (.c (.s (.s .z)) (.c (.s (.s .z)) (.c (.s (.s .z)) (.c .z (.n _)))))))
  refine Qo rfl a0 (T.exit (Ql (Ql (Qu (Qk (tN (Qs (oI rfl (mw rfl (nL (tN ?_)))))))))))
  refine Qe ?_ (hgo1 aa x0 ab ac ad af (wI (ag + (1:Int))) x1 aj al am an ap aq q w y h)
  exact tq rfl rfl
abbrev D9 (bx0 : Nat) (wx1 : Value) (x1 : List Int) (r : Qc) (go : Qc → Int → Int → (List Int) → (List Qa) → Option Qc) : Prop := ∀ (x0 : Qc) (a b : Int) (x1 : List Int) (f : List Qa) (g : Value), go x0 a b x1 f = some r → TL tp 102 (ca [1,0,1,0,0] Qgr) ⟨[(0, .ptr bx0 0), (1, .c (.ex wx1)), (4, .c (.ex g)), (24, .sl false 4 (x0.Auto.States.map Qh)), (25, .int .i64 a), (26, .int .i64 b)], [(We bx0 x0.Auto.Split.Of x0.Auto.Split.Many x0.Auto.Counts x0.Auto.States), .arrX wx1 3 1 0 (mI x1), .arrX g 51 4 0 (f.map Qh)]⟩ (Cj bx0 wx1 x1 r)
theorem Qbi {r : Qc} (K bx0 : Nat) (wx1 : Value) (x1 : List Int) (go0 : Qc → Int → Int → (List Int) → (List Qa) → Option Qc) (hgo0 : D9 bx0 wx1 x1 r go0) : ∀ (k : Nat), D8 bx0 wx1 x1 r (Y5 K go0 k) := by
 intro k
 induction k with
 | zero =>
  intro s x0 ac ad ag am ai x1 j w y aa ab b g a aj h
  exact zn h
 | succ k ih =>
  intro s x0 ac ad ag am ai x1 j w y aa ab b g a aj h
  rw [Y5] at h
  refine Q7 (sR (Qs (oI rfl (nL (tN (T.seq ?_))))))
  rcases Qd h with ⟨al, h⟩ | ⟨al, h⟩
  refine Qp rfl al (T.skip (tN (T.seq (T.block (sR (Qs (mw rfl ?_)))))))
  obtain ⟨af, aq, h⟩ := bind_some h
  refine oX ag (cL 2 Qn) T0 i55 aq rfl (oR Rs rfl (aw rfl (aw rfl (nL (tN (sR (Qs (mw rfl (oU af Qn Rs rfl ?_)))))))))
  refine mw rfl (nL (tN (T.block (T.loop ?_))))
  refine Qe ?_ (Qbh K bx0 wx1 x1 (Y5 K go0 k) ih K s ai x0 ac ad ag am ai af (af.length : Int) (0:Int) x1 j w y aa ab b g a aj h)
  exact tq rfl rfl
  refine Qo rfl al (T.exit (Ql (Ql (Qu (tN (Qg (Z3.dataG (l := b) 4 rfl) (Qg (Ke 4 rfl) (Qg (Z3.view 7 4 rfl rfl) (Z7 (dV rfl rfl ?_))))))))))
  refine dV rfl rfl (dP rfl (.f rfl) Hx i38 rfl (dL 3 rfl (.f rfl) Zs rfl ?_))
  obtain ⟨m, au, h⟩ := bind_some h
  refine dH fu95 (Zm.nil (Ju K (flx0 := false) au)) rfl (.f rfl) rfl (dP rfl (.f rfl) Hx i38 rfl (dL 3 rfl (.f rfl) Zs rfl ?_))
  obtain ⟨p, av, h⟩ := bind_some h
  refine dH fu95 (Zm.nil (Ju K (flx0 := false) av)) rfl (.f rfl) rfl (dP rfl (.f rfl) Hx i38 rfl (dL 3 rfl (.f rfl) Zs rfl ?_))
  obtain ⟨q, ay, h⟩ := bind_some h
  refine dH fu95 (Zm.nil (Ju K (flx0 := false) ay)) rfl (.f rfl) rfl (dV rfl rfl (dS (c := ⟨some 94, .agg [.sl false 1 (mI m), .sl false 1 (mI p), .sl false 1 (mI q), .sl false 1 (b.map (cL 2 Qn))], [(86, .sl false 1 (mI m)), (89, .sl false 1 (mI p)), (92, .sl false 1 (mI q)), (93, .sl false 1 (b.map (cL 2 Qn)))], [], []⟩) (fun t hm => oF rfl rfl (OpT.build (l := [.sl false 1 (mI m), .sl false 1 (mI p), .sl false 1 (mI q), .sl false 1 (b.map (cL 2 Qn))]) rfl (dk rfl) (Zr (pl := [(0, 1), (1, 1), (2, 1), (3, 1)]) Hx i51 rfl) (H4 rfl) (Xe hm.s0 rfl (Xe hm.s1 rfl (Xe hm.s2 rfl (Xe hm.s3 rfl Wt)))) rfl rfl)) rfl rfl ?_))
  obtain ⟨an, ap, h⟩ := bind_some h
  refine dS (c := ⟨some 95, .el g 4 (Int.toNat s) 0, [(82, .c (.ex g)), (83, .int .i64 s)], [(2, .arrX g 51 4 0 (j.map Qh))], []⟩) (fun t hm => oF rfl rfl (Yj (n := 2) (xs := j) (f := Qh) (old := an) rfl (dk rfl) Jm i51 hm.s0 hm.o0 hm.s1 ap rfl)) rfl rfl (dS (c := ⟨none, .any, [(95, .el g 4 (Int.toNat s) 0), (94, .agg [.sl false 1 (mI m), .sl false 1 (mI p), .sl false 1 (mI q), .sl false 1 (b.map (cL 2 Qn))])], [(2, .arrX g 51 4 0 (j.map Qh))], [(2, .arrX g 51 4 0 ((List.set j (Int.toNat s) (Qa.mk m p q b)).map Qh))]⟩) (fun t hm => oF rfl rfl (Qe3 (i := 2) (xs := j) (f := Qh) (old := an) (new := (Qa.mk m p q b)) rfl rfl i51 hm.s0 hm.s1 rfl hm.o0 (Z2 ap).2 (Qla _) (nb rfl) rfl rfl)) rfl rfl (dF [0,0,0,4,12,0,32,124,0,256,1020,0,4092,8191,16383] Q0 rfl (by kernel_rfl) (fun u hu => (Qk (tN (Qg hu (Qs (oI rfl (mw rfl (nL (tN ?_)))))))))))
  refine Qe ?_ (hgo0 x0 ac (wI (ad + (1:Int))) x1 (List.set j (Int.toNat s) (Qa.mk m p q b)) g h)
  exact tq rfl rfl
theorem Qbj {r : Qc} (K bx0 : Nat) (wx1 : Value) (x1 : List Int) : ∀ (k : Nat), D9 bx0 wx1 x1 r (Y6 K k) := by
 intro k
 induction k with
 | zero =>
  intro x0 p g x1 j b h
  exact zn h
 | succ k ih =>
  intro x0 p g x1 j b h
  rw [Y6] at h
  refine Q7 (sR (Qs (oI rfl (nL (tN (T.seq ?_))))))
  rcases Qd h with ⟨m, h⟩ | ⟨m, h⟩
  refine Qp rfl m (T.skip (tN (T.seq (T.block (sR (Qs (mw rfl ?_)))))))
  obtain ⟨a, q, h⟩ := bind_some h
  refine oX x0.Auto.States Qh Jm i51 q rfl (oJ Hx i51 rfl (sp rfl (Ze rfl (dk rfl) i51 rfl (fun u => (aw rfl (sp rfl (Qy (i := 0) (cells' := [.d (.sl false 1 (mI a.L)), .d (.sl false 1 (mI a.R)), .d (.sl false 1 (mI a.Rule)), .d (.sl false 1 (a.Next.map (cL 2 Qn)))]) rfl rfl i51 rfl rfl rfl rfl (nb rfl) rfl (nL (tN (sR (Qs (oP Hx i49 rfl ?_))))))))))))
  refine oL 0 T0 rfl (oU a.Next (cL 2 Qn) T0 rfl ?_)
  obtain ⟨w, h⟩ := Zb h
  obtain ⟨y, h⟩ := Zb h
  refine sp rfl (Su (e1 := 54) (esz := 2) (f := Qn) rfl (dk rfl) T0 i55 rfl rfl w y (fun aa => (aw rfl (nL (tN (T.seq (sR (Qs (oP Hx i49 rfl (oL 1 T0 rfl ?_))))))))))
  refine oU a.Next (cL 2 Qn) T0 rfl (mw rfl (nL (tN (T.block (T.loop ?_)))))
  refine Qe ?_ (Qbi K bx0 wx1 x1 (Y6 K k) ih K g x0 p g a.Next (a.Next.length : Int) (0:Int) x1 j a.L a.R a.Rule a.Next (List.replicate (Int.toNat (a.Next.length : Int)) ([] : List Qf)) b u aa h)
  exact tr rfl (.c (.s (.s .z)) (.c (.s (.s .z)) (.c (.s (.s .z)) (.c (.s .z) (.c .z (.n _))))))
  refine Qo rfl m (T.exit (Ql (Ql (Qu (tN (Qs (mw rfl (mw rfl (oK rfl (oP ul69 i28 rfl ?_))))))))))
  refine oP Wn i26 rfl (sp rfl (Jh (i := 0) (cells' := ((Zp.oc 256 .u8 x0.Auto.Split.Of) ++ (([.d (.int .i64 x0.Auto.Split.Many), .d (.sl false 2 (mA x0.Auto.Counts)), .d (.ex b)]:List OC)))) rfl rfl i26 rfl rfl rfl (nb rfl) rfl (nL (Xl (Ke 2 rfl) (Xl (Jp 0 (l := ((Zp.dc 256 .u8 x0.Auto.Split.Of) ++ (([.int .i64 x0.Auto.Split.Many, .sl false 2 (mA x0.Auto.Counts), .ex b] : List DC)))) (l' := ((Zp.dc 256 .u8 x0.Auto.Split.Of) ++ (([.int .i64 x0.Auto.Split.Many, .sl false 2 (mA x0.Auto.Counts), .sl false 4 (j.map Qh)] : List DC)))) rfl (.app _ (.cons (.same _) (.cons (.same _) (.cons (.view 2 rfl) (.refl _)))))) (Q6 (.nil) (.cons 0 rfl (.cons 0 rfl (.nil _))) (by cases h; exact ⟨gl [], rfl, rfl⟩)))))))
theorem N8 (K : Nat) {x0 : Qc} {x1 : List Int} {bx0 : Nat} {wx1 : Value} {r : Qc} (h : Ug K x0 x1 = some r) : Jb tp 56 [.ptr bx0 0, .c (.ex wx1)] [(We bx0 x0.Auto.Split.Of x0.Auto.Split.Many x0.Auto.Counts x0.Auto.States), .arrX wx1 3 1 0 (mI x1)] (fun γ => (.tup [])) (fun γ => [(We bx0 r.Auto.Split.Of r.Auto.Split.Many r.Auto.Counts r.Auto.States), .arrX wx1 3 1 0 (mI x1)]) := by
 refine CI 102 fu56 rfl ?_
 unfold Ug at h
 refine sR (Qs (mw rfl (oK rfl (oP ul69 i28 rfl (oP Wn i26 rfl (oL 0 Jm rfl (oU x0.Auto.States Qh Jm rfl ?_)))))))
 obtain ⟨a, h⟩ := Zb h
 obtain ⟨b, h⟩ := Zb h
 refine sp rfl (Qe4 (f := Qh) (zv := ((Qa.mk [] [] [] []) : Qa)) rfl (dk rfl) Jm i51 (by decide) rfl rfl (fun _ => .cons (.nil _ _) (.cons (.nil _ _) (.cons (.nil _ _) (.cons (.nil _ _) (.refl _))))) rfl rfl rfl a b (fun g => (aw rfl (nL (tN (T.seq (sR (Qs (mw rfl (oK rfl ?_))))))))))
 refine oP ul69 i28 rfl (oP Wn i26 rfl (oL 1 Jm rfl (oU x0.Auto.States Qh Jm rfl (mw rfl (nL (tN (T.block ?_)))))))
 refine T.loop ?_
 refine Qe ?_ (Qbj K bx0 wx1 x1 K x0 (x0.Auto.States.length : Int) (0:Int) x1 (List.replicate (Int.toNat (x0.Auto.States.length : Int)) ((Qa.mk [] [] [] []) : Qa)) g h)
 exact tr rfl (.c (.s .z) (.c (.s .z) (.c .z (.n _))))
abbrev Qfa (bx0 : Nat) (r : Qc) : ES := Jq tp ff26 (fun y t => ∃ γ : Nat → Value, y = (.tup []) ∧ t = [(We bx0 r.Auto.Split.Of r.Auto.Split.Many r.Auto.Counts r.Auto.States)])
abbrev Qbq (bx0 : Nat) (r : Qc) : ES := fT 36 [1,1] ff26 (Qfa bx0 r)
abbrev Sy (bx0 : Nat) (r : Qc) : ES := Qz 0 ((Qbq bx0 r))
theorem Qbr {r : Qc} (K bx0 : Nat) : ∀ (k : Nat), ∀ (g : List Bool) (l a : Int) (x0 : Qc) (b : List Int) (j : Value), Xo K k g l a x0 b = some r → TL tp 36 (ca [1,0,1,0,0] ff26) ⟨[(0, .ptr bx0 0), (2, .c (.ex j)), (16, .sl false 1 (g.map cB)), (17, .int .i64 l), (18, .int .i64 a)], [(We bx0 x0.Auto.Split.Of x0.Auto.Split.Many x0.Auto.Counts x0.Auto.States), .arrX j 3 1 0 (mI b)]⟩ (Sy bx0 r) := by
 intro k
 induction k with
 | zero =>
  intro g l a x0 b j h
  exact zn h
 | succ k ih =>
  intro g l a x0 b j h
  rw [Xo] at h
  refine Q7 (sR (Qs (oI rfl (nL (tN (T.seq ?_))))))
  rcases Qd h with ⟨m, h⟩ | ⟨m, h⟩
  refine Qp rfl m (T.skip (tN (T.seq (T.block (sR (Qs (mw rfl ?_)))))))
  obtain ⟨y, aa, h⟩ := bind_some h
  refine oX g cB ul33 i4 aa rfl (oR ul4 rfl (aw rfl (aw rfl (nL (tN (sR (Qs ?_)))))))
  iterate 3 refine mw rfl ?_
  obtain ⟨q, s, h⟩ := bind_some h
  refine sp rfl (Yj (n := 1) (xs := b) (f := (cI .i64)) (old := q) rfl (dk rfl) Zs i3 rfl rfl rfl s (sp rfl (Hv (i := 1) (xs := b) (f := (cI .i64)) (old := q) (new := a) rfl rfl i3 rfl rfl rfl (Z2 s).2 (Qla _) (nb rfl) rfl (nL (tN (sR (Qs (mw rfl (oT rfl (nL (tN ?_)))))))))))
  rcases Qd h with ⟨p, h⟩ | ⟨p, h⟩
  refine Qp rfl p (Qs (mw rfl (mw rfl ?_)))
  obtain ⟨u, w, h⟩ := bind_some h
  refine sp rfl (Yj (n := 1) (xs := (List.set b (Int.toNat a) a)) (f := (cI .i64)) (old := u) rfl (dk rfl) Zs i3 rfl rfl rfl w (sp rfl (Hv (i := 1) (xs := (List.set b (Int.toNat a) a)) (f := (cI .i64)) (old := u) (new := (-1:Int)) rfl rfl i3 rfl rfl rfl (Z2 w).2 (Qla _) (nb rfl) rfl (nL (Qk (tN (Qs (oI rfl (mw rfl (nL (tN ?_)))))))))))
  refine Qe ?_ (ih g l (wI (a + (1:Int))) x0 (List.set (List.set b (Int.toNat a) a) (Int.toNat a) (-1:Int)) j h)
  exact tq rfl rfl
  refine Qo rfl p (T.skip (Qk (tN (Qs (oI rfl (mw rfl (nL (tN ?_))))))))
  refine Qe ?_ (ih g l (wI (a + (1:Int))) x0 (List.set b (Int.toNat a) a) j h)
  exact tq rfl rfl
  refine Qo rfl m (T.exit (Ql (Ql (Qu (tN (Qs (mw rfl (mw rfl ?_))))))))
  obtain ⟨ac, ab, h⟩ := bind_some h
  refine sp rfl (Zc (is := [0, 1]) (ph := []) rfl (dk rfl) fu56 rfl rfl (Zw.cons rfl (Zw.cons rfl Zw.nil)) (N8 K (bx0 := bx0) (wx1 := j) ab) (.cons rfl rfl (.cons rfl rfl (.nil))) (fun _ => rfl) (fun ad => (nm (.c (.c (.n))) (nL (Q6 (.nil) (.cons 0 rfl (.nil _)) (by cases h; exact ⟨gl [], rfl, rfl⟩))))))
theorem Qfb (K : Nat) {x0 : Qc} {bx0 : Nat} {r : Qc} (h : Gl K x0 = some r) : Jb tp 26 [.ptr bx0 0] [(We bx0 x0.Auto.Split.Of x0.Auto.Split.Many x0.Auto.Counts x0.Auto.States)] (fun γ => (.tup [])) (fun γ => [(We bx0 r.Auto.Split.Of r.Auto.Split.Many r.Auto.Counts r.Auto.States)]) := by
 refine CI 36 fu26 rfl ?_
 unfold Gl at h
 refine sR (Qs (mw rfl (oK rfl (oP ul69 i28 rfl (oP Wn i26 rfl (oL 0 Jm rfl (oU x0.Auto.States Qh Jm rfl ?_)))))))
 obtain ⟨b, h⟩ := Zb h
 obtain ⟨g, h⟩ := Zb h
 refine sp rfl (Kf (f := (cI .i64)) (zv := ((0:Int) : Int)) rfl (dk rfl) Zs i3 (by decide) rfl rfl rfl rfl rfl b g (fun j => (aw rfl (nL (tN (T.seq (sR (Qs (mw rfl (oK rfl ?_))))))))))
 refine oP ul69 i28 rfl (oA 1 ((Zp.dc 256 .u8 x0.Auto.Split.Of) ++ (([.int .i64 x0.Auto.Split.Many, .sl false 2 (mA x0.Auto.Counts), .sl false 4 (x0.Auto.States.map Qh)] : List DC))) Wn i28 rfl ?_)
 obtain ⟨a, m, h⟩ := bind_some h
 refine oH fu12 (Zm.nil (trim_Live_T K m)) rfl (oU a cB ul33 rfl (mw rfl (nL (tN (T.block (T.loop ?_))))))
 refine Qe ?_ (Qbr K bx0 K a (a.length : Int) (0:Int) x0 (List.replicate (Int.toNat (x0.Auto.States.length : Int)) ((0:Int) : Int)) j h)
 exact tr rfl (.c (.s .z) (.c .z (.n _)))
abbrev bits_Mul64_q (r : Int × Int) : ES := Jq tp ff120 (fun y t => y = (.tup [.int .u64 r.1, .int .u64 r.2]) ∧ t = [])
theorem bits_Mul64_T (K : Nat) {x0 x1 : Int} {r : Int × Int} (h : Qim K x0 x1 = some r) : Zm tp 120 [.int .u64 x0, .int .u64 x1] [] (.tup [.int .u64 r.1, .int .u64 r.2]) := by
 refine CI 51 fu120 rfl ?_
 unfold Qim at h
 refine sR (Qs (aw rfl (aw rfl (nL (tN (sR (Qs (mw rfl (oI rfl (aw rfl ?_))))))))))
 refine nL (tN (sR (Qs (mw rfl (sp rfl (OpT.shr rfl (dk rfl) rfl rfl (by decide) (aw rfl (nL (tN (sR (Qs (mw rfl (oI rfl ?_)))))))))))))
 refine aw rfl (nL (tN (sR (Qs (mw rfl (sp rfl (OpT.shr rfl (dk rfl) rfl rfl (by decide) (aw rfl (nL (tN (sR (Qs (mw rfl ?_)))))))))))))
 refine mw rfl (oI rfl (aw rfl (nL (tN (sR (Qs (mw rfl (mw rfl (oI rfl ?_)))))))))
 refine mw rfl (sp rfl (OpT.shr rfl (dk rfl) rfl rfl (by decide) (oI rfl (aw rfl (nL (tN (sR (Qs (mw rfl (oI rfl ?_))))))))))
 refine aw rfl (nL (tN (sR (Qs (mw rfl (sp rfl (OpT.shr rfl (dk rfl) rfl rfl (by decide) (aw rfl (nL (tN (sR (Qs ?_))))))))))))
 iterate 3 refine mw rfl ?_
 refine oI rfl (oI rfl (aw rfl (nL (tN (sR (Qs (mw rfl (mw rfl (oI rfl ?_)))))))))
 refine mw rfl (oI rfl (mw rfl (sp rfl (OpT.shr rfl (dk rfl) rfl rfl (by decide) (oI rfl (aw rfl (nL (tN (sR (Qs ?_))))))))))
 refine mw rfl (mw rfl (oI rfl (aw rfl (nL (tN (T.ret (Fin.done (.cons _ _ _ _ (.tmp 4 _ rfl) (.cons _ _ _ _ (.tmp 5 _ rfl) .nil)) (by cases h; exact ⟨rfl, rfl⟩))))))))
abbrev bits_Mul_q (r : Int × Int) : ES := Jq tp ff96 (fun y t => y = (.tup [.int .u64 r.1, .int .u64 r.2]) ∧ t = [])
theorem bits_Mul_T (K : Nat) {x0 x1 : Int} {r : Int × Int} (h : Qhv K x0 x1 = some r) : Zm tp 96 [.int .u64 x0, .int .u64 x1] [] (.tup [.int .u64 r.1, .int .u64 r.2]) := by
 refine CI 30 fu96 rfl ?_
 unfold Qhv at h
 refine sR (Qs (aw rfl (aw rfl (nL (tN (T.seq (Qo rfl rfl (T.skip (tN ?_)))))))))
 refine sR (Qs (mw rfl (mw rfl ?_)))
 obtain ⟨b, a, h⟩ := bind_some h
 refine oH fu120 (Zm.nil (bits_Mul64_T K a)) rfl (mw rfl (oE rfl (oE rfl (aw rfl (aw rfl (nL (tN (sR (Qs ?_)))))))))
 refine mw rfl (mw rfl (aw rfl (aw rfl (nL (tN (T.ret (Fin.done (.cons _ _ _ _ (.tmp 4 _ rfl) (.cons _ _ _ _ (.tmp 5 _ rfl) .nil)) (by cases h; exact ⟨rfl, rfl⟩))))))))
abbrev Oj (r : List Int) : ES := Jq tp ff57 (fun y t => ∃ γ : Nat → Value, y = (.c (.ex (γ 0))) ∧ t = [.arrX (γ 0) 3 1 0 (mI r)])
abbrev S1 (r : List Int) : ES := fT 48 [1,1,1,1] ff57 (Oj r)
abbrev Oi (r : List Int) : ES := fT 48 [1,1,1,1,1,1,1] ff57 (Oj r)
abbrev Ig (r : List Int) : ES := Qz 0 ((Oi r))
theorem Ef {r : List Int} (K : Nat) (x0 : List Int) (a : Int) (flx0 : Bool) (h : H5 K x0 a = some r) : T tp 48 (ca [1,1,1,0,1,0] ff57) ⟨[(0, .sl flx0 1 (mI x0)), (6, .int .u64 a)], []⟩ (S1 r) := by
 unfold H5 at h
 refine Qs ?_
 cases h
theorem Qbs {r : List Int} (K : Nat) : ∀ (k : Nat), ∀ (a : Int) (b : List Int) (d : Value), Ut K k a b = some r → TL tp 48 (ca [1,1,1,1,1,1,0,0,0] ff57) ⟨[(7, .c (.ex d)), (8, .int .i64 a)], [.arrX d 3 1 0 (mI b)]⟩ (Ig r) := by
 intro k
 induction k with
 | zero =>
  intro a b d h
  exact zn h
 | succ k ih =>
  intro a b d h
  rw [Ut] at h
  refine Q7 (T.seq (sR (Qs (mw rfl (mw rfl (sp rfl (Hn (i := 0) (xs := b) (f := (cI .i64)) rfl (dk rfl) Zs rfl rfl (oI rfl ?_))))))))
  refine nL (tN ?_)
  rcases Qd h with ⟨j, h⟩ | ⟨j, h⟩
  refine Qp rfl j (T.skip (tN (T.block (Z7 (dV rfl rfl (dV rfl rfl (dV rfl rfl ?_)))))))
  obtain ⟨g, h⟩ := Zb h
  refine dS (c := ⟨some 41, .sub d 1 (Int.toNat a), [(39, .c (.ex d)), (40, .int .i64 a)], [(0, .arrX d 3 1 0 (mI b))], []⟩) (fun t hm => oF rfl rfl (OpT.sliceSub (i := 0) (xs := b) (f := (cI .i64)) (l := (Int.toNat a)) rfl (dk rfl) Zs i3 hm.s0 hm.o0 (.some _ _ _ _ hm.s1 g.1) g.2 rfl)) rfl rfl (dV rfl rfl (dV rfl rfl (dS (c := ⟨some 44, .pre d (Int.toNat a), [(42, .c (.ex d)), (43, .int .i64 a)], [(0, .arrX d 3 1 0 (mI b))], []⟩) (fun t hm => oF rfl rfl (OpT.slicePre (i := 0) (xs := b) (f := (cI .i64)) (h := (Int.toNat a)) rfl (dk rfl) Zs i3 hm.s0 hm.o0 (.some _ _ _ _ hm.s1 g.1) g.2 rfl)) rfl rfl ?_)))
  obtain ⟨m, h⟩ := Zb h
  refine dS (c := ⟨some 45, .int .i64 (((min (Int.toNat a) (b.length - (Int.toNat a))) : Nat) : Int), [(41, .sub d 1 (Int.toNat a)), (44, .pre d (Int.toNat a))], [(0, .arrX d 3 1 0 (mI b))], [(0, .arrX d 3 1 0 ((b.take (Int.toNat a) ++ b.take (min (Int.toNat a) (b.length - (Int.toNat a))) ++ b.drop ((Int.toNat a) + (min (Int.toNat a) (b.length - (Int.toNat a))))).map (cI .i64)))]⟩) (fun t hm => oF rfl rfl (OpT.copySelf (i := 0) (k := .i64) (xs := b) (l := (Int.toNat a)) (h := (Int.toNat a)) rfl (dk rfl) Zs i3 hm.s0 hm.o0 hm.s1 m.1 m.2 rfl)) rfl rfl (dI rfl (.f rfl) rfl (dA rfl (.f rfl) rfl (dF [0,0,0,6,0,0,48,126,255,511] Q0 rfl (by kernel_rfl) (fun u hu => (Qk (tN (Qe hu ?_)))))))
  refine Qe ?_ (ih (wI (a + (((min (Int.toNat a) (b.length - (Int.toNat a))) : Nat) : Int))) (b.take (Int.toNat a) ++ b.take (min (Int.toNat a) (b.length - (Int.toNat a))) ++ b.drop ((Int.toNat a) + (min (Int.toNat a) (b.length - (Int.toNat a))))) d h)
  exact tq rfl rfl
  refine Qo rfl j (T.exit (Ql (Ql (Qu (tN (sR (Qs (mw rfl (aw rfl (nL (tN (T.ret ?_))))))))))))
  exact Q6 (.cons _ _ _ _ (.tmp 4 _ rfl) .nil) (.cons 0 rfl (.nil _)) (by cases h; exact ⟨gl [d], rfl, rfl⟩)
theorem Qfj (K : Nat) {x0 : List Int} {x1 : Int} {flx0 : Bool} {r : List Int} (h : Gm K x0 x1 = some r) : Jb tp 57 [.sl flx0 1 (mI x0), .int .i64 x1] [] (fun γ => (.c (.ex (γ 0)))) (fun γ => [.arrX (γ 0) 3 1 0 (mI r)]) := by
 refine CI 48 fu57 rfl ?_
 unfold Gm at h
 refine sR (Qs (aw rfl (nL (tN (T.seq (sR (Qs (mw rfl (oI rfl ?_)))))))))
 refine nL (tN ?_)
 rcases Qd h with ⟨d, h⟩ | ⟨d, h⟩
 refine Qp rfl d (Qs ?_)
 cases h
 refine Qo rfl d (T.skip (tN (sR (Qs (mw rfl (oU x0 (cI .i64) Zs rfl (sp rfl (Uf rfl (dk rfl) ul3 ul159 rfl (mw rfl ?_)))))))))
 refine sp rfl (Uf rfl (dk rfl) ul3 ul159 rfl ?_)
 obtain ⟨b, l, h⟩ := bind_some h
 refine oH fu96 (Zm.nil (bits_Mul_T K l)) rfl (mw rfl (oE rfl (oE rfl (aw rfl (aw rfl (nL (tN ?_)))))))
 refine T.seq (sR (Qs (mw rfl (oI rfl (mw rfl ?_)))))
 rcases Qd h with ⟨a, h⟩ | ⟨a, h⟩
 refine pf rfl a (pf rfl a (oY a rfl (nL (tN (Qp rfl rfl ?_)))))
 refine Qg ?_ (Ef K x0 b.2 flx0 h)
 exact tq rfl rfl
 refine sn rfl a (OpT.move rfl (dk rfl) rfl (sn rfl a (Z1 rfl rfl (dk rfl) rfl rfl (oZ a rfl (nL (tN ?_))))))
 rcases Qd h with ⟨g, h⟩ | ⟨g, h⟩
 refine Qp rfl g ?_
 refine Qg ?_ (Ef K x0 b.2 flx0 h)
 exact tq rfl rfl
 refine Qo rfl g (T.skip (tN (sR (Qs (mw rfl (sp rfl (Uf rfl (dk rfl) ul159 ul3 rfl ?_)))))))
 obtain ⟨m, h⟩ := Zb h
 obtain ⟨p, h⟩ := Zb h
 refine sp rfl (Kf (f := (cI .i64)) (zv := ((0:Int) : Int)) rfl (dk rfl) Zs i3 (by decide) rfl rfl rfl rfl rfl m p (fun q => (aw rfl (nL (tN (sR (Qs (mw rfl (mw rfl ?_)))))))))
 obtain ⟨j, h⟩ := Zb h
 refine sp rfl (OpT.copyInts (i := 0) (k := .i64) (xs := (List.replicate (Int.toNat (wI b.2)) ((0:Int) : Int))) (ys := x0) rfl (dk rfl) Zs i3 rfl rfl rfl j.1 j.2 (aw rfl (nL (tN (T.seq (T.block (T.loop ?_)))))))
 refine Qe ?_ (Qbs K K (x0.length : Int) (x0 ++ (List.replicate (Int.toNat (wI b.2)) ((0:Int) : Int)).drop x0.length) q h)
 exact tq rfl rfl
end Go.Rv

/- Each function computes what its plain text says: printed by a program of ours. -/
import Derived.Test.YtcmfaclkgdmpbaaGreatDoorRgW4
namespace Go.Rv
open Go.Proofs
set_option maxRecDepth 100000
set_option maxHeartbeats 4000000
set_option linter.unusedVariables false
abbrev Qdv (r : Bool) : ES := Jz tp ff24 (fun y t => y = (.bool r) ∧ t = [])
abbrev Qfg (r : Bool) : ES := fT 79 [1,1] ff24 (Qdv r)
abbrev Qeh (r : Bool) : ES := fT 79 [1,1,1] ff24 (Qdv r)
abbrev I2 (r : Bool) : ES := Qz 0 ((Qeh r))
abbrev Qcr (r : Bool) : ES := fL 79 [1,1,0,1,0,0] ff24 (I2 r)
abbrev Sf (r : Bool) : ES := fT 79 [1,1,0,1,0,0,1,1,1] ff24 (Qcr r)
abbrev Iv (r : Bool) : ES := Qz 1 ((Sf r))
theorem Lf {r : Bool} (K : Nat) (h : Xz K = some r) : T tp 79 (ca [1,0,1,0] ff24) ⟨[], []⟩ (Qfg r) := by
 unfold Xz at h
 refine sR (Qq (aw rfl (nL (tN (T.ret (Qy (fd rfl (by cases h; exact ⟨rfl, rfl⟩))))))))
theorem M5 {r : Bool} (K : Nat) (h : H4 K = some r) : T tp 79 (ca [1,1,0,1,0,0,1,1,0,0,1,1,0] ff24) ⟨[], []⟩ (Iv r) := by
 unfold H4 at h
 refine sR (Qq (aw rfl (nL (tN (T.ret (Q7 (Qy (Qy (Q7 (Qy (fd rfl (by cases h; exact ⟨rfl, rfl⟩))))))))))))
theorem Qfh {r : Bool} (K : Nat) : ∀ (k : Nat), ∀ (x0 : Qn) (p q : Int) (u : Nat), J7 K k x0 p q = some r → TL tp 79 (ca [1,1,0,1,0,0] ff24) ⟨[(1, .ptr u 0), (45, .sl false 2 (mA x0.Counts)), (46, .int .i64 p), (47, .int .i64 q)], [(b28x12 u x0.Split.Of x0.Split.Many x0.Counts x0.States)]⟩ (I2 r) := by
 intro k
 induction k with
 | zero =>
  intro x0 p q u h
  exact zn h
 | succ k ih =>
  intro x0 p q u h
  rw [J7] at h
  refine Za (sR (Qq (oI rfl (nL (tN (T.seq ?_))))))
  rcases Qh h with ⟨w, h⟩ | ⟨w, h⟩
  refine Qt rfl w (T.skip (tN (T.seq (T.block (sR (Qq ?_))))))
  obtain ⟨m, ab, h⟩ := bind_some h
  refine oX x0.Counts (X2.dc .i64) ul25 i59 ab rfl (oJ ul59 i59 rfl (sp rfl (Zg rfl (dk rfl) i59 rfl (fun ad => (sp rfl (Qv (i := 0) (cells' := (X2.oc .i64 m)) rfl rfl i59 rfl rfl rfl rfl (nb rfl) rfl (nL (tN (sR (Qq (sp rfl (Uq rfl (dk rfl) ul59 i3 rfl rfl (by decide) (by decide) (sp rfl (Yr (i := 0) rfl (dk rfl) ul3 rfl rfl rfl (F0 (k := .i64) (a := m) (pre := []) (post := []) (by decide) (by decide)) ?_))))))))))))))
  refine oI rfl (mw rfl ?_)
  rcases Qh h with ⟨b, h⟩ | ⟨b, h⟩
  refine pf rfl b (pf rfl b (pf rfl b (pf rfl b (pf rfl b (oY b rfl (mw rfl ?_))))))
  refine pf rfl rfl (pf rfl rfl (pf rfl rfl (oY rfl rfl (mw rfl (pf rfl rfl (pf rfl rfl ?_))))))
  refine pf rfl rfl (oY rfl rfl (nL (tN (Qt rfl rfl ?_))))
  refine Qm ?_ (M5 K h)
  exact tq rfl rfl
  refine sn rfl b (Uq rfl (dk rfl) ul59 i3 rfl rfl (by decide) (by decide) (sn rfl b (Yr (i := 0) rfl (dk rfl) ul3 rfl rfl rfl (F0 (k := .i64) (a := m) (pre := []) (post := []) (by decide) (by decide)) (sn rfl b (Uq rfl (dk rfl) ul59 i3 rfl rfl (by decide) (by decide) (sn rfl b (Yr (i := 0) rfl (dk rfl) ul3 rfl rfl rfl (F0 (k := .i64) (a := m) (pre := []) (post := []) (by decide) (by decide)) (sn rfl b (Z9 rfl rfl (dk rfl) rfl rfl (oZ b rfl (mw rfl ?_)))))))))))
  rcases Qh h with ⟨g, h⟩ | ⟨g, h⟩
  refine pf rfl g (pf rfl g (pf rfl g (oY g rfl (mw rfl (pf rfl rfl (pf rfl rfl ?_))))))
  refine pf rfl rfl (oY rfl rfl (nL (tN (Qt rfl rfl ?_))))
  refine Qm ?_ (M5 K h)
  exact tq rfl rfl
  refine sn rfl g (Uq rfl (dk rfl) ul59 i3 rfl rfl (by decide) (by decide) (sn rfl g (Yr (i := 0) rfl (dk rfl) ul3 rfl rfl rfl (F0 (k := .i64) (a := m) (pre := []) (post := []) (by decide) (by decide)) (sn rfl g (Z9 rfl rfl (dk rfl) rfl rfl (oZ g rfl (mw rfl ?_)))))))
  rcases Qh h with ⟨j, h⟩ | ⟨j, h⟩
  refine pf rfl j (pf rfl j (pf rfl j (oY j rfl (nL (tN (Qt rfl rfl ?_))))))
  refine Qm ?_ (M5 K h)
  exact tq rfl rfl
  refine sn rfl j (Uq rfl (dk rfl) ul59 i3 rfl rfl (by decide) (by decide) (sn rfl j (Yr (i := 0) rfl (dk rfl) ul3 rfl rfl rfl (F0 (k := .i64) (a := m) (pre := []) (post := []) (by decide) (by decide)) (sn rfl j (Z9 rfl rfl (dk rfl) rfl rfl (oZ j rfl (nL (tN ?_))))))))
  rcases Qh h with ⟨y, h⟩ | ⟨y, h⟩
  refine Qt rfl y ?_
  refine Qm ?_ (M5 K h)
  exact tq rfl rfl
  refine Qo rfl y (T.skip (Qj (tN (Qq (oI rfl (mw rfl (nL (tN ?_))))))))
  refine Qg ?_ (ih x0 p (wI (q + (1:Int))) u h)
  exact tr rfl (.c (.s .z) (.n _))
  refine Qo rfl w (T.exit (Qk (Qk (Qu (tN (sR (Qq (oA 0 ((Zn.dc 256 .u8 x0.Split.Of) ++ (([.int .i64 x0.Split.Many, .sl false 2 (mA x0.Counts), .sl false 4 (x0.States.map Qf)] : List DC))) G4 i28 rfl (sp rfl (OpT.build (l := ((Zn.dc 256 .u8 x0.Split.Of) ++ (([.int .i64 x0.Split.Many, .sl false 2 (mA x0.Counts), .sl false 4 (x0.States.map Qf)] : List DC)))) rfl (dk rfl) (Zp (pl := [(0, 259)]) ul107 i107 rfl) (Hb rfl) rfl rfl (sp rfl (Zg rfl (dk rfl) i107 rfl (fun aa => (sp rfl (Qv (i := 0) (cells' := ((Zn.oc 256 .u8 x0.Split.Of) ++ (([.d (.int .i64 x0.Split.Many), .d (.sl false 2 (mA x0.Counts)), .d (.sl false 4 (x0.States.map Qf))]:List OC)))) rfl rfl i107 rfl rfl rfl rfl (nb rfl) rfl ?_)))))))))))))))
  refine nL (tN (sR (Qq (oP G4 i26 rfl (oL 1 He rfl (sp rfl (OpT.makeFunc (vs := [.pointer (some ⟨aa, 0, none⟩)]) rfl (dk rfl) rfl ?_)))))))
  obtain ⟨af, ac, h⟩ := bind_some h
  refine sp rfl (Q6 (is := [0]) (ph := []) rfl (dk rfl) fu53 rfl rfl (Zs.cons rfl (Zs.cons rfl Zs.nil)) (E0 K (flx0 := false) (bx1c0 := aa) ac) (.cons rfl rfl (.nil)) (fun _ => rfl) (fun ag => (nm (.c (.c (.n))) (oT rfl (aw rfl (nL (tN (T.ret (fd rfl (by cases h; exact ⟨rfl, rfl⟩))))))))))
theorem Tc (K : Nat) {x0 : Qn} {r : Bool} (h : Mh K x0 = some r) : Z1 tp 24 [.agg ((Zn.dc 256 .u8 x0.Split.Of) ++ (([.int .i64 x0.Split.Many, .sl false 2 (mA x0.Counts), .sl false 4 (x0.States.map Qf)] : List DC)))] [] (.bool r) := by
 refine CI 79 fu24 rfl ?_
 unfold Mh at h
 refine sR (Qq (sp rfl (Zw rfl (dk rfl) rfl (fun b => (aw rfl (nL (tN (T.seq (T.seq (Xk ?_))))))))))
 refine dP rfl (.f rfl) G4 i24 rfl (dW 0 ((Zn.dc 256 .u8 x0.Split.Of) ++ (([.int .i64 x0.Split.Many] : List DC))) rfl (.f rfl) ul24 i24 rfl ?_)
 obtain ⟨q, y, h⟩ := bind_some h
 refine dH fu52 (Z1.nil (split_Right_T K y)) rfl (.f rfl) rfl (dT rfl (.f rfl) rfl (dV rfl rfl ?_))
 rcases Qh h with ⟨j, h⟩ | ⟨j, h⟩
 refine dO j rfl rfl (dO j rfl rfl (dO j rfl rfl (dO j rfl rfl (dY rfl (.f rfl) j rfl (dV rfl rfl (dO rfl rfl rfl ?_))))))
 refine dO rfl rfl rfl (dO rfl rfl rfl (dO rfl rfl rfl (dY rfl (.f rfl) rfl rfl (dV rfl rfl (dO rfl rfl rfl (dO rfl rfl rfl ?_))))))
 refine dO rfl rfl rfl (dO rfl rfl rfl (dY rfl (.f rfl) rfl rfl (dV rfl rfl (dO rfl rfl rfl (dO rfl rfl rfl (dO rfl rfl rfl ?_))))))
 refine dO rfl rfl rfl (dO rfl rfl rfl (dO rfl rfl rfl (dO rfl rfl rfl (dO rfl rfl rfl (dO rfl rfl rfl (dO rfl rfl rfl ?_))))))
 refine dO rfl rfl rfl (dO rfl rfl rfl (dO rfl rfl rfl (dO rfl rfl rfl (dY rfl (.f rfl) rfl rfl (dF [0,1,3,7,15,31,63,127,255,511,1023,2047,4095,8191,16383,32767,65535,131071,262143,524287,1048575,2097151,4194303,8388607,16777215,33554431,67108863,134217727,268435455,8388607,545259519,1619001343,3766484991,8061452287,16651386879,34359738367,68719476735,137438953471] Q3 rfl (by kernel_rfl) (fun u hu => (tN (Qm hu (Qt rfl rfl ?_)))))))))
 refine Qm ?_ (Lf K h)
 exact tq rfl rfl
 refine dP rfl (.n j rfl) G4 i25 rfl (dL 0 rfl (.n j rfl) ul25 rfl (dN x0.Counts (X2.dc .i64) rfl (.n j rfl) ul25 rfl (dI rfl (.n j rfl) rfl (dZ rfl (.f rfl) j rfl (dV rfl rfl ?_)))))
 rcases Qh h with ⟨m, h⟩ | ⟨m, h⟩
 refine dO m rfl rfl (dO m rfl rfl (dO m rfl rfl (dO m rfl rfl (dY rfl (.f rfl) m rfl (dV rfl rfl (dO rfl rfl rfl ?_))))))
 refine dO rfl rfl rfl (dO rfl rfl rfl (dO rfl rfl rfl (dY rfl (.f rfl) rfl rfl (dV rfl rfl (dO rfl rfl rfl (dO rfl rfl rfl ?_))))))
 refine dO rfl rfl rfl (dO rfl rfl rfl (dO rfl rfl rfl (dO rfl rfl rfl (dO rfl rfl rfl (dO rfl rfl rfl (dO rfl rfl rfl ?_))))))
 refine dO rfl rfl rfl (dO rfl rfl rfl (dO rfl rfl rfl (dO rfl rfl rfl (dO rfl rfl rfl (dY rfl (.f rfl) rfl rfl (dF [0,1,3,7,15,31,63,127,255,511,1023,2047,4095,8191,16383,32767,65535,131071,262143,524287,1048575,2097151,4194303,8388607,16777215,33554431,67108863,134217727,268435455,8388607,545259519,1619001343,3766484991,8061452287,16651386879,34359738367,68719476735,137438953471] Q3 rfl (by kernel_rfl) (fun u hu => (tN (Qm hu ?_)))))))))
 refine Qt rfl rfl ?_
 refine Qm ?_ (Lf K h)
 exact tq rfl rfl
 refine dP rfl (.n m rfl) G4 i26 rfl (dL 0 rfl (.n m rfl) He rfl (dN x0.States Qf rfl (.n m rfl) He rfl (dI rfl (.n m rfl) rfl (dZ rfl (.f rfl) m rfl (dV rfl rfl ?_)))))
 rcases Qh h with ⟨p, h⟩ | ⟨p, h⟩
 refine dO p rfl rfl (dO p rfl rfl (dO p rfl rfl (dO p rfl rfl (dY rfl (.f rfl) p rfl (dV rfl rfl (dO rfl rfl rfl ?_))))))
 refine dO rfl rfl rfl (dO rfl rfl rfl (dO rfl rfl rfl (dO rfl rfl rfl (dO rfl rfl rfl (dO rfl rfl rfl (dO rfl rfl rfl ?_))))))
 refine dO rfl rfl rfl (dO rfl rfl rfl (dO rfl rfl rfl (dO rfl rfl rfl (dO rfl rfl rfl (dO rfl rfl rfl (dY rfl (.f rfl) rfl rfl ?_))))))
 refine dF [0,1,3,7,15,31,63,127,255,511,1023,2047,4095,8191,16383,32767,65535,131071,262143,524287,1048575,2097151,4194303,8388607,16777215,33554431,67108863,134217727,268435455,8388607,545259519,1619001343,3766484991,8061452287,16651386879,34359738367,68719476735,137438953471] Q3 rfl (by kernel_rfl) (fun u hu => (tN (Qm hu (Qt rfl rfl ?_))))
 refine Qm ?_ (Lf K h)
 exact tq rfl rfl
 refine dP rfl (.n p rfl) G4 i26 rfl (dL 0 rfl (.n p rfl) He rfl (dN x0.States Qf rfl (.n p rfl) He rfl (dI rfl (.n p rfl) rfl (dZ rfl (.f rfl) p rfl (dV rfl rfl ?_)))))
 rcases Qh h with ⟨g, h⟩ | ⟨g, h⟩
 refine dO g rfl rfl (dO g rfl rfl (dO g rfl rfl (dO g rfl rfl (dO g rfl rfl (dO g rfl rfl (dO g rfl rfl ?_))))))
 refine dO g rfl rfl (dO g rfl rfl (dO g rfl rfl (dO g rfl rfl (dO g rfl rfl (dO g rfl rfl (dO g rfl rfl ?_))))))
 refine dY rfl (.f rfl) g rfl (dF [0,1,3,7,15,31,63,127,255,511,1023,2047,4095,8191,16383,32767,65535,131071,262143,524287,1048575,2097151,4194303,8388607,16777215,33554431,67108863,134217727,268435455,8388607,545259519,1619001343,3766484991,8061452287,16651386879,34359738367,68719476735,137438953471] Q3 rfl (by kernel_rfl) (fun u hu => (tN (Qm hu (Qt rfl rfl ?_)))))
 refine Qm ?_ (Lf K h)
 exact tq rfl rfl
 refine dP rfl (.n g rfl) G4 i26 rfl (dL 0 rfl (.n g rfl) He rfl ?_)
 obtain ⟨a, w, h⟩ := bind_some h
 refine dX x0.States Qf rfl (.n g rfl) He i51 w rfl (dQ rfl (.n g rfl) Ke i38 rfl (dR rfl (.n g rfl) Z5 rfl (dN a.L (cI .i64) rfl (.n g rfl) Z5 rfl (dP rfl (.n g rfl) G4 i26 rfl (dL 0 rfl (.n g rfl) He rfl (dX x0.States Qf rfl (.n g rfl) He i51 w rfl ?_))))))
 refine dQ rfl (.n g rfl) Ke i38 rfl (dR rfl (.n g rfl) Z5 rfl (dN a.R (cI .i64) rfl (.n g rfl) Z5 rfl (dI rfl (.n g rfl) rfl (dI rfl (.n g rfl) rfl (dZ rfl (.f rfl) g rfl (dF [0,1,3,7,15,31,63,127,255,511,1023,2047,4095,8191,16383,32767,65535,131071,262143,524287,1048575,2097151,4194303,8388607,16777215,33554431,67108863,134217727,268435455,8388607,545259519,1619001343,3766484991,8061452287,16651386879,34359738367,68719476735,137438953471] Q3 rfl (by kernel_rfl) (fun u hu => (tN (Qm hu ?_)))))))))
 rcases Qh h with ⟨s, h⟩ | ⟨s, h⟩
 refine Qt rfl s ?_
 refine Qm ?_ (Lf K h)
 exact tq rfl rfl
 refine Qo rfl s (T.skip (tN (T.seq (sR (Qq (oP G4 i25 rfl (oL 0 ul25 rfl (oU x0.Counts (X2.dc .i64) ul25 rfl ?_))))))))
 refine mw rfl (nL (tN (T.block (T.loop ?_))))
 refine Qg ?_ (Qfh K K x0 (x0.Counts.length : Int) (0:Int) b h)
 exact tq rfl rfl
abbrev slices_Clone__2_int_q (r : List X2) : ES := Jz tp ff25 (fun y t => y = (.sl false 2 (mA r)) ∧ t = [])
theorem Su (K : Nat) {x0 : List X2} {flx0 : Bool} {r : List X2} (h : Hp K x0 = some r) : Z1 tp 25 [.sl flx0 2 (mA x0)] [] (.sl false 2 (mA r)) := by
 refine CI 8 fu25 rfl ?_
 unfold Hp at h
 refine sR (Qq (aw rfl (nL (tN (T.seq (sR (Qq (mw rfl (sp rfl (Qfm (xs := x0) (f := (X2.dc .i64)) rfl (dk rfl) ul25 rfl rfl (fun b c => ?_)))))))))))
 refine nL (tN ?_)
 rcases Bool.eq_false_or_eq_true b with a | a
 have hx := c a
 replace h : (some []) = some r := by first | (rw [hx] at h; exact h) | exact h
 refine Qt rfl a (sR (Qq (aw rfl (nL (tN (T.ret (Qy (Xj (Em 2 false 2 rfl) (fd rfl (by cases h; exact ⟨rfl, rfl⟩))))))))))
 refine Qo rfl a (T.skip (tN (sR (Qq (sp rfl (OpT.buildSlice (elems := ([] : List X2).map (X2.dc .i64)) rfl (dk rfl) ul25 i59 (by decide) rfl (Hb rfl) rfl rfl rfl (Xh rfl) (by decide) (mw rfl ?_)))))))
 obtain ⟨d, h⟩ := Q9 h
 refine sp rfl (N4 (xs := ([] : List X2)) (ys := x0) (f := (X2.dc .i64)) rfl (dk rfl) ul25 i59 rfl rfl rfl (.inr rfl) d (fun g => (aw rfl (nL (tN (T.ret (Xj (Zx.view 2 0 rfl rfl) (fd rfl (by cases h; exact ⟨rfl, rfl⟩)))))))))
abbrev trim_stack_int_pop_q (bx0 : Nat) (r : Int × Bool × Yb) : ES := Jz tp ff34 (fun y t => ∃ γ : Nat → Value, y = (.tup [.int .i64 r.1, .bool r.2.1]) ∧ t = [(O0 bx0 (γ 0)), .arrX (γ 0) 3 1 0 (mI r.2.2.l)])
theorem Dr (K : Nat) {x0 : Yb} {bx0 : Nat} {wx0c0 : Value} {r : Int × Bool × Yb} (h : Y4 K x0 = some r) : Ud tp 34 [.ptr bx0 0] [(O0 bx0 wx0c0), .arrX wx0c0 3 1 0 (mI x0.l)] (fun γ => (.tup [.int .i64 r.1, .bool r.2.1])) (fun γ => [(O0 bx0 (γ 0)), .arrX (γ 0) 3 1 0 (mI r.2.2.l)]) := by
 refine CI 38 fu34 rfl ?_
 unfold Y4 at h
 refine sR (Qq (aw rfl (aw rfl (nL (tN (T.seq (sR (Qq (mw rfl ?_)))))))))
 refine oK rfl (oP ul74 i38 rfl (oL 0 Z5 rfl (sp rfl (J9 (i := 1) (xs := x0.l) (f := (cI .i64)) rfl (dk rfl) Z5 rfl rfl (oI rfl (nL (tN ?_)))))))
 rcases Qh h with ⟨g, h⟩ | ⟨g, h⟩
 refine Qt rfl g (sR (Qq (mw rfl (aw rfl (aw rfl (nL (tN (T.ret (Qy ?_)))))))))
 exact Q1 (.cons _ _ _ _ (.tmp 2 _ rfl) (.cons _ _ _ _ (.tmp 3 _ rfl) .nil)) (.cons 0 rfl (.cons 0 rfl (.nil _))) (by cases h; exact ⟨gl [wx0c0], rfl, rfl⟩)
 refine Qo rfl g (T.skip (tN (T.seq (Xk (dV rfl rfl (dK rfl (.f rfl) rfl (dP rfl (.f rfl) ul74 i38 rfl ?_)))))))
 refine dL 0 rfl (.f rfl) Z5 rfl (dV rfl rfl (dK rfl (.f rfl) rfl (dP rfl (.f rfl) ul74 i38 rfl (dL 0 rfl (.f rfl) Z5 rfl (dS (c := ⟨some 19, .int .i64 (x0.l.length : Int), [(18, .c (.ex wx0c0))], [(1, .arrX wx0c0 3 1 0 (mI x0.l))], []⟩) (fun t hm => oF rfl rfl (J9 (i := 1) (xs := x0.l) (f := (cI .i64)) rfl (dk rfl) Z5 hm.s0 hm.o0 rfl)) rfl rfl (dI rfl (.f rfl) rfl ?_))))))
 obtain ⟨b, j, h⟩ := bind_some h
 refine dS (c := ⟨some 21, .el wx0c0 1 (Int.toNat (wI ((x0.l.length : Int) - (1:Int)))) 0, [(14, .c (.ex wx0c0)), (20, .int .i64 (wI ((x0.l.length : Int) - (1:Int))))], [(1, .arrX wx0c0 3 1 0 (mI x0.l))], []⟩) (fun t hm => oF rfl rfl (Z8 (n := 1) (xs := x0.l) (f := (cI .i64)) (old := b) rfl (dk rfl) Z5 i3 hm.s0 hm.o0 hm.s1 j rfl)) rfl rfl (dS (c := ⟨some 22, .int .i64 b, [(21, .el wx0c0 1 (Int.toNat (wI ((x0.l.length : Int) - (1:Int)))) 0)], [(1, .arrX wx0c0 3 1 0 (mI x0.l))], []⟩) (fun t hm => oF rfl rfl (J1 (i := 1) (xs := x0.l) (f := (cI .i64)) (old := b) rfl (dk rfl) ul3 rfl hm.s0 hm.o0 (Zv j).2 rfl rfl)) rfl rfl (dA rfl (.f rfl) rfl (dF [0,1,3,7,0,16,48,112,240,496,1023,2047,4095] Q3 rfl (by kernel_rfl) (fun u hu => (tN (Qm hu (T.seq (Us (gM rfl (fun _ => .f rfl) (fun _ => rfl) ?_)))))))))
 refine gM rfl (fun _ => .f rfl) (fun _ => rfl) (gK rfl (fun _ => .f rfl) (fun _ => rfl) (gP rfl (fun _ => .f rfl) ul74 i38 (fun _ => rfl) (gL 0 rfl (fun _ => .f rfl) Z5 (fun _ => rfl) (gM rfl (fun _ => .f rfl) (fun _ => rfl) (gK rfl (fun _ => .f rfl) (fun _ => rfl) (gP rfl (fun _ => .f rfl) ul74 i38 (fun _ => rfl) ?_))))))
 refine gL 0 rfl (fun _ => .f rfl) Z5 (fun _ => rfl) (dC (c := ⟨some 32, .int .i64 (x0.l.length : Int), [(31, .c (.ex wx0c0))], [(1, .arrX wx0c0 3 1 0 (mI x0.l))], []⟩) (fun t hm => oF rfl rfl (J9 (i := 1) (xs := x0.l) (f := (cI .i64)) rfl (dk rfl) Z5 hm.s0 hm.o0 ⟨u0, rfl⟩)) (fun _ => rfl) (fun _ => rfl) (gI rfl (fun _ => .f rfl) (fun _ => rfl) ?_))
 obtain ⟨m, h⟩ := Q9 h
 refine DGG.step (c := fun a => ⟨some 34, .c (.ex ((a 11).1 0)), [(27, .c (.ex wx0c0)), (33, .int .i64 (wI ((x0.l.length : Int) - (1:Int))))], [(1, .arrX wx0c0 3 1 0 (mI x0.l))], [(1, .arrX ((a 11).1 0) 3 1 0 ((x0.l.take (Int.toNat (wI ((x0.l.length : Int) - (1:Int))))).map (cI .i64)))]⟩) [11] (fun a γ' h => by simp only [h 11 (by decide)]) (fun a t hm => oF rfl rfl (OpT.sliceX (i := 1) (xs := x0.l) (f := (cI .i64)) (h := (Int.toNat (wI ((x0.l.length : Int) - (1:Int))))) rfl (dk rfl) Z5 i3 hm.s0 hm.o0 (.some _ _ _ _ hm.s1 m.1) m.2 (fun w => ⟨(fun _ => w, 0), rfl⟩))) (fun a => Zr rfl rfl) (gK rfl (fun _ => .f rfl) (fun _ => rfl) (gP rfl (fun _ => .f rfl) ul74 i38 (fun _ => rfl) (DGG.step (c := fun a => ⟨none, .any, [(36, .ptr bx0 (0 + 0)), (34, .c (.ex ((a 11).1 0)))], [(0, (O0 bx0 wx0c0))], [(0, (O0 bx0 ((a 11).1 0)))]⟩) [11] (fun a γ' h => by simp only [h 11 (by decide)]) (fun a t hm => oF rfl rfl (V3 (i := 0) (cells' := [.d (.ex ((a 11).1 0))]) rfl rfl i38 hm.s0 hm.s1 hm.o0 (nb rfl) rfl ⟨u0, rfl⟩)) (fun a => Zr rfl rfl) (gF [0,0,2,6,14,0,32,96,224,480,992,2046,4095,8191,16383] Q3 rfl (by kernel_rfl) (fun _ => by kernel_rfl) (fun a u hu => (tN (Qm hu (sR (Qq (mw rfl ?_))))))))))
 refine aw rfl (aw rfl (nL (tN (T.ret (Q1 (.cons _ _ _ _ (.tmp 2 _ rfl) (.cons _ _ _ _ (.tmp 3 _ rfl) .nil)) (.cons 0 rfl (.cons 0 rfl (.nil _))) (by cases h; exact ⟨gl [(a 11).1 0], rfl, rfl⟩))))))
abbrev trim_stack_int_push_q (bx0 : Nat) (r : Yb) : ES := Jz tp ff32 (fun y t => ∃ γ : Nat → Value, y = (.tup []) ∧ t = [(O0 bx0 (γ 0)), .arrX (γ 0) 3 1 0 (mI r.l)])
theorem Ci (K : Nat) {x0 : Yb} {x1 : List Int} {bx0 : Nat} {wx0c0 : Value} {flx1 : Bool} {r : Yb} (h : Ue K x0 x1 = some r) : Ud tp 32 [.ptr bx0 0, .sl flx1 1 (mI x1)] [(O0 bx0 wx0c0), .arrX wx0c0 3 1 0 (mI x0.l)] (fun γ => (.tup [])) (fun γ => [(O0 bx0 (γ 0)), .arrX (γ 0) 3 1 0 (mI r.l)]) := by
 refine CI 13 fu32 rfl ?_
 unfold Ue at h
 refine Qq (mw rfl (mw rfl (oK rfl (oP ul74 i38 rfl (oL 0 Z5 rfl (mw rfl ?_))))))
 obtain ⟨b, h⟩ := Q9 h
 refine sp rfl (Cz (i := 1) (xs := x0.l) (ys := x1) (f := (cI .i64)) rfl (dk rfl) Z5 i3 rfl rfl rfl rfl b (fun a => (oK rfl (oP ul74 i38 rfl (sp rfl (V3 (i := 0) (cells' := [.d (.ex a)]) rfl rfl i38 rfl rfl rfl (nb rfl) rfl (nL (Q1 (.nil) (.cons 0 rfl (.cons 0 rfl (.nil _))) (by cases h; exact ⟨gl [a], rfl, rfl⟩)))))))))
abbrev Qd5 (r : Int) : ES := Jz tp ff31 (fun y t => y = (.int .i64 r) ∧ t = [])
abbrev Sp (r : Int) : ES := fT 25 [1,1,1,1] ff31 (Qd5 r)
abbrev Pa (r : Int) : ES := Qz 0 ((Sp r))
theorem Qav {r : Int} (K : Nat) : ∀ (k : Nat), ∀ (x0 : List Int) (a b : Int) (flx0 : Bool), Uf K k x0 a b = some r → TL tp 25 (ca [1,1,1,0,1,0,0] ff31) ⟨[(0, .sl flx0 1 (mI x0)), (3, .int .i64 a), (4, .int .i64 b)], []⟩ (Pa r) := by
 intro k
 induction k with
 | zero =>
  intro x0 a b flx0 h
  exact zn h
 | succ k ih =>
  intro x0 a b flx0 h
  rw [Uf] at h
  refine Za (T.seq (sR (Qq (mw rfl (mw rfl (oU x0 (cI .i64) Z5 rfl (oI rfl ?_)))))))
  refine nL (tN ?_)
  rcases Qh h with ⟨c, h⟩ | ⟨c, h⟩
  refine Qt rfl c (T.skip (tN (T.seq (T.block (Qq ?_)))))
  iterate 3 refine mw rfl ?_
  obtain ⟨d, g, h⟩ := bind_some h
  refine oX x0 (cI .i64) Z5 i3 g rfl (oR ul3 rfl (sp rfl (OpT.max2 rfl (dk rfl) rfl rfl (aw rfl (nL (Qj (tN (Qq (mw rfl ?_)))))))))
  refine oI rfl (aw rfl (nL (tN ?_)))
  refine Qg ?_ (ih x0 (if d > a then d else a) (wI (b + (1:Int))) flx0 h)
  exact tq rfl rfl
  refine Qo rfl c (T.exit (Qk (Qk (Qu (tN (sR (Qq (mw rfl (aw rfl (nL (tN (T.ret ?_))))))))))))
  exact fd rfl (by cases h; exact ⟨rfl, rfl⟩)
theorem Qd6 (K : Nat) {x0 : List Int} {flx0 : Bool} {r : Int} (h : Kk K x0 = some r) : Z1 tp 31 [.sl flx0 1 (mI x0)] [] (.int .i64 r) := by
 refine CI 25 fu31 rfl ?_
 unfold Kk at h
 refine sR (Qq (aw rfl (nL (tN (T.seq (sR (Qq (mw rfl (oU x0 (cI .i64) Z5 rfl ?_)))))))))
 refine oI rfl (nL (tN ?_))
 rcases Qh h with ⟨a, h⟩ | ⟨a, h⟩
 refine Qt rfl a (Qq ?_)
 cases h
 refine Qo rfl a (T.skip (tN (sR (Qq (mw rfl ?_)))))
 obtain ⟨b, c, h⟩ := bind_some h
 refine oX x0 (cI .i64) Z5 i3 c rfl (oR ul3 rfl (aw rfl (nL (tN (T.seq (sR (Qq (aw rfl ?_))))))))
 refine nL (tN (T.block (T.loop ?_)))
 refine Qg ?_ (Qav K K x0 b (1:Int) flx0 h)
 exact tq rfl rfl
abbrev slices_Grow_Move_q (r : List Qd) : ES := Jz tp ff97 (fun y t => ∃ γ : Nat → Value, y = (.c (.ex (γ 0))) ∧ t = [.arrA (γ 0) 54 2 (r.map Ql)])
theorem Qb1 (K : Nat) {x1 : Int} {r : List Qd} (h : H7 K x1 = some r) : Ud tp 97 [.c (.ex (.slice none 0 0)), .int .i64 x1] [] (fun γ => (.c (.ex (γ 0)))) (fun γ => [.arrA (γ 0) 54 2 (r.map Ql)]) := by
 refine CI 27 fu97 rfl ?_
 unfold H7 at h
 refine sR (Qq (aw rfl (nL (tN (T.seq (sR (Qq (mw rfl (oI rfl ?_)))))))))
 refine nL (tN ?_)
 rcases Qh h with ⟨a, h⟩ | ⟨a, h⟩
 refine Qt rfl a (Qq ?_)
 cases h
 refine Qo rfl a (T.skip (tN (T.seq (sR (Qq (mw rfl (mw rfl (sp rfl (OpT.capNil rfl (dk rfl) Sg rfl ?_)))))))))
 refine mw rfl (sp rfl (OpT.lenEx rfl (dk rfl) Sg rfl (oI rfl (oI rfl (aw rfl (nL (tN (sR (Qq (mw rfl ?_))))))))))
 refine oI rfl (nL (tN ?_))
 rcases Qh h with ⟨b, h⟩ | ⟨b, h⟩
 refine Qt rfl b (Qq (mw rfl (mw rfl (sp rfl (OpT.capNil rfl (dk rfl) Sg rfl (sp rfl (OpT.sliceNil rfl (dk rfl) Sg i54 rfl (.none _) (.some _ _ 0 _ rfl (by decide)) (mw rfl ?_))))))))
 obtain ⟨g, h⟩ := Q9 h
 obtain ⟨j, h⟩ := Q9 h
 refine sp rfl (Qei (f := Ql) (zv := ((Qd.mk (0:Int) []) : Qd)) rfl (dk rfl) Sg ul3 i54 (by decide) rfl rfl (fun _ => .cons (.same _) (.cons (.nil _ _) (.refl _))) rfl rfl rfl g j (fun m => (mw rfl (sp rfl (OpT.lenEx rfl (dk rfl) Sg rfl ?_)))))
 obtain ⟨d, h⟩ := Q9 h
 refine sp rfl (OpT.sliceX (i := 0) (xs := (List.replicate (Int.toNat (wI (x1 - (wI ((0:Int) - (0:Int)))))) ((Qd.mk (0:Int) []) : Qd))) (f := Ql) (h := (Int.toNat (0:Int))) rfl (dk rfl) Sg i54 rfl rfl (.some _ _ _ _ rfl d.1) d.2 (fun l => (aw rfl (nL (tN (sR (Qq (mw rfl (aw rfl (nL (tN (T.ret ?_))))))))))))
 refine Xj (Gl 0 rfl) (Q1 (.cons _ _ _ _ (.tmp 4 _ rfl) .nil) (.cons 0 rfl (.nil _)) (by cases h; exact ⟨gl [l], rfl, rfl⟩))
 refine Qo rfl b (T.skip (tN (sR (Qq (mw rfl (aw rfl (nL (tN (T.ret ?_)))))))))
 refine Xj (Y2 54 2) (Q1 (.cons _ _ _ _ (.tmp 4 _ rfl) .nil) (.cons 0 rfl (.nil _)) (by cases h; exact ⟨gl [Tp 4], rfl, rfl⟩))
abbrev Du (r : List Qd) : ES := Jz tp ff58 (fun y t => ∃ γ : Nat → Value, y = (.c (.ex (γ 0))) ∧ t = [.arrA (γ 0) 54 2 (r.map Ql)])
abbrev F7 (r : List Qd) : ES := fT 36 [1,1,1,1,1] ff58 (Du r)
abbrev D1 (r : List Qd) : ES := Qz 2 ((F7 r))
abbrev Oe (r : List Qd) : ES := fT 36 [1,1,1] ff58 (Du r)
abbrev F8 (r : List Qd) : ES := Qz 0 ((Oe r))
theorem Pe {r : List Qd} (K : Nat) : ∀ (k : Nat), ∀ (x0 : List (List Qd)) (b d : Int) (a : List Qd) (flx0 : Bool) (g : Value), Xq K k x0 b d a = some r → TL tp 36 (ca [1,1,1,1,0,1,0,0] ff58) ⟨[(6, .c (.ex g)), (25, .sl flx0 1 (x0.map (cL 2 Ql))), (26, .int .i64 b), (27, .int .i64 d)], [.arrA g 54 2 (a.map Ql)]⟩ (D1 r) := by
 intro k
 induction k with
 | zero =>
  intro x0 b d a flx0 g h
  exact zn h
 | succ k ih =>
  intro x0 b d a flx0 g h
  rw [Xq] at h
  refine Za (sR (Qq (oI rfl (nL (tN (T.seq ?_))))))
  rcases Qh h with ⟨j, h⟩ | ⟨j, h⟩
  refine Qt rfl j (T.skip (tN (T.seq (T.block (sR (Qq ?_))))))
  obtain ⟨l, m, h⟩ := bind_some h
  refine oX x0 (cL 2 Ql) Qcz i55 m rfl (oR Sg rfl (aw rfl (nL (tN (Qq (mw rfl (mw rfl ?_)))))))
  obtain ⟨p, h⟩ := Q9 h
  refine sp rfl (Zj (i := 0) (xs := a) (ys := l) (f := Ql) rfl (dk rfl) Sg i54 rfl rfl rfl rfl p (fun q => (aw rfl (nL (Qj (tN (Qq (oI rfl (mw rfl (nL (tN ?_)))))))))))
  refine Qg ?_ (ih x0 b (wI (d + (1:Int))) (a ++ l) flx0 q h)
  exact tq rfl rfl
  refine Qo rfl j (T.exit (Qk (Qk (Qu (tN (sR (Qq (mw rfl (aw rfl (nL (tN (T.ret ?_))))))))))))
  exact Q1 (.cons _ _ _ _ (.tmp 2 _ rfl) .nil) (.cons 0 rfl (.nil _)) (by cases h; exact ⟨gl [g], rfl, rfl⟩)
theorem Pf {r : List Qd} (K : Nat) : ∀ (k : Nat), ∀ (x0 : List (List Qd)) (a b d : Int) (flx0 : Bool), Y5 K k x0 a b d = some r → TL tp 36 (ca [1,1,0,1,0,0] ff58) ⟨[(0, .sl flx0 1 (x0.map (cL 2 Ql))), (3, .int .i64 a), (9, .sl flx0 1 (x0.map (cL 2 Ql))), (10, .int .i64 b), (11, .int .i64 d)], []⟩ (F8 r) := by
 intro k
 induction k with
 | zero =>
  intro x0 a b d flx0 h
  exact zn h
 | succ k ih =>
  intro x0 a b d flx0 h
  rw [Y5] at h
  refine Za (sR (Qq (oI rfl (nL (tN (T.seq ?_))))))
  rcases Qh h with ⟨g, h⟩ | ⟨g, h⟩
  refine Qt rfl g (T.skip (tN (T.seq (T.block (sR (Qq ?_))))))
  obtain ⟨i, l, h⟩ := bind_some h
  refine oX x0 (cL 2 Ql) Qcz i55 l rfl (oR Sg rfl (aw rfl (nL (tN (sR (Qq (mw rfl (mw rfl (oU i Ql Sg rfl ?_)))))))))
  refine oI rfl (aw rfl (nL (tN (sR (Qq (mw rfl (oI rfl (nL (tN ?_)))))))))
  rcases Qh h with ⟨j, h⟩ | ⟨j, h⟩
  refine Qt rfl j (Qq ?_)
  cases h
  refine Qo rfl j (T.skip (Qj (tN (Qq (oI rfl (mw rfl (nL (tN ?_))))))))
  refine Qg ?_ (ih x0 (wI (a + (i.length : Int))) b (wI (d + (1:Int))) flx0 h)
  exact tq rfl rfl
  refine Qo rfl g (T.exit (Qk (Qk (Qu (tN (sR (Qq (mw rfl (J8 Yk ?_)))))))))
  obtain ⟨m, p, h⟩ := bind_some h
  refine sp rfl (Q6 (is := [0]) (ph := [.ro 0 []]) rfl (dk rfl) fu97 rfl rfl (Zs.cons rfl (Zs.cons rfl Zs.nil)) (Qb1 K p) (.cons rfl rfl (.nil)) (fun _ => rfl) (fun q => (nm (.c (.n)) (aw rfl (nL (tN (T.seq (sR (Qq (mw rfl ?_))))))))))
  refine oU x0 (cL 2 Ql) Qcz rfl (mw rfl (nL (tN (T.block (T.loop ?_)))))
  refine Qg ?_ (Pe K K x0 (x0.length : Int) (0:Int) m flx0 (q 0) h)
  exact tq rfl rfl
theorem Ty (K : Nat) {x0 : List (List Qd)} {flx0 : Bool} {r : List Qd} (h : Gv K x0 = some r) : Ud tp 58 [.sl flx0 1 (x0.map (cL 2 Ql))] [] (fun γ => (.c (.ex (γ 0)))) (fun γ => [.arrA (γ 0) 54 2 (r.map Ql)]) := by
 refine CI 36 fu58 rfl ?_
 unfold Gv at h
 refine sR (Qq (aw rfl (nL (tN (sR (Qq (aw rfl (nL (tN (T.seq (sR (Qq ?_))))))))))))
 refine mw rfl (oU x0 (cL 2 Ql) Qcz rfl (mw rfl (nL (tN (T.block (T.loop ?_))))))
 refine Qg ?_ (Pf K K x0 (0:Int) (x0.length : Int) (0:Int) flx0 h)
 exact tq rfl rfl
abbrev trim_moves_q (r : List Qd) : ES := Jz tp ff33 (fun y t => y = (.sl false 2 (r.map Ql)) ∧ t = [])
theorem Sj (K : Nat) {x0 : Qa} {r : List Qd} (h : Bz K x0 = some r) : Z1 tp 33 [.agg [.sl false 1 (mI x0.L), .sl false 1 (mI x0.R), .sl false 1 (mI x0.Rule), .sl false 1 (x0.Next.map (cL 2 Ql))]] [] (.sl false 2 (r.map Ql)) := by
 refine CI 6 fu33 rfl ?_
 unfold Bz at h
 refine sR (Qq (sp rfl (Zw rfl (dk rfl) rfl (fun b => (aw rfl (nL (tN (sR (Qq (oP Ke i49 rfl (oL 0 Qcz rfl (J8 Yk ?_))))))))))))
 obtain ⟨d, a, h⟩ := bind_some h
 refine sp rfl (Q6 (is := [0]) (ph := [.ro 0 []]) rfl (dk rfl) fu58 rfl rfl (Zs.cons rfl Zs.nil) (Ty K (flx0 := false) a) (.cons rfl rfl (.nil)) (fun _ => rfl) (fun f => (nm (.c (.c (.n))) (aw rfl (nL (tN (T.ret (Xj (Zx.view 2 0 rfl rfl) (fd rfl (by cases h; exact ⟨rfl, rfl⟩))))))))))
abbrev Qex (r : List Bool) : ES := Jz tp ff12 (fun y t => y = (.sl false 1 (r.map cB)) ∧ t = [])
abbrev Qby (r : List Bool) : ES := fT 85 [1,1,1,1,1,1] ff12 (Qex r)
abbrev Dt (r : List Bool) : ES := Qz 0 ((Qby r))
abbrev Tv (r : List Bool) : ES := fL 85 [1,1,1,1,1,0,1,0,0] ff12 (Dt r)
abbrev N8 (r : List Bool) : ES := fT 85 [1,1,1,1,1,0,1,0,0,1,1,1] ff12 (Tv r)
abbrev Gu (r : List Bool) : ES := Qz 1 ((N8 r))
abbrev Ck (r : List Bool) : ES := Qz 2 ((Gu r))
abbrev Qap (r : List Bool) : ES := fT 85 [1,1,1,1,1,1,1] ff12 (Qex r)
abbrev Cj (r : List Bool) : ES := Qz 4 ((Qap r))
abbrev Sk (r : List Bool) : ES := fL 85 [1,1,1,1,1,1,0,1,0,0] ff12 (Cj r)
abbrev Nc (r : List Bool) (go : Qn → Int → Int → (List Bool) → (List (List Int)) → (List Int) → Option (List Bool)) : Prop := ∀ (x0 : Qn) (a b : Int) (f : List Bool) (g : List (List Int)) (i : List Int) (j l : Value) (m : Nat) (n : Value), go x0 a b f g i = some r → TL tp 85 (ca [1,1,1,1,1,0,1,0,0] ff12) ⟨[(3, .c (.ex j)), (4, .c (.ex l)), (5, .ptr m 0), (24, .sl false 4 (x0.States.map Qf)), (25, .int .i64 a), (26, .int .i64 b)], [.arrX j 4 1 0 (f.map cB), .arrG l 38 (gc 3 1 (cI .i64) g), (O0 m n), .arrX n 3 1 0 (mI i)]⟩ (Dt r)
theorem trim_Live_l4_T {r : List Bool} (K : Nat) (go0 : Qn → Int → Int → (List Bool) → (List (List Int)) → (List Int) → Option (List Bool)) (hgo0 : Nc r go0) : ∀ (k : Nat), ∀ (j : Int) (x0 : Qn) (ad af : Int) (ag : List Qd) (al am : Int) (ai : List Bool) (m : List (List Int)) (aj : List Int) (q b : Value) (aa : Nat) (ab : Value), Hk K go0 k j x0 ad af ag al am ai m aj = some r → TL tp 85 (ca [1,1,1,1,1,0,1,0,0,1,1,0,0,1,1,1,0,0] ff12) ⟨[(3, .c (.ex q)), (4, .c (.ex b)), (5, .ptr aa 0), (6, .int .i64 j), (24, .sl false 4 (x0.States.map Qf)), (25, .int .i64 ad), (26, .int .i64 af), (39, .sl false 2 (ag.map Ql)), (40, .int .i64 al), (41, .int .i64 am)], [.arrX q 4 1 0 (ai.map cB), .arrG b 38 (gc 3 1 (cI .i64) m), (O0 aa ab), .arrX ab 3 1 0 (mI aj)]⟩ (Ck r) := by
 intro k
 induction k with
 | zero =>
  intro j x0 ad af ag al am ai m aj q b aa ab h
  exact zn h
 | succ k ih =>
  intro j x0 ad af ag al am ai m aj q b aa ab h
  rw [Hk] at h
  refine Za (sR (Qq (oI rfl (nL (tN (T.seq ?_))))))
  rcases Qh h with ⟨ap, h⟩ | ⟨ap, h⟩
  refine Qt rfl ap (T.skip (tN (T.seq (T.block (sR (Qq ?_))))))
  obtain ⟨g, au, h⟩ := bind_some h
  refine oX ag Ql Sg i54 au rfl (oJ Iw i54 rfl (sp rfl (Zg rfl (dk rfl) i54 rfl (fun ac => (sp rfl (Qv (i := 0) (cells' := [.d (.int .i64 g.To), .d (.sl false 1 (mU g.Ops))]) rfl rfl i54 rfl rfl rfl rfl (nb rfl) rfl (nL (tN (sR (Qq (oP Iw i3 rfl (oL 0 ul3 rfl ?_))))))))))))
  refine oI rfl (nL (tN ?_))
  rcases Qh h with ⟨aq, h⟩ | ⟨aq, h⟩
  refine Qt rfl aq (Qm Yk (Qm Yk (Us (gM rfl (fun _ => .f rfl) (fun _ => rfl) (gP rfl (fun _ => .f rfl) Iw i3 (fun _ => rfl) (gL 2 rfl (fun _ => .f rfl) ul3 (fun _ => rfl) ?_))))))
  refine gM rfl (fun _ => .f rfl) (fun _ => rfl) (gP rfl (fun _ => .f rfl) Iw i3 (fun _ => rfl) (gL 2 rfl (fun _ => .f rfl) ul3 (fun _ => rfl) ?_))
  obtain ⟨p, an, h⟩ := bind_some h
  refine dC (c := ⟨some 54, .el b 1 (Int.toNat g.To) 0, [(51, .c (.ex b)), (53, .int .i64 g.To)], [(4, .arrG b 38 (gc 3 1 (cI .i64) m))], []⟩) (fun t hm => oF rfl rfl (Pz (n := 4) (l := m) (y := p) rfl (dk rfl) ul72 i38 hm.s0 hm.o0 hm.s1 an ⟨u0, rfl⟩)) (fun _ => rfl) (fun _ => rfl) (DGG.step (c := fun a => ⟨some 55, .c (.ex ((a 7).1 0)), [(54, .el b 1 (Int.toNat g.To) 0)], [(4, .arrG b 38 (gc 3 1 (cI .i64) m)), (0, .ro 0 [])], [(4, .arrG b 38 (gh 3 1 (cI .i64) m (Int.toNat g.To) ((a 7).1 0))), (0, .arrA ((a 7).1 0) 3 1 (mI p))]⟩) [7] (fun a γ' h => by simp only [h 7 (by decide)]) (fun a t hm => oF rfl rfl (Qdk (i := 4) (kk := 0) (l := m) (y := p) rfl (dk rfl) Z5 rfl hm.s0 hm.o0 (Zv an).2 hm.o1 (fun w => ⟨(fun _ => w, 0), rfl⟩))) (fun a => Zr rfl rfl) (gM rfl (fun _ => .f rfl) (fun _ => rfl) (dC (c := ⟨some 57, .sl true 1 ([j].map (cI .i64)), [(56, .int .i64 j)], [], []⟩) (fun t hm => oF rfl rfl (OpT.buildSlice (elems := ([j] : List Int).map (cI .i64)) rfl (dk rfl) Z5 i3 (by decide) rfl (Hb rfl) (Y1 hm.s0 rfl Jl) rfl rfl (Xh rfl) (by decide) ⟨u0, rfl⟩)) (fun _ => rfl) (fun _ => rfl) ?_)))
  obtain ⟨av, h⟩ := Q9 h
  refine DGG.step (c := fun a => ⟨some 58, .c (.ex ((a 10).1 0)), [(57, .sl true 1 ([j].map (cI .i64))), (55, .c (.ex ((a 7).1 0)))], [(0, .arrA ((a 7).1 0) 3 1 (mI p))], [(0, .arrA ((a 10).1 0) 3 1 ((p ++ [j]).map (cI .i64)))]⟩) [7, 10] (fun a γ' h => by simp only [h 7 (by decide), h 10 (by decide)]) (fun a t hm => oF rfl rfl (Zj (i := 0) (xs := p) (ys := [j]) (f := (cI .i64)) rfl (dk rfl) Z5 i3 rfl hm.s1 hm.o0 hm.s0 av (fun w => ⟨(fun _ => w, 0), rfl⟩))) (fun a => Zr rfl rfl) (DGG.step (c := fun a => ⟨some 59, .el b 1 (Int.toNat g.To) 0, [(48, .c (.ex b)), (50, .int .i64 g.To)], [(4, .arrG b 38 (gh 3 1 (cI .i64) m (Int.toNat g.To) ((a 7).1 0)))], []⟩) [7] (fun a γ' h => by simp only [h 7 (by decide)]) (fun a t hm => oF rfl rfl (Qbr (n := 4) (l := m) (y := p) rfl (dk rfl) ul72 i38 hm.s0 hm.o0 hm.s1 an ⟨u0, rfl⟩)) (fun a => Zr rfl rfl) (DGG.step (c := fun a => ⟨none, .any, [(59, .el b 1 (Int.toNat g.To) 0), (58, .c (.ex ((a 10).1 0)))], [(4, .arrG b 38 (gh 3 1 (cI .i64) m (Int.toNat g.To) ((a 7).1 0))), (0, .arrA ((a 10).1 0) 3 1 ((p ++ [j]).map (cI .i64)))], [(4, .arrG b 38 (gc 3 1 (cI .i64) (List.set m (Int.toNat g.To) (p ++ [j])))), (0, .ro 0 [])]⟩) [7, 10] (fun a γ' h => by simp only [h 7 (by decide), h 10 (by decide)]) (fun a t hm => oF rfl rfl (Qbq (i := 4) (kk := 0) (l := m) (old := p) (y' := (p ++ [j])) rfl rfl i38 hm.s0 hm.s1 hm.o0 (Zv an).2 hm.o1 ⟨u0, rfl⟩)) (fun a => Zr rfl rfl) (gF [0,0,2,0,0,16,56,120,0,256,1016,2047,4095] Q3 rfl (by kernel_rfl) (fun _ => by kernel_rfl) (fun a u hu => (Qj (tN (Qm hu (Qq (oI rfl (mw rfl ?_))))))))))
  refine nL (tN ?_)
  refine Qg ?_ (ih j x0 ad af ag al (wI (am + (1:Int))) ai (List.set m (Int.toNat g.To) (p ++ [j])) aj q b aa ab h)
  exact tr rfl (.c (.s (.s (.s .z))) (.c (.s (.s (.s .z))) (.c (.s (.s (.s .z))) (.c (.s (.s (.s .z))) (.n _)))))
  refine Qo rfl aq (T.skip (Qj (tN (Qq (oI rfl (mw rfl (nL (tN ?_))))))))
  refine Qg ?_ (ih j x0 ad af ag al (wI (am + (1:Int))) ai m aj q b aa ab h)
  exact tr rfl (.c (.s .z) (.c (.s .z) (.c (.s .z) (.c (.s .z) (.n _)))))
  refine Qo rfl ap (T.exit (Qk (Qk (Qu (Qj (tN (Qq (oI rfl (mw rfl (nL (tN ?_)))))))))))
  refine Qg ?_ (hgo0 x0 ad (wI (af + (1:Int))) ai m aj q b aa ab h)
  exact tq rfl rfl
theorem T7 {r : List Bool} (K : Nat) (go0 : Qn → Int → Int → (List Bool) → (List (List Int)) → (List Int) → Option (List Bool)) (hgo0 : Nc r go0) (a : Int) (x0 : Qn) (b g : Int) (j : List Bool) (m : List (List Int)) (p q : List Int) (s u : List Int) (v : List (List Qd)) (w y : Value) (aa : Nat) (ab : Value) (ad : Nat) (h : Mb K go0 a x0 b g j m p q s u v = some r) : T tp 85 (ca [1,1,1,1,1,0,1,0,0,1,1,0,0,1,1] ff12) ⟨[(3, .c (.ex w)), (4, .c (.ex y)), (5, .ptr aa 0), (6, .int .i64 a), (7, .ptr ad 0), (24, .sl false 4 (x0.States.map Qf)), (25, .int .i64 b), (26, .int .i64 g)], [.arrX w 4 1 0 (j.map cB), .arrG y 38 (gc 3 1 (cI .i64) m), (O0 aa ab), .arrX ab 3 1 0 (mI p), (Mq ad q s u v)]⟩ (Gu r) := by
 unfold Mb at h
 refine sR (Qq (oA 4 [.sl false 1 (mI q), .sl false 1 (mI s), .sl false 1 (mI u), .sl false 1 (v.map (cL 2 Ql))] Ke i51 rfl ?_))
 obtain ⟨ac, af, h⟩ := bind_some h
 refine oH fu33 (Z1.nil (Sj K af)) rfl (oU ac Ql Sg rfl (mw rfl (nL (tN (T.block (T.loop ?_))))))
 refine Qg ?_ (trim_Live_l4_T K go0 hgo0 K a x0 b g ac (ac.length : Int) (0:Int) j m p w y aa ab h)
 exact tq rfl rfl
abbrev T5 (r : List Bool) (go : Int → Bool → (List Bool) → (List (List Int)) → (List Int) → Option (List Bool)) : Prop := ∀ (a : Int) (b : Bool) (f : List Bool) (g : List (List Int)) (i : List Int) (j l : Value) (m : Nat) (n : Value), go a b f g i = some r → TL tp 85 (ca [1,1,1,1,1,1,0,1,0,0] ff12) ⟨[(3, .c (.ex j)), (4, .c (.ex l)), (5, .ptr m 0), (10, .int .i64 a), (11, .bool b)], [.arrX j 4 1 0 (f.map cB), .arrG l 38 (gc 3 1 (cI .i64) g), (O0 m n), .arrX n 3 1 0 (mI i)]⟩ (Cj r)
theorem T6 {r : List Bool} (K : Nat) (go2 : Int → Bool → (List Bool) → (List (List Int)) → (List Int) → Option (List Bool)) (hgo2 : T5 r go2) (b : List Bool) (f : List (List Int)) (p : List Int) (g i : Value) (a : Nat) (j : Value) (h : Ix K go2 b f p = some r) : T tp 85 (ca [1,1,1,1,1,1,0,1,0,0,1,1] ff12) ⟨[(3, .c (.ex g)), (4, .c (.ex i)), (5, .ptr a 0)], [.arrX g 4 1 0 (b.map cB), .arrG i 38 (gc 3 1 (cI .i64) f), (O0 a j), .arrX j 3 1 0 (mI p)]⟩ (Sk r) := by
 unfold Ix at h
 refine Qq ?_
 obtain ⟨m, q, h⟩ := bind_some h
 refine sp rfl (Q6 (is := [2, 3]) (ph := []) rfl (dk rfl) fu34 rfl rfl (Zs.cons rfl Zs.nil) (Dr K (bx0 := a) (wx0c0 := j) q) (.cons rfl rfl (.cons rfl rfl (.nil))) (fun _ => rfl) (fun s => (nm (.c (.c (.c (.c (.n))))) (mw rfl (oE rfl (oE rfl (aw rfl (aw rfl ?_))))))))
 refine nL (tN ?_)
 refine Qg ?_ (hgo2 m.1 m.2.1 b f m.2.2.l g i a (s 0) h)
 exact tq rfl rfl
theorem trim_Live_l2_T {r : List Bool} (K : Nat) : ∀ (k : Nat), T5 r (Vz K k) := by
 intro k
 induction k with
 | zero =>
  intro v ac a b w m p d q h
  exact zn h
 | succ k ih =>
  intro v ac a b w m p d q h
  rw [Vz] at h
  refine Za (T.seq (sR (Qq (mw rfl (nL (tN ?_))))))
  rcases Qh h with ⟨s, h⟩ | ⟨s, h⟩
  refine Qt rfl s (T.skip (tN (T.seq (T.block (sR (Qq (mw rfl (mw rfl ?_))))))))
  obtain ⟨g, j, h⟩ := bind_some h
  refine sp rfl (Z8 (n := 0) (xs := a) (f := cB) (old := g) rfl (dk rfl) ul33 i4 rfl rfl rfl j (sp rfl (J1 (i := 0) (xs := a) (f := cB) (old := g) rfl (dk rfl) ul4 rfl rfl rfl (Zv j).2 rfl (oT rfl (nL (tN ?_))))))
  rcases Qh h with ⟨u, h⟩ | ⟨u, h⟩
  refine Qt rfl u (sR (Qq (mw rfl (mw rfl (sp rfl (Z8 (n := 0) (xs := a) (f := cB) (old := g) rfl (dk rfl) ul33 i4 rfl rfl rfl j (sp rfl (Wf (i := 0) (xs := a) (f := cB) (old := g) (new := true) rfl rfl i4 rfl rfl rfl (Zv j).2 (Qf7 _) (nb rfl) rfl (nL (tN ?_))))))))))
  refine Qq (mw rfl (mw rfl ?_))
  obtain ⟨aa, ab, h⟩ := bind_some h
  refine sp rfl (Pz (n := 1) (l := b) (y := aa) rfl (dk rfl) ul72 i38 rfl rfl rfl ab (sp rfl (OpT.loadGM (i := 1) (l := b) (y := aa) rfl (dk rfl) Z5 rfl rfl rfl (Zv ab).2 ?_)))
  obtain ⟨ad, af, h⟩ := bind_some h
  refine sp rfl (Q6 (is := [2, 3]) (ph := []) rfl (dk rfl) fu32 rfl rfl (Zs.cons rfl (Zs.cons rfl Zs.nil)) (Ci K (bx0 := d) (wx0c0 := q) (flx1 := false) af) (.cons rfl rfl (.cons rfl rfl (.nil))) (fun _ => rfl) (fun ag => (nm (.c (.c (.c (.c (.n))))) (nL (Qj (tN ?_))))))
  refine Qm ?_ (T6 K (Vz K k) ih (List.set a (Int.toNat v) true) b ad.l m p d (ag 0) h)
  exact tq rfl rfl
  refine Qo rfl u (T.skip (Qj (tN ?_)))
  refine Qm ?_ (T6 K (Vz K k) ih a b w m p d q h)
  exact tq rfl rfl
  refine Qo rfl s (T.exit (Qk (Qk (Qu (tN (sR (Qq (mw rfl (aw rfl (nL (tN (T.ret ?_))))))))))))
  refine Xj (Gl 0 rfl) (Xj (Zx.view 2 0 rfl rfl) (fd rfl (by cases h; exact ⟨rfl, rfl⟩)))
theorem trim_Live_l0_T {r : List Bool} (K : Nat) : ∀ (k : Nat), Nc r (V0 K k) := by
 intro k
 induction k with
 | zero =>
  intro x0 w b j m ac p q g u h
  exact zn h
 | succ k ih =>
  intro x0 w b j m ac p q g u h
  rw [V0] at h
  refine Za (sR (Qq (oI rfl (nL (tN (T.seq ?_))))))
  rcases Qh h with ⟨y, h⟩ | ⟨y, h⟩
  refine Qt rfl y (T.skip (tN (T.seq (T.block (sR (Qq (mw rfl ?_)))))))
  obtain ⟨a, af, h⟩ := bind_some h
  refine oX x0.States Qf He i51 af rfl (oJ Ke i51 rfl (sp rfl (Zg rfl (dk rfl) i51 rfl (fun ad => (aw rfl (sp rfl (Qv (i := 0) (cells' := [.d (.sl false 1 (mI a.L)), .d (.sl false 1 (mI a.R)), .d (.sl false 1 (mI a.Rule)), .d (.sl false 1 (a.Next.map (cL 2 Ql)))]) rfl rfl i51 rfl rfl rfl rfl (nb rfl) rfl (nL (tN (T.seq ?_))))))))))
  refine sR (Qq (oP Ke i38 rfl (oL 0 Z5 rfl ?_)))
  obtain ⟨ap, ag, h⟩ := bind_some h
  refine oH fu31 (Z1.nil (Qd6 K (flx0 := false) ag)) rfl (oI rfl (nL (tN ?_)))
  rcases Qh h with ⟨aa, h⟩ | ⟨aa, h⟩
  refine Qt rfl aa (Qq (mw rfl (sp rfl (OpT.buildSlice (elems := ([b] : List Int).map (cI .i64)) rfl (dk rfl) Z5 i3 (by decide) rfl (Hb rfl) rfl rfl rfl (Xh rfl) (by decide) ?_))))
  obtain ⟨ai, aj, h⟩ := bind_some h
  refine sp rfl (Q6 (is := [3, 4]) (ph := []) rfl (dk rfl) fu32 rfl rfl (Zs.cons rfl (Zs.cons rfl Zs.nil)) (Ci K (bx0 := g) (wx0c0 := u) (flx1 := true) aj) (.cons rfl rfl (.cons rfl rfl (.nil))) (fun _ => rfl) (fun al => (nm (.c (.c (.c (.c (.c (.n)))))) (nL (tN ?_)))))
  refine Qm ?_ (T7 K (V0 K k) ih b x0 w b j m ai.l a.L a.R a.Rule a.Next p q g (al 0) ad h)
  exact tr rfl (.c (.s .z) (.c (.s .z) (.c (.s .z) (.c (.s .z) (.c .z (.n _))))))
  refine Qo rfl aa (T.skip (tN ?_))
  refine Qm ?_ (T7 K (V0 K k) ih b x0 w b j m ac a.L a.R a.Rule a.Next p q g u ad h)
  exact tr rfl (.c (.s .z) (.c (.s .z) (.c (.s .z) (.c (.s .z) (.c .z (.n _))))))
  refine Qo rfl y (T.exit (Qk (Qk (Qu (tN (T.seq (sR (Qq ?_))))))))
  obtain ⟨ab, am, h⟩ := bind_some h
  refine sp rfl (Q6 (is := [2, 3]) (ph := []) rfl (dk rfl) fu34 rfl rfl (Zs.cons rfl Zs.nil) (Dr K (bx0 := g) (wx0c0 := u) am) (.cons rfl rfl (.cons rfl rfl (.nil))) (fun _ => rfl) (fun an => (nm (.c (.c (.c (.c (.n))))) (mw rfl (oE rfl (oE rfl (aw rfl (aw rfl ?_))))))))
  refine nL (tN (T.block (T.loop ?_)))
  refine Qg ?_ (trim_Live_l2_T K K ab.1 ab.2.1 j m ab.2.2.l p q g (an 0) h)
  exact tq rfl rfl
theorem trim_Live_T (K : Nat) {x0 : Qn} {r : List Bool} (h : Sl K x0 = some r) : Z1 tp 12 [.agg ((Zn.dc 256 .u8 x0.Split.Of) ++ (([.int .i64 x0.Split.Many, .sl false 2 (mA x0.Counts), .sl false 4 (x0.States.map Qf)] : List DC)))] [] (.sl false 1 (r.map cB)) := by
 refine CI 85 fu12 rfl ?_
 unfold Sl at h
 refine sR (Qq (sp rfl (Zw rfl (dk rfl) rfl (fun u => (aw rfl (nL (tN (T.seq (sR (Qq (oA 0 ((Zn.dc 256 .u8 x0.Split.Of) ++ (([.int .i64 x0.Split.Many, .sl false 2 (mA x0.Counts), .sl false 4 (x0.States.map Qf)] : List DC))) G4 i28 rfl ?_)))))))))))
 obtain ⟨v, d, h⟩ := bind_some h
 refine oH fu24 (Z1.nil (Tc K d)) rfl (oT rfl (nL (tN ?_)))
 rcases Qh h with ⟨a, h⟩ | ⟨a, h⟩
 refine Qt rfl a (sR (Qq (aw rfl (nL (tN (T.ret (Qy (Xj (Em 2 false 1 rfl) (fd rfl (by cases h; exact ⟨rfl, rfl⟩))))))))))
 refine Qo rfl a (T.skip (tN (sR (Qq (oP G4 i26 rfl (oL 0 He rfl (oU x0.States Qf He rfl ?_)))))))
 obtain ⟨b, h⟩ := Q9 h
 obtain ⟨g, h⟩ := Q9 h
 refine sp rfl (Gm (f := cB) (zv := (false : Bool)) rfl (dk rfl) ul33 i4 (by decide) rfl rfl rfl rfl rfl b g (fun j => (aw rfl (nL (tN (sR (Qq (oP G4 i26 rfl (oL 1 He rfl (oU x0.States Qf He rfl ?_))))))))))
 obtain ⟨m, h⟩ := Q9 h
 refine sp rfl (N2 (e1 := 3) (esz := 1) (f := (cI .i64)) rfl (dk rfl) ul72 i38 rfl rfl b m (fun p => (aw rfl (nL (tN (sR (Qq (sp rfl (Zg rfl (dk rfl) i74 rfl (fun q => (nL (tN (T.seq (sR (Qq ?_)))))))))))))))
 refine oP G4 i26 rfl (oL 3 He rfl (oU x0.States Qf He rfl (mw rfl (nL (tN (T.block (T.loop ?_)))))))
 refine Qg (Te 3 1) ?_
 refine Qg ?_ (trim_Live_l0_T K K x0 (x0.States.length : Int) (0:Int) (List.replicate (Int.toNat (x0.States.length : Int)) (false : Bool)) (List.replicate (Int.toNat (x0.States.length : Int)) ([] : List Int)) [] j p q (Tp 19) h)
 exact tr rfl (.c (.s (.s (.s .z))) (.c (.s (.s .z)) (.c (.s .z) (.c .z (.n _)))))
abbrev slices_Clone_int_q (r : List Int) : ES := Jz tp ff95 (fun y t => y = (.sl false 1 (mI r)) ∧ t = [])
theorem Uw (K : Nat) {x0 : List Int} {flx0 : Bool} {r : List Int} (h : Xv K x0 = some r) : Z1 tp 95 [.sl flx0 1 (mI x0)] [] (.sl false 1 (mI r)) := by
 refine CI 8 fu95 rfl ?_
 unfold Xv at h
 refine sR (Qq (aw rfl (nL (tN (T.seq (sR (Qq (mw rfl (sp rfl (Qfm (xs := x0) (f := (cI .i64)) rfl (dk rfl) Z5 rfl rfl (fun b c => ?_)))))))))))
 refine nL (tN ?_)
 rcases Bool.eq_false_or_eq_true b with a | a
 have hx := c a
 replace h : (some []) = some r := by first | (rw [hx] at h; exact h) | exact h
 refine Qt rfl a (sR (Qq (aw rfl (nL (tN (T.ret (Qy (Xj (Em 2 false 1 rfl) (fd rfl (by cases h; exact ⟨rfl, rfl⟩))))))))))
 refine Qo rfl a (T.skip (tN (sR (Qq (sp rfl (OpT.buildSlice (elems := ([] : List Int).map (cI .i64)) rfl (dk rfl) Z5 i3 (by decide) rfl (Hb rfl) rfl rfl rfl (Xh rfl) (by decide) (mw rfl ?_)))))))
 obtain ⟨d, h⟩ := Q9 h
 refine sp rfl (N4 (xs := ([] : List Int)) (ys := x0) (f := (cI .i64)) rfl (dk rfl) Z5 i3 rfl rfl rfl (.inr rfl) d (fun g => (aw rfl (nL (tN (T.ret (Xj (Zx.view 2 0 rfl rfl) (fd rfl (by cases h; exact ⟨rfl, rfl⟩)))))))))
abbrev slices_Clone_uint8_q (r : List Int) : ES := Jz tp ff94 (fun y t => y = (.sl false 1 (mU r)) ∧ t = [])
theorem Dv (K : Nat) {x0 : List Int} {flx0 : Bool} {r : List Int} (h : Uv K x0 = some r) : Z1 tp 94 [.sl flx0 1 (mU x0)] [] (.sl false 1 (mU r)) := by
 refine CI 8 fu94 rfl ?_
 unfold Uv at h
 refine sR (Qq (aw rfl (nL (tN (T.seq (sR (Qq (mw rfl (sp rfl (Qfm (xs := x0) (f := (cI .u8)) rfl (dk rfl) Mt rfl rfl (fun b c => ?_)))))))))))
 refine nL (tN ?_)
 rcases Bool.eq_false_or_eq_true b with a | a
 have hx := c a
 replace h : (some []) = some r := by first | (rw [hx] at h; exact h) | exact h
 refine Qt rfl a (sR (Qq (aw rfl (nL (tN (T.ret (Qy (Xj (Em 2 false 1 rfl) (fd rfl (by cases h; exact ⟨rfl, rfl⟩))))))))))
 refine Qo rfl a (T.skip (tN (sR (Qq (sp rfl (OpT.buildSlice (elems := ([] : List Int).map (cI .u8)) rfl (dk rfl) Mt i5 (by decide) rfl (Hb rfl) rfl rfl rfl (Xh rfl) (by decide) (mw rfl ?_)))))))
 obtain ⟨d, h⟩ := Q9 h
 refine sp rfl (N4 (xs := ([] : List Int)) (ys := x0) (f := (cI .u8)) rfl (dk rfl) Mt i5 rfl rfl rfl (.inr rfl) d (fun g => (aw rfl (nL (tN (T.ret (Xj (Zx.view 2 0 rfl rfl) (fd rfl (by cases h; exact ⟨rfl, rfl⟩)))))))))
abbrev Qaf (bx0 : Nat) (wx1 : Value) (x1 : List Int) (r : Qc) : ES := Jz tp Qbt (fun y t => ∃ γ : Nat → Value, y = (.tup []) ∧ t = [(Ja bx0 r.Auto.Split.Of r.Auto.Split.Many r.Auto.Counts r.Auto.States), .arrX wx1 3 1 0 (mI x1)])
abbrev Rc (bx0 : Nat) (wx1 : Value) (x1 : List Int) (r : Qc) : ES := fT 102 [1,1] Qbt (Qaf bx0 wx1 x1 r)
abbrev Ma (bx0 : Nat) (wx1 : Value) (x1 : List Int) (r : Qc) : ES := Qz 0 ((Rc bx0 wx1 x1 r))
abbrev N5 (bx0 : Nat) (wx1 : Value) (x1 : List Int) (r : Qc) : ES := fL 102 [1,0,1,0,0] Qbt (Ma bx0 wx1 x1 r)
abbrev Dz (bx0 : Nat) (wx1 : Value) (x1 : List Int) (r : Qc) : ES := fT 102 [1,0,1,0,0,1,1,1] Qbt (N5 bx0 wx1 x1 r)
abbrev M9 (bx0 : Nat) (wx1 : Value) (x1 : List Int) (r : Qc) : ES := Qz 1 ((Dz bx0 wx1 x1 r))
abbrev M8 (bx0 : Nat) (wx1 : Value) (x1 : List Int) (r : Qc) : ES := fT 102 [1,0,1,0,0,1,1,0,0,1,1,1] Qbt (M9 bx0 wx1 x1 r)
abbrev Ut (bx0 : Nat) (wx1 : Value) (x1 : List Int) (r : Qc) : ES := Qz 2 ((M8 bx0 wx1 x1 r))
abbrev Mj (bx0 : Nat) (wx1 : Value) (x1 : List Int) (r : Qc) : ES := fL 102 [1,0,1,0,0,1,1,0,0,1,1,0,1,0,0] Qbt (Ut bx0 wx1 x1 r)
abbrev Lk (bx0 : Nat) (wx1 : Value) (x1 : List Int) (r : Qc) : ES := fT 102 [1,0,1,0,0,1,1,0,0,1,1,0,1,0,0,1,1,1] Qbt (Mj bx0 wx1 x1 r)
abbrev Wj (bx0 : Nat) (wx1 : Value) (x1 : List Int) (r : Qc) : ES := Qz 3 ((Lk bx0 wx1 x1 r))
abbrev X8 (bx0 : Nat) (wx1 : Value) (x1 : List Int) (r : Qc) : ES := Qz 4 ((Wj bx0 wx1 x1 r))
abbrev H5 (bx0 : Nat) (wx1 : Value) (x1 : List Int) (r : Qc) : ES := fL 102 [1,0,1,0,0,1,1,0,0,1,1,0,1,0,0,1,1,0,0,1,1,0,0] Qbt (X8 bx0 wx1 x1 r)
abbrev Wi (bx0 : Nat) (wx1 : Value) (x1 : List Int) (r : Qc) : ES := fT 102 [1,0,1,0,0,1,1,0,0,1,1,0,1,0,0,1,1,0,0,1,1,0,0,1,1,1] Qbt (H5 bx0 wx1 x1 r)
abbrev Y3 (bx0 : Nat) (wx1 : Value) (x1 : List Int) (r : Qc) : ES := Qz 5 ((Wi bx0 wx1 x1 r))
abbrev Jp (bx0 : Nat) (wx1 : Value) (x1 : List Int) (r : Qc) : ES := fT 102 [1,0,1,0,0,1,1,0,0,1,1,0,1,0,0,1,1,0,0,1,1,0,0,1,1,0,0,1,1,1] Qbt (Y3 bx0 wx1 x1 r)
abbrev Gn (bx0 : Nat) (wx1 : Value) (x1 : List Int) (r : Qc) (go : Int → Int → Qc → Int → Int → (List (List Qd)) → Int → Int → (List Qd) → Int → Int → (List Int) → (List Qa) → (List Int) → (List Int) → (List Int) → (List (List Qd)) → (List (List Qd)) → Option Qc) : Prop := ∀ (a b : Int) (x0 : Qc) (f g : Int) (i : List (List Qd)) (j l : Int) (m : List Qd) (n p : Int) (x1 : List Int) (q : List Qa) (s u v : List Int) (w y : List (List Qd)) (z : Value) (aa : Nat) (ab : Value), go a b x0 f g i j l m n p x1 q s u v w y = some r → TL tp 102 (ca [1,0,1,0,0,1,1,0,0,1,1,0,1,0,0,1,1,0,0,1,1,0,0] Qbt) ⟨[(0, .ptr bx0 0), (1, .c (.ex wx1)), (4, .c (.ex z)), (5, .int .i64 a), (6, .ptr aa 0), (7, .c (.ex ab)), (8, .int .i64 b), (24, .sl false 4 (x0.Auto.States.map Qf)), (25, .int .i64 f), (26, .int .i64 g), (36, .sl false 1 (i.map (cL 2 Ql))), (37, .int .i64 j), (38, .int .i64 l), (43, .sl false 2 (m.map Ql)), (44, .int .i64 n), (45, .int .i64 p)], [(Ja bx0 x0.Auto.Split.Of x0.Auto.Split.Many x0.Auto.Counts x0.Auto.States), .arrX wx1 3 1 0 (mI x1), .arrX z 51 4 0 (q.map Qf), (Mq aa s u v w), .arrG ab 55 (gc 54 2 Ql y)]⟩ (X8 bx0 wx1 x1 r)
theorem Bo {r : Qc} (K bx0 : Nat) (wx1 : Value) (x1 : List Int) (go2 : Int → Int → Qc → Int → Int → (List (List Qd)) → Int → Int → (List Qd) → Int → Int → (List Int) → (List Qa) → (List Int) → (List Int) → (List Int) → (List (List Qd)) → (List (List Qd)) → Option Qc) (hgo2 : Gn bx0 wx1 x1 r go2) (ac g : Int) (x0 : Qc) (ad af : Int) (ag : List (List Qd)) (ai aj : Int) (al : List Qd) (am an : Int) (x1 : List Int) (ap : List Qa) (aq au av : List Int) (ay p : List (List Qd)) (j : Int) (m : List Int) (v : Value) (aa : Nat) (b : Value) (ab : Nat) (h : Vv K go2 ac g x0 ad af ag ai aj al am an x1 ap aq au av ay p j m = some r) : T tp 102 (ca [1,0,1,0,0,1,1,0,0,1,1,0,1,0,0,1,1,0,0,1,1,0,0,1,1,0,0,1,1,1] Qbt) ⟨[(0, .ptr bx0 0), (1, .c (.ex wx1)), (4, .c (.ex v)), (5, .int .i64 ac), (6, .ptr aa 0), (7, .c (.ex b)), (8, .int .i64 g), (12, .ptr ab 0), (24, .sl false 4 (x0.Auto.States.map Qf)), (25, .int .i64 ad), (26, .int .i64 af), (36, .sl false 1 (ag.map (cL 2 Ql))), (37, .int .i64 ai), (38, .int .i64 aj), (43, .sl false 2 (al.map Ql)), (44, .int .i64 am), (45, .int .i64 an)], [(Ja bx0 x0.Auto.Split.Of x0.Auto.Split.Many x0.Auto.Counts x0.Auto.States), .arrX wx1 3 1 0 (mI x1), .arrX v 51 4 0 (ap.map Qf), (Mq aa aq au av ay), .arrG b 55 (gc 54 2 Ql p), (Qcp ab j m)]⟩ (Y3 bx0 wx1 x1 r) := by
 unfold Vv at h
 refine Qm Yk (Qm Yk (Us (gM rfl (fun _ => .f rfl) (fun _ => rfl) (gM rfl (fun _ => .f rfl) (fun _ => rfl) (gM rfl (fun _ => .f rfl) (fun _ => rfl) (gM rfl (fun _ => .f rfl) (fun _ => rfl) ?_))))))
 obtain ⟨q, az, h⟩ := bind_some h
 refine dC (c := ⟨some 74, .el b 1 (Int.toNat g) 0, [(72, .c (.ex b)), (73, .int .i64 g)], [(6, .arrG b 55 (gc 54 2 Ql p))], []⟩) (fun t hm => oF rfl rfl (Pz (n := 6) (l := p) (y := q) rfl (dk rfl) Qcz i55 hm.s0 hm.o0 hm.s1 az ⟨u0, rfl⟩)) (fun _ => rfl) (fun _ => rfl) (DGG.step (c := fun a => ⟨some 75, .c (.ex ((a 5).1 0)), [(74, .el b 1 (Int.toNat g) 0)], [(6, .arrG b 55 (gc 54 2 Ql p)), (0, .ro 0 [])], [(6, .arrG b 55 (gh 54 2 Ql p (Int.toNat g) ((a 5).1 0))), (0, .arrA ((a 5).1 0) 54 2 (q.map Ql))]⟩) [5] (fun a γ' h => by simp only [h 5 (by decide)]) (fun a t hm => oF rfl rfl (Qdk (i := 6) (kk := 0) (l := p) (y := q) rfl (dk rfl) Sg rfl hm.s0 hm.o0 (Zv az).2 hm.o1 (fun w => ⟨(fun _ => w, 0), rfl⟩))) (fun a => Zr rfl rfl) (gW 7 [.int .i64 j, .sl false 1 (mU m)] rfl (fun _ => .f rfl) Iw i54 (fun _ => rfl) (dC (c := ⟨some 77, .sl true 2 ([(Qd.mk j m)].map Ql), [(76, .agg [.int .i64 j, .sl false 1 (mU m)])], [], []⟩) (fun t hm => oF rfl rfl (OpT.buildSlice (elems := ([(Qd.mk j m)] : List Qd).map Ql) rfl (dk rfl) Sg i54 (by decide) rfl (Hb rfl) (Y1 hm.s0 rfl Jl) rfl rfl (Xh rfl) (by decide) ⟨u0, rfl⟩)) (fun _ => rfl) (fun _ => rfl) ?_)))
 obtain ⟨a0, h⟩ := Q9 h
 refine DGG.step (c := fun a => ⟨some 78, .c (.ex ((a 8).1 0)), [(77, .sl true 2 ([(Qd.mk j m)].map Ql)), (75, .c (.ex ((a 5).1 0)))], [(0, .arrA ((a 5).1 0) 54 2 (q.map Ql))], [(0, .arrA ((a 8).1 0) 54 2 ((q ++ [(Qd.mk j m)]).map Ql))]⟩) [5, 8] (fun a γ' h => by simp only [h 5 (by decide), h 8 (by decide)]) (fun a t hm => oF rfl rfl (Zj (i := 0) (xs := q) (ys := [(Qd.mk j m)]) (f := Ql) rfl (dk rfl) Sg i54 rfl hm.s1 hm.o0 hm.s0 a0 (fun w => ⟨(fun _ => w, 0), rfl⟩))) (fun a => Zr rfl rfl) (DGG.step (c := fun a => ⟨some 79, .el b 1 (Int.toNat g) 0, [(70, .c (.ex b)), (71, .int .i64 g)], [(6, .arrG b 55 (gh 54 2 Ql p (Int.toNat g) ((a 5).1 0)))], []⟩) [5] (fun a γ' h => by simp only [h 5 (by decide)]) (fun a t hm => oF rfl rfl (Qbr (n := 6) (l := p) (y := q) rfl (dk rfl) Qcz i55 hm.s0 hm.o0 hm.s1 az ⟨u0, rfl⟩)) (fun a => Zr rfl rfl) (DGG.step (c := fun a => ⟨none, .any, [(79, .el b 1 (Int.toNat g) 0), (78, .c (.ex ((a 8).1 0)))], [(6, .arrG b 55 (gh 54 2 Ql p (Int.toNat g) ((a 5).1 0))), (0, .arrA ((a 8).1 0) 54 2 ((q ++ [(Qd.mk j m)]).map Ql))], [(6, .arrG b 55 (gc 54 2 Ql (List.set p (Int.toNat g) (q ++ [(Qd.mk j m)])))), (0, .ro 0 [])]⟩) [5, 8] (fun a γ' h => by simp only [h 5 (by decide), h 8 (by decide)]) (fun a t hm => oF rfl rfl (Qbq (i := 6) (kk := 0) (l := p) (old := q) (y' := (q ++ [(Qd.mk j m)])) rfl rfl i55 hm.s0 hm.s1 hm.o0 (Zv az).2 hm.o1 ⟨u0, rfl⟩)) (fun a => Zr rfl rfl) (gF [0,0,0,0,12,28,0,64,252,511,1023] Q3 rfl (by kernel_rfl) (fun _ => by kernel_rfl) (fun a u hu => (Qj (tN (Qm hu (Qq (oI rfl (mw rfl ?_))))))))))
 refine nL (tN ?_)
 refine Qg ?_ (hgo2 ac g x0 ad af ag ai aj al am (wI (an + (1:Int))) x1 ap aq au av ay (List.set p (Int.toNat g) (q ++ [(Qd.mk j m)])) v aa b h)
 exact tr rfl (.c (.s (.s .z)) (.c (.s (.s .z)) (.c (.s (.s .z)) (.c (.s (.s .z)) (.c (.s (.s .z)) (.n _))))))
theorem Bn {r : Qc} (K bx0 : Nat) (wx1 : Value) (x1 : List Int) (go2 : Int → Int → Qc → Int → Int → (List (List Qd)) → Int → Int → (List Qd) → Int → Int → (List Int) → (List Qa) → (List Int) → (List Int) → (List Int) → (List (List Qd)) → (List (List Qd)) → Option Qc) (hgo2 : Gn bx0 wx1 x1 r go2) (a b : Int) (x0 : Qc) (f g : Int) (i : List (List Qd)) (j l : Int) (m : List Qd) (p q : Int) (x1 : List Int) (s : List Qa) (u v w : List Int) (y aa : List (List Qd)) (ab : Value) (ac : Nat) (ad : Value) (af : Nat) (h : Vu K go2 a b x0 f g i j l m p q x1 s u v w y aa = some r) : T tp 102 (ca [1,0,1,0,0,1,1,0,0,1,1,0,1,0,0,1,1,0,0,1,1,0,0,1,1,0,0,1,1,0,1,1] Qbt) ⟨[(0, .ptr bx0 0), (1, .c (.ex wx1)), (4, .c (.ex ab)), (5, .int .i64 a), (6, .ptr ac 0), (7, .c (.ex ad)), (8, .int .i64 b), (12, .ptr af 0), (24, .sl false 4 (x0.Auto.States.map Qf)), (25, .int .i64 f), (26, .int .i64 g), (36, .sl false 1 (i.map (cL 2 Ql))), (37, .int .i64 j), (38, .int .i64 l), (43, .sl false 2 (m.map Ql)), (44, .int .i64 p), (45, .int .i64 q)], [(Ja bx0 x0.Auto.Split.Of x0.Auto.Split.Many x0.Auto.Counts x0.Auto.States), .arrX wx1 3 1 0 (mI x1), .arrX ab 51 4 0 (s.map Qf), (Mq ac u v w y), .arrG ad 55 (gc 54 2 Ql aa), (Qcp af (-1:Int) ([] : List Int))]⟩ (Jp bx0 wx1 x1 r) := by
 unfold Vu at h
 refine T.skip (tN ?_)
 refine Qm ?_ (Bo K bx0 wx1 x1 go2 hgo2 a b x0 f g i j l m p q x1 s u v w y aa (-1:Int) [] ab ac ad af h)
 exact tq rfl rfl
abbrev Bl (bx0 : Nat) (wx1 : Value) (x1 : List Int) (r : Qc) (go : Int → Qc → Int → Int → (List (List Qd)) → Int → Int → (List Int) → (List Qa) → (List Int) → (List Int) → (List Int) → (List (List Qd)) → (List (List Qd)) → Option Qc) : Prop := ∀ (a : Int) (x0 : Qc) (b f : Int) (g : List (List Qd)) (i j : Int) (x1 : List Int) (l : List Qa) (m n p : List Int) (q s : List (List Qd)) (u : Value) (v : Nat) (w : Value), go a x0 b f g i j x1 l m n p q s = some r → TL tp 102 (ca [1,0,1,0,0,1,1,0,0,1,1,0,1,0,0] Qbt) ⟨[(0, .ptr bx0 0), (1, .c (.ex wx1)), (4, .c (.ex u)), (5, .int .i64 a), (6, .ptr v 0), (7, .c (.ex w)), (24, .sl false 4 (x0.Auto.States.map Qf)), (25, .int .i64 b), (26, .int .i64 f), (36, .sl false 1 (g.map (cL 2 Ql))), (37, .int .i64 i), (38, .int .i64 j)], [(Ja bx0 x0.Auto.Split.Of x0.Auto.Split.Many x0.Auto.Counts x0.Auto.States), .arrX wx1 3 1 0 (mI x1), .arrX u 51 4 0 (l.map Qf), (Mq v m n p q), .arrG w 55 (gc 54 2 Ql s)]⟩ (Ut bx0 wx1 x1 r)
theorem Re {r : Qc} (K bx0 : Nat) (wx1 : Value) (x1 : List Int) (go1 : Int → Qc → Int → Int → (List (List Qd)) → Int → Int → (List Int) → (List Qa) → (List Int) → (List Int) → (List Int) → (List (List Qd)) → (List (List Qd)) → Option Qc) (hgo1 : Bl bx0 wx1 x1 r go1) : ∀ (k : Nat), Gn bx0 wx1 x1 r (Z0 K go1 k) := by
 intro k
 induction k with
 | zero =>
  intro aa au x0 ab ac ad af ag ai av ay x1 aj al am an ap aq q w y h
  exact zn h
 | succ k ih =>
  intro aa au x0 ab ac ad af ag ai av ay x1 aj al am an ap aq q w y h
  rw [Z0] at h
  refine Za (sR (Qq (oI rfl (nL (tN (T.seq ?_))))))
  rcases Qh h with ⟨a0, h⟩ | ⟨a0, h⟩
  refine Qt rfl a0 (T.skip (tN (T.seq (T.block (sR (Qq ?_))))))
  obtain ⟨a, a2, h⟩ := bind_some h
  refine oX ai Ql Sg i54 a2 rfl (oJ Iw i54 rfl (sp rfl (Zg rfl (dk rfl) i54 rfl (fun j => (sp rfl (Qv (i := 0) (cells' := [.d (.int .i64 a.To), .d (.sl false 1 (mU a.Ops))]) rfl rfl i54 rfl rfl rfl rfl (nb rfl) rfl (nL (tN (sR (Qq (sp rfl (Zi (OpT.build (l := [.int .i64 (-1:Int), .ex (.slice none 0 0)]) rfl (dk rfl) (Zp (pl := [(0, 1), (1, 1)]) Iw i54 rfl) (Hb rfl) rfl rfl rfl) (Zy 49 (l := [.int .i64 (-1:Int), .ex (.slice none 0 0)]) (l' := [.int .i64 (-1:Int), .sl false 1 (([] : List Int).map (cI .u8))]) (.cons (.same _) (.cons (.nil _ _) (.refl _)))) (sp rfl (Zg rfl (dk rfl) i54 rfl (fun p => ?_)))))))))))))))
  refine sp rfl (Qv (i := 0) (cells' := [.d (.int .i64 (-1:Int)), .d (.sl false 1 (([] : List Int).map (cI .u8)))]) rfl rfl i54 rfl rfl rfl rfl (nb rfl) rfl (nL (tN (T.seq (sR (Qq (oP Iw i3 rfl (oL 1 ul3 rfl (oI rfl ?_)))))))))
  refine mw rfl ?_
  rcases Qh h with ⟨b, h⟩ | ⟨b, h⟩
  refine sn rfl b (OpT.move rfl (dk rfl) rfl (sn rfl b (Ur rfl (dk rfl) Iw rfl i3 (by decide) rfl (sn rfl b (Yr (i := 1) rfl (dk rfl) ul3 rfl rfl rfl rfl ?_)))))
  obtain ⟨g, az, h⟩ := bind_some h
  refine sn rfl b (Z8 (n := 3) (xs := x1) (f := (cI .i64)) (old := g) rfl (dk rfl) Z5 i3 rfl rfl rfl az (sn rfl b (J1 (i := 3) (xs := x1) (f := (cI .i64)) (old := g) rfl (dk rfl) ul3 rfl rfl rfl (Zv az).2 rfl (sn rfl b (Z9 rfl rfl (dk rfl) rfl rfl (oY b rfl (nL (tN ?_))))))))
  rcases Qh h with ⟨a1, h⟩ | ⟨a1, h⟩
  refine Qt rfl a1 (Xk (dV rfl rfl (dP rfl (.f rfl) Iw i3 rfl (dL 1 rfl (.f rfl) ul3 rfl (dS (c := ⟨some 64, .el wx1 1 (Int.toNat a.To) 0, [(61, .c (.ex wx1)), (63, .int .i64 a.To)], [(3, .arrX wx1 3 1 0 (mI x1))], []⟩) (fun t hm => oF rfl rfl (Z8 (n := 3) (xs := x1) (f := (cI .i64)) (old := g) rfl (dk rfl) Z5 i3 hm.s0 hm.o0 hm.s1 az rfl)) rfl rfl (dS (c := ⟨some 65, .int .i64 g, [(64, .el wx1 1 (Int.toNat a.To) 0)], [(3, .arrX wx1 3 1 0 (mI x1))], []⟩) (fun t hm => oF rfl rfl (J1 (i := 3) (xs := x1) (f := (cI .i64)) (old := g) rfl (dk rfl) ul3 rfl hm.s0 hm.o0 (Zv az).2 rfl rfl)) rfl rfl ?_))))))
  refine dP rfl (.f rfl) Iw i52 rfl (dL 1 rfl (.f rfl) Mt rfl ?_)
  obtain ⟨m, a3, h⟩ := bind_some h
  refine dH fu94 (Z1.nil (Dv K (flx0 := false) a3)) rfl (.f rfl) rfl (dS (c := ⟨some 69, .agg [.int .i64 g, .sl false 1 (mU m)], [(65, .int .i64 g), (68, .sl false 1 (mU m))], [], []⟩) (fun t hm => oF rfl rfl (OpT.build (l := [.int .i64 g, .sl false 1 (mU m)]) rfl (dk rfl) (Zp (pl := [(0, 1), (1, 1)]) Iw i54 rfl) (Hb rfl) (Y1 hm.s0 rfl (Y1 hm.s1 rfl Jl)) rfl rfl)) rfl rfl (dS (c := ⟨none, .any, [(12, .ptr p 0), (69, .agg [.int .i64 g, .sl false 1 (mU m)])], [(0, (Qcp p (-1:Int) ([] : List Int)))], [(0, (Qcp p g m))]⟩) (fun t hm => oF rfl rfl (Qv (i := 0) (cells' := [.d (.int .i64 g), .d (.sl false 1 (mU m))]) rfl rfl i54 hm.s0 hm.s1 rfl hm.o0 (nb rfl) rfl rfl)) rfl rfl (dF [0,0,2,7,15,0,32,96,255,511] Q3 rfl (by kernel_rfl) (fun u hu => (tN (Qm hu ?_))))))
  refine Qm ?_ (Bo K bx0 wx1 x1 (Z0 K go1 k) ih aa au x0 ab ac ad af ag ai av ay x1 aj al am an ap aq g m q w y p h)
  exact tr rfl (.c (.s (.s .z)) (.c (.s (.s .z)) (.c (.s (.s .z)) (.c (.s (.s .z)) (.c (.s (.s .z)) (.c .z (.n _)))))))
  refine Qo rfl a1 ?_
  refine Qm ?_ (Bn K bx0 wx1 x1 (Z0 K go1 k) ih aa au x0 ab ac ad af ag ai av ay x1 aj al am an ap aq q w y p h)
  exact tr rfl (.c (.s (.s .z)) (.c (.s (.s .z)) (.c (.s (.s .z)) (.c (.s (.s .z)) (.c (.s (.s .z)) (.c .z (.n _)))))))
  refine pf rfl b (pf rfl b (pf rfl b (pf rfl b (pf rfl b (pf rfl b (oZ b rfl ?_))))))
  refine nL (tN (Qo rfl rfl ?_))
  refine Qm ?_ (Bn K bx0 wx1 x1 (Z0 K go1 k) ih aa au x0 ab ac ad af ag ai av ay x1 aj al am an ap aq q w y p h)
  exact tr rfl (.c (.s (.s .z)) (.c (.s (.s .z)) (.c (.s (.s .z)) (.c (.s (.s .z)) (.c (.s (.s .z)) (.c .z (.n _)))))))
  refine Qo rfl a0 (T.exit (Qk (Qk (Qu (Qj (tN (Qq (oI rfl (mw rfl (nL (tN ?_)))))))))))
  refine Qg ?_ (hgo1 aa x0 ab ac ad af (wI (ag + (1:Int))) x1 aj al am an ap aq q w y h)
  exact tq rfl rfl
abbrev Bm (bx0 : Nat) (wx1 : Value) (x1 : List Int) (r : Qc) (go : Qc → Int → Int → (List Int) → (List Qa) → Option Qc) : Prop := ∀ (x0 : Qc) (a b : Int) (x1 : List Int) (f : List Qa) (g : Value), go x0 a b x1 f = some r → TL tp 102 (ca [1,0,1,0,0] Qbt) ⟨[(0, .ptr bx0 0), (1, .c (.ex wx1)), (4, .c (.ex g)), (24, .sl false 4 (x0.Auto.States.map Qf)), (25, .int .i64 a), (26, .int .i64 b)], [(Ja bx0 x0.Auto.Split.Of x0.Auto.Split.Many x0.Auto.Counts x0.Auto.States), .arrX wx1 3 1 0 (mI x1), .arrX g 51 4 0 (f.map Qf)]⟩ (Ma bx0 wx1 x1 r)
theorem Rf {r : Qc} (K bx0 : Nat) (wx1 : Value) (x1 : List Int) (go0 : Qc → Int → Int → (List Int) → (List Qa) → Option Qc) (hgo0 : Bm bx0 wx1 x1 r go0) : ∀ (k : Nat), Bl bx0 wx1 x1 r (Ys K go0 k) := by
 intro k
 induction k with
 | zero =>
  intro s x0 ac ad ag am ai x1 j w y aa ab b g a aj h
  exact zn h
 | succ k ih =>
  intro s x0 ac ad ag am ai x1 j w y aa ab b g a aj h
  rw [Ys] at h
  refine Za (sR (Qq (oI rfl (nL (tN (T.seq ?_))))))
  rcases Qh h with ⟨al, h⟩ | ⟨al, h⟩
  refine Qt rfl al (T.skip (tN (T.seq (T.block (sR (Qq (mw rfl ?_)))))))
  obtain ⟨af, aq, h⟩ := bind_some h
  refine oX ag (cL 2 Ql) Qcz i55 aq rfl (oR Sg rfl (aw rfl (aw rfl (nL (tN (sR (Qq (mw rfl (oU af Ql Sg rfl ?_)))))))))
  refine mw rfl (nL (tN (T.block (T.loop ?_))))
  refine Qg ?_ (Re K bx0 wx1 x1 (Ys K go0 k) ih K s ai x0 ac ad ag am ai af (af.length : Int) (0:Int) x1 j w y aa ab b g a aj h)
  exact tq rfl rfl
  refine Qo rfl al (T.exit (Qk (Qk (Qu (tN (Qm (Zx.dataG (l := b) 4 rfl) (Qm (Gl 4 rfl) (Qm (Zx.view 7 4 rfl rfl) (Xk (dV rfl rfl ?_))))))))))
  refine dV rfl rfl (dP rfl (.f rfl) Ke i38 rfl (dL 3 rfl (.f rfl) Z5 rfl ?_))
  obtain ⟨m, au, h⟩ := bind_some h
  refine dH fu95 (Z1.nil (Uw K (flx0 := false) au)) rfl (.f rfl) rfl (dP rfl (.f rfl) Ke i38 rfl (dL 3 rfl (.f rfl) Z5 rfl ?_))
  obtain ⟨p, av, h⟩ := bind_some h
  refine dH fu95 (Z1.nil (Uw K (flx0 := false) av)) rfl (.f rfl) rfl (dP rfl (.f rfl) Ke i38 rfl (dL 3 rfl (.f rfl) Z5 rfl ?_))
  obtain ⟨q, ay, h⟩ := bind_some h
  refine dH fu95 (Z1.nil (Uw K (flx0 := false) ay)) rfl (.f rfl) rfl (dV rfl rfl (dS (c := ⟨some 94, .agg [.sl false 1 (mI m), .sl false 1 (mI p), .sl false 1 (mI q), .sl false 1 (b.map (cL 2 Ql))], [(86, .sl false 1 (mI m)), (89, .sl false 1 (mI p)), (92, .sl false 1 (mI q)), (93, .sl false 1 (b.map (cL 2 Ql)))], [], []⟩) (fun t hm => oF rfl rfl (OpT.build (l := [.sl false 1 (mI m), .sl false 1 (mI p), .sl false 1 (mI q), .sl false 1 (b.map (cL 2 Ql))]) rfl (dk rfl) (Zp (pl := [(0, 1), (1, 1), (2, 1), (3, 1)]) Ke i51 rfl) (Hb rfl) (Y1 hm.s0 rfl (Y1 hm.s1 rfl (Y1 hm.s2 rfl (Y1 hm.s3 rfl Jl)))) rfl rfl)) rfl rfl ?_))
  obtain ⟨an, ap, h⟩ := bind_some h
  refine dS (c := ⟨some 95, .el g 4 (Int.toNat s) 0, [(82, .c (.ex g)), (83, .int .i64 s)], [(2, .arrX g 51 4 0 (j.map Qf))], []⟩) (fun t hm => oF rfl rfl (Z8 (n := 2) (xs := j) (f := Qf) (old := an) rfl (dk rfl) He i51 hm.s0 hm.o0 hm.s1 ap rfl)) rfl rfl (dS (c := ⟨none, .any, [(95, .el g 4 (Int.toNat s) 0), (94, .agg [.sl false 1 (mI m), .sl false 1 (mI p), .sl false 1 (mI q), .sl false 1 (b.map (cL 2 Ql))])], [(2, .arrX g 51 4 0 (j.map Qf))], [(2, .arrX g 51 4 0 ((List.set j (Int.toNat s) (Qa.mk m p q b)).map Qf))]⟩) (fun t hm => oF rfl rfl (Qac (i := 2) (xs := j) (f := Qf) (old := an) (new := (Qa.mk m p q b)) rfl rfl i51 hm.s0 hm.s1 rfl hm.o0 (Zv ap).2 (Qf7 _) (nb rfl) rfl rfl)) rfl rfl (dF [0,0,0,4,12,0,32,124,0,256,1020,0,4092,8191,16383] Q3 rfl (by kernel_rfl) (fun u hu => (Qj (tN (Qm hu (Qq (oI rfl (mw rfl (nL (tN ?_)))))))))))
  refine Qg ?_ (hgo0 x0 ac (wI (ad + (1:Int))) x1 (List.set j (Int.toNat s) (Qa.mk m p q b)) g h)
  exact tq rfl rfl
theorem Rg {r : Qc} (K bx0 : Nat) (wx1 : Value) (x1 : List Int) : ∀ (k : Nat), Bm bx0 wx1 x1 r (Yt K k) := by
 intro k
 induction k with
 | zero =>
  intro x0 p g x1 j b h
  exact zn h
 | succ k ih =>
  intro x0 p g x1 j b h
  rw [Yt] at h
  refine Za (sR (Qq (oI rfl (nL (tN (T.seq ?_))))))
  rcases Qh h with ⟨m, h⟩ | ⟨m, h⟩
  refine Qt rfl m (T.skip (tN (T.seq (T.block (sR (Qq (mw rfl ?_)))))))
  obtain ⟨a, q, h⟩ := bind_some h
  refine oX x0.Auto.States Qf He i51 q rfl (oJ Ke i51 rfl (sp rfl (Zg rfl (dk rfl) i51 rfl (fun u => (aw rfl (sp rfl (Qv (i := 0) (cells' := [.d (.sl false 1 (mI a.L)), .d (.sl false 1 (mI a.R)), .d (.sl false 1 (mI a.Rule)), .d (.sl false 1 (a.Next.map (cL 2 Ql)))]) rfl rfl i51 rfl rfl rfl rfl (nb rfl) rfl (nL (tN (sR (Qq (oP Ke i49 rfl ?_))))))))))))
  refine oL 0 Qcz rfl (oU a.Next (cL 2 Ql) Qcz rfl ?_)
  obtain ⟨w, h⟩ := Q9 h
  obtain ⟨y, h⟩ := Q9 h
  refine sp rfl (N2 (e1 := 54) (esz := 2) (f := Ql) rfl (dk rfl) Qcz i55 rfl rfl w y (fun aa => (aw rfl (nL (tN (T.seq (sR (Qq (oP Ke i49 rfl (oL 1 Qcz rfl ?_))))))))))
  refine oU a.Next (cL 2 Ql) Qcz rfl (mw rfl (nL (tN (T.block (T.loop ?_)))))
  refine Qg ?_ (Rf K bx0 wx1 x1 (Yt K k) ih K g x0 p g a.Next (a.Next.length : Int) (0:Int) x1 j a.L a.R a.Rule a.Next (List.replicate (Int.toNat (a.Next.length : Int)) ([] : List Qd)) b u aa h)
  exact tr rfl (.c (.s (.s .z)) (.c (.s (.s .z)) (.c (.s (.s .z)) (.c (.s .z) (.c .z (.n _))))))
  refine Qo rfl m (T.exit (Qk (Qk (Qu (tN (Qq (mw rfl (mw rfl (oK rfl (oP ul69 i28 rfl ?_))))))))))
  refine oP G4 i26 rfl (sp rfl (V3 (i := 0) (cells' := ((Zn.oc 256 .u8 x0.Auto.Split.Of) ++ (([.d (.int .i64 x0.Auto.Split.Many), .d (.sl false 2 (mA x0.Auto.Counts)), .d (.ex b)]:List OC)))) rfl rfl i26 rfl rfl rfl (nb rfl) rfl (nL (Xj (Gl 2 rfl) (Xj (Jb 0 (l := ((Zn.dc 256 .u8 x0.Auto.Split.Of) ++ (([.int .i64 x0.Auto.Split.Many, .sl false 2 (mA x0.Auto.Counts), .ex b] : List DC)))) (l' := ((Zn.dc 256 .u8 x0.Auto.Split.Of) ++ (([.int .i64 x0.Auto.Split.Many, .sl false 2 (mA x0.Auto.Counts), .sl false 4 (j.map Qf)] : List DC)))) rfl (.app _ (.cons (.same _) (.cons (.same _) (.cons (.view 2 rfl) (.refl _)))))) (Q1 (.nil) (.cons 0 rfl (.cons 0 rfl (.nil _))) (by cases h; exact ⟨gl [], rfl, rfl⟩)))))))
theorem Ep (K : Nat) {x0 : Qc} {x1 : List Int} {bx0 : Nat} {wx1 : Value} {r : Qc} (h : Vi K x0 x1 = some r) : Ud tp 56 [.ptr bx0 0, .c (.ex wx1)] [(Ja bx0 x0.Auto.Split.Of x0.Auto.Split.Many x0.Auto.Counts x0.Auto.States), .arrX wx1 3 1 0 (mI x1)] (fun γ => (.tup [])) (fun γ => [(Ja bx0 r.Auto.Split.Of r.Auto.Split.Many r.Auto.Counts r.Auto.States), .arrX wx1 3 1 0 (mI x1)]) := by
 refine CI 102 fu56 rfl ?_
 unfold Vi at h
 refine sR (Qq (mw rfl (oK rfl (oP ul69 i28 rfl (oP G4 i26 rfl (oL 0 He rfl (oU x0.Auto.States Qf He rfl ?_)))))))
 obtain ⟨a, h⟩ := Q9 h
 obtain ⟨b, h⟩ := Q9 h
 refine sp rfl (Qad (f := Qf) (zv := ((Qa.mk [] [] [] []) : Qa)) rfl (dk rfl) He i51 (by decide) rfl rfl (fun _ => .cons (.nil _ _) (.cons (.nil _ _) (.cons (.nil _ _) (.cons (.nil _ _) (.refl _))))) rfl rfl rfl a b (fun g => (aw rfl (nL (tN (T.seq (sR (Qq (mw rfl (oK rfl ?_))))))))))
 refine oP ul69 i28 rfl (oP G4 i26 rfl (oL 1 He rfl (oU x0.Auto.States Qf He rfl (mw rfl (nL (tN (T.block ?_)))))))
 refine T.loop ?_
 refine Qg ?_ (Rg K bx0 wx1 x1 K x0 (x0.Auto.States.length : Int) (0:Int) x1 (List.replicate (Int.toNat (x0.Auto.States.length : Int)) ((Qa.mk [] [] [] []) : Qa)) g h)
 exact tr rfl (.c (.s .z) (.c (.s .z) (.c .z (.n _))))
abbrev Qaj (bx0 : Nat) (r : Qc) : ES := Jz tp ff26 (fun y t => ∃ γ : Nat → Value, y = (.tup []) ∧ t = [(Ja bx0 r.Auto.Split.Of r.Auto.Split.Many r.Auto.Counts r.Auto.States)])
abbrev Rn (bx0 : Nat) (r : Qc) : ES := fT 36 [1,1] ff26 (Qaj bx0 r)
abbrev N7 (bx0 : Nat) (r : Qc) : ES := Qz 0 ((Rn bx0 r))
theorem Ro {r : Qc} (K bx0 : Nat) : ∀ (k : Nat), ∀ (g : List Bool) (l a : Int) (x0 : Qc) (b : List Int) (j : Value), Y8 K k g l a x0 b = some r → TL tp 36 (ca [1,0,1,0,0] ff26) ⟨[(0, .ptr bx0 0), (2, .c (.ex j)), (16, .sl false 1 (g.map cB)), (17, .int .i64 l), (18, .int .i64 a)], [(Ja bx0 x0.Auto.Split.Of x0.Auto.Split.Many x0.Auto.Counts x0.Auto.States), .arrX j 3 1 0 (mI b)]⟩ (N7 bx0 r) := by
 intro k
 induction k with
 | zero =>
  intro g l a x0 b j h
  exact zn h
 | succ k ih =>
  intro g l a x0 b j h
  rw [Y8] at h
  refine Za (sR (Qq (oI rfl (nL (tN (T.seq ?_))))))
  rcases Qh h with ⟨m, h⟩ | ⟨m, h⟩
  refine Qt rfl m (T.skip (tN (T.seq (T.block (sR (Qq (mw rfl ?_)))))))
  obtain ⟨y, aa, h⟩ := bind_some h
  refine oX g cB ul33 i4 aa rfl (oR ul4 rfl (aw rfl (aw rfl (nL (tN (sR (Qq ?_)))))))
  iterate 3 refine mw rfl ?_
  obtain ⟨q, s, h⟩ := bind_some h
  refine sp rfl (Z8 (n := 1) (xs := b) (f := (cI .i64)) (old := q) rfl (dk rfl) Z5 i3 rfl rfl rfl s (sp rfl (Wf (i := 1) (xs := b) (f := (cI .i64)) (old := q) (new := a) rfl rfl i3 rfl rfl rfl (Zv s).2 (Qf7 _) (nb rfl) rfl (nL (tN (sR (Qq (mw rfl (oT rfl (nL (tN ?_)))))))))))
  rcases Qh h with ⟨p, h⟩ | ⟨p, h⟩
  refine Qt rfl p (Qq (mw rfl (mw rfl ?_)))
  obtain ⟨u, w, h⟩ := bind_some h
  refine sp rfl (Z8 (n := 1) (xs := (List.set b (Int.toNat a) a)) (f := (cI .i64)) (old := u) rfl (dk rfl) Z5 i3 rfl rfl rfl w (sp rfl (Wf (i := 1) (xs := (List.set b (Int.toNat a) a)) (f := (cI .i64)) (old := u) (new := (-1:Int)) rfl rfl i3 rfl rfl rfl (Zv w).2 (Qf7 _) (nb rfl) rfl (nL (Qj (tN (Qq (oI rfl (mw rfl (nL (tN ?_)))))))))))
  refine Qg ?_ (ih g l (wI (a + (1:Int))) x0 (List.set (List.set b (Int.toNat a) a) (Int.toNat a) (-1:Int)) j h)
  exact tq rfl rfl
  refine Qo rfl p (T.skip (Qj (tN (Qq (oI rfl (mw rfl (nL (tN ?_))))))))
  refine Qg ?_ (ih g l (wI (a + (1:Int))) x0 (List.set b (Int.toNat a) a) j h)
  exact tq rfl rfl
  refine Qo rfl m (T.exit (Qk (Qk (Qu (tN (Qq (mw rfl (mw rfl ?_))))))))
  obtain ⟨ac, ab, h⟩ := bind_some h
  refine sp rfl (Q6 (is := [0, 1]) (ph := []) rfl (dk rfl) fu56 rfl rfl (Zs.cons rfl (Zs.cons rfl Zs.nil)) (Ep K (bx0 := bx0) (wx1 := j) ab) (.cons rfl rfl (.cons rfl rfl (.nil))) (fun _ => rfl) (fun ad => (nm (.c (.c (.n))) (nL (Q1 (.nil) (.cons 0 rfl (.nil _)) (by cases h; exact ⟨gl [], rfl, rfl⟩))))))
theorem Qak (K : Nat) {x0 : Qc} {bx0 : Nat} {r : Qc} (h : Wz K x0 = some r) : Ud tp 26 [.ptr bx0 0] [(Ja bx0 x0.Auto.Split.Of x0.Auto.Split.Many x0.Auto.Counts x0.Auto.States)] (fun γ => (.tup [])) (fun γ => [(Ja bx0 r.Auto.Split.Of r.Auto.Split.Many r.Auto.Counts r.Auto.States)]) := by
 refine CI 36 fu26 rfl ?_
 unfold Wz at h
 refine sR (Qq (mw rfl (oK rfl (oP ul69 i28 rfl (oP G4 i26 rfl (oL 0 He rfl (oU x0.Auto.States Qf He rfl ?_)))))))
 obtain ⟨b, h⟩ := Q9 h
 obtain ⟨g, h⟩ := Q9 h
 refine sp rfl (Gm (f := (cI .i64)) (zv := ((0:Int) : Int)) rfl (dk rfl) Z5 i3 (by decide) rfl rfl rfl rfl rfl b g (fun j => (aw rfl (nL (tN (T.seq (sR (Qq (mw rfl (oK rfl ?_))))))))))
 refine oP ul69 i28 rfl (oA 1 ((Zn.dc 256 .u8 x0.Auto.Split.Of) ++ (([.int .i64 x0.Auto.Split.Many, .sl false 2 (mA x0.Auto.Counts), .sl false 4 (x0.Auto.States.map Qf)] : List DC))) G4 i28 rfl ?_)
 obtain ⟨a, m, h⟩ := bind_some h
 refine oH fu12 (Z1.nil (trim_Live_T K m)) rfl (oU a cB ul33 rfl (mw rfl (nL (tN (T.block (T.loop ?_))))))
 refine Qg ?_ (Ro K bx0 K a (a.length : Int) (0:Int) x0 (List.replicate (Int.toNat (x0.Auto.States.length : Int)) ((0:Int) : Int)) j h)
 exact tr rfl (.c (.s .z) (.c .z (.n _)))
abbrev bits_Mul64_q (r : Int × Int) : ES := Jz tp ff120 (fun y t => y = (.tup [.int .u64 r.1, .int .u64 r.2]) ∧ t = [])
theorem bits_Mul64_T (K : Nat) {x0 x1 : Int} {r : Int × Int} (h : Qdh K x0 x1 = some r) : Z1 tp 120 [.int .u64 x0, .int .u64 x1] [] (.tup [.int .u64 r.1, .int .u64 r.2]) := by
 refine CI 51 fu120 rfl ?_
 unfold Qdh at h
 refine sR (Qq (aw rfl (aw rfl (nL (tN (sR (Qq (mw rfl (oI rfl (aw rfl ?_))))))))))
 refine nL (tN (sR (Qq (mw rfl (sp rfl (OpT.shr rfl (dk rfl) rfl rfl (by decide) (aw rfl (nL (tN (sR (Qq (mw rfl (oI rfl ?_)))))))))))))
 refine aw rfl (nL (tN (sR (Qq (mw rfl (sp rfl (OpT.shr rfl (dk rfl) rfl rfl (by decide) (aw rfl (nL (tN (sR (Qq (mw rfl ?_)))))))))))))
 refine mw rfl (oI rfl (aw rfl (nL (tN (sR (Qq (mw rfl (mw rfl (oI rfl ?_)))))))))
 refine mw rfl (sp rfl (OpT.shr rfl (dk rfl) rfl rfl (by decide) (oI rfl (aw rfl (nL (tN (sR (Qq (mw rfl (oI rfl ?_))))))))))
 refine aw rfl (nL (tN (sR (Qq (mw rfl (sp rfl (OpT.shr rfl (dk rfl) rfl rfl (by decide) (aw rfl (nL (tN (sR (Qq ?_))))))))))))
 iterate 3 refine mw rfl ?_
 refine oI rfl (oI rfl (aw rfl (nL (tN (sR (Qq (mw rfl (mw rfl (oI rfl ?_)))))))))
 refine mw rfl (oI rfl (mw rfl (sp rfl (OpT.shr rfl (dk rfl) rfl rfl (by decide) (oI rfl (aw rfl (nL (tN (sR (Qq ?_))))))))))
 refine mw rfl (mw rfl (oI rfl (aw rfl (nL (tN (T.ret (Fin.done (.cons _ _ _ _ (.tmp 4 _ rfl) (.cons _ _ _ _ (.tmp 5 _ rfl) .nil)) (by cases h; exact ⟨rfl, rfl⟩))))))))
abbrev bits_Mul_q (r : Int × Int) : ES := Jz tp ff96 (fun y t => y = (.tup [.int .u64 r.1, .int .u64 r.2]) ∧ t = [])
theorem bits_Mul_T (K : Nat) {x0 x1 : Int} {r : Int × Int} (h : Qco K x0 x1 = some r) : Z1 tp 96 [.int .u64 x0, .int .u64 x1] [] (.tup [.int .u64 r.1, .int .u64 r.2]) := by
 refine CI 30 fu96 rfl ?_
 unfold Qco at h
 refine sR (Qq (aw rfl (aw rfl (nL (tN (T.seq (Qo rfl rfl (T.skip (tN ?_)))))))))
 refine sR (Qq (mw rfl (mw rfl ?_)))
 obtain ⟨b, a, h⟩ := bind_some h
 refine oH fu120 (Z1.nil (bits_Mul64_T K a)) rfl (mw rfl (oE rfl (oE rfl (aw rfl (aw rfl (nL (tN (sR (Qq ?_)))))))))
 refine mw rfl (mw rfl (aw rfl (aw rfl (nL (tN (T.ret (Fin.done (.cons _ _ _ _ (.tmp 4 _ rfl) (.cons _ _ _ _ (.tmp 5 _ rfl) .nil)) (by cases h; exact ⟨rfl, rfl⟩))))))))
abbrev Ex (r : List Int) : ES := Jz tp ff57 (fun y t => ∃ γ : Nat → Value, y = (.c (.ex (γ 0))) ∧ t = [.arrX (γ 0) 3 1 0 (mI r)])
abbrev Oa (r : List Int) : ES := fT 48 [1,1,1,1] ff57 (Ex r)
abbrev Ew (r : List Int) : ES := fT 48 [1,1,1,1,1,1,1] ff57 (Ex r)
abbrev C6 (r : List Int) : ES := Qz 0 ((Ew r))
theorem Bs {r : List Int} (K : Nat) (x0 : List Int) (a : Int) (flx0 : Bool) (h : Wl K x0 a = some r) : T tp 48 (ca [1,1,1,0,1,0] ff57) ⟨[(0, .sl flx0 1 (mI x0)), (6, .int .u64 a)], []⟩ (Oa r) := by
 unfold Wl at h
 refine Qq ?_
 cases h
theorem Rp {r : List Int} (K : Nat) : ∀ (k : Nat), ∀ (a : Int) (b : List Int) (d : Value), Vx K k a b = some r → TL tp 48 (ca [1,1,1,1,1,1,0,0,0] ff57) ⟨[(7, .c (.ex d)), (8, .int .i64 a)], [.arrX d 3 1 0 (mI b)]⟩ (C6 r) := by
 intro k
 induction k with
 | zero =>
  intro a b d h
  exact zn h
 | succ k ih =>
  intro a b d h
  rw [Vx] at h
  refine Za (T.seq (sR (Qq (mw rfl (mw rfl (sp rfl (J9 (i := 0) (xs := b) (f := (cI .i64)) rfl (dk rfl) Z5 rfl rfl (oI rfl ?_))))))))
  refine nL (tN ?_)
  rcases Qh h with ⟨j, h⟩ | ⟨j, h⟩
  refine Qt rfl j (T.skip (tN (T.block (Xk (dV rfl rfl (dV rfl rfl (dV rfl rfl ?_)))))))
  obtain ⟨g, h⟩ := Q9 h
  refine dS (c := ⟨some 41, .sub d 1 (Int.toNat a), [(39, .c (.ex d)), (40, .int .i64 a)], [(0, .arrX d 3 1 0 (mI b))], []⟩) (fun t hm => oF rfl rfl (OpT.sliceSub (i := 0) (xs := b) (f := (cI .i64)) (l := (Int.toNat a)) rfl (dk rfl) Z5 i3 hm.s0 hm.o0 (.some _ _ _ _ hm.s1 g.1) g.2 rfl)) rfl rfl (dV rfl rfl (dV rfl rfl (dS (c := ⟨some 44, .pre d (Int.toNat a), [(42, .c (.ex d)), (43, .int .i64 a)], [(0, .arrX d 3 1 0 (mI b))], []⟩) (fun t hm => oF rfl rfl (OpT.slicePre (i := 0) (xs := b) (f := (cI .i64)) (h := (Int.toNat a)) rfl (dk rfl) Z5 i3 hm.s0 hm.o0 (.some _ _ _ _ hm.s1 g.1) g.2 rfl)) rfl rfl ?_)))
  obtain ⟨m, h⟩ := Q9 h
  refine dS (c := ⟨some 45, .int .i64 (((min (Int.toNat a) (b.length - (Int.toNat a))) : Nat) : Int), [(41, .sub d 1 (Int.toNat a)), (44, .pre d (Int.toNat a))], [(0, .arrX d 3 1 0 (mI b))], [(0, .arrX d 3 1 0 ((b.take (Int.toNat a) ++ b.take (min (Int.toNat a) (b.length - (Int.toNat a))) ++ b.drop ((Int.toNat a) + (min (Int.toNat a) (b.length - (Int.toNat a))))).map (cI .i64)))]⟩) (fun t hm => oF rfl rfl (OpT.copySelf (i := 0) (k := .i64) (xs := b) (l := (Int.toNat a)) (h := (Int.toNat a)) rfl (dk rfl) Z5 i3 hm.s0 hm.o0 hm.s1 m.1 m.2 rfl)) rfl rfl (dI rfl (.f rfl) rfl (dA rfl (.f rfl) rfl (dF [0,0,0,6,0,0,48,126,255,511] Q3 rfl (by kernel_rfl) (fun u hu => (Qj (tN (Qg hu ?_)))))))
  refine Qg ?_ (ih (wI (a + (((min (Int.toNat a) (b.length - (Int.toNat a))) : Nat) : Int))) (b.take (Int.toNat a) ++ b.take (min (Int.toNat a) (b.length - (Int.toNat a))) ++ b.drop ((Int.toNat a) + (min (Int.toNat a) (b.length - (Int.toNat a))))) d h)
  exact tq rfl rfl
  refine Qo rfl j (T.exit (Qk (Qk (Qu (tN (sR (Qq (mw rfl (aw rfl (nL (tN (T.ret ?_))))))))))))
  exact Q1 (.cons _ _ _ _ (.tmp 4 _ rfl) .nil) (.cons 0 rfl (.nil _)) (by cases h; exact ⟨gl [d], rfl, rfl⟩)
theorem Qau (K : Nat) {x0 : List Int} {x1 : Int} {flx0 : Bool} {r : List Int} (h : W0 K x0 x1 = some r) : Ud tp 57 [.sl flx0 1 (mI x0), .int .i64 x1] [] (fun γ => (.c (.ex (γ 0)))) (fun γ => [.arrX (γ 0) 3 1 0 (mI r)]) := by
 refine CI 48 fu57 rfl ?_
 unfold W0 at h
 refine sR (Qq (aw rfl (nL (tN (T.seq (sR (Qq (mw rfl (oI rfl ?_)))))))))
 refine nL (tN ?_)
 rcases Qh h with ⟨d, h⟩ | ⟨d, h⟩
 refine Qt rfl d (Qq ?_)
 cases h
 refine Qo rfl d (T.skip (tN (sR (Qq (mw rfl (oU x0 (cI .i64) Z5 rfl (sp rfl (Uj rfl (dk rfl) ul3 ul159 rfl (mw rfl ?_)))))))))
 refine sp rfl (Uj rfl (dk rfl) ul3 ul159 rfl ?_)
 obtain ⟨b, l, h⟩ := bind_some h
 refine oH fu96 (Z1.nil (bits_Mul_T K l)) rfl (mw rfl (oE rfl (oE rfl (aw rfl (aw rfl (nL (tN ?_)))))))
 refine T.seq (sR (Qq (mw rfl (oI rfl (mw rfl ?_)))))
 rcases Qh h with ⟨a, h⟩ | ⟨a, h⟩
 refine pf rfl a (pf rfl a (oY a rfl (nL (tN (Qt rfl rfl ?_)))))
 refine Qm ?_ (Bs K x0 b.2 flx0 h)
 exact tq rfl rfl
 refine sn rfl a (OpT.move rfl (dk rfl) rfl (sn rfl a (Z9 rfl rfl (dk rfl) rfl rfl (oZ a rfl (nL (tN ?_))))))
 rcases Qh h with ⟨g, h⟩ | ⟨g, h⟩
 refine Qt rfl g ?_
 refine Qm ?_ (Bs K x0 b.2 flx0 h)
 exact tq rfl rfl
 refine Qo rfl g (T.skip (tN (sR (Qq (mw rfl (sp rfl (Uj rfl (dk rfl) ul159 ul3 rfl ?_)))))))
 obtain ⟨m, h⟩ := Q9 h
 obtain ⟨p, h⟩ := Q9 h
 refine sp rfl (Gm (f := (cI .i64)) (zv := ((0:Int) : Int)) rfl (dk rfl) Z5 i3 (by decide) rfl rfl rfl rfl rfl m p (fun q => (aw rfl (nL (tN (sR (Qq (mw rfl (mw rfl ?_)))))))))
 obtain ⟨j, h⟩ := Q9 h
 refine sp rfl (OpT.copyInts (i := 0) (k := .i64) (xs := (List.replicate (Int.toNat (wI b.2)) ((0:Int) : Int))) (ys := x0) rfl (dk rfl) Z5 i3 rfl rfl rfl j.1 j.2 (aw rfl (nL (tN (T.seq (T.block (T.loop ?_)))))))
 refine Qg ?_ (Rp K K (x0.length : Int) (x0 ++ (List.replicate (Int.toNat (wI b.2)) ((0:Int) : Int)).drop x0.length) q h)
 exact tq rfl rfl
end Go.Rv

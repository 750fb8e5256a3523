/- Each function computes what its plain text says: printed by a program of ours. -/
import Derived.Test.YtcmfaclkgdmpbaaGreatDoorRgW6
namespace Go.Rv
open Go.Proofs
set_option maxRecDepth 100000
set_option maxHeartbeats 4000000
set_option linter.unusedVariables false
abbrev Rm (r : Bool) : ES := Jq tp ff76 (fun y t => y = (.bool r) ∧ t = [])
abbrev Qbx (r : Bool) : ES := fT 85 [1,1,1] ff76 (Rm r)
abbrev Qaf (r : Bool) : ES := fT 85 [1,1,1,1] ff76 (Rm r)
abbrev Bg (r : Bool) : ES := Qz 0 ((Qaf r))
abbrev R1 (r : Bool) : ES := fL 85 [1,1,1,0,1,0,0] ff76 (Bg r)
abbrev Ng (r : Bool) : ES := fT 85 [1,1,1,0,1,0,0,1,1] ff76 (R1 r)
abbrev Dv (r : Bool) : ES := Qz 1 ((Ng r))
theorem K4 {r : Bool} (K : Nat) (h : Va K = some r) : T tp 85 (ca [1,1,0,1,0] ff76) ⟨[], []⟩ (Qbx r) := by
 unfold Va at h
 refine sR (Qs (aw rfl (nL (tN (T.ret (Qr (fd rfl (by cases h; exact ⟨rfl, rfl⟩))))))))
theorem K3 {r : Bool} (K : Nat) (h : X9 K = some r) : T tp 85 (ca [1,1,1,0,1,0,0,1,0,0,1,0] ff76) ⟨[], []⟩ (Dv r) := by
 unfold X9 at h
 refine sR (Qs (aw rfl (nL (tN (T.ret (Q1 (Qr (Qr (Q1 (Qr (fd rfl (by cases h; exact ⟨rfl, rfl⟩))))))))))))
theorem Qdi {r : Bool} (K : Nat) : ∀ (k : Nat), ∀ (j : Int) (x0 : Qq) (x1 : Qa) (x2 : Qf) (p q b : Nat), X8 K k j x0 x1 x2 = some r → TL tp 85 (ca [1,1,1,0,1,0,0] ff76) ⟨[(3, .ptr p 0), (4, .ptr q 0), (5, .ptr b 0), (7, .int .i64 j)], [(Qhw p x0.Split.Of x0.Split.Many x0.Counts x0.States), (J5 q x1.L x1.R x1.Rule x1.Next), (Qe0 b x2.To x2.Ops)]⟩ (Bg r) := by
 intro k
 induction k with
 | zero =>
  intro j x0 x1 x2 p q b h
  exact zn h
 | succ k ih =>
  intro j x0 x1 x2 p q b h
  rw [X8] at h
  refine Q7 (T.seq (sR (Qs (mw rfl (oP Dq i52 rfl (oL 2 B1 rfl (oU x2.Ops (cI .u8) B1 rfl ?_)))))))
  refine oI rfl (nL (tN ?_))
  rcases Qd h with ⟨aa, h⟩ | ⟨aa, h⟩
  refine Qp rfl aa (T.skip (tN (T.seq (T.block (T.seq (Z7 (dP rfl (.f rfl) Dq i52 rfl ?_)))))))
  refine dL 2 rfl (.f rfl) B1 rfl (dV rfl rfl ?_)
  obtain ⟨a, ab, h⟩ := bind_some h
  refine dX x2.Ops (cI .u8) rfl (.f rfl) B1 i5 ab rfl (dR rfl (.f rfl) ul5 rfl (dI rfl (.f rfl) rfl (dV rfl rfl ?_)))
  rcases Qd h with ⟨s, h⟩ | ⟨s, h⟩
  refine dO s rfl rfl (dO s rfl rfl (dO s rfl rfl (dO s rfl rfl (dO s rfl rfl (dO s rfl rfl (dY rfl (.f rfl) s rfl ?_))))))
  refine dV rfl rfl (dO rfl rfl rfl (dO rfl rfl rfl (dO rfl rfl rfl (dO rfl rfl rfl (dO rfl rfl rfl (dO rfl rfl rfl ?_))))))
  refine dO rfl rfl rfl (dG rfl rfl (dG rfl rfl (dG rfl rfl (dG rfl rfl (dG rfl rfl (dG rfl rfl ?_))))))
  refine dG rfl rfl (dG rfl rfl (dG rfl rfl (dG rfl rfl (dG rfl rfl (dG rfl rfl (dG rfl rfl ?_))))))
  refine dG rfl rfl (dO rfl rfl rfl (dY rfl (.f rfl) rfl rfl (dF [0,1,0,7,15,31,63,127,255,127,1023,2047,4095,8191,16383,32767,65535,32767,262143,524287,1048575,2097151,4194303,8388607,4194303,20971519,4194303,71303167,255852543,524287999,1061158911,4194303,4282384383,8577351679,17179869183,34359738367,68719476735,137438953471] Q0 rfl (by kernel_rfl) (fun u hu => (tN (Qg hu (Qp rfl rfl ?_)))))))
  refine Qg ?_ (K3 K h)
  exact tq rfl rfl
  refine dP rfl (.n s rfl) Dq i52 rfl (dL 2 rfl (.n s rfl) B1 rfl (dM rfl (.n s rfl) rfl (dX x2.Ops (cI .u8) rfl (.n s rfl) B1 i5 ab rfl (dR rfl (.n s rfl) ul5 rfl (dI rfl (.n s rfl) rfl (dZ rfl (.f rfl) s rfl ?_))))))
  refine dV rfl rfl ?_
  rcases Qd h with ⟨m, h⟩ | ⟨m, h⟩
  refine dO m rfl rfl (dO m rfl rfl (dO m rfl rfl (dO m rfl rfl (dO m rfl rfl (dO m rfl rfl (dO m rfl rfl ?_))))))
  refine dG rfl rfl (dG rfl rfl (dG rfl rfl (dG rfl rfl (dG rfl rfl (dG rfl rfl (dG rfl rfl ?_))))))
  refine dG rfl rfl (dG rfl rfl (dG rfl rfl (dG rfl rfl (dG rfl rfl (dG rfl rfl (dG rfl rfl ?_))))))
  refine dO m rfl rfl (dY rfl (.f rfl) m rfl (dF [0,1,0,7,15,31,63,127,255,127,1023,2047,4095,8191,16383,32767,65535,32767,262143,524287,1048575,2097151,4194303,8388607,4194303,20971519,4194303,71303167,255852543,524287999,1061158911,4194303,4282384383,8577351679,17179869183,34359738367,68719476735,137438953471] Q0 rfl (by kernel_rfl) (fun u hu => (tN (Qg hu (Qp rfl rfl ?_))))))
  refine Qg ?_ (K3 K h)
  exact tq rfl rfl
  refine dP rfl (.n m rfl) Dq i52 rfl (dL 2 rfl (.n m rfl) B1 rfl (dM rfl (.n m rfl) rfl (dX x2.Ops (cI .u8) rfl (.n m rfl) B1 i5 ab rfl (dR rfl (.n m rfl) ul5 rfl (dI rfl (.n m rfl) rfl (dM rfl (.n m rfl) rfl ?_))))))
  rcases Qd h with ⟨g, h⟩ | ⟨g, h⟩
  refine dP rfl (.n g rfl) Hx i38 rfl (dL 1 rfl (.n g rfl) Zs rfl (dP rfl (.n g rfl) Wn i26 rfl (dL 0 rfl (.n g rfl) Jm rfl (dP rfl (.n g rfl) Dq i3 rfl (dL 2 rfl (.n g rfl) ul3 rfl ?_)))))
  obtain ⟨l, ad, h⟩ := bind_some h
  refine dX x0.States Qh rfl (.n g rfl) Jm i51 ad rfl (dQ rfl (.n g rfl) Hx i38 rfl (dR rfl (.n g rfl) Zs rfl (dM rfl (.n g rfl) rfl ?_)))
  obtain ⟨y, af, h⟩ := bind_some h
  refine dX l.R (cI .i64) rfl (.n g rfl) Zs i3 af rfl (dR rfl (.n g rfl) ul3 rfl ?_)
  obtain ⟨w, ag, h⟩ := bind_some h
  refine dH fu112 (Zm.nil (Bx K (flx0 := false) ag)) rfl (.n g rfl) rfl (dT rfl (.n g rfl) rfl (dY rfl (.n m rfl) g rfl (dZ rfl (.f rfl) m rfl (dF [0,1,0,7,15,31,63,127,255,127,1023,2047,4095,8191,16383,32767,65535,32767,262143,524287,1048575,2097151,4194303,8388607,4194303,20971519,4194303,71303167,255852543,524287999,1061158911,4194303,4282384383,8577351679,17179869183,34359738367,68719476735,137438953471] Q0 rfl (by kernel_rfl) (fun u hu => (tN (Qg hu ?_)))))))
  rcases Qd h with ⟨ac, h⟩ | ⟨ac, h⟩
  refine Qp rfl ac ?_
  refine Qg ?_ (K3 K h)
  exact tq rfl rfl
  refine Qo rfl ac (T.skip (Qk (tN (Qs (mw rfl (oI rfl (aw rfl (nL (tN ?_)))))))))
  refine Qe ?_ (ih (wI (j + (1:Int))) x0 x1 x2 p q b h)
  exact tq rfl rfl
  refine dO g rfl rfl (dO g rfl rfl (dO g rfl rfl (dO g rfl rfl (dO g rfl rfl (dO g rfl rfl (dO g rfl rfl ?_))))))
  refine dO g rfl rfl (dO g rfl rfl (dO g rfl rfl (dO g rfl rfl (dO g rfl rfl (dO g rfl rfl (dO g rfl rfl ?_))))))
  refine dZ rfl (.n m rfl) g rfl (dZ rfl (.f rfl) m rfl (dF [0,1,0,7,15,31,63,127,255,127,1023,2047,4095,8191,16383,32767,65535,32767,262143,524287,1048575,2097151,4194303,8388607,4194303,20971519,4194303,71303167,255852543,524287999,1061158911,4194303,4282384383,8577351679,17179869183,34359738367,68719476735,137438953471] Q0 rfl (by kernel_rfl) (fun u hu => (tN (Qg hu (Qo rfl rfl (T.skip (Qk (tN (Qs (mw rfl ?_)))))))))))
  refine oI rfl (aw rfl (nL (tN ?_)))
  refine Qe ?_ (ih (wI (j + (1:Int))) x0 x1 x2 p q b h)
  exact tq rfl rfl
  refine Qo rfl aa (T.exit (Ql (Ql (Qu (tN (sR (Qs (aw rfl (nL (tN (T.ret (fd rfl (by cases h; exact ⟨rfl, rfl⟩)))))))))))))
theorem Qg1 (K : Nat) {x0 : Qq} {x1 : Qa} {x2 : Qf} {r : Bool} (h : Lv K x0 x1 x2 = some r) : Zm tp 76 [.agg ((Zp.dc 256 .u8 x0.Split.Of) ++ (([.int .i64 x0.Split.Many, .sl false 2 (mA x0.Counts), .sl false 4 (x0.States.map Qh)] : List DC))), .agg [.sl false 1 (mI x1.L), .sl false 1 (mI x1.R), .sl false 1 (mI x1.Rule), .sl false 1 (x1.Next.map (cL 2 Qn))], .agg [.int .i64 x2.To, .sl false 1 (mU x2.Ops)]] [] (.bool r) := by
 refine CI 85 fu76 rfl ?_
 unfold Lv at h
 refine sR (Qs (sp rfl (Q9 rfl (dk rfl) rfl (fun j => (sp rfl (Q9 rfl (dk rfl) rfl (fun m => (sp rfl (Q9 rfl (dk rfl) rfl (fun g => (aw rfl (nL (tN (T.seq ?_))))))))))))))
 refine sR (Qs (oP Dq i3 rfl (oL 0 ul3 rfl (oI rfl (nL (tN ?_))))))
 rcases Qd h with ⟨p, h⟩ | ⟨p, h⟩
 refine Qp rfl p (sR (Qs (oP Dq i52 rfl (oL 0 B1 rfl (oU x2.Ops (cI .u8) B1 rfl (oI rfl (aw rfl ?_)))))))
 refine nL (tN (T.ret (Qr (fd rfl (by cases h; exact ⟨rfl, rfl⟩)))))
 refine Qo rfl p (T.skip (tN (T.seq (T.seq (Z7 (dP rfl (.f rfl) Dq i3 rfl (dL 0 rfl (.f rfl) ul3 rfl ?_)))))))
 refine dI rfl (.f rfl) rfl (dV rfl rfl ?_)
 rcases Qd h with ⟨l, h⟩ | ⟨l, h⟩
 refine dO l rfl rfl (dO l rfl rfl (dO l rfl rfl (dO l rfl rfl (dO l rfl rfl (dO l rfl rfl (dY rfl (.f rfl) l rfl ?_))))))
 refine dV rfl rfl (dO rfl rfl rfl (dO rfl rfl rfl (dO rfl rfl rfl (dO rfl rfl rfl (dO rfl rfl rfl (dO rfl rfl rfl ?_))))))
 refine dO rfl rfl rfl (dO rfl rfl rfl (dO rfl rfl rfl (dO rfl rfl rfl (dO rfl rfl rfl (dO rfl rfl rfl (dY rfl (.f rfl) rfl rfl ?_))))))
 refine dF [0,1,3,7,15,31,15,79,207,511,1023,2047,4095,8191,16383,4095,36863,4095,135167,495615,1019903,2068479,4165631,8388607,16777215] Q0 rfl (by kernel_rfl) (fun u hu => (tN (Qg hu (Qp rfl rfl ?_))))
 refine Qg ?_ (K4 K h)
 exact tq rfl rfl
 refine dP rfl (.n l rfl) Dq i3 rfl (dL 0 rfl (.n l rfl) ul3 rfl (dP rfl (.n l rfl) Wn i26 rfl (dL 2 rfl (.n l rfl) Jm rfl (dN x0.States Qh rfl (.n l rfl) Jm rfl (dI rfl (.n l rfl) rfl (dZ rfl (.f rfl) l rfl ?_))))))
 refine dV rfl rfl ?_
 rcases Qd h with ⟨a, h⟩ | ⟨a, h⟩
 refine dO a rfl rfl (dO a rfl rfl (dO a rfl rfl (dO a rfl rfl (dO a rfl rfl (dO a rfl rfl (dO a rfl rfl ?_))))))
 refine dO a rfl rfl (dO a rfl rfl (dO a rfl rfl (dO a rfl rfl (dO a rfl rfl (dY rfl (.f rfl) a rfl (dF [0,1,3,7,15,31,15,79,207,511,1023,2047,4095,8191,16383,4095,36863,4095,135167,495615,1019903,2068479,4165631,8388607,16777215] Q0 rfl (by kernel_rfl) (fun u hu => (tN (Qg hu ?_)))))))))
 refine Qp rfl rfl ?_
 refine Qg ?_ (K4 K h)
 exact tq rfl rfl
 refine dP rfl (.n a rfl) Dq i52 rfl (dL 0 rfl (.n a rfl) B1 rfl (dN x2.Ops (cI .u8) rfl (.n a rfl) B1 rfl (dP rfl (.n a rfl) Wn i26 rfl (dL 2 rfl (.n a rfl) Jm rfl (dP rfl (.n a rfl) Dq i3 rfl (dL 0 rfl (.n a rfl) ul3 rfl ?_))))))
 obtain ⟨b, w, h⟩ := bind_some h
 refine dX x0.States Qh rfl (.n a rfl) Jm i51 w rfl (dQ rfl (.n a rfl) Hx i38 rfl (dR rfl (.n a rfl) Zs rfl (dN b.R (cI .i64) rfl (.n a rfl) Zs rfl (dI rfl (.n a rfl) rfl (dZ rfl (.f rfl) a rfl (dF [0,1,3,7,15,31,15,79,207,511,1023,2047,4095,8191,16383,4095,36863,4095,135167,495615,1019903,2068479,4165631,8388607,16777215] Q0 rfl (by kernel_rfl) (fun u hu => (tN (Qg hu ?_)))))))))
 rcases Qd h with ⟨q, h⟩ | ⟨q, h⟩
 refine Qp rfl q ?_
 refine Qg ?_ (K4 K h)
 exact tq rfl rfl
 refine Qo rfl q (T.skip (tN (T.seq (sR (Qs (aw rfl (nL (tN (T.block ?_)))))))))
 refine T.loop ?_
 refine Qe ?_ (Qdi K K (0:Int) x0 x1 x2 j m g h)
 exact tr rfl (.c (.s (.s .z)) (.c (.s .z) (.c .z (.n _))))
abbrev Oq (r : Bool) : ES := Jq tp ff43 (fun y t => y = (.bool r) ∧ t = [])
abbrev Qae (r : Bool) : ES := fT 96 [1,1,1] ff43 (Oq r)
abbrev S8 (r : Bool) : ES := fT 96 [1,1,1,1] ff43 (Oq r)
abbrev Mx (r : Bool) : ES := Qz 0 ((S8 r))
abbrev Py (r : Bool) : ES := fL 96 [1,1,1,0,1,0,0] ff43 (Mx r)
abbrev Ij (r : Bool) : ES := fT 96 [1,1,1,0,1,0,0,1,1] ff43 (Py r)
abbrev Hg (r : Bool) : ES := Qz 1 ((Ij r))
abbrev Ev (r : Bool) : ES := fT 96 [1,1,1,0,1,0,0,1,0,0,1] ff43 (Hg r)
abbrev B5 (r : Bool) : ES := Qz 2 ((Hg r))
theorem U6 {r : Bool} (K : Nat) (h : Yh K = some r) : T tp 96 (ca [1,1,0,1,0] ff43) ⟨[], []⟩ (Qae r) := by
 unfold Yh at h
 refine sR (Qs (aw rfl (nL (tN (T.ret (Qr (fd rfl (by cases h; exact ⟨rfl, rfl⟩))))))))
theorem Ki {r : Bool} (K : Nat) (h : Xp K = some r) : T tp 96 (ca [1,1,1,0,1,0,0,1,0,0,0,1,0] ff43) ⟨[], []⟩ (Ev r) := by
 unfold Xp at h
 refine sR (Qs (aw rfl (nL (tN (T.ret (Qr (Q1 (Qr (Qr (Q1 (Qr (fd rfl (by cases h; exact ⟨rfl, rfl⟩)))))))))))))
abbrev Eg (r : Bool) (go : Int → Int → Qq → Qa → Option Bool) : Prop := ∀ (a b : Int) (x0 : Qq) (x1 : Qa) (c f : Nat), go a b x0 x1 = some r → TL tp 96 (ca [1,1,1,0,1,0,0] ff43) ⟨[(2, .ptr c 0), (3, .ptr f 0), (5, .int .i64 a), (6, .int .i64 b)], [(Qhw c x0.Split.Of x0.Split.Many x0.Counts x0.States), (J5 f x1.L x1.R x1.Rule x1.Next)]⟩ (Mx r)
theorem Qbt {r : Bool} (K : Nat) (go1 : Int → Int → Qq → Qa → Option Bool) (hgo1 : Eg r go1) : ∀ (k : Nat), ∀ (p j q : Int) (x1 : Qa) (s w y : Int) (aa : Bool) (ab : Int) (ac ad : List Qf) (af : Int) (x0 : Qq) (ag : Bool) (b a : Nat), Vt K go1 k p j q x1 s w y aa ab ac ad af x0 ag = some r → TL tp 96 (ca [1,1,1,0,1,0,0,1,0,0,1,1,0,0] ff43) ⟨[(2, .ptr b 0), (3, .ptr a 0), (5, .int .i64 p), (6, .int .i64 j), (7, .int .i64 q), (55, .ptr a (0 + 2)), (56, .sl false 1 (mI x1.Rule)), (57, .int .i64 s), (58, .ref [.int .i64 w]), (59, .int .i64 y), (60, .bool aa), (63, .ptr a (0 + 3)), (64, .sl false 1 (x1.Next.map (cL 2 Qn))), (65, .int .i64 ab), (66, .ref [.sl false 2 (ac.map Qn)]), (67, .sl false 2 (ad.map Qn)), (68, .int .i64 af), (69, .ptr b (0 + 0)), (70, .ptr b (0 + 0 + 256)), (71, .int .i64 x0.Split.Many), (72, .bool ag)], [(Qhw b x0.Split.Of x0.Split.Many x0.Counts x0.States), (J5 a x1.L x1.R x1.Rule x1.Next)]⟩ (B5 r) := by
 intro k
 induction k with
 | zero =>
  intro p j q x1 s w y aa ab ac ad af x0 ag b a h
  exact zn h
 | succ k ih =>
  intro p j q x1 s w y aa ab ac ad af x0 ag b a h
  rw [Vt] at h
  refine Q7 (T.seq (sR (Qs (mw rfl (oP Hx i49 rfl (oL 1 T0 rfl (mw rfl ?_)))))))
  obtain ⟨m, am, h⟩ := bind_some h
  refine oX x1.Next (cL 2 Qn) T0 i55 am rfl (oR Rs rfl (oU m Qn Rs rfl (oI rfl (nL (tN ?_)))))
  rcases Qd h with ⟨aj, h⟩ | ⟨aj, h⟩
  refine Qp rfl aj (T.skip (tN (T.seq (T.block (T.seq (Z7 (dW 0 ((Zp.dc 256 .u8 x0.Split.Of) ++ (([.int .i64 x0.Split.Many, .sl false 2 (mA x0.Counts), .sl false 4 (x0.States.map Qh)] : List DC))) rfl (.f rfl) Wn i28 rfl ?_)))))))
  refine dW 1 [.sl false 1 (mI x1.L), .sl false 1 (mI x1.R), .sl false 1 (mI x1.Rule), .sl false 1 (x1.Next.map (cL 2 Qn))] rfl (.f rfl) Hx i51 rfl (dP rfl (.f rfl) Hx i49 rfl (dL 1 rfl (.f rfl) T0 rfl (dV rfl rfl (dX x1.Next (cL 2 Qn) rfl (.f rfl) T0 i55 am rfl (dR rfl (.f rfl) Rs rfl (dV rfl rfl ?_))))))
  obtain ⟨g, an, h⟩ := bind_some h
  refine dX m Qn rfl (.f rfl) Rs i54 an rfl (dJ rfl (.f rfl) Dq i54 rfl ?_)
  obtain ⟨ai, ap, h⟩ := bind_some h
  refine dH fu76 (Zm.nil (Qg1 K ap)) rfl (.f rfl) rfl (dT rfl (.f rfl) rfl (dF [0,0,0,4,0,28,60,0,252,508,1023,2047] Q0 rfl (by kernel_rfl) (fun u hu => (tN (Qg hu ?_)))))
  rcases Qd h with ⟨al, h⟩ | ⟨al, h⟩
  refine Qp rfl al (sR (Qs (aw rfl (nL (tN (T.ret (Q1 (Qr (Qr (Q1 (Q1 (Qr (Qr (Q1 (Qr (fd rfl (by cases h; exact ⟨rfl, rfl⟩)))))))))))))))))
  refine Qo rfl al (T.skip (Qk (tN (Qs (mw rfl (oI rfl (aw rfl (nL (tN ?_)))))))))
  refine Qe ?_ (ih p j (wI (q + (1:Int))) x1 s w y aa ab ac ad af x0 ag b a h)
  exact tq rfl rfl
  refine Qo rfl aj (T.exit (Ql (Ql (Qu (Qk (tN (Qs (mw rfl (oI rfl (aw rfl (nL (tN ?_))))))))))))
  refine Qe ?_ (hgo1 p (wI (j + (1:Int))) x0 x1 b a h)
  exact tq rfl rfl
theorem Qbu {r : Bool} (K : Nat) : ∀ (k : Nat), Eg r (Yu K k) := by
 intro k
 induction k with
 | zero =>
  intro q l x0 x1 m b h
  exact zn h
 | succ k ih =>
  intro q l x0 x1 m b h
  rw [Yu] at h
  refine Q7 (T.seq (sR (Qs (mw rfl (mw rfl (oI rfl (nL (tN ?_))))))))
  rcases Qd h with ⟨s, h⟩ | ⟨s, h⟩
  refine Qp rfl s (T.skip (tN (T.seq (T.block (T.seq (T.seq (Z7 ?_)))))))
  refine dP rfl (.f rfl) Hx i38 rfl (dL 1 rfl (.f rfl) Zs rfl (dV rfl rfl ?_))
  obtain ⟨a, y, h⟩ := bind_some h
  refine dX x1.Rule (cI .i64) rfl (.f rfl) Zs i3 y rfl (dR rfl (.f rfl) ul3 rfl (dI rfl (.f rfl) rfl (dV rfl rfl ?_)))
  rcases Qd h with ⟨p, h⟩ | ⟨p, h⟩
  refine dO p rfl rfl (dO p rfl rfl (dO p rfl rfl (dO p rfl rfl (dO p rfl rfl (dO p rfl rfl (dY rfl (.f rfl) p rfl ?_))))))
  refine dV rfl rfl (dO rfl rfl rfl (dO rfl rfl rfl (dO rfl rfl rfl (dO rfl rfl rfl (dO rfl rfl rfl (dO rfl rfl rfl ?_))))))
  refine dO rfl rfl rfl (dO rfl rfl rfl (dO rfl rfl rfl (dO rfl rfl rfl (dY rfl (.f rfl) rfl rfl (dF [0,1,0,7,15,31,63,127,255,127,1023,2047,4095,8191,16383,32767,65535,32767,262143,524287,1048575,32767,2129919,6324223,16777215,33554431] Q0 rfl (by kernel_rfl) (fun u hu => (tN (Qg hu (Qp rfl rfl ?_)))))))))
  refine Qg ?_ (Ki K h)
  exact tq rfl rfl
  refine dP rfl (.n p rfl) Hx i38 rfl (dL 1 rfl (.n p rfl) Zs rfl (dM rfl (.n p rfl) rfl (dX x1.Rule (cI .i64) rfl (.n p rfl) Zs i3 y rfl (dR rfl (.n p rfl) ul3 rfl (dI rfl (.n p rfl) rfl (dZ rfl (.f rfl) p rfl ?_))))))
  refine dV rfl rfl ?_
  rcases Qd h with ⟨g, h⟩ | ⟨g, h⟩
  refine dO g rfl rfl (dO g rfl rfl (dO g rfl rfl (dO g rfl rfl (dO g rfl rfl (dO g rfl rfl (dO g rfl rfl ?_))))))
  refine dO g rfl rfl (dO g rfl rfl (dO g rfl rfl (dY rfl (.f rfl) g rfl (dF [0,1,0,7,15,31,63,127,255,127,1023,2047,4095,8191,16383,32767,65535,32767,262143,524287,1048575,32767,2129919,6324223,16777215,33554431] Q0 rfl (by kernel_rfl) (fun u hu => (tN (Qg hu (Qp rfl rfl ?_))))))))
  refine Qg ?_ (Ki K h)
  exact tq rfl rfl
  refine dP rfl (.n g rfl) Hx i49 rfl (dL 1 rfl (.n g rfl) T0 rfl (dM rfl (.n g rfl) rfl ?_))
  obtain ⟨j, aa, h⟩ := bind_some h
  refine dX x1.Next (cL 2 Qn) rfl (.n g rfl) T0 i55 aa rfl (dR rfl (.n g rfl) Rs rfl (dN j Qn rfl (.n g rfl) Rs rfl (dP rfl (.n g rfl) Wn i24 rfl (dP rfl (.n g rfl) ul24 i3 rfl (dL 0 rfl (.n g rfl) ul3 rfl (dI rfl (.n g rfl) rfl ?_))))))
  refine dZ rfl (.f rfl) g rfl (dF [0,1,0,7,15,31,63,127,255,127,1023,2047,4095,8191,16383,32767,65535,32767,262143,524287,1048575,32767,2129919,6324223,16777215,33554431] Q0 rfl (by kernel_rfl) (fun u hu => (tN (Qg hu ?_))))
  rcases Qd h with ⟨w, h⟩ | ⟨w, h⟩
  refine Qp rfl w ?_
  refine Qg ?_ (Ki K h)
  exact tq rfl rfl
  refine Qo rfl w (T.skip (tN (sR (Qs (aw rfl (nL (tN (T.block (T.loop ?_)))))))))
  refine Qe ?_ (Qbt K (Yu K k) ih K q l (0:Int) x1 l a a (decide (a ≥ (512:Int))) l j j (j.length : Int) x0 ((j.length : Int) != x0.Split.Many) m b h)
  exact tq rfl rfl
  refine Qo rfl s (T.exit (Ql (Ql (Qu (tN (sR (Qs (aw rfl (nL (tN (T.ret (fd rfl (by cases h; exact ⟨rfl, rfl⟩)))))))))))))
theorem Qfl (K : Nat) {x0 : Qq} {x1 : Qa} {r : Bool} (h : Gn K x0 x1 = some r) : Zm tp 43 [.agg ((Zp.dc 256 .u8 x0.Split.Of) ++ (([.int .i64 x0.Split.Many, .sl false 2 (mA x0.Counts), .sl false 4 (x0.States.map Qh)] : List DC))), .agg [.sl false 1 (mI x1.L), .sl false 1 (mI x1.R), .sl false 1 (mI x1.Rule), .sl false 1 (x1.Next.map (cL 2 Qn))]] [] (.bool r) := by
 refine CI 96 fu43 rfl ?_
 unfold Gn at h
 refine sR (Qs (sp rfl (Q9 rfl (dk rfl) rfl (fun l => (sp rfl (Q9 rfl (dk rfl) rfl (fun m => (aw rfl (nL (tN (sR (Qs (oP Hx i38 rfl (oL 0 Zs rfl ?_))))))))))))))
 refine oU x1.R (cI .i64) Zs rfl ?_
 obtain ⟨p, q, h⟩ := bind_some h
 refine oH fu46 (Zm.nil (O1 K q)) rfl (aw rfl (nL (tN (T.seq (sR (Qs (mw rfl (oI rfl ?_))))))))
 refine mw rfl ?_
 rcases Qd h with ⟨g, h⟩ | ⟨g, h⟩
 refine pf rfl g (pf rfl g (pf rfl g (pf rfl g (oY g rfl (mw rfl (pf rfl rfl ?_))))))
 refine pf rfl rfl (pf rfl rfl (pf rfl rfl (pf rfl rfl (pf rfl rfl (pf rfl rfl (oY rfl rfl ?_))))))
 refine mw rfl (pf rfl rfl (pf rfl rfl (pf rfl rfl (pf rfl rfl (pf rfl rfl (oY rfl rfl ?_))))))
 refine mw rfl (pf rfl rfl (pf rfl rfl (pf rfl rfl (pf rfl rfl (pf rfl rfl (oY rfl rfl ?_))))))
 refine nL (tN (Qp rfl rfl ?_))
 refine Qg ?_ (U6 K h)
 exact tq rfl rfl
 refine sn rfl g (Vf rfl (dk rfl) Hx rfl i38 (by decide) rfl (sn rfl g (Yb (i := 0) rfl (dk rfl) Zs rfl rfl rfl rfl ?_)))
 obtain ⟨w, u, h⟩ := bind_some h
 refine sn rfl g (Uv rfl (dk rfl) fu75 rfl rfl (Zw.cons rfl (Zw.cons rfl Zw.nil)) (Zm.nil (Ou K (flx0 := false) u)) (sn rfl g (OpT.not rfl (dk rfl) rfl (oZ g rfl (mw rfl ?_)))))
 rcases Qd h with ⟨a, h⟩ | ⟨a, h⟩
 refine pf rfl a (pf rfl a (pf rfl a (pf rfl a (pf rfl a (pf rfl a (pf rfl a ?_))))))
 refine oY a rfl (mw rfl (pf rfl rfl (pf rfl rfl (pf rfl rfl (pf rfl rfl (pf rfl rfl ?_))))))
 refine oY rfl rfl (mw rfl (pf rfl rfl (pf rfl rfl (pf rfl rfl (pf rfl rfl (pf rfl rfl ?_))))))
 refine oY rfl rfl (nL (tN (Qp rfl rfl ?_)))
 refine Qg ?_ (U6 K h)
 exact tq rfl rfl
 refine sn rfl a (Vf rfl (dk rfl) Hx rfl i38 (by decide) rfl (sn rfl a (Yb (i := 0) rfl (dk rfl) Zs rfl rfl rfl rfl (sn rfl a (Vf rfl (dk rfl) Wn rfl i25 (by decide) rfl (sn rfl a (Yb (i := 1) rfl (dk rfl) Qiu rfl rfl rfl rfl (sn rfl a (Yz (xs := x0.Counts) (f := (Xf.dc .i64)) rfl (dk rfl) Qiu rfl ?_)))))))))
 obtain ⟨y, v, h⟩ := bind_some h
 refine sn rfl a (Uv rfl (dk rfl) fu75 rfl rfl (Zw.cons rfl (Zw.cons rfl Zw.nil)) (Zm.nil (Ou K (flx0 := false) v)) (sn rfl a (OpT.not rfl (dk rfl) rfl (oZ a rfl (mw rfl ?_)))))
 rcases Qd h with ⟨b, h⟩ | ⟨b, h⟩
 refine pf rfl b (pf rfl b (pf rfl b (pf rfl b (pf rfl b (oY b rfl (mw rfl ?_))))))
 refine pf rfl rfl (pf rfl rfl (pf rfl rfl (pf rfl rfl (pf rfl rfl (oY rfl rfl (nL (tN ?_)))))))
 refine Qp rfl rfl ?_
 refine Qg ?_ (U6 K h)
 exact tq rfl rfl
 refine sn rfl b (Vf rfl (dk rfl) Hx rfl i38 (by decide) rfl (sn rfl b (Yb (i := 0) rfl (dk rfl) Zs rfl rfl rfl rfl (sn rfl b (Yz (xs := x1.Rule) (f := (cI .i64)) rfl (dk rfl) Zs rfl (sn rfl b (OpT.move rfl (dk rfl) rfl (sn rfl b (Z1 rfl rfl (dk rfl) rfl rfl (oZ b rfl (mw rfl ?_)))))))))))
 rcases Qd h with ⟨d, h⟩ | ⟨d, h⟩
 refine pf rfl d (pf rfl d (pf rfl d (pf rfl d (pf rfl d (oY d rfl (nL (tN ?_)))))))
 refine Qp rfl rfl ?_
 refine Qg ?_ (U6 K h)
 exact tq rfl rfl
 refine sn rfl d (Vf rfl (dk rfl) Hx rfl i49 (by decide) rfl (sn rfl d (Yb (i := 0) rfl (dk rfl) T0 rfl rfl rfl rfl (sn rfl d (Yz (xs := x1.Next) (f := (cL 2 Qn)) rfl (dk rfl) T0 rfl (sn rfl d (OpT.move rfl (dk rfl) rfl (sn rfl d (Z1 rfl rfl (dk rfl) rfl rfl (oZ d rfl (nL (tN ?_))))))))))))
 rcases Qd h with ⟨j, h⟩ | ⟨j, h⟩
 refine Qp rfl j ?_
 refine Qg ?_ (U6 K h)
 exact tq rfl rfl
 refine Qo rfl j (T.skip (tN (T.seq (sR (Qs (aw rfl (nL (tN (T.block ?_)))))))))
 refine T.loop ?_
 refine Qe ?_ (Qbu K K p (0:Int) x0 x1 l m h)
 exact tr rfl (.c (.s .z) (.c .z (.n _)))
abbrev B8 (r : Bool) : ES := Jq tp ff19 (fun y t => y = (.bool r) ∧ t = [])
abbrev Qby (r : Bool) : ES := fT 93 [1,1] ff19 (B8 r)
abbrev Qag (r : Bool) : ES := fT 93 [1,1,1] ff19 (B8 r)
abbrev Bh (r : Bool) : ES := Qz 0 ((Qag r))
abbrev R2 (r : Bool) : ES := fL 93 [1,1,0,1,0,0] ff19 (Bh r)
abbrev Nj (r : Bool) : ES := fT 93 [1,1,0,1,0,0,1,1] ff19 (R2 r)
abbrev Dz (r : Bool) : ES := Qz 1 ((Nj r))
abbrev Ta (r : Bool) : ES := fT 93 [1,1,1,1] ff19 (B8 r)
abbrev P4 (r : Bool) : ES := Qz 2 ((Ta r))
theorem V6 {r : Bool} (K : Nat) (h : Z0 K = some r) : T tp 93 (ca [1,0,1,0] ff19) ⟨[], []⟩ (Qby r) := by
 unfold Z0 at h
 refine sR (Qs (aw rfl (nL (tN (T.ret (Qr (fd rfl (by cases h; exact ⟨rfl, rfl⟩))))))))
theorem Ww {r : Bool} (K : Nat) (h : Vw K = some r) : T tp 93 (ca [1,1,0,1,0,0,1,0,0,1,1,0] ff19) ⟨[], []⟩ (Dz r) := by
 unfold Vw at h
 refine sR (Qs (aw rfl (nL (tN (T.ret (Q1 (Qr (Qr (Q1 (Qr (fd rfl (by cases h; exact ⟨rfl, rfl⟩))))))))))))
theorem Qbz {r : Bool} (K : Nat) : ∀ (k : Nat), ∀ (g : Int) (x0 : Qq) (b : Nat), Vv K k g x0 = some r → TL tp 93 (ca [1,1,1,0,1,0,0] ff19) ⟨[(1, .ptr b 0), (5, .int .i64 g)], [(Qhw b x0.Split.Of x0.Split.Many x0.Counts x0.States)]⟩ (P4 r) := by
 intro k
 induction k with
 | zero =>
  intro g x0 b h
  exact zn h
 | succ k ih =>
  intro g x0 b h
  rw [Vv] at h
  refine Q7 (T.seq (sR (Qs (mw rfl (oP Wn i26 rfl (oL 0 Jm rfl (oU x0.States Qh Jm rfl ?_)))))))
  refine oI rfl (nL (tN ?_))
  rcases Qd h with ⟨m, h⟩ | ⟨m, h⟩
  refine Qp rfl m (T.skip (tN (T.seq (T.block (T.seq (Z7 (dW 0 ((Zp.dc 256 .u8 x0.Split.Of) ++ (([.int .i64 x0.Split.Many, .sl false 2 (mA x0.Counts), .sl false 4 (x0.States.map Qh)] : List DC))) rfl (.f rfl) Wn i28 rfl ?_)))))))
  refine dP rfl (.f rfl) Wn i26 rfl (dL 0 rfl (.f rfl) Jm rfl (dV rfl rfl ?_))
  obtain ⟨a, q, h⟩ := bind_some h
  refine dX x0.States Qh rfl (.f rfl) Jm i51 q rfl (dJ rfl (.f rfl) Hx i51 rfl ?_)
  obtain ⟨j, s, h⟩ := bind_some h
  refine dH fu43 (Zm.nil (Qfl K s)) rfl (.f rfl) rfl (dT rfl (.f rfl) rfl (dF [0,0,2,0,14,30,63,127] Q0 rfl (by kernel_rfl) (fun u hu => (tN (Qg hu ?_)))))
  rcases Qd h with ⟨p, h⟩ | ⟨p, h⟩
  refine Qp rfl p (sR (Qs (aw rfl (nL (tN (T.ret (Q1 (Qr (Qr (Q1 (Qr (fd rfl (by cases h; exact ⟨rfl, rfl⟩)))))))))))))
  refine Qo rfl p (T.skip (Qk (tN (Qs (mw rfl (oI rfl (aw rfl (nL (tN ?_)))))))))
  refine Qe ?_ (ih (wI (g + (1:Int))) x0 b h)
  exact tq rfl rfl
  refine Qo rfl m (T.exit (Ql (Ql (Qu (tN (sR (Qs (aw rfl (nL (tN (T.ret (fd rfl (by cases h; exact ⟨rfl, rfl⟩)))))))))))))
theorem Qb0 {r : Bool} (K : Nat) : ∀ (k : Nat), ∀ (p : Int) (x0 : Qq) (m : Nat), Xq K k p x0 = some r → TL tp 93 (ca [1,1,0,1,0,0] ff19) ⟨[(1, .ptr m 0), (3, .int .i64 p)], [(Qhw m x0.Split.Of x0.Split.Many x0.Counts x0.States)]⟩ (Bh r) := by
 intro k
 induction k with
 | zero =>
  intro p x0 m h
  exact zn h
 | succ k ih =>
  intro p x0 m h
  rw [Xq] at h
  refine Q7 (T.seq (sR (Qs (mw rfl (oP Wn i25 rfl (oL 0 Qiu rfl (oU x0.Counts (Xf.dc .i64) Qiu rfl ?_)))))))
  refine oI rfl (nL (tN ?_))
  rcases Qd h with ⟨q, h⟩ | ⟨q, h⟩
  refine Qp rfl q (T.skip (tN (T.seq (T.block (sR (Qs (oP Wn i25 rfl (oL 0 Qiu rfl ?_))))))))
  refine mw rfl ?_
  obtain ⟨l, w, h⟩ := bind_some h
  refine oX x0.Counts (Xf.dc .i64) Qiu i59 w rfl (oJ ul59 i59 rfl (sp rfl (Ze rfl (dk rfl) i59 rfl (fun y => (sp rfl (Qy (i := 0) (cells' := (Xf.oc .i64 l)) rfl rfl i59 rfl rfl rfl rfl (nb rfl) rfl (nL (tN (sR (Qs (sp rfl (Y4 rfl (dk rfl) ul59 i3 rfl rfl (by decide) (by decide) (sp rfl (Yb (i := 0) rfl (dk rfl) ul3 rfl rfl rfl (Hw (k := .i64) (a := l) (pre := []) (post := []) (by decide) (by decide)) ?_))))))))))))))
  refine oI rfl (mw rfl ?_)
  rcases Qd h with ⟨b, h⟩ | ⟨b, h⟩
  refine pf rfl b (pf rfl b (pf rfl b (pf rfl b (pf rfl b (oY b rfl (mw rfl ?_))))))
  refine pf rfl rfl (pf rfl rfl (pf rfl rfl (oY rfl rfl (mw rfl (pf rfl rfl (pf rfl rfl ?_))))))
  refine pf rfl rfl (oY rfl rfl (nL (tN (Qp rfl rfl ?_))))
  refine Qg ?_ (Ww K h)
  exact tq rfl rfl
  refine sn rfl b (Y4 rfl (dk rfl) ul59 i3 rfl rfl (by decide) (by decide) (sn rfl b (Yb (i := 0) rfl (dk rfl) ul3 rfl rfl rfl (Hw (k := .i64) (a := l) (pre := []) (post := []) (by decide) (by decide)) (sn rfl b (Y4 rfl (dk rfl) ul59 i3 rfl rfl (by decide) (by decide) (sn rfl b (Yb (i := 0) rfl (dk rfl) ul3 rfl rfl rfl (Hw (k := .i64) (a := l) (pre := []) (post := []) (by decide) (by decide)) (sn rfl b (Z1 rfl rfl (dk rfl) rfl rfl (oZ b rfl (mw rfl ?_)))))))))))
  rcases Qd h with ⟨g, h⟩ | ⟨g, h⟩
  refine pf rfl g (pf rfl g (pf rfl g (oY g rfl (mw rfl (pf rfl rfl (pf rfl rfl ?_))))))
  refine pf rfl rfl (oY rfl rfl (nL (tN (Qp rfl rfl ?_))))
  refine Qg ?_ (Ww K h)
  exact tq rfl rfl
  refine sn rfl g (Y4 rfl (dk rfl) ul59 i3 rfl rfl (by decide) (by decide) (sn rfl g (Yb (i := 0) rfl (dk rfl) ul3 rfl rfl rfl (Hw (k := .i64) (a := l) (pre := []) (post := []) (by decide) (by decide)) (sn rfl g (Z1 rfl rfl (dk rfl) rfl rfl (oZ g rfl (mw rfl ?_)))))))
  rcases Qd h with ⟨j, h⟩ | ⟨j, h⟩
  refine pf rfl j (pf rfl j (pf rfl j (oY j rfl (nL (tN (Qp rfl rfl ?_))))))
  refine Qg ?_ (Ww K h)
  exact tq rfl rfl
  refine sn rfl j (Y4 rfl (dk rfl) ul59 i3 rfl rfl (by decide) (by decide) (sn rfl j (Yb (i := 0) rfl (dk rfl) ul3 rfl rfl rfl (Hw (k := .i64) (a := l) (pre := []) (post := []) (by decide) (by decide)) (sn rfl j (Z1 rfl rfl (dk rfl) rfl rfl (oZ j rfl (nL (tN ?_))))))))
  rcases Qd h with ⟨u, h⟩ | ⟨u, h⟩
  refine Qp rfl u ?_
  refine Qg ?_ (Ww K h)
  exact tq rfl rfl
  refine Qo rfl u (T.skip (Qk (tN (Qs (mw rfl (oI rfl (aw rfl (nL (tN ?_)))))))))
  refine Qe ?_ (ih (wI (p + (1:Int))) x0 m h)
  exact tr rfl (.c (.s .z) (.n _))
  refine Qo rfl q (T.exit (Ql (Ql (Qu (tN (T.seq (sR (Qs (aw rfl (nL (tN (T.block ?_))))))))))))
  refine T.loop ?_
  refine Qe ?_ (Qbz K K (0:Int) x0 m h)
  exact tq rfl rfl
theorem Qfp (K : Nat) {x0 : Qq} {r : Bool} (h : Wg K x0 = some r) : Zm tp 19 [.agg ((Zp.dc 256 .u8 x0.Split.Of) ++ (([.int .i64 x0.Split.Many, .sl false 2 (mA x0.Counts), .sl false 4 (x0.States.map Qh)] : List DC)))] [] (.bool r) := by
 refine CI 93 fu19 rfl ?_
 unfold Wg at h
 refine sR (Qs (sp rfl (Q9 rfl (dk rfl) rfl (fun s => (aw rfl (nL (tN (T.seq (sR (Qs (oP Wn i24 rfl ?_)))))))))))
 refine oA 0 ((Zp.dc 256 .u8 x0.Split.Of) ++ (([.int .i64 x0.Split.Many] : List DC))) ul24 i24 rfl ?_
 obtain ⟨w, u, h⟩ := bind_some h
 refine oH fu42 (Zm.nil (Qgd K u)) rfl (oT rfl (mw rfl ?_))
 rcases Qd h with ⟨d, h⟩ | ⟨d, h⟩
 refine pf rfl d (pf rfl d (pf rfl d (pf rfl d (oY d rfl (mw rfl (pf rfl rfl ?_))))))
 refine pf rfl rfl (pf rfl rfl (pf rfl rfl (oY rfl rfl (mw rfl (pf rfl rfl (pf rfl rfl ?_))))))
 refine pf rfl rfl (pf rfl rfl (oY rfl rfl (mw rfl (pf rfl rfl (pf rfl rfl (pf rfl rfl ?_))))))
 refine pf rfl rfl (pf rfl rfl (pf rfl rfl (pf rfl rfl (oY rfl rfl (mw rfl (pf rfl rfl ?_))))))
 refine pf rfl rfl (pf rfl rfl (pf rfl rfl (pf rfl rfl (pf rfl rfl (pf rfl rfl (oY rfl rfl ?_))))))
 refine nL (tN (Qp rfl rfl ?_))
 refine Qg ?_ (V6 K h)
 exact tq rfl rfl
 refine sn rfl d (Vf rfl (dk rfl) Wn rfl i25 (by decide) rfl (sn rfl d (Yb (i := 0) rfl (dk rfl) Qiu rfl rfl rfl rfl (sn rfl d (Yz (xs := x0.Counts) (f := (Xf.dc .i64)) rfl (dk rfl) Qiu rfl (sn rfl d (Z1 rfl rfl (dk rfl) rfl rfl (oZ d rfl (mw rfl ?_)))))))))
 rcases Qd h with ⟨g, h⟩ | ⟨g, h⟩
 refine pf rfl g (pf rfl g (pf rfl g (pf rfl g (oY g rfl (mw rfl (pf rfl rfl ?_))))))
 refine pf rfl rfl (pf rfl rfl (pf rfl rfl (oY rfl rfl (mw rfl (pf rfl rfl (pf rfl rfl ?_))))))
 refine pf rfl rfl (pf rfl rfl (pf rfl rfl (pf rfl rfl (pf rfl rfl (oY rfl rfl (mw rfl ?_))))))
 refine pf rfl rfl (pf rfl rfl (pf rfl rfl (pf rfl rfl (pf rfl rfl (pf rfl rfl (pf rfl rfl ?_))))))
 refine oY rfl rfl (nL (tN (Qp rfl rfl ?_)))
 refine Qg ?_ (V6 K h)
 exact tq rfl rfl
 refine sn rfl g (Vf rfl (dk rfl) Wn rfl i26 (by decide) rfl (sn rfl g (Yb (i := 0) rfl (dk rfl) Jm rfl rfl rfl rfl (sn rfl g (Yz (xs := x0.States) (f := Qh) rfl (dk rfl) Jm rfl (sn rfl g (Z1 rfl rfl (dk rfl) rfl rfl (oZ g rfl (mw rfl ?_)))))))))
 rcases Qd h with ⟨j, h⟩ | ⟨j, h⟩
 refine pf rfl j (pf rfl j (pf rfl j (pf rfl j (oY j rfl (mw rfl (pf rfl rfl ?_))))))
 refine pf rfl rfl (pf rfl rfl (pf rfl rfl (pf rfl rfl (pf rfl rfl (pf rfl rfl (oY rfl rfl ?_))))))
 refine mw rfl (pf rfl rfl (pf rfl rfl (pf rfl rfl (pf rfl rfl (pf rfl rfl (pf rfl rfl ?_))))))
 refine pf rfl rfl (oY rfl rfl (nL (tN (Qp rfl rfl ?_))))
 refine Qg ?_ (V6 K h)
 exact tq rfl rfl
 refine sn rfl j (Vf rfl (dk rfl) Wn rfl i26 (by decide) rfl (sn rfl j (Yb (i := 0) rfl (dk rfl) Jm rfl rfl rfl rfl (sn rfl j (Yz (xs := x0.States) (f := Qh) rfl (dk rfl) Jm rfl (sn rfl j (Z1 rfl rfl (dk rfl) rfl rfl (oZ j rfl (mw rfl ?_)))))))))
 rcases Qd h with ⟨a, h⟩ | ⟨a, h⟩
 refine pf rfl a (pf rfl a (pf rfl a (pf rfl a (pf rfl a (pf rfl a (pf rfl a ?_))))))
 refine oY a rfl (mw rfl (pf rfl rfl (pf rfl rfl (pf rfl rfl (pf rfl rfl (pf rfl rfl ?_))))))
 refine pf rfl rfl (pf rfl rfl (oY rfl rfl (nL (tN (Qp rfl rfl ?_)))))
 refine Qg ?_ (V6 K h)
 exact tq rfl rfl
 refine sn rfl a (Vf rfl (dk rfl) Wn rfl i26 (by decide) rfl (sn rfl a (Yb (i := 0) rfl (dk rfl) Jm rfl rfl rfl rfl ?_)))
 obtain ⟨m, q, h⟩ := bind_some h
 refine sn rfl a (Hq (xs := x0.States) (f := Qh) (v := m) rfl (dk rfl) Jm i51 rfl rfl q (sn rfl a (Xy rfl (dk rfl) Hx rfl i38 (by decide) rfl (sn rfl a (Lq rfl (dk rfl) Zs rfl rfl rfl (sn rfl a (Yz (xs := m.L) (f := (cI .i64)) rfl (dk rfl) Zs rfl (sn rfl a (Z1 rfl rfl (dk rfl) rfl rfl (oZ a rfl (mw rfl ?_)))))))))))
 rcases Qd h with ⟨b, h⟩ | ⟨b, h⟩
 refine pf rfl b (pf rfl b (pf rfl b (pf rfl b (pf rfl b (pf rfl b (pf rfl b ?_))))))
 refine oY b rfl (nL (tN (Qp rfl rfl ?_)))
 refine Qg ?_ (V6 K h)
 exact tq rfl rfl
 refine sn rfl b (Vf rfl (dk rfl) Wn rfl i26 (by decide) rfl (sn rfl b (Yb (i := 0) rfl (dk rfl) Jm rfl rfl rfl rfl (sn rfl b (Hq (xs := x0.States) (f := Qh) (v := m) rfl (dk rfl) Jm i51 rfl rfl q (sn rfl b (Xy rfl (dk rfl) Hx rfl i38 (by decide) rfl (sn rfl b (Lq rfl (dk rfl) Zs rfl rfl rfl (sn rfl b (Yz (xs := m.R) (f := (cI .i64)) rfl (dk rfl) Zs rfl (sn rfl b (Z1 rfl rfl (dk rfl) rfl rfl ?_)))))))))))))
 refine oZ b rfl (nL (tN ?_))
 rcases Qd h with ⟨p, h⟩ | ⟨p, h⟩
 refine Qp rfl p ?_
 refine Qg ?_ (V6 K h)
 exact tq rfl rfl
 refine Qo rfl p (T.skip (tN (T.seq (sR (Qs (aw rfl (nL (tN (T.block ?_)))))))))
 refine T.loop ?_
 refine Qe ?_ (Qb0 K K (0:Int) x0 s h)
 exact tq rfl rfl
abbrev Qhf (r : Int) : ES := Jq tp ff21 (fun y t => y = (.int .i64 r) ∧ t = [])
abbrev Qcs (r : Int) : ES := fT 57 [1,1,1] ff21 (Qhf r)
abbrev Cu (r : Int) : ES := Qz 0 ((Qcs r))
abbrev Tr (r : Int) : ES := fL 57 [1,1,0,1,0,0] ff21 (Cu r)
abbrev Nx (r : Int) : ES := fT 57 [1,1,0,1,0,0,1,1,1] ff21 (Tr r)
abbrev D6 (r : Int) : ES := Qz 1 ((Nx r))
abbrev Fz (r : Int) (go : Int → Int → Qt → Int → Int → Qj → Option Int) : Prop := ∀ (a b : Int) (x1 : Qt) (c f : Int) (x0 : Qj) (g : Nat), go a b x1 c f x0 = some r → TL tp 57 (ca [1,1,0,1,0,0] ff21) ⟨[(2, .ptr g 0), (5, .int .i64 a), (6, .int .i64 b), (11, .sl false 2 (x1.L.map Za)), (12, .int .i64 c), (13, .int .i64 f)], [(Qcv g x0.First x0.P)]⟩ (Cu r)
theorem Mb {r : Int} (K : Nat) (go0 : Int → Int → Qt → Int → Int → Qj → Option Int) (hgo0 : Fz r go0) (a b : Int) (x1 : Qt) (f g : Int) (x0 : Qj) (i : Nat) (h : Jg K go0 a b x1 f g x0 = some r) : T tp 57 (ca [1,1,0,1,0,0,1,1,0,0,1,1,1,1] ff21) ⟨[(2, .ptr i 0), (5, .int .i64 a), (6, .int .i64 b), (11, .sl false 2 (x1.L.map Za)), (12, .int .i64 f), (13, .int .i64 g)], [(Qcv i x0.First x0.P)]⟩ (D6 r) := by
 unfold Jg at h
 refine Qs (mw rfl (oI rfl (aw rfl (nL (Qk (tN (Qs (oI rfl ?_))))))))
 refine mw rfl (nL (tN ?_))
 refine Qe ?_ (hgo0 a (wI (b * (3:Int))) x1 f (wI (g + (1:Int))) x0 i h)
 exact tq rfl rfl
theorem Qdu {r : Int} (K : Nat) : ∀ (k : Nat), Fz r (Yg K k) := by
 intro k
 induction k with
 | zero =>
  intro w l x1 y aa x0 m h
  exact zn h
 | succ k ih =>
  intro w l x1 y aa x0 m h
  rw [Yg] at h
  refine Q7 (sR (Qs (oI rfl (nL (tN (T.seq ?_))))))
  rcases Qd h with ⟨ab, h⟩ | ⟨ab, h⟩
  refine Qp rfl ab (T.skip (tN (T.seq (T.block (sR (Qs ?_))))))
  obtain ⟨b, ag, h⟩ := bind_some h
  refine oX x1.L Za Qc0 i105 ag rfl (oJ Cy i105 rfl (sp rfl (Ze rfl (dk rfl) i105 rfl (fun g => (sp rfl (Qy (i := 0) (cells' := [.d (.int .i64 b.P), .d (.sl false 1 (mI b.N))]) rfl rfl i105 rfl rfl rfl rfl (nb rfl) rfl (nL (tN (sR (Qs (oP F7 i41 rfl (oL 1 Ci rfl ?_))))))))))))
  refine oP Cy i3 rfl (oL 0 ul3 rfl ?_)
  obtain ⟨a, ai, h⟩ := bind_some h
  refine oX x0.P Qv Ci i65 ai rfl (oJ Qbf i65 rfl (sp rfl (Ze rfl (dk rfl) i65 rfl (fun j => (sp rfl (Qy (i := 0) (cells' := [.d (.int .u64 a.S.a0), .d (.int .u64 a.S.a1), .d (.int .u64 a.S.a2), .d (.int .u64 a.S.a3), .d (.int .i64 a.Lo), .d (.int .i64 a.Hi), .d (.int .i64 a.Rule), .d (.bool a.Last), .d (.sl false 1 (mI a.Next))]) rfl rfl i65 rfl rfl rfl rfl (nb rfl) rfl (nL (tN (T.seq (sR (Qs ?_)))))))))))
  refine oP Qbf i3 rfl (oL 0 ul3 rfl (oI rfl (nL (tN ?_))))
  rcases Qd h with ⟨ac, h⟩ | ⟨ac, h⟩
  refine Qp rfl ac (T.exit (Ql (Qu (tN (Qs (oI rfl (mw rfl (nL (tN ?_)))))))))
  refine Qe ?_ (ih w l x1 y (wI (aa + (1:Int))) x0 m h)
  exact tr rfl (.c (.s (.s .z)) (.n _))
  refine Qo rfl ac (T.skip (tN (T.seq (T.block (T.seq (Z7 (dP rfl (.f rfl) Cy i38 rfl ?_)))))))
  refine dL 1 rfl (.f rfl) Zs rfl (dP rfl (.f rfl) Cy i38 rfl (dL 1 rfl (.f rfl) Zs rfl (dN b.N (cI .i64) rfl (.f rfl) Zs rfl (dI rfl (.f rfl) rfl ?_))))
  obtain ⟨p, aj, h⟩ := bind_some h
  refine dX b.N (cI .i64) rfl (.f rfl) Zs i3 aj rfl (dR rfl (.f rfl) ul3 rfl (dP rfl (.f rfl) Qbf i3 rfl (dL 0 rfl (.f rfl) ul3 rfl (dI rfl (.f rfl) rfl (dA rfl (.f rfl) rfl (dF [0,1,0,4,12,28,63,127,0,256,1023,2047] Q0 rfl (by kernel_rfl) (fun u hu => (tN (Qg hu ?_)))))))))
  rcases Qd h with ⟨ad, h⟩ | ⟨ad, h⟩
  refine Qp rfl ad (T.skip (Qk (tN ?_)))
  refine Qg ?_ (Mb K (Yg K k) ih w l x1 y aa x0 m h)
  exact tr rfl (.c (.s (.s .z)) (.n _))
  refine Qo rfl ad (T.seq (Z7 (dP rfl (.f rfl) Cy i38 rfl (dL 1 rfl (.f rfl) Zs rfl ?_))))
  obtain ⟨q, al, h⟩ := bind_some h
  refine dX b.N (cI .i64) rfl (.f rfl) Zs i3 al rfl (dR rfl (.f rfl) ul3 rfl (dP rfl (.f rfl) Qbf i3 rfl (dL 0 rfl (.f rfl) ul3 rfl (dI rfl (.f rfl) rfl (dA rfl (.f rfl) rfl (dF [0,1,3,7,0,16,63,127] Q0 rfl (by kernel_rfl) (fun u hu => (tN (Qg hu ?_)))))))))
  rcases Qd h with ⟨af, h⟩ | ⟨af, h⟩
  refine Qp rfl af (Qs (mw rfl (mw rfl (oI rfl (oI rfl (aw rfl ?_))))))
  refine nL (Qk (tN ?_))
  refine Qg ?_ (Mb K (Yg K k) ih (wI (w + (wI ((2:Int) * l)))) l x1 y aa x0 m h)
  exact tr rfl (.c (.s (.s .z)) (.n _))
  refine Qo rfl af (Qs (mw rfl (mw rfl (oI rfl (aw rfl (nL (Qk (tN ?_))))))))
  refine Qg ?_ (Mb K (Yg K k) ih (wI (w + l)) l x1 y aa x0 m h)
  exact tr rfl (.c (.s (.s .z)) (.n _))
  refine Qo rfl ab (T.exit (Ql (Ql (Qu (tN (sR (Qs (mw rfl (aw rfl (nL (tN (T.ret ?_))))))))))))
  exact fd rfl (by cases h; exact ⟨rfl, rfl⟩)
theorem Dj (K : Nat) {x0 : Qj} {x1 : Qt} {r : Int} (h : L8 K x0 x1 = some r) : Zm tp 21 [.agg [.sl false 1 (mI x0.First), .sl false 9 (x0.P.map Qv)], .agg [.bool x1.Begin, .sl false 2 (x1.L.map Za)]] [] (.int .i64 r) := by
 refine CI 57 fu21 rfl ?_
 unfold L8 at h
 refine sR (Qs (sp rfl (Q9 rfl (dk rfl) rfl (fun a => (sp rfl (Q9 rfl (dk rfl) rfl (fun b => (aw rfl (nL (tN (sR (Qs (aw rfl (aw rfl ?_))))))))))))))
 refine nL (tN (T.seq (sR (Qs (oP Qa4 i45 rfl (oL 0 Qc0 rfl (oU x1.L Za Qc0 rfl (mw rfl ?_))))))))
 refine nL (tN (T.block (T.loop ?_)))
 refine Qe ?_ (Qdu K K (0:Int) (1:Int) x1 (x1.L.length : Int) (0:Int) x0 a h)
 exact tr rfl (.c (.s .z) (.n _))
end Go.Rv

/- Each function computes what its plain text says: printed by a program of ours. -/
import Derived.Test.YtcmfaclkgdmpbaaGreatDoorRgW3
namespace Go.Rv
open Go.Proofs
set_option maxRecDepth 100000
set_option maxHeartbeats 4000000
set_option linter.unusedVariables false
abbrev F9 (r : Bool) : ES := U6 tp ff93 (fun y t => y = (.bool r) ∧ t = [])
abbrev Re (r : Bool) : ES := fT 79 [1,1,1] ff93 (F9 r)
abbrev Pf (r : Bool) : ES := fT 79 [1,1,1,1] ff93 (F9 r)
abbrev Kg (r : Bool) : ES := Qx 0 ((Pf r))
abbrev I6 (r : Bool) : ES := fL 79 [1,1,1,0,1,0,0] ff93 (Kg r)
abbrev Da (r : Bool) : ES := fT 79 [1,1,1,0,1,0,0,1,1,1] ff93 (I6 r)
abbrev M2 (r : Bool) : ES := Qx 1 ((Da r))
theorem Gz {r : Bool} (K : Nat) (h : Y6 K = some r) : T tp 79 (ca [1,1,0,1,0] ff93) ⟨[], []⟩ (Re r) := by
 unfold Y6 at h
 refine sR (Qq (aw rfl (nL (tN (T.ret (Qv (fd rfl (by cases h; exact ⟨rfl, rfl⟩))))))))
theorem Gy {r : Bool} (K : Nat) (h : Y5 K = some r) : T tp 79 (ca [1,1,1,0,1,0,0,1,1,0,0,1,1,0] ff93) ⟨[], []⟩ (M2 r) := by
 unfold Y5 at h
 refine sR (Qq (aw rfl (nL (tN (T.ret (Q1 (Qv (Qv (Q1 (Qv (fd rfl (by cases h; exact ⟨rfl, rfl⟩))))))))))))
theorem S7 {r : Bool} (K : Nat) : ∀ (k : Nat), ∀ (x2 : Qc) (w p : Int) (x0 : Q7) (x1 : Qa) (j l m : Nat), Y4 K k x2 w p x0 x1 = some r → TL tp 79 (ca [1,1,1,0,1,0,0] ff93) ⟨[(3, .ptr j 0), (4, .ptr l 0), (5, .ptr m 0), (44, .sl false 1 (mU x2.Ops)), (45, .int .i64 w), (46, .int .i64 p)], [(Jt j x0.Auto.Split.Of x0.Auto.Split.Many x0.Auto.Counts x0.Auto.States), (K3 l x1.L x1.R x1.Rule x1.Next), (Qaw m x2.To x2.Ops)]⟩ (Kg r) := by
 intro k
 induction k with
 | zero =>
  intro x2 w p x0 x1 j l m h
  exact zn h
 | succ k ih =>
  intro x2 w p x0 x1 j l m h
  rw [Y4] at h
  refine Q3 (sR (Qq (oI rfl (nL (tN (T.seq ?_))))))
  rcases Qe h with ⟨ab, h⟩ | ⟨ab, h⟩
  refine Qp rfl ab (T.skip (tN (T.seq (T.block (sR (Qq (mw rfl ?_)))))))
  obtain ⟨a, ad, h⟩ := bind_some h
  refine oX x2.Ops (cI .u8) B6 i5 ad rfl (oR ul5 rfl (aw rfl (aw rfl (nL (tN (T.seq (Yg ?_)))))))
  refine dV rfl rfl (dI rfl (.f rfl) rfl (dV rfl rfl ?_))
  rcases Qe h with ⟨y, h⟩ | ⟨y, h⟩
  refine dO y rfl rfl (dO y rfl rfl (dY rfl (.f rfl) y rfl (dV rfl rfl (dO rfl rfl rfl (dO rfl rfl rfl (dO rfl rfl rfl ?_))))))
  refine dG rfl rfl (dG rfl rfl (dG rfl rfl (dG rfl rfl (dG rfl rfl (dG rfl rfl (dG rfl rfl ?_))))))
  refine dG rfl rfl (dG rfl rfl (dG rfl rfl (dG rfl rfl (dG rfl rfl (dG rfl rfl (dG rfl rfl ?_))))))
  refine dG rfl rfl (dO rfl rfl rfl (dY rfl (.f rfl) rfl rfl (dF [0,1,3,7,15,31,63,127,255,511,1023,2047,1023,5119,13311,1023,33791,127999,259071,521215,1023,2094079,4191231,8388607,16777215,33554431,67108863] Qz rfl (by kernel_rfl) (fun u hu => (tN (Qk hu (Qp rfl rfl ?_)))))))
  refine Qk ?_ (Gy K h)
  exact tq rfl rfl
  refine dM rfl (.n y rfl) rfl (dI rfl (.n y rfl) rfl (dZ rfl (.f rfl) y rfl (dV rfl rfl ?_)))
  rcases Qe h with ⟨q, h⟩ | ⟨q, h⟩
  refine dO q rfl rfl (dO q rfl rfl (dO q rfl rfl (dG rfl rfl (dG rfl rfl (dG rfl rfl (dG rfl rfl ?_))))))
  refine dG rfl rfl (dG rfl rfl (dG rfl rfl (dG rfl rfl (dG rfl rfl (dG rfl rfl (dG rfl rfl ?_))))))
  refine dG rfl rfl (dG rfl rfl (dG rfl rfl (dG rfl rfl (dO q rfl rfl (dY rfl (.f rfl) q rfl (dF [0,1,3,7,15,31,63,127,255,511,1023,2047,1023,5119,13311,1023,33791,127999,259071,521215,1023,2094079,4191231,8388607,16777215,33554431,67108863] Qz rfl (by kernel_rfl) (fun u hu => (tN (Qk hu ?_)))))))))
  refine Qp rfl rfl ?_
  refine Qk ?_ (Gy K h)
  exact tq rfl rfl
  refine dM rfl (.n q rfl) rfl (dI rfl (.n q rfl) rfl (dM rfl (.n q rfl) rfl ?_))
  rcases Qe h with ⟨b, h⟩ | ⟨b, h⟩
  refine dP rfl (.n b rfl) Ju i38 rfl (dL 1 rfl (.n b rfl) Zu rfl (dP rfl (.n b rfl) ul107 i28 rfl (dP rfl (.n b rfl) Jl i26 rfl (dL 0 rfl (.n b rfl) Uh rfl (dP rfl (.n b rfl) Bi i3 rfl (dL 2 rfl (.n b rfl) ul3 rfl ?_))))))
  obtain ⟨g, af, h⟩ := bind_some h
  refine dX x0.Auto.States Qd rfl (.n b rfl) Uh i51 af rfl (dQ rfl (.n b rfl) Ju i38 rfl (dR rfl (.n b rfl) Zu rfl (dM rfl (.n b rfl) rfl ?_)))
  obtain ⟨aa, ag, h⟩ := bind_some h
  refine dX g.R (cI .i64) rfl (.n b rfl) Zu i3 ag rfl (dR rfl (.n b rfl) ul3 rfl ?_)
  obtain ⟨s, ai, h⟩ := bind_some h
  refine dH fu118 (Zl.nil (Tj K (flx0 := false) ai)) rfl (.n b rfl) rfl (dT rfl (.n b rfl) rfl (dY rfl (.n q rfl) b rfl (dZ rfl (.f rfl) q rfl (dF [0,1,3,7,15,31,63,127,255,511,1023,2047,1023,5119,13311,1023,33791,127999,259071,521215,1023,2094079,4191231,8388607,16777215,33554431,67108863] Qz rfl (by kernel_rfl) (fun u hu => (tN (Qk hu ?_)))))))
  rcases Qe h with ⟨ac, h⟩ | ⟨ac, h⟩
  refine Qp rfl ac ?_
  refine Qk ?_ (Gy K h)
  exact tq rfl rfl
  refine Qo rfl ac (T.skip (Qn (tN (Qq (oI rfl (mw rfl (nL (tN ?_))))))))
  refine Qg ?_ (ih x2 w (wI (p + (1:Int))) x0 x1 j l m h)
  exact tq rfl rfl
  refine dO b rfl rfl (dO b rfl rfl (dO b rfl rfl (dO b rfl rfl (dO b rfl rfl (dO b rfl rfl (dO b rfl rfl ?_))))))
  refine dO b rfl rfl (dO b rfl rfl (dO b rfl rfl (dO b rfl rfl (dO b rfl rfl (dO b rfl rfl (dO b rfl rfl ?_))))))
  refine dO b rfl rfl (dZ rfl (.n q rfl) b rfl (dZ rfl (.f rfl) q rfl (dF [0,1,3,7,15,31,63,127,255,511,1023,2047,1023,5119,13311,1023,33791,127999,259071,521215,1023,2094079,4191231,8388607,16777215,33554431,67108863] Qz rfl (by kernel_rfl) (fun u hu => (tN (Qk hu (Qo rfl rfl (T.skip (Qn (tN (Qq ?_)))))))))))
  refine oI rfl (mw rfl (nL (tN ?_)))
  refine Qg ?_ (ih x2 w (wI (p + (1:Int))) x0 x1 j l m h)
  exact tq rfl rfl
  refine Qo rfl ab (T.exit (Ql (Ql (Qr (tN (sR (Qq (aw rfl (nL (tN (T.ret (fd rfl (by cases h; exact ⟨rfl, rfl⟩)))))))))))))
theorem Qcg (K : Nat) {x0 : Q7} {x1 : Qa} {x2 : Qc} {r : Bool} (h : Hg K x0 x1 x2 = some r) : Zl tp 93 [.agg ((Zg.dc 256 .u8 x0.Auto.Split.Of) ++ (([.int .i64 x0.Auto.Split.Many, .sl false 2 (mA x0.Auto.Counts), .sl false 4 (x0.Auto.States.map Qd)] : List DC))), .agg [.sl false 1 (mI x1.L), .sl false 1 (mI x1.R), .sl false 1 (mI x1.Rule), .sl false 1 (x1.Next.map (cL 2 Qi))], .agg [.int .i64 x2.To, .sl false 1 (mU x2.Ops)]] [] (.bool r) := by
 refine CI 79 fu93 rfl ?_
 unfold Hg at h
 refine sR (Qq (sp rfl (Zc rfl (dk rfl) rfl (fun j => (sp rfl (Zc rfl (dk rfl) rfl (fun m => (sp rfl (Zc rfl (dk rfl) rfl (fun g => (aw rfl (nL (tN (T.seq ?_))))))))))))))
 refine sR (Qq (oP Bi i3 rfl (oL 0 ul3 rfl (oI rfl (nL (tN ?_))))))
 rcases Qe h with ⟨p, h⟩ | ⟨p, h⟩
 refine Qp rfl p (sR (Qq (oP Bi i52 rfl (oL 0 B6 rfl (oU x2.Ops (cI .u8) B6 rfl (oI rfl (aw rfl ?_)))))))
 refine nL (tN (T.ret (Qv (fd rfl (by cases h; exact ⟨rfl, rfl⟩)))))
 refine Qo rfl p (T.skip (tN (T.seq (T.seq (Yg (dP rfl (.f rfl) Bi i3 rfl (dL 0 rfl (.f rfl) ul3 rfl ?_)))))))
 refine dI rfl (.f rfl) rfl (dV rfl rfl ?_)
 rcases Qe h with ⟨l, h⟩ | ⟨l, h⟩
 refine dO l rfl rfl (dO l rfl rfl (dO l rfl rfl (dO l rfl rfl (dO l rfl rfl (dO l rfl rfl (dO l rfl rfl ?_))))))
 refine dY rfl (.f rfl) l rfl (dV rfl rfl (dO rfl rfl rfl (dO rfl rfl rfl (dO rfl rfl rfl (dO rfl rfl rfl (dO rfl rfl rfl ?_))))))
 refine dO rfl rfl rfl (dO rfl rfl rfl (dO rfl rfl rfl (dO rfl rfl rfl (dO rfl rfl rfl (dO rfl rfl rfl (dO rfl rfl rfl ?_))))))
 refine dO rfl rfl rfl (dY rfl (.f rfl) rfl rfl (dF [0,1,3,7,15,31,15,79,207,463,1023,2047,4095,8191,16383,32767,8191,73727,204799,8191,532479,2039807,4136959,8331263,16719871,33554431,67108863] Qz rfl (by kernel_rfl) (fun u hu => (tN (Qk hu (Qp rfl rfl ?_))))))
 refine Qk ?_ (Gz K h)
 exact tq rfl rfl
 refine dP rfl (.n l rfl) Bi i3 rfl (dL 0 rfl (.n l rfl) ul3 rfl (dP rfl (.n l rfl) ul107 i28 rfl (dP rfl (.n l rfl) Jl i26 rfl (dL 2 rfl (.n l rfl) Uh rfl (dN x0.Auto.States Qd rfl (.n l rfl) Uh rfl (dI rfl (.n l rfl) rfl ?_))))))
 refine dZ rfl (.f rfl) l rfl (dV rfl rfl ?_)
 rcases Qe h with ⟨a, h⟩ | ⟨a, h⟩
 refine dO a rfl rfl (dO a rfl rfl (dO a rfl rfl (dO a rfl rfl (dO a rfl rfl (dO a rfl rfl (dO a rfl rfl ?_))))))
 refine dO a rfl rfl (dO a rfl rfl (dO a rfl rfl (dO a rfl rfl (dO a rfl rfl (dO a rfl rfl (dY rfl (.f rfl) a rfl ?_))))))
 refine dF [0,1,3,7,15,31,15,79,207,463,1023,2047,4095,8191,16383,32767,8191,73727,204799,8191,532479,2039807,4136959,8331263,16719871,33554431,67108863] Qz rfl (by kernel_rfl) (fun u hu => (tN (Qk hu (Qp rfl rfl ?_))))
 refine Qk ?_ (Gz K h)
 exact tq rfl rfl
 refine dP rfl (.n a rfl) Bi i52 rfl (dL 0 rfl (.n a rfl) B6 rfl (dN x2.Ops (cI .u8) rfl (.n a rfl) B6 rfl (dP rfl (.n a rfl) ul107 i28 rfl (dP rfl (.n a rfl) Jl i26 rfl (dL 2 rfl (.n a rfl) Uh rfl (dP rfl (.n a rfl) Bi i3 rfl ?_))))))
 refine dL 0 rfl (.n a rfl) ul3 rfl ?_
 obtain ⟨b, w, h⟩ := bind_some h
 refine dX x0.Auto.States Qd rfl (.n a rfl) Uh i51 w rfl (dQ rfl (.n a rfl) Ju i38 rfl (dR rfl (.n a rfl) Zu rfl (dN b.R (cI .i64) rfl (.n a rfl) Zu rfl (dI rfl (.n a rfl) rfl (dZ rfl (.f rfl) a rfl (dF [0,1,3,7,15,31,15,79,207,463,1023,2047,4095,8191,16383,32767,8191,73727,204799,8191,532479,2039807,4136959,8331263,16719871,33554431,67108863] Qz rfl (by kernel_rfl) (fun u hu => (tN (Qk hu ?_)))))))))
 rcases Qe h with ⟨q, h⟩ | ⟨q, h⟩
 refine Qp rfl q ?_
 refine Qk ?_ (Gz K h)
 exact tq rfl rfl
 refine Qo rfl q (T.skip (tN (T.seq (sR (Qq (oP Bi i52 rfl (oL 0 B6 rfl (oU x2.Ops (cI .u8) B6 rfl ?_))))))))
 refine mw rfl (nL (tN (T.block (T.loop ?_))))
 refine Qg ?_ (S7 K K x2 (x2.Ops.length : Int) (0:Int) x0 x1 j m g h)
 exact tr rfl (.c (.s (.s .z)) (.c (.s .z) (.c .z (.n _))))
abbrev auto_checker_state_1_q (bx1 bx2 : Nat) (x1 : Q7) (x2 : Qa) (r : Bool) : ES := U6 tp ff92 (fun y t => ∃ γ : Nat → Value, y = (.bool r) ∧ t = [(Jt bx1 x1.Auto.Split.Of x1.Auto.Split.Many x1.Auto.Counts x1.Auto.States), (K3 bx2 x2.L x2.R x2.Rule x2.Next)])
theorem S6 (K : Nat) {x0 : Qc} {x1 : Q7} {x2 : Qa} {bx1 bx2 : Nat} {r : Bool} (h : Wp K x0 x1 x2 = some r) : V6 tp 92 [.agg [.int .i64 x0.To, .sl false 1 (mU x0.Ops)], .ptr bx1 0, .ptr bx2 0] [(Jt bx1 x1.Auto.Split.Of x1.Auto.Split.Many x1.Auto.Counts x1.Auto.States), (K3 bx2 x2.L x2.R x2.Rule x2.Next)] (fun γ => (.bool r)) (fun γ => [(Jt bx1 x1.Auto.Split.Of x1.Auto.Split.Many x1.Auto.Counts x1.Auto.States), (K3 bx2 x2.L x2.R x2.Rule x2.Next)]) := by
 refine CI 10 fu92 rfl ?_
 unfold Wp at h
 refine sR (Qq (sp rfl (Zc rfl (dk rfl) rfl (fun b => (aw rfl (nL (tN (sR (Qq (oA 1 ((Zg.dc 256 .u8 x1.Auto.Split.Of) ++ (([.int .i64 x1.Auto.Split.Many, .sl false 2 (mA x1.Auto.Counts), .sl false 4 (x1.Auto.States.map Qd)] : List DC))) ul107 i107 rfl (oA 2 [.sl false 1 (mI x2.L), .sl false 1 (mI x2.R), .sl false 1 (mI x2.Rule), .sl false 1 (x2.Next.map (cL 2 Qi))] Ju i51 rfl (oA 0 [.int .i64 x0.To, .sl false 1 (mU x0.Ops)] Bi i54 rfl ?_))))))))))))
 obtain ⟨c, a, h⟩ := bind_some h
 refine oH fu93 (Zl.nil (Qcg K a)) rfl (oT rfl (aw rfl (nL (tN (T.ret (Q2 (.cons _ _ _ _ (.tmp 4 _ rfl) .nil) (.cons 1 rfl (.cons 1 rfl (.nil _))) (by cases h; exact ⟨gl [], rfl, rfl⟩)))))))
abbrev Pu (bx1c0 bx1c1 : Nat) (x1c0 : Q7) (x1c1 : Qa) (r : Int) : ES := U6 tp ff117 (fun y t => ∃ γ : Nat → Value, y = (.int .i64 r) ∧ t = [(Jt bx1c0 x1c0.Auto.Split.Of x1c0.Auto.Split.Many x1c0.Auto.Counts x1c0.Auto.States), (K3 bx1c1 x1c1.L x1c1.R x1c1.Rule x1c1.Next)])
abbrev Ii (bx1c0 bx1c1 : Nat) (x1c0 : Q7) (x1c1 : Qa) (r : Int) : ES := fT 19 [1,1] ff117 (Pu bx1c0 bx1c1 x1c0 x1c1 r)
abbrev Ed (bx1c0 bx1c1 : Nat) (x1c0 : Q7) (x1c1 : Qa) (r : Int) : ES := Qx 0 ((Ii bx1c0 bx1c1 x1c0 x1c1 r))
theorem Ij {r : Int} (K bx1c0 bx1c1 : Nat) (x1c0 : Q7) (x1c1 : Qa) : ∀ (k : Nat), ∀ (x0 : List Qc) (a b : Int) (x1c0 : Q7) (x1c1 : Qa) (flx0 : Bool), Yn K k x0 a b x1c0 x1c1 = some r → TL tp 19 (ca [1,0,1,0,0] ff117) ⟨[(0, .sl flx0 2 (x0.map Qi)), (1, .c (.ex (.func (.func 92) #[] #[.pointer (some ⟨bx1c0, 0, none⟩), .pointer (some ⟨bx1c1, 0, none⟩)]))), (7, .int .i64 a), (8, .int .i64 b)], [(Jt bx1c0 x1c0.Auto.Split.Of x1c0.Auto.Split.Many x1c0.Auto.Counts x1c0.Auto.States), (K3 bx1c1 x1c1.L x1c1.R x1c1.Rule x1c1.Next)]⟩ (Ed bx1c0 bx1c1 x1c0 x1c1 r) := by
 intro k
 induction k with
 | zero =>
  intro x0 a b x1c0 x1c1 flx0 h
  exact zn h
 | succ k ih =>
  intro x0 a b x1c0 x1c1 flx0 h
  rw [Yn] at h
  refine Q3 (sR (Qq (oI rfl (nL (tN (T.seq ?_))))))
  rcases Qe h with ⟨g, h⟩ | ⟨g, h⟩
  refine Qp rfl g (T.skip (tN (T.seq (T.block (sR (Qq (mw rfl (aw rfl ?_))))))))
  refine nL (tN (sR (Qq ?_)))
  iterate 3 refine mw rfl ?_
  obtain ⟨j, l, h⟩ := bind_some h
  refine oX x0 Qi E2 i54 l rfl (oJ Bi i54 rfl ?_)
  obtain ⟨p, m, h⟩ := bind_some h
  refine sp rfl (Nd (f := 92) (vs := [.pointer (some ⟨bx1c0, 0, none⟩), .pointer (some ⟨bx1c1, 0, none⟩)]) rfl rfl (dk rfl) fu92 rfl rfl (Q4 (is := [0, 1]) (ph := []) rfl (dk rfl) fu92 rfl rfl (Zk.cons rfl (Zk.cons rfl (Zk.cons rfl Zk.nil))) (S6 K (bx1 := bx1c0) (bx2 := bx1c1) m) (.cons rfl rfl (.cons rfl rfl (.nil))) (fun _ => rfl) (fun q => (nm (.c (.c (.n))) (nL (tN ?_))))))
  rcases Qe h with ⟨i, h⟩ | ⟨i, h⟩
  refine Qp rfl i (sR (Qq (mw rfl (aw rfl (nL (tN (T.ret (Q1 (Qv (Qv (Q1 (Qv (Q2 (.cons _ _ _ _ (.tmp 4 _ rfl) .nil) (.cons 0 rfl (.cons 0 rfl (.nil _))) (by cases h; exact ⟨gl [], rfl, rfl⟩))))))))))))))
  refine Qo rfl i (T.skip (Qn (tN (Qq (oI rfl (mw rfl (nL (tN ?_))))))))
  refine Qg ?_ (ih x0 a (wI (b + (1:Int))) x1c0 x1c1 flx0 h)
  exact tq rfl rfl
  refine Qo rfl g (T.exit (Ql (Ql (Qr (tN (sR (Qq (aw rfl (nL (tN (T.ret (Q2 (.cons _ _ _ _ (.tmp 4 _ rfl) .nil) (.cons 0 rfl (.cons 0 rfl (.nil _))) (by cases h; exact ⟨gl [], rfl, rfl⟩)))))))))))))
theorem Pv (K : Nat) {x0 : List Qc} {x1c0 : Q7} {x1c1 : Qa} {flx0 : Bool} {bx1c0 bx1c1 : Nat} {r : Int} (h : Jx K x0 x1c0 x1c1 = some r) : V6 tp 117 [.sl flx0 2 (x0.map Qi), .c (.ex (.func (.func 92) #[] #[.pointer (some ⟨bx1c0, 0, none⟩), .pointer (some ⟨bx1c1, 0, none⟩)]))] [(Jt bx1c0 x1c0.Auto.Split.Of x1c0.Auto.Split.Many x1c0.Auto.Counts x1c0.Auto.States), (K3 bx1c1 x1c1.L x1c1.R x1c1.Rule x1c1.Next)] (fun γ => (.int .i64 r)) (fun γ => [(Jt bx1c0 x1c0.Auto.Split.Of x1c0.Auto.Split.Many x1c0.Auto.Counts x1c0.Auto.States), (K3 bx1c1 x1c1.L x1c1.R x1c1.Rule x1c1.Next)]) := by
 refine CI 19 fu117 rfl ?_
 unfold Jx at h
 refine sR (Qq (aw rfl (nL (tN (T.seq (sR (Qq (mw rfl (oU x0 Qi E2 rfl ?_)))))))))
 refine mw rfl (nL (tN (T.block (T.loop ?_))))
 refine Qg ?_ (Ij K bx1c0 bx1c1 x1c0 x1c1 K x0 (x0.length : Int) (0:Int) x1c0 x1c1 flx0 h)
 exact tq rfl rfl
abbrev slices_ContainsFunc_Move_q (bx1c0 bx1c1 : Nat) (x1c0 : Q7) (x1c1 : Qa) (r : Bool) : ES := U6 tp ff91 (fun y t => ∃ γ : Nat → Value, y = (.bool r) ∧ t = [(Jt bx1c0 x1c0.Auto.Split.Of x1c0.Auto.Split.Many x1c0.Auto.Counts x1c0.Auto.States), (K3 bx1c1 x1c1.L x1c1.R x1c1.Rule x1c1.Next)])
theorem Ik (K : Nat) {x0 : List Qc} {x1c0 : Q7} {x1c1 : Qa} {flx0 : Bool} {bx1c0 bx1c1 : Nat} {r : Bool} (h : Vd K x0 x1c0 x1c1 = some r) : V6 tp 91 [.sl flx0 2 (x0.map Qi), .c (.ex (.func (.func 92) #[] #[.pointer (some ⟨bx1c0, 0, none⟩), .pointer (some ⟨bx1c1, 0, none⟩)]))] [(Jt bx1c0 x1c0.Auto.Split.Of x1c0.Auto.Split.Many x1c0.Auto.Counts x1c0.Auto.States), (K3 bx1c1 x1c1.L x1c1.R x1c1.Rule x1c1.Next)] (fun γ => (.bool r)) (fun γ => [(Jt bx1c0 x1c0.Auto.Split.Of x1c0.Auto.Split.Many x1c0.Auto.Counts x1c0.Auto.States), (K3 bx1c1 x1c1.L x1c1.R x1c1.Rule x1c1.Next)]) := by
 refine CI 9 fu91 rfl ?_
 unfold Vd at h
 refine sR (Qq (aw rfl (nL (tN (sR (Qq (mw rfl (mw rfl ?_))))))))
 obtain ⟨b, a, h⟩ := bind_some h
 refine sp rfl (Q4 (is := [0, 1]) (ph := []) rfl (dk rfl) fu117 rfl rfl (Zk.cons rfl (Zk.cons rfl Zk.nil)) (Pv K (flx0 := flx0) (bx1c0 := bx1c0) (bx1c1 := bx1c1) a) (.cons rfl rfl (.cons rfl rfl (.nil))) (fun _ => rfl) (fun f => (nm (.c (.c (.n))) (oI rfl (aw rfl (nL (tN (T.ret (Q2 (.cons _ _ _ _ (.tmp 4 _ rfl) .nil) (.cons 0 rfl (.cons 0 rfl (.nil _))) (by cases h; exact ⟨gl [], rfl, rfl⟩))))))))))
abbrev Eb (r : Bool) : ES := U6 tp ff55 (fun y t => y = (.bool r) ∧ t = [])
abbrev Pe (r : Bool) : ES := fT 79 [1,1,1] ff55 (Eb r)
abbrev Oe (r : Bool) : ES := fT 79 [1,1,1,1] ff55 (Eb r)
abbrev Lk (r : Bool) : ES := Qx 0 ((Oe r))
abbrev F8 (r : Bool) : ES := fL 79 [1,1,1,0,1,0,0] ff55 (Lk r)
abbrev Cr (r : Bool) : ES := fT 79 [1,1,1,0,1,0,0,1,1,1] ff55 (F8 r)
abbrev Mj (r : Bool) : ES := Qx 1 ((Cr r))
abbrev M1 (r : Bool) : ES := fT 79 [1,1,1,0,1,0,0,1,1,0,0,1,1] ff55 (Mj r)
theorem Vo {r : Bool} (K : Nat) (h : Zx K = some r) : T tp 79 (ca [1,1,0,1,0] ff55) ⟨[], []⟩ (Pe r) := by
 unfold Zx at h
 refine sR (Qq (aw rfl (nL (tN (T.ret (Qv (fd rfl (by cases h; exact ⟨rfl, rfl⟩))))))))
theorem H7 {r : Bool} (K : Nat) (h : Yt K = some r) : T tp 79 (ca [1,1,1,0,1,0,0,1,1,0,0,1,0,1,0] ff55) ⟨[], []⟩ (M1 r) := by
 unfold Yt at h
 refine sR (Qq (aw rfl (nL (tN (T.ret (Qv (Q1 (Qv (Qv (Q1 (Qv (fd rfl (by cases h; exact ⟨rfl, rfl⟩)))))))))))))
theorem Rc {r : Bool} (K : Nat) : ∀ (k : Nat), ∀ (x1 : Qa) (l m : Int) (x0 : Q7) (g j : Nat), Xg K k x1 l m x0 = some r → TL tp 79 (ca [1,1,1,0,1,0,0] ff55) ⟨[(2, .ptr g 0), (3, .ptr j 0), (45, .sl false 1 (x1.Next.map (cL 2 Qi))), (46, .int .i64 l), (47, .int .i64 m)], [(Jt g x0.Auto.Split.Of x0.Auto.Split.Many x0.Auto.Counts x0.Auto.States), (K3 j x1.L x1.R x1.Rule x1.Next)]⟩ (Lk r) := by
 intro k
 induction k with
 | zero =>
  intro x1 l m x0 g j h
  exact zn h
 | succ k ih =>
  intro x1 l m x0 g j h
  rw [Xg] at h
  refine Q3 (sR (Qq (oI rfl (nL (tN (T.seq ?_))))))
  rcases Qe h with ⟨p, h⟩ | ⟨p, h⟩
  refine Qp rfl p (T.skip (tN (T.seq (T.block (sR (Qq (mw rfl ?_)))))))
  obtain ⟨u, aa, h⟩ := bind_some h
  refine oX x1.Next (cL 2 Qi) If i55 aa rfl (oR E2 rfl (aw rfl (aw rfl (nL (tN (T.seq (sR (Qq ?_))))))))
  refine oP Ju i38 rfl (oL 1 Zu rfl (mw rfl ?_))
  obtain ⟨w, y, h⟩ := bind_some h
  refine oX x1.Rule (cI .i64) Zu i3 y rfl (oR ul3 rfl (oI rfl (mw rfl ?_)))
  rcases Qe h with ⟨b, h⟩ | ⟨b, h⟩
  refine pf rfl b (pf rfl b (pf rfl b (pf rfl b (pf rfl b (pf rfl b (oY b rfl ?_))))))
  refine mw rfl (pf rfl rfl (pf rfl rfl (pf rfl rfl (pf rfl rfl (pf rfl rfl (pf rfl rfl ?_))))))
  refine pf rfl rfl (oY rfl rfl (nL (tN (Qp rfl rfl ?_))))
  refine Qk ?_ (H7 K h)
  exact tq rfl rfl
  refine sn rfl b (Xi rfl (dk rfl) Ju rfl i38 (by decide) rfl (sn rfl b (Zw (i := 1) rfl (dk rfl) Zu rfl rfl rfl rfl (sn rfl b (OpT.move rfl (dk rfl) rfl (sn rfl b (J5 (xs := x1.Rule) (f := (cI .i64)) (v := w) rfl (dk rfl) Zu i3 rfl rfl y (sn rfl b (H9 rfl (dk rfl) ul3 rfl rfl rfl (sn rfl b (Zi rfl rfl (dk rfl) rfl rfl (oZ b rfl ?_))))))))))))
  refine mw rfl ?_
  rcases Qe h with ⟨a, h⟩ | ⟨a, h⟩
  refine pf rfl a (pf rfl a (pf rfl a (pf rfl a (pf rfl a (pf rfl a (pf rfl a ?_))))))
  refine oY a rfl (nL (tN (Qp rfl rfl ?_)))
  refine Qk ?_ (H7 K h)
  exact tq rfl rfl
  refine sn rfl a (OpT.move rfl (dk rfl) rfl (sn rfl a (Z9 (xs := u) (f := Qi) rfl (dk rfl) E2 rfl (sn rfl a (Xi rfl (dk rfl) ul107 rfl i28 (by decide) rfl (sn rfl a (Xi rfl (dk rfl) Jl rfl i24 (by decide) rfl (sn rfl a (Xi rfl (dk rfl) ul24 rfl i3 (by decide) rfl (sn rfl a (Zw (i := 0) rfl (dk rfl) ul3 rfl rfl rfl rfl (sn rfl a (Zi rfl rfl (dk rfl) rfl rfl ?_)))))))))))))
  refine oZ a rfl (nL (tN ?_))
  rcases Qe h with ⟨q, h⟩ | ⟨q, h⟩
  refine Qp rfl q ?_
  refine Qk ?_ (H7 K h)
  exact tq rfl rfl
  refine Qo rfl q (T.skip (tN (sR (Qq (mw rfl (sp rfl (OpT.makeFunc (vs := [.pointer (some ⟨g, 0, none⟩), .pointer (some ⟨j, 0, none⟩)]) rfl (dk rfl) rfl ?_)))))))
  obtain ⟨ac, ab, h⟩ := bind_some h
  refine sp rfl (Q4 (is := [0, 1]) (ph := []) rfl (dk rfl) fu91 rfl rfl (Zk.cons rfl (Zk.cons rfl Zk.nil)) (Ik K (flx0 := false) (bx1c0 := g) (bx1c1 := j) ab) (.cons rfl rfl (.cons rfl rfl (.nil))) (fun _ => rfl) (fun ad => (nm (.c (.c (.n))) (nL (tN ?_)))))
  rcases Qe h with ⟨s, h⟩ | ⟨s, h⟩
  refine Qp rfl s (sR (Qq (aw rfl (nL (tN (T.ret (Q1 (Qv (Qv (Q1 (Qv (fd rfl (by cases h; exact ⟨rfl, rfl⟩)))))))))))))
  refine Qo rfl s (T.skip (Qn (tN (Qq (oI rfl (mw rfl (nL (tN ?_))))))))
  refine Qg ?_ (ih x1 l (wI (m + (1:Int))) x0 g j h)
  exact tq rfl rfl
  refine Qo rfl p (T.exit (Ql (Ql (Qr (tN (sR (Qq (aw rfl (nL (tN (T.ret (fd rfl (by cases h; exact ⟨rfl, rfl⟩)))))))))))))
theorem Qaq (K : Nat) {x0 : Q7} {x1 : Qa} {r : Bool} (h : J2 K x0 x1 = some r) : Zl tp 55 [.agg ((Zg.dc 256 .u8 x0.Auto.Split.Of) ++ (([.int .i64 x0.Auto.Split.Many, .sl false 2 (mA x0.Auto.Counts), .sl false 4 (x0.Auto.States.map Qd)] : List DC))), .agg [.sl false 1 (mI x1.L), .sl false 1 (mI x1.R), .sl false 1 (mI x1.Rule), .sl false 1 (x1.Next.map (cL 2 Qi))]] [] (.bool r) := by
 refine CI 79 fu55 rfl ?_
 unfold J2 at h
 refine sR (Qq (sp rfl (Zc rfl (dk rfl) rfl (fun l => (sp rfl (Zc rfl (dk rfl) rfl (fun m => (aw rfl (nL (tN (sR (Qq (oP Ju i38 rfl (oL 0 Zu rfl ?_))))))))))))))
 refine oU x1.R (cI .i64) Zu rfl ?_
 obtain ⟨v, p, h⟩ := bind_some h
 refine oH fu89 (Zl.nil (auto_Codes_T K p)) rfl (aw rfl (nL (tN (T.seq (sR (Qq (mw rfl (oI rfl ?_))))))))
 refine mw rfl ?_
 rcases Qe h with ⟨b, h⟩ | ⟨b, h⟩
 refine pf rfl b (pf rfl b (pf rfl b (pf rfl b (pf rfl b (oY b rfl (mw rfl ?_))))))
 refine pf rfl rfl (pf rfl rfl (pf rfl rfl (pf rfl rfl (pf rfl rfl (oY rfl rfl (mw rfl ?_))))))
 refine pf rfl rfl (pf rfl rfl (pf rfl rfl (pf rfl rfl (oY rfl rfl (mw rfl (pf rfl rfl ?_))))))
 refine pf rfl rfl (pf rfl rfl (pf rfl rfl (pf rfl rfl (pf rfl rfl (pf rfl rfl (pf rfl rfl ?_))))))
 refine oY rfl rfl (nL (tN (Qp rfl rfl ?_)))
 refine Qk ?_ (Vo K h)
 exact tq rfl rfl
 refine sn rfl b (Xi rfl (dk rfl) Ju rfl i38 (by decide) rfl (sn rfl b (Zw (i := 0) rfl (dk rfl) Zu rfl rfl rfl rfl (sn rfl b (Z9 (xs := x1.Rule) (f := (cI .i64)) rfl (dk rfl) Zu rfl (sn rfl b (OpT.move rfl (dk rfl) rfl (sn rfl b (Zi rfl rfl (dk rfl) rfl rfl (oZ b rfl (mw rfl ?_)))))))))))
 rcases Qe h with ⟨d, h⟩ | ⟨d, h⟩
 refine pf rfl d (pf rfl d (pf rfl d (pf rfl d (pf rfl d (oY d rfl (mw rfl ?_))))))
 refine pf rfl rfl (pf rfl rfl (pf rfl rfl (pf rfl rfl (oY rfl rfl (mw rfl (pf rfl rfl ?_))))))
 refine pf rfl rfl (pf rfl rfl (pf rfl rfl (pf rfl rfl (pf rfl rfl (pf rfl rfl (pf rfl rfl ?_))))))
 refine oY rfl rfl (nL (tN (Qp rfl rfl ?_)))
 refine Qk ?_ (Vo K h)
 exact tq rfl rfl
 refine sn rfl d (Xi rfl (dk rfl) Ju rfl i49 (by decide) rfl (sn rfl d (Zw (i := 0) rfl (dk rfl) If rfl rfl rfl rfl (sn rfl d (Z9 (xs := x1.Next) (f := (cL 2 Qi)) rfl (dk rfl) If rfl (sn rfl d (OpT.move rfl (dk rfl) rfl (sn rfl d (Zi rfl rfl (dk rfl) rfl rfl (oZ d rfl (mw rfl ?_)))))))))))
 rcases Qe h with ⟨g, h⟩ | ⟨g, h⟩
 refine pf rfl g (pf rfl g (pf rfl g (pf rfl g (oY g rfl (mw rfl (pf rfl rfl ?_))))))
 refine pf rfl rfl (pf rfl rfl (pf rfl rfl (pf rfl rfl (pf rfl rfl (pf rfl rfl (pf rfl rfl ?_))))))
 refine oY rfl rfl (nL (tN (Qp rfl rfl ?_)))
 refine Qk ?_ (Vo K h)
 exact tq rfl rfl
 refine sn rfl g (Xi rfl (dk rfl) Ju rfl i38 (by decide) rfl (sn rfl g (Zw (i := 0) rfl (dk rfl) Zu rfl rfl rfl rfl ?_)))
 obtain ⟨w, q, h⟩ := bind_some h
 refine sn rfl g (Ub rfl (dk rfl) fu90 rfl rfl (Zk.cons rfl (Zk.cons rfl Zk.nil)) (Zl.nil (Qeo K (flx0 := false) q)) (sn rfl g (OpT.not rfl (dk rfl) rfl (oZ g rfl (mw rfl ?_)))))
 rcases Qe h with ⟨a, h⟩ | ⟨a, h⟩
 refine pf rfl a (pf rfl a (pf rfl a (pf rfl a (pf rfl a (pf rfl a (pf rfl a ?_))))))
 refine pf rfl a (oY a rfl (nL (tN (Qp rfl rfl ?_))))
 refine Qk ?_ (Vo K h)
 exact tq rfl rfl
 refine sn rfl a (Xi rfl (dk rfl) Ju rfl i38 (by decide) rfl (sn rfl a (Zw (i := 0) rfl (dk rfl) Zu rfl rfl rfl rfl (sn rfl a (Xi rfl (dk rfl) ul107 rfl i28 (by decide) rfl (sn rfl a (Xi rfl (dk rfl) Jl rfl i25 (by decide) rfl (sn rfl a (Zw (i := 1) rfl (dk rfl) Qcp rfl rfl rfl rfl (sn rfl a (Z9 (xs := x0.Auto.Counts) (f := (Zs.dc .i64)) rfl (dk rfl) Qcp rfl ?_)))))))))))
 obtain ⟨y, u, h⟩ := bind_some h
 refine sn rfl a (Ub rfl (dk rfl) fu90 rfl rfl (Zk.cons rfl (Zk.cons rfl Zk.nil)) (Zl.nil (Qeo K (flx0 := false) u)) (sn rfl a (OpT.not rfl (dk rfl) rfl (oZ a rfl (nL (tN ?_))))))
 rcases Qe h with ⟨j, h⟩ | ⟨j, h⟩
 refine Qp rfl j ?_
 refine Qk ?_ (Vo K h)
 exact tq rfl rfl
 refine Qo rfl j (T.skip (tN (T.seq (sR (Qq (oP Ju i49 rfl (oL 0 If rfl (oU x1.Next (cL 2 Qi) If rfl ?_))))))))
 refine mw rfl (nL (tN (T.block (T.loop ?_))))
 refine Qg ?_ (Rc K K x1 (x1.Next.length : Int) (0:Int) x0 l m h)
 exact tr rfl (.c (.s .z) (.c .z (.n _)))
abbrev auto_Right_1_q (bx1 : Nat) (x1 : Q7) (r : Bool) : ES := U6 tp ff54 (fun y t => ∃ γ : Nat → Value, y = (.bool r) ∧ t = [(Jt bx1 x1.Auto.Split.Of x1.Auto.Split.Many x1.Auto.Counts x1.Auto.States)])
theorem auto_Right_1_T (K : Nat) {x0 : Qa} {x1 : Q7} {bx1 : Nat} {r : Bool} (h : Nc K x0 x1 = some r) : V6 tp 54 [.agg [.sl false 1 (mI x0.L), .sl false 1 (mI x0.R), .sl false 1 (mI x0.Rule), .sl false 1 (x0.Next.map (cL 2 Qi))], .ptr bx1 0] [(Jt bx1 x1.Auto.Split.Of x1.Auto.Split.Many x1.Auto.Counts x1.Auto.States)] (fun γ => (.bool r)) (fun γ => [(Jt bx1 x1.Auto.Split.Of x1.Auto.Split.Many x1.Auto.Counts x1.Auto.States)]) := by
 refine CI 8 fu54 rfl ?_
 unfold Nc at h
 refine sR (Qq (sp rfl (Zc rfl (dk rfl) rfl (fun b => (aw rfl (nL (tN (sR (Qq (oA 1 ((Zg.dc 256 .u8 x1.Auto.Split.Of) ++ (([.int .i64 x1.Auto.Split.Many, .sl false 2 (mA x1.Auto.Counts), .sl false 4 (x1.Auto.States.map Qd)] : List DC))) ul107 i107 rfl (oA 0 [.sl false 1 (mI x0.L), .sl false 1 (mI x0.R), .sl false 1 (mI x0.Rule), .sl false 1 (x0.Next.map (cL 2 Qi))] Ju i51 rfl ?_)))))))))))
 obtain ⟨c, a, h⟩ := bind_some h
 refine oH fu55 (Zl.nil (Qaq K a)) rfl (oT rfl (aw rfl (nL (tN (T.ret (Q2 (.cons _ _ _ _ (.tmp 3 _ rfl) .nil) (.cons 1 rfl (.nil _)) (by cases h; exact ⟨gl [], rfl, rfl⟩)))))))
abbrev Oq (bx1c0 : Nat) (x1c0 : Q7) (r : Int) : ES := U6 tp ff88 (fun y t => ∃ γ : Nat → Value, y = (.int .i64 r) ∧ t = [(Jt bx1c0 x1c0.Auto.Split.Of x1c0.Auto.Split.Many x1c0.Auto.Counts x1c0.Auto.States)])
abbrev Fc (bx1c0 : Nat) (x1c0 : Q7) (r : Int) : ES := fT 19 [1,1] ff88 (Oq bx1c0 x1c0 r)
abbrev Di (bx1c0 : Nat) (x1c0 : Q7) (r : Int) : ES := Qx 0 ((Fc bx1c0 x1c0 r))
theorem Fe {r : Int} (K bx1c0 : Nat) (x1c0 : Q7) : ∀ (k : Nat), ∀ (x0 : List Qa) (a b : Int) (x1c0 : Q7) (flx0 : Bool), Yh K k x0 a b x1c0 = some r → TL tp 19 (ca [1,0,1,0,0] ff88) ⟨[(0, .sl flx0 4 (x0.map Qd)), (1, .c (.ex (.func (.func 54) #[] #[.pointer (some ⟨bx1c0, 0, none⟩)]))), (7, .int .i64 a), (8, .int .i64 b)], [(Jt bx1c0 x1c0.Auto.Split.Of x1c0.Auto.Split.Many x1c0.Auto.Counts x1c0.Auto.States)]⟩ (Di bx1c0 x1c0 r) := by
 intro k
 induction k with
 | zero =>
  intro x0 a b x1c0 flx0 h
  exact zn h
 | succ k ih =>
  intro x0 a b x1c0 flx0 h
  rw [Yh] at h
  refine Q3 (sR (Qq (oI rfl (nL (tN (T.seq ?_))))))
  rcases Qe h with ⟨g, h⟩ | ⟨g, h⟩
  refine Qp rfl g (T.skip (tN (T.seq (T.block (sR (Qq (mw rfl (aw rfl ?_))))))))
  refine nL (tN (sR (Qq ?_)))
  iterate 3 refine mw rfl ?_
  obtain ⟨j, l, h⟩ := bind_some h
  refine oX x0 Qd Uh i51 l rfl (oJ Ju i51 rfl ?_)
  obtain ⟨p, m, h⟩ := bind_some h
  refine sp rfl (Nd (f := 54) (vs := [.pointer (some ⟨bx1c0, 0, none⟩)]) rfl rfl (dk rfl) fu54 rfl rfl (Q4 (is := [0]) (ph := []) rfl (dk rfl) fu54 rfl rfl (Zk.cons rfl (Zk.cons rfl Zk.nil)) (auto_Right_1_T K (bx1 := bx1c0) m) (.cons rfl rfl (.nil)) (fun _ => rfl) (fun q => (nm (.c (.n)) (nL (tN ?_))))))
  rcases Qe h with ⟨i, h⟩ | ⟨i, h⟩
  refine Qp rfl i (sR (Qq (mw rfl (aw rfl (nL (tN (T.ret (Q1 (Qv (Qv (Q1 (Qv (Q2 (.cons _ _ _ _ (.tmp 4 _ rfl) .nil) (.cons 0 rfl (.nil _)) (by cases h; exact ⟨gl [], rfl, rfl⟩))))))))))))))
  refine Qo rfl i (T.skip (Qn (tN (Qq (oI rfl (mw rfl (nL (tN ?_))))))))
  refine Qg ?_ (ih x0 a (wI (b + (1:Int))) x1c0 flx0 h)
  exact tq rfl rfl
  refine Qo rfl g (T.exit (Ql (Ql (Qr (tN (sR (Qq (aw rfl (nL (tN (T.ret (Q2 (.cons _ _ _ _ (.tmp 4 _ rfl) .nil) (.cons 0 rfl (.nil _)) (by cases h; exact ⟨gl [], rfl, rfl⟩)))))))))))))
theorem Ot (K : Nat) {x0 : List Qa} {x1c0 : Q7} {flx0 : Bool} {bx1c0 : Nat} {r : Int} (h : Jf K x0 x1c0 = some r) : V6 tp 88 [.sl flx0 4 (x0.map Qd), .c (.ex (.func (.func 54) #[] #[.pointer (some ⟨bx1c0, 0, none⟩)]))] [(Jt bx1c0 x1c0.Auto.Split.Of x1c0.Auto.Split.Many x1c0.Auto.Counts x1c0.Auto.States)] (fun γ => (.int .i64 r)) (fun γ => [(Jt bx1c0 x1c0.Auto.Split.Of x1c0.Auto.Split.Many x1c0.Auto.Counts x1c0.Auto.States)]) := by
 refine CI 19 fu88 rfl ?_
 unfold Jf at h
 refine sR (Qq (aw rfl (nL (tN (T.seq (sR (Qq (mw rfl (oU x0 Qd Uh rfl ?_)))))))))
 refine mw rfl (nL (tN (T.block (T.loop ?_))))
 refine Qg ?_ (Fe K bx1c0 x1c0 K x0 (x0.length : Int) (0:Int) x1c0 flx0 h)
 exact tq rfl rfl
abbrev Qfs (bx1c0 : Nat) (x1c0 : Q7) (r : Bool) : ES := U6 tp ff53 (fun y t => ∃ γ : Nat → Value, y = (.bool r) ∧ t = [(Jt bx1c0 x1c0.Auto.Split.Of x1c0.Auto.Split.Many x1c0.Auto.Counts x1c0.Auto.States)])
theorem Ff (K : Nat) {x0 : List Qa} {x1c0 : Q7} {flx0 : Bool} {bx1c0 : Nat} {r : Bool} (h : X7 K x0 x1c0 = some r) : V6 tp 53 [.sl flx0 4 (x0.map Qd), .c (.ex (.func (.func 54) #[] #[.pointer (some ⟨bx1c0, 0, none⟩)]))] [(Jt bx1c0 x1c0.Auto.Split.Of x1c0.Auto.Split.Many x1c0.Auto.Counts x1c0.Auto.States)] (fun γ => (.bool r)) (fun γ => [(Jt bx1c0 x1c0.Auto.Split.Of x1c0.Auto.Split.Many x1c0.Auto.Counts x1c0.Auto.States)]) := by
 refine CI 9 fu53 rfl ?_
 unfold X7 at h
 refine sR (Qq (aw rfl (nL (tN (sR (Qq (mw rfl (mw rfl ?_))))))))
 obtain ⟨b, a, h⟩ := bind_some h
 refine sp rfl (Q4 (is := [0]) (ph := []) rfl (dk rfl) fu88 rfl rfl (Zk.cons rfl (Zk.cons rfl Zk.nil)) (Ot K (flx0 := flx0) (bx1c0 := bx1c0) a) (.cons rfl rfl (.nil)) (fun _ => rfl) (fun f => (nm (.c (.n)) (oI rfl (aw rfl (nL (tN (T.ret (Q2 (.cons _ _ _ _ (.tmp 4 _ rfl) .nil) (.cons 0 rfl (.nil _)) (by cases h; exact ⟨gl [], rfl, rfl⟩))))))))))
abbrev Qep (r : Bool) : ES := U6 tp ff24 (fun y t => y = (.bool r) ∧ t = [])
abbrev Qf6 (r : Bool) : ES := fT 79 [1,1] ff24 (Qep r)
abbrev Qfd (r : Bool) : ES := fT 79 [1,1,1] ff24 (Qep r)
abbrev Nb (r : Bool) : ES := Qx 0 ((Qfd r))
abbrev Qdl (r : Bool) : ES := fL 79 [1,1,0,1,0,0] ff24 (Nb r)
abbrev S8 (r : Bool) : ES := fT 79 [1,1,0,1,0,0,1,1,1] ff24 (Qdl r)
abbrev I7 (r : Bool) : ES := Qx 1 ((S8 r))
theorem Ll {r : Bool} (K : Nat) (h : Xq K = some r) : T tp 79 (ca [1,0,1,0] ff24) ⟨[], []⟩ (Qf6 r) := by
 unfold Xq at h
 refine sR (Qq (aw rfl (nL (tN (T.ret (Qv (fd rfl (by cases h; exact ⟨rfl, rfl⟩))))))))
theorem Bf {r : Bool} (K : Nat) (h : H8 K = some r) : T tp 79 (ca [1,1,0,1,0,0,1,1,0,0,1,1,0] ff24) ⟨[], []⟩ (I7 r) := by
 unfold H8 at h
 refine sR (Qq (aw rfl (nL (tN (T.ret (Q1 (Qv (Qv (Q1 (Qv (fd rfl (by cases h; exact ⟨rfl, rfl⟩))))))))))))
theorem Qf7 {r : Bool} (K : Nat) : ∀ (k : Nat), ∀ (x0 : Qm) (p q : Int) (u : Nat), J3 K k x0 p q = some r → TL tp 79 (ca [1,1,0,1,0,0] ff24) ⟨[(1, .ptr u 0), (45, .sl false 2 (mA x0.Counts)), (46, .int .i64 p), (47, .int .i64 q)], [(Qec u x0.Split.Of x0.Split.Many x0.Counts x0.States)]⟩ (Nb r) := by
 intro k
 induction k with
 | zero =>
  intro x0 p q u h
  exact zn h
 | succ k ih =>
  intro x0 p q u h
  rw [J3] at h
  refine Q3 (sR (Qq (oI rfl (nL (tN (T.seq ?_))))))
  rcases Qe h with ⟨w, h⟩ | ⟨w, h⟩
  refine Qp rfl w (T.skip (tN (T.seq (T.block (sR (Qq ?_))))))
  obtain ⟨m, ab, h⟩ := bind_some h
  refine oX x0.Counts (Zs.dc .i64) Qcp i59 ab rfl (oJ Qeu i59 rfl (sp rfl (Zb rfl (dk rfl) i59 rfl (fun ad => (sp rfl (Qu (i := 0) (cells' := (Zs.oc .i64 m)) rfl rfl i59 rfl rfl rfl rfl (nb rfl) rfl (nL (tN (sR (Qq (sp rfl (Z1 rfl (dk rfl) Qeu i3 rfl rfl (by decide) (by decide) (sp rfl (Zw (i := 0) rfl (dk rfl) ul3 rfl rfl rfl (X1 (k := .i64) (a := m) (pre := []) (post := []) (by decide) (by decide)) ?_))))))))))))))
  refine oI rfl (mw rfl ?_)
  rcases Qe h with ⟨b, h⟩ | ⟨b, h⟩
  refine pf rfl b (pf rfl b (pf rfl b (pf rfl b (pf rfl b (oY b rfl (mw rfl ?_))))))
  refine pf rfl rfl (pf rfl rfl (pf rfl rfl (oY rfl rfl (mw rfl (pf rfl rfl (pf rfl rfl ?_))))))
  refine pf rfl rfl (oY rfl rfl (nL (tN (Qp rfl rfl ?_))))
  refine Qk ?_ (Bf K h)
  exact tq rfl rfl
  refine sn rfl b (Z1 rfl (dk rfl) Qeu i3 rfl rfl (by decide) (by decide) (sn rfl b (Zw (i := 0) rfl (dk rfl) ul3 rfl rfl rfl (X1 (k := .i64) (a := m) (pre := []) (post := []) (by decide) (by decide)) (sn rfl b (Z1 rfl (dk rfl) Qeu i3 rfl rfl (by decide) (by decide) (sn rfl b (Zw (i := 0) rfl (dk rfl) ul3 rfl rfl rfl (X1 (k := .i64) (a := m) (pre := []) (post := []) (by decide) (by decide)) (sn rfl b (Zi rfl rfl (dk rfl) rfl rfl (oZ b rfl (mw rfl ?_)))))))))))
  rcases Qe h with ⟨g, h⟩ | ⟨g, h⟩
  refine pf rfl g (pf rfl g (pf rfl g (oY g rfl (mw rfl (pf rfl rfl (pf rfl rfl ?_))))))
  refine pf rfl rfl (oY rfl rfl (nL (tN (Qp rfl rfl ?_))))
  refine Qk ?_ (Bf K h)
  exact tq rfl rfl
  refine sn rfl g (Z1 rfl (dk rfl) Qeu i3 rfl rfl (by decide) (by decide) (sn rfl g (Zw (i := 0) rfl (dk rfl) ul3 rfl rfl rfl (X1 (k := .i64) (a := m) (pre := []) (post := []) (by decide) (by decide)) (sn rfl g (Zi rfl rfl (dk rfl) rfl rfl (oZ g rfl (mw rfl ?_)))))))
  rcases Qe h with ⟨j, h⟩ | ⟨j, h⟩
  refine pf rfl j (pf rfl j (pf rfl j (oY j rfl (nL (tN (Qp rfl rfl ?_))))))
  refine Qk ?_ (Bf K h)
  exact tq rfl rfl
  refine sn rfl j (Z1 rfl (dk rfl) Qeu i3 rfl rfl (by decide) (by decide) (sn rfl j (Zw (i := 0) rfl (dk rfl) ul3 rfl rfl rfl (X1 (k := .i64) (a := m) (pre := []) (post := []) (by decide) (by decide)) (sn rfl j (Zi rfl rfl (dk rfl) rfl rfl (oZ j rfl (nL (tN ?_))))))))
  rcases Qe h with ⟨y, h⟩ | ⟨y, h⟩
  refine Qp rfl y ?_
  refine Qk ?_ (Bf K h)
  exact tq rfl rfl
  refine Qo rfl y (T.skip (Qn (tN (Qq (oI rfl (mw rfl (nL (tN ?_))))))))
  refine Qg ?_ (ih x0 p (wI (q + (1:Int))) u h)
  exact tr rfl (.c (.s .z) (.n _))
  refine Qo rfl w (T.exit (Ql (Ql (Qr (tN (sR (Qq (oA 0 ((Zg.dc 256 .u8 x0.Split.Of) ++ (([.int .i64 x0.Split.Many, .sl false 2 (mA x0.Counts), .sl false 4 (x0.States.map Qd)] : List DC))) Jl i28 rfl (sp rfl (OpT.build (l := ((Zg.dc 256 .u8 x0.Split.Of) ++ (([.int .i64 x0.Split.Many, .sl false 2 (mA x0.Counts), .sl false 4 (x0.States.map Qd)] : List DC)))) rfl (dk rfl) (Zq (pl := [(0, 259)]) ul107 i107 rfl) (G9 rfl) rfl rfl (sp rfl (Zb rfl (dk rfl) i107 rfl (fun aa => (sp rfl (Qu (i := 0) (cells' := ((Zg.oc 256 .u8 x0.Split.Of) ++ (([.d (.int .i64 x0.Split.Many), .d (.sl false 2 (mA x0.Counts)), .d (.sl false 4 (x0.States.map Qd))]:List OC)))) rfl rfl i107 rfl rfl rfl rfl (nb rfl) rfl ?_)))))))))))))))
  refine nL (tN (sR (Qq (oP Jl i26 rfl (oL 1 Uh rfl (sp rfl (OpT.makeFunc (vs := [.pointer (some ⟨aa, 0, none⟩)]) rfl (dk rfl) rfl ?_)))))))
  obtain ⟨af, ac, h⟩ := bind_some h
  refine sp rfl (Q4 (is := [0]) (ph := []) rfl (dk rfl) fu53 rfl rfl (Zk.cons rfl (Zk.cons rfl Zk.nil)) (Ff K (flx0 := false) (bx1c0 := aa) ac) (.cons rfl rfl (.nil)) (fun _ => rfl) (fun ag => (nm (.c (.c (.n))) (oT rfl (aw rfl (nL (tN (T.ret (fd rfl (by cases h; exact ⟨rfl, rfl⟩))))))))))
theorem T5 (K : Nat) {x0 : Qm} {r : Bool} (h : Hh K x0 = some r) : Zl tp 24 [.agg ((Zg.dc 256 .u8 x0.Split.Of) ++ (([.int .i64 x0.Split.Many, .sl false 2 (mA x0.Counts), .sl false 4 (x0.States.map Qd)] : List DC)))] [] (.bool r) := by
 refine CI 79 fu24 rfl ?_
 unfold Hh at h
 refine sR (Qq (sp rfl (Zc rfl (dk rfl) rfl (fun b => (aw rfl (nL (tN (T.seq (T.seq (Yg ?_))))))))))
 refine dP rfl (.f rfl) Jl i24 rfl (dW 0 ((Zg.dc 256 .u8 x0.Split.Of) ++ (([.int .i64 x0.Split.Many] : List DC))) rfl (.f rfl) ul24 i24 rfl ?_)
 obtain ⟨q, y, h⟩ := bind_some h
 refine dH fu52 (Zl.nil (split_Right_T K y)) rfl (.f rfl) rfl (dT rfl (.f rfl) rfl (dV rfl rfl ?_))
 rcases Qe h with ⟨j, h⟩ | ⟨j, h⟩
 refine dO j rfl rfl (dO j rfl rfl (dO j rfl rfl (dO j rfl rfl (dY rfl (.f rfl) j rfl (dV rfl rfl (dO rfl rfl rfl ?_))))))
 refine dO rfl rfl rfl (dO rfl rfl rfl (dO rfl rfl rfl (dY rfl (.f rfl) rfl rfl (dV rfl rfl (dO rfl rfl rfl (dO rfl rfl rfl ?_))))))
 refine dO rfl rfl rfl (dO rfl rfl rfl (dY rfl (.f rfl) rfl rfl (dV rfl rfl (dO rfl rfl rfl (dO rfl rfl rfl (dO rfl rfl rfl ?_))))))
 refine dO rfl rfl rfl (dO rfl rfl rfl (dO rfl rfl rfl (dO rfl rfl rfl (dO rfl rfl rfl (dO rfl rfl rfl (dO rfl rfl rfl ?_))))))
 refine dO rfl rfl rfl (dO rfl rfl rfl (dO rfl rfl rfl (dO rfl rfl rfl (dY rfl (.f rfl) rfl rfl (dF [0,1,3,7,15,31,63,127,255,511,1023,2047,4095,8191,16383,32767,65535,131071,262143,524287,1048575,2097151,4194303,8388607,16777215,33554431,67108863,134217727,268435455,8388607,545259519,1619001343,3766484991,8061452287,16651386879,34359738367,68719476735,137438953471] Qz rfl (by kernel_rfl) (fun u hu => (tN (Qk hu (Qp rfl rfl ?_)))))))))
 refine Qk ?_ (Ll K h)
 exact tq rfl rfl
 refine dP rfl (.n j rfl) Jl i25 rfl (dL 0 rfl (.n j rfl) Qcp rfl (dN x0.Counts (Zs.dc .i64) rfl (.n j rfl) Qcp rfl (dI rfl (.n j rfl) rfl (dZ rfl (.f rfl) j rfl (dV rfl rfl ?_)))))
 rcases Qe h with ⟨m, h⟩ | ⟨m, h⟩
 refine dO m rfl rfl (dO m rfl rfl (dO m rfl rfl (dO m rfl rfl (dY rfl (.f rfl) m rfl (dV rfl rfl (dO rfl rfl rfl ?_))))))
 refine dO rfl rfl rfl (dO rfl rfl rfl (dO rfl rfl rfl (dY rfl (.f rfl) rfl rfl (dV rfl rfl (dO rfl rfl rfl (dO rfl rfl rfl ?_))))))
 refine dO rfl rfl rfl (dO rfl rfl rfl (dO rfl rfl rfl (dO rfl rfl rfl (dO rfl rfl rfl (dO rfl rfl rfl (dO rfl rfl rfl ?_))))))
 refine dO rfl rfl rfl (dO rfl rfl rfl (dO rfl rfl rfl (dO rfl rfl rfl (dO rfl rfl rfl (dY rfl (.f rfl) rfl rfl (dF [0,1,3,7,15,31,63,127,255,511,1023,2047,4095,8191,16383,32767,65535,131071,262143,524287,1048575,2097151,4194303,8388607,16777215,33554431,67108863,134217727,268435455,8388607,545259519,1619001343,3766484991,8061452287,16651386879,34359738367,68719476735,137438953471] Qz rfl (by kernel_rfl) (fun u hu => (tN (Qk hu ?_)))))))))
 refine Qp rfl rfl ?_
 refine Qk ?_ (Ll K h)
 exact tq rfl rfl
 refine dP rfl (.n m rfl) Jl i26 rfl (dL 0 rfl (.n m rfl) Uh rfl (dN x0.States Qd rfl (.n m rfl) Uh rfl (dI rfl (.n m rfl) rfl (dZ rfl (.f rfl) m rfl (dV rfl rfl ?_)))))
 rcases Qe h with ⟨p, h⟩ | ⟨p, h⟩
 refine dO p rfl rfl (dO p rfl rfl (dO p rfl rfl (dO p rfl rfl (dY rfl (.f rfl) p rfl (dV rfl rfl (dO rfl rfl rfl ?_))))))
 refine dO rfl rfl rfl (dO rfl rfl rfl (dO rfl rfl rfl (dO rfl rfl rfl (dO rfl rfl rfl (dO rfl rfl rfl (dO rfl rfl rfl ?_))))))
 refine dO rfl rfl rfl (dO rfl rfl rfl (dO rfl rfl rfl (dO rfl rfl rfl (dO rfl rfl rfl (dO rfl rfl rfl (dY rfl (.f rfl) rfl rfl ?_))))))
 refine dF [0,1,3,7,15,31,63,127,255,511,1023,2047,4095,8191,16383,32767,65535,131071,262143,524287,1048575,2097151,4194303,8388607,16777215,33554431,67108863,134217727,268435455,8388607,545259519,1619001343,3766484991,8061452287,16651386879,34359738367,68719476735,137438953471] Qz rfl (by kernel_rfl) (fun u hu => (tN (Qk hu (Qp rfl rfl ?_))))
 refine Qk ?_ (Ll K h)
 exact tq rfl rfl
 refine dP rfl (.n p rfl) Jl i26 rfl (dL 0 rfl (.n p rfl) Uh rfl (dN x0.States Qd rfl (.n p rfl) Uh rfl (dI rfl (.n p rfl) rfl (dZ rfl (.f rfl) p rfl (dV rfl rfl ?_)))))
 rcases Qe h with ⟨g, h⟩ | ⟨g, h⟩
 refine dO g rfl rfl (dO g rfl rfl (dO g rfl rfl (dO g rfl rfl (dO g rfl rfl (dO g rfl rfl (dO g rfl rfl ?_))))))
 refine dO g rfl rfl (dO g rfl rfl (dO g rfl rfl (dO g rfl rfl (dO g rfl rfl (dO g rfl rfl (dO g rfl rfl ?_))))))
 refine dY rfl (.f rfl) g rfl (dF [0,1,3,7,15,31,63,127,255,511,1023,2047,4095,8191,16383,32767,65535,131071,262143,524287,1048575,2097151,4194303,8388607,16777215,33554431,67108863,134217727,268435455,8388607,545259519,1619001343,3766484991,8061452287,16651386879,34359738367,68719476735,137438953471] Qz rfl (by kernel_rfl) (fun u hu => (tN (Qk hu (Qp rfl rfl ?_)))))
 refine Qk ?_ (Ll K h)
 exact tq rfl rfl
 refine dP rfl (.n g rfl) Jl i26 rfl (dL 0 rfl (.n g rfl) Uh rfl ?_)
 obtain ⟨a, w, h⟩ := bind_some h
 refine dX x0.States Qd rfl (.n g rfl) Uh i51 w rfl (dQ rfl (.n g rfl) Ju i38 rfl (dR rfl (.n g rfl) Zu rfl (dN a.L (cI .i64) rfl (.n g rfl) Zu rfl (dP rfl (.n g rfl) Jl i26 rfl (dL 0 rfl (.n g rfl) Uh rfl (dX x0.States Qd rfl (.n g rfl) Uh i51 w rfl ?_))))))
 refine dQ rfl (.n g rfl) Ju i38 rfl (dR rfl (.n g rfl) Zu rfl (dN a.R (cI .i64) rfl (.n g rfl) Zu rfl (dI rfl (.n g rfl) rfl (dI rfl (.n g rfl) rfl (dZ rfl (.f rfl) g rfl (dF [0,1,3,7,15,31,63,127,255,511,1023,2047,4095,8191,16383,32767,65535,131071,262143,524287,1048575,2097151,4194303,8388607,16777215,33554431,67108863,134217727,268435455,8388607,545259519,1619001343,3766484991,8061452287,16651386879,34359738367,68719476735,137438953471] Qz rfl (by kernel_rfl) (fun u hu => (tN (Qk hu ?_)))))))))
 rcases Qe h with ⟨s, h⟩ | ⟨s, h⟩
 refine Qp rfl s ?_
 refine Qk ?_ (Ll K h)
 exact tq rfl rfl
 refine Qo rfl s (T.skip (tN (T.seq (sR (Qq (oP Jl i25 rfl (oL 0 Qcp rfl (oU x0.Counts (Zs.dc .i64) Qcp rfl ?_))))))))
 refine mw rfl (nL (tN (T.block (T.loop ?_))))
 refine Qg ?_ (Qf7 K K x0 (x0.Counts.length : Int) (0:Int) b h)
 exact tq rfl rfl
abbrev slices_Clone__2_int_q (r : List Zs) : ES := U6 tp ff25 (fun y t => y = (.sl false 2 (mA r)) ∧ t = [])
theorem Tl (K : Nat) {x0 : List Zs} {flx0 : Bool} {r : List Zs} (h : Ht K x0 = some r) : Zl tp 25 [.sl flx0 2 (mA x0)] [] (.sl false 2 (mA r)) := by
 refine CI 8 fu25 rfl ?_
 unfold Ht at h
 refine sR (Qq (aw rfl (nL (tN (T.seq (sR (Qq (mw rfl (sp rfl (Qgf (xs := x0) (f := (Zs.dc .i64)) rfl (dk rfl) Qcp rfl rfl (fun b c => ?_)))))))))))
 refine nL (tN ?_)
 rcases Bool.eq_false_or_eq_true b with a | a
 have hx := c a
 replace h : (some []) = some r := by first | (rw [hx] at h; exact h) | exact h
 refine Qp rfl a (sR (Qq (aw rfl (nL (tN (T.ret (Qv (Xr (Pg 2 false 2 rfl) (fd rfl (by cases h; exact ⟨rfl, rfl⟩))))))))))
 refine Qo rfl a (T.skip (tN (sR (Qq (sp rfl (OpT.buildSlice (elems := ([] : List Zs).map (Zs.dc .i64)) rfl (dk rfl) Qcp i59 (by decide) rfl (G9 rfl) rfl rfl rfl (Vg rfl) (by decide) (mw rfl ?_)))))))
 obtain ⟨d, h⟩ := Q6 h
 refine sp rfl (Oi (xs := ([] : List Zs)) (ys := x0) (f := (Zs.dc .i64)) rfl (dk rfl) Qcp i59 rfl rfl rfl (.inr rfl) d (fun g => (aw rfl (nL (tN (T.ret (Xr (Zy.view 2 0 rfl rfl) (fd rfl (by cases h; exact ⟨rfl, rfl⟩)))))))))
abbrev trim_stack_int_pop_q (bx0 : Nat) (r : Int × Bool × Z6) : ES := U6 tp ff34 (fun y t => ∃ γ : Nat → Value, y = (.tup [.int .i64 r.1, .bool r.2.1]) ∧ t = [(Pc bx0 (γ 0)), .arrX (γ 0) 3 1 0 (mI r.2.2.l)])
theorem D6 (K : Nat) {x0 : Z6} {bx0 : Nat} {wx0c0 : Value} {r : Int × Bool × Z6} (h : Yr K x0 = some r) : V6 tp 34 [.ptr bx0 0] [(Pc bx0 wx0c0), .arrX wx0c0 3 1 0 (mI x0.l)] (fun γ => (.tup [.int .i64 r.1, .bool r.2.1])) (fun γ => [(Pc bx0 (γ 0)), .arrX (γ 0) 3 1 0 (mI r.2.2.l)]) := by
 refine CI 38 fu34 rfl ?_
 unfold Yr at h
 refine sR (Qq (aw rfl (aw rfl (nL (tN (T.seq (sR (Qq (mw rfl ?_)))))))))
 refine oK rfl (oP ul74 i38 rfl (oL 0 Zu rfl (sp rfl (J4 (i := 1) (xs := x0.l) (f := (cI .i64)) rfl (dk rfl) Zu rfl rfl (oI rfl (nL (tN ?_)))))))
 rcases Qe h with ⟨g, h⟩ | ⟨g, h⟩
 refine Qp rfl g (sR (Qq (mw rfl (aw rfl (aw rfl (nL (tN (T.ret (Qv ?_)))))))))
 exact Q2 (.cons _ _ _ _ (.tmp 2 _ rfl) (.cons _ _ _ _ (.tmp 3 _ rfl) .nil)) (.cons 0 rfl (.cons 0 rfl (.nil _))) (by cases h; exact ⟨gl [wx0c0], rfl, rfl⟩)
 refine Qo rfl g (T.skip (tN (T.seq (Yg (dV rfl rfl (dK rfl (.f rfl) rfl (dP rfl (.f rfl) ul74 i38 rfl ?_)))))))
 refine dL 0 rfl (.f rfl) Zu rfl (dV rfl rfl (dK rfl (.f rfl) rfl (dP rfl (.f rfl) ul74 i38 rfl (dL 0 rfl (.f rfl) Zu rfl (dS (c := ⟨some 19, .int .i64 (x0.l.length : Int), [(18, .c (.ex wx0c0))], [(1, .arrX wx0c0 3 1 0 (mI x0.l))], []⟩) (fun t hm => oF rfl rfl (J4 (i := 1) (xs := x0.l) (f := (cI .i64)) rfl (dk rfl) Zu hm.s0 hm.o0 rfl)) rfl rfl (dI rfl (.f rfl) rfl ?_))))))
 obtain ⟨b, j, h⟩ := bind_some h
 refine dS (c := ⟨some 21, .el wx0c0 1 (Int.toNat (wI ((x0.l.length : Int) - (1:Int)))) 0, [(14, .c (.ex wx0c0)), (20, .int .i64 (wI ((x0.l.length : Int) - (1:Int))))], [(1, .arrX wx0c0 3 1 0 (mI x0.l))], []⟩) (fun t hm => oF rfl rfl (Z0 (n := 1) (xs := x0.l) (f := (cI .i64)) (old := b) rfl (dk rfl) Zu i3 hm.s0 hm.o0 hm.s1 j rfl)) rfl rfl (dS (c := ⟨some 22, .int .i64 b, [(21, .el wx0c0 1 (Int.toNat (wI ((x0.l.length : Int) - (1:Int)))) 0)], [(1, .arrX wx0c0 3 1 0 (mI x0.l))], []⟩) (fun t hm => oF rfl rfl (Jv (i := 1) (xs := x0.l) (f := (cI .i64)) (old := b) rfl (dk rfl) ul3 rfl hm.s0 hm.o0 (Zp j).2 rfl rfl)) rfl rfl (dA rfl (.f rfl) rfl (dF [0,1,3,7,0,16,48,112,240,496,1023,2047,4095] Qz rfl (by kernel_rfl) (fun u hu => (tN (Qk hu (T.seq (Uv (gM rfl (fun _ => .f rfl) (fun _ => rfl) ?_)))))))))
 refine gM rfl (fun _ => .f rfl) (fun _ => rfl) (gK rfl (fun _ => .f rfl) (fun _ => rfl) (gP rfl (fun _ => .f rfl) ul74 i38 (fun _ => rfl) (gL 0 rfl (fun _ => .f rfl) Zu (fun _ => rfl) (gM rfl (fun _ => .f rfl) (fun _ => rfl) (gK rfl (fun _ => .f rfl) (fun _ => rfl) (gP rfl (fun _ => .f rfl) ul74 i38 (fun _ => rfl) ?_))))))
 refine gL 0 rfl (fun _ => .f rfl) Zu (fun _ => rfl) (dC (c := ⟨some 32, .int .i64 (x0.l.length : Int), [(31, .c (.ex wx0c0))], [(1, .arrX wx0c0 3 1 0 (mI x0.l))], []⟩) (fun t hm => oF rfl rfl (J4 (i := 1) (xs := x0.l) (f := (cI .i64)) rfl (dk rfl) Zu hm.s0 hm.o0 ⟨u0, rfl⟩)) (fun _ => rfl) (fun _ => rfl) (gI rfl (fun _ => .f rfl) (fun _ => rfl) ?_))
 obtain ⟨m, h⟩ := Q6 h
 refine DGG.step (c := fun a => ⟨some 34, .c (.ex ((a 11).1 0)), [(27, .c (.ex wx0c0)), (33, .int .i64 (wI ((x0.l.length : Int) - (1:Int))))], [(1, .arrX wx0c0 3 1 0 (mI x0.l))], [(1, .arrX ((a 11).1 0) 3 1 0 ((x0.l.take (Int.toNat (wI ((x0.l.length : Int) - (1:Int))))).map (cI .i64)))]⟩) [11] (fun a γ' h => by simp only [h 11 (by decide)]) (fun a t hm => oF rfl rfl (OpT.sliceX (i := 1) (xs := x0.l) (f := (cI .i64)) (h := (Int.toNat (wI ((x0.l.length : Int) - (1:Int))))) rfl (dk rfl) Zu i3 hm.s0 hm.o0 (.some _ _ _ _ hm.s1 m.1) m.2 (fun w => ⟨(fun _ => w, 0), rfl⟩))) (fun a => Zj rfl rfl) (gK rfl (fun _ => .f rfl) (fun _ => rfl) (gP rfl (fun _ => .f rfl) ul74 i38 (fun _ => rfl) (DGG.step (c := fun a => ⟨none, .any, [(36, .ptr bx0 (0 + 0)), (34, .c (.ex ((a 11).1 0)))], [(0, (Pc bx0 wx0c0))], [(0, (Pc bx0 ((a 11).1 0)))]⟩) [11] (fun a γ' h => by simp only [h 11 (by decide)]) (fun a t hm => oF rfl rfl (Jd (i := 0) (cells' := [.d (.ex ((a 11).1 0))]) rfl rfl i38 hm.s0 hm.s1 hm.o0 (nb rfl) rfl ⟨u0, rfl⟩)) (fun a => Zj rfl rfl) (gF [0,0,2,6,14,0,32,96,224,480,992,2046,4095,8191,16383] Qz rfl (by kernel_rfl) (fun _ => by kernel_rfl) (fun a u hu => (tN (Qk hu (sR (Qq (mw rfl ?_))))))))))
 refine aw rfl (aw rfl (nL (tN (T.ret (Q2 (.cons _ _ _ _ (.tmp 2 _ rfl) (.cons _ _ _ _ (.tmp 3 _ rfl) .nil)) (.cons 0 rfl (.cons 0 rfl (.nil _))) (by cases h; exact ⟨gl [(a 11).1 0], rfl, rfl⟩))))))
abbrev trim_stack_int_push_q (bx0 : Nat) (r : Z6) : ES := U6 tp ff32 (fun y t => ∃ γ : Nat → Value, y = (.tup []) ∧ t = [(Pc bx0 (γ 0)), .arrX (γ 0) 3 1 0 (mI r.l)])
theorem Cy (K : Nat) {x0 : Z6} {x1 : List Int} {bx0 : Nat} {wx0c0 : Value} {flx1 : Bool} {r : Z6} (h : V7 K x0 x1 = some r) : V6 tp 32 [.ptr bx0 0, .sl flx1 1 (mI x1)] [(Pc bx0 wx0c0), .arrX wx0c0 3 1 0 (mI x0.l)] (fun γ => (.tup [])) (fun γ => [(Pc bx0 (γ 0)), .arrX (γ 0) 3 1 0 (mI r.l)]) := by
 refine CI 13 fu32 rfl ?_
 unfold V7 at h
 refine Qq (mw rfl (mw rfl (oK rfl (oP ul74 i38 rfl (oL 0 Zu rfl (mw rfl ?_))))))
 obtain ⟨b, h⟩ := Q6 h
 refine sp rfl (Db (i := 1) (xs := x0.l) (ys := x1) (f := (cI .i64)) rfl (dk rfl) Zu i3 rfl rfl rfl rfl b (fun a => (oK rfl (oP ul74 i38 rfl (sp rfl (Jd (i := 0) (cells' := [.d (.ex a)]) rfl rfl i38 rfl rfl rfl (nb rfl) rfl (nL (Q2 (.nil) (.cons 0 rfl (.cons 0 rfl (.nil _))) (by cases h; exact ⟨gl [a], rfl, rfl⟩)))))))))
abbrev Qez (r : Int) : ES := U6 tp ff31 (fun y t => y = (.int .i64 r) ∧ t = [])
abbrev Tg (r : Int) : ES := fT 25 [1,1,1,1] ff31 (Qez r)
abbrev Ps (r : Int) : ES := Qx 0 ((Tg r))
theorem Qbf {r : Int} (K : Nat) : ∀ (k : Nat), ∀ (x0 : List Int) (a b : Int) (flx0 : Bool), V8 K k x0 a b = some r → TL tp 25 (ca [1,1,1,0,1,0,0] ff31) ⟨[(0, .sl flx0 1 (mI x0)), (3, .int .i64 a), (4, .int .i64 b)], []⟩ (Ps r) := by
 intro k
 induction k with
 | zero =>
  intro x0 a b flx0 h
  exact zn h
 | succ k ih =>
  intro x0 a b flx0 h
  rw [V8] at h
  refine Q3 (T.seq (sR (Qq (mw rfl (mw rfl (oU x0 (cI .i64) Zu rfl (oI rfl ?_)))))))
  refine nL (tN ?_)
  rcases Qe h with ⟨c, h⟩ | ⟨c, h⟩
  refine Qp rfl c (T.skip (tN (T.seq (T.block (Qq ?_)))))
  iterate 3 refine mw rfl ?_
  obtain ⟨d, g, h⟩ := bind_some h
  refine oX x0 (cI .i64) Zu i3 g rfl (oR ul3 rfl (sp rfl (OpT.max2 rfl (dk rfl) rfl rfl (aw rfl (nL (Qn (tN (Qq (mw rfl ?_)))))))))
  refine oI rfl (aw rfl (nL (tN ?_)))
  refine Qg ?_ (ih x0 (if d > a then d else a) (wI (b + (1:Int))) flx0 h)
  exact tq rfl rfl
  refine Qo rfl c (T.exit (Ql (Ql (Qr (tN (sR (Qq (mw rfl (aw rfl (nL (tN (T.ret ?_))))))))))))
  exact fd rfl (by cases h; exact ⟨rfl, rfl⟩)
theorem Qe0 (K : Nat) {x0 : List Int} {flx0 : Bool} {r : Int} (h : Kr K x0 = some r) : Zl tp 31 [.sl flx0 1 (mI x0)] [] (.int .i64 r) := by
 refine CI 25 fu31 rfl ?_
 unfold Kr at h
 refine sR (Qq (aw rfl (nL (tN (T.seq (sR (Qq (mw rfl (oU x0 (cI .i64) Zu rfl ?_)))))))))
 refine oI rfl (nL (tN ?_))
 rcases Qe h with ⟨a, h⟩ | ⟨a, h⟩
 refine Qp rfl a (Qq ?_)
 cases h
 refine Qo rfl a (T.skip (tN (sR (Qq (mw rfl ?_)))))
 obtain ⟨b, c, h⟩ := bind_some h
 refine oX x0 (cI .i64) Zu i3 c rfl (oR ul3 rfl (aw rfl (nL (tN (T.seq (sR (Qq (aw rfl ?_))))))))
 refine nL (tN (T.block (T.loop ?_)))
 refine Qg ?_ (Qbf K K x0 b (1:Int) flx0 h)
 exact tq rfl rfl
abbrev slices_Grow_Move_q (r : List Qc) : ES := U6 tp ff97 (fun y t => ∃ γ : Nat → Value, y = (.c (.ex (γ 0))) ∧ t = [.arrA (γ 0) 54 2 (r.map Qi)])
theorem Qcw (K : Nat) {x1 : Int} {r : List Qc} (h : Gc K x1 = some r) : V6 tp 97 [.c (.ex (.slice none 0 0)), .int .i64 x1] [] (fun γ => (.c (.ex (γ 0)))) (fun γ => [.arrA (γ 0) 54 2 (r.map Qi)]) := by
 refine CI 27 fu97 rfl ?_
 unfold Gc at h
 refine sR (Qq (aw rfl (nL (tN (T.seq (sR (Qq (mw rfl (oI rfl ?_)))))))))
 refine nL (tN ?_)
 rcases Qe h with ⟨a, h⟩ | ⟨a, h⟩
 refine Qp rfl a (Qq ?_)
 cases h
 refine Qo rfl a (T.skip (tN (T.seq (sR (Qq (mw rfl (mw rfl (sp rfl (OpT.capNil rfl (dk rfl) E2 rfl ?_)))))))))
 refine mw rfl (sp rfl (Qge rfl (dk rfl) E2 rfl (oI rfl (oI rfl (aw rfl (nL (tN (sR (Qq (mw rfl ?_))))))))))
 refine oI rfl (nL (tN ?_))
 rcases Qe h with ⟨b, h⟩ | ⟨b, h⟩
 refine Qp rfl b (Qq (mw rfl (mw rfl (sp rfl (OpT.capNil rfl (dk rfl) E2 rfl (sp rfl (OpT.sliceNil rfl (dk rfl) E2 i54 rfl (.none _) (.some _ _ 0 _ rfl (by decide)) (mw rfl ?_))))))))
 obtain ⟨g, h⟩ := Q6 h
 obtain ⟨j, h⟩ := Q6 h
 refine sp rfl (Qfe (f := Qi) (zv := ((Qc.mk (0:Int) []) : Qc)) rfl (dk rfl) E2 ul3 i54 (by decide) rfl rfl (fun _ => .cons (.same _) (.cons (.nil _ _) (.refl _))) rfl rfl rfl g j (fun m => (mw rfl (sp rfl (Qge rfl (dk rfl) E2 rfl ?_)))))
 obtain ⟨d, h⟩ := Q6 h
 refine sp rfl (OpT.sliceX (i := 0) (xs := (List.replicate (Int.toNat (wI (x1 - (wI ((0:Int) - (0:Int)))))) ((Qc.mk (0:Int) []) : Qc))) (f := Qi) (h := (Int.toNat (0:Int))) rfl (dk rfl) E2 i54 rfl rfl (.some _ _ _ _ rfl d.1) d.2 (fun l => (aw rfl (nL (tN (sR (Qq (mw rfl (aw rfl (nL (tN (T.ret ?_))))))))))))
 refine Xr (Gn 0 rfl) (Q2 (.cons _ _ _ _ (.tmp 4 _ rfl) .nil) (.cons 0 rfl (.nil _)) (by cases h; exact ⟨gl [l], rfl, rfl⟩))
 refine Qo rfl b (T.skip (tN (sR (Qq (mw rfl (aw rfl (nL (tN (T.ret ?_)))))))))
 refine Xr (Xh 54 2) (Q2 (.cons _ _ _ _ (.tmp 4 _ rfl) .nil) (.cons 0 rfl (.nil _)) (by cases h; exact ⟨gl [Qdv 4], rfl, rfl⟩))
abbrev D8 (r : List Qc) : ES := U6 tp ff58 (fun y t => ∃ γ : Nat → Value, y = (.c (.ex (γ 0))) ∧ t = [.arrA (γ 0) 54 2 (r.map Qi)])
abbrev Il (r : List Qc) : ES := fT 36 [1,1,1,1,1] ff58 (D8 r)
abbrev Ee (r : List Qc) : ES := Qx 2 ((Il r))
abbrev Ou (r : List Qc) : ES := fT 36 [1,1,1] ff58 (D8 r)
abbrev Im (r : List Qc) : ES := Qx 0 ((Ou r))
theorem Pw {r : List Qc} (K : Nat) : ∀ (k : Nat), ∀ (x0 : List (List Qc)) (b d : Int) (a : List Qc) (flx0 : Bool) (g : Value), Xa K k x0 b d a = some r → TL tp 36 (ca [1,1,1,1,0,1,0,0] ff58) ⟨[(6, .c (.ex g)), (25, .sl flx0 1 (x0.map (cL 2 Qi))), (26, .int .i64 b), (27, .int .i64 d)], [.arrA g 54 2 (a.map Qi)]⟩ (Ee r) := by
 intro k
 induction k with
 | zero =>
  intro x0 b d a flx0 g h
  exact zn h
 | succ k ih =>
  intro x0 b d a flx0 g h
  rw [Xa] at h
  refine Q3 (sR (Qq (oI rfl (nL (tN (T.seq ?_))))))
  rcases Qe h with ⟨j, h⟩ | ⟨j, h⟩
  refine Qp rfl j (T.skip (tN (T.seq (T.block (sR (Qq ?_))))))
  obtain ⟨l, m, h⟩ := bind_some h
  refine oX x0 (cL 2 Qi) If i55 m rfl (oR E2 rfl (aw rfl (nL (tN (Qq (mw rfl (mw rfl ?_)))))))
  obtain ⟨p, h⟩ := Q6 h
  refine sp rfl (Zr (i := 0) (xs := a) (ys := l) (f := Qi) rfl (dk rfl) E2 i54 rfl rfl rfl rfl p (fun q => (aw rfl (nL (Qn (tN (Qq (oI rfl (mw rfl (nL (tN ?_)))))))))))
  refine Qg ?_ (ih x0 b (wI (d + (1:Int))) (a ++ l) flx0 q h)
  exact tq rfl rfl
  refine Qo rfl j (T.exit (Ql (Ql (Qr (tN (sR (Qq (mw rfl (aw rfl (nL (tN (T.ret ?_))))))))))))
  exact Q2 (.cons _ _ _ _ (.tmp 2 _ rfl) .nil) (.cons 0 rfl (.nil _)) (by cases h; exact ⟨gl [g], rfl, rfl⟩)
theorem Px {r : List Qc} (K : Nat) : ∀ (k : Nat), ∀ (x0 : List (List Qc)) (a b d : Int) (flx0 : Bool), Ys K k x0 a b d = some r → TL tp 36 (ca [1,1,0,1,0,0] ff58) ⟨[(0, .sl flx0 1 (x0.map (cL 2 Qi))), (3, .int .i64 a), (9, .sl flx0 1 (x0.map (cL 2 Qi))), (10, .int .i64 b), (11, .int .i64 d)], []⟩ (Im r) := by
 intro k
 induction k with
 | zero =>
  intro x0 a b d flx0 h
  exact zn h
 | succ k ih =>
  intro x0 a b d flx0 h
  rw [Ys] at h
  refine Q3 (sR (Qq (oI rfl (nL (tN (T.seq ?_))))))
  rcases Qe h with ⟨g, h⟩ | ⟨g, h⟩
  refine Qp rfl g (T.skip (tN (T.seq (T.block (sR (Qq ?_))))))
  obtain ⟨i, l, h⟩ := bind_some h
  refine oX x0 (cL 2 Qi) If i55 l rfl (oR E2 rfl (aw rfl (nL (tN (sR (Qq (mw rfl (mw rfl (oU i Qi E2 rfl ?_)))))))))
  refine oI rfl (aw rfl (nL (tN (sR (Qq (mw rfl (oI rfl (nL (tN ?_)))))))))
  rcases Qe h with ⟨j, h⟩ | ⟨j, h⟩
  refine Qp rfl j (Qq ?_)
  cases h
  refine Qo rfl j (T.skip (Qn (tN (Qq (oI rfl (mw rfl (nL (tN ?_))))))))
  refine Qg ?_ (ih x0 (wI (a + (i.length : Int))) b (wI (d + (1:Int))) flx0 h)
  exact tq rfl rfl
  refine Qo rfl g (T.exit (Ql (Ql (Qr (tN (sR (Qq (mw rfl (Ji Yc ?_)))))))))
  obtain ⟨m, p, h⟩ := bind_some h
  refine sp rfl (Q4 (is := [0]) (ph := [.ro 0 []]) rfl (dk rfl) fu97 rfl rfl (Zk.cons rfl (Zk.cons rfl Zk.nil)) (Qcw K p) (.cons rfl rfl (.nil)) (fun _ => rfl) (fun q => (nm (.c (.n)) (aw rfl (nL (tN (T.seq (sR (Qq (mw rfl ?_))))))))))
  refine oU x0 (cL 2 Qi) If rfl (mw rfl (nL (tN (T.block (T.loop ?_)))))
  refine Qg ?_ (Pw K K x0 (x0.length : Int) (0:Int) m flx0 (q 0) h)
  exact tq rfl rfl
theorem Qaj (K : Nat) {x0 : List (List Qc)} {flx0 : Bool} {r : List Qc} (h : G1 K x0 = some r) : V6 tp 58 [.sl flx0 1 (x0.map (cL 2 Qi))] [] (fun γ => (.c (.ex (γ 0)))) (fun γ => [.arrA (γ 0) 54 2 (r.map Qi)]) := by
 refine CI 36 fu58 rfl ?_
 unfold G1 at h
 refine sR (Qq (aw rfl (nL (tN (sR (Qq (aw rfl (nL (tN (T.seq (sR (Qq ?_))))))))))))
 refine mw rfl (oU x0 (cL 2 Qi) If rfl (mw rfl (nL (tN (T.block (T.loop ?_))))))
 refine Qg ?_ (Px K K x0 (0:Int) (x0.length : Int) (0:Int) flx0 h)
 exact tq rfl rfl
abbrev trim_moves_q (r : List Qc) : ES := U6 tp ff33 (fun y t => y = (.sl false 2 (r.map Qi)) ∧ t = [])
theorem Tb (K : Nat) {x0 : Qa} {r : List Qc} (h : B8 K x0 = some r) : Zl tp 33 [.agg [.sl false 1 (mI x0.L), .sl false 1 (mI x0.R), .sl false 1 (mI x0.Rule), .sl false 1 (x0.Next.map (cL 2 Qi))]] [] (.sl false 2 (r.map Qi)) := by
 refine CI 6 fu33 rfl ?_
 unfold B8 at h
 refine sR (Qq (sp rfl (Zc rfl (dk rfl) rfl (fun b => (aw rfl (nL (tN (sR (Qq (oP Ju i49 rfl (oL 0 If rfl (Ji Yc ?_))))))))))))
 obtain ⟨d, a, h⟩ := bind_some h
 refine sp rfl (Q4 (is := [0]) (ph := [.ro 0 []]) rfl (dk rfl) fu58 rfl rfl (Zk.cons rfl Zk.nil) (Qaj K (flx0 := false) a) (.cons rfl rfl (.nil)) (fun _ => rfl) (fun f => (nm (.c (.c (.n))) (aw rfl (nL (tN (T.ret (Xr (Zy.view 2 0 rfl rfl) (fd rfl (by cases h; exact ⟨rfl, rfl⟩))))))))))
end Go.Rv

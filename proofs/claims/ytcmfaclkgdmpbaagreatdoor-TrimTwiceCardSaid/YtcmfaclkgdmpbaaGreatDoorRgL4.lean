/- Each function computes what its plain text says: printed by a program of ours. -/
import Derived.Test.YtcmfaclkgdmpbaaGreatDoorRgW9
namespace Go.Rv
open Go.Proofs
set_option maxRecDepth 100000
set_option maxHeartbeats 4000000
set_option linter.unusedVariables false
abbrev Yj (r : Bool) : ES := J9 tp Tryz.f4 (fun y t => y = (.bool r) ∧ t = [.tab 0 Y9])
abbrev Ir (r : Bool) : ES := thenS (fun s' => T tp 107 (ca [1,1,1,1,1] Tryz.f4) s' ((Yj r))) ((Yj r))
abbrev E1 (r : Bool) : ES := thenS (fun s' => T tp 107 (ca [1,1,1,1,1,1,1] Tryz.f4) s' ((Yj r))) ((Yj r))
abbrev C3 (r : Bool) : ES := thenS (fun s' => T tp 107 (ca [1,1,1,1,1,1,1,1,1,1] Tryz.f4) s' ((Yj r))) ((Yj r))
abbrev Bs (r : Bool) : ES := Qz 2 ((C3 r))
abbrev Ec (r : Bool) : ES := thenS (fun s' => T tp 107 (ca [1,1,1,1,1,1,1,1] Tryz.f4) s' ((Yj r))) ((Yj r))
abbrev C4 (r : Bool) : ES := Qz 0 ((Ec r))
theorem Va {r : Bool} (K : Nat) (a : Bool) (h : Y2 K a = some r) : T tp 107 (ca [1,1,1,1,0,1,0,1] Tryz.f4) ⟨[(2, .bool a)], [.tab 0 Y9]⟩ (Ir r) := by
 unfold Y2 at h
 refine T.ret (Qv ?_)
 exact Q7 (.cons _ _ _ _ (.tmp 2 _ rfl) .nil) (.cons 0 rfl (.nil _)) (by cases h; exact ⟨rfl, rfl⟩)
theorem U4 {r : Bool} (K : Nat) (h : Xp K = some r) : T tp 107 (ca [1,1,1,1,1,1,0,1,0] Tryz.f4) ⟨[], [.tab 0 Y9]⟩ (E1 r) := by
 unfold Xp at h
 refine T.seq (Qr ?_)
 refine aw rfl ?_
 refine TL'.nil (tN ?_)
 refine T.ret (Qv ?_)
 exact Q7 (.cons _ _ _ _ (.tmp 2 _ rfl) .nil) (.cons 0 rfl (.nil _)) (by cases h; exact ⟨rfl, rfl⟩)
theorem Pl {r : Bool} (K : Nat) : ∀ (k : Nat), ∀ (b : Bool) (a : List Int) (d g : Int), Y1 K k b a d g = some r → TL tp 107 (ca [1,1,1,1,1,1,1,1,1,0,1,0,0] Tryz.f4) ⟨[(3, .bool b), (95, .sl false 1 (mI a)), (96, .int .i64 d), (97, .int .i64 g)], [.tab 0 Y9]⟩ (Bs r) := by
 intro k
 induction k with
 | zero =>
  intro b a d g h
  exact zn h
 | succ k ih =>
  intro b a d g h
  rw [Y1] at h
  refine Q6 ?_
  refine T.seq (Qr ?_)
  refine oI rfl ?_
  refine TL'.nil (tN ?_)
  refine T.seq ?_
  rcases Qd h with ⟨i, h⟩ | ⟨i, h⟩
  refine Qq rfl i ?_
  refine T.skip (tN ?_)
  refine T.seq ?_
  refine T.block ?_
  refine T.seq (Qr ?_)
  refine mw rfl ?_
  obtain ⟨l, m, h⟩ := bind_some h
  refine oX a (cI .i64) Zx i3 m rfl ?_
  refine oR ul3 rfl ?_
  refine aw rfl ?_
  refine aw rfl ?_
  refine TL'.nil (tN (T.seq (Qr ?_)))
  refine mw rfl ?_
  refine mw rfl ?_
  refine oI rfl ?_
  refine TL'.nil (tN ?_)
  rcases Qd h with ⟨j, h⟩ | ⟨j, h⟩
  refine Qq rfl j ?_
  refine T.seq (Qr ?_)
  refine aw rfl ?_
  refine TL'.nil (tN ?_)
  refine T.ret (Q2 (Qv (Qv (Q2 (Qv ?_)))))
  exact Q7 (.cons _ _ _ _ (.tmp 2 _ rfl) .nil) (.cons 0 rfl (.nil _)) (by cases h; exact ⟨rfl, rfl⟩)
  refine Qp rfl j ?_
  refine T.skip (Qn (tN ?_))
  refine Qr ?_
  refine oI rfl ?_
  refine mw rfl ?_
  refine TL'.nil (tN ?_)
  refine Qh ?_ (ih b a d (wI (g + (1:Int))) h)
  exact tq rfl rfl
  refine Qp rfl i ?_
  refine T.exit (Qj (Qj (Qs (tN ?_))))
  refine T.seq (Qr ?_)
  refine mw rfl ?_
  refine aw rfl ?_
  refine TL'.nil (tN ?_)
  refine T.ret ?_
  exact Q7 (.cons _ _ _ _ (.tmp 2 _ rfl) .nil) (.cons 0 rfl (.nil _)) (by cases h; exact ⟨rfl, rfl⟩)
theorem Pm {r : Bool} (K : Nat) : ∀ (k : Nat), ∀ (b : Bool) (g : List Bool) (u w : Int) (j : Zi) (m : Int) (a : List Vr) (p : List Qa) (y : Nat), Yn K k b g u w j m a p = some r → TL tp 107 (ca [1,1,1,1,1,1,1,0,1,0,0] Tryz.f4) ⟨[(3, .bool b), (5, .ptr y 0), (75, .sl false 1 (g.map cB)), (76, .int .i64 u), (77, .int .i64 w)], [(Qbg y j m a p), .tab 0 Y9]⟩ (C4 r) := by
 intro k
 induction k with
 | zero =>
  intro b g u w j m a p y h
  exact zn h
 | succ k ih =>
  intro b g u w j m a p y h
  rw [Yn] at h
  refine Q6 ?_
  refine T.seq (Qr ?_)
  refine oI rfl ?_
  refine TL'.nil (tN ?_)
  refine T.seq ?_
  rcases Qd h with ⟨aa, h⟩ | ⟨aa, h⟩
  refine Qq rfl aa ?_
  refine T.skip (tN ?_)
  refine T.seq ?_
  refine T.block ?_
  refine T.seq (Qr ?_)
  refine mw rfl ?_
  obtain ⟨af, ag, h⟩ := bind_some h
  refine oX g cB ul33 i4 ag rfl ?_
  refine oR ul4 rfl ?_
  refine aw rfl ?_
  refine aw rfl ?_
  refine TL'.nil (tN (T.seq (Qr ?_)))
  refine mw rfl ?_
  refine oT rfl ?_
  refine mw rfl ?_
  rcases Qd h with ⟨q, h⟩ | ⟨q, h⟩
  refine sn rfl q (OpT.move rfl (dk rfl) rfl ?_)
  refine sn rfl q (Zj rfl rfl (dk rfl) rfl rfl ?_)
  refine oY q rfl ?_
  refine TL'.nil (tN ?_)
  rcases Qd h with ⟨ab, h⟩ | ⟨ab, h⟩
  refine Qq rfl ab ?_
  refine T.seq (Qr ?_)
  refine aw rfl ?_
  refine TL'.nil (tN ?_)
  refine T.ret (Q2 (Qv (Qv (Q2 (Qv ?_)))))
  exact Q7 (.cons _ _ _ _ (.tmp 2 _ rfl) .nil) (.cons 1 rfl (.nil _)) (by cases h; exact ⟨rfl, rfl⟩)
  refine Qp rfl ab ?_
  refine T.skip (Qn (tN ?_))
  refine Qr ?_
  refine oI rfl ?_
  refine mw rfl ?_
  refine TL'.nil (tN ?_)
  refine Qh ?_ (ih b g u (wI (w + (1:Int))) j m a p y h)
  exact tq rfl rfl
  refine pf rfl q ?_
  refine pf rfl q ?_
  refine oZ q rfl ?_
  refine TL'.nil (tN ?_)
  refine Qp rfl rfl ?_
  refine T.skip (Qn (tN ?_))
  refine Qr ?_
  refine oI rfl ?_
  refine mw rfl ?_
  refine TL'.nil (tN ?_)
  refine Qh ?_ (ih b g u (wI (w + (1:Int))) j m a p y h)
  exact tq rfl rfl
  refine Qp rfl aa ?_
  refine T.exit (Qj (Qj (Qs (tN ?_))))
  refine T.seq ?_
  refine T.seq (Qr ?_)
  refine oP Uv i25 rfl ?_
  refine oL 0 Qcw rfl ?_
  refine oU a (Vr.dc .i64) Qcw rfl ?_
  refine oI rfl ?_
  refine TL'.nil (tN ?_)
  rcases Qd h with ⟨ac, h⟩ | ⟨ac, h⟩
  refine Qq rfl ac ?_
  refine T.seq (Qr ?_)
  refine mw rfl ?_
  refine aw rfl ?_
  refine TL'.nil (tN ?_)
  refine T.ret (Qv ?_)
  exact Q7 (.cons _ _ _ _ (.tmp 2 _ rfl) .nil) (.cons 1 rfl (.nil _)) (by cases h; exact ⟨rfl, rfl⟩)
  refine Qp rfl ac ?_
  refine T.skip (tN ?_)
  refine T.seq ?_
  refine T.seq (Qr ?_)
  refine oA 0 ((Zi.dc 256 .u8 j) ++ (([.int .i64 m, .sl false 2 (mA a), .sl false 4 (p.map Qb)] : List DC))) Uv i28 rfl ?_
  obtain ⟨ad, ai, h⟩ := bind_some h
  refine sp rfl (H9 rfl (dk rfl) Tryz.func17 rfl rfl (Q5.cons rfl Q5.nil) (.tab 1 rfl (.nil)) (Sv K ai) ?_)
  refine oU ad (cI .i64) Zx rfl ?_
  refine mw rfl ?_
  refine TL'.nil (tN ?_)
  refine T.block ?_
  refine T.loop ?_
  refine Qh ?_ (Pl K K b ad (ad.length : Int) (0:Int) h)
  exact tr rfl (.c (.s .z) (.n _))
theorem Tg (K : Nat) {x0 : Ql} {r : Bool} (h : Xw K x0 = some r) : Zm tp 4 [.agg ((Zi.dc 256 .u8 x0.Split.Of) ++ (([.int .i64 x0.Split.Many, .sl false 2 (mA x0.Counts), .sl false 4 (x0.States.map Qb)] : List DC)))] [.tab 0 Y9] (.bool r) := by
 refine Qt Tryz.func4 rfl (nb rfl) ?_
 show T tp 107 (ca [] Tryz.f4) ⟨Qw 0 [.agg ((Zi.dc 256 .u8 x0.Split.Of) ++ (([.int .i64 x0.Split.Many, .sl false 2 (mA x0.Counts), .sl false 4 (x0.States.map Qb)] : List DC)))], [.tab 0 Y9]⟩ (Yj r)
 unfold Xw at h
 refine T.seq (Qr ?_)
 refine sp rfl (Zb rfl (dk rfl) rfl (fun az => ?_))
 refine aw rfl ?_
 refine TL'.nil (tN (T.seq (Qr ?_)))
 obtain ⟨ad, af, h⟩ := bind_some h
 refine sp rfl (H9 rfl (dk rfl) Tryz.func14 rfl rfl Q5.nil (.tab 1 rfl (.nil)) (Qel K af) ?_)
 refine aw rfl ?_
 refine TL'.nil (tN (T.seq (Qr ?_)))
 refine oA 0 ((Zi.dc 256 .u8 x0.Split.Of) ++ (([.int .i64 x0.Split.Many, .sl false 2 (mA x0.Counts), .sl false 4 (x0.States.map Qb)] : List DC))) Uv i28 rfl ?_
 obtain ⟨b, ag, h⟩ := bind_some h
 refine sp rfl (Q0 rfl (dk rfl) Tryz.func9 rfl rfl (Q5.cons rfl Q5.nil) (Zm.nil (Qgb K ag)) ?_)
 refine sp rfl (Zh rfl (dk rfl) i28 rfl (fun a0 => ?_))
 refine sp rfl (Qy (i := 0) (cells' := ((Zi.oc 256 .u8 b.Split.Of) ++ (([.d (.int .i64 b.Split.Many), .d (.sl false 2 (mA b.Counts)), .d (.sl false 4 (b.States.map Qb))]:List OC)))) rfl rfl i28 rfl rfl rfl rfl (nb rfl) rfl ?_)
 refine TL'.nil (tN (T.seq (Qr ?_)))
 refine oA 0 ((Zi.dc 256 .u8 b.Split.Of) ++ (([.int .i64 b.Split.Many, .sl false 2 (mA b.Counts), .sl false 4 (b.States.map Qb)] : List DC))) Uv i28 rfl ?_
 obtain ⟨a, ai, h⟩ := bind_some h
 refine sp rfl (H9 rfl (dk rfl) Tryz.func10 rfl rfl (Q5.cons rfl Q5.nil) (.tab 2 rfl (.nil)) (Qhr K ai) ?_)
 refine mw rfl ?_
 refine oE rfl ?_
 refine oE rfl ?_
 refine sp rfl (Zh rfl (dk rfl) i28 rfl (fun aj => ?_))
 refine sp rfl (Qy (i := 0) (cells' := ((Zi.oc 256 .u8 a.1.Split.Of) ++ (([.d (.int .i64 a.1.Split.Many), .d (.sl false 2 (mA a.1.Counts)), .d (.sl false 4 (a.1.States.map Qb))]:List OC)))) rfl rfl i28 rfl rfl rfl rfl (nb rfl) rfl ?_)
 refine aw rfl ?_
 refine TL'.nil (tN ?_)
 refine T.seq ?_
 refine T.seq (Qr ?_)
 refine mw rfl ?_
 refine oI rfl ?_
 refine TL'.nil (tN ?_)
 rcases Qd h with ⟨y, h⟩ | ⟨y, h⟩
 refine Qq rfl y ?_
 refine T.seq (Qr ?_)
 refine mw rfl ?_
 refine mw rfl ?_
 rcases Qd h with ⟨u, h⟩ | ⟨u, h⟩
 refine sn rfl u (Uh (i := 1) (l := ((Zi.dc 256 .u8 b.Split.Of) ++ (([.int .i64 b.Split.Many, .sl false 2 (mA b.Counts), .sl false 4 (b.States.map Qb)] : List DC)))) rfl (dk rfl) Uv rfl i28 rfl rfl rfl rfl ?_)
 obtain ⟨a1, al, h⟩ := bind_some h
 refine sn rfl u (Q0 rfl (dk rfl) Tryz.func19 rfl rfl (Q5.cons rfl Q5.nil) (Zm.nil (N9 K al)) ?_)
 refine sn rfl u (OpT.not rfl (dk rfl) rfl ?_)
 refine oY u rfl ?_
 refine mw rfl ?_
 rcases Qd h with ⟨j, h⟩ | ⟨j, h⟩
 refine sn rfl j (Zs rfl (dk rfl) Uv rfl i26 (by decide) rfl ?_)
 refine sn rfl j (Zn (i := 0) rfl (dk rfl) Us rfl rfl rfl rfl ?_)
 refine sn rfl j (Zw (xs := a.1.States) (f := Qb) rfl (dk rfl) Us rfl ?_)
 refine sn rfl j (Zj rfl rfl (dk rfl) rfl rfl ?_)
 refine oY j rfl ?_
 refine mw rfl ?_
 rcases Qd h with ⟨m, h⟩ | ⟨m, h⟩
 refine sn rfl m (Uh (i := 1) (l := ((Zi.dc 256 .u8 b.Split.Of) ++ (([.int .i64 b.Split.Many, .sl false 2 (mA b.Counts), .sl false 4 (b.States.map Qb)] : List DC)))) rfl (dk rfl) Uv rfl i28 rfl rfl rfl rfl ?_)
 obtain ⟨am, an, h⟩ := bind_some h
 refine sn rfl m (Q0 rfl (dk rfl) Tryz.func12 rfl rfl (Q5.cons rfl Q5.nil) (Zm.nil (Qdn K an)) ?_)
 refine sn rfl m (Zw (xs := am) (f := cB) rfl (dk rfl) ul33 rfl ?_)
 refine sn rfl m (Zj rfl rfl (dk rfl) rfl rfl ?_)
 refine oY m rfl ?_
 refine mw rfl ?_
 rcases Qd h with ⟨p, h⟩ | ⟨p, h⟩
 refine sn rfl p (Uh (i := 1) (l := ((Zi.dc 256 .u8 b.Split.Of) ++ (([.int .i64 b.Split.Many, .sl false 2 (mA b.Counts), .sl false 4 (b.States.map Qb)] : List DC)))) rfl (dk rfl) Uv rfl i28 rfl rfl rfl rfl ?_)
 obtain ⟨ac, ap, h⟩ := bind_some h
 refine sn rfl p (H9 rfl (dk rfl) Tryz.func17 rfl rfl (Q5.cons rfl Q5.nil) (.tab 3 rfl (.nil)) (Sv K ap) ?_)
 refine sn rfl p (Zw (xs := ac) (f := (cI .i64)) rfl (dk rfl) Zx rfl ?_)
 refine sn rfl p (Zj rfl rfl (dk rfl) rfl rfl ?_)
 refine oY p rfl ?_
 refine aw rfl ?_
 refine TL'.nil (tN ?_)
 refine Qm ?_ (Va K ((ac.length : Int) == (0:Int)) h)
 exact tr rfl (.c (.s (.s (.s .z))) (.n _))
 refine pf rfl p ?_
 refine pf rfl p ?_
 refine pf rfl p ?_
 refine pf rfl p ?_
 refine oZ p rfl ?_
 refine aw rfl ?_
 refine TL'.nil (tN ?_)
 refine Qm ?_ (Va K false h)
 exact tr rfl (.c (.s (.s (.s .z))) (.n _))
 refine pf rfl m ?_
 refine pf rfl m ?_
 refine pf rfl m ?_
 refine pf rfl m ?_
 refine oZ m rfl ?_
 refine mw rfl ?_
 refine pf rfl rfl ?_
 refine pf rfl rfl ?_
 refine pf rfl rfl ?_
 refine pf rfl rfl ?_
 refine oZ rfl rfl ?_
 refine aw rfl ?_
 refine TL'.nil (tN ?_)
 refine Qm ?_ (Va K false h)
 exact tr rfl (.c (.s (.s (.s .z))) (.n _))
 refine pf rfl j ?_
 refine pf rfl j ?_
 refine pf rfl j ?_
 refine pf rfl j ?_
 refine oZ j rfl ?_
 refine mw rfl ?_
 refine pf rfl rfl ?_
 refine pf rfl rfl ?_
 refine pf rfl rfl ?_
 refine pf rfl rfl ?_
 refine oZ rfl rfl ?_
 refine mw rfl ?_
 refine pf rfl rfl ?_
 refine pf rfl rfl ?_
 refine pf rfl rfl ?_
 refine pf rfl rfl ?_
 refine oZ rfl rfl ?_
 refine aw rfl ?_
 refine TL'.nil (tN ?_)
 refine Qm ?_ (Va K false h)
 exact tr rfl (.c (.s (.s (.s .z))) (.n _))
 refine pf rfl u ?_
 refine pf rfl u ?_
 refine pf rfl u ?_
 refine oZ u rfl ?_
 refine mw rfl ?_
 refine pf rfl rfl ?_
 refine pf rfl rfl ?_
 refine pf rfl rfl ?_
 refine pf rfl rfl ?_
 refine oZ rfl rfl ?_
 refine mw rfl ?_
 refine pf rfl rfl ?_
 refine pf rfl rfl ?_
 refine pf rfl rfl ?_
 refine pf rfl rfl ?_
 refine oZ rfl rfl ?_
 refine mw rfl ?_
 refine pf rfl rfl ?_
 refine pf rfl rfl ?_
 refine pf rfl rfl ?_
 refine pf rfl rfl ?_
 refine oZ rfl rfl ?_
 refine aw rfl ?_
 refine TL'.nil (tN ?_)
 refine Qm ?_ (Va K false h)
 exact tr rfl (.c (.s (.s (.s .z))) (.n _))
 refine Qp rfl y ?_
 refine T.skip (tN ?_)
 refine T.seq (Qr ?_)
 refine oA 0 ((Zi.dc 256 .u8 a.1.Split.Of) ++ (([.int .i64 a.1.Split.Many, .sl false 2 (mA a.1.Counts), .sl false 4 (a.1.States.map Qb)] : List DC))) Uv i28 rfl ?_
 obtain ⟨v, aq, h⟩ := bind_some h
 refine sp rfl (H9 rfl (dk rfl) Tryz.func10 rfl rfl (Q5.cons rfl Q5.nil) (.tab 3 rfl (.nil)) (Qhr K aq) ?_)
 refine mw rfl ?_
 refine oE rfl ?_
 refine oE rfl ?_
 refine sp rfl (Zh rfl (dk rfl) i28 rfl (fun a2 => ?_))
 refine sp rfl (Qy (i := 0) (cells' := ((Zi.oc 256 .u8 v.1.Split.Of) ++ (([.d (.int .i64 v.1.Split.Many), .d (.sl false 2 (mA v.1.Counts)), .d (.sl false 4 (v.1.States.map Qb))]:List OC)))) rfl rfl i28 rfl rfl rfl rfl (nb rfl) rfl ?_)
 refine aw rfl ?_
 refine TL'.nil (tN ?_)
 refine T.seq ?_
 refine T.seq (Qr ?_)
 refine oA 1 ((Zi.dc 256 .u8 a.1.Split.Of) ++ (([.int .i64 a.1.Split.Many, .sl false 2 (mA a.1.Counts), .sl false 4 (a.1.States.map Qb)] : List DC))) Uv i28 rfl ?_
 obtain ⟨a3, au, h⟩ := bind_some h
 refine sp rfl (Q0 rfl (dk rfl) Tryz.func19 rfl rfl (Q5.cons rfl Q5.nil) (Zm.nil (N9 K au)) ?_)
 refine oT rfl ?_
 refine mw rfl ?_
 rcases Qd h with ⟨w, h⟩ | ⟨w, h⟩
 refine pf rfl w ?_
 refine pf rfl w ?_
 refine oY w rfl ?_
 refine mw rfl ?_
 refine pf rfl rfl ?_
 refine pf rfl rfl ?_
 refine pf rfl rfl ?_
 refine pf rfl rfl ?_
 refine oY rfl rfl ?_
 refine mw rfl ?_
 refine pf rfl rfl ?_
 refine pf rfl rfl ?_
 refine pf rfl rfl ?_
 refine pf rfl rfl ?_
 refine pf rfl rfl ?_
 refine pf rfl rfl ?_
 refine pf rfl rfl ?_
 refine oY rfl rfl ?_
 refine TL'.nil (tN ?_)
 refine Qq rfl rfl ?_
 refine Qm ?_ (U4 K h)
 exact tr rfl (.c (.s (.s (.s (.s .z)))) (.n _))
 refine sn rfl w (OpT.move rfl (dk rfl) rfl ?_)
 refine sn rfl w (Zj rfl rfl (dk rfl) rfl rfl ?_)
 refine oZ w rfl ?_
 refine mw rfl ?_
 rcases Qd h with ⟨q, h⟩ | ⟨q, h⟩
 refine pf rfl q ?_
 refine pf rfl q ?_
 refine pf rfl q ?_
 refine pf rfl q ?_
 refine oY q rfl ?_
 refine mw rfl ?_
 refine pf rfl rfl ?_
 refine pf rfl rfl ?_
 refine pf rfl rfl ?_
 refine pf rfl rfl ?_
 refine pf rfl rfl ?_
 refine pf rfl rfl ?_
 refine pf rfl rfl ?_
 refine oY rfl rfl ?_
 refine TL'.nil (tN ?_)
 refine Qq rfl rfl ?_
 refine Qm ?_ (U4 K h)
 exact tr rfl (.c (.s (.s (.s (.s .z)))) (.n _))
 refine sn rfl q (Uh (i := 1) (l := ((Zi.dc 256 .u8 a.1.Split.Of) ++ (([.int .i64 a.1.Split.Many, .sl false 2 (mA a.1.Counts), .sl false 4 (a.1.States.map Qb)] : List DC)))) rfl (dk rfl) Uv rfl i28 rfl rfl rfl rfl ?_)
 refine sn rfl q (Uh (i := 0) (l := ((Zi.dc 256 .u8 v.1.Split.Of) ++ (([.int .i64 v.1.Split.Many, .sl false 2 (mA v.1.Counts), .sl false 4 (v.1.States.map Qb)] : List DC)))) rfl (dk rfl) Uv rfl i28 rfl rfl rfl rfl ?_)
 obtain ⟨a4, av, h⟩ := bind_some h
 refine sn rfl q (Q0 rfl (dk rfl) Tryz.func15 rfl rfl (Q5.cons rfl (Q5.cons rfl Q5.nil)) (Zm.nil (Qfc K av)) ?_)
 refine sn rfl q (OpT.not rfl (dk rfl) rfl ?_)
 refine oZ q rfl ?_
 refine mw rfl ?_
 rcases Qd h with ⟨g, h⟩ | ⟨g, h⟩
 refine pf rfl g ?_
 refine pf rfl g ?_
 refine pf rfl g ?_
 refine pf rfl g ?_
 refine pf rfl g ?_
 refine pf rfl g ?_
 refine pf rfl g ?_
 refine oY g rfl ?_
 refine TL'.nil (tN ?_)
 refine Qq rfl rfl ?_
 refine Qm ?_ (U4 K h)
 exact tr rfl (.c (.s (.s (.s (.s .z)))) (.n _))
 refine sn rfl g (Zs rfl (dk rfl) Uv rfl i26 (by decide) rfl ?_)
 refine sn rfl g (Zn (i := 1) rfl (dk rfl) Us rfl rfl rfl rfl ?_)
 refine sn rfl g (Zw (xs := a.1.States) (f := Qb) rfl (dk rfl) Us rfl ?_)
 refine sn rfl g (Zs rfl (dk rfl) Uv rfl i26 (by decide) rfl ?_)
 refine sn rfl g (Zn (i := 2) rfl (dk rfl) Us rfl rfl rfl rfl ?_)
 refine sn rfl g (Zw (xs := b.States) (f := Qb) rfl (dk rfl) Us rfl ?_)
 refine sn rfl g (Zj rfl rfl (dk rfl) rfl rfl ?_)
 refine oZ g rfl ?_
 refine TL'.nil (tN ?_)
 rcases Qd h with ⟨aa, h⟩ | ⟨aa, h⟩
 refine Qq rfl aa ?_
 refine Qm ?_ (U4 K h)
 exact tr rfl (.c (.s (.s (.s (.s .z)))) (.n _))
 refine Qp rfl aa ?_
 refine T.skip (tN ?_)
 refine T.seq ?_
 refine T.seq (Qr ?_)
 refine oA 1 ((Zi.dc 256 .u8 a.1.Split.Of) ++ (([.int .i64 a.1.Split.Many, .sl false 2 (mA a.1.Counts), .sl false 4 (a.1.States.map Qb)] : List DC))) Uv i28 rfl ?_
 obtain ⟨ab, ay, h⟩ := bind_some h
 refine sp rfl (Q0 rfl (dk rfl) Tryz.func12 rfl rfl (Q5.cons rfl Q5.nil) (Zm.nil (Qdn K ay)) ?_)
 refine oU ab cB ul33 rfl ?_
 refine mw rfl ?_
 refine TL'.nil (tN ?_)
 refine T.block ?_
 refine T.loop ?_
 refine Qh ?_ (Pm K K ad ab (ab.length : Int) (0:Int) a.1.Split.Of a.1.Split.Many a.1.Counts a.1.States aj h)
 exact tr rfl (.c (.s .z) (.c (.s (.s (.s .z))) (.n _)))
end Go.Rv

/- Each function computes what its plain text says: printed by a program of ours. -/
import Derived.Test.YtcmfaclkgdmpbaaGreatDoorRgW8
namespace Go.Rv
open Go.Proofs
set_option maxRecDepth 100000
set_option maxHeartbeats 4000000
set_option linter.unusedVariables false
abbrev Ko (r : Bool) : ES := Jq tp ff5 (fun y t => y = (.bool r) ∧ t = [.tab 0 Ub])
abbrev Ny (r : Bool) : ES := fT 136 [1,1,1,1,1] ff5 (Ko r)
abbrev F0 (r : Bool) : ES := fT 136 [1,1,1,1,1,1,1] ff5 (Ko r)
abbrev D7 (r : Bool) : ES := fT 136 [1,1,1,1,1,1,1,1,1] ff5 (Ko r)
abbrev W1 (r : Bool) : ES := Qz 0 ((D7 r))
abbrev C7 (r : Bool) : ES := fL 136 [1,1,1,1,1,1,1,1,0,1,0,0] ff5 (W1 r)
abbrev Mv (r : Bool) : ES := fT 136 [1,1,1,1,1,1,1,1,0,1,0,0,1,1,1] ff5 (C7 r)
abbrev Xm (r : Bool) : ES := Qz 1 ((Mv r))
abbrev H3 (r : Bool) : ES := fT 136 [1,1,1,1,1,1,1,1,0,1,0,0,1,1,0,0,1,1,1,1,1,1,1] ff5 (Xm r)
theorem Bu {r : Bool} (K : Nat) (a : Bool) (h : J9 K a = some r) : T tp 136 (ca [1,1,1,1,0,1,0] ff5) ⟨[(5, .bool a)], [.tab 0 Ub]⟩ (Ny r) := by
 unfold J9 at h
 refine sR (Qs (mw rfl (aw rfl (nL (tN (T.ret (Qr (Q6 (.cons _ _ _ _ (.tmp 4 _ rfl) .nil) (.cons 0 rfl (.nil _)) (by cases h; exact ⟨rfl, rfl⟩)))))))))
theorem Bt {r : Bool} (K : Nat) (h : J8 K = some r) : T tp 136 (ca [1,1,1,1,1,1,0,1,0] ff5) ⟨[], [.tab 0 Ub]⟩ (F0 r) := by
 unfold J8 at h
 refine sR (Qs (aw rfl (nL (tN (T.ret (Qr (Q6 (.cons _ _ _ _ (.tmp 4 _ rfl) .nil) (.cons 0 rfl (.nil _)) (by cases h; exact ⟨rfl, rfl⟩))))))))
theorem Bq {r : Bool} (K : Nat) (h : J7 K = some r) : T tp 136 (ca [1,1,1,1,1,1,1,1,0,1,0,0,1,1,0,0,1,1,1,1,1,1,1,1,0] ff5) ⟨[], [.tab 0 Ub]⟩ (Xm r) := by
 unfold J7 at h
 refine sR (Qs (aw rfl (nL (tN (T.ret (Q1 (Qr (Qr (Q1 (Qr (Q6 (.cons _ _ _ _ (.tmp 4 _ rfl) .nil) (.cons 0 rfl (.nil _)) (by cases h; exact ⟨rfl, rfl⟩))))))))))))
abbrev Ht (r : Bool) (go : ByteArray → Bool → Int → Int → Int → Qj → Zp → Int → (List Xf) → (List Qa) → Bool → (List Zg) → Option Bool) : Prop := ∀ (x1 : ByteArray) (a : Bool) (b c f : Int) (x0 : Qj) (g : Zp) (i : Int) (j : List Xf) (l : List Qa) (m : Bool) (n : List Zg) (p q s : Nat), go x1 a b c f x0 g i j l m n = some r → TL tp 136 (ca [1,1,1,1,1,1,1,1,0,1,0,0] ff5) ⟨[(1, .str x1), (2, .ptr p 0), (5, .bool a), (8, .ptr q 0), (10, .ptr s 0), (11, .int .i64 b), (51, .int .i64 c), (52, .int .i64 f)], [(Qcv p x0.First x0.P), (Qhw q g i j l), (Qet s m n), .tab 0 Ub]⟩ (W1 r)
theorem Br {r : Bool} (K : Nat) (go2 : ByteArray → Bool → Int → Int → Int → Qj → Zp → Int → (List Xf) → (List Qa) → Bool → (List Zg) → Option Bool) (hgo2 : Ht r go2) (x1 : ByteArray) (aj : Bool) (b ab : Int) (al am : Int) (x0 : Qj) (af : Zp) (ag : Int) (ai : List Xf) (q : List Qa) (w : Bool) (y : List Zg) (ac p ad : Nat) (h : Vm K go2 x1 aj b ab al am x0 af ag ai q w y = some r) : T tp 136 (ca [1,1,1,1,1,1,1,1,0,1,0,0,1,1,0,0,1,1,1,1,1,1,0,1,1] ff5) ⟨[(1, .str x1), (2, .ptr ac 0), (5, .bool aj), (8, .ptr p 0), (10, .ptr ad 0), (11, .int .i64 b), (15, .int .i64 ab), (51, .int .i64 al), (52, .int .i64 am)], [(Qcv ac x0.First x0.P), (Qhw p af ag ai q), (Qet ad w y), .tab 0 Ub]⟩ (H3 r) := by
 unfold Vm at h
 refine T.skip (tN (T.seq (Z7 (dV rfl rfl (dI rfl (.f rfl) rfl (dV rfl rfl ?_))))))
 rcases Qd h with ⟨g, h⟩ | ⟨g, h⟩
 refine dW 0 [.sl false 1 (mI x0.First), .sl false 9 (x0.P.map Qv)] rfl (.n g rfl) F7 i43 rfl (dW 2 [.bool w, .sl false 2 (y.map Za)] rfl (.n g rfl) Qa4 i47 rfl ?_)
 obtain ⟨j, ap, h⟩ := bind_some h
 refine dH fu21 (Zm.nil (Dj K ap)) rfl (.n g rfl) rfl (dP rfl (.n g rfl) Wn i26 rfl (dL 1 rfl (.n g rfl) Jm rfl (dM rfl (.n g rfl) rfl ?_)))
 obtain ⟨a, aq, h⟩ := bind_some h
 refine dX q Qh rfl (.n g rfl) Jm i51 aq rfl (dQ rfl (.n g rfl) Hx i38 rfl (dR rfl (.n g rfl) Zs rfl (dN a.Rule (cI .i64) rfl (.n g rfl) Zs rfl (dI rfl (.n g rfl) rfl (dM rfl (.n g rfl) rfl ?_)))))
 rcases Qd h with ⟨m, h⟩ | ⟨m, h⟩
 refine dO m rfl rfl (dO m rfl rfl (dO m rfl rfl (dO m rfl rfl (dO m rfl rfl (dO m rfl rfl (dO m rfl rfl ?_))))))
 refine dO m rfl rfl (dO m rfl rfl (dO m rfl rfl (dO m rfl rfl (dO m rfl rfl (dO m rfl rfl (dY rfl (.n g rfl) m rfl ?_))))))
 refine dY rfl (.f rfl) g rfl (dF [0,1,3,7,7,31,7,71,7,455,967,1991,4039,8191,16383,32767,65535,32767,262143,524287,1048575,32767,32767,6324223,16777215,33554431,32767,134217727,268435455,536870911] Q0 rfl (by kernel_rfl) (fun u hu => (tN (Qg hu (Qp rfl rfl ?_)))))
 refine Qg ?_ (Bq K h)
 exact tr rfl (.c (.s (.s (.s .z))) (.n _))
 refine dP rfl (.n m rfl) Wn i26 rfl (dL 1 rfl (.n m rfl) Jm rfl (dM rfl (.n m rfl) rfl (dX q Qh rfl (.n m rfl) Jm i51 aq rfl (dQ rfl (.n m rfl) Hx i38 rfl (dR rfl (.n m rfl) Zs rfl (dW 0 [.sl false 1 (mI x0.First), .sl false 9 (x0.P.map Qv)] rfl (.n m rfl) F7 i43 rfl ?_))))))
 refine dW 2 [.bool w, .sl false 2 (y.map Za)] rfl (.n m rfl) Qa4 i47 rfl (dH fu21 (Zm.nil (Dj K ap)) rfl (.n m rfl) rfl ?_)
 obtain ⟨aa, au, h⟩ := bind_some h
 refine dX a.Rule (cI .i64) rfl (.n m rfl) Zs i3 au rfl (dR rfl (.n m rfl) ul3 rfl (dM rfl (.n m rfl) rfl (dI rfl (.n m rfl) rfl (dZ rfl (.n g rfl) m rfl (dY rfl (.f rfl) g rfl (dF [0,1,3,7,7,31,7,71,7,455,967,1991,4039,8191,16383,32767,65535,32767,262143,524287,1048575,32767,32767,6324223,16777215,33554431,32767,134217727,268435455,536870911] Q0 rfl (by kernel_rfl) (fun u hu => (tN (Qg hu ?_)))))))))
 rcases Qd h with ⟨an, h⟩ | ⟨an, h⟩
 refine Qp rfl an ?_
 refine Qg ?_ (Bq K h)
 exact tr rfl (.c (.s (.s (.s .z))) (.n _))
 refine Qo rfl an (T.skip (Qk (tN (Qs (oI rfl (mw rfl (nL (tN ?_))))))))
 refine Qe ?_ (hgo2 x1 aj b al (wI (am + (1:Int))) x0 af ag ai q w y ac p ad h)
 exact tq rfl rfl
 refine dO g rfl rfl (dO g rfl rfl (dO g rfl rfl (dO g rfl rfl (dO g rfl rfl (dO g rfl rfl (dO g rfl rfl ?_))))))
 refine dO g rfl rfl (dO g rfl rfl (dO g rfl rfl (dO g rfl rfl (dO g rfl rfl (dG rfl rfl (dG rfl rfl ?_))))))
 refine dG rfl rfl (dG rfl rfl (dG rfl rfl (dG rfl rfl (dG rfl rfl (dG rfl rfl (dG rfl rfl ?_))))))
 refine dG rfl rfl (dG rfl rfl (dG rfl rfl (dG rfl rfl (dO g rfl rfl (dZ rfl (.f rfl) g rfl (dF [0,1,3,7,7,31,7,71,7,455,967,1991,4039,8191,16383,32767,65535,32767,262143,524287,1048575,32767,32767,6324223,16777215,33554431,32767,134217727,268435455,536870911] Q0 rfl (by kernel_rfl) (fun u hu => (tN (Qg hu ?_)))))))))
 refine Qo rfl rfl (T.skip (Qk (tN (Qs (oI rfl (mw rfl (nL (tN ?_))))))))
 refine Qe ?_ (hgo2 x1 aj b al (wI (am + (1:Int))) x0 af ag ai q w y ac p ad h)
 exact tq rfl rfl
theorem Bs {r : Bool} (K : Nat) (go2 : ByteArray → Bool → Int → Int → Int → Qj → Zp → Int → (List Xf) → (List Qa) → Bool → (List Zg) → Option Bool) (hgo2 : Ht r go2) (x1 : ByteArray) (s : Bool) (v g : Int) (w y : Int) (x0 : Qj) (aa : Zp) (ab : Int) (ac : List Xf) (ad : List Qa) (j : Bool) (m : List Zg) (f q b : Nat) (h : Vn K go2 x1 s v g w y x0 aa ab ac ad j m = some r) : T tp 136 (ca [1,1,1,1,1,1,1,1,0,1,0,0,1,1,0,0,1,1,1,1] ff5) ⟨[(1, .str x1), (2, .ptr f 0), (5, .bool s), (8, .ptr q 0), (10, .ptr b 0), (12, .int .i64 v), (14, .int .i64 g), (51, .int .i64 w), (52, .int .i64 y)], [(Qcv f x0.First x0.P), (Qhw q aa ab ac ad), (Qet b j m), .tab 0 Ub]⟩ (Xm r) := by
 unfold Vn at h
 refine T.seq (Z7 (dW 0 [.sl false 1 (mI x0.First), .sl false 9 (x0.P.map Qv)] rfl (.f rfl) F7 i43 rfl (dW 2 [.bool j, .sl false 2 (m.map Za)] rfl (.f rfl) Qa4 i47 rfl (dV rfl rfl (dV rfl rfl ?_)))))
 obtain ⟨ag, h⟩ := Zb h
 refine dS (c := ⟨some 92, .int .u8 (bt x1 v), [(90, .str x1), (91, .int .i64 v)], [], []⟩) (fun t hm => oF rfl rfl (Hp rfl (dk rfl) ul9 hm.s0 hm.s1 ag.1 ag.2 rfl)) rfl rfl ?_
 obtain ⟨a, aj, h⟩ := bind_some h
 refine dH fu22 (Zm.nil (Qg6 K aj)) rfl (.f rfl) rfl (dV rfl rfl (dS (c := ⟨none, .any, [(10, .ptr b 0), (93, .agg [.bool a.Begin, .sl false 2 (a.L.map Za)])], [(2, (Qet b j m))], [(2, (Qet b a.Begin a.L))]⟩) (fun t hm => oF rfl rfl (Qy (i := 2) (cells' := [.d (.bool a.Begin), .d (.sl false 2 (a.L.map Za))]) rfl rfl i47 hm.s0 hm.s1 rfl hm.o0 (nb rfl) rfl rfl)) rfl rfl (dA rfl (.f rfl) rfl (dF [0,0,0,0,12,31,0,63,255] Q0 rfl (by kernel_rfl) (fun u hu => (tN (Qg hu (sR (Qs (oA 0 [.sl false 1 (mI x0.First), .sl false 9 (x0.P.map Qv)] F7 i43 rfl ?_))))))))))
 refine oA 2 [.bool a.Begin, .sl false 2 (a.L.map Za)] Qa4 i47 rfl ?_
 obtain ⟨ai, al, h⟩ := bind_some h
 refine oH fu23 (Zm.nil (Qg7 K al)) rfl (aw rfl (nL (tN (T.seq (sR (Qs (mw rfl (oI rfl ?_))))))))
 refine mw rfl ?_
 rcases Qd h with ⟨p, h⟩ | ⟨p, h⟩
 refine sn rfl p (OpT.move rfl (dk rfl) rfl (sn rfl p (Z1 rfl rfl (dk rfl) rfl rfl (oY p rfl (nL (tN ?_))))))
 rcases Qd h with ⟨af, h⟩ | ⟨af, h⟩
 refine Qp rfl af (sR (Qs (aw rfl (nL (tN (T.ret (Qr (Q1 (Qr (Qr (Q1 (Qr (Q6 (.cons _ _ _ _ (.tmp 4 _ rfl) .nil) (.cons 3 rfl (.nil _)) (by cases h; exact ⟨rfl, rfl⟩))))))))))))))
 refine Qo rfl af ?_
 refine Qg ?_ (Br K go2 hgo2 x1 s g ai w y x0 aa ab ac ad a.Begin a.L f q b h)
 exact tq rfl rfl
 refine pf rfl p (pf rfl p (oZ p rfl (nL (tN (Qo rfl rfl ?_)))))
 refine Qg ?_ (Br K go2 hgo2 x1 s g ai w y x0 aa ab ac ad a.Begin a.L f q b h)
 exact tq rfl rfl
theorem Sm {r : Bool} (K : Nat) : ∀ (k : Nat), Ht r (Zz K k) := by
 intro k
 induction k with
 | zero =>
  intro x1 af an ag j x0 q s w p aa ab ac b ad h
  exact zn h
 | succ k ih =>
  intro x1 af an ag j x0 q s w p aa ab ac b ad h
  rw [Zz] at h
  refine Q7 (sR (Qs (oI rfl (nL (tN (T.seq ?_))))))
  rcases Qd h with ⟨aj, h⟩ | ⟨aj, h⟩
  refine Qp rfl aj (T.skip (tN (T.seq (T.block (sR (Qs (mw rfl (aw rfl ?_))))))))
  refine nL (tN (sR (Qs (oA 0 [.sl false 1 (mI x0.First), .sl false 9 (x0.P.map Qv)] F7 i43 rfl (oA 2 [.bool aa, .sl false 2 (ab.map Za)] Qa4 i47 rfl ?_)))))
  obtain ⟨au, av, h⟩ := bind_some h
  refine oH fu21 (Zm.nil (Dj K av)) rfl (aw rfl (nL (tN (sR (Qs (aw rfl (nL (tN (T.seq (sR (Qs ?_)))))))))))
  refine mw rfl (oI rfl (nL (tN ?_)))
  rcases Qd h with ⟨al, h⟩ | ⟨al, h⟩
  refine Qp rfl al (T.seq (sR (Qs (mw rfl (oP Wn i26 rfl (oL 1 Jm rfl (mw rfl ?_)))))))
  obtain ⟨g, ap, h⟩ := bind_some h
  refine oX p Qh Jm i51 ap rfl (sp rfl (Xy rfl (dk rfl) Hx rfl i49 (by decide) rfl (oR T0 rfl (oU g.Next (cL 2 Qn) T0 rfl (oI rfl (nL (tN ?_)))))))
  rcases Qd h with ⟨am, h⟩ | ⟨am, h⟩
  refine Qp rfl am (sR (Qs (aw rfl (nL (tN (T.ret (Qr (Qr (Q1 (Qr (Qr (Q1 (Qr (Q6 (.cons _ _ _ _ (.tmp 4 _ rfl) .nil) (.cons 3 rfl (.nil _)) (by cases h; exact ⟨rfl, rfl⟩)))))))))))))))
  refine Qo rfl am (T.skip (tN (Z7 (dP rfl (.f rfl) Wn i26 rfl (dL 1 rfl (.f rfl) Jm rfl (dV rfl rfl (dX p Qh rfl (.f rfl) Jm i51 ap rfl ?_)))))))
  refine dQ rfl (.f rfl) Hx i49 rfl (dR rfl (.f rfl) T0 rfl (dV rfl rfl ?_))
  obtain ⟨y, ay, h⟩ := bind_some h
  refine dX g.Next (cL 2 Qn) rfl (.f rfl) T0 i55 ay rfl (dR rfl (.f rfl) Rs rfl (dV rfl rfl (dV rfl rfl ?_)))
  obtain ⟨aq, h⟩ := Zb h
  refine dS (c := ⟨some 80, .int .u8 (bt x1 j), [(78, .str x1), (79, .int .i64 j)], [], []⟩) (fun t hm => oF rfl rfl (Hp rfl (dk rfl) ul9 hm.s0 hm.s1 aq.1 aq.2 rfl)) rfl rfl (dP rfl (.f rfl) Wn i24 rfl (dP rfl (.f rfl) ul24 i22 rfl ?_))
  obtain ⟨ai, h⟩ := Zb h
  refine dS (c := ⟨some 83, .ptr b (0 + 0 + 0 + (Int.toNat (bt x1 j)) * 1), [(82, .ptr b (0 + 0 + 0)), (80, .int .u8 (bt x1 j))], [], []⟩) (fun t hm => oF rfl rfl (Y4 rfl (dk rfl) ul22 i5 hm.s0 hm.s1 ai.1 ai.2 rfl)) rfl rfl (dS (c := ⟨some 84, .int .u8 (Zp.get q (bt x1 j)), [(83, .ptr b (0 + 0 + 0 + (Int.toNat (bt x1 j)) * 1))], [(1, (Qhw b q s w p))], []⟩) (fun t hm => oF rfl rfl (Yb (i := 1) rfl (dk rfl) ul5 rfl hm.s0 hm.o0 (Qa1 (n := 256) (k := .u8) (a := q) (pre := []) (post := [.d (.int .i64 s), .d (.sl false 2 (mA w)), .d (.sl false 4 (p.map Qh))]) ai.1 ai.2) rfl)) rfl rfl ?_)
  obtain ⟨m, az, h⟩ := bind_some h
  refine dX y Qn rfl (.f rfl) Rs i54 az rfl (dQ rfl (.f rfl) Dq i3 rfl (dR rfl (.f rfl) ul3 rfl (dA rfl (.f rfl) rfl (dF [0,1,0,7,15,31,0,127,255,0,0,1536,0,4096,15872,32256,65535,131071,262143,524287] Q0 rfl (by kernel_rfl) (fun u hu => (tN (Qg hu ?_)))))))
  refine Qg ?_ (Bs K (Zz K k) ih x1 af j m.To ag j x0 q s w p aa ab ac b ad h)
  exact tq rfl rfl
  refine Qo rfl al (T.skip (tN ?_))
  refine Qg ?_ (Bs K (Zz K k) ih x1 af j (-1:Int) ag j x0 q s w p aa ab ac b ad h)
  exact tq rfl rfl
  refine Qo rfl aj (T.exit (Ql (Ql (Qu (tN (sR (Qs (mw rfl (aw rfl (nL (tN (T.ret ?_))))))))))))
  exact Q6 (.cons _ _ _ _ (.tmp 4 _ rfl) .nil) (.cons 3 rfl (.nil _)) (by cases h; exact ⟨rfl, rfl⟩)
theorem Qct (K : Nat) {x0 : Qj} {x1 : ByteArray} {r : Bool} (h : V1 K x0 x1 = some r) : Zm tp 5 [.agg [.sl false 1 (mI x0.First), .sl false 9 (x0.P.map Qv)], .str x1] [.tab 0 Ub] (.bool r) := by
 refine CI 136 fu5 rfl ?_
 unfold V1 at h
 refine sR (Qs (sp rfl (Q9 rfl (dk rfl) rfl (fun v => (aw rfl (nL (tN (sR (Qs ?_)))))))))
 obtain ⟨m, w, h⟩ := bind_some h
 refine sp rfl (Ch rfl (dk rfl) fu14 rfl rfl Zw.nil (.tab 1 rfl (.nil)) (Qgi K w) (aw rfl (nL (tN (T.seq (sR (Qs (oP F7 i41 rfl (oL 0 Ci rfl ?_)))))))))
 refine oU x0.P Qv Ci rfl (oI rfl (nL (tN ?_)))
 rcases Qd h with ⟨p, h⟩ | ⟨p, h⟩
 refine Qp rfl p (sR (Qs (mw rfl (aw rfl (nL (tN (T.ret (Qr (Q6 (.cons _ _ _ _ (.tmp 4 _ rfl) .nil) (.cons 1 rfl (.nil _)) (by cases h; exact ⟨rfl, rfl⟩))))))))))
 refine Qo rfl p (T.skip (tN (sR (Qs (oA 0 [.sl false 1 (mI x0.First), .sl false 9 (x0.P.map Qv)] F7 i43 rfl ?_)))))
 obtain ⟨g, y, h⟩ := bind_some h
 refine oH fu20 (Zm.nil (Qba K y)) rfl (mw rfl (oE rfl (oE rfl (sp rfl (Ze rfl (dk rfl) i28 rfl (fun af => (sp rfl (Qy (i := 0) (cells' := ((Zp.oc 256 .u8 g.1.Split.Of) ++ (([.d (.int .i64 g.1.Split.Many), .d (.sl false 2 (mA g.1.Counts)), .d (.sl false 4 (g.1.States.map Qh))]:List OC)))) rfl rfl i28 rfl rfl rfl rfl (nb rfl) rfl (aw rfl ?_)))))))))
 refine nL (tN (T.seq (sR (Qs (mw rfl (oI rfl (mw rfl ?_)))))))
 rcases Qd h with ⟨b, h⟩ | ⟨b, h⟩
 refine pf rfl b (pf rfl b (pf rfl b (pf rfl b (oY b rfl (nL (tN (Qp rfl rfl ?_)))))))
 refine Qg ?_ (Bu K m h)
 exact tr rfl (.c (.s (.s .z)) (.n _))
 refine sn rfl b (Vf rfl (dk rfl) Wn rfl i26 (by decide) rfl (sn rfl b (Yb (i := 0) rfl (dk rfl) Jm rfl rfl rfl rfl (sn rfl b (Yz (xs := g.1.States) (f := Qh) rfl (dk rfl) Jm rfl (sn rfl b (Z1 rfl rfl (dk rfl) rfl rfl (oZ b rfl (nL (tN ?_))))))))))
 rcases Qd h with ⟨q, h⟩ | ⟨q, h⟩
 refine Qp rfl q ?_
 refine Qg ?_ (Bu K m h)
 exact tr rfl (.c (.s (.s .z)) (.n _))
 refine Qo rfl q (T.skip (tN (sR (Qs (oA 0 ((Zp.dc 256 .u8 g.1.Split.Of) ++ (([.int .i64 g.1.Split.Many, .sl false 2 (mA g.1.Counts), .sl false 4 (g.1.States.map Qh)] : List DC))) Wn i28 rfl ?_)))))
 obtain ⟨a, aa, h⟩ := bind_some h
 refine sp rfl (Ch rfl (dk rfl) fu10 rfl rfl (Zw.cons rfl Zw.nil) (.tab 2 rfl (.nil)) (trim_Of_T K aa) (mw rfl (oE rfl (oE rfl (sp rfl (Ze rfl (dk rfl) i28 rfl (fun ab => (sp rfl (Qy (i := 0) (cells' := ((Zp.oc 256 .u8 a.1.Split.Of) ++ (([.d (.int .i64 a.1.Split.Many), .d (.sl false 2 (mA a.1.Counts)), .d (.sl false 4 (a.1.States.map Qh))]:List OC)))) rfl rfl i28 rfl rfl rfl rfl (nb rfl) rfl (aw rfl ?_))))))))))
 refine nL (tN (T.seq (sR (Qs (mw rfl (oI rfl (mw rfl ?_)))))))
 rcases Qd h with ⟨j, h⟩ | ⟨j, h⟩
 refine pf rfl j (pf rfl j (pf rfl j (oY j rfl (nL (tN (Qp rfl rfl ?_))))))
 refine Qg ?_ (Bt K h)
 exact tr rfl (.c (.s (.s (.s .z))) (.n _))
 refine sn rfl j (F5 (i := 0) (l := ((Zp.dc 256 .u8 a.1.Split.Of) ++ (([.int .i64 a.1.Split.Many, .sl false 2 (mA a.1.Counts), .sl false 4 (a.1.States.map Qh)] : List DC)))) rfl (dk rfl) Wn rfl i28 rfl rfl rfl rfl ?_)
 obtain ⟨ag, ac, h⟩ := bind_some h
 refine sn rfl j (Uv rfl (dk rfl) fu19 rfl rfl (Zw.cons rfl Zw.nil) (Zm.nil (Qfp K ac)) (sn rfl j (OpT.not rfl (dk rfl) rfl (oZ j rfl (nL (tN ?_))))))
 rcases Qd h with ⟨u, h⟩ | ⟨u, h⟩
 refine Qp rfl u ?_
 refine Qg ?_ (Bt K h)
 exact tr rfl (.c (.s (.s (.s .z))) (.n _))
 refine Qo rfl u (T.skip (tN (sR (Qs (sp rfl (OpT.build (l := [.bool true, .ex (.slice none 0 0)]) rfl (dk rfl) (Zr (pl := [(0, 1), (1, 1)]) Qa4 i47 rfl) (H4 rfl) rfl rfl (sp rfl (Ze rfl (dk rfl) i47 rfl (fun ad => (sp rfl (Qy (i := 0) (cells' := [.d (.bool true), .d (.ex (.slice none 0 0))]) rfl rfl i47 rfl rfl rfl rfl (nb rfl) rfl (aw rfl ?_))))))))))))
 refine nL (tN (T.seq (sR (Qs (mw rfl (sp rfl (N5 rfl (dk rfl) ul9 rfl (sp rfl (OpT.min2 rfl (dk rfl) rfl rfl (mw rfl ?_))))))))))
 refine nL (tN (T.block (T.loop (Qe (Jp 0 (l := [.bool true, .ex (.slice none 0 0)]) (l' := [.bool true, .sl false 2 (([] : List Zg).map Za)]) rfl (.cons (.same _) (.cons (.nil _ _) (.refl _)))) ?_))))
 refine Qe ?_ (Sm K K x1 m (0:Int) (if (60:Int) < (x1.size : Int) then (60:Int) else (x1.size : Int)) (0:Int) x0 a.1.Split.Of a.1.Split.Many a.1.Counts a.1.States true [] v ab ad h)
 exact tr rfl (.c (.s (.s (.s .z))) (.c (.s .z) (.c .z (.c (.s .z) (.n _)))))
end Go.Rv

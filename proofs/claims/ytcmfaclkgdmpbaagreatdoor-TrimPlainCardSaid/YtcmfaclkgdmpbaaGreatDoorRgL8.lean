/- Each function computes what its plain text says: printed by a program of ours. -/
import Derived.Test.YtcmfaclkgdmpbaaGreatDoorRgW8
namespace Go.Rv
open Go.Proofs
set_option maxRecDepth 100000
set_option maxHeartbeats 4000000
set_option linter.unusedVariables false
abbrev Po (r : Bool) : ES := Jz tp ff8 (fun y t => y = (.bool r) ∧ t = [.tab 0 Vo])
abbrev Cv (r : Bool) : ES := fT 99 [1,1,1,1,1,1] ff8 (Po r)
abbrev Wh (r : Bool) : ES := Qz 0 ((Cv r))
abbrev Bk (r : Bool) : ES := fL 99 [1,1,1,1,1,0,1,0,0] ff8 (Wh r)
abbrev Kr (r : Bool) : ES := fT 99 [1,1,1,1,1,0,1,0,0,1,1,1] ff8 (Bk r)
abbrev G3 (r : Bool) : ES := Qz 1 ((Kr r))
abbrev V2 (r : Bool) : ES := Qz 2 ((G3 r))
abbrev G2 (r : Bool) : ES := fL 99 [1,1,1,1,1,0,1,0,0,1,1,0,0,1,1,0,0] ff8 (V2 r)
abbrev Hh (r : Bool) : ES := fT 99 [1,1,1,1,1,0,1,0,0,1,1,0,0,1,1,0,0,1,1,1] ff8 (G2 r)
abbrev Jf (r : Bool) : ES := Qz 3 ((Hh r))
abbrev L7 (r : Bool) (go : Bool → (List Int) → Int → Int → Int → Int → (List Int) → (List Q5) → Option Bool) : Prop := ∀ (b : Bool) (a : List Int) (c f : Int) (g i : Int) (j : List Int) (l : List Q5) (m : Nat) (n : Value), go b a c f g i j l = some r → TL tp 99 (ca [1,1,1,1,1,0,1,0,0,1,1,0,0,1,1,0,0] ff8) ⟨[(3, .bool b), (4, .sl false 1 (mU a)), (5, .ptr m 0), (6, .int .i64 c), (28, .int .i64 f), (31, .sl false 1 (mU a)), (32, .int .i64 g), (33, .int .i64 i)], [(b43x0 m j n), .arrA n 65 9 (l.map Qx), .tab 0 Vo]⟩ (V2 r)
theorem L9 {r : Bool} (K : Nat) (go1 : Bool → (List Int) → Int → Int → Int → Int → (List Int) → (List Q5) → Option Bool) (hgo1 : L7 r go1) (q : Bool) (j : List Int) (u v : Int) (w y : Int) (m : List Int) (p : List Q5) (a : Zh) (b : Bool) (g : List Int) (aa : Nat) (ab : Value) (ac : Nat) (h : Xo K go1 q j u v w y m p a b g = some r) : T tp 99 (ca [1,1,1,1,1,0,1,0,0,1,1,0,0,1,1,0,0,1,1,0,0,1,1,1,1] ff8) ⟨[(3, .bool q), (4, .sl false 1 (mU j)), (5, .ptr aa 0), (6, .int .i64 u), (9, .ptr ac 0), (28, .int .i64 v), (31, .sl false 1 (mU j)), (32, .int .i64 w), (33, .int .i64 y)], [(b43x0 aa m ab), .arrA ab 65 9 (p.map Qx), .box ac 65 [.d (.int .u64 a.a0), .d (.int .u64 a.a1), .d (.int .u64 a.a2), .d (.int .u64 a.a3), .d (.int .i64 (1:Int)), .d (.int .i64 (1:Int)), .d (.int .i64 (0:Int)), .d (.bool b), .d (.sl false 1 (mI g))], .tab 0 Vo]⟩ (Jf r) := by
 unfold Xo at h
 refine Qq (oP Qbw i41 rfl (oL 0 F1 rfl (oA 2 [.int .u64 a.a0, .int .u64 a.a1, .int .u64 a.a2, .int .u64 a.a3, .int .i64 (1:Int), .int .i64 (1:Int), .int .i64 (0:Int), .bool b, .sl false 1 (mI g)] Qbv i65 rfl (sp rfl (OpT.buildSlice (elems := ([(Q5.mk a (1:Int) (1:Int) (0:Int) b g)] : List Q5).map Qx) rfl (dk rfl) F1 i65 (by decide) rfl (Hb rfl) rfl rfl rfl (Xh rfl) (by decide) ?_)))))
 obtain ⟨af, h⟩ := Q9 h
 refine sp rfl (Zj (i := 1) (xs := p) (ys := [(Q5.mk a (1:Int) (1:Int) (0:Int) b g)]) (f := Qx) rfl (dk rfl) F1 i65 rfl rfl rfl rfl af (fun ad => (oP Qbw i41 rfl (sp rfl (V3 (i := 0) (cells' := [.d (.sl false 1 (mI m)), .d (.ex ad)]) rfl rfl i41 rfl rfl rfl (nb rfl) rfl (nL (Qj (tN (Qq (oI rfl (mw rfl ?_)))))))))))
 refine nL (tN ?_)
 refine Qg ?_ (hgo1 q j u v w (wI (y + (1:Int))) m (p ++ [(Q5.mk a (1:Int) (1:Int) (0:Int) b g)]) aa ad h)
 exact tr rfl (.c .z (.c .z (.c (.s .z) (.n _))))
abbrev L8 (r : Bool) (go : Bool → (List Int) → Int → (List Int) → (List Q5) → Option Bool) : Prop := ∀ (a : Bool) (b : List Int) (c : Int) (f : List Int) (g : List Q5) (i : Nat) (j : Value), go a b c f g = some r → TL tp 99 (ca [1,1,1,1,1,0,1,0,0] ff8) ⟨[(3, .bool a), (4, .sl false 1 (mU b)), (5, .ptr i 0), (28, .int .i64 c)], [(b43x0 i f j), .arrA j 65 9 (g.map Qx), .tab 0 Vo]⟩ (Wh r)
theorem Ip {r : Bool} (K : Nat) (go0 : Bool → (List Int) → Int → (List Int) → (List Q5) → Option Bool) (hgo0 : L8 r go0) : ∀ (k : Nat), L7 r (Zt K go0 k) := by
 intro k
 induction k with
 | zero =>
  intro q g m u ac j w y aa ab h
  exact zn h
 | succ k ih =>
  intro q g m u ac j w y aa ab h
  rw [Zt] at h
  refine Za (sR (Qq (oI rfl (nL (tN (T.seq ?_))))))
  rcases Qh h with ⟨ad, h⟩ | ⟨ad, h⟩
  refine Qt rfl ad (T.skip (tN (T.seq (T.block (sR (Qq (mw rfl ?_)))))))
  obtain ⟨b, ai, h⟩ := bind_some h
  refine oX g (cI .u8) Mt i5 ai rfl (oR ul5 rfl (aw rfl (aw rfl (nL (tN (sR (Qq (mw rfl (mw rfl ?_)))))))))
  refine oU g (cI .u8) Mt rfl (oI rfl (oI rfl (sp rfl (Zi (OpT.build (l := [.int .u64 (Zh.mk 0 0 0 0).a0, .int .u64 (Zh.mk 0 0 0 0).a1, .int .u64 (Zh.mk 0 0 0 0).a2, .int .u64 (Zh.mk 0 0 0 0).a3, .int .i64 (1:Int), .int .i64 (1:Int), .int .i64 (0:Int), .bool (j == (wI ((g.length : Int) - (1:Int)))), .ex (.slice none 0 0)]) rfl (dk rfl) (Zp (pl := [(0, 4), (4, 1), (5, 1), (6, 1), (7, 1), (8, 1)]) Qbv i65 rfl) (Hb rfl) rfl rfl rfl) (Zy 43 (l := [.int .u64 (Zh.mk 0 0 0 0).a0, .int .u64 (Zh.mk 0 0 0 0).a1, .int .u64 (Zh.mk 0 0 0 0).a2, .int .u64 (Zh.mk 0 0 0 0).a3, .int .i64 (1:Int), .int .i64 (1:Int), .int .i64 (0:Int), .bool (j == (wI ((g.length : Int) - (1:Int)))), .ex (.slice none 0 0)]) (l' := [.int .u64 (Zh.mk 0 0 0 0).a0, .int .u64 (Zh.mk 0 0 0 0).a1, .int .u64 (Zh.mk 0 0 0 0).a2, .int .u64 (Zh.mk 0 0 0 0).a3, .int .i64 (1:Int), .int .i64 (1:Int), .int .i64 (0:Int), .bool (j == (wI ((g.length : Int) - (1:Int)))), .sl false 1 (([] : List Int).map (cI .i64))]) (.cons (.same _) (.cons (.same _) (.cons (.same _) (.cons (.same _) (.cons (.same _) (.cons (.same _) (.cons (.same _) (.cons (.same _) (.cons (.nil _ _) (.refl _))))))))))) (sp rfl (Zg rfl (dk rfl) i65 rfl (fun ag => (sp rfl (Qv (i := 0) (cells' := [.d (.int .u64 (Zh.mk 0 0 0 0).a0), .d (.int .u64 (Zh.mk 0 0 0 0).a1), .d (.int .u64 (Zh.mk 0 0 0 0).a2), .d (.int .u64 (Zh.mk 0 0 0 0).a3), .d (.int .i64 (1:Int)), .d (.int .i64 (1:Int)), .d (.int .i64 (0:Int)), .d (.bool (j == (wI ((g.length : Int) - (1:Int))))), .d (.sl false 1 (([] : List Int).map (cI .i64)))]) rfl rfl i65 rfl rfl rfl rfl (nb rfl) rfl (nL (tN (sR (Qq ?_)))))))))))))
  refine mw rfl (sp rfl (OpT.quo rfl (dk rfl) rfl rfl (by decide) (mw rfl (sp rfl (OpT.rem rfl (dk rfl) rfl rfl (by decide) ?_)))))
  obtain ⟨aj, h⟩ := Q9 h
  refine sp rfl (OpT.shl rfl (dk rfl) rfl rfl aj (oP Qbv i63 rfl ?_))
  obtain ⟨p, h⟩ := Q9 h
  refine sp rfl (Uq rfl (dk rfl) Qdo i61 rfl rfl p.1 p.2 (sp rfl (V3 (i := 0) (cells' := [.d (.int .u64 (Zh.set (Zh.mk 0 0 0 0) (IntKind.u8.wrap (Int.tdiv b (64:Int))) (IntKind.u64.wrap ((1:Int) * 2 ^ min (Int.toNat (Int.tmod b (64:Int))) IntKind.u64.bits))).a0), .d (.int .u64 (Zh.set (Zh.mk 0 0 0 0) (IntKind.u8.wrap (Int.tdiv b (64:Int))) (IntKind.u64.wrap ((1:Int) * 2 ^ min (Int.toNat (Int.tmod b (64:Int))) IntKind.u64.bits))).a1), .d (.int .u64 (Zh.set (Zh.mk 0 0 0 0) (IntKind.u8.wrap (Int.tdiv b (64:Int))) (IntKind.u64.wrap ((1:Int) * 2 ^ min (Int.toNat (Int.tmod b (64:Int))) IntKind.u64.bits))).a2), .d (.int .u64 (Zh.set (Zh.mk 0 0 0 0) (IntKind.u8.wrap (Int.tdiv b (64:Int))) (IntKind.u64.wrap ((1:Int) * 2 ^ min (Int.toNat (Int.tmod b (64:Int))) IntKind.u64.bits))).a3), .d (.int .i64 (1:Int)), .d (.int .i64 (1:Int)), .d (.int .i64 (0:Int)), .d (.bool (j == (wI ((g.length : Int) - (1:Int))))), .d (.sl false 1 (([] : List Int).map (cI .i64)))]) rfl rfl i61 rfl rfl rfl (Zh.oc_lt (k := .u64) (a := (Zh.mk 0 0 0 0)) (pre := []) (post := [.d (.int .i64 (1:Int)), .d (.int .i64 (1:Int)), .d (.int .i64 (0:Int)), .d (.bool (j == (wI ((g.length : Int) - (1:Int))))), .d (.sl false 1 (([] : List Int).map (cI .i64)))]) p.1 p.2) (Qfr (k := .u64) (a := (Zh.mk 0 0 0 0)) (pre := []) (post := [.d (.int .i64 (1:Int)), .d (.int .i64 (1:Int)), .d (.int .i64 (0:Int)), .d (.bool (j == (wI ((g.length : Int) - (1:Int))))), .d (.sl false 1 (([] : List Int).map (cI .i64)))]) p.1 p.2) (nL (tN (T.seq (sR (Qq (oP Qbv i4 rfl (oL 0 ul4 rfl ?_))))))))))
  refine oT rfl (nL (tN ?_))
  rcases Qh h with ⟨af, h⟩ | ⟨af, h⟩
  refine Qt rfl af (Qq (mw rfl (mw rfl (oU g (cI .u8) Mt rfl (oI rfl (mw rfl ?_))))))
  refine oI rfl (oI rfl (sp rfl (OpT.buildSlice (elems := ([(wI ((wI ((wI (m * (g.length : Int))) + j)) + (1:Int)))] : List Int).map (cI .i64)) rfl (dk rfl) Z5 i3 (by decide) rfl (Hb rfl) rfl rfl rfl (Xh rfl) (by decide) (oP Qbv i38 rfl (sp rfl (V3 (i := 0) (cells' := [.d (.int .u64 (Zh.set (Zh.mk 0 0 0 0) (IntKind.u8.wrap (Int.tdiv b (64:Int))) (IntKind.u64.wrap ((1:Int) * 2 ^ min (Int.toNat (Int.tmod b (64:Int))) IntKind.u64.bits))).a0), .d (.int .u64 (Zh.set (Zh.mk 0 0 0 0) (IntKind.u8.wrap (Int.tdiv b (64:Int))) (IntKind.u64.wrap ((1:Int) * 2 ^ min (Int.toNat (Int.tmod b (64:Int))) IntKind.u64.bits))).a1), .d (.int .u64 (Zh.set (Zh.mk 0 0 0 0) (IntKind.u8.wrap (Int.tdiv b (64:Int))) (IntKind.u64.wrap ((1:Int) * 2 ^ min (Int.toNat (Int.tmod b (64:Int))) IntKind.u64.bits))).a2), .d (.int .u64 (Zh.set (Zh.mk 0 0 0 0) (IntKind.u8.wrap (Int.tdiv b (64:Int))) (IntKind.u64.wrap ((1:Int) * 2 ^ min (Int.toNat (Int.tmod b (64:Int))) IntKind.u64.bits))).a3), .d (.int .i64 (1:Int)), .d (.int .i64 (1:Int)), .d (.int .i64 (0:Int)), .d (.bool (j == (wI ((g.length : Int) - (1:Int))))), .d (.sl true 1 ([(wI ((wI ((wI (m * (g.length : Int))) + j)) + (1:Int)))].map (cI .i64)))]) rfl rfl i38 rfl rfl rfl (nb rfl) rfl (nL (tN (Qm (Jb 0 (l := [.int .u64 (Zh.set (Zh.mk 0 0 0 0) (IntKind.u8.wrap (Int.tdiv b (64:Int))) (IntKind.u64.wrap ((1:Int) * 2 ^ min (Int.toNat (Int.tmod b (64:Int))) IntKind.u64.bits))).a0, .int .u64 (Zh.set (Zh.mk 0 0 0 0) (IntKind.u8.wrap (Int.tdiv b (64:Int))) (IntKind.u64.wrap ((1:Int) * 2 ^ min (Int.toNat (Int.tmod b (64:Int))) IntKind.u64.bits))).a1, .int .u64 (Zh.set (Zh.mk 0 0 0 0) (IntKind.u8.wrap (Int.tdiv b (64:Int))) (IntKind.u64.wrap ((1:Int) * 2 ^ min (Int.toNat (Int.tmod b (64:Int))) IntKind.u64.bits))).a2, .int .u64 (Zh.set (Zh.mk 0 0 0 0) (IntKind.u8.wrap (Int.tdiv b (64:Int))) (IntKind.u64.wrap ((1:Int) * 2 ^ min (Int.toNat (Int.tmod b (64:Int))) IntKind.u64.bits))).a3, .int .i64 (1:Int), .int .i64 (1:Int), .int .i64 (0:Int), .bool (j == (wI ((g.length : Int) - (1:Int)))), .sl true 1 ([(wI ((wI ((wI (m * (g.length : Int))) + j)) + (1:Int)))].map (cI .i64))]) (l' := [.int .u64 (Zh.set (Zh.mk 0 0 0 0) (IntKind.u8.wrap (Int.tdiv b (64:Int))) (IntKind.u64.wrap ((1:Int) * 2 ^ min (Int.toNat (Int.tmod b (64:Int))) IntKind.u64.bits))).a0, .int .u64 (Zh.set (Zh.mk 0 0 0 0) (IntKind.u8.wrap (Int.tdiv b (64:Int))) (IntKind.u64.wrap ((1:Int) * 2 ^ min (Int.toNat (Int.tmod b (64:Int))) IntKind.u64.bits))).a1, .int .u64 (Zh.set (Zh.mk 0 0 0 0) (IntKind.u8.wrap (Int.tdiv b (64:Int))) (IntKind.u64.wrap ((1:Int) * 2 ^ min (Int.toNat (Int.tmod b (64:Int))) IntKind.u64.bits))).a2, .int .u64 (Zh.set (Zh.mk 0 0 0 0) (IntKind.u8.wrap (Int.tdiv b (64:Int))) (IntKind.u64.wrap ((1:Int) * 2 ^ min (Int.toNat (Int.tmod b (64:Int))) IntKind.u64.bits))).a3, .int .i64 (1:Int), .int .i64 (1:Int), .int .i64 (0:Int), .bool (j == (wI ((g.length : Int) - (1:Int)))), .sl false 1 ([(wI ((wI ((wI (m * (g.length : Int))) + j)) + (1:Int)))].map (cI .i64))]) rfl (.cons (.same _) (.cons (.same _) (.cons (.same _) (.cons (.same _) (.cons (.same _) (.cons (.same _) (.cons (.same _) (.cons (.same _) (.cons (.full _ _ _) (.refl _))))))))))) ?_)))))))))
  refine Qm ?_ (L9 K (Zt K go0 k) ih q g m u ac j w y (Zh.set (Zh.mk 0 0 0 0) (IntKind.u8.wrap (Int.tdiv b (64:Int))) (IntKind.u64.wrap ((1:Int) * 2 ^ min (Int.toNat (Int.tmod b (64:Int))) IntKind.u64.bits))) (j == (wI ((g.length : Int) - (1:Int)))) [(wI ((wI ((wI (m * (g.length : Int))) + j)) + (1:Int)))] aa ab ag h)
  exact tr rfl (.c (.s .z) (.c (.s .z) (.c .z (.c .z (.n _)))))
  refine Qo rfl af (T.skip (tN ?_))
  refine Qm ?_ (L9 K (Zt K go0 k) ih q g m u ac j w y (Zh.set (Zh.mk 0 0 0 0) (IntKind.u8.wrap (Int.tdiv b (64:Int))) (IntKind.u64.wrap ((1:Int) * 2 ^ min (Int.toNat (Int.tmod b (64:Int))) IntKind.u64.bits))) (j == (wI ((g.length : Int) - (1:Int)))) [] aa ab ag h)
  exact tr rfl (.c (.s .z) (.c (.s .z) (.c .z (.c .z (.n _)))))
  refine Qo rfl ad (T.exit (Qk (Qk (Qu (Qj (tN (Qq (oI rfl (mw rfl (nL (tN ?_)))))))))))
  refine Qg ?_ (hgo0 q g (wI (u + (1:Int))) w y aa ab h)
  exact tq rfl rfl
theorem Iq {r : Bool} (K : Nat) : ∀ (k : Nat), L8 r (Zu K k) := by
 intro k
 induction k with
 | zero =>
  intro y m u p v aa s h
  exact zn h
 | succ k ih =>
  intro y m u p v aa s h
  rw [Zu] at h
  refine Za (sR (Qq (oI rfl (nL (tN (T.seq ?_))))))
  rcases Qh h with ⟨w, h⟩ | ⟨w, h⟩
  refine Qt rfl w (T.skip (tN (T.seq (T.block (sR (Qq (mw rfl (aw rfl ?_))))))))
  refine nL (tN (sR (Qq (mw rfl (oU m (cI .u8) Mt rfl (mw rfl (nL (tN (T.block (T.loop ?_))))))))))
  refine Qg ?_ (Ip K (Zu K k) ih K y m u u (m.length : Int) (0:Int) p v aa s h)
  exact tq rfl rfl
  refine Qo rfl w (T.exit (Qk (Qk (Qu (tN (sR (Qq (sp rfl (Zi (Fx (i := 0) (l := [.sl false 1 (mI p), .ex s]) rfl (dk rfl) Qbw rfl i43 rfl rfl rfl rfl rfl) (Zy 72 (l := [.sl false 1 (mI p), .ex s]) (l' := [.sl false 1 (mI p), .sl false 9 (v.map Qx)]) (.cons (.same _) (.cons (.view 1 rfl) (.refl _)))) ?_)))))))))
  obtain ⟨b, ab, h⟩ := bind_some h
  refine oH fu20 (Z1.nil (P8 K ab)) rfl (mw rfl (oE rfl (oE rfl (sp rfl (Zg rfl (dk rfl) i28 rfl (fun ad => (sp rfl (Qv (i := 0) (cells' := ((Zn.oc 256 .u8 b.1.Split.Of) ++ (([.d (.int .i64 b.1.Split.Many), .d (.sl false 2 (mA b.1.Counts)), .d (.sl false 4 (b.1.States.map Qf))]:List OC)))) rfl rfl i28 rfl rfl rfl rfl (nb rfl) rfl (aw rfl ?_)))))))))
  refine nL (tN (sR (Qq (oA 0 ((Zn.dc 256 .u8 b.1.Split.Of) ++ (([.int .i64 b.1.Split.Many, .sl false 2 (mA b.1.Counts), .sl false 4 (b.1.States.map Qf)] : List DC))) G4 i28 rfl ?_))))
  obtain ⟨q, ac, h⟩ := bind_some h
  refine sp rfl (K9 rfl (dk rfl) fu10 rfl rfl (Zs.cons rfl Zs.nil) (.tab 3 rfl (.nil)) (trim_Of_T K ac) (mw rfl (oE rfl (oE rfl (sp rfl (Zg rfl (dk rfl) i28 rfl (fun af => (sp rfl (Qv (i := 0) (cells' := ((Zn.oc 256 .u8 q.1.Split.Of) ++ (([.d (.int .i64 q.1.Split.Many), .d (.sl false 2 (mA q.1.Counts)), .d (.sl false 4 (q.1.States.map Qf))]:List OC)))) rfl rfl i28 rfl rfl rfl rfl (nb rfl) rfl (aw rfl ?_))))))))))
  refine nL (tN (sR (Qq (mw rfl (mw rfl ?_)))))
  rcases Qh h with ⟨g, h⟩ | ⟨g, h⟩
  refine sn rfl g (OpT.move rfl (dk rfl) rfl (sn rfl g (Z9 rfl rfl (dk rfl) rfl rfl (oY g rfl (mw rfl ?_)))))
  rcases Qh h with ⟨j, h⟩ | ⟨j, h⟩
  refine sn rfl j (OpT.move rfl (dk rfl) rfl (sn rfl j (Z9 rfl rfl (dk rfl) rfl rfl (oY j rfl (mw rfl ?_)))))
  rcases Qh h with ⟨a, h⟩ | ⟨a, h⟩
  refine sn rfl a (Ur rfl (dk rfl) G4 rfl i26 (by decide) rfl (sn rfl a (Yr (i := 0) rfl (dk rfl) He rfl rfl rfl rfl (sn rfl a (Vm (xs := q.1.States) (f := Qf) rfl (dk rfl) He rfl (sn rfl a (OpT.move rfl (dk rfl) rfl (sn rfl a (Vm (xs := m) (f := (cI .u8)) rfl (dk rfl) Mt rfl (sn rfl a (Z9 rfl rfl (dk rfl) rfl rfl (sn rfl a (Z9 rfl rfl (dk rfl) rfl rfl ?_)))))))))))))
  refine oY a rfl (aw rfl (nL (tN (T.ret (Q1 (.cons _ _ _ _ (.tmp 2 _ rfl) .nil) (.cons 4 rfl (.nil _)) (by cases h; exact ⟨rfl, rfl⟩))))))
  refine pf rfl a (pf rfl a (pf rfl a (pf rfl a (pf rfl a (pf rfl a (pf rfl a ?_))))))
  refine oZ a rfl (aw rfl (nL (tN (T.ret (Q1 (.cons _ _ _ _ (.tmp 2 _ rfl) .nil) (.cons 4 rfl (.nil _)) (by cases h; exact ⟨rfl, rfl⟩))))))
  refine pf rfl j (pf rfl j (oZ j rfl (mw rfl (pf rfl rfl (pf rfl rfl (pf rfl rfl ?_))))))
  refine pf rfl rfl (pf rfl rfl (pf rfl rfl (pf rfl rfl (oZ rfl rfl (aw rfl (nL (tN ?_)))))))
  refine T.ret (Q1 (.cons _ _ _ _ (.tmp 2 _ rfl) .nil) (.cons 4 rfl (.nil _)) (by cases h; exact ⟨rfl, rfl⟩))
  refine pf rfl g (pf rfl g (oZ g rfl (mw rfl (pf rfl rfl (pf rfl rfl (oZ rfl rfl ?_))))))
  refine mw rfl (pf rfl rfl (pf rfl rfl (pf rfl rfl (pf rfl rfl (pf rfl rfl (pf rfl rfl ?_))))))
  refine pf rfl rfl (oZ rfl rfl (aw rfl (nL (tN (T.ret (Q1 (.cons _ _ _ _ (.tmp 2 _ rfl) .nil) (.cons 4 rfl (.nil _)) (by cases h; exact ⟨rfl, rfl⟩)))))))
theorem Pp (K : Nat) {x0 : List Int} {flx0 r : Bool} (h : Xt K x0 = some r) : Z1 tp 8 [.sl flx0 1 (mU x0)] [.tab 0 Vo] (.bool r) := by
 refine CI 99 fu8 rfl ?_
 unfold Xt at h
 refine sR (Qq (aw rfl (nL (tN (sR (Qq ?_))))))
 obtain ⟨g, j, h⟩ := bind_some h
 refine sp rfl (K9 rfl (dk rfl) fu14 rfl rfl Zs.nil (.tab 0 rfl (.nil)) (Qbm K j) (aw rfl (nL (tN (sR (Qq (mw rfl (mw rfl (oU x0 (cI .u8) Mt rfl (sp rfl (OpT.min2 rfl (dk rfl) rfl rfl ?_)))))))))))
 obtain ⟨a, h⟩ := Q9 h
 refine sp rfl (OpT.sliceM (xs := x0) (f := (cI .u8)) (l := 0) (h := (Int.toNat (if (20:Int) < (x0.length : Int) then (20:Int) else (x0.length : Int)))) rfl (dk rfl) Mt i5 rfl (.none _) (.some _ _ _ _ rfl a.1) a.2.1 a.2.2 (aw rfl (nL (tN (T.seq (sR (Qq (mw rfl (oU ((x0.take (Int.toNat (if (20:Int) < (x0.length : Int) then (20:Int) else (x0.length : Int)))).drop 0) (cI .u8) Mt rfl ?_)))))))))
 refine oI rfl (nL (tN ?_))
 rcases Qh h with ⟨b, h⟩ | ⟨b, h⟩
 refine Qt rfl b (sR (Qq (mw rfl (aw rfl (nL (tN (T.ret (Qy (Q1 (.cons _ _ _ _ (.tmp 2 _ rfl) .nil) (.cons 0 rfl (.nil _)) (by cases h; exact ⟨rfl, rfl⟩))))))))))
 refine Qo rfl b (T.skip (tN (sR (Qq (mw rfl (oU ((x0.take (Int.toNat (if (20:Int) < (x0.length : Int) then (20:Int) else (x0.length : Int)))).drop 0) (cI .u8) Mt rfl (sp rfl (OpT.buildSlice (elems := ([(0:Int), (((x0.take (Int.toNat (if (20:Int) < (x0.length : Int) then (20:Int) else (x0.length : Int)))).drop 0).length : Int)] : List Int).map (cI .i64)) rfl (dk rfl) Z5 i3 (by decide) rfl (Hb rfl) rfl rfl rfl (Xh rfl) (by decide) (sp rfl (Zi (OpT.build (l := [.sl true 1 ([(0:Int), (((x0.take (Int.toNat (if (20:Int) < (x0.length : Int) then (20:Int) else (x0.length : Int)))).drop 0).length : Int)].map (cI .i64)), .ex (.slice none 0 0)]) rfl (dk rfl) (Zp (pl := [(0, 1), (1, 1)]) Qbw i43 rfl) (Hb rfl) rfl rfl rfl) (Zy 27 (l := [.sl true 1 ([(0:Int), (((x0.take (Int.toNat (if (20:Int) < (x0.length : Int) then (20:Int) else (x0.length : Int)))).drop 0).length : Int)].map (cI .i64)), .ex (.slice none 0 0)]) (l' := [.sl false 1 ([(0:Int), (((x0.take (Int.toNat (if (20:Int) < (x0.length : Int) then (20:Int) else (x0.length : Int)))).drop 0).length : Int)].map (cI .i64)), .ex (.slice none 0 0)]) (.cons (.full _ _ _) (.cons (.same _) (.refl _)))) ?_))))))))))
 refine sp rfl (Zg rfl (dk rfl) i43 rfl (fun m => (sp rfl (Qv (i := 0) (cells' := [.d (.sl false 1 ([(0:Int), (((x0.take (Int.toNat (if (20:Int) < (x0.length : Int) then (20:Int) else (x0.length : Int)))).drop 0).length : Int)].map (cI .i64))), .d (.ex (.slice none 0 0))]) rfl rfl i43 rfl rfl rfl rfl (nb rfl) rfl (nL (tN (T.seq (sR (Qq (mw rfl (nL (tN ?_))))))))))))
 refine T.block (T.loop (Qg (Y2 65 9) ?_))
 refine Qg ?_ (Iq K K g ((x0.take (Int.toNat (if (20:Int) < (x0.length : Int) then (20:Int) else (x0.length : Int)))).drop 0) (0:Int) [(0:Int), (((x0.take (Int.toNat (if (20:Int) < (x0.length : Int) then (20:Int) else (x0.length : Int)))).drop 0).length : Int)] [] m (Tp 2) h)
 exact tr rfl (.c (.s .z) (.c .z (.c .z (.n _))))
end Go.Rv

/- Each function computes what its plain text says: printed by a program of ours. -/
import Derived.Test.YtcmfaclkgdmpbaaGreatDoorRgW5
namespace Go.Rv
open Go.Proofs
set_option maxRecDepth 100000
set_option maxHeartbeats 4000000
set_option linter.unusedVariables false
abbrev Es (bx0 : Nat) (r : Qc) : ES := Jz tp ff28 (fun y t => ∃ γ : Nat → Value, y = (.tup []) ∧ t = [(Ja bx0 r.Auto.Split.Of r.Auto.Split.Many r.Auto.Counts r.Auto.States)])
abbrev N6 (bx0 : Nat) (r : Qc) : ES := fT 93 [1,1,1,1] ff28 (Es bx0 r)
abbrev Ly (bx0 : Nat) (r : Qc) : ES := Qz 0 ((N6 bx0 r))
abbrev F2 (bx0 : Nat) (r : Qc) : ES := fL 93 [1,1,1,0,1,0,0] ff28 (Ly bx0 r)
abbrev C0 (bx0 : Nat) (r : Qc) : ES := fT 93 [1,1,1,0,1,0,0,1,1] ff28 (F2 bx0 r)
abbrev Mu (bx0 : Nat) (r : Qc) : ES := Qz 1 ((C0 bx0 r))
abbrev Kx (bx0 : Nat) (r : Qc) : ES := Qz 2 ((Mu bx0 r))
abbrev Er (bx0 : Nat) (r : Qc) : ES := fT 93 [1,1,1,1,1,1,1] ff28 (Es bx0 r)
abbrev C1 (bx0 : Nat) (r : Qc) : ES := Qz 4 ((Er bx0 r))
abbrev Bp (bx0 : Nat) (r : Qc) (go : Int → Qc → (List Int) → (List Int) → Option Qc) : Prop := ∀ (a : Int) (x0 : Qc) (b f : List Int) (g i : Value), go a x0 b f = some r → TL tp 93 (ca [1,1,1,0,1,0,0] ff28) ⟨[(0, .ptr bx0 0), (2, .c (.ex g)), (3, .c (.ex i)), (4, .int .i64 a)], [(Ja bx0 x0.Auto.Split.Of x0.Auto.Split.Many x0.Auto.Counts x0.Auto.States), .arrX g 3 1 0 (mI b), .arrX i 3 1 0 (mI f)]⟩ (Ly bx0 r)
theorem Rk {r : Qc} (K bx0 : Nat) (go0 : Int → Qc → (List Int) → (List Int) → Option Qc) (hgo0 : Bp bx0 r go0) : ∀ (k : Nat), ∀ (j : Int) (l : List Qd) (p q : Int) (x0 : Qc) (b g : List Int) (m u : Value), Yu K go0 k j l p q x0 b g = some r → TL tp 93 (ca [1,1,1,0,1,0,0,1,0,0,1,0,0] ff28) ⟨[(0, .ptr bx0 0), (2, .c (.ex m)), (3, .c (.ex u)), (4, .int .i64 j), (38, .sl false 2 (l.map Ql)), (39, .int .i64 p), (40, .int .i64 q)], [(Ja bx0 x0.Auto.Split.Of x0.Auto.Split.Many x0.Auto.Counts x0.Auto.States), .arrX m 3 1 0 (mI b), .arrX u 3 1 0 (mI g)]⟩ (Kx bx0 r) := by
 intro k
 induction k with
 | zero =>
  intro j l p q x0 b g m u h
  exact zn h
 | succ k ih =>
  intro j l p q x0 b g m u h
  rw [Yu] at h
  refine Za (sR (Qq (oI rfl (nL (tN (T.seq ?_))))))
  rcases Qh h with ⟨ab, h⟩ | ⟨ab, h⟩
  refine Qt rfl ab (T.skip (tN (T.seq (T.block (sR (Qq ?_))))))
  obtain ⟨w, ad, h⟩ := bind_some h
  refine oX l Ql Sg i54 ad rfl (oJ Iw i54 rfl (sp rfl (Zg rfl (dk rfl) i54 rfl (fun ai => (sp rfl (Qv (i := 0) (cells' := [.d (.int .i64 w.To), .d (.sl false 1 (mU w.Ops))]) rfl rfl i54 rfl rfl rfl rfl (nb rfl) rfl (nL (tN (sR (Qq (oP Iw i3 rfl (oL 0 ul3 rfl ?_))))))))))))
  refine oI rfl (mw rfl ?_)
  rcases Qh h with ⟨a, h⟩ | ⟨a, h⟩
  refine sn rfl a (OpT.move rfl (dk rfl) rfl (sn rfl a (Ur rfl (dk rfl) Iw rfl i3 (by decide) rfl (sn rfl a (Yr (i := 0) rfl (dk rfl) ul3 rfl rfl rfl rfl ?_)))))
  obtain ⟨y, aa, h⟩ := bind_some h
  refine sn rfl a (Z8 (n := 2) (xs := b) (f := (cI .i64)) (old := y) rfl (dk rfl) Z5 i3 rfl rfl rfl aa (sn rfl a (J1 (i := 2) (xs := b) (f := (cI .i64)) (old := y) rfl (dk rfl) ul3 rfl rfl rfl (Zv aa).2 rfl (sn rfl a (Z9 rfl rfl (dk rfl) rfl rfl (oY a rfl (nL (tN ?_))))))))
  rcases Qh h with ⟨ac, h⟩ | ⟨ac, h⟩
  refine Qt rfl ac (sR (Qq (mw rfl (oP Iw i3 rfl (oL 0 ul3 rfl (mw rfl (sp rfl (J9 (i := 3) (xs := g) (f := (cI .i64)) rfl (dk rfl) Z5 rfl rfl ?_))))))))
  refine sp rfl (Z8 (n := 2) (xs := b) (f := (cI .i64)) (old := y) rfl (dk rfl) Z5 i3 rfl rfl rfl aa (sp rfl (Wf (i := 2) (xs := b) (f := (cI .i64)) (old := y) (new := (g.length : Int)) rfl rfl i3 rfl rfl rfl (Zv aa).2 (Qf7 _) (nb rfl) rfl (nL (tN (Qq (mw rfl (oP Iw i3 rfl (oL 0 ul3 rfl ?_)))))))))
  refine sp rfl (Fy (elems := ([w.To] : List Int).map (cI .i64)) rfl (dk rfl) Z5 i3 (by decide) rfl (Hb rfl) rfl rfl rfl (Xh rfl) (by decide) (fun aj => (J8 (Gl 0 rfl) (J8 (Zx.view 64 0 rfl rfl) ?_))))
  obtain ⟨af, h⟩ := Q9 h
  refine sp rfl (Cz (i := 4) (xs := g) (ys := [w.To]) (f := (cI .i64)) rfl (dk rfl) Z5 i3 rfl rfl rfl rfl af (fun ag => (aw rfl (nL (Qj (tN (Qq (oI rfl (mw rfl (nL (tN ?_)))))))))))
  refine Qg ?_ (ih j l p (wI (q + (1:Int))) x0 (List.set b (Int.toNat w.To) (g.length : Int)) (g ++ [w.To]) m ag h)
  exact tr rfl (.c (.s (.s .z)) (.c (.s (.s .z)) (.c (.s (.s .z)) (.n _))))
  refine Qo rfl ac (T.skip (Qj (tN (Qq (oI rfl (mw rfl (nL (tN ?_))))))))
  refine Qg ?_ (ih j l p (wI (q + (1:Int))) x0 b g m u h)
  exact tr rfl (.c (.s .z) (.c (.s .z) (.c (.s .z) (.n _))))
  refine pf rfl a (pf rfl a (pf rfl a (pf rfl a (pf rfl a (pf rfl a (oZ a rfl ?_))))))
  refine nL (tN (Qo rfl rfl (T.skip (Qj (tN (Qq (oI rfl (mw rfl (nL (tN ?_))))))))))
  refine Qg ?_ (ih j l p (wI (q + (1:Int))) x0 b g m u h)
  exact tr rfl (.c (.s .z) (.c (.s .z) (.c (.s .z) (.n _))))
  refine Qo rfl ab (T.exit (Qk (Qk (Qu (Qj (tN (Qq (mw rfl (oI rfl (aw rfl (nL (tN ?_))))))))))))
  refine Qg ?_ (hgo0 (wI (j + (1:Int))) x0 b g m u h)
  exact tq rfl rfl
theorem Rj {r : Qc} (K bx0 : Nat) : ∀ (k : Nat), ∀ (s u : Int) (a : Zn) (b : Int) (g : List X2) (p j : List Qa) (m : List Int) (q w : Value), X4 K k s u a b g p j m = some r → TL tp 93 (ca [1,1,1,1,1,1,0,1,0,0] ff28) ⟨[(0, .ptr bx0 0), (7, .c (.ex q)), (70, .c (.ex w)), (71, .int .i64 s), (72, .int .i64 u)], [(Ja bx0 a b g p), .arrA q 51 4 (j.map Qf), .arrX w 3 1 0 (mI m)]⟩ (C1 bx0 r) := by
 intro k
 induction k with
 | zero =>
  intro s u a b g p j m q w h
  exact zn h
 | succ k ih =>
  intro s u a b g p j m q w h
  rw [X4] at h
  refine Za (sR (Qq (oI rfl (nL (tN (T.seq ?_))))))
  rcases Qh h with ⟨aa, h⟩ | ⟨aa, h⟩
  refine Qt rfl aa (T.skip (tN (T.seq (T.block (sR (Qq ?_))))))
  obtain ⟨ab, ac, h⟩ := bind_some h
  refine sp rfl (Z8 (n := 2) (xs := m) (f := (cI .i64)) (old := ab) rfl (dk rfl) Z5 i3 rfl rfl rfl ac (sp rfl (J1 (i := 2) (xs := m) (f := (cI .i64)) (old := ab) rfl (dk rfl) ul3 rfl rfl rfl (Zv ac).2 rfl (aw rfl (nL (tN (Qq (mw rfl (mw rfl ?_)))))))))
  refine oK rfl (oP ul69 i28 rfl (oP G4 i26 rfl (oL 0 He rfl (mw rfl ?_))))
  obtain ⟨y, ad, h⟩ := bind_some h
  refine oX p Qf He i51 ad rfl (oJ Ke i51 rfl (sp rfl (OpT.buildSlice (elems := ([y] : List Qa).map Qf) rfl (dk rfl) He i51 (by decide) rfl (Hb rfl) rfl rfl rfl (Xh rfl) (by decide) ?_)))
  obtain ⟨af, h⟩ := Q9 h
  refine sp rfl (Zj (i := 1) (xs := j) (ys := [y]) (f := Qf) rfl (dk rfl) He i51 rfl rfl rfl rfl af (fun ag => (aw rfl (nL (Qj (tN (Qq (oI rfl (mw rfl (nL (tN ?_)))))))))))
  refine Qg ?_ (ih s (wI (u + (1:Int))) a b g p (j ++ [y]) m ag w h)
  exact tq rfl rfl
  refine Qo rfl aa (T.exit (Qk (Qk (Qu (tN (Qq (mw rfl (mw rfl (oK rfl (oP ul69 i28 rfl ?_))))))))))
  refine oP G4 i26 rfl (sp rfl (V3 (i := 0) (cells' := ((Zn.oc 256 .u8 a) ++ (([.d (.int .i64 b), .d (.sl false 2 (mA g)), .d (.ex q)]:List OC)))) rfl rfl i26 rfl rfl rfl (nb rfl) rfl (nL (Xj (Jb 0 (l := ((Zn.dc 256 .u8 a) ++ (([.int .i64 b, .sl false 2 (mA g), .ex q] : List DC)))) (l' := ((Zn.dc 256 .u8 a) ++ (([.int .i64 b, .sl false 2 (mA g), .sl false 4 (j.map Qf)] : List DC)))) rfl (.app _ (.cons (.same _) (.cons (.same _) (.cons (.view 1 rfl) (.refl _)))))) (Q1 (.nil) (.cons 0 rfl (.nil _)) (by cases h; exact ⟨gl [], rfl, rfl⟩))))))
theorem Rl {r : Qc} (K bx0 : Nat) : ∀ (k : Nat), Bp bx0 r (Y7 K k) := by
 intro k
 induction k with
 | zero =>
  intro l x0 w b m g h
  exact zn h
 | succ k ih =>
  intro l x0 w b m g h
  rw [Y7] at h
  refine Za (T.seq (sR (Qq (mw rfl (mw rfl (sp rfl (J9 (i := 2) (xs := b) (f := (cI .i64)) rfl (dk rfl) Z5 rfl rfl (oI rfl ?_))))))))
  refine nL (tN ?_)
  rcases Qh h with ⟨y, h⟩ | ⟨y, h⟩
  refine Qt rfl y (T.skip (tN (T.seq (T.block (T.seq (Xk (dV rfl rfl ?_)))))))
  refine dK rfl (.f rfl) rfl (dP rfl (.f rfl) ul69 i28 rfl (dP rfl (.f rfl) G4 i26 rfl (dL 0 rfl (.f rfl) He rfl (dV rfl rfl (dV rfl rfl ?_)))))
  obtain ⟨p, aa, h⟩ := bind_some h
  refine dS (c := ⟨some 34, .el g 1 (Int.toNat l) 0, [(32, .c (.ex g)), (33, .int .i64 l)], [(2, .arrX g 3 1 0 (mI b))], []⟩) (fun t hm => oF rfl rfl (Z8 (n := 2) (xs := b) (f := (cI .i64)) (old := p) rfl (dk rfl) Z5 i3 hm.s0 hm.o0 hm.s1 aa rfl)) rfl rfl (dS (c := ⟨some 35, .int .i64 p, [(34, .el g 1 (Int.toNat l) 0)], [(2, .arrX g 3 1 0 (mI b))], []⟩) (fun t hm => oF rfl rfl (J1 (i := 2) (xs := b) (f := (cI .i64)) (old := p) rfl (dk rfl) ul3 rfl hm.s0 hm.o0 (Zv aa).2 rfl rfl)) rfl rfl ?_)
  obtain ⟨a, ab, h⟩ := bind_some h
  refine dX x0.Auto.States Qf rfl (.f rfl) He i51 ab rfl (dJ rfl (.f rfl) Ke i51 rfl ?_)
  obtain ⟨j, ac, h⟩ := bind_some h
  refine dH fu33 (Z1.nil (Sj K ac)) rfl (.f rfl) rfl (dN j Ql rfl (.f rfl) Sg rfl (dM rfl (.f rfl) rfl (dF [0,1,3,7,15,0,0,96,224,511,1023,2047,4095,0] Q3 rfl (by kernel_rfl) (fun u hu => (tN (Qm hu (T.block (T.loop ?_))))))))
  refine Qg ?_ (Rk K bx0 (Y7 K k) ih K l j (j.length : Int) (0:Int) x0 w b m g h)
  exact tq rfl rfl
  refine Qo rfl y (T.exit (Qk (Qk (Qu (tN (sR (Qq (mw rfl (mw rfl ?_)))))))))
  obtain ⟨q, ad, h⟩ := bind_some h
  refine sp rfl (Q6 (is := [0, 1]) (ph := []) rfl (dk rfl) fu56 rfl rfl (Zs.cons rfl (Zs.cons rfl Zs.nil)) (Ep K (bx0 := bx0) (wx1 := m) ad) (.cons rfl rfl (.cons rfl rfl (.nil))) (fun _ => rfl) (fun af => (nm (.c (.c (.c (.n)))) (nL (tN (sR (Qq (aw rfl (nL (tN (T.seq (sR (Qq ?_)))))))))))))
  refine mw rfl (sp rfl (J9 (i := 2) (xs := b) (f := (cI .i64)) rfl (dk rfl) Z5 rfl rfl (mw rfl (nL (tN (T.block (T.loop (Qg (Y2 51 4) ?_))))))))
  refine Qg ?_ (Rj K bx0 K (b.length : Int) (0:Int) q.Auto.Split.Of q.Auto.Split.Many q.Auto.Counts q.Auto.States [] b (Tp 2) g h)
  exact tr rfl (.c (.s .z) (.c .z (.c (.s .z) (.n _))))
theorem Qag (K : Nat) {x0 : Qc} {bx0 : Nat} {r : Qc} (h : Wx K x0 = some r) : Ud tp 28 [.ptr bx0 0] [(Ja bx0 x0.Auto.Split.Of x0.Auto.Split.Many x0.Auto.Counts x0.Auto.States)] (fun γ => (.tup [])) (fun γ => [(Ja bx0 r.Auto.Split.Of r.Auto.Split.Many r.Auto.Counts r.Auto.States)]) := by
 refine CI 93 fu28 rfl ?_
 unfold Wx at h
 refine sR (Qq (sp rfl (OpT.buildSlice (elems := ([(-1:Int)] : List Int).map (cI .i64)) rfl (dk rfl) Z5 i3 (by decide) rfl (Hb rfl) rfl rfl rfl (Xh rfl) (by decide) (mw rfl (oK rfl (oP ul69 i28 rfl (oP G4 i26 rfl (oL 0 He rfl ?_))))))))
 refine oU x0.Auto.States Qf He rfl (J8 Yk ?_)
 obtain ⟨a, j, h⟩ := bind_some h
 refine sp rfl (Q6 (is := [0]) (ph := [.ro 0 []]) rfl (dk rfl) fu57 rfl rfl (Zs.cons rfl (Zs.cons rfl Zs.nil)) (Qau K (flx0 := true) j) (.cons rfl rfl (.nil)) (fun _ => rfl) (fun l => (nm (.c (.c (.n))) (aw rfl (nL (tN (sR (Qq (sp rfl (Fy (elems := ([(0:Int)] : List Int).map (cI .i64)) rfl (dk rfl) Z5 i3 (by decide) rfl (Hb rfl) rfl rfl rfl (Xh rfl) (by decide) (fun m => (aw rfl (nL (tN (sR (Qq ?_))))))))))))))))
 refine mw rfl ?_
 obtain ⟨b, g, h⟩ := bind_some h
 refine sp rfl (Z8 (n := 1) (xs := a) (f := (cI .i64)) (old := b) rfl (dk rfl) Z5 i3 rfl rfl rfl g (sp rfl (Wf (i := 1) (xs := a) (f := (cI .i64)) (old := b) (new := (0:Int)) rfl rfl i3 rfl rfl rfl (Zv g).2 (Qf7 _) (nb rfl) rfl (nL (tN (T.seq (sR (Qq (aw rfl (nL (tN ?_)))))))))))
 refine T.block (T.loop ?_)
 refine Qg ?_ (Rl K bx0 K (0:Int) x0 (List.set a (Int.toNat (0:Int)) (0:Int)) [(0:Int)] (l 0) (.slice (some ⟨m, 0, none⟩) 1 1) h)
 exact tr rfl (.c (.s (.s .z)) (.c (.s .z) (.c .z (.n _))))
theorem Nd (K : Nat) {x0 : Int} {r : ByteArray} (h : strconv_Itoa K x0 = some r) : Z1 tp 39 [.int .i64 x0] [.tab 0 Vo] (.str r) := by
 unfold strconv_Itoa at h
 split at h
 next hc => cases h; exact itoa_call Tryz.laysM171 (by kernel_rfl) hc.1 hc.2
 cases h
abbrev Qe0 (bx0 : Nat) (x0c1 : List Int) (r : Unit) : ES := Jz tp ff111 (fun y t => ∃ γ : Nat → Value, y = (.tup []) ∧ t = [(We bx0 bx0 (γ 0)), .arrX (γ 0) 5 1 0 (mU x0c1)])
theorem Eu (K : Nat) {x0c1 : List Int} {bx0 : Nat} {wx0c1 : Value} {r : Unit} (h : Wc K x0c1 = some r) : Ud tp 111 [.ptr bx0 0] [(b134x16 bx0 (.pointer none) wx0c1), .arrX wx0c1 5 1 0 (mU x0c1)] (fun γ => (.tup [])) (fun γ => [(We bx0 bx0 (γ 0)), .arrX (γ 0) 5 1 0 (mU x0c1)]) := by
 refine CI 20 fu111 rfl ?_
 unfold Wc at h
 refine sR (Qq (mw rfl (oK rfl (oP ul134 i132 rfl (oL 0 ul132 rfl (sp rfl (OpT.eqlPtrNil rfl (dk rfl) ul132 rfl rfl (nL (tN ?_)))))))))
 refine Qt rfl rfl (Qq (mw rfl (mw rfl (sp rfl (OpT.toUnsafe (i := 0) rfl (dk rfl) ul132 ul193 i134 (by decide) rfl rfl (Nat.zero_lt_succ _) (sp rfl (OpT.noEscape rfl (dk rfl) fu130 rfl rfl (by kernel_rfl) (by kernel_rfl) rfl rfl (sp rfl (OpT.ofUnsafe (i := 0) rfl (dk rfl) ul193 ul132 i134 rfl rfl rfl (by kernel_rfl) ?_)))))))))
 refine oK rfl (oP ul134 i132 rfl (sp rfl (V3 (i := 0) (cells' := [.d (.ptr bx0 0), .d (.ex wx0c1)]) rfl rfl i132 rfl rfl rfl (nb rfl) rfl (nL (Q1 (.nil) (.cons 0 rfl (.cons 0 rfl (.nil _))) (by cases h; exact ⟨gl [wx0c1], rfl, rfl⟩))))))
abbrev Qd2 (bx0 : Nat) (r : Int × Unit × (List Int)) : ES := Jz tp ff71 (fun y t => ∃ γ : Nat → Value, y = (.tup [.int .i64 r.1, .c (.ex .nilIface)]) ∧ t = [(We bx0 bx0 (γ 0)), .arrX (γ 0) 5 1 0 (mU r.2.2)])
theorem C5 (K : Nat) {x0c1 : List Int} {x1 : ByteArray} {bx0 : Nat} {wx0c1 : Value} {r : Int × Unit × (List Int)} (h : Ji K x0c1 x1 = some r) : Ud tp 71 [.ptr bx0 0, .str x1] [(b134x16 bx0 (.pointer none) wx0c1), .arrX wx0c1 5 1 0 (mU x0c1)] (fun γ => (.tup [.int .i64 r.1, .c (.ex .nilIface)])) (fun γ => [(We bx0 bx0 (γ 0)), .arrX (γ 0) 5 1 0 (mU r.2.2)]) := by
 refine CI 19 fu71 rfl ?_
 unfold Ji at h
 refine sR (Qq (aw rfl (aw rfl (nL (tN (sR (Qq (mw rfl ?_))))))))
 obtain ⟨g, b, h⟩ := bind_some h
 refine sp rfl (Q6 (is := [0, 1]) (ph := []) rfl (dk rfl) fu111 rfl rfl (Zs.cons rfl Zs.nil) (Eu K (bx0 := bx0) (wx0c1 := wx0c1) b) (.cons rfl rfl (.cons rfl rfl (.nil))) (fun _ => rfl) (fun j => (nm (.c (.c (.n))) (nL (tN (sR (Qq (mw rfl (mw rfl (oK rfl (oP ul134 i52 rfl ?_)))))))))))
 refine oL 0 Mt rfl (mw rfl ?_)
 obtain ⟨f, h⟩ := Q9 h
 refine sp rfl (Tg (i := 1) (xs := x0c1) rfl (dk rfl) Mt ul9 i5 rfl rfl rfl rfl f (fun a => (oK rfl (oP ul134 i52 rfl (sp rfl (V3 (i := 0) (cells' := [.d (.ptr bx0 0), .d (.ex a)]) rfl rfl i52 rfl rfl rfl (nb rfl) rfl (nL (tN (sR (Qq (mw rfl (sp rfl (O4 rfl (dk rfl) ul9 rfl ?_)))))))))))))
 refine aw rfl (aw rfl (nL (tN (T.ret (Q1 (.cons _ _ _ _ (.tmp 4 _ rfl) (.cons _ _ _ _ (.tmp 5 _ rfl) .nil)) (.cons 0 rfl (.cons 0 rfl (.nil _))) (by cases h; exact ⟨gl [a], rfl, rfl⟩))))))
abbrev trim_sign_1_q (bx1 : Nat) (r : List Int) : ES := Jz tp ff70 (fun y t => ∃ γ : Nat → Value, y = (.tup []) ∧ t = [.tab 0 Vo, (We bx1 bx1 (γ 0)), .arrX (γ 0) 5 1 0 (mU r)])
theorem trim_sign_1_T (K : Nat) {x0 : Int} {x1c1 : List Int} {bx1 : Nat} {wx1c1 : Value} {r : List Int} (h : O6 K x0 x1c1 = some r) : Ud tp 70 [.int .i64 x0, .ptr bx1 0] [.tab 0 Vo, (b134x16 bx1 (.pointer none) wx1c1), .arrX wx1c1 5 1 0 (mU x1c1)] (fun γ => (.tup [])) (fun γ => [.tab 0 Vo, (We bx1 bx1 (γ 0)), .arrX (γ 0) 5 1 0 (mU r)]) := by
 refine CI 7 fu70 rfl ?_
 unfold O6 at h
 refine Qq (mw rfl ?_)
 obtain ⟨i, a, h⟩ := bind_some h
 refine sp rfl (K9 rfl (dk rfl) fu39 rfl rfl (Zs.cons rfl Zs.nil) (.tab 0 rfl (.nil)) (Nd K a) ?_)
 obtain ⟨b, h⟩ := Q9 h
 refine sp rfl (Py rfl (dk rfl) rfl rfl b ?_)
 obtain ⟨j, f, h⟩ := bind_some h
 refine sp rfl (Q6 (is := [1, 2]) (ph := []) rfl (dk rfl) fu71 rfl rfl (Zs.cons rfl (Zs.cons rfl Zs.nil)) (C5 K (bx0 := bx1) (wx0c1 := wx1c1) f) (.cons rfl rfl (.cons rfl rfl (.nil))) (fun _ => rfl) (fun g => (nm (.c (.c (.c (.n)))) (nL (Q1 (.nil) (.cons 0 rfl (.cons 0 rfl (.cons 0 rfl (.nil _)))) (by cases h; exact ⟨gl [g 0], rfl, rfl⟩))))))
abbrev Qdq (bx0 : Nat) (x0c1 : List Int) (r : Unit) : ES := Jz tp ff111 (fun y t => ∃ γ : Nat → Value, y = (.tup []) ∧ t = [(We bx0 bx0 (γ 0)), .arrX (γ 0) 5 1 0 (mU x0c1)])
theorem Hm (K : Nat) {x0c1 : List Int} {bx0 : Nat} {wx0c1 : Value} {r : Unit} (h : Yp K x0c1 = some r) : Ud tp 111 [.ptr bx0 0] [(We bx0 bx0 wx0c1), .arrX wx0c1 5 1 0 (mU x0c1)] (fun γ => (.tup [])) (fun γ => [(We bx0 bx0 (γ 0)), .arrX (γ 0) 5 1 0 (mU x0c1)]) := by
 refine CI 20 fu111 rfl ?_
 unfold Yp at h
 refine sR (Qq (mw rfl (oK rfl (oP ul134 i132 rfl (oL 0 ul132 rfl (sp rfl (OpT.eqlPtrSome rfl (dk rfl) ul132 rfl rfl (nL (tN ?_)))))))))
 refine Qo rfl rfl (sR (Qq (mw rfl (oK rfl (oP ul134 i132 rfl (oL 0 ul132 rfl (mw rfl ?_)))))))
 refine sp rfl (OpT.neqPtrSame rfl (dk rfl) ul132 i134 rfl rfl (nL (tN (Qo rfl rfl (T.skip (Q1 (.nil) (.cons 0 rfl (.cons 0 rfl (.nil _))) (by cases h; exact ⟨gl [wx0c1], rfl, rfl⟩)))))))
abbrev Qc0 (bx0 : Nat) (r : Int × Unit × (List Int)) : ES := Jz tp ff71 (fun y t => ∃ γ : Nat → Value, y = (.tup [.int .i64 r.1, .c (.ex .nilIface)]) ∧ t = [(We bx0 bx0 (γ 0)), .arrX (γ 0) 5 1 0 (mU r.2.2)])
theorem Ba (K : Nat) {x0c1 : List Int} {x1 : ByteArray} {bx0 : Nat} {wx0c1 : Value} {r : Int × Unit × (List Int)} (h : X9 K x0c1 x1 = some r) : Ud tp 71 [.ptr bx0 0, .str x1] [(We bx0 bx0 wx0c1), .arrX wx0c1 5 1 0 (mU x0c1)] (fun γ => (.tup [.int .i64 r.1, .c (.ex .nilIface)])) (fun γ => [(We bx0 bx0 (γ 0)), .arrX (γ 0) 5 1 0 (mU r.2.2)]) := by
 refine CI 19 fu71 rfl ?_
 unfold X9 at h
 refine sR (Qq (aw rfl (aw rfl (nL (tN (sR (Qq (mw rfl ?_))))))))
 obtain ⟨g, b, h⟩ := bind_some h
 refine sp rfl (Q6 (is := [0, 1]) (ph := []) rfl (dk rfl) fu111 rfl rfl (Zs.cons rfl Zs.nil) (Hm K (bx0 := bx0) (wx0c1 := wx0c1) b) (.cons rfl rfl (.cons rfl rfl (.nil))) (fun _ => rfl) (fun j => (nm (.c (.c (.n))) (nL (tN (sR (Qq (mw rfl (mw rfl (oK rfl (oP ul134 i52 rfl ?_)))))))))))
 refine oL 0 Mt rfl (mw rfl ?_)
 obtain ⟨f, h⟩ := Q9 h
 refine sp rfl (Tg (i := 1) (xs := x0c1) rfl (dk rfl) Mt ul9 i5 rfl rfl rfl rfl f (fun a => (oK rfl (oP ul134 i52 rfl (sp rfl (V3 (i := 0) (cells' := [.d (.ptr bx0 0), .d (.ex a)]) rfl rfl i52 rfl rfl rfl (nb rfl) rfl (nL (tN (sR (Qq (mw rfl (sp rfl (O4 rfl (dk rfl) ul9 rfl ?_)))))))))))))
 refine aw rfl (aw rfl (nL (tN (T.ret (Q1 (.cons _ _ _ _ (.tmp 4 _ rfl) (.cons _ _ _ _ (.tmp 5 _ rfl) .nil)) (.cons 0 rfl (.cons 0 rfl (.nil _))) (by cases h; exact ⟨gl [a], rfl, rfl⟩))))))
abbrev trim_sign_1_i1_q (bx1 : Nat) (r : List Int) : ES := Jz tp ff70 (fun y t => ∃ γ : Nat → Value, y = (.tup []) ∧ t = [.tab 0 Vo, (We bx1 bx1 (γ 0)), .arrX (γ 0) 5 1 0 (mU r)])
theorem H6 (K : Nat) {x0 : Int} {x1c1 : List Int} {bx1 : Nat} {wx1c1 : Value} {r : List Int} (h : Uk K x0 x1c1 = some r) : Ud tp 70 [.int .i64 x0, .ptr bx1 0] [.tab 0 Vo, (We bx1 bx1 wx1c1), .arrX wx1c1 5 1 0 (mU x1c1)] (fun γ => (.tup [])) (fun γ => [.tab 0 Vo, (We bx1 bx1 (γ 0)), .arrX (γ 0) 5 1 0 (mU r)]) := by
 refine CI 7 fu70 rfl ?_
 unfold Uk at h
 refine Qq (mw rfl ?_)
 obtain ⟨i, a, h⟩ := bind_some h
 refine sp rfl (K9 rfl (dk rfl) fu39 rfl rfl (Zs.cons rfl Zs.nil) (.tab 0 rfl (.nil)) (Nd K a) ?_)
 obtain ⟨b, h⟩ := Q9 h
 refine sp rfl (Py rfl (dk rfl) rfl rfl b ?_)
 obtain ⟨j, f, h⟩ := bind_some h
 refine sp rfl (Q6 (is := [1, 2]) (ph := []) rfl (dk rfl) fu71 rfl rfl (Zs.cons rfl (Zs.cons rfl Zs.nil)) (Ba K (bx0 := bx1) (wx0c1 := wx1c1) f) (.cons rfl rfl (.cons rfl rfl (.nil))) (fun _ => rfl) (fun g => (nm (.c (.c (.c (.n)))) (nL (Q1 (.nil) (.cons 0 rfl (.cons 0 rfl (.cons 0 rfl (.nil _)))) (by cases h; exact ⟨gl [g 0], rfl, rfl⟩))))))
abbrev strings_Builder_Write_q (bx0 : Nat) (r : Int × Unit × (List Int)) : ES := Jz tp ff72 (fun y t => ∃ γ : Nat → Value, y = (.tup [.int .i64 r.1, .c (.ex .nilIface)]) ∧ t = [(We bx0 bx0 (γ 0)), .arrX (γ 0) 5 1 0 (mU r.2.2)])
theorem O9 (K : Nat) {x0c1 x1 : List Int} {bx0 : Nat} {wx0c1 : Value} {flx1 : Bool} {r : Int × Unit × (List Int)} (h : J2 K x0c1 x1 = some r) : Ud tp 72 [.ptr bx0 0, .sl flx1 1 (mU x1)] [(We bx0 bx0 wx0c1), .arrX wx0c1 5 1 0 (mU x0c1)] (fun γ => (.tup [.int .i64 r.1, .c (.ex .nilIface)])) (fun γ => [(We bx0 bx0 (γ 0)), .arrX (γ 0) 5 1 0 (mU r.2.2)]) := by
 refine CI 19 fu72 rfl ?_
 unfold J2 at h
 refine sR (Qq (aw rfl (aw rfl (nL (tN (sR (Qq (mw rfl ?_))))))))
 obtain ⟨j, b, h⟩ := bind_some h
 refine sp rfl (Q6 (is := [0, 1]) (ph := []) rfl (dk rfl) fu111 rfl rfl (Zs.cons rfl Zs.nil) (Hm K (bx0 := bx0) (wx0c1 := wx0c1) b) (.cons rfl rfl (.cons rfl rfl (.nil))) (fun _ => rfl) (fun l => (nm (.c (.c (.n))) (nL (tN (sR (Qq (mw rfl (mw rfl (oK rfl (oP ul134 i52 rfl ?_)))))))))))
 refine oL 0 Mt rfl (mw rfl ?_)
 obtain ⟨g, h⟩ := Q9 h
 refine sp rfl (Cz (i := 1) (xs := x0c1) (ys := x1) (f := (cI .u8)) rfl (dk rfl) Mt i5 rfl rfl rfl rfl g (fun a => (oK rfl (oP ul134 i52 rfl (sp rfl (V3 (i := 0) (cells' := [.d (.ptr bx0 0), .d (.ex a)]) rfl rfl i52 rfl rfl rfl (nb rfl) rfl (nL (tN (sR (Qq (mw rfl (oU x1 (cI .u8) Mt rfl ?_))))))))))))
 refine aw rfl (aw rfl (nL (tN (T.ret (Q1 (.cons _ _ _ _ (.tmp 4 _ rfl) (.cons _ _ _ _ (.tmp 5 _ rfl) .nil)) (.cons 0 rfl (.cons 0 rfl (.nil _))) (by cases h; exact ⟨gl [a], rfl, rfl⟩))))))
abbrev Qan (wx1 : Value) (x1 : List Int) (r : ByteArray) : ES := Jz tp ff40 (fun y t => ∃ γ : Nat → Value, y = (.str r) ∧ t = [.tab 0 Vo, .arrX wx1 3 1 0 (mI x1)])
abbrev Qal (wx1 : Value) (x1 : List Int) (r : ByteArray) : ES := fT 70 [1,1,1,1,1,1,1] ff40 (Qan wx1 x1 r)
abbrev Sh (wx1 : Value) (x1 : List Int) (r : ByteArray) : ES := Qz 4 ((Qal wx1 x1 r))
abbrev Qbx (wx1 : Value) (x1 : List Int) (r : ByteArray) : ES := fT 70 [1,1,1,1,1,1] ff40 (Qan wx1 x1 r)
abbrev Tu (wx1 : Value) (x1 : List Int) (r : ByteArray) : ES := Qz 2 ((Qbx wx1 x1 r))
abbrev Qc3 (wx1 : Value) (x1 : List Int) (r : ByteArray) : ES := fT 70 [1,1,1,1,1] ff40 (Qan wx1 x1 r)
abbrev Qam (wx1 : Value) (x1 : List Int) (r : ByteArray) : ES := Qz 0 ((Qc3 wx1 x1 r))
theorem trim_sign_l2_T {r : ByteArray} (K : Nat) (wx1 : Value) (x1 : List Int) : ∀ (k : Nat), ∀ (g : List Qd) (j l : Int) (x1 p : List Int) (a : Nat) (m : Value), Hj K k g j l x1 p = some r → TL tp 70 (ca [1,1,1,1,1,1,0,1,0,0] ff40) ⟨[(1, .c (.ex wx1)), (5, .ptr a 0), (6, .c (.ex (.func (.func 70) #[] #[.pointer (some ⟨a, 0, none⟩)]))), (42, .sl false 2 (g.map Ql)), (43, .int .i64 j), (44, .int .i64 l)], [.arrX wx1 3 1 0 (mI x1), (We a a m), .arrX m 5 1 0 (mU p), .tab 0 Vo]⟩ (Sh wx1 x1 r) := by
 intro k
 induction k with
 | zero =>
  intro g j l x1 p a m h
  exact zn h
 | succ k ih =>
  intro g j l x1 p a m h
  rw [Hj] at h
  refine Za (sR (Qq (oI rfl (nL (tN (T.seq ?_))))))
  rcases Qh h with ⟨u, h⟩ | ⟨u, h⟩
  refine Qt rfl u (T.skip (tN (T.seq (T.block (sR (Qq ?_))))))
  obtain ⟨q, ab, h⟩ := bind_some h
  refine oX g Ql Sg i54 ab rfl (oJ Iw i54 rfl (sp rfl (Zg rfl (dk rfl) i54 rfl (fun av => (sp rfl (Qv (i := 0) (cells' := [.d (.int .i64 q.To), .d (.sl false 1 (mU q.Ops))]) rfl rfl i54 rfl rfl rfl rfl (nb rfl) rfl (nL (tN (T.seq (sR (Qq ?_)))))))))))
  refine oP Iw i3 rfl (oL 0 ul3 rfl (oI rfl (nL (tN ?_))))
  rcases Qh h with ⟨w, h⟩ | ⟨w, h⟩
  refine Qt rfl w (sR (Qq (mw rfl ?_)))
  obtain ⟨ac, ad, h⟩ := bind_some h
  refine sp rfl (I4 (f := 70) (vs := [.pointer (some ⟨a, 0, none⟩)]) rfl rfl (dk rfl) fu70 rfl rfl (Q6 (is := [4, 2, 3]) (ph := []) rfl (dk rfl) fu70 rfl rfl (Zs.cons rfl (Zs.cons rfl Zs.nil)) (H6 K (bx1 := a) (wx1c1 := m) ad) (.cons rfl rfl (.cons rfl rfl (.cons rfl rfl (.nil)))) (fun _ => rfl) (fun af => (nm (.c (.c (.c (.c (.c (.n)))))) (nL (tN (T.exit (Qk (Qu (tN (Qq (oI rfl (mw rfl ?_)))))))))))))
  refine nL (tN ?_)
  refine Qg ?_ (ih g j (wI (l + (1:Int))) x1 ac a (af 0) h)
  exact tr rfl (.c (.s .z) (.c (.s .z) (.c (.s .z) (.c (.s .z) (.n _)))))
  refine Qo rfl w (T.skip (tN (sR (Qq (mw rfl (mw rfl (oP Iw i3 rfl (oL 0 ul3 rfl ?_))))))))
  obtain ⟨y, aa, h⟩ := bind_some h
  refine sp rfl (Z8 (n := 1) (xs := x1) (f := (cI .i64)) (old := y) rfl (dk rfl) Z5 i3 rfl rfl rfl aa (sp rfl (J1 (i := 1) (xs := x1) (f := (cI .i64)) (old := y) rfl (dk rfl) ul3 rfl rfl rfl (Zv aa).2 rfl ?_)))
  obtain ⟨ay, ag, h⟩ := bind_some h
  refine sp rfl (I4 (f := 70) (vs := [.pointer (some ⟨a, 0, none⟩)]) rfl rfl (dk rfl) fu70 rfl rfl (Q6 (is := [4, 2, 3]) (ph := []) rfl (dk rfl) fu70 rfl rfl (Zs.cons rfl (Zs.cons rfl Zs.nil)) (H6 K (bx1 := a) (wx1c1 := m) ag) (.cons rfl rfl (.cons rfl rfl (.cons rfl rfl (.nil)))) (fun _ => rfl) (fun ai => (nm (.c (.c (.c (.c (.c (.n)))))) (nL (tN (sR (Qq (oP Iw i52 rfl (oL 0 Mt rfl ?_))))))))))
  obtain ⟨az, aj, h⟩ := bind_some h
  refine sp rfl (Q6 (is := [2, 3]) (ph := []) rfl (dk rfl) fu72 rfl rfl (Zs.cons rfl (Zs.cons rfl Zs.nil)) (O9 K (bx0 := a) (wx0c1 := (ai 0)) (flx1 := false) aj) (.cons rfl rfl (.cons rfl rfl (.nil))) (fun _ => rfl) (fun al => (nm (.c (.c (.c (.c (.c (.n)))))) (nL (tN (Qq (mw rfl (oP Iw i52 rfl (oL 0 Mt rfl ?_)))))))))
  refine oU q.Ops (cI .u8) Mt rfl ?_
  obtain ⟨am, an, h⟩ := bind_some h
  refine sp rfl (I4 (f := 70) (vs := [.pointer (some ⟨a, 0, none⟩)]) rfl rfl (dk rfl) fu70 rfl rfl (Q6 (is := [4, 2, 3]) (ph := []) rfl (dk rfl) fu70 rfl rfl (Zs.cons rfl (Zs.cons rfl Zs.nil)) (H6 K (bx1 := a) (wx1c1 := (al 0)) an) (.cons rfl rfl (.cons rfl rfl (.cons rfl rfl (.nil)))) (fun _ => rfl) (fun ap => (nm (.c (.c (.c (.c (.c (.n)))))) (nL (Qj (tN (Qq (oI rfl (mw rfl (nL (tN ?_))))))))))))
  refine Qg ?_ (ih g j (wI (l + (1:Int))) x1 am a (ap 0) h)
  exact tr rfl (.c (.s .z) (.c (.s .z) (.c (.s .z) (.c (.s .z) (.n _)))))
  refine Qo rfl u (T.exit (Qk (Qk (Qu (tN (sR (Qq ?_)))))))
  obtain ⟨aq, h⟩ := Q9 h
  obtain ⟨au, h⟩ := Q9 h
  refine sp rfl (Q6 (is := [1, 2]) (ph := []) rfl (dk rfl) fu73 rfl rfl (Zs.cons rfl Zs.nil) (builder_String (b := a) (xs := p) aq au) (.cons rfl rfl (.cons rfl rfl (.nil))) (fun _ => rfl) (fun a0 => (nm (.c (.c (.c (.c (.n))))) (aw rfl (nL (tN (T.ret (Q1 (.cons _ _ _ _ (.tmp 4 _ rfl) .nil) (.cons 3 rfl (.cons 0 rfl (.nil _))) (by cases h; exact ⟨gl [], rfl, rfl⟩)))))))))
theorem trim_sign_l1_T {r : ByteArray} (K : Nat) (wx1 : Value) (x1 : List Int) : ∀ (k : Nat), ∀ (x0 : Qa) (g j : Int) (x1 m : List Int) (p a : Nat) (b : Value), G6 K k x0 g j x1 m = some r → TL tp 70 (ca [1,1,1,1,1,0,1,0,0] ff40) ⟨[(1, .c (.ex wx1)), (2, .ptr p 0), (5, .ptr a 0), (6, .c (.ex (.func (.func 70) #[] #[.pointer (some ⟨a, 0, none⟩)]))), (31, .sl false 1 (mI x0.Rule)), (32, .int .i64 g), (33, .int .i64 j)], [.arrX wx1 3 1 0 (mI x1), (Mq p x0.L x0.R x0.Rule x0.Next), (We a a b), .arrX b 5 1 0 (mU m), .tab 0 Vo]⟩ (Tu wx1 x1 r) := by
 intro k
 induction k with
 | zero =>
  intro x0 g j x1 m p a b h
  exact zn h
 | succ k ih =>
  intro x0 g j x1 m p a b h
  rw [G6] at h
  refine Za (sR (Qq (oI rfl (nL (tN (T.seq ?_))))))
  rcases Qh h with ⟨q, h⟩ | ⟨q, h⟩
  refine Qt rfl q (T.skip (tN (T.seq (T.block (sR (Qq ?_))))))
  obtain ⟨w, y, h⟩ := bind_some h
  refine oX x0.Rule (cI .i64) Z5 i3 y rfl (oR ul3 rfl (aw rfl (nL (tN (Qq (mw rfl (mw rfl ?_)))))))
  obtain ⟨aa, ab, h⟩ := bind_some h
  refine sp rfl (I4 (f := 70) (vs := [.pointer (some ⟨a, 0, none⟩)]) rfl rfl (dk rfl) fu70 rfl rfl (Q6 (is := [4, 2, 3]) (ph := []) rfl (dk rfl) fu70 rfl rfl (Zs.cons rfl (Zs.cons rfl Zs.nil)) (H6 K (bx1 := a) (wx1c1 := b) ab) (.cons rfl rfl (.cons rfl rfl (.cons rfl rfl (.nil)))) (fun _ => rfl) (fun ac => (nm (.c (.c (.c (.c (.c (.n)))))) (nL (Qj (tN (Qq (oI rfl (mw rfl (nL (tN ?_))))))))))))
  refine Qg ?_ (ih x0 g (wI (j + (1:Int))) x1 aa p a (ac 0) h)
  exact tq rfl rfl
  refine Qo rfl q (T.exit (Qk (Qk (Qu (tN (T.seq (sR (Qq (oA 1 [.sl false 1 (mI x0.L), .sl false 1 (mI x0.R), .sl false 1 (mI x0.Rule), .sl false 1 (x0.Next.map (cL 2 Ql))] Ke i51 rfl ?_)))))))))
  obtain ⟨u, ad, h⟩ := bind_some h
  refine oH fu33 (Z1.nil (Sj K ad)) rfl (oU u Ql Sg rfl (mw rfl (nL (tN (T.block (T.loop ?_))))))
  refine Qg ?_ (trim_sign_l2_T K wx1 x1 K u (u.length : Int) (0:Int) x1 m a b h)
  exact tr rfl (.c .z (.c (.s .z) (.c (.s .z) (.c (.s .z) (.n _)))))
theorem trim_sign_l0_T {r : ByteArray} (K : Nat) (wx1 : Value) (x1 : List Int) : ∀ (k : Nat), ∀ (x0 : Qa) (j l : Int) (x1 m : List Int) (b a : Nat) (g : Value), G7 K k x0 j l x1 m = some r → TL tp 70 (ca [1,1,1,1,0,1,0,0] ff40) ⟨[(1, .c (.ex wx1)), (2, .ptr b 0), (5, .ptr a 0), (6, .c (.ex (.func (.func 70) #[] #[.pointer (some ⟨a, 0, none⟩)]))), (20, .sl false 1 (mI x0.R)), (21, .int .i64 j), (22, .int .i64 l)], [.arrX wx1 3 1 0 (mI x1), (Mq b x0.L x0.R x0.Rule x0.Next), (We a a g), .arrX g 5 1 0 (mU m), .tab 0 Vo]⟩ (Qam wx1 x1 r) := by
 intro k
 induction k with
 | zero =>
  intro x0 j l x1 m b a g h
  exact zn h
 | succ k ih =>
  intro x0 j l x1 m b a g h
  rw [G7] at h
  refine Za (sR (Qq (oI rfl (nL (tN (T.seq ?_))))))
  rcases Qh h with ⟨p, h⟩ | ⟨p, h⟩
  refine Qt rfl p (T.skip (tN (T.seq (T.block (sR (Qq ?_))))))
  obtain ⟨q, s, h⟩ := bind_some h
  refine oX x0.R (cI .i64) Z5 i3 s rfl (oR ul3 rfl (aw rfl (nL (tN (Qq (mw rfl (mw rfl ?_)))))))
  obtain ⟨u, w, h⟩ := bind_some h
  refine sp rfl (I4 (f := 70) (vs := [.pointer (some ⟨a, 0, none⟩)]) rfl rfl (dk rfl) fu70 rfl rfl (Q6 (is := [4, 2, 3]) (ph := []) rfl (dk rfl) fu70 rfl rfl (Zs.cons rfl (Zs.cons rfl Zs.nil)) (H6 K (bx1 := a) (wx1c1 := g) w) (.cons rfl rfl (.cons rfl rfl (.cons rfl rfl (.nil)))) (fun _ => rfl) (fun y => (nm (.c (.c (.c (.c (.c (.n)))))) (nL (Qj (tN (Qq (oI rfl (mw rfl (nL (tN ?_))))))))))))
  refine Qg ?_ (ih x0 j (wI (l + (1:Int))) x1 u b a (y 0) h)
  exact tq rfl rfl
  refine Qo rfl p (T.exit (Qk (Qk (Qu (tN (T.seq (sR (Qq (oP Ke i38 rfl (oL 1 Z5 rfl (oU x0.Rule (cI .i64) Z5 rfl ?_)))))))))))
  refine mw rfl (nL (tN (T.block (T.loop ?_))))
  refine Qg ?_ (trim_sign_l1_T K wx1 x1 K x0 (x0.Rule.length : Int) (0:Int) x1 m b a g h)
  exact tq rfl rfl
theorem trim_sign_T (K : Nat) {x0 : Qa} {x1 : List Int} {wx1 : Value} {r : ByteArray} (h : Si K x0 x1 = some r) : Ud tp 40 [.agg [.sl false 1 (mI x0.L), .sl false 1 (mI x0.R), .sl false 1 (mI x0.Rule), .sl false 1 (x0.Next.map (cL 2 Ql))], .c (.ex wx1)] [.tab 0 Vo, .arrX wx1 3 1 0 (mI x1)] (fun γ => (.str r)) (fun γ => [.tab 0 Vo, .arrX wx1 3 1 0 (mI x1)]) := by
 refine CI 70 fu40 rfl ?_
 unfold Si at h
 refine sR (Qq (sp rfl (Zw rfl (dk rfl) rfl (fun b => (aw rfl (nL (tN (sR (Qq (sp rfl (Zg rfl (dk rfl) i134 rfl (fun a => (nL (tN (sR (Qq (sp rfl (OpT.makeFunc (vs := [.pointer (some ⟨a, 0, none⟩)]) rfl (dk rfl) rfl ?_))))))))))))))))))
 refine aw rfl (nL (tN (sR (Qq (mw rfl (oP Ke i38 rfl (oL 1 Z5 rfl (oU x0.R (cI .i64) Z5 rfl (J8 (Te 5 1) ?_)))))))))
 obtain ⟨d, g, h⟩ := bind_some h
 refine sp rfl (I4 (f := 70) (vs := [.pointer (some ⟨a, 0, none⟩)]) rfl rfl (dk rfl) fu70 rfl rfl (Q6 (is := [3, 1, 0]) (ph := []) rfl (dk rfl) fu70 rfl rfl (Zs.cons rfl (Zs.cons rfl Zs.nil)) (trim_sign_1_T K (bx1 := a) (wx1c1 := (Tp 10)) g) (.cons rfl rfl (.cons rfl rfl (.cons rfl rfl (.nil)))) (fun _ => rfl) (fun j => (nm (.c (.c (.c (.c (.c (.n)))))) (nL (tN (T.seq (sR (Qq (oP Ke i38 rfl (oL 2 Z5 rfl ?_)))))))))))
 refine oU x0.R (cI .i64) Z5 rfl (mw rfl (nL (tN (T.block (T.loop ?_)))))
 refine Qg ?_ (trim_sign_l0_T K wx1 x1 K x0 (x0.R.length : Int) (0:Int) x1 d b a (j 0) h)
 exact tr rfl (.c (.s (.s (.s (.s .z)))) (.c (.s (.s .z)) (.c (.s .z) (.c .z (.c .z (.n _))))))
abbrev trim_Blocks_q (r : List Int) : ES := Jz tp ff17 (fun y t => y = (.sl false 1 (mI r)) ∧ t = [.tab 0 Vo])
abbrev P2 (r : List Int) : ES := Qz 0 ((trim_Blocks_q r))
abbrev Qaq (r : List Int) : ES := fL 70 [1,1,1,1,0,0] ff17 (P2 r)
abbrev O7 (r : List Int) : ES := Qz 1 ((Qaq r))
abbrev N9 (r : List Int) : ES := fT 70 [1,1,1,1,0,0,0,1,1,1] ff17 (O7 r)
abbrev Hl (r : List Int) : ES := Qz 2 ((N9 r))
abbrev F3 (r : List Int) : ES := fL 70 [1,1,1,1,0,0,0,1,1,0,1,0,0] ff17 (Hl r)
abbrev Cl (r : List Int) : ES := fT 70 [1,1,1,1,0,0,0,1,1,0,1,0,0,1,1,1] ff17 (F3 r)
abbrev Uu (r : List Int) : ES := Qz 3 ((Cl r))
abbrev C3 (r : List Int) (go : Int → Qn → Int → Int → (List Int) → (List (ByteArray × Int)) → (List Int) → Option (List Int)) : Prop := ∀ (a : Int) (x0 : Qn) (b f : Int) (g : List Int) (i : List (ByteArray × Int)) (j : List Int) (l : Nat) (m : Value) (n : Nat) (p : Value), go a x0 b f g i j = some r → TL tp 70 (ca [1,1,1,1,0,0,0,1,1,0,1,0,0] ff17) ⟨[(1, .ptr l 0), (3, .c (.ex m)), (4, .int .i64 a), (5, .c (.ex (.map (some n)))), (6, .c (.ex p)), (24, .sl false 4 (x0.States.map Qf)), (25, .int .i64 b), (26, .int .i64 f)], [(b28x12 l x0.Split.Of x0.Split.Many x0.Counts x0.States), .arrX m 3 1 0 (mI g), .map n (kvs kS kI i), .arrX p 3 1 0 (mI j), .tab 0 Vo]⟩ (Hl r)
theorem P4 {r : List Int} (K : Nat) (go1 : Int → Qn → Int → Int → (List Int) → (List (ByteArray × Int)) → (List Int) → Option (List Int)) (hgo1 : C3 r go1) (p q : Int) (j : ByteArray) (x0 : Qn) (s u : Int) (v : List Int) (b : List (ByteArray × Int)) (m : List Int) (w : Nat) (y : Value) (aa : Nat) (ab : Value) (h : Gi K go1 p q j x0 s u v b m = some r) : T tp 70 (ca [1,1,1,1,0,0,0,1,1,0,1,0,0,1,1,0,0,1,1,1,1] ff17) ⟨[(1, .ptr w 0), (3, .c (.ex y)), (4, .int .i64 p), (5, .c (.ex (.map (some aa)))), (6, .c (.ex ab)), (7, .int .i64 q), (9, .str j), (24, .sl false 4 (x0.States.map Qf)), (25, .int .i64 s), (26, .int .i64 u)], [(b28x12 w x0.Split.Of x0.Split.Many x0.Counts x0.States), .arrX y 3 1 0 (mI v), .map aa (kvs kS kI b), .arrX ab 3 1 0 (mI m), .tab 0 Vo]⟩ (Uu r) := by
 unfold Gi at h
 refine Qq ?_
 iterate 4 refine mw rfl ?_
 refine sp rfl (OpT.lookup (i := 2) (g := kS) (h := kI) (z := 0) (l := b) (a := j) rfl (dk rfl) KeyK.kS ul88 ul9 i3 (fun _ => rfl) rfl rfl rfl ?_)
 obtain ⟨ac, ad, h⟩ := bind_some h
 refine sp rfl (Z8 (n := 3) (xs := m) (f := (cI .i64)) (old := ac) rfl (dk rfl) Z5 i3 rfl rfl rfl ad (sp rfl (Wf (i := 3) (xs := m) (f := (cI .i64)) (old := ac) (new := ((b.lookup j).getD 0)) rfl rfl i3 rfl rfl rfl (Zv ad).2 (Qf7 _) (nb rfl) rfl (nL (Qj (tN (Qq (oI rfl (mw rfl (nL (tN ?_)))))))))))
 refine Qg ?_ (hgo1 p x0 s (wI (u + (1:Int))) v b (List.set m (Int.toNat q) ((b.lookup j).getD 0)) w y aa ab h)
 exact tq rfl rfl
theorem P5 {r : List Int} (K : Nat) (go1 : Int → Qn → Int → Int → (List Int) → (List (ByteArray × Int)) → (List Int) → Option (List Int)) (hgo1 : C3 r go1) (j m : Int) (f : ByteArray) (x0 : Qn) (p q : Int) (s : List Int) (b : List (ByteArray × Int)) (u : List Int) (w : Nat) (y : Value) (aa : Nat) (ab : Value) (h : Gj K go1 j m f x0 p q s b u = some r) : T tp 70 (ca [1,1,1,1,0,0,0,1,1,0,1,0,0,1,1,0,0,1,1,1] ff17) ⟨[(1, .ptr w 0), (3, .c (.ex y)), (4, .int .i64 j), (5, .c (.ex (.map (some aa)))), (6, .c (.ex ab)), (7, .int .i64 m), (9, .str f), (24, .sl false 4 (x0.States.map Qf)), (25, .int .i64 p), (26, .int .i64 q)], [(b28x12 w x0.Split.Of x0.Split.Many x0.Counts x0.States), .arrX y 3 1 0 (mI s), .map aa (kvs kS kI b), .arrX ab 3 1 0 (mI u), .tab 0 Vo]⟩ (Uu r) := by
 unfold Gj at h
 refine T.seq (sR (Qq (mw rfl (mw rfl (sp rfl (Qdx (i := 2) (g := kS) (h := kI) (z := 0) (l := b) (a := f) rfl (dk rfl) KeyK.kS ul88 ul9 i3 (fun _ => rfl) rfl rfl rfl (mw rfl (oE rfl ?_))))))))
 refine oE rfl (aw rfl (aw rfl (nL (tN (sR (Qq (mw rfl (oT rfl (nL (tN ?_))))))))))
 rcases Qh h with ⟨ac, h⟩ | ⟨ac, h⟩
 refine Qt rfl ac (Qq ?_)
 iterate 3 refine mw rfl ?_
 refine sp rfl (Qdl (i := 2) (g := kS) (h := kI) (l := b) rfl (dk rfl) ul88 rfl rfl ?_)
 obtain ⟨ad, h⟩ := Q9 h
 refine sp rfl (OpT.mapPut (i := 2) (g := kS) (h := kI) (l := b) (a := f) (v := (b.length : Int)) rfl rfl KeyK.kS ul88 ul9 rfl rfl rfl rfl ad (nL (tN ?_)))
 refine Qm ?_ (P4 K go1 hgo1 j m f x0 p q s (b ++ [(f, (b.length : Int))]) u w y aa ab h)
 exact tq rfl rfl
 refine Qo rfl ac (T.skip (tN ?_))
 refine Qm ?_ (P4 K go1 hgo1 j m f x0 p q s b u w y aa ab h)
 exact tq rfl rfl
abbrev P3 (r : List Int) (go : Int → Qn → (List Int) → Option (List Int)) : Prop := ∀ (a : Int) (x0 : Qn) (b : List Int) (f : Nat) (g : Value), go a x0 b = some r → TL tp 70 (ca [1,1,1,1,0,0] ff17) ⟨[(1, .ptr f 0), (3, .c (.ex g)), (4, .int .i64 a)], [(b28x12 f x0.Split.Of x0.Split.Many x0.Counts x0.States), .arrX g 3 1 0 (mI b), .tab 0 Vo]⟩ (P2 r)
theorem Qdz {r : List Int} (K : Nat) (go0 : Int → Qn → (List Int) → Option (List Int)) (hgo0 : P3 r go0) : ∀ (k : Nat), C3 r (Vb K go0 k) := by
 intro k
 induction k with
 | zero =>
  intro af x0 ag m p w ac aa j ad ab h
  exact zn h
 | succ k ih =>
  intro af x0 ag m p w ac aa j ad ab h
  rw [Vb] at h
  refine Za (sR (Qq (oI rfl (nL (tN (T.seq ?_))))))
  rcases Qh h with ⟨aj, h⟩ | ⟨aj, h⟩
  refine Qt rfl aj (T.skip (tN (T.seq (T.block (sR (Qq (mw rfl ?_)))))))
  obtain ⟨b, aq, h⟩ := bind_some h
  refine oX x0.States Qf He i51 aq rfl (oJ Ke i51 rfl (sp rfl (Zg rfl (dk rfl) i51 rfl (fun al => (aw rfl (sp rfl (Qv (i := 0) (cells' := [.d (.sl false 1 (mI b.L)), .d (.sl false 1 (mI b.R)), .d (.sl false 1 (mI b.Rule)), .d (.sl false 1 (b.Next.map (cL 2 Ql)))]) rfl rfl i51 rfl rfl rfl rfl (nb rfl) rfl (nL (tN (sR (Qq (aw rfl ?_))))))))))))
  refine nL (tN (T.seq (sR (Qq (mw rfl (oI rfl (nL (tN ?_))))))))
  rcases Qh h with ⟨am, h⟩ | ⟨am, h⟩
  refine Qt rfl am (Us (gM rfl (fun _ => .f rfl) (fun _ => rfl) (gM rfl (fun _ => .f rfl) (fun _ => rfl) ?_)))
  obtain ⟨ai, ap, h⟩ := bind_some h
  refine dC (c := ⟨some 35, .el j 1 (Int.toNat m) 0, [(33, .c (.ex j)), (34, .int .i64 m)], [(2, .arrX j 3 1 0 (mI p))], []⟩) (fun t hm => oF rfl rfl (Z8 (n := 2) (xs := p) (f := (cI .i64)) (old := ai) rfl (dk rfl) Z5 i3 hm.s0 hm.o0 hm.s1 ap ⟨u0, rfl⟩)) (fun _ => rfl) (fun _ => rfl) (dC (c := ⟨some 36, .int .i64 ai, [(35, .el j 1 (Int.toNat m) 0)], [(2, .arrX j 3 1 0 (mI p))], []⟩) (fun t hm => oF rfl rfl (J1 (i := 2) (xs := p) (f := (cI .i64)) (old := ai) rfl (dk rfl) ul3 rfl hm.s0 hm.o0 (Zv ap).2 rfl ⟨u0, rfl⟩)) (fun _ => rfl) (fun _ => rfl) ?_)
  obtain ⟨q, au, h⟩ := bind_some h
  refine dC (c := ⟨some 37, .str q, [(36, .int .i64 ai)], [(5, .tab 0 Vo)], []⟩) (fun t hm => oF rfl rfl (K9 rfl (dk rfl) fu39 rfl rfl (Zs.cons hm.s0 Zs.nil) (.tab 5 hm.o0 (.nil)) (Nd K au) ⟨u0, rfl⟩)) (fun _ => rfl) (fun _ => rfl) ?_
  obtain ⟨av, h⟩ := Q9 h
  refine dC (c := ⟨some 38, .str (q ++ (⟨#[58]⟩ : ByteArray)), [(37, .str q)], [], []⟩) (fun t hm => oF rfl rfl (Py rfl (dk rfl) hm.s0 rfl av ⟨u0, rfl⟩)) (fun _ => rfl) (fun _ => rfl) (gW 0 [.sl false 1 (mI b.L), .sl false 1 (mI b.R), .sl false 1 (mI b.Rule), .sl false 1 (b.Next.map (cL 2 Ql))] rfl (fun _ => .f rfl) Ke i51 (fun _ => rfl) (gM rfl (fun _ => .f rfl) (fun _ => rfl) ?_))
  obtain ⟨y, ay, h⟩ := bind_some h
  refine dC (c := ⟨some 41, .str y, [(39, .agg [.sl false 1 (mI b.L), .sl false 1 (mI b.R), .sl false 1 (mI b.Rule), .sl false 1 (b.Next.map (cL 2 Ql))]), (40, .c (.ex j))], [(2, .arrX j 3 1 0 (mI p)), (5, .tab 0 Vo)], [(5, .tab 0 Vo), (2, .arrX j 3 1 0 (mI p))]⟩) (fun t hm => oF rfl rfl (Q6 (is := [5, 2]) (ph := []) rfl (dk rfl) fu40 rfl rfl (Zs.cons hm.s0 (Zs.cons hm.s1 Zs.nil)) (trim_sign_T K (wx1 := j) ay) (.cons hm.o1 rfl (.cons hm.o0 rfl (.nil))) (fun _ => rfl) (fun g => ⟨(g, 0), rfl⟩))) (fun _ => rfl) (fun _ => rfl) ?_
  obtain ⟨az, h⟩ := Q9 h
  refine dC (c := ⟨some 42, .str ((q ++ (⟨#[58]⟩ : ByteArray)) ++ y), [(38, .str (q ++ (⟨#[58]⟩ : ByteArray))), (41, .str y)], [], []⟩) (fun t hm => oF rfl rfl (Py rfl (dk rfl) hm.s0 hm.s1 az ⟨u0, rfl⟩)) (fun _ => rfl) (fun _ => rfl) (gA rfl (fun _ => .f rfl) (fun _ => rfl) (gF [0,0,3,7,15,31,0,0,223,511,1023] Q3 rfl (by kernel_rfl) (fun _ => by kernel_rfl) (fun a u hu => (tN (Qm hu ?_)))))
  refine Qm ?_ (P5 K (Vb K go0 k) ih af m ((q ++ (⟨#[58]⟩ : ByteArray)) ++ y) x0 ag m p w ac aa j ad ab h)
  exact tr rfl (.c (.s .z) (.c (.s .z) (.c (.s .z) (.c (.s .z) (.c (.s .z) (.n _))))))
  refine Qo rfl am (T.skip (tN ?_))
  refine Qm ?_ (P5 K (Vb K go0 k) ih af m (⟨#[102, 105, 114, 115, 116]⟩ : ByteArray) x0 ag m p w ac aa j ad ab h)
  exact tr rfl (.c (.s .z) (.c (.s .z) (.c (.s .z) (.c (.s .z) (.c (.s .z) (.n _))))))
  refine Qo rfl aj (T.exit (Qk (Qk (Qu (tN (sR (Qq (mw rfl (aw rfl (nL (tN (T.seq ?_))))))))))))
  refine sR (Qq (mw rfl (sp rfl (Qdl (i := 2) (g := kS) (h := kI) (l := w) rfl (dk rfl) ul88 rfl rfl (mw rfl (oI rfl (nL (tN ?_))))))))
  rcases Qh h with ⟨an, h⟩ | ⟨an, h⟩
  refine Qt rfl an (sR (Qq (mw rfl (aw rfl (nL (tN (T.ret (Qy (Q7 (Qy (Q7 (Xj (Gl 3 rfl) ?_))))))))))))
  refine Xj (Zx.view 2 3 rfl rfl) (Q1 (.cons _ _ _ _ (.tmp 2 _ rfl) .nil) (.cons 4 rfl (.nil _)) (by cases h; exact ⟨rfl, rfl⟩))
  refine Qo rfl an (T.skip (tN (Qq (mw rfl (sp rfl (Qdl (i := 2) (g := kS) (h := kI) (l := w) rfl (dk rfl) ul88 rfl rfl (aw rfl (nL (Qj (tN ?_))))))))))
  refine Qg ?_ (hgo0 (w.length : Int) x0 ac aa ab h)
  exact tr rfl (.c .z (.c (.s (.s .z)) (.c (.s (.s .z)) (.n _))))
theorem Qd0 {r : List Int} (K : Nat) : ∀ (k : Nat), P3 r (U6 K k) := by
 intro k
 induction k with
 | zero =>
  intro b x0 a d g h
  exact zn h
 | succ k ih =>
  intro b x0 a d g h
  rw [U6] at h
  refine Za (T.block (sR (Qq (sp rfl (OpT.makeMap rfl (dk rfl) (fun j => (aw rfl (nL (tN (sR (Qq (mw rfl ?_))))))))))))
  refine sp rfl (J9 (i := 2) (xs := a) (f := (cI .i64)) rfl (dk rfl) Z5 rfl rfl ?_)
  obtain ⟨l, h⟩ := Q9 h
  obtain ⟨m, h⟩ := Q9 h
  refine sp rfl (Gm (f := (cI .i64)) (zv := ((0:Int) : Int)) rfl (dk rfl) Z5 i3 (by decide) rfl rfl rfl rfl rfl l m (fun p => (aw rfl (nL (tN (T.seq (sR (Qq (oP G4 i26 rfl (oL 2 He rfl ?_))))))))))
  refine oU x0.States Qf He rfl (mw rfl (nL (tN (T.block (T.loop ?_)))))
  refine Qg ?_ (Qdz K (U6 K k) ih K b x0 (x0.States.length : Int) (0:Int) a [] (List.replicate (Int.toNat (a.length : Int)) ((0:Int) : Int)) d g j p h)
  exact tr rfl (.c (.s (.s .z)) (.c (.s (.s .z)) (.c (.s .z) (.c .z (.c .z (.n _))))))
theorem trim_Blocks_T (K : Nat) {x0 : Qn} {r : List Int} (h : Et K x0 = some r) : Z1 tp 17 [.agg ((Zn.dc 256 .u8 x0.Split.Of) ++ (([.int .i64 x0.Split.Many, .sl false 2 (mA x0.Counts), .sl false 4 (x0.States.map Qf)] : List DC)))] [.tab 0 Vo] (.sl false 1 (mI r)) := by
 refine CI 70 fu17 rfl ?_
 unfold Et at h
 refine sR (Qq (sp rfl (Zw rfl (dk rfl) rfl (fun b => (aw rfl (nL (tN (T.seq (sR (Qq (oA 0 ((Zn.dc 256 .u8 x0.Split.Of) ++ (([.int .i64 x0.Split.Many, .sl false 2 (mA x0.Counts), .sl false 4 (x0.States.map Qf)] : List DC))) G4 i28 rfl ?_)))))))))))
 obtain ⟨p, d, h⟩ := bind_some h
 refine oH fu24 (Z1.nil (Tc K d)) rfl (oT rfl (nL (tN ?_)))
 rcases Qh h with ⟨a, h⟩ | ⟨a, h⟩
 refine Qt rfl a (sR (Qq (aw rfl (nL (tN (T.ret (Qy (Xj (Em 2 false 1 rfl) (Q1 (.cons _ _ _ _ (.tmp 2 _ rfl) .nil) (.cons 1 rfl (.nil _)) (by cases h; exact ⟨rfl, rfl⟩))))))))))
 refine Qo rfl a (T.skip (tN (sR (Qq (oP G4 i26 rfl (oL 0 He rfl (oU x0.States Qf He rfl ?_)))))))
 obtain ⟨g, h⟩ := Q9 h
 obtain ⟨j, h⟩ := Q9 h
 refine sp rfl (Gm (f := (cI .i64)) (zv := ((0:Int) : Int)) rfl (dk rfl) Z5 i3 (by decide) rfl rfl rfl rfl rfl g j (fun m => (aw rfl (nL (tN (sR (Qq (aw rfl (nL (tN (T.block (T.loop ?_))))))))))))
 refine Qg ?_ (Qd0 K K (0:Int) x0 (List.replicate (Int.toNat (x0.States.length : Int)) ((0:Int) : Int)) b m h)
 exact tr rfl (.c (.s .z) (.c .z (.c .z (.n _))))
abbrev Rh (bx0 : Nat) (r : Qc) : ES := Jz tp Qbt (fun y t => ∃ γ : Nat → Value, y = (.tup []) ∧ t = [(Ja bx0 r.Auto.Split.Of r.Auto.Split.Many r.Auto.Counts r.Auto.States)])
abbrev I7 (bx0 : Nat) (r : Qc) : ES := fT 102 [1,1] Qbt (Rh bx0 r)
abbrev G5 (bx0 : Nat) (r : Qc) : ES := Qz 0 ((I7 bx0 r))
abbrev Eo (bx0 : Nat) (r : Qc) : ES := fL 102 [1,0,1,0,0] Qbt (G5 bx0 r)
abbrev By (bx0 : Nat) (r : Qc) : ES := fT 102 [1,0,1,0,0,1,1,1] Qbt (Eo bx0 r)
abbrev Kw (bx0 : Nat) (r : Qc) : ES := Qz 1 ((By bx0 r))
abbrev Kv (bx0 : Nat) (r : Qc) : ES := fT 102 [1,0,1,0,0,1,1,0,0,1,1,1] Qbt (Kw bx0 r)
abbrev V9 (bx0 : Nat) (r : Qc) : ES := Qz 2 ((Kv bx0 r))
abbrev Kb (bx0 : Nat) (r : Qc) : ES := fL 102 [1,0,1,0,0,1,1,0,0,1,1,0,1,0,0] Qbt (V9 bx0 r)
abbrev Gp (bx0 : Nat) (r : Qc) : ES := fT 102 [1,0,1,0,0,1,1,0,0,1,1,0,1,0,0,1,1,1] Qbt (Kb bx0 r)
abbrev Js (bx0 : Nat) (r : Qc) : ES := Qz 3 ((Gp bx0 r))
abbrev Xp (bx0 : Nat) (r : Qc) : ES := Qz 4 ((Js bx0 r))
abbrev Ww (bx0 : Nat) (r : Qc) : ES := fL 102 [1,0,1,0,0,1,1,0,0,1,1,0,1,0,0,1,1,0,0,1,1,0,0] Qbt (Xp bx0 r)
abbrev Jr (bx0 : Nat) (r : Qc) : ES := fT 102 [1,0,1,0,0,1,1,0,0,1,1,0,1,0,0,1,1,0,0,1,1,0,0,1,1,1] Qbt (Ww bx0 r)
abbrev Yq (bx0 : Nat) (r : Qc) : ES := Qz 5 ((Jr bx0 r))
abbrev U5 (bx0 : Nat) (r : Qc) : ES := fT 102 [1,0,1,0,0,1,1,0,0,1,1,0,1,0,0,1,1,0,0,1,1,0,0,1,1,0,0,1,1,1] Qbt (Yq bx0 r)
abbrev Wb (bx0 : Nat) (r : Qc) (go : (List Int) → Int → Int → Qc → Int → Int → (List (List Qd)) → Int → Int → (List Qd) → Int → Int → (List Qa) → (List Int) → (List Int) → (List Int) → (List (List Qd)) → (List (List Qd)) → Option Qc) : Prop := ∀ (x1 : List Int) (a b : Int) (x0 : Qc) (f g : Int) (i : List (List Qd)) (j l : Int) (m : List Qd) (n p : Int) (q : List Qa) (s u v : List Int) (w y : List (List Qd)) (flx1 : Bool) (z : Value) (aa : Nat) (ab : Value), go x1 a b x0 f g i j l m n p q s u v w y = some r → TL tp 102 (ca [1,0,1,0,0,1,1,0,0,1,1,0,1,0,0,1,1,0,0,1,1,0,0] Qbt) ⟨[(0, .ptr bx0 0), (1, .sl flx1 1 (mI x1)), (4, .c (.ex z)), (5, .int .i64 a), (6, .ptr aa 0), (7, .c (.ex ab)), (8, .int .i64 b), (24, .sl false 4 (x0.Auto.States.map Qf)), (25, .int .i64 f), (26, .int .i64 g), (36, .sl false 1 (i.map (cL 2 Ql))), (37, .int .i64 j), (38, .int .i64 l), (43, .sl false 2 (m.map Ql)), (44, .int .i64 n), (45, .int .i64 p)], [(Ja bx0 x0.Auto.Split.Of x0.Auto.Split.Many x0.Auto.Counts x0.Auto.States), .arrX z 51 4 0 (q.map Qf), (Mq aa s u v w), .arrG ab 55 (gc 54 2 Ql y)]⟩ (Xp bx0 r)
theorem Ki {r : Qc} (K bx0 : Nat) (go2 : (List Int) → Int → Int → Qc → Int → Int → (List (List Qd)) → Int → Int → (List Qd) → Int → Int → (List Qa) → (List Int) → (List Int) → (List Int) → (List (List Qd)) → (List (List Qd)) → Option Qc) (hgo2 : Wb bx0 r go2) (x1 : List Int) (ac g : Int) (x0 : Qc) (ad af : Int) (ag : List (List Qd)) (ai aj : Int) (al : List Qd) (am an : Int) (ap : List Qa) (aq au av : List Int) (ay p : List (List Qd)) (j : Int) (m : List Int) (flx1 : Bool) (v : Value) (aa : Nat) (b : Value) (ab : Nat) (h : Xx K go2 x1 ac g x0 ad af ag ai aj al am an ap aq au av ay p j m = some r) : T tp 102 (ca [1,0,1,0,0,1,1,0,0,1,1,0,1,0,0,1,1,0,0,1,1,0,0,1,1,0,0,1,1,1] Qbt) ⟨[(0, .ptr bx0 0), (1, .sl flx1 1 (mI x1)), (4, .c (.ex v)), (5, .int .i64 ac), (6, .ptr aa 0), (7, .c (.ex b)), (8, .int .i64 g), (12, .ptr ab 0), (24, .sl false 4 (x0.Auto.States.map Qf)), (25, .int .i64 ad), (26, .int .i64 af), (36, .sl false 1 (ag.map (cL 2 Ql))), (37, .int .i64 ai), (38, .int .i64 aj), (43, .sl false 2 (al.map Ql)), (44, .int .i64 am), (45, .int .i64 an)], [(Ja bx0 x0.Auto.Split.Of x0.Auto.Split.Many x0.Auto.Counts x0.Auto.States), .arrX v 51 4 0 (ap.map Qf), (Mq aa aq au av ay), .arrG b 55 (gc 54 2 Ql p), (Qcp ab j m)]⟩ (Yq bx0 r) := by
 unfold Xx at h
 refine Qm Yk (Qm Yk (Us (gM rfl (fun _ => .f rfl) (fun _ => rfl) (gM rfl (fun _ => .f rfl) (fun _ => rfl) (gM rfl (fun _ => .f rfl) (fun _ => rfl) (gM rfl (fun _ => .f rfl) (fun _ => rfl) ?_))))))
 obtain ⟨q, az, h⟩ := bind_some h
 refine dC (c := ⟨some 74, .el b 1 (Int.toNat g) 0, [(72, .c (.ex b)), (73, .int .i64 g)], [(5, .arrG b 55 (gc 54 2 Ql p))], []⟩) (fun t hm => oF rfl rfl (Pz (n := 5) (l := p) (y := q) rfl (dk rfl) Qcz i55 hm.s0 hm.o0 hm.s1 az ⟨u0, rfl⟩)) (fun _ => rfl) (fun _ => rfl) (DGG.step (c := fun a => ⟨some 75, .c (.ex ((a 5).1 0)), [(74, .el b 1 (Int.toNat g) 0)], [(5, .arrG b 55 (gc 54 2 Ql p)), (0, .ro 0 [])], [(5, .arrG b 55 (gh 54 2 Ql p (Int.toNat g) ((a 5).1 0))), (0, .arrA ((a 5).1 0) 54 2 (q.map Ql))]⟩) [5] (fun a γ' h => by simp only [h 5 (by decide)]) (fun a t hm => oF rfl rfl (Qdk (i := 5) (kk := 0) (l := p) (y := q) rfl (dk rfl) Sg rfl hm.s0 hm.o0 (Zv az).2 hm.o1 (fun w => ⟨(fun _ => w, 0), rfl⟩))) (fun a => Zr rfl rfl) (gW 6 [.int .i64 j, .sl false 1 (mU m)] rfl (fun _ => .f rfl) Iw i54 (fun _ => rfl) (dC (c := ⟨some 77, .sl true 2 ([(Qd.mk j m)].map Ql), [(76, .agg [.int .i64 j, .sl false 1 (mU m)])], [], []⟩) (fun t hm => oF rfl rfl (OpT.buildSlice (elems := ([(Qd.mk j m)] : List Qd).map Ql) rfl (dk rfl) Sg i54 (by decide) rfl (Hb rfl) (Y1 hm.s0 rfl Jl) rfl rfl (Xh rfl) (by decide) ⟨u0, rfl⟩)) (fun _ => rfl) (fun _ => rfl) ?_)))
 obtain ⟨a0, h⟩ := Q9 h
 refine DGG.step (c := fun a => ⟨some 78, .c (.ex ((a 8).1 0)), [(77, .sl true 2 ([(Qd.mk j m)].map Ql)), (75, .c (.ex ((a 5).1 0)))], [(0, .arrA ((a 5).1 0) 54 2 (q.map Ql))], [(0, .arrA ((a 8).1 0) 54 2 ((q ++ [(Qd.mk j m)]).map Ql))]⟩) [5, 8] (fun a γ' h => by simp only [h 5 (by decide), h 8 (by decide)]) (fun a t hm => oF rfl rfl (Zj (i := 0) (xs := q) (ys := [(Qd.mk j m)]) (f := Ql) rfl (dk rfl) Sg i54 rfl hm.s1 hm.o0 hm.s0 a0 (fun w => ⟨(fun _ => w, 0), rfl⟩))) (fun a => Zr rfl rfl) (DGG.step (c := fun a => ⟨some 79, .el b 1 (Int.toNat g) 0, [(70, .c (.ex b)), (71, .int .i64 g)], [(5, .arrG b 55 (gh 54 2 Ql p (Int.toNat g) ((a 5).1 0)))], []⟩) [5] (fun a γ' h => by simp only [h 5 (by decide)]) (fun a t hm => oF rfl rfl (Qbr (n := 5) (l := p) (y := q) rfl (dk rfl) Qcz i55 hm.s0 hm.o0 hm.s1 az ⟨u0, rfl⟩)) (fun a => Zr rfl rfl) (DGG.step (c := fun a => ⟨none, .any, [(79, .el b 1 (Int.toNat g) 0), (78, .c (.ex ((a 8).1 0)))], [(5, .arrG b 55 (gh 54 2 Ql p (Int.toNat g) ((a 5).1 0))), (0, .arrA ((a 8).1 0) 54 2 ((q ++ [(Qd.mk j m)]).map Ql))], [(5, .arrG b 55 (gc 54 2 Ql (List.set p (Int.toNat g) (q ++ [(Qd.mk j m)])))), (0, .ro 0 [])]⟩) [5, 8] (fun a γ' h => by simp only [h 5 (by decide), h 8 (by decide)]) (fun a t hm => oF rfl rfl (Qbq (i := 5) (kk := 0) (l := p) (old := q) (y' := (q ++ [(Qd.mk j m)])) rfl rfl i55 hm.s0 hm.s1 hm.o0 (Zv az).2 hm.o1 ⟨u0, rfl⟩)) (fun a => Zr rfl rfl) (gF [0,0,0,0,12,28,0,64,252,511,1023] Q3 rfl (by kernel_rfl) (fun _ => by kernel_rfl) (fun a u hu => (Qj (tN (Qm hu (Qq (oI rfl (mw rfl ?_))))))))))
 refine nL (tN ?_)
 refine Qg ?_ (hgo2 x1 ac g x0 ad af ag ai aj al am (wI (an + (1:Int))) ap aq au av ay (List.set p (Int.toNat g) (q ++ [(Qd.mk j m)])) flx1 v aa b h)
 exact tr rfl (.c (.s (.s .z)) (.c (.s (.s .z)) (.c (.s (.s .z)) (.c (.s (.s .z)) (.n _)))))
theorem Kh {r : Qc} (K bx0 : Nat) (go2 : (List Int) → Int → Int → Qc → Int → Int → (List (List Qd)) → Int → Int → (List Qd) → Int → Int → (List Qa) → (List Int) → (List Int) → (List Int) → (List (List Qd)) → (List (List Qd)) → Option Qc) (hgo2 : Wb bx0 r go2) (x1 : List Int) (a b : Int) (x0 : Qc) (f g : Int) (i : List (List Qd)) (j l : Int) (m : List Qd) (p q : Int) (s : List Qa) (u v w : List Int) (y aa : List (List Qd)) (flx1 : Bool) (ab : Value) (ac : Nat) (ad : Value) (af : Nat) (h : Xw K go2 x1 a b x0 f g i j l m p q s u v w y aa = some r) : T tp 102 (ca [1,0,1,0,0,1,1,0,0,1,1,0,1,0,0,1,1,0,0,1,1,0,0,1,1,0,0,1,1,0,1,1] Qbt) ⟨[(0, .ptr bx0 0), (1, .sl flx1 1 (mI x1)), (4, .c (.ex ab)), (5, .int .i64 a), (6, .ptr ac 0), (7, .c (.ex ad)), (8, .int .i64 b), (12, .ptr af 0), (24, .sl false 4 (x0.Auto.States.map Qf)), (25, .int .i64 f), (26, .int .i64 g), (36, .sl false 1 (i.map (cL 2 Ql))), (37, .int .i64 j), (38, .int .i64 l), (43, .sl false 2 (m.map Ql)), (44, .int .i64 p), (45, .int .i64 q)], [(Ja bx0 x0.Auto.Split.Of x0.Auto.Split.Many x0.Auto.Counts x0.Auto.States), .arrX ab 51 4 0 (s.map Qf), (Mq ac u v w y), .arrG ad 55 (gc 54 2 Ql aa), (Qcp af (-1:Int) ([] : List Int))]⟩ (U5 bx0 r) := by
 unfold Xw at h
 refine T.skip (tN ?_)
 refine Qm ?_ (Ki K bx0 go2 hgo2 x1 a b x0 f g i j l m p q s u v w y aa (-1:Int) [] flx1 ab ac ad af h)
 exact tq rfl rfl
abbrev Kf (bx0 : Nat) (r : Qc) (go : (List Int) → Int → Qc → Int → Int → (List (List Qd)) → Int → Int → (List Qa) → (List Int) → (List Int) → (List Int) → (List (List Qd)) → (List (List Qd)) → Option Qc) : Prop := ∀ (x1 : List Int) (a : Int) (x0 : Qc) (b f : Int) (g : List (List Qd)) (i j : Int) (l : List Qa) (m n p : List Int) (q s : List (List Qd)) (flx1 : Bool) (u : Value) (v : Nat) (w : Value), go x1 a x0 b f g i j l m n p q s = some r → TL tp 102 (ca [1,0,1,0,0,1,1,0,0,1,1,0,1,0,0] Qbt) ⟨[(0, .ptr bx0 0), (1, .sl flx1 1 (mI x1)), (4, .c (.ex u)), (5, .int .i64 a), (6, .ptr v 0), (7, .c (.ex w)), (24, .sl false 4 (x0.Auto.States.map Qf)), (25, .int .i64 b), (26, .int .i64 f), (36, .sl false 1 (g.map (cL 2 Ql))), (37, .int .i64 i), (38, .int .i64 j)], [(Ja bx0 x0.Auto.Split.Of x0.Auto.Split.Many x0.Auto.Counts x0.Auto.States), .arrX u 51 4 0 (l.map Qf), (Mq v m n p q), .arrG w 55 (gc 54 2 Ql s)]⟩ (V9 bx0 r)
theorem I8 {r : Qc} (K bx0 : Nat) (go1 : (List Int) → Int → Qc → Int → Int → (List (List Qd)) → Int → Int → (List Qa) → (List Int) → (List Int) → (List Int) → (List (List Qd)) → (List (List Qd)) → Option Qc) (hgo1 : Kf bx0 r go1) : ∀ (k : Nat), Wb bx0 r (Zo K go1 k) := by
 intro k
 induction k with
 | zero =>
  intro x1 aa au x0 ab ac ad af ag ai av ay aj al am an ap aq flx1 q w y h
  exact zn h
 | succ k ih =>
  intro x1 aa au x0 ab ac ad af ag ai av ay aj al am an ap aq flx1 q w y h
  rw [Zo] at h
  refine Za (sR (Qq (oI rfl (nL (tN (T.seq ?_))))))
  rcases Qh h with ⟨az, h⟩ | ⟨az, h⟩
  refine Qt rfl az (T.skip (tN (T.seq (T.block (sR (Qq ?_))))))
  obtain ⟨g, a2, h⟩ := bind_some h
  refine oX ai Ql Sg i54 a2 rfl (oJ Iw i54 rfl (sp rfl (Zg rfl (dk rfl) i54 rfl (fun j => (sp rfl (Qv (i := 0) (cells' := [.d (.int .i64 g.To), .d (.sl false 1 (mU g.Ops))]) rfl rfl i54 rfl rfl rfl rfl (nb rfl) rfl (nL (tN (sR (Qq (sp rfl (Zi (OpT.build (l := [.int .i64 (-1:Int), .ex (.slice none 0 0)]) rfl (dk rfl) (Zp (pl := [(0, 1), (1, 1)]) Iw i54 rfl) (Hb rfl) rfl rfl rfl) (Zy 49 (l := [.int .i64 (-1:Int), .ex (.slice none 0 0)]) (l' := [.int .i64 (-1:Int), .sl false 1 (([] : List Int).map (cI .u8))]) (.cons (.same _) (.cons (.nil _ _) (.refl _)))) (sp rfl (Zg rfl (dk rfl) i54 rfl (fun p => ?_)))))))))))))))
  refine sp rfl (Qv (i := 0) (cells' := [.d (.int .i64 (-1:Int)), .d (.sl false 1 (([] : List Int).map (cI .u8)))]) rfl rfl i54 rfl rfl rfl rfl (nb rfl) rfl (nL (tN (T.seq (sR (Qq (oP Iw i3 rfl (oL 1 ul3 rfl (oI rfl ?_)))))))))
  refine mw rfl ?_
  rcases Qh h with ⟨b, h⟩ | ⟨b, h⟩
  refine sn rfl b (OpT.move rfl (dk rfl) rfl (sn rfl b (Ur rfl (dk rfl) Iw rfl i3 (by decide) rfl (sn rfl b (Yr (i := 1) rfl (dk rfl) ul3 rfl rfl rfl rfl ?_)))))
  obtain ⟨a, a1, h⟩ := bind_some h
  refine sn rfl b (Lh (xs := x1) (f := (cI .i64)) (v := a) rfl (dk rfl) Z5 i3 rfl rfl a1 (sn rfl b (K7 rfl (dk rfl) ul3 rfl rfl rfl (sn rfl b (Z9 rfl rfl (dk rfl) rfl rfl (oY b rfl (nL (tN ?_))))))))
  rcases Qh h with ⟨a0, h⟩ | ⟨a0, h⟩
  refine Qt rfl a0 (Xk (dV rfl rfl (dP rfl (.f rfl) Iw i3 rfl (dL 1 rfl (.f rfl) ul3 rfl (dX x1 (cI .i64) rfl (.f rfl) Z5 i3 a1 rfl (dR rfl (.f rfl) ul3 rfl ?_))))))
  refine dP rfl (.f rfl) Iw i52 rfl (dL 1 rfl (.f rfl) Mt rfl ?_)
  obtain ⟨m, a3, h⟩ := bind_some h
  refine dH fu94 (Z1.nil (Dv K (flx0 := false) a3)) rfl (.f rfl) rfl (dS (c := ⟨some 69, .agg [.int .i64 a, .sl false 1 (mU m)], [(65, .int .i64 a), (68, .sl false 1 (mU m))], [], []⟩) (fun t hm => oF rfl rfl (OpT.build (l := [.int .i64 a, .sl false 1 (mU m)]) rfl (dk rfl) (Zp (pl := [(0, 1), (1, 1)]) Iw i54 rfl) (Hb rfl) (Y1 hm.s0 rfl (Y1 hm.s1 rfl Jl)) rfl rfl)) rfl rfl (dS (c := ⟨none, .any, [(12, .ptr p 0), (69, .agg [.int .i64 a, .sl false 1 (mU m)])], [(0, (Qcp p (-1:Int) ([] : List Int)))], [(0, (Qcp p a m))]⟩) (fun t hm => oF rfl rfl (Qv (i := 0) (cells' := [.d (.int .i64 a), .d (.sl false 1 (mU m))]) rfl rfl i54 hm.s0 hm.s1 rfl hm.o0 (nb rfl) rfl rfl)) rfl rfl (dF [0,0,2,7,15,0,32,96,255,511] Q3 rfl (by kernel_rfl) (fun u hu => (tN (Qm hu ?_))))))
  refine Qm ?_ (Ki K bx0 (Zo K go1 k) ih x1 aa au x0 ab ac ad af ag ai av ay aj al am an ap aq a m flx1 q w y p h)
  exact tr rfl (.c (.s (.s .z)) (.c (.s (.s .z)) (.c (.s (.s .z)) (.c (.s (.s .z)) (.c .z (.n _))))))
  refine Qo rfl a0 ?_
  refine Qm ?_ (Kh K bx0 (Zo K go1 k) ih x1 aa au x0 ab ac ad af ag ai av ay aj al am an ap aq flx1 q w y p h)
  exact tr rfl (.c (.s (.s .z)) (.c (.s (.s .z)) (.c (.s (.s .z)) (.c (.s (.s .z)) (.c .z (.n _))))))
  refine pf rfl b (pf rfl b (pf rfl b (pf rfl b (pf rfl b (pf rfl b (oZ b rfl ?_))))))
  refine nL (tN (Qo rfl rfl ?_))
  refine Qm ?_ (Kh K bx0 (Zo K go1 k) ih x1 aa au x0 ab ac ad af ag ai av ay aj al am an ap aq flx1 q w y p h)
  exact tr rfl (.c (.s (.s .z)) (.c (.s (.s .z)) (.c (.s (.s .z)) (.c (.s (.s .z)) (.c .z (.n _))))))
  refine Qo rfl az (T.exit (Qk (Qk (Qu (Qj (tN (Qq (oI rfl (mw rfl (nL (tN ?_)))))))))))
  refine Qg ?_ (hgo1 x1 aa x0 ab ac ad af (wI (ag + (1:Int))) aj al am an ap aq flx1 q w y h)
  exact tq rfl rfl
abbrev Kg (bx0 : Nat) (r : Qc) (go : (List Int) → Qc → Int → Int → (List Qa) → Option Qc) : Prop := ∀ (x1 : List Int) (x0 : Qc) (a b : Int) (f : List Qa) (flx1 : Bool) (g : Value), go x1 x0 a b f = some r → TL tp 102 (ca [1,0,1,0,0] Qbt) ⟨[(0, .ptr bx0 0), (1, .sl flx1 1 (mI x1)), (4, .c (.ex g)), (24, .sl false 4 (x0.Auto.States.map Qf)), (25, .int .i64 a), (26, .int .i64 b)], [(Ja bx0 x0.Auto.Split.Of x0.Auto.Split.Many x0.Auto.Counts x0.Auto.States), .arrX g 51 4 0 (f.map Qf)]⟩ (G5 bx0 r)
theorem I9 {r : Qc} (K bx0 : Nat) (go0 : (List Int) → Qc → Int → Int → (List Qa) → Option Qc) (hgo0 : Kg bx0 r go0) : ∀ (k : Nat), Kf bx0 r (Yc K go0 k) := by
 intro k
 induction k with
 | zero =>
  intro x1 s x0 ac ad ag am ai j w y aa ab b flx1 g a aj h
  exact zn h
 | succ k ih =>
  intro x1 s x0 ac ad ag am ai j w y aa ab b flx1 g a aj h
  rw [Yc] at h
  refine Za (sR (Qq (oI rfl (nL (tN (T.seq ?_))))))
  rcases Qh h with ⟨al, h⟩ | ⟨al, h⟩
  refine Qt rfl al (T.skip (tN (T.seq (T.block (sR (Qq (mw rfl ?_)))))))
  obtain ⟨af, aq, h⟩ := bind_some h
  refine oX ag (cL 2 Ql) Qcz i55 aq rfl (oR Sg rfl (aw rfl (aw rfl (nL (tN (sR (Qq (mw rfl (oU af Ql Sg rfl ?_)))))))))
  refine mw rfl (nL (tN (T.block (T.loop ?_))))
  refine Qg ?_ (I8 K bx0 (Yc K go0 k) ih K x1 s ai x0 ac ad ag am ai af (af.length : Int) (0:Int) j w y aa ab b flx1 g a aj h)
  exact tq rfl rfl
  refine Qo rfl al (T.exit (Qk (Qk (Qu (tN (Qm (Zx.dataG (l := b) 3 rfl) (Qm (Gl 3 rfl) (Qm (Zx.view 7 3 rfl rfl) (Xk (dV rfl rfl ?_))))))))))
  refine dV rfl rfl (dP rfl (.f rfl) Ke i38 rfl (dL 2 rfl (.f rfl) Z5 rfl ?_))
  obtain ⟨m, au, h⟩ := bind_some h
  refine dH fu95 (Z1.nil (Uw K (flx0 := false) au)) rfl (.f rfl) rfl (dP rfl (.f rfl) Ke i38 rfl (dL 2 rfl (.f rfl) Z5 rfl ?_))
  obtain ⟨p, av, h⟩ := bind_some h
  refine dH fu95 (Z1.nil (Uw K (flx0 := false) av)) rfl (.f rfl) rfl (dP rfl (.f rfl) Ke i38 rfl (dL 2 rfl (.f rfl) Z5 rfl ?_))
  obtain ⟨q, ay, h⟩ := bind_some h
  refine dH fu95 (Z1.nil (Uw K (flx0 := false) ay)) rfl (.f rfl) rfl (dV rfl rfl (dS (c := ⟨some 94, .agg [.sl false 1 (mI m), .sl false 1 (mI p), .sl false 1 (mI q), .sl false 1 (b.map (cL 2 Ql))], [(86, .sl false 1 (mI m)), (89, .sl false 1 (mI p)), (92, .sl false 1 (mI q)), (93, .sl false 1 (b.map (cL 2 Ql)))], [], []⟩) (fun t hm => oF rfl rfl (OpT.build (l := [.sl false 1 (mI m), .sl false 1 (mI p), .sl false 1 (mI q), .sl false 1 (b.map (cL 2 Ql))]) rfl (dk rfl) (Zp (pl := [(0, 1), (1, 1), (2, 1), (3, 1)]) Ke i51 rfl) (Hb rfl) (Y1 hm.s0 rfl (Y1 hm.s1 rfl (Y1 hm.s2 rfl (Y1 hm.s3 rfl Jl)))) rfl rfl)) rfl rfl ?_))
  obtain ⟨an, ap, h⟩ := bind_some h
  refine dS (c := ⟨some 95, .el g 4 (Int.toNat s) 0, [(82, .c (.ex g)), (83, .int .i64 s)], [(1, .arrX g 51 4 0 (j.map Qf))], []⟩) (fun t hm => oF rfl rfl (Z8 (n := 1) (xs := j) (f := Qf) (old := an) rfl (dk rfl) He i51 hm.s0 hm.o0 hm.s1 ap rfl)) rfl rfl (dS (c := ⟨none, .any, [(95, .el g 4 (Int.toNat s) 0), (94, .agg [.sl false 1 (mI m), .sl false 1 (mI p), .sl false 1 (mI q), .sl false 1 (b.map (cL 2 Ql))])], [(1, .arrX g 51 4 0 (j.map Qf))], [(1, .arrX g 51 4 0 ((List.set j (Int.toNat s) (Qa.mk m p q b)).map Qf))]⟩) (fun t hm => oF rfl rfl (Qac (i := 1) (xs := j) (f := Qf) (old := an) (new := (Qa.mk m p q b)) rfl rfl i51 hm.s0 hm.s1 rfl hm.o0 (Zv ap).2 (Qf7 _) (nb rfl) rfl rfl)) rfl rfl (dF [0,0,0,4,12,0,32,124,0,256,1020,0,4092,8191,16383] Q3 rfl (by kernel_rfl) (fun u hu => (Qj (tN (Qm hu (Qq (oI rfl (mw rfl (nL (tN ?_)))))))))))
  refine Qg ?_ (hgo0 x1 x0 ac (wI (ad + (1:Int))) (List.set j (Int.toNat s) (Qa.mk m p q b)) flx1 g h)
  exact tq rfl rfl
theorem Na {r : Qc} (K bx0 : Nat) : ∀ (k : Nat), Kg bx0 r (Yd K k) := by
 intro k
 induction k with
 | zero =>
  intro x1 x0 p g j flx1 b h
  exact zn h
 | succ k ih =>
  intro x1 x0 p g j flx1 b h
  rw [Yd] at h
  refine Za (sR (Qq (oI rfl (nL (tN (T.seq ?_))))))
  rcases Qh h with ⟨m, h⟩ | ⟨m, h⟩
  refine Qt rfl m (T.skip (tN (T.seq (T.block (sR (Qq (mw rfl ?_)))))))
  obtain ⟨a, q, h⟩ := bind_some h
  refine oX x0.Auto.States Qf He i51 q rfl (oJ Ke i51 rfl (sp rfl (Zg rfl (dk rfl) i51 rfl (fun u => (aw rfl (sp rfl (Qv (i := 0) (cells' := [.d (.sl false 1 (mI a.L)), .d (.sl false 1 (mI a.R)), .d (.sl false 1 (mI a.Rule)), .d (.sl false 1 (a.Next.map (cL 2 Ql)))]) rfl rfl i51 rfl rfl rfl rfl (nb rfl) rfl (nL (tN (sR (Qq (oP Ke i49 rfl ?_))))))))))))
  refine oL 0 Qcz rfl (oU a.Next (cL 2 Ql) Qcz rfl ?_)
  obtain ⟨w, h⟩ := Q9 h
  obtain ⟨y, h⟩ := Q9 h
  refine sp rfl (N2 (e1 := 54) (esz := 2) (f := Ql) rfl (dk rfl) Qcz i55 rfl rfl w y (fun aa => (aw rfl (nL (tN (T.seq (sR (Qq (oP Ke i49 rfl (oL 1 Qcz rfl ?_))))))))))
  refine oU a.Next (cL 2 Ql) Qcz rfl (mw rfl (nL (tN (T.block (T.loop ?_)))))
  refine Qg ?_ (I9 K bx0 (Yd K k) ih K x1 g x0 p g a.Next (a.Next.length : Int) (0:Int) j a.L a.R a.Rule a.Next (List.replicate (Int.toNat (a.Next.length : Int)) ([] : List Qd)) flx1 b u aa h)
  exact tr rfl (.c (.s (.s .z)) (.c (.s (.s .z)) (.c (.s .z) (.c .z (.n _)))))
  refine Qo rfl m (T.exit (Qk (Qk (Qu (tN (Qq (mw rfl (mw rfl (oK rfl (oP ul69 i28 rfl ?_))))))))))
  refine oP G4 i26 rfl (sp rfl (V3 (i := 0) (cells' := ((Zn.oc 256 .u8 x0.Auto.Split.Of) ++ (([.d (.int .i64 x0.Auto.Split.Many), .d (.sl false 2 (mA x0.Auto.Counts)), .d (.ex b)]:List OC)))) rfl rfl i26 rfl rfl rfl (nb rfl) rfl (nL (Xj (Gl 1 rfl) (Xj (Jb 0 (l := ((Zn.dc 256 .u8 x0.Auto.Split.Of) ++ (([.int .i64 x0.Auto.Split.Many, .sl false 2 (mA x0.Auto.Counts), .ex b] : List DC)))) (l' := ((Zn.dc 256 .u8 x0.Auto.Split.Of) ++ (([.int .i64 x0.Auto.Split.Many, .sl false 2 (mA x0.Auto.Counts), .sl false 4 (j.map Qf)] : List DC)))) rfl (.app _ (.cons (.same _) (.cons (.same _) (.cons (.view 1 rfl) (.refl _)))))) (Q1 (.nil) (.cons 0 rfl (.nil _)) (by cases h; exact ⟨gl [], rfl, rfl⟩)))))))
theorem Ri (K : Nat) {x0 : Qc} {x1 : List Int} {bx0 : Nat} {flx1 : Bool} {r : Qc} (h : X3 K x0 x1 = some r) : Ud tp 56 [.ptr bx0 0, .sl flx1 1 (mI x1)] [(Ja bx0 x0.Auto.Split.Of x0.Auto.Split.Many x0.Auto.Counts x0.Auto.States)] (fun γ => (.tup [])) (fun γ => [(Ja bx0 r.Auto.Split.Of r.Auto.Split.Many r.Auto.Counts r.Auto.States)]) := by
 refine CI 102 fu56 rfl ?_
 unfold X3 at h
 refine sR (Qq (mw rfl (oK rfl (oP ul69 i28 rfl (oP G4 i26 rfl (oL 0 He rfl (oU x0.Auto.States Qf He rfl ?_)))))))
 obtain ⟨a, h⟩ := Q9 h
 obtain ⟨b, h⟩ := Q9 h
 refine sp rfl (Qad (f := Qf) (zv := ((Qa.mk [] [] [] []) : Qa)) rfl (dk rfl) He i51 (by decide) rfl rfl (fun _ => .cons (.nil _ _) (.cons (.nil _ _) (.cons (.nil _ _) (.cons (.nil _ _) (.refl _))))) rfl rfl rfl a b (fun g => (aw rfl (nL (tN (T.seq (sR (Qq (mw rfl (oK rfl ?_))))))))))
 refine oP ul69 i28 rfl (oP G4 i26 rfl (oL 1 He rfl (oU x0.Auto.States Qf He rfl (mw rfl (nL (tN (T.block ?_)))))))
 refine T.loop ?_
 refine Qg ?_ (Na K bx0 K x1 x0 (x0.Auto.States.length : Int) (0:Int) (List.replicate (Int.toNat (x0.Auto.States.length : Int)) ((Qa.mk [] [] [] []) : Qa)) flx1 g h)
 exact tr rfl (.c (.s .z) (.c .z (.n _)))
abbrev Qah (bx0 : Nat) (r : Qc) : ES := Jz tp ff27 (fun y t => ∃ γ : Nat → Value, y = (.tup []) ∧ t = [.tab 0 Vo, (Ja bx0 r.Auto.Split.Of r.Auto.Split.Many r.Auto.Counts r.Auto.States)])
abbrev O5 (bx0 : Nat) (r : Qc) : ES := fT 41 [1,1,1] ff27 (Qah bx0 r)
abbrev Kj (bx0 : Nat) (r : Qc) : ES := Qz 0 ((O5 bx0 r))
abbrev Nb (bx0 : Nat) (r : Qc) : ES := fL 41 [1,1,0,1,0,0] ff27 (Kj bx0 r)
abbrev C2 (bx0 : Nat) (r : Qc) : ES := fT 41 [1,1,0,1,0,0,1,1,1] ff27 (Nb bx0 r)
abbrev Mv (bx0 : Nat) (r : Qc) : ES := Qz 1 ((C2 bx0 r))
abbrev Bq (bx0 : Nat) (r : Qc) (go : (List Int) → Int → Int → Qc → (List (Int × Int)) → (List Int) → Option Qc) : Prop := ∀ (a : List Int) (b f : Int) (x0 : Qc) (g : List (Int × Int)) (i : List Int) (j : Nat) (l : Value), go a b f x0 g i = some r → TL tp 41 (ca [1,1,0,1,0,0] ff27) ⟨[(0, .ptr bx0 0), (2, .c (.ex (.map (some j)))), (3, .c (.ex l)), (13, .sl false 1 (mI a)), (14, .int .i64 b), (15, .int .i64 f)], [(Ja bx0 x0.Auto.Split.Of x0.Auto.Split.Many x0.Auto.Counts x0.Auto.States), .map j (kvs kI kI g), .arrA l 3 1 (mI i), .tab 0 Vo]⟩ (Kj bx0 r)
theorem Br {r : Qc} (K bx0 : Nat) (go0 : (List Int) → Int → Int → Qc → (List (Int × Int)) → (List Int) → Option Qc) (hgo0 : Bq bx0 r go0) (j : Int) (p : List Int) (q s : Int) (x0 : Qc) (b : List (Int × Int)) (m : List Int) (u : Nat) (v : Value) (h : Vw K go0 j p q s x0 b m = some r) : T tp 41 (ca [1,1,0,1,0,0,1,1,0,0,1,1] ff27) ⟨[(0, .ptr bx0 0), (2, .c (.ex (.map (some u)))), (3, .c (.ex v)), (5, .int .i64 j), (13, .sl false 1 (mI p)), (14, .int .i64 q), (15, .int .i64 s)], [(Ja bx0 x0.Auto.Split.Of x0.Auto.Split.Many x0.Auto.Counts x0.Auto.States), .map u (kvs kI kI b), .arrA v 3 1 (mI m), .tab 0 Vo]⟩ (Mv bx0 r) := by
 unfold Vw at h
 refine Qq ?_
 iterate 3 refine mw rfl ?_
 refine sp rfl (OpT.lookup (i := 1) (g := kI) (h := kI) (z := 0) (l := b) (a := j) rfl (dk rfl) KeyK.kI ul111 ul3 i3 (fun _ => rfl) rfl rfl rfl (sp rfl (OpT.buildSlice (elems := ([((b.lookup j).getD 0)] : List Int).map (cI .i64)) rfl (dk rfl) Z5 i3 (by decide) rfl (Hb rfl) rfl rfl rfl (Xh rfl) (by decide) ?_)))
 obtain ⟨w, h⟩ := Q9 h
 refine sp rfl (Zj (i := 2) (xs := m) (ys := [((b.lookup j).getD 0)]) (f := (cI .i64)) rfl (dk rfl) Z5 i3 rfl rfl rfl rfl w (fun y => (aw rfl (nL (Qj (tN (Qq (oI rfl (mw rfl (nL (tN ?_)))))))))))
 refine Qg ?_ (hgo0 p q (wI (s + (1:Int))) x0 b (m ++ [((b.lookup j).getD 0)]) u y h)
 exact tq rfl rfl
theorem Rm {r : Qc} (K bx0 : Nat) : ∀ (k : Nat), Bq bx0 r (Yi K k) := by
 intro k
 induction k with
 | zero =>
  intro m p d x0 j q s u h
  exact zn h
 | succ k ih =>
  intro m p d x0 j q s u h
  rw [Yi] at h
  refine Za (sR (Qq (oI rfl (nL (tN (T.seq ?_))))))
  rcases Qh h with ⟨w, h⟩ | ⟨w, h⟩
  refine Qt rfl w (T.skip (tN (T.seq (T.block (sR (Qq (mw rfl ?_)))))))
  obtain ⟨b, aa, h⟩ := bind_some h
  refine oX m (cI .i64) Z5 i3 aa rfl (oR ul3 rfl (aw rfl (aw rfl (nL (tN (T.seq (sR (Qq ?_))))))))
  refine mw rfl (mw rfl (sp rfl (Qdx (i := 1) (g := kI) (h := kI) (z := 0) (l := j) (a := b) rfl (dk rfl) KeyK.kI ul111 ul3 i3 (fun _ => rfl) rfl rfl rfl (mw rfl (oE rfl (oE rfl (aw rfl ?_)))))))
  refine aw rfl (nL (tN (sR (Qq (mw rfl (oT rfl (nL (tN ?_))))))))
  rcases Qh h with ⟨y, h⟩ | ⟨y, h⟩
  refine Qt rfl y (Qq ?_)
  iterate 3 refine mw rfl ?_
  obtain ⟨ab, h⟩ := Q9 h
  refine sp rfl (OpT.mapPut (i := 1) (g := kI) (h := kI) (l := j) (a := b) (v := d) rfl rfl KeyK.kI ul111 ul3 rfl rfl rfl rfl ab (nL (tN ?_)))
  refine Qm ?_ (Br K bx0 (Yi K k) ih b m p d x0 (j ++ [(b, d)]) q s u h)
  exact tq rfl rfl
  refine Qo rfl y (T.skip (tN ?_))
  refine Qm ?_ (Br K bx0 (Yi K k) ih b m p d x0 j q s u h)
  exact tq rfl rfl
  refine Qo rfl w (T.exit (Qk (Qk (Qu (tN (Qq (mw rfl (mw rfl ?_))))))))
  obtain ⟨ad, ac, h⟩ := bind_some h
  refine sp rfl (Q6 (is := [0]) (ph := []) rfl (dk rfl) fu56 rfl rfl (Zs.cons rfl (Zs.view (i := 2) rfl rfl Zs.nil)) (Ri K (bx0 := bx0) (flx1 := false) ac) (.cons rfl rfl (.nil)) (fun _ => rfl) (fun af => (nm (.c (.c (.c (.c (.n))))) (nL (Q1 (.nil) (.cons 3 rfl (.cons 0 rfl (.nil _))) (by cases h; exact ⟨gl [], rfl, rfl⟩))))))
theorem Qai (K : Nat) {x0 : Qc} {bx0 : Nat} {r : Qc} (h : Wy K x0 = some r) : Ud tp 27 [.ptr bx0 0] [.tab 0 Vo, (Ja bx0 x0.Auto.Split.Of x0.Auto.Split.Many x0.Auto.Counts x0.Auto.States)] (fun γ => (.tup [])) (fun γ => [.tab 0 Vo, (Ja bx0 r.Auto.Split.Of r.Auto.Split.Many r.Auto.Counts r.Auto.States)]) := by
 refine CI 41 fu27 rfl ?_
 unfold Wy at h
 refine sR (Qq (sp rfl (OpT.makeMap rfl (dk rfl) (fun b => (aw rfl (nL (tN (sR (Qq (aw rfl (nL (tN (T.seq ?_)))))))))))))
 refine sR (Qq (mw rfl (oK rfl (oP ul69 i28 rfl (oA 2 ((Zn.dc 256 .u8 x0.Auto.Split.Of) ++ (([.int .i64 x0.Auto.Split.Many, .sl false 2 (mA x0.Auto.Counts), .sl false 4 (x0.Auto.States.map Qf)] : List DC))) G4 i28 rfl ?_)))))
 obtain ⟨a, g, h⟩ := bind_some h
 refine sp rfl (K9 rfl (dk rfl) fu17 rfl rfl (Zs.cons rfl Zs.nil) (.tab 1 rfl (.nil)) (trim_Blocks_T K g) (oU a (cI .i64) Z5 rfl (mw rfl (nL (tN (T.block (T.loop (Qg (Y2 3 1) ?_))))))))
 refine Qg ?_ (Rm K bx0 K a (a.length : Int) (0:Int) x0 [] [] b (Tp 2) h)
 exact tr rfl (.c (.s (.s (.s .z))) (.c (.s .z) (.c .z (.c .z (.n _)))))
abbrev trim_Of_q (r : Qn × Int) : ES := Jz tp ff10 (fun y t => y = (.tup [.agg ((Zn.dc 256 .u8 r.1.Split.Of) ++ (([.int .i64 r.1.Split.Many, .sl false 2 (mA r.1.Counts), .sl false 4 (r.1.States.map Qf)] : List DC))), .int .i64 r.2]) ∧ t = [.tab 0 Vo])
theorem Qdp {r : Qn × Int} (K : Nat) (f g : Zn) (j : Int) (m : List X2) (p : List Qa) (q b : Nat) (h : Ei K f g j m p = some r) : T tp 36 (ca [1,1,1,1,1,1] ff10) ⟨[(2, .ptr q 0), (4, .ptr b 0)], [(b28x9 q f (0:Int) (.slice none 0 0) (.slice none 0 0)), (Ja b g j m p), .tab 0 Vo]⟩ (trim_Of_q r) := by
 unfold Ei at h
 refine sR (Qq (mw rfl ?_))
 obtain ⟨a, s, h⟩ := bind_some h
 refine sp rfl (Q6 (is := [1]) (ph := []) rfl (dk rfl) fu28 rfl rfl (Zs.cons rfl Zs.nil) (Qag K (bx0 := b) s) (.cons rfl rfl (.nil)) (fun _ => rfl) (fun u => (nm (.c (.c (.c (.n)))) (nL (tN (sR (Qq (mw rfl (oK rfl (oP ul69 i28 rfl (oA 1 ((Zn.dc 256 .u8 a.Auto.Split.Of) ++ (([.int .i64 a.Auto.Split.Many, .sl false 2 (mA a.Auto.Counts), .sl false 4 (a.Auto.States.map Qf)] : List DC))) G4 i28 rfl ?_)))))))))))
 refine sp rfl (Qv (i := 0) (cells' := ((Zn.oc 256 .u8 a.Auto.Split.Of) ++ (([.d (.int .i64 a.Auto.Split.Many), .d (.sl false 2 (mA a.Auto.Counts)), .d (.sl false 4 (a.Auto.States.map Qf))]:List OC)))) rfl rfl i28 rfl rfl rfl rfl (nb rfl) rfl (aw rfl (nL (tN (T.ret (Q1 (.cons _ _ _ _ (.cellAgg 2 28 _ 0 0 28 _ ((Zn.dc 256 .u8 a.Auto.Split.Of) ++ (([.int .i64 a.Auto.Split.Many, .sl false 2 (mA a.Auto.Counts), .sl false 4 (a.Auto.States.map Qf)] : List DC))) _ _ 259 _ rfl rfl rfl rfl G4 rfl i28) (.cons _ _ _ _ (.tmp 3 _ rfl) .nil)) (.cons 2 rfl (.nil _)) (by cases h; exact ⟨rfl, rfl⟩)))))))
theorem trim_Of_T (K : Nat) {x0 : Qn} {r : Qn × Int} (h : Qao K x0 = some r) : Z1 tp 10 [.agg ((Zn.dc 256 .u8 x0.Split.Of) ++ (([.int .i64 x0.Split.Many, .sl false 2 (mA x0.Counts), .sl false 4 (x0.States.map Qf)] : List DC)))] [.tab 0 Vo] (.tup [.agg ((Zn.dc 256 .u8 r.1.Split.Of) ++ (([.int .i64 r.1.Split.Many, .sl false 2 (mA r.1.Counts), .sl false 4 (r.1.States.map Qf)] : List DC))), .int .i64 r.2]) := by
 refine CI 36 fu10 rfl ?_
 unfold Qao at h
 refine sR (Qq (sp rfl (Zw rfl (dk rfl) rfl (fun aa => (sp rfl (Zg rfl (dk rfl) i28 rfl (fun p => (aw rfl (nL (tN (T.seq (sR (Qq ?_)))))))))))))
 refine oA 1 ((Zn.dc 256 .u8 x0.Split.Of) ++ (([.int .i64 x0.Split.Many, .sl false 2 (mA x0.Counts), .sl false 4 (x0.States.map Qf)] : List DC))) G4 i28 rfl ?_
 obtain ⟨ab, q, h⟩ := bind_some h
 refine oH fu24 (Z1.nil (Tc K q)) rfl (oT rfl (nL (tN ?_)))
 rcases Qh h with ⟨j, h⟩ | ⟨j, h⟩
 refine Qt rfl j (sR (Qq (sp rfl (OpT.build (l := ((Zn.dc 256 .u8 (Zn.mk fun _ => 0)) ++ (([.int .i64 (0:Int), .ex (.slice none 0 0), .ex (.slice none 0 0)] : List DC)))) rfl (dk rfl) (Zp (pl := [(0, 257), (257, 1), (258, 1)]) G4 i28 rfl) (Hb rfl) rfl rfl (sp rfl (Qv (i := 0) (cells' := ((Zn.oc 256 .u8 (Zn.mk fun _ => 0)) ++ (([.d (.int .i64 (0:Int)), .d (.ex (.slice none 0 0)), .d (.ex (.slice none 0 0))]:List OC)))) rfl rfl i28 rfl rfl rfl rfl (nb rfl) rfl (aw rfl (nL (tN (T.ret (Qy ?_)))))))))))
 refine Xj (Jb 0 (l := ((Zn.dc 256 .u8 (Zn.mk fun _ => 0)) ++ (([.int .i64 (0:Int), .ex (.slice none 0 0), .ex (.slice none 0 0)] : List DC)))) (l' := ((Zn.dc 256 .u8 (Zn.mk fun _ => 0)) ++ (([.int .i64 (0:Int), .sl false 2 (([] : List X2).map (X2.dc .i64)), .sl false 4 (([] : List Qa).map Qf)] : List DC)))) rfl (.app _ (.cons (.same _) (.cons (.nil _ _) (.cons (.nil _ _) (.refl _)))))) ?_
 exact Q1 (.cons _ _ _ _ (.cellAgg 2 28 _ 0 0 28 _ ((Zn.dc 256 .u8 (Zn.mk fun _ => 0)) ++ (([.int .i64 (0:Int), .sl false 2 (([] : List X2).map (X2.dc .i64)), .sl false 4 (([] : List Qa).map Qf)] : List DC))) _ _ 259 _ rfl rfl rfl rfl G4 rfl i28) (.cons _ _ _ _ (.tmp 3 _ rfl) .nil)) (.cons 2 rfl (.nil _)) (by cases h; exact ⟨rfl, rfl⟩)
 refine Qo rfl j (T.skip (tN (sR (Qq (oA 1 ((Zn.dc 256 .u8 x0.Split.Of) ++ (([.int .i64 x0.Split.Many, .sl false 2 (mA x0.Counts), .sl false 4 (x0.States.map Qf)] : List DC))) G4 i28 rfl (sp rfl (OpT.build (l := ((Zn.dc 256 .u8 x0.Split.Of) ++ (([.int .i64 x0.Split.Many, .sl false 2 (mA x0.Counts), .sl false 4 (x0.States.map Qf)] : List DC)))) rfl (dk rfl) (Zp (pl := [(0, 259)]) ul69 i69 rfl) (Hb rfl) rfl rfl (sp rfl (Zw rfl (dk rfl) rfl (fun b => (aw rfl ?_)))))))))))
 refine nL (tN (sR (Qq (mw rfl (oP G4 i25 rfl (oL 2 ul25 rfl ?_))))))
 obtain ⟨u, v, h⟩ := bind_some h
 refine oH fu25 (Z1.nil (Su K (flx0 := false) v)) rfl (oK rfl (oP ul69 i28 rfl (oP G4 i25 rfl (sp rfl (V3 (i := 0) (cells' := ((Zn.oc 256 .u8 x0.Split.Of) ++ (([.d (.int .i64 x0.Split.Many), .d (.sl false 2 (mA u)), .d (.sl false 4 (x0.States.map Qf))]:List OC)))) rfl rfl i25 rfl rfl rfl (nb rfl) rfl (nL (tN (sR (Qq (mw rfl ?_))))))))))
 obtain ⟨a, w, h⟩ := bind_some h
 refine sp rfl (Q6 (is := [0]) (ph := []) rfl (dk rfl) fu26 rfl rfl (Zs.cons rfl Zs.nil) (Qak K (bx0 := b) w) (.cons rfl rfl (.nil)) (fun _ => rfl) (fun ac => (nm (.c (.c (.c (.c (.n))))) (nL (tN (T.seq (sR (Qq (mw rfl (oK rfl ?_))))))))))
 refine oP ul69 i28 rfl (oP G4 i25 rfl (oL 0 ul25 rfl (oU a.Auto.Counts (X2.dc .i64) ul25 rfl (oI rfl (nL (tN ?_))))))
 rcases Qh h with ⟨m, h⟩ | ⟨m, h⟩
 refine Qt rfl m (Qq (mw rfl ?_))
 obtain ⟨g, y, h⟩ := bind_some h
 refine sp rfl (Q6 (is := [3, 0]) (ph := []) rfl (dk rfl) fu27 rfl rfl (Zs.cons rfl Zs.nil) (Qai K (bx0 := b) y) (.cons rfl rfl (.cons rfl rfl (.nil))) (fun _ => rfl) (fun ad => (nm (.c (.c (.c (.c (.n))))) (nL (tN ?_)))))
 refine Qm ?_ (Qdp K (Zn.mk fun _ => 0) g.Auto.Split.Of g.Auto.Split.Many g.Auto.Counts g.Auto.States p b h)
 exact tr rfl (.c (.s .z) (.c .z (.c (.s .z) (.n _))))
 refine Qo rfl m (T.skip (tN ?_))
 refine Qm ?_ (Qdp K (Zn.mk fun _ => 0) a.Auto.Split.Of a.Auto.Split.Many a.Auto.Counts a.Auto.States p b h)
 exact tr rfl (.c (.s .z) (.c .z (.c (.s .z) (.n _))))
abbrev raddlelaw12_shown_q (r : Bool) : ES := Jz tp ff14 (fun y t => y = (.bool r) ∧ t = [.tab 0 Vo])
theorem Qbm (K : Nat) {r : Bool} (h : W7 K = some r) : Z1 tp 14 [] [.tab 0 Vo] (.bool r) := by
 refine CI 46 fu14 rfl ?_
 unfold W7 at h
 refine sR (Qq (aw rfl (nL (tN (sR (Qq ?_))))))
 obtain ⟨u, j, h⟩ := bind_some h
 refine oH fu35 (Z1.nil (Qbf K j)) rfl (mw rfl (oE rfl (oE rfl (oE rfl (aw rfl (aw rfl ?_))))))
 refine aw rfl (nL (tN (sR (Qq (mw rfl ?_)))))
 obtain ⟨m, n, h⟩ := bind_some h
 refine oH fu36 (Z1.nil (Qb5 K (flx0 := false) n)) rfl (mw rfl (oE rfl (oE rfl (aw rfl (aw rfl (nL (tN (sR (Qq ?_)))))))))
 refine mw rfl (sp rfl (OpT.buildSlice (elems := ([m.1] : List (List Q0)).map (cL 9 Qs)) rfl (dk rfl) ul87 i80 (by decide) rfl (Hb rfl) rfl rfl rfl (Xh rfl) (by decide) ?_))
 obtain ⟨g, p, h⟩ := bind_some h
 refine oH fu37 (Z1.nil (Qd9 K (flx0 := true) p)) rfl (mw rfl (oE rfl (oE rfl (sp rfl (Zg rfl (dk rfl) i43 rfl (fun v => (sp rfl (Qv (i := 0) (cells' := [.d (.sl false 1 (mI g.1.First)), .d (.sl false 9 (g.1.P.map Qx))]) rfl rfl i43 rfl rfl rfl rfl (nb rfl) rfl (aw rfl ?_)))))))))
 refine nL (tN (sR (Qq (oA 0 [.sl false 1 (mI g.1.First), .sl false 9 (g.1.P.map Qx)] Qbw i43 rfl ?_))))
 obtain ⟨b, q, h⟩ := bind_some h
 refine oH fu20 (Z1.nil (P8 K q)) rfl (mw rfl (oE rfl (oE rfl (sp rfl (Zg rfl (dk rfl) i28 rfl (fun w => (sp rfl (Qv (i := 0) (cells' := ((Zn.oc 256 .u8 b.1.Split.Of) ++ (([.d (.int .i64 b.1.Split.Many), .d (.sl false 2 (mA b.1.Counts)), .d (.sl false 4 (b.1.States.map Qf))]:List OC)))) rfl rfl i28 rfl rfl rfl rfl (nb rfl) rfl (aw rfl ?_)))))))))
 refine nL (tN (sR (Qq (oA 0 ((Zn.dc 256 .u8 b.1.Split.Of) ++ (([.int .i64 b.1.Split.Many, .sl false 2 (mA b.1.Counts), .sl false 4 (b.1.States.map Qf)] : List DC))) G4 i28 rfl ?_))))
 obtain ⟨c, s, h⟩ := bind_some h
 refine sp rfl (K9 rfl (dk rfl) fu10 rfl rfl (Zs.cons rfl Zs.nil) (.tab 2 rfl (.nil)) (trim_Of_T K s) (mw rfl (oE rfl (oE rfl (sp rfl (Zg rfl (dk rfl) i28 rfl (fun y => (sp rfl (Qv (i := 0) (cells' := ((Zn.oc 256 .u8 c.1.Split.Of) ++ (([.d (.int .i64 c.1.Split.Many), .d (.sl false 2 (mA c.1.Counts)), .d (.sl false 4 (c.1.States.map Qf))]:List OC)))) rfl rfl i28 rfl rfl rfl rfl (nb rfl) rfl (aw rfl ?_))))))))))
 refine nL (tN (sR (Qq (mw rfl (oI rfl (mw rfl ?_))))))
 rcases Qh h with ⟨a, h⟩ | ⟨a, h⟩
 refine sn rfl a (Ur rfl (dk rfl) G4 rfl i26 (by decide) rfl (sn rfl a (Yr (i := 0) rfl (dk rfl) He rfl rfl rfl rfl (sn rfl a (Vm (xs := c.1.States) (f := Qf) rfl (dk rfl) He rfl (sn rfl a (Z9 rfl rfl (dk rfl) rfl rfl (oY a rfl (aw rfl (nL (tN ?_)))))))))))
 refine T.ret (Q1 (.cons _ _ _ _ (.tmp 0 _ rfl) .nil) (.cons 3 rfl (.nil _)) (by cases h; exact ⟨rfl, rfl⟩))
 refine pf rfl a (pf rfl a (pf rfl a (pf rfl a (oZ a rfl (aw rfl (nL (tN ?_)))))))
 refine T.ret (Q1 (.cons _ _ _ _ (.tmp 0 _ rfl) .nil) (.cons 3 rfl (.nil _)) (by cases h; exact ⟨rfl, rfl⟩))
end Go.Rv

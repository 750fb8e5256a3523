/- Each function computes what its plain text says: printed by a program of ours. -/
import Derived.Test.YtcmfaclkgdmpbaaGreatDoorRgW5
namespace Go.Rv
open Go.Proofs
set_option maxRecDepth 100000
set_option maxHeartbeats 4000000
set_option linter.unusedVariables false
abbrev Oa (bx0 : Nat) (r : Qc) : ES := Jq tp ff28 (fun y t => ∃ γ : Nat → Value, y = (.tup []) ∧ t = [(We bx0 r.Auto.Split.Of r.Auto.Split.Many r.Auto.Counts r.Auto.States)])
abbrev Sx (bx0 : Nat) (r : Qc) : ES := fT 93 [1,1,1,1] ff28 (Oa bx0 r)
abbrev Mw (bx0 : Nat) (r : Qc) : ES := Qz 0 ((Sx bx0 r))
abbrev Pr (bx0 : Nat) (r : Qc) : ES := fL 93 [1,1,1,0,1,0,0] ff28 (Mw bx0 r)
abbrev F8 (bx0 : Nat) (r : Qc) : ES := fT 93 [1,1,1,0,1,0,0,1,1] ff28 (Pr bx0 r)
abbrev Da (bx0 : Nat) (r : Qc) : ES := Qz 1 ((F8 bx0 r))
abbrev B4 (bx0 : Nat) (r : Qc) : ES := Qz 2 ((Da bx0 r))
abbrev N9 (bx0 : Nat) (r : Qc) : ES := fT 93 [1,1,1,1,1,1,1] ff28 (Oa bx0 r)
abbrev F9 (bx0 : Nat) (r : Qc) : ES := Qz 4 ((N9 bx0 r))
abbrev Ec (bx0 : Nat) (r : Qc) (go : Int → Qc → (List Int) → (List Int) → Option Qc) : Prop := ∀ (a : Int) (x0 : Qc) (b f : List Int) (g i : Value), go a x0 b f = some r → TL tp 93 (ca [1,1,1,0,1,0,0] ff28) ⟨[(0, .ptr bx0 0), (2, .c (.ex g)), (3, .c (.ex i)), (4, .int .i64 a)], [(We bx0 x0.Auto.Split.Of x0.Auto.Split.Many x0.Auto.Counts x0.Auto.States), .arrX g 3 1 0 (mI b), .arrX i 3 1 0 (mI f)]⟩ (Mw bx0 r)
theorem Qbn {r : Qc} (K bx0 : Nat) (go0 : Int → Qc → (List Int) → (List Int) → Option Qc) (hgo0 : Ec bx0 r go0) : ∀ (k : Nat), ∀ (j : Int) (l : List Qf) (p q : Int) (x0 : Qc) (b g : List Int) (m u : Value), Y7 K go0 k j l p q x0 b g = some r → TL tp 93 (ca [1,1,1,0,1,0,0,1,0,0,1,0,0] ff28) ⟨[(0, .ptr bx0 0), (2, .c (.ex m)), (3, .c (.ex u)), (4, .int .i64 j), (38, .sl false 2 (l.map Qn)), (39, .int .i64 p), (40, .int .i64 q)], [(We bx0 x0.Auto.Split.Of x0.Auto.Split.Many x0.Auto.Counts x0.Auto.States), .arrX m 3 1 0 (mI b), .arrX u 3 1 0 (mI g)]⟩ (B4 bx0 r) := by
 intro k
 induction k with
 | zero =>
  intro j l p q x0 b g m u h
  exact zn h
 | succ k ih =>
  intro j l p q x0 b g m u h
  rw [Y7] at h
  refine Q7 (sR (Qs (oI rfl (nL (tN (T.seq ?_))))))
  rcases Qd h with ⟨ab, h⟩ | ⟨ab, h⟩
  refine Qp rfl ab (T.skip (tN (T.seq (T.block (sR (Qs ?_))))))
  obtain ⟨w, ad, h⟩ := bind_some h
  refine oX l Qn Rs i54 ad rfl (oJ Dq i54 rfl (sp rfl (Ze rfl (dk rfl) i54 rfl (fun ai => (sp rfl (Qy (i := 0) (cells' := [.d (.int .i64 w.To), .d (.sl false 1 (mU w.Ops))]) rfl rfl i54 rfl rfl rfl rfl (nb rfl) rfl (nL (tN (sR (Qs (oP Dq i3 rfl (oL 0 ul3 rfl ?_))))))))))))
  refine oI rfl (mw rfl ?_)
  rcases Qd h with ⟨a, h⟩ | ⟨a, h⟩
  refine sn rfl a (OpT.move rfl (dk rfl) rfl (sn rfl a (Vf rfl (dk rfl) Dq rfl i3 (by decide) rfl (sn rfl a (Yb (i := 0) rfl (dk rfl) ul3 rfl rfl rfl rfl ?_)))))
  obtain ⟨y, aa, h⟩ := bind_some h
  refine sn rfl a (Yj (n := 2) (xs := b) (f := (cI .i64)) (old := y) rfl (dk rfl) Zs i3 rfl rfl rfl aa (sn rfl a (Hd (i := 2) (xs := b) (f := (cI .i64)) (old := y) rfl (dk rfl) ul3 rfl rfl rfl (Z2 aa).2 rfl (sn rfl a (Z1 rfl rfl (dk rfl) rfl rfl (oY a rfl (nL (tN ?_))))))))
  rcases Qd h with ⟨ac, h⟩ | ⟨ac, h⟩
  refine Qp rfl ac (sR (Qs (mw rfl (oP Dq i3 rfl (oL 0 ul3 rfl (mw rfl (sp rfl (Hn (i := 3) (xs := g) (f := (cI .i64)) rfl (dk rfl) Zs rfl rfl ?_))))))))
  refine sp rfl (Yj (n := 2) (xs := b) (f := (cI .i64)) (old := y) rfl (dk rfl) Zs i3 rfl rfl rfl aa (sp rfl (Hv (i := 2) (xs := b) (f := (cI .i64)) (old := y) (new := (g.length : Int)) rfl rfl i3 rfl rfl rfl (Z2 aa).2 (Qla _) (nb rfl) rfl (nL (tN (Qs (mw rfl (oP Dq i3 rfl (oL 0 ul3 rfl ?_)))))))))
  refine sp rfl (Pq (elems := ([w.To] : List Int).map (cI .i64)) rfl (dk rfl) Zs i3 (by decide) rfl (H4 rfl) rfl rfl rfl (X2 rfl) (by decide) (fun aj => (Wy (Ke 0 rfl) (Wy (Z3.view 64 0 rfl rfl) ?_))))
  obtain ⟨af, h⟩ := Zb h
  refine sp rfl (F6 (i := 4) (xs := g) (ys := [w.To]) (f := (cI .i64)) rfl (dk rfl) Zs i3 rfl rfl rfl rfl af (fun ag => (aw rfl (nL (Qk (tN (Qs (oI rfl (mw rfl (nL (tN ?_)))))))))))
  refine Qe ?_ (ih j l p (wI (q + (1:Int))) x0 (List.set b (Int.toNat w.To) (g.length : Int)) (g ++ [w.To]) m ag h)
  exact tr rfl (.c (.s (.s .z)) (.c (.s (.s .z)) (.c (.s (.s .z)) (.n _))))
  refine Qo rfl ac (T.skip (Qk (tN (Qs (oI rfl (mw rfl (nL (tN ?_))))))))
  refine Qe ?_ (ih j l p (wI (q + (1:Int))) x0 b g m u h)
  exact tr rfl (.c (.s .z) (.c (.s .z) (.c (.s .z) (.n _))))
  refine pf rfl a (pf rfl a (pf rfl a (pf rfl a (pf rfl a (pf rfl a (oZ a rfl ?_))))))
  refine nL (tN (Qo rfl rfl (T.skip (Qk (tN (Qs (oI rfl (mw rfl (nL (tN ?_))))))))))
  refine Qe ?_ (ih j l p (wI (q + (1:Int))) x0 b g m u h)
  exact tr rfl (.c (.s .z) (.c (.s .z) (.c (.s .z) (.n _))))
  refine Qo rfl ab (T.exit (Ql (Ql (Qu (Qk (tN (Qs (mw rfl (oI rfl (aw rfl (nL (tN ?_))))))))))))
  refine Qe ?_ (hgo0 (wI (j + (1:Int))) x0 b g m u h)
  exact tq rfl rfl
theorem Qbm {r : Qc} (K bx0 : Nat) : ∀ (k : Nat), ∀ (s u : Int) (a : Zp) (b : Int) (g : List Xf) (p j : List Qa) (m : List Int) (q w : Value), Vs K k s u a b g p j m = some r → TL tp 93 (ca [1,1,1,1,1,1,0,1,0,0] ff28) ⟨[(0, .ptr bx0 0), (7, .c (.ex q)), (70, .c (.ex w)), (71, .int .i64 s), (72, .int .i64 u)], [(We bx0 a b g p), .arrA q 51 4 (j.map Qh), .arrX w 3 1 0 (mI m)]⟩ (F9 bx0 r) := by
 intro k
 induction k with
 | zero =>
  intro s u a b g p j m q w h
  exact zn h
 | succ k ih =>
  intro s u a b g p j m q w h
  rw [Vs] at h
  refine Q7 (sR (Qs (oI rfl (nL (tN (T.seq ?_))))))
  rcases Qd h with ⟨aa, h⟩ | ⟨aa, h⟩
  refine Qp rfl aa (T.skip (tN (T.seq (T.block (sR (Qs ?_))))))
  obtain ⟨ab, ac, h⟩ := bind_some h
  refine sp rfl (Yj (n := 2) (xs := m) (f := (cI .i64)) (old := ab) rfl (dk rfl) Zs i3 rfl rfl rfl ac (sp rfl (Hd (i := 2) (xs := m) (f := (cI .i64)) (old := ab) rfl (dk rfl) ul3 rfl rfl rfl (Z2 ac).2 rfl (aw rfl (nL (tN (Qs (mw rfl (mw rfl ?_)))))))))
  refine oK rfl (oP ul69 i28 rfl (oP Wn i26 rfl (oL 0 Jm rfl (mw rfl ?_))))
  obtain ⟨y, ad, h⟩ := bind_some h
  refine oX p Qh Jm i51 ad rfl (oJ Hx i51 rfl (sp rfl (OpT.buildSlice (elems := ([y] : List Qa).map Qh) rfl (dk rfl) Jm i51 (by decide) rfl (H4 rfl) rfl rfl rfl (X2 rfl) (by decide) ?_)))
  obtain ⟨af, h⟩ := Zb h
  refine sp rfl (Zk (i := 1) (xs := j) (ys := [y]) (f := Qh) rfl (dk rfl) Jm i51 rfl rfl rfl rfl af (fun ag => (aw rfl (nL (Qk (tN (Qs (oI rfl (mw rfl (nL (tN ?_)))))))))))
  refine Qe ?_ (ih s (wI (u + (1:Int))) a b g p (j ++ [y]) m ag w h)
  exact tq rfl rfl
  refine Qo rfl aa (T.exit (Ql (Ql (Qu (tN (Qs (mw rfl (mw rfl (oK rfl (oP ul69 i28 rfl ?_))))))))))
  refine oP Wn i26 rfl (sp rfl (Jh (i := 0) (cells' := ((Zp.oc 256 .u8 a) ++ (([.d (.int .i64 b), .d (.sl false 2 (mA g)), .d (.ex q)]:List OC)))) rfl rfl i26 rfl rfl rfl (nb rfl) rfl (nL (Xl (Jp 0 (l := ((Zp.dc 256 .u8 a) ++ (([.int .i64 b, .sl false 2 (mA g), .ex q] : List DC)))) (l' := ((Zp.dc 256 .u8 a) ++ (([.int .i64 b, .sl false 2 (mA g), .sl false 4 (j.map Qh)] : List DC)))) rfl (.app _ (.cons (.same _) (.cons (.same _) (.cons (.view 1 rfl) (.refl _)))))) (Q6 (.nil) (.cons 0 rfl (.nil _)) (by cases h; exact ⟨gl [], rfl, rfl⟩))))))
theorem Qbo {r : Qc} (K bx0 : Nat) : ∀ (k : Nat), Ec bx0 r (Xn K k) := by
 intro k
 induction k with
 | zero =>
  intro l x0 w b m g h
  exact zn h
 | succ k ih =>
  intro l x0 w b m g h
  rw [Xn] at h
  refine Q7 (T.seq (sR (Qs (mw rfl (mw rfl (sp rfl (Hn (i := 2) (xs := b) (f := (cI .i64)) rfl (dk rfl) Zs rfl rfl (oI rfl ?_))))))))
  refine nL (tN ?_)
  rcases Qd h with ⟨y, h⟩ | ⟨y, h⟩
  refine Qp rfl y (T.skip (tN (T.seq (T.block (T.seq (Z7 (dV rfl rfl ?_)))))))
  refine dK rfl (.f rfl) rfl (dP rfl (.f rfl) ul69 i28 rfl (dP rfl (.f rfl) Wn i26 rfl (dL 0 rfl (.f rfl) Jm rfl (dV rfl rfl (dV rfl rfl ?_)))))
  obtain ⟨p, aa, h⟩ := bind_some h
  refine dS (c := ⟨some 34, .el g 1 (Int.toNat l) 0, [(32, .c (.ex g)), (33, .int .i64 l)], [(2, .arrX g 3 1 0 (mI b))], []⟩) (fun t hm => oF rfl rfl (Yj (n := 2) (xs := b) (f := (cI .i64)) (old := p) rfl (dk rfl) Zs i3 hm.s0 hm.o0 hm.s1 aa rfl)) rfl rfl (dS (c := ⟨some 35, .int .i64 p, [(34, .el g 1 (Int.toNat l) 0)], [(2, .arrX g 3 1 0 (mI b))], []⟩) (fun t hm => oF rfl rfl (Hd (i := 2) (xs := b) (f := (cI .i64)) (old := p) rfl (dk rfl) ul3 rfl hm.s0 hm.o0 (Z2 aa).2 rfl rfl)) rfl rfl ?_)
  obtain ⟨a, ab, h⟩ := bind_some h
  refine dX x0.Auto.States Qh rfl (.f rfl) Jm i51 ab rfl (dJ rfl (.f rfl) Hx i51 rfl ?_)
  obtain ⟨j, ac, h⟩ := bind_some h
  refine dH fu33 (Zm.nil (Qc4 K ac)) rfl (.f rfl) rfl (dN j Qn rfl (.f rfl) Rs rfl (dM rfl (.f rfl) rfl (dF [0,1,3,7,15,0,0,96,224,511,1023,2047,4095,0] Q0 rfl (by kernel_rfl) (fun u hu => (tN (Qg hu (T.block (T.loop ?_))))))))
  refine Qe ?_ (Qbn K bx0 (Xn K k) ih K l j (j.length : Int) (0:Int) x0 w b m g h)
  exact tq rfl rfl
  refine Qo rfl y (T.exit (Ql (Ql (Qu (tN (sR (Qs (mw rfl (mw rfl ?_)))))))))
  obtain ⟨q, ad, h⟩ := bind_some h
  refine sp rfl (Zc (is := [0, 1]) (ph := []) rfl (dk rfl) fu56 rfl rfl (Zw.cons rfl (Zw.cons rfl Zw.nil)) (N8 K (bx0 := bx0) (wx1 := m) ad) (.cons rfl rfl (.cons rfl rfl (.nil))) (fun _ => rfl) (fun af => (nm (.c (.c (.c (.n)))) (nL (tN (sR (Qs (aw rfl (nL (tN (T.seq (sR (Qs ?_)))))))))))))
  refine mw rfl (sp rfl (Hn (i := 2) (xs := b) (f := (cI .i64)) rfl (dk rfl) Zs rfl rfl (mw rfl (nL (tN (T.block (T.loop (Qe (Y0 51 4) ?_))))))))
  refine Qe ?_ (Qbm K bx0 K (b.length : Int) (0:Int) q.Auto.Split.Of q.Auto.Split.Many q.Auto.Counts q.Auto.States [] b (Qc1 2) g h)
  exact tr rfl (.c (.s .z) (.c .z (.c (.s .z) (.n _))))
theorem Qe7 (K : Nat) {x0 : Qc} {bx0 : Nat} {r : Qc} (h : Gj K x0 = some r) : Jb tp 28 [.ptr bx0 0] [(We bx0 x0.Auto.Split.Of x0.Auto.Split.Many x0.Auto.Counts x0.Auto.States)] (fun γ => (.tup [])) (fun γ => [(We bx0 r.Auto.Split.Of r.Auto.Split.Many r.Auto.Counts r.Auto.States)]) := by
 refine CI 93 fu28 rfl ?_
 unfold Gj at h
 refine sR (Qs (sp rfl (OpT.buildSlice (elems := ([(-1:Int)] : List Int).map (cI .i64)) rfl (dk rfl) Zs i3 (by decide) rfl (H4 rfl) rfl rfl rfl (X2 rfl) (by decide) (mw rfl (oK rfl (oP ul69 i28 rfl (oP Wn i26 rfl (oL 0 Jm rfl ?_))))))))
 refine oU x0.Auto.States Qh Jm rfl (Wy Yp ?_)
 obtain ⟨a, j, h⟩ := bind_some h
 refine sp rfl (Zc (is := [0]) (ph := [.ro 0 []]) rfl (dk rfl) fu57 rfl rfl (Zw.cons rfl (Zw.cons rfl Zw.nil)) (Qfj K (flx0 := true) j) (.cons rfl rfl (.nil)) (fun _ => rfl) (fun l => (nm (.c (.c (.n))) (aw rfl (nL (tN (sR (Qs (sp rfl (Pq (elems := ([(0:Int)] : List Int).map (cI .i64)) rfl (dk rfl) Zs i3 (by decide) rfl (H4 rfl) rfl rfl rfl (X2 rfl) (by decide) (fun m => (aw rfl (nL (tN (sR (Qs ?_))))))))))))))))
 refine mw rfl ?_
 obtain ⟨b, g, h⟩ := bind_some h
 refine sp rfl (Yj (n := 1) (xs := a) (f := (cI .i64)) (old := b) rfl (dk rfl) Zs i3 rfl rfl rfl g (sp rfl (Hv (i := 1) (xs := a) (f := (cI .i64)) (old := b) (new := (0:Int)) rfl rfl i3 rfl rfl rfl (Z2 g).2 (Qla _) (nb rfl) rfl (nL (tN (T.seq (sR (Qs (aw rfl (nL (tN ?_)))))))))))
 refine T.block (T.loop ?_)
 refine Qe ?_ (Qbo K bx0 K (0:Int) x0 (List.set a (Int.toNat (0:Int)) (0:Int)) [(0:Int)] (l 0) (.slice (some ⟨m, 0, none⟩) 1 1) h)
 exact tr rfl (.c (.s (.s .z)) (.c (.s .z) (.c .z (.n _))))
theorem R0 (K : Nat) {x0 : Int} {r : ByteArray} (h : strconv_Itoa K x0 = some r) : Zm tp 39 [.int .i64 x0] [.tab 0 Ub] (.str r) := by
 unfold strconv_Itoa at h
 split at h
 next hc => cases h; exact itoa_call Tryz.laysM171 (by kernel_rfl) hc.1 hc.2
 cases h
abbrev Qj3 (bx0 : Nat) (x0c1 : List Int) (r : Unit) : ES := Jq tp ff111 (fun y t => ∃ γ : Nat → Value, y = (.tup []) ∧ t = [(Hu bx0 bx0 (γ 0)), .arrX (γ 0) 5 1 0 (mU x0c1)])
theorem Oe (K : Nat) {x0c1 : List Int} {bx0 : Nat} {wx0c1 : Value} {r : Unit} (h : Hs K x0c1 = some r) : Jb tp 111 [.ptr bx0 0] [(b134x18 bx0 (.pointer none) wx0c1), .arrX wx0c1 5 1 0 (mU x0c1)] (fun γ => (.tup [])) (fun γ => [(Hu bx0 bx0 (γ 0)), .arrX (γ 0) 5 1 0 (mU x0c1)]) := by
 refine CI 20 fu111 rfl ?_
 unfold Hs at h
 refine sR (Qs (mw rfl (oK rfl (oP ul134 i132 rfl (oL 0 ul132 rfl (sp rfl (OpT.eqlPtrNil rfl (dk rfl) ul132 rfl rfl (nL (tN ?_)))))))))
 refine Qp rfl rfl (Qs (mw rfl (mw rfl (sp rfl (OpT.toUnsafe (i := 0) rfl (dk rfl) ul132 ul193 i134 (by decide) rfl rfl (Nat.zero_lt_succ _) (sp rfl (OpT.noEscape rfl (dk rfl) fu130 rfl rfl (by kernel_rfl) (by kernel_rfl) rfl rfl (sp rfl (OpT.ofUnsafe (i := 0) rfl (dk rfl) ul193 ul132 i134 rfl rfl rfl (by kernel_rfl) ?_)))))))))
 refine oK rfl (oP ul134 i132 rfl (sp rfl (Jh (i := 0) (cells' := [.d (.ptr bx0 0), .d (.ex wx0c1)]) rfl rfl i132 rfl rfl rfl (nb rfl) rfl (nL (Q6 (.nil) (.cons 0 rfl (.cons 0 rfl (.nil _))) (by cases h; exact ⟨gl [wx0c1], rfl, rfl⟩))))))
abbrev Qi8 (bx0 : Nat) (r : Int × Unit × (List Int)) : ES := Jq tp ff71 (fun y t => ∃ γ : Nat → Value, y = (.tup [.int .i64 r.1, .c (.ex .nilIface)]) ∧ t = [(Hu bx0 bx0 (γ 0)), .arrX (γ 0) 5 1 0 (mU r.2.2)])
theorem Ie (K : Nat) {x0c1 : List Int} {x1 : ByteArray} {bx0 : Nat} {wx0c1 : Value} {r : Int × Unit × (List Int)} (h : Wo K x0c1 x1 = some r) : Jb tp 71 [.ptr bx0 0, .str x1] [(b134x18 bx0 (.pointer none) wx0c1), .arrX wx0c1 5 1 0 (mU x0c1)] (fun γ => (.tup [.int .i64 r.1, .c (.ex .nilIface)])) (fun γ => [(Hu bx0 bx0 (γ 0)), .arrX (γ 0) 5 1 0 (mU r.2.2)]) := by
 refine CI 19 fu71 rfl ?_
 unfold Wo at h
 refine sR (Qs (aw rfl (aw rfl (nL (tN (sR (Qs (mw rfl ?_))))))))
 obtain ⟨g, b, h⟩ := bind_some h
 refine sp rfl (Zc (is := [0, 1]) (ph := []) rfl (dk rfl) fu111 rfl rfl (Zw.cons rfl Zw.nil) (Oe K (bx0 := bx0) (wx0c1 := wx0c1) b) (.cons rfl rfl (.cons rfl rfl (.nil))) (fun _ => rfl) (fun j => (nm (.c (.c (.n))) (nL (tN (sR (Qs (mw rfl (mw rfl (oK rfl (oP ul134 i52 rfl ?_)))))))))))
 refine oL 0 B1 rfl (mw rfl ?_)
 obtain ⟨f, h⟩ := Zb h
 refine sp rfl (Qd8 (i := 1) (xs := x0c1) rfl (dk rfl) B1 ul9 i5 rfl rfl rfl rfl f (fun a => (oK rfl (oP ul134 i52 rfl (sp rfl (Jh (i := 0) (cells' := [.d (.ptr bx0 0), .d (.ex a)]) rfl rfl i52 rfl rfl rfl (nb rfl) rfl (nL (tN (sR (Qs (mw rfl (sp rfl (N5 rfl (dk rfl) ul9 rfl ?_)))))))))))))
 refine aw rfl (aw rfl (nL (tN (T.ret (Q6 (.cons _ _ _ _ (.tmp 4 _ rfl) (.cons _ _ _ _ (.tmp 5 _ rfl) .nil)) (.cons 0 rfl (.cons 0 rfl (.nil _))) (by cases h; exact ⟨gl [a], rfl, rfl⟩))))))
abbrev trim_sign_1_q (bx1 : Nat) (r : List Int) : ES := Jq tp ff70 (fun y t => ∃ γ : Nat → Value, y = (.tup []) ∧ t = [.tab 0 Ub, (Hu bx1 bx1 (γ 0)), .arrX (γ 0) 5 1 0 (mU r)])
theorem trim_sign_1_T (K : Nat) {x0 : Int} {x1c1 : List Int} {bx1 : Nat} {wx1c1 : Value} {r : List Int} (h : T2 K x0 x1c1 = some r) : Jb tp 70 [.int .i64 x0, .ptr bx1 0] [.tab 0 Ub, (b134x18 bx1 (.pointer none) wx1c1), .arrX wx1c1 5 1 0 (mU x1c1)] (fun γ => (.tup [])) (fun γ => [.tab 0 Ub, (Hu bx1 bx1 (γ 0)), .arrX (γ 0) 5 1 0 (mU r)]) := by
 refine CI 7 fu70 rfl ?_
 unfold T2 at h
 refine Qs (mw rfl ?_)
 obtain ⟨i, a, h⟩ := bind_some h
 refine sp rfl (Ch rfl (dk rfl) fu39 rfl rfl (Zw.cons rfl Zw.nil) (.tab 0 rfl (.nil)) (R0 K a) ?_)
 obtain ⟨b, h⟩ := Zb h
 refine sp rfl (Qaz rfl (dk rfl) rfl rfl b ?_)
 obtain ⟨j, f, h⟩ := bind_some h
 refine sp rfl (Zc (is := [1, 2]) (ph := []) rfl (dk rfl) fu71 rfl rfl (Zw.cons rfl (Zw.cons rfl Zw.nil)) (Ie K (bx0 := bx1) (wx0c1 := wx1c1) f) (.cons rfl rfl (.cons rfl rfl (.nil))) (fun _ => rfl) (fun g => (nm (.c (.c (.c (.n)))) (nL (Q6 (.nil) (.cons 0 rfl (.cons 0 rfl (.cons 0 rfl (.nil _)))) (by cases h; exact ⟨gl [g 0], rfl, rfl⟩))))))
abbrev Qiw (bx0 : Nat) (x0c1 : List Int) (r : Unit) : ES := Jq tp ff111 (fun y t => ∃ γ : Nat → Value, y = (.tup []) ∧ t = [(Hu bx0 bx0 (γ 0)), .arrX (γ 0) 5 1 0 (mU x0c1)])
theorem G6 (K : Nat) {x0c1 : List Int} {bx0 : Nat} {wx0c1 : Value} {r : Unit} (h : Y2 K x0c1 = some r) : Jb tp 111 [.ptr bx0 0] [(Hu bx0 bx0 wx0c1), .arrX wx0c1 5 1 0 (mU x0c1)] (fun γ => (.tup [])) (fun γ => [(Hu bx0 bx0 (γ 0)), .arrX (γ 0) 5 1 0 (mU x0c1)]) := by
 refine CI 20 fu111 rfl ?_
 unfold Y2 at h
 refine sR (Qs (mw rfl (oK rfl (oP ul134 i132 rfl (oL 0 ul132 rfl (sp rfl (OpT.eqlPtrSome rfl (dk rfl) ul132 rfl rfl (nL (tN ?_)))))))))
 refine Qo rfl rfl (sR (Qs (mw rfl (oK rfl (oP ul134 i132 rfl (oL 0 ul132 rfl (mw rfl ?_)))))))
 refine sp rfl (OpT.neqPtrSame rfl (dk rfl) ul132 i134 rfl rfl (nL (tN (Qo rfl rfl (T.skip (Q6 (.nil) (.cons 0 rfl (.cons 0 rfl (.nil _))) (by cases h; exact ⟨gl [wx0c1], rfl, rfl⟩)))))))
abbrev Qh4 (bx0 : Nat) (r : Int × Unit × (List Int)) : ES := Jq tp ff71 (fun y t => ∃ γ : Nat → Value, y = (.tup [.int .i64 r.1, .c (.ex .nilIface)]) ∧ t = [(Hu bx0 bx0 (γ 0)), .arrX (γ 0) 5 1 0 (mU r.2.2)])
theorem Du (K : Nat) {x0c1 : List Int} {x1 : ByteArray} {bx0 : Nat} {wx0c1 : Value} {r : Int × Unit × (List Int)} (h : V3 K x0c1 x1 = some r) : Jb tp 71 [.ptr bx0 0, .str x1] [(Hu bx0 bx0 wx0c1), .arrX wx0c1 5 1 0 (mU x0c1)] (fun γ => (.tup [.int .i64 r.1, .c (.ex .nilIface)])) (fun γ => [(Hu bx0 bx0 (γ 0)), .arrX (γ 0) 5 1 0 (mU r.2.2)]) := by
 refine CI 19 fu71 rfl ?_
 unfold V3 at h
 refine sR (Qs (aw rfl (aw rfl (nL (tN (sR (Qs (mw rfl ?_))))))))
 obtain ⟨g, b, h⟩ := bind_some h
 refine sp rfl (Zc (is := [0, 1]) (ph := []) rfl (dk rfl) fu111 rfl rfl (Zw.cons rfl Zw.nil) (G6 K (bx0 := bx0) (wx0c1 := wx0c1) b) (.cons rfl rfl (.cons rfl rfl (.nil))) (fun _ => rfl) (fun j => (nm (.c (.c (.n))) (nL (tN (sR (Qs (mw rfl (mw rfl (oK rfl (oP ul134 i52 rfl ?_)))))))))))
 refine oL 0 B1 rfl (mw rfl ?_)
 obtain ⟨f, h⟩ := Zb h
 refine sp rfl (Qd8 (i := 1) (xs := x0c1) rfl (dk rfl) B1 ul9 i5 rfl rfl rfl rfl f (fun a => (oK rfl (oP ul134 i52 rfl (sp rfl (Jh (i := 0) (cells' := [.d (.ptr bx0 0), .d (.ex a)]) rfl rfl i52 rfl rfl rfl (nb rfl) rfl (nL (tN (sR (Qs (mw rfl (sp rfl (N5 rfl (dk rfl) ul9 rfl ?_)))))))))))))
 refine aw rfl (aw rfl (nL (tN (T.ret (Q6 (.cons _ _ _ _ (.tmp 4 _ rfl) (.cons _ _ _ _ (.tmp 5 _ rfl) .nil)) (.cons 0 rfl (.cons 0 rfl (.nil _))) (by cases h; exact ⟨gl [a], rfl, rfl⟩))))))
abbrev trim_sign_1_i1_q (bx1 : Nat) (r : List Int) : ES := Jq tp ff70 (fun y t => ∃ γ : Nat → Value, y = (.tup []) ∧ t = [.tab 0 Ub, (Hu bx1 bx1 (γ 0)), .arrX (γ 0) 5 1 0 (mU r)])
theorem Ls (K : Nat) {x0 : Int} {x1c1 : List Int} {bx1 : Nat} {wx1c1 : Value} {r : List Int} (h : Ji K x0 x1c1 = some r) : Jb tp 70 [.int .i64 x0, .ptr bx1 0] [.tab 0 Ub, (Hu bx1 bx1 wx1c1), .arrX wx1c1 5 1 0 (mU x1c1)] (fun γ => (.tup [])) (fun γ => [.tab 0 Ub, (Hu bx1 bx1 (γ 0)), .arrX (γ 0) 5 1 0 (mU r)]) := by
 refine CI 7 fu70 rfl ?_
 unfold Ji at h
 refine Qs (mw rfl ?_)
 obtain ⟨i, a, h⟩ := bind_some h
 refine sp rfl (Ch rfl (dk rfl) fu39 rfl rfl (Zw.cons rfl Zw.nil) (.tab 0 rfl (.nil)) (R0 K a) ?_)
 obtain ⟨b, h⟩ := Zb h
 refine sp rfl (Qaz rfl (dk rfl) rfl rfl b ?_)
 obtain ⟨j, f, h⟩ := bind_some h
 refine sp rfl (Zc (is := [1, 2]) (ph := []) rfl (dk rfl) fu71 rfl rfl (Zw.cons rfl (Zw.cons rfl Zw.nil)) (Du K (bx0 := bx1) (wx0c1 := wx1c1) f) (.cons rfl rfl (.cons rfl rfl (.nil))) (fun _ => rfl) (fun g => (nm (.c (.c (.c (.n)))) (nL (Q6 (.nil) (.cons 0 rfl (.cons 0 rfl (.cons 0 rfl (.nil _)))) (by cases h; exact ⟨gl [g 0], rfl, rfl⟩))))))
abbrev strings_Builder_Write_q (bx0 : Nat) (r : Int × Unit × (List Int)) : ES := Jq tp ff72 (fun y t => ∃ γ : Nat → Value, y = (.tup [.int .i64 r.1, .c (.ex .nilIface)]) ∧ t = [(Hu bx0 bx0 (γ 0)), .arrX (γ 0) 5 1 0 (mU r.2.2)])
theorem T5 (K : Nat) {x0c1 x1 : List Int} {bx0 : Nat} {wx0c1 : Value} {flx1 : Bool} {r : Int × Unit × (List Int)} (h : He K x0c1 x1 = some r) : Jb tp 72 [.ptr bx0 0, .sl flx1 1 (mU x1)] [(Hu bx0 bx0 wx0c1), .arrX wx0c1 5 1 0 (mU x0c1)] (fun γ => (.tup [.int .i64 r.1, .c (.ex .nilIface)])) (fun γ => [(Hu bx0 bx0 (γ 0)), .arrX (γ 0) 5 1 0 (mU r.2.2)]) := by
 refine CI 19 fu72 rfl ?_
 unfold He at h
 refine sR (Qs (aw rfl (aw rfl (nL (tN (sR (Qs (mw rfl ?_))))))))
 obtain ⟨j, b, h⟩ := bind_some h
 refine sp rfl (Zc (is := [0, 1]) (ph := []) rfl (dk rfl) fu111 rfl rfl (Zw.cons rfl Zw.nil) (G6 K (bx0 := bx0) (wx0c1 := wx0c1) b) (.cons rfl rfl (.cons rfl rfl (.nil))) (fun _ => rfl) (fun l => (nm (.c (.c (.n))) (nL (tN (sR (Qs (mw rfl (mw rfl (oK rfl (oP ul134 i52 rfl ?_)))))))))))
 refine oL 0 B1 rfl (mw rfl ?_)
 obtain ⟨g, h⟩ := Zb h
 refine sp rfl (F6 (i := 1) (xs := x0c1) (ys := x1) (f := (cI .u8)) rfl (dk rfl) B1 i5 rfl rfl rfl rfl g (fun a => (oK rfl (oP ul134 i52 rfl (sp rfl (Jh (i := 0) (cells' := [.d (.ptr bx0 0), .d (.ex a)]) rfl rfl i52 rfl rfl rfl (nb rfl) rfl (nL (tN (sR (Qs (mw rfl (oU x1 (cI .u8) B1 rfl ?_))))))))))))
 refine aw rfl (aw rfl (nL (tN (T.ret (Q6 (.cons _ _ _ _ (.tmp 4 _ rfl) (.cons _ _ _ _ (.tmp 5 _ rfl) .nil)) (.cons 0 rfl (.cons 0 rfl (.nil _))) (by cases h; exact ⟨gl [a], rfl, rfl⟩))))))
abbrev Qfe (wx1 : Value) (x1 : List Int) (r : ByteArray) : ES := Jq tp ff40 (fun y t => ∃ γ : Nat → Value, y = (.str r) ∧ t = [.tab 0 Ub, .arrX wx1 3 1 0 (mI x1)])
abbrev Qfc (wx1 : Value) (x1 : List Int) (r : ByteArray) : ES := fT 70 [1,1,1,1,1,1,1] ff40 (Qfe wx1 x1 r)
abbrev Qc2 (wx1 : Value) (x1 : List Int) (r : ByteArray) : ES := Qz 4 ((Qfc wx1 x1 r))
abbrev Qgt (wx1 : Value) (x1 : List Int) (r : ByteArray) : ES := fT 70 [1,1,1,1,1,1] ff40 (Qfe wx1 x1 r)
abbrev Qeh (wx1 : Value) (x1 : List Int) (r : ByteArray) : ES := Qz 2 ((Qgt wx1 x1 r))
abbrev Qh5 (wx1 : Value) (x1 : List Int) (r : ByteArray) : ES := fT 70 [1,1,1,1,1] ff40 (Qfe wx1 x1 r)
abbrev Qfd (wx1 : Value) (x1 : List Int) (r : ByteArray) : ES := Qz 0 ((Qh5 wx1 x1 r))
theorem trim_sign_l2_T {r : ByteArray} (K : Nat) (wx1 : Value) (x1 : List Int) : ∀ (k : Nat), ∀ (g : List Qf) (j l : Int) (x1 p : List Int) (a : Nat) (m : Value), G3 K k g j l x1 p = some r → TL tp 70 (ca [1,1,1,1,1,1,0,1,0,0] ff40) ⟨[(1, .c (.ex wx1)), (5, .ptr a 0), (6, .c (.ex (.func (.func 70) #[] #[.pointer (some ⟨a, 0, none⟩)]))), (42, .sl false 2 (g.map Qn)), (43, .int .i64 j), (44, .int .i64 l)], [.arrX wx1 3 1 0 (mI x1), (Hu a a m), .arrX m 5 1 0 (mU p), .tab 0 Ub]⟩ (Qc2 wx1 x1 r) := by
 intro k
 induction k with
 | zero =>
  intro g j l x1 p a m h
  exact zn h
 | succ k ih =>
  intro g j l x1 p a m h
  rw [G3] at h
  refine Q7 (sR (Qs (oI rfl (nL (tN (T.seq ?_))))))
  rcases Qd h with ⟨u, h⟩ | ⟨u, h⟩
  refine Qp rfl u (T.skip (tN (T.seq (T.block (sR (Qs ?_))))))
  obtain ⟨q, ab, h⟩ := bind_some h
  refine oX g Qn Rs i54 ab rfl (oJ Dq i54 rfl (sp rfl (Ze rfl (dk rfl) i54 rfl (fun av => (sp rfl (Qy (i := 0) (cells' := [.d (.int .i64 q.To), .d (.sl false 1 (mU q.Ops))]) rfl rfl i54 rfl rfl rfl rfl (nb rfl) rfl (nL (tN (T.seq (sR (Qs ?_)))))))))))
  refine oP Dq i3 rfl (oL 0 ul3 rfl (oI rfl (nL (tN ?_))))
  rcases Qd h with ⟨w, h⟩ | ⟨w, h⟩
  refine Qp rfl w (sR (Qs (mw rfl ?_)))
  obtain ⟨ac, ad, h⟩ := bind_some h
  refine sp rfl (Rr (f := 70) (vs := [.pointer (some ⟨a, 0, none⟩)]) rfl rfl (dk rfl) fu70 rfl rfl (Zc (is := [4, 2, 3]) (ph := []) rfl (dk rfl) fu70 rfl rfl (Zw.cons rfl (Zw.cons rfl Zw.nil)) (Ls K (bx1 := a) (wx1c1 := m) ad) (.cons rfl rfl (.cons rfl rfl (.cons rfl rfl (.nil)))) (fun _ => rfl) (fun af => (nm (.c (.c (.c (.c (.c (.n)))))) (nL (tN (T.exit (Ql (Qu (tN (Qs (oI rfl (mw rfl ?_)))))))))))))
  refine nL (tN ?_)
  refine Qe ?_ (ih g j (wI (l + (1:Int))) x1 ac a (af 0) h)
  exact tr rfl (.c (.s .z) (.c (.s .z) (.c (.s .z) (.c (.s .z) (.n _)))))
  refine Qo rfl w (T.skip (tN (sR (Qs (mw rfl (mw rfl (oP Dq i3 rfl (oL 0 ul3 rfl ?_))))))))
  obtain ⟨y, aa, h⟩ := bind_some h
  refine sp rfl (Yj (n := 1) (xs := x1) (f := (cI .i64)) (old := y) rfl (dk rfl) Zs i3 rfl rfl rfl aa (sp rfl (Hd (i := 1) (xs := x1) (f := (cI .i64)) (old := y) rfl (dk rfl) ul3 rfl rfl rfl (Z2 aa).2 rfl ?_)))
  obtain ⟨ay, ag, h⟩ := bind_some h
  refine sp rfl (Rr (f := 70) (vs := [.pointer (some ⟨a, 0, none⟩)]) rfl rfl (dk rfl) fu70 rfl rfl (Zc (is := [4, 2, 3]) (ph := []) rfl (dk rfl) fu70 rfl rfl (Zw.cons rfl (Zw.cons rfl Zw.nil)) (Ls K (bx1 := a) (wx1c1 := m) ag) (.cons rfl rfl (.cons rfl rfl (.cons rfl rfl (.nil)))) (fun _ => rfl) (fun ai => (nm (.c (.c (.c (.c (.c (.n)))))) (nL (tN (sR (Qs (oP Dq i52 rfl (oL 0 B1 rfl ?_))))))))))
  obtain ⟨az, aj, h⟩ := bind_some h
  refine sp rfl (Zc (is := [2, 3]) (ph := []) rfl (dk rfl) fu72 rfl rfl (Zw.cons rfl (Zw.cons rfl Zw.nil)) (T5 K (bx0 := a) (wx0c1 := (ai 0)) (flx1 := false) aj) (.cons rfl rfl (.cons rfl rfl (.nil))) (fun _ => rfl) (fun al => (nm (.c (.c (.c (.c (.c (.n)))))) (nL (tN (Qs (mw rfl (oP Dq i52 rfl (oL 0 B1 rfl ?_)))))))))
  refine oU q.Ops (cI .u8) B1 rfl ?_
  obtain ⟨am, an, h⟩ := bind_some h
  refine sp rfl (Rr (f := 70) (vs := [.pointer (some ⟨a, 0, none⟩)]) rfl rfl (dk rfl) fu70 rfl rfl (Zc (is := [4, 2, 3]) (ph := []) rfl (dk rfl) fu70 rfl rfl (Zw.cons rfl (Zw.cons rfl Zw.nil)) (Ls K (bx1 := a) (wx1c1 := (al 0)) an) (.cons rfl rfl (.cons rfl rfl (.cons rfl rfl (.nil)))) (fun _ => rfl) (fun ap => (nm (.c (.c (.c (.c (.c (.n)))))) (nL (Qk (tN (Qs (oI rfl (mw rfl (nL (tN ?_))))))))))))
  refine Qe ?_ (ih g j (wI (l + (1:Int))) x1 am a (ap 0) h)
  exact tr rfl (.c (.s .z) (.c (.s .z) (.c (.s .z) (.c (.s .z) (.n _)))))
  refine Qo rfl u (T.exit (Ql (Ql (Qu (tN (sR (Qs ?_)))))))
  obtain ⟨aq, h⟩ := Zb h
  obtain ⟨au, h⟩ := Zb h
  refine sp rfl (Zc (is := [1, 2]) (ph := []) rfl (dk rfl) fu73 rfl rfl (Zw.cons rfl Zw.nil) (builder_String (b := a) (xs := p) aq au) (.cons rfl rfl (.cons rfl rfl (.nil))) (fun _ => rfl) (fun a0 => (nm (.c (.c (.c (.c (.n))))) (aw rfl (nL (tN (T.ret (Q6 (.cons _ _ _ _ (.tmp 4 _ rfl) .nil) (.cons 3 rfl (.cons 0 rfl (.nil _))) (by cases h; exact ⟨gl [], rfl, rfl⟩)))))))))
theorem trim_sign_l1_T {r : ByteArray} (K : Nat) (wx1 : Value) (x1 : List Int) : ∀ (k : Nat), ∀ (x0 : Qa) (g j : Int) (x1 m : List Int) (p a : Nat) (b : Value), K1 K k x0 g j x1 m = some r → TL tp 70 (ca [1,1,1,1,1,0,1,0,0] ff40) ⟨[(1, .c (.ex wx1)), (2, .ptr p 0), (5, .ptr a 0), (6, .c (.ex (.func (.func 70) #[] #[.pointer (some ⟨a, 0, none⟩)]))), (31, .sl false 1 (mI x0.Rule)), (32, .int .i64 g), (33, .int .i64 j)], [.arrX wx1 3 1 0 (mI x1), (J5 p x0.L x0.R x0.Rule x0.Next), (Hu a a b), .arrX b 5 1 0 (mU m), .tab 0 Ub]⟩ (Qeh wx1 x1 r) := by
 intro k
 induction k with
 | zero =>
  intro x0 g j x1 m p a b h
  exact zn h
 | succ k ih =>
  intro x0 g j x1 m p a b h
  rw [K1] at h
  refine Q7 (sR (Qs (oI rfl (nL (tN (T.seq ?_))))))
  rcases Qd h with ⟨q, h⟩ | ⟨q, h⟩
  refine Qp rfl q (T.skip (tN (T.seq (T.block (sR (Qs ?_))))))
  obtain ⟨w, y, h⟩ := bind_some h
  refine oX x0.Rule (cI .i64) Zs i3 y rfl (oR ul3 rfl (aw rfl (nL (tN (Qs (mw rfl (mw rfl ?_)))))))
  obtain ⟨aa, ab, h⟩ := bind_some h
  refine sp rfl (Rr (f := 70) (vs := [.pointer (some ⟨a, 0, none⟩)]) rfl rfl (dk rfl) fu70 rfl rfl (Zc (is := [4, 2, 3]) (ph := []) rfl (dk rfl) fu70 rfl rfl (Zw.cons rfl (Zw.cons rfl Zw.nil)) (Ls K (bx1 := a) (wx1c1 := b) ab) (.cons rfl rfl (.cons rfl rfl (.cons rfl rfl (.nil)))) (fun _ => rfl) (fun ac => (nm (.c (.c (.c (.c (.c (.n)))))) (nL (Qk (tN (Qs (oI rfl (mw rfl (nL (tN ?_))))))))))))
  refine Qe ?_ (ih x0 g (wI (j + (1:Int))) x1 aa p a (ac 0) h)
  exact tq rfl rfl
  refine Qo rfl q (T.exit (Ql (Ql (Qu (tN (T.seq (sR (Qs (oA 1 [.sl false 1 (mI x0.L), .sl false 1 (mI x0.R), .sl false 1 (mI x0.Rule), .sl false 1 (x0.Next.map (cL 2 Qn))] Hx i51 rfl ?_)))))))))
  obtain ⟨u, ad, h⟩ := bind_some h
  refine oH fu33 (Zm.nil (Qc4 K ad)) rfl (oU u Qn Rs rfl (mw rfl (nL (tN (T.block (T.loop ?_))))))
  refine Qe ?_ (trim_sign_l2_T K wx1 x1 K u (u.length : Int) (0:Int) x1 m a b h)
  exact tr rfl (.c .z (.c (.s .z) (.c (.s .z) (.c (.s .z) (.n _)))))
theorem trim_sign_l0_T {r : ByteArray} (K : Nat) (wx1 : Value) (x1 : List Int) : ∀ (k : Nat), ∀ (x0 : Qa) (j l : Int) (x1 m : List Int) (b a : Nat) (g : Value), K2 K k x0 j l x1 m = some r → TL tp 70 (ca [1,1,1,1,0,1,0,0] ff40) ⟨[(1, .c (.ex wx1)), (2, .ptr b 0), (5, .ptr a 0), (6, .c (.ex (.func (.func 70) #[] #[.pointer (some ⟨a, 0, none⟩)]))), (20, .sl false 1 (mI x0.R)), (21, .int .i64 j), (22, .int .i64 l)], [.arrX wx1 3 1 0 (mI x1), (J5 b x0.L x0.R x0.Rule x0.Next), (Hu a a g), .arrX g 5 1 0 (mU m), .tab 0 Ub]⟩ (Qfd wx1 x1 r) := by
 intro k
 induction k with
 | zero =>
  intro x0 j l x1 m b a g h
  exact zn h
 | succ k ih =>
  intro x0 j l x1 m b a g h
  rw [K2] at h
  refine Q7 (sR (Qs (oI rfl (nL (tN (T.seq ?_))))))
  rcases Qd h with ⟨p, h⟩ | ⟨p, h⟩
  refine Qp rfl p (T.skip (tN (T.seq (T.block (sR (Qs ?_))))))
  obtain ⟨q, s, h⟩ := bind_some h
  refine oX x0.R (cI .i64) Zs i3 s rfl (oR ul3 rfl (aw rfl (nL (tN (Qs (mw rfl (mw rfl ?_)))))))
  obtain ⟨u, w, h⟩ := bind_some h
  refine sp rfl (Rr (f := 70) (vs := [.pointer (some ⟨a, 0, none⟩)]) rfl rfl (dk rfl) fu70 rfl rfl (Zc (is := [4, 2, 3]) (ph := []) rfl (dk rfl) fu70 rfl rfl (Zw.cons rfl (Zw.cons rfl Zw.nil)) (Ls K (bx1 := a) (wx1c1 := g) w) (.cons rfl rfl (.cons rfl rfl (.cons rfl rfl (.nil)))) (fun _ => rfl) (fun y => (nm (.c (.c (.c (.c (.c (.n)))))) (nL (Qk (tN (Qs (oI rfl (mw rfl (nL (tN ?_))))))))))))
  refine Qe ?_ (ih x0 j (wI (l + (1:Int))) x1 u b a (y 0) h)
  exact tq rfl rfl
  refine Qo rfl p (T.exit (Ql (Ql (Qu (tN (T.seq (sR (Qs (oP Hx i38 rfl (oL 1 Zs rfl (oU x0.Rule (cI .i64) Zs rfl ?_)))))))))))
  refine mw rfl (nL (tN (T.block (T.loop ?_))))
  refine Qe ?_ (trim_sign_l1_T K wx1 x1 K x0 (x0.Rule.length : Int) (0:Int) x1 m b a g h)
  exact tq rfl rfl
theorem trim_sign_T (K : Nat) {x0 : Qa} {x1 : List Int} {wx1 : Value} {r : ByteArray} (h : Qc3 K x0 x1 = some r) : Jb tp 40 [.agg [.sl false 1 (mI x0.L), .sl false 1 (mI x0.R), .sl false 1 (mI x0.Rule), .sl false 1 (x0.Next.map (cL 2 Qn))], .c (.ex wx1)] [.tab 0 Ub, .arrX wx1 3 1 0 (mI x1)] (fun γ => (.str r)) (fun γ => [.tab 0 Ub, .arrX wx1 3 1 0 (mI x1)]) := by
 refine CI 70 fu40 rfl ?_
 unfold Qc3 at h
 refine sR (Qs (sp rfl (Q9 rfl (dk rfl) rfl (fun b => (aw rfl (nL (tN (sR (Qs (sp rfl (Ze rfl (dk rfl) i134 rfl (fun a => (nL (tN (sR (Qs (sp rfl (OpT.makeFunc (vs := [.pointer (some ⟨a, 0, none⟩)]) rfl (dk rfl) rfl ?_))))))))))))))))))
 refine aw rfl (nL (tN (sR (Qs (mw rfl (oP Hx i38 rfl (oL 1 Zs rfl (oU x0.R (cI .i64) Zs rfl (Wy (Qd4 5 1) ?_)))))))))
 obtain ⟨d, g, h⟩ := bind_some h
 refine sp rfl (Rr (f := 70) (vs := [.pointer (some ⟨a, 0, none⟩)]) rfl rfl (dk rfl) fu70 rfl rfl (Zc (is := [3, 1, 0]) (ph := []) rfl (dk rfl) fu70 rfl rfl (Zw.cons rfl (Zw.cons rfl Zw.nil)) (trim_sign_1_T K (bx1 := a) (wx1c1 := (Qc1 10)) g) (.cons rfl rfl (.cons rfl rfl (.cons rfl rfl (.nil)))) (fun _ => rfl) (fun j => (nm (.c (.c (.c (.c (.c (.n)))))) (nL (tN (T.seq (sR (Qs (oP Hx i38 rfl (oL 2 Zs rfl ?_)))))))))))
 refine oU x0.R (cI .i64) Zs rfl (mw rfl (nL (tN (T.block (T.loop ?_)))))
 refine Qe ?_ (trim_sign_l0_T K wx1 x1 K x0 (x0.R.length : Int) (0:Int) x1 d b a (j 0) h)
 exact tr rfl (.c (.s (.s (.s (.s .z)))) (.c (.s (.s .z)) (.c (.s .z) (.c .z (.c .z (.n _))))))
abbrev trim_Blocks_q (r : List Int) : ES := Jq tp ff17 (fun y t => y = (.sl false 1 (mI r)) ∧ t = [.tab 0 Ub])
abbrev Qa5 (r : List Int) : ES := Qz 0 ((trim_Blocks_q r))
abbrev Qfg (r : List Int) : ES := fL 70 [1,1,1,1,0,0] ff17 (Qa5 r)
abbrev T3 (r : List Int) : ES := Qz 1 ((Qfg r))
abbrev S0 (r : List Int) : ES := fT 70 [1,1,1,1,0,0,0,1,1,1] ff17 (T3 r)
abbrev G5 (r : List Int) : ES := Qz 2 ((S0 r))
abbrev Ps (r : List Int) : ES := fL 70 [1,1,1,1,0,0,0,1,1,0,1,0,0] ff17 (G5 r)
abbrev Fl (r : List Int) : ES := fT 70 [1,1,1,1,0,0,0,1,1,0,1,0,0,1,1,1] ff17 (Ps r)
abbrev Js (r : List Int) : ES := Qz 3 ((Fl r))
abbrev Ic (r : List Int) (go : Int → Qq → Int → Int → (List Int) → (List (ByteArray × Int)) → (List Int) → Option (List Int)) : Prop := ∀ (a : Int) (x0 : Qq) (b f : Int) (g : List Int) (i : List (ByteArray × Int)) (j : List Int) (l : Nat) (m : Value) (n : Nat) (p : Value), go a x0 b f g i j = some r → TL tp 70 (ca [1,1,1,1,0,0,0,1,1,0,1,0,0] ff17) ⟨[(1, .ptr l 0), (3, .c (.ex m)), (4, .int .i64 a), (5, .c (.ex (.map (some n)))), (6, .c (.ex p)), (24, .sl false 4 (x0.States.map Qh)), (25, .int .i64 b), (26, .int .i64 f)], [(Qhw l x0.Split.Of x0.Split.Many x0.Counts x0.States), .arrX m 3 1 0 (mI g), .map n (kvs kS kI i), .arrX p 3 1 0 (mI j), .tab 0 Ub]⟩ (G5 r)
theorem Qa7 {r : List Int} (K : Nat) (go1 : Int → Qq → Int → Int → (List Int) → (List (ByteArray × Int)) → (List Int) → Option (List Int)) (hgo1 : Ic r go1) (p q : Int) (j : ByteArray) (x0 : Qq) (s u : Int) (v : List Int) (b : List (ByteArray × Int)) (m : List Int) (w : Nat) (y : Value) (aa : Nat) (ab : Value) (h : Ka K go1 p q j x0 s u v b m = some r) : T tp 70 (ca [1,1,1,1,0,0,0,1,1,0,1,0,0,1,1,0,0,1,1,1,1] ff17) ⟨[(1, .ptr w 0), (3, .c (.ex y)), (4, .int .i64 p), (5, .c (.ex (.map (some aa)))), (6, .c (.ex ab)), (7, .int .i64 q), (9, .str j), (24, .sl false 4 (x0.States.map Qh)), (25, .int .i64 s), (26, .int .i64 u)], [(Qhw w x0.Split.Of x0.Split.Many x0.Counts x0.States), .arrX y 3 1 0 (mI v), .map aa (kvs kS kI b), .arrX ab 3 1 0 (mI m), .tab 0 Ub]⟩ (Js r) := by
 unfold Ka at h
 refine Qs ?_
 iterate 4 refine mw rfl ?_
 refine sp rfl (OpT.lookup (i := 2) (g := kS) (h := kI) (z := 0) (l := b) (a := j) rfl (dk rfl) KeyK.kS ul88 ul9 i3 (fun _ => rfl) rfl rfl rfl ?_)
 obtain ⟨ac, ad, h⟩ := bind_some h
 refine sp rfl (Yj (n := 3) (xs := m) (f := (cI .i64)) (old := ac) rfl (dk rfl) Zs i3 rfl rfl rfl ad (sp rfl (Hv (i := 3) (xs := m) (f := (cI .i64)) (old := ac) (new := ((b.lookup j).getD 0)) rfl rfl i3 rfl rfl rfl (Z2 ad).2 (Qla _) (nb rfl) rfl (nL (Qk (tN (Qs (oI rfl (mw rfl (nL (tN ?_)))))))))))
 refine Qe ?_ (hgo1 p x0 s (wI (u + (1:Int))) v b (List.set m (Int.toNat q) ((b.lookup j).getD 0)) w y aa ab h)
 exact tq rfl rfl
theorem Qa8 {r : List Int} (K : Nat) (go1 : Int → Qq → Int → Int → (List Int) → (List (ByteArray × Int)) → (List Int) → Option (List Int)) (hgo1 : Ic r go1) (j m : Int) (f : ByteArray) (x0 : Qq) (p q : Int) (s : List Int) (b : List (ByteArray × Int)) (u : List Int) (w : Nat) (y : Value) (aa : Nat) (ab : Value) (h : Kb K go1 j m f x0 p q s b u = some r) : T tp 70 (ca [1,1,1,1,0,0,0,1,1,0,1,0,0,1,1,0,0,1,1,1] ff17) ⟨[(1, .ptr w 0), (3, .c (.ex y)), (4, .int .i64 j), (5, .c (.ex (.map (some aa)))), (6, .c (.ex ab)), (7, .int .i64 m), (9, .str f), (24, .sl false 4 (x0.States.map Qh)), (25, .int .i64 p), (26, .int .i64 q)], [(Qhw w x0.Split.Of x0.Split.Many x0.Counts x0.States), .arrX y 3 1 0 (mI s), .map aa (kvs kS kI b), .arrX ab 3 1 0 (mI u), .tab 0 Ub]⟩ (Js r) := by
 unfold Kb at h
 refine T.seq (sR (Qs (mw rfl (mw rfl (sp rfl (Qi4 (i := 2) (g := kS) (h := kI) (z := 0) (l := b) (a := f) rfl (dk rfl) KeyK.kS ul88 ul9 i3 (fun _ => rfl) rfl rfl rfl (mw rfl (oE rfl ?_))))))))
 refine oE rfl (aw rfl (aw rfl (nL (tN (sR (Qs (mw rfl (oT rfl (nL (tN ?_))))))))))
 rcases Qd h with ⟨ac, h⟩ | ⟨ac, h⟩
 refine Qp rfl ac (Qs ?_)
 iterate 3 refine mw rfl ?_
 refine sp rfl (Qiq (i := 2) (g := kS) (h := kI) (l := b) rfl (dk rfl) ul88 rfl rfl ?_)
 obtain ⟨ad, h⟩ := Zb h
 refine sp rfl (OpT.mapPut (i := 2) (g := kS) (h := kI) (l := b) (a := f) (v := (b.length : Int)) rfl rfl KeyK.kS ul88 ul9 rfl rfl rfl rfl ad (nL (tN ?_)))
 refine Qg ?_ (Qa7 K go1 hgo1 j m f x0 p q s (b ++ [(f, (b.length : Int))]) u w y aa ab h)
 exact tq rfl rfl
 refine Qo rfl ac (T.skip (tN ?_))
 refine Qg ?_ (Qa7 K go1 hgo1 j m f x0 p q s b u w y aa ab h)
 exact tq rfl rfl
abbrev Qa6 (r : List Int) (go : Int → Qq → (List Int) → Option (List Int)) : Prop := ∀ (a : Int) (x0 : Qq) (b : List Int) (f : Nat) (g : Value), go a x0 b = some r → TL tp 70 (ca [1,1,1,1,0,0] ff17) ⟨[(1, .ptr f 0), (3, .c (.ex g)), (4, .int .i64 a)], [(Qhw f x0.Split.Of x0.Split.Many x0.Counts x0.States), .arrX g 3 1 0 (mI b), .tab 0 Ub]⟩ (Qa5 r)
theorem Qi6 {r : List Int} (K : Nat) (go0 : Int → Qq → (List Int) → Option (List Int)) (hgo0 : Qa6 r go0) : ∀ (k : Nat), Ic r (V7 K go0 k) := by
 intro k
 induction k with
 | zero =>
  intro af x0 ag m p w ac aa j ad ab h
  exact zn h
 | succ k ih =>
  intro af x0 ag m p w ac aa j ad ab h
  rw [V7] at h
  refine Q7 (sR (Qs (oI rfl (nL (tN (T.seq ?_))))))
  rcases Qd h with ⟨aj, h⟩ | ⟨aj, h⟩
  refine Qp rfl aj (T.skip (tN (T.seq (T.block (sR (Qs (mw rfl ?_)))))))
  obtain ⟨b, aq, h⟩ := bind_some h
  refine oX x0.States Qh Jm i51 aq rfl (oJ Hx i51 rfl (sp rfl (Ze rfl (dk rfl) i51 rfl (fun al => (aw rfl (sp rfl (Qy (i := 0) (cells' := [.d (.sl false 1 (mI b.L)), .d (.sl false 1 (mI b.R)), .d (.sl false 1 (mI b.Rule)), .d (.sl false 1 (b.Next.map (cL 2 Qn)))]) rfl rfl i51 rfl rfl rfl rfl (nb rfl) rfl (nL (tN (sR (Qs (aw rfl ?_))))))))))))
  refine nL (tN (T.seq (sR (Qs (mw rfl (oI rfl (nL (tN ?_))))))))
  rcases Qd h with ⟨am, h⟩ | ⟨am, h⟩
  refine Qp rfl am (Ja (gM rfl (fun _ => .f rfl) (fun _ => rfl) (gM rfl (fun _ => .f rfl) (fun _ => rfl) ?_)))
  obtain ⟨ai, ap, h⟩ := bind_some h
  refine dC (c := ⟨some 35, .el j 1 (Int.toNat m) 0, [(33, .c (.ex j)), (34, .int .i64 m)], [(2, .arrX j 3 1 0 (mI p))], []⟩) (fun t hm => oF rfl rfl (Yj (n := 2) (xs := p) (f := (cI .i64)) (old := ai) rfl (dk rfl) Zs i3 hm.s0 hm.o0 hm.s1 ap ⟨u0, rfl⟩)) (fun _ => rfl) (fun _ => rfl) (dC (c := ⟨some 36, .int .i64 ai, [(35, .el j 1 (Int.toNat m) 0)], [(2, .arrX j 3 1 0 (mI p))], []⟩) (fun t hm => oF rfl rfl (Hd (i := 2) (xs := p) (f := (cI .i64)) (old := ai) rfl (dk rfl) ul3 rfl hm.s0 hm.o0 (Z2 ap).2 rfl ⟨u0, rfl⟩)) (fun _ => rfl) (fun _ => rfl) ?_)
  obtain ⟨q, au, h⟩ := bind_some h
  refine dC (c := ⟨some 37, .str q, [(36, .int .i64 ai)], [(5, .tab 0 Ub)], []⟩) (fun t hm => oF rfl rfl (Ch rfl (dk rfl) fu39 rfl rfl (Zw.cons hm.s0 Zw.nil) (.tab 5 hm.o0 (.nil)) (R0 K au) ⟨u0, rfl⟩)) (fun _ => rfl) (fun _ => rfl) ?_
  obtain ⟨av, h⟩ := Zb h
  refine dC (c := ⟨some 38, .str (q ++ (⟨#[58]⟩ : ByteArray)), [(37, .str q)], [], []⟩) (fun t hm => oF rfl rfl (Qaz rfl (dk rfl) hm.s0 rfl av ⟨u0, rfl⟩)) (fun _ => rfl) (fun _ => rfl) (gW 0 [.sl false 1 (mI b.L), .sl false 1 (mI b.R), .sl false 1 (mI b.Rule), .sl false 1 (b.Next.map (cL 2 Qn))] rfl (fun _ => .f rfl) Hx i51 (fun _ => rfl) (gM rfl (fun _ => .f rfl) (fun _ => rfl) ?_))
  obtain ⟨y, ay, h⟩ := bind_some h
  refine dC (c := ⟨some 41, .str y, [(39, .agg [.sl false 1 (mI b.L), .sl false 1 (mI b.R), .sl false 1 (mI b.Rule), .sl false 1 (b.Next.map (cL 2 Qn))]), (40, .c (.ex j))], [(2, .arrX j 3 1 0 (mI p)), (5, .tab 0 Ub)], [(5, .tab 0 Ub), (2, .arrX j 3 1 0 (mI p))]⟩) (fun t hm => oF rfl rfl (Zc (is := [5, 2]) (ph := []) rfl (dk rfl) fu40 rfl rfl (Zw.cons hm.s0 (Zw.cons hm.s1 Zw.nil)) (trim_sign_T K (wx1 := j) ay) (.cons hm.o1 rfl (.cons hm.o0 rfl (.nil))) (fun _ => rfl) (fun g => ⟨(g, 0), rfl⟩))) (fun _ => rfl) (fun _ => rfl) ?_
  obtain ⟨az, h⟩ := Zb h
  refine dC (c := ⟨some 42, .str ((q ++ (⟨#[58]⟩ : ByteArray)) ++ y), [(38, .str (q ++ (⟨#[58]⟩ : ByteArray))), (41, .str y)], [], []⟩) (fun t hm => oF rfl rfl (Qaz rfl (dk rfl) hm.s0 hm.s1 az ⟨u0, rfl⟩)) (fun _ => rfl) (fun _ => rfl) (gA rfl (fun _ => .f rfl) (fun _ => rfl) (gF [0,0,3,7,15,31,0,0,223,511,1023] Q0 rfl (by kernel_rfl) (fun _ => by kernel_rfl) (fun a u hu => (tN (Qg hu ?_)))))
  refine Qg ?_ (Qa8 K (V7 K go0 k) ih af m ((q ++ (⟨#[58]⟩ : ByteArray)) ++ y) x0 ag m p w ac aa j ad ab h)
  exact tr rfl (.c (.s .z) (.c (.s .z) (.c (.s .z) (.c (.s .z) (.c (.s .z) (.n _))))))
  refine Qo rfl am (T.skip (tN ?_))
  refine Qg ?_ (Qa8 K (V7 K go0 k) ih af m (⟨#[102, 105, 114, 115, 116]⟩ : ByteArray) x0 ag m p w ac aa j ad ab h)
  exact tr rfl (.c (.s .z) (.c (.s .z) (.c (.s .z) (.c (.s .z) (.c (.s .z) (.n _))))))
  refine Qo rfl aj (T.exit (Ql (Ql (Qu (tN (sR (Qs (mw rfl (aw rfl (nL (tN (T.seq ?_))))))))))))
  refine sR (Qs (mw rfl (sp rfl (Qiq (i := 2) (g := kS) (h := kI) (l := w) rfl (dk rfl) ul88 rfl rfl (mw rfl (oI rfl (nL (tN ?_))))))))
  rcases Qd h with ⟨an, h⟩ | ⟨an, h⟩
  refine Qp rfl an (sR (Qs (mw rfl (aw rfl (nL (tN (T.ret (Qr (Q1 (Qr (Q1 (Xl (Ke 3 rfl) ?_))))))))))))
  refine Xl (Z3.view 2 3 rfl rfl) (Q6 (.cons _ _ _ _ (.tmp 2 _ rfl) .nil) (.cons 4 rfl (.nil _)) (by cases h; exact ⟨rfl, rfl⟩))
  refine Qo rfl an (T.skip (tN (Qs (mw rfl (sp rfl (Qiq (i := 2) (g := kS) (h := kI) (l := w) rfl (dk rfl) ul88 rfl rfl (aw rfl (nL (Qk (tN ?_))))))))))
  refine Qe ?_ (hgo0 (w.length : Int) x0 ac aa ab h)
  exact tr rfl (.c .z (.c (.s (.s .z)) (.c (.s (.s .z)) (.n _))))
theorem Qi7 {r : List Int} (K : Nat) : ∀ (k : Nat), Qa6 r (Wa K k) := by
 intro k
 induction k with
 | zero =>
  intro b x0 a d g h
  exact zn h
 | succ k ih =>
  intro b x0 a d g h
  rw [Wa] at h
  refine Q7 (T.block (sR (Qs (sp rfl (OpT.makeMap rfl (dk rfl) (fun j => (aw rfl (nL (tN (sR (Qs (mw rfl ?_))))))))))))
  refine sp rfl (Hn (i := 2) (xs := a) (f := (cI .i64)) rfl (dk rfl) Zs rfl rfl ?_)
  obtain ⟨l, h⟩ := Zb h
  obtain ⟨m, h⟩ := Zb h
  refine sp rfl (Kf (f := (cI .i64)) (zv := ((0:Int) : Int)) rfl (dk rfl) Zs i3 (by decide) rfl rfl rfl rfl rfl l m (fun p => (aw rfl (nL (tN (T.seq (sR (Qs (oP Wn i26 rfl (oL 2 Jm rfl ?_))))))))))
  refine oU x0.States Qh Jm rfl (mw rfl (nL (tN (T.block (T.loop ?_)))))
  refine Qe ?_ (Qi6 K (Wa K k) ih K b x0 (x0.States.length : Int) (0:Int) a [] (List.replicate (Int.toNat (a.length : Int)) ((0:Int) : Int)) d g j p h)
  exact tr rfl (.c (.s (.s .z)) (.c (.s (.s .z)) (.c (.s .z) (.c .z (.c .z (.n _))))))
theorem trim_Blocks_T (K : Nat) {x0 : Qq} {r : List Int} (h : Oc K x0 = some r) : Zm tp 17 [.agg ((Zp.dc 256 .u8 x0.Split.Of) ++ (([.int .i64 x0.Split.Many, .sl false 2 (mA x0.Counts), .sl false 4 (x0.States.map Qh)] : List DC)))] [.tab 0 Ub] (.sl false 1 (mI r)) := by
 refine CI 70 fu17 rfl ?_
 unfold Oc at h
 refine sR (Qs (sp rfl (Q9 rfl (dk rfl) rfl (fun b => (aw rfl (nL (tN (T.seq (sR (Qs (oA 0 ((Zp.dc 256 .u8 x0.Split.Of) ++ (([.int .i64 x0.Split.Many, .sl false 2 (mA x0.Counts), .sl false 4 (x0.States.map Qh)] : List DC))) Wn i28 rfl ?_)))))))))))
 obtain ⟨p, d, h⟩ := bind_some h
 refine oH fu24 (Zm.nil (Qd0 K d)) rfl (oT rfl (nL (tN ?_)))
 rcases Qd h with ⟨a, h⟩ | ⟨a, h⟩
 refine Qp rfl a (sR (Qs (aw rfl (nL (tN (T.ret (Qr (Xl (Fc 2 false 1 rfl) (Q6 (.cons _ _ _ _ (.tmp 2 _ rfl) .nil) (.cons 1 rfl (.nil _)) (by cases h; exact ⟨rfl, rfl⟩))))))))))
 refine Qo rfl a (T.skip (tN (sR (Qs (oP Wn i26 rfl (oL 0 Jm rfl (oU x0.States Qh Jm rfl ?_)))))))
 obtain ⟨g, h⟩ := Zb h
 obtain ⟨j, h⟩ := Zb h
 refine sp rfl (Kf (f := (cI .i64)) (zv := ((0:Int) : Int)) rfl (dk rfl) Zs i3 (by decide) rfl rfl rfl rfl rfl g j (fun m => (aw rfl (nL (tN (sR (Qs (aw rfl (nL (tN (T.block (T.loop ?_))))))))))))
 refine Qe ?_ (Qi7 K K (0:Int) x0 (List.replicate (Int.toNat (x0.States.length : Int)) ((0:Int) : Int)) b m h)
 exact tr rfl (.c (.s .z) (.c .z (.c .z (.n _))))
abbrev Qbk (bx0 : Nat) (r : Qc) : ES := Jq tp Qgr (fun y t => ∃ γ : Nat → Value, y = (.tup []) ∧ t = [(We bx0 r.Auto.Split.Of r.Auto.Split.Many r.Auto.Counts r.Auto.States)])
abbrev Rt (bx0 : Nat) (r : Qc) : ES := fT 102 [1,1] Qgr (Qbk bx0 r)
abbrev K0 (bx0 : Nat) (r : Qc) : ES := Qz 0 ((Rt bx0 r))
abbrev N7 (bx0 : Nat) (r : Qc) : ES := fL 102 [1,0,1,0,0] Qgr (K0 bx0 r)
abbrev Er (bx0 : Nat) (r : Qc) : ES := fT 102 [1,0,1,0,0,1,1,1] Qgr (N7 bx0 r)
abbrev B3 (bx0 : Nat) (r : Qc) : ES := Qz 1 ((Er bx0 r))
abbrev B2 (bx0 : Nat) (r : Qc) : ES := fT 102 [1,0,1,0,0,1,1,0,0,1,1,1] Qgr (B3 bx0 r)
abbrev U4 (bx0 : Nat) (r : Qc) : ES := Qz 2 ((B2 bx0 r))
abbrev M3 (bx0 : Nat) (r : Qc) : ES := fL 102 [1,0,1,0,0,1,1,0,0,1,1,0,1,0,0] Qgr (U4 bx0 r)
abbrev Kh (bx0 : Nat) (r : Qc) : ES := fT 102 [1,0,1,0,0,1,1,0,0,1,1,0,1,0,0,1,1,1] Qgr (M3 bx0 r)
abbrev W4 (bx0 : Nat) (r : Qc) : ES := Qz 3 ((Kh bx0 r))
abbrev X6 (bx0 : Nat) (r : Qc) : ES := Qz 4 ((W4 bx0 r))
abbrev Gi (bx0 : Nat) (r : Qc) : ES := fL 102 [1,0,1,0,0,1,1,0,0,1,1,0,1,0,0,1,1,0,0,1,1,0,0] Qgr (X6 bx0 r)
abbrev W3 (bx0 : Nat) (r : Qc) : ES := fT 102 [1,0,1,0,0,1,1,0,0,1,1,0,1,0,0,1,1,0,0,1,1,0,0,1,1,1] Qgr (Gi bx0 r)
abbrev Y3 (bx0 : Nat) (r : Qc) : ES := Qz 5 ((W3 bx0 r))
abbrev J6 (bx0 : Nat) (r : Qc) : ES := fT 102 [1,0,1,0,0,1,1,0,0,1,1,0,1,0,0,1,1,0,0,1,1,0,0,1,1,0,0,1,1,1] Qgr (Y3 bx0 r)
abbrev Hr (bx0 : Nat) (r : Qc) (go : (List Int) → Int → Int → Qc → Int → Int → (List (List Qf)) → Int → Int → (List Qf) → Int → Int → (List Qa) → (List Int) → (List Int) → (List Int) → (List (List Qf)) → (List (List Qf)) → Option Qc) : Prop := ∀ (x1 : List Int) (a b : Int) (x0 : Qc) (f g : Int) (i : List (List Qf)) (j l : Int) (m : List Qf) (n p : Int) (q : List Qa) (s u v : List Int) (w y : List (List Qf)) (flx1 : Bool) (z : Value) (aa : Nat) (ab : Value), go x1 a b x0 f g i j l m n p q s u v w y = some r → TL tp 102 (ca [1,0,1,0,0,1,1,0,0,1,1,0,1,0,0,1,1,0,0,1,1,0,0] Qgr) ⟨[(0, .ptr bx0 0), (1, .sl flx1 1 (mI x1)), (4, .c (.ex z)), (5, .int .i64 a), (6, .ptr aa 0), (7, .c (.ex ab)), (8, .int .i64 b), (24, .sl false 4 (x0.Auto.States.map Qh)), (25, .int .i64 f), (26, .int .i64 g), (36, .sl false 1 (i.map (cL 2 Qn))), (37, .int .i64 j), (38, .int .i64 l), (43, .sl false 2 (m.map Qn)), (44, .int .i64 n), (45, .int .i64 p)], [(We bx0 x0.Auto.Split.Of x0.Auto.Split.Many x0.Auto.Counts x0.Auto.States), .arrX z 51 4 0 (q.map Qh), (J5 aa s u v w), .arrG ab 55 (gc 54 2 Qn y)]⟩ (X6 bx0 r)
theorem Ba {r : Qc} (K bx0 : Nat) (go2 : (List Int) → Int → Int → Qc → Int → Int → (List (List Qf)) → Int → Int → (List Qf) → Int → Int → (List Qa) → (List Int) → (List Int) → (List Int) → (List (List Qf)) → (List (List Qf)) → Option Qc) (hgo2 : Hr bx0 r go2) (x1 : List Int) (ac g : Int) (x0 : Qc) (ad af : Int) (ag : List (List Qf)) (ai aj : Int) (al : List Qf) (am an : Int) (ap : List Qa) (aq au av : List Int) (ay p : List (List Qf)) (j : Int) (m : List Int) (flx1 : Bool) (v : Value) (aa : Nat) (b : Value) (ab : Nat) (h : Vi K go2 x1 ac g x0 ad af ag ai aj al am an ap aq au av ay p j m = some r) : T tp 102 (ca [1,0,1,0,0,1,1,0,0,1,1,0,1,0,0,1,1,0,0,1,1,0,0,1,1,0,0,1,1,1] Qgr) ⟨[(0, .ptr bx0 0), (1, .sl flx1 1 (mI x1)), (4, .c (.ex v)), (5, .int .i64 ac), (6, .ptr aa 0), (7, .c (.ex b)), (8, .int .i64 g), (12, .ptr ab 0), (24, .sl false 4 (x0.Auto.States.map Qh)), (25, .int .i64 ad), (26, .int .i64 af), (36, .sl false 1 (ag.map (cL 2 Qn))), (37, .int .i64 ai), (38, .int .i64 aj), (43, .sl false 2 (al.map Qn)), (44, .int .i64 am), (45, .int .i64 an)], [(We bx0 x0.Auto.Split.Of x0.Auto.Split.Many x0.Auto.Counts x0.Auto.States), .arrX v 51 4 0 (ap.map Qh), (J5 aa aq au av ay), .arrG b 55 (gc 54 2 Qn p), (Qe0 ab j m)]⟩ (Y3 bx0 r) := by
 unfold Vi at h
 refine Qg Yp (Qg Yp (Ja (gM rfl (fun _ => .f rfl) (fun _ => rfl) (gM rfl (fun _ => .f rfl) (fun _ => rfl) (gM rfl (fun _ => .f rfl) (fun _ => rfl) (gM rfl (fun _ => .f rfl) (fun _ => rfl) ?_))))))
 obtain ⟨q, az, h⟩ := bind_some h
 refine dC (c := ⟨some 74, .el b 1 (Int.toNat g) 0, [(72, .c (.ex b)), (73, .int .i64 g)], [(5, .arrG b 55 (gc 54 2 Qn p))], []⟩) (fun t hm => oF rfl rfl (Qa0 (n := 5) (l := p) (y := q) rfl (dk rfl) T0 i55 hm.s0 hm.o0 hm.s1 az ⟨u0, rfl⟩)) (fun _ => rfl) (fun _ => rfl) (DGG.step (c := fun a => ⟨some 75, .c (.ex ((a 5).1 0)), [(74, .el b 1 (Int.toNat g) 0)], [(5, .arrG b 55 (gc 54 2 Qn p)), (0, .ro 0 [])], [(5, .arrG b 55 (gh 54 2 Qn p (Int.toNat g) ((a 5).1 0))), (0, .arrA ((a 5).1 0) 54 2 (q.map Qn))]⟩) [5] (fun a γ' h => by simp only [h 5 (by decide)]) (fun a t hm => oF rfl rfl (Qip (i := 5) (kk := 0) (l := p) (y := q) rfl (dk rfl) Rs rfl hm.s0 hm.o0 (Z2 az).2 hm.o1 (fun w => ⟨(fun _ => w, 0), rfl⟩))) (fun a => Zt rfl rfl) (gW 6 [.int .i64 j, .sl false 1 (mU m)] rfl (fun _ => .f rfl) Dq i54 (fun _ => rfl) (dC (c := ⟨some 77, .sl true 2 ([(Qf.mk j m)].map Qn), [(76, .agg [.int .i64 j, .sl false 1 (mU m)])], [], []⟩) (fun t hm => oF rfl rfl (OpT.buildSlice (elems := ([(Qf.mk j m)] : List Qf).map Qn) rfl (dk rfl) Rs i54 (by decide) rfl (H4 rfl) (Xe hm.s0 rfl Wt) rfl rfl (X2 rfl) (by decide) ⟨u0, rfl⟩)) (fun _ => rfl) (fun _ => rfl) ?_)))
 obtain ⟨a0, h⟩ := Zb h
 refine DGG.step (c := fun a => ⟨some 78, .c (.ex ((a 8).1 0)), [(77, .sl true 2 ([(Qf.mk j m)].map Qn)), (75, .c (.ex ((a 5).1 0)))], [(0, .arrA ((a 5).1 0) 54 2 (q.map Qn))], [(0, .arrA ((a 8).1 0) 54 2 ((q ++ [(Qf.mk j m)]).map Qn))]⟩) [5, 8] (fun a γ' h => by simp only [h 5 (by decide), h 8 (by decide)]) (fun a t hm => oF rfl rfl (Zk (i := 0) (xs := q) (ys := [(Qf.mk j m)]) (f := Qn) rfl (dk rfl) Rs i54 rfl hm.s1 hm.o0 hm.s0 a0 (fun w => ⟨(fun _ => w, 0), rfl⟩))) (fun a => Zt rfl rfl) (DGG.step (c := fun a => ⟨some 79, .el b 1 (Int.toNat g) 0, [(70, .c (.ex b)), (71, .int .i64 g)], [(5, .arrG b 55 (gh 54 2 Qn p (Int.toNat g) ((a 5).1 0)))], []⟩) [5] (fun a γ' h => by simp only [h 5 (by decide)]) (fun a t hm => oF rfl rfl (Qgo (n := 5) (l := p) (y := q) rfl (dk rfl) T0 i55 hm.s0 hm.o0 hm.s1 az ⟨u0, rfl⟩)) (fun a => Zt rfl rfl) (DGG.step (c := fun a => ⟨none, .any, [(79, .el b 1 (Int.toNat g) 0), (78, .c (.ex ((a 8).1 0)))], [(5, .arrG b 55 (gh 54 2 Qn p (Int.toNat g) ((a 5).1 0))), (0, .arrA ((a 8).1 0) 54 2 ((q ++ [(Qf.mk j m)]).map Qn))], [(5, .arrG b 55 (gc 54 2 Qn (List.set p (Int.toNat g) (q ++ [(Qf.mk j m)])))), (0, .ro 0 [])]⟩) [5, 8] (fun a γ' h => by simp only [h 5 (by decide), h 8 (by decide)]) (fun a t hm => oF rfl rfl (Qgn (i := 5) (kk := 0) (l := p) (old := q) (y' := (q ++ [(Qf.mk j m)])) rfl rfl i55 hm.s0 hm.s1 hm.o0 (Z2 az).2 hm.o1 ⟨u0, rfl⟩)) (fun a => Zt rfl rfl) (gF [0,0,0,0,12,28,0,64,252,511,1023] Q0 rfl (by kernel_rfl) (fun _ => by kernel_rfl) (fun a u hu => (Qk (tN (Qg hu (Qs (oI rfl (mw rfl ?_))))))))))
 refine nL (tN ?_)
 refine Qe ?_ (hgo2 x1 ac g x0 ad af ag ai aj al am (wI (an + (1:Int))) ap aq au av ay (List.set p (Int.toNat g) (q ++ [(Qf.mk j m)])) flx1 v aa b h)
 exact tr rfl (.c (.s (.s .z)) (.c (.s (.s .z)) (.c (.s (.s .z)) (.c (.s (.s .z)) (.n _)))))
theorem M9 {r : Qc} (K bx0 : Nat) (go2 : (List Int) → Int → Int → Qc → Int → Int → (List (List Qf)) → Int → Int → (List Qf) → Int → Int → (List Qa) → (List Int) → (List Int) → (List Int) → (List (List Qf)) → (List (List Qf)) → Option Qc) (hgo2 : Hr bx0 r go2) (x1 : List Int) (a b : Int) (x0 : Qc) (f g : Int) (i : List (List Qf)) (j l : Int) (m : List Qf) (p q : Int) (s : List Qa) (u v w : List Int) (y aa : List (List Qf)) (flx1 : Bool) (ab : Value) (ac : Nat) (ad : Value) (af : Nat) (h : Vh K go2 x1 a b x0 f g i j l m p q s u v w y aa = some r) : T tp 102 (ca [1,0,1,0,0,1,1,0,0,1,1,0,1,0,0,1,1,0,0,1,1,0,0,1,1,0,0,1,1,0,1,1] Qgr) ⟨[(0, .ptr bx0 0), (1, .sl flx1 1 (mI x1)), (4, .c (.ex ab)), (5, .int .i64 a), (6, .ptr ac 0), (7, .c (.ex ad)), (8, .int .i64 b), (12, .ptr af 0), (24, .sl false 4 (x0.Auto.States.map Qh)), (25, .int .i64 f), (26, .int .i64 g), (36, .sl false 1 (i.map (cL 2 Qn))), (37, .int .i64 j), (38, .int .i64 l), (43, .sl false 2 (m.map Qn)), (44, .int .i64 p), (45, .int .i64 q)], [(We bx0 x0.Auto.Split.Of x0.Auto.Split.Many x0.Auto.Counts x0.Auto.States), .arrX ab 51 4 0 (s.map Qh), (J5 ac u v w y), .arrG ad 55 (gc 54 2 Qn aa), (Qe0 af (-1:Int) ([] : List Int))]⟩ (J6 bx0 r) := by
 unfold Vh at h
 refine T.skip (tN ?_)
 refine Qg ?_ (Ba K bx0 go2 hgo2 x1 a b x0 f g i j l m p q s u v w y aa (-1:Int) [] flx1 ab ac ad af h)
 exact tq rfl rfl
abbrev M7 (bx0 : Nat) (r : Qc) (go : (List Int) → Int → Qc → Int → Int → (List (List Qf)) → Int → Int → (List Qa) → (List Int) → (List Int) → (List Int) → (List (List Qf)) → (List (List Qf)) → Option Qc) : Prop := ∀ (x1 : List Int) (a : Int) (x0 : Qc) (b f : Int) (g : List (List Qf)) (i j : Int) (l : List Qa) (m n p : List Int) (q s : List (List Qf)) (flx1 : Bool) (u : Value) (v : Nat) (w : Value), go x1 a x0 b f g i j l m n p q s = some r → TL tp 102 (ca [1,0,1,0,0,1,1,0,0,1,1,0,1,0,0] Qgr) ⟨[(0, .ptr bx0 0), (1, .sl flx1 1 (mI x1)), (4, .c (.ex u)), (5, .int .i64 a), (6, .ptr v 0), (7, .c (.ex w)), (24, .sl false 4 (x0.Auto.States.map Qh)), (25, .int .i64 b), (26, .int .i64 f), (36, .sl false 1 (g.map (cL 2 Qn))), (37, .int .i64 i), (38, .int .i64 j)], [(We bx0 x0.Auto.Split.Of x0.Auto.Split.Many x0.Auto.Counts x0.Auto.States), .arrX u 51 4 0 (l.map Qh), (J5 v m n p q), .arrG w 55 (gc 54 2 Qn s)]⟩ (U4 bx0 r)
theorem Ru {r : Qc} (K bx0 : Nat) (go1 : (List Int) → Int → Qc → Int → Int → (List (List Qf)) → Int → Int → (List Qa) → (List Int) → (List Int) → (List Int) → (List (List Qf)) → (List (List Qf)) → Option Qc) (hgo1 : M7 bx0 r go1) : ∀ (k : Nat), Hr bx0 r (Zu K go1 k) := by
 intro k
 induction k with
 | zero =>
  intro x1 aa au x0 ab ac ad af ag ai av ay aj al am an ap aq flx1 q w y h
  exact zn h
 | succ k ih =>
  intro x1 aa au x0 ab ac ad af ag ai av ay aj al am an ap aq flx1 q w y h
  rw [Zu] at h
  refine Q7 (sR (Qs (oI rfl (nL (tN (T.seq ?_))))))
  rcases Qd h with ⟨az, h⟩ | ⟨az, h⟩
  refine Qp rfl az (T.skip (tN (T.seq (T.block (sR (Qs ?_))))))
  obtain ⟨g, a2, h⟩ := bind_some h
  refine oX ai Qn Rs i54 a2 rfl (oJ Dq i54 rfl (sp rfl (Ze rfl (dk rfl) i54 rfl (fun j => (sp rfl (Qy (i := 0) (cells' := [.d (.int .i64 g.To), .d (.sl false 1 (mU g.Ops))]) rfl rfl i54 rfl rfl rfl rfl (nb rfl) rfl (nL (tN (sR (Qs (sp rfl (Zq (OpT.build (l := [.int .i64 (-1:Int), .ex (.slice none 0 0)]) rfl (dk rfl) (Zr (pl := [(0, 1), (1, 1)]) Dq i54 rfl) (H4 rfl) rfl rfl rfl) (Ya 49 (l := [.int .i64 (-1:Int), .ex (.slice none 0 0)]) (l' := [.int .i64 (-1:Int), .sl false 1 (([] : List Int).map (cI .u8))]) (.cons (.same _) (.cons (.nil _ _) (.refl _)))) (sp rfl (Ze rfl (dk rfl) i54 rfl (fun p => ?_)))))))))))))))
  refine sp rfl (Qy (i := 0) (cells' := [.d (.int .i64 (-1:Int)), .d (.sl false 1 (([] : List Int).map (cI .u8)))]) rfl rfl i54 rfl rfl rfl rfl (nb rfl) rfl (nL (tN (T.seq (sR (Qs (oP Dq i3 rfl (oL 1 ul3 rfl (oI rfl ?_)))))))))
  refine mw rfl ?_
  rcases Qd h with ⟨b, h⟩ | ⟨b, h⟩
  refine sn rfl b (OpT.move rfl (dk rfl) rfl (sn rfl b (Vf rfl (dk rfl) Dq rfl i3 (by decide) rfl (sn rfl b (Yb (i := 1) rfl (dk rfl) ul3 rfl rfl rfl rfl ?_)))))
  obtain ⟨a, a1, h⟩ := bind_some h
  refine sn rfl b (Hq (xs := x1) (f := (cI .i64)) (v := a) rfl (dk rfl) Zs i3 rfl rfl a1 (sn rfl b (Lq rfl (dk rfl) ul3 rfl rfl rfl (sn rfl b (Z1 rfl rfl (dk rfl) rfl rfl (oY b rfl (nL (tN ?_))))))))
  rcases Qd h with ⟨a0, h⟩ | ⟨a0, h⟩
  refine Qp rfl a0 (Z7 (dV rfl rfl (dP rfl (.f rfl) Dq i3 rfl (dL 1 rfl (.f rfl) ul3 rfl (dX x1 (cI .i64) rfl (.f rfl) Zs i3 a1 rfl (dR rfl (.f rfl) ul3 rfl ?_))))))
  refine dP rfl (.f rfl) Dq i52 rfl (dL 1 rfl (.f rfl) B1 rfl ?_)
  obtain ⟨m, a3, h⟩ := bind_some h
  refine dH fu94 (Zm.nil (I7 K (flx0 := false) a3)) rfl (.f rfl) rfl (dS (c := ⟨some 69, .agg [.int .i64 a, .sl false 1 (mU m)], [(65, .int .i64 a), (68, .sl false 1 (mU m))], [], []⟩) (fun t hm => oF rfl rfl (OpT.build (l := [.int .i64 a, .sl false 1 (mU m)]) rfl (dk rfl) (Zr (pl := [(0, 1), (1, 1)]) Dq i54 rfl) (H4 rfl) (Xe hm.s0 rfl (Xe hm.s1 rfl Wt)) rfl rfl)) rfl rfl (dS (c := ⟨none, .any, [(12, .ptr p 0), (69, .agg [.int .i64 a, .sl false 1 (mU m)])], [(0, (Qe0 p (-1:Int) ([] : List Int)))], [(0, (Qe0 p a m))]⟩) (fun t hm => oF rfl rfl (Qy (i := 0) (cells' := [.d (.int .i64 a), .d (.sl false 1 (mU m))]) rfl rfl i54 hm.s0 hm.s1 rfl hm.o0 (nb rfl) rfl rfl)) rfl rfl (dF [0,0,2,7,15,0,32,96,255,511] Q0 rfl (by kernel_rfl) (fun u hu => (tN (Qg hu ?_))))))
  refine Qg ?_ (Ba K bx0 (Zu K go1 k) ih x1 aa au x0 ab ac ad af ag ai av ay aj al am an ap aq a m flx1 q w y p h)
  exact tr rfl (.c (.s (.s .z)) (.c (.s (.s .z)) (.c (.s (.s .z)) (.c (.s (.s .z)) (.c .z (.n _))))))
  refine Qo rfl a0 ?_
  refine Qg ?_ (M9 K bx0 (Zu K go1 k) ih x1 aa au x0 ab ac ad af ag ai av ay aj al am an ap aq flx1 q w y p h)
  exact tr rfl (.c (.s (.s .z)) (.c (.s (.s .z)) (.c (.s (.s .z)) (.c (.s (.s .z)) (.c .z (.n _))))))
  refine pf rfl b (pf rfl b (pf rfl b (pf rfl b (pf rfl b (pf rfl b (oZ b rfl ?_))))))
  refine nL (tN (Qo rfl rfl ?_))
  refine Qg ?_ (M9 K bx0 (Zu K go1 k) ih x1 aa au x0 ab ac ad af ag ai av ay aj al am an ap aq flx1 q w y p h)
  exact tr rfl (.c (.s (.s .z)) (.c (.s (.s .z)) (.c (.s (.s .z)) (.c (.s (.s .z)) (.c .z (.n _))))))
  refine Qo rfl az (T.exit (Ql (Ql (Qu (Qk (tN (Qs (oI rfl (mw rfl (nL (tN ?_)))))))))))
  refine Qe ?_ (hgo1 x1 aa x0 ab ac ad af (wI (ag + (1:Int))) aj al am an ap aq flx1 q w y h)
  exact tq rfl rfl
abbrev M8 (bx0 : Nat) (r : Qc) (go : (List Int) → Qc → Int → Int → (List Qa) → Option Qc) : Prop := ∀ (x1 : List Int) (x0 : Qc) (a b : Int) (f : List Qa) (flx1 : Bool) (g : Value), go x1 x0 a b f = some r → TL tp 102 (ca [1,0,1,0,0] Qgr) ⟨[(0, .ptr bx0 0), (1, .sl flx1 1 (mI x1)), (4, .c (.ex g)), (24, .sl false 4 (x0.Auto.States.map Qh)), (25, .int .i64 a), (26, .int .i64 b)], [(We bx0 x0.Auto.Split.Of x0.Auto.Split.Many x0.Auto.Counts x0.Auto.States), .arrX g 51 4 0 (f.map Qh)]⟩ (K0 bx0 r)
theorem Rw {r : Qc} (K bx0 : Nat) (go0 : (List Int) → Qc → Int → Int → (List Qa) → Option Qc) (hgo0 : M8 bx0 r go0) : ∀ (k : Nat), M7 bx0 r (Ym K go0 k) := by
 intro k
 induction k with
 | zero =>
  intro x1 s x0 ac ad ag am ai j w y aa ab b flx1 g a aj h
  exact zn h
 | succ k ih =>
  intro x1 s x0 ac ad ag am ai j w y aa ab b flx1 g a aj h
  rw [Ym] at h
  refine Q7 (sR (Qs (oI rfl (nL (tN (T.seq ?_))))))
  rcases Qd h with ⟨al, h⟩ | ⟨al, h⟩
  refine Qp rfl al (T.skip (tN (T.seq (T.block (sR (Qs (mw rfl ?_)))))))
  obtain ⟨af, aq, h⟩ := bind_some h
  refine oX ag (cL 2 Qn) T0 i55 aq rfl (oR Rs rfl (aw rfl (aw rfl (nL (tN (sR (Qs (mw rfl (oU af Qn Rs rfl ?_)))))))))
  refine mw rfl (nL (tN (T.block (T.loop ?_))))
  refine Qe ?_ (Ru K bx0 (Ym K go0 k) ih K x1 s ai x0 ac ad ag am ai af (af.length : Int) (0:Int) j w y aa ab b flx1 g a aj h)
  exact tq rfl rfl
  refine Qo rfl al (T.exit (Ql (Ql (Qu (tN (Qg (Z3.dataG (l := b) 3 rfl) (Qg (Ke 3 rfl) (Qg (Z3.view 7 3 rfl rfl) (Z7 (dV rfl rfl ?_))))))))))
  refine dV rfl rfl (dP rfl (.f rfl) Hx i38 rfl (dL 2 rfl (.f rfl) Zs rfl ?_))
  obtain ⟨m, au, h⟩ := bind_some h
  refine dH fu95 (Zm.nil (Ju K (flx0 := false) au)) rfl (.f rfl) rfl (dP rfl (.f rfl) Hx i38 rfl (dL 2 rfl (.f rfl) Zs rfl ?_))
  obtain ⟨p, av, h⟩ := bind_some h
  refine dH fu95 (Zm.nil (Ju K (flx0 := false) av)) rfl (.f rfl) rfl (dP rfl (.f rfl) Hx i38 rfl (dL 2 rfl (.f rfl) Zs rfl ?_))
  obtain ⟨q, ay, h⟩ := bind_some h
  refine dH fu95 (Zm.nil (Ju K (flx0 := false) ay)) rfl (.f rfl) rfl (dV rfl rfl (dS (c := ⟨some 94, .agg [.sl false 1 (mI m), .sl false 1 (mI p), .sl false 1 (mI q), .sl false 1 (b.map (cL 2 Qn))], [(86, .sl false 1 (mI m)), (89, .sl false 1 (mI p)), (92, .sl false 1 (mI q)), (93, .sl false 1 (b.map (cL 2 Qn)))], [], []⟩) (fun t hm => oF rfl rfl (OpT.build (l := [.sl false 1 (mI m), .sl false 1 (mI p), .sl false 1 (mI q), .sl false 1 (b.map (cL 2 Qn))]) rfl (dk rfl) (Zr (pl := [(0, 1), (1, 1), (2, 1), (3, 1)]) Hx i51 rfl) (H4 rfl) (Xe hm.s0 rfl (Xe hm.s1 rfl (Xe hm.s2 rfl (Xe hm.s3 rfl Wt)))) rfl rfl)) rfl rfl ?_))
  obtain ⟨an, ap, h⟩ := bind_some h
  refine dS (c := ⟨some 95, .el g 4 (Int.toNat s) 0, [(82, .c (.ex g)), (83, .int .i64 s)], [(1, .arrX g 51 4 0 (j.map Qh))], []⟩) (fun t hm => oF rfl rfl (Yj (n := 1) (xs := j) (f := Qh) (old := an) rfl (dk rfl) Jm i51 hm.s0 hm.o0 hm.s1 ap rfl)) rfl rfl (dS (c := ⟨none, .any, [(95, .el g 4 (Int.toNat s) 0), (94, .agg [.sl false 1 (mI m), .sl false 1 (mI p), .sl false 1 (mI q), .sl false 1 (b.map (cL 2 Qn))])], [(1, .arrX g 51 4 0 (j.map Qh))], [(1, .arrX g 51 4 0 ((List.set j (Int.toNat s) (Qa.mk m p q b)).map Qh))]⟩) (fun t hm => oF rfl rfl (Qe3 (i := 1) (xs := j) (f := Qh) (old := an) (new := (Qa.mk m p q b)) rfl rfl i51 hm.s0 hm.s1 rfl hm.o0 (Z2 ap).2 (Qla _) (nb rfl) rfl rfl)) rfl rfl (dF [0,0,0,4,12,0,32,124,0,256,1020,0,4092,8191,16383] Q0 rfl (by kernel_rfl) (fun u hu => (Qk (tN (Qg hu (Qs (oI rfl (mw rfl (nL (tN ?_)))))))))))
  refine Qe ?_ (hgo0 x1 x0 ac (wI (ad + (1:Int))) (List.set j (Int.toNat s) (Qa.mk m p q b)) flx1 g h)
  exact tq rfl rfl
theorem Rx {r : Qc} (K bx0 : Nat) : ∀ (k : Nat), M8 bx0 r (Yn K k) := by
 intro k
 induction k with
 | zero =>
  intro x1 x0 p g j flx1 b h
  exact zn h
 | succ k ih =>
  intro x1 x0 p g j flx1 b h
  rw [Yn] at h
  refine Q7 (sR (Qs (oI rfl (nL (tN (T.seq ?_))))))
  rcases Qd h with ⟨m, h⟩ | ⟨m, h⟩
  refine Qp rfl m (T.skip (tN (T.seq (T.block (sR (Qs (mw rfl ?_)))))))
  obtain ⟨a, q, h⟩ := bind_some h
  refine oX x0.Auto.States Qh Jm i51 q rfl (oJ Hx i51 rfl (sp rfl (Ze rfl (dk rfl) i51 rfl (fun u => (aw rfl (sp rfl (Qy (i := 0) (cells' := [.d (.sl false 1 (mI a.L)), .d (.sl false 1 (mI a.R)), .d (.sl false 1 (mI a.Rule)), .d (.sl false 1 (a.Next.map (cL 2 Qn)))]) rfl rfl i51 rfl rfl rfl rfl (nb rfl) rfl (nL (tN (sR (Qs (oP Hx i49 rfl ?_))))))))))))
  refine oL 0 T0 rfl (oU a.Next (cL 2 Qn) T0 rfl ?_)
  obtain ⟨w, h⟩ := Zb h
  obtain ⟨y, h⟩ := Zb h
  refine sp rfl (Su (e1 := 54) (esz := 2) (f := Qn) rfl (dk rfl) T0 i55 rfl rfl w y (fun aa => (aw rfl (nL (tN (T.seq (sR (Qs (oP Hx i49 rfl (oL 1 T0 rfl ?_))))))))))
  refine oU a.Next (cL 2 Qn) T0 rfl (mw rfl (nL (tN (T.block (T.loop ?_)))))
  refine Qe ?_ (Rw K bx0 (Yn K k) ih K x1 g x0 p g a.Next (a.Next.length : Int) (0:Int) j a.L a.R a.Rule a.Next (List.replicate (Int.toNat (a.Next.length : Int)) ([] : List Qf)) flx1 b u aa h)
  exact tr rfl (.c (.s (.s .z)) (.c (.s (.s .z)) (.c (.s .z) (.c .z (.n _)))))
  refine Qo rfl m (T.exit (Ql (Ql (Qu (tN (Qs (mw rfl (mw rfl (oK rfl (oP ul69 i28 rfl ?_))))))))))
  refine oP Wn i26 rfl (sp rfl (Jh (i := 0) (cells' := ((Zp.oc 256 .u8 x0.Auto.Split.Of) ++ (([.d (.int .i64 x0.Auto.Split.Many), .d (.sl false 2 (mA x0.Auto.Counts)), .d (.ex b)]:List OC)))) rfl rfl i26 rfl rfl rfl (nb rfl) rfl (nL (Xl (Ke 1 rfl) (Xl (Jp 0 (l := ((Zp.dc 256 .u8 x0.Auto.Split.Of) ++ (([.int .i64 x0.Auto.Split.Many, .sl false 2 (mA x0.Auto.Counts), .ex b] : List DC)))) (l' := ((Zp.dc 256 .u8 x0.Auto.Split.Of) ++ (([.int .i64 x0.Auto.Split.Many, .sl false 2 (mA x0.Auto.Counts), .sl false 4 (j.map Qh)] : List DC)))) rfl (.app _ (.cons (.same _) (.cons (.same _) (.cons (.view 1 rfl) (.refl _)))))) (Q6 (.nil) (.cons 0 rfl (.nil _)) (by cases h; exact ⟨gl [], rfl, rfl⟩)))))))
theorem Qbl (K : Nat) {x0 : Qc} {x1 : List Int} {bx0 : Nat} {flx1 : Bool} {r : Qc} (h : Vr K x0 x1 = some r) : Jb tp 56 [.ptr bx0 0, .sl flx1 1 (mI x1)] [(We bx0 x0.Auto.Split.Of x0.Auto.Split.Many x0.Auto.Counts x0.Auto.States)] (fun γ => (.tup [])) (fun γ => [(We bx0 r.Auto.Split.Of r.Auto.Split.Many r.Auto.Counts r.Auto.States)]) := by
 refine CI 102 fu56 rfl ?_
 unfold Vr at h
 refine sR (Qs (mw rfl (oK rfl (oP ul69 i28 rfl (oP Wn i26 rfl (oL 0 Jm rfl (oU x0.Auto.States Qh Jm rfl ?_)))))))
 obtain ⟨a, h⟩ := Zb h
 obtain ⟨b, h⟩ := Zb h
 refine sp rfl (Qe4 (f := Qh) (zv := ((Qa.mk [] [] [] []) : Qa)) rfl (dk rfl) Jm i51 (by decide) rfl rfl (fun _ => .cons (.nil _ _) (.cons (.nil _ _) (.cons (.nil _ _) (.cons (.nil _ _) (.refl _))))) rfl rfl rfl a b (fun g => (aw rfl (nL (tN (T.seq (sR (Qs (mw rfl (oK rfl ?_))))))))))
 refine oP ul69 i28 rfl (oP Wn i26 rfl (oL 1 Jm rfl (oU x0.Auto.States Qh Jm rfl (mw rfl (nL (tN (T.block ?_)))))))
 refine T.loop ?_
 refine Qe ?_ (Rx K bx0 K x1 x0 (x0.Auto.States.length : Int) (0:Int) (List.replicate (Int.toNat (x0.Auto.States.length : Int)) ((Qa.mk [] [] [] []) : Qa)) flx1 g h)
 exact tr rfl (.c (.s .z) (.c .z (.n _)))
abbrev Qe8 (bx0 : Nat) (r : Qc) : ES := Jq tp ff27 (fun y t => ∃ γ : Nat → Value, y = (.tup []) ∧ t = [.tab 0 Ub, (We bx0 r.Auto.Split.Of r.Auto.Split.Many r.Auto.Counts r.Auto.States)])
abbrev T1 (bx0 : Nat) (r : Qc) : ES := fT 41 [1,1,1] ff27 (Qe8 bx0 r)
abbrev Bb (bx0 : Nat) (r : Qc) : ES := Qz 0 ((T1 bx0 r))
abbrev Ry (bx0 : Nat) (r : Qc) : ES := fL 41 [1,1,0,1,0,0] ff27 (Bb bx0 r)
abbrev Ib (bx0 : Nat) (r : Qc) : ES := fT 41 [1,1,0,1,0,0,1,1,1] ff27 (Ry bx0 r)
abbrev Db (bx0 : Nat) (r : Qc) : ES := Qz 1 ((Ib bx0 r))
abbrev Ed (bx0 : Nat) (r : Qc) (go : (List Int) → Int → Int → Qc → (List (Int × Int)) → (List Int) → Option Qc) : Prop := ∀ (a : List Int) (b f : Int) (x0 : Qc) (g : List (Int × Int)) (i : List Int) (j : Nat) (l : Value), go a b f x0 g i = some r → TL tp 41 (ca [1,1,0,1,0,0] ff27) ⟨[(0, .ptr bx0 0), (2, .c (.ex (.map (some j)))), (3, .c (.ex l)), (13, .sl false 1 (mI a)), (14, .int .i64 b), (15, .int .i64 f)], [(We bx0 x0.Auto.Split.Of x0.Auto.Split.Many x0.Auto.Counts x0.Auto.States), .map j (kvs kI kI g), .arrA l 3 1 (mI i), .tab 0 Ub]⟩ (Bb bx0 r)
theorem Ee {r : Qc} (K bx0 : Nat) (go0 : (List Int) → Int → Int → Qc → (List (Int × Int)) → (List Int) → Option Qc) (hgo0 : Ed bx0 r go0) (j : Int) (p : List Int) (q s : Int) (x0 : Qc) (b : List (Int × Int)) (m : List Int) (u : Nat) (v : Value) (h : Us K go0 j p q s x0 b m = some r) : T tp 41 (ca [1,1,0,1,0,0,1,1,0,0,1,1] ff27) ⟨[(0, .ptr bx0 0), (2, .c (.ex (.map (some u)))), (3, .c (.ex v)), (5, .int .i64 j), (13, .sl false 1 (mI p)), (14, .int .i64 q), (15, .int .i64 s)], [(We bx0 x0.Auto.Split.Of x0.Auto.Split.Many x0.Auto.Counts x0.Auto.States), .map u (kvs kI kI b), .arrA v 3 1 (mI m), .tab 0 Ub]⟩ (Db bx0 r) := by
 unfold Us at h
 refine Qs ?_
 iterate 3 refine mw rfl ?_
 refine sp rfl (OpT.lookup (i := 1) (g := kI) (h := kI) (z := 0) (l := b) (a := j) rfl (dk rfl) KeyK.kI ul111 ul3 i3 (fun _ => rfl) rfl rfl rfl (sp rfl (OpT.buildSlice (elems := ([((b.lookup j).getD 0)] : List Int).map (cI .i64)) rfl (dk rfl) Zs i3 (by decide) rfl (H4 rfl) rfl rfl rfl (X2 rfl) (by decide) ?_)))
 obtain ⟨w, h⟩ := Zb h
 refine sp rfl (Zk (i := 2) (xs := m) (ys := [((b.lookup j).getD 0)]) (f := (cI .i64)) rfl (dk rfl) Zs i3 rfl rfl rfl rfl w (fun y => (aw rfl (nL (Qk (tN (Qs (oI rfl (mw rfl (nL (tN ?_)))))))))))
 refine Qe ?_ (hgo0 p q (wI (s + (1:Int))) x0 b (m ++ [((b.lookup j).getD 0)]) u y h)
 exact tq rfl rfl
theorem Qbp {r : Qc} (K bx0 : Nat) : ∀ (k : Nat), Ed bx0 r (Yt K k) := by
 intro k
 induction k with
 | zero =>
  intro m p d x0 j q s u h
  exact zn h
 | succ k ih =>
  intro m p d x0 j q s u h
  rw [Yt] at h
  refine Q7 (sR (Qs (oI rfl (nL (tN (T.seq ?_))))))
  rcases Qd h with ⟨w, h⟩ | ⟨w, h⟩
  refine Qp rfl w (T.skip (tN (T.seq (T.block (sR (Qs (mw rfl ?_)))))))
  obtain ⟨b, aa, h⟩ := bind_some h
  refine oX m (cI .i64) Zs i3 aa rfl (oR ul3 rfl (aw rfl (aw rfl (nL (tN (T.seq (sR (Qs ?_))))))))
  refine mw rfl (mw rfl (sp rfl (Qi4 (i := 1) (g := kI) (h := kI) (z := 0) (l := j) (a := b) rfl (dk rfl) KeyK.kI ul111 ul3 i3 (fun _ => rfl) rfl rfl rfl (mw rfl (oE rfl (oE rfl (aw rfl ?_)))))))
  refine aw rfl (nL (tN (sR (Qs (mw rfl (oT rfl (nL (tN ?_))))))))
  rcases Qd h with ⟨y, h⟩ | ⟨y, h⟩
  refine Qp rfl y (Qs ?_)
  iterate 3 refine mw rfl ?_
  obtain ⟨ab, h⟩ := Zb h
  refine sp rfl (OpT.mapPut (i := 1) (g := kI) (h := kI) (l := j) (a := b) (v := d) rfl rfl KeyK.kI ul111 ul3 rfl rfl rfl rfl ab (nL (tN ?_)))
  refine Qg ?_ (Ee K bx0 (Yt K k) ih b m p d x0 (j ++ [(b, d)]) q s u h)
  exact tq rfl rfl
  refine Qo rfl y (T.skip (tN ?_))
  refine Qg ?_ (Ee K bx0 (Yt K k) ih b m p d x0 j q s u h)
  exact tq rfl rfl
  refine Qo rfl w (T.exit (Ql (Ql (Qu (tN (Qs (mw rfl (mw rfl ?_))))))))
  obtain ⟨ad, ac, h⟩ := bind_some h
  refine sp rfl (Zc (is := [0]) (ph := []) rfl (dk rfl) fu56 rfl rfl (Zw.cons rfl (Zw.view (i := 2) rfl rfl Zw.nil)) (Qbl K (bx0 := bx0) (flx1 := false) ac) (.cons rfl rfl (.nil)) (fun _ => rfl) (fun af => (nm (.c (.c (.c (.c (.n))))) (nL (Q6 (.nil) (.cons 3 rfl (.cons 0 rfl (.nil _))) (by cases h; exact ⟨gl [], rfl, rfl⟩))))))
theorem Qe9 (K : Nat) {x0 : Qc} {bx0 : Nat} {r : Qc} (h : Gk K x0 = some r) : Jb tp 27 [.ptr bx0 0] [.tab 0 Ub, (We bx0 x0.Auto.Split.Of x0.Auto.Split.Many x0.Auto.Counts x0.Auto.States)] (fun γ => (.tup [])) (fun γ => [.tab 0 Ub, (We bx0 r.Auto.Split.Of r.Auto.Split.Many r.Auto.Counts r.Auto.States)]) := by
 refine CI 41 fu27 rfl ?_
 unfold Gk at h
 refine sR (Qs (sp rfl (OpT.makeMap rfl (dk rfl) (fun b => (aw rfl (nL (tN (sR (Qs (aw rfl (nL (tN (T.seq ?_)))))))))))))
 refine sR (Qs (mw rfl (oK rfl (oP ul69 i28 rfl (oA 2 ((Zp.dc 256 .u8 x0.Auto.Split.Of) ++ (([.int .i64 x0.Auto.Split.Many, .sl false 2 (mA x0.Auto.Counts), .sl false 4 (x0.Auto.States.map Qh)] : List DC))) Wn i28 rfl ?_)))))
 obtain ⟨a, g, h⟩ := bind_some h
 refine sp rfl (Ch rfl (dk rfl) fu17 rfl rfl (Zw.cons rfl Zw.nil) (.tab 1 rfl (.nil)) (trim_Blocks_T K g) (oU a (cI .i64) Zs rfl (mw rfl (nL (tN (T.block (T.loop (Qe (Y0 3 1) ?_))))))))
 refine Qe ?_ (Qbp K bx0 K a (a.length : Int) (0:Int) x0 [] [] b (Qc1 2) h)
 exact tr rfl (.c (.s (.s (.s .z))) (.c (.s .z) (.c .z (.c .z (.n _)))))
abbrev trim_Of_q (r : Qq × Int) : ES := Jq tp ff10 (fun y t => y = (.tup [.agg ((Zp.dc 256 .u8 r.1.Split.Of) ++ (([.int .i64 r.1.Split.Many, .sl false 2 (mA r.1.Counts), .sl false 4 (r.1.States.map Qh)] : List DC))), .int .i64 r.2]) ∧ t = [.tab 0 Ub])
theorem Qiv {r : Qq × Int} (K : Nat) (f g : Zp) (j : Int) (m : List Xf) (p : List Qa) (q b : Nat) (h : N1 K f g j m p = some r) : T tp 36 (ca [1,1,1,1,1,1] ff10) ⟨[(2, .ptr q 0), (4, .ptr b 0)], [(Qkj q f (0:Int) (.slice none 0 0) (.slice none 0 0)), (We b g j m p), .tab 0 Ub]⟩ (trim_Of_q r) := by
 unfold N1 at h
 refine sR (Qs (mw rfl ?_))
 obtain ⟨a, s, h⟩ := bind_some h
 refine sp rfl (Zc (is := [1]) (ph := []) rfl (dk rfl) fu28 rfl rfl (Zw.cons rfl Zw.nil) (Qe7 K (bx0 := b) s) (.cons rfl rfl (.nil)) (fun _ => rfl) (fun u => (nm (.c (.c (.c (.n)))) (nL (tN (sR (Qs (mw rfl (oK rfl (oP ul69 i28 rfl (oA 1 ((Zp.dc 256 .u8 a.Auto.Split.Of) ++ (([.int .i64 a.Auto.Split.Many, .sl false 2 (mA a.Auto.Counts), .sl false 4 (a.Auto.States.map Qh)] : List DC))) Wn i28 rfl ?_)))))))))))
 refine sp rfl (Qy (i := 0) (cells' := ((Zp.oc 256 .u8 a.Auto.Split.Of) ++ (([.d (.int .i64 a.Auto.Split.Many), .d (.sl false 2 (mA a.Auto.Counts)), .d (.sl false 4 (a.Auto.States.map Qh))]:List OC)))) rfl rfl i28 rfl rfl rfl rfl (nb rfl) rfl (aw rfl (nL (tN (T.ret (Q6 (.cons _ _ _ _ (.cellAgg 2 28 _ 0 0 28 _ ((Zp.dc 256 .u8 a.Auto.Split.Of) ++ (([.int .i64 a.Auto.Split.Many, .sl false 2 (mA a.Auto.Counts), .sl false 4 (a.Auto.States.map Qh)] : List DC))) _ _ 259 _ rfl rfl rfl rfl Wn rfl i28) (.cons _ _ _ _ (.tmp 3 _ rfl) .nil)) (.cons 2 rfl (.nil _)) (by cases h; exact ⟨rfl, rfl⟩)))))))
theorem trim_Of_T (K : Nat) {x0 : Qq} {r : Qq × Int} (h : Qh6 K x0 = some r) : Zm tp 10 [.agg ((Zp.dc 256 .u8 x0.Split.Of) ++ (([.int .i64 x0.Split.Many, .sl false 2 (mA x0.Counts), .sl false 4 (x0.States.map Qh)] : List DC)))] [.tab 0 Ub] (.tup [.agg ((Zp.dc 256 .u8 r.1.Split.Of) ++ (([.int .i64 r.1.Split.Many, .sl false 2 (mA r.1.Counts), .sl false 4 (r.1.States.map Qh)] : List DC))), .int .i64 r.2]) := by
 refine CI 36 fu10 rfl ?_
 unfold Qh6 at h
 refine sR (Qs (sp rfl (Q9 rfl (dk rfl) rfl (fun aa => (sp rfl (Ze rfl (dk rfl) i28 rfl (fun p => (aw rfl (nL (tN (T.seq (sR (Qs ?_)))))))))))))
 refine oA 1 ((Zp.dc 256 .u8 x0.Split.Of) ++ (([.int .i64 x0.Split.Many, .sl false 2 (mA x0.Counts), .sl false 4 (x0.States.map Qh)] : List DC))) Wn i28 rfl ?_
 obtain ⟨ab, q, h⟩ := bind_some h
 refine oH fu24 (Zm.nil (Qd0 K q)) rfl (oT rfl (nL (tN ?_)))
 rcases Qd h with ⟨j, h⟩ | ⟨j, h⟩
 refine Qp rfl j (sR (Qs (sp rfl (OpT.build (l := ((Zp.dc 256 .u8 (Zp.mk fun _ => 0)) ++ (([.int .i64 (0:Int), .ex (.slice none 0 0), .ex (.slice none 0 0)] : List DC)))) rfl (dk rfl) (Zr (pl := [(0, 257), (257, 1), (258, 1)]) Wn i28 rfl) (H4 rfl) rfl rfl (sp rfl (Qy (i := 0) (cells' := ((Zp.oc 256 .u8 (Zp.mk fun _ => 0)) ++ (([.d (.int .i64 (0:Int)), .d (.ex (.slice none 0 0)), .d (.ex (.slice none 0 0))]:List OC)))) rfl rfl i28 rfl rfl rfl rfl (nb rfl) rfl (aw rfl (nL (tN (T.ret (Qr ?_)))))))))))
 refine Xl (Jp 0 (l := ((Zp.dc 256 .u8 (Zp.mk fun _ => 0)) ++ (([.int .i64 (0:Int), .ex (.slice none 0 0), .ex (.slice none 0 0)] : List DC)))) (l' := ((Zp.dc 256 .u8 (Zp.mk fun _ => 0)) ++ (([.int .i64 (0:Int), .sl false 2 (([] : List Xf).map (Xf.dc .i64)), .sl false 4 (([] : List Qa).map Qh)] : List DC)))) rfl (.app _ (.cons (.same _) (.cons (.nil _ _) (.cons (.nil _ _) (.refl _)))))) ?_
 exact Q6 (.cons _ _ _ _ (.cellAgg 2 28 _ 0 0 28 _ ((Zp.dc 256 .u8 (Zp.mk fun _ => 0)) ++ (([.int .i64 (0:Int), .sl false 2 (([] : List Xf).map (Xf.dc .i64)), .sl false 4 (([] : List Qa).map Qh)] : List DC))) _ _ 259 _ rfl rfl rfl rfl Wn rfl i28) (.cons _ _ _ _ (.tmp 3 _ rfl) .nil)) (.cons 2 rfl (.nil _)) (by cases h; exact ⟨rfl, rfl⟩)
 refine Qo rfl j (T.skip (tN (sR (Qs (oA 1 ((Zp.dc 256 .u8 x0.Split.Of) ++ (([.int .i64 x0.Split.Many, .sl false 2 (mA x0.Counts), .sl false 4 (x0.States.map Qh)] : List DC))) Wn i28 rfl (sp rfl (OpT.build (l := ((Zp.dc 256 .u8 x0.Split.Of) ++ (([.int .i64 x0.Split.Many, .sl false 2 (mA x0.Counts), .sl false 4 (x0.States.map Qh)] : List DC)))) rfl (dk rfl) (Zr (pl := [(0, 259)]) ul69 i69 rfl) (H4 rfl) rfl rfl (sp rfl (Q9 rfl (dk rfl) rfl (fun b => (aw rfl ?_)))))))))))
 refine nL (tN (sR (Qs (mw rfl (oP Wn i25 rfl (oL 2 Qiu rfl ?_))))))
 obtain ⟨u, v, h⟩ := bind_some h
 refine oH fu25 (Zm.nil (Qde K (flx0 := false) v)) rfl (oK rfl (oP ul69 i28 rfl (oP Wn i25 rfl (sp rfl (Jh (i := 0) (cells' := ((Zp.oc 256 .u8 x0.Split.Of) ++ (([.d (.int .i64 x0.Split.Many), .d (.sl false 2 (mA u)), .d (.sl false 4 (x0.States.map Qh))]:List OC)))) rfl rfl i25 rfl rfl rfl (nb rfl) rfl (nL (tN (sR (Qs (mw rfl ?_))))))))))
 obtain ⟨a, w, h⟩ := bind_some h
 refine sp rfl (Zc (is := [0]) (ph := []) rfl (dk rfl) fu26 rfl rfl (Zw.cons rfl Zw.nil) (Qfb K (bx0 := b) w) (.cons rfl rfl (.nil)) (fun _ => rfl) (fun ac => (nm (.c (.c (.c (.c (.n))))) (nL (tN (T.seq (sR (Qs (mw rfl (oK rfl ?_))))))))))
 refine oP ul69 i28 rfl (oP Wn i25 rfl (oL 0 Qiu rfl (oU a.Auto.Counts (Xf.dc .i64) Qiu rfl (oI rfl (nL (tN ?_))))))
 rcases Qd h with ⟨m, h⟩ | ⟨m, h⟩
 refine Qp rfl m (Qs (mw rfl ?_))
 obtain ⟨g, y, h⟩ := bind_some h
 refine sp rfl (Zc (is := [3, 0]) (ph := []) rfl (dk rfl) fu27 rfl rfl (Zw.cons rfl Zw.nil) (Qe9 K (bx0 := b) y) (.cons rfl rfl (.cons rfl rfl (.nil))) (fun _ => rfl) (fun ad => (nm (.c (.c (.c (.c (.n))))) (nL (tN ?_)))))
 refine Qg ?_ (Qiv K (Zp.mk fun _ => 0) g.Auto.Split.Of g.Auto.Split.Many g.Auto.Counts g.Auto.States p b h)
 exact tr rfl (.c (.s .z) (.c .z (.c (.s .z) (.n _))))
 refine Qo rfl m (T.skip (tN ?_))
 refine Qg ?_ (Qiv K (Zp.mk fun _ => 0) a.Auto.Split.Of a.Auto.Split.Many a.Auto.Counts a.Auto.States p b h)
 exact tr rfl (.c (.s .z) (.c .z (.c (.s .z) (.n _))))
abbrev raddlelaw12_shown_q (r : Bool) : ES := Jq tp ff14 (fun y t => y = (.bool r) ∧ t = [.tab 0 Ub])
theorem Qgi (K : Nat) {r : Bool} (h : Gw K = some r) : Zm tp 14 [] [.tab 0 Ub] (.bool r) := by
 refine CI 46 fu14 rfl ?_
 unfold Gw at h
 refine sR (Qs (aw rfl (nL (tN (sR (Qs ?_))))))
 obtain ⟨u, j, h⟩ := bind_some h
 refine oH fu35 (Zm.nil (Qf9 K j)) rfl (mw rfl (oE rfl (oE rfl (oE rfl (aw rfl (aw rfl ?_))))))
 refine aw rfl (nL (tN (sR (Qs (mw rfl ?_)))))
 obtain ⟨m, n, h⟩ := bind_some h
 refine oH fu36 (Zm.nil (Qg9 K (flx0 := false) n)) rfl (mw rfl (oE rfl (oE rfl (aw rfl (aw rfl (nL (tN (sR (Qs ?_)))))))))
 refine mw rfl (sp rfl (OpT.buildSlice (elems := ([m.1] : List (List Q5)).map (cL 9 Qx)) rfl (dk rfl) ul87 i80 (by decide) rfl (H4 rfl) rfl rfl rfl (X2 rfl) (by decide) ?_))
 obtain ⟨g, p, h⟩ := bind_some h
 refine oH fu37 (Zm.nil (Qjf K (flx0 := true) p)) rfl (mw rfl (oE rfl (oE rfl (sp rfl (Ze rfl (dk rfl) i43 rfl (fun v => (sp rfl (Qy (i := 0) (cells' := [.d (.sl false 1 (mI g.1.First)), .d (.sl false 9 (g.1.P.map Qv))]) rfl rfl i43 rfl rfl rfl rfl (nb rfl) rfl (aw rfl ?_)))))))))
 refine nL (tN (sR (Qs (oA 0 [.sl false 1 (mI g.1.First), .sl false 9 (g.1.P.map Qv)] F7 i43 rfl ?_))))
 obtain ⟨b, q, h⟩ := bind_some h
 refine oH fu20 (Zm.nil (Qba K q)) rfl (mw rfl (oE rfl (oE rfl (sp rfl (Ze rfl (dk rfl) i28 rfl (fun w => (sp rfl (Qy (i := 0) (cells' := ((Zp.oc 256 .u8 b.1.Split.Of) ++ (([.d (.int .i64 b.1.Split.Many), .d (.sl false 2 (mA b.1.Counts)), .d (.sl false 4 (b.1.States.map Qh))]:List OC)))) rfl rfl i28 rfl rfl rfl rfl (nb rfl) rfl (aw rfl ?_)))))))))
 refine nL (tN (sR (Qs (oA 0 ((Zp.dc 256 .u8 b.1.Split.Of) ++ (([.int .i64 b.1.Split.Many, .sl false 2 (mA b.1.Counts), .sl false 4 (b.1.States.map Qh)] : List DC))) Wn i28 rfl ?_))))
 obtain ⟨c, s, h⟩ := bind_some h
 refine sp rfl (Ch rfl (dk rfl) fu10 rfl rfl (Zw.cons rfl Zw.nil) (.tab 2 rfl (.nil)) (trim_Of_T K s) (mw rfl (oE rfl (oE rfl (sp rfl (Ze rfl (dk rfl) i28 rfl (fun y => (sp rfl (Qy (i := 0) (cells' := ((Zp.oc 256 .u8 c.1.Split.Of) ++ (([.d (.int .i64 c.1.Split.Many), .d (.sl false 2 (mA c.1.Counts)), .d (.sl false 4 (c.1.States.map Qh))]:List OC)))) rfl rfl i28 rfl rfl rfl rfl (nb rfl) rfl (aw rfl ?_))))))))))
 refine nL (tN (sR (Qs (mw rfl (oI rfl (mw rfl ?_))))))
 rcases Qd h with ⟨a, h⟩ | ⟨a, h⟩
 refine sn rfl a (Vf rfl (dk rfl) Wn rfl i26 (by decide) rfl (sn rfl a (Yb (i := 0) rfl (dk rfl) Jm rfl rfl rfl rfl (sn rfl a (Yz (xs := c.1.States) (f := Qh) rfl (dk rfl) Jm rfl (sn rfl a (Z1 rfl rfl (dk rfl) rfl rfl (oY a rfl (aw rfl (nL (tN ?_)))))))))))
 refine T.ret (Q6 (.cons _ _ _ _ (.tmp 0 _ rfl) .nil) (.cons 3 rfl (.nil _)) (by cases h; exact ⟨rfl, rfl⟩))
 refine pf rfl a (pf rfl a (pf rfl a (pf rfl a (oZ a rfl (aw rfl (nL (tN ?_)))))))
 refine T.ret (Q6 (.cons _ _ _ _ (.tmp 0 _ rfl) .nil) (.cons 3 rfl (.nil _)) (by cases h; exact ⟨rfl, rfl⟩))
abbrev Qgc (r : Bool) : ES := Jq tp ff42 (fun y t => y = (.bool r) ∧ t = [])
abbrev Qap (r : Bool) : ES := fT 29 [1,1,1] ff42 (Qgc r)
abbrev Sl (r : Bool) : ES := Qz 0 ((Qap r))
theorem Qcn {r : Bool} (K : Nat) : ∀ (k : Nat), ∀ (f g : Int) (x0 : Q8) (j : Nat), Xt K k f g x0 = some r → TL tp 29 (ca [1,1,0,1,0,0] ff42) ⟨[(1, .ptr j 0), (3, .int .i64 f), (4, .int .i64 g)], [(b24x8 j x0.Of x0.Many)]⟩ (Sl r) := by
 intro k
 induction k with
 | zero =>
  intro f g x0 j h
  exact zn h
 | succ k ih =>
  intro f g x0 j h
  rw [Xt] at h
  refine Q7 (T.seq (sR (Qs (mw rfl (oI rfl (nL (tN ?_)))))))
  rcases Qd h with ⟨l, h⟩ | ⟨l, h⟩
  refine Qp rfl l (T.skip (tN (T.seq (T.block (T.seq (sR (Qs (mw rfl ?_))))))))
  refine oP ul24 i22 rfl ?_
  obtain ⟨b, h⟩ := Zb h
  refine sp rfl (Y4 rfl (dk rfl) ul22 i5 rfl rfl b.1 b.2 (sp rfl (Yb (i := 0) rfl (dk rfl) ul5 rfl rfl rfl (Qa1 (n := 256) (k := .u8) (a := x0.Of) (pre := []) (post := [.d (.int .i64 x0.Many)]) b.1 b.2) (sp rfl (Uf rfl (dk rfl) ul5 ul3 rfl (mw rfl (oI rfl (nL (tN ?_)))))))))
  rcases Qd h with ⟨m, h⟩ | ⟨m, h⟩
  refine Qp rfl m (sR (Qs (aw rfl (nL (tN (T.ret (Qr (Q1 (Qr (Qr (Q1 (Qr (fd rfl (by cases h; exact ⟨rfl, rfl⟩))))))))))))))
  refine Qo rfl m (T.skip (tN (sR (Qs (mw rfl (oP ul24 i22 rfl (sp rfl (Y4 rfl (dk rfl) ul22 i5 rfl rfl b.1 b.2 (sp rfl (Yb (i := 0) rfl (dk rfl) ul5 rfl rfl rfl (Qa1 (n := 256) (k := .u8) (a := x0.Of) (pre := []) (post := [.d (.int .i64 x0.Many)]) b.1 b.2) ?_))))))))))
  refine sp rfl (Uf rfl (dk rfl) ul5 ul3 rfl (mw rfl (oI rfl (nL (tN ?_)))))
  rcases Qd h with ⟨p, h⟩ | ⟨p, h⟩
  refine Qp rfl p (Qs (mw rfl (oI rfl (aw rfl (nL (Qk (tN (Qs ?_))))))))
  refine mw rfl (oI rfl (aw rfl (nL (tN ?_))))
  refine Qe ?_ (ih (wI (f + (1:Int))) (wI (g + (1:Int))) x0 j h)
  exact tq rfl rfl
  refine Qo rfl p (T.skip (Qk (tN (Qs (mw rfl (oI rfl (aw rfl (nL (tN ?_)))))))))
  refine Qe ?_ (ih f (wI (g + (1:Int))) x0 j h)
  exact tq rfl rfl
  refine Qo rfl l (T.exit (Ql (Ql (Qu (tN (sR (Qs (mw rfl (oP ul24 i3 rfl (oL 0 ul3 rfl (oI rfl ?_)))))))))))
  refine aw rfl (nL (tN (T.ret (fd rfl (by cases h; exact ⟨rfl, rfl⟩)))))
theorem Qgd (K : Nat) {x0 : Q8} {r : Bool} (h : Gv K x0 = some r) : Zm tp 42 [.agg ((Zp.dc 256 .u8 x0.Of) ++ (([.int .i64 x0.Many] : List DC)))] [] (.bool r) := by
 refine CI 29 fu42 rfl ?_
 unfold Gv at h
 refine sR (Qs (sp rfl (Q9 rfl (dk rfl) rfl (fun a => (aw rfl (nL (tN (sR (Qs (aw rfl (nL (tN (T.seq ?_)))))))))))))
 refine sR (Qs (aw rfl (nL (tN (T.block (T.loop ?_))))))
 refine Qe ?_ (Qcn K K (0:Int) (0:Int) x0 a h)
 exact tq rfl rfl
abbrev Qfm (r : Bool) : ES := Jq tp ff75 (fun y t => y = (.bool r) ∧ t = [])
abbrev Qbv (r : Bool) : ES := fT 41 [1,1] ff75 (Qfm r)
abbrev Cl (r : Bool) : ES := Qz 0 ((Qbv r))
abbrev S9 (r : Bool) : ES := fL 41 [1,0,1,0,0] ff75 (Cl r)
abbrev Ot (r : Bool) : ES := fT 41 [1,0,1,0,0,1,1] ff75 (S9 r)
abbrev Ew (r : Bool) : ES := Qz 1 ((Ot r))
theorem Kj {r : Bool} (K : Nat) (h : Vu K = some r) : T tp 41 (ca [1,0,1,0,0,1,0,0,1,0] ff75) ⟨[], []⟩ (Ew r) := by
 unfold Vu at h
 refine sR (Qs (aw rfl (nL (tN (T.ret (Q1 (Qr (Qr (Q1 (Qr (fd rfl (by cases h; exact ⟨rfl, rfl⟩))))))))))))
theorem Qbw {r : Bool} (K : Nat) : ∀ (k : Nat), ∀ (x0 : List Int) (x1 b : Int) (flx0 : Bool), Yv K k x0 x1 b = some r → TL tp 41 (ca [1,0,1,0,0] ff75) ⟨[(0, .sl flx0 1 (mI x0)), (1, .int .i64 x1), (5, .int .i64 b)], []⟩ (Cl r) := by
 intro k
 induction k with
 | zero =>
  intro x0 x1 b flx0 h
  exact zn h
 | succ k ih =>
  intro x0 x1 b flx0 h
  rw [Yv] at h
  refine Q7 (T.seq (sR (Qs (mw rfl (mw rfl (oU x0 (cI .i64) Zs rfl (oI rfl ?_)))))))
  refine nL (tN ?_)
  rcases Qd h with ⟨l, h⟩ | ⟨l, h⟩
  refine Qp rfl l (T.skip (tN (T.seq (T.block (T.seq (Z7 (dV rfl rfl ?_)))))))
  refine dV rfl rfl ?_
  obtain ⟨a, m, h⟩ := bind_some h
  refine dX x0 (cI .i64) rfl (.f rfl) Zs i3 m rfl (dR rfl (.f rfl) ul3 rfl (dI rfl (.f rfl) rfl (dV rfl rfl ?_)))
  rcases Qd h with ⟨g, h⟩ | ⟨g, h⟩
  refine dO g rfl rfl (dO g rfl rfl (dO g rfl rfl (dO g rfl rfl (dO g rfl rfl (dO g rfl rfl (dY rfl (.f rfl) g rfl ?_))))))
  refine dV rfl rfl (dO rfl rfl rfl (dO rfl rfl rfl (dO rfl rfl rfl (dG rfl rfl (dG rfl rfl (dG rfl rfl ?_))))))
  refine dG rfl rfl (dG rfl rfl (dG rfl rfl (dG rfl rfl (dG rfl rfl (dG rfl rfl (dG rfl rfl ?_))))))
  refine dO rfl rfl rfl (dY rfl (.f rfl) rfl rfl (dF [0,0,3,7,15,31,63,63,255,511,63,2047,4095,8191,16383,32767,65535,131071,131071,393215,1048575,2097151,131071,131071,12713983,29491199,67108863,134217727,268435455] Q0 rfl (by kernel_rfl) (fun u hu => (tN (Qg hu (Qp rfl rfl ?_))))))
  refine Qg ?_ (Kj K h)
  exact tq rfl rfl
  refine dM rfl (.n g rfl) rfl (dM rfl (.n g rfl) rfl (dX x0 (cI .i64) rfl (.n g rfl) Zs i3 m rfl (dR rfl (.n g rfl) ul3 rfl (dM rfl (.n g rfl) rfl (dI rfl (.n g rfl) rfl (dZ rfl (.f rfl) g rfl ?_))))))
  refine dV rfl rfl ?_
  rcases Qd h with ⟨j, h⟩ | ⟨j, h⟩
  refine dO j rfl rfl (dO j rfl rfl (dO j rfl rfl (dG rfl rfl (dG rfl rfl (dG rfl rfl (dG rfl rfl ?_))))))
  refine dG rfl rfl (dG rfl rfl (dG rfl rfl (dG rfl rfl (dG rfl rfl (dG rfl rfl (dO j rfl rfl ?_))))))
  refine dY rfl (.f rfl) j rfl (dF [0,0,3,7,15,31,63,63,255,511,63,2047,4095,8191,16383,32767,65535,131071,131071,393215,1048575,2097151,131071,131071,12713983,29491199,67108863,134217727,268435455] Q0 rfl (by kernel_rfl) (fun u hu => (tN (Qg hu (Qp rfl rfl ?_)))))
  refine Qg ?_ (Kj K h)
  exact tq rfl rfl
  refine dM rfl (.n j rfl) rfl (dI rfl (.n j rfl) rfl (dM rfl (.n j rfl) rfl ?_))
  rcases Qd h with ⟨d, h⟩ | ⟨d, h⟩
  refine dM rfl (.n d rfl) rfl (dM rfl (.n d rfl) rfl (dI rfl (.n d rfl) rfl ?_))
  obtain ⟨i, q, h⟩ := bind_some h
  refine dX x0 (cI .i64) rfl (.n d rfl) Zs i3 q rfl (dR rfl (.n d rfl) ul3 rfl (dM rfl (.n d rfl) rfl (dM rfl (.n d rfl) rfl (dX x0 (cI .i64) rfl (.n d rfl) Zs i3 m rfl (dR rfl (.n d rfl) ul3 rfl (dI rfl (.n d rfl) rfl ?_))))))
  refine dY rfl (.n j rfl) d rfl (dZ rfl (.f rfl) j rfl (dF [0,0,3,7,15,31,63,63,255,511,63,2047,4095,8191,16383,32767,65535,131071,131071,393215,1048575,2097151,131071,131071,12713983,29491199,67108863,134217727,268435455] Q0 rfl (by kernel_rfl) (fun u hu => (tN (Qg hu ?_)))))
  rcases Qd h with ⟨p, h⟩ | ⟨p, h⟩
  refine Qp rfl p ?_
  refine Qg ?_ (Kj K h)
  exact tq rfl rfl
  refine Qo rfl p (T.skip (Qk (tN (Qs (mw rfl (oI rfl (aw rfl (nL (tN ?_)))))))))
  refine Qe ?_ (ih x0 x1 (wI (b + (1:Int))) flx0 h)
  exact tq rfl rfl
  refine dO d rfl rfl (dO d rfl rfl (dO d rfl rfl (dO d rfl rfl (dO d rfl rfl (dO d rfl rfl (dO d rfl rfl ?_))))))
  refine dO d rfl rfl (dO d rfl rfl (dO d rfl rfl (dZ rfl (.n j rfl) d rfl (dZ rfl (.f rfl) j rfl (dF [0,0,3,7,15,31,63,63,255,511,63,2047,4095,8191,16383,32767,65535,131071,131071,393215,1048575,2097151,131071,131071,12713983,29491199,67108863,134217727,268435455] Q0 rfl (by kernel_rfl) (fun u hu => (tN (Qg hu (Qo rfl rfl ?_)))))))))
  refine T.skip (Qk (tN (Qs (mw rfl (oI rfl (aw rfl (nL (tN ?_))))))))
  refine Qe ?_ (ih x0 x1 (wI (b + (1:Int))) flx0 h)
  exact tq rfl rfl
  refine Qo rfl l (T.exit (Ql (Ql (Qu (tN (sR (Qs (aw rfl (nL (tN (T.ret (fd rfl (by cases h; exact ⟨rfl, rfl⟩)))))))))))))
theorem Ou (K : Nat) {x0 : List Int} {x1 : Int} {flx0 r : Bool} (h : Wf K x0 x1 = some r) : Zm tp 75 [.sl flx0 1 (mI x0), .int .i64 x1] [] (.bool r) := by
 refine CI 41 fu75 rfl ?_
 unfold Wf at h
 refine sR (Qs (aw rfl (nL (tN (T.seq (sR (Qs (aw rfl (nL (tN ?_))))))))))
 refine T.block (T.loop ?_)
 refine Qe ?_ (Qbw K K x0 x1 (0:Int) flx0 h)
 exact tq rfl rfl
end Go.Rv

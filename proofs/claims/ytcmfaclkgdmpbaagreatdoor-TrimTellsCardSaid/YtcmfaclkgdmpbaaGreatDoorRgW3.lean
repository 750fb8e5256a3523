/- Each function computes what its plain text says: printed by a program of ours. -/
import Derived.Test.YtcmfaclkgdmpbaaGreatDoorRgW2
namespace Go.Rv
open Go.Proofs
set_option maxRecDepth 100000
set_option maxHeartbeats 4000000
set_option linter.unusedVariables false
abbrev trim_Blocks_q (r : List Int) : ES := Jm tp ff17 (fun y t => y = (.sl false 1 (mI r)) ∧ t = [.tab 0 Uj])
abbrev Qch (r : List Int) : ES := Qv 0 ((trim_Blocks_q r))
abbrev Qgq (r : List Int) : ES := fL 70 [1,1,1,1,0,0] ff17 (Qch r)
abbrev Qa8 (r : List Int) : ES := Qv 1 ((Qgq r))
abbrev T3 (r : List Int) : ES := fT 70 [1,1,1,1,0,0,0,1,1,1] ff17 (Qa8 r)
abbrev Ln (r : List Int) : ES := Qv 2 ((T3 r))
abbrev Rj (r : List Int) : ES := fL 70 [1,1,1,1,0,0,0,1,1,0,1,0,0] ff17 (Ln r)
abbrev Ig (r : List Int) : ES := fT 70 [1,1,1,1,0,0,0,1,1,0,1,0,0,1,1,1] ff17 (Rj r)
abbrev Jx (r : List Int) : ES := Qv 3 ((Ig r))
abbrev I3 (r : List Int) (go : Int → Qc → Int → Int → (List Int) → (List (ByteArray × Int)) → (List Int) → Option (List Int)) : Prop := ∀ (a : Int) (x0 : Qc) (b f : Int) (g : List Int) (i : List (ByteArray × Int)) (j : List Int) (l : Nat) (m : Value) (n : Nat) (p : Value), go a x0 b f g i j = some r → TL tp 70 (ca [1,1,1,1,0,0,0,1,1,0,1,0,0] ff17) ⟨[(1, .ptr l 0), (3, .c (.ex m)), (4, .int .i64 a), (5, .c (.ex (.map (some n)))), (6, .c (.ex p)), (24, .sl false 4 (x0.States.map Qb)), (25, .int .i64 b), (26, .int .i64 f)], [(Li l x0.Split.Of x0.Split.Many x0.Counts x0.States), .arrX m 3 1 0 (mI g), .map n (kvs kS kI i), .arrX p 3 1 0 (mI j), .tab 0 Uj]⟩ (Ln r)
theorem Qcj {r : List Int} (K : Nat) (go1 : Int → Qc → Int → Int → (List Int) → (List (ByteArray × Int)) → (List Int) → Option (List Int)) (hgo1 : I3 r go1) (p q : Int) (j : ByteArray) (x0 : Qc) (s u : Int) (v : List Int) (b : List (ByteArray × Int)) (m : List Int) (w : Nat) (y : Value) (aa : Nat) (ab : Value) (h : Kq K go1 p q j x0 s u v b m = some r) : T tp 70 (ca [1,1,1,1,0,0,0,1,1,0,1,0,0,1,1,0,0,1,1,1,1] ff17) ⟨[(1, .ptr w 0), (3, .c (.ex y)), (4, .int .i64 p), (5, .c (.ex (.map (some aa)))), (6, .c (.ex ab)), (7, .int .i64 q), (9, .str j), (24, .sl false 4 (x0.States.map Qb)), (25, .int .i64 s), (26, .int .i64 u)], [(Li w x0.Split.Of x0.Split.Many x0.Counts x0.States), .arrX y 3 1 0 (mI v), .map aa (kvs kS kI b), .arrX ab 3 1 0 (mI m), .tab 0 Uj]⟩ (Jx r) := by
 unfold Kq at h
 refine Qr ?_
 iterate 4 refine mw rfl ?_
 refine sp rfl (OpT.lookup (i := 2) (g := kS) (h := kI) (z := 0) (l := b) (a := j) rfl (dk rfl) KeyK.kS ul88 ul9 i3 (fun _ => rfl) rfl rfl rfl ?_)
 obtain ⟨ac, ad, h⟩ := bind_some h
 refine sp rfl (Zc (n := 3) (xs := m) (f := (cI .i64)) (old := ac) rfl (dk rfl) Zi i3 rfl rfl rfl ad (sp rfl (Yr (i := 3) (xs := m) (f := (cI .i64)) (old := ac) (new := ((b.lookup j).getD 0)) rfl rfl i3 rfl rfl rfl (Zd ad).2 (Qmm _) (nb rfl) rfl (nL (Qk (tN (Qr (oI rfl (mw rfl (nL (tN ?_)))))))))))
 refine Qf ?_ (hgo1 p x0 s (wI (u + (1:Int))) v b (List.set m (Int.toNat q) ((b.lookup j).getD 0)) w y aa ab h)
 exact tq rfl rfl
theorem Qck {r : List Int} (K : Nat) (go1 : Int → Qc → Int → Int → (List Int) → (List (ByteArray × Int)) → (List Int) → Option (List Int)) (hgo1 : I3 r go1) (j m : Int) (f : ByteArray) (x0 : Qc) (p q : Int) (s : List Int) (b : List (ByteArray × Int)) (u : List Int) (w : Nat) (y : Value) (aa : Nat) (ab : Value) (h : Kr K go1 j m f x0 p q s b u = some r) : T tp 70 (ca [1,1,1,1,0,0,0,1,1,0,1,0,0,1,1,0,0,1,1,1] ff17) ⟨[(1, .ptr w 0), (3, .c (.ex y)), (4, .int .i64 j), (5, .c (.ex (.map (some aa)))), (6, .c (.ex ab)), (7, .int .i64 m), (9, .str f), (24, .sl false 4 (x0.States.map Qb)), (25, .int .i64 p), (26, .int .i64 q)], [(Li w x0.Split.Of x0.Split.Many x0.Counts x0.States), .arrX y 3 1 0 (mI s), .map aa (kvs kS kI b), .arrX ab 3 1 0 (mI u), .tab 0 Uj]⟩ (Jx r) := by
 unfold Kr at h
 refine T.seq (sR (Qr (mw rfl (mw rfl (sp rfl (Qkb (i := 2) (g := kS) (h := kI) (z := 0) (l := b) (a := f) rfl (dk rfl) KeyK.kS ul88 ul9 i3 (fun _ => rfl) rfl rfl rfl (mw rfl (oE rfl ?_))))))))
 refine oE rfl (aw rfl (aw rfl (nL (tN (sR (Qr (mw rfl (oT rfl (nL (tN ?_))))))))))
 rcases Qg h with ⟨ac, h⟩ | ⟨ac, h⟩
 refine Qp rfl ac (Qr ?_)
 iterate 3 refine mw rfl ?_
 refine sp rfl (Qj1 (i := 2) (g := kS) (h := kI) (l := b) rfl (dk rfl) ul88 rfl rfl ?_)
 obtain ⟨ad, h⟩ := Q6 h
 refine sp rfl (OpT.mapPut (i := 2) (g := kS) (h := kI) (l := b) (a := f) (v := (b.length : Int)) rfl rfl KeyK.kS ul88 ul9 rfl rfl rfl rfl ad (nL (tN ?_)))
 refine Ql ?_ (Qcj K go1 hgo1 j m f x0 p q s (b ++ [(f, (b.length : Int))]) u w y aa ab h)
 exact tq rfl rfl
 refine Qo rfl ac (T.skip (tN ?_))
 refine Ql ?_ (Qcj K go1 hgo1 j m f x0 p q s b u w y aa ab h)
 exact tq rfl rfl
abbrev Qci (r : List Int) (go : Int → Qc → (List Int) → Option (List Int)) : Prop := ∀ (a : Int) (x0 : Qc) (b : List Int) (f : Nat) (g : Value), go a x0 b = some r → TL tp 70 (ca [1,1,1,1,0,0] ff17) ⟨[(1, .ptr f 0), (3, .c (.ex g)), (4, .int .i64 a)], [(Li f x0.Split.Of x0.Split.Many x0.Counts x0.States), .arrX g 3 1 0 (mI b), .tab 0 Uj]⟩ (Qch r)
theorem Qke {r : List Int} (K : Nat) (go0 : Int → Qc → (List Int) → Option (List Int)) (hgo0 : Qci r go0) : ∀ (k : Nat), I3 r (Vu K go0 k) := by
 intro k
 induction k with
 | zero =>
  intro af x0 ag m p w ac aa j ad ab h
  exact zn h
 | succ k ih =>
  intro af x0 ag m p w ac aa j ad ab h
  rw [Vu] at h
  refine Q0 (sR (Qr (oI rfl (nL (tN (T.seq ?_))))))
  rcases Qg h with ⟨aj, h⟩ | ⟨aj, h⟩
  refine Qp rfl aj (T.skip (tN (T.seq (T.block (sR (Qr (mw rfl ?_)))))))
  obtain ⟨b, aq, h⟩ := bind_some h
  refine oX x0.States Qb Vj i51 aq rfl (oJ V1 i51 rfl (sp rfl (Za rfl (dk rfl) i51 rfl (fun al => (aw rfl (sp rfl (Qt (i := 0) (cells' := [.d (.sl false 1 (mI b.L)), .d (.sl false 1 (mI b.R)), .d (.sl false 1 (mI b.Rule)), .d (.sl false 1 (b.Next.map (cL 2 Qh)))]) rfl rfl i51 rfl rfl rfl rfl (nb rfl) rfl (nL (tN (sR (Qr (aw rfl ?_))))))))))))
  refine nL (tN (T.seq (sR (Qr (mw rfl (oI rfl (nL (tN ?_))))))))
  rcases Qg h with ⟨am, h⟩ | ⟨am, h⟩
  refine Qp rfl am (Ur (gM rfl (fun _ => .f rfl) (fun _ => rfl) (gM rfl (fun _ => .f rfl) (fun _ => rfl) ?_)))
  obtain ⟨ai, ap, h⟩ := bind_some h
  refine dC (c := ⟨some 35, .el j 1 (Int.toNat m) 0, [(33, .c (.ex j)), (34, .int .i64 m)], [(2, .arrX j 3 1 0 (mI p))], []⟩) (fun t hm => oF rfl rfl (Zc (n := 2) (xs := p) (f := (cI .i64)) (old := ai) rfl (dk rfl) Zi i3 hm.s0 hm.o0 hm.s1 ap ⟨u0, rfl⟩)) (fun _ => rfl) (fun _ => rfl) (dC (c := ⟨some 36, .int .i64 ai, [(35, .el j 1 (Int.toNat m) 0)], [(2, .arrX j 3 1 0 (mI p))], []⟩) (fun t hm => oF rfl rfl (X1 (i := 2) (xs := p) (f := (cI .i64)) (old := ai) rfl (dk rfl) ul3 rfl hm.s0 hm.o0 (Zd ap).2 rfl ⟨u0, rfl⟩)) (fun _ => rfl) (fun _ => rfl) ?_)
  obtain ⟨q, au, h⟩ := bind_some h
  refine dC (c := ⟨some 37, .str q, [(36, .int .i64 ai)], [(5, .tab 0 Uj)], []⟩) (fun t hm => oF rfl rfl (Mz rfl (dk rfl) fu39 rfl rfl (Zm.cons hm.s0 Zm.nil) (.tab 5 hm.o0 (.nil)) (Sw K au) ⟨u0, rfl⟩)) (fun _ => rfl) (fun _ => rfl) ?_
  obtain ⟨av, h⟩ := Q6 h
  refine dC (c := ⟨some 38, .str (q ++ (⟨#[58]⟩ : ByteArray)), [(37, .str q)], [], []⟩) (fun t hm => oF rfl rfl (Qcb rfl (dk rfl) hm.s0 rfl av ⟨u0, rfl⟩)) (fun _ => rfl) (fun _ => rfl) (gW 0 [.sl false 1 (mI b.L), .sl false 1 (mI b.R), .sl false 1 (mI b.Rule), .sl false 1 (b.Next.map (cL 2 Qh))] rfl (fun _ => .f rfl) V1 i51 (fun _ => rfl) (gM rfl (fun _ => .f rfl) (fun _ => rfl) ?_))
  obtain ⟨y, ay, h⟩ := bind_some h
  refine dC (c := ⟨some 41, .str y, [(39, .agg [.sl false 1 (mI b.L), .sl false 1 (mI b.R), .sl false 1 (mI b.Rule), .sl false 1 (b.Next.map (cL 2 Qh))]), (40, .c (.ex j))], [(2, .arrX j 3 1 0 (mI p)), (5, .tab 0 Uj)], [(5, .tab 0 Uj), (2, .arrX j 3 1 0 (mI p))]⟩) (fun t hm => oF rfl rfl (Q9 (is := [5, 2]) (ph := []) rfl (dk rfl) fu40 rfl rfl (Zm.cons hm.s0 (Zm.cons hm.s1 Zm.nil)) (trim_sign_T K (wx1 := j) ay) (.cons hm.o1 rfl (.cons hm.o0 rfl (.nil))) (fun _ => rfl) (fun g => ⟨(g, 0), rfl⟩))) (fun _ => rfl) (fun _ => rfl) ?_
  obtain ⟨az, h⟩ := Q6 h
  refine dC (c := ⟨some 42, .str ((q ++ (⟨#[58]⟩ : ByteArray)) ++ y), [(38, .str (q ++ (⟨#[58]⟩ : ByteArray))), (41, .str y)], [], []⟩) (fun t hm => oF rfl rfl (Qcb rfl (dk rfl) hm.s0 hm.s1 az ⟨u0, rfl⟩)) (fun _ => rfl) (fun _ => rfl) (gA rfl (fun _ => .f rfl) (fun _ => rfl) (gF [0,0,3,7,15,31,0,0,223,511,1023] Qx rfl (by kernel_rfl) (fun _ => by kernel_rfl) (fun a u hu => (tN (Ql hu ?_)))))
  refine Ql ?_ (Qck K (Vu K go0 k) ih af m ((q ++ (⟨#[58]⟩ : ByteArray)) ++ y) x0 ag m p w ac aa j ad ab h)
  exact tr rfl (.c (.s .z) (.c (.s .z) (.c (.s .z) (.c (.s .z) (.c (.s .z) (.n _))))))
  refine Qo rfl am (T.skip (tN ?_))
  refine Ql ?_ (Qck K (Vu K go0 k) ih af m (⟨#[102, 105, 114, 115, 116]⟩ : ByteArray) x0 ag m p w ac aa j ad ab h)
  exact tr rfl (.c (.s .z) (.c (.s .z) (.c (.s .z) (.c (.s .z) (.c (.s .z) (.n _))))))
  refine Qo rfl aj (T.exit (Qj (Qj (Qq (tN (sR (Qr (mw rfl (aw rfl (nL (tN (T.seq ?_))))))))))))
  refine sR (Qr (mw rfl (sp rfl (Qj1 (i := 2) (g := kS) (h := kI) (l := w) rfl (dk rfl) ul88 rfl rfl (mw rfl (oI rfl (nL (tN ?_))))))))
  rcases Qg h with ⟨an, h⟩ | ⟨an, h⟩
  refine Qp rfl an (sR (Qr (mw rfl (aw rfl (nL (tN (T.ret (Qs (Qy (Qs (Qy (Yw (Uf 3 rfl) ?_))))))))))))
  refine Yw (Zr.view 2 3 rfl rfl) (Q7 (.cons _ _ _ _ (.tmp 2 _ rfl) .nil) (.cons 4 rfl (.nil _)) (by cases h; exact ⟨rfl, rfl⟩))
  refine Qo rfl an (T.skip (tN (Qr (mw rfl (sp rfl (Qj1 (i := 2) (g := kS) (h := kI) (l := w) rfl (dk rfl) ul88 rfl rfl (aw rfl (nL (Qk (tN ?_))))))))))
  refine Qf ?_ (hgo0 (w.length : Int) x0 ac aa ab h)
  exact tr rfl (.c .z (.c (.s (.s .z)) (.c (.s (.s .z)) (.n _))))
theorem Qkf {r : List Int} (K : Nat) : ∀ (k : Nat), Qci r (Wj K k) := by
 intro k
 induction k with
 | zero =>
  intro b x0 a d g h
  exact zn h
 | succ k ih =>
  intro b x0 a d g h
  rw [Wj] at h
  refine Q0 (T.block (sR (Qr (sp rfl (OpT.makeMap rfl (dk rfl) (fun j => (aw rfl (nL (tN (sR (Qr (mw rfl ?_))))))))))))
  refine sp rfl (Vz (i := 2) (xs := a) (f := (cI .i64)) rfl (dk rfl) Zi rfl rfl ?_)
  obtain ⟨l, h⟩ := Q6 h
  obtain ⟨m, h⟩ := Q6 h
  refine sp rfl (Vy (f := (cI .i64)) (zv := ((0:Int) : Int)) rfl (dk rfl) Zi i3 (by decide) rfl rfl rfl rfl rfl l m (fun p => (aw rfl (nL (tN (T.seq (sR (Qr (oP Xz i26 rfl (oL 2 Vj rfl ?_))))))))))
  refine oU x0.States Qb Vj rfl (mw rfl (nL (tN (T.block (T.loop ?_)))))
  refine Qf ?_ (Qke K (Wj K k) ih K b x0 (x0.States.length : Int) (0:Int) a [] (List.replicate (Int.toNat (a.length : Int)) ((0:Int) : Int)) d g j p h)
  exact tr rfl (.c (.s (.s .z)) (.c (.s (.s .z)) (.c (.s .z) (.c .z (.c .z (.n _))))))
theorem Qie (K : Nat) {x0 : Qc} {r : List Int} (h : Lt K x0 = some r) : Zh tp 17 [.agg ((Q5.dc 256 .u8 x0.Split.Of) ++ (([.int .i64 x0.Split.Many, .sl false 2 (mA x0.Counts), .sl false 4 (x0.States.map Qb)] : List DC)))] [.tab 0 Uj] (.sl false 1 (mI r)) := by
 refine CI 70 fu17 rfl ?_
 unfold Lt at h
 refine sR (Qr (sp rfl (Q8 rfl (dk rfl) rfl (fun b => (aw rfl (nL (tN (T.seq (sR (Qr (oA 0 ((Q5.dc 256 .u8 x0.Split.Of) ++ (([.int .i64 x0.Split.Many, .sl false 2 (mA x0.Counts), .sl false 4 (x0.States.map Qb)] : List DC))) Xz i28 rfl ?_)))))))))))
 obtain ⟨p, d, h⟩ := bind_some h
 refine oH fu24 (Zh.nil (Qfb K d)) rfl (oT rfl (nL (tN ?_)))
 rcases Qg h with ⟨a, h⟩ | ⟨a, h⟩
 refine Qp rfl a (sR (Qr (aw rfl (nL (tN (T.ret (Qs (Yw (F3 2 false 1 rfl) (Q7 (.cons _ _ _ _ (.tmp 2 _ rfl) .nil) (.cons 1 rfl (.nil _)) (by cases h; exact ⟨rfl, rfl⟩))))))))))
 refine Qo rfl a (T.skip (tN (sR (Qr (oP Xz i26 rfl (oL 0 Vj rfl (oU x0.States Qb Vj rfl ?_)))))))
 obtain ⟨g, h⟩ := Q6 h
 obtain ⟨j, h⟩ := Q6 h
 refine sp rfl (Vy (f := (cI .i64)) (zv := ((0:Int) : Int)) rfl (dk rfl) Zi i3 (by decide) rfl rfl rfl rfl rfl g j (fun m => (aw rfl (nL (tN (sR (Qr (aw rfl (nL (tN (T.block (T.loop ?_))))))))))))
 refine Qf ?_ (Qkf K K (0:Int) x0 (List.replicate (Int.toNat (x0.States.length : Int)) ((0:Int) : Int)) b m h)
 exact tr rfl (.c (.s .z) (.c .z (.c .z (.n _))))
abbrev Qcx (bx0 : Nat) (r : Qe) : ES := Jm tp Qia (fun y t => ∃ γ : Nat → Value, y = (.tup []) ∧ t = [(Co bx0 r.Auto.Split.Of r.Auto.Split.Many r.Auto.Counts r.Auto.States)])
abbrev So (bx0 : Nat) (r : Qe) : ES := fT 102 [1,1] Qia (Qcx bx0 r)
abbrev Mh (bx0 : Nat) (r : Qe) : ES := Qv 0 ((So bx0 r))
abbrev O3 (bx0 : Nat) (r : Qe) : ES := fL 102 [1,0,1,0,0] Qia (Mh bx0 r)
abbrev Fe (bx0 : Nat) (r : Qe) : ES := fT 102 [1,0,1,0,0,1,1,1] Qia (O3 bx0 r)
abbrev Cv (bx0 : Nat) (r : Qe) : ES := Qv 1 ((Fe bx0 r))
abbrev Cu (bx0 : Nat) (r : Qe) : ES := fT 102 [1,0,1,0,0,1,1,0,0,1,1,1] Qia (Cv bx0 r)
abbrev U9 (bx0 : Nat) (r : Qe) : ES := Qv 2 ((Cu bx0 r))
abbrev Bw (bx0 : Nat) (r : Qe) : ES := fL 102 [1,0,1,0,0,1,1,0,0,1,1,0,1,0,0] Qia (U9 bx0 r)
abbrev Ku (bx0 : Nat) (r : Qe) : ES := fT 102 [1,0,1,0,0,1,1,0,0,1,1,0,1,0,0,1,1,1] Qia (Bw bx0 r)
abbrev Ha (bx0 : Nat) (r : Qe) : ES := Qv 3 ((Ku bx0 r))
abbrev X2 (bx0 : Nat) (r : Qe) : ES := Qv 4 ((Ha bx0 r))
abbrev Gl (bx0 : Nat) (r : Qe) : ES := fL 102 [1,0,1,0,0,1,1,0,0,1,1,0,1,0,0,1,1,0,0,1,1,0,0] Qia (X2 bx0 r)
abbrev W9 (bx0 : Nat) (r : Qe) : ES := fT 102 [1,0,1,0,0,1,1,0,0,1,1,0,1,0,0,1,1,0,0,1,1,0,0,1,1,1] Qia (Gl bx0 r)
abbrev Y0 (bx0 : Nat) (r : Qe) : ES := Qv 5 ((W9 bx0 r))
abbrev Wg (bx0 : Nat) (r : Qe) : ES := fT 102 [1,0,1,0,0,1,1,0,0,1,1,0,1,0,0,1,1,0,0,1,1,0,0,1,1,0,0,1,1,1] Qia (Y0 bx0 r)
abbrev Hw (bx0 : Nat) (r : Qe) (go : (List Int) → Int → Int → Qe → Int → Int → (List (List Qd)) → Int → Int → (List Qd) → Int → Int → (List Qa) → (List Int) → (List Int) → (List Int) → (List (List Qd)) → (List (List Qd)) → Option Qe) : Prop := ∀ (x1 : List Int) (a b : Int) (x0 : Qe) (f g : Int) (i : List (List Qd)) (j l : Int) (m : List Qd) (n p : Int) (q : List Qa) (s u v : List Int) (w y : List (List Qd)) (flx1 : Bool) (z : Value) (aa : Nat) (ab : Value), go x1 a b x0 f g i j l m n p q s u v w y = some r → TL tp 102 (ca [1,0,1,0,0,1,1,0,0,1,1,0,1,0,0,1,1,0,0,1,1,0,0] Qia) ⟨[(0, .ptr bx0 0), (1, .sl flx1 1 (mI x1)), (4, .c (.ex z)), (5, .int .i64 a), (6, .ptr aa 0), (7, .c (.ex ab)), (8, .int .i64 b), (24, .sl false 4 (x0.Auto.States.map Qb)), (25, .int .i64 f), (26, .int .i64 g), (36, .sl false 1 (i.map (cL 2 Qh))), (37, .int .i64 j), (38, .int .i64 l), (43, .sl false 2 (m.map Qh)), (44, .int .i64 n), (45, .int .i64 p)], [(Co bx0 x0.Auto.Split.Of x0.Auto.Split.Many x0.Auto.Counts x0.Auto.States), .arrX z 51 4 0 (q.map Qb), (W0 aa s u v w), .arrG ab 55 (gc 54 2 Qh y)]⟩ (X2 bx0 r)
theorem B6 {r : Qe} (K bx0 : Nat) (go2 : (List Int) → Int → Int → Qe → Int → Int → (List (List Qd)) → Int → Int → (List Qd) → Int → Int → (List Qa) → (List Int) → (List Int) → (List Int) → (List (List Qd)) → (List (List Qd)) → Option Qe) (hgo2 : Hw bx0 r go2) (x1 : List Int) (ac g : Int) (x0 : Qe) (ad af : Int) (ag : List (List Qd)) (ai aj : Int) (al : List Qd) (am an : Int) (ap : List Qa) (aq au av : List Int) (ay p : List (List Qd)) (j : Int) (m : List Int) (flx1 : Bool) (v : Value) (aa : Nat) (b : Value) (ab : Nat) (h : Ve K go2 x1 ac g x0 ad af ag ai aj al am an ap aq au av ay p j m = some r) : T tp 102 (ca [1,0,1,0,0,1,1,0,0,1,1,0,1,0,0,1,1,0,0,1,1,0,0,1,1,0,0,1,1,1] Qia) ⟨[(0, .ptr bx0 0), (1, .sl flx1 1 (mI x1)), (4, .c (.ex v)), (5, .int .i64 ac), (6, .ptr aa 0), (7, .c (.ex b)), (8, .int .i64 g), (12, .ptr ab 0), (24, .sl false 4 (x0.Auto.States.map Qb)), (25, .int .i64 ad), (26, .int .i64 af), (36, .sl false 1 (ag.map (cL 2 Qh))), (37, .int .i64 ai), (38, .int .i64 aj), (43, .sl false 2 (al.map Qh)), (44, .int .i64 am), (45, .int .i64 an)], [(Co bx0 x0.Auto.Split.Of x0.Auto.Split.Many x0.Auto.Counts x0.Auto.States), .arrX v 51 4 0 (ap.map Qb), (W0 aa aq au av ay), .arrG b 55 (gc 54 2 Qh p), (b54x6 ab j m)]⟩ (Y0 bx0 r) := by
 unfold Ve at h
 refine Ql Zu (Ql Zu (Ur (gM rfl (fun _ => .f rfl) (fun _ => rfl) (gM rfl (fun _ => .f rfl) (fun _ => rfl) (gM rfl (fun _ => .f rfl) (fun _ => rfl) (gM rfl (fun _ => .f rfl) (fun _ => rfl) ?_))))))
 obtain ⟨q, az, h⟩ := bind_some h
 refine dC (c := ⟨some 74, .el b 1 (Int.toNat g) 0, [(72, .c (.ex b)), (73, .int .i64 g)], [(5, .arrG b 55 (gc 54 2 Qh p))], []⟩) (fun t hm => oF rfl rfl (Qcc (n := 5) (l := p) (y := q) rfl (dk rfl) Lk i55 hm.s0 hm.o0 hm.s1 az ⟨u0, rfl⟩)) (fun _ => rfl) (fun _ => rfl) (DGG.step (c := fun a => ⟨some 75, .c (.ex ((a 5).1 0)), [(74, .el b 1 (Int.toNat g) 0)], [(5, .arrG b 55 (gc 54 2 Qh p)), (0, .ro 0 [])], [(5, .arrG b 55 (gh 54 2 Qh p (Int.toNat g) ((a 5).1 0))), (0, .arrA ((a 5).1 0) 54 2 (q.map Qh))]⟩) [5] (fun a γ' h => by simp only [h 5 (by decide)]) (fun a t hm => oF rfl rfl (Qj0 (i := 5) (kk := 0) (l := p) (y := q) rfl (dk rfl) Ma rfl hm.s0 hm.o0 (Zd az).2 hm.o1 (fun w => ⟨(fun _ => w, 0), rfl⟩))) (fun a => Zg rfl rfl) (gW 6 [.int .i64 j, .sl false 1 (mU m)] rfl (fun _ => .f rfl) Lj i54 (fun _ => rfl) (dC (c := ⟨some 77, .sl true 2 ([(Qd.mk j m)].map Qh), [(76, .agg [.int .i64 j, .sl false 1 (mU m)])], [], []⟩) (fun t hm => oF rfl rfl (OpT.buildSlice (elems := ([(Qd.mk j m)] : List Qd).map Qh) rfl (dk rfl) Ma i54 (by decide) rfl (Hs rfl) (Z8 hm.s0 rfl Vx) rfl rfl (Xh rfl) (by decide) ⟨u0, rfl⟩)) (fun _ => rfl) (fun _ => rfl) ?_)))
 obtain ⟨a0, h⟩ := Q6 h
 refine DGG.step (c := fun a => ⟨some 78, .c (.ex ((a 8).1 0)), [(77, .sl true 2 ([(Qd.mk j m)].map Qh)), (75, .c (.ex ((a 5).1 0)))], [(0, .arrA ((a 5).1 0) 54 2 (q.map Qh))], [(0, .arrA ((a 8).1 0) 54 2 ((q ++ [(Qd.mk j m)]).map Qh))]⟩) [5, 8] (fun a γ' h => by simp only [h 5 (by decide), h 8 (by decide)]) (fun a t hm => oF rfl rfl (Zp (i := 0) (xs := q) (ys := [(Qd.mk j m)]) (f := Qh) rfl (dk rfl) Ma i54 rfl hm.s1 hm.o0 hm.s0 a0 (fun w => ⟨(fun _ => w, 0), rfl⟩))) (fun a => Zg rfl rfl) (DGG.step (c := fun a => ⟨some 79, .el b 1 (Int.toNat g) 0, [(70, .c (.ex b)), (71, .int .i64 g)], [(5, .arrG b 55 (gh 54 2 Qh p (Int.toNat g) ((a 5).1 0)))], []⟩) [5] (fun a γ' h => by simp only [h 5 (by decide)]) (fun a t hm => oF rfl rfl (Qh7 (n := 5) (l := p) (y := q) rfl (dk rfl) Lk i55 hm.s0 hm.o0 hm.s1 az ⟨u0, rfl⟩)) (fun a => Zg rfl rfl) (DGG.step (c := fun a => ⟨none, .any, [(79, .el b 1 (Int.toNat g) 0), (78, .c (.ex ((a 8).1 0)))], [(5, .arrG b 55 (gh 54 2 Qh p (Int.toNat g) ((a 5).1 0))), (0, .arrA ((a 8).1 0) 54 2 ((q ++ [(Qd.mk j m)]).map Qh))], [(5, .arrG b 55 (gc 54 2 Qh (List.set p (Int.toNat g) (q ++ [(Qd.mk j m)])))), (0, .ro 0 [])]⟩) [5, 8] (fun a γ' h => by simp only [h 5 (by decide), h 8 (by decide)]) (fun a t hm => oF rfl rfl (Qh6 (i := 5) (kk := 0) (l := p) (old := q) (y' := (q ++ [(Qd.mk j m)])) rfl rfl i55 hm.s0 hm.s1 hm.o0 (Zd az).2 hm.o1 ⟨u0, rfl⟩)) (fun a => Zg rfl rfl) (gF [0,0,0,0,12,28,0,64,252,511,1023] Qx rfl (by kernel_rfl) (fun _ => by kernel_rfl) (fun a u hu => (Qk (tN (Ql hu (Qr (oI rfl (mw rfl ?_))))))))))
 refine nL (tN ?_)
 refine Qf ?_ (hgo2 x1 ac g x0 ad af ag ai aj al am (wI (an + (1:Int))) ap aq au av ay (List.set p (Int.toNat g) (q ++ [(Qd.mk j m)])) flx1 v aa b h)
 exact tr rfl (.c (.s (.s .z)) (.c (.s (.s .z)) (.c (.s (.s .z)) (.c (.s (.s .z)) (.n _)))))
theorem B5 {r : Qe} (K bx0 : Nat) (go2 : (List Int) → Int → Int → Qe → Int → Int → (List (List Qd)) → Int → Int → (List Qd) → Int → Int → (List Qa) → (List Int) → (List Int) → (List Int) → (List (List Qd)) → (List (List Qd)) → Option Qe) (hgo2 : Hw bx0 r go2) (x1 : List Int) (a b : Int) (x0 : Qe) (f g : Int) (i : List (List Qd)) (j l : Int) (m : List Qd) (p q : Int) (s : List Qa) (u v w : List Int) (y aa : List (List Qd)) (flx1 : Bool) (ab : Value) (ac : Nat) (ad : Value) (af : Nat) (h : Vd K go2 x1 a b x0 f g i j l m p q s u v w y aa = some r) : T tp 102 (ca [1,0,1,0,0,1,1,0,0,1,1,0,1,0,0,1,1,0,0,1,1,0,0,1,1,0,0,1,1,0,1,1] Qia) ⟨[(0, .ptr bx0 0), (1, .sl flx1 1 (mI x1)), (4, .c (.ex ab)), (5, .int .i64 a), (6, .ptr ac 0), (7, .c (.ex ad)), (8, .int .i64 b), (12, .ptr af 0), (24, .sl false 4 (x0.Auto.States.map Qb)), (25, .int .i64 f), (26, .int .i64 g), (36, .sl false 1 (i.map (cL 2 Qh))), (37, .int .i64 j), (38, .int .i64 l), (43, .sl false 2 (m.map Qh)), (44, .int .i64 p), (45, .int .i64 q)], [(Co bx0 x0.Auto.Split.Of x0.Auto.Split.Many x0.Auto.Counts x0.Auto.States), .arrX ab 51 4 0 (s.map Qb), (W0 ac u v w y), .arrG ad 55 (gc 54 2 Qh aa), (b54x6 af (-1:Int) ([] : List Int))]⟩ (Wg bx0 r) := by
 unfold Vd at h
 refine T.skip (tN ?_)
 refine Ql ?_ (B6 K bx0 go2 hgo2 x1 a b x0 f g i j l m p q s u v w y aa (-1:Int) [] flx1 ab ac ad af h)
 exact tq rfl rfl
abbrev B3 (bx0 : Nat) (r : Qe) (go : (List Int) → Int → Qe → Int → Int → (List (List Qd)) → Int → Int → (List Qa) → (List Int) → (List Int) → (List Int) → (List (List Qd)) → (List (List Qd)) → Option Qe) : Prop := ∀ (x1 : List Int) (a : Int) (x0 : Qe) (b f : Int) (g : List (List Qd)) (i j : Int) (l : List Qa) (m n p : List Int) (q s : List (List Qd)) (flx1 : Bool) (u : Value) (v : Nat) (w : Value), go x1 a x0 b f g i j l m n p q s = some r → TL tp 102 (ca [1,0,1,0,0,1,1,0,0,1,1,0,1,0,0] Qia) ⟨[(0, .ptr bx0 0), (1, .sl flx1 1 (mI x1)), (4, .c (.ex u)), (5, .int .i64 a), (6, .ptr v 0), (7, .c (.ex w)), (24, .sl false 4 (x0.Auto.States.map Qb)), (25, .int .i64 b), (26, .int .i64 f), (36, .sl false 1 (g.map (cL 2 Qh))), (37, .int .i64 i), (38, .int .i64 j)], [(Co bx0 x0.Auto.Split.Of x0.Auto.Split.Many x0.Auto.Counts x0.Auto.States), .arrX u 51 4 0 (l.map Qb), (W0 v m n p q), .arrG w 55 (gc 54 2 Qh s)]⟩ (U9 bx0 r)
theorem Sp {r : Qe} (K bx0 : Nat) (go1 : (List Int) → Int → Qe → Int → Int → (List (List Qd)) → Int → Int → (List Qa) → (List Int) → (List Int) → (List Int) → (List (List Qd)) → (List (List Qd)) → Option Qe) (hgo1 : B3 bx0 r go1) : ∀ (k : Nat), Hw bx0 r (Zo K go1 k) := by
 intro k
 induction k with
 | zero =>
  intro x1 aa au x0 ab ac ad af ag ai av ay aj al am an ap aq flx1 q w y h
  exact zn h
 | succ k ih =>
  intro x1 aa au x0 ab ac ad af ag ai av ay aj al am an ap aq flx1 q w y h
  rw [Zo] at h
  refine Q0 (sR (Qr (oI rfl (nL (tN (T.seq ?_))))))
  rcases Qg h with ⟨az, h⟩ | ⟨az, h⟩
  refine Qp rfl az (T.skip (tN (T.seq (T.block (sR (Qr ?_))))))
  obtain ⟨g, a2, h⟩ := bind_some h
  refine oX ai Qh Ma i54 a2 rfl (oJ Lj i54 rfl (sp rfl (Za rfl (dk rfl) i54 rfl (fun j => (sp rfl (Qt (i := 0) (cells' := [.d (.int .i64 g.To), .d (.sl false 1 (mU g.Ops))]) rfl rfl i54 rfl rfl rfl rfl (nb rfl) rfl (nL (tN (sR (Qr (sp rfl (Zj (OpT.build (l := [.int .i64 (-1:Int), .ex (.slice none 0 0)]) rfl (dk rfl) (Zk (pl := [(0, 1), (1, 1)]) Lj i54 rfl) (Hs rfl) rfl rfl rfl) (Zt 49 (l := [.int .i64 (-1:Int), .ex (.slice none 0 0)]) (l' := [.int .i64 (-1:Int), .sl false 1 (([] : List Int).map (cI .u8))]) (.cons (.same _) (.cons (.nil _ _) (.refl _)))) (sp rfl (Za rfl (dk rfl) i54 rfl (fun p => ?_)))))))))))))))
  refine sp rfl (Qt (i := 0) (cells' := [.d (.int .i64 (-1:Int)), .d (.sl false 1 (([] : List Int).map (cI .u8)))]) rfl rfl i54 rfl rfl rfl rfl (nb rfl) rfl (nL (tN (T.seq (sR (Qr (oP Lj i3 rfl (oL 1 ul3 rfl (oI rfl ?_)))))))))
  refine mw rfl ?_
  rcases Qg h with ⟨b, h⟩ | ⟨b, h⟩
  refine sn rfl b (OpT.move rfl (dk rfl) rfl (sn rfl b (Y1 rfl (dk rfl) Lj rfl i3 (by decide) rfl (sn rfl b (Zx (i := 1) rfl (dk rfl) ul3 rfl rfl rfl rfl ?_)))))
  obtain ⟨a, a1, h⟩ := bind_some h
  refine sn rfl b (Hu (xs := x1) (f := (cI .i64)) (v := a) rfl (dk rfl) Zi i3 rfl rfl a1 (sn rfl b (Kc rfl (dk rfl) ul3 rfl rfl rfl (sn rfl b (Zs rfl rfl (dk rfl) rfl rfl (oY b rfl (nL (tN ?_))))))))
  rcases Qg h with ⟨a0, h⟩ | ⟨a0, h⟩
  refine Qp rfl a0 (Zy (dV rfl rfl (dP rfl (.f rfl) Lj i3 rfl (dL 1 rfl (.f rfl) ul3 rfl (dX x1 (cI .i64) rfl (.f rfl) Zi i3 a1 rfl (dR rfl (.f rfl) ul3 rfl ?_))))))
  refine dP rfl (.f rfl) Lj i52 rfl (dL 1 rfl (.f rfl) B2 rfl ?_)
  obtain ⟨m, a3, h⟩ := bind_some h
  refine dH fu94 (Zh.nil (N1 K (flx0 := false) a3)) rfl (.f rfl) rfl (dS (c := ⟨some 69, .agg [.int .i64 a, .sl false 1 (mU m)], [(65, .int .i64 a), (68, .sl false 1 (mU m))], [], []⟩) (fun t hm => oF rfl rfl (OpT.build (l := [.int .i64 a, .sl false 1 (mU m)]) rfl (dk rfl) (Zk (pl := [(0, 1), (1, 1)]) Lj i54 rfl) (Hs rfl) (Z8 hm.s0 rfl (Z8 hm.s1 rfl Vx)) rfl rfl)) rfl rfl (dS (c := ⟨none, .any, [(12, .ptr p 0), (69, .agg [.int .i64 a, .sl false 1 (mU m)])], [(0, (b54x6 p (-1:Int) ([] : List Int)))], [(0, (b54x6 p a m))]⟩) (fun t hm => oF rfl rfl (Qt (i := 0) (cells' := [.d (.int .i64 a), .d (.sl false 1 (mU m))]) rfl rfl i54 hm.s0 hm.s1 rfl hm.o0 (nb rfl) rfl rfl)) rfl rfl (dF [0,0,2,7,15,0,32,96,255,511] Qx rfl (by kernel_rfl) (fun u hu => (tN (Ql hu ?_))))))
  refine Ql ?_ (B6 K bx0 (Zo K go1 k) ih x1 aa au x0 ab ac ad af ag ai av ay aj al am an ap aq a m flx1 q w y p h)
  exact tr rfl (.c (.s (.s .z)) (.c (.s (.s .z)) (.c (.s (.s .z)) (.c (.s (.s .z)) (.c .z (.n _))))))
  refine Qo rfl a0 ?_
  refine Ql ?_ (B5 K bx0 (Zo K go1 k) ih x1 aa au x0 ab ac ad af ag ai av ay aj al am an ap aq flx1 q w y p h)
  exact tr rfl (.c (.s (.s .z)) (.c (.s (.s .z)) (.c (.s (.s .z)) (.c (.s (.s .z)) (.c .z (.n _))))))
  refine pf rfl b (pf rfl b (pf rfl b (pf rfl b (pf rfl b (pf rfl b (oZ b rfl ?_))))))
  refine nL (tN (Qo rfl rfl ?_))
  refine Ql ?_ (B5 K bx0 (Zo K go1 k) ih x1 aa au x0 ab ac ad af ag ai av ay aj al am an ap aq flx1 q w y p h)
  exact tr rfl (.c (.s (.s .z)) (.c (.s (.s .z)) (.c (.s (.s .z)) (.c (.s (.s .z)) (.c .z (.n _))))))
  refine Qo rfl az (T.exit (Qj (Qj (Qq (Qk (tN (Qr (oI rfl (mw rfl (nL (tN ?_)))))))))))
  refine Qf ?_ (hgo1 x1 aa x0 ab ac ad af (wI (ag + (1:Int))) aj al am an ap aq flx1 q w y h)
  exact tq rfl rfl
abbrev B4 (bx0 : Nat) (r : Qe) (go : (List Int) → Qe → Int → Int → (List Qa) → Option Qe) : Prop := ∀ (x1 : List Int) (x0 : Qe) (a b : Int) (f : List Qa) (flx1 : Bool) (g : Value), go x1 x0 a b f = some r → TL tp 102 (ca [1,0,1,0,0] Qia) ⟨[(0, .ptr bx0 0), (1, .sl flx1 1 (mI x1)), (4, .c (.ex g)), (24, .sl false 4 (x0.Auto.States.map Qb)), (25, .int .i64 a), (26, .int .i64 b)], [(Co bx0 x0.Auto.Split.Of x0.Auto.Split.Many x0.Auto.Counts x0.Auto.States), .arrX g 51 4 0 (f.map Qb)]⟩ (Mh bx0 r)
theorem Sq {r : Qe} (K bx0 : Nat) (go0 : (List Int) → Qe → Int → Int → (List Qa) → Option Qe) (hgo0 : B4 bx0 r go0) : ∀ (k : Nat), B3 bx0 r (Yg K go0 k) := by
 intro k
 induction k with
 | zero =>
  intro x1 s x0 ac ad ag am ai j w y aa ab b flx1 g a aj h
  exact zn h
 | succ k ih =>
  intro x1 s x0 ac ad ag am ai j w y aa ab b flx1 g a aj h
  rw [Yg] at h
  refine Q0 (sR (Qr (oI rfl (nL (tN (T.seq ?_))))))
  rcases Qg h with ⟨al, h⟩ | ⟨al, h⟩
  refine Qp rfl al (T.skip (tN (T.seq (T.block (sR (Qr (mw rfl ?_)))))))
  obtain ⟨af, aq, h⟩ := bind_some h
  refine oX ag (cL 2 Qh) Lk i55 aq rfl (oR Ma rfl (aw rfl (aw rfl (nL (tN (sR (Qr (mw rfl (oU af Qh Ma rfl ?_)))))))))
  refine mw rfl (nL (tN (T.block (T.loop ?_))))
  refine Qf ?_ (Sp K bx0 (Yg K go0 k) ih K x1 s ai x0 ac ad ag am ai af (af.length : Int) (0:Int) j w y aa ab b flx1 g a aj h)
  exact tq rfl rfl
  refine Qo rfl al (T.exit (Qj (Qj (Qq (tN (Ql (Zr.dataG (l := b) 3 rfl) (Ql (Uf 3 rfl) (Ql (Zr.view 7 3 rfl rfl) (Zy (dV rfl rfl ?_))))))))))
  refine dV rfl rfl (dP rfl (.f rfl) V1 i38 rfl (dL 2 rfl (.f rfl) Zi rfl ?_))
  obtain ⟨m, au, h⟩ := bind_some h
  refine dH fu95 (Zh.nil (Jz K (flx0 := false) au)) rfl (.f rfl) rfl (dP rfl (.f rfl) V1 i38 rfl (dL 2 rfl (.f rfl) Zi rfl ?_))
  obtain ⟨p, av, h⟩ := bind_some h
  refine dH fu95 (Zh.nil (Jz K (flx0 := false) av)) rfl (.f rfl) rfl (dP rfl (.f rfl) V1 i38 rfl (dL 2 rfl (.f rfl) Zi rfl ?_))
  obtain ⟨q, ay, h⟩ := bind_some h
  refine dH fu95 (Zh.nil (Jz K (flx0 := false) ay)) rfl (.f rfl) rfl (dV rfl rfl (dS (c := ⟨some 94, .agg [.sl false 1 (mI m), .sl false 1 (mI p), .sl false 1 (mI q), .sl false 1 (b.map (cL 2 Qh))], [(86, .sl false 1 (mI m)), (89, .sl false 1 (mI p)), (92, .sl false 1 (mI q)), (93, .sl false 1 (b.map (cL 2 Qh)))], [], []⟩) (fun t hm => oF rfl rfl (OpT.build (l := [.sl false 1 (mI m), .sl false 1 (mI p), .sl false 1 (mI q), .sl false 1 (b.map (cL 2 Qh))]) rfl (dk rfl) (Zk (pl := [(0, 1), (1, 1), (2, 1), (3, 1)]) V1 i51 rfl) (Hs rfl) (Z8 hm.s0 rfl (Z8 hm.s1 rfl (Z8 hm.s2 rfl (Z8 hm.s3 rfl Vx)))) rfl rfl)) rfl rfl ?_))
  obtain ⟨an, ap, h⟩ := bind_some h
  refine dS (c := ⟨some 95, .el g 4 (Int.toNat s) 0, [(82, .c (.ex g)), (83, .int .i64 s)], [(1, .arrX g 51 4 0 (j.map Qb))], []⟩) (fun t hm => oF rfl rfl (Zc (n := 1) (xs := j) (f := Qb) (old := an) rfl (dk rfl) Vj i51 hm.s0 hm.o0 hm.s1 ap rfl)) rfl rfl (dS (c := ⟨none, .any, [(95, .el g 4 (Int.toNat s) 0), (94, .agg [.sl false 1 (mI m), .sl false 1 (mI p), .sl false 1 (mI q), .sl false 1 (b.map (cL 2 Qh))])], [(1, .arrX g 51 4 0 (j.map Qb))], [(1, .arrX g 51 4 0 ((List.set j (Int.toNat s) (Qa.mk m p q b)).map Qb))]⟩) (fun t hm => oF rfl rfl (Qgc (i := 1) (xs := j) (f := Qb) (old := an) (new := (Qa.mk m p q b)) rfl rfl i51 hm.s0 hm.s1 rfl hm.o0 (Zd ap).2 (Qmm _) (nb rfl) rfl rfl)) rfl rfl (dF [0,0,0,4,12,0,32,124,0,256,1020,0,4092,8191,16383] Qx rfl (by kernel_rfl) (fun u hu => (Qk (tN (Ql hu (Qr (oI rfl (mw rfl (nL (tN ?_)))))))))))
  refine Qf ?_ (hgo0 x1 x0 ac (wI (ad + (1:Int))) (List.set j (Int.toNat s) (Qa.mk m p q b)) flx1 g h)
  exact tq rfl rfl
theorem Sr {r : Qe} (K bx0 : Nat) : ∀ (k : Nat), B4 bx0 r (Yh K k) := by
 intro k
 induction k with
 | zero =>
  intro x1 x0 p g j flx1 b h
  exact zn h
 | succ k ih =>
  intro x1 x0 p g j flx1 b h
  rw [Yh] at h
  refine Q0 (sR (Qr (oI rfl (nL (tN (T.seq ?_))))))
  rcases Qg h with ⟨m, h⟩ | ⟨m, h⟩
  refine Qp rfl m (T.skip (tN (T.seq (T.block (sR (Qr (mw rfl ?_)))))))
  obtain ⟨a, q, h⟩ := bind_some h
  refine oX x0.Auto.States Qb Vj i51 q rfl (oJ V1 i51 rfl (sp rfl (Za rfl (dk rfl) i51 rfl (fun u => (aw rfl (sp rfl (Qt (i := 0) (cells' := [.d (.sl false 1 (mI a.L)), .d (.sl false 1 (mI a.R)), .d (.sl false 1 (mI a.Rule)), .d (.sl false 1 (a.Next.map (cL 2 Qh)))]) rfl rfl i51 rfl rfl rfl rfl (nb rfl) rfl (nL (tN (sR (Qr (oP V1 i49 rfl ?_))))))))))))
  refine oL 0 Lk rfl (oU a.Next (cL 2 Qh) Lk rfl ?_)
  obtain ⟨w, h⟩ := Q6 h
  obtain ⟨y, h⟩ := Q6 h
  refine sp rfl (Tx (e1 := 54) (esz := 2) (f := Qh) rfl (dk rfl) Lk i55 rfl rfl w y (fun aa => (aw rfl (nL (tN (T.seq (sR (Qr (oP V1 i49 rfl (oL 1 Lk rfl ?_))))))))))
  refine oU a.Next (cL 2 Qh) Lk rfl (mw rfl (nL (tN (T.block (T.loop ?_)))))
  refine Qf ?_ (Sq K bx0 (Yh K k) ih K x1 g x0 p g a.Next (a.Next.length : Int) (0:Int) j a.L a.R a.Rule a.Next (List.replicate (Int.toNat (a.Next.length : Int)) ([] : List Qd)) flx1 b u aa h)
  exact tr rfl (.c (.s (.s .z)) (.c (.s (.s .z)) (.c (.s .z) (.c .z (.n _)))))
  refine Qo rfl m (T.exit (Qj (Qj (Qq (tN (Qr (mw rfl (mw rfl (oK rfl (oP ul69 i28 rfl ?_))))))))))
  refine oP Xz i26 rfl (sp rfl (Wf (i := 0) (cells' := ((Q5.oc 256 .u8 x0.Auto.Split.Of) ++ (([.d (.int .i64 x0.Auto.Split.Many), .d (.sl false 2 (mA x0.Auto.Counts)), .d (.ex b)]:List OC)))) rfl rfl i26 rfl rfl rfl (nb rfl) rfl (nL (Yw (Uf 1 rfl) (Yw (Ht 0 (l := ((Q5.dc 256 .u8 x0.Auto.Split.Of) ++ (([.int .i64 x0.Auto.Split.Many, .sl false 2 (mA x0.Auto.Counts), .ex b] : List DC)))) (l' := ((Q5.dc 256 .u8 x0.Auto.Split.Of) ++ (([.int .i64 x0.Auto.Split.Many, .sl false 2 (mA x0.Auto.Counts), .sl false 4 (j.map Qb)] : List DC)))) rfl (.app _ (.cons (.same _) (.cons (.same _) (.cons (.view 1 rfl) (.refl _)))))) (Q7 (.nil) (.cons 0 rfl (.nil _)) (by cases h; exact ⟨gl [], rfl, rfl⟩)))))))
theorem Qcy (K : Nat) {x0 : Qe} {x1 : List Int} {bx0 : Nat} {flx1 : Bool} {r : Qe} (h : Vl K x0 x1 = some r) : U3 tp 56 [.ptr bx0 0, .sl flx1 1 (mI x1)] [(Co bx0 x0.Auto.Split.Of x0.Auto.Split.Many x0.Auto.Counts x0.Auto.States)] (fun γ => (.tup [])) (fun γ => [(Co bx0 r.Auto.Split.Of r.Auto.Split.Many r.Auto.Counts r.Auto.States)]) := by
 refine CI 102 fu56 rfl ?_
 unfold Vl at h
 refine sR (Qr (mw rfl (oK rfl (oP ul69 i28 rfl (oP Xz i26 rfl (oL 0 Vj rfl (oU x0.Auto.States Qb Vj rfl ?_)))))))
 obtain ⟨a, h⟩ := Q6 h
 obtain ⟨b, h⟩ := Q6 h
 refine sp rfl (Qgd (f := Qb) (zv := ((Qa.mk [] [] [] []) : Qa)) rfl (dk rfl) Vj i51 (by decide) rfl rfl (fun _ => .cons (.nil _ _) (.cons (.nil _ _) (.cons (.nil _ _) (.cons (.nil _ _) (.refl _))))) rfl rfl rfl a b (fun g => (aw rfl (nL (tN (T.seq (sR (Qr (mw rfl (oK rfl ?_))))))))))
 refine oP ul69 i28 rfl (oP Xz i26 rfl (oL 1 Vj rfl (oU x0.Auto.States Qb Vj rfl (mw rfl (nL (tN (T.block ?_)))))))
 refine T.loop ?_
 refine Qf ?_ (Sr K bx0 K x1 x0 (x0.Auto.States.length : Int) (0:Int) (List.replicate (Int.toNat (x0.Auto.States.length : Int)) ((Qa.mk [] [] [] []) : Qa)) flx1 g h)
 exact tr rfl (.c (.s .z) (.c .z (.n _)))
abbrev Qgi (bx0 : Nat) (r : Qe) : ES := Jm tp ff27 (fun y t => ∃ γ : Nat → Value, y = (.tup []) ∧ t = [.tab 0 Uj, (Co bx0 r.Auto.Split.Of r.Auto.Split.Many r.Auto.Counts r.Auto.States)])
abbrev Qa6 (bx0 : Nat) (r : Qe) : ES := fT 41 [1,1,1] ff27 (Qgi bx0 r)
abbrev B7 (bx0 : Nat) (r : Qe) : ES := Qv 0 ((Qa6 bx0 r))
abbrev Ss (bx0 : Nat) (r : Qe) : ES := fL 41 [1,1,0,1,0,0] ff27 (B7 bx0 r)
abbrev I2 (bx0 : Nat) (r : Qe) : ES := fT 41 [1,1,0,1,0,0,1,1,1] ff27 (Ss bx0 r)
abbrev Dz (bx0 : Nat) (r : Qe) : ES := Qv 1 ((I2 bx0 r))
abbrev E3 (bx0 : Nat) (r : Qe) (go : (List Int) → Int → Int → Qe → (List (Int × Int)) → (List Int) → Option Qe) : Prop := ∀ (a : List Int) (b f : Int) (x0 : Qe) (g : List (Int × Int)) (i : List Int) (j : Nat) (l : Value), go a b f x0 g i = some r → TL tp 41 (ca [1,1,0,1,0,0] ff27) ⟨[(0, .ptr bx0 0), (2, .c (.ex (.map (some j)))), (3, .c (.ex l)), (13, .sl false 1 (mI a)), (14, .int .i64 b), (15, .int .i64 f)], [(Co bx0 x0.Auto.Split.Of x0.Auto.Split.Many x0.Auto.Counts x0.Auto.States), .map j (kvs kI kI g), .arrA l 3 1 (mI i), .tab 0 Uj]⟩ (B7 bx0 r)
theorem E4 {r : Qe} (K bx0 : Nat) (go0 : (List Int) → Int → Int → Qe → (List (Int × Int)) → (List Int) → Option Qe) (hgo0 : E3 bx0 r go0) (j : Int) (p : List Int) (q s : Int) (x0 : Qe) (b : List (Int × Int)) (m : List Int) (u : Nat) (v : Value) (h : Uu K go0 j p q s x0 b m = some r) : T tp 41 (ca [1,1,0,1,0,0,1,1,0,0,1,1] ff27) ⟨[(0, .ptr bx0 0), (2, .c (.ex (.map (some u)))), (3, .c (.ex v)), (5, .int .i64 j), (13, .sl false 1 (mI p)), (14, .int .i64 q), (15, .int .i64 s)], [(Co bx0 x0.Auto.Split.Of x0.Auto.Split.Many x0.Auto.Counts x0.Auto.States), .map u (kvs kI kI b), .arrA v 3 1 (mI m), .tab 0 Uj]⟩ (Dz bx0 r) := by
 unfold Uu at h
 refine Qr ?_
 iterate 3 refine mw rfl ?_
 refine sp rfl (OpT.lookup (i := 1) (g := kI) (h := kI) (z := 0) (l := b) (a := j) rfl (dk rfl) KeyK.kI ul111 ul3 i3 (fun _ => rfl) rfl rfl rfl (sp rfl (OpT.buildSlice (elems := ([((b.lookup j).getD 0)] : List Int).map (cI .i64)) rfl (dk rfl) Zi i3 (by decide) rfl (Hs rfl) rfl rfl rfl (Xh rfl) (by decide) ?_)))
 obtain ⟨w, h⟩ := Q6 h
 refine sp rfl (Zp (i := 2) (xs := m) (ys := [((b.lookup j).getD 0)]) (f := (cI .i64)) rfl (dk rfl) Zi i3 rfl rfl rfl rfl w (fun y => (aw rfl (nL (Qk (tN (Qr (oI rfl (mw rfl (nL (tN ?_)))))))))))
 refine Qf ?_ (hgo0 p q (wI (s + (1:Int))) x0 b (m ++ [((b.lookup j).getD 0)]) u y h)
 exact tq rfl rfl
theorem Qc2 {r : Qe} (K bx0 : Nat) : ∀ (k : Nat), E3 bx0 r (Yo K k) := by
 intro k
 induction k with
 | zero =>
  intro m p d x0 j q s u h
  exact zn h
 | succ k ih =>
  intro m p d x0 j q s u h
  rw [Yo] at h
  refine Q0 (sR (Qr (oI rfl (nL (tN (T.seq ?_))))))
  rcases Qg h with ⟨w, h⟩ | ⟨w, h⟩
  refine Qp rfl w (T.skip (tN (T.seq (T.block (sR (Qr (mw rfl ?_)))))))
  obtain ⟨b, aa, h⟩ := bind_some h
  refine oX m (cI .i64) Zi i3 aa rfl (oR ul3 rfl (aw rfl (aw rfl (nL (tN (T.seq (sR (Qr ?_))))))))
  refine mw rfl (mw rfl (sp rfl (Qkb (i := 1) (g := kI) (h := kI) (z := 0) (l := j) (a := b) rfl (dk rfl) KeyK.kI ul111 ul3 i3 (fun _ => rfl) rfl rfl rfl (mw rfl (oE rfl (oE rfl (aw rfl ?_)))))))
  refine aw rfl (nL (tN (sR (Qr (mw rfl (oT rfl (nL (tN ?_))))))))
  rcases Qg h with ⟨y, h⟩ | ⟨y, h⟩
  refine Qp rfl y (Qr ?_)
  iterate 3 refine mw rfl ?_
  obtain ⟨ab, h⟩ := Q6 h
  refine sp rfl (OpT.mapPut (i := 1) (g := kI) (h := kI) (l := j) (a := b) (v := d) rfl rfl KeyK.kI ul111 ul3 rfl rfl rfl rfl ab (nL (tN ?_)))
  refine Ql ?_ (E4 K bx0 (Yo K k) ih b m p d x0 (j ++ [(b, d)]) q s u h)
  exact tq rfl rfl
  refine Qo rfl y (T.skip (tN ?_))
  refine Ql ?_ (E4 K bx0 (Yo K k) ih b m p d x0 j q s u h)
  exact tq rfl rfl
  refine Qo rfl w (T.exit (Qj (Qj (Qq (tN (Qr (mw rfl (mw rfl ?_))))))))
  obtain ⟨ad, ac, h⟩ := bind_some h
  refine sp rfl (Q9 (is := [0]) (ph := []) rfl (dk rfl) fu56 rfl rfl (Zm.cons rfl (Zm.view (i := 2) rfl rfl Zm.nil)) (Qcy K (bx0 := bx0) (flx1 := false) ac) (.cons rfl rfl (.nil)) (fun _ => rfl) (fun af => (nm (.c (.c (.c (.c (.n))))) (nL (Q7 (.nil) (.cons 3 rfl (.cons 0 rfl (.nil _))) (by cases h; exact ⟨gl [], rfl, rfl⟩))))))
theorem Qgj (K : Nat) {x0 : Qe} {bx0 : Nat} {r : Qe} (h : Gn K x0 = some r) : U3 tp 27 [.ptr bx0 0] [.tab 0 Uj, (Co bx0 x0.Auto.Split.Of x0.Auto.Split.Many x0.Auto.Counts x0.Auto.States)] (fun γ => (.tup [])) (fun γ => [.tab 0 Uj, (Co bx0 r.Auto.Split.Of r.Auto.Split.Many r.Auto.Counts r.Auto.States)]) := by
 refine CI 41 fu27 rfl ?_
 unfold Gn at h
 refine sR (Qr (sp rfl (OpT.makeMap rfl (dk rfl) (fun b => (aw rfl (nL (tN (sR (Qr (aw rfl (nL (tN (T.seq ?_)))))))))))))
 refine sR (Qr (mw rfl (oK rfl (oP ul69 i28 rfl (oA 2 ((Q5.dc 256 .u8 x0.Auto.Split.Of) ++ (([.int .i64 x0.Auto.Split.Many, .sl false 2 (mA x0.Auto.Counts), .sl false 4 (x0.Auto.States.map Qb)] : List DC))) Xz i28 rfl ?_)))))
 obtain ⟨a, g, h⟩ := bind_some h
 refine sp rfl (Mz rfl (dk rfl) fu17 rfl rfl (Zm.cons rfl Zm.nil) (.tab 1 rfl (.nil)) (Qie K g) (oU a (cI .i64) Zi rfl (mw rfl (nL (tN (T.block (T.loop (Qf (Xd 3 1) ?_))))))))
 refine Qf ?_ (Qc2 K bx0 K a (a.length : Int) (0:Int) x0 [] [] b (Qd7 2) h)
 exact tr rfl (.c (.s (.s (.s .z))) (.c (.s .z) (.c .z (.c .z (.n _)))))
abbrev trim_Of_q (r : Qc × Int) : ES := Jm tp ff10 (fun y t => y = (.tup [.agg ((Q5.dc 256 .u8 r.1.Split.Of) ++ (([.int .i64 r.1.Split.Many, .sl false 2 (mA r.1.Counts), .sl false 4 (r.1.States.map Qb)] : List DC))), .int .i64 r.2]) ∧ t = [.tab 0 Uj])
theorem Qj3 {r : Qc × Int} (K : Nat) (f g : Q5) (j : Int) (m : List Ye) (p : List Qa) (q b : Nat) (h : Oz K f g j m p = some r) : T tp 36 (ca [1,1,1,1,1,1] ff10) ⟨[(2, .ptr q 0), (4, .ptr b 0)], [(Bt q f (0:Int) (.slice none 0 0) (.slice none 0 0)), (Co b g j m p), .tab 0 Uj]⟩ (trim_Of_q r) := by
 unfold Oz at h
 refine sR (Qr (mw rfl ?_))
 obtain ⟨a, s, h⟩ := bind_some h
 refine sp rfl (Q9 (is := [1]) (ph := []) rfl (dk rfl) fu28 rfl rfl (Zm.cons rfl Zm.nil) (Qgh K (bx0 := b) s) (.cons rfl rfl (.nil)) (fun _ => rfl) (fun u => (nm (.c (.c (.c (.n)))) (nL (tN (sR (Qr (mw rfl (oK rfl (oP ul69 i28 rfl (oA 1 ((Q5.dc 256 .u8 a.Auto.Split.Of) ++ (([.int .i64 a.Auto.Split.Many, .sl false 2 (mA a.Auto.Counts), .sl false 4 (a.Auto.States.map Qb)] : List DC))) Xz i28 rfl ?_)))))))))))
 refine sp rfl (Qt (i := 0) (cells' := ((Q5.oc 256 .u8 a.Auto.Split.Of) ++ (([.d (.int .i64 a.Auto.Split.Many), .d (.sl false 2 (mA a.Auto.Counts)), .d (.sl false 4 (a.Auto.States.map Qb))]:List OC)))) rfl rfl i28 rfl rfl rfl rfl (nb rfl) rfl (aw rfl (nL (tN (T.ret (Q7 (.cons _ _ _ _ (.cellAgg 2 28 _ 0 0 28 _ ((Q5.dc 256 .u8 a.Auto.Split.Of) ++ (([.int .i64 a.Auto.Split.Many, .sl false 2 (mA a.Auto.Counts), .sl false 4 (a.Auto.States.map Qb)] : List DC))) _ _ 259 _ rfl rfl rfl rfl Xz rfl i28) (.cons _ _ _ _ (.tmp 3 _ rfl) .nil)) (.cons 2 rfl (.nil _)) (by cases h; exact ⟨rfl, rfl⟩)))))))
theorem trim_Of_T (K : Nat) {x0 : Qc} {r : Qc × Int} (h : Qef K x0 = some r) : Zh tp 10 [.agg ((Q5.dc 256 .u8 x0.Split.Of) ++ (([.int .i64 x0.Split.Many, .sl false 2 (mA x0.Counts), .sl false 4 (x0.States.map Qb)] : List DC)))] [.tab 0 Uj] (.tup [.agg ((Q5.dc 256 .u8 r.1.Split.Of) ++ (([.int .i64 r.1.Split.Many, .sl false 2 (mA r.1.Counts), .sl false 4 (r.1.States.map Qb)] : List DC))), .int .i64 r.2]) := by
 refine CI 36 fu10 rfl ?_
 unfold Qef at h
 refine sR (Qr (sp rfl (Q8 rfl (dk rfl) rfl (fun aa => (sp rfl (Za rfl (dk rfl) i28 rfl (fun p => (aw rfl (nL (tN (T.seq (sR (Qr ?_)))))))))))))
 refine oA 1 ((Q5.dc 256 .u8 x0.Split.Of) ++ (([.int .i64 x0.Split.Many, .sl false 2 (mA x0.Counts), .sl false 4 (x0.States.map Qb)] : List DC))) Xz i28 rfl ?_
 obtain ⟨ab, q, h⟩ := bind_some h
 refine oH fu24 (Zh.nil (Qfb K q)) rfl (oT rfl (nL (tN ?_)))
 rcases Qg h with ⟨j, h⟩ | ⟨j, h⟩
 refine Qp rfl j (sR (Qr (sp rfl (OpT.build (l := ((Q5.dc 256 .u8 (Q5.mk fun _ => 0)) ++ (([.int .i64 (0:Int), .ex (.slice none 0 0), .ex (.slice none 0 0)] : List DC)))) rfl (dk rfl) (Zk (pl := [(0, 257), (257, 1), (258, 1)]) Xz i28 rfl) (Hs rfl) rfl rfl (sp rfl (Qt (i := 0) (cells' := ((Q5.oc 256 .u8 (Q5.mk fun _ => 0)) ++ (([.d (.int .i64 (0:Int)), .d (.ex (.slice none 0 0)), .d (.ex (.slice none 0 0))]:List OC)))) rfl rfl i28 rfl rfl rfl rfl (nb rfl) rfl (aw rfl (nL (tN (T.ret (Qs ?_)))))))))))
 refine Yw (Ht 0 (l := ((Q5.dc 256 .u8 (Q5.mk fun _ => 0)) ++ (([.int .i64 (0:Int), .ex (.slice none 0 0), .ex (.slice none 0 0)] : List DC)))) (l' := ((Q5.dc 256 .u8 (Q5.mk fun _ => 0)) ++ (([.int .i64 (0:Int), .sl false 2 (([] : List Ye).map (Ye.dc .i64)), .sl false 4 (([] : List Qa).map Qb)] : List DC)))) rfl (.app _ (.cons (.same _) (.cons (.nil _ _) (.cons (.nil _ _) (.refl _)))))) ?_
 exact Q7 (.cons _ _ _ _ (.cellAgg 2 28 _ 0 0 28 _ ((Q5.dc 256 .u8 (Q5.mk fun _ => 0)) ++ (([.int .i64 (0:Int), .sl false 2 (([] : List Ye).map (Ye.dc .i64)), .sl false 4 (([] : List Qa).map Qb)] : List DC))) _ _ 259 _ rfl rfl rfl rfl Xz rfl i28) (.cons _ _ _ _ (.tmp 3 _ rfl) .nil)) (.cons 2 rfl (.nil _)) (by cases h; exact ⟨rfl, rfl⟩)
 refine Qo rfl j (T.skip (tN (sR (Qr (oA 1 ((Q5.dc 256 .u8 x0.Split.Of) ++ (([.int .i64 x0.Split.Many, .sl false 2 (mA x0.Counts), .sl false 4 (x0.States.map Qb)] : List DC))) Xz i28 rfl (sp rfl (OpT.build (l := ((Q5.dc 256 .u8 x0.Split.Of) ++ (([.int .i64 x0.Split.Many, .sl false 2 (mA x0.Counts), .sl false 4 (x0.States.map Qb)] : List DC)))) rfl (dk rfl) (Zk (pl := [(0, 259)]) ul69 i69 rfl) (Hs rfl) rfl rfl (sp rfl (Q8 rfl (dk rfl) rfl (fun b => (aw rfl ?_)))))))))))
 refine nL (tN (sR (Qr (mw rfl (oP Xz i25 rfl (oL 2 Qcs rfl ?_))))))
 obtain ⟨u, v, h⟩ := bind_some h
 refine oH fu25 (Zh.nil (Qel K (flx0 := false) v)) rfl (oK rfl (oP ul69 i28 rfl (oP Xz i25 rfl (sp rfl (Wf (i := 0) (cells' := ((Q5.oc 256 .u8 x0.Split.Of) ++ (([.d (.int .i64 x0.Split.Many), .d (.sl false 2 (mA u)), .d (.sl false 4 (x0.States.map Qb))]:List OC)))) rfl rfl i25 rfl rfl rfl (nb rfl) rfl (nL (tN (sR (Qr (mw rfl ?_))))))))))
 obtain ⟨a, w, h⟩ := bind_some h
 refine sp rfl (Q9 (is := [0]) (ph := []) rfl (dk rfl) fu26 rfl rfl (Zm.cons rfl Zm.nil) (Qgl K (bx0 := b) w) (.cons rfl rfl (.nil)) (fun _ => rfl) (fun ac => (nm (.c (.c (.c (.c (.n))))) (nL (tN (T.seq (sR (Qr (mw rfl (oK rfl ?_))))))))))
 refine oP ul69 i28 rfl (oP Xz i25 rfl (oL 0 Qcs rfl (oU a.Auto.Counts (Ye.dc .i64) Qcs rfl (oI rfl (nL (tN ?_))))))
 rcases Qg h with ⟨m, h⟩ | ⟨m, h⟩
 refine Qp rfl m (Qr (mw rfl ?_))
 obtain ⟨g, y, h⟩ := bind_some h
 refine sp rfl (Q9 (is := [3, 0]) (ph := []) rfl (dk rfl) fu27 rfl rfl (Zm.cons rfl Zm.nil) (Qgj K (bx0 := b) y) (.cons rfl rfl (.cons rfl rfl (.nil))) (fun _ => rfl) (fun ad => (nm (.c (.c (.c (.c (.n))))) (nL (tN ?_)))))
 refine Ql ?_ (Qj3 K (Q5.mk fun _ => 0) g.Auto.Split.Of g.Auto.Split.Many g.Auto.Counts g.Auto.States p b h)
 exact tr rfl (.c (.s .z) (.c .z (.c (.s .z) (.n _))))
 refine Qo rfl m (T.skip (tN ?_))
 refine Ql ?_ (Qj3 K (Q5.mk fun _ => 0) a.Auto.Split.Of a.Auto.Split.Many a.Auto.Counts a.Auto.States p b h)
 exact tr rfl (.c (.s .z) (.c .z (.c (.s .z) (.n _))))
abbrev Qhq (r : Bool) : ES := Jm tp ff42 (fun y t => y = (.bool r) ∧ t = [])
abbrev Qbw (r : Bool) : ES := fT 29 [1,1,1] ff42 (Qhq r)
abbrev Tn (r : Bool) : ES := Qv 0 ((Qbw r))
theorem Qd1 {r : Bool} (K : Nat) : ∀ (k : Nat), ∀ (f g : Int) (x0 : Q4) (j : Nat), Xs K k f g x0 = some r → TL tp 29 (ca [1,1,0,1,0,0] ff42) ⟨[(1, .ptr j 0), (3, .int .i64 f), (4, .int .i64 g)], [(b24x3 j x0.Of x0.Many)]⟩ (Tn r) := by
 intro k
 induction k with
 | zero =>
  intro f g x0 j h
  exact zn h
 | succ k ih =>
  intro f g x0 j h
  rw [Xs] at h
  refine Q0 (T.seq (sR (Qr (mw rfl (oI rfl (nL (tN ?_)))))))
  rcases Qg h with ⟨l, h⟩ | ⟨l, h⟩
  refine Qp rfl l (T.skip (tN (T.seq (T.block (T.seq (sR (Qr (mw rfl ?_))))))))
  refine oP Qj2 i22 rfl ?_
  obtain ⟨b, h⟩ := Q6 h
  refine sp rfl (Xj rfl (dk rfl) ul22 i5 rfl rfl b.1 b.2 (sp rfl (Zx (i := 0) rfl (dk rfl) ul5 rfl rfl rfl (Qh9 (n := 256) (k := .u8) (a := x0.Of) (pre := []) (post := [.d (.int .i64 x0.Many)]) b.1 b.2) (sp rfl (V8 rfl (dk rfl) ul5 ul3 rfl (mw rfl (oI rfl (nL (tN ?_)))))))))
  rcases Qg h with ⟨m, h⟩ | ⟨m, h⟩
  refine Qp rfl m (sR (Qr (aw rfl (nL (tN (T.ret (Qs (Qy (Qs (Qs (Qy (Qs (fd rfl (by cases h; exact ⟨rfl, rfl⟩))))))))))))))
  refine Qo rfl m (T.skip (tN (sR (Qr (mw rfl (oP Qj2 i22 rfl (sp rfl (Xj rfl (dk rfl) ul22 i5 rfl rfl b.1 b.2 (sp rfl (Zx (i := 0) rfl (dk rfl) ul5 rfl rfl rfl (Qh9 (n := 256) (k := .u8) (a := x0.Of) (pre := []) (post := [.d (.int .i64 x0.Many)]) b.1 b.2) ?_))))))))))
  refine sp rfl (V8 rfl (dk rfl) ul5 ul3 rfl (mw rfl (oI rfl (nL (tN ?_)))))
  rcases Qg h with ⟨p, h⟩ | ⟨p, h⟩
  refine Qp rfl p (Qr (mw rfl (oI rfl (aw rfl (nL (Qk (tN (Qr ?_))))))))
  refine mw rfl (oI rfl (aw rfl (nL (tN ?_))))
  refine Qf ?_ (ih (wI (f + (1:Int))) (wI (g + (1:Int))) x0 j h)
  exact tq rfl rfl
  refine Qo rfl p (T.skip (Qk (tN (Qr (mw rfl (oI rfl (aw rfl (nL (tN ?_)))))))))
  refine Qf ?_ (ih f (wI (g + (1:Int))) x0 j h)
  exact tq rfl rfl
  refine Qo rfl l (T.exit (Qj (Qj (Qq (tN (sR (Qr (mw rfl (oP Qj2 i3 rfl (oL 0 ul3 rfl (oI rfl ?_)))))))))))
  refine aw rfl (nL (tN (T.ret (fd rfl (by cases h; exact ⟨rfl, rfl⟩)))))
theorem Qhr (K : Nat) {x0 : Q4} {r : Bool} (h : G6 K x0 = some r) : Zh tp 42 [.agg ((Q5.dc 256 .u8 x0.Of) ++ (([.int .i64 x0.Many] : List DC)))] [] (.bool r) := by
 refine CI 29 fu42 rfl ?_
 unfold G6 at h
 refine sR (Qr (sp rfl (Q8 rfl (dk rfl) rfl (fun a => (aw rfl (nL (tN (sR (Qr (aw rfl (nL (tN (T.seq ?_)))))))))))))
 refine sR (Qr (aw rfl (nL (tN (T.block (T.loop ?_))))))
 refine Qf ?_ (Qd1 K K (0:Int) (0:Int) x0 a h)
 exact tq rfl rfl
abbrev Pw (r : Int) : ES := Jm tp ff46 (fun y t => y = (.int .i64 r) ∧ t = [])
abbrev Qdn (r : Int) : ES := fT 19 [1,1] ff46 (Pw r)
abbrev Qao (r : Int) : ES := fT 19 [1,1,1,1] ff46 (Pw r)
abbrev R2 (r : Int) : ES := Qv 0 ((Qao r))
theorem Fb {r : Int} (K : Nat) (h : Wd K = some r) : T tp 19 (ca [1,0,1,0] ff46) ⟨[], []⟩ (Qdn r) := by
 unfold Wd at h
 refine sR (Qr (aw rfl (nL (tN (T.ret (Qs (fd rfl (by cases h; exact ⟨rfl, rfl⟩))))))))
theorem Qdo {r : Int} (K : Nat) : ∀ (k : Nat), ∀ (x0 a b : Int), Wc K k x0 a b = some r → TL tp 19 (ca [1,1,1,0,1,0,0] ff46) ⟨[(0, .int .i64 x0), (3, .int .i64 a), (4, .int .i64 b)], []⟩ (R2 r) := by
 intro k
 induction k with
 | zero =>
  intro x0 a b h
  exact zn h
 | succ k ih =>
  intro x0 a b h
  rw [Wc] at h
  refine Q0 (T.seq (sR (Qr (mw rfl (mw rfl (oI rfl (nL (tN ?_))))))))
  rcases Qg h with ⟨c, h⟩ | ⟨c, h⟩
  refine Qp rfl c (T.skip (tN (T.seq (T.block (Qr (mw rfl (oI rfl ?_)))))))
  refine aw rfl (nL (Qk (tN (Qr (mw rfl (oI rfl (aw rfl (nL (tN ?_)))))))))
  refine Qf ?_ (ih x0 (wI (a * (3:Int))) (wI (b + (1:Int))) h)
  exact tq rfl rfl
  refine Qo rfl c (T.exit (Qj (Qj (Qq (tN (sR (Qr (mw rfl (aw rfl (nL (tN (T.ret ?_))))))))))))
  exact fd rfl (by cases h; exact ⟨rfl, rfl⟩)
theorem Px (K : Nat) {x0 r : Int} (h : Jk K x0 = some r) : Zh tp 46 [.int .i64 x0] [] (.int .i64 r) := by
 refine CI 19 fu46 rfl ?_
 unfold Jk at h
 refine sR (Qr (aw rfl (nL (tN (T.seq (sR (Qr (mw rfl (oI rfl ?_)))))))))
 refine mw rfl ?_
 rcases Qg h with ⟨a, h⟩ | ⟨a, h⟩
 refine pf rfl a (pf rfl a (oY a rfl (nL (tN (Qp rfl rfl ?_)))))
 refine Ql ?_ (Fb K h)
 exact tq rfl rfl
 refine sn rfl a (OpT.move rfl (dk rfl) rfl (sn rfl a (Zs rfl rfl (dk rfl) rfl rfl (oZ a rfl (nL (tN ?_))))))
 rcases Qg h with ⟨b, h⟩ | ⟨b, h⟩
 refine Qp rfl b ?_
 refine Ql ?_ (Fb K h)
 exact tq rfl rfl
 refine Qo rfl b (T.skip (tN (sR (Qr (aw rfl (nL (tN (T.seq (sR (Qr ?_))))))))))
 refine aw rfl (nL (tN (T.block (T.loop ?_))))
 refine Qf ?_ (Qdo K K x0 (1:Int) (0:Int) h)
 exact tq rfl rfl
abbrev Qg3 (r : Bool) : ES := Jm tp ff75 (fun y t => y = (.bool r) ∧ t = [])
abbrev Qde (r : Bool) : ES := fT 41 [1,1] ff75 (Qg3 r)
abbrev Df (r : Bool) : ES := Qv 0 ((Qde r))
abbrev Qai (r : Bool) : ES := fL 41 [1,0,1,0,0] ff75 (Df r)
abbrev Pn (r : Bool) : ES := fT 41 [1,0,1,0,0,1,1] ff75 (Qai r)
abbrev Fl (r : Bool) : ES := Qv 1 ((Pn r))
theorem Kz {r : Bool} (K : Nat) (h : Ux K = some r) : T tp 41 (ca [1,0,1,0,0,1,0,0,1,0] ff75) ⟨[], []⟩ (Fl r) := by
 unfold Ux at h
 refine sR (Qr (aw rfl (nL (tN (T.ret (Qy (Qs (Qs (Qy (Qs (fd rfl (by cases h; exact ⟨rfl, rfl⟩))))))))))))
theorem Qdf {r : Bool} (K : Nat) : ∀ (k : Nat), ∀ (x0 : List Int) (x1 b : Int) (flx0 : Bool), Xq K k x0 x1 b = some r → TL tp 41 (ca [1,0,1,0,0] ff75) ⟨[(0, .sl flx0 1 (mI x0)), (1, .int .i64 x1), (5, .int .i64 b)], []⟩ (Df r) := by
 intro k
 induction k with
 | zero =>
  intro x0 x1 b flx0 h
  exact zn h
 | succ k ih =>
  intro x0 x1 b flx0 h
  rw [Xq] at h
  refine Q0 (T.seq (sR (Qr (mw rfl (mw rfl (oU x0 (cI .i64) Zi rfl (oI rfl ?_)))))))
  refine nL (tN ?_)
  rcases Qg h with ⟨l, h⟩ | ⟨l, h⟩
  refine Qp rfl l (T.skip (tN (T.seq (T.block (T.seq (Zy (dV rfl rfl ?_)))))))
  refine dV rfl rfl ?_
  obtain ⟨a, m, h⟩ := bind_some h
  refine dX x0 (cI .i64) rfl (.f rfl) Zi i3 m rfl (dR rfl (.f rfl) ul3 rfl (dI rfl (.f rfl) rfl (dV rfl rfl ?_)))
  rcases Qg h with ⟨g, h⟩ | ⟨g, h⟩
  refine dO g rfl rfl (dO g rfl rfl (dO g rfl rfl (dO g rfl rfl (dO g rfl rfl (dO g rfl rfl (dY rfl (.f rfl) g rfl ?_))))))
  refine dV rfl rfl (dO rfl rfl rfl (dO rfl rfl rfl (dO rfl rfl rfl (dG rfl rfl (dG rfl rfl (dG rfl rfl ?_))))))
  refine dG rfl rfl (dG rfl rfl (dG rfl rfl (dG rfl rfl (dG rfl rfl (dG rfl rfl (dG rfl rfl ?_))))))
  refine dO rfl rfl rfl (dY rfl (.f rfl) rfl rfl (dF [0,0,3,7,15,31,63,63,255,511,63,2047,4095,8191,16383,32767,65535,131071,131071,393215,1048575,2097151,131071,131071,12713983,29491199,67108863,134217727,268435455] Qx rfl (by kernel_rfl) (fun u hu => (tN (Ql hu (Qp rfl rfl ?_))))))
  refine Ql ?_ (Kz K h)
  exact tq rfl rfl
  refine dM rfl (.n g rfl) rfl (dM rfl (.n g rfl) rfl (dX x0 (cI .i64) rfl (.n g rfl) Zi i3 m rfl (dR rfl (.n g rfl) ul3 rfl (dM rfl (.n g rfl) rfl (dI rfl (.n g rfl) rfl (dZ rfl (.f rfl) g rfl ?_))))))
  refine dV rfl rfl ?_
  rcases Qg h with ⟨j, h⟩ | ⟨j, h⟩
  refine dO j rfl rfl (dO j rfl rfl (dO j rfl rfl (dG rfl rfl (dG rfl rfl (dG rfl rfl (dG rfl rfl ?_))))))
  refine dG rfl rfl (dG rfl rfl (dG rfl rfl (dG rfl rfl (dG rfl rfl (dG rfl rfl (dO j rfl rfl ?_))))))
  refine dY rfl (.f rfl) j rfl (dF [0,0,3,7,15,31,63,63,255,511,63,2047,4095,8191,16383,32767,65535,131071,131071,393215,1048575,2097151,131071,131071,12713983,29491199,67108863,134217727,268435455] Qx rfl (by kernel_rfl) (fun u hu => (tN (Ql hu (Qp rfl rfl ?_)))))
  refine Ql ?_ (Kz K h)
  exact tq rfl rfl
  refine dM rfl (.n j rfl) rfl (dI rfl (.n j rfl) rfl (dM rfl (.n j rfl) rfl ?_))
  rcases Qg h with ⟨d, h⟩ | ⟨d, h⟩
  refine dM rfl (.n d rfl) rfl (dM rfl (.n d rfl) rfl (dI rfl (.n d rfl) rfl ?_))
  obtain ⟨i, q, h⟩ := bind_some h
  refine dX x0 (cI .i64) rfl (.n d rfl) Zi i3 q rfl (dR rfl (.n d rfl) ul3 rfl (dM rfl (.n d rfl) rfl (dM rfl (.n d rfl) rfl (dX x0 (cI .i64) rfl (.n d rfl) Zi i3 m rfl (dR rfl (.n d rfl) ul3 rfl (dI rfl (.n d rfl) rfl ?_))))))
  refine dY rfl (.n j rfl) d rfl (dZ rfl (.f rfl) j rfl (dF [0,0,3,7,15,31,63,63,255,511,63,2047,4095,8191,16383,32767,65535,131071,131071,393215,1048575,2097151,131071,131071,12713983,29491199,67108863,134217727,268435455] Qx rfl (by kernel_rfl) (fun u hu => (tN (Ql hu ?_)))))
  rcases Qg h with ⟨p, h⟩ | ⟨p, h⟩
  refine Qp rfl p ?_
  refine Ql ?_ (Kz K h)
  exact tq rfl rfl
  refine Qo rfl p (T.skip (Qk (tN (Qr (mw rfl (oI rfl (aw rfl (nL (tN ?_)))))))))
  refine Qf ?_ (ih x0 x1 (wI (b + (1:Int))) flx0 h)
  exact tq rfl rfl
  refine dO d rfl rfl (dO d rfl rfl (dO d rfl rfl (dO d rfl rfl (dO d rfl rfl (dO d rfl rfl (dO d rfl rfl ?_))))))
  refine dO d rfl rfl (dO d rfl rfl (dO d rfl rfl (dZ rfl (.n j rfl) d rfl (dZ rfl (.f rfl) j rfl (dF [0,0,3,7,15,31,63,63,255,511,63,2047,4095,8191,16383,32767,65535,131071,131071,393215,1048575,2097151,131071,131071,12713983,29491199,67108863,134217727,268435455] Qx rfl (by kernel_rfl) (fun u hu => (tN (Ql hu (Qo rfl rfl ?_)))))))))
  refine T.skip (Qk (tN (Qr (mw rfl (oI rfl (aw rfl (nL (tN ?_))))))))
  refine Qf ?_ (ih x0 x1 (wI (b + (1:Int))) flx0 h)
  exact tq rfl rfl
  refine Qo rfl l (T.exit (Qj (Qj (Qq (tN (sR (Qr (aw rfl (nL (tN (T.ret (fd rfl (by cases h; exact ⟨rfl, rfl⟩)))))))))))))
theorem Po (K : Nat) {x0 : List Int} {x1 : Int} {flx0 r : Bool} (h : Wm K x0 x1 = some r) : Zh tp 75 [.sl flx0 1 (mI x0), .int .i64 x1] [] (.bool r) := by
 refine CI 41 fu75 rfl ?_
 unfold Wm at h
 refine sR (Qr (aw rfl (nL (tN (T.seq (sR (Qr (aw rfl (nL (tN ?_))))))))))
 refine T.block (T.loop ?_)
 refine Qf ?_ (Qdf K K x0 x1 (0:Int) flx0 h)
 exact tq rfl rfl
abbrev Qkm (r : Bool) : ES := Jm tp ff112 (fun y t => y = (.bool r) ∧ t = [])
abbrev Qg4 (r : Bool) : ES := fT 18 [1,1] ff112 (Qkm r)
abbrev Qey (r : Bool) : ES := Qv 0 ((Qg4 r))
theorem Qg5 {r : Bool} (K : Nat) : ∀ (k : Nat), ∀ (x0 : List Int) (x1 a : Int) (flx0 : Bool), Jj K k x0 x1 a = some r → TL tp 18 (ca [1,0,1,0,0] ff112) ⟨[(0, .sl flx0 1 (mI x0)), (1, .int .i64 x1), (5, .int .i64 a)], []⟩ (Qey r) := by
 intro k
 induction k with
 | zero =>
  intro x0 x1 a flx0 h
  exact zn h
 | succ k ih =>
  intro x0 x1 a flx0 h
  rw [Jj] at h
  refine Q0 (T.seq (sR (Qr (mw rfl (mw rfl (oU x0 (cI .i64) Zi rfl (oI rfl ?_)))))))
  refine nL (tN ?_)
  rcases Qg h with ⟨b, h⟩ | ⟨b, h⟩
  refine Qp rfl b (T.skip (tN (T.seq (T.block (sR (Qr (mw rfl (mw rfl ?_))))))))
  obtain ⟨d, g, h⟩ := bind_some h
  refine oX x0 (cI .i64) Zi i3 g rfl (oR ul3 rfl (mw rfl (oI rfl (nL (tN ?_)))))
  rcases Qg h with ⟨c, h⟩ | ⟨c, h⟩
  refine Qp rfl c (sR (Qr (aw rfl (nL (tN (T.ret (Qy (Qs (Qs (Qy (Qs (fd rfl (by cases h; exact ⟨rfl, rfl⟩)))))))))))))
  refine Qo rfl c (T.skip (Qk (tN (Qr (mw rfl (oI rfl (aw rfl (nL (tN ?_)))))))))
  refine Qf ?_ (ih x0 x1 (wI (a + (1:Int))) flx0 h)
  exact tq rfl rfl
  refine Qo rfl b (T.exit (Qj (Qj (Qq (tN (sR (Qr (aw rfl (nL (tN (T.ret (fd rfl (by cases h; exact ⟨rfl, rfl⟩)))))))))))))
theorem Cs (K : Nat) {x0 : List Int} {x1 : Int} {flx0 r : Bool} (h : Wl K x0 x1 = some r) : Zh tp 112 [.sl flx0 1 (mI x0), .int .i64 x1] [] (.bool r) := by
 refine CI 18 fu112 rfl ?_
 unfold Wl at h
 refine sR (Qr (aw rfl (nL (tN (T.seq (sR (Qr (aw rfl (nL (tN ?_))))))))))
 refine T.block (T.loop ?_)
 refine Qf ?_ (Qg5 K K x0 x1 (0:Int) flx0 h)
 exact tq rfl rfl
abbrev Sj (r : Bool) : ES := Jm tp ff76 (fun y t => y = (.bool r) ∧ t = [])
abbrev Qdg (r : Bool) : ES := fT 85 [1,1,1] ff76 (Sj r)
abbrev Qbp (r : Bool) : ES := fT 85 [1,1,1,1] ff76 (Sj r)
abbrev Ch (r : Bool) : ES := Qv 0 ((Qbp r))
abbrev S3 (r : Bool) : ES := fL 85 [1,1,1,0,1,0,0] ff76 (Ch r)
abbrev Oe (r : Bool) : ES := fT 85 [1,1,1,0,1,0,0,1,1] ff76 (S3 r)
abbrev Eo (r : Bool) : ES := Qv 1 ((Oe r))
theorem Mq {r : Bool} (K : Nat) (h : X6 K = some r) : T tp 85 (ca [1,1,0,1,0] ff76) ⟨[], []⟩ (Qdg r) := by
 unfold X6 at h
 refine sR (Qr (aw rfl (nL (tN (T.ret (Qs (fd rfl (by cases h; exact ⟨rfl, rfl⟩))))))))
theorem Mp {r : Bool} (K : Nat) (h : X5 K = some r) : T tp 85 (ca [1,1,1,0,1,0,0,1,0,0,1,0] ff76) ⟨[], []⟩ (Eo r) := by
 unfold X5 at h
 refine sR (Qr (aw rfl (nL (tN (T.ret (Qy (Qs (Qs (Qy (Qs (fd rfl (by cases h; exact ⟨rfl, rfl⟩))))))))))))
theorem Qew {r : Bool} (K : Nat) : ∀ (k : Nat), ∀ (j : Int) (x0 : Qc) (x1 : Qa) (x2 : Qd) (p q b : Nat), X4 K k j x0 x1 x2 = some r → TL tp 85 (ca [1,1,1,0,1,0,0] ff76) ⟨[(3, .ptr p 0), (4, .ptr q 0), (5, .ptr b 0), (7, .int .i64 j)], [(Li p x0.Split.Of x0.Split.Many x0.Counts x0.States), (W0 q x1.L x1.R x1.Rule x1.Next), (b54x6 b x2.To x2.Ops)]⟩ (Ch r) := by
 intro k
 induction k with
 | zero =>
  intro j x0 x1 x2 p q b h
  exact zn h
 | succ k ih =>
  intro j x0 x1 x2 p q b h
  rw [X4] at h
  refine Q0 (T.seq (sR (Qr (mw rfl (oP Lj i52 rfl (oL 2 B2 rfl (oU x2.Ops (cI .u8) B2 rfl ?_)))))))
  refine oI rfl (nL (tN ?_))
  rcases Qg h with ⟨aa, h⟩ | ⟨aa, h⟩
  refine Qp rfl aa (T.skip (tN (T.seq (T.block (T.seq (Zy (dP rfl (.f rfl) Lj i52 rfl ?_)))))))
  refine dL 2 rfl (.f rfl) B2 rfl (dV rfl rfl ?_)
  obtain ⟨a, ab, h⟩ := bind_some h
  refine dX x2.Ops (cI .u8) rfl (.f rfl) B2 i5 ab rfl (dR rfl (.f rfl) ul5 rfl (dI rfl (.f rfl) rfl (dV rfl rfl ?_)))
  rcases Qg h with ⟨s, h⟩ | ⟨s, h⟩
  refine dO s rfl rfl (dO s rfl rfl (dO s rfl rfl (dO s rfl rfl (dO s rfl rfl (dO s rfl rfl (dY rfl (.f rfl) s rfl ?_))))))
  refine dV rfl rfl (dO rfl rfl rfl (dO rfl rfl rfl (dO rfl rfl rfl (dO rfl rfl rfl (dO rfl rfl rfl (dO rfl rfl rfl ?_))))))
  refine dO rfl rfl rfl (dG rfl rfl (dG rfl rfl (dG rfl rfl (dG rfl rfl (dG rfl rfl (dG rfl rfl ?_))))))
  refine dG rfl rfl (dG rfl rfl (dG rfl rfl (dG rfl rfl (dG rfl rfl (dG rfl rfl (dG rfl rfl ?_))))))
  refine dG rfl rfl (dO rfl rfl rfl (dY rfl (.f rfl) rfl rfl (dF [0,1,0,7,15,31,63,127,255,127,1023,2047,4095,8191,16383,32767,65535,32767,262143,524287,1048575,2097151,4194303,8388607,4194303,20971519,4194303,71303167,255852543,524287999,1061158911,4194303,4282384383,8577351679,17179869183,34359738367,68719476735,137438953471] Qx rfl (by kernel_rfl) (fun u hu => (tN (Ql hu (Qp rfl rfl ?_)))))))
  refine Ql ?_ (Mp K h)
  exact tq rfl rfl
  refine dP rfl (.n s rfl) Lj i52 rfl (dL 2 rfl (.n s rfl) B2 rfl (dM rfl (.n s rfl) rfl (dX x2.Ops (cI .u8) rfl (.n s rfl) B2 i5 ab rfl (dR rfl (.n s rfl) ul5 rfl (dI rfl (.n s rfl) rfl (dZ rfl (.f rfl) s rfl ?_))))))
  refine dV rfl rfl ?_
  rcases Qg h with ⟨m, h⟩ | ⟨m, h⟩
  refine dO m rfl rfl (dO m rfl rfl (dO m rfl rfl (dO m rfl rfl (dO m rfl rfl (dO m rfl rfl (dO m rfl rfl ?_))))))
  refine dG rfl rfl (dG rfl rfl (dG rfl rfl (dG rfl rfl (dG rfl rfl (dG rfl rfl (dG rfl rfl ?_))))))
  refine dG rfl rfl (dG rfl rfl (dG rfl rfl (dG rfl rfl (dG rfl rfl (dG rfl rfl (dG rfl rfl ?_))))))
  refine dO m rfl rfl (dY rfl (.f rfl) m rfl (dF [0,1,0,7,15,31,63,127,255,127,1023,2047,4095,8191,16383,32767,65535,32767,262143,524287,1048575,2097151,4194303,8388607,4194303,20971519,4194303,71303167,255852543,524287999,1061158911,4194303,4282384383,8577351679,17179869183,34359738367,68719476735,137438953471] Qx rfl (by kernel_rfl) (fun u hu => (tN (Ql hu (Qp rfl rfl ?_))))))
  refine Ql ?_ (Mp K h)
  exact tq rfl rfl
  refine dP rfl (.n m rfl) Lj i52 rfl (dL 2 rfl (.n m rfl) B2 rfl (dM rfl (.n m rfl) rfl (dX x2.Ops (cI .u8) rfl (.n m rfl) B2 i5 ab rfl (dR rfl (.n m rfl) ul5 rfl (dI rfl (.n m rfl) rfl (dM rfl (.n m rfl) rfl ?_))))))
  rcases Qg h with ⟨g, h⟩ | ⟨g, h⟩
  refine dP rfl (.n g rfl) V1 i38 rfl (dL 1 rfl (.n g rfl) Zi rfl (dP rfl (.n g rfl) Xz i26 rfl (dL 0 rfl (.n g rfl) Vj rfl (dP rfl (.n g rfl) Lj i3 rfl (dL 2 rfl (.n g rfl) ul3 rfl ?_)))))
  obtain ⟨l, ad, h⟩ := bind_some h
  refine dX x0.States Qb rfl (.n g rfl) Vj i51 ad rfl (dQ rfl (.n g rfl) V1 i38 rfl (dR rfl (.n g rfl) Zi rfl (dM rfl (.n g rfl) rfl ?_)))
  obtain ⟨y, af, h⟩ := bind_some h
  refine dX l.R (cI .i64) rfl (.n g rfl) Zi i3 af rfl (dR rfl (.n g rfl) ul3 rfl ?_)
  obtain ⟨w, ag, h⟩ := bind_some h
  refine dH fu112 (Zh.nil (Cs K (flx0 := false) ag)) rfl (.n g rfl) rfl (dT rfl (.n g rfl) rfl (dY rfl (.n m rfl) g rfl (dZ rfl (.f rfl) m rfl (dF [0,1,0,7,15,31,63,127,255,127,1023,2047,4095,8191,16383,32767,65535,32767,262143,524287,1048575,2097151,4194303,8388607,4194303,20971519,4194303,71303167,255852543,524287999,1061158911,4194303,4282384383,8577351679,17179869183,34359738367,68719476735,137438953471] Qx rfl (by kernel_rfl) (fun u hu => (tN (Ql hu ?_)))))))
  rcases Qg h with ⟨ac, h⟩ | ⟨ac, h⟩
  refine Qp rfl ac ?_
  refine Ql ?_ (Mp K h)
  exact tq rfl rfl
  refine Qo rfl ac (T.skip (Qk (tN (Qr (mw rfl (oI rfl (aw rfl (nL (tN ?_)))))))))
  refine Qf ?_ (ih (wI (j + (1:Int))) x0 x1 x2 p q b h)
  exact tq rfl rfl
  refine dO g rfl rfl (dO g rfl rfl (dO g rfl rfl (dO g rfl rfl (dO g rfl rfl (dO g rfl rfl (dO g rfl rfl ?_))))))
  refine dO g rfl rfl (dO g rfl rfl (dO g rfl rfl (dO g rfl rfl (dO g rfl rfl (dO g rfl rfl (dO g rfl rfl ?_))))))
  refine dZ rfl (.n m rfl) g rfl (dZ rfl (.f rfl) m rfl (dF [0,1,0,7,15,31,63,127,255,127,1023,2047,4095,8191,16383,32767,65535,32767,262143,524287,1048575,2097151,4194303,8388607,4194303,20971519,4194303,71303167,255852543,524287999,1061158911,4194303,4282384383,8577351679,17179869183,34359738367,68719476735,137438953471] Qx rfl (by kernel_rfl) (fun u hu => (tN (Ql hu (Qo rfl rfl (T.skip (Qk (tN (Qr (mw rfl ?_)))))))))))
  refine oI rfl (aw rfl (nL (tN ?_)))
  refine Qf ?_ (ih (wI (j + (1:Int))) x0 x1 x2 p q b h)
  exact tq rfl rfl
  refine Qo rfl aa (T.exit (Qj (Qj (Qq (tN (sR (Qr (aw rfl (nL (tN (T.ret (fd rfl (by cases h; exact ⟨rfl, rfl⟩)))))))))))))
theorem Qim (K : Nat) {x0 : Qc} {x1 : Qa} {x2 : Qd} {r : Bool} (h : Km K x0 x1 x2 = some r) : Zh tp 76 [.agg ((Q5.dc 256 .u8 x0.Split.Of) ++ (([.int .i64 x0.Split.Many, .sl false 2 (mA x0.Counts), .sl false 4 (x0.States.map Qb)] : List DC))), .agg [.sl false 1 (mI x1.L), .sl false 1 (mI x1.R), .sl false 1 (mI x1.Rule), .sl false 1 (x1.Next.map (cL 2 Qh))], .agg [.int .i64 x2.To, .sl false 1 (mU x2.Ops)]] [] (.bool r) := by
 refine CI 85 fu76 rfl ?_
 unfold Km at h
 refine sR (Qr (sp rfl (Q8 rfl (dk rfl) rfl (fun j => (sp rfl (Q8 rfl (dk rfl) rfl (fun m => (sp rfl (Q8 rfl (dk rfl) rfl (fun g => (aw rfl (nL (tN (T.seq ?_))))))))))))))
 refine sR (Qr (oP Lj i3 rfl (oL 0 ul3 rfl (oI rfl (nL (tN ?_))))))
 rcases Qg h with ⟨p, h⟩ | ⟨p, h⟩
 refine Qp rfl p (sR (Qr (oP Lj i52 rfl (oL 0 B2 rfl (oU x2.Ops (cI .u8) B2 rfl (oI rfl (aw rfl ?_)))))))
 refine nL (tN (T.ret (Qs (fd rfl (by cases h; exact ⟨rfl, rfl⟩)))))
 refine Qo rfl p (T.skip (tN (T.seq (T.seq (Zy (dP rfl (.f rfl) Lj i3 rfl (dL 0 rfl (.f rfl) ul3 rfl ?_)))))))
 refine dI rfl (.f rfl) rfl (dV rfl rfl ?_)
 rcases Qg h with ⟨l, h⟩ | ⟨l, h⟩
 refine dO l rfl rfl (dO l rfl rfl (dO l rfl rfl (dO l rfl rfl (dO l rfl rfl (dO l rfl rfl (dY rfl (.f rfl) l rfl ?_))))))
 refine dV rfl rfl (dO rfl rfl rfl (dO rfl rfl rfl (dO rfl rfl rfl (dO rfl rfl rfl (dO rfl rfl rfl (dO rfl rfl rfl ?_))))))
 refine dO rfl rfl rfl (dO rfl rfl rfl (dO rfl rfl rfl (dO rfl rfl rfl (dO rfl rfl rfl (dO rfl rfl rfl (dY rfl (.f rfl) rfl rfl ?_))))))
 refine dF [0,1,3,7,15,31,15,79,207,511,1023,2047,4095,8191,16383,4095,36863,4095,135167,495615,1019903,2068479,4165631,8388607,16777215] Qx rfl (by kernel_rfl) (fun u hu => (tN (Ql hu (Qp rfl rfl ?_))))
 refine Ql ?_ (Mq K h)
 exact tq rfl rfl
 refine dP rfl (.n l rfl) Lj i3 rfl (dL 0 rfl (.n l rfl) ul3 rfl (dP rfl (.n l rfl) Xz i26 rfl (dL 2 rfl (.n l rfl) Vj rfl (dN x0.States Qb rfl (.n l rfl) Vj rfl (dI rfl (.n l rfl) rfl (dZ rfl (.f rfl) l rfl ?_))))))
 refine dV rfl rfl ?_
 rcases Qg h with ⟨a, h⟩ | ⟨a, h⟩
 refine dO a rfl rfl (dO a rfl rfl (dO a rfl rfl (dO a rfl rfl (dO a rfl rfl (dO a rfl rfl (dO a rfl rfl ?_))))))
 refine dO a rfl rfl (dO a rfl rfl (dO a rfl rfl (dO a rfl rfl (dO a rfl rfl (dY rfl (.f rfl) a rfl (dF [0,1,3,7,15,31,15,79,207,511,1023,2047,4095,8191,16383,4095,36863,4095,135167,495615,1019903,2068479,4165631,8388607,16777215] Qx rfl (by kernel_rfl) (fun u hu => (tN (Ql hu ?_)))))))))
 refine Qp rfl rfl ?_
 refine Ql ?_ (Mq K h)
 exact tq rfl rfl
 refine dP rfl (.n a rfl) Lj i52 rfl (dL 0 rfl (.n a rfl) B2 rfl (dN x2.Ops (cI .u8) rfl (.n a rfl) B2 rfl (dP rfl (.n a rfl) Xz i26 rfl (dL 2 rfl (.n a rfl) Vj rfl (dP rfl (.n a rfl) Lj i3 rfl (dL 0 rfl (.n a rfl) ul3 rfl ?_))))))
 obtain ⟨b, w, h⟩ := bind_some h
 refine dX x0.States Qb rfl (.n a rfl) Vj i51 w rfl (dQ rfl (.n a rfl) V1 i38 rfl (dR rfl (.n a rfl) Zi rfl (dN b.R (cI .i64) rfl (.n a rfl) Zi rfl (dI rfl (.n a rfl) rfl (dZ rfl (.f rfl) a rfl (dF [0,1,3,7,15,31,15,79,207,511,1023,2047,4095,8191,16383,4095,36863,4095,135167,495615,1019903,2068479,4165631,8388607,16777215] Qx rfl (by kernel_rfl) (fun u hu => (tN (Ql hu ?_)))))))))
 rcases Qg h with ⟨q, h⟩ | ⟨q, h⟩
 refine Qp rfl q ?_
 refine Ql ?_ (Mq K h)
 exact tq rfl rfl
 refine Qo rfl q (T.skip (tN (T.seq (sR (Qr (aw rfl (nL (tN (T.block ?_)))))))))
 refine T.loop ?_
 refine Qf ?_ (Qew K K (0:Int) x0 x1 x2 j m g h)
 exact tr rfl (.c (.s (.s .z)) (.c (.s .z) (.c .z (.n _))))
end Go.Rv

/- Each function computes what its plain text says: printed by a program of ours. -/
import Derived.Test.YtcmfaclkgdmpbaaGreatDoorRgW5
namespace Go.Rv
open Go.Proofs
set_option maxRecDepth 100000
set_option maxHeartbeats 4000000
set_option linter.unusedVariables false
abbrev trim_Blocks_q (r : List Int) : ES := U6 tp ff17 (fun y t => y = (.sl false 1 (mI r)) ∧ t = [.tab 0 Xs])
abbrev Rm (r : List Int) : ES := Qx 0 ((trim_Blocks_q r))
abbrev Qbb (r : List Int) : ES := fL 70 [1,1,1,1,0,0] ff17 (Rm r)
abbrev Pp (r : List Int) : ES := Qx 1 ((Qbb r))
abbrev On (r : List Int) : ES := fT 70 [1,1,1,1,0,0,0,1,1,1] ff17 (Pp r)
abbrev Ho (r : List Int) : ES := Qx 2 ((On r))
abbrev Ih (r : List Int) : ES := fL 70 [1,1,1,1,0,0,0,1,1,0,1,0,0] ff17 (Ho r)
abbrev C1 (r : List Int) : ES := fT 70 [1,1,1,1,0,0,0,1,1,0,1,0,0,1,1,1] ff17 (Ih r)
abbrev Ul (r : List Int) : ES := Qx 3 ((C1 r))
abbrev Df (r : List Int) (go : Int → Qm → Int → Int → (List Int) → (List (ByteArray × Int)) → (List Int) → Option (List Int)) : Prop := ∀ (a : Int) (x0 : Qm) (b f : Int) (g : List Int) (i : List (ByteArray × Int)) (j : List Int) (l : Nat) (m : Value) (n : Nat) (p : Value), go a x0 b f g i j = some r → TL tp 70 (ca [1,1,1,1,0,0,0,1,1,0,1,0,0] ff17) ⟨[(1, .ptr l 0), (3, .c (.ex m)), (4, .int .i64 a), (5, .c (.ex (.map (some n)))), (6, .c (.ex p)), (24, .sl false 4 (x0.States.map Qd)), (25, .int .i64 b), (26, .int .i64 f)], [(Qec l x0.Split.Of x0.Split.Many x0.Counts x0.States), .arrX m 3 1 0 (mI g), .map n (kvs kS kI i), .arrX p 3 1 0 (mI j), .tab 0 Xs]⟩ (Ho r)
theorem Ro {r : List Int} (K : Nat) (go1 : Int → Qm → Int → Int → (List Int) → (List (ByteArray × Int)) → (List Int) → Option (List Int)) (hgo1 : Df r go1) (p q : Int) (j : ByteArray) (x0 : Qm) (s u : Int) (v : List Int) (b : List (ByteArray × Int)) (m : List Int) (w : Nat) (y : Value) (aa : Nat) (ab : Value) (h : Gl K go1 p q j x0 s u v b m = some r) : T tp 70 (ca [1,1,1,1,0,0,0,1,1,0,1,0,0,1,1,0,0,1,1,1,1] ff17) ⟨[(1, .ptr w 0), (3, .c (.ex y)), (4, .int .i64 p), (5, .c (.ex (.map (some aa)))), (6, .c (.ex ab)), (7, .int .i64 q), (9, .str j), (24, .sl false 4 (x0.States.map Qd)), (25, .int .i64 s), (26, .int .i64 u)], [(Qec w x0.Split.Of x0.Split.Many x0.Counts x0.States), .arrX y 3 1 0 (mI v), .map aa (kvs kS kI b), .arrX ab 3 1 0 (mI m), .tab 0 Xs]⟩ (Ul r) := by
 unfold Gl at h
 refine Qq ?_
 iterate 4 refine mw rfl ?_
 refine sp rfl (OpT.lookup (i := 2) (g := kS) (h := kI) (z := 0) (l := b) (a := j) rfl (dk rfl) KeyK.kS ul88 ul9 i3 (fun _ => rfl) rfl rfl rfl ?_)
 obtain ⟨ac, ad, h⟩ := bind_some h
 refine sp rfl (Z0 (n := 3) (xs := m) (f := (cI .i64)) (old := ac) rfl (dk rfl) Zu i3 rfl rfl rfl ad (sp rfl (Wc (i := 3) (xs := m) (f := (cI .i64)) (old := ac) (new := ((b.lookup j).getD 0)) rfl rfl i3 rfl rfl rfl (Zp ad).2 (Qgx _) (nb rfl) rfl (nL (Qn (tN (Qq (oI rfl (mw rfl (nL (tN ?_)))))))))))
 refine Qg ?_ (hgo1 p x0 s (wI (u + (1:Int))) v b (List.set m (Int.toNat q) ((b.lookup j).getD 0)) w y aa ab h)
 exact tq rfl rfl
theorem Rp {r : List Int} (K : Nat) (go1 : Int → Qm → Int → Int → (List Int) → (List (ByteArray × Int)) → (List Int) → Option (List Int)) (hgo1 : Df r go1) (j m : Int) (f : ByteArray) (x0 : Qm) (p q : Int) (s : List Int) (b : List (ByteArray × Int)) (u : List Int) (w : Nat) (y : Value) (aa : Nat) (ab : Value) (h : Gm K go1 j m f x0 p q s b u = some r) : T tp 70 (ca [1,1,1,1,0,0,0,1,1,0,1,0,0,1,1,0,0,1,1,1] ff17) ⟨[(1, .ptr w 0), (3, .c (.ex y)), (4, .int .i64 j), (5, .c (.ex (.map (some aa)))), (6, .c (.ex ab)), (7, .int .i64 m), (9, .str f), (24, .sl false 4 (x0.States.map Qd)), (25, .int .i64 p), (26, .int .i64 q)], [(Qec w x0.Split.Of x0.Split.Many x0.Counts x0.States), .arrX y 3 1 0 (mI s), .map aa (kvs kS kI b), .arrX ab 3 1 0 (mI u), .tab 0 Xs]⟩ (Ul r) := by
 unfold Gm at h
 refine T.seq (sR (Qq (mw rfl (mw rfl (sp rfl (Qer (i := 2) (g := kS) (h := kI) (z := 0) (l := b) (a := f) rfl (dk rfl) KeyK.kS ul88 ul9 i3 (fun _ => rfl) rfl rfl rfl (mw rfl (oE rfl ?_))))))))
 refine oE rfl (aw rfl (aw rfl (nL (tN (sR (Qq (mw rfl (oT rfl (nL (tN ?_))))))))))
 rcases Qe h with ⟨ac, h⟩ | ⟨ac, h⟩
 refine Qp rfl ac (Qq ?_)
 iterate 3 refine mw rfl ?_
 refine sp rfl (Qeg (i := 2) (g := kS) (h := kI) (l := b) rfl (dk rfl) ul88 rfl rfl ?_)
 obtain ⟨ad, h⟩ := Q6 h
 refine sp rfl (OpT.mapPut (i := 2) (g := kS) (h := kI) (l := b) (a := f) (v := (b.length : Int)) rfl rfl KeyK.kS ul88 ul9 rfl rfl rfl rfl ad (nL (tN ?_)))
 refine Qk ?_ (Ro K go1 hgo1 j m f x0 p q s (b ++ [(f, (b.length : Int))]) u w y aa ab h)
 exact tq rfl rfl
 refine Qo rfl ac (T.skip (tN ?_))
 refine Qk ?_ (Ro K go1 hgo1 j m f x0 p q s b u w y aa ab h)
 exact tq rfl rfl
abbrev Rn (r : List Int) (go : Int → Qm → (List Int) → Option (List Int)) : Prop := ∀ (a : Int) (x0 : Qm) (b : List Int) (f : Nat) (g : Value), go a x0 b = some r → TL tp 70 (ca [1,1,1,1,0,0] ff17) ⟨[(1, .ptr f 0), (3, .c (.ex g)), (4, .int .i64 a)], [(Qec f x0.Split.Of x0.Split.Many x0.Counts x0.States), .arrX g 3 1 0 (mI b), .tab 0 Xs]⟩ (Rm r)
theorem Qev {r : List Int} (K : Nat) (go0 : Int → Qm → (List Int) → Option (List Int)) (hgo0 : Rn r go0) : ∀ (k : Nat), Df r (X6 K go0 k) := by
 intro k
 induction k with
 | zero =>
  intro af x0 ag m p w ac aa j ad ab h
  exact zn h
 | succ k ih =>
  intro af x0 ag m p w ac aa j ad ab h
  rw [X6] at h
  refine Q3 (sR (Qq (oI rfl (nL (tN (T.seq ?_))))))
  rcases Qe h with ⟨aj, h⟩ | ⟨aj, h⟩
  refine Qp rfl aj (T.skip (tN (T.seq (T.block (sR (Qq (mw rfl ?_)))))))
  obtain ⟨b, aq, h⟩ := bind_some h
  refine oX x0.States Qd Uh i51 aq rfl (oJ Ju i51 rfl (sp rfl (Zb rfl (dk rfl) i51 rfl (fun al => (aw rfl (sp rfl (Qu (i := 0) (cells' := [.d (.sl false 1 (mI b.L)), .d (.sl false 1 (mI b.R)), .d (.sl false 1 (mI b.Rule)), .d (.sl false 1 (b.Next.map (cL 2 Qi)))]) rfl rfl i51 rfl rfl rfl rfl (nb rfl) rfl (nL (tN (sR (Qq (aw rfl ?_))))))))))))
  refine nL (tN (T.seq (sR (Qq (mw rfl (oI rfl (nL (tN ?_))))))))
  rcases Qe h with ⟨am, h⟩ | ⟨am, h⟩
  refine Qp rfl am (Uv (gM rfl (fun _ => .f rfl) (fun _ => rfl) (gM rfl (fun _ => .f rfl) (fun _ => rfl) ?_)))
  obtain ⟨ai, ap, h⟩ := bind_some h
  refine dC (c := ⟨some 35, .el j 1 (Int.toNat m) 0, [(33, .c (.ex j)), (34, .int .i64 m)], [(2, .arrX j 3 1 0 (mI p))], []⟩) (fun t hm => oF rfl rfl (Z0 (n := 2) (xs := p) (f := (cI .i64)) (old := ai) rfl (dk rfl) Zu i3 hm.s0 hm.o0 hm.s1 ap ⟨u0, rfl⟩)) (fun _ => rfl) (fun _ => rfl) (dC (c := ⟨some 36, .int .i64 ai, [(35, .el j 1 (Int.toNat m) 0)], [(2, .arrX j 3 1 0 (mI p))], []⟩) (fun t hm => oF rfl rfl (Jv (i := 2) (xs := p) (f := (cI .i64)) (old := ai) rfl (dk rfl) ul3 rfl hm.s0 hm.o0 (Zp ap).2 rfl ⟨u0, rfl⟩)) (fun _ => rfl) (fun _ => rfl) ?_)
  obtain ⟨q, au, h⟩ := bind_some h
  refine dC (c := ⟨some 37, .str q, [(36, .int .i64 ai)], [(5, .tab 0 Xs)], []⟩) (fun t hm => oF rfl rfl (Ml rfl (dk rfl) fu39 rfl rfl (Zk.cons hm.s0 Zk.nil) (.tab 5 hm.o0 (.nil)) (Nl K au) ⟨u0, rfl⟩)) (fun _ => rfl) (fun _ => rfl) ?_
  obtain ⟨av, h⟩ := Q6 h
  refine dC (c := ⟨some 38, .str (q ++ (⟨#[58]⟩ : ByteArray)), [(37, .str q)], [], []⟩) (fun t hm => oF rfl rfl (Rh rfl (dk rfl) hm.s0 rfl av ⟨u0, rfl⟩)) (fun _ => rfl) (fun _ => rfl) (gW 0 [.sl false 1 (mI b.L), .sl false 1 (mI b.R), .sl false 1 (mI b.Rule), .sl false 1 (b.Next.map (cL 2 Qi))] rfl (fun _ => .f rfl) Ju i51 (fun _ => rfl) (gM rfl (fun _ => .f rfl) (fun _ => rfl) ?_))
  obtain ⟨y, ay, h⟩ := bind_some h
  refine dC (c := ⟨some 41, .str y, [(39, .agg [.sl false 1 (mI b.L), .sl false 1 (mI b.R), .sl false 1 (mI b.Rule), .sl false 1 (b.Next.map (cL 2 Qi))]), (40, .c (.ex j))], [(2, .arrX j 3 1 0 (mI p)), (5, .tab 0 Xs)], [(5, .tab 0 Xs), (2, .arrX j 3 1 0 (mI p))]⟩) (fun t hm => oF rfl rfl (Q4 (is := [5, 2]) (ph := []) rfl (dk rfl) fu40 rfl rfl (Zk.cons hm.s0 (Zk.cons hm.s1 Zk.nil)) (trim_sign_T K (wx1 := j) ay) (.cons hm.o1 rfl (.cons hm.o0 rfl (.nil))) (fun _ => rfl) (fun g => ⟨(g, 0), rfl⟩))) (fun _ => rfl) (fun _ => rfl) ?_
  obtain ⟨az, h⟩ := Q6 h
  refine dC (c := ⟨some 42, .str ((q ++ (⟨#[58]⟩ : ByteArray)) ++ y), [(38, .str (q ++ (⟨#[58]⟩ : ByteArray))), (41, .str y)], [], []⟩) (fun t hm => oF rfl rfl (Rh rfl (dk rfl) hm.s0 hm.s1 az ⟨u0, rfl⟩)) (fun _ => rfl) (fun _ => rfl) (gA rfl (fun _ => .f rfl) (fun _ => rfl) (gF [0,0,3,7,15,31,0,0,223,511,1023] Qz rfl (by kernel_rfl) (fun _ => by kernel_rfl) (fun a u hu => (tN (Qk hu ?_)))))
  refine Qk ?_ (Rp K (X6 K go0 k) ih af m ((q ++ (⟨#[58]⟩ : ByteArray)) ++ y) x0 ag m p w ac aa j ad ab h)
  exact tr rfl (.c (.s .z) (.c (.s .z) (.c (.s .z) (.c (.s .z) (.c (.s .z) (.n _))))))
  refine Qo rfl am (T.skip (tN ?_))
  refine Qk ?_ (Rp K (X6 K go0 k) ih af m (⟨#[102, 105, 114, 115, 116]⟩ : ByteArray) x0 ag m p w ac aa j ad ab h)
  exact tr rfl (.c (.s .z) (.c (.s .z) (.c (.s .z) (.c (.s .z) (.c (.s .z) (.n _))))))
  refine Qo rfl aj (T.exit (Ql (Ql (Qr (tN (sR (Qq (mw rfl (aw rfl (nL (tN (T.seq ?_))))))))))))
  refine sR (Qq (mw rfl (sp rfl (Qeg (i := 2) (g := kS) (h := kI) (l := w) rfl (dk rfl) ul88 rfl rfl (mw rfl (oI rfl (nL (tN ?_))))))))
  rcases Qe h with ⟨an, h⟩ | ⟨an, h⟩
  refine Qp rfl an (sR (Qq (mw rfl (aw rfl (nL (tN (T.ret (Qv (Q1 (Qv (Q1 (Xr (Gn 3 rfl) ?_))))))))))))
  refine Xr (Zy.view 2 3 rfl rfl) (Q2 (.cons _ _ _ _ (.tmp 2 _ rfl) .nil) (.cons 4 rfl (.nil _)) (by cases h; exact ⟨rfl, rfl⟩))
  refine Qo rfl an (T.skip (tN (Qq (mw rfl (sp rfl (Qeg (i := 2) (g := kS) (h := kI) (l := w) rfl (dk rfl) ul88 rfl rfl (aw rfl (nL (Qn (tN ?_))))))))))
  refine Qg ?_ (hgo0 (w.length : Int) x0 ac aa ab h)
  exact tr rfl (.c .z (.c (.s (.s .z)) (.c (.s (.s .z)) (.n _))))
theorem Qew {r : List Int} (K : Nat) : ∀ (k : Nat), Rn r (Uz K k) := by
 intro k
 induction k with
 | zero =>
  intro b x0 a d g h
  exact zn h
 | succ k ih =>
  intro b x0 a d g h
  rw [Uz] at h
  refine Q3 (T.block (sR (Qq (sp rfl (OpT.makeMap rfl (dk rfl) (fun j => (aw rfl (nL (tN (sR (Qq (mw rfl ?_))))))))))))
  refine sp rfl (J4 (i := 2) (xs := a) (f := (cI .i64)) rfl (dk rfl) Zu rfl rfl ?_)
  obtain ⟨l, h⟩ := Q6 h
  obtain ⟨m, h⟩ := Q6 h
  refine sp rfl (Gp (f := (cI .i64)) (zv := ((0:Int) : Int)) rfl (dk rfl) Zu i3 (by decide) rfl rfl rfl rfl rfl l m (fun p => (aw rfl (nL (tN (T.seq (sR (Qq (oP Jl i26 rfl (oL 2 Uh rfl ?_))))))))))
  refine oU x0.States Qd Uh rfl (mw rfl (nL (tN (T.block (T.loop ?_)))))
  refine Qg ?_ (Qev K (Uz K k) ih K b x0 (x0.States.length : Int) (0:Int) a [] (List.replicate (Int.toNat (a.length : Int)) ((0:Int) : Int)) d g j p h)
  exact tr rfl (.c (.s (.s .z)) (.c (.s (.s .z)) (.c (.s .z) (.c .z (.c .z (.n _))))))
theorem trim_Blocks_T (K : Nat) {x0 : Qm} {r : List Int} (h : E7 K x0 = some r) : Zl tp 17 [.agg ((Zg.dc 256 .u8 x0.Split.Of) ++ (([.int .i64 x0.Split.Many, .sl false 2 (mA x0.Counts), .sl false 4 (x0.States.map Qd)] : List DC)))] [.tab 0 Xs] (.sl false 1 (mI r)) := by
 refine CI 70 fu17 rfl ?_
 unfold E7 at h
 refine sR (Qq (sp rfl (Zc rfl (dk rfl) rfl (fun b => (aw rfl (nL (tN (T.seq (sR (Qq (oA 0 ((Zg.dc 256 .u8 x0.Split.Of) ++ (([.int .i64 x0.Split.Many, .sl false 2 (mA x0.Counts), .sl false 4 (x0.States.map Qd)] : List DC))) Jl i28 rfl ?_)))))))))))
 obtain ⟨p, d, h⟩ := bind_some h
 refine oH fu24 (Zl.nil (T5 K d)) rfl (oT rfl (nL (tN ?_)))
 rcases Qe h with ⟨a, h⟩ | ⟨a, h⟩
 refine Qp rfl a (sR (Qq (aw rfl (nL (tN (T.ret (Qv (Xr (Pg 2 false 1 rfl) (Q2 (.cons _ _ _ _ (.tmp 2 _ rfl) .nil) (.cons 1 rfl (.nil _)) (by cases h; exact ⟨rfl, rfl⟩))))))))))
 refine Qo rfl a (T.skip (tN (sR (Qq (oP Jl i26 rfl (oL 0 Uh rfl (oU x0.States Qd Uh rfl ?_)))))))
 obtain ⟨g, h⟩ := Q6 h
 obtain ⟨j, h⟩ := Q6 h
 refine sp rfl (Gp (f := (cI .i64)) (zv := ((0:Int) : Int)) rfl (dk rfl) Zu i3 (by decide) rfl rfl rfl rfl rfl g j (fun m => (aw rfl (nL (tN (sR (Qq (aw rfl (nL (tN (T.block (T.loop ?_))))))))))))
 refine Qg ?_ (Qew K K (0:Int) x0 (List.replicate (Int.toNat (x0.States.length : Int)) ((0:Int) : Int)) b m h)
 exact tr rfl (.c (.s .z) (.c .z (.c .z (.n _))))
abbrev R1 (bx0 : Nat) (r : Qb) : ES := U6 tp Qcm (fun y t => ∃ γ : Nat → Value, y = (.tup []) ∧ t = [(U3 bx0 r.Auto.Split.Of r.Auto.Split.Many r.Auto.Counts r.Auto.States)])
abbrev Nf (bx0 : Nat) (r : Qb) : ES := fT 102 [1,1] Qcm (R1 bx0 r)
abbrev La (bx0 : Nat) (r : Qb) : ES := Qx 0 ((Nf bx0 r))
abbrev E3 (bx0 : Nat) (r : Qb) : ES := fL 102 [1,0,1,0,0] Qcm (La bx0 r)
abbrev B7 (bx0 : Nat) (r : Qb) : ES := fT 102 [1,0,1,0,0,1,1,1] Qcm (E3 bx0 r)
abbrev K8 (bx0 : Nat) (r : Qb) : ES := Qx 1 ((B7 bx0 r))
abbrev K7 (bx0 : Nat) (r : Qb) : ES := fT 102 [1,0,1,0,0,1,1,0,0,1,1,1] Qcm (K8 bx0 r)
abbrev V1 (bx0 : Nat) (r : Qb) : ES := Qx 2 ((K7 bx0 r))
abbrev Kh (bx0 : Nat) (r : Qb) : ES := fL 102 [1,0,1,0,0,1,1,0,0,1,1,0,1,0,0] Qcm (V1 bx0 r)
abbrev Gr (bx0 : Nat) (r : Qb) : ES := fT 102 [1,0,1,0,0,1,1,0,0,1,1,0,1,0,0,1,1,1] Qcm (Kh bx0 r)
abbrev Jn (bx0 : Nat) (r : Qb) : ES := Qx 3 ((Gr bx0 r))
abbrev Y9 (bx0 : Nat) (r : Qb) : ES := Qx 4 ((Jn bx0 r))
abbrev Ws (bx0 : Nat) (r : Qb) : ES := fL 102 [1,0,1,0,0,1,1,0,0,1,1,0,1,0,0,1,1,0,0,1,1,0,0] Qcm (Y9 bx0 r)
abbrev Jm (bx0 : Nat) (r : Qb) : ES := fT 102 [1,0,1,0,0,1,1,0,0,1,1,0,1,0,0,1,1,0,0,1,1,0,0,1,1,1] Qcm (Ws bx0 r)
abbrev Yj (bx0 : Nat) (r : Qb) : ES := Qx 5 ((Jm bx0 r))
abbrev Uw (bx0 : Nat) (r : Qb) : ES := fT 102 [1,0,1,0,0,1,1,0,0,1,1,0,1,0,0,1,1,0,0,1,1,0,0,1,1,0,0,1,1,1] Qcm (Yj bx0 r)
abbrev J6 (bx0 : Nat) (r : Qb) (go : (List Int) → Int → Int → Qb → Int → Int → (List (List Qc)) → Int → Int → (List Qc) → Int → Int → (List Qa) → (List Int) → (List Int) → (List Int) → (List (List Qc)) → (List (List Qc)) → Option Qb) : Prop := ∀ (x1 : List Int) (a b : Int) (x0 : Qb) (f g : Int) (i : List (List Qc)) (j l : Int) (m : List Qc) (n p : Int) (q : List Qa) (s u v : List Int) (w y : List (List Qc)) (flx1 : Bool) (z : Value) (aa : Nat) (ab : Value), go x1 a b x0 f g i j l m n p q s u v w y = some r → TL tp 102 (ca [1,0,1,0,0,1,1,0,0,1,1,0,1,0,0,1,1,0,0,1,1,0,0] Qcm) ⟨[(0, .ptr bx0 0), (1, .sl flx1 1 (mI x1)), (4, .c (.ex z)), (5, .int .i64 a), (6, .ptr aa 0), (7, .c (.ex ab)), (8, .int .i64 b), (24, .sl false 4 (x0.Auto.States.map Qd)), (25, .int .i64 f), (26, .int .i64 g), (36, .sl false 1 (i.map (cL 2 Qi))), (37, .int .i64 j), (38, .int .i64 l), (43, .sl false 2 (m.map Qi)), (44, .int .i64 n), (45, .int .i64 p)], [(U3 bx0 x0.Auto.Split.Of x0.Auto.Split.Many x0.Auto.Counts x0.Auto.States), .arrX z 51 4 0 (q.map Qd), (K3 aa s u v w), .arrG ab 55 (gc 54 2 Qi y)]⟩ (Y9 bx0 r)
theorem Ko {r : Qb} (K bx0 : Nat) (go2 : (List Int) → Int → Int → Qb → Int → Int → (List (List Qc)) → Int → Int → (List Qc) → Int → Int → (List Qa) → (List Int) → (List Int) → (List Int) → (List (List Qc)) → (List (List Qc)) → Option Qb) (hgo2 : J6 bx0 r go2) (x1 : List Int) (ac g : Int) (x0 : Qb) (ad af : Int) (ag : List (List Qc)) (ai aj : Int) (al : List Qc) (am an : Int) (ap : List Qa) (aq au av : List Int) (ay p : List (List Qc)) (j : Int) (m : List Int) (flx1 : Bool) (v : Value) (aa : Nat) (b : Value) (ab : Nat) (h : Xm K go2 x1 ac g x0 ad af ag ai aj al am an ap aq au av ay p j m = some r) : T tp 102 (ca [1,0,1,0,0,1,1,0,0,1,1,0,1,0,0,1,1,0,0,1,1,0,0,1,1,0,0,1,1,1] Qcm) ⟨[(0, .ptr bx0 0), (1, .sl flx1 1 (mI x1)), (4, .c (.ex v)), (5, .int .i64 ac), (6, .ptr aa 0), (7, .c (.ex b)), (8, .int .i64 g), (12, .ptr ab 0), (24, .sl false 4 (x0.Auto.States.map Qd)), (25, .int .i64 ad), (26, .int .i64 af), (36, .sl false 1 (ag.map (cL 2 Qi))), (37, .int .i64 ai), (38, .int .i64 aj), (43, .sl false 2 (al.map Qi)), (44, .int .i64 am), (45, .int .i64 an)], [(U3 bx0 x0.Auto.Split.Of x0.Auto.Split.Many x0.Auto.Counts x0.Auto.States), .arrX v 51 4 0 (ap.map Qd), (K3 aa aq au av ay), .arrG b 55 (gc 54 2 Qi p), (Qaw ab j m)]⟩ (Yj bx0 r) := by
 unfold Xm at h
 refine Qk Yc (Qk Yc (Uv (gM rfl (fun _ => .f rfl) (fun _ => rfl) (gM rfl (fun _ => .f rfl) (fun _ => rfl) (gM rfl (fun _ => .f rfl) (fun _ => rfl) (gM rfl (fun _ => .f rfl) (fun _ => rfl) ?_))))))
 obtain ⟨q, az, h⟩ := bind_some h
 refine dC (c := ⟨some 74, .el b 1 (Int.toNat g) 0, [(72, .c (.ex b)), (73, .int .i64 g)], [(5, .arrG b 55 (gc 54 2 Qi p))], []⟩) (fun t hm => oF rfl rfl (Ri (n := 5) (l := p) (y := q) rfl (dk rfl) If i55 hm.s0 hm.o0 hm.s1 az ⟨u0, rfl⟩)) (fun _ => rfl) (fun _ => rfl) (DGG.step (c := fun a => ⟨some 75, .c (.ex ((a 5).1 0)), [(74, .el b 1 (Int.toNat g) 0)], [(5, .arrG b 55 (gc 54 2 Qi p)), (0, .ro 0 [])], [(5, .arrG b 55 (gh 54 2 Qi p (Int.toNat g) ((a 5).1 0))), (0, .arrA ((a 5).1 0) 54 2 (q.map Qi))]⟩) [5] (fun a γ' h => by simp only [h 5 (by decide)]) (fun a t hm => oF rfl rfl (Qef (i := 5) (kk := 0) (l := p) (y := q) rfl (dk rfl) E2 rfl hm.s0 hm.o0 (Zp az).2 hm.o1 (fun w => ⟨(fun _ => w, 0), rfl⟩))) (fun a => Zj rfl rfl) (gW 6 [.int .i64 j, .sl false 1 (mU m)] rfl (fun _ => .f rfl) Bi i54 (fun _ => rfl) (dC (c := ⟨some 77, .sl true 2 ([(Qc.mk j m)].map Qi), [(76, .agg [.int .i64 j, .sl false 1 (mU m)])], [], []⟩) (fun t hm => oF rfl rfl (OpT.buildSlice (elems := ([(Qc.mk j m)] : List Qc).map Qi) rfl (dk rfl) E2 i54 (by decide) rfl (G9 rfl) (Yx hm.s0 rfl Gi) rfl rfl (Vg rfl) (by decide) ⟨u0, rfl⟩)) (fun _ => rfl) (fun _ => rfl) ?_)))
 obtain ⟨a0, h⟩ := Q6 h
 refine DGG.step (c := fun a => ⟨some 78, .c (.ex ((a 8).1 0)), [(77, .sl true 2 ([(Qc.mk j m)].map Qi)), (75, .c (.ex ((a 5).1 0)))], [(0, .arrA ((a 5).1 0) 54 2 (q.map Qi))], [(0, .arrA ((a 8).1 0) 54 2 ((q ++ [(Qc.mk j m)]).map Qi))]⟩) [5, 8] (fun a γ' h => by simp only [h 5 (by decide), h 8 (by decide)]) (fun a t hm => oF rfl rfl (Zr (i := 0) (xs := q) (ys := [(Qc.mk j m)]) (f := Qi) rfl (dk rfl) E2 i54 rfl hm.s1 hm.o0 hm.s0 a0 (fun w => ⟨(fun _ => w, 0), rfl⟩))) (fun a => Zj rfl rfl) (DGG.step (c := fun a => ⟨some 79, .el b 1 (Int.toNat g) 0, [(70, .c (.ex b)), (71, .int .i64 g)], [(5, .arrG b 55 (gh 54 2 Qi p (Int.toNat g) ((a 5).1 0)))], []⟩) [5] (fun a γ' h => by simp only [h 5 (by decide)]) (fun a t hm => oF rfl rfl (Qcj (n := 5) (l := p) (y := q) rfl (dk rfl) If i55 hm.s0 hm.o0 hm.s1 az ⟨u0, rfl⟩)) (fun a => Zj rfl rfl) (DGG.step (c := fun a => ⟨none, .any, [(79, .el b 1 (Int.toNat g) 0), (78, .c (.ex ((a 8).1 0)))], [(5, .arrG b 55 (gh 54 2 Qi p (Int.toNat g) ((a 5).1 0))), (0, .arrA ((a 8).1 0) 54 2 ((q ++ [(Qc.mk j m)]).map Qi))], [(5, .arrG b 55 (gc 54 2 Qi (List.set p (Int.toNat g) (q ++ [(Qc.mk j m)])))), (0, .ro 0 [])]⟩) [5, 8] (fun a γ' h => by simp only [h 5 (by decide), h 8 (by decide)]) (fun a t hm => oF rfl rfl (Qci (i := 5) (kk := 0) (l := p) (old := q) (y' := (q ++ [(Qc.mk j m)])) rfl rfl i55 hm.s0 hm.s1 hm.o0 (Zp az).2 hm.o1 ⟨u0, rfl⟩)) (fun a => Zj rfl rfl) (gF [0,0,0,0,12,28,0,64,252,511,1023] Qz rfl (by kernel_rfl) (fun _ => by kernel_rfl) (fun a u hu => (Qn (tN (Qk hu (Qq (oI rfl (mw rfl ?_))))))))))
 refine nL (tN ?_)
 refine Qg ?_ (hgo2 x1 ac g x0 ad af ag ai aj al am (wI (an + (1:Int))) ap aq au av ay (List.set p (Int.toNat g) (q ++ [(Qc.mk j m)])) flx1 v aa b h)
 exact tr rfl (.c (.s (.s .z)) (.c (.s (.s .z)) (.c (.s (.s .z)) (.c (.s (.s .z)) (.n _)))))
theorem Kn {r : Qb} (K bx0 : Nat) (go2 : (List Int) → Int → Int → Qb → Int → Int → (List (List Qc)) → Int → Int → (List Qc) → Int → Int → (List Qa) → (List Int) → (List Int) → (List Int) → (List (List Qc)) → (List (List Qc)) → Option Qb) (hgo2 : J6 bx0 r go2) (x1 : List Int) (a b : Int) (x0 : Qb) (f g : Int) (i : List (List Qc)) (j l : Int) (m : List Qc) (p q : Int) (s : List Qa) (u v w : List Int) (y aa : List (List Qc)) (flx1 : Bool) (ab : Value) (ac : Nat) (ad : Value) (af : Nat) (h : Xl K go2 x1 a b x0 f g i j l m p q s u v w y aa = some r) : T tp 102 (ca [1,0,1,0,0,1,1,0,0,1,1,0,1,0,0,1,1,0,0,1,1,0,0,1,1,0,0,1,1,0,1,1] Qcm) ⟨[(0, .ptr bx0 0), (1, .sl flx1 1 (mI x1)), (4, .c (.ex ab)), (5, .int .i64 a), (6, .ptr ac 0), (7, .c (.ex ad)), (8, .int .i64 b), (12, .ptr af 0), (24, .sl false 4 (x0.Auto.States.map Qd)), (25, .int .i64 f), (26, .int .i64 g), (36, .sl false 1 (i.map (cL 2 Qi))), (37, .int .i64 j), (38, .int .i64 l), (43, .sl false 2 (m.map Qi)), (44, .int .i64 p), (45, .int .i64 q)], [(U3 bx0 x0.Auto.Split.Of x0.Auto.Split.Many x0.Auto.Counts x0.Auto.States), .arrX ab 51 4 0 (s.map Qd), (K3 ac u v w y), .arrG ad 55 (gc 54 2 Qi aa), (Qaw af (-1:Int) ([] : List Int))]⟩ (Uw bx0 r) := by
 unfold Xl at h
 refine T.skip (tN ?_)
 refine Qk ?_ (Ko K bx0 go2 hgo2 x1 a b x0 f g i j l m p q s u v w y aa (-1:Int) [] flx1 ab ac ad af h)
 exact tq rfl rfl
abbrev Kl (bx0 : Nat) (r : Qb) (go : (List Int) → Int → Qb → Int → Int → (List (List Qc)) → Int → Int → (List Qa) → (List Int) → (List Int) → (List Int) → (List (List Qc)) → (List (List Qc)) → Option Qb) : Prop := ∀ (x1 : List Int) (a : Int) (x0 : Qb) (b f : Int) (g : List (List Qc)) (i j : Int) (l : List Qa) (m n p : List Int) (q s : List (List Qc)) (flx1 : Bool) (u : Value) (v : Nat) (w : Value), go x1 a x0 b f g i j l m n p q s = some r → TL tp 102 (ca [1,0,1,0,0,1,1,0,0,1,1,0,1,0,0] Qcm) ⟨[(0, .ptr bx0 0), (1, .sl flx1 1 (mI x1)), (4, .c (.ex u)), (5, .int .i64 a), (6, .ptr v 0), (7, .c (.ex w)), (24, .sl false 4 (x0.Auto.States.map Qd)), (25, .int .i64 b), (26, .int .i64 f), (36, .sl false 1 (g.map (cL 2 Qi))), (37, .int .i64 i), (38, .int .i64 j)], [(U3 bx0 x0.Auto.Split.Of x0.Auto.Split.Many x0.Auto.Counts x0.Auto.States), .arrX u 51 4 0 (l.map Qd), (K3 v m n p q), .arrG w 55 (gc 54 2 Qi s)]⟩ (V1 bx0 r)
theorem Ng {r : Qb} (K bx0 : Nat) (go1 : (List Int) → Int → Qb → Int → Int → (List (List Qc)) → Int → Int → (List Qa) → (List Int) → (List Int) → (List Int) → (List (List Qc)) → (List (List Qc)) → Option Qb) (hgo1 : Kl bx0 r go1) : ∀ (k : Nat), J6 bx0 r (Zf K go1 k) := by
 intro k
 induction k with
 | zero =>
  intro x1 aa au x0 ab ac ad af ag ai av ay aj al am an ap aq flx1 q w y h
  exact zn h
 | succ k ih =>
  intro x1 aa au x0 ab ac ad af ag ai av ay aj al am an ap aq flx1 q w y h
  rw [Zf] at h
  refine Q3 (sR (Qq (oI rfl (nL (tN (T.seq ?_))))))
  rcases Qe h with ⟨az, h⟩ | ⟨az, h⟩
  refine Qp rfl az (T.skip (tN (T.seq (T.block (sR (Qq ?_))))))
  obtain ⟨g, a2, h⟩ := bind_some h
  refine oX ai Qi E2 i54 a2 rfl (oJ Bi i54 rfl (sp rfl (Zb rfl (dk rfl) i54 rfl (fun j => (sp rfl (Qu (i := 0) (cells' := [.d (.int .i64 g.To), .d (.sl false 1 (mU g.Ops))]) rfl rfl i54 rfl rfl rfl rfl (nb rfl) rfl (nL (tN (sR (Qq (sp rfl (Zm (OpT.build (l := [.int .i64 (-1:Int), .ex (.slice none 0 0)]) rfl (dk rfl) (Zq (pl := [(0, 1), (1, 1)]) Bi i54 rfl) (G9 rfl) rfl rfl rfl) (Z5 49 (l := [.int .i64 (-1:Int), .ex (.slice none 0 0)]) (l' := [.int .i64 (-1:Int), .sl false 1 (([] : List Int).map (cI .u8))]) (.cons (.same _) (.cons (.nil _ _) (.refl _)))) (sp rfl (Zb rfl (dk rfl) i54 rfl (fun p => ?_)))))))))))))))
  refine sp rfl (Qu (i := 0) (cells' := [.d (.int .i64 (-1:Int)), .d (.sl false 1 (([] : List Int).map (cI .u8)))]) rfl rfl i54 rfl rfl rfl rfl (nb rfl) rfl (nL (tN (T.seq (sR (Qq (oP Bi i3 rfl (oL 1 ul3 rfl (oI rfl ?_)))))))))
  refine mw rfl ?_
  rcases Qe h with ⟨b, h⟩ | ⟨b, h⟩
  refine sn rfl b (OpT.move rfl (dk rfl) rfl (sn rfl b (Xi rfl (dk rfl) Bi rfl i3 (by decide) rfl (sn rfl b (Zw (i := 1) rfl (dk rfl) ul3 rfl rfl rfl rfl ?_)))))
  obtain ⟨a, a1, h⟩ := bind_some h
  refine sn rfl b (J5 (xs := x1) (f := (cI .i64)) (v := a) rfl (dk rfl) Zu i3 rfl rfl a1 (sn rfl b (H9 rfl (dk rfl) ul3 rfl rfl rfl (sn rfl b (Zi rfl rfl (dk rfl) rfl rfl (oY b rfl (nL (tN ?_))))))))
  rcases Qe h with ⟨a0, h⟩ | ⟨a0, h⟩
  refine Qp rfl a0 (Yg (dV rfl rfl (dP rfl (.f rfl) Bi i3 rfl (dL 1 rfl (.f rfl) ul3 rfl (dX x1 (cI .i64) rfl (.f rfl) Zu i3 a1 rfl (dR rfl (.f rfl) ul3 rfl ?_))))))
  refine dP rfl (.f rfl) Bi i52 rfl (dL 1 rfl (.f rfl) B6 rfl ?_)
  obtain ⟨m, a3, h⟩ := bind_some h
  refine dH fu94 (Zl.nil (D9 K (flx0 := false) a3)) rfl (.f rfl) rfl (dS (c := ⟨some 69, .agg [.int .i64 a, .sl false 1 (mU m)], [(65, .int .i64 a), (68, .sl false 1 (mU m))], [], []⟩) (fun t hm => oF rfl rfl (OpT.build (l := [.int .i64 a, .sl false 1 (mU m)]) rfl (dk rfl) (Zq (pl := [(0, 1), (1, 1)]) Bi i54 rfl) (G9 rfl) (Yx hm.s0 rfl (Yx hm.s1 rfl Gi)) rfl rfl)) rfl rfl (dS (c := ⟨none, .any, [(12, .ptr p 0), (69, .agg [.int .i64 a, .sl false 1 (mU m)])], [(0, (Qaw p (-1:Int) ([] : List Int)))], [(0, (Qaw p a m))]⟩) (fun t hm => oF rfl rfl (Qu (i := 0) (cells' := [.d (.int .i64 a), .d (.sl false 1 (mU m))]) rfl rfl i54 hm.s0 hm.s1 rfl hm.o0 (nb rfl) rfl rfl)) rfl rfl (dF [0,0,2,7,15,0,32,96,255,511] Qz rfl (by kernel_rfl) (fun u hu => (tN (Qk hu ?_))))))
  refine Qk ?_ (Ko K bx0 (Zf K go1 k) ih x1 aa au x0 ab ac ad af ag ai av ay aj al am an ap aq a m flx1 q w y p h)
  exact tr rfl (.c (.s (.s .z)) (.c (.s (.s .z)) (.c (.s (.s .z)) (.c (.s (.s .z)) (.c .z (.n _))))))
  refine Qo rfl a0 ?_
  refine Qk ?_ (Kn K bx0 (Zf K go1 k) ih x1 aa au x0 ab ac ad af ag ai av ay aj al am an ap aq flx1 q w y p h)
  exact tr rfl (.c (.s (.s .z)) (.c (.s (.s .z)) (.c (.s (.s .z)) (.c (.s (.s .z)) (.c .z (.n _))))))
  refine pf rfl b (pf rfl b (pf rfl b (pf rfl b (pf rfl b (pf rfl b (oZ b rfl ?_))))))
  refine nL (tN (Qo rfl rfl ?_))
  refine Qk ?_ (Kn K bx0 (Zf K go1 k) ih x1 aa au x0 ab ac ad af ag ai av ay aj al am an ap aq flx1 q w y p h)
  exact tr rfl (.c (.s (.s .z)) (.c (.s (.s .z)) (.c (.s (.s .z)) (.c (.s (.s .z)) (.c .z (.n _))))))
  refine Qo rfl az (T.exit (Ql (Ql (Qr (Qn (tN (Qq (oI rfl (mw rfl (nL (tN ?_)))))))))))
  refine Qg ?_ (hgo1 x1 aa x0 ab ac ad af (wI (ag + (1:Int))) aj al am an ap aq flx1 q w y h)
  exact tq rfl rfl
abbrev Km (bx0 : Nat) (r : Qb) (go : (List Int) → Qb → Int → Int → (List Qa) → Option Qb) : Prop := ∀ (x1 : List Int) (x0 : Qb) (a b : Int) (f : List Qa) (flx1 : Bool) (g : Value), go x1 x0 a b f = some r → TL tp 102 (ca [1,0,1,0,0] Qcm) ⟨[(0, .ptr bx0 0), (1, .sl flx1 1 (mI x1)), (4, .c (.ex g)), (24, .sl false 4 (x0.Auto.States.map Qd)), (25, .int .i64 a), (26, .int .i64 b)], [(U3 bx0 x0.Auto.Split.Of x0.Auto.Split.Many x0.Auto.Counts x0.Auto.States), .arrX g 51 4 0 (f.map Qd)]⟩ (La bx0 r)
theorem Nh {r : Qb} (K bx0 : Nat) (go0 : (List Int) → Qb → Int → Int → (List Qa) → Option Qb) (hgo0 : Km bx0 r go0) : ∀ (k : Nat), Kl bx0 r (Z7 K go0 k) := by
 intro k
 induction k with
 | zero =>
  intro x1 s x0 ac ad ag am ai j w y aa ab b flx1 g a aj h
  exact zn h
 | succ k ih =>
  intro x1 s x0 ac ad ag am ai j w y aa ab b flx1 g a aj h
  rw [Z7] at h
  refine Q3 (sR (Qq (oI rfl (nL (tN (T.seq ?_))))))
  rcases Qe h with ⟨al, h⟩ | ⟨al, h⟩
  refine Qp rfl al (T.skip (tN (T.seq (T.block (sR (Qq (mw rfl ?_)))))))
  obtain ⟨af, aq, h⟩ := bind_some h
  refine oX ag (cL 2 Qi) If i55 aq rfl (oR E2 rfl (aw rfl (aw rfl (nL (tN (sR (Qq (mw rfl (oU af Qi E2 rfl ?_)))))))))
  refine mw rfl (nL (tN (T.block (T.loop ?_))))
  refine Qg ?_ (Ng K bx0 (Z7 K go0 k) ih K x1 s ai x0 ac ad ag am ai af (af.length : Int) (0:Int) j w y aa ab b flx1 g a aj h)
  exact tq rfl rfl
  refine Qo rfl al (T.exit (Ql (Ql (Qr (tN (Qk (Zy.dataG (l := b) 3 rfl) (Qk (Gn 3 rfl) (Qk (Zy.view 7 3 rfl rfl) (Yg (dV rfl rfl ?_))))))))))
  refine dV rfl rfl (dP rfl (.f rfl) Ju i38 rfl (dL 2 rfl (.f rfl) Zu rfl ?_))
  obtain ⟨m, au, h⟩ := bind_some h
  refine dH fu95 (Zl.nil (Un K (flx0 := false) au)) rfl (.f rfl) rfl (dP rfl (.f rfl) Ju i38 rfl (dL 2 rfl (.f rfl) Zu rfl ?_))
  obtain ⟨p, av, h⟩ := bind_some h
  refine dH fu95 (Zl.nil (Un K (flx0 := false) av)) rfl (.f rfl) rfl (dP rfl (.f rfl) Ju i38 rfl (dL 2 rfl (.f rfl) Zu rfl ?_))
  obtain ⟨q, ay, h⟩ := bind_some h
  refine dH fu95 (Zl.nil (Un K (flx0 := false) ay)) rfl (.f rfl) rfl (dV rfl rfl (dS (c := ⟨some 94, .agg [.sl false 1 (mI m), .sl false 1 (mI p), .sl false 1 (mI q), .sl false 1 (b.map (cL 2 Qi))], [(86, .sl false 1 (mI m)), (89, .sl false 1 (mI p)), (92, .sl false 1 (mI q)), (93, .sl false 1 (b.map (cL 2 Qi)))], [], []⟩) (fun t hm => oF rfl rfl (OpT.build (l := [.sl false 1 (mI m), .sl false 1 (mI p), .sl false 1 (mI q), .sl false 1 (b.map (cL 2 Qi))]) rfl (dk rfl) (Zq (pl := [(0, 1), (1, 1), (2, 1), (3, 1)]) Ju i51 rfl) (G9 rfl) (Yx hm.s0 rfl (Yx hm.s1 rfl (Yx hm.s2 rfl (Yx hm.s3 rfl Gi)))) rfl rfl)) rfl rfl ?_))
  obtain ⟨an, ap, h⟩ := bind_some h
  refine dS (c := ⟨some 95, .el g 4 (Int.toNat s) 0, [(82, .c (.ex g)), (83, .int .i64 s)], [(1, .arrX g 51 4 0 (j.map Qd))], []⟩) (fun t hm => oF rfl rfl (Z0 (n := 1) (xs := j) (f := Qd) (old := an) rfl (dk rfl) Uh i51 hm.s0 hm.o0 hm.s1 ap rfl)) rfl rfl (dS (c := ⟨none, .any, [(95, .el g 4 (Int.toNat s) 0), (94, .agg [.sl false 1 (mI m), .sl false 1 (mI p), .sl false 1 (mI q), .sl false 1 (b.map (cL 2 Qi))])], [(1, .arrX g 51 4 0 (j.map Qd))], [(1, .arrX g 51 4 0 ((List.set j (Int.toNat s) (Qa.mk m p q b)).map Qd))]⟩) (fun t hm => oF rfl rfl (Qay (i := 1) (xs := j) (f := Qd) (old := an) (new := (Qa.mk m p q b)) rfl rfl i51 hm.s0 hm.s1 rfl hm.o0 (Zp ap).2 (Qgx _) (nb rfl) rfl rfl)) rfl rfl (dF [0,0,0,4,12,0,32,124,0,256,1020,0,4092,8191,16383] Qz rfl (by kernel_rfl) (fun u hu => (Qn (tN (Qk hu (Qq (oI rfl (mw rfl (nL (tN ?_)))))))))))
  refine Qg ?_ (hgo0 x1 x0 ac (wI (ad + (1:Int))) (List.set j (Int.toNat s) (Qa.mk m p q b)) flx1 g h)
  exact tq rfl rfl
theorem Ni {r : Qb} (K bx0 : Nat) : ∀ (k : Nat), Km bx0 r (Z8 K k) := by
 intro k
 induction k with
 | zero =>
  intro x1 x0 p g j flx1 b h
  exact zn h
 | succ k ih =>
  intro x1 x0 p g j flx1 b h
  rw [Z8] at h
  refine Q3 (sR (Qq (oI rfl (nL (tN (T.seq ?_))))))
  rcases Qe h with ⟨m, h⟩ | ⟨m, h⟩
  refine Qp rfl m (T.skip (tN (T.seq (T.block (sR (Qq (mw rfl ?_)))))))
  obtain ⟨a, q, h⟩ := bind_some h
  refine oX x0.Auto.States Qd Uh i51 q rfl (oJ Ju i51 rfl (sp rfl (Zb rfl (dk rfl) i51 rfl (fun u => (aw rfl (sp rfl (Qu (i := 0) (cells' := [.d (.sl false 1 (mI a.L)), .d (.sl false 1 (mI a.R)), .d (.sl false 1 (mI a.Rule)), .d (.sl false 1 (a.Next.map (cL 2 Qi)))]) rfl rfl i51 rfl rfl rfl rfl (nb rfl) rfl (nL (tN (sR (Qq (oP Ju i49 rfl ?_))))))))))))
  refine oL 0 If rfl (oU a.Next (cL 2 Qi) If rfl ?_)
  obtain ⟨w, h⟩ := Q6 h
  obtain ⟨y, h⟩ := Q6 h
  refine sp rfl (Og (e1 := 54) (esz := 2) (f := Qi) rfl (dk rfl) If i55 rfl rfl w y (fun aa => (aw rfl (nL (tN (T.seq (sR (Qq (oP Ju i49 rfl (oL 1 If rfl ?_))))))))))
  refine oU a.Next (cL 2 Qi) If rfl (mw rfl (nL (tN (T.block (T.loop ?_)))))
  refine Qg ?_ (Nh K bx0 (Z8 K k) ih K x1 g x0 p g a.Next (a.Next.length : Int) (0:Int) j a.L a.R a.Rule a.Next (List.replicate (Int.toNat (a.Next.length : Int)) ([] : List Qc)) flx1 b u aa h)
  exact tr rfl (.c (.s (.s .z)) (.c (.s (.s .z)) (.c (.s .z) (.c .z (.n _)))))
  refine Qo rfl m (T.exit (Ql (Ql (Qr (tN (Qq (mw rfl (mw rfl (oK rfl (oP ul69 i28 rfl ?_))))))))))
  refine oP Jl i26 rfl (sp rfl (Jd (i := 0) (cells' := ((Zg.oc 256 .u8 x0.Auto.Split.Of) ++ (([.d (.int .i64 x0.Auto.Split.Many), .d (.sl false 2 (mA x0.Auto.Counts)), .d (.ex b)]:List OC)))) rfl rfl i26 rfl rfl rfl (nb rfl) rfl (nL (Xr (Gn 1 rfl) (Xr (Hs 0 (l := ((Zg.dc 256 .u8 x0.Auto.Split.Of) ++ (([.int .i64 x0.Auto.Split.Many, .sl false 2 (mA x0.Auto.Counts), .ex b] : List DC)))) (l' := ((Zg.dc 256 .u8 x0.Auto.Split.Of) ++ (([.int .i64 x0.Auto.Split.Many, .sl false 2 (mA x0.Auto.Counts), .sl false 4 (j.map Qd)] : List DC)))) rfl (.app _ (.cons (.same _) (.cons (.same _) (.cons (.view 1 rfl) (.refl _)))))) (Q2 (.nil) (.cons 0 rfl (.nil _)) (by cases h; exact ⟨gl [], rfl, rfl⟩)))))))
theorem R2 (K : Nat) {x0 : Qb} {x1 : List Int} {bx0 : Nat} {flx1 : Bool} {r : Qb} (h : Xu K x0 x1 = some r) : V6 tp 56 [.ptr bx0 0, .sl flx1 1 (mI x1)] [(U3 bx0 x0.Auto.Split.Of x0.Auto.Split.Many x0.Auto.Counts x0.Auto.States)] (fun γ => (.tup [])) (fun γ => [(U3 bx0 r.Auto.Split.Of r.Auto.Split.Many r.Auto.Counts r.Auto.States)]) := by
 refine CI 102 fu56 rfl ?_
 unfold Xu at h
 refine sR (Qq (mw rfl (oK rfl (oP ul69 i28 rfl (oP Jl i26 rfl (oL 0 Uh rfl (oU x0.Auto.States Qd Uh rfl ?_)))))))
 obtain ⟨a, h⟩ := Q6 h
 obtain ⟨b, h⟩ := Q6 h
 refine sp rfl (Qaz (f := Qd) (zv := ((Qa.mk [] [] [] []) : Qa)) rfl (dk rfl) Uh i51 (by decide) rfl rfl (fun _ => .cons (.nil _ _) (.cons (.nil _ _) (.cons (.nil _ _) (.cons (.nil _ _) (.refl _))))) rfl rfl rfl a b (fun g => (aw rfl (nL (tN (T.seq (sR (Qq (mw rfl (oK rfl ?_))))))))))
 refine oP ul69 i28 rfl (oP Jl i26 rfl (oL 1 Uh rfl (oU x0.Auto.States Qd Uh rfl (mw rfl (nL (tN (T.block ?_)))))))
 refine T.loop ?_
 refine Qg ?_ (Ni K bx0 K x1 x0 (x0.Auto.States.length : Int) (0:Int) (List.replicate (Int.toNat (x0.Auto.States.length : Int)) ((Qa.mk [] [] [] []) : Qa)) flx1 g h)
 exact tr rfl (.c (.s .z) (.c .z (.n _)))
abbrev Qa3 (bx0 : Nat) (r : Qb) : ES := U6 tp ff27 (fun y t => ∃ γ : Nat → Value, y = (.tup []) ∧ t = [.tab 0 Xs, (U3 bx0 r.Auto.Split.Of r.Auto.Split.Many r.Auto.Counts r.Auto.States)])
abbrev Pn (bx0 : Nat) (r : Qb) : ES := fT 41 [1,1,1] ff27 (Qa3 bx0 r)
abbrev Kp (bx0 : Nat) (r : Qb) : ES := Qx 0 ((Pn bx0 r))
abbrev Nj (bx0 : Nat) (r : Qb) : ES := fL 41 [1,1,0,1,0,0] ff27 (Kp bx0 r)
abbrev De (bx0 : Nat) (r : Qb) : ES := fT 41 [1,1,0,1,0,0,1,1,1] ff27 (Nj bx0 r)
abbrev M4 (bx0 : Nat) (r : Qb) : ES := Qx 1 ((De bx0 r))
abbrev B0 (bx0 : Nat) (r : Qb) (go : (List Int) → Int → Int → Qb → (List (Int × Int)) → (List Int) → Option Qb) : Prop := ∀ (a : List Int) (b f : Int) (x0 : Qb) (g : List (Int × Int)) (i : List Int) (j : Nat) (l : Value), go a b f x0 g i = some r → TL tp 41 (ca [1,1,0,1,0,0] ff27) ⟨[(0, .ptr bx0 0), (2, .c (.ex (.map (some j)))), (3, .c (.ex l)), (13, .sl false 1 (mI a)), (14, .int .i64 b), (15, .int .i64 f)], [(U3 bx0 x0.Auto.Split.Of x0.Auto.Split.Many x0.Auto.Counts x0.Auto.States), .map j (kvs kI kI g), .arrA l 3 1 (mI i), .tab 0 Xs]⟩ (Kp bx0 r)
theorem B1 {r : Qb} (K bx0 : Nat) (go0 : (List Int) → Int → Int → Qb → (List (Int × Int)) → (List Int) → Option Qb) (hgo0 : B0 bx0 r go0) (j : Int) (p : List Int) (q s : Int) (x0 : Qb) (b : List (Int × Int)) (m : List Int) (u : Nat) (v : Value) (h : Vr K go0 j p q s x0 b m = some r) : T tp 41 (ca [1,1,0,1,0,0,1,1,0,0,1,1] ff27) ⟨[(0, .ptr bx0 0), (2, .c (.ex (.map (some u)))), (3, .c (.ex v)), (5, .int .i64 j), (13, .sl false 1 (mI p)), (14, .int .i64 q), (15, .int .i64 s)], [(U3 bx0 x0.Auto.Split.Of x0.Auto.Split.Many x0.Auto.Counts x0.Auto.States), .map u (kvs kI kI b), .arrA v 3 1 (mI m), .tab 0 Xs]⟩ (M4 bx0 r) := by
 unfold Vr at h
 refine Qq ?_
 iterate 3 refine mw rfl ?_
 refine sp rfl (OpT.lookup (i := 1) (g := kI) (h := kI) (z := 0) (l := b) (a := j) rfl (dk rfl) KeyK.kI ul111 ul3 i3 (fun _ => rfl) rfl rfl rfl (sp rfl (OpT.buildSlice (elems := ([((b.lookup j).getD 0)] : List Int).map (cI .i64)) rfl (dk rfl) Zu i3 (by decide) rfl (G9 rfl) rfl rfl rfl (Vg rfl) (by decide) ?_)))
 obtain ⟨w, h⟩ := Q6 h
 refine sp rfl (Zr (i := 2) (xs := m) (ys := [((b.lookup j).getD 0)]) (f := (cI .i64)) rfl (dk rfl) Zu i3 rfl rfl rfl rfl w (fun y => (aw rfl (nL (Qn (tN (Qq (oI rfl (mw rfl (nL (tN ?_)))))))))))
 refine Qg ?_ (hgo0 p q (wI (s + (1:Int))) x0 b (m ++ [((b.lookup j).getD 0)]) u y h)
 exact tq rfl rfl
theorem R6 {r : Qb} (K bx0 : Nat) : ∀ (k : Nat), B0 bx0 r (Ya K k) := by
 intro k
 induction k with
 | zero =>
  intro m p d x0 j q s u h
  exact zn h
 | succ k ih =>
  intro m p d x0 j q s u h
  rw [Ya] at h
  refine Q3 (sR (Qq (oI rfl (nL (tN (T.seq ?_))))))
  rcases Qe h with ⟨w, h⟩ | ⟨w, h⟩
  refine Qp rfl w (T.skip (tN (T.seq (T.block (sR (Qq (mw rfl ?_)))))))
  obtain ⟨b, aa, h⟩ := bind_some h
  refine oX m (cI .i64) Zu i3 aa rfl (oR ul3 rfl (aw rfl (aw rfl (nL (tN (T.seq (sR (Qq ?_))))))))
  refine mw rfl (mw rfl (sp rfl (Qer (i := 1) (g := kI) (h := kI) (z := 0) (l := j) (a := b) rfl (dk rfl) KeyK.kI ul111 ul3 i3 (fun _ => rfl) rfl rfl rfl (mw rfl (oE rfl (oE rfl (aw rfl ?_)))))))
  refine aw rfl (nL (tN (sR (Qq (mw rfl (oT rfl (nL (tN ?_))))))))
  rcases Qe h with ⟨y, h⟩ | ⟨y, h⟩
  refine Qp rfl y (Qq ?_)
  iterate 3 refine mw rfl ?_
  obtain ⟨ab, h⟩ := Q6 h
  refine sp rfl (OpT.mapPut (i := 1) (g := kI) (h := kI) (l := j) (a := b) (v := d) rfl rfl KeyK.kI ul111 ul3 rfl rfl rfl rfl ab (nL (tN ?_)))
  refine Qk ?_ (B1 K bx0 (Ya K k) ih b m p d x0 (j ++ [(b, d)]) q s u h)
  exact tq rfl rfl
  refine Qo rfl y (T.skip (tN ?_))
  refine Qk ?_ (B1 K bx0 (Ya K k) ih b m p d x0 j q s u h)
  exact tq rfl rfl
  refine Qo rfl w (T.exit (Ql (Ql (Qr (tN (Qq (mw rfl (mw rfl ?_))))))))
  obtain ⟨ad, ac, h⟩ := bind_some h
  refine sp rfl (Q4 (is := [0]) (ph := []) rfl (dk rfl) fu56 rfl rfl (Zk.cons rfl (Zk.view (i := 2) rfl rfl Zk.nil)) (R2 K (bx0 := bx0) (flx1 := false) ac) (.cons rfl rfl (.nil)) (fun _ => rfl) (fun af => (nm (.c (.c (.c (.c (.n))))) (nL (Q2 (.nil) (.cons 3 rfl (.cons 0 rfl (.nil _))) (by cases h; exact ⟨gl [], rfl, rfl⟩))))))
theorem Qa4 (K : Nat) {x0 : Qb} {bx0 : Nat} {r : Qb} (h : Wu K x0 = some r) : V6 tp 27 [.ptr bx0 0] [.tab 0 Xs, (U3 bx0 x0.Auto.Split.Of x0.Auto.Split.Many x0.Auto.Counts x0.Auto.States)] (fun γ => (.tup [])) (fun γ => [.tab 0 Xs, (U3 bx0 r.Auto.Split.Of r.Auto.Split.Many r.Auto.Counts r.Auto.States)]) := by
 refine CI 41 fu27 rfl ?_
 unfold Wu at h
 refine sR (Qq (sp rfl (OpT.makeMap rfl (dk rfl) (fun b => (aw rfl (nL (tN (sR (Qq (aw rfl (nL (tN (T.seq ?_)))))))))))))
 refine sR (Qq (mw rfl (oK rfl (oP ul69 i28 rfl (oA 2 ((Zg.dc 256 .u8 x0.Auto.Split.Of) ++ (([.int .i64 x0.Auto.Split.Many, .sl false 2 (mA x0.Auto.Counts), .sl false 4 (x0.Auto.States.map Qd)] : List DC))) Jl i28 rfl ?_)))))
 obtain ⟨a, g, h⟩ := bind_some h
 refine sp rfl (Ml rfl (dk rfl) fu17 rfl rfl (Zk.cons rfl Zk.nil) (.tab 1 rfl (.nil)) (trim_Blocks_T K g) (oU a (cI .i64) Zu rfl (mw rfl (nL (tN (T.block (T.loop (Qg (Xh 3 1) ?_))))))))
 refine Qg ?_ (R6 K bx0 K a (a.length : Int) (0:Int) x0 [] [] b (Qdv 2) h)
 exact tr rfl (.c (.s (.s (.s .z))) (.c (.s .z) (.c .z (.c .z (.n _)))))
abbrev trim_Of_q (r : Qm × Int) : ES := U6 tp ff10 (fun y t => y = (.tup [.agg ((Zg.dc 256 .u8 r.1.Split.Of) ++ (([.int .i64 r.1.Split.Many, .sl false 2 (mA r.1.Counts), .sl false 4 (r.1.States.map Qd)] : List DC))), .int .i64 r.2]) ∧ t = [.tab 0 Xs])
theorem Qej {r : Qm × Int} (K : Nat) (f g : Zg) (j : Int) (m : List Zs) (p : List Qa) (q b : Nat) (h : Ew K f g j m p = some r) : T tp 36 (ca [1,1,1,1,1,1] ff10) ⟨[(2, .ptr q 0), (4, .ptr b 0)], [(b28x9 q f (0:Int) (.slice none 0 0) (.slice none 0 0)), (U3 b g j m p), .tab 0 Xs]⟩ (trim_Of_q r) := by
 unfold Ew at h
 refine sR (Qq (mw rfl ?_))
 obtain ⟨a, s, h⟩ := bind_some h
 refine sp rfl (Q4 (is := [1]) (ph := []) rfl (dk rfl) fu28 rfl rfl (Zk.cons rfl Zk.nil) (Qa2 K (bx0 := b) s) (.cons rfl rfl (.nil)) (fun _ => rfl) (fun u => (nm (.c (.c (.c (.n)))) (nL (tN (sR (Qq (mw rfl (oK rfl (oP ul69 i28 rfl (oA 1 ((Zg.dc 256 .u8 a.Auto.Split.Of) ++ (([.int .i64 a.Auto.Split.Many, .sl false 2 (mA a.Auto.Counts), .sl false 4 (a.Auto.States.map Qd)] : List DC))) Jl i28 rfl ?_)))))))))))
 refine sp rfl (Qu (i := 0) (cells' := ((Zg.oc 256 .u8 a.Auto.Split.Of) ++ (([.d (.int .i64 a.Auto.Split.Many), .d (.sl false 2 (mA a.Auto.Counts)), .d (.sl false 4 (a.Auto.States.map Qd))]:List OC)))) rfl rfl i28 rfl rfl rfl rfl (nb rfl) rfl (aw rfl (nL (tN (T.ret (Q2 (.cons _ _ _ _ (.cellAgg 2 28 _ 0 0 28 _ ((Zg.dc 256 .u8 a.Auto.Split.Of) ++ (([.int .i64 a.Auto.Split.Many, .sl false 2 (mA a.Auto.Counts), .sl false 4 (a.Auto.States.map Qd)] : List DC))) _ _ 259 _ rfl rfl rfl rfl Jl rfl i28) (.cons _ _ _ _ (.tmp 3 _ rfl) .nil)) (.cons 2 rfl (.nil _)) (by cases h; exact ⟨rfl, rfl⟩)))))))
theorem trim_Of_T (K : Nat) {x0 : Qm} {r : Qm × Int} (h : Tc K x0 = some r) : Zl tp 10 [.agg ((Zg.dc 256 .u8 x0.Split.Of) ++ (([.int .i64 x0.Split.Many, .sl false 2 (mA x0.Counts), .sl false 4 (x0.States.map Qd)] : List DC)))] [.tab 0 Xs] (.tup [.agg ((Zg.dc 256 .u8 r.1.Split.Of) ++ (([.int .i64 r.1.Split.Many, .sl false 2 (mA r.1.Counts), .sl false 4 (r.1.States.map Qd)] : List DC))), .int .i64 r.2]) := by
 refine CI 36 fu10 rfl ?_
 unfold Tc at h
 refine sR (Qq (sp rfl (Zc rfl (dk rfl) rfl (fun aa => (sp rfl (Zb rfl (dk rfl) i28 rfl (fun p => (aw rfl (nL (tN (T.seq (sR (Qq ?_)))))))))))))
 refine oA 1 ((Zg.dc 256 .u8 x0.Split.Of) ++ (([.int .i64 x0.Split.Many, .sl false 2 (mA x0.Counts), .sl false 4 (x0.States.map Qd)] : List DC))) Jl i28 rfl ?_
 obtain ⟨ab, q, h⟩ := bind_some h
 refine oH fu24 (Zl.nil (T5 K q)) rfl (oT rfl (nL (tN ?_)))
 rcases Qe h with ⟨j, h⟩ | ⟨j, h⟩
 refine Qp rfl j (sR (Qq (sp rfl (OpT.build (l := ((Zg.dc 256 .u8 (Zg.mk fun _ => 0)) ++ (([.int .i64 (0:Int), .ex (.slice none 0 0), .ex (.slice none 0 0)] : List DC)))) rfl (dk rfl) (Zq (pl := [(0, 257), (257, 1), (258, 1)]) Jl i28 rfl) (G9 rfl) rfl rfl (sp rfl (Qu (i := 0) (cells' := ((Zg.oc 256 .u8 (Zg.mk fun _ => 0)) ++ (([.d (.int .i64 (0:Int)), .d (.ex (.slice none 0 0)), .d (.ex (.slice none 0 0))]:List OC)))) rfl rfl i28 rfl rfl rfl rfl (nb rfl) rfl (aw rfl (nL (tN (T.ret (Qv ?_)))))))))))
 refine Xr (Hs 0 (l := ((Zg.dc 256 .u8 (Zg.mk fun _ => 0)) ++ (([.int .i64 (0:Int), .ex (.slice none 0 0), .ex (.slice none 0 0)] : List DC)))) (l' := ((Zg.dc 256 .u8 (Zg.mk fun _ => 0)) ++ (([.int .i64 (0:Int), .sl false 2 (([] : List Zs).map (Zs.dc .i64)), .sl false 4 (([] : List Qa).map Qd)] : List DC)))) rfl (.app _ (.cons (.same _) (.cons (.nil _ _) (.cons (.nil _ _) (.refl _)))))) ?_
 exact Q2 (.cons _ _ _ _ (.cellAgg 2 28 _ 0 0 28 _ ((Zg.dc 256 .u8 (Zg.mk fun _ => 0)) ++ (([.int .i64 (0:Int), .sl false 2 (([] : List Zs).map (Zs.dc .i64)), .sl false 4 (([] : List Qa).map Qd)] : List DC))) _ _ 259 _ rfl rfl rfl rfl Jl rfl i28) (.cons _ _ _ _ (.tmp 3 _ rfl) .nil)) (.cons 2 rfl (.nil _)) (by cases h; exact ⟨rfl, rfl⟩)
 refine Qo rfl j (T.skip (tN (sR (Qq (oA 1 ((Zg.dc 256 .u8 x0.Split.Of) ++ (([.int .i64 x0.Split.Many, .sl false 2 (mA x0.Counts), .sl false 4 (x0.States.map Qd)] : List DC))) Jl i28 rfl (sp rfl (OpT.build (l := ((Zg.dc 256 .u8 x0.Split.Of) ++ (([.int .i64 x0.Split.Many, .sl false 2 (mA x0.Counts), .sl false 4 (x0.States.map Qd)] : List DC)))) rfl (dk rfl) (Zq (pl := [(0, 259)]) ul69 i69 rfl) (G9 rfl) rfl rfl (sp rfl (Zc rfl (dk rfl) rfl (fun b => (aw rfl ?_)))))))))))
 refine nL (tN (sR (Qq (mw rfl (oP Jl i25 rfl (oL 2 Qcp rfl ?_))))))
 obtain ⟨u, v, h⟩ := bind_some h
 refine oH fu25 (Zl.nil (Tl K (flx0 := false) v)) rfl (oK rfl (oP ul69 i28 rfl (oP Jl i25 rfl (sp rfl (Jd (i := 0) (cells' := ((Zg.oc 256 .u8 x0.Split.Of) ++ (([.d (.int .i64 x0.Split.Many), .d (.sl false 2 (mA u)), .d (.sl false 4 (x0.States.map Qd))]:List OC)))) rfl rfl i25 rfl rfl rfl (nb rfl) rfl (nL (tN (sR (Qq (mw rfl ?_))))))))))
 obtain ⟨a, w, h⟩ := bind_some h
 refine sp rfl (Q4 (is := [0]) (ph := []) rfl (dk rfl) fu26 rfl rfl (Zk.cons rfl Zk.nil) (Qa6 K (bx0 := b) w) (.cons rfl rfl (.nil)) (fun _ => rfl) (fun ac => (nm (.c (.c (.c (.c (.n))))) (nL (tN (T.seq (sR (Qq (mw rfl (oK rfl ?_))))))))))
 refine oP ul69 i28 rfl (oP Jl i25 rfl (oL 0 Qcp rfl (oU a.Auto.Counts (Zs.dc .i64) Qcp rfl (oI rfl (nL (tN ?_))))))
 rcases Qe h with ⟨m, h⟩ | ⟨m, h⟩
 refine Qp rfl m (Qq (mw rfl ?_))
 obtain ⟨g, y, h⟩ := bind_some h
 refine sp rfl (Q4 (is := [3, 0]) (ph := []) rfl (dk rfl) fu27 rfl rfl (Zk.cons rfl Zk.nil) (Qa4 K (bx0 := b) y) (.cons rfl rfl (.cons rfl rfl (.nil))) (fun _ => rfl) (fun ad => (nm (.c (.c (.c (.c (.n))))) (nL (tN ?_)))))
 refine Qk ?_ (Qej K (Zg.mk fun _ => 0) g.Auto.Split.Of g.Auto.Split.Many g.Auto.Counts g.Auto.States p b h)
 exact tr rfl (.c (.s .z) (.c .z (.c (.s .z) (.n _))))
 refine Qo rfl m (T.skip (tN ?_))
 refine Qk ?_ (Qej K (Zg.mk fun _ => 0) a.Auto.Split.Of a.Auto.Split.Many a.Auto.Counts a.Auto.States p b h)
 exact tr rfl (.c (.s .z) (.c .z (.c (.s .z) (.n _))))
abbrev raddlelaw12_shown_q (r : Bool) : ES := U6 tp ff14 (fun y t => y = (.bool r) ∧ t = [.tab 0 Xs])
theorem Qcd (K : Nat) {r : Bool} (h : Hc K = some r) : Zl tp 14 [] [.tab 0 Xs] (.bool r) := by
 refine CI 46 fu14 rfl ?_
 unfold Hc at h
 refine sR (Qq (aw rfl (nL (tN (sR (Qq ?_))))))
 obtain ⟨u, j, h⟩ := bind_some h
 refine oH fu35 (Zl.nil (Qb3 K j)) rfl (mw rfl (oE rfl (oE rfl (oE rfl (aw rfl (aw rfl ?_))))))
 refine aw rfl (nL (tN (sR (Qq (mw rfl ?_)))))
 obtain ⟨m, n, h⟩ := bind_some h
 refine oH fu36 (Zl.nil (Qc5 K (flx0 := false) n)) rfl (mw rfl (oE rfl (oE rfl (aw rfl (aw rfl (nL (tN (sR (Qq ?_)))))))))
 refine mw rfl (sp rfl (OpT.buildSlice (elems := ([m.1] : List (List Q0)).map (cL 9 Qt)) rfl (dk rfl) ul87 i80 (by decide) rfl (G9 rfl) rfl rfl rfl (Vg rfl) (by decide) ?_))
 obtain ⟨g, p, h⟩ := bind_some h
 refine oH fu37 (Zl.nil (Qe4 K (flx0 := true) p)) rfl (mw rfl (oE rfl (oE rfl (sp rfl (Zb rfl (dk rfl) i43 rfl (fun v => (sp rfl (Qu (i := 0) (cells' := [.d (.sl false 1 (mI g.1.First)), .d (.sl false 9 (g.1.P.map Qy))]) rfl rfl i43 rfl rfl rfl rfl (nb rfl) rfl (aw rfl ?_)))))))))
 refine nL (tN (sR (Qq (oA 0 [.sl false 1 (mI g.1.First), .sl false 9 (g.1.P.map Qy)] Qfm i43 rfl ?_))))
 obtain ⟨b, q, h⟩ := bind_some h
 refine oH fu20 (Zl.nil (Qe3 K q)) rfl (mw rfl (oE rfl (oE rfl (sp rfl (Zb rfl (dk rfl) i28 rfl (fun w => (sp rfl (Qu (i := 0) (cells' := ((Zg.oc 256 .u8 b.1.Split.Of) ++ (([.d (.int .i64 b.1.Split.Many), .d (.sl false 2 (mA b.1.Counts)), .d (.sl false 4 (b.1.States.map Qd))]:List OC)))) rfl rfl i28 rfl rfl rfl rfl (nb rfl) rfl (aw rfl ?_)))))))))
 refine nL (tN (sR (Qq (oA 0 ((Zg.dc 256 .u8 b.1.Split.Of) ++ (([.int .i64 b.1.Split.Many, .sl false 2 (mA b.1.Counts), .sl false 4 (b.1.States.map Qd)] : List DC))) Jl i28 rfl ?_))))
 obtain ⟨c, s, h⟩ := bind_some h
 refine sp rfl (Ml rfl (dk rfl) fu10 rfl rfl (Zk.cons rfl Zk.nil) (.tab 2 rfl (.nil)) (trim_Of_T K s) (mw rfl (oE rfl (oE rfl (sp rfl (Zb rfl (dk rfl) i28 rfl (fun y => (sp rfl (Qu (i := 0) (cells' := ((Zg.oc 256 .u8 c.1.Split.Of) ++ (([.d (.int .i64 c.1.Split.Many), .d (.sl false 2 (mA c.1.Counts)), .d (.sl false 4 (c.1.States.map Qd))]:List OC)))) rfl rfl i28 rfl rfl rfl rfl (nb rfl) rfl (aw rfl ?_))))))))))
 refine nL (tN (sR (Qq (mw rfl (oI rfl (mw rfl ?_))))))
 rcases Qe h with ⟨a, h⟩ | ⟨a, h⟩
 refine sn rfl a (Xi rfl (dk rfl) Jl rfl i26 (by decide) rfl (sn rfl a (Zw (i := 0) rfl (dk rfl) Uh rfl rfl rfl rfl (sn rfl a (Z9 (xs := c.1.States) (f := Qd) rfl (dk rfl) Uh rfl (sn rfl a (Zi rfl rfl (dk rfl) rfl rfl (oY a rfl (aw rfl (nL (tN ?_)))))))))))
 refine T.ret (Q2 (.cons _ _ _ _ (.tmp 0 _ rfl) .nil) (.cons 3 rfl (.nil _)) (by cases h; exact ⟨rfl, rfl⟩))
 refine pf rfl a (pf rfl a (pf rfl a (pf rfl a (oZ a rfl (aw rfl (nL (tN ?_)))))))
 refine T.ret (Q2 (.cons _ _ _ _ (.tmp 0 _ rfl) .nil) (.cons 3 rfl (.nil _)) (by cases h; exact ⟨rfl, rfl⟩))
abbrev raddlelaw12_few_q (r : Qm) : ES := U6 tp ff9 (fun y t => y = (.agg ((Zg.dc 256 .u8 r.Split.Of) ++ (([.int .i64 r.Split.Many, .sl false 2 (mA r.Counts), .sl false 4 (r.States.map Qd)] : List DC)))) ∧ t = [])
theorem Qd2 (K : Nat) {x0 r : Qm} (h : Lj K x0 = some r) : Zl tp 9 [.agg ((Zg.dc 256 .u8 x0.Split.Of) ++ (([.int .i64 x0.Split.Many, .sl false 2 (mA x0.Counts), .sl false 4 (x0.States.map Qd)] : List DC)))] [] (.agg ((Zg.dc 256 .u8 r.Split.Of) ++ (([.int .i64 r.Split.Many, .sl false 2 (mA r.Counts), .sl false 4 (r.States.map Qd)] : List DC)))) := by
 refine CI 9 fu9 rfl ?_
 unfold Lj at h
 refine sR (Qq (sp rfl (Zc rfl (dk rfl) rfl (fun b => (sp rfl (Zb rfl (dk rfl) i28 rfl (fun c => (nL (tN (T.seq (sR (Qq (oP Jl i26 rfl ?_)))))))))))))
 refine oL 1 Uh rfl (oU x0.States Qd Uh rfl (oI rfl (nL (tN ?_))))
 rcases Qe h with ⟨a, h⟩ | ⟨a, h⟩
 refine Qp rfl a (sR (Qq (sp rfl (OpT.build (l := ((Zg.dc 256 .u8 (Zg.mk fun _ => 0)) ++ (([.int .i64 (0:Int), .ex (.slice none 0 0), .ex (.slice none 0 0)] : List DC)))) rfl (dk rfl) (Zq (pl := [(0, 257), (257, 1), (258, 1)]) Jl i28 rfl) (G9 rfl) rfl rfl (sp rfl (Qu (i := 0) (cells' := ((Zg.oc 256 .u8 (Zg.mk fun _ => 0)) ++ (([.d (.int .i64 (0:Int)), .d (.ex (.slice none 0 0)), .d (.ex (.slice none 0 0))]:List OC)))) rfl rfl i28 rfl rfl rfl rfl (nb rfl) rfl (nL (tN (T.ret (Qv (Xr (Hs 0 (l := ((Zg.dc 256 .u8 (Zg.mk fun _ => 0)) ++ (([.int .i64 (0:Int), .ex (.slice none 0 0), .ex (.slice none 0 0)] : List DC)))) (l' := ((Zg.dc 256 .u8 (Zg.mk fun _ => 0)) ++ (([.int .i64 (0:Int), .sl false 2 (([] : List Zs).map (Zs.dc .i64)), .sl false 4 (([] : List Qa).map Qd)] : List DC)))) rfl (.app _ (.cons (.same _) (.cons (.nil _ _) (.cons (.nil _ _) (.refl _)))))) ?_)))))))))))
 exact Fin.done (.cons _ _ _ _ (.cellAgg 2 28 _ 0 0 28 _ ((Zg.dc 256 .u8 (Zg.mk fun _ => 0)) ++ (([.int .i64 (0:Int), .sl false 2 (([] : List Zs).map (Zs.dc .i64)), .sl false 4 (([] : List Qa).map Qd)] : List DC))) _ _ 259 _ rfl rfl rfl rfl Jl rfl i28) .nil) (by cases h; exact ⟨rfl, rfl⟩)
 refine Qo rfl a (T.skip (tN (sR (Qq (oA 1 ((Zg.dc 256 .u8 x0.Split.Of) ++ (([.int .i64 x0.Split.Many, .sl false 2 (mA x0.Counts), .sl false 4 (x0.States.map Qd)] : List DC))) Jl i28 rfl (sp rfl (Qu (i := 0) (cells' := ((Zg.oc 256 .u8 x0.Split.Of) ++ (([.d (.int .i64 x0.Split.Many), .d (.sl false 2 (mA x0.Counts)), .d (.sl false 4 (x0.States.map Qd))]:List OC)))) rfl rfl i28 rfl rfl rfl rfl (nb rfl) rfl (nL (tN (T.ret ?_))))))))))
 exact Fin.done (.cons _ _ _ _ (.cellAgg 2 28 _ 0 0 28 _ ((Zg.dc 256 .u8 x0.Split.Of) ++ (([.int .i64 x0.Split.Many, .sl false 2 (mA x0.Counts), .sl false 4 (x0.States.map Qd)] : List DC))) _ _ 259 _ rfl rfl rfl rfl Jl rfl i28) .nil) (by cases h; exact ⟨rfl, rfl⟩)
abbrev Qb6 (r : Bool) : ES := U6 tp ff42 (fun y t => y = (.bool r) ∧ t = [])
abbrev P6 (r : Bool) : ES := fT 29 [1,1,1] ff42 (Qb6 r)
abbrev N6 (r : Bool) : ES := Qx 0 ((P6 r))
theorem Sy {r : Bool} (K : Nat) : ∀ (k : Nat), ∀ (f g : Int) (x0 : Q5) (j : Nat), Y3 K k f g x0 = some r → TL tp 29 (ca [1,1,0,1,0,0] ff42) ⟨[(1, .ptr j 0), (3, .int .i64 f), (4, .int .i64 g)], [(b24x7 j x0.Of x0.Many)]⟩ (N6 r) := by
 intro k
 induction k with
 | zero =>
  intro f g x0 j h
  exact zn h
 | succ k ih =>
  intro f g x0 j h
  rw [Y3] at h
  refine Q3 (T.seq (sR (Qq (mw rfl (oI rfl (nL (tN ?_)))))))
  rcases Qe h with ⟨l, h⟩ | ⟨l, h⟩
  refine Qp rfl l (T.skip (tN (T.seq (T.block (T.seq (sR (Qq (mw rfl ?_))))))))
  refine oP ul24 i22 rfl ?_
  obtain ⟨b, h⟩ := Q6 h
  refine sp rfl (Z1 rfl (dk rfl) ul22 i5 rfl rfl b.1 b.2 (sp rfl (Zw (i := 0) rfl (dk rfl) ul5 rfl rfl rfl (Qcl (n := 256) (k := .u8) (a := x0.Of) (pre := []) (post := [.d (.int .i64 x0.Many)]) b.1 b.2) (sp rfl (Xj rfl (dk rfl) ul5 ul3 rfl (mw rfl (oI rfl (nL (tN ?_)))))))))
  rcases Qe h with ⟨m, h⟩ | ⟨m, h⟩
  refine Qp rfl m (sR (Qq (aw rfl (nL (tN (T.ret (Qv (Q1 (Qv (Qv (Q1 (Qv (fd rfl (by cases h; exact ⟨rfl, rfl⟩))))))))))))))
  refine Qo rfl m (T.skip (tN (sR (Qq (mw rfl (oP ul24 i22 rfl (sp rfl (Z1 rfl (dk rfl) ul22 i5 rfl rfl b.1 b.2 (sp rfl (Zw (i := 0) rfl (dk rfl) ul5 rfl rfl rfl (Qcl (n := 256) (k := .u8) (a := x0.Of) (pre := []) (post := [.d (.int .i64 x0.Many)]) b.1 b.2) ?_))))))))))
  refine sp rfl (Xj rfl (dk rfl) ul5 ul3 rfl (mw rfl (oI rfl (nL (tN ?_)))))
  rcases Qe h with ⟨p, h⟩ | ⟨p, h⟩
  refine Qp rfl p (Qq (mw rfl (oI rfl (aw rfl (nL (Qn (tN (Qq ?_))))))))
  refine mw rfl (oI rfl (aw rfl (nL (tN ?_))))
  refine Qg ?_ (ih (wI (f + (1:Int))) (wI (g + (1:Int))) x0 j h)
  exact tq rfl rfl
  refine Qo rfl p (T.skip (Qn (tN (Qq (mw rfl (oI rfl (aw rfl (nL (tN ?_)))))))))
  refine Qg ?_ (ih f (wI (g + (1:Int))) x0 j h)
  exact tq rfl rfl
  refine Qo rfl l (T.exit (Ql (Ql (Qr (tN (sR (Qq (mw rfl (oP ul24 i3 rfl (oL 0 ul3 rfl (oI rfl ?_)))))))))))
  refine aw rfl (nL (tN (T.ret (fd rfl (by cases h; exact ⟨rfl, rfl⟩)))))
theorem Qb7 (K : Nat) {x0 : Q5} {r : Bool} (h : W9 K x0 = some r) : Zl tp 42 [.agg ((Zg.dc 256 .u8 x0.Of) ++ (([.int .i64 x0.Many] : List DC)))] [] (.bool r) := by
 refine CI 29 fu42 rfl ?_
 unfold W9 at h
 refine sR (Qq (sp rfl (Zc rfl (dk rfl) rfl (fun a => (aw rfl (nL (tN (sR (Qq (aw rfl (nL (tN (T.seq ?_)))))))))))))
 refine sR (Qq (aw rfl (nL (tN (T.block (T.loop ?_))))))
 refine Qg ?_ (Sy K K (0:Int) (0:Int) x0 a h)
 exact tq rfl rfl
abbrev Qbi (r : Bool) : ES := U6 tp ff75 (fun y t => y = (.bool r) ∧ t = [])
abbrev Sc (r : Bool) : ES := fT 41 [1,1] ff75 (Qbi r)
abbrev Mo (r : Bool) : ES := Qx 0 ((Sc r))
abbrev Oy (r : Bool) : ES := fL 41 [1,0,1,0,0] ff75 (Mo r)
abbrev Fk (r : Bool) : ES := fT 41 [1,0,1,0,0,1,1] ff75 (Oy r)
abbrev Cd (r : Bool) : ES := Qx 1 ((Fk r))
theorem Gt {r : Bool} (K : Nat) (h : Vt K = some r) : T tp 41 (ca [1,0,1,0,0,1,0,0,1,0] ff75) ⟨[], []⟩ (Cd r) := by
 unfold Vt at h
 refine sR (Qq (aw rfl (nL (tN (T.ret (Q1 (Qv (Qv (Q1 (Qv (fd rfl (by cases h; exact ⟨rfl, rfl⟩))))))))))))
theorem Sd {r : Bool} (K : Nat) : ∀ (k : Nat), ∀ (x0 : List Int) (x1 b : Int) (flx0 : Bool), Y1 K k x0 x1 b = some r → TL tp 41 (ca [1,0,1,0,0] ff75) ⟨[(0, .sl flx0 1 (mI x0)), (1, .int .i64 x1), (5, .int .i64 b)], []⟩ (Mo r) := by
 intro k
 induction k with
 | zero =>
  intro x0 x1 b flx0 h
  exact zn h
 | succ k ih =>
  intro x0 x1 b flx0 h
  rw [Y1] at h
  refine Q3 (T.seq (sR (Qq (mw rfl (mw rfl (oU x0 (cI .i64) Zu rfl (oI rfl ?_)))))))
  refine nL (tN ?_)
  rcases Qe h with ⟨l, h⟩ | ⟨l, h⟩
  refine Qp rfl l (T.skip (tN (T.seq (T.block (T.seq (Yg (dV rfl rfl ?_)))))))
  refine dV rfl rfl ?_
  obtain ⟨a, m, h⟩ := bind_some h
  refine dX x0 (cI .i64) rfl (.f rfl) Zu i3 m rfl (dR rfl (.f rfl) ul3 rfl (dI rfl (.f rfl) rfl (dV rfl rfl ?_)))
  rcases Qe h with ⟨g, h⟩ | ⟨g, h⟩
  refine dO g rfl rfl (dO g rfl rfl (dO g rfl rfl (dO g rfl rfl (dO g rfl rfl (dO g rfl rfl (dY rfl (.f rfl) g rfl ?_))))))
  refine dV rfl rfl (dO rfl rfl rfl (dO rfl rfl rfl (dO rfl rfl rfl (dG rfl rfl (dG rfl rfl (dG rfl rfl ?_))))))
  refine dG rfl rfl (dG rfl rfl (dG rfl rfl (dG rfl rfl (dG rfl rfl (dG rfl rfl (dG rfl rfl ?_))))))
  refine dO rfl rfl rfl (dY rfl (.f rfl) rfl rfl (dF [0,0,3,7,15,31,63,63,255,511,63,2047,4095,8191,16383,32767,65535,131071,131071,393215,1048575,2097151,131071,131071,12713983,29491199,67108863,134217727,268435455] Qz rfl (by kernel_rfl) (fun u hu => (tN (Qk hu (Qp rfl rfl ?_))))))
  refine Qk ?_ (Gt K h)
  exact tq rfl rfl
  refine dM rfl (.n g rfl) rfl (dM rfl (.n g rfl) rfl (dX x0 (cI .i64) rfl (.n g rfl) Zu i3 m rfl (dR rfl (.n g rfl) ul3 rfl (dM rfl (.n g rfl) rfl (dI rfl (.n g rfl) rfl (dZ rfl (.f rfl) g rfl ?_))))))
  refine dV rfl rfl ?_
  rcases Qe h with ⟨j, h⟩ | ⟨j, h⟩
  refine dO j rfl rfl (dO j rfl rfl (dO j rfl rfl (dG rfl rfl (dG rfl rfl (dG rfl rfl (dG rfl rfl ?_))))))
  refine dG rfl rfl (dG rfl rfl (dG rfl rfl (dG rfl rfl (dG rfl rfl (dG rfl rfl (dO j rfl rfl ?_))))))
  refine dY rfl (.f rfl) j rfl (dF [0,0,3,7,15,31,63,63,255,511,63,2047,4095,8191,16383,32767,65535,131071,131071,393215,1048575,2097151,131071,131071,12713983,29491199,67108863,134217727,268435455] Qz rfl (by kernel_rfl) (fun u hu => (tN (Qk hu (Qp rfl rfl ?_)))))
  refine Qk ?_ (Gt K h)
  exact tq rfl rfl
  refine dM rfl (.n j rfl) rfl (dI rfl (.n j rfl) rfl (dM rfl (.n j rfl) rfl ?_))
  rcases Qe h with ⟨d, h⟩ | ⟨d, h⟩
  refine dM rfl (.n d rfl) rfl (dM rfl (.n d rfl) rfl (dI rfl (.n d rfl) rfl ?_))
  obtain ⟨i, q, h⟩ := bind_some h
  refine dX x0 (cI .i64) rfl (.n d rfl) Zu i3 q rfl (dR rfl (.n d rfl) ul3 rfl (dM rfl (.n d rfl) rfl (dM rfl (.n d rfl) rfl (dX x0 (cI .i64) rfl (.n d rfl) Zu i3 m rfl (dR rfl (.n d rfl) ul3 rfl (dI rfl (.n d rfl) rfl ?_))))))
  refine dY rfl (.n j rfl) d rfl (dZ rfl (.f rfl) j rfl (dF [0,0,3,7,15,31,63,63,255,511,63,2047,4095,8191,16383,32767,65535,131071,131071,393215,1048575,2097151,131071,131071,12713983,29491199,67108863,134217727,268435455] Qz rfl (by kernel_rfl) (fun u hu => (tN (Qk hu ?_)))))
  rcases Qe h with ⟨p, h⟩ | ⟨p, h⟩
  refine Qp rfl p ?_
  refine Qk ?_ (Gt K h)
  exact tq rfl rfl
  refine Qo rfl p (T.skip (Qn (tN (Qq (mw rfl (oI rfl (aw rfl (nL (tN ?_)))))))))
  refine Qg ?_ (ih x0 x1 (wI (b + (1:Int))) flx0 h)
  exact tq rfl rfl
  refine dO d rfl rfl (dO d rfl rfl (dO d rfl rfl (dO d rfl rfl (dO d rfl rfl (dO d rfl rfl (dO d rfl rfl ?_))))))
  refine dO d rfl rfl (dO d rfl rfl (dO d rfl rfl (dZ rfl (.n j rfl) d rfl (dZ rfl (.f rfl) j rfl (dF [0,0,3,7,15,31,63,63,255,511,63,2047,4095,8191,16383,32767,65535,131071,131071,393215,1048575,2097151,131071,131071,12713983,29491199,67108863,134217727,268435455] Qz rfl (by kernel_rfl) (fun u hu => (tN (Qk hu (Qo rfl rfl ?_)))))))))
  refine T.skip (Qn (tN (Qq (mw rfl (oI rfl (aw rfl (nL (tN ?_))))))))
  refine Qg ?_ (ih x0 x1 (wI (b + (1:Int))) flx0 h)
  exact tq rfl rfl
  refine Qo rfl l (T.exit (Ql (Ql (Qr (tN (sR (Qq (aw rfl (nL (tN (T.ret (fd rfl (by cases h; exact ⟨rfl, rfl⟩)))))))))))))
theorem Fl (K : Nat) {x0 : List Int} {x1 : Int} {flx0 r : Bool} (h : U4 K x0 x1 = some r) : Zl tp 75 [.sl flx0 1 (mI x0), .int .i64 x1] [] (.bool r) := by
 refine CI 41 fu75 rfl ?_
 unfold U4 at h
 refine sR (Qq (aw rfl (nL (tN (T.seq (sR (Qq (aw rfl (nL (tN ?_))))))))))
 refine T.block (T.loop ?_)
 refine Qg ?_ (Sd K K x0 x1 (0:Int) flx0 h)
 exact tq rfl rfl
abbrev I9 (r : Bool) : ES := U6 tp ff76 (fun y t => y = (.bool r) ∧ t = [])
abbrev Se (r : Bool) : ES := fT 85 [1,1,1] ff76 (I9 r)
abbrev Pz (r : Bool) : ES := fT 85 [1,1,1,1] ff76 (I9 r)
abbrev Kt (r : Bool) : ES := Qx 0 ((Pz r))
abbrev Nn (r : Bool) : ES := fL 85 [1,1,1,0,1,0,0] ff76 (Kt r)
abbrev Eg (r : Bool) : ES := fT 85 [1,1,1,0,1,0,0,1,1] ff76 (Nn r)
abbrev Bm (r : Bool) : ES := Qx 1 ((Eg r))
theorem Le {r : Bool} (K : Nat) (h : Xd K = some r) : T tp 85 (ca [1,1,0,1,0] ff76) ⟨[], []⟩ (Se r) := by
 unfold Xd at h
 refine sR (Qq (aw rfl (nL (tN (T.ret (Qv (fd rfl (by cases h; exact ⟨rfl, rfl⟩))))))))
theorem Ld {r : Bool} (K : Nat) (h : Xc K = some r) : T tp 85 (ca [1,1,1,0,1,0,0,1,0,0,1,0] ff76) ⟨[], []⟩ (Bm r) := by
 unfold Xc at h
 refine sR (Qq (aw rfl (nL (tN (T.ret (Q1 (Qv (Qv (Q1 (Qv (fd rfl (by cases h; exact ⟨rfl, rfl⟩))))))))))))
theorem Tq {r : Bool} (K : Nat) : ∀ (k : Nat), ∀ (j : Int) (x0 : Qm) (x1 : Qa) (x2 : Qc) (p q b : Nat), Xb K k j x0 x1 x2 = some r → TL tp 85 (ca [1,1,1,0,1,0,0] ff76) ⟨[(3, .ptr p 0), (4, .ptr q 0), (5, .ptr b 0), (7, .int .i64 j)], [(Qec p x0.Split.Of x0.Split.Many x0.Counts x0.States), (K3 q x1.L x1.R x1.Rule x1.Next), (Qaw b x2.To x2.Ops)]⟩ (Kt r) := by
 intro k
 induction k with
 | zero =>
  intro j x0 x1 x2 p q b h
  exact zn h
 | succ k ih =>
  intro j x0 x1 x2 p q b h
  rw [Xb] at h
  refine Q3 (T.seq (sR (Qq (mw rfl (oP Bi i52 rfl (oL 2 B6 rfl (oU x2.Ops (cI .u8) B6 rfl ?_)))))))
  refine oI rfl (nL (tN ?_))
  rcases Qe h with ⟨aa, h⟩ | ⟨aa, h⟩
  refine Qp rfl aa (T.skip (tN (T.seq (T.block (T.seq (Yg (dP rfl (.f rfl) Bi i52 rfl ?_)))))))
  refine dL 2 rfl (.f rfl) B6 rfl (dV rfl rfl ?_)
  obtain ⟨a, ab, h⟩ := bind_some h
  refine dX x2.Ops (cI .u8) rfl (.f rfl) B6 i5 ab rfl (dR rfl (.f rfl) ul5 rfl (dI rfl (.f rfl) rfl (dV rfl rfl ?_)))
  rcases Qe h with ⟨s, h⟩ | ⟨s, h⟩
  refine dO s rfl rfl (dO s rfl rfl (dO s rfl rfl (dO s rfl rfl (dO s rfl rfl (dO s rfl rfl (dY rfl (.f rfl) s rfl ?_))))))
  refine dV rfl rfl (dO rfl rfl rfl (dO rfl rfl rfl (dO rfl rfl rfl (dO rfl rfl rfl (dO rfl rfl rfl (dO rfl rfl rfl ?_))))))
  refine dO rfl rfl rfl (dG rfl rfl (dG rfl rfl (dG rfl rfl (dG rfl rfl (dG rfl rfl (dG rfl rfl ?_))))))
  refine dG rfl rfl (dG rfl rfl (dG rfl rfl (dG rfl rfl (dG rfl rfl (dG rfl rfl (dG rfl rfl ?_))))))
  refine dG rfl rfl (dO rfl rfl rfl (dY rfl (.f rfl) rfl rfl (dF [0,1,0,7,15,31,63,127,255,127,1023,2047,4095,8191,16383,32767,65535,32767,262143,524287,1048575,2097151,4194303,8388607,4194303,20971519,4194303,71303167,255852543,524287999,1061158911,4194303,4282384383,8577351679,17179869183,34359738367,68719476735,137438953471] Qz rfl (by kernel_rfl) (fun u hu => (tN (Qk hu (Qp rfl rfl ?_)))))))
  refine Qk ?_ (Ld K h)
  exact tq rfl rfl
  refine dP rfl (.n s rfl) Bi i52 rfl (dL 2 rfl (.n s rfl) B6 rfl (dM rfl (.n s rfl) rfl (dX x2.Ops (cI .u8) rfl (.n s rfl) B6 i5 ab rfl (dR rfl (.n s rfl) ul5 rfl (dI rfl (.n s rfl) rfl (dZ rfl (.f rfl) s rfl ?_))))))
  refine dV rfl rfl ?_
  rcases Qe h with ⟨m, h⟩ | ⟨m, h⟩
  refine dO m rfl rfl (dO m rfl rfl (dO m rfl rfl (dO m rfl rfl (dO m rfl rfl (dO m rfl rfl (dO m rfl rfl ?_))))))
  refine dG rfl rfl (dG rfl rfl (dG rfl rfl (dG rfl rfl (dG rfl rfl (dG rfl rfl (dG rfl rfl ?_))))))
  refine dG rfl rfl (dG rfl rfl (dG rfl rfl (dG rfl rfl (dG rfl rfl (dG rfl rfl (dG rfl rfl ?_))))))
  refine dO m rfl rfl (dY rfl (.f rfl) m rfl (dF [0,1,0,7,15,31,63,127,255,127,1023,2047,4095,8191,16383,32767,65535,32767,262143,524287,1048575,2097151,4194303,8388607,4194303,20971519,4194303,71303167,255852543,524287999,1061158911,4194303,4282384383,8577351679,17179869183,34359738367,68719476735,137438953471] Qz rfl (by kernel_rfl) (fun u hu => (tN (Qk hu (Qp rfl rfl ?_))))))
  refine Qk ?_ (Ld K h)
  exact tq rfl rfl
  refine dP rfl (.n m rfl) Bi i52 rfl (dL 2 rfl (.n m rfl) B6 rfl (dM rfl (.n m rfl) rfl (dX x2.Ops (cI .u8) rfl (.n m rfl) B6 i5 ab rfl (dR rfl (.n m rfl) ul5 rfl (dI rfl (.n m rfl) rfl (dM rfl (.n m rfl) rfl ?_))))))
  rcases Qe h with ⟨g, h⟩ | ⟨g, h⟩
  refine dP rfl (.n g rfl) Ju i38 rfl (dL 1 rfl (.n g rfl) Zu rfl (dP rfl (.n g rfl) Jl i26 rfl (dL 0 rfl (.n g rfl) Uh rfl (dP rfl (.n g rfl) Bi i3 rfl (dL 2 rfl (.n g rfl) ul3 rfl ?_)))))
  obtain ⟨l, ad, h⟩ := bind_some h
  refine dX x0.States Qd rfl (.n g rfl) Uh i51 ad rfl (dQ rfl (.n g rfl) Ju i38 rfl (dR rfl (.n g rfl) Zu rfl (dM rfl (.n g rfl) rfl ?_)))
  obtain ⟨y, af, h⟩ := bind_some h
  refine dX l.R (cI .i64) rfl (.n g rfl) Zu i3 af rfl (dR rfl (.n g rfl) ul3 rfl ?_)
  obtain ⟨w, ag, h⟩ := bind_some h
  refine dH fu112 (Zl.nil (K6 K (flx0 := false) ag)) rfl (.n g rfl) rfl (dT rfl (.n g rfl) rfl (dY rfl (.n m rfl) g rfl (dZ rfl (.f rfl) m rfl (dF [0,1,0,7,15,31,63,127,255,127,1023,2047,4095,8191,16383,32767,65535,32767,262143,524287,1048575,2097151,4194303,8388607,4194303,20971519,4194303,71303167,255852543,524287999,1061158911,4194303,4282384383,8577351679,17179869183,34359738367,68719476735,137438953471] Qz rfl (by kernel_rfl) (fun u hu => (tN (Qk hu ?_)))))))
  rcases Qe h with ⟨ac, h⟩ | ⟨ac, h⟩
  refine Qp rfl ac ?_
  refine Qk ?_ (Ld K h)
  exact tq rfl rfl
  refine Qo rfl ac (T.skip (Qn (tN (Qq (mw rfl (oI rfl (aw rfl (nL (tN ?_)))))))))
  refine Qg ?_ (ih (wI (j + (1:Int))) x0 x1 x2 p q b h)
  exact tq rfl rfl
  refine dO g rfl rfl (dO g rfl rfl (dO g rfl rfl (dO g rfl rfl (dO g rfl rfl (dO g rfl rfl (dO g rfl rfl ?_))))))
  refine dO g rfl rfl (dO g rfl rfl (dO g rfl rfl (dO g rfl rfl (dO g rfl rfl (dO g rfl rfl (dO g rfl rfl ?_))))))
  refine dZ rfl (.n m rfl) g rfl (dZ rfl (.f rfl) m rfl (dF [0,1,0,7,15,31,63,127,255,127,1023,2047,4095,8191,16383,32767,65535,32767,262143,524287,1048575,2097151,4194303,8388607,4194303,20971519,4194303,71303167,255852543,524287999,1061158911,4194303,4282384383,8577351679,17179869183,34359738367,68719476735,137438953471] Qz rfl (by kernel_rfl) (fun u hu => (tN (Qk hu (Qo rfl rfl (T.skip (Qn (tN (Qq (mw rfl ?_)))))))))))
  refine oI rfl (aw rfl (nL (tN ?_)))
  refine Qg ?_ (ih (wI (j + (1:Int))) x0 x1 x2 p q b h)
  exact tq rfl rfl
  refine Qo rfl aa (T.exit (Ql (Ql (Qr (tN (sR (Qq (aw rfl (nL (tN (T.ret (fd rfl (by cases h; exact ⟨rfl, rfl⟩)))))))))))))
theorem Qc3 (K : Nat) {x0 : Qm} {x1 : Qa} {x2 : Qc} {r : Bool} (h : Gf K x0 x1 x2 = some r) : Zl tp 76 [.agg ((Zg.dc 256 .u8 x0.Split.Of) ++ (([.int .i64 x0.Split.Many, .sl false 2 (mA x0.Counts), .sl false 4 (x0.States.map Qd)] : List DC))), .agg [.sl false 1 (mI x1.L), .sl false 1 (mI x1.R), .sl false 1 (mI x1.Rule), .sl false 1 (x1.Next.map (cL 2 Qi))], .agg [.int .i64 x2.To, .sl false 1 (mU x2.Ops)]] [] (.bool r) := by
 refine CI 85 fu76 rfl ?_
 unfold Gf at h
 refine sR (Qq (sp rfl (Zc rfl (dk rfl) rfl (fun j => (sp rfl (Zc rfl (dk rfl) rfl (fun m => (sp rfl (Zc rfl (dk rfl) rfl (fun g => (aw rfl (nL (tN (T.seq ?_))))))))))))))
 refine sR (Qq (oP Bi i3 rfl (oL 0 ul3 rfl (oI rfl (nL (tN ?_))))))
 rcases Qe h with ⟨p, h⟩ | ⟨p, h⟩
 refine Qp rfl p (sR (Qq (oP Bi i52 rfl (oL 0 B6 rfl (oU x2.Ops (cI .u8) B6 rfl (oI rfl (aw rfl ?_)))))))
 refine nL (tN (T.ret (Qv (fd rfl (by cases h; exact ⟨rfl, rfl⟩)))))
 refine Qo rfl p (T.skip (tN (T.seq (T.seq (Yg (dP rfl (.f rfl) Bi i3 rfl (dL 0 rfl (.f rfl) ul3 rfl ?_)))))))
 refine dI rfl (.f rfl) rfl (dV rfl rfl ?_)
 rcases Qe h with ⟨l, h⟩ | ⟨l, h⟩
 refine dO l rfl rfl (dO l rfl rfl (dO l rfl rfl (dO l rfl rfl (dO l rfl rfl (dO l rfl rfl (dY rfl (.f rfl) l rfl ?_))))))
 refine dV rfl rfl (dO rfl rfl rfl (dO rfl rfl rfl (dO rfl rfl rfl (dO rfl rfl rfl (dO rfl rfl rfl (dO rfl rfl rfl ?_))))))
 refine dO rfl rfl rfl (dO rfl rfl rfl (dO rfl rfl rfl (dO rfl rfl rfl (dO rfl rfl rfl (dO rfl rfl rfl (dY rfl (.f rfl) rfl rfl ?_))))))
 refine dF [0,1,3,7,15,31,15,79,207,511,1023,2047,4095,8191,16383,4095,36863,4095,135167,495615,1019903,2068479,4165631,8388607,16777215] Qz rfl (by kernel_rfl) (fun u hu => (tN (Qk hu (Qp rfl rfl ?_))))
 refine Qk ?_ (Le K h)
 exact tq rfl rfl
 refine dP rfl (.n l rfl) Bi i3 rfl (dL 0 rfl (.n l rfl) ul3 rfl (dP rfl (.n l rfl) Jl i26 rfl (dL 2 rfl (.n l rfl) Uh rfl (dN x0.States Qd rfl (.n l rfl) Uh rfl (dI rfl (.n l rfl) rfl (dZ rfl (.f rfl) l rfl ?_))))))
 refine dV rfl rfl ?_
 rcases Qe h with ⟨a, h⟩ | ⟨a, h⟩
 refine dO a rfl rfl (dO a rfl rfl (dO a rfl rfl (dO a rfl rfl (dO a rfl rfl (dO a rfl rfl (dO a rfl rfl ?_))))))
 refine dO a rfl rfl (dO a rfl rfl (dO a rfl rfl (dO a rfl rfl (dO a rfl rfl (dY rfl (.f rfl) a rfl (dF [0,1,3,7,15,31,15,79,207,511,1023,2047,4095,8191,16383,4095,36863,4095,135167,495615,1019903,2068479,4165631,8388607,16777215] Qz rfl (by kernel_rfl) (fun u hu => (tN (Qk hu ?_)))))))))
 refine Qp rfl rfl ?_
 refine Qk ?_ (Le K h)
 exact tq rfl rfl
 refine dP rfl (.n a rfl) Bi i52 rfl (dL 0 rfl (.n a rfl) B6 rfl (dN x2.Ops (cI .u8) rfl (.n a rfl) B6 rfl (dP rfl (.n a rfl) Jl i26 rfl (dL 2 rfl (.n a rfl) Uh rfl (dP rfl (.n a rfl) Bi i3 rfl (dL 0 rfl (.n a rfl) ul3 rfl ?_))))))
 obtain ⟨b, w, h⟩ := bind_some h
 refine dX x0.States Qd rfl (.n a rfl) Uh i51 w rfl (dQ rfl (.n a rfl) Ju i38 rfl (dR rfl (.n a rfl) Zu rfl (dN b.R (cI .i64) rfl (.n a rfl) Zu rfl (dI rfl (.n a rfl) rfl (dZ rfl (.f rfl) a rfl (dF [0,1,3,7,15,31,15,79,207,511,1023,2047,4095,8191,16383,4095,36863,4095,135167,495615,1019903,2068479,4165631,8388607,16777215] Qz rfl (by kernel_rfl) (fun u hu => (tN (Qk hu ?_)))))))))
 rcases Qe h with ⟨q, h⟩ | ⟨q, h⟩
 refine Qp rfl q ?_
 refine Qk ?_ (Le K h)
 exact tq rfl rfl
 refine Qo rfl q (T.skip (tN (T.seq (sR (Qq (aw rfl (nL (tN (T.block ?_)))))))))
 refine T.loop ?_
 refine Qg ?_ (Tq K K (0:Int) x0 x1 x2 j m g h)
 exact tr rfl (.c (.s (.s .z)) (.c (.s .z) (.c .z (.n _))))
end Go.Rv

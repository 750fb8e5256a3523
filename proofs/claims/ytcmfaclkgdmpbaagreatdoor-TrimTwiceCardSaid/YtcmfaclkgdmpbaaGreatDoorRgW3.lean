/- Each function computes what its plain text says: printed by a program of ours. -/
import Derived.Test.YtcmfaclkgdmpbaaGreatDoorRgW2
namespace Go.Rv
open Go.Proofs
set_option maxRecDepth 100000
set_option maxHeartbeats 4000000
set_option linter.unusedVariables false
abbrev Qez (r : List Int) : ES := J9 tp Tryz.f17 (fun y t => y = (.sl false 1 (mI r)) ∧ t = [.tab 0 Y9])
abbrev By (r : List Int) : ES := Qz 0 ((Qez r))
abbrev Qdo (r : List Int) : ES := thenS (fun s' => TL tp 70 (ca [1,1,1,1,0,0] Tryz.f17) s' ((By r))) ((By r))
abbrev Dc (r : List Int) : ES := Qz 1 ((Qdo r))
abbrev Rz (r : List Int) : ES := thenS (fun s' => T tp 70 (ca [1,1,1,1,0,0,0,1,1,1] Tryz.f17) s' ((Dc r))) ((Dc r))
abbrev Vj (r : List Int) : ES := Qz 2 ((Rz r))
abbrev M4 (r : List Int) : ES := thenS (fun s' => TL tp 70 (ca [1,1,1,1,0,0,0,1,1,0,1,0,0] Tryz.f17) s' ((Vj r))) ((Vj r))
abbrev E9 (r : List Int) : ES := thenS (fun s' => T tp 70 (ca [1,1,1,1,0,0,0,1,1,0,1,0,0,1,1,1] Tryz.f17) s' ((M4 r))) ((M4 r))
abbrev Jp (r : List Int) : ES := Qz 3 ((E9 r))
abbrev Tv (r : List Int) (go : Int → Ql → Int → Int → (List Int) → (List (ByteArray × Int)) → (List Int) → Option (List Int)) : Prop := ∀ (a : Int) (x0 : Ql) (b f : Int) (g : List Int) (i : List (ByteArray × Int)) (j : List Int) (l : Nat) (m : Value) (n : Nat) (p : Value), go a x0 b f g i j = some r → TL tp 70 (ca [1,1,1,1,0,0,0,1,1,0,1,0,0] Tryz.f17) ⟨[(1, .ptr l 0), (3, .c (.ex m)), (4, .int .i64 a), (5, .c (.ex (.map (some n)))), (6, .c (.ex p)), (24, .sl false 4 (x0.States.map Qb)), (25, .int .i64 b), (26, .int .i64 f)], [(Qbg l x0.Split.Of x0.Split.Many x0.Counts x0.States), .arrX m 3 1 0 (mI g), .map n (kvs kS kI i), .arrX p 3 1 0 (mI j), .tab 0 Y9]⟩ (Vj r)
theorem Tw {r : List Int} (K : Nat) (go1 : Int → Ql → Int → Int → (List Int) → (List (ByteArray × Int)) → (List Int) → Option (List Int)) (hgo1 : Tv r go1) (p q : Int) (j : ByteArray) (x0 : Ql) (s u : Int) (v : List Int) (b : List (ByteArray × Int)) (m : List Int) (w : Nat) (y : Value) (aa : Nat) (ab : Value) (h : Kl K go1 p q j x0 s u v b m = some r) : T tp 70 (ca [1,1,1,1,0,0,0,1,1,0,1,0,0,1,1,0,0,1,1,1,1] Tryz.f17) ⟨[(1, .ptr w 0), (3, .c (.ex y)), (4, .int .i64 p), (5, .c (.ex (.map (some aa)))), (6, .c (.ex ab)), (7, .int .i64 q), (9, .str j), (24, .sl false 4 (x0.States.map Qb)), (25, .int .i64 s), (26, .int .i64 u)], [(Qbg w x0.Split.Of x0.Split.Many x0.Counts x0.States), .arrX y 3 1 0 (mI v), .map aa (kvs kS kI b), .arrX ab 3 1 0 (mI m), .tab 0 Y9]⟩ (Jp r) := by
 unfold Kl at h
 refine Qr ?_
 iterate 4 refine mw rfl ?_
 refine sp rfl (OpT.lookup (i := 2) (g := kS) (h := kI) (z := 0) (l := b) (a := j) rfl (dk rfl) KeyK.kS ul88 ul9 i3 (fun _ => rfl) rfl rfl rfl ?_)
 obtain ⟨ac, ad, h⟩ := bind_some h
 refine sp rfl (Yb (n := 3) (xs := m) (f := (cI .i64)) (old := ac) rfl (dk rfl) Zx i3 rfl rfl rfl ad ?_)
 refine sp rfl (H8 (i := 3) (xs := m) (f := (cI .i64)) (old := ac) (new := ((b.lookup j).getD 0)) rfl rfl i3 rfl rfl rfl (Zu ad).2 (Nat.zero_le _) (nb rfl) rfl ?_)
 refine TL'.nil (Qn (tN ?_))
 refine Qr ?_
 refine oI rfl ?_
 refine mw rfl ?_
 refine TL'.nil (tN ?_)
 refine Qh ?_ (hgo1 p x0 s (wI (u + (1:Int))) v b (List.set m (Int.toNat q) ((b.lookup j).getD 0)) w y aa ab h)
 exact tq rfl rfl
theorem Tx {r : List Int} (K : Nat) (go1 : Int → Ql → Int → Int → (List Int) → (List (ByteArray × Int)) → (List Int) → Option (List Int)) (hgo1 : Tv r go1) (j m : Int) (f : ByteArray) (x0 : Ql) (p q : Int) (s : List Int) (b : List (ByteArray × Int)) (u : List Int) (w : Nat) (y : Value) (aa : Nat) (ab : Value) (h : Km K go1 j m f x0 p q s b u = some r) : T tp 70 (ca [1,1,1,1,0,0,0,1,1,0,1,0,0,1,1,0,0,1,1,1] Tryz.f17) ⟨[(1, .ptr w 0), (3, .c (.ex y)), (4, .int .i64 j), (5, .c (.ex (.map (some aa)))), (6, .c (.ex ab)), (7, .int .i64 m), (9, .str f), (24, .sl false 4 (x0.States.map Qb)), (25, .int .i64 p), (26, .int .i64 q)], [(Qbg w x0.Split.Of x0.Split.Many x0.Counts x0.States), .arrX y 3 1 0 (mI s), .map aa (kvs kS kI b), .arrX ab 3 1 0 (mI u), .tab 0 Y9]⟩ (Jp r) := by
 unfold Km at h
 refine T.seq ?_
 refine T.seq (Qr ?_)
 refine mw rfl ?_
 refine mw rfl ?_
 refine sp rfl (Qgy (i := 2) (g := kS) (h := kI) (z := 0) (l := b) (a := f) rfl (dk rfl) KeyK.kS ul88 ul9 i3 (fun _ => rfl) rfl rfl rfl ?_)
 refine mw rfl ?_
 refine oE rfl ?_
 refine oE rfl ?_
 refine aw rfl ?_
 refine aw rfl ?_
 refine TL'.nil (tN (T.seq (Qr ?_)))
 refine mw rfl ?_
 refine oT rfl ?_
 refine TL'.nil (tN ?_)
 rcases Qd h with ⟨ac, h⟩ | ⟨ac, h⟩
 refine Qq rfl ac ?_
 refine Qr ?_
 iterate 3 refine mw rfl ?_
 refine sp rfl (Qgr (i := 2) (g := kS) (h := kI) (l := b) rfl (dk rfl) ul88 rfl rfl ?_)
 obtain ⟨ad, h⟩ := Zf h
 refine sp rfl (OpT.mapPut (i := 2) (g := kS) (h := kI) (l := b) (a := f) (v := (b.length : Int)) rfl rfl KeyK.kS ul88 ul9 rfl rfl rfl rfl ad ?_)
 refine TL'.nil (tN ?_)
 refine Qm ?_ (Tw K go1 hgo1 j m f x0 p q s (b ++ [(f, (b.length : Int))]) u w y aa ab h)
 exact tq rfl rfl
 refine Qp rfl ac ?_
 refine T.skip (tN ?_)
 refine Qm ?_ (Tw K go1 hgo1 j m f x0 p q s b u w y aa ab h)
 exact tq rfl rfl
abbrev Qg3 (r : List Int) (go : Int → Ql → (List Int) → Option (List Int)) : Prop := ∀ (a : Int) (x0 : Ql) (b : List Int) (f : Nat) (g : Value), go a x0 b = some r → TL tp 70 (ca [1,1,1,1,0,0] Tryz.f17) ⟨[(1, .ptr f 0), (3, .c (.ex g)), (4, .int .i64 a)], [(Qbg f x0.Split.Of x0.Split.Many x0.Counts x0.States), .arrX g 3 1 0 (mI b), .tab 0 Y9]⟩ (By r)
theorem Qg1 {r : List Int} (K : Nat) (go0 : Int → Ql → (List Int) → Option (List Int)) (hgo0 : Qg3 r go0) : ∀ (k : Nat), ∀ (ad : Int) (x0 : Ql) (af m : Int) (p : List Int) (q : List (ByteArray × Int)) (ab : List Int) (w : Nat) (j : Value) (ac : Nat) (y : Value), Vo K go0 k ad x0 af m p q ab = some r → TL tp 70 (ca [1,1,1,1,0,0,0,1,1,0,1,0,0] Tryz.f17) ⟨[(1, .ptr w 0), (3, .c (.ex j)), (4, .int .i64 ad), (5, .c (.ex (.map (some ac)))), (6, .c (.ex y)), (24, .sl false 4 (x0.States.map Qb)), (25, .int .i64 af), (26, .int .i64 m)], [(Qbg w x0.Split.Of x0.Split.Many x0.Counts x0.States), .arrX j 3 1 0 (mI p), .map ac (kvs kS kI q), .arrX y 3 1 0 (mI ab), .tab 0 Y9]⟩ (Vj r) := by
 intro k
 induction k with
 | zero =>
  intro ad x0 af m p q ab w j ac y h
  exact zn h
 | succ k ih =>
  intro ad x0 af m p q ab w j ac y h
  rw [Vo] at h
  refine Q6 ?_
  refine T.seq (Qr ?_)
  refine oI rfl ?_
  refine TL'.nil (tN ?_)
  refine T.seq ?_
  rcases Qd h with ⟨aj, h⟩ | ⟨aj, h⟩
  refine Qq rfl aj ?_
  refine T.skip (tN ?_)
  refine T.seq ?_
  refine T.block ?_
  refine T.seq (Qr ?_)
  refine mw rfl ?_
  obtain ⟨b, aq, h⟩ := bind_some h
  refine oX x0.States Qb Us i51 aq rfl ?_
  refine sp rfl (Za rfl (dk rfl) Wi rfl i51 rfl (nb rfl) ?_)
  refine sp rfl (Zh rfl (dk rfl) i51 rfl (fun al => ?_))
  refine aw rfl ?_
  refine sp rfl (Qy (i := 0) (cells' := [.d (.sl false 1 (mI b.L)), .d (.sl false 1 (mI b.R)), .d (.sl false 1 (mI b.Rule)), .d (.sl false 1 (b.Next.map (cL 2 Qf)))]) rfl rfl i51 rfl rfl rfl rfl (nb rfl) rfl ?_)
  refine TL'.nil (tN (T.seq (Qr ?_)))
  refine aw rfl ?_
  refine TL'.nil (tN ?_)
  refine T.seq ?_
  refine T.seq (Qr ?_)
  refine mw rfl ?_
  refine oI rfl ?_
  refine TL'.nil (tN ?_)
  rcases Qd h with ⟨am, h⟩ | ⟨am, h⟩
  refine Qq rfl am ?_
  refine H1 ?_
  refine dC (c := ⟨some 33, .c (.ex j), [(3, .c (.ex j))], [], []⟩) (fun t hm => oF rfl rfl (OpT.move rfl (dk rfl) hm.s0 ⟨u0, rfl⟩)) (fun _ => rfl) (fun _ => rfl) ?_
  refine dC (c := ⟨some 34, .int .i64 m, [(7, .int .i64 m)], [], []⟩) (fun t hm => oF rfl rfl (OpT.move rfl (dk rfl) hm.s0 ⟨u0, rfl⟩)) (fun _ => rfl) (fun _ => rfl) ?_
  obtain ⟨ai, ap, h⟩ := bind_some h
  refine dC (c := ⟨some 35, .el j 1 (Int.toNat m) 0, [(33, .c (.ex j)), (34, .int .i64 m)], [(2, .arrX j 3 1 0 (mI p))], []⟩) (fun t hm => oF rfl rfl (Yb (n := 2) (xs := p) (f := (cI .i64)) (old := ai) rfl (dk rfl) Zx i3 hm.s0 hm.o0 hm.s1 ap ⟨u0, rfl⟩)) (fun _ => rfl) (fun _ => rfl) ?_
  refine dC (c := ⟨some 36, .int .i64 ai, [(35, .el j 1 (Int.toNat m) 0)], [(2, .arrX j 3 1 0 (mI p))], []⟩) (fun t hm => oF rfl rfl (Hq (i := 2) (xs := p) (f := (cI .i64)) (old := ai) rfl (dk rfl) ul3 rfl hm.s0 hm.o0 (Zu ap).2 rfl ⟨u0, rfl⟩)) (fun _ => rfl) (fun _ => rfl) ?_
  obtain ⟨aa, au, h⟩ := bind_some h
  refine dC (c := ⟨some 37, .str aa, [(36, .int .i64 ai)], [(5, .tab 0 Y9)], []⟩) (fun t hm => oF rfl rfl (H9 rfl (dk rfl) Tryz.func39 rfl rfl (Q5.cons hm.s0 Q5.nil) (.tab 5 hm.o0 (.nil)) (P2 K au) ⟨u0, rfl⟩)) (fun _ => rfl) (fun _ => rfl) ?_
  obtain ⟨av, h⟩ := Zf h
  refine dC (c := ⟨some 38, .str (aa ++ (⟨#[58]⟩ : ByteArray)), [(37, .str aa)], [], []⟩) (fun t hm => oF rfl rfl (Tr rfl (dk rfl) hm.s0 rfl av ⟨u0, rfl⟩)) (fun _ => rfl) (fun _ => rfl) ?_
  refine dC (c := ⟨some 39, .agg [.sl false 1 (mI b.L), .sl false 1 (mI b.R), .sl false 1 (mI b.Rule), .sl false 1 (b.Next.map (cL 2 Qf))], [(8, .ptr al 0)], [(0, (Jz al b.L b.R b.Rule b.Next))], []⟩) (fun t hm => oF rfl rfl (Uh (i := 0) (l := [.sl false 1 (mI b.L), .sl false 1 (mI b.R), .sl false 1 (mI b.Rule), .sl false 1 (b.Next.map (cL 2 Qf))]) rfl (dk rfl) Wi rfl i51 hm.s0 hm.o0 rfl rfl ⟨u0, rfl⟩)) (fun _ => rfl) (fun _ => rfl) ?_
  refine dC (c := ⟨some 40, .c (.ex j), [(3, .c (.ex j))], [], []⟩) (fun t hm => oF rfl rfl (OpT.move rfl (dk rfl) hm.s0 ⟨u0, rfl⟩)) (fun _ => rfl) (fun _ => rfl) ?_
  obtain ⟨ag, ay, h⟩ := bind_some h
  refine dC (c := ⟨some 41, .str ag, [(39, .agg [.sl false 1 (mI b.L), .sl false 1 (mI b.R), .sl false 1 (mI b.Rule), .sl false 1 (b.Next.map (cL 2 Qf))]), (40, .c (.ex j))], [(2, .arrX j 3 1 0 (mI p)), (5, .tab 0 Y9)], [(5, .tab 0 Y9), (2, .arrX j 3 1 0 (mI p))]⟩) (fun t hm => oF rfl rfl (Q8 (is := [5, 2]) (ph := []) rfl (dk rfl) Tryz.func40 rfl rfl (Q5.cons hm.s0 (Q5.cons hm.s1 Q5.nil)) (trim_sign_T K (wx1 := j) ay) (.cons hm.o1 rfl (.cons hm.o0 rfl (.nil))) (fun _ => rfl) (fun g => ⟨(g, 0), rfl⟩))) (fun _ => rfl) (fun _ => rfl) ?_
  obtain ⟨az, h⟩ := Zf h
  refine dC (c := ⟨some 42, .str ((aa ++ (⟨#[58]⟩ : ByteArray)) ++ ag), [(38, .str (aa ++ (⟨#[58]⟩ : ByteArray))), (41, .str ag)], [], []⟩) (fun t hm => oF rfl rfl (Tr rfl (dk rfl) hm.s0 hm.s1 az ⟨u0, rfl⟩)) (fun _ => rfl) (fun _ => rfl) ?_
  refine dC (c := ⟨some 9, .str ((aa ++ (⟨#[58]⟩ : ByteArray)) ++ ag), [(42, .str ((aa ++ (⟨#[58]⟩ : ByteArray)) ++ ag))], [], []⟩) (fun t hm => oF rfl rfl (OpT.assign rfl (dk rfl) hm.s0 ⟨u0, rfl⟩)) (fun _ => rfl) (fun _ => rfl) ?_
  refine gF [0,0,3,7,15,31,0,0,223,511,1023] Q3 rfl (by kernel_rfl) (fun _ => by kernel_rfl) (fun a u hu => (tN (Qm hu ?_)))
  refine Qm ?_ (Tx K (Vo K go0 k) ih ad m ((aa ++ (⟨#[58]⟩ : ByteArray)) ++ ag) x0 af m p q ab w j ac y h)
  exact tr rfl (.c (.s .z) (.c (.s .z) (.c (.s .z) (.c (.s .z) (.c (.s .z) (.n _))))))
  refine Qp rfl am ?_
  refine T.skip (tN ?_)
  refine Qm ?_ (Tx K (Vo K go0 k) ih ad m (⟨#[102, 105, 114, 115, 116]⟩ : ByteArray) x0 af m p q ab w j ac y h)
  exact tr rfl (.c (.s .z) (.c (.s .z) (.c (.s .z) (.c (.s .z) (.c (.s .z) (.n _))))))
  refine Qp rfl aj ?_
  refine T.exit (Qj (Qj (Qs (tN ?_))))
  refine T.seq (Qr ?_)
  refine mw rfl ?_
  refine aw rfl ?_
  refine TL'.nil (tN ?_)
  refine T.seq ?_
  refine T.seq (Qr ?_)
  refine mw rfl ?_
  refine sp rfl (Qgr (i := 2) (g := kS) (h := kI) (l := q) rfl (dk rfl) ul88 rfl rfl ?_)
  refine mw rfl ?_
  refine oI rfl ?_
  refine TL'.nil (tN ?_)
  rcases Qd h with ⟨an, h⟩ | ⟨an, h⟩
  refine Qq rfl an ?_
  refine T.seq (Qr ?_)
  refine mw rfl ?_
  refine aw rfl ?_
  refine TL'.nil (tN ?_)
  refine T.ret (Qv (Q2 (Qv (Q2 ?_))))
  refine X7 (Ko 3 rfl) ?_
  refine X7 (Z6.view 2 3 rfl rfl) ?_
  exact Q7 (.cons _ _ _ _ (.tmp 2 _ rfl) .nil) (.cons 4 rfl (.nil _)) (by cases h; exact ⟨rfl, rfl⟩)
  refine Qp rfl an ?_
  refine T.skip (tN ?_)
  refine Qr ?_
  refine mw rfl ?_
  refine sp rfl (Qgr (i := 2) (g := kS) (h := kI) (l := q) rfl (dk rfl) ul88 rfl rfl ?_)
  refine aw rfl ?_
  refine TL'.nil (Qn (tN ?_))
  refine Qh ?_ (hgo0 (q.length : Int) x0 ab w y h)
  exact tr rfl (.c .z (.c (.s (.s .z)) (.c (.s (.s .z)) (.n _))))
theorem Qg2 {r : List Int} (K : Nat) : ∀ (k : Nat), ∀ (b : Int) (x0 : Ql) (a : List Int) (g : Nat) (j : Value), Wf K k b x0 a = some r → TL tp 70 (ca [1,1,1,1,0,0] Tryz.f17) ⟨[(1, .ptr g 0), (3, .c (.ex j)), (4, .int .i64 b)], [(Qbg g x0.Split.Of x0.Split.Many x0.Counts x0.States), .arrX j 3 1 0 (mI a), .tab 0 Y9]⟩ (By r) := by
 intro k
 induction k with
 | zero =>
  intro b x0 a g j h
  exact zn h
 | succ k ih =>
  intro b x0 a g j h
  rw [Wf] at h
  refine Q6 ?_
  refine T.block ?_
  refine T.seq (Qr ?_)
  refine sp rfl (OpT.makeMap rfl (dk rfl) (fun l => ?_))
  refine aw rfl ?_
  refine TL'.nil (tN (T.seq (Qr ?_)))
  refine mw rfl ?_
  refine sp rfl (H0 (i := 2) (xs := a) (f := (cI .i64)) rfl (dk rfl) Zx rfl rfl ?_)
  obtain ⟨m, h⟩ := Zf h
  obtain ⟨p, h⟩ := Zf h
  refine sp rfl (Kp (f := (cI .i64)) (zv := ((0:Int) : Int)) rfl (dk rfl) Zx i3 (by decide) rfl rfl rfl rfl rfl m p (fun q => ?_))
  refine aw rfl ?_
  refine TL'.nil (tN ?_)
  refine T.seq ?_
  refine T.seq (Qr ?_)
  refine oP Uv i26 rfl ?_
  refine oL 2 Us rfl ?_
  refine oU x0.States Qb Us rfl ?_
  refine mw rfl ?_
  refine TL'.nil (tN ?_)
  refine T.block ?_
  refine T.loop ?_
  refine Qh ?_ (Qg1 K (Wf K k) ih K b x0 (x0.States.length : Int) (0:Int) a [] (List.replicate (Int.toNat (a.length : Int)) ((0:Int) : Int)) g j l q h)
  exact tr rfl (.c (.s (.s .z)) (.c (.s (.s .z)) (.c (.s .z) (.c .z (.c .z (.n _))))))
theorem Sv (K : Nat) {x0 : Ql} {r : List Int} (h : Lr K x0 = some r) : Zm tp 17 [.agg ((Zi.dc 256 .u8 x0.Split.Of) ++ (([.int .i64 x0.Split.Many, .sl false 2 (mA x0.Counts), .sl false 4 (x0.States.map Qb)] : List DC)))] [.tab 0 Y9] (.sl false 1 (mI r)) := by
 refine Qt Tryz.func17 rfl (nb rfl) ?_
 show T tp 70 (ca [] Tryz.f17) ⟨Qw 0 [.agg ((Zi.dc 256 .u8 x0.Split.Of) ++ (([.int .i64 x0.Split.Many, .sl false 2 (mA x0.Counts), .sl false 4 (x0.States.map Qb)] : List DC)))], [.tab 0 Y9]⟩ (Qez r)
 unfold Lr at h
 refine T.seq (Qr ?_)
 refine sp rfl (Zb rfl (dk rfl) rfl (fun b => ?_))
 refine aw rfl ?_
 refine TL'.nil (tN ?_)
 refine T.seq ?_
 refine T.seq (Qr ?_)
 refine oA 0 ((Zi.dc 256 .u8 x0.Split.Of) ++ (([.int .i64 x0.Split.Many, .sl false 2 (mA x0.Counts), .sl false 4 (x0.States.map Qb)] : List DC))) Uv i28 rfl ?_
 obtain ⟨p, d, h⟩ := bind_some h
 refine sp rfl (Q0 rfl (dk rfl) Tryz.func24 rfl rfl (Q5.cons rfl Q5.nil) (Zm.nil (Qck K d)) ?_)
 refine oT rfl ?_
 refine TL'.nil (tN ?_)
 rcases Qd h with ⟨a, h⟩ | ⟨a, h⟩
 refine Qq rfl a ?_
 refine T.seq (Qr ?_)
 refine aw rfl ?_
 refine TL'.nil (tN ?_)
 refine T.ret (Qv ?_)
 refine X7 (So 2 false 1 rfl) ?_
 exact Q7 (.cons _ _ _ _ (.tmp 2 _ rfl) .nil) (.cons 1 rfl (.nil _)) (by cases h; exact ⟨rfl, rfl⟩)
 refine Qp rfl a ?_
 refine T.skip (tN ?_)
 refine T.seq (Qr ?_)
 refine oP Uv i26 rfl ?_
 refine oL 0 Us rfl ?_
 refine oU x0.States Qb Us rfl ?_
 obtain ⟨g, h⟩ := Zf h
 obtain ⟨j, h⟩ := Zf h
 refine sp rfl (Kp (f := (cI .i64)) (zv := ((0:Int) : Int)) rfl (dk rfl) Zx i3 (by decide) rfl rfl rfl rfl rfl g j (fun m => ?_))
 refine aw rfl ?_
 refine TL'.nil (tN (T.seq (Qr ?_)))
 refine aw rfl ?_
 refine TL'.nil (tN ?_)
 refine T.block ?_
 refine T.loop ?_
 refine Qh ?_ (Qg2 K K (0:Int) x0 (List.replicate (Int.toNat (x0.States.length : Int)) ((0:Int) : Int)) b m h)
 exact tr rfl (.c (.s .z) (.c .z (.c .z (.n _))))
abbrev Kr (bx0 : Nat) (r : Qc) : ES := J9 tp Tryz.f56 (fun y t => ∃ γ : Nat → Value, y = (.tup []) ∧ t = [(Hm bx0 r.Auto.Split.Of r.Auto.Split.Many r.Auto.Counts r.Auto.States)])
abbrev Pw (bx0 : Nat) (r : Qc) : ES := thenS (fun s' => T tp 102 (ca [1,1] Tryz.f56) s' ((Kr bx0 r))) ((Kr bx0 r))
abbrev V5 (bx0 : Nat) (r : Qc) : ES := Qz 0 ((Pw bx0 r))
abbrev K5 (bx0 : Nat) (r : Qc) : ES := thenS (fun s' => TL tp 102 (ca [1,0,1,0,0] Tryz.f56) s' ((V5 bx0 r))) ((V5 bx0 r))
abbrev Ek (bx0 : Nat) (r : Qc) : ES := thenS (fun s' => T tp 102 (ca [1,0,1,0,0,1,1,1] Tryz.f56) s' ((K5 bx0 r))) ((K5 bx0 r))
abbrev Wm (bx0 : Nat) (r : Qc) : ES := Qz 1 ((Ek bx0 r))
abbrev B3 (bx0 : Nat) (r : Qc) : ES := thenS (fun s' => T tp 102 (ca [1,0,1,0,0,1,1,0,0,1,1,1] Tryz.f56) s' ((Wm bx0 r))) ((Wm bx0 r))
abbrev Yl (bx0 : Nat) (r : Qc) : ES := Qz 2 ((B3 bx0 r))
abbrev J0 (bx0 : Nat) (r : Qc) : ES := thenS (fun s' => TL tp 102 (ca [1,0,1,0,0,1,1,0,0,1,1,0,1,0,0] Tryz.f56) s' ((Yl bx0 r))) ((Yl bx0 r))
abbrev Kq (bx0 : Nat) (r : Qc) : ES := thenS (fun s' => T tp 102 (ca [1,0,1,0,0,1,1,0,0,1,1,0,1,0,0,1,1,1] Tryz.f56) s' ((J0 bx0 r))) ((J0 bx0 r))
abbrev Hc (bx0 : Nat) (r : Qc) : ES := Qz 3 ((Kq bx0 r))
abbrev Zz (bx0 : Nat) (r : Qc) : ES := Qz 4 ((Hc bx0 r))
abbrev V1 (bx0 : Nat) (r : Qc) : ES := thenS (fun s' => TL tp 102 (ca [1,0,1,0,0,1,1,0,0,1,1,0,1,0,0,1,1,0,0,1,1,0,0] Tryz.f56) s' ((Zz bx0 r))) ((Zz bx0 r))
abbrev Hb (bx0 : Nat) (r : Qc) : ES := thenS (fun s' => T tp 102 (ca [1,0,1,0,0,1,1,0,0,1,1,0,1,0,0,1,1,0,0,1,1,0,0,1,1,1] Tryz.f56) s' ((V1 bx0 r))) ((V1 bx0 r))
abbrev Z4 (bx0 : Nat) (r : Qc) : ES := Qz 5 ((Hb bx0 r))
abbrev Wa (bx0 : Nat) (r : Qc) : ES := thenS (fun s' => T tp 102 (ca [1,0,1,0,0,1,1,0,0,1,1,0,1,0,0,1,1,0,0,1,1,0,0,1,1,0,0,1,1,1] Tryz.f56) s' ((Z4 bx0 r))) ((Z4 bx0 r))
abbrev Be (bx0 : Nat) (r : Qc) (go : (List Int) → Int → Int → Qc → Int → Int → (List (List Qe)) → Int → Int → (List Qe) → Int → Int → (List Qa) → (List Int) → (List Int) → (List Int) → (List (List Qe)) → (List (List Qe)) → Option Qc) : Prop := ∀ (x1 : List Int) (a b : Int) (x0 : Qc) (f g : Int) (i : List (List Qe)) (j l : Int) (m : List Qe) (n p : Int) (q : List Qa) (s u v : List Int) (w y : List (List Qe)) (flx1 : Bool) (z : Value) (aa : Nat) (ab : Value), go x1 a b x0 f g i j l m n p q s u v w y = some r → TL tp 102 (ca [1,0,1,0,0,1,1,0,0,1,1,0,1,0,0,1,1,0,0,1,1,0,0] Tryz.f56) ⟨[(0, .ptr bx0 0), (1, .sl flx1 1 (mI x1)), (4, .c (.ex z)), (5, .int .i64 a), (6, .ptr aa 0), (7, .c (.ex ab)), (8, .int .i64 b), (24, .sl false 4 (x0.Auto.States.map Qb)), (25, .int .i64 f), (26, .int .i64 g), (36, .sl false 1 (i.map (cL 2 Qf))), (37, .int .i64 j), (38, .int .i64 l), (43, .sl false 2 (m.map Qf)), (44, .int .i64 n), (45, .int .i64 p)], [(Hm bx0 x0.Auto.Split.Of x0.Auto.Split.Many x0.Auto.Counts x0.Auto.States), .arrX z 51 4 0 (q.map Qb), (Jz aa s u v w), .arrG ab 55 (gc 54 2 Qf y)]⟩ (Zz bx0 r)
theorem Bg {r : Qc} (K bx0 : Nat) (go2 : (List Int) → Int → Int → Qc → Int → Int → (List (List Qe)) → Int → Int → (List Qe) → Int → Int → (List Qa) → (List Int) → (List Int) → (List Int) → (List (List Qe)) → (List (List Qe)) → Option Qc) (hgo2 : Be bx0 r go2) (x1 : List Int) (ac g : Int) (x0 : Qc) (ad af : Int) (ag : List (List Qe)) (ai aj : Int) (al : List Qe) (am an : Int) (ap : List Qa) (aq au av : List Int) (ay p : List (List Qe)) (j : Int) (m : List Int) (flx1 : Bool) (v : Value) (aa : Nat) (b : Value) (ab : Nat) (h : X1 K go2 x1 ac g x0 ad af ag ai aj al am an ap aq au av ay p j m = some r) : T tp 102 (ca [1,0,1,0,0,1,1,0,0,1,1,0,1,0,0,1,1,0,0,1,1,0,0,1,1,0,0,1,1,1] Tryz.f56) ⟨[(0, .ptr bx0 0), (1, .sl flx1 1 (mI x1)), (4, .c (.ex v)), (5, .int .i64 ac), (6, .ptr aa 0), (7, .c (.ex b)), (8, .int .i64 g), (12, .ptr ab 0), (24, .sl false 4 (x0.Auto.States.map Qb)), (25, .int .i64 ad), (26, .int .i64 af), (36, .sl false 1 (ag.map (cL 2 Qf))), (37, .int .i64 ai), (38, .int .i64 aj), (43, .sl false 2 (al.map Qf)), (44, .int .i64 am), (45, .int .i64 an)], [(Hm bx0 x0.Auto.Split.Of x0.Auto.Split.Many x0.Auto.Counts x0.Auto.States), .arrX v 51 4 0 (ap.map Qb), (Jz aa aq au av ay), .arrG b 55 (gc 54 2 Qf p), (Qft ab j m)]⟩ (Z4 bx0 r) := by
 unfold X1 at h
 refine Qm Y4 ?_
 refine Qm Y4 ?_
 refine H1 ?_
 refine dC (c := ⟨some 70, .c (.ex b), [(7, .c (.ex b))], [], []⟩) (fun t hm => oF rfl rfl (OpT.move rfl (dk rfl) hm.s0 ⟨u0, rfl⟩)) (fun _ => rfl) (fun _ => rfl) ?_
 refine dC (c := ⟨some 71, .int .i64 g, [(8, .int .i64 g)], [], []⟩) (fun t hm => oF rfl rfl (OpT.move rfl (dk rfl) hm.s0 ⟨u0, rfl⟩)) (fun _ => rfl) (fun _ => rfl) ?_
 refine dC (c := ⟨some 72, .c (.ex b), [(7, .c (.ex b))], [], []⟩) (fun t hm => oF rfl rfl (OpT.move rfl (dk rfl) hm.s0 ⟨u0, rfl⟩)) (fun _ => rfl) (fun _ => rfl) ?_
 refine dC (c := ⟨some 73, .int .i64 g, [(8, .int .i64 g)], [], []⟩) (fun t hm => oF rfl rfl (OpT.move rfl (dk rfl) hm.s0 ⟨u0, rfl⟩)) (fun _ => rfl) (fun _ => rfl) ?_
 obtain ⟨q, az, h⟩ := bind_some h
 refine dC (c := ⟨some 74, .el b 1 (Int.toNat g) 0, [(72, .c (.ex b)), (73, .int .i64 g)], [(5, .arrG b 55 (gc 54 2 Qf p))], []⟩) (fun t hm => oF rfl rfl (Ts (n := 5) (l := p) (y := q) rfl (dk rfl) Fp i55 hm.s0 hm.o0 hm.s1 az ⟨u0, rfl⟩)) (fun _ => rfl) (fun _ => rfl) ?_
 refine DGG.step (c := fun a => ⟨some 75, .c (.ex ((a 5).1 0)), [(74, .el b 1 (Int.toNat g) 0)], [(5, .arrG b 55 (gc 54 2 Qf p)), (0, .ro 0 [])], [(5, .arrG b 55 (gh 54 2 Qf p (Int.toNat g) ((a 5).1 0))), (0, .arrA ((a 5).1 0) 54 2 (q.map Qf))]⟩) [5] (fun a γ' h => by simp only [h 5 (by decide)]) (fun a t hm => oF rfl rfl (Qgq (i := 5) (kk := 0) (l := p) (y := q) rfl (dk rfl) Fq rfl hm.s0 hm.o0 (Zu az).2 hm.o1 (fun w => ⟨(fun _ => w, 0), rfl⟩))) (fun a => Z3 rfl rfl) ?_
 refine dC (c := ⟨some 76, .agg [.int .i64 j, .sl false 1 (mU m)], [(12, .ptr ab 0)], [(6, (Qft ab j m))], []⟩) (fun t hm => oF rfl rfl (Uh (i := 6) (l := [.int .i64 j, .sl false 1 (mU m)]) rfl (dk rfl) Cp rfl i54 hm.s0 hm.o0 rfl rfl ⟨u0, rfl⟩)) (fun _ => rfl) (fun _ => rfl) ?_
 refine dC (c := ⟨some 77, .sl true 2 ([(Qe.mk j m)].map Qf), [(76, .agg [.int .i64 j, .sl false 1 (mU m)])], [], []⟩) (fun t hm => oF rfl rfl (OpT.buildSlice (elems := ([(Qe.mk j m)] : List Qe).map Qf) rfl (dk rfl) Fq i54 (by decide) rfl (M1 rfl) (Vn hm.s0 rfl Bt) rfl rfl (Uf rfl) (by decide) ⟨u0, rfl⟩)) (fun _ => rfl) (fun _ => rfl) ?_
 obtain ⟨a0, h⟩ := Zf h
 refine DGG.step (c := fun a => ⟨some 78, .c (.ex ((a 8).1 0)), [(77, .sl true 2 ([(Qe.mk j m)].map Qf)), (75, .c (.ex ((a 5).1 0)))], [(0, .arrA ((a 5).1 0) 54 2 (q.map Qf))], [(0, .arrA ((a 8).1 0) 54 2 ((q ++ [(Qe.mk j m)]).map Qf))]⟩) [5, 8] (fun a γ' h => by simp only [h 5 (by decide), h 8 (by decide)]) (fun a t hm => oF rfl rfl (Zy (i := 0) (xs := q) (ys := [(Qe.mk j m)]) (f := Qf) rfl (dk rfl) Fq i54 rfl hm.s1 hm.o0 hm.s0 a0 (fun w => ⟨(fun _ => w, 0), rfl⟩))) (fun a => Z3 rfl rfl) ?_
 refine DGG.step (c := fun a => ⟨some 79, .el b 1 (Int.toNat g) 0, [(70, .c (.ex b)), (71, .int .i64 g)], [(5, .arrG b 55 (gh 54 2 Qf p (Int.toNat g) ((a 5).1 0)))], []⟩) [5] (fun a γ' h => by simp only [h 5 (by decide)]) (fun a t hm => oF rfl rfl (Qet (n := 5) (l := p) (y := q) rfl (dk rfl) Fp i55 hm.s0 hm.o0 hm.s1 az ⟨u0, rfl⟩)) (fun a => Z3 rfl rfl) ?_
 refine DGG.step (c := fun a => ⟨none, .any, [(79, .el b 1 (Int.toNat g) 0), (78, .c (.ex ((a 8).1 0)))], [(5, .arrG b 55 (gh 54 2 Qf p (Int.toNat g) ((a 5).1 0))), (0, .arrA ((a 8).1 0) 54 2 ((q ++ [(Qe.mk j m)]).map Qf))], [(5, .arrG b 55 (gc 54 2 Qf (List.set p (Int.toNat g) (q ++ [(Qe.mk j m)])))), (0, .ro 0 [])]⟩) [5, 8] (fun a γ' h => by simp only [h 5 (by decide), h 8 (by decide)]) (fun a t hm => oF rfl rfl (Qes (i := 5) (kk := 0) (l := p) (old := q) (y' := (q ++ [(Qe.mk j m)])) rfl rfl i55 hm.s0 hm.s1 hm.o0 (Zu az).2 hm.o1 ⟨u0, rfl⟩)) (fun a => Z3 rfl rfl) ?_
 refine gF [0,0,0,0,12,28,0,64,252,511,1023] Q3 rfl (by kernel_rfl) (fun _ => by kernel_rfl) (fun a u hu => (Qn (tN (Qm hu ?_))))
 refine Qr ?_
 refine oI rfl ?_
 refine mw rfl ?_
 refine TL'.nil (tN ?_)
 refine Qh ?_ (hgo2 x1 ac g x0 ad af ag ai aj al am (wI (an + (1:Int))) ap aq au av ay (List.set p (Int.toNat g) (q ++ [(Qe.mk j m)])) flx1 v aa b h)
 exact tr rfl (.c (.s (.s .z)) (.c (.s (.s .z)) (.c (.s (.s .z)) (.c (.s (.s .z)) (.n _)))))
theorem Bf {r : Qc} (K bx0 : Nat) (go2 : (List Int) → Int → Int → Qc → Int → Int → (List (List Qe)) → Int → Int → (List Qe) → Int → Int → (List Qa) → (List Int) → (List Int) → (List Int) → (List (List Qe)) → (List (List Qe)) → Option Qc) (hgo2 : Be bx0 r go2) (x1 : List Int) (a b : Int) (x0 : Qc) (f g : Int) (i : List (List Qe)) (j l : Int) (m : List Qe) (p q : Int) (s : List Qa) (u v w : List Int) (y aa : List (List Qe)) (flx1 : Bool) (ab : Value) (ac : Nat) (ad : Value) (af : Nat) (h : X0 K go2 x1 a b x0 f g i j l m p q s u v w y aa = some r) : T tp 102 (ca [1,0,1,0,0,1,1,0,0,1,1,0,1,0,0,1,1,0,0,1,1,0,0,1,1,0,0,1,1,0,1,1] Tryz.f56) ⟨[(0, .ptr bx0 0), (1, .sl flx1 1 (mI x1)), (4, .c (.ex ab)), (5, .int .i64 a), (6, .ptr ac 0), (7, .c (.ex ad)), (8, .int .i64 b), (12, .ptr af 0), (24, .sl false 4 (x0.Auto.States.map Qb)), (25, .int .i64 f), (26, .int .i64 g), (36, .sl false 1 (i.map (cL 2 Qf))), (37, .int .i64 j), (38, .int .i64 l), (43, .sl false 2 (m.map Qf)), (44, .int .i64 p), (45, .int .i64 q)], [(Hm bx0 x0.Auto.Split.Of x0.Auto.Split.Many x0.Auto.Counts x0.Auto.States), .arrX ab 51 4 0 (s.map Qb), (Jz ac u v w y), .arrG ad 55 (gc 54 2 Qf aa), (Qft af (-1:Int) ([] : List Int))]⟩ (Wa bx0 r) := by
 unfold X0 at h
 refine T.skip (tN ?_)
 refine Qm ?_ (Bg K bx0 go2 hgo2 x1 a b x0 f g i j l m p q s u v w y aa (-1:Int) [] flx1 ab ac ad af h)
 exact tq rfl rfl
abbrev Pz (bx0 : Nat) (r : Qc) (go : (List Int) → Int → Qc → Int → Int → (List (List Qe)) → Int → Int → (List Qa) → (List Int) → (List Int) → (List Int) → (List (List Qe)) → (List (List Qe)) → Option Qc) : Prop := ∀ (x1 : List Int) (a : Int) (x0 : Qc) (b f : Int) (g : List (List Qe)) (i j : Int) (l : List Qa) (m n p : List Int) (q s : List (List Qe)) (flx1 : Bool) (u : Value) (v : Nat) (w : Value), go x1 a x0 b f g i j l m n p q s = some r → TL tp 102 (ca [1,0,1,0,0,1,1,0,0,1,1,0,1,0,0] Tryz.f56) ⟨[(0, .ptr bx0 0), (1, .sl flx1 1 (mI x1)), (4, .c (.ex u)), (5, .int .i64 a), (6, .ptr v 0), (7, .c (.ex w)), (24, .sl false 4 (x0.Auto.States.map Qb)), (25, .int .i64 b), (26, .int .i64 f), (36, .sl false 1 (g.map (cL 2 Qf))), (37, .int .i64 i), (38, .int .i64 j)], [(Hm bx0 x0.Auto.Split.Of x0.Auto.Split.Many x0.Auto.Counts x0.Auto.States), .arrX u 51 4 0 (l.map Qb), (Jz v m n p q), .arrG w 55 (gc 54 2 Qf s)]⟩ (Yl bx0 r)
theorem Px {r : Qc} (K bx0 : Nat) (go1 : (List Int) → Int → Qc → Int → Int → (List (List Qe)) → Int → Int → (List Qa) → (List Int) → (List Int) → (List Int) → (List (List Qe)) → (List (List Qe)) → Option Qc) (hgo1 : Pz bx0 r go1) : ∀ (k : Nat), ∀ (x1 : List Int) (w aq : Int) (x0 : Qc) (y aa : Int) (ab : List (List Qe)) (ac ad : Int) (af : List Qe) (au av : Int) (ag : List Qa) (ai aj al : List Int) (am an : List (List Qe)) (flx1 : Bool) (j : Value) (m : Nat) (p : Value), Zo K go1 k x1 w aq x0 y aa ab ac ad af au av ag ai aj al am an = some r → TL tp 102 (ca [1,0,1,0,0,1,1,0,0,1,1,0,1,0,0,1,1,0,0,1,1,0,0] Tryz.f56) ⟨[(0, .ptr bx0 0), (1, .sl flx1 1 (mI x1)), (4, .c (.ex j)), (5, .int .i64 w), (6, .ptr m 0), (7, .c (.ex p)), (8, .int .i64 aq), (24, .sl false 4 (x0.Auto.States.map Qb)), (25, .int .i64 y), (26, .int .i64 aa), (36, .sl false 1 (ab.map (cL 2 Qf))), (37, .int .i64 ac), (38, .int .i64 ad), (43, .sl false 2 (af.map Qf)), (44, .int .i64 au), (45, .int .i64 av)], [(Hm bx0 x0.Auto.Split.Of x0.Auto.Split.Many x0.Auto.Counts x0.Auto.States), .arrX j 51 4 0 (ag.map Qb), (Jz m ai aj al am), .arrG p 55 (gc 54 2 Qf an)]⟩ (Zz bx0 r) := by
 intro k
 induction k with
 | zero =>
  intro x1 w aq x0 y aa ab ac ad af au av ag ai aj al am an flx1 j m p h
  exact zn h
 | succ k ih =>
  intro x1 w aq x0 y aa ab ac ad af au av ag ai aj al am an flx1 j m p h
  rw [Zo] at h
  refine Q6 ?_
  refine T.seq (Qr ?_)
  refine oI rfl ?_
  refine TL'.nil (tN ?_)
  refine T.seq ?_
  rcases Qd h with ⟨az, h⟩ | ⟨az, h⟩
  refine Qq rfl az ?_
  refine T.skip (tN ?_)
  refine T.seq ?_
  refine T.block ?_
  refine T.seq (Qr ?_)
  obtain ⟨g, a2, h⟩ := bind_some h
  refine oX af Qf Fq i54 a2 rfl ?_
  refine sp rfl (Za rfl (dk rfl) Cp rfl i54 rfl (nb rfl) ?_)
  refine sp rfl (Zh rfl (dk rfl) i54 rfl (fun q => ?_))
  refine sp rfl (Qy (i := 0) (cells' := [.d (.int .i64 g.To), .d (.sl false 1 (mU g.Ops))]) rfl rfl i54 rfl rfl rfl rfl (nb rfl) rfl ?_)
  refine TL'.nil (tN (T.seq (Qr ?_)))
  refine sp rfl (Zq (OpT.build (l := [.int .i64 (-1:Int), .ex (.slice none 0 0)]) rfl (dk rfl) (Zv (pl := [(0, 1), (1, 1)]) Cp i54 rfl) (M1 rfl) rfl rfl rfl) (Ye 49 (l := [.int .i64 (-1:Int), .ex (.slice none 0 0)]) (l' := [.int .i64 (-1:Int), .sl false 1 (([] : List Int).map (cI .u8))]) (.cons (.same _) (.cons (.nil _ _) (.refl _)))) ?_)
  refine sp rfl (Zh rfl (dk rfl) i54 rfl (fun ay => ?_))
  refine sp rfl (Qy (i := 0) (cells' := [.d (.int .i64 (-1:Int)), .d (.sl false 1 (([] : List Int).map (cI .u8)))]) rfl rfl i54 rfl rfl rfl rfl (nb rfl) rfl ?_)
  refine TL'.nil (tN ?_)
  refine T.seq ?_
  refine T.seq (Qr ?_)
  refine oP Cp i3 rfl ?_
  refine oL 1 ul3 rfl ?_
  refine oI rfl ?_
  refine mw rfl ?_
  rcases Qd h with ⟨b, h⟩ | ⟨b, h⟩
  refine sn rfl b (OpT.move rfl (dk rfl) rfl ?_)
  refine sn rfl b (Zs rfl (dk rfl) Cp rfl i3 (by decide) rfl ?_)
  refine sn rfl b (Zn (i := 1) rfl (dk rfl) ul3 rfl rfl rfl rfl ?_)
  obtain ⟨a, a1, h⟩ := bind_some h
  refine sn rfl b (Y7 (xs := x1) (f := (cI .i64)) (v := a) rfl (dk rfl) Zx i3 rfl rfl a1 ?_)
  refine sn rfl b (Vi rfl (dk rfl) ul3 rfl rfl rfl ?_)
  refine sn rfl b (Zj rfl rfl (dk rfl) rfl rfl ?_)
  refine oY b rfl ?_
  refine TL'.nil (tN ?_)
  rcases Qd h with ⟨a0, h⟩ | ⟨a0, h⟩
  refine Qq rfl a0 ?_
  refine Yk ?_
  refine dV rfl rfl ?_
  refine dP rfl (.f rfl) Cp i3 rfl ?_
  refine dL 1 rfl (.f rfl) ul3 rfl ?_
  refine dX x1 (cI .i64) rfl (.f rfl) Zx i3 a1 rfl ?_
  refine dR rfl (.f rfl) ul3 rfl ?_
  refine dP rfl (.f rfl) Cp i52 rfl ?_
  refine dL 1 rfl (.f rfl) C8 rfl ?_
  obtain ⟨ap, a3, h⟩ := bind_some h
  refine dS (c := ⟨some 68, .sl false 1 (mU ap), [(67, .sl false 1 (mU g.Ops))], [], []⟩) (fun t hm => oF rfl rfl (Q0 rfl (dk rfl) Tryz.func94 rfl rfl (Q5.cons hm.s0 Q5.nil) (Zm.nil (Ix K (flx0 := false) a3)) rfl)) rfl rfl ?_
  refine dS (c := ⟨some 69, .agg [.int .i64 a, .sl false 1 (mU ap)], [(65, .int .i64 a), (68, .sl false 1 (mU ap))], [], []⟩) (fun t hm => oF rfl rfl (OpT.build (l := [.int .i64 a, .sl false 1 (mU ap)]) rfl (dk rfl) (Zv (pl := [(0, 1), (1, 1)]) Cp i54 rfl) (M1 rfl) (Vn hm.s0 rfl (Vn hm.s1 rfl Bt)) rfl rfl)) rfl rfl ?_
  refine dS (c := ⟨none, .any, [(12, .ptr ay 0), (69, .agg [.int .i64 a, .sl false 1 (mU ap)])], [(0, (Qft ay (-1:Int) ([] : List Int)))], [(0, (Qft ay a ap))]⟩) (fun t hm => oF rfl rfl (Qy (i := 0) (cells' := [.d (.int .i64 a), .d (.sl false 1 (mU ap))]) rfl rfl i54 hm.s0 hm.s1 rfl hm.o0 (nb rfl) rfl rfl)) rfl rfl ?_
  refine dF [0,0,2,7,15,0,32,96,255,511] Q3 rfl (by kernel_rfl) (fun u hu => (tN (Qm hu ?_)))
  refine Qm ?_ (Bg K bx0 (Zo K go1 k) ih x1 w aq x0 y aa ab ac ad af au av ag ai aj al am an a ap flx1 j m p ay h)
  exact tr rfl (.c (.s (.s .z)) (.c (.s (.s .z)) (.c (.s (.s .z)) (.c (.s (.s .z)) (.c .z (.n _))))))
  refine Qp rfl a0 ?_
  refine Qm ?_ (Bf K bx0 (Zo K go1 k) ih x1 w aq x0 y aa ab ac ad af au av ag ai aj al am an flx1 j m p ay h)
  exact tr rfl (.c (.s (.s .z)) (.c (.s (.s .z)) (.c (.s (.s .z)) (.c (.s (.s .z)) (.c .z (.n _))))))
  refine pf rfl b ?_
  refine pf rfl b ?_
  refine pf rfl b ?_
  refine pf rfl b ?_
  refine pf rfl b ?_
  refine pf rfl b ?_
  refine oZ b rfl ?_
  refine TL'.nil (tN ?_)
  refine Qp rfl rfl ?_
  refine Qm ?_ (Bf K bx0 (Zo K go1 k) ih x1 w aq x0 y aa ab ac ad af au av ag ai aj al am an flx1 j m p ay h)
  exact tr rfl (.c (.s (.s .z)) (.c (.s (.s .z)) (.c (.s (.s .z)) (.c (.s (.s .z)) (.c .z (.n _))))))
  refine Qp rfl az ?_
  refine T.exit (Qj (Qj (Qs (Qn (tN ?_)))))
  refine Qr ?_
  refine oI rfl ?_
  refine mw rfl ?_
  refine TL'.nil (tN ?_)
  refine Qh ?_ (hgo1 x1 w x0 y aa ab ac (wI (ad + (1:Int))) ag ai aj al am an flx1 j m p h)
  exact tq rfl rfl
abbrev P1 (bx0 : Nat) (r : Qc) (go : (List Int) → Qc → Int → Int → (List Qa) → Option Qc) : Prop := ∀ (x1 : List Int) (x0 : Qc) (a b : Int) (f : List Qa) (flx1 : Bool) (g : Value), go x1 x0 a b f = some r → TL tp 102 (ca [1,0,1,0,0] Tryz.f56) ⟨[(0, .ptr bx0 0), (1, .sl flx1 1 (mI x1)), (4, .c (.ex g)), (24, .sl false 4 (x0.Auto.States.map Qb)), (25, .int .i64 a), (26, .int .i64 b)], [(Hm bx0 x0.Auto.Split.Of x0.Auto.Split.Many x0.Auto.Counts x0.Auto.States), .arrX g 51 4 0 (f.map Qb)]⟩ (V5 bx0 r)
theorem Py {r : Qc} (K bx0 : Nat) (go0 : (List Int) → Qc → Int → Int → (List Qa) → Option Qc) (hgo0 : P1 bx0 r go0) : ∀ (k : Nat), ∀ (x1 : List Int) (m : Int) (x0 : Qc) (ac ad : Int) (af : List (List Qe)) (aj ag : Int) (j : List Qa) (p q s : List Int) (w b : List (List Qe)) (flx1 : Bool) (g : Value) (a : Nat) (ai : Value), Yh K go0 k x1 m x0 ac ad af aj ag j p q s w b = some r → TL tp 102 (ca [1,0,1,0,0,1,1,0,0,1,1,0,1,0,0] Tryz.f56) ⟨[(0, .ptr bx0 0), (1, .sl flx1 1 (mI x1)), (4, .c (.ex g)), (5, .int .i64 m), (6, .ptr a 0), (7, .c (.ex ai)), (24, .sl false 4 (x0.Auto.States.map Qb)), (25, .int .i64 ac), (26, .int .i64 ad), (36, .sl false 1 (af.map (cL 2 Qf))), (37, .int .i64 aj), (38, .int .i64 ag)], [(Hm bx0 x0.Auto.Split.Of x0.Auto.Split.Many x0.Auto.Counts x0.Auto.States), .arrX g 51 4 0 (j.map Qb), (Jz a p q s w), .arrG ai 55 (gc 54 2 Qf b)]⟩ (Yl bx0 r) := by
 intro k
 induction k with
 | zero =>
  intro x1 m x0 ac ad af aj ag j p q s w b flx1 g a ai h
  exact zn h
 | succ k ih =>
  intro x1 m x0 ac ad af aj ag j p q s w b flx1 g a ai h
  rw [Yh] at h
  refine Q6 ?_
  refine T.seq (Qr ?_)
  refine oI rfl ?_
  refine TL'.nil (tN ?_)
  refine T.seq ?_
  rcases Qd h with ⟨am, h⟩ | ⟨am, h⟩
  refine Qq rfl am ?_
  refine T.skip (tN ?_)
  refine T.seq ?_
  refine T.block ?_
  refine T.seq (Qr ?_)
  refine mw rfl ?_
  obtain ⟨al, aq, h⟩ := bind_some h
  refine oX af (cL 2 Qf) Fp i55 aq rfl ?_
  refine oR Fq rfl ?_
  refine aw rfl ?_
  refine aw rfl ?_
  refine TL'.nil (tN (T.seq (Qr ?_)))
  refine mw rfl ?_
  refine oU al Qf Fq rfl ?_
  refine mw rfl ?_
  refine TL'.nil (tN ?_)
  refine T.block ?_
  refine T.loop ?_
  refine Qh ?_ (Px K bx0 (Yh K go0 k) ih K x1 m ag x0 ac ad af aj ag al (al.length : Int) (0:Int) j p q s w b flx1 g a ai h)
  exact tq rfl rfl
  refine Qp rfl am ?_
  refine T.exit (Qj (Qj (Qs (tN ?_))))
  refine Qm (Z6.dataG (l := b) 3 rfl) ?_
  refine Qm (Ko 3 rfl) ?_
  refine Qm (Z6.view 7 3 rfl rfl) ?_
  refine Yk ?_
  refine dV rfl rfl ?_
  refine dV rfl rfl ?_
  refine dP rfl (.f rfl) Wi i38 rfl ?_
  refine dL 2 rfl (.f rfl) Zx rfl ?_
  obtain ⟨y, au, h⟩ := bind_some h
  refine dS (c := ⟨some 86, .sl false 1 (mI y), [(85, .sl false 1 (mI p))], [], []⟩) (fun t hm => oF rfl rfl (Q0 rfl (dk rfl) Tryz.func95 rfl rfl (Q5.cons hm.s0 Q5.nil) (Zm.nil (Jr K (flx0 := false) au)) rfl)) rfl rfl ?_
  refine dP rfl (.f rfl) Wi i38 rfl ?_
  refine dL 2 rfl (.f rfl) Zx rfl ?_
  obtain ⟨aa, av, h⟩ := bind_some h
  refine dS (c := ⟨some 89, .sl false 1 (mI aa), [(88, .sl false 1 (mI q))], [], []⟩) (fun t hm => oF rfl rfl (Q0 rfl (dk rfl) Tryz.func95 rfl rfl (Q5.cons hm.s0 Q5.nil) (Zm.nil (Jr K (flx0 := false) av)) rfl)) rfl rfl ?_
  refine dP rfl (.f rfl) Wi i38 rfl ?_
  refine dL 2 rfl (.f rfl) Zx rfl ?_
  obtain ⟨ab, ay, h⟩ := bind_some h
  refine dS (c := ⟨some 92, .sl false 1 (mI ab), [(91, .sl false 1 (mI s))], [], []⟩) (fun t hm => oF rfl rfl (Q0 rfl (dk rfl) Tryz.func95 rfl rfl (Q5.cons hm.s0 Q5.nil) (Zm.nil (Jr K (flx0 := false) ay)) rfl)) rfl rfl ?_
  refine dV rfl rfl ?_
  refine dS (c := ⟨some 94, .agg [.sl false 1 (mI y), .sl false 1 (mI aa), .sl false 1 (mI ab), .sl false 1 (b.map (cL 2 Qf))], [(86, .sl false 1 (mI y)), (89, .sl false 1 (mI aa)), (92, .sl false 1 (mI ab)), (93, .sl false 1 (b.map (cL 2 Qf)))], [], []⟩) (fun t hm => oF rfl rfl (OpT.build (l := [.sl false 1 (mI y), .sl false 1 (mI aa), .sl false 1 (mI ab), .sl false 1 (b.map (cL 2 Qf))]) rfl (dk rfl) (Zv (pl := [(0, 1), (1, 1), (2, 1), (3, 1)]) Wi i51 rfl) (M1 rfl) (Vn hm.s0 rfl (Vn hm.s1 rfl (Vn hm.s2 rfl (Vn hm.s3 rfl Bt)))) rfl rfl)) rfl rfl ?_
  obtain ⟨an, ap, h⟩ := bind_some h
  refine dS (c := ⟨some 95, .el g 4 (Int.toNat m) 0, [(82, .c (.ex g)), (83, .int .i64 m)], [(1, .arrX g 51 4 0 (j.map Qb))], []⟩) (fun t hm => oF rfl rfl (Yb (n := 1) (xs := j) (f := Qb) (old := an) rfl (dk rfl) Us i51 hm.s0 hm.o0 hm.s1 ap rfl)) rfl rfl ?_
  refine dS (c := ⟨none, .any, [(95, .el g 4 (Int.toNat m) 0), (94, .agg [.sl false 1 (mI y), .sl false 1 (mI aa), .sl false 1 (mI ab), .sl false 1 (b.map (cL 2 Qf))])], [(1, .arrX g 51 4 0 (j.map Qb))], [(1, .arrX g 51 4 0 ((List.set j (Int.toNat m) (Qa.mk y aa ab b)).map Qb))]⟩) (fun t hm => oF rfl rfl (Qde (i := 1) (xs := j) (f := Qb) (old := an) (new := (Qa.mk y aa ab b)) rfl rfl i51 hm.s0 hm.s1 rfl hm.o0 (Zu ap).2 (Nat.zero_le _) (nb rfl) rfl rfl)) rfl rfl ?_
  refine dF [0,0,0,4,12,0,32,124,0,256,1020,0,4092,8191,16383] Q3 rfl (by kernel_rfl) (fun u hu => (Qn (tN (Qm hu ?_))))
  refine Qr ?_
  refine oI rfl ?_
  refine mw rfl ?_
  refine TL'.nil (tN ?_)
  refine Qh ?_ (hgo0 x1 x0 ac (wI (ad + (1:Int))) (List.set j (Int.toNat m) (Qa.mk y aa ab b)) flx1 g h)
  exact tq rfl rfl
theorem P0 {r : Qc} (K bx0 : Nat) : ∀ (k : Nat), ∀ (x1 : List Int) (x0 : Qc) (m g : Int) (j : List Qa) (flx1 : Bool) (b : Value), Yi K k x1 x0 m g j = some r → TL tp 102 (ca [1,0,1,0,0] Tryz.f56) ⟨[(0, .ptr bx0 0), (1, .sl flx1 1 (mI x1)), (4, .c (.ex b)), (24, .sl false 4 (x0.Auto.States.map Qb)), (25, .int .i64 m), (26, .int .i64 g)], [(Hm bx0 x0.Auto.Split.Of x0.Auto.Split.Many x0.Auto.Counts x0.Auto.States), .arrX b 51 4 0 (j.map Qb)]⟩ (V5 bx0 r) := by
 intro k
 induction k with
 | zero =>
  intro x1 x0 m g j flx1 b h
  exact zn h
 | succ k ih =>
  intro x1 x0 m g j flx1 b h
  rw [Yi] at h
  refine Q6 ?_
  refine T.seq (Qr ?_)
  refine oI rfl ?_
  refine TL'.nil (tN ?_)
  refine T.seq ?_
  rcases Qd h with ⟨p, h⟩ | ⟨p, h⟩
  refine Qq rfl p ?_
  refine T.skip (tN ?_)
  refine T.seq ?_
  refine T.block ?_
  refine T.seq (Qr ?_)
  refine mw rfl ?_
  obtain ⟨a, q, h⟩ := bind_some h
  refine oX x0.Auto.States Qb Us i51 q rfl ?_
  refine sp rfl (Za rfl (dk rfl) Wi rfl i51 rfl (nb rfl) ?_)
  refine sp rfl (Zh rfl (dk rfl) i51 rfl (fun u => ?_))
  refine aw rfl ?_
  refine sp rfl (Qy (i := 0) (cells' := [.d (.sl false 1 (mI a.L)), .d (.sl false 1 (mI a.R)), .d (.sl false 1 (mI a.Rule)), .d (.sl false 1 (a.Next.map (cL 2 Qf)))]) rfl rfl i51 rfl rfl rfl rfl (nb rfl) rfl ?_)
  refine TL'.nil (tN (T.seq (Qr ?_)))
  refine oP Wi i49 rfl ?_
  refine oL 0 Fp rfl ?_
  refine oU a.Next (cL 2 Qf) Fp rfl ?_
  obtain ⟨w, h⟩ := Zf h
  obtain ⟨y, h⟩ := Zf h
  refine sp rfl (Rs (e1 := 54) (esz := 2) (f := Qf) rfl (dk rfl) Fp i55 rfl rfl w y (fun aa => ?_))
  refine aw rfl ?_
  refine TL'.nil (tN ?_)
  refine T.seq ?_
  refine T.seq (Qr ?_)
  refine oP Wi i49 rfl ?_
  refine oL 1 Fp rfl ?_
  refine oU a.Next (cL 2 Qf) Fp rfl ?_
  refine mw rfl ?_
  refine TL'.nil (tN ?_)
  refine T.block ?_
  refine T.loop ?_
  refine Qh ?_ (Py K bx0 (Yi K k) ih K x1 g x0 m g a.Next (a.Next.length : Int) (0:Int) j a.L a.R a.Rule a.Next (List.replicate (Int.toNat (a.Next.length : Int)) ([] : List Qe)) flx1 b u aa h)
  exact tr rfl (.c (.s (.s .z)) (.c (.s (.s .z)) (.c (.s .z) (.c .z (.n _)))))
  refine Qp rfl p ?_
  refine T.exit (Qj (Qj (Qs (tN ?_))))
  refine Qr ?_
  refine mw rfl ?_
  refine mw rfl ?_
  refine oK rfl ?_
  refine oP ul69 i28 rfl ?_
  refine oP Uv i26 rfl ?_
  refine sp rfl (W2 (i := 0) (cells' := ((Zi.oc 256 .u8 x0.Auto.Split.Of) ++ (([.d (.int .i64 x0.Auto.Split.Many), .d (.sl false 2 (mA x0.Auto.Counts)), .d (.ex b)]:List OC)))) rfl rfl i26 rfl rfl rfl (nb rfl) rfl ?_)
  refine TL'.nil ?_
  refine X7 (Ko 1 rfl) ?_
  refine X7 (Lq 0 (l := ((Zi.dc 256 .u8 x0.Auto.Split.Of) ++ (([.int .i64 x0.Auto.Split.Many, .sl false 2 (mA x0.Auto.Counts), .ex b] : List DC)))) (l' := ((Zi.dc 256 .u8 x0.Auto.Split.Of) ++ (([.int .i64 x0.Auto.Split.Many, .sl false 2 (mA x0.Auto.Counts), .sl false 4 (j.map Qb)] : List DC)))) rfl (.app _ (.cons (.same _) (.cons (.same _) (.cons (.view 1 rfl) (.refl _)))))) ?_
  exact Q7 (.nil) (.cons 0 rfl (.nil _)) (by cases h; exact ⟨gl [], rfl, rfl⟩)
theorem T9 (K : Nat) {x0 : Qc} {x1 : List Int} {bx0 : Nat} {flx1 : Bool} {r : Qc} (h : Vc K x0 x1 = some r) : U7 tp 56 [.ptr bx0 0, .sl flx1 1 (mI x1)] [(Hm bx0 x0.Auto.Split.Of x0.Auto.Split.Many x0.Auto.Counts x0.Auto.States)] (fun γ => (.tup [])) (fun γ => [(Hm bx0 r.Auto.Split.Of r.Auto.Split.Many r.Auto.Counts r.Auto.States)]) := by
 refine Qt Tryz.func56 rfl (nb rfl) ?_
 show T tp 102 (ca [] Tryz.f56) ⟨Qw 0 [.ptr bx0 0, .sl flx1 1 (mI x1)], [(Hm bx0 x0.Auto.Split.Of x0.Auto.Split.Many x0.Auto.Counts x0.Auto.States)]⟩ (Kr bx0 r)
 unfold Vc at h
 refine T.seq (Qr ?_)
 refine mw rfl ?_
 refine oK rfl ?_
 refine oP ul69 i28 rfl ?_
 refine oP Uv i26 rfl ?_
 refine oL 0 Us rfl ?_
 refine oU x0.Auto.States Qb Us rfl ?_
 obtain ⟨a, h⟩ := Zf h
 obtain ⟨b, h⟩ := Zf h
 refine sp rfl (Qdf (f := Qb) (zv := ((Qa.mk [] [] [] []) : Qa)) rfl (dk rfl) Us i51 (by decide) rfl rfl (fun _ => .cons (.nil _ _) (.cons (.nil _ _) (.cons (.nil _ _) (.cons (.nil _ _) (.refl _))))) rfl rfl rfl a b (fun g => ?_))
 refine aw rfl ?_
 refine TL'.nil (tN ?_)
 refine T.seq ?_
 refine T.seq (Qr ?_)
 refine mw rfl ?_
 refine oK rfl ?_
 refine oP ul69 i28 rfl ?_
 refine oP Uv i26 rfl ?_
 refine oL 1 Us rfl ?_
 refine oU x0.Auto.States Qb Us rfl ?_
 refine mw rfl ?_
 refine TL'.nil (tN ?_)
 refine T.block ?_
 refine T.loop ?_
 refine Qh ?_ (P0 K bx0 K x1 x0 (x0.Auto.States.length : Int) (0:Int) (List.replicate (Int.toNat (x0.Auto.States.length : Int)) ((Qa.mk [] [] [] []) : Qa)) flx1 g h)
 exact tr rfl (.c (.s .z) (.c .z (.n _)))
abbrev B5 (bx0 : Nat) (r : Qc) : ES := J9 tp Tryz.f27 (fun y t => ∃ γ : Nat → Value, y = (.tup []) ∧ t = [.tab 0 Y9, (Hm bx0 r.Auto.Split.Of r.Auto.Split.Many r.Auto.Counts r.Auto.States)])
abbrev Sr (bx0 : Nat) (r : Qc) : ES := thenS (fun s' => T tp 41 (ca [1,1,1] Tryz.f27) s' ((B5 bx0 r))) ((B5 bx0 r))
abbrev Jc (bx0 : Nat) (r : Qc) : ES := Qz 0 ((Sr bx0 r))
abbrev Bh (bx0 : Nat) (r : Qc) : ES := thenS (fun s' => TL tp 41 (ca [1,1,0,1,0,0] Tryz.f27) s' ((Jc bx0 r))) ((Jc bx0 r))
abbrev Fu (bx0 : Nat) (r : Qc) : ES := thenS (fun s' => T tp 41 (ca [1,1,0,1,0,0,1,1,1] Tryz.f27) s' ((Bh bx0 r))) ((Bh bx0 r))
abbrev Da (bx0 : Nat) (r : Qc) : ES := Qz 1 ((Fu bx0 r))
abbrev Qaf (bx0 : Nat) (r : Qc) (go : (List Int) → Int → Int → Qc → (List (Int × Int)) → (List Int) → Option Qc) : Prop := ∀ (a : List Int) (b f : Int) (x0 : Qc) (g : List (Int × Int)) (i : List Int) (j : Nat) (l : Value), go a b f x0 g i = some r → TL tp 41 (ca [1,1,0,1,0,0] Tryz.f27) ⟨[(0, .ptr bx0 0), (2, .c (.ex (.map (some j)))), (3, .c (.ex l)), (13, .sl false 1 (mI a)), (14, .int .i64 b), (15, .int .i64 f)], [(Hm bx0 x0.Auto.Split.Of x0.Auto.Split.Many x0.Auto.Counts x0.Auto.States), .map j (kvs kI kI g), .arrA l 3 1 (mI i), .tab 0 Y9]⟩ (Jc bx0 r)
theorem Eg {r : Qc} (K bx0 : Nat) (go0 : (List Int) → Int → Int → Qc → (List (Int × Int)) → (List Int) → Option Qc) (hgo0 : Qaf bx0 r go0) (j : Int) (p : List Int) (q s : Int) (x0 : Qc) (b : List (Int × Int)) (m : List Int) (u : Nat) (v : Value) (h : Uk K go0 j p q s x0 b m = some r) : T tp 41 (ca [1,1,0,1,0,0,1,1,0,0,1,1] Tryz.f27) ⟨[(0, .ptr bx0 0), (2, .c (.ex (.map (some u)))), (3, .c (.ex v)), (5, .int .i64 j), (13, .sl false 1 (mI p)), (14, .int .i64 q), (15, .int .i64 s)], [(Hm bx0 x0.Auto.Split.Of x0.Auto.Split.Many x0.Auto.Counts x0.Auto.States), .map u (kvs kI kI b), .arrA v 3 1 (mI m), .tab 0 Y9]⟩ (Da bx0 r) := by
 unfold Uk at h
 refine Qr ?_
 iterate 3 refine mw rfl ?_
 refine sp rfl (OpT.lookup (i := 1) (g := kI) (h := kI) (z := 0) (l := b) (a := j) rfl (dk rfl) KeyK.kI ul111 ul3 i3 (fun _ => rfl) rfl rfl rfl ?_)
 refine sp rfl (OpT.buildSlice (elems := ([((b.lookup j).getD 0)] : List Int).map (cI .i64)) rfl (dk rfl) Zx i3 (by decide) rfl (M1 rfl) rfl rfl rfl (Uf rfl) (by decide) ?_)
 obtain ⟨w, h⟩ := Zf h
 refine sp rfl (Zy (i := 2) (xs := m) (ys := [((b.lookup j).getD 0)]) (f := (cI .i64)) rfl (dk rfl) Zx i3 rfl rfl rfl rfl w (fun y => ?_))
 refine aw rfl ?_
 refine TL'.nil (Qn (tN ?_))
 refine Qr ?_
 refine oI rfl ?_
 refine mw rfl ?_
 refine TL'.nil (tN ?_)
 refine Qh ?_ (hgo0 p q (wI (s + (1:Int))) x0 b (m ++ [((b.lookup j).getD 0)]) u y h)
 exact tq rfl rfl
theorem Qae {r : Qc} (K bx0 : Nat) : ∀ (k : Nat), ∀ (m : List Int) (p b : Int) (x0 : Qc) (j : List (Int × Int)) (q : List Int) (s : Nat) (u : Value), Yo K k m p b x0 j q = some r → TL tp 41 (ca [1,1,0,1,0,0] Tryz.f27) ⟨[(0, .ptr bx0 0), (2, .c (.ex (.map (some s)))), (3, .c (.ex u)), (13, .sl false 1 (mI m)), (14, .int .i64 p), (15, .int .i64 b)], [(Hm bx0 x0.Auto.Split.Of x0.Auto.Split.Many x0.Auto.Counts x0.Auto.States), .map s (kvs kI kI j), .arrA u 3 1 (mI q), .tab 0 Y9]⟩ (Jc bx0 r) := by
 intro k
 induction k with
 | zero =>
  intro m p b x0 j q s u h
  exact zn h
 | succ k ih =>
  intro m p b x0 j q s u h
  rw [Yo] at h
  refine Q6 ?_
  refine T.seq (Qr ?_)
  refine oI rfl ?_
  refine TL'.nil (tN ?_)
  refine T.seq ?_
  rcases Qd h with ⟨y, h⟩ | ⟨y, h⟩
  refine Qq rfl y ?_
  refine T.skip (tN ?_)
  refine T.seq ?_
  refine T.block ?_
  refine T.seq (Qr ?_)
  refine mw rfl ?_
  obtain ⟨w, ab, h⟩ := bind_some h
  refine oX m (cI .i64) Zx i3 ab rfl ?_
  refine oR ul3 rfl ?_
  refine aw rfl ?_
  refine aw rfl ?_
  refine TL'.nil (tN ?_)
  refine T.seq ?_
  refine T.seq (Qr ?_)
  refine mw rfl ?_
  refine mw rfl ?_
  refine sp rfl (Qgy (i := 1) (g := kI) (h := kI) (z := 0) (l := j) (a := w) rfl (dk rfl) KeyK.kI ul111 ul3 i3 (fun _ => rfl) rfl rfl rfl ?_)
  refine mw rfl ?_
  refine oE rfl ?_
  refine oE rfl ?_
  refine aw rfl ?_
  refine aw rfl ?_
  refine TL'.nil (tN (T.seq (Qr ?_)))
  refine mw rfl ?_
  refine oT rfl ?_
  refine TL'.nil (tN ?_)
  rcases Qd h with ⟨aa, h⟩ | ⟨aa, h⟩
  refine Qq rfl aa ?_
  refine Qr ?_
  iterate 3 refine mw rfl ?_
  obtain ⟨ac, h⟩ := Zf h
  refine sp rfl (OpT.mapPut (i := 1) (g := kI) (h := kI) (l := j) (a := w) (v := b) rfl rfl KeyK.kI ul111 ul3 rfl rfl rfl rfl ac ?_)
  refine TL'.nil (tN ?_)
  refine Qm ?_ (Eg K bx0 (Yo K k) ih w m p b x0 (j ++ [(w, b)]) q s u h)
  exact tq rfl rfl
  refine Qp rfl aa ?_
  refine T.skip (tN ?_)
  refine Qm ?_ (Eg K bx0 (Yo K k) ih w m p b x0 j q s u h)
  exact tq rfl rfl
  refine Qp rfl y ?_
  refine T.exit (Qj (Qj (Qs (tN ?_))))
  refine Qr ?_
  refine mw rfl ?_
  refine mw rfl ?_
  obtain ⟨af, ad, h⟩ := bind_some h
  refine sp rfl (Q8 (is := [0]) (ph := []) rfl (dk rfl) Tryz.func56 rfl rfl (Q5.cons rfl (Q5.view (i := 2) rfl rfl Q5.nil)) (T9 K (bx0 := bx0) (flx1 := false) ad) (.cons rfl rfl (.nil)) (fun _ => rfl) (fun ag => ?_))
  refine nm (.c (.c (.c (.c (.n))))) ?_
  refine TL'.nil ?_
  exact Q7 (.nil) (.cons 3 rfl (.cons 0 rfl (.nil _))) (by cases h; exact ⟨gl [], rfl, rfl⟩)
theorem Qdi (K : Nat) {x0 : Qc} {bx0 : Nat} {r : Qc} (h : Gy K x0 = some r) : U7 tp 27 [.ptr bx0 0] [.tab 0 Y9, (Hm bx0 x0.Auto.Split.Of x0.Auto.Split.Many x0.Auto.Counts x0.Auto.States)] (fun γ => (.tup [])) (fun γ => [.tab 0 Y9, (Hm bx0 r.Auto.Split.Of r.Auto.Split.Many r.Auto.Counts r.Auto.States)]) := by
 refine Qt Tryz.func27 rfl (nb rfl) ?_
 show T tp 41 (ca [] Tryz.f27) ⟨Qw 0 [.ptr bx0 0], [.tab 0 Y9, (Hm bx0 x0.Auto.Split.Of x0.Auto.Split.Many x0.Auto.Counts x0.Auto.States)]⟩ (B5 bx0 r)
 unfold Gy at h
 refine T.seq (Qr ?_)
 refine sp rfl (OpT.makeMap rfl (dk rfl) (fun b => ?_))
 refine aw rfl ?_
 refine TL'.nil (tN (T.seq (Qr ?_)))
 refine aw rfl ?_
 refine TL'.nil (tN ?_)
 refine T.seq ?_
 refine T.seq (Qr ?_)
 refine mw rfl ?_
 refine oK rfl ?_
 refine oP ul69 i28 rfl ?_
 refine oA 2 ((Zi.dc 256 .u8 x0.Auto.Split.Of) ++ (([.int .i64 x0.Auto.Split.Many, .sl false 2 (mA x0.Auto.Counts), .sl false 4 (x0.Auto.States.map Qb)] : List DC))) Uv i28 rfl ?_
 obtain ⟨a, g, h⟩ := bind_some h
 refine sp rfl (H9 rfl (dk rfl) Tryz.func17 rfl rfl (Q5.cons rfl Q5.nil) (.tab 1 rfl (.nil)) (Sv K g) ?_)
 refine oU a (cI .i64) Zx rfl ?_
 refine mw rfl ?_
 refine TL'.nil (tN ?_)
 refine T.block ?_
 refine T.loop ?_
 refine Qh (Xy 3 1) ?_
 refine Qh ?_ (Qae K bx0 K a (a.length : Int) (0:Int) x0 [] [] b (Qf1 2) h)
 exact tr rfl (.c (.s (.s (.s .z))) (.c (.s .z) (.c .z (.c .z (.n _)))))
abbrev trim_Of_q (r : Ql × Int) : ES := J9 tp Tryz.f10 (fun y t => y = (.tup [.agg ((Zi.dc 256 .u8 r.1.Split.Of) ++ (([.int .i64 r.1.Split.Many, .sl false 2 (mA r.1.Counts), .sl false 4 (r.1.States.map Qb)] : List DC))), .int .i64 r.2]) ∧ t = [.tab 0 Y9])
theorem Qgt {r : Ql × Int} (K : Nat) (f g : Zi) (j : Int) (m : List Vr) (p : List Qa) (q b : Nat) (h : Nk K f g j m p = some r) : T tp 36 (ca [1,1,1,1,1,1] Tryz.f10) ⟨[(2, .ptr q 0), (4, .ptr b 0)], [(Qh6 q f (0:Int) (.slice none 0 0) (.slice none 0 0)), (Hm b g j m p), .tab 0 Y9]⟩ (trim_Of_q r) := by
 unfold Nk at h
 refine T.seq (Qr ?_)
 refine mw rfl ?_
 obtain ⟨a, s, h⟩ := bind_some h
 refine sp rfl (Q8 (is := [1]) (ph := []) rfl (dk rfl) Tryz.func28 rfl rfl (Q5.cons rfl Q5.nil) (Qdh K (bx0 := b) s) (.cons rfl rfl (.nil)) (fun _ => rfl) (fun u => ?_))
 refine nm (.c (.c (.c (.n)))) ?_
 refine TL'.nil (tN (T.seq (Qr ?_)))
 refine mw rfl ?_
 refine oK rfl ?_
 refine oP ul69 i28 rfl ?_
 refine oA 1 ((Zi.dc 256 .u8 a.Auto.Split.Of) ++ (([.int .i64 a.Auto.Split.Many, .sl false 2 (mA a.Auto.Counts), .sl false 4 (a.Auto.States.map Qb)] : List DC))) Uv i28 rfl ?_
 refine sp rfl (Qy (i := 0) (cells' := ((Zi.oc 256 .u8 a.Auto.Split.Of) ++ (([.d (.int .i64 a.Auto.Split.Many), .d (.sl false 2 (mA a.Auto.Counts)), .d (.sl false 4 (a.Auto.States.map Qb))]:List OC)))) rfl rfl i28 rfl rfl rfl rfl (nb rfl) rfl ?_)
 refine aw rfl ?_
 refine TL'.nil (tN ?_)
 refine T.ret ?_
 exact Q7 (.cons _ _ _ _ (.cellAgg 2 28 _ 0 0 28 _ ((Zi.dc 256 .u8 a.Auto.Split.Of) ++ (([.int .i64 a.Auto.Split.Many, .sl false 2 (mA a.Auto.Counts), .sl false 4 (a.Auto.States.map Qb)] : List DC))) _ _ 259 _ rfl rfl rfl rfl Uv rfl i28) (.cons _ _ _ _ (.tmp 3 _ rfl) .nil)) (.cons 2 rfl (.nil _)) (by cases h; exact ⟨rfl, rfl⟩)
theorem Qhr (K : Nat) {x0 : Ql} {r : Ql × Int} (h : Su K x0 = some r) : Zm tp 10 [.agg ((Zi.dc 256 .u8 x0.Split.Of) ++ (([.int .i64 x0.Split.Many, .sl false 2 (mA x0.Counts), .sl false 4 (x0.States.map Qb)] : List DC)))] [.tab 0 Y9] (.tup [.agg ((Zi.dc 256 .u8 r.1.Split.Of) ++ (([.int .i64 r.1.Split.Many, .sl false 2 (mA r.1.Counts), .sl false 4 (r.1.States.map Qb)] : List DC))), .int .i64 r.2]) := by
 refine Qt Tryz.func10 rfl (nb rfl) ?_
 show T tp 36 (ca [] Tryz.f10) ⟨Qw 0 [.agg ((Zi.dc 256 .u8 x0.Split.Of) ++ (([.int .i64 x0.Split.Many, .sl false 2 (mA x0.Counts), .sl false 4 (x0.States.map Qb)] : List DC)))], [.tab 0 Y9]⟩ (trim_Of_q r)
 unfold Su at h
 refine T.seq (Qr ?_)
 refine sp rfl (Zb rfl (dk rfl) rfl (fun aa => ?_))
 refine sp rfl (Zh rfl (dk rfl) i28 rfl (fun p => ?_))
 refine aw rfl ?_
 refine TL'.nil (tN ?_)
 refine T.seq ?_
 refine T.seq (Qr ?_)
 refine oA 1 ((Zi.dc 256 .u8 x0.Split.Of) ++ (([.int .i64 x0.Split.Many, .sl false 2 (mA x0.Counts), .sl false 4 (x0.States.map Qb)] : List DC))) Uv i28 rfl ?_
 obtain ⟨ab, q, h⟩ := bind_some h
 refine sp rfl (Q0 rfl (dk rfl) Tryz.func24 rfl rfl (Q5.cons rfl Q5.nil) (Zm.nil (Qck K q)) ?_)
 refine oT rfl ?_
 refine TL'.nil (tN ?_)
 rcases Qd h with ⟨j, h⟩ | ⟨j, h⟩
 refine Qq rfl j ?_
 refine T.seq (Qr ?_)
 refine sp rfl (OpT.build (l := ((Zi.dc 256 .u8 (Zi.mk fun _ => 0)) ++ (([.int .i64 (0:Int), .ex (.slice none 0 0), .ex (.slice none 0 0)] : List DC)))) rfl (dk rfl) (Zv (pl := [(0, 257), (257, 1), (258, 1)]) Uv i28 rfl) (M1 rfl) rfl rfl ?_)
 refine sp rfl (Qy (i := 0) (cells' := ((Zi.oc 256 .u8 (Zi.mk fun _ => 0)) ++ (([.d (.int .i64 (0:Int)), .d (.ex (.slice none 0 0)), .d (.ex (.slice none 0 0))]:List OC)))) rfl rfl i28 rfl rfl rfl rfl (nb rfl) rfl ?_)
 refine aw rfl ?_
 refine TL'.nil (tN ?_)
 refine T.ret (Qv ?_)
 refine X7 (Lq 0 (l := ((Zi.dc 256 .u8 (Zi.mk fun _ => 0)) ++ (([.int .i64 (0:Int), .ex (.slice none 0 0), .ex (.slice none 0 0)] : List DC)))) (l' := ((Zi.dc 256 .u8 (Zi.mk fun _ => 0)) ++ (([.int .i64 (0:Int), .sl false 2 (([] : List Vr).map (Vr.dc .i64)), .sl false 4 (([] : List Qa).map Qb)] : List DC)))) rfl (.app _ (.cons (.same _) (.cons (.nil _ _) (.cons (.nil _ _) (.refl _)))))) ?_
 exact Q7 (.cons _ _ _ _ (.cellAgg 2 28 _ 0 0 28 _ ((Zi.dc 256 .u8 (Zi.mk fun _ => 0)) ++ (([.int .i64 (0:Int), .sl false 2 (([] : List Vr).map (Vr.dc .i64)), .sl false 4 (([] : List Qa).map Qb)] : List DC))) _ _ 259 _ rfl rfl rfl rfl Uv rfl i28) (.cons _ _ _ _ (.tmp 3 _ rfl) .nil)) (.cons 2 rfl (.nil _)) (by cases h; exact ⟨rfl, rfl⟩)
 refine Qp rfl j ?_
 refine T.skip (tN ?_)
 refine T.seq (Qr ?_)
 refine oA 1 ((Zi.dc 256 .u8 x0.Split.Of) ++ (([.int .i64 x0.Split.Many, .sl false 2 (mA x0.Counts), .sl false 4 (x0.States.map Qb)] : List DC))) Uv i28 rfl ?_
 refine sp rfl (OpT.build (l := ((Zi.dc 256 .u8 x0.Split.Of) ++ (([.int .i64 x0.Split.Many, .sl false 2 (mA x0.Counts), .sl false 4 (x0.States.map Qb)] : List DC)))) rfl (dk rfl) (Zv (pl := [(0, 259)]) ul69 i69 rfl) (M1 rfl) rfl rfl ?_)
 refine sp rfl (Zb rfl (dk rfl) rfl (fun b => ?_))
 refine aw rfl ?_
 refine TL'.nil (tN (T.seq (Qr ?_)))
 refine mw rfl ?_
 refine oP Uv i25 rfl ?_
 refine oL 2 Qcw rfl ?_
 obtain ⟨u, v, h⟩ := bind_some h
 refine sp rfl (Q0 rfl (dk rfl) Tryz.func25 rfl rfl (Q5.cons rfl Q5.nil) (Zm.nil (Qby K (flx0 := false) v)) ?_)
 refine oK rfl ?_
 refine oP ul69 i28 rfl ?_
 refine oP Uv i25 rfl ?_
 refine sp rfl (W2 (i := 0) (cells' := ((Zi.oc 256 .u8 x0.Split.Of) ++ (([.d (.int .i64 x0.Split.Many), .d (.sl false 2 (mA u)), .d (.sl false 4 (x0.States.map Qb))]:List OC)))) rfl rfl i25 rfl rfl rfl (nb rfl) rfl ?_)
 refine TL'.nil (tN (T.seq (Qr ?_)))
 refine mw rfl ?_
 obtain ⟨a, w, h⟩ := bind_some h
 refine sp rfl (Q8 (is := [0]) (ph := []) rfl (dk rfl) Tryz.func26 rfl rfl (Q5.cons rfl Q5.nil) (Qdj K (bx0 := b) w) (.cons rfl rfl (.nil)) (fun _ => rfl) (fun ac => ?_))
 refine nm (.c (.c (.c (.c (.n))))) ?_
 refine TL'.nil (tN ?_)
 refine T.seq ?_
 refine T.seq (Qr ?_)
 refine mw rfl ?_
 refine oK rfl ?_
 refine oP ul69 i28 rfl ?_
 refine oP Uv i25 rfl ?_
 refine oL 0 Qcw rfl ?_
 refine oU a.Auto.Counts (Vr.dc .i64) Qcw rfl ?_
 refine oI rfl ?_
 refine TL'.nil (tN ?_)
 rcases Qd h with ⟨m, h⟩ | ⟨m, h⟩
 refine Qq rfl m ?_
 refine Qr ?_
 refine mw rfl ?_
 obtain ⟨g, y, h⟩ := bind_some h
 refine sp rfl (Q8 (is := [3, 0]) (ph := []) rfl (dk rfl) Tryz.func27 rfl rfl (Q5.cons rfl Q5.nil) (Qdi K (bx0 := b) y) (.cons rfl rfl (.cons rfl rfl (.nil))) (fun _ => rfl) (fun ad => ?_))
 refine nm (.c (.c (.c (.c (.n))))) ?_
 refine TL'.nil (tN ?_)
 refine Qm ?_ (Qgt K (Zi.mk fun _ => 0) g.Auto.Split.Of g.Auto.Split.Many g.Auto.Counts g.Auto.States p b h)
 exact tr rfl (.c (.s .z) (.c .z (.c (.s .z) (.n _))))
 refine Qp rfl m ?_
 refine T.skip (tN ?_)
 refine Qm ?_ (Qgt K (Zi.mk fun _ => 0) a.Auto.Split.Of a.Auto.Split.Many a.Auto.Counts a.Auto.States p b h)
 exact tr rfl (.c (.s .z) (.c .z (.c (.s .z) (.n _))))
abbrev Cl (r : Bool) : ES := J9 tp Tryz.f42 (fun y t => y = (.bool r) ∧ t = [])
abbrev Tf (r : Bool) : ES := thenS (fun s' => T tp 29 (ca [1,1,1] Tryz.f42) s' ((Cl r))) ((Cl r))
abbrev Rl (r : Bool) : ES := Qz 0 ((Tf r))
theorem Qbb {r : Bool} (K : Nat) : ∀ (k : Nat), ∀ (f g : Int) (x0 : Q9) (j : Nat), Xg K k f g x0 = some r → TL tp 29 (ca [1,1,0,1,0,0] Tryz.f42) ⟨[(1, .ptr j 0), (3, .int .i64 f), (4, .int .i64 g)], [(Qhd j x0.Of x0.Many)]⟩ (Rl r) := by
 intro k
 induction k with
 | zero =>
  intro f g x0 j h
  exact zn h
 | succ k ih =>
  intro f g x0 j h
  rw [Xg] at h
  refine Q6 ?_
  refine T.seq ?_
  refine T.seq (Qr ?_)
  refine mw rfl ?_
  refine oI rfl ?_
  refine TL'.nil (tN ?_)
  rcases Qd h with ⟨l, h⟩ | ⟨l, h⟩
  refine Qq rfl l ?_
  refine T.skip (tN ?_)
  refine T.seq ?_
  refine T.block ?_
  refine T.seq ?_
  refine T.seq (Qr ?_)
  refine mw rfl ?_
  refine oP Qhi i22 rfl ?_
  obtain ⟨b, h⟩ := Zf h
  refine sp rfl (Y8 rfl (dk rfl) ul22 i5 rfl rfl b.1 b.2 ?_)
  refine sp rfl (Zn (i := 0) rfl (dk rfl) ul5 rfl rfl rfl (Qev (n := 256) (k := .u8) (a := x0.Of) (pre := []) (post := [.d (.int .i64 x0.Many)]) b.1 b.2) ?_)
  refine sp rfl (V0 rfl (dk rfl) ul5 ul3 rfl ?_)
  refine mw rfl ?_
  refine oI rfl ?_
  refine TL'.nil (tN ?_)
  rcases Qd h with ⟨m, h⟩ | ⟨m, h⟩
  refine Qq rfl m ?_
  refine T.seq (Qr ?_)
  refine aw rfl ?_
  refine TL'.nil (tN ?_)
  refine T.ret (Qv (Q2 (Qv (Qv (Q2 (Qv ?_))))))
  exact fd rfl (by cases h; exact ⟨rfl, rfl⟩)
  refine Qp rfl m ?_
  refine T.skip (tN ?_)
  refine T.seq (Qr ?_)
  refine mw rfl ?_
  refine oP Qhi i22 rfl ?_
  refine sp rfl (Y8 rfl (dk rfl) ul22 i5 rfl rfl b.1 b.2 ?_)
  refine sp rfl (Zn (i := 0) rfl (dk rfl) ul5 rfl rfl rfl (Qev (n := 256) (k := .u8) (a := x0.Of) (pre := []) (post := [.d (.int .i64 x0.Many)]) b.1 b.2) ?_)
  refine sp rfl (V0 rfl (dk rfl) ul5 ul3 rfl ?_)
  refine mw rfl ?_
  refine oI rfl ?_
  refine TL'.nil (tN ?_)
  rcases Qd h with ⟨p, h⟩ | ⟨p, h⟩
  refine Qq rfl p ?_
  refine Qr ?_
  refine mw rfl ?_
  refine oI rfl ?_
  refine aw rfl ?_
  refine TL'.nil (Qn (tN ?_))
  refine Qr ?_
  refine mw rfl ?_
  refine oI rfl ?_
  refine aw rfl ?_
  refine TL'.nil (tN ?_)
  refine Qh ?_ (ih (wI (f + (1:Int))) (wI (g + (1:Int))) x0 j h)
  exact tq rfl rfl
  refine Qp rfl p ?_
  refine T.skip (Qn (tN ?_))
  refine Qr ?_
  refine mw rfl ?_
  refine oI rfl ?_
  refine aw rfl ?_
  refine TL'.nil (tN ?_)
  refine Qh ?_ (ih f (wI (g + (1:Int))) x0 j h)
  exact tq rfl rfl
  refine Qp rfl l ?_
  refine T.exit (Qj (Qj (Qs (tN ?_))))
  refine T.seq (Qr ?_)
  refine mw rfl ?_
  refine oP Qhi i3 rfl ?_
  refine oL 0 ul3 rfl ?_
  refine oI rfl ?_
  refine aw rfl ?_
  refine TL'.nil (tN ?_)
  refine T.ret ?_
  exact fd rfl (by cases h; exact ⟨rfl, rfl⟩)
theorem Qef (K : Nat) {x0 : Q9} {r : Bool} (h : Lf K x0 = some r) : Zm tp 42 [.agg ((Zi.dc 256 .u8 x0.Of) ++ (([.int .i64 x0.Many] : List DC)))] [] (.bool r) := by
 refine Qt Tryz.func42 rfl (nb rfl) ?_
 show T tp 29 (ca [] Tryz.f42) ⟨Qw 0 [.agg ((Zi.dc 256 .u8 x0.Of) ++ (([.int .i64 x0.Many] : List DC)))], []⟩ (Cl r)
 unfold Lf at h
 refine T.seq (Qr ?_)
 refine sp rfl (Zb rfl (dk rfl) rfl (fun a => ?_))
 refine aw rfl ?_
 refine TL'.nil (tN (T.seq (Qr ?_)))
 refine aw rfl ?_
 refine TL'.nil (tN ?_)
 refine T.seq ?_
 refine T.seq (Qr ?_)
 refine aw rfl ?_
 refine TL'.nil (tN ?_)
 refine T.block ?_
 refine T.loop ?_
 refine Qh ?_ (Qbb K K (0:Int) (0:Int) x0 a h)
 exact tq rfl rfl
abbrev Wv (r : Int) : ES := J9 tp Tryz.f46 (fun y t => y = (.int .i64 r) ∧ t = [])
abbrev Qax (r : Int) : ES := thenS (fun s' => T tp 19 (ca [1,1] Tryz.f46) s' ((Wv r))) ((Wv r))
abbrev R9 (r : Int) : ES := thenS (fun s' => T tp 19 (ca [1,1,1,1] Tryz.f46) s' ((Wv r))) ((Wv r))
abbrev Pd (r : Int) : ES := Qz 0 ((R9 r))
theorem Ei {r : Int} (K : Nat) (h : J6 K = some r) : T tp 19 (ca [1,0,1,0] Tryz.f46) ⟨[], []⟩ (Qax r) := by
 unfold J6 at h
 refine T.seq (Qr ?_)
 refine aw rfl ?_
 refine TL'.nil (tN ?_)
 refine T.ret (Qv ?_)
 exact fd rfl (by cases h; exact ⟨rfl, rfl⟩)
theorem Qay {r : Int} (K : Nat) : ∀ (k : Nat), ∀ (x0 a b : Int), J5 K k x0 a b = some r → TL tp 19 (ca [1,1,1,0,1,0,0] Tryz.f46) ⟨[(0, .int .i64 x0), (3, .int .i64 a), (4, .int .i64 b)], []⟩ (Pd r) := by
 intro k
 induction k with
 | zero =>
  intro x0 a b h
  exact zn h
 | succ k ih =>
  intro x0 a b h
  rw [J5] at h
  refine Q6 ?_
  refine T.seq ?_
  refine T.seq (Qr ?_)
  refine mw rfl ?_
  refine mw rfl ?_
  refine oI rfl ?_
  refine TL'.nil (tN ?_)
  rcases Qd h with ⟨c, h⟩ | ⟨c, h⟩
  refine Qq rfl c ?_
  refine T.skip (tN ?_)
  refine T.seq ?_
  refine T.block ?_
  refine Qr ?_
  refine mw rfl ?_
  refine oI rfl ?_
  refine aw rfl ?_
  refine TL'.nil (Qn (tN ?_))
  refine Qr ?_
  refine mw rfl ?_
  refine oI rfl ?_
  refine aw rfl ?_
  refine TL'.nil (tN ?_)
  refine Qh ?_ (ih x0 (wI (a * (3:Int))) (wI (b + (1:Int))) h)
  exact tq rfl rfl
  refine Qp rfl c ?_
  refine T.exit (Qj (Qj (Qs (tN ?_))))
  refine T.seq (Qr ?_)
  refine mw rfl ?_
  refine aw rfl ?_
  refine TL'.nil (tN ?_)
  refine T.ret ?_
  exact fd rfl (by cases h; exact ⟨rfl, rfl⟩)
theorem Oa (K : Nat) {x0 r : Int} (h : Jb K x0 = some r) : Zm tp 46 [.int .i64 x0] [] (.int .i64 r) := by
 refine Qt Tryz.func46 rfl (nb rfl) ?_
 show T tp 19 (ca [] Tryz.f46) ⟨Qw 0 [.int .i64 x0], []⟩ (Wv r)
 unfold Jb at h
 refine T.seq (Qr ?_)
 refine aw rfl ?_
 refine TL'.nil (tN ?_)
 refine T.seq ?_
 refine T.seq (Qr ?_)
 refine mw rfl ?_
 refine oI rfl ?_
 refine mw rfl ?_
 rcases Qd h with ⟨a, h⟩ | ⟨a, h⟩
 refine pf rfl a ?_
 refine pf rfl a ?_
 refine oY a rfl ?_
 refine TL'.nil (tN ?_)
 refine Qq rfl rfl ?_
 refine Qm ?_ (Ei K h)
 exact tq rfl rfl
 refine sn rfl a (OpT.move rfl (dk rfl) rfl ?_)
 refine sn rfl a (Zj rfl rfl (dk rfl) rfl rfl ?_)
 refine oZ a rfl ?_
 refine TL'.nil (tN ?_)
 rcases Qd h with ⟨b, h⟩ | ⟨b, h⟩
 refine Qq rfl b ?_
 refine Qm ?_ (Ei K h)
 exact tq rfl rfl
 refine Qp rfl b ?_
 refine T.skip (tN ?_)
 refine T.seq (Qr ?_)
 refine aw rfl ?_
 refine TL'.nil (tN ?_)
 refine T.seq ?_
 refine T.seq (Qr ?_)
 refine aw rfl ?_
 refine TL'.nil (tN ?_)
 refine T.block ?_
 refine T.loop ?_
 refine Qh ?_ (Qay K K x0 (1:Int) (0:Int) h)
 exact tq rfl rfl
abbrev B9 (r : Bool) : ES := J9 tp Tryz.f75 (fun y t => y = (.bool r) ∧ t = [])
abbrev Qao (r : Bool) : ES := thenS (fun s' => T tp 41 (ca [1,1] Tryz.f75) s' ((B9 r))) ((B9 r))
abbrev G3 (r : Bool) : ES := Qz 0 ((Qao r))
abbrev Cs (r : Bool) : ES := thenS (fun s' => TL tp 41 (ca [1,0,1,0,0] Tryz.f75) s' ((G3 r))) ((G3 r))
abbrev N3 (r : Bool) : ES := thenS (fun s' => T tp 41 (ca [1,0,1,0,0,1,1] Tryz.f75) s' ((Cs r))) ((Cs r))
abbrev Eo (r : Bool) : ES := Qz 1 ((N3 r))
theorem Kt {r : Bool} (K : Nat) (h : Um K = some r) : T tp 41 (ca [1,0,1,0,0,1,0,0,1,0] Tryz.f75) ⟨[], []⟩ (Eo r) := by
 unfold Um at h
 refine T.seq (Qr ?_)
 refine aw rfl ?_
 refine TL'.nil (tN ?_)
 refine T.ret (Q2 (Qv (Qv (Q2 (Qv ?_)))))
 exact fd rfl (by cases h; exact ⟨rfl, rfl⟩)
theorem Qap {r : Bool} (K : Nat) : ∀ (k : Nat), ∀ (x0 : List Int) (x1 b : Int) (flx0 : Bool), Xe K k x0 x1 b = some r → TL tp 41 (ca [1,0,1,0,0] Tryz.f75) ⟨[(0, .sl flx0 1 (mI x0)), (1, .int .i64 x1), (5, .int .i64 b)], []⟩ (G3 r) := by
 intro k
 induction k with
 | zero =>
  intro x0 x1 b flx0 h
  exact zn h
 | succ k ih =>
  intro x0 x1 b flx0 h
  rw [Xe] at h
  refine Q6 ?_
  refine T.seq ?_
  refine T.seq (Qr ?_)
  refine mw rfl ?_
  refine mw rfl ?_
  refine oU x0 (cI .i64) Zx rfl ?_
  refine oI rfl ?_
  refine TL'.nil (tN ?_)
  rcases Qd h with ⟨l, h⟩ | ⟨l, h⟩
  refine Qq rfl l ?_
  refine T.skip (tN ?_)
  refine T.seq ?_
  refine T.block ?_
  refine T.seq ?_
  refine Yk ?_
  refine dV rfl rfl ?_
  refine dV rfl rfl ?_
  obtain ⟨a, m, h⟩ := bind_some h
  refine dX x0 (cI .i64) rfl (.f rfl) Zx i3 m rfl ?_
  refine dR rfl (.f rfl) ul3 rfl ?_
  refine dI rfl (.f rfl) rfl ?_
  refine dV rfl rfl ?_
  rcases Qd h with ⟨g, h⟩ | ⟨g, h⟩
  refine dO g rfl rfl ?_
  refine dO g rfl rfl ?_
  refine dO g rfl rfl ?_
  refine dO g rfl rfl ?_
  refine dO g rfl rfl ?_
  refine dO g rfl rfl ?_
  refine dY rfl (.f rfl) g rfl ?_
  refine dV rfl rfl ?_
  refine dO rfl rfl rfl ?_
  refine dO rfl rfl rfl ?_
  refine dO rfl rfl rfl ?_
  refine dG rfl rfl ?_
  refine dG rfl rfl ?_
  refine dG rfl rfl ?_
  refine dG rfl rfl ?_
  refine dG rfl rfl ?_
  refine dG rfl rfl ?_
  refine dG rfl rfl ?_
  refine dG rfl rfl ?_
  refine dG rfl rfl ?_
  refine dG rfl rfl ?_
  refine dO rfl rfl rfl ?_
  refine dY rfl (.f rfl) rfl rfl ?_
  refine dF [0,0,3,7,15,31,63,63,255,511,63,2047,4095,8191,16383,32767,65535,131071,131071,393215,1048575,2097151,131071,131071,12713983,29491199,67108863,134217727,268435455] Q3 rfl (by kernel_rfl) (fun u hu => (tN (Qm hu ?_)))
  refine Qq rfl rfl ?_
  refine Qm ?_ (Kt K h)
  exact tq rfl rfl
  refine dM rfl (.n g rfl) rfl ?_
  refine dM rfl (.n g rfl) rfl ?_
  refine dX x0 (cI .i64) rfl (.n g rfl) Zx i3 m rfl ?_
  refine dR rfl (.n g rfl) ul3 rfl ?_
  refine dM rfl (.n g rfl) rfl ?_
  refine dI rfl (.n g rfl) rfl ?_
  refine dZ rfl (.f rfl) g rfl ?_
  refine dV rfl rfl ?_
  rcases Qd h with ⟨j, h⟩ | ⟨j, h⟩
  refine dO j rfl rfl ?_
  refine dO j rfl rfl ?_
  refine dO j rfl rfl ?_
  refine dG rfl rfl ?_
  refine dG rfl rfl ?_
  refine dG rfl rfl ?_
  refine dG rfl rfl ?_
  refine dG rfl rfl ?_
  refine dG rfl rfl ?_
  refine dG rfl rfl ?_
  refine dG rfl rfl ?_
  refine dG rfl rfl ?_
  refine dG rfl rfl ?_
  refine dO j rfl rfl ?_
  refine dY rfl (.f rfl) j rfl ?_
  refine dF [0,0,3,7,15,31,63,63,255,511,63,2047,4095,8191,16383,32767,65535,131071,131071,393215,1048575,2097151,131071,131071,12713983,29491199,67108863,134217727,268435455] Q3 rfl (by kernel_rfl) (fun u hu => (tN (Qm hu ?_)))
  refine Qq rfl rfl ?_
  refine Qm ?_ (Kt K h)
  exact tq rfl rfl
  refine dM rfl (.n j rfl) rfl ?_
  refine dI rfl (.n j rfl) rfl ?_
  refine dM rfl (.n j rfl) rfl ?_
  rcases Qd h with ⟨d, h⟩ | ⟨d, h⟩
  refine dM rfl (.n d rfl) rfl ?_
  refine dM rfl (.n d rfl) rfl ?_
  refine dI rfl (.n d rfl) rfl ?_
  obtain ⟨i, q, h⟩ := bind_some h
  refine dX x0 (cI .i64) rfl (.n d rfl) Zx i3 q rfl ?_
  refine dR rfl (.n d rfl) ul3 rfl ?_
  refine dM rfl (.n d rfl) rfl ?_
  refine dM rfl (.n d rfl) rfl ?_
  refine dX x0 (cI .i64) rfl (.n d rfl) Zx i3 m rfl ?_
  refine dR rfl (.n d rfl) ul3 rfl ?_
  refine dI rfl (.n d rfl) rfl ?_
  refine dY rfl (.n j rfl) d rfl ?_
  refine dZ rfl (.f rfl) j rfl ?_
  refine dF [0,0,3,7,15,31,63,63,255,511,63,2047,4095,8191,16383,32767,65535,131071,131071,393215,1048575,2097151,131071,131071,12713983,29491199,67108863,134217727,268435455] Q3 rfl (by kernel_rfl) (fun u hu => (tN (Qm hu ?_)))
  rcases Qd h with ⟨p, h⟩ | ⟨p, h⟩
  refine Qq rfl p ?_
  refine Qm ?_ (Kt K h)
  exact tq rfl rfl
  refine Qp rfl p ?_
  refine T.skip (Qn (tN ?_))
  refine Qr ?_
  refine mw rfl ?_
  refine oI rfl ?_
  refine aw rfl ?_
  refine TL'.nil (tN ?_)
  refine Qh ?_ (ih x0 x1 (wI (b + (1:Int))) flx0 h)
  exact tq rfl rfl
  refine dO d rfl rfl ?_
  refine dO d rfl rfl ?_
  refine dO d rfl rfl ?_
  refine dO d rfl rfl ?_
  refine dO d rfl rfl ?_
  refine dO d rfl rfl ?_
  refine dO d rfl rfl ?_
  refine dO d rfl rfl ?_
  refine dO d rfl rfl ?_
  refine dO d rfl rfl ?_
  refine dZ rfl (.n j rfl) d rfl ?_
  refine dZ rfl (.f rfl) j rfl ?_
  refine dF [0,0,3,7,15,31,63,63,255,511,63,2047,4095,8191,16383,32767,65535,131071,131071,393215,1048575,2097151,131071,131071,12713983,29491199,67108863,134217727,268435455] Q3 rfl (by kernel_rfl) (fun u hu => (tN (Qm hu ?_)))
  refine Qp rfl rfl ?_
  refine T.skip (Qn (tN ?_))
  refine Qr ?_
  refine mw rfl ?_
  refine oI rfl ?_
  refine aw rfl ?_
  refine TL'.nil (tN ?_)
  refine Qh ?_ (ih x0 x1 (wI (b + (1:Int))) flx0 h)
  exact tq rfl rfl
  refine Qp rfl l ?_
  refine T.exit (Qj (Qj (Qs (tN ?_))))
  refine T.seq (Qr ?_)
  refine aw rfl ?_
  refine TL'.nil (tN ?_)
  refine T.ret ?_
  exact fd rfl (by cases h; exact ⟨rfl, rfl⟩)
theorem N4 (K : Nat) {x0 : List Int} {x1 : Int} {flx0 r : Bool} (h : Wj K x0 x1 = some r) : Zm tp 75 [.sl flx0 1 (mI x0), .int .i64 x1] [] (.bool r) := by
 refine Qt Tryz.func75 rfl (nb rfl) ?_
 show T tp 41 (ca [] Tryz.f75) ⟨Qw 0 [.sl flx0 1 (mI x0), .int .i64 x1], []⟩ (B9 r)
 unfold Wj at h
 refine T.seq (Qr ?_)
 refine aw rfl ?_
 refine TL'.nil (tN ?_)
 refine T.seq ?_
 refine T.seq (Qr ?_)
 refine aw rfl ?_
 refine TL'.nil (tN ?_)
 refine T.block ?_
 refine T.loop ?_
 refine Qh ?_ (Qap K K x0 x1 (0:Int) flx0 h)
 exact tq rfl rfl
abbrev F2 (r : Bool) : ES := J9 tp Tryz.f112 (fun y t => y = (.bool r) ∧ t = [])
abbrev Qdv (r : Bool) : ES := thenS (fun s' => T tp 18 (ca [1,1] Tryz.f112) s' ((F2 r))) ((F2 r))
abbrev Qb3 (r : Bool) : ES := Qz 0 ((Qdv r))
theorem Qdw {r : Bool} (K : Nat) : ∀ (k : Nat), ∀ (x0 : List Int) (x1 a : Int) (flx0 : Bool), Ja K k x0 x1 a = some r → TL tp 18 (ca [1,0,1,0,0] Tryz.f112) ⟨[(0, .sl flx0 1 (mI x0)), (1, .int .i64 x1), (5, .int .i64 a)], []⟩ (Qb3 r) := by
 intro k
 induction k with
 | zero =>
  intro x0 x1 a flx0 h
  exact zn h
 | succ k ih =>
  intro x0 x1 a flx0 h
  rw [Ja] at h
  refine Q6 ?_
  refine T.seq ?_
  refine T.seq (Qr ?_)
  refine mw rfl ?_
  refine mw rfl ?_
  refine oU x0 (cI .i64) Zx rfl ?_
  refine oI rfl ?_
  refine TL'.nil (tN ?_)
  rcases Qd h with ⟨b, h⟩ | ⟨b, h⟩
  refine Qq rfl b ?_
  refine T.skip (tN ?_)
  refine T.seq ?_
  refine T.block ?_
  refine T.seq (Qr ?_)
  refine mw rfl ?_
  refine mw rfl ?_
  obtain ⟨d, g, h⟩ := bind_some h
  refine oX x0 (cI .i64) Zx i3 g rfl ?_
  refine oR ul3 rfl ?_
  refine mw rfl ?_
  refine oI rfl ?_
  refine TL'.nil (tN ?_)
  rcases Qd h with ⟨c, h⟩ | ⟨c, h⟩
  refine Qq rfl c ?_
  refine T.seq (Qr ?_)
  refine aw rfl ?_
  refine TL'.nil (tN ?_)
  refine T.ret (Q2 (Qv (Qv (Q2 (Qv ?_)))))
  exact fd rfl (by cases h; exact ⟨rfl, rfl⟩)
  refine Qp rfl c ?_
  refine T.skip (Qn (tN ?_))
  refine Qr ?_
  refine mw rfl ?_
  refine oI rfl ?_
  refine aw rfl ?_
  refine TL'.nil (tN ?_)
  refine Qh ?_ (ih x0 x1 (wI (a + (1:Int))) flx0 h)
  exact tq rfl rfl
  refine Qp rfl b ?_
  refine T.exit (Qj (Qj (Qs (tN ?_))))
  refine T.seq (Qr ?_)
  refine aw rfl ?_
  refine TL'.nil (tN ?_)
  refine T.ret ?_
  exact fd rfl (by cases h; exact ⟨rfl, rfl⟩)
theorem B0 (K : Nat) {x0 : List Int} {x1 : Int} {flx0 r : Bool} (h : Wh K x0 x1 = some r) : Zm tp 112 [.sl flx0 1 (mI x0), .int .i64 x1] [] (.bool r) := by
 refine Qt Tryz.func112 rfl (nb rfl) ?_
 show T tp 18 (ca [] Tryz.f112) ⟨Qw 0 [.sl flx0 1 (mI x0), .int .i64 x1], []⟩ (F2 r)
 unfold Wh at h
 refine T.seq (Qr ?_)
 refine aw rfl ?_
 refine TL'.nil (tN ?_)
 refine T.seq ?_
 refine T.seq (Qr ?_)
 refine aw rfl ?_
 refine TL'.nil (tN ?_)
 refine T.block ?_
 refine T.loop ?_
 refine Qh ?_ (Qdw K K x0 x1 (0:Int) flx0 h)
 exact tq rfl rfl
abbrev Hu (r : Bool) : ES := J9 tp Tryz.f76 (fun y t => y = (.bool r) ∧ t = [])
abbrev Qaq (r : Bool) : ES := thenS (fun s' => T tp 85 (ca [1,1,1] Tryz.f76) s' ((Hu r))) ((Hu r))
abbrev S8 (r : Bool) : ES := thenS (fun s' => T tp 85 (ca [1,1,1,1] Tryz.f76) s' ((Hu r))) ((Hu r))
abbrev H3 (r : Bool) : ES := Qz 0 ((S8 r))
abbrev Bm (r : Bool) : ES := thenS (fun s' => TL tp 85 (ca [1,1,1,0,1,0,0] Tryz.f76) s' ((H3 r))) ((H3 r))
abbrev I4 (r : Bool) : ES := thenS (fun s' => T tp 85 (ca [1,1,1,0,1,0,0,1,1] Tryz.f76) s' ((Bm r))) ((Bm r))
abbrev D5 (r : Bool) : ES := Qz 1 ((I4 r))
theorem Ma {r : Bool} (K : Nat) (h : Xt K = some r) : T tp 85 (ca [1,1,0,1,0] Tryz.f76) ⟨[], []⟩ (Qaq r) := by
 unfold Xt at h
 refine T.seq (Qr ?_)
 refine aw rfl ?_
 refine TL'.nil (tN ?_)
 refine T.ret (Qv ?_)
 exact fd rfl (by cases h; exact ⟨rfl, rfl⟩)
theorem K9 {r : Bool} (K : Nat) (h : Xs K = some r) : T tp 85 (ca [1,1,1,0,1,0,0,1,0,0,1,0] Tryz.f76) ⟨[], []⟩ (D5 r) := by
 unfold Xs at h
 refine T.seq (Qr ?_)
 refine aw rfl ?_
 refine TL'.nil (tN ?_)
 refine T.ret (Q2 (Qv (Qv (Q2 (Qv ?_)))))
 exact fd rfl (by cases h; exact ⟨rfl, rfl⟩)
theorem Qb1 {r : Bool} (K : Nat) : ∀ (k : Nat), ∀ (j : Int) (x0 : Ql) (x1 : Qa) (x2 : Qe) (p q b : Nat), Xr K k j x0 x1 x2 = some r → TL tp 85 (ca [1,1,1,0,1,0,0] Tryz.f76) ⟨[(3, .ptr p 0), (4, .ptr q 0), (5, .ptr b 0), (7, .int .i64 j)], [(Qbg p x0.Split.Of x0.Split.Many x0.Counts x0.States), (Jz q x1.L x1.R x1.Rule x1.Next), (Qft b x2.To x2.Ops)]⟩ (H3 r) := by
 intro k
 induction k with
 | zero =>
  intro j x0 x1 x2 p q b h
  exact zn h
 | succ k ih =>
  intro j x0 x1 x2 p q b h
  rw [Xr] at h
  refine Q6 ?_
  refine T.seq ?_
  refine T.seq (Qr ?_)
  refine mw rfl ?_
  refine oP Cp i52 rfl ?_
  refine oL 2 C8 rfl ?_
  refine oU x2.Ops (cI .u8) C8 rfl ?_
  refine oI rfl ?_
  refine TL'.nil (tN ?_)
  rcases Qd h with ⟨aa, h⟩ | ⟨aa, h⟩
  refine Qq rfl aa ?_
  refine T.skip (tN ?_)
  refine T.seq ?_
  refine T.block ?_
  refine T.seq ?_
  refine Yk ?_
  refine dP rfl (.f rfl) Cp i52 rfl ?_
  refine dL 2 rfl (.f rfl) C8 rfl ?_
  refine dV rfl rfl ?_
  obtain ⟨a, ab, h⟩ := bind_some h
  refine dX x2.Ops (cI .u8) rfl (.f rfl) C8 i5 ab rfl ?_
  refine dR rfl (.f rfl) ul5 rfl ?_
  refine dI rfl (.f rfl) rfl ?_
  refine dV rfl rfl ?_
  rcases Qd h with ⟨s, h⟩ | ⟨s, h⟩
  refine dO s rfl rfl ?_
  refine dO s rfl rfl ?_
  refine dO s rfl rfl ?_
  refine dO s rfl rfl ?_
  refine dO s rfl rfl ?_
  refine dO s rfl rfl ?_
  refine dY rfl (.f rfl) s rfl ?_
  refine dV rfl rfl ?_
  refine dO rfl rfl rfl ?_
  refine dO rfl rfl rfl ?_
  refine dO rfl rfl rfl ?_
  refine dO rfl rfl rfl ?_
  refine dO rfl rfl rfl ?_
  refine dO rfl rfl rfl ?_
  refine dO rfl rfl rfl ?_
  refine dG rfl rfl ?_
  refine dG rfl rfl ?_
  refine dG rfl rfl ?_
  refine dG rfl rfl ?_
  refine dG rfl rfl ?_
  refine dG rfl rfl ?_
  refine dG rfl rfl ?_
  refine dG rfl rfl ?_
  refine dG rfl rfl ?_
  refine dG rfl rfl ?_
  refine dG rfl rfl ?_
  refine dG rfl rfl ?_
  refine dG rfl rfl ?_
  refine dG rfl rfl ?_
  refine dO rfl rfl rfl ?_
  refine dY rfl (.f rfl) rfl rfl ?_
  refine dF [0,1,0,7,15,31,63,127,255,127,1023,2047,4095,8191,16383,32767,65535,32767,262143,524287,1048575,2097151,4194303,8388607,4194303,20971519,4194303,71303167,255852543,524287999,1061158911,4194303,4282384383,8577351679,17179869183,34359738367,68719476735,137438953471] Q3 rfl (by kernel_rfl) (fun u hu => (tN (Qm hu ?_)))
  refine Qq rfl rfl ?_
  refine Qm ?_ (K9 K h)
  exact tq rfl rfl
  refine dP rfl (.n s rfl) Cp i52 rfl ?_
  refine dL 2 rfl (.n s rfl) C8 rfl ?_
  refine dM rfl (.n s rfl) rfl ?_
  refine dX x2.Ops (cI .u8) rfl (.n s rfl) C8 i5 ab rfl ?_
  refine dR rfl (.n s rfl) ul5 rfl ?_
  refine dI rfl (.n s rfl) rfl ?_
  refine dZ rfl (.f rfl) s rfl ?_
  refine dV rfl rfl ?_
  rcases Qd h with ⟨m, h⟩ | ⟨m, h⟩
  refine dO m rfl rfl ?_
  refine dO m rfl rfl ?_
  refine dO m rfl rfl ?_
  refine dO m rfl rfl ?_
  refine dO m rfl rfl ?_
  refine dO m rfl rfl ?_
  refine dO m rfl rfl ?_
  refine dG rfl rfl ?_
  refine dG rfl rfl ?_
  refine dG rfl rfl ?_
  refine dG rfl rfl ?_
  refine dG rfl rfl ?_
  refine dG rfl rfl ?_
  refine dG rfl rfl ?_
  refine dG rfl rfl ?_
  refine dG rfl rfl ?_
  refine dG rfl rfl ?_
  refine dG rfl rfl ?_
  refine dG rfl rfl ?_
  refine dG rfl rfl ?_
  refine dG rfl rfl ?_
  refine dO m rfl rfl ?_
  refine dY rfl (.f rfl) m rfl ?_
  refine dF [0,1,0,7,15,31,63,127,255,127,1023,2047,4095,8191,16383,32767,65535,32767,262143,524287,1048575,2097151,4194303,8388607,4194303,20971519,4194303,71303167,255852543,524287999,1061158911,4194303,4282384383,8577351679,17179869183,34359738367,68719476735,137438953471] Q3 rfl (by kernel_rfl) (fun u hu => (tN (Qm hu ?_)))
  refine Qq rfl rfl ?_
  refine Qm ?_ (K9 K h)
  exact tq rfl rfl
  refine dP rfl (.n m rfl) Cp i52 rfl ?_
  refine dL 2 rfl (.n m rfl) C8 rfl ?_
  refine dM rfl (.n m rfl) rfl ?_
  refine dX x2.Ops (cI .u8) rfl (.n m rfl) C8 i5 ab rfl ?_
  refine dR rfl (.n m rfl) ul5 rfl ?_
  refine dI rfl (.n m rfl) rfl ?_
  refine dM rfl (.n m rfl) rfl ?_
  rcases Qd h with ⟨g, h⟩ | ⟨g, h⟩
  refine dP rfl (.n g rfl) Wi i38 rfl ?_
  refine dL 1 rfl (.n g rfl) Zx rfl ?_
  refine dP rfl (.n g rfl) Uv i26 rfl ?_
  refine dL 0 rfl (.n g rfl) Us rfl ?_
  refine dP rfl (.n g rfl) Cp i3 rfl ?_
  refine dL 2 rfl (.n g rfl) ul3 rfl ?_
  obtain ⟨l, ad, h⟩ := bind_some h
  refine dX x0.States Qb rfl (.n g rfl) Us i51 ad rfl ?_
  refine dQ rfl (.n g rfl) Wi i38 rfl ?_
  refine dR rfl (.n g rfl) Zx rfl ?_
  refine dM rfl (.n g rfl) rfl ?_
  obtain ⟨y, af, h⟩ := bind_some h
  refine dX l.R (cI .i64) rfl (.n g rfl) Zx i3 af rfl ?_
  refine dR rfl (.n g rfl) ul3 rfl ?_
  obtain ⟨w, ag, h⟩ := bind_some h
  refine dS (c := ⟨some 81, .bool w, [(70, .sl false 1 (mI x1.R)), (80, .int .i64 y), (68, .bool (a != (3:Int)))], [], []⟩) (fun t hm => oN rfl rfl rfl hm.s2 g (Q0 rfl (dk rfl) Tryz.func112 rfl rfl (Q5.cons hm.s0 (Q5.cons hm.s1 Q5.nil)) (Zm.nil (B0 K (flx0 := false) ag)) rfl)) rfl rfl ?_
  refine dS (c := ⟨some 82, .bool (!w), [(81, .bool w), (68, .bool (a != (3:Int)))], [], []⟩) (fun t hm => oN rfl rfl rfl hm.s1 g (OpT.not rfl (dk rfl) hm.s0 rfl)) rfl rfl ?_
  refine dY rfl (.n m rfl) g rfl ?_
  refine dZ rfl (.f rfl) m rfl ?_
  refine dF [0,1,0,7,15,31,63,127,255,127,1023,2047,4095,8191,16383,32767,65535,32767,262143,524287,1048575,2097151,4194303,8388607,4194303,20971519,4194303,71303167,255852543,524287999,1061158911,4194303,4282384383,8577351679,17179869183,34359738367,68719476735,137438953471] Q3 rfl (by kernel_rfl) (fun u hu => (tN (Qm hu ?_)))
  rcases Qd h with ⟨ac, h⟩ | ⟨ac, h⟩
  refine Qq rfl ac ?_
  refine Qm ?_ (K9 K h)
  exact tq rfl rfl
  refine Qp rfl ac ?_
  refine T.skip (Qn (tN ?_))
  refine Qr ?_
  refine mw rfl ?_
  refine oI rfl ?_
  refine aw rfl ?_
  refine TL'.nil (tN ?_)
  refine Qh ?_ (ih (wI (j + (1:Int))) x0 x1 x2 p q b h)
  exact tq rfl rfl
  refine dO g rfl rfl ?_
  refine dO g rfl rfl ?_
  refine dO g rfl rfl ?_
  refine dO g rfl rfl ?_
  refine dO g rfl rfl ?_
  refine dO g rfl rfl ?_
  refine dO g rfl rfl ?_
  refine dO g rfl rfl ?_
  refine dO g rfl rfl ?_
  refine dO g rfl rfl ?_
  refine dO g rfl rfl ?_
  refine dO g rfl rfl ?_
  refine dO g rfl rfl ?_
  refine dO g rfl rfl ?_
  refine dZ rfl (.n m rfl) g rfl ?_
  refine dZ rfl (.f rfl) m rfl ?_
  refine dF [0,1,0,7,15,31,63,127,255,127,1023,2047,4095,8191,16383,32767,65535,32767,262143,524287,1048575,2097151,4194303,8388607,4194303,20971519,4194303,71303167,255852543,524287999,1061158911,4194303,4282384383,8577351679,17179869183,34359738367,68719476735,137438953471] Q3 rfl (by kernel_rfl) (fun u hu => (tN (Qm hu ?_)))
  refine Qp rfl rfl ?_
  refine T.skip (Qn (tN ?_))
  refine Qr ?_
  refine mw rfl ?_
  refine oI rfl ?_
  refine aw rfl ?_
  refine TL'.nil (tN ?_)
  refine Qh ?_ (ih (wI (j + (1:Int))) x0 x1 x2 p q b h)
  exact tq rfl rfl
  refine Qp rfl aa ?_
  refine T.exit (Qj (Qj (Qs (tN ?_))))
  refine T.seq (Qr ?_)
  refine aw rfl ?_
  refine TL'.nil (tN ?_)
  refine T.ret ?_
  exact fd rfl (by cases h; exact ⟨rfl, rfl⟩)
theorem Qfb (K : Nat) {x0 : Ql} {x1 : Qa} {x2 : Qe} {r : Bool} (h : Ke K x0 x1 x2 = some r) : Zm tp 76 [.agg ((Zi.dc 256 .u8 x0.Split.Of) ++ (([.int .i64 x0.Split.Many, .sl false 2 (mA x0.Counts), .sl false 4 (x0.States.map Qb)] : List DC))), .agg [.sl false 1 (mI x1.L), .sl false 1 (mI x1.R), .sl false 1 (mI x1.Rule), .sl false 1 (x1.Next.map (cL 2 Qf))], .agg [.int .i64 x2.To, .sl false 1 (mU x2.Ops)]] [] (.bool r) := by
 refine Qt Tryz.func76 rfl (nb rfl) ?_
 show T tp 85 (ca [] Tryz.f76) ⟨Qw 0 [.agg ((Zi.dc 256 .u8 x0.Split.Of) ++ (([.int .i64 x0.Split.Many, .sl false 2 (mA x0.Counts), .sl false 4 (x0.States.map Qb)] : List DC))), .agg [.sl false 1 (mI x1.L), .sl false 1 (mI x1.R), .sl false 1 (mI x1.Rule), .sl false 1 (x1.Next.map (cL 2 Qf))], .agg [.int .i64 x2.To, .sl false 1 (mU x2.Ops)]], []⟩ (Hu r)
 unfold Ke at h
 refine T.seq (Qr ?_)
 refine sp rfl (Zb rfl (dk rfl) rfl (fun j => ?_))
 refine sp rfl (Zb rfl (dk rfl) rfl (fun m => ?_))
 refine sp rfl (Zb rfl (dk rfl) rfl (fun g => ?_))
 refine aw rfl ?_
 refine TL'.nil (tN ?_)
 refine T.seq ?_
 refine T.seq (Qr ?_)
 refine oP Cp i3 rfl ?_
 refine oL 0 ul3 rfl ?_
 refine oI rfl ?_
 refine TL'.nil (tN ?_)
 rcases Qd h with ⟨p, h⟩ | ⟨p, h⟩
 refine Qq rfl p ?_
 refine T.seq (Qr ?_)
 refine oP Cp i52 rfl ?_
 refine oL 0 C8 rfl ?_
 refine oU x2.Ops (cI .u8) C8 rfl ?_
 refine oI rfl ?_
 refine aw rfl ?_
 refine TL'.nil (tN ?_)
 refine T.ret (Qv ?_)
 exact fd rfl (by cases h; exact ⟨rfl, rfl⟩)
 refine Qp rfl p ?_
 refine T.skip (tN ?_)
 refine T.seq ?_
 refine T.seq ?_
 refine Yk ?_
 refine dP rfl (.f rfl) Cp i3 rfl ?_
 refine dL 0 rfl (.f rfl) ul3 rfl ?_
 refine dI rfl (.f rfl) rfl ?_
 refine dV rfl rfl ?_
 rcases Qd h with ⟨l, h⟩ | ⟨l, h⟩
 refine dO l rfl rfl ?_
 refine dO l rfl rfl ?_
 refine dO l rfl rfl ?_
 refine dO l rfl rfl ?_
 refine dO l rfl rfl ?_
 refine dO l rfl rfl ?_
 refine dY rfl (.f rfl) l rfl ?_
 refine dV rfl rfl ?_
 refine dO rfl rfl rfl ?_
 refine dO rfl rfl rfl ?_
 refine dO rfl rfl rfl ?_
 refine dO rfl rfl rfl ?_
 refine dO rfl rfl rfl ?_
 refine dO rfl rfl rfl ?_
 refine dO rfl rfl rfl ?_
 refine dO rfl rfl rfl ?_
 refine dO rfl rfl rfl ?_
 refine dO rfl rfl rfl ?_
 refine dO rfl rfl rfl ?_
 refine dO rfl rfl rfl ?_
 refine dY rfl (.f rfl) rfl rfl ?_
 refine dF [0,1,3,7,15,31,15,79,207,511,1023,2047,4095,8191,16383,4095,36863,4095,135167,495615,1019903,2068479,4165631,8388607,16777215] Q3 rfl (by kernel_rfl) (fun u hu => (tN (Qm hu ?_)))
 refine Qq rfl rfl ?_
 refine Qm ?_ (Ma K h)
 exact tq rfl rfl
 refine dP rfl (.n l rfl) Cp i3 rfl ?_
 refine dL 0 rfl (.n l rfl) ul3 rfl ?_
 refine dP rfl (.n l rfl) Uv i26 rfl ?_
 refine dL 2 rfl (.n l rfl) Us rfl ?_
 refine dN x0.States Qb rfl (.n l rfl) Us rfl ?_
 refine dI rfl (.n l rfl) rfl ?_
 refine dZ rfl (.f rfl) l rfl ?_
 refine dV rfl rfl ?_
 rcases Qd h with ⟨a, h⟩ | ⟨a, h⟩
 refine dO a rfl rfl ?_
 refine dO a rfl rfl ?_
 refine dO a rfl rfl ?_
 refine dO a rfl rfl ?_
 refine dO a rfl rfl ?_
 refine dO a rfl rfl ?_
 refine dO a rfl rfl ?_
 refine dO a rfl rfl ?_
 refine dO a rfl rfl ?_
 refine dO a rfl rfl ?_
 refine dO a rfl rfl ?_
 refine dO a rfl rfl ?_
 refine dY rfl (.f rfl) a rfl ?_
 refine dF [0,1,3,7,15,31,15,79,207,511,1023,2047,4095,8191,16383,4095,36863,4095,135167,495615,1019903,2068479,4165631,8388607,16777215] Q3 rfl (by kernel_rfl) (fun u hu => (tN (Qm hu ?_)))
 refine Qq rfl rfl ?_
 refine Qm ?_ (Ma K h)
 exact tq rfl rfl
 refine dP rfl (.n a rfl) Cp i52 rfl ?_
 refine dL 0 rfl (.n a rfl) C8 rfl ?_
 refine dN x2.Ops (cI .u8) rfl (.n a rfl) C8 rfl ?_
 refine dP rfl (.n a rfl) Uv i26 rfl ?_
 refine dL 2 rfl (.n a rfl) Us rfl ?_
 refine dP rfl (.n a rfl) Cp i3 rfl ?_
 refine dL 0 rfl (.n a rfl) ul3 rfl ?_
 obtain ⟨b, w, h⟩ := bind_some h
 refine dX x0.States Qb rfl (.n a rfl) Us i51 w rfl ?_
 refine dQ rfl (.n a rfl) Wi i38 rfl ?_
 refine dR rfl (.n a rfl) Zx rfl ?_
 refine dN b.R (cI .i64) rfl (.n a rfl) Zx rfl ?_
 refine dI rfl (.n a rfl) rfl ?_
 refine dZ rfl (.f rfl) a rfl ?_
 refine dF [0,1,3,7,15,31,15,79,207,511,1023,2047,4095,8191,16383,4095,36863,4095,135167,495615,1019903,2068479,4165631,8388607,16777215] Q3 rfl (by kernel_rfl) (fun u hu => (tN (Qm hu ?_)))
 rcases Qd h with ⟨q, h⟩ | ⟨q, h⟩
 refine Qq rfl q ?_
 refine Qm ?_ (Ma K h)
 exact tq rfl rfl
 refine Qp rfl q ?_
 refine T.skip (tN ?_)
 refine T.seq ?_
 refine T.seq (Qr ?_)
 refine aw rfl ?_
 refine TL'.nil (tN ?_)
 refine T.block ?_
 refine T.loop ?_
 refine Qh ?_ (Qb1 K K (0:Int) x0 x1 x2 j m g h)
 exact tr rfl (.c (.s (.s .z)) (.c (.s .z) (.c .z (.n _))))
end Go.Rv

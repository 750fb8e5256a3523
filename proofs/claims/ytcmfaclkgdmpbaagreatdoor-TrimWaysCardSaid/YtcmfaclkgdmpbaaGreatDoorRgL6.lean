/- Each function computes what its plain text says: printed by a program of ours. -/
import Derived.Test.YtcmfaclkgdmpbaaGreatDoorRgW7
namespace Go.Rv
open Go.Proofs
set_option maxRecDepth 100000
set_option maxHeartbeats 4000000
set_option linter.unusedVariables false
abbrev Gx (r : Bool) : ES := U6 tp ff6 (fun y t => y = (.bool r) ∧ t = [.tab 0 Xs])
abbrev F4 (r : Bool) : ES := fT 164 [1,1,1,1] ff6 (Gx r)
abbrev M0 (r : Bool) : ES := fT 164 [1,1,1,1,1,1,1,1,1,1,1] ff6 (Gx r)
abbrev U2 (r : Bool) : ES := Qx 0 ((M0 r))
abbrev Jb (r : Bool) : ES := fL 164 [1,1,1,1,1,1,1,1,1,1,0,0,0] ff6 (U2 r)
abbrev Ye (r : Bool) : ES := Qx 1 ((Jb r))
abbrev Gv (r : Bool) : ES := fT 164 [1,1,1,1,1,1,1,1,1,1,0,0,0,1,0,1,1,1] ff6 (Ye r)
abbrev H3 (r : Bool) : ES := fT 164 [1,1,1,1,1,1,1,1,1,1,0,0,0,1,0,1,1,1,1,1] ff6 (Ye r)
abbrev Hd (r : Bool) : ES := fT 164 [1,1,1,1,1,1,1,1,1,1,0,0,0,1,0,1,1,1,1,1,1,1] ff6 (Ye r)
abbrev Gw (r : Bool) : ES := Qx 2 ((Ye r))
abbrev Kk (r : Bool) : ES := fT 164 [1,1,1,1,1,1,1,1,1,1,0,0,0,1] ff6 (Jb r)
theorem Wa {r : Bool} (K : Nat) (a : Bool) (h : Vn K a = some r) : T tp 164 (ca [1,1,1,0,1,0] ff6) ⟨[(7, .bool a)], [.tab 0 Xs]⟩ (F4 r) := by
 unfold Vn at h
 refine sR (Qq (mw rfl (aw rfl (nL (tN (T.ret (Qv (Q2 (.cons _ _ _ _ (.tmp 6 _ rfl) .nil) (.cons 0 rfl (.nil _)) (by cases h; exact ⟨rfl, rfl⟩)))))))))
abbrev J9 (r : Bool) (go : Bool → Int → Int → Bool → Zg → Int → (List Zs) → (List Qa) → (List (Zs × Bool)) → (List Zs) → Option Bool) : Prop := ∀ (a : Bool) (b f : Int) (g : Bool) (i : Zg) (j : Int) (l : List Zs) (m : List Qa) (n : List (Zs × Bool)) (p : List Zs) (q s : Nat) (u : Value), go a b f g i j l m n p = some r → TL tp 164 (ca [1,1,1,1,1,1,1,1,1,1,0,0,0] ff6) ⟨[(7, .bool a), (8, .ptr q 0), (11, .int .i64 b), (12, .int .i64 f), (13, .c (.ex (.map (some s)))), (14, .c (.ex u)), (15, .bool g)], [(Qec q i j l m), .map s (kvs kP kB n), .arrA u 59 2 (mA p), .tab 0 Xs]⟩ (U2 r)
theorem K2 {r : Bool} (K : Nat) (go1 : Bool → Int → Int → Bool → Zg → Int → (List Zs) → (List Qa) → (List (Zs × Bool)) → (List Zs) → Option Bool) (hgo1 : J9 r go1) (a : Bool) (b f : Int) (g w y : Bool) (i : Zg) (j : Int) (l : List Zs) (m : List Qa) (p : List (Zs × Bool)) (q : List Zs) (s u : Nat) (v : Value) (h : Yv K go1 a b f g w y i j l m p q = some r) : T tp 164 (ca [1,1,1,1,1,1,1,1,1,1,0,0,0,1,0,1,1,0,1,0] ff6) ⟨[(7, .bool a), (8, .ptr s 0), (11, .int .i64 b), (12, .int .i64 f), (13, .c (.ex (.map (some u)))), (14, .c (.ex v)), (15, .bool g), (68, .bool w), (69, .bool y)], [(Qec s i j l m), .map u (kvs kP kB p), .arrA v 59 2 (mA q), .tab 0 Xs]⟩ (Gv r) := by
 unfold Yv at h
 refine T.exit (Ql (Qr (tN ?_)))
 refine Qg ?_ (hgo1 a b f g i j l m p q s u v h)
 exact tq rfl rfl
theorem Ky {r : Bool} (K : Nat) (b : Bool) (c d : Int) (f : Bool) (h : Yu K b c d f = some r) : T tp 164 (ca [1,1,1,1,1,1,1,1,1,1,1] ff6) ⟨[(7, .bool b), (11, .int .i64 c), (12, .int .i64 d), (15, .bool f)], [.tab 0 Xs]⟩ (Gx r) := by
 unfold Yu at h
 refine sR (Qq (mw rfl (mw rfl ?_)))
 rcases Qe h with ⟨a, h⟩ | ⟨a, h⟩
 refine sn rfl a (OpT.move rfl (dk rfl) rfl (sn rfl a (OpT.move rfl (dk rfl) rfl (sn rfl a (OpT.move rfl (dk rfl) rfl (sn rfl a (Zi rfl rfl (dk rfl) rfl rfl (sn rfl a (OpT.bool_eql rfl (dk rfl) ul4 rfl rfl (oY a rfl (aw rfl ?_)))))))))))
 refine nL (tN (T.ret (Q2 (.cons _ _ _ _ (.tmp 6 _ rfl) .nil) (.cons 0 rfl (.nil _)) (by cases h; exact ⟨rfl, rfl⟩))))
 refine pf rfl a (pf rfl a (pf rfl a (pf rfl a (pf rfl a (oZ a rfl (aw rfl ?_))))))
 refine nL (tN (T.ret (Q2 (.cons _ _ _ _ (.tmp 6 _ rfl) .nil) (.cons 0 rfl (.nil _)) (by cases h; exact ⟨rfl, rfl⟩))))
theorem K1 {r : Bool} (K : Nat) (a : Bool) (b d : Int) (h : Xp K a b d = some r) : T tp 164 (ca [1,1,1,1,1,1,1,1,1,1,0,0,0,1,0,1,1,1,1,0,1,0] ff6) ⟨[(7, .bool a), (11, .int .i64 b), (12, .int .i64 d)], [.tab 0 Xs]⟩ (H3 r) := by
 unfold Xp at h
 refine sR (Qq (aw rfl (nL (tN (T.exit (Ql (inBlock_other (by decide) (Ql (Qr (tN ?_))))))))))
 refine Qk ?_ (Ky K a b d true h)
 exact tq rfl rfl
theorem K0 {r : Bool} (K : Nat) (h : Uy K = some r) : T tp 164 (ca [1,1,1,1,1,1,1,1,1,1,0,0,0,1,0,1,1,1,1,1,1,0,1,0] ff6) ⟨[], [.tab 0 Xs]⟩ (Hd r) := by
 unfold Uy at h
 refine sR (Qq (aw rfl (nL (tN (T.ret (Qv (Q1 (Qv (Q1 (Qv (Q2 (.cons _ _ _ _ (.tmp 6 _ rfl) .nil) (.cons 0 rfl (.nil _)) (by cases h; exact ⟨rfl, rfl⟩))))))))))))
theorem N8 {r : Bool} (K : Nat) (go1 : Bool → Int → Int → Bool → Zg → Int → (List Zs) → (List Qa) → (List (Zs × Bool)) → (List Zs) → Option Bool) (hgo1 : J9 r go1) : ∀ (k : Nat), ∀ (af : Bool) (ag ai : Int) (aj a2 a3 : Bool) (a4 a5 : Int) (a6 : Bool) (a7 : Int) (a8 : Bool) (a9 : List (List Qc)) (ba : Int) (bb : Bool) (bc m : Int) (al : Zg) (am : Int) (an : List Zs) (ap : List Qa) (aq : List (Zs × Bool)) (q : List Zs) (au av ay : List Int) (y : List (List Qc)) (az a0 a1 : List Int) (aa : List (List Qc)) (ac ad : Nat) (ab : Value) (p j : Nat), Yf K go1 k af ag ai aj a2 a3 a4 a5 a6 a7 a8 a9 ba bb bc m al am an ap aq q au av ay y az a0 a1 aa = some r → TL tp 164 (ca [1,1,1,1,1,1,1,1,1,1,0,0,0,1,0,1,1,1,1,1,1,1,1,1,0,0] ff6) ⟨[(7, .bool af), (8, .ptr ac 0), (11, .int .i64 ag), (12, .int .i64 ai), (13, .c (.ex (.map (some ad)))), (14, .c (.ex ab)), (15, .bool aj), (17, .ptr p 0), (18, .ptr j 0), (68, .bool a2), (69, .bool a3), (81, .int .i64 a4), (83, .int .i64 a5), (84, .bool a6), (93, .int .i64 a7), (94, .bool a8), (113, .ptr j (0 + 3)), (114, .sl false 1 (a9.map (cL 2 Qi))), (115, .int .i64 ba), (116, .bool bb), (131, .int .i64 bc), (132, .int .i64 m)], [(Qec ac al am an ap), .map ad (kvs kP kB aq), .arrA ab 59 2 (mA q), (K3 p au av ay y), (K3 j az a0 a1 aa), .tab 0 Xs]⟩ (Gw r) := by
 intro k
 induction k with
 | zero =>
  intro af ag ai aj a2 a3 a4 a5 a6 a7 a8 a9 ba bb bc m al am an ap aq q au av ay y az a0 a1 aa ac ad ab p j h
  exact zn h
 | succ k ih =>
  intro af ag ai aj a2 a3 a4 a5 a6 a7 a8 a9 ba bb bc m al am an ap aq q au av ay y az a0 a1 aa ac ad ab p j h
  rw [Yf] at h
  refine Q3 (sR (Qq (oI rfl (nL (tN (T.seq ?_))))))
  rcases Qe h with ⟨bg, h⟩ | ⟨bg, h⟩
  refine Qp rfl bg (T.skip (tN (T.seq (T.block (sR (Qq (mw rfl (aw rfl ?_))))))))
  refine nL (tN (Uv (gM rfl (fun _ => .f rfl) (fun _ => rfl) (gP rfl (fun _ => .f rfl) Ju i49 (fun _ => rfl) (gL 3 rfl (fun _ => .f rfl) If (fun _ => rfl) ?_)))))
  obtain ⟨bd, bi, h⟩ := bind_some h
  refine gX y (cL 2 Qi) rfl (fun _ => .f rfl) If i55 bi (fun _ => rfl) (gR rfl (fun _ => .f rfl) E2 (fun _ => rfl) (gM rfl (fun _ => .f rfl) (fun _ => rfl) ?_))
  obtain ⟨b, bj, h⟩ := bind_some h
  refine gX bd Qi rfl (fun _ => .f rfl) E2 i54 bj (fun _ => rfl) (gQ rfl (fun _ => .f rfl) Bi i3 (fun _ => rfl) (gR rfl (fun _ => .f rfl) ul3 (fun _ => rfl) (gP rfl (fun _ => .f rfl) Ju i49 (fun _ => rfl) (gL 4 rfl (fun _ => .f rfl) If (fun _ => rfl) ?_))))
  obtain ⟨bf, bl, h⟩ := bind_some h
  refine gX aa (cL 2 Qi) rfl (fun _ => .f rfl) If i55 bl (fun _ => rfl) (gR rfl (fun _ => .f rfl) E2 (fun _ => rfl) (gM rfl (fun _ => .f rfl) (fun _ => rfl) ?_))
  obtain ⟨g, bm, h⟩ := bind_some h
  refine gX bf Qi rfl (fun _ => .f rfl) E2 i54 bm (fun _ => rfl) (gQ rfl (fun _ => .f rfl) Bi i3 (fun _ => rfl) (gR rfl (fun _ => .f rfl) ul3 (fun _ => rfl) (dC (c := ⟨some 152, .agg (Zs.dc .i64 (Zs.mk b.To g.To)), [(143, .int .i64 b.To), (151, .int .i64 g.To)], [], []⟩) (fun t hm => oF rfl rfl (OpT.build (l := (Zs.dc .i64 (Zs.mk b.To g.To))) rfl (dk rfl) (T3 Qeu i59 i3) (G9 rfl) (Yx hm.s0 rfl (Yx hm.s1 rfl Gi)) rfl ⟨u0, rfl⟩)) (fun _ => rfl) (fun _ => rfl) (dC (c := ⟨some 153, .sl true 2 ([(Zs.mk b.To g.To)].map (Zs.dc .i64)), [(152, .agg (Zs.dc .i64 (Zs.mk b.To g.To)))], [], []⟩) (fun t hm => oF rfl rfl (OpT.buildSlice (elems := ([(Zs.mk b.To g.To)] : List Zs).map (Zs.dc .i64)) rfl (dk rfl) Qcp i59 (by decide) rfl (G9 rfl) (Yx hm.s0 rfl Gi) rfl rfl (Vg rfl) (by decide) ⟨u0, rfl⟩)) (fun _ => rfl) (fun _ => rfl) ?_))))
  obtain ⟨bn, h⟩ := Q6 h
  refine DGG.step (c := fun a => ⟨some 154, .c (.ex ((a 19).1 0)), [(153, .sl true 2 ([(Zs.mk b.To g.To)].map (Zs.dc .i64))), (135, .c (.ex ab))], [(2, .arrA ab 59 2 (mA q))], [(2, .arrA ((a 19).1 0) 59 2 ((q ++ [(Zs.mk b.To g.To)]).map (Zs.dc .i64)))]⟩) [19] (fun a γ' h => by simp only [h 19 (by decide)]) (fun a t hm => oF rfl rfl (Zr (i := 2) (xs := q) (ys := [(Zs.mk b.To g.To)]) (f := (Zs.dc .i64)) rfl (dk rfl) Qcp i59 rfl hm.s1 hm.o0 hm.s0 bn (fun w => ⟨(fun _ => w, 0), rfl⟩))) (fun a => Zj rfl rfl) (DGG.step (c := fun a => ⟨some 14, .c (.ex ((a 19).1 0)), [(154, .c (.ex ((a 19).1 0)))], [], []⟩) [19] (fun a γ' h => by simp only [h 19 (by decide)]) (fun a t hm => oF rfl rfl (OpT.assign rfl (dk rfl) hm.s0 ⟨u0, rfl⟩)) (fun a => Zj rfl rfl) (gF [0,0,2,6,14,0,62,126,254,0,512,1536,3584,0,15872,32256,65024,131070,262142,524287,1048575] Qz rfl (by kernel_rfl) (fun _ => by kernel_rfl) (fun a u hu => (Qn (tN (Qk hu (Qq (oI rfl (mw rfl (nL (tN ?_)))))))))))
  refine Qg ?_ (ih af ag ai aj a2 a3 a4 a5 a6 a7 a8 a9 ba bb bc (wI (m + (1:Int))) al am an ap aq (q ++ [(Zs.mk b.To g.To)]) au av ay y az a0 a1 aa ac ad ((a 19).1 0) p j h)
  exact tq rfl rfl
  refine Qo rfl bg (T.exit (Ql (Ql (Qr (Qn (tN ?_))))))
  refine Qg ?_ (hgo1 af ag ai aj al am an ap aq q ac ad ab h)
  exact tr rfl (.c .z (.c .z (.c .z (.c (.s (.s .z)) (.n _)))))
theorem Kz {r : Bool} (K : Nat) (a : Bool) (b d : Int) (f : Bool) (h : Xo K a b d f = some r) : T tp 164 (ca [1,1,1,1,1,1,1,1,1,1,0,0,0,0,1,1] ff6) ⟨[(7, .bool a), (11, .int .i64 b), (12, .int .i64 d), (15, .bool f)], [.tab 0 Xs]⟩ (Kk r) := by
 unfold Xo at h
 refine T.exit (Ql (Ql (Qr (tN ?_))))
 refine Qk ?_ (Ky K a b d f h)
 exact tq rfl rfl
theorem N9 {r : Bool} (K : Nat) : ∀ (k : Nat), J9 r (Q9 K k) := by
 intro k
 induction k with
 | zero =>
  intro af ag ai aa ap aq au ab av am w ay a6 h
  exact zn h
 | succ k ih =>
  intro af ag ai aa ap aq au ab av am w ay a6 h
  rw [Q9] at h
  refine Q3 (T.seq (sR (Qq (mw rfl (sp rfl (Hj (i := 2) (xs := am) (f := (Zs.dc .i64)) rfl (dk rfl) Qcp rfl rfl (oI rfl (mw rfl ?_))))))))
  rcases Qe h with ⟨az, h⟩ | ⟨az, h⟩
  refine sn rfl az (OpT.move rfl (dk rfl) rfl (sn rfl az (OpT.not rfl (dk rfl) rfl (oY az rfl (nL (tN ?_))))))
  rcases Qe h with ⟨a1, h⟩ | ⟨a1, h⟩
  refine Qp rfl a1 (T.skip (tN (T.block (sR (Qq (mw rfl (Ji (Zy.view 71 2 rfl rfl) ?_)))))))
  obtain ⟨q, a7, h⟩ := bind_some h
  refine oX am (Zs.dc .i64) Qcp i59 a7 rfl (oJ Qeu i59 rfl (sp rfl (Zb rfl (dk rfl) i59 rfl (fun y => (sp rfl (Qu (i := 0) (cells' := (Zs.oc .i64 q)) rfl rfl i59 rfl rfl rfl rfl (nb rfl) rfl (nL (tN (sR (Qq (mw rfl ?_)))))))))))
  obtain ⟨a8, h⟩ := Q6 h
  refine sp rfl (OpT.cutHead (i := 3) (xs := am) (f := (Zs.dc .i64)) (l := 1) rfl (dk rfl) Qcp i59 rfl rfl (.some _ _ 1 _ rfl (by decide)) a8 (fun a0 => (aw rfl (nL (tN (T.seq (sR (Qq (mw rfl (oA 0 (Zs.dc .i64 q) Qeu i59 rfl ?_))))))))))
  refine sp rfl (OpT.lookupP (i := 2) (g := kB) (z := false) (l := av) (a := q) rfl (dk rfl) ul58 (Ph.of Qeu ul3 i3) i4 (fun _ => rfl) rfl rfl rfl (mw rfl ?_))
  rcases Qe h with ⟨ac, h⟩ | ⟨ac, h⟩
  refine pf rfl ac (pf rfl ac (pf rfl ac (pf rfl ac (pf rfl ac (oY ac rfl (nL (tN ?_)))))))
  refine Qp rfl rfl ?_
  refine Qk ?_ (K2 K (Q9 K k) ih af ag ai aa aa (!aa) ap aq au ab av (am.drop 1) w ay a0 h)
  exact tr rfl (.c (.s .z) (.c (.s .z) (.c (.s .z) (.c (.s .z) (.n _)))))
  refine sn rfl ac (Z1 rfl (dk rfl) Qeu i3 rfl rfl (by decide) (by decide) (sn rfl ac (Zw (i := 0) rfl (dk rfl) ul3 rfl rfl rfl (X1 (k := .i64) (a := q) (pre := []) (post := []) (by decide) (by decide)) (sn rfl ac (Z1 rfl (dk rfl) Qeu i3 rfl rfl (by decide) (by decide) (sn rfl ac (Zw (i := 0) rfl (dk rfl) ul3 rfl rfl rfl (X1 (k := .i64) (a := q) (pre := []) (post := []) (by decide) (by decide)) (sn rfl ac (Zi rfl rfl (dk rfl) rfl rfl (oZ ac rfl (nL (tN ?_))))))))))))
  rcases Qe h with ⟨a2, h⟩ | ⟨a2, h⟩
  refine Qp rfl a2 ?_
  refine Qk ?_ (K2 K (Q9 K k) ih af ag ai aa aa (!aa) ap aq au ab av (am.drop 1) w ay a0 h)
  exact tr rfl (.c (.s .z) (.c (.s .z) (.c (.s .z) (.c (.s .z) (.n _)))))
  refine Qo rfl a2 (T.skip (tN (sR (Qq (mw rfl (oA 0 (Zs.dc .i64 q) Qeu i59 rfl ?_))))))
  obtain ⟨a9, h⟩ := Q6 h
  refine sp rfl (OpT.mapPutP (i := 2) (g := kB) (l := av) (a := q) (v := true) rfl rfl ul58 (Ph.of Qeu ul3 i3) rfl rfl rfl rfl a9 (nL (tN (T.seq (sR (Qq (sp rfl (Z1 rfl (dk rfl) Qeu i3 rfl rfl (by decide) (by decide) (sp rfl (Zw (i := 0) rfl (dk rfl) ul3 rfl rfl rfl (X1 (k := .i64) (a := q) (pre := []) (post := []) (by decide) (by decide)) (oI rfl ?_)))))))))))
  refine mw rfl ?_
  rcases Qe h with ⟨an, h⟩ | ⟨an, h⟩
  refine pf rfl an (pf rfl an (pf rfl an (oY an rfl (nL (tN (Qp rfl rfl ?_))))))
  refine Qk ?_ (K1 K af ag ai h)
  exact tr rfl (.c (.s (.s (.s (.s .z)))) (.n _))
  refine sn rfl an (Z1 rfl (dk rfl) Qeu i3 rfl rfl (by decide) (by decide) (sn rfl an (Zw (i := 0) rfl (dk rfl) ul3 rfl rfl rfl (X1 (k := .i64) (a := q) (pre := []) (post := []) (by decide) (by decide)) (sn rfl an (Zi rfl rfl (dk rfl) rfl rfl (oZ an rfl (nL (tN ?_))))))))
  rcases Qe h with ⟨a3, h⟩ | ⟨a3, h⟩
  refine Qp rfl a3 ?_
  refine Qk ?_ (K1 K af ag ai h)
  exact tr rfl (.c (.s (.s (.s (.s .z)))) (.n _))
  refine Qo rfl a3 (T.skip (tN (T.seq (Qk Yc (Qk Yc (Uv (gP rfl (fun _ => .f rfl) Jl i26 (fun _ => rfl) ?_)))))))
  refine gL 3 rfl (fun _ => .f rfl) Uh (fun _ => rfl) (dC (c := ⟨some 98, .ptr y (0 + (Int.toNat (0:Int)) * 1), [(16, .ptr y 0)], [], []⟩) (fun t hm => oF rfl rfl (Z1 rfl (dk rfl) Qeu i3 hm.s0 rfl (by decide) (by decide) ⟨u0, rfl⟩)) (fun _ => rfl) (fun _ => rfl) (dC (c := ⟨some 99, .int .i64 (Zs.get q (0:Int)), [(98, .ptr y (0 + (Int.toNat (0:Int)) * 1))], [(2, .box y 59 (Zs.oc .i64 q))], []⟩) (fun t hm => oF rfl rfl (Zw (i := 2) rfl (dk rfl) ul3 rfl hm.s0 hm.o0 (X1 (k := .i64) (a := q) (pre := []) (post := []) (by decide) (by decide)) ⟨u0, rfl⟩)) (fun _ => rfl) (fun _ => rfl) ?_))
  obtain ⟨p, ba, h⟩ := bind_some h
  refine gX ab Qd rfl (fun _ => .f rfl) Uh i51 ba (fun _ => rfl) (gJ rfl (fun _ => .f rfl) Ju i51 (fun _ => rfl) (gP rfl (fun _ => .f rfl) Jl i26 (fun _ => rfl) (gL 3 rfl (fun _ => .f rfl) Uh (fun _ => rfl) (dC (c := ⟨some 104, .ptr y (0 + (Int.toNat (1:Int)) * 1), [(16, .ptr y 0)], [], []⟩) (fun t hm => oF rfl rfl (Z1 rfl (dk rfl) Qeu i3 hm.s0 rfl (by decide) (by decide) ⟨u0, rfl⟩)) (fun _ => rfl) (fun _ => rfl) (dC (c := ⟨some 105, .int .i64 (Zs.get q (1:Int)), [(104, .ptr y (0 + (Int.toNat (1:Int)) * 1))], [(2, .box y 59 (Zs.oc .i64 q))], []⟩) (fun t hm => oF rfl rfl (Zw (i := 2) rfl (dk rfl) ul3 rfl hm.s0 hm.o0 (X1 (k := .i64) (a := q) (pre := []) (post := []) (by decide) (by decide)) ⟨u0, rfl⟩)) (fun _ => rfl) (fun _ => rfl) ?_)))))
  obtain ⟨m, bb, h⟩ := bind_some h
  refine gX ab Qd rfl (fun _ => .f rfl) Uh i51 bb (fun _ => rfl) (gJ rfl (fun _ => .f rfl) Ju i51 (fun _ => rfl) (DGG.step (c := fun j => ⟨some 17, .ptr ((j 12).2) 0, [], [(0, .ro 0 [])], [(0, .box ((j 12).2) 51 [.d (.ex (.slice none 0 0)), .d (.ex (.slice none 0 0)), .d (.ex (.slice none 0 0)), .d (.ex (.slice none 0 0))])]⟩) [12] (fun j γ' h => by simp only [h 12 (by decide)]) (fun j t hm => oF rfl rfl (Rj 0 rfl (dk rfl) i51 rfl hm.o0 (fun b => ⟨(fun _ => undef, b), rfl⟩))) (fun j => Zj rfl rfl) (DGG.step (c := fun j => ⟨some 18, .ptr ((j 13).2) 0, [], [(1, .ro 0 [])], [(1, .box ((j 13).2) 51 [.d (.ex (.slice none 0 0)), .d (.ex (.slice none 0 0)), .d (.ex (.slice none 0 0)), .d (.ex (.slice none 0 0))])]⟩) [13] (fun j γ' h => by simp only [h 13 (by decide)]) (fun j t hm => oF rfl rfl (Rj 1 rfl (dk rfl) i51 rfl hm.o0 (fun b => ⟨(fun _ => undef, b), rfl⟩))) (fun j => Zj rfl rfl) (DGG.step (c := fun j => ⟨none, .any, [(17, .ptr ((j 12).2) 0), (101, .agg [.sl false 1 (mI p.L), .sl false 1 (mI p.R), .sl false 1 (mI p.Rule), .sl false 1 (p.Next.map (cL 2 Qi))])], [(0, .box ((j 12).2) 51 [.d (.ex (.slice none 0 0)), .d (.ex (.slice none 0 0)), .d (.ex (.slice none 0 0)), .d (.ex (.slice none 0 0))])], [(0, .box ((j 12).2) 51 [.d (.sl false 1 (mI p.L)), .d (.sl false 1 (mI p.R)), .d (.sl false 1 (mI p.Rule)), .d (.sl false 1 (p.Next.map (cL 2 Qi)))])]⟩) [12] (fun j γ' h => by simp only [h 12 (by decide)]) (fun j t hm => oF rfl rfl (Qu (i := 0) (cells' := [.d (.sl false 1 (mI p.L)), .d (.sl false 1 (mI p.R)), .d (.sl false 1 (mI p.Rule)), .d (.sl false 1 (p.Next.map (cL 2 Qi)))]) rfl rfl i51 hm.s0 hm.s1 rfl hm.o0 (nb rfl) rfl ⟨u0, rfl⟩)) (fun j => Zj rfl rfl) (DGG.step (c := fun j => ⟨none, .any, [(18, .ptr ((j 13).2) 0), (107, .agg [.sl false 1 (mI m.L), .sl false 1 (mI m.R), .sl false 1 (mI m.Rule), .sl false 1 (m.Next.map (cL 2 Qi))])], [(1, .box ((j 13).2) 51 [.d (.ex (.slice none 0 0)), .d (.ex (.slice none 0 0)), .d (.ex (.slice none 0 0)), .d (.ex (.slice none 0 0))])], [(1, .box ((j 13).2) 51 [.d (.sl false 1 (mI m.L)), .d (.sl false 1 (mI m.R)), .d (.sl false 1 (mI m.Rule)), .d (.sl false 1 (m.Next.map (cL 2 Qi)))])]⟩) [13] (fun j γ' h => by simp only [h 13 (by decide)]) (fun j t hm => oF rfl rfl (Qu (i := 1) (cells' := [.d (.sl false 1 (mI m.L)), .d (.sl false 1 (mI m.R)), .d (.sl false 1 (mI m.Rule)), .d (.sl false 1 (m.Next.map (cL 2 Qi)))]) rfl rfl i51 hm.s0 hm.s1 rfl hm.o0 (nb rfl) rfl ⟨u0, rfl⟩)) (fun j => Zj rfl rfl) (gF [0,1,0,4,15,31,0,64,0,256,960,1984,0,0,12351,32767] Qz rfl (by kernel_rfl) (fun _ => by kernel_rfl) (fun j u hu => (tN (Qk hu ?_)))))))))
  refine T.seq (sR (Qq (oP Ju i49 rfl (oL 0 If rfl (oU p.Next (cL 2 Qi) If rfl (oI rfl (mw rfl ?_)))))))
  rcases Qe h with ⟨ad, h⟩ | ⟨ad, h⟩
  refine pf rfl ad (pf rfl ad (pf rfl ad (pf rfl ad (oY ad rfl (nL (tN (Qp rfl rfl ?_)))))))
  refine Qk ?_ (K0 K h)
  exact tr rfl (.c (.s (.s (.s (.s (.s (.s .z)))))) (.n _))
  refine sn rfl ad (Xi rfl (dk rfl) Ju rfl i49 (by decide) rfl (sn rfl ad (Zw (i := 1) rfl (dk rfl) If rfl rfl rfl rfl (sn rfl ad (Z9 (xs := m.Next) (f := (cL 2 Qi)) rfl (dk rfl) If rfl (sn rfl ad (Zi rfl rfl (dk rfl) rfl rfl (oZ ad rfl (nL (tN ?_))))))))))
  rcases Qe h with ⟨a4, h⟩ | ⟨a4, h⟩
  refine Qp rfl a4 ?_
  refine Qk ?_ (K0 K h)
  exact tr rfl (.c (.s (.s (.s (.s (.s (.s .z)))))) (.n _))
  refine Qo rfl a4 (T.skip (tN (T.seq (Yg (dP rfl (.f rfl) Ju i38 rfl (dL 0 rfl (.f rfl) Zu rfl ?_))))))
  obtain ⟨aj, bc, h⟩ := bind_some h
  refine dX p.Rule (cI .i64) rfl (.f rfl) Zu i3 bc rfl (dR rfl (.f rfl) ul3 rfl (dP rfl (.f rfl) Ju i38 rfl (dL 1 rfl (.f rfl) Zu rfl ?_)))
  obtain ⟨al, bd, h⟩ := bind_some h
  refine dX m.Rule (cI .i64) rfl (.f rfl) Zu i3 bd rfl (dR rfl (.f rfl) ul3 rfl (dI rfl (.f rfl) rfl (dA rfl (.f rfl) rfl (dF [0,1,3,7,0,16,48,112,255,511] Qz rfl (by kernel_rfl) (fun u hu => (tN (Qk hu (sR (Qq (oP Ju i49 rfl ?_))))))))))
  refine oL 0 If rfl ?_
  obtain ⟨a5, bf, h⟩ := bind_some h
  refine oX p.Next (cL 2 Qi) If i55 bf rfl (oR E2 rfl (oU a5 Qi E2 rfl (mw rfl (nL (tN (T.block (T.loop ?_)))))))
  refine Qg ?_ (N8 K (Q9 K k) ih K af ag ai (aj != al) aa (!aa) (Zs.get q (0:Int)) (Zs.get q (1:Int)) ((Zs.get q (0:Int)) == (Zs.get q (1:Int))) (Zs.get q (1:Int)) (decide ((Zs.get q (1:Int)) < (0:Int))) m.Next (m.Next.length : Int) ((m.Next.length : Int) != (1:Int)) (a5.length : Int) (0:Int) ap aq au ab (av ++ [(q, true)]) (am.drop 1) p.L p.R p.Rule p.Next m.L m.R m.Rule m.Next w ay a0 ((j 12).2) ((j 13).2) h)
  exact tr rfl (.c (.s (.s (.s .z))) (.c (.s (.s (.s .z))) (.c (.s (.s (.s .z))) (.c .z (.c .z (.c (.s .z) (.n _)))))))
  refine Qo rfl a1 ?_
  refine Qk ?_ (Kz K af ag ai aa h)
  exact tr rfl (.c (.s (.s (.s .z))) (.n _))
  refine pf rfl az (pf rfl az (oZ az rfl (nL (tN (Qo rfl rfl ?_)))))
  refine Qk ?_ (Kz K af ag ai aa h)
  exact tr rfl (.c (.s (.s (.s .z))) (.n _))
theorem S2 (K : Nat) {x0 : Qm} {x1 x2 : Int} {r : Bool} (h : Xz K x0 x1 x2 = some r) : Zl tp 6 [.agg ((Zg.dc 256 .u8 x0.Split.Of) ++ (([.int .i64 x0.Split.Many, .sl false 2 (mA x0.Counts), .sl false 4 (x0.States.map Qd)] : List DC))), .int .u8 x1, .int .u8 x2] [.tab 0 Xs] (.bool r) := by
 refine CI 164 fu6 rfl ?_
 unfold Xz at h
 refine sR (Qq (sp rfl (Zc rfl (dk rfl) rfl (fun w => (aw rfl (nL (tN (sR (Qq ?_)))))))))
 obtain ⟨j, y, h⟩ := bind_some h
 refine sp rfl (Ml rfl (dk rfl) fu14 rfl rfl Zk.nil (.tab 1 rfl (.nil)) (Qcd K y) (aw rfl (nL (tN (sR (Qq (oA 0 ((Zg.dc 256 .u8 x0.Split.Of) ++ (([.int .i64 x0.Split.Many, .sl false 2 (mA x0.Counts), .sl false 4 (x0.States.map Qd)] : List DC))) Jl i28 rfl ?_)))))))
 obtain ⟨ag, aa, h⟩ := bind_some h
 refine oH fu9 (Zl.nil (Qd2 K aa)) rfl ?_
 obtain ⟨a, ab, h⟩ := bind_some h
 refine sp rfl (Ml rfl (dk rfl) fu10 rfl rfl (Zk.cons rfl Zk.nil) (.tab 1 rfl (.nil)) (trim_Of_T K ab) (mw rfl (oE rfl (oE rfl (sp rfl (Zb rfl (dk rfl) i28 rfl (fun m => (sp rfl (Qu (i := 0) (cells' := ((Zg.oc 256 .u8 a.1.Split.Of) ++ (([.d (.int .i64 a.1.Split.Many), .d (.sl false 2 (mA a.1.Counts)), .d (.sl false 4 (a.1.States.map Qd))]:List OC)))) rfl rfl i28 rfl rfl rfl rfl (nb rfl) rfl (aw rfl ?_))))))))))
 refine nL (tN (T.seq (sR (Qq (mw rfl (oI rfl (mw rfl ?_)))))))
 rcases Qe h with ⟨b, h⟩ | ⟨b, h⟩
 refine pf rfl b (pf rfl b (pf rfl b (pf rfl b (oY b rfl (mw rfl (pf rfl rfl ?_))))))
 refine pf rfl rfl (pf rfl rfl (pf rfl rfl (oY rfl rfl (nL (tN (Qp rfl rfl ?_))))))
 refine Qk ?_ (Wa K j h)
 exact tr rfl (.c (.s (.s .z)) (.n _))
 refine sn rfl b (Xi rfl (dk rfl) Jl rfl i25 (by decide) rfl (sn rfl b (Zw (i := 0) rfl (dk rfl) Qcp rfl rfl rfl rfl (sn rfl b (Z9 (xs := a.1.Counts) (f := (Zs.dc .i64)) rfl (dk rfl) Qcp rfl (sn rfl b (Zi rfl rfl (dk rfl) rfl rfl (oZ b rfl (mw rfl ?_)))))))))
 rcases Qe h with ⟨g, h⟩ | ⟨g, h⟩
 refine pf rfl g (pf rfl g (pf rfl g (pf rfl g (oY g rfl (nL (tN (Qp rfl rfl ?_)))))))
 refine Qk ?_ (Wa K j h)
 exact tr rfl (.c (.s (.s .z)) (.n _))
 refine sn rfl g (Xi rfl (dk rfl) Jl rfl i26 (by decide) rfl (sn rfl g (Zw (i := 0) rfl (dk rfl) Uh rfl rfl rfl rfl (sn rfl g (Z9 (xs := a.1.States) (f := Qd) rfl (dk rfl) Uh rfl (sn rfl g (Zi rfl rfl (dk rfl) rfl rfl (oZ g rfl (nL (tN ?_))))))))))
 rcases Qe h with ⟨p, h⟩ | ⟨p, h⟩
 refine Qp rfl p ?_
 refine Qk ?_ (Wa K j h)
 exact tr rfl (.c (.s (.s .z)) (.n _))
 refine Qo rfl p (T.skip (tN (T.seq (sR (Qq (oA 0 ((Zg.dc 256 .u8 a.1.Split.Of) ++ (([.int .i64 a.1.Split.Many, .sl false 2 (mA a.1.Counts), .sl false 4 (a.1.States.map Qd)] : List DC))) Jl i28 rfl ?_))))))
 obtain ⟨ai, ac, h⟩ := bind_some h
 refine oH fu19 (Zl.nil (Qbl K ac)) rfl (oT rfl (nL (tN ?_)))
 rcases Qe h with ⟨q, h⟩ | ⟨q, h⟩
 refine Qp rfl q (sR (Qq (aw rfl (nL (tN (T.ret (Qv (Q2 (.cons _ _ _ _ (.tmp 6 _ rfl) .nil) (.cons 2 rfl (.nil _)) (by cases h; exact ⟨rfl, rfl⟩)))))))))
 refine Qo rfl q (T.skip (tN (sR (Qq (oP Jl i26 rfl (oL 0 Uh rfl (oU a.1.States Qd Uh rfl (oI rfl ?_))))))))
 refine aw rfl (nL (tN (T.seq (Yg (dV rfl rfl (dS (c := ⟨some 50, .int .i64 (wI x1), [(49, .int .u8 x1)], [], []⟩) (fun t hm => oF rfl rfl (Xj rfl (dk rfl) ul5 ul3 hm.s0 rfl)) rfl rfl (dV rfl rfl ?_)))))))
 obtain ⟨v, h⟩ := Q6 h
 refine dS (c := ⟨some 52, .int .i64 (Int.tmod (wI x1) (wI ((a.1.States.length : Int) - (1:Int)))), [(50, .int .i64 (wI x1)), (51, .int .i64 (wI ((a.1.States.length : Int) - (1:Int))))], [], []⟩) (fun t hm => oF rfl rfl (OpT.rem rfl (dk rfl) hm.s0 hm.s1 v rfl)) rfl rfl (dI rfl (.f rfl) rfl (dV rfl rfl (dS (c := ⟨some 55, .int .i64 (wI x2), [(54, .int .u8 x2)], [], []⟩) (fun t hm => oF rfl rfl (Xj rfl (dk rfl) ul5 ul3 hm.s0 rfl)) rfl rfl (dV rfl rfl (dS (c := ⟨some 57, .int .i64 (Int.tmod (wI x2) (wI ((a.1.States.length : Int) - (1:Int)))), [(55, .int .i64 (wI x2)), (56, .int .i64 (wI ((a.1.States.length : Int) - (1:Int))))], [], []⟩) (fun t hm => oF rfl rfl (OpT.rem rfl (dk rfl) hm.s0 hm.s1 v rfl)) rfl rfl (dI rfl (.f rfl) rfl ?_))))))
 refine dA rfl (.f rfl) rfl (dA rfl (.f rfl) rfl (dF [0,1,0,7,15,0,32,0,224,480,31,2047] Qz rfl (by kernel_rfl) (fun u hu => (tN (Qk hu (sR (Qq (sp rfl (OpT.makeMap rfl (dk rfl) (fun ad => (aw rfl (nL (tN (sR (Qq ?_)))))))))))))))
 refine mw rfl (mw rfl (sp rfl (OpT.build (l := (Zs.dc .i64 (Zs.mk (wI ((1:Int) + (Int.tmod (wI x1) (wI ((a.1.States.length : Int) - (1:Int)))))) (wI ((1:Int) + (Int.tmod (wI x2) (wI ((a.1.States.length : Int) - (1:Int))))))))) rfl (dk rfl) (T3 Qeu i59 i3) (G9 rfl) rfl rfl (sp rfl (OpT.buildSlice (elems := ([(Zs.mk (wI ((1:Int) + (Int.tmod (wI x1) (wI ((a.1.States.length : Int) - (1:Int)))))) (wI ((1:Int) + (Int.tmod (wI x2) (wI ((a.1.States.length : Int) - (1:Int)))))))] : List Zs).map (Zs.dc .i64)) rfl (dk rfl) Qcp i59 (by decide) rfl (G9 rfl) rfl rfl rfl (Vg rfl) (by decide) (aw rfl (nL (tN (sR (Qq (aw rfl ?_)))))))))))
 refine nL (tN (T.seq (T.block (T.loop (Qgb (Qdp 14 59 rfl) (fun af => ?_))))))
 refine Qg ?_ (N9 K K j (wI ((1:Int) + (Int.tmod (wI x1) (wI ((a.1.States.length : Int) - (1:Int)))))) (wI ((1:Int) + (Int.tmod (wI x2) (wI ((a.1.States.length : Int) - (1:Int)))))) false a.1.Split.Of a.1.Split.Many a.1.Counts a.1.States [] [(Zs.mk (wI ((1:Int) + (Int.tmod (wI x1) (wI ((a.1.States.length : Int) - (1:Int)))))) (wI ((1:Int) + (Int.tmod (wI x2) (wI ((a.1.States.length : Int) - (1:Int)))))))] m ad af h)
 exact tr rfl (.c (.s (.s .z)) (.c (.s .z) (.c .z (.c (.s .z) (.n _)))))
end Go.Rv

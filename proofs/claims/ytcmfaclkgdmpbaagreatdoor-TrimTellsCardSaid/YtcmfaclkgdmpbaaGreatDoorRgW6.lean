/- Each function computes what its plain text says: printed by a program of ours. -/
import Derived.Test.YtcmfaclkgdmpbaaGreatDoorRgW5
namespace Go.Rv
open Go.Proofs
set_option maxRecDepth 100000
set_option maxHeartbeats 4000000
set_option linter.unusedVariables false
abbrev Th (bx0 : Nat) (r : Int × Qi) : ES := Jm tp ff121 (fun y t => ∃ γ : Nat → Value, y = (.int .i64 r.1) ∧ t = [(Qd6 bx0 r.2.s r.2.at_ (γ 0) r.2.deep r.2.e r.2.where_), .arrA (γ 0) 165 9 (r.2.nodes.map Qw)])
abbrev Nt (bx0 : Nat) (r : Int × Qi) : ES := fT 99 [1,1,1] ff121 (Th bx0 r)
abbrev Fw (bx0 : Nat) (r : Int × Qi) : ES := Qv 0 ((Nt bx0 r))
theorem Ou {r : Int × Qi} (K bx0 : Nat) : ∀ (k : Nat), ∀ (m : Int) (a : ByteArray) (b f : Int) (g j : Int) (p : List Q3) (q : Value), Hg K k m a b f g j p = some r → TL tp 99 (ca [1,1,0,0,0] ff121) ⟨[(0, .ptr bx0 0), (3, .int .i64 m)], [(Qd6 bx0 a b q f g j), .arrA q 165 9 (p.map Qw)]⟩ (Fw bx0 r) := by
 intro k
 induction k with
 | zero =>
  intro m a b f g j p q h
  exact zn h
 | succ k ih =>
  intro m a b f g j p q h
  rw [Hg] at h
  refine Q0 (T.seq (sR (Qr (mw rfl ?_))))
  obtain ⟨ab, aa, h⟩ := bind_some h
  refine sp rfl (Q9 (is := [0, 1]) (ph := []) rfl (dk rfl) fu60 rfl rfl (Zm.cons rfl Zm.nil) (Jr K (bx0 := bx0) (wx0c2 := q) aa) (.cons rfl rfl (.cons rfl rfl (.nil))) (fun _ => rfl) (fun l => (nm (.c (.c (.n))) (oT rfl (nL (tN ?_))))))
  rcases Qg h with ⟨s, h⟩ | ⟨s, h⟩
  refine Qp rfl s (T.skip (tN (T.block (sR (Qr (aw rfl (aw rfl (nL (tN ?_)))))))))
  refine T.seq (Zy (dV rfl rfl (dK rfl (.f rfl) rfl (dP rfl (.f rfl) Dl i9 rfl (dL 0 rfl (.f rfl) ul9 rfl (dV rfl rfl ?_))))))
  refine dK rfl (.f rfl) rfl (dP rfl (.f rfl) Dl i3 rfl (dL 0 rfl (.f rfl) ul3 rfl ?_))
  obtain ⟨v, h⟩ := Q6 h
  refine dS (c := ⟨some 20, .int .u8 (bt a b), [(15, .str a), (19, .int .i64 b)], [], []⟩) (fun t hm => oF rfl rfl (My rfl (dk rfl) ul9 hm.s0 hm.s1 v.1 v.2 rfl)) rfl rfl (dA rfl (.f rfl) rfl (dF [0,1,3,7,0,16,48,112,255,511] Qx rfl (by kernel_rfl) (fun u hu => (tN (Ql hu (T.seq (T.block (sR (Qr (mw rfl ?_))))))))))
  refine oI rfl (aw rfl (nL (tN ?_)))
  rcases Qg h with ⟨w, h⟩ | ⟨w, h⟩
  cases h
  refine Qo rfl w (sR (Qr (mw rfl (oI rfl (aw rfl (nL (tN ?_)))))))
  rcases Qg h with ⟨y, h⟩ | ⟨y, h⟩
  cases h
  refine Qo rfl y (sR (Qr (mw rfl (oI rfl (aw rfl (nL (tN ?_)))))))
  rcases Qg h with ⟨z, h⟩ | ⟨z, h⟩
  cases h
  refine Qo rfl z (T.seq (Zy (dV rfl rfl (dI rfl (.f rfl) rfl (dV rfl rfl ?_)))))
  rcases Qg h with ⟨d, h⟩ | ⟨d, h⟩
  cases h
  refine dO d rfl rfl (dO d rfl rfl (dO d rfl rfl (dO d rfl rfl (dO d rfl rfl (dO d rfl rfl (dO d rfl rfl ?_))))))
  refine dO d rfl rfl (dO d rfl rfl (dO d rfl rfl (dO d rfl rfl (dZ rfl (.f rfl) d rfl (dV rfl rfl (dO rfl rfl rfl ?_))))))
  refine dO rfl rfl rfl (dO rfl rfl rfl (dO rfl rfl rfl (dO rfl rfl rfl (dO rfl rfl rfl (dO rfl rfl rfl (dO rfl rfl rfl ?_))))))
  refine dO rfl rfl rfl (dO rfl rfl rfl (dO rfl rfl rfl (dZ rfl (.f rfl) rfl rfl (dA rfl (.f rfl) rfl (dF [0,1,3,7,15,31,63,127,7,263,775,1799,3847,8191,16383,32767,65535,131071,262143,524287,65535,1114111,3211263,7405567,15794175,33554431,67108863,134217727,268435455] Qx rfl (by kernel_rfl) (fun u hu => (tN (Ql hu (Qo rfl rfl ?_)))))))))
  refine sR (Qr (mw rfl (aw rfl (nL (tN (T.ret (Qy (Qs (Qy (Qs (Qy (Qs (Q7 (.cons _ _ _ _ (.tmp 2 _ rfl) .nil) (.cons 0 rfl (.cons 0 rfl (.nil _))) (by cases h; exact ⟨gl [l 0], rfl, rfl⟩))))))))))))))
  refine Qo rfl s (T.exit (Qj (Qj (Qq (tN (sR (Qr (mw rfl (aw rfl (nL (tN (T.ret ?_))))))))))))
  exact Q7 (.cons _ _ _ _ (.tmp 2 _ rfl) .nil) (.cons 0 rfl (.cons 0 rfl (.nil _))) (by cases h; exact ⟨gl [l 0], rfl, rfl⟩)
theorem Ti (K : Nat) {x0 : Qi} {bx0 : Nat} {wx0c2 : Value} {r : Int × Qi} (h : L4 K x0 = some r) : U3 tp 121 [.ptr bx0 0] [(Qd6 bx0 x0.s x0.at_ wx0c2 x0.deep x0.e x0.where_), .arrA wx0c2 165 9 (x0.nodes.map Qw)] (fun γ => (.int .i64 r.1)) (fun γ => [(Qd6 bx0 r.2.s r.2.at_ (γ 0) r.2.deep r.2.e r.2.where_), .arrA (γ 0) 165 9 (r.2.nodes.map Qw)]) := by
 refine CI 99 fu121 rfl ?_
 unfold L4 at h
 refine sR (Qr (aw rfl (nL (tN (sR (Qr (mw rfl ?_)))))))
 obtain ⟨a, b, h⟩ := bind_some h
 refine sp rfl (Q9 (is := [0, 1]) (ph := []) rfl (dk rfl) fu133 rfl rfl (Zm.cons rfl Zm.nil) (Tj K (bx0 := bx0) (wx0c2 := wx0c2) b) (.cons rfl rfl (.cons rfl rfl (.nil))) (fun _ => rfl) (fun d => (nm (.c (.c (.n))) (aw rfl (nL (tN (T.seq (T.block (T.loop ?_)))))))))
 refine Qf ?_ (Ou K bx0 K a.1 a.2.s a.2.at_ a.2.deep a.2.e a.2.where_ a.2.nodes (d 0) h)
 exact tq rfl rfl
abbrev Qat (bx0 : Nat) (r : Int × Qi) : ES := Jm tp ff98 (fun y t => ∃ γ : Nat → Value, y = (.int .i64 r.1) ∧ t = [(Qd6 bx0 r.2.s r.2.at_ (γ 0) r.2.deep r.2.e r.2.where_), .arrA (γ 0) 165 9 (r.2.nodes.map Qw)])
abbrev Ot (bx0 : Nat) (r : Int × Qi) : ES := fT 57 [1,1,1] ff98 (Qat bx0 r)
abbrev Lr (bx0 : Nat) (r : Int × Qi) : ES := Qv 0 ((Ot bx0 r))
abbrev Ns (bx0 : Nat) (r : Int × Qi) : ES := fL 57 [1,1,0,0,0] ff98 (Lr bx0 r)
abbrev Fv (bx0 : Nat) (r : Int × Qi) : ES := fT 57 [1,1,0,0,0,1] ff98 (Ns bx0 r)
theorem Mu {r : Int × Qi} (K bx0 : Nat) (g : ByteArray) (j m : Int) (p q : Int) (s : List Q3) (a : List Int) (d b : Value) (h : Jq K g j m p q s a = some r) : T tp 57 (ca [1,1,0,0,0,0,1,1] ff98) ⟨[(0, .ptr bx0 0), (3, .c (.ex b))], [(Qd6 bx0 g j d m p q), .arrA d 165 9 (s.map Qw), .arrA b 3 1 (mI a)]⟩ (Fv bx0 r) := by
 unfold Jq at h
 refine T.exit (Qj (Qj (Qq (tN (T.seq (sR (Qr (mw rfl (oK rfl (oP Dl i30 rfl (oL 0 ul30 rfl ?_)))))))))))
 refine oI rfl (nL (tN ?_))
 rcases Qg h with ⟨u, h⟩ | ⟨u, h⟩
 cases h
 refine Qo rfl u (T.skip (tN (T.seq (sR (Qr (mw rfl (sp rfl (Lf (i := 2) (xs := a) (f := (cI .i64)) rfl (dk rfl) Zi rfl rfl (oI rfl ?_)))))))))
 refine nL (tN ?_)
 rcases Qg h with ⟨v, h⟩ | ⟨v, h⟩
 cases h
 refine Qo rfl v (T.skip (tN (T.seq (sR (Qr (mw rfl (sp rfl (Lf (i := 2) (xs := a) (f := (cI .i64)) rfl (dk rfl) Zi rfl rfl (oI rfl ?_)))))))))
 refine nL (tN ?_)
 rcases Qg h with ⟨w, h⟩ | ⟨w, h⟩
 cases h
 refine Qo rfl w (T.skip (tN (sR (Qr (mw rfl (mw rfl (sp rfl (Zj (OpT.build (l := [.int .u8 (3:Int), .int .u64 (Z6.mk 0 0 0 0).a0, .int .u64 (Z6.mk 0 0 0 0).a1, .int .u64 (Z6.mk 0 0 0 0).a2, .int .u64 (Z6.mk 0 0 0 0).a3, .ex b, .int .i64 (0:Int), .int .i64 (0:Int), .str (⟨#[]⟩ : ByteArray)]) rfl (dk rfl) (Zk (pl := [(0, 1), (1, 4), (5, 1), (6, 1), (7, 1), (8, 1)]) M3 i165 rfl) (Hs rfl) rfl rfl rfl) (Zt 55 (l := [.int .u8 (3:Int), .int .u64 (Z6.mk 0 0 0 0).a0, .int .u64 (Z6.mk 0 0 0 0).a1, .int .u64 (Z6.mk 0 0 0 0).a2, .int .u64 (Z6.mk 0 0 0 0).a3, .ex b, .int .i64 (0:Int), .int .i64 (0:Int), .str (⟨#[]⟩ : ByteArray)]) (l' := [.int .u8 (3:Int), .int .u64 (Z6.mk 0 0 0 0).a0, .int .u64 (Z6.mk 0 0 0 0).a1, .int .u64 (Z6.mk 0 0 0 0).a2, .int .u64 (Z6.mk 0 0 0 0).a3, .sl false 1 (mI a), .int .i64 (0:Int), .int .i64 (0:Int), .str (⟨#[]⟩ : ByteArray)]) (.cons (.same _) (.cons (.same _) (.cons (.same _) (.cons (.same _) (.cons (.same _) (.cons (.view 2 rfl) (.cons (.same _) (.cons (.same _) (.cons (.same _) (.refl _))))))))))) ?_))))))))
 obtain ⟨aa, y, h⟩ := bind_some h
 refine sp rfl (Q9 (is := [0, 1]) (ph := []) rfl (dk rfl) fu99 rfl rfl (Zm.cons rfl (Zm.cons rfl Zm.nil)) (G5 K (bx0 := bx0) (wx0c2 := d) y) (.cons rfl rfl (.cons rfl rfl (.nil))) (fun _ => rfl) (fun z => (nm (.c (.c (.c (.n)))) (aw rfl (nL (tN (T.ret (Q7 (.cons _ _ _ _ (.tmp 2 _ rfl) .nil) (.cons 0 rfl (.cons 0 rfl (.nil _))) (by cases h; exact ⟨gl [z 0], rfl, rfl⟩)))))))))
theorem P3 {r : Int × Qi} (K bx0 : Nat) : ∀ (k : Nat), ∀ (b : ByteArray) (d p : Int) (q v : Int) (y : List Q3) (aa : List Int) (ac w : Value), Jp K k b d p q v y aa = some r → TL tp 57 (ca [1,1,0,0,0] ff98) ⟨[(0, .ptr bx0 0), (3, .c (.ex w))], [(Qd6 bx0 b d ac p q v), .arrA ac 165 9 (y.map Qw), .arrA w 3 1 (mI aa)]⟩ (Lr bx0 r) := by
 intro k
 induction k with
 | zero =>
  intro b d p q v y aa ac w h
  exact zn h
 | succ k ih =>
  intro b d p q v y aa ac w h
  rw [Jp] at h
  refine Q0 (T.seq (T.seq (Ur (gM rfl (fun _ => .f rfl) (fun _ => rfl) ?_))))
  obtain ⟨m, ag, h⟩ := bind_some h
  refine DGG.step (c := fun a => ⟨some 5, .bool m, [(4, .ptr bx0 0)], [(1, .arrA ac 165 9 (y.map Qw)), (0, (Qd6 bx0 b d ac p q v))], [(0, (Qd6 bx0 b d ((a 1).1 0) p q v)), (1, .arrA ((a 1).1 0) 165 9 ((y).map Qw))]⟩) [1] (fun a γ' h => by simp only [h 1 (by decide)]) (fun a t hm => oF rfl rfl (Q9 (is := [0, 1]) (ph := []) rfl (dk rfl) fu60 rfl rfl (Zm.cons hm.s0 Zm.nil) (Jr K (bx0 := bx0) (wx0c2 := ac) ag) (.cons hm.o1 rfl (.cons hm.o0 rfl (.nil))) (fun _ => rfl) (fun g => ⟨(g, 0), rfl⟩))) (fun a => Zg rfl rfl) (gT rfl (fun _ => .f rfl) (fun _ => rfl) (gM rfl (fun _ => .f rfl) (fun _ => rfl) ?_))
  rcases Qg h with ⟨j, h⟩ | ⟨j, h⟩
  refine gM rfl (fun _ => .n j rfl) (fun _ => rfl) (gK rfl (fun _ => .n j rfl) (fun _ => rfl) (gP rfl (fun _ => .n j rfl) Dl i9 (fun _ => rfl) (DGG.step (c := fun a => ⟨some 11, .str b, [(10, .ptr bx0 (0 + 0)), (7, .bool (!m))], [(0, (Qd6 bx0 b d ((a 1).1 0) p q v))], []⟩) [1] (fun a γ' h => by simp only [h 1 (by decide)]) (fun a t hm => oN rfl rfl rfl hm.s1 j (Zx (i := 0) rfl (dk rfl) ul9 rfl hm.s0 hm.o0 rfl ⟨u0, rfl⟩)) (fun a => Zg rfl rfl) (gM rfl (fun _ => .n j rfl) (fun _ => rfl) (gK rfl (fun _ => .n j rfl) (fun _ => rfl) (gP rfl (fun _ => .n j rfl) Dl i3 (fun _ => rfl) ?_))))))
  refine DGG.step (c := fun a => ⟨some 15, .int .i64 d, [(14, .ptr bx0 (0 + 1)), (7, .bool (!m))], [(0, (Qd6 bx0 b d ((a 1).1 0) p q v))], []⟩) [1] (fun a γ' h => by simp only [h 1 (by decide)]) (fun a t hm => oN rfl rfl rfl hm.s1 j (Zx (i := 0) rfl (dk rfl) ul3 rfl hm.s0 hm.o0 rfl ⟨u0, rfl⟩)) (fun a => Zg rfl rfl) ?_
  obtain ⟨ad, h⟩ := Q6 h
  refine dC (c := ⟨some 16, .int .u8 (bt b d), [(11, .str b), (15, .int .i64 d), (7, .bool (!m))], [], []⟩) (fun t hm => oN rfl rfl rfl hm.s2 j (My rfl (dk rfl) ul9 hm.s0 hm.s1 ad.1 ad.2 ⟨u0, rfl⟩)) (fun _ => rfl) (fun _ => rfl) (gI rfl (fun _ => .n j rfl) (fun _ => rfl) (gY rfl (fun _ => .f rfl) j (fun _ => rfl) (gM rfl (fun _ => .f rfl) (fun _ => rfl) ?_)))
  rcases Qg h with ⟨l, h⟩ | ⟨l, h⟩
  refine gM rfl (fun _ => .n l rfl) (fun _ => rfl) (gK rfl (fun _ => .n l rfl) (fun _ => rfl) (gP rfl (fun _ => .n l rfl) Dl i9 (fun _ => rfl) (DGG.step (c := fun a => ⟨some 23, .str b, [(22, .ptr bx0 (0 + 0)), (19, .bool ((bt b d) != (124:Int)))], [(0, (Qd6 bx0 b d ((a 1).1 0) p q v))], []⟩) [1] (fun a γ' h => by simp only [h 1 (by decide)]) (fun a t hm => oN rfl rfl rfl hm.s1 l (Zx (i := 0) rfl (dk rfl) ul9 rfl hm.s0 hm.o0 rfl ⟨u0, rfl⟩)) (fun a => Zg rfl rfl) (gM rfl (fun _ => .n l rfl) (fun _ => rfl) (gK rfl (fun _ => .n l rfl) (fun _ => rfl) (gP rfl (fun _ => .n l rfl) Dl i3 (fun _ => rfl) ?_))))))
  refine DGG.step (c := fun a => ⟨some 27, .int .i64 d, [(26, .ptr bx0 (0 + 1)), (19, .bool ((bt b d) != (124:Int)))], [(0, (Qd6 bx0 b d ((a 1).1 0) p q v))], []⟩) [1] (fun a γ' h => by simp only [h 1 (by decide)]) (fun a t hm => oN rfl rfl rfl hm.s1 l (Zx (i := 0) rfl (dk rfl) ul3 rfl hm.s0 hm.o0 rfl ⟨u0, rfl⟩)) (fun a => Zg rfl rfl) (dC (c := ⟨some 28, .int .u8 (bt b d), [(23, .str b), (27, .int .i64 d), (19, .bool ((bt b d) != (124:Int)))], [], []⟩) (fun t hm => oN rfl rfl rfl hm.s2 l (My rfl (dk rfl) ul9 hm.s0 hm.s1 ad.1 ad.2 ⟨u0, rfl⟩)) (fun _ => rfl) (fun _ => rfl) (gI rfl (fun _ => .n l rfl) (fun _ => rfl) (gY rfl (fun _ => .f rfl) l (fun _ => rfl) (gF [0,1,3,7,15,31,63,127,15,271,783,1807,4095,8191,16383,32767,65535,131071,262143,524287,65535,1114111,3211263,7405567,16777215,33554431,67108863] Qx rfl (by kernel_rfl) (fun _ => by kernel_rfl) (fun a u hu => (tN (Ql hu ?_)))))))
  rcases Qg h with ⟨af, h⟩ | ⟨af, h⟩
  refine Qp rfl af (T.skip (tN (T.block (Qr (mw rfl (mw rfl ?_))))))
  obtain ⟨ab, ai, h⟩ := bind_some h
  refine sp rfl (Q9 (is := [0, 1]) (ph := []) rfl (dk rfl) fu121 rfl rfl (Zm.cons rfl Zm.nil) (Ti K (bx0 := bx0) (wx0c2 := ((a 1).1 0)) ai) (.cons rfl rfl (.cons rfl rfl (.nil))) (fun _ => rfl) (fun aj => (nm (.c (.c (.c (.n)))) (sp rfl (OpT.buildSlice (elems := ([ab.1] : List Int).map (cI .i64)) rfl (dk rfl) Zi i3 (by decide) rfl (Hs rfl) rfl rfl rfl (Xh rfl) (by decide) ?_)))))
  obtain ⟨al, h⟩ := Q6 h
  refine sp rfl (Zp (i := 2) (xs := aa) (ys := [ab.1]) (f := (cI .i64)) rfl (dk rfl) Zi i3 rfl rfl rfl rfl al (fun am => (aw rfl (nL (Qk (tN ?_))))))
  refine Qf ?_ (ih ab.2.s ab.2.at_ ab.2.deep ab.2.e ab.2.where_ ab.2.nodes (aa ++ [ab.1]) (aj 0) am h)
  exact tq rfl rfl
  cases h
  refine DGG.off l rfl rfl rfl rfl rfl (fun _ => rfl) (DGG.off l rfl rfl rfl rfl rfl (fun _ => rfl) (DGG.off l rfl rfl rfl rfl rfl (fun _ => rfl) (DGG.off l rfl rfl rfl rfl rfl (fun _ => rfl) (DGG.off l rfl rfl rfl rfl rfl (fun _ => rfl) (DGG.off l rfl rfl rfl rfl rfl (fun _ => rfl) (DGG.off l rfl rfl rfl rfl rfl (fun _ => rfl) ?_))))))
  refine DGG.off l rfl rfl rfl rfl rfl (fun _ => rfl) (DGG.off l rfl rfl rfl rfl rfl (fun _ => rfl) (DGG.off l rfl rfl rfl rfl rfl (fun _ => rfl) (gZ rfl (fun _ => .f rfl) l (fun _ => rfl) (gF [0,1,3,7,15,31,63,127,15,271,783,1807,4095,8191,16383,32767,65535,131071,262143,524287,65535,1114111,3211263,7405567,16777215,33554431,67108863] Qx rfl (by kernel_rfl) (fun _ => by kernel_rfl) (fun a u hu => (tN (Ql hu (Qo rfl rfl ?_))))))))
  refine Ql ?_ (Mu K bx0 b d p q v y aa ((a 1).1 0) w h)
  exact tq rfl rfl
  refine DGG.off j rfl rfl rfl rfl rfl (fun _ => rfl) (DGG.off j rfl rfl rfl rfl rfl (fun _ => rfl) (DGG.off j rfl rfl rfl rfl rfl (fun _ => rfl) (DGG.off j rfl rfl rfl rfl rfl (fun _ => rfl) (DGG.off j rfl rfl rfl rfl rfl (fun _ => rfl) (DGG.off j rfl rfl rfl rfl rfl (fun _ => rfl) (DGG.off j rfl rfl rfl rfl rfl (fun _ => rfl) ?_))))))
  refine DGG.off j rfl rfl rfl rfl rfl (fun _ => rfl) (DGG.off j rfl rfl rfl rfl rfl (fun _ => rfl) (DGG.off j rfl rfl rfl rfl rfl (fun _ => rfl) (gZ rfl (fun _ => .f rfl) j (fun _ => rfl) (gM rfl (fun _ => .f rfl) (fun _ => rfl) (DGG.off rfl rfl rfl rfl rfl rfl (fun _ => rfl) (DGG.off rfl rfl rfl rfl rfl rfl (fun _ => rfl) ?_))))))
  refine DGG.off rfl rfl rfl rfl rfl rfl (fun _ => rfl) (DGG.off rfl rfl rfl rfl rfl rfl (fun _ => rfl) (DGG.off rfl rfl rfl rfl rfl rfl (fun _ => rfl) (DGG.off rfl rfl rfl rfl rfl rfl (fun _ => rfl) (DGG.off rfl rfl rfl rfl rfl rfl (fun _ => rfl) (DGG.off rfl rfl rfl rfl rfl rfl (fun _ => rfl) (DGG.off rfl rfl rfl rfl rfl rfl (fun _ => rfl) ?_))))))
  refine DGG.off rfl rfl rfl rfl rfl rfl (fun _ => rfl) (gZ rfl (fun _ => .f rfl) rfl (fun _ => rfl) (gF [0,1,3,7,15,31,63,127,15,271,783,1807,4095,8191,16383,32767,65535,131071,262143,524287,65535,1114111,3211263,7405567,16777215,33554431,67108863] Qx rfl (by kernel_rfl) (fun _ => by kernel_rfl) (fun a u hu => (tN (Ql hu (Qo rfl rfl ?_))))))
  refine Ql ?_ (Mu K bx0 b d p q v y aa ((a 1).1 0) w h)
  exact tq rfl rfl
theorem Dj (K : Nat) {x0 : Qi} {bx0 : Nat} {wx0c2 : Value} {r : Int × Qi} (h : W5 K x0 = some r) : U3 tp 98 [.ptr bx0 0] [(Qd6 bx0 x0.s x0.at_ wx0c2 x0.deep x0.e x0.where_), .arrA wx0c2 165 9 (x0.nodes.map Qw)] (fun γ => (.int .i64 r.1)) (fun γ => [(Qd6 bx0 r.2.s r.2.at_ (γ 0) r.2.deep r.2.e r.2.where_), .arrA (γ 0) 165 9 (r.2.nodes.map Qw)]) := by
 refine CI 57 fu98 rfl ?_
 unfold W5 at h
 refine sR (Qr (aw rfl (nL (tN (sR (Qr (aw rfl (nL (tN (T.seq (T.block ?_)))))))))))
 refine T.loop (Qf (Xd 3 1) ?_)
 refine Qf ?_ (P3 K bx0 K x0.s x0.at_ x0.deep x0.e x0.where_ x0.nodes [] wx0c2 (Qd7 2) h)
 exact tr rfl (.c (.s .z) (.c (.s .z) (.c .z (.n _))))
abbrev Ew (bx0 : Nat) (r : Int × Qi) : ES := Jm tp ff59 (fun y t => ∃ γ : Nat → Value, y = (.int .i64 r.1) ∧ t = [(Qd6 bx0 r.2.s r.2.at_ (γ 0) r.2.deep r.2.e r.2.where_), .arrA (γ 0) 165 9 (r.2.nodes.map Qw)])
abbrev Cl (bx0 : Nat) (r : Int × Qi) : ES := fT 51 [1,1,1] ff59 (Ew bx0 r)
abbrev Bh (bx0 : Nat) (r : Int × Qi) : ES := Qv 0 ((Cl bx0 r))
theorem C6 {r : Int × Qi} (K bx0 : Nat) : ∀ (k : Nat), ∀ (j : ByteArray) (m q : Int) (v w : Int) (ac : List Q3) (y : List Int) (ad aa : Value), Xy K k j m q v w ac y = some r → TL tp 51 (ca [1,1,0,0,0] ff59) ⟨[(0, .ptr bx0 0), (3, .c (.ex aa))], [(Qd6 bx0 j m ad q v w), .arrA ad 165 9 (ac.map Qw), .arrA aa 3 1 (mI y)]⟩ (Bh bx0 r) := by
 intro k
 induction k with
 | zero =>
  intro j m q v w ac y ad aa h
  exact zn h
 | succ k ih =>
  intro j m q v w ac y ad aa h
  rw [Xy] at h
  refine Q0 (T.seq (T.seq (Ur (gM rfl (fun _ => .f rfl) (fun _ => rfl) ?_))))
  obtain ⟨p, al, h⟩ := bind_some h
  refine DGG.step (c := fun a => ⟨some 8, .bool p, [(7, .ptr bx0 0)], [(1, .arrA ad 165 9 (ac.map Qw)), (0, (Qd6 bx0 j m ad q v w))], [(0, (Qd6 bx0 j m ((a 1).1 0) q v w)), (1, .arrA ((a 1).1 0) 165 9 ((ac).map Qw))]⟩) [1] (fun a γ' h => by simp only [h 1 (by decide)]) (fun a t hm => oF rfl rfl (Q9 (is := [0, 1]) (ph := []) rfl (dk rfl) fu60 rfl rfl (Zm.cons hm.s0 Zm.nil) (Jr K (bx0 := bx0) (wx0c2 := ad) al) (.cons hm.o1 rfl (.cons hm.o0 rfl (.nil))) (fun _ => rfl) (fun g => ⟨(g, 0), rfl⟩))) (fun a => Zg rfl rfl) (gT rfl (fun _ => .f rfl) (fun _ => rfl) (gM rfl (fun _ => .f rfl) (fun _ => rfl) ?_))
  rcases Qg h with ⟨b, h⟩ | ⟨b, h⟩
  refine gM rfl (fun _ => .n b rfl) (fun _ => rfl) (gK rfl (fun _ => .n b rfl) (fun _ => rfl) (gP rfl (fun _ => .n b rfl) Dl i9 (fun _ => rfl) (DGG.step (c := fun a => ⟨some 14, .str j, [(13, .ptr bx0 (0 + 0)), (10, .bool (!p))], [(0, (Qd6 bx0 j m ((a 1).1 0) q v w))], []⟩) [1] (fun a γ' h => by simp only [h 1 (by decide)]) (fun a t hm => oN rfl rfl rfl hm.s1 b (Zx (i := 0) rfl (dk rfl) ul9 rfl hm.s0 hm.o0 rfl ⟨u0, rfl⟩)) (fun a => Zg rfl rfl) (gM rfl (fun _ => .n b rfl) (fun _ => rfl) (gK rfl (fun _ => .n b rfl) (fun _ => rfl) (gP rfl (fun _ => .n b rfl) Dl i3 (fun _ => rfl) ?_))))))
  refine DGG.step (c := fun a => ⟨some 18, .int .i64 m, [(17, .ptr bx0 (0 + 1)), (10, .bool (!p))], [(0, (Qd6 bx0 j m ((a 1).1 0) q v w))], []⟩) [1] (fun a γ' h => by simp only [h 1 (by decide)]) (fun a t hm => oN rfl rfl rfl hm.s1 b (Zx (i := 0) rfl (dk rfl) ul3 rfl hm.s0 hm.o0 rfl ⟨u0, rfl⟩)) (fun a => Zg rfl rfl) ?_
  obtain ⟨ag, h⟩ := Q6 h
  refine dC (c := ⟨some 19, .int .u8 (bt j m), [(14, .str j), (18, .int .i64 m), (10, .bool (!p))], [], []⟩) (fun t hm => oN rfl rfl rfl hm.s2 b (My rfl (dk rfl) ul9 hm.s0 hm.s1 ag.1 ag.2 ⟨u0, rfl⟩)) (fun _ => rfl) (fun _ => rfl) (gI rfl (fun _ => .n b rfl) (fun _ => rfl) (gY rfl (fun _ => .f rfl) b (fun _ => rfl) (gF [0,1,3,7,15,31,63,127,15,271,783,1807,4095,8191,16383] Qx rfl (by kernel_rfl) (fun _ => by kernel_rfl) (fun a u hu => (tN (Ql hu ?_))))))
  rcases Qg h with ⟨ai, h⟩ | ⟨ai, h⟩
  refine Qp rfl ai (T.skip (tN (T.block (sR (Qr (mw rfl (oK rfl (oP Dl i3 rfl ?_))))))))
  refine oL 0 ul3 rfl (oI rfl (oK rfl (oP Dl i3 rfl (sp rfl (Wf (i := 0) (cells' := [.d (.str j), .d (.int .i64 (wI (m + (1:Int)))), .d (.ex ((a 1).1 0)), .d (.int .i64 q), .d (.int .i64 v), .d (.int .i64 w)]) rfl rfl i3 rfl rfl rfl (nb rfl) rfl (nL (tN (Qr ?_))))))))
  refine mw rfl (mw rfl ?_)
  obtain ⟨ab, am, h⟩ := bind_some h
  refine sp rfl (Q9 (is := [0, 1]) (ph := []) rfl (dk rfl) fu98 rfl rfl (Zm.cons rfl Zm.nil) (Dj K (bx0 := bx0) (wx0c2 := ((a 1).1 0)) am) (.cons rfl rfl (.cons rfl rfl (.nil))) (fun _ => rfl) (fun an => (nm (.c (.c (.c (.n)))) (sp rfl (OpT.buildSlice (elems := ([ab.1] : List Int).map (cI .i64)) rfl (dk rfl) Zi i3 (by decide) rfl (Hs rfl) rfl rfl rfl (Xh rfl) (by decide) ?_)))))
  obtain ⟨ap, h⟩ := Q6 h
  refine sp rfl (Zp (i := 2) (xs := y) (ys := [ab.1]) (f := (cI .i64)) rfl (dk rfl) Zi i3 rfl rfl rfl rfl ap (fun aq => (aw rfl (nL (Qk (tN ?_))))))
  refine Qf ?_ (ih ab.2.s ab.2.at_ ab.2.deep ab.2.e ab.2.where_ ab.2.nodes (y ++ [ab.1]) (an 0) aq h)
  exact tq rfl rfl
  cases h
  refine DGG.off b rfl rfl rfl rfl rfl (fun _ => rfl) (DGG.off b rfl rfl rfl rfl rfl (fun _ => rfl) (DGG.off b rfl rfl rfl rfl rfl (fun _ => rfl) (DGG.off b rfl rfl rfl rfl rfl (fun _ => rfl) (DGG.off b rfl rfl rfl rfl rfl (fun _ => rfl) (DGG.off b rfl rfl rfl rfl rfl (fun _ => rfl) (DGG.off b rfl rfl rfl rfl rfl (fun _ => rfl) ?_))))))
  refine DGG.off b rfl rfl rfl rfl rfl (fun _ => rfl) (DGG.off b rfl rfl rfl rfl rfl (fun _ => rfl) (DGG.off b rfl rfl rfl rfl rfl (fun _ => rfl) (gZ rfl (fun _ => .f rfl) b (fun _ => rfl) (gF [0,1,3,7,15,31,63,127,15,271,783,1807,4095,8191,16383] Qx rfl (by kernel_rfl) (fun _ => by kernel_rfl) (fun a u hu => (tN (Ql hu (Qo rfl rfl (T.exit (Qj (Qj (Qq (tN ?_)))))))))))))
  refine T.seq (sR (Qr (mw rfl (sp rfl (Lf (i := 2) (xs := y) (f := (cI .i64)) rfl (dk rfl) Zi rfl rfl (oI rfl (mw rfl ?_)))))))
  rcases Qg h with ⟨af, h⟩ | ⟨af, h⟩
  cases h
  refine sn rfl af (OpT.move rfl (dk rfl) rfl (sn rfl af (OpT.nilCheck rfl (dk rfl) rfl rfl (sn rfl af (Y1 rfl (dk rfl) Dl rfl i30 (by decide) rfl (sn rfl af (Zx (i := 0) rfl (dk rfl) ul30 rfl rfl rfl rfl (sn rfl af (Zs rfl rfl (dk rfl) rfl rfl (oZ af rfl (nL (tN ?_))))))))))))
  rcases Qg h with ⟨aj, h⟩ | ⟨aj, h⟩
  cases h
  refine Qo rfl aj (T.skip (tN (sR (Qr (mw rfl (mw rfl (sp rfl (Zj (OpT.build (l := [.int .u8 (4:Int), .int .u64 (Z6.mk 0 0 0 0).a0, .int .u64 (Z6.mk 0 0 0 0).a1, .int .u64 (Z6.mk 0 0 0 0).a2, .int .u64 (Z6.mk 0 0 0 0).a3, .ex aa, .int .i64 (0:Int), .int .i64 (0:Int), .str (⟨#[]⟩ : ByteArray)]) rfl (dk rfl) (Zk (pl := [(0, 1), (1, 4), (5, 1), (6, 1), (7, 1), (8, 1)]) M3 i165 rfl) (Hs rfl) rfl rfl rfl) (Zt 49 (l := [.int .u8 (4:Int), .int .u64 (Z6.mk 0 0 0 0).a0, .int .u64 (Z6.mk 0 0 0 0).a1, .int .u64 (Z6.mk 0 0 0 0).a2, .int .u64 (Z6.mk 0 0 0 0).a3, .ex aa, .int .i64 (0:Int), .int .i64 (0:Int), .str (⟨#[]⟩ : ByteArray)]) (l' := [.int .u8 (4:Int), .int .u64 (Z6.mk 0 0 0 0).a0, .int .u64 (Z6.mk 0 0 0 0).a1, .int .u64 (Z6.mk 0 0 0 0).a2, .int .u64 (Z6.mk 0 0 0 0).a3, .sl false 1 (mI y), .int .i64 (0:Int), .int .i64 (0:Int), .str (⟨#[]⟩ : ByteArray)]) (.cons (.same _) (.cons (.same _) (.cons (.same _) (.cons (.same _) (.cons (.same _) (.cons (.view 2 rfl) (.cons (.same _) (.cons (.same _) (.cons (.same _) (.refl _))))))))))) ?_))))))))
  obtain ⟨ay, au, h⟩ := bind_some h
  refine sp rfl (Q9 (is := [0, 1]) (ph := []) rfl (dk rfl) fu99 rfl rfl (Zm.cons rfl (Zm.cons rfl Zm.nil)) (G5 K (bx0 := bx0) (wx0c2 := ((a 1).1 0)) au) (.cons rfl rfl (.cons rfl rfl (.nil))) (fun _ => rfl) (fun av => (nm (.c (.c (.c (.n)))) (aw rfl (nL (tN (T.ret (Q7 (.cons _ _ _ _ (.tmp 2 _ rfl) .nil) (.cons 0 rfl (.cons 0 rfl (.nil _))) (by cases h; exact ⟨gl [av 0], rfl, rfl⟩)))))))))
theorem Ex (K : Nat) {x0 : Qi} {bx0 : Nat} {wx0c2 : Value} {r : Int × Qi} (h : Jv K x0 = some r) : U3 tp 59 [.ptr bx0 0] [(Qd6 bx0 x0.s x0.at_ wx0c2 x0.deep x0.e x0.where_), .arrA wx0c2 165 9 (x0.nodes.map Qw)] (fun γ => (.int .i64 r.1)) (fun γ => [(Qd6 bx0 r.2.s r.2.at_ (γ 0) r.2.deep r.2.e r.2.where_), .arrA (γ 0) 165 9 (r.2.nodes.map Qw)]) := by
 refine CI 51 fu59 rfl ?_
 unfold Jv at h
 refine sR (Qr (aw rfl (nL (tN (sR (Qr (mw rfl ?_)))))))
 obtain ⟨a, b, h⟩ := bind_some h
 refine sp rfl (Q9 (is := [0, 1]) (ph := []) rfl (dk rfl) fu98 rfl rfl (Zm.cons rfl Zm.nil) (Dj K (bx0 := bx0) (wx0c2 := wx0c2) b) (.cons rfl rfl (.cons rfl rfl (.nil))) (fun _ => rfl) (fun d => (nm (.c (.c (.n))) (sp rfl (OpT.buildSlice (elems := ([a.1] : List Int).map (cI .i64)) rfl (dk rfl) Zi i3 (by decide) rfl (Hs rfl) rfl rfl rfl (Xh rfl) (by decide) (aw rfl (nL (tN (T.seq (T.block ?_))))))))))
 refine T.loop (Ql3 (Qi9 3 3 rfl) (fun f => ?_))
 refine Qf ?_ (C6 K bx0 K a.2.s a.2.at_ a.2.deep a.2.e a.2.where_ a.2.nodes [a.1] (d 0) f h)
 exact tr rfl (.c (.s .z) (.c (.s .z) (.c .z (.n _))))
abbrev raddleref04_Parse_q (r : (List Q3) × Int × Int) : ES := Jm tp ff35 (fun y t => y = (.tup [.sl false 9 (r.1.map Qw), .int .i64 r.2.1, .int .i64 r.2.2]) ∧ t = [])
theorem Qhn (K : Nat) {x0 : ByteArray} {r : (List Q3) × Int × Int} (h : Fx K x0 = some r) : Zh tp 35 [.str x0] [] (.tup [.sl false 9 (r.1.map Qw), .int .i64 r.2.1, .int .i64 r.2.2]) := by
 refine CI 46 fu35 rfl ?_
 unfold Fx at h
 refine sR (Qr (aw rfl (aw rfl (aw rfl (nL (tN (T.seq (sR (Qr ?_)))))))))
 refine mw rfl (sp rfl (Qa5 rfl (dk rfl) ul9 rfl (oI rfl (nL (tN ?_)))))
 rcases Qg h with ⟨a, h⟩ | ⟨a, h⟩
 cases h
 refine Qo rfl a (T.skip (tN (sR (Qr (mw rfl (sp rfl (OpT.build (l := [.str x0, .int .i64 (0:Int), .ex (.slice none 0 0), .int .i64 (0:Int), .int .i64 (0:Int), .int .i64 (0:Int)]) rfl (dk rfl) (Zk (pl := [(0, 1), (1, 1), (2, 1), (3, 1), (4, 1), (5, 1)]) Dl i117 rfl) (Hs rfl) rfl rfl (sp rfl (Q8 rfl (dk rfl) rfl (fun b => (aw rfl ?_)))))))))))
 refine nL (tN (sR (Qr (mw rfl (Uh (Xd 165 9) ?_)))))
 obtain ⟨m, p, h⟩ := bind_some h
 refine sp rfl (Q9 (is := [1, 0]) (ph := []) rfl (dk rfl) fu59 rfl rfl (Zm.cons rfl Zm.nil) (Ex K (bx0 := b) (wx0c2 := (Qd7 5)) p) (.cons rfl rfl (.cons rfl rfl (.nil))) (fun _ => rfl) (fun q => (nm (.c (.c (.n))) (nL (tN (T.seq (sR (Qr (mw rfl ?_)))))))))
 obtain ⟨u, s, h⟩ := bind_some h
 refine sp rfl (Q9 (is := [1, 0]) (ph := []) rfl (dk rfl) fu60 rfl rfl (Zm.cons rfl Zm.nil) (Jr K (bx0 := b) (wx0c2 := (q 0)) s) (.cons rfl rfl (.cons rfl rfl (.nil))) (fun _ => rfl) (fun v => (nm (.c (.c (.n))) (oT rfl (nL (tN ?_))))))
 rcases Qg h with ⟨d, h⟩ | ⟨d, h⟩
 cases h
 refine Qo rfl d (T.skip (tN (T.seq (sR (Qr (mw rfl (oK rfl (oP Dl i30 rfl ?_))))))))
 refine oL 1 ul30 rfl (oI rfl (nL (tN ?_)))
 rcases Qg h with ⟨g, h⟩ | ⟨g, h⟩
 cases h
 refine Qo rfl g (T.skip (tN (T.seq (sR (Qr (mw rfl (oK rfl (oP Dl i80 rfl ?_))))))))
 refine sp rfl (Zj (Zx (i := 1) rfl (dk rfl) Qcf rfl rfl rfl rfl rfl) (Ks 39 0 rfl) (oU m.2.nodes Qw Qcf rfl (oI rfl (nL (tN ?_)))))
 rcases Qg h with ⟨j, h⟩ | ⟨j, h⟩
 cases h
 refine Qo rfl j (T.skip (tN (sR (Qr (mw rfl (oK rfl (oP Dl i80 rfl (oL 1 Qcf rfl ?_))))))))
 refine aw rfl (aw rfl (aw rfl (nL (tN (T.ret (Yw (Zr.view 2 0 rfl rfl) (Fin.done (.cons _ _ _ _ (.tmp 2 _ rfl) (.cons _ _ _ _ (.tmp 3 _ rfl) (.cons _ _ _ _ (.tmp 4 _ rfl) .nil))) (by cases h; exact ⟨rfl, rfl⟩))))))))
abbrev Qis (r : (List Int) × Bool) : ES := Jm tp ff103 (fun y t => ∃ γ : Nat → Value, y = (.tup [.c (.ex (γ 0)), .bool r.2]) ∧ t = [.arrA (γ 0) 3 1 (mI r.1)])
abbrev Qdw (r : (List Int) × Bool) : ES := fT 59 [1,1,1] ff103 (Qis r)
abbrev Qas (r : (List Int) × Bool) : ES := Qv 0 ((Qdw r))
theorem Qe1 {r : (List Int) × Bool} (K : Nat) (rec_raddleref04_walk : (List Q3) → Int → (List Int) → Option ((List Int) × Bool)) (hrec_raddleref04_walk : D8 rec_raddleref04_walk) : ∀ (k : Nat), ∀ (x0 : List Q3) (x1 b : Int) (a : List Int) (flx0 : Bool) (d : Value), Lz K rec_raddleref04_walk k x0 x1 b a = some r → TL tp 59 (ca [1,1,0,1,0,0] ff103) ⟨[(0, .sl flx0 9 (x0.map Qw)), (1, .int .i64 x1), (2, .c (.ex d)), (8, .int .i64 b)], [.arrA d 3 1 (mI a)]⟩ (Qas r) := by
 intro k
 induction k with
 | zero =>
  intro x0 x1 b a flx0 d h
  exact zn h
 | succ k ih =>
  intro x0 x1 b a flx0 d h
  rw [Lz] at h
  refine Q0 (T.seq (sR (Qr ?_)))
  iterate 3 refine mw rfl ?_
  obtain ⟨j, m, h⟩ := bind_some h
  refine oX x0 Qw Qcf i165 m rfl (sp rfl (Ug rfl (dk rfl) M3 rfl i38 (by decide) rfl (oR Zi rfl (oU j.L (cI .i64) Zi rfl (oI rfl (nL (tN ?_)))))))
  rcases Qg h with ⟨l, h⟩ | ⟨l, h⟩
  refine Qp rfl l (T.skip (tN (T.seq (T.block (sR (Qr (mw rfl (mw rfl ?_))))))))
  refine oX x0 Qw Qcf i165 m rfl (sp rfl (Ug rfl (dk rfl) M3 rfl i38 (by decide) rfl (oR Zi rfl (mw rfl ?_))))
  obtain ⟨p, u, h⟩ := bind_some h
  refine oX j.L (cI .i64) Zi i3 u rfl (oR ul3 rfl (aw rfl (nL (tN (T.seq (sR (Qr (mw rfl ?_))))))))
  refine oI rfl (mw rfl ?_)
  rcases Qg h with ⟨g, h⟩ | ⟨g, h⟩
  cases h
  refine sn rfl g (OpT.move rfl (dk rfl) rfl (sn rfl g (OpT.move rfl (dk rfl) rfl (sn rfl g (Zs rfl rfl (dk rfl) rfl rfl (oZ g rfl (nL (tN ?_))))))))
  rcases Qg h with ⟨q, h⟩ | ⟨q, h⟩
  cases h
  refine Qo rfl q (T.skip (tN (sR (Qr ?_))))
  iterate 3 refine mw rfl ?_
  obtain ⟨w, y, h⟩ := bind_some h
  refine sp rfl (Q9 (is := [0]) (ph := []) rfl (dk rfl) fu103 rfl rfl (Zm.cons rfl (Zm.cons rfl (Zm.cons rfl Zm.nil))) (hrec_raddleref04_walk x0 p a flx0 d _ y) (.cons rfl rfl (.nil)) (fun _ => rfl) (fun aa => (nm (.c (.n)) (mw rfl (oE rfl (oE rfl (aw rfl (aw rfl ?_))))))))
  refine nL (tN (T.seq (sR (Qr (mw rfl (oT rfl (nL (tN ?_))))))))
  rcases Qg h with ⟨s, h⟩ | ⟨s, h⟩
  cases h
  refine Qo rfl s (T.skip (tN (Qr (mw rfl (aw rfl (nL (Qk (tN (Qr ?_)))))))))
  refine mw rfl (oI rfl (aw rfl (nL (tN ?_))))
  refine Qf ?_ (ih x0 x1 (wI (b + (1:Int))) w.1 flx0 (aa 0) h)
  exact tq rfl rfl
  refine Qo rfl l (T.exit (Qj (Qj (Qq (tN (sR (Qr (mw rfl (mw rfl (sp rfl (OpT.buildSlice (elems := ([x1] : List Int).map (cI .i64)) rfl (dk rfl) Zi i3 (by decide) rfl (Hs rfl) rfl rfl rfl (Xh rfl) (by decide) ?_)))))))))))
  obtain ⟨ab, h⟩ := Q6 h
  refine sp rfl (Zp (i := 0) (xs := a) (ys := [x1]) (f := (cI .i64)) rfl (dk rfl) Zi i3 rfl rfl rfl rfl ab (fun ac => (aw rfl (aw rfl (nL (tN (T.ret (Q7 (.cons _ _ _ _ (.tmp 6 _ rfl) (.cons _ _ _ _ (.tmp 7 _ rfl) .nil)) (.cons 0 rfl (.nil _)) (by cases h; exact ⟨gl [ac], rfl, rfl⟩)))))))))
theorem Qfy (K : Nat) (rec_raddleref04_walk : (List Q3) → Int → (List Int) → Option ((List Int) × Bool)) (hrec_raddleref04_walk : D8 rec_raddleref04_walk) {x0 : List Q3} {x1 : Int} {x2 : List Int} {flx0 : Bool} {wx2 : Value} {r : (List Int) × Bool} (h : D7 K rec_raddleref04_walk x0 x1 x2 = some r) : U3 tp 103 [.sl flx0 9 (x0.map Qw), .int .i64 x1, .c (.ex wx2)] [.arrA wx2 3 1 (mI x2)] (fun γ => (.tup [.c (.ex (γ 0)), .bool r.2])) (fun γ => [.arrA (γ 0) 3 1 (mI r.1)]) := by
 refine CI 59 fu103 rfl ?_
 unfold D7 at h
 refine sR (Qr (aw rfl (aw rfl (nL (tN (T.seq (sR (Qr (mw rfl ?_)))))))))
 refine sp rfl (Lf (i := 0) (xs := x2) (f := (cI .i64)) rfl (dk rfl) Zi rfl rfl (mw rfl (oU x0 Qw Qcf rfl (oI rfl (nL (tN ?_))))))
 rcases Qg h with ⟨a, h⟩ | ⟨a, h⟩
 cases h
 refine Qo rfl a (T.skip (tN (T.seq (sR (Qr (aw rfl (nL (tN (T.block ?_)))))))))
 refine T.loop ?_
 refine Qf ?_ (Qe1 K rec_raddleref04_walk hrec_raddleref04_walk K x0 x1 (0:Int) x2 flx0 wx2 h)
 exact tq rfl rfl
theorem Qfx (K : Nat) : ∀ n, D8 (K8 K n) := by
 intro n
 induction n with
 | zero =>
  intro x0 x1 x2 flx0 wx2 r h
  exact zn h
 | succ n ih =>
  intro x0 x1 x2 flx0 wx2 r h
  exact Qfy K (K8 K n) ih h
theorem Qit (K : Nat) {x0 : List Q3} {x1 : Int} {x2 : List Int} {flx0 : Bool} {wx2 : Value} {r : (List Int) × Bool} (h : Qcq K x0 x1 x2 = some r) : U3 tp 103 [.sl flx0 9 (x0.map Qw), .int .i64 x1, .c (.ex wx2)] [.arrA wx2 3 1 (mI x2)] (fun γ => (.tup [.c (.ex (γ 0)), .bool r.2])) (fun γ => [.arrA (γ 0) 3 1 (mI r.1)]) := Qfx K K x0 x1 x2 flx0 wx2 r h
abbrev Qhj (r : Bool) : ES := Jm tp ff102 (fun y t => y = (.bool r) ∧ t = [])
abbrev Tg (r : Bool) : ES := fT 144 [1,1,1,1,1] ff102 (Qhj r)
abbrev P2 (r : Bool) : ES := Qv 0 ((Tg r))
theorem Fc {r : Bool} (K : Nat) (g j l : Bool) (x0 : Q3) (m : Bool) (n : Nat) (h : Ge K g j l x0 m = some r) : T tp 144 (ca [1,1,1,1,0,1,0,1,1,1,1,1] ff102) ⟨[(1, .ptr n 0), (3, .bool g), (4, .bool j), (5, .bool l), (23, .int .u8 x0.Op), (59, .bool m)], [(b165x13 n x0.Op x0.S.a0 x0.S.a1 x0.S.a2 x0.S.a3 x0.L x0.Lo x0.Hi x0.Name)]⟩ (P2 r) := by
 unfold Ge at h
 rcases Qg h with ⟨p, h⟩ | ⟨p, h⟩
 refine Qp rfl p (sR (Qr (mw rfl (oT rfl (mw rfl ?_)))))
 rcases Qg h with ⟨b, h⟩ | ⟨b, h⟩
 refine sn rfl b (OpT.move rfl (dk rfl) rfl (sn rfl b (OpT.not rfl (dk rfl) rfl (oY b rfl (mw rfl ?_)))))
 rcases Qg h with ⟨c, h⟩ | ⟨c, h⟩
 refine sn rfl c (OpT.move rfl (dk rfl) rfl (sn rfl c (OpT.not rfl (dk rfl) rfl (oY c rfl (mw rfl ?_)))))
 rcases Qg h with ⟨a, h⟩ | ⟨a, h⟩
 refine sn rfl a (Y1 rfl (dk rfl) M3 rfl i38 (by decide) rfl (sn rfl a (Zx (i := 0) rfl (dk rfl) Zi rfl rfl rfl rfl (sn rfl a (Z9 (xs := x0.L) (f := (cI .i64)) rfl (dk rfl) Zi rfl (sn rfl a (Zs rfl rfl (dk rfl) rfl rfl (oY a rfl (aw rfl (nL (tN ?_)))))))))))
 refine T.ret (Qy (Qs (fd rfl (by cases h; exact ⟨rfl, rfl⟩))))
 cases h
 cases h
 cases h
 cases h
theorem Qhk (K : Nat) {x0 : Q3} {r : Bool} (h : Fu K x0 = some r) : Zh tp 102 [.agg [.int .u8 x0.Op, .int .u64 x0.S.a0, .int .u64 x0.S.a1, .int .u64 x0.S.a2, .int .u64 x0.S.a3, .sl false 1 (mI x0.L), .int .i64 x0.Lo, .int .i64 x0.Hi, .str x0.Name]] [] (.bool r) := by
 refine CI 144 fu102 rfl ?_
 unfold Fu at h
 refine sR (Qr (sp rfl (Q8 rfl (dk rfl) rfl (fun p => (aw rfl (nL (tN (sR (Qr (oP M3 i63 rfl (oA 0 (Z6.dc .u64 x0.S) Qk8 i63 rfl (sp rfl (OpT.build (l := (Z6.dc .u64 (Z6.mk 0 0 0 0))) rfl (dk rfl) (Qlv Qk8 i63 i61) (Hs rfl) rfl rfl ?_)))))))))))))
 refine sp rfl (Ql7 (k := .u64) (xs := [x0.S.a0, x0.S.a1, x0.S.a2, x0.S.a3]) (ys := [(Z6.mk 0 0 0 0).a0, (Z6.mk 0 0 0 0).a1, (Z6.mk 0 0 0 0).a2, (Z6.mk 0 0 0 0).a3]) rfl (dk rfl) Qk8 ul61 i61 Tryz.eqGuardType63 rfl rfl rfl rfl rfl rfl (Qkc x0.S (Z6.mk 0 0 0 0)) (aw rfl (nL (tN (sR (Qr (oP M3 i3 rfl (oL 0 ul3 rfl (oI rfl (mw rfl ?_))))))))))
 rcases Qg h with ⟨b, h⟩ | ⟨b, h⟩
 cases h
 refine sn rfl b (Y1 rfl (dk rfl) M3 rfl i3 (by decide) rfl (sn rfl b (Zx (i := 0) rfl (dk rfl) ul3 rfl rfl rfl rfl (sn rfl b (Zs rfl rfl (dk rfl) rfl rfl (oZ b rfl (aw rfl (nL (tN (sR (Qr (oP M3 i9 rfl ?_))))))))))))
 refine oL 0 ul9 rfl (sp rfl (Ql4 rfl (dk rfl) rfl rfl (aw rfl (nL (tN (T.seq (sR (Qr (oP M3 i5 rfl ?_)))))))))
 refine oL 0 ul5 rfl (nL (tN (T.block (sR (Qr (oI rfl (aw rfl (nL (tN ?_)))))))))
 rcases Qg h with ⟨q, h⟩ | ⟨q, h⟩
 cases h
 refine Qo rfl q (sR (Qr (oI rfl (aw rfl (nL (tN ?_))))))
 rcases Qg h with ⟨j, h⟩ | ⟨j, h⟩
 refine Qp rfl j (sR (Qr (mw rfl (mw rfl ?_))))
 rcases Qg h with ⟨d, h⟩ | ⟨d, h⟩
 refine sn rfl d (OpT.move rfl (dk rfl) rfl (sn rfl d (OpT.not rfl (dk rfl) rfl (oY d rfl (mw rfl ?_)))))
 rcases Qg h with ⟨g, h⟩ | ⟨g, h⟩
 refine sn rfl g (OpT.move rfl (dk rfl) rfl (sn rfl g (OpT.not rfl (dk rfl) rfl (oY g rfl (mw rfl ?_)))))
 rcases Qg h with ⟨a, h⟩ | ⟨a, h⟩
 refine sn rfl a (Y1 rfl (dk rfl) M3 rfl i38 (by decide) rfl (sn rfl a (Zx (i := 0) rfl (dk rfl) Zi rfl rfl rfl rfl (sn rfl a (Z9 (xs := x0.L) (f := (cI .i64)) rfl (dk rfl) Zi rfl (sn rfl a (Zs rfl rfl (dk rfl) rfl rfl (oY a rfl (aw rfl (nL (tN ?_)))))))))))
 refine T.ret (Qy (Qs (fd rfl (by cases h; exact ⟨rfl, rfl⟩))))
 cases h
 cases h
 cases h
 refine Qo rfl j (T.seq (sR (Qr (oI rfl (aw rfl (nL (tN ?_)))))))
 rcases Qg h with ⟨m, h⟩ | ⟨m, h⟩
 refine Qp rfl m (T.skip (tN ?_))
 refine Ql ?_ (Fc K (!(Z6.same x0.S (Z6.mk 0 0 0 0))) (x0.Hi != (0:Int)) (!(x0.Name.toList == (⟨#[]⟩ : ByteArray).toList)) x0 (x0.Op == (3:Int)) p h)
 exact tq rfl rfl
 refine Qo rfl m (Qr (oI rfl (aw rfl (nL (tN ?_)))))
 refine Ql ?_ (Fc K (!(Z6.same x0.S (Z6.mk 0 0 0 0))) (x0.Hi != (0:Int)) (!(x0.Name.toList == (⟨#[]⟩ : ByteArray).toList)) x0 (x0.Op == (4:Int)) p h)
 exact tq rfl rfl
abbrev P4 (r : Bool) : ES := Jm tp ff64 (fun y t => y = (.bool r) ∧ t = [])
abbrev R8 (r : Bool) : ES := fT 56 [1,1,1,1,1,1] ff64 (P4 r)
abbrev Ov (r : Bool) : ES := Qv 2 ((R8 r))
abbrev Qbu (r : Bool) : ES := fT 56 [1,1,1] ff64 (P4 r)
abbrev Tm (r : Bool) : ES := Qv 0 ((Qbu r))
theorem Qdx {r : Bool} (K : Nat) : ∀ (k : Nat), ∀ (b : Int) (a : List Int) (d : Value), Gf K k b a = some r → TL tp 56 (ca [1,1,1,1,1,0,1,0,0] ff64) ⟨[(4, .c (.ex d)), (6, .int .i64 b)], [.arrA d 3 1 (mI a)]⟩ (Ov r) := by
 intro k
 induction k with
 | zero =>
  intro b a d h
  exact zn h
 | succ k ih =>
  intro b a d h
  rw [Gf] at h
  refine Q0 (T.seq (sR (Qr (mw rfl (mw rfl (sp rfl (Lf (i := 0) (xs := a) (f := (cI .i64)) rfl (dk rfl) Zi rfl rfl (oI rfl ?_))))))))
  refine nL (tN ?_)
  rcases Qg h with ⟨g, h⟩ | ⟨g, h⟩
  refine Qp rfl g (T.skip (tN (T.seq (T.block (sR (Qr (mw rfl (mw rfl ?_))))))))
  refine Uh (Zr.view 50 0 rfl rfl) ?_
  obtain ⟨l, m, h⟩ := bind_some h
  refine oX a (cI .i64) Zi i3 m rfl (oR ul3 rfl (mw rfl (oI rfl (nL (tN ?_)))))
  rcases Qg h with ⟨j, h⟩ | ⟨j, h⟩
  cases h
  refine Qo rfl j (T.skip (Qk (tN (Qr (mw rfl (oI rfl (aw rfl (nL (tN ?_)))))))))
  refine Qf ?_ (ih (wI (b + (1:Int))) a d h)
  exact tq rfl rfl
  refine Qo rfl g (T.exit (Qj (Qj (Qq (tN (sR (Qr (aw rfl (nL (tN (T.ret (fd rfl (by cases h; exact ⟨rfl, rfl⟩)))))))))))))
theorem Qdy {r : Bool} (K : Nat) : ∀ (k : Nat), ∀ (x0 : List Q3) (b : Int) (flx0 : Bool), Gg K k x0 b = some r → TL tp 56 (ca [1,1,0,1,0,0] ff64) ⟨[(0, .sl flx0 9 (x0.map Qw)), (3, .int .i64 b)], []⟩ (Tm r) := by
 intro k
 induction k with
 | zero =>
  intro x0 b flx0 h
  exact zn h
 | succ k ih =>
  intro x0 b flx0 h
  rw [Gg] at h
  refine Q0 (T.seq (sR (Qr (mw rfl (mw rfl (oU x0 Qw Qcf rfl (oI rfl ?_)))))))
  refine nL (tN ?_)
  rcases Qg h with ⟨d, h⟩ | ⟨d, h⟩
  refine Qp rfl d (T.skip (tN (T.seq (T.block (sR (Qr (mw rfl (mw rfl ?_))))))))
  obtain ⟨m, p, h⟩ := bind_some h
  refine oX x0 Qw Qcf i165 p rfl (oJ M3 i165 rfl ?_)
  obtain ⟨w, q, h⟩ := bind_some h
  refine oH fu102 (Zh.nil (Qhk K q)) rfl (oT rfl (nL (tN ?_)))
  rcases Qg h with ⟨g, h⟩ | ⟨g, h⟩
  cases h
  refine Qo rfl g (T.skip (Qk (tN (Qr (mw rfl (oI rfl (aw rfl (nL (tN ?_)))))))))
  refine Qf ?_ (ih x0 (wI (b + (1:Int))) flx0 h)
  exact tq rfl rfl
  refine Qo rfl d (T.exit (Qj (Qj (Qq (tN (sR (Qr (mw rfl (mw rfl (oU x0 Qw Qcf rfl (oI rfl ?_)))))))))))
  refine Uh (Xd 3 1) ?_
  obtain ⟨j, s, h⟩ := bind_some h
  refine sp rfl (Q9 (is := [0]) (ph := []) rfl (dk rfl) fu103 rfl rfl (Zm.cons rfl (Zm.cons rfl (Zm.cons rfl Zm.nil))) (Qit K (flx0 := flx0) (wx2 := (Qd7 10)) s) (.cons rfl rfl (.nil)) (fun _ => rfl) (fun u => (nm (.c (.n)) (mw rfl (oE rfl (oE rfl (aw rfl (aw rfl ?_))))))))
  refine nL (tN (T.seq (sR (Qr (mw rfl (oT rfl (mw rfl ?_)))))))
  rcases Qg h with ⟨a, h⟩ | ⟨a, h⟩
  cases h
  refine sn rfl a (OpT.move rfl (dk rfl) rfl (sn rfl a (Lf (i := 0) (xs := j.1) (f := (cI .i64)) rfl (dk rfl) Zi rfl rfl (sn rfl a (OpT.move rfl (dk rfl) rfl (sn rfl a (Z9 (xs := x0) (f := Qw) rfl (dk rfl) Qcf rfl (sn rfl a (Zs rfl rfl (dk rfl) rfl rfl (oZ a rfl (nL (tN ?_))))))))))))
  rcases Qg h with ⟨l, h⟩ | ⟨l, h⟩
  cases h
  refine Qo rfl l (T.skip (tN (T.seq (sR (Qr (aw rfl (nL (tN (T.block ?_)))))))))
  refine T.loop ?_
  refine Qf ?_ (Qdx K K (0:Int) j.1 (u 0) h)
  exact tq rfl rfl
theorem P5 (K : Nat) {x0 : List Q3} {flx0 r : Bool} (h : Bj K x0 = some r) : Zh tp 64 [.sl flx0 9 (x0.map Qw)] [] (.bool r) := by
 refine CI 56 fu64 rfl ?_
 unfold Bj at h
 refine sR (Qr (aw rfl (nL (tN (T.seq (sR (Qr (mw rfl (oU x0 Qw Qcf rfl ?_)))))))))
 refine oI rfl (mw rfl ?_)
 rcases Qg h with ⟨a, h⟩ | ⟨a, h⟩
 cases h
 refine sn rfl a (OpT.move rfl (dk rfl) rfl (sn rfl a (Z9 (xs := x0) (f := Qw) rfl (dk rfl) Qcf rfl (sn rfl a (Zs rfl rfl (dk rfl) rfl rfl (oZ a rfl (nL (tN ?_))))))))
 rcases Qg h with ⟨b, h⟩ | ⟨b, h⟩
 cases h
 refine Qo rfl b (T.skip (tN (T.seq (sR (Qr (aw rfl (nL (tN (T.block ?_)))))))))
 refine T.loop ?_
 refine Qf ?_ (Qdy K K x0 (0:Int) flx0 h)
 exact tq rfl rfl
abbrev Qhi (r : Bool) : ES := Jm tp ff62 (fun y t => y = (.bool r) ∧ t = [])
abbrev Qdu (r : Bool) : ES := fT 18 [1,1] ff62 (Qhi r)
abbrev Qar (r : Bool) : ES := Qv 0 ((Qdu r))
theorem Qdv {r : Bool} (K : Nat) : ∀ (k : Nat), ∀ (x0 : List Q3) (a : Int) (flx0 : Bool), Gc K k x0 a = some r → TL tp 18 (ca [1,0,1,0,0] ff62) ⟨[(0, .sl flx0 9 (x0.map Qw)), (3, .int .i64 a)], []⟩ (Qar r) := by
 intro k
 induction k with
 | zero =>
  intro x0 a flx0 h
  exact zn h
 | succ k ih =>
  intro x0 a flx0 h
  rw [Gc] at h
  refine Q0 (T.seq (sR (Qr (mw rfl (mw rfl (oU x0 Qw Qcf rfl (oI rfl ?_)))))))
  refine nL (tN ?_)
  rcases Qg h with ⟨b, h⟩ | ⟨b, h⟩
  refine Qp rfl b (T.skip (tN (T.seq (T.block (sR (Qr (mw rfl (mw rfl ?_))))))))
  obtain ⟨d, g, h⟩ := bind_some h
  refine oX x0 Qw Qcf i165 g rfl (sp rfl (Ug rfl (dk rfl) M3 rfl i5 (by decide) rfl (oR ul5 rfl (oI rfl (nL (tN ?_))))))
  rcases Qg h with ⟨c, h⟩ | ⟨c, h⟩
  refine Qp rfl c (sR (Qr (aw rfl (nL (tN (T.ret (Qy (Qs (Qs (Qy (Qs (fd rfl (by cases h; exact ⟨rfl, rfl⟩)))))))))))))
  refine Qo rfl c (T.skip (Qk (tN (Qr (mw rfl (oI rfl (aw rfl (nL (tN ?_)))))))))
  refine Qf ?_ (ih x0 (wI (a + (1:Int))) flx0 h)
  exact tq rfl rfl
  refine Qo rfl b (T.exit (Qj (Qj (Qq (tN (sR (Qr (mw rfl ?_))))))))
  obtain ⟨j, i, h⟩ := bind_some h
  refine oH fu64 (Zh.nil (P5 K (flx0 := flx0) i)) rfl (aw rfl (nL (tN (T.ret (fd rfl (by cases h; exact ⟨rfl, rfl⟩))))))
theorem P1 (K : Nat) {x0 : List Q3} {flx0 r : Bool} (h : Bg K x0 = some r) : Zh tp 62 [.sl flx0 9 (x0.map Qw)] [] (.bool r) := by
 refine CI 18 fu62 rfl ?_
 unfold Bg at h
 refine sR (Qr (aw rfl (nL (tN (T.seq (sR (Qr (aw rfl (nL (tN ?_))))))))))
 refine T.block (T.loop ?_)
 refine Qf ?_ (Qdv K K x0 (0:Int) flx0 h)
 exact tq rfl rfl
abbrev raddleref08_planner_put_q (bx0 : Nat) (r : Int × Qz) : ES := Jm tp ff101 (fun y t => ∃ γ : Nat → Value, y = (.int .i64 r.1) ∧ t = [(Qa2 bx0 r.2.l r.2.most (γ 0) r.2.long), .arrA (γ 0) 165 9 (r.2.out.map Qw)])
theorem Te (K : Nat) {x0 : Qz} {x1 : Q3} {bx0 : Nat} {wx0c2 : Value} {r : Int × Qz} (h : Ly K x0 x1 = some r) : U3 tp 101 [.ptr bx0 0, .agg [.int .u8 x1.Op, .int .u64 x1.S.a0, .int .u64 x1.S.a1, .int .u64 x1.S.a2, .int .u64 x1.S.a3, .sl false 1 (mI x1.L), .int .i64 x1.Lo, .int .i64 x1.Hi, .str x1.Name]] [(Qa2 bx0 x0.l x0.most wx0c2 x0.long), .arrA wx0c2 165 9 (x0.out.map Qw)] (fun γ => (.int .i64 r.1)) (fun γ => [(Qa2 bx0 r.2.l r.2.most (γ 0) r.2.long), .arrA (γ 0) 165 9 (r.2.out.map Qw)]) := by
 refine CI 30 fu101 rfl ?_
 unfold Ly at h
 refine sR (Qr (sp rfl (Q8 rfl (dk rfl) rfl (fun b => (aw rfl (nL (tN (T.seq (sR (Qr (mw rfl ?_)))))))))))
 refine oK rfl (oP ul123 i80 rfl (sp rfl (Zj (Zx (i := 1) rfl (dk rfl) Qcf rfl rfl rfl rfl rfl) (Ks 8 2 rfl) (oU x0.out Qw Qcf rfl (oI rfl (nL (tN ?_)))))))
 rcases Qg h with ⟨g, h⟩ | ⟨g, h⟩
 cases h
 refine Qo rfl g (T.skip (tN (T.seq (Ql Zu (Ur (gM rfl (fun _ => .f rfl) (fun _ => rfl) (gM rfl (fun _ => .f rfl) (fun _ => rfl) ?_)))))))
 refine gK rfl (fun _ => .f rfl) (fun _ => rfl) (gP rfl (fun _ => .f rfl) ul123 i80 (fun _ => rfl) (gL 2 rfl (fun _ => .f rfl) Qcf (fun _ => rfl) (gW 1 [.int .u8 x1.Op, .int .u64 x1.S.a0, .int .u64 x1.S.a1, .int .u64 x1.S.a2, .int .u64 x1.S.a3, .sl false 1 (mI x1.L), .int .i64 x1.Lo, .int .i64 x1.Hi, .str x1.Name] rfl (fun _ => .f rfl) M3 i165 (fun _ => rfl) (dC (c := ⟨some 20, .sl true 9 ([x1].map Qw), [(19, .agg [.int .u8 x1.Op, .int .u64 x1.S.a0, .int .u64 x1.S.a1, .int .u64 x1.S.a2, .int .u64 x1.S.a3, .sl false 1 (mI x1.L), .int .i64 x1.Lo, .int .i64 x1.Hi, .str x1.Name])], [], []⟩) (fun t hm => oF rfl rfl (OpT.buildSlice (elems := ([x1] : List Q3).map Qw) rfl (dk rfl) Qcf i165 (by decide) rfl (Hs rfl) (Z8 hm.s0 rfl Vx) rfl rfl (Xh rfl) (by decide) ⟨u0, rfl⟩)) (fun _ => rfl) (fun _ => rfl) ?_))))
 obtain ⟨j, h⟩ := Q6 h
 refine DGG.step (c := fun a => ⟨some 21, .c (.ex ((a 7).1 0)), [(20, .sl true 9 ([x1].map Qw)), (18, .c (.ex wx0c2))], [(3, .arrA wx0c2 165 9 (x0.out.map Qw))], [(3, .arrA ((a 7).1 0) 165 9 ((x0.out ++ [x1]).map Qw))]⟩) [7] (fun a γ' h => by simp only [h 7 (by decide)]) (fun a t hm => oF rfl rfl (Zp (i := 3) (xs := x0.out) (ys := [x1]) (f := Qw) rfl (dk rfl) Qcf i165 rfl hm.s1 hm.o0 hm.s0 j (fun w => ⟨(fun _ => w, 0), rfl⟩))) (fun a => Zg rfl rfl) (gK rfl (fun _ => .f rfl) (fun _ => rfl) (gP rfl (fun _ => .f rfl) ul123 i80 (fun _ => rfl) (DGG.step (c := fun a => ⟨none, .any, [(23, .ptr bx0 (0 + 2)), (21, .c (.ex ((a 7).1 0)))], [(2, (Qa2 bx0 x0.l x0.most wx0c2 x0.long))], [(2, (Qa2 bx0 x0.l x0.most ((a 7).1 0) x0.long))]⟩) [7] (fun a γ' h => by simp only [h 7 (by decide)]) (fun a t hm => oF rfl rfl (Wf (i := 2) (cells' := [.d (.sl false 9 (x0.l.map Qw)), .d (.int .i64 x0.most), .d (.ex ((a 7).1 0)), .d (.bool x0.long)]) rfl rfl i80 hm.s0 hm.s1 hm.o0 (nb rfl) rfl ⟨u0, rfl⟩)) (fun a => Zg rfl rfl) (gF [0,0,2,6,14,0,32,126,255,511,1023] Qx rfl (by kernel_rfl) (fun _ => by kernel_rfl) (fun a u hu => (tN (Ql hu (sR (Qr (mw rfl ?_))))))))))
 refine oK rfl (oP ul123 i80 rfl (sp rfl (Zj (Zx (i := 2) rfl (dk rfl) Qcf rfl rfl rfl rfl rfl) (Ks 27 3 rfl) (oU (x0.out ++ [x1]) Qw Qcf rfl (oI rfl (aw rfl (nL (tN ?_))))))))
 refine T.ret (Q7 (.cons _ _ _ _ (.tmp 4 _ rfl) .nil) (.cons 2 rfl (.cons 2 rfl (.nil _))) (by cases h; exact ⟨gl [(a 7).1 0], rfl, rfl⟩))
abbrev R6 (bx0 : Nat) (r : Int × Qz) : ES := Jm tp ff63 (fun y t => ∃ γ : Nat → Value, y = (.int .i64 r.1) ∧ t = [(Qa2 bx0 r.2.l r.2.most (γ 0) r.2.long), .arrA (γ 0) 165 9 (r.2.out.map Qw)])
abbrev D6 (bx0 : Nat) (r : Int × Qz) : ES := fT 47 [1,1,1,1,1,1] ff63 (R6 bx0 r)
abbrev C4 (bx0 : Nat) (r : Int × Qz) : ES := Qv 0 ((D6 bx0 r))
theorem Nq {r : Int × Qz} (K : Nat) (rec_raddleref08_planner_plan : Qz → Int → Option (Int × Qz)) (hrec_raddleref08_planner_plan : Hf rec_raddleref08_planner_plan) (bx0 : Nat) : ∀ (k : Nat), ∀ (y : Int) (aa : List Q3) (ab : Int) (ac : Bool) (ad : List Q3) (b : Int) (a : Z6) (p : List Int) (g j : Int) (m : ByteArray) (q : List Int) (w : Value) (af : Nat) (s : Value), Up K rec_raddleref08_planner_plan k y aa ab ac ad b a p g j m q = some r → TL tp 47 (ca [1,1,1,1,1,0,1,0,0] ff63) ⟨[(0, .ptr bx0 0), (5, .ptr af 0), (6, .c (.ex s)), (7, .int .i64 y)], [(Qa2 bx0 aa ab w ac), .arrA w 165 9 (ad.map Qw), (b165x13 af b a.a0 a.a1 a.a2 a.a3 p g j m), .arrA s 3 1 (mI q)]⟩ (C4 bx0 r) := by
 intro k
 induction k with
 | zero =>
  intro y aa ab ac ad b a p g j m q w af s h
  exact zn h
 | succ k ih =>
  intro y aa ab ac ad b a p g j m q w af s h
  rw [Up] at h
  refine Q0 (T.seq (sR (Qr (mw rfl (oP M3 i38 rfl (oL 2 Zi rfl (oU p (cI .i64) Zi rfl ?_)))))))
  refine oI rfl (nL (tN ?_))
  rcases Qg h with ⟨ag, h⟩ | ⟨ag, h⟩
  refine Qp rfl ag (T.skip (tN (T.seq (T.block (Qr (mw rfl (mw rfl ?_)))))))
  refine oP M3 i38 rfl (oL 2 Zi rfl (mw rfl ?_))
  obtain ⟨ai, aj, h⟩ := bind_some h
  refine oX p (cI .i64) Zi i3 aj rfl (oR ul3 rfl ?_)
  obtain ⟨u, al, h⟩ := bind_some h
  refine sp rfl (Q9 (is := [0, 1]) (ph := []) rfl (dk rfl) fu63 rfl rfl (Zm.cons rfl (Zm.cons rfl Zm.nil)) (hrec_raddleref08_planner_plan (Qz.mk aa ab ad ac) ai bx0 w _ al) (.cons rfl rfl (.cons rfl rfl (.nil))) (fun _ => rfl) (fun am => (nm (.c (.c (.c (.c (.n))))) (sp rfl (OpT.buildSlice (elems := ([u.1] : List Int).map (cI .i64)) rfl (dk rfl) Zi i3 (by decide) rfl (Hs rfl) rfl rfl rfl (Xh rfl) (by decide) ?_)))))
  obtain ⟨an, h⟩ := Q6 h
  refine sp rfl (Zp (i := 3) (xs := q) (ys := [u.1]) (f := (cI .i64)) rfl (dk rfl) Zi i3 rfl rfl rfl rfl an (fun ap => (aw rfl (nL (Qk (tN (Qr (mw rfl (oI rfl (aw rfl ?_))))))))))
  refine nL (tN ?_)
  refine Qf ?_ (ih (wI (y + (1:Int))) u.2.l u.2.most u.2.long u.2.out b a p g j m (q ++ [u.1]) (am 0) af ap h)
  exact tq rfl rfl
  refine Qo rfl ag (T.exit (Qj (Qj (Qq (tN (sR (Qr (mw rfl (oP M3 i38 rfl (sp rfl (Wf (i := 2) (cells' := [.d (.int .u8 b), .d (.int .u64 a.a0), .d (.int .u64 a.a1), .d (.int .u64 a.a2), .d (.int .u64 a.a3), .d (.ex s), .d (.int .i64 g), .d (.int .i64 j), .d (.str m)]) rfl rfl i38 rfl rfl rfl (nb rfl) rfl (nL (tN (sR (Qr ?_)))))))))))))))
  refine mw rfl (sp rfl (Zj (Iz (i := 2) (l := [.int .u8 b, .int .u64 a.a0, .int .u64 a.a1, .int .u64 a.a2, .int .u64 a.a3, .ex s, .int .i64 g, .int .i64 j, .str m]) rfl (dk rfl) M3 rfl i165 rfl rfl rfl rfl rfl) (Zt 45 (l := [.int .u8 b, .int .u64 a.a0, .int .u64 a.a1, .int .u64 a.a2, .int .u64 a.a3, .ex s, .int .i64 g, .int .i64 j, .str m]) (l' := [.int .u8 b, .int .u64 a.a0, .int .u64 a.a1, .int .u64 a.a2, .int .u64 a.a3, .sl false 1 (mI q), .int .i64 g, .int .i64 j, .str m]) (.cons (.same _) (.cons (.same _) (.cons (.same _) (.cons (.same _) (.cons (.same _) (.cons (.view 3 rfl) (.cons (.same _) (.cons (.same _) (.cons (.same _) (.refl _))))))))))) ?_))
  obtain ⟨av, aq, h⟩ := bind_some h
  refine sp rfl (Q9 (is := [0, 1]) (ph := []) rfl (dk rfl) fu101 rfl rfl (Zm.cons rfl (Zm.cons rfl Zm.nil)) (Te K (bx0 := bx0) (wx0c2 := w) aq) (.cons rfl rfl (.cons rfl rfl (.nil))) (fun _ => rfl) (fun au => (nm (.c (.c (.c (.c (.n))))) (aw rfl (nL (tN (T.ret (Q7 (.cons _ _ _ _ (.tmp 4 _ rfl) .nil) (.cons 0 rfl (.cons 0 rfl (.nil _))) (by cases h; exact ⟨gl [au 0], rfl, rfl⟩)))))))))
theorem Oq (K : Nat) (rec_raddleref08_planner_plan : Qz → Int → Option (Int × Qz)) (hrec_raddleref08_planner_plan : Hf rec_raddleref08_planner_plan) {x0 : Qz} {x1 : Int} {bx0 : Nat} {wx0c2 : Value} {r : Int × Qz} (h : He K rec_raddleref08_planner_plan x0 x1 = some r) : U3 tp 63 [.ptr bx0 0, .int .i64 x1] [(Qa2 bx0 x0.l x0.most wx0c2 x0.long), .arrA wx0c2 165 9 (x0.out.map Qw)] (fun γ => (.int .i64 r.1)) (fun γ => [(Qa2 bx0 r.2.l r.2.most (γ 0) r.2.long), .arrA (γ 0) 165 9 (r.2.out.map Qw)]) := by
 refine CI 47 fu63 rfl ?_
 unfold He at h
 refine sR (Qr (aw rfl (nL (tN (sR (Qr (mw rfl (oK rfl (oP ul123 i80 rfl (oL 0 Qcf rfl ?_))))))))))
 refine mw rfl ?_
 obtain ⟨a, j, h⟩ := bind_some h
 refine oX x0.l Qw Qcf i165 j rfl (oJ M3 i165 rfl (sp rfl (Za rfl (dk rfl) i165 rfl (fun m => (sp rfl (Qt (i := 0) (cells' := [.d (.int .u8 a.Op), .d (.int .u64 a.S.a0), .d (.int .u64 a.S.a1), .d (.int .u64 a.S.a2), .d (.int .u64 a.S.a3), .d (.sl false 1 (mI a.L)), .d (.int .i64 a.Lo), .d (.int .i64 a.Hi), .d (.str a.Name)]) rfl rfl i165 rfl rfl rfl rfl (nb rfl) rfl (nL (tN (T.seq (sR (Qr ?_)))))))))))
 refine mw rfl (oK rfl (oP ul123 i4 rfl (oL 1 ul4 rfl (nL (tN ?_)))))
 rcases Qg h with ⟨b, h⟩ | ⟨b, h⟩
 cases h
 refine Qo rfl b (T.skip (tN (T.seq (sR (Qr (oP M3 i5 rfl (oL 0 ul5 rfl (oI rfl ?_))))))))
 refine nL (tN ?_)
 rcases Qg h with ⟨g, h⟩ | ⟨g, h⟩
 cases h
 refine Qo rfl g (T.skip (tN (sR (Qr (aw rfl (nL (tN (T.seq (sR (Qr ?_))))))))))
 refine aw rfl (nL (tN (T.block (T.loop (Qf (Xd 3 1) ?_)))))
 refine Qf ?_ (Nq K rec_raddleref08_planner_plan hrec_raddleref08_planner_plan bx0 K (0:Int) x0.l x0.most x0.long x0.out a.Op a.S a.L a.Lo a.Hi a.Name [] wx0c2 m (Qd7 2) h)
 exact tr rfl (.c (.s (.s .z)) (.c (.s (.s .z)) (.c (.s .z) (.c .z (.n _)))))
theorem Oo (K : Nat) : ∀ n, Hf (U8 K n) := by
 intro n
 induction n with
 | zero =>
  intro x0 x1 bx0 wx0c2 r h
  exact zn h
 | succ n ih =>
  intro x0 x1 bx0 wx0c2 r h
  exact Oq K (U8 K n) ih h
theorem R7 (K : Nat) {x0 : Qz} {x1 : Int} {bx0 : Nat} {wx0c2 : Value} {r : Int × Qz} (h : Di K x0 x1 = some r) : U3 tp 63 [.ptr bx0 0, .int .i64 x1] [(Qa2 bx0 x0.l x0.most wx0c2 x0.long), .arrA wx0c2 165 9 (x0.out.map Qw)] (fun γ => (.int .i64 r.1)) (fun γ => [(Qa2 bx0 r.2.l r.2.most (γ 0) r.2.long), .arrA (γ 0) 165 9 (r.2.out.map Qw)]) := Oo K K x0 x1 bx0 wx0c2 r h
abbrev raddleref08_Tree_q (r : (List Q3) × Int) : ES := Jm tp ff36 (fun y t => y = (.tup [.sl false 9 (r.1.map Qw), .int .i64 r.2]) ∧ t = [])
theorem Qir (K : Nat) {x0 : List Q3} {x1 : Int} {flx0 : Bool} {r : (List Q3) × Int} (h : Nr K x0 x1 = some r) : Zh tp 36 [.sl flx0 9 (x0.map Qw), .int .i64 x1] [] (.tup [.sl false 9 (r.1.map Qw), .int .i64 r.2]) := by
 refine CI 43 fu36 rfl ?_
 unfold Nr at h
 refine sR (Qr (aw rfl (aw rfl (nL (tN (T.seq (sR (Qr (mw rfl ?_)))))))))
 obtain ⟨u, m, h⟩ := bind_some h
 refine oH fu62 (Zh.nil (P1 K (flx0 := flx0) m)) rfl (oT rfl (mw rfl ?_))
 rcases Qg h with ⟨b, h⟩ | ⟨b, h⟩
 cases h
 refine sn rfl b (OpT.move rfl (dk rfl) rfl (sn rfl b (Zs rfl rfl (dk rfl) rfl rfl (oZ b rfl (mw rfl ?_)))))
 rcases Qg h with ⟨d, h⟩ | ⟨d, h⟩
 cases h
 refine sn rfl d (OpT.move rfl (dk rfl) rfl (sn rfl d (Zs rfl rfl (dk rfl) rfl rfl (oZ d rfl (nL (tN ?_))))))
 rcases Qg h with ⟨g, h⟩ | ⟨g, h⟩
 cases h
 refine Qo rfl g (T.skip (tN (sR (Qr (mw rfl (mw rfl (sp rfl (Zj (OpT.build (l := [.sl flx0 9 (x0.map Qw), .int .i64 x1, .ex (.slice none 0 0), .bool false]) rfl (dk rfl) (Zk (pl := [(0, 1), (1, 1), (2, 1), (3, 1)]) ul123 i123 rfl) (Hs rfl) rfl rfl rfl) (Zt 20 (l := [.sl flx0 9 (x0.map Qw), .int .i64 x1, .ex (.slice none 0 0), .bool false]) (l' := [.sl false 9 (x0.map Qw), .int .i64 x1, .ex (.slice none 0 0), .bool false]) (.cons (.full _ _ _) (.cons (.same _) (.cons (.same _) (.cons (.same _) (.refl _)))))) (sp rfl (Q8 rfl (dk rfl) rfl (fun p => ?_)))))))))))
 refine aw rfl (nL (tN (sR (Qr (mw rfl (mw rfl (oU x0 Qw Qcf rfl (oI rfl (Uh (Xd 165 9) ?_)))))))))
 obtain ⟨v, q, h⟩ := bind_some h
 refine sp rfl (Q9 (is := [1, 0]) (ph := []) rfl (dk rfl) fu63 rfl rfl (Zm.cons rfl (Zm.cons rfl Zm.nil)) (R7 K (bx0 := p) (wx0c2 := (Qd7 5)) q) (.cons rfl rfl (.cons rfl rfl (.nil))) (fun _ => rfl) (fun w => (nm (.c (.c (.n))) (nL (tN (T.seq (sR (Qr (mw rfl (oK rfl ?_))))))))))
 refine oP ul123 i4 rfl (oL 1 ul4 rfl (mw rfl ?_))
 rcases Qg h with ⟨a, h⟩ | ⟨a, h⟩
 cases h
 refine sn rfl a (OpT.move rfl (dk rfl) rfl (sn rfl a (OpT.nilCheck rfl (dk rfl) rfl rfl (sn rfl a (Y1 rfl (dk rfl) ul123 rfl i80 (by decide) rfl (sn rfl a (Zj (Zx (i := 1) rfl (dk rfl) Qcf rfl rfl rfl rfl rfl) (Ks 35 0 rfl) ?_)))))))
 obtain ⟨y, s, h⟩ := bind_some h
 refine sn rfl a (Vt rfl (dk rfl) fu64 rfl rfl (Zm.cons rfl Zm.nil) (Zh.nil (P5 K (flx0 := false) s)) (sn rfl a (OpT.not rfl (dk rfl) rfl (oZ a rfl (nL (tN ?_))))))
 rcases Qg h with ⟨j, h⟩ | ⟨j, h⟩
 cases h
 refine Qo rfl j (T.skip (tN (sR (Qr (mw rfl (oK rfl (oP ul123 i80 rfl (oL 1 Qcf rfl ?_))))))))
 refine aw rfl (aw rfl (nL (tN (T.ret (Yw (Zr.view 4 0 rfl rfl) (Fin.done (.cons _ _ _ _ (.tmp 4 _ rfl) (.cons _ _ _ _ (.tmp 5 _ rfl) .nil)) (by cases h; exact ⟨rfl, rfl⟩)))))))
abbrev Qiq (r : List Int) : ES := Jm tp ff67 (fun y t => y = (.sl false 1 (mI r)) ∧ t = [])
abbrev Qaq (r : List Int) : ES := fT 75 [1,1,1,1,1] ff67 (Qiq r)
abbrev Bs (r : List Int) : ES := Qv 0 ((Qaq r))
abbrev Ta (r : List Int) : ES := fL 75 [1,1,1,1,0,0,0] ff67 (Bs r)
abbrev Pz (r : List Int) : ES := fT 75 [1,1,1,1,0,0,0,1] ff67 (Ta r)
abbrev Iu (r : List Int) (go : (List Int) → (List Int) → Int → Int → (List Int) → Option (List Int)) : Prop := ∀ (x0 x1 : List Int) (a b : Int) (d : List Int) (flx0 flx1 : Bool) (f : Value), go x0 x1 a b d = some r → TL tp 75 (ca [1,1,1,1,0,0,0] ff67) ⟨[(0, .sl flx0 1 (mI x0)), (1, .sl flx1 1 (mI x1)), (5, .c (.ex f)), (6, .int .i64 a), (7, .int .i64 b)], [.arrA f 3 1 (mI d)]⟩ (Bs r)
theorem Iv {r : List Int} (K : Nat) (go0 : (List Int) → (List Int) → Int → Int → (List Int) → Option (List Int)) (hgo0 : Iu r go0) (x0 x1 : List Int) (a d : Int) (m : List Int) (flx0 flx1 : Bool) (p : Value) (h : Lx K go0 x0 x1 a d m = some r) : T tp 75 (ca [1,1,1,1,0,0,0,0,1,0] ff67) ⟨[(0, .sl flx0 1 (mI x0)), (1, .sl flx1 1 (mI x1)), (5, .c (.ex p)), (6, .int .i64 a), (7, .int .i64 d)], [.arrA p 3 1 (mI m)]⟩ (Pz r) := by
 unfold Lx at h
 refine T.skip (tN (T.block (T.seq (Zy (dV rfl rfl (dV rfl rfl (dN x1 (cI .i64) rfl (.f rfl) Zi rfl ?_)))))))
 refine dI rfl (.f rfl) rfl (dV rfl rfl ?_)
 rcases Qg h with ⟨l, h⟩ | ⟨l, h⟩
 cases h
 refine dM rfl (.n l rfl) rfl (dM rfl (.n l rfl) rfl (dN x0 (cI .i64) rfl (.n l rfl) Zi rfl (dI rfl (.n l rfl) rfl (dM rfl (.n l rfl) rfl ?_))))
 rcases Qg h with ⟨b, h⟩ | ⟨b, h⟩
 refine dM rfl (.n b rfl) rfl (dM rfl (.n b rfl) rfl ?_)
 obtain ⟨g, s, h⟩ := bind_some h
 refine dX x0 (cI .i64) rfl (.n b rfl) Zi i3 s rfl (dR rfl (.n b rfl) ul3 rfl (dM rfl (.n b rfl) rfl (dM rfl (.n b rfl) rfl ?_)))
 obtain ⟨j, y, h⟩ := bind_some h
 refine dX x1 (cI .i64) rfl (.n b rfl) Zi i3 y rfl (dR rfl (.n b rfl) ul3 rfl (dI rfl (.n b rfl) rfl (dY rfl (.n l rfl) b rfl (dZ rfl (.f rfl) l rfl (dF [0,0,2,7,15,31,31,95,255,511,1023,1023,4095,8191,1023,1023,50175,115711,262143,524287,1048575] Qx rfl (by kernel_rfl) (fun u hu => (tN (Ql hu ?_))))))))
 rcases Qg h with ⟨w, h⟩ | ⟨w, h⟩
 refine Qp rfl w (sR (Qr ?_))
 iterate 3 refine mw rfl ?_
 refine oX x0 (cI .i64) Zi i3 s rfl (oR ul3 rfl (sp rfl (OpT.buildSlice (elems := ([g] : List Int).map (cI .i64)) rfl (dk rfl) Zi i3 (by decide) rfl (Hs rfl) rfl rfl rfl (Xh rfl) (by decide) ?_)))
 obtain ⟨aa, h⟩ := Q6 h
 refine sp rfl (Zp (i := 0) (xs := m) (ys := [g]) (f := (cI .i64)) rfl (dk rfl) Zi i3 rfl rfl rfl rfl aa (fun ab => (aw rfl (nL (tN (Qr (mw rfl (oI rfl (aw rfl ?_)))))))))
 refine nL (Qk (tN ?_))
 refine Qf ?_ (hgo0 x0 x1 (wI (a + (1:Int))) d (m ++ [g]) flx0 flx1 ab h)
 exact tq rfl rfl
 cases h
 refine dO b rfl rfl (dO b rfl rfl (dO b rfl rfl (dO b rfl rfl (dO b rfl rfl (dO b rfl rfl (dO b rfl rfl ?_))))))
 refine dO b rfl rfl (dO b rfl rfl (dZ rfl (.n l rfl) b rfl (dZ rfl (.f rfl) l rfl (dF [0,0,2,7,15,31,31,95,255,511,1023,1023,4095,8191,1023,1023,50175,115711,262143,524287,1048575] Qx rfl (by kernel_rfl) (fun u hu => (tN (Ql hu (Qo rfl rfl (T.seq ?_)))))))))
 refine T.seq (Zy (dV rfl rfl (dV rfl rfl (dN x0 (cI .i64) rfl (.f rfl) Zi rfl (dI rfl (.f rfl) rfl (dV rfl rfl ?_))))))
 refine dO b rfl rfl (dO b rfl rfl (dO b rfl rfl (dO b rfl rfl (dO b rfl rfl (dO b rfl rfl (dO b rfl rfl ?_))))))
 refine dO b rfl rfl (dO b rfl rfl (dZ rfl (.f rfl) b rfl (dF [0,0,2,7,15,31,31,127,255,31,31,1567,3615,8191,16383] Qx rfl (by kernel_rfl) (fun u hu => (tN (Ql hu (Qo rfl rfl (T.skip (tN (sR (Qr ?_)))))))))))
 iterate 3 refine mw rfl ?_
 obtain ⟨q, ac, h⟩ := bind_some h
 refine oX x1 (cI .i64) Zi i3 ac rfl (oR ul3 rfl (sp rfl (OpT.buildSlice (elems := ([q] : List Int).map (cI .i64)) rfl (dk rfl) Zi i3 (by decide) rfl (Hs rfl) rfl rfl rfl (Xh rfl) (by decide) ?_)))
 obtain ⟨ad, h⟩ := Q6 h
 refine sp rfl (Zp (i := 0) (xs := m) (ys := [q]) (f := (cI .i64)) rfl (dk rfl) Zi i3 rfl rfl rfl rfl ad (fun af => (aw rfl (nL (tN (Qr (mw rfl (oI rfl (aw rfl ?_)))))))))
 refine nL (Qk (tN ?_))
 refine Qf ?_ (hgo0 x0 x1 a (wI (d + (1:Int))) (m ++ [q]) flx0 flx1 af h)
 exact tq rfl rfl
theorem Qe0 {r : List Int} (K : Nat) : ∀ (k : Nat), Iu r (V6 K k) := by
 intro k
 induction k with
 | zero =>
  intro x0 x1 b d g flx0 flx1 i h
  exact zn h
 | succ k ih =>
  intro x0 x1 b d g flx0 flx1 i h
  rw [V6] at h
  refine Q0 (T.seq (sR (Qr (mw rfl (mw rfl (oU x0 (cI .i64) Zi rfl (oI rfl ?_)))))))
  refine mw rfl ?_
  rcases Qg h with ⟨a, h⟩ | ⟨a, h⟩
  refine pf rfl a (pf rfl a (pf rfl a (pf rfl a (oY a rfl (nL (tN (Qp rfl rfl ?_)))))))
  refine Ql ?_ (Iv K (V6 K k) ih x0 x1 b d g flx0 flx1 i h)
  exact tq rfl rfl
  refine sn rfl a (OpT.move rfl (dk rfl) rfl (sn rfl a (OpT.move rfl (dk rfl) rfl (sn rfl a (Z9 (xs := x1) (f := (cI .i64)) rfl (dk rfl) Zi rfl (sn rfl a (Zs rfl rfl (dk rfl) rfl rfl (oZ a rfl (nL (tN ?_))))))))))
  rcases Qg h with ⟨j, h⟩ | ⟨j, h⟩
  refine Qp rfl j ?_
  refine Ql ?_ (Iv K (V6 K k) ih x0 x1 b d g flx0 flx1 i h)
  exact tq rfl rfl
  refine Qo rfl j (T.exit (Qj (Qj (Qq (tN (sR (Qr (mw rfl (aw rfl (nL (tN (T.ret ?_))))))))))))
  refine Yw (Zr.view 4 0 rfl rfl) (fd rfl (by cases h; exact ⟨rfl, rfl⟩))
theorem Ho (K : Nat) {x0 x1 : List Int} {flx0 flx1 : Bool} {r : List Int} (h : J8 K x0 x1 = some r) : Zh tp 67 [.sl flx0 1 (mI x0), .sl flx1 1 (mI x1)] [] (.sl false 1 (mI r)) := by
 refine CI 75 fu67 rfl ?_
 unfold J8 at h
 refine sR (Qr (aw rfl (nL (tN (sR (Qr (aw rfl (nL (tN (sR (Qr (aw rfl (nL (tN (sR (Qr ?_))))))))))))))))
 refine aw rfl (nL (tN (T.seq (T.block (T.loop (Qf (Xd 3 1) ?_))))))
 refine Qf ?_ (Qe0 K K x0 x1 (0:Int) (0:Int) [] flx0 flx1 (Qd7 2) h)
 exact tq rfl rfl
abbrev R4 (bx0 : Nat) (r : Qn) : ES := Jm tp ff107 (fun y t => ∃ γ : Nat → Value, y = (.tup []) ∧ t = [(Ld bx0 (γ 0)), .arrX (γ 0) 65 9 0 (r.p.map Q1)])
abbrev Nn (bx0 : Nat) (r : Qn) : ES := Qv 0 ((R4 bx0 r))
theorem No {r : Qn} (K bx0 : Nat) : ∀ (k : Nat), ∀ (x1 x2 : List Int) (l : Int) (j : List Zz) (flx1 flx2 : Bool) (a : Value), Uo K k x1 x2 l j = some r → TL tp 36 (ca [1,0,0] ff107) ⟨[(0, .ptr bx0 0), (1, .sl flx1 1 (mI x1)), (2, .sl flx2 1 (mI x2)), (6, .int .i64 l)], [(Ld bx0 a), .arrX a 65 9 0 (j.map Q1)]⟩ (Nn bx0 r) := by
 intro k
 induction k with
 | zero =>
  intro x1 x2 l j flx1 flx2 a h
  exact zn h
 | succ k ih =>
  intro x1 x2 l j flx1 flx2 a h
  rw [Uo] at h
  refine Q0 (T.seq (sR (Qr (mw rfl (mw rfl (oU x1 (cI .i64) Zi rfl (oI rfl ?_)))))))
  refine nL (tN ?_)
  rcases Qg h with ⟨q, h⟩ | ⟨q, h⟩
  refine Qp rfl q (T.skip (tN (T.seq (T.block (Zy (dV rfl rfl (dK rfl (.f rfl) rfl ?_)))))))
  refine dP rfl (.f rfl) ul126 i41 rfl (dL 0 rfl (.f rfl) Qcg rfl (dV rfl rfl (dV rfl rfl ?_)))
  obtain ⟨g, s, h⟩ := bind_some h
  refine dX x1 (cI .i64) rfl (.f rfl) Zi i3 s rfl (dR rfl (.f rfl) ul3 rfl (dV rfl rfl (dK rfl (.f rfl) rfl (dP rfl (.f rfl) ul126 i41 rfl (dL 0 rfl (.f rfl) Qcg rfl (dV rfl rfl ?_))))))
  refine dV rfl rfl (dX x1 (cI .i64) rfl (.f rfl) Zi i3 s rfl (dR rfl (.f rfl) ul3 rfl ?_))
  obtain ⟨b, p, h⟩ := bind_some h
  refine dS (c := ⟨some 29, .el a 9 (Int.toNat g) 0, [(24, .c (.ex a)), (28, .int .i64 g)], [(1, .arrX a 65 9 0 (j.map Q1))], []⟩) (fun t hm => oF rfl rfl (Zc (n := 1) (xs := j) (f := Q1) (old := b) rfl (dk rfl) Qcg i65 hm.s0 hm.o0 hm.s1 p rfl)) rfl rfl (dS (c := ⟨some 30, .el a 9 (Int.toNat g) 8, [(29, .el a 9 (Int.toNat g) 0)], [], []⟩) (fun t hm => oF rfl rfl (Da rfl (dk rfl) ul65 rfl i38 (by decide) hm.s0 rfl)) rfl rfl (dS (c := ⟨some 31, .sl false 1 (mI b.Next), [(30, .el a 9 (Int.toNat g) 8)], [(1, .arrX a 65 9 0 (j.map Q1))], []⟩) (fun t hm => oF rfl rfl (X1 (i := 1) (xs := j) (f := Q1) (old := b) rfl (dk rfl) Zi rfl hm.s0 hm.o0 (Zd p).2 rfl rfl)) rfl rfl (dV rfl rfl ?_)))
  obtain ⟨m, w, h⟩ := bind_some h
  refine dH fu67 (Zh.nil (Ho K (flx0 := false) (flx1 := flx2) w)) rfl (.f rfl) rfl (dS (c := ⟨some 34, .el a 9 (Int.toNat g) 0, [(16, .c (.ex a)), (20, .int .i64 g)], [(1, .arrX a 65 9 0 (j.map Q1))], []⟩) (fun t hm => oF rfl rfl (Zc (n := 1) (xs := j) (f := Q1) (old := b) rfl (dk rfl) Qcg i65 hm.s0 hm.o0 hm.s1 p rfl)) rfl rfl (dS (c := ⟨some 35, .el a 9 (Int.toNat g) 8, [(34, .el a 9 (Int.toNat g) 0)], [], []⟩) (fun t hm => oF rfl rfl (Da rfl (dk rfl) ul65 rfl i38 (by decide) hm.s0 rfl)) rfl rfl (dS (c := ⟨none, .any, [(35, .el a 9 (Int.toNat g) 8), (33, .sl false 1 (mI m))], [(1, .arrX a 65 9 0 (j.map Q1))], [(1, .arrX a 65 9 0 ((List.set j (Int.toNat g) (Zz.mk b.S b.Lo b.Hi b.Rule b.Last m)).map Q1))]⟩) (fun t hm => oF rfl rfl (Yr (i := 1) (xs := j) (f := Q1) (old := b) (new := (Zz.mk b.S b.Lo b.Hi b.Rule b.Last m)) rfl rfl i38 hm.s0 hm.s1 hm.o0 (Zd p).2 (Qmm _) (nb rfl) rfl rfl)) rfl rfl (dF [0,1,3,7,0,0,48,112,0,256,768,1792,0,0,12288,28672,65280,130816,261888,0,1048320,2097151,4194303,8388607] Qx rfl (by kernel_rfl) (fun u hu => (Qk (tN (Ql hu (Qr (mw rfl ?_))))))))))
  refine oI rfl (aw rfl (nL (tN ?_)))
  refine Qf ?_ (ih x1 x2 (wI (l + (1:Int))) (List.set j (Int.toNat g) (Zz.mk b.S b.Lo b.Hi b.Rule b.Last m)) flx1 flx2 a h)
  exact tq rfl rfl
  refine Qo rfl q (T.exit (Qj (Qj (Qq (Q7 (.nil) (.cons 0 rfl (.cons 0 rfl (.nil _))) (by cases h; exact ⟨gl [a], rfl, rfl⟩))))))
theorem R5 (K : Nat) {x0 : Qn} {x1 x2 : List Int} {bx0 : Nat} {wx0c0 : Value} {flx1 flx2 : Bool} {r : Qn} (h : G2 K x0 x1 x2 = some r) : U3 tp 107 [.ptr bx0 0, .sl flx1 1 (mI x1), .sl flx2 1 (mI x2)] [(Ld bx0 wx0c0), .arrX wx0c0 65 9 0 (x0.p.map Q1)] (fun γ => (.tup [])) (fun γ => [(Ld bx0 (γ 0)), .arrX (γ 0) 65 9 0 (r.p.map Q1)]) := by
 refine CI 36 fu107 rfl ?_
 unfold G2 at h
 refine sR (Qr (aw rfl (nL (tN (T.block (T.loop ?_))))))
 refine Qf ?_ (No K bx0 K x1 x2 (0:Int) x0.p flx1 flx2 wx0c0 h)
 exact tq rfl rfl
abbrev S8 (bx0 : Nat) (r : Qu × Qn) : ES := Jm tp ff106 (fun y t => ∃ γ : Nat → Value, y = (.agg [.bool r.1.null, .sl false 1 (mI r.1.first), .sl false 1 (mI r.1.last)]) ∧ t = [(Ld bx0 (γ 0)), .arrX (γ 0) 65 9 0 (r.2.p.map Q1)])
abbrev Np (bx0 : Nat) (r : Qu × Qn) : ES := fT 52 [1,1,1] ff106 (S8 bx0 r)
abbrev G3 (bx0 : Nat) (r : Qu × Qn) : ES := Qv 0 ((Np bx0 r))
abbrev Fq (bx0 : Nat) (r : Qu × Qn) : ES := fL 52 [1,1,0,1,0,0] ff106 (G3 bx0 r)
abbrev Dv (bx0 : Nat) (r : Qu × Qn) : ES := fT 52 [1,1,0,1,0,0,1,1] ff106 (Fq bx0 r)
abbrev Bb (bx0 : Nat) (r : Qu × Qn) : ES := Qv 1 ((Dv bx0 r))
abbrev K6 (bx0 : Nat) (r : Qu × Qn) (go : (List Qu) → Int → (List Zz) → Bool → (List Int) → (List Int) → Option (Qu × Qn)) : Prop := ∀ (x1 : List Qu) (a : Int) (b : List Zz) (c : Bool) (f g : List Int) (flx1 : Bool) (i : Value) (j l : Nat), go x1 a b c f g = some r → TL tp 52 (ca [1,1,0,1,0,0] ff106) ⟨[(0, .ptr bx0 0), (1, .sl flx1 3 (x1.map Zq)), (4, .ptr j 0), (5, .ptr l 0), (6, .int .i64 a)], [(Ld bx0 i), .arrX i 65 9 0 (b.map Q1), (o128 j false (.slice none 0 0) (.slice none 0 0)), (Tt l c f g)]⟩ (G3 bx0 r)
theorem K7 {r : Qu × Qn} (K bx0 : Nat) (go0 : (List Qu) → Int → (List Zz) → Bool → (List Int) → (List Int) → Option (Qu × Qn)) (hgo0 : K6 bx0 r go0) (x1 : List Qu) (g : Int) (j : List Zz) (s : Bool) (a u : List Int) (l : Bool) (v b : List Int) (flx1 : Bool) (m : Value) (p q w : Nat) (h : U7 K go0 x1 g j s a u l v b = some r) : T tp 52 (ca [1,1,0,1,0,0,1,0,0,1,1,1] ff106) ⟨[(0, .ptr bx0 0), (1, .sl flx1 3 (x1.map Zq)), (4, .ptr p 0), (5, .ptr q 0), (6, .int .i64 g), (7, .ptr w 0)], [(Ld bx0 m), .arrX m 65 9 0 (j.map Q1), (o128 p false (.slice none 0 0) (.slice none 0 0)), (Tt q s a u), (Tt w l v b)]⟩ (Bb bx0 r) := by
 unfold U7 at h
 refine T.seq (sR (Qr (oP Mb i4 rfl (oL 4 ul4 rfl (nL (tN ?_))))))
 rcases Qg h with ⟨y, h⟩ | ⟨y, h⟩
 cases h
 refine Qo rfl y (Qr (oP Mb i38 rfl (oL 4 Zi rfl (oP Mb i38 rfl (sp rfl (Wf (i := 3) (cells' := [.d (.bool s), .d (.sl false 1 (mI a)), .d (.sl false 1 (mI b))]) rfl rfl i38 rfl rfl rfl (nb rfl) rfl (nL (tN ?_))))))))
 refine Qr (oP Mb i4 rfl (oL 3 ul4 rfl (mw rfl ?_)))
 rcases Qg h with ⟨f, h⟩ | ⟨f, h⟩
 refine sn rfl f (Y1 rfl (dk rfl) Mb rfl i4 (by decide) rfl (sn rfl f (Zx (i := 4) rfl (dk rfl) ul4 rfl rfl rfl rfl (oY f rfl (oP Mb i4 rfl (sp rfl (Wf (i := 3) (cells' := [.d (.bool l), .d (.sl false 1 (mI a)), .d (.sl false 1 (mI b))]) rfl rfl i4 rfl rfl rfl (nb rfl) rfl (nL (Qk (tN (Qr ?_)))))))))))
 refine mw rfl (oI rfl (aw rfl (nL (tN ?_))))
 refine Qf ?_ (hgo0 x1 (wI (g + (1:Int))) j l a b flx1 m p q h)
 exact tq rfl rfl
 refine pf rfl f (pf rfl f (oZ f rfl (oP Mb i4 rfl (sp rfl (Wf (i := 3) (cells' := [.d (.bool false), .d (.sl false 1 (mI a)), .d (.sl false 1 (mI b))]) rfl rfl i4 rfl rfl rfl (nb rfl) rfl (nL (Qk (tN (Qr ?_)))))))))
 refine mw rfl (oI rfl (aw rfl (nL (tN ?_))))
 refine Qf ?_ (hgo0 x1 (wI (g + (1:Int))) j false a b flx1 m p q h)
 exact tq rfl rfl
theorem Om {r : Qu × Qn} (K bx0 : Nat) : ∀ (k : Nat), K6 bx0 r (Yq K k) := by
 intro k
 induction k with
 | zero =>
  intro x1 m ag b j g flx1 q u w h
  exact zn h
 | succ k ih =>
  intro x1 m ag b j g flx1 q u w h
  rw [Yq] at h
  refine Q0 (T.seq (sR (Qr (mw rfl (mw rfl (oU x1 Zq ul171 rfl (oI rfl ?_)))))))
  refine nL (tN ?_)
  rcases Qg h with ⟨y, h⟩ | ⟨y, h⟩
  refine Qp rfl y (T.skip (tN (T.seq (T.block (sR (Qr (mw rfl (mw rfl ?_))))))))
  obtain ⟨a, ai, h⟩ := bind_some h
  refine oX x1 Zq ul171 i128 ai rfl (oJ Mb i128 rfl (sp rfl (Za rfl (dk rfl) i128 rfl (fun ab => (sp rfl (Qt (i := 0) (cells' := [.d (.bool a.null), .d (.sl false 1 (mI a.first)), .d (.sl false 1 (mI a.last))]) rfl rfl i128 rfl rfl rfl rfl (nb rfl) rfl (nL (tN (sR (Qr (mw rfl (oP Mb i38 rfl ?_))))))))))))
  refine oL 4 Zi rfl (oP Mb i38 rfl (oL 0 Zi rfl ?_))
  obtain ⟨ac, aj, h⟩ := bind_some h
  refine sp rfl (Q9 (is := [1, 2]) (ph := []) rfl (dk rfl) fu107 rfl rfl (Zm.cons rfl (Zm.cons rfl (Zm.cons rfl Zm.nil))) (R5 K (bx0 := bx0) (wx0c0 := q) (flx1 := false) (flx2 := false) aj) (.cons rfl rfl (.cons rfl rfl (.nil))) (fun _ => rfl) (fun ad => (nm (.c (.c (.c (.c (.c (.n)))))) (nL (tN (T.seq (sR (Qr (oP Mb i4 rfl (oL 4 ul4 rfl ?_))))))))))
  refine nL (tN ?_)
  rcases Qg h with ⟨aa, h⟩ | ⟨aa, h⟩
  refine Qp rfl aa (Qr (oP Mb i38 rfl (oL 4 Zi rfl (oP Mb i38 rfl (oL 0 Zi rfl ?_)))))
  obtain ⟨af, al, h⟩ := bind_some h
  refine oH fu67 (Zh.nil (Ho K (flx0 := false) (flx1 := false) al)) rfl (oP Mb i38 rfl (sp rfl (Wf (i := 4) (cells' := [.d (.bool b), .d (.sl false 1 (mI af)), .d (.sl false 1 (mI g))]) rfl rfl i38 rfl rfl rfl (nb rfl) rfl (nL (tN ?_)))))
  refine Ql ?_ (K7 K bx0 (Yq K k) ih x1 m ac.p b af g a.null a.first a.last flx1 (ad 0) u w ab h)
  exact tr rfl (.c (.s .z) (.c (.s .z) (.c (.s .z) (.c (.s .z) (.c .z (.n _))))))
  refine Qo rfl aa (T.skip (tN ?_))
  refine Ql ?_ (K7 K bx0 (Yq K k) ih x1 m ac.p b j g a.null a.first a.last flx1 (ad 0) u w ab h)
  exact tr rfl (.c (.s .z) (.c (.s .z) (.c (.s .z) (.c (.s .z) (.c .z (.n _))))))
  refine Qo rfl y (T.exit (Qj (Qj (Qq (tN (sR (Qr (oA 3 [.bool b, .sl false 1 (mI j), .sl false 1 (mI g)] Mb i128 rfl (sp rfl (Qt (i := 2) (cells' := [.d (.bool b), .d (.sl false 1 (mI j)), .d (.sl false 1 (mI g))]) rfl rfl i128 rfl rfl rfl rfl (nb rfl) rfl (nL (tN (T.ret ?_)))))))))))))
  exact Q7 (.cons _ _ _ _ (.cellAgg 4 128 _ 0 2 128 _ [.bool b, .sl false 1 (mI j), .sl false 1 (mI g)] _ _ 3 _ rfl rfl rfl rfl Mb rfl i128) .nil) (.cons 0 rfl (.cons 0 rfl (.nil _))) (by cases h; exact ⟨gl [q], rfl, rfl⟩)
theorem S9 (K : Nat) {x0 : Qn} {x1 : List Qu} {bx0 : Nat} {wx0c0 : Value} {flx1 : Bool} {r : Qu × Qn} (h : Lw K x0 x1 = some r) : U3 tp 106 [.ptr bx0 0, .sl flx1 3 (x1.map Zq)] [(Ld bx0 wx0c0), .arrX wx0c0 65 9 0 (x0.p.map Q1)] (fun γ => (.agg [.bool r.1.null, .sl false 1 (mI r.1.first), .sl false 1 (mI r.1.last)])) (fun γ => [(Ld bx0 (γ 0)), .arrX (γ 0) 65 9 0 (r.2.p.map Q1)]) := by
 refine CI 52 fu106 rfl ?_
 unfold Lw at h
 refine sR (Qr (sp rfl (Za rfl (dk rfl) i128 rfl (fun a => (nL (tN (sR (Qr (sp rfl (Zj (OpT.build (l := [.bool true, .ex (.slice none 0 0), .ex (.slice none 0 0)]) rfl (dk rfl) (Zk (pl := [(0, 1), (1, 1), (2, 1)]) Mb i128 rfl) (Hs rfl) rfl rfl rfl) (Zt 8 (l := [.bool true, .ex (.slice none 0 0), .ex (.slice none 0 0)]) (l' := [.bool true, .sl false 1 (([] : List Int).map (cI .i64)), .sl false 1 (([] : List Int).map (cI .i64))]) (.cons (.same _) (.cons (.nil _ _) (.cons (.nil _ _) (.refl _))))) (sp rfl (Za rfl (dk rfl) i128 rfl (fun b => (sp rfl (Qt (i := 0) (cells' := [.d (.bool true), .d (.sl false 1 (([] : List Int).map (cI .i64))), .d (.sl false 1 (([] : List Int).map (cI .i64)))]) rfl rfl i128 rfl rfl rfl rfl (nb rfl) rfl (nL (tN ?_)))))))))))))))))
 refine T.seq (sR (Qr (aw rfl (nL (tN (T.block (T.loop ?_)))))))
 refine Qf ?_ (Om K bx0 K x1 (0:Int) x0.p true [] [] flx1 wx0c0 a b h)
 exact tr rfl (.c (.s (.s .z)) (.c (.s (.s .z)) (.c (.s .z) (.c .z (.n _)))))
abbrev raddleref09_builder_put_q (bx0 : Nat) (r : Qu × Qn) : ES := Jm tp ff105 (fun y t => ∃ γ : Nat → Value, y = (.agg [.bool r.1.null, .sl false 1 (mI r.1.first), .sl false 1 (mI r.1.last)]) ∧ t = [(Ld bx0 (γ 0)), .arrX (γ 0) 65 9 0 (r.2.p.map Q1)])
theorem S7 (K : Nat) {x0 : Qn} {x1 : Zz} {bx0 : Nat} {wx0c0 : Value} {r : Qu × Qn} (h : Lv K x0 x1 = some r) : U3 tp 105 [.ptr bx0 0, .agg [.int .u64 x1.S.a0, .int .u64 x1.S.a1, .int .u64 x1.S.a2, .int .u64 x1.S.a3, .int .i64 x1.Lo, .int .i64 x1.Hi, .int .i64 x1.Rule, .bool x1.Last, .sl false 1 (mI x1.Next)]] [(Ld bx0 wx0c0), .arrX wx0c0 65 9 0 (x0.p.map Q1)] (fun γ => (.agg [.bool r.1.null, .sl false 1 (mI r.1.first), .sl false 1 (mI r.1.last)])) (fun γ => [(Ld bx0 (γ 0)), .arrX (γ 0) 65 9 0 (r.2.p.map Q1)]) := by
 refine CI 26 fu105 rfl ?_
 unfold Lv at h
 refine sR (Qr (sp rfl (Q8 rfl (dk rfl) rfl (fun b => (sp rfl (Za rfl (dk rfl) i128 rfl (fun g => (nL (tN (T.seq (Ql (Ht 0 (l := [.bool false, .ex (.slice none 0 0), .ex (.slice none 0 0)]) (l' := [.bool false, .sl false 1 (([] : List Int).map (cI .i64)), .sl false 1 (([] : List Int).map (cI .i64))]) rfl (.cons (.same _) (.cons (.nil _ _) (.cons (.nil _ _) (.refl _))))) (Ql Zu ?_))))))))))))
 refine Ur (gM rfl (fun _ => .f rfl) (fun _ => rfl) (gM rfl (fun _ => .f rfl) (fun _ => rfl) (gK rfl (fun _ => .f rfl) (fun _ => rfl) (gP rfl (fun _ => .f rfl) ul126 i41 (fun _ => rfl) (gL 3 rfl (fun _ => .f rfl) Qcg (fun _ => rfl) (gW 2 [.int .u64 x1.S.a0, .int .u64 x1.S.a1, .int .u64 x1.S.a2, .int .u64 x1.S.a3, .int .i64 x1.Lo, .int .i64 x1.Hi, .int .i64 x1.Rule, .bool x1.Last, .sl false 1 (mI x1.Next)] rfl (fun _ => .f rfl) ul65 i65 (fun _ => rfl) ?_))))))
 refine dC (c := ⟨some 12, .sl true 9 ([x1].map Q1), [(11, .agg [.int .u64 x1.S.a0, .int .u64 x1.S.a1, .int .u64 x1.S.a2, .int .u64 x1.S.a3, .int .i64 x1.Lo, .int .i64 x1.Hi, .int .i64 x1.Rule, .bool x1.Last, .sl false 1 (mI x1.Next)])], [], []⟩) (fun t hm => oF rfl rfl (OpT.buildSlice (elems := ([x1] : List Zz).map Q1) rfl (dk rfl) Qcg i65 (by decide) rfl (Hs rfl) (Z8 hm.s0 rfl Vx) rfl rfl (Xh rfl) (by decide) ⟨u0, rfl⟩)) (fun _ => rfl) (fun _ => rfl) ?_
 obtain ⟨j, h⟩ := Q6 h
 refine DGG.step (c := fun a => ⟨some 13, .c (.ex ((a 7).1 0)), [(12, .sl true 9 ([x1].map Q1)), (10, .c (.ex wx0c0))], [(4, .arrX wx0c0 65 9 0 (x0.p.map Q1))], [(4, .arrX ((a 7).1 0) 65 9 0 ((x0.p ++ [x1]).map Q1))]⟩) [7] (fun a γ' h => by simp only [h 7 (by decide)]) (fun a t hm => oF rfl rfl (Hv (i := 4) (xs := x0.p) (ys := [x1]) (f := Q1) rfl (dk rfl) Qcg i65 rfl hm.s1 hm.o0 hm.s0 j (fun w => ⟨(fun _ => w, 0), rfl⟩))) (fun a => Zg rfl rfl) (gK rfl (fun _ => .f rfl) (fun _ => rfl) (gP rfl (fun _ => .f rfl) ul126 i41 (fun _ => rfl) (DGG.step (c := fun a => ⟨none, .any, [(15, .ptr bx0 (0 + 0)), (13, .c (.ex ((a 7).1 0)))], [(3, (Ld bx0 wx0c0))], [(3, (Ld bx0 ((a 7).1 0)))]⟩) [7] (fun a γ' h => by simp only [h 7 (by decide)]) (fun a t hm => oF rfl rfl (Wf (i := 3) (cells' := [.d (.ex ((a 7).1 0))]) rfl rfl i41 hm.s0 hm.s1 hm.o0 (nb rfl) rfl ⟨u0, rfl⟩)) (fun a => Zg rfl rfl) (gF [0,0,2,6,14,0,32,126,255,511,1023] Qx rfl (by kernel_rfl) (fun _ => by kernel_rfl) (fun a u hu => (tN (Ql hu (sR (Qr (mw rfl ?_))))))))))
 refine oK rfl (oP ul126 i41 rfl (oL 3 Qcg rfl (sp rfl (Vz (i := 4) (xs := (x0.p ++ [x1])) (f := Q1) rfl (dk rfl) Qcg rfl rfl (oI rfl (sp rfl (OpT.buildSlice (elems := ([(wI (((x0.p ++ [x1]).length : Int) - (1:Int)))] : List Int).map (cI .i64)) rfl (dk rfl) Zi i3 (by decide) rfl (Hs rfl) rfl rfl rfl (Xh rfl) (by decide) (aw rfl ?_))))))))
 refine nL (tN (sR (Qr (mw rfl (mw rfl (sp rfl (Zj (OpT.build (l := [.bool false, .sl true 1 ([(wI (((x0.p ++ [x1]).length : Int) - (1:Int)))].map (cI .i64)), .sl true 1 ([(wI (((x0.p ++ [x1]).length : Int) - (1:Int)))].map (cI .i64))]) rfl (dk rfl) (Zk (pl := [(0, 1), (1, 1), (2, 1)]) Mb i128 rfl) (Hs rfl) rfl rfl rfl) (Zt 25 (l := [.bool false, .sl true 1 ([(wI (((x0.p ++ [x1]).length : Int) - (1:Int)))].map (cI .i64)), .sl true 1 ([(wI (((x0.p ++ [x1]).length : Int) - (1:Int)))].map (cI .i64))]) (l' := [.bool false, .sl false 1 ([(wI (((x0.p ++ [x1]).length : Int) - (1:Int)))].map (cI .i64)), .sl false 1 ([(wI (((x0.p ++ [x1]).length : Int) - (1:Int)))].map (cI .i64))]) (.cons (.same _) (.cons (.full _ _ _) (.cons (.full _ _ _) (.refl _))))) (sp rfl (Qt (i := 1) (cells' := [.d (.bool false), .d (.sl false 1 ([(wI (((x0.p ++ [x1]).length : Int) - (1:Int)))].map (cI .i64))), .d (.sl false 1 ([(wI (((x0.p ++ [x1]).length : Int) - (1:Int)))].map (cI .i64)))]) rfl rfl i128 rfl rfl rfl rfl (nb rfl) rfl (nL (tN (T.ret ?_))))))))))))
 exact Q7 (.cons _ _ _ _ (.cellAgg 4 128 _ 0 1 128 _ [.bool false, .sl false 1 ([(wI (((x0.p ++ [x1]).length : Int) - (1:Int)))].map (cI .i64)), .sl false 1 ([(wI (((x0.p ++ [x1]).length : Int) - (1:Int)))].map (cI .i64))] _ _ 3 _ rfl rfl rfl rfl Mb rfl i128) .nil) (.cons 3 rfl (.cons 3 rfl (.nil _))) (by cases h; exact ⟨gl [(a 7).1 0], rfl, rfl⟩)
end Go.Rv

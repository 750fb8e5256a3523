/- Each function computes what its plain text says: printed by a program of ours. -/
import Derived.Test.YtcmfaclkgdmpbaaGreatDoorRgW0
namespace Go.Rv
open Go.Proofs
set_option maxRecDepth 100000
set_option maxHeartbeats 4000000
set_option linter.unusedVariables false
abbrev raddleref04_reader_ends_q (bx0 : Nat) (x0 : Qe) (r : Bool) : ES := Jz tp ff60 (fun y t => ∃ γ : Nat → Value, y = (.bool r) ∧ t = [(Sb bx0 x0.s x0.at_ (γ 0) x0.deep x0.e x0.where_), .arrA (γ 0) 165 9 (x0.nodes.map Qs)])
theorem Un (K : Nat) {x0 : Qe} {bx0 : Nat} {wx0c2 : Value} {r : Bool} (h : Xy K x0 = some r) : Ud tp 60 [.ptr bx0 0] [(Sb bx0 x0.s x0.at_ wx0c2 x0.deep x0.e x0.where_), .arrA wx0c2 165 9 (x0.nodes.map Qs)] (fun γ => (.bool r)) (fun γ => [(Sb bx0 x0.s x0.at_ (γ 0) x0.deep x0.e x0.where_), .arrA (γ 0) 165 9 (x0.nodes.map Qs)]) := by
 refine CI 20 fu60 rfl ?_
 unfold Xy at h
 refine sR (Qq (aw rfl (nL (tN (T.seq (Xk (dV rfl rfl (dK rfl (.f rfl) rfl ?_))))))))
 refine dP rfl (.f rfl) Mi i3 rfl (dL 0 rfl (.f rfl) ul3 rfl (dV rfl rfl (dK rfl (.f rfl) rfl (dP rfl (.f rfl) Mi i9 rfl (dL 0 rfl (.f rfl) ul9 rfl (dS (c := ⟨some 11, .int .i64 (x0.s.size : Int), [(10, .str x0.s)], [], []⟩) (fun t hm => oF rfl rfl (O4 rfl (dk rfl) ul9 hm.s0 rfl)) rfl rfl ?_))))))
 refine dI rfl (.f rfl) rfl (dV rfl rfl ?_)
 rcases Qh h with ⟨a, h⟩ | ⟨a, h⟩
 refine dO a rfl rfl (dO a rfl rfl (dO a rfl rfl (dO a rfl rfl (dO a rfl rfl (dY rfl (.f rfl) a rfl (dA rfl (.f rfl) rfl ?_))))))
 refine dF [0,1,3,7,0,16,48,112,240,511,1023,2047,4095,8191,16383,32767,65535,131071] Q3 rfl (by kernel_rfl) (fun u hu => (tN (Qm hu (T.ret (Q1 (.cons _ _ _ _ (.tmp 2 _ rfl) .nil) (.cons 0 rfl (.cons 0 rfl (.nil _))) (by cases h; exact ⟨gl [wx0c2], rfl, rfl⟩))))))
 refine dM rfl (.n a rfl) rfl (dK rfl (.n a rfl) rfl (dP rfl (.n a rfl) Mi i30 rfl (dL 0 rfl (.n a rfl) ul30 rfl (dI rfl (.n a rfl) rfl (dZ rfl (.f rfl) a rfl (dA rfl (.f rfl) rfl ?_))))))
 refine dF [0,1,3,7,0,16,48,112,240,511,1023,2047,4095,8191,16383,32767,65535,131071] Q3 rfl (by kernel_rfl) (fun u hu => (tN (Qm hu (T.ret (Q1 (.cons _ _ _ _ (.tmp 2 _ rfl) .nil) (.cons 0 rfl (.cons 0 rfl (.nil _))) (by cases h; exact ⟨gl [wx0c2], rfl, rfl⟩))))))
abbrev raddleref04_reader_put_q (bx0 : Nat) (r : Int × Qe) : ES := Jz tp ff99 (fun y t => ∃ γ : Nat → Value, y = (.int .i64 r.1) ∧ t = [(Sb bx0 r.2.s r.2.at_ (γ 0) r.2.deep r.2.e r.2.where_), .arrA (γ 0) 165 9 (r.2.nodes.map Qs)])
theorem W5 (K : Nat) {x0 : Qe} {x1 : Q0} {bx0 : Nat} {wx0c2 : Value} {r : Int × Qe} (h : Uc K x0 x1 = some r) : Ud tp 99 [.ptr bx0 0, .agg [.int .u8 x1.Op, .int .u64 x1.S.a0, .int .u64 x1.S.a1, .int .u64 x1.S.a2, .int .u64 x1.S.a3, .sl false 1 (mI x1.L), .int .i64 x1.Lo, .int .i64 x1.Hi, .str x1.Name]] [(Sb bx0 x0.s x0.at_ wx0c2 x0.deep x0.e x0.where_), .arrA wx0c2 165 9 (x0.nodes.map Qs)] (fun γ => (.int .i64 r.1)) (fun γ => [(Sb bx0 r.2.s r.2.at_ (γ 0) r.2.deep r.2.e r.2.where_), .arrA (γ 0) 165 9 (r.2.nodes.map Qs)]) := by
 refine CI 21 fu99 rfl ?_
 unfold Uc at h
 refine sR (Qq (sp rfl (Zw rfl (dk rfl) rfl (fun b => (aw rfl (nL (tN (T.seq (Qm Yk (Us ?_))))))))))
 refine gM rfl (fun _ => .f rfl) (fun _ => rfl) (gM rfl (fun _ => .f rfl) (fun _ => rfl) (gK rfl (fun _ => .f rfl) (fun _ => rfl) (gP rfl (fun _ => .f rfl) Mi i80 (fun _ => rfl) (gL 2 rfl (fun _ => .f rfl) P1 (fun _ => rfl) (gW 1 [.int .u8 x1.Op, .int .u64 x1.S.a0, .int .u64 x1.S.a1, .int .u64 x1.S.a2, .int .u64 x1.S.a3, .sl false 1 (mI x1.L), .int .i64 x1.Lo, .int .i64 x1.Hi, .str x1.Name] rfl (fun _ => .f rfl) Lj i165 (fun _ => rfl) (dC (c := ⟨some 11, .sl true 9 ([x1].map Qs), [(10, .agg [.int .u8 x1.Op, .int .u64 x1.S.a0, .int .u64 x1.S.a1, .int .u64 x1.S.a2, .int .u64 x1.S.a3, .sl false 1 (mI x1.L), .int .i64 x1.Lo, .int .i64 x1.Hi, .str x1.Name])], [], []⟩) (fun t hm => oF rfl rfl (OpT.buildSlice (elems := ([x1] : List Q0).map Qs) rfl (dk rfl) P1 i165 (by decide) rfl (Hb rfl) (Y1 hm.s0 rfl Jl) rfl rfl (Xh rfl) (by decide) ⟨u0, rfl⟩)) (fun _ => rfl) (fun _ => rfl) ?_))))))
 obtain ⟨g, h⟩ := Q9 h
 refine DGG.step (c := fun a => ⟨some 12, .c (.ex ((a 7).1 0)), [(11, .sl true 9 ([x1].map Qs)), (9, .c (.ex wx0c2))], [(3, .arrA wx0c2 165 9 (x0.nodes.map Qs))], [(3, .arrA ((a 7).1 0) 165 9 ((x0.nodes ++ [x1]).map Qs))]⟩) [7] (fun a γ' h => by simp only [h 7 (by decide)]) (fun a t hm => oF rfl rfl (Zj (i := 3) (xs := x0.nodes) (ys := [x1]) (f := Qs) rfl (dk rfl) P1 i165 rfl hm.s1 hm.o0 hm.s0 g (fun w => ⟨(fun _ => w, 0), rfl⟩))) (fun a => Zr rfl rfl) (gK rfl (fun _ => .f rfl) (fun _ => rfl) (gP rfl (fun _ => .f rfl) Mi i80 (fun _ => rfl) (DGG.step (c := fun a => ⟨none, .any, [(14, .ptr bx0 (0 + 2)), (12, .c (.ex ((a 7).1 0)))], [(2, (Sb bx0 x0.s x0.at_ wx0c2 x0.deep x0.e x0.where_))], [(2, (Sb bx0 x0.s x0.at_ ((a 7).1 0) x0.deep x0.e x0.where_))]⟩) [7] (fun a γ' h => by simp only [h 7 (by decide)]) (fun a t hm => oF rfl rfl (V3 (i := 2) (cells' := [.d (.str x0.s), .d (.int .i64 x0.at_), .d (.ex ((a 7).1 0)), .d (.int .i64 x0.deep), .d (.int .i64 x0.e), .d (.int .i64 x0.where_)]) rfl rfl i80 hm.s0 hm.s1 hm.o0 (nb rfl) rfl ⟨u0, rfl⟩)) (fun a => Zr rfl rfl) (gF [0,0,2,6,14,0,32,126,255,511,1023] Q3 rfl (by kernel_rfl) (fun _ => by kernel_rfl) (fun a u hu => (tN (Qm hu (sR (Qq (mw rfl ?_))))))))))
 refine oK rfl (oP Mi i80 rfl (sp rfl (Zi (Yr (i := 2) rfl (dk rfl) P1 rfl rfl rfl rfl rfl) (J0 18 3 rfl) (oU (x0.nodes ++ [x1]) Qs P1 rfl (oI rfl (aw rfl (nL (tN ?_))))))))
 refine T.ret (Q1 (.cons _ _ _ _ (.tmp 4 _ rfl) .nil) (.cons 2 rfl (.cons 2 rfl (.nil _))) (by cases h; exact ⟨gl [(a 7).1 0], rfl, rfl⟩))
abbrev raddleref04_special_q (r : ByteArray) : ES := Jz tp ff148 (fun y t => y = (.str r) ∧ t = [])
theorem S1 (K : Nat) {r : ByteArray} (h : K2 K = some r) : Z1 tp 148 [] [] (.str r) := by
 refine CI 1 fu148 rfl ?_
 unfold K2 at h
 refine sR (Qq (aw rfl (nL (tN (sR (Qq (aw rfl (nL (tN (T.ret (fd rfl (by cases h; exact ⟨rfl, rfl⟩))))))))))))
abbrev Qea (r : Bool) : ES := Jz tp ff147 (fun y t => y = (.bool r) ∧ t = [])
abbrev Qbd (r : Bool) : ES := fT 17 [1,1] ff147 (Qea r)
abbrev S3 (r : Bool) : ES := Qz 0 ((Qbd r))
theorem Qbe {r : Bool} (K : Nat) : ∀ (k : Nat), ∀ (x0 : Int) (x1 : ByteArray) (a : Int), Lv K k x0 x1 a = some r → TL tp 17 (ca [1,0,1,0,0] ff147) ⟨[(0, .int .u8 x0), (1, .str x1), (5, .int .i64 a)], []⟩ (S3 r) := by
 intro k
 induction k with
 | zero =>
  intro x0 x1 a h
  exact zn h
 | succ k ih =>
  intro x0 x1 a h
  rw [Lv] at h
  refine Za (T.seq (sR (Qq (mw rfl (mw rfl (sp rfl (O4 rfl (dk rfl) ul9 rfl (oI rfl ?_))))))))
  refine nL (tN ?_)
  rcases Qh h with ⟨b, h⟩ | ⟨b, h⟩
  refine Qt rfl b (T.skip (tN (T.seq (T.block (sR (Qq (mw rfl (mw rfl ?_))))))))
  obtain ⟨c, h⟩ := Q9 h
  refine sp rfl (Lg rfl (dk rfl) ul9 rfl rfl c.1 c.2 (mw rfl (oI rfl (nL (tN ?_)))))
  rcases Qh h with ⟨d, h⟩ | ⟨d, h⟩
  cases h
  refine Qo rfl d (T.skip (Qj (tN (Qq (mw rfl (oI rfl (aw rfl (nL (tN ?_)))))))))
  refine Qg ?_ (ih x0 x1 (wI (a + (1:Int))) h)
  exact tq rfl rfl
  refine Qo rfl b (T.exit (Qk (Qk (Qu (tN (sR (Qq (aw rfl (nL (tN (T.ret (fd rfl (by cases h; exact ⟨rfl, rfl⟩)))))))))))))
theorem Qeb (K : Nat) {x0 : Int} {x1 : ByteArray} {r : Bool} (h : Nv K x0 x1 = some r) : Z1 tp 147 [.int .u8 x0, .str x1] [] (.bool r) := by
 refine CI 17 fu147 rfl ?_
 unfold Nv at h
 refine sR (Qq (aw rfl (nL (tN (T.seq (sR (Qq (aw rfl (nL (tN ?_))))))))))
 refine T.block (T.loop ?_)
 refine Qg ?_ (Qbe K K x0 x1 (0:Int) h)
 exact tq rfl rfl
abbrev raddleref04_reader_one_q (bx0 : Nat) (r : Int × Qe) : ES := Jz tp ff149 (fun y t => ∃ γ : Nat → Value, y = (.int .u8 r.1) ∧ t = [(Sb bx0 r.2.s r.2.at_ (γ 0) r.2.deep r.2.e r.2.where_), .arrA (γ 0) 165 9 (r.2.nodes.map Qs)])
theorem Ot (K : Nat) {x0 : Qe} {bx0 : Nat} {wx0c2 : Value} {r : Int × Qe} (h : Gr K x0 = some r) : Ud tp 149 [.ptr bx0 0] [(Sb bx0 x0.s x0.at_ wx0c2 x0.deep x0.e x0.where_), .arrA wx0c2 165 9 (x0.nodes.map Qs)] (fun γ => (.int .u8 r.1)) (fun γ => [(Sb bx0 r.2.s r.2.at_ (γ 0) r.2.deep r.2.e r.2.where_), .arrA (γ 0) 165 9 (r.2.nodes.map Qs)]) := by
 refine CI 138 fu149 rfl ?_
 unfold Gr at h
 refine sR (Qq (aw rfl (nL (tN (T.seq (Xk (dV rfl rfl (dK rfl (.f rfl) rfl ?_))))))))
 refine dP rfl (.f rfl) Mi i9 rfl (dL 0 rfl (.f rfl) ul9 rfl (dV rfl rfl (dK rfl (.f rfl) rfl (dP rfl (.f rfl) Mi i3 rfl (dL 0 rfl (.f rfl) ul3 rfl ?_)))))
 obtain ⟨a, h⟩ := Q9 h
 refine dS (c := ⟨some 16, .int .u8 (bt x0.s x0.at_), [(11, .str x0.s), (15, .int .i64 x0.at_)], [], []⟩) (fun t hm => oF rfl rfl (Lg rfl (dk rfl) ul9 hm.s0 hm.s1 a.1 a.2 rfl)) rfl rfl (dA rfl (.f rfl) rfl (dF [0,1,3,7,0,16,48,112,255,511] Q3 rfl (by kernel_rfl) (fun u hu => (tN (Qm hu (sR (Qq (mw rfl (oK rfl (oP Mi i3 rfl ?_))))))))))
 refine oL 0 ul3 rfl (aw rfl (nL (tN (sR (Qq (mw rfl (oK rfl (oP Mi i3 rfl (oL 0 ul3 rfl ?_)))))))))
 refine oI rfl (oK rfl (oP Mi i3 rfl (sp rfl (V3 (i := 0) (cells' := [.d (.str x0.s), .d (.int .i64 (wI (x0.at_ + (1:Int)))), .d (.ex wx0c2), .d (.int .i64 x0.deep), .d (.int .i64 x0.e), .d (.int .i64 x0.where_)]) rfl rfl i3 rfl rfl rfl (nb rfl) rfl (nL (tN (T.seq (sR (Qq ?_)))))))))
 refine mw rfl (oI rfl (nL (tN ?_)))
 rcases Qh h with ⟨b, h⟩ | ⟨b, h⟩
 refine Qt rfl b (sR (Qq (mw rfl (aw rfl (nL (tN (T.ret (Qy (Q1 (.cons _ _ _ _ (.tmp 2 _ rfl) .nil) (.cons 0 rfl (.cons 0 rfl (.nil _))) (by cases h; exact ⟨gl [wx0c2], rfl, rfl⟩))))))))))
 cases h
abbrev raddleref01_Has_q (r : Bool) : ES := Jz tp ff81 (fun y t => y = (.bool r) ∧ t = [])
theorem W6 (K : Nat) {x0 : Zh} {x1 : Int} {r : Bool} (h : Vf K x0 x1 = some r) : Z1 tp 81 [.agg (Zh.dc .u64 x0), .int .u8 x1] [] (.bool r) := by
 refine CI 14 fu81 rfl ?_
 unfold Vf at h
 refine sR (Qq (sp rfl (Zw rfl (dk rfl) rfl (fun d => (aw rfl (nL (tN (sR (Qq (mw rfl (sp rfl (OpT.quo rfl (dk rfl) rfl rfl (by decide) ?_))))))))))))
 obtain ⟨b, h⟩ := Q9 h
 refine sp rfl (Uq rfl (dk rfl) Qdo i61 rfl rfl b.1 b.2 (sp rfl (Yr (i := 0) rfl (dk rfl) ul61 rfl rfl rfl (Qfs (k := .u64) (a := x0) (pre := []) (post := []) b.1 b.2) (mw rfl (sp rfl (OpT.rem rfl (dk rfl) rfl rfl (by decide) ?_))))))
 obtain ⟨c, h⟩ := Q9 h
 refine sp rfl (OpT.shr rfl (dk rfl) rfl rfl c (sp rfl (OpT.rem rfl (dk rfl) rfl rfl (by decide) (oI rfl (aw rfl (nL (tN (T.ret (fd rfl (by cases h; exact ⟨rfl, rfl⟩))))))))))
abbrev raddleref01_with_q (r : Zh) : ES := Jz tp ff142 (fun y t => y = (.agg (Zh.dc .u64 r)) ∧ t = [])
theorem Qb8 (K : Nat) {x0 : Zh} {x1 : Int} {r : Zh} (h : Gf K x0 x1 = some r) : Z1 tp 142 [.agg (Zh.dc .u64 x0), .int .u8 x1] [] (.agg (Zh.dc .u64 r)) := by
 refine CI 21 fu142 rfl ?_
 unfold Gf at h
 refine sR (Qq (sp rfl (Zw rfl (dk rfl) rfl (fun g => (sp rfl (Zg rfl (dk rfl) i63 rfl (fun j => (nL (tN (T.seq (sR (Qq (oA 1 (Zh.dc .u64 x0) Qdo i63 rfl ?_)))))))))))))
 refine mw rfl ?_
 obtain ⟨m, d, h⟩ := bind_some h
 refine oH fu81 (Z1.nil (W6 K d)) rfl (oT rfl (nL (tN ?_)))
 rcases Qh h with ⟨c, h⟩ | ⟨c, h⟩
 refine Qt rfl c (Qq (mw rfl (sp rfl (OpT.quo rfl (dk rfl) rfl rfl (by decide) (mw rfl (sp rfl (OpT.quo rfl (dk rfl) rfl rfl (by decide) ?_)))))))
 obtain ⟨b, h⟩ := Q9 h
 refine sp rfl (Uq rfl (dk rfl) Qdo i61 rfl rfl b.1 b.2 (sp rfl (Yr (i := 1) rfl (dk rfl) ul61 rfl rfl rfl (Qfs (k := .u64) (a := x0) (pre := []) (post := []) b.1 b.2) (mw rfl (sp rfl (OpT.rem rfl (dk rfl) rfl rfl (by decide) ?_))))))
 obtain ⟨f, h⟩ := Q9 h
 refine sp rfl (OpT.shl rfl (dk rfl) rfl rfl f (oI rfl (sp rfl (Uq rfl (dk rfl) Qdo i61 rfl rfl b.1 b.2 (sp rfl (V3 (i := 1) (cells' := (Zh.oc .u64 (Zh.set x0 (IntKind.u8.wrap (Int.tdiv x1 (64:Int))) (IntKind.u64.wrap ((Zh.get x0 (IntKind.u8.wrap (Int.tdiv x1 (64:Int)))) + (IntKind.u64.wrap ((1:Int) * 2 ^ min (Int.toNat (Int.tmod x1 (64:Int))) IntKind.u64.bits))))))) rfl rfl i61 rfl rfl rfl (Zh.oc_lt (k := .u64) (a := x0) (pre := []) (post := []) b.1 b.2) (Qfr (k := .u64) (a := x0) (pre := []) (post := []) b.1 b.2) (nL (tN (sR (Qq (oA 1 (Zh.dc .u64 (Zh.set x0 (IntKind.u8.wrap (Int.tdiv x1 (64:Int))) (IntKind.u64.wrap ((Zh.get x0 (IntKind.u8.wrap (Int.tdiv x1 (64:Int)))) + (IntKind.u64.wrap ((1:Int) * 2 ^ min (Int.toNat (Int.tmod x1 (64:Int))) IntKind.u64.bits)))))) Qdo i63 rfl (sp rfl (Qv (i := 0) (cells' := (Zh.oc .u64 (Zh.set x0 (IntKind.u8.wrap (Int.tdiv x1 (64:Int))) (IntKind.u64.wrap ((Zh.get x0 (IntKind.u8.wrap (Int.tdiv x1 (64:Int)))) + (IntKind.u64.wrap ((1:Int) * 2 ^ min (Int.toNat (Int.tmod x1 (64:Int))) IntKind.u64.bits))))))) rfl rfl i63 rfl rfl rfl rfl (nb rfl) rfl ?_)))))))))))))
 refine nL (tN (T.ret (Fin.done (.cons _ _ _ _ (.cellAgg 4 63 _ 0 0 63 _ (Zh.dc .u64 (Zh.set x0 (IntKind.u8.wrap (Int.tdiv x1 (64:Int))) (IntKind.u64.wrap ((Zh.get x0 (IntKind.u8.wrap (Int.tdiv x1 (64:Int)))) + (IntKind.u64.wrap ((1:Int) * 2 ^ min (Int.toNat (Int.tmod x1 (64:Int))) IntKind.u64.bits)))))) _ _ 4 _ rfl rfl rfl rfl Qdo rfl i63) .nil) (by cases h; exact ⟨rfl, rfl⟩))))
 refine Qo rfl c (T.skip (tN (sR (Qq (oA 1 (Zh.dc .u64 x0) Qdo i63 rfl (sp rfl (Qv (i := 0) (cells' := (Zh.oc .u64 x0)) rfl rfl i63 rfl rfl rfl rfl (nb rfl) rfl (nL (tN (T.ret ?_))))))))))
 exact Fin.done (.cons _ _ _ _ (.cellAgg 4 63 _ 0 0 63 _ (Zh.dc .u64 x0) _ _ 4 _ rfl rfl rfl rfl Qdo rfl i63) .nil) (by cases h; exact ⟨rfl, rfl⟩)
abbrev Qee (r : Zh) : ES := Jz tp ff131 (fun y t => y = (.agg (Zh.dc .u64 r)) ∧ t = [])
abbrev T3 (r : Zh) : ES := fT 19 [1,1,1] ff131 (Qee r)
abbrev R9 (r : Zh) : ES := Qz 0 ((T3 r))
theorem Qbl {r : Zh} (K : Nat) : ∀ (k : Nat), ∀ (x0 : List Int) (d : Int) (j a : Zh) (flx0 : Bool) (g b : Nat), Ui K k x0 d j a = some r → TL tp 19 (ca [1,1,0,1,0,0] ff131) ⟨[(0, .sl flx0 1 (mU x0)), (2, .ptr g 0), (3, .ptr b 0), (4, .int .i64 d)], [.box g 63 (Zh.oc .u64 j), .box b 63 (Zh.oc .u64 a)]⟩ (R9 r) := by
 intro k
 induction k with
 | zero =>
  intro x0 d j a flx0 g b h
  exact zn h
 | succ k ih =>
  intro x0 d j a flx0 g b h
  rw [Ui] at h
  refine Za (T.seq (sR (Qq (mw rfl (mw rfl (oU x0 (cI .u8) Mt rfl (oI rfl ?_)))))))
  refine nL (tN ?_)
  rcases Qh h with ⟨q, h⟩ | ⟨q, h⟩
  refine Qt rfl q (T.skip (tN (T.seq (T.block (Xk (dW 1 (Zh.dc .u64 a) rfl (.f rfl) Qdo i63 rfl (dV rfl rfl ?_)))))))
  refine dV rfl rfl ?_
  obtain ⟨p, s, h⟩ := bind_some h
  refine dX x0 (cI .u8) rfl (.f rfl) Mt i5 s rfl (dR rfl (.f rfl) ul5 rfl ?_)
  obtain ⟨m, w, h⟩ := bind_some h
  refine dH fu142 (Z1.nil (Qb8 K w)) rfl (.f rfl) rfl (dS (c := ⟨none, .any, [(3, .ptr b 0), (17, .agg (Zh.dc .u64 m))], [(1, .box b 63 (Zh.oc .u64 a))], [(1, .box b 63 (Zh.oc .u64 m))]⟩) (fun t hm => oF rfl rfl (Qv (i := 1) (cells' := (Zh.oc .u64 m)) rfl rfl i63 hm.s0 hm.s1 rfl hm.o0 (nb rfl) rfl rfl)) rfl rfl (dF [0,0,0,6,14,31,63] Q3 rfl (by kernel_rfl) (fun u hu => (Qj (tN (Qm hu (Qq (mw rfl (oI rfl (aw rfl ?_))))))))))
  refine nL (tN ?_)
  refine Qg ?_ (ih x0 (wI (d + (1:Int))) j m flx0 g b h)
  exact tq rfl rfl
  refine Qo rfl q (T.exit (Qk (Qk (Qu (tN (sR (Qq (oA 1 (Zh.dc .u64 a) Qdo i63 rfl (sp rfl (Qv (i := 0) (cells' := (Zh.oc .u64 a)) rfl rfl i63 rfl rfl rfl rfl (nb rfl) rfl (nL (tN (T.ret ?_)))))))))))))
  exact Fin.done (.cons _ _ _ _ (.cellAgg 2 63 _ 0 0 63 _ (Zh.dc .u64 a) _ _ 4 _ rfl rfl rfl rfl Qdo rfl i63) .nil) (by cases h; exact ⟨rfl, rfl⟩)
theorem Rb (K : Nat) {x0 : List Int} {flx0 : Bool} {r : Zh} (h : Gk K x0 = some r) : Z1 tp 131 [.sl flx0 1 (mU x0)] [] (.agg (Zh.dc .u64 r)) := by
 refine CI 19 fu131 rfl ?_
 unfold Gk at h
 refine sR (Qq (sp rfl (Zg rfl (dk rfl) i63 rfl (fun a => (nL (tN (sR (Qq (sp rfl (OpT.build (l := (Zh.dc .u64 (Zh.mk 0 0 0 0))) rfl (dk rfl) (Qcn Qdo i63 i61) (Hb rfl) rfl rfl (sp rfl (Zg rfl (dk rfl) i63 rfl (fun b => (sp rfl (Qv (i := 0) (cells' := (Zh.oc .u64 (Zh.mk 0 0 0 0))) rfl rfl i63 rfl rfl rfl rfl (nb rfl) rfl (nL (tN ?_)))))))))))))))))
 refine T.seq (sR (Qq (aw rfl (nL (tN (T.block (T.loop ?_)))))))
 refine Qg ?_ (Qbl K K x0 (0:Int) (Zh.mk 0 0 0 0) (Zh.mk 0 0 0 0) flx0 a b h)
 exact tr rfl (.c (.s .z) (.c .z (.n _)))
abbrev raddleref04_reader_atom_q (bx0 : Nat) (r : Int × Qe) : ES := Jz tp ff133 (fun y t => ∃ γ : Nat → Value, y = (.int .i64 r.1) ∧ t = [(Sb bx0 r.2.s r.2.at_ (γ 0) r.2.deep r.2.e r.2.where_), .arrA (γ 0) 165 9 (r.2.nodes.map Qs)])
theorem Nu (K : Nat) {x0 : Qe} {bx0 : Nat} {wx0c2 : Value} {r : Int × Qe} (h : Hx K x0 = some r) : Ud tp 133 [.ptr bx0 0] [(Sb bx0 x0.s x0.at_ wx0c2 x0.deep x0.e x0.where_), .arrA wx0c2 165 9 (x0.nodes.map Qs)] (fun γ => (.int .i64 r.1)) (fun γ => [(Sb bx0 r.2.s r.2.at_ (γ 0) r.2.deep r.2.e r.2.where_), .arrA (γ 0) 165 9 (r.2.nodes.map Qs)]) := by
 refine CI 112 fu133 rfl ?_
 unfold Hx at h
 refine sR (Qq (aw rfl (nL (tN (T.seq (Xk (dV rfl rfl (dK rfl (.f rfl) rfl ?_))))))))
 refine dP rfl (.f rfl) Mi i9 rfl (dL 0 rfl (.f rfl) ul9 rfl (dV rfl rfl (dK rfl (.f rfl) rfl (dP rfl (.f rfl) Mi i3 rfl (dL 0 rfl (.f rfl) ul3 rfl ?_)))))
 obtain ⟨g, h⟩ := Q9 h
 refine dS (c := ⟨some 13, .int .u8 (bt x0.s x0.at_), [(8, .str x0.s), (12, .int .i64 x0.at_)], [], []⟩) (fun t hm => oF rfl rfl (Lg rfl (dk rfl) ul9 hm.s0 hm.s1 g.1 g.2 rfl)) rfl rfl (dA rfl (.f rfl) rfl (dF [0,1,3,7,0,16,48,112,255,511] Q3 rfl (by kernel_rfl) (fun u hu => (tN (Qm hu (T.seq (T.block (sR (Qq (mw rfl ?_))))))))))
 refine oI rfl (aw rfl (nL (tN ?_)))
 rcases Qh h with ⟨j, h⟩ | ⟨j, h⟩
 cases h
 refine Qo rfl j (sR (Qq (mw rfl (oI rfl (aw rfl (nL (tN ?_)))))))
 rcases Qh h with ⟨m, h⟩ | ⟨m, h⟩
 cases h
 refine Qo rfl m (sR (Qq (mw rfl (oI rfl (aw rfl (nL (tN ?_)))))))
 rcases Qh h with ⟨p, h⟩ | ⟨p, h⟩
 cases h
 refine Qo rfl p (T.seq (Xk (dV rfl rfl (dI rfl (.f rfl) rfl (dV rfl rfl ?_)))))
 rcases Qh h with ⟨a, h⟩ | ⟨a, h⟩
 cases h
 refine dO a rfl rfl (dO a rfl rfl (dO a rfl rfl (dO a rfl rfl (dO a rfl rfl (dO a rfl rfl (dO a rfl rfl ?_))))))
 refine dO a rfl rfl (dO a rfl rfl (dO a rfl rfl (dO a rfl rfl (dO a rfl rfl (dG rfl rfl (dG rfl rfl ?_))))))
 refine dG rfl rfl (dG rfl rfl (dG rfl rfl (dG rfl rfl (dG rfl rfl (dG rfl rfl (dG rfl rfl ?_))))))
 refine dG rfl rfl (dG rfl rfl (dG rfl rfl (dO a rfl rfl (dZ rfl (.f rfl) a rfl (dA rfl (.f rfl) rfl (dF [0,1,3,7,15,31,63,127,7,263,775,1799,3847,8191,16383,32767,65535,131071,262143,32767,557055,1605631,3702783,7897087,16777215,33554431,67108863,134217727,268435455,536870911] Q3 rfl (by kernel_rfl) (fun u hu => (tN (Qm hu ?_)))))))))
 refine Qo rfl rfl (sR (Qq (mw rfl (oI rfl (mw rfl ?_)))))
 rcases Qh h with ⟨f, h⟩ | ⟨f, h⟩
 cases h
 refine sn rfl f (OpT.move rfl (dk rfl) rfl (sn rfl f (Z9 rfl rfl (dk rfl) rfl rfl (oZ f rfl (aw rfl (nL (tN ?_)))))))
 rcases Qh h with ⟨q, h⟩ | ⟨q, h⟩
 cases h
 refine Qo rfl q (sR (Qq (mw rfl (oI rfl (mw rfl ?_)))))
 rcases Qh h with ⟨d, h⟩ | ⟨d, h⟩
 refine sn rfl d (OpT.move rfl (dk rfl) rfl ?_)
 obtain ⟨ai, y, h⟩ := bind_some h
 refine sn rfl d (Jh rfl (dk rfl) fu148 rfl rfl Zs.nil (Z1.nil (S1 K y)) ?_)
 obtain ⟨aj, z, h⟩ := bind_some h
 refine sn rfl d (Jh rfl (dk rfl) fu147 rfl rfl (Zs.cons rfl (Zs.cons rfl Zs.nil)) (Z1.nil (Qeb K z)) (oY d rfl (aw rfl (nL (tN ?_)))))
 rcases Qh h with ⟨v, h⟩ | ⟨v, h⟩
 cases h
 refine Qo rfl v (T.skip (Qj (tN (sR (Qq (mw rfl ?_))))))
 obtain ⟨aa, ab, h⟩ := bind_some h
 refine sp rfl (Q6 (is := [0, 1]) (ph := []) rfl (dk rfl) fu149 rfl rfl (Zs.cons rfl Zs.nil) (Ot K (bx0 := bx0) (wx0c2 := wx0c2) ab) (.cons rfl rfl (.cons rfl rfl (.nil))) (fun _ => rfl) (fun ac => (nm (.c (.c (.n))) (aw rfl (nL (tN (T.seq (sR (Qq (mw rfl ?_))))))))))
 refine oK rfl (oP Mi i30 rfl (oL 0 ul30 rfl (oI rfl (nL (tN ?_)))))
 rcases Qh h with ⟨w, h⟩ | ⟨w, h⟩
 cases h
 refine Qo rfl w (T.skip (tN (sR (Qq (mw rfl (mw rfl (sp rfl (OpT.buildSlice (elems := ([aa.1] : List Int).map (cI .u8)) rfl (dk rfl) Mt i5 (by decide) rfl (Hb rfl) rfl rfl rfl (Xh rfl) (by decide) ?_))))))))
 obtain ⟨b, ad, h⟩ := bind_some h
 refine oH fu131 (Z1.nil (Rb K (flx0 := true) ad)) rfl (sp rfl (Zi (OpT.build (l := [.int .u8 (2:Int), .int .u64 b.a0, .int .u64 b.a1, .int .u64 b.a2, .int .u64 b.a3, .ex (.slice none 0 0), .int .i64 (0:Int), .int .i64 (0:Int), .str (⟨#[]⟩ : ByteArray)]) rfl (dk rfl) (Zp (pl := [(0, 1), (1, 4), (5, 1), (6, 1), (7, 1), (8, 1)]) Lj i165 rfl) (Hb rfl) rfl rfl rfl) (Zy 110 (l := [.int .u8 (2:Int), .int .u64 b.a0, .int .u64 b.a1, .int .u64 b.a2, .int .u64 b.a3, .ex (.slice none 0 0), .int .i64 (0:Int), .int .i64 (0:Int), .str (⟨#[]⟩ : ByteArray)]) (l' := [.int .u8 (2:Int), .int .u64 b.a0, .int .u64 b.a1, .int .u64 b.a2, .int .u64 b.a3, .sl false 1 (([] : List Int).map (cI .i64)), .int .i64 (0:Int), .int .i64 (0:Int), .str (⟨#[]⟩ : ByteArray)]) (.cons (.same _) (.cons (.same _) (.cons (.same _) (.cons (.same _) (.cons (.same _) (.cons (.nil _ _) (.cons (.same _) (.cons (.same _) (.cons (.same _) (.refl _))))))))))) ?_))
 obtain ⟨al, af, h⟩ := bind_some h
 refine sp rfl (Q6 (is := [0, 1]) (ph := []) rfl (dk rfl) fu99 rfl rfl (Zs.cons rfl (Zs.cons rfl Zs.nil)) (W5 K (bx0 := bx0) (wx0c2 := (ac 0)) af) (.cons rfl rfl (.cons rfl rfl (.nil))) (fun _ => rfl) (fun ag => (nm (.c (.c (.n))) (aw rfl (nL (tN (T.ret (Q1 (.cons _ _ _ _ (.tmp 2 _ rfl) .nil) (.cons 0 rfl (.cons 0 rfl (.nil _))) (by cases h; exact ⟨gl [ag 0], rfl, rfl⟩)))))))))
 cases h
abbrev Ns (bx0 : Nat) (r : Int × Qe) : ES := Jz tp ff121 (fun y t => ∃ γ : Nat → Value, y = (.int .i64 r.1) ∧ t = [(Sb bx0 r.2.s r.2.at_ (γ 0) r.2.deep r.2.e r.2.where_), .arrA (γ 0) 165 9 (r.2.nodes.map Qs)])
abbrev Do (bx0 : Nat) (r : Int × Qe) : ES := fT 99 [1,1,1] ff121 (Ns bx0 r)
abbrev B9 (bx0 : Nat) (r : Int × Qe) : ES := Qz 0 ((Do bx0 r))
theorem Ed {r : Int × Qe} (K bx0 : Nat) : ∀ (k : Nat), ∀ (m : Int) (a : ByteArray) (b f : Int) (g j : Int) (p : List Q0) (q : Value), Jw K k m a b f g j p = some r → TL tp 99 (ca [1,1,0,0,0] ff121) ⟨[(0, .ptr bx0 0), (3, .int .i64 m)], [(Sb bx0 a b q f g j), .arrA q 165 9 (p.map Qs)]⟩ (B9 bx0 r) := by
 intro k
 induction k with
 | zero =>
  intro m a b f g j p q h
  exact zn h
 | succ k ih =>
  intro m a b f g j p q h
  rw [Jw] at h
  refine Za (T.seq (sR (Qq (mw rfl ?_))))
  obtain ⟨ab, aa, h⟩ := bind_some h
  refine sp rfl (Q6 (is := [0, 1]) (ph := []) rfl (dk rfl) fu60 rfl rfl (Zs.cons rfl Zs.nil) (Un K (bx0 := bx0) (wx0c2 := q) aa) (.cons rfl rfl (.cons rfl rfl (.nil))) (fun _ => rfl) (fun l => (nm (.c (.c (.n))) (oT rfl (nL (tN ?_))))))
  rcases Qh h with ⟨s, h⟩ | ⟨s, h⟩
  refine Qt rfl s (T.skip (tN (T.block (sR (Qq (aw rfl (aw rfl (nL (tN ?_)))))))))
  refine T.seq (Xk (dV rfl rfl (dK rfl (.f rfl) rfl (dP rfl (.f rfl) Mi i9 rfl (dL 0 rfl (.f rfl) ul9 rfl (dV rfl rfl ?_))))))
  refine dK rfl (.f rfl) rfl (dP rfl (.f rfl) Mi i3 rfl (dL 0 rfl (.f rfl) ul3 rfl ?_))
  obtain ⟨v, h⟩ := Q9 h
  refine dS (c := ⟨some 20, .int .u8 (bt a b), [(15, .str a), (19, .int .i64 b)], [], []⟩) (fun t hm => oF rfl rfl (Lg rfl (dk rfl) ul9 hm.s0 hm.s1 v.1 v.2 rfl)) rfl rfl (dA rfl (.f rfl) rfl (dF [0,1,3,7,0,16,48,112,255,511] Q3 rfl (by kernel_rfl) (fun u hu => (tN (Qm hu (T.seq (T.block (sR (Qq (mw rfl ?_))))))))))
  refine oI rfl (aw rfl (nL (tN ?_)))
  rcases Qh h with ⟨w, h⟩ | ⟨w, h⟩
  cases h
  refine Qo rfl w (sR (Qq (mw rfl (oI rfl (aw rfl (nL (tN ?_)))))))
  rcases Qh h with ⟨y, h⟩ | ⟨y, h⟩
  cases h
  refine Qo rfl y (sR (Qq (mw rfl (oI rfl (aw rfl (nL (tN ?_)))))))
  rcases Qh h with ⟨z, h⟩ | ⟨z, h⟩
  cases h
  refine Qo rfl z (T.seq (Xk (dV rfl rfl (dI rfl (.f rfl) rfl (dV rfl rfl ?_)))))
  rcases Qh h with ⟨d, h⟩ | ⟨d, h⟩
  cases h
  refine dO d rfl rfl (dO d rfl rfl (dO d rfl rfl (dO d rfl rfl (dO d rfl rfl (dO d rfl rfl (dO d rfl rfl ?_))))))
  refine dO d rfl rfl (dO d rfl rfl (dO d rfl rfl (dO d rfl rfl (dZ rfl (.f rfl) d rfl (dV rfl rfl (dO rfl rfl rfl ?_))))))
  refine dO rfl rfl rfl (dO rfl rfl rfl (dO rfl rfl rfl (dO rfl rfl rfl (dO rfl rfl rfl (dO rfl rfl rfl (dO rfl rfl rfl ?_))))))
  refine dO rfl rfl rfl (dO rfl rfl rfl (dO rfl rfl rfl (dZ rfl (.f rfl) rfl rfl (dA rfl (.f rfl) rfl (dF [0,1,3,7,15,31,63,127,7,263,775,1799,3847,8191,16383,32767,65535,131071,262143,524287,65535,1114111,3211263,7405567,15794175,33554431,67108863,134217727,268435455] Q3 rfl (by kernel_rfl) (fun u hu => (tN (Qm hu (Qo rfl rfl ?_)))))))))
  refine sR (Qq (mw rfl (aw rfl (nL (tN (T.ret (Q7 (Qy (Q7 (Qy (Q7 (Qy (Q1 (.cons _ _ _ _ (.tmp 2 _ rfl) .nil) (.cons 0 rfl (.cons 0 rfl (.nil _))) (by cases h; exact ⟨gl [l 0], rfl, rfl⟩))))))))))))))
  refine Qo rfl s (T.exit (Qk (Qk (Qu (tN (sR (Qq (mw rfl (aw rfl (nL (tN (T.ret ?_))))))))))))
  exact Q1 (.cons _ _ _ _ (.tmp 2 _ rfl) .nil) (.cons 0 rfl (.cons 0 rfl (.nil _))) (by cases h; exact ⟨gl [l 0], rfl, rfl⟩)
theorem Nt (K : Nat) {x0 : Qe} {bx0 : Nat} {wx0c2 : Value} {r : Int × Qe} (h : Hw K x0 = some r) : Ud tp 121 [.ptr bx0 0] [(Sb bx0 x0.s x0.at_ wx0c2 x0.deep x0.e x0.where_), .arrA wx0c2 165 9 (x0.nodes.map Qs)] (fun γ => (.int .i64 r.1)) (fun γ => [(Sb bx0 r.2.s r.2.at_ (γ 0) r.2.deep r.2.e r.2.where_), .arrA (γ 0) 165 9 (r.2.nodes.map Qs)]) := by
 refine CI 99 fu121 rfl ?_
 unfold Hw at h
 refine sR (Qq (aw rfl (nL (tN (sR (Qq (mw rfl ?_)))))))
 obtain ⟨a, b, h⟩ := bind_some h
 refine sp rfl (Q6 (is := [0, 1]) (ph := []) rfl (dk rfl) fu133 rfl rfl (Zs.cons rfl Zs.nil) (Nu K (bx0 := bx0) (wx0c2 := wx0c2) b) (.cons rfl rfl (.cons rfl rfl (.nil))) (fun _ => rfl) (fun d => (nm (.c (.c (.n))) (aw rfl (nL (tN (T.seq (T.block (T.loop ?_)))))))))
 refine Qg ?_ (Ed K bx0 K a.1 a.2.s a.2.at_ a.2.deep a.2.e a.2.where_ a.2.nodes (d 0) h)
 exact tq rfl rfl
abbrev Oq (bx0 : Nat) (r : Int × Qe) : ES := Jz tp ff98 (fun y t => ∃ γ : Nat → Value, y = (.int .i64 r.1) ∧ t = [(Sb bx0 r.2.s r.2.at_ (γ 0) r.2.deep r.2.e r.2.where_), .arrA (γ 0) 165 9 (r.2.nodes.map Qs)])
abbrev Ec (bx0 : Nat) (r : Int × Qe) : ES := fT 57 [1,1,1] ff98 (Oq bx0 r)
abbrev Hn (bx0 : Nat) (r : Int × Qe) : ES := Qz 0 ((Ec bx0 r))
abbrev Dn (bx0 : Nat) (r : Int × Qe) : ES := fL 57 [1,1,0,0,0] ff98 (Hn bx0 r)
abbrev B8 (bx0 : Nat) (r : Int × Qe) : ES := fT 57 [1,1,0,0,0,1] ff98 (Dn bx0 r)
theorem Lc {r : Int × Qe} (K bx0 : Nat) (g : ByteArray) (j m : Int) (p q : Int) (s : List Q0) (a : List Int) (d b : Value) (h : Um K g j m p q s a = some r) : T tp 57 (ca [1,1,0,0,0,0,1,1] ff98) ⟨[(0, .ptr bx0 0), (3, .c (.ex b))], [(Sb bx0 g j d m p q), .arrA d 165 9 (s.map Qs), .arrA b 3 1 (mI a)]⟩ (B8 bx0 r) := by
 unfold Um at h
 refine T.exit (Qk (Qk (Qu (tN (T.seq (sR (Qq (mw rfl (oK rfl (oP Mi i30 rfl (oL 0 ul30 rfl ?_)))))))))))
 refine oI rfl (nL (tN ?_))
 rcases Qh h with ⟨u, h⟩ | ⟨u, h⟩
 cases h
 refine Qo rfl u (T.skip (tN (T.seq (sR (Qq (mw rfl (sp rfl (Hc (i := 2) (xs := a) (f := (cI .i64)) rfl (dk rfl) Z5 rfl rfl (oI rfl ?_)))))))))
 refine nL (tN ?_)
 rcases Qh h with ⟨v, h⟩ | ⟨v, h⟩
 cases h
 refine Qo rfl v (T.skip (tN (T.seq (sR (Qq (mw rfl (sp rfl (Hc (i := 2) (xs := a) (f := (cI .i64)) rfl (dk rfl) Z5 rfl rfl (oI rfl ?_)))))))))
 refine nL (tN ?_)
 rcases Qh h with ⟨w, h⟩ | ⟨w, h⟩
 cases h
 refine Qo rfl w (T.skip (tN (sR (Qq (mw rfl (mw rfl (sp rfl (Zi (OpT.build (l := [.int .u8 (3:Int), .int .u64 (Zh.mk 0 0 0 0).a0, .int .u64 (Zh.mk 0 0 0 0).a1, .int .u64 (Zh.mk 0 0 0 0).a2, .int .u64 (Zh.mk 0 0 0 0).a3, .ex b, .int .i64 (0:Int), .int .i64 (0:Int), .str (⟨#[]⟩ : ByteArray)]) rfl (dk rfl) (Zp (pl := [(0, 1), (1, 4), (5, 1), (6, 1), (7, 1), (8, 1)]) Lj i165 rfl) (Hb rfl) rfl rfl rfl) (Zy 55 (l := [.int .u8 (3:Int), .int .u64 (Zh.mk 0 0 0 0).a0, .int .u64 (Zh.mk 0 0 0 0).a1, .int .u64 (Zh.mk 0 0 0 0).a2, .int .u64 (Zh.mk 0 0 0 0).a3, .ex b, .int .i64 (0:Int), .int .i64 (0:Int), .str (⟨#[]⟩ : ByteArray)]) (l' := [.int .u8 (3:Int), .int .u64 (Zh.mk 0 0 0 0).a0, .int .u64 (Zh.mk 0 0 0 0).a1, .int .u64 (Zh.mk 0 0 0 0).a2, .int .u64 (Zh.mk 0 0 0 0).a3, .sl false 1 (mI a), .int .i64 (0:Int), .int .i64 (0:Int), .str (⟨#[]⟩ : ByteArray)]) (.cons (.same _) (.cons (.same _) (.cons (.same _) (.cons (.same _) (.cons (.same _) (.cons (.view 2 rfl) (.cons (.same _) (.cons (.same _) (.cons (.same _) (.refl _))))))))))) ?_))))))))
 obtain ⟨aa, y, h⟩ := bind_some h
 refine sp rfl (Q6 (is := [0, 1]) (ph := []) rfl (dk rfl) fu99 rfl rfl (Zs.cons rfl (Zs.cons rfl Zs.nil)) (W5 K (bx0 := bx0) (wx0c2 := d) y) (.cons rfl rfl (.cons rfl rfl (.nil))) (fun _ => rfl) (fun z => (nm (.c (.c (.c (.n)))) (aw rfl (nL (tN (T.ret (Q1 (.cons _ _ _ _ (.tmp 2 _ rfl) .nil) (.cons 0 rfl (.cons 0 rfl (.nil _))) (by cases h; exact ⟨gl [z 0], rfl, rfl⟩)))))))))
theorem Fi {r : Int × Qe} (K bx0 : Nat) : ∀ (k : Nat), ∀ (b : ByteArray) (d p : Int) (q v : Int) (y : List Q0) (aa : List Int) (ac w : Value), Ul K k b d p q v y aa = some r → TL tp 57 (ca [1,1,0,0,0] ff98) ⟨[(0, .ptr bx0 0), (3, .c (.ex w))], [(Sb bx0 b d ac p q v), .arrA ac 165 9 (y.map Qs), .arrA w 3 1 (mI aa)]⟩ (Hn bx0 r) := by
 intro k
 induction k with
 | zero =>
  intro b d p q v y aa ac w h
  exact zn h
 | succ k ih =>
  intro b d p q v y aa ac w h
  rw [Ul] at h
  refine Za (T.seq (T.seq (Us (gM rfl (fun _ => .f rfl) (fun _ => rfl) ?_))))
  obtain ⟨m, ag, h⟩ := bind_some h
  refine DGG.step (c := fun a => ⟨some 5, .bool m, [(4, .ptr bx0 0)], [(1, .arrA ac 165 9 (y.map Qs)), (0, (Sb bx0 b d ac p q v))], [(0, (Sb bx0 b d ((a 1).1 0) p q v)), (1, .arrA ((a 1).1 0) 165 9 ((y).map Qs))]⟩) [1] (fun a γ' h => by simp only [h 1 (by decide)]) (fun a t hm => oF rfl rfl (Q6 (is := [0, 1]) (ph := []) rfl (dk rfl) fu60 rfl rfl (Zs.cons hm.s0 Zs.nil) (Un K (bx0 := bx0) (wx0c2 := ac) ag) (.cons hm.o1 rfl (.cons hm.o0 rfl (.nil))) (fun _ => rfl) (fun g => ⟨(g, 0), rfl⟩))) (fun a => Zr rfl rfl) (gT rfl (fun _ => .f rfl) (fun _ => rfl) (gM rfl (fun _ => .f rfl) (fun _ => rfl) ?_))
  rcases Qh h with ⟨j, h⟩ | ⟨j, h⟩
  refine gM rfl (fun _ => .n j rfl) (fun _ => rfl) (gK rfl (fun _ => .n j rfl) (fun _ => rfl) (gP rfl (fun _ => .n j rfl) Mi i9 (fun _ => rfl) (DGG.step (c := fun a => ⟨some 11, .str b, [(10, .ptr bx0 (0 + 0)), (7, .bool (!m))], [(0, (Sb bx0 b d ((a 1).1 0) p q v))], []⟩) [1] (fun a γ' h => by simp only [h 1 (by decide)]) (fun a t hm => oN rfl rfl rfl hm.s1 j (Yr (i := 0) rfl (dk rfl) ul9 rfl hm.s0 hm.o0 rfl ⟨u0, rfl⟩)) (fun a => Zr rfl rfl) (gM rfl (fun _ => .n j rfl) (fun _ => rfl) (gK rfl (fun _ => .n j rfl) (fun _ => rfl) (gP rfl (fun _ => .n j rfl) Mi i3 (fun _ => rfl) ?_))))))
  refine DGG.step (c := fun a => ⟨some 15, .int .i64 d, [(14, .ptr bx0 (0 + 1)), (7, .bool (!m))], [(0, (Sb bx0 b d ((a 1).1 0) p q v))], []⟩) [1] (fun a γ' h => by simp only [h 1 (by decide)]) (fun a t hm => oN rfl rfl rfl hm.s1 j (Yr (i := 0) rfl (dk rfl) ul3 rfl hm.s0 hm.o0 rfl ⟨u0, rfl⟩)) (fun a => Zr rfl rfl) ?_
  obtain ⟨ad, h⟩ := Q9 h
  refine dC (c := ⟨some 16, .int .u8 (bt b d), [(11, .str b), (15, .int .i64 d), (7, .bool (!m))], [], []⟩) (fun t hm => oN rfl rfl rfl hm.s2 j (Lg rfl (dk rfl) ul9 hm.s0 hm.s1 ad.1 ad.2 ⟨u0, rfl⟩)) (fun _ => rfl) (fun _ => rfl) (gI rfl (fun _ => .n j rfl) (fun _ => rfl) (gY rfl (fun _ => .f rfl) j (fun _ => rfl) (gM rfl (fun _ => .f rfl) (fun _ => rfl) ?_)))
  rcases Qh h with ⟨l, h⟩ | ⟨l, h⟩
  refine gM rfl (fun _ => .n l rfl) (fun _ => rfl) (gK rfl (fun _ => .n l rfl) (fun _ => rfl) (gP rfl (fun _ => .n l rfl) Mi i9 (fun _ => rfl) (DGG.step (c := fun a => ⟨some 23, .str b, [(22, .ptr bx0 (0 + 0)), (19, .bool ((bt b d) != (124:Int)))], [(0, (Sb bx0 b d ((a 1).1 0) p q v))], []⟩) [1] (fun a γ' h => by simp only [h 1 (by decide)]) (fun a t hm => oN rfl rfl rfl hm.s1 l (Yr (i := 0) rfl (dk rfl) ul9 rfl hm.s0 hm.o0 rfl ⟨u0, rfl⟩)) (fun a => Zr rfl rfl) (gM rfl (fun _ => .n l rfl) (fun _ => rfl) (gK rfl (fun _ => .n l rfl) (fun _ => rfl) (gP rfl (fun _ => .n l rfl) Mi i3 (fun _ => rfl) ?_))))))
  refine DGG.step (c := fun a => ⟨some 27, .int .i64 d, [(26, .ptr bx0 (0 + 1)), (19, .bool ((bt b d) != (124:Int)))], [(0, (Sb bx0 b d ((a 1).1 0) p q v))], []⟩) [1] (fun a γ' h => by simp only [h 1 (by decide)]) (fun a t hm => oN rfl rfl rfl hm.s1 l (Yr (i := 0) rfl (dk rfl) ul3 rfl hm.s0 hm.o0 rfl ⟨u0, rfl⟩)) (fun a => Zr rfl rfl) (dC (c := ⟨some 28, .int .u8 (bt b d), [(23, .str b), (27, .int .i64 d), (19, .bool ((bt b d) != (124:Int)))], [], []⟩) (fun t hm => oN rfl rfl rfl hm.s2 l (Lg rfl (dk rfl) ul9 hm.s0 hm.s1 ad.1 ad.2 ⟨u0, rfl⟩)) (fun _ => rfl) (fun _ => rfl) (gI rfl (fun _ => .n l rfl) (fun _ => rfl) (gY rfl (fun _ => .f rfl) l (fun _ => rfl) (gF [0,1,3,7,15,31,63,127,15,271,783,1807,4095,8191,16383,32767,65535,131071,262143,524287,65535,1114111,3211263,7405567,16777215,33554431,67108863] Q3 rfl (by kernel_rfl) (fun _ => by kernel_rfl) (fun a u hu => (tN (Qm hu ?_)))))))
  rcases Qh h with ⟨af, h⟩ | ⟨af, h⟩
  refine Qt rfl af (T.skip (tN (T.block (Qq (mw rfl (mw rfl ?_))))))
  obtain ⟨ab, ai, h⟩ := bind_some h
  refine sp rfl (Q6 (is := [0, 1]) (ph := []) rfl (dk rfl) fu121 rfl rfl (Zs.cons rfl Zs.nil) (Nt K (bx0 := bx0) (wx0c2 := ((a 1).1 0)) ai) (.cons rfl rfl (.cons rfl rfl (.nil))) (fun _ => rfl) (fun aj => (nm (.c (.c (.c (.n)))) (sp rfl (OpT.buildSlice (elems := ([ab.1] : List Int).map (cI .i64)) rfl (dk rfl) Z5 i3 (by decide) rfl (Hb rfl) rfl rfl rfl (Xh rfl) (by decide) ?_)))))
  obtain ⟨al, h⟩ := Q9 h
  refine sp rfl (Zj (i := 2) (xs := aa) (ys := [ab.1]) (f := (cI .i64)) rfl (dk rfl) Z5 i3 rfl rfl rfl rfl al (fun am => (aw rfl (nL (Qj (tN ?_))))))
  refine Qg ?_ (ih ab.2.s ab.2.at_ ab.2.deep ab.2.e ab.2.where_ ab.2.nodes (aa ++ [ab.1]) (aj 0) am h)
  exact tq rfl rfl
  cases h
  refine DGG.off l rfl rfl rfl rfl rfl (fun _ => rfl) (DGG.off l rfl rfl rfl rfl rfl (fun _ => rfl) (DGG.off l rfl rfl rfl rfl rfl (fun _ => rfl) (DGG.off l rfl rfl rfl rfl rfl (fun _ => rfl) (DGG.off l rfl rfl rfl rfl rfl (fun _ => rfl) (DGG.off l rfl rfl rfl rfl rfl (fun _ => rfl) (DGG.off l rfl rfl rfl rfl rfl (fun _ => rfl) ?_))))))
  refine DGG.off l rfl rfl rfl rfl rfl (fun _ => rfl) (DGG.off l rfl rfl rfl rfl rfl (fun _ => rfl) (DGG.off l rfl rfl rfl rfl rfl (fun _ => rfl) (gZ rfl (fun _ => .f rfl) l (fun _ => rfl) (gF [0,1,3,7,15,31,63,127,15,271,783,1807,4095,8191,16383,32767,65535,131071,262143,524287,65535,1114111,3211263,7405567,16777215,33554431,67108863] Q3 rfl (by kernel_rfl) (fun _ => by kernel_rfl) (fun a u hu => (tN (Qm hu (Qo rfl rfl ?_))))))))
  refine Qm ?_ (Lc K bx0 b d p q v y aa ((a 1).1 0) w h)
  exact tq rfl rfl
  refine DGG.off j rfl rfl rfl rfl rfl (fun _ => rfl) (DGG.off j rfl rfl rfl rfl rfl (fun _ => rfl) (DGG.off j rfl rfl rfl rfl rfl (fun _ => rfl) (DGG.off j rfl rfl rfl rfl rfl (fun _ => rfl) (DGG.off j rfl rfl rfl rfl rfl (fun _ => rfl) (DGG.off j rfl rfl rfl rfl rfl (fun _ => rfl) (DGG.off j rfl rfl rfl rfl rfl (fun _ => rfl) ?_))))))
  refine DGG.off j rfl rfl rfl rfl rfl (fun _ => rfl) (DGG.off j rfl rfl rfl rfl rfl (fun _ => rfl) (DGG.off j rfl rfl rfl rfl rfl (fun _ => rfl) (gZ rfl (fun _ => .f rfl) j (fun _ => rfl) (gM rfl (fun _ => .f rfl) (fun _ => rfl) (DGG.off rfl rfl rfl rfl rfl rfl (fun _ => rfl) (DGG.off rfl rfl rfl rfl rfl rfl (fun _ => rfl) ?_))))))
  refine DGG.off rfl rfl rfl rfl rfl rfl (fun _ => rfl) (DGG.off rfl rfl rfl rfl rfl rfl (fun _ => rfl) (DGG.off rfl rfl rfl rfl rfl rfl (fun _ => rfl) (DGG.off rfl rfl rfl rfl rfl rfl (fun _ => rfl) (DGG.off rfl rfl rfl rfl rfl rfl (fun _ => rfl) (DGG.off rfl rfl rfl rfl rfl rfl (fun _ => rfl) (DGG.off rfl rfl rfl rfl rfl rfl (fun _ => rfl) ?_))))))
  refine DGG.off rfl rfl rfl rfl rfl rfl (fun _ => rfl) (gZ rfl (fun _ => .f rfl) rfl (fun _ => rfl) (gF [0,1,3,7,15,31,63,127,15,271,783,1807,4095,8191,16383,32767,65535,131071,262143,524287,65535,1114111,3211263,7405567,16777215,33554431,67108863] Q3 rfl (by kernel_rfl) (fun _ => by kernel_rfl) (fun a u hu => (tN (Qm hu (Qo rfl rfl ?_))))))
  refine Qm ?_ (Lc K bx0 b d p q v y aa ((a 1).1 0) w h)
  exact tq rfl rfl
theorem Mf (K : Nat) {x0 : Qe} {bx0 : Nat} {wx0c2 : Value} {r : Int × Qe} (h : Jo K x0 = some r) : Ud tp 98 [.ptr bx0 0] [(Sb bx0 x0.s x0.at_ wx0c2 x0.deep x0.e x0.where_), .arrA wx0c2 165 9 (x0.nodes.map Qs)] (fun γ => (.int .i64 r.1)) (fun γ => [(Sb bx0 r.2.s r.2.at_ (γ 0) r.2.deep r.2.e r.2.where_), .arrA (γ 0) 165 9 (r.2.nodes.map Qs)]) := by
 refine CI 57 fu98 rfl ?_
 unfold Jo at h
 refine sR (Qq (aw rfl (nL (tN (sR (Qq (aw rfl (nL (tN (T.seq (T.block ?_)))))))))))
 refine T.loop (Qg (Y2 3 1) ?_)
 refine Qg ?_ (Fi K bx0 K x0.s x0.at_ x0.deep x0.e x0.where_ x0.nodes [] wx0c2 (Tp 2) h)
 exact tr rfl (.c (.s .z) (.c (.s .z) (.c .z (.n _))))
abbrev Bi (bx0 : Nat) (r : Int × Qe) : ES := Jz tp ff59 (fun y t => ∃ γ : Nat → Value, y = (.int .i64 r.1) ∧ t = [(Sb bx0 r.2.s r.2.at_ (γ 0) r.2.deep r.2.e r.2.where_), .arrA (γ 0) 165 9 (r.2.nodes.map Qs)])
abbrev Kp (bx0 : Nat) (r : Int × Qe) : ES := fT 51 [1,1,1] ff59 (Bi bx0 r)
abbrev Lu (bx0 : Nat) (r : Int × Qe) : ES := Qz 0 ((Kp bx0 r))
theorem K3 {r : Int × Qe} (K bx0 : Nat) : ∀ (k : Nat), ∀ (j : ByteArray) (m q : Int) (v w : Int) (ac : List Q0) (y : List Int) (ad aa : Value), Xg K k j m q v w ac y = some r → TL tp 51 (ca [1,1,0,0,0] ff59) ⟨[(0, .ptr bx0 0), (3, .c (.ex aa))], [(Sb bx0 j m ad q v w), .arrA ad 165 9 (ac.map Qs), .arrA aa 3 1 (mI y)]⟩ (Lu bx0 r) := by
 intro k
 induction k with
 | zero =>
  intro j m q v w ac y ad aa h
  exact zn h
 | succ k ih =>
  intro j m q v w ac y ad aa h
  rw [Xg] at h
  refine Za (T.seq (T.seq (Us (gM rfl (fun _ => .f rfl) (fun _ => rfl) ?_))))
  obtain ⟨p, al, h⟩ := bind_some h
  refine DGG.step (c := fun a => ⟨some 8, .bool p, [(7, .ptr bx0 0)], [(1, .arrA ad 165 9 (ac.map Qs)), (0, (Sb bx0 j m ad q v w))], [(0, (Sb bx0 j m ((a 1).1 0) q v w)), (1, .arrA ((a 1).1 0) 165 9 ((ac).map Qs))]⟩) [1] (fun a γ' h => by simp only [h 1 (by decide)]) (fun a t hm => oF rfl rfl (Q6 (is := [0, 1]) (ph := []) rfl (dk rfl) fu60 rfl rfl (Zs.cons hm.s0 Zs.nil) (Un K (bx0 := bx0) (wx0c2 := ad) al) (.cons hm.o1 rfl (.cons hm.o0 rfl (.nil))) (fun _ => rfl) (fun g => ⟨(g, 0), rfl⟩))) (fun a => Zr rfl rfl) (gT rfl (fun _ => .f rfl) (fun _ => rfl) (gM rfl (fun _ => .f rfl) (fun _ => rfl) ?_))
  rcases Qh h with ⟨b, h⟩ | ⟨b, h⟩
  refine gM rfl (fun _ => .n b rfl) (fun _ => rfl) (gK rfl (fun _ => .n b rfl) (fun _ => rfl) (gP rfl (fun _ => .n b rfl) Mi i9 (fun _ => rfl) (DGG.step (c := fun a => ⟨some 14, .str j, [(13, .ptr bx0 (0 + 0)), (10, .bool (!p))], [(0, (Sb bx0 j m ((a 1).1 0) q v w))], []⟩) [1] (fun a γ' h => by simp only [h 1 (by decide)]) (fun a t hm => oN rfl rfl rfl hm.s1 b (Yr (i := 0) rfl (dk rfl) ul9 rfl hm.s0 hm.o0 rfl ⟨u0, rfl⟩)) (fun a => Zr rfl rfl) (gM rfl (fun _ => .n b rfl) (fun _ => rfl) (gK rfl (fun _ => .n b rfl) (fun _ => rfl) (gP rfl (fun _ => .n b rfl) Mi i3 (fun _ => rfl) ?_))))))
  refine DGG.step (c := fun a => ⟨some 18, .int .i64 m, [(17, .ptr bx0 (0 + 1)), (10, .bool (!p))], [(0, (Sb bx0 j m ((a 1).1 0) q v w))], []⟩) [1] (fun a γ' h => by simp only [h 1 (by decide)]) (fun a t hm => oN rfl rfl rfl hm.s1 b (Yr (i := 0) rfl (dk rfl) ul3 rfl hm.s0 hm.o0 rfl ⟨u0, rfl⟩)) (fun a => Zr rfl rfl) ?_
  obtain ⟨ag, h⟩ := Q9 h
  refine dC (c := ⟨some 19, .int .u8 (bt j m), [(14, .str j), (18, .int .i64 m), (10, .bool (!p))], [], []⟩) (fun t hm => oN rfl rfl rfl hm.s2 b (Lg rfl (dk rfl) ul9 hm.s0 hm.s1 ag.1 ag.2 ⟨u0, rfl⟩)) (fun _ => rfl) (fun _ => rfl) (gI rfl (fun _ => .n b rfl) (fun _ => rfl) (gY rfl (fun _ => .f rfl) b (fun _ => rfl) (gF [0,1,3,7,15,31,63,127,15,271,783,1807,4095,8191,16383] Q3 rfl (by kernel_rfl) (fun _ => by kernel_rfl) (fun a u hu => (tN (Qm hu ?_))))))
  rcases Qh h with ⟨ai, h⟩ | ⟨ai, h⟩
  refine Qt rfl ai (T.skip (tN (T.block (sR (Qq (mw rfl (oK rfl (oP Mi i3 rfl ?_))))))))
  refine oL 0 ul3 rfl (oI rfl (oK rfl (oP Mi i3 rfl (sp rfl (V3 (i := 0) (cells' := [.d (.str j), .d (.int .i64 (wI (m + (1:Int)))), .d (.ex ((a 1).1 0)), .d (.int .i64 q), .d (.int .i64 v), .d (.int .i64 w)]) rfl rfl i3 rfl rfl rfl (nb rfl) rfl (nL (tN (Qq ?_))))))))
  refine mw rfl (mw rfl ?_)
  obtain ⟨ab, am, h⟩ := bind_some h
  refine sp rfl (Q6 (is := [0, 1]) (ph := []) rfl (dk rfl) fu98 rfl rfl (Zs.cons rfl Zs.nil) (Mf K (bx0 := bx0) (wx0c2 := ((a 1).1 0)) am) (.cons rfl rfl (.cons rfl rfl (.nil))) (fun _ => rfl) (fun an => (nm (.c (.c (.c (.n)))) (sp rfl (OpT.buildSlice (elems := ([ab.1] : List Int).map (cI .i64)) rfl (dk rfl) Z5 i3 (by decide) rfl (Hb rfl) rfl rfl rfl (Xh rfl) (by decide) ?_)))))
  obtain ⟨ap, h⟩ := Q9 h
  refine sp rfl (Zj (i := 2) (xs := y) (ys := [ab.1]) (f := (cI .i64)) rfl (dk rfl) Z5 i3 rfl rfl rfl rfl ap (fun aq => (aw rfl (nL (Qj (tN ?_))))))
  refine Qg ?_ (ih ab.2.s ab.2.at_ ab.2.deep ab.2.e ab.2.where_ ab.2.nodes (y ++ [ab.1]) (an 0) aq h)
  exact tq rfl rfl
  cases h
  refine DGG.off b rfl rfl rfl rfl rfl (fun _ => rfl) (DGG.off b rfl rfl rfl rfl rfl (fun _ => rfl) (DGG.off b rfl rfl rfl rfl rfl (fun _ => rfl) (DGG.off b rfl rfl rfl rfl rfl (fun _ => rfl) (DGG.off b rfl rfl rfl rfl rfl (fun _ => rfl) (DGG.off b rfl rfl rfl rfl rfl (fun _ => rfl) (DGG.off b rfl rfl rfl rfl rfl (fun _ => rfl) ?_))))))
  refine DGG.off b rfl rfl rfl rfl rfl (fun _ => rfl) (DGG.off b rfl rfl rfl rfl rfl (fun _ => rfl) (DGG.off b rfl rfl rfl rfl rfl (fun _ => rfl) (gZ rfl (fun _ => .f rfl) b (fun _ => rfl) (gF [0,1,3,7,15,31,63,127,15,271,783,1807,4095,8191,16383] Q3 rfl (by kernel_rfl) (fun _ => by kernel_rfl) (fun a u hu => (tN (Qm hu (Qo rfl rfl (T.exit (Qk (Qk (Qu (tN ?_)))))))))))))
  refine T.seq (sR (Qq (mw rfl (sp rfl (Hc (i := 2) (xs := y) (f := (cI .i64)) rfl (dk rfl) Z5 rfl rfl (oI rfl (mw rfl ?_)))))))
  rcases Qh h with ⟨af, h⟩ | ⟨af, h⟩
  cases h
  refine sn rfl af (OpT.move rfl (dk rfl) rfl (sn rfl af (OpT.nilCheck rfl (dk rfl) rfl rfl (sn rfl af (Ur rfl (dk rfl) Mi rfl i30 (by decide) rfl (sn rfl af (Yr (i := 0) rfl (dk rfl) ul30 rfl rfl rfl rfl (sn rfl af (Z9 rfl rfl (dk rfl) rfl rfl (oZ af rfl (nL (tN ?_))))))))))))
  rcases Qh h with ⟨aj, h⟩ | ⟨aj, h⟩
  cases h
  refine Qo rfl aj (T.skip (tN (sR (Qq (mw rfl (mw rfl (sp rfl (Zi (OpT.build (l := [.int .u8 (4:Int), .int .u64 (Zh.mk 0 0 0 0).a0, .int .u64 (Zh.mk 0 0 0 0).a1, .int .u64 (Zh.mk 0 0 0 0).a2, .int .u64 (Zh.mk 0 0 0 0).a3, .ex aa, .int .i64 (0:Int), .int .i64 (0:Int), .str (⟨#[]⟩ : ByteArray)]) rfl (dk rfl) (Zp (pl := [(0, 1), (1, 4), (5, 1), (6, 1), (7, 1), (8, 1)]) Lj i165 rfl) (Hb rfl) rfl rfl rfl) (Zy 49 (l := [.int .u8 (4:Int), .int .u64 (Zh.mk 0 0 0 0).a0, .int .u64 (Zh.mk 0 0 0 0).a1, .int .u64 (Zh.mk 0 0 0 0).a2, .int .u64 (Zh.mk 0 0 0 0).a3, .ex aa, .int .i64 (0:Int), .int .i64 (0:Int), .str (⟨#[]⟩ : ByteArray)]) (l' := [.int .u8 (4:Int), .int .u64 (Zh.mk 0 0 0 0).a0, .int .u64 (Zh.mk 0 0 0 0).a1, .int .u64 (Zh.mk 0 0 0 0).a2, .int .u64 (Zh.mk 0 0 0 0).a3, .sl false 1 (mI y), .int .i64 (0:Int), .int .i64 (0:Int), .str (⟨#[]⟩ : ByteArray)]) (.cons (.same _) (.cons (.same _) (.cons (.same _) (.cons (.same _) (.cons (.same _) (.cons (.view 2 rfl) (.cons (.same _) (.cons (.same _) (.cons (.same _) (.refl _))))))))))) ?_))))))))
  obtain ⟨ay, au, h⟩ := bind_some h
  refine sp rfl (Q6 (is := [0, 1]) (ph := []) rfl (dk rfl) fu99 rfl rfl (Zs.cons rfl (Zs.cons rfl Zs.nil)) (W5 K (bx0 := bx0) (wx0c2 := ((a 1).1 0)) au) (.cons rfl rfl (.cons rfl rfl (.nil))) (fun _ => rfl) (fun av => (nm (.c (.c (.c (.n)))) (aw rfl (nL (tN (T.ret (Q1 (.cons _ _ _ _ (.tmp 2 _ rfl) .nil) (.cons 0 rfl (.cons 0 rfl (.nil _))) (by cases h; exact ⟨gl [av 0], rfl, rfl⟩)))))))))
theorem Bj (K : Nat) {x0 : Qe} {bx0 : Nat} {wx0c2 : Value} {r : Int × Qe} (h : Up K x0 = some r) : Ud tp 59 [.ptr bx0 0] [(Sb bx0 x0.s x0.at_ wx0c2 x0.deep x0.e x0.where_), .arrA wx0c2 165 9 (x0.nodes.map Qs)] (fun γ => (.int .i64 r.1)) (fun γ => [(Sb bx0 r.2.s r.2.at_ (γ 0) r.2.deep r.2.e r.2.where_), .arrA (γ 0) 165 9 (r.2.nodes.map Qs)]) := by
 refine CI 51 fu59 rfl ?_
 unfold Up at h
 refine sR (Qq (aw rfl (nL (tN (sR (Qq (mw rfl ?_)))))))
 obtain ⟨a, b, h⟩ := bind_some h
 refine sp rfl (Q6 (is := [0, 1]) (ph := []) rfl (dk rfl) fu98 rfl rfl (Zs.cons rfl Zs.nil) (Mf K (bx0 := bx0) (wx0c2 := wx0c2) b) (.cons rfl rfl (.cons rfl rfl (.nil))) (fun _ => rfl) (fun d => (nm (.c (.c (.n))) (sp rfl (OpT.buildSlice (elems := ([a.1] : List Int).map (cI .i64)) rfl (dk rfl) Z5 i3 (by decide) rfl (Hb rfl) rfl rfl rfl (Xh rfl) (by decide) (aw rfl (nL (tN (T.seq (T.block ?_))))))))))
 refine T.loop (TL.by_turnG (TurnG.ownFull 3 3 rfl) (fun f => ?_))
 refine Qg ?_ (K3 K bx0 K a.2.s a.2.at_ a.2.deep a.2.e a.2.where_ a.2.nodes [a.1] (d 0) f h)
 exact tr rfl (.c (.s .z) (.c (.s .z) (.c .z (.n _))))
abbrev raddleref04_Parse_q (r : (List Q0) × Int × Int) : ES := Jz tp ff35 (fun y t => y = (.tup [.sl false 9 (r.1.map Qs), .int .i64 r.2.1, .int .i64 r.2.2]) ∧ t = [])
theorem Qbf (K : Nat) {x0 : ByteArray} {r : (List Q0) × Int × Int} (h : Ca K x0 = some r) : Z1 tp 35 [.str x0] [] (.tup [.sl false 9 (r.1.map Qs), .int .i64 r.2.1, .int .i64 r.2.2]) := by
 refine CI 46 fu35 rfl ?_
 unfold Ca at h
 refine sR (Qq (aw rfl (aw rfl (aw rfl (nL (tN (T.seq (sR (Qq ?_)))))))))
 refine mw rfl (sp rfl (O4 rfl (dk rfl) ul9 rfl (oI rfl (nL (tN ?_)))))
 rcases Qh h with ⟨a, h⟩ | ⟨a, h⟩
 cases h
 refine Qo rfl a (T.skip (tN (sR (Qq (mw rfl (sp rfl (OpT.build (l := [.str x0, .int .i64 (0:Int), .ex (.slice none 0 0), .int .i64 (0:Int), .int .i64 (0:Int), .int .i64 (0:Int)]) rfl (dk rfl) (Zp (pl := [(0, 1), (1, 1), (2, 1), (3, 1), (4, 1), (5, 1)]) Mi i117 rfl) (Hb rfl) rfl rfl (sp rfl (Zw rfl (dk rfl) rfl (fun b => (aw rfl ?_)))))))))))
 refine nL (tN (sR (Qq (mw rfl (J8 (Y2 165 9) ?_)))))
 obtain ⟨m, p, h⟩ := bind_some h
 refine sp rfl (Q6 (is := [1, 0]) (ph := []) rfl (dk rfl) fu59 rfl rfl (Zs.cons rfl Zs.nil) (Bj K (bx0 := b) (wx0c2 := (Tp 5)) p) (.cons rfl rfl (.cons rfl rfl (.nil))) (fun _ => rfl) (fun q => (nm (.c (.c (.n))) (nL (tN (T.seq (sR (Qq (mw rfl ?_)))))))))
 obtain ⟨u, s, h⟩ := bind_some h
 refine sp rfl (Q6 (is := [1, 0]) (ph := []) rfl (dk rfl) fu60 rfl rfl (Zs.cons rfl Zs.nil) (Un K (bx0 := b) (wx0c2 := (q 0)) s) (.cons rfl rfl (.cons rfl rfl (.nil))) (fun _ => rfl) (fun v => (nm (.c (.c (.n))) (oT rfl (nL (tN ?_))))))
 rcases Qh h with ⟨d, h⟩ | ⟨d, h⟩
 cases h
 refine Qo rfl d (T.skip (tN (T.seq (sR (Qq (mw rfl (oK rfl (oP Mi i30 rfl ?_))))))))
 refine oL 1 ul30 rfl (oI rfl (nL (tN ?_)))
 rcases Qh h with ⟨g, h⟩ | ⟨g, h⟩
 cases h
 refine Qo rfl g (T.skip (tN (T.seq (sR (Qq (mw rfl (oK rfl (oP Mi i80 rfl ?_))))))))
 refine sp rfl (Zi (Yr (i := 1) rfl (dk rfl) P1 rfl rfl rfl rfl rfl) (J0 39 0 rfl) (oU m.2.nodes Qs P1 rfl (oI rfl (nL (tN ?_)))))
 rcases Qh h with ⟨j, h⟩ | ⟨j, h⟩
 cases h
 refine Qo rfl j (T.skip (tN (sR (Qq (mw rfl (oK rfl (oP Mi i80 rfl (oL 1 P1 rfl ?_))))))))
 refine aw rfl (aw rfl (aw rfl (nL (tN (T.ret (Xj (Zx.view 2 0 rfl rfl) (Fin.done (.cons _ _ _ _ (.tmp 2 _ rfl) (.cons _ _ _ _ (.tmp 3 _ rfl) (.cons _ _ _ _ (.tmp 4 _ rfl) .nil))) (by cases h; exact ⟨rfl, rfl⟩))))))))
abbrev Qb6 (r : (List Int) × Bool) : ES := Jz tp ff103 (fun y t => ∃ γ : Nat → Value, y = (.tup [.c (.ex (γ 0)), .bool r.2]) ∧ t = [.arrA (γ 0) 3 1 (mI r.1)])
abbrev R2 (r : (List Int) × Bool) : ES := fT 59 [1,1,1] ff103 (Qb6 r)
abbrev Oo (r : (List Int) × Bool) : ES := Qz 0 ((R2 r))
theorem S0 {r : (List Int) × Bool} (K : Nat) (rec_raddleref04_walk : (List Q0) → Int → (List Int) → Option ((List Int) × Bool)) (hrec_raddleref04_walk : M0 rec_raddleref04_walk) : ∀ (k : Nat), ∀ (x0 : List Q0) (x1 b : Int) (a : List Int) (flx0 : Bool) (d : Value), Hv K rec_raddleref04_walk k x0 x1 b a = some r → TL tp 59 (ca [1,1,0,1,0,0] ff103) ⟨[(0, .sl flx0 9 (x0.map Qs)), (1, .int .i64 x1), (2, .c (.ex d)), (8, .int .i64 b)], [.arrA d 3 1 (mI a)]⟩ (Oo r) := by
 intro k
 induction k with
 | zero =>
  intro x0 x1 b a flx0 d h
  exact zn h
 | succ k ih =>
  intro x0 x1 b a flx0 d h
  rw [Hv] at h
  refine Za (T.seq (sR (Qq ?_)))
  iterate 3 refine mw rfl ?_
  obtain ⟨j, m, h⟩ := bind_some h
  refine oX x0 Qs P1 i165 m rfl (sp rfl (Wa rfl (dk rfl) Lj rfl i38 (by decide) rfl (oR Z5 rfl (oU j.L (cI .i64) Z5 rfl (oI rfl (nL (tN ?_)))))))
  rcases Qh h with ⟨l, h⟩ | ⟨l, h⟩
  refine Qt rfl l (T.skip (tN (T.seq (T.block (sR (Qq (mw rfl (mw rfl ?_))))))))
  refine oX x0 Qs P1 i165 m rfl (sp rfl (Wa rfl (dk rfl) Lj rfl i38 (by decide) rfl (oR Z5 rfl (mw rfl ?_))))
  obtain ⟨p, u, h⟩ := bind_some h
  refine oX j.L (cI .i64) Z5 i3 u rfl (oR ul3 rfl (aw rfl (nL (tN (T.seq (sR (Qq (mw rfl ?_))))))))
  refine oI rfl (mw rfl ?_)
  rcases Qh h with ⟨g, h⟩ | ⟨g, h⟩
  cases h
  refine sn rfl g (OpT.move rfl (dk rfl) rfl (sn rfl g (OpT.move rfl (dk rfl) rfl (sn rfl g (Z9 rfl rfl (dk rfl) rfl rfl (oZ g rfl (nL (tN ?_))))))))
  rcases Qh h with ⟨q, h⟩ | ⟨q, h⟩
  cases h
  refine Qo rfl q (T.skip (tN (sR (Qq ?_))))
  iterate 3 refine mw rfl ?_
  obtain ⟨w, y, h⟩ := bind_some h
  refine sp rfl (Q6 (is := [0]) (ph := []) rfl (dk rfl) fu103 rfl rfl (Zs.cons rfl (Zs.cons rfl (Zs.cons rfl Zs.nil))) (hrec_raddleref04_walk x0 p a flx0 d _ y) (.cons rfl rfl (.nil)) (fun _ => rfl) (fun aa => (nm (.c (.n)) (mw rfl (oE rfl (oE rfl (aw rfl (aw rfl ?_))))))))
  refine nL (tN (T.seq (sR (Qq (mw rfl (oT rfl (nL (tN ?_))))))))
  rcases Qh h with ⟨s, h⟩ | ⟨s, h⟩
  cases h
  refine Qo rfl s (T.skip (tN (Qq (mw rfl (aw rfl (nL (Qj (tN (Qq ?_)))))))))
  refine mw rfl (oI rfl (aw rfl (nL (tN ?_))))
  refine Qg ?_ (ih x0 x1 (wI (b + (1:Int))) w.1 flx0 (aa 0) h)
  exact tq rfl rfl
  refine Qo rfl l (T.exit (Qk (Qk (Qu (tN (sR (Qq (mw rfl (mw rfl (sp rfl (OpT.buildSlice (elems := ([x1] : List Int).map (cI .i64)) rfl (dk rfl) Z5 i3 (by decide) rfl (Hb rfl) rfl rfl rfl (Xh rfl) (by decide) ?_)))))))))))
  obtain ⟨ab, h⟩ := Q9 h
  refine sp rfl (Zj (i := 0) (xs := a) (ys := [x1]) (f := (cI .i64)) rfl (dk rfl) Z5 i3 rfl rfl rfl rfl ab (fun ac => (aw rfl (aw rfl (nL (tN (T.ret (Q1 (.cons _ _ _ _ (.tmp 6 _ rfl) (.cons _ _ _ _ (.tmp 7 _ rfl) .nil)) (.cons 0 rfl (.nil _)) (by cases h; exact ⟨gl [ac], rfl, rfl⟩)))))))))
theorem T1 (K : Nat) (rec_raddleref04_walk : (List Q0) → Int → (List Int) → Option ((List Int) × Bool)) (hrec_raddleref04_walk : M0 rec_raddleref04_walk) {x0 : List Q0} {x1 : Int} {x2 : List Int} {flx0 : Bool} {wx2 : Value} {r : (List Int) × Bool} (h : Mz K rec_raddleref04_walk x0 x1 x2 = some r) : Ud tp 103 [.sl flx0 9 (x0.map Qs), .int .i64 x1, .c (.ex wx2)] [.arrA wx2 3 1 (mI x2)] (fun γ => (.tup [.c (.ex (γ 0)), .bool r.2])) (fun γ => [.arrA (γ 0) 3 1 (mI r.1)]) := by
 refine CI 59 fu103 rfl ?_
 unfold Mz at h
 refine sR (Qq (aw rfl (aw rfl (nL (tN (T.seq (sR (Qq (mw rfl ?_)))))))))
 refine sp rfl (Hc (i := 0) (xs := x2) (f := (cI .i64)) rfl (dk rfl) Z5 rfl rfl (mw rfl (oU x0 Qs P1 rfl (oI rfl (nL (tN ?_))))))
 rcases Qh h with ⟨a, h⟩ | ⟨a, h⟩
 cases h
 refine Qo rfl a (T.skip (tN (T.seq (sR (Qq (aw rfl (nL (tN (T.block ?_)))))))))
 refine T.loop ?_
 refine Qg ?_ (S0 K rec_raddleref04_walk hrec_raddleref04_walk K x0 x1 (0:Int) x2 flx0 wx2 h)
 exact tq rfl rfl
theorem T0 (K : Nat) : ∀ n, M0 (Gy K n) := by
 intro n
 induction n with
 | zero =>
  intro x0 x1 x2 flx0 wx2 r h
  exact zn h
 | succ n ih =>
  intro x0 x1 x2 flx0 wx2 r h
  exact T1 K (Gy K n) ih h
theorem Qb7 (K : Nat) {x0 : List Q0} {x1 : Int} {x2 : List Int} {flx0 : Bool} {wx2 : Value} {r : (List Int) × Bool} (h : Ra K x0 x1 x2 = some r) : Ud tp 103 [.sl flx0 9 (x0.map Qs), .int .i64 x1, .c (.ex wx2)] [.arrA wx2 3 1 (mI x2)] (fun γ => (.tup [.c (.ex (γ 0)), .bool r.2])) (fun γ => [.arrA (γ 0) 3 1 (mI r.1)]) := T0 K K x0 x1 x2 flx0 wx2 r h
abbrev Qbb (r : Bool) : ES := Jz tp ff102 (fun y t => y = (.bool r) ∧ t = [])
abbrev Nr (r : Bool) : ES := fT 144 [1,1,1,1,1] ff102 (Qbb r)
abbrev Fh (r : Bool) : ES := Qz 0 ((Nr r))
theorem Bv {r : Bool} (K : Nat) (g j l : Bool) (x0 : Q0) (m : Bool) (n : Nat) (h : Wp K g j l x0 m = some r) : T tp 144 (ca [1,1,1,1,0,1,0,1,1,1,1,1] ff102) ⟨[(1, .ptr n 0), (3, .bool g), (4, .bool j), (5, .bool l), (23, .int .u8 x0.Op), (59, .bool m)], [(b165x3 n x0.Op x0.S.a0 x0.S.a1 x0.S.a2 x0.S.a3 x0.L x0.Lo x0.Hi x0.Name)]⟩ (Fh r) := by
 unfold Wp at h
 rcases Qh h with ⟨p, h⟩ | ⟨p, h⟩
 refine Qt rfl p (sR (Qq (mw rfl (oT rfl (mw rfl ?_)))))
 rcases Qh h with ⟨b, h⟩ | ⟨b, h⟩
 refine sn rfl b (OpT.move rfl (dk rfl) rfl (sn rfl b (OpT.not rfl (dk rfl) rfl (oY b rfl (mw rfl ?_)))))
 rcases Qh h with ⟨c, h⟩ | ⟨c, h⟩
 refine sn rfl c (OpT.move rfl (dk rfl) rfl (sn rfl c (OpT.not rfl (dk rfl) rfl (oY c rfl (mw rfl ?_)))))
 rcases Qh h with ⟨a, h⟩ | ⟨a, h⟩
 refine sn rfl a (Ur rfl (dk rfl) Lj rfl i38 (by decide) rfl (sn rfl a (Yr (i := 0) rfl (dk rfl) Z5 rfl rfl rfl rfl (sn rfl a (Vm (xs := x0.L) (f := (cI .i64)) rfl (dk rfl) Z5 rfl (sn rfl a (Z9 rfl rfl (dk rfl) rfl rfl (oY a rfl (aw rfl (nL (tN ?_)))))))))))
 refine T.ret (Q7 (Qy (fd rfl (by cases h; exact ⟨rfl, rfl⟩))))
 cases h
 cases h
 cases h
 cases h
theorem Qbc (K : Nat) {x0 : Q0} {r : Bool} (h : B7 K x0 = some r) : Z1 tp 102 [.agg [.int .u8 x0.Op, .int .u64 x0.S.a0, .int .u64 x0.S.a1, .int .u64 x0.S.a2, .int .u64 x0.S.a3, .sl false 1 (mI x0.L), .int .i64 x0.Lo, .int .i64 x0.Hi, .str x0.Name]] [] (.bool r) := by
 refine CI 144 fu102 rfl ?_
 unfold B7 at h
 refine sR (Qq (sp rfl (Zw rfl (dk rfl) rfl (fun p => (aw rfl (nL (tN (sR (Qq (oP Lj i63 rfl (oA 0 (Zh.dc .u64 x0.S) Qdo i63 rfl (sp rfl (OpT.build (l := (Zh.dc .u64 (Zh.mk 0 0 0 0))) rfl (dk rfl) (Qcn Qdo i63 i61) (Hb rfl) rfl rfl ?_)))))))))))))
 refine sp rfl (OpT.intsNeq (k := .u64) (xs := [x0.S.a0, x0.S.a1, x0.S.a2, x0.S.a3]) (ys := [(Zh.mk 0 0 0 0).a0, (Zh.mk 0 0 0 0).a1, (Zh.mk 0 0 0 0).a2, (Zh.mk 0 0 0 0).a3]) rfl (dk rfl) Qdo ul61 i61 Tryz.eqGuardType63 rfl rfl rfl rfl rfl rfl (Qdy x0.S (Zh.mk 0 0 0 0)) (aw rfl (nL (tN (sR (Qq (oP Lj i3 rfl (oL 0 ul3 rfl (oI rfl (mw rfl ?_))))))))))
 rcases Qh h with ⟨b, h⟩ | ⟨b, h⟩
 cases h
 refine sn rfl b (Ur rfl (dk rfl) Lj rfl i3 (by decide) rfl (sn rfl b (Yr (i := 0) rfl (dk rfl) ul3 rfl rfl rfl rfl (sn rfl b (Z9 rfl rfl (dk rfl) rfl rfl (oZ b rfl (aw rfl (nL (tN (sR (Qq (oP Lj i9 rfl ?_))))))))))))
 refine oL 0 ul9 rfl (sp rfl (OpT.str_neq rfl (dk rfl) rfl rfl (aw rfl (nL (tN (T.seq (sR (Qq (oP Lj i5 rfl ?_)))))))))
 refine oL 0 ul5 rfl (nL (tN (T.block (sR (Qq (oI rfl (aw rfl (nL (tN ?_)))))))))
 rcases Qh h with ⟨q, h⟩ | ⟨q, h⟩
 cases h
 refine Qo rfl q (sR (Qq (oI rfl (aw rfl (nL (tN ?_))))))
 rcases Qh h with ⟨j, h⟩ | ⟨j, h⟩
 refine Qt rfl j (sR (Qq (mw rfl (mw rfl ?_))))
 rcases Qh h with ⟨d, h⟩ | ⟨d, h⟩
 refine sn rfl d (OpT.move rfl (dk rfl) rfl (sn rfl d (OpT.not rfl (dk rfl) rfl (oY d rfl (mw rfl ?_)))))
 rcases Qh h with ⟨g, h⟩ | ⟨g, h⟩
 refine sn rfl g (OpT.move rfl (dk rfl) rfl (sn rfl g (OpT.not rfl (dk rfl) rfl (oY g rfl (mw rfl ?_)))))
 rcases Qh h with ⟨a, h⟩ | ⟨a, h⟩
 refine sn rfl a (Ur rfl (dk rfl) Lj rfl i38 (by decide) rfl (sn rfl a (Yr (i := 0) rfl (dk rfl) Z5 rfl rfl rfl rfl (sn rfl a (Vm (xs := x0.L) (f := (cI .i64)) rfl (dk rfl) Z5 rfl (sn rfl a (Z9 rfl rfl (dk rfl) rfl rfl (oY a rfl (aw rfl (nL (tN ?_)))))))))))
 refine T.ret (Q7 (Qy (fd rfl (by cases h; exact ⟨rfl, rfl⟩))))
 cases h
 cases h
 cases h
 refine Qo rfl j (T.seq (sR (Qq (oI rfl (aw rfl (nL (tN ?_)))))))
 rcases Qh h with ⟨m, h⟩ | ⟨m, h⟩
 refine Qt rfl m (T.skip (tN ?_))
 refine Qm ?_ (Bv K (!(Zh.same x0.S (Zh.mk 0 0 0 0))) (x0.Hi != (0:Int)) (!(x0.Name.toList == (⟨#[]⟩ : ByteArray).toList)) x0 (x0.Op == (3:Int)) p h)
 exact tq rfl rfl
 refine Qo rfl m (Qq (oI rfl (aw rfl (nL (tN ?_)))))
 refine Qm ?_ (Bv K (!(Zh.same x0.S (Zh.mk 0 0 0 0))) (x0.Hi != (0:Int)) (!(x0.Name.toList == (⟨#[]⟩ : ByteArray).toList)) x0 (x0.Op == (4:Int)) p h)
 exact tq rfl rfl
abbrev Fj (r : Bool) : ES := Jz tp ff64 (fun y t => y = (.bool r) ∧ t = [])
abbrev Il (r : Bool) : ES := fT 56 [1,1,1,1,1,1] ff64 (Fj r)
abbrev Ee (r : Bool) : ES := Qz 2 ((Il r))
abbrev Pl (r : Bool) : ES := fT 56 [1,1,1] ff64 (Fj r)
abbrev Nw (r : Bool) : ES := Qz 0 ((Pl r))
theorem R3 {r : Bool} (K : Nat) : ∀ (k : Nat), ∀ (b : Int) (a : List Int) (d : Value), Wq K k b a = some r → TL tp 56 (ca [1,1,1,1,1,0,1,0,0] ff64) ⟨[(4, .c (.ex d)), (6, .int .i64 b)], [.arrA d 3 1 (mI a)]⟩ (Ee r) := by
 intro k
 induction k with
 | zero =>
  intro b a d h
  exact zn h
 | succ k ih =>
  intro b a d h
  rw [Wq] at h
  refine Za (T.seq (sR (Qq (mw rfl (mw rfl (sp rfl (Hc (i := 0) (xs := a) (f := (cI .i64)) rfl (dk rfl) Z5 rfl rfl (oI rfl ?_))))))))
  refine nL (tN ?_)
  rcases Qh h with ⟨g, h⟩ | ⟨g, h⟩
  refine Qt rfl g (T.skip (tN (T.seq (T.block (sR (Qq (mw rfl (mw rfl ?_))))))))
  refine J8 (Zx.view 50 0 rfl rfl) ?_
  obtain ⟨l, m, h⟩ := bind_some h
  refine oX a (cI .i64) Z5 i3 m rfl (oR ul3 rfl (mw rfl (oI rfl (nL (tN ?_)))))
  rcases Qh h with ⟨j, h⟩ | ⟨j, h⟩
  cases h
  refine Qo rfl j (T.skip (Qj (tN (Qq (mw rfl (oI rfl (aw rfl (nL (tN ?_)))))))))
  refine Qg ?_ (ih (wI (b + (1:Int))) a d h)
  exact tq rfl rfl
  refine Qo rfl g (T.exit (Qk (Qk (Qu (tN (sR (Qq (aw rfl (nL (tN (T.ret (fd rfl (by cases h; exact ⟨rfl, rfl⟩)))))))))))))
theorem R4 {r : Bool} (K : Nat) : ∀ (k : Nat), ∀ (x0 : List Q0) (b : Int) (flx0 : Bool), Ws K k x0 b = some r → TL tp 56 (ca [1,1,0,1,0,0] ff64) ⟨[(0, .sl flx0 9 (x0.map Qs)), (3, .int .i64 b)], []⟩ (Nw r) := by
 intro k
 induction k with
 | zero =>
  intro x0 b flx0 h
  exact zn h
 | succ k ih =>
  intro x0 b flx0 h
  rw [Ws] at h
  refine Za (T.seq (sR (Qq (mw rfl (mw rfl (oU x0 Qs P1 rfl (oI rfl ?_)))))))
  refine nL (tN ?_)
  rcases Qh h with ⟨d, h⟩ | ⟨d, h⟩
  refine Qt rfl d (T.skip (tN (T.seq (T.block (sR (Qq (mw rfl (mw rfl ?_))))))))
  obtain ⟨m, p, h⟩ := bind_some h
  refine oX x0 Qs P1 i165 p rfl (oJ Lj i165 rfl ?_)
  obtain ⟨w, q, h⟩ := bind_some h
  refine oH fu102 (Z1.nil (Qbc K q)) rfl (oT rfl (nL (tN ?_)))
  rcases Qh h with ⟨g, h⟩ | ⟨g, h⟩
  cases h
  refine Qo rfl g (T.skip (Qj (tN (Qq (mw rfl (oI rfl (aw rfl (nL (tN ?_)))))))))
  refine Qg ?_ (ih x0 (wI (b + (1:Int))) flx0 h)
  exact tq rfl rfl
  refine Qo rfl d (T.exit (Qk (Qk (Qu (tN (sR (Qq (mw rfl (mw rfl (oU x0 Qs P1 rfl (oI rfl ?_)))))))))))
  refine J8 (Y2 3 1) ?_
  obtain ⟨j, s, h⟩ := bind_some h
  refine sp rfl (Q6 (is := [0]) (ph := []) rfl (dk rfl) fu103 rfl rfl (Zs.cons rfl (Zs.cons rfl (Zs.cons rfl Zs.nil))) (Qb7 K (flx0 := flx0) (wx2 := (Tp 10)) s) (.cons rfl rfl (.nil)) (fun _ => rfl) (fun u => (nm (.c (.n)) (mw rfl (oE rfl (oE rfl (aw rfl (aw rfl ?_))))))))
  refine nL (tN (T.seq (sR (Qq (mw rfl (oT rfl (mw rfl ?_)))))))
  rcases Qh h with ⟨a, h⟩ | ⟨a, h⟩
  cases h
  refine sn rfl a (OpT.move rfl (dk rfl) rfl (sn rfl a (Hc (i := 0) (xs := j.1) (f := (cI .i64)) rfl (dk rfl) Z5 rfl rfl (sn rfl a (OpT.move rfl (dk rfl) rfl (sn rfl a (Vm (xs := x0) (f := Qs) rfl (dk rfl) P1 rfl (sn rfl a (Z9 rfl rfl (dk rfl) rfl rfl (oZ a rfl (nL (tN ?_))))))))))))
  rcases Qh h with ⟨l, h⟩ | ⟨l, h⟩
  cases h
  refine Qo rfl l (T.skip (tN (T.seq (sR (Qq (aw rfl (nL (tN (T.block ?_)))))))))
  refine T.loop ?_
  refine Qg ?_ (R3 K K (0:Int) j.1 (u 0) h)
  exact tq rfl rfl
theorem Fk (K : Nat) {x0 : List Q0} {flx0 r : Bool} (h : Lw K x0 = some r) : Z1 tp 64 [.sl flx0 9 (x0.map Qs)] [] (.bool r) := by
 refine CI 56 fu64 rfl ?_
 unfold Lw at h
 refine sR (Qq (aw rfl (nL (tN (T.seq (sR (Qq (mw rfl (oU x0 Qs P1 rfl ?_)))))))))
 refine oI rfl (mw rfl ?_)
 rcases Qh h with ⟨a, h⟩ | ⟨a, h⟩
 cases h
 refine sn rfl a (OpT.move rfl (dk rfl) rfl (sn rfl a (Vm (xs := x0) (f := Qs) rfl (dk rfl) P1 rfl (sn rfl a (Z9 rfl rfl (dk rfl) rfl rfl (oZ a rfl (nL (tN ?_))))))))
 rcases Qh h with ⟨b, h⟩ | ⟨b, h⟩
 cases h
 refine Qo rfl b (T.skip (tN (T.seq (sR (Qq (aw rfl (nL (tN (T.block ?_)))))))))
 refine T.loop ?_
 refine Qg ?_ (R4 K K x0 (0:Int) flx0 h)
 exact tq rfl rfl
abbrev Qba (r : Bool) : ES := Jz tp ff62 (fun y t => y = (.bool r) ∧ t = [])
abbrev R0 (r : Bool) : ES := fT 18 [1,1] ff62 (Qba r)
abbrev On (r : Bool) : ES := Qz 0 ((R0 r))
theorem R1 {r : Bool} (K : Nat) : ∀ (k : Nat), ∀ (x0 : List Q0) (a : Int) (flx0 : Bool), Wo K k x0 a = some r → TL tp 18 (ca [1,0,1,0,0] ff62) ⟨[(0, .sl flx0 9 (x0.map Qs)), (3, .int .i64 a)], []⟩ (On r) := by
 intro k
 induction k with
 | zero =>
  intro x0 a flx0 h
  exact zn h
 | succ k ih =>
  intro x0 a flx0 h
  rw [Wo] at h
  refine Za (T.seq (sR (Qq (mw rfl (mw rfl (oU x0 Qs P1 rfl (oI rfl ?_)))))))
  refine nL (tN ?_)
  rcases Qh h with ⟨b, h⟩ | ⟨b, h⟩
  refine Qt rfl b (T.skip (tN (T.seq (T.block (sR (Qq (mw rfl (mw rfl ?_))))))))
  obtain ⟨d, g, h⟩ := bind_some h
  refine oX x0 Qs P1 i165 g rfl (sp rfl (Wa rfl (dk rfl) Lj rfl i5 (by decide) rfl (oR ul5 rfl (oI rfl (nL (tN ?_))))))
  rcases Qh h with ⟨c, h⟩ | ⟨c, h⟩
  refine Qt rfl c (sR (Qq (aw rfl (nL (tN (T.ret (Q7 (Qy (Qy (Q7 (Qy (fd rfl (by cases h; exact ⟨rfl, rfl⟩)))))))))))))
  refine Qo rfl c (T.skip (Qj (tN (Qq (mw rfl (oI rfl (aw rfl (nL (tN ?_)))))))))
  refine Qg ?_ (ih x0 (wI (a + (1:Int))) flx0 h)
  exact tq rfl rfl
  refine Qo rfl b (T.exit (Qk (Qk (Qu (tN (sR (Qq (mw rfl ?_))))))))
  obtain ⟨j, i, h⟩ := bind_some h
  refine oH fu64 (Z1.nil (Fk K (flx0 := flx0) i)) rfl (aw rfl (nL (tN (T.ret (fd rfl (by cases h; exact ⟨rfl, rfl⟩))))))
theorem Fg (K : Nat) {x0 : List Q0} {flx0 r : Bool} (h : Lt K x0 = some r) : Z1 tp 62 [.sl flx0 9 (x0.map Qs)] [] (.bool r) := by
 refine CI 18 fu62 rfl ?_
 unfold Lt at h
 refine sR (Qq (aw rfl (nL (tN (T.seq (sR (Qq (aw rfl (nL (tN ?_))))))))))
 refine T.block (T.loop ?_)
 refine Qg ?_ (R1 K K x0 (0:Int) flx0 h)
 exact tq rfl rfl
abbrev raddleref08_planner_put_q (bx0 : Nat) (r : Int × Qw) : ES := Jz tp ff101 (fun y t => ∃ γ : Nat → Value, y = (.int .i64 r.1) ∧ t = [(O1 bx0 r.2.l r.2.most (γ 0) r.2.long), .arrA (γ 0) 165 9 (r.2.out.map Qs)])
theorem Np (K : Nat) {x0 : Qw} {x1 : Q0} {bx0 : Nat} {wx0c2 : Value} {r : Int × Qw} (h : Hu K x0 x1 = some r) : Ud tp 101 [.ptr bx0 0, .agg [.int .u8 x1.Op, .int .u64 x1.S.a0, .int .u64 x1.S.a1, .int .u64 x1.S.a2, .int .u64 x1.S.a3, .sl false 1 (mI x1.L), .int .i64 x1.Lo, .int .i64 x1.Hi, .str x1.Name]] [(O1 bx0 x0.l x0.most wx0c2 x0.long), .arrA wx0c2 165 9 (x0.out.map Qs)] (fun γ => (.int .i64 r.1)) (fun γ => [(O1 bx0 r.2.l r.2.most (γ 0) r.2.long), .arrA (γ 0) 165 9 (r.2.out.map Qs)]) := by
 refine CI 30 fu101 rfl ?_
 unfold Hu at h
 refine sR (Qq (sp rfl (Zw rfl (dk rfl) rfl (fun b => (aw rfl (nL (tN (T.seq (sR (Qq (mw rfl ?_)))))))))))
 refine oK rfl (oP ul123 i80 rfl (sp rfl (Zi (Yr (i := 1) rfl (dk rfl) P1 rfl rfl rfl rfl rfl) (J0 8 2 rfl) (oU x0.out Qs P1 rfl (oI rfl (nL (tN ?_)))))))
 rcases Qh h with ⟨g, h⟩ | ⟨g, h⟩
 cases h
 refine Qo rfl g (T.skip (tN (T.seq (Qm Yk (Us (gM rfl (fun _ => .f rfl) (fun _ => rfl) (gM rfl (fun _ => .f rfl) (fun _ => rfl) ?_)))))))
 refine gK rfl (fun _ => .f rfl) (fun _ => rfl) (gP rfl (fun _ => .f rfl) ul123 i80 (fun _ => rfl) (gL 2 rfl (fun _ => .f rfl) P1 (fun _ => rfl) (gW 1 [.int .u8 x1.Op, .int .u64 x1.S.a0, .int .u64 x1.S.a1, .int .u64 x1.S.a2, .int .u64 x1.S.a3, .sl false 1 (mI x1.L), .int .i64 x1.Lo, .int .i64 x1.Hi, .str x1.Name] rfl (fun _ => .f rfl) Lj i165 (fun _ => rfl) (dC (c := ⟨some 20, .sl true 9 ([x1].map Qs), [(19, .agg [.int .u8 x1.Op, .int .u64 x1.S.a0, .int .u64 x1.S.a1, .int .u64 x1.S.a2, .int .u64 x1.S.a3, .sl false 1 (mI x1.L), .int .i64 x1.Lo, .int .i64 x1.Hi, .str x1.Name])], [], []⟩) (fun t hm => oF rfl rfl (OpT.buildSlice (elems := ([x1] : List Q0).map Qs) rfl (dk rfl) P1 i165 (by decide) rfl (Hb rfl) (Y1 hm.s0 rfl Jl) rfl rfl (Xh rfl) (by decide) ⟨u0, rfl⟩)) (fun _ => rfl) (fun _ => rfl) ?_))))
 obtain ⟨j, h⟩ := Q9 h
 refine DGG.step (c := fun a => ⟨some 21, .c (.ex ((a 7).1 0)), [(20, .sl true 9 ([x1].map Qs)), (18, .c (.ex wx0c2))], [(3, .arrA wx0c2 165 9 (x0.out.map Qs))], [(3, .arrA ((a 7).1 0) 165 9 ((x0.out ++ [x1]).map Qs))]⟩) [7] (fun a γ' h => by simp only [h 7 (by decide)]) (fun a t hm => oF rfl rfl (Zj (i := 3) (xs := x0.out) (ys := [x1]) (f := Qs) rfl (dk rfl) P1 i165 rfl hm.s1 hm.o0 hm.s0 j (fun w => ⟨(fun _ => w, 0), rfl⟩))) (fun a => Zr rfl rfl) (gK rfl (fun _ => .f rfl) (fun _ => rfl) (gP rfl (fun _ => .f rfl) ul123 i80 (fun _ => rfl) (DGG.step (c := fun a => ⟨none, .any, [(23, .ptr bx0 (0 + 2)), (21, .c (.ex ((a 7).1 0)))], [(2, (O1 bx0 x0.l x0.most wx0c2 x0.long))], [(2, (O1 bx0 x0.l x0.most ((a 7).1 0) x0.long))]⟩) [7] (fun a γ' h => by simp only [h 7 (by decide)]) (fun a t hm => oF rfl rfl (V3 (i := 2) (cells' := [.d (.sl false 9 (x0.l.map Qs)), .d (.int .i64 x0.most), .d (.ex ((a 7).1 0)), .d (.bool x0.long)]) rfl rfl i80 hm.s0 hm.s1 hm.o0 (nb rfl) rfl ⟨u0, rfl⟩)) (fun a => Zr rfl rfl) (gF [0,0,2,6,14,0,32,126,255,511,1023] Q3 rfl (by kernel_rfl) (fun _ => by kernel_rfl) (fun a u hu => (tN (Qm hu (sR (Qq (mw rfl ?_))))))))))
 refine oK rfl (oP ul123 i80 rfl (sp rfl (Zi (Yr (i := 2) rfl (dk rfl) P1 rfl rfl rfl rfl rfl) (J0 27 3 rfl) (oU (x0.out ++ [x1]) Qs P1 rfl (oI rfl (aw rfl (nL (tN ?_))))))))
 refine T.ret (Q1 (.cons _ _ _ _ (.tmp 4 _ rfl) .nil) (.cons 2 rfl (.cons 2 rfl (.nil _))) (by cases h; exact ⟨gl [(a 7).1 0], rfl, rfl⟩))
abbrev Ij (bx0 : Nat) (r : Int × Qw) : ES := Jz tp ff63 (fun y t => ∃ γ : Nat → Value, y = (.int .i64 r.1) ∧ t = [(O1 bx0 r.2.l r.2.most (γ 0) r.2.long), .arrA (γ 0) 165 9 (r.2.out.map Qs)])
abbrev My (bx0 : Nat) (r : Int × Qw) : ES := fT 47 [1,1,1,1,1,1] ff63 (Ij bx0 r)
abbrev K1 (bx0 : Nat) (r : Int × Qw) : ES := Qz 0 ((My bx0 r))
theorem Dl {r : Int × Qw} (K : Nat) (rec_raddleref08_planner_plan : Qw → Int → Option (Int × Qw)) (hrec_raddleref08_planner_plan : Jv rec_raddleref08_planner_plan) (bx0 : Nat) : ∀ (k : Nat), ∀ (y : Int) (aa : List Q0) (ab : Int) (ac : Bool) (ad : List Q0) (b : Int) (a : Zh) (p : List Int) (g j : Int) (m : ByteArray) (q : List Int) (w : Value) (af : Nat) (s : Value), Vs K rec_raddleref08_planner_plan k y aa ab ac ad b a p g j m q = some r → TL tp 47 (ca [1,1,1,1,1,0,1,0,0] ff63) ⟨[(0, .ptr bx0 0), (5, .ptr af 0), (6, .c (.ex s)), (7, .int .i64 y)], [(O1 bx0 aa ab w ac), .arrA w 165 9 (ad.map Qs), (b165x3 af b a.a0 a.a1 a.a2 a.a3 p g j m), .arrA s 3 1 (mI q)]⟩ (K1 bx0 r) := by
 intro k
 induction k with
 | zero =>
  intro y aa ab ac ad b a p g j m q w af s h
  exact zn h
 | succ k ih =>
  intro y aa ab ac ad b a p g j m q w af s h
  rw [Vs] at h
  refine Za (T.seq (sR (Qq (mw rfl (oP Lj i38 rfl (oL 2 Z5 rfl (oU p (cI .i64) Z5 rfl ?_)))))))
  refine oI rfl (nL (tN ?_))
  rcases Qh h with ⟨ag, h⟩ | ⟨ag, h⟩
  refine Qt rfl ag (T.skip (tN (T.seq (T.block (Qq (mw rfl (mw rfl ?_)))))))
  refine oP Lj i38 rfl (oL 2 Z5 rfl (mw rfl ?_))
  obtain ⟨ai, aj, h⟩ := bind_some h
  refine oX p (cI .i64) Z5 i3 aj rfl (oR ul3 rfl ?_)
  obtain ⟨u, al, h⟩ := bind_some h
  refine sp rfl (Q6 (is := [0, 1]) (ph := []) rfl (dk rfl) fu63 rfl rfl (Zs.cons rfl (Zs.cons rfl Zs.nil)) (hrec_raddleref08_planner_plan (Qw.mk aa ab ad ac) ai bx0 w _ al) (.cons rfl rfl (.cons rfl rfl (.nil))) (fun _ => rfl) (fun am => (nm (.c (.c (.c (.c (.n))))) (sp rfl (OpT.buildSlice (elems := ([u.1] : List Int).map (cI .i64)) rfl (dk rfl) Z5 i3 (by decide) rfl (Hb rfl) rfl rfl rfl (Xh rfl) (by decide) ?_)))))
  obtain ⟨an, h⟩ := Q9 h
  refine sp rfl (Zj (i := 3) (xs := q) (ys := [u.1]) (f := (cI .i64)) rfl (dk rfl) Z5 i3 rfl rfl rfl rfl an (fun ap => (aw rfl (nL (Qj (tN (Qq (mw rfl (oI rfl (aw rfl ?_))))))))))
  refine nL (tN ?_)
  refine Qg ?_ (ih (wI (y + (1:Int))) u.2.l u.2.most u.2.long u.2.out b a p g j m (q ++ [u.1]) (am 0) af ap h)
  exact tq rfl rfl
  refine Qo rfl ag (T.exit (Qk (Qk (Qu (tN (sR (Qq (mw rfl (oP Lj i38 rfl (sp rfl (V3 (i := 2) (cells' := [.d (.int .u8 b), .d (.int .u64 a.a0), .d (.int .u64 a.a1), .d (.int .u64 a.a2), .d (.int .u64 a.a3), .d (.ex s), .d (.int .i64 g), .d (.int .i64 j), .d (.str m)]) rfl rfl i38 rfl rfl rfl (nb rfl) rfl (nL (tN (sR (Qq ?_)))))))))))))))
  refine mw rfl (sp rfl (Zi (Fx (i := 2) (l := [.int .u8 b, .int .u64 a.a0, .int .u64 a.a1, .int .u64 a.a2, .int .u64 a.a3, .ex s, .int .i64 g, .int .i64 j, .str m]) rfl (dk rfl) Lj rfl i165 rfl rfl rfl rfl rfl) (Zy 45 (l := [.int .u8 b, .int .u64 a.a0, .int .u64 a.a1, .int .u64 a.a2, .int .u64 a.a3, .ex s, .int .i64 g, .int .i64 j, .str m]) (l' := [.int .u8 b, .int .u64 a.a0, .int .u64 a.a1, .int .u64 a.a2, .int .u64 a.a3, .sl false 1 (mI q), .int .i64 g, .int .i64 j, .str m]) (.cons (.same _) (.cons (.same _) (.cons (.same _) (.cons (.same _) (.cons (.same _) (.cons (.view 3 rfl) (.cons (.same _) (.cons (.same _) (.cons (.same _) (.refl _))))))))))) ?_))
  obtain ⟨av, aq, h⟩ := bind_some h
  refine sp rfl (Q6 (is := [0, 1]) (ph := []) rfl (dk rfl) fu101 rfl rfl (Zs.cons rfl (Zs.cons rfl Zs.nil)) (Np K (bx0 := bx0) (wx0c2 := w) aq) (.cons rfl rfl (.cons rfl rfl (.nil))) (fun _ => rfl) (fun au => (nm (.c (.c (.c (.c (.n))))) (aw rfl (nL (tN (T.ret (Q1 (.cons _ _ _ _ (.tmp 4 _ rfl) .nil) (.cons 0 rfl (.cons 0 rfl (.nil _))) (by cases h; exact ⟨gl [au 0], rfl, rfl⟩)))))))))
theorem Eb (K : Nat) (rec_raddleref08_planner_plan : Qw → Int → Option (Int × Qw)) (hrec_raddleref08_planner_plan : Jv rec_raddleref08_planner_plan) {x0 : Qw} {x1 : Int} {bx0 : Nat} {wx0c2 : Value} {r : Int × Qw} (h : Ju K rec_raddleref08_planner_plan x0 x1 = some r) : Ud tp 63 [.ptr bx0 0, .int .i64 x1] [(O1 bx0 x0.l x0.most wx0c2 x0.long), .arrA wx0c2 165 9 (x0.out.map Qs)] (fun γ => (.int .i64 r.1)) (fun γ => [(O1 bx0 r.2.l r.2.most (γ 0) r.2.long), .arrA (γ 0) 165 9 (r.2.out.map Qs)]) := by
 refine CI 47 fu63 rfl ?_
 unfold Ju at h
 refine sR (Qq (aw rfl (nL (tN (sR (Qq (mw rfl (oK rfl (oP ul123 i80 rfl (oL 0 P1 rfl ?_))))))))))
 refine mw rfl ?_
 obtain ⟨a, j, h⟩ := bind_some h
 refine oX x0.l Qs P1 i165 j rfl (oJ Lj i165 rfl (sp rfl (Zg rfl (dk rfl) i165 rfl (fun m => (sp rfl (Qv (i := 0) (cells' := [.d (.int .u8 a.Op), .d (.int .u64 a.S.a0), .d (.int .u64 a.S.a1), .d (.int .u64 a.S.a2), .d (.int .u64 a.S.a3), .d (.sl false 1 (mI a.L)), .d (.int .i64 a.Lo), .d (.int .i64 a.Hi), .d (.str a.Name)]) rfl rfl i165 rfl rfl rfl rfl (nb rfl) rfl (nL (tN (T.seq (sR (Qq ?_)))))))))))
 refine mw rfl (oK rfl (oP ul123 i4 rfl (oL 1 ul4 rfl (nL (tN ?_)))))
 rcases Qh h with ⟨b, h⟩ | ⟨b, h⟩
 cases h
 refine Qo rfl b (T.skip (tN (T.seq (sR (Qq (oP Lj i5 rfl (oL 0 ul5 rfl (oI rfl ?_))))))))
 refine nL (tN ?_)
 rcases Qh h with ⟨g, h⟩ | ⟨g, h⟩
 cases h
 refine Qo rfl g (T.skip (tN (sR (Qq (aw rfl (nL (tN (T.seq (sR (Qq ?_))))))))))
 refine aw rfl (nL (tN (T.block (T.loop (Qg (Y2 3 1) ?_)))))
 refine Qg ?_ (Dl K rec_raddleref08_planner_plan hrec_raddleref08_planner_plan bx0 K (0:Int) x0.l x0.most x0.long x0.out a.Op a.S a.L a.Lo a.Hi a.Name [] wx0c2 m (Tp 2) h)
 exact tr rfl (.c (.s (.s .z)) (.c (.s (.s .z)) (.c (.s .z) (.c .z (.n _)))))
theorem Ea (K : Nat) : ∀ n, Jv (V7 K n) := by
 intro n
 induction n with
 | zero =>
  intro x0 x1 bx0 wx0c2 r h
  exact zn h
 | succ n ih =>
  intro x0 x1 bx0 wx0c2 r h
  exact Eb K (V7 K n) ih h
theorem Ik (K : Nat) {x0 : Qw} {x1 : Int} {bx0 : Nat} {wx0c2 : Value} {r : Int × Qw} (h : Me K x0 x1 = some r) : Ud tp 63 [.ptr bx0 0, .int .i64 x1] [(O1 bx0 x0.l x0.most wx0c2 x0.long), .arrA wx0c2 165 9 (x0.out.map Qs)] (fun γ => (.int .i64 r.1)) (fun γ => [(O1 bx0 r.2.l r.2.most (γ 0) r.2.long), .arrA (γ 0) 165 9 (r.2.out.map Qs)]) := Ea K K x0 x1 bx0 wx0c2 r h
abbrev raddleref08_Tree_q (r : (List Q0) × Int) : ES := Jz tp ff36 (fun y t => y = (.tup [.sl false 9 (r.1.map Qs), .int .i64 r.2]) ∧ t = [])
theorem Qb5 (K : Nat) {x0 : List Q0} {x1 : Int} {flx0 : Bool} {r : (List Q0) × Int} (h : Dm K x0 x1 = some r) : Z1 tp 36 [.sl flx0 9 (x0.map Qs), .int .i64 x1] [] (.tup [.sl false 9 (r.1.map Qs), .int .i64 r.2]) := by
 refine CI 43 fu36 rfl ?_
 unfold Dm at h
 refine sR (Qq (aw rfl (aw rfl (nL (tN (T.seq (sR (Qq (mw rfl ?_)))))))))
 obtain ⟨u, m, h⟩ := bind_some h
 refine oH fu62 (Z1.nil (Fg K (flx0 := flx0) m)) rfl (oT rfl (mw rfl ?_))
 rcases Qh h with ⟨b, h⟩ | ⟨b, h⟩
 cases h
 refine sn rfl b (OpT.move rfl (dk rfl) rfl (sn rfl b (Z9 rfl rfl (dk rfl) rfl rfl (oZ b rfl (mw rfl ?_)))))
 rcases Qh h with ⟨d, h⟩ | ⟨d, h⟩
 cases h
 refine sn rfl d (OpT.move rfl (dk rfl) rfl (sn rfl d (Z9 rfl rfl (dk rfl) rfl rfl (oZ d rfl (nL (tN ?_))))))
 rcases Qh h with ⟨g, h⟩ | ⟨g, h⟩
 cases h
 refine Qo rfl g (T.skip (tN (sR (Qq (mw rfl (mw rfl (sp rfl (Zi (OpT.build (l := [.sl flx0 9 (x0.map Qs), .int .i64 x1, .ex (.slice none 0 0), .bool false]) rfl (dk rfl) (Zp (pl := [(0, 1), (1, 1), (2, 1), (3, 1)]) ul123 i123 rfl) (Hb rfl) rfl rfl rfl) (Zy 20 (l := [.sl flx0 9 (x0.map Qs), .int .i64 x1, .ex (.slice none 0 0), .bool false]) (l' := [.sl false 9 (x0.map Qs), .int .i64 x1, .ex (.slice none 0 0), .bool false]) (.cons (.full _ _ _) (.cons (.same _) (.cons (.same _) (.cons (.same _) (.refl _)))))) (sp rfl (Zw rfl (dk rfl) rfl (fun p => ?_)))))))))))
 refine aw rfl (nL (tN (sR (Qq (mw rfl (mw rfl (oU x0 Qs P1 rfl (oI rfl (J8 (Y2 165 9) ?_)))))))))
 obtain ⟨v, q, h⟩ := bind_some h
 refine sp rfl (Q6 (is := [1, 0]) (ph := []) rfl (dk rfl) fu63 rfl rfl (Zs.cons rfl (Zs.cons rfl Zs.nil)) (Ik K (bx0 := p) (wx0c2 := (Tp 5)) q) (.cons rfl rfl (.cons rfl rfl (.nil))) (fun _ => rfl) (fun w => (nm (.c (.c (.n))) (nL (tN (T.seq (sR (Qq (mw rfl (oK rfl ?_))))))))))
 refine oP ul123 i4 rfl (oL 1 ul4 rfl (mw rfl ?_))
 rcases Qh h with ⟨a, h⟩ | ⟨a, h⟩
 cases h
 refine sn rfl a (OpT.move rfl (dk rfl) rfl (sn rfl a (OpT.nilCheck rfl (dk rfl) rfl rfl (sn rfl a (Ur rfl (dk rfl) ul123 rfl i80 (by decide) rfl (sn rfl a (Zi (Yr (i := 1) rfl (dk rfl) P1 rfl rfl rfl rfl rfl) (J0 35 0 rfl) ?_)))))))
 obtain ⟨y, s, h⟩ := bind_some h
 refine sn rfl a (Jh rfl (dk rfl) fu64 rfl rfl (Zs.cons rfl Zs.nil) (Z1.nil (Fk K (flx0 := false) s)) (sn rfl a (OpT.not rfl (dk rfl) rfl (oZ a rfl (nL (tN ?_))))))
 rcases Qh h with ⟨j, h⟩ | ⟨j, h⟩
 cases h
 refine Qo rfl j (T.skip (tN (sR (Qq (mw rfl (oK rfl (oP ul123 i80 rfl (oL 1 P1 rfl ?_))))))))
 refine aw rfl (aw rfl (nL (tN (T.ret (Xj (Zx.view 4 0 rfl rfl) (Fin.done (.cons _ _ _ _ (.tmp 4 _ rfl) (.cons _ _ _ _ (.tmp 5 _ rfl) .nil)) (by cases h; exact ⟨rfl, rfl⟩)))))))
end Go.Rv

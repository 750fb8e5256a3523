/- Each function computes what its plain text says: printed by a program of ours. -/
import Derived.Test.YtcmfaclkgdmpbaaGreatDoorRgW0
namespace Go.Rv
open Go.Proofs
set_option maxRecDepth 100000
set_option maxHeartbeats 4000000
set_option linter.unusedVariables false
abbrev raddleref04_reader_ends_q (bx0 : Nat) (x0 : Qf) (r : Bool) : ES := U6 tp ff60 (fun y t => ∃ γ : Nat → Value, y = (.bool r) ∧ t = [(S3 bx0 x0.s x0.at_ (γ 0) x0.deep x0.e x0.where_), .arrA (γ 0) 165 9 (x0.nodes.map Qt)])
theorem Ug (K : Nat) {x0 : Qf} {bx0 : Nat} {wx0c2 : Value} {r : Bool} (h : Xn K x0 = some r) : V6 tp 60 [.ptr bx0 0] [(S3 bx0 x0.s x0.at_ wx0c2 x0.deep x0.e x0.where_), .arrA wx0c2 165 9 (x0.nodes.map Qt)] (fun γ => (.bool r)) (fun γ => [(S3 bx0 x0.s x0.at_ (γ 0) x0.deep x0.e x0.where_), .arrA (γ 0) 165 9 (x0.nodes.map Qt)]) := by
 refine CI 20 fu60 rfl ?_
 unfold Xn at h
 refine sR (Qq (aw rfl (nL (tN (T.seq (Yg (dV rfl rfl (dK rfl (.f rfl) rfl ?_))))))))
 refine dP rfl (.f rfl) Mt i3 rfl (dL 0 rfl (.f rfl) ul3 rfl (dV rfl rfl (dK rfl (.f rfl) rfl (dP rfl (.f rfl) Mt i9 rfl (dL 0 rfl (.f rfl) ul9 rfl (dS (c := ⟨some 11, .int .i64 (x0.s.size : Int), [(10, .str x0.s)], [], []⟩) (fun t hm => oF rfl rfl (Pi rfl (dk rfl) ul9 hm.s0 rfl)) rfl rfl ?_))))))
 refine dI rfl (.f rfl) rfl (dV rfl rfl ?_)
 rcases Qe h with ⟨a, h⟩ | ⟨a, h⟩
 refine dO a rfl rfl (dO a rfl rfl (dO a rfl rfl (dO a rfl rfl (dO a rfl rfl (dY rfl (.f rfl) a rfl (dA rfl (.f rfl) rfl ?_))))))
 refine dF [0,1,3,7,0,16,48,112,240,511,1023,2047,4095,8191,16383,32767,65535,131071] Qz rfl (by kernel_rfl) (fun u hu => (tN (Qk hu (T.ret (Q2 (.cons _ _ _ _ (.tmp 2 _ rfl) .nil) (.cons 0 rfl (.cons 0 rfl (.nil _))) (by cases h; exact ⟨gl [wx0c2], rfl, rfl⟩))))))
 refine dM rfl (.n a rfl) rfl (dK rfl (.n a rfl) rfl (dP rfl (.n a rfl) Mt i30 rfl (dL 0 rfl (.n a rfl) ul30 rfl (dI rfl (.n a rfl) rfl (dZ rfl (.f rfl) a rfl (dA rfl (.f rfl) rfl ?_))))))
 refine dF [0,1,3,7,0,16,48,112,240,511,1023,2047,4095,8191,16383,32767,65535,131071] Qz rfl (by kernel_rfl) (fun u hu => (tN (Qk hu (T.ret (Q2 (.cons _ _ _ _ (.tmp 2 _ rfl) .nil) (.cons 0 rfl (.cons 0 rfl (.nil _))) (by cases h; exact ⟨gl [wx0c2], rfl, rfl⟩))))))
abbrev raddleref04_reader_put_q (bx0 : Nat) (r : Int × Qf) : ES := U6 tp ff99 (fun y t => ∃ γ : Nat → Value, y = (.int .i64 r.1) ∧ t = [(S3 bx0 r.2.s r.2.at_ (γ 0) r.2.deep r.2.e r.2.where_), .arrA (γ 0) 165 9 (r.2.nodes.map Qt)])
theorem W8 (K : Nat) {x0 : Qf} {x1 : Q0} {bx0 : Nat} {wx0c2 : Value} {r : Int × Qf} (h : V4 K x0 x1 = some r) : V6 tp 99 [.ptr bx0 0, .agg [.int .u8 x1.Op, .int .u64 x1.S.a0, .int .u64 x1.S.a1, .int .u64 x1.S.a2, .int .u64 x1.S.a3, .sl false 1 (mI x1.L), .int .i64 x1.Lo, .int .i64 x1.Hi, .str x1.Name]] [(S3 bx0 x0.s x0.at_ wx0c2 x0.deep x0.e x0.where_), .arrA wx0c2 165 9 (x0.nodes.map Qt)] (fun γ => (.int .i64 r.1)) (fun γ => [(S3 bx0 r.2.s r.2.at_ (γ 0) r.2.deep r.2.e r.2.where_), .arrA (γ 0) 165 9 (r.2.nodes.map Qt)]) := by
 refine CI 21 fu99 rfl ?_
 unfold V4 at h
 refine sR (Qq (sp rfl (Zc rfl (dk rfl) rfl (fun b => (aw rfl (nL (tN (T.seq (Qk Yc (Uv ?_))))))))))
 refine gM rfl (fun _ => .f rfl) (fun _ => rfl) (gM rfl (fun _ => .f rfl) (fun _ => rfl) (gK rfl (fun _ => .f rfl) (fun _ => rfl) (gP rfl (fun _ => .f rfl) Mt i80 (fun _ => rfl) (gL 2 rfl (fun _ => .f rfl) Rk (fun _ => rfl) (gW 1 [.int .u8 x1.Op, .int .u64 x1.S.a0, .int .u64 x1.S.a1, .int .u64 x1.S.a2, .int .u64 x1.S.a3, .sl false 1 (mI x1.L), .int .i64 x1.Lo, .int .i64 x1.Hi, .str x1.Name] rfl (fun _ => .f rfl) Ln i165 (fun _ => rfl) (dC (c := ⟨some 11, .sl true 9 ([x1].map Qt), [(10, .agg [.int .u8 x1.Op, .int .u64 x1.S.a0, .int .u64 x1.S.a1, .int .u64 x1.S.a2, .int .u64 x1.S.a3, .sl false 1 (mI x1.L), .int .i64 x1.Lo, .int .i64 x1.Hi, .str x1.Name])], [], []⟩) (fun t hm => oF rfl rfl (OpT.buildSlice (elems := ([x1] : List Q0).map Qt) rfl (dk rfl) Rk i165 (by decide) rfl (G9 rfl) (Yx hm.s0 rfl Gi) rfl rfl (Vg rfl) (by decide) ⟨u0, rfl⟩)) (fun _ => rfl) (fun _ => rfl) ?_))))))
 obtain ⟨g, h⟩ := Q6 h
 refine DGG.step (c := fun a => ⟨some 12, .c (.ex ((a 7).1 0)), [(11, .sl true 9 ([x1].map Qt)), (9, .c (.ex wx0c2))], [(3, .arrA wx0c2 165 9 (x0.nodes.map Qt))], [(3, .arrA ((a 7).1 0) 165 9 ((x0.nodes ++ [x1]).map Qt))]⟩) [7] (fun a γ' h => by simp only [h 7 (by decide)]) (fun a t hm => oF rfl rfl (Zr (i := 3) (xs := x0.nodes) (ys := [x1]) (f := Qt) rfl (dk rfl) Rk i165 rfl hm.s1 hm.o0 hm.s0 g (fun w => ⟨(fun _ => w, 0), rfl⟩))) (fun a => Zj rfl rfl) (gK rfl (fun _ => .f rfl) (fun _ => rfl) (gP rfl (fun _ => .f rfl) Mt i80 (fun _ => rfl) (DGG.step (c := fun a => ⟨none, .any, [(14, .ptr bx0 (0 + 2)), (12, .c (.ex ((a 7).1 0)))], [(2, (S3 bx0 x0.s x0.at_ wx0c2 x0.deep x0.e x0.where_))], [(2, (S3 bx0 x0.s x0.at_ ((a 7).1 0) x0.deep x0.e x0.where_))]⟩) [7] (fun a γ' h => by simp only [h 7 (by decide)]) (fun a t hm => oF rfl rfl (Jd (i := 2) (cells' := [.d (.str x0.s), .d (.int .i64 x0.at_), .d (.ex ((a 7).1 0)), .d (.int .i64 x0.deep), .d (.int .i64 x0.e), .d (.int .i64 x0.where_)]) rfl rfl i80 hm.s0 hm.s1 hm.o0 (nb rfl) rfl ⟨u0, rfl⟩)) (fun a => Zj rfl rfl) (gF [0,0,2,6,14,0,32,126,255,511,1023] Qz rfl (by kernel_rfl) (fun _ => by kernel_rfl) (fun a u hu => (tN (Qk hu (sR (Qq (mw rfl ?_))))))))))
 refine oK rfl (oP Mt i80 rfl (sp rfl (Zm (Zw (i := 2) rfl (dk rfl) Rk rfl rfl rfl rfl rfl) (L9 18 3 rfl) (oU (x0.nodes ++ [x1]) Qt Rk rfl (oI rfl (aw rfl (nL (tN ?_))))))))
 refine T.ret (Q2 (.cons _ _ _ _ (.tmp 4 _ rfl) .nil) (.cons 2 rfl (.cons 2 rfl (.nil _))) (by cases h; exact ⟨gl [(a 7).1 0], rfl, rfl⟩))
abbrev raddleref04_special_q (r : ByteArray) : ES := U6 tp ff148 (fun y t => y = (.str r) ∧ t = [])
theorem Tu (K : Nat) {r : ByteArray} (h : Mf K = some r) : Zl tp 148 [] [] (.str r) := by
 refine CI 1 fu148 rfl ?_
 unfold Mf at h
 refine sR (Qq (aw rfl (nL (tN (sR (Qq (aw rfl (nL (tN (T.ret (fd rfl (by cases h; exact ⟨rfl, rfl⟩))))))))))))
abbrev Qe5 (r : Bool) : ES := U6 tp ff147 (fun y t => y = (.bool r) ∧ t = [])
abbrev Qb1 (r : Bool) : ES := fT 17 [1,1] ff147 (Qe5 r)
abbrev Tv (r : Bool) : ES := Qx 0 ((Qb1 r))
theorem Qb2 {r : Bool} (K : Nat) : ∀ (k : Nat), ∀ (x0 : Int) (x1 : ByteArray) (a : Int), L5 K k x0 x1 a = some r → TL tp 17 (ca [1,0,1,0,0] ff147) ⟨[(0, .int .u8 x0), (1, .str x1), (5, .int .i64 a)], []⟩ (Tv r) := by
 intro k
 induction k with
 | zero =>
  intro x0 x1 a h
  exact zn h
 | succ k ih =>
  intro x0 x1 a h
  rw [L5] at h
  refine Q3 (T.seq (sR (Qq (mw rfl (mw rfl (sp rfl (Pi rfl (dk rfl) ul9 rfl (oI rfl ?_))))))))
  refine nL (tN ?_)
  rcases Qe h with ⟨b, h⟩ | ⟨b, h⟩
  refine Qp rfl b (T.skip (tN (T.seq (T.block (sR (Qq (mw rfl (mw rfl ?_))))))))
  obtain ⟨c, h⟩ := Q6 h
  refine sp rfl (Lm rfl (dk rfl) ul9 rfl rfl c.1 c.2 (mw rfl (oI rfl (nL (tN ?_)))))
  rcases Qe h with ⟨d, h⟩ | ⟨d, h⟩
  cases h
  refine Qo rfl d (T.skip (Qn (tN (Qq (mw rfl (oI rfl (aw rfl (nL (tN ?_)))))))))
  refine Qg ?_ (ih x0 x1 (wI (a + (1:Int))) h)
  exact tq rfl rfl
  refine Qo rfl b (T.exit (Ql (Ql (Qr (tN (sR (Qq (aw rfl (nL (tN (T.ret (fd rfl (by cases h; exact ⟨rfl, rfl⟩)))))))))))))
theorem Qe6 (K : Nat) {x0 : Int} {x1 : ByteArray} {r : Bool} (h : N4 K x0 x1 = some r) : Zl tp 147 [.int .u8 x0, .str x1] [] (.bool r) := by
 refine CI 17 fu147 rfl ?_
 unfold N4 at h
 refine sR (Qq (aw rfl (nL (tN (T.seq (sR (Qq (aw rfl (nL (tN ?_))))))))))
 refine T.block (T.loop ?_)
 refine Qg ?_ (Qb2 K K x0 x1 (0:Int) h)
 exact tq rfl rfl
abbrev raddleref04_reader_one_q (bx0 : Nat) (r : Int × Qf) : ES := U6 tp ff149 (fun y t => ∃ γ : Nat → Value, y = (.int .u8 r.1) ∧ t = [(S3 bx0 r.2.s r.2.at_ (γ 0) r.2.deep r.2.e r.2.where_), .arrA (γ 0) 165 9 (r.2.nodes.map Qt)])
theorem O7 (K : Nat) {x0 : Qf} {bx0 : Nat} {wx0c2 : Value} {r : Int × Qf} (h : Gu K x0 = some r) : V6 tp 149 [.ptr bx0 0] [(S3 bx0 x0.s x0.at_ wx0c2 x0.deep x0.e x0.where_), .arrA wx0c2 165 9 (x0.nodes.map Qt)] (fun γ => (.int .u8 r.1)) (fun γ => [(S3 bx0 r.2.s r.2.at_ (γ 0) r.2.deep r.2.e r.2.where_), .arrA (γ 0) 165 9 (r.2.nodes.map Qt)]) := by
 refine CI 138 fu149 rfl ?_
 unfold Gu at h
 refine sR (Qq (aw rfl (nL (tN (T.seq (Yg (dV rfl rfl (dK rfl (.f rfl) rfl ?_))))))))
 refine dP rfl (.f rfl) Mt i9 rfl (dL 0 rfl (.f rfl) ul9 rfl (dV rfl rfl (dK rfl (.f rfl) rfl (dP rfl (.f rfl) Mt i3 rfl (dL 0 rfl (.f rfl) ul3 rfl ?_)))))
 obtain ⟨a, h⟩ := Q6 h
 refine dS (c := ⟨some 16, .int .u8 (bt x0.s x0.at_), [(11, .str x0.s), (15, .int .i64 x0.at_)], [], []⟩) (fun t hm => oF rfl rfl (Lm rfl (dk rfl) ul9 hm.s0 hm.s1 a.1 a.2 rfl)) rfl rfl (dA rfl (.f rfl) rfl (dF [0,1,3,7,0,16,48,112,255,511] Qz rfl (by kernel_rfl) (fun u hu => (tN (Qk hu (sR (Qq (mw rfl (oK rfl (oP Mt i3 rfl ?_))))))))))
 refine oL 0 ul3 rfl (aw rfl (nL (tN (sR (Qq (mw rfl (oK rfl (oP Mt i3 rfl (oL 0 ul3 rfl ?_)))))))))
 refine oI rfl (oK rfl (oP Mt i3 rfl (sp rfl (Jd (i := 0) (cells' := [.d (.str x0.s), .d (.int .i64 (wI (x0.at_ + (1:Int)))), .d (.ex wx0c2), .d (.int .i64 x0.deep), .d (.int .i64 x0.e), .d (.int .i64 x0.where_)]) rfl rfl i3 rfl rfl rfl (nb rfl) rfl (nL (tN (T.seq (sR (Qq ?_)))))))))
 refine mw rfl (oI rfl (nL (tN ?_)))
 rcases Qe h with ⟨b, h⟩ | ⟨b, h⟩
 refine Qp rfl b (sR (Qq (mw rfl (aw rfl (nL (tN (T.ret (Qv (Q2 (.cons _ _ _ _ (.tmp 2 _ rfl) .nil) (.cons 0 rfl (.cons 0 rfl (.nil _))) (by cases h; exact ⟨gl [wx0c2], rfl, rfl⟩))))))))))
 cases h
abbrev raddleref01_Has_q (r : Bool) : ES := U6 tp ff81 (fun y t => y = (.bool r) ∧ t = [])
theorem Hb (K : Nat) {x0 : Z2} {x1 : Int} {r : Bool} (h : Ja K x0 x1 = some r) : Zl tp 81 [.agg (Z2.dc .u64 x0), .int .u8 x1] [] (.bool r) := by
 refine CI 14 fu81 rfl ?_
 unfold Ja at h
 refine sR (Qq (sp rfl (Zc rfl (dk rfl) rfl (fun d => (aw rfl (nL (tN (sR (Qq (mw rfl (sp rfl (OpT.quo rfl (dk rfl) rfl rfl (by decide) ?_))))))))))))
 obtain ⟨b, h⟩ := Q6 h
 refine sp rfl (Z1 rfl (dk rfl) Qfl i61 rfl rfl b.1 b.2 (sp rfl (Zw (i := 0) rfl (dk rfl) ul61 rfl rfl rfl (Qgi (k := .u64) (a := x0) (pre := []) (post := []) b.1 b.2) (mw rfl (sp rfl (OpT.rem rfl (dk rfl) rfl rfl (by decide) ?_))))))
 obtain ⟨c, h⟩ := Q6 h
 refine sp rfl (OpT.shr rfl (dk rfl) rfl rfl c (sp rfl (OpT.rem rfl (dk rfl) rfl rfl (by decide) (oI rfl (aw rfl (nL (tN (T.ret (fd rfl (by cases h; exact ⟨rfl, rfl⟩))))))))))
abbrev raddleref01_with_q (r : Z2) : ES := U6 tp ff142 (fun y t => y = (.agg (Z2.dc .u64 r)) ∧ t = [])
theorem Qc8 (K : Nat) {x0 : Z2} {x1 : Int} {r : Z2} (h : D2 K x0 x1 = some r) : Zl tp 142 [.agg (Z2.dc .u64 x0), .int .u8 x1] [] (.agg (Z2.dc .u64 r)) := by
 refine CI 21 fu142 rfl ?_
 unfold D2 at h
 refine sR (Qq (sp rfl (Zc rfl (dk rfl) rfl (fun g => (sp rfl (Zb rfl (dk rfl) i63 rfl (fun j => (nL (tN (T.seq (sR (Qq (oA 1 (Z2.dc .u64 x0) Qfl i63 rfl ?_)))))))))))))
 refine mw rfl ?_
 obtain ⟨m, d, h⟩ := bind_some h
 refine oH fu81 (Zl.nil (Hb K d)) rfl (oT rfl (nL (tN ?_)))
 rcases Qe h with ⟨c, h⟩ | ⟨c, h⟩
 refine Qp rfl c (Qq (mw rfl (sp rfl (OpT.quo rfl (dk rfl) rfl rfl (by decide) (mw rfl (sp rfl (OpT.quo rfl (dk rfl) rfl rfl (by decide) ?_)))))))
 obtain ⟨b, h⟩ := Q6 h
 refine sp rfl (Z1 rfl (dk rfl) Qfl i61 rfl rfl b.1 b.2 (sp rfl (Zw (i := 1) rfl (dk rfl) ul61 rfl rfl rfl (Qgi (k := .u64) (a := x0) (pre := []) (post := []) b.1 b.2) (mw rfl (sp rfl (OpT.rem rfl (dk rfl) rfl rfl (by decide) ?_))))))
 obtain ⟨f, h⟩ := Q6 h
 refine sp rfl (OpT.shl rfl (dk rfl) rfl rfl f (oI rfl (sp rfl (Z1 rfl (dk rfl) Qfl i61 rfl rfl b.1 b.2 (sp rfl (Jd (i := 1) (cells' := (Z2.oc .u64 (Z2.set x0 (IntKind.u8.wrap (Int.tdiv x1 (64:Int))) (IntKind.u64.wrap ((Z2.get x0 (IntKind.u8.wrap (Int.tdiv x1 (64:Int)))) + (IntKind.u64.wrap ((1:Int) * 2 ^ min (Int.toNat (Int.tmod x1 (64:Int))) IntKind.u64.bits))))))) rfl rfl i61 rfl rfl rfl (Z2.oc_lt (k := .u64) (a := x0) (pre := []) (post := []) b.1 b.2) (Z2.oc_set (k := .u64) (a := x0) (pre := []) (post := []) b.1 b.2) (nL (tN (sR (Qq (oA 1 (Z2.dc .u64 (Z2.set x0 (IntKind.u8.wrap (Int.tdiv x1 (64:Int))) (IntKind.u64.wrap ((Z2.get x0 (IntKind.u8.wrap (Int.tdiv x1 (64:Int)))) + (IntKind.u64.wrap ((1:Int) * 2 ^ min (Int.toNat (Int.tmod x1 (64:Int))) IntKind.u64.bits)))))) Qfl i63 rfl (sp rfl (Qu (i := 0) (cells' := (Z2.oc .u64 (Z2.set x0 (IntKind.u8.wrap (Int.tdiv x1 (64:Int))) (IntKind.u64.wrap ((Z2.get x0 (IntKind.u8.wrap (Int.tdiv x1 (64:Int)))) + (IntKind.u64.wrap ((1:Int) * 2 ^ min (Int.toNat (Int.tmod x1 (64:Int))) IntKind.u64.bits))))))) rfl rfl i63 rfl rfl rfl rfl (nb rfl) rfl ?_)))))))))))))
 refine nL (tN (T.ret (Fin.done (.cons _ _ _ _ (.cellAgg 4 63 _ 0 0 63 _ (Z2.dc .u64 (Z2.set x0 (IntKind.u8.wrap (Int.tdiv x1 (64:Int))) (IntKind.u64.wrap ((Z2.get x0 (IntKind.u8.wrap (Int.tdiv x1 (64:Int)))) + (IntKind.u64.wrap ((1:Int) * 2 ^ min (Int.toNat (Int.tmod x1 (64:Int))) IntKind.u64.bits)))))) _ _ 4 _ rfl rfl rfl rfl Qfl rfl i63) .nil) (by cases h; exact ⟨rfl, rfl⟩))))
 cases h
abbrev Qe9 (r : Z2) : ES := U6 tp ff131 (fun y t => y = (.agg (Z2.dc .u64 r)) ∧ t = [])
abbrev Qap (r : Z2) : ES := fT 19 [1,1,1] ff131 (Qe9 r)
abbrev S0 (r : Z2) : ES := Qx 0 ((Qap r))
theorem Qcc {r : Z2} (K : Nat) : ∀ (k : Nat), ∀ (x0 : List Int) (d : Int) (j a : Z2) (flx0 : Bool) (g b : Nat), L8 K k x0 d j a = some r → TL tp 19 (ca [1,1,0,1,0,0] ff131) ⟨[(0, .sl flx0 1 (mU x0)), (2, .ptr g 0), (3, .ptr b 0), (4, .int .i64 d)], [.box g 63 (Z2.oc .u64 j), .box b 63 (Z2.oc .u64 a)]⟩ (S0 r) := by
 intro k
 induction k with
 | zero =>
  intro x0 d j a flx0 g b h
  exact zn h
 | succ k ih =>
  intro x0 d j a flx0 g b h
  rw [L8] at h
  refine Q3 (T.seq (sR (Qq (mw rfl (mw rfl (oU x0 (cI .u8) B6 rfl (oI rfl ?_)))))))
  refine nL (tN ?_)
  rcases Qe h with ⟨q, h⟩ | ⟨q, h⟩
  refine Qp rfl q (T.skip (tN (T.seq (T.block (Yg (dW 1 (Z2.dc .u64 a) rfl (.f rfl) Qfl i63 rfl (dV rfl rfl ?_)))))))
  refine dV rfl rfl ?_
  obtain ⟨p, s, h⟩ := bind_some h
  refine dX x0 (cI .u8) rfl (.f rfl) B6 i5 s rfl (dR rfl (.f rfl) ul5 rfl ?_)
  obtain ⟨m, w, h⟩ := bind_some h
  refine dH fu142 (Zl.nil (Qc8 K w)) rfl (.f rfl) rfl (dS (c := ⟨none, .any, [(3, .ptr b 0), (17, .agg (Z2.dc .u64 m))], [(1, .box b 63 (Z2.oc .u64 a))], [(1, .box b 63 (Z2.oc .u64 m))]⟩) (fun t hm => oF rfl rfl (Qu (i := 1) (cells' := (Z2.oc .u64 m)) rfl rfl i63 hm.s0 hm.s1 rfl hm.o0 (nb rfl) rfl rfl)) rfl rfl (dF [0,0,0,6,14,31,63] Qz rfl (by kernel_rfl) (fun u hu => (Qn (tN (Qk hu (Qq (mw rfl (oI rfl (aw rfl ?_))))))))))
  refine nL (tN ?_)
  refine Qg ?_ (ih x0 (wI (d + (1:Int))) j m flx0 g b h)
  exact tq rfl rfl
  refine Qo rfl q (T.exit (Ql (Ql (Qr (tN (sR (Qq (oA 1 (Z2.dc .u64 a) Qfl i63 rfl (sp rfl (Qu (i := 0) (cells' := (Z2.oc .u64 a)) rfl rfl i63 rfl rfl rfl rfl (nb rfl) rfl (nL (tN (T.ret ?_)))))))))))))
  exact Fin.done (.cons _ _ _ _ (.cellAgg 2 63 _ 0 0 63 _ (Z2.dc .u64 a) _ _ 4 _ rfl rfl rfl rfl Qfl rfl i63) .nil) (by cases h; exact ⟨rfl, rfl⟩)
theorem Ru (K : Nat) {x0 : List Int} {flx0 : Bool} {r : Z2} (h : Cu K x0 = some r) : Zl tp 131 [.sl flx0 1 (mU x0)] [] (.agg (Z2.dc .u64 r)) := by
 refine CI 19 fu131 rfl ?_
 unfold Cu at h
 refine sR (Qq (sp rfl (Zb rfl (dk rfl) i63 rfl (fun a => (nL (tN (sR (Qq (sp rfl (OpT.build (l := (Z2.dc .u64 (Z2.mk 0 0 0 0))) rfl (dk rfl) (T3 Qfl i63 i61) (G9 rfl) rfl rfl (sp rfl (Zb rfl (dk rfl) i63 rfl (fun b => (sp rfl (Qu (i := 0) (cells' := (Z2.oc .u64 (Z2.mk 0 0 0 0))) rfl rfl i63 rfl rfl rfl rfl (nb rfl) rfl (nL (tN ?_)))))))))))))))))
 refine T.seq (sR (Qq (aw rfl (nL (tN (T.block (T.loop ?_)))))))
 refine Qg ?_ (Qcc K K x0 (0:Int) (Z2.mk 0 0 0 0) (Z2.mk 0 0 0 0) flx0 a b h)
 exact tr rfl (.c (.s .z) (.c .z (.n _)))
abbrev raddleref04_reader_atom_q (bx0 : Nat) (r : Int × Qf) : ES := U6 tp ff133 (fun y t => ∃ γ : Nat → Value, y = (.int .i64 r.1) ∧ t = [(S3 bx0 r.2.s r.2.at_ (γ 0) r.2.deep r.2.e r.2.where_), .arrA (γ 0) 165 9 (r.2.nodes.map Qt)])
theorem N3 (K : Nat) {x0 : Qf} {bx0 : Nat} {wx0c2 : Value} {r : Int × Qf} (h : H1 K x0 = some r) : V6 tp 133 [.ptr bx0 0] [(S3 bx0 x0.s x0.at_ wx0c2 x0.deep x0.e x0.where_), .arrA wx0c2 165 9 (x0.nodes.map Qt)] (fun γ => (.int .i64 r.1)) (fun γ => [(S3 bx0 r.2.s r.2.at_ (γ 0) r.2.deep r.2.e r.2.where_), .arrA (γ 0) 165 9 (r.2.nodes.map Qt)]) := by
 refine CI 112 fu133 rfl ?_
 unfold H1 at h
 refine sR (Qq (aw rfl (nL (tN (T.seq (Yg (dV rfl rfl (dK rfl (.f rfl) rfl ?_))))))))
 refine dP rfl (.f rfl) Mt i9 rfl (dL 0 rfl (.f rfl) ul9 rfl (dV rfl rfl (dK rfl (.f rfl) rfl (dP rfl (.f rfl) Mt i3 rfl (dL 0 rfl (.f rfl) ul3 rfl ?_)))))
 obtain ⟨g, h⟩ := Q6 h
 refine dS (c := ⟨some 13, .int .u8 (bt x0.s x0.at_), [(8, .str x0.s), (12, .int .i64 x0.at_)], [], []⟩) (fun t hm => oF rfl rfl (Lm rfl (dk rfl) ul9 hm.s0 hm.s1 g.1 g.2 rfl)) rfl rfl (dA rfl (.f rfl) rfl (dF [0,1,3,7,0,16,48,112,255,511] Qz rfl (by kernel_rfl) (fun u hu => (tN (Qk hu (T.seq (T.block (sR (Qq (mw rfl ?_))))))))))
 refine oI rfl (aw rfl (nL (tN ?_)))
 rcases Qe h with ⟨j, h⟩ | ⟨j, h⟩
 cases h
 refine Qo rfl j (sR (Qq (mw rfl (oI rfl (aw rfl (nL (tN ?_)))))))
 rcases Qe h with ⟨m, h⟩ | ⟨m, h⟩
 cases h
 refine Qo rfl m (sR (Qq (mw rfl (oI rfl (aw rfl (nL (tN ?_)))))))
 rcases Qe h with ⟨p, h⟩ | ⟨p, h⟩
 cases h
 refine Qo rfl p (T.seq (Yg (dV rfl rfl (dI rfl (.f rfl) rfl (dV rfl rfl ?_)))))
 rcases Qe h with ⟨a, h⟩ | ⟨a, h⟩
 cases h
 refine dO a rfl rfl (dO a rfl rfl (dO a rfl rfl (dO a rfl rfl (dO a rfl rfl (dO a rfl rfl (dO a rfl rfl ?_))))))
 refine dO a rfl rfl (dO a rfl rfl (dO a rfl rfl (dO a rfl rfl (dO a rfl rfl (dG rfl rfl (dG rfl rfl ?_))))))
 refine dG rfl rfl (dG rfl rfl (dG rfl rfl (dG rfl rfl (dG rfl rfl (dG rfl rfl (dG rfl rfl ?_))))))
 refine dG rfl rfl (dG rfl rfl (dG rfl rfl (dO a rfl rfl (dZ rfl (.f rfl) a rfl (dA rfl (.f rfl) rfl (dF [0,1,3,7,15,31,63,127,7,263,775,1799,3847,8191,16383,32767,65535,131071,262143,32767,557055,1605631,3702783,7897087,16777215,33554431,67108863,134217727,268435455,536870911] Qz rfl (by kernel_rfl) (fun u hu => (tN (Qk hu ?_)))))))))
 refine Qo rfl rfl (sR (Qq (mw rfl (oI rfl (mw rfl ?_)))))
 rcases Qe h with ⟨f, h⟩ | ⟨f, h⟩
 cases h
 refine sn rfl f (OpT.move rfl (dk rfl) rfl (sn rfl f (Zi rfl rfl (dk rfl) rfl rfl (oZ f rfl (aw rfl (nL (tN ?_)))))))
 rcases Qe h with ⟨q, h⟩ | ⟨q, h⟩
 cases h
 refine Qo rfl q (sR (Qq (mw rfl (oI rfl (mw rfl ?_)))))
 rcases Qe h with ⟨d, h⟩ | ⟨d, h⟩
 refine sn rfl d (OpT.move rfl (dk rfl) rfl ?_)
 obtain ⟨ai, y, h⟩ := bind_some h
 refine sn rfl d (Ub rfl (dk rfl) fu148 rfl rfl Zk.nil (Zl.nil (Tu K y)) ?_)
 obtain ⟨aj, z, h⟩ := bind_some h
 refine sn rfl d (Ub rfl (dk rfl) fu147 rfl rfl (Zk.cons rfl (Zk.cons rfl Zk.nil)) (Zl.nil (Qe6 K z)) (oY d rfl (aw rfl (nL (tN ?_)))))
 rcases Qe h with ⟨v, h⟩ | ⟨v, h⟩
 cases h
 refine Qo rfl v (T.skip (Qn (tN (sR (Qq (mw rfl ?_))))))
 obtain ⟨aa, ab, h⟩ := bind_some h
 refine sp rfl (Q4 (is := [0, 1]) (ph := []) rfl (dk rfl) fu149 rfl rfl (Zk.cons rfl Zk.nil) (O7 K (bx0 := bx0) (wx0c2 := wx0c2) ab) (.cons rfl rfl (.cons rfl rfl (.nil))) (fun _ => rfl) (fun ac => (nm (.c (.c (.n))) (aw rfl (nL (tN (T.seq (sR (Qq (mw rfl ?_))))))))))
 refine oK rfl (oP Mt i30 rfl (oL 0 ul30 rfl (oI rfl (nL (tN ?_)))))
 rcases Qe h with ⟨w, h⟩ | ⟨w, h⟩
 cases h
 refine Qo rfl w (T.skip (tN (sR (Qq (mw rfl (mw rfl (sp rfl (OpT.buildSlice (elems := ([aa.1] : List Int).map (cI .u8)) rfl (dk rfl) B6 i5 (by decide) rfl (G9 rfl) rfl rfl rfl (Vg rfl) (by decide) ?_))))))))
 obtain ⟨b, ad, h⟩ := bind_some h
 refine oH fu131 (Zl.nil (Ru K (flx0 := true) ad)) rfl (sp rfl (Zm (OpT.build (l := [.int .u8 (2:Int), .int .u64 b.a0, .int .u64 b.a1, .int .u64 b.a2, .int .u64 b.a3, .ex (.slice none 0 0), .int .i64 (0:Int), .int .i64 (0:Int), .str (⟨#[]⟩ : ByteArray)]) rfl (dk rfl) (Zq (pl := [(0, 1), (1, 4), (5, 1), (6, 1), (7, 1), (8, 1)]) Ln i165 rfl) (G9 rfl) rfl rfl rfl) (Z5 110 (l := [.int .u8 (2:Int), .int .u64 b.a0, .int .u64 b.a1, .int .u64 b.a2, .int .u64 b.a3, .ex (.slice none 0 0), .int .i64 (0:Int), .int .i64 (0:Int), .str (⟨#[]⟩ : ByteArray)]) (l' := [.int .u8 (2:Int), .int .u64 b.a0, .int .u64 b.a1, .int .u64 b.a2, .int .u64 b.a3, .sl false 1 (([] : List Int).map (cI .i64)), .int .i64 (0:Int), .int .i64 (0:Int), .str (⟨#[]⟩ : ByteArray)]) (.cons (.same _) (.cons (.same _) (.cons (.same _) (.cons (.same _) (.cons (.same _) (.cons (.nil _ _) (.cons (.same _) (.cons (.same _) (.cons (.same _) (.refl _))))))))))) ?_))
 obtain ⟨al, af, h⟩ := bind_some h
 refine sp rfl (Q4 (is := [0, 1]) (ph := []) rfl (dk rfl) fu99 rfl rfl (Zk.cons rfl (Zk.cons rfl Zk.nil)) (W8 K (bx0 := bx0) (wx0c2 := (ac 0)) af) (.cons rfl rfl (.cons rfl rfl (.nil))) (fun _ => rfl) (fun ag => (nm (.c (.c (.n))) (aw rfl (nL (tN (T.ret (Q2 (.cons _ _ _ _ (.tmp 2 _ rfl) .nil) (.cons 0 rfl (.cons 0 rfl (.nil _))) (by cases h; exact ⟨gl [ag 0], rfl, rfl⟩)))))))))
 cases h
abbrev N1 (bx0 : Nat) (r : Int × Qf) : ES := U6 tp ff121 (fun y t => ∃ γ : Nat → Value, y = (.int .i64 r.1) ∧ t = [(S3 bx0 r.2.s r.2.at_ (γ 0) r.2.deep r.2.e r.2.where_), .arrA (γ 0) 165 9 (r.2.nodes.map Qt)])
abbrev D0 (bx0 : Nat) (r : Int × Qf) : ES := fT 99 [1,1,1] ff121 (N1 bx0 r)
abbrev Cm (bx0 : Nat) (r : Int × Qf) : ES := Qx 0 ((D0 bx0 r))
theorem Es {r : Int × Qf} (K bx0 : Nat) : ∀ (k : Nat), ∀ (m : Int) (a : ByteArray) (b f : Int) (g j : Int) (p : List Q0) (q : Value), Js K k m a b f g j p = some r → TL tp 99 (ca [1,1,0,0,0] ff121) ⟨[(0, .ptr bx0 0), (3, .int .i64 m)], [(S3 bx0 a b q f g j), .arrA q 165 9 (p.map Qt)]⟩ (Cm bx0 r) := by
 intro k
 induction k with
 | zero =>
  intro m a b f g j p q h
  exact zn h
 | succ k ih =>
  intro m a b f g j p q h
  rw [Js] at h
  refine Q3 (T.seq (sR (Qq (mw rfl ?_))))
  obtain ⟨ab, aa, h⟩ := bind_some h
  refine sp rfl (Q4 (is := [0, 1]) (ph := []) rfl (dk rfl) fu60 rfl rfl (Zk.cons rfl Zk.nil) (Ug K (bx0 := bx0) (wx0c2 := q) aa) (.cons rfl rfl (.cons rfl rfl (.nil))) (fun _ => rfl) (fun l => (nm (.c (.c (.n))) (oT rfl (nL (tN ?_))))))
  rcases Qe h with ⟨s, h⟩ | ⟨s, h⟩
  refine Qp rfl s (T.skip (tN (T.block (sR (Qq (aw rfl (aw rfl (nL (tN ?_)))))))))
  refine T.seq (Yg (dV rfl rfl (dK rfl (.f rfl) rfl (dP rfl (.f rfl) Mt i9 rfl (dL 0 rfl (.f rfl) ul9 rfl (dV rfl rfl ?_))))))
  refine dK rfl (.f rfl) rfl (dP rfl (.f rfl) Mt i3 rfl (dL 0 rfl (.f rfl) ul3 rfl ?_))
  obtain ⟨v, h⟩ := Q6 h
  refine dS (c := ⟨some 20, .int .u8 (bt a b), [(15, .str a), (19, .int .i64 b)], [], []⟩) (fun t hm => oF rfl rfl (Lm rfl (dk rfl) ul9 hm.s0 hm.s1 v.1 v.2 rfl)) rfl rfl (dA rfl (.f rfl) rfl (dF [0,1,3,7,0,16,48,112,255,511] Qz rfl (by kernel_rfl) (fun u hu => (tN (Qk hu (T.seq (T.block (sR (Qq (mw rfl ?_))))))))))
  refine oI rfl (aw rfl (nL (tN ?_)))
  rcases Qe h with ⟨w, h⟩ | ⟨w, h⟩
  cases h
  refine Qo rfl w (sR (Qq (mw rfl (oI rfl (aw rfl (nL (tN ?_)))))))
  rcases Qe h with ⟨y, h⟩ | ⟨y, h⟩
  cases h
  refine Qo rfl y (sR (Qq (mw rfl (oI rfl (aw rfl (nL (tN ?_)))))))
  rcases Qe h with ⟨z, h⟩ | ⟨z, h⟩
  cases h
  refine Qo rfl z (T.seq (Yg (dV rfl rfl (dI rfl (.f rfl) rfl (dV rfl rfl ?_)))))
  rcases Qe h with ⟨d, h⟩ | ⟨d, h⟩
  cases h
  refine dO d rfl rfl (dO d rfl rfl (dO d rfl rfl (dO d rfl rfl (dO d rfl rfl (dO d rfl rfl (dO d rfl rfl ?_))))))
  refine dO d rfl rfl (dO d rfl rfl (dO d rfl rfl (dO d rfl rfl (dZ rfl (.f rfl) d rfl (dV rfl rfl (dO rfl rfl rfl ?_))))))
  refine dO rfl rfl rfl (dO rfl rfl rfl (dO rfl rfl rfl (dO rfl rfl rfl (dO rfl rfl rfl (dO rfl rfl rfl (dO rfl rfl rfl ?_))))))
  refine dO rfl rfl rfl (dO rfl rfl rfl (dO rfl rfl rfl (dZ rfl (.f rfl) rfl rfl (dA rfl (.f rfl) rfl (dF [0,1,3,7,15,31,63,127,7,263,775,1799,3847,8191,16383,32767,65535,131071,262143,524287,65535,1114111,3211263,7405567,15794175,33554431,67108863,134217727,268435455] Qz rfl (by kernel_rfl) (fun u hu => (tN (Qk hu (Qo rfl rfl ?_)))))))))
  refine sR (Qq (mw rfl (aw rfl (nL (tN (T.ret (Q1 (Qv (Q1 (Qv (Q1 (Qv (Q2 (.cons _ _ _ _ (.tmp 2 _ rfl) .nil) (.cons 0 rfl (.cons 0 rfl (.nil _))) (by cases h; exact ⟨gl [l 0], rfl, rfl⟩))))))))))))))
  refine Qo rfl s (T.exit (Ql (Ql (Qr (tN (sR (Qq (mw rfl (aw rfl (nL (tN (T.ret ?_))))))))))))
  exact Q2 (.cons _ _ _ _ (.tmp 2 _ rfl) .nil) (.cons 0 rfl (.cons 0 rfl (.nil _))) (by cases h; exact ⟨gl [l 0], rfl, rfl⟩)
theorem N2 (K : Nat) {x0 : Qf} {bx0 : Nat} {wx0c2 : Value} {r : Int × Qf} (h : H0 K x0 = some r) : V6 tp 121 [.ptr bx0 0] [(S3 bx0 x0.s x0.at_ wx0c2 x0.deep x0.e x0.where_), .arrA wx0c2 165 9 (x0.nodes.map Qt)] (fun γ => (.int .i64 r.1)) (fun γ => [(S3 bx0 r.2.s r.2.at_ (γ 0) r.2.deep r.2.e r.2.where_), .arrA (γ 0) 165 9 (r.2.nodes.map Qt)]) := by
 refine CI 99 fu121 rfl ?_
 unfold H0 at h
 refine sR (Qq (aw rfl (nL (tN (sR (Qq (mw rfl ?_)))))))
 obtain ⟨a, b, h⟩ := bind_some h
 refine sp rfl (Q4 (is := [0, 1]) (ph := []) rfl (dk rfl) fu133 rfl rfl (Zk.cons rfl Zk.nil) (N3 K (bx0 := bx0) (wx0c2 := wx0c2) b) (.cons rfl rfl (.cons rfl rfl (.nil))) (fun _ => rfl) (fun d => (nm (.c (.c (.n))) (aw rfl (nL (tN (T.seq (T.block (T.loop ?_)))))))))
 refine Qg ?_ (Es K bx0 K a.1 a.2.s a.2.at_ a.2.deep a.2.e a.2.where_ a.2.nodes (d 0) h)
 exact tq rfl rfl
abbrev O6 (bx0 : Nat) (r : Int × Qf) : ES := U6 tp ff98 (fun y t => ∃ γ : Nat → Value, y = (.int .i64 r.1) ∧ t = [(S3 bx0 r.2.s r.2.at_ (γ 0) r.2.deep r.2.e r.2.where_), .arrA (γ 0) 165 9 (r.2.nodes.map Qt)])
abbrev Er (bx0 : Nat) (r : Int × Qf) : ES := fT 57 [1,1,1] ff98 (O6 bx0 r)
abbrev Hq (bx0 : Nat) (r : Int × Qf) : ES := Qx 0 ((Er bx0 r))
abbrev Dz (bx0 : Nat) (r : Int × Qf) : ES := fL 57 [1,1,0,0,0] ff98 (Hq bx0 r)
abbrev Cl (bx0 : Nat) (r : Int × Qf) : ES := fT 57 [1,1,0,0,0,1] ff98 (Dz bx0 r)
theorem Li {r : Int × Qf} (K bx0 : Nat) (g : ByteArray) (j m : Int) (p q : Int) (s : List Q0) (a : List Int) (d b : Value) (h : Uf K g j m p q s a = some r) : T tp 57 (ca [1,1,0,0,0,0,1,1] ff98) ⟨[(0, .ptr bx0 0), (3, .c (.ex b))], [(S3 bx0 g j d m p q), .arrA d 165 9 (s.map Qt), .arrA b 3 1 (mI a)]⟩ (Cl bx0 r) := by
 unfold Uf at h
 refine T.exit (Ql (Ql (Qr (tN (T.seq (sR (Qq (mw rfl (oK rfl (oP Mt i30 rfl (oL 0 ul30 rfl ?_)))))))))))
 refine oI rfl (nL (tN ?_))
 rcases Qe h with ⟨u, h⟩ | ⟨u, h⟩
 cases h
 refine Qo rfl u (T.skip (tN (T.seq (sR (Qq (mw rfl (sp rfl (Hj (i := 2) (xs := a) (f := (cI .i64)) rfl (dk rfl) Zu rfl rfl (oI rfl ?_)))))))))
 refine nL (tN ?_)
 rcases Qe h with ⟨v, h⟩ | ⟨v, h⟩
 cases h
 refine Qo rfl v (T.skip (tN (T.seq (sR (Qq (mw rfl (sp rfl (Hj (i := 2) (xs := a) (f := (cI .i64)) rfl (dk rfl) Zu rfl rfl (oI rfl ?_)))))))))
 refine nL (tN ?_)
 rcases Qe h with ⟨w, h⟩ | ⟨w, h⟩
 cases h
 refine Qo rfl w (T.skip (tN (sR (Qq (mw rfl (mw rfl (sp rfl (Zm (OpT.build (l := [.int .u8 (3:Int), .int .u64 (Z2.mk 0 0 0 0).a0, .int .u64 (Z2.mk 0 0 0 0).a1, .int .u64 (Z2.mk 0 0 0 0).a2, .int .u64 (Z2.mk 0 0 0 0).a3, .ex b, .int .i64 (0:Int), .int .i64 (0:Int), .str (⟨#[]⟩ : ByteArray)]) rfl (dk rfl) (Zq (pl := [(0, 1), (1, 4), (5, 1), (6, 1), (7, 1), (8, 1)]) Ln i165 rfl) (G9 rfl) rfl rfl rfl) (Z5 55 (l := [.int .u8 (3:Int), .int .u64 (Z2.mk 0 0 0 0).a0, .int .u64 (Z2.mk 0 0 0 0).a1, .int .u64 (Z2.mk 0 0 0 0).a2, .int .u64 (Z2.mk 0 0 0 0).a3, .ex b, .int .i64 (0:Int), .int .i64 (0:Int), .str (⟨#[]⟩ : ByteArray)]) (l' := [.int .u8 (3:Int), .int .u64 (Z2.mk 0 0 0 0).a0, .int .u64 (Z2.mk 0 0 0 0).a1, .int .u64 (Z2.mk 0 0 0 0).a2, .int .u64 (Z2.mk 0 0 0 0).a3, .sl false 1 (mI a), .int .i64 (0:Int), .int .i64 (0:Int), .str (⟨#[]⟩ : ByteArray)]) (.cons (.same _) (.cons (.same _) (.cons (.same _) (.cons (.same _) (.cons (.same _) (.cons (.view 2 rfl) (.cons (.same _) (.cons (.same _) (.cons (.same _) (.refl _))))))))))) ?_))))))))
 obtain ⟨aa, y, h⟩ := bind_some h
 refine sp rfl (Q4 (is := [0, 1]) (ph := []) rfl (dk rfl) fu99 rfl rfl (Zk.cons rfl (Zk.cons rfl Zk.nil)) (W8 K (bx0 := bx0) (wx0c2 := d) y) (.cons rfl rfl (.cons rfl rfl (.nil))) (fun _ => rfl) (fun z => (nm (.c (.c (.c (.n)))) (aw rfl (nL (tN (T.ret (Q2 (.cons _ _ _ _ (.tmp 2 _ rfl) .nil) (.cons 0 rfl (.cons 0 rfl (.nil _))) (by cases h; exact ⟨gl [z 0], rfl, rfl⟩)))))))))
theorem F0 {r : Int × Qf} (K bx0 : Nat) : ∀ (k : Nat), ∀ (b : ByteArray) (d p : Int) (q v : Int) (y : List Q0) (aa : List Int) (ac w : Value), Ue K k b d p q v y aa = some r → TL tp 57 (ca [1,1,0,0,0] ff98) ⟨[(0, .ptr bx0 0), (3, .c (.ex w))], [(S3 bx0 b d ac p q v), .arrA ac 165 9 (y.map Qt), .arrA w 3 1 (mI aa)]⟩ (Hq bx0 r) := by
 intro k
 induction k with
 | zero =>
  intro b d p q v y aa ac w h
  exact zn h
 | succ k ih =>
  intro b d p q v y aa ac w h
  rw [Ue] at h
  refine Q3 (T.seq (T.seq (Uv (gM rfl (fun _ => .f rfl) (fun _ => rfl) ?_))))
  obtain ⟨m, ag, h⟩ := bind_some h
  refine DGG.step (c := fun a => ⟨some 5, .bool m, [(4, .ptr bx0 0)], [(1, .arrA ac 165 9 (y.map Qt)), (0, (S3 bx0 b d ac p q v))], [(0, (S3 bx0 b d ((a 1).1 0) p q v)), (1, .arrA ((a 1).1 0) 165 9 ((y).map Qt))]⟩) [1] (fun a γ' h => by simp only [h 1 (by decide)]) (fun a t hm => oF rfl rfl (Q4 (is := [0, 1]) (ph := []) rfl (dk rfl) fu60 rfl rfl (Zk.cons hm.s0 Zk.nil) (Ug K (bx0 := bx0) (wx0c2 := ac) ag) (.cons hm.o1 rfl (.cons hm.o0 rfl (.nil))) (fun _ => rfl) (fun g => ⟨(g, 0), rfl⟩))) (fun a => Zj rfl rfl) (gT rfl (fun _ => .f rfl) (fun _ => rfl) (gM rfl (fun _ => .f rfl) (fun _ => rfl) ?_))
  rcases Qe h with ⟨j, h⟩ | ⟨j, h⟩
  refine gM rfl (fun _ => .n j rfl) (fun _ => rfl) (gK rfl (fun _ => .n j rfl) (fun _ => rfl) (gP rfl (fun _ => .n j rfl) Mt i9 (fun _ => rfl) (DGG.step (c := fun a => ⟨some 11, .str b, [(10, .ptr bx0 (0 + 0)), (7, .bool (!m))], [(0, (S3 bx0 b d ((a 1).1 0) p q v))], []⟩) [1] (fun a γ' h => by simp only [h 1 (by decide)]) (fun a t hm => oN rfl rfl rfl hm.s1 j (Zw (i := 0) rfl (dk rfl) ul9 rfl hm.s0 hm.o0 rfl ⟨u0, rfl⟩)) (fun a => Zj rfl rfl) (gM rfl (fun _ => .n j rfl) (fun _ => rfl) (gK rfl (fun _ => .n j rfl) (fun _ => rfl) (gP rfl (fun _ => .n j rfl) Mt i3 (fun _ => rfl) ?_))))))
  refine DGG.step (c := fun a => ⟨some 15, .int .i64 d, [(14, .ptr bx0 (0 + 1)), (7, .bool (!m))], [(0, (S3 bx0 b d ((a 1).1 0) p q v))], []⟩) [1] (fun a γ' h => by simp only [h 1 (by decide)]) (fun a t hm => oN rfl rfl rfl hm.s1 j (Zw (i := 0) rfl (dk rfl) ul3 rfl hm.s0 hm.o0 rfl ⟨u0, rfl⟩)) (fun a => Zj rfl rfl) ?_
  obtain ⟨ad, h⟩ := Q6 h
  refine dC (c := ⟨some 16, .int .u8 (bt b d), [(11, .str b), (15, .int .i64 d), (7, .bool (!m))], [], []⟩) (fun t hm => oN rfl rfl rfl hm.s2 j (Lm rfl (dk rfl) ul9 hm.s0 hm.s1 ad.1 ad.2 ⟨u0, rfl⟩)) (fun _ => rfl) (fun _ => rfl) (gI rfl (fun _ => .n j rfl) (fun _ => rfl) (gY rfl (fun _ => .f rfl) j (fun _ => rfl) (gM rfl (fun _ => .f rfl) (fun _ => rfl) ?_)))
  rcases Qe h with ⟨l, h⟩ | ⟨l, h⟩
  refine gM rfl (fun _ => .n l rfl) (fun _ => rfl) (gK rfl (fun _ => .n l rfl) (fun _ => rfl) (gP rfl (fun _ => .n l rfl) Mt i9 (fun _ => rfl) (DGG.step (c := fun a => ⟨some 23, .str b, [(22, .ptr bx0 (0 + 0)), (19, .bool ((bt b d) != (124:Int)))], [(0, (S3 bx0 b d ((a 1).1 0) p q v))], []⟩) [1] (fun a γ' h => by simp only [h 1 (by decide)]) (fun a t hm => oN rfl rfl rfl hm.s1 l (Zw (i := 0) rfl (dk rfl) ul9 rfl hm.s0 hm.o0 rfl ⟨u0, rfl⟩)) (fun a => Zj rfl rfl) (gM rfl (fun _ => .n l rfl) (fun _ => rfl) (gK rfl (fun _ => .n l rfl) (fun _ => rfl) (gP rfl (fun _ => .n l rfl) Mt i3 (fun _ => rfl) ?_))))))
  refine DGG.step (c := fun a => ⟨some 27, .int .i64 d, [(26, .ptr bx0 (0 + 1)), (19, .bool ((bt b d) != (124:Int)))], [(0, (S3 bx0 b d ((a 1).1 0) p q v))], []⟩) [1] (fun a γ' h => by simp only [h 1 (by decide)]) (fun a t hm => oN rfl rfl rfl hm.s1 l (Zw (i := 0) rfl (dk rfl) ul3 rfl hm.s0 hm.o0 rfl ⟨u0, rfl⟩)) (fun a => Zj rfl rfl) (dC (c := ⟨some 28, .int .u8 (bt b d), [(23, .str b), (27, .int .i64 d), (19, .bool ((bt b d) != (124:Int)))], [], []⟩) (fun t hm => oN rfl rfl rfl hm.s2 l (Lm rfl (dk rfl) ul9 hm.s0 hm.s1 ad.1 ad.2 ⟨u0, rfl⟩)) (fun _ => rfl) (fun _ => rfl) (gI rfl (fun _ => .n l rfl) (fun _ => rfl) (gY rfl (fun _ => .f rfl) l (fun _ => rfl) (gF [0,1,3,7,15,31,63,127,15,271,783,1807,4095,8191,16383,32767,65535,131071,262143,524287,65535,1114111,3211263,7405567,16777215,33554431,67108863] Qz rfl (by kernel_rfl) (fun _ => by kernel_rfl) (fun a u hu => (tN (Qk hu ?_)))))))
  rcases Qe h with ⟨af, h⟩ | ⟨af, h⟩
  refine Qp rfl af (T.skip (tN (T.block (Qq (mw rfl (mw rfl ?_))))))
  obtain ⟨ab, ai, h⟩ := bind_some h
  refine sp rfl (Q4 (is := [0, 1]) (ph := []) rfl (dk rfl) fu121 rfl rfl (Zk.cons rfl Zk.nil) (N2 K (bx0 := bx0) (wx0c2 := ((a 1).1 0)) ai) (.cons rfl rfl (.cons rfl rfl (.nil))) (fun _ => rfl) (fun aj => (nm (.c (.c (.c (.n)))) (sp rfl (OpT.buildSlice (elems := ([ab.1] : List Int).map (cI .i64)) rfl (dk rfl) Zu i3 (by decide) rfl (G9 rfl) rfl rfl rfl (Vg rfl) (by decide) ?_)))))
  obtain ⟨al, h⟩ := Q6 h
  refine sp rfl (Zr (i := 2) (xs := aa) (ys := [ab.1]) (f := (cI .i64)) rfl (dk rfl) Zu i3 rfl rfl rfl rfl al (fun am => (aw rfl (nL (Qn (tN ?_))))))
  refine Qg ?_ (ih ab.2.s ab.2.at_ ab.2.deep ab.2.e ab.2.where_ ab.2.nodes (aa ++ [ab.1]) (aj 0) am h)
  exact tq rfl rfl
  cases h
  refine DGG.off l rfl rfl rfl rfl rfl (fun _ => rfl) (DGG.off l rfl rfl rfl rfl rfl (fun _ => rfl) (DGG.off l rfl rfl rfl rfl rfl (fun _ => rfl) (DGG.off l rfl rfl rfl rfl rfl (fun _ => rfl) (DGG.off l rfl rfl rfl rfl rfl (fun _ => rfl) (DGG.off l rfl rfl rfl rfl rfl (fun _ => rfl) (DGG.off l rfl rfl rfl rfl rfl (fun _ => rfl) ?_))))))
  refine DGG.off l rfl rfl rfl rfl rfl (fun _ => rfl) (DGG.off l rfl rfl rfl rfl rfl (fun _ => rfl) (DGG.off l rfl rfl rfl rfl rfl (fun _ => rfl) (gZ rfl (fun _ => .f rfl) l (fun _ => rfl) (gF [0,1,3,7,15,31,63,127,15,271,783,1807,4095,8191,16383,32767,65535,131071,262143,524287,65535,1114111,3211263,7405567,16777215,33554431,67108863] Qz rfl (by kernel_rfl) (fun _ => by kernel_rfl) (fun a u hu => (tN (Qk hu (Qo rfl rfl ?_))))))))
  refine Qk ?_ (Li K bx0 b d p q v y aa ((a 1).1 0) w h)
  exact tq rfl rfl
  refine DGG.off j rfl rfl rfl rfl rfl (fun _ => rfl) (DGG.off j rfl rfl rfl rfl rfl (fun _ => rfl) (DGG.off j rfl rfl rfl rfl rfl (fun _ => rfl) (DGG.off j rfl rfl rfl rfl rfl (fun _ => rfl) (DGG.off j rfl rfl rfl rfl rfl (fun _ => rfl) (DGG.off j rfl rfl rfl rfl rfl (fun _ => rfl) (DGG.off j rfl rfl rfl rfl rfl (fun _ => rfl) ?_))))))
  refine DGG.off j rfl rfl rfl rfl rfl (fun _ => rfl) (DGG.off j rfl rfl rfl rfl rfl (fun _ => rfl) (DGG.off j rfl rfl rfl rfl rfl (fun _ => rfl) (gZ rfl (fun _ => .f rfl) j (fun _ => rfl) (gM rfl (fun _ => .f rfl) (fun _ => rfl) (DGG.off rfl rfl rfl rfl rfl rfl (fun _ => rfl) (DGG.off rfl rfl rfl rfl rfl rfl (fun _ => rfl) ?_))))))
  refine DGG.off rfl rfl rfl rfl rfl rfl (fun _ => rfl) (DGG.off rfl rfl rfl rfl rfl rfl (fun _ => rfl) (DGG.off rfl rfl rfl rfl rfl rfl (fun _ => rfl) (DGG.off rfl rfl rfl rfl rfl rfl (fun _ => rfl) (DGG.off rfl rfl rfl rfl rfl rfl (fun _ => rfl) (DGG.off rfl rfl rfl rfl rfl rfl (fun _ => rfl) (DGG.off rfl rfl rfl rfl rfl rfl (fun _ => rfl) ?_))))))
  refine DGG.off rfl rfl rfl rfl rfl rfl (fun _ => rfl) (gZ rfl (fun _ => .f rfl) rfl (fun _ => rfl) (gF [0,1,3,7,15,31,63,127,15,271,783,1807,4095,8191,16383,32767,65535,131071,262143,524287,65535,1114111,3211263,7405567,16777215,33554431,67108863] Qz rfl (by kernel_rfl) (fun _ => by kernel_rfl) (fun a u hu => (tN (Qk hu (Qo rfl rfl ?_))))))
  refine Qk ?_ (Li K bx0 b d p q v y aa ((a 1).1 0) w h)
  exact tq rfl rfl
theorem Mr (K : Nat) {x0 : Qf} {bx0 : Nat} {wx0c2 : Value} {r : Int × Qf} (h : Jh K x0 = some r) : V6 tp 98 [.ptr bx0 0] [(S3 bx0 x0.s x0.at_ wx0c2 x0.deep x0.e x0.where_), .arrA wx0c2 165 9 (x0.nodes.map Qt)] (fun γ => (.int .i64 r.1)) (fun γ => [(S3 bx0 r.2.s r.2.at_ (γ 0) r.2.deep r.2.e r.2.where_), .arrA (γ 0) 165 9 (r.2.nodes.map Qt)]) := by
 refine CI 57 fu98 rfl ?_
 unfold Jh at h
 refine sR (Qq (aw rfl (nL (tN (sR (Qq (aw rfl (nL (tN (T.seq (T.block ?_)))))))))))
 refine T.loop (Qg (Xh 3 1) ?_)
 refine Qg ?_ (F0 K bx0 K x0.s x0.at_ x0.deep x0.e x0.where_ x0.nodes [] wx0c2 (Qdv 2) h)
 exact tr rfl (.c (.s .z) (.c (.s .z) (.c .z (.n _))))
abbrev Bt (bx0 : Nat) (r : Int × Qf) : ES := U6 tp ff59 (fun y t => ∃ γ : Nat → Value, y = (.int .i64 r.1) ∧ t = [(S3 bx0 r.2.s r.2.at_ (γ 0) r.2.deep r.2.e r.2.where_), .arrA (γ 0) 165 9 (r.2.nodes.map Qt)])
abbrev Kx (bx0 : Nat) (r : Int × Qf) : ES := fT 51 [1,1,1] ff59 (Bt bx0 r)
abbrev L4 (bx0 : Nat) (r : Int × Qf) : ES := Qx 0 ((Kx bx0 r))
theorem Mg {r : Int × Qf} (K bx0 : Nat) : ∀ (k : Nat), ∀ (j : ByteArray) (m q : Int) (v w : Int) (ac : List Q0) (y : List Int) (ad aa : Value), Y8 K k j m q v w ac y = some r → TL tp 51 (ca [1,1,0,0,0] ff59) ⟨[(0, .ptr bx0 0), (3, .c (.ex aa))], [(S3 bx0 j m ad q v w), .arrA ad 165 9 (ac.map Qt), .arrA aa 3 1 (mI y)]⟩ (L4 bx0 r) := by
 intro k
 induction k with
 | zero =>
  intro j m q v w ac y ad aa h
  exact zn h
 | succ k ih =>
  intro j m q v w ac y ad aa h
  rw [Y8] at h
  refine Q3 (T.seq (T.seq (Uv (gM rfl (fun _ => .f rfl) (fun _ => rfl) ?_))))
  obtain ⟨p, al, h⟩ := bind_some h
  refine DGG.step (c := fun a => ⟨some 8, .bool p, [(7, .ptr bx0 0)], [(1, .arrA ad 165 9 (ac.map Qt)), (0, (S3 bx0 j m ad q v w))], [(0, (S3 bx0 j m ((a 1).1 0) q v w)), (1, .arrA ((a 1).1 0) 165 9 ((ac).map Qt))]⟩) [1] (fun a γ' h => by simp only [h 1 (by decide)]) (fun a t hm => oF rfl rfl (Q4 (is := [0, 1]) (ph := []) rfl (dk rfl) fu60 rfl rfl (Zk.cons hm.s0 Zk.nil) (Ug K (bx0 := bx0) (wx0c2 := ad) al) (.cons hm.o1 rfl (.cons hm.o0 rfl (.nil))) (fun _ => rfl) (fun g => ⟨(g, 0), rfl⟩))) (fun a => Zj rfl rfl) (gT rfl (fun _ => .f rfl) (fun _ => rfl) (gM rfl (fun _ => .f rfl) (fun _ => rfl) ?_))
  rcases Qe h with ⟨b, h⟩ | ⟨b, h⟩
  refine gM rfl (fun _ => .n b rfl) (fun _ => rfl) (gK rfl (fun _ => .n b rfl) (fun _ => rfl) (gP rfl (fun _ => .n b rfl) Mt i9 (fun _ => rfl) (DGG.step (c := fun a => ⟨some 14, .str j, [(13, .ptr bx0 (0 + 0)), (10, .bool (!p))], [(0, (S3 bx0 j m ((a 1).1 0) q v w))], []⟩) [1] (fun a γ' h => by simp only [h 1 (by decide)]) (fun a t hm => oN rfl rfl rfl hm.s1 b (Zw (i := 0) rfl (dk rfl) ul9 rfl hm.s0 hm.o0 rfl ⟨u0, rfl⟩)) (fun a => Zj rfl rfl) (gM rfl (fun _ => .n b rfl) (fun _ => rfl) (gK rfl (fun _ => .n b rfl) (fun _ => rfl) (gP rfl (fun _ => .n b rfl) Mt i3 (fun _ => rfl) ?_))))))
  refine DGG.step (c := fun a => ⟨some 18, .int .i64 m, [(17, .ptr bx0 (0 + 1)), (10, .bool (!p))], [(0, (S3 bx0 j m ((a 1).1 0) q v w))], []⟩) [1] (fun a γ' h => by simp only [h 1 (by decide)]) (fun a t hm => oN rfl rfl rfl hm.s1 b (Zw (i := 0) rfl (dk rfl) ul3 rfl hm.s0 hm.o0 rfl ⟨u0, rfl⟩)) (fun a => Zj rfl rfl) ?_
  obtain ⟨ag, h⟩ := Q6 h
  refine dC (c := ⟨some 19, .int .u8 (bt j m), [(14, .str j), (18, .int .i64 m), (10, .bool (!p))], [], []⟩) (fun t hm => oN rfl rfl rfl hm.s2 b (Lm rfl (dk rfl) ul9 hm.s0 hm.s1 ag.1 ag.2 ⟨u0, rfl⟩)) (fun _ => rfl) (fun _ => rfl) (gI rfl (fun _ => .n b rfl) (fun _ => rfl) (gY rfl (fun _ => .f rfl) b (fun _ => rfl) (gF [0,1,3,7,15,31,63,127,15,271,783,1807,4095,8191,16383] Qz rfl (by kernel_rfl) (fun _ => by kernel_rfl) (fun a u hu => (tN (Qk hu ?_))))))
  rcases Qe h with ⟨ai, h⟩ | ⟨ai, h⟩
  refine Qp rfl ai (T.skip (tN (T.block (sR (Qq (mw rfl (oK rfl (oP Mt i3 rfl ?_))))))))
  refine oL 0 ul3 rfl (oI rfl (oK rfl (oP Mt i3 rfl (sp rfl (Jd (i := 0) (cells' := [.d (.str j), .d (.int .i64 (wI (m + (1:Int)))), .d (.ex ((a 1).1 0)), .d (.int .i64 q), .d (.int .i64 v), .d (.int .i64 w)]) rfl rfl i3 rfl rfl rfl (nb rfl) rfl (nL (tN (Qq ?_))))))))
  refine mw rfl (mw rfl ?_)
  obtain ⟨ab, am, h⟩ := bind_some h
  refine sp rfl (Q4 (is := [0, 1]) (ph := []) rfl (dk rfl) fu98 rfl rfl (Zk.cons rfl Zk.nil) (Mr K (bx0 := bx0) (wx0c2 := ((a 1).1 0)) am) (.cons rfl rfl (.cons rfl rfl (.nil))) (fun _ => rfl) (fun an => (nm (.c (.c (.c (.n)))) (sp rfl (OpT.buildSlice (elems := ([ab.1] : List Int).map (cI .i64)) rfl (dk rfl) Zu i3 (by decide) rfl (G9 rfl) rfl rfl rfl (Vg rfl) (by decide) ?_)))))
  obtain ⟨ap, h⟩ := Q6 h
  refine sp rfl (Zr (i := 2) (xs := y) (ys := [ab.1]) (f := (cI .i64)) rfl (dk rfl) Zu i3 rfl rfl rfl rfl ap (fun aq => (aw rfl (nL (Qn (tN ?_))))))
  refine Qg ?_ (ih ab.2.s ab.2.at_ ab.2.deep ab.2.e ab.2.where_ ab.2.nodes (y ++ [ab.1]) (an 0) aq h)
  exact tq rfl rfl
  cases h
  refine DGG.off b rfl rfl rfl rfl rfl (fun _ => rfl) (DGG.off b rfl rfl rfl rfl rfl (fun _ => rfl) (DGG.off b rfl rfl rfl rfl rfl (fun _ => rfl) (DGG.off b rfl rfl rfl rfl rfl (fun _ => rfl) (DGG.off b rfl rfl rfl rfl rfl (fun _ => rfl) (DGG.off b rfl rfl rfl rfl rfl (fun _ => rfl) (DGG.off b rfl rfl rfl rfl rfl (fun _ => rfl) ?_))))))
  refine DGG.off b rfl rfl rfl rfl rfl (fun _ => rfl) (DGG.off b rfl rfl rfl rfl rfl (fun _ => rfl) (DGG.off b rfl rfl rfl rfl rfl (fun _ => rfl) (gZ rfl (fun _ => .f rfl) b (fun _ => rfl) (gF [0,1,3,7,15,31,63,127,15,271,783,1807,4095,8191,16383] Qz rfl (by kernel_rfl) (fun _ => by kernel_rfl) (fun a u hu => (tN (Qk hu (Qo rfl rfl (T.exit (Ql (Ql (Qr (tN ?_)))))))))))))
  refine T.seq (sR (Qq (mw rfl (sp rfl (Hj (i := 2) (xs := y) (f := (cI .i64)) rfl (dk rfl) Zu rfl rfl (oI rfl (mw rfl ?_)))))))
  rcases Qe h with ⟨af, h⟩ | ⟨af, h⟩
  cases h
  refine sn rfl af (OpT.move rfl (dk rfl) rfl (sn rfl af (OpT.nilCheck rfl (dk rfl) rfl rfl (sn rfl af (Xi rfl (dk rfl) Mt rfl i30 (by decide) rfl (sn rfl af (Zw (i := 0) rfl (dk rfl) ul30 rfl rfl rfl rfl (sn rfl af (Zi rfl rfl (dk rfl) rfl rfl (oZ af rfl (nL (tN ?_))))))))))))
  rcases Qe h with ⟨aj, h⟩ | ⟨aj, h⟩
  cases h
  refine Qo rfl aj (T.skip (tN (sR (Qq (mw rfl (mw rfl (sp rfl (Zm (OpT.build (l := [.int .u8 (4:Int), .int .u64 (Z2.mk 0 0 0 0).a0, .int .u64 (Z2.mk 0 0 0 0).a1, .int .u64 (Z2.mk 0 0 0 0).a2, .int .u64 (Z2.mk 0 0 0 0).a3, .ex aa, .int .i64 (0:Int), .int .i64 (0:Int), .str (⟨#[]⟩ : ByteArray)]) rfl (dk rfl) (Zq (pl := [(0, 1), (1, 4), (5, 1), (6, 1), (7, 1), (8, 1)]) Ln i165 rfl) (G9 rfl) rfl rfl rfl) (Z5 49 (l := [.int .u8 (4:Int), .int .u64 (Z2.mk 0 0 0 0).a0, .int .u64 (Z2.mk 0 0 0 0).a1, .int .u64 (Z2.mk 0 0 0 0).a2, .int .u64 (Z2.mk 0 0 0 0).a3, .ex aa, .int .i64 (0:Int), .int .i64 (0:Int), .str (⟨#[]⟩ : ByteArray)]) (l' := [.int .u8 (4:Int), .int .u64 (Z2.mk 0 0 0 0).a0, .int .u64 (Z2.mk 0 0 0 0).a1, .int .u64 (Z2.mk 0 0 0 0).a2, .int .u64 (Z2.mk 0 0 0 0).a3, .sl false 1 (mI y), .int .i64 (0:Int), .int .i64 (0:Int), .str (⟨#[]⟩ : ByteArray)]) (.cons (.same _) (.cons (.same _) (.cons (.same _) (.cons (.same _) (.cons (.same _) (.cons (.view 2 rfl) (.cons (.same _) (.cons (.same _) (.cons (.same _) (.refl _))))))))))) ?_))))))))
  obtain ⟨ay, au, h⟩ := bind_some h
  refine sp rfl (Q4 (is := [0, 1]) (ph := []) rfl (dk rfl) fu99 rfl rfl (Zk.cons rfl (Zk.cons rfl Zk.nil)) (W8 K (bx0 := bx0) (wx0c2 := ((a 1).1 0)) au) (.cons rfl rfl (.cons rfl rfl (.nil))) (fun _ => rfl) (fun av => (nm (.c (.c (.c (.n)))) (aw rfl (nL (tN (T.ret (Q2 (.cons _ _ _ _ (.tmp 2 _ rfl) .nil) (.cons 0 rfl (.cons 0 rfl (.nil _))) (by cases h; exact ⟨gl [av 0], rfl, rfl⟩)))))))))
theorem Bu (K : Nat) {x0 : Qf} {bx0 : Nat} {wx0c2 : Value} {r : Int × Qf} (h : Ui K x0 = some r) : V6 tp 59 [.ptr bx0 0] [(S3 bx0 x0.s x0.at_ wx0c2 x0.deep x0.e x0.where_), .arrA wx0c2 165 9 (x0.nodes.map Qt)] (fun γ => (.int .i64 r.1)) (fun γ => [(S3 bx0 r.2.s r.2.at_ (γ 0) r.2.deep r.2.e r.2.where_), .arrA (γ 0) 165 9 (r.2.nodes.map Qt)]) := by
 refine CI 51 fu59 rfl ?_
 unfold Ui at h
 refine sR (Qq (aw rfl (nL (tN (sR (Qq (mw rfl ?_)))))))
 obtain ⟨a, b, h⟩ := bind_some h
 refine sp rfl (Q4 (is := [0, 1]) (ph := []) rfl (dk rfl) fu98 rfl rfl (Zk.cons rfl Zk.nil) (Mr K (bx0 := bx0) (wx0c2 := wx0c2) b) (.cons rfl rfl (.cons rfl rfl (.nil))) (fun _ => rfl) (fun d => (nm (.c (.c (.n))) (sp rfl (OpT.buildSlice (elems := ([a.1] : List Int).map (cI .i64)) rfl (dk rfl) Zu i3 (by decide) rfl (G9 rfl) rfl rfl rfl (Vg rfl) (by decide) (aw rfl (nL (tN (T.seq (T.block ?_))))))))))
 refine T.loop (Qgb (Qdp 3 3 rfl) (fun f => ?_))
 refine Qg ?_ (Mg K bx0 K a.2.s a.2.at_ a.2.deep a.2.e a.2.where_ a.2.nodes [a.1] (d 0) f h)
 exact tr rfl (.c (.s .z) (.c (.s .z) (.c .z (.n _))))
abbrev raddleref04_Parse_q (r : (List Q0) × Int × Int) : ES := U6 tp ff35 (fun y t => y = (.tup [.sl false 9 (r.1.map Qt), .int .i64 r.2.1, .int .i64 r.2.2]) ∧ t = [])
theorem Qb3 (K : Nat) {x0 : ByteArray} {r : (List Q0) × Int × Int} (h : Cn K x0 = some r) : Zl tp 35 [.str x0] [] (.tup [.sl false 9 (r.1.map Qt), .int .i64 r.2.1, .int .i64 r.2.2]) := by
 refine CI 46 fu35 rfl ?_
 unfold Cn at h
 refine sR (Qq (aw rfl (aw rfl (aw rfl (nL (tN (T.seq (sR (Qq ?_)))))))))
 refine mw rfl (sp rfl (Pi rfl (dk rfl) ul9 rfl (oI rfl (nL (tN ?_)))))
 rcases Qe h with ⟨a, h⟩ | ⟨a, h⟩
 cases h
 refine Qo rfl a (T.skip (tN (sR (Qq (mw rfl (sp rfl (OpT.build (l := [.str x0, .int .i64 (0:Int), .ex (.slice none 0 0), .int .i64 (0:Int), .int .i64 (0:Int), .int .i64 (0:Int)]) rfl (dk rfl) (Zq (pl := [(0, 1), (1, 1), (2, 1), (3, 1), (4, 1), (5, 1)]) Mt i117 rfl) (G9 rfl) rfl rfl (sp rfl (Zc rfl (dk rfl) rfl (fun b => (aw rfl ?_)))))))))))
 refine nL (tN (sR (Qq (mw rfl (Ji (Xh 165 9) ?_)))))
 obtain ⟨m, p, h⟩ := bind_some h
 refine sp rfl (Q4 (is := [1, 0]) (ph := []) rfl (dk rfl) fu59 rfl rfl (Zk.cons rfl Zk.nil) (Bu K (bx0 := b) (wx0c2 := (Qdv 5)) p) (.cons rfl rfl (.cons rfl rfl (.nil))) (fun _ => rfl) (fun q => (nm (.c (.c (.n))) (nL (tN (T.seq (sR (Qq (mw rfl ?_)))))))))
 obtain ⟨u, s, h⟩ := bind_some h
 refine sp rfl (Q4 (is := [1, 0]) (ph := []) rfl (dk rfl) fu60 rfl rfl (Zk.cons rfl Zk.nil) (Ug K (bx0 := b) (wx0c2 := (q 0)) s) (.cons rfl rfl (.cons rfl rfl (.nil))) (fun _ => rfl) (fun v => (nm (.c (.c (.n))) (oT rfl (nL (tN ?_))))))
 rcases Qe h with ⟨d, h⟩ | ⟨d, h⟩
 cases h
 refine Qo rfl d (T.skip (tN (T.seq (sR (Qq (mw rfl (oK rfl (oP Mt i30 rfl ?_))))))))
 refine oL 1 ul30 rfl (oI rfl (nL (tN ?_)))
 rcases Qe h with ⟨g, h⟩ | ⟨g, h⟩
 cases h
 refine Qo rfl g (T.skip (tN (T.seq (sR (Qq (mw rfl (oK rfl (oP Mt i80 rfl ?_))))))))
 refine sp rfl (Zm (Zw (i := 1) rfl (dk rfl) Rk rfl rfl rfl rfl rfl) (L9 39 0 rfl) (oU m.2.nodes Qt Rk rfl (oI rfl (nL (tN ?_)))))
 rcases Qe h with ⟨j, h⟩ | ⟨j, h⟩
 cases h
 refine Qo rfl j (T.skip (tN (sR (Qq (mw rfl (oK rfl (oP Mt i80 rfl (oL 1 Rk rfl ?_))))))))
 refine aw rfl (aw rfl (aw rfl (nL (tN (T.ret (Xr (Zy.view 2 0 rfl rfl) (Fin.done (.cons _ _ _ _ (.tmp 2 _ rfl) (.cons _ _ _ _ (.tmp 3 _ rfl) (.cons _ _ _ _ (.tmp 4 _ rfl) .nil))) (by cases h; exact ⟨rfl, rfl⟩))))))))
abbrev Qc6 (r : (List Int) × Bool) : ES := U6 tp ff103 (fun y t => ∃ γ : Nat → Value, y = (.tup [.c (.ex (γ 0)), .bool r.2]) ∧ t = [.arrA (γ 0) 3 1 (mI r.1)])
abbrev Ss (r : (List Int) × Bool) : ES := fT 59 [1,1,1] ff103 (Qc6 r)
abbrev O5 (r : (List Int) × Bool) : ES := Qx 0 ((Ss r))
theorem Tt {r : (List Int) × Bool} (K : Nat) (rec_raddleref04_walk : (List Q0) → Int → (List Int) → Option ((List Int) × Bool)) (hrec_raddleref04_walk : M9 rec_raddleref04_walk) : ∀ (k : Nat), ∀ (x0 : List Q0) (x1 b : Int) (a : List Int) (flx0 : Bool) (d : Value), Hz K rec_raddleref04_walk k x0 x1 b a = some r → TL tp 59 (ca [1,1,0,1,0,0] ff103) ⟨[(0, .sl flx0 9 (x0.map Qt)), (1, .int .i64 x1), (2, .c (.ex d)), (8, .int .i64 b)], [.arrA d 3 1 (mI a)]⟩ (O5 r) := by
 intro k
 induction k with
 | zero =>
  intro x0 x1 b a flx0 d h
  exact zn h
 | succ k ih =>
  intro x0 x1 b a flx0 d h
  rw [Hz] at h
  refine Q3 (T.seq (sR (Qq ?_)))
  iterate 3 refine mw rfl ?_
  obtain ⟨j, m, h⟩ := bind_some h
  refine oX x0 Qt Rk i165 m rfl (sp rfl (Uj rfl (dk rfl) Ln rfl i38 (by decide) rfl (oR Zu rfl (oU j.L (cI .i64) Zu rfl (oI rfl (nL (tN ?_)))))))
  rcases Qe h with ⟨l, h⟩ | ⟨l, h⟩
  refine Qp rfl l (T.skip (tN (T.seq (T.block (sR (Qq (mw rfl (mw rfl ?_))))))))
  refine oX x0 Qt Rk i165 m rfl (sp rfl (Uj rfl (dk rfl) Ln rfl i38 (by decide) rfl (oR Zu rfl (mw rfl ?_))))
  obtain ⟨p, u, h⟩ := bind_some h
  refine oX j.L (cI .i64) Zu i3 u rfl (oR ul3 rfl (aw rfl (nL (tN (T.seq (sR (Qq (mw rfl ?_))))))))
  refine oI rfl (mw rfl ?_)
  rcases Qe h with ⟨g, h⟩ | ⟨g, h⟩
  cases h
  refine sn rfl g (OpT.move rfl (dk rfl) rfl (sn rfl g (OpT.move rfl (dk rfl) rfl (sn rfl g (Zi rfl rfl (dk rfl) rfl rfl (oZ g rfl (nL (tN ?_))))))))
  rcases Qe h with ⟨q, h⟩ | ⟨q, h⟩
  cases h
  refine Qo rfl q (T.skip (tN (sR (Qq ?_))))
  iterate 3 refine mw rfl ?_
  obtain ⟨w, y, h⟩ := bind_some h
  refine sp rfl (Q4 (is := [0]) (ph := []) rfl (dk rfl) fu103 rfl rfl (Zk.cons rfl (Zk.cons rfl (Zk.cons rfl Zk.nil))) (hrec_raddleref04_walk x0 p a flx0 d _ y) (.cons rfl rfl (.nil)) (fun _ => rfl) (fun aa => (nm (.c (.n)) (mw rfl (oE rfl (oE rfl (aw rfl (aw rfl ?_))))))))
  refine nL (tN (T.seq (sR (Qq (mw rfl (oT rfl (nL (tN ?_))))))))
  rcases Qe h with ⟨s, h⟩ | ⟨s, h⟩
  cases h
  refine Qo rfl s (T.skip (tN (Qq (mw rfl (aw rfl (nL (Qn (tN (Qq ?_)))))))))
  refine mw rfl (oI rfl (aw rfl (nL (tN ?_))))
  refine Qg ?_ (ih x0 x1 (wI (b + (1:Int))) w.1 flx0 (aa 0) h)
  exact tq rfl rfl
  refine Qo rfl l (T.exit (Ql (Ql (Qr (tN (sR (Qq (mw rfl (mw rfl (sp rfl (OpT.buildSlice (elems := ([x1] : List Int).map (cI .i64)) rfl (dk rfl) Zu i3 (by decide) rfl (G9 rfl) rfl rfl rfl (Vg rfl) (by decide) ?_)))))))))))
  obtain ⟨ab, h⟩ := Q6 h
  refine sp rfl (Zr (i := 0) (xs := a) (ys := [x1]) (f := (cI .i64)) rfl (dk rfl) Zu i3 rfl rfl rfl rfl ab (fun ac => (aw rfl (aw rfl (nL (tN (T.ret (Q2 (.cons _ _ _ _ (.tmp 6 _ rfl) (.cons _ _ _ _ (.tmp 7 _ rfl) .nil)) (.cons 0 rfl (.nil _)) (by cases h; exact ⟨gl [ac], rfl, rfl⟩)))))))))
theorem Qan (K : Nat) (rec_raddleref04_walk : (List Q0) → Int → (List Int) → Option ((List Int) × Bool)) (hrec_raddleref04_walk : M9 rec_raddleref04_walk) {x0 : List Q0} {x1 : Int} {x2 : List Int} {flx0 : Bool} {wx2 : Value} {r : (List Int) × Bool} (h : M8 K rec_raddleref04_walk x0 x1 x2 = some r) : V6 tp 103 [.sl flx0 9 (x0.map Qt), .int .i64 x1, .c (.ex wx2)] [.arrA wx2 3 1 (mI x2)] (fun γ => (.tup [.c (.ex (γ 0)), .bool r.2])) (fun γ => [.arrA (γ 0) 3 1 (mI r.1)]) := by
 refine CI 59 fu103 rfl ?_
 unfold M8 at h
 refine sR (Qq (aw rfl (aw rfl (nL (tN (T.seq (sR (Qq (mw rfl ?_)))))))))
 refine sp rfl (Hj (i := 0) (xs := x2) (f := (cI .i64)) rfl (dk rfl) Zu rfl rfl (mw rfl (oU x0 Qt Rk rfl (oI rfl (nL (tN ?_))))))
 rcases Qe h with ⟨a, h⟩ | ⟨a, h⟩
 cases h
 refine Qo rfl a (T.skip (tN (T.seq (sR (Qq (aw rfl (nL (tN (T.block ?_)))))))))
 refine T.loop ?_
 refine Qg ?_ (Tt K rec_raddleref04_walk hrec_raddleref04_walk K x0 x1 (0:Int) x2 flx0 wx2 h)
 exact tq rfl rfl
theorem Qam (K : Nat) : ∀ n, M9 (G4 K n) := by
 intro n
 induction n with
 | zero =>
  intro x0 x1 x2 flx0 wx2 r h
  exact zn h
 | succ n ih =>
  intro x0 x1 x2 flx0 wx2 r h
  exact Qan K (G4 K n) ih h
theorem Qc7 (K : Nat) {x0 : List Q0} {x1 : Int} {x2 : List Int} {flx0 : Bool} {wx2 : Value} {r : (List Int) × Bool} (h : Rt K x0 x1 x2 = some r) : V6 tp 103 [.sl flx0 9 (x0.map Qt), .int .i64 x1, .c (.ex wx2)] [.arrA wx2 3 1 (mI x2)] (fun γ => (.tup [.c (.ex (γ 0)), .bool r.2])) (fun γ => [.arrA (γ 0) 3 1 (mI r.1)]) := Qam K K x0 x1 x2 flx0 wx2 r h
abbrev Qbz (r : Bool) : ES := U6 tp ff102 (fun y t => y = (.bool r) ∧ t = [])
abbrev N0 (r : Bool) : ES := fT 144 [1,1,1,1,1] ff102 (Qbz r)
abbrev Fz (r : Bool) : ES := Qx 0 ((N0 r))
theorem B5 {r : Bool} (K : Nat) (g j l : Bool) (x0 : Q0) (m : Bool) (n : Nat) (h : Wk K g j l x0 m = some r) : T tp 144 (ca [1,1,1,1,0,1,0,1,1,1,1,1] ff102) ⟨[(1, .ptr n 0), (3, .bool g), (4, .bool j), (5, .bool l), (23, .int .u8 x0.Op), (59, .bool m)], [(b165x4 n x0.Op x0.S.a0 x0.S.a1 x0.S.a2 x0.S.a3 x0.L x0.Lo x0.Hi x0.Name)]⟩ (Fz r) := by
 unfold Wk at h
 rcases Qe h with ⟨p, h⟩ | ⟨p, h⟩
 refine Qp rfl p (sR (Qq (mw rfl (oT rfl (mw rfl ?_)))))
 rcases Qe h with ⟨b, h⟩ | ⟨b, h⟩
 refine sn rfl b (OpT.move rfl (dk rfl) rfl (sn rfl b (OpT.not rfl (dk rfl) rfl (oY b rfl (mw rfl ?_)))))
 rcases Qe h with ⟨c, h⟩ | ⟨c, h⟩
 refine sn rfl c (OpT.move rfl (dk rfl) rfl (sn rfl c (OpT.not rfl (dk rfl) rfl (oY c rfl (mw rfl ?_)))))
 rcases Qe h with ⟨a, h⟩ | ⟨a, h⟩
 refine sn rfl a (Xi rfl (dk rfl) Ln rfl i38 (by decide) rfl (sn rfl a (Zw (i := 0) rfl (dk rfl) Zu rfl rfl rfl rfl (sn rfl a (Z9 (xs := x0.L) (f := (cI .i64)) rfl (dk rfl) Zu rfl (sn rfl a (Zi rfl rfl (dk rfl) rfl rfl (oY a rfl (aw rfl (nL (tN ?_)))))))))))
 refine T.ret (Q1 (Qv (fd rfl (by cases h; exact ⟨rfl, rfl⟩))))
 cases h
 cases h
 cases h
 cases h
theorem Qb0 (K : Nat) {x0 : Q0} {r : Bool} (h : Ck K x0 = some r) : Zl tp 102 [.agg [.int .u8 x0.Op, .int .u64 x0.S.a0, .int .u64 x0.S.a1, .int .u64 x0.S.a2, .int .u64 x0.S.a3, .sl false 1 (mI x0.L), .int .i64 x0.Lo, .int .i64 x0.Hi, .str x0.Name]] [] (.bool r) := by
 refine CI 144 fu102 rfl ?_
 unfold Ck at h
 refine sR (Qq (sp rfl (Zc rfl (dk rfl) rfl (fun p => (aw rfl (nL (tN (sR (Qq (oP Ln i63 rfl (oA 0 (Z2.dc .u64 x0.S) Qfl i63 rfl (sp rfl (OpT.build (l := (Z2.dc .u64 (Z2.mk 0 0 0 0))) rfl (dk rfl) (T3 Qfl i63 i61) (G9 rfl) rfl rfl ?_)))))))))))))
 refine sp rfl (OpT.intsNeq (k := .u64) (xs := [x0.S.a0, x0.S.a1, x0.S.a2, x0.S.a3]) (ys := [(Z2.mk 0 0 0 0).a0, (Z2.mk 0 0 0 0).a1, (Z2.mk 0 0 0 0).a2, (Z2.mk 0 0 0 0).a3]) rfl (dk rfl) Qfl ul61 i61 Tryz.eqGuardType63 rfl rfl rfl rfl rfl rfl (Qet x0.S (Z2.mk 0 0 0 0)) (aw rfl (nL (tN (sR (Qq (oP Ln i3 rfl (oL 0 ul3 rfl (oI rfl (mw rfl ?_))))))))))
 rcases Qe h with ⟨b, h⟩ | ⟨b, h⟩
 cases h
 refine sn rfl b (Xi rfl (dk rfl) Ln rfl i3 (by decide) rfl (sn rfl b (Zw (i := 0) rfl (dk rfl) ul3 rfl rfl rfl rfl (sn rfl b (Zi rfl rfl (dk rfl) rfl rfl (oZ b rfl (aw rfl (nL (tN (sR (Qq (oP Ln i9 rfl ?_))))))))))))
 refine oL 0 ul9 rfl (sp rfl (OpT.str_neq rfl (dk rfl) rfl rfl (aw rfl (nL (tN (T.seq (sR (Qq (oP Ln i5 rfl ?_)))))))))
 refine oL 0 ul5 rfl (nL (tN (T.block (sR (Qq (oI rfl (aw rfl (nL (tN ?_)))))))))
 rcases Qe h with ⟨q, h⟩ | ⟨q, h⟩
 cases h
 refine Qo rfl q (sR (Qq (oI rfl (aw rfl (nL (tN ?_))))))
 rcases Qe h with ⟨j, h⟩ | ⟨j, h⟩
 refine Qp rfl j (sR (Qq (mw rfl (mw rfl ?_))))
 rcases Qe h with ⟨d, h⟩ | ⟨d, h⟩
 refine sn rfl d (OpT.move rfl (dk rfl) rfl (sn rfl d (OpT.not rfl (dk rfl) rfl (oY d rfl (mw rfl ?_)))))
 rcases Qe h with ⟨g, h⟩ | ⟨g, h⟩
 refine sn rfl g (OpT.move rfl (dk rfl) rfl (sn rfl g (OpT.not rfl (dk rfl) rfl (oY g rfl (mw rfl ?_)))))
 rcases Qe h with ⟨a, h⟩ | ⟨a, h⟩
 refine sn rfl a (Xi rfl (dk rfl) Ln rfl i38 (by decide) rfl (sn rfl a (Zw (i := 0) rfl (dk rfl) Zu rfl rfl rfl rfl (sn rfl a (Z9 (xs := x0.L) (f := (cI .i64)) rfl (dk rfl) Zu rfl (sn rfl a (Zi rfl rfl (dk rfl) rfl rfl (oY a rfl (aw rfl (nL (tN ?_)))))))))))
 refine T.ret (Q1 (Qv (fd rfl (by cases h; exact ⟨rfl, rfl⟩))))
 cases h
 cases h
 cases h
 refine Qo rfl j (T.seq (sR (Qq (oI rfl (aw rfl (nL (tN ?_)))))))
 rcases Qe h with ⟨m, h⟩ | ⟨m, h⟩
 refine Qp rfl m (T.skip (tN ?_))
 refine Qk ?_ (B5 K (!(Z2.same x0.S (Z2.mk 0 0 0 0))) (x0.Hi != (0:Int)) (!(x0.Name.toList == (⟨#[]⟩ : ByteArray).toList)) x0 (x0.Op == (3:Int)) p h)
 exact tq rfl rfl
 refine Qo rfl m (Qq (oI rfl (aw rfl (nL (tN ?_)))))
 refine Qk ?_ (B5 K (!(Z2.same x0.S (Z2.mk 0 0 0 0))) (x0.Hi != (0:Int)) (!(x0.Name.toList == (⟨#[]⟩ : ByteArray).toList)) x0 (x0.Op == (4:Int)) p h)
 exact tq rfl rfl
abbrev F1 (r : Bool) : ES := U6 tp ff64 (fun y t => y = (.bool r) ∧ t = [])
abbrev I2 (r : Bool) : ES := fT 56 [1,1,1,1,1,1] ff64 (F1 r)
abbrev Et (r : Bool) : ES := Qx 2 ((I2 r))
abbrev P4 (r : Bool) : ES := fT 56 [1,1,1] ff64 (F1 r)
abbrev N5 (r : Bool) : ES := Qx 0 ((P4 r))
theorem Su {r : Bool} (K : Nat) : ∀ (k : Nat), ∀ (b : Int) (a : List Int) (d : Value), Wl K k b a = some r → TL tp 56 (ca [1,1,1,1,1,0,1,0,0] ff64) ⟨[(4, .c (.ex d)), (6, .int .i64 b)], [.arrA d 3 1 (mI a)]⟩ (Et r) := by
 intro k
 induction k with
 | zero =>
  intro b a d h
  exact zn h
 | succ k ih =>
  intro b a d h
  rw [Wl] at h
  refine Q3 (T.seq (sR (Qq (mw rfl (mw rfl (sp rfl (Hj (i := 0) (xs := a) (f := (cI .i64)) rfl (dk rfl) Zu rfl rfl (oI rfl ?_))))))))
  refine nL (tN ?_)
  rcases Qe h with ⟨g, h⟩ | ⟨g, h⟩
  refine Qp rfl g (T.skip (tN (T.seq (T.block (sR (Qq (mw rfl (mw rfl ?_))))))))
  refine Ji (Zy.view 50 0 rfl rfl) ?_
  obtain ⟨l, m, h⟩ := bind_some h
  refine oX a (cI .i64) Zu i3 m rfl (oR ul3 rfl (mw rfl (oI rfl (nL (tN ?_)))))
  rcases Qe h with ⟨j, h⟩ | ⟨j, h⟩
  cases h
  refine Qo rfl j (T.skip (Qn (tN (Qq (mw rfl (oI rfl (aw rfl (nL (tN ?_)))))))))
  refine Qg ?_ (ih (wI (b + (1:Int))) a d h)
  exact tq rfl rfl
  refine Qo rfl g (T.exit (Ql (Ql (Qr (tN (sR (Qq (aw rfl (nL (tN (T.ret (fd rfl (by cases h; exact ⟨rfl, rfl⟩)))))))))))))
theorem Sv {r : Bool} (K : Nat) : ∀ (k : Nat), ∀ (x0 : List Q0) (b : Int) (flx0 : Bool), Wm K k x0 b = some r → TL tp 56 (ca [1,1,0,1,0,0] ff64) ⟨[(0, .sl flx0 9 (x0.map Qt)), (3, .int .i64 b)], []⟩ (N5 r) := by
 intro k
 induction k with
 | zero =>
  intro x0 b flx0 h
  exact zn h
 | succ k ih =>
  intro x0 b flx0 h
  rw [Wm] at h
  refine Q3 (T.seq (sR (Qq (mw rfl (mw rfl (oU x0 Qt Rk rfl (oI rfl ?_)))))))
  refine nL (tN ?_)
  rcases Qe h with ⟨d, h⟩ | ⟨d, h⟩
  refine Qp rfl d (T.skip (tN (T.seq (T.block (sR (Qq (mw rfl (mw rfl ?_))))))))
  obtain ⟨m, p, h⟩ := bind_some h
  refine oX x0 Qt Rk i165 p rfl (oJ Ln i165 rfl ?_)
  obtain ⟨w, q, h⟩ := bind_some h
  refine oH fu102 (Zl.nil (Qb0 K q)) rfl (oT rfl (nL (tN ?_)))
  rcases Qe h with ⟨g, h⟩ | ⟨g, h⟩
  cases h
  refine Qo rfl g (T.skip (Qn (tN (Qq (mw rfl (oI rfl (aw rfl (nL (tN ?_)))))))))
  refine Qg ?_ (ih x0 (wI (b + (1:Int))) flx0 h)
  exact tq rfl rfl
  refine Qo rfl d (T.exit (Ql (Ql (Qr (tN (sR (Qq (mw rfl (mw rfl (oU x0 Qt Rk rfl (oI rfl ?_)))))))))))
  refine Ji (Xh 3 1) ?_
  obtain ⟨j, s, h⟩ := bind_some h
  refine sp rfl (Q4 (is := [0]) (ph := []) rfl (dk rfl) fu103 rfl rfl (Zk.cons rfl (Zk.cons rfl (Zk.cons rfl Zk.nil))) (Qc7 K (flx0 := flx0) (wx2 := (Qdv 10)) s) (.cons rfl rfl (.nil)) (fun _ => rfl) (fun u => (nm (.c (.n)) (mw rfl (oE rfl (oE rfl (aw rfl (aw rfl ?_))))))))
  refine nL (tN (T.seq (sR (Qq (mw rfl (oT rfl (mw rfl ?_)))))))
  rcases Qe h with ⟨a, h⟩ | ⟨a, h⟩
  cases h
  refine sn rfl a (OpT.move rfl (dk rfl) rfl (sn rfl a (Hj (i := 0) (xs := j.1) (f := (cI .i64)) rfl (dk rfl) Zu rfl rfl (sn rfl a (OpT.move rfl (dk rfl) rfl (sn rfl a (Z9 (xs := x0) (f := Qt) rfl (dk rfl) Rk rfl (sn rfl a (Zi rfl rfl (dk rfl) rfl rfl (oZ a rfl (nL (tN ?_))))))))))))
  rcases Qe h with ⟨l, h⟩ | ⟨l, h⟩
  cases h
  refine Qo rfl l (T.skip (tN (T.seq (sR (Qq (aw rfl (nL (tN (T.block ?_)))))))))
  refine T.loop ?_
  refine Qg ?_ (Su K K (0:Int) j.1 (u 0) h)
  exact tq rfl rfl
theorem F2 (K : Nat) {x0 : List Q0} {flx0 r : Bool} (h : L6 K x0 = some r) : Zl tp 64 [.sl flx0 9 (x0.map Qt)] [] (.bool r) := by
 refine CI 56 fu64 rfl ?_
 unfold L6 at h
 refine sR (Qq (aw rfl (nL (tN (T.seq (sR (Qq (mw rfl (oU x0 Qt Rk rfl ?_)))))))))
 refine oI rfl (mw rfl ?_)
 rcases Qe h with ⟨a, h⟩ | ⟨a, h⟩
 cases h
 refine sn rfl a (OpT.move rfl (dk rfl) rfl (sn rfl a (Z9 (xs := x0) (f := Qt) rfl (dk rfl) Rk rfl (sn rfl a (Zi rfl rfl (dk rfl) rfl rfl (oZ a rfl (nL (tN ?_))))))))
 rcases Qe h with ⟨b, h⟩ | ⟨b, h⟩
 cases h
 refine Qo rfl b (T.skip (tN (T.seq (sR (Qq (aw rfl (nL (tN (T.block ?_)))))))))
 refine T.loop ?_
 refine Qg ?_ (Sv K K x0 (0:Int) flx0 h)
 exact tq rfl rfl
abbrev Qby (r : Bool) : ES := U6 tp ff62 (fun y t => y = (.bool r) ∧ t = [])
abbrev Sq (r : Bool) : ES := fT 18 [1,1] ff62 (Qby r)
abbrev O4 (r : Bool) : ES := Qx 0 ((Sq r))
theorem Sr {r : Bool} (K : Nat) : ∀ (k : Nat), ∀ (x0 : List Q0) (a : Int) (flx0 : Bool), Wj K k x0 a = some r → TL tp 18 (ca [1,0,1,0,0] ff62) ⟨[(0, .sl flx0 9 (x0.map Qt)), (3, .int .i64 a)], []⟩ (O4 r) := by
 intro k
 induction k with
 | zero =>
  intro x0 a flx0 h
  exact zn h
 | succ k ih =>
  intro x0 a flx0 h
  rw [Wj] at h
  refine Q3 (T.seq (sR (Qq (mw rfl (mw rfl (oU x0 Qt Rk rfl (oI rfl ?_)))))))
  refine nL (tN ?_)
  rcases Qe h with ⟨b, h⟩ | ⟨b, h⟩
  refine Qp rfl b (T.skip (tN (T.seq (T.block (sR (Qq (mw rfl (mw rfl ?_))))))))
  obtain ⟨d, g, h⟩ := bind_some h
  refine oX x0 Qt Rk i165 g rfl (sp rfl (Uj rfl (dk rfl) Ln rfl i5 (by decide) rfl (oR ul5 rfl (oI rfl (nL (tN ?_))))))
  rcases Qe h with ⟨c, h⟩ | ⟨c, h⟩
  refine Qp rfl c (sR (Qq (aw rfl (nL (tN (T.ret (Q1 (Qv (Qv (Q1 (Qv (fd rfl (by cases h; exact ⟨rfl, rfl⟩)))))))))))))
  refine Qo rfl c (T.skip (Qn (tN (Qq (mw rfl (oI rfl (aw rfl (nL (tN ?_)))))))))
  refine Qg ?_ (ih x0 (wI (a + (1:Int))) flx0 h)
  exact tq rfl rfl
  refine Qo rfl b (T.exit (Ql (Ql (Qr (tN (sR (Qq (mw rfl ?_))))))))
  obtain ⟨j, i, h⟩ := bind_some h
  refine oH fu64 (Zl.nil (F2 K (flx0 := flx0) i)) rfl (aw rfl (nL (tN (T.ret (fd rfl (by cases h; exact ⟨rfl, rfl⟩))))))
theorem Fy (K : Nat) {x0 : List Q0} {flx0 r : Bool} (h : Lz K x0 = some r) : Zl tp 62 [.sl flx0 9 (x0.map Qt)] [] (.bool r) := by
 refine CI 18 fu62 rfl ?_
 unfold Lz at h
 refine sR (Qq (aw rfl (nL (tN (T.seq (sR (Qq (aw rfl (nL (tN ?_))))))))))
 refine T.block (T.loop ?_)
 refine Qg ?_ (Sr K K x0 (0:Int) flx0 h)
 exact tq rfl rfl
abbrev raddleref08_planner_put_q (bx0 : Nat) (r : Int × Qw) : ES := U6 tp ff101 (fun y t => ∃ γ : Nat → Value, y = (.int .i64 r.1) ∧ t = [(Pd bx0 r.2.l r.2.most (γ 0) r.2.long), .arrA (γ 0) 165 9 (r.2.out.map Qt)])
theorem Ny (K : Nat) {x0 : Qw} {x1 : Q0} {bx0 : Nat} {wx0c2 : Value} {r : Int × Qw} (h : Hy K x0 x1 = some r) : V6 tp 101 [.ptr bx0 0, .agg [.int .u8 x1.Op, .int .u64 x1.S.a0, .int .u64 x1.S.a1, .int .u64 x1.S.a2, .int .u64 x1.S.a3, .sl false 1 (mI x1.L), .int .i64 x1.Lo, .int .i64 x1.Hi, .str x1.Name]] [(Pd bx0 x0.l x0.most wx0c2 x0.long), .arrA wx0c2 165 9 (x0.out.map Qt)] (fun γ => (.int .i64 r.1)) (fun γ => [(Pd bx0 r.2.l r.2.most (γ 0) r.2.long), .arrA (γ 0) 165 9 (r.2.out.map Qt)]) := by
 refine CI 30 fu101 rfl ?_
 unfold Hy at h
 refine sR (Qq (sp rfl (Zc rfl (dk rfl) rfl (fun b => (aw rfl (nL (tN (T.seq (sR (Qq (mw rfl ?_)))))))))))
 refine oK rfl (oP ul123 i80 rfl (sp rfl (Zm (Zw (i := 1) rfl (dk rfl) Rk rfl rfl rfl rfl rfl) (L9 8 2 rfl) (oU x0.out Qt Rk rfl (oI rfl (nL (tN ?_)))))))
 rcases Qe h with ⟨g, h⟩ | ⟨g, h⟩
 cases h
 refine Qo rfl g (T.skip (tN (T.seq (Qk Yc (Uv (gM rfl (fun _ => .f rfl) (fun _ => rfl) (gM rfl (fun _ => .f rfl) (fun _ => rfl) ?_)))))))
 refine gK rfl (fun _ => .f rfl) (fun _ => rfl) (gP rfl (fun _ => .f rfl) ul123 i80 (fun _ => rfl) (gL 2 rfl (fun _ => .f rfl) Rk (fun _ => rfl) (gW 1 [.int .u8 x1.Op, .int .u64 x1.S.a0, .int .u64 x1.S.a1, .int .u64 x1.S.a2, .int .u64 x1.S.a3, .sl false 1 (mI x1.L), .int .i64 x1.Lo, .int .i64 x1.Hi, .str x1.Name] rfl (fun _ => .f rfl) Ln i165 (fun _ => rfl) (dC (c := ⟨some 20, .sl true 9 ([x1].map Qt), [(19, .agg [.int .u8 x1.Op, .int .u64 x1.S.a0, .int .u64 x1.S.a1, .int .u64 x1.S.a2, .int .u64 x1.S.a3, .sl false 1 (mI x1.L), .int .i64 x1.Lo, .int .i64 x1.Hi, .str x1.Name])], [], []⟩) (fun t hm => oF rfl rfl (OpT.buildSlice (elems := ([x1] : List Q0).map Qt) rfl (dk rfl) Rk i165 (by decide) rfl (G9 rfl) (Yx hm.s0 rfl Gi) rfl rfl (Vg rfl) (by decide) ⟨u0, rfl⟩)) (fun _ => rfl) (fun _ => rfl) ?_))))
 obtain ⟨j, h⟩ := Q6 h
 refine DGG.step (c := fun a => ⟨some 21, .c (.ex ((a 7).1 0)), [(20, .sl true 9 ([x1].map Qt)), (18, .c (.ex wx0c2))], [(3, .arrA wx0c2 165 9 (x0.out.map Qt))], [(3, .arrA ((a 7).1 0) 165 9 ((x0.out ++ [x1]).map Qt))]⟩) [7] (fun a γ' h => by simp only [h 7 (by decide)]) (fun a t hm => oF rfl rfl (Zr (i := 3) (xs := x0.out) (ys := [x1]) (f := Qt) rfl (dk rfl) Rk i165 rfl hm.s1 hm.o0 hm.s0 j (fun w => ⟨(fun _ => w, 0), rfl⟩))) (fun a => Zj rfl rfl) (gK rfl (fun _ => .f rfl) (fun _ => rfl) (gP rfl (fun _ => .f rfl) ul123 i80 (fun _ => rfl) (DGG.step (c := fun a => ⟨none, .any, [(23, .ptr bx0 (0 + 2)), (21, .c (.ex ((a 7).1 0)))], [(2, (Pd bx0 x0.l x0.most wx0c2 x0.long))], [(2, (Pd bx0 x0.l x0.most ((a 7).1 0) x0.long))]⟩) [7] (fun a γ' h => by simp only [h 7 (by decide)]) (fun a t hm => oF rfl rfl (Jd (i := 2) (cells' := [.d (.sl false 9 (x0.l.map Qt)), .d (.int .i64 x0.most), .d (.ex ((a 7).1 0)), .d (.bool x0.long)]) rfl rfl i80 hm.s0 hm.s1 hm.o0 (nb rfl) rfl ⟨u0, rfl⟩)) (fun a => Zj rfl rfl) (gF [0,0,2,6,14,0,32,126,255,511,1023] Qz rfl (by kernel_rfl) (fun _ => by kernel_rfl) (fun a u hu => (tN (Qk hu (sR (Qq (mw rfl ?_))))))))))
 refine oK rfl (oP ul123 i80 rfl (sp rfl (Zm (Zw (i := 2) rfl (dk rfl) Rk rfl rfl rfl rfl rfl) (L9 27 3 rfl) (oU (x0.out ++ [x1]) Qt Rk rfl (oI rfl (aw rfl (nL (tN ?_))))))))
 refine T.ret (Q2 (.cons _ _ _ _ (.tmp 4 _ rfl) .nil) (.cons 2 rfl (.cons 2 rfl (.nil _))) (by cases h; exact ⟨gl [(a 7).1 0], rfl, rfl⟩))
abbrev I0 (bx0 : Nat) (r : Int × Qw) : ES := U6 tp ff63 (fun y t => ∃ γ : Nat → Value, y = (.int .i64 r.1) ∧ t = [(Pd bx0 r.2.l r.2.most (γ 0) r.2.long), .arrA (γ 0) 165 9 (r.2.out.map Qt)])
abbrev M7 (bx0 : Nat) (r : Int × Qw) : ES := fT 47 [1,1,1,1,1,1] ff63 (I0 bx0 r)
abbrev Me (bx0 : Nat) (r : Int × Qw) : ES := Qx 0 ((M7 bx0 r))
theorem Dx {r : Int × Qw} (K : Nat) (rec_raddleref08_planner_plan : Qw → Int → Option (Int × Qw)) (hrec_raddleref08_planner_plan : Jr rec_raddleref08_planner_plan) (bx0 : Nat) : ∀ (k : Nat), ∀ (y : Int) (aa : List Q0) (ab : Int) (ac : Bool) (ad : List Q0) (b : Int) (a : Z2) (p : List Int) (g j : Int) (m : ByteArray) (q : List Int) (w : Value) (af : Nat) (s : Value), Vm K rec_raddleref08_planner_plan k y aa ab ac ad b a p g j m q = some r → TL tp 47 (ca [1,1,1,1,1,0,1,0,0] ff63) ⟨[(0, .ptr bx0 0), (5, .ptr af 0), (6, .c (.ex s)), (7, .int .i64 y)], [(Pd bx0 aa ab w ac), .arrA w 165 9 (ad.map Qt), (b165x4 af b a.a0 a.a1 a.a2 a.a3 p g j m), .arrA s 3 1 (mI q)]⟩ (Me bx0 r) := by
 intro k
 induction k with
 | zero =>
  intro y aa ab ac ad b a p g j m q w af s h
  exact zn h
 | succ k ih =>
  intro y aa ab ac ad b a p g j m q w af s h
  rw [Vm] at h
  refine Q3 (T.seq (sR (Qq (mw rfl (oP Ln i38 rfl (oL 2 Zu rfl (oU p (cI .i64) Zu rfl ?_)))))))
  refine oI rfl (nL (tN ?_))
  rcases Qe h with ⟨ag, h⟩ | ⟨ag, h⟩
  refine Qp rfl ag (T.skip (tN (T.seq (T.block (Qq (mw rfl (mw rfl ?_)))))))
  refine oP Ln i38 rfl (oL 2 Zu rfl (mw rfl ?_))
  obtain ⟨ai, aj, h⟩ := bind_some h
  refine oX p (cI .i64) Zu i3 aj rfl (oR ul3 rfl ?_)
  obtain ⟨u, al, h⟩ := bind_some h
  refine sp rfl (Q4 (is := [0, 1]) (ph := []) rfl (dk rfl) fu63 rfl rfl (Zk.cons rfl (Zk.cons rfl Zk.nil)) (hrec_raddleref08_planner_plan (Qw.mk aa ab ad ac) ai bx0 w _ al) (.cons rfl rfl (.cons rfl rfl (.nil))) (fun _ => rfl) (fun am => (nm (.c (.c (.c (.c (.n))))) (sp rfl (OpT.buildSlice (elems := ([u.1] : List Int).map (cI .i64)) rfl (dk rfl) Zu i3 (by decide) rfl (G9 rfl) rfl rfl rfl (Vg rfl) (by decide) ?_)))))
  obtain ⟨an, h⟩ := Q6 h
  refine sp rfl (Zr (i := 3) (xs := q) (ys := [u.1]) (f := (cI .i64)) rfl (dk rfl) Zu i3 rfl rfl rfl rfl an (fun ap => (aw rfl (nL (Qn (tN (Qq (mw rfl (oI rfl (aw rfl ?_))))))))))
  refine nL (tN ?_)
  refine Qg ?_ (ih (wI (y + (1:Int))) u.2.l u.2.most u.2.long u.2.out b a p g j m (q ++ [u.1]) (am 0) af ap h)
  exact tq rfl rfl
  refine Qo rfl ag (T.exit (Ql (Ql (Qr (tN (sR (Qq (mw rfl (oP Ln i38 rfl (sp rfl (Jd (i := 2) (cells' := [.d (.int .u8 b), .d (.int .u64 a.a0), .d (.int .u64 a.a1), .d (.int .u64 a.a2), .d (.int .u64 a.a3), .d (.ex s), .d (.int .i64 g), .d (.int .i64 j), .d (.str m)]) rfl rfl i38 rfl rfl rfl (nb rfl) rfl (nL (tN (sR (Qq ?_)))))))))))))))
  refine mw rfl (sp rfl (Zm (Pj (i := 2) (l := [.int .u8 b, .int .u64 a.a0, .int .u64 a.a1, .int .u64 a.a2, .int .u64 a.a3, .ex s, .int .i64 g, .int .i64 j, .str m]) rfl (dk rfl) Ln rfl i165 rfl rfl rfl rfl rfl) (Z5 45 (l := [.int .u8 b, .int .u64 a.a0, .int .u64 a.a1, .int .u64 a.a2, .int .u64 a.a3, .ex s, .int .i64 g, .int .i64 j, .str m]) (l' := [.int .u8 b, .int .u64 a.a0, .int .u64 a.a1, .int .u64 a.a2, .int .u64 a.a3, .sl false 1 (mI q), .int .i64 g, .int .i64 j, .str m]) (.cons (.same _) (.cons (.same _) (.cons (.same _) (.cons (.same _) (.cons (.same _) (.cons (.view 3 rfl) (.cons (.same _) (.cons (.same _) (.cons (.same _) (.refl _))))))))))) ?_))
  obtain ⟨av, aq, h⟩ := bind_some h
  refine sp rfl (Q4 (is := [0, 1]) (ph := []) rfl (dk rfl) fu101 rfl rfl (Zk.cons rfl (Zk.cons rfl Zk.nil)) (Ny K (bx0 := bx0) (wx0c2 := w) aq) (.cons rfl rfl (.cons rfl rfl (.nil))) (fun _ => rfl) (fun au => (nm (.c (.c (.c (.c (.n))))) (aw rfl (nL (tN (T.ret (Q2 (.cons _ _ _ _ (.tmp 4 _ rfl) .nil) (.cons 0 rfl (.cons 0 rfl (.nil _))) (by cases h; exact ⟨gl [au 0], rfl, rfl⟩)))))))))
theorem Ep (K : Nat) (rec_raddleref08_planner_plan : Qw → Int → Option (Int × Qw)) (hrec_raddleref08_planner_plan : Jr rec_raddleref08_planner_plan) {x0 : Qw} {x1 : Int} {bx0 : Nat} {wx0c2 : Value} {r : Int × Qw} (h : Jq K rec_raddleref08_planner_plan x0 x1 = some r) : V6 tp 63 [.ptr bx0 0, .int .i64 x1] [(Pd bx0 x0.l x0.most wx0c2 x0.long), .arrA wx0c2 165 9 (x0.out.map Qt)] (fun γ => (.int .i64 r.1)) (fun γ => [(Pd bx0 r.2.l r.2.most (γ 0) r.2.long), .arrA (γ 0) 165 9 (r.2.out.map Qt)]) := by
 refine CI 47 fu63 rfl ?_
 unfold Jq at h
 refine sR (Qq (aw rfl (nL (tN (sR (Qq (mw rfl (oK rfl (oP ul123 i80 rfl (oL 0 Rk rfl ?_))))))))))
 refine mw rfl ?_
 obtain ⟨a, j, h⟩ := bind_some h
 refine oX x0.l Qt Rk i165 j rfl (oJ Ln i165 rfl (sp rfl (Zb rfl (dk rfl) i165 rfl (fun m => (sp rfl (Qu (i := 0) (cells' := [.d (.int .u8 a.Op), .d (.int .u64 a.S.a0), .d (.int .u64 a.S.a1), .d (.int .u64 a.S.a2), .d (.int .u64 a.S.a3), .d (.sl false 1 (mI a.L)), .d (.int .i64 a.Lo), .d (.int .i64 a.Hi), .d (.str a.Name)]) rfl rfl i165 rfl rfl rfl rfl (nb rfl) rfl (nL (tN (T.seq (sR (Qq ?_)))))))))))
 refine mw rfl (oK rfl (oP ul123 i4 rfl (oL 1 ul4 rfl (nL (tN ?_)))))
 rcases Qe h with ⟨b, h⟩ | ⟨b, h⟩
 cases h
 refine Qo rfl b (T.skip (tN (T.seq (sR (Qq (oP Ln i5 rfl (oL 0 ul5 rfl (oI rfl ?_))))))))
 refine nL (tN ?_)
 rcases Qe h with ⟨g, h⟩ | ⟨g, h⟩
 cases h
 refine Qo rfl g (T.skip (tN (sR (Qq (aw rfl (nL (tN (T.seq (sR (Qq ?_))))))))))
 refine aw rfl (nL (tN (T.block (T.loop (Qg (Xh 3 1) ?_)))))
 refine Qg ?_ (Dx K rec_raddleref08_planner_plan hrec_raddleref08_planner_plan bx0 K (0:Int) x0.l x0.most x0.long x0.out a.Op a.S a.L a.Lo a.Hi a.Name [] wx0c2 m (Qdv 2) h)
 exact tr rfl (.c (.s (.s .z)) (.c (.s (.s .z)) (.c (.s .z) (.c .z (.n _)))))
theorem Eo (K : Nat) : ∀ n, Jr (V0 K n) := by
 intro n
 induction n with
 | zero =>
  intro x0 x1 bx0 wx0c2 r h
  exact zn h
 | succ n ih =>
  intro x0 x1 bx0 wx0c2 r h
  exact Ep K (V0 K n) ih h
theorem I1 (K : Nat) {x0 : Qw} {x1 : Int} {bx0 : Nat} {wx0c2 : Value} {r : Int × Qw} (h : Mq K x0 x1 = some r) : V6 tp 63 [.ptr bx0 0, .int .i64 x1] [(Pd bx0 x0.l x0.most wx0c2 x0.long), .arrA wx0c2 165 9 (x0.out.map Qt)] (fun γ => (.int .i64 r.1)) (fun γ => [(Pd bx0 r.2.l r.2.most (γ 0) r.2.long), .arrA (γ 0) 165 9 (r.2.out.map Qt)]) := Eo K K x0 x1 bx0 wx0c2 r h
abbrev raddleref08_Tree_q (r : (List Q0) × Int) : ES := U6 tp ff36 (fun y t => y = (.tup [.sl false 9 (r.1.map Qt), .int .i64 r.2]) ∧ t = [])
theorem Qc5 (K : Nat) {x0 : List Q0} {x1 : Int} {flx0 : Bool} {r : (List Q0) × Int} (h : Dy K x0 x1 = some r) : Zl tp 36 [.sl flx0 9 (x0.map Qt), .int .i64 x1] [] (.tup [.sl false 9 (r.1.map Qt), .int .i64 r.2]) := by
 refine CI 43 fu36 rfl ?_
 unfold Dy at h
 refine sR (Qq (aw rfl (aw rfl (nL (tN (T.seq (sR (Qq (mw rfl ?_)))))))))
 obtain ⟨u, m, h⟩ := bind_some h
 refine oH fu62 (Zl.nil (Fy K (flx0 := flx0) m)) rfl (oT rfl (mw rfl ?_))
 rcases Qe h with ⟨b, h⟩ | ⟨b, h⟩
 cases h
 refine sn rfl b (OpT.move rfl (dk rfl) rfl (sn rfl b (Zi rfl rfl (dk rfl) rfl rfl (oZ b rfl (mw rfl ?_)))))
 rcases Qe h with ⟨d, h⟩ | ⟨d, h⟩
 cases h
 refine sn rfl d (OpT.move rfl (dk rfl) rfl (sn rfl d (Zi rfl rfl (dk rfl) rfl rfl (oZ d rfl (nL (tN ?_))))))
 rcases Qe h with ⟨g, h⟩ | ⟨g, h⟩
 cases h
 refine Qo rfl g (T.skip (tN (sR (Qq (mw rfl (mw rfl (sp rfl (Zm (OpT.build (l := [.sl flx0 9 (x0.map Qt), .int .i64 x1, .ex (.slice none 0 0), .bool false]) rfl (dk rfl) (Zq (pl := [(0, 1), (1, 1), (2, 1), (3, 1)]) ul123 i123 rfl) (G9 rfl) rfl rfl rfl) (Z5 20 (l := [.sl flx0 9 (x0.map Qt), .int .i64 x1, .ex (.slice none 0 0), .bool false]) (l' := [.sl false 9 (x0.map Qt), .int .i64 x1, .ex (.slice none 0 0), .bool false]) (.cons (.full _ _ _) (.cons (.same _) (.cons (.same _) (.cons (.same _) (.refl _)))))) (sp rfl (Zc rfl (dk rfl) rfl (fun p => ?_)))))))))))
 refine aw rfl (nL (tN (sR (Qq (mw rfl (mw rfl (oU x0 Qt Rk rfl (oI rfl (Ji (Xh 165 9) ?_)))))))))
 obtain ⟨v, q, h⟩ := bind_some h
 refine sp rfl (Q4 (is := [1, 0]) (ph := []) rfl (dk rfl) fu63 rfl rfl (Zk.cons rfl (Zk.cons rfl Zk.nil)) (I1 K (bx0 := p) (wx0c2 := (Qdv 5)) q) (.cons rfl rfl (.cons rfl rfl (.nil))) (fun _ => rfl) (fun w => (nm (.c (.c (.n))) (nL (tN (T.seq (sR (Qq (mw rfl (oK rfl ?_))))))))))
 refine oP ul123 i4 rfl (oL 1 ul4 rfl (mw rfl ?_))
 rcases Qe h with ⟨a, h⟩ | ⟨a, h⟩
 cases h
 refine sn rfl a (OpT.move rfl (dk rfl) rfl (sn rfl a (OpT.nilCheck rfl (dk rfl) rfl rfl (sn rfl a (Xi rfl (dk rfl) ul123 rfl i80 (by decide) rfl (sn rfl a (Zm (Zw (i := 1) rfl (dk rfl) Rk rfl rfl rfl rfl rfl) (L9 35 0 rfl) ?_)))))))
 obtain ⟨y, s, h⟩ := bind_some h
 refine sn rfl a (Ub rfl (dk rfl) fu64 rfl rfl (Zk.cons rfl Zk.nil) (Zl.nil (F2 K (flx0 := false) s)) (sn rfl a (OpT.not rfl (dk rfl) rfl (oZ a rfl (nL (tN ?_))))))
 rcases Qe h with ⟨j, h⟩ | ⟨j, h⟩
 cases h
 refine Qo rfl j (T.skip (tN (sR (Qq (mw rfl (oK rfl (oP ul123 i80 rfl (oL 1 Rk rfl ?_))))))))
 refine aw rfl (aw rfl (nL (tN (T.ret (Xr (Zy.view 4 0 rfl rfl) (Fin.done (.cons _ _ _ _ (.tmp 4 _ rfl) (.cons _ _ _ _ (.tmp 5 _ rfl) .nil)) (by cases h; exact ⟨rfl, rfl⟩)))))))
end Go.Rv

/- Each function computes what its plain text says: printed by a program of ours. -/
import Derived.Test.YtcmfaclkgdmpbaaGreatDoorRgW5
namespace Go.Rv
open Go.Proofs
set_option maxRecDepth 100000
set_option maxHeartbeats 4000000
set_option linter.unusedVariables false
abbrev Qfg (r : Z5) : ES := J9 tp Tryz.f142 (fun y t => y = (.agg (Z5.dc .u64 r)) ∧ t = [])
theorem Qfh (K : Nat) {x0 : Z5} {x1 : Int} {r : Z5} (h : Io K x0 x1 = some r) : Zm tp 142 [.agg (Z5.dc .u64 x0), .int .u8 x1] [] (.agg (Z5.dc .u64 r)) := by
 refine Qt Tryz.func142 rfl (nb rfl) ?_
 show T tp 21 (ca [] Tryz.f142) ⟨Qw 0 [.agg (Z5.dc .u64 x0), .int .u8 x1], []⟩ (Qfg r)
 unfold Io at h
 refine T.seq (Qr ?_)
 refine sp rfl (Zb rfl (dk rfl) rfl (fun g => ?_))
 refine sp rfl (Zh rfl (dk rfl) i63 rfl (fun j => ?_))
 refine TL'.nil (tN ?_)
 refine T.seq ?_
 refine T.seq (Qr ?_)
 refine oA 1 (Z5.dc .u64 x0) Qhp i63 rfl ?_
 refine mw rfl ?_
 obtain ⟨m, d, h⟩ := bind_some h
 refine sp rfl (Q0 rfl (dk rfl) Tryz.func81 rfl rfl (Q5.cons rfl (Q5.cons rfl Q5.nil)) (Zm.nil (Lh K d)) ?_)
 refine oT rfl ?_
 refine TL'.nil (tN ?_)
 rcases Qd h with ⟨c, h⟩ | ⟨c, h⟩
 refine Qq rfl c ?_
 refine Qr ?_
 refine mw rfl ?_
 refine sp rfl (OpT.quo rfl (dk rfl) rfl rfl (by decide) ?_)
 refine mw rfl ?_
 refine sp rfl (OpT.quo rfl (dk rfl) rfl rfl (by decide) ?_)
 obtain ⟨b, h⟩ := Zf h
 refine sp rfl (Y8 rfl (dk rfl) Qhp i61 rfl rfl b.1 b.2 ?_)
 refine sp rfl (Zn (i := 1) rfl (dk rfl) ul61 rfl rfl rfl (Qil (k := .u64) (a := x0) (pre := []) (post := []) b.1 b.2) ?_)
 refine mw rfl ?_
 refine sp rfl (OpT.rem rfl (dk rfl) rfl rfl (by decide) ?_)
 obtain ⟨f, h⟩ := Zf h
 refine sp rfl (OpT.shl rfl (dk rfl) rfl rfl f ?_)
 refine oI rfl ?_
 refine sp rfl (Y8 rfl (dk rfl) Qhp i61 rfl rfl b.1 b.2 ?_)
 refine sp rfl (W2 (i := 1) (cells' := (Z5.oc .u64 (Z5.set x0 (IntKind.u8.wrap (Int.tdiv x1 (64:Int))) (IntKind.u64.wrap ((Z5.get x0 (IntKind.u8.wrap (Int.tdiv x1 (64:Int)))) + (IntKind.u64.wrap ((1:Int) * 2 ^ min (Int.toNat (Int.tmod x1 (64:Int))) IntKind.u64.bits))))))) rfl rfl i61 rfl rfl rfl (Z5.oc_lt (k := .u64) (a := x0) (pre := []) (post := []) b.1 b.2) (Z5.oc_set (k := .u64) (a := x0) (pre := []) (post := []) b.1 b.2) ?_)
 refine TL'.nil (tN (T.seq (Qr ?_)))
 refine oA 1 (Z5.dc .u64 (Z5.set x0 (IntKind.u8.wrap (Int.tdiv x1 (64:Int))) (IntKind.u64.wrap ((Z5.get x0 (IntKind.u8.wrap (Int.tdiv x1 (64:Int)))) + (IntKind.u64.wrap ((1:Int) * 2 ^ min (Int.toNat (Int.tmod x1 (64:Int))) IntKind.u64.bits)))))) Qhp i63 rfl ?_
 refine sp rfl (Qy (i := 0) (cells' := (Z5.oc .u64 (Z5.set x0 (IntKind.u8.wrap (Int.tdiv x1 (64:Int))) (IntKind.u64.wrap ((Z5.get x0 (IntKind.u8.wrap (Int.tdiv x1 (64:Int)))) + (IntKind.u64.wrap ((1:Int) * 2 ^ min (Int.toNat (Int.tmod x1 (64:Int))) IntKind.u64.bits))))))) rfl rfl i63 rfl rfl rfl rfl (nb rfl) rfl ?_)
 refine TL'.nil (tN ?_)
 refine T.ret ?_
 exact Fin.done (.cons _ _ _ _ (.cellAgg 4 63 _ 0 0 63 _ (Z5.dc .u64 (Z5.set x0 (IntKind.u8.wrap (Int.tdiv x1 (64:Int))) (IntKind.u64.wrap ((Z5.get x0 (IntKind.u8.wrap (Int.tdiv x1 (64:Int)))) + (IntKind.u64.wrap ((1:Int) * 2 ^ min (Int.toNat (Int.tmod x1 (64:Int))) IntKind.u64.bits)))))) _ _ 4 _ rfl rfl rfl rfl Qhp rfl i63) .nil) (by cases h; exact ⟨rfl, rfl⟩)
 cases h
abbrev Ip (r : Z5) : ES := J9 tp Tryz.f131 (fun y t => y = (.agg (Z5.dc .u64 r)) ∧ t = [])
abbrev Qc6 (r : Z5) : ES := thenS (fun s' => T tp 19 (ca [1,1,1] Tryz.f131) s' ((Ip r))) ((Ip r))
abbrev Qbd (r : Z5) : ES := Qz 0 ((Qc6 r))
theorem Qej {r : Z5} (K : Nat) : ∀ (k : Nat), ∀ (x0 : List Int) (d : Int) (j a : Z5) (flx0 : Bool) (g b : Nat), M0 K k x0 d j a = some r → TL tp 19 (ca [1,1,0,1,0,0] Tryz.f131) ⟨[(0, .sl flx0 1 (mU x0)), (2, .ptr g 0), (3, .ptr b 0), (4, .int .i64 d)], [.box g 63 (Z5.oc .u64 j), .box b 63 (Z5.oc .u64 a)]⟩ (Qbd r) := by
 intro k
 induction k with
 | zero =>
  intro x0 d j a flx0 g b h
  exact zn h
 | succ k ih =>
  intro x0 d j a flx0 g b h
  rw [M0] at h
  refine Q6 ?_
  refine T.seq ?_
  refine T.seq (Qr ?_)
  refine mw rfl ?_
  refine mw rfl ?_
  refine oU x0 (cI .u8) C8 rfl ?_
  refine oI rfl ?_
  refine TL'.nil (tN ?_)
  rcases Qd h with ⟨q, h⟩ | ⟨q, h⟩
  refine Qq rfl q ?_
  refine T.skip (tN ?_)
  refine T.seq ?_
  refine T.block ?_
  refine Yk ?_
  refine dW 1 (Z5.dc .u64 a) rfl (.f rfl) Qhp i63 rfl ?_
  refine dV rfl rfl ?_
  refine dV rfl rfl ?_
  obtain ⟨p, s, h⟩ := bind_some h
  refine dX x0 (cI .u8) rfl (.f rfl) C8 i5 s rfl ?_
  refine dR rfl (.f rfl) ul5 rfl ?_
  obtain ⟨m, w, h⟩ := bind_some h
  refine dS (c := ⟨some 17, .agg (Z5.dc .u64 m), [(12, .agg (Z5.dc .u64 a)), (16, .int .u8 p)], [], []⟩) (fun t hm => oF rfl rfl (Q0 rfl (dk rfl) Tryz.func142 rfl rfl (Q5.cons hm.s0 (Q5.cons hm.s1 Q5.nil)) (Zm.nil (Qfh K w)) rfl)) rfl rfl ?_
  refine dS (c := ⟨none, .any, [(3, .ptr b 0), (17, .agg (Z5.dc .u64 m))], [(1, .box b 63 (Z5.oc .u64 a))], [(1, .box b 63 (Z5.oc .u64 m))]⟩) (fun t hm => oF rfl rfl (Qy (i := 1) (cells' := (Z5.oc .u64 m)) rfl rfl i63 hm.s0 hm.s1 rfl hm.o0 (nb rfl) rfl rfl)) rfl rfl ?_
  refine dF [0,0,0,6,14,31,63] Q3 rfl (by kernel_rfl) (fun u hu => (Qn (tN (Qm hu ?_))))
  refine Qr ?_
  refine mw rfl ?_
  refine oI rfl ?_
  refine aw rfl ?_
  refine TL'.nil (tN ?_)
  refine Qh ?_ (ih x0 (wI (d + (1:Int))) j m flx0 g b h)
  exact tq rfl rfl
  refine Qp rfl q ?_
  refine T.exit (Qj (Qj (Qs (tN ?_))))
  refine T.seq (Qr ?_)
  refine oA 1 (Z5.dc .u64 a) Qhp i63 rfl ?_
  refine sp rfl (Qy (i := 0) (cells' := (Z5.oc .u64 a)) rfl rfl i63 rfl rfl rfl rfl (nb rfl) rfl ?_)
  refine TL'.nil (tN ?_)
  refine T.ret ?_
  exact Fin.done (.cons _ _ _ _ (.cellAgg 2 63 _ 0 0 63 _ (Z5.dc .u64 a) _ _ 4 _ rfl rfl rfl rfl Qhp rfl i63) .nil) (by cases h; exact ⟨rfl, rfl⟩)
theorem T2 (K : Nat) {x0 : List Int} {flx0 : Bool} {r : Z5} (h : E3 K x0 = some r) : Zm tp 131 [.sl flx0 1 (mU x0)] [] (.agg (Z5.dc .u64 r)) := by
 refine Qt Tryz.func131 rfl (nb rfl) ?_
 show T tp 19 (ca [] Tryz.f131) ⟨Qw 0 [.sl flx0 1 (mU x0)], []⟩ (Ip r)
 unfold E3 at h
 refine T.seq (Qr ?_)
 refine sp rfl (Zh rfl (dk rfl) i63 rfl (fun a => ?_))
 refine TL'.nil (tN (T.seq (Qr ?_)))
 refine sp rfl (OpT.build (l := (Z5.dc .u64 (Z5.mk 0 0 0 0))) rfl (dk rfl) (Qh4 Qhp i63 i61) (M1 rfl) rfl rfl ?_)
 refine sp rfl (Zh rfl (dk rfl) i63 rfl (fun b => ?_))
 refine sp rfl (Qy (i := 0) (cells' := (Z5.oc .u64 (Z5.mk 0 0 0 0))) rfl rfl i63 rfl rfl rfl rfl (nb rfl) rfl ?_)
 refine TL'.nil (tN ?_)
 refine T.seq ?_
 refine T.seq (Qr ?_)
 refine aw rfl ?_
 refine TL'.nil (tN ?_)
 refine T.block ?_
 refine T.loop ?_
 refine Qh ?_ (Qej K K x0 (0:Int) (Z5.mk 0 0 0 0) (Z5.mk 0 0 0 0) flx0 a b h)
 exact tr rfl (.c (.s .z) (.c .z (.n _)))
abbrev Rh (bx0 : Nat) (r : Int × Qg) : ES := J9 tp Tryz.f133 (fun y t => ∃ γ : Nat → Value, y = (.int .i64 r.1) ∧ t = [(Pn bx0 r.2.s r.2.at_ (γ 0) r.2.deep r.2.e r.2.where_), .arrA (γ 0) 165 9 (r.2.nodes.map Qo)])
theorem Ri (K : Nat) {x0 : Qg} {bx0 : Nat} {wx0c2 : Value} {r : Int × Qg} (h : L5 K x0 = some r) : U7 tp 133 [.ptr bx0 0] [(Pn bx0 x0.s x0.at_ wx0c2 x0.deep x0.e x0.where_), .arrA wx0c2 165 9 (x0.nodes.map Qo)] (fun γ => (.int .i64 r.1)) (fun γ => [(Pn bx0 r.2.s r.2.at_ (γ 0) r.2.deep r.2.e r.2.where_), .arrA (γ 0) 165 9 (r.2.nodes.map Qo)]) := by
 refine Qt Tryz.func133 rfl (nb rfl) ?_
 show T tp 112 (ca [] Tryz.f133) ⟨Qw 0 [.ptr bx0 0], [(Pn bx0 x0.s x0.at_ wx0c2 x0.deep x0.e x0.where_), .arrA wx0c2 165 9 (x0.nodes.map Qo)]⟩ (Rh bx0 r)
 unfold L5 at h
 refine T.seq (Qr ?_)
 refine aw rfl ?_
 refine TL'.nil (tN ?_)
 refine T.seq ?_
 refine Yk ?_
 refine dV rfl rfl ?_
 refine dK rfl (.f rfl) rfl ?_
 refine dP rfl (.f rfl) Cy i9 rfl ?_
 refine dL 0 rfl (.f rfl) ul9 rfl ?_
 refine dV rfl rfl ?_
 refine dK rfl (.f rfl) rfl ?_
 refine dP rfl (.f rfl) Cy i3 rfl ?_
 refine dL 0 rfl (.f rfl) ul3 rfl ?_
 obtain ⟨g, h⟩ := Zf h
 refine dS (c := ⟨some 13, .int .u8 (bt x0.s x0.at_), [(8, .str x0.s), (12, .int .i64 x0.at_)], [], []⟩) (fun t hm => oF rfl rfl (Mi rfl (dk rfl) ul9 hm.s0 hm.s1 g.1 g.2 rfl)) rfl rfl ?_
 refine dS (c := ⟨some 3, .int .u8 (bt x0.s x0.at_), [(13, .int .u8 (bt x0.s x0.at_))], [], []⟩) (fun t hm => oF rfl rfl (OpT.assign rfl (dk rfl) hm.s0 rfl)) rfl rfl ?_
 refine dF [0,1,3,7,0,16,48,112,255,511] Q3 rfl (by kernel_rfl) (fun u hu => (tN (Qm hu ?_)))
 refine T.seq ?_
 refine T.block ?_
 refine T.seq (Qr ?_)
 refine mw rfl ?_
 refine oI rfl ?_
 refine aw rfl ?_
 refine TL'.nil (tN ?_)
 rcases Qd h with ⟨j, h⟩ | ⟨j, h⟩
 cases h
 refine Qp rfl j ?_
 refine T.seq (Qr ?_)
 refine mw rfl ?_
 refine oI rfl ?_
 refine aw rfl ?_
 refine TL'.nil (tN ?_)
 rcases Qd h with ⟨m, h⟩ | ⟨m, h⟩
 cases h
 refine Qp rfl m ?_
 refine T.seq (Qr ?_)
 refine mw rfl ?_
 refine oI rfl ?_
 refine aw rfl ?_
 refine TL'.nil (tN ?_)
 rcases Qd h with ⟨p, h⟩ | ⟨p, h⟩
 cases h
 refine Qp rfl p ?_
 refine T.seq ?_
 refine Yk ?_
 refine dV rfl rfl ?_
 refine dI rfl (.f rfl) rfl ?_
 refine dV rfl rfl ?_
 rcases Qd h with ⟨a, h⟩ | ⟨a, h⟩
 cases h
 refine dO a rfl rfl ?_
 refine dO a rfl rfl ?_
 refine dO a rfl rfl ?_
 refine dO a rfl rfl ?_
 refine dO a rfl rfl ?_
 refine dO a rfl rfl ?_
 refine dO a rfl rfl ?_
 refine dO a rfl rfl ?_
 refine dO a rfl rfl ?_
 refine dO a rfl rfl ?_
 refine dO a rfl rfl ?_
 refine dO a rfl rfl ?_
 refine dG rfl rfl ?_
 refine dG rfl rfl ?_
 refine dG rfl rfl ?_
 refine dG rfl rfl ?_
 refine dG rfl rfl ?_
 refine dG rfl rfl ?_
 refine dG rfl rfl ?_
 refine dG rfl rfl ?_
 refine dG rfl rfl ?_
 refine dG rfl rfl ?_
 refine dG rfl rfl ?_
 refine dG rfl rfl ?_
 refine dO a rfl rfl ?_
 refine dZ rfl (.f rfl) a rfl ?_
 refine dS (c := ⟨some 40, .bool false, [(69, .bool false)], [], []⟩) (fun t hm => oF rfl rfl (OpT.assign rfl (dk rfl) hm.s0 rfl)) rfl rfl ?_
 refine dF [0,1,3,7,15,31,63,127,7,263,775,1799,3847,8191,16383,32767,65535,131071,262143,32767,557055,1605631,3702783,7897087,16777215,33554431,67108863,134217727,268435455,536870911] Q3 rfl (by kernel_rfl) (fun u hu => (tN (Qm hu ?_)))
 refine Qp rfl rfl ?_
 refine T.seq (Qr ?_)
 refine mw rfl ?_
 refine oI rfl ?_
 refine mw rfl ?_
 rcases Qd h with ⟨f, h⟩ | ⟨f, h⟩
 cases h
 refine sn rfl f (OpT.move rfl (dk rfl) rfl ?_)
 refine sn rfl f (Zj rfl rfl (dk rfl) rfl rfl ?_)
 refine oZ f rfl ?_
 refine aw rfl ?_
 refine TL'.nil (tN ?_)
 rcases Qd h with ⟨q, h⟩ | ⟨q, h⟩
 cases h
 refine Qp rfl q ?_
 refine T.seq (Qr ?_)
 refine mw rfl ?_
 refine oI rfl ?_
 refine mw rfl ?_
 rcases Qd h with ⟨d, h⟩ | ⟨d, h⟩
 refine sn rfl d (OpT.move rfl (dk rfl) rfl ?_)
 obtain ⟨ai, y, h⟩ := bind_some h
 refine sn rfl d (Q0 rfl (dk rfl) Tryz.func148 rfl rfl Q5.nil (Zm.nil (Qb9 K y)) ?_)
 obtain ⟨aj, z, h⟩ := bind_some h
 refine sn rfl d (Q0 rfl (dk rfl) Tryz.func147 rfl rfl (Q5.cons rfl (Q5.cons rfl Q5.nil)) (Zm.nil (Qg9 K z)) ?_)
 refine oY d rfl ?_
 refine aw rfl ?_
 refine TL'.nil (tN ?_)
 rcases Qd h with ⟨v, h⟩ | ⟨v, h⟩
 cases h
 refine Qp rfl v ?_
 refine T.skip (Qn (tN ?_))
 refine T.seq (Qr ?_)
 refine mw rfl ?_
 obtain ⟨aa, ab, h⟩ := bind_some h
 refine sp rfl (Q8 (is := [0, 1]) (ph := []) rfl (dk rfl) Tryz.func149 rfl rfl (Q5.cons rfl Q5.nil) (Sg K (bx0 := bx0) (wx0c2 := wx0c2) ab) (.cons rfl rfl (.cons rfl rfl (.nil))) (fun _ => rfl) (fun ac => ?_))
 refine nm (.c (.c (.n))) ?_
 refine aw rfl ?_
 refine TL'.nil (tN ?_)
 refine T.seq ?_
 refine T.seq (Qr ?_)
 refine mw rfl ?_
 refine oK rfl ?_
 refine oP Cy i30 rfl ?_
 refine oL 0 ul30 rfl ?_
 refine oI rfl ?_
 refine TL'.nil (tN ?_)
 rcases Qd h with ⟨w, h⟩ | ⟨w, h⟩
 cases h
 refine Qp rfl w ?_
 refine T.skip (tN ?_)
 refine T.seq (Qr ?_)
 refine mw rfl ?_
 refine mw rfl ?_
 refine sp rfl (OpT.buildSlice (elems := ([aa.1] : List Int).map (cI .u8)) rfl (dk rfl) C8 i5 (by decide) rfl (M1 rfl) rfl rfl rfl (Uf rfl) (by decide) ?_)
 obtain ⟨b, ad, h⟩ := bind_some h
 refine sp rfl (Q0 rfl (dk rfl) Tryz.func131 rfl rfl (Q5.cons rfl Q5.nil) (Zm.nil (T2 K (flx0 := true) ad)) ?_)
 refine sp rfl (Zq (OpT.build (l := [.int .u8 (2:Int), .int .u64 b.a0, .int .u64 b.a1, .int .u64 b.a2, .int .u64 b.a3, .ex (.slice none 0 0), .int .i64 (0:Int), .int .i64 (0:Int), .str (⟨#[]⟩ : ByteArray)]) rfl (dk rfl) (Zv (pl := [(0, 1), (1, 4), (5, 1), (6, 1), (7, 1), (8, 1)]) Mk i165 rfl) (M1 rfl) rfl rfl rfl) (Ye 110 (l := [.int .u8 (2:Int), .int .u64 b.a0, .int .u64 b.a1, .int .u64 b.a2, .int .u64 b.a3, .ex (.slice none 0 0), .int .i64 (0:Int), .int .i64 (0:Int), .str (⟨#[]⟩ : ByteArray)]) (l' := [.int .u8 (2:Int), .int .u64 b.a0, .int .u64 b.a1, .int .u64 b.a2, .int .u64 b.a3, .sl false 1 (([] : List Int).map (cI .i64)), .int .i64 (0:Int), .int .i64 (0:Int), .str (⟨#[]⟩ : ByteArray)]) (.cons (.same _) (.cons (.same _) (.cons (.same _) (.cons (.same _) (.cons (.same _) (.cons (.nil _ _) (.cons (.same _) (.cons (.same _) (.cons (.same _) (.refl _))))))))))) ?_)
 obtain ⟨al, af, h⟩ := bind_some h
 refine sp rfl (Q8 (is := [0, 1]) (ph := []) rfl (dk rfl) Tryz.func99 rfl rfl (Q5.cons rfl (Q5.cons rfl Q5.nil)) (Le K (bx0 := bx0) (wx0c2 := (ac 0)) af) (.cons rfl rfl (.cons rfl rfl (.nil))) (fun _ => rfl) (fun ag => ?_))
 refine nm (.c (.c (.n))) ?_
 refine aw rfl ?_
 refine TL'.nil (tN ?_)
 refine T.ret ?_
 exact Q7 (.cons _ _ _ _ (.tmp 2 _ rfl) .nil) (.cons 0 rfl (.cons 0 rfl (.nil _))) (by cases h; exact ⟨gl [ag 0], rfl, rfl⟩)
 cases h
abbrev H7 (bx0 : Nat) (r : Int × Qg) : ES := J9 tp Tryz.f121 (fun y t => ∃ γ : Nat → Value, y = (.int .i64 r.1) ∧ t = [(Pn bx0 r.2.s r.2.at_ (γ 0) r.2.deep r.2.e r.2.where_), .arrA (γ 0) 165 9 (r.2.nodes.map Qo)])
abbrev Ij (bx0 : Nat) (r : Int × Qg) : ES := thenS (fun s' => T tp 99 (ca [1,1,1] Tryz.f121) s' ((H7 bx0 r))) ((H7 bx0 r))
abbrev Ew (bx0 : Nat) (r : Int × Qg) : ES := Qz 0 ((Ij bx0 r))
theorem Nh {r : Int × Qg} (K bx0 : Nat) : ∀ (k : Nat), ∀ (m : Int) (a : ByteArray) (b f : Int) (g j : Int) (p : List Q4) (q : Value), Hl K k m a b f g j p = some r → TL tp 99 (ca [1,1,0,0,0] Tryz.f121) ⟨[(0, .ptr bx0 0), (3, .int .i64 m)], [(Pn bx0 a b q f g j), .arrA q 165 9 (p.map Qo)]⟩ (Ew bx0 r) := by
 intro k
 induction k with
 | zero =>
  intro m a b f g j p q h
  exact zn h
 | succ k ih =>
  intro m a b f g j p q h
  rw [Hl] at h
  refine Q6 ?_
  refine T.seq ?_
  refine T.seq (Qr ?_)
  refine mw rfl ?_
  obtain ⟨ab, aa, h⟩ := bind_some h
  refine sp rfl (Q8 (is := [0, 1]) (ph := []) rfl (dk rfl) Tryz.func60 rfl rfl (Q5.cons rfl Q5.nil) (Ji K (bx0 := bx0) (wx0c2 := q) aa) (.cons rfl rfl (.cons rfl rfl (.nil))) (fun _ => rfl) (fun l => ?_))
  refine nm (.c (.c (.n))) ?_
  refine oT rfl ?_
  refine TL'.nil (tN ?_)
  rcases Qd h with ⟨s, h⟩ | ⟨s, h⟩
  refine Qq rfl s ?_
  refine T.skip (tN ?_)
  refine T.block ?_
  refine T.seq (Qr ?_)
  refine aw rfl ?_
  refine aw rfl ?_
  refine TL'.nil (tN ?_)
  refine T.seq ?_
  refine Yk ?_
  refine dV rfl rfl ?_
  refine dK rfl (.f rfl) rfl ?_
  refine dP rfl (.f rfl) Cy i9 rfl ?_
  refine dL 0 rfl (.f rfl) ul9 rfl ?_
  refine dV rfl rfl ?_
  refine dK rfl (.f rfl) rfl ?_
  refine dP rfl (.f rfl) Cy i3 rfl ?_
  refine dL 0 rfl (.f rfl) ul3 rfl ?_
  obtain ⟨v, h⟩ := Zf h
  refine dS (c := ⟨some 20, .int .u8 (bt a b), [(15, .str a), (19, .int .i64 b)], [], []⟩) (fun t hm => oF rfl rfl (Mi rfl (dk rfl) ul9 hm.s0 hm.s1 v.1 v.2 rfl)) rfl rfl ?_
  refine dS (c := ⟨some 6, .int .u8 (bt a b), [(20, .int .u8 (bt a b))], [], []⟩) (fun t hm => oF rfl rfl (OpT.assign rfl (dk rfl) hm.s0 rfl)) rfl rfl ?_
  refine dF [0,1,3,7,0,16,48,112,255,511] Q3 rfl (by kernel_rfl) (fun u hu => (tN (Qm hu ?_)))
  refine T.seq ?_
  refine T.block ?_
  refine T.seq (Qr ?_)
  refine mw rfl ?_
  refine oI rfl ?_
  refine aw rfl ?_
  refine TL'.nil (tN ?_)
  rcases Qd h with ⟨w, h⟩ | ⟨w, h⟩
  cases h
  refine Qp rfl w ?_
  refine T.seq (Qr ?_)
  refine mw rfl ?_
  refine oI rfl ?_
  refine aw rfl ?_
  refine TL'.nil (tN ?_)
  rcases Qd h with ⟨y, h⟩ | ⟨y, h⟩
  cases h
  refine Qp rfl y ?_
  refine T.seq (Qr ?_)
  refine mw rfl ?_
  refine oI rfl ?_
  refine aw rfl ?_
  refine TL'.nil (tN ?_)
  rcases Qd h with ⟨z, h⟩ | ⟨z, h⟩
  cases h
  refine Qp rfl z ?_
  refine T.seq ?_
  refine Yk ?_
  refine dV rfl rfl ?_
  refine dI rfl (.f rfl) rfl ?_
  refine dV rfl rfl ?_
  rcases Qd h with ⟨d, h⟩ | ⟨d, h⟩
  cases h
  refine dO d rfl rfl ?_
  refine dO d rfl rfl ?_
  refine dO d rfl rfl ?_
  refine dO d rfl rfl ?_
  refine dO d rfl rfl ?_
  refine dO d rfl rfl ?_
  refine dO d rfl rfl ?_
  refine dO d rfl rfl ?_
  refine dO d rfl rfl ?_
  refine dO d rfl rfl ?_
  refine dO d rfl rfl ?_
  refine dZ rfl (.f rfl) d rfl ?_
  refine dV rfl rfl ?_
  refine dO rfl rfl rfl ?_
  refine dO rfl rfl rfl ?_
  refine dO rfl rfl rfl ?_
  refine dO rfl rfl rfl ?_
  refine dO rfl rfl rfl ?_
  refine dO rfl rfl rfl ?_
  refine dO rfl rfl rfl ?_
  refine dO rfl rfl rfl ?_
  refine dO rfl rfl rfl ?_
  refine dO rfl rfl rfl ?_
  refine dO rfl rfl rfl ?_
  refine dZ rfl (.f rfl) rfl rfl ?_
  refine dS (c := ⟨some 52, .bool false, [(80, .bool false)], [], []⟩) (fun t hm => oF rfl rfl (OpT.assign rfl (dk rfl) hm.s0 rfl)) rfl rfl ?_
  refine dF [0,1,3,7,15,31,63,127,7,263,775,1799,3847,8191,16383,32767,65535,131071,262143,524287,65535,1114111,3211263,7405567,15794175,33554431,67108863,134217727,268435455] Q3 rfl (by kernel_rfl) (fun u hu => (tN (Qm hu ?_)))
  refine Qp rfl rfl ?_
  refine T.seq (Qr ?_)
  refine mw rfl ?_
  refine aw rfl ?_
  refine TL'.nil (tN ?_)
  refine T.ret (Q2 (Qv (Q2 (Qv (Q2 (Qv ?_))))))
  exact Q7 (.cons _ _ _ _ (.tmp 2 _ rfl) .nil) (.cons 0 rfl (.cons 0 rfl (.nil _))) (by cases h; exact ⟨gl [l 0], rfl, rfl⟩)
  refine Qp rfl s ?_
  refine T.exit (Qj (Qj (Qs (tN ?_))))
  refine T.seq (Qr ?_)
  refine mw rfl ?_
  refine aw rfl ?_
  refine TL'.nil (tN ?_)
  refine T.ret ?_
  exact Q7 (.cons _ _ _ _ (.tmp 2 _ rfl) .nil) (.cons 0 rfl (.cons 0 rfl (.nil _))) (by cases h; exact ⟨gl [l 0], rfl, rfl⟩)
theorem Rf (K : Nat) {x0 : Qg} {bx0 : Nat} {wx0c2 : Value} {r : Int × Qg} (h : L4 K x0 = some r) : U7 tp 121 [.ptr bx0 0] [(Pn bx0 x0.s x0.at_ wx0c2 x0.deep x0.e x0.where_), .arrA wx0c2 165 9 (x0.nodes.map Qo)] (fun γ => (.int .i64 r.1)) (fun γ => [(Pn bx0 r.2.s r.2.at_ (γ 0) r.2.deep r.2.e r.2.where_), .arrA (γ 0) 165 9 (r.2.nodes.map Qo)]) := by
 refine Qt Tryz.func121 rfl (nb rfl) ?_
 show T tp 99 (ca [] Tryz.f121) ⟨Qw 0 [.ptr bx0 0], [(Pn bx0 x0.s x0.at_ wx0c2 x0.deep x0.e x0.where_), .arrA wx0c2 165 9 (x0.nodes.map Qo)]⟩ (H7 bx0 r)
 unfold L4 at h
 refine T.seq (Qr ?_)
 refine aw rfl ?_
 refine TL'.nil (tN (T.seq (Qr ?_)))
 refine mw rfl ?_
 obtain ⟨a, b, h⟩ := bind_some h
 refine sp rfl (Q8 (is := [0, 1]) (ph := []) rfl (dk rfl) Tryz.func133 rfl rfl (Q5.cons rfl Q5.nil) (Ri K (bx0 := bx0) (wx0c2 := wx0c2) b) (.cons rfl rfl (.cons rfl rfl (.nil))) (fun _ => rfl) (fun d => ?_))
 refine nm (.c (.c (.n))) ?_
 refine aw rfl ?_
 refine TL'.nil (tN ?_)
 refine T.seq ?_
 refine T.block ?_
 refine T.loop ?_
 refine Qh ?_ (Nh K bx0 K a.1 a.2.s a.2.at_ a.2.deep a.2.e a.2.where_ a.2.nodes (d 0) h)
 exact tq rfl rfl
abbrev Ld (bx0 : Nat) (r : Int × Qg) : ES := J9 tp Tryz.f98 (fun y t => ∃ γ : Nat → Value, y = (.int .i64 r.1) ∧ t = [(Pn bx0 r.2.s r.2.at_ (γ 0) r.2.deep r.2.e r.2.where_), .arrA (γ 0) 165 9 (r.2.nodes.map Qo)])
abbrev Ng (bx0 : Nat) (r : Int × Qg) : ES := thenS (fun s' => T tp 57 (ca [1,1,1] Tryz.f98) s' ((Ld bx0 r))) ((Ld bx0 r))
abbrev Jl (bx0 : Nat) (r : Int × Qg) : ES := Qz 0 ((Ng bx0 r))
abbrev Kh (bx0 : Nat) (r : Int × Qg) : ES := thenS (fun s' => TL tp 57 (ca [1,1,0,0,0] Tryz.f98) s' ((Jl bx0 r))) ((Jl bx0 r))
abbrev Ev (bx0 : Nat) (r : Int × Qg) : ES := thenS (fun s' => T tp 57 (ca [1,1,0,0,0,1] Tryz.f98) s' ((Kh bx0 r))) ((Kh bx0 r))
theorem Me {r : Int × Qg} (K bx0 : Nat) (g : ByteArray) (j m : Int) (p q : Int) (s : List Q4) (a : List Int) (d b : Value) (h : Jh K g j m p q s a = some r) : T tp 57 (ca [1,1,0,0,0,0,1,1] Tryz.f98) ⟨[(0, .ptr bx0 0), (3, .c (.ex b))], [(Pn bx0 g j d m p q), .arrA d 165 9 (s.map Qo), .arrA b 3 1 (mI a)]⟩ (Ev bx0 r) := by
 unfold Jh at h
 refine T.exit (Qj (Qj (Qs (tN ?_))))
 refine T.seq ?_
 refine T.seq (Qr ?_)
 refine mw rfl ?_
 refine oK rfl ?_
 refine oP Cy i30 rfl ?_
 refine oL 0 ul30 rfl ?_
 refine oI rfl ?_
 refine TL'.nil (tN ?_)
 rcases Qd h with ⟨u, h⟩ | ⟨u, h⟩
 cases h
 refine Qp rfl u ?_
 refine T.skip (tN ?_)
 refine T.seq ?_
 refine T.seq (Qr ?_)
 refine mw rfl ?_
 refine sp rfl (Kk (i := 2) (xs := a) (f := (cI .i64)) rfl (dk rfl) Zx rfl rfl ?_)
 refine oI rfl ?_
 refine TL'.nil (tN ?_)
 rcases Qd h with ⟨v, h⟩ | ⟨v, h⟩
 cases h
 refine Qp rfl v ?_
 refine T.skip (tN ?_)
 refine T.seq ?_
 refine T.seq (Qr ?_)
 refine mw rfl ?_
 refine sp rfl (Kk (i := 2) (xs := a) (f := (cI .i64)) rfl (dk rfl) Zx rfl rfl ?_)
 refine oI rfl ?_
 refine TL'.nil (tN ?_)
 rcases Qd h with ⟨w, h⟩ | ⟨w, h⟩
 cases h
 refine Qp rfl w ?_
 refine T.skip (tN ?_)
 refine T.seq (Qr ?_)
 refine mw rfl ?_
 refine mw rfl ?_
 refine sp rfl (Zq (OpT.build (l := [.int .u8 (3:Int), .int .u64 (Z5.mk 0 0 0 0).a0, .int .u64 (Z5.mk 0 0 0 0).a1, .int .u64 (Z5.mk 0 0 0 0).a2, .int .u64 (Z5.mk 0 0 0 0).a3, .ex b, .int .i64 (0:Int), .int .i64 (0:Int), .str (⟨#[]⟩ : ByteArray)]) rfl (dk rfl) (Zv (pl := [(0, 1), (1, 4), (5, 1), (6, 1), (7, 1), (8, 1)]) Mk i165 rfl) (M1 rfl) rfl rfl rfl) (Ye 55 (l := [.int .u8 (3:Int), .int .u64 (Z5.mk 0 0 0 0).a0, .int .u64 (Z5.mk 0 0 0 0).a1, .int .u64 (Z5.mk 0 0 0 0).a2, .int .u64 (Z5.mk 0 0 0 0).a3, .ex b, .int .i64 (0:Int), .int .i64 (0:Int), .str (⟨#[]⟩ : ByteArray)]) (l' := [.int .u8 (3:Int), .int .u64 (Z5.mk 0 0 0 0).a0, .int .u64 (Z5.mk 0 0 0 0).a1, .int .u64 (Z5.mk 0 0 0 0).a2, .int .u64 (Z5.mk 0 0 0 0).a3, .sl false 1 (mI a), .int .i64 (0:Int), .int .i64 (0:Int), .str (⟨#[]⟩ : ByteArray)]) (.cons (.same _) (.cons (.same _) (.cons (.same _) (.cons (.same _) (.cons (.same _) (.cons (.view 2 rfl) (.cons (.same _) (.cons (.same _) (.cons (.same _) (.refl _))))))))))) ?_)
 obtain ⟨aa, y, h⟩ := bind_some h
 refine sp rfl (Q8 (is := [0, 1]) (ph := []) rfl (dk rfl) Tryz.func99 rfl rfl (Q5.cons rfl (Q5.cons rfl Q5.nil)) (Le K (bx0 := bx0) (wx0c2 := d) y) (.cons rfl rfl (.cons rfl rfl (.nil))) (fun _ => rfl) (fun z => ?_))
 refine nm (.c (.c (.c (.n)))) ?_
 refine aw rfl ?_
 refine TL'.nil (tN ?_)
 refine T.ret ?_
 exact Q7 (.cons _ _ _ _ (.tmp 2 _ rfl) .nil) (.cons 0 rfl (.cons 0 rfl (.nil _))) (by cases h; exact ⟨gl [z 0], rfl, rfl⟩)
theorem Oh {r : Int × Qg} (K bx0 : Nat) : ∀ (k : Nat), ∀ (b : ByteArray) (d p : Int) (q v : Int) (y : List Q4) (aa : List Int) (ac w : Value), Jg K k b d p q v y aa = some r → TL tp 57 (ca [1,1,0,0,0] Tryz.f98) ⟨[(0, .ptr bx0 0), (3, .c (.ex w))], [(Pn bx0 b d ac p q v), .arrA ac 165 9 (y.map Qo), .arrA w 3 1 (mI aa)]⟩ (Jl bx0 r) := by
 intro k
 induction k with
 | zero =>
  intro b d p q v y aa ac w h
  exact zn h
 | succ k ih =>
  intro b d p q v y aa ac w h
  rw [Jg] at h
  refine Q6 ?_
  refine T.seq ?_
  refine T.seq ?_
  refine H1 ?_
  refine dC (c := ⟨some 4, .ptr bx0 0, [(0, .ptr bx0 0)], [], []⟩) (fun t hm => oF rfl rfl (OpT.move rfl (dk rfl) hm.s0 ⟨u0, rfl⟩)) (fun _ => rfl) (fun _ => rfl) ?_
  obtain ⟨m, ag, h⟩ := bind_some h
  refine DGG.step (c := fun a => ⟨some 5, .bool m, [(4, .ptr bx0 0)], [(1, .arrA ac 165 9 (y.map Qo)), (0, (Pn bx0 b d ac p q v))], [(0, (Pn bx0 b d ((a 1).1 0) p q v)), (1, .arrA ((a 1).1 0) 165 9 ((y).map Qo))]⟩) [1] (fun a γ' h => by simp only [h 1 (by decide)]) (fun a t hm => oF rfl rfl (Q8 (is := [0, 1]) (ph := []) rfl (dk rfl) Tryz.func60 rfl rfl (Q5.cons hm.s0 Q5.nil) (Ji K (bx0 := bx0) (wx0c2 := ac) ag) (.cons hm.o1 rfl (.cons hm.o0 rfl (.nil))) (fun _ => rfl) (fun g => ⟨(g, 0), rfl⟩))) (fun a => Z3 rfl rfl) ?_
  refine dC (c := ⟨some 6, .bool (!m), [(5, .bool m)], [], []⟩) (fun t hm => oF rfl rfl (OpT.not rfl (dk rfl) hm.s0 ⟨u0, rfl⟩)) (fun _ => rfl) (fun _ => rfl) ?_
  refine dC (c := ⟨some 7, .bool (!m), [(6, .bool (!m))], [], []⟩) (fun t hm => oF rfl rfl (OpT.move rfl (dk rfl) hm.s0 ⟨u0, rfl⟩)) (fun _ => rfl) (fun _ => rfl) ?_
  rcases Qd h with ⟨j, h⟩ | ⟨j, h⟩
  refine dC (c := ⟨some 8, .ptr bx0 0, [(0, .ptr bx0 0), (7, .bool (!m))], [], []⟩) (fun t hm => oN rfl rfl rfl hm.s1 j (OpT.move rfl (dk rfl) hm.s0 ⟨u0, rfl⟩)) (fun _ => rfl) (fun _ => rfl) ?_
  refine dC (c := ⟨some 9, .ptr bx0 0, [(8, .ptr bx0 0), (7, .bool (!m))], [], []⟩) (fun t hm => oN rfl rfl rfl hm.s1 j (OpT.nilCheck rfl (dk rfl) hm.s0 rfl ⟨u0, rfl⟩)) (fun _ => rfl) (fun _ => rfl) ?_
  refine dC (c := ⟨some 10, .ptr bx0 (0 + 0), [(9, .ptr bx0 0), (7, .bool (!m))], [], []⟩) (fun t hm => oN rfl rfl rfl hm.s1 j (Zs rfl (dk rfl) Cy rfl i9 (by decide) hm.s0 ⟨u0, rfl⟩)) (fun _ => rfl) (fun _ => rfl) ?_
  refine DGG.step (c := fun a => ⟨some 11, .str b, [(10, .ptr bx0 (0 + 0)), (7, .bool (!m))], [(0, (Pn bx0 b d ((a 1).1 0) p q v))], []⟩) [1] (fun a γ' h => by simp only [h 1 (by decide)]) (fun a t hm => oN rfl rfl rfl hm.s1 j (Zn (i := 0) rfl (dk rfl) ul9 rfl hm.s0 hm.o0 rfl ⟨u0, rfl⟩)) (fun a => Z3 rfl rfl) ?_
  refine dC (c := ⟨some 12, .ptr bx0 0, [(0, .ptr bx0 0), (7, .bool (!m))], [], []⟩) (fun t hm => oN rfl rfl rfl hm.s1 j (OpT.move rfl (dk rfl) hm.s0 ⟨u0, rfl⟩)) (fun _ => rfl) (fun _ => rfl) ?_
  refine dC (c := ⟨some 13, .ptr bx0 0, [(12, .ptr bx0 0), (7, .bool (!m))], [], []⟩) (fun t hm => oN rfl rfl rfl hm.s1 j (OpT.nilCheck rfl (dk rfl) hm.s0 rfl ⟨u0, rfl⟩)) (fun _ => rfl) (fun _ => rfl) ?_
  refine dC (c := ⟨some 14, .ptr bx0 (0 + 1), [(13, .ptr bx0 0), (7, .bool (!m))], [], []⟩) (fun t hm => oN rfl rfl rfl hm.s1 j (Zs rfl (dk rfl) Cy rfl i3 (by decide) hm.s0 ⟨u0, rfl⟩)) (fun _ => rfl) (fun _ => rfl) ?_
  refine DGG.step (c := fun a => ⟨some 15, .int .i64 d, [(14, .ptr bx0 (0 + 1)), (7, .bool (!m))], [(0, (Pn bx0 b d ((a 1).1 0) p q v))], []⟩) [1] (fun a γ' h => by simp only [h 1 (by decide)]) (fun a t hm => oN rfl rfl rfl hm.s1 j (Zn (i := 0) rfl (dk rfl) ul3 rfl hm.s0 hm.o0 rfl ⟨u0, rfl⟩)) (fun a => Z3 rfl rfl) ?_
  obtain ⟨ad, h⟩ := Zf h
  refine dC (c := ⟨some 16, .int .u8 (bt b d), [(11, .str b), (15, .int .i64 d), (7, .bool (!m))], [], []⟩) (fun t hm => oN rfl rfl rfl hm.s2 j (Mi rfl (dk rfl) ul9 hm.s0 hm.s1 ad.1 ad.2 ⟨u0, rfl⟩)) (fun _ => rfl) (fun _ => rfl) ?_
  refine dC (c := ⟨some 17, .bool ((bt b d) != (124:Int)), [(16, .int .u8 (bt b d)), (7, .bool (!m))], [], []⟩) (fun t hm => oN rfl rfl rfl hm.s1 j (Zj rfl rfl (dk rfl) hm.s0 rfl ⟨u0, rfl⟩)) (fun _ => rfl) (fun _ => rfl) ?_
  refine dC (c := ⟨some 18, .bool ((bt b d) != (124:Int)), [(7, .bool (!m)), (17, .bool ((bt b d) != (124:Int)))], [], []⟩) (fun t hm => oF rfl rfl (Bw rfl (dk rfl) hm.s0 j hm.s1 ⟨u0, rfl⟩)) (fun _ => rfl) (fun _ => rfl) ?_
  refine dC (c := ⟨some 19, .bool ((bt b d) != (124:Int)), [(18, .bool ((bt b d) != (124:Int)))], [], []⟩) (fun t hm => oF rfl rfl (OpT.move rfl (dk rfl) hm.s0 ⟨u0, rfl⟩)) (fun _ => rfl) (fun _ => rfl) ?_
  rcases Qd h with ⟨l, h⟩ | ⟨l, h⟩
  refine dC (c := ⟨some 20, .ptr bx0 0, [(0, .ptr bx0 0), (19, .bool ((bt b d) != (124:Int)))], [], []⟩) (fun t hm => oN rfl rfl rfl hm.s1 l (OpT.move rfl (dk rfl) hm.s0 ⟨u0, rfl⟩)) (fun _ => rfl) (fun _ => rfl) ?_
  refine dC (c := ⟨some 21, .ptr bx0 0, [(20, .ptr bx0 0), (19, .bool ((bt b d) != (124:Int)))], [], []⟩) (fun t hm => oN rfl rfl rfl hm.s1 l (OpT.nilCheck rfl (dk rfl) hm.s0 rfl ⟨u0, rfl⟩)) (fun _ => rfl) (fun _ => rfl) ?_
  refine dC (c := ⟨some 22, .ptr bx0 (0 + 0), [(21, .ptr bx0 0), (19, .bool ((bt b d) != (124:Int)))], [], []⟩) (fun t hm => oN rfl rfl rfl hm.s1 l (Zs rfl (dk rfl) Cy rfl i9 (by decide) hm.s0 ⟨u0, rfl⟩)) (fun _ => rfl) (fun _ => rfl) ?_
  refine DGG.step (c := fun a => ⟨some 23, .str b, [(22, .ptr bx0 (0 + 0)), (19, .bool ((bt b d) != (124:Int)))], [(0, (Pn bx0 b d ((a 1).1 0) p q v))], []⟩) [1] (fun a γ' h => by simp only [h 1 (by decide)]) (fun a t hm => oN rfl rfl rfl hm.s1 l (Zn (i := 0) rfl (dk rfl) ul9 rfl hm.s0 hm.o0 rfl ⟨u0, rfl⟩)) (fun a => Z3 rfl rfl) ?_
  refine dC (c := ⟨some 24, .ptr bx0 0, [(0, .ptr bx0 0), (19, .bool ((bt b d) != (124:Int)))], [], []⟩) (fun t hm => oN rfl rfl rfl hm.s1 l (OpT.move rfl (dk rfl) hm.s0 ⟨u0, rfl⟩)) (fun _ => rfl) (fun _ => rfl) ?_
  refine dC (c := ⟨some 25, .ptr bx0 0, [(24, .ptr bx0 0), (19, .bool ((bt b d) != (124:Int)))], [], []⟩) (fun t hm => oN rfl rfl rfl hm.s1 l (OpT.nilCheck rfl (dk rfl) hm.s0 rfl ⟨u0, rfl⟩)) (fun _ => rfl) (fun _ => rfl) ?_
  refine dC (c := ⟨some 26, .ptr bx0 (0 + 1), [(25, .ptr bx0 0), (19, .bool ((bt b d) != (124:Int)))], [], []⟩) (fun t hm => oN rfl rfl rfl hm.s1 l (Zs rfl (dk rfl) Cy rfl i3 (by decide) hm.s0 ⟨u0, rfl⟩)) (fun _ => rfl) (fun _ => rfl) ?_
  refine DGG.step (c := fun a => ⟨some 27, .int .i64 d, [(26, .ptr bx0 (0 + 1)), (19, .bool ((bt b d) != (124:Int)))], [(0, (Pn bx0 b d ((a 1).1 0) p q v))], []⟩) [1] (fun a γ' h => by simp only [h 1 (by decide)]) (fun a t hm => oN rfl rfl rfl hm.s1 l (Zn (i := 0) rfl (dk rfl) ul3 rfl hm.s0 hm.o0 rfl ⟨u0, rfl⟩)) (fun a => Z3 rfl rfl) ?_
  refine dC (c := ⟨some 28, .int .u8 (bt b d), [(23, .str b), (27, .int .i64 d), (19, .bool ((bt b d) != (124:Int)))], [], []⟩) (fun t hm => oN rfl rfl rfl hm.s2 l (Mi rfl (dk rfl) ul9 hm.s0 hm.s1 ad.1 ad.2 ⟨u0, rfl⟩)) (fun _ => rfl) (fun _ => rfl) ?_
  refine dC (c := ⟨some 29, .bool ((bt b d) != (41:Int)), [(28, .int .u8 (bt b d)), (19, .bool ((bt b d) != (124:Int)))], [], []⟩) (fun t hm => oN rfl rfl rfl hm.s1 l (Zj rfl rfl (dk rfl) hm.s0 rfl ⟨u0, rfl⟩)) (fun _ => rfl) (fun _ => rfl) ?_
  refine dC (c := ⟨some 30, .bool ((bt b d) != (41:Int)), [(19, .bool ((bt b d) != (124:Int))), (29, .bool ((bt b d) != (41:Int)))], [], []⟩) (fun t hm => oF rfl rfl (Bw rfl (dk rfl) hm.s0 l hm.s1 ⟨u0, rfl⟩)) (fun _ => rfl) (fun _ => rfl) ?_
  refine gF [0,1,3,7,15,31,63,127,15,271,783,1807,4095,8191,16383,32767,65535,131071,262143,524287,65535,1114111,3211263,7405567,16777215,33554431,67108863] Q3 rfl (by kernel_rfl) (fun _ => by kernel_rfl) (fun a u hu => (tN (Qm hu ?_)))
  rcases Qd h with ⟨af, h⟩ | ⟨af, h⟩
  refine Qq rfl af ?_
  refine T.skip (tN ?_)
  refine T.block ?_
  refine Qr ?_
  refine mw rfl ?_
  refine mw rfl ?_
  obtain ⟨ab, ai, h⟩ := bind_some h
  refine sp rfl (Q8 (is := [0, 1]) (ph := []) rfl (dk rfl) Tryz.func121 rfl rfl (Q5.cons rfl Q5.nil) (Rf K (bx0 := bx0) (wx0c2 := ((a 1).1 0)) ai) (.cons rfl rfl (.cons rfl rfl (.nil))) (fun _ => rfl) (fun aj => ?_))
  refine nm (.c (.c (.c (.n)))) ?_
  refine sp rfl (OpT.buildSlice (elems := ([ab.1] : List Int).map (cI .i64)) rfl (dk rfl) Zx i3 (by decide) rfl (M1 rfl) rfl rfl rfl (Uf rfl) (by decide) ?_)
  obtain ⟨al, h⟩ := Zf h
  refine sp rfl (Zy (i := 2) (xs := aa) (ys := [ab.1]) (f := (cI .i64)) rfl (dk rfl) Zx i3 rfl rfl rfl rfl al (fun am => ?_))
  refine aw rfl ?_
  refine TL'.nil (Qn (tN ?_))
  refine Qh ?_ (ih ab.2.s ab.2.at_ ab.2.deep ab.2.e ab.2.where_ ab.2.nodes (aa ++ [ab.1]) (aj 0) am h)
  exact tq rfl rfl
  cases h
  refine DGG.off l rfl rfl rfl rfl rfl (fun _ => rfl) ?_
  refine DGG.off l rfl rfl rfl rfl rfl (fun _ => rfl) ?_
  refine DGG.off l rfl rfl rfl rfl rfl (fun _ => rfl) ?_
  refine DGG.off l rfl rfl rfl rfl rfl (fun _ => rfl) ?_
  refine DGG.off l rfl rfl rfl rfl rfl (fun _ => rfl) ?_
  refine DGG.off l rfl rfl rfl rfl rfl (fun _ => rfl) ?_
  refine DGG.off l rfl rfl rfl rfl rfl (fun _ => rfl) ?_
  refine DGG.off l rfl rfl rfl rfl rfl (fun _ => rfl) ?_
  refine DGG.off l rfl rfl rfl rfl rfl (fun _ => rfl) ?_
  refine DGG.off l rfl rfl rfl rfl rfl (fun _ => rfl) ?_
  refine dC (c := ⟨some 30, .bool false, [(19, .bool ((bt b d) != (124:Int)))], [], []⟩) (fun t hm => oF rfl rfl (Bx rfl (dk rfl) hm.s0 l rfl ⟨u0, rfl⟩)) (fun _ => rfl) (fun _ => rfl) ?_
  refine gF [0,1,3,7,15,31,63,127,15,271,783,1807,4095,8191,16383,32767,65535,131071,262143,524287,65535,1114111,3211263,7405567,16777215,33554431,67108863] Q3 rfl (by kernel_rfl) (fun _ => by kernel_rfl) (fun a u hu => (tN (Qm hu ?_)))
  refine Qp rfl rfl ?_
  refine Qm ?_ (Me K bx0 b d p q v y aa ((a 1).1 0) w h)
  exact tq rfl rfl
  refine DGG.off j rfl rfl rfl rfl rfl (fun _ => rfl) ?_
  refine DGG.off j rfl rfl rfl rfl rfl (fun _ => rfl) ?_
  refine DGG.off j rfl rfl rfl rfl rfl (fun _ => rfl) ?_
  refine DGG.off j rfl rfl rfl rfl rfl (fun _ => rfl) ?_
  refine DGG.off j rfl rfl rfl rfl rfl (fun _ => rfl) ?_
  refine DGG.off j rfl rfl rfl rfl rfl (fun _ => rfl) ?_
  refine DGG.off j rfl rfl rfl rfl rfl (fun _ => rfl) ?_
  refine DGG.off j rfl rfl rfl rfl rfl (fun _ => rfl) ?_
  refine DGG.off j rfl rfl rfl rfl rfl (fun _ => rfl) ?_
  refine DGG.off j rfl rfl rfl rfl rfl (fun _ => rfl) ?_
  refine dC (c := ⟨some 18, .bool false, [(7, .bool (!m))], [], []⟩) (fun t hm => oF rfl rfl (Bx rfl (dk rfl) hm.s0 j rfl ⟨u0, rfl⟩)) (fun _ => rfl) (fun _ => rfl) ?_
  refine dC (c := ⟨some 19, .bool false, [(18, .bool false)], [], []⟩) (fun t hm => oF rfl rfl (OpT.move rfl (dk rfl) hm.s0 ⟨u0, rfl⟩)) (fun _ => rfl) (fun _ => rfl) ?_
  refine DGG.off rfl rfl rfl rfl rfl rfl (fun _ => rfl) ?_
  refine DGG.off rfl rfl rfl rfl rfl rfl (fun _ => rfl) ?_
  refine DGG.off rfl rfl rfl rfl rfl rfl (fun _ => rfl) ?_
  refine DGG.off rfl rfl rfl rfl rfl rfl (fun _ => rfl) ?_
  refine DGG.off rfl rfl rfl rfl rfl rfl (fun _ => rfl) ?_
  refine DGG.off rfl rfl rfl rfl rfl rfl (fun _ => rfl) ?_
  refine DGG.off rfl rfl rfl rfl rfl rfl (fun _ => rfl) ?_
  refine DGG.off rfl rfl rfl rfl rfl rfl (fun _ => rfl) ?_
  refine DGG.off rfl rfl rfl rfl rfl rfl (fun _ => rfl) ?_
  refine DGG.off rfl rfl rfl rfl rfl rfl (fun _ => rfl) ?_
  refine dC (c := ⟨some 30, .bool false, [(19, .bool false)], [], []⟩) (fun t hm => oF rfl rfl (Bx rfl (dk rfl) hm.s0 rfl rfl ⟨u0, rfl⟩)) (fun _ => rfl) (fun _ => rfl) ?_
  refine gF [0,1,3,7,15,31,63,127,15,271,783,1807,4095,8191,16383,32767,65535,131071,262143,524287,65535,1114111,3211263,7405567,16777215,33554431,67108863] Q3 rfl (by kernel_rfl) (fun _ => by kernel_rfl) (fun a u hu => (tN (Qm hu ?_)))
  refine Qp rfl rfl ?_
  refine Qm ?_ (Me K bx0 b d p q v y aa ((a 1).1 0) w h)
  exact tq rfl rfl
theorem Cw (K : Nat) {x0 : Qg} {bx0 : Nat} {wx0c2 : Value} {r : Int × Qg} (h : W7 K x0 = some r) : U7 tp 98 [.ptr bx0 0] [(Pn bx0 x0.s x0.at_ wx0c2 x0.deep x0.e x0.where_), .arrA wx0c2 165 9 (x0.nodes.map Qo)] (fun γ => (.int .i64 r.1)) (fun γ => [(Pn bx0 r.2.s r.2.at_ (γ 0) r.2.deep r.2.e r.2.where_), .arrA (γ 0) 165 9 (r.2.nodes.map Qo)]) := by
 refine Qt Tryz.func98 rfl (nb rfl) ?_
 show T tp 57 (ca [] Tryz.f98) ⟨Qw 0 [.ptr bx0 0], [(Pn bx0 x0.s x0.at_ wx0c2 x0.deep x0.e x0.where_), .arrA wx0c2 165 9 (x0.nodes.map Qo)]⟩ (Ld bx0 r)
 unfold W7 at h
 refine T.seq (Qr ?_)
 refine aw rfl ?_
 refine TL'.nil (tN (T.seq (Qr ?_)))
 refine aw rfl ?_
 refine TL'.nil (tN ?_)
 refine T.seq ?_
 refine T.block ?_
 refine T.loop ?_
 refine Qh (Xy 3 1) ?_
 refine Qh ?_ (Oh K bx0 K x0.s x0.at_ x0.deep x0.e x0.where_ x0.nodes [] wx0c2 (Qf1 2) h)
 exact tr rfl (.c (.s .z) (.c (.s .z) (.c .z (.n _))))
abbrev Ut (bx0 : Nat) (r : Int × Qg) : ES := J9 tp Tryz.f59 (fun y t => ∃ γ : Nat → Value, y = (.int .i64 r.1) ∧ t = [(Pn bx0 r.2.s r.2.at_ (γ 0) r.2.deep r.2.e r.2.where_), .arrA (γ 0) 165 9 (r.2.nodes.map Qo)])
abbrev Br (bx0 : Nat) (r : Int × Qg) : ES := thenS (fun s' => T tp 51 (ca [1,1,1] Tryz.f59) s' ((Ut bx0 r))) ((Ut bx0 r))
abbrev Mw (bx0 : Nat) (r : Int × Qg) : ES := Qz 0 ((Br bx0 r))
theorem Cj {r : Int × Qg} (K bx0 : Nat) : ∀ (k : Nat), ∀ (j : ByteArray) (m q : Int) (v w : Int) (ac : List Q4) (y : List Int) (ad aa : Value), Xm K k j m q v w ac y = some r → TL tp 51 (ca [1,1,0,0,0] Tryz.f59) ⟨[(0, .ptr bx0 0), (3, .c (.ex aa))], [(Pn bx0 j m ad q v w), .arrA ad 165 9 (ac.map Qo), .arrA aa 3 1 (mI y)]⟩ (Mw bx0 r) := by
 intro k
 induction k with
 | zero =>
  intro j m q v w ac y ad aa h
  exact zn h
 | succ k ih =>
  intro j m q v w ac y ad aa h
  rw [Xm] at h
  refine Q6 ?_
  refine T.seq ?_
  refine T.seq ?_
  refine H1 ?_
  refine dC (c := ⟨some 7, .ptr bx0 0, [(0, .ptr bx0 0)], [], []⟩) (fun t hm => oF rfl rfl (OpT.move rfl (dk rfl) hm.s0 ⟨u0, rfl⟩)) (fun _ => rfl) (fun _ => rfl) ?_
  obtain ⟨p, al, h⟩ := bind_some h
  refine DGG.step (c := fun a => ⟨some 8, .bool p, [(7, .ptr bx0 0)], [(1, .arrA ad 165 9 (ac.map Qo)), (0, (Pn bx0 j m ad q v w))], [(0, (Pn bx0 j m ((a 1).1 0) q v w)), (1, .arrA ((a 1).1 0) 165 9 ((ac).map Qo))]⟩) [1] (fun a γ' h => by simp only [h 1 (by decide)]) (fun a t hm => oF rfl rfl (Q8 (is := [0, 1]) (ph := []) rfl (dk rfl) Tryz.func60 rfl rfl (Q5.cons hm.s0 Q5.nil) (Ji K (bx0 := bx0) (wx0c2 := ad) al) (.cons hm.o1 rfl (.cons hm.o0 rfl (.nil))) (fun _ => rfl) (fun g => ⟨(g, 0), rfl⟩))) (fun a => Z3 rfl rfl) ?_
  refine dC (c := ⟨some 9, .bool (!p), [(8, .bool p)], [], []⟩) (fun t hm => oF rfl rfl (OpT.not rfl (dk rfl) hm.s0 ⟨u0, rfl⟩)) (fun _ => rfl) (fun _ => rfl) ?_
  refine dC (c := ⟨some 10, .bool (!p), [(9, .bool (!p))], [], []⟩) (fun t hm => oF rfl rfl (OpT.move rfl (dk rfl) hm.s0 ⟨u0, rfl⟩)) (fun _ => rfl) (fun _ => rfl) ?_
  rcases Qd h with ⟨b, h⟩ | ⟨b, h⟩
  refine dC (c := ⟨some 11, .ptr bx0 0, [(0, .ptr bx0 0), (10, .bool (!p))], [], []⟩) (fun t hm => oN rfl rfl rfl hm.s1 b (OpT.move rfl (dk rfl) hm.s0 ⟨u0, rfl⟩)) (fun _ => rfl) (fun _ => rfl) ?_
  refine dC (c := ⟨some 12, .ptr bx0 0, [(11, .ptr bx0 0), (10, .bool (!p))], [], []⟩) (fun t hm => oN rfl rfl rfl hm.s1 b (OpT.nilCheck rfl (dk rfl) hm.s0 rfl ⟨u0, rfl⟩)) (fun _ => rfl) (fun _ => rfl) ?_
  refine dC (c := ⟨some 13, .ptr bx0 (0 + 0), [(12, .ptr bx0 0), (10, .bool (!p))], [], []⟩) (fun t hm => oN rfl rfl rfl hm.s1 b (Zs rfl (dk rfl) Cy rfl i9 (by decide) hm.s0 ⟨u0, rfl⟩)) (fun _ => rfl) (fun _ => rfl) ?_
  refine DGG.step (c := fun a => ⟨some 14, .str j, [(13, .ptr bx0 (0 + 0)), (10, .bool (!p))], [(0, (Pn bx0 j m ((a 1).1 0) q v w))], []⟩) [1] (fun a γ' h => by simp only [h 1 (by decide)]) (fun a t hm => oN rfl rfl rfl hm.s1 b (Zn (i := 0) rfl (dk rfl) ul9 rfl hm.s0 hm.o0 rfl ⟨u0, rfl⟩)) (fun a => Z3 rfl rfl) ?_
  refine dC (c := ⟨some 15, .ptr bx0 0, [(0, .ptr bx0 0), (10, .bool (!p))], [], []⟩) (fun t hm => oN rfl rfl rfl hm.s1 b (OpT.move rfl (dk rfl) hm.s0 ⟨u0, rfl⟩)) (fun _ => rfl) (fun _ => rfl) ?_
  refine dC (c := ⟨some 16, .ptr bx0 0, [(15, .ptr bx0 0), (10, .bool (!p))], [], []⟩) (fun t hm => oN rfl rfl rfl hm.s1 b (OpT.nilCheck rfl (dk rfl) hm.s0 rfl ⟨u0, rfl⟩)) (fun _ => rfl) (fun _ => rfl) ?_
  refine dC (c := ⟨some 17, .ptr bx0 (0 + 1), [(16, .ptr bx0 0), (10, .bool (!p))], [], []⟩) (fun t hm => oN rfl rfl rfl hm.s1 b (Zs rfl (dk rfl) Cy rfl i3 (by decide) hm.s0 ⟨u0, rfl⟩)) (fun _ => rfl) (fun _ => rfl) ?_
  refine DGG.step (c := fun a => ⟨some 18, .int .i64 m, [(17, .ptr bx0 (0 + 1)), (10, .bool (!p))], [(0, (Pn bx0 j m ((a 1).1 0) q v w))], []⟩) [1] (fun a γ' h => by simp only [h 1 (by decide)]) (fun a t hm => oN rfl rfl rfl hm.s1 b (Zn (i := 0) rfl (dk rfl) ul3 rfl hm.s0 hm.o0 rfl ⟨u0, rfl⟩)) (fun a => Z3 rfl rfl) ?_
  obtain ⟨ag, h⟩ := Zf h
  refine dC (c := ⟨some 19, .int .u8 (bt j m), [(14, .str j), (18, .int .i64 m), (10, .bool (!p))], [], []⟩) (fun t hm => oN rfl rfl rfl hm.s2 b (Mi rfl (dk rfl) ul9 hm.s0 hm.s1 ag.1 ag.2 ⟨u0, rfl⟩)) (fun _ => rfl) (fun _ => rfl) ?_
  refine dC (c := ⟨some 20, .bool ((bt j m) == (124:Int)), [(19, .int .u8 (bt j m)), (10, .bool (!p))], [], []⟩) (fun t hm => oN rfl rfl rfl hm.s1 b (Zj rfl rfl (dk rfl) hm.s0 rfl ⟨u0, rfl⟩)) (fun _ => rfl) (fun _ => rfl) ?_
  refine dC (c := ⟨some 21, .bool ((bt j m) == (124:Int)), [(10, .bool (!p)), (20, .bool ((bt j m) == (124:Int)))], [], []⟩) (fun t hm => oF rfl rfl (Bw rfl (dk rfl) hm.s0 b hm.s1 ⟨u0, rfl⟩)) (fun _ => rfl) (fun _ => rfl) ?_
  refine gF [0,1,3,7,15,31,63,127,15,271,783,1807,4095,8191,16383] Q3 rfl (by kernel_rfl) (fun _ => by kernel_rfl) (fun a u hu => (tN (Qm hu ?_)))
  rcases Qd h with ⟨ai, h⟩ | ⟨ai, h⟩
  refine Qq rfl ai ?_
  refine T.skip (tN ?_)
  refine T.block ?_
  refine T.seq (Qr ?_)
  refine mw rfl ?_
  refine oK rfl ?_
  refine oP Cy i3 rfl ?_
  refine oL 0 ul3 rfl ?_
  refine oI rfl ?_
  refine oK rfl ?_
  refine oP Cy i3 rfl ?_
  refine sp rfl (W2 (i := 0) (cells' := [.d (.str j), .d (.int .i64 (wI (m + (1:Int)))), .d (.ex ((a 1).1 0)), .d (.int .i64 q), .d (.int .i64 v), .d (.int .i64 w)]) rfl rfl i3 rfl rfl rfl (nb rfl) rfl ?_)
  refine TL'.nil (tN ?_)
  refine Qr ?_
  refine mw rfl ?_
  refine mw rfl ?_
  obtain ⟨ab, am, h⟩ := bind_some h
  refine sp rfl (Q8 (is := [0, 1]) (ph := []) rfl (dk rfl) Tryz.func98 rfl rfl (Q5.cons rfl Q5.nil) (Cw K (bx0 := bx0) (wx0c2 := ((a 1).1 0)) am) (.cons rfl rfl (.cons rfl rfl (.nil))) (fun _ => rfl) (fun an => ?_))
  refine nm (.c (.c (.c (.n)))) ?_
  refine sp rfl (OpT.buildSlice (elems := ([ab.1] : List Int).map (cI .i64)) rfl (dk rfl) Zx i3 (by decide) rfl (M1 rfl) rfl rfl rfl (Uf rfl) (by decide) ?_)
  obtain ⟨ap, h⟩ := Zf h
  refine sp rfl (Zy (i := 2) (xs := y) (ys := [ab.1]) (f := (cI .i64)) rfl (dk rfl) Zx i3 rfl rfl rfl rfl ap (fun aq => ?_))
  refine aw rfl ?_
  refine TL'.nil (Qn (tN ?_))
  refine Qh ?_ (ih ab.2.s ab.2.at_ ab.2.deep ab.2.e ab.2.where_ ab.2.nodes (y ++ [ab.1]) (an 0) aq h)
  exact tq rfl rfl
  cases h
  refine DGG.off b rfl rfl rfl rfl rfl (fun _ => rfl) ?_
  refine DGG.off b rfl rfl rfl rfl rfl (fun _ => rfl) ?_
  refine DGG.off b rfl rfl rfl rfl rfl (fun _ => rfl) ?_
  refine DGG.off b rfl rfl rfl rfl rfl (fun _ => rfl) ?_
  refine DGG.off b rfl rfl rfl rfl rfl (fun _ => rfl) ?_
  refine DGG.off b rfl rfl rfl rfl rfl (fun _ => rfl) ?_
  refine DGG.off b rfl rfl rfl rfl rfl (fun _ => rfl) ?_
  refine DGG.off b rfl rfl rfl rfl rfl (fun _ => rfl) ?_
  refine DGG.off b rfl rfl rfl rfl rfl (fun _ => rfl) ?_
  refine DGG.off b rfl rfl rfl rfl rfl (fun _ => rfl) ?_
  refine dC (c := ⟨some 21, .bool false, [(10, .bool (!p))], [], []⟩) (fun t hm => oF rfl rfl (Bx rfl (dk rfl) hm.s0 b rfl ⟨u0, rfl⟩)) (fun _ => rfl) (fun _ => rfl) ?_
  refine gF [0,1,3,7,15,31,63,127,15,271,783,1807,4095,8191,16383] Q3 rfl (by kernel_rfl) (fun _ => by kernel_rfl) (fun a u hu => (tN (Qm hu ?_)))
  refine Qp rfl rfl ?_
  refine T.exit (Qj (Qj (Qs (tN ?_))))
  refine T.seq ?_
  refine T.seq (Qr ?_)
  refine mw rfl ?_
  refine sp rfl (Kk (i := 2) (xs := y) (f := (cI .i64)) rfl (dk rfl) Zx rfl rfl ?_)
  refine oI rfl ?_
  refine mw rfl ?_
  rcases Qd h with ⟨af, h⟩ | ⟨af, h⟩
  cases h
  refine sn rfl af (OpT.move rfl (dk rfl) rfl ?_)
  refine sn rfl af (OpT.nilCheck rfl (dk rfl) rfl rfl ?_)
  refine sn rfl af (Zs rfl (dk rfl) Cy rfl i30 (by decide) rfl ?_)
  refine sn rfl af (Zn (i := 0) rfl (dk rfl) ul30 rfl rfl rfl rfl ?_)
  refine sn rfl af (Zj rfl rfl (dk rfl) rfl rfl ?_)
  refine oZ af rfl ?_
  refine TL'.nil (tN ?_)
  rcases Qd h with ⟨aj, h⟩ | ⟨aj, h⟩
  cases h
  refine Qp rfl aj ?_
  refine T.skip (tN ?_)
  refine T.seq (Qr ?_)
  refine mw rfl ?_
  refine mw rfl ?_
  refine sp rfl (Zq (OpT.build (l := [.int .u8 (4:Int), .int .u64 (Z5.mk 0 0 0 0).a0, .int .u64 (Z5.mk 0 0 0 0).a1, .int .u64 (Z5.mk 0 0 0 0).a2, .int .u64 (Z5.mk 0 0 0 0).a3, .ex aa, .int .i64 (0:Int), .int .i64 (0:Int), .str (⟨#[]⟩ : ByteArray)]) rfl (dk rfl) (Zv (pl := [(0, 1), (1, 4), (5, 1), (6, 1), (7, 1), (8, 1)]) Mk i165 rfl) (M1 rfl) rfl rfl rfl) (Ye 49 (l := [.int .u8 (4:Int), .int .u64 (Z5.mk 0 0 0 0).a0, .int .u64 (Z5.mk 0 0 0 0).a1, .int .u64 (Z5.mk 0 0 0 0).a2, .int .u64 (Z5.mk 0 0 0 0).a3, .ex aa, .int .i64 (0:Int), .int .i64 (0:Int), .str (⟨#[]⟩ : ByteArray)]) (l' := [.int .u8 (4:Int), .int .u64 (Z5.mk 0 0 0 0).a0, .int .u64 (Z5.mk 0 0 0 0).a1, .int .u64 (Z5.mk 0 0 0 0).a2, .int .u64 (Z5.mk 0 0 0 0).a3, .sl false 1 (mI y), .int .i64 (0:Int), .int .i64 (0:Int), .str (⟨#[]⟩ : ByteArray)]) (.cons (.same _) (.cons (.same _) (.cons (.same _) (.cons (.same _) (.cons (.same _) (.cons (.view 2 rfl) (.cons (.same _) (.cons (.same _) (.cons (.same _) (.refl _))))))))))) ?_)
  obtain ⟨ay, au, h⟩ := bind_some h
  refine sp rfl (Q8 (is := [0, 1]) (ph := []) rfl (dk rfl) Tryz.func99 rfl rfl (Q5.cons rfl (Q5.cons rfl Q5.nil)) (Le K (bx0 := bx0) (wx0c2 := ((a 1).1 0)) au) (.cons rfl rfl (.cons rfl rfl (.nil))) (fun _ => rfl) (fun av => ?_))
  refine nm (.c (.c (.c (.n)))) ?_
  refine aw rfl ?_
  refine TL'.nil (tN ?_)
  refine T.ret ?_
  exact Q7 (.cons _ _ _ _ (.tmp 2 _ rfl) .nil) (.cons 0 rfl (.cons 0 rfl (.nil _))) (by cases h; exact ⟨gl [av 0], rfl, rfl⟩)
theorem Eb (K : Nat) {x0 : Qg} {bx0 : Nat} {wx0c2 : Value} {r : Int × Qg} (h : Jm K x0 = some r) : U7 tp 59 [.ptr bx0 0] [(Pn bx0 x0.s x0.at_ wx0c2 x0.deep x0.e x0.where_), .arrA wx0c2 165 9 (x0.nodes.map Qo)] (fun γ => (.int .i64 r.1)) (fun γ => [(Pn bx0 r.2.s r.2.at_ (γ 0) r.2.deep r.2.e r.2.where_), .arrA (γ 0) 165 9 (r.2.nodes.map Qo)]) := by
 refine Qt Tryz.func59 rfl (nb rfl) ?_
 show T tp 51 (ca [] Tryz.f59) ⟨Qw 0 [.ptr bx0 0], [(Pn bx0 x0.s x0.at_ wx0c2 x0.deep x0.e x0.where_), .arrA wx0c2 165 9 (x0.nodes.map Qo)]⟩ (Ut bx0 r)
 unfold Jm at h
 refine T.seq (Qr ?_)
 refine aw rfl ?_
 refine TL'.nil (tN (T.seq (Qr ?_)))
 refine mw rfl ?_
 obtain ⟨a, b, h⟩ := bind_some h
 refine sp rfl (Q8 (is := [0, 1]) (ph := []) rfl (dk rfl) Tryz.func98 rfl rfl (Q5.cons rfl Q5.nil) (Cw K (bx0 := bx0) (wx0c2 := wx0c2) b) (.cons rfl rfl (.cons rfl rfl (.nil))) (fun _ => rfl) (fun d => ?_))
 refine nm (.c (.c (.n))) ?_
 refine sp rfl (OpT.buildSlice (elems := ([a.1] : List Int).map (cI .i64)) rfl (dk rfl) Zx i3 (by decide) rfl (M1 rfl) rfl rfl rfl (Uf rfl) (by decide) ?_)
 refine aw rfl ?_
 refine TL'.nil (tN ?_)
 refine T.seq ?_
 refine T.block ?_
 refine T.loop ?_
 refine TL.by_turnG (TurnG.ownFull 3 3 rfl) (fun f => ?_)
 refine Qh ?_ (Cj K bx0 K a.2.s a.2.at_ a.2.deep a.2.e a.2.where_ a.2.nodes [a.1] (d 0) f h)
 exact tr rfl (.c (.s .z) (.c (.s .z) (.c .z (.n _))))
abbrev Qec (r : (List Q4) × Int × Int) : ES := J9 tp Tryz.f35 (fun y t => y = (.tup [.sl false 9 (r.1.map Qo), .int .i64 r.2.1, .int .i64 r.2.2]) ∧ t = [])
theorem Qed (K : Nat) {x0 : ByteArray} {r : (List Q4) × Int × Int} (h : Ex K x0 = some r) : Zm tp 35 [.str x0] [] (.tup [.sl false 9 (r.1.map Qo), .int .i64 r.2.1, .int .i64 r.2.2]) := by
 refine Qt Tryz.func35 rfl (nb rfl) ?_
 show T tp 46 (ca [] Tryz.f35) ⟨Qw 0 [.str x0], []⟩ (Qec r)
 unfold Ex at h
 refine T.seq (Qr ?_)
 refine aw rfl ?_
 refine aw rfl ?_
 refine aw rfl ?_
 refine TL'.nil (tN ?_)
 refine T.seq ?_
 refine T.seq (Qr ?_)
 refine mw rfl ?_
 refine sp rfl (Sp rfl (dk rfl) ul9 rfl ?_)
 refine oI rfl ?_
 refine TL'.nil (tN ?_)
 rcases Qd h with ⟨a, h⟩ | ⟨a, h⟩
 cases h
 refine Qp rfl a ?_
 refine T.skip (tN ?_)
 refine T.seq (Qr ?_)
 refine mw rfl ?_
 refine sp rfl (OpT.build (l := [.str x0, .int .i64 (0:Int), .ex (.slice none 0 0), .int .i64 (0:Int), .int .i64 (0:Int), .int .i64 (0:Int)]) rfl (dk rfl) (Zv (pl := [(0, 1), (1, 1), (2, 1), (3, 1), (4, 1), (5, 1)]) Cy i117 rfl) (M1 rfl) rfl rfl ?_)
 refine sp rfl (Zb rfl (dk rfl) rfl (fun b => ?_))
 refine aw rfl ?_
 refine TL'.nil (tN (T.seq (Qr ?_)))
 refine mw rfl ?_
 refine Hz (Xy 165 9) ?_
 obtain ⟨m, p, h⟩ := bind_some h
 refine sp rfl (Q8 (is := [1, 0]) (ph := []) rfl (dk rfl) Tryz.func59 rfl rfl (Q5.cons rfl Q5.nil) (Eb K (bx0 := b) (wx0c2 := (Qf1 5)) p) (.cons rfl rfl (.cons rfl rfl (.nil))) (fun _ => rfl) (fun q => ?_))
 refine nm (.c (.c (.n))) ?_
 refine TL'.nil (tN ?_)
 refine T.seq ?_
 refine T.seq (Qr ?_)
 refine mw rfl ?_
 obtain ⟨u, s, h⟩ := bind_some h
 refine sp rfl (Q8 (is := [1, 0]) (ph := []) rfl (dk rfl) Tryz.func60 rfl rfl (Q5.cons rfl Q5.nil) (Ji K (bx0 := b) (wx0c2 := (q 0)) s) (.cons rfl rfl (.cons rfl rfl (.nil))) (fun _ => rfl) (fun v => ?_))
 refine nm (.c (.c (.n))) ?_
 refine oT rfl ?_
 refine TL'.nil (tN ?_)
 rcases Qd h with ⟨d, h⟩ | ⟨d, h⟩
 cases h
 refine Qp rfl d ?_
 refine T.skip (tN ?_)
 refine T.seq ?_
 refine T.seq (Qr ?_)
 refine mw rfl ?_
 refine oK rfl ?_
 refine oP Cy i30 rfl ?_
 refine oL 1 ul30 rfl ?_
 refine oI rfl ?_
 refine TL'.nil (tN ?_)
 rcases Qd h with ⟨g, h⟩ | ⟨g, h⟩
 cases h
 refine Qp rfl g ?_
 refine T.skip (tN ?_)
 refine T.seq ?_
 refine T.seq (Qr ?_)
 refine mw rfl ?_
 refine oK rfl ?_
 refine oP Cy i80 rfl ?_
 refine sp rfl (Zq (Zn (i := 1) rfl (dk rfl) Tt rfl rfl rfl rfl rfl) (M2 39 0 rfl) ?_)
 refine oU m.2.nodes Qo Tt rfl ?_
 refine oI rfl ?_
 refine TL'.nil (tN ?_)
 rcases Qd h with ⟨j, h⟩ | ⟨j, h⟩
 cases h
 refine Qp rfl j ?_
 refine T.skip (tN ?_)
 refine T.seq (Qr ?_)
 refine mw rfl ?_
 refine oK rfl ?_
 refine oP Cy i80 rfl ?_
 refine oL 1 Tt rfl ?_
 refine aw rfl ?_
 refine aw rfl ?_
 refine aw rfl ?_
 refine TL'.nil (tN ?_)
 refine T.ret ?_
 refine X7 (Z6.view 2 0 rfl rfl) ?_
 exact Fin.done (.cons _ _ _ _ (.tmp 2 _ rfl) (.cons _ _ _ _ (.tmp 3 _ rfl) (.cons _ _ _ _ (.tmp 4 _ rfl) .nil))) (by cases h; exact ⟨rfl, rfl⟩)
abbrev Dn (r : (List Int) × Bool) : ES := J9 tp Tryz.f103 (fun y t => ∃ γ : Nat → Value, y = (.tup [.c (.ex (γ 0)), .bool r.2]) ∧ t = [.arrA (γ 0) 3 1 (mI r.1)])
abbrev Qa6 (r : (List Int) × Bool) : ES := thenS (fun s' => T tp 59 (ca [1,1,1] Tryz.f103) s' ((Dn r))) ((Dn r))
abbrev Sd (r : (List Int) × Bool) : ES := Qz 0 ((Qa6 r))
theorem Qb7 {r : (List Int) × Bool} (K : Nat) (rec_raddleref04_walk : (List Q4) → Int → (List Int) → Option ((List Int) × Bool)) (hrec_raddleref04_walk : Dp rec_raddleref04_walk) : ∀ (k : Nat), ∀ (x0 : List Q4) (x1 b : Int) (a : List Int) (flx0 : Bool) (d : Value), Lz K rec_raddleref04_walk k x0 x1 b a = some r → TL tp 59 (ca [1,1,0,1,0,0] Tryz.f103) ⟨[(0, .sl flx0 9 (x0.map Qo)), (1, .int .i64 x1), (2, .c (.ex d)), (8, .int .i64 b)], [.arrA d 3 1 (mI a)]⟩ (Sd r) := by
 intro k
 induction k with
 | zero =>
  intro x0 x1 b a flx0 d h
  exact zn h
 | succ k ih =>
  intro x0 x1 b a flx0 d h
  rw [Lz] at h
  refine Q6 ?_
  refine T.seq ?_
  refine T.seq (Qr ?_)
  iterate 3 refine mw rfl ?_
  obtain ⟨j, m, h⟩ := bind_some h
  refine oX x0 Qo Tt i165 m rfl ?_
  refine sp rfl (Ur rfl (dk rfl) Mk rfl i38 (by decide) rfl ?_)
  refine oR Zx rfl ?_
  refine oU j.L (cI .i64) Zx rfl ?_
  refine oI rfl ?_
  refine TL'.nil (tN ?_)
  rcases Qd h with ⟨l, h⟩ | ⟨l, h⟩
  refine Qq rfl l ?_
  refine T.skip (tN ?_)
  refine T.seq ?_
  refine T.block ?_
  refine T.seq (Qr ?_)
  refine mw rfl ?_
  refine mw rfl ?_
  refine oX x0 Qo Tt i165 m rfl ?_
  refine sp rfl (Ur rfl (dk rfl) Mk rfl i38 (by decide) rfl ?_)
  refine oR Zx rfl ?_
  refine mw rfl ?_
  obtain ⟨p, u, h⟩ := bind_some h
  refine oX j.L (cI .i64) Zx i3 u rfl ?_
  refine oR ul3 rfl ?_
  refine aw rfl ?_
  refine TL'.nil (tN ?_)
  refine T.seq ?_
  refine T.seq (Qr ?_)
  refine mw rfl ?_
  refine oI rfl ?_
  refine mw rfl ?_
  rcases Qd h with ⟨g, h⟩ | ⟨g, h⟩
  cases h
  refine sn rfl g (OpT.move rfl (dk rfl) rfl ?_)
  refine sn rfl g (OpT.move rfl (dk rfl) rfl ?_)
  refine sn rfl g (Zj rfl rfl (dk rfl) rfl rfl ?_)
  refine oZ g rfl ?_
  refine TL'.nil (tN ?_)
  rcases Qd h with ⟨q, h⟩ | ⟨q, h⟩
  cases h
  refine Qp rfl q ?_
  refine T.skip (tN ?_)
  refine T.seq (Qr ?_)
  iterate 3 refine mw rfl ?_
  obtain ⟨w, y, h⟩ := bind_some h
  refine sp rfl (Q8 (is := [0]) (ph := []) rfl (dk rfl) Tryz.func103 rfl rfl (Q5.cons rfl (Q5.cons rfl (Q5.cons rfl Q5.nil))) (hrec_raddleref04_walk x0 p a flx0 d _ y) (.cons rfl rfl (.nil)) (fun _ => rfl) (fun aa => ?_))
  refine nm (.c (.n)) ?_
  refine mw rfl ?_
  refine oE rfl ?_
  refine oE rfl ?_
  refine aw rfl ?_
  refine aw rfl ?_
  refine TL'.nil (tN ?_)
  refine T.seq ?_
  refine T.seq (Qr ?_)
  refine mw rfl ?_
  refine oT rfl ?_
  refine TL'.nil (tN ?_)
  rcases Qd h with ⟨s, h⟩ | ⟨s, h⟩
  cases h
  refine Qp rfl s ?_
  refine T.skip (tN ?_)
  refine Qr ?_
  refine mw rfl ?_
  refine aw rfl ?_
  refine TL'.nil (Qn (tN ?_))
  refine Qr ?_
  refine mw rfl ?_
  refine oI rfl ?_
  refine aw rfl ?_
  refine TL'.nil (tN ?_)
  refine Qh ?_ (ih x0 x1 (wI (b + (1:Int))) w.1 flx0 (aa 0) h)
  exact tq rfl rfl
  refine Qp rfl l ?_
  refine T.exit (Qj (Qj (Qs (tN ?_))))
  refine T.seq (Qr ?_)
  refine mw rfl ?_
  refine mw rfl ?_
  refine sp rfl (OpT.buildSlice (elems := ([x1] : List Int).map (cI .i64)) rfl (dk rfl) Zx i3 (by decide) rfl (M1 rfl) rfl rfl rfl (Uf rfl) (by decide) ?_)
  obtain ⟨ab, h⟩ := Zf h
  refine sp rfl (Zy (i := 0) (xs := a) (ys := [x1]) (f := (cI .i64)) rfl (dk rfl) Zx i3 rfl rfl rfl rfl ab (fun ac => ?_))
  refine aw rfl ?_
  refine aw rfl ?_
  refine TL'.nil (tN ?_)
  refine T.ret ?_
  exact Q7 (.cons _ _ _ _ (.tmp 6 _ rfl) (.cons _ _ _ _ (.tmp 7 _ rfl) .nil)) (.cons 0 rfl (.nil _)) (by cases h; exact ⟨gl [ac], rfl, rfl⟩)
theorem Qc4 (K : Nat) (rec_raddleref04_walk : (List Q4) → Int → (List Int) → Option ((List Int) × Bool)) (hrec_raddleref04_walk : Dp rec_raddleref04_walk) {x0 : List Q4} {x1 : Int} {x2 : List Int} {flx0 : Bool} {wx2 : Value} {r : (List Int) × Bool} (h : Do K rec_raddleref04_walk x0 x1 x2 = some r) : U7 tp 103 [.sl flx0 9 (x0.map Qo), .int .i64 x1, .c (.ex wx2)] [.arrA wx2 3 1 (mI x2)] (fun γ => (.tup [.c (.ex (γ 0)), .bool r.2])) (fun γ => [.arrA (γ 0) 3 1 (mI r.1)]) := by
 refine Qt Tryz.func103 rfl (nb rfl) ?_
 show T tp 59 (ca [] Tryz.f103) ⟨Qw 0 [.sl flx0 9 (x0.map Qo), .int .i64 x1, .c (.ex wx2)], [.arrA wx2 3 1 (mI x2)]⟩ (Dn r)
 unfold Do at h
 refine T.seq (Qr ?_)
 refine aw rfl ?_
 refine aw rfl ?_
 refine TL'.nil (tN ?_)
 refine T.seq ?_
 refine T.seq (Qr ?_)
 refine mw rfl ?_
 refine sp rfl (Kk (i := 0) (xs := x2) (f := (cI .i64)) rfl (dk rfl) Zx rfl rfl ?_)
 refine mw rfl ?_
 refine oU x0 Qo Tt rfl ?_
 refine oI rfl ?_
 refine TL'.nil (tN ?_)
 rcases Qd h with ⟨a, h⟩ | ⟨a, h⟩
 cases h
 refine Qp rfl a ?_
 refine T.skip (tN ?_)
 refine T.seq ?_
 refine T.seq (Qr ?_)
 refine aw rfl ?_
 refine TL'.nil (tN ?_)
 refine T.block ?_
 refine T.loop ?_
 refine Qh ?_ (Qb7 K rec_raddleref04_walk hrec_raddleref04_walk K x0 x1 (0:Int) x2 flx0 wx2 h)
 exact tq rfl rfl
theorem Qc3 (K : Nat) : ∀ n, Dp (K0 K n) := by
 intro n
 induction n with
 | zero =>
  intro x0 x1 x2 flx0 wx2 r h
  exact zn h
 | succ n ih =>
  intro x0 x1 x2 flx0 wx2 r h
  exact Qc4 K (K0 K n) ih h
theorem Qff (K : Nat) {x0 : List Q4} {x1 : Int} {x2 : List Int} {flx0 : Bool} {wx2 : Value} {r : (List Int) × Bool} (h : T1 K x0 x1 x2 = some r) : U7 tp 103 [.sl flx0 9 (x0.map Qo), .int .i64 x1, .c (.ex wx2)] [.arrA wx2 3 1 (mI x2)] (fun γ => (.tup [.c (.ex (γ 0)), .bool r.2])) (fun γ => [.arrA (γ 0) 3 1 (mI r.1)]) := Qc3 K K x0 x1 x2 flx0 wx2 r h
abbrev Ci (r : Bool) : ES := J9 tp Tryz.f102 (fun y t => y = (.bool r) ∧ t = [])
abbrev Re (r : Bool) : ES := thenS (fun s' => T tp 144 (ca [1,1,1,1,1] Tryz.f102) s' ((Ci r))) ((Ci r))
abbrev Og (r : Bool) : ES := Qz 0 ((Re r))
theorem Ej {r : Bool} (K : Nat) (g j l : Bool) (x0 : Q4) (m : Bool) (n : Nat) (h : Gq K g j l x0 m = some r) : T tp 144 (ca [1,1,1,1,0,1,0,1,1,1,1,1] Tryz.f102) ⟨[(1, .ptr n 0), (3, .bool g), (4, .bool j), (5, .bool l), (23, .int .u8 x0.Op), (59, .bool m)], [(Qgm n x0.Op x0.S.a0 x0.S.a1 x0.S.a2 x0.S.a3 x0.L x0.Lo x0.Hi x0.Name)]⟩ (Og r) := by
 unfold Gq at h
 rcases Qd h with ⟨p, h⟩ | ⟨p, h⟩
 refine Qq rfl p ?_
 refine T.seq (Qr ?_)
 refine mw rfl ?_
 refine oT rfl ?_
 refine mw rfl ?_
 rcases Qd h with ⟨b, h⟩ | ⟨b, h⟩
 refine sn rfl b (OpT.move rfl (dk rfl) rfl ?_)
 refine sn rfl b (OpT.not rfl (dk rfl) rfl ?_)
 refine oY b rfl ?_
 refine mw rfl ?_
 rcases Qd h with ⟨c, h⟩ | ⟨c, h⟩
 refine sn rfl c (OpT.move rfl (dk rfl) rfl ?_)
 refine sn rfl c (OpT.not rfl (dk rfl) rfl ?_)
 refine oY c rfl ?_
 refine mw rfl ?_
 rcases Qd h with ⟨a, h⟩ | ⟨a, h⟩
 refine sn rfl a (Zs rfl (dk rfl) Mk rfl i38 (by decide) rfl ?_)
 refine sn rfl a (Zn (i := 0) rfl (dk rfl) Zx rfl rfl rfl rfl ?_)
 refine sn rfl a (Zw (xs := x0.L) (f := (cI .i64)) rfl (dk rfl) Zx rfl ?_)
 refine sn rfl a (Zj rfl rfl (dk rfl) rfl rfl ?_)
 refine oY a rfl ?_
 refine aw rfl ?_
 refine TL'.nil (tN ?_)
 refine T.ret (Q2 (Qv ?_))
 exact fd rfl (by cases h; exact ⟨rfl, rfl⟩)
 cases h
 cases h
 cases h
 cases h
theorem Qd9 (K : Nat) {x0 : Q4} {r : Bool} (h : Eu K x0 = some r) : Zm tp 102 [.agg [.int .u8 x0.Op, .int .u64 x0.S.a0, .int .u64 x0.S.a1, .int .u64 x0.S.a2, .int .u64 x0.S.a3, .sl false 1 (mI x0.L), .int .i64 x0.Lo, .int .i64 x0.Hi, .str x0.Name]] [] (.bool r) := by
 refine Qt Tryz.func102 rfl (nb rfl) ?_
 show T tp 144 (ca [] Tryz.f102) ⟨Qw 0 [.agg [.int .u8 x0.Op, .int .u64 x0.S.a0, .int .u64 x0.S.a1, .int .u64 x0.S.a2, .int .u64 x0.S.a3, .sl false 1 (mI x0.L), .int .i64 x0.Lo, .int .i64 x0.Hi, .str x0.Name]], []⟩ (Ci r)
 unfold Eu at h
 refine T.seq (Qr ?_)
 refine sp rfl (Zb rfl (dk rfl) rfl (fun p => ?_))
 refine aw rfl ?_
 refine TL'.nil (tN (T.seq (Qr ?_)))
 refine oP Mk i63 rfl ?_
 refine oA 0 (Z5.dc .u64 x0.S) Qhp i63 rfl ?_
 refine sp rfl (OpT.build (l := (Z5.dc .u64 (Z5.mk 0 0 0 0))) rfl (dk rfl) (Qh4 Qhp i63 i61) (M1 rfl) rfl rfl ?_)
 refine sp rfl (Qig (k := .u64) (xs := [x0.S.a0, x0.S.a1, x0.S.a2, x0.S.a3]) (ys := [(Z5.mk 0 0 0 0).a0, (Z5.mk 0 0 0 0).a1, (Z5.mk 0 0 0 0).a2, (Z5.mk 0 0 0 0).a3]) rfl (dk rfl) Qhp ul61 i61 Tryz.eqGuardType63 rfl rfl rfl rfl rfl rfl (Qgz x0.S (Z5.mk 0 0 0 0)) ?_)
 refine aw rfl ?_
 refine TL'.nil (tN (T.seq (Qr ?_)))
 refine oP Mk i3 rfl ?_
 refine oL 0 ul3 rfl ?_
 refine oI rfl ?_
 refine mw rfl ?_
 rcases Qd h with ⟨b, h⟩ | ⟨b, h⟩
 cases h
 refine sn rfl b (Zs rfl (dk rfl) Mk rfl i3 (by decide) rfl ?_)
 refine sn rfl b (Zn (i := 0) rfl (dk rfl) ul3 rfl rfl rfl rfl ?_)
 refine sn rfl b (Zj rfl rfl (dk rfl) rfl rfl ?_)
 refine oZ b rfl ?_
 refine aw rfl ?_
 refine TL'.nil (tN (T.seq (Qr ?_)))
 refine oP Mk i9 rfl ?_
 refine oL 0 ul9 rfl ?_
 refine sp rfl (OpT.str_neq rfl (dk rfl) rfl rfl ?_)
 refine aw rfl ?_
 refine TL'.nil (tN ?_)
 refine T.seq ?_
 refine T.seq (Qr ?_)
 refine oP Mk i5 rfl ?_
 refine oL 0 ul5 rfl ?_
 refine TL'.nil (tN ?_)
 refine T.block ?_
 refine T.seq (Qr ?_)
 refine oI rfl ?_
 refine aw rfl ?_
 refine TL'.nil (tN ?_)
 rcases Qd h with ⟨q, h⟩ | ⟨q, h⟩
 cases h
 refine Qp rfl q ?_
 refine T.seq (Qr ?_)
 refine oI rfl ?_
 refine aw rfl ?_
 refine TL'.nil (tN ?_)
 rcases Qd h with ⟨j, h⟩ | ⟨j, h⟩
 refine Qq rfl j ?_
 refine T.seq (Qr ?_)
 refine mw rfl ?_
 refine mw rfl ?_
 rcases Qd h with ⟨d, h⟩ | ⟨d, h⟩
 refine sn rfl d (OpT.move rfl (dk rfl) rfl ?_)
 refine sn rfl d (OpT.not rfl (dk rfl) rfl ?_)
 refine oY d rfl ?_
 refine mw rfl ?_
 rcases Qd h with ⟨g, h⟩ | ⟨g, h⟩
 refine sn rfl g (OpT.move rfl (dk rfl) rfl ?_)
 refine sn rfl g (OpT.not rfl (dk rfl) rfl ?_)
 refine oY g rfl ?_
 refine mw rfl ?_
 rcases Qd h with ⟨a, h⟩ | ⟨a, h⟩
 refine sn rfl a (Zs rfl (dk rfl) Mk rfl i38 (by decide) rfl ?_)
 refine sn rfl a (Zn (i := 0) rfl (dk rfl) Zx rfl rfl rfl rfl ?_)
 refine sn rfl a (Zw (xs := x0.L) (f := (cI .i64)) rfl (dk rfl) Zx rfl ?_)
 refine sn rfl a (Zj rfl rfl (dk rfl) rfl rfl ?_)
 refine oY a rfl ?_
 refine aw rfl ?_
 refine TL'.nil (tN ?_)
 refine T.ret (Q2 (Qv ?_))
 exact fd rfl (by cases h; exact ⟨rfl, rfl⟩)
 cases h
 cases h
 cases h
 refine Qp rfl j ?_
 refine T.seq ?_
 refine T.seq (Qr ?_)
 refine oI rfl ?_
 refine aw rfl ?_
 refine TL'.nil (tN ?_)
 rcases Qd h with ⟨m, h⟩ | ⟨m, h⟩
 refine Qq rfl m ?_
 refine T.skip (tN ?_)
 refine Qm ?_ (Ej K (!(Z5.same x0.S (Z5.mk 0 0 0 0))) (x0.Hi != (0:Int)) (!(x0.Name.toList == (⟨#[]⟩ : ByteArray).toList)) x0 (x0.Op == (3:Int)) p h)
 exact tq rfl rfl
 refine Qp rfl m ?_
 refine Qr ?_
 refine oI rfl ?_
 refine aw rfl ?_
 refine TL'.nil (tN ?_)
 refine Qm ?_ (Ej K (!(Z5.same x0.S (Z5.mk 0 0 0 0))) (x0.Hi != (0:Int)) (!(x0.Name.toList == (⟨#[]⟩ : ByteArray).toList)) x0 (x0.Op == (4:Int)) p h)
 exact tq rfl rfl
abbrev Ww (r : Bool) : ES := J9 tp Tryz.f64 (fun y t => y = (.bool r) ∧ t = [])
abbrev Ph (r : Bool) : ES := thenS (fun s' => T tp 56 (ca [1,1,1,1,1,1] Tryz.f64) s' ((Ww r))) ((Ww r))
abbrev Ni (r : Bool) : ES := Qz 2 ((Ph r))
abbrev Td (r : Bool) : ES := thenS (fun s' => T tp 56 (ca [1,1,1] Tryz.f64) s' ((Ww r))) ((Ww r))
abbrev Rk (r : Bool) : ES := Qz 0 ((Td r))
theorem Qa7 {r : Bool} (K : Nat) : ∀ (k : Nat), ∀ (b : Int) (a : List Int) (d : Value), Gr K k b a = some r → TL tp 56 (ca [1,1,1,1,1,0,1,0,0] Tryz.f64) ⟨[(4, .c (.ex d)), (6, .int .i64 b)], [.arrA d 3 1 (mI a)]⟩ (Ni r) := by
 intro k
 induction k with
 | zero =>
  intro b a d h
  exact zn h
 | succ k ih =>
  intro b a d h
  rw [Gr] at h
  refine Q6 ?_
  refine T.seq ?_
  refine T.seq (Qr ?_)
  refine mw rfl ?_
  refine mw rfl ?_
  refine sp rfl (Kk (i := 0) (xs := a) (f := (cI .i64)) rfl (dk rfl) Zx rfl rfl ?_)
  refine oI rfl ?_
  refine TL'.nil (tN ?_)
  rcases Qd h with ⟨g, h⟩ | ⟨g, h⟩
  refine Qq rfl g ?_
  refine T.skip (tN ?_)
  refine T.seq ?_
  refine T.block ?_
  refine T.seq (Qr ?_)
  refine mw rfl ?_
  refine mw rfl ?_
  refine Hz (Z6.view 50 0 rfl rfl) ?_
  obtain ⟨l, m, h⟩ := bind_some h
  refine oX a (cI .i64) Zx i3 m rfl ?_
  refine oR ul3 rfl ?_
  refine mw rfl ?_
  refine oI rfl ?_
  refine TL'.nil (tN ?_)
  rcases Qd h with ⟨j, h⟩ | ⟨j, h⟩
  cases h
  refine Qp rfl j ?_
  refine T.skip (Qn (tN ?_))
  refine Qr ?_
  refine mw rfl ?_
  refine oI rfl ?_
  refine aw rfl ?_
  refine TL'.nil (tN ?_)
  refine Qh ?_ (ih (wI (b + (1:Int))) a d h)
  exact tq rfl rfl
  refine Qp rfl g ?_
  refine T.exit (Qj (Qj (Qs (tN ?_))))
  refine T.seq (Qr ?_)
  refine aw rfl ?_
  refine TL'.nil (tN ?_)
  refine T.ret ?_
  exact fd rfl (by cases h; exact ⟨rfl, rfl⟩)
theorem Qa8 {r : Bool} (K : Nat) : ∀ (k : Nat), ∀ (x0 : List Q4) (b : Int) (flx0 : Bool), Gs K k x0 b = some r → TL tp 56 (ca [1,1,0,1,0,0] Tryz.f64) ⟨[(0, .sl flx0 9 (x0.map Qo)), (3, .int .i64 b)], []⟩ (Rk r) := by
 intro k
 induction k with
 | zero =>
  intro x0 b flx0 h
  exact zn h
 | succ k ih =>
  intro x0 b flx0 h
  rw [Gs] at h
  refine Q6 ?_
  refine T.seq ?_
  refine T.seq (Qr ?_)
  refine mw rfl ?_
  refine mw rfl ?_
  refine oU x0 Qo Tt rfl ?_
  refine oI rfl ?_
  refine TL'.nil (tN ?_)
  rcases Qd h with ⟨d, h⟩ | ⟨d, h⟩
  refine Qq rfl d ?_
  refine T.skip (tN ?_)
  refine T.seq ?_
  refine T.block ?_
  refine T.seq (Qr ?_)
  refine mw rfl ?_
  refine mw rfl ?_
  obtain ⟨m, p, h⟩ := bind_some h
  refine oX x0 Qo Tt i165 p rfl ?_
  refine sp rfl (Za rfl (dk rfl) Mk rfl i165 rfl (nb rfl) ?_)
  obtain ⟨w, q, h⟩ := bind_some h
  refine sp rfl (Q0 rfl (dk rfl) Tryz.func102 rfl rfl (Q5.cons rfl Q5.nil) (Zm.nil (Qd9 K q)) ?_)
  refine oT rfl ?_
  refine TL'.nil (tN ?_)
  rcases Qd h with ⟨g, h⟩ | ⟨g, h⟩
  cases h
  refine Qp rfl g ?_
  refine T.skip (Qn (tN ?_))
  refine Qr ?_
  refine mw rfl ?_
  refine oI rfl ?_
  refine aw rfl ?_
  refine TL'.nil (tN ?_)
  refine Qh ?_ (ih x0 (wI (b + (1:Int))) flx0 h)
  exact tq rfl rfl
  refine Qp rfl d ?_
  refine T.exit (Qj (Qj (Qs (tN ?_))))
  refine T.seq (Qr ?_)
  refine mw rfl ?_
  refine mw rfl ?_
  refine oU x0 Qo Tt rfl ?_
  refine oI rfl ?_
  refine Hz (Xy 3 1) ?_
  obtain ⟨j, s, h⟩ := bind_some h
  refine sp rfl (Q8 (is := [0]) (ph := []) rfl (dk rfl) Tryz.func103 rfl rfl (Q5.cons rfl (Q5.cons rfl (Q5.cons rfl Q5.nil))) (Qff K (flx0 := flx0) (wx2 := (Qf1 10)) s) (.cons rfl rfl (.nil)) (fun _ => rfl) (fun u => ?_))
  refine nm (.c (.n)) ?_
  refine mw rfl ?_
  refine oE rfl ?_
  refine oE rfl ?_
  refine aw rfl ?_
  refine aw rfl ?_
  refine TL'.nil (tN ?_)
  refine T.seq ?_
  refine T.seq (Qr ?_)
  refine mw rfl ?_
  refine oT rfl ?_
  refine mw rfl ?_
  rcases Qd h with ⟨a, h⟩ | ⟨a, h⟩
  cases h
  refine sn rfl a (OpT.move rfl (dk rfl) rfl ?_)
  refine sn rfl a (Kk (i := 0) (xs := j.1) (f := (cI .i64)) rfl (dk rfl) Zx rfl rfl ?_)
  refine sn rfl a (OpT.move rfl (dk rfl) rfl ?_)
  refine sn rfl a (Zw (xs := x0) (f := Qo) rfl (dk rfl) Tt rfl ?_)
  refine sn rfl a (Zj rfl rfl (dk rfl) rfl rfl ?_)
  refine oZ a rfl ?_
  refine TL'.nil (tN ?_)
  rcases Qd h with ⟨l, h⟩ | ⟨l, h⟩
  cases h
  refine Qp rfl l ?_
  refine T.skip (tN ?_)
  refine T.seq ?_
  refine T.seq (Qr ?_)
  refine aw rfl ?_
  refine TL'.nil (tN ?_)
  refine T.block ?_
  refine T.loop ?_
  refine Qh ?_ (Qa7 K K (0:Int) j.1 (u 0) h)
  exact tq rfl rfl
theorem Oi (K : Nat) {x0 : List Q4} {flx0 r : Bool} (h : My K x0 = some r) : Zm tp 64 [.sl flx0 9 (x0.map Qo)] [] (.bool r) := by
 refine Qt Tryz.func64 rfl (nb rfl) ?_
 show T tp 56 (ca [] Tryz.f64) ⟨Qw 0 [.sl flx0 9 (x0.map Qo)], []⟩ (Ww r)
 unfold My at h
 refine T.seq (Qr ?_)
 refine aw rfl ?_
 refine TL'.nil (tN ?_)
 refine T.seq ?_
 refine T.seq (Qr ?_)
 refine mw rfl ?_
 refine oU x0 Qo Tt rfl ?_
 refine oI rfl ?_
 refine mw rfl ?_
 rcases Qd h with ⟨a, h⟩ | ⟨a, h⟩
 cases h
 refine sn rfl a (OpT.move rfl (dk rfl) rfl ?_)
 refine sn rfl a (Zw (xs := x0) (f := Qo) rfl (dk rfl) Tt rfl ?_)
 refine sn rfl a (Zj rfl rfl (dk rfl) rfl rfl ?_)
 refine oZ a rfl ?_
 refine TL'.nil (tN ?_)
 rcases Qd h with ⟨b, h⟩ | ⟨b, h⟩
 cases h
 refine Qp rfl b ?_
 refine T.skip (tN ?_)
 refine T.seq ?_
 refine T.seq (Qr ?_)
 refine aw rfl ?_
 refine TL'.nil (tN ?_)
 refine T.block ?_
 refine T.loop ?_
 refine Qh ?_ (Qa8 K K x0 (0:Int) flx0 h)
 exact tq rfl rfl
abbrev Cg (r : Bool) : ES := J9 tp Tryz.f62 (fun y t => y = (.bool r) ∧ t = [])
abbrev Qa4 (r : Bool) : ES := thenS (fun s' => T tp 18 (ca [1,1] Tryz.f62) s' ((Cg r))) ((Cg r))
abbrev Sc (r : Bool) : ES := Qz 0 ((Qa4 r))
theorem Qa5 {r : Bool} (K : Nat) : ∀ (k : Nat), ∀ (x0 : List Q4) (a : Int) (flx0 : Bool), Gp K k x0 a = some r → TL tp 18 (ca [1,0,1,0,0] Tryz.f62) ⟨[(0, .sl flx0 9 (x0.map Qo)), (3, .int .i64 a)], []⟩ (Sc r) := by
 intro k
 induction k with
 | zero =>
  intro x0 a flx0 h
  exact zn h
 | succ k ih =>
  intro x0 a flx0 h
  rw [Gp] at h
  refine Q6 ?_
  refine T.seq ?_
  refine T.seq (Qr ?_)
  refine mw rfl ?_
  refine mw rfl ?_
  refine oU x0 Qo Tt rfl ?_
  refine oI rfl ?_
  refine TL'.nil (tN ?_)
  rcases Qd h with ⟨b, h⟩ | ⟨b, h⟩
  refine Qq rfl b ?_
  refine T.skip (tN ?_)
  refine T.seq ?_
  refine T.block ?_
  refine T.seq (Qr ?_)
  refine mw rfl ?_
  refine mw rfl ?_
  obtain ⟨d, g, h⟩ := bind_some h
  refine oX x0 Qo Tt i165 g rfl ?_
  refine sp rfl (Ur rfl (dk rfl) Mk rfl i5 (by decide) rfl ?_)
  refine oR ul5 rfl ?_
  refine oI rfl ?_
  refine TL'.nil (tN ?_)
  rcases Qd h with ⟨c, h⟩ | ⟨c, h⟩
  refine Qq rfl c ?_
  refine T.seq (Qr ?_)
  refine aw rfl ?_
  refine TL'.nil (tN ?_)
  refine T.ret (Q2 (Qv (Qv (Q2 (Qv ?_)))))
  exact fd rfl (by cases h; exact ⟨rfl, rfl⟩)
  refine Qp rfl c ?_
  refine T.skip (Qn (tN ?_))
  refine Qr ?_
  refine mw rfl ?_
  refine oI rfl ?_
  refine aw rfl ?_
  refine TL'.nil (tN ?_)
  refine Qh ?_ (ih x0 (wI (a + (1:Int))) flx0 h)
  exact tq rfl rfl
  refine Qp rfl b ?_
  refine T.exit (Qj (Qj (Qs (tN ?_))))
  refine T.seq (Qr ?_)
  refine mw rfl ?_
  obtain ⟨j, i, h⟩ := bind_some h
  refine sp rfl (Q0 rfl (dk rfl) Tryz.func64 rfl rfl (Q5.cons rfl Q5.nil) (Zm.nil (Oi K (flx0 := flx0) i)) ?_)
  refine aw rfl ?_
  refine TL'.nil (tN ?_)
  refine T.ret ?_
  exact fd rfl (by cases h; exact ⟨rfl, rfl⟩)
theorem Oe (K : Nat) {x0 : List Q4} {flx0 r : Bool} (h : Mv K x0 = some r) : Zm tp 62 [.sl flx0 9 (x0.map Qo)] [] (.bool r) := by
 refine Qt Tryz.func62 rfl (nb rfl) ?_
 show T tp 18 (ca [] Tryz.f62) ⟨Qw 0 [.sl flx0 9 (x0.map Qo)], []⟩ (Cg r)
 unfold Mv at h
 refine T.seq (Qr ?_)
 refine aw rfl ?_
 refine TL'.nil (tN ?_)
 refine T.seq ?_
 refine T.seq (Qr ?_)
 refine aw rfl ?_
 refine TL'.nil (tN ?_)
 refine T.block ?_
 refine T.loop ?_
 refine Qh ?_ (Qa5 K K x0 (0:Int) flx0 h)
 exact tq rfl rfl
abbrev Ra (bx0 : Nat) (r : Int × Qx) : ES := J9 tp Tryz.f101 (fun y t => ∃ γ : Nat → Value, y = (.int .i64 r.1) ∧ t = [(Iz bx0 r.2.l r.2.most (γ 0) r.2.long), .arrA (γ 0) 165 9 (r.2.out.map Qo)])
theorem Rb (K : Nat) {x0 : Qx} {x1 : Q4} {bx0 : Nat} {wx0c2 : Value} {r : Int × Qx} (h : Ly K x0 x1 = some r) : U7 tp 101 [.ptr bx0 0, .agg [.int .u8 x1.Op, .int .u64 x1.S.a0, .int .u64 x1.S.a1, .int .u64 x1.S.a2, .int .u64 x1.S.a3, .sl false 1 (mI x1.L), .int .i64 x1.Lo, .int .i64 x1.Hi, .str x1.Name]] [(Iz bx0 x0.l x0.most wx0c2 x0.long), .arrA wx0c2 165 9 (x0.out.map Qo)] (fun γ => (.int .i64 r.1)) (fun γ => [(Iz bx0 r.2.l r.2.most (γ 0) r.2.long), .arrA (γ 0) 165 9 (r.2.out.map Qo)]) := by
 refine Qt Tryz.func101 rfl (nb rfl) ?_
 show T tp 30 (ca [] Tryz.f101) ⟨Qw 0 [.ptr bx0 0, .agg [.int .u8 x1.Op, .int .u64 x1.S.a0, .int .u64 x1.S.a1, .int .u64 x1.S.a2, .int .u64 x1.S.a3, .sl false 1 (mI x1.L), .int .i64 x1.Lo, .int .i64 x1.Hi, .str x1.Name]], [(Iz bx0 x0.l x0.most wx0c2 x0.long), .arrA wx0c2 165 9 (x0.out.map Qo)]⟩ (Ra bx0 r)
 unfold Ly at h
 refine T.seq (Qr ?_)
 refine sp rfl (Zb rfl (dk rfl) rfl (fun b => ?_))
 refine aw rfl ?_
 refine TL'.nil (tN ?_)
 refine T.seq ?_
 refine T.seq (Qr ?_)
 refine mw rfl ?_
 refine oK rfl ?_
 refine oP ul123 i80 rfl ?_
 refine sp rfl (Zq (Zn (i := 1) rfl (dk rfl) Tt rfl rfl rfl rfl rfl) (M2 8 2 rfl) ?_)
 refine oU x0.out Qo Tt rfl ?_
 refine oI rfl ?_
 refine TL'.nil (tN ?_)
 rcases Qd h with ⟨g, h⟩ | ⟨g, h⟩
 cases h
 refine Qp rfl g ?_
 refine T.skip (tN ?_)
 refine T.seq ?_
 refine Qm Y4 ?_
 refine H1 ?_
 refine dC (c := ⟨some 14, .ptr bx0 0, [(0, .ptr bx0 0)], [], []⟩) (fun t hm => oF rfl rfl (OpT.move rfl (dk rfl) hm.s0 ⟨u0, rfl⟩)) (fun _ => rfl) (fun _ => rfl) ?_
 refine dC (c := ⟨some 15, .ptr bx0 0, [(0, .ptr bx0 0)], [], []⟩) (fun t hm => oF rfl rfl (OpT.move rfl (dk rfl) hm.s0 ⟨u0, rfl⟩)) (fun _ => rfl) (fun _ => rfl) ?_
 refine dC (c := ⟨some 16, .ptr bx0 0, [(15, .ptr bx0 0)], [], []⟩) (fun t hm => oF rfl rfl (OpT.nilCheck rfl (dk rfl) hm.s0 rfl ⟨u0, rfl⟩)) (fun _ => rfl) (fun _ => rfl) ?_
 refine dC (c := ⟨some 17, .ptr bx0 (0 + 2), [(16, .ptr bx0 0)], [], []⟩) (fun t hm => oF rfl rfl (Zs rfl (dk rfl) ul123 rfl i80 (by decide) hm.s0 ⟨u0, rfl⟩)) (fun _ => rfl) (fun _ => rfl) ?_
 refine dC (c := ⟨some 18, .c (.ex wx0c2), [(17, .ptr bx0 (0 + 2))], [(2, (Iz bx0 x0.l x0.most wx0c2 x0.long))], []⟩) (fun t hm => oF rfl rfl (Zn (i := 2) rfl (dk rfl) Tt rfl hm.s0 hm.o0 rfl ⟨u0, rfl⟩)) (fun _ => rfl) (fun _ => rfl) ?_
 refine dC (c := ⟨some 19, .agg [.int .u8 x1.Op, .int .u64 x1.S.a0, .int .u64 x1.S.a1, .int .u64 x1.S.a2, .int .u64 x1.S.a3, .sl false 1 (mI x1.L), .int .i64 x1.Lo, .int .i64 x1.Hi, .str x1.Name], [(3, .ptr b 0)], [(1, (Qgm b x1.Op x1.S.a0 x1.S.a1 x1.S.a2 x1.S.a3 x1.L x1.Lo x1.Hi x1.Name))], []⟩) (fun t hm => oF rfl rfl (Uh (i := 1) (l := [.int .u8 x1.Op, .int .u64 x1.S.a0, .int .u64 x1.S.a1, .int .u64 x1.S.a2, .int .u64 x1.S.a3, .sl false 1 (mI x1.L), .int .i64 x1.Lo, .int .i64 x1.Hi, .str x1.Name]) rfl (dk rfl) Mk rfl i165 hm.s0 hm.o0 rfl rfl ⟨u0, rfl⟩)) (fun _ => rfl) (fun _ => rfl) ?_
 refine dC (c := ⟨some 20, .sl true 9 ([x1].map Qo), [(19, .agg [.int .u8 x1.Op, .int .u64 x1.S.a0, .int .u64 x1.S.a1, .int .u64 x1.S.a2, .int .u64 x1.S.a3, .sl false 1 (mI x1.L), .int .i64 x1.Lo, .int .i64 x1.Hi, .str x1.Name])], [], []⟩) (fun t hm => oF rfl rfl (OpT.buildSlice (elems := ([x1] : List Q4).map Qo) rfl (dk rfl) Tt i165 (by decide) rfl (M1 rfl) (Vn hm.s0 rfl Bt) rfl rfl (Uf rfl) (by decide) ⟨u0, rfl⟩)) (fun _ => rfl) (fun _ => rfl) ?_
 obtain ⟨j, h⟩ := Zf h
 refine DGG.step (c := fun a => ⟨some 21, .c (.ex ((a 7).1 0)), [(20, .sl true 9 ([x1].map Qo)), (18, .c (.ex wx0c2))], [(3, .arrA wx0c2 165 9 (x0.out.map Qo))], [(3, .arrA ((a 7).1 0) 165 9 ((x0.out ++ [x1]).map Qo))]⟩) [7] (fun a γ' h => by simp only [h 7 (by decide)]) (fun a t hm => oF rfl rfl (Zy (i := 3) (xs := x0.out) (ys := [x1]) (f := Qo) rfl (dk rfl) Tt i165 rfl hm.s1 hm.o0 hm.s0 j (fun w => ⟨(fun _ => w, 0), rfl⟩))) (fun a => Z3 rfl rfl) ?_
 refine dC (c := ⟨some 22, .ptr bx0 0, [(14, .ptr bx0 0)], [], []⟩) (fun t hm => oF rfl rfl (OpT.nilCheck rfl (dk rfl) hm.s0 rfl ⟨u0, rfl⟩)) (fun _ => rfl) (fun _ => rfl) ?_
 refine dC (c := ⟨some 23, .ptr bx0 (0 + 2), [(22, .ptr bx0 0)], [], []⟩) (fun t hm => oF rfl rfl (Zs rfl (dk rfl) ul123 rfl i80 (by decide) hm.s0 ⟨u0, rfl⟩)) (fun _ => rfl) (fun _ => rfl) ?_
 refine DGG.step (c := fun a => ⟨none, .any, [(23, .ptr bx0 (0 + 2)), (21, .c (.ex ((a 7).1 0)))], [(2, (Iz bx0 x0.l x0.most wx0c2 x0.long))], [(2, (Iz bx0 x0.l x0.most ((a 7).1 0) x0.long))]⟩) [7] (fun a γ' h => by simp only [h 7 (by decide)]) (fun a t hm => oF rfl rfl (W2 (i := 2) (cells' := [.d (.sl false 9 (x0.l.map Qo)), .d (.int .i64 x0.most), .d (.ex ((a 7).1 0)), .d (.bool x0.long)]) rfl rfl i80 hm.s0 hm.s1 hm.o0 (nb rfl) rfl ⟨u0, rfl⟩)) (fun a => Z3 rfl rfl) ?_
 refine gF [0,0,2,6,14,0,32,126,255,511,1023] Q3 rfl (by kernel_rfl) (fun _ => by kernel_rfl) (fun a u hu => (tN (Qm hu ?_)))
 refine T.seq (Qr ?_)
 refine mw rfl ?_
 refine oK rfl ?_
 refine oP ul123 i80 rfl ?_
 refine sp rfl (Zq (Zn (i := 2) rfl (dk rfl) Tt rfl rfl rfl rfl rfl) (M2 27 3 rfl) ?_)
 refine oU (x0.out ++ [x1]) Qo Tt rfl ?_
 refine oI rfl ?_
 refine aw rfl ?_
 refine TL'.nil (tN ?_)
 refine T.ret ?_
 exact Q7 (.cons _ _ _ _ (.tmp 4 _ rfl) .nil) (.cons 2 rfl (.cons 2 rfl (.nil _))) (by cases h; exact ⟨gl [(a 7).1 0], rfl, rfl⟩)
abbrev Hh (bx0 : Nat) (r : Int × Qx) : ES := J9 tp Tryz.f63 (fun y t => ∃ γ : Nat → Value, y = (.int .i64 r.1) ∧ t = [(Iz bx0 r.2.l r.2.most (γ 0) r.2.long), .arrA (γ 0) 165 9 (r.2.out.map Qo)])
abbrev Dm (bx0 : Nat) (r : Int × Qx) : ES := thenS (fun s' => T tp 47 (ca [1,1,1,1,1,1] Tryz.f63) s' ((Hh bx0 r))) ((Hh bx0 r))
abbrev Ce (bx0 : Nat) (r : Int × Qx) : ES := Qz 0 ((Dm bx0 r))
theorem Ih {r : Int × Qx} (K : Nat) (rec_raddleref08_planner_plan : Qx → Int → Option (Int × Qx)) (hrec_raddleref08_planner_plan : Hk rec_raddleref08_planner_plan) (bx0 : Nat) : ∀ (k : Nat), ∀ (y : Int) (aa : List Q4) (ab : Int) (ac : Bool) (ad : List Q4) (b : Int) (a : Z5) (p : List Int) (g j : Int) (m : ByteArray) (q : List Int) (w : Value) (af : Nat) (s : Value), Ue K rec_raddleref08_planner_plan k y aa ab ac ad b a p g j m q = some r → TL tp 47 (ca [1,1,1,1,1,0,1,0,0] Tryz.f63) ⟨[(0, .ptr bx0 0), (5, .ptr af 0), (6, .c (.ex s)), (7, .int .i64 y)], [(Iz bx0 aa ab w ac), .arrA w 165 9 (ad.map Qo), (Qgm af b a.a0 a.a1 a.a2 a.a3 p g j m), .arrA s 3 1 (mI q)]⟩ (Ce bx0 r) := by
 intro k
 induction k with
 | zero =>
  intro y aa ab ac ad b a p g j m q w af s h
  exact zn h
 | succ k ih =>
  intro y aa ab ac ad b a p g j m q w af s h
  rw [Ue] at h
  refine Q6 ?_
  refine T.seq ?_
  refine T.seq (Qr ?_)
  refine mw rfl ?_
  refine oP Mk i38 rfl ?_
  refine oL 2 Zx rfl ?_
  refine oU p (cI .i64) Zx rfl ?_
  refine oI rfl ?_
  refine TL'.nil (tN ?_)
  rcases Qd h with ⟨ag, h⟩ | ⟨ag, h⟩
  refine Qq rfl ag ?_
  refine T.skip (tN ?_)
  refine T.seq ?_
  refine T.block ?_
  refine Qr ?_
  refine mw rfl ?_
  refine mw rfl ?_
  refine oP Mk i38 rfl ?_
  refine oL 2 Zx rfl ?_
  refine mw rfl ?_
  obtain ⟨ai, aj, h⟩ := bind_some h
  refine oX p (cI .i64) Zx i3 aj rfl ?_
  refine oR ul3 rfl ?_
  obtain ⟨u, al, h⟩ := bind_some h
  refine sp rfl (Q8 (is := [0, 1]) (ph := []) rfl (dk rfl) Tryz.func63 rfl rfl (Q5.cons rfl (Q5.cons rfl Q5.nil)) (hrec_raddleref08_planner_plan (Qx.mk aa ab ad ac) ai bx0 w _ al) (.cons rfl rfl (.cons rfl rfl (.nil))) (fun _ => rfl) (fun am => ?_))
  refine nm (.c (.c (.c (.c (.n))))) ?_
  refine sp rfl (OpT.buildSlice (elems := ([u.1] : List Int).map (cI .i64)) rfl (dk rfl) Zx i3 (by decide) rfl (M1 rfl) rfl rfl rfl (Uf rfl) (by decide) ?_)
  obtain ⟨an, h⟩ := Zf h
  refine sp rfl (Zy (i := 3) (xs := q) (ys := [u.1]) (f := (cI .i64)) rfl (dk rfl) Zx i3 rfl rfl rfl rfl an (fun ap => ?_))
  refine aw rfl ?_
  refine TL'.nil (Qn (tN ?_))
  refine Qr ?_
  refine mw rfl ?_
  refine oI rfl ?_
  refine aw rfl ?_
  refine TL'.nil (tN ?_)
  refine Qh ?_ (ih (wI (y + (1:Int))) u.2.l u.2.most u.2.long u.2.out b a p g j m (q ++ [u.1]) (am 0) af ap h)
  exact tq rfl rfl
  refine Qp rfl ag ?_
  refine T.exit (Qj (Qj (Qs (tN ?_))))
  refine T.seq (Qr ?_)
  refine mw rfl ?_
  refine oP Mk i38 rfl ?_
  refine sp rfl (W2 (i := 2) (cells' := [.d (.int .u8 b), .d (.int .u64 a.a0), .d (.int .u64 a.a1), .d (.int .u64 a.a2), .d (.int .u64 a.a3), .d (.ex s), .d (.int .i64 g), .d (.int .i64 j), .d (.str m)]) rfl rfl i38 rfl rfl rfl (nb rfl) rfl ?_)
  refine TL'.nil (tN (T.seq (Qr ?_)))
  refine mw rfl ?_
  refine sp rfl (Zq (Uh (i := 2) (l := [.int .u8 b, .int .u64 a.a0, .int .u64 a.a1, .int .u64 a.a2, .int .u64 a.a3, .ex s, .int .i64 g, .int .i64 j, .str m]) rfl (dk rfl) Mk rfl i165 rfl rfl rfl rfl rfl) (Ye 45 (l := [.int .u8 b, .int .u64 a.a0, .int .u64 a.a1, .int .u64 a.a2, .int .u64 a.a3, .ex s, .int .i64 g, .int .i64 j, .str m]) (l' := [.int .u8 b, .int .u64 a.a0, .int .u64 a.a1, .int .u64 a.a2, .int .u64 a.a3, .sl false 1 (mI q), .int .i64 g, .int .i64 j, .str m]) (.cons (.same _) (.cons (.same _) (.cons (.same _) (.cons (.same _) (.cons (.same _) (.cons (.view 3 rfl) (.cons (.same _) (.cons (.same _) (.cons (.same _) (.refl _))))))))))) ?_)
  obtain ⟨av, aq, h⟩ := bind_some h
  refine sp rfl (Q8 (is := [0, 1]) (ph := []) rfl (dk rfl) Tryz.func101 rfl rfl (Q5.cons rfl (Q5.cons rfl Q5.nil)) (Rb K (bx0 := bx0) (wx0c2 := w) aq) (.cons rfl rfl (.cons rfl rfl (.nil))) (fun _ => rfl) (fun au => ?_))
  refine nm (.c (.c (.c (.c (.n))))) ?_
  refine aw rfl ?_
  refine TL'.nil (tN ?_)
  refine T.ret ?_
  exact Q7 (.cons _ _ _ _ (.tmp 4 _ rfl) .nil) (.cons 0 rfl (.cons 0 rfl (.nil _))) (by cases h; exact ⟨gl [au 0], rfl, rfl⟩)
theorem Nf (K : Nat) (rec_raddleref08_planner_plan : Qx → Int → Option (Int × Qx)) (hrec_raddleref08_planner_plan : Hk rec_raddleref08_planner_plan) {x0 : Qx} {x1 : Int} {bx0 : Nat} {wx0c2 : Value} {r : Int × Qx} (h : Hj K rec_raddleref08_planner_plan x0 x1 = some r) : U7 tp 63 [.ptr bx0 0, .int .i64 x1] [(Iz bx0 x0.l x0.most wx0c2 x0.long), .arrA wx0c2 165 9 (x0.out.map Qo)] (fun γ => (.int .i64 r.1)) (fun γ => [(Iz bx0 r.2.l r.2.most (γ 0) r.2.long), .arrA (γ 0) 165 9 (r.2.out.map Qo)]) := by
 refine Qt Tryz.func63 rfl (nb rfl) ?_
 show T tp 47 (ca [] Tryz.f63) ⟨Qw 0 [.ptr bx0 0, .int .i64 x1], [(Iz bx0 x0.l x0.most wx0c2 x0.long), .arrA wx0c2 165 9 (x0.out.map Qo)]⟩ (Hh bx0 r)
 unfold Hj at h
 refine T.seq (Qr ?_)
 refine aw rfl ?_
 refine TL'.nil (tN (T.seq (Qr ?_)))
 refine mw rfl ?_
 refine oK rfl ?_
 refine oP ul123 i80 rfl ?_
 refine oL 0 Tt rfl ?_
 refine mw rfl ?_
 obtain ⟨a, j, h⟩ := bind_some h
 refine oX x0.l Qo Tt i165 j rfl ?_
 refine sp rfl (Za rfl (dk rfl) Mk rfl i165 rfl (nb rfl) ?_)
 refine sp rfl (Zh rfl (dk rfl) i165 rfl (fun m => ?_))
 refine sp rfl (Qy (i := 0) (cells' := [.d (.int .u8 a.Op), .d (.int .u64 a.S.a0), .d (.int .u64 a.S.a1), .d (.int .u64 a.S.a2), .d (.int .u64 a.S.a3), .d (.sl false 1 (mI a.L)), .d (.int .i64 a.Lo), .d (.int .i64 a.Hi), .d (.str a.Name)]) rfl rfl i165 rfl rfl rfl rfl (nb rfl) rfl ?_)
 refine TL'.nil (tN ?_)
 refine T.seq ?_
 refine T.seq (Qr ?_)
 refine mw rfl ?_
 refine oK rfl ?_
 refine oP ul123 i4 rfl ?_
 refine oL 1 ul4 rfl ?_
 refine TL'.nil (tN ?_)
 rcases Qd h with ⟨b, h⟩ | ⟨b, h⟩
 cases h
 refine Qp rfl b ?_
 refine T.skip (tN ?_)
 refine T.seq ?_
 refine T.seq (Qr ?_)
 refine oP Mk i5 rfl ?_
 refine oL 0 ul5 rfl ?_
 refine oI rfl ?_
 refine TL'.nil (tN ?_)
 rcases Qd h with ⟨g, h⟩ | ⟨g, h⟩
 cases h
 refine Qp rfl g ?_
 refine T.skip (tN ?_)
 refine T.seq (Qr ?_)
 refine aw rfl ?_
 refine TL'.nil (tN ?_)
 refine T.seq ?_
 refine T.seq (Qr ?_)
 refine aw rfl ?_
 refine TL'.nil (tN ?_)
 refine T.block ?_
 refine T.loop ?_
 refine Qh (Xy 3 1) ?_
 refine Qh ?_ (Ih K rec_raddleref08_planner_plan hrec_raddleref08_planner_plan bx0 K (0:Int) x0.l x0.most x0.long x0.out a.Op a.S a.L a.Lo a.Hi a.Name [] wx0c2 m (Qf1 2) h)
 exact tr rfl (.c (.s (.s .z)) (.c (.s (.s .z)) (.c (.s .z) (.c .z (.n _)))))
theorem Nd (K : Nat) : ∀ n, Hk (U3 K n) := by
 intro n
 induction n with
 | zero =>
  intro x0 x1 bx0 wx0c2 r h
  exact zn h
 | succ n ih =>
  intro x0 x1 bx0 wx0c2 r h
  exact Nf K (U3 K n) ih h
theorem Pg (K : Nat) {x0 : Qx} {x1 : Int} {bx0 : Nat} {wx0c2 : Value} {r : Int × Qx} (h : Cv K x0 x1 = some r) : U7 tp 63 [.ptr bx0 0, .int .i64 x1] [(Iz bx0 x0.l x0.most wx0c2 x0.long), .arrA wx0c2 165 9 (x0.out.map Qo)] (fun γ => (.int .i64 r.1)) (fun γ => [(Iz bx0 r.2.l r.2.most (γ 0) r.2.long), .arrA (γ 0) 165 9 (r.2.out.map Qo)]) := Nd K K x0 x1 bx0 wx0c2 r h
abbrev Qfd (r : (List Q4) × Int) : ES := J9 tp Tryz.f36 (fun y t => y = (.tup [.sl false 9 (r.1.map Qo), .int .i64 r.2]) ∧ t = [])
theorem Qfe (K : Nat) {x0 : List Q4} {x1 : Int} {flx0 : Bool} {r : (List Q4) × Int} (h : Ii K x0 x1 = some r) : Zm tp 36 [.sl flx0 9 (x0.map Qo), .int .i64 x1] [] (.tup [.sl false 9 (r.1.map Qo), .int .i64 r.2]) := by
 refine Qt Tryz.func36 rfl (nb rfl) ?_
 show T tp 43 (ca [] Tryz.f36) ⟨Qw 0 [.sl flx0 9 (x0.map Qo), .int .i64 x1], []⟩ (Qfd r)
 unfold Ii at h
 refine T.seq (Qr ?_)
 refine aw rfl ?_
 refine aw rfl ?_
 refine TL'.nil (tN ?_)
 refine T.seq ?_
 refine T.seq (Qr ?_)
 refine mw rfl ?_
 obtain ⟨u, m, h⟩ := bind_some h
 refine sp rfl (Q0 rfl (dk rfl) Tryz.func62 rfl rfl (Q5.cons rfl Q5.nil) (Zm.nil (Oe K (flx0 := flx0) m)) ?_)
 refine oT rfl ?_
 refine mw rfl ?_
 rcases Qd h with ⟨b, h⟩ | ⟨b, h⟩
 cases h
 refine sn rfl b (OpT.move rfl (dk rfl) rfl ?_)
 refine sn rfl b (Zj rfl rfl (dk rfl) rfl rfl ?_)
 refine oZ b rfl ?_
 refine mw rfl ?_
 rcases Qd h with ⟨d, h⟩ | ⟨d, h⟩
 cases h
 refine sn rfl d (OpT.move rfl (dk rfl) rfl ?_)
 refine sn rfl d (Zj rfl rfl (dk rfl) rfl rfl ?_)
 refine oZ d rfl ?_
 refine TL'.nil (tN ?_)
 rcases Qd h with ⟨g, h⟩ | ⟨g, h⟩
 cases h
 refine Qp rfl g ?_
 refine T.skip (tN ?_)
 refine T.seq (Qr ?_)
 refine mw rfl ?_
 refine mw rfl ?_
 refine sp rfl (Zq (OpT.build (l := [.sl flx0 9 (x0.map Qo), .int .i64 x1, .ex (.slice none 0 0), .bool false]) rfl (dk rfl) (Zv (pl := [(0, 1), (1, 1), (2, 1), (3, 1)]) ul123 i123 rfl) (M1 rfl) rfl rfl rfl) (Ye 20 (l := [.sl flx0 9 (x0.map Qo), .int .i64 x1, .ex (.slice none 0 0), .bool false]) (l' := [.sl false 9 (x0.map Qo), .int .i64 x1, .ex (.slice none 0 0), .bool false]) (.cons (.full _ _ _) (.cons (.same _) (.cons (.same _) (.cons (.same _) (.refl _)))))) ?_)
 refine sp rfl (Zb rfl (dk rfl) rfl (fun p => ?_))
 refine aw rfl ?_
 refine TL'.nil (tN (T.seq (Qr ?_)))
 refine mw rfl ?_
 refine mw rfl ?_
 refine oU x0 Qo Tt rfl ?_
 refine oI rfl ?_
 refine Hz (Xy 165 9) ?_
 obtain ⟨v, q, h⟩ := bind_some h
 refine sp rfl (Q8 (is := [1, 0]) (ph := []) rfl (dk rfl) Tryz.func63 rfl rfl (Q5.cons rfl (Q5.cons rfl Q5.nil)) (Pg K (bx0 := p) (wx0c2 := (Qf1 5)) q) (.cons rfl rfl (.cons rfl rfl (.nil))) (fun _ => rfl) (fun w => ?_))
 refine nm (.c (.c (.n))) ?_
 refine TL'.nil (tN ?_)
 refine T.seq ?_
 refine T.seq (Qr ?_)
 refine mw rfl ?_
 refine oK rfl ?_
 refine oP ul123 i4 rfl ?_
 refine oL 1 ul4 rfl ?_
 refine mw rfl ?_
 rcases Qd h with ⟨a, h⟩ | ⟨a, h⟩
 cases h
 refine sn rfl a (OpT.move rfl (dk rfl) rfl ?_)
 refine sn rfl a (OpT.nilCheck rfl (dk rfl) rfl rfl ?_)
 refine sn rfl a (Zs rfl (dk rfl) ul123 rfl i80 (by decide) rfl ?_)
 refine sn rfl a (Zq (Zn (i := 1) rfl (dk rfl) Tt rfl rfl rfl rfl rfl) (M2 35 0 rfl) ?_)
 obtain ⟨y, s, h⟩ := bind_some h
 refine sn rfl a (Q0 rfl (dk rfl) Tryz.func64 rfl rfl (Q5.cons rfl Q5.nil) (Zm.nil (Oi K (flx0 := false) s)) ?_)
 refine sn rfl a (OpT.not rfl (dk rfl) rfl ?_)
 refine oZ a rfl ?_
 refine TL'.nil (tN ?_)
 rcases Qd h with ⟨j, h⟩ | ⟨j, h⟩
 cases h
 refine Qp rfl j ?_
 refine T.skip (tN ?_)
 refine T.seq (Qr ?_)
 refine mw rfl ?_
 refine oK rfl ?_
 refine oP ul123 i80 rfl ?_
 refine oL 1 Tt rfl ?_
 refine aw rfl ?_
 refine aw rfl ?_
 refine TL'.nil (tN ?_)
 refine T.ret ?_
 refine X7 (Z6.view 4 0 rfl rfl) ?_
 exact Fin.done (.cons _ _ _ _ (.tmp 4 _ rfl) (.cons _ _ _ _ (.tmp 5 _ rfl) .nil)) (by cases h; exact ⟨rfl, rfl⟩)
abbrev Dl (r : List Int) : ES := J9 tp Tryz.f67 (fun y t => y = (.sl false 1 (mI r)) ∧ t = [])
abbrev Sb (r : List Int) : ES := thenS (fun s' => T tp 75 (ca [1,1,1,1,1] Tryz.f67) s' ((Dl r))) ((Dl r))
abbrev U2 (r : List Int) : ES := Qz 0 ((Sb r))
abbrev Bp (r : List Int) : ES := thenS (fun s' => TL tp 75 (ca [1,1,1,1,0,0,0] Tryz.f67) s' ((U2 r))) ((U2 r))
abbrev Od (r : List Int) : ES := thenS (fun s' => T tp 75 (ca [1,1,1,1,0,0,0,1] Tryz.f67) s' ((Bp r))) ((Bp r))
abbrev Qb6 (r : List Int) (go : (List Int) → (List Int) → Int → Int → (List Int) → Option (List Int)) : Prop := ∀ (x0 x1 : List Int) (a b : Int) (d : List Int) (flx0 flx1 : Bool) (f : Value), go x0 x1 a b d = some r → TL tp 75 (ca [1,1,1,1,0,0,0] Tryz.f67) ⟨[(0, .sl flx0 1 (mI x0)), (1, .sl flx1 1 (mI x1)), (5, .c (.ex f)), (6, .int .i64 a), (7, .int .i64 b)], [.arrA f 3 1 (mI d)]⟩ (U2 r)
theorem Fh {r : List Int} (K : Nat) (go0 : (List Int) → (List Int) → Int → Int → (List Int) → Option (List Int)) (hgo0 : Qb6 r go0) (x0 x1 : List Int) (a d : Int) (m : List Int) (flx0 flx1 : Bool) (p : Value) (h : Lx K go0 x0 x1 a d m = some r) : T tp 75 (ca [1,1,1,1,0,0,0,0,1,0] Tryz.f67) ⟨[(0, .sl flx0 1 (mI x0)), (1, .sl flx1 1 (mI x1)), (5, .c (.ex p)), (6, .int .i64 a), (7, .int .i64 d)], [.arrA p 3 1 (mI m)]⟩ (Od r) := by
 unfold Lx at h
 refine T.skip (tN ?_)
 refine T.block ?_
 refine T.seq ?_
 refine Yk ?_
 refine dV rfl rfl ?_
 refine dV rfl rfl ?_
 refine dN x1 (cI .i64) rfl (.f rfl) Zx rfl ?_
 refine dI rfl (.f rfl) rfl ?_
 refine dV rfl rfl ?_
 rcases Qd h with ⟨l, h⟩ | ⟨l, h⟩
 cases h
 refine dM rfl (.n l rfl) rfl ?_
 refine dM rfl (.n l rfl) rfl ?_
 refine dN x0 (cI .i64) rfl (.n l rfl) Zx rfl ?_
 refine dI rfl (.n l rfl) rfl ?_
 refine dM rfl (.n l rfl) rfl ?_
 rcases Qd h with ⟨b, h⟩ | ⟨b, h⟩
 refine dM rfl (.n b rfl) rfl ?_
 refine dM rfl (.n b rfl) rfl ?_
 obtain ⟨g, s, h⟩ := bind_some h
 refine dX x0 (cI .i64) rfl (.n b rfl) Zx i3 s rfl ?_
 refine dR rfl (.n b rfl) ul3 rfl ?_
 refine dM rfl (.n b rfl) rfl ?_
 refine dM rfl (.n b rfl) rfl ?_
 obtain ⟨j, y, h⟩ := bind_some h
 refine dX x1 (cI .i64) rfl (.n b rfl) Zx i3 y rfl ?_
 refine dR rfl (.n b rfl) ul3 rfl ?_
 refine dI rfl (.n b rfl) rfl ?_
 refine dY rfl (.n l rfl) b rfl ?_
 refine dZ rfl (.f rfl) l rfl ?_
 refine dF [0,0,2,7,15,31,31,95,255,511,1023,1023,4095,8191,1023,1023,50175,115711,262143,524287,1048575] Q3 rfl (by kernel_rfl) (fun u hu => (tN (Qm hu ?_)))
 rcases Qd h with ⟨w, h⟩ | ⟨w, h⟩
 refine Qq rfl w ?_
 refine T.seq (Qr ?_)
 iterate 3 refine mw rfl ?_
 refine oX x0 (cI .i64) Zx i3 s rfl ?_
 refine oR ul3 rfl ?_
 refine sp rfl (OpT.buildSlice (elems := ([g] : List Int).map (cI .i64)) rfl (dk rfl) Zx i3 (by decide) rfl (M1 rfl) rfl rfl rfl (Uf rfl) (by decide) ?_)
 obtain ⟨aa, h⟩ := Zf h
 refine sp rfl (Zy (i := 0) (xs := m) (ys := [g]) (f := (cI .i64)) rfl (dk rfl) Zx i3 rfl rfl rfl rfl aa (fun ab => ?_))
 refine aw rfl ?_
 refine TL'.nil (tN ?_)
 refine Qr ?_
 refine mw rfl ?_
 refine oI rfl ?_
 refine aw rfl ?_
 refine TL'.nil (Qn (tN ?_))
 refine Qh ?_ (hgo0 x0 x1 (wI (a + (1:Int))) d (m ++ [g]) flx0 flx1 ab h)
 exact tq rfl rfl
 cases h
 refine dO b rfl rfl ?_
 refine dO b rfl rfl ?_
 refine dO b rfl rfl ?_
 refine dO b rfl rfl ?_
 refine dO b rfl rfl ?_
 refine dO b rfl rfl ?_
 refine dO b rfl rfl ?_
 refine dO b rfl rfl ?_
 refine dO b rfl rfl ?_
 refine dZ rfl (.n l rfl) b rfl ?_
 refine dZ rfl (.f rfl) l rfl ?_
 refine dF [0,0,2,7,15,31,31,95,255,511,1023,1023,4095,8191,1023,1023,50175,115711,262143,524287,1048575] Q3 rfl (by kernel_rfl) (fun u hu => (tN (Qm hu ?_)))
 refine Qp rfl rfl ?_
 refine T.seq ?_
 refine T.seq ?_
 refine Yk ?_
 refine dV rfl rfl ?_
 refine dV rfl rfl ?_
 refine dN x0 (cI .i64) rfl (.f rfl) Zx rfl ?_
 refine dI rfl (.f rfl) rfl ?_
 refine dV rfl rfl ?_
 refine dO b rfl rfl ?_
 refine dO b rfl rfl ?_
 refine dO b rfl rfl ?_
 refine dO b rfl rfl ?_
 refine dO b rfl rfl ?_
 refine dO b rfl rfl ?_
 refine dO b rfl rfl ?_
 refine dO b rfl rfl ?_
 refine dO b rfl rfl ?_
 refine dZ rfl (.f rfl) b rfl ?_
 refine dF [0,0,2,7,15,31,31,127,255,31,31,1567,3615,8191,16383] Q3 rfl (by kernel_rfl) (fun u hu => (tN (Qm hu ?_)))
 refine Qp rfl rfl ?_
 refine T.skip (tN ?_)
 refine T.seq (Qr ?_)
 iterate 3 refine mw rfl ?_
 obtain ⟨q, ac, h⟩ := bind_some h
 refine oX x1 (cI .i64) Zx i3 ac rfl ?_
 refine oR ul3 rfl ?_
 refine sp rfl (OpT.buildSlice (elems := ([q] : List Int).map (cI .i64)) rfl (dk rfl) Zx i3 (by decide) rfl (M1 rfl) rfl rfl rfl (Uf rfl) (by decide) ?_)
 obtain ⟨ad, h⟩ := Zf h
 refine sp rfl (Zy (i := 0) (xs := m) (ys := [q]) (f := (cI .i64)) rfl (dk rfl) Zx i3 rfl rfl rfl rfl ad (fun af => ?_))
 refine aw rfl ?_
 refine TL'.nil (tN ?_)
 refine Qr ?_
 refine mw rfl ?_
 refine oI rfl ?_
 refine aw rfl ?_
 refine TL'.nil (Qn (tN ?_))
 refine Qh ?_ (hgo0 x0 x1 a (wI (d + (1:Int))) (m ++ [q]) flx0 flx1 af h)
 exact tq rfl rfl
theorem Qb5 {r : List Int} (K : Nat) : ∀ (k : Nat), ∀ (x0 x1 : List Int) (b d : Int) (g : List Int) (flx0 flx1 : Bool) (i : Value), Vz K k x0 x1 b d g = some r → TL tp 75 (ca [1,1,1,1,0,0,0] Tryz.f67) ⟨[(0, .sl flx0 1 (mI x0)), (1, .sl flx1 1 (mI x1)), (5, .c (.ex i)), (6, .int .i64 b), (7, .int .i64 d)], [.arrA i 3 1 (mI g)]⟩ (U2 r) := by
 intro k
 induction k with
 | zero =>
  intro x0 x1 b d g flx0 flx1 i h
  exact zn h
 | succ k ih =>
  intro x0 x1 b d g flx0 flx1 i h
  rw [Vz] at h
  refine Q6 ?_
  refine T.seq ?_
  refine T.seq (Qr ?_)
  refine mw rfl ?_
  refine mw rfl ?_
  refine oU x0 (cI .i64) Zx rfl ?_
  refine oI rfl ?_
  refine mw rfl ?_
  rcases Qd h with ⟨a, h⟩ | ⟨a, h⟩
  refine pf rfl a ?_
  refine pf rfl a ?_
  refine pf rfl a ?_
  refine pf rfl a ?_
  refine oY a rfl ?_
  refine TL'.nil (tN ?_)
  refine Qq rfl rfl ?_
  refine Qm ?_ (Fh K (Vz K k) ih x0 x1 b d g flx0 flx1 i h)
  exact tq rfl rfl
  refine sn rfl a (OpT.move rfl (dk rfl) rfl ?_)
  refine sn rfl a (OpT.move rfl (dk rfl) rfl ?_)
  refine sn rfl a (Zw (xs := x1) (f := (cI .i64)) rfl (dk rfl) Zx rfl ?_)
  refine sn rfl a (Zj rfl rfl (dk rfl) rfl rfl ?_)
  refine oZ a rfl ?_
  refine TL'.nil (tN ?_)
  rcases Qd h with ⟨j, h⟩ | ⟨j, h⟩
  refine Qq rfl j ?_
  refine Qm ?_ (Fh K (Vz K k) ih x0 x1 b d g flx0 flx1 i h)
  exact tq rfl rfl
  refine Qp rfl j ?_
  refine T.exit (Qj (Qj (Qs (tN ?_))))
  refine T.seq (Qr ?_)
  refine mw rfl ?_
  refine aw rfl ?_
  refine TL'.nil (tN ?_)
  refine T.ret ?_
  refine X7 (Z6.view 4 0 rfl rfl) ?_
  exact fd rfl (by cases h; exact ⟨rfl, rfl⟩)
theorem Hv (K : Nat) {x0 x1 : List Int} {flx0 flx1 : Bool} {r : List Int} (h : Jx K x0 x1 = some r) : Zm tp 67 [.sl flx0 1 (mI x0), .sl flx1 1 (mI x1)] [] (.sl false 1 (mI r)) := by
 refine Qt Tryz.func67 rfl (nb rfl) ?_
 show T tp 75 (ca [] Tryz.f67) ⟨Qw 0 [.sl flx0 1 (mI x0), .sl flx1 1 (mI x1)], []⟩ (Dl r)
 unfold Jx at h
 refine T.seq (Qr ?_)
 refine aw rfl ?_
 refine TL'.nil (tN (T.seq (Qr ?_)))
 refine aw rfl ?_
 refine TL'.nil (tN (T.seq (Qr ?_)))
 refine aw rfl ?_
 refine TL'.nil (tN (T.seq (Qr ?_)))
 refine aw rfl ?_
 refine TL'.nil (tN ?_)
 refine T.seq ?_
 refine T.block ?_
 refine T.loop ?_
 refine Qh (Xy 3 1) ?_
 refine Qh ?_ (Qb5 K K x0 x1 (0:Int) (0:Int) [] flx0 flx1 (Qf1 2) h)
 exact tq rfl rfl
abbrev M8 (bx0 : Nat) (r : Qk) : ES := J9 tp Tryz.f107 (fun y t => ∃ γ : Nat → Value, y = (.tup []) ∧ t = [(Jv bx0 (γ 0)), .arrX (γ 0) 65 9 0 (r.p.map Q1)])
abbrev Ie (bx0 : Nat) (r : Qk) : ES := Qz 0 ((M8 bx0 r))
theorem If {r : Qk} (K bx0 : Nat) : ∀ (k : Nat), ∀ (x1 x2 : List Int) (l : Int) (j : List Zp) (flx1 flx2 : Bool) (a : Value), Ud K k x1 x2 l j = some r → TL tp 36 (ca [1,0,0] Tryz.f107) ⟨[(0, .ptr bx0 0), (1, .sl flx1 1 (mI x1)), (2, .sl flx2 1 (mI x2)), (6, .int .i64 l)], [(Jv bx0 a), .arrX a 65 9 0 (j.map Q1)]⟩ (Ie bx0 r) := by
 intro k
 induction k with
 | zero =>
  intro x1 x2 l j flx1 flx2 a h
  exact zn h
 | succ k ih =>
  intro x1 x2 l j flx1 flx2 a h
  rw [Ud] at h
  refine Q6 ?_
  refine T.seq ?_
  refine T.seq (Qr ?_)
  refine mw rfl ?_
  refine mw rfl ?_
  refine oU x1 (cI .i64) Zx rfl ?_
  refine oI rfl ?_
  refine TL'.nil (tN ?_)
  rcases Qd h with ⟨q, h⟩ | ⟨q, h⟩
  refine Qq rfl q ?_
  refine T.skip (tN ?_)
  refine T.seq ?_
  refine T.block ?_
  refine Yk ?_
  refine dV rfl rfl ?_
  refine dK rfl (.f rfl) rfl ?_
  refine dP rfl (.f rfl) ul126 i41 rfl ?_
  refine dL 0 rfl (.f rfl) Tu rfl ?_
  refine dV rfl rfl ?_
  refine dV rfl rfl ?_
  obtain ⟨g, s, h⟩ := bind_some h
  refine dX x1 (cI .i64) rfl (.f rfl) Zx i3 s rfl ?_
  refine dR rfl (.f rfl) ul3 rfl ?_
  refine dV rfl rfl ?_
  refine dK rfl (.f rfl) rfl ?_
  refine dP rfl (.f rfl) ul126 i41 rfl ?_
  refine dL 0 rfl (.f rfl) Tu rfl ?_
  refine dV rfl rfl ?_
  refine dV rfl rfl ?_
  refine dX x1 (cI .i64) rfl (.f rfl) Zx i3 s rfl ?_
  refine dR rfl (.f rfl) ul3 rfl ?_
  obtain ⟨b, p, h⟩ := bind_some h
  refine dS (c := ⟨some 29, .el a 9 (Int.toNat g) 0, [(24, .c (.ex a)), (28, .int .i64 g)], [(1, .arrX a 65 9 0 (j.map Q1))], []⟩) (fun t hm => oF rfl rfl (Yb (n := 1) (xs := j) (f := Q1) (old := b) rfl (dk rfl) Tu i65 hm.s0 hm.o0 hm.s1 p rfl)) rfl rfl ?_
  refine dS (c := ⟨some 30, .el a 9 (Int.toNat g) 8, [(29, .el a 9 (Int.toNat g) 0)], [], []⟩) (fun t hm => oF rfl rfl (Co rfl (dk rfl) ul65 rfl i38 (by decide) hm.s0 rfl)) rfl rfl ?_
  refine dS (c := ⟨some 31, .sl false 1 (mI b.Next), [(30, .el a 9 (Int.toNat g) 8)], [(1, .arrX a 65 9 0 (j.map Q1))], []⟩) (fun t hm => oF rfl rfl (Hq (i := 1) (xs := j) (f := Q1) (old := b) rfl (dk rfl) Zx rfl hm.s0 hm.o0 (Zu p).2 rfl rfl)) rfl rfl ?_
  refine dV rfl rfl ?_
  obtain ⟨m, w, h⟩ := bind_some h
  refine dS (c := ⟨some 33, .sl false 1 (mI m), [(31, .sl false 1 (mI b.Next)), (32, .sl flx2 1 (mI x2))], [], []⟩) (fun t hm => oF rfl rfl (Q0 rfl (dk rfl) Tryz.func67 rfl rfl (Q5.cons hm.s0 (Q5.cons hm.s1 Q5.nil)) (Zm.nil (Hv K (flx0 := false) (flx1 := flx2) w)) rfl)) rfl rfl ?_
  refine dS (c := ⟨some 34, .el a 9 (Int.toNat g) 0, [(16, .c (.ex a)), (20, .int .i64 g)], [(1, .arrX a 65 9 0 (j.map Q1))], []⟩) (fun t hm => oF rfl rfl (Yb (n := 1) (xs := j) (f := Q1) (old := b) rfl (dk rfl) Tu i65 hm.s0 hm.o0 hm.s1 p rfl)) rfl rfl ?_
  refine dS (c := ⟨some 35, .el a 9 (Int.toNat g) 8, [(34, .el a 9 (Int.toNat g) 0)], [], []⟩) (fun t hm => oF rfl rfl (Co rfl (dk rfl) ul65 rfl i38 (by decide) hm.s0 rfl)) rfl rfl ?_
  refine dS (c := ⟨none, .any, [(35, .el a 9 (Int.toNat g) 8), (33, .sl false 1 (mI m))], [(1, .arrX a 65 9 0 (j.map Q1))], [(1, .arrX a 65 9 0 ((List.set j (Int.toNat g) (Zp.mk b.S b.Lo b.Hi b.Rule b.Last m)).map Q1))]⟩) (fun t hm => oF rfl rfl (H8 (i := 1) (xs := j) (f := Q1) (old := b) (new := (Zp.mk b.S b.Lo b.Hi b.Rule b.Last m)) rfl rfl i38 hm.s0 hm.s1 hm.o0 (Zu p).2 (Nat.zero_le _) (nb rfl) rfl rfl)) rfl rfl ?_
  refine dF [0,1,3,7,0,0,48,112,0,256,768,1792,0,0,12288,28672,65280,130816,261888,0,1048320,2097151,4194303,8388607] Q3 rfl (by kernel_rfl) (fun u hu => (Qn (tN (Qm hu ?_))))
  refine Qr ?_
  refine mw rfl ?_
  refine oI rfl ?_
  refine aw rfl ?_
  refine TL'.nil (tN ?_)
  refine Qh ?_ (ih x1 x2 (wI (l + (1:Int))) (List.set j (Int.toNat g) (Zp.mk b.S b.Lo b.Hi b.Rule b.Last m)) flx1 flx2 a h)
  exact tq rfl rfl
  refine Qp rfl q ?_
  refine T.exit (Qj (Qj (Qs ?_)))
  exact Q7 (.nil) (.cons 0 rfl (.cons 0 rfl (.nil _))) (by cases h; exact ⟨gl [a], rfl, rfl⟩)
theorem Pf (K : Nat) {x0 : Qk} {x1 x2 : List Int} {bx0 : Nat} {wx0c0 : Value} {flx1 flx2 : Bool} {r : Qk} (h : La K x0 x1 x2 = some r) : U7 tp 107 [.ptr bx0 0, .sl flx1 1 (mI x1), .sl flx2 1 (mI x2)] [(Jv bx0 wx0c0), .arrX wx0c0 65 9 0 (x0.p.map Q1)] (fun γ => (.tup [])) (fun γ => [(Jv bx0 (γ 0)), .arrX (γ 0) 65 9 0 (r.p.map Q1)]) := by
 refine Qt Tryz.func107 rfl (nb rfl) ?_
 show T tp 36 (ca [] Tryz.f107) ⟨Qw 0 [.ptr bx0 0, .sl flx1 1 (mI x1), .sl flx2 1 (mI x2)], [(Jv bx0 wx0c0), .arrX wx0c0 65 9 0 (x0.p.map Q1)]⟩ (M8 bx0 r)
 unfold La at h
 refine T.seq (Qr ?_)
 refine aw rfl ?_
 refine TL'.nil (tN ?_)
 refine T.block ?_
 refine T.loop ?_
 refine Qh ?_ (If K bx0 K x1 x2 (0:Int) x0.p flx1 flx2 wx0c0 h)
 exact tq rfl rfl
end Go.Rv

/- Each function computes what its plain text says: printed by a program of ours. -/
import Derived.Test.YtocjhbbldeankaaDoorRgW3
namespace Go.Rv
open Go.Proofs
set_option maxRecDepth 100000
set_option maxHeartbeats 4000000
set_option linter.unusedVariables false
abbrev syr_peek_q (bx0 : Nat) (x0 : syp) (r : Int × Bool) : Exit → St → Prop := retS Tryd.prog Tryd.f39 (fun y t => ∃ γ : Nat → Value, y = (.tup [.int .u8 r.1, .bool r.2]) ∧ t = [(o74 bx0 x0.reader.s x0.reader.at_ x0.reader.where_ x0.reader.e (γ 0) x0.deep), .arrA (γ 0) 42 9 (x0.nodes.map c_aNd)])
abbrev syr_peek_qs11 (bx0 : Nat) (x0 : syp) (r : Int × Bool) : Exit → St → Prop := thenS (fun s' => T Tryd.prog 30 (Code.at [1, 1] (codeOf Tryd.f39)) s' ((syr_peek_q bx0 x0 r))) ((syr_peek_q bx0 x0 r))
theorem syr_peek_j0_T {r : Int × Bool} (K : Nat) (bx0 : Nat) (x0 : syp) (x0 : syp) (a : Value) (h : syr_peek_j0 K x0 = some r) : T Tryd.prog 30 (Code.at [1, 0, 1, 0] (codeOf Tryd.f39)) ⟨[], [(o74 bx0 x0.reader.s x0.reader.at_ x0.reader.where_ x0.reader.e a x0.deep), .arrA a 42 9 (x0.nodes.map c_aNd)]⟩ (syr_peek_qs11 bx0 x0 r) := by
 unfold syr_peek_j0 at h
 refine T.seq (T.rL ?_)
 refine aw rfl ?_
 refine aw rfl ?_
 refine TL'.nil (tN ?_)
 refine T.ret (thenS_ret ?_)
 exact Fin.doneK (.cons _ _ _ _ (.tmp 2 _ rfl) (.cons _ _ _ _ (.tmp 3 _ rfl) .nil)) (.cons 0 rfl (.cons 0 rfl (.nil _))) (by cases h; exact ⟨gl [a], rfl, rfl⟩)
theorem syr_peek_T (K : Nat) {x0 : syp} {bx0 : Nat} {wx0c1 : Value} {r : Int × Bool} (h : syr_peek K x0 = some r) : CallG Tryd.prog 39 [.ptr bx0 (0 + 0)] [(o74 bx0 x0.reader.s x0.reader.at_ x0.reader.where_ x0.reader.e wx0c1 x0.deep), .arrA wx0c1 42 9 (x0.nodes.map c_aNd)] (fun γ => (.tup [.int .u8 r.1, .bool r.2])) (fun γ => [(o74 bx0 x0.reader.s x0.reader.at_ x0.reader.where_ x0.reader.e (γ 0) x0.deep), .arrA (γ 0) 42 9 (x0.nodes.map c_aNd)]) := by
 refine CallT.intro Tryd.func39 rfl (nb rfl) ?_
 show T Tryd.prog 30 (Code.at [] (codeOf Tryd.f39)) ⟨paramSlots 0 [.ptr bx0 (0 + 0)], [(o74 bx0 x0.reader.s x0.reader.at_ x0.reader.where_ x0.reader.e wx0c1 x0.deep), .arrA wx0c1 42 9 (x0.nodes.map c_aNd)]⟩ (syr_peek_q bx0 x0 r)
 unfold syr_peek at h
 refine T.seq (T.rL ?_)
 refine aw rfl ?_
 refine aw rfl ?_
 refine TL'.nil (tN ?_)
 refine T.seq ?_
 refine T.seq ?_
 refine DG.start ?_
 refine DG.mv rfl rfl rfl rfl rfl rfl ?_
 refine DG.step (c := ⟨some 5, .ptr bx0 (0 + 0), [(4, .ptr bx0 (0 + 0))], [], []⟩) (fun t hm => One.step rfl (.free rfl) (OpT.nilCheck rfl (dk rfl) hm.s0 rfl rfl)) (Ct.mo rfl rfl) ?_
 refine DG.step (c := ⟨some 6, .ptr bx0 (0 + 0 + 3), [(5, .ptr bx0 (0 + 0))], [], []⟩) (fun t hm => One.step rfl (.free rfl) (OpT.fP rfl (dk rfl) ul72 rfl i35 (by decide) hm.s0 rfl)) (Ct.mo rfl rfl) ?_
 refine DG.step (c := ⟨some 7, .int .i64 x0.reader.e, [(6, .ptr bx0 (0 + 0 + 3))], [(0, (o74 bx0 x0.reader.s x0.reader.at_ x0.reader.where_ x0.reader.e wx0c1 x0.deep))], []⟩) (fun t hm => One.step rfl (.free rfl) (OpT.lB (i := 0) rfl (dk rfl) ul35 rfl hm.s0 hm.o0 rfl rfl)) (Ct.mo rfl rfl) ?_
 refine DG.step (c := ⟨some 8, .bool (x0.reader.e != (0 : Int)), [(7, .int .i64 x0.reader.e)], [], []⟩) (fun t hm => One.step rfl (.free rfl) (OpT.int2 rfl rfl (dk rfl) hm.s0 rfl rfl)) (Ct.mo rfl rfl) ?_
 refine DG.mv rfl rfl rfl rfl rfl rfl ?_
 rcases bif_some h with ⟨a, h⟩ | ⟨a, h⟩
 refine DG.off a rfl rfl rfl rfl rfl rfl ?_
 refine DG.off a rfl rfl rfl rfl rfl rfl ?_
 refine DG.off a rfl rfl rfl rfl rfl rfl ?_
 refine DG.off a rfl rfl rfl rfl rfl rfl ?_
 refine DG.off a rfl rfl rfl rfl rfl rfl ?_
 refine DG.off a rfl rfl rfl rfl rfl rfl ?_
 refine DG.off a rfl rfl rfl rfl rfl rfl ?_
 refine DG.off a rfl rfl rfl rfl rfl rfl ?_
 refine DG.off a rfl rfl rfl rfl rfl rfl ?_
 refine DG.off a rfl rfl rfl rfl rfl rfl ?_
 refine DG.step (c := ⟨some 20, .bool true, [(9, .bool (x0.reader.e != (0 : Int)))], [], []⟩) (fun t hm => One.step rfl (.free rfl) (OpT.pickT rfl (dk rfl) hm.s0 a rfl rfl)) (Ct.mo rfl rfl) ?_
 refine DG.fin (s1 := ⟨[(0, .ptr bx0 (0 + 0)), (20, .bool true)], [(o74 bx0 x0.reader.s x0.reader.at_ x0.reader.where_ x0.reader.e wx0c1 x0.deep), .arrA wx0c1 42 9 (x0.nodes.map c_aNd)]⟩) (ms := [0, 1, 3, 7, 15, 31, 63, 127, 255, 511, 63, 1087, 3135, 7231, 15423, 32767, 65535]) TrydMixed rfl (by kernel_rfl) (by kernel_rfl) (by kernel_rfl) (.cons rfl (.cons rfl (.nil _))) rfl (fun u hu => (tN (T.by_turn hu ?_)))
 refine T.condT rfl rfl ?_
 refine T.by_turn ?_ (syr_peek_j0_T K bx0 x0 x0 wx0c1 h)
 exact Turn.rp (.nil _) (.c .z (.c .z (.n _)))
 refine DG.step (c := ⟨some 10, .ptr bx0 (0 + 0), [(0, .ptr bx0 (0 + 0)), (9, .bool (x0.reader.e != (0 : Int)))], [], []⟩) (fun t hm => One.step rfl (.on rfl rfl hm.s1 a) (OpT.move rfl (dk rfl) hm.s0 rfl)) (Ct.mo rfl rfl) ?_
 refine DG.step (c := ⟨some 11, .ptr bx0 (0 + 0), [(10, .ptr bx0 (0 + 0)), (9, .bool (x0.reader.e != (0 : Int)))], [], []⟩) (fun t hm => One.step rfl (.on rfl rfl hm.s1 a) (OpT.nilCheck rfl (dk rfl) hm.s0 rfl rfl)) (Ct.mo rfl rfl) ?_
 refine DG.step (c := ⟨some 12, .ptr bx0 (0 + 0 + 1), [(11, .ptr bx0 (0 + 0)), (9, .bool (x0.reader.e != (0 : Int)))], [], []⟩) (fun t hm => One.step rfl (.on rfl rfl hm.s1 a) (OpT.fP rfl (dk rfl) ul72 rfl i3 (by decide) hm.s0 rfl)) (Ct.mo rfl rfl) ?_
 refine DG.step (c := ⟨some 13, .int .i64 x0.reader.at_, [(12, .ptr bx0 (0 + 0 + 1)), (9, .bool (x0.reader.e != (0 : Int)))], [(0, (o74 bx0 x0.reader.s x0.reader.at_ x0.reader.where_ x0.reader.e wx0c1 x0.deep))], []⟩) (fun t hm => One.step rfl (.on rfl rfl hm.s1 a) (OpT.lB (i := 0) rfl (dk rfl) ul3 rfl hm.s0 hm.o0 rfl rfl)) (Ct.mo rfl rfl) ?_
 refine DG.step (c := ⟨some 14, .ptr bx0 (0 + 0), [(0, .ptr bx0 (0 + 0)), (9, .bool (x0.reader.e != (0 : Int)))], [], []⟩) (fun t hm => One.step rfl (.on rfl rfl hm.s1 a) (OpT.move rfl (dk rfl) hm.s0 rfl)) (Ct.mo rfl rfl) ?_
 refine DG.step (c := ⟨some 15, .ptr bx0 (0 + 0), [(14, .ptr bx0 (0 + 0)), (9, .bool (x0.reader.e != (0 : Int)))], [], []⟩) (fun t hm => One.step rfl (.on rfl rfl hm.s1 a) (OpT.nilCheck rfl (dk rfl) hm.s0 rfl rfl)) (Ct.mo rfl rfl) ?_
 refine DG.step (c := ⟨some 16, .ptr bx0 (0 + 0 + 0), [(15, .ptr bx0 (0 + 0)), (9, .bool (x0.reader.e != (0 : Int)))], [], []⟩) (fun t hm => One.step rfl (.on rfl rfl hm.s1 a) (OpT.fP rfl (dk rfl) ul72 rfl i9 (by decide) hm.s0 rfl)) (Ct.mo rfl rfl) ?_
 refine DG.step (c := ⟨some 17, .str x0.reader.s, [(16, .ptr bx0 (0 + 0 + 0)), (9, .bool (x0.reader.e != (0 : Int)))], [(0, (o74 bx0 x0.reader.s x0.reader.at_ x0.reader.where_ x0.reader.e wx0c1 x0.deep))], []⟩) (fun t hm => One.step rfl (.on rfl rfl hm.s1 a) (OpT.lB (i := 0) rfl (dk rfl) ul9 rfl hm.s0 hm.o0 rfl rfl)) (Ct.mo rfl rfl) ?_
 refine DG.step (c := ⟨some 18, .int .i64 (x0.reader.s.size : Int), [(17, .str x0.reader.s), (9, .bool (x0.reader.e != (0 : Int)))], [], []⟩) (fun t hm => One.step rfl (.on rfl rfl hm.s1 a) (OpT.lenStr rfl (dk rfl) ul9 hm.s0 rfl)) (Ct.mo rfl rfl) ?_
 refine DG.step (c := ⟨some 19, .bool (decide (x0.reader.at_ ≥ (x0.reader.s.size : Int))), [(13, .int .i64 x0.reader.at_), (18, .int .i64 (x0.reader.s.size : Int)), (9, .bool (x0.reader.e != (0 : Int)))], [], []⟩) (fun t hm => One.step rfl (.on rfl rfl hm.s2 a) (OpT.int2 rfl rfl (dk rfl) hm.s0 hm.s1 rfl)) (Ct.mo rfl rfl) ?_
 refine DG.step (c := ⟨some 20, .bool (decide (x0.reader.at_ ≥ (x0.reader.s.size : Int))), [(9, .bool (x0.reader.e != (0 : Int))), (19, .bool (decide (x0.reader.at_ ≥ (x0.reader.s.size : Int))))], [], []⟩) (fun t hm => One.step rfl (.free rfl) (OpT.pickF rfl (dk rfl) hm.s0 a hm.s1 rfl)) (Ct.mo rfl rfl) ?_
 refine DG.fin (s1 := ⟨[(0, .ptr bx0 (0 + 0)), (20, .bool (decide (x0.reader.at_ ≥ (x0.reader.s.size : Int))))], [(o74 bx0 x0.reader.s x0.reader.at_ x0.reader.where_ x0.reader.e wx0c1 x0.deep), .arrA wx0c1 42 9 (x0.nodes.map c_aNd)]⟩) (ms := [0, 1, 3, 7, 15, 31, 63, 127, 255, 511, 63, 1087, 3135, 7231, 15423, 32767, 65535]) TrydMixed rfl (by kernel_rfl) (by kernel_rfl) (by kernel_rfl) (.cons rfl (.cons rfl (.nil _))) rfl (fun u hu => (tN (T.by_turn hu ?_)))
 rcases bif_some h with ⟨b, h⟩ | ⟨b, h⟩
 refine T.condT rfl b ?_
 refine T.by_turn ?_ (syr_peek_j0_T K bx0 x0 x0 wx0c1 h)
 exact Turn.rp (.nil _) (.c .z (.c .z (.n _)))
 refine T.condF rfl b ?_
 refine T.skip (tN ?_)
 refine T.seq ?_
 refine DG.start ?_
 refine DG.mv rfl rfl rfl rfl rfl rfl ?_
 refine DG.step (c := ⟨some 22, .ptr bx0 (0 + 0), [(21, .ptr bx0 (0 + 0))], [], []⟩) (fun t hm => One.step rfl (.free rfl) (OpT.nilCheck rfl (dk rfl) hm.s0 rfl rfl)) (Ct.mo rfl rfl) ?_
 refine DG.step (c := ⟨some 23, .ptr bx0 (0 + 0 + 0), [(22, .ptr bx0 (0 + 0))], [], []⟩) (fun t hm => One.step rfl (.free rfl) (OpT.fP rfl (dk rfl) ul72 rfl i9 (by decide) hm.s0 rfl)) (Ct.mo rfl rfl) ?_
 refine DG.step (c := ⟨some 24, .str x0.reader.s, [(23, .ptr bx0 (0 + 0 + 0))], [(0, (o74 bx0 x0.reader.s x0.reader.at_ x0.reader.where_ x0.reader.e wx0c1 x0.deep))], []⟩) (fun t hm => One.step rfl (.free rfl) (OpT.lB (i := 0) rfl (dk rfl) ul9 rfl hm.s0 hm.o0 rfl rfl)) (Ct.mo rfl rfl) ?_
 refine DG.mv rfl rfl rfl rfl rfl rfl ?_
 refine DG.step (c := ⟨some 26, .ptr bx0 (0 + 0), [(25, .ptr bx0 (0 + 0))], [], []⟩) (fun t hm => One.step rfl (.free rfl) (OpT.nilCheck rfl (dk rfl) hm.s0 rfl rfl)) (Ct.mo rfl rfl) ?_
 refine DG.step (c := ⟨some 27, .ptr bx0 (0 + 0 + 1), [(26, .ptr bx0 (0 + 0))], [], []⟩) (fun t hm => One.step rfl (.free rfl) (OpT.fP rfl (dk rfl) ul72 rfl i3 (by decide) hm.s0 rfl)) (Ct.mo rfl rfl) ?_
 refine DG.step (c := ⟨some 28, .int .i64 x0.reader.at_, [(27, .ptr bx0 (0 + 0 + 1))], [(0, (o74 bx0 x0.reader.s x0.reader.at_ x0.reader.where_ x0.reader.e wx0c1 x0.deep))], []⟩) (fun t hm => One.step rfl (.free rfl) (OpT.lB (i := 0) rfl (dk rfl) ul3 rfl hm.s0 hm.o0 rfl rfl)) (Ct.mo rfl rfl) ?_
 obtain ⟨d, h⟩ := ck_some h
 refine DG.step (c := ⟨some 29, .int .u8 (bt x0.reader.s x0.reader.at_), [(24, .str x0.reader.s), (28, .int .i64 x0.reader.at_)], [], []⟩) (fun t hm => One.step rfl (.free rfl) (OpT.indexStr rfl (dk rfl) ul9 hm.s0 hm.s1 d.1 d.2 rfl)) (Ct.mo rfl rfl) ?_
 refine DG.step (c := ⟨some 2, .int .u8 (bt x0.reader.s x0.reader.at_), [(29, .int .u8 (bt x0.reader.s x0.reader.at_))], [], []⟩) (fun t hm => One.step rfl (.free rfl) (OpT.assign rfl (dk rfl) hm.s0 rfl)) (Ct.mo rfl rfl) ?_
 refine DG.step (c := ⟨some 3, .bool true, [], [], []⟩) (fun t hm => One.step rfl (.free rfl) (OpT.assign rfl (dk rfl) rfl rfl)) (Ct.mo rfl rfl) ?_
 refine DG.fin (s1 := ⟨[(2, .int .u8 (bt x0.reader.s x0.reader.at_)), (3, .bool true)], [(o74 bx0 x0.reader.s x0.reader.at_ x0.reader.where_ x0.reader.e wx0c1 x0.deep), .arrA wx0c1 42 9 (x0.nodes.map c_aNd)]⟩) (ms := [0, 1, 3, 7, 0, 16, 48, 112, 255, 511, 1023]) TrydMixed rfl (by kernel_rfl) (by kernel_rfl) (by kernel_rfl) (.cons rfl (.cons rfl (.nil _))) rfl (fun u hu => (tN (T.by_turn hu ?_)))
 refine T.ret ?_
 exact Fin.doneK (.cons _ _ _ _ (.tmp 2 _ rfl) (.cons _ _ _ _ (.tmp 3 _ rfl) .nil)) (.cons 0 rfl (.cons 0 rfl (.nil _))) (by cases h; exact ⟨gl [wx0c1], rfl, rfl⟩)
abbrev syr_digit_q (bx0 : Nat) (x0 : syp) (r : Bool) : Exit → St → Prop := retS Tryd.prog Tryd.f97 (fun y t => ∃ γ : Nat → Value, y = (.bool r) ∧ t = [(o74 bx0 x0.reader.s x0.reader.at_ x0.reader.where_ x0.reader.e (γ 0) x0.deep), .arrA (γ 0) 42 9 (x0.nodes.map c_aNd)])
theorem syr_digit_T (K : Nat) {x0 : syp} {x1 : Int} {bx0 : Nat} {wx0c1 : Value} {r : Bool} (h : syr_digit K x0 x1 = some r) : CallG Tryd.prog 97 [.ptr bx0 (0 + 0), .int .i64 x1] [(o74 bx0 x0.reader.s x0.reader.at_ x0.reader.where_ x0.reader.e wx0c1 x0.deep), .arrA wx0c1 42 9 (x0.nodes.map c_aNd)] (fun γ => (.bool r)) (fun γ => [(o74 bx0 x0.reader.s x0.reader.at_ x0.reader.where_ x0.reader.e (γ 0) x0.deep), .arrA (γ 0) 42 9 (x0.nodes.map c_aNd)]) := by
 refine CallT.intro Tryd.func97 rfl (nb rfl) ?_
 show T Tryd.prog 38 (Code.at [] (codeOf Tryd.f97)) ⟨paramSlots 0 [.ptr bx0 (0 + 0), .int .i64 x1], [(o74 bx0 x0.reader.s x0.reader.at_ x0.reader.where_ x0.reader.e wx0c1 x0.deep), .arrA wx0c1 42 9 (x0.nodes.map c_aNd)]⟩ (syr_digit_q bx0 x0 r)
 unfold syr_digit at h
 refine T.seq (T.rL ?_)
 refine aw rfl ?_
 refine TL'.nil (tN ?_)
 refine T.seq ?_
 refine DG.start ?_
 refine DG.mv rfl rfl rfl rfl rfl rfl ?_
 refine DG.step (c := ⟨some 6, .ptr bx0 (0 + 0), [(5, .ptr bx0 (0 + 0))], [], []⟩) (fun t hm => One.step rfl (.free rfl) (OpT.nilCheck rfl (dk rfl) hm.s0 rfl rfl)) (Ct.mo rfl rfl) ?_
 refine DG.step (c := ⟨some 7, .ptr bx0 (0 + 0 + 3), [(6, .ptr bx0 (0 + 0))], [], []⟩) (fun t hm => One.step rfl (.free rfl) (OpT.fP rfl (dk rfl) ul72 rfl i35 (by decide) hm.s0 rfl)) (Ct.mo rfl rfl) ?_
 refine DG.step (c := ⟨some 8, .int .i64 x0.reader.e, [(7, .ptr bx0 (0 + 0 + 3))], [(0, (o74 bx0 x0.reader.s x0.reader.at_ x0.reader.where_ x0.reader.e wx0c1 x0.deep))], []⟩) (fun t hm => One.step rfl (.free rfl) (OpT.lB (i := 0) rfl (dk rfl) ul35 rfl hm.s0 hm.o0 rfl rfl)) (Ct.mo rfl rfl) ?_
 refine DG.step (c := ⟨some 9, .bool (x0.reader.e == (0 : Int)), [(8, .int .i64 x0.reader.e)], [], []⟩) (fun t hm => One.step rfl (.free rfl) (OpT.int2 rfl rfl (dk rfl) hm.s0 rfl rfl)) (Ct.mo rfl rfl) ?_
 refine DG.mv rfl rfl rfl rfl rfl rfl ?_
 rcases bif_some h with ⟨a, h⟩ | ⟨a, h⟩
 refine DG.step (c := ⟨some 11, .ptr bx0 (0 + 0), [(0, .ptr bx0 (0 + 0)), (10, .bool (x0.reader.e == (0 : Int)))], [], []⟩) (fun t hm => One.step rfl (.on rfl rfl hm.s1 a) (OpT.move rfl (dk rfl) hm.s0 rfl)) (Ct.mo rfl rfl) ?_
 refine DG.step (c := ⟨some 12, .ptr bx0 (0 + 0), [(11, .ptr bx0 (0 + 0)), (10, .bool (x0.reader.e == (0 : Int)))], [], []⟩) (fun t hm => One.step rfl (.on rfl rfl hm.s1 a) (OpT.nilCheck rfl (dk rfl) hm.s0 rfl rfl)) (Ct.mo rfl rfl) ?_
 refine DG.step (c := ⟨some 13, .ptr bx0 (0 + 0 + 1), [(12, .ptr bx0 (0 + 0)), (10, .bool (x0.reader.e == (0 : Int)))], [], []⟩) (fun t hm => One.step rfl (.on rfl rfl hm.s1 a) (OpT.fP rfl (dk rfl) ul72 rfl i3 (by decide) hm.s0 rfl)) (Ct.mo rfl rfl) ?_
 refine DG.step (c := ⟨some 14, .int .i64 x0.reader.at_, [(13, .ptr bx0 (0 + 0 + 1)), (10, .bool (x0.reader.e == (0 : Int)))], [(0, (o74 bx0 x0.reader.s x0.reader.at_ x0.reader.where_ x0.reader.e wx0c1 x0.deep))], []⟩) (fun t hm => One.step rfl (.on rfl rfl hm.s1 a) (OpT.lB (i := 0) rfl (dk rfl) ul3 rfl hm.s0 hm.o0 rfl rfl)) (Ct.mo rfl rfl) ?_
 refine DG.step (c := ⟨some 15, .int .i64 x1, [(1, .int .i64 x1), (10, .bool (x0.reader.e == (0 : Int)))], [], []⟩) (fun t hm => One.step rfl (.on rfl rfl hm.s1 a) (OpT.move rfl (dk rfl) hm.s0 rfl)) (Ct.mo rfl rfl) ?_
 refine DG.step (c := ⟨some 16, .int .i64 (wI (x0.reader.at_ + x1)), [(14, .int .i64 x0.reader.at_), (15, .int .i64 x1), (10, .bool (x0.reader.e == (0 : Int)))], [], []⟩) (fun t hm => One.step rfl (.on rfl rfl hm.s2 a) (OpT.int2 rfl rfl (dk rfl) hm.s0 hm.s1 rfl)) (Ct.mo rfl rfl) ?_
 refine DG.step (c := ⟨some 17, .ptr bx0 (0 + 0), [(0, .ptr bx0 (0 + 0)), (10, .bool (x0.reader.e == (0 : Int)))], [], []⟩) (fun t hm => One.step rfl (.on rfl rfl hm.s1 a) (OpT.move rfl (dk rfl) hm.s0 rfl)) (Ct.mo rfl rfl) ?_
 refine DG.step (c := ⟨some 18, .ptr bx0 (0 + 0), [(17, .ptr bx0 (0 + 0)), (10, .bool (x0.reader.e == (0 : Int)))], [], []⟩) (fun t hm => One.step rfl (.on rfl rfl hm.s1 a) (OpT.nilCheck rfl (dk rfl) hm.s0 rfl rfl)) (Ct.mo rfl rfl) ?_
 refine DG.step (c := ⟨some 19, .ptr bx0 (0 + 0 + 0), [(18, .ptr bx0 (0 + 0)), (10, .bool (x0.reader.e == (0 : Int)))], [], []⟩) (fun t hm => One.step rfl (.on rfl rfl hm.s1 a) (OpT.fP rfl (dk rfl) ul72 rfl i9 (by decide) hm.s0 rfl)) (Ct.mo rfl rfl) ?_
 refine DG.step (c := ⟨some 20, .str x0.reader.s, [(19, .ptr bx0 (0 + 0 + 0)), (10, .bool (x0.reader.e == (0 : Int)))], [(0, (o74 bx0 x0.reader.s x0.reader.at_ x0.reader.where_ x0.reader.e wx0c1 x0.deep))], []⟩) (fun t hm => One.step rfl (.on rfl rfl hm.s1 a) (OpT.lB (i := 0) rfl (dk rfl) ul9 rfl hm.s0 hm.o0 rfl rfl)) (Ct.mo rfl rfl) ?_
 refine DG.step (c := ⟨some 21, .int .i64 (x0.reader.s.size : Int), [(20, .str x0.reader.s), (10, .bool (x0.reader.e == (0 : Int)))], [], []⟩) (fun t hm => One.step rfl (.on rfl rfl hm.s1 a) (OpT.lenStr rfl (dk rfl) ul9 hm.s0 rfl)) (Ct.mo rfl rfl) ?_
 refine DG.step (c := ⟨some 22, .bool (decide ((wI (x0.reader.at_ + x1)) < (x0.reader.s.size : Int))), [(16, .int .i64 (wI (x0.reader.at_ + x1))), (21, .int .i64 (x0.reader.s.size : Int)), (10, .bool (x0.reader.e == (0 : Int)))], [], []⟩) (fun t hm => One.step rfl (.on rfl rfl hm.s2 a) (OpT.int2 rfl rfl (dk rfl) hm.s0 hm.s1 rfl)) (Ct.mo rfl rfl) ?_
 refine DG.step (c := ⟨some 23, .bool (decide ((wI (x0.reader.at_ + x1)) < (x0.reader.s.size : Int))), [(10, .bool (x0.reader.e == (0 : Int))), (22, .bool (decide ((wI (x0.reader.at_ + x1)) < (x0.reader.s.size : Int))))], [], []⟩) (fun t hm => One.step rfl (.free rfl) (OpT.pickT rfl (dk rfl) hm.s0 a hm.s1 rfl)) (Ct.mo rfl rfl) ?_
 refine DG.mv rfl rfl rfl rfl rfl rfl ?_
 rcases bif_some h with ⟨b, h⟩ | ⟨b, h⟩
 refine DG.step (c := ⟨some 25, .ptr bx0 (0 + 0), [(0, .ptr bx0 (0 + 0)), (24, .bool (decide ((wI (x0.reader.at_ + x1)) < (x0.reader.s.size : Int))))], [], []⟩) (fun t hm => One.step rfl (.on rfl rfl hm.s1 b) (OpT.move rfl (dk rfl) hm.s0 rfl)) (Ct.mo rfl rfl) ?_
 refine DG.step (c := ⟨some 26, .ptr bx0 (0 + 0), [(25, .ptr bx0 (0 + 0)), (24, .bool (decide ((wI (x0.reader.at_ + x1)) < (x0.reader.s.size : Int))))], [], []⟩) (fun t hm => One.step rfl (.on rfl rfl hm.s1 b) (OpT.nilCheck rfl (dk rfl) hm.s0 rfl rfl)) (Ct.mo rfl rfl) ?_
 refine DG.step (c := ⟨some 27, .ptr bx0 (0 + 0 + 0), [(26, .ptr bx0 (0 + 0)), (24, .bool (decide ((wI (x0.reader.at_ + x1)) < (x0.reader.s.size : Int))))], [], []⟩) (fun t hm => One.step rfl (.on rfl rfl hm.s1 b) (OpT.fP rfl (dk rfl) ul72 rfl i9 (by decide) hm.s0 rfl)) (Ct.mo rfl rfl) ?_
 refine DG.step (c := ⟨some 28, .str x0.reader.s, [(27, .ptr bx0 (0 + 0 + 0)), (24, .bool (decide ((wI (x0.reader.at_ + x1)) < (x0.reader.s.size : Int))))], [(0, (o74 bx0 x0.reader.s x0.reader.at_ x0.reader.where_ x0.reader.e wx0c1 x0.deep))], []⟩) (fun t hm => One.step rfl (.on rfl rfl hm.s1 b) (OpT.lB (i := 0) rfl (dk rfl) ul9 rfl hm.s0 hm.o0 rfl rfl)) (Ct.mo rfl rfl) ?_
 refine DG.step (c := ⟨some 29, .ptr bx0 (0 + 0), [(0, .ptr bx0 (0 + 0)), (24, .bool (decide ((wI (x0.reader.at_ + x1)) < (x0.reader.s.size : Int))))], [], []⟩) (fun t hm => One.step rfl (.on rfl rfl hm.s1 b) (OpT.move rfl (dk rfl) hm.s0 rfl)) (Ct.mo rfl rfl) ?_
 refine DG.step (c := ⟨some 30, .ptr bx0 (0 + 0), [(29, .ptr bx0 (0 + 0)), (24, .bool (decide ((wI (x0.reader.at_ + x1)) < (x0.reader.s.size : Int))))], [], []⟩) (fun t hm => One.step rfl (.on rfl rfl hm.s1 b) (OpT.nilCheck rfl (dk rfl) hm.s0 rfl rfl)) (Ct.mo rfl rfl) ?_
 refine DG.step (c := ⟨some 31, .ptr bx0 (0 + 0 + 1), [(30, .ptr bx0 (0 + 0)), (24, .bool (decide ((wI (x0.reader.at_ + x1)) < (x0.reader.s.size : Int))))], [], []⟩) (fun t hm => One.step rfl (.on rfl rfl hm.s1 b) (OpT.fP rfl (dk rfl) ul72 rfl i3 (by decide) hm.s0 rfl)) (Ct.mo rfl rfl) ?_
 refine DG.step (c := ⟨some 32, .int .i64 x0.reader.at_, [(31, .ptr bx0 (0 + 0 + 1)), (24, .bool (decide ((wI (x0.reader.at_ + x1)) < (x0.reader.s.size : Int))))], [(0, (o74 bx0 x0.reader.s x0.reader.at_ x0.reader.where_ x0.reader.e wx0c1 x0.deep))], []⟩) (fun t hm => One.step rfl (.on rfl rfl hm.s1 b) (OpT.lB (i := 0) rfl (dk rfl) ul3 rfl hm.s0 hm.o0 rfl rfl)) (Ct.mo rfl rfl) ?_
 refine DG.step (c := ⟨some 33, .int .i64 x1, [(1, .int .i64 x1), (24, .bool (decide ((wI (x0.reader.at_ + x1)) < (x0.reader.s.size : Int))))], [], []⟩) (fun t hm => One.step rfl (.on rfl rfl hm.s1 b) (OpT.move rfl (dk rfl) hm.s0 rfl)) (Ct.mo rfl rfl) ?_
 refine DG.step (c := ⟨some 34, .int .i64 (wI (x0.reader.at_ + x1)), [(32, .int .i64 x0.reader.at_), (33, .int .i64 x1), (24, .bool (decide ((wI (x0.reader.at_ + x1)) < (x0.reader.s.size : Int))))], [], []⟩) (fun t hm => One.step rfl (.on rfl rfl hm.s2 b) (OpT.int2 rfl rfl (dk rfl) hm.s0 hm.s1 rfl)) (Ct.mo rfl rfl) ?_
 obtain ⟨f, h⟩ := ck_some h
 refine DG.step (c := ⟨some 35, .int .u8 (bt x0.reader.s (wI (x0.reader.at_ + x1))), [(28, .str x0.reader.s), (34, .int .i64 (wI (x0.reader.at_ + x1))), (24, .bool (decide ((wI (x0.reader.at_ + x1)) < (x0.reader.s.size : Int))))], [], []⟩) (fun t hm => One.step rfl (.on rfl rfl hm.s2 b) (OpT.indexStr rfl (dk rfl) ul9 hm.s0 hm.s1 f.1 f.2 rfl)) (Ct.mo rfl rfl) ?_
 obtain ⟨d, g, h⟩ := bind_some h
 refine DG.step (c := ⟨some 36, .bool d, [(35, .int .u8 (bt x0.reader.s (wI (x0.reader.at_ + x1)))), (24, .bool (decide ((wI (x0.reader.at_ + x1)) < (x0.reader.s.size : Int))))], [], []⟩) (fun t hm => One.step rfl (.on rfl rfl hm.s1 b) (OpT.callPA rfl (dk rfl) Tryd.func74 rfl rfl (Args.cons hm.s0 Args.nil) (CallR.nil (sy_digit_T K g)) rfl)) (Ct.mo rfl rfl) ?_
 refine DG.step (c := ⟨some 37, .bool d, [(24, .bool (decide ((wI (x0.reader.at_ + x1)) < (x0.reader.s.size : Int)))), (36, .bool d)], [], []⟩) (fun t hm => One.step rfl (.free rfl) (OpT.pickT rfl (dk rfl) hm.s0 b hm.s1 rfl)) (Ct.mo rfl rfl) ?_
 refine DG.step (c := ⟨some 4, .bool d, [(37, .bool d)], [], []⟩) (fun t hm => One.step rfl (.free rfl) (OpT.assign rfl (dk rfl) hm.s0 rfl)) (Ct.mo rfl rfl) ?_
 refine DG.fin (s1 := ⟨[(4, .bool d)], [(o74 bx0 x0.reader.s x0.reader.at_ x0.reader.where_ x0.reader.e wx0c1 x0.deep), .arrA wx0c1 42 9 (x0.nodes.map c_aNd)]⟩) (ms := [0, 1, 3, 7, 15, 31, 63, 127, 255, 511, 63, 2047, 63, 4159, 12351, 28735, 61503, 131071, 262143, 524287, 1048575, 2097151, 4194303, 8388607, 1048575, 17825791, 51380223, 118489087, 1048575, 521142271, 1073741823, 2147483647, 4294967295, 8589934591]) TrydMixed rfl (by kernel_rfl) (by kernel_rfl) (by kernel_rfl) (.cons rfl (.nil _)) rfl (fun u hu => (tN (T.by_turn hu ?_)))
 refine T.ret ?_
 exact Fin.doneK (.cons _ _ _ _ (.tmp 4 _ rfl) .nil) (.cons 0 rfl (.cons 0 rfl (.nil _))) (by cases h; exact ⟨gl [wx0c1], rfl, rfl⟩)
 refine DG.off b rfl rfl rfl rfl rfl rfl ?_
 refine DG.off b rfl rfl rfl rfl rfl rfl ?_
 refine DG.off b rfl rfl rfl rfl rfl rfl ?_
 refine DG.off b rfl rfl rfl rfl rfl rfl ?_
 refine DG.off b rfl rfl rfl rfl rfl rfl ?_
 refine DG.off b rfl rfl rfl rfl rfl rfl ?_
 refine DG.off b rfl rfl rfl rfl rfl rfl ?_
 refine DG.off b rfl rfl rfl rfl rfl rfl ?_
 refine DG.off b rfl rfl rfl rfl rfl rfl ?_
 refine DG.off b rfl rfl rfl rfl rfl rfl ?_
 refine DG.off b rfl rfl rfl rfl rfl rfl ?_
 refine DG.off b rfl rfl rfl rfl rfl rfl ?_
 refine DG.step (c := ⟨some 37, .bool false, [(24, .bool (decide ((wI (x0.reader.at_ + x1)) < (x0.reader.s.size : Int))))], [], []⟩) (fun t hm => One.step rfl (.free rfl) (OpT.pickF rfl (dk rfl) hm.s0 b rfl rfl)) (Ct.mo rfl rfl) ?_
 refine DG.step (c := ⟨some 4, .bool false, [(37, .bool false)], [], []⟩) (fun t hm => One.step rfl (.free rfl) (OpT.assign rfl (dk rfl) hm.s0 rfl)) (Ct.mo rfl rfl) ?_
 refine DG.fin (s1 := ⟨[(4, .bool false)], [(o74 bx0 x0.reader.s x0.reader.at_ x0.reader.where_ x0.reader.e wx0c1 x0.deep), .arrA wx0c1 42 9 (x0.nodes.map c_aNd)]⟩) (ms := [0, 1, 3, 7, 15, 31, 63, 127, 255, 511, 63, 2047, 63, 4159, 12351, 28735, 61503, 131071, 262143, 524287, 1048575, 2097151, 4194303, 8388607, 1048575, 17825791, 51380223, 118489087, 1048575, 521142271, 1073741823, 2147483647, 4294967295, 8589934591]) TrydMixed rfl (by kernel_rfl) (by kernel_rfl) (by kernel_rfl) (.cons rfl (.nil _)) rfl (fun u hu => (tN (T.by_turn hu ?_)))
 refine T.ret ?_
 exact Fin.doneK (.cons _ _ _ _ (.tmp 4 _ rfl) .nil) (.cons 0 rfl (.cons 0 rfl (.nil _))) (by cases h; exact ⟨gl [wx0c1], rfl, rfl⟩)
 refine DG.off a rfl rfl rfl rfl rfl rfl ?_
 refine DG.off a rfl rfl rfl rfl rfl rfl ?_
 refine DG.off a rfl rfl rfl rfl rfl rfl ?_
 refine DG.off a rfl rfl rfl rfl rfl rfl ?_
 refine DG.off a rfl rfl rfl rfl rfl rfl ?_
 refine DG.off a rfl rfl rfl rfl rfl rfl ?_
 refine DG.off a rfl rfl rfl rfl rfl rfl ?_
 refine DG.off a rfl rfl rfl rfl rfl rfl ?_
 refine DG.off a rfl rfl rfl rfl rfl rfl ?_
 refine DG.off a rfl rfl rfl rfl rfl rfl ?_
 refine DG.off a rfl rfl rfl rfl rfl rfl ?_
 refine DG.off a rfl rfl rfl rfl rfl rfl ?_
 refine DG.step (c := ⟨some 23, .bool false, [(10, .bool (x0.reader.e == (0 : Int)))], [], []⟩) (fun t hm => One.step rfl (.free rfl) (OpT.pickF rfl (dk rfl) hm.s0 a rfl rfl)) (Ct.mo rfl rfl) ?_
 refine DG.mv rfl rfl rfl rfl rfl rfl ?_
 refine DG.off rfl rfl rfl rfl rfl rfl rfl ?_
 refine DG.off rfl rfl rfl rfl rfl rfl rfl ?_
 refine DG.off rfl rfl rfl rfl rfl rfl rfl ?_
 refine DG.off rfl rfl rfl rfl rfl rfl rfl ?_
 refine DG.off rfl rfl rfl rfl rfl rfl rfl ?_
 refine DG.off rfl rfl rfl rfl rfl rfl rfl ?_
 refine DG.off rfl rfl rfl rfl rfl rfl rfl ?_
 refine DG.off rfl rfl rfl rfl rfl rfl rfl ?_
 refine DG.off rfl rfl rfl rfl rfl rfl rfl ?_
 refine DG.off rfl rfl rfl rfl rfl rfl rfl ?_
 refine DG.off rfl rfl rfl rfl rfl rfl rfl ?_
 refine DG.off rfl rfl rfl rfl rfl rfl rfl ?_
 refine DG.step (c := ⟨some 37, .bool false, [(24, .bool false)], [], []⟩) (fun t hm => One.step rfl (.free rfl) (OpT.pickF rfl (dk rfl) hm.s0 rfl rfl rfl)) (Ct.mo rfl rfl) ?_
 refine DG.step (c := ⟨some 4, .bool false, [(37, .bool false)], [], []⟩) (fun t hm => One.step rfl (.free rfl) (OpT.assign rfl (dk rfl) hm.s0 rfl)) (Ct.mo rfl rfl) ?_
 refine DG.fin (s1 := ⟨[(4, .bool false)], [(o74 bx0 x0.reader.s x0.reader.at_ x0.reader.where_ x0.reader.e wx0c1 x0.deep), .arrA wx0c1 42 9 (x0.nodes.map c_aNd)]⟩) (ms := [0, 1, 3, 7, 15, 31, 63, 127, 255, 511, 63, 2047, 63, 4159, 12351, 28735, 61503, 131071, 262143, 524287, 1048575, 2097151, 4194303, 8388607, 1048575, 17825791, 51380223, 118489087, 1048575, 521142271, 1073741823, 2147483647, 4294967295, 8589934591]) TrydMixed rfl (by kernel_rfl) (by kernel_rfl) (by kernel_rfl) (.cons rfl (.nil _)) rfl (fun u hu => (tN (T.by_turn hu ?_)))
 refine T.ret ?_
 exact Fin.doneK (.cons _ _ _ _ (.tmp 4 _ rfl) .nil) (.cons 0 rfl (.cons 0 rfl (.nil _))) (by cases h; exact ⟨gl [wx0c1], rfl, rfl⟩)
abbrev syr_fail_q (bx0 : Nat) (r : syp) : Exit → St → Prop := retS Tryd.prog Tryd.f40 (fun y t => ∃ γ : Nat → Value, y = (.tup []) ∧ t = [(o74 bx0 r.reader.s r.reader.at_ r.reader.where_ r.reader.e (γ 0) r.deep), .arrA (γ 0) 42 9 (r.nodes.map c_aNd)])
theorem syr_fail_T (K : Nat) {x0 : syp} {x1 : Int} {x2 : Int} {bx0 : Nat} {wx0c1 : Value} {r : syp} (h : syr_fail K x0 x1 x2 = some r) : CallG Tryd.prog 40 [.ptr bx0 (0 + 0), .int .i64 x1, .int .i64 x2] [(o74 bx0 x0.reader.s x0.reader.at_ x0.reader.where_ x0.reader.e wx0c1 x0.deep), .arrA wx0c1 42 9 (x0.nodes.map c_aNd)] (fun γ => (.tup [])) (fun γ => [(o74 bx0 r.reader.s r.reader.at_ r.reader.where_ r.reader.e (γ 0) r.deep), .arrA (γ 0) 42 9 (r.nodes.map c_aNd)]) := by
 refine CallT.intro Tryd.func40 rfl (nb rfl) ?_
 show T Tryd.prog 19 (Code.at [] (codeOf Tryd.f40)) ⟨paramSlots 0 [.ptr bx0 (0 + 0), .int .i64 x1, .int .i64 x2], [(o74 bx0 x0.reader.s x0.reader.at_ x0.reader.where_ x0.reader.e wx0c1 x0.deep), .arrA wx0c1 42 9 (x0.nodes.map c_aNd)]⟩ (syr_fail_q bx0 r)
 unfold syr_fail at h
 refine T.seq (T.rL ?_)
 refine mw rfl ?_
 refine sp rfl (OpT.nilCheck rfl (dk rfl) rfl rfl ?_)
 refine sp rfl (OpT.fP rfl (dk rfl) ul72 rfl i35 (by decide) rfl ?_)
 refine sp rfl (OpT.lB (i := 0) rfl (dk rfl) ul35 rfl rfl rfl rfl ?_)
 refine sp rfl (OpT.int2 rfl rfl (dk rfl) rfl rfl ?_)
 refine TL'.nil (tN ?_)
 rcases bif_some h with ⟨a, h⟩ | ⟨a, h⟩
 refine T.condT rfl a ?_
 refine T.rL ?_
 refine mw rfl ?_
 refine mw rfl ?_
 refine mw rfl ?_
 refine mw rfl ?_
 refine sp rfl (OpT.nilCheck rfl (dk rfl) rfl rfl ?_)
 refine sp rfl (OpT.fP rfl (dk rfl) ul72 rfl i35 (by decide) rfl ?_)
 refine sp rfl (OpT.sT (i := 0) (cells' := [.d (.str x0.reader.s), .d (.int .i64 x0.reader.at_), .d (.int .i64 x0.reader.where_), .d (.int .i64 x1), .d (.ex wx0c1), .d (.int .i64 x0.deep)]) rfl rfl i35 rfl rfl rfl (nb rfl) rfl ?_)
 refine sp rfl (OpT.nilCheck rfl (dk rfl) rfl rfl ?_)
 refine sp rfl (OpT.fP rfl (dk rfl) ul72 rfl i3 (by decide) rfl ?_)
 refine sp rfl (OpT.sT (i := 0) (cells' := [.d (.str x0.reader.s), .d (.int .i64 x0.reader.at_), .d (.int .i64 x2), .d (.int .i64 x1), .d (.ex wx0c1), .d (.int .i64 x0.deep)]) rfl rfl i3 rfl rfl rfl (nb rfl) rfl ?_)
 refine TL'.nil ?_
 exact Fin.doneK (.nil) (.cons 0 rfl (.cons 0 rfl (.nil _))) (by cases h; exact ⟨gl [wx0c1], rfl, rfl⟩)
 refine T.condF rfl a ?_
 refine T.skip ?_
 exact Fin.doneK (.nil) (.cons 0 rfl (.cons 0 rfl (.nil _))) (by cases h; exact ⟨gl [wx0c1], rfl, rfl⟩)
end Go.Rv

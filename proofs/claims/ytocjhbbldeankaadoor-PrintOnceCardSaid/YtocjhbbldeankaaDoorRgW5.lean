/- Each function computes what its plain text says: printed by a program of ours. -/
import Derived.Test.YtocjhbbldeankaaDoorRgW4
namespace Go.Rv
open Go.Proofs
set_option maxRecDepth 100000
set_option maxHeartbeats 4000000
set_option linter.unusedVariables false
abbrev syr_next_q (bx0 : Nat) (r : Int × syp) : Exit → St → Prop := retS Tryd.prog Tryd.f96 (fun y t => ∃ γ : Nat → Value, y = (.int .u8 r.1) ∧ t = [(o74 bx0 r.2.reader.s r.2.reader.at_ r.2.reader.where_ r.2.reader.e (γ 0) r.2.deep), .arrA (γ 0) 42 9 (r.2.nodes.map c_aNd)])
theorem syr_next_T (K : Nat) {x0 : syp} {bx0 : Nat} {wx0c1 : Value} {r : Int × syp} (h : syr_next K x0 = some r) : CallG Tryd.prog 96 [.ptr bx0 (0 + 0)] [(o74 bx0 x0.reader.s x0.reader.at_ x0.reader.where_ x0.reader.e wx0c1 x0.deep), .arrA wx0c1 42 9 (x0.nodes.map c_aNd)] (fun γ => (.int .u8 r.1)) (fun γ => [(o74 bx0 r.2.reader.s r.2.reader.at_ r.2.reader.where_ r.2.reader.e (γ 0) r.2.deep), .arrA (γ 0) 42 9 (r.2.nodes.map c_aNd)]) := by
 refine CallT.intro Tryd.func96 rfl (nb rfl) ?_
 show T Tryd.prog 27 (Code.at [] (codeOf Tryd.f96)) ⟨paramSlots 0 [.ptr bx0 (0 + 0)], [(o74 bx0 x0.reader.s x0.reader.at_ x0.reader.where_ x0.reader.e wx0c1 x0.deep), .arrA wx0c1 42 9 (x0.nodes.map c_aNd)]⟩ (syr_next_q bx0 r)
 unfold syr_next at h
 refine T.seq (T.rL ?_)
 refine aw rfl ?_
 refine TL'.nil (tN (T.seq (T.rL ?_)))
 refine mw rfl ?_
 obtain ⟨l, f, h⟩ := bind_some h
 refine sp rfl (OpT.callG (is := [0, 1]) (ph := []) rfl (dk rfl) Tryd.func39 rfl rfl (Args.cons rfl Args.nil) (syr_peek_T K (bx0 := bx0) (wx0c1 := wx0c1) f) (.cons rfl rfl (.cons rfl rfl (.nil))) (fun _ => rfl) (fun a => ?_))
 refine nm (.c (.c (.n))) ?_
 refine mw rfl ?_
 refine sp rfl (OpT.extract rfl (dk rfl) rfl rfl ?_)
 refine sp rfl (OpT.extract rfl (dk rfl) rfl rfl ?_)
 refine aw rfl ?_
 refine aw rfl ?_
 refine TL'.nil (tN ?_)
 refine T.seq ?_
 refine T.seq (T.rL ?_)
 refine mw rfl ?_
 refine sp rfl (OpT.not rfl (dk rfl) rfl ?_)
 refine TL'.nil (tN ?_)
 rcases bif_some h with ⟨b, h⟩ | ⟨b, h⟩
 refine T.condT rfl b ?_
 refine T.seq (T.rL ?_)
 refine mw rfl ?_
 refine mw rfl ?_
 refine sp rfl (OpT.nilCheck rfl (dk rfl) rfl rfl ?_)
 refine sp rfl (OpT.fP rfl (dk rfl) ul72 rfl i9 (by decide) rfl ?_)
 refine sp rfl (OpT.lB (i := 0) rfl (dk rfl) ul9 rfl rfl rfl rfl ?_)
 refine sp rfl (OpT.lenStr rfl (dk rfl) ul9 rfl ?_)
 obtain ⟨m, g, h⟩ := bind_some h
 refine sp rfl (OpT.callG (is := [0, 1]) (ph := []) rfl (dk rfl) Tryd.func40 rfl rfl (Args.cons rfl (Args.cons rfl (Args.cons rfl Args.nil))) (syr_fail_T K (bx0 := bx0) (wx0c1 := (a 0)) g) (.cons rfl rfl (.cons rfl rfl (.nil))) (fun _ => rfl) (fun j => ?_))
 refine nm (.c (.c (.n))) ?_
 refine TL'.nil (tN (T.seq (T.rL ?_)))
 refine aw rfl ?_
 refine TL'.nil (tN ?_)
 refine T.ret (thenS_ret ?_)
 exact Fin.doneK (.cons _ _ _ _ (.tmp 2 _ rfl) .nil) (.cons 0 rfl (.cons 0 rfl (.nil _))) (by cases h; exact ⟨gl [j 0], rfl, rfl⟩)
 refine T.condF rfl b ?_
 refine T.skip (tN ?_)
 refine T.seq (T.rL ?_)
 refine mw rfl ?_
 refine sp rfl (OpT.nilCheck rfl (dk rfl) rfl rfl ?_)
 refine sp rfl (OpT.fP rfl (dk rfl) ul72 rfl i3 (by decide) rfl ?_)
 refine sp rfl (OpT.lB (i := 0) rfl (dk rfl) ul3 rfl rfl rfl rfl ?_)
 refine sp rfl (OpT.int2 rfl rfl (dk rfl) rfl rfl ?_)
 refine sp rfl (OpT.nilCheck rfl (dk rfl) rfl rfl ?_)
 refine sp rfl (OpT.fP rfl (dk rfl) ul72 rfl i3 (by decide) rfl ?_)
 refine sp rfl (OpT.sT (i := 0) (cells' := [.d (.str x0.reader.s), .d (.int .i64 (wI (x0.reader.at_ + (1 : Int)))), .d (.int .i64 x0.reader.where_), .d (.int .i64 x0.reader.e), .d (.ex (a 0)), .d (.int .i64 x0.deep)]) rfl rfl i3 rfl rfl rfl (nb rfl) rfl ?_)
 refine TL'.nil (tN (T.seq (T.rL ?_)))
 refine mw rfl ?_
 refine aw rfl ?_
 refine TL'.nil (tN ?_)
 refine T.ret ?_
 exact Fin.doneK (.cons _ _ _ _ (.tmp 2 _ rfl) .nil) (.cons 0 rfl (.cons 0 rfl (.nil _))) (by cases h; exact ⟨gl [a 0], rfl, rfl⟩)
abbrev sy_nibble_q (r : Int × Bool) : Exit → St → Prop := retS Tryd.prog Tryd.f118 (fun y t => y = (.tup [.int .u8 r.1, .bool r.2]) ∧ t = [])
theorem sy_nibble_T (K : Nat) {x0 : Int} {r : Int × Bool} (h : sy_nibble K x0 = some r) : CallR Tryd.prog 118 [.int .u8 x0] [] (.tup [.int .u8 r.1, .bool r.2]) := by
 refine CallT.intro Tryd.func118 rfl (nb rfl) ?_
 show T Tryd.prog 12 (Code.at [] (codeOf Tryd.f118)) ⟨paramSlots 0 [.int .u8 x0], []⟩ (sy_nibble_q r)
 unfold sy_nibble at h
 refine T.seq (T.rL ?_)
 refine aw rfl ?_
 refine aw rfl ?_
 refine TL'.nil (tN (T.seq (T.rL ?_)))
 refine mw rfl ?_
 obtain ⟨b, a, h⟩ := bind_some h
 refine sp rfl (OpT.callPA rfl (dk rfl) Tryd.func26 rfl rfl (Args.cons rfl (Args.cons rfl Args.nil)) (CallR.nil (strings_IndexByte_T K a)) ?_)
 refine aw rfl ?_
 refine TL'.nil (tN (T.seq (T.rL ?_)))
 refine mw rfl ?_
 refine sp rfl (OpT.max2 rfl (dk rfl) rfl rfl ?_)
 refine sp rfl (OpT.convInt rfl (dk rfl) ul3 ul5 rfl ?_)
 refine mw rfl ?_
 refine sp rfl (OpT.int2 rfl rfl (dk rfl) rfl rfl ?_)
 refine aw rfl ?_
 refine aw rfl ?_
 refine TL'.nil (tN ?_)
 refine T.ret ?_
 exact Fin.done (.cons _ _ _ _ (.tmp 2 _ rfl) (.cons _ _ _ _ (.tmp 3 _ rfl) .nil)) (by cases h; exact ⟨rfl, rfl⟩)
abbrev syr_pair_q (bx0 : Nat) (r : Int × Bool × syp) : Exit → St → Prop := retS Tryd.prog Tryd.f117 (fun y t => ∃ γ : Nat → Value, y = (.tup [.int .u8 r.1, .bool r.2.1]) ∧ t = [(o74 bx0 r.2.2.reader.s r.2.2.reader.at_ r.2.2.reader.where_ r.2.2.reader.e (γ 0) r.2.2.deep), .arrA (γ 0) 42 9 (r.2.2.nodes.map c_aNd)])
theorem syr_pair_T (K : Nat) {x0 : syp} {bx0 : Nat} {wx0c1 : Value} {r : Int × Bool × syp} (h : syr_pair K x0 = some r) : CallG Tryd.prog 117 [.ptr bx0 (0 + 0)] [(o74 bx0 x0.reader.s x0.reader.at_ x0.reader.where_ x0.reader.e wx0c1 x0.deep), .arrA wx0c1 42 9 (x0.nodes.map c_aNd)] (fun γ => (.tup [.int .u8 r.1, .bool r.2.1])) (fun γ => [(o74 bx0 r.2.2.reader.s r.2.2.reader.at_ r.2.2.reader.where_ r.2.2.reader.e (γ 0) r.2.2.deep), .arrA (γ 0) 42 9 (r.2.2.nodes.map c_aNd)]) := by
 refine CallT.intro Tryd.func117 rfl (nb rfl) ?_
 show T Tryd.prog 46 (Code.at [] (codeOf Tryd.f117)) ⟨paramSlots 0 [.ptr bx0 (0 + 0)], [(o74 bx0 x0.reader.s x0.reader.at_ x0.reader.where_ x0.reader.e wx0c1 x0.deep), .arrA wx0c1 42 9 (x0.nodes.map c_aNd)]⟩ (syr_pair_q bx0 r)
 unfold syr_pair at h
 refine T.seq (T.rL ?_)
 refine aw rfl ?_
 refine aw rfl ?_
 refine TL'.nil (tN ?_)
 refine T.seq ?_
 refine T.seq ?_
 refine DG.start ?_
 refine DG.mv rfl rfl rfl rfl rfl rfl ?_
 refine DG.step (c := ⟨some 9, .ptr bx0 (0 + 0), [(8, .ptr bx0 (0 + 0))], [], []⟩) (fun t hm => One.step rfl (.free rfl) (OpT.nilCheck rfl (dk rfl) hm.s0 rfl rfl)) (Ct.mo rfl rfl) ?_
 refine DG.step (c := ⟨some 10, .ptr bx0 (0 + 0 + 1), [(9, .ptr bx0 (0 + 0))], [], []⟩) (fun t hm => One.step rfl (.free rfl) (OpT.fP rfl (dk rfl) ul72 rfl i3 (by decide) hm.s0 rfl)) (Ct.mo rfl rfl) ?_
 refine DG.step (c := ⟨some 11, .int .i64 x0.reader.at_, [(10, .ptr bx0 (0 + 0 + 1))], [(0, (o74 bx0 x0.reader.s x0.reader.at_ x0.reader.where_ x0.reader.e wx0c1 x0.deep))], []⟩) (fun t hm => One.step rfl (.free rfl) (OpT.lB (i := 0) rfl (dk rfl) ul3 rfl hm.s0 hm.o0 rfl rfl)) (Ct.mo rfl rfl) ?_
 refine DG.step (c := ⟨some 12, .int .i64 (wI (x0.reader.at_ + (2 : Int))), [(11, .int .i64 x0.reader.at_)], [], []⟩) (fun t hm => One.step rfl (.free rfl) (OpT.int2 rfl rfl (dk rfl) hm.s0 rfl rfl)) (Ct.mo rfl rfl) ?_
 refine DG.mv rfl rfl rfl rfl rfl rfl ?_
 refine DG.step (c := ⟨some 14, .ptr bx0 (0 + 0), [(13, .ptr bx0 (0 + 0))], [], []⟩) (fun t hm => One.step rfl (.free rfl) (OpT.nilCheck rfl (dk rfl) hm.s0 rfl rfl)) (Ct.mo rfl rfl) ?_
 refine DG.step (c := ⟨some 15, .ptr bx0 (0 + 0 + 0), [(14, .ptr bx0 (0 + 0))], [], []⟩) (fun t hm => One.step rfl (.free rfl) (OpT.fP rfl (dk rfl) ul72 rfl i9 (by decide) hm.s0 rfl)) (Ct.mo rfl rfl) ?_
 refine DG.step (c := ⟨some 16, .str x0.reader.s, [(15, .ptr bx0 (0 + 0 + 0))], [(0, (o74 bx0 x0.reader.s x0.reader.at_ x0.reader.where_ x0.reader.e wx0c1 x0.deep))], []⟩) (fun t hm => One.step rfl (.free rfl) (OpT.lB (i := 0) rfl (dk rfl) ul9 rfl hm.s0 hm.o0 rfl rfl)) (Ct.mo rfl rfl) ?_
 refine DG.step (c := ⟨some 17, .int .i64 (x0.reader.s.size : Int), [(16, .str x0.reader.s)], [], []⟩) (fun t hm => One.step rfl (.free rfl) (OpT.lenStr rfl (dk rfl) ul9 hm.s0 rfl)) (Ct.mo rfl rfl) ?_
 refine DG.step (c := ⟨some 18, .bool (decide ((wI (x0.reader.at_ + (2 : Int))) > (x0.reader.s.size : Int))), [(12, .int .i64 (wI (x0.reader.at_ + (2 : Int)))), (17, .int .i64 (x0.reader.s.size : Int))], [], []⟩) (fun t hm => One.step rfl (.free rfl) (OpT.int2 rfl rfl (dk rfl) hm.s0 hm.s1 rfl)) (Ct.mo rfl rfl) ?_
 refine DG.fin (s1 := ⟨[(0, .ptr bx0 (0 + 0)), (18, .bool (decide ((wI (x0.reader.at_ + (2 : Int))) > (x0.reader.s.size : Int))))], [(o74 bx0 x0.reader.s x0.reader.at_ x0.reader.where_ x0.reader.e wx0c1 x0.deep), .arrA wx0c1 42 9 (x0.nodes.map c_aNd)]⟩) (ms := [0, 1, 3, 7, 15, 0, 32, 96, 224, 480, 1023]) TrydMixed rfl (by kernel_rfl) (by kernel_rfl) (by kernel_rfl) (.cons rfl (.cons rfl (.nil _))) rfl (fun u hu => (tN (T.by_turn hu ?_)))
 rcases bif_some h with ⟨b, h⟩ | ⟨b, h⟩
 refine T.condT rfl b ?_
 refine T.seq (T.rL ?_)
 refine mw rfl ?_
 refine mw rfl ?_
 refine sp rfl (OpT.nilCheck rfl (dk rfl) rfl rfl ?_)
 refine sp rfl (OpT.fP rfl (dk rfl) ul72 rfl i9 (by decide) rfl ?_)
 refine sp rfl (OpT.lB (i := 0) rfl (dk rfl) ul9 rfl rfl rfl rfl ?_)
 refine sp rfl (OpT.lenStr rfl (dk rfl) ul9 rfl ?_)
 obtain ⟨v, f, h⟩ := bind_some h
 refine sp rfl (OpT.callG (is := [0, 1]) (ph := []) rfl (dk rfl) Tryd.func40 rfl rfl (Args.cons rfl (Args.cons rfl (Args.cons rfl Args.nil))) (syr_fail_T K (bx0 := bx0) (wx0c1 := wx0c1) f) (.cons rfl rfl (.cons rfl rfl (.nil))) (fun _ => rfl) (fun g => ?_))
 refine nm (.c (.c (.n))) ?_
 refine TL'.nil (tN (T.seq (T.rL ?_)))
 refine aw rfl ?_
 refine aw rfl ?_
 refine TL'.nil (tN ?_)
 refine T.ret (thenS_ret ?_)
 exact Fin.doneK (.cons _ _ _ _ (.tmp 2 _ rfl) (.cons _ _ _ _ (.tmp 3 _ rfl) .nil)) (.cons 0 rfl (.cons 0 rfl (.nil _))) (by cases h; exact ⟨gl [g 0], rfl, rfl⟩)
 refine T.condF rfl b ?_
 refine T.skip (tN ?_)
 refine T.seq (T.rL ?_)
 refine mw rfl ?_
 obtain ⟨w, j, h⟩ := bind_some h
 refine sp rfl (OpT.callG (is := [0, 1]) (ph := []) rfl (dk rfl) Tryd.func96 rfl rfl (Args.cons rfl Args.nil) (syr_next_T K (bx0 := bx0) (wx0c1 := wx0c1) j) (.cons rfl rfl (.cons rfl rfl (.nil))) (fun _ => rfl) (fun l => ?_))
 refine nm (.c (.c (.n))) ?_
 obtain ⟨y, m, h⟩ := bind_some h
 refine sp rfl (OpT.callPA rfl (dk rfl) Tryd.func118 rfl rfl (Args.cons rfl Args.nil) (CallR.nil (sy_nibble_T K m)) ?_)
 refine mw rfl ?_
 refine sp rfl (OpT.extract rfl (dk rfl) rfl rfl ?_)
 refine sp rfl (OpT.extract rfl (dk rfl) rfl rfl ?_)
 refine aw rfl ?_
 refine aw rfl ?_
 refine TL'.nil (tN (T.seq (T.rL ?_)))
 refine mw rfl ?_
 obtain ⟨z, p, h⟩ := bind_some h
 refine sp rfl (OpT.callG (is := [0, 1]) (ph := []) rfl (dk rfl) Tryd.func96 rfl rfl (Args.cons rfl Args.nil) (syr_next_T K (bx0 := bx0) (wx0c1 := (l 0)) p) (.cons rfl rfl (.cons rfl rfl (.nil))) (fun _ => rfl) (fun d => ?_))
 refine nm (.c (.c (.n))) ?_
 obtain ⟨aa, q, h⟩ := bind_some h
 refine sp rfl (OpT.callPA rfl (dk rfl) Tryd.func118 rfl rfl (Args.cons rfl Args.nil) (CallR.nil (sy_nibble_T K q)) ?_)
 refine mw rfl ?_
 refine sp rfl (OpT.extract rfl (dk rfl) rfl rfl ?_)
 refine sp rfl (OpT.extract rfl (dk rfl) rfl rfl ?_)
 refine aw rfl ?_
 refine aw rfl ?_
 refine TL'.nil (tN (T.seq (T.rL ?_)))
 refine mw rfl ?_
 refine sp rfl (OpT.shl rfl (dk rfl) rfl rfl (by decide) ?_)
 refine mw rfl ?_
 refine sp rfl (OpT.int2 rfl rfl (dk rfl) rfl rfl ?_)
 refine mw rfl ?_
 refine mw rfl ?_
 rcases bif_some h with ⟨a, h⟩ | ⟨a, h⟩
 refine TL'.step (.on rfl rfl rfl a) (OpT.move rfl (dk rfl) rfl ?_)
 refine sp rfl (OpT.pickT rfl (dk rfl) rfl a rfl ?_)
 refine aw rfl ?_
 refine aw rfl ?_
 refine TL'.nil (tN ?_)
 refine T.ret ?_
 exact Fin.doneK (.cons _ _ _ _ (.tmp 2 _ rfl) (.cons _ _ _ _ (.tmp 3 _ rfl) .nil)) (.cons 0 rfl (.cons 0 rfl (.nil _))) (by cases h; exact ⟨gl [d 0], rfl, rfl⟩)
 refine TL'.pU (.off _ _ _ _ rfl rfl rfl a) (dk rfl) ?_
 refine sp rfl (OpT.pickF rfl (dk rfl) rfl a rfl ?_)
 refine aw rfl ?_
 refine aw rfl ?_
 refine TL'.nil (tN ?_)
 refine T.ret ?_
 exact Fin.doneK (.cons _ _ _ _ (.tmp 2 _ rfl) (.cons _ _ _ _ (.tmp 3 _ rfl) .nil)) (.cons 0 rfl (.cons 0 rfl (.nil _))) (by cases h; exact ⟨gl [d 0], rfl, rfl⟩)
abbrev syr_escape_q (bx0 : Nat) (r : Int × Bool × syp) : Exit → St → Prop := retS Tryd.prog Tryd.f111 (fun y t => ∃ γ : Nat → Value, y = (.tup [.int .u8 r.1, .bool r.2.1]) ∧ t = [(o74 bx0 r.2.2.reader.s r.2.2.reader.at_ r.2.2.reader.where_ r.2.2.reader.e (γ 0) r.2.2.deep), .arrA (γ 0) 42 9 (r.2.2.nodes.map c_aNd)])
theorem syr_escape_T (K : Nat) {x0 : syp} {bx0 : Nat} {wx0c1 : Value} {r : Int × Bool × syp} (h : syr_escape K x0 = some r) : CallG Tryd.prog 111 [.ptr bx0 (0 + 0)] [(o74 bx0 x0.reader.s x0.reader.at_ x0.reader.where_ x0.reader.e wx0c1 x0.deep), .arrA wx0c1 42 9 (x0.nodes.map c_aNd)] (fun γ => (.tup [.int .u8 r.1, .bool r.2.1])) (fun γ => [(o74 bx0 r.2.2.reader.s r.2.2.reader.at_ r.2.2.reader.where_ r.2.2.reader.e (γ 0) r.2.2.deep), .arrA (γ 0) 42 9 (r.2.2.nodes.map c_aNd)]) := by
 refine CallT.intro Tryd.func111 rfl (nb rfl) ?_
 show T Tryd.prog 37 (Code.at [] (codeOf Tryd.f111)) ⟨paramSlots 0 [.ptr bx0 (0 + 0)], [(o74 bx0 x0.reader.s x0.reader.at_ x0.reader.where_ x0.reader.e wx0c1 x0.deep), .arrA wx0c1 42 9 (x0.nodes.map c_aNd)]⟩ (syr_escape_q bx0 r)
 unfold syr_escape at h
 refine T.seq (T.rL ?_)
 refine aw rfl ?_
 refine aw rfl ?_
 refine TL'.nil (tN (T.seq (T.rL ?_)))
 refine mw rfl ?_
 obtain ⟨v, m, h⟩ := bind_some h
 refine sp rfl (OpT.callG (is := [0, 1]) (ph := []) rfl (dk rfl) Tryd.func96 rfl rfl (Args.cons rfl Args.nil) (syr_next_T K (bx0 := bx0) (wx0c1 := wx0c1) m) (.cons rfl rfl (.cons rfl rfl (.nil))) (fun _ => rfl) (fun b => ?_))
 refine nm (.c (.c (.n))) ?_
 refine aw rfl ?_
 refine TL'.nil (tN ?_)
 refine T.block ?_
 refine T.seq (T.rL ?_)
 refine mw rfl ?_
 refine sp rfl (OpT.nilCheck rfl (dk rfl) rfl rfl ?_)
 refine sp rfl (OpT.fP rfl (dk rfl) ul72 rfl i35 (by decide) rfl ?_)
 refine sp rfl (OpT.lB (i := 0) rfl (dk rfl) ul35 rfl rfl rfl rfl ?_)
 refine sp rfl (OpT.int2 rfl rfl (dk rfl) rfl rfl ?_)
 refine aw rfl ?_
 refine TL'.nil (tN ?_)
 rcases bif_some h with ⟨d, h⟩ | ⟨d, h⟩
 refine T.condT rfl d ?_
 refine T.seq (T.rL ?_)
 refine aw rfl ?_
 refine aw rfl ?_
 refine TL'.nil (tN ?_)
 refine T.ret (inBlock_ret ?_)
 exact Fin.doneK (.cons _ _ _ _ (.tmp 2 _ rfl) (.cons _ _ _ _ (.tmp 3 _ rfl) .nil)) (.cons 0 rfl (.cons 0 rfl (.nil _))) (by cases h; exact ⟨gl [b 0], rfl, rfl⟩)
 refine T.condF rfl d ?_
 refine T.seq (T.rL ?_)
 refine mw rfl ?_
 refine sp rfl (OpT.int2 rfl rfl (dk rfl) rfl rfl ?_)
 refine aw rfl ?_
 refine TL'.nil (tN ?_)
 rcases bif_some h with ⟨f, h⟩ | ⟨f, h⟩
 refine T.condT rfl f ?_
 refine T.seq (T.rL ?_)
 refine aw rfl ?_
 refine aw rfl ?_
 refine TL'.nil (tN ?_)
 refine T.ret (inBlock_ret ?_)
 exact Fin.doneK (.cons _ _ _ _ (.tmp 2 _ rfl) (.cons _ _ _ _ (.tmp 3 _ rfl) .nil)) (.cons 0 rfl (.cons 0 rfl (.nil _))) (by cases h; exact ⟨gl [b 0], rfl, rfl⟩)
 refine T.condF rfl f ?_
 refine T.seq (T.rL ?_)
 refine mw rfl ?_
 refine sp rfl (OpT.int2 rfl rfl (dk rfl) rfl rfl ?_)
 refine aw rfl ?_
 refine TL'.nil (tN ?_)
 rcases bif_some h with ⟨g, h⟩ | ⟨g, h⟩
 refine T.condT rfl g ?_
 refine T.seq (T.rL ?_)
 refine aw rfl ?_
 refine aw rfl ?_
 refine TL'.nil (tN ?_)
 refine T.ret (inBlock_ret ?_)
 exact Fin.doneK (.cons _ _ _ _ (.tmp 2 _ rfl) (.cons _ _ _ _ (.tmp 3 _ rfl) .nil)) (.cons 0 rfl (.cons 0 rfl (.nil _))) (by cases h; exact ⟨gl [b 0], rfl, rfl⟩)
 refine T.condF rfl g ?_
 refine T.seq (T.rL ?_)
 refine mw rfl ?_
 refine sp rfl (OpT.int2 rfl rfl (dk rfl) rfl rfl ?_)
 refine aw rfl ?_
 refine TL'.nil (tN ?_)
 rcases bif_some h with ⟨j, h⟩ | ⟨j, h⟩
 refine T.condT rfl j ?_
 refine T.seq (T.rL ?_)
 refine aw rfl ?_
 refine aw rfl ?_
 refine TL'.nil (tN ?_)
 refine T.ret (inBlock_ret ?_)
 exact Fin.doneK (.cons _ _ _ _ (.tmp 2 _ rfl) (.cons _ _ _ _ (.tmp 3 _ rfl) .nil)) (.cons 0 rfl (.cons 0 rfl (.nil _))) (by cases h; exact ⟨gl [b 0], rfl, rfl⟩)
 refine T.condF rfl j ?_
 refine T.seq (T.rL ?_)
 refine mw rfl ?_
 refine sp rfl (OpT.int2 rfl rfl (dk rfl) rfl rfl ?_)
 refine aw rfl ?_
 refine TL'.nil (tN ?_)
 rcases bif_some h with ⟨l, h⟩ | ⟨l, h⟩
 refine T.condT rfl l ?_
 refine T.seq (T.rL ?_)
 refine mw rfl ?_
 obtain ⟨w, p, h⟩ := bind_some h
 refine sp rfl (OpT.callG (is := [0, 1]) (ph := []) rfl (dk rfl) Tryd.func117 rfl rfl (Args.cons rfl Args.nil) (syr_pair_T K (bx0 := bx0) (wx0c1 := (b 0)) p) (.cons rfl rfl (.cons rfl rfl (.nil))) (fun _ => rfl) (fun q => ?_))
 refine nm (.c (.c (.n))) ?_
 refine sp rfl (OpT.extract rfl (dk rfl) rfl rfl ?_)
 refine sp rfl (OpT.extract rfl (dk rfl) rfl rfl ?_)
 refine aw rfl ?_
 refine aw rfl ?_
 refine TL'.nil (tN ?_)
 refine T.ret (inBlock_ret ?_)
 exact Fin.doneK (.cons _ _ _ _ (.tmp 2 _ rfl) (.cons _ _ _ _ (.tmp 3 _ rfl) .nil)) (.cons 0 rfl (.cons 0 rfl (.nil _))) (by cases h; exact ⟨gl [q 0], rfl, rfl⟩)
 refine T.condF rfl l ?_
 refine T.seq (T.rL ?_)
 refine mw rfl ?_
 refine mw rfl ?_
 refine sp rfl (OpT.int2 rfl rfl (dk rfl) rfl rfl ?_)
 refine mw rfl ?_
 rcases bif_some h with ⟨a, h⟩ | ⟨a, h⟩
 refine TL'.pU (.off _ _ _ _ rfl rfl rfl a) (dk rfl) ?_
 refine TL'.pU (.off _ _ _ _ rfl rfl rfl a) (dk rfl) ?_
 refine TL'.pU (.off _ _ _ _ rfl rfl rfl a) (dk rfl) ?_
 refine sp rfl (OpT.pickT rfl (dk rfl) rfl a rfl ?_)
 refine aw rfl ?_
 refine aw rfl ?_
 refine TL'.nil (tN ?_)
 refine T.ret (inBlock_ret ?_)
 exact Fin.doneK (.cons _ _ _ _ (.tmp 2 _ rfl) (.cons _ _ _ _ (.tmp 3 _ rfl) .nil)) (.cons 0 rfl (.cons 0 rfl (.nil _))) (by cases h; exact ⟨gl [b 0], rfl, rfl⟩)
 refine TL'.step (.on rfl rfl rfl a) (OpT.move rfl (dk rfl) rfl ?_)
 obtain ⟨y, u, h⟩ := bind_some h
 refine TL'.step (.on rfl rfl rfl a) (OpT.callPA rfl (dk rfl) Tryd.func26 rfl rfl (Args.cons rfl (Args.cons rfl Args.nil)) (CallR.nil (strings_IndexByte_T K u)) ?_)
 refine TL'.step (.on rfl rfl rfl a) (OpT.int2 rfl rfl (dk rfl) rfl rfl ?_)
 refine sp rfl (OpT.pickF rfl (dk rfl) rfl a rfl ?_)
 refine aw rfl ?_
 refine aw rfl ?_
 refine TL'.nil (tN ?_)
 refine T.ret (inBlock_ret ?_)
 exact Fin.doneK (.cons _ _ _ _ (.tmp 2 _ rfl) (.cons _ _ _ _ (.tmp 3 _ rfl) .nil)) (.cons 0 rfl (.cons 0 rfl (.nil _))) (by cases h; exact ⟨gl [b 0], rfl, rfl⟩)
abbrev syr_one_q (bx0 : Nat) (r : Int × syp) : Exit → St → Prop := retS Tryd.prog Tryd.f99 (fun y t => ∃ γ : Nat → Value, y = (.int .u8 r.1) ∧ t = [(o74 bx0 r.2.reader.s r.2.reader.at_ r.2.reader.where_ r.2.reader.e (γ 0) r.2.deep), .arrA (γ 0) 42 9 (r.2.nodes.map c_aNd)])
theorem syr_one_T (K : Nat) {x0 : syp} {bx0 : Nat} {wx0c1 : Value} {r : Int × syp} (h : syr_one K x0 = some r) : CallG Tryd.prog 99 [.ptr bx0 (0 + 0)] [(o74 bx0 x0.reader.s x0.reader.at_ x0.reader.where_ x0.reader.e wx0c1 x0.deep), .arrA wx0c1 42 9 (x0.nodes.map c_aNd)] (fun γ => (.int .u8 r.1)) (fun γ => [(o74 bx0 r.2.reader.s r.2.reader.at_ r.2.reader.where_ r.2.reader.e (γ 0) r.2.deep), .arrA (γ 0) 42 9 (r.2.nodes.map c_aNd)]) := by
 refine CallT.intro Tryd.func99 rfl (nb rfl) ?_
 show T Tryd.prog 27 (Code.at [] (codeOf Tryd.f99)) ⟨paramSlots 0 [.ptr bx0 (0 + 0)], [(o74 bx0 x0.reader.s x0.reader.at_ x0.reader.where_ x0.reader.e wx0c1 x0.deep), .arrA wx0c1 42 9 (x0.nodes.map c_aNd)]⟩ (syr_one_q bx0 r)
 unfold syr_one at h
 refine T.seq (T.rL ?_)
 refine aw rfl ?_
 refine TL'.nil (tN (T.seq (T.rL ?_)))
 refine mw rfl ?_
 refine sp rfl (OpT.nilCheck rfl (dk rfl) rfl rfl ?_)
 refine sp rfl (OpT.fP rfl (dk rfl) ul72 rfl i3 (by decide) rfl ?_)
 refine sp rfl (OpT.lB (i := 0) rfl (dk rfl) ul3 rfl rfl rfl rfl ?_)
 refine aw rfl ?_
 refine TL'.nil (tN (T.seq (T.rL ?_)))
 refine mw rfl ?_
 obtain ⟨p, g, h⟩ := bind_some h
 refine sp rfl (OpT.callG (is := [0, 1]) (ph := []) rfl (dk rfl) Tryd.func96 rfl rfl (Args.cons rfl Args.nil) (syr_next_T K (bx0 := bx0) (wx0c1 := wx0c1) g) (.cons rfl rfl (.cons rfl rfl (.nil))) (fun _ => rfl) (fun d => ?_))
 refine nm (.c (.c (.n))) ?_
 refine aw rfl ?_
 refine TL'.nil (tN ?_)
 refine T.seq ?_
 refine T.seq (T.rL ?_)
 refine mw rfl ?_
 refine sp rfl (OpT.int2 rfl rfl (dk rfl) rfl rfl ?_)
 refine TL'.nil (tN ?_)
 rcases bif_some h with ⟨a, h⟩ | ⟨a, h⟩
 refine T.condT rfl a ?_
 refine T.seq (T.rL ?_)
 refine mw rfl ?_
 refine aw rfl ?_
 refine TL'.nil (tN ?_)
 refine T.ret (thenS_ret ?_)
 exact Fin.doneK (.cons _ _ _ _ (.tmp 2 _ rfl) .nil) (.cons 0 rfl (.cons 0 rfl (.nil _))) (by cases h; exact ⟨gl [d 0], rfl, rfl⟩)
 refine T.condF rfl a ?_
 refine T.skip (tN ?_)
 refine T.seq (T.rL ?_)
 refine mw rfl ?_
 obtain ⟨q, j, h⟩ := bind_some h
 refine sp rfl (OpT.callG (is := [0, 1]) (ph := []) rfl (dk rfl) Tryd.func111 rfl rfl (Args.cons rfl Args.nil) (syr_escape_T K (bx0 := bx0) (wx0c1 := (d 0)) j) (.cons rfl rfl (.cons rfl rfl (.nil))) (fun _ => rfl) (fun f => ?_))
 refine nm (.c (.c (.n))) ?_
 refine mw rfl ?_
 refine sp rfl (OpT.extract rfl (dk rfl) rfl rfl ?_)
 refine sp rfl (OpT.extract rfl (dk rfl) rfl rfl ?_)
 refine aw rfl ?_
 refine aw rfl ?_
 refine TL'.nil (tN ?_)
 refine T.seq ?_
 refine T.seq (T.rL ?_)
 refine mw rfl ?_
 refine sp rfl (OpT.not rfl (dk rfl) rfl ?_)
 refine TL'.nil (tN ?_)
 rcases bif_some h with ⟨b, h⟩ | ⟨b, h⟩
 refine T.condT rfl b ?_
 refine T.rL ?_
 refine mw rfl ?_
 refine mw rfl ?_
 obtain ⟨u, l, h⟩ := bind_some h
 refine sp rfl (OpT.callG (is := [0, 1]) (ph := []) rfl (dk rfl) Tryd.func40 rfl rfl (Args.cons rfl (Args.cons rfl (Args.cons rfl Args.nil))) (syr_fail_T K (bx0 := bx0) (wx0c1 := (f 0)) l) (.cons rfl rfl (.cons rfl rfl (.nil))) (fun _ => rfl) (fun m => ?_))
 refine nm (.c (.c (.n))) ?_
 refine TL'.nil (tN (T.seq (T.rL ?_)))
 refine mw rfl ?_
 refine aw rfl ?_
 refine TL'.nil (tN ?_)
 refine T.ret ?_
 exact Fin.doneK (.cons _ _ _ _ (.tmp 2 _ rfl) .nil) (.cons 0 rfl (.cons 0 rfl (.nil _))) (by cases h; exact ⟨gl [m 0], rfl, rfl⟩)
 refine T.condF rfl b ?_
 refine T.skip (tN ?_)
 refine T.seq (T.rL ?_)
 refine mw rfl ?_
 refine aw rfl ?_
 refine TL'.nil (tN ?_)
 refine T.ret ?_
 exact Fin.doneK (.cons _ _ _ _ (.tmp 2 _ rfl) .nil) (.cons 0 rfl (.cons 0 rfl (.nil _))) (by cases h; exact ⟨gl [f 0], rfl, rfl⟩)
abbrev syp_put_q (bx0 : Nat) (r : Int × syp) : Exit → St → Prop := retS Tryd.prog Tryd.f76 (fun y t => ∃ γ : Nat → Value, y = (.int .i64 r.1) ∧ t = [(o74 bx0 r.2.reader.s r.2.reader.at_ r.2.reader.where_ r.2.reader.e (γ 0) r.2.deep), .arrA (γ 0) 42 9 (r.2.nodes.map c_aNd)])
theorem syp_put_T (K : Nat) {x0 : syp} {x1 : aNd} {bx0 : Nat} {wx0c1 : Value} {r : Int × syp} (h : syp_put K x0 x1 = some r) : CallG Tryd.prog 76 [.ptr bx0 0, .agg [.int .u8 x1.Op, .int .u64 x1.S.a0, .int .u64 x1.S.a1, .int .u64 x1.S.a2, .int .u64 x1.S.a3, .sl false 1 (x1.L.map (cI .i64)), .int .i64 x1.Lo, .int .i64 x1.Hi, .str x1.Name]] [(o74 bx0 x0.reader.s x0.reader.at_ x0.reader.where_ x0.reader.e wx0c1 x0.deep), .arrA wx0c1 42 9 (x0.nodes.map c_aNd)] (fun γ => (.int .i64 r.1)) (fun γ => [(o74 bx0 r.2.reader.s r.2.reader.at_ r.2.reader.where_ r.2.reader.e (γ 0) r.2.deep), .arrA (γ 0) 42 9 (r.2.nodes.map c_aNd)]) := by
 refine CallT.intro Tryd.func76 rfl (nb rfl) ?_
 show T Tryd.prog 21 (Code.at [] (codeOf Tryd.f76)) ⟨paramSlots 0 [.ptr bx0 0, .agg [.int .u8 x1.Op, .int .u64 x1.S.a0, .int .u64 x1.S.a1, .int .u64 x1.S.a2, .int .u64 x1.S.a3, .sl false 1 (x1.L.map (cI .i64)), .int .i64 x1.Lo, .int .i64 x1.Hi, .str x1.Name]], [(o74 bx0 x0.reader.s x0.reader.at_ x0.reader.where_ x0.reader.e wx0c1 x0.deep), .arrA wx0c1 42 9 (x0.nodes.map c_aNd)]⟩ (syp_put_q bx0 r)
 unfold syp_put at h
 refine T.seq (T.rL ?_)
 refine sp rfl (OpT.boxAgg rfl (dk rfl) rfl (fun b => ?_))
 refine aw rfl ?_
 refine TL'.nil (tN ?_)
 refine T.seq ?_
 refine T.by_turn Turn.keepPlace ?_
 refine DGG.start ?_
 refine DGG.step (c := fun a => ⟨some 5, .ptr bx0 0, [(0, .ptr bx0 0)], [], []⟩) [] (fun _ _ _ => rfl) (fun a t hm => One.step rfl (.free rfl) (OpT.move rfl (dk rfl) hm.s0 ⟨u0, rfl⟩)) (fun a => Ct.mo rfl rfl) ?_
 refine DGG.step (c := fun a => ⟨some 6, .ptr bx0 0, [(0, .ptr bx0 0)], [], []⟩) [] (fun _ _ _ => rfl) (fun a t hm => One.step rfl (.free rfl) (OpT.move rfl (dk rfl) hm.s0 ⟨u0, rfl⟩)) (fun a => Ct.mo rfl rfl) ?_
 refine DGG.step (c := fun a => ⟨some 7, .ptr bx0 0, [(6, .ptr bx0 0)], [], []⟩) [] (fun _ _ _ => rfl) (fun a t hm => One.step rfl (.free rfl) (OpT.nilCheck rfl (dk rfl) hm.s0 rfl ⟨u0, rfl⟩)) (fun a => Ct.mo rfl rfl) ?_
 refine DGG.step (c := fun a => ⟨some 8, .ptr bx0 (0 + 4), [(7, .ptr bx0 0)], [], []⟩) [] (fun _ _ _ => rfl) (fun a t hm => One.step rfl (.free rfl) (OpT.fP rfl (dk rfl) ul74 rfl i22 (by decide) hm.s0 ⟨u0, rfl⟩)) (fun a => Ct.mo rfl rfl) ?_
 refine DGG.step (c := fun a => ⟨some 9, .c (.ex wx0c1), [(8, .ptr bx0 (0 + 4))], [(2, (o74 bx0 x0.reader.s x0.reader.at_ x0.reader.where_ x0.reader.e wx0c1 x0.deep))], []⟩) [] (fun _ _ _ => rfl) (fun a t hm => One.step rfl (.free rfl) (OpT.lB (i := 2) rfl (dk rfl) ul22 rfl hm.s0 hm.o0 rfl ⟨u0, rfl⟩)) (fun a => Ct.mo rfl rfl) ?_
 refine DGG.step (c := fun a => ⟨some 10, .agg [.int .u8 x1.Op, .int .u64 x1.S.a0, .int .u64 x1.S.a1, .int .u64 x1.S.a2, .int .u64 x1.S.a3, .sl false 1 (x1.L.map (cI .i64)), .int .i64 x1.Lo, .int .i64 x1.Hi, .str x1.Name], [(3, .ptr b 0)], [(1, .box b 42 [.d (.int .u8 x1.Op), .d (.int .u64 x1.S.a0), .d (.int .u64 x1.S.a1), .d (.int .u64 x1.S.a2), .d (.int .u64 x1.S.a3), .d (.sl false 1 (x1.L.map (cI .i64))), .d (.int .i64 x1.Lo), .d (.int .i64 x1.Hi), .d (.str x1.Name)])], []⟩) [] (fun _ _ _ => rfl) (fun a t hm => One.step rfl (.free rfl) (OpT.lBAgg (i := 1) (l := [.int .u8 x1.Op, .int .u64 x1.S.a0, .int .u64 x1.S.a1, .int .u64 x1.S.a2, .int .u64 x1.S.a3, .sl false 1 (x1.L.map (cI .i64)), .int .i64 x1.Lo, .int .i64 x1.Hi, .str x1.Name]) rfl (dk rfl) ul42 rfl i42 hm.s0 hm.o0 rfl rfl ⟨u0, rfl⟩)) (fun a => Ct.mo rfl rfl) ?_
 refine DGG.step (c := fun a => ⟨some 11, .sl true 9 ([x1].map c_aNd), [(10, .agg [.int .u8 x1.Op, .int .u64 x1.S.a0, .int .u64 x1.S.a1, .int .u64 x1.S.a2, .int .u64 x1.S.a3, .sl false 1 (x1.L.map (cI .i64)), .int .i64 x1.Lo, .int .i64 x1.Hi, .str x1.Name])], [], []⟩) [] (fun _ _ _ => rfl) (fun a t hm => One.step rfl (.free rfl) (OpT.buildSlice (elems := ([x1] : List aNd).map c_aNd) rfl (dk rfl) ul22 i42 (by decide) rfl (all1 rfl) (parts_cons hm.s0 rfl parts_nil) rfl rfl (lenAll rfl) (by decide) ⟨u0, rfl⟩)) (fun a => Ct.mo rfl rfl) ?_
 obtain ⟨g, h⟩ := ck_some h
 refine DGG.step (c := fun a => ⟨some 12, .c (.ex ((a 7).1 0)), [(11, .sl true 9 ([x1].map c_aNd)), (9, .c (.ex wx0c1))], [(3, .arrA wx0c1 42 9 (x0.nodes.map c_aNd))], [(3, .arrA ((a 7).1 0) 42 9 ((x0.nodes ++ [x1]).map c_aNd))]⟩) [7] (fun a γ' h => by simp only [h 7 (by decide)]) (fun a t hm => One.step rfl (.free rfl) (OpT.appendAM (i := 3) (xs := x0.nodes) (ys := [x1]) (f := c_aNd) rfl (dk rfl) ul22 i42 rfl hm.s1 hm.o0 hm.s0 g (fun w => ⟨(fun _ => w, 0), rfl⟩))) (fun a => Ct.mo rfl rfl) ?_
 refine DGG.step (c := fun a => ⟨some 13, .ptr bx0 0, [(5, .ptr bx0 0)], [], []⟩) [] (fun _ _ _ => rfl) (fun a t hm => One.step rfl (.free rfl) (OpT.nilCheck rfl (dk rfl) hm.s0 rfl ⟨u0, rfl⟩)) (fun a => Ct.mo rfl rfl) ?_
 refine DGG.step (c := fun a => ⟨some 14, .ptr bx0 (0 + 4), [(13, .ptr bx0 0)], [], []⟩) [] (fun _ _ _ => rfl) (fun a t hm => One.step rfl (.free rfl) (OpT.fP rfl (dk rfl) ul74 rfl i22 (by decide) hm.s0 ⟨u0, rfl⟩)) (fun a => Ct.mo rfl rfl) ?_
 refine DGG.step (c := fun a => ⟨none, .any, [(14, .ptr bx0 (0 + 4)), (12, .c (.ex ((a 7).1 0)))], [(2, (o74 bx0 x0.reader.s x0.reader.at_ x0.reader.where_ x0.reader.e wx0c1 x0.deep))], [(2, (o74 bx0 x0.reader.s x0.reader.at_ x0.reader.where_ x0.reader.e ((a 7).1 0) x0.deep))]⟩) [7] (fun a γ' h => by simp only [h 7 (by decide)]) (fun a t hm => One.step rfl (.free rfl) (OpT.sT (i := 2) (cells' := [.d (.str x0.reader.s), .d (.int .i64 x0.reader.at_), .d (.int .i64 x0.reader.where_), .d (.int .i64 x0.reader.e), .d (.ex ((a 7).1 0)), .d (.int .i64 x0.deep)]) rfl rfl i22 hm.s0 hm.s1 hm.o0 (nb rfl) rfl ⟨u0, rfl⟩)) (fun a => Ct.mo rfl rfl) ?_
 refine DGG.fin (s1 := fun a => ⟨[(0, .ptr bx0 0)], [.ro 0 [], .box b 42 [.d (.int .u8 x1.Op), .d (.int .u64 x1.S.a0), .d (.int .u64 x1.S.a1), .d (.int .u64 x1.S.a2), .d (.int .u64 x1.S.a3), .d (.sl false 1 (x1.L.map (cI .i64))), .d (.int .i64 x1.Lo), .d (.int .i64 x1.Hi), .d (.str x1.Name)], (o74 bx0 x0.reader.s x0.reader.at_ x0.reader.where_ x0.reader.e ((a 7).1 0) x0.deep), .arrA ((a 7).1 0) 42 9 ((x0.nodes ++ [x1]).map c_aNd)]⟩) (ms := [0, 0, 2, 6, 14, 0, 32, 126, 255, 511, 1023]) TrydMixed rfl (by kernel_rfl) (by kernel_rfl) (by kernel_rfl) (fun a => by kernel_rfl) (fun a => .cons rfl (.nil _)) (fun _ => rfl) (fun a u hu => (tN (T.by_turn hu ?_)))
 refine T.seq (T.rL ?_)
 refine mw rfl ?_
 refine sp rfl (OpT.nilCheck rfl (dk rfl) rfl rfl ?_)
 refine sp rfl (OpT.fP rfl (dk rfl) ul74 rfl i22 (by decide) rfl ?_)
 refine sp rfl (OpT.thenTurn (OpT.lB (i := 2) rfl (dk rfl) ul22 rfl rfl rfl rfl rfl) (Turn.viewP 18 3 rfl) ?_)
 refine sp rfl (OpT.lenSlM (xs := (x0.nodes ++ [x1])) (f := c_aNd) rfl (dk rfl) ul22 rfl ?_)
 refine sp rfl (OpT.int2 rfl rfl (dk rfl) rfl rfl ?_)
 refine aw rfl ?_
 refine TL'.nil (tN ?_)
 refine T.ret ?_
 exact Fin.doneK (.cons _ _ _ _ (.tmp 4 _ rfl) .nil) (.cons 2 rfl (.cons 2 rfl (.nil _))) (by cases h; exact ⟨gl [(a 7).1 0], rfl, rfl⟩)
abbrev syp_bytes_q (bx0 : Nat) (r : Int × syp) : Exit → St → Prop := retS Tryd.prog Tryd.f94 (fun y t => ∃ γ : Nat → Value, y = (.int .i64 r.1) ∧ t = [(o74 bx0 r.2.reader.s r.2.reader.at_ r.2.reader.where_ r.2.reader.e (γ 0) r.2.deep), .arrA (γ 0) 42 9 (r.2.nodes.map c_aNd)])
theorem syp_bytes_T (K : Nat) {x0 : syp} {x1 : Arr4} {bx0 : Nat} {wx0c1 : Value} {r : Int × syp} (h : syp_bytes K x0 x1 = some r) : CallG Tryd.prog 94 [.ptr bx0 0, .agg (Arr4.dc .u64 x1)] [(o74 bx0 x0.reader.s x0.reader.at_ x0.reader.where_ x0.reader.e wx0c1 x0.deep), .arrA wx0c1 42 9 (x0.nodes.map c_aNd)] (fun γ => (.int .i64 r.1)) (fun γ => [(o74 bx0 r.2.reader.s r.2.reader.at_ r.2.reader.where_ r.2.reader.e (γ 0) r.2.deep), .arrA (γ 0) 42 9 (r.2.nodes.map c_aNd)]) := by
 refine CallT.intro Tryd.func94 rfl (nb rfl) ?_
 show T Tryd.prog 9 (Code.at [] (codeOf Tryd.f94)) ⟨paramSlots 0 [.ptr bx0 0, .agg (Arr4.dc .u64 x1)], [(o74 bx0 x0.reader.s x0.reader.at_ x0.reader.where_ x0.reader.e wx0c1 x0.deep), .arrA wx0c1 42 9 (x0.nodes.map c_aNd)]⟩ (syp_bytes_q bx0 r)
 unfold syp_bytes at h
 refine T.seq (T.rL ?_)
 refine sp rfl (OpT.boxAgg rfl (dk rfl) rfl (fun d => ?_))
 refine aw rfl ?_
 refine TL'.nil (tN (T.seq (T.rL ?_)))
 refine mw rfl ?_
 refine sp rfl (OpT.lBAgg (i := 0) (l := (Arr4.dc .u64 x1)) rfl (dk rfl) ul25 rfl i25 rfl rfl rfl rfl ?_)
 refine sp rfl (OpT.thenTurn (OpT.build (l := [.int .u8 (2 : Int), .int .u64 x1.a0, .int .u64 x1.a1, .int .u64 x1.a2, .int .u64 x1.a3, .ex (.slice none 0 0), .int .i64 (0 : Int), .int .i64 (0 : Int), .str (⟨#[]⟩ : ByteArray)]) rfl (dk rfl) (built_struct (pl := [(0, 1), (1, 4), (5, 1), (6, 1), (7, 1), (8, 1)]) ul42 i42 rfl) (all1 rfl) rfl rfl rfl) (Turn.weakSlotP 7 (l := [.int .u8 (2 : Int), .int .u64 x1.a0, .int .u64 x1.a1, .int .u64 x1.a2, .int .u64 x1.a3, .ex (.slice none 0 0), .int .i64 (0 : Int), .int .i64 (0 : Int), .str (⟨#[]⟩ : ByteArray)]) (l' := [.int .u8 (2 : Int), .int .u64 x1.a0, .int .u64 x1.a1, .int .u64 x1.a2, .int .u64 x1.a3, .sl false 1 (([] : List Int).map (cI .i64)), .int .i64 (0 : Int), .int .i64 (0 : Int), .str (⟨#[]⟩ : ByteArray)]) (.cons (.same _) (.cons (.same _) (.cons (.same _) (.cons (.same _) (.cons (.same _) (.cons (.nil _ _) (.cons (.same _) (.cons (.same _) (.cons (.same _) (.refl _))))))))))) ?_)
 obtain ⟨f, a, h⟩ := bind_some h
 refine sp rfl (OpT.callG (is := [1, 2]) (ph := []) rfl (dk rfl) Tryd.func76 rfl rfl (Args.cons rfl (Args.cons rfl Args.nil)) (syp_put_T K (bx0 := bx0) (wx0c1 := wx0c1) a) (.cons rfl rfl (.cons rfl rfl (.nil))) (fun _ => rfl) (fun b => ?_))
 refine nm (.c (.c (.c (.n)))) ?_
 refine aw rfl ?_
 refine TL'.nil (tN ?_)
 refine T.ret ?_
 exact Fin.doneK (.cons _ _ _ _ (.tmp 4 _ rfl) .nil) (.cons 1 rfl (.cons 1 rfl (.nil _))) (by cases h; exact ⟨gl [b 0], rfl, rfl⟩)
abbrev syr_name_q (bx0 : Nat) (r : ByteArray × syp) : Exit → St → Prop := retS Tryd.prog Tryd.f98 (fun y t => ∃ γ : Nat → Value, y = (.str r.1) ∧ t = [(o74 bx0 r.2.reader.s r.2.reader.at_ r.2.reader.where_ r.2.reader.e (γ 0) r.2.deep), .arrA (γ 0) 42 9 (r.2.nodes.map c_aNd)])
theorem syr_name_j0_T {r : ByteArray × syp} (K : Nat) (bx0 : Nat) (b : Int) (m : ByteArray) (c : ByteArray) (f : Int) (g : Int) (j : Int) (l : Int) (n : List aNd) (a : Value) (h : syr_name_j0 K b m c f g j l n = some r) : T Tryd.prog 53 (Code.at [1, 1, 1, 1, 1, 1, 1] (codeOf Tryd.f98)) ⟨[(0, .ptr bx0 (0 + 0)), (4, .int .i64 b), (5, .str m)], [(o74 bx0 c f g j a l), .arrA a 42 9 (n.map c_aNd)]⟩ (syr_name_q bx0 r) := by
 unfold syr_name_j0 at h
 refine T.seq (T.rL ?_)
 refine mw rfl ?_
 refine sp rfl (OpT.nilCheck rfl (dk rfl) rfl rfl ?_)
 refine sp rfl (OpT.fP rfl (dk rfl) ul72 rfl i3 (by decide) rfl ?_)
 refine sp rfl (OpT.lB (i := 0) rfl (dk rfl) ul3 rfl rfl rfl rfl ?_)
 refine mw rfl ?_
 refine sp rfl (OpT.int2 rfl rfl (dk rfl) rfl rfl ?_)
 refine sp rfl (OpT.int2 rfl rfl (dk rfl) rfl rfl ?_)
 refine sp rfl (OpT.nilCheck rfl (dk rfl) rfl rfl ?_)
 refine sp rfl (OpT.fP rfl (dk rfl) ul72 rfl i3 (by decide) rfl ?_)
 refine sp rfl (OpT.sT (i := 0) (cells' := [.d (.str c), .d (.int .i64 (wI (f + (wI (b + (1 : Int)))))), .d (.int .i64 g), .d (.int .i64 j), .d (.ex a), .d (.int .i64 l)]) rfl rfl i3 rfl rfl rfl (nb rfl) rfl ?_)
 refine TL'.nil (tN (T.seq (T.rL ?_)))
 refine mw rfl ?_
 refine aw rfl ?_
 refine TL'.nil (tN ?_)
 refine T.ret ?_
 exact Fin.doneK (.cons _ _ _ _ (.tmp 2 _ rfl) .nil) (.cons 0 rfl (.cons 0 rfl (.nil _))) (by cases h; exact ⟨gl [a], rfl, rfl⟩)
theorem syr_name_T (K : Nat) {x0 : syp} {bx0 : Nat} {wx0c1 : Value} {r : ByteArray × syp} (h : syr_name K x0 = some r) : CallG Tryd.prog 98 [.ptr bx0 (0 + 0)] [(o74 bx0 x0.reader.s x0.reader.at_ x0.reader.where_ x0.reader.e wx0c1 x0.deep), .arrA wx0c1 42 9 (x0.nodes.map c_aNd)] (fun γ => (.str r.1)) (fun γ => [(o74 bx0 r.2.reader.s r.2.reader.at_ r.2.reader.where_ r.2.reader.e (γ 0) r.2.deep), .arrA (γ 0) 42 9 (r.2.nodes.map c_aNd)]) := by
 refine CallT.intro Tryd.func98 rfl (nb rfl) ?_
 show T Tryd.prog 53 (Code.at [] (codeOf Tryd.f98)) ⟨paramSlots 0 [.ptr bx0 (0 + 0)], [(o74 bx0 x0.reader.s x0.reader.at_ x0.reader.where_ x0.reader.e wx0c1 x0.deep), .arrA wx0c1 42 9 (x0.nodes.map c_aNd)]⟩ (syr_name_q bx0 r)
 unfold syr_name at h
 refine T.seq (T.rL ?_)
 refine aw rfl ?_
 refine TL'.nil (tN (T.seq (T.rL ?_)))
 refine mw rfl ?_
 obtain ⟨a, q, h⟩ := bind_some h
 refine sp rfl (OpT.callG (is := [0, 1]) (ph := []) rfl (dk rfl) Tryd.func96 rfl rfl (Args.cons rfl Args.nil) (syr_next_T K (bx0 := bx0) (wx0c1 := wx0c1) q) (.cons rfl rfl (.cons rfl rfl (.nil))) (fun _ => rfl) (fun g => ?_))
 refine nm (.c (.c (.n))) ?_
 refine TL'.nil (tN (T.seq (T.rL ?_)))
 refine mw rfl ?_
 refine sp rfl (OpT.nilCheck rfl (dk rfl) rfl rfl ?_)
 refine sp rfl (OpT.fP rfl (dk rfl) ul72 rfl i3 (by decide) rfl ?_)
 refine sp rfl (OpT.lB (i := 0) rfl (dk rfl) ul3 rfl rfl rfl rfl ?_)
 refine aw rfl ?_
 refine TL'.nil (tN (T.seq (T.rL ?_)))
 refine mw rfl ?_
 refine sp rfl (OpT.nilCheck rfl (dk rfl) rfl rfl ?_)
 refine sp rfl (OpT.fP rfl (dk rfl) ul72 rfl i9 (by decide) rfl ?_)
 refine sp rfl (OpT.lB (i := 0) rfl (dk rfl) ul9 rfl rfl rfl rfl ?_)
 refine mw rfl ?_
 obtain ⟨j, h⟩ := ck_some h
 refine sp rfl (OpT.sliceStr (l := (Int.toNat a.2.reader.at_)) (h := a.2.reader.s.size) rfl (dk rfl) ul9 rfl (.some _ _ _ _ rfl j.1) (.none _) j.2.1 j.2.2 ?_)
 obtain ⟨d, u, h⟩ := bind_some h
 refine sp rfl (OpT.callPA rfl (dk rfl) Tryd.func26 rfl rfl (Args.cons rfl (Args.cons rfl Args.nil)) (CallR.nil (strings_IndexByte_T K u)) ?_)
 refine aw rfl ?_
 refine TL'.nil (tN ?_)
 refine T.seq ?_
 refine T.seq (T.rL ?_)
 refine mw rfl ?_
 refine sp rfl (OpT.int2 rfl rfl (dk rfl) rfl rfl ?_)
 refine TL'.nil (tN ?_)
 rcases bif_some h with ⟨m, h⟩ | ⟨m, h⟩
 refine T.condT rfl m ?_
 refine T.seq (T.rL ?_)
 refine mw rfl ?_
 refine mw rfl ?_
 refine sp rfl (OpT.nilCheck rfl (dk rfl) rfl rfl ?_)
 refine sp rfl (OpT.fP rfl (dk rfl) ul72 rfl i9 (by decide) rfl ?_)
 refine sp rfl (OpT.lB (i := 0) rfl (dk rfl) ul9 rfl rfl rfl rfl ?_)
 refine sp rfl (OpT.lenStr rfl (dk rfl) ul9 rfl ?_)
 obtain ⟨ac, v, h⟩ := bind_some h
 refine sp rfl (OpT.callG (is := [0, 1]) (ph := []) rfl (dk rfl) Tryd.func40 rfl rfl (Args.cons rfl (Args.cons rfl (Args.cons rfl Args.nil))) (syr_fail_T K (bx0 := bx0) (wx0c1 := (g 0)) v) (.cons rfl rfl (.cons rfl rfl (.nil))) (fun _ => rfl) (fun w => ?_))
 refine nm (.c (.c (.n))) ?_
 refine TL'.nil (tN (T.seq (T.rL ?_)))
 refine aw rfl ?_
 refine TL'.nil (tN ?_)
 refine T.ret (thenS_ret ?_)
 exact Fin.doneK (.cons _ _ _ _ (.tmp 2 _ rfl) .nil) (.cons 0 rfl (.cons 0 rfl (.nil _))) (by cases h; exact ⟨gl [w 0], rfl, rfl⟩)
 refine T.condF rfl m ?_
 refine T.skip (tN ?_)
 refine T.seq (T.rL ?_)
 refine mw rfl ?_
 refine sp rfl (OpT.nilCheck rfl (dk rfl) rfl rfl ?_)
 refine sp rfl (OpT.fP rfl (dk rfl) ul72 rfl i9 (by decide) rfl ?_)
 refine sp rfl (OpT.lB (i := 0) rfl (dk rfl) ul9 rfl rfl rfl rfl ?_)
 refine mw rfl ?_
 refine mw rfl ?_
 refine mw rfl ?_
 refine sp rfl (OpT.int2 rfl rfl (dk rfl) rfl rfl ?_)
 obtain ⟨f, h⟩ := ck_some h
 refine sp rfl (OpT.sliceStr (l := (Int.toNat a.2.reader.at_)) (h := (Int.toNat (wI (a.2.reader.at_ + d)))) rfl (dk rfl) ul9 rfl (.some _ _ _ _ rfl f.1) (.some _ _ _ _ rfl f.2.1) f.2.2.1 f.2.2.2 ?_)
 refine aw rfl ?_
 refine TL'.nil (tN ?_)
 refine T.seq ?_
 refine T.seq (T.rL ?_)
 refine mw rfl ?_
 obtain ⟨ad, y, h⟩ := bind_some h
 refine sp rfl (OpT.callPA rfl (dk rfl) Tryd.func56 rfl rfl (Args.cons rfl Args.nil) (CallR.nil (sy_Name_T K y)) ?_)
 refine sp rfl (OpT.not rfl (dk rfl) rfl ?_)
 refine TL'.nil (tN ?_)
 rcases bif_some h with ⟨p, h⟩ | ⟨p, h⟩
 refine T.condT rfl p ?_
 refine T.rL ?_
 refine mw rfl ?_
 refine mw rfl ?_
 obtain ⟨b, aa, h⟩ := bind_some h
 refine sp rfl (OpT.callG (is := [0, 1]) (ph := []) rfl (dk rfl) Tryd.func40 rfl rfl (Args.cons rfl (Args.cons rfl (Args.cons rfl Args.nil))) (syr_fail_T K (bx0 := bx0) (wx0c1 := (g 0)) aa) (.cons rfl rfl (.cons rfl rfl (.nil))) (fun _ => rfl) (fun ab => ?_))
 refine nm (.c (.c (.n))) ?_
 refine TL'.nil (tN ?_)
 refine T.by_turn ?_ (syr_name_j0_T K bx0 d (a.2.reader.s.extract (Int.toNat a.2.reader.at_) (Int.toNat (wI (a.2.reader.at_ + d)))) b.reader.s b.reader.at_ b.reader.where_ b.reader.e b.deep b.nodes (ab 0) h)
 exact Turn.rp (.cons rfl (.cons rfl (.cons rfl (.nil _)))) (.c .z (.c .z (.n _)))
 refine T.condF rfl p ?_
 refine T.skip (tN ?_)
 refine T.by_turn ?_ (syr_name_j0_T K bx0 d (a.2.reader.s.extract (Int.toNat a.2.reader.at_) (Int.toNat (wI (a.2.reader.at_ + d)))) a.2.reader.s a.2.reader.at_ a.2.reader.where_ a.2.reader.e a.2.deep a.2.nodes (g 0) h)
 exact Turn.rp (.cons rfl (.cons rfl (.cons rfl (.nil _)))) (.c .z (.c .z (.n _)))
abbrev syr_is_q (bx0 : Nat) (x0 : syp) (r : Bool) : Exit → St → Prop := retS Tryd.prog Tryd.f77 (fun y t => ∃ γ : Nat → Value, y = (.bool r) ∧ t = [(o74 bx0 x0.reader.s x0.reader.at_ x0.reader.where_ x0.reader.e (γ 0) x0.deep), .arrA (γ 0) 42 9 (x0.nodes.map c_aNd)])
theorem syr_is_T (K : Nat) {x0 : syp} {x1 : Int} {bx0 : Nat} {wx0c1 : Value} {r : Bool} (h : syr_is K x0 x1 = some r) : CallG Tryd.prog 77 [.ptr bx0 (0 + 0), .int .u8 x1] [(o74 bx0 x0.reader.s x0.reader.at_ x0.reader.where_ x0.reader.e wx0c1 x0.deep), .arrA wx0c1 42 9 (x0.nodes.map c_aNd)] (fun γ => (.bool r)) (fun γ => [(o74 bx0 x0.reader.s x0.reader.at_ x0.reader.where_ x0.reader.e (γ 0) x0.deep), .arrA (γ 0) 42 9 (x0.nodes.map c_aNd)]) := by
 refine CallT.intro Tryd.func77 rfl (nb rfl) ?_
 show T Tryd.prog 18 (Code.at [] (codeOf Tryd.f77)) ⟨paramSlots 0 [.ptr bx0 (0 + 0), .int .u8 x1], [(o74 bx0 x0.reader.s x0.reader.at_ x0.reader.where_ x0.reader.e wx0c1 x0.deep), .arrA wx0c1 42 9 (x0.nodes.map c_aNd)]⟩ (syr_is_q bx0 x0 r)
 unfold syr_is at h
 refine T.seq (T.rL ?_)
 refine aw rfl ?_
 refine TL'.nil (tN (T.seq (T.rL ?_)))
 refine mw rfl ?_
 obtain ⟨f, d, h⟩ := bind_some h
 refine sp rfl (OpT.callG (is := [0, 1]) (ph := []) rfl (dk rfl) Tryd.func39 rfl rfl (Args.cons rfl Args.nil) (syr_peek_T K (bx0 := bx0) (wx0c1 := wx0c1) d) (.cons rfl rfl (.cons rfl rfl (.nil))) (fun _ => rfl) (fun b => ?_))
 refine nm (.c (.c (.n))) ?_
 refine mw rfl ?_
 refine sp rfl (OpT.extract rfl (dk rfl) rfl rfl ?_)
 refine sp rfl (OpT.extract rfl (dk rfl) rfl rfl ?_)
 refine aw rfl ?_
 refine aw rfl ?_
 refine TL'.nil (tN (T.seq (T.rL ?_)))
 refine mw rfl ?_
 refine mw rfl ?_
 rcases bif_some h with ⟨a, h⟩ | ⟨a, h⟩
 refine TL'.step (.on rfl rfl rfl a) (OpT.move rfl (dk rfl) rfl ?_)
 refine TL'.step (.on rfl rfl rfl a) (OpT.move rfl (dk rfl) rfl ?_)
 refine TL'.step (.on rfl rfl rfl a) (OpT.int2 rfl rfl (dk rfl) rfl rfl ?_)
 refine sp rfl (OpT.pickT rfl (dk rfl) rfl a rfl ?_)
 refine aw rfl ?_
 refine TL'.nil (tN ?_)
 refine T.ret ?_
 exact Fin.doneK (.cons _ _ _ _ (.tmp 4 _ rfl) .nil) (.cons 0 rfl (.cons 0 rfl (.nil _))) (by cases h; exact ⟨gl [b 0], rfl, rfl⟩)
 refine TL'.pU (.off _ _ _ _ rfl rfl rfl a) (dk rfl) ?_
 refine TL'.pU (.off _ _ _ _ rfl rfl rfl a) (dk rfl) ?_
 refine TL'.pU (.off _ _ _ _ rfl rfl rfl a) (dk rfl) ?_
 refine sp rfl (OpT.pickF rfl (dk rfl) rfl a rfl ?_)
 refine aw rfl ?_
 refine TL'.nil (tN ?_)
 refine T.ret ?_
 exact Fin.doneK (.cons _ _ _ _ (.tmp 4 _ rfl) .nil) (.cons 0 rfl (.cons 0 rfl (.nil _))) (by cases h; exact ⟨gl [b 0], rfl, rfl⟩)
abbrev syr_skip_q (bx0 : Nat) (r : Bool × syp) : Exit → St → Prop := retS Tryd.prog Tryd.f58 (fun y t => ∃ γ : Nat → Value, y = (.bool r.1) ∧ t = [(o74 bx0 r.2.reader.s r.2.reader.at_ r.2.reader.where_ r.2.reader.e (γ 0) r.2.deep), .arrA (γ 0) 42 9 (r.2.nodes.map c_aNd)])
theorem syr_skip_T (K : Nat) {x0 : syp} {x1 : Int} {bx0 : Nat} {wx0c1 : Value} {r : Bool × syp} (h : syr_skip K x0 x1 = some r) : CallG Tryd.prog 58 [.ptr bx0 (0 + 0), .int .u8 x1] [(o74 bx0 x0.reader.s x0.reader.at_ x0.reader.where_ x0.reader.e wx0c1 x0.deep), .arrA wx0c1 42 9 (x0.nodes.map c_aNd)] (fun γ => (.bool r.1)) (fun γ => [(o74 bx0 r.2.reader.s r.2.reader.at_ r.2.reader.where_ r.2.reader.e (γ 0) r.2.deep), .arrA (γ 0) 42 9 (r.2.nodes.map c_aNd)]) := by
 refine CallT.intro Tryd.func58 rfl (nb rfl) ?_
 show T Tryd.prog 16 (Code.at [] (codeOf Tryd.f58)) ⟨paramSlots 0 [.ptr bx0 (0 + 0), .int .u8 x1], [(o74 bx0 x0.reader.s x0.reader.at_ x0.reader.where_ x0.reader.e wx0c1 x0.deep), .arrA wx0c1 42 9 (x0.nodes.map c_aNd)]⟩ (syr_skip_q bx0 r)
 unfold syr_skip at h
 refine T.seq (T.rL ?_)
 refine aw rfl ?_
 refine TL'.nil (tN ?_)
 refine T.seq ?_
 refine T.seq (T.rL ?_)
 refine mw rfl ?_
 refine mw rfl ?_
 obtain ⟨g, f, h⟩ := bind_some h
 refine sp rfl (OpT.callG (is := [0, 1]) (ph := []) rfl (dk rfl) Tryd.func77 rfl rfl (Args.cons rfl (Args.cons rfl Args.nil)) (syr_is_T K (bx0 := bx0) (wx0c1 := wx0c1) f) (.cons rfl rfl (.cons rfl rfl (.nil))) (fun _ => rfl) (fun a => ?_))
 refine nm (.c (.c (.n))) ?_
 refine sp rfl (OpT.not rfl (dk rfl) rfl ?_)
 refine TL'.nil (tN ?_)
 rcases bif_some h with ⟨b, h⟩ | ⟨b, h⟩
 refine T.condT rfl b ?_
 refine T.seq (T.rL ?_)
 refine aw rfl ?_
 refine TL'.nil (tN ?_)
 refine T.ret (thenS_ret ?_)
 exact Fin.doneK (.cons _ _ _ _ (.tmp 4 _ rfl) .nil) (.cons 0 rfl (.cons 0 rfl (.nil _))) (by cases h; exact ⟨gl [a 0], rfl, rfl⟩)
 refine T.condF rfl b ?_
 refine T.skip (tN ?_)
 refine T.seq (T.rL ?_)
 refine mw rfl ?_
 refine sp rfl (OpT.nilCheck rfl (dk rfl) rfl rfl ?_)
 refine sp rfl (OpT.fP rfl (dk rfl) ul72 rfl i3 (by decide) rfl ?_)
 refine sp rfl (OpT.lB (i := 0) rfl (dk rfl) ul3 rfl rfl rfl rfl ?_)
 refine sp rfl (OpT.int2 rfl rfl (dk rfl) rfl rfl ?_)
 refine sp rfl (OpT.nilCheck rfl (dk rfl) rfl rfl ?_)
 refine sp rfl (OpT.fP rfl (dk rfl) ul72 rfl i3 (by decide) rfl ?_)
 refine sp rfl (OpT.sT (i := 0) (cells' := [.d (.str x0.reader.s), .d (.int .i64 (wI (x0.reader.at_ + (1 : Int)))), .d (.int .i64 x0.reader.where_), .d (.int .i64 x0.reader.e), .d (.ex (a 0)), .d (.int .i64 x0.deep)]) rfl rfl i3 rfl rfl rfl (nb rfl) rfl ?_)
 refine TL'.nil (tN (T.seq (T.rL ?_)))
 refine aw rfl ?_
 refine TL'.nil (tN ?_)
 refine T.ret ?_
 exact Fin.doneK (.cons _ _ _ _ (.tmp 4 _ rfl) .nil) (.cons 0 rfl (.cons 0 rfl (.nil _))) (by cases h; exact ⟨gl [a 0], rfl, rfl⟩)
abbrev syr_member_q (bx0 : Nat) (r : Int × syp) : Exit → St → Prop := retS Tryd.prog Tryd.f108 (fun y t => ∃ γ : Nat → Value, y = (.int .u8 r.1) ∧ t = [(o74 bx0 r.2.reader.s r.2.reader.at_ r.2.reader.where_ r.2.reader.e (γ 0) r.2.deep), .arrA (γ 0) 42 9 (r.2.nodes.map c_aNd)])
abbrev syr_member_qs11 (bx0 : Nat) (r : Int × syp) : Exit → St → Prop := thenS (fun s' => T Tryd.prog 29 (Code.at [1, 1] (codeOf Tryd.f108)) s' ((syr_member_q bx0 r))) ((syr_member_q bx0 r))
theorem syr_member_j0_T {r : Int × syp} (K : Nat) (bx0 : Nat) (d : ByteArray) (f : Int) (g : Int) (j : Int) (l : Int) (m : List aNd) (a : Value) (h : syr_member_j0 K d f g j l m = some r) : T Tryd.prog 29 (Code.at [1, 1] (codeOf Tryd.f108)) ⟨[(0, .ptr bx0 (0 + 0))], [(o74 bx0 d f g j a l), .arrA a 42 9 (m.map c_aNd)]⟩ (syr_member_q bx0 r) := by
 unfold syr_member_j0 at h
 refine T.seq ?_
 refine T.seq (T.rL ?_)
 refine mw rfl ?_
 refine sp rfl (OpT.nilCheck rfl (dk rfl) rfl rfl ?_)
 refine sp rfl (OpT.fP rfl (dk rfl) ul72 rfl i35 (by decide) rfl ?_)
 refine sp rfl (OpT.lB (i := 0) rfl (dk rfl) ul35 rfl rfl rfl rfl ?_)
 refine sp rfl (OpT.int2 rfl rfl (dk rfl) rfl rfl ?_)
 refine TL'.nil (tN ?_)
 rcases bif_some h with ⟨b, h⟩ | ⟨b, h⟩
 refine T.condT rfl b ?_
 refine T.seq (T.rL ?_)
 refine aw rfl ?_
 refine TL'.nil (tN ?_)
 refine T.ret (thenS_ret ?_)
 exact Fin.doneK (.cons _ _ _ _ (.tmp 2 _ rfl) .nil) (.cons 0 rfl (.cons 0 rfl (.nil _))) (by cases h; exact ⟨gl [a], rfl, rfl⟩)
 refine T.condF rfl b ?_
 refine T.skip (tN ?_)
 refine T.seq (T.rL ?_)
 refine mw rfl ?_
 obtain ⟨s, p, h⟩ := bind_some h
 refine sp rfl (OpT.callG (is := [0, 1]) (ph := []) rfl (dk rfl) Tryd.func99 rfl rfl (Args.cons rfl Args.nil) (syr_one_T K (bx0 := bx0) (wx0c1 := a) p) (.cons rfl rfl (.cons rfl rfl (.nil))) (fun _ => rfl) (fun q => ?_))
 refine nm (.c (.c (.n))) ?_
 refine aw rfl ?_
 refine TL'.nil (tN ?_)
 refine T.ret ?_
 exact Fin.doneK (.cons _ _ _ _ (.tmp 2 _ rfl) .nil) (.cons 0 rfl (.cons 0 rfl (.nil _))) (by cases h; exact ⟨gl [q 0], rfl, rfl⟩)
theorem syr_member_j1_T {r : Int × syp} (K : Nat) (bx0 : Nat) (x0 : syp) (a : Value) (h : syr_member_j1 K x0 = some r) : T Tryd.prog 29 (Code.at [1, 0, 1, 1, 1] (codeOf Tryd.f108)) ⟨[(0, .ptr bx0 (0 + 0))], [(o74 bx0 x0.reader.s x0.reader.at_ x0.reader.where_ x0.reader.e a x0.deep), .arrA a 42 9 (x0.nodes.map c_aNd)]⟩ (syr_member_qs11 bx0 r) := by
 unfold syr_member_j1 at h
 refine T.skip (tN ?_)
 refine T.by_turn ?_ (syr_member_j0_T K bx0 x0.reader.s x0.reader.at_ x0.reader.where_ x0.reader.e x0.deep x0.nodes a h)
 exact Turn.rp (.cons rfl (.nil _)) (.c .z (.c .z (.n _)))
theorem syr_member_T (K : Nat) {x0 : syp} {bx0 : Nat} {wx0c1 : Value} {r : Int × syp} (h : syr_member K x0 = some r) : CallG Tryd.prog 108 [.ptr bx0 (0 + 0)] [(o74 bx0 x0.reader.s x0.reader.at_ x0.reader.where_ x0.reader.e wx0c1 x0.deep), .arrA wx0c1 42 9 (x0.nodes.map c_aNd)] (fun γ => (.int .u8 r.1)) (fun γ => [(o74 bx0 r.2.reader.s r.2.reader.at_ r.2.reader.where_ r.2.reader.e (γ 0) r.2.deep), .arrA (γ 0) 42 9 (r.2.nodes.map c_aNd)]) := by
 refine CallT.intro Tryd.func108 rfl (nb rfl) ?_
 show T Tryd.prog 29 (Code.at [] (codeOf Tryd.f108)) ⟨paramSlots 0 [.ptr bx0 (0 + 0)], [(o74 bx0 x0.reader.s x0.reader.at_ x0.reader.where_ x0.reader.e wx0c1 x0.deep), .arrA wx0c1 42 9 (x0.nodes.map c_aNd)]⟩ (syr_member_q bx0 r)
 unfold syr_member at h
 refine T.seq (T.rL ?_)
 refine aw rfl ?_
 refine TL'.nil (tN ?_)
 refine T.seq ?_
 refine T.seq (T.rL ?_)
 refine mw rfl ?_
 obtain ⟨p, g, h⟩ := bind_some h
 refine sp rfl (OpT.callG (is := [0, 1]) (ph := []) rfl (dk rfl) Tryd.func39 rfl rfl (Args.cons rfl Args.nil) (syr_peek_T K (bx0 := bx0) (wx0c1 := wx0c1) g) (.cons rfl rfl (.cons rfl rfl (.nil))) (fun _ => rfl) (fun d => ?_))
 refine nm (.c (.c (.n))) ?_
 refine mw rfl ?_
 refine sp rfl (OpT.extract rfl (dk rfl) rfl rfl ?_)
 refine sp rfl (OpT.extract rfl (dk rfl) rfl rfl ?_)
 refine aw rfl ?_
 refine aw rfl ?_
 refine TL'.nil (tN (T.seq (T.rL ?_)))
 refine mw rfl ?_
 refine mw rfl ?_
 rcases bif_some h with ⟨a, h⟩ | ⟨a, h⟩
 refine TL'.step (.on rfl rfl rfl a) (OpT.move rfl (dk rfl) rfl ?_)
 obtain ⟨q, j, h⟩ := bind_some h
 refine TL'.step (.on rfl rfl rfl a) (OpT.callPA rfl (dk rfl) Tryd.func26 rfl rfl (Args.cons rfl (Args.cons rfl Args.nil)) (CallR.nil (strings_IndexByte_T K j)) ?_)
 refine TL'.step (.on rfl rfl rfl a) (OpT.int2 rfl rfl (dk rfl) rfl rfl ?_)
 refine sp rfl (OpT.pickT rfl (dk rfl) rfl a rfl ?_)
 refine TL'.nil (tN ?_)
 rcases bif_some h with ⟨f, h⟩ | ⟨f, h⟩
 refine T.condT rfl f ?_
 refine T.rL ?_
 refine mw rfl ?_
 refine mw rfl ?_
 refine sp rfl (OpT.nilCheck rfl (dk rfl) rfl rfl ?_)
 refine sp rfl (OpT.fP rfl (dk rfl) ul72 rfl i3 (by decide) rfl ?_)
 refine sp rfl (OpT.lB (i := 0) rfl (dk rfl) ul3 rfl rfl rfl rfl ?_)
 obtain ⟨b, l, h⟩ := bind_some h
 refine sp rfl (OpT.callG (is := [0, 1]) (ph := []) rfl (dk rfl) Tryd.func40 rfl rfl (Args.cons rfl (Args.cons rfl (Args.cons rfl Args.nil))) (syr_fail_T K (bx0 := bx0) (wx0c1 := (d 0)) l) (.cons rfl rfl (.cons rfl rfl (.nil))) (fun _ => rfl) (fun m => ?_))
 refine nm (.c (.c (.n))) ?_
 refine TL'.nil (tN ?_)
 refine T.by_turn ?_ (syr_member_j0_T K bx0 b.reader.s b.reader.at_ b.reader.where_ b.reader.e b.deep b.nodes (m 0) h)
 exact Turn.rp (.cons rfl (.nil _)) (.c .z (.c .z (.n _)))
 refine T.condF rfl f ?_
 refine T.by_turn ?_ (syr_member_j1_T K bx0 x0 (d 0) h)
 exact Turn.rp (.cons rfl (.nil _)) (.c .z (.c .z (.n _)))
 refine TL'.pU (.off _ _ _ _ rfl rfl rfl a) (dk rfl) ?_
 refine TL'.pU (.off _ _ _ _ rfl rfl rfl a) (dk rfl) ?_
 refine TL'.pU (.off _ _ _ _ rfl rfl rfl a) (dk rfl) ?_
 refine sp rfl (OpT.pickF rfl (dk rfl) rfl a rfl ?_)
 refine TL'.nil (tN ?_)
 refine T.condF rfl rfl ?_
 refine T.by_turn ?_ (syr_member_j1_T K bx0 x0 (d 0) h)
 exact Turn.rp (.cons rfl (.nil _)) (.c .z (.c .z (.n _)))
abbrev bset_Range_q (r : Arr4) : Exit → St → Prop := retS Tryd.prog Tryd.f110 (fun y t => y = (.agg (Arr4.dc .u64 r)) ∧ t = [])
abbrev bset_Range_qs111 (r : Arr4) : Exit → St → Prop := thenS (fun s' => T Tryd.prog 25 (Code.at [1, 1, 1] (codeOf Tryd.f110)) s' ((bset_Range_q r))) ((bset_Range_q r))
abbrev bset_Range_qb0x111 (r : Arr4) : Exit → St → Prop := inBlockS 0 ((bset_Range_qs111 r))
theorem bset_Range_l0_T {r : Arr4} (K : Nat) : ∀ (k : Nat), ∀ (x1 : Int) (b : Int) (m : Arr4) (d : Arr4) (j : Nat) (f : Nat), bset_Range_l0 K k x1 b m d = some r → TL Tryd.prog 25 (Code.at [1, 1, 0, 1, 0, 0] (codeOf Tryd.f110)) ⟨[(1, .int .u8 x1), (4, .ptr j 0), (5, .ptr f 0), (6, .int .i64 b)], [.box j 25 (Arr4.oc .u64 m), .box f 25 (Arr4.oc .u64 d)]⟩ (bset_Range_qb0x111 r) := by
  intro k
  induction k with
  | zero =>
    intro x1 b m d j f h
    cases (show (none : Option Arr4) = some r from h)
  | succ k ih =>
    intro x1 b m d j f h
    rw [bset_Range_l0] at h
    refine TL.round ?_
    refine T.seq ?_
    refine T.seq ?_
    refine T.rL ?_
    refine mv rfl rfl rfl rfl rfl ?_
    refine mv rfl rfl rfl rfl rfl ?_
    refine sp rfl (OpT.convInt rfl (dl rfl rfl) Tryd.underlying5 Tryd.underlying3 rfl ?_)
    refine sp rfl (OpT.int2 rfl rfl (dl rfl rfl) rfl rfl ?_)
    refine TL'.nil (tN ?_)
    rcases bif_some h with ⟨p, h⟩ | ⟨p, h⟩
    · refine T.condT rfl p ?_
      refine T.skip (tN ?_)
      refine T.seq ?_
      refine T.block ?_
      refine DG.start ?_
      refine DG.mv rfl rfl rfl rfl rfl rfl ?_
      refine DG.step (c := ⟨some 16, .int .i64 (wI (Int.tdiv b (64 : Int))), [(15, .int .i64 b)], [], []⟩) (fun t hm => One.step rfl (.free rfl) (OpT.quo rfl (dl rfl rfl) hm.s0 rfl (by decide) rfl)) (Ct.mo rfl rfl) ?_
      obtain ⟨g, h⟩ := ck_some h
      refine DG.step (c := ⟨some 17, .ptr f (0 + (Int.toNat (wI (Int.tdiv b (64 : Int)))) * 1), [(5, .ptr f 0), (16, .int .i64 (wI (Int.tdiv b (64 : Int))))], [], []⟩) (fun t hm => One.step rfl (.free rfl) (OpT.indexPtr rfl (dl rfl rfl) Tryd.underlying25 i23 hm.s0 hm.s1 g.1 g.2 rfl)) (Ct.mo rfl rfl) ?_
      refine DG.step (c := ⟨some 18, .int .u64 (Arr4.get d (wI (Int.tdiv b (64 : Int)))), [(17, .ptr f (0 + (Int.toNat (wI (Int.tdiv b (64 : Int)))) * 1))], [(1, .box f 25 (Arr4.oc .u64 d))], []⟩) (fun t hm => One.step rfl (.free rfl) (OpT.lB (i := 1) rfl (dl rfl rfl) Tryd.underlying23 rfl hm.s0 hm.o0 (Arr4.oc_get (k := .u64) (a := d) (pre := []) (post := []) g.1 g.2) rfl)) (Ct.mo rfl rfl) ?_
      refine DG.mv rfl rfl rfl rfl rfl rfl ?_
      refine DG.step (c := ⟨some 20, .int .i64 (Int.tmod b (64 : Int)), [(19, .int .i64 b)], [], []⟩) (fun t hm => One.step rfl (.free rfl) (OpT.rem rfl (dl rfl rfl) hm.s0 rfl (by decide) rfl)) (Ct.mo rfl rfl) ?_
      obtain ⟨q, h⟩ := ck_some h
      refine DG.step (c := ⟨some 21, .int .u64 (IntKind.u64.wrap ((1 : Int) * 2 ^ min (Int.toNat (Int.tmod b (64 : Int))) IntKind.u64.bits)), [(20, .int .i64 (Int.tmod b (64 : Int)))], [], []⟩) (fun t hm => One.step rfl (.free rfl) (OpT.shl rfl (dl rfl rfl) rfl hm.s0 q rfl)) (Ct.mo rfl rfl) ?_
      refine DG.step (c := ⟨some 22, .int .u64 (bits .or .u64 (Arr4.get d (wI (Int.tdiv b (64 : Int)))) (IntKind.u64.wrap ((1 : Int) * 2 ^ min (Int.toNat (Int.tmod b (64 : Int))) IntKind.u64.bits))), [(18, .int .u64 (Arr4.get d (wI (Int.tdiv b (64 : Int))))), (21, .int .u64 (IntKind.u64.wrap ((1 : Int) * 2 ^ min (Int.toNat (Int.tmod b (64 : Int))) IntKind.u64.bits)))], [], []⟩) (fun t hm => One.step rfl (.free rfl) (OpT.int2 rfl rfl (dl rfl rfl) hm.s0 hm.s1 rfl)) (Ct.mo rfl rfl) ?_
      refine DG.step (c := ⟨some 23, .ptr f (0 + (Int.toNat (wI (Int.tdiv b (64 : Int)))) * 1), [(5, .ptr f 0), (16, .int .i64 (wI (Int.tdiv b (64 : Int))))], [], []⟩) (fun t hm => One.step rfl (.free rfl) (OpT.indexPtr rfl (dl rfl rfl) Tryd.underlying25 i23 hm.s0 hm.s1 g.1 g.2 rfl)) (Ct.mo rfl rfl) ?_
      refine DG.step (c := ⟨none, .any, [(23, .ptr f (0 + (Int.toNat (wI (Int.tdiv b (64 : Int)))) * 1)), (22, .int .u64 (bits .or .u64 (Arr4.get d (wI (Int.tdiv b (64 : Int)))) (IntKind.u64.wrap ((1 : Int) * 2 ^ min (Int.toNat (Int.tmod b (64 : Int))) IntKind.u64.bits))))], [(1, .box f 25 (Arr4.oc .u64 d))], [(1, .box f 25 (Arr4.oc .u64 (Arr4.set d (wI (Int.tdiv b (64 : Int))) (bits .or .u64 (Arr4.get d (wI (Int.tdiv b (64 : Int)))) (IntKind.u64.wrap ((1 : Int) * 2 ^ min (Int.toNat (Int.tmod b (64 : Int))) IntKind.u64.bits))))))]⟩) (fun t hm => One.step rfl (.free rfl) (OpT.sT (i := 1) (cells' := (Arr4.oc .u64 (Arr4.set d (wI (Int.tdiv b (64 : Int))) (bits .or .u64 (Arr4.get d (wI (Int.tdiv b (64 : Int)))) (IntKind.u64.wrap ((1 : Int) * 2 ^ min (Int.toNat (Int.tmod b (64 : Int))) IntKind.u64.bits)))))) rfl rfl i23 hm.s0 hm.s1 hm.o0 (Arr4.oc_lt (k := .u64) (a := d) (pre := []) (post := []) g.1 g.2) (Arr4.oc_set (k := .u64) (a := d) (pre := []) (post := []) g.1 g.2) rfl)) (Ct.mo rfl rfl) ?_
      refine DG.fin (s1 := ⟨[(1, .int .u8 x1), (4, .ptr j 0), (5, .ptr f 0), (6, .int .i64 b)], [.box j 25 (Arr4.oc .u64 m), .box f 25 (Arr4.oc .u64 (Arr4.set d (wI (Int.tdiv b (64 : Int))) (bits .or .u64 (Arr4.get d (wI (Int.tdiv b (64 : Int)))) (IntKind.u64.wrap ((1 : Int) * 2 ^ min (Int.toNat (Int.tmod b (64 : Int))) IntKind.u64.bits)))))]⟩) (ms := [0, 1, 3, 7, 0, 16, 48, 127, 255, 511]) TrydMixed rfl (by kernel_rfl) (by kernel_rfl) (by kernel_rfl) (.cons rfl (.cons rfl (.cons rfl (.cons rfl (.nil _))))) rfl (fun u hu => (inBlock_normal (tN (T.by_turn hu ?_))))
      refine T.rL ?_
      refine mv rfl rfl rfl rfl rfl ?_
      refine sp rfl (OpT.int2 rfl rfl (dl rfl rfl) rfl rfl ?_)
      refine asg rfl rfl rfl rfl rfl ?_
      refine TL'.nil (tN ?_)
      refine TL.by_turn ?_ (ih x1 (wI (b + (1 : Int))) m (Arr4.set d (wI (Int.tdiv b (64 : Int))) (bits .or .u64 (Arr4.get d (wI (Int.tdiv b (64 : Int)))) (IntKind.u64.wrap ((1 : Int) * 2 ^ min (Int.toNat (Int.tmod b (64 : Int))) IntKind.u64.bits)))) j f h)
      exact Turn.rp (.cons rfl (.cons rfl (.cons rfl (.cons rfl (.nil _))))) (.c .z (.c .z (.n _)))
    · refine T.condF rfl p ?_
      refine T.exit (thenS_exit (thenS_exit (inBlock_exit (tN ?_))))
      refine T.seq ?_
      refine T.rL ?_
      refine sp rfl (OpT.lBAgg (i := 1) (l := (Arr4.dc .u64 d)) rfl (dl rfl rfl) Tryd.underlying25 rfl i25 rfl rfl rfl rfl ?_)
      refine sp rfl (OpT.storeAggTo (i := 0) (cells' := (Arr4.oc .u64 d)) rfl rfl i25 rfl rfl rfl rfl (Nat.le_of_ble_eq_true rfl) rfl ?_)
      refine TL'.nil (tN ?_)
      refine T.ret ?_
      exact Fin.done (.cons _ _ _ _ (.cellAgg 4 25 _ 0 0 25 _ (Arr4.dc .u64 d) _ _ 4 _ rfl rfl rfl rfl Tryd.underlying25 rfl i25) .nil) (by cases h; exact ⟨rfl, rfl⟩)
theorem bset_Range_T (K : Nat) {x0 : Int} {x1 : Int} {r : Arr4} (h : bset_Range K x0 x1 = some r) : CallR Tryd.prog 110 [.int .u8 x0, .int .u8 x1] [] (.agg (Arr4.dc .u64 r)) := by
 refine CallT.intro Tryd.func110 rfl (nb rfl) ?_
 show T Tryd.prog 25 (Code.at [] (codeOf Tryd.f110)) ⟨paramSlots 0 [.int .u8 x0, .int .u8 x1], []⟩ (bset_Range_q r)
 unfold bset_Range at h
 refine T.seq (T.rL ?_)
 refine sp rfl (OpT.alloc' rfl (dk rfl) i25 rfl (fun a => ?_))
 refine TL'.nil (tN (T.seq (T.rL ?_)))
 refine sp rfl (OpT.alloc' rfl (dk rfl) i25 rfl (fun b => ?_))
 refine TL'.nil (tN ?_)
 refine T.seq ?_
 refine T.seq (T.rL ?_)
 refine mw rfl ?_
 refine sp rfl (OpT.convInt rfl (dk rfl) ul5 ul3 rfl ?_)
 refine aw rfl ?_
 refine TL'.nil (tN ?_)
 refine T.block ?_
 refine T.loop ?_
 refine TL.by_turn ?_ (bset_Range_l0_T K K x1 (wI x0) (Arr4.mk 0 0 0 0) (Arr4.mk 0 0 0 0) a b h)
 exact Turn.rp (.cons rfl (.cons rfl (.cons rfl (.cons rfl (.nil _))))) (.c (.s .z) (.c .z (.n _)))
abbrev bset_Or_q (r : Arr4) : Exit → St → Prop := retS Tryd.prog Tryd.f109 (fun y t => y = (.agg (Arr4.dc .u64 r)) ∧ t = [])
abbrev bset_Or_qs111 (r : Arr4) : Exit → St → Prop := thenS (fun s' => T Tryd.prog 28 (Code.at [1, 1, 1] (codeOf Tryd.f109)) s' ((bset_Or_q r))) ((bset_Or_q r))
abbrev bset_Or_qb0x111 (r : Arr4) : Exit → St → Prop := inBlockS 0 ((bset_Or_qs111 r))
abbrev bset_Or_ql11010 (r : Arr4) : Exit → St → Prop := thenS (fun s' => TL Tryd.prog 28 (Code.at [1, 1, 0, 1, 0, 0] (codeOf Tryd.f109)) s' ((bset_Or_qb0x111 r))) ((bset_Or_qb0x111 r))
abbrev bset_Or_qs110100111 (r : Arr4) : Exit → St → Prop := thenS (fun s' => T Tryd.prog 28 (Code.at [1, 1, 0, 1, 0, 0, 1, 1, 1] (codeOf Tryd.f109)) s' ((bset_Or_ql11010 r))) ((bset_Or_ql11010 r))
abbrev bset_Or_qb1_0x110100111 (r : Arr4) : Exit → St → Prop := inBlockS 1 ((bset_Or_qs110100111 r))
abbrev bset_Or_qb2_1_0x110100111 (r : Arr4) : Exit → St → Prop := inBlockS 2 ((bset_Or_qb1_0x110100111 r))
abbrev bset_Or_l0_H (r : Arr4) (go : (List Arr4) → Int → Int → Arr4 → Arr4 → Option Arr4) : Prop := ∀ (x0 : List Arr4) (a : Int) (b : Int) (c : Arr4) (d : Arr4) (flx0 : Bool) (f : Nat) (g : Nat), go x0 a b c d = some r → TL Tryd.prog 28 (Code.at [1, 1, 0, 1, 0, 0] (codeOf Tryd.f109)) ⟨[(2, .ptr f 0), (3, .ptr g 0), (8, .sl flx0 4 (x0.map (Arr4.dc .u64))), (9, .int .i64 a), (10, .int .i64 b)], [.box f 25 (Arr4.oc .u64 c), .box g 25 (Arr4.oc .u64 d)]⟩ (bset_Or_qb0x111 r)
theorem bset_Or_l1_T {r : Arr4} (K : Nat) (go0 : (List Arr4) → Int → Int → Arr4 → Arr4 → Option Arr4) (hgo0 : bset_Or_l0_H r go0) : ∀ (k : Nat), ∀ (x0 : List Arr4) (j : Int) (l : Int) (g : Arr4) (f : Int) (m : Arr4) (d : Arr4) (flx0 : Bool) (p : Nat) (q : Nat), bset_Or_l1 K go0 k x0 j l g f m d = some r → TL Tryd.prog 28 (Code.at [1, 1, 0, 1, 0, 0, 1, 1, 0, 0, 1, 1, 0, 0] (codeOf Tryd.f109)) ⟨[(2, .ptr p 0), (3, .ptr q 0), (8, .sl flx0 4 (x0.map (Arr4.dc .u64))), (9, .int .i64 j), (10, .int .i64 l), (14, .agg (Arr4.dc .u64 g)), (15, .int .i64 f)], [.box p 25 (Arr4.oc .u64 m), .box q 25 (Arr4.oc .u64 d)]⟩ (bset_Or_qb2_1_0x110100111 r) := by
  intro k
  induction k with
  | zero =>
    intro x0 j l g f m d flx0 p q h
    cases (show (none : Option Arr4) = some r from h)
  | succ k ih =>
    intro x0 j l g f m d flx0 p q h
    rw [bset_Or_l1] at h
    refine TL.round ?_
    refine T.seq ?_
    refine T.rL ?_
    refine sp rfl (OpT.int2 rfl rfl (dl rfl rfl) rfl rfl ?_)
    refine TL'.nil (tN ?_)
    refine T.seq ?_
    rcases bif_some h with ⟨s, h⟩ | ⟨s, h⟩
    · refine T.condT rfl s ?_
      refine T.skip (tN ?_)
      refine T.seq ?_
      refine T.block ?_
      refine T.seq ?_
      refine T.rL ?_
      refine mv rfl rfl rfl rfl rfl ?_
      obtain ⟨b, h⟩ := ck_some h
      refine sp rfl (OpT.indexArr rfl (dl rfl rfl) Tryd.underlying25 Tryd.underlying23 rfl i23 rfl rfl b.1 b.2 (Arr4.dc_get (a := g) (k := .u64) b.1 b.2) ?_)
      refine asg rfl rfl rfl rfl rfl ?_
      refine asg rfl rfl rfl rfl rfl ?_
      refine TL'.nil (tN ?_)
      refine T.rL ?_
      refine mv rfl rfl rfl rfl rfl ?_
      refine sp rfl (OpT.indexPtr rfl (dl rfl rfl) Tryd.underlying25 i23 rfl rfl b.1 b.2 ?_)
      refine sp rfl (OpT.lB (i := 1) rfl (dl rfl rfl) Tryd.underlying23 rfl rfl rfl (Arr4.oc_get (k := .u64) (a := d) (pre := []) (post := []) b.1 b.2) ?_)
      refine mv rfl rfl rfl rfl rfl ?_
      refine sp rfl (OpT.int2 rfl rfl (dl rfl rfl) rfl rfl ?_)
      refine sp rfl (OpT.indexPtr rfl (dl rfl rfl) Tryd.underlying25 i23 rfl rfl b.1 b.2 ?_)
      refine sp rfl (OpT.sT (i := 1) (cells' := (Arr4.oc .u64 (Arr4.set d f (bits .or .u64 (Arr4.get d f) (Arr4.get g f))))) rfl rfl i23 rfl rfl rfl (Arr4.oc_lt (k := .u64) (a := d) (pre := []) (post := []) b.1 b.2) (Arr4.oc_set (k := .u64) (a := d) (pre := []) (post := []) b.1 b.2) ?_)
      refine TL'.nil (inBlock_normal (tN ?_))
      refine T.rL ?_
      refine sp rfl (OpT.int2 rfl rfl (dl rfl rfl) rfl rfl ?_)
      refine mv rfl rfl rfl rfl rfl ?_
      refine TL'.nil (tN ?_)
      refine TL.by_turn ?_ (ih x0 j l g (wI (f + (1 : Int))) m (Arr4.set d f (bits .or .u64 (Arr4.get d f) (Arr4.get g f))) flx0 p q h)
      exact Turn.rp (.cons rfl (.cons rfl (.cons rfl (.cons rfl (.cons rfl (.cons rfl (.cons rfl (.nil _)))))))) (.c .z (.c .z (.n _)))
    · refine T.condF rfl s ?_
      refine T.exit (thenS_exit (thenS_exit (inBlock_exit (inBlock_normal (tN ?_)))))
      refine T.rL ?_
      refine sp rfl (OpT.int2 rfl rfl (dl rfl rfl) rfl rfl ?_)
      refine mv rfl rfl rfl rfl rfl ?_
      refine TL'.nil (tN ?_)
      refine TL.by_turn ?_ (hgo0 x0 j (wI (l + (1 : Int))) m d flx0 p q h)
      exact Turn.rp (.cons rfl (.cons rfl (.cons rfl (.cons rfl (.cons rfl (.nil _)))))) (.c .z (.c .z (.n _)))
theorem bset_Or_l0_T {r : Arr4} (K : Nat) : ∀ (k : Nat), ∀ (x0 : List Arr4) (b : Int) (d : Int) (g : Arr4) (a : Arr4) (flx0 : Bool) (j : Nat) (m : Nat), bset_Or_l0 K k x0 b d g a = some r → TL Tryd.prog 28 (Code.at [1, 1, 0, 1, 0, 0] (codeOf Tryd.f109)) ⟨[(2, .ptr j 0), (3, .ptr m 0), (8, .sl flx0 4 (x0.map (Arr4.dc .u64))), (9, .int .i64 b), (10, .int .i64 d)], [.box j 25 (Arr4.oc .u64 g), .box m 25 (Arr4.oc .u64 a)]⟩ (bset_Or_qb0x111 r) := by
  intro k
  induction k with
  | zero =>
    intro x0 b d g a flx0 j m h
    cases (show (none : Option Arr4) = some r from h)
  | succ k ih =>
    intro x0 b d g a flx0 j m h
    rw [bset_Or_l0] at h
    refine TL.round ?_
    refine T.seq ?_
    refine T.rL ?_
    refine sp rfl (OpT.int2 rfl rfl (dl rfl rfl) rfl rfl ?_)
    refine TL'.nil (tN ?_)
    refine T.seq ?_
    rcases bif_some h with ⟨q, h⟩ | ⟨q, h⟩
    · refine T.condT rfl q ?_
      refine T.skip (tN ?_)
      refine T.seq ?_
      refine T.block ?_
      refine T.seq ?_
      refine T.rL ?_
      obtain ⟨p, u, h⟩ := bind_some h
      refine sp rfl (OpT.indexSlM (xs := x0) (f := (Arr4.dc .u64)) (v := p) rfl (dl rfl rfl) Tryd.underlying123 i25 rfl rfl u ?_)
      refine sp rfl (OpT.loadRefAgg rfl (dl rfl rfl) Tryd.underlying25 rfl i25 rfl (Nat.le_of_ble_eq_true rfl) ?_)
      refine sp rfl (OpT.alloc' rfl (dl rfl rfl) i25 rfl (fun w => ?_))
      refine sp rfl (OpT.storeAggTo (i := 0) (cells' := (Arr4.oc .u64 p)) rfl rfl i25 rfl rfl rfl rfl (Nat.le_of_ble_eq_true rfl) rfl ?_)
      refine TL'.nil (tN ?_)
      refine T.seq ?_
      refine T.rL ?_
      refine sp rfl (OpT.lBAgg (i := 0) (l := (Arr4.dc .u64 p)) rfl (dl rfl rfl) Tryd.underlying25 rfl i25 rfl rfl rfl rfl ?_)
      refine mv rfl rfl rfl rfl rfl ?_
      refine TL'.nil (tN ?_)
      refine T.block ?_
      refine T.loop ?_
      refine TL.by_turn ?_ (bset_Or_l1_T K (bset_Or_l0 K k) ih K x0 b d p (0 : Int) g a flx0 j m h)
      exact Turn.rp (.cons rfl (.cons rfl (.cons rfl (.cons rfl (.cons rfl (.cons rfl (.cons rfl (.nil _)))))))) (.c (.s .z) (.c (.s .z) (.n _)))
    · refine T.condF rfl q ?_
      refine T.exit (thenS_exit (thenS_exit (inBlock_exit (tN ?_))))
      refine T.seq ?_
      refine T.rL ?_
      refine sp rfl (OpT.lBAgg (i := 1) (l := (Arr4.dc .u64 a)) rfl (dl rfl rfl) Tryd.underlying25 rfl i25 rfl rfl rfl rfl ?_)
      refine sp rfl (OpT.storeAggTo (i := 0) (cells' := (Arr4.oc .u64 a)) rfl rfl i25 rfl rfl rfl rfl (Nat.le_of_ble_eq_true rfl) rfl ?_)
      refine TL'.nil (tN ?_)
      refine T.ret ?_
      exact Fin.done (.cons _ _ _ _ (.cellAgg 2 25 _ 0 0 25 _ (Arr4.dc .u64 a) _ _ 4 _ rfl rfl rfl rfl Tryd.underlying25 rfl i25) .nil) (by cases h; exact ⟨rfl, rfl⟩)
theorem bset_Or_T (K : Nat) {x0 : List Arr4} {flx0 : Bool} {r : Arr4} (h : bset_Or K x0 = some r) : CallR Tryd.prog 109 [.sl flx0 4 (x0.map (Arr4.dc .u64))] [] (.agg (Arr4.dc .u64 r)) := by
 refine CallT.intro Tryd.func109 rfl (nb rfl) ?_
 show T Tryd.prog 28 (Code.at [] (codeOf Tryd.f109)) ⟨paramSlots 0 [.sl flx0 4 (x0.map (Arr4.dc .u64))], []⟩ (bset_Or_q r)
 unfold bset_Or at h
 refine T.seq (T.rL ?_)
 refine sp rfl (OpT.alloc' rfl (dk rfl) i25 rfl (fun a => ?_))
 refine TL'.nil (tN (T.seq (T.rL ?_)))
 refine sp rfl (OpT.alloc' rfl (dk rfl) i25 rfl (fun b => ?_))
 refine TL'.nil (tN ?_)
 refine T.seq ?_
 refine T.seq (T.rL ?_)
 refine mw rfl ?_
 refine sp rfl (OpT.lenSlM (xs := x0) (f := (Arr4.dc .u64)) rfl (dk rfl) ul123 rfl ?_)
 refine mw rfl ?_
 refine TL'.nil (tN ?_)
 refine T.block ?_
 refine T.loop ?_
 refine TL.by_turn ?_ (bset_Or_l0_T K K x0 (x0.length : Int) (0 : Int) (Arr4.mk 0 0 0 0) (Arr4.mk 0 0 0 0) flx0 a b h)
 exact Turn.rp (.cons rfl (.cons rfl (.cons rfl (.cons rfl (.cons rfl (.nil _)))))) (.c (.s .z) (.c .z (.n _)))
abbrev syr_class_q (bx0 : Nat) (r : Arr4 × syp) : Exit → St → Prop := retS Tryd.prog Tryd.f95 (fun y t => ∃ γ : Nat → Value, y = (.agg (Arr4.dc .u64 r.1)) ∧ t = [(o74 bx0 r.2.reader.s r.2.reader.at_ r.2.reader.where_ r.2.reader.e (γ 0) r.2.deep), .arrA (γ 0) 42 9 (r.2.nodes.map c_aNd)])
abbrev syr_class_qs11111 (bx0 : Nat) (r : Arr4 × syp) : Exit → St → Prop := thenS (fun s' => T Tryd.prog 64 (Code.at [1, 1, 1, 1, 1] (codeOf Tryd.f95)) s' ((syr_class_q bx0 r))) ((syr_class_q bx0 r))
abbrev syr_class_qb0x11111 (bx0 : Nat) (r : Arr4 × syp) : Exit → St → Prop := inBlockS 0 ((syr_class_qs11111 bx0 r))
abbrev syr_class_ql1111010 (bx0 : Nat) (r : Arr4 × syp) : Exit → St → Prop := thenS (fun s' => TL Tryd.prog 64 (Code.at [1, 1, 1, 1, 0, 1, 0, 0] (codeOf Tryd.f95)) s' ((syr_class_qb0x11111 bx0 r))) ((syr_class_qb0x11111 bx0 r))
abbrev syr_class_qs1111010011 (bx0 : Nat) (r : Arr4 × syp) : Exit → St → Prop := thenS (fun s' => T Tryd.prog 64 (Code.at [1, 1, 1, 1, 0, 1, 0, 0, 1, 1] (codeOf Tryd.f95)) s' ((syr_class_ql1111010 bx0 r))) ((syr_class_ql1111010 bx0 r))
abbrev syr_class_qb1_0x1111010011 (bx0 : Nat) (r : Arr4 × syp) : Exit → St → Prop := inBlockS 1 ((syr_class_qs1111010011 bx0 r))
abbrev syr_class_qs111101001 (bx0 : Nat) (r : Arr4 × syp) : Exit → St → Prop := thenS (fun s' => T Tryd.prog 64 (Code.at [1, 1, 1, 1, 0, 1, 0, 0, 1] (codeOf Tryd.f95)) s' ((syr_class_ql1111010 bx0 r))) ((syr_class_ql1111010 bx0 r))
abbrev syr_class_l0_H (bx0 : Nat) (r : Arr4 × syp) (go : Bool → Bool → ByteArray → Int → Int → Int → Int → (List aNd) → Arr4 → Arr4 → Option (Arr4 × syp)) : Prop := ∀ (a : Bool) (b : Bool) (c : ByteArray) (d : Int) (f : Int) (g : Int) (i : Int) (j : List aNd) (l : Arr4) (m : Arr4) (n : Value) (p : Nat) (q : Nat), go a b c d f g i j l m = some r → TL Tryd.prog 64 (Code.at [1, 1, 1, 1, 0, 1, 0, 0] (codeOf Tryd.f95)) ⟨[(0, .ptr bx0 (0 + 0)), (2, .ptr p 0), (3, .bool a), (4, .ptr q 0), (5, .bool b)], [(o74 bx0 c d f g n i), .arrA n 42 9 (j.map c_aNd), .box p 25 (Arr4.oc .u64 l), .box q 25 (Arr4.oc .u64 m)]⟩ (syr_class_qb0x11111 bx0 r)
theorem syr_class_j5_T {r : Arr4 × syp} (K : Nat) (bx0 : Nat) (go0 : Bool → Bool → ByteArray → Int → Int → Int → Int → (List aNd) → Arr4 → Arr4 → Option (Arr4 × syp)) (hgo0 : syr_class_l0_H bx0 r go0) (m : Bool) (ab : Int) (ac : Int) (ad : Bool) (af : Bool) (ag : Bool) (p : ByteArray) (q : Int) (s : Int) (v : Int) (w : Int) (y : List aNd) (aa : Arr4) (a : Arr4) (f : Value) (g : Nat) (b : Nat) (h : syr_class_j5 K go0 m ab ac ad af ag p q s v w y aa a = some r) : T Tryd.prog 64 (Code.at [1, 1, 1, 1, 0, 1, 0, 0, 1, 0, 0, 1, 1, 1] (codeOf Tryd.f95)) ⟨[(0, .ptr bx0 (0 + 0)), (2, .ptr g 0), (3, .bool m), (4, .ptr b 0), (6, .int .u8 ab), (7, .int .u8 ac), (19, .bool ad), (20, .bool af), (24, .bool ag)], [(o74 bx0 p q s v f w), .arrA f 42 9 (y.map c_aNd), .box g 25 (Arr4.oc .u64 aa), .box b 25 (Arr4.oc .u64 a)]⟩ (syr_class_qb1_0x1111010011 bx0 r) := by
 unfold syr_class_j5 at h
 refine DG.start ?_
 refine DG.step (c := ⟨some 43, .agg (Arr4.dc .u64 a), [(4, .ptr b 0)], [(3, .box b 25 (Arr4.oc .u64 a))], []⟩) (fun t hm => One.step rfl (.free rfl) (OpT.lBAgg (i := 3) (l := (Arr4.dc .u64 a)) rfl (dk rfl) ul25 rfl i25 hm.s0 hm.o0 rfl rfl rfl)) (Ct.mo rfl rfl) ?_
 refine DG.mv rfl rfl rfl rfl rfl rfl ?_
 refine DG.mv rfl rfl rfl rfl rfl rfl ?_
 obtain ⟨j, ai, h⟩ := bind_some h
 refine DG.step (c := ⟨some 46, .agg (Arr4.dc .u64 j), [(44, .int .u8 ab), (45, .int .u8 ac)], [], []⟩) (fun t hm => One.step rfl (.free rfl) (OpT.callPA rfl (dk rfl) Tryd.func110 rfl rfl (Args.cons hm.s0 (Args.cons hm.s1 Args.nil)) (CallR.nil (bset_Range_T K ai)) rfl)) (Ct.mo rfl rfl) ?_
 refine DG.step (c := ⟨some 47, .sl true 4 ([a, j].map (Arr4.dc .u64)), [(43, .agg (Arr4.dc .u64 a)), (46, .agg (Arr4.dc .u64 j))], [], []⟩) (fun t hm => One.step rfl (.free rfl) (OpT.buildSlice (elems := ([a, j] : List Arr4).map (Arr4.dc .u64)) rfl (dk rfl) ul123 i25 (by decide) rfl (all1 rfl) (parts_cons hm.s0 rfl (parts_cons hm.s1 rfl parts_nil)) rfl rfl (lenAll rfl) (by decide) rfl)) (Ct.mo rfl rfl) ?_
 obtain ⟨d, aj, h⟩ := bind_some h
 refine DG.step (c := ⟨some 48, .agg (Arr4.dc .u64 d), [(47, .sl true 4 ([a, j].map (Arr4.dc .u64)))], [], []⟩) (fun t hm => One.step rfl (.free rfl) (OpT.callPA rfl (dk rfl) Tryd.func109 rfl rfl (Args.cons hm.s0 Args.nil) (CallR.nil (bset_Or_T K (flx0 := true) aj)) rfl)) (Ct.mo rfl rfl) ?_
 refine DG.step (c := ⟨none, .any, [(4, .ptr b 0), (48, .agg (Arr4.dc .u64 d))], [(3, .box b 25 (Arr4.oc .u64 a))], [(3, .box b 25 (Arr4.oc .u64 d))]⟩) (fun t hm => One.step rfl (.free rfl) (OpT.storeAggTo (i := 3) (cells' := (Arr4.oc .u64 d)) rfl rfl i25 hm.s0 hm.s1 rfl hm.o0 (nb rfl) rfl rfl)) (Ct.mo rfl rfl) ?_
 refine DG.fin (s1 := ⟨[(0, .ptr bx0 (0 + 0)), (2, .ptr g 0), (3, .bool m), (4, .ptr b 0), (19, .bool ad), (20, .bool af), (24, .bool ag)], [(o74 bx0 p q s v f w), .arrA f 42 9 (y.map c_aNd), .box g 25 (Arr4.oc .u64 aa), .box b 25 (Arr4.oc .u64 d)]⟩) (ms := [0, 0, 0, 6, 15, 31, 63]) TrydMixed rfl (by kernel_rfl) (by kernel_rfl) (by kernel_rfl) (.cons rfl (.cons rfl (.cons rfl (.cons rfl (.cons rfl (.cons rfl (.cons rfl (.nil _)))))))) rfl (fun u hu => (inBlock_normal (tN (T.by_turn hu ?_))))
 refine T.rL ?_
 refine aw rfl ?_
 refine TL'.nil (tN ?_)
 refine TL.by_turn ?_ (hgo0 m false p q s v w y aa d f g b h)
 exact Turn.rp (.cons rfl (.cons rfl (.cons rfl (.cons rfl (.cons rfl (.nil _)))))) (.c .z (.c .z (.c .z (.c .z (.n _)))))
theorem syr_class_j1_T {r : Arr4 × syp} (K : Nat) (bx0 : Nat) (go0 : Bool → Bool → ByteArray → Int → Int → Int → Int → (List aNd) → Arr4 → Arr4 → Option (Arr4 × syp)) (hgo0 : syr_class_l0_H bx0 r go0) (f : Bool) (g : Bool) (j : Bool) (l : Bool) (ab : ByteArray) (ac : Int) (ad : Int) (af : Int) (ag : Int) (ai : List aNd) (m : Arr4) (p : Arr4) (w : Value) (q : Nat) (u : Nat) (h : syr_class_j1 K go0 f g j l ab ac ad af ag ai m p = some r) : T Tryd.prog 64 (Code.at [1, 1, 1, 1, 0, 1, 0, 0, 0, 1, 0] (codeOf Tryd.f95)) ⟨[(0, .ptr bx0 (0 + 0)), (2, .ptr q 0), (3, .bool f), (4, .ptr u 0), (19, .bool g), (20, .bool j), (24, .bool l)], [(o74 bx0 ab ac ad af w ag), .arrA w 42 9 (ai.map c_aNd), .box q 25 (Arr4.oc .u64 m), .box u 25 (Arr4.oc .u64 p)]⟩ (syr_class_qs111101001 bx0 r) := by
 unfold syr_class_j1 at h
 refine T.skip (tN ?_)
 refine T.seq ?_
 refine T.block ?_
 refine T.seq (T.rL ?_)
 refine mw rfl ?_
 obtain ⟨v, am, h⟩ := bind_some h
 refine sp rfl (OpT.callG (is := [0, 1]) (ph := []) rfl (dk rfl) Tryd.func108 rfl rfl (Args.cons rfl Args.nil) (syr_member_T K (bx0 := bx0) (wx0c1 := w) am) (.cons rfl rfl (.cons rfl rfl (.nil))) (fun _ => rfl) (fun an => ?_))
 refine nm (.c (.c (.c (.c (.n))))) ?_
 refine aw rfl ?_
 refine TL'.nil (tN (T.seq (T.rL ?_)))
 refine mw rfl ?_
 refine aw rfl ?_
 refine TL'.nil (tN ?_)
 refine T.seq ?_
 refine T.seq (T.rL ?_)
 refine mw rfl ?_
 obtain ⟨b, ap, h⟩ := bind_some h
 refine sp rfl (OpT.callG (is := [0, 1]) (ph := []) rfl (dk rfl) Tryd.func58 rfl rfl (Args.cons rfl (Args.cons rfl Args.nil)) (syr_skip_T K (bx0 := bx0) (wx0c1 := (an 0)) ap) (.cons rfl rfl (.cons rfl rfl (.nil))) (fun _ => rfl) (fun aj => ?_))
 refine nm (.c (.c (.c (.c (.n))))) ?_
 refine TL'.nil (tN ?_)
 rcases bif_some h with ⟨y, h⟩ | ⟨y, h⟩
 refine T.condT rfl y ?_
 refine T.seq (T.rL ?_)
 refine mw rfl ?_
 refine sp rfl (OpT.nilCheck rfl (dk rfl) rfl rfl ?_)
 refine sp rfl (OpT.fP rfl (dk rfl) ul72 rfl i3 (by decide) rfl ?_)
 refine sp rfl (OpT.lB (i := 0) rfl (dk rfl) ul3 rfl rfl rfl rfl ?_)
 refine aw rfl ?_
 refine TL'.nil (tN (T.seq (T.rL ?_)))
 refine mw rfl ?_
 obtain ⟨a, aq, h⟩ := bind_some h
 refine sp rfl (OpT.callG (is := [0, 1]) (ph := []) rfl (dk rfl) Tryd.func108 rfl rfl (Args.cons rfl Args.nil) (syr_member_T K (bx0 := bx0) (wx0c1 := (aj 0)) aq) (.cons rfl rfl (.cons rfl rfl (.nil))) (fun _ => rfl) (fun al => ?_))
 refine nm (.c (.c (.c (.c (.n))))) ?_
 refine aw rfl ?_
 refine TL'.nil (tN (T.seq (T.rL ?_)))
 refine mw rfl ?_
 refine mw rfl ?_
 refine sp rfl (OpT.int2 rfl rfl (dk rfl) rfl rfl ?_)
 refine TL'.nil (tN ?_)
 rcases bif_some h with ⟨aa, h⟩ | ⟨aa, h⟩
 refine T.condT rfl aa ?_
 refine T.rL ?_
 refine mw rfl ?_
 refine mw rfl ?_
 obtain ⟨d, au, h⟩ := bind_some h
 refine sp rfl (OpT.callG (is := [0, 1]) (ph := []) rfl (dk rfl) Tryd.func40 rfl rfl (Args.cons rfl (Args.cons rfl (Args.cons rfl Args.nil))) (syr_fail_T K (bx0 := bx0) (wx0c1 := (al 0)) au) (.cons rfl rfl (.cons rfl rfl (.nil))) (fun _ => rfl) (fun av => ?_))
 refine nm (.c (.c (.c (.c (.n))))) ?_
 refine TL'.nil (tN ?_)
 refine T.by_turn ?_ (syr_class_j5_T K bx0 go0 hgo0 f v.1 a.1 g j l d.reader.s d.reader.at_ d.reader.where_ d.reader.e d.deep d.nodes m p (av 0) q u h)
 exact Turn.rp (.cons rfl (.cons rfl (.cons rfl (.cons rfl (.cons rfl (.cons rfl (.cons rfl (.cons rfl (.cons rfl (.nil _)))))))))) (.c .z (.c .z (.c .z (.c .z (.n _)))))
 refine T.condF rfl aa ?_
 refine T.skip (tN ?_)
 refine T.by_turn ?_ (syr_class_j5_T K bx0 go0 hgo0 f v.1 a.1 g j l a.2.reader.s a.2.reader.at_ a.2.reader.where_ a.2.reader.e a.2.deep a.2.nodes m p (al 0) q u h)
 exact Turn.rp (.cons rfl (.cons rfl (.cons rfl (.cons rfl (.cons rfl (.cons rfl (.cons rfl (.cons rfl (.cons rfl (.nil _)))))))))) (.c .z (.c .z (.c .z (.c .z (.n _)))))
 refine T.condF rfl y ?_
 refine T.skip (tN ?_)
 refine T.by_turn ?_ (syr_class_j5_T K bx0 go0 hgo0 f v.1 v.1 g j l b.2.reader.s b.2.reader.at_ b.2.reader.where_ b.2.reader.e b.2.deep b.2.nodes m p (aj 0) q u h)
 exact Turn.rp (.cons rfl (.cons rfl (.cons rfl (.cons rfl (.cons rfl (.cons rfl (.cons rfl (.cons rfl (.cons rfl (.nil _)))))))))) (.c .z (.c .z (.c .z (.c .z (.n _)))))
theorem syr_class_j4_T {r : Arr4 × syp} (K : Nat) (bx0 : Nat) (d : ByteArray) (f : Int) (g : Int) (j : Int) (m : Int) (p : List aNd) (q : Arr4) (a : Arr4) (b : Value) (s : Nat) (u : Nat) (h : syr_class_j4 K d f g j m p q a = some r) : T Tryd.prog 64 (Code.at [1, 1, 1, 1, 1, 1, 1] (codeOf Tryd.f95)) ⟨[(0, .ptr bx0 (0 + 0)), (2, .ptr s 0), (4, .ptr u 0)], [(o74 bx0 d f g j b m), .arrA b 42 9 (p.map c_aNd), .box s 25 (Arr4.oc .u64 q), .box u 25 (Arr4.oc .u64 a)]⟩ (syr_class_q bx0 r) := by
 unfold syr_class_j4 at h
 refine T.seq (T.rL ?_)
 refine mw rfl ?_
 obtain ⟨y, v, h⟩ := bind_some h
 refine sp rfl (OpT.callG (is := [0, 1]) (ph := []) rfl (dk rfl) Tryd.func96 rfl rfl (Args.cons rfl Args.nil) (syr_next_T K (bx0 := bx0) (wx0c1 := b) v) (.cons rfl rfl (.cons rfl rfl (.nil))) (fun _ => rfl) (fun w => ?_))
 refine nm (.c (.c (.c (.c (.n))))) ?_
 refine TL'.nil (tN (T.seq (T.rL ?_)))
 refine sp rfl (OpT.lBAgg (i := 3) (l := (Arr4.dc .u64 a)) rfl (dk rfl) ul25 rfl i25 rfl rfl rfl rfl ?_)
 refine sp rfl (OpT.storeAggTo (i := 2) (cells' := (Arr4.oc .u64 a)) rfl rfl i25 rfl rfl rfl rfl (nb rfl) rfl ?_)
 refine TL'.nil (tN ?_)
 refine T.ret ?_
 exact Fin.doneK (.cons _ _ _ _ (.cellAgg 2 25 _ 0 2 25 _ (Arr4.dc .u64 a) _ _ 4 _ rfl rfl rfl rfl ul25 rfl i25) .nil) (.cons 0 rfl (.cons 0 rfl (.nil _))) (by cases h; exact ⟨gl [w 0], rfl, rfl⟩)
theorem syr_class_j3_T {r : Arr4 × syp} (K : Nat) (bx0 : Nat) (m : ByteArray) (p : Int) (q : Int) (u : Int) (v : Int) (w : List aNd) (d : Arr4) (a : Arr4) (f : Value) (g : Nat) (j : Nat) (h : syr_class_j3 K m p q u v w d a = some r) : T Tryd.prog 64 (Code.at [1, 1, 1, 1, 1, 1] (codeOf Tryd.f95)) ⟨[(0, .ptr bx0 (0 + 0)), (2, .ptr g 0), (4, .ptr j 0)], [(o74 bx0 m p q u f v), .arrA f 42 9 (w.map c_aNd), .box g 25 (Arr4.oc .u64 d), .box j 25 (Arr4.oc .u64 a)]⟩ (syr_class_q bx0 r) := by
 unfold syr_class_j3 at h
 refine T.seq ?_
 refine T.seq (T.rL ?_)
 refine sp rfl (OpT.lBAgg (i := 3) (l := (Arr4.dc .u64 a)) rfl (dk rfl) ul25 rfl i25 rfl rfl rfl rfl ?_)
 refine sp rfl (OpT.build (l := (Arr4.dc .u64 (Arr4.mk 0 0 0 0))) rfl (dk rfl) (built_arr ul25 i25 i23) (all1 rfl) rfl rfl ?_)
 refine sp rfl (OpT.intsEql (k := .u64) (xs := [a.a0, a.a1, a.a2, a.a3]) (ys := [(Arr4.mk 0 0 0 0).a0, (Arr4.mk 0 0 0 0).a1, (Arr4.mk 0 0 0 0).a2, (Arr4.mk 0 0 0 0).a3]) rfl (dk rfl) ul25 ul23 i23 Tryd.eqGuardType25 rfl rfl rfl rfl rfl rfl (Arr4.same_eq a (Arr4.mk 0 0 0 0)) ?_)
 refine TL'.nil (tN ?_)
 rcases bif_some h with ⟨y, h⟩ | ⟨y, h⟩
 refine T.condT rfl y ?_
 refine T.rL ?_
 refine mw rfl ?_
 refine mw rfl ?_
 refine sp rfl (OpT.nilCheck rfl (dk rfl) rfl rfl ?_)
 refine sp rfl (OpT.fP rfl (dk rfl) ul72 rfl i3 (by decide) rfl ?_)
 refine sp rfl (OpT.lB (i := 0) rfl (dk rfl) ul3 rfl rfl rfl rfl ?_)
 obtain ⟨b, aa, h⟩ := bind_some h
 refine sp rfl (OpT.callG (is := [0, 1]) (ph := []) rfl (dk rfl) Tryd.func40 rfl rfl (Args.cons rfl (Args.cons rfl (Args.cons rfl Args.nil))) (syr_fail_T K (bx0 := bx0) (wx0c1 := f) aa) (.cons rfl rfl (.cons rfl rfl (.nil))) (fun _ => rfl) (fun ab => ?_))
 refine nm (.c (.c (.c (.c (.n))))) ?_
 refine TL'.nil (tN ?_)
 refine T.by_turn ?_ (syr_class_j4_T K bx0 b.reader.s b.reader.at_ b.reader.where_ b.reader.e b.deep b.nodes d a (ab 0) g j h)
 exact Turn.rp (.cons rfl (.cons rfl (.cons rfl (.nil _)))) (.c .z (.c .z (.c .z (.c .z (.n _)))))
 refine T.condF rfl y ?_
 refine T.skip (tN ?_)
 refine T.by_turn ?_ (syr_class_j4_T K bx0 m p q u v w d a f g j h)
 exact Turn.rp (.cons rfl (.cons rfl (.cons rfl (.nil _)))) (.c .z (.c .z (.c .z (.c .z (.n _)))))
theorem syr_class_j2_T {r : Arr4 × syp} (K : Nat) (bx0 : Nat) (w : Bool) (a : ByteArray) (b : Int) (d : Int) (f : Int) (g : Int) (j : List aNd) (m : Arr4) (p : Arr4) (q : Value) (s : Nat) (u : Nat) (h : syr_class_j2 K w a b d f g j m p = some r) : T Tryd.prog 64 (Code.at [1, 1, 1, 1, 0, 1, 0, 0, 0, 1, 1] (codeOf Tryd.f95)) ⟨[(0, .ptr bx0 (0 + 0)), (2, .ptr s 0), (3, .bool w), (4, .ptr u 0)], [(o74 bx0 a b d f q g), .arrA q 42 9 (j.map c_aNd), .box s 25 (Arr4.oc .u64 m), .box u 25 (Arr4.oc .u64 p)]⟩ (syr_class_qs111101001 bx0 r) := by
 unfold syr_class_j2 at h
 refine T.exit (thenS_exit (thenS_exit (inBlock_exit (tN ?_))))
 refine T.seq ?_
 refine T.seq (T.rL ?_)
 refine mw rfl ?_
 refine TL'.nil (tN ?_)
 rcases bif_some h with ⟨v, h⟩ | ⟨v, h⟩
 refine T.condT rfl v ?_
 refine T.rL ?_
 refine sp rfl (OpT.lBAgg (i := 3) (l := (Arr4.dc .u64 p)) rfl (dk rfl) ul25 rfl i25 rfl rfl rfl rfl ?_)
 obtain ⟨y, aa, h⟩ := bind_some h
 refine sp rfl (OpT.callPA rfl (dk rfl) Tryd.func29 rfl rfl (Args.cons rfl Args.nil) (CallR.nil (bset_Not_T K aa)) ?_)
 refine sp rfl (OpT.storeAggTo (i := 3) (cells' := (Arr4.oc .u64 y)) rfl rfl i25 rfl rfl rfl rfl (nb rfl) rfl ?_)
 refine TL'.nil (tN ?_)
 refine T.by_turn ?_ (syr_class_j3_T K bx0 a b d f g j m y q s u h)
 exact Turn.rp (.cons rfl (.cons rfl (.cons rfl (.nil _)))) (.c .z (.c .z (.c .z (.c .z (.n _)))))
 refine T.condF rfl v ?_
 refine T.skip (tN ?_)
 refine T.by_turn ?_ (syr_class_j3_T K bx0 a b d f g j m p q s u h)
 exact Turn.rp (.cons rfl (.cons rfl (.cons rfl (.nil _)))) (.c .z (.c .z (.c .z (.c .z (.n _)))))
theorem syr_class_l0_T {r : Arr4 × syp} (K : Nat) (bx0 : Nat) : ∀ (k : Nat), ∀ (d : Bool) (f : Bool) (g : ByteArray) (j : Int) (l : Int) (m : Int) (p : Int) (q : List aNd) (s : Arr4) (u : Arr4) (y : Value) (v : Nat) (w : Nat), syr_class_l0 K k d f g j l m p q s u = some r → TL Tryd.prog 64 (Code.at [1, 1, 1, 1, 0, 1, 0, 0] (codeOf Tryd.f95)) ⟨[(0, .ptr bx0 (0 + 0)), (2, .ptr v 0), (3, .bool d), (4, .ptr w 0), (5, .bool f)], [(o74 bx0 g j l m y p), .arrA y 42 9 (q.map c_aNd), .box v 25 (Arr4.oc .u64 s), .box w 25 (Arr4.oc .u64 u)]⟩ (syr_class_qb0x11111 bx0 r) := by
  intro k
  induction k with
  | zero =>
    intro d f g j l m p q s u y v w h
    cases (show (none : Option (Arr4 × syp)) = some r from h)
  | succ k ih =>
    intro d f g j l m p q s u y v w h
    rw [syr_class_l0] at h
    refine TL.round ?_
    refine T.seq ?_
    refine T.seq ?_
    refine T.rL ?_
    refine mv rfl rfl rfl rfl rfl ?_
    refine sp rfl (OpT.nilCheck rfl (dl rfl rfl) rfl rfl ?_)
    refine sp rfl (OpT.fP rfl (dl rfl rfl) Tryd.underlying72 rfl i35 (by decide) rfl ?_)
    refine sp rfl (OpT.lB (i := 0) rfl (dl rfl rfl) Tryd.underlying35 rfl rfl rfl rfl ?_)
    refine sp rfl (OpT.int2 rfl rfl (dl rfl rfl) rfl rfl ?_)
    refine mv rfl rfl rfl rfl rfl ?_
    rcases bif_some h with ⟨a, h⟩ | ⟨a, h⟩
    · refine TL'.step (.on rfl rfl rfl a) (OpT.move rfl (dl rfl rfl) rfl ?_)
      refine TL'.step (.on rfl rfl rfl a) (OpT.move rfl (dl rfl rfl) rfl ?_)
      rcases bif_some h with ⟨b, h⟩ | ⟨b, h⟩
      · refine TL'.pU (.off _ _ _ _ rfl rfl rfl b) (dl rfl rfl) ?_
        refine TL'.pU (.off _ _ _ _ rfl rfl rfl b) (dl rfl rfl) ?_
        refine TL'.pU (.off _ _ _ _ rfl rfl rfl b) (dl rfl rfl) ?_
        refine TL'.step (.on rfl rfl rfl a) (OpT.pickT rfl (dl rfl rfl) rfl b rfl ?_)
        refine sp rfl (OpT.pickT rfl (dl rfl rfl) rfl a rfl ?_)
        refine TL'.nil (tN ?_)
        refine T.condT rfl rfl ?_
        refine T.by_turn ?_ (syr_class_j1_T K bx0 (syr_class_l0 K k) ih d f f true g j l m p q s u y v w h)
        exact Turn.rp (.cons rfl (.cons rfl (.cons rfl (.cons rfl (.cons rfl (.cons rfl (.cons rfl (.nil _)))))))) (.c .z (.c .z (.c .z (.c .z (.n _)))))
      · refine TL'.step (.on rfl rfl rfl b) (OpT.move rfl (dl rfl rfl) rfl ?_)
        obtain ⟨ac, ad, h⟩ := bind_some h
        refine TL'.step (.on rfl rfl rfl b) (OpT.callG (is := [0, 1]) (ph := []) rfl (dl rfl rfl) Tryd.func77 rfl rfl (Args.cons rfl (Args.cons rfl Args.nil)) (syr_is_T K (bx0 := bx0) (wx0c1 := y) ad) (.cons rfl rfl (.cons rfl rfl (.nil))) (fun _ => rfl) (fun ab => ?_))
        refine nm (.c (.c (.c (.c (.n))))) ?_
        refine TL'.step (.on rfl rfl rfl b) (OpT.not rfl (dl rfl rfl) rfl ?_)
        refine TL'.step (.on rfl rfl rfl a) (OpT.pickF rfl (dl rfl rfl) rfl b rfl ?_)
        refine sp rfl (OpT.pickT rfl (dl rfl rfl) rfl a rfl ?_)
        refine TL'.nil (tN ?_)
        rcases bif_some h with ⟨aa, h⟩ | ⟨aa, h⟩
        · refine T.condT rfl aa ?_
          refine T.by_turn ?_ (syr_class_j1_T K bx0 (syr_class_l0 K k) ih d f f (!ac) g j l m p q s u (ab 0) v w h)
          exact Turn.rp (.cons rfl (.cons rfl (.cons rfl (.cons rfl (.cons rfl (.cons rfl (.cons rfl (.nil _)))))))) (.c .z (.c .z (.c .z (.c .z (.n _)))))
        · refine T.condF rfl aa ?_
          refine T.by_turn ?_ (syr_class_j2_T K bx0 d g j l m p q s u (ab 0) v w h)
          exact Turn.rp (.cons rfl (.cons rfl (.cons rfl (.cons rfl (.nil _))))) (.c .z (.c .z (.c .z (.c .z (.n _)))))
    · refine TL'.pU (.off _ _ _ _ rfl rfl rfl a) (dl rfl rfl) ?_
      refine TL'.pU (.off _ _ _ _ rfl rfl rfl a) (dl rfl rfl) ?_
      refine TL'.pU (.gone _ _ _ rfl rfl rfl) (dl rfl rfl) ?_
      refine TL'.pU (.gone _ _ _ rfl rfl rfl) (dl rfl rfl) ?_
      refine TL'.pU (.gone _ _ _ rfl rfl rfl) (dl rfl rfl) ?_
      refine TL'.pU (.off _ _ _ _ rfl rfl rfl a) (dl rfl rfl) ?_
      refine sp rfl (OpT.pickF rfl (dl rfl rfl) rfl a rfl ?_)
      refine TL'.nil (tN ?_)
      refine T.condF rfl rfl ?_
      refine T.by_turn ?_ (syr_class_j2_T K bx0 d g j l m p q s u y v w h)
      exact Turn.rp (.cons rfl (.cons rfl (.cons rfl (.cons rfl (.nil _))))) (.c .z (.c .z (.c .z (.c .z (.n _)))))
theorem syr_class_T (K : Nat) {x0 : syp} {bx0 : Nat} {wx0c1 : Value} {r : Arr4 × syp} (h : syr_class K x0 = some r) : CallG Tryd.prog 95 [.ptr bx0 (0 + 0)] [(o74 bx0 x0.reader.s x0.reader.at_ x0.reader.where_ x0.reader.e wx0c1 x0.deep), .arrA wx0c1 42 9 (x0.nodes.map c_aNd)] (fun γ => (.agg (Arr4.dc .u64 r.1))) (fun γ => [(o74 bx0 r.2.reader.s r.2.reader.at_ r.2.reader.where_ r.2.reader.e (γ 0) r.2.deep), .arrA (γ 0) 42 9 (r.2.nodes.map c_aNd)]) := by
 refine CallT.intro Tryd.func95 rfl (nb rfl) ?_
 show T Tryd.prog 64 (Code.at [] (codeOf Tryd.f95)) ⟨paramSlots 0 [.ptr bx0 (0 + 0)], [(o74 bx0 x0.reader.s x0.reader.at_ x0.reader.where_ x0.reader.e wx0c1 x0.deep), .arrA wx0c1 42 9 (x0.nodes.map c_aNd)]⟩ (syr_class_q bx0 r)
 unfold syr_class at h
 refine T.seq (T.rL ?_)
 refine sp rfl (OpT.alloc' rfl (dk rfl) i25 rfl (fun b => ?_))
 refine TL'.nil (tN (T.seq (T.rL ?_)))
 refine mw rfl ?_
 obtain ⟨l, d, h⟩ := bind_some h
 refine sp rfl (OpT.callG (is := [1, 2]) (ph := []) rfl (dk rfl) Tryd.func96 rfl rfl (Args.cons rfl Args.nil) (syr_next_T K (bx0 := bx0) (wx0c1 := wx0c1) d) (.cons rfl rfl (.cons rfl rfl (.nil))) (fun _ => rfl) (fun f => ?_))
 refine nm (.c (.c (.c (.n)))) ?_
 refine TL'.nil (tN (T.seq (T.rL ?_)))
 refine mw rfl ?_
 obtain ⟨a, g, h⟩ := bind_some h
 refine sp rfl (OpT.callG (is := [1, 2]) (ph := []) rfl (dk rfl) Tryd.func58 rfl rfl (Args.cons rfl (Args.cons rfl Args.nil)) (syr_skip_T K (bx0 := bx0) (wx0c1 := (f 0)) g) (.cons rfl rfl (.cons rfl rfl (.nil))) (fun _ => rfl) (fun i => ?_))
 refine nm (.c (.c (.c (.n)))) ?_
 refine aw rfl ?_
 refine TL'.nil (tN (T.seq (T.rL ?_)))
 refine sp rfl (OpT.alloc' rfl (dk rfl) i25 rfl (fun j => ?_))
 refine TL'.nil (tN ?_)
 refine T.seq ?_
 refine T.seq (T.rL ?_)
 refine aw rfl ?_
 refine TL'.nil (tN ?_)
 refine T.block ?_
 refine T.loop ?_
 refine TL.by_turn ?_ (syr_class_l0_T K bx0 K a.1 true a.2.reader.s a.2.reader.at_ a.2.reader.where_ a.2.reader.e a.2.deep a.2.nodes (Arr4.mk 0 0 0 0) (Arr4.mk 0 0 0 0) (i 0) b j h)
 exact Turn.rp (.cons rfl (.cons rfl (.cons rfl (.cons rfl (.cons rfl (.nil _)))))) (.c (.s (.s .z)) (.c (.s (.s .z)) (.c (.s .z) (.c .z (.n _)))))
abbrev syp_group_q (bx0 : Nat) (r : Int × syp) : Exit → St → Prop := retS Tryd.prog Tryd.f93 (fun y t => ∃ γ : Nat → Value, y = (.int .i64 r.1) ∧ t = [(o74 bx0 r.2.reader.s r.2.reader.at_ r.2.reader.where_ r.2.reader.e (γ 0) r.2.deep), .arrA (γ 0) 42 9 (r.2.nodes.map c_aNd)])
theorem syp_group_T (K : Nat) (rec_syp_alternative : syp → Option (Int × syp)) (hrec_syp_alternative : syp_alternative_S rec_syp_alternative) {x0 : syp} {bx0 : Nat} {wx0c1 : Value} {r : Int × syp} (h : syp_group K rec_syp_alternative x0 = some r) : CallG Tryd.prog 93 [.ptr bx0 0] [(o74 bx0 x0.reader.s x0.reader.at_ x0.reader.where_ x0.reader.e wx0c1 x0.deep), .arrA wx0c1 42 9 (x0.nodes.map c_aNd)] (fun γ => (.int .i64 r.1)) (fun γ => [(o74 bx0 r.2.reader.s r.2.reader.at_ r.2.reader.where_ r.2.reader.e (γ 0) r.2.deep), .arrA (γ 0) 42 9 (r.2.nodes.map c_aNd)]) := by
 refine CallT.intro Tryd.func93 rfl (nb rfl) ?_
 show T Tryd.prog 43 (Code.at [] (codeOf Tryd.f93)) ⟨paramSlots 0 [.ptr bx0 0], [(o74 bx0 x0.reader.s x0.reader.at_ x0.reader.where_ x0.reader.e wx0c1 x0.deep), .arrA wx0c1 42 9 (x0.nodes.map c_aNd)]⟩ (syp_group_q bx0 r)
 unfold syp_group at h
 refine T.seq (T.rL ?_)
 refine aw rfl ?_
 refine TL'.nil (tN ?_)
 refine T.seq ?_
 refine T.seq (T.rL ?_)
 refine mw rfl ?_
 refine sp rfl (OpT.nilCheck rfl (dk rfl) rfl rfl ?_)
 refine sp rfl (OpT.fP rfl (dk rfl) ul74 rfl i3 (by decide) rfl ?_)
 refine sp rfl (OpT.lB (i := 0) rfl (dk rfl) ul3 rfl rfl rfl rfl ?_)
 refine sp rfl (OpT.int2 rfl rfl (dk rfl) rfl rfl ?_)
 refine TL'.nil (tN ?_)
 rcases bif_some h with ⟨l, h⟩ | ⟨l, h⟩
 refine T.condT rfl l ?_
 refine T.seq ?_
 refine DGG.start ?_
 refine DGG.step (c := fun a => ⟨some 9, .ptr bx0 0, [(0, .ptr bx0 0)], [], []⟩) [] (fun _ _ _ => rfl) (fun a t hm => One.step rfl (.free rfl) (OpT.move rfl (dk rfl) hm.s0 ⟨u0, rfl⟩)) (fun a => Ct.mo rfl rfl) ?_
 refine DGG.step (c := fun a => ⟨some 10, .ptr bx0 0, [(9, .ptr bx0 0)], [], []⟩) [] (fun _ _ _ => rfl) (fun a t hm => One.step rfl (.free rfl) (OpT.nilCheck rfl (dk rfl) hm.s0 rfl ⟨u0, rfl⟩)) (fun a => Ct.mo rfl rfl) ?_
 refine DGG.step (c := fun a => ⟨some 11, .ptr bx0 (0 + 0), [(10, .ptr bx0 0)], [], []⟩) [] (fun _ _ _ => rfl) (fun a t hm => One.step rfl (.free rfl) (OpT.fP rfl (dk rfl) ul74 rfl i72 (by decide) hm.s0 ⟨u0, rfl⟩)) (fun a => Ct.mo rfl rfl) ?_
 refine DGG.step (c := fun a => ⟨some 12, .ptr bx0 0, [(0, .ptr bx0 0)], [], []⟩) [] (fun _ _ _ => rfl) (fun a t hm => One.step rfl (.free rfl) (OpT.move rfl (dk rfl) hm.s0 ⟨u0, rfl⟩)) (fun a => Ct.mo rfl rfl) ?_
 refine DGG.step (c := fun a => ⟨some 13, .ptr bx0 0, [(12, .ptr bx0 0)], [], []⟩) [] (fun _ _ _ => rfl) (fun a t hm => One.step rfl (.free rfl) (OpT.nilCheck rfl (dk rfl) hm.s0 rfl ⟨u0, rfl⟩)) (fun a => Ct.mo rfl rfl) ?_
 refine DGG.step (c := fun a => ⟨some 14, .ptr bx0 (0 + 0), [(13, .ptr bx0 0)], [], []⟩) [] (fun _ _ _ => rfl) (fun a t hm => One.step rfl (.free rfl) (OpT.fP rfl (dk rfl) ul74 rfl i72 (by decide) hm.s0 ⟨u0, rfl⟩)) (fun a => Ct.mo rfl rfl) ?_
 refine DGG.step (c := fun a => ⟨some 15, .ptr bx0 (0 + 0 + 1), [(14, .ptr bx0 (0 + 0))], [], []⟩) [] (fun _ _ _ => rfl) (fun a t hm => One.step rfl (.free rfl) (OpT.fP rfl (dk rfl) ul72 rfl i3 (by decide) hm.s0 ⟨u0, rfl⟩)) (fun a => Ct.mo rfl rfl) ?_
 refine DGG.step (c := fun a => ⟨some 16, .int .i64 x0.reader.at_, [(15, .ptr bx0 (0 + 0 + 1))], [(0, (o74 bx0 x0.reader.s x0.reader.at_ x0.reader.where_ x0.reader.e wx0c1 x0.deep))], []⟩) [] (fun _ _ _ => rfl) (fun a t hm => One.step rfl (.free rfl) (OpT.lB (i := 0) rfl (dk rfl) ul3 rfl hm.s0 hm.o0 rfl ⟨u0, rfl⟩)) (fun a => Ct.mo rfl rfl) ?_
 obtain ⟨b, q, h⟩ := bind_some h
 refine DGG.step (c := fun a => ⟨some 17, .tup [], [(11, .ptr bx0 (0 + 0)), (16, .int .i64 x0.reader.at_)], [(1, .arrA wx0c1 42 9 (x0.nodes.map c_aNd)), (0, (o74 bx0 x0.reader.s x0.reader.at_ x0.reader.where_ x0.reader.e wx0c1 x0.deep))], [(0, (o74 bx0 b.reader.s b.reader.at_ b.reader.where_ b.reader.e ((a 8).1 0) b.deep)), (1, .arrA ((a 8).1 0) 42 9 (b.nodes.map c_aNd))]⟩) [8] (fun a γ' h => by simp only [h 8 (by decide)]) (fun a t hm => One.step rfl (.free rfl) (OpT.callG (is := [0, 1]) (ph := []) rfl (dk rfl) Tryd.func40 rfl rfl (Args.cons hm.s0 (Args.cons rfl (Args.cons hm.s1 Args.nil))) (syr_fail_T K (bx0 := bx0) (wx0c1 := wx0c1) q) (.cons hm.o1 rfl (.cons hm.o0 rfl (.nil))) (fun _ => rfl) (fun g => ⟨(g, 0), rfl⟩))) (fun a => Ct.mo rfl rfl) ?_
 refine DGG.fin (s1 := fun a => ⟨[], [(o74 bx0 b.reader.s b.reader.at_ b.reader.where_ b.reader.e ((a 8).1 0) b.deep), .arrA ((a 8).1 0) 42 9 (b.nodes.map c_aNd)]⟩) (ms := [0, 1, 3, 0, 8, 24, 56, 120, 255]) TrydMixed rfl (by kernel_rfl) (by kernel_rfl) (by kernel_rfl) (fun a => by kernel_rfl) (fun a => .nil _) (fun _ => rfl) (fun a u hu => (tN (T.by_turn hu ?_)))
 refine T.seq (T.rL ?_)
 refine aw rfl ?_
 refine TL'.nil (tN ?_)
 refine T.ret (thenS_ret ?_)
 exact Fin.doneK (.cons _ _ _ _ (.tmp 2 _ rfl) .nil) (.cons 0 rfl (.cons 0 rfl (.nil _))) (by cases h; exact ⟨gl [(a 8).1 0], rfl, rfl⟩)
 refine T.condF rfl l ?_
 refine T.skip (tN ?_)
 refine T.seq (T.rL ?_)
 refine mw rfl ?_
 refine sp rfl (OpT.nilCheck rfl (dk rfl) rfl rfl ?_)
 refine sp rfl (OpT.fP rfl (dk rfl) ul74 rfl i72 (by decide) rfl ?_)
 obtain ⟨f, v, h⟩ := bind_some h
 refine sp rfl (OpT.callG (is := [0, 1]) (ph := []) rfl (dk rfl) Tryd.func96 rfl rfl (Args.cons rfl Args.nil) (syr_next_T K (bx0 := bx0) (wx0c1 := wx0c1) v) (.cons rfl rfl (.cons rfl rfl (.nil))) (fun _ => rfl) (fun m => ?_))
 refine nm (.c (.c (.n))) ?_
 refine TL'.nil (tN (T.seq (T.rL ?_)))
 refine mw rfl ?_
 refine sp rfl (OpT.nilCheck rfl (dk rfl) rfl rfl ?_)
 refine sp rfl (OpT.fP rfl (dk rfl) ul74 rfl i3 (by decide) rfl ?_)
 refine sp rfl (OpT.lB (i := 0) rfl (dk rfl) ul3 rfl rfl rfl rfl ?_)
 refine sp rfl (OpT.int2 rfl rfl (dk rfl) rfl rfl ?_)
 refine sp rfl (OpT.nilCheck rfl (dk rfl) rfl rfl ?_)
 refine sp rfl (OpT.fP rfl (dk rfl) ul74 rfl i3 (by decide) rfl ?_)
 refine sp rfl (OpT.sT (i := 0) (cells' := [.d (.str f.2.reader.s), .d (.int .i64 f.2.reader.at_), .d (.int .i64 f.2.reader.where_), .d (.int .i64 f.2.reader.e), .d (.ex (m 0)), .d (.int .i64 (wI (f.2.deep + (1 : Int))))]) rfl rfl i3 rfl rfl rfl (nb rfl) rfl ?_)
 refine TL'.nil (tN (T.seq (T.rL ?_)))
 refine mw rfl ?_
 obtain ⟨j, w, h⟩ := bind_some h
 refine sp rfl (OpT.callG (is := [0, 1]) (ph := []) rfl (dk rfl) Tryd.func38 rfl rfl (Args.cons rfl Args.nil) (hrec_syp_alternative (syp.mk f.2.reader f.2.nodes (wI (f.2.deep + (1 : Int)))) bx0 (m 0) _ w) (.cons rfl rfl (.cons rfl rfl (.nil))) (fun _ => rfl) (fun p => ?_))
 refine nm (.c (.c (.n))) ?_
 refine aw rfl ?_
 refine TL'.nil (tN (T.seq (T.rL ?_)))
 refine mw rfl ?_
 refine sp rfl (OpT.nilCheck rfl (dk rfl) rfl rfl ?_)
 refine sp rfl (OpT.fP rfl (dk rfl) ul74 rfl i3 (by decide) rfl ?_)
 refine sp rfl (OpT.lB (i := 0) rfl (dk rfl) ul3 rfl rfl rfl rfl ?_)
 refine sp rfl (OpT.int2 rfl rfl (dk rfl) rfl rfl ?_)
 refine sp rfl (OpT.nilCheck rfl (dk rfl) rfl rfl ?_)
 refine sp rfl (OpT.fP rfl (dk rfl) ul74 rfl i3 (by decide) rfl ?_)
 refine sp rfl (OpT.sT (i := 0) (cells' := [.d (.str j.2.reader.s), .d (.int .i64 j.2.reader.at_), .d (.int .i64 j.2.reader.where_), .d (.int .i64 j.2.reader.e), .d (.ex (p 0)), .d (.int .i64 (wI (j.2.deep - (1 : Int))))]) rfl rfl i3 rfl rfl rfl (nb rfl) rfl ?_)
 refine TL'.nil (tN (T.seq (T.rL ?_)))
 refine mw rfl ?_
 refine sp rfl (OpT.nilCheck rfl (dk rfl) rfl rfl ?_)
 refine sp rfl (OpT.fP rfl (dk rfl) ul74 rfl i72 (by decide) rfl ?_)
 obtain ⟨aa, y, h⟩ := bind_some h
 refine sp rfl (OpT.callG (is := [0, 1]) (ph := []) rfl (dk rfl) Tryd.func96 rfl rfl (Args.cons rfl Args.nil) (syr_next_T K (bx0 := bx0) (wx0c1 := (p 0)) y) (.cons rfl rfl (.cons rfl rfl (.nil))) (fun _ => rfl) (fun z => ?_))
 refine nm (.c (.c (.n))) ?_
 refine TL'.nil (tN (T.seq (T.rL ?_)))
 refine mw rfl ?_
 refine aw rfl ?_
 refine TL'.nil (tN ?_)
 refine T.ret ?_
 exact Fin.doneK (.cons _ _ _ _ (.tmp 2 _ rfl) .nil) (.cons 0 rfl (.cons 0 rfl (.nil _))) (by cases h; exact ⟨gl [z 0], rfl, rfl⟩)
abbrev syp_atom_q (bx0 : Nat) (r : Int × syp) : Exit → St → Prop := retS Tryd.prog Tryd.f88 (fun y t => ∃ γ : Nat → Value, y = (.int .i64 r.1) ∧ t = [(o74 bx0 r.2.reader.s r.2.reader.at_ r.2.reader.where_ r.2.reader.e (γ 0) r.2.deep), .arrA (γ 0) 42 9 (r.2.nodes.map c_aNd)])
abbrev syp_atom_qs111 (bx0 : Nat) (r : Int × syp) : Exit → St → Prop := thenS (fun s' => T Tryd.prog 96 (Code.at [1, 1, 1] (codeOf Tryd.f88)) s' ((syp_atom_q bx0 r))) ((syp_atom_q bx0 r))
abbrev syp_atom_qb0x111 (bx0 : Nat) (r : Int × syp) : Exit → St → Prop := inBlockS 0 ((syp_atom_qs111 bx0 r))
theorem syp_atom_j1_T {r : Int × syp} (K : Nat) (rec_syp_alternative : syp → Option (Int × syp)) (hrec_syp_alternative : syp_alternative_S rec_syp_alternative) (bx0 : Nat) (x0 : syp) (d : Value) (h : syp_atom_j1 K rec_syp_alternative x0 = some r) : T Tryd.prog 96 (Code.at [1, 1, 0, 0, 1, 1, 1, 1, 1, 1, 1, 1, 1, 0] (codeOf Tryd.f88)) ⟨[(0, .ptr bx0 0)], [(o74 bx0 x0.reader.s x0.reader.at_ x0.reader.where_ x0.reader.e d x0.deep), .arrA d 42 9 (x0.nodes.map c_aNd)]⟩ (syp_atom_qb0x111 bx0 r) := by
 unfold syp_atom_j1 at h
 refine T.seq ?_
 refine DGG.start ?_
 refine DGG.step (c := fun a => ⟨some 62, .ptr bx0 0, [(0, .ptr bx0 0)], [], []⟩) [] (fun _ _ _ => rfl) (fun a t hm => One.step rfl (.free rfl) (OpT.move rfl (dk rfl) hm.s0 ⟨u0, rfl⟩)) (fun a => Ct.mo rfl rfl) ?_
 refine DGG.step (c := fun a => ⟨some 63, .ptr bx0 0, [(62, .ptr bx0 0)], [], []⟩) [] (fun _ _ _ => rfl) (fun a t hm => One.step rfl (.free rfl) (OpT.nilCheck rfl (dk rfl) hm.s0 rfl ⟨u0, rfl⟩)) (fun a => Ct.mo rfl rfl) ?_
 refine DGG.step (c := fun a => ⟨some 64, .ptr bx0 (0 + 0), [(63, .ptr bx0 0)], [], []⟩) [] (fun _ _ _ => rfl) (fun a t hm => One.step rfl (.free rfl) (OpT.fP rfl (dk rfl) ul74 rfl i72 (by decide) hm.s0 ⟨u0, rfl⟩)) (fun a => Ct.mo rfl rfl) ?_
 refine DGG.step (c := fun a => ⟨some 65, .ptr bx0 0, [(0, .ptr bx0 0)], [], []⟩) [] (fun _ _ _ => rfl) (fun a t hm => One.step rfl (.free rfl) (OpT.move rfl (dk rfl) hm.s0 ⟨u0, rfl⟩)) (fun a => Ct.mo rfl rfl) ?_
 refine DGG.step (c := fun a => ⟨some 66, .ptr bx0 0, [(65, .ptr bx0 0)], [], []⟩) [] (fun _ _ _ => rfl) (fun a t hm => One.step rfl (.free rfl) (OpT.nilCheck rfl (dk rfl) hm.s0 rfl ⟨u0, rfl⟩)) (fun a => Ct.mo rfl rfl) ?_
 refine DGG.step (c := fun a => ⟨some 67, .ptr bx0 (0 + 0), [(66, .ptr bx0 0)], [], []⟩) [] (fun _ _ _ => rfl) (fun a t hm => One.step rfl (.free rfl) (OpT.fP rfl (dk rfl) ul74 rfl i72 (by decide) hm.s0 ⟨u0, rfl⟩)) (fun a => Ct.mo rfl rfl) ?_
 refine DGG.step (c := fun a => ⟨some 68, .ptr bx0 (0 + 0 + 1), [(67, .ptr bx0 (0 + 0))], [], []⟩) [] (fun _ _ _ => rfl) (fun a t hm => One.step rfl (.free rfl) (OpT.fP rfl (dk rfl) ul72 rfl i3 (by decide) hm.s0 ⟨u0, rfl⟩)) (fun a => Ct.mo rfl rfl) ?_
 refine DGG.step (c := fun a => ⟨some 69, .int .i64 x0.reader.at_, [(68, .ptr bx0 (0 + 0 + 1))], [(0, (o74 bx0 x0.reader.s x0.reader.at_ x0.reader.where_ x0.reader.e d x0.deep))], []⟩) [] (fun _ _ _ => rfl) (fun a t hm => One.step rfl (.free rfl) (OpT.lB (i := 0) rfl (dk rfl) ul3 rfl hm.s0 hm.o0 rfl ⟨u0, rfl⟩)) (fun a => Ct.mo rfl rfl) ?_
 obtain ⟨b, f, h⟩ := bind_some h
 refine DGG.step (c := fun a => ⟨some 70, .tup [], [(64, .ptr bx0 (0 + 0)), (69, .int .i64 x0.reader.at_)], [(1, .arrA d 42 9 (x0.nodes.map c_aNd)), (0, (o74 bx0 x0.reader.s x0.reader.at_ x0.reader.where_ x0.reader.e d x0.deep))], [(0, (o74 bx0 b.reader.s b.reader.at_ b.reader.where_ b.reader.e ((a 8).1 0) b.deep)), (1, .arrA ((a 8).1 0) 42 9 (b.nodes.map c_aNd))]⟩) [8] (fun a γ' h => by simp only [h 8 (by decide)]) (fun a t hm => One.step rfl (.free rfl) (OpT.callG (is := [0, 1]) (ph := []) rfl (dk rfl) Tryd.func40 rfl rfl (Args.cons hm.s0 (Args.cons rfl (Args.cons hm.s1 Args.nil))) (syr_fail_T K (bx0 := bx0) (wx0c1 := d) f) (.cons hm.o1 rfl (.cons hm.o0 rfl (.nil))) (fun _ => rfl) (fun g => ⟨(g, 0), rfl⟩))) (fun a => Ct.mo rfl rfl) ?_
 refine DGG.fin (s1 := fun a => ⟨[], [(o74 bx0 b.reader.s b.reader.at_ b.reader.where_ b.reader.e ((a 8).1 0) b.deep), .arrA ((a 8).1 0) 42 9 (b.nodes.map c_aNd)]⟩) (ms := [0, 1, 3, 0, 8, 24, 56, 120, 255]) TrydMixed rfl (by kernel_rfl) (by kernel_rfl) (by kernel_rfl) (fun a => by kernel_rfl) (fun a => .nil _) (fun _ => rfl) (fun a u hu => (tN (T.by_turn hu ?_)))
 refine T.seq (T.rL ?_)
 refine aw rfl ?_
 refine TL'.nil (tN ?_)
 refine T.ret (inBlock_ret (thenS_ret ?_))
 exact Fin.doneK (.cons _ _ _ _ (.tmp 2 _ rfl) .nil) (.cons 0 rfl (.cons 0 rfl (.nil _))) (by cases h; exact ⟨gl [(a 8).1 0], rfl, rfl⟩)
theorem syp_atom_j2_T {r : Int × syp} (K : Nat) (rec_syp_alternative : syp → Option (Int × syp)) (hrec_syp_alternative : syp_alternative_S rec_syp_alternative) (bx0 : Nat) (x0 : syp) (a : Value) (h : syp_atom_j2 K rec_syp_alternative x0 = some r) : T Tryd.prog 96 (Code.at [1, 1, 0, 0, 1, 1, 1, 1, 1, 1, 1, 1, 1, 1, 1, 1] (codeOf Tryd.f88)) ⟨[(0, .ptr bx0 0)], [(o74 bx0 x0.reader.s x0.reader.at_ x0.reader.where_ x0.reader.e a x0.deep), .arrA a 42 9 (x0.nodes.map c_aNd)]⟩ (syp_atom_qb0x111 bx0 r) := by
 unfold syp_atom_j2 at h
 refine T.skip (inBlock_normal (tN ?_))
 refine T.seq (T.rL ?_)
 refine mw rfl ?_
 refine mw rfl ?_
 refine sp rfl (OpT.nilCheck rfl (dk rfl) rfl rfl ?_)
 refine sp rfl (OpT.fP rfl (dk rfl) ul74 rfl i72 (by decide) rfl ?_)
 obtain ⟨b, d, h⟩ := bind_some h
 refine sp rfl (OpT.callG (is := [0, 1]) (ph := []) rfl (dk rfl) Tryd.func99 rfl rfl (Args.cons rfl Args.nil) (syr_one_T K (bx0 := bx0) (wx0c1 := a) d) (.cons rfl rfl (.cons rfl rfl (.nil))) (fun _ => rfl) (fun f => ?_))
 refine nm (.c (.c (.n))) ?_
 refine sp rfl (OpT.buildSlice (elems := ([b.1] : List Int).map (cI .u8)) rfl (dk rfl) ul32 i5 (by decide) rfl (all1 rfl) rfl rfl rfl (lenAll rfl) (by decide) ?_)
 obtain ⟨l, g, h⟩ := bind_some h
 refine sp rfl (OpT.callPA rfl (dk rfl) Tryd.func30 rfl rfl (Args.cons rfl Args.nil) (CallR.nil (bset_Of_T K (flx0 := true) g)) ?_)
 obtain ⟨m, i, h⟩ := bind_some h
 refine sp rfl (OpT.callG (is := [0, 1]) (ph := []) rfl (dk rfl) Tryd.func94 rfl rfl (Args.cons rfl (Args.cons rfl Args.nil)) (syp_bytes_T K (bx0 := bx0) (wx0c1 := (f 0)) i) (.cons rfl rfl (.cons rfl rfl (.nil))) (fun _ => rfl) (fun j => ?_))
 refine nm (.c (.c (.n))) ?_
 refine aw rfl ?_
 refine TL'.nil (tN ?_)
 refine T.ret ?_
 exact Fin.doneK (.cons _ _ _ _ (.tmp 2 _ rfl) .nil) (.cons 0 rfl (.cons 0 rfl (.nil _))) (by cases h; exact ⟨gl [j 0], rfl, rfl⟩)
theorem syp_atom_j0_T {r : Int × syp} (K : Nat) (rec_syp_alternative : syp → Option (Int × syp)) (hrec_syp_alternative : syp_alternative_S rec_syp_alternative) (bx0 : Nat) (p : Int) (x0 : syp) (d : Value) (h : syp_atom_j0 K rec_syp_alternative p x0 = some r) : T Tryd.prog 96 (Code.at [1, 1, 0, 0, 1, 1, 1, 1, 1, 1, 1, 1] (codeOf Tryd.f88)) ⟨[(0, .ptr bx0 0), (3, .int .u8 p)], [(o74 bx0 x0.reader.s x0.reader.at_ x0.reader.where_ x0.reader.e d x0.deep), .arrA d 42 9 (x0.nodes.map c_aNd)]⟩ (syp_atom_qb0x111 bx0 r) := by
 unfold syp_atom_j0 at h
 refine T.seq (T.rL ?_)
 refine mw rfl ?_
 refine sp rfl (OpT.int2 rfl rfl (dk rfl) rfl rfl ?_)
 refine mw rfl ?_
 rcases bif_some h with ⟨j, h⟩ | ⟨j, h⟩
 refine TL'.pU (.off _ _ _ _ rfl rfl rfl j) (dk rfl) ?_
 refine TL'.pU (.off _ _ _ _ rfl rfl rfl j) (dk rfl) ?_
 refine sp rfl (OpT.pickT rfl (dk rfl) rfl j rfl ?_)
 refine aw rfl ?_
 refine TL'.nil (tN ?_)
 refine T.condT rfl rfl ?_
 refine T.by_turn ?_ (syp_atom_j1_T K rec_syp_alternative hrec_syp_alternative bx0 x0 d h)
 exact Turn.rp (.cons rfl (.nil _)) (.c .z (.c .z (.n _)))
 refine TL'.step (.on rfl rfl rfl j) (OpT.move rfl (dk rfl) rfl ?_)
 refine TL'.step (.on rfl rfl rfl j) (OpT.int2 rfl rfl (dk rfl) rfl rfl ?_)
 refine sp rfl (OpT.pickF rfl (dk rfl) rfl j rfl ?_)
 refine aw rfl ?_
 refine TL'.nil (tN ?_)
 rcases bif_some h with ⟨l, h⟩ | ⟨l, h⟩
 refine T.condT rfl l ?_
 refine T.by_turn ?_ (syp_atom_j1_T K rec_syp_alternative hrec_syp_alternative bx0 x0 d h)
 exact Turn.rp (.cons rfl (.nil _)) (.c .z (.c .z (.n _)))
 refine T.condF rfl l ?_
 refine T.seq (T.rL ?_)
 refine mw rfl ?_
 refine sp rfl (OpT.int2 rfl rfl (dk rfl) rfl rfl ?_)
 refine mw rfl ?_
 rcases bif_some h with ⟨f, h⟩ | ⟨f, h⟩
 refine TL'.step (.on rfl rfl rfl f) (OpT.move rfl (dk rfl) rfl ?_)
 obtain ⟨w, q, h⟩ := bind_some h
 refine TL'.step (.on rfl rfl rfl f) (OpT.callPA rfl (dk rfl) Tryd.func26 rfl rfl (Args.cons rfl (Args.cons rfl Args.nil)) (CallR.nil (strings_IndexByte_T K q)) ?_)
 refine TL'.step (.on rfl rfl rfl f) (OpT.int2 rfl rfl (dk rfl) rfl rfl ?_)
 refine sp rfl (OpT.pickT rfl (dk rfl) rfl f rfl ?_)
 refine aw rfl ?_
 refine TL'.nil (tN ?_)
 rcases bif_some h with ⟨m, h⟩ | ⟨m, h⟩
 refine T.condT rfl m ?_
 refine T.seq ?_
 refine DGG.start ?_
 refine DGG.step (c := fun a => ⟨some 79, .ptr bx0 0, [(0, .ptr bx0 0)], [], []⟩) [] (fun _ _ _ => rfl) (fun a t hm => One.step rfl (.free rfl) (OpT.move rfl (dk rfl) hm.s0 ⟨u0, rfl⟩)) (fun a => Ct.mo rfl rfl) ?_
 refine DGG.step (c := fun a => ⟨some 80, .ptr bx0 0, [(79, .ptr bx0 0)], [], []⟩) [] (fun _ _ _ => rfl) (fun a t hm => One.step rfl (.free rfl) (OpT.nilCheck rfl (dk rfl) hm.s0 rfl ⟨u0, rfl⟩)) (fun a => Ct.mo rfl rfl) ?_
 refine DGG.step (c := fun a => ⟨some 81, .ptr bx0 (0 + 0), [(80, .ptr bx0 0)], [], []⟩) [] (fun _ _ _ => rfl) (fun a t hm => One.step rfl (.free rfl) (OpT.fP rfl (dk rfl) ul74 rfl i72 (by decide) hm.s0 ⟨u0, rfl⟩)) (fun a => Ct.mo rfl rfl) ?_
 refine DGG.step (c := fun a => ⟨some 82, .ptr bx0 0, [(0, .ptr bx0 0)], [], []⟩) [] (fun _ _ _ => rfl) (fun a t hm => One.step rfl (.free rfl) (OpT.move rfl (dk rfl) hm.s0 ⟨u0, rfl⟩)) (fun a => Ct.mo rfl rfl) ?_
 refine DGG.step (c := fun a => ⟨some 83, .ptr bx0 0, [(82, .ptr bx0 0)], [], []⟩) [] (fun _ _ _ => rfl) (fun a t hm => One.step rfl (.free rfl) (OpT.nilCheck rfl (dk rfl) hm.s0 rfl ⟨u0, rfl⟩)) (fun a => Ct.mo rfl rfl) ?_
 refine DGG.step (c := fun a => ⟨some 84, .ptr bx0 (0 + 0), [(83, .ptr bx0 0)], [], []⟩) [] (fun _ _ _ => rfl) (fun a t hm => One.step rfl (.free rfl) (OpT.fP rfl (dk rfl) ul74 rfl i72 (by decide) hm.s0 ⟨u0, rfl⟩)) (fun a => Ct.mo rfl rfl) ?_
 refine DGG.step (c := fun a => ⟨some 85, .ptr bx0 (0 + 0 + 1), [(84, .ptr bx0 (0 + 0))], [], []⟩) [] (fun _ _ _ => rfl) (fun a t hm => One.step rfl (.free rfl) (OpT.fP rfl (dk rfl) ul72 rfl i3 (by decide) hm.s0 ⟨u0, rfl⟩)) (fun a => Ct.mo rfl rfl) ?_
 refine DGG.step (c := fun a => ⟨some 86, .int .i64 x0.reader.at_, [(85, .ptr bx0 (0 + 0 + 1))], [(0, (o74 bx0 x0.reader.s x0.reader.at_ x0.reader.where_ x0.reader.e d x0.deep))], []⟩) [] (fun _ _ _ => rfl) (fun a t hm => One.step rfl (.free rfl) (OpT.lB (i := 0) rfl (dk rfl) ul3 rfl hm.s0 hm.o0 rfl ⟨u0, rfl⟩)) (fun a => Ct.mo rfl rfl) ?_
 obtain ⟨b, v, h⟩ := bind_some h
 refine DGG.step (c := fun a => ⟨some 87, .tup [], [(81, .ptr bx0 (0 + 0)), (86, .int .i64 x0.reader.at_)], [(1, .arrA d 42 9 (x0.nodes.map c_aNd)), (0, (o74 bx0 x0.reader.s x0.reader.at_ x0.reader.where_ x0.reader.e d x0.deep))], [(0, (o74 bx0 b.reader.s b.reader.at_ b.reader.where_ b.reader.e ((a 8).1 0) b.deep)), (1, .arrA ((a 8).1 0) 42 9 (b.nodes.map c_aNd))]⟩) [8] (fun a γ' h => by simp only [h 8 (by decide)]) (fun a t hm => One.step rfl (.free rfl) (OpT.callG (is := [0, 1]) (ph := []) rfl (dk rfl) Tryd.func40 rfl rfl (Args.cons hm.s0 (Args.cons rfl (Args.cons hm.s1 Args.nil))) (syr_fail_T K (bx0 := bx0) (wx0c1 := d) v) (.cons hm.o1 rfl (.cons hm.o0 rfl (.nil))) (fun _ => rfl) (fun g => ⟨(g, 0), rfl⟩))) (fun a => Ct.mo rfl rfl) ?_
 refine DGG.fin (s1 := fun a => ⟨[], [(o74 bx0 b.reader.s b.reader.at_ b.reader.where_ b.reader.e ((a 8).1 0) b.deep), .arrA ((a 8).1 0) 42 9 (b.nodes.map c_aNd)]⟩) (ms := [0, 1, 3, 0, 8, 24, 56, 120, 255]) TrydMixed rfl (by kernel_rfl) (by kernel_rfl) (by kernel_rfl) (fun a => by kernel_rfl) (fun a => .nil _) (fun _ => rfl) (fun a u hu => (tN (T.by_turn hu ?_)))
 refine T.seq (T.rL ?_)
 refine aw rfl ?_
 refine TL'.nil (tN ?_)
 refine T.ret (inBlock_ret (thenS_ret ?_))
 exact Fin.doneK (.cons _ _ _ _ (.tmp 2 _ rfl) .nil) (.cons 0 rfl (.cons 0 rfl (.nil _))) (by cases h; exact ⟨gl [(a 8).1 0], rfl, rfl⟩)
 refine T.condF rfl m ?_
 refine T.by_turn ?_ (syp_atom_j2_T K rec_syp_alternative hrec_syp_alternative bx0 x0 d h)
 exact Turn.rp (.cons rfl (.nil _)) (.c .z (.c .z (.n _)))
 refine TL'.pU (.off _ _ _ _ rfl rfl rfl f) (dk rfl) ?_
 refine TL'.pU (.off _ _ _ _ rfl rfl rfl f) (dk rfl) ?_
 refine TL'.pU (.off _ _ _ _ rfl rfl rfl f) (dk rfl) ?_
 refine sp rfl (OpT.pickF rfl (dk rfl) rfl f rfl ?_)
 refine aw rfl ?_
 refine TL'.nil (tN ?_)
 refine T.condF rfl rfl ?_
 refine T.by_turn ?_ (syp_atom_j2_T K rec_syp_alternative hrec_syp_alternative bx0 x0 d h)
 exact Turn.rp (.cons rfl (.nil _)) (.c .z (.c .z (.n _)))
theorem syp_atom_T (K : Nat) (rec_syp_alternative : syp → Option (Int × syp)) (hrec_syp_alternative : syp_alternative_S rec_syp_alternative) {x0 : syp} {bx0 : Nat} {wx0c1 : Value} {r : Int × syp} (h : syp_atom K rec_syp_alternative x0 = some r) : CallG Tryd.prog 88 [.ptr bx0 0] [(o74 bx0 x0.reader.s x0.reader.at_ x0.reader.where_ x0.reader.e wx0c1 x0.deep), .arrA wx0c1 42 9 (x0.nodes.map c_aNd)] (fun γ => (.int .i64 r.1)) (fun γ => [(o74 bx0 r.2.reader.s r.2.reader.at_ r.2.reader.where_ r.2.reader.e (γ 0) r.2.deep), .arrA (γ 0) 42 9 (r.2.nodes.map c_aNd)]) := by
 refine CallT.intro Tryd.func88 rfl (nb rfl) ?_
 show T Tryd.prog 96 (Code.at [] (codeOf Tryd.f88)) ⟨paramSlots 0 [.ptr bx0 0], [(o74 bx0 x0.reader.s x0.reader.at_ x0.reader.where_ x0.reader.e wx0c1 x0.deep), .arrA wx0c1 42 9 (x0.nodes.map c_aNd)]⟩ (syp_atom_q bx0 r)
 unfold syp_atom at h
 refine T.seq (T.rL ?_)
 refine aw rfl ?_
 refine TL'.nil (tN (T.seq (T.rL ?_)))
 refine mw rfl ?_
 refine sp rfl (OpT.nilCheck rfl (dk rfl) rfl rfl ?_)
 refine sp rfl (OpT.fP rfl (dk rfl) ul74 rfl i72 (by decide) rfl ?_)
 obtain ⟨m, q, h⟩ := bind_some h
 refine sp rfl (OpT.callG (is := [0, 1]) (ph := []) rfl (dk rfl) Tryd.func39 rfl rfl (Args.cons rfl Args.nil) (syr_peek_T K (bx0 := bx0) (wx0c1 := wx0c1) q) (.cons rfl rfl (.cons rfl rfl (.nil))) (fun _ => rfl) (fun b => ?_))
 refine nm (.c (.c (.n))) ?_
 refine mw rfl ?_
 refine sp rfl (OpT.extract rfl (dk rfl) rfl rfl ?_)
 refine sp rfl (OpT.extract rfl (dk rfl) rfl rfl ?_)
 refine aw rfl ?_
 refine aw rfl ?_
 refine TL'.nil (tN ?_)
 refine T.seq ?_
 refine T.block ?_
 refine T.seq (T.rL ?_)
 refine mw rfl ?_
 refine sp rfl (OpT.int2 rfl rfl (dk rfl) rfl rfl ?_)
 refine aw rfl ?_
 refine TL'.nil (tN ?_)
 rcases bif_some h with ⟨d, h⟩ | ⟨d, h⟩
 refine T.condT rfl d ?_
 refine T.seq (T.rL ?_)
 refine mw rfl ?_
 obtain ⟨au, u, h⟩ := bind_some h
 refine sp rfl (OpT.callG (is := [0, 1]) (ph := []) rfl (dk rfl) Tryd.func93 rfl rfl (Args.cons rfl Args.nil) (syp_group_T K rec_syp_alternative hrec_syp_alternative (bx0 := bx0) (wx0c1 := (b 0)) u) (.cons rfl rfl (.cons rfl rfl (.nil))) (fun _ => rfl) (fun v => ?_))
 refine nm (.c (.c (.n))) ?_
 refine aw rfl ?_
 refine TL'.nil (tN ?_)
 refine T.ret (inBlock_ret (thenS_ret ?_))
 exact Fin.doneK (.cons _ _ _ _ (.tmp 2 _ rfl) .nil) (.cons 0 rfl (.cons 0 rfl (.nil _))) (by cases h; exact ⟨gl [v 0], rfl, rfl⟩)
 refine T.condF rfl d ?_
 refine T.seq (T.rL ?_)
 refine mw rfl ?_
 refine sp rfl (OpT.int2 rfl rfl (dk rfl) rfl rfl ?_)
 refine aw rfl ?_
 refine TL'.nil (tN ?_)
 rcases bif_some h with ⟨f, h⟩ | ⟨f, h⟩
 refine T.condT rfl f ?_
 refine T.seq (T.rL ?_)
 refine mw rfl ?_
 refine mw rfl ?_
 refine sp rfl (OpT.nilCheck rfl (dk rfl) rfl rfl ?_)
 refine sp rfl (OpT.fP rfl (dk rfl) ul74 rfl i72 (by decide) rfl ?_)
 obtain ⟨av, w, h⟩ := bind_some h
 refine sp rfl (OpT.callG (is := [0, 1]) (ph := []) rfl (dk rfl) Tryd.func95 rfl rfl (Args.cons rfl Args.nil) (syr_class_T K (bx0 := bx0) (wx0c1 := (b 0)) w) (.cons rfl rfl (.cons rfl rfl (.nil))) (fun _ => rfl) (fun y => ?_))
 refine nm (.c (.c (.n))) ?_
 obtain ⟨ay, aa, h⟩ := bind_some h
 refine sp rfl (OpT.callG (is := [0, 1]) (ph := []) rfl (dk rfl) Tryd.func94 rfl rfl (Args.cons rfl (Args.cons rfl Args.nil)) (syp_bytes_T K (bx0 := bx0) (wx0c1 := (y 0)) aa) (.cons rfl rfl (.cons rfl rfl (.nil))) (fun _ => rfl) (fun ab => ?_))
 refine nm (.c (.c (.n))) ?_
 refine aw rfl ?_
 refine TL'.nil (tN ?_)
 refine T.ret (inBlock_ret (thenS_ret ?_))
 exact Fin.doneK (.cons _ _ _ _ (.tmp 2 _ rfl) .nil) (.cons 0 rfl (.cons 0 rfl (.nil _))) (by cases h; exact ⟨gl [ab 0], rfl, rfl⟩)
 refine T.condF rfl f ?_
 refine T.seq (T.rL ?_)
 refine mw rfl ?_
 refine sp rfl (OpT.int2 rfl rfl (dk rfl) rfl rfl ?_)
 refine aw rfl ?_
 refine TL'.nil (tN ?_)
 rcases bif_some h with ⟨g, h⟩ | ⟨g, h⟩
 refine T.condT rfl g ?_
 refine T.seq (T.rL ?_)
 refine mw rfl ?_
 refine sp rfl (OpT.nilCheck rfl (dk rfl) rfl rfl ?_)
 refine sp rfl (OpT.fP rfl (dk rfl) ul74 rfl i72 (by decide) rfl ?_)
 obtain ⟨az, ac, h⟩ := bind_some h
 refine sp rfl (OpT.callG (is := [0, 1]) (ph := []) rfl (dk rfl) Tryd.func96 rfl rfl (Args.cons rfl Args.nil) (syr_next_T K (bx0 := bx0) (wx0c1 := (b 0)) ac) (.cons rfl rfl (.cons rfl rfl (.nil))) (fun _ => rfl) (fun ad => ?_))
 refine nm (.c (.c (.n))) ?_
 refine TL'.nil (tN (T.seq (T.rL ?_)))
 refine mw rfl ?_
 refine sp rfl (OpT.buildSlice (elems := ([(10 : Int)] : List Int).map (cI .u8)) rfl (dk rfl) ul32 i5 (by decide) rfl (all1 rfl) rfl rfl rfl (lenAll rfl) (by decide) ?_)
 obtain ⟨a4, af, h⟩ := bind_some h
 refine sp rfl (OpT.callPA rfl (dk rfl) Tryd.func30 rfl rfl (Args.cons rfl Args.nil) (CallR.nil (bset_Of_T K (flx0 := true) af)) ?_)
 obtain ⟨a5, ag, h⟩ := bind_some h
 refine sp rfl (OpT.callPA rfl (dk rfl) Tryd.func29 rfl rfl (Args.cons rfl Args.nil) (CallR.nil (bset_Not_T K ag)) ?_)
 obtain ⟨a6, ai, h⟩ := bind_some h
 refine sp rfl (OpT.callG (is := [0, 1]) (ph := []) rfl (dk rfl) Tryd.func94 rfl rfl (Args.cons rfl (Args.cons rfl Args.nil)) (syp_bytes_T K (bx0 := bx0) (wx0c1 := (ad 0)) ai) (.cons rfl rfl (.cons rfl rfl (.nil))) (fun _ => rfl) (fun aj => ?_))
 refine nm (.c (.c (.n))) ?_
 refine aw rfl ?_
 refine TL'.nil (tN ?_)
 refine T.ret (inBlock_ret (thenS_ret ?_))
 exact Fin.doneK (.cons _ _ _ _ (.tmp 2 _ rfl) .nil) (.cons 0 rfl (.cons 0 rfl (.nil _))) (by cases h; exact ⟨gl [aj 0], rfl, rfl⟩)
 refine T.condF rfl g ?_
 refine T.seq (T.rL ?_)
 refine mw rfl ?_
 refine sp rfl (OpT.int2 rfl rfl (dk rfl) rfl rfl ?_)
 refine mw rfl ?_
 rcases bif_some h with ⟨a, h⟩ | ⟨a, h⟩
 refine TL'.step (.on rfl rfl rfl a) (OpT.move rfl (dk rfl) rfl ?_)
 refine TL'.step (.on rfl rfl rfl a) (OpT.nilCheck rfl (dk rfl) rfl rfl ?_)
 refine TL'.step (.on rfl rfl rfl a) (OpT.fP rfl (dk rfl) ul74 rfl i72 (by decide) rfl ?_)
 obtain ⟨a7, al, h⟩ := bind_some h
 refine TL'.step (.on rfl rfl rfl a) (OpT.callG (is := [0, 1]) (ph := []) rfl (dk rfl) Tryd.func97 rfl rfl (Args.cons rfl (Args.cons rfl Args.nil)) (syr_digit_T K (bx0 := bx0) (wx0c1 := (b 0)) al) (.cons rfl rfl (.cons rfl rfl (.nil))) (fun _ => rfl) (fun p => ?_))
 refine nm (.c (.c (.n))) ?_
 refine TL'.step (.on rfl rfl rfl a) (OpT.not rfl (dk rfl) rfl ?_)
 refine sp rfl (OpT.pickT rfl (dk rfl) rfl a rfl ?_)
 refine aw rfl ?_
 refine TL'.nil (tN ?_)
 rcases bif_some h with ⟨i, h⟩ | ⟨i, h⟩
 refine T.condT rfl i ?_
 refine T.seq (T.rL ?_)
 refine mw rfl ?_
 refine mw rfl ?_
 refine sp rfl (OpT.nilCheck rfl (dk rfl) rfl rfl ?_)
 refine sp rfl (OpT.fP rfl (dk rfl) ul74 rfl i72 (by decide) rfl ?_)
 obtain ⟨j, am, h⟩ := bind_some h
 refine sp rfl (OpT.callG (is := [0, 1]) (ph := []) rfl (dk rfl) Tryd.func98 rfl rfl (Args.cons rfl Args.nil) (syr_name_T K (bx0 := bx0) (wx0c1 := (p 0)) am) (.cons rfl rfl (.cons rfl rfl (.nil))) (fun _ => rfl) (fun an => ?_))
 refine nm (.c (.c (.n))) ?_
 refine sp rfl (OpT.thenTurn (OpT.build (l := [.int .u8 (6 : Int), .int .u64 (Arr4.mk 0 0 0 0).a0, .int .u64 (Arr4.mk 0 0 0 0).a1, .int .u64 (Arr4.mk 0 0 0 0).a2, .int .u64 (Arr4.mk 0 0 0 0).a3, .ex (.slice none 0 0), .int .i64 (0 : Int), .int .i64 (0 : Int), .str j.1]) rfl (dk rfl) (built_struct (pl := [(0, 1), (1, 4), (5, 1), (6, 1), (7, 1), (8, 1)]) ul42 i42 rfl) (all1 rfl) rfl rfl rfl) (Turn.weakSlotP 53 (l := [.int .u8 (6 : Int), .int .u64 (Arr4.mk 0 0 0 0).a0, .int .u64 (Arr4.mk 0 0 0 0).a1, .int .u64 (Arr4.mk 0 0 0 0).a2, .int .u64 (Arr4.mk 0 0 0 0).a3, .ex (.slice none 0 0), .int .i64 (0 : Int), .int .i64 (0 : Int), .str j.1]) (l' := [.int .u8 (6 : Int), .int .u64 (Arr4.mk 0 0 0 0).a0, .int .u64 (Arr4.mk 0 0 0 0).a1, .int .u64 (Arr4.mk 0 0 0 0).a2, .int .u64 (Arr4.mk 0 0 0 0).a3, .sl false 1 (([] : List Int).map (cI .i64)), .int .i64 (0 : Int), .int .i64 (0 : Int), .str j.1]) (.cons (.same _) (.cons (.same _) (.cons (.same _) (.cons (.same _) (.cons (.same _) (.cons (.nil _ _) (.cons (.same _) (.cons (.same _) (.cons (.same _) (.refl _))))))))))) ?_)
 obtain ⟨a8, ap, h⟩ := bind_some h
 refine sp rfl (OpT.callG (is := [0, 1]) (ph := []) rfl (dk rfl) Tryd.func76 rfl rfl (Args.cons rfl (Args.cons rfl Args.nil)) (syp_put_T K (bx0 := bx0) (wx0c1 := (an 0)) ap) (.cons rfl rfl (.cons rfl rfl (.nil))) (fun _ => rfl) (fun aq => ?_))
 refine nm (.c (.c (.n))) ?_
 refine aw rfl ?_
 refine TL'.nil (tN ?_)
 refine T.ret (inBlock_ret (thenS_ret ?_))
 exact Fin.doneK (.cons _ _ _ _ (.tmp 2 _ rfl) .nil) (.cons 0 rfl (.cons 0 rfl (.nil _))) (by cases h; exact ⟨gl [aq 0], rfl, rfl⟩)
 refine T.condF rfl i ?_
 refine T.by_turn ?_ (syp_atom_j0_T K rec_syp_alternative hrec_syp_alternative bx0 m.1 x0 (p 0) h)
 exact Turn.rp (.cons rfl (.cons rfl (.nil _))) (.c .z (.c .z (.n _)))
 refine TL'.pU (.off _ _ _ _ rfl rfl rfl a) (dk rfl) ?_
 refine TL'.pU (.off _ _ _ _ rfl rfl rfl a) (dk rfl) ?_
 refine TL'.pU (.off _ _ _ _ rfl rfl rfl a) (dk rfl) ?_
 refine TL'.pU (.off _ _ _ _ rfl rfl rfl a) (dk rfl) ?_
 refine TL'.pU (.off _ _ _ _ rfl rfl rfl a) (dk rfl) ?_
 refine sp rfl (OpT.pickF rfl (dk rfl) rfl a rfl ?_)
 refine aw rfl ?_
 refine TL'.nil (tN ?_)
 refine T.condF rfl rfl ?_
 refine T.by_turn ?_ (syp_atom_j0_T K rec_syp_alternative hrec_syp_alternative bx0 m.1 x0 (b 0) h)
 exact Turn.rp (.cons rfl (.cons rfl (.nil _))) (.c .z (.c .z (.n _)))
abbrev syr_number_q (bx0 : Nat) (r : Int × syp) : Exit → St → Prop := retS Tryd.prog Tryd.f112 (fun y t => ∃ γ : Nat → Value, y = (.int .i64 r.1) ∧ t = [(o74 bx0 r.2.reader.s r.2.reader.at_ r.2.reader.where_ r.2.reader.e (γ 0) r.2.deep), .arrA (γ 0) 42 9 (r.2.nodes.map c_aNd)])
abbrev syr_number_qs1111 (bx0 : Nat) (r : Int × syp) : Exit → St → Prop := thenS (fun s' => T Tryd.prog 42 (Code.at [1, 1, 1, 1] (codeOf Tryd.f112)) s' ((syr_number_q bx0 r))) ((syr_number_q bx0 r))
abbrev syr_number_qs111 (bx0 : Nat) (r : Int × syp) : Exit → St → Prop := thenS (fun s' => T Tryd.prog 42 (Code.at [1, 1, 1] (codeOf Tryd.f112)) s' ((syr_number_q bx0 r))) ((syr_number_q bx0 r))
abbrev syr_number_qb0x111 (bx0 : Nat) (r : Int × syp) : Exit → St → Prop := inBlockS 0 ((syr_number_qs111 bx0 r))
theorem syr_number_j1_T {r : Int × syp} (K : Nat) (bx0 : Nat) (b : ByteArray) (c : Int) (d : Int) (f : Int) (g : Int) (i : List aNd) (a : Value) (h : syr_number_j1 K b c d f g i = some r) : T Tryd.prog 42 (Code.at [1, 1, 1, 0, 1, 1, 0] (codeOf Tryd.f112)) ⟨[], [(o74 bx0 b c d f a g), .arrA a 42 9 (i.map c_aNd)]⟩ (syr_number_qs1111 bx0 r) := by
 unfold syr_number_j1 at h
 refine T.seq (T.rL ?_)
 refine aw rfl ?_
 refine TL'.nil (tN ?_)
 refine T.ret (thenS_ret ?_)
 exact Fin.doneK (.cons _ _ _ _ (.tmp 2 _ rfl) .nil) (.cons 0 rfl (.cons 0 rfl (.nil _))) (by cases h; exact ⟨gl [a], rfl, rfl⟩)
theorem syr_number_l0_T {r : Int × syp} (K : Nat) (bx0 : Nat) : ∀ (k : Nat), ∀ (x0 : syp) (f : Int) (g : ByteArray) (j : Int) (l : Int) (m : Int) (p : Int) (q : List aNd) (u : Value), syr_number_l0 K k x0 f g j l m p q = some r → TL Tryd.prog 42 (Code.at [1, 1, 0, 0, 0] (codeOf Tryd.f112)) ⟨[(0, .ptr bx0 (0 + 0)), (3, .int .i64 x0.reader.at_), (4, .int .i64 f)], [(o74 bx0 g j l m u p), .arrA u 42 9 (q.map c_aNd)]⟩ (syr_number_qb0x111 bx0 r) := by
  intro k
  induction k with
  | zero =>
    intro x0 f g j l m p q u h
    cases (show (none : Option (Int × syp)) = some r from h)
  | succ k ih =>
    intro x0 f g j l m p q u h
    rw [syr_number_l0] at h
    refine TL.round ?_
    refine T.seq ?_
    refine T.seq ?_
    refine T.rL ?_
    refine mv rfl rfl rfl rfl rfl ?_
    obtain ⟨af, ab, h⟩ := bind_some h
    refine sp rfl (OpT.callG (is := [0, 1]) (ph := []) rfl (dl rfl rfl) Tryd.func97 rfl rfl (Args.cons rfl (Args.cons rfl Args.nil)) (syr_digit_T K (bx0 := bx0) (wx0c1 := u) ab) (.cons rfl rfl (.cons rfl rfl (.nil))) (fun _ => rfl) (fun v => ?_))
    refine nm (.c (.c (.n))) ?_
    refine TL'.nil (tN ?_)
    rcases bif_some h with ⟨w, h⟩ | ⟨w, h⟩
    · refine T.condT rfl w ?_
      refine T.skip (tN ?_)
      refine T.block ?_
      refine T.rL ?_
      refine mv rfl rfl rfl rfl rfl ?_
      refine sp rfl (OpT.int2 rfl rfl (dl rfl rfl) rfl rfl ?_)
      refine mv rfl rfl rfl rfl rfl ?_
      obtain ⟨d, ac, h⟩ := bind_some h
      refine sp rfl (OpT.callG (is := [0, 1]) (ph := []) rfl (dl rfl rfl) Tryd.func96 rfl rfl (Args.cons rfl Args.nil) (syr_next_T K (bx0 := bx0) (wx0c1 := (v 0)) ac) (.cons rfl rfl (.cons rfl rfl (.nil))) (fun _ => rfl) (fun ad => ?_))
      refine nm (.c (.c (.n))) ?_
      refine sp rfl (OpT.int2 rfl rfl (dl rfl rfl) rfl rfl ?_)
      refine sp rfl (OpT.convInt rfl (dl rfl rfl) Tryd.underlying5 Tryd.underlying3 rfl ?_)
      refine sp rfl (OpT.int2 rfl rfl (dl rfl rfl) rfl rfl ?_)
      refine sp rfl (OpT.min2 rfl (dl rfl rfl) rfl rfl ?_)
      refine asg rfl rfl rfl rfl rfl ?_
      refine TL'.nil (inBlock_normal (tN ?_))
      refine TL.by_turn ?_ (ih x0 (if (4097 : Int) < (wI ((wI ((10 : Int) * f)) + (wI (IntKind.u8.wrap (d.1 - (48 : Int)))))) then (4097 : Int) else (wI ((wI ((10 : Int) * f)) + (wI (IntKind.u8.wrap (d.1 - (48 : Int))))))) d.2.reader.s d.2.reader.at_ d.2.reader.where_ d.2.reader.e d.2.deep d.2.nodes (ad 0) h)
      exact Turn.rp (.cons rfl (.cons rfl (.cons rfl (.nil _)))) (.c .z (.c .z (.n _)))
    · refine T.condF rfl w ?_
      refine T.exit (thenS_exit (thenS_exit (inBlock_exit (tN ?_))))
      refine T.seq ?_
      refine T.seq ?_
      refine T.rL ?_
      refine mv rfl rfl rfl rfl rfl ?_
      refine sp rfl (OpT.nilCheck rfl (dl rfl rfl) rfl rfl ?_)
      refine sp rfl (OpT.fP rfl (dl rfl rfl) Tryd.underlying72 rfl i3 (by decide) rfl ?_)
      refine sp rfl (OpT.lB (i := 0) rfl (dl rfl rfl) Tryd.underlying3 rfl rfl rfl rfl ?_)
      refine mv rfl rfl rfl rfl rfl ?_
      refine sp rfl (OpT.int2 rfl rfl (dl rfl rfl) rfl rfl ?_)
      refine asg rfl rfl rfl rfl rfl ?_
      refine TL'.nil (tN ?_)
      refine T.seq ?_
      refine T.rL ?_
      refine mv rfl rfl rfl rfl rfl ?_
      refine sp rfl (OpT.int2 rfl rfl (dl rfl rfl) rfl rfl ?_)
      refine mv rfl rfl rfl rfl rfl ?_
      rcases bif_some h with ⟨b, h⟩ | ⟨b, h⟩
      · refine TL'.pU (.off _ _ _ _ rfl rfl rfl b) (dl rfl rfl) ?_
        refine TL'.pU (.off _ _ _ _ rfl rfl rfl b) (dl rfl rfl) ?_
        refine TL'.pU (.off _ _ _ _ rfl rfl rfl b) (dl rfl rfl) ?_
        refine TL'.pU (.gone _ _ _ rfl rfl rfl) (dl rfl rfl) ?_
        refine TL'.pU (.gone _ _ _ rfl rfl rfl) (dl rfl rfl) ?_
        refine TL'.pU (.gone _ _ _ rfl rfl rfl) (dl rfl rfl) ?_
        refine TL'.pU (.gone _ _ _ rfl rfl rfl) (dl rfl rfl) ?_
        refine TL'.pU (.gone _ _ _ rfl rfl rfl) (dl rfl rfl) ?_
        refine TL'.pU (.gone _ _ _ rfl rfl rfl) (dl rfl rfl) ?_
        refine TL'.pU (.gone _ _ _ rfl rfl rfl) (dl rfl rfl) ?_
        refine TL'.pU (.off _ _ _ _ rfl rfl rfl b) (dl rfl rfl) ?_
        refine sp rfl (OpT.pickT rfl (dl rfl rfl) rfl b rfl ?_)
        refine TL'.nil (tN ?_)
        refine T.condT rfl rfl ?_
        refine T.by_turn ?_ (syr_number_j1_T K bx0 g j l m p q (v 0) h)
        exact Turn.rp (.nil _) (.c .z (.c .z (.n _)))
      · refine TL'.step (.on rfl rfl rfl b) (OpT.move rfl (dl rfl rfl) rfl ?_)
        refine TL'.step (.on rfl rfl rfl b) (OpT.int2 rfl rfl (dl rfl rfl) rfl rfl ?_)
        refine TL'.step (.on rfl rfl rfl b) (OpT.move rfl (dl rfl rfl) rfl ?_)
        rcases bif_some h with ⟨a, h⟩ | ⟨a, h⟩
        · refine TL'.step (.on rfl rfl rfl a) (OpT.move rfl (dl rfl rfl) rfl ?_)
          refine TL'.step (.on rfl rfl rfl a) (OpT.nilCheck rfl (dl rfl rfl) rfl rfl ?_)
          refine TL'.step (.on rfl rfl rfl a) (OpT.fP rfl (dl rfl rfl) Tryd.underlying72 rfl i9 (by decide) rfl ?_)
          refine TL'.step (.on rfl rfl rfl a) (OpT.lB (i := 0) rfl (dl rfl rfl) Tryd.underlying9 rfl rfl rfl rfl ?_)
          refine TL'.step (.on rfl rfl rfl a) (OpT.move rfl (dl rfl rfl) rfl ?_)
          obtain ⟨aa, h⟩ := ck_some h
          refine TL'.step (.on rfl rfl rfl a) (OpT.indexStr rfl (dl rfl rfl) Tryd.underlying9 rfl rfl aa.1 aa.2 ?_)
          refine TL'.step (.on rfl rfl rfl a) (OpT.int2 rfl rfl (dl rfl rfl) rfl rfl ?_)
          refine TL'.step (.on rfl rfl rfl b) (OpT.pickT rfl (dl rfl rfl) rfl a rfl ?_)
          refine sp rfl (OpT.pickF rfl (dl rfl rfl) rfl b rfl ?_)
          refine TL'.nil (tN ?_)
          rcases bif_some h with ⟨y, h⟩ | ⟨y, h⟩
          · refine T.condT rfl y ?_
            refine T.by_turn ?_ (syr_number_j1_T K bx0 g j l m p q (v 0) h)
            exact Turn.rp (.nil _) (.c .z (.c .z (.n _)))
          · refine T.condF rfl y ?_
            refine T.skip (tN ?_)
            refine T.seq ?_
            refine T.rL ?_
            refine mv rfl rfl rfl rfl rfl ?_
            refine asg rfl rfl rfl rfl rfl ?_
            refine TL'.nil (tN ?_)
            refine T.ret ?_
            exact Fin.doneK (.cons _ _ _ _ (.tmp 2 _ rfl) .nil) (.cons 0 rfl (.cons 0 rfl (.nil _))) (by cases h; exact ⟨gl [v 0], rfl, rfl⟩)
        · refine TL'.pU (.off _ _ _ _ rfl rfl rfl a) (dl rfl rfl) ?_
          refine TL'.pU (.off _ _ _ _ rfl rfl rfl a) (dl rfl rfl) ?_
          refine TL'.pU (.off _ _ _ _ rfl rfl rfl a) (dl rfl rfl) ?_
          refine TL'.pU (.off _ _ _ _ rfl rfl rfl a) (dl rfl rfl) ?_
          refine TL'.pU (.off _ _ _ _ rfl rfl rfl a) (dl rfl rfl) ?_
          refine TL'.pU (.off _ _ _ _ rfl rfl rfl a) (dl rfl rfl) ?_
          refine TL'.pU (.off _ _ _ _ rfl rfl rfl a) (dl rfl rfl) ?_
          refine TL'.step (.on rfl rfl rfl b) (OpT.pickF rfl (dl rfl rfl) rfl a rfl ?_)
          refine sp rfl (OpT.pickF rfl (dl rfl rfl) rfl b rfl ?_)
          refine TL'.nil (tN ?_)
          refine T.condF rfl rfl ?_
          refine T.skip (tN ?_)
          refine T.seq ?_
          refine T.rL ?_
          refine mv rfl rfl rfl rfl rfl ?_
          refine asg rfl rfl rfl rfl rfl ?_
          refine TL'.nil (tN ?_)
          refine T.ret ?_
          exact Fin.doneK (.cons _ _ _ _ (.tmp 2 _ rfl) .nil) (.cons 0 rfl (.cons 0 rfl (.nil _))) (by cases h; exact ⟨gl [v 0], rfl, rfl⟩)
theorem syr_number_T (K : Nat) {x0 : syp} {bx0 : Nat} {wx0c1 : Value} {r : Int × syp} (h : syr_number K x0 = some r) : CallG Tryd.prog 112 [.ptr bx0 (0 + 0)] [(o74 bx0 x0.reader.s x0.reader.at_ x0.reader.where_ x0.reader.e wx0c1 x0.deep), .arrA wx0c1 42 9 (x0.nodes.map c_aNd)] (fun γ => (.int .i64 r.1)) (fun γ => [(o74 bx0 r.2.reader.s r.2.reader.at_ r.2.reader.where_ r.2.reader.e (γ 0) r.2.deep), .arrA (γ 0) 42 9 (r.2.nodes.map c_aNd)]) := by
 refine CallT.intro Tryd.func112 rfl (nb rfl) ?_
 show T Tryd.prog 42 (Code.at [] (codeOf Tryd.f112)) ⟨paramSlots 0 [.ptr bx0 (0 + 0)], [(o74 bx0 x0.reader.s x0.reader.at_ x0.reader.where_ x0.reader.e wx0c1 x0.deep), .arrA wx0c1 42 9 (x0.nodes.map c_aNd)]⟩ (syr_number_q bx0 r)
 unfold syr_number at h
 refine T.seq (T.rL ?_)
 refine aw rfl ?_
 refine TL'.nil (tN (T.seq (T.rL ?_)))
 refine mw rfl ?_
 refine sp rfl (OpT.nilCheck rfl (dk rfl) rfl rfl ?_)
 refine sp rfl (OpT.fP rfl (dk rfl) ul72 rfl i3 (by decide) rfl ?_)
 refine sp rfl (OpT.lB (i := 0) rfl (dk rfl) ul3 rfl rfl rfl rfl ?_)
 refine aw rfl ?_
 refine aw rfl ?_
 refine TL'.nil (tN ?_)
 refine T.seq ?_
 refine T.block ?_
 refine T.loop ?_
 refine TL.by_turn ?_ (syr_number_l0_T K bx0 K x0 (0 : Int) x0.reader.s x0.reader.at_ x0.reader.where_ x0.reader.e x0.deep x0.nodes wx0c1 h)
 exact Turn.rp (.cons rfl (.cons rfl (.cons rfl (.nil _)))) (.c .z (.c .z (.n _)))
abbrev syr_bounds_q (bx0 : Nat) (r : Int × Int × syp) : Exit → St → Prop := retS Tryd.prog Tryd.f100 (fun y t => ∃ γ : Nat → Value, y = (.tup [.int .i64 r.1, .int .i64 r.2.1]) ∧ t = [(o74 bx0 r.2.2.reader.s r.2.2.reader.at_ r.2.2.reader.where_ r.2.2.reader.e (γ 0) r.2.2.deep), .arrA (γ 0) 42 9 (r.2.2.nodes.map c_aNd)])
abbrev syr_bounds_qs111111111 (bx0 : Nat) (r : Int × Int × syp) : Exit → St → Prop := thenS (fun s' => T Tryd.prog 76 (Code.at [1, 1, 1, 1, 1, 1, 1, 1, 1] (codeOf Tryd.f100)) s' ((syr_bounds_q bx0 r))) ((syr_bounds_q bx0 r))
abbrev syr_bounds_qb0x111111111 (bx0 : Nat) (r : Int × Int × syp) : Exit → St → Prop := inBlockS 0 ((syr_bounds_qs111111111 bx0 r))
theorem syr_bounds_j1_T {r : Int × Int × syp} (K : Nat) (bx0 : Nat) (b : Int) (c : Int) (d : ByteArray) (f : Int) (g : Int) (i : Int) (j : Int) (l : List aNd) (a : Value) (h : syr_bounds_j1 K b c d f g i j l = some r) : T Tryd.prog 76 (Code.at [1, 1, 1, 1, 1, 1, 1, 1, 1] (codeOf Tryd.f100)) ⟨[(2, .int .i64 b), (3, .int .i64 c)], [(o74 bx0 d f g i a j), .arrA a 42 9 (l.map c_aNd)]⟩ (syr_bounds_q bx0 r) := by
 unfold syr_bounds_j1 at h
 refine T.seq (T.rL ?_)
 refine mw rfl ?_
 refine mw rfl ?_
 refine aw rfl ?_
 refine aw rfl ?_
 refine TL'.nil (tN ?_)
 refine T.ret ?_
 exact Fin.doneK (.cons _ _ _ _ (.tmp 2 _ rfl) (.cons _ _ _ _ (.tmp 3 _ rfl) .nil)) (.cons 0 rfl (.cons 0 rfl (.nil _))) (by cases h; exact ⟨gl [a], rfl, rfl⟩)
theorem syr_bounds_j2_T {r : Int × Int × syp} (K : Nat) (bx0 : Nat) (b : Int) (d : Int) (x0 : syp) (g : ByteArray) (i : Int) (j : Int) (l : Int) (m : Int) (p : List aNd) (f : Value) (h : syr_bounds_j2 K b d x0 g i j l m p = some r) : T Tryd.prog 76 (Code.at [1, 1, 1, 1, 1, 1, 1, 1, 0, 1, 0, 1, 1, 1, 1, 1, 0] (codeOf Tryd.f100)) ⟨[(0, .ptr bx0 (0 + 0)), (2, .int .i64 b), (3, .int .i64 d), (4, .int .i64 x0.reader.at_)], [(o74 bx0 g i j l f m), .arrA f 42 9 (p.map c_aNd)]⟩ (syr_bounds_qb0x111111111 bx0 r) := by
 unfold syr_bounds_j2 at h
 refine T.rL ?_
 refine mw rfl ?_
 refine mw rfl ?_
 obtain ⟨a, q, h⟩ := bind_some h
 refine sp rfl (OpT.callG (is := [0, 1]) (ph := []) rfl (dk rfl) Tryd.func40 rfl rfl (Args.cons rfl (Args.cons rfl (Args.cons rfl Args.nil))) (syr_fail_T K (bx0 := bx0) (wx0c1 := f) q) (.cons rfl rfl (.cons rfl rfl (.nil))) (fun _ => rfl) (fun u => ?_))
 refine nm (.c (.c (.n))) ?_
 refine TL'.nil (inBlock_normal (tN ?_))
 refine T.by_turn ?_ (syr_bounds_j1_T K bx0 b d a.reader.s a.reader.at_ a.reader.where_ a.reader.e a.deep a.nodes (u 0) h)
 exact Turn.rp (.cons rfl (.cons rfl (.nil _))) (.c .z (.c .z (.n _)))
theorem syr_bounds_j3_T {r : Int × Int × syp} (K : Nat) (bx0 : Nat) (a : Int) (b : Int) (d : ByteArray) (f : Int) (g : Int) (i : Int) (j : Int) (l : List aNd) (m : Value) (h : syr_bounds_j3 K a b d f g i j l = some r) : T Tryd.prog 76 (Code.at [1, 1, 1, 1, 1, 1, 1, 1, 0, 1, 0, 1, 1, 1, 1, 1, 1] (codeOf Tryd.f100)) ⟨[(2, .int .i64 a), (3, .int .i64 b)], [(o74 bx0 d f g i m j), .arrA m 42 9 (l.map c_aNd)]⟩ (syr_bounds_qb0x111111111 bx0 r) := by
 unfold syr_bounds_j3 at h
 refine T.skip (inBlock_normal (tN ?_))
 refine T.by_turn ?_ (syr_bounds_j1_T K bx0 a b d f g i j l m h)
 exact Turn.rp (.cons rfl (.cons rfl (.nil _))) (.c .z (.c .z (.n _)))
theorem syr_bounds_j0_T {r : Int × Int × syp} (K : Nat) (bx0 : Nat) (d : Int) (f : Int) (x0 : syp) (aa : Bool) (ab : ByteArray) (ac : Int) (ad : Int) (af : Int) (ag : Int) (ai : List aNd) (u : Value) (h : syr_bounds_j0 K d f x0 aa ab ac ad af ag ai = some r) : T Tryd.prog 76 (Code.at [1, 1, 1, 1, 1, 1, 1] (codeOf Tryd.f100)) ⟨[(0, .ptr bx0 (0 + 0)), (2, .int .i64 d), (3, .int .i64 f), (4, .int .i64 x0.reader.at_), (5, .bool aa)], [(o74 bx0 ab ac ad af u ag), .arrA u 42 9 (ai.map c_aNd)]⟩ (syr_bounds_q bx0 r) := by
 unfold syr_bounds_j0 at h
 refine T.seq (T.rL ?_)
 refine mw rfl ?_
 refine sp rfl (OpT.nilCheck rfl (dk rfl) rfl rfl ?_)
 refine sp rfl (OpT.fP rfl (dk rfl) ul72 rfl i3 (by decide) rfl ?_)
 refine sp rfl (OpT.lB (i := 0) rfl (dk rfl) ul3 rfl rfl rfl rfl ?_)
 refine aw rfl ?_
 refine TL'.nil (tN ?_)
 refine T.seq ?_
 refine T.seq (T.rL ?_)
 refine mw rfl ?_
 obtain ⟨a, aj, h⟩ := bind_some h
 refine sp rfl (OpT.callG (is := [0, 1]) (ph := []) rfl (dk rfl) Tryd.func96 rfl rfl (Args.cons rfl Args.nil) (syr_next_T K (bx0 := bx0) (wx0c1 := u) aj) (.cons rfl rfl (.cons rfl rfl (.nil))) (fun _ => rfl) (fun g => ?_))
 refine nm (.c (.c (.n))) ?_
 refine aw rfl ?_
 refine TL'.nil (tN ?_)
 refine T.block ?_
 refine T.seq (T.rL ?_)
 refine mw rfl ?_
 refine sp rfl (OpT.nilCheck rfl (dk rfl) rfl rfl ?_)
 refine sp rfl (OpT.fP rfl (dk rfl) ul72 rfl i35 (by decide) rfl ?_)
 refine sp rfl (OpT.lB (i := 0) rfl (dk rfl) ul35 rfl rfl rfl rfl ?_)
 refine sp rfl (OpT.int2 rfl rfl (dk rfl) rfl rfl ?_)
 refine aw rfl ?_
 refine TL'.nil (tN ?_)
 rcases bif_some h with ⟨v, h⟩ | ⟨v, h⟩
 refine T.condT rfl v ?_
 refine T.skip (inBlock_normal (tN ?_))
 refine T.by_turn ?_ (syr_bounds_j1_T K bx0 d f a.2.reader.s a.2.reader.at_ a.2.reader.where_ a.2.reader.e a.2.deep a.2.nodes (g 0) h)
 exact Turn.rp (.cons rfl (.cons rfl (.nil _))) (.c .z (.c .z (.n _)))
 refine T.condF rfl v ?_
 refine T.seq (T.rL ?_)
 refine mw rfl ?_
 refine sp rfl (OpT.int2 rfl rfl (dk rfl) rfl rfl ?_)
 refine aw rfl ?_
 refine TL'.nil (tN ?_)
 rcases bif_some h with ⟨w, h⟩ | ⟨w, h⟩
 refine T.condT rfl w ?_
 refine T.rL ?_
 refine mw rfl ?_
 refine mw rfl ?_
 obtain ⟨q, al, h⟩ := bind_some h
 refine sp rfl (OpT.callG (is := [0, 1]) (ph := []) rfl (dk rfl) Tryd.func40 rfl rfl (Args.cons rfl (Args.cons rfl (Args.cons rfl Args.nil))) (syr_fail_T K (bx0 := bx0) (wx0c1 := (g 0)) al) (.cons rfl rfl (.cons rfl rfl (.nil))) (fun _ => rfl) (fun am => ?_))
 refine nm (.c (.c (.n))) ?_
 refine TL'.nil (inBlock_normal (tN ?_))
 refine T.by_turn ?_ (syr_bounds_j1_T K bx0 d f q.reader.s q.reader.at_ q.reader.where_ q.reader.e q.deep q.nodes (am 0) h)
 exact Turn.rp (.cons rfl (.cons rfl (.nil _))) (.c .z (.c .z (.n _)))
 refine T.condF rfl w ?_
 refine T.seq (T.rL ?_)
 refine mw rfl ?_
 refine mw rfl ?_
 rcases bif_some h with ⟨l, h⟩ | ⟨l, h⟩
 refine TL'.pU (.off _ _ _ _ rfl rfl rfl l) (dk rfl) ?_
 refine TL'.pU (.off _ _ _ _ rfl rfl rfl l) (dk rfl) ?_
 refine sp rfl (OpT.pickT rfl (dk rfl) rfl l rfl ?_)
 refine mw rfl ?_
 refine TL'.pU (.off _ _ _ _ rfl rfl rfl rfl) (dk rfl) ?_
 refine TL'.pU (.off _ _ _ _ rfl rfl rfl rfl) (dk rfl) ?_
 refine sp rfl (OpT.pickT rfl (dk rfl) rfl rfl rfl ?_)
 refine mw rfl ?_
 refine TL'.pU (.off _ _ _ _ rfl rfl rfl rfl) (dk rfl) ?_
 refine TL'.pU (.off _ _ _ _ rfl rfl rfl rfl) (dk rfl) ?_
 refine sp rfl (OpT.pickT rfl (dk rfl) rfl rfl rfl ?_)
 refine mw rfl ?_
 refine TL'.pU (.off _ _ _ _ rfl rfl rfl rfl) (dk rfl) ?_
 refine TL'.pU (.off _ _ _ _ rfl rfl rfl rfl) (dk rfl) ?_
 refine TL'.pU (.off _ _ _ _ rfl rfl rfl rfl) (dk rfl) ?_
 refine TL'.pU (.gone _ _ _ rfl rfl rfl) (dk rfl) ?_
 refine TL'.pU (.gone _ _ _ rfl rfl rfl) (dk rfl) ?_
 refine TL'.pU (.gone _ _ _ rfl rfl rfl) (dk rfl) ?_
 refine TL'.pU (.off _ _ _ _ rfl rfl rfl rfl) (dk rfl) ?_
 refine sp rfl (OpT.pickT rfl (dk rfl) rfl rfl rfl ?_)
 refine aw rfl ?_
 refine TL'.nil (tN ?_)
 refine T.condT rfl rfl ?_
 refine T.by_turn ?_ (syr_bounds_j2_T K bx0 d f x0 a.2.reader.s a.2.reader.at_ a.2.reader.where_ a.2.reader.e a.2.deep a.2.nodes (g 0) h)
 exact Turn.rp (.cons rfl (.cons rfl (.cons rfl (.cons rfl (.nil _))))) (.c .z (.c .z (.n _)))
 refine TL'.step (.on rfl rfl rfl l) (OpT.move rfl (dk rfl) rfl ?_)
 refine TL'.step (.on rfl rfl rfl l) (OpT.int2 rfl rfl (dk rfl) rfl rfl ?_)
 refine sp rfl (OpT.pickF rfl (dk rfl) rfl l rfl ?_)
 refine mw rfl ?_
 rcases bif_some h with ⟨m, h⟩ | ⟨m, h⟩
 refine TL'.pU (.off _ _ _ _ rfl rfl rfl m) (dk rfl) ?_
 refine TL'.pU (.off _ _ _ _ rfl rfl rfl m) (dk rfl) ?_
 refine sp rfl (OpT.pickT rfl (dk rfl) rfl m rfl ?_)
 refine mw rfl ?_
 refine TL'.pU (.off _ _ _ _ rfl rfl rfl rfl) (dk rfl) ?_
 refine TL'.pU (.off _ _ _ _ rfl rfl rfl rfl) (dk rfl) ?_
 refine sp rfl (OpT.pickT rfl (dk rfl) rfl rfl rfl ?_)
 refine mw rfl ?_
 refine TL'.pU (.off _ _ _ _ rfl rfl rfl rfl) (dk rfl) ?_
 refine TL'.pU (.off _ _ _ _ rfl rfl rfl rfl) (dk rfl) ?_
 refine TL'.pU (.off _ _ _ _ rfl rfl rfl rfl) (dk rfl) ?_
 refine TL'.pU (.gone _ _ _ rfl rfl rfl) (dk rfl) ?_
 refine TL'.pU (.gone _ _ _ rfl rfl rfl) (dk rfl) ?_
 refine TL'.pU (.gone _ _ _ rfl rfl rfl) (dk rfl) ?_
 refine TL'.pU (.off _ _ _ _ rfl rfl rfl rfl) (dk rfl) ?_
 refine sp rfl (OpT.pickT rfl (dk rfl) rfl rfl rfl ?_)
 refine aw rfl ?_
 refine TL'.nil (tN ?_)
 refine T.condT rfl rfl ?_
 refine T.by_turn ?_ (syr_bounds_j2_T K bx0 d f x0 a.2.reader.s a.2.reader.at_ a.2.reader.where_ a.2.reader.e a.2.deep a.2.nodes (g 0) h)
 exact Turn.rp (.cons rfl (.cons rfl (.cons rfl (.cons rfl (.nil _))))) (.c .z (.c .z (.n _)))
 refine TL'.step (.on rfl rfl rfl m) (OpT.move rfl (dk rfl) rfl ?_)
 refine TL'.step (.on rfl rfl rfl m) (OpT.int2 rfl rfl (dk rfl) rfl rfl ?_)
 refine sp rfl (OpT.pickF rfl (dk rfl) rfl m rfl ?_)
 refine mw rfl ?_
 rcases bif_some h with ⟨p, h⟩ | ⟨p, h⟩
 refine TL'.pU (.off _ _ _ _ rfl rfl rfl p) (dk rfl) ?_
 refine TL'.pU (.off _ _ _ _ rfl rfl rfl p) (dk rfl) ?_
 refine sp rfl (OpT.pickT rfl (dk rfl) rfl p rfl ?_)
 refine mw rfl ?_
 refine TL'.pU (.off _ _ _ _ rfl rfl rfl rfl) (dk rfl) ?_
 refine TL'.pU (.off _ _ _ _ rfl rfl rfl rfl) (dk rfl) ?_
 refine TL'.pU (.off _ _ _ _ rfl rfl rfl rfl) (dk rfl) ?_
 refine TL'.pU (.gone _ _ _ rfl rfl rfl) (dk rfl) ?_
 refine TL'.pU (.gone _ _ _ rfl rfl rfl) (dk rfl) ?_
 refine TL'.pU (.gone _ _ _ rfl rfl rfl) (dk rfl) ?_
 refine TL'.pU (.off _ _ _ _ rfl rfl rfl rfl) (dk rfl) ?_
 refine sp rfl (OpT.pickT rfl (dk rfl) rfl rfl rfl ?_)
 refine aw rfl ?_
 refine TL'.nil (tN ?_)
 refine T.condT rfl rfl ?_
 refine T.by_turn ?_ (syr_bounds_j2_T K bx0 d f x0 a.2.reader.s a.2.reader.at_ a.2.reader.where_ a.2.reader.e a.2.deep a.2.nodes (g 0) h)
 exact Turn.rp (.cons rfl (.cons rfl (.cons rfl (.cons rfl (.nil _))))) (.c .z (.c .z (.n _)))
 refine TL'.step (.on rfl rfl rfl p) (OpT.move rfl (dk rfl) rfl ?_)
 refine TL'.step (.on rfl rfl rfl p) (OpT.int2 rfl rfl (dk rfl) rfl rfl ?_)
 refine sp rfl (OpT.pickF rfl (dk rfl) rfl p rfl ?_)
 refine mw rfl ?_
 rcases bif_some h with ⟨b, h⟩ | ⟨b, h⟩
 refine TL'.pU (.off _ _ _ _ rfl rfl rfl b) (dk rfl) ?_
 refine TL'.pU (.off _ _ _ _ rfl rfl rfl b) (dk rfl) ?_
 refine TL'.pU (.off _ _ _ _ rfl rfl rfl b) (dk rfl) ?_
 refine TL'.pU (.gone _ _ _ rfl rfl rfl) (dk rfl) ?_
 refine TL'.pU (.gone _ _ _ rfl rfl rfl) (dk rfl) ?_
 refine TL'.pU (.gone _ _ _ rfl rfl rfl) (dk rfl) ?_
 refine TL'.pU (.off _ _ _ _ rfl rfl rfl b) (dk rfl) ?_
 refine sp rfl (OpT.pickT rfl (dk rfl) rfl b rfl ?_)
 refine aw rfl ?_
 refine TL'.nil (tN ?_)
 refine T.condT rfl rfl ?_
 refine T.by_turn ?_ (syr_bounds_j2_T K bx0 d f x0 a.2.reader.s a.2.reader.at_ a.2.reader.where_ a.2.reader.e a.2.deep a.2.nodes (g 0) h)
 exact Turn.rp (.cons rfl (.cons rfl (.cons rfl (.cons rfl (.nil _))))) (.c .z (.c .z (.n _)))
 refine TL'.step (.on rfl rfl rfl b) (OpT.move rfl (dk rfl) rfl ?_)
 refine TL'.step (.on rfl rfl rfl b) (OpT.int2 rfl rfl (dk rfl) rfl rfl ?_)
 refine TL'.step (.on rfl rfl rfl b) (OpT.move rfl (dk rfl) rfl ?_)
 rcases bif_some h with ⟨j, h⟩ | ⟨j, h⟩
 refine TL'.step (.on rfl rfl rfl j) (OpT.move rfl (dk rfl) rfl ?_)
 refine TL'.step (.on rfl rfl rfl j) (OpT.move rfl (dk rfl) rfl ?_)
 refine TL'.step (.on rfl rfl rfl j) (OpT.int2 rfl rfl (dk rfl) rfl rfl ?_)
 refine TL'.step (.on rfl rfl rfl b) (OpT.pickT rfl (dk rfl) rfl j rfl ?_)
 refine sp rfl (OpT.pickF rfl (dk rfl) rfl b rfl ?_)
 refine aw rfl ?_
 refine TL'.nil (tN ?_)
 rcases bif_some h with ⟨y, h⟩ | ⟨y, h⟩
 refine T.condT rfl y ?_
 refine T.by_turn ?_ (syr_bounds_j2_T K bx0 d f x0 a.2.reader.s a.2.reader.at_ a.2.reader.where_ a.2.reader.e a.2.deep a.2.nodes (g 0) h)
 exact Turn.rp (.cons rfl (.cons rfl (.cons rfl (.cons rfl (.nil _))))) (.c .z (.c .z (.n _)))
 refine T.condF rfl y ?_
 refine T.by_turn ?_ (syr_bounds_j3_T K bx0 d f a.2.reader.s a.2.reader.at_ a.2.reader.where_ a.2.reader.e a.2.deep a.2.nodes (g 0) h)
 exact Turn.rp (.cons rfl (.cons rfl (.nil _))) (.c .z (.c .z (.n _)))
 refine TL'.pU (.off _ _ _ _ rfl rfl rfl j) (dk rfl) ?_
 refine TL'.pU (.off _ _ _ _ rfl rfl rfl j) (dk rfl) ?_
 refine TL'.pU (.off _ _ _ _ rfl rfl rfl j) (dk rfl) ?_
 refine TL'.step (.on rfl rfl rfl b) (OpT.pickF rfl (dk rfl) rfl j rfl ?_)
 refine sp rfl (OpT.pickF rfl (dk rfl) rfl b rfl ?_)
 refine aw rfl ?_
 refine TL'.nil (tN ?_)
 refine T.condF rfl rfl ?_
 refine T.by_turn ?_ (syr_bounds_j3_T K bx0 d f a.2.reader.s a.2.reader.at_ a.2.reader.where_ a.2.reader.e a.2.deep a.2.nodes (g 0) h)
 exact Turn.rp (.cons rfl (.cons rfl (.nil _))) (.c .z (.c .z (.n _)))
theorem syr_bounds_T (K : Nat) {x0 : syp} {bx0 : Nat} {wx0c1 : Value} {r : Int × Int × syp} (h : syr_bounds K x0 = some r) : CallG Tryd.prog 100 [.ptr bx0 (0 + 0)] [(o74 bx0 x0.reader.s x0.reader.at_ x0.reader.where_ x0.reader.e wx0c1 x0.deep), .arrA wx0c1 42 9 (x0.nodes.map c_aNd)] (fun γ => (.tup [.int .i64 r.1, .int .i64 r.2.1])) (fun γ => [(o74 bx0 r.2.2.reader.s r.2.2.reader.at_ r.2.2.reader.where_ r.2.2.reader.e (γ 0) r.2.2.deep), .arrA (γ 0) 42 9 (r.2.2.nodes.map c_aNd)]) := by
 refine CallT.intro Tryd.func100 rfl (nb rfl) ?_
 show T Tryd.prog 76 (Code.at [] (codeOf Tryd.f100)) ⟨paramSlots 0 [.ptr bx0 (0 + 0)], [(o74 bx0 x0.reader.s x0.reader.at_ x0.reader.where_ x0.reader.e wx0c1 x0.deep), .arrA wx0c1 42 9 (x0.nodes.map c_aNd)]⟩ (syr_bounds_q bx0 r)
 unfold syr_bounds at h
 refine T.seq (T.rL ?_)
 refine aw rfl ?_
 refine aw rfl ?_
 refine TL'.nil (tN (T.seq (T.rL ?_)))
 refine mw rfl ?_
 refine sp rfl (OpT.nilCheck rfl (dk rfl) rfl rfl ?_)
 refine sp rfl (OpT.fP rfl (dk rfl) ul72 rfl i3 (by decide) rfl ?_)
 refine sp rfl (OpT.lB (i := 0) rfl (dk rfl) ul3 rfl rfl rfl rfl ?_)
 refine aw rfl ?_
 refine TL'.nil (tN (T.seq (T.rL ?_)))
 refine mw rfl ?_
 obtain ⟨ac, q, h⟩ := bind_some h
 refine sp rfl (OpT.callG (is := [0, 1]) (ph := []) rfl (dk rfl) Tryd.func96 rfl rfl (Args.cons rfl Args.nil) (syr_next_T K (bx0 := bx0) (wx0c1 := wx0c1) q) (.cons rfl rfl (.cons rfl rfl (.nil))) (fun _ => rfl) (fun u => ?_))
 refine nm (.c (.c (.n))) ?_
 refine TL'.nil (tN (T.seq (T.rL ?_)))
 refine mw rfl ?_
 obtain ⟨d, v, h⟩ := bind_some h
 refine sp rfl (OpT.callG (is := [0, 1]) (ph := []) rfl (dk rfl) Tryd.func112 rfl rfl (Args.cons rfl Args.nil) (syr_number_T K (bx0 := bx0) (wx0c1 := (u 0)) v) (.cons rfl rfl (.cons rfl rfl (.nil))) (fun _ => rfl) (fun w => ?_))
 refine nm (.c (.c (.n))) ?_
 refine aw rfl ?_
 refine TL'.nil (tN (T.seq (T.rL ?_)))
 refine mw rfl ?_
 refine aw rfl ?_
 refine TL'.nil (tN (T.seq (T.rL ?_)))
 refine mw rfl ?_
 refine sp rfl (OpT.int2 rfl rfl (dk rfl) rfl rfl ?_)
 refine aw rfl ?_
 refine TL'.nil (tN ?_)
 refine T.seq ?_
 refine T.seq (T.rL ?_)
 refine mw rfl ?_
 obtain ⟨b, y, h⟩ := bind_some h
 refine sp rfl (OpT.callG (is := [0, 1]) (ph := []) rfl (dk rfl) Tryd.func58 rfl rfl (Args.cons rfl (Args.cons rfl Args.nil)) (syr_skip_T K (bx0 := bx0) (wx0c1 := (w 0)) y) (.cons rfl rfl (.cons rfl rfl (.nil))) (fun _ => rfl) (fun l => ?_))
 refine nm (.c (.c (.n))) ?_
 refine TL'.nil (tN ?_)
 rcases bif_some h with ⟨g, h⟩ | ⟨g, h⟩
 refine T.condT rfl g ?_
 refine T.seq (T.rL ?_)
 refine aw rfl ?_
 refine TL'.nil (tN (T.seq (T.rL ?_)))
 refine mw rfl ?_
 obtain ⟨ad, aa, h⟩ := bind_some h
 refine sp rfl (OpT.callG (is := [0, 1]) (ph := []) rfl (dk rfl) Tryd.func97 rfl rfl (Args.cons rfl (Args.cons rfl Args.nil)) (syr_digit_T K (bx0 := bx0) (wx0c1 := (l 0)) aa) (.cons rfl rfl (.cons rfl rfl (.nil))) (fun _ => rfl) (fun m => ?_))
 refine nm (.c (.c (.n))) ?_
 refine TL'.nil (tN ?_)
 rcases bif_some h with ⟨j, h⟩ | ⟨j, h⟩
 refine T.condT rfl j ?_
 refine T.seq (T.rL ?_)
 refine mw rfl ?_
 obtain ⟨a, ab, h⟩ := bind_some h
 refine sp rfl (OpT.callG (is := [0, 1]) (ph := []) rfl (dk rfl) Tryd.func112 rfl rfl (Args.cons rfl Args.nil) (syr_number_T K (bx0 := bx0) (wx0c1 := (m 0)) ab) (.cons rfl rfl (.cons rfl rfl (.nil))) (fun _ => rfl) (fun p => ?_))
 refine nm (.c (.c (.n))) ?_
 refine aw rfl ?_
 refine TL'.nil (tN ?_)
 refine T.rL ?_
 refine mw rfl ?_
 refine mw rfl ?_
 rcases bif_some h with ⟨f, h⟩ | ⟨f, h⟩
 refine TL'.pU (.off _ _ _ _ rfl rfl rfl f) (dk rfl) ?_
 refine TL'.pU (.off _ _ _ _ rfl rfl rfl f) (dk rfl) ?_
 refine sp rfl (OpT.pickT rfl (dk rfl) rfl f rfl ?_)
 refine aw rfl ?_
 refine TL'.nil (tN ?_)
 refine T.by_turn ?_ (syr_bounds_j0_T K bx0 d.1 a.1 x0 true a.2.reader.s a.2.reader.at_ a.2.reader.where_ a.2.reader.e a.2.deep a.2.nodes (p 0) h)
 exact Turn.rp (.cons rfl (.cons rfl (.cons rfl (.cons rfl (.cons rfl (.nil _)))))) (.c .z (.c .z (.n _)))
 refine TL'.step (.on rfl rfl rfl f) (OpT.move rfl (dk rfl) rfl ?_)
 refine TL'.step (.on rfl rfl rfl f) (OpT.int2 rfl rfl (dk rfl) rfl rfl ?_)
 refine sp rfl (OpT.pickF rfl (dk rfl) rfl f rfl ?_)
 refine aw rfl ?_
 refine TL'.nil (tN ?_)
 refine T.by_turn ?_ (syr_bounds_j0_T K bx0 d.1 a.1 x0 (decide (a.1 < (0 : Int))) a.2.reader.s a.2.reader.at_ a.2.reader.where_ a.2.reader.e a.2.deep a.2.nodes (p 0) h)
 exact Turn.rp (.cons rfl (.cons rfl (.cons rfl (.cons rfl (.cons rfl (.nil _)))))) (.c .z (.c .z (.n _)))
 refine T.condF rfl j ?_
 refine T.skip (tN ?_)
 refine T.by_turn ?_ (syr_bounds_j0_T K bx0 d.1 (-1 : Int) x0 (decide (d.1 < (0 : Int))) b.2.reader.s b.2.reader.at_ b.2.reader.where_ b.2.reader.e b.2.deep b.2.nodes (m 0) h)
 exact Turn.rp (.cons rfl (.cons rfl (.cons rfl (.cons rfl (.cons rfl (.nil _)))))) (.c .z (.c .z (.n _)))
 refine T.condF rfl g ?_
 refine T.skip (tN ?_)
 refine T.by_turn ?_ (syr_bounds_j0_T K bx0 d.1 d.1 x0 (decide (d.1 < (0 : Int))) b.2.reader.s b.2.reader.at_ b.2.reader.where_ b.2.reader.e b.2.deep b.2.nodes (l 0) h)
 exact Turn.rp (.cons rfl (.cons rfl (.cons rfl (.cons rfl (.cons rfl (.nil _)))))) (.c .z (.c .z (.n _)))
end Go.Rv

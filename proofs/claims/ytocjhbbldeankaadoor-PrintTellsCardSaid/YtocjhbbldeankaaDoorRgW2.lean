/- Each function computes what its plain text says: printed by a program of ours. -/
import Derived.Test.YtocjhbbldeankaaDoorRgW1
namespace Go.Rv
open Go.Proofs
set_option maxRecDepth 100000
set_option maxHeartbeats 4000000
set_option linter.unusedVariables false
abbrev r4r_bounds_q (bx0 : Nat) (r : Int × Int × r4r) : Exit → St → Prop := retS Tryd.prog Tryd.f91 (fun y t => ∃ γ : Nat → Value, y = (.tup [.int .i64 r.1, .int .i64 r.2.1]) ∧ t = [(o88 bx0 r.2.2.s r.2.2.at_ (γ 0) r.2.2.deep r.2.2.e r.2.2.where_), .arrA (γ 0) 42 9 (r.2.2.nodes.map c_aNd)])
abbrev r4r_bounds_qs1111111111 (bx0 : Nat) (r : Int × Int × r4r) : Exit → St → Prop := thenS (fun s' => T Tryd.prog 122 (Code.at [1, 1, 1, 1, 1, 1, 1, 1, 1, 1] (codeOf Tryd.f91)) s' ((r4r_bounds_q bx0 r))) ((r4r_bounds_q bx0 r))
abbrev r4r_bounds_qs111111 (bx0 : Nat) (r : Int × Int × r4r) : Exit → St → Prop := thenS (fun s' => T Tryd.prog 122 (Code.at [1, 1, 1, 1, 1, 1] (codeOf Tryd.f91)) s' ((r4r_bounds_q bx0 r))) ((r4r_bounds_q bx0 r))
theorem r4r_bounds_j5_T {r : Int × Int × r4r} (K : Nat) (bx0 : Nat) (x5_0_7 : Int) (x6_0_8 : Int) (y9000_5_2 : ByteArray) (y9000_5_3 : Int) (y9000_5_5 : Int) (y9000_5_6 : Int) (y9000_5_7 : Int) (y9000_5_4 : List aNd) (w9000_5 : Value) (h : r4r_bounds_j5 K x5_0_7 x6_0_8 y9000_5_2 y9000_5_3 y9000_5_5 y9000_5_6 y9000_5_7 y9000_5_4 = some r) : T Tryd.prog 122 (Code.at [1, 1, 1, 1, 1, 1, 1, 1, 1, 1] (codeOf Tryd.f91)) ⟨[(5, .int .i64 x5_0_7), (6, .int .i64 x6_0_8)], [(o88 bx0 y9000_5_2 y9000_5_3 w9000_5 y9000_5_5 y9000_5_6 y9000_5_7), .arrA w9000_5 42 9 (y9000_5_4.map c_aNd)]⟩ (r4r_bounds_q bx0 r) := by
 unfold r4r_bounds_j5 at h
 refine T.seq ?_
 refine T.rL ?_
 refine mw rfl ?_
 refine mw rfl ?_
 refine aw rfl ?_
 refine aw rfl ?_
 refine TL'.nil (tN ?_)
 refine T.ret ?_
 exact Fin.doneK (.cons _ _ _ _ (.tmp 2 _ rfl) (.cons _ _ _ _ (.tmp 3 _ rfl) .nil)) (.cons 0 rfl (.cons 0 rfl (.nil _))) (by cases h; exact ⟨gl [w9000_5], rfl, rfl⟩)
theorem r4r_bounds_j3_T {r : Int × Int × r4r} (K : Nat) (bx0 : Nat) (x0 : r4r) (x5_0_7 : Int) (x6_0_8 : Int) (y0_3_0 : ByteArray) (y0_3_1 : Int) (y0_3_3 : Int) (y0_3_4 : Int) (y0_3_5 : Int) (y0_3_2 : List aNd) (w0_3 : Value) (h : r4r_bounds_j3 K x0 x5_0_7 x6_0_8 y0_3_0 y0_3_1 y0_3_3 y0_3_4 y0_3_5 y0_3_2 = some r) : T Tryd.prog 122 (Code.at [1, 1, 1, 1, 1, 1, 1, 1, 1, 0, 1, 0] (codeOf Tryd.f91)) ⟨[(0, .ptr bx0 0), (4, .int .i64 x0.at_), (5, .int .i64 x5_0_7), (6, .int .i64 x6_0_8)], [(o88 bx0 y0_3_0 y0_3_1 w0_3 y0_3_3 y0_3_4 y0_3_5), .arrA w0_3 42 9 (y0_3_2.map c_aNd)]⟩ (r4r_bounds_qs1111111111 bx0 r) := by
 unfold r4r_bounds_j3 at h
 refine T.rL ?_
 refine mw rfl ?_
 refine mw rfl ?_
 obtain ⟨v_641, e_642, h⟩ := bind_some h
 refine sp rfl (OpT.callG (is := [0, 1]) (ph := []) rfl (dk rfl) Tryd.func50 rfl rfl (Args.cons rfl (Args.cons rfl (Args.cons rfl Args.nil))) (r4r_fail_T K (bx0 := bx0) (wx0c2 := w0_3) e_642) (.cons rfl rfl (.cons rfl rfl (.nil))) (fun _ => rfl) (fun γ_643 => ?_))
 refine nm (.c (.c (.n))) ?_
 refine TL'.nil (tN ?_)
 refine T.by_turn ?_ (r4r_bounds_j5_T K bx0 x5_0_7 x6_0_8 v_641.s v_641.at_ v_641.deep v_641.e v_641.where_ v_641.nodes (γ_643 0) h)
 exact Turn.rp (.cons rfl (.cons rfl (.nil _))) (.c .z (.c .z (.n _)))
theorem r4r_bounds_j4_T {r : Int × Int × r4r} (K : Nat) (bx0 : Nat) (x5_0_7 : Int) (x6_0_8 : Int) (y9000_4_2 : ByteArray) (y9000_4_3 : Int) (y9000_4_5 : Int) (y9000_4_6 : Int) (y9000_4_7 : Int) (y9000_4_4 : List aNd) (w9000_4 : Value) (h : r4r_bounds_j4 K x5_0_7 x6_0_8 y9000_4_2 y9000_4_3 y9000_4_5 y9000_4_6 y9000_4_7 y9000_4_4 = some r) : T Tryd.prog 122 (Code.at [1, 1, 1, 1, 1, 1, 1, 1, 1, 0, 1, 1] (codeOf Tryd.f91)) ⟨[(5, .int .i64 x5_0_7), (6, .int .i64 x6_0_8)], [(o88 bx0 y9000_4_2 y9000_4_3 w9000_4 y9000_4_5 y9000_4_6 y9000_4_7), .arrA w9000_4 42 9 (y9000_4_4.map c_aNd)]⟩ (r4r_bounds_qs1111111111 bx0 r) := by
 unfold r4r_bounds_j4 at h
 refine T.skip (tN ?_)
 refine T.by_turn ?_ (r4r_bounds_j5_T K bx0 x5_0_7 x6_0_8 y9000_4_2 y9000_4_3 y9000_4_5 y9000_4_6 y9000_4_7 y9000_4_4 w9000_4 h)
 exact Turn.rp (.cons rfl (.cons rfl (.nil _))) (.c .z (.c .z (.n _)))
theorem r4r_bounds_j0_T {r : Int × Int × r4r} (K : Nat) (bx0 : Nat) (x0 : r4r) (x5_0_7 : Int) (x6_0_8 : Int) (y0_0_0 : ByteArray) (y0_0_1 : Int) (y0_0_3 : Int) (y0_0_4 : Int) (y0_0_5 : Int) (y0_0_2 : List aNd) (w0_0 : Value) (h : r4r_bounds_j0 K x0 x5_0_7 x6_0_8 y0_0_0 y0_0_1 y0_0_3 y0_0_4 y0_0_5 y0_0_2 = some r) : T Tryd.prog 122 (Code.at [1, 1, 1, 1, 1, 1] (codeOf Tryd.f91)) ⟨[(0, .ptr bx0 0), (4, .int .i64 x0.at_), (5, .int .i64 x5_0_7), (6, .int .i64 x6_0_8)], [(o88 bx0 y0_0_0 y0_0_1 w0_0 y0_0_3 y0_0_4 y0_0_5), .arrA w0_0 42 9 (y0_0_2.map c_aNd)]⟩ (r4r_bounds_q bx0 r) := by
 unfold r4r_bounds_j0 at h
 refine T.seq ?_
 refine T.seq ?_
 refine T.rL ?_
 refine mw rfl ?_
 obtain ⟨v_626, e_627, h⟩ := bind_some h
 refine sp rfl (OpT.callG (is := [0, 1]) (ph := []) rfl (dk rfl) Tryd.func49 rfl rfl (Args.cons rfl Args.nil) (r4r_ends_T K (bx0 := bx0) (wx0c2 := w0_0) e_627) (.cons rfl rfl (.cons rfl rfl (.nil))) (fun _ => rfl) (fun γ_628 => ?_))
 refine nm (.c (.c (.n))) ?_
 refine TL'.nil (tN ?_)
 rcases bif_some h with ⟨c_629, h⟩ | ⟨c_629, h⟩
 refine T.condT rfl c_629 ?_
 refine T.seq ?_
 refine T.rL ?_
 refine mw rfl ?_
 refine mw rfl ?_
 refine sp rfl (OpT.nilCheck rfl (dk rfl) rfl rfl ?_)
 refine sp rfl (OpT.fieldPtr rfl (dk rfl) ul88 rfl i9 (by decide) rfl ?_)
 refine sp rfl (OpT.loadBox (i := 0) rfl (dk rfl) ul9 rfl rfl rfl rfl ?_)
 refine sp rfl (OpT.lenStr rfl (dk rfl) ul9 rfl ?_)
 obtain ⟨v_630, e_631, h⟩ := bind_some h
 refine sp rfl (OpT.callG (is := [0, 1]) (ph := []) rfl (dk rfl) Tryd.func50 rfl rfl (Args.cons rfl (Args.cons rfl (Args.cons rfl Args.nil))) (r4r_fail_T K (bx0 := bx0) (wx0c2 := (γ_628 0)) e_631) (.cons rfl rfl (.cons rfl rfl (.nil))) (fun _ => rfl) (fun γ_632 => ?_))
 refine nm (.c (.c (.n))) ?_
 refine TL'.nil (tN ?_)
 refine T.seq ?_
 refine T.rL ?_
 refine aw rfl ?_
 refine aw rfl ?_
 refine TL'.nil (tN ?_)
 refine T.ret (thenS_ret ?_)
 exact Fin.doneK (.cons _ _ _ _ (.tmp 2 _ rfl) (.cons _ _ _ _ (.tmp 3 _ rfl) .nil)) (.cons 0 rfl (.cons 0 rfl (.nil _))) (by cases h; exact ⟨gl [γ_632 0], rfl, rfl⟩)
 refine T.condF rfl c_629 ?_
 refine T.skip (tN ?_)
 refine T.seq ?_
 refine T.seq ?_
 refine DG.start ?_
 refine DG.mv rfl rfl rfl rfl rfl rfl ?_
 refine DG.step (c := ⟨some 72, .ptr bx0 0, [(71, .ptr bx0 0)], [], []⟩) (fun t hm => One.step rfl (.free rfl) (OpT.nilCheck rfl (dk rfl) hm.s0 rfl rfl)) (Ct.mo rfl rfl) ?_
 refine DG.step (c := ⟨some 73, .ptr bx0 (0 + 0), [(72, .ptr bx0 0)], [], []⟩) (fun t hm => One.step rfl (.free rfl) (OpT.fieldPtr rfl (dk rfl) ul88 rfl i9 (by decide) hm.s0 rfl)) (Ct.mo rfl rfl) ?_
 refine DG.step (c := ⟨some 74, .str y0_0_0, [(73, .ptr bx0 (0 + 0))], [(0, (o88 bx0 y0_0_0 y0_0_1 (γ_628 0) y0_0_3 y0_0_4 y0_0_5))], []⟩) (fun t hm => One.step rfl (.free rfl) (OpT.loadBox (i := 0) rfl (dk rfl) ul9 rfl hm.s0 hm.o0 rfl rfl)) (Ct.mo rfl rfl) ?_
 refine DG.mv rfl rfl rfl rfl rfl rfl ?_
 refine DG.step (c := ⟨some 76, .ptr bx0 0, [(75, .ptr bx0 0)], [], []⟩) (fun t hm => One.step rfl (.free rfl) (OpT.nilCheck rfl (dk rfl) hm.s0 rfl rfl)) (Ct.mo rfl rfl) ?_
 refine DG.step (c := ⟨some 77, .ptr bx0 (0 + 1), [(76, .ptr bx0 0)], [], []⟩) (fun t hm => One.step rfl (.free rfl) (OpT.fieldPtr rfl (dk rfl) ul88 rfl i3 (by decide) hm.s0 rfl)) (Ct.mo rfl rfl) ?_
 refine DG.step (c := ⟨some 78, .int .i64 y0_0_1, [(77, .ptr bx0 (0 + 1))], [(0, (o88 bx0 y0_0_0 y0_0_1 (γ_628 0) y0_0_3 y0_0_4 y0_0_5))], []⟩) (fun t hm => One.step rfl (.free rfl) (OpT.loadBox (i := 0) rfl (dk rfl) ul3 rfl hm.s0 hm.o0 rfl rfl)) (Ct.mo rfl rfl) ?_
 obtain ⟨g_635, h⟩ := ck_some h
 refine DG.step (c := ⟨some 79, .int .u8 (bt y0_0_0 y0_0_1), [(74, .str y0_0_0), (78, .int .i64 y0_0_1)], [], []⟩) (fun t hm => One.step rfl (.free rfl) (OpT.indexStr rfl (dk rfl) ul9 hm.s0 hm.s1 g_635.1 g_635.2 rfl)) (Ct.mo rfl rfl) ?_
 refine DG.step (c := ⟨some 80, .bool ((bt y0_0_0 y0_0_1) != (125 : Int)), [(79, .int .u8 (bt y0_0_0 y0_0_1))], [], []⟩) (fun t hm => One.step rfl (.free rfl) (OpT.int2 rfl rfl (dk rfl) hm.s0 rfl rfl)) (Ct.mo rfl rfl) ?_
 refine DG.fin (s1 := ⟨[(0, .ptr bx0 0), (4, .int .i64 x0.at_), (5, .int .i64 x5_0_7), (6, .int .i64 x6_0_8), (80, .bool ((bt y0_0_0 y0_0_1) != (125 : Int)))], [(o88 bx0 y0_0_0 y0_0_1 (γ_628 0) y0_0_3 y0_0_4 y0_0_5), .arrA (γ_628 0) 42 9 ((y0_0_2).map c_aNd)]⟩) (ms := [0, 1, 3, 7, 0, 16, 48, 112, 255, 511]) TrydMixed rfl (by kernel_rfl) (by kernel_rfl) (by kernel_rfl) (.cons rfl (.cons rfl (.cons rfl (.cons rfl (.cons rfl (.nil _)))))) rfl (fun u hu => (tN (T.by_turn hu ?_)))
 rcases bif_some h with ⟨c_636, h⟩ | ⟨c_636, h⟩
 refine T.condT rfl c_636 ?_
 refine T.seq ?_
 refine T.rL ?_
 refine mw rfl ?_
 refine mw rfl ?_
 refine sp rfl (OpT.nilCheck rfl (dk rfl) rfl rfl ?_)
 refine sp rfl (OpT.fieldPtr rfl (dk rfl) ul88 rfl i3 (by decide) rfl ?_)
 refine sp rfl (OpT.loadBox (i := 0) rfl (dk rfl) ul3 rfl rfl rfl rfl ?_)
 obtain ⟨v_637, e_638, h⟩ := bind_some h
 refine sp rfl (OpT.callG (is := [0, 1]) (ph := []) rfl (dk rfl) Tryd.func50 rfl rfl (Args.cons rfl (Args.cons rfl (Args.cons rfl Args.nil))) (r4r_fail_T K (bx0 := bx0) (wx0c2 := (γ_628 0)) e_638) (.cons rfl rfl (.cons rfl rfl (.nil))) (fun _ => rfl) (fun γ_639 => ?_))
 refine nm (.c (.c (.n))) ?_
 refine TL'.nil (tN ?_)
 refine T.seq ?_
 refine T.rL ?_
 refine aw rfl ?_
 refine aw rfl ?_
 refine TL'.nil (tN ?_)
 refine T.ret (thenS_ret ?_)
 exact Fin.doneK (.cons _ _ _ _ (.tmp 2 _ rfl) (.cons _ _ _ _ (.tmp 3 _ rfl) .nil)) (.cons 0 rfl (.cons 0 rfl (.nil _))) (by cases h; exact ⟨gl [γ_639 0], rfl, rfl⟩)
 refine T.condF rfl c_636 ?_
 refine T.skip (tN ?_)
 refine T.seq ?_
 refine T.rL ?_
 refine mw rfl ?_
 refine sp rfl (OpT.nilCheck rfl (dk rfl) rfl rfl ?_)
 refine sp rfl (OpT.fieldPtr rfl (dk rfl) ul88 rfl i3 (by decide) rfl ?_)
 refine sp rfl (OpT.loadBox (i := 0) rfl (dk rfl) ul3 rfl rfl rfl rfl ?_)
 refine sp rfl (OpT.int2 rfl rfl (dk rfl) rfl rfl ?_)
 refine sp rfl (OpT.nilCheck rfl (dk rfl) rfl rfl ?_)
 refine sp rfl (OpT.fieldPtr rfl (dk rfl) ul88 rfl i3 (by decide) rfl ?_)
 refine sp rfl (OpT.storeTo (i := 0) (cells' := [.d (.str y0_0_0), .d (.int .i64 (IntKind.i64.wrap (y0_0_1 + (1 : Int)))), .d (.ex (γ_628 0)), .d (.int .i64 y0_0_3), .d (.int .i64 y0_0_4), .d (.int .i64 y0_0_5)]) rfl rfl i3 rfl rfl rfl (nb rfl) rfl ?_)
 refine TL'.nil (tN ?_)
 refine T.seq ?_
 refine T.seq ?_
 refine T.rL ?_
 refine mw rfl ?_
 refine sp rfl (OpT.int2 rfl rfl (dk rfl) rfl rfl ?_)
 refine mw rfl ?_
 rcases bif_some h with ⟨c_640, h⟩ | ⟨c_640, h⟩
 refine TL'.passU (.off _ _ _ _ rfl rfl rfl c_640) (dk rfl) ?_
 refine TL'.passU (.off _ _ _ _ rfl rfl rfl c_640) (dk rfl) ?_
 refine sp rfl (OpT.pickT rfl (dk rfl) rfl c_640 rfl ?_)
 refine mw rfl ?_
 refine TL'.passU (.off _ _ _ _ rfl rfl rfl rfl) (dk rfl) ?_
 refine TL'.passU (.off _ _ _ _ rfl rfl rfl rfl) (dk rfl) ?_
 refine sp rfl (OpT.pickT rfl (dk rfl) rfl rfl rfl ?_)
 refine mw rfl ?_
 refine TL'.passU (.off _ _ _ _ rfl rfl rfl rfl) (dk rfl) ?_
 refine TL'.passU (.off _ _ _ _ rfl rfl rfl rfl) (dk rfl) ?_
 refine sp rfl (OpT.pickT rfl (dk rfl) rfl rfl rfl ?_)
 refine mw rfl ?_
 refine TL'.passU (.off _ _ _ _ rfl rfl rfl rfl) (dk rfl) ?_
 refine TL'.passU (.off _ _ _ _ rfl rfl rfl rfl) (dk rfl) ?_
 refine TL'.passU (.off _ _ _ _ rfl rfl rfl rfl) (dk rfl) ?_
 refine TL'.passU (.gone _ _ _ rfl rfl rfl) (dk rfl) ?_
 refine TL'.passU (.gone _ _ _ rfl rfl rfl) (dk rfl) ?_
 refine TL'.passU (.gone _ _ _ rfl rfl rfl) (dk rfl) ?_
 refine TL'.passU (.off _ _ _ _ rfl rfl rfl rfl) (dk rfl) ?_
 refine sp rfl (OpT.pickT rfl (dk rfl) rfl rfl rfl ?_)
 refine TL'.nil (tN ?_)
 refine T.condT rfl rfl ?_
 refine T.by_turn ?_ (r4r_bounds_j3_T K bx0 x0 x5_0_7 x6_0_8 y0_0_0 (IntKind.i64.wrap (y0_0_1 + (1 : Int))) y0_0_3 y0_0_4 y0_0_5 y0_0_2 (γ_628 0) h)
 exact Turn.rp (.cons rfl (.cons rfl (.cons rfl (.cons rfl (.nil _))))) (.c .z (.c .z (.n _)))
 refine TL'.step (.on rfl rfl rfl c_640) (OpT.move rfl (dk rfl) rfl ?_)
 refine TL'.step (.on rfl rfl rfl c_640) (OpT.int2 rfl rfl (dk rfl) rfl rfl ?_)
 refine sp rfl (OpT.pickF rfl (dk rfl) rfl c_640 rfl ?_)
 refine mw rfl ?_
 rcases bif_some h with ⟨c_644, h⟩ | ⟨c_644, h⟩
 refine TL'.passU (.off _ _ _ _ rfl rfl rfl c_644) (dk rfl) ?_
 refine TL'.passU (.off _ _ _ _ rfl rfl rfl c_644) (dk rfl) ?_
 refine sp rfl (OpT.pickT rfl (dk rfl) rfl c_644 rfl ?_)
 refine mw rfl ?_
 refine TL'.passU (.off _ _ _ _ rfl rfl rfl rfl) (dk rfl) ?_
 refine TL'.passU (.off _ _ _ _ rfl rfl rfl rfl) (dk rfl) ?_
 refine sp rfl (OpT.pickT rfl (dk rfl) rfl rfl rfl ?_)
 refine mw rfl ?_
 refine TL'.passU (.off _ _ _ _ rfl rfl rfl rfl) (dk rfl) ?_
 refine TL'.passU (.off _ _ _ _ rfl rfl rfl rfl) (dk rfl) ?_
 refine TL'.passU (.off _ _ _ _ rfl rfl rfl rfl) (dk rfl) ?_
 refine TL'.passU (.gone _ _ _ rfl rfl rfl) (dk rfl) ?_
 refine TL'.passU (.gone _ _ _ rfl rfl rfl) (dk rfl) ?_
 refine TL'.passU (.gone _ _ _ rfl rfl rfl) (dk rfl) ?_
 refine TL'.passU (.off _ _ _ _ rfl rfl rfl rfl) (dk rfl) ?_
 refine sp rfl (OpT.pickT rfl (dk rfl) rfl rfl rfl ?_)
 refine TL'.nil (tN ?_)
 refine T.condT rfl rfl ?_
 refine T.by_turn ?_ (r4r_bounds_j3_T K bx0 x0 x5_0_7 x6_0_8 y0_0_0 (IntKind.i64.wrap (y0_0_1 + (1 : Int))) y0_0_3 y0_0_4 y0_0_5 y0_0_2 (γ_628 0) h)
 exact Turn.rp (.cons rfl (.cons rfl (.cons rfl (.cons rfl (.nil _))))) (.c .z (.c .z (.n _)))
 refine TL'.step (.on rfl rfl rfl c_644) (OpT.move rfl (dk rfl) rfl ?_)
 refine TL'.step (.on rfl rfl rfl c_644) (OpT.int2 rfl rfl (dk rfl) rfl rfl ?_)
 refine sp rfl (OpT.pickF rfl (dk rfl) rfl c_644 rfl ?_)
 refine mw rfl ?_
 rcases bif_some h with ⟨c_645, h⟩ | ⟨c_645, h⟩
 refine TL'.passU (.off _ _ _ _ rfl rfl rfl c_645) (dk rfl) ?_
 refine TL'.passU (.off _ _ _ _ rfl rfl rfl c_645) (dk rfl) ?_
 refine sp rfl (OpT.pickT rfl (dk rfl) rfl c_645 rfl ?_)
 refine mw rfl ?_
 refine TL'.passU (.off _ _ _ _ rfl rfl rfl rfl) (dk rfl) ?_
 refine TL'.passU (.off _ _ _ _ rfl rfl rfl rfl) (dk rfl) ?_
 refine TL'.passU (.off _ _ _ _ rfl rfl rfl rfl) (dk rfl) ?_
 refine TL'.passU (.gone _ _ _ rfl rfl rfl) (dk rfl) ?_
 refine TL'.passU (.gone _ _ _ rfl rfl rfl) (dk rfl) ?_
 refine TL'.passU (.gone _ _ _ rfl rfl rfl) (dk rfl) ?_
 refine TL'.passU (.off _ _ _ _ rfl rfl rfl rfl) (dk rfl) ?_
 refine sp rfl (OpT.pickT rfl (dk rfl) rfl rfl rfl ?_)
 refine TL'.nil (tN ?_)
 refine T.condT rfl rfl ?_
 refine T.by_turn ?_ (r4r_bounds_j3_T K bx0 x0 x5_0_7 x6_0_8 y0_0_0 (IntKind.i64.wrap (y0_0_1 + (1 : Int))) y0_0_3 y0_0_4 y0_0_5 y0_0_2 (γ_628 0) h)
 exact Turn.rp (.cons rfl (.cons rfl (.cons rfl (.cons rfl (.nil _))))) (.c .z (.c .z (.n _)))
 refine TL'.step (.on rfl rfl rfl c_645) (OpT.move rfl (dk rfl) rfl ?_)
 refine TL'.step (.on rfl rfl rfl c_645) (OpT.int2 rfl rfl (dk rfl) rfl rfl ?_)
 refine sp rfl (OpT.pickF rfl (dk rfl) rfl c_645 rfl ?_)
 refine mw rfl ?_
 rcases bif_some h with ⟨c_646, h⟩ | ⟨c_646, h⟩
 refine TL'.passU (.off _ _ _ _ rfl rfl rfl c_646) (dk rfl) ?_
 refine TL'.passU (.off _ _ _ _ rfl rfl rfl c_646) (dk rfl) ?_
 refine TL'.passU (.off _ _ _ _ rfl rfl rfl c_646) (dk rfl) ?_
 refine TL'.passU (.gone _ _ _ rfl rfl rfl) (dk rfl) ?_
 refine TL'.passU (.gone _ _ _ rfl rfl rfl) (dk rfl) ?_
 refine TL'.passU (.gone _ _ _ rfl rfl rfl) (dk rfl) ?_
 refine TL'.passU (.off _ _ _ _ rfl rfl rfl c_646) (dk rfl) ?_
 refine sp rfl (OpT.pickT rfl (dk rfl) rfl c_646 rfl ?_)
 refine TL'.nil (tN ?_)
 refine T.condT rfl rfl ?_
 refine T.by_turn ?_ (r4r_bounds_j3_T K bx0 x0 x5_0_7 x6_0_8 y0_0_0 (IntKind.i64.wrap (y0_0_1 + (1 : Int))) y0_0_3 y0_0_4 y0_0_5 y0_0_2 (γ_628 0) h)
 exact Turn.rp (.cons rfl (.cons rfl (.cons rfl (.cons rfl (.nil _))))) (.c .z (.c .z (.n _)))
 refine TL'.step (.on rfl rfl rfl c_646) (OpT.move rfl (dk rfl) rfl ?_)
 refine TL'.step (.on rfl rfl rfl c_646) (OpT.int2 rfl rfl (dk rfl) rfl rfl ?_)
 refine TL'.step (.on rfl rfl rfl c_646) (OpT.move rfl (dk rfl) rfl ?_)
 rcases bif_some h with ⟨c_647, h⟩ | ⟨c_647, h⟩
 refine TL'.step (.on rfl rfl rfl c_647) (OpT.move rfl (dk rfl) rfl ?_)
 refine TL'.step (.on rfl rfl rfl c_647) (OpT.move rfl (dk rfl) rfl ?_)
 refine TL'.step (.on rfl rfl rfl c_647) (OpT.int2 rfl rfl (dk rfl) rfl rfl ?_)
 refine TL'.step (.on rfl rfl rfl c_646) (OpT.pickT rfl (dk rfl) rfl c_647 rfl ?_)
 refine sp rfl (OpT.pickF rfl (dk rfl) rfl c_646 rfl ?_)
 refine TL'.nil (tN ?_)
 rcases bif_some h with ⟨c_648, h⟩ | ⟨c_648, h⟩
 refine T.condT rfl c_648 ?_
 refine T.by_turn ?_ (r4r_bounds_j3_T K bx0 x0 x5_0_7 x6_0_8 y0_0_0 (IntKind.i64.wrap (y0_0_1 + (1 : Int))) y0_0_3 y0_0_4 y0_0_5 y0_0_2 (γ_628 0) h)
 exact Turn.rp (.cons rfl (.cons rfl (.cons rfl (.cons rfl (.nil _))))) (.c .z (.c .z (.n _)))
 refine T.condF rfl c_648 ?_
 refine T.by_turn ?_ (r4r_bounds_j4_T K bx0 x5_0_7 x6_0_8 y0_0_0 (IntKind.i64.wrap (y0_0_1 + (1 : Int))) y0_0_3 y0_0_4 y0_0_5 y0_0_2 (γ_628 0) h)
 exact Turn.rp (.cons rfl (.cons rfl (.nil _))) (.c .z (.c .z (.n _)))
 refine TL'.passU (.off _ _ _ _ rfl rfl rfl c_647) (dk rfl) ?_
 refine TL'.passU (.off _ _ _ _ rfl rfl rfl c_647) (dk rfl) ?_
 refine TL'.passU (.off _ _ _ _ rfl rfl rfl c_647) (dk rfl) ?_
 refine TL'.step (.on rfl rfl rfl c_646) (OpT.pickF rfl (dk rfl) rfl c_647 rfl ?_)
 refine sp rfl (OpT.pickF rfl (dk rfl) rfl c_646 rfl ?_)
 refine TL'.nil (tN ?_)
 refine T.condF rfl rfl ?_
 refine T.by_turn ?_ (r4r_bounds_j4_T K bx0 x5_0_7 x6_0_8 y0_0_0 (IntKind.i64.wrap (y0_0_1 + (1 : Int))) y0_0_3 y0_0_4 y0_0_5 y0_0_2 (γ_628 0) h)
 exact Turn.rp (.cons rfl (.cons rfl (.nil _))) (.c .z (.c .z (.n _)))
theorem r4r_bounds_j1_T {r : Int × Int × r4r} (K : Nat) (bx0 : Nat) (x0 : r4r) (x5_1_7 : Int) (y0_1_0 : ByteArray) (y0_1_1 : Int) (y0_1_3 : Int) (y0_1_4 : Int) (y0_1_5 : Int) (y0_1_2 : List aNd) (w0_1 : Value) (h : r4r_bounds_j1 K x0 x5_1_7 y0_1_0 y0_1_1 y0_1_3 y0_1_4 y0_1_5 y0_1_2 = some r) : T Tryd.prog 122 (Code.at [1, 1, 1, 1, 1, 0, 1, 0, 1, 1, 1, 1] (codeOf Tryd.f91)) ⟨[(0, .ptr bx0 0), (4, .int .i64 x0.at_), (5, .int .i64 x5_1_7), (6, .int .i64 (-1 : Int))], [(o88 bx0 y0_1_0 y0_1_1 w0_1 y0_1_3 y0_1_4 y0_1_5), .arrA w0_1 42 9 (y0_1_2.map c_aNd)]⟩ (r4r_bounds_qs111111 bx0 r) := by
 unfold r4r_bounds_j1 at h
 refine T.skip (tN ?_)
 refine T.by_turn ?_ (r4r_bounds_j0_T K bx0 x0 x5_1_7 (-1 : Int) y0_1_0 y0_1_1 y0_1_3 y0_1_4 y0_1_5 y0_1_2 w0_1 h)
 exact Turn.rp (.cons rfl (.cons rfl (.cons rfl (.cons rfl (.nil _))))) (.c .z (.c .z (.n _)))
theorem r4r_bounds_j2_T {r : Int × Int × r4r} (K : Nat) (bx0 : Nat) (x0 : r4r) (x5_2_7 : Int) (x6_2_8 : Int) (y0_2_0 : ByteArray) (y0_2_1 : Int) (y0_2_3 : Int) (y0_2_4 : Int) (y0_2_5 : Int) (y0_2_2 : List aNd) (w0_2 : Value) (h : r4r_bounds_j2 K x0 x5_2_7 x6_2_8 y0_2_0 y0_2_1 y0_2_3 y0_2_4 y0_2_5 y0_2_2 = some r) : T Tryd.prog 122 (Code.at [1, 1, 1, 1, 1, 0, 1, 1] (codeOf Tryd.f91)) ⟨[(0, .ptr bx0 0), (4, .int .i64 x0.at_), (5, .int .i64 x5_2_7), (6, .int .i64 x6_2_8)], [(o88 bx0 y0_2_0 y0_2_1 w0_2 y0_2_3 y0_2_4 y0_2_5), .arrA w0_2 42 9 (y0_2_2.map c_aNd)]⟩ (r4r_bounds_qs111111 bx0 r) := by
 unfold r4r_bounds_j2 at h
 refine T.skip (tN ?_)
 refine T.by_turn ?_ (r4r_bounds_j0_T K bx0 x0 x5_2_7 x6_2_8 y0_2_0 y0_2_1 y0_2_3 y0_2_4 y0_2_5 y0_2_2 w0_2 h)
 exact Turn.rp (.cons rfl (.cons rfl (.cons rfl (.cons rfl (.nil _))))) (.c .z (.c .z (.n _)))
theorem r4r_bounds_T (K : Nat) {x0 : r4r} {bx0 : Nat} {wx0c2 : Value} {r : Int × Int × r4r} (h : r4r_bounds K x0 = some r) : CallG Tryd.prog 91 [.ptr bx0 0] [(o88 bx0 x0.s x0.at_ wx0c2 x0.deep x0.e x0.where_), .arrA wx0c2 42 9 (x0.nodes.map c_aNd)] (fun γ => (.tup [.int .i64 r.1, .int .i64 r.2.1])) (fun γ => [(o88 bx0 r.2.2.s r.2.2.at_ (γ 0) r.2.2.deep r.2.2.e r.2.2.where_), .arrA (γ 0) 42 9 (r.2.2.nodes.map c_aNd)]) := by
 refine CallT.intro Tryd.func91 rfl (nb rfl) ?_
 show T Tryd.prog 122 (Code.at [] (codeOf Tryd.f91)) ⟨paramSlots 0 [.ptr bx0 0], [(o88 bx0 x0.s x0.at_ wx0c2 x0.deep x0.e x0.where_), .arrA wx0c2 42 9 (x0.nodes.map c_aNd)]⟩ (r4r_bounds_q bx0 r)
 unfold r4r_bounds at h
 refine T.seq ?_
 refine T.rL ?_
 refine aw rfl ?_
 refine aw rfl ?_
 refine TL'.nil (tN ?_)
 refine T.seq ?_
 refine T.rL ?_
 refine mw rfl ?_
 refine sp rfl (OpT.nilCheck rfl (dk rfl) rfl rfl ?_)
 refine sp rfl (OpT.fieldPtr rfl (dk rfl) ul88 rfl i3 (by decide) rfl ?_)
 refine sp rfl (OpT.loadBox (i := 0) rfl (dk rfl) ul3 rfl rfl rfl rfl ?_)
 refine aw rfl ?_
 refine TL'.nil (tN ?_)
 refine T.seq ?_
 refine T.rL ?_
 refine mw rfl ?_
 refine sp rfl (OpT.nilCheck rfl (dk rfl) rfl rfl ?_)
 refine sp rfl (OpT.fieldPtr rfl (dk rfl) ul88 rfl i3 (by decide) rfl ?_)
 refine sp rfl (OpT.loadBox (i := 0) rfl (dk rfl) ul3 rfl rfl rfl rfl ?_)
 refine sp rfl (OpT.int2 rfl rfl (dk rfl) rfl rfl ?_)
 refine sp rfl (OpT.nilCheck rfl (dk rfl) rfl rfl ?_)
 refine sp rfl (OpT.fieldPtr rfl (dk rfl) ul88 rfl i3 (by decide) rfl ?_)
 refine sp rfl (OpT.storeTo (i := 0) (cells' := [.d (.str x0.s), .d (.int .i64 (IntKind.i64.wrap (x0.at_ + (1 : Int)))), .d (.ex wx0c2), .d (.int .i64 x0.deep), .d (.int .i64 x0.e), .d (.int .i64 x0.where_)]) rfl rfl i3 rfl rfl rfl (nb rfl) rfl ?_)
 refine TL'.nil (tN ?_)
 refine T.seq ?_
 refine T.rL ?_
 refine mw rfl ?_
 obtain ⟨v_595, e_596, h⟩ := bind_some h
 refine sp rfl (OpT.callG (is := [0, 1]) (ph := []) rfl (dk rfl) Tryd.func107 rfl rfl (Args.cons rfl Args.nil) (r4r_number_T K (bx0 := bx0) (wx0c2 := wx0c2) e_596) (.cons rfl rfl (.cons rfl rfl (.nil))) (fun _ => rfl) (fun γ_597 => ?_))
 refine nm (.c (.c (.n))) ?_
 refine aw rfl ?_
 refine TL'.nil (tN ?_)
 refine T.seq ?_
 refine T.rL ?_
 refine mw rfl ?_
 refine aw rfl ?_
 refine TL'.nil (tN ?_)
 refine T.seq ?_
 refine T.seq ?_
 refine DGG.start ?_
 refine DGG.step (c := fun γ_598 => ⟨some 21, .ptr bx0 0, [(0, .ptr bx0 0)], [], []⟩) [] (fun _ _ _ => rfl) (fun γ_598 t hm => One.step rfl (.free rfl) (OpT.move rfl (dk rfl) hm.s0 ⟨(fun _ => undef, 0), rfl⟩)) (fun γ_598 => Ct.mo rfl rfl) ?_
 obtain ⟨v_603, e_604, h⟩ := bind_some h
 refine DGG.step (c := fun γ_598 => ⟨some 22, .bool v_603, [(21, .ptr bx0 0)], [(1, .arrA (γ_597 0) 42 9 (v_595.2.nodes.map c_aNd)), (0, (o88 bx0 v_595.2.s v_595.2.at_ (γ_597 0) v_595.2.deep v_595.2.e v_595.2.where_))], [(0, (o88 bx0 v_595.2.s v_595.2.at_ ((γ_598 1).1 0) v_595.2.deep v_595.2.e v_595.2.where_)), (1, .arrA ((γ_598 1).1 0) 42 9 (v_595.2.nodes.map c_aNd))]⟩) [1] (fun γ_598 γ' h => by simp only [h 1 (by decide)]) (fun γ_598 t hm => One.step rfl (.free rfl) (OpT.callG (is := [0, 1]) (ph := []) rfl (dk rfl) Tryd.func49 rfl rfl (Args.cons hm.s0 Args.nil) (r4r_ends_T K (bx0 := bx0) (wx0c2 := (γ_597 0)) e_604) (.cons hm.o1 rfl (.cons hm.o0 rfl (.nil))) (fun _ => rfl) (fun g => ⟨(g, 0), rfl⟩))) (fun γ_598 => Ct.mo rfl rfl) ?_
 refine DGG.step (c := fun γ_598 => ⟨some 23, .bool (!v_603), [(22, .bool v_603)], [], []⟩) [] (fun _ _ _ => rfl) (fun γ_598 t hm => One.step rfl (.free rfl) (OpT.not rfl (dk rfl) hm.s0 ⟨(fun _ => undef, 0), rfl⟩)) (fun γ_598 => Ct.mo rfl rfl) ?_
 refine DGG.step (c := fun γ_598 => ⟨some 24, .bool (!v_603), [(23, .bool (!v_603))], [], []⟩) [] (fun _ _ _ => rfl) (fun γ_598 t hm => One.step rfl (.free rfl) (OpT.move rfl (dk rfl) hm.s0 ⟨(fun _ => undef, 0), rfl⟩)) (fun γ_598 => Ct.mo rfl rfl) ?_
 rcases bif_some h with ⟨c_605, h⟩ | ⟨c_605, h⟩
 refine DGG.step (c := fun γ_598 => ⟨some 25, .ptr bx0 0, [(0, .ptr bx0 0), (24, .bool (!v_603))], [], []⟩) [] (fun _ _ _ => rfl) (fun γ_598 t hm => One.step rfl (.on rfl rfl hm.s1 c_605) (OpT.move rfl (dk rfl) hm.s0 ⟨(fun _ => undef, 0), rfl⟩)) (fun γ_598 => Ct.mo rfl rfl) ?_
 refine DGG.step (c := fun γ_598 => ⟨some 26, .ptr bx0 0, [(25, .ptr bx0 0), (24, .bool (!v_603))], [], []⟩) [] (fun _ _ _ => rfl) (fun γ_598 t hm => One.step rfl (.on rfl rfl hm.s1 c_605) (OpT.nilCheck rfl (dk rfl) hm.s0 rfl ⟨(fun _ => undef, 0), rfl⟩)) (fun γ_598 => Ct.mo rfl rfl) ?_
 refine DGG.step (c := fun γ_598 => ⟨some 27, .ptr bx0 (0 + 0), [(26, .ptr bx0 0), (24, .bool (!v_603))], [], []⟩) [] (fun _ _ _ => rfl) (fun γ_598 t hm => One.step rfl (.on rfl rfl hm.s1 c_605) (OpT.fieldPtr rfl (dk rfl) ul88 rfl i9 (by decide) hm.s0 ⟨(fun _ => undef, 0), rfl⟩)) (fun γ_598 => Ct.mo rfl rfl) ?_
 refine DGG.step (c := fun γ_598 => ⟨some 28, .str v_595.2.s, [(27, .ptr bx0 (0 + 0)), (24, .bool (!v_603))], [(0, (o88 bx0 v_595.2.s v_595.2.at_ ((γ_598 1).1 0) v_595.2.deep v_595.2.e v_595.2.where_))], []⟩) [1] (fun γ_598 γ' h => by simp only [h 1 (by decide)]) (fun γ_598 t hm => One.step rfl (.on rfl rfl hm.s1 c_605) (OpT.loadBox (i := 0) rfl (dk rfl) ul9 rfl hm.s0 hm.o0 rfl ⟨(fun _ => undef, 0), rfl⟩)) (fun γ_598 => Ct.mo rfl rfl) ?_
 refine DGG.step (c := fun γ_598 => ⟨some 29, .ptr bx0 0, [(0, .ptr bx0 0), (24, .bool (!v_603))], [], []⟩) [] (fun _ _ _ => rfl) (fun γ_598 t hm => One.step rfl (.on rfl rfl hm.s1 c_605) (OpT.move rfl (dk rfl) hm.s0 ⟨(fun _ => undef, 0), rfl⟩)) (fun γ_598 => Ct.mo rfl rfl) ?_
 refine DGG.step (c := fun γ_598 => ⟨some 30, .ptr bx0 0, [(29, .ptr bx0 0), (24, .bool (!v_603))], [], []⟩) [] (fun _ _ _ => rfl) (fun γ_598 t hm => One.step rfl (.on rfl rfl hm.s1 c_605) (OpT.nilCheck rfl (dk rfl) hm.s0 rfl ⟨(fun _ => undef, 0), rfl⟩)) (fun γ_598 => Ct.mo rfl rfl) ?_
 refine DGG.step (c := fun γ_598 => ⟨some 31, .ptr bx0 (0 + 1), [(30, .ptr bx0 0), (24, .bool (!v_603))], [], []⟩) [] (fun _ _ _ => rfl) (fun γ_598 t hm => One.step rfl (.on rfl rfl hm.s1 c_605) (OpT.fieldPtr rfl (dk rfl) ul88 rfl i3 (by decide) hm.s0 ⟨(fun _ => undef, 0), rfl⟩)) (fun γ_598 => Ct.mo rfl rfl) ?_
 refine DGG.step (c := fun γ_598 => ⟨some 32, .int .i64 v_595.2.at_, [(31, .ptr bx0 (0 + 1)), (24, .bool (!v_603))], [(0, (o88 bx0 v_595.2.s v_595.2.at_ ((γ_598 1).1 0) v_595.2.deep v_595.2.e v_595.2.where_))], []⟩) [1] (fun γ_598 γ' h => by simp only [h 1 (by decide)]) (fun γ_598 t hm => One.step rfl (.on rfl rfl hm.s1 c_605) (OpT.loadBox (i := 0) rfl (dk rfl) ul3 rfl hm.s0 hm.o0 rfl ⟨(fun _ => undef, 0), rfl⟩)) (fun γ_598 => Ct.mo rfl rfl) ?_
 obtain ⟨g_606, h⟩ := ck_some h
 refine DGG.step (c := fun γ_598 => ⟨some 33, .int .u8 (bt v_595.2.s v_595.2.at_), [(28, .str v_595.2.s), (32, .int .i64 v_595.2.at_), (24, .bool (!v_603))], [], []⟩) [] (fun _ _ _ => rfl) (fun γ_598 t hm => One.step rfl (.on rfl rfl hm.s2 c_605) (OpT.indexStr rfl (dk rfl) ul9 hm.s0 hm.s1 g_606.1 g_606.2 ⟨(fun _ => undef, 0), rfl⟩)) (fun γ_598 => Ct.mo rfl rfl) ?_
 refine DGG.step (c := fun γ_598 => ⟨some 34, .bool ((bt v_595.2.s v_595.2.at_) == (44 : Int)), [(33, .int .u8 (bt v_595.2.s v_595.2.at_)), (24, .bool (!v_603))], [], []⟩) [] (fun _ _ _ => rfl) (fun γ_598 t hm => One.step rfl (.on rfl rfl hm.s1 c_605) (OpT.int2 rfl rfl (dk rfl) hm.s0 rfl ⟨(fun _ => undef, 0), rfl⟩)) (fun γ_598 => Ct.mo rfl rfl) ?_
 refine DGG.step (c := fun γ_598 => ⟨some 35, .bool ((bt v_595.2.s v_595.2.at_) == (44 : Int)), [(24, .bool (!v_603)), (34, .bool ((bt v_595.2.s v_595.2.at_) == (44 : Int)))], [], []⟩) [] (fun _ _ _ => rfl) (fun γ_598 t hm => One.step rfl (.free rfl) (OpT.pickT rfl (dk rfl) hm.s0 c_605 hm.s1 ⟨(fun _ => undef, 0), rfl⟩)) (fun γ_598 => Ct.mo rfl rfl) ?_
 refine DGG.fin (s1 := fun γ_598 => ⟨[(0, .ptr bx0 0), (4, .int .i64 x0.at_), (5, .int .i64 v_595.1), (6, .int .i64 v_595.1), (35, .bool ((bt v_595.2.s v_595.2.at_) == (44 : Int)))], [(o88 bx0 v_595.2.s v_595.2.at_ ((γ_598 1).1 0) v_595.2.deep v_595.2.e v_595.2.where_), .arrA ((γ_598 1).1 0) 42 9 (v_595.2.nodes.map c_aNd)]⟩) (ms := [0, 1, 3, 7, 15, 31, 63, 127, 15, 271, 783, 1807, 4095, 8191, 16383]) TrydMixed rfl (by kernel_rfl) (by kernel_rfl) (by kernel_rfl) (fun γ_598 => by kernel_rfl) (fun γ_598 => .cons rfl (.cons rfl (.cons rfl (.cons rfl (.cons rfl (.nil _)))))) (fun _ => rfl) (fun γ_598 u hu => (tN (T.by_turn hu ?_)))
 rcases bif_some h with ⟨c_607, h⟩ | ⟨c_607, h⟩
 refine T.condT rfl c_607 ?_
 refine T.seq ?_
 refine T.rL ?_
 refine mw rfl ?_
 refine sp rfl (OpT.nilCheck rfl (dk rfl) rfl rfl ?_)
 refine sp rfl (OpT.fieldPtr rfl (dk rfl) ul88 rfl i3 (by decide) rfl ?_)
 refine sp rfl (OpT.loadBox (i := 0) rfl (dk rfl) ul3 rfl rfl rfl rfl ?_)
 refine sp rfl (OpT.int2 rfl rfl (dk rfl) rfl rfl ?_)
 refine sp rfl (OpT.nilCheck rfl (dk rfl) rfl rfl ?_)
 refine sp rfl (OpT.fieldPtr rfl (dk rfl) ul88 rfl i3 (by decide) rfl ?_)
 refine sp rfl (OpT.storeTo (i := 0) (cells' := [.d (.str v_595.2.s), .d (.int .i64 (IntKind.i64.wrap (v_595.2.at_ + (1 : Int)))), .d (.ex ((γ_598 1).1 0)), .d (.int .i64 v_595.2.deep), .d (.int .i64 v_595.2.e), .d (.int .i64 v_595.2.where_)]) rfl rfl i3 rfl rfl rfl (nb rfl) rfl ?_)
 refine TL'.nil (tN ?_)
 refine T.seq ?_
 refine T.rL ?_
 refine aw rfl ?_
 refine TL'.nil (tN ?_)
 refine T.seq ?_
 refine DGG.start ?_
 refine DGG.step (c := fun γ_608 => ⟨some 43, .ptr bx0 0, [(0, .ptr bx0 0)], [], []⟩) [] (fun _ _ _ => rfl) (fun γ_608 t hm => One.step rfl (.free rfl) (OpT.move rfl (dk rfl) hm.s0 ⟨(fun _ => undef, 0), rfl⟩)) (fun γ_608 => Ct.mo rfl rfl) ?_
 obtain ⟨v_615, e_616, h⟩ := bind_some h
 refine DGG.step (c := fun γ_608 => ⟨some 44, .bool v_615, [(43, .ptr bx0 0)], [(1, .arrA ((γ_598 1).1 0) 42 9 (v_595.2.nodes.map c_aNd)), (0, (o88 bx0 v_595.2.s (IntKind.i64.wrap (v_595.2.at_ + (1 : Int))) ((γ_598 1).1 0) v_595.2.deep v_595.2.e v_595.2.where_))], [(0, (o88 bx0 v_595.2.s ((IntKind.i64.wrap (v_595.2.at_ + (1 : Int)))) ((γ_608 1).1 0) v_595.2.deep v_595.2.e v_595.2.where_)), (1, .arrA ((γ_608 1).1 0) 42 9 ((v_595.2.nodes).map c_aNd))]⟩) [1] (fun γ_608 γ' h => by simp only [h 1 (by decide)]) (fun γ_608 t hm => One.step rfl (.free rfl) (OpT.callG (is := [0, 1]) (ph := []) rfl (dk rfl) Tryd.func49 rfl rfl (Args.cons hm.s0 Args.nil) (r4r_ends_T K (bx0 := bx0) (wx0c2 := ((γ_598 1).1 0)) e_616) (.cons hm.o1 rfl (.cons hm.o0 rfl (.nil))) (fun _ => rfl) (fun g => ⟨(g, 0), rfl⟩))) (fun γ_608 => Ct.mo rfl rfl) ?_
 refine DGG.step (c := fun γ_608 => ⟨some 45, .bool (!v_615), [(44, .bool v_615)], [], []⟩) [] (fun _ _ _ => rfl) (fun γ_608 t hm => One.step rfl (.free rfl) (OpT.not rfl (dk rfl) hm.s0 ⟨(fun _ => undef, 0), rfl⟩)) (fun γ_608 => Ct.mo rfl rfl) ?_
 refine DGG.step (c := fun γ_608 => ⟨some 46, .bool (!v_615), [(45, .bool (!v_615))], [], []⟩) [] (fun _ _ _ => rfl) (fun γ_608 t hm => One.step rfl (.free rfl) (OpT.move rfl (dk rfl) hm.s0 ⟨(fun _ => undef, 0), rfl⟩)) (fun γ_608 => Ct.mo rfl rfl) ?_
 rcases bif_some h with ⟨c_617, h⟩ | ⟨c_617, h⟩
 refine DGG.step (c := fun γ_608 => ⟨some 47, .ptr bx0 0, [(0, .ptr bx0 0), (46, .bool (!v_615))], [], []⟩) [] (fun _ _ _ => rfl) (fun γ_608 t hm => One.step rfl (.on rfl rfl hm.s1 c_617) (OpT.move rfl (dk rfl) hm.s0 ⟨(fun _ => undef, 0), rfl⟩)) (fun γ_608 => Ct.mo rfl rfl) ?_
 refine DGG.step (c := fun γ_608 => ⟨some 48, .ptr bx0 0, [(47, .ptr bx0 0), (46, .bool (!v_615))], [], []⟩) [] (fun _ _ _ => rfl) (fun γ_608 t hm => One.step rfl (.on rfl rfl hm.s1 c_617) (OpT.nilCheck rfl (dk rfl) hm.s0 rfl ⟨(fun _ => undef, 0), rfl⟩)) (fun γ_608 => Ct.mo rfl rfl) ?_
 refine DGG.step (c := fun γ_608 => ⟨some 49, .ptr bx0 (0 + 0), [(48, .ptr bx0 0), (46, .bool (!v_615))], [], []⟩) [] (fun _ _ _ => rfl) (fun γ_608 t hm => One.step rfl (.on rfl rfl hm.s1 c_617) (OpT.fieldPtr rfl (dk rfl) ul88 rfl i9 (by decide) hm.s0 ⟨(fun _ => undef, 0), rfl⟩)) (fun γ_608 => Ct.mo rfl rfl) ?_
 refine DGG.step (c := fun γ_608 => ⟨some 50, .str v_595.2.s, [(49, .ptr bx0 (0 + 0)), (46, .bool (!v_615))], [(0, (o88 bx0 v_595.2.s ((IntKind.i64.wrap (v_595.2.at_ + (1 : Int)))) ((γ_608 1).1 0) v_595.2.deep v_595.2.e v_595.2.where_))], []⟩) [1] (fun γ_608 γ' h => by simp only [h 1 (by decide)]) (fun γ_608 t hm => One.step rfl (.on rfl rfl hm.s1 c_617) (OpT.loadBox (i := 0) rfl (dk rfl) ul9 rfl hm.s0 hm.o0 rfl ⟨(fun _ => undef, 0), rfl⟩)) (fun γ_608 => Ct.mo rfl rfl) ?_
 refine DGG.step (c := fun γ_608 => ⟨some 51, .ptr bx0 0, [(0, .ptr bx0 0), (46, .bool (!v_615))], [], []⟩) [] (fun _ _ _ => rfl) (fun γ_608 t hm => One.step rfl (.on rfl rfl hm.s1 c_617) (OpT.move rfl (dk rfl) hm.s0 ⟨(fun _ => undef, 0), rfl⟩)) (fun γ_608 => Ct.mo rfl rfl) ?_
 refine DGG.step (c := fun γ_608 => ⟨some 52, .ptr bx0 0, [(51, .ptr bx0 0), (46, .bool (!v_615))], [], []⟩) [] (fun _ _ _ => rfl) (fun γ_608 t hm => One.step rfl (.on rfl rfl hm.s1 c_617) (OpT.nilCheck rfl (dk rfl) hm.s0 rfl ⟨(fun _ => undef, 0), rfl⟩)) (fun γ_608 => Ct.mo rfl rfl) ?_
 refine DGG.step (c := fun γ_608 => ⟨some 53, .ptr bx0 (0 + 1), [(52, .ptr bx0 0), (46, .bool (!v_615))], [], []⟩) [] (fun _ _ _ => rfl) (fun γ_608 t hm => One.step rfl (.on rfl rfl hm.s1 c_617) (OpT.fieldPtr rfl (dk rfl) ul88 rfl i3 (by decide) hm.s0 ⟨(fun _ => undef, 0), rfl⟩)) (fun γ_608 => Ct.mo rfl rfl) ?_
 refine DGG.step (c := fun γ_608 => ⟨some 54, .int .i64 ((IntKind.i64.wrap (v_595.2.at_ + (1 : Int)))), [(53, .ptr bx0 (0 + 1)), (46, .bool (!v_615))], [(0, (o88 bx0 v_595.2.s ((IntKind.i64.wrap (v_595.2.at_ + (1 : Int)))) ((γ_608 1).1 0) v_595.2.deep v_595.2.e v_595.2.where_))], []⟩) [1] (fun γ_608 γ' h => by simp only [h 1 (by decide)]) (fun γ_608 t hm => One.step rfl (.on rfl rfl hm.s1 c_617) (OpT.loadBox (i := 0) rfl (dk rfl) ul3 rfl hm.s0 hm.o0 rfl ⟨(fun _ => undef, 0), rfl⟩)) (fun γ_608 => Ct.mo rfl rfl) ?_
 obtain ⟨g_618, h⟩ := ck_some h
 refine DGG.step (c := fun γ_608 => ⟨some 55, .int .u8 (bt v_595.2.s ((IntKind.i64.wrap (v_595.2.at_ + (1 : Int))))), [(50, .str v_595.2.s), (54, .int .i64 ((IntKind.i64.wrap (v_595.2.at_ + (1 : Int))))), (46, .bool (!v_615))], [], []⟩) [] (fun _ _ _ => rfl) (fun γ_608 t hm => One.step rfl (.on rfl rfl hm.s2 c_617) (OpT.indexStr rfl (dk rfl) ul9 hm.s0 hm.s1 g_618.1 g_618.2 ⟨(fun _ => undef, 0), rfl⟩)) (fun γ_608 => Ct.mo rfl rfl) ?_
 obtain ⟨v_619, e_620, h⟩ := bind_some h
 refine DGG.step (c := fun γ_608 => ⟨some 56, .bool v_619, [(55, .int .u8 (bt v_595.2.s ((IntKind.i64.wrap (v_595.2.at_ + (1 : Int)))))), (46, .bool (!v_615))], [], []⟩) [] (fun _ _ _ => rfl) (fun γ_608 t hm => One.step rfl (.on rfl rfl hm.s1 c_617) (OpT.callPA rfl (dk rfl) Tryd.func81 rfl rfl (Args.cons hm.s0 Args.nil) (CallR.nil (r4_digit_T K e_620)) ⟨(fun _ => undef, 0), rfl⟩)) (fun γ_608 => Ct.mo rfl rfl) ?_
 refine DGG.step (c := fun γ_608 => ⟨some 57, .bool v_619, [(46, .bool (!v_615)), (56, .bool v_619)], [], []⟩) [] (fun _ _ _ => rfl) (fun γ_608 t hm => One.step rfl (.free rfl) (OpT.pickT rfl (dk rfl) hm.s0 c_617 hm.s1 ⟨(fun _ => undef, 0), rfl⟩)) (fun γ_608 => Ct.mo rfl rfl) ?_
 refine DGG.fin (s1 := fun γ_608 => ⟨[(0, .ptr bx0 0), (4, .int .i64 x0.at_), (5, .int .i64 v_595.1), (6, .int .i64 (-1 : Int)), (57, .bool v_619)], [(o88 bx0 v_595.2.s ((IntKind.i64.wrap (v_595.2.at_ + (1 : Int)))) ((γ_608 1).1 0) v_595.2.deep v_595.2.e v_595.2.where_), .arrA ((γ_608 1).1 0) 42 9 ((v_595.2.nodes).map c_aNd)]⟩) (ms := [0, 1, 3, 7, 15, 31, 63, 127, 15, 271, 783, 1807, 4095, 8191, 16383]) TrydMixed rfl (by kernel_rfl) (by kernel_rfl) (by kernel_rfl) (fun γ_608 => by kernel_rfl) (fun γ_608 => .cons rfl (.cons rfl (.cons rfl (.cons rfl (.cons rfl (.nil _)))))) (fun _ => rfl) (fun γ_608 u hu => (tN (T.by_turn hu ?_)))
 rcases bif_some h with ⟨c_621, h⟩ | ⟨c_621, h⟩
 refine T.condT rfl c_621 ?_
 refine T.seq ?_
 refine T.rL ?_
 refine mw rfl ?_
 obtain ⟨v_622, e_623, h⟩ := bind_some h
 refine sp rfl (OpT.callG (is := [0, 1]) (ph := []) rfl (dk rfl) Tryd.func107 rfl rfl (Args.cons rfl Args.nil) (r4r_number_T K (bx0 := bx0) (wx0c2 := ((γ_608 1).1 0)) e_623) (.cons rfl rfl (.cons rfl rfl (.nil))) (fun _ => rfl) (fun γ_624 => ?_))
 refine nm (.c (.c (.n))) ?_
 refine aw rfl ?_
 refine TL'.nil (tN ?_)
 refine T.seq ?_
 refine T.rL ?_
 refine mw rfl ?_
 refine sp rfl (OpT.int2 rfl rfl (dk rfl) rfl rfl ?_)
 refine TL'.nil (tN ?_)
 rcases bif_some h with ⟨c_625, h⟩ | ⟨c_625, h⟩
 refine T.condT rfl c_625 ?_
 refine T.rL ?_
 refine aw rfl ?_
 refine TL'.nil (tN ?_)
 refine T.by_turn ?_ (r4r_bounds_j0_T K bx0 x0 (-1 : Int) v_622.1 v_622.2.s v_622.2.at_ v_622.2.deep v_622.2.e v_622.2.where_ v_622.2.nodes (γ_624 0) h)
 exact Turn.rp (.cons rfl (.cons rfl (.cons rfl (.cons rfl (.nil _))))) (.c .z (.c .z (.n _)))
 refine T.condF rfl c_625 ?_
 refine T.skip (tN ?_)
 refine T.by_turn ?_ (r4r_bounds_j0_T K bx0 x0 v_595.1 v_622.1 v_622.2.s v_622.2.at_ v_622.2.deep v_622.2.e v_622.2.where_ v_622.2.nodes (γ_624 0) h)
 exact Turn.rp (.cons rfl (.cons rfl (.cons rfl (.cons rfl (.nil _))))) (.c .z (.c .z (.n _)))
 refine T.condF rfl c_621 ?_
 refine T.by_turn ?_ (r4r_bounds_j1_T K bx0 x0 v_595.1 v_595.2.s ((IntKind.i64.wrap (v_595.2.at_ + (1 : Int)))) v_595.2.deep v_595.2.e v_595.2.where_ v_595.2.nodes ((γ_608 1).1 0) h)
 exact Turn.rp (.cons rfl (.cons rfl (.cons rfl (.cons rfl (.nil _))))) (.c .z (.c .z (.n _)))
 refine DGG.off c_617 rfl rfl rfl rfl rfl (fun _ => rfl) ?_
 refine DGG.off c_617 rfl rfl rfl rfl rfl (fun _ => rfl) ?_
 refine DGG.off c_617 rfl rfl rfl rfl rfl (fun _ => rfl) ?_
 refine DGG.off c_617 rfl rfl rfl rfl rfl (fun _ => rfl) ?_
 refine DGG.off c_617 rfl rfl rfl rfl rfl (fun _ => rfl) ?_
 refine DGG.off c_617 rfl rfl rfl rfl rfl (fun _ => rfl) ?_
 refine DGG.off c_617 rfl rfl rfl rfl rfl (fun _ => rfl) ?_
 refine DGG.off c_617 rfl rfl rfl rfl rfl (fun _ => rfl) ?_
 refine DGG.off c_617 rfl rfl rfl rfl rfl (fun _ => rfl) ?_
 refine DGG.off c_617 rfl rfl rfl rfl rfl (fun _ => rfl) ?_
 refine DGG.step (c := fun γ_608 => ⟨some 57, .bool false, [(46, .bool (!v_615))], [], []⟩) [] (fun _ _ _ => rfl) (fun γ_608 t hm => One.step rfl (.free rfl) (OpT.pickF rfl (dk rfl) hm.s0 c_617 rfl ⟨(fun _ => undef, 0), rfl⟩)) (fun γ_608 => Ct.mo rfl rfl) ?_
 refine DGG.fin (s1 := fun γ_608 => ⟨[(0, .ptr bx0 0), (4, .int .i64 x0.at_), (5, .int .i64 v_595.1), (6, .int .i64 (-1 : Int)), (57, .bool false)], [(o88 bx0 v_595.2.s ((IntKind.i64.wrap (v_595.2.at_ + (1 : Int)))) ((γ_608 1).1 0) v_595.2.deep v_595.2.e v_595.2.where_), .arrA ((γ_608 1).1 0) 42 9 ((v_595.2.nodes).map c_aNd)]⟩) (ms := [0, 1, 3, 7, 15, 31, 63, 127, 15, 271, 783, 1807, 4095, 8191, 16383]) TrydMixed rfl (by kernel_rfl) (by kernel_rfl) (by kernel_rfl) (fun γ_608 => by kernel_rfl) (fun γ_608 => .cons rfl (.cons rfl (.cons rfl (.cons rfl (.cons rfl (.nil _)))))) (fun _ => rfl) (fun γ_608 u hu => (tN (T.by_turn hu ?_)))
 refine T.condF rfl rfl ?_
 refine T.by_turn ?_ (r4r_bounds_j1_T K bx0 x0 v_595.1 v_595.2.s ((IntKind.i64.wrap (v_595.2.at_ + (1 : Int)))) v_595.2.deep v_595.2.e v_595.2.where_ v_595.2.nodes ((γ_608 1).1 0) h)
 exact Turn.rp (.cons rfl (.cons rfl (.cons rfl (.cons rfl (.nil _))))) (.c .z (.c .z (.n _)))
 refine T.condF rfl c_607 ?_
 refine T.by_turn ?_ (r4r_bounds_j2_T K bx0 x0 v_595.1 v_595.1 v_595.2.s v_595.2.at_ v_595.2.deep v_595.2.e v_595.2.where_ v_595.2.nodes ((γ_598 1).1 0) h)
 exact Turn.rp (.cons rfl (.cons rfl (.cons rfl (.cons rfl (.nil _))))) (.c .z (.c .z (.n _)))
 refine DGG.off c_605 rfl rfl rfl rfl rfl (fun _ => rfl) ?_
 refine DGG.off c_605 rfl rfl rfl rfl rfl (fun _ => rfl) ?_
 refine DGG.off c_605 rfl rfl rfl rfl rfl (fun _ => rfl) ?_
 refine DGG.off c_605 rfl rfl rfl rfl rfl (fun _ => rfl) ?_
 refine DGG.off c_605 rfl rfl rfl rfl rfl (fun _ => rfl) ?_
 refine DGG.off c_605 rfl rfl rfl rfl rfl (fun _ => rfl) ?_
 refine DGG.off c_605 rfl rfl rfl rfl rfl (fun _ => rfl) ?_
 refine DGG.off c_605 rfl rfl rfl rfl rfl (fun _ => rfl) ?_
 refine DGG.off c_605 rfl rfl rfl rfl rfl (fun _ => rfl) ?_
 refine DGG.off c_605 rfl rfl rfl rfl rfl (fun _ => rfl) ?_
 refine DGG.step (c := fun γ_598 => ⟨some 35, .bool false, [(24, .bool (!v_603))], [], []⟩) [] (fun _ _ _ => rfl) (fun γ_598 t hm => One.step rfl (.free rfl) (OpT.pickF rfl (dk rfl) hm.s0 c_605 rfl ⟨(fun _ => undef, 0), rfl⟩)) (fun γ_598 => Ct.mo rfl rfl) ?_
 refine DGG.fin (s1 := fun γ_598 => ⟨[(0, .ptr bx0 0), (4, .int .i64 x0.at_), (5, .int .i64 v_595.1), (6, .int .i64 v_595.1), (35, .bool false)], [(o88 bx0 v_595.2.s v_595.2.at_ ((γ_598 1).1 0) v_595.2.deep v_595.2.e v_595.2.where_), .arrA ((γ_598 1).1 0) 42 9 (v_595.2.nodes.map c_aNd)]⟩) (ms := [0, 1, 3, 7, 15, 31, 63, 127, 15, 271, 783, 1807, 4095, 8191, 16383]) TrydMixed rfl (by kernel_rfl) (by kernel_rfl) (by kernel_rfl) (fun γ_598 => by kernel_rfl) (fun γ_598 => .cons rfl (.cons rfl (.cons rfl (.cons rfl (.cons rfl (.nil _)))))) (fun _ => rfl) (fun γ_598 u hu => (tN (T.by_turn hu ?_)))
 refine T.condF rfl rfl ?_
 refine T.by_turn ?_ (r4r_bounds_j2_T K bx0 x0 v_595.1 v_595.1 v_595.2.s v_595.2.at_ v_595.2.deep v_595.2.e v_595.2.where_ v_595.2.nodes ((γ_598 1).1 0) h)
 exact Turn.rp (.cons rfl (.cons rfl (.cons rfl (.cons rfl (.nil _))))) (.c .z (.c .z (.n _)))
abbrev r4r_item_q (bx0 : Nat) (r : Int × r4r) : Exit → St → Prop := retS Tryd.prog Tryd.f82 (fun y t => ∃ γ : Nat → Value, y = (.int .i64 r.1) ∧ t = [(o88 bx0 r.2.s r.2.at_ (γ 0) r.2.deep r.2.e r.2.where_), .arrA (γ 0) 42 9 (r.2.nodes.map c_aNd)])
abbrev r4r_item_qs111 (bx0 : Nat) (r : Int × r4r) : Exit → St → Prop := thenS (fun s' => T Tryd.prog 99 (Code.at [1, 1, 1] (codeOf Tryd.f82)) s' ((r4r_item_q bx0 r))) ((r4r_item_q bx0 r))
abbrev r4r_item_qb0x111 (bx0 : Nat) (r : Int × r4r) : Exit → St → Prop := inBlockS 0 ((r4r_item_qs111 bx0 r))
abbrev r4r_item_ql1100 (bx0 : Nat) (r : Int × r4r) : Exit → St → Prop := thenS (fun s' => TL Tryd.prog 99 (Code.at [1, 1, 0, 0, 0] (codeOf Tryd.f82)) s' ((r4r_item_qb0x111 bx0 r))) ((r4r_item_qb0x111 bx0 r))
abbrev r4r_item_qb1_0x1100 (bx0 : Nat) (r : Int × r4r) : Exit → St → Prop := inBlockS 1 ((r4r_item_ql1100 bx0 r))
abbrev r4r_item_qs1100010111 (bx0 : Nat) (r : Int × r4r) : Exit → St → Prop := thenS (fun s' => T Tryd.prog 99 (Code.at [1, 1, 0, 0, 0, 1, 0, 1, 1, 1] (codeOf Tryd.f82)) s' ((r4r_item_qb1_0x1100 bx0 r))) ((r4r_item_qb1_0x1100 bx0 r))
abbrev r4r_item_qb2_1_0x1100010111 (bx0 : Nat) (r : Int × r4r) : Exit → St → Prop := inBlockS 2 ((r4r_item_qs1100010111 bx0 r))
abbrev r4r_item_l0_H (bx0 : Nat) (r : Int × r4r) (go : Int → ByteArray → Int → Int → Int → Int → (List aNd) → Option (Int × r4r)) : Prop := ∀ (x3_0_6 : Int) (y0_0_0 : ByteArray) (y0_0_1 : Int) (y0_0_3 : Int) (y0_0_4 : Int) (y0_0_5 : Int) (y0_0_2 : List aNd) (w0_0 : Value), go x3_0_6 y0_0_0 y0_0_1 y0_0_3 y0_0_4 y0_0_5 y0_0_2 = some r → TL Tryd.prog 99 (Code.at [1, 1, 0, 0, 0] (codeOf Tryd.f82)) ⟨[(0, .ptr bx0 0), (3, .int .i64 x3_0_6)], [(o88 bx0 y0_0_0 y0_0_1 w0_0 y0_0_3 y0_0_4 y0_0_5), .arrA w0_0 42 9 (y0_0_2.map c_aNd)]⟩ (r4r_item_qb0x111 bx0 r)
theorem r4r_item_j1_T {r : Int × r4r} (K : Nat) (rec_r4r_alternative : r4r → Option (Int × r4r)) (hrec_r4r_alternative : r4r_alternative_S rec_r4r_alternative) (bx0 : Nat) (go0 : Int → ByteArray → Int → Int → Int → Int → (List aNd) → Option (Int × r4r)) (hgo0 : r4r_item_l0_H bx0 r go0) (x3_0_6 : Int) (x4_1_7 : Int) (x5_1_8 : Int) (y0_1_0 : ByteArray) (y0_1_1 : Int) (y0_1_3 : Int) (y0_1_4 : Int) (y0_1_5 : Int) (y0_1_2 : List aNd) (w0_1 : Value) (h : r4r_item_j1 K rec_r4r_alternative go0 x3_0_6 x4_1_7 x5_1_8 y0_1_0 y0_1_1 y0_1_3 y0_1_4 y0_1_5 y0_1_2 = some r) : T Tryd.prog 99 (Code.at [1, 1, 0, 0, 0, 1, 0, 1, 1, 1] (codeOf Tryd.f82)) ⟨[(0, .ptr bx0 0), (3, .int .i64 x3_0_6), (4, .int .i64 x4_1_7), (5, .int .i64 x5_1_8)], [(o88 bx0 y0_1_0 y0_1_1 w0_1 y0_1_3 y0_1_4 y0_1_5), .arrA w0_1 42 9 (y0_1_2.map c_aNd)]⟩ (r4r_item_qb1_0x1100 bx0 r) := by
 unfold r4r_item_j1 at h
 refine T.seq ?_
 refine T.rL ?_
 refine mw rfl ?_
 refine sp rfl (OpT.nilCheck rfl (dk rfl) rfl rfl ?_)
 refine sp rfl (OpT.fieldPtr rfl (dk rfl) ul88 rfl i35 (by decide) rfl ?_)
 refine sp rfl (OpT.loadBox (i := 0) rfl (dk rfl) ul35 rfl rfl rfl rfl ?_)
 refine sp rfl (OpT.int2 rfl rfl (dk rfl) rfl rfl ?_)
 refine TL'.nil (tN ?_)
 rcases bif_some h with ⟨c_204, h⟩ | ⟨c_204, h⟩
 refine T.condT rfl c_204 ?_
 refine T.rL ?_
 refine mw rfl ?_
 refine mw rfl ?_
 refine sp rfl (OpT.buildSlice (elems := ([x3_0_6] : List Int).map (cI .i64)) rfl (dk rfl) ul40 i3 (by decide) rfl (all1 rfl) rfl rfl rfl (lenAll rfl) (by decide) ?_)
 refine mw rfl ?_
 refine mw rfl ?_
 refine sp rfl (OpT.thenTurn (OpT.build (l := [.int .u8 (5 : Int), .int .u64 (Arr4.mk 0 0 0 0).a0, .int .u64 (Arr4.mk 0 0 0 0).a1, .int .u64 (Arr4.mk 0 0 0 0).a2, .int .u64 (Arr4.mk 0 0 0 0).a3, .sl true 1 ([x3_0_6].map (cI .i64)), .int .i64 x4_1_7, .int .i64 x5_1_8, .str (⟨#[]⟩ : ByteArray)]) rfl (dk rfl) (built_struct (pl := [(0, 1), (1, 4), (5, 1), (6, 1), (7, 1), (8, 1)]) ul42 i42 rfl) (all1 rfl) rfl rfl rfl) (Turn.weakSlotP 96 (l := [.int .u8 (5 : Int), .int .u64 (Arr4.mk 0 0 0 0).a0, .int .u64 (Arr4.mk 0 0 0 0).a1, .int .u64 (Arr4.mk 0 0 0 0).a2, .int .u64 (Arr4.mk 0 0 0 0).a3, .sl true 1 ([x3_0_6].map (cI .i64)), .int .i64 x4_1_7, .int .i64 x5_1_8, .str (⟨#[]⟩ : ByteArray)]) (l' := [.int .u8 (5 : Int), .int .u64 (Arr4.mk 0 0 0 0).a0, .int .u64 (Arr4.mk 0 0 0 0).a1, .int .u64 (Arr4.mk 0 0 0 0).a2, .int .u64 (Arr4.mk 0 0 0 0).a3, .sl false 1 ([x3_0_6].map (cI .i64)), .int .i64 x4_1_7, .int .i64 x5_1_8, .str (⟨#[]⟩ : ByteArray)]) (.cons (.same _) (.cons (.same _) (.cons (.same _) (.cons (.same _) (.cons (.same _) (.cons (.full _ _ _) (.cons (.same _) (.cons (.same _) (.cons (.same _) (.refl _))))))))))) ?_)
 obtain ⟨v_205, e_206, h⟩ := bind_some h
 refine sp rfl (OpT.callG (is := [0, 1]) (ph := []) rfl (dk rfl) Tryd.func65 rfl rfl (Args.cons rfl (Args.cons rfl Args.nil)) (r4r_put_T K (bx0 := bx0) (wx0c2 := w0_1) e_206) (.cons rfl rfl (.cons rfl rfl (.nil))) (fun _ => rfl) (fun γ_207 => ?_))
 refine nm (.c (.c (.n))) ?_
 refine aw rfl ?_
 refine TL'.nil (inBlock_normal (tN ?_))
 refine TL.by_turn ?_ (hgo0 v_205.1 v_205.2.s v_205.2.at_ v_205.2.deep v_205.2.e v_205.2.where_ v_205.2.nodes (γ_207 0) h)
 exact Turn.rp (.cons rfl (.cons rfl (.nil _))) (.c .z (.c .z (.n _)))
 refine T.condF rfl c_204 ?_
 refine T.skip (inBlock_normal (tN ?_))
 refine TL.by_turn ?_ (hgo0 x3_0_6 y0_1_0 y0_1_1 y0_1_3 y0_1_4 y0_1_5 y0_1_2 w0_1 h)
 exact Turn.rp (.cons rfl (.cons rfl (.nil _))) (.c .z (.c .z (.n _)))
theorem r4r_item_j2_T {r : Int × r4r} (K : Nat) (rec_r4r_alternative : r4r → Option (Int × r4r)) (hrec_r4r_alternative : r4r_alternative_S rec_r4r_alternative) (bx0 : Nat) (x3_0_6 : Int) (y9000_2_1 : ByteArray) (y9000_2_2 : Int) (y9000_2_4 : Int) (y9000_2_5 : Int) (y9000_2_6 : Int) (y9000_2_3 : List aNd) (w9000_2 : Value) (h : r4r_item_j2 K rec_r4r_alternative x3_0_6 y9000_2_1 y9000_2_2 y9000_2_4 y9000_2_5 y9000_2_6 y9000_2_3 = some r) : T Tryd.prog 99 (Code.at [1, 1, 0, 0, 0, 1, 0, 1, 1, 0, 0, 1, 1, 1, 1, 1, 1, 1, 1] (codeOf Tryd.f82)) ⟨[(3, .int .i64 x3_0_6)], [(o88 bx0 y9000_2_1 y9000_2_2 w9000_2 y9000_2_4 y9000_2_5 y9000_2_6), .arrA w9000_2 42 9 (y9000_2_3.map c_aNd)]⟩ (r4r_item_qb2_1_0x1100010111 bx0 r) := by
 unfold r4r_item_j2 at h
 refine T.seq ?_
 refine T.rL ?_
 refine mw rfl ?_
 refine aw rfl ?_
 refine TL'.nil (tN ?_)
 refine T.ret (inBlock_ret (thenS_ret (inBlock_ret (thenS_ret (inBlock_ret (thenS_ret ?_))))))
 exact Fin.doneK (.cons _ _ _ _ (.tmp 2 _ rfl) .nil) (.cons 0 rfl (.cons 0 rfl (.nil _))) (by cases h; exact ⟨gl [w9000_2], rfl, rfl⟩)
theorem r4r_item_l0_T {r : Int × r4r} (K : Nat) (rec_r4r_alternative : r4r → Option (Int × r4r)) (hrec_r4r_alternative : r4r_alternative_S rec_r4r_alternative) (bx0 : Nat) : ∀ (k : Nat), ∀ (x3_0_6 : Int) (y0_0_0 : ByteArray) (y0_0_1 : Int) (y0_0_3 : Int) (y0_0_4 : Int) (y0_0_5 : Int) (y0_0_2 : List aNd) (w0_0 : Value), r4r_item_l0 K rec_r4r_alternative k x3_0_6 y0_0_0 y0_0_1 y0_0_3 y0_0_4 y0_0_5 y0_0_2 = some r → TL Tryd.prog 99 (Code.at [1, 1, 0, 0, 0] (codeOf Tryd.f82)) ⟨[(0, .ptr bx0 0), (3, .int .i64 x3_0_6)], [(o88 bx0 y0_0_0 y0_0_1 w0_0 y0_0_3 y0_0_4 y0_0_5), .arrA w0_0 42 9 (y0_0_2.map c_aNd)]⟩ (r4r_item_qb0x111 bx0 r) := by
  intro k
  induction k with
  | zero =>
    intro x3_0_6 y0_0_0 y0_0_1 y0_0_3 y0_0_4 y0_0_5 y0_0_2 w0_0 h
    cases (show (none : Option (Int × r4r)) = some r from h)
  | succ k ih =>
    intro x3_0_6 y0_0_0 y0_0_1 y0_0_3 y0_0_4 y0_0_5 y0_0_2 w0_0 h
    rw [r4r_item_l0] at h
    refine TL.round ?_
    refine T.seq ?_
    refine T.seq ?_
    refine T.rL ?_
    refine mv rfl rfl rfl rfl rfl ?_
    obtain ⟨v_196, e_197, h⟩ := bind_some h
    refine sp rfl (OpT.callG (is := [0, 1]) (ph := []) rfl (dl rfl rfl) Tryd.func49 rfl rfl (Args.cons rfl Args.nil) (r4r_ends_T K (bx0 := bx0) (wx0c2 := w0_0) e_197) (.cons rfl rfl (.cons rfl rfl (.nil))) (fun _ => rfl) (fun γ_198 => ?_))
    refine nm (.c (.c (.n))) ?_
    refine sp rfl (OpT.not rfl (dl rfl rfl) rfl ?_)
    refine TL'.nil (tN ?_)
    rcases bif_some h with ⟨c_199, h⟩ | ⟨c_199, h⟩
    · refine T.condT rfl c_199 ?_
      refine T.skip (tN ?_)
      refine T.block ?_
      refine T.seq ?_
      refine T.rL ?_
      refine asg rfl rfl rfl rfl rfl ?_
      refine asg rfl rfl rfl rfl rfl ?_
      refine TL'.nil (tN ?_)
      refine T.seq ?_
      refine DG.start ?_
      refine DG.mv rfl rfl rfl rfl rfl rfl ?_
      refine DG.step (c := ⟨some 13, .ptr bx0 0, [(12, .ptr bx0 0)], [], []⟩) (fun t hm => One.step rfl (.free rfl) (OpT.nilCheck rfl (dl rfl rfl) hm.s0 rfl rfl)) (Ct.mo rfl rfl) ?_
      refine DG.step (c := ⟨some 14, .ptr bx0 (0 + 0), [(13, .ptr bx0 0)], [], []⟩) (fun t hm => One.step rfl (.free rfl) (OpT.fieldPtr rfl (dl rfl rfl) Tryd.underlying88 rfl i9 (by decide) hm.s0 rfl)) (Ct.mo rfl rfl) ?_
      refine DG.step (c := ⟨some 15, .str y0_0_0, [(14, .ptr bx0 (0 + 0))], [(0, (o88 bx0 y0_0_0 y0_0_1 (γ_198 0) y0_0_3 y0_0_4 y0_0_5))], []⟩) (fun t hm => One.step rfl (.free rfl) (OpT.loadBox (i := 0) rfl (dl rfl rfl) Tryd.underlying9 rfl hm.s0 hm.o0 rfl rfl)) (Ct.mo rfl rfl) ?_
      refine DG.mv rfl rfl rfl rfl rfl rfl ?_
      refine DG.step (c := ⟨some 17, .ptr bx0 0, [(16, .ptr bx0 0)], [], []⟩) (fun t hm => One.step rfl (.free rfl) (OpT.nilCheck rfl (dl rfl rfl) hm.s0 rfl rfl)) (Ct.mo rfl rfl) ?_
      refine DG.step (c := ⟨some 18, .ptr bx0 (0 + 1), [(17, .ptr bx0 0)], [], []⟩) (fun t hm => One.step rfl (.free rfl) (OpT.fieldPtr rfl (dl rfl rfl) Tryd.underlying88 rfl i3 (by decide) hm.s0 rfl)) (Ct.mo rfl rfl) ?_
      refine DG.step (c := ⟨some 19, .int .i64 y0_0_1, [(18, .ptr bx0 (0 + 1))], [(0, (o88 bx0 y0_0_0 y0_0_1 (γ_198 0) y0_0_3 y0_0_4 y0_0_5))], []⟩) (fun t hm => One.step rfl (.free rfl) (OpT.loadBox (i := 0) rfl (dl rfl rfl) Tryd.underlying3 rfl hm.s0 hm.o0 rfl rfl)) (Ct.mo rfl rfl) ?_
      obtain ⟨g_202, h⟩ := ck_some h
      refine DG.step (c := ⟨some 20, .int .u8 (bt y0_0_0 y0_0_1), [(15, .str y0_0_0), (19, .int .i64 y0_0_1)], [], []⟩) (fun t hm => One.step rfl (.free rfl) (OpT.indexStr rfl (dl rfl rfl) Tryd.underlying9 hm.s0 hm.s1 g_202.1 g_202.2 rfl)) (Ct.mo rfl rfl) ?_
      refine DG.step (c := ⟨some 6, .int .u8 (bt y0_0_0 y0_0_1), [(20, .int .u8 (bt y0_0_0 y0_0_1))], [], []⟩) (fun t hm => One.step rfl (.free rfl) (OpT.assign rfl (dl rfl rfl) hm.s0 rfl)) (Ct.mo rfl rfl) ?_
      refine DG.fin (s1 := ⟨[(0, .ptr bx0 0), (3, .int .i64 x3_0_6), (4, .int .i64 (0 : Int)), (5, .int .i64 (-1 : Int)), (6, .int .u8 (bt y0_0_0 y0_0_1))], [(o88 bx0 y0_0_0 y0_0_1 (γ_198 0) y0_0_3 y0_0_4 y0_0_5), .arrA (γ_198 0) 42 9 ((y0_0_2).map c_aNd)]⟩) (ms := [0, 1, 3, 7, 0, 16, 48, 112, 255, 511]) TrydMixed rfl (by kernel_rfl) (by kernel_rfl) (by kernel_rfl) (.cons rfl (.cons rfl (.cons rfl (.cons rfl (.cons rfl (.nil _)))))) rfl (fun u hu => (tN (T.by_turn hu ?_)))
      refine T.seq ?_
      refine T.block ?_
      refine T.seq ?_
      refine T.rL ?_
      refine mv rfl rfl rfl rfl rfl ?_
      refine sp rfl (OpT.int2 rfl rfl (dl rfl rfl) rfl rfl ?_)
      refine asg rfl rfl rfl rfl rfl ?_
      refine TL'.nil (tN ?_)
      rcases bif_some h with ⟨c_203, h⟩ | ⟨c_203, h⟩
      · refine T.condT rfl c_203 ?_
        refine T.rL ?_
        refine mv rfl rfl rfl rfl rfl ?_
        refine sp rfl (OpT.nilCheck rfl (dl rfl rfl) rfl rfl ?_)
        refine sp rfl (OpT.fieldPtr rfl (dl rfl rfl) Tryd.underlying88 rfl i3 (by decide) rfl ?_)
        refine sp rfl (OpT.loadBox (i := 0) rfl (dl rfl rfl) Tryd.underlying3 rfl rfl rfl rfl ?_)
        refine sp rfl (OpT.int2 rfl rfl (dl rfl rfl) rfl rfl ?_)
        refine sp rfl (OpT.nilCheck rfl (dl rfl rfl) rfl rfl ?_)
        refine sp rfl (OpT.fieldPtr rfl (dl rfl rfl) Tryd.underlying88 rfl i3 (by decide) rfl ?_)
        refine sp rfl (OpT.storeTo (i := 0) (cells' := [.d (.str y0_0_0), .d (.int .i64 (IntKind.i64.wrap (y0_0_1 + (1 : Int)))), .d (.ex (γ_198 0)), .d (.int .i64 y0_0_3), .d (.int .i64 y0_0_4), .d (.int .i64 y0_0_5)]) rfl rfl i3 rfl rfl rfl (Nat.le_of_ble_eq_true rfl) rfl ?_)
        refine TL'.nil (inBlock_normal (tN ?_))
        refine T.by_turn ?_ (r4r_item_j1_T K rec_r4r_alternative hrec_r4r_alternative bx0 (r4r_item_l0 K rec_r4r_alternative k) ih x3_0_6 (0 : Int) (-1 : Int) y0_0_0 (IntKind.i64.wrap (y0_0_1 + (1 : Int))) y0_0_3 y0_0_4 y0_0_5 y0_0_2 (γ_198 0) h)
        exact Turn.rp (.cons rfl (.cons rfl (.cons rfl (.cons rfl (.nil _))))) (.c .z (.c .z (.n _)))
      · refine T.condF rfl c_203 ?_
        refine T.seq ?_
        refine T.rL ?_
        refine mv rfl rfl rfl rfl rfl ?_
        refine sp rfl (OpT.int2 rfl rfl (dl rfl rfl) rfl rfl ?_)
        refine asg rfl rfl rfl rfl rfl ?_
        refine TL'.nil (tN ?_)
        rcases bif_some h with ⟨c_208, h⟩ | ⟨c_208, h⟩
        · refine T.condT rfl c_208 ?_
          refine T.seq ?_
          refine T.rL ?_
          refine asg rfl rfl rfl rfl rfl ?_
          refine TL'.nil (tN ?_)
          refine T.rL ?_
          refine mv rfl rfl rfl rfl rfl ?_
          refine sp rfl (OpT.nilCheck rfl (dl rfl rfl) rfl rfl ?_)
          refine sp rfl (OpT.fieldPtr rfl (dl rfl rfl) Tryd.underlying88 rfl i3 (by decide) rfl ?_)
          refine sp rfl (OpT.loadBox (i := 0) rfl (dl rfl rfl) Tryd.underlying3 rfl rfl rfl rfl ?_)
          refine sp rfl (OpT.int2 rfl rfl (dl rfl rfl) rfl rfl ?_)
          refine sp rfl (OpT.nilCheck rfl (dl rfl rfl) rfl rfl ?_)
          refine sp rfl (OpT.fieldPtr rfl (dl rfl rfl) Tryd.underlying88 rfl i3 (by decide) rfl ?_)
          refine sp rfl (OpT.storeTo (i := 0) (cells' := [.d (.str y0_0_0), .d (.int .i64 (IntKind.i64.wrap (y0_0_1 + (1 : Int)))), .d (.ex (γ_198 0)), .d (.int .i64 y0_0_3), .d (.int .i64 y0_0_4), .d (.int .i64 y0_0_5)]) rfl rfl i3 rfl rfl rfl (Nat.le_of_ble_eq_true rfl) rfl ?_)
          refine TL'.nil (inBlock_normal (tN ?_))
          refine T.by_turn ?_ (r4r_item_j1_T K rec_r4r_alternative hrec_r4r_alternative bx0 (r4r_item_l0 K rec_r4r_alternative k) ih x3_0_6 (1 : Int) (-1 : Int) y0_0_0 (IntKind.i64.wrap (y0_0_1 + (1 : Int))) y0_0_3 y0_0_4 y0_0_5 y0_0_2 (γ_198 0) h)
          exact Turn.rp (.cons rfl (.cons rfl (.cons rfl (.cons rfl (.nil _))))) (.c .z (.c .z (.n _)))
        · refine T.condF rfl c_208 ?_
          refine T.seq ?_
          refine T.rL ?_
          refine mv rfl rfl rfl rfl rfl ?_
          refine sp rfl (OpT.int2 rfl rfl (dl rfl rfl) rfl rfl ?_)
          refine asg rfl rfl rfl rfl rfl ?_
          refine TL'.nil (tN ?_)
          rcases bif_some h with ⟨c_209, h⟩ | ⟨c_209, h⟩
          · refine T.condT rfl c_209 ?_
            refine T.seq ?_
            refine T.rL ?_
            refine asg rfl rfl rfl rfl rfl ?_
            refine TL'.nil (tN ?_)
            refine T.rL ?_
            refine mv rfl rfl rfl rfl rfl ?_
            refine sp rfl (OpT.nilCheck rfl (dl rfl rfl) rfl rfl ?_)
            refine sp rfl (OpT.fieldPtr rfl (dl rfl rfl) Tryd.underlying88 rfl i3 (by decide) rfl ?_)
            refine sp rfl (OpT.loadBox (i := 0) rfl (dl rfl rfl) Tryd.underlying3 rfl rfl rfl rfl ?_)
            refine sp rfl (OpT.int2 rfl rfl (dl rfl rfl) rfl rfl ?_)
            refine sp rfl (OpT.nilCheck rfl (dl rfl rfl) rfl rfl ?_)
            refine sp rfl (OpT.fieldPtr rfl (dl rfl rfl) Tryd.underlying88 rfl i3 (by decide) rfl ?_)
            refine sp rfl (OpT.storeTo (i := 0) (cells' := [.d (.str y0_0_0), .d (.int .i64 (IntKind.i64.wrap (y0_0_1 + (1 : Int)))), .d (.ex (γ_198 0)), .d (.int .i64 y0_0_3), .d (.int .i64 y0_0_4), .d (.int .i64 y0_0_5)]) rfl rfl i3 rfl rfl rfl (Nat.le_of_ble_eq_true rfl) rfl ?_)
            refine TL'.nil (inBlock_normal (tN ?_))
            refine T.by_turn ?_ (r4r_item_j1_T K rec_r4r_alternative hrec_r4r_alternative bx0 (r4r_item_l0 K rec_r4r_alternative k) ih x3_0_6 (0 : Int) (1 : Int) y0_0_0 (IntKind.i64.wrap (y0_0_1 + (1 : Int))) y0_0_3 y0_0_4 y0_0_5 y0_0_2 (γ_198 0) h)
            exact Turn.rp (.cons rfl (.cons rfl (.cons rfl (.cons rfl (.nil _))))) (.c .z (.c .z (.n _)))
          · refine T.condF rfl c_209 ?_
            refine T.seq ?_
            refine DG.start ?_
            refine DG.mv rfl rfl rfl rfl rfl rfl ?_
            refine DG.step (c := ⟨some 54, .bool ((bt y0_0_0 y0_0_1) == (123 : Int)), [(53, .int .u8 (bt y0_0_0 y0_0_1))], [], []⟩) (fun t hm => One.step rfl (.free rfl) (OpT.int2 rfl rfl (dl rfl rfl) hm.s0 rfl rfl)) (Ct.mo rfl rfl) ?_
            refine DG.mv rfl rfl rfl rfl rfl rfl ?_
            rcases bif_some h with ⟨c_216, h⟩ | ⟨c_216, h⟩
            · refine DG.step (c := ⟨some 56, .ptr bx0 0, [(0, .ptr bx0 0), (55, .bool ((bt y0_0_0 y0_0_1) == (123 : Int)))], [], []⟩) (fun t hm => One.step rfl (.on rfl rfl hm.s1 c_216) (OpT.move rfl (dl rfl rfl) hm.s0 rfl)) (Ct.mo rfl rfl) ?_
              refine DG.step (c := ⟨some 57, .ptr bx0 0, [(56, .ptr bx0 0), (55, .bool ((bt y0_0_0 y0_0_1) == (123 : Int)))], [], []⟩) (fun t hm => One.step rfl (.on rfl rfl hm.s1 c_216) (OpT.nilCheck rfl (dl rfl rfl) hm.s0 rfl rfl)) (Ct.mo rfl rfl) ?_
              refine DG.step (c := ⟨some 58, .ptr bx0 (0 + 1), [(57, .ptr bx0 0), (55, .bool ((bt y0_0_0 y0_0_1) == (123 : Int)))], [], []⟩) (fun t hm => One.step rfl (.on rfl rfl hm.s1 c_216) (OpT.fieldPtr rfl (dl rfl rfl) Tryd.underlying88 rfl i3 (by decide) hm.s0 rfl)) (Ct.mo rfl rfl) ?_
              refine DG.step (c := ⟨some 59, .int .i64 y0_0_1, [(58, .ptr bx0 (0 + 1)), (55, .bool ((bt y0_0_0 y0_0_1) == (123 : Int)))], [(0, (o88 bx0 y0_0_0 y0_0_1 (γ_198 0) y0_0_3 y0_0_4 y0_0_5))], []⟩) (fun t hm => One.step rfl (.on rfl rfl hm.s1 c_216) (OpT.loadBox (i := 0) rfl (dl rfl rfl) Tryd.underlying3 rfl hm.s0 hm.o0 rfl rfl)) (Ct.mo rfl rfl) ?_
              refine DG.step (c := ⟨some 60, .int .i64 (IntKind.i64.wrap (y0_0_1 + (1 : Int))), [(59, .int .i64 y0_0_1), (55, .bool ((bt y0_0_0 y0_0_1) == (123 : Int)))], [], []⟩) (fun t hm => One.step rfl (.on rfl rfl hm.s1 c_216) (OpT.int2 rfl rfl (dl rfl rfl) hm.s0 rfl rfl)) (Ct.mo rfl rfl) ?_
              refine DG.step (c := ⟨some 61, .ptr bx0 0, [(0, .ptr bx0 0), (55, .bool ((bt y0_0_0 y0_0_1) == (123 : Int)))], [], []⟩) (fun t hm => One.step rfl (.on rfl rfl hm.s1 c_216) (OpT.move rfl (dl rfl rfl) hm.s0 rfl)) (Ct.mo rfl rfl) ?_
              refine DG.step (c := ⟨some 62, .ptr bx0 0, [(61, .ptr bx0 0), (55, .bool ((bt y0_0_0 y0_0_1) == (123 : Int)))], [], []⟩) (fun t hm => One.step rfl (.on rfl rfl hm.s1 c_216) (OpT.nilCheck rfl (dl rfl rfl) hm.s0 rfl rfl)) (Ct.mo rfl rfl) ?_
              refine DG.step (c := ⟨some 63, .ptr bx0 (0 + 0), [(62, .ptr bx0 0), (55, .bool ((bt y0_0_0 y0_0_1) == (123 : Int)))], [], []⟩) (fun t hm => One.step rfl (.on rfl rfl hm.s1 c_216) (OpT.fieldPtr rfl (dl rfl rfl) Tryd.underlying88 rfl i9 (by decide) hm.s0 rfl)) (Ct.mo rfl rfl) ?_
              refine DG.step (c := ⟨some 64, .str y0_0_0, [(63, .ptr bx0 (0 + 0)), (55, .bool ((bt y0_0_0 y0_0_1) == (123 : Int)))], [(0, (o88 bx0 y0_0_0 y0_0_1 (γ_198 0) y0_0_3 y0_0_4 y0_0_5))], []⟩) (fun t hm => One.step rfl (.on rfl rfl hm.s1 c_216) (OpT.loadBox (i := 0) rfl (dl rfl rfl) Tryd.underlying9 rfl hm.s0 hm.o0 rfl rfl)) (Ct.mo rfl rfl) ?_
              refine DG.step (c := ⟨some 65, .int .i64 ((y0_0_0).size : Int), [(64, .str y0_0_0), (55, .bool ((bt y0_0_0 y0_0_1) == (123 : Int)))], [], []⟩) (fun t hm => One.step rfl (.on rfl rfl hm.s1 c_216) (OpT.lenStr rfl (dl rfl rfl) Tryd.underlying9 hm.s0 rfl)) (Ct.mo rfl rfl) ?_
              refine DG.step (c := ⟨some 66, .bool (decide ((IntKind.i64.wrap (y0_0_1 + (1 : Int))) < ((y0_0_0).size : Int))), [(60, .int .i64 (IntKind.i64.wrap (y0_0_1 + (1 : Int)))), (65, .int .i64 ((y0_0_0).size : Int)), (55, .bool ((bt y0_0_0 y0_0_1) == (123 : Int)))], [], []⟩) (fun t hm => One.step rfl (.on rfl rfl hm.s2 c_216) (OpT.int2 rfl rfl (dl rfl rfl) hm.s0 hm.s1 rfl)) (Ct.mo rfl rfl) ?_
              refine DG.step (c := ⟨some 67, .bool (decide ((IntKind.i64.wrap (y0_0_1 + (1 : Int))) < ((y0_0_0).size : Int))), [(55, .bool ((bt y0_0_0 y0_0_1) == (123 : Int))), (66, .bool (decide ((IntKind.i64.wrap (y0_0_1 + (1 : Int))) < ((y0_0_0).size : Int))))], [], []⟩) (fun t hm => One.step rfl (.free rfl) (OpT.pickT rfl (dl rfl rfl) hm.s0 c_216 hm.s1 rfl)) (Ct.mo rfl rfl) ?_
              refine DG.mv rfl rfl rfl rfl rfl rfl ?_
              rcases bif_some h with ⟨c_217, h⟩ | ⟨c_217, h⟩
              · refine DG.step (c := ⟨some 69, .ptr bx0 0, [(0, .ptr bx0 0), (68, .bool (decide ((IntKind.i64.wrap (y0_0_1 + (1 : Int))) < ((y0_0_0).size : Int))))], [], []⟩) (fun t hm => One.step rfl (.on rfl rfl hm.s1 c_217) (OpT.move rfl (dl rfl rfl) hm.s0 rfl)) (Ct.mo rfl rfl) ?_
                refine DG.step (c := ⟨some 70, .ptr bx0 0, [(69, .ptr bx0 0), (68, .bool (decide ((IntKind.i64.wrap (y0_0_1 + (1 : Int))) < ((y0_0_0).size : Int))))], [], []⟩) (fun t hm => One.step rfl (.on rfl rfl hm.s1 c_217) (OpT.nilCheck rfl (dl rfl rfl) hm.s0 rfl rfl)) (Ct.mo rfl rfl) ?_
                refine DG.step (c := ⟨some 71, .ptr bx0 (0 + 0), [(70, .ptr bx0 0), (68, .bool (decide ((IntKind.i64.wrap (y0_0_1 + (1 : Int))) < ((y0_0_0).size : Int))))], [], []⟩) (fun t hm => One.step rfl (.on rfl rfl hm.s1 c_217) (OpT.fieldPtr rfl (dl rfl rfl) Tryd.underlying88 rfl i9 (by decide) hm.s0 rfl)) (Ct.mo rfl rfl) ?_
                refine DG.step (c := ⟨some 72, .str y0_0_0, [(71, .ptr bx0 (0 + 0)), (68, .bool (decide ((IntKind.i64.wrap (y0_0_1 + (1 : Int))) < ((y0_0_0).size : Int))))], [(0, (o88 bx0 y0_0_0 y0_0_1 (γ_198 0) y0_0_3 y0_0_4 y0_0_5))], []⟩) (fun t hm => One.step rfl (.on rfl rfl hm.s1 c_217) (OpT.loadBox (i := 0) rfl (dl rfl rfl) Tryd.underlying9 rfl hm.s0 hm.o0 rfl rfl)) (Ct.mo rfl rfl) ?_
                refine DG.step (c := ⟨some 73, .ptr bx0 0, [(0, .ptr bx0 0), (68, .bool (decide ((IntKind.i64.wrap (y0_0_1 + (1 : Int))) < ((y0_0_0).size : Int))))], [], []⟩) (fun t hm => One.step rfl (.on rfl rfl hm.s1 c_217) (OpT.move rfl (dl rfl rfl) hm.s0 rfl)) (Ct.mo rfl rfl) ?_
                refine DG.step (c := ⟨some 74, .ptr bx0 0, [(73, .ptr bx0 0), (68, .bool (decide ((IntKind.i64.wrap (y0_0_1 + (1 : Int))) < ((y0_0_0).size : Int))))], [], []⟩) (fun t hm => One.step rfl (.on rfl rfl hm.s1 c_217) (OpT.nilCheck rfl (dl rfl rfl) hm.s0 rfl rfl)) (Ct.mo rfl rfl) ?_
                refine DG.step (c := ⟨some 75, .ptr bx0 (0 + 1), [(74, .ptr bx0 0), (68, .bool (decide ((IntKind.i64.wrap (y0_0_1 + (1 : Int))) < ((y0_0_0).size : Int))))], [], []⟩) (fun t hm => One.step rfl (.on rfl rfl hm.s1 c_217) (OpT.fieldPtr rfl (dl rfl rfl) Tryd.underlying88 rfl i3 (by decide) hm.s0 rfl)) (Ct.mo rfl rfl) ?_
                refine DG.step (c := ⟨some 76, .int .i64 y0_0_1, [(75, .ptr bx0 (0 + 1)), (68, .bool (decide ((IntKind.i64.wrap (y0_0_1 + (1 : Int))) < ((y0_0_0).size : Int))))], [(0, (o88 bx0 y0_0_0 y0_0_1 (γ_198 0) y0_0_3 y0_0_4 y0_0_5))], []⟩) (fun t hm => One.step rfl (.on rfl rfl hm.s1 c_217) (OpT.loadBox (i := 0) rfl (dl rfl rfl) Tryd.underlying3 rfl hm.s0 hm.o0 rfl rfl)) (Ct.mo rfl rfl) ?_
                refine DG.step (c := ⟨some 77, .int .i64 (IntKind.i64.wrap (y0_0_1 + (1 : Int))), [(76, .int .i64 y0_0_1), (68, .bool (decide ((IntKind.i64.wrap (y0_0_1 + (1 : Int))) < ((y0_0_0).size : Int))))], [], []⟩) (fun t hm => One.step rfl (.on rfl rfl hm.s1 c_217) (OpT.int2 rfl rfl (dl rfl rfl) hm.s0 rfl rfl)) (Ct.mo rfl rfl) ?_
                obtain ⟨g_218, h⟩ := ck_some h
                refine DG.step (c := ⟨some 78, .int .u8 (bt y0_0_0 (IntKind.i64.wrap (y0_0_1 + (1 : Int)))), [(72, .str y0_0_0), (77, .int .i64 (IntKind.i64.wrap (y0_0_1 + (1 : Int)))), (68, .bool (decide ((IntKind.i64.wrap (y0_0_1 + (1 : Int))) < ((y0_0_0).size : Int))))], [], []⟩) (fun t hm => One.step rfl (.on rfl rfl hm.s2 c_217) (OpT.indexStr rfl (dl rfl rfl) Tryd.underlying9 hm.s0 hm.s1 g_218.1 g_218.2 rfl)) (Ct.mo rfl rfl) ?_
                obtain ⟨v_219, e_220, h⟩ := bind_some h
                refine DG.step (c := ⟨some 79, .bool v_219, [(78, .int .u8 (bt y0_0_0 (IntKind.i64.wrap (y0_0_1 + (1 : Int))))), (68, .bool (decide ((IntKind.i64.wrap (y0_0_1 + (1 : Int))) < ((y0_0_0).size : Int))))], [], []⟩) (fun t hm => One.step rfl (.on rfl rfl hm.s1 c_217) (OpT.callPA rfl (dl rfl rfl) Tryd.func81 rfl rfl (Args.cons hm.s0 Args.nil) (CallR.nil (r4_digit_T K e_220)) rfl)) (Ct.mo rfl rfl) ?_
                refine DG.step (c := ⟨some 80, .bool v_219, [(68, .bool (decide ((IntKind.i64.wrap (y0_0_1 + (1 : Int))) < ((y0_0_0).size : Int)))), (79, .bool v_219)], [], []⟩) (fun t hm => One.step rfl (.free rfl) (OpT.pickT rfl (dl rfl rfl) hm.s0 c_217 hm.s1 rfl)) (Ct.mo rfl rfl) ?_
                refine DG.step (c := ⟨some 52, .bool v_219, [(80, .bool v_219)], [], []⟩) (fun t hm => One.step rfl (.free rfl) (OpT.assign rfl (dl rfl rfl) hm.s0 rfl)) (Ct.mo rfl rfl) ?_
                refine DG.fin (s1 := ⟨[(0, .ptr bx0 0), (3, .int .i64 x3_0_6), (52, .bool v_219), (56, .ptr bx0 0), (57, .ptr bx0 0), (58, .ptr bx0 (0 + 1)), (59, .int .i64 y0_0_1), (60, .int .i64 (IntKind.i64.wrap (y0_0_1 + (1 : Int)))), (61, .ptr bx0 0), (62, .ptr bx0 0), (63, .ptr bx0 (0 + 0)), (64, .str y0_0_0), (65, .int .i64 ((y0_0_0).size : Int)), (66, .bool (decide ((IntKind.i64.wrap (y0_0_1 + (1 : Int))) < ((y0_0_0).size : Int)))), (69, .ptr bx0 0), (70, .ptr bx0 0), (71, .ptr bx0 (0 + 0)), (72, .str y0_0_0), (73, .ptr bx0 0), (74, .ptr bx0 0), (75, .ptr bx0 (0 + 1)), (76, .int .i64 y0_0_1), (77, .int .i64 (IntKind.i64.wrap (y0_0_1 + (1 : Int)))), (78, .int .u8 (bt y0_0_0 (IntKind.i64.wrap (y0_0_1 + (1 : Int))))), (79, .bool v_219)], [(o88 bx0 y0_0_0 y0_0_1 (γ_198 0) y0_0_3 y0_0_4 y0_0_5), .arrA (γ_198 0) 42 9 ((y0_0_2).map c_aNd)]⟩) (ms := [0, 1, 3, 7, 15, 31, 63, 127, 7, 263, 775, 1799, 3847, 8191, 16383, 32767, 65535, 131071, 262143, 524287, 65535, 1114111, 3211263, 7405567, 15794175, 33554431, 67108863, 134217727, 268435455]) TrydMixed rfl (by kernel_rfl) (by kernel_rfl) (by kernel_rfl) (.cons rfl (.cons rfl (.cons rfl (.cons rfl (.cons rfl (.cons rfl (.cons rfl (.cons rfl (.cons rfl (.cons rfl (.cons rfl (.cons rfl (.cons rfl (.cons rfl (.cons rfl (.cons rfl (.cons rfl (.cons rfl (.cons rfl (.cons rfl (.cons rfl (.cons rfl (.cons rfl (.cons rfl (.cons rfl (.nil _)))))))))))))))))))))))))) rfl (fun u hu => (tN (T.by_turn hu ?_)))
                rcases bif_some h with ⟨c_221, h⟩ | ⟨c_221, h⟩
                · refine T.condT rfl c_221 ?_
                  refine T.rL ?_
                  refine mv rfl rfl rfl rfl rfl ?_
                  obtain ⟨v_222, e_223, h⟩ := bind_some h
                  refine sp rfl (OpT.callG (is := [0, 1]) (ph := []) rfl (dl rfl rfl) Tryd.func91 rfl rfl (Args.cons rfl Args.nil) (r4r_bounds_T K (bx0 := bx0) (wx0c2 := (γ_198 0)) e_223) (.cons rfl rfl (.cons rfl rfl (.nil))) (fun _ => rfl) (fun γ_224 => ?_))
                  refine nm (.c (.c (.n))) ?_
                  refine mv rfl rfl rfl rfl rfl ?_
                  refine sp rfl (OpT.extract rfl (dl rfl rfl) rfl rfl ?_)
                  refine sp rfl (OpT.extract rfl (dl rfl rfl) rfl rfl ?_)
                  refine asg rfl rfl rfl rfl rfl ?_
                  refine asg rfl rfl rfl rfl rfl ?_
                  refine TL'.nil (inBlock_normal (tN ?_))
                  refine T.by_turn ?_ (r4r_item_j1_T K rec_r4r_alternative hrec_r4r_alternative bx0 (r4r_item_l0 K rec_r4r_alternative k) ih x3_0_6 v_222.1 v_222.2.1 v_222.2.2.s v_222.2.2.at_ v_222.2.2.deep v_222.2.2.e v_222.2.2.where_ v_222.2.2.nodes (γ_224 0) h)
                  exact Turn.rp (.cons rfl (.cons rfl (.cons rfl (.cons rfl (.nil _))))) (.c .z (.c .z (.n _)))
                · refine T.condF rfl c_221 ?_
                  refine T.by_turn ?_ (r4r_item_j2_T K rec_r4r_alternative hrec_r4r_alternative bx0 x3_0_6 y0_0_0 y0_0_1 y0_0_3 y0_0_4 y0_0_5 y0_0_2 (γ_198 0) h)
                  exact Turn.rp (.cons rfl (.nil _)) (.c .z (.c .z (.n _)))
              · refine DG.off c_217 rfl rfl rfl rfl rfl rfl ?_
                refine DG.off c_217 rfl rfl rfl rfl rfl rfl ?_
                refine DG.off c_217 rfl rfl rfl rfl rfl rfl ?_
                refine DG.off c_217 rfl rfl rfl rfl rfl rfl ?_
                refine DG.off c_217 rfl rfl rfl rfl rfl rfl ?_
                refine DG.off c_217 rfl rfl rfl rfl rfl rfl ?_
                refine DG.off c_217 rfl rfl rfl rfl rfl rfl ?_
                refine DG.off c_217 rfl rfl rfl rfl rfl rfl ?_
                refine DG.off c_217 rfl rfl rfl rfl rfl rfl ?_
                refine DG.off c_217 rfl rfl rfl rfl rfl rfl ?_
                refine DG.off c_217 rfl rfl rfl rfl rfl rfl ?_
                refine DG.step (c := ⟨some 80, .bool false, [(68, .bool (decide ((IntKind.i64.wrap (y0_0_1 + (1 : Int))) < ((y0_0_0).size : Int))))], [], []⟩) (fun t hm => One.step rfl (.free rfl) (OpT.pickF rfl (dl rfl rfl) hm.s0 c_217 rfl rfl)) (Ct.mo rfl rfl) ?_
                refine DG.step (c := ⟨some 52, .bool false, [(80, .bool false)], [], []⟩) (fun t hm => One.step rfl (.free rfl) (OpT.assign rfl (dl rfl rfl) hm.s0 rfl)) (Ct.mo rfl rfl) ?_
                refine DG.fin (s1 := ⟨[(0, .ptr bx0 0), (3, .int .i64 x3_0_6), (52, .bool false), (56, .ptr bx0 0), (57, .ptr bx0 0), (58, .ptr bx0 (0 + 1)), (59, .int .i64 y0_0_1), (60, .int .i64 (IntKind.i64.wrap (y0_0_1 + (1 : Int)))), (61, .ptr bx0 0), (62, .ptr bx0 0), (63, .ptr bx0 (0 + 0)), (64, .str y0_0_0), (65, .int .i64 ((y0_0_0).size : Int)), (66, .bool (decide ((IntKind.i64.wrap (y0_0_1 + (1 : Int))) < ((y0_0_0).size : Int)))), (69, .tup []), (70, .tup []), (71, .tup []), (72, .tup []), (73, .tup []), (74, .tup []), (75, .tup []), (76, .tup []), (77, .tup []), (78, .tup []), (79, .tup [])], [(o88 bx0 y0_0_0 y0_0_1 (γ_198 0) y0_0_3 y0_0_4 y0_0_5), .arrA (γ_198 0) 42 9 ((y0_0_2).map c_aNd)]⟩) (ms := [0, 1, 3, 7, 15, 31, 63, 127, 7, 263, 775, 1799, 3847, 8191, 16383, 32767, 65535, 131071, 262143, 524287, 65535, 1114111, 3211263, 7405567, 15794175, 33554431, 67108863, 134217727, 268435455]) TrydMixed rfl (by kernel_rfl) (by kernel_rfl) (by kernel_rfl) (.cons rfl (.cons rfl (.cons rfl (.cons rfl (.cons rfl (.cons rfl (.cons rfl (.cons rfl (.cons rfl (.cons rfl (.cons rfl (.cons rfl (.cons rfl (.cons rfl (.cons rfl (.cons rfl (.cons rfl (.cons rfl (.cons rfl (.cons rfl (.cons rfl (.cons rfl (.cons rfl (.cons rfl (.cons rfl (.nil _)))))))))))))))))))))))))) rfl (fun u hu => (tN (T.by_turn hu ?_)))
                refine T.condF rfl rfl ?_
                refine T.by_turn ?_ (r4r_item_j2_T K rec_r4r_alternative hrec_r4r_alternative bx0 x3_0_6 y0_0_0 y0_0_1 y0_0_3 y0_0_4 y0_0_5 y0_0_2 (γ_198 0) h)
                exact Turn.rp (.cons rfl (.nil _)) (.c .z (.c .z (.n _)))
            · refine DG.off c_216 rfl rfl rfl rfl rfl rfl ?_
              refine DG.off c_216 rfl rfl rfl rfl rfl rfl ?_
              refine DG.off c_216 rfl rfl rfl rfl rfl rfl ?_
              refine DG.off c_216 rfl rfl rfl rfl rfl rfl ?_
              refine DG.off c_216 rfl rfl rfl rfl rfl rfl ?_
              refine DG.off c_216 rfl rfl rfl rfl rfl rfl ?_
              refine DG.off c_216 rfl rfl rfl rfl rfl rfl ?_
              refine DG.off c_216 rfl rfl rfl rfl rfl rfl ?_
              refine DG.off c_216 rfl rfl rfl rfl rfl rfl ?_
              refine DG.off c_216 rfl rfl rfl rfl rfl rfl ?_
              refine DG.off c_216 rfl rfl rfl rfl rfl rfl ?_
              refine DG.step (c := ⟨some 67, .bool false, [(55, .bool ((bt y0_0_0 y0_0_1) == (123 : Int)))], [], []⟩) (fun t hm => One.step rfl (.free rfl) (OpT.pickF rfl (dl rfl rfl) hm.s0 c_216 rfl rfl)) (Ct.mo rfl rfl) ?_
              refine DG.mv rfl rfl rfl rfl rfl rfl ?_
              refine DG.off rfl rfl rfl rfl rfl rfl rfl ?_
              refine DG.off rfl rfl rfl rfl rfl rfl rfl ?_
              refine DG.off rfl rfl rfl rfl rfl rfl rfl ?_
              refine DG.off rfl rfl rfl rfl rfl rfl rfl ?_
              refine DG.off rfl rfl rfl rfl rfl rfl rfl ?_
              refine DG.off rfl rfl rfl rfl rfl rfl rfl ?_
              refine DG.off rfl rfl rfl rfl rfl rfl rfl ?_
              refine DG.off rfl rfl rfl rfl rfl rfl rfl ?_
              refine DG.off rfl rfl rfl rfl rfl rfl rfl ?_
              refine DG.off rfl rfl rfl rfl rfl rfl rfl ?_
              refine DG.off rfl rfl rfl rfl rfl rfl rfl ?_
              refine DG.step (c := ⟨some 80, .bool false, [(68, .bool false)], [], []⟩) (fun t hm => One.step rfl (.free rfl) (OpT.pickF rfl (dl rfl rfl) hm.s0 rfl rfl rfl)) (Ct.mo rfl rfl) ?_
              refine DG.step (c := ⟨some 52, .bool false, [(80, .bool false)], [], []⟩) (fun t hm => One.step rfl (.free rfl) (OpT.assign rfl (dl rfl rfl) hm.s0 rfl)) (Ct.mo rfl rfl) ?_
              refine DG.fin (s1 := ⟨[(0, .ptr bx0 0), (3, .int .i64 x3_0_6), (52, .bool false), (56, .tup []), (57, .tup []), (58, .tup []), (59, .tup []), (60, .tup []), (61, .tup []), (62, .tup []), (63, .tup []), (64, .tup []), (65, .tup []), (66, .tup []), (69, .tup []), (70, .tup []), (71, .tup []), (72, .tup []), (73, .tup []), (74, .tup []), (75, .tup []), (76, .tup []), (77, .tup []), (78, .tup []), (79, .tup [])], [(o88 bx0 y0_0_0 y0_0_1 (γ_198 0) y0_0_3 y0_0_4 y0_0_5), .arrA (γ_198 0) 42 9 ((y0_0_2).map c_aNd)]⟩) (ms := [0, 1, 3, 7, 15, 31, 63, 127, 7, 263, 775, 1799, 3847, 8191, 16383, 32767, 65535, 131071, 262143, 524287, 65535, 1114111, 3211263, 7405567, 15794175, 33554431, 67108863, 134217727, 268435455]) TrydMixed rfl (by kernel_rfl) (by kernel_rfl) (by kernel_rfl) (.cons rfl (.cons rfl (.cons rfl (.cons rfl (.cons rfl (.cons rfl (.cons rfl (.cons rfl (.cons rfl (.cons rfl (.cons rfl (.cons rfl (.cons rfl (.cons rfl (.cons rfl (.cons rfl (.cons rfl (.cons rfl (.cons rfl (.cons rfl (.cons rfl (.cons rfl (.cons rfl (.cons rfl (.cons rfl (.nil _)))))))))))))))))))))))))) rfl (fun u hu => (tN (T.by_turn hu ?_)))
              refine T.condF rfl rfl ?_
              refine T.by_turn ?_ (r4r_item_j2_T K rec_r4r_alternative hrec_r4r_alternative bx0 x3_0_6 y0_0_0 y0_0_1 y0_0_3 y0_0_4 y0_0_5 y0_0_2 (γ_198 0) h)
              exact Turn.rp (.cons rfl (.nil _)) (.c .z (.c .z (.n _)))
    · refine T.condF rfl c_199 ?_
      refine T.exit (thenS_exit (thenS_exit (inBlock_exit (tN ?_))))
      refine T.seq ?_
      refine T.rL ?_
      refine mv rfl rfl rfl rfl rfl ?_
      refine asg rfl rfl rfl rfl rfl ?_
      refine TL'.nil (tN ?_)
      refine T.ret ?_
      exact Fin.doneK (.cons _ _ _ _ (.tmp 2 _ rfl) .nil) (.cons 0 rfl (.cons 0 rfl (.nil _))) (by cases h; exact ⟨gl [γ_198 0], rfl, rfl⟩)
theorem r4r_item_T (K : Nat) (rec_r4r_alternative : r4r → Option (Int × r4r)) (hrec_r4r_alternative : r4r_alternative_S rec_r4r_alternative) {x0 : r4r} {bx0 : Nat} {wx0c2 : Value} {r : Int × r4r} (h : r4r_item K rec_r4r_alternative x0 = some r) : CallG Tryd.prog 82 [.ptr bx0 0] [(o88 bx0 x0.s x0.at_ wx0c2 x0.deep x0.e x0.where_), .arrA wx0c2 42 9 (x0.nodes.map c_aNd)] (fun γ => (.int .i64 r.1)) (fun γ => [(o88 bx0 r.2.s r.2.at_ (γ 0) r.2.deep r.2.e r.2.where_), .arrA (γ 0) 42 9 (r.2.nodes.map c_aNd)]) := by
 refine CallT.intro Tryd.func82 rfl (nb rfl) ?_
 show T Tryd.prog 99 (Code.at [] (codeOf Tryd.f82)) ⟨paramSlots 0 [.ptr bx0 0], [(o88 bx0 x0.s x0.at_ wx0c2 x0.deep x0.e x0.where_), .arrA wx0c2 42 9 (x0.nodes.map c_aNd)]⟩ (r4r_item_q bx0 r)
 unfold r4r_item at h
 refine T.seq ?_
 refine T.rL ?_
 refine aw rfl ?_
 refine TL'.nil (tN ?_)
 refine T.seq ?_
 refine T.rL ?_
 refine mw rfl ?_
 obtain ⟨v_193, e_194, h⟩ := bind_some h
 refine sp rfl (OpT.callG (is := [0, 1]) (ph := []) rfl (dk rfl) Tryd.func90 rfl rfl (Args.cons rfl Args.nil) (r4r_atom_T K rec_r4r_alternative hrec_r4r_alternative (bx0 := bx0) (wx0c2 := wx0c2) e_194) (.cons rfl rfl (.cons rfl rfl (.nil))) (fun _ => rfl) (fun γ_195 => ?_))
 refine nm (.c (.c (.n))) ?_
 refine aw rfl ?_
 refine TL'.nil (tN ?_)
 refine T.seq ?_
 refine T.block ?_
 refine T.loop ?_
 refine TL.by_turn ?_ (r4r_item_l0_T K rec_r4r_alternative hrec_r4r_alternative bx0 K v_193.1 v_193.2.s v_193.2.at_ v_193.2.deep v_193.2.e v_193.2.where_ v_193.2.nodes (γ_195 0) h)
 exact Turn.rp (.cons rfl (.cons rfl (.nil _))) (.c .z (.c .z (.n _)))
abbrev r4r_row_q (bx0 : Nat) (r : Int × r4r) : Exit → St → Prop := retS Tryd.prog Tryd.f64 (fun y t => ∃ γ : Nat → Value, y = (.int .i64 r.1) ∧ t = [(o88 bx0 r.2.s r.2.at_ (γ 0) r.2.deep r.2.e r.2.where_), .arrA (γ 0) 42 9 (r.2.nodes.map c_aNd)])
abbrev r4r_row_qs111 (bx0 : Nat) (r : Int × r4r) : Exit → St → Prop := thenS (fun s' => T Tryd.prog 57 (Code.at [1, 1, 1] (codeOf Tryd.f64)) s' ((r4r_row_q bx0 r))) ((r4r_row_q bx0 r))
abbrev r4r_row_qb0x111 (bx0 : Nat) (r : Int × r4r) : Exit → St → Prop := inBlockS 0 ((r4r_row_qs111 bx0 r))
abbrev r4r_row_ql1100 (bx0 : Nat) (r : Int × r4r) : Exit → St → Prop := thenS (fun s' => TL Tryd.prog 57 (Code.at [1, 1, 0, 0, 0] (codeOf Tryd.f64)) s' ((r4r_row_qb0x111 bx0 r))) ((r4r_row_qb0x111 bx0 r))
abbrev r4r_row_qs110001 (bx0 : Nat) (r : Int × r4r) : Exit → St → Prop := thenS (fun s' => T Tryd.prog 57 (Code.at [1, 1, 0, 0, 0, 1] (codeOf Tryd.f64)) s' ((r4r_row_ql1100 bx0 r))) ((r4r_row_ql1100 bx0 r))
theorem r4r_row_j1_T {r : Int × r4r} (K : Nat) (rec_r4r_alternative : r4r → Option (Int × r4r)) (hrec_r4r_alternative : r4r_alternative_S rec_r4r_alternative) (bx0 : Nat) (y0_1_0 : ByteArray) (y0_1_1 : Int) (y0_1_3 : Int) (y0_1_4 : Int) (y0_1_5 : Int) (y0_1_2 : List aNd) (y3_1_6 : List Int) (w0_1 : Value) (w3_1 : Value) (h : r4r_row_j1 K rec_r4r_alternative y0_1_0 y0_1_1 y0_1_3 y0_1_4 y0_1_5 y0_1_2 y3_1_6 = some r) : T Tryd.prog 57 (Code.at [1, 1, 0, 0, 0, 0, 1, 1] (codeOf Tryd.f64)) ⟨[(0, .ptr bx0 0), (3, .c (.ex w3_1))], [(o88 bx0 y0_1_0 y0_1_1 w0_1 y0_1_3 y0_1_4 y0_1_5), .arrA w0_1 42 9 (y0_1_2.map c_aNd), .arrA w3_1 3 1 (y3_1_6.map (cI .i64))]⟩ (r4r_row_qs110001 bx0 r) := by
 unfold r4r_row_j1 at h
 refine T.exit (thenS_exit (thenS_exit (inBlock_exit (tN ?_))))
 refine T.seq ?_
 refine T.seq ?_
 refine T.rL ?_
 refine mw rfl ?_
 refine sp rfl (OpT.nilCheck rfl (dk rfl) rfl rfl ?_)
 refine sp rfl (OpT.fieldPtr rfl (dk rfl) ul88 rfl i35 (by decide) rfl ?_)
 refine sp rfl (OpT.loadBox (i := 0) rfl (dk rfl) ul35 rfl rfl rfl rfl ?_)
 refine sp rfl (OpT.int2 rfl rfl (dk rfl) rfl rfl ?_)
 refine TL'.nil (tN ?_)
 rcases bif_some h with ⟨c_277, h⟩ | ⟨c_277, h⟩
 refine T.condT rfl c_277 ?_
 refine T.seq ?_
 refine T.rL ?_
 refine aw rfl ?_
 refine TL'.nil (tN ?_)
 refine T.ret (thenS_ret ?_)
 exact Fin.doneK (.cons _ _ _ _ (.tmp 2 _ rfl) .nil) (.cons 0 rfl (.cons 0 rfl (.nil _))) (by cases h; exact ⟨gl [w0_1], rfl, rfl⟩)
 refine T.condF rfl c_277 ?_
 refine T.skip (tN ?_)
 refine T.seq ?_
 refine T.seq ?_
 refine T.rL ?_
 refine mw rfl ?_
 refine sp rfl (OpT.lenAM (i := 2) (xs := y3_1_6) (f := (cI .i64)) rfl (dk rfl) ul40 rfl rfl ?_)
 refine sp rfl (OpT.int2 rfl rfl (dk rfl) rfl rfl ?_)
 refine TL'.nil (tN ?_)
 rcases bif_some h with ⟨c_278, h⟩ | ⟨c_278, h⟩
 refine T.condT rfl c_278 ?_
 refine T.seq ?_
 refine T.rL ?_
 refine mw rfl ?_
 refine sp rfl (OpT.thenTurn (OpT.build (l := [.int .u8 (1 : Int), .int .u64 (Arr4.mk 0 0 0 0).a0, .int .u64 (Arr4.mk 0 0 0 0).a1, .int .u64 (Arr4.mk 0 0 0 0).a2, .int .u64 (Arr4.mk 0 0 0 0).a3, .ex (.slice none 0 0), .int .i64 (0 : Int), .int .i64 (0 : Int), .str (⟨#[]⟩ : ByteArray)]) rfl (dk rfl) (built_struct (pl := [(0, 1), (1, 4), (5, 1), (6, 1), (7, 1), (8, 1)]) ul42 i42 rfl) (all1 rfl) rfl rfl rfl) (Turn.weakSlotP 45 (l := [.int .u8 (1 : Int), .int .u64 (Arr4.mk 0 0 0 0).a0, .int .u64 (Arr4.mk 0 0 0 0).a1, .int .u64 (Arr4.mk 0 0 0 0).a2, .int .u64 (Arr4.mk 0 0 0 0).a3, .ex (.slice none 0 0), .int .i64 (0 : Int), .int .i64 (0 : Int), .str (⟨#[]⟩ : ByteArray)]) (l' := [.int .u8 (1 : Int), .int .u64 (Arr4.mk 0 0 0 0).a0, .int .u64 (Arr4.mk 0 0 0 0).a1, .int .u64 (Arr4.mk 0 0 0 0).a2, .int .u64 (Arr4.mk 0 0 0 0).a3, .sl false 1 (([] : List Int).map (cI .i64)), .int .i64 (0 : Int), .int .i64 (0 : Int), .str (⟨#[]⟩ : ByteArray)]) (.cons (.same _) (.cons (.same _) (.cons (.same _) (.cons (.same _) (.cons (.same _) (.cons (.nil _ _) (.cons (.same _) (.cons (.same _) (.cons (.same _) (.refl _))))))))))) ?_)
 obtain ⟨v_279, e_280, h⟩ := bind_some h
 refine sp rfl (OpT.callG (is := [0, 1]) (ph := []) rfl (dk rfl) Tryd.func65 rfl rfl (Args.cons rfl (Args.cons rfl Args.nil)) (r4r_put_T K (bx0 := bx0) (wx0c2 := w0_1) e_280) (.cons rfl rfl (.cons rfl rfl (.nil))) (fun _ => rfl) (fun γ_281 => ?_))
 refine nm (.c (.c (.c (.n)))) ?_
 refine aw rfl ?_
 refine TL'.nil (tN ?_)
 refine T.ret (thenS_ret ?_)
 exact Fin.doneK (.cons _ _ _ _ (.tmp 2 _ rfl) .nil) (.cons 0 rfl (.cons 0 rfl (.nil _))) (by cases h; exact ⟨gl [γ_281 0], rfl, rfl⟩)
 refine T.condF rfl c_278 ?_
 refine T.skip (tN ?_)
 refine T.seq ?_
 refine T.seq ?_
 refine T.rL ?_
 refine mw rfl ?_
 refine sp rfl (OpT.lenAM (i := 2) (xs := y3_1_6) (f := (cI .i64)) rfl (dk rfl) ul40 rfl rfl ?_)
 refine sp rfl (OpT.int2 rfl rfl (dk rfl) rfl rfl ?_)
 refine TL'.nil (tN ?_)
 rcases bif_some h with ⟨c_282, h⟩ | ⟨c_282, h⟩
 refine T.condT rfl c_282 ?_
 refine T.seq ?_
 refine T.rL ?_
 refine mw rfl ?_
 refine TL'.turn (Turn.view 50 2 rfl rfl) ?_
 obtain ⟨v_283, e_284, h⟩ := bind_some h
 refine sp rfl (OpT.indexSlM (xs := y3_1_6) (f := (cI .i64)) (v := v_283) rfl (dk rfl) ul40 i3 rfl rfl e_284 ?_)
 refine sp rfl (OpT.loadRef rfl (dk rfl) ul3 rfl rfl rfl ?_)
 refine aw rfl ?_
 refine TL'.nil (tN ?_)
 refine T.ret (thenS_ret ?_)
 exact Fin.doneK (.cons _ _ _ _ (.tmp 2 _ rfl) .nil) (.cons 0 rfl (.cons 0 rfl (.nil _))) (by cases h; exact ⟨gl [w0_1], rfl, rfl⟩)
 refine T.condF rfl c_282 ?_
 refine T.skip (tN ?_)
 refine T.seq ?_
 refine T.rL ?_
 refine mw rfl ?_
 refine mw rfl ?_
 refine sp rfl (OpT.thenTurn (OpT.build (l := [.int .u8 (3 : Int), .int .u64 (Arr4.mk 0 0 0 0).a0, .int .u64 (Arr4.mk 0 0 0 0).a1, .int .u64 (Arr4.mk 0 0 0 0).a2, .int .u64 (Arr4.mk 0 0 0 0).a3, .ex w3_1, .int .i64 (0 : Int), .int .i64 (0 : Int), .str (⟨#[]⟩ : ByteArray)]) rfl (dk rfl) (built_struct (pl := [(0, 1), (1, 4), (5, 1), (6, 1), (7, 1), (8, 1)]) ul42 i42 rfl) (all1 rfl) rfl rfl rfl) (Turn.weakSlotP 55 (l := [.int .u8 (3 : Int), .int .u64 (Arr4.mk 0 0 0 0).a0, .int .u64 (Arr4.mk 0 0 0 0).a1, .int .u64 (Arr4.mk 0 0 0 0).a2, .int .u64 (Arr4.mk 0 0 0 0).a3, .ex w3_1, .int .i64 (0 : Int), .int .i64 (0 : Int), .str (⟨#[]⟩ : ByteArray)]) (l' := [.int .u8 (3 : Int), .int .u64 (Arr4.mk 0 0 0 0).a0, .int .u64 (Arr4.mk 0 0 0 0).a1, .int .u64 (Arr4.mk 0 0 0 0).a2, .int .u64 (Arr4.mk 0 0 0 0).a3, .sl false 1 (y3_1_6.map (cI .i64)), .int .i64 (0 : Int), .int .i64 (0 : Int), .str (⟨#[]⟩ : ByteArray)]) (.cons (.same _) (.cons (.same _) (.cons (.same _) (.cons (.same _) (.cons (.same _) (.cons (.view 2 rfl) (.cons (.same _) (.cons (.same _) (.cons (.same _) (.refl _))))))))))) ?_)
 obtain ⟨v_285, e_286, h⟩ := bind_some h
 refine sp rfl (OpT.callG (is := [0, 1]) (ph := []) rfl (dk rfl) Tryd.func65 rfl rfl (Args.cons rfl (Args.cons rfl Args.nil)) (r4r_put_T K (bx0 := bx0) (wx0c2 := w0_1) e_286) (.cons rfl rfl (.cons rfl rfl (.nil))) (fun _ => rfl) (fun γ_287 => ?_))
 refine nm (.c (.c (.c (.n)))) ?_
 refine aw rfl ?_
 refine TL'.nil (tN ?_)
 refine T.ret ?_
 exact Fin.doneK (.cons _ _ _ _ (.tmp 2 _ rfl) .nil) (.cons 0 rfl (.cons 0 rfl (.nil _))) (by cases h; exact ⟨gl [γ_287 0], rfl, rfl⟩)
theorem r4r_row_l0_T {r : Int × r4r} (K : Nat) (rec_r4r_alternative : r4r → Option (Int × r4r)) (hrec_r4r_alternative : r4r_alternative_S rec_r4r_alternative) (bx0 : Nat) : ∀ (k : Nat), ∀ (y0_0_0 : ByteArray) (y0_0_1 : Int) (y0_0_3 : Int) (y0_0_4 : Int) (y0_0_5 : Int) (y0_0_2 : List aNd) (y3_0_6 : List Int) (w0_0 : Value) (w3_0 : Value), r4r_row_l0 K rec_r4r_alternative k y0_0_0 y0_0_1 y0_0_3 y0_0_4 y0_0_5 y0_0_2 y3_0_6 = some r → TL Tryd.prog 57 (Code.at [1, 1, 0, 0, 0] (codeOf Tryd.f64)) ⟨[(0, .ptr bx0 0), (3, .c (.ex w3_0))], [(o88 bx0 y0_0_0 y0_0_1 w0_0 y0_0_3 y0_0_4 y0_0_5), .arrA w0_0 42 9 (y0_0_2.map c_aNd), .arrA w3_0 3 1 (y3_0_6.map (cI .i64))]⟩ (r4r_row_qb0x111 bx0 r) := by
  intro k
  induction k with
  | zero =>
    intro y0_0_0 y0_0_1 y0_0_3 y0_0_4 y0_0_5 y0_0_2 y3_0_6 w0_0 w3_0 h
    cases (show (none : Option (Int × r4r)) = some r from h)
  | succ k ih =>
    intro y0_0_0 y0_0_1 y0_0_3 y0_0_4 y0_0_5 y0_0_2 y3_0_6 w0_0 w3_0 h
    rw [r4r_row_l0] at h
    refine TL.round ?_
    refine T.seq ?_
    refine T.seq ?_
    refine DGG.start ?_
    refine DGG.step (c := fun γ_260 => ⟨some 4, .ptr bx0 0, [(0, .ptr bx0 0)], [], []⟩) [] (fun _ _ _ => rfl) (fun γ_260 t hm => One.step rfl (.free rfl) (OpT.move rfl (dl rfl rfl) hm.s0 ⟨(fun _ => undef, 0), rfl⟩)) (fun γ_260 => Ct.mo rfl rfl) ?_
    obtain ⟨v_266, e_267, h⟩ := bind_some h
    refine DGG.step (c := fun γ_260 => ⟨some 5, .bool v_266, [(4, .ptr bx0 0)], [(1, .arrA w0_0 42 9 (y0_0_2.map c_aNd)), (0, (o88 bx0 y0_0_0 y0_0_1 w0_0 y0_0_3 y0_0_4 y0_0_5))], [(0, (o88 bx0 y0_0_0 y0_0_1 ((γ_260 1).1 0) y0_0_3 y0_0_4 y0_0_5)), (1, .arrA ((γ_260 1).1 0) 42 9 ((y0_0_2).map c_aNd))]⟩) [1] (fun γ_260 γ' h => by simp only [h 1 (by decide)]) (fun γ_260 t hm => One.step rfl (.free rfl) (OpT.callG (is := [0, 1]) (ph := []) rfl (dl rfl rfl) Tryd.func49 rfl rfl (Args.cons hm.s0 Args.nil) (r4r_ends_T K (bx0 := bx0) (wx0c2 := w0_0) e_267) (.cons hm.o1 rfl (.cons hm.o0 rfl (.nil))) (fun _ => rfl) (fun g => ⟨(g, 0), rfl⟩))) (fun γ_260 => Ct.mo rfl rfl) ?_
    refine DGG.step (c := fun γ_260 => ⟨some 6, .bool (!v_266), [(5, .bool v_266)], [], []⟩) [] (fun _ _ _ => rfl) (fun γ_260 t hm => One.step rfl (.free rfl) (OpT.not rfl (dl rfl rfl) hm.s0 ⟨(fun _ => undef, 0), rfl⟩)) (fun γ_260 => Ct.mo rfl rfl) ?_
    refine DGG.step (c := fun γ_260 => ⟨some 7, .bool (!v_266), [(6, .bool (!v_266))], [], []⟩) [] (fun _ _ _ => rfl) (fun γ_260 t hm => One.step rfl (.free rfl) (OpT.move rfl (dl rfl rfl) hm.s0 ⟨(fun _ => undef, 0), rfl⟩)) (fun γ_260 => Ct.mo rfl rfl) ?_
    rcases bif_some h with ⟨c_268, h⟩ | ⟨c_268, h⟩
    · refine DGG.step (c := fun γ_260 => ⟨some 8, .ptr bx0 0, [(0, .ptr bx0 0), (7, .bool (!v_266))], [], []⟩) [] (fun _ _ _ => rfl) (fun γ_260 t hm => One.step rfl (.on rfl rfl hm.s1 c_268) (OpT.move rfl (dl rfl rfl) hm.s0 ⟨(fun _ => undef, 0), rfl⟩)) (fun γ_260 => Ct.mo rfl rfl) ?_
      refine DGG.step (c := fun γ_260 => ⟨some 9, .ptr bx0 0, [(8, .ptr bx0 0), (7, .bool (!v_266))], [], []⟩) [] (fun _ _ _ => rfl) (fun γ_260 t hm => One.step rfl (.on rfl rfl hm.s1 c_268) (OpT.nilCheck rfl (dl rfl rfl) hm.s0 rfl ⟨(fun _ => undef, 0), rfl⟩)) (fun γ_260 => Ct.mo rfl rfl) ?_
      refine DGG.step (c := fun γ_260 => ⟨some 10, .ptr bx0 (0 + 0), [(9, .ptr bx0 0), (7, .bool (!v_266))], [], []⟩) [] (fun _ _ _ => rfl) (fun γ_260 t hm => One.step rfl (.on rfl rfl hm.s1 c_268) (OpT.fieldPtr rfl (dl rfl rfl) Tryd.underlying88 rfl i9 (by decide) hm.s0 ⟨(fun _ => undef, 0), rfl⟩)) (fun γ_260 => Ct.mo rfl rfl) ?_
      refine DGG.step (c := fun γ_260 => ⟨some 11, .str y0_0_0, [(10, .ptr bx0 (0 + 0)), (7, .bool (!v_266))], [(0, (o88 bx0 y0_0_0 y0_0_1 ((γ_260 1).1 0) y0_0_3 y0_0_4 y0_0_5))], []⟩) [1] (fun γ_260 γ' h => by simp only [h 1 (by decide)]) (fun γ_260 t hm => One.step rfl (.on rfl rfl hm.s1 c_268) (OpT.loadBox (i := 0) rfl (dl rfl rfl) Tryd.underlying9 rfl hm.s0 hm.o0 rfl ⟨(fun _ => undef, 0), rfl⟩)) (fun γ_260 => Ct.mo rfl rfl) ?_
      refine DGG.step (c := fun γ_260 => ⟨some 12, .ptr bx0 0, [(0, .ptr bx0 0), (7, .bool (!v_266))], [], []⟩) [] (fun _ _ _ => rfl) (fun γ_260 t hm => One.step rfl (.on rfl rfl hm.s1 c_268) (OpT.move rfl (dl rfl rfl) hm.s0 ⟨(fun _ => undef, 0), rfl⟩)) (fun γ_260 => Ct.mo rfl rfl) ?_
      refine DGG.step (c := fun γ_260 => ⟨some 13, .ptr bx0 0, [(12, .ptr bx0 0), (7, .bool (!v_266))], [], []⟩) [] (fun _ _ _ => rfl) (fun γ_260 t hm => One.step rfl (.on rfl rfl hm.s1 c_268) (OpT.nilCheck rfl (dl rfl rfl) hm.s0 rfl ⟨(fun _ => undef, 0), rfl⟩)) (fun γ_260 => Ct.mo rfl rfl) ?_
      refine DGG.step (c := fun γ_260 => ⟨some 14, .ptr bx0 (0 + 1), [(13, .ptr bx0 0), (7, .bool (!v_266))], [], []⟩) [] (fun _ _ _ => rfl) (fun γ_260 t hm => One.step rfl (.on rfl rfl hm.s1 c_268) (OpT.fieldPtr rfl (dl rfl rfl) Tryd.underlying88 rfl i3 (by decide) hm.s0 ⟨(fun _ => undef, 0), rfl⟩)) (fun γ_260 => Ct.mo rfl rfl) ?_
      refine DGG.step (c := fun γ_260 => ⟨some 15, .int .i64 y0_0_1, [(14, .ptr bx0 (0 + 1)), (7, .bool (!v_266))], [(0, (o88 bx0 y0_0_0 y0_0_1 ((γ_260 1).1 0) y0_0_3 y0_0_4 y0_0_5))], []⟩) [1] (fun γ_260 γ' h => by simp only [h 1 (by decide)]) (fun γ_260 t hm => One.step rfl (.on rfl rfl hm.s1 c_268) (OpT.loadBox (i := 0) rfl (dl rfl rfl) Tryd.underlying3 rfl hm.s0 hm.o0 rfl ⟨(fun _ => undef, 0), rfl⟩)) (fun γ_260 => Ct.mo rfl rfl) ?_
      obtain ⟨g_269, h⟩ := ck_some h
      refine DGG.step (c := fun γ_260 => ⟨some 16, .int .u8 (bt y0_0_0 y0_0_1), [(11, .str y0_0_0), (15, .int .i64 y0_0_1), (7, .bool (!v_266))], [], []⟩) [] (fun _ _ _ => rfl) (fun γ_260 t hm => One.step rfl (.on rfl rfl hm.s2 c_268) (OpT.indexStr rfl (dl rfl rfl) Tryd.underlying9 hm.s0 hm.s1 g_269.1 g_269.2 ⟨(fun _ => undef, 0), rfl⟩)) (fun γ_260 => Ct.mo rfl rfl) ?_
      refine DGG.step (c := fun γ_260 => ⟨some 17, .bool ((bt y0_0_0 y0_0_1) != (124 : Int)), [(16, .int .u8 (bt y0_0_0 y0_0_1)), (7, .bool (!v_266))], [], []⟩) [] (fun _ _ _ => rfl) (fun γ_260 t hm => One.step rfl (.on rfl rfl hm.s1 c_268) (OpT.int2 rfl rfl (dl rfl rfl) hm.s0 rfl ⟨(fun _ => undef, 0), rfl⟩)) (fun γ_260 => Ct.mo rfl rfl) ?_
      refine DGG.step (c := fun γ_260 => ⟨some 18, .bool ((bt y0_0_0 y0_0_1) != (124 : Int)), [(7, .bool (!v_266)), (17, .bool ((bt y0_0_0 y0_0_1) != (124 : Int)))], [], []⟩) [] (fun _ _ _ => rfl) (fun γ_260 t hm => One.step rfl (.free rfl) (OpT.pickT rfl (dl rfl rfl) hm.s0 c_268 hm.s1 ⟨(fun _ => undef, 0), rfl⟩)) (fun γ_260 => Ct.mo rfl rfl) ?_
      refine DGG.step (c := fun γ_260 => ⟨some 19, .bool ((bt y0_0_0 y0_0_1) != (124 : Int)), [(18, .bool ((bt y0_0_0 y0_0_1) != (124 : Int)))], [], []⟩) [] (fun _ _ _ => rfl) (fun γ_260 t hm => One.step rfl (.free rfl) (OpT.move rfl (dl rfl rfl) hm.s0 ⟨(fun _ => undef, 0), rfl⟩)) (fun γ_260 => Ct.mo rfl rfl) ?_
      rcases bif_some h with ⟨c_270, h⟩ | ⟨c_270, h⟩
      · refine DGG.step (c := fun γ_260 => ⟨some 20, .ptr bx0 0, [(0, .ptr bx0 0), (19, .bool ((bt y0_0_0 y0_0_1) != (124 : Int)))], [], []⟩) [] (fun _ _ _ => rfl) (fun γ_260 t hm => One.step rfl (.on rfl rfl hm.s1 c_270) (OpT.move rfl (dl rfl rfl) hm.s0 ⟨(fun _ => undef, 0), rfl⟩)) (fun γ_260 => Ct.mo rfl rfl) ?_
        refine DGG.step (c := fun γ_260 => ⟨some 21, .ptr bx0 0, [(20, .ptr bx0 0), (19, .bool ((bt y0_0_0 y0_0_1) != (124 : Int)))], [], []⟩) [] (fun _ _ _ => rfl) (fun γ_260 t hm => One.step rfl (.on rfl rfl hm.s1 c_270) (OpT.nilCheck rfl (dl rfl rfl) hm.s0 rfl ⟨(fun _ => undef, 0), rfl⟩)) (fun γ_260 => Ct.mo rfl rfl) ?_
        refine DGG.step (c := fun γ_260 => ⟨some 22, .ptr bx0 (0 + 0), [(21, .ptr bx0 0), (19, .bool ((bt y0_0_0 y0_0_1) != (124 : Int)))], [], []⟩) [] (fun _ _ _ => rfl) (fun γ_260 t hm => One.step rfl (.on rfl rfl hm.s1 c_270) (OpT.fieldPtr rfl (dl rfl rfl) Tryd.underlying88 rfl i9 (by decide) hm.s0 ⟨(fun _ => undef, 0), rfl⟩)) (fun γ_260 => Ct.mo rfl rfl) ?_
        refine DGG.step (c := fun γ_260 => ⟨some 23, .str y0_0_0, [(22, .ptr bx0 (0 + 0)), (19, .bool ((bt y0_0_0 y0_0_1) != (124 : Int)))], [(0, (o88 bx0 y0_0_0 y0_0_1 ((γ_260 1).1 0) y0_0_3 y0_0_4 y0_0_5))], []⟩) [1] (fun γ_260 γ' h => by simp only [h 1 (by decide)]) (fun γ_260 t hm => One.step rfl (.on rfl rfl hm.s1 c_270) (OpT.loadBox (i := 0) rfl (dl rfl rfl) Tryd.underlying9 rfl hm.s0 hm.o0 rfl ⟨(fun _ => undef, 0), rfl⟩)) (fun γ_260 => Ct.mo rfl rfl) ?_
        refine DGG.step (c := fun γ_260 => ⟨some 24, .ptr bx0 0, [(0, .ptr bx0 0), (19, .bool ((bt y0_0_0 y0_0_1) != (124 : Int)))], [], []⟩) [] (fun _ _ _ => rfl) (fun γ_260 t hm => One.step rfl (.on rfl rfl hm.s1 c_270) (OpT.move rfl (dl rfl rfl) hm.s0 ⟨(fun _ => undef, 0), rfl⟩)) (fun γ_260 => Ct.mo rfl rfl) ?_
        refine DGG.step (c := fun γ_260 => ⟨some 25, .ptr bx0 0, [(24, .ptr bx0 0), (19, .bool ((bt y0_0_0 y0_0_1) != (124 : Int)))], [], []⟩) [] (fun _ _ _ => rfl) (fun γ_260 t hm => One.step rfl (.on rfl rfl hm.s1 c_270) (OpT.nilCheck rfl (dl rfl rfl) hm.s0 rfl ⟨(fun _ => undef, 0), rfl⟩)) (fun γ_260 => Ct.mo rfl rfl) ?_
        refine DGG.step (c := fun γ_260 => ⟨some 26, .ptr bx0 (0 + 1), [(25, .ptr bx0 0), (19, .bool ((bt y0_0_0 y0_0_1) != (124 : Int)))], [], []⟩) [] (fun _ _ _ => rfl) (fun γ_260 t hm => One.step rfl (.on rfl rfl hm.s1 c_270) (OpT.fieldPtr rfl (dl rfl rfl) Tryd.underlying88 rfl i3 (by decide) hm.s0 ⟨(fun _ => undef, 0), rfl⟩)) (fun γ_260 => Ct.mo rfl rfl) ?_
        refine DGG.step (c := fun γ_260 => ⟨some 27, .int .i64 y0_0_1, [(26, .ptr bx0 (0 + 1)), (19, .bool ((bt y0_0_0 y0_0_1) != (124 : Int)))], [(0, (o88 bx0 y0_0_0 y0_0_1 ((γ_260 1).1 0) y0_0_3 y0_0_4 y0_0_5))], []⟩) [1] (fun γ_260 γ' h => by simp only [h 1 (by decide)]) (fun γ_260 t hm => One.step rfl (.on rfl rfl hm.s1 c_270) (OpT.loadBox (i := 0) rfl (dl rfl rfl) Tryd.underlying3 rfl hm.s0 hm.o0 rfl ⟨(fun _ => undef, 0), rfl⟩)) (fun γ_260 => Ct.mo rfl rfl) ?_
        refine DGG.step (c := fun γ_260 => ⟨some 28, .int .u8 (bt y0_0_0 y0_0_1), [(23, .str y0_0_0), (27, .int .i64 y0_0_1), (19, .bool ((bt y0_0_0 y0_0_1) != (124 : Int)))], [], []⟩) [] (fun _ _ _ => rfl) (fun γ_260 t hm => One.step rfl (.on rfl rfl hm.s2 c_270) (OpT.indexStr rfl (dl rfl rfl) Tryd.underlying9 hm.s0 hm.s1 g_269.1 g_269.2 ⟨(fun _ => undef, 0), rfl⟩)) (fun γ_260 => Ct.mo rfl rfl) ?_
        refine DGG.step (c := fun γ_260 => ⟨some 29, .bool ((bt y0_0_0 y0_0_1) != (41 : Int)), [(28, .int .u8 (bt y0_0_0 y0_0_1)), (19, .bool ((bt y0_0_0 y0_0_1) != (124 : Int)))], [], []⟩) [] (fun _ _ _ => rfl) (fun γ_260 t hm => One.step rfl (.on rfl rfl hm.s1 c_270) (OpT.int2 rfl rfl (dl rfl rfl) hm.s0 rfl ⟨(fun _ => undef, 0), rfl⟩)) (fun γ_260 => Ct.mo rfl rfl) ?_
        refine DGG.step (c := fun γ_260 => ⟨some 30, .bool ((bt y0_0_0 y0_0_1) != (41 : Int)), [(19, .bool ((bt y0_0_0 y0_0_1) != (124 : Int))), (29, .bool ((bt y0_0_0 y0_0_1) != (41 : Int)))], [], []⟩) [] (fun _ _ _ => rfl) (fun γ_260 t hm => One.step rfl (.free rfl) (OpT.pickT rfl (dl rfl rfl) hm.s0 c_270 hm.s1 ⟨(fun _ => undef, 0), rfl⟩)) (fun γ_260 => Ct.mo rfl rfl) ?_
        refine DGG.fin (s1 := fun γ_260 => ⟨[(0, .ptr bx0 0), (3, .c (.ex w3_0)), (8, .ptr bx0 0), (9, .ptr bx0 0), (10, .ptr bx0 (0 + 0)), (11, .str y0_0_0), (12, .ptr bx0 0), (13, .ptr bx0 0), (14, .ptr bx0 (0 + 1)), (15, .int .i64 y0_0_1), (16, .int .u8 (bt y0_0_0 y0_0_1)), (17, .bool ((bt y0_0_0 y0_0_1) != (124 : Int))), (20, .ptr bx0 0), (21, .ptr bx0 0), (22, .ptr bx0 (0 + 0)), (23, .str y0_0_0), (24, .ptr bx0 0), (25, .ptr bx0 0), (26, .ptr bx0 (0 + 1)), (27, .int .i64 y0_0_1), (28, .int .u8 (bt y0_0_0 y0_0_1)), (29, .bool ((bt y0_0_0 y0_0_1) != (41 : Int))), (30, .bool ((bt y0_0_0 y0_0_1) != (41 : Int)))], [(o88 bx0 y0_0_0 y0_0_1 ((γ_260 1).1 0) y0_0_3 y0_0_4 y0_0_5), .arrA ((γ_260 1).1 0) 42 9 ((y0_0_2).map c_aNd), .arrA w3_0 3 1 (y3_0_6.map (cI .i64))]⟩) (ms := [0, 1, 3, 7, 15, 31, 63, 127, 15, 271, 783, 1807, 4095, 8191, 16383, 32767, 65535, 131071, 262143, 524287, 65535, 1114111, 3211263, 7405567, 16777215, 33554431, 67108863]) TrydMixed rfl (by kernel_rfl) (by kernel_rfl) (by kernel_rfl) (fun γ_260 => by kernel_rfl) (fun γ_260 => .cons rfl (.cons rfl (.cons rfl (.cons rfl (.cons rfl (.cons rfl (.cons rfl (.cons rfl (.cons rfl (.cons rfl (.cons rfl (.cons rfl (.cons rfl (.cons rfl (.cons rfl (.cons rfl (.cons rfl (.cons rfl (.cons rfl (.cons rfl (.cons rfl (.cons rfl (.cons rfl (.nil _)))))))))))))))))))))))) (fun _ => rfl) (fun γ_260 u hu => (tN (T.by_turn hu ?_)))
        rcases bif_some h with ⟨c_271, h⟩ | ⟨c_271, h⟩
        · refine T.condT rfl c_271 ?_
          refine T.skip (tN ?_)
          refine T.block ?_
          refine T.rL ?_
          refine mv rfl rfl rfl rfl rfl ?_
          refine mv rfl rfl rfl rfl rfl ?_
          obtain ⟨v_272, e_273, h⟩ := bind_some h
          refine sp rfl (OpT.callG (is := [0, 1]) (ph := []) rfl (dl rfl rfl) Tryd.func82 rfl rfl (Args.cons rfl Args.nil) (r4r_item_T K rec_r4r_alternative hrec_r4r_alternative (bx0 := bx0) (wx0c2 := ((γ_260 1).1 0)) e_273) (.cons rfl rfl (.cons rfl rfl (.nil))) (fun _ => rfl) (fun γ_274 => ?_))
          refine nm (.c (.c (.c (.n)))) ?_
          refine sp rfl (OpT.buildSlice (elems := ([v_272.1] : List Int).map (cI .i64)) rfl (dl rfl rfl) Tryd.underlying40 i3 (by decide) rfl (all1 rfl) rfl rfl rfl (lenAll rfl) (by decide) ?_)
          obtain ⟨g_276, h⟩ := ck_some h
          refine sp rfl (OpT.appendAM (i := 2) (xs := y3_0_6) (ys := [v_272.1]) (f := (cI .i64)) rfl (dl rfl rfl) Tryd.underlying40 i3 rfl rfl rfl rfl g_276 (fun w_275 => ?_))
          refine asg rfl rfl rfl rfl rfl ?_
          refine TL'.nil (inBlock_normal (tN ?_))
          refine TL.by_turn ?_ (ih v_272.2.s v_272.2.at_ v_272.2.deep v_272.2.e v_272.2.where_ v_272.2.nodes (y3_0_6 ++ [v_272.1]) (γ_274 0) w_275 h)
          exact Turn.rp (.cons rfl (.cons rfl (.nil _))) (.c .z (.c .z (.c .z (.n _))))
        · refine T.condF rfl c_271 ?_
          refine T.by_turn ?_ (r4r_row_j1_T K rec_r4r_alternative hrec_r4r_alternative bx0 y0_0_0 y0_0_1 y0_0_3 y0_0_4 y0_0_5 y0_0_2 y3_0_6 ((γ_260 1).1 0) w3_0 h)
          exact Turn.rp (.cons rfl (.cons rfl (.nil _))) (.c .z (.c .z (.c .z (.n _))))
      · refine DGG.off c_270 rfl rfl rfl rfl rfl (fun _ => rfl) ?_
        refine DGG.off c_270 rfl rfl rfl rfl rfl (fun _ => rfl) ?_
        refine DGG.off c_270 rfl rfl rfl rfl rfl (fun _ => rfl) ?_
        refine DGG.off c_270 rfl rfl rfl rfl rfl (fun _ => rfl) ?_
        refine DGG.off c_270 rfl rfl rfl rfl rfl (fun _ => rfl) ?_
        refine DGG.off c_270 rfl rfl rfl rfl rfl (fun _ => rfl) ?_
        refine DGG.off c_270 rfl rfl rfl rfl rfl (fun _ => rfl) ?_
        refine DGG.off c_270 rfl rfl rfl rfl rfl (fun _ => rfl) ?_
        refine DGG.off c_270 rfl rfl rfl rfl rfl (fun _ => rfl) ?_
        refine DGG.off c_270 rfl rfl rfl rfl rfl (fun _ => rfl) ?_
        refine DGG.step (c := fun γ_260 => ⟨some 30, .bool false, [(19, .bool ((bt y0_0_0 y0_0_1) != (124 : Int)))], [], []⟩) [] (fun _ _ _ => rfl) (fun γ_260 t hm => One.step rfl (.free rfl) (OpT.pickF rfl (dl rfl rfl) hm.s0 c_270 rfl ⟨(fun _ => undef, 0), rfl⟩)) (fun γ_260 => Ct.mo rfl rfl) ?_
        refine DGG.fin (s1 := fun γ_260 => ⟨[(0, .ptr bx0 0), (3, .c (.ex w3_0)), (8, .ptr bx0 0), (9, .ptr bx0 0), (10, .ptr bx0 (0 + 0)), (11, .str y0_0_0), (12, .ptr bx0 0), (13, .ptr bx0 0), (14, .ptr bx0 (0 + 1)), (15, .int .i64 y0_0_1), (16, .int .u8 (bt y0_0_0 y0_0_1)), (17, .bool ((bt y0_0_0 y0_0_1) != (124 : Int))), (20, .tup []), (21, .tup []), (22, .tup []), (23, .tup []), (24, .tup []), (25, .tup []), (26, .tup []), (27, .tup []), (28, .tup []), (29, .tup []), (30, .bool false)], [(o88 bx0 y0_0_0 y0_0_1 ((γ_260 1).1 0) y0_0_3 y0_0_4 y0_0_5), .arrA ((γ_260 1).1 0) 42 9 ((y0_0_2).map c_aNd), .arrA w3_0 3 1 (y3_0_6.map (cI .i64))]⟩) (ms := [0, 1, 3, 7, 15, 31, 63, 127, 15, 271, 783, 1807, 4095, 8191, 16383, 32767, 65535, 131071, 262143, 524287, 65535, 1114111, 3211263, 7405567, 16777215, 33554431, 67108863]) TrydMixed rfl (by kernel_rfl) (by kernel_rfl) (by kernel_rfl) (fun γ_260 => by kernel_rfl) (fun γ_260 => .cons rfl (.cons rfl (.cons rfl (.cons rfl (.cons rfl (.cons rfl (.cons rfl (.cons rfl (.cons rfl (.cons rfl (.cons rfl (.cons rfl (.cons rfl (.cons rfl (.cons rfl (.cons rfl (.cons rfl (.cons rfl (.cons rfl (.cons rfl (.cons rfl (.cons rfl (.cons rfl (.nil _)))))))))))))))))))))))) (fun _ => rfl) (fun γ_260 u hu => (tN (T.by_turn hu ?_)))
        refine T.condF rfl rfl ?_
        refine T.by_turn ?_ (r4r_row_j1_T K rec_r4r_alternative hrec_r4r_alternative bx0 y0_0_0 y0_0_1 y0_0_3 y0_0_4 y0_0_5 y0_0_2 y3_0_6 ((γ_260 1).1 0) w3_0 h)
        exact Turn.rp (.cons rfl (.cons rfl (.nil _))) (.c .z (.c .z (.c .z (.n _))))
    · refine DGG.off c_268 rfl rfl rfl rfl rfl (fun _ => rfl) ?_
      refine DGG.off c_268 rfl rfl rfl rfl rfl (fun _ => rfl) ?_
      refine DGG.off c_268 rfl rfl rfl rfl rfl (fun _ => rfl) ?_
      refine DGG.off c_268 rfl rfl rfl rfl rfl (fun _ => rfl) ?_
      refine DGG.off c_268 rfl rfl rfl rfl rfl (fun _ => rfl) ?_
      refine DGG.off c_268 rfl rfl rfl rfl rfl (fun _ => rfl) ?_
      refine DGG.off c_268 rfl rfl rfl rfl rfl (fun _ => rfl) ?_
      refine DGG.off c_268 rfl rfl rfl rfl rfl (fun _ => rfl) ?_
      refine DGG.off c_268 rfl rfl rfl rfl rfl (fun _ => rfl) ?_
      refine DGG.off c_268 rfl rfl rfl rfl rfl (fun _ => rfl) ?_
      refine DGG.step (c := fun γ_260 => ⟨some 18, .bool false, [(7, .bool (!v_266))], [], []⟩) [] (fun _ _ _ => rfl) (fun γ_260 t hm => One.step rfl (.free rfl) (OpT.pickF rfl (dl rfl rfl) hm.s0 c_268 rfl ⟨(fun _ => undef, 0), rfl⟩)) (fun γ_260 => Ct.mo rfl rfl) ?_
      refine DGG.step (c := fun γ_260 => ⟨some 19, .bool false, [(18, .bool false)], [], []⟩) [] (fun _ _ _ => rfl) (fun γ_260 t hm => One.step rfl (.free rfl) (OpT.move rfl (dl rfl rfl) hm.s0 ⟨(fun _ => undef, 0), rfl⟩)) (fun γ_260 => Ct.mo rfl rfl) ?_
      refine DGG.off rfl rfl rfl rfl rfl rfl (fun _ => rfl) ?_
      refine DGG.off rfl rfl rfl rfl rfl rfl (fun _ => rfl) ?_
      refine DGG.off rfl rfl rfl rfl rfl rfl (fun _ => rfl) ?_
      refine DGG.off rfl rfl rfl rfl rfl rfl (fun _ => rfl) ?_
      refine DGG.off rfl rfl rfl rfl rfl rfl (fun _ => rfl) ?_
      refine DGG.off rfl rfl rfl rfl rfl rfl (fun _ => rfl) ?_
      refine DGG.off rfl rfl rfl rfl rfl rfl (fun _ => rfl) ?_
      refine DGG.off rfl rfl rfl rfl rfl rfl (fun _ => rfl) ?_
      refine DGG.off rfl rfl rfl rfl rfl rfl (fun _ => rfl) ?_
      refine DGG.off rfl rfl rfl rfl rfl rfl (fun _ => rfl) ?_
      refine DGG.step (c := fun γ_260 => ⟨some 30, .bool false, [(19, .bool false)], [], []⟩) [] (fun _ _ _ => rfl) (fun γ_260 t hm => One.step rfl (.free rfl) (OpT.pickF rfl (dl rfl rfl) hm.s0 rfl rfl ⟨(fun _ => undef, 0), rfl⟩)) (fun γ_260 => Ct.mo rfl rfl) ?_
      refine DGG.fin (s1 := fun γ_260 => ⟨[(0, .ptr bx0 0), (3, .c (.ex w3_0)), (8, .tup []), (9, .tup []), (10, .tup []), (11, .tup []), (12, .tup []), (13, .tup []), (14, .tup []), (15, .tup []), (16, .tup []), (17, .tup []), (20, .tup []), (21, .tup []), (22, .tup []), (23, .tup []), (24, .tup []), (25, .tup []), (26, .tup []), (27, .tup []), (28, .tup []), (29, .tup []), (30, .bool false)], [(o88 bx0 y0_0_0 y0_0_1 ((γ_260 1).1 0) y0_0_3 y0_0_4 y0_0_5), .arrA ((γ_260 1).1 0) 42 9 ((y0_0_2).map c_aNd), .arrA w3_0 3 1 (y3_0_6.map (cI .i64))]⟩) (ms := [0, 1, 3, 7, 15, 31, 63, 127, 15, 271, 783, 1807, 4095, 8191, 16383, 32767, 65535, 131071, 262143, 524287, 65535, 1114111, 3211263, 7405567, 16777215, 33554431, 67108863]) TrydMixed rfl (by kernel_rfl) (by kernel_rfl) (by kernel_rfl) (fun γ_260 => by kernel_rfl) (fun γ_260 => .cons rfl (.cons rfl (.cons rfl (.cons rfl (.cons rfl (.cons rfl (.cons rfl (.cons rfl (.cons rfl (.cons rfl (.cons rfl (.cons rfl (.cons rfl (.cons rfl (.cons rfl (.cons rfl (.cons rfl (.cons rfl (.cons rfl (.cons rfl (.cons rfl (.cons rfl (.cons rfl (.nil _)))))))))))))))))))))))) (fun _ => rfl) (fun γ_260 u hu => (tN (T.by_turn hu ?_)))
      refine T.condF rfl rfl ?_
      refine T.by_turn ?_ (r4r_row_j1_T K rec_r4r_alternative hrec_r4r_alternative bx0 y0_0_0 y0_0_1 y0_0_3 y0_0_4 y0_0_5 y0_0_2 y3_0_6 ((γ_260 1).1 0) w3_0 h)
      exact Turn.rp (.cons rfl (.cons rfl (.nil _))) (.c .z (.c .z (.c .z (.n _))))
theorem r4r_row_T (K : Nat) (rec_r4r_alternative : r4r → Option (Int × r4r)) (hrec_r4r_alternative : r4r_alternative_S rec_r4r_alternative) {x0 : r4r} {bx0 : Nat} {wx0c2 : Value} {r : Int × r4r} (h : r4r_row K rec_r4r_alternative x0 = some r) : CallG Tryd.prog 64 [.ptr bx0 0] [(o88 bx0 x0.s x0.at_ wx0c2 x0.deep x0.e x0.where_), .arrA wx0c2 42 9 (x0.nodes.map c_aNd)] (fun γ => (.int .i64 r.1)) (fun γ => [(o88 bx0 r.2.s r.2.at_ (γ 0) r.2.deep r.2.e r.2.where_), .arrA (γ 0) 42 9 (r.2.nodes.map c_aNd)]) := by
 refine CallT.intro Tryd.func64 rfl (nb rfl) ?_
 show T Tryd.prog 57 (Code.at [] (codeOf Tryd.f64)) ⟨paramSlots 0 [.ptr bx0 0], [(o88 bx0 x0.s x0.at_ wx0c2 x0.deep x0.e x0.where_), .arrA wx0c2 42 9 (x0.nodes.map c_aNd)]⟩ (r4r_row_q bx0 r)
 unfold r4r_row at h
 refine T.seq ?_
 refine T.rL ?_
 refine aw rfl ?_
 refine TL'.nil (tN ?_)
 refine T.seq ?_
 refine T.rL ?_
 refine aw rfl ?_
 refine TL'.nil (tN ?_)
 refine T.seq ?_
 refine T.block ?_
 refine T.loop ?_
 refine TL.by_turn (Turn.nilA 3 1) ?_
 refine TL.by_turn ?_ (r4r_row_l0_T K rec_r4r_alternative hrec_r4r_alternative bx0 K x0.s x0.at_ x0.deep x0.e x0.where_ x0.nodes [] wx0c2 (nilv 2) h)
 exact Turn.rp (.cons rfl (.cons rfl (.nil _))) (.c (.s .z) (.c (.s .z) (.c .z (.n _))))
abbrev r4r_alternative_q (bx0 : Nat) (r : Int × r4r) : Exit → St → Prop := retS Tryd.prog Tryd.f48 (fun y t => ∃ γ : Nat → Value, y = (.int .i64 r.1) ∧ t = [(o88 bx0 r.2.s r.2.at_ (γ 0) r.2.deep r.2.e r.2.where_), .arrA (γ 0) 42 9 (r.2.nodes.map c_aNd)])
abbrev r4r_alternative_qs1111 (bx0 : Nat) (r : Int × r4r) : Exit → St → Prop := thenS (fun s' => T Tryd.prog 51 (Code.at [1, 1, 1, 1] (codeOf Tryd.f48)) s' ((r4r_alternative_q bx0 r))) ((r4r_alternative_q bx0 r))
abbrev r4r_alternative_qs111 (bx0 : Nat) (r : Int × r4r) : Exit → St → Prop := thenS (fun s' => T Tryd.prog 51 (Code.at [1, 1, 1] (codeOf Tryd.f48)) s' ((r4r_alternative_q bx0 r))) ((r4r_alternative_q bx0 r))
abbrev r4r_alternative_qb0x111 (bx0 : Nat) (r : Int × r4r) : Exit → St → Prop := inBlockS 0 ((r4r_alternative_qs111 bx0 r))
abbrev r4r_alternative_ql1100 (bx0 : Nat) (r : Int × r4r) : Exit → St → Prop := thenS (fun s' => TL Tryd.prog 51 (Code.at [1, 1, 0, 0, 0] (codeOf Tryd.f48)) s' ((r4r_alternative_qb0x111 bx0 r))) ((r4r_alternative_qb0x111 bx0 r))
abbrev r4r_alternative_qs110001 (bx0 : Nat) (r : Int × r4r) : Exit → St → Prop := thenS (fun s' => T Tryd.prog 51 (Code.at [1, 1, 0, 0, 0, 1] (codeOf Tryd.f48)) s' ((r4r_alternative_ql1100 bx0 r))) ((r4r_alternative_ql1100 bx0 r))
theorem r4r_alternative_j2_T {r : Int × r4r} (K : Nat) (rec_r4r_alternative : r4r → Option (Int × r4r)) (hrec_r4r_alternative : r4r_alternative_S rec_r4r_alternative) (bx0 : Nat) (y3_2_0 : List Int) (y0_1_0 : ByteArray) (y0_1_1 : Int) (y0_1_3 : Int) (y0_1_4 : Int) (y0_1_5 : Int) (y0_1_2 : List aNd) (w3_2 : Value) (w9000_2 : Value) (h : r4r_alternative_j2 K rec_r4r_alternative y3_2_0 y0_1_0 y0_1_1 y0_1_3 y0_1_4 y0_1_5 y0_1_2 = some r) : T Tryd.prog 51 (Code.at [1, 1, 1, 0, 1, 0] (codeOf Tryd.f48)) ⟨[(3, .c (.ex w3_2))], [.arrA w3_2 3 1 (y3_2_0.map (cI .i64)), (o88 bx0 y0_1_0 y0_1_1 w9000_2 y0_1_3 y0_1_4 y0_1_5), .arrA w9000_2 42 9 (y0_1_2.map c_aNd)]⟩ (r4r_alternative_qs1111 bx0 r) := by
 unfold r4r_alternative_j2 at h
 refine T.seq ?_
 refine T.rL ?_
 refine mw rfl ?_
 refine TL'.turn (Turn.view 44 0 rfl rfl) ?_
 obtain ⟨v_297, e_298, h⟩ := bind_some h
 refine sp rfl (OpT.indexSlM (xs := y3_2_0) (f := (cI .i64)) (v := v_297) rfl (dk rfl) ul40 i3 rfl rfl e_298 ?_)
 refine sp rfl (OpT.loadRef rfl (dk rfl) ul3 rfl rfl rfl ?_)
 refine aw rfl ?_
 refine TL'.nil (tN ?_)
 refine T.ret (thenS_ret ?_)
 exact Fin.doneK (.cons _ _ _ _ (.tmp 2 _ rfl) .nil) (.cons 1 rfl (.cons 1 rfl (.nil _))) (by cases h; exact ⟨gl [w9000_2], rfl, rfl⟩)
theorem r4r_alternative_j1_T {r : Int × r4r} (K : Nat) (rec_r4r_alternative : r4r → Option (Int × r4r)) (hrec_r4r_alternative : r4r_alternative_S rec_r4r_alternative) (bx0 : Nat) (y0_1_0 : ByteArray) (y0_1_1 : Int) (y0_1_3 : Int) (y0_1_4 : Int) (y0_1_5 : Int) (y0_1_2 : List aNd) (y3_1_6 : List Int) (w0_1 : Value) (w3_1 : Value) (h : r4r_alternative_j1 K rec_r4r_alternative y0_1_0 y0_1_1 y0_1_3 y0_1_4 y0_1_5 y0_1_2 y3_1_6 = some r) : T Tryd.prog 51 (Code.at [1, 1, 0, 0, 0, 0, 1, 1] (codeOf Tryd.f48)) ⟨[(0, .ptr bx0 0), (3, .c (.ex w3_1))], [(o88 bx0 y0_1_0 y0_1_1 w0_1 y0_1_3 y0_1_4 y0_1_5), .arrA w0_1 42 9 (y0_1_2.map c_aNd), .arrA w3_1 3 1 (y3_1_6.map (cI .i64))]⟩ (r4r_alternative_qs110001 bx0 r) := by
 unfold r4r_alternative_j1 at h
 refine T.exit (thenS_exit (thenS_exit (inBlock_exit (tN ?_))))
 refine T.seq ?_
 refine T.seq ?_
 refine T.rL ?_
 refine mw rfl ?_
 refine sp rfl (OpT.lenAM (i := 2) (xs := y3_1_6) (f := (cI .i64)) rfl (dk rfl) ul40 rfl rfl ?_)
 refine sp rfl (OpT.int2 rfl rfl (dk rfl) rfl rfl ?_)
 refine mw rfl ?_
 rcases bif_some h with ⟨c_296, h⟩ | ⟨c_296, h⟩
 refine TL'.passU (.off _ _ _ _ rfl rfl rfl c_296) (dk rfl) ?_
 refine TL'.passU (.off _ _ _ _ rfl rfl rfl c_296) (dk rfl) ?_
 refine TL'.passU (.off _ _ _ _ rfl rfl rfl c_296) (dk rfl) ?_
 refine TL'.passU (.off _ _ _ _ rfl rfl rfl c_296) (dk rfl) ?_
 refine TL'.passU (.off _ _ _ _ rfl rfl rfl c_296) (dk rfl) ?_
 refine sp rfl (OpT.pickT rfl (dk rfl) rfl c_296 rfl ?_)
 refine TL'.nil (tN ?_)
 refine T.condT rfl rfl ?_
 refine T.by_turn ?_ (r4r_alternative_j2_T K rec_r4r_alternative hrec_r4r_alternative bx0 y3_1_6 y0_1_0 y0_1_1 y0_1_3 y0_1_4 y0_1_5 y0_1_2 w3_1 w0_1 h)
 exact Turn.rp (.cons rfl (.nil _)) (.c (.s (.s .z)) (.c .z (.c .z (.n _))))
 refine TL'.step (.on rfl rfl rfl c_296) (OpT.move rfl (dk rfl) rfl ?_)
 refine TL'.step (.on rfl rfl rfl c_296) (OpT.nilCheck rfl (dk rfl) rfl rfl ?_)
 refine TL'.step (.on rfl rfl rfl c_296) (OpT.fieldPtr rfl (dk rfl) ul88 rfl i35 (by decide) rfl ?_)
 refine TL'.step (.on rfl rfl rfl c_296) (OpT.loadBox (i := 0) rfl (dk rfl) ul35 rfl rfl rfl rfl ?_)
 refine TL'.step (.on rfl rfl rfl c_296) (OpT.int2 rfl rfl (dk rfl) rfl rfl ?_)
 refine sp rfl (OpT.pickF rfl (dk rfl) rfl c_296 rfl ?_)
 refine TL'.nil (tN ?_)
 rcases bif_some h with ⟨c_299, h⟩ | ⟨c_299, h⟩
 refine T.condT rfl c_299 ?_
 refine T.by_turn ?_ (r4r_alternative_j2_T K rec_r4r_alternative hrec_r4r_alternative bx0 y3_1_6 y0_1_0 y0_1_1 y0_1_3 y0_1_4 y0_1_5 y0_1_2 w3_1 w0_1 h)
 exact Turn.rp (.cons rfl (.nil _)) (.c (.s (.s .z)) (.c .z (.c .z (.n _))))
 refine T.condF rfl c_299 ?_
 refine T.skip (tN ?_)
 refine T.seq ?_
 refine T.rL ?_
 refine mw rfl ?_
 refine mw rfl ?_
 refine sp rfl (OpT.thenTurn (OpT.build (l := [.int .u8 (4 : Int), .int .u64 (Arr4.mk 0 0 0 0).a0, .int .u64 (Arr4.mk 0 0 0 0).a1, .int .u64 (Arr4.mk 0 0 0 0).a2, .int .u64 (Arr4.mk 0 0 0 0).a3, .ex w3_1, .int .i64 (0 : Int), .int .i64 (0 : Int), .str (⟨#[]⟩ : ByteArray)]) rfl (dk rfl) (built_struct (pl := [(0, 1), (1, 4), (5, 1), (6, 1), (7, 1), (8, 1)]) ul42 i42 rfl) (all1 rfl) rfl rfl rfl) (Turn.weakSlotP 49 (l := [.int .u8 (4 : Int), .int .u64 (Arr4.mk 0 0 0 0).a0, .int .u64 (Arr4.mk 0 0 0 0).a1, .int .u64 (Arr4.mk 0 0 0 0).a2, .int .u64 (Arr4.mk 0 0 0 0).a3, .ex w3_1, .int .i64 (0 : Int), .int .i64 (0 : Int), .str (⟨#[]⟩ : ByteArray)]) (l' := [.int .u8 (4 : Int), .int .u64 (Arr4.mk 0 0 0 0).a0, .int .u64 (Arr4.mk 0 0 0 0).a1, .int .u64 (Arr4.mk 0 0 0 0).a2, .int .u64 (Arr4.mk 0 0 0 0).a3, .sl false 1 (y3_1_6.map (cI .i64)), .int .i64 (0 : Int), .int .i64 (0 : Int), .str (⟨#[]⟩ : ByteArray)]) (.cons (.same _) (.cons (.same _) (.cons (.same _) (.cons (.same _) (.cons (.same _) (.cons (.view 2 rfl) (.cons (.same _) (.cons (.same _) (.cons (.same _) (.refl _))))))))))) ?_)
 obtain ⟨v_300, e_301, h⟩ := bind_some h
 refine sp rfl (OpT.callG (is := [0, 1]) (ph := []) rfl (dk rfl) Tryd.func65 rfl rfl (Args.cons rfl (Args.cons rfl Args.nil)) (r4r_put_T K (bx0 := bx0) (wx0c2 := w0_1) e_301) (.cons rfl rfl (.cons rfl rfl (.nil))) (fun _ => rfl) (fun γ_302 => ?_))
 refine nm (.c (.c (.c (.n)))) ?_
 refine aw rfl ?_
 refine TL'.nil (tN ?_)
 refine T.ret ?_
 exact Fin.doneK (.cons _ _ _ _ (.tmp 2 _ rfl) .nil) (.cons 0 rfl (.cons 0 rfl (.nil _))) (by cases h; exact ⟨gl [γ_302 0], rfl, rfl⟩)
theorem r4r_alternative_l0_T {r : Int × r4r} (K : Nat) (rec_r4r_alternative : r4r → Option (Int × r4r)) (hrec_r4r_alternative : r4r_alternative_S rec_r4r_alternative) (bx0 : Nat) : ∀ (k : Nat), ∀ (y0_0_0 : ByteArray) (y0_0_1 : Int) (y0_0_3 : Int) (y0_0_4 : Int) (y0_0_5 : Int) (y0_0_2 : List aNd) (y3_0_6 : List Int) (w0_0 : Value) (w3_0 : Value), r4r_alternative_l0 K rec_r4r_alternative k y0_0_0 y0_0_1 y0_0_3 y0_0_4 y0_0_5 y0_0_2 y3_0_6 = some r → TL Tryd.prog 51 (Code.at [1, 1, 0, 0, 0] (codeOf Tryd.f48)) ⟨[(0, .ptr bx0 0), (3, .c (.ex w3_0))], [(o88 bx0 y0_0_0 y0_0_1 w0_0 y0_0_3 y0_0_4 y0_0_5), .arrA w0_0 42 9 (y0_0_2.map c_aNd), .arrA w3_0 3 1 (y3_0_6.map (cI .i64))]⟩ (r4r_alternative_qb0x111 bx0 r) := by
  intro k
  induction k with
  | zero =>
    intro y0_0_0 y0_0_1 y0_0_3 y0_0_4 y0_0_5 y0_0_2 y3_0_6 w0_0 w3_0 h
    cases (show (none : Option (Int × r4r)) = some r from h)
  | succ k ih =>
    intro y0_0_0 y0_0_1 y0_0_3 y0_0_4 y0_0_5 y0_0_2 y3_0_6 w0_0 w3_0 h
    rw [r4r_alternative_l0] at h
    refine TL.round ?_
    refine T.seq ?_
    refine T.seq ?_
    refine DGG.start ?_
    refine DGG.step (c := fun γ_281 => ⟨some 7, .ptr bx0 0, [(0, .ptr bx0 0)], [], []⟩) [] (fun _ _ _ => rfl) (fun γ_281 t hm => One.step rfl (.free rfl) (OpT.move rfl (dl rfl rfl) hm.s0 ⟨(fun _ => undef, 0), rfl⟩)) (fun γ_281 => Ct.mo rfl rfl) ?_
    obtain ⟨v_286, e_287, h⟩ := bind_some h
    refine DGG.step (c := fun γ_281 => ⟨some 8, .bool v_286, [(7, .ptr bx0 0)], [(1, .arrA w0_0 42 9 (y0_0_2.map c_aNd)), (0, (o88 bx0 y0_0_0 y0_0_1 w0_0 y0_0_3 y0_0_4 y0_0_5))], [(0, (o88 bx0 y0_0_0 y0_0_1 ((γ_281 1).1 0) y0_0_3 y0_0_4 y0_0_5)), (1, .arrA ((γ_281 1).1 0) 42 9 ((y0_0_2).map c_aNd))]⟩) [1] (fun γ_281 γ' h => by simp only [h 1 (by decide)]) (fun γ_281 t hm => One.step rfl (.free rfl) (OpT.callG (is := [0, 1]) (ph := []) rfl (dl rfl rfl) Tryd.func49 rfl rfl (Args.cons hm.s0 Args.nil) (r4r_ends_T K (bx0 := bx0) (wx0c2 := w0_0) e_287) (.cons hm.o1 rfl (.cons hm.o0 rfl (.nil))) (fun _ => rfl) (fun g => ⟨(g, 0), rfl⟩))) (fun γ_281 => Ct.mo rfl rfl) ?_
    refine DGG.step (c := fun γ_281 => ⟨some 9, .bool (!v_286), [(8, .bool v_286)], [], []⟩) [] (fun _ _ _ => rfl) (fun γ_281 t hm => One.step rfl (.free rfl) (OpT.not rfl (dl rfl rfl) hm.s0 ⟨(fun _ => undef, 0), rfl⟩)) (fun γ_281 => Ct.mo rfl rfl) ?_
    refine DGG.step (c := fun γ_281 => ⟨some 10, .bool (!v_286), [(9, .bool (!v_286))], [], []⟩) [] (fun _ _ _ => rfl) (fun γ_281 t hm => One.step rfl (.free rfl) (OpT.move rfl (dl rfl rfl) hm.s0 ⟨(fun _ => undef, 0), rfl⟩)) (fun γ_281 => Ct.mo rfl rfl) ?_
    rcases bif_some h with ⟨c_288, h⟩ | ⟨c_288, h⟩
    · refine DGG.step (c := fun γ_281 => ⟨some 11, .ptr bx0 0, [(0, .ptr bx0 0), (10, .bool (!v_286))], [], []⟩) [] (fun _ _ _ => rfl) (fun γ_281 t hm => One.step rfl (.on rfl rfl hm.s1 c_288) (OpT.move rfl (dl rfl rfl) hm.s0 ⟨(fun _ => undef, 0), rfl⟩)) (fun γ_281 => Ct.mo rfl rfl) ?_
      refine DGG.step (c := fun γ_281 => ⟨some 12, .ptr bx0 0, [(11, .ptr bx0 0), (10, .bool (!v_286))], [], []⟩) [] (fun _ _ _ => rfl) (fun γ_281 t hm => One.step rfl (.on rfl rfl hm.s1 c_288) (OpT.nilCheck rfl (dl rfl rfl) hm.s0 rfl ⟨(fun _ => undef, 0), rfl⟩)) (fun γ_281 => Ct.mo rfl rfl) ?_
      refine DGG.step (c := fun γ_281 => ⟨some 13, .ptr bx0 (0 + 0), [(12, .ptr bx0 0), (10, .bool (!v_286))], [], []⟩) [] (fun _ _ _ => rfl) (fun γ_281 t hm => One.step rfl (.on rfl rfl hm.s1 c_288) (OpT.fieldPtr rfl (dl rfl rfl) Tryd.underlying88 rfl i9 (by decide) hm.s0 ⟨(fun _ => undef, 0), rfl⟩)) (fun γ_281 => Ct.mo rfl rfl) ?_
      refine DGG.step (c := fun γ_281 => ⟨some 14, .str y0_0_0, [(13, .ptr bx0 (0 + 0)), (10, .bool (!v_286))], [(0, (o88 bx0 y0_0_0 y0_0_1 ((γ_281 1).1 0) y0_0_3 y0_0_4 y0_0_5))], []⟩) [1] (fun γ_281 γ' h => by simp only [h 1 (by decide)]) (fun γ_281 t hm => One.step rfl (.on rfl rfl hm.s1 c_288) (OpT.loadBox (i := 0) rfl (dl rfl rfl) Tryd.underlying9 rfl hm.s0 hm.o0 rfl ⟨(fun _ => undef, 0), rfl⟩)) (fun γ_281 => Ct.mo rfl rfl) ?_
      refine DGG.step (c := fun γ_281 => ⟨some 15, .ptr bx0 0, [(0, .ptr bx0 0), (10, .bool (!v_286))], [], []⟩) [] (fun _ _ _ => rfl) (fun γ_281 t hm => One.step rfl (.on rfl rfl hm.s1 c_288) (OpT.move rfl (dl rfl rfl) hm.s0 ⟨(fun _ => undef, 0), rfl⟩)) (fun γ_281 => Ct.mo rfl rfl) ?_
      refine DGG.step (c := fun γ_281 => ⟨some 16, .ptr bx0 0, [(15, .ptr bx0 0), (10, .bool (!v_286))], [], []⟩) [] (fun _ _ _ => rfl) (fun γ_281 t hm => One.step rfl (.on rfl rfl hm.s1 c_288) (OpT.nilCheck rfl (dl rfl rfl) hm.s0 rfl ⟨(fun _ => undef, 0), rfl⟩)) (fun γ_281 => Ct.mo rfl rfl) ?_
      refine DGG.step (c := fun γ_281 => ⟨some 17, .ptr bx0 (0 + 1), [(16, .ptr bx0 0), (10, .bool (!v_286))], [], []⟩) [] (fun _ _ _ => rfl) (fun γ_281 t hm => One.step rfl (.on rfl rfl hm.s1 c_288) (OpT.fieldPtr rfl (dl rfl rfl) Tryd.underlying88 rfl i3 (by decide) hm.s0 ⟨(fun _ => undef, 0), rfl⟩)) (fun γ_281 => Ct.mo rfl rfl) ?_
      refine DGG.step (c := fun γ_281 => ⟨some 18, .int .i64 y0_0_1, [(17, .ptr bx0 (0 + 1)), (10, .bool (!v_286))], [(0, (o88 bx0 y0_0_0 y0_0_1 ((γ_281 1).1 0) y0_0_3 y0_0_4 y0_0_5))], []⟩) [1] (fun γ_281 γ' h => by simp only [h 1 (by decide)]) (fun γ_281 t hm => One.step rfl (.on rfl rfl hm.s1 c_288) (OpT.loadBox (i := 0) rfl (dl rfl rfl) Tryd.underlying3 rfl hm.s0 hm.o0 rfl ⟨(fun _ => undef, 0), rfl⟩)) (fun γ_281 => Ct.mo rfl rfl) ?_
      obtain ⟨g_289, h⟩ := ck_some h
      refine DGG.step (c := fun γ_281 => ⟨some 19, .int .u8 (bt y0_0_0 y0_0_1), [(14, .str y0_0_0), (18, .int .i64 y0_0_1), (10, .bool (!v_286))], [], []⟩) [] (fun _ _ _ => rfl) (fun γ_281 t hm => One.step rfl (.on rfl rfl hm.s2 c_288) (OpT.indexStr rfl (dl rfl rfl) Tryd.underlying9 hm.s0 hm.s1 g_289.1 g_289.2 ⟨(fun _ => undef, 0), rfl⟩)) (fun γ_281 => Ct.mo rfl rfl) ?_
      refine DGG.step (c := fun γ_281 => ⟨some 20, .bool ((bt y0_0_0 y0_0_1) == (124 : Int)), [(19, .int .u8 (bt y0_0_0 y0_0_1)), (10, .bool (!v_286))], [], []⟩) [] (fun _ _ _ => rfl) (fun γ_281 t hm => One.step rfl (.on rfl rfl hm.s1 c_288) (OpT.int2 rfl rfl (dl rfl rfl) hm.s0 rfl ⟨(fun _ => undef, 0), rfl⟩)) (fun γ_281 => Ct.mo rfl rfl) ?_
      refine DGG.step (c := fun γ_281 => ⟨some 21, .bool ((bt y0_0_0 y0_0_1) == (124 : Int)), [(10, .bool (!v_286)), (20, .bool ((bt y0_0_0 y0_0_1) == (124 : Int)))], [], []⟩) [] (fun _ _ _ => rfl) (fun γ_281 t hm => One.step rfl (.free rfl) (OpT.pickT rfl (dl rfl rfl) hm.s0 c_288 hm.s1 ⟨(fun _ => undef, 0), rfl⟩)) (fun γ_281 => Ct.mo rfl rfl) ?_
      refine DGG.fin (s1 := fun γ_281 => ⟨[(0, .ptr bx0 0), (3, .c (.ex w3_0)), (11, .ptr bx0 0), (12, .ptr bx0 0), (13, .ptr bx0 (0 + 0)), (14, .str y0_0_0), (15, .ptr bx0 0), (16, .ptr bx0 0), (17, .ptr bx0 (0 + 1)), (18, .int .i64 y0_0_1), (19, .int .u8 (bt y0_0_0 y0_0_1)), (20, .bool ((bt y0_0_0 y0_0_1) == (124 : Int))), (21, .bool ((bt y0_0_0 y0_0_1) == (124 : Int)))], [(o88 bx0 y0_0_0 y0_0_1 ((γ_281 1).1 0) y0_0_3 y0_0_4 y0_0_5), .arrA ((γ_281 1).1 0) 42 9 ((y0_0_2).map c_aNd), .arrA w3_0 3 1 (y3_0_6.map (cI .i64))]⟩) (ms := [0, 1, 3, 7, 15, 31, 63, 127, 15, 271, 783, 1807, 4095, 8191, 16383]) TrydMixed rfl (by kernel_rfl) (by kernel_rfl) (by kernel_rfl) (fun γ_281 => by kernel_rfl) (fun γ_281 => .cons rfl (.cons rfl (.cons rfl (.cons rfl (.cons rfl (.cons rfl (.cons rfl (.cons rfl (.cons rfl (.cons rfl (.cons rfl (.cons rfl (.cons rfl (.nil _)))))))))))))) (fun _ => rfl) (fun γ_281 u hu => (tN (T.by_turn hu ?_)))
      rcases bif_some h with ⟨c_290, h⟩ | ⟨c_290, h⟩
      · refine T.condT rfl c_290 ?_
        refine T.skip (tN ?_)
        refine T.block ?_
        refine T.seq ?_
        refine T.rL ?_
        refine mv rfl rfl rfl rfl rfl ?_
        refine sp rfl (OpT.nilCheck rfl (dl rfl rfl) rfl rfl ?_)
        refine sp rfl (OpT.fieldPtr rfl (dl rfl rfl) Tryd.underlying88 rfl i3 (by decide) rfl ?_)
        refine sp rfl (OpT.loadBox (i := 0) rfl (dl rfl rfl) Tryd.underlying3 rfl rfl rfl rfl ?_)
        refine sp rfl (OpT.int2 rfl rfl (dl rfl rfl) rfl rfl ?_)
        refine sp rfl (OpT.nilCheck rfl (dl rfl rfl) rfl rfl ?_)
        refine sp rfl (OpT.fieldPtr rfl (dl rfl rfl) Tryd.underlying88 rfl i3 (by decide) rfl ?_)
        refine sp rfl (OpT.storeTo (i := 0) (cells' := [.d (.str y0_0_0), .d (.int .i64 (IntKind.i64.wrap (y0_0_1 + (1 : Int)))), .d (.ex ((γ_281 1).1 0)), .d (.int .i64 y0_0_3), .d (.int .i64 y0_0_4), .d (.int .i64 y0_0_5)]) rfl rfl i3 rfl rfl rfl (Nat.le_of_ble_eq_true rfl) rfl ?_)
        refine TL'.nil (tN ?_)
        refine T.rL ?_
        refine mv rfl rfl rfl rfl rfl ?_
        refine mv rfl rfl rfl rfl rfl ?_
        obtain ⟨v_291, e_292, h⟩ := bind_some h
        refine sp rfl (OpT.callG (is := [0, 1]) (ph := []) rfl (dl rfl rfl) Tryd.func64 rfl rfl (Args.cons rfl Args.nil) (r4r_row_T K rec_r4r_alternative hrec_r4r_alternative (bx0 := bx0) (wx0c2 := ((γ_281 1).1 0)) e_292) (.cons rfl rfl (.cons rfl rfl (.nil))) (fun _ => rfl) (fun γ_293 => ?_))
        refine nm (.c (.c (.c (.n)))) ?_
        refine sp rfl (OpT.buildSlice (elems := ([v_291.1] : List Int).map (cI .i64)) rfl (dl rfl rfl) Tryd.underlying40 i3 (by decide) rfl (all1 rfl) rfl rfl rfl (lenAll rfl) (by decide) ?_)
        obtain ⟨g_295, h⟩ := ck_some h
        refine sp rfl (OpT.appendAM (i := 2) (xs := y3_0_6) (ys := [v_291.1]) (f := (cI .i64)) rfl (dl rfl rfl) Tryd.underlying40 i3 rfl rfl rfl rfl g_295 (fun w_294 => ?_))
        refine asg rfl rfl rfl rfl rfl ?_
        refine TL'.nil (inBlock_normal (tN ?_))
        refine TL.by_turn ?_ (ih v_291.2.s v_291.2.at_ v_291.2.deep v_291.2.e v_291.2.where_ v_291.2.nodes (y3_0_6 ++ [v_291.1]) (γ_293 0) w_294 h)
        exact Turn.rp (.cons rfl (.cons rfl (.nil _))) (.c .z (.c .z (.c .z (.n _))))
      · refine T.condF rfl c_290 ?_
        refine T.by_turn ?_ (r4r_alternative_j1_T K rec_r4r_alternative hrec_r4r_alternative bx0 y0_0_0 y0_0_1 y0_0_3 y0_0_4 y0_0_5 y0_0_2 y3_0_6 ((γ_281 1).1 0) w3_0 h)
        exact Turn.rp (.cons rfl (.cons rfl (.nil _))) (.c .z (.c .z (.c .z (.n _))))
    · refine DGG.off c_288 rfl rfl rfl rfl rfl (fun _ => rfl) ?_
      refine DGG.off c_288 rfl rfl rfl rfl rfl (fun _ => rfl) ?_
      refine DGG.off c_288 rfl rfl rfl rfl rfl (fun _ => rfl) ?_
      refine DGG.off c_288 rfl rfl rfl rfl rfl (fun _ => rfl) ?_
      refine DGG.off c_288 rfl rfl rfl rfl rfl (fun _ => rfl) ?_
      refine DGG.off c_288 rfl rfl rfl rfl rfl (fun _ => rfl) ?_
      refine DGG.off c_288 rfl rfl rfl rfl rfl (fun _ => rfl) ?_
      refine DGG.off c_288 rfl rfl rfl rfl rfl (fun _ => rfl) ?_
      refine DGG.off c_288 rfl rfl rfl rfl rfl (fun _ => rfl) ?_
      refine DGG.off c_288 rfl rfl rfl rfl rfl (fun _ => rfl) ?_
      refine DGG.step (c := fun γ_281 => ⟨some 21, .bool false, [(10, .bool (!v_286))], [], []⟩) [] (fun _ _ _ => rfl) (fun γ_281 t hm => One.step rfl (.free rfl) (OpT.pickF rfl (dl rfl rfl) hm.s0 c_288 rfl ⟨(fun _ => undef, 0), rfl⟩)) (fun γ_281 => Ct.mo rfl rfl) ?_
      refine DGG.fin (s1 := fun γ_281 => ⟨[(0, .ptr bx0 0), (3, .c (.ex w3_0)), (11, .tup []), (12, .tup []), (13, .tup []), (14, .tup []), (15, .tup []), (16, .tup []), (17, .tup []), (18, .tup []), (19, .tup []), (20, .tup []), (21, .bool false)], [(o88 bx0 y0_0_0 y0_0_1 ((γ_281 1).1 0) y0_0_3 y0_0_4 y0_0_5), .arrA ((γ_281 1).1 0) 42 9 ((y0_0_2).map c_aNd), .arrA w3_0 3 1 (y3_0_6.map (cI .i64))]⟩) (ms := [0, 1, 3, 7, 15, 31, 63, 127, 15, 271, 783, 1807, 4095, 8191, 16383]) TrydMixed rfl (by kernel_rfl) (by kernel_rfl) (by kernel_rfl) (fun γ_281 => by kernel_rfl) (fun γ_281 => .cons rfl (.cons rfl (.cons rfl (.cons rfl (.cons rfl (.cons rfl (.cons rfl (.cons rfl (.cons rfl (.cons rfl (.cons rfl (.cons rfl (.cons rfl (.nil _)))))))))))))) (fun _ => rfl) (fun γ_281 u hu => (tN (T.by_turn hu ?_)))
      refine T.condF rfl rfl ?_
      refine T.by_turn ?_ (r4r_alternative_j1_T K rec_r4r_alternative hrec_r4r_alternative bx0 y0_0_0 y0_0_1 y0_0_3 y0_0_4 y0_0_5 y0_0_2 y3_0_6 ((γ_281 1).1 0) w3_0 h)
      exact Turn.rp (.cons rfl (.cons rfl (.nil _))) (.c .z (.c .z (.c .z (.n _))))
theorem r4r_alternative_b_T (K : Nat) (rec_r4r_alternative : r4r → Option (Int × r4r)) (hrec_r4r_alternative : r4r_alternative_S rec_r4r_alternative) {x0 : r4r} {bx0 : Nat} {wx0c2 : Value} {r : Int × r4r} (h : r4r_alternative_b K rec_r4r_alternative x0 = some r) : CallG Tryd.prog 48 [.ptr bx0 0] [(o88 bx0 x0.s x0.at_ wx0c2 x0.deep x0.e x0.where_), .arrA wx0c2 42 9 (x0.nodes.map c_aNd)] (fun γ => (.int .i64 r.1)) (fun γ => [(o88 bx0 r.2.s r.2.at_ (γ 0) r.2.deep r.2.e r.2.where_), .arrA (γ 0) 42 9 (r.2.nodes.map c_aNd)]) := by
 refine CallT.intro Tryd.func48 rfl (nb rfl) ?_
 show T Tryd.prog 51 (Code.at [] (codeOf Tryd.f48)) ⟨paramSlots 0 [.ptr bx0 0], [(o88 bx0 x0.s x0.at_ wx0c2 x0.deep x0.e x0.where_), .arrA wx0c2 42 9 (x0.nodes.map c_aNd)]⟩ (r4r_alternative_q bx0 r)
 unfold r4r_alternative_b at h
 refine T.seq ?_
 refine T.rL ?_
 refine aw rfl ?_
 refine TL'.nil (tN ?_)
 refine T.seq ?_
 refine T.rL ?_
 refine mw rfl ?_
 obtain ⟨v_277, e_278, h⟩ := bind_some h
 refine sp rfl (OpT.callG (is := [0, 1]) (ph := []) rfl (dk rfl) Tryd.func64 rfl rfl (Args.cons rfl Args.nil) (r4r_row_T K rec_r4r_alternative hrec_r4r_alternative (bx0 := bx0) (wx0c2 := wx0c2) e_278) (.cons rfl rfl (.cons rfl rfl (.nil))) (fun _ => rfl) (fun γ_279 => ?_))
 refine nm (.c (.c (.n))) ?_
 refine sp rfl (OpT.buildSlice (elems := ([v_277.1] : List Int).map (cI .i64)) rfl (dk rfl) ul40 i3 (by decide) rfl (all1 rfl) rfl rfl rfl (lenAll rfl) (by decide) ?_)
 refine aw rfl ?_
 refine TL'.nil (tN ?_)
 refine T.seq ?_
 refine T.block ?_
 refine T.loop ?_
 refine TL.by_turnG (TurnG.ownFull 3 3 rfl) (fun w_280 => ?_)
 refine TL.by_turn ?_ (r4r_alternative_l0_T K rec_r4r_alternative hrec_r4r_alternative bx0 K v_277.2.s v_277.2.at_ v_277.2.deep v_277.2.e v_277.2.where_ v_277.2.nodes [v_277.1] (γ_279 0) w_280 h)
 exact Turn.rp (.cons rfl (.cons rfl (.nil _))) (.c (.s .z) (.c (.s .z) (.c .z (.n _))))
theorem r4r_alternative_r_T (K : Nat) : ∀ n, r4r_alternative_S (r4r_alternative_r K n) := by
  intro n
  induction n with
  | zero =>
    intro x0 bx0 wx0c2 r h
    cases (show (none : Option (Int × r4r)) = some r from h)
  | succ n ih =>
    intro x0 bx0 wx0c2 r h
    exact r4r_alternative_b_T K (r4r_alternative_r K n) ih h
theorem r4r_alternative_T (K : Nat) {x0 : r4r} {bx0 : Nat} {wx0c2 : Value} {r : Int × r4r} (h : r4r_alternative K x0 = some r) : CallG Tryd.prog 48 [.ptr bx0 0] [(o88 bx0 x0.s x0.at_ wx0c2 x0.deep x0.e x0.where_), .arrA wx0c2 42 9 (x0.nodes.map c_aNd)] (fun γ => (.int .i64 r.1)) (fun γ => [(o88 bx0 r.2.s r.2.at_ (γ 0) r.2.deep r.2.e r.2.where_), .arrA (γ 0) 42 9 (r.2.nodes.map c_aNd)]) := r4r_alternative_r_T K K x0 bx0 wx0c2 r h
abbrev r4_Parse_q (r : (List aNd) × Int × Int) : Exit → St → Prop := retS Tryd.prog Tryd.f25 (fun y t => y = (.tup [.sl false 9 (r.1.map c_aNd), .int .i64 r.2.1, .int .i64 r.2.2]) ∧ t = [])
theorem r4_Parse_j0_T {r : (List aNd) × Int × Int} (K : Nat) (y5_0_0 : ByteArray) (y5_0_1 : Int) (y5_0_3 : Int) (y5_0_4 : Int) (y5_0_5 : Int) (y5_0_2 : List aNd) (b5_0 : Nat) (w5_0 : Value) (h : r4_Parse_j0 K y5_0_0 y5_0_1 y5_0_3 y5_0_4 y5_0_5 y5_0_2 = some r) : T Tryd.prog 46 (Code.at [1, 1, 1, 1, 1] (codeOf Tryd.f25)) ⟨[(5, .ptr b5_0 0)], [(o88 b5_0 y5_0_0 y5_0_1 w5_0 y5_0_3 y5_0_4 y5_0_5), .arrA w5_0 42 9 (y5_0_2.map c_aNd)]⟩ (r4_Parse_q r) := by
 unfold r4_Parse_j0 at h
 refine T.seq ?_
 refine T.seq ?_
 refine T.rL ?_
 refine mw rfl ?_
 refine sp rfl (OpT.nilCheck rfl (dk rfl) rfl rfl ?_)
 refine sp rfl (OpT.fieldPtr rfl (dk rfl) ul88 rfl i35 (by decide) rfl ?_)
 refine sp rfl (OpT.loadBox (i := 0) rfl (dk rfl) ul35 rfl rfl rfl rfl ?_)
 refine sp rfl (OpT.int2 rfl rfl (dk rfl) rfl rfl ?_)
 refine TL'.nil (tN ?_)
 rcases bif_some h with ⟨c_148, h⟩ | ⟨c_148, h⟩
 refine T.condT rfl c_148 ?_
 refine T.seq ?_
 refine DG.start ?_
 refine DG.mv rfl rfl rfl rfl rfl rfl ?_
 refine DG.step (c := ⟨some 29, .ptr b5_0 0, [(28, .ptr b5_0 0)], [], []⟩) (fun t hm => One.step rfl (.free rfl) (OpT.nilCheck rfl (dk rfl) hm.s0 rfl rfl)) (Ct.mo rfl rfl) ?_
 refine DG.step (c := ⟨some 30, .ptr b5_0 (0 + 5), [(29, .ptr b5_0 0)], [], []⟩) (fun t hm => One.step rfl (.free rfl) (OpT.fieldPtr rfl (dk rfl) ul88 rfl i3 (by decide) hm.s0 rfl)) (Ct.mo rfl rfl) ?_
 refine DG.step (c := ⟨some 31, .int .i64 y5_0_5, [(30, .ptr b5_0 (0 + 5))], [(0, (o88 b5_0 y5_0_0 y5_0_1 w5_0 y5_0_3 y5_0_4 y5_0_5))], []⟩) (fun t hm => One.step rfl (.free rfl) (OpT.loadBox (i := 0) rfl (dk rfl) ul3 rfl hm.s0 hm.o0 rfl rfl)) (Ct.mo rfl rfl) ?_
 refine DG.mv rfl rfl rfl rfl rfl rfl ?_
 refine DG.step (c := ⟨some 33, .ptr b5_0 0, [(32, .ptr b5_0 0)], [], []⟩) (fun t hm => One.step rfl (.free rfl) (OpT.nilCheck rfl (dk rfl) hm.s0 rfl rfl)) (Ct.mo rfl rfl) ?_
 refine DG.step (c := ⟨some 34, .ptr b5_0 (0 + 4), [(33, .ptr b5_0 0)], [], []⟩) (fun t hm => One.step rfl (.free rfl) (OpT.fieldPtr rfl (dk rfl) ul88 rfl i35 (by decide) hm.s0 rfl)) (Ct.mo rfl rfl) ?_
 refine DG.step (c := ⟨some 35, .int .i64 y5_0_4, [(34, .ptr b5_0 (0 + 4))], [(0, (o88 b5_0 y5_0_0 y5_0_1 w5_0 y5_0_3 y5_0_4 y5_0_5))], []⟩) (fun t hm => One.step rfl (.free rfl) (OpT.loadBox (i := 0) rfl (dk rfl) ul35 rfl hm.s0 hm.o0 rfl rfl)) (Ct.mo rfl rfl) ?_
 refine DG.step (c := ⟨some 2, .c (.ex (.slice none 0 0)), [], [], []⟩) (fun t hm => One.step rfl (.free rfl) (OpT.assign rfl (dk rfl) rfl rfl)) (Ct.mo rfl rfl) ?_
 refine DG.step (c := ⟨some 3, .int .i64 y5_0_5, [(31, .int .i64 y5_0_5)], [], []⟩) (fun t hm => One.step rfl (.free rfl) (OpT.assign rfl (dk rfl) hm.s0 rfl)) (Ct.mo rfl rfl) ?_
 refine DG.step (c := ⟨some 4, .int .i64 y5_0_4, [(35, .int .i64 y5_0_4)], [], []⟩) (fun t hm => One.step rfl (.free rfl) (OpT.assign rfl (dk rfl) hm.s0 rfl)) (Ct.mo rfl rfl) ?_
 refine DG.fin (s1 := ⟨[(2, .c (.ex (.slice none 0 0))), (3, .int .i64 y5_0_5), (4, .int .i64 y5_0_4)], [(o88 b5_0 y5_0_0 y5_0_1 w5_0 y5_0_3 y5_0_4 y5_0_5), .arrA w5_0 42 9 (y5_0_2.map c_aNd)]⟩) (ms := [0, 1, 3, 7, 0, 16, 48, 112, 0, 271, 1023]) TrydMixed rfl (by kernel_rfl) (by kernel_rfl) (by kernel_rfl) (.cons rfl (.cons rfl (.cons rfl (.nil _)))) rfl (fun u hu => (tN (T.by_turn hu ?_)))
 refine T.ret (thenS_ret ?_)
 refine Fin.turn (Turn.nilSl 2 false 9 rfl) ?_
 exact Fin.done (.cons _ _ _ _ (.tmp 2 _ rfl) (.cons _ _ _ _ (.tmp 3 _ rfl) (.cons _ _ _ _ (.tmp 4 _ rfl) .nil))) (by cases h; exact ⟨rfl, rfl⟩)
 refine T.condF rfl c_148 ?_
 refine T.skip (tN ?_)
 refine T.seq ?_
 refine T.seq ?_
 refine T.rL ?_
 refine mw rfl ?_
 refine sp rfl (OpT.nilCheck rfl (dk rfl) rfl rfl ?_)
 refine sp rfl (OpT.fieldPtr rfl (dk rfl) ul88 rfl i22 (by decide) rfl ?_)
 refine sp rfl (OpT.thenTurn (OpT.loadBox (i := 0) rfl (dk rfl) ul22 rfl rfl rfl rfl rfl) (Turn.viewP 39 1 rfl) ?_)
 refine sp rfl (OpT.lenSlM (xs := y5_0_2) (f := c_aNd) rfl (dk rfl) ul22 rfl ?_)
 refine sp rfl (OpT.int2 rfl rfl (dk rfl) rfl rfl ?_)
 refine TL'.nil (tN ?_)
 rcases bif_some h with ⟨c_150, h⟩ | ⟨c_150, h⟩
 refine T.condT rfl c_150 ?_
 refine T.seq ?_
 refine T.rL ?_
 refine aw rfl ?_
 refine aw rfl ?_
 refine aw rfl ?_
 refine TL'.nil (tN ?_)
 refine T.ret (thenS_ret ?_)
 refine Fin.turn (Turn.nilSl 2 false 9 rfl) ?_
 exact Fin.done (.cons _ _ _ _ (.tmp 2 _ rfl) (.cons _ _ _ _ (.tmp 3 _ rfl) (.cons _ _ _ _ (.tmp 4 _ rfl) .nil))) (by cases h; exact ⟨rfl, rfl⟩)
 refine T.condF rfl c_150 ?_
 refine T.skip (tN ?_)
 refine T.seq ?_
 refine T.rL ?_
 refine mw rfl ?_
 refine sp rfl (OpT.nilCheck rfl (dk rfl) rfl rfl ?_)
 refine sp rfl (OpT.fieldPtr rfl (dk rfl) ul88 rfl i22 (by decide) rfl ?_)
 refine sp rfl (OpT.loadBox (i := 0) rfl (dk rfl) ul22 rfl rfl rfl rfl ?_)
 refine aw rfl ?_
 refine aw rfl ?_
 refine aw rfl ?_
 refine TL'.nil (tN ?_)
 refine T.ret ?_
 refine Fin.turn (Turn.view 2 1 rfl rfl) ?_
 exact Fin.done (.cons _ _ _ _ (.tmp 2 _ rfl) (.cons _ _ _ _ (.tmp 3 _ rfl) (.cons _ _ _ _ (.tmp 4 _ rfl) .nil))) (by cases h; exact ⟨rfl, rfl⟩)
theorem r4_Parse_T (K : Nat) {x0 : ByteArray} {r : (List aNd) × Int × Int} (h : r4_Parse K x0 = some r) : CallR Tryd.prog 25 [.str x0] [] (.tup [.sl false 9 (r.1.map c_aNd), .int .i64 r.2.1, .int .i64 r.2.2]) := by
 refine CallT.intro Tryd.func25 rfl (nb rfl) ?_
 show T Tryd.prog 46 (Code.at [] (codeOf Tryd.f25)) ⟨paramSlots 0 [.str x0], []⟩ (r4_Parse_q r)
 unfold r4_Parse at h
 refine T.seq ?_
 refine T.rL ?_
 refine aw rfl ?_
 refine aw rfl ?_
 refine aw rfl ?_
 refine TL'.nil (tN ?_)
 refine T.seq ?_
 refine T.seq ?_
 refine T.rL ?_
 refine mw rfl ?_
 refine sp rfl (OpT.lenStr rfl (dk rfl) ul9 rfl ?_)
 refine sp rfl (OpT.int2 rfl rfl (dk rfl) rfl rfl ?_)
 refine TL'.nil (tN ?_)
 rcases bif_some h with ⟨c_136, h⟩ | ⟨c_136, h⟩
 refine T.condT rfl c_136 ?_
 refine T.seq ?_
 refine T.rL ?_
 refine aw rfl ?_
 refine aw rfl ?_
 refine aw rfl ?_
 refine TL'.nil (tN ?_)
 refine T.ret (thenS_ret ?_)
 refine Fin.turn (Turn.nilSl 2 false 9 rfl) ?_
 exact Fin.done (.cons _ _ _ _ (.tmp 2 _ rfl) (.cons _ _ _ _ (.tmp 3 _ rfl) (.cons _ _ _ _ (.tmp 4 _ rfl) .nil))) (by cases h; exact ⟨rfl, rfl⟩)
 refine T.condF rfl c_136 ?_
 refine T.skip (tN ?_)
 refine T.seq ?_
 refine T.rL ?_
 refine mw rfl ?_
 refine sp rfl (OpT.build (l := [.str x0, .int .i64 (0 : Int), .ex (.slice none 0 0), .int .i64 (0 : Int), .int .i64 (0 : Int), .int .i64 (0 : Int)]) rfl (dk rfl) (built_struct (pl := [(0, 1), (1, 1), (2, 1), (3, 1), (4, 1), (5, 1)]) ul88 i88 rfl) (all1 rfl) rfl rfl ?_)
 refine sp rfl (OpT.boxAgg rfl (dk rfl) rfl (fun b_137 => ?_))
 refine aw rfl ?_
 refine TL'.nil (tN ?_)
 refine T.seq ?_
 refine T.rL ?_
 refine mw rfl ?_
 refine TL'.turn (Turn.nilA 42 9) ?_
 obtain ⟨v_138, e_139, h⟩ := bind_some h
 refine sp rfl (OpT.callG (is := [1, 0]) (ph := []) rfl (dk rfl) Tryd.func48 rfl rfl (Args.cons rfl Args.nil) (r4r_alternative_T K (bx0 := b_137) (wx0c2 := (nilv 10)) e_139) (.cons rfl rfl (.cons rfl rfl (.nil))) (fun _ => rfl) (fun γ_140 => ?_))
 refine nm (.c (.c (.n))) ?_
 refine TL'.nil (tN ?_)
 refine T.seq ?_
 refine T.seq ?_
 refine T.rL ?_
 refine mw rfl ?_
 obtain ⟨v_141, e_142, h⟩ := bind_some h
 refine sp rfl (OpT.callG (is := [1, 0]) (ph := []) rfl (dk rfl) Tryd.func49 rfl rfl (Args.cons rfl Args.nil) (r4r_ends_T K (bx0 := b_137) (wx0c2 := (γ_140 0)) e_142) (.cons rfl rfl (.cons rfl rfl (.nil))) (fun _ => rfl) (fun γ_143 => ?_))
 refine nm (.c (.c (.n))) ?_
 refine sp rfl (OpT.not rfl (dk rfl) rfl ?_)
 refine TL'.nil (tN ?_)
 rcases bif_some h with ⟨c_144, h⟩ | ⟨c_144, h⟩
 refine T.condT rfl c_144 ?_
 refine T.rL ?_
 refine mw rfl ?_
 refine mw rfl ?_
 refine sp rfl (OpT.nilCheck rfl (dk rfl) rfl rfl ?_)
 refine sp rfl (OpT.fieldPtr rfl (dk rfl) ul88 rfl i3 (by decide) rfl ?_)
 refine sp rfl (OpT.loadBox (i := 1) rfl (dk rfl) ul3 rfl rfl rfl rfl ?_)
 obtain ⟨v_145, e_146, h⟩ := bind_some h
 refine sp rfl (OpT.callG (is := [1, 0]) (ph := []) rfl (dk rfl) Tryd.func50 rfl rfl (Args.cons rfl (Args.cons rfl (Args.cons rfl Args.nil))) (r4r_fail_T K (bx0 := b_137) (wx0c2 := (γ_143 0)) e_146) (.cons rfl rfl (.cons rfl rfl (.nil))) (fun _ => rfl) (fun γ_147 => ?_))
 refine nm (.c (.c (.n))) ?_
 refine TL'.nil (tN ?_)
 refine T.by_turn ?_ (r4_Parse_j0_T K v_145.s v_145.at_ v_145.deep v_145.e v_145.where_ v_145.nodes b_137 (γ_147 0) h)
 exact Turn.rp (.cons rfl (.nil _)) (.c (.s .z) (.c .z (.n _)))
 refine T.condF rfl c_144 ?_
 refine T.skip (tN ?_)
 refine T.by_turn ?_ (r4_Parse_j0_T K v_138.2.s v_138.2.at_ v_138.2.deep v_138.2.e v_138.2.where_ v_138.2.nodes b_137 (γ_143 0) h)
 exact Turn.rp (.cons rfl (.nil _)) (.c (.s .z) (.c .z (.n _)))
abbrev sy_letter_q (r : Bool) : Exit → St → Prop := retS Tryd.prog Tryd.f73 (fun y t => y = (.bool r) ∧ t = [])
theorem sy_letter_T (K : Nat) {x0 : Int} {r : Bool} (h : sy_letter K x0 = some r) : CallR Tryd.prog 73 [.int .u8 x0] [] (.bool r) := by
 refine CallT.intro Tryd.func73 rfl (nb rfl) ?_
 show T Tryd.prog 21 (Code.at [] (codeOf Tryd.f73)) ⟨paramSlots 0 [.int .u8 x0], []⟩ (sy_letter_q r)
 unfold sy_letter at h
 refine T.seq ?_
 refine T.rL ?_
 refine aw rfl ?_
 refine TL'.nil (tN ?_)
 refine T.seq ?_
 refine T.rL ?_
 refine mw rfl ?_
 refine sp rfl (OpT.int2 rfl rfl (dk rfl) rfl rfl ?_)
 refine mw rfl ?_
 rcases bif_some h with ⟨c_25, h⟩ | ⟨c_25, h⟩
 refine TL'.step (.on rfl rfl rfl c_25) (OpT.move rfl (dk rfl) rfl ?_)
 refine TL'.step (.on rfl rfl rfl c_25) (OpT.int2 rfl rfl (dk rfl) rfl rfl ?_)
 refine sp rfl (OpT.pickT rfl (dk rfl) rfl c_25 rfl ?_)
 refine mw rfl ?_
 rcases bif_some h with ⟨c_26, h⟩ | ⟨c_26, h⟩
 refine TL'.passU (.off _ _ _ _ rfl rfl rfl c_26) (dk rfl) ?_
 refine TL'.passU (.off _ _ _ _ rfl rfl rfl c_26) (dk rfl) ?_
 refine TL'.passU (.off _ _ _ _ rfl rfl rfl c_26) (dk rfl) ?_
 refine TL'.passU (.gone _ _ _ rfl rfl rfl) (dk rfl) ?_
 refine TL'.passU (.gone _ _ _ rfl rfl rfl) (dk rfl) ?_
 refine TL'.passU (.off _ _ _ _ rfl rfl rfl c_26) (dk rfl) ?_
 refine sp rfl (OpT.pickT rfl (dk rfl) rfl c_26 rfl ?_)
 refine mw rfl ?_
 refine TL'.passU (.off _ _ _ _ rfl rfl rfl rfl) (dk rfl) ?_
 refine TL'.passU (.off _ _ _ _ rfl rfl rfl rfl) (dk rfl) ?_
 refine sp rfl (OpT.pickT rfl (dk rfl) rfl rfl rfl ?_)
 refine aw rfl ?_
 refine TL'.nil (tN ?_)
 refine T.ret ?_
 exact Fin.done (.cons _ _ _ _ (.tmp 2 _ rfl) .nil) (by cases h; exact ⟨rfl, rfl⟩)
 refine TL'.step (.on rfl rfl rfl c_26) (OpT.move rfl (dk rfl) rfl ?_)
 refine TL'.step (.on rfl rfl rfl c_26) (OpT.int2 rfl rfl (dk rfl) rfl rfl ?_)
 refine TL'.step (.on rfl rfl rfl c_26) (OpT.move rfl (dk rfl) rfl ?_)
 rcases bif_some h with ⟨c_27, h⟩ | ⟨c_27, h⟩
 refine TL'.step (.on rfl rfl rfl c_27) (OpT.move rfl (dk rfl) rfl ?_)
 refine TL'.step (.on rfl rfl rfl c_27) (OpT.int2 rfl rfl (dk rfl) rfl rfl ?_)
 refine TL'.step (.on rfl rfl rfl c_26) (OpT.pickT rfl (dk rfl) rfl c_27 rfl ?_)
 refine sp rfl (OpT.pickF rfl (dk rfl) rfl c_26 rfl ?_)
 refine mw rfl ?_
 rcases bif_some h with ⟨c_28, h⟩ | ⟨c_28, h⟩
 refine TL'.passU (.off _ _ _ _ rfl rfl rfl c_28) (dk rfl) ?_
 refine TL'.passU (.off _ _ _ _ rfl rfl rfl c_28) (dk rfl) ?_
 refine sp rfl (OpT.pickT rfl (dk rfl) rfl c_28 rfl ?_)
 refine aw rfl ?_
 refine TL'.nil (tN ?_)
 refine T.ret ?_
 exact Fin.done (.cons _ _ _ _ (.tmp 2 _ rfl) .nil) (by cases h; exact ⟨rfl, rfl⟩)
 refine TL'.step (.on rfl rfl rfl c_28) (OpT.move rfl (dk rfl) rfl ?_)
 refine TL'.step (.on rfl rfl rfl c_28) (OpT.int2 rfl rfl (dk rfl) rfl rfl ?_)
 refine sp rfl (OpT.pickF rfl (dk rfl) rfl c_28 rfl ?_)
 refine aw rfl ?_
 refine TL'.nil (tN ?_)
 refine T.ret ?_
 exact Fin.done (.cons _ _ _ _ (.tmp 2 _ rfl) .nil) (by cases h; exact ⟨rfl, rfl⟩)
 refine TL'.passU (.off _ _ _ _ rfl rfl rfl c_27) (dk rfl) ?_
 refine TL'.passU (.off _ _ _ _ rfl rfl rfl c_27) (dk rfl) ?_
 refine TL'.step (.on rfl rfl rfl c_26) (OpT.pickF rfl (dk rfl) rfl c_27 rfl ?_)
 refine sp rfl (OpT.pickF rfl (dk rfl) rfl c_26 rfl ?_)
 refine mw rfl ?_
 refine TL'.step (.on rfl rfl rfl rfl) (OpT.move rfl (dk rfl) rfl ?_)
 refine TL'.step (.on rfl rfl rfl rfl) (OpT.int2 rfl rfl (dk rfl) rfl rfl ?_)
 refine sp rfl (OpT.pickF rfl (dk rfl) rfl rfl rfl ?_)
 refine aw rfl ?_
 refine TL'.nil (tN ?_)
 refine T.ret ?_
 exact Fin.done (.cons _ _ _ _ (.tmp 2 _ rfl) .nil) (by cases h; exact ⟨rfl, rfl⟩)
 refine TL'.passU (.off _ _ _ _ rfl rfl rfl c_25) (dk rfl) ?_
 refine TL'.passU (.off _ _ _ _ rfl rfl rfl c_25) (dk rfl) ?_
 refine sp rfl (OpT.pickF rfl (dk rfl) rfl c_25 rfl ?_)
 refine mw rfl ?_
 refine TL'.step (.on rfl rfl rfl rfl) (OpT.move rfl (dk rfl) rfl ?_)
 refine TL'.step (.on rfl rfl rfl rfl) (OpT.int2 rfl rfl (dk rfl) rfl rfl ?_)
 refine TL'.step (.on rfl rfl rfl rfl) (OpT.move rfl (dk rfl) rfl ?_)
 rcases bif_some h with ⟨c_29, h⟩ | ⟨c_29, h⟩
 refine TL'.step (.on rfl rfl rfl c_29) (OpT.move rfl (dk rfl) rfl ?_)
 refine TL'.step (.on rfl rfl rfl c_29) (OpT.int2 rfl rfl (dk rfl) rfl rfl ?_)
 refine TL'.step (.on rfl rfl rfl rfl) (OpT.pickT rfl (dk rfl) rfl c_29 rfl ?_)
 refine sp rfl (OpT.pickF rfl (dk rfl) rfl rfl rfl ?_)
 refine mw rfl ?_
 rcases bif_some h with ⟨c_30, h⟩ | ⟨c_30, h⟩
 refine TL'.passU (.off _ _ _ _ rfl rfl rfl c_30) (dk rfl) ?_
 refine TL'.passU (.off _ _ _ _ rfl rfl rfl c_30) (dk rfl) ?_
 refine sp rfl (OpT.pickT rfl (dk rfl) rfl c_30 rfl ?_)
 refine aw rfl ?_
 refine TL'.nil (tN ?_)
 refine T.ret ?_
 exact Fin.done (.cons _ _ _ _ (.tmp 2 _ rfl) .nil) (by cases h; exact ⟨rfl, rfl⟩)
 refine TL'.step (.on rfl rfl rfl c_30) (OpT.move rfl (dk rfl) rfl ?_)
 refine TL'.step (.on rfl rfl rfl c_30) (OpT.int2 rfl rfl (dk rfl) rfl rfl ?_)
 refine sp rfl (OpT.pickF rfl (dk rfl) rfl c_30 rfl ?_)
 refine aw rfl ?_
 refine TL'.nil (tN ?_)
 refine T.ret ?_
 exact Fin.done (.cons _ _ _ _ (.tmp 2 _ rfl) .nil) (by cases h; exact ⟨rfl, rfl⟩)
 refine TL'.passU (.off _ _ _ _ rfl rfl rfl c_29) (dk rfl) ?_
 refine TL'.passU (.off _ _ _ _ rfl rfl rfl c_29) (dk rfl) ?_
 refine TL'.step (.on rfl rfl rfl rfl) (OpT.pickF rfl (dk rfl) rfl c_29 rfl ?_)
 refine sp rfl (OpT.pickF rfl (dk rfl) rfl rfl rfl ?_)
 refine mw rfl ?_
 refine TL'.step (.on rfl rfl rfl rfl) (OpT.move rfl (dk rfl) rfl ?_)
 refine TL'.step (.on rfl rfl rfl rfl) (OpT.int2 rfl rfl (dk rfl) rfl rfl ?_)
 refine sp rfl (OpT.pickF rfl (dk rfl) rfl rfl rfl ?_)
 refine aw rfl ?_
 refine TL'.nil (tN ?_)
 refine T.ret ?_
 exact Fin.done (.cons _ _ _ _ (.tmp 2 _ rfl) .nil) (by cases h; exact ⟨rfl, rfl⟩)
end Go.Rv
